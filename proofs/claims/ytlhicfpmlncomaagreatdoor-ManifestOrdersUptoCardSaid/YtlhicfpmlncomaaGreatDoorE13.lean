/-
 Layer 8: errors.As at the program's own kind of error, walked (after the worked example of errors.As at a concrete target).
 Layer 6, plain law: a fault has a number. No program is named here.
 Layer 8: the program's Parse, walked.
 Layer 8: answers that the document fixes.
 Layer 8: the laws' From, and parts of To: notes, descriptors and documents laid anew.
 Layer 8: descriptors laid anew.
 Layer 8: documents laid anew: the laws' From and To.
-/
import Derived.Test.YtlhicfpmlncomaaGreatDoorE12
import Derived.WalkKit
import Derived.LaidEql
import Derived.Stop.Asserts
import Derived.RowKitTokens
import Derived.Test.YtlhicfpmlncomaaGreatDoorE01
import Derived.Test.YtlhicfpmlncomaaGreatDoorE02
namespace Go.Proofs.YtlhicfpmlncomaaGreatDoor
open Go.RowKit Go.Extern.Stop Go.Stop Go.Extern
set_option linter.unusedSimpArgs false
set_option linter.unusedVariables false
theorem as_nil (t : Value) (w : World) :
  Calls Tryz.prog 32 #[.nilIface, t] w fun e w' => e = .returned (.bool false) ∧ w' = w := by
 go_enter Tryz.func32, Tryz.ntmps32
 go_wp2
 go_ret
 exact ⟨rfl, rfl⟩
theorem xvalueOfP (t : Addr) (w : World) : (ReflectliteValue.unpack (.iface 86 (.pointer (some t)))).run Tryz.prog w
  = .ok (.agg #[.pointer (some ⟨9, 86, none⟩), .pointer (some ⟨w.heap.size, 0, none⟩), .int .u64 150]) (w.alloc (.cells #[.pointer (some t)] 86)) := by kernel_rfl
theorem xtypeP (a : Addr) (w : World) : (ReflectliteValue.methodAny (ReflectliteValue.valueError "reflectlite.Value.Type" 0) (fun t _ _ _ => ReflectliteType.toType t) #[.agg #[.pointer (some ⟨9, 86, none⟩), .pointer (some a), .int .u64 150]]).run Tryz.prog w
  = .ok (.iface 177 (.agg #[.pointer (some ⟨9, 86, none⟩)])) w := by kernel_rfl
theorem xkindP (w : World) : ((ReflectliteType.abiMethod fun t => (fun a : Nat => Value.int IntKind.u8 (a : Int)) <$> Rtype.kind t) #[.pointer (some ⟨9, 86, none⟩)]).run Tryz.prog w = .ok (.int .u8 22) w := by kernel_rfl
theorem xkindE (w : World) : ((ReflectliteType.abiMethod fun t => (fun a : Nat => Value.int IntKind.u8 (a : Int)) <$> Rtype.kind t) #[.pointer (some ⟨9, 84, none⟩)]).run Tryz.prog w = .ok (.int .u8 25) w := by kernel_rfl
theorem xelemP (w : World) : (ReflectliteType.method ReflectliteType.elem #[.agg #[.pointer (some ⟨9, 86, none⟩)]]).run Tryz.prog w = .ok (.iface 177 (.agg #[.pointer (some ⟨9, 84, none⟩)])) w := by kernel_rfl
theorem ximplE (w : World) : (ReflectliteType.relation "Implements" ReflectliteType.implements_ #[.agg #[.pointer (some ⟨9, 84, none⟩)], .iface 177 (.agg #[.pointer (some ⟨9, 80, none⟩)])]).run Tryz.prog w = .ok (.bool true) w := by kernel_rfl
theorem xtypeOfE (v : Value) (w : World) : (ReflectliteType.typeOf #[.iface 84 v]).run Tryz.prog w = .ok (.iface 177 (.agg #[.pointer (some ⟨9, 84, none⟩)])) w := by kernel_rfl
theorem xassE (w : World) : (ReflectliteType.relation "AssignableTo" ReflectliteType.assignableTo #[.agg #[.pointer (some ⟨9, 84, none⟩)], .iface 177 (.agg #[.pointer (some ⟨9, 84, none⟩)])]).run Tryz.prog w = .ok (.bool true) w := by kernel_rfl
theorem xvalueOfE (e : Int) (w : World) : (ReflectliteValue.unpack (.iface 84 (.agg #[.int .i64 e]))).run Tryz.prog w
  = .ok (.agg #[.pointer (some ⟨9, 84, none⟩), .pointer (some ⟨w.heap.size, 0, none⟩), .int .u64 153]) (w.alloc (.cells #[.int .i64 e] 84)) := by kernel_rfl
theorem xelemOfP (w : World) : (Rtype.elem? 86).run Tryz.prog w = .ok (some 84) w := by kernel_rfl
theorem xmkE (p : Addr) (w : World) : (ReflectliteValue.mk 84 p ReflectliteValue.flagAddr).run Tryz.prog w = .ok (.agg #[.pointer (some ⟨9, 84, none⟩), .pointer (some p), .int .u64 409]) w := by kernel_rfl
theorem xpartsP (a : Addr) (w : World) : (ReflectliteValue.parts (.agg #[.pointer (some ⟨9, 86, none⟩), .pointer (some a), .int .u64 150])).run Tryz.prog w = .ok (some (86, a, 150)) w := by kernel_rfl
theorem xpartsEa (a : Addr) (w : World) : (ReflectliteValue.parts (.agg #[.pointer (some ⟨9, 84, none⟩), .pointer (some a), .int .u64 409])).run Tryz.prog w = .ok (some (84, a, 409)) w := by kernel_rfl
theorem xpartsE (a : Addr) (w : World) : (ReflectliteValue.parts (.agg #[.pointer (some ⟨9, 84, none⟩), .pointer (some a), .int .u64 153])).run Tryz.prog w = .ok (some (84, a, 153)) w := by kernel_rfl
theorem xdirE (w : World) : (Rtype.directlyAssignable 84 84).run Tryz.prog w = .ok true w := by kernel_rfl
theorem xsizeE (w : World) : (sizeOf 84).run Tryz.prog w = .ok 1 w := by kernel_rfl
theorem rlm_ (z : Sem Value) (f : TypeId → Addr → Nat → Nat → Sem Value) (v : Value) :
  ReflectliteValue.method z f #[v] = (do match ← ReflectliteValue.parts v with | none => z | some (t, a, fl) => f t a fl (fl % 32)) := rfl
/-- (Value).IsNil at the Value of a pointer that is not nil. -/
theorem xisNilP (a p : Addr) (W : World) (ha : W.cell? a = some (.pointer (some p))) :
  (ReflectliteValue.method (ReflectliteValue.valueError "reflectlite.Value.IsNil" 0) ReflectliteValue.isNil #[.agg #[.pointer (some ⟨9, 86, none⟩), .pointer (some a), .int .u64 150]]).run Tryz.prog W = .ok (.bool false) W := by
 rw [rlm_]
 simp only [Sem.run_bind, xpartsP, Result.andThen]
 simp [ReflectliteValue.isNil, loadVar, isAgg, underlying, Tryz.underlying86, ha, Result.andThen]
theorem xmElem (h : Value) (w : World) (n : Nat) : (Go.method (n + 1) 177 (.agg #[h]) "Elem").run Tryz.prog w = .ok (196, .agg #[h]) w := by kernel_rfl
theorem xmImpl (h : Value) (w : World) (n : Nat) : (Go.method (n + 1) 177 (.agg #[h]) "Implements").run Tryz.prog w = .ok (197, .agg #[h]) w := by kernel_rfl
theorem xmAss (h : Value) (w : World) (n : Nat) : (Go.method (n + 1) 177 (.agg #[h]) "AssignableTo").run Tryz.prog w = .ok (194, .agg #[h]) w := by kernel_rfl
theorem xmKind (h : Value) (w : World) (n : Nat) : (Go.method (n + 1) 177 (.agg #[h]) "Kind").run Tryz.prog w = .ok (185, h) w := by kernel_rfl
/-- (Value).Elem at that Value: the Value of the variable that it points to, addressable. -/
theorem xelemVP (a p : Addr) (W : World) (ha : W.cell? a = some (.pointer (some p))) :
  (ReflectliteValue.method (ReflectliteValue.valueError "reflectlite.Value.Elem" 0) ReflectliteValue.elem #[.agg #[.pointer (some ⟨9, 86, none⟩), .pointer (some a), .int .u64 150]]).run Tryz.prog W
   = .ok (.agg #[.pointer (some ⟨9, 84, none⟩), .pointer (some p), .int .u64 409]) W := by
 rw [rlm_]
 simp only [Sem.run_bind, xpartsP, Result.andThen]
 simp [ReflectliteValue.elem, loadVar, isAgg, underlying, Tryz.underlying86, ha, Result.andThen, xelemOfP, xmkE]
theorem rls_ (v x : Value) : ReflectliteValue.set #[v, x] = (do
  let (some (dst, a, fl), some (src, b, _)) := (← ReflectliteValue.parts v, ← ReflectliteValue.parts x)
   | unsupported (.noEntry "extern/(internal/reflectlite.Value).Set.zeroValue")
  if fl / ReflectliteValue.flagAddr % 2 == 0 then unsupported (.noEntry "extern/(internal/reflectlite.Value).Set.unaddressable")
  let val ← loadVar src b
  if ← Rtype.directlyAssignable dst src then storeVar dst a val
  else if ← Rtype.implements dst src then
   if (← Rtype.kind src) == 20 then
    match val with
    | .nilIface => unsupported (.noEntry "extern/reflectlite: a nil value of one interface type handed on as a value of another")
    | _ => storeVar dst a val
   else storeVar dst a (.iface src val)
  else panicString ("reflectlite.Set: value of type " ++ (← Rtype.spelt src) ++ " is not assignable to type " ++ (← Rtype.spelt dst))
  pure (.tuple #[])) := rfl
/-- (Value).Set: the variable gets what the Value's own variable holds. -/
theorem xset {X : List Nat} {w0 W : World} {es : List Ent} (hF : Fr X w0 W es) {i j gt gb : Nat} {old : Value} {e : Int} (hi : es[i]? = some (.blk gt 84 [old])) (hj : es[j]? = some (.blk gb 84 [.int .i64 e])) :
  ∃ W2, (ReflectliteValue.set #[.agg #[.pointer (some ⟨9, 84, none⟩), .pointer (some ⟨gt, 0, none⟩), .int .u64 409], .agg #[.pointer (some ⟨9, 84, none⟩), .pointer (some ⟨gb, 0, none⟩), .int .u64 153]]).run Tryz.prog W = .ok (.tuple #[]) W2 ∧ Fr X w0 W2 (es.set i (.blk gt 84 [.int .i64 e])) := by
 have hld := run_loadF (P := Tryz.prog) hF hj Tryz.underlying84 rfl (by kernel_rfl)
 obtain ⟨hr, hF'⟩ := run_storeF (P := Tryz.prog) hF hi (off := 0) (ds := [.int .i64 e]) (by simp) (by simp; rfl)
 refine ⟨_, ?_, hF'⟩
 rw [rls_]
 simp only [Sem.run_bind, xpartsEa, xpartsE, Result.andThen]
 simp [ReflectliteValue.flagAddr, hld, Result.andThen, xdirE, storeVar, xsizeE, Value.cells, hr]
set_option maxRecDepth 20000 in
set_option maxHeartbeats 4000000 in
theorem xas_hit {X : List Nat} {w0 w : World} {es : List Ent} (hF : Fr X w0 w es) {i gt : Nat} {old : Value} (e : Int) (hi : es[i]? = some (.blk gt 84 [old])) (hg : w.cell? ⟨0, 0, none⟩ = some (.iface 177 (.agg #[.pointer (some ⟨9, 80, none⟩)]))) :
  Calls Tryz.prog 32 #[.iface 84 (.agg #[.int .i64 e]), .iface 86 (.pointer (some ⟨gt, 0, none⟩))] w fun ev w' => ev = .returned (.bool true) ∧ Fr X w0 w' (es.set i (.blk gt 84 [.int .i64 e])) := by
 have hF1 := hF.alloc 86 [.pointer (some ⟨gt, 0, none⟩)]
 have hF2 := hF1.alloc 135 [.pointer (some ⟨9, 86, none⟩), .pointer (some ⟨w.heap.size, 0, none⟩), .int .u64 150]
 have hF3 := hF2.alloc 135 [.pointer (some ⟨9, 86, none⟩), .pointer (some ⟨w.heap.size, 0, none⟩), .int .u64 150]
 have hF4 := hF3.alloc 84 [.int .i64 e]
 obtain ⟨W2, st, hF5⟩ := xset hF4 (i := i + 4) (j := 0) hi rfl
 have hsz : (((w.alloc (.cells ([.pointer (some ⟨gt, 0, none⟩)] : List Value).toArray 86)).alloc (.cells ([.pointer (some ⟨9, 86, none⟩), .pointer (some ⟨w.heap.size, 0, none⟩), .int .u64 150] : List Value).toArray 135)).alloc (.cells ([.pointer (some ⟨9, 86, none⟩), .pointer (some ⟨w.heap.size, 0, none⟩), .int .u64 150] : List Value).toArray 135)).heap.size = w.heap.size + 1 + 1 + 1 := by simp
 rw [hsz] at st
 have hF6 : Fr X w0 W2 (es.set i (.blk gt 84 [.int .i64 e])) := hF5.tail.tail.tail.tail
 have h67 := @run_callFunc_extern Tryz.prog 67 _ (fun args => ReflectliteValue.unpack (args.getD 0 (.tuple #[]))) Tryz.func67 (by kernel_rfl) (by kernel_rfl) (by kernel_rfl) (by kernel_rfl)
 have h68 := @run_callFunc_extern Tryz.prog 68 _ (ReflectliteValue.methodAny (ReflectliteValue.valueError "reflectlite.Value.Type" 0) (fun t _ _ _ => ReflectliteType.toType t)) Tryz.func68 (by kernel_rfl) (by kernel_rfl) (by kernel_rfl) (by kernel_rfl)
 have h69 := @run_callFunc_extern Tryz.prog 69 _ (ReflectliteValue.method (ReflectliteValue.valueError "reflectlite.Value.IsNil" 0) ReflectliteValue.isNil) Tryz.func69 (by kernel_rfl) (by kernel_rfl) (by kernel_rfl) (by kernel_rfl)
 have h185 := @run_callFunc_extern Tryz.prog 185 _ (ReflectliteType.abiMethod fun t => do pure (.int .u8 (← Rtype.kind t))) Tryz.func185 (by kernel_rfl) (by kernel_rfl) (by kernel_rfl) (by kernel_rfl)
 have h196 := @run_callFunc_extern Tryz.prog 196 _ (ReflectliteType.method ReflectliteType.elem) Tryz.func196 (by kernel_rfl) (by kernel_rfl) (by kernel_rfl) (by kernel_rfl)
 have h197 := @run_callFunc_extern Tryz.prog 197 _ (ReflectliteType.relation "Implements" ReflectliteType.implements_) Tryz.func197 (by kernel_rfl) (by kernel_rfl) (by kernel_rfl) (by kernel_rfl)
 have h95 := @run_callFunc_extern Tryz.prog 95 _ (ReflectliteType.typeOf) Tryz.func95 (by kernel_rfl) (by kernel_rfl) (by kernel_rfl) (by kernel_rfl)
 have h194 := @run_callFunc_extern Tryz.prog 194 _ (ReflectliteType.relation "AssignableTo" ReflectliteType.assignableTo) Tryz.func194 (by kernel_rfl) (by kernel_rfl) (by kernel_rfl) (by kernel_rfl)
 have h96 := @run_callFunc_extern Tryz.prog 96 _ (ReflectliteValue.method (ReflectliteValue.valueError "reflectlite.Value.Elem" 0) ReflectliteValue.elem) Tryz.func96 (by kernel_rfl) (by kernel_rfl) (by kernel_rfl) (by kernel_rfl)
 have h97 := @run_callFunc_extern Tryz.prog 97 _ (ReflectliteValue.set) Tryz.func97 (by kernel_rfl) (by kernel_rfl) (by kernel_rfl) (by kernel_rfl)
 have tO := xtypeOfE
 have mA := xmAss
 have aE := xassE
 have vE := xvalueOfE
 have fP := xvalueOfP
 have tP := xtypeP
 have mK := xmKind
 have mE := xmElem
 have mI := xmImpl
 have kP := xkindP
 have kE := xkindE
 have eP := xelemP
 have iE := ximplE
 have hlt : 0 < w.heap.size := by
  rcases Nat.eq_zero_or_pos w.heap.size with h0 | h
  ·simp [World.cell?, h0] at hg
  ·exact h
 have n8 := xisNilP ⟨w.heap.size, 0, none⟩ ⟨gt, 0, none⟩ ((w.alloc (.cells #[.pointer (some ⟨gt, 0, none⟩)] 86)).alloc (.cells #[.pointer (some ⟨9, 86, none⟩), .pointer (some ⟨w.heap.size, 0, none⟩), .int .u64 150] 135)) (by simp)
 have hg2 : ((w.alloc (.cells #[.pointer (some ⟨gt, 0, none⟩)] 86)).alloc (.cells #[.pointer (some ⟨9, 86, none⟩), .pointer (some ⟨w.heap.size, 0, none⟩), .int .u64 150] 135)).cell? ⟨0, 0, none⟩ = some (.iface 177 (.agg #[.pointer (some ⟨9, 80, none⟩)])) := by
  rw [World.cell?_alloc_lt _ _ ⟨0, 0, none⟩ (by simp), World.cell?_alloc_lt _ _ ⟨0, 0, none⟩ hlt]; exact hg
 have el := xelemVP ⟨w.heap.size, 0, none⟩ ⟨gt, 0, none⟩ (((w.alloc (.cells #[.pointer (some ⟨gt, 0, none⟩)] 86)).alloc (.cells #[.pointer (some ⟨9, 86, none⟩), .pointer (some ⟨w.heap.size, 0, none⟩), .int .u64 150] 135)).alloc (.cells #[.pointer (some ⟨9, 86, none⟩), .pointer (some ⟨w.heap.size, 0, none⟩), .int .u64 150] 135)) (by rw [World.cell?_alloc_lt _ _ ⟨w.heap.size, 0, none⟩ (by simp; omega)]; simp)
 clear hF hF1 hF2 hF3 hF4 hF5
 replace hF6 := box hF6
 go_enter Tryz.func32, Tryz.ntmps32
 go_wp2
 refine wp_loop_rounds 1 ?_
 rw [rounds_succ]
 go_wp2
 go_ret
 exact ⟨rfl, hF6.out⟩
end Go.Proofs.YtlhicfpmlncomaaGreatDoor

namespace Go.Proofs.YtlhicfpmlncomaaGreatDoor
set_option linter.unusedSimpArgs false
set_option linter.unusedVariables false
/-- A fault has a number. -/
def JEr {α : Type} (r : JR α) : Prop := ∀ x, r = .error x → x.2 ≠ 0
theorem JEr.ok {α : Type} {v : α} : JEr (.ok v) := fun _ h => by cases h
theorem JEr.err {α : Type} {p e : Nat} (h : e ≠ 0) : JEr (.error (p, e) : JR α) := fun _ h' => by injection h' with h'; subst h'; exact h
theorem JEr.up {α β : Type} {r : JR α} {x : Nat × Nat} (h : JEr r) (hx : r = .error x) : JEr (.error x : JR β) := fun y h' => by injection h' with h'; subst h'; exact h _ hx
theorem jNext_er (b : List UInt8) (p : Nat) : JEr (jNext b p) := by
 unfold jNext
 split
 ·exact .err (by decide)
 ·exact .ok
theorem jWord_er (b : List UInt8) : ∀ (w : List UInt8) (p : Nat), JEr (jWord b w p)
 | [], p => .ok
 | c :: w, p => by
  rw [jWord]
  split
  ·exact .err (by decide)
  ·split
   ·exact jWord_er b w _
   ·exact .err (by decide)
theorem jNumber_er (b : List UInt8) (p : Nat) : JEr (jNumber b p) := by
 unfold jNumber
 simp only []
 split
 ·exact .err (by decide)
 ·exact .ok
theorem jUnit_er (b : List UInt8) (s : Nat) : ∀ (k n p : Nat), JEr (jUnit b s k n p)
 | 0, _, _ => .ok
 | k + 1, n, p => by
  rw [jUnit]
  split
  ·exact .err (by decide)
  ·split
   ·exact .err (by decide)
   ·exact jUnit_er b s k _ _
theorem jEscape_er (b : List UInt8) (p : Nat) : JEr (jEscape b p) := by
 unfold jEscape
 split
 ·exact .err (by decide)
 rename_i c _
 by_cases h1 : c = 34 ∨ c = 92 ∨ c = 47
 ·rw [if_pos h1]; exact .ok
 rw [if_neg h1]
 by_cases h2 : c = 98
 ·rw [if_pos h2]; exact .ok
 rw [if_neg h2]
 by_cases h2 : c = 102
 ·rw [if_pos h2]; exact .ok
 rw [if_neg h2]
 by_cases h2 : c = 110
 ·rw [if_pos h2]; exact .ok
 rw [if_neg h2]
 by_cases h2 : c = 114
 ·rw [if_pos h2]; exact .ok
 rw [if_neg h2]
 by_cases h2 : c = 116
 ·rw [if_pos h2]; exact .ok
 rw [if_neg h2]
 by_cases h2 : c = 117
 ·rw [if_pos h2]
  split
  ·rename_i h; exact (jUnit_er _ _ _ _ _).up h
  split
  ·split
   ·exact .err (by decide)
   split
   ·exact .err (by decide)
   split
   ·exact .err (by decide)
   split
   ·exact .err (by decide)
   split
   ·rename_i h; exact (jUnit_er _ _ _ _ _).up h
   split
   ·exact .ok
   ·exact .err (by decide)
  ·split
   ·exact .err (by decide)
   ·exact .ok
 ·rw [if_neg h2]; exact .err (by decide)
theorem jTextL_er (b : List UInt8) : ∀ (f p : Nat) (out : List UInt8), JEr (jTextL b f p out)
 | 0, _, _ => .err (by decide)
 | f + 1, p, out => by
  rw [jTextL]
  repeat' split
  all_goals first
   | exact .ok
   | exact .err (by decide)
   | exact (jEscape_er _ _).up (by assumption)
   | exact jTextL_er b f _ _
theorem jText_er (b : List UInt8) (p : Nat) : JEr (jText b p) := by
 unfold jText
 split
 ·exact (jWord_er _ _ _).up (by assumption)
 ·exact jTextL_er _ _ _ _
theorem jName_er (b : List UInt8) (ns : List (List UInt8)) (p : Nat) : JEr (jName b ns p) := by
 unfold jName
 repeat' split
 all_goals first
  | exact .ok
  | exact .err (by decide)
  | exact (jText_er _ _).up (by assumption)
  | exact (jWord_er _ _ _).up (by assumption)
theorem jManyL_er (b : List UInt8) (kind : Int) (fin : UInt8) {val : Nat → Nat → JR (JV × Nat × Nat)} (hv : ∀ p m, JEr (val p m)) : ∀ (f p m : Nat) (ns : List (List UInt8)) (ks : List JV), JEr (jManyL b kind fin val f p m ns ks)
 | 0, _, _, _, _ => .err (by decide)
 | f + 1, p, m, ns, ks => by
  rw [jManyL]
  have hn : JEr (if kind = 6 then jName b ns p else .ok ([], p)) := by
   split
   ·exact jName_er _ _ _
   ·exact .ok
  split
  ·exact hn.up (by assumption)
  split
  ·exact (hv _ _).up (by assumption)
  split
  ·exact (jNext_er _ _).up (by assumption)
  split
  ·exact .ok
  split
  ·exact (jWord_er _ _ _).up (by assumption)
  ·exact jManyL_er b kind fin hv f _ _ _ _
theorem jMany_er (b : List UInt8) (kind : Int) (fin : UInt8) {val : Option (Nat → Nat → JR (JV × Nat × Nat))} (hv : ∀ f, val = some f → ∀ p m, JEr (f p m)) (p m : Nat) : JEr (jMany b kind fin val p m) := by
 unfold jMany
 split
 ·exact .err (by decide)
 ·split
  ·exact (jNext_er _ _).up (by assumption)
  ·split
   ·exact .ok
   ·exact jManyL_er b kind fin (hv _ rfl) _ _ _ _ _
theorem jLit_er (b w : List UInt8) (v : JV) (p m : Nat) : JEr (jLit b w v p m) := by
 unfold jLit
 split
 ·exact (jWord_er _ _ _).up (by assumption)
 ·exact .ok
theorem jValueW_er (b : List UInt8) {val : Option (Nat → Nat → JR (JV × Nat × Nat))} (hv : ∀ f, val = some f → ∀ p m, JEr (f p m)) (p m : Nat) : JEr (jValueW b val p m) := by
 unfold jValueW
 split
 ·exact .err (by decide)
 repeat' split
 all_goals first
  | exact .ok
  | exact .err (by decide)
  | exact jLit_er _ _ _ _ _
  | exact (jNumber_er _ _).up (by assumption)
  | exact (jText_er _ _).up (by assumption)
  | exact jMany_er _ _ _ hv _ _
theorem jValue_er (b : List UInt8) : ∀ (d p m : Nat), JEr (jValue b d p m)
 | 0, p, m => by rw [jValue]; exact jValueW_er b (fun f h => by cases h) p m
 | d + 1, p, m => by rw [jValue]; exact jValueW_er b (fun f h => by injection h with h; subst h; exact jValue_er b d) p m
theorem jParse_er (b : List UInt8) : JEr (jParse b) := by
 unfold jParse
 split
 ·exact .err (by decide)
 ·split
  ·exact (jValue_er _ _ _ _).up (by assumption)
  ·split
   ·exact .err (by decide)
   ·exact .ok
end Go.Proofs.YtlhicfpmlncomaaGreatDoor

namespace Go.Proofs.YtlhicfpmlncomaaGreatDoor
open Go.RowKit
set_option linter.unusedSimpArgs false
set_option linter.unusedVariables false
theorem MaxAt.up {B B' : Nat} {w : World} (h : MaxAt B w) (hb : B ≤ B') : MaxAt B' w := fun w' h2 => h w' (h2.mono hb)
/-- The library's variable errorType holds what it was laid with. -/
def ErrAt (B : Nat) (w : World) : Prop := ∀ w', Below B w w' → w'.cell? ⟨0, 0, none⟩ = some (.iface 177 (.agg #[.pointer (some ⟨9, 80, none⟩)]))
theorem ErrAt.on {B : Nat} {w w' : World} (h : ErrAt B w) (hb : Below B w w') : ErrAt B w' := fun w'' h2 => h w'' (hb.trans h2)
theorem ErrAt.up {B B' : Nat} {w : World} (h : ErrAt B w) (hb : B ≤ B') : ErrAt B' w := fun w' h2 => h w' (h2.mono hb)
/-- What the library's variables hold. -/
structure MLibs (B : Nat) (w : World) : Prop where
 j : LibsAt B w
 m : MaxAt B w
 e : ErrAt B w
theorem MLibs.on {B : Nat} {w w' : World} (h : MLibs B w) (hb : Below B w w') : MLibs B w' := ⟨h.j.on hb, h.m.on hb, h.e.on hb⟩
theorem MLibs.up {B B' : Nat} {w : World} (h : MLibs B w) (hb : B ≤ B') : MLibs B' w := ⟨h.j.up hb, h.m.up hb, h.e.up hb⟩
theorem VT.rdS {v : JV} {cs : List Value} {es' es : List Ent} {X : List Nat} {w0 w : World} (h : VT v cs es') (hF : Fr X w0 w es) (hs : ∀ e ∈ es', e ∈ es) : VRd w (· < w.heap.size) v cs :=
 VT.rd v h fun e he => by
  obtain ⟨i, hi⟩ := List.mem_iff_getElem?.1 (hs e he)
  exact ⟨hF.holds i e hi, fun b hb => Ent.lt (hF.holds i e hi) hb⟩
def mCode {α : Type} (r : MR α) : Nat := match r with
 | .ok _ => 0
 | .error e => e
/-- What Parse tells. -/
def MPs (w : World) (r : MR MDoc) (e : Ending) (w' : World) : Prop := ∃ cs es, e = .returned (.tuple #[.agg cs.toArray, .int .i64 (mCode r : Int)]) ∧ VDoc (mDc r) cs es ∧ Fr [] w w' es
set_option maxRecDepth 20000 in
set_option maxHeartbeats 6400000 in
theorem mparse_any (A : Option Addr) (n c : Nat) (b : List UInt8) (w : World) (hL : MLibs w.heap.size w) (hnc : n ≤ c) (hn47 : n ≤ 140737488355328) (hr : Rd w (· < w.heap.size) A 1 n (b.map bv)) :
  Calls Tryz.prog 11 #[.slice A n c] w (MPs w (mParse b)) := by
 have hF0 := Fr.nil w
 have hJ : mParse b = match jParse b with
  | .ok v => mRead v
  | .error x => .error x.2 := rfl
 have hpa := box (fun w' (es : List Ent) (hF : Fr [] w w' es) => parse_F hF (hL.j.on hF.below) hF.below.size hnc hn47 (hr.on hF.below))
 replace hn47 := box hn47
 cases hj : jParse b with
 | error x =>
  have hx2 := jParse_er b x hj
  rw [hj] at hJ
  simp only [] at hJ
  have hq : ((x.2 : Int) != 0) = true := by rw [bne_iff_ne]; omega
  have hpa' := hpa.out
  unfold ParseEndF at hpa'
  rw [hj] at hpa'
  simp only [] at hpa'
  replace hpa' := box hpa'
  replace hJ := box hJ
  clear hpa hj hx2
  go_enter Tryz.func11, Tryz.ntmps11
  go_wp2_with (first | ((with_reducible refine lst (by with_unfolding_all rfl) (wp_falloc hF0 (cs := doc0) (z := .agg (List.toArray (doc0))) rfl (by kernel_rfl) (by with_unfolding_all rfl) ?_)); intro w1 g1 hF1 hz1))
  refine (hpa'.out _ _ hF1).mono ?_
  rintro e w2 ⟨rfl, hF2⟩
  clear hpa'
  go_wp2_with (first | ((with_reducible refine lst (by with_unfolding_all rfl) (wp_falloc hF2 (cs := vl0) (z := .agg (List.toArray (vl0))) rfl (by kernel_rfl) (by with_unfolding_all rfl) ?_)); intro w3 g3 hF3 hz3) | ((with_reducible refine lst (by with_unfolding_all rfl) (wp_fstA0 hF3 (by with_unfolding_all exact ⟨_, _, rfl, rfl, rfl⟩) (by rw [vlL_len]; kernel_rfl) vlL_one vlL_fit vlL_spl ?_)); intro w4 hF4 hz4) | (with_reducible refine lst (by with_unfolding_all rfl) (wp_fbuild Tryz.underlying31 (z := .agg (List.toArray doc0)) (by kernel_rfl) (pl := docP) (by kernel_rfl) (cs := doc0) rfl (vs := []) (by with_unfolding_all rfl) (by with_unfolding_all rfl) ?_)) | ((with_reducible refine lst (by with_unfolding_all rfl) (wp_fstA1 hF4 (by with_unfolding_all exact ⟨_, _, rfl, rfl, rfl⟩) (by rw [doc0_len]; kernel_rfl) doc0_one (Nat.le_of_eq (Nat.zero_add _)) (spl_all rfl) ?_)); intro w5 hF5 hz5))
  exact bodyPost_ret (results_cellF2 rfl _ hF5 (i := 1) rfl rfl Tryz.underlying31 rfl (by rw [doc0_len]; kernel_rfl)) rfl (by
   unfold MPs
   rw [hJ.out]
   exact ⟨_, _, rfl, VDoc.zero, hF5⟩)
 | ok v =>
  rw [hj] at hJ
  simp only [] at hJ
  have hob := jParse_ob hj
  have hpa' := hpa.out
  unfold ParseEndF at hpa'
  rw [hj] at hpa'
  simp only [] at hpa'
  replace hpa' := box hpa'
  clear hpa hj
  obtain ⟨R, hR⟩ : ∃ R, R = mRead v := ⟨_, rfl⟩
  rw [← hR] at hJ
  replace hJ := box hJ
  go_enter Tryz.func11, Tryz.ntmps11
  go_wp2_with (first | ((with_reducible refine lst (by with_unfolding_all rfl) (wp_falloc hF0 (cs := doc0) (z := .agg (List.toArray (doc0))) rfl (by kernel_rfl) (by with_unfolding_all rfl) ?_)); intro w1 g1 hF1 hz1))
  refine (hpa'.out _ _ hF1).mono ?_
  rintro e w2 ⟨cs, es, rfl, hvt, hF2'⟩
  have hF2 := hF2'.perm (es' := .blk g1 31 doc0 :: es) List.perm_append_comm
  have hvl := box hvt.len
  have hvo := box hvt.one
  replace hvt := box hvt
  clear hpa' hF2'
  go_wp2_with (first | ((with_reducible refine lst (by with_unfolding_all rfl) (wp_falloc hF2 (cs := vl0) (z := .agg (List.toArray (vl0))) rfl (by kernel_rfl) (by with_unfolding_all rfl) ?_)); intro w3 g3 hF3 hz3) | ((with_reducible refine lst (by with_unfolding_all rfl) (wp_fstA0 hF3 (by with_unfolding_all exact ⟨_, _, rfl, rfl, rfl⟩) (by rw [hvl.out]; kernel_rfl) hvo.out (by rw [hvl.out]; decide) (spl_all (by rw [hvl.out, vlL_len])) ?_)); intro w4 hF4 hz4) | (with_reducible refine lst (by with_unfolding_all rfl) (wp_fldA0 hF4 Tryz.underlying76 rfl (by with_unfolding_all exact ⟨_, rfl, rfl⟩) (ds := cs) (by rw [hvl.out]; kernel_rfl) (take_all _) ?_)))
  have hrd := mread_any v cs w4 ((hL.on hF4.below).up hF4.below.size).m (hvt.out.rdS hF4 (by intro e he; simp [he])) hob
  rw [← hR] at hrd
  replace hrd := box hrd
  clear hR hob
  refine hrd.out.mono ?_
  rintro e w5 ⟨cd, ed, rfl, hD, h5⟩
  have hF5 := hF4.joinR h5
  simp only [List.cons_append] at hF5
  have hdl := box hD.len
  have hdo := box hD.ones
  clear hrd h5
  cases R with
  | ok d =>
   simp only [mErr]
   replace hD := box hD
   go_wp2_with (first | ((with_reducible refine lst (by with_unfolding_all rfl) (wp_falloc hF5 (cs := doc0) (z := .agg (List.toArray (doc0))) rfl (by kernel_rfl) (by with_unfolding_all rfl) ?_)); intro w6 g6 hF6 hz6) | ((with_reducible refine lst (by with_unfolding_all rfl) (wp_fstA0 hF6 (by with_unfolding_all exact ⟨_, _, rfl, rfl, rfl⟩) (by rw [hdl.out]; kernel_rfl) hdo.out (by rw [hdl.out, doc0_len]; decide) (spl_all (by rw [hdl.out, doc0_len])) ?_)); intro w7 hF7 hz7) | ((with_reducible refine lst (by with_unfolding_all rfl) (wp_falloc hF7 (cs := [.int .i64 0]) (z := .agg (List.toArray ([.int .i64 0]))) rfl (by kernel_rfl) (by with_unfolding_all rfl) ?_)); intro w8 g8 hF8 hz8))
   refine (as_nil _ _).mono ?_
   rintro e w9 ⟨rfl, rfl⟩
   go_wp2_with (first | (with_reducible refine lst (by with_unfolding_all rfl) (wp_fldA1 hF8 Tryz.underlying31 rfl (by with_unfolding_all exact ⟨_, rfl, rfl⟩) (ds := cd) (by rw [hdl.out]; kernel_rfl) (take_all _) ?_)) | ((with_reducible refine lst (by with_unfolding_all rfl) (wp_fstA3 hF8 (by with_unfolding_all exact ⟨_, _, rfl, rfl, rfl⟩) (by rw [hdl.out]; kernel_rfl) hdo.out (by rw [hdl.out, doc0_len]; decide) (spl_all (by rw [hdl.out, doc0_len])) ?_)); intro w10 hF10 hz10))
   exact bodyPost_ret (results_cellF2 rfl _ hF10 (i := 3) rfl rfl Tryz.underlying31 rfl (by rw [hdl.out]; kernel_rfl)) rfl (by
    unfold MPs
    rw [hJ.out]
    exact ⟨_, _, rfl, hD.out.mono (fun _ h => by simp [h]), hF10⟩)
  | error ee =>
   simp only [mErr]
   clear hD
   go_wp2_with (first | ((with_reducible refine lst (by with_unfolding_all rfl) (wp_falloc hF5 (cs := doc0) (z := .agg (List.toArray (doc0))) rfl (by kernel_rfl) (by with_unfolding_all rfl) ?_)); intro w6 g6 hF6 hz6) | ((with_reducible refine lst (by with_unfolding_all rfl) (wp_fstA0 hF6 (by with_unfolding_all exact ⟨_, _, rfl, rfl, rfl⟩) (by rw [hdl.out]; kernel_rfl) hdo.out (by rw [hdl.out, doc0_len]; decide) (spl_all (by rw [hdl.out, doc0_len])) ?_)); intro w7 hF7 hz7) | ((with_reducible refine lst (by with_unfolding_all rfl) (wp_falloc hF7 (cs := [.int .i64 0]) (z := .agg (List.toArray ([.int .i64 0]))) rfl (by kernel_rfl) (by with_unfolding_all rfl) ?_)); intro w8 g8 hF8 hz8))
   have hE := hL.e _ hF8.below
   refine (xas_hit hF8 (i := 0) (ee : Int) rfl hE).mono ?_
   rintro e w9 ⟨rfl, hF9⟩
   simp only [List.set_cons_zero] at hF9
   clear hE
   go_upto_region 7 with (fail)
   have hFd := hF9.drew
   clear hF9 hF8 hF7 hF6 hF5
   refine wp_region_held (S := fun w' => w'.heap[g8]? = some (.cells (List.toArray [.int .i64 (ee : Int)]) 84 (0, 0))) (by kernel_rfl) ?_
   change wpAnyH _ _ _ _ _ _ _ _ (World.drew _)
   refine tkp 0 (hFd.blk (i := 0) rfl) ?_
   (try simp only [Act.put, List.setIfInBounds_toArray, List.set_cons_zero, List.set_cons_succ])
   refine tkp 1 (hFd.blk (i := 0) rfl) ?_
   (try simp only [Act.put, List.setIfInBounds_toArray, List.set_cons_zero, List.set_cons_succ])
   refine tky 2 (y := yi_fld (by with_unfolding_all rfl) (fun _ h => h) Tryz.underlying32 rfl (by with_unfolding_all exact ⟨_, rfl, rfl⟩) rfl) (s := (hFd.blk (i := 0) rfl)) (h := ?_)
   (try simp only [Act.put, List.setIfInBounds_toArray, List.set_cons_zero, List.set_cons_succ])
   refine rdy1 3 (fun K hK => ?_)
   refine stp (by with_unfolding_all rfl) (wp_fstA hFd (i := 3) rfl (ds := doc0) (by with_unfolding_all exact ⟨_, _, rfl, rfl, rfl⟩) (by rw [doc0_len]; kernel_rfl) doc0_one (Nat.le_of_eq (Nat.zero_add _)) ?_)
   intro w31 hF31 hz31
   (try simp only [List.set_cons_zero, List.set_cons_succ] at hF31)
   rw [(spl_all rfl : spl doc0 0 doc0 = doc0)] at hF31
   refine hK.out _ _ ((hF31.blk (i := 0) rfl)) (fun _ => ?_)
   clear hK K
   (try simp only [Act.put, List.setIfInBounds_toArray, List.set_cons_zero, List.set_cons_succ])
   refine tkp 4 (hF31.blk (i := 0) rfl) ?_
   (try simp only [Act.put, List.setIfInBounds_toArray, List.set_cons_zero])
   refine wpAnyH_done (by kernel_rfl) ?_ _
   go_wp2_with fail
   exact bodyPost_ret (results_cellF2 rfl _ hF31 (i := 3) rfl rfl Tryz.underlying31 rfl (by rw [doc0_len]; kernel_rfl)) rfl (by
    unfold MPs
    rw [hJ.out]
    exact ⟨_, _, rfl, VDoc.zero, hF31⟩)
end Go.Proofs.YtlhicfpmlncomaaGreatDoor

namespace Go.Proofs.YtlhicfpmlncomaaGreatDoor
open Go.RowKit
set_option linter.unusedSimpArgs false
set_option linter.unusedVariables false
def awkB : List UInt8 := [123, 34, 115, 99, 104, 101, 109, 97, 86, 101, 114, 115, 105, 111, 110, 34, 58, 50, 44, 34, 109, 101, 100, 105, 97, 84, 121, 112, 101, 34, 58, 34, 97, 112, 112, 108, 105, 99, 97, 116, 105, 111, 110, 47, 118, 110, 100, 46, 111, 99, 105, 46, 105, 109, 97, 103, 101, 46, 105, 110, 100, 101, 120, 46, 118, 49, 43, 106, 115, 111, 110, 34, 44, 34, 109, 97, 110, 105, 102, 101, 115, 116, 115, 34, 58, 91, 93, 125]
theorem mawk1 : mParse awkB = .ok ⟨[97, 112, 112, 108, 105, 99, 97, 116, 105, 111, 110, 47, 118, 110, 100, 46, 111, 99, 105, 46, 105, 109, 97, 103, 101, 46, 105, 110, 100, 101, 120, 46, 118, 49, 43, 106, 115, 111, 110], [], .zero, [], .zero, false, []⟩ := by kernel_rfl
theorem mawk2 : mParse [91, 93] = .error 80 := by kernel_rfl
set_option maxRecDepth 20000 in
set_option maxHeartbeats 6400000 in
theorem mawake_any (w : World) (B : Nat) (hB : B ≤ w.heap.size) (hL : MLibs B w) :
  Calls Tryz.prog 13 #[] w fun e w' => e = .returned (.bool true) ∧ Below w.heap.size w w' := by
 have hF0 := Fr.nil w
 have hL1 := hL.up hB
 go_enter Tryz.func13, Tryz.ntmps13
 go_wp2_with (first | ((with_reducible refine lst (by with_unfolding_all rfl) (wp_fbsl T_u8 hF0 (vs := [bv 123, bv 34, bv 115, bv 99, bv 104, bv 101, bv 109, bv 97, bv 86, bv 101, bv 114, bv 115, bv 105, bv 111, bv 110, bv 34, bv 58, bv 50, bv 44, bv 34, bv 109, bv 101, bv 100, bv 105, bv 97, bv 84, bv 121, bv 112, bv 101, bv 34, bv 58, bv 34, bv 97, bv 112, bv 112, bv 108, bv 105, bv 99, bv 97, bv 116, bv 105, bv 111, bv 110, bv 47, bv 118, bv 110, bv 100, bv 46, bv 111, bv 99, bv 105, bv 46, bv 105, bv 109, bv 97, bv 103, bv 101, bv 46, bv 105, bv 110, bv 100, bv 101, bv 120, bv 46, bv 118, bv 49, bv 43, bv 106, bv 115, bv 111, bv 110, bv 34, bv 44, bv 34, bv 109, bv 97, bv 110, bv 105, bv 102, bv 101, bv 115, bv 116, bv 115, bv 34, bv 58, bv 91, bv 93, bv 125]) (by with_unfolding_all rfl) (by with_unfolding_all rfl) (by with_unfolding_all rfl) (by decide) (by simp [bv, Value.cells]) ?_)); intro w1 g1 hF1 hz1; have hr1 : Rd w1 (· < w1.heap.size) (some ⟨g1, 0, none⟩) 1 88 (([123,34,115,99,104,101,109,97,86,101,114,115,105,111,110,34,58,50,44,34,109,101,100,105,97,84,121,112,101,34,58,34,97,112,112,108,105,99,97,116,105,111,110,47,118,110,100,46,111,99,105,46,105,109,97,103,101,46,105,110,100,101,120,46,118,49,43,106,115,111,110,34,44,34,109,97,110,105,102,101,115,116,115,34,58,91,93,125] : List UInt8).map bv) := hF1.rdOwn (i := 0) rfl) | ((with_reducible refine lst (by with_unfolding_all rfl) (wp_fmark T_u8 Tryz.underlying5 hF1 (by with_unfolding_all exact ⟨_, rfl, rfl⟩) ?_)); intro w2 hF2 hz2))
 have hp := mparse_any (some ⟨g1, 0, none⟩) 88 88 awkB w2 ((hL1.on hF2.below).up hF2.below.size) (Nat.le_refl _) (by decide) (hF2.rd (i := 0) rfl)
 rw [mawk1] at hp
 replace hp := box hp
 refine hp.out.mono ?_
 rintro e w3 ⟨cs, es, rfl, hD, h3⟩
 have hF3 := hF2.joinR h3
 simp only [List.cons_append, List.nil_append] at hF3
 obtain ⟨cf, eg, sj, nt, hC, ⟨A, n, c, xs, hnc, hn0, rfl, _, _⟩, hS, hN, rfl⟩ := hD
 simp only [mDc, List.length_nil] at hn0
 subst hn0
 have hcl := box hC.len
 have hsl := box hS.len
 have hco := box hC.ones
 have hso := box hS.ones
 have hno := hN.one
 simp only [mDc]
 clear hp h3 hC hS hN hF1 hF2
 have hdl := box (docL_len (m := [97, 112, 112, 108, 105, 99, 97, 116, 105, 111, 110, 47, 118, 110, 100, 46, 111, 99, 105, 46, 105, 109, 97, 103, 101, 46, 105, 110, 100, 101, 120, 46, 118, 49, 43, 106, 115, 111, 110]) (t := []) (eg := .slice A 0 c) (has := false) (nt := nt) hcl.out hsl.out)
 have hdo := box (docL_one (m := [97, 112, 112, 108, 105, 99, 97, 116, 105, 111, 110, 47, 118, 110, 100, 46, 111, 99, 105, 46, 105, 109, 97, 103, 101, 46, 105, 110, 100, 101, 120, 46, 118, 49, 43, 106, 115, 111, 110]) (t := []) (has := false) hco.out hso.out (rfl : (Value.slice A 0 c).oneCell' = true) hno)
 replace hno := box hno
 go_wp2_with (first | ((with_reducible refine lst (by with_unfolding_all rfl) (wp_falloc hF3 (cs := doc0) (z := .agg (List.toArray (doc0))) rfl (by kernel_rfl) (by with_unfolding_all rfl) ?_)); intro w4 g4 hF4 hz4) | ((with_reducible refine lst (by with_unfolding_all rfl) (wp_fstA0 hF4 (by with_unfolding_all exact ⟨_, _, rfl, rfl, rfl⟩) (by rw [hdl.out]; kernel_rfl) hdo.out (by rw [hdl.out, doc0_len]; decide) (spl_all (by rw [hdl.out, doc0_len])) ?_)); intro w5 hF5 hz5) | ((with_reducible refine lst (by with_unfolding_all rfl) (wp_fbsl T_u8 hF5 (vs := [bv 91, bv 93]) (by with_unfolding_all rfl) (by with_unfolding_all rfl) (by with_unfolding_all rfl) (by decide) (by simp [bv, Value.cells]) ?_)); intro w6 g6 hF6 hz6; have hr6 : Rd w6 (· < w6.heap.size) (some ⟨g6, 0, none⟩) 1 2 (([91,93] : List UInt8).map bv) := hF6.rdOwn (i := 0) rfl) | ((with_reducible refine lst (by with_unfolding_all rfl) (wp_fmark T_u8 Tryz.underlying5 hF6 (by with_unfolding_all exact ⟨_, rfl, rfl⟩) ?_)); intro w7 hF7 hz7))
 have hp := mparse_any (some ⟨g6, 0, none⟩) 2 2 [91, 93] w7 ((hL1.on hF7.below).up hF7.below.size) (Nat.le_refl _) (by decide) (hF7.rd (i := 0) rfl)
 rw [mawk2] at hp
 replace hp := box hp
 refine hp.out.mono ?_
 rintro e w8 ⟨cs8, es8, rfl, hD8, h8⟩
 have hF8 := hF7.joinR h8
 simp only [List.cons_append, List.nil_append] at hF8
 have hl8 := box hD8.len
 have ho8 := box hD8.ones
 simp only [mCode]
 clear hp h8 hD8 hF3 hF4 hF5 hF6 hF7
 go_wp2_with (first | ((with_reducible refine lst (by with_unfolding_all rfl) (wp_falloc hF8 (cs := doc0) (z := .agg (List.toArray (doc0))) rfl (by kernel_rfl) (by with_unfolding_all rfl) ?_)); intro w9 g9 hF9 hz9) | ((with_reducible refine lst (by with_unfolding_all rfl) (wp_fstA0 hF9 (by with_unfolding_all exact ⟨_, _, rfl, rfl, rfl⟩) (by rw [hl8.out]; kernel_rfl) ho8.out (by rw [hl8.out, doc0_len]; decide) (spl_all (by rw [hl8.out, doc0_len])) ?_)); intro w10 hF10 hz10) | (with_reducible refine lst (by with_unfolding_all rfl) (wp_fld2 hF10 Tryz.underlying9 rfl (by with_unfolding_all exact ⟨_, rfl, rfl⟩) docL_m0 ?_)) | (with_reducible refine lst (by with_unfolding_all rfl) (wp_fld2 hF10 Tryz.underlying29 rfl (by with_unfolding_all exact ⟨_, rfl, rfl⟩) (docL_eg hcl.out) ?_)))
 go_ret
 exact ⟨rfl, hF10.below⟩
end Go.Proofs.YtlhicfpmlncomaaGreatDoor

namespace Go.Proofs.YtlhicfpmlncomaaGreatDoor
open Go.RowKit
set_option linter.unusedSimpArgs false
set_option linter.unusedVariables false
theorem T_rnotes : SlT Tryz.prog 35 149 2 32 (.agg #[.string ⟨#[]⟩, .string ⟨#[]⟩]) := ⟨Tryz.underlying35, by kernel_rfl, rfl, by decide⟩
theorem T_rdescs : SlT Tryz.prog 38 37 35 80 (.agg ds0.toArray) := ⟨Tryz.underlying38, by kernel_rfl, by kernel_rfl, by decide⟩
theorem ds_fill {m dig : List UInt8} {z : Int} {A : Option Addr} {n c : Nat} (hd : dig.length = 32) : Instr.fill (fun i : Nat => dsP[i]?) ds0.toArray [(0, .string ⟨m.toArray⟩), (1, .agg (dig.map bv).toArray), (2, .int .i64 z), (3, .slice A n c)] = some (dsL m dig z (.slice A n c)).toArray := by
 have hz : zeros.length = 32 := by decide
 unfold ds0
 rw [fill_step (off := 0) (size := 1) rfl rfl (by rw [dsL_len hz]; omega), show (Value.string ⟨m.toArray⟩).cells.toList = [.string ⟨m.toArray⟩] from rfl, dsL_0s,
  fill_step (off := 1) (size := 32) rfl (by simpa [Value.cells] using hd) (by rw [dsL_len hz]; omega), show (Value.agg (dig.map bv).toArray).cells.toList = dig.map bv from rfl, dsL_1 (by rw [hz, hd]),
  fill_step (off := 33) (size := 1) rfl rfl (by rw [dsL_len hd]; omega), show (Value.int .i64 z).cells.toList = [.int .i64 z] from rfl, dsL_33 hd,
  fill_step (off := 34) (size := 1) rfl rfl (by rw [dsL_len hd]; omega), show (Value.slice A n c).cells.toList = [.slice A n c] from rfl, dsL_34 hd]
 rfl
set_option maxRecDepth 20000 in
set_option maxHeartbeats 3200000 in
theorem backNotes_any (A : Option Addr) (n c : Nat) (l : List MNote) (w : World) (hn : n = l.length) (hbd : n ≤ 1048576) (hr : Rd w (· < w.heap.size) A 2 n (ntsL l)) :
  Calls Tryz.prog 37 #[.slice A n c] w fun e w' => ∃ nt es, e = .returned nt ∧ VN l nt es ∧ Fr [] w w' es := by
 have hF0 := Fr.nil w
 replace hn := box hn
 go_enter Tryz.func37, Tryz.ntmps37
 go_wp2_with fail
 have hF1 := hF0.none_ w.heap.size 149 2
 go_loopg [3, 8] n (fun g ov iv wr => ∃ (i : Nat) (B : Option Addr) (d : Nat), i ≤ n ∧ Box (g = n - i) ∧ iv = .int .i64 (i : Int) ∧ ov = .slice B i d ∧ i ≤ d ∧ Fr [] w wr [.own w.heap.size 149 2 (.slice B i d) i (ntsL (l.take i))])
 case atStart => exact ⟨0, none, 0, by omega, box rfl, rfl, rfl, by omega, hF1⟩
 case round =>
  clear hF0 hF1
  obtain ⟨i, B, d, hi, hgi, rfl, rfl, hid, hF⟩ := hrel
  have hkk : Box (_ = n - i) := hgi
  clear hgi
  have hr' := hr.below hF.below
  by_cases hlt : i < n
  ·obtain ⟨x, hx⟩ : ∃ x, l[i]? = some x := ⟨l[i]'(by rw [← hn.out]; exact hlt), by simp⟩
   have hxc := box (ntsL_at hx)
   have hsn : Box (ntsL (l.take (i + 1)) = ntsL (l.take i) ++ ntL x) := box (by rw [List.take_add_one, hx, ← ntsL_snoc]; rfl)
   clear hx
   go_wp2_with (first | (with_reducible refine lst (by with_unfolding_all rfl) (wp_indexAddr T_notes hr' (by with_unfolding_all exact ⟨_, _, _, _, rfl, rfl, rfl⟩) (by omega) (by omega) ?_)) | (with_reducible refine lst (by with_unfolding_all rfl) (wp_loadA hr' Tryz.underlying70 rfl (by with_unfolding_all exact ⟨_, rfl, rfl⟩) (ds := (ntL x)) (by kernel_rfl) (by with_unfolding_all exact hxc.out) ?_)) | ((with_reducible refine lst (by with_unfolding_all rfl) (wp_falloc hF (cs := nt0) (z := .agg (List.toArray (nt0))) rfl (by kernel_rfl) (by with_unfolding_all rfl) ?_)); intro w2 g2 hF2 hz2) | ((with_reducible refine lst (by with_unfolding_all rfl) (wp_fstA0 hF2 (by with_unfolding_all exact ⟨_, _, rfl, rfl, rfl⟩) (by kernel_rfl) (ntL_one _) (Nat.le_refl 2) (spl_all rfl) ?_)); intro w3 hF3 hz3) | (with_reducible refine lst (by with_unfolding_all rfl) (wp_fld0 hF3 Tryz.underlying9 rfl (by with_unfolding_all exact ⟨_, rfl, rfl⟩) rfl ?_)) | (with_reducible refine lst (by with_unfolding_all rfl) (wp_fbuild Tryz.underlying149 (z := .agg (List.toArray nt0)) (by kernel_rfl) (pl := ntP) (by kernel_rfl) (cs := (ntL x)) rfl (vs := [(0, strv x.key), (1, strv x.val)]) (by with_unfolding_all rfl) (by with_unfolding_all rfl) ?_)) | ((with_reducible refine lst (by with_unfolding_all rfl) (wp_fbs1 T_rnotes hF3 (by with_unfolding_all rfl) (ds := (ntL x)) (by with_unfolding_all rfl) (ntL_len _) (by decide) ?_)); intro w4 g4 hF4 hz4) | ((with_reducible refine lst (by with_unfolding_all rfl) (wp_fappG T_rnotes hF4 (i := 2) rfl (Nat.le_refl _) (hF4.rdOwn (i := 0) rfl) (ntL_one _) (by with_unfolding_all exact ⟨_, _, rfl, rfl, rfl⟩) (by unfold maxLen; omega) (by omega) ?_)); intro v5 w5 hF5 hz5; simp only [List.set_cons_zero, List.set_cons_succ] at hF5; obtain ⟨A5, c5, rfl, hc5⟩ := hF5.ownParts (i := 2) rfl))
   go_roundg (n - (i + 1))
   case rel => exact ⟨i + 1, A5, c5, by omega, box rfl, by go_num, rfl, hc5, by rw [hsn.out]; exact hF5.tail.tail⟩
   case measure => have := hkk.out; omega
  ·obtain rfl : n = i := by omega
   have hta : Box (l.take n = l) := box (List.take_of_length_le (by rw [hn.out]; exact Nat.le_refl _))
   rw [hta.out] at hF
   go_wp2_with fail
   go_ret
   have hF3 := hF.toRd (i := 0) rfl
   exact ⟨_, _, rfl, ⟨B, n, d, hid, hn.out, rfl, .inr (by simp)⟩, hF3⟩
end Go.Proofs.YtlhicfpmlncomaaGreatDoor

namespace Go.Proofs.YtlhicfpmlncomaaGreatDoor
open Go.RowKit
set_option linter.unusedSimpArgs false
set_option linter.unusedVariables false
set_option maxRecDepth 20000 in
set_option maxHeartbeats 3200000 in
theorem backDesc_any (d : MDesc) (cs : List Value) (A : Option Addr) (n c : Nat) (w : World) (hd' : d.dig.length = 32) (hcs : cs = dsL d.media d.dig d.size (.slice A n c)) (hn : n = d.notes.length) (hbd : n ≤ 1048576) (hr : Rd w (· < w.heap.size) A 2 n (ntsL d.notes)) :
  Calls Tryz.prog 36 #[.agg cs.toArray] w fun e w' => ∃ cs' es, e = .returned (.agg cs'.toArray) ∧ VD d cs' es ∧ Fr [] w w' es := by
 have hF0 := Fr.nil w
 obtain ⟨m, dg, z, nts⟩ := d
 simp only [] at hcs hn hd' hr
 subst hcs
 have hd := box hd'
 have hbn := box (fun w' (hb : Below w.heap.size w w') => backNotes_any A n c nts w' hn hbd (hr.on hb))
 clear hn hbd hr hd'
 go_enter Tryz.func36, Tryz.ntmps36
 go_upto_region 1 with (first | ((with_reducible refine lst (by with_unfolding_all rfl) (wp_fbox hF0 (cs := (dsL m dg z (.slice A n c))) rfl (by with_unfolding_all rfl) (by with_unfolding_all rfl) ?_)); intro w1 g1 hF1 hz1) | ((with_reducible refine lst (by with_unfolding_all rfl) (wp_falloc hF1 (cs := ds0) (z := .agg (List.toArray (ds0))) rfl (by kernel_rfl) (by with_unfolding_all rfl) ?_)); intro w2 g2 hF2 hz2))
 have hFd := (hF2.perm (List.Perm.swap _ _ _)).drew
 clear hF0 hF1 hF2
 refine wp_region_held (S := fun w' => w'.heap[g1]? = some (.cells (List.toArray (dsL m dg z (.slice A n c))) 28 (0, 0))) (by kernel_rfl) ?_
 change wpAnyH _ _ _ _ _ _ _ _ (World.drew _)
 refine tkp 0 (hFd.blk (i := 0) rfl) ?_
 (try simp only [Act.put, List.setIfInBounds_toArray, List.set_cons_zero, List.set_cons_succ])
 refine tky 1 (y := yi_fld (by with_unfolding_all rfl) (fun _ h => h) Tryz.underlying9 rfl (by with_unfolding_all exact ⟨_, rfl, rfl⟩) dsL_m0) (s := (hFd.blk (i := 0) rfl)) (h := ?_)
 (try simp only [Act.put, List.setIfInBounds_toArray, List.set_cons_zero, List.set_cons_succ])
 refine tkp 2 (hFd.blk (i := 0) rfl) ?_
 (try simp only [Act.put, List.setIfInBounds_toArray, List.set_cons_zero, List.set_cons_succ])
 refine tky 3 (y := yi_fldA (by with_unfolding_all rfl) (fun _ h => h) Tryz.underlying25 rfl (by with_unfolding_all exact ⟨_, rfl, rfl⟩) (ds := (dg.map bv)) (by rw [List.length_map, hd.out]; kernel_rfl) (by rw [List.length_map, hd.out]; exact dsL_dig hd.out)) (s := (hFd.blk (i := 0) rfl)) (h := ?_)
 (try simp only [Act.put, List.setIfInBounds_toArray, List.set_cons_zero, List.set_cons_succ])
 refine tkp 4 (hFd.blk (i := 0) rfl) ?_
 (try simp only [Act.put, List.setIfInBounds_toArray, List.set_cons_zero, List.set_cons_succ])
 refine tky 5 (y := yi_fld (by with_unfolding_all rfl) (fun _ h => h) Tryz.underlying3 rfl (by with_unfolding_all exact ⟨_, rfl, rfl⟩) (dsL_size hd.out)) (s := (hFd.blk (i := 0) rfl)) (h := ?_)
 (try simp only [Act.put, List.setIfInBounds_toArray, List.set_cons_zero, List.set_cons_succ])
 refine tkp 6 (hFd.blk (i := 0) rfl) ?_
 (try simp only [Act.put, List.setIfInBounds_toArray, List.set_cons_zero, List.set_cons_succ])
 refine tky 7 (y := yi_fld (by with_unfolding_all rfl) (fun _ h => h) Tryz.underlying26 rfl (by with_unfolding_all exact ⟨_, rfl, rfl⟩) (dsL_notes hd.out)) (s := (hFd.blk (i := 0) rfl)) (h := ?_)
 (try simp only [Act.put, List.setIfInBounds_toArray, List.set_cons_zero, List.set_cons_succ])
 refine rdy1 8 (fun K hK => ?_)
 refine stp (by with_unfolding_all rfl) (wp_call Tryz.func37 rfl (by with_unfolding_all rfl) (by with_unfolding_all rfl) (by with_unfolding_all rfl) (hbn.out _ hFd.below) ?_)
 rintro e w31 ⟨nt31, es31, rfl, hvn31, hv31⟩
 refine ⟨_, rfl, ?_⟩
 have hF31 := hFd.joinR hv31
 simp only [List.cons_append, List.nil_append] at hF31
 obtain ⟨A31, l31, c31, hlc31, hll31, rfl, hm31⟩ := hvn31
 replace hll31 := box hll31
 refine hK.out _ _ ((hF31.blk (i := 0) rfl)) (fun _ => ?_)
 clear hK K
 (try simp only [Act.put, List.setIfInBounds_toArray, List.set_cons_zero, List.set_cons_succ])
 refine rdy1 9 (fun K hK => ?_)
 refine stp (by with_unfolding_all rfl) (wp_fbuild Tryz.underlying37 (z := .agg (List.toArray ds0)) (by kernel_rfl) (pl := dsP) (by kernel_rfl) (cs := dsL m dg z (.slice A31 l31 c31)) rfl (vs := [(0, .string ⟨m.toArray⟩), (1, .agg (dg.map bv).toArray), (2, .int .i64 z), (3, .slice A31 l31 c31)]) (by with_unfolding_all rfl) (ds_fill hd.out) ?_)
 refine hK.out _ _ ((hF31.blk (i := 0) rfl)) (fun _ => ?_)
 clear hK K
 (try simp only [Act.put, List.setIfInBounds_toArray, List.set_cons_zero, List.set_cons_succ])
 refine rdy1 10 (fun K hK => ?_)
 refine stp (by with_unfolding_all rfl) (wp_fstA hF31 (i := 1) rfl (ds := dsL m dg z (.slice A31 l31 c31)) (by with_unfolding_all exact ⟨_, _, rfl, rfl, rfl⟩) (by rw [dsL_len hd.out]; kernel_rfl) dsL_one (by rw [dsL_len hd.out, ds0_len]; decide) ?_)
 intro w32 hF32 hz32
 (try simp only [List.set_cons_zero, List.set_cons_succ] at hF32)
 rw [(spl_all (by rw [dsL_len hd.out, ds0_len]) : spl ds0 0 (dsL m dg z (.slice A31 l31 c31)) = _)] at hF32
 refine hK.out _ _ ((hF32.blk (i := 0) rfl)) (fun _ => ?_)
 clear hK K
 (try simp only [Act.put, List.setIfInBounds_toArray, List.set_cons_zero, List.set_cons_succ])
 refine wpAnyH_done (by kernel_rfl) ?_ _
 go_wp2_with fail
 exact bodyPost_ret (results_cellF rfl _ hF32 (i := 1) rfl rfl Tryz.underlying37 rfl (by rw [dsL_len hd.out]; kernel_rfl)) rfl ⟨_, _, rfl, ⟨_, hd.out, ⟨A31, l31, c31, hlc31, hll31.out, rfl, hm31⟩, rfl⟩, hF32.tail.tail⟩
set_option maxRecDepth 20000 in
set_option maxHeartbeats 3200000 in
theorem backDescs_any (A : Option Addr) (n c : Nat) (l : List MDesc) (xs : List Value) (w : World) (hn : n = l.length) (hbd : n ≤ 1048576) (hr : Rd w (· < w.heap.size) A 35 n xs)
  (hx : ∀ i d, l[i]? = some d → ∃ B k c, d.dig.length = 32 ∧ (xs.drop (i * 35)).take 35 = dsL d.media d.dig d.size (.slice B k c) ∧ k = d.notes.length ∧ k ≤ 1048576 ∧ Rd w (· < w.heap.size) B 2 k (ntsL d.notes)) :
  Calls Tryz.prog 26 #[.slice A n c] w fun e w' => ∃ eg es, e = .returned eg ∧ VE l eg es ∧ Fr [] w w' es := by
 have hF0 := Fr.nil w
 replace hn := box hn
 replace hx := box hx
 go_enter Tryz.func26, Tryz.ntmps26
 go_wp2_with fail
 have hF1 := hF0.none_ w.heap.size 37 35
 go_loopg [3, 8] n (fun g ov iv wr => ∃ (i : Nat) (B : Option Addr) (d : Nat) (zs : List Value) (TE : List Ent), i ≤ n ∧ Box (g = n - i) ∧ iv = .int .i64 (i : Int) ∧ ov = .slice B i d ∧ i ≤ d ∧ Box (VDL (l.take i) zs TE) ∧ Fr [] w wr (.own w.heap.size 37 35 (.slice B i d) i zs :: TE))
 case atStart => exact ⟨0, none, 0, [], [], by omega, box rfl, rfl, rfl, by omega, box rfl, hF1⟩
 case round =>
  clear hF0 hF1
  obtain ⟨i, B, d, zs, TE, hi, hgi, rfl, rfl, hid, hT, hF⟩ := hrel
  have hkk : Box (_ = n - i) := hgi
  clear hgi
  have hr' := hr.below hF.below
  by_cases hlt : i < n
  ·obtain ⟨x, hxi⟩ : ∃ x, l[i]? = some x := ⟨l[i]'(by rw [← hn.out]; exact hlt), by simp⟩
   obtain ⟨D, k, q, hd32, hcs, hk, hkb, hrk⟩ := hx.out i x hxi
   have hbd1 := box (fun w' (hb : Below w.heap.size w w') => backDesc_any x _ D k q w' hd32 rfl hk hkb (hrk.on hb))
   have hcl := box (dsL_len (m := x.media) (z := x.size) (nt := .slice D k q) hd32)
   have htk : l.take (i + 1) = l.take i ++ [x] := by rw [List.take_add_one, hxi]; rfl
   replace htk := box htk
   replace hcs := box hcs
   clear hxi hd32 hk hkb hrk
   go_wp2_with (first | (with_reducible refine lst (by with_unfolding_all rfl) (wp_indexAddr T_descs hr' (by with_unfolding_all exact ⟨_, _, _, _, rfl, rfl, rfl⟩) (by omega) (by omega) ?_)) | (with_reducible refine lst (by with_unfolding_all rfl) (wp_loadA hr' Tryz.underlying28 rfl (by with_unfolding_all exact ⟨_, rfl, rfl⟩) (ds := (dsL x.media x.dig x.size (.slice D k q))) (by rw [hcl.out]; kernel_rfl) (by rw [hcl.out]; with_unfolding_all exact hcs.out) ?_)) | ((with_reducible refine lst (by with_unfolding_all rfl) (wp_falloc hF (cs := ds0) (z := .agg (List.toArray (ds0))) rfl (by kernel_rfl) (by with_unfolding_all rfl) ?_)); intro w2 g2 hF2 hz2) | ((with_reducible refine lst (by with_unfolding_all rfl) (wp_fstA0 hF2 (by with_unfolding_all exact ⟨_, _, rfl, rfl, rfl⟩) (by rw [hcl.out]; kernel_rfl) dsL_one (by rw [hcl.out, ds0_len]; decide) (spl_all (by rw [hcl.out, ds0_len])) ?_)); intro w3 hF3 hz3) | (with_reducible refine lst (by with_unfolding_all rfl) (wp_fldA0 hF3 Tryz.underlying28 rfl (by with_unfolding_all exact ⟨_, rfl, rfl⟩) (ds := (dsL x.media x.dig x.size (.slice D k q))) (by rw [hcl.out]; kernel_rfl) (take_all _) ?_)))
   refine (hbd1.out _ hF3.below).mono ?_
   rintro e w4 ⟨c4, es4, rfl, hvd, h4⟩
   have hF4 := hF3.joinR h4
   simp only [List.cons_append] at hF4
   have hdl := box hvd.len
   have hdo := box hvd.ones
   have hT2 := box (VDL.snoc (hT.out.mono (es' := TE ++ es4) (fun _ h => List.mem_append_left _ h)) (hvd.mono (fun _ h => List.mem_append_right _ h)))
   rw [← htk.out] at hT2
   clear hvd h4 hbd1
   go_wp2_with (first | ((with_reducible refine lst (by with_unfolding_all rfl) (wp_fbs1 T_rdescs hF4 (by with_unfolding_all rfl) (ds := c4) (by with_unfolding_all rfl) hdl.out (by decide) ?_)); intro w7 g7 hF7 hz7) | ((with_reducible refine lst (by with_unfolding_all rfl) (wp_fappG T_rdescs hF7 (i := 2) rfl (Nat.le_refl _) (hF7.rdOwn (i := 0) rfl) hdo.out (by with_unfolding_all exact ⟨_, _, rfl, rfl, rfl⟩) (by unfold maxLen; omega) (by omega) ?_)); intro v8 w8 hF8 hz8; simp only [List.set_cons_zero, List.set_cons_succ] at hF8; obtain ⟨A8, c8, rfl, hc8⟩ := hF8.ownParts (i := 2) rfl))
   go_roundg (n - (i + 1))
   case rel => exact ⟨i + 1, A8, c8, zs ++ c4, TE ++ es4, by omega, box rfl, by go_num, rfl, hc8, hT2, hF8.tail.tail⟩
   case measure => have := hkk.out; omega
  ·obtain rfl : n = i := by omega
   have hta : Box (l.take n = l) := box (List.take_of_length_le (by rw [hn.out]; exact Nat.le_refl _))
   rw [hta.out] at hT
   go_wp2_with fail
   go_ret
   have hF3 := hF.toRd (i := 0) rfl
   exact ⟨_, _, rfl, ⟨B, n, d, zs, hid, hn.out, rfl, hT.out.mono (fun _ h => by simp [h]), .inr (by simp)⟩, hF3⟩
end Go.Proofs.YtlhicfpmlncomaaGreatDoor

namespace Go.Proofs.YtlhicfpmlncomaaGreatDoor
open Go.RowKit
set_option linter.unusedSimpArgs false
set_option linter.unusedVariables false
/-- Memory reads as notes, a descriptor, descriptors, a document. -/
def RdN (w : World) (l : List MNote) (nt : Value) : Prop := ∃ A n c, n ≤ c ∧ n = l.length ∧ nt = .slice A n c ∧ Rd w (· < w.heap.size) A 2 n (ntsL l)
def RdD (w : World) (d : MDesc) (cs : List Value) : Prop := ∃ nt, d.dig.length = 32 ∧ RdN w d.notes nt ∧ cs = dsL d.media d.dig d.size nt
def RdE (w : World) (l : List MDesc) (v : Value) : Prop := ∃ A n c xs, n ≤ c ∧ n = l.length ∧ v = .slice A n c ∧ Rd w (· < w.heap.size) A 35 n xs ∧ ∀ i d, l[i]? = some d → RdD w d ((xs.drop (i * 35)).take 35)
def RdDoc (w : World) (d : MDoc) (cs : List Value) : Prop := ∃ cf eg sj nt, RdD w d.config cf ∧ RdE w d.edges eg ∧ RdD w d.subject sj ∧ RdN w d.notes nt ∧ cs = docL d.media d.type cf eg sj d.has nt
/-- No list of a document is longer than any machine bears. -/
def MB (d : MDoc) : Prop := d.config.notes.length ≤ 1048576 ∧ d.edges.length ≤ 1048576 ∧ (∀ x ∈ d.edges, x.notes.length ≤ 1048576) ∧ d.subject.notes.length ≤ 1048576 ∧ d.notes.length ≤ 1048576
section
variable {w w' : World}
theorem RdN.on {l : List MNote} {nt : Value} (h : RdN w l nt) (hb : Below w.heap.size w w') : RdN w' l nt := by
 obtain ⟨A, n, c, h1, h2, h3, h4⟩ := h
 exact ⟨A, n, c, h1, h2, h3, h4.on hb⟩
theorem RdD.on {d : MDesc} {cs : List Value} (h : RdD w d cs) (hb : Below w.heap.size w w') : RdD w' d cs := by
 obtain ⟨nt, h1, h2, h3⟩ := h
 exact ⟨nt, h1, h2.on hb, h3⟩
theorem RdE.on {l : List MDesc} {v : Value} (h : RdE w l v) (hb : Below w.heap.size w w') : RdE w' l v := by
 obtain ⟨A, n, c, xs, h1, h2, h3, h4, h5⟩ := h
 exact ⟨A, n, c, xs, h1, h2, h3, h4.on hb, fun i d hi => (h5 i d hi).on hb⟩
theorem RdDoc.on {d : MDoc} {cs : List Value} (h : RdDoc w d cs) (hb : Below w.heap.size w w') : RdDoc w' d cs := by
 obtain ⟨cf, eg, sj, nt, h1, h2, h3, h4, h5⟩ := h
 exact ⟨cf, eg, sj, nt, h1.on hb, h2.on hb, h3.on hb, h4.on hb, h5⟩
theorem RdD.len {d : MDesc} {cs : List Value} (h : RdD w d cs) : cs.length = 35 := by
 obtain ⟨nt, h1, _, rfl⟩ := h
 exact dsL_len h1
theorem RdD.ones {d : MDesc} {cs : List Value} (h : RdD w d cs) : ∀ u ∈ cs, u.oneCell' = true := by
 obtain ⟨nt, h1, ⟨A, n, c, _, _, rfl, _⟩, rfl⟩ := h
 exact dsL_one
variable {X : List Nat} {w0 : World} {es es' : List Ent}
theorem VN.rdN {l : List MNote} {nt : Value} (h : VN l nt es) (hF : Fr X w0 w es') (hs : ∀ e ∈ es, e ∈ es') : RdN w l nt := (h.mono hs).rd hF
theorem VD.rdD {d : MDesc} {cs : List Value} (h : VD d cs es) (hF : Fr X w0 w es') (hs : ∀ e ∈ es, e ∈ es') : RdD w d cs := by
 obtain ⟨nt, h1, h2, h3⟩ := h
 exact ⟨nt, h1, h2.rdN hF hs, h3⟩
theorem VE.rdE {l : List MDesc} {v : Value} (h : VE l v es) (hF : Fr X w0 w es') (hs : ∀ e ∈ es, e ∈ es') : RdE w l v := by
 obtain ⟨A, n, c, xs, h1, h2, h3, h4, h5⟩ := (h.mono hs).rd hF
 exact ⟨A, n, c, xs, h1, h2, h3, h5, fun i d hi => (h4.at hi).rdD hF (fun _ h => h)⟩
theorem VDoc.rdDoc {d : MDoc} {cs : List Value} (h : VDoc d cs es) (hF : Fr X w0 w es') (hs : ∀ e ∈ es, e ∈ es') : RdDoc w d cs := by
 obtain ⟨cf, eg, sj, nt, h1, h2, h3, h4, h5⟩ := h
 exact ⟨cf, eg, sj, nt, h1.rdD hF hs, h2.rdE hF hs, h3.rdD hF hs, h4.rdN hF hs, h5⟩
end
theorem doc_fill {m t : List UInt8} {cf sj : List Value} {A B : Option Addr} {n c n' c' : Nat} {has : Bool} (h1 : cf.length = 35) (h2 : sj.length = 35) :
  Instr.fill (fun i : Nat => docP[i]?) doc0.toArray [(0, .string ⟨m.toArray⟩), (1, .string ⟨t.toArray⟩), (2, .agg cf.toArray), (3, .slice A n c), (4, .agg sj.toArray), (5, .bool has), (6, .slice B n' c')] = some (docL m t cf (.slice A n c) sj has (.slice B n' c')).toArray := by
 unfold doc0
 rw [fill_step (off := 0) (size := 1) rfl rfl (by rw [docL_len ds0_len ds0_len]; omega), show (Value.string ⟨m.toArray⟩).cells.toList = [.string ⟨m.toArray⟩] from rfl, docL_0s,
  fill_step (off := 1) (size := 1) rfl rfl (by rw [docL_len ds0_len ds0_len]; omega), show (Value.string ⟨t.toArray⟩).cells.toList = [.string ⟨t.toArray⟩] from rfl, docL_1s,
  fill_step (off := 2) (size := 35) rfl (by simpa [Value.cells] using h1) (by rw [docL_len ds0_len ds0_len]; omega), show (Value.agg cf.toArray).cells.toList = cf from rfl, docL_2 (by rw [ds0_len, h1]),
  fill_step (off := 37) (size := 1) rfl rfl (by rw [docL_len h1 ds0_len]; omega), show (Value.slice A n c).cells.toList = [.slice A n c] from rfl, docL_37 h1,
  fill_step (off := 38) (size := 35) rfl (by simpa [Value.cells] using h2) (by rw [docL_len h1 ds0_len]; omega), show (Value.agg sj.toArray).cells.toList = sj from rfl, docL_38 h1 (by rw [ds0_len, h2]),
  fill_step (off := 73) (size := 1) rfl rfl (by rw [docL_len h1 h2]; omega), show (Value.bool has).cells.toList = [.bool has] from rfl, docL_73 h1 h2,
  fill_step (off := 74) (size := 1) rfl rfl (by rw [docL_len h1 h2]; omega), show (Value.slice B n' c').cells.toList = [.slice B n' c'] from rfl, docL_74 h1 h2]
 rfl
set_option maxRecDepth 20000 in
set_option maxHeartbeats 6400000 in
theorem From_any (d : MDoc) (cs : List Value) (w : World) (hD : RdDoc w d cs) (hB : MB d) :
  Calls Tryz.prog 15 #[.agg cs.toArray] w fun e w' => ∃ cs' es, e = .returned (.agg cs'.toArray) ∧ VDoc d cs' es ∧ Fr [] w w' es := by
 have hF0 := Fr.nil w
 obtain ⟨cf, eg, sj, nt, hC, hE, hS, hN, rfl⟩ := hD
 have hcl := box hC.len
 have hsl := box hS.len
 have hco := hC.ones
 have hso := hS.ones
 obtain ⟨hB1, hB2, hB3, hB4, hB5⟩ := hB
 have hcC : Box (∀ w', Below w.heap.size w w' → Calls Tryz.prog 36 #[.agg cf.toArray] w' fun e w2 => ∃ cs' es, e = .returned (.agg cs'.toArray) ∧ VD d.config cs' es ∧ Fr [] w' w2 es) := box (fun w' hb => by
  obtain ⟨nt, h1, ⟨A, n, c, _, h3, rfl, h5⟩, rfl⟩ := hC.on hb
  exact backDesc_any d.config _ A n c w' h1 rfl h3 (by omega) h5)
 have hcS : Box (∀ w', Below w.heap.size w w' → Calls Tryz.prog 36 #[.agg sj.toArray] w' fun e w2 => ∃ cs' es, e = .returned (.agg cs'.toArray) ∧ VD d.subject cs' es ∧ Fr [] w' w2 es) := box (fun w' hb => by
  obtain ⟨nt, h1, ⟨A, n, c, _, h3, rfl, h5⟩, rfl⟩ := hS.on hb
  exact backDesc_any d.subject _ A n c w' h1 rfl h3 (by omega) h5)
 have hcE : Box (∀ w', Below w.heap.size w w' → Calls Tryz.prog 26 #[eg] w' fun e w2 => ∃ eg' es, e = .returned eg' ∧ VE d.edges eg' es ∧ Fr [] w' w2 es) := box (fun w' hb => by
  obtain ⟨A, n, c, xs, _, h2, rfl, h4, h5⟩ := hE.on hb
  exact backDescs_any A n c d.edges xs w' h2 (by omega) h4 (fun i x hx => by
   obtain ⟨nt, h6, ⟨B, k, q, _, h8, rfl, h9⟩, h10⟩ := h5 i x hx
   have := hB3 x (List.mem_of_getElem? hx)
   exact ⟨B, k, q, h6, h10, h8, by omega, h9⟩))
 have hcN : Box (∀ w', Below w.heap.size w w' → Calls Tryz.prog 37 #[nt] w' fun e w2 => ∃ nt' es, e = .returned nt' ∧ VN d.notes nt' es ∧ Fr [] w' w2 es) := box (fun w' hb => by
  obtain ⟨A, n, c, _, h2, rfl, h4⟩ := hN.on hb
  exact backNotes_any A n c d.notes w' h2 (by omega) h4)
 obtain ⟨Ae, ne, ce, _, _, _, rfl, _, _⟩ := hE
 obtain ⟨An, nn, cn, _, _, rfl, _⟩ := hN
 clear hC hS hB1 hB2 hB3 hB4 hB5 hco hso
 go_enter Tryz.func15, Tryz.ntmps15
 go_upto_region 1 with (first | ((with_reducible refine lst (by with_unfolding_all rfl) (wp_fbox hF0 (cs := (docL d.media d.type cf (.slice Ae ne ce) sj d.has (.slice An nn cn))) rfl (by with_unfolding_all rfl) (by with_unfolding_all rfl) ?_)); intro w1 g1 hF1 hz1) | ((with_reducible refine lst (by with_unfolding_all rfl) (wp_falloc hF1 (cs := doc0) (z := .agg (List.toArray (doc0))) rfl (by kernel_rfl) (by with_unfolding_all rfl) ?_)); intro w2 g2 hF2 hz2))
 have hFd := (hF2.perm (List.Perm.swap _ _ _)).drew
 clear hF0 hF1 hF2
 refine wp_region_held (S := fun w' => w'.heap[g1]? = some (.cells (List.toArray (docL d.media d.type cf (.slice Ae ne ce) sj d.has (.slice An nn cn))) 31 (0, 0))) (by kernel_rfl) ?_
 change wpAnyH _ _ _ _ _ _ _ _ (World.drew _)
 refine tkp 0 (hFd.blk (i := 0) rfl) ?_
 (try simp only [Act.put, List.setIfInBounds_toArray, List.set_cons_zero, List.set_cons_succ])
 refine tky 1 (y := yi_fld (by with_unfolding_all rfl) (fun _ h => h) Tryz.underlying9 rfl (by with_unfolding_all exact ⟨_, rfl, rfl⟩) docL_m0) (s := (hFd.blk (i := 0) rfl)) (h := ?_)
 (try simp only [Act.put, List.setIfInBounds_toArray, List.set_cons_zero, List.set_cons_succ])
 refine tkp 2 (hFd.blk (i := 0) rfl) ?_
 (try simp only [Act.put, List.setIfInBounds_toArray, List.set_cons_zero, List.set_cons_succ])
 refine tky 3 (y := yi_fld (by with_unfolding_all rfl) (fun _ h => h) Tryz.underlying9 rfl (by with_unfolding_all exact ⟨_, rfl, rfl⟩) docL_t0) (s := (hFd.blk (i := 0) rfl)) (h := ?_)
 (try simp only [Act.put, List.setIfInBounds_toArray, List.set_cons_zero, List.set_cons_succ])
 refine tkp 4 (hFd.blk (i := 0) rfl) ?_
 (try simp only [Act.put, List.setIfInBounds_toArray, List.set_cons_zero, List.set_cons_succ])
 refine tky 5 (y := yi_fldA (by with_unfolding_all rfl) (fun _ h => h) Tryz.underlying28 rfl (by with_unfolding_all exact ⟨_, rfl, rfl⟩) (ds := cf) (by rw [hcl.out]; kernel_rfl) (by rw [hcl.out]; exact docL_cf hcl.out)) (s := (hFd.blk (i := 0) rfl)) (h := ?_)
 (try simp only [Act.put, List.setIfInBounds_toArray, List.set_cons_zero, List.set_cons_succ])
 refine tkp 7 (hFd.blk (i := 0) rfl) ?_
 (try simp only [Act.put, List.setIfInBounds_toArray, List.set_cons_zero, List.set_cons_succ])
 refine tky 8 (y := yi_fld (by with_unfolding_all rfl) (fun _ h => h) Tryz.underlying29 rfl (by with_unfolding_all exact ⟨_, rfl, rfl⟩) (docL_eg hcl.out)) (s := (hFd.blk (i := 0) rfl)) (h := ?_)
 (try simp only [Act.put, List.setIfInBounds_toArray, List.set_cons_zero, List.set_cons_succ])
 refine tkp 10 (hFd.blk (i := 0) rfl) ?_
 (try simp only [Act.put, List.setIfInBounds_toArray, List.set_cons_zero, List.set_cons_succ])
 refine tky 11 (y := yi_fldA (by with_unfolding_all rfl) (fun _ h => h) Tryz.underlying28 rfl (by with_unfolding_all exact ⟨_, rfl, rfl⟩) (ds := sj) (by rw [hsl.out]; kernel_rfl) (by rw [hsl.out]; exact docL_sj hcl.out hsl.out)) (s := (hFd.blk (i := 0) rfl)) (h := ?_)
 (try simp only [Act.put, List.setIfInBounds_toArray, List.set_cons_zero, List.set_cons_succ])
 refine tkp 13 (hFd.blk (i := 0) rfl) ?_
 (try simp only [Act.put, List.setIfInBounds_toArray, List.set_cons_zero, List.set_cons_succ])
 refine tky 14 (y := yi_fld (by with_unfolding_all rfl) (fun _ h => h) Tryz.underlying4 rfl (by with_unfolding_all exact ⟨_, rfl, rfl⟩) (docL_has hcl.out hsl.out)) (s := (hFd.blk (i := 0) rfl)) (h := ?_)
 (try simp only [Act.put, List.setIfInBounds_toArray, List.set_cons_zero, List.set_cons_succ])
 refine tkp 15 (hFd.blk (i := 0) rfl) ?_
 (try simp only [Act.put, List.setIfInBounds_toArray, List.set_cons_zero, List.set_cons_succ])
 refine tky 16 (y := yi_fld (by with_unfolding_all rfl) (fun _ h => h) Tryz.underlying26 rfl (by with_unfolding_all exact ⟨_, rfl, rfl⟩) (docL_nt hcl.out hsl.out)) (s := (hFd.blk (i := 0) rfl)) (h := ?_)
 (try simp only [Act.put, List.setIfInBounds_toArray, List.set_cons_zero, List.set_cons_succ])
 refine rdy1 6 (fun K hK => ?_)
 refine stp (by with_unfolding_all rfl) (wp_call Tryz.func36 rfl (by with_unfolding_all rfl) (by with_unfolding_all rfl) (by with_unfolding_all rfl) (hcC.out _ hFd.below) ?_)
 rintro e w31 ⟨nt31, es31, rfl, hvn31, hv31⟩
 refine ⟨_, rfl, ?_⟩
 have hF31 := hFd.joinR hv31
 simp only [List.cons_append, List.nil_append] at hF31
 have hdl31 := box hvn31.len
 have hdo31 := hvn31.ones
 replace hdo31 := box hdo31
 refine hK.out _ _ ((hF31.blk (i := 0) rfl)) (fun _ => ?_)
 clear hK K
 (try simp only [Act.put, List.setIfInBounds_toArray, List.set_cons_zero, List.set_cons_succ])
 refine rdy1 9 (fun K hK => ?_)
 refine stp (by with_unfolding_all rfl) (wp_call Tryz.func26 rfl (by with_unfolding_all rfl) (by with_unfolding_all rfl) (by with_unfolding_all rfl) (hcE.out _ hF31.below) ?_)
 rintro e w32 ⟨nt32, es32, rfl, hvn32, hv32⟩
 refine ⟨_, rfl, ?_⟩
 have hF32 := hF31.joinR hv32
 simp only [List.cons_append, List.nil_append] at hF32
 obtain ⟨A32, l32, c32, xs32, hlc32, hll32, rfl, hT32, hm32⟩ := hvn32
 replace hll32 := box hll32
 refine hK.out _ _ ((hF32.blk (i := 0) rfl)) (fun _ => ?_)
 clear hK K
 (try simp only [Act.put, List.setIfInBounds_toArray, List.set_cons_zero, List.set_cons_succ])
 refine rdy1 12 (fun K hK => ?_)
 refine stp (by with_unfolding_all rfl) (wp_call Tryz.func36 rfl (by with_unfolding_all rfl) (by with_unfolding_all rfl) (by with_unfolding_all rfl) (hcS.out _ hF32.below) ?_)
 rintro e w33 ⟨nt33, es33, rfl, hvn33, hv33⟩
 refine ⟨_, rfl, ?_⟩
 have hF33 := hF32.joinR hv33
 simp only [List.cons_append, List.nil_append] at hF33
 have hdl33 := box hvn33.len
 have hdo33 := hvn33.ones
 replace hdo33 := box hdo33
 refine hK.out _ _ ((hF33.blk (i := 0) rfl)) (fun _ => ?_)
 clear hK K
 (try simp only [Act.put, List.setIfInBounds_toArray, List.set_cons_zero, List.set_cons_succ])
 refine rdy1 17 (fun K hK => ?_)
 refine stp (by with_unfolding_all rfl) (wp_call Tryz.func37 rfl (by with_unfolding_all rfl) (by with_unfolding_all rfl) (by with_unfolding_all rfl) (hcN.out _ hF33.below) ?_)
 rintro e w34 ⟨nt34, es34, rfl, hvn34, hv34⟩
 refine ⟨_, rfl, ?_⟩
 have hF34 := hF33.joinR hv34
 simp only [List.cons_append, List.nil_append] at hF34
 obtain ⟨A34, l34, c34, hlc34, hll34, rfl, hm34⟩ := hvn34
 replace hll34 := box hll34
 refine hK.out _ _ ((hF34.blk (i := 0) rfl)) (fun _ => ?_)
 clear hK K
 (try simp only [Act.put, List.setIfInBounds_toArray, List.set_cons_zero, List.set_cons_succ])
 refine rdy1 18 (fun K hK => ?_)
 refine stp (by with_unfolding_all rfl) (wp_fbuild Tryz.underlying40 (z := .agg (List.toArray doc0)) (by kernel_rfl) (pl := docP) (by kernel_rfl) (cs := (docL d.media d.type nt31 (.slice A32 l32 c32) nt33 d.has (.slice A34 l34 c34))) rfl (vs := [(0, .string ⟨d.media.toArray⟩), (1, .string ⟨d.type.toArray⟩), (2, .agg nt31.toArray), (3, .slice A32 l32 c32), (4, .agg nt33.toArray), (5, .bool d.has), (6, .slice A34 l34 c34)]) (by with_unfolding_all rfl) (doc_fill hdl31.out hdl33.out) ?_)
 refine hK.out _ _ ((hF34.blk (i := 0) rfl)) (fun _ => ?_)
 clear hK K
 (try simp only [Act.put, List.setIfInBounds_toArray, List.set_cons_zero, List.set_cons_succ])
 refine rdy1 19 (fun K hK => ?_)
 refine stp (by with_unfolding_all rfl) (wp_fstA hF34 (i := 1) rfl (ds := (docL d.media d.type nt31 (.slice A32 l32 c32) nt33 d.has (.slice A34 l34 c34))) (by with_unfolding_all exact ⟨_, _, rfl, rfl, rfl⟩) (by rw [docL_len hdl31.out hdl33.out]; kernel_rfl) (docL_one hdo31.out hdo33.out rfl rfl) (by rw [docL_len hdl31.out hdl33.out, doc0_len]; decide) ?_)
 intro w35 hF35 hz35
 (try simp only [List.set_cons_zero, List.set_cons_succ] at hF35)
 rw [(spl_all (by rw [docL_len hdl31.out hdl33.out, doc0_len]) : spl doc0 0 (docL d.media d.type nt31 (.slice A32 l32 c32) nt33 d.has (.slice A34 l34 c34)) = _)] at hF35
 refine hK.out _ _ ((hF35.blk (i := 0) rfl)) (fun _ => ?_)
 clear hK K
 (try simp only [Act.put, List.setIfInBounds_toArray, List.set_cons_zero, List.set_cons_succ])
 refine wpAnyH_done (by kernel_rfl) ?_ _
 go_wp2_with fail
 exact bodyPost_ret (results_cellF rfl _ hF35 (i := 1) rfl rfl Tryz.underlying40 rfl (by rw [docL_len hdl31.out hdl33.out]; kernel_rfl)) rfl ⟨_, _, rfl, ⟨_, _, _, _, hvn31.mono (fun _ h => by simp [h]), ⟨A32, l32, c32, xs32, hlc32, hll32.out, rfl, hT32.mono (fun _ h => by simp [h]), hm32.imp id (fun h => by simp [h])⟩, hvn33.mono (fun _ h => by simp [h]), ⟨A34, l34, c34, hlc34, hll34.out, rfl, hm34.imp id (fun h => by simp [h])⟩, rfl⟩, hF35.tail.tail⟩
end Go.Proofs.YtlhicfpmlncomaaGreatDoor
