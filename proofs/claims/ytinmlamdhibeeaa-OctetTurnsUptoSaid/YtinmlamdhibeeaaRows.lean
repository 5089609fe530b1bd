/-
  No cell of these rows narrows 'for every input' (looked for: loops, veiled, ifaces, maps, wideKeys, modest, calm, conditions, laid).
  DERIVED. THE GIVEN ROWS OF THIS SEAT. 10 by the template 'for every input the law returns true; each argument reads behind the call as it read before'; 0 by the template 'total and deterministic' (their statements: YtinmlamdhibeeaaTotals.lean).
  GIVEN WITH THE SEED: the statements are not yours to turn. If you find one false, say at which input.
  Laid BY PROGRAM, IN A SANDBOX (cutbox-rows.mjs): the forced cells as the released guide's own fill.sh prints them over the translation 0421049bd1856479… (all of the seat's roots in one cut). By AI agents, Wed Nov 11 2026. No macro, syntax, notation, axiom, sorry.
-/
import Derived.Test.YtinmlamdhibeeaaChecked
import GoSem.Claim
import GoSem.ClaimJoined
import GoSem.ClaimMapViews
import Derived.JoinedTies
import Derived.KernelRfl
namespace Go.Proofs.Ytinmlamdhibeeaa
/- THE CELL 'sum', in the pinned program and in every row, IS THE sha256 OF THE DUMP (.gsa) THAT YtinmlamdhibeeaaProg.lean LOADS. Nothing in Lean hashes anything: it is a label: what it is worth is what the hold of that sum in a sandbox is worth. -/
noncomputable def Try.pinned : Pinned := { name := "ytinmlamdhibeeaa", sum := "0421049bd1856479c0c236de6c63759c8a7d5495a8b7a2e740f32b5d814c0471", checked := Try.checked }
namespace Rows
def none {H : Type} : Left H := { results := [], args := [] }

/-- 'hallmarklaw01.OctetRots': WHATEVER THE INPUT: true; the input reads as it did. -/
def octetRotsSpec : ChangeSpec := { name := "octetRots", fn := fun _ => fun
  | [d1, d2] => { results := [.lit (.bool true)], args := [d1, d2] }
  | _ => none }
def octetRotsRow : OpenClaim := { program := "ytinmlamdhibeeaa", sum := "0421049bd1856479c0c236de6c63759c8a7d5495a8b7a2e740f32b5d814c0471", func := "hallmark/hallmarklaw01.OctetRots", spec := "octetRots", apart := false }
def OctetRotsSaid : Prop := octetRotsRow.holds Try.pinned (OpenSpec.ofChange octetRotsSpec)

/-- ITS FALSE NEIGHBOUR: 'it returns false'. Refute it at one input. -/
def octetRotsWrong : ChangeSpec := { name := "octetRots", fn := fun _ => fun
  | [d1, d2] => { results := [.lit (.bool false)], args := [d1, d2] }
  | _ => none }
def OctetRotsWrongFalsely : Prop := octetRotsRow.holds Try.pinned (OpenSpec.ofChange octetRotsWrong)

/-- 'hallmarklaw01.OctetCrcs': WHATEVER THE INPUT: true; the input reads as it did. -/
def octetCrcsSpec : ChangeSpec := { name := "octetCrcs", fn := fun _ => fun
  | [d] => { results := [.lit (.bool true)], args := [d] }
  | _ => none }
def octetCrcsRow : OpenClaim := { program := "ytinmlamdhibeeaa", sum := "0421049bd1856479c0c236de6c63759c8a7d5495a8b7a2e740f32b5d814c0471", func := "hallmark/hallmarklaw01.OctetCrcs", spec := "octetCrcs", apart := false }
def OctetCrcsSaid : Prop := octetCrcsRow.holds Try.pinned (OpenSpec.ofChange octetCrcsSpec)

/-- ITS FALSE NEIGHBOUR: 'it returns false'. Refute it at one input. -/
def octetCrcsWrong : ChangeSpec := { name := "octetCrcs", fn := fun _ => fun
  | [d] => { results := [.lit (.bool false)], args := [d] }
  | _ => none }
def OctetCrcsWrongFalsely : Prop := octetCrcsRow.holds Try.pinned (OpenSpec.ofChange octetCrcsWrong)

/-- 'hallmarklaw01.OctetTurns': WHATEVER THE INPUT: true; the input reads as it did. -/
def octetTurnsSpec : ChangeSpec := { name := "octetTurns", fn := fun _ => fun
  | [d1, d2, d3] => { results := [.lit (.bool true)], args := [d1, d2, d3] }
  | _ => none }
def octetTurnsRow : OpenClaim := { program := "ytinmlamdhibeeaa", sum := "0421049bd1856479c0c236de6c63759c8a7d5495a8b7a2e740f32b5d814c0471", func := "hallmark/hallmarklaw01.OctetTurns", spec := "octetTurns", apart := false }
def OctetTurnsSaid : Prop := octetTurnsRow.holds Try.pinned (OpenSpec.ofChange octetTurnsSpec)

/-- ITS FALSE NEIGHBOUR: 'it returns false'. Refute it at one input. -/
def octetTurnsWrong : ChangeSpec := { name := "octetTurns", fn := fun _ => fun
  | [d1, d2, d3] => { results := [.lit (.bool false)], args := [d1, d2, d3] }
  | _ => none }
def OctetTurnsWrongFalsely : Prop := octetTurnsRow.holds Try.pinned (OpenSpec.ofChange octetTurnsWrong)

/-- 'hallmarklaw01.OctetCounts': WHATEVER THE INPUT: true; the input reads as it did. -/
def octetCountsSpec : ChangeSpec := { name := "octetCounts", fn := fun _ => fun
  | [d1, d2] => { results := [.lit (.bool true)], args := [d1, d2] }
  | _ => none }
def octetCountsRow : OpenClaim := { program := "ytinmlamdhibeeaa", sum := "0421049bd1856479c0c236de6c63759c8a7d5495a8b7a2e740f32b5d814c0471", func := "hallmark/hallmarklaw01.OctetCounts", spec := "octetCounts", apart := false }
def OctetCountsSaid : Prop := octetCountsRow.holds Try.pinned (OpenSpec.ofChange octetCountsSpec)

/-- ITS FALSE NEIGHBOUR: 'it returns false'. Refute it at one input. -/
def octetCountsWrong : ChangeSpec := { name := "octetCounts", fn := fun _ => fun
  | [d1, d2] => { results := [.lit (.bool false)], args := [d1, d2] }
  | _ => none }
def OctetCountsWrongFalsely : Prop := octetCountsRow.holds Try.pinned (OpenSpec.ofChange octetCountsWrong)

/-- 'hallmarklaw01.OctetCountBack': WHATEVER THE INPUT: true; the input reads as it did. -/
def octetCountBackSpec : ChangeSpec := { name := "octetCountBack", fn := fun _ => fun
  | [d1, d2] => { results := [.lit (.bool true)], args := [d1, d2] }
  | _ => none }
def octetCountBackRow : OpenClaim := { program := "ytinmlamdhibeeaa", sum := "0421049bd1856479c0c236de6c63759c8a7d5495a8b7a2e740f32b5d814c0471", func := "hallmark/hallmarklaw01.OctetCountBack", spec := "octetCountBack", apart := false }
def OctetCountBackSaid : Prop := octetCountBackRow.holds Try.pinned (OpenSpec.ofChange octetCountBackSpec)

/-- ITS FALSE NEIGHBOUR: 'it returns false'. Refute it at one input. -/
def octetCountBackWrong : ChangeSpec := { name := "octetCountBack", fn := fun _ => fun
  | [d1, d2] => { results := [.lit (.bool false)], args := [d1, d2] }
  | _ => none }
def OctetCountBackWrongFalsely : Prop := octetCountBackRow.holds Try.pinned (OpenSpec.ofChange octetCountBackWrong)

/-- 'hallmarklaw01.OctetBack': WHATEVER THE INPUT: true; the input reads as it did. -/
def octetBackSpec : ChangeSpec := { name := "octetBack", fn := fun _ => fun
  | [d1, d2] => { results := [.lit (.bool true)], args := [d1, d2] }
  | _ => none }
def octetBackRow : OpenClaim := { program := "ytinmlamdhibeeaa", sum := "0421049bd1856479c0c236de6c63759c8a7d5495a8b7a2e740f32b5d814c0471", func := "hallmark/hallmarklaw01.OctetBack", spec := "octetBack", apart := false }
def OctetBackSaid : Prop := octetBackRow.holds Try.pinned (OpenSpec.ofChange octetBackSpec)

/-- ITS FALSE NEIGHBOUR: 'it returns false'. Refute it at one input. -/
def octetBackWrong : ChangeSpec := { name := "octetBack", fn := fun _ => fun
  | [d1, d2] => { results := [.lit (.bool false)], args := [d1, d2] }
  | _ => none }
def OctetBackWrongFalsely : Prop := octetBackRow.holds Try.pinned (OpenSpec.ofChange octetBackWrong)

/-- 'hallmarklaw01.OctetTexts': WHATEVER THE INPUT: true; the input reads as it did. -/
def octetTextsSpec : ChangeSpec := { name := "octetTexts", fn := fun _ => fun
  | [d1, d2, d3] => { results := [.lit (.bool true)], args := [d1, d2, d3] }
  | _ => none }
def octetTextsRow : OpenClaim := { program := "ytinmlamdhibeeaa", sum := "0421049bd1856479c0c236de6c63759c8a7d5495a8b7a2e740f32b5d814c0471", func := "hallmark/hallmarklaw01.OctetTexts", spec := "octetTexts", apart := false }
def OctetTextsSaid : Prop := octetTextsRow.holds Try.pinned (OpenSpec.ofChange octetTextsSpec)

/-- ITS FALSE NEIGHBOUR: 'it returns false'. Refute it at one input. -/
def octetTextsWrong : ChangeSpec := { name := "octetTexts", fn := fun _ => fun
  | [d1, d2, d3] => { results := [.lit (.bool false)], args := [d1, d2, d3] }
  | _ => none }
def OctetTextsWrongFalsely : Prop := octetTextsRow.holds Try.pinned (OpenSpec.ofChange octetTextsWrong)

/-- 'hallmarklaw01.OctetKeeps': WHATEVER THE INPUT: true; the input reads as it did. -/
def octetKeepsSpec : ChangeSpec := { name := "octetKeeps", fn := fun _ => fun
  | [d] => { results := [.lit (.bool true)], args := [d] }
  | _ => none }
def octetKeepsRow : OpenClaim := { program := "ytinmlamdhibeeaa", sum := "0421049bd1856479c0c236de6c63759c8a7d5495a8b7a2e740f32b5d814c0471", func := "hallmark/hallmarklaw01.OctetKeeps", spec := "octetKeeps", apart := false }
def OctetKeepsSaid : Prop := octetKeepsRow.holds Try.pinned (OpenSpec.ofChange octetKeepsSpec)

/-- ITS FALSE NEIGHBOUR: 'it returns false'. Refute it at one input. -/
def octetKeepsWrong : ChangeSpec := { name := "octetKeeps", fn := fun _ => fun
  | [d] => { results := [.lit (.bool false)], args := [d] }
  | _ => none }
def OctetKeepsWrongFalsely : Prop := octetKeepsRow.holds Try.pinned (OpenSpec.ofChange octetKeepsWrong)

/-- 'hallmarklaw01.OctetHexes': WHATEVER THE INPUT: true; the input reads as it did. -/
def octetHexesSpec : ChangeSpec := { name := "octetHexes", fn := fun _ => fun
  | [d1, d2] => { results := [.lit (.bool true)], args := [d1, d2] }
  | _ => none }
def octetHexesRow : OpenClaim := { program := "ytinmlamdhibeeaa", sum := "0421049bd1856479c0c236de6c63759c8a7d5495a8b7a2e740f32b5d814c0471", func := "hallmark/hallmarklaw01.OctetHexes", spec := "octetHexes", apart := false }
def OctetHexesSaid : Prop := octetHexesRow.holds Try.pinned (OpenSpec.ofChange octetHexesSpec)

/-- ITS FALSE NEIGHBOUR: 'it returns false'. Refute it at one input. -/
def octetHexesWrong : ChangeSpec := { name := "octetHexes", fn := fun _ => fun
  | [d1, d2] => { results := [.lit (.bool false)], args := [d1, d2] }
  | _ => none }
def OctetHexesWrongFalsely : Prop := octetHexesRow.holds Try.pinned (OpenSpec.ofChange octetHexesWrong)

/-- 'hallmarklaw01.OctetNumbers': WHATEVER THE INPUT: true; the input reads as it did. -/
def octetNumbersSpec : ChangeSpec := { name := "octetNumbers", fn := fun _ => fun
  | [d1, d2, d3, d4] => { results := [.lit (.bool true)], args := [d1, d2, d3, d4] }
  | _ => none }
def octetNumbersRow : OpenClaim := { program := "ytinmlamdhibeeaa", sum := "0421049bd1856479c0c236de6c63759c8a7d5495a8b7a2e740f32b5d814c0471", func := "hallmark/hallmarklaw01.OctetNumbers", spec := "octetNumbers", apart := false }
def OctetNumbersSaid : Prop := octetNumbersRow.holds Try.pinned (OpenSpec.ofChange octetNumbersSpec)

/-- ITS FALSE NEIGHBOUR: 'it returns false'. Refute it at one input. -/
def octetNumbersWrong : ChangeSpec := { name := "octetNumbers", fn := fun _ => fun
  | [d1, d2, d3, d4] => { results := [.lit (.bool false)], args := [d1, d2, d3, d4] }
  | _ => none }
def OctetNumbersWrongFalsely : Prop := octetNumbersRow.holds Try.pinned (OpenSpec.ofChange octetNumbersWrong)

/- THE SECOND FORM. 'bulk': how many values and letters a reading holds, each counted each time it is reached (what is shared counts as often as it is met; a slice's spare places count too). A statement '..UptoSaid' is the law's where the arguments, and the package variables that the reading takes, are together of bulk at most 1048576: NARROWER than '..Said'. Prove '..Said' where nothing that the law and all that it calls make is longer than what came in: it says more and counts as full. Else prove '..UptoSaid'. A law counts once. -/
mutual
def uptoBulk {H : Type} : DataW H → Nat
  | .lit (.string bytes) => bytes.length + 1
  | .lit _ => 1
  | .nil => 1
  | .ptr d => uptoBulk d + 1
  | .slice elems spare => uptoBulkAll elems + uptoBulkAll spare + 1
  | .agg parts => uptoBulkAll parts + 1
  | .iface _ d => uptoBulk d + 1
  | .map entries => uptoBulkEntries entries + 1
  | .held _ => 1
def uptoBulkAll {H : Type} : List (DataW H) → Nat
  | [] => 0
  | d :: r => uptoBulk d + uptoBulkAll r
def uptoBulkEntries {H : Type} : List (Lit × DataW H) → Nat
  | [] => 0
  | x :: r => uptoBulkEntry x + uptoBulkEntries r
def uptoBulkEntry {H : Type} : Lit × DataW H → Nat
  | (.string bytes, d) => bytes.length + uptoBulk d + 1
  | (_, d) => uptoBulk d + 1
 end
def uptoSmall : (H : Type) → List (DataW H) → Bool := fun _ ds => decide (uptoBulkAll ds ≤ 1048576)
def OpenSpec.upto (s : _root_.Go.ChangeSpec) : _root_.Go.OpenSpec := { _root_.Go.OpenSpec.ofChange s with cond := some uptoSmall }

/-- 'hallmarklaw01.OctetRots', WHERE WHAT IT READS IS OF BULK AT MOST 1048576: true; the input reads as it did. -/
def octetRotsUptoRow : OpenClaim := { program := "ytinmlamdhibeeaa", sum := "0421049bd1856479c0c236de6c63759c8a7d5495a8b7a2e740f32b5d814c0471", func := "hallmark/hallmarklaw01.OctetRots", spec := "octetRots", apart := false, narrowed := true }
def OctetRotsUptoSaid : Prop := octetRotsUptoRow.holds Try.pinned (OpenSpec.upto octetRotsSpec)

/-- 'hallmarklaw01.OctetCrcs', WHERE WHAT IT READS IS OF BULK AT MOST 1048576: true; the input reads as it did. -/
def octetCrcsUptoRow : OpenClaim := { program := "ytinmlamdhibeeaa", sum := "0421049bd1856479c0c236de6c63759c8a7d5495a8b7a2e740f32b5d814c0471", func := "hallmark/hallmarklaw01.OctetCrcs", spec := "octetCrcs", apart := false, narrowed := true }
def OctetCrcsUptoSaid : Prop := octetCrcsUptoRow.holds Try.pinned (OpenSpec.upto octetCrcsSpec)

/-- 'hallmarklaw01.OctetTurns', WHERE WHAT IT READS IS OF BULK AT MOST 1048576: true; the input reads as it did. -/
def octetTurnsUptoRow : OpenClaim := { program := "ytinmlamdhibeeaa", sum := "0421049bd1856479c0c236de6c63759c8a7d5495a8b7a2e740f32b5d814c0471", func := "hallmark/hallmarklaw01.OctetTurns", spec := "octetTurns", apart := false, narrowed := true }
def OctetTurnsUptoSaid : Prop := octetTurnsUptoRow.holds Try.pinned (OpenSpec.upto octetTurnsSpec)

/-- 'hallmarklaw01.OctetCounts', WHERE WHAT IT READS IS OF BULK AT MOST 1048576: true; the input reads as it did. -/
def octetCountsUptoRow : OpenClaim := { program := "ytinmlamdhibeeaa", sum := "0421049bd1856479c0c236de6c63759c8a7d5495a8b7a2e740f32b5d814c0471", func := "hallmark/hallmarklaw01.OctetCounts", spec := "octetCounts", apart := false, narrowed := true }
def OctetCountsUptoSaid : Prop := octetCountsUptoRow.holds Try.pinned (OpenSpec.upto octetCountsSpec)

/-- 'hallmarklaw01.OctetCountBack', WHERE WHAT IT READS IS OF BULK AT MOST 1048576: true; the input reads as it did. -/
def octetCountBackUptoRow : OpenClaim := { program := "ytinmlamdhibeeaa", sum := "0421049bd1856479c0c236de6c63759c8a7d5495a8b7a2e740f32b5d814c0471", func := "hallmark/hallmarklaw01.OctetCountBack", spec := "octetCountBack", apart := false, narrowed := true }
def OctetCountBackUptoSaid : Prop := octetCountBackUptoRow.holds Try.pinned (OpenSpec.upto octetCountBackSpec)

/-- 'hallmarklaw01.OctetBack', WHERE WHAT IT READS IS OF BULK AT MOST 1048576: true; the input reads as it did. -/
def octetBackUptoRow : OpenClaim := { program := "ytinmlamdhibeeaa", sum := "0421049bd1856479c0c236de6c63759c8a7d5495a8b7a2e740f32b5d814c0471", func := "hallmark/hallmarklaw01.OctetBack", spec := "octetBack", apart := false, narrowed := true }
def OctetBackUptoSaid : Prop := octetBackUptoRow.holds Try.pinned (OpenSpec.upto octetBackSpec)

/-- 'hallmarklaw01.OctetTexts', WHERE WHAT IT READS IS OF BULK AT MOST 1048576: true; the input reads as it did. -/
def octetTextsUptoRow : OpenClaim := { program := "ytinmlamdhibeeaa", sum := "0421049bd1856479c0c236de6c63759c8a7d5495a8b7a2e740f32b5d814c0471", func := "hallmark/hallmarklaw01.OctetTexts", spec := "octetTexts", apart := false, narrowed := true }
def OctetTextsUptoSaid : Prop := octetTextsUptoRow.holds Try.pinned (OpenSpec.upto octetTextsSpec)

/-- 'hallmarklaw01.OctetKeeps', WHERE WHAT IT READS IS OF BULK AT MOST 1048576: true; the input reads as it did. -/
def octetKeepsUptoRow : OpenClaim := { program := "ytinmlamdhibeeaa", sum := "0421049bd1856479c0c236de6c63759c8a7d5495a8b7a2e740f32b5d814c0471", func := "hallmark/hallmarklaw01.OctetKeeps", spec := "octetKeeps", apart := false, narrowed := true }
def OctetKeepsUptoSaid : Prop := octetKeepsUptoRow.holds Try.pinned (OpenSpec.upto octetKeepsSpec)

/-- 'hallmarklaw01.OctetHexes', WHERE WHAT IT READS IS OF BULK AT MOST 1048576: true; the input reads as it did. -/
def octetHexesUptoRow : OpenClaim := { program := "ytinmlamdhibeeaa", sum := "0421049bd1856479c0c236de6c63759c8a7d5495a8b7a2e740f32b5d814c0471", func := "hallmark/hallmarklaw01.OctetHexes", spec := "octetHexes", apart := false, narrowed := true }
def OctetHexesUptoSaid : Prop := octetHexesUptoRow.holds Try.pinned (OpenSpec.upto octetHexesSpec)

/-- 'hallmarklaw01.OctetNumbers', WHERE WHAT IT READS IS OF BULK AT MOST 1048576: true; the input reads as it did. -/
def octetNumbersUptoRow : OpenClaim := { program := "ytinmlamdhibeeaa", sum := "0421049bd1856479c0c236de6c63759c8a7d5495a8b7a2e740f32b5d814c0471", func := "hallmark/hallmarklaw01.OctetNumbers", spec := "octetNumbers", apart := false, narrowed := true }
def OctetNumbersUptoSaid : Prop := octetNumbersUptoRow.holds Try.pinned (OpenSpec.upto octetNumbersSpec)

end Rows
end Go.Proofs.Ytinmlamdhibeeaa
