/-
  DERIVED. GIVEN WITH THE SEED: THE CARDS: each row of YtdekogmegdhjoaaDoorRows.lean that lists a variable, with what it lists TIED to the program's text (the seventh form; the later family's looks); each row that meets fmt, with fmt's text TOLD by the authors' own Lean function (tested against real Go, not proved from fmt's source: count such statements apart). THE CARD IS WHAT COUNTS. Prove the row's statement (the work); the ties are given (YtdekogmegdhjoaaDoorTie.lean); close each card by the builder's one call (the guide's Derived/Test/ToyasCard.lean, 'card_holds'). Laid BY PROGRAM, IN A SANDBOX (cutbox-door.mjs). By AI agents, Wed Nov 11 2026. No macro, syntax, notation, axiom, sorry.
-/
import Derived.Test.YtdekogmegdhjoaaDoorRows
import GoSem.ClaimSeven
namespace Go.Proofs.YtdekogmegdhjoaaDoor
namespace Rows

/-- THE TIED CARD OF 'hallmarklaw06.JsonReads'. -/
def jsonReadsCard : Claim7 := { stood := { row := jsonReadsRow, standIns := [], harness := (true, "da6c057f84279c6c0419b21c2ca1f82d42f22230274f8eb82231982c397bb9d6"), looks := true }, kinds := [], alts := [], laidByText := true, laidKinds := [.data, .data, .data, .data, .sentinel, .sentinel, .pinned], laidTests := true, laidLooks := .later }
def JsonReadsCardSaid : Prop := Claim7.holds Tryd.pinned (.plain (OpenSpec.ofChange jsonReadsSpec)) jsonReadsCard

/-- THE TIED CARD OF 'hallmarklaw06.JsonNests'. -/
def jsonNestsCard : Claim7 := { stood := { row := jsonNestsRow, standIns := [], harness := (true, "da6c057f84279c6c0419b21c2ca1f82d42f22230274f8eb82231982c397bb9d6"), looks := true }, kinds := [], alts := [], laidByText := true, laidKinds := [.data, .data, .data, .data, .sentinel, .sentinel, .pinned], laidTests := true, laidLooks := .later }
def JsonNestsCardSaid : Prop := Claim7.holds Tryd.pinned (.plain (OpenSpec.ofChange jsonNestsSpec)) jsonNestsCard

/-- THE TIED CARD OF 'hallmarklaw06.JsonFields'. -/
def jsonFieldsCard : Claim7 := { stood := { row := jsonFieldsRow, standIns := [], harness := (true, "da6c057f84279c6c0419b21c2ca1f82d42f22230274f8eb82231982c397bb9d6"), looks := true }, kinds := [], alts := [], laidByText := true, laidKinds := [.data, .data, .data, .data, .sentinel, .sentinel, .pinned], laidTests := true, laidLooks := .later }
def JsonFieldsCardSaid : Prop := Claim7.holds Tryd.pinned (.plain (OpenSpec.ofChange jsonFieldsSpec)) jsonFieldsCard

/-- THE TIED CARD OF 'hallmarklaw06.JsonWrites'. -/
def jsonWritesCard : Claim7 := { stood := { row := jsonWritesRow, standIns := [], harness := (true, "da6c057f84279c6c0419b21c2ca1f82d42f22230274f8eb82231982c397bb9d6"), looks := true }, kinds := [], alts := [], laidByText := true, laidKinds := [.data, .data, .data, .data, .sentinel, .sentinel, .pinned], laidTests := true, laidLooks := .later }
def JsonWritesCardSaid : Prop := Claim7.holds Tryd.pinned (.plain (OpenSpec.ofChange jsonWritesSpec)) jsonWritesCard

/-- THE TIED CARD OF 'hallmarklaw06.JsonBack'. -/
def jsonBackCard : Claim7 := { stood := { row := jsonBackRow, standIns := [], harness := (true, "da6c057f84279c6c0419b21c2ca1f82d42f22230274f8eb82231982c397bb9d6"), looks := true }, kinds := [], alts := [], laidByText := true, laidKinds := [.data, .data, .data, .data, .sentinel, .sentinel, .pinned], laidTests := true, laidLooks := .later }
def JsonBackCardSaid : Prop := Claim7.holds Tryd.pinned (.plain (OpenSpec.ofChange jsonBackSpec)) jsonBackCard

/-- THE TIED CARD OF 'hallmarklaw06.JsonTwice'. -/
def jsonTwiceCard : Claim7 := { stood := { row := jsonTwiceRow, standIns := [], harness := (true, "da6c057f84279c6c0419b21c2ca1f82d42f22230274f8eb82231982c397bb9d6"), looks := true }, kinds := [], alts := [], laidByText := true, laidKinds := [.data, .data, .data, .data, .sentinel, .sentinel, .pinned], laidTests := true, laidLooks := .later }
def JsonTwiceCardSaid : Prop := Claim7.holds Tryd.pinned (.plain (OpenSpec.ofChange jsonTwiceSpec)) jsonTwiceCard

/-- THE TIED CARD OF 'hallmarklaw06.JsonBlanks'. -/
def jsonBlanksCard : Claim7 := { stood := { row := jsonBlanksRow, standIns := [], harness := (true, "da6c057f84279c6c0419b21c2ca1f82d42f22230274f8eb82231982c397bb9d6"), looks := true }, kinds := [], alts := [], laidByText := true, laidKinds := [.data, .data, .data, .data, .sentinel, .sentinel, .pinned], laidTests := true, laidLooks := .later }
def JsonBlanksCardSaid : Prop := Claim7.holds Tryd.pinned (.plain (OpenSpec.ofChange jsonBlanksSpec)) jsonBlanksCard

/-- THE SECOND FORM's CARD OF 'hallmarklaw06.JsonReads'. -/
def jsonReadsUptoCard : Claim7 := { stood := { row := jsonReadsUptoRow, standIns := [], harness := (true, "da6c057f84279c6c0419b21c2ca1f82d42f22230274f8eb82231982c397bb9d6"), looks := true }, kinds := [], alts := [], laidByText := true, laidKinds := [.data, .data, .data, .data, .sentinel, .sentinel, .pinned], laidTests := true, laidLooks := .later }
def JsonReadsUptoCardSaid : Prop := Claim7.holds Tryd.pinned (.plain (OpenSpec.upto jsonReadsSpec)) jsonReadsUptoCard

/-- THE SECOND FORM's CARD OF 'hallmarklaw06.JsonNests'. -/
def jsonNestsUptoCard : Claim7 := { stood := { row := jsonNestsUptoRow, standIns := [], harness := (true, "da6c057f84279c6c0419b21c2ca1f82d42f22230274f8eb82231982c397bb9d6"), looks := true }, kinds := [], alts := [], laidByText := true, laidKinds := [.data, .data, .data, .data, .sentinel, .sentinel, .pinned], laidTests := true, laidLooks := .later }
def JsonNestsUptoCardSaid : Prop := Claim7.holds Tryd.pinned (.plain (OpenSpec.upto jsonNestsSpec)) jsonNestsUptoCard

/-- THE SECOND FORM's CARD OF 'hallmarklaw06.JsonFields'. -/
def jsonFieldsUptoCard : Claim7 := { stood := { row := jsonFieldsUptoRow, standIns := [], harness := (true, "da6c057f84279c6c0419b21c2ca1f82d42f22230274f8eb82231982c397bb9d6"), looks := true }, kinds := [], alts := [], laidByText := true, laidKinds := [.data, .data, .data, .data, .sentinel, .sentinel, .pinned], laidTests := true, laidLooks := .later }
def JsonFieldsUptoCardSaid : Prop := Claim7.holds Tryd.pinned (.plain (OpenSpec.upto jsonFieldsSpec)) jsonFieldsUptoCard

/-- THE SECOND FORM's CARD OF 'hallmarklaw06.JsonWrites'. -/
def jsonWritesUptoCard : Claim7 := { stood := { row := jsonWritesUptoRow, standIns := [], harness := (true, "da6c057f84279c6c0419b21c2ca1f82d42f22230274f8eb82231982c397bb9d6"), looks := true }, kinds := [], alts := [], laidByText := true, laidKinds := [.data, .data, .data, .data, .sentinel, .sentinel, .pinned], laidTests := true, laidLooks := .later }
def JsonWritesUptoCardSaid : Prop := Claim7.holds Tryd.pinned (.plain (OpenSpec.upto jsonWritesSpec)) jsonWritesUptoCard

/-- THE SECOND FORM's CARD OF 'hallmarklaw06.JsonBack'. -/
def jsonBackUptoCard : Claim7 := { stood := { row := jsonBackUptoRow, standIns := [], harness := (true, "da6c057f84279c6c0419b21c2ca1f82d42f22230274f8eb82231982c397bb9d6"), looks := true }, kinds := [], alts := [], laidByText := true, laidKinds := [.data, .data, .data, .data, .sentinel, .sentinel, .pinned], laidTests := true, laidLooks := .later }
def JsonBackUptoCardSaid : Prop := Claim7.holds Tryd.pinned (.plain (OpenSpec.upto jsonBackSpec)) jsonBackUptoCard

/-- THE SECOND FORM's CARD OF 'hallmarklaw06.JsonTwice'. -/
def jsonTwiceUptoCard : Claim7 := { stood := { row := jsonTwiceUptoRow, standIns := [], harness := (true, "da6c057f84279c6c0419b21c2ca1f82d42f22230274f8eb82231982c397bb9d6"), looks := true }, kinds := [], alts := [], laidByText := true, laidKinds := [.data, .data, .data, .data, .sentinel, .sentinel, .pinned], laidTests := true, laidLooks := .later }
def JsonTwiceUptoCardSaid : Prop := Claim7.holds Tryd.pinned (.plain (OpenSpec.upto jsonTwiceSpec)) jsonTwiceUptoCard

/-- THE SECOND FORM's CARD OF 'hallmarklaw06.JsonBlanks'. -/
def jsonBlanksUptoCard : Claim7 := { stood := { row := jsonBlanksUptoRow, standIns := [], harness := (true, "da6c057f84279c6c0419b21c2ca1f82d42f22230274f8eb82231982c397bb9d6"), looks := true }, kinds := [], alts := [], laidByText := true, laidKinds := [.data, .data, .data, .data, .sentinel, .sentinel, .pinned], laidTests := true, laidLooks := .later }
def JsonBlanksUptoCardSaid : Prop := Claim7.holds Tryd.pinned (.plain (OpenSpec.upto jsonBlanksSpec)) jsonBlanksUptoCard
end Rows
end Go.Proofs.YtdekogmegdhjoaaDoor
