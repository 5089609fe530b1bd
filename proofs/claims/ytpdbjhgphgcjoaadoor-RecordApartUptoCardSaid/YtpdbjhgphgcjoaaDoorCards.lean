/-
  DERIVED. GIVEN WITH THE SEED: THE CARDS: each row of YtpdbjhgphgcjoaaDoorRows.lean that lists a variable, with what it lists TIED to the program's text (the seventh form; the later family's looks); each row that meets fmt, with fmt's text TOLD by the authors' own Lean function (tested against real Go, not proved from fmt's source: count such statements apart). THE CARD IS WHAT COUNTS. Prove the row's statement (the work); the ties are given (YtpdbjhgphgcjoaaDoorTie.lean); close each card by the builder's one call (the guide's Derived/Test/ToyasCard.lean, 'card_holds'). Laid BY PROGRAM, IN A SANDBOX (cutbox-door.mjs). By AI agents, Wed Nov 11 2026. No macro, syntax, notation, axiom, sorry.
-/
import Derived.Test.YtpdbjhgphgcjoaaDoorRows
import GoSem.ClaimSeven
namespace Go.Proofs.YtpdbjhgphgcjoaaDoor
namespace Rows

/-- THE TIED CARD OF 'hallmarklaw14.RecordWrites'. -/
def recordWritesCard : Claim7 := { stood := { row := recordWritesRow, standIns := [], harness := (true, "8e65288ea71d6cd5b664331fe879a3e4ba3f4f7695f6aa898dc5d559fa2cbd8b"), looks := false }, kinds := [], alts := [], laidByText := true, laidKinds := [.data, .pinned], laidTests := true, laidLooks := .later }
def RecordWritesCardSaid : Prop := Claim7.holds Tryd.pinned (.plain (OpenSpec.ofChange recordWritesSpec)) recordWritesCard

/-- THE TIED CARD OF 'hallmarklaw14.RecordReads'. -/
def recordReadsCard : Claim7 := { stood := { row := recordReadsRow, standIns := [], harness := (true, "8e65288ea71d6cd5b664331fe879a3e4ba3f4f7695f6aa898dc5d559fa2cbd8b"), looks := false }, kinds := [], alts := [], laidByText := true, laidKinds := [.data, .pinned], laidTests := true, laidLooks := .later }
def RecordReadsCardSaid : Prop := Claim7.holds Tryd.pinned (.plain (OpenSpec.ofChange recordReadsSpec)) recordReadsCard

/-- THE TIED CARD OF 'hallmarklaw14.RecordApart'. -/
def recordApartCard : Claim7 := { stood := { row := recordApartRow, standIns := [], harness := (true, "8e65288ea71d6cd5b664331fe879a3e4ba3f4f7695f6aa898dc5d559fa2cbd8b"), looks := false }, kinds := [], alts := [], laidByText := true, laidKinds := [.data, .pinned], laidTests := true, laidLooks := .later }
def RecordApartCardSaid : Prop := Claim7.holds Tryd.pinned (.plain (OpenSpec.ofChange recordApartSpec)) recordApartCard

/-- THE TIED CARD OF 'hallmarklaw14.RecordHeads'. -/
def recordHeadsCard : Claim7 := { stood := { row := recordHeadsRow, standIns := [], harness := (true, "8e65288ea71d6cd5b664331fe879a3e4ba3f4f7695f6aa898dc5d559fa2cbd8b"), looks := false }, kinds := [], alts := [], laidByText := true, laidKinds := [.data, .pinned], laidTests := true, laidLooks := .later }
def RecordHeadsCardSaid : Prop := Claim7.holds Tryd.pinned (.plain (OpenSpec.ofChange recordHeadsSpec)) recordHeadsCard

/-- THE SECOND FORM's CARD OF 'hallmarklaw14.RecordWrites'. -/
def recordWritesUptoCard : Claim7 := { stood := { row := recordWritesUptoRow, standIns := [], harness := (true, "8e65288ea71d6cd5b664331fe879a3e4ba3f4f7695f6aa898dc5d559fa2cbd8b"), looks := false }, kinds := [], alts := [], laidByText := true, laidKinds := [.data, .pinned], laidTests := true, laidLooks := .later }
def RecordWritesUptoCardSaid : Prop := Claim7.holds Tryd.pinned (.plain (OpenSpec.upto recordWritesSpec)) recordWritesUptoCard

/-- THE SECOND FORM's CARD OF 'hallmarklaw14.RecordReads'. -/
def recordReadsUptoCard : Claim7 := { stood := { row := recordReadsUptoRow, standIns := [], harness := (true, "8e65288ea71d6cd5b664331fe879a3e4ba3f4f7695f6aa898dc5d559fa2cbd8b"), looks := false }, kinds := [], alts := [], laidByText := true, laidKinds := [.data, .pinned], laidTests := true, laidLooks := .later }
def RecordReadsUptoCardSaid : Prop := Claim7.holds Tryd.pinned (.plain (OpenSpec.upto recordReadsSpec)) recordReadsUptoCard

/-- THE SECOND FORM's CARD OF 'hallmarklaw14.RecordApart'. -/
def recordApartUptoCard : Claim7 := { stood := { row := recordApartUptoRow, standIns := [], harness := (true, "8e65288ea71d6cd5b664331fe879a3e4ba3f4f7695f6aa898dc5d559fa2cbd8b"), looks := false }, kinds := [], alts := [], laidByText := true, laidKinds := [.data, .pinned], laidTests := true, laidLooks := .later }
def RecordApartUptoCardSaid : Prop := Claim7.holds Tryd.pinned (.plain (OpenSpec.upto recordApartSpec)) recordApartUptoCard

/-- THE SECOND FORM's CARD OF 'hallmarklaw14.RecordHeads'. -/
def recordHeadsUptoCard : Claim7 := { stood := { row := recordHeadsUptoRow, standIns := [], harness := (true, "8e65288ea71d6cd5b664331fe879a3e4ba3f4f7695f6aa898dc5d559fa2cbd8b"), looks := false }, kinds := [], alts := [], laidByText := true, laidKinds := [.data, .pinned], laidTests := true, laidLooks := .later }
def RecordHeadsUptoCardSaid : Prop := Claim7.holds Tryd.pinned (.plain (OpenSpec.upto recordHeadsSpec)) recordHeadsUptoCard
end Rows
end Go.Proofs.YtpdbjhgphgcjoaaDoor
