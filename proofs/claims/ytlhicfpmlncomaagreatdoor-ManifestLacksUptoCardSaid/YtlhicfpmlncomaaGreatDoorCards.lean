/-
  DERIVED. GIVEN WITH THE SEED: THE CARDS: each row of YtlhicfpmlncomaaGreatDoorRows.lean that lists a variable, with what it lists TIED to the program's text (the seventh form; the later family's looks); each row that meets fmt, with fmt's text TOLD by the authors' own Lean function (tested against real Go, not proved from fmt's source: count such statements apart). THE CARD IS WHAT COUNTS. Prove the row's statement (the work); the ties are given (YtlhicfpmlncomaaGreatDoorTie.lean); close each card by the builder's one call (the guide's Derived/Test/ToyasCard.lean, 'card_holds'). Laid BY PROGRAM, IN A SANDBOX (cutbox-door.mjs). By AI agents, Wed Nov 11 2026. No macro, syntax, notation, axiom, sorry.
-/
import Derived.Test.YtlhicfpmlncomaaGreatDoorRows
import GoSem.ClaimSeven
namespace Go.Proofs.YtlhicfpmlncomaaGreatDoor
namespace Rows

/-- THE TIED CARD OF 'hallmarklaw08.ManifestReads'. -/
def manifestReadsCard : Claim7 := { stood := { row := manifestReadsRow, standIns := [], harness := (true, "495e67e89ba3b588a3262f1cbf08ef8506feb62ec95fd0fbe6fcd0d16de3519e"), looks := true }, kinds := [], alts := [], laidByText := true, laidKinds := [.data, .data, .data, .data, .handle, .sentinel, .sentinel, .pinned], laidTests := true, laidLooks := .later }
def ManifestReadsCardSaid : Prop := Claim7.holds Tryz.pinned (.plain (OpenSpec.ofChange manifestReadsSpec)) manifestReadsCard

/-- THE TIED CARD OF 'hallmarklaw08.ManifestTells'. -/
def manifestTellsCard : Claim7 := { stood := { row := manifestTellsRow, standIns := [], harness := (true, "495e67e89ba3b588a3262f1cbf08ef8506feb62ec95fd0fbe6fcd0d16de3519e"), looks := true }, kinds := [], alts := [], laidByText := true, laidKinds := [.data, .data, .data, .data, .handle, .sentinel, .sentinel, .pinned], laidTests := true, laidLooks := .later }
def ManifestTellsCardSaid : Prop := Claim7.holds Tryz.pinned (.plain (OpenSpec.ofChange manifestTellsSpec)) manifestTellsCard

/-- THE TIED CARD OF 'hallmarklaw08.ManifestOrders'. -/
def manifestOrdersCard : Claim7 := { stood := { row := manifestOrdersRow, standIns := [], harness := (true, "495e67e89ba3b588a3262f1cbf08ef8506feb62ec95fd0fbe6fcd0d16de3519e"), looks := true }, kinds := [], alts := [], laidByText := true, laidKinds := [.data, .data, .data, .data, .handle, .sentinel, .sentinel, .pinned], laidTests := true, laidLooks := .later }
def ManifestOrdersCardSaid : Prop := Claim7.holds Tryz.pinned (.plain (OpenSpec.ofChange manifestOrdersSpec)) manifestOrdersCard

/-- THE TIED CARD OF 'hallmarklaw08.ManifestLacks'. -/
def manifestLacksCard : Claim7 := { stood := { row := manifestLacksRow, standIns := [], harness := (true, "495e67e89ba3b588a3262f1cbf08ef8506feb62ec95fd0fbe6fcd0d16de3519e"), looks := true }, kinds := [], alts := [], laidByText := true, laidKinds := [.data, .data, .data, .data, .handle, .sentinel, .sentinel, .pinned], laidTests := true, laidLooks := .later }
def ManifestLacksCardSaid : Prop := Claim7.holds Tryz.pinned (.plain (OpenSpec.ofChange manifestLacksSpec)) manifestLacksCard

/-- THE TIED CARD OF 'hallmarklaw08.ManifestNeeds'. -/
def manifestNeedsCard : Claim7 := { stood := { row := manifestNeedsRow, standIns := [], harness := (true, "495e67e89ba3b588a3262f1cbf08ef8506feb62ec95fd0fbe6fcd0d16de3519e"), looks := true }, kinds := [], alts := [], laidByText := true, laidKinds := [.data, .data, .data, .data, .handle, .sentinel, .sentinel, .pinned], laidTests := true, laidLooks := .later }
def ManifestNeedsCardSaid : Prop := Claim7.holds Tryz.pinned (.plain (OpenSpec.ofChange manifestNeedsSpec)) manifestNeedsCard

/-- THE TIED CARD OF 'hallmarklaw08.ManifestWrites'. -/
def manifestWritesCard : Claim7 := { stood := { row := manifestWritesRow, standIns := [], harness := (true, "495e67e89ba3b588a3262f1cbf08ef8506feb62ec95fd0fbe6fcd0d16de3519e"), looks := true }, kinds := [], alts := [], laidByText := true, laidKinds := [.data, .data, .data, .data, .handle, .sentinel, .sentinel, .pinned], laidTests := true, laidLooks := .later }
def ManifestWritesCardSaid : Prop := Claim7.holds Tryz.pinned (.plain (OpenSpec.ofChange manifestWritesSpec)) manifestWritesCard

/-- THE TIED CARD OF 'hallmarklaw08.ManifestBack'. -/
def manifestBackCard : Claim7 := { stood := { row := manifestBackRow, standIns := [], harness := (true, "495e67e89ba3b588a3262f1cbf08ef8506feb62ec95fd0fbe6fcd0d16de3519e"), looks := true }, kinds := [], alts := [], laidByText := true, laidKinds := [.data, .data, .data, .data, .handle, .sentinel, .sentinel, .pinned], laidTests := true, laidLooks := .later }
def ManifestBackCardSaid : Prop := Claim7.holds Tryz.pinned (.plain (OpenSpec.ofChange manifestBackSpec)) manifestBackCard

/-- THE SECOND FORM's CARD OF 'hallmarklaw08.ManifestReads'. -/
def manifestReadsUptoCard : Claim7 := { stood := { row := manifestReadsUptoRow, standIns := [], harness := (true, "495e67e89ba3b588a3262f1cbf08ef8506feb62ec95fd0fbe6fcd0d16de3519e"), looks := true }, kinds := [], alts := [], laidByText := true, laidKinds := [.data, .data, .data, .data, .handle, .sentinel, .sentinel, .pinned], laidTests := true, laidLooks := .later }
def ManifestReadsUptoCardSaid : Prop := Claim7.holds Tryz.pinned (.plain (OpenSpec.upto manifestReadsSpec)) manifestReadsUptoCard

/-- THE SECOND FORM's CARD OF 'hallmarklaw08.ManifestTells'. -/
def manifestTellsUptoCard : Claim7 := { stood := { row := manifestTellsUptoRow, standIns := [], harness := (true, "495e67e89ba3b588a3262f1cbf08ef8506feb62ec95fd0fbe6fcd0d16de3519e"), looks := true }, kinds := [], alts := [], laidByText := true, laidKinds := [.data, .data, .data, .data, .handle, .sentinel, .sentinel, .pinned], laidTests := true, laidLooks := .later }
def ManifestTellsUptoCardSaid : Prop := Claim7.holds Tryz.pinned (.plain (OpenSpec.upto manifestTellsSpec)) manifestTellsUptoCard

/-- THE SECOND FORM's CARD OF 'hallmarklaw08.ManifestOrders'. -/
def manifestOrdersUptoCard : Claim7 := { stood := { row := manifestOrdersUptoRow, standIns := [], harness := (true, "495e67e89ba3b588a3262f1cbf08ef8506feb62ec95fd0fbe6fcd0d16de3519e"), looks := true }, kinds := [], alts := [], laidByText := true, laidKinds := [.data, .data, .data, .data, .handle, .sentinel, .sentinel, .pinned], laidTests := true, laidLooks := .later }
def ManifestOrdersUptoCardSaid : Prop := Claim7.holds Tryz.pinned (.plain (OpenSpec.upto manifestOrdersSpec)) manifestOrdersUptoCard

/-- THE SECOND FORM's CARD OF 'hallmarklaw08.ManifestLacks'. -/
def manifestLacksUptoCard : Claim7 := { stood := { row := manifestLacksUptoRow, standIns := [], harness := (true, "495e67e89ba3b588a3262f1cbf08ef8506feb62ec95fd0fbe6fcd0d16de3519e"), looks := true }, kinds := [], alts := [], laidByText := true, laidKinds := [.data, .data, .data, .data, .handle, .sentinel, .sentinel, .pinned], laidTests := true, laidLooks := .later }
def ManifestLacksUptoCardSaid : Prop := Claim7.holds Tryz.pinned (.plain (OpenSpec.upto manifestLacksSpec)) manifestLacksUptoCard

/-- THE SECOND FORM's CARD OF 'hallmarklaw08.ManifestNeeds'. -/
def manifestNeedsUptoCard : Claim7 := { stood := { row := manifestNeedsUptoRow, standIns := [], harness := (true, "495e67e89ba3b588a3262f1cbf08ef8506feb62ec95fd0fbe6fcd0d16de3519e"), looks := true }, kinds := [], alts := [], laidByText := true, laidKinds := [.data, .data, .data, .data, .handle, .sentinel, .sentinel, .pinned], laidTests := true, laidLooks := .later }
def ManifestNeedsUptoCardSaid : Prop := Claim7.holds Tryz.pinned (.plain (OpenSpec.upto manifestNeedsSpec)) manifestNeedsUptoCard

/-- THE SECOND FORM's CARD OF 'hallmarklaw08.ManifestWrites'. -/
def manifestWritesUptoCard : Claim7 := { stood := { row := manifestWritesUptoRow, standIns := [], harness := (true, "495e67e89ba3b588a3262f1cbf08ef8506feb62ec95fd0fbe6fcd0d16de3519e"), looks := true }, kinds := [], alts := [], laidByText := true, laidKinds := [.data, .data, .data, .data, .handle, .sentinel, .sentinel, .pinned], laidTests := true, laidLooks := .later }
def ManifestWritesUptoCardSaid : Prop := Claim7.holds Tryz.pinned (.plain (OpenSpec.upto manifestWritesSpec)) manifestWritesUptoCard

/-- THE SECOND FORM's CARD OF 'hallmarklaw08.ManifestBack'. -/
def manifestBackUptoCard : Claim7 := { stood := { row := manifestBackUptoRow, standIns := [], harness := (true, "495e67e89ba3b588a3262f1cbf08ef8506feb62ec95fd0fbe6fcd0d16de3519e"), looks := true }, kinds := [], alts := [], laidByText := true, laidKinds := [.data, .data, .data, .data, .handle, .sentinel, .sentinel, .pinned], laidTests := true, laidLooks := .later }
def ManifestBackUptoCardSaid : Prop := Claim7.holds Tryz.pinned (.plain (OpenSpec.upto manifestBackSpec)) manifestBackUptoCard
end Rows
end Go.Proofs.YtlhicfpmlncomaaGreatDoor
