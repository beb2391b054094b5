/-
  DERIVED. GIVEN WITH THE SEED: THE CARDS: each row of YtklfieidipobpaaDoorRows.lean that lists a variable, with what it lists TIED to the program's text (the seventh form; the later family's looks); each row that meets fmt, with fmt's text TOLD by the authors' own Lean function (tested against real Go, not proved from fmt's source: count such statements apart). THE CARD IS WHAT COUNTS. Prove the row's statement (the work); the ties are given (YtklfieidipobpaaDoorTie.lean); close each card by the builder's one call (the guide's Derived/Test/ToyasCard.lean, 'card_holds'). Laid BY PROGRAM, IN A SANDBOX (cutbox-door.mjs). By AI agents, Wed Nov 11 2026. No macro, syntax, notation, axiom, sorry.
-/
import Derived.Test.YtklfieidipobpaaDoorRows
import GoSem.ClaimSeven
namespace Go.Proofs.YtklfieidipobpaaDoor
namespace Rows

/-- THE TIED CARD OF 'offertorylaw26.TaleLines'. -/
def taleLinesCard : Claim7 := { stood := { row := taleLinesRow, standIns := [], harness := (true, "38ea6410e239f8988f67653385ce2465514384e862f5fcce377810911ec85d99"), looks := true }, kinds := [], alts := [], laidByText := true, laidKinds := [.data, .data, .data, .data, .sentinel, .sentinel, .pinned], laidTests := true, laidLooks := .later }
def TaleLinesCardSaid : Prop := Claim7.holds Tryd.pinned (.plain (OpenSpec.ofChange taleLinesSpec)) taleLinesCard

/-- THE TIED CARD OF 'offertorylaw26.TaleSteps'. -/
def taleStepsCard : Claim7 := { stood := { row := taleStepsRow, standIns := [], harness := (true, "38ea6410e239f8988f67653385ce2465514384e862f5fcce377810911ec85d99"), looks := true }, kinds := [], alts := [], laidByText := true, laidKinds := [.data, .data, .data, .data, .sentinel, .sentinel, .pinned], laidTests := true, laidLooks := .later }
def TaleStepsCardSaid : Prop := Claim7.holds Tryd.pinned (.plain (OpenSpec.ofChange taleStepsSpec)) taleStepsCard

/-- THE TIED CARD OF 'offertorylaw26.TaleReads'. -/
def taleReadsCard : Claim7 := { stood := { row := taleReadsRow, standIns := [], harness := (true, "38ea6410e239f8988f67653385ce2465514384e862f5fcce377810911ec85d99"), looks := true }, kinds := [], alts := [], laidByText := true, laidKinds := [.data, .data, .data, .data, .sentinel, .sentinel, .pinned], laidTests := true, laidLooks := .later }
def TaleReadsCardSaid : Prop := Claim7.holds Tryd.pinned (.plain (OpenSpec.ofChange taleReadsSpec)) taleReadsCard

/-- THE TIED CARD OF 'offertorylaw30.DeedWrites'. -/
def deedWritesCard : Claim7 := { stood := { row := deedWritesRow, standIns := [], harness := (true, "38ea6410e239f8988f67653385ce2465514384e862f5fcce377810911ec85d99"), looks := true }, kinds := [], alts := [], laidByText := true, laidKinds := [.data, .data, .data, .data, .sentinel, .sentinel, .pinned], laidTests := true, laidLooks := .later }
def DeedWritesCardSaid : Prop := Claim7.holds Tryd.pinned (.plain (OpenSpec.ofChange deedWritesSpec)) deedWritesCard

/-- THE TIED CARD OF 'offertorylaw30.DeedReads'. -/
def deedReadsCard : Claim7 := { stood := { row := deedReadsRow, standIns := [], harness := (true, "38ea6410e239f8988f67653385ce2465514384e862f5fcce377810911ec85d99"), looks := true }, kinds := [], alts := [], laidByText := true, laidKinds := [.data, .data, .data, .data, .sentinel, .sentinel, .pinned], laidTests := true, laidLooks := .later }
def DeedReadsCardSaid : Prop := Claim7.holds Tryd.pinned (.plain (OpenSpec.ofChange deedReadsSpec)) deedReadsCard

/-- THE TIED CARD OF 'offertorylaw30.DeedSame'. -/
def deedSameCard : Claim7 := { stood := { row := deedSameRow, standIns := [], harness := (true, "38ea6410e239f8988f67653385ce2465514384e862f5fcce377810911ec85d99"), looks := true }, kinds := [], alts := [], laidByText := true, laidKinds := [.data, .data, .data, .data, .sentinel, .sentinel, .pinned], laidTests := true, laidLooks := .later }
def DeedSameCardSaid : Prop := Claim7.holds Tryd.pinned (.plain (OpenSpec.ofChange deedSameSpec)) deedSameCard

/-- THE TIED CARD OF 'offertorylaw26.TaleTexts'. -/
def taleTextsCard : Claim7 := { stood := { row := taleTextsRow, standIns := [], harness := (true, "38ea6410e239f8988f67653385ce2465514384e862f5fcce377810911ec85d99"), looks := true }, kinds := [], alts := [], laidByText := true, laidKinds := [.data, .data, .data, .data, .sentinel, .sentinel, .pinned], laidTests := true, laidLooks := .later }
def TaleTextsCardSaid : Prop := Claim7.holds Tryd.pinned (.plain (OpenSpec.ofChange taleTextsSpec)) taleTextsCard

/-- THE SECOND FORM's CARD OF 'offertorylaw26.TaleLines'. -/
def taleLinesUptoCard : Claim7 := { stood := { row := taleLinesUptoRow, standIns := [], harness := (true, "38ea6410e239f8988f67653385ce2465514384e862f5fcce377810911ec85d99"), looks := true }, kinds := [], alts := [], laidByText := true, laidKinds := [.data, .data, .data, .data, .sentinel, .sentinel, .pinned], laidTests := true, laidLooks := .later }
def TaleLinesUptoCardSaid : Prop := Claim7.holds Tryd.pinned (.plain (OpenSpec.upto taleLinesSpec)) taleLinesUptoCard

/-- THE SECOND FORM's CARD OF 'offertorylaw26.TaleSteps'. -/
def taleStepsUptoCard : Claim7 := { stood := { row := taleStepsUptoRow, standIns := [], harness := (true, "38ea6410e239f8988f67653385ce2465514384e862f5fcce377810911ec85d99"), looks := true }, kinds := [], alts := [], laidByText := true, laidKinds := [.data, .data, .data, .data, .sentinel, .sentinel, .pinned], laidTests := true, laidLooks := .later }
def TaleStepsUptoCardSaid : Prop := Claim7.holds Tryd.pinned (.plain (OpenSpec.upto taleStepsSpec)) taleStepsUptoCard

/-- THE SECOND FORM's CARD OF 'offertorylaw26.TaleReads'. -/
def taleReadsUptoCard : Claim7 := { stood := { row := taleReadsUptoRow, standIns := [], harness := (true, "38ea6410e239f8988f67653385ce2465514384e862f5fcce377810911ec85d99"), looks := true }, kinds := [], alts := [], laidByText := true, laidKinds := [.data, .data, .data, .data, .sentinel, .sentinel, .pinned], laidTests := true, laidLooks := .later }
def TaleReadsUptoCardSaid : Prop := Claim7.holds Tryd.pinned (.plain (OpenSpec.upto taleReadsSpec)) taleReadsUptoCard

/-- THE SECOND FORM's CARD OF 'offertorylaw30.DeedWrites'. -/
def deedWritesUptoCard : Claim7 := { stood := { row := deedWritesUptoRow, standIns := [], harness := (true, "38ea6410e239f8988f67653385ce2465514384e862f5fcce377810911ec85d99"), looks := true }, kinds := [], alts := [], laidByText := true, laidKinds := [.data, .data, .data, .data, .sentinel, .sentinel, .pinned], laidTests := true, laidLooks := .later }
def DeedWritesUptoCardSaid : Prop := Claim7.holds Tryd.pinned (.plain (OpenSpec.upto deedWritesSpec)) deedWritesUptoCard

/-- THE SECOND FORM's CARD OF 'offertorylaw30.DeedReads'. -/
def deedReadsUptoCard : Claim7 := { stood := { row := deedReadsUptoRow, standIns := [], harness := (true, "38ea6410e239f8988f67653385ce2465514384e862f5fcce377810911ec85d99"), looks := true }, kinds := [], alts := [], laidByText := true, laidKinds := [.data, .data, .data, .data, .sentinel, .sentinel, .pinned], laidTests := true, laidLooks := .later }
def DeedReadsUptoCardSaid : Prop := Claim7.holds Tryd.pinned (.plain (OpenSpec.upto deedReadsSpec)) deedReadsUptoCard

/-- THE SECOND FORM's CARD OF 'offertorylaw30.DeedSame'. -/
def deedSameUptoCard : Claim7 := { stood := { row := deedSameUptoRow, standIns := [], harness := (true, "38ea6410e239f8988f67653385ce2465514384e862f5fcce377810911ec85d99"), looks := true }, kinds := [], alts := [], laidByText := true, laidKinds := [.data, .data, .data, .data, .sentinel, .sentinel, .pinned], laidTests := true, laidLooks := .later }
def DeedSameUptoCardSaid : Prop := Claim7.holds Tryd.pinned (.plain (OpenSpec.upto deedSameSpec)) deedSameUptoCard

/-- THE SECOND FORM's CARD OF 'offertorylaw26.TaleTexts'. -/
def taleTextsUptoCard : Claim7 := { stood := { row := taleTextsUptoRow, standIns := [], harness := (true, "38ea6410e239f8988f67653385ce2465514384e862f5fcce377810911ec85d99"), looks := true }, kinds := [], alts := [], laidByText := true, laidKinds := [.data, .data, .data, .data, .sentinel, .sentinel, .pinned], laidTests := true, laidLooks := .later }
def TaleTextsUptoCardSaid : Prop := Claim7.holds Tryd.pinned (.plain (OpenSpec.upto taleTextsSpec)) taleTextsUptoCard
end Rows
end Go.Proofs.YtklfieidipobpaaDoor
