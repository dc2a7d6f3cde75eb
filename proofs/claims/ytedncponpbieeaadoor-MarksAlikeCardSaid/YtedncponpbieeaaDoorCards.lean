/-
  DERIVED. GIVEN WITH THE SEED: THE CARDS: each row of YtedncponpbieeaaDoorRows.lean that lists a variable, with what it lists TIED to the program's text (the seventh form; the later family's looks); each row that meets fmt, with fmt's text TOLD by the authors' own Lean function (tested against real Go, not proved from fmt's source: count such statements apart). THE CARD IS WHAT COUNTS. Prove the row's statement (the work); the ties are given (YtedncponpbieeaaDoorTie.lean); close each card by the builder's one call (the guide's Derived/Test/ToyasCard.lean, 'card_holds'). Laid BY PROGRAM, IN A SANDBOX (cutbox-door.mjs). By AI agents, Wed Nov 11 2026. No macro, syntax, notation, axiom, sorry.
-/
import Derived.Test.YtedncponpbieeaaDoorRows
import GoSem.ClaimSeven
namespace Go.Proofs.YtedncponpbieeaaDoor
namespace Rows

/-- THE TIED CARD OF 'primerlaw02.MarksGets'. -/
def marksGetsCard : Claim7 := { stood := { row := marksGetsRow, standIns := [], harness := (true, "1ce948091edd7b375ee389bb1603a5ecb58184d77d40f76a849ffe32896e7fa2"), looks := false }, kinds := [], alts := [], laidByText := true, laidKinds := [.data, .data, .data, .data, .pinned, .pinned], laidTests := true, laidLooks := .later }
def MarksGetsCardSaid : Prop := Claim7.holds Tryd.pinned (.plain (OpenSpec.ofChange marksGetsSpec)) marksGetsCard

/-- THE TIED CARD OF 'primerlaw02.MarksBytes'. -/
def marksBytesCard : Claim7 := { stood := { row := marksBytesRow, standIns := [], harness := (true, "1ce948091edd7b375ee389bb1603a5ecb58184d77d40f76a849ffe32896e7fa2"), looks := false }, kinds := [], alts := [], laidByText := true, laidKinds := [.data, .data, .data, .data, .pinned, .pinned], laidTests := true, laidLooks := .later }
def MarksBytesCardSaid : Prop := Claim7.holds Tryd.pinned (.plain (OpenSpec.ofChange marksBytesSpec)) marksBytesCard

/-- THE TIED CARD OF 'primerlaw02.MarksMeans'. -/
def marksMeansCard : Claim7 := { stood := { row := marksMeansRow, standIns := [], harness := (true, "1ce948091edd7b375ee389bb1603a5ecb58184d77d40f76a849ffe32896e7fa2"), looks := false }, kinds := [], alts := [], laidByText := true, laidKinds := [.data, .data, .data, .data, .pinned, .pinned], laidTests := true, laidLooks := .later }
def MarksMeansCardSaid : Prop := Claim7.holds Tryd.pinned (.plain (OpenSpec.ofChange marksMeansSpec)) marksMeansCard

/-- THE TIED CARD OF 'primerlaw02.MarksOrder'. -/
def marksOrderCard : Claim7 := { stood := { row := marksOrderRow, standIns := [], harness := (true, "1ce948091edd7b375ee389bb1603a5ecb58184d77d40f76a849ffe32896e7fa2"), looks := false }, kinds := [], alts := [], laidByText := true, laidKinds := [.data, .data, .data, .data, .pinned, .pinned], laidTests := true, laidLooks := .later }
def MarksOrderCardSaid : Prop := Claim7.holds Tryd.pinned (.plain (OpenSpec.ofChange marksOrderSpec)) marksOrderCard

/-- THE TIED CARD OF 'primerlaw02.MarksAlike'. -/
def marksAlikeCard : Claim7 := { stood := { row := marksAlikeRow, standIns := [], harness := (true, "1ce948091edd7b375ee389bb1603a5ecb58184d77d40f76a849ffe32896e7fa2"), looks := false }, kinds := [], alts := [], laidByText := true, laidKinds := [.data, .data, .data, .data, .pinned, .pinned], laidTests := true, laidLooks := .later }
def MarksAlikeCardSaid : Prop := Claim7.holds Tryd.pinned (.plain (OpenSpec.ofChange marksAlikeSpec)) marksAlikeCard

/-- THE SECOND FORM's CARD OF 'primerlaw02.MarksGets'. -/
def marksGetsUptoCard : Claim7 := { stood := { row := marksGetsUptoRow, standIns := [], harness := (true, "1ce948091edd7b375ee389bb1603a5ecb58184d77d40f76a849ffe32896e7fa2"), looks := false }, kinds := [], alts := [], laidByText := true, laidKinds := [.data, .data, .data, .data, .pinned, .pinned], laidTests := true, laidLooks := .later }
def MarksGetsUptoCardSaid : Prop := Claim7.holds Tryd.pinned (.plain (OpenSpec.upto marksGetsSpec)) marksGetsUptoCard

/-- THE SECOND FORM's CARD OF 'primerlaw02.MarksBytes'. -/
def marksBytesUptoCard : Claim7 := { stood := { row := marksBytesUptoRow, standIns := [], harness := (true, "1ce948091edd7b375ee389bb1603a5ecb58184d77d40f76a849ffe32896e7fa2"), looks := false }, kinds := [], alts := [], laidByText := true, laidKinds := [.data, .data, .data, .data, .pinned, .pinned], laidTests := true, laidLooks := .later }
def MarksBytesUptoCardSaid : Prop := Claim7.holds Tryd.pinned (.plain (OpenSpec.upto marksBytesSpec)) marksBytesUptoCard

/-- THE SECOND FORM's CARD OF 'primerlaw02.MarksMeans'. -/
def marksMeansUptoCard : Claim7 := { stood := { row := marksMeansUptoRow, standIns := [], harness := (true, "1ce948091edd7b375ee389bb1603a5ecb58184d77d40f76a849ffe32896e7fa2"), looks := false }, kinds := [], alts := [], laidByText := true, laidKinds := [.data, .data, .data, .data, .pinned, .pinned], laidTests := true, laidLooks := .later }
def MarksMeansUptoCardSaid : Prop := Claim7.holds Tryd.pinned (.plain (OpenSpec.upto marksMeansSpec)) marksMeansUptoCard

/-- THE SECOND FORM's CARD OF 'primerlaw02.MarksOrder'. -/
def marksOrderUptoCard : Claim7 := { stood := { row := marksOrderUptoRow, standIns := [], harness := (true, "1ce948091edd7b375ee389bb1603a5ecb58184d77d40f76a849ffe32896e7fa2"), looks := false }, kinds := [], alts := [], laidByText := true, laidKinds := [.data, .data, .data, .data, .pinned, .pinned], laidTests := true, laidLooks := .later }
def MarksOrderUptoCardSaid : Prop := Claim7.holds Tryd.pinned (.plain (OpenSpec.upto marksOrderSpec)) marksOrderUptoCard

/-- THE SECOND FORM's CARD OF 'primerlaw02.MarksAlike'. -/
def marksAlikeUptoCard : Claim7 := { stood := { row := marksAlikeUptoRow, standIns := [], harness := (true, "1ce948091edd7b375ee389bb1603a5ecb58184d77d40f76a849ffe32896e7fa2"), looks := false }, kinds := [], alts := [], laidByText := true, laidKinds := [.data, .data, .data, .data, .pinned, .pinned], laidTests := true, laidLooks := .later }
def MarksAlikeUptoCardSaid : Prop := Claim7.holds Tryd.pinned (.plain (OpenSpec.upto marksAlikeSpec)) marksAlikeUptoCard
end Rows
end Go.Proofs.YtedncponpbieeaaDoor
