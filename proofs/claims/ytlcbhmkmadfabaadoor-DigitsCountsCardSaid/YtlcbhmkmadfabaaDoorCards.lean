/-
  DERIVED. GIVEN WITH THE SEED: THE CARDS: each row of YtlcbhmkmadfabaaDoorRows.lean that lists a variable, with what it lists TIED to the program's text (the seventh form; the later family's looks); each row that meets fmt, with fmt's text TOLD by the authors' own Lean function (tested against real Go, not proved from fmt's source: count such statements apart). THE CARD IS WHAT COUNTS. Prove the row's statement (the work); the ties are given (YtlcbhmkmadfabaaDoorTie.lean); close each card by the builder's one call (the guide's Derived/Test/ToyasCard.lean, 'card_holds'). Laid BY PROGRAM, IN A SANDBOX (cutbox-door.mjs). By AI agents, Wed Nov 11 2026. No macro, syntax, notation, axiom, sorry.
-/
import Derived.Test.YtlcbhmkmadfabaaDoorRows
import GoSem.ClaimSeven
namespace Go.Proofs.YtlcbhmkmadfabaaDoor
namespace Rows

/-- THE TIED CARD OF 'tapsterlaw02.DigitsOne'. -/
def digitsOneCard : Claim7 := { stood := { row := digitsOneRow, standIns := [], harness := (true, "172f283ec3acd979c31ab4a2618f53148aed06690400a86f8cca937bc85bca54"), looks := true }, kinds := [], alts := [], laidByText := true, laidKinds := [.data, .data, .data, .sentinel, .sentinel], laidTests := true, laidLooks := .later }
def DigitsOneCardSaid : Prop := Claim7.holds Tryd.pinned (.plain (OpenSpec.ofChange digitsOneSpec)) digitsOneCard

/-- THE TIED CARD OF 'tapsterlaw02.DigitsPrints'. -/
def digitsPrintsCard : Claim7 := { stood := { row := digitsPrintsRow, standIns := [], harness := (true, "172f283ec3acd979c31ab4a2618f53148aed06690400a86f8cca937bc85bca54"), looks := true }, kinds := [], alts := [], laidByText := true, laidKinds := [.data, .data, .data, .sentinel, .sentinel], laidTests := true, laidLooks := .later }
def DigitsPrintsCardSaid : Prop := Claim7.holds Tryd.pinned (.plain (OpenSpec.ofChange digitsPrintsSpec)) digitsPrintsCard

/-- THE TIED CARD OF 'tapsterlaw02.DigitsCounts'. -/
def digitsCountsCard : Claim7 := { stood := { row := digitsCountsRow, standIns := [], harness := (true, "172f283ec3acd979c31ab4a2618f53148aed06690400a86f8cca937bc85bca54"), looks := true }, kinds := [], alts := [], laidByText := true, laidKinds := [.data, .data, .data, .sentinel, .sentinel], laidTests := true, laidLooks := .later }
def DigitsCountsCardSaid : Prop := Claim7.holds Tryd.pinned (.plain (OpenSpec.ofChange digitsCountsSpec)) digitsCountsCard

/-- THE TIED CARD OF 'tapsterlaw02.DigitsParses'. -/
def digitsParsesCard : Claim7 := { stood := { row := digitsParsesRow, standIns := [], harness := (true, "172f283ec3acd979c31ab4a2618f53148aed06690400a86f8cca937bc85bca54"), looks := true }, kinds := [], alts := [], laidByText := true, laidKinds := [.data, .data, .data, .sentinel, .sentinel], laidTests := true, laidLooks := .later }
def DigitsParsesCardSaid : Prop := Claim7.holds Tryd.pinned (.plain (OpenSpec.ofChange digitsParsesSpec)) digitsParsesCard

/-- THE TIED CARD OF 'tapsterlaw02.DigitsBack'. -/
def digitsBackCard : Claim7 := { stood := { row := digitsBackRow, standIns := [], harness := (true, "172f283ec3acd979c31ab4a2618f53148aed06690400a86f8cca937bc85bca54"), looks := true }, kinds := [], alts := [], laidByText := true, laidKinds := [.data, .data, .data, .sentinel, .sentinel], laidTests := true, laidLooks := .later }
def DigitsBackCardSaid : Prop := Claim7.holds Tryd.pinned (.plain (OpenSpec.ofChange digitsBackSpec)) digitsBackCard

/-- THE TIED CARD OF 'tapsterlaw02.DigitsBounds'. -/
def digitsBoundsCard : Claim7 := { stood := { row := digitsBoundsRow, standIns := [], harness := (true, "172f283ec3acd979c31ab4a2618f53148aed06690400a86f8cca937bc85bca54"), looks := true }, kinds := [], alts := [], laidByText := true, laidKinds := [.data, .data, .data, .sentinel, .sentinel], laidTests := true, laidLooks := .later }
def DigitsBoundsCardSaid : Prop := Claim7.holds Tryd.pinned (.plain (OpenSpec.ofChange digitsBoundsSpec)) digitsBoundsCard

/-- THE SECOND FORM's CARD OF 'tapsterlaw02.DigitsOne'. -/
def digitsOneUptoCard : Claim7 := { stood := { row := digitsOneUptoRow, standIns := [], harness := (true, "172f283ec3acd979c31ab4a2618f53148aed06690400a86f8cca937bc85bca54"), looks := true }, kinds := [], alts := [], laidByText := true, laidKinds := [.data, .data, .data, .sentinel, .sentinel], laidTests := true, laidLooks := .later }
def DigitsOneUptoCardSaid : Prop := Claim7.holds Tryd.pinned (.plain (OpenSpec.upto digitsOneSpec)) digitsOneUptoCard

/-- THE SECOND FORM's CARD OF 'tapsterlaw02.DigitsPrints'. -/
def digitsPrintsUptoCard : Claim7 := { stood := { row := digitsPrintsUptoRow, standIns := [], harness := (true, "172f283ec3acd979c31ab4a2618f53148aed06690400a86f8cca937bc85bca54"), looks := true }, kinds := [], alts := [], laidByText := true, laidKinds := [.data, .data, .data, .sentinel, .sentinel], laidTests := true, laidLooks := .later }
def DigitsPrintsUptoCardSaid : Prop := Claim7.holds Tryd.pinned (.plain (OpenSpec.upto digitsPrintsSpec)) digitsPrintsUptoCard

/-- THE SECOND FORM's CARD OF 'tapsterlaw02.DigitsCounts'. -/
def digitsCountsUptoCard : Claim7 := { stood := { row := digitsCountsUptoRow, standIns := [], harness := (true, "172f283ec3acd979c31ab4a2618f53148aed06690400a86f8cca937bc85bca54"), looks := true }, kinds := [], alts := [], laidByText := true, laidKinds := [.data, .data, .data, .sentinel, .sentinel], laidTests := true, laidLooks := .later }
def DigitsCountsUptoCardSaid : Prop := Claim7.holds Tryd.pinned (.plain (OpenSpec.upto digitsCountsSpec)) digitsCountsUptoCard

/-- THE SECOND FORM's CARD OF 'tapsterlaw02.DigitsParses'. -/
def digitsParsesUptoCard : Claim7 := { stood := { row := digitsParsesUptoRow, standIns := [], harness := (true, "172f283ec3acd979c31ab4a2618f53148aed06690400a86f8cca937bc85bca54"), looks := true }, kinds := [], alts := [], laidByText := true, laidKinds := [.data, .data, .data, .sentinel, .sentinel], laidTests := true, laidLooks := .later }
def DigitsParsesUptoCardSaid : Prop := Claim7.holds Tryd.pinned (.plain (OpenSpec.upto digitsParsesSpec)) digitsParsesUptoCard

/-- THE SECOND FORM's CARD OF 'tapsterlaw02.DigitsBack'. -/
def digitsBackUptoCard : Claim7 := { stood := { row := digitsBackUptoRow, standIns := [], harness := (true, "172f283ec3acd979c31ab4a2618f53148aed06690400a86f8cca937bc85bca54"), looks := true }, kinds := [], alts := [], laidByText := true, laidKinds := [.data, .data, .data, .sentinel, .sentinel], laidTests := true, laidLooks := .later }
def DigitsBackUptoCardSaid : Prop := Claim7.holds Tryd.pinned (.plain (OpenSpec.upto digitsBackSpec)) digitsBackUptoCard

/-- THE SECOND FORM's CARD OF 'tapsterlaw02.DigitsBounds'. -/
def digitsBoundsUptoCard : Claim7 := { stood := { row := digitsBoundsUptoRow, standIns := [], harness := (true, "172f283ec3acd979c31ab4a2618f53148aed06690400a86f8cca937bc85bca54"), looks := true }, kinds := [], alts := [], laidByText := true, laidKinds := [.data, .data, .data, .sentinel, .sentinel], laidTests := true, laidLooks := .later }
def DigitsBoundsUptoCardSaid : Prop := Claim7.holds Tryd.pinned (.plain (OpenSpec.upto digitsBoundsSpec)) digitsBoundsUptoCard
end Rows
end Go.Proofs.YtlcbhmkmadfabaaDoor
