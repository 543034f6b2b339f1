/-
  DERIVED. GIVEN WITH THE SEED: THE CARDS: each row of YtdapiibllblpbaaDoorRows.lean that lists a variable, with what it lists TIED to the program's text (the seventh form; the later family's looks); each row that meets fmt, with fmt's text TOLD by the authors' own Lean function (tested against real Go, not proved from fmt's source: count such statements apart). THE CARD IS WHAT COUNTS. Prove the row's statement (the work); the ties are given (YtdapiibllblpbaaDoorTie.lean); close each card by the builder's one call (the guide's Derived/Test/ToyasCard.lean, 'card_holds'). Laid BY PROGRAM, IN A SANDBOX (cutbox-door.mjs). By AI agents, Wed Nov 11 2026. No macro, syntax, notation, axiom, sorry.
-/
import Derived.Test.YtdapiibllblpbaaDoorRows
import GoSem.ClaimSeven
namespace Go.Proofs.YtdapiibllblpbaaDoor
namespace Rows

/-- THE TIED CARD OF 'portcullislaw10.CodeAnswers'. -/
def codeAnswersCard : Claim7 := { stood := { row := codeAnswersRow, standIns := [], harness := (true, "a10d14bd31ce332ab7754a4659aeb050d60062314594b17949934f054efb2f35"), looks := true }, kinds := [], alts := [], laidByText := true, laidKinds := [.data, .data, .data], laidTests := true, laidLooks := .later }
def CodeAnswersCardSaid : Prop := Claim7.holds Tryd.pinned (.plain (OpenSpec.ofChange codeAnswersSpec)) codeAnswersCard

/-- THE TIED CARD OF 'portcullislaw10.CodeShows'. -/
def codeShowsCard : Claim7 := { stood := { row := codeShowsRow, standIns := [], harness := (true, "a10d14bd31ce332ab7754a4659aeb050d60062314594b17949934f054efb2f35"), looks := true }, kinds := [], alts := [], laidByText := true, laidKinds := [.data, .data, .data], laidTests := true, laidLooks := .later }
def CodeShowsCardSaid : Prop := Claim7.holds Tryd.pinned (.plain (OpenSpec.ofChange codeShowsSpec)) codeShowsCard

/-- THE TIED CARD OF 'portcullislaw10.CodeFits'. -/
def codeFitsCard : Claim7 := { stood := { row := codeFitsRow, standIns := [], harness := (true, "a10d14bd31ce332ab7754a4659aeb050d60062314594b17949934f054efb2f35"), looks := true }, kinds := [], alts := [], laidByText := true, laidKinds := [.data, .data, .data], laidTests := true, laidLooks := .later }
def CodeFitsCardSaid : Prop := Claim7.holds Tryd.pinned (.plain (OpenSpec.ofChange codeFitsSpec)) codeFitsCard

/-- THE TIED CARD OF 'portcullislaw10.CodePlaces'. -/
def codePlacesCard : Claim7 := { stood := { row := codePlacesRow, standIns := [], harness := (true, "a10d14bd31ce332ab7754a4659aeb050d60062314594b17949934f054efb2f35"), looks := true }, kinds := [], alts := [], laidByText := true, laidKinds := [.data, .data, .data], laidTests := true, laidLooks := .later }
def CodePlacesCardSaid : Prop := Claim7.holds Tryd.pinned (.plain (OpenSpec.ofChange codePlacesSpec)) codePlacesCard

/-- THE TIED CARD OF 'portcullislaw10.CodeLines'. -/
def codeLinesCard : Claim7 := { stood := { row := codeLinesRow, standIns := [], harness := (true, "a10d14bd31ce332ab7754a4659aeb050d60062314594b17949934f054efb2f35"), looks := true }, kinds := [], alts := [], laidByText := true, laidKinds := [.data, .data, .data], laidTests := true, laidLooks := .later }
def CodeLinesCardSaid : Prop := Claim7.holds Tryd.pinned (.plain (OpenSpec.ofChange codeLinesSpec)) codeLinesCard

/-- THE SECOND FORM's CARD OF 'portcullislaw10.CodeAnswers'. -/
def codeAnswersUptoCard : Claim7 := { stood := { row := codeAnswersUptoRow, standIns := [], harness := (true, "a10d14bd31ce332ab7754a4659aeb050d60062314594b17949934f054efb2f35"), looks := true }, kinds := [], alts := [], laidByText := true, laidKinds := [.data, .data, .data], laidTests := true, laidLooks := .later }
def CodeAnswersUptoCardSaid : Prop := Claim7.holds Tryd.pinned (.plain (OpenSpec.upto codeAnswersSpec)) codeAnswersUptoCard

/-- THE SECOND FORM's CARD OF 'portcullislaw10.CodeShows'. -/
def codeShowsUptoCard : Claim7 := { stood := { row := codeShowsUptoRow, standIns := [], harness := (true, "a10d14bd31ce332ab7754a4659aeb050d60062314594b17949934f054efb2f35"), looks := true }, kinds := [], alts := [], laidByText := true, laidKinds := [.data, .data, .data], laidTests := true, laidLooks := .later }
def CodeShowsUptoCardSaid : Prop := Claim7.holds Tryd.pinned (.plain (OpenSpec.upto codeShowsSpec)) codeShowsUptoCard

/-- THE SECOND FORM's CARD OF 'portcullislaw10.CodeFits'. -/
def codeFitsUptoCard : Claim7 := { stood := { row := codeFitsUptoRow, standIns := [], harness := (true, "a10d14bd31ce332ab7754a4659aeb050d60062314594b17949934f054efb2f35"), looks := true }, kinds := [], alts := [], laidByText := true, laidKinds := [.data, .data, .data], laidTests := true, laidLooks := .later }
def CodeFitsUptoCardSaid : Prop := Claim7.holds Tryd.pinned (.plain (OpenSpec.upto codeFitsSpec)) codeFitsUptoCard

/-- THE SECOND FORM's CARD OF 'portcullislaw10.CodePlaces'. -/
def codePlacesUptoCard : Claim7 := { stood := { row := codePlacesUptoRow, standIns := [], harness := (true, "a10d14bd31ce332ab7754a4659aeb050d60062314594b17949934f054efb2f35"), looks := true }, kinds := [], alts := [], laidByText := true, laidKinds := [.data, .data, .data], laidTests := true, laidLooks := .later }
def CodePlacesUptoCardSaid : Prop := Claim7.holds Tryd.pinned (.plain (OpenSpec.upto codePlacesSpec)) codePlacesUptoCard

/-- THE SECOND FORM's CARD OF 'portcullislaw10.CodeLines'. -/
def codeLinesUptoCard : Claim7 := { stood := { row := codeLinesUptoRow, standIns := [], harness := (true, "a10d14bd31ce332ab7754a4659aeb050d60062314594b17949934f054efb2f35"), looks := true }, kinds := [], alts := [], laidByText := true, laidKinds := [.data, .data, .data], laidTests := true, laidLooks := .later }
def CodeLinesUptoCardSaid : Prop := Claim7.holds Tryd.pinned (.plain (OpenSpec.upto codeLinesSpec)) codeLinesUptoCard
end Rows
end Go.Proofs.YtdapiibllblpbaaDoor
