/-
  DERIVED. GIVEN WITH THE SEED: THE CARDS: each row of YthhmmaihbjhhgaaDoorRows.lean that lists a variable, with what it lists TIED to the program's text (the seventh form; the later family's looks); each row that meets fmt, with fmt's text TOLD by the authors' own Lean function (tested against real Go, not proved from fmt's source: count such statements apart). THE CARD IS WHAT COUNTS. Prove the row's statement (the work); the ties are given (YthhmmaihbjhhgaaDoorTie.lean); close each card by the builder's one call (the guide's Derived/Test/ToyasCard.lean, 'card_holds'). Laid BY PROGRAM, IN A SANDBOX (cutbox-door.mjs). By AI agents, Wed Nov 11 2026. No macro, syntax, notation, axiom, sorry.
-/
import Derived.Test.YthhmmaihbjhhgaaDoorRows
import GoSem.ClaimSeven
namespace Go.Proofs.YthhmmaihbjhhgaaDoor
namespace Rows

/-- THE TIED CARD OF 'cracknellaw05.UtfPuts'. -/
def utfPutsCard : Claim7 := { stood := { row := utfPutsRow, standIns := [], harness := (true, "22dc8213063933b30f37c9e785a72b3134fba76d30a0527222ee4ff2b9c5771e"), looks := true }, kinds := [], alts := [], laidByText := true, laidKinds := [.data, .pinned], laidTests := true, laidLooks := .later }
def UtfPutsCardSaid : Prop := Claim7.holds Tryd.pinned (.plain (OpenSpec.ofChange utfPutsSpec)) utfPutsCard

/-- THE TIED CARD OF 'cracknellaw05.UtfTakes'. -/
def utfTakesCard : Claim7 := { stood := { row := utfTakesRow, standIns := [], harness := (true, "22dc8213063933b30f37c9e785a72b3134fba76d30a0527222ee4ff2b9c5771e"), looks := true }, kinds := [], alts := [], laidByText := true, laidKinds := [.data, .pinned], laidTests := true, laidLooks := .later }
def UtfTakesCardSaid : Prop := Claim7.holds Tryd.pinned (.plain (OpenSpec.ofChange utfTakesSpec)) utfTakesCard

/-- THE TIED CARD OF 'cracknellaw05.UtfTexts'. -/
def utfTextsCard : Claim7 := { stood := { row := utfTextsRow, standIns := [], harness := (true, "22dc8213063933b30f37c9e785a72b3134fba76d30a0527222ee4ff2b9c5771e"), looks := true }, kinds := [], alts := [], laidByText := true, laidKinds := [.data, .pinned], laidTests := true, laidLooks := .later }
def UtfTextsCardSaid : Prop := Claim7.holds Tryd.pinned (.plain (OpenSpec.ofChange utfTextsSpec)) utfTextsCard

/-- THE TIED CARD OF 'cracknellaw05.UtfRunes'. -/
def utfRunesCard : Claim7 := { stood := { row := utfRunesRow, standIns := [], harness := (true, "22dc8213063933b30f37c9e785a72b3134fba76d30a0527222ee4ff2b9c5771e"), looks := true }, kinds := [], alts := [], laidByText := true, laidKinds := [.data, .pinned], laidTests := true, laidLooks := .later }
def UtfRunesCardSaid : Prop := Claim7.holds Tryd.pinned (.plain (OpenSpec.ofChange utfRunesSpec)) utfRunesCard

/-- THE TIED CARD OF 'cracknellaw05.UtfJoins'. -/
def utfJoinsCard : Claim7 := { stood := { row := utfJoinsRow, standIns := [], harness := (true, "22dc8213063933b30f37c9e785a72b3134fba76d30a0527222ee4ff2b9c5771e"), looks := true }, kinds := [], alts := [], laidByText := true, laidKinds := [.data, .pinned], laidTests := true, laidLooks := .later }
def UtfJoinsCardSaid : Prop := Claim7.holds Tryd.pinned (.plain (OpenSpec.ofChange utfJoinsSpec)) utfJoinsCard

/-- THE TIED CARD OF 'cracknellaw05.UtfOrders'. -/
def utfOrdersCard : Claim7 := { stood := { row := utfOrdersRow, standIns := [], harness := (true, "22dc8213063933b30f37c9e785a72b3134fba76d30a0527222ee4ff2b9c5771e"), looks := true }, kinds := [], alts := [], laidByText := true, laidKinds := [.data, .pinned], laidTests := true, laidLooks := .later }
def UtfOrdersCardSaid : Prop := Claim7.holds Tryd.pinned (.plain (OpenSpec.ofChange utfOrdersSpec)) utfOrdersCard

/-- THE TIED CARD OF 'cracknellaw07.QuoteWrites'. -/
def quoteWritesCard : Claim7 := { stood := { row := quoteWritesRow, standIns := [], harness := (true, "22dc8213063933b30f37c9e785a72b3134fba76d30a0527222ee4ff2b9c5771e"), looks := true }, kinds := [], alts := [], laidByText := true, laidKinds := [.data, .pinned], laidTests := true, laidLooks := .later }
def QuoteWritesCardSaid : Prop := Claim7.holds Tryd.pinned (.plain (OpenSpec.ofChange quoteWritesSpec)) quoteWritesCard

/-- THE TIED CARD OF 'cracknellaw07.QuoteReads'. -/
def quoteReadsCard : Claim7 := { stood := { row := quoteReadsRow, standIns := [], harness := (true, "22dc8213063933b30f37c9e785a72b3134fba76d30a0527222ee4ff2b9c5771e"), looks := true }, kinds := [], alts := [], laidByText := true, laidKinds := [.data, .pinned], laidTests := true, laidLooks := .later }
def QuoteReadsCardSaid : Prop := Claim7.holds Tryd.pinned (.plain (OpenSpec.ofChange quoteReadsSpec)) quoteReadsCard

/-- THE TIED CARD OF 'cracknellaw07.QuoteDigits'. -/
def quoteDigitsCard : Claim7 := { stood := { row := quoteDigitsRow, standIns := [], harness := (true, "22dc8213063933b30f37c9e785a72b3134fba76d30a0527222ee4ff2b9c5771e"), looks := true }, kinds := [], alts := [], laidByText := true, laidKinds := [.data, .pinned], laidTests := true, laidLooks := .later }
def QuoteDigitsCardSaid : Prop := Claim7.holds Tryd.pinned (.plain (OpenSpec.ofChange quoteDigitsSpec)) quoteDigitsCard

/-- THE TIED CARD OF 'cracknellaw07.QuoteCuts'. -/
def quoteCutsCard : Claim7 := { stood := { row := quoteCutsRow, standIns := [], harness := (true, "22dc8213063933b30f37c9e785a72b3134fba76d30a0527222ee4ff2b9c5771e"), looks := true }, kinds := [], alts := [], laidByText := true, laidKinds := [.data, .pinned], laidTests := true, laidLooks := .later }
def QuoteCutsCardSaid : Prop := Claim7.holds Tryd.pinned (.plain (OpenSpec.ofChange quoteCutsSpec)) quoteCutsCard

/-- THE TIED CARD OF 'cracknellaw07.QuoteJoins'. -/
def quoteJoinsCard : Claim7 := { stood := { row := quoteJoinsRow, standIns := [], harness := (true, "22dc8213063933b30f37c9e785a72b3134fba76d30a0527222ee4ff2b9c5771e"), looks := true }, kinds := [], alts := [], laidByText := true, laidKinds := [.data, .pinned], laidTests := true, laidLooks := .later }
def QuoteJoinsCardSaid : Prop := Claim7.holds Tryd.pinned (.plain (OpenSpec.ofChange quoteJoinsSpec)) quoteJoinsCard

/-- THE TIED CARD OF 'cracknellaw07.QuoteApart'. -/
def quoteApartCard : Claim7 := { stood := { row := quoteApartRow, standIns := [], harness := (true, "22dc8213063933b30f37c9e785a72b3134fba76d30a0527222ee4ff2b9c5771e"), looks := true }, kinds := [], alts := [], laidByText := true, laidKinds := [.data, .pinned], laidTests := true, laidLooks := .later }
def QuoteApartCardSaid : Prop := Claim7.holds Tryd.pinned (.plain (OpenSpec.ofChange quoteApartSpec)) quoteApartCard

/-- THE TIED CARD OF 'cracknellaw08.JsonRight'. -/
def jsonRightCard : Claim7 := { stood := { row := jsonRightRow, standIns := [], harness := (true, "22dc8213063933b30f37c9e785a72b3134fba76d30a0527222ee4ff2b9c5771e"), looks := true }, kinds := [], alts := [], laidByText := true, laidKinds := [.data, .data, .data, .data, .sentinel, .sentinel, .pinned], laidTests := true, laidLooks := .later }
def JsonRightCardSaid : Prop := Claim7.holds Tryd.pinned (.plain (OpenSpec.ofChange jsonRightSpec)) jsonRightCard

/-- THE TIED CARD OF 'cracknellaw08.JsonAgain'. -/
def jsonAgainCard : Claim7 := { stood := { row := jsonAgainRow, standIns := [], harness := (true, "22dc8213063933b30f37c9e785a72b3134fba76d30a0527222ee4ff2b9c5771e"), looks := true }, kinds := [], alts := [], laidByText := true, laidKinds := [.data, .data, .data, .data, .sentinel, .sentinel, .pinned], laidTests := true, laidLooks := .later }
def JsonAgainCardSaid : Prop := Claim7.holds Tryd.pinned (.plain (OpenSpec.ofChange jsonAgainSpec)) jsonAgainCard

/-- THE TIED CARD OF 'cracknellaw08.JsonBlanks'. -/
def jsonBlanksCard : Claim7 := { stood := { row := jsonBlanksRow, standIns := [], harness := (true, "22dc8213063933b30f37c9e785a72b3134fba76d30a0527222ee4ff2b9c5771e"), looks := true }, kinds := [], alts := [], laidByText := true, laidKinds := [.data, .data, .data, .data, .sentinel, .sentinel, .pinned], laidTests := true, laidLooks := .later }
def JsonBlanksCardSaid : Prop := Claim7.holds Tryd.pinned (.plain (OpenSpec.ofChange jsonBlanksSpec)) jsonBlanksCard

/-- THE TIED CARD OF 'cracknellaw08.JsonTwice'. -/
def jsonTwiceCard : Claim7 := { stood := { row := jsonTwiceRow, standIns := [], harness := (true, "22dc8213063933b30f37c9e785a72b3134fba76d30a0527222ee4ff2b9c5771e"), looks := true }, kinds := [], alts := [], laidByText := true, laidKinds := [.data, .data, .data, .data, .sentinel, .sentinel, .pinned], laidTests := true, laidLooks := .later }
def JsonTwiceCardSaid : Prop := Claim7.holds Tryd.pinned (.plain (OpenSpec.ofChange jsonTwiceSpec)) jsonTwiceCard

/-- THE TIED CARD OF 'cracknellaw08.JsonApart'. -/
def jsonApartCard : Claim7 := { stood := { row := jsonApartRow, standIns := [], harness := (true, "22dc8213063933b30f37c9e785a72b3134fba76d30a0527222ee4ff2b9c5771e"), looks := true }, kinds := [], alts := [], laidByText := true, laidKinds := [.data, .data, .data, .data, .sentinel, .sentinel, .pinned], laidTests := true, laidLooks := .later }
def JsonApartCardSaid : Prop := Claim7.holds Tryd.pinned (.plain (OpenSpec.ofChange jsonApartSpec)) jsonApartCard

/-- THE TIED CARD OF 'cracknellaw08.JsonDepth'. -/
def jsonDepthCard : Claim7 := { stood := { row := jsonDepthRow, standIns := [], harness := (true, "22dc8213063933b30f37c9e785a72b3134fba76d30a0527222ee4ff2b9c5771e"), looks := true }, kinds := [], alts := [], laidByText := true, laidKinds := [.data, .data, .data, .data, .sentinel, .sentinel, .pinned], laidTests := true, laidLooks := .later }
def JsonDepthCardSaid : Prop := Claim7.holds Tryd.pinned (.plain (OpenSpec.ofChange jsonDepthSpec)) jsonDepthCard

/-- THE SECOND FORM's CARD OF 'cracknellaw05.UtfPuts'. -/
def utfPutsUptoCard : Claim7 := { stood := { row := utfPutsUptoRow, standIns := [], harness := (true, "22dc8213063933b30f37c9e785a72b3134fba76d30a0527222ee4ff2b9c5771e"), looks := true }, kinds := [], alts := [], laidByText := true, laidKinds := [.data, .pinned], laidTests := true, laidLooks := .later }
def UtfPutsUptoCardSaid : Prop := Claim7.holds Tryd.pinned (.plain (OpenSpec.upto utfPutsSpec)) utfPutsUptoCard

/-- THE SECOND FORM's CARD OF 'cracknellaw05.UtfTakes'. -/
def utfTakesUptoCard : Claim7 := { stood := { row := utfTakesUptoRow, standIns := [], harness := (true, "22dc8213063933b30f37c9e785a72b3134fba76d30a0527222ee4ff2b9c5771e"), looks := true }, kinds := [], alts := [], laidByText := true, laidKinds := [.data, .pinned], laidTests := true, laidLooks := .later }
def UtfTakesUptoCardSaid : Prop := Claim7.holds Tryd.pinned (.plain (OpenSpec.upto utfTakesSpec)) utfTakesUptoCard

/-- THE SECOND FORM's CARD OF 'cracknellaw05.UtfTexts'. -/
def utfTextsUptoCard : Claim7 := { stood := { row := utfTextsUptoRow, standIns := [], harness := (true, "22dc8213063933b30f37c9e785a72b3134fba76d30a0527222ee4ff2b9c5771e"), looks := true }, kinds := [], alts := [], laidByText := true, laidKinds := [.data, .pinned], laidTests := true, laidLooks := .later }
def UtfTextsUptoCardSaid : Prop := Claim7.holds Tryd.pinned (.plain (OpenSpec.upto utfTextsSpec)) utfTextsUptoCard

/-- THE SECOND FORM's CARD OF 'cracknellaw05.UtfRunes'. -/
def utfRunesUptoCard : Claim7 := { stood := { row := utfRunesUptoRow, standIns := [], harness := (true, "22dc8213063933b30f37c9e785a72b3134fba76d30a0527222ee4ff2b9c5771e"), looks := true }, kinds := [], alts := [], laidByText := true, laidKinds := [.data, .pinned], laidTests := true, laidLooks := .later }
def UtfRunesUptoCardSaid : Prop := Claim7.holds Tryd.pinned (.plain (OpenSpec.upto utfRunesSpec)) utfRunesUptoCard

/-- THE SECOND FORM's CARD OF 'cracknellaw05.UtfJoins'. -/
def utfJoinsUptoCard : Claim7 := { stood := { row := utfJoinsUptoRow, standIns := [], harness := (true, "22dc8213063933b30f37c9e785a72b3134fba76d30a0527222ee4ff2b9c5771e"), looks := true }, kinds := [], alts := [], laidByText := true, laidKinds := [.data, .pinned], laidTests := true, laidLooks := .later }
def UtfJoinsUptoCardSaid : Prop := Claim7.holds Tryd.pinned (.plain (OpenSpec.upto utfJoinsSpec)) utfJoinsUptoCard

/-- THE SECOND FORM's CARD OF 'cracknellaw05.UtfOrders'. -/
def utfOrdersUptoCard : Claim7 := { stood := { row := utfOrdersUptoRow, standIns := [], harness := (true, "22dc8213063933b30f37c9e785a72b3134fba76d30a0527222ee4ff2b9c5771e"), looks := true }, kinds := [], alts := [], laidByText := true, laidKinds := [.data, .pinned], laidTests := true, laidLooks := .later }
def UtfOrdersUptoCardSaid : Prop := Claim7.holds Tryd.pinned (.plain (OpenSpec.upto utfOrdersSpec)) utfOrdersUptoCard

/-- THE SECOND FORM's CARD OF 'cracknellaw07.QuoteWrites'. -/
def quoteWritesUptoCard : Claim7 := { stood := { row := quoteWritesUptoRow, standIns := [], harness := (true, "22dc8213063933b30f37c9e785a72b3134fba76d30a0527222ee4ff2b9c5771e"), looks := true }, kinds := [], alts := [], laidByText := true, laidKinds := [.data, .pinned], laidTests := true, laidLooks := .later }
def QuoteWritesUptoCardSaid : Prop := Claim7.holds Tryd.pinned (.plain (OpenSpec.upto quoteWritesSpec)) quoteWritesUptoCard

/-- THE SECOND FORM's CARD OF 'cracknellaw07.QuoteReads'. -/
def quoteReadsUptoCard : Claim7 := { stood := { row := quoteReadsUptoRow, standIns := [], harness := (true, "22dc8213063933b30f37c9e785a72b3134fba76d30a0527222ee4ff2b9c5771e"), looks := true }, kinds := [], alts := [], laidByText := true, laidKinds := [.data, .pinned], laidTests := true, laidLooks := .later }
def QuoteReadsUptoCardSaid : Prop := Claim7.holds Tryd.pinned (.plain (OpenSpec.upto quoteReadsSpec)) quoteReadsUptoCard

/-- THE SECOND FORM's CARD OF 'cracknellaw07.QuoteDigits'. -/
def quoteDigitsUptoCard : Claim7 := { stood := { row := quoteDigitsUptoRow, standIns := [], harness := (true, "22dc8213063933b30f37c9e785a72b3134fba76d30a0527222ee4ff2b9c5771e"), looks := true }, kinds := [], alts := [], laidByText := true, laidKinds := [.data, .pinned], laidTests := true, laidLooks := .later }
def QuoteDigitsUptoCardSaid : Prop := Claim7.holds Tryd.pinned (.plain (OpenSpec.upto quoteDigitsSpec)) quoteDigitsUptoCard

/-- THE SECOND FORM's CARD OF 'cracknellaw07.QuoteCuts'. -/
def quoteCutsUptoCard : Claim7 := { stood := { row := quoteCutsUptoRow, standIns := [], harness := (true, "22dc8213063933b30f37c9e785a72b3134fba76d30a0527222ee4ff2b9c5771e"), looks := true }, kinds := [], alts := [], laidByText := true, laidKinds := [.data, .pinned], laidTests := true, laidLooks := .later }
def QuoteCutsUptoCardSaid : Prop := Claim7.holds Tryd.pinned (.plain (OpenSpec.upto quoteCutsSpec)) quoteCutsUptoCard

/-- THE SECOND FORM's CARD OF 'cracknellaw07.QuoteJoins'. -/
def quoteJoinsUptoCard : Claim7 := { stood := { row := quoteJoinsUptoRow, standIns := [], harness := (true, "22dc8213063933b30f37c9e785a72b3134fba76d30a0527222ee4ff2b9c5771e"), looks := true }, kinds := [], alts := [], laidByText := true, laidKinds := [.data, .pinned], laidTests := true, laidLooks := .later }
def QuoteJoinsUptoCardSaid : Prop := Claim7.holds Tryd.pinned (.plain (OpenSpec.upto quoteJoinsSpec)) quoteJoinsUptoCard

/-- THE SECOND FORM's CARD OF 'cracknellaw07.QuoteApart'. -/
def quoteApartUptoCard : Claim7 := { stood := { row := quoteApartUptoRow, standIns := [], harness := (true, "22dc8213063933b30f37c9e785a72b3134fba76d30a0527222ee4ff2b9c5771e"), looks := true }, kinds := [], alts := [], laidByText := true, laidKinds := [.data, .pinned], laidTests := true, laidLooks := .later }
def QuoteApartUptoCardSaid : Prop := Claim7.holds Tryd.pinned (.plain (OpenSpec.upto quoteApartSpec)) quoteApartUptoCard

/-- THE SECOND FORM's CARD OF 'cracknellaw08.JsonRight'. -/
def jsonRightUptoCard : Claim7 := { stood := { row := jsonRightUptoRow, standIns := [], harness := (true, "22dc8213063933b30f37c9e785a72b3134fba76d30a0527222ee4ff2b9c5771e"), looks := true }, kinds := [], alts := [], laidByText := true, laidKinds := [.data, .data, .data, .data, .sentinel, .sentinel, .pinned], laidTests := true, laidLooks := .later }
def JsonRightUptoCardSaid : Prop := Claim7.holds Tryd.pinned (.plain (OpenSpec.upto jsonRightSpec)) jsonRightUptoCard

/-- THE SECOND FORM's CARD OF 'cracknellaw08.JsonAgain'. -/
def jsonAgainUptoCard : Claim7 := { stood := { row := jsonAgainUptoRow, standIns := [], harness := (true, "22dc8213063933b30f37c9e785a72b3134fba76d30a0527222ee4ff2b9c5771e"), looks := true }, kinds := [], alts := [], laidByText := true, laidKinds := [.data, .data, .data, .data, .sentinel, .sentinel, .pinned], laidTests := true, laidLooks := .later }
def JsonAgainUptoCardSaid : Prop := Claim7.holds Tryd.pinned (.plain (OpenSpec.upto jsonAgainSpec)) jsonAgainUptoCard

/-- THE SECOND FORM's CARD OF 'cracknellaw08.JsonBlanks'. -/
def jsonBlanksUptoCard : Claim7 := { stood := { row := jsonBlanksUptoRow, standIns := [], harness := (true, "22dc8213063933b30f37c9e785a72b3134fba76d30a0527222ee4ff2b9c5771e"), looks := true }, kinds := [], alts := [], laidByText := true, laidKinds := [.data, .data, .data, .data, .sentinel, .sentinel, .pinned], laidTests := true, laidLooks := .later }
def JsonBlanksUptoCardSaid : Prop := Claim7.holds Tryd.pinned (.plain (OpenSpec.upto jsonBlanksSpec)) jsonBlanksUptoCard

/-- THE SECOND FORM's CARD OF 'cracknellaw08.JsonTwice'. -/
def jsonTwiceUptoCard : Claim7 := { stood := { row := jsonTwiceUptoRow, standIns := [], harness := (true, "22dc8213063933b30f37c9e785a72b3134fba76d30a0527222ee4ff2b9c5771e"), looks := true }, kinds := [], alts := [], laidByText := true, laidKinds := [.data, .data, .data, .data, .sentinel, .sentinel, .pinned], laidTests := true, laidLooks := .later }
def JsonTwiceUptoCardSaid : Prop := Claim7.holds Tryd.pinned (.plain (OpenSpec.upto jsonTwiceSpec)) jsonTwiceUptoCard

/-- THE SECOND FORM's CARD OF 'cracknellaw08.JsonApart'. -/
def jsonApartUptoCard : Claim7 := { stood := { row := jsonApartUptoRow, standIns := [], harness := (true, "22dc8213063933b30f37c9e785a72b3134fba76d30a0527222ee4ff2b9c5771e"), looks := true }, kinds := [], alts := [], laidByText := true, laidKinds := [.data, .data, .data, .data, .sentinel, .sentinel, .pinned], laidTests := true, laidLooks := .later }
def JsonApartUptoCardSaid : Prop := Claim7.holds Tryd.pinned (.plain (OpenSpec.upto jsonApartSpec)) jsonApartUptoCard

/-- THE SECOND FORM's CARD OF 'cracknellaw08.JsonDepth'. -/
def jsonDepthUptoCard : Claim7 := { stood := { row := jsonDepthUptoRow, standIns := [], harness := (true, "22dc8213063933b30f37c9e785a72b3134fba76d30a0527222ee4ff2b9c5771e"), looks := true }, kinds := [], alts := [], laidByText := true, laidKinds := [.data, .data, .data, .data, .sentinel, .sentinel, .pinned], laidTests := true, laidLooks := .later }
def JsonDepthUptoCardSaid : Prop := Claim7.holds Tryd.pinned (.plain (OpenSpec.upto jsonDepthSpec)) jsonDepthUptoCard
end Rows
end Go.Proofs.YthhmmaihbjhhgaaDoor
