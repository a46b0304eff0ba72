/-
  NARROWER THAN 'FOR EVERY INPUT', by the rows' own cells (each row's printed sentence says how): UtfPuts: laid · UtfTakes: laid · UtfTexts: laid · UtfRunes: laid · UtfJoins: laid · UtfOrders: laid · QuoteWrites: laid · QuoteReads: laid · QuoteDigits: laid · QuoteCuts: laid · QuoteJoins: laid · QuoteApart: laid · JsonRight: laid · JsonAgain: laid · JsonBlanks: laid · JsonTwice: laid · JsonApart: laid · JsonDepth: laid.
  DERIVED. THE GIVEN ROWS OF THIS SEAT. 18 by the template 'for every input the law returns true; each argument reads behind the call as it read before'; 0 by the template 'total and deterministic' (their statements: YthhmmaihbjhhgaaDoorTotals.lean).
  GIVEN WITH THE SEED: the statements are not yours to turn. If you find one false, say at which input.
  Laid BY PROGRAM, IN A SANDBOX (cutbox-rows.mjs): the forced cells as the released guide's own fill.sh prints them over the translation 295b5c1e9de335e6… (all of the seat's roots in one cut). By AI agents, Wed Nov 11 2026. No macro, syntax, notation, axiom, sorry.
-/
import Derived.Test.YthhmmaihbjhhgaaDoorChecked
import GoSem.PinnedTables
import GoSem.Claim
import GoSem.ClaimJoined
import GoSem.ClaimMapViews
import Derived.JoinedTies
import Derived.KernelRfl
namespace Go.Proofs.YthhmmaihbjhhgaaDoor
/- THE CELL 'sum', in the pinned program and in every row, IS THE sha256 OF THE DUMP (.gsa) THAT YthhmmaihbjhhgaaDoorProg.lean LOADS. Nothing in Lean hashes anything: it is a label: what it is worth is what the hold of that sum in a sandbox is worth. -/
noncomputable def Tryd.pinned : Pinned := { name := "ythhmmaihbjhhgaadoor", sum := "295b5c1e9de335e63983a8f2c06a29a4e10c3593d0f678ebe4d3ff62f90735f8", checked := Tryd.checked }
namespace Rows
def none {H : Type} : Left H := { results := [], args := [] }

/- WHAT THE LISTED PACKAGE-LEVEL VARIABLES READ AS WHEN THE CALL BEGINS. Each datum BY PROGRAM (the guide's laid-datum.mjs) off the statement by which the dump's own 'gosem.cut.vars' lays the variable. In a bare row this is a premise. The card (YthhmmaihbjhhgaaDoorCards.lean) ties it to the program's text. -/
def laid_unicode_utf8_acceptRanges {H : Type} : DataW H := .agg [.agg [.lit (.int .u8 128), .lit (.int .u8 191)], .agg [.lit (.int .u8 160), .lit (.int .u8 191)], .agg [.lit (.int .u8 128), .lit (.int .u8 159)], .agg [.lit (.int .u8 144), .lit (.int .u8 191)], .agg [.lit (.int .u8 128), .lit (.int .u8 143)], .agg [.lit (.int .u8 0), .lit (.int .u8 0)], .agg [.lit (.int .u8 0), .lit (.int .u8 0)], .agg [.lit (.int .u8 0), .lit (.int .u8 0)], .agg [.lit (.int .u8 0), .lit (.int .u8 0)], .agg [.lit (.int .u8 0), .lit (.int .u8 0)], .agg [.lit (.int .u8 0), .lit (.int .u8 0)], .agg [.lit (.int .u8 0), .lit (.int .u8 0)], .agg [.lit (.int .u8 0), .lit (.int .u8 0)], .agg [.lit (.int .u8 0), .lit (.int .u8 0)], .agg [.lit (.int .u8 0), .lit (.int .u8 0)], .agg [.lit (.int .u8 0), .lit (.int .u8 0)]]
/-- One of Go's own tables, pinned by name: the form's constant. -/
def laid_unicode_utf8_first : DataW Unit := Go.Pinned.utf8First
def laid_math_bits_deBruijn32tab {H : Type} : DataW H := .agg [.lit (.int .u8 0), .lit (.int .u8 1), .lit (.int .u8 28), .lit (.int .u8 2), .lit (.int .u8 29), .lit (.int .u8 14), .lit (.int .u8 24), .lit (.int .u8 3), .lit (.int .u8 30), .lit (.int .u8 22), .lit (.int .u8 20), .lit (.int .u8 15), .lit (.int .u8 25), .lit (.int .u8 17), .lit (.int .u8 4), .lit (.int .u8 8), .lit (.int .u8 31), .lit (.int .u8 27), .lit (.int .u8 13), .lit (.int .u8 23), .lit (.int .u8 21), .lit (.int .u8 19), .lit (.int .u8 16), .lit (.int .u8 7), .lit (.int .u8 26), .lit (.int .u8 12), .lit (.int .u8 18), .lit (.int .u8 6), .lit (.int .u8 11), .lit (.int .u8 5), .lit (.int .u8 10), .lit (.int .u8 9)]
def laid_math_bits_deBruijn64tab {H : Type} : DataW H := .agg [.lit (.int .u8 0), .lit (.int .u8 1), .lit (.int .u8 56), .lit (.int .u8 2), .lit (.int .u8 57), .lit (.int .u8 49), .lit (.int .u8 28), .lit (.int .u8 3), .lit (.int .u8 61), .lit (.int .u8 58), .lit (.int .u8 42), .lit (.int .u8 50), .lit (.int .u8 38), .lit (.int .u8 29), .lit (.int .u8 17), .lit (.int .u8 4), .lit (.int .u8 62), .lit (.int .u8 47), .lit (.int .u8 59), .lit (.int .u8 36), .lit (.int .u8 45), .lit (.int .u8 43), .lit (.int .u8 51), .lit (.int .u8 22), .lit (.int .u8 53), .lit (.int .u8 39), .lit (.int .u8 33), .lit (.int .u8 30), .lit (.int .u8 24), .lit (.int .u8 18), .lit (.int .u8 12), .lit (.int .u8 5), .lit (.int .u8 63), .lit (.int .u8 55), .lit (.int .u8 48), .lit (.int .u8 27), .lit (.int .u8 60), .lit (.int .u8 41), .lit (.int .u8 37), .lit (.int .u8 16), .lit (.int .u8 46), .lit (.int .u8 35), .lit (.int .u8 44), .lit (.int .u8 21), .lit (.int .u8 52), .lit (.int .u8 32), .lit (.int .u8 23), .lit (.int .u8 11), .lit (.int .u8 54), .lit (.int .u8 26), .lit (.int .u8 40), .lit (.int .u8 15), .lit (.int .u8 34), .lit (.int .u8 20), .lit (.int .u8 31), .lit (.int .u8 10), .lit (.int .u8 25), .lit (.int .u8 14), .lit (.int .u8 19), .lit (.int .u8 9), .lit (.int .u8 13), .lit (.int .u8 8), .lit (.int .u8 7), .lit (.int .u8 6)]
def laid_internal_strconv_uint64pow10 {H : Type} : DataW H := .agg [.lit (.int .u64 1), .lit (.int .u64 10), .lit (.int .u64 100), .lit (.int .u64 1000), .lit (.int .u64 10000), .lit (.int .u64 100000), .lit (.int .u64 1000000), .lit (.int .u64 10000000), .lit (.int .u64 100000000), .lit (.int .u64 1000000000), .lit (.int .u64 10000000000), .lit (.int .u64 100000000000), .lit (.int .u64 1000000000000), .lit (.int .u64 10000000000000), .lit (.int .u64 100000000000000), .lit (.int .u64 1000000000000000), .lit (.int .u64 10000000000000000), .lit (.int .u64 100000000000000000), .lit (.int .u64 1000000000000000000), .lit (.int .u64 10000000000000000000)]
def laid_strconv_ErrRange {H : Type} : DataW H := .iface "*errors.errorString" (.ptr (.agg [.lit (.string [118, 97, 108, 117, 101, 32, 111, 117, 116, 32, 111, 102, 32, 114, 97, 110, 103, 101])]))
def laid_strconv_ErrSyntax {H : Type} : DataW H := .iface "*errors.errorString" (.ptr (.agg [.lit (.string [105, 110, 118, 97, 108, 105, 100, 32, 115, 121, 110, 116, 97, 120])]))

/-- 'cracknellaw05.UtfPuts': WHATEVER THE INPUT: true; the input reads as it did. -/
def utfPutsSpec : ChangeSpec := { name := "utfPuts", fn := fun _ => fun
  | [d1, d2] => { results := [.lit (.bool true)], args := [d1, d2] }
  | _ => none }
def utfPutsRow : OpenClaim := { program := "ythhmmaihbjhhgaadoor", sum := "295b5c1e9de335e63983a8f2c06a29a4e10c3593d0f678ebe4d3ff62f90735f8", func := "cracknel/cracknellaw05.UtfPuts", spec := "utfPuts", inPlace := ["internal/abi.NoEscape"], named := ["unicode/utf8.first", "unicode/utf8.acceptRanges"], apart := false, laid := [("unicode/utf8.acceptRanges", laid_unicode_utf8_acceptRanges), ("unicode/utf8.first", laid_unicode_utf8_first)] }
def UtfPutsSaid : Prop := utfPutsRow.holds Tryd.pinned (OpenSpec.ofChange utfPutsSpec)

/-- ITS FALSE NEIGHBOUR: 'it returns false'. Refute it at one input. -/
def utfPutsWrong : ChangeSpec := { name := "utfPuts", fn := fun _ => fun
  | [d1, d2] => { results := [.lit (.bool false)], args := [d1, d2] }
  | _ => none }
def UtfPutsWrongFalsely : Prop := utfPutsRow.holds Tryd.pinned (OpenSpec.ofChange utfPutsWrong)

/-- 'cracknellaw05.UtfTakes': WHATEVER THE INPUT: true; the input reads as it did. -/
def utfTakesSpec : ChangeSpec := { name := "utfTakes", fn := fun _ => fun
  | [d] => { results := [.lit (.bool true)], args := [d] }
  | _ => none }
def utfTakesRow : OpenClaim := { program := "ythhmmaihbjhhgaadoor", sum := "295b5c1e9de335e63983a8f2c06a29a4e10c3593d0f678ebe4d3ff62f90735f8", func := "cracknel/cracknellaw05.UtfTakes", spec := "utfTakes", inPlace := ["internal/abi.NoEscape"], named := ["unicode/utf8.first", "unicode/utf8.acceptRanges"], apart := false, laid := [("unicode/utf8.acceptRanges", laid_unicode_utf8_acceptRanges), ("unicode/utf8.first", laid_unicode_utf8_first)] }
def UtfTakesSaid : Prop := utfTakesRow.holds Tryd.pinned (OpenSpec.ofChange utfTakesSpec)

/-- ITS FALSE NEIGHBOUR: 'it returns false'. Refute it at one input. -/
def utfTakesWrong : ChangeSpec := { name := "utfTakes", fn := fun _ => fun
  | [d] => { results := [.lit (.bool false)], args := [d] }
  | _ => none }
def UtfTakesWrongFalsely : Prop := utfTakesRow.holds Tryd.pinned (OpenSpec.ofChange utfTakesWrong)

/-- 'cracknellaw05.UtfTexts': WHATEVER THE INPUT: true; the input reads as it did. -/
def utfTextsSpec : ChangeSpec := { name := "utfTexts", fn := fun _ => fun
  | [d] => { results := [.lit (.bool true)], args := [d] }
  | _ => none }
def utfTextsRow : OpenClaim := { program := "ythhmmaihbjhhgaadoor", sum := "295b5c1e9de335e63983a8f2c06a29a4e10c3593d0f678ebe4d3ff62f90735f8", func := "cracknel/cracknellaw05.UtfTexts", spec := "utfTexts", inPlace := ["internal/abi.NoEscape"], named := ["unicode/utf8.first", "unicode/utf8.acceptRanges"], apart := false, laid := [("unicode/utf8.acceptRanges", laid_unicode_utf8_acceptRanges), ("unicode/utf8.first", laid_unicode_utf8_first)] }
def UtfTextsSaid : Prop := utfTextsRow.holds Tryd.pinned (OpenSpec.ofChange utfTextsSpec)

/-- ITS FALSE NEIGHBOUR: 'it returns false'. Refute it at one input. -/
def utfTextsWrong : ChangeSpec := { name := "utfTexts", fn := fun _ => fun
  | [d] => { results := [.lit (.bool false)], args := [d] }
  | _ => none }
def UtfTextsWrongFalsely : Prop := utfTextsRow.holds Tryd.pinned (OpenSpec.ofChange utfTextsWrong)

/-- 'cracknellaw05.UtfRunes': WHATEVER THE INPUT: true; the input reads as it did. -/
def utfRunesSpec : ChangeSpec := { name := "utfRunes", fn := fun _ => fun
  | [d] => { results := [.lit (.bool true)], args := [d] }
  | _ => none }
def utfRunesRow : OpenClaim := { program := "ythhmmaihbjhhgaadoor", sum := "295b5c1e9de335e63983a8f2c06a29a4e10c3593d0f678ebe4d3ff62f90735f8", func := "cracknel/cracknellaw05.UtfRunes", spec := "utfRunes", inPlace := ["internal/abi.NoEscape"], named := ["unicode/utf8.first", "unicode/utf8.acceptRanges"], apart := false, laid := [("unicode/utf8.acceptRanges", laid_unicode_utf8_acceptRanges), ("unicode/utf8.first", laid_unicode_utf8_first)] }
def UtfRunesSaid : Prop := utfRunesRow.holds Tryd.pinned (OpenSpec.ofChange utfRunesSpec)

/-- ITS FALSE NEIGHBOUR: 'it returns false'. Refute it at one input. -/
def utfRunesWrong : ChangeSpec := { name := "utfRunes", fn := fun _ => fun
  | [d] => { results := [.lit (.bool false)], args := [d] }
  | _ => none }
def UtfRunesWrongFalsely : Prop := utfRunesRow.holds Tryd.pinned (OpenSpec.ofChange utfRunesWrong)

/-- 'cracknellaw05.UtfJoins': WHATEVER THE INPUT: true; the input reads as it did. -/
def utfJoinsSpec : ChangeSpec := { name := "utfJoins", fn := fun _ => fun
  | [d1, d2] => { results := [.lit (.bool true)], args := [d1, d2] }
  | _ => none }
def utfJoinsRow : OpenClaim := { program := "ythhmmaihbjhhgaadoor", sum := "295b5c1e9de335e63983a8f2c06a29a4e10c3593d0f678ebe4d3ff62f90735f8", func := "cracknel/cracknellaw05.UtfJoins", spec := "utfJoins", inPlace := ["internal/abi.NoEscape"], named := ["unicode/utf8.first", "unicode/utf8.acceptRanges"], apart := false, laid := [("unicode/utf8.acceptRanges", laid_unicode_utf8_acceptRanges), ("unicode/utf8.first", laid_unicode_utf8_first)] }
def UtfJoinsSaid : Prop := utfJoinsRow.holds Tryd.pinned (OpenSpec.ofChange utfJoinsSpec)

/-- ITS FALSE NEIGHBOUR: 'it returns false'. Refute it at one input. -/
def utfJoinsWrong : ChangeSpec := { name := "utfJoins", fn := fun _ => fun
  | [d1, d2] => { results := [.lit (.bool false)], args := [d1, d2] }
  | _ => none }
def UtfJoinsWrongFalsely : Prop := utfJoinsRow.holds Tryd.pinned (OpenSpec.ofChange utfJoinsWrong)

/-- 'cracknellaw05.UtfOrders': WHATEVER THE INPUT: true; the input reads as it did. -/
def utfOrdersSpec : ChangeSpec := { name := "utfOrders", fn := fun _ => fun
  | [d1, d2] => { results := [.lit (.bool true)], args := [d1, d2] }
  | _ => none }
def utfOrdersRow : OpenClaim := { program := "ythhmmaihbjhhgaadoor", sum := "295b5c1e9de335e63983a8f2c06a29a4e10c3593d0f678ebe4d3ff62f90735f8", func := "cracknel/cracknellaw05.UtfOrders", spec := "utfOrders", inPlace := ["internal/abi.NoEscape"], named := ["unicode/utf8.first", "unicode/utf8.acceptRanges"], apart := false, laid := [("unicode/utf8.acceptRanges", laid_unicode_utf8_acceptRanges), ("unicode/utf8.first", laid_unicode_utf8_first)] }
def UtfOrdersSaid : Prop := utfOrdersRow.holds Tryd.pinned (OpenSpec.ofChange utfOrdersSpec)

/-- ITS FALSE NEIGHBOUR: 'it returns false'. Refute it at one input. -/
def utfOrdersWrong : ChangeSpec := { name := "utfOrders", fn := fun _ => fun
  | [d1, d2] => { results := [.lit (.bool false)], args := [d1, d2] }
  | _ => none }
def UtfOrdersWrongFalsely : Prop := utfOrdersRow.holds Tryd.pinned (OpenSpec.ofChange utfOrdersWrong)

/-- 'cracknellaw07.QuoteWrites': WHATEVER THE INPUT: true; the input reads as it did. -/
def quoteWritesSpec : ChangeSpec := { name := "quoteWrites", fn := fun _ => fun
  | [d1, d2] => { results := [.lit (.bool true)], args := [d1, d2] }
  | _ => none }
def quoteWritesRow : OpenClaim := { program := "ythhmmaihbjhhgaadoor", sum := "295b5c1e9de335e63983a8f2c06a29a4e10c3593d0f678ebe4d3ff62f90735f8", func := "cracknel/cracknellaw07.QuoteWrites", spec := "quoteWrites", inPlace := ["internal/abi.NoEscape", "internal/bytealg.IndexByteString"], unfollowed := true, recurses := true, named := ["unicode/utf8.first", "unicode/utf8.acceptRanges"], apart := false, laid := [("unicode/utf8.acceptRanges", laid_unicode_utf8_acceptRanges), ("unicode/utf8.first", laid_unicode_utf8_first)] }
def QuoteWritesSaid : Prop := quoteWritesRow.holds Tryd.pinned (OpenSpec.ofChange quoteWritesSpec)

/-- ITS FALSE NEIGHBOUR: 'it returns false'. Refute it at one input. -/
def quoteWritesWrong : ChangeSpec := { name := "quoteWrites", fn := fun _ => fun
  | [d1, d2] => { results := [.lit (.bool false)], args := [d1, d2] }
  | _ => none }
def QuoteWritesWrongFalsely : Prop := quoteWritesRow.holds Tryd.pinned (OpenSpec.ofChange quoteWritesWrong)

/-- 'cracknellaw07.QuoteReads': WHATEVER THE INPUT: true; the input reads as it did. -/
def quoteReadsSpec : ChangeSpec := { name := "quoteReads", fn := fun _ => fun
  | [d] => { results := [.lit (.bool true)], args := [d] }
  | _ => none }
def quoteReadsRow : OpenClaim := { program := "ythhmmaihbjhhgaadoor", sum := "295b5c1e9de335e63983a8f2c06a29a4e10c3593d0f678ebe4d3ff62f90735f8", func := "cracknel/cracknellaw07.QuoteReads", spec := "quoteReads", inPlace := ["internal/abi.NoEscape", "internal/bytealg.IndexByteString"], unfollowed := true, recurses := true, named := ["unicode/utf8.first", "unicode/utf8.acceptRanges"], apart := false, laid := [("unicode/utf8.acceptRanges", laid_unicode_utf8_acceptRanges), ("unicode/utf8.first", laid_unicode_utf8_first)] }
def QuoteReadsSaid : Prop := quoteReadsRow.holds Tryd.pinned (OpenSpec.ofChange quoteReadsSpec)

/-- ITS FALSE NEIGHBOUR: 'it returns false'. Refute it at one input. -/
def quoteReadsWrong : ChangeSpec := { name := "quoteReads", fn := fun _ => fun
  | [d] => { results := [.lit (.bool false)], args := [d] }
  | _ => none }
def QuoteReadsWrongFalsely : Prop := quoteReadsRow.holds Tryd.pinned (OpenSpec.ofChange quoteReadsWrong)

/-- 'cracknellaw07.QuoteDigits': WHATEVER THE INPUT: true; the input reads as it did. -/
def quoteDigitsSpec : ChangeSpec := { name := "quoteDigits", fn := fun _ => fun
  | [d1, d2] => { results := [.lit (.bool true)], args := [d1, d2] }
  | _ => none }
def quoteDigitsRow : OpenClaim := { program := "ythhmmaihbjhhgaadoor", sum := "295b5c1e9de335e63983a8f2c06a29a4e10c3593d0f678ebe4d3ff62f90735f8", func := "cracknel/cracknellaw07.QuoteDigits", spec := "quoteDigits", inPlace := ["internal/abi.NoEscape", "internal/bytealg.IndexByteString"], unfollowed := true, recurses := true, named := ["unicode/utf8.first", "unicode/utf8.acceptRanges"], apart := false, laid := [("unicode/utf8.acceptRanges", laid_unicode_utf8_acceptRanges), ("unicode/utf8.first", laid_unicode_utf8_first)] }
def QuoteDigitsSaid : Prop := quoteDigitsRow.holds Tryd.pinned (OpenSpec.ofChange quoteDigitsSpec)

/-- ITS FALSE NEIGHBOUR: 'it returns false'. Refute it at one input. -/
def quoteDigitsWrong : ChangeSpec := { name := "quoteDigits", fn := fun _ => fun
  | [d1, d2] => { results := [.lit (.bool false)], args := [d1, d2] }
  | _ => none }
def QuoteDigitsWrongFalsely : Prop := quoteDigitsRow.holds Tryd.pinned (OpenSpec.ofChange quoteDigitsWrong)

/-- 'cracknellaw07.QuoteCuts': WHATEVER THE INPUT: true; the input reads as it did. -/
def quoteCutsSpec : ChangeSpec := { name := "quoteCuts", fn := fun _ => fun
  | [d1, d2] => { results := [.lit (.bool true)], args := [d1, d2] }
  | _ => none }
def quoteCutsRow : OpenClaim := { program := "ythhmmaihbjhhgaadoor", sum := "295b5c1e9de335e63983a8f2c06a29a4e10c3593d0f678ebe4d3ff62f90735f8", func := "cracknel/cracknellaw07.QuoteCuts", spec := "quoteCuts", inPlace := ["internal/abi.NoEscape", "internal/bytealg.IndexByteString"], unfollowed := true, recurses := true, named := ["unicode/utf8.first", "unicode/utf8.acceptRanges"], apart := false, laid := [("unicode/utf8.acceptRanges", laid_unicode_utf8_acceptRanges), ("unicode/utf8.first", laid_unicode_utf8_first)] }
def QuoteCutsSaid : Prop := quoteCutsRow.holds Tryd.pinned (OpenSpec.ofChange quoteCutsSpec)

/-- ITS FALSE NEIGHBOUR: 'it returns false'. Refute it at one input. -/
def quoteCutsWrong : ChangeSpec := { name := "quoteCuts", fn := fun _ => fun
  | [d1, d2] => { results := [.lit (.bool false)], args := [d1, d2] }
  | _ => none }
def QuoteCutsWrongFalsely : Prop := quoteCutsRow.holds Tryd.pinned (OpenSpec.ofChange quoteCutsWrong)

/-- 'cracknellaw07.QuoteJoins': WHATEVER THE INPUT: true; the input reads as it did. -/
def quoteJoinsSpec : ChangeSpec := { name := "quoteJoins", fn := fun _ => fun
  | [d1, d2] => { results := [.lit (.bool true)], args := [d1, d2] }
  | _ => none }
def quoteJoinsRow : OpenClaim := { program := "ythhmmaihbjhhgaadoor", sum := "295b5c1e9de335e63983a8f2c06a29a4e10c3593d0f678ebe4d3ff62f90735f8", func := "cracknel/cracknellaw07.QuoteJoins", spec := "quoteJoins", inPlace := ["internal/abi.NoEscape", "internal/bytealg.IndexByteString"], unfollowed := true, recurses := true, named := ["unicode/utf8.first", "unicode/utf8.acceptRanges"], apart := false, laid := [("unicode/utf8.acceptRanges", laid_unicode_utf8_acceptRanges), ("unicode/utf8.first", laid_unicode_utf8_first)] }
def QuoteJoinsSaid : Prop := quoteJoinsRow.holds Tryd.pinned (OpenSpec.ofChange quoteJoinsSpec)

/-- ITS FALSE NEIGHBOUR: 'it returns false'. Refute it at one input. -/
def quoteJoinsWrong : ChangeSpec := { name := "quoteJoins", fn := fun _ => fun
  | [d1, d2] => { results := [.lit (.bool false)], args := [d1, d2] }
  | _ => none }
def QuoteJoinsWrongFalsely : Prop := quoteJoinsRow.holds Tryd.pinned (OpenSpec.ofChange quoteJoinsWrong)

/-- 'cracknellaw07.QuoteApart': WHATEVER THE INPUT: true; the input reads as it did. -/
def quoteApartSpec : ChangeSpec := { name := "quoteApart", fn := fun _ => fun
  | [d1, d2] => { results := [.lit (.bool true)], args := [d1, d2] }
  | _ => none }
def quoteApartRow : OpenClaim := { program := "ythhmmaihbjhhgaadoor", sum := "295b5c1e9de335e63983a8f2c06a29a4e10c3593d0f678ebe4d3ff62f90735f8", func := "cracknel/cracknellaw07.QuoteApart", spec := "quoteApart", inPlace := ["internal/abi.NoEscape", "internal/bytealg.IndexByteString"], unfollowed := true, recurses := true, named := ["unicode/utf8.first", "unicode/utf8.acceptRanges"], apart := false, laid := [("unicode/utf8.acceptRanges", laid_unicode_utf8_acceptRanges), ("unicode/utf8.first", laid_unicode_utf8_first)] }
def QuoteApartSaid : Prop := quoteApartRow.holds Tryd.pinned (OpenSpec.ofChange quoteApartSpec)

/-- ITS FALSE NEIGHBOUR: 'it returns false'. Refute it at one input. -/
def quoteApartWrong : ChangeSpec := { name := "quoteApart", fn := fun _ => fun
  | [d1, d2] => { results := [.lit (.bool false)], args := [d1, d2] }
  | _ => none }
def QuoteApartWrongFalsely : Prop := quoteApartRow.holds Tryd.pinned (OpenSpec.ofChange quoteApartWrong)

/-- 'cracknellaw08.JsonRight': WHATEVER THE INPUT: true; the input reads as it did. -/
def jsonRightSpec : ChangeSpec := { name := "jsonRight", fn := fun _ => fun
  | [d] => { results := [.lit (.bool true)], args := [d] }
  | _ => none }
def jsonRightRow : OpenClaim := { program := "ythhmmaihbjhhgaadoor", sum := "295b5c1e9de335e63983a8f2c06a29a4e10c3593d0f678ebe4d3ff62f90735f8", func := "cracknel/cracknellaw08.JsonRight", spec := "jsonRight", inPlace := ["internal/bytealg.IndexByteString", "internal/abi.NoEscape"], unfollowed := true, recurses := true, named := ["unicode/utf8.first", "unicode/utf8.acceptRanges", "strconv.ErrSyntax", "strconv.ErrRange", "internal/strconv.uint64pow10", "math/bits.deBruijn32tab", "math/bits.deBruijn64tab"], apart := false, laid := [("math/bits.deBruijn32tab", laid_math_bits_deBruijn32tab), ("math/bits.deBruijn64tab", laid_math_bits_deBruijn64tab), ("internal/strconv.uint64pow10", laid_internal_strconv_uint64pow10), ("unicode/utf8.acceptRanges", laid_unicode_utf8_acceptRanges), ("strconv.ErrRange", laid_strconv_ErrRange), ("strconv.ErrSyntax", laid_strconv_ErrSyntax), ("unicode/utf8.first", laid_unicode_utf8_first)] }
def JsonRightSaid : Prop := jsonRightRow.holds Tryd.pinned (OpenSpec.ofChange jsonRightSpec)

/-- ITS FALSE NEIGHBOUR: 'it returns false'. Refute it at one input. -/
def jsonRightWrong : ChangeSpec := { name := "jsonRight", fn := fun _ => fun
  | [d] => { results := [.lit (.bool false)], args := [d] }
  | _ => none }
def JsonRightWrongFalsely : Prop := jsonRightRow.holds Tryd.pinned (OpenSpec.ofChange jsonRightWrong)

/-- 'cracknellaw08.JsonAgain': WHATEVER THE INPUT: true; the input reads as it did. -/
def jsonAgainSpec : ChangeSpec := { name := "jsonAgain", fn := fun _ => fun
  | [d] => { results := [.lit (.bool true)], args := [d] }
  | _ => none }
def jsonAgainRow : OpenClaim := { program := "ythhmmaihbjhhgaadoor", sum := "295b5c1e9de335e63983a8f2c06a29a4e10c3593d0f678ebe4d3ff62f90735f8", func := "cracknel/cracknellaw08.JsonAgain", spec := "jsonAgain", inPlace := ["internal/bytealg.IndexByteString", "internal/abi.NoEscape"], unfollowed := true, recurses := true, named := ["unicode/utf8.first", "unicode/utf8.acceptRanges", "strconv.ErrSyntax", "strconv.ErrRange", "internal/strconv.uint64pow10", "math/bits.deBruijn32tab", "math/bits.deBruijn64tab"], apart := false, laid := [("math/bits.deBruijn32tab", laid_math_bits_deBruijn32tab), ("math/bits.deBruijn64tab", laid_math_bits_deBruijn64tab), ("internal/strconv.uint64pow10", laid_internal_strconv_uint64pow10), ("unicode/utf8.acceptRanges", laid_unicode_utf8_acceptRanges), ("strconv.ErrRange", laid_strconv_ErrRange), ("strconv.ErrSyntax", laid_strconv_ErrSyntax), ("unicode/utf8.first", laid_unicode_utf8_first)] }
def JsonAgainSaid : Prop := jsonAgainRow.holds Tryd.pinned (OpenSpec.ofChange jsonAgainSpec)

/-- ITS FALSE NEIGHBOUR: 'it returns false'. Refute it at one input. -/
def jsonAgainWrong : ChangeSpec := { name := "jsonAgain", fn := fun _ => fun
  | [d] => { results := [.lit (.bool false)], args := [d] }
  | _ => none }
def JsonAgainWrongFalsely : Prop := jsonAgainRow.holds Tryd.pinned (OpenSpec.ofChange jsonAgainWrong)

/-- 'cracknellaw08.JsonBlanks': WHATEVER THE INPUT: true; the input reads as it did. -/
def jsonBlanksSpec : ChangeSpec := { name := "jsonBlanks", fn := fun _ => fun
  | [d1, d2, d3] => { results := [.lit (.bool true)], args := [d1, d2, d3] }
  | _ => none }
def jsonBlanksRow : OpenClaim := { program := "ythhmmaihbjhhgaadoor", sum := "295b5c1e9de335e63983a8f2c06a29a4e10c3593d0f678ebe4d3ff62f90735f8", func := "cracknel/cracknellaw08.JsonBlanks", spec := "jsonBlanks", inPlace := ["internal/bytealg.IndexByteString", "internal/abi.NoEscape"], unfollowed := true, recurses := true, named := ["unicode/utf8.first", "unicode/utf8.acceptRanges", "strconv.ErrSyntax", "strconv.ErrRange", "internal/strconv.uint64pow10", "math/bits.deBruijn32tab", "math/bits.deBruijn64tab"], apart := false, laid := [("math/bits.deBruijn32tab", laid_math_bits_deBruijn32tab), ("math/bits.deBruijn64tab", laid_math_bits_deBruijn64tab), ("internal/strconv.uint64pow10", laid_internal_strconv_uint64pow10), ("unicode/utf8.acceptRanges", laid_unicode_utf8_acceptRanges), ("strconv.ErrRange", laid_strconv_ErrRange), ("strconv.ErrSyntax", laid_strconv_ErrSyntax), ("unicode/utf8.first", laid_unicode_utf8_first)] }
def JsonBlanksSaid : Prop := jsonBlanksRow.holds Tryd.pinned (OpenSpec.ofChange jsonBlanksSpec)

/-- ITS FALSE NEIGHBOUR: 'it returns false'. Refute it at one input. -/
def jsonBlanksWrong : ChangeSpec := { name := "jsonBlanks", fn := fun _ => fun
  | [d1, d2, d3] => { results := [.lit (.bool false)], args := [d1, d2, d3] }
  | _ => none }
def JsonBlanksWrongFalsely : Prop := jsonBlanksRow.holds Tryd.pinned (OpenSpec.ofChange jsonBlanksWrong)

/-- 'cracknellaw08.JsonTwice': WHATEVER THE INPUT: true; the input reads as it did. -/
def jsonTwiceSpec : ChangeSpec := { name := "jsonTwice", fn := fun _ => fun
  | [d1, d2, d3] => { results := [.lit (.bool true)], args := [d1, d2, d3] }
  | _ => none }
def jsonTwiceRow : OpenClaim := { program := "ythhmmaihbjhhgaadoor", sum := "295b5c1e9de335e63983a8f2c06a29a4e10c3593d0f678ebe4d3ff62f90735f8", func := "cracknel/cracknellaw08.JsonTwice", spec := "jsonTwice", inPlace := ["internal/bytealg.IndexByteString", "internal/abi.NoEscape"], unfollowed := true, recurses := true, named := ["unicode/utf8.first", "unicode/utf8.acceptRanges", "strconv.ErrSyntax", "strconv.ErrRange", "internal/strconv.uint64pow10", "math/bits.deBruijn32tab", "math/bits.deBruijn64tab"], apart := false, laid := [("math/bits.deBruijn32tab", laid_math_bits_deBruijn32tab), ("math/bits.deBruijn64tab", laid_math_bits_deBruijn64tab), ("internal/strconv.uint64pow10", laid_internal_strconv_uint64pow10), ("unicode/utf8.acceptRanges", laid_unicode_utf8_acceptRanges), ("strconv.ErrRange", laid_strconv_ErrRange), ("strconv.ErrSyntax", laid_strconv_ErrSyntax), ("unicode/utf8.first", laid_unicode_utf8_first)] }
def JsonTwiceSaid : Prop := jsonTwiceRow.holds Tryd.pinned (OpenSpec.ofChange jsonTwiceSpec)

/-- ITS FALSE NEIGHBOUR: 'it returns false'. Refute it at one input. -/
def jsonTwiceWrong : ChangeSpec := { name := "jsonTwice", fn := fun _ => fun
  | [d1, d2, d3] => { results := [.lit (.bool false)], args := [d1, d2, d3] }
  | _ => none }
def JsonTwiceWrongFalsely : Prop := jsonTwiceRow.holds Tryd.pinned (OpenSpec.ofChange jsonTwiceWrong)

/-- 'cracknellaw08.JsonApart': WHATEVER THE INPUT: true; the input reads as it did. -/
def jsonApartSpec : ChangeSpec := { name := "jsonApart", fn := fun _ => fun
  | [d1, d2] => { results := [.lit (.bool true)], args := [d1, d2] }
  | _ => none }
def jsonApartRow : OpenClaim := { program := "ythhmmaihbjhhgaadoor", sum := "295b5c1e9de335e63983a8f2c06a29a4e10c3593d0f678ebe4d3ff62f90735f8", func := "cracknel/cracknellaw08.JsonApart", spec := "jsonApart", inPlace := ["internal/bytealg.IndexByteString", "internal/abi.NoEscape"], unfollowed := true, recurses := true, named := ["unicode/utf8.first", "unicode/utf8.acceptRanges", "strconv.ErrSyntax", "strconv.ErrRange", "internal/strconv.uint64pow10", "math/bits.deBruijn32tab", "math/bits.deBruijn64tab"], apart := false, laid := [("math/bits.deBruijn32tab", laid_math_bits_deBruijn32tab), ("math/bits.deBruijn64tab", laid_math_bits_deBruijn64tab), ("internal/strconv.uint64pow10", laid_internal_strconv_uint64pow10), ("unicode/utf8.acceptRanges", laid_unicode_utf8_acceptRanges), ("strconv.ErrRange", laid_strconv_ErrRange), ("strconv.ErrSyntax", laid_strconv_ErrSyntax), ("unicode/utf8.first", laid_unicode_utf8_first)] }
def JsonApartSaid : Prop := jsonApartRow.holds Tryd.pinned (OpenSpec.ofChange jsonApartSpec)

/-- ITS FALSE NEIGHBOUR: 'it returns false'. Refute it at one input. -/
def jsonApartWrong : ChangeSpec := { name := "jsonApart", fn := fun _ => fun
  | [d1, d2] => { results := [.lit (.bool false)], args := [d1, d2] }
  | _ => none }
def JsonApartWrongFalsely : Prop := jsonApartRow.holds Tryd.pinned (OpenSpec.ofChange jsonApartWrong)

/-- 'cracknellaw08.JsonDepth': WHATEVER THE INPUT: true; the input reads as it did. -/
def jsonDepthSpec : ChangeSpec := { name := "jsonDepth", fn := fun _ => fun
  | [d1, d2] => { results := [.lit (.bool true)], args := [d1, d2] }
  | _ => none }
def jsonDepthRow : OpenClaim := { program := "ythhmmaihbjhhgaadoor", sum := "295b5c1e9de335e63983a8f2c06a29a4e10c3593d0f678ebe4d3ff62f90735f8", func := "cracknel/cracknellaw08.JsonDepth", spec := "jsonDepth", inPlace := ["internal/bytealg.IndexByteString", "internal/abi.NoEscape", "internal/bytealg.MakeNoZero"], unfollowed := true, recurses := true, named := ["unicode/utf8.first", "unicode/utf8.acceptRanges", "strconv.ErrSyntax", "strconv.ErrRange", "internal/strconv.uint64pow10", "math/bits.deBruijn32tab", "math/bits.deBruijn64tab"], apart := false, laid := [("math/bits.deBruijn32tab", laid_math_bits_deBruijn32tab), ("math/bits.deBruijn64tab", laid_math_bits_deBruijn64tab), ("internal/strconv.uint64pow10", laid_internal_strconv_uint64pow10), ("unicode/utf8.acceptRanges", laid_unicode_utf8_acceptRanges), ("strconv.ErrRange", laid_strconv_ErrRange), ("strconv.ErrSyntax", laid_strconv_ErrSyntax), ("unicode/utf8.first", laid_unicode_utf8_first)] }
def JsonDepthSaid : Prop := jsonDepthRow.holds Tryd.pinned (OpenSpec.ofChange jsonDepthSpec)

/-- ITS FALSE NEIGHBOUR: 'it returns false'. Refute it at one input. -/
def jsonDepthWrong : ChangeSpec := { name := "jsonDepth", fn := fun _ => fun
  | [d1, d2] => { results := [.lit (.bool false)], args := [d1, d2] }
  | _ => none }
def JsonDepthWrongFalsely : Prop := jsonDepthRow.holds Tryd.pinned (OpenSpec.ofChange jsonDepthWrong)

/- THE SECOND FORM. 'bulk': how many values and letters a reading holds, each counted each time it is reached (what is shared counts as often as it is met; a slice's spare places count too). A statement '..UptoSaid' is the law's where the arguments, and the package variables that the reading takes, are together of bulk at most 1048576: NARROWER than '..Said'. Prove '..Said' where nothing that the law and all that it calls make is longer than what came in: it says more and counts as full. Else prove '..UptoSaid'. A law counts once. -/
mutual
def uptoBulk {H : Type} : DataW H → Nat
  | .lit (.string bytes) => bytes.length + 1
  | .lit _ => 1
  | .nil => 1
  | .ptr d => uptoBulk d + 1
  | .slice elems spare => uptoBulkAll elems + uptoBulkAll spare + 1
  | .agg parts => uptoBulkAll parts + 1
  | .iface _ d => uptoBulk d + 1
  | .map entries => uptoBulkEntries entries + 1
  | .held _ => 1
def uptoBulkAll {H : Type} : List (DataW H) → Nat
  | [] => 0
  | d :: r => uptoBulk d + uptoBulkAll r
def uptoBulkEntries {H : Type} : List (Lit × DataW H) → Nat
  | [] => 0
  | x :: r => uptoBulkEntry x + uptoBulkEntries r
def uptoBulkEntry {H : Type} : Lit × DataW H → Nat
  | (.string bytes, d) => bytes.length + uptoBulk d + 1
  | (_, d) => uptoBulk d + 1
 end
def uptoSmall : (H : Type) → List (DataW H) → Bool := fun _ ds => decide (uptoBulkAll ds ≤ 1048576)
def OpenSpec.upto (s : _root_.Go.ChangeSpec) : _root_.Go.OpenSpec := { _root_.Go.OpenSpec.ofChange s with cond := some uptoSmall }

/-- 'cracknellaw05.UtfPuts', WHERE WHAT IT READS IS OF BULK AT MOST 1048576: true; the input reads as it did. -/
def utfPutsUptoRow : OpenClaim := { program := "ythhmmaihbjhhgaadoor", sum := "295b5c1e9de335e63983a8f2c06a29a4e10c3593d0f678ebe4d3ff62f90735f8", func := "cracknel/cracknellaw05.UtfPuts", spec := "utfPuts", inPlace := ["internal/abi.NoEscape"], named := ["unicode/utf8.first", "unicode/utf8.acceptRanges"], apart := false, laid := [("unicode/utf8.acceptRanges", laid_unicode_utf8_acceptRanges), ("unicode/utf8.first", laid_unicode_utf8_first)], narrowed := true }
def UtfPutsUptoSaid : Prop := utfPutsUptoRow.holds Tryd.pinned (OpenSpec.upto utfPutsSpec)

/-- 'cracknellaw05.UtfTakes', WHERE WHAT IT READS IS OF BULK AT MOST 1048576: true; the input reads as it did. -/
def utfTakesUptoRow : OpenClaim := { program := "ythhmmaihbjhhgaadoor", sum := "295b5c1e9de335e63983a8f2c06a29a4e10c3593d0f678ebe4d3ff62f90735f8", func := "cracknel/cracknellaw05.UtfTakes", spec := "utfTakes", inPlace := ["internal/abi.NoEscape"], named := ["unicode/utf8.first", "unicode/utf8.acceptRanges"], apart := false, laid := [("unicode/utf8.acceptRanges", laid_unicode_utf8_acceptRanges), ("unicode/utf8.first", laid_unicode_utf8_first)], narrowed := true }
def UtfTakesUptoSaid : Prop := utfTakesUptoRow.holds Tryd.pinned (OpenSpec.upto utfTakesSpec)

/-- 'cracknellaw05.UtfTexts', WHERE WHAT IT READS IS OF BULK AT MOST 1048576: true; the input reads as it did. -/
def utfTextsUptoRow : OpenClaim := { program := "ythhmmaihbjhhgaadoor", sum := "295b5c1e9de335e63983a8f2c06a29a4e10c3593d0f678ebe4d3ff62f90735f8", func := "cracknel/cracknellaw05.UtfTexts", spec := "utfTexts", inPlace := ["internal/abi.NoEscape"], named := ["unicode/utf8.first", "unicode/utf8.acceptRanges"], apart := false, laid := [("unicode/utf8.acceptRanges", laid_unicode_utf8_acceptRanges), ("unicode/utf8.first", laid_unicode_utf8_first)], narrowed := true }
def UtfTextsUptoSaid : Prop := utfTextsUptoRow.holds Tryd.pinned (OpenSpec.upto utfTextsSpec)

/-- 'cracknellaw05.UtfRunes', WHERE WHAT IT READS IS OF BULK AT MOST 1048576: true; the input reads as it did. -/
def utfRunesUptoRow : OpenClaim := { program := "ythhmmaihbjhhgaadoor", sum := "295b5c1e9de335e63983a8f2c06a29a4e10c3593d0f678ebe4d3ff62f90735f8", func := "cracknel/cracknellaw05.UtfRunes", spec := "utfRunes", inPlace := ["internal/abi.NoEscape"], named := ["unicode/utf8.first", "unicode/utf8.acceptRanges"], apart := false, laid := [("unicode/utf8.acceptRanges", laid_unicode_utf8_acceptRanges), ("unicode/utf8.first", laid_unicode_utf8_first)], narrowed := true }
def UtfRunesUptoSaid : Prop := utfRunesUptoRow.holds Tryd.pinned (OpenSpec.upto utfRunesSpec)

/-- 'cracknellaw05.UtfJoins', WHERE WHAT IT READS IS OF BULK AT MOST 1048576: true; the input reads as it did. -/
def utfJoinsUptoRow : OpenClaim := { program := "ythhmmaihbjhhgaadoor", sum := "295b5c1e9de335e63983a8f2c06a29a4e10c3593d0f678ebe4d3ff62f90735f8", func := "cracknel/cracknellaw05.UtfJoins", spec := "utfJoins", inPlace := ["internal/abi.NoEscape"], named := ["unicode/utf8.first", "unicode/utf8.acceptRanges"], apart := false, laid := [("unicode/utf8.acceptRanges", laid_unicode_utf8_acceptRanges), ("unicode/utf8.first", laid_unicode_utf8_first)], narrowed := true }
def UtfJoinsUptoSaid : Prop := utfJoinsUptoRow.holds Tryd.pinned (OpenSpec.upto utfJoinsSpec)

/-- 'cracknellaw05.UtfOrders', WHERE WHAT IT READS IS OF BULK AT MOST 1048576: true; the input reads as it did. -/
def utfOrdersUptoRow : OpenClaim := { program := "ythhmmaihbjhhgaadoor", sum := "295b5c1e9de335e63983a8f2c06a29a4e10c3593d0f678ebe4d3ff62f90735f8", func := "cracknel/cracknellaw05.UtfOrders", spec := "utfOrders", inPlace := ["internal/abi.NoEscape"], named := ["unicode/utf8.first", "unicode/utf8.acceptRanges"], apart := false, laid := [("unicode/utf8.acceptRanges", laid_unicode_utf8_acceptRanges), ("unicode/utf8.first", laid_unicode_utf8_first)], narrowed := true }
def UtfOrdersUptoSaid : Prop := utfOrdersUptoRow.holds Tryd.pinned (OpenSpec.upto utfOrdersSpec)

/-- 'cracknellaw07.QuoteWrites', WHERE WHAT IT READS IS OF BULK AT MOST 1048576: true; the input reads as it did. -/
def quoteWritesUptoRow : OpenClaim := { program := "ythhmmaihbjhhgaadoor", sum := "295b5c1e9de335e63983a8f2c06a29a4e10c3593d0f678ebe4d3ff62f90735f8", func := "cracknel/cracknellaw07.QuoteWrites", spec := "quoteWrites", inPlace := ["internal/abi.NoEscape", "internal/bytealg.IndexByteString"], unfollowed := true, recurses := true, named := ["unicode/utf8.first", "unicode/utf8.acceptRanges"], apart := false, laid := [("unicode/utf8.acceptRanges", laid_unicode_utf8_acceptRanges), ("unicode/utf8.first", laid_unicode_utf8_first)], narrowed := true }
def QuoteWritesUptoSaid : Prop := quoteWritesUptoRow.holds Tryd.pinned (OpenSpec.upto quoteWritesSpec)

/-- 'cracknellaw07.QuoteReads', WHERE WHAT IT READS IS OF BULK AT MOST 1048576: true; the input reads as it did. -/
def quoteReadsUptoRow : OpenClaim := { program := "ythhmmaihbjhhgaadoor", sum := "295b5c1e9de335e63983a8f2c06a29a4e10c3593d0f678ebe4d3ff62f90735f8", func := "cracknel/cracknellaw07.QuoteReads", spec := "quoteReads", inPlace := ["internal/abi.NoEscape", "internal/bytealg.IndexByteString"], unfollowed := true, recurses := true, named := ["unicode/utf8.first", "unicode/utf8.acceptRanges"], apart := false, laid := [("unicode/utf8.acceptRanges", laid_unicode_utf8_acceptRanges), ("unicode/utf8.first", laid_unicode_utf8_first)], narrowed := true }
def QuoteReadsUptoSaid : Prop := quoteReadsUptoRow.holds Tryd.pinned (OpenSpec.upto quoteReadsSpec)

/-- 'cracknellaw07.QuoteDigits', WHERE WHAT IT READS IS OF BULK AT MOST 1048576: true; the input reads as it did. -/
def quoteDigitsUptoRow : OpenClaim := { program := "ythhmmaihbjhhgaadoor", sum := "295b5c1e9de335e63983a8f2c06a29a4e10c3593d0f678ebe4d3ff62f90735f8", func := "cracknel/cracknellaw07.QuoteDigits", spec := "quoteDigits", inPlace := ["internal/abi.NoEscape", "internal/bytealg.IndexByteString"], unfollowed := true, recurses := true, named := ["unicode/utf8.first", "unicode/utf8.acceptRanges"], apart := false, laid := [("unicode/utf8.acceptRanges", laid_unicode_utf8_acceptRanges), ("unicode/utf8.first", laid_unicode_utf8_first)], narrowed := true }
def QuoteDigitsUptoSaid : Prop := quoteDigitsUptoRow.holds Tryd.pinned (OpenSpec.upto quoteDigitsSpec)

/-- 'cracknellaw07.QuoteCuts', WHERE WHAT IT READS IS OF BULK AT MOST 1048576: true; the input reads as it did. -/
def quoteCutsUptoRow : OpenClaim := { program := "ythhmmaihbjhhgaadoor", sum := "295b5c1e9de335e63983a8f2c06a29a4e10c3593d0f678ebe4d3ff62f90735f8", func := "cracknel/cracknellaw07.QuoteCuts", spec := "quoteCuts", inPlace := ["internal/abi.NoEscape", "internal/bytealg.IndexByteString"], unfollowed := true, recurses := true, named := ["unicode/utf8.first", "unicode/utf8.acceptRanges"], apart := false, laid := [("unicode/utf8.acceptRanges", laid_unicode_utf8_acceptRanges), ("unicode/utf8.first", laid_unicode_utf8_first)], narrowed := true }
def QuoteCutsUptoSaid : Prop := quoteCutsUptoRow.holds Tryd.pinned (OpenSpec.upto quoteCutsSpec)

/-- 'cracknellaw07.QuoteJoins', WHERE WHAT IT READS IS OF BULK AT MOST 1048576: true; the input reads as it did. -/
def quoteJoinsUptoRow : OpenClaim := { program := "ythhmmaihbjhhgaadoor", sum := "295b5c1e9de335e63983a8f2c06a29a4e10c3593d0f678ebe4d3ff62f90735f8", func := "cracknel/cracknellaw07.QuoteJoins", spec := "quoteJoins", inPlace := ["internal/abi.NoEscape", "internal/bytealg.IndexByteString"], unfollowed := true, recurses := true, named := ["unicode/utf8.first", "unicode/utf8.acceptRanges"], apart := false, laid := [("unicode/utf8.acceptRanges", laid_unicode_utf8_acceptRanges), ("unicode/utf8.first", laid_unicode_utf8_first)], narrowed := true }
def QuoteJoinsUptoSaid : Prop := quoteJoinsUptoRow.holds Tryd.pinned (OpenSpec.upto quoteJoinsSpec)

/-- 'cracknellaw07.QuoteApart', WHERE WHAT IT READS IS OF BULK AT MOST 1048576: true; the input reads as it did. -/
def quoteApartUptoRow : OpenClaim := { program := "ythhmmaihbjhhgaadoor", sum := "295b5c1e9de335e63983a8f2c06a29a4e10c3593d0f678ebe4d3ff62f90735f8", func := "cracknel/cracknellaw07.QuoteApart", spec := "quoteApart", inPlace := ["internal/abi.NoEscape", "internal/bytealg.IndexByteString"], unfollowed := true, recurses := true, named := ["unicode/utf8.first", "unicode/utf8.acceptRanges"], apart := false, laid := [("unicode/utf8.acceptRanges", laid_unicode_utf8_acceptRanges), ("unicode/utf8.first", laid_unicode_utf8_first)], narrowed := true }
def QuoteApartUptoSaid : Prop := quoteApartUptoRow.holds Tryd.pinned (OpenSpec.upto quoteApartSpec)

/-- 'cracknellaw08.JsonRight', WHERE WHAT IT READS IS OF BULK AT MOST 1048576: true; the input reads as it did. -/
def jsonRightUptoRow : OpenClaim := { program := "ythhmmaihbjhhgaadoor", sum := "295b5c1e9de335e63983a8f2c06a29a4e10c3593d0f678ebe4d3ff62f90735f8", func := "cracknel/cracknellaw08.JsonRight", spec := "jsonRight", inPlace := ["internal/bytealg.IndexByteString", "internal/abi.NoEscape"], unfollowed := true, recurses := true, named := ["unicode/utf8.first", "unicode/utf8.acceptRanges", "strconv.ErrSyntax", "strconv.ErrRange", "internal/strconv.uint64pow10", "math/bits.deBruijn32tab", "math/bits.deBruijn64tab"], apart := false, laid := [("math/bits.deBruijn32tab", laid_math_bits_deBruijn32tab), ("math/bits.deBruijn64tab", laid_math_bits_deBruijn64tab), ("internal/strconv.uint64pow10", laid_internal_strconv_uint64pow10), ("unicode/utf8.acceptRanges", laid_unicode_utf8_acceptRanges), ("strconv.ErrRange", laid_strconv_ErrRange), ("strconv.ErrSyntax", laid_strconv_ErrSyntax), ("unicode/utf8.first", laid_unicode_utf8_first)], narrowed := true }
def JsonRightUptoSaid : Prop := jsonRightUptoRow.holds Tryd.pinned (OpenSpec.upto jsonRightSpec)

/-- 'cracknellaw08.JsonAgain', WHERE WHAT IT READS IS OF BULK AT MOST 1048576: true; the input reads as it did. -/
def jsonAgainUptoRow : OpenClaim := { program := "ythhmmaihbjhhgaadoor", sum := "295b5c1e9de335e63983a8f2c06a29a4e10c3593d0f678ebe4d3ff62f90735f8", func := "cracknel/cracknellaw08.JsonAgain", spec := "jsonAgain", inPlace := ["internal/bytealg.IndexByteString", "internal/abi.NoEscape"], unfollowed := true, recurses := true, named := ["unicode/utf8.first", "unicode/utf8.acceptRanges", "strconv.ErrSyntax", "strconv.ErrRange", "internal/strconv.uint64pow10", "math/bits.deBruijn32tab", "math/bits.deBruijn64tab"], apart := false, laid := [("math/bits.deBruijn32tab", laid_math_bits_deBruijn32tab), ("math/bits.deBruijn64tab", laid_math_bits_deBruijn64tab), ("internal/strconv.uint64pow10", laid_internal_strconv_uint64pow10), ("unicode/utf8.acceptRanges", laid_unicode_utf8_acceptRanges), ("strconv.ErrRange", laid_strconv_ErrRange), ("strconv.ErrSyntax", laid_strconv_ErrSyntax), ("unicode/utf8.first", laid_unicode_utf8_first)], narrowed := true }
def JsonAgainUptoSaid : Prop := jsonAgainUptoRow.holds Tryd.pinned (OpenSpec.upto jsonAgainSpec)

/-- 'cracknellaw08.JsonBlanks', WHERE WHAT IT READS IS OF BULK AT MOST 1048576: true; the input reads as it did. -/
def jsonBlanksUptoRow : OpenClaim := { program := "ythhmmaihbjhhgaadoor", sum := "295b5c1e9de335e63983a8f2c06a29a4e10c3593d0f678ebe4d3ff62f90735f8", func := "cracknel/cracknellaw08.JsonBlanks", spec := "jsonBlanks", inPlace := ["internal/bytealg.IndexByteString", "internal/abi.NoEscape"], unfollowed := true, recurses := true, named := ["unicode/utf8.first", "unicode/utf8.acceptRanges", "strconv.ErrSyntax", "strconv.ErrRange", "internal/strconv.uint64pow10", "math/bits.deBruijn32tab", "math/bits.deBruijn64tab"], apart := false, laid := [("math/bits.deBruijn32tab", laid_math_bits_deBruijn32tab), ("math/bits.deBruijn64tab", laid_math_bits_deBruijn64tab), ("internal/strconv.uint64pow10", laid_internal_strconv_uint64pow10), ("unicode/utf8.acceptRanges", laid_unicode_utf8_acceptRanges), ("strconv.ErrRange", laid_strconv_ErrRange), ("strconv.ErrSyntax", laid_strconv_ErrSyntax), ("unicode/utf8.first", laid_unicode_utf8_first)], narrowed := true }
def JsonBlanksUptoSaid : Prop := jsonBlanksUptoRow.holds Tryd.pinned (OpenSpec.upto jsonBlanksSpec)

/-- 'cracknellaw08.JsonTwice', WHERE WHAT IT READS IS OF BULK AT MOST 1048576: true; the input reads as it did. -/
def jsonTwiceUptoRow : OpenClaim := { program := "ythhmmaihbjhhgaadoor", sum := "295b5c1e9de335e63983a8f2c06a29a4e10c3593d0f678ebe4d3ff62f90735f8", func := "cracknel/cracknellaw08.JsonTwice", spec := "jsonTwice", inPlace := ["internal/bytealg.IndexByteString", "internal/abi.NoEscape"], unfollowed := true, recurses := true, named := ["unicode/utf8.first", "unicode/utf8.acceptRanges", "strconv.ErrSyntax", "strconv.ErrRange", "internal/strconv.uint64pow10", "math/bits.deBruijn32tab", "math/bits.deBruijn64tab"], apart := false, laid := [("math/bits.deBruijn32tab", laid_math_bits_deBruijn32tab), ("math/bits.deBruijn64tab", laid_math_bits_deBruijn64tab), ("internal/strconv.uint64pow10", laid_internal_strconv_uint64pow10), ("unicode/utf8.acceptRanges", laid_unicode_utf8_acceptRanges), ("strconv.ErrRange", laid_strconv_ErrRange), ("strconv.ErrSyntax", laid_strconv_ErrSyntax), ("unicode/utf8.first", laid_unicode_utf8_first)], narrowed := true }
def JsonTwiceUptoSaid : Prop := jsonTwiceUptoRow.holds Tryd.pinned (OpenSpec.upto jsonTwiceSpec)

/-- 'cracknellaw08.JsonApart', WHERE WHAT IT READS IS OF BULK AT MOST 1048576: true; the input reads as it did. -/
def jsonApartUptoRow : OpenClaim := { program := "ythhmmaihbjhhgaadoor", sum := "295b5c1e9de335e63983a8f2c06a29a4e10c3593d0f678ebe4d3ff62f90735f8", func := "cracknel/cracknellaw08.JsonApart", spec := "jsonApart", inPlace := ["internal/bytealg.IndexByteString", "internal/abi.NoEscape"], unfollowed := true, recurses := true, named := ["unicode/utf8.first", "unicode/utf8.acceptRanges", "strconv.ErrSyntax", "strconv.ErrRange", "internal/strconv.uint64pow10", "math/bits.deBruijn32tab", "math/bits.deBruijn64tab"], apart := false, laid := [("math/bits.deBruijn32tab", laid_math_bits_deBruijn32tab), ("math/bits.deBruijn64tab", laid_math_bits_deBruijn64tab), ("internal/strconv.uint64pow10", laid_internal_strconv_uint64pow10), ("unicode/utf8.acceptRanges", laid_unicode_utf8_acceptRanges), ("strconv.ErrRange", laid_strconv_ErrRange), ("strconv.ErrSyntax", laid_strconv_ErrSyntax), ("unicode/utf8.first", laid_unicode_utf8_first)], narrowed := true }
def JsonApartUptoSaid : Prop := jsonApartUptoRow.holds Tryd.pinned (OpenSpec.upto jsonApartSpec)

/-- 'cracknellaw08.JsonDepth', WHERE WHAT IT READS IS OF BULK AT MOST 1048576: true; the input reads as it did. -/
def jsonDepthUptoRow : OpenClaim := { program := "ythhmmaihbjhhgaadoor", sum := "295b5c1e9de335e63983a8f2c06a29a4e10c3593d0f678ebe4d3ff62f90735f8", func := "cracknel/cracknellaw08.JsonDepth", spec := "jsonDepth", inPlace := ["internal/bytealg.IndexByteString", "internal/abi.NoEscape", "internal/bytealg.MakeNoZero"], unfollowed := true, recurses := true, named := ["unicode/utf8.first", "unicode/utf8.acceptRanges", "strconv.ErrSyntax", "strconv.ErrRange", "internal/strconv.uint64pow10", "math/bits.deBruijn32tab", "math/bits.deBruijn64tab"], apart := false, laid := [("math/bits.deBruijn32tab", laid_math_bits_deBruijn32tab), ("math/bits.deBruijn64tab", laid_math_bits_deBruijn64tab), ("internal/strconv.uint64pow10", laid_internal_strconv_uint64pow10), ("unicode/utf8.acceptRanges", laid_unicode_utf8_acceptRanges), ("strconv.ErrRange", laid_strconv_ErrRange), ("strconv.ErrSyntax", laid_strconv_ErrSyntax), ("unicode/utf8.first", laid_unicode_utf8_first)], narrowed := true }
def JsonDepthUptoSaid : Prop := jsonDepthUptoRow.holds Tryd.pinned (OpenSpec.upto jsonDepthSpec)

end Rows
end Go.Proofs.YthhmmaihbjhhgaaDoor
