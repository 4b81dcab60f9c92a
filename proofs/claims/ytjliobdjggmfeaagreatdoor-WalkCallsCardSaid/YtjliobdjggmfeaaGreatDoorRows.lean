/-
  NARROWER THAN 'FOR EVERY INPUT', by the rows' own cells (each row's printed sentence says how): WpMoved: loops, laid · WpBack: loops, laid · WpAlong: loops, laid · WalkCalls: laid · PredAdds: loops, laid · PredScopes: loops, laid · PredBits: laid · PredOnce: loops, laid · WpEnters: loops, laid.
  DERIVED. THE GIVEN ROWS OF THIS SEAT. 9 by the template 'for every input the law returns true; each argument reads behind the call as it read before'; 0 by the template 'total and deterministic' (their statements: YtjliobdjggmfeaaGreatDoorTotals.lean).
  GIVEN WITH THE SEED: the statements are not yours to turn. If you find one false, say at which input.
  Laid BY PROGRAM, IN A SANDBOX (cutbox-rows.mjs): the forced cells as the released guide's own fill.sh prints them over the translation e8f910028b830d2e… (all of the seat's roots in one cut). By AI agents, Wed Nov 11 2026. No macro, syntax, notation, axiom, sorry.
-/
import Derived.Test.YtjliobdjggmfeaaGreatDoorChecked
import GoSem.PinnedTables
import GoSem.Claim
import GoSem.ClaimJoined
import GoSem.ClaimMapViews
import Derived.JoinedTies
import Derived.KernelRfl
namespace Go.Proofs.YtjliobdjggmfeaaGreatDoor
/- THE CELL 'sum', in the pinned program and in every row, IS THE sha256 OF THE DUMP (.gsa) THAT YtjliobdjggmfeaaGreatDoorProg.lean LOADS. Nothing in Lean hashes anything: it is a label: what it is worth is what the hold of that sum in a sandbox is worth. -/
noncomputable def Tryz.pinned : Pinned := { name := "ytjliobdjggmfeaagreatdoor", sum := "e8f910028b830d2ef580ec76caed11cca3e7e4ab7ad521c6f088204158f93d29", checked := Tryz.checked }
namespace Rows
def none {H : Type} : Left H := { results := [], args := [] }

/- WHAT THE LISTED PACKAGE-LEVEL VARIABLES READ AS WHEN THE CALL BEGINS. Each datum BY PROGRAM (the guide's laid-datum.mjs) off the statement by which the dump's own 'gosem.cut.vars' lays the variable. In a bare row this is a premise. The card (YtjliobdjggmfeaaGreatDoorCards.lean) ties it to the program's text. -/
def laid_math_bits_deBruijn32tab {H : Type} : DataW H := .agg [.lit (.int .u8 0), .lit (.int .u8 1), .lit (.int .u8 28), .lit (.int .u8 2), .lit (.int .u8 29), .lit (.int .u8 14), .lit (.int .u8 24), .lit (.int .u8 3), .lit (.int .u8 30), .lit (.int .u8 22), .lit (.int .u8 20), .lit (.int .u8 15), .lit (.int .u8 25), .lit (.int .u8 17), .lit (.int .u8 4), .lit (.int .u8 8), .lit (.int .u8 31), .lit (.int .u8 27), .lit (.int .u8 13), .lit (.int .u8 23), .lit (.int .u8 21), .lit (.int .u8 19), .lit (.int .u8 16), .lit (.int .u8 7), .lit (.int .u8 26), .lit (.int .u8 12), .lit (.int .u8 18), .lit (.int .u8 6), .lit (.int .u8 11), .lit (.int .u8 5), .lit (.int .u8 10), .lit (.int .u8 9)]
def laid_math_bits_deBruijn64tab {H : Type} : DataW H := .agg [.lit (.int .u8 0), .lit (.int .u8 1), .lit (.int .u8 56), .lit (.int .u8 2), .lit (.int .u8 57), .lit (.int .u8 49), .lit (.int .u8 28), .lit (.int .u8 3), .lit (.int .u8 61), .lit (.int .u8 58), .lit (.int .u8 42), .lit (.int .u8 50), .lit (.int .u8 38), .lit (.int .u8 29), .lit (.int .u8 17), .lit (.int .u8 4), .lit (.int .u8 62), .lit (.int .u8 47), .lit (.int .u8 59), .lit (.int .u8 36), .lit (.int .u8 45), .lit (.int .u8 43), .lit (.int .u8 51), .lit (.int .u8 22), .lit (.int .u8 53), .lit (.int .u8 39), .lit (.int .u8 33), .lit (.int .u8 30), .lit (.int .u8 24), .lit (.int .u8 18), .lit (.int .u8 12), .lit (.int .u8 5), .lit (.int .u8 63), .lit (.int .u8 55), .lit (.int .u8 48), .lit (.int .u8 27), .lit (.int .u8 60), .lit (.int .u8 41), .lit (.int .u8 37), .lit (.int .u8 16), .lit (.int .u8 46), .lit (.int .u8 35), .lit (.int .u8 44), .lit (.int .u8 21), .lit (.int .u8 52), .lit (.int .u8 32), .lit (.int .u8 23), .lit (.int .u8 11), .lit (.int .u8 54), .lit (.int .u8 26), .lit (.int .u8 40), .lit (.int .u8 15), .lit (.int .u8 34), .lit (.int .u8 20), .lit (.int .u8 31), .lit (.int .u8 10), .lit (.int .u8 25), .lit (.int .u8 14), .lit (.int .u8 19), .lit (.int .u8 9), .lit (.int .u8 13), .lit (.int .u8 8), .lit (.int .u8 7), .lit (.int .u8 6)]
def laid_internal_strconv_uint64pow10 {H : Type} : DataW H := .agg [.lit (.int .u64 1), .lit (.int .u64 10), .lit (.int .u64 100), .lit (.int .u64 1000), .lit (.int .u64 10000), .lit (.int .u64 100000), .lit (.int .u64 1000000), .lit (.int .u64 10000000), .lit (.int .u64 100000000), .lit (.int .u64 1000000000), .lit (.int .u64 10000000000), .lit (.int .u64 100000000000), .lit (.int .u64 1000000000000), .lit (.int .u64 10000000000000), .lit (.int .u64 100000000000000), .lit (.int .u64 1000000000000000), .lit (.int .u64 10000000000000000), .lit (.int .u64 100000000000000000), .lit (.int .u64 1000000000000000000), .lit (.int .u64 10000000000000000000)]
def laid_skua_word_types {H : Type} : DataW H := .agg [.agg [.agg [.lit (.int .i64 1), .lit (.bool false)], .lit (.string [98, 111, 111, 108])], .agg [.agg [.lit (.int .i64 8), .lit (.bool false)], .lit (.string [117, 56])], .agg [.agg [.lit (.int .i64 16), .lit (.bool false)], .lit (.string [117, 49, 54])], .agg [.agg [.lit (.int .i64 32), .lit (.bool false)], .lit (.string [117, 51, 50])], .agg [.agg [.lit (.int .i64 64), .lit (.bool false)], .lit (.string [117, 54, 52])], .agg [.agg [.lit (.int .i64 8), .lit (.bool true)], .lit (.string [105, 56])], .agg [.agg [.lit (.int .i64 16), .lit (.bool true)], .lit (.string [105, 49, 54])], .agg [.agg [.lit (.int .i64 32), .lit (.bool true)], .lit (.string [105, 51, 50])], .agg [.agg [.lit (.int .i64 64), .lit (.bool true)], .lit (.string [105, 54, 52])]]
def laid_unicode_utf8_acceptRanges {H : Type} : DataW H := .agg [.agg [.lit (.int .u8 128), .lit (.int .u8 191)], .agg [.lit (.int .u8 160), .lit (.int .u8 191)], .agg [.lit (.int .u8 128), .lit (.int .u8 159)], .agg [.lit (.int .u8 144), .lit (.int .u8 191)], .agg [.lit (.int .u8 128), .lit (.int .u8 143)], .agg [.lit (.int .u8 0), .lit (.int .u8 0)], .agg [.lit (.int .u8 0), .lit (.int .u8 0)], .agg [.lit (.int .u8 0), .lit (.int .u8 0)], .agg [.lit (.int .u8 0), .lit (.int .u8 0)], .agg [.lit (.int .u8 0), .lit (.int .u8 0)], .agg [.lit (.int .u8 0), .lit (.int .u8 0)], .agg [.lit (.int .u8 0), .lit (.int .u8 0)], .agg [.lit (.int .u8 0), .lit (.int .u8 0)], .agg [.lit (.int .u8 0), .lit (.int .u8 0)], .agg [.lit (.int .u8 0), .lit (.int .u8 0)], .agg [.lit (.int .u8 0), .lit (.int .u8 0)]]
def laid_strconv_ErrRange {H : Type} : DataW H := .iface "*errors.errorString" (.ptr (.agg [.lit (.string [118, 97, 108, 117, 101, 32, 111, 117, 116, 32, 111, 102, 32, 114, 97, 110, 103, 101])]))
def laid_strconv_ErrSyntax {H : Type} : DataW H := .iface "*errors.errorString" (.ptr (.agg [.lit (.string [105, 110, 118, 97, 108, 105, 100, 32, 115, 121, 110, 116, 97, 120])]))
def laid_skua_lex_signs {H : Type} : DataW H := .agg [.lit (.string [124, 124]), .lit (.string [38, 38]), .lit (.string [61, 61]), .lit (.string [33, 61]), .lit (.string [60, 61]), .lit (.string [62, 61]), .lit (.string [60, 60]), .lit (.string [62, 62]), .lit (.string [43]), .lit (.string [45]), .lit (.string [42]), .lit (.string [47]), .lit (.string [37]), .lit (.string [38]), .lit (.string [124]), .lit (.string [94]), .lit (.string [126]), .lit (.string [33]), .lit (.string [60]), .lit (.string [62]), .lit (.string [61]), .lit (.string [40]), .lit (.string [41]), .lit (.string [123]), .lit (.string [125]), .lit (.string [91]), .lit (.string [93]), .lit (.string [44]), .lit (.string [59])]
def laid_skua_lex_keywords {H : Type} : DataW H := .agg [.lit (.string [98, 111, 111, 108]), .lit (.string [117, 56]), .lit (.string [117, 49, 54]), .lit (.string [117, 51, 50]), .lit (.string [117, 54, 52]), .lit (.string [105, 56]), .lit (.string [105, 49, 54]), .lit (.string [105, 51, 50]), .lit (.string [105, 54, 52]), .lit (.string [118, 111, 105, 100]), .lit (.string [105, 102]), .lit (.string [101, 108, 115, 101]), .lit (.string [119, 104, 105, 108, 101]), .lit (.string [114, 101, 116, 117, 114, 110]), .lit (.string [97, 115, 115, 101, 114, 116]), .lit (.string [97, 115, 115, 117, 109, 101]), .lit (.string [110, 111, 110, 100, 101, 116]), .lit (.string [116, 114, 117, 101]), .lit (.string [102, 97, 108, 115, 101])]
/-- One of Go's own tables, pinned by name: the form's constant. -/
def laid_unicode_utf8_first : DataW Unit := Go.Pinned.utf8First

/-- 'skualaw16.WpMoved': WHATEVER THE INPUT: true; the input reads as it did. -/
def wpMovedSpec : ChangeSpec := { name := "wpMoved", fn := fun _ => fun
  | [d1, d2] => { results := [.lit (.bool true)], args := [d1, d2] }
  | _ => none }
def wpMovedRow : OpenClaim := { program := "ytjliobdjggmfeaagreatdoor", sum := "e8f910028b830d2ef580ec76caed11cca3e7e4ab7ad521c6f088204158f93d29", func := "skua/skualaw16.WpMoved", spec := "wpMoved", inPlace := ["internal/bytealg.CountString", "internal/bytealg.IndexByteString", "internal/bytealg.IndexString"], unfollowed := true, recurses := true, named := ["skua/lex.signs", "strconv.ErrSyntax", "strconv.ErrRange", "internal/strconv.uint64pow10", "math/bits.deBruijn32tab", "math/bits.deBruijn64tab", "skua/lex.keywords", "unicode/utf8.first", "unicode/utf8.acceptRanges", "internal/bytealg.MaxLen", "skua/word.types"], loops := true, apart := false, laid := [("math/bits.deBruijn32tab", laid_math_bits_deBruijn32tab), ("math/bits.deBruijn64tab", laid_math_bits_deBruijn64tab), ("internal/strconv.uint64pow10", laid_internal_strconv_uint64pow10), ("skua/word.types", laid_skua_word_types), ("unicode/utf8.acceptRanges", laid_unicode_utf8_acceptRanges), ("strconv.ErrRange", laid_strconv_ErrRange), ("strconv.ErrSyntax", laid_strconv_ErrSyntax), ("skua/lex.signs", laid_skua_lex_signs), ("skua/lex.keywords", laid_skua_lex_keywords), ("unicode/utf8.first", laid_unicode_utf8_first)] }
def WpMovedSaid : Prop := wpMovedRow.holds Tryz.pinned (OpenSpec.ofChange wpMovedSpec)

/-- ITS FALSE NEIGHBOUR: 'it returns false'. Refute it at one input. -/
def wpMovedWrong : ChangeSpec := { name := "wpMoved", fn := fun _ => fun
  | [d1, d2] => { results := [.lit (.bool false)], args := [d1, d2] }
  | _ => none }
def WpMovedWrongFalsely : Prop := wpMovedRow.holds Tryz.pinned (OpenSpec.ofChange wpMovedWrong)

/-- 'skualaw16.WpBack': WHATEVER THE INPUT: true; the input reads as it did. -/
def wpBackSpec : ChangeSpec := { name := "wpBack", fn := fun _ => fun
  | [d1, d2, d3] => { results := [.lit (.bool true)], args := [d1, d2, d3] }
  | _ => none }
def wpBackRow : OpenClaim := { program := "ytjliobdjggmfeaagreatdoor", sum := "e8f910028b830d2ef580ec76caed11cca3e7e4ab7ad521c6f088204158f93d29", func := "skua/skualaw16.WpBack", spec := "wpBack", inPlace := ["internal/bytealg.CountString", "internal/bytealg.IndexByteString", "internal/bytealg.IndexString"], unfollowed := true, recurses := true, named := ["skua/lex.signs", "strconv.ErrSyntax", "strconv.ErrRange", "internal/strconv.uint64pow10", "math/bits.deBruijn32tab", "math/bits.deBruijn64tab", "skua/lex.keywords", "unicode/utf8.first", "unicode/utf8.acceptRanges", "internal/bytealg.MaxLen", "skua/word.types"], loops := true, apart := false, laid := [("math/bits.deBruijn32tab", laid_math_bits_deBruijn32tab), ("math/bits.deBruijn64tab", laid_math_bits_deBruijn64tab), ("internal/strconv.uint64pow10", laid_internal_strconv_uint64pow10), ("skua/word.types", laid_skua_word_types), ("unicode/utf8.acceptRanges", laid_unicode_utf8_acceptRanges), ("strconv.ErrRange", laid_strconv_ErrRange), ("strconv.ErrSyntax", laid_strconv_ErrSyntax), ("skua/lex.signs", laid_skua_lex_signs), ("skua/lex.keywords", laid_skua_lex_keywords), ("unicode/utf8.first", laid_unicode_utf8_first)] }
def WpBackSaid : Prop := wpBackRow.holds Tryz.pinned (OpenSpec.ofChange wpBackSpec)

/-- ITS FALSE NEIGHBOUR: 'it returns false'. Refute it at one input. -/
def wpBackWrong : ChangeSpec := { name := "wpBack", fn := fun _ => fun
  | [d1, d2, d3] => { results := [.lit (.bool false)], args := [d1, d2, d3] }
  | _ => none }
def WpBackWrongFalsely : Prop := wpBackRow.holds Tryz.pinned (OpenSpec.ofChange wpBackWrong)

/-- 'skualaw16.WpAlong': WHATEVER THE INPUT: true; the input reads as it did. -/
def wpAlongSpec : ChangeSpec := { name := "wpAlong", fn := fun _ => fun
  | [d1, d2, d3] => { results := [.lit (.bool true)], args := [d1, d2, d3] }
  | _ => none }
def wpAlongRow : OpenClaim := { program := "ytjliobdjggmfeaagreatdoor", sum := "e8f910028b830d2ef580ec76caed11cca3e7e4ab7ad521c6f088204158f93d29", func := "skua/skualaw16.WpAlong", spec := "wpAlong", inPlace := ["internal/bytealg.CountString", "internal/bytealg.IndexByteString", "internal/bytealg.IndexString"], unfollowed := true, recurses := true, named := ["skua/lex.signs", "strconv.ErrSyntax", "strconv.ErrRange", "internal/strconv.uint64pow10", "math/bits.deBruijn32tab", "math/bits.deBruijn64tab", "skua/lex.keywords", "unicode/utf8.first", "unicode/utf8.acceptRanges", "internal/bytealg.MaxLen", "skua/word.types"], loops := true, apart := false, laid := [("math/bits.deBruijn32tab", laid_math_bits_deBruijn32tab), ("math/bits.deBruijn64tab", laid_math_bits_deBruijn64tab), ("internal/strconv.uint64pow10", laid_internal_strconv_uint64pow10), ("skua/word.types", laid_skua_word_types), ("unicode/utf8.acceptRanges", laid_unicode_utf8_acceptRanges), ("strconv.ErrRange", laid_strconv_ErrRange), ("strconv.ErrSyntax", laid_strconv_ErrSyntax), ("skua/lex.signs", laid_skua_lex_signs), ("skua/lex.keywords", laid_skua_lex_keywords), ("unicode/utf8.first", laid_unicode_utf8_first)] }
def WpAlongSaid : Prop := wpAlongRow.holds Tryz.pinned (OpenSpec.ofChange wpAlongSpec)

/-- ITS FALSE NEIGHBOUR: 'it returns false'. Refute it at one input. -/
def wpAlongWrong : ChangeSpec := { name := "wpAlong", fn := fun _ => fun
  | [d1, d2, d3] => { results := [.lit (.bool false)], args := [d1, d2, d3] }
  | _ => none }
def WpAlongWrongFalsely : Prop := wpAlongRow.holds Tryz.pinned (OpenSpec.ofChange wpAlongWrong)

/-- 'skualaw14.WalkCalls': WHATEVER THE INPUT: true; the input reads as it did. -/
def walkCallsSpec : ChangeSpec := { name := "walkCalls", fn := fun _ => fun
  | [d] => { results := [.lit (.bool true)], args := [d] }
  | _ => none }
def walkCallsRow : OpenClaim := { program := "ytjliobdjggmfeaagreatdoor", sum := "e8f910028b830d2ef580ec76caed11cca3e7e4ab7ad521c6f088204158f93d29", func := "skua/skualaw14.WalkCalls", spec := "walkCalls", inPlace := ["internal/bytealg.CountString", "internal/bytealg.IndexByteString", "internal/bytealg.IndexString", "maps.clone"], unfollowed := true, recurses := true, named := ["skua/lex.signs", "strconv.ErrSyntax", "strconv.ErrRange", "internal/strconv.uint64pow10", "math/bits.deBruijn32tab", "math/bits.deBruijn64tab", "skua/lex.keywords", "unicode/utf8.first", "unicode/utf8.acceptRanges", "internal/bytealg.MaxLen", "skua/word.types"], apart := false, laid := [("math/bits.deBruijn32tab", laid_math_bits_deBruijn32tab), ("math/bits.deBruijn64tab", laid_math_bits_deBruijn64tab), ("internal/strconv.uint64pow10", laid_internal_strconv_uint64pow10), ("skua/word.types", laid_skua_word_types), ("unicode/utf8.acceptRanges", laid_unicode_utf8_acceptRanges), ("strconv.ErrRange", laid_strconv_ErrRange), ("strconv.ErrSyntax", laid_strconv_ErrSyntax), ("skua/lex.signs", laid_skua_lex_signs), ("skua/lex.keywords", laid_skua_lex_keywords), ("unicode/utf8.first", laid_unicode_utf8_first)] }
def WalkCallsSaid : Prop := walkCallsRow.holds Tryz.pinned (OpenSpec.ofChange walkCallsSpec)

/-- ITS FALSE NEIGHBOUR: 'it returns false'. Refute it at one input. -/
def walkCallsWrong : ChangeSpec := { name := "walkCalls", fn := fun _ => fun
  | [d] => { results := [.lit (.bool false)], args := [d] }
  | _ => none }
def WalkCallsWrongFalsely : Prop := walkCallsRow.holds Tryz.pinned (OpenSpec.ofChange walkCallsWrong)

/-- 'skualaw15.PredAdds': WHATEVER THE INPUT: true; the input reads as it did. -/
def predAddsSpec : ChangeSpec := { name := "predAdds", fn := fun _ => fun
  | [d] => { results := [.lit (.bool true)], args := [d] }
  | _ => none }
def predAddsRow : OpenClaim := { program := "ytjliobdjggmfeaagreatdoor", sum := "e8f910028b830d2ef580ec76caed11cca3e7e4ab7ad521c6f088204158f93d29", func := "skua/skualaw15.PredAdds", spec := "predAdds", inPlace := ["internal/bytealg.CountString", "internal/bytealg.IndexByteString", "internal/bytealg.IndexString"], unfollowed := true, recurses := true, named := ["skua/lex.signs", "strconv.ErrSyntax", "strconv.ErrRange", "internal/strconv.uint64pow10", "math/bits.deBruijn32tab", "math/bits.deBruijn64tab", "skua/lex.keywords", "unicode/utf8.first", "unicode/utf8.acceptRanges", "internal/bytealg.MaxLen", "skua/word.types"], loops := true, apart := false, laid := [("math/bits.deBruijn32tab", laid_math_bits_deBruijn32tab), ("math/bits.deBruijn64tab", laid_math_bits_deBruijn64tab), ("internal/strconv.uint64pow10", laid_internal_strconv_uint64pow10), ("skua/word.types", laid_skua_word_types), ("unicode/utf8.acceptRanges", laid_unicode_utf8_acceptRanges), ("strconv.ErrRange", laid_strconv_ErrRange), ("strconv.ErrSyntax", laid_strconv_ErrSyntax), ("skua/lex.signs", laid_skua_lex_signs), ("skua/lex.keywords", laid_skua_lex_keywords), ("unicode/utf8.first", laid_unicode_utf8_first)] }
def PredAddsSaid : Prop := predAddsRow.holds Tryz.pinned (OpenSpec.ofChange predAddsSpec)

/-- ITS FALSE NEIGHBOUR: 'it returns false'. Refute it at one input. -/
def predAddsWrong : ChangeSpec := { name := "predAdds", fn := fun _ => fun
  | [d] => { results := [.lit (.bool false)], args := [d] }
  | _ => none }
def PredAddsWrongFalsely : Prop := predAddsRow.holds Tryz.pinned (OpenSpec.ofChange predAddsWrong)

/-- 'skualaw15.PredScopes': WHATEVER THE INPUT: true; the input reads as it did. -/
def predScopesSpec : ChangeSpec := { name := "predScopes", fn := fun _ => fun
  | [d1, d2] => { results := [.lit (.bool true)], args := [d1, d2] }
  | _ => none }
def predScopesRow : OpenClaim := { program := "ytjliobdjggmfeaagreatdoor", sum := "e8f910028b830d2ef580ec76caed11cca3e7e4ab7ad521c6f088204158f93d29", func := "skua/skualaw15.PredScopes", spec := "predScopes", inPlace := ["internal/bytealg.CountString", "internal/bytealg.IndexByteString", "internal/bytealg.IndexString"], unfollowed := true, recurses := true, named := ["skua/lex.signs", "strconv.ErrSyntax", "strconv.ErrRange", "internal/strconv.uint64pow10", "math/bits.deBruijn32tab", "math/bits.deBruijn64tab", "skua/lex.keywords", "unicode/utf8.first", "unicode/utf8.acceptRanges", "internal/bytealg.MaxLen", "skua/word.types"], loops := true, apart := false, laid := [("math/bits.deBruijn32tab", laid_math_bits_deBruijn32tab), ("math/bits.deBruijn64tab", laid_math_bits_deBruijn64tab), ("internal/strconv.uint64pow10", laid_internal_strconv_uint64pow10), ("skua/word.types", laid_skua_word_types), ("unicode/utf8.acceptRanges", laid_unicode_utf8_acceptRanges), ("strconv.ErrRange", laid_strconv_ErrRange), ("strconv.ErrSyntax", laid_strconv_ErrSyntax), ("skua/lex.signs", laid_skua_lex_signs), ("skua/lex.keywords", laid_skua_lex_keywords), ("unicode/utf8.first", laid_unicode_utf8_first)] }
def PredScopesSaid : Prop := predScopesRow.holds Tryz.pinned (OpenSpec.ofChange predScopesSpec)

/-- ITS FALSE NEIGHBOUR: 'it returns false'. Refute it at one input. -/
def predScopesWrong : ChangeSpec := { name := "predScopes", fn := fun _ => fun
  | [d1, d2] => { results := [.lit (.bool false)], args := [d1, d2] }
  | _ => none }
def PredScopesWrongFalsely : Prop := predScopesRow.holds Tryz.pinned (OpenSpec.ofChange predScopesWrong)

/-- 'skualaw15.PredBits': WHATEVER THE INPUT: true; the input reads as it did. -/
def predBitsSpec : ChangeSpec := { name := "predBits", fn := fun _ => fun
  | [d1, d2, d3] => { results := [.lit (.bool true)], args := [d1, d2, d3] }
  | _ => none }
def predBitsRow : OpenClaim := { program := "ytjliobdjggmfeaagreatdoor", sum := "e8f910028b830d2ef580ec76caed11cca3e7e4ab7ad521c6f088204158f93d29", func := "skua/skualaw15.PredBits", spec := "predBits", inPlace := ["internal/bytealg.CountString", "internal/bytealg.IndexByteString", "internal/bytealg.IndexString"], unfollowed := true, recurses := true, named := ["skua/lex.signs", "strconv.ErrSyntax", "strconv.ErrRange", "internal/strconv.uint64pow10", "math/bits.deBruijn32tab", "math/bits.deBruijn64tab", "skua/lex.keywords", "unicode/utf8.first", "unicode/utf8.acceptRanges", "internal/bytealg.MaxLen", "skua/word.types"], apart := false, laid := [("math/bits.deBruijn32tab", laid_math_bits_deBruijn32tab), ("math/bits.deBruijn64tab", laid_math_bits_deBruijn64tab), ("internal/strconv.uint64pow10", laid_internal_strconv_uint64pow10), ("skua/word.types", laid_skua_word_types), ("unicode/utf8.acceptRanges", laid_unicode_utf8_acceptRanges), ("strconv.ErrRange", laid_strconv_ErrRange), ("strconv.ErrSyntax", laid_strconv_ErrSyntax), ("skua/lex.signs", laid_skua_lex_signs), ("skua/lex.keywords", laid_skua_lex_keywords), ("unicode/utf8.first", laid_unicode_utf8_first)] }
def PredBitsSaid : Prop := predBitsRow.holds Tryz.pinned (OpenSpec.ofChange predBitsSpec)

/-- ITS FALSE NEIGHBOUR: 'it returns false'. Refute it at one input. -/
def predBitsWrong : ChangeSpec := { name := "predBits", fn := fun _ => fun
  | [d1, d2, d3] => { results := [.lit (.bool false)], args := [d1, d2, d3] }
  | _ => none }
def PredBitsWrongFalsely : Prop := predBitsRow.holds Tryz.pinned (OpenSpec.ofChange predBitsWrong)

/-- 'skualaw15.PredOnce': WHATEVER THE INPUT: true; the input reads as it did. -/
def predOnceSpec : ChangeSpec := { name := "predOnce", fn := fun _ => fun
  | [d] => { results := [.lit (.bool true)], args := [d] }
  | _ => none }
def predOnceRow : OpenClaim := { program := "ytjliobdjggmfeaagreatdoor", sum := "e8f910028b830d2ef580ec76caed11cca3e7e4ab7ad521c6f088204158f93d29", func := "skua/skualaw15.PredOnce", spec := "predOnce", inPlace := ["internal/bytealg.CountString", "internal/bytealg.IndexByteString", "internal/bytealg.IndexString"], unfollowed := true, recurses := true, named := ["skua/lex.signs", "strconv.ErrSyntax", "strconv.ErrRange", "internal/strconv.uint64pow10", "math/bits.deBruijn32tab", "math/bits.deBruijn64tab", "skua/lex.keywords", "unicode/utf8.first", "unicode/utf8.acceptRanges", "internal/bytealg.MaxLen", "skua/word.types"], loops := true, apart := false, laid := [("math/bits.deBruijn32tab", laid_math_bits_deBruijn32tab), ("math/bits.deBruijn64tab", laid_math_bits_deBruijn64tab), ("internal/strconv.uint64pow10", laid_internal_strconv_uint64pow10), ("skua/word.types", laid_skua_word_types), ("unicode/utf8.acceptRanges", laid_unicode_utf8_acceptRanges), ("strconv.ErrRange", laid_strconv_ErrRange), ("strconv.ErrSyntax", laid_strconv_ErrSyntax), ("skua/lex.signs", laid_skua_lex_signs), ("skua/lex.keywords", laid_skua_lex_keywords), ("unicode/utf8.first", laid_unicode_utf8_first)] }
def PredOnceSaid : Prop := predOnceRow.holds Tryz.pinned (OpenSpec.ofChange predOnceSpec)

/-- ITS FALSE NEIGHBOUR: 'it returns false'. Refute it at one input. -/
def predOnceWrong : ChangeSpec := { name := "predOnce", fn := fun _ => fun
  | [d] => { results := [.lit (.bool false)], args := [d] }
  | _ => none }
def PredOnceWrongFalsely : Prop := predOnceRow.holds Tryz.pinned (OpenSpec.ofChange predOnceWrong)

/-- 'skualaw16.WpEnters': WHATEVER THE INPUT: true; the input reads as it did. -/
def wpEntersSpec : ChangeSpec := { name := "wpEnters", fn := fun _ => fun
  | [d1, d2, d3] => { results := [.lit (.bool true)], args := [d1, d2, d3] }
  | _ => none }
def wpEntersRow : OpenClaim := { program := "ytjliobdjggmfeaagreatdoor", sum := "e8f910028b830d2ef580ec76caed11cca3e7e4ab7ad521c6f088204158f93d29", func := "skua/skualaw16.WpEnters", spec := "wpEnters", inPlace := ["internal/bytealg.CountString", "internal/bytealg.IndexByteString", "internal/bytealg.IndexString"], unfollowed := true, recurses := true, named := ["skua/lex.signs", "strconv.ErrSyntax", "strconv.ErrRange", "internal/strconv.uint64pow10", "math/bits.deBruijn32tab", "math/bits.deBruijn64tab", "skua/lex.keywords", "unicode/utf8.first", "unicode/utf8.acceptRanges", "internal/bytealg.MaxLen", "skua/word.types"], loops := true, apart := false, laid := [("math/bits.deBruijn32tab", laid_math_bits_deBruijn32tab), ("math/bits.deBruijn64tab", laid_math_bits_deBruijn64tab), ("internal/strconv.uint64pow10", laid_internal_strconv_uint64pow10), ("skua/word.types", laid_skua_word_types), ("unicode/utf8.acceptRanges", laid_unicode_utf8_acceptRanges), ("strconv.ErrRange", laid_strconv_ErrRange), ("strconv.ErrSyntax", laid_strconv_ErrSyntax), ("skua/lex.signs", laid_skua_lex_signs), ("skua/lex.keywords", laid_skua_lex_keywords), ("unicode/utf8.first", laid_unicode_utf8_first)] }
def WpEntersSaid : Prop := wpEntersRow.holds Tryz.pinned (OpenSpec.ofChange wpEntersSpec)

/-- ITS FALSE NEIGHBOUR: 'it returns false'. Refute it at one input. -/
def wpEntersWrong : ChangeSpec := { name := "wpEnters", fn := fun _ => fun
  | [d1, d2, d3] => { results := [.lit (.bool false)], args := [d1, d2, d3] }
  | _ => none }
def WpEntersWrongFalsely : Prop := wpEntersRow.holds Tryz.pinned (OpenSpec.ofChange wpEntersWrong)

/- THE SECOND FORM. 'bulk': how many values and letters a reading holds, each counted each time it is reached (what is shared counts as often as it is met; a slice's spare places count too). A statement '..UptoSaid' is the law's where the arguments, and the package variables that the reading takes, are together of bulk at most 1048576: NARROWER than '..Said'. Prove '..Said' where nothing that the law and all that it calls make is longer than what came in: it says more and counts as full. Else prove '..UptoSaid'. A law counts once. -/
mutual
def uptoBulk {H : Type} : DataW H → Nat
  | .lit (.string bytes) => bytes.length + 1
  | .lit _ => 1
  | .nil => 1
  | .ptr d => uptoBulk d + 1
  | .slice elems spare => uptoBulkAll elems + uptoBulkAll spare + 1
  | .agg parts => uptoBulkAll parts + 1
  | .iface _ d => uptoBulk d + 1
  | .map entries => uptoBulkEntries entries + 1
  | .held _ => 1
def uptoBulkAll {H : Type} : List (DataW H) → Nat
  | [] => 0
  | d :: r => uptoBulk d + uptoBulkAll r
def uptoBulkEntries {H : Type} : List (Lit × DataW H) → Nat
  | [] => 0
  | x :: r => uptoBulkEntry x + uptoBulkEntries r
def uptoBulkEntry {H : Type} : Lit × DataW H → Nat
  | (.string bytes, d) => bytes.length + uptoBulk d + 1
  | (_, d) => uptoBulk d + 1
 end
def uptoSmall : (H : Type) → List (DataW H) → Bool := fun _ ds => decide (uptoBulkAll ds ≤ 1048576)
def OpenSpec.upto (s : _root_.Go.ChangeSpec) : _root_.Go.OpenSpec := { _root_.Go.OpenSpec.ofChange s with cond := some uptoSmall }

/-- 'skualaw16.WpMoved', WHERE WHAT IT READS IS OF BULK AT MOST 1048576: true; the input reads as it did. -/
def wpMovedUptoRow : OpenClaim := { program := "ytjliobdjggmfeaagreatdoor", sum := "e8f910028b830d2ef580ec76caed11cca3e7e4ab7ad521c6f088204158f93d29", func := "skua/skualaw16.WpMoved", spec := "wpMoved", inPlace := ["internal/bytealg.CountString", "internal/bytealg.IndexByteString", "internal/bytealg.IndexString"], unfollowed := true, recurses := true, named := ["skua/lex.signs", "strconv.ErrSyntax", "strconv.ErrRange", "internal/strconv.uint64pow10", "math/bits.deBruijn32tab", "math/bits.deBruijn64tab", "skua/lex.keywords", "unicode/utf8.first", "unicode/utf8.acceptRanges", "internal/bytealg.MaxLen", "skua/word.types"], loops := true, apart := false, laid := [("math/bits.deBruijn32tab", laid_math_bits_deBruijn32tab), ("math/bits.deBruijn64tab", laid_math_bits_deBruijn64tab), ("internal/strconv.uint64pow10", laid_internal_strconv_uint64pow10), ("skua/word.types", laid_skua_word_types), ("unicode/utf8.acceptRanges", laid_unicode_utf8_acceptRanges), ("strconv.ErrRange", laid_strconv_ErrRange), ("strconv.ErrSyntax", laid_strconv_ErrSyntax), ("skua/lex.signs", laid_skua_lex_signs), ("skua/lex.keywords", laid_skua_lex_keywords), ("unicode/utf8.first", laid_unicode_utf8_first)], narrowed := true }
def WpMovedUptoSaid : Prop := wpMovedUptoRow.holds Tryz.pinned (OpenSpec.upto wpMovedSpec)

/-- 'skualaw16.WpBack', WHERE WHAT IT READS IS OF BULK AT MOST 1048576: true; the input reads as it did. -/
def wpBackUptoRow : OpenClaim := { program := "ytjliobdjggmfeaagreatdoor", sum := "e8f910028b830d2ef580ec76caed11cca3e7e4ab7ad521c6f088204158f93d29", func := "skua/skualaw16.WpBack", spec := "wpBack", inPlace := ["internal/bytealg.CountString", "internal/bytealg.IndexByteString", "internal/bytealg.IndexString"], unfollowed := true, recurses := true, named := ["skua/lex.signs", "strconv.ErrSyntax", "strconv.ErrRange", "internal/strconv.uint64pow10", "math/bits.deBruijn32tab", "math/bits.deBruijn64tab", "skua/lex.keywords", "unicode/utf8.first", "unicode/utf8.acceptRanges", "internal/bytealg.MaxLen", "skua/word.types"], loops := true, apart := false, laid := [("math/bits.deBruijn32tab", laid_math_bits_deBruijn32tab), ("math/bits.deBruijn64tab", laid_math_bits_deBruijn64tab), ("internal/strconv.uint64pow10", laid_internal_strconv_uint64pow10), ("skua/word.types", laid_skua_word_types), ("unicode/utf8.acceptRanges", laid_unicode_utf8_acceptRanges), ("strconv.ErrRange", laid_strconv_ErrRange), ("strconv.ErrSyntax", laid_strconv_ErrSyntax), ("skua/lex.signs", laid_skua_lex_signs), ("skua/lex.keywords", laid_skua_lex_keywords), ("unicode/utf8.first", laid_unicode_utf8_first)], narrowed := true }
def WpBackUptoSaid : Prop := wpBackUptoRow.holds Tryz.pinned (OpenSpec.upto wpBackSpec)

/-- 'skualaw16.WpAlong', WHERE WHAT IT READS IS OF BULK AT MOST 1048576: true; the input reads as it did. -/
def wpAlongUptoRow : OpenClaim := { program := "ytjliobdjggmfeaagreatdoor", sum := "e8f910028b830d2ef580ec76caed11cca3e7e4ab7ad521c6f088204158f93d29", func := "skua/skualaw16.WpAlong", spec := "wpAlong", inPlace := ["internal/bytealg.CountString", "internal/bytealg.IndexByteString", "internal/bytealg.IndexString"], unfollowed := true, recurses := true, named := ["skua/lex.signs", "strconv.ErrSyntax", "strconv.ErrRange", "internal/strconv.uint64pow10", "math/bits.deBruijn32tab", "math/bits.deBruijn64tab", "skua/lex.keywords", "unicode/utf8.first", "unicode/utf8.acceptRanges", "internal/bytealg.MaxLen", "skua/word.types"], loops := true, apart := false, laid := [("math/bits.deBruijn32tab", laid_math_bits_deBruijn32tab), ("math/bits.deBruijn64tab", laid_math_bits_deBruijn64tab), ("internal/strconv.uint64pow10", laid_internal_strconv_uint64pow10), ("skua/word.types", laid_skua_word_types), ("unicode/utf8.acceptRanges", laid_unicode_utf8_acceptRanges), ("strconv.ErrRange", laid_strconv_ErrRange), ("strconv.ErrSyntax", laid_strconv_ErrSyntax), ("skua/lex.signs", laid_skua_lex_signs), ("skua/lex.keywords", laid_skua_lex_keywords), ("unicode/utf8.first", laid_unicode_utf8_first)], narrowed := true }
def WpAlongUptoSaid : Prop := wpAlongUptoRow.holds Tryz.pinned (OpenSpec.upto wpAlongSpec)

/-- 'skualaw14.WalkCalls', WHERE WHAT IT READS IS OF BULK AT MOST 1048576: true; the input reads as it did. -/
def walkCallsUptoRow : OpenClaim := { program := "ytjliobdjggmfeaagreatdoor", sum := "e8f910028b830d2ef580ec76caed11cca3e7e4ab7ad521c6f088204158f93d29", func := "skua/skualaw14.WalkCalls", spec := "walkCalls", inPlace := ["internal/bytealg.CountString", "internal/bytealg.IndexByteString", "internal/bytealg.IndexString", "maps.clone"], unfollowed := true, recurses := true, named := ["skua/lex.signs", "strconv.ErrSyntax", "strconv.ErrRange", "internal/strconv.uint64pow10", "math/bits.deBruijn32tab", "math/bits.deBruijn64tab", "skua/lex.keywords", "unicode/utf8.first", "unicode/utf8.acceptRanges", "internal/bytealg.MaxLen", "skua/word.types"], apart := false, laid := [("math/bits.deBruijn32tab", laid_math_bits_deBruijn32tab), ("math/bits.deBruijn64tab", laid_math_bits_deBruijn64tab), ("internal/strconv.uint64pow10", laid_internal_strconv_uint64pow10), ("skua/word.types", laid_skua_word_types), ("unicode/utf8.acceptRanges", laid_unicode_utf8_acceptRanges), ("strconv.ErrRange", laid_strconv_ErrRange), ("strconv.ErrSyntax", laid_strconv_ErrSyntax), ("skua/lex.signs", laid_skua_lex_signs), ("skua/lex.keywords", laid_skua_lex_keywords), ("unicode/utf8.first", laid_unicode_utf8_first)], narrowed := true }
def WalkCallsUptoSaid : Prop := walkCallsUptoRow.holds Tryz.pinned (OpenSpec.upto walkCallsSpec)

/-- 'skualaw15.PredAdds', WHERE WHAT IT READS IS OF BULK AT MOST 1048576: true; the input reads as it did. -/
def predAddsUptoRow : OpenClaim := { program := "ytjliobdjggmfeaagreatdoor", sum := "e8f910028b830d2ef580ec76caed11cca3e7e4ab7ad521c6f088204158f93d29", func := "skua/skualaw15.PredAdds", spec := "predAdds", inPlace := ["internal/bytealg.CountString", "internal/bytealg.IndexByteString", "internal/bytealg.IndexString"], unfollowed := true, recurses := true, named := ["skua/lex.signs", "strconv.ErrSyntax", "strconv.ErrRange", "internal/strconv.uint64pow10", "math/bits.deBruijn32tab", "math/bits.deBruijn64tab", "skua/lex.keywords", "unicode/utf8.first", "unicode/utf8.acceptRanges", "internal/bytealg.MaxLen", "skua/word.types"], loops := true, apart := false, laid := [("math/bits.deBruijn32tab", laid_math_bits_deBruijn32tab), ("math/bits.deBruijn64tab", laid_math_bits_deBruijn64tab), ("internal/strconv.uint64pow10", laid_internal_strconv_uint64pow10), ("skua/word.types", laid_skua_word_types), ("unicode/utf8.acceptRanges", laid_unicode_utf8_acceptRanges), ("strconv.ErrRange", laid_strconv_ErrRange), ("strconv.ErrSyntax", laid_strconv_ErrSyntax), ("skua/lex.signs", laid_skua_lex_signs), ("skua/lex.keywords", laid_skua_lex_keywords), ("unicode/utf8.first", laid_unicode_utf8_first)], narrowed := true }
def PredAddsUptoSaid : Prop := predAddsUptoRow.holds Tryz.pinned (OpenSpec.upto predAddsSpec)

/-- 'skualaw15.PredScopes', WHERE WHAT IT READS IS OF BULK AT MOST 1048576: true; the input reads as it did. -/
def predScopesUptoRow : OpenClaim := { program := "ytjliobdjggmfeaagreatdoor", sum := "e8f910028b830d2ef580ec76caed11cca3e7e4ab7ad521c6f088204158f93d29", func := "skua/skualaw15.PredScopes", spec := "predScopes", inPlace := ["internal/bytealg.CountString", "internal/bytealg.IndexByteString", "internal/bytealg.IndexString"], unfollowed := true, recurses := true, named := ["skua/lex.signs", "strconv.ErrSyntax", "strconv.ErrRange", "internal/strconv.uint64pow10", "math/bits.deBruijn32tab", "math/bits.deBruijn64tab", "skua/lex.keywords", "unicode/utf8.first", "unicode/utf8.acceptRanges", "internal/bytealg.MaxLen", "skua/word.types"], loops := true, apart := false, laid := [("math/bits.deBruijn32tab", laid_math_bits_deBruijn32tab), ("math/bits.deBruijn64tab", laid_math_bits_deBruijn64tab), ("internal/strconv.uint64pow10", laid_internal_strconv_uint64pow10), ("skua/word.types", laid_skua_word_types), ("unicode/utf8.acceptRanges", laid_unicode_utf8_acceptRanges), ("strconv.ErrRange", laid_strconv_ErrRange), ("strconv.ErrSyntax", laid_strconv_ErrSyntax), ("skua/lex.signs", laid_skua_lex_signs), ("skua/lex.keywords", laid_skua_lex_keywords), ("unicode/utf8.first", laid_unicode_utf8_first)], narrowed := true }
def PredScopesUptoSaid : Prop := predScopesUptoRow.holds Tryz.pinned (OpenSpec.upto predScopesSpec)

/-- 'skualaw15.PredBits', WHERE WHAT IT READS IS OF BULK AT MOST 1048576: true; the input reads as it did. -/
def predBitsUptoRow : OpenClaim := { program := "ytjliobdjggmfeaagreatdoor", sum := "e8f910028b830d2ef580ec76caed11cca3e7e4ab7ad521c6f088204158f93d29", func := "skua/skualaw15.PredBits", spec := "predBits", inPlace := ["internal/bytealg.CountString", "internal/bytealg.IndexByteString", "internal/bytealg.IndexString"], unfollowed := true, recurses := true, named := ["skua/lex.signs", "strconv.ErrSyntax", "strconv.ErrRange", "internal/strconv.uint64pow10", "math/bits.deBruijn32tab", "math/bits.deBruijn64tab", "skua/lex.keywords", "unicode/utf8.first", "unicode/utf8.acceptRanges", "internal/bytealg.MaxLen", "skua/word.types"], apart := false, laid := [("math/bits.deBruijn32tab", laid_math_bits_deBruijn32tab), ("math/bits.deBruijn64tab", laid_math_bits_deBruijn64tab), ("internal/strconv.uint64pow10", laid_internal_strconv_uint64pow10), ("skua/word.types", laid_skua_word_types), ("unicode/utf8.acceptRanges", laid_unicode_utf8_acceptRanges), ("strconv.ErrRange", laid_strconv_ErrRange), ("strconv.ErrSyntax", laid_strconv_ErrSyntax), ("skua/lex.signs", laid_skua_lex_signs), ("skua/lex.keywords", laid_skua_lex_keywords), ("unicode/utf8.first", laid_unicode_utf8_first)], narrowed := true }
def PredBitsUptoSaid : Prop := predBitsUptoRow.holds Tryz.pinned (OpenSpec.upto predBitsSpec)

/-- 'skualaw15.PredOnce', WHERE WHAT IT READS IS OF BULK AT MOST 1048576: true; the input reads as it did. -/
def predOnceUptoRow : OpenClaim := { program := "ytjliobdjggmfeaagreatdoor", sum := "e8f910028b830d2ef580ec76caed11cca3e7e4ab7ad521c6f088204158f93d29", func := "skua/skualaw15.PredOnce", spec := "predOnce", inPlace := ["internal/bytealg.CountString", "internal/bytealg.IndexByteString", "internal/bytealg.IndexString"], unfollowed := true, recurses := true, named := ["skua/lex.signs", "strconv.ErrSyntax", "strconv.ErrRange", "internal/strconv.uint64pow10", "math/bits.deBruijn32tab", "math/bits.deBruijn64tab", "skua/lex.keywords", "unicode/utf8.first", "unicode/utf8.acceptRanges", "internal/bytealg.MaxLen", "skua/word.types"], loops := true, apart := false, laid := [("math/bits.deBruijn32tab", laid_math_bits_deBruijn32tab), ("math/bits.deBruijn64tab", laid_math_bits_deBruijn64tab), ("internal/strconv.uint64pow10", laid_internal_strconv_uint64pow10), ("skua/word.types", laid_skua_word_types), ("unicode/utf8.acceptRanges", laid_unicode_utf8_acceptRanges), ("strconv.ErrRange", laid_strconv_ErrRange), ("strconv.ErrSyntax", laid_strconv_ErrSyntax), ("skua/lex.signs", laid_skua_lex_signs), ("skua/lex.keywords", laid_skua_lex_keywords), ("unicode/utf8.first", laid_unicode_utf8_first)], narrowed := true }
def PredOnceUptoSaid : Prop := predOnceUptoRow.holds Tryz.pinned (OpenSpec.upto predOnceSpec)

/-- 'skualaw16.WpEnters', WHERE WHAT IT READS IS OF BULK AT MOST 1048576: true; the input reads as it did. -/
def wpEntersUptoRow : OpenClaim := { program := "ytjliobdjggmfeaagreatdoor", sum := "e8f910028b830d2ef580ec76caed11cca3e7e4ab7ad521c6f088204158f93d29", func := "skua/skualaw16.WpEnters", spec := "wpEnters", inPlace := ["internal/bytealg.CountString", "internal/bytealg.IndexByteString", "internal/bytealg.IndexString"], unfollowed := true, recurses := true, named := ["skua/lex.signs", "strconv.ErrSyntax", "strconv.ErrRange", "internal/strconv.uint64pow10", "math/bits.deBruijn32tab", "math/bits.deBruijn64tab", "skua/lex.keywords", "unicode/utf8.first", "unicode/utf8.acceptRanges", "internal/bytealg.MaxLen", "skua/word.types"], loops := true, apart := false, laid := [("math/bits.deBruijn32tab", laid_math_bits_deBruijn32tab), ("math/bits.deBruijn64tab", laid_math_bits_deBruijn64tab), ("internal/strconv.uint64pow10", laid_internal_strconv_uint64pow10), ("skua/word.types", laid_skua_word_types), ("unicode/utf8.acceptRanges", laid_unicode_utf8_acceptRanges), ("strconv.ErrRange", laid_strconv_ErrRange), ("strconv.ErrSyntax", laid_strconv_ErrSyntax), ("skua/lex.signs", laid_skua_lex_signs), ("skua/lex.keywords", laid_skua_lex_keywords), ("unicode/utf8.first", laid_unicode_utf8_first)], narrowed := true }
def WpEntersUptoSaid : Prop := wpEntersUptoRow.holds Tryz.pinned (OpenSpec.upto wpEntersSpec)

end Rows
end Go.Proofs.YtjliobdjggmfeaaGreatDoor
