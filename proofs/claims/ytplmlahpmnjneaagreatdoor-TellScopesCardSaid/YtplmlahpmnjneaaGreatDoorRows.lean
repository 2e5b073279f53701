/-
  NARROWER THAN 'FOR EVERY INPUT', by the rows' own cells (each row's printed sentence says how): TellPrints: laid · TellReads: laid · ScopeReads: laid · ScopePrints: laid · ScopeBack: laid · ScopeMeans: laid · ScopeMore: laid · ScopeOrder: laid · ScopeParts: laid · ScopeEither: laid · TellScopes: laid.
  DERIVED. THE GIVEN ROWS OF THIS SEAT. 11 by the template 'for every input the law returns true; each argument reads behind the call as it read before'; 0 by the template 'total and deterministic' (their statements: YtplmlahpmnjneaaGreatDoorTotals.lean).
  GIVEN WITH THE SEED: the statements are not yours to turn. If you find one false, say at which input.
  Laid BY PROGRAM, IN A SANDBOX (cutbox-rows.mjs): the forced cells as the released guide's own fill.sh prints them over the translation 5fb9a9583a0902c5… (all of the seat's roots in one cut). By AI agents, Wed Nov 11 2026. No macro, syntax, notation, axiom, sorry.
-/
import Derived.Test.YtplmlahpmnjneaaGreatDoorChecked
import GoSem.PinnedTables
import GoSem.Claim
import GoSem.ClaimJoined
import GoSem.ClaimMapViews
import Derived.JoinedTies
import Derived.KernelRfl
namespace Go.Proofs.YtplmlahpmnjneaaGreatDoor
/- THE CELL 'sum', in the pinned program and in every row, IS THE sha256 OF THE DUMP (.gsa) THAT YtplmlahpmnjneaaGreatDoorProg.lean LOADS. Nothing in Lean hashes anything: it is a label: what it is worth is what the hold of that sum in a sandbox is worth. -/
noncomputable def Tryz.pinned : Pinned := { name := "ytplmlahpmnjneaagreatdoor", sum := "5fb9a9583a0902c5f885dc98416ed864d7677583367cff57c8b6c8d9b8e820a9", checked := Tryz.checked }
namespace Rows
def none {H : Type} : Left H := { results := [], args := [] }

/- WHAT THE LISTED PACKAGE-LEVEL VARIABLES READ AS WHEN THE CALL BEGINS. Each datum BY PROGRAM (the guide's laid-datum.mjs) off the statement by which the dump's own 'gosem.cut.vars' lays the variable. In a bare row this is a premise. The card (YtplmlahpmnjneaaGreatDoorCards.lean) ties it to the program's text. -/
def laid_math_bits_deBruijn32tab {H : Type} : DataW H := .agg [.lit (.int .u8 0), .lit (.int .u8 1), .lit (.int .u8 28), .lit (.int .u8 2), .lit (.int .u8 29), .lit (.int .u8 14), .lit (.int .u8 24), .lit (.int .u8 3), .lit (.int .u8 30), .lit (.int .u8 22), .lit (.int .u8 20), .lit (.int .u8 15), .lit (.int .u8 25), .lit (.int .u8 17), .lit (.int .u8 4), .lit (.int .u8 8), .lit (.int .u8 31), .lit (.int .u8 27), .lit (.int .u8 13), .lit (.int .u8 23), .lit (.int .u8 21), .lit (.int .u8 19), .lit (.int .u8 16), .lit (.int .u8 7), .lit (.int .u8 26), .lit (.int .u8 12), .lit (.int .u8 18), .lit (.int .u8 6), .lit (.int .u8 11), .lit (.int .u8 5), .lit (.int .u8 10), .lit (.int .u8 9)]
def laid_math_bits_deBruijn64tab {H : Type} : DataW H := .agg [.lit (.int .u8 0), .lit (.int .u8 1), .lit (.int .u8 56), .lit (.int .u8 2), .lit (.int .u8 57), .lit (.int .u8 49), .lit (.int .u8 28), .lit (.int .u8 3), .lit (.int .u8 61), .lit (.int .u8 58), .lit (.int .u8 42), .lit (.int .u8 50), .lit (.int .u8 38), .lit (.int .u8 29), .lit (.int .u8 17), .lit (.int .u8 4), .lit (.int .u8 62), .lit (.int .u8 47), .lit (.int .u8 59), .lit (.int .u8 36), .lit (.int .u8 45), .lit (.int .u8 43), .lit (.int .u8 51), .lit (.int .u8 22), .lit (.int .u8 53), .lit (.int .u8 39), .lit (.int .u8 33), .lit (.int .u8 30), .lit (.int .u8 24), .lit (.int .u8 18), .lit (.int .u8 12), .lit (.int .u8 5), .lit (.int .u8 63), .lit (.int .u8 55), .lit (.int .u8 48), .lit (.int .u8 27), .lit (.int .u8 60), .lit (.int .u8 41), .lit (.int .u8 37), .lit (.int .u8 16), .lit (.int .u8 46), .lit (.int .u8 35), .lit (.int .u8 44), .lit (.int .u8 21), .lit (.int .u8 52), .lit (.int .u8 32), .lit (.int .u8 23), .lit (.int .u8 11), .lit (.int .u8 54), .lit (.int .u8 26), .lit (.int .u8 40), .lit (.int .u8 15), .lit (.int .u8 34), .lit (.int .u8 20), .lit (.int .u8 31), .lit (.int .u8 10), .lit (.int .u8 25), .lit (.int .u8 14), .lit (.int .u8 19), .lit (.int .u8 9), .lit (.int .u8 13), .lit (.int .u8 8), .lit (.int .u8 7), .lit (.int .u8 6)]
def laid_internal_strconv_uint64pow10 {H : Type} : DataW H := .agg [.lit (.int .u64 1), .lit (.int .u64 10), .lit (.int .u64 100), .lit (.int .u64 1000), .lit (.int .u64 10000), .lit (.int .u64 100000), .lit (.int .u64 1000000), .lit (.int .u64 10000000), .lit (.int .u64 100000000), .lit (.int .u64 1000000000), .lit (.int .u64 10000000000), .lit (.int .u64 100000000000), .lit (.int .u64 1000000000000), .lit (.int .u64 10000000000000), .lit (.int .u64 100000000000000), .lit (.int .u64 1000000000000000), .lit (.int .u64 10000000000000000), .lit (.int .u64 100000000000000000), .lit (.int .u64 1000000000000000000), .lit (.int .u64 10000000000000000000)]
def laid_unicode_utf8_acceptRanges {H : Type} : DataW H := .agg [.agg [.lit (.int .u8 128), .lit (.int .u8 191)], .agg [.lit (.int .u8 160), .lit (.int .u8 191)], .agg [.lit (.int .u8 128), .lit (.int .u8 159)], .agg [.lit (.int .u8 144), .lit (.int .u8 191)], .agg [.lit (.int .u8 128), .lit (.int .u8 143)], .agg [.lit (.int .u8 0), .lit (.int .u8 0)], .agg [.lit (.int .u8 0), .lit (.int .u8 0)], .agg [.lit (.int .u8 0), .lit (.int .u8 0)], .agg [.lit (.int .u8 0), .lit (.int .u8 0)], .agg [.lit (.int .u8 0), .lit (.int .u8 0)], .agg [.lit (.int .u8 0), .lit (.int .u8 0)], .agg [.lit (.int .u8 0), .lit (.int .u8 0)], .agg [.lit (.int .u8 0), .lit (.int .u8 0)], .agg [.lit (.int .u8 0), .lit (.int .u8 0)], .agg [.lit (.int .u8 0), .lit (.int .u8 0)], .agg [.lit (.int .u8 0), .lit (.int .u8 0)]]
def laid_linchpin_set_first {H : Type} : DataW H := .agg [.lit (.int .i64 0), .lit (.int .i64 0), .lit (.int .i64 0), .lit (.string []), .lit (.string [])]
/-- One of Go's own tables, pinned by name: the form's constant. -/
def laid_unicode_utf8_first : DataW Unit := Go.Pinned.utf8First

/-- 'linchpinlaw8.TellPrints': WHATEVER THE INPUT: true; the input reads as it did. -/
def tellPrintsSpec : ChangeSpec := { name := "tellPrints", fn := fun _ => fun
  | [d] => { results := [.lit (.bool true)], args := [d] }
  | _ => none }
def tellPrintsRow : OpenClaim := { program := "ytplmlahpmnjneaagreatdoor", sum := "5fb9a9583a0902c5f885dc98416ed864d7677583367cff57c8b6c8d9b8e820a9", func := "linchpin/linchpinlaw8.TellPrints", spec := "tellPrints", inPlace := ["internal/bytealg.IndexByteString", "internal/bytealg.IndexString", "internal/bytealg.CountString", "internal/abi.NoEscape"], named := ["internal/bytealg.MaxLen", "unicode/utf8.first", "unicode/utf8.acceptRanges", "internal/strconv.uint64pow10", "math/bits.deBruijn32tab", "math/bits.deBruijn64tab", "linchpin/set.first"], apart := false, laid := [("math/bits.deBruijn32tab", laid_math_bits_deBruijn32tab), ("math/bits.deBruijn64tab", laid_math_bits_deBruijn64tab), ("internal/strconv.uint64pow10", laid_internal_strconv_uint64pow10), ("unicode/utf8.acceptRanges", laid_unicode_utf8_acceptRanges), ("linchpin/set.first", laid_linchpin_set_first), ("unicode/utf8.first", laid_unicode_utf8_first)] }
def TellPrintsSaid : Prop := tellPrintsRow.holds Tryz.pinned (OpenSpec.ofChange tellPrintsSpec)

/-- ITS FALSE NEIGHBOUR: 'it returns false'. Refute it at one input. -/
def tellPrintsWrong : ChangeSpec := { name := "tellPrints", fn := fun _ => fun
  | [d] => { results := [.lit (.bool false)], args := [d] }
  | _ => none }
def TellPrintsWrongFalsely : Prop := tellPrintsRow.holds Tryz.pinned (OpenSpec.ofChange tellPrintsWrong)

/-- 'linchpinlaw8.TellReads': WHATEVER THE INPUT: true; the input reads as it did. -/
def tellReadsSpec : ChangeSpec := { name := "tellReads", fn := fun _ => fun
  | [d] => { results := [.lit (.bool true)], args := [d] }
  | _ => none }
def tellReadsRow : OpenClaim := { program := "ytplmlahpmnjneaagreatdoor", sum := "5fb9a9583a0902c5f885dc98416ed864d7677583367cff57c8b6c8d9b8e820a9", func := "linchpin/linchpinlaw8.TellReads", spec := "tellReads", inPlace := ["internal/bytealg.IndexByteString", "internal/bytealg.IndexString", "internal/bytealg.CountString", "internal/abi.NoEscape"], named := ["internal/bytealg.MaxLen", "unicode/utf8.first", "unicode/utf8.acceptRanges", "internal/strconv.uint64pow10", "math/bits.deBruijn32tab", "math/bits.deBruijn64tab", "linchpin/set.first"], apart := false, laid := [("math/bits.deBruijn32tab", laid_math_bits_deBruijn32tab), ("math/bits.deBruijn64tab", laid_math_bits_deBruijn64tab), ("internal/strconv.uint64pow10", laid_internal_strconv_uint64pow10), ("unicode/utf8.acceptRanges", laid_unicode_utf8_acceptRanges), ("linchpin/set.first", laid_linchpin_set_first), ("unicode/utf8.first", laid_unicode_utf8_first)] }
def TellReadsSaid : Prop := tellReadsRow.holds Tryz.pinned (OpenSpec.ofChange tellReadsSpec)

/-- ITS FALSE NEIGHBOUR: 'it returns false'. Refute it at one input. -/
def tellReadsWrong : ChangeSpec := { name := "tellReads", fn := fun _ => fun
  | [d] => { results := [.lit (.bool false)], args := [d] }
  | _ => none }
def TellReadsWrongFalsely : Prop := tellReadsRow.holds Tryz.pinned (OpenSpec.ofChange tellReadsWrong)

/-- 'linchpinlaw7.ScopeReads': WHATEVER THE INPUT: true; the input reads as it did. -/
def scopeReadsSpec : ChangeSpec := { name := "scopeReads", fn := fun _ => fun
  | [d] => { results := [.lit (.bool true)], args := [d] }
  | _ => none }
def scopeReadsRow : OpenClaim := { program := "ytplmlahpmnjneaagreatdoor", sum := "5fb9a9583a0902c5f885dc98416ed864d7677583367cff57c8b6c8d9b8e820a9", func := "linchpin/linchpinlaw7.ScopeReads", spec := "scopeReads", inPlace := ["internal/bytealg.CountString", "internal/bytealg.IndexByteString", "internal/bytealg.IndexString", "internal/abi.NoEscape", "internal/bytealg.MakeNoZero"], unfollowed := true, recurses := true, named := ["unicode/utf8.first", "unicode/utf8.acceptRanges", "internal/bytealg.MaxLen", "internal/strconv.uint64pow10", "math/bits.deBruijn32tab", "math/bits.deBruijn64tab", "linchpin/set.first"], apart := false, laid := [("math/bits.deBruijn32tab", laid_math_bits_deBruijn32tab), ("math/bits.deBruijn64tab", laid_math_bits_deBruijn64tab), ("internal/strconv.uint64pow10", laid_internal_strconv_uint64pow10), ("unicode/utf8.acceptRanges", laid_unicode_utf8_acceptRanges), ("linchpin/set.first", laid_linchpin_set_first), ("unicode/utf8.first", laid_unicode_utf8_first)] }
def ScopeReadsSaid : Prop := scopeReadsRow.holds Tryz.pinned (OpenSpec.ofChange scopeReadsSpec)

/-- ITS FALSE NEIGHBOUR: 'it returns false'. Refute it at one input. -/
def scopeReadsWrong : ChangeSpec := { name := "scopeReads", fn := fun _ => fun
  | [d] => { results := [.lit (.bool false)], args := [d] }
  | _ => none }
def ScopeReadsWrongFalsely : Prop := scopeReadsRow.holds Tryz.pinned (OpenSpec.ofChange scopeReadsWrong)

/-- 'linchpinlaw7.ScopePrints': WHATEVER THE INPUT: true; the input reads as it did. -/
def scopePrintsSpec : ChangeSpec := { name := "scopePrints", fn := fun _ => fun
  | [d] => { results := [.lit (.bool true)], args := [d] }
  | _ => none }
def scopePrintsRow : OpenClaim := { program := "ytplmlahpmnjneaagreatdoor", sum := "5fb9a9583a0902c5f885dc98416ed864d7677583367cff57c8b6c8d9b8e820a9", func := "linchpin/linchpinlaw7.ScopePrints", spec := "scopePrints", inPlace := ["internal/bytealg.CountString", "internal/bytealg.IndexByteString", "internal/bytealg.IndexString", "internal/abi.NoEscape", "internal/bytealg.MakeNoZero"], unfollowed := true, recurses := true, named := ["unicode/utf8.first", "unicode/utf8.acceptRanges", "internal/bytealg.MaxLen", "internal/strconv.uint64pow10", "math/bits.deBruijn32tab", "math/bits.deBruijn64tab", "linchpin/set.first"], apart := false, laid := [("math/bits.deBruijn32tab", laid_math_bits_deBruijn32tab), ("math/bits.deBruijn64tab", laid_math_bits_deBruijn64tab), ("internal/strconv.uint64pow10", laid_internal_strconv_uint64pow10), ("unicode/utf8.acceptRanges", laid_unicode_utf8_acceptRanges), ("linchpin/set.first", laid_linchpin_set_first), ("unicode/utf8.first", laid_unicode_utf8_first)] }
def ScopePrintsSaid : Prop := scopePrintsRow.holds Tryz.pinned (OpenSpec.ofChange scopePrintsSpec)

/-- ITS FALSE NEIGHBOUR: 'it returns false'. Refute it at one input. -/
def scopePrintsWrong : ChangeSpec := { name := "scopePrints", fn := fun _ => fun
  | [d] => { results := [.lit (.bool false)], args := [d] }
  | _ => none }
def ScopePrintsWrongFalsely : Prop := scopePrintsRow.holds Tryz.pinned (OpenSpec.ofChange scopePrintsWrong)

/-- 'linchpinlaw7.ScopeBack': WHATEVER THE INPUT: true; the input reads as it did. -/
def scopeBackSpec : ChangeSpec := { name := "scopeBack", fn := fun _ => fun
  | [d] => { results := [.lit (.bool true)], args := [d] }
  | _ => none }
def scopeBackRow : OpenClaim := { program := "ytplmlahpmnjneaagreatdoor", sum := "5fb9a9583a0902c5f885dc98416ed864d7677583367cff57c8b6c8d9b8e820a9", func := "linchpin/linchpinlaw7.ScopeBack", spec := "scopeBack", inPlace := ["internal/abi.NoEscape", "internal/bytealg.MakeNoZero", "internal/bytealg.CountString", "internal/bytealg.IndexByteString", "internal/bytealg.IndexString"], unfollowed := true, recurses := true, named := ["internal/strconv.uint64pow10", "math/bits.deBruijn32tab", "math/bits.deBruijn64tab", "unicode/utf8.first", "unicode/utf8.acceptRanges", "internal/bytealg.MaxLen", "linchpin/set.first"], apart := false, laid := [("math/bits.deBruijn32tab", laid_math_bits_deBruijn32tab), ("math/bits.deBruijn64tab", laid_math_bits_deBruijn64tab), ("internal/strconv.uint64pow10", laid_internal_strconv_uint64pow10), ("unicode/utf8.acceptRanges", laid_unicode_utf8_acceptRanges), ("linchpin/set.first", laid_linchpin_set_first), ("unicode/utf8.first", laid_unicode_utf8_first)] }
def ScopeBackSaid : Prop := scopeBackRow.holds Tryz.pinned (OpenSpec.ofChange scopeBackSpec)

/-- ITS FALSE NEIGHBOUR: 'it returns false'. Refute it at one input. -/
def scopeBackWrong : ChangeSpec := { name := "scopeBack", fn := fun _ => fun
  | [d] => { results := [.lit (.bool false)], args := [d] }
  | _ => none }
def ScopeBackWrongFalsely : Prop := scopeBackRow.holds Tryz.pinned (OpenSpec.ofChange scopeBackWrong)

/-- 'linchpinlaw7.ScopeMeans': WHATEVER THE INPUT: true; the input reads as it did. -/
def scopeMeansSpec : ChangeSpec := { name := "scopeMeans", fn := fun _ => fun
  | [d] => { results := [.lit (.bool true)], args := [d] }
  | _ => none }
def scopeMeansRow : OpenClaim := { program := "ytplmlahpmnjneaagreatdoor", sum := "5fb9a9583a0902c5f885dc98416ed864d7677583367cff57c8b6c8d9b8e820a9", func := "linchpin/linchpinlaw7.ScopeMeans", spec := "scopeMeans", inPlace := ["internal/abi.NoEscape", "internal/bytealg.MakeNoZero", "internal/bytealg.CountString", "internal/bytealg.IndexByteString", "internal/bytealg.IndexString"], unfollowed := true, recurses := true, named := ["internal/strconv.uint64pow10", "math/bits.deBruijn32tab", "math/bits.deBruijn64tab", "linchpin/set.first", "unicode/utf8.first", "unicode/utf8.acceptRanges", "internal/bytealg.MaxLen"], apart := false, laid := [("math/bits.deBruijn32tab", laid_math_bits_deBruijn32tab), ("math/bits.deBruijn64tab", laid_math_bits_deBruijn64tab), ("internal/strconv.uint64pow10", laid_internal_strconv_uint64pow10), ("unicode/utf8.acceptRanges", laid_unicode_utf8_acceptRanges), ("linchpin/set.first", laid_linchpin_set_first), ("unicode/utf8.first", laid_unicode_utf8_first)] }
def ScopeMeansSaid : Prop := scopeMeansRow.holds Tryz.pinned (OpenSpec.ofChange scopeMeansSpec)

/-- ITS FALSE NEIGHBOUR: 'it returns false'. Refute it at one input. -/
def scopeMeansWrong : ChangeSpec := { name := "scopeMeans", fn := fun _ => fun
  | [d] => { results := [.lit (.bool false)], args := [d] }
  | _ => none }
def ScopeMeansWrongFalsely : Prop := scopeMeansRow.holds Tryz.pinned (OpenSpec.ofChange scopeMeansWrong)

/-- 'linchpinlaw7.ScopeMore': WHATEVER THE INPUT: true; the input reads as it did. -/
def scopeMoreSpec : ChangeSpec := { name := "scopeMore", fn := fun _ => fun
  | [d1, d2] => { results := [.lit (.bool true)], args := [d1, d2] }
  | _ => none }
def scopeMoreRow : OpenClaim := { program := "ytplmlahpmnjneaagreatdoor", sum := "5fb9a9583a0902c5f885dc98416ed864d7677583367cff57c8b6c8d9b8e820a9", func := "linchpin/linchpinlaw7.ScopeMore", spec := "scopeMore", inPlace := ["internal/abi.NoEscape", "internal/bytealg.MakeNoZero", "internal/bytealg.CountString", "internal/bytealg.IndexByteString", "internal/bytealg.IndexString"], unfollowed := true, recurses := true, named := ["internal/strconv.uint64pow10", "math/bits.deBruijn32tab", "math/bits.deBruijn64tab", "linchpin/set.first", "unicode/utf8.first", "unicode/utf8.acceptRanges", "internal/bytealg.MaxLen"], apart := false, laid := [("math/bits.deBruijn32tab", laid_math_bits_deBruijn32tab), ("math/bits.deBruijn64tab", laid_math_bits_deBruijn64tab), ("internal/strconv.uint64pow10", laid_internal_strconv_uint64pow10), ("unicode/utf8.acceptRanges", laid_unicode_utf8_acceptRanges), ("linchpin/set.first", laid_linchpin_set_first), ("unicode/utf8.first", laid_unicode_utf8_first)] }
def ScopeMoreSaid : Prop := scopeMoreRow.holds Tryz.pinned (OpenSpec.ofChange scopeMoreSpec)

/-- ITS FALSE NEIGHBOUR: 'it returns false'. Refute it at one input. -/
def scopeMoreWrong : ChangeSpec := { name := "scopeMore", fn := fun _ => fun
  | [d1, d2] => { results := [.lit (.bool false)], args := [d1, d2] }
  | _ => none }
def ScopeMoreWrongFalsely : Prop := scopeMoreRow.holds Tryz.pinned (OpenSpec.ofChange scopeMoreWrong)

/-- 'linchpinlaw7.ScopeOrder': WHATEVER THE INPUT: true; the input reads as it did. -/
def scopeOrderSpec : ChangeSpec := { name := "scopeOrder", fn := fun _ => fun
  | [d] => { results := [.lit (.bool true)], args := [d] }
  | _ => none }
def scopeOrderRow : OpenClaim := { program := "ytplmlahpmnjneaagreatdoor", sum := "5fb9a9583a0902c5f885dc98416ed864d7677583367cff57c8b6c8d9b8e820a9", func := "linchpin/linchpinlaw7.ScopeOrder", spec := "scopeOrder", inPlace := ["internal/bytealg.CountString", "internal/bytealg.IndexByteString", "internal/bytealg.IndexString", "internal/abi.NoEscape", "internal/bytealg.MakeNoZero"], unfollowed := true, recurses := true, named := ["unicode/utf8.first", "unicode/utf8.acceptRanges", "internal/bytealg.MaxLen", "internal/strconv.uint64pow10", "math/bits.deBruijn32tab", "math/bits.deBruijn64tab", "linchpin/set.first"], apart := false, laid := [("math/bits.deBruijn32tab", laid_math_bits_deBruijn32tab), ("math/bits.deBruijn64tab", laid_math_bits_deBruijn64tab), ("internal/strconv.uint64pow10", laid_internal_strconv_uint64pow10), ("unicode/utf8.acceptRanges", laid_unicode_utf8_acceptRanges), ("linchpin/set.first", laid_linchpin_set_first), ("unicode/utf8.first", laid_unicode_utf8_first)] }
def ScopeOrderSaid : Prop := scopeOrderRow.holds Tryz.pinned (OpenSpec.ofChange scopeOrderSpec)

/-- ITS FALSE NEIGHBOUR: 'it returns false'. Refute it at one input. -/
def scopeOrderWrong : ChangeSpec := { name := "scopeOrder", fn := fun _ => fun
  | [d] => { results := [.lit (.bool false)], args := [d] }
  | _ => none }
def ScopeOrderWrongFalsely : Prop := scopeOrderRow.holds Tryz.pinned (OpenSpec.ofChange scopeOrderWrong)

/-- 'linchpinlaw7.ScopeParts': WHATEVER THE INPUT: true; the input reads as it did. -/
def scopePartsSpec : ChangeSpec := { name := "scopeParts", fn := fun _ => fun
  | [d] => { results := [.lit (.bool true)], args := [d] }
  | _ => none }
def scopePartsRow : OpenClaim := { program := "ytplmlahpmnjneaagreatdoor", sum := "5fb9a9583a0902c5f885dc98416ed864d7677583367cff57c8b6c8d9b8e820a9", func := "linchpin/linchpinlaw7.ScopeParts", spec := "scopeParts", inPlace := ["internal/abi.NoEscape", "internal/bytealg.MakeNoZero", "internal/bytealg.CountString", "internal/bytealg.IndexByteString", "internal/bytealg.IndexString"], unfollowed := true, recurses := true, named := ["internal/strconv.uint64pow10", "math/bits.deBruijn32tab", "math/bits.deBruijn64tab", "unicode/utf8.first", "unicode/utf8.acceptRanges", "internal/bytealg.MaxLen", "linchpin/set.first"], apart := false, laid := [("math/bits.deBruijn32tab", laid_math_bits_deBruijn32tab), ("math/bits.deBruijn64tab", laid_math_bits_deBruijn64tab), ("internal/strconv.uint64pow10", laid_internal_strconv_uint64pow10), ("unicode/utf8.acceptRanges", laid_unicode_utf8_acceptRanges), ("linchpin/set.first", laid_linchpin_set_first), ("unicode/utf8.first", laid_unicode_utf8_first)] }
def ScopePartsSaid : Prop := scopePartsRow.holds Tryz.pinned (OpenSpec.ofChange scopePartsSpec)

/-- ITS FALSE NEIGHBOUR: 'it returns false'. Refute it at one input. -/
def scopePartsWrong : ChangeSpec := { name := "scopeParts", fn := fun _ => fun
  | [d] => { results := [.lit (.bool false)], args := [d] }
  | _ => none }
def ScopePartsWrongFalsely : Prop := scopePartsRow.holds Tryz.pinned (OpenSpec.ofChange scopePartsWrong)

/-- 'linchpinlaw7.ScopeEither': WHATEVER THE INPUT: true; the input reads as it did. -/
def scopeEitherSpec : ChangeSpec := { name := "scopeEither", fn := fun _ => fun
  | [d1, d2] => { results := [.lit (.bool true)], args := [d1, d2] }
  | _ => none }
def scopeEitherRow : OpenClaim := { program := "ytplmlahpmnjneaagreatdoor", sum := "5fb9a9583a0902c5f885dc98416ed864d7677583367cff57c8b6c8d9b8e820a9", func := "linchpin/linchpinlaw7.ScopeEither", spec := "scopeEither", inPlace := ["internal/bytealg.CountString", "internal/bytealg.IndexByteString", "internal/bytealg.IndexString", "internal/abi.NoEscape", "internal/bytealg.MakeNoZero"], unfollowed := true, recurses := true, named := ["unicode/utf8.first", "unicode/utf8.acceptRanges", "internal/bytealg.MaxLen", "internal/strconv.uint64pow10", "math/bits.deBruijn32tab", "math/bits.deBruijn64tab", "linchpin/set.first"], apart := false, laid := [("math/bits.deBruijn32tab", laid_math_bits_deBruijn32tab), ("math/bits.deBruijn64tab", laid_math_bits_deBruijn64tab), ("internal/strconv.uint64pow10", laid_internal_strconv_uint64pow10), ("unicode/utf8.acceptRanges", laid_unicode_utf8_acceptRanges), ("linchpin/set.first", laid_linchpin_set_first), ("unicode/utf8.first", laid_unicode_utf8_first)] }
def ScopeEitherSaid : Prop := scopeEitherRow.holds Tryz.pinned (OpenSpec.ofChange scopeEitherSpec)

/-- ITS FALSE NEIGHBOUR: 'it returns false'. Refute it at one input. -/
def scopeEitherWrong : ChangeSpec := { name := "scopeEither", fn := fun _ => fun
  | [d1, d2] => { results := [.lit (.bool false)], args := [d1, d2] }
  | _ => none }
def ScopeEitherWrongFalsely : Prop := scopeEitherRow.holds Tryz.pinned (OpenSpec.ofChange scopeEitherWrong)

/-- 'linchpinlaw8.TellScopes': WHATEVER THE INPUT: true; the input reads as it did. -/
def tellScopesSpec : ChangeSpec := { name := "tellScopes", fn := fun _ => fun
  | [d] => { results := [.lit (.bool true)], args := [d] }
  | _ => none }
def tellScopesRow : OpenClaim := { program := "ytplmlahpmnjneaagreatdoor", sum := "5fb9a9583a0902c5f885dc98416ed864d7677583367cff57c8b6c8d9b8e820a9", func := "linchpin/linchpinlaw8.TellScopes", spec := "tellScopes", inPlace := ["internal/bytealg.IndexByteString", "internal/bytealg.IndexString", "internal/bytealg.CountString", "internal/abi.NoEscape", "internal/bytealg.MakeNoZero"], unfollowed := true, recurses := true, named := ["internal/bytealg.MaxLen", "unicode/utf8.first", "unicode/utf8.acceptRanges", "internal/strconv.uint64pow10", "math/bits.deBruijn32tab", "math/bits.deBruijn64tab", "linchpin/set.first"], apart := false, laid := [("math/bits.deBruijn32tab", laid_math_bits_deBruijn32tab), ("math/bits.deBruijn64tab", laid_math_bits_deBruijn64tab), ("internal/strconv.uint64pow10", laid_internal_strconv_uint64pow10), ("unicode/utf8.acceptRanges", laid_unicode_utf8_acceptRanges), ("linchpin/set.first", laid_linchpin_set_first), ("unicode/utf8.first", laid_unicode_utf8_first)] }
def TellScopesSaid : Prop := tellScopesRow.holds Tryz.pinned (OpenSpec.ofChange tellScopesSpec)

/-- ITS FALSE NEIGHBOUR: 'it returns false'. Refute it at one input. -/
def tellScopesWrong : ChangeSpec := { name := "tellScopes", fn := fun _ => fun
  | [d] => { results := [.lit (.bool false)], args := [d] }
  | _ => none }
def TellScopesWrongFalsely : Prop := tellScopesRow.holds Tryz.pinned (OpenSpec.ofChange tellScopesWrong)

/- THE SECOND FORM. 'bulk': how many values and letters a reading holds, each counted each time it is reached (what is shared counts as often as it is met; a slice's spare places count too). A statement '..UptoSaid' is the law's where the arguments, and the package variables that the reading takes, are together of bulk at most 1048576: NARROWER than '..Said'. Prove '..Said' where nothing that the law and all that it calls make is longer than what came in: it says more and counts as full. Else prove '..UptoSaid'. A law counts once. -/
mutual
def uptoBulk {H : Type} : DataW H → Nat
  | .lit (.string bytes) => bytes.length + 1
  | .lit _ => 1
  | .nil => 1
  | .ptr d => uptoBulk d + 1
  | .slice elems spare => uptoBulkAll elems + uptoBulkAll spare + 1
  | .agg parts => uptoBulkAll parts + 1
  | .iface _ d => uptoBulk d + 1
  | .map entries => uptoBulkEntries entries + 1
  | .held _ => 1
def uptoBulkAll {H : Type} : List (DataW H) → Nat
  | [] => 0
  | d :: r => uptoBulk d + uptoBulkAll r
def uptoBulkEntries {H : Type} : List (Lit × DataW H) → Nat
  | [] => 0
  | x :: r => uptoBulkEntry x + uptoBulkEntries r
def uptoBulkEntry {H : Type} : Lit × DataW H → Nat
  | (.string bytes, d) => bytes.length + uptoBulk d + 1
  | (_, d) => uptoBulk d + 1
 end
def uptoSmall : (H : Type) → List (DataW H) → Bool := fun _ ds => decide (uptoBulkAll ds ≤ 1048576)
def OpenSpec.upto (s : _root_.Go.ChangeSpec) : _root_.Go.OpenSpec := { _root_.Go.OpenSpec.ofChange s with cond := some uptoSmall }

/-- 'linchpinlaw8.TellPrints', WHERE WHAT IT READS IS OF BULK AT MOST 1048576: true; the input reads as it did. -/
def tellPrintsUptoRow : OpenClaim := { program := "ytplmlahpmnjneaagreatdoor", sum := "5fb9a9583a0902c5f885dc98416ed864d7677583367cff57c8b6c8d9b8e820a9", func := "linchpin/linchpinlaw8.TellPrints", spec := "tellPrints", inPlace := ["internal/bytealg.IndexByteString", "internal/bytealg.IndexString", "internal/bytealg.CountString", "internal/abi.NoEscape"], named := ["internal/bytealg.MaxLen", "unicode/utf8.first", "unicode/utf8.acceptRanges", "internal/strconv.uint64pow10", "math/bits.deBruijn32tab", "math/bits.deBruijn64tab", "linchpin/set.first"], apart := false, laid := [("math/bits.deBruijn32tab", laid_math_bits_deBruijn32tab), ("math/bits.deBruijn64tab", laid_math_bits_deBruijn64tab), ("internal/strconv.uint64pow10", laid_internal_strconv_uint64pow10), ("unicode/utf8.acceptRanges", laid_unicode_utf8_acceptRanges), ("linchpin/set.first", laid_linchpin_set_first), ("unicode/utf8.first", laid_unicode_utf8_first)], narrowed := true }
def TellPrintsUptoSaid : Prop := tellPrintsUptoRow.holds Tryz.pinned (OpenSpec.upto tellPrintsSpec)

/-- 'linchpinlaw8.TellReads', WHERE WHAT IT READS IS OF BULK AT MOST 1048576: true; the input reads as it did. -/
def tellReadsUptoRow : OpenClaim := { program := "ytplmlahpmnjneaagreatdoor", sum := "5fb9a9583a0902c5f885dc98416ed864d7677583367cff57c8b6c8d9b8e820a9", func := "linchpin/linchpinlaw8.TellReads", spec := "tellReads", inPlace := ["internal/bytealg.IndexByteString", "internal/bytealg.IndexString", "internal/bytealg.CountString", "internal/abi.NoEscape"], named := ["internal/bytealg.MaxLen", "unicode/utf8.first", "unicode/utf8.acceptRanges", "internal/strconv.uint64pow10", "math/bits.deBruijn32tab", "math/bits.deBruijn64tab", "linchpin/set.first"], apart := false, laid := [("math/bits.deBruijn32tab", laid_math_bits_deBruijn32tab), ("math/bits.deBruijn64tab", laid_math_bits_deBruijn64tab), ("internal/strconv.uint64pow10", laid_internal_strconv_uint64pow10), ("unicode/utf8.acceptRanges", laid_unicode_utf8_acceptRanges), ("linchpin/set.first", laid_linchpin_set_first), ("unicode/utf8.first", laid_unicode_utf8_first)], narrowed := true }
def TellReadsUptoSaid : Prop := tellReadsUptoRow.holds Tryz.pinned (OpenSpec.upto tellReadsSpec)

/-- 'linchpinlaw7.ScopeReads', WHERE WHAT IT READS IS OF BULK AT MOST 1048576: true; the input reads as it did. -/
def scopeReadsUptoRow : OpenClaim := { program := "ytplmlahpmnjneaagreatdoor", sum := "5fb9a9583a0902c5f885dc98416ed864d7677583367cff57c8b6c8d9b8e820a9", func := "linchpin/linchpinlaw7.ScopeReads", spec := "scopeReads", inPlace := ["internal/bytealg.CountString", "internal/bytealg.IndexByteString", "internal/bytealg.IndexString", "internal/abi.NoEscape", "internal/bytealg.MakeNoZero"], unfollowed := true, recurses := true, named := ["unicode/utf8.first", "unicode/utf8.acceptRanges", "internal/bytealg.MaxLen", "internal/strconv.uint64pow10", "math/bits.deBruijn32tab", "math/bits.deBruijn64tab", "linchpin/set.first"], apart := false, laid := [("math/bits.deBruijn32tab", laid_math_bits_deBruijn32tab), ("math/bits.deBruijn64tab", laid_math_bits_deBruijn64tab), ("internal/strconv.uint64pow10", laid_internal_strconv_uint64pow10), ("unicode/utf8.acceptRanges", laid_unicode_utf8_acceptRanges), ("linchpin/set.first", laid_linchpin_set_first), ("unicode/utf8.first", laid_unicode_utf8_first)], narrowed := true }
def ScopeReadsUptoSaid : Prop := scopeReadsUptoRow.holds Tryz.pinned (OpenSpec.upto scopeReadsSpec)

/-- 'linchpinlaw7.ScopePrints', WHERE WHAT IT READS IS OF BULK AT MOST 1048576: true; the input reads as it did. -/
def scopePrintsUptoRow : OpenClaim := { program := "ytplmlahpmnjneaagreatdoor", sum := "5fb9a9583a0902c5f885dc98416ed864d7677583367cff57c8b6c8d9b8e820a9", func := "linchpin/linchpinlaw7.ScopePrints", spec := "scopePrints", inPlace := ["internal/bytealg.CountString", "internal/bytealg.IndexByteString", "internal/bytealg.IndexString", "internal/abi.NoEscape", "internal/bytealg.MakeNoZero"], unfollowed := true, recurses := true, named := ["unicode/utf8.first", "unicode/utf8.acceptRanges", "internal/bytealg.MaxLen", "internal/strconv.uint64pow10", "math/bits.deBruijn32tab", "math/bits.deBruijn64tab", "linchpin/set.first"], apart := false, laid := [("math/bits.deBruijn32tab", laid_math_bits_deBruijn32tab), ("math/bits.deBruijn64tab", laid_math_bits_deBruijn64tab), ("internal/strconv.uint64pow10", laid_internal_strconv_uint64pow10), ("unicode/utf8.acceptRanges", laid_unicode_utf8_acceptRanges), ("linchpin/set.first", laid_linchpin_set_first), ("unicode/utf8.first", laid_unicode_utf8_first)], narrowed := true }
def ScopePrintsUptoSaid : Prop := scopePrintsUptoRow.holds Tryz.pinned (OpenSpec.upto scopePrintsSpec)

/-- 'linchpinlaw7.ScopeBack', WHERE WHAT IT READS IS OF BULK AT MOST 1048576: true; the input reads as it did. -/
def scopeBackUptoRow : OpenClaim := { program := "ytplmlahpmnjneaagreatdoor", sum := "5fb9a9583a0902c5f885dc98416ed864d7677583367cff57c8b6c8d9b8e820a9", func := "linchpin/linchpinlaw7.ScopeBack", spec := "scopeBack", inPlace := ["internal/abi.NoEscape", "internal/bytealg.MakeNoZero", "internal/bytealg.CountString", "internal/bytealg.IndexByteString", "internal/bytealg.IndexString"], unfollowed := true, recurses := true, named := ["internal/strconv.uint64pow10", "math/bits.deBruijn32tab", "math/bits.deBruijn64tab", "unicode/utf8.first", "unicode/utf8.acceptRanges", "internal/bytealg.MaxLen", "linchpin/set.first"], apart := false, laid := [("math/bits.deBruijn32tab", laid_math_bits_deBruijn32tab), ("math/bits.deBruijn64tab", laid_math_bits_deBruijn64tab), ("internal/strconv.uint64pow10", laid_internal_strconv_uint64pow10), ("unicode/utf8.acceptRanges", laid_unicode_utf8_acceptRanges), ("linchpin/set.first", laid_linchpin_set_first), ("unicode/utf8.first", laid_unicode_utf8_first)], narrowed := true }
def ScopeBackUptoSaid : Prop := scopeBackUptoRow.holds Tryz.pinned (OpenSpec.upto scopeBackSpec)

/-- 'linchpinlaw7.ScopeMeans', WHERE WHAT IT READS IS OF BULK AT MOST 1048576: true; the input reads as it did. -/
def scopeMeansUptoRow : OpenClaim := { program := "ytplmlahpmnjneaagreatdoor", sum := "5fb9a9583a0902c5f885dc98416ed864d7677583367cff57c8b6c8d9b8e820a9", func := "linchpin/linchpinlaw7.ScopeMeans", spec := "scopeMeans", inPlace := ["internal/abi.NoEscape", "internal/bytealg.MakeNoZero", "internal/bytealg.CountString", "internal/bytealg.IndexByteString", "internal/bytealg.IndexString"], unfollowed := true, recurses := true, named := ["internal/strconv.uint64pow10", "math/bits.deBruijn32tab", "math/bits.deBruijn64tab", "linchpin/set.first", "unicode/utf8.first", "unicode/utf8.acceptRanges", "internal/bytealg.MaxLen"], apart := false, laid := [("math/bits.deBruijn32tab", laid_math_bits_deBruijn32tab), ("math/bits.deBruijn64tab", laid_math_bits_deBruijn64tab), ("internal/strconv.uint64pow10", laid_internal_strconv_uint64pow10), ("unicode/utf8.acceptRanges", laid_unicode_utf8_acceptRanges), ("linchpin/set.first", laid_linchpin_set_first), ("unicode/utf8.first", laid_unicode_utf8_first)], narrowed := true }
def ScopeMeansUptoSaid : Prop := scopeMeansUptoRow.holds Tryz.pinned (OpenSpec.upto scopeMeansSpec)

/-- 'linchpinlaw7.ScopeMore', WHERE WHAT IT READS IS OF BULK AT MOST 1048576: true; the input reads as it did. -/
def scopeMoreUptoRow : OpenClaim := { program := "ytplmlahpmnjneaagreatdoor", sum := "5fb9a9583a0902c5f885dc98416ed864d7677583367cff57c8b6c8d9b8e820a9", func := "linchpin/linchpinlaw7.ScopeMore", spec := "scopeMore", inPlace := ["internal/abi.NoEscape", "internal/bytealg.MakeNoZero", "internal/bytealg.CountString", "internal/bytealg.IndexByteString", "internal/bytealg.IndexString"], unfollowed := true, recurses := true, named := ["internal/strconv.uint64pow10", "math/bits.deBruijn32tab", "math/bits.deBruijn64tab", "linchpin/set.first", "unicode/utf8.first", "unicode/utf8.acceptRanges", "internal/bytealg.MaxLen"], apart := false, laid := [("math/bits.deBruijn32tab", laid_math_bits_deBruijn32tab), ("math/bits.deBruijn64tab", laid_math_bits_deBruijn64tab), ("internal/strconv.uint64pow10", laid_internal_strconv_uint64pow10), ("unicode/utf8.acceptRanges", laid_unicode_utf8_acceptRanges), ("linchpin/set.first", laid_linchpin_set_first), ("unicode/utf8.first", laid_unicode_utf8_first)], narrowed := true }
def ScopeMoreUptoSaid : Prop := scopeMoreUptoRow.holds Tryz.pinned (OpenSpec.upto scopeMoreSpec)

/-- 'linchpinlaw7.ScopeOrder', WHERE WHAT IT READS IS OF BULK AT MOST 1048576: true; the input reads as it did. -/
def scopeOrderUptoRow : OpenClaim := { program := "ytplmlahpmnjneaagreatdoor", sum := "5fb9a9583a0902c5f885dc98416ed864d7677583367cff57c8b6c8d9b8e820a9", func := "linchpin/linchpinlaw7.ScopeOrder", spec := "scopeOrder", inPlace := ["internal/bytealg.CountString", "internal/bytealg.IndexByteString", "internal/bytealg.IndexString", "internal/abi.NoEscape", "internal/bytealg.MakeNoZero"], unfollowed := true, recurses := true, named := ["unicode/utf8.first", "unicode/utf8.acceptRanges", "internal/bytealg.MaxLen", "internal/strconv.uint64pow10", "math/bits.deBruijn32tab", "math/bits.deBruijn64tab", "linchpin/set.first"], apart := false, laid := [("math/bits.deBruijn32tab", laid_math_bits_deBruijn32tab), ("math/bits.deBruijn64tab", laid_math_bits_deBruijn64tab), ("internal/strconv.uint64pow10", laid_internal_strconv_uint64pow10), ("unicode/utf8.acceptRanges", laid_unicode_utf8_acceptRanges), ("linchpin/set.first", laid_linchpin_set_first), ("unicode/utf8.first", laid_unicode_utf8_first)], narrowed := true }
def ScopeOrderUptoSaid : Prop := scopeOrderUptoRow.holds Tryz.pinned (OpenSpec.upto scopeOrderSpec)

/-- 'linchpinlaw7.ScopeParts', WHERE WHAT IT READS IS OF BULK AT MOST 1048576: true; the input reads as it did. -/
def scopePartsUptoRow : OpenClaim := { program := "ytplmlahpmnjneaagreatdoor", sum := "5fb9a9583a0902c5f885dc98416ed864d7677583367cff57c8b6c8d9b8e820a9", func := "linchpin/linchpinlaw7.ScopeParts", spec := "scopeParts", inPlace := ["internal/abi.NoEscape", "internal/bytealg.MakeNoZero", "internal/bytealg.CountString", "internal/bytealg.IndexByteString", "internal/bytealg.IndexString"], unfollowed := true, recurses := true, named := ["internal/strconv.uint64pow10", "math/bits.deBruijn32tab", "math/bits.deBruijn64tab", "unicode/utf8.first", "unicode/utf8.acceptRanges", "internal/bytealg.MaxLen", "linchpin/set.first"], apart := false, laid := [("math/bits.deBruijn32tab", laid_math_bits_deBruijn32tab), ("math/bits.deBruijn64tab", laid_math_bits_deBruijn64tab), ("internal/strconv.uint64pow10", laid_internal_strconv_uint64pow10), ("unicode/utf8.acceptRanges", laid_unicode_utf8_acceptRanges), ("linchpin/set.first", laid_linchpin_set_first), ("unicode/utf8.first", laid_unicode_utf8_first)], narrowed := true }
def ScopePartsUptoSaid : Prop := scopePartsUptoRow.holds Tryz.pinned (OpenSpec.upto scopePartsSpec)

/-- 'linchpinlaw7.ScopeEither', WHERE WHAT IT READS IS OF BULK AT MOST 1048576: true; the input reads as it did. -/
def scopeEitherUptoRow : OpenClaim := { program := "ytplmlahpmnjneaagreatdoor", sum := "5fb9a9583a0902c5f885dc98416ed864d7677583367cff57c8b6c8d9b8e820a9", func := "linchpin/linchpinlaw7.ScopeEither", spec := "scopeEither", inPlace := ["internal/bytealg.CountString", "internal/bytealg.IndexByteString", "internal/bytealg.IndexString", "internal/abi.NoEscape", "internal/bytealg.MakeNoZero"], unfollowed := true, recurses := true, named := ["unicode/utf8.first", "unicode/utf8.acceptRanges", "internal/bytealg.MaxLen", "internal/strconv.uint64pow10", "math/bits.deBruijn32tab", "math/bits.deBruijn64tab", "linchpin/set.first"], apart := false, laid := [("math/bits.deBruijn32tab", laid_math_bits_deBruijn32tab), ("math/bits.deBruijn64tab", laid_math_bits_deBruijn64tab), ("internal/strconv.uint64pow10", laid_internal_strconv_uint64pow10), ("unicode/utf8.acceptRanges", laid_unicode_utf8_acceptRanges), ("linchpin/set.first", laid_linchpin_set_first), ("unicode/utf8.first", laid_unicode_utf8_first)], narrowed := true }
def ScopeEitherUptoSaid : Prop := scopeEitherUptoRow.holds Tryz.pinned (OpenSpec.upto scopeEitherSpec)

/-- 'linchpinlaw8.TellScopes', WHERE WHAT IT READS IS OF BULK AT MOST 1048576: true; the input reads as it did. -/
def tellScopesUptoRow : OpenClaim := { program := "ytplmlahpmnjneaagreatdoor", sum := "5fb9a9583a0902c5f885dc98416ed864d7677583367cff57c8b6c8d9b8e820a9", func := "linchpin/linchpinlaw8.TellScopes", spec := "tellScopes", inPlace := ["internal/bytealg.IndexByteString", "internal/bytealg.IndexString", "internal/bytealg.CountString", "internal/abi.NoEscape", "internal/bytealg.MakeNoZero"], unfollowed := true, recurses := true, named := ["internal/bytealg.MaxLen", "unicode/utf8.first", "unicode/utf8.acceptRanges", "internal/strconv.uint64pow10", "math/bits.deBruijn32tab", "math/bits.deBruijn64tab", "linchpin/set.first"], apart := false, laid := [("math/bits.deBruijn32tab", laid_math_bits_deBruijn32tab), ("math/bits.deBruijn64tab", laid_math_bits_deBruijn64tab), ("internal/strconv.uint64pow10", laid_internal_strconv_uint64pow10), ("unicode/utf8.acceptRanges", laid_unicode_utf8_acceptRanges), ("linchpin/set.first", laid_linchpin_set_first), ("unicode/utf8.first", laid_unicode_utf8_first)], narrowed := true }
def TellScopesUptoSaid : Prop := tellScopesUptoRow.holds Tryz.pinned (OpenSpec.upto tellScopesSpec)

end Rows
end Go.Proofs.YtplmlahpmnjneaaGreatDoor
