/-
  NARROWER THAN 'FOR EVERY INPUT', by the rows' own cells (each row's printed sentence says how): TopFlush: laid · TopRetracts: laid · TopSaved: laid · RtiPlain: laid · RtiForms: laid · RtiNever: laid · RtiOnce: laid · RtiSaves: laid · RtiNumbers: laid · RtiRises: laid · RtiEarly: laid · RtiOutsiders: laid · SaveTexts: laid · SaveLoads: laid · RtiRows: laid · SaveGoes: laid · SaveChanged: laid · SaveOthers: laid · ConsoleSaves: laid · TopSays: laid.
  DERIVED. THE GIVEN ROWS OF THIS SEAT. 20 by the template 'for every input the law returns true; each argument reads behind the call as it read before'; 0 by the template 'total and deterministic' (their statements: YtehnkebcbomidaaGreatDoorTotals.lean).
  GIVEN WITH THE SEED: the statements are not yours to turn. If you find one false, say at which input.
  Laid BY PROGRAM, IN A SANDBOX (cutbox-rows.mjs): the forced cells as the released guide's own fill.sh prints them over the translation e91f41bda4e9c328… (all of the seat's roots in one cut). By AI agents, Wed Nov 11 2026. No macro, syntax, notation, axiom, sorry.
-/
import Derived.Test.YtehnkebcbomidaaGreatDoorChecked
import GoSem.PinnedTables
import GoSem.Claim
import GoSem.ClaimJoined
import GoSem.ClaimMapViews
import Derived.JoinedTies
import Derived.KernelRfl
namespace Go.Proofs.YtehnkebcbomidaaGreatDoor
/- THE CELL 'sum', in the pinned program and in every row, IS THE sha256 OF THE DUMP (.gsa) THAT YtehnkebcbomidaaGreatDoorProg.lean LOADS. Nothing in Lean hashes anything: it is a label: what it is worth is what the hold of that sum in a sandbox is worth. -/
noncomputable def Tryz.pinned : Pinned := { name := "ytehnkebcbomidaagreatdoor", sum := "e91f41bda4e9c3282217aa221ccb9a2f839198e4418e5bca518918ee89f87942", checked := Tryz.checked }
namespace Rows
def none {H : Type} : Left H := { results := [], args := [] }

/- WHAT THE LISTED PACKAGE-LEVEL VARIABLES READ AS WHEN THE CALL BEGINS. Each datum BY PROGRAM (the guide's laid-datum.mjs) off the statement by which the dump's own 'gosem.cut.vars' lays the variable. In a bare row this is a premise. The card (YtehnkebcbomidaaGreatDoorCards.lean) ties it to the program's text. -/
def laid_errors_errorType {H : Type} : DataW H := .iface "internal/reflectlite.rtype" (.agg [.ptr (.lit (.string [101, 114, 114, 111, 114]))])
def laid_math_bits_deBruijn32tab {H : Type} : DataW H := .agg [.lit (.int .u8 0), .lit (.int .u8 1), .lit (.int .u8 28), .lit (.int .u8 2), .lit (.int .u8 29), .lit (.int .u8 14), .lit (.int .u8 24), .lit (.int .u8 3), .lit (.int .u8 30), .lit (.int .u8 22), .lit (.int .u8 20), .lit (.int .u8 15), .lit (.int .u8 25), .lit (.int .u8 17), .lit (.int .u8 4), .lit (.int .u8 8), .lit (.int .u8 31), .lit (.int .u8 27), .lit (.int .u8 13), .lit (.int .u8 23), .lit (.int .u8 21), .lit (.int .u8 19), .lit (.int .u8 16), .lit (.int .u8 7), .lit (.int .u8 26), .lit (.int .u8 12), .lit (.int .u8 18), .lit (.int .u8 6), .lit (.int .u8 11), .lit (.int .u8 5), .lit (.int .u8 10), .lit (.int .u8 9)]
def laid_math_bits_deBruijn64tab {H : Type} : DataW H := .agg [.lit (.int .u8 0), .lit (.int .u8 1), .lit (.int .u8 56), .lit (.int .u8 2), .lit (.int .u8 57), .lit (.int .u8 49), .lit (.int .u8 28), .lit (.int .u8 3), .lit (.int .u8 61), .lit (.int .u8 58), .lit (.int .u8 42), .lit (.int .u8 50), .lit (.int .u8 38), .lit (.int .u8 29), .lit (.int .u8 17), .lit (.int .u8 4), .lit (.int .u8 62), .lit (.int .u8 47), .lit (.int .u8 59), .lit (.int .u8 36), .lit (.int .u8 45), .lit (.int .u8 43), .lit (.int .u8 51), .lit (.int .u8 22), .lit (.int .u8 53), .lit (.int .u8 39), .lit (.int .u8 33), .lit (.int .u8 30), .lit (.int .u8 24), .lit (.int .u8 18), .lit (.int .u8 12), .lit (.int .u8 5), .lit (.int .u8 63), .lit (.int .u8 55), .lit (.int .u8 48), .lit (.int .u8 27), .lit (.int .u8 60), .lit (.int .u8 41), .lit (.int .u8 37), .lit (.int .u8 16), .lit (.int .u8 46), .lit (.int .u8 35), .lit (.int .u8 44), .lit (.int .u8 21), .lit (.int .u8 52), .lit (.int .u8 32), .lit (.int .u8 23), .lit (.int .u8 11), .lit (.int .u8 54), .lit (.int .u8 26), .lit (.int .u8 40), .lit (.int .u8 15), .lit (.int .u8 34), .lit (.int .u8 20), .lit (.int .u8 31), .lit (.int .u8 10), .lit (.int .u8 25), .lit (.int .u8 14), .lit (.int .u8 19), .lit (.int .u8 9), .lit (.int .u8 13), .lit (.int .u8 8), .lit (.int .u8 7), .lit (.int .u8 6)]
def laid_internal_strconv_uint64pow10 {H : Type} : DataW H := .agg [.lit (.int .u64 1), .lit (.int .u64 10), .lit (.int .u64 100), .lit (.int .u64 1000), .lit (.int .u64 10000), .lit (.int .u64 100000), .lit (.int .u64 1000000), .lit (.int .u64 10000000), .lit (.int .u64 100000000), .lit (.int .u64 1000000000), .lit (.int .u64 10000000000), .lit (.int .u64 100000000000), .lit (.int .u64 1000000000000), .lit (.int .u64 10000000000000), .lit (.int .u64 100000000000000), .lit (.int .u64 1000000000000000), .lit (.int .u64 10000000000000000), .lit (.int .u64 100000000000000000), .lit (.int .u64 1000000000000000000), .lit (.int .u64 10000000000000000000)]
def laid_unicode_utf8_acceptRanges {H : Type} : DataW H := .agg [.agg [.lit (.int .u8 128), .lit (.int .u8 191)], .agg [.lit (.int .u8 160), .lit (.int .u8 191)], .agg [.lit (.int .u8 128), .lit (.int .u8 159)], .agg [.lit (.int .u8 144), .lit (.int .u8 191)], .agg [.lit (.int .u8 128), .lit (.int .u8 143)], .agg [.lit (.int .u8 0), .lit (.int .u8 0)], .agg [.lit (.int .u8 0), .lit (.int .u8 0)], .agg [.lit (.int .u8 0), .lit (.int .u8 0)], .agg [.lit (.int .u8 0), .lit (.int .u8 0)], .agg [.lit (.int .u8 0), .lit (.int .u8 0)], .agg [.lit (.int .u8 0), .lit (.int .u8 0)], .agg [.lit (.int .u8 0), .lit (.int .u8 0)], .agg [.lit (.int .u8 0), .lit (.int .u8 0)], .agg [.lit (.int .u8 0), .lit (.int .u8 0)], .agg [.lit (.int .u8 0), .lit (.int .u8 0)], .agg [.lit (.int .u8 0), .lit (.int .u8 0)]]
def laid_strconv_ErrRange {H : Type} : DataW H := .iface "*errors.errorString" (.ptr (.agg [.lit (.string [118, 97, 108, 117, 101, 32, 111, 117, 116, 32, 111, 102, 32, 114, 97, 110, 103, 101])]))
def laid_strconv_ErrSyntax {H : Type} : DataW H := .iface "*errors.errorString" (.ptr (.agg [.lit (.string [105, 110, 118, 97, 108, 105, 100, 32, 115, 121, 110, 116, 97, 120])]))
/-- One of Go's own tables, pinned by name: the form's constant. -/
def laid_unicode_utf8_first : DataW Unit := Go.Pinned.utf8First

/-- 'pacelinetop.TopFlush': WHATEVER THE INPUT: true; the input reads as it did. -/
def topFlushSpec : ChangeSpec := { name := "topFlush", fn := fun _ => fun
  | [d1, d2, d3] => { results := [.lit (.bool true)], args := [d1, d2, d3] }
  | _ => none }
def topFlushRow : OpenClaim := { program := "ytehnkebcbomidaagreatdoor", sum := "e91f41bda4e9c3282217aa221ccb9a2f839198e4418e5bca518918ee89f87942", func := "paceline/pacelinetop.TopFlush", spec := "topFlush", inPlace := ["internal/reflectlite.ValueOf", "(internal/reflectlite.Value).Type", "(internal/reflectlite.Value).IsNil", "internal/reflectlite.TypeOf", "(internal/reflectlite.Value).Elem", "(internal/reflectlite.Value).Set"], unfollowed := true, recurses := true, named := ["errors.errorType"], plainKeys := false, apart := false, laid := [("errors.errorType", laid_errors_errorType)] }
def TopFlushSaid : Prop := topFlushRow.holds Tryz.pinned (OpenSpec.ofChange topFlushSpec)

/-- ITS FALSE NEIGHBOUR: 'it returns false'. Refute it at one input. -/
def topFlushWrong : ChangeSpec := { name := "topFlush", fn := fun _ => fun
  | [d1, d2, d3] => { results := [.lit (.bool false)], args := [d1, d2, d3] }
  | _ => none }
def TopFlushWrongFalsely : Prop := topFlushRow.holds Tryz.pinned (OpenSpec.ofChange topFlushWrong)

/-- 'pacelinetop.TopRetracts': WHATEVER THE INPUT: true; the input reads as it did. -/
def topRetractsSpec : ChangeSpec := { name := "topRetracts", fn := fun _ => fun
  | [d1, d2, d3] => { results := [.lit (.bool true)], args := [d1, d2, d3] }
  | _ => none }
def topRetractsRow : OpenClaim := { program := "ytehnkebcbomidaagreatdoor", sum := "e91f41bda4e9c3282217aa221ccb9a2f839198e4418e5bca518918ee89f87942", func := "paceline/pacelinetop.TopRetracts", spec := "topRetracts", inPlace := ["internal/reflectlite.ValueOf", "(internal/reflectlite.Value).Type", "(internal/reflectlite.Value).IsNil", "internal/reflectlite.TypeOf", "(internal/reflectlite.Value).Elem", "(internal/reflectlite.Value).Set"], unfollowed := true, recurses := true, named := ["errors.errorType"], plainKeys := false, apart := false, laid := [("errors.errorType", laid_errors_errorType)] }
def TopRetractsSaid : Prop := topRetractsRow.holds Tryz.pinned (OpenSpec.ofChange topRetractsSpec)

/-- ITS FALSE NEIGHBOUR: 'it returns false'. Refute it at one input. -/
def topRetractsWrong : ChangeSpec := { name := "topRetracts", fn := fun _ => fun
  | [d1, d2, d3] => { results := [.lit (.bool false)], args := [d1, d2, d3] }
  | _ => none }
def TopRetractsWrongFalsely : Prop := topRetractsRow.holds Tryz.pinned (OpenSpec.ofChange topRetractsWrong)

/-- 'pacelinetop.TopSaved': WHATEVER THE INPUT: true; the input reads as it did. -/
def topSavedSpec : ChangeSpec := { name := "topSaved", fn := fun _ => fun
  | [d1, d2, d3, d4] => { results := [.lit (.bool true)], args := [d1, d2, d3, d4] }
  | _ => none }
def topSavedRow : OpenClaim := { program := "ytehnkebcbomidaagreatdoor", sum := "e91f41bda4e9c3282217aa221ccb9a2f839198e4418e5bca518918ee89f87942", func := "paceline/pacelinetop.TopSaved", spec := "topSaved", inPlace := ["internal/reflectlite.ValueOf", "(internal/reflectlite.Value).Type", "(internal/reflectlite.Value).IsNil", "internal/reflectlite.TypeOf", "(internal/reflectlite.Value).Elem", "(internal/reflectlite.Value).Set", "internal/abi.NoEscape", "internal/bytealg.IndexByteString", "internal/bytealg.CountString", "internal/bytealg.IndexString"], unfollowed := true, recurses := true, named := ["errors.errorType", "internal/strconv.uint64pow10", "math/bits.deBruijn32tab", "math/bits.deBruijn64tab", "unicode/utf8.first", "unicode/utf8.acceptRanges", "internal/bytealg.MaxLen", "strconv.ErrSyntax", "strconv.ErrRange"], plainKeys := false, apart := false, laid := [("math/bits.deBruijn32tab", laid_math_bits_deBruijn32tab), ("math/bits.deBruijn64tab", laid_math_bits_deBruijn64tab), ("internal/strconv.uint64pow10", laid_internal_strconv_uint64pow10), ("unicode/utf8.acceptRanges", laid_unicode_utf8_acceptRanges), ("errors.errorType", laid_errors_errorType), ("strconv.ErrRange", laid_strconv_ErrRange), ("strconv.ErrSyntax", laid_strconv_ErrSyntax), ("unicode/utf8.first", laid_unicode_utf8_first)] }
def TopSavedSaid : Prop := topSavedRow.holds Tryz.pinned (OpenSpec.ofChange topSavedSpec)

/-- ITS FALSE NEIGHBOUR: 'it returns false'. Refute it at one input. -/
def topSavedWrong : ChangeSpec := { name := "topSaved", fn := fun _ => fun
  | [d1, d2, d3, d4] => { results := [.lit (.bool false)], args := [d1, d2, d3, d4] }
  | _ => none }
def TopSavedWrongFalsely : Prop := topSavedRow.holds Tryz.pinned (OpenSpec.ofChange topSavedWrong)

/-- 'pacelinelaw20.RtiPlain': WHATEVER THE INPUT: true; the input reads as it did. -/
def rtiPlainSpec : ChangeSpec := { name := "rtiPlain", fn := fun _ => fun
  | [d1, d2] => { results := [.lit (.bool true)], args := [d1, d2] }
  | _ => none }
def rtiPlainRow : OpenClaim := { program := "ytehnkebcbomidaagreatdoor", sum := "e91f41bda4e9c3282217aa221ccb9a2f839198e4418e5bca518918ee89f87942", func := "paceline/pacelinelaw20.RtiPlain", spec := "rtiPlain", inPlace := ["internal/reflectlite.ValueOf", "(internal/reflectlite.Value).Type", "(internal/reflectlite.Value).IsNil", "internal/reflectlite.TypeOf", "(internal/reflectlite.Value).Elem", "(internal/reflectlite.Value).Set"], unfollowed := true, recurses := true, named := ["errors.errorType"], plainKeys := false, apart := false, laid := [("errors.errorType", laid_errors_errorType)] }
def RtiPlainSaid : Prop := rtiPlainRow.holds Tryz.pinned (OpenSpec.ofChange rtiPlainSpec)

/-- ITS FALSE NEIGHBOUR: 'it returns false'. Refute it at one input. -/
def rtiPlainWrong : ChangeSpec := { name := "rtiPlain", fn := fun _ => fun
  | [d1, d2] => { results := [.lit (.bool false)], args := [d1, d2] }
  | _ => none }
def RtiPlainWrongFalsely : Prop := rtiPlainRow.holds Tryz.pinned (OpenSpec.ofChange rtiPlainWrong)

/-- 'pacelinelaw20.RtiForms': WHATEVER THE INPUT: true; the input reads as it did. -/
def rtiFormsSpec : ChangeSpec := { name := "rtiForms", fn := fun _ => fun
  | [d] => { results := [.lit (.bool true)], args := [d] }
  | _ => none }
def rtiFormsRow : OpenClaim := { program := "ytehnkebcbomidaagreatdoor", sum := "e91f41bda4e9c3282217aa221ccb9a2f839198e4418e5bca518918ee89f87942", func := "paceline/pacelinelaw20.RtiForms", spec := "rtiForms", unfollowed := true, recurses := true, named := ["strconv.ErrSyntax", "strconv.ErrRange", "internal/strconv.uint64pow10", "math/bits.deBruijn32tab", "math/bits.deBruijn64tab"], plainKeys := false, apart := false, laid := [("math/bits.deBruijn32tab", laid_math_bits_deBruijn32tab), ("math/bits.deBruijn64tab", laid_math_bits_deBruijn64tab), ("internal/strconv.uint64pow10", laid_internal_strconv_uint64pow10), ("strconv.ErrRange", laid_strconv_ErrRange), ("strconv.ErrSyntax", laid_strconv_ErrSyntax)] }
def RtiFormsSaid : Prop := rtiFormsRow.holds Tryz.pinned (OpenSpec.ofChange rtiFormsSpec)

/-- ITS FALSE NEIGHBOUR: 'it returns false'. Refute it at one input. -/
def rtiFormsWrong : ChangeSpec := { name := "rtiForms", fn := fun _ => fun
  | [d] => { results := [.lit (.bool false)], args := [d] }
  | _ => none }
def RtiFormsWrongFalsely : Prop := rtiFormsRow.holds Tryz.pinned (OpenSpec.ofChange rtiFormsWrong)

/-- 'pacelinelaw20.RtiNever': WHATEVER THE INPUT: true; the input reads as it did. -/
def rtiNeverSpec : ChangeSpec := { name := "rtiNever", fn := fun _ => fun
  | [d] => { results := [.lit (.bool true)], args := [d] }
  | _ => none }
def rtiNeverRow : OpenClaim := { program := "ytehnkebcbomidaagreatdoor", sum := "e91f41bda4e9c3282217aa221ccb9a2f839198e4418e5bca518918ee89f87942", func := "paceline/pacelinelaw20.RtiNever", spec := "rtiNever", inPlace := ["internal/reflectlite.ValueOf", "(internal/reflectlite.Value).Type", "(internal/reflectlite.Value).IsNil", "internal/reflectlite.TypeOf", "(internal/reflectlite.Value).Elem", "(internal/reflectlite.Value).Set"], unfollowed := true, recurses := true, named := ["errors.errorType", "internal/strconv.uint64pow10", "math/bits.deBruijn32tab", "math/bits.deBruijn64tab"], plainKeys := false, apart := false, laid := [("math/bits.deBruijn32tab", laid_math_bits_deBruijn32tab), ("math/bits.deBruijn64tab", laid_math_bits_deBruijn64tab), ("internal/strconv.uint64pow10", laid_internal_strconv_uint64pow10), ("errors.errorType", laid_errors_errorType)] }
def RtiNeverSaid : Prop := rtiNeverRow.holds Tryz.pinned (OpenSpec.ofChange rtiNeverSpec)

/-- ITS FALSE NEIGHBOUR: 'it returns false'. Refute it at one input. -/
def rtiNeverWrong : ChangeSpec := { name := "rtiNever", fn := fun _ => fun
  | [d] => { results := [.lit (.bool false)], args := [d] }
  | _ => none }
def RtiNeverWrongFalsely : Prop := rtiNeverRow.holds Tryz.pinned (OpenSpec.ofChange rtiNeverWrong)

/-- 'pacelinelaw20.RtiOnce': WHATEVER THE INPUT: true; the input reads as it did. -/
def rtiOnceSpec : ChangeSpec := { name := "rtiOnce", fn := fun _ => fun
  | [d] => { results := [.lit (.bool true)], args := [d] }
  | _ => none }
def rtiOnceRow : OpenClaim := { program := "ytehnkebcbomidaagreatdoor", sum := "e91f41bda4e9c3282217aa221ccb9a2f839198e4418e5bca518918ee89f87942", func := "paceline/pacelinelaw20.RtiOnce", spec := "rtiOnce", inPlace := ["internal/reflectlite.ValueOf", "(internal/reflectlite.Value).Type", "(internal/reflectlite.Value).IsNil", "internal/reflectlite.TypeOf", "(internal/reflectlite.Value).Elem", "(internal/reflectlite.Value).Set"], unfollowed := true, recurses := true, named := ["errors.errorType", "internal/strconv.uint64pow10", "math/bits.deBruijn32tab", "math/bits.deBruijn64tab"], plainKeys := false, apart := false, laid := [("math/bits.deBruijn32tab", laid_math_bits_deBruijn32tab), ("math/bits.deBruijn64tab", laid_math_bits_deBruijn64tab), ("internal/strconv.uint64pow10", laid_internal_strconv_uint64pow10), ("errors.errorType", laid_errors_errorType)] }
def RtiOnceSaid : Prop := rtiOnceRow.holds Tryz.pinned (OpenSpec.ofChange rtiOnceSpec)

/-- ITS FALSE NEIGHBOUR: 'it returns false'. Refute it at one input. -/
def rtiOnceWrong : ChangeSpec := { name := "rtiOnce", fn := fun _ => fun
  | [d] => { results := [.lit (.bool false)], args := [d] }
  | _ => none }
def RtiOnceWrongFalsely : Prop := rtiOnceRow.holds Tryz.pinned (OpenSpec.ofChange rtiOnceWrong)

/-- 'pacelinelaw20.RtiSaves': WHATEVER THE INPUT: true; the input reads as it did. -/
def rtiSavesSpec : ChangeSpec := { name := "rtiSaves", fn := fun _ => fun
  | [d1, d2] => { results := [.lit (.bool true)], args := [d1, d2] }
  | _ => none }
def rtiSavesRow : OpenClaim := { program := "ytehnkebcbomidaagreatdoor", sum := "e91f41bda4e9c3282217aa221ccb9a2f839198e4418e5bca518918ee89f87942", func := "paceline/pacelinelaw20.RtiSaves", spec := "rtiSaves", inPlace := ["internal/reflectlite.ValueOf", "(internal/reflectlite.Value).Type", "(internal/reflectlite.Value).IsNil", "internal/reflectlite.TypeOf", "(internal/reflectlite.Value).Elem", "(internal/reflectlite.Value).Set"], unfollowed := true, recurses := true, named := ["errors.errorType", "internal/strconv.uint64pow10", "math/bits.deBruijn32tab", "math/bits.deBruijn64tab"], plainKeys := false, apart := false, laid := [("math/bits.deBruijn32tab", laid_math_bits_deBruijn32tab), ("math/bits.deBruijn64tab", laid_math_bits_deBruijn64tab), ("internal/strconv.uint64pow10", laid_internal_strconv_uint64pow10), ("errors.errorType", laid_errors_errorType)] }
def RtiSavesSaid : Prop := rtiSavesRow.holds Tryz.pinned (OpenSpec.ofChange rtiSavesSpec)

/-- ITS FALSE NEIGHBOUR: 'it returns false'. Refute it at one input. -/
def rtiSavesWrong : ChangeSpec := { name := "rtiSaves", fn := fun _ => fun
  | [d1, d2] => { results := [.lit (.bool false)], args := [d1, d2] }
  | _ => none }
def RtiSavesWrongFalsely : Prop := rtiSavesRow.holds Tryz.pinned (OpenSpec.ofChange rtiSavesWrong)

/-- 'pacelinelaw20.RtiNumbers': WHATEVER THE INPUT: true; the input reads as it did. -/
def rtiNumbersSpec : ChangeSpec := { name := "rtiNumbers", fn := fun _ => fun
  | [d] => { results := [.lit (.bool true)], args := [d] }
  | _ => none }
def rtiNumbersRow : OpenClaim := { program := "ytehnkebcbomidaagreatdoor", sum := "e91f41bda4e9c3282217aa221ccb9a2f839198e4418e5bca518918ee89f87942", func := "paceline/pacelinelaw20.RtiNumbers", spec := "rtiNumbers", inPlace := ["internal/reflectlite.ValueOf", "(internal/reflectlite.Value).Type", "(internal/reflectlite.Value).IsNil", "internal/reflectlite.TypeOf", "(internal/reflectlite.Value).Elem", "(internal/reflectlite.Value).Set"], unfollowed := true, recurses := true, named := ["errors.errorType", "internal/strconv.uint64pow10", "math/bits.deBruijn32tab", "math/bits.deBruijn64tab"], plainKeys := false, apart := false, laid := [("math/bits.deBruijn32tab", laid_math_bits_deBruijn32tab), ("math/bits.deBruijn64tab", laid_math_bits_deBruijn64tab), ("internal/strconv.uint64pow10", laid_internal_strconv_uint64pow10), ("errors.errorType", laid_errors_errorType)] }
def RtiNumbersSaid : Prop := rtiNumbersRow.holds Tryz.pinned (OpenSpec.ofChange rtiNumbersSpec)

/-- ITS FALSE NEIGHBOUR: 'it returns false'. Refute it at one input. -/
def rtiNumbersWrong : ChangeSpec := { name := "rtiNumbers", fn := fun _ => fun
  | [d] => { results := [.lit (.bool false)], args := [d] }
  | _ => none }
def RtiNumbersWrongFalsely : Prop := rtiNumbersRow.holds Tryz.pinned (OpenSpec.ofChange rtiNumbersWrong)

/-- 'pacelinelaw20.RtiRises': WHATEVER THE INPUT: true; the input reads as it did. -/
def rtiRisesSpec : ChangeSpec := { name := "rtiRises", fn := fun _ => fun
  | [d] => { results := [.lit (.bool true)], args := [d] }
  | _ => none }
def rtiRisesRow : OpenClaim := { program := "ytehnkebcbomidaagreatdoor", sum := "e91f41bda4e9c3282217aa221ccb9a2f839198e4418e5bca518918ee89f87942", func := "paceline/pacelinelaw20.RtiRises", spec := "rtiRises", inPlace := ["internal/reflectlite.ValueOf", "(internal/reflectlite.Value).Type", "(internal/reflectlite.Value).IsNil", "internal/reflectlite.TypeOf", "(internal/reflectlite.Value).Elem", "(internal/reflectlite.Value).Set"], unfollowed := true, recurses := true, named := ["errors.errorType", "internal/strconv.uint64pow10", "math/bits.deBruijn32tab", "math/bits.deBruijn64tab"], plainKeys := false, apart := false, laid := [("math/bits.deBruijn32tab", laid_math_bits_deBruijn32tab), ("math/bits.deBruijn64tab", laid_math_bits_deBruijn64tab), ("internal/strconv.uint64pow10", laid_internal_strconv_uint64pow10), ("errors.errorType", laid_errors_errorType)] }
def RtiRisesSaid : Prop := rtiRisesRow.holds Tryz.pinned (OpenSpec.ofChange rtiRisesSpec)

/-- ITS FALSE NEIGHBOUR: 'it returns false'. Refute it at one input. -/
def rtiRisesWrong : ChangeSpec := { name := "rtiRises", fn := fun _ => fun
  | [d] => { results := [.lit (.bool false)], args := [d] }
  | _ => none }
def RtiRisesWrongFalsely : Prop := rtiRisesRow.holds Tryz.pinned (OpenSpec.ofChange rtiRisesWrong)

/-- 'pacelinelaw20.RtiEarly': WHATEVER THE INPUT: true; the input reads as it did. -/
def rtiEarlySpec : ChangeSpec := { name := "rtiEarly", fn := fun _ => fun
  | [d] => { results := [.lit (.bool true)], args := [d] }
  | _ => none }
def rtiEarlyRow : OpenClaim := { program := "ytehnkebcbomidaagreatdoor", sum := "e91f41bda4e9c3282217aa221ccb9a2f839198e4418e5bca518918ee89f87942", func := "paceline/pacelinelaw20.RtiEarly", spec := "rtiEarly", inPlace := ["internal/reflectlite.ValueOf", "(internal/reflectlite.Value).Type", "(internal/reflectlite.Value).IsNil", "internal/reflectlite.TypeOf", "(internal/reflectlite.Value).Elem", "(internal/reflectlite.Value).Set"], unfollowed := true, recurses := true, named := ["errors.errorType", "internal/strconv.uint64pow10", "math/bits.deBruijn32tab", "math/bits.deBruijn64tab"], plainKeys := false, apart := false, laid := [("math/bits.deBruijn32tab", laid_math_bits_deBruijn32tab), ("math/bits.deBruijn64tab", laid_math_bits_deBruijn64tab), ("internal/strconv.uint64pow10", laid_internal_strconv_uint64pow10), ("errors.errorType", laid_errors_errorType)] }
def RtiEarlySaid : Prop := rtiEarlyRow.holds Tryz.pinned (OpenSpec.ofChange rtiEarlySpec)

/-- ITS FALSE NEIGHBOUR: 'it returns false'. Refute it at one input. -/
def rtiEarlyWrong : ChangeSpec := { name := "rtiEarly", fn := fun _ => fun
  | [d] => { results := [.lit (.bool false)], args := [d] }
  | _ => none }
def RtiEarlyWrongFalsely : Prop := rtiEarlyRow.holds Tryz.pinned (OpenSpec.ofChange rtiEarlyWrong)

/-- 'pacelinelaw20.RtiOutsiders': WHATEVER THE INPUT: true; the input reads as it did. -/
def rtiOutsidersSpec : ChangeSpec := { name := "rtiOutsiders", fn := fun _ => fun
  | [d1, d2, d3] => { results := [.lit (.bool true)], args := [d1, d2, d3] }
  | _ => none }
def rtiOutsidersRow : OpenClaim := { program := "ytehnkebcbomidaagreatdoor", sum := "e91f41bda4e9c3282217aa221ccb9a2f839198e4418e5bca518918ee89f87942", func := "paceline/pacelinelaw20.RtiOutsiders", spec := "rtiOutsiders", inPlace := ["internal/reflectlite.ValueOf", "(internal/reflectlite.Value).Type", "(internal/reflectlite.Value).IsNil", "internal/reflectlite.TypeOf", "(internal/reflectlite.Value).Elem", "(internal/reflectlite.Value).Set"], unfollowed := true, recurses := true, named := ["errors.errorType", "internal/strconv.uint64pow10", "math/bits.deBruijn32tab", "math/bits.deBruijn64tab"], plainKeys := false, apart := false, laid := [("math/bits.deBruijn32tab", laid_math_bits_deBruijn32tab), ("math/bits.deBruijn64tab", laid_math_bits_deBruijn64tab), ("internal/strconv.uint64pow10", laid_internal_strconv_uint64pow10), ("errors.errorType", laid_errors_errorType)] }
def RtiOutsidersSaid : Prop := rtiOutsidersRow.holds Tryz.pinned (OpenSpec.ofChange rtiOutsidersSpec)

/-- ITS FALSE NEIGHBOUR: 'it returns false'. Refute it at one input. -/
def rtiOutsidersWrong : ChangeSpec := { name := "rtiOutsiders", fn := fun _ => fun
  | [d1, d2, d3] => { results := [.lit (.bool false)], args := [d1, d2, d3] }
  | _ => none }
def RtiOutsidersWrongFalsely : Prop := rtiOutsidersRow.holds Tryz.pinned (OpenSpec.ofChange rtiOutsidersWrong)

/-- 'pacelinelaw21.SaveTexts': WHATEVER THE INPUT: true; the input reads as it did. -/
def saveTextsSpec : ChangeSpec := { name := "saveTexts", fn := fun _ => fun
  | [d] => { results := [.lit (.bool true)], args := [d] }
  | _ => none }
def saveTextsRow : OpenClaim := { program := "ytehnkebcbomidaagreatdoor", sum := "e91f41bda4e9c3282217aa221ccb9a2f839198e4418e5bca518918ee89f87942", func := "paceline/pacelinelaw21.SaveTexts", spec := "saveTexts", inPlace := ["internal/reflectlite.ValueOf", "(internal/reflectlite.Value).Type", "(internal/reflectlite.Value).IsNil", "internal/reflectlite.TypeOf", "(internal/reflectlite.Value).Elem", "(internal/reflectlite.Value).Set", "internal/abi.NoEscape"], unfollowed := true, recurses := true, named := ["errors.errorType", "internal/strconv.uint64pow10", "math/bits.deBruijn32tab", "math/bits.deBruijn64tab"], plainKeys := false, apart := false, laid := [("math/bits.deBruijn32tab", laid_math_bits_deBruijn32tab), ("math/bits.deBruijn64tab", laid_math_bits_deBruijn64tab), ("internal/strconv.uint64pow10", laid_internal_strconv_uint64pow10), ("errors.errorType", laid_errors_errorType)] }
def SaveTextsSaid : Prop := saveTextsRow.holds Tryz.pinned (OpenSpec.ofChange saveTextsSpec)

/-- ITS FALSE NEIGHBOUR: 'it returns false'. Refute it at one input. -/
def saveTextsWrong : ChangeSpec := { name := "saveTexts", fn := fun _ => fun
  | [d] => { results := [.lit (.bool false)], args := [d] }
  | _ => none }
def SaveTextsWrongFalsely : Prop := saveTextsRow.holds Tryz.pinned (OpenSpec.ofChange saveTextsWrong)

/-- 'pacelinelaw21.SaveLoads': WHATEVER THE INPUT: true; the input reads as it did. -/
def saveLoadsSpec : ChangeSpec := { name := "saveLoads", fn := fun _ => fun
  | [d] => { results := [.lit (.bool true)], args := [d] }
  | _ => none }
def saveLoadsRow : OpenClaim := { program := "ytehnkebcbomidaagreatdoor", sum := "e91f41bda4e9c3282217aa221ccb9a2f839198e4418e5bca518918ee89f87942", func := "paceline/pacelinelaw21.SaveLoads", spec := "saveLoads", inPlace := ["internal/bytealg.IndexByteString", "internal/bytealg.CountString", "internal/bytealg.IndexString", "internal/abi.NoEscape", "internal/reflectlite.ValueOf", "(internal/reflectlite.Value).Type", "(internal/reflectlite.Value).IsNil", "internal/reflectlite.TypeOf", "(internal/reflectlite.Value).Elem", "(internal/reflectlite.Value).Set"], unfollowed := true, recurses := true, named := ["unicode/utf8.first", "unicode/utf8.acceptRanges", "internal/bytealg.MaxLen", "errors.errorType", "strconv.ErrSyntax", "strconv.ErrRange", "internal/strconv.uint64pow10", "math/bits.deBruijn32tab", "math/bits.deBruijn64tab"], plainKeys := false, apart := false, laid := [("math/bits.deBruijn32tab", laid_math_bits_deBruijn32tab), ("math/bits.deBruijn64tab", laid_math_bits_deBruijn64tab), ("internal/strconv.uint64pow10", laid_internal_strconv_uint64pow10), ("unicode/utf8.acceptRanges", laid_unicode_utf8_acceptRanges), ("errors.errorType", laid_errors_errorType), ("strconv.ErrRange", laid_strconv_ErrRange), ("strconv.ErrSyntax", laid_strconv_ErrSyntax), ("unicode/utf8.first", laid_unicode_utf8_first)] }
def SaveLoadsSaid : Prop := saveLoadsRow.holds Tryz.pinned (OpenSpec.ofChange saveLoadsSpec)

/-- ITS FALSE NEIGHBOUR: 'it returns false'. Refute it at one input. -/
def saveLoadsWrong : ChangeSpec := { name := "saveLoads", fn := fun _ => fun
  | [d] => { results := [.lit (.bool false)], args := [d] }
  | _ => none }
def SaveLoadsWrongFalsely : Prop := saveLoadsRow.holds Tryz.pinned (OpenSpec.ofChange saveLoadsWrong)

/-- 'pacelinelaw20.RtiRows': WHATEVER THE INPUT: true; the input reads as it did. -/
def rtiRowsSpec : ChangeSpec := { name := "rtiRows", fn := fun _ => fun
  | [d1, d2] => { results := [.lit (.bool true)], args := [d1, d2] }
  | _ => none }
def rtiRowsRow : OpenClaim := { program := "ytehnkebcbomidaagreatdoor", sum := "e91f41bda4e9c3282217aa221ccb9a2f839198e4418e5bca518918ee89f87942", func := "paceline/pacelinelaw20.RtiRows", spec := "rtiRows", inPlace := ["internal/reflectlite.ValueOf", "(internal/reflectlite.Value).Type", "(internal/reflectlite.Value).IsNil", "internal/reflectlite.TypeOf", "(internal/reflectlite.Value).Elem", "(internal/reflectlite.Value).Set"], unfollowed := true, recurses := true, named := ["errors.errorType", "internal/strconv.uint64pow10", "math/bits.deBruijn32tab", "math/bits.deBruijn64tab", "strconv.ErrSyntax", "strconv.ErrRange"], plainKeys := false, apart := false, laid := [("math/bits.deBruijn32tab", laid_math_bits_deBruijn32tab), ("math/bits.deBruijn64tab", laid_math_bits_deBruijn64tab), ("internal/strconv.uint64pow10", laid_internal_strconv_uint64pow10), ("errors.errorType", laid_errors_errorType), ("strconv.ErrRange", laid_strconv_ErrRange), ("strconv.ErrSyntax", laid_strconv_ErrSyntax)] }
def RtiRowsSaid : Prop := rtiRowsRow.holds Tryz.pinned (OpenSpec.ofChange rtiRowsSpec)

/-- ITS FALSE NEIGHBOUR: 'it returns false'. Refute it at one input. -/
def rtiRowsWrong : ChangeSpec := { name := "rtiRows", fn := fun _ => fun
  | [d1, d2] => { results := [.lit (.bool false)], args := [d1, d2] }
  | _ => none }
def RtiRowsWrongFalsely : Prop := rtiRowsRow.holds Tryz.pinned (OpenSpec.ofChange rtiRowsWrong)

/-- 'pacelinelaw21.SaveGoes': WHATEVER THE INPUT: true; the input reads as it did. -/
def saveGoesSpec : ChangeSpec := { name := "saveGoes", fn := fun _ => fun
  | [d1, d2] => { results := [.lit (.bool true)], args := [d1, d2] }
  | _ => none }
def saveGoesRow : OpenClaim := { program := "ytehnkebcbomidaagreatdoor", sum := "e91f41bda4e9c3282217aa221ccb9a2f839198e4418e5bca518918ee89f87942", func := "paceline/pacelinelaw21.SaveGoes", spec := "saveGoes", inPlace := ["internal/reflectlite.ValueOf", "(internal/reflectlite.Value).Type", "(internal/reflectlite.Value).IsNil", "internal/reflectlite.TypeOf", "(internal/reflectlite.Value).Elem", "(internal/reflectlite.Value).Set", "internal/abi.NoEscape", "internal/bytealg.IndexByteString", "internal/bytealg.CountString", "internal/bytealg.IndexString"], unfollowed := true, recurses := true, named := ["errors.errorType", "internal/strconv.uint64pow10", "math/bits.deBruijn32tab", "math/bits.deBruijn64tab", "unicode/utf8.first", "unicode/utf8.acceptRanges", "internal/bytealg.MaxLen", "strconv.ErrSyntax", "strconv.ErrRange"], plainKeys := false, apart := false, laid := [("math/bits.deBruijn32tab", laid_math_bits_deBruijn32tab), ("math/bits.deBruijn64tab", laid_math_bits_deBruijn64tab), ("internal/strconv.uint64pow10", laid_internal_strconv_uint64pow10), ("unicode/utf8.acceptRanges", laid_unicode_utf8_acceptRanges), ("errors.errorType", laid_errors_errorType), ("strconv.ErrRange", laid_strconv_ErrRange), ("strconv.ErrSyntax", laid_strconv_ErrSyntax), ("unicode/utf8.first", laid_unicode_utf8_first)] }
def SaveGoesSaid : Prop := saveGoesRow.holds Tryz.pinned (OpenSpec.ofChange saveGoesSpec)

/-- ITS FALSE NEIGHBOUR: 'it returns false'. Refute it at one input. -/
def saveGoesWrong : ChangeSpec := { name := "saveGoes", fn := fun _ => fun
  | [d1, d2] => { results := [.lit (.bool false)], args := [d1, d2] }
  | _ => none }
def SaveGoesWrongFalsely : Prop := saveGoesRow.holds Tryz.pinned (OpenSpec.ofChange saveGoesWrong)

/-- 'pacelinelaw21.SaveChanged': WHATEVER THE INPUT: true; the input reads as it did. -/
def saveChangedSpec : ChangeSpec := { name := "saveChanged", fn := fun _ => fun
  | [d1, d2, d3] => { results := [.lit (.bool true)], args := [d1, d2, d3] }
  | _ => none }
def saveChangedRow : OpenClaim := { program := "ytehnkebcbomidaagreatdoor", sum := "e91f41bda4e9c3282217aa221ccb9a2f839198e4418e5bca518918ee89f87942", func := "paceline/pacelinelaw21.SaveChanged", spec := "saveChanged", inPlace := ["internal/reflectlite.ValueOf", "(internal/reflectlite.Value).Type", "(internal/reflectlite.Value).IsNil", "internal/reflectlite.TypeOf", "(internal/reflectlite.Value).Elem", "(internal/reflectlite.Value).Set", "internal/abi.NoEscape", "internal/bytealg.IndexByteString", "internal/bytealg.CountString", "internal/bytealg.IndexString"], unfollowed := true, recurses := true, named := ["errors.errorType", "internal/strconv.uint64pow10", "math/bits.deBruijn32tab", "math/bits.deBruijn64tab", "unicode/utf8.first", "unicode/utf8.acceptRanges", "internal/bytealg.MaxLen", "strconv.ErrSyntax", "strconv.ErrRange"], plainKeys := false, apart := false, laid := [("math/bits.deBruijn32tab", laid_math_bits_deBruijn32tab), ("math/bits.deBruijn64tab", laid_math_bits_deBruijn64tab), ("internal/strconv.uint64pow10", laid_internal_strconv_uint64pow10), ("unicode/utf8.acceptRanges", laid_unicode_utf8_acceptRanges), ("errors.errorType", laid_errors_errorType), ("strconv.ErrRange", laid_strconv_ErrRange), ("strconv.ErrSyntax", laid_strconv_ErrSyntax), ("unicode/utf8.first", laid_unicode_utf8_first)] }
def SaveChangedSaid : Prop := saveChangedRow.holds Tryz.pinned (OpenSpec.ofChange saveChangedSpec)

/-- ITS FALSE NEIGHBOUR: 'it returns false'. Refute it at one input. -/
def saveChangedWrong : ChangeSpec := { name := "saveChanged", fn := fun _ => fun
  | [d1, d2, d3] => { results := [.lit (.bool false)], args := [d1, d2, d3] }
  | _ => none }
def SaveChangedWrongFalsely : Prop := saveChangedRow.holds Tryz.pinned (OpenSpec.ofChange saveChangedWrong)

/-- 'pacelinelaw21.SaveOthers': WHATEVER THE INPUT: true; the input reads as it did. -/
def saveOthersSpec : ChangeSpec := { name := "saveOthers", fn := fun _ => fun
  | [d1, d2] => { results := [.lit (.bool true)], args := [d1, d2] }
  | _ => none }
def saveOthersRow : OpenClaim := { program := "ytehnkebcbomidaagreatdoor", sum := "e91f41bda4e9c3282217aa221ccb9a2f839198e4418e5bca518918ee89f87942", func := "paceline/pacelinelaw21.SaveOthers", spec := "saveOthers", inPlace := ["internal/reflectlite.ValueOf", "(internal/reflectlite.Value).Type", "(internal/reflectlite.Value).IsNil", "internal/reflectlite.TypeOf", "(internal/reflectlite.Value).Elem", "(internal/reflectlite.Value).Set", "internal/abi.NoEscape", "internal/bytealg.IndexByteString", "internal/bytealg.CountString", "internal/bytealg.IndexString"], unfollowed := true, recurses := true, named := ["errors.errorType", "internal/strconv.uint64pow10", "math/bits.deBruijn32tab", "math/bits.deBruijn64tab", "unicode/utf8.first", "unicode/utf8.acceptRanges", "internal/bytealg.MaxLen", "strconv.ErrSyntax", "strconv.ErrRange"], plainKeys := false, apart := false, laid := [("math/bits.deBruijn32tab", laid_math_bits_deBruijn32tab), ("math/bits.deBruijn64tab", laid_math_bits_deBruijn64tab), ("internal/strconv.uint64pow10", laid_internal_strconv_uint64pow10), ("unicode/utf8.acceptRanges", laid_unicode_utf8_acceptRanges), ("errors.errorType", laid_errors_errorType), ("strconv.ErrRange", laid_strconv_ErrRange), ("strconv.ErrSyntax", laid_strconv_ErrSyntax), ("unicode/utf8.first", laid_unicode_utf8_first)] }
def SaveOthersSaid : Prop := saveOthersRow.holds Tryz.pinned (OpenSpec.ofChange saveOthersSpec)

/-- ITS FALSE NEIGHBOUR: 'it returns false'. Refute it at one input. -/
def saveOthersWrong : ChangeSpec := { name := "saveOthers", fn := fun _ => fun
  | [d1, d2] => { results := [.lit (.bool false)], args := [d1, d2] }
  | _ => none }
def SaveOthersWrongFalsely : Prop := saveOthersRow.holds Tryz.pinned (OpenSpec.ofChange saveOthersWrong)

/-- 'pacelinelaw22.ConsoleSaves': WHATEVER THE INPUT: true; the input reads as it did. -/
def consoleSavesSpec : ChangeSpec := { name := "consoleSaves", fn := fun _ => fun
  | [d1, d2] => { results := [.lit (.bool true)], args := [d1, d2] }
  | _ => none }
def consoleSavesRow : OpenClaim := { program := "ytehnkebcbomidaagreatdoor", sum := "e91f41bda4e9c3282217aa221ccb9a2f839198e4418e5bca518918ee89f87942", func := "paceline/pacelinelaw22.ConsoleSaves", spec := "consoleSaves", inPlace := ["internal/bytealg.IndexByteString", "internal/bytealg.CountString", "internal/bytealg.IndexString", "internal/abi.NoEscape", "internal/reflectlite.ValueOf", "(internal/reflectlite.Value).Type", "(internal/reflectlite.Value).IsNil", "internal/reflectlite.TypeOf", "(internal/reflectlite.Value).Elem", "(internal/reflectlite.Value).Set", "internal/bytealg.MakeNoZero"], unfollowed := true, recurses := true, named := ["unicode/utf8.first", "unicode/utf8.acceptRanges", "internal/bytealg.MaxLen", "strconv.ErrSyntax", "strconv.ErrRange", "internal/strconv.uint64pow10", "math/bits.deBruijn32tab", "math/bits.deBruijn64tab", "errors.errorType"], plainKeys := false, apart := false, laid := [("math/bits.deBruijn32tab", laid_math_bits_deBruijn32tab), ("math/bits.deBruijn64tab", laid_math_bits_deBruijn64tab), ("internal/strconv.uint64pow10", laid_internal_strconv_uint64pow10), ("unicode/utf8.acceptRanges", laid_unicode_utf8_acceptRanges), ("errors.errorType", laid_errors_errorType), ("strconv.ErrRange", laid_strconv_ErrRange), ("strconv.ErrSyntax", laid_strconv_ErrSyntax), ("unicode/utf8.first", laid_unicode_utf8_first)] }
def ConsoleSavesSaid : Prop := consoleSavesRow.holds Tryz.pinned (OpenSpec.ofChange consoleSavesSpec)

/-- ITS FALSE NEIGHBOUR: 'it returns false'. Refute it at one input. -/
def consoleSavesWrong : ChangeSpec := { name := "consoleSaves", fn := fun _ => fun
  | [d1, d2] => { results := [.lit (.bool false)], args := [d1, d2] }
  | _ => none }
def ConsoleSavesWrongFalsely : Prop := consoleSavesRow.holds Tryz.pinned (OpenSpec.ofChange consoleSavesWrong)

/-- 'pacelinetop.TopSays': WHATEVER THE INPUT: true; the input reads as it did. -/
def topSaysSpec : ChangeSpec := { name := "topSays", fn := fun _ => fun
  | [d1, d2, d3] => { results := [.lit (.bool true)], args := [d1, d2, d3] }
  | _ => none }
def topSaysRow : OpenClaim := { program := "ytehnkebcbomidaagreatdoor", sum := "e91f41bda4e9c3282217aa221ccb9a2f839198e4418e5bca518918ee89f87942", func := "paceline/pacelinetop.TopSays", spec := "topSays", inPlace := ["internal/bytealg.IndexByteString", "internal/bytealg.CountString", "internal/bytealg.IndexString", "internal/abi.NoEscape", "internal/reflectlite.ValueOf", "(internal/reflectlite.Value).Type", "(internal/reflectlite.Value).IsNil", "internal/reflectlite.TypeOf", "(internal/reflectlite.Value).Elem", "(internal/reflectlite.Value).Set", "internal/bytealg.MakeNoZero"], unfollowed := true, recurses := true, named := ["internal/strconv.uint64pow10", "math/bits.deBruijn32tab", "math/bits.deBruijn64tab", "unicode/utf8.first", "unicode/utf8.acceptRanges", "internal/bytealg.MaxLen", "strconv.ErrSyntax", "strconv.ErrRange", "errors.errorType"], plainKeys := false, apart := false, laid := [("math/bits.deBruijn32tab", laid_math_bits_deBruijn32tab), ("math/bits.deBruijn64tab", laid_math_bits_deBruijn64tab), ("internal/strconv.uint64pow10", laid_internal_strconv_uint64pow10), ("unicode/utf8.acceptRanges", laid_unicode_utf8_acceptRanges), ("errors.errorType", laid_errors_errorType), ("strconv.ErrRange", laid_strconv_ErrRange), ("strconv.ErrSyntax", laid_strconv_ErrSyntax), ("unicode/utf8.first", laid_unicode_utf8_first)] }
def TopSaysSaid : Prop := topSaysRow.holds Tryz.pinned (OpenSpec.ofChange topSaysSpec)

/-- ITS FALSE NEIGHBOUR: 'it returns false'. Refute it at one input. -/
def topSaysWrong : ChangeSpec := { name := "topSays", fn := fun _ => fun
  | [d1, d2, d3] => { results := [.lit (.bool false)], args := [d1, d2, d3] }
  | _ => none }
def TopSaysWrongFalsely : Prop := topSaysRow.holds Tryz.pinned (OpenSpec.ofChange topSaysWrong)

/- THE SECOND FORM. 'bulk': how many values and letters a reading holds, each counted each time it is reached (what is shared counts as often as it is met; a slice's spare places count too). A statement '..UptoSaid' is the law's where the arguments, and the package variables that the reading takes, are together of bulk at most 1048576: NARROWER than '..Said'. Prove '..Said' where nothing that the law and all that it calls make is longer than what came in: it says more and counts as full. Else prove '..UptoSaid'. A law counts once. -/
mutual
def uptoBulk {H : Type} : DataW H → Nat
  | .lit (.string bytes) => bytes.length + 1
  | .lit _ => 1
  | .nil => 1
  | .ptr d => uptoBulk d + 1
  | .slice elems spare => uptoBulkAll elems + uptoBulkAll spare + 1
  | .agg parts => uptoBulkAll parts + 1
  | .iface _ d => uptoBulk d + 1
  | .map entries => uptoBulkEntries entries + 1
  | .held _ => 1
def uptoBulkAll {H : Type} : List (DataW H) → Nat
  | [] => 0
  | d :: r => uptoBulk d + uptoBulkAll r
def uptoBulkEntries {H : Type} : List (Lit × DataW H) → Nat
  | [] => 0
  | x :: r => uptoBulkEntry x + uptoBulkEntries r
def uptoBulkEntry {H : Type} : Lit × DataW H → Nat
  | (.string bytes, d) => bytes.length + uptoBulk d + 1
  | (_, d) => uptoBulk d + 1
 end
def uptoSmall : (H : Type) → List (DataW H) → Bool := fun _ ds => decide (uptoBulkAll ds ≤ 1048576)
def OpenSpec.upto (s : _root_.Go.ChangeSpec) : _root_.Go.OpenSpec := { _root_.Go.OpenSpec.ofChange s with cond := some uptoSmall }

/-- 'pacelinetop.TopFlush', WHERE WHAT IT READS IS OF BULK AT MOST 1048576: true; the input reads as it did. -/
def topFlushUptoRow : OpenClaim := { program := "ytehnkebcbomidaagreatdoor", sum := "e91f41bda4e9c3282217aa221ccb9a2f839198e4418e5bca518918ee89f87942", func := "paceline/pacelinetop.TopFlush", spec := "topFlush", inPlace := ["internal/reflectlite.ValueOf", "(internal/reflectlite.Value).Type", "(internal/reflectlite.Value).IsNil", "internal/reflectlite.TypeOf", "(internal/reflectlite.Value).Elem", "(internal/reflectlite.Value).Set"], unfollowed := true, recurses := true, named := ["errors.errorType"], plainKeys := false, apart := false, laid := [("errors.errorType", laid_errors_errorType)], narrowed := true }
def TopFlushUptoSaid : Prop := topFlushUptoRow.holds Tryz.pinned (OpenSpec.upto topFlushSpec)

/-- 'pacelinetop.TopRetracts', WHERE WHAT IT READS IS OF BULK AT MOST 1048576: true; the input reads as it did. -/
def topRetractsUptoRow : OpenClaim := { program := "ytehnkebcbomidaagreatdoor", sum := "e91f41bda4e9c3282217aa221ccb9a2f839198e4418e5bca518918ee89f87942", func := "paceline/pacelinetop.TopRetracts", spec := "topRetracts", inPlace := ["internal/reflectlite.ValueOf", "(internal/reflectlite.Value).Type", "(internal/reflectlite.Value).IsNil", "internal/reflectlite.TypeOf", "(internal/reflectlite.Value).Elem", "(internal/reflectlite.Value).Set"], unfollowed := true, recurses := true, named := ["errors.errorType"], plainKeys := false, apart := false, laid := [("errors.errorType", laid_errors_errorType)], narrowed := true }
def TopRetractsUptoSaid : Prop := topRetractsUptoRow.holds Tryz.pinned (OpenSpec.upto topRetractsSpec)

/-- 'pacelinetop.TopSaved', WHERE WHAT IT READS IS OF BULK AT MOST 1048576: true; the input reads as it did. -/
def topSavedUptoRow : OpenClaim := { program := "ytehnkebcbomidaagreatdoor", sum := "e91f41bda4e9c3282217aa221ccb9a2f839198e4418e5bca518918ee89f87942", func := "paceline/pacelinetop.TopSaved", spec := "topSaved", inPlace := ["internal/reflectlite.ValueOf", "(internal/reflectlite.Value).Type", "(internal/reflectlite.Value).IsNil", "internal/reflectlite.TypeOf", "(internal/reflectlite.Value).Elem", "(internal/reflectlite.Value).Set", "internal/abi.NoEscape", "internal/bytealg.IndexByteString", "internal/bytealg.CountString", "internal/bytealg.IndexString"], unfollowed := true, recurses := true, named := ["errors.errorType", "internal/strconv.uint64pow10", "math/bits.deBruijn32tab", "math/bits.deBruijn64tab", "unicode/utf8.first", "unicode/utf8.acceptRanges", "internal/bytealg.MaxLen", "strconv.ErrSyntax", "strconv.ErrRange"], plainKeys := false, apart := false, laid := [("math/bits.deBruijn32tab", laid_math_bits_deBruijn32tab), ("math/bits.deBruijn64tab", laid_math_bits_deBruijn64tab), ("internal/strconv.uint64pow10", laid_internal_strconv_uint64pow10), ("unicode/utf8.acceptRanges", laid_unicode_utf8_acceptRanges), ("errors.errorType", laid_errors_errorType), ("strconv.ErrRange", laid_strconv_ErrRange), ("strconv.ErrSyntax", laid_strconv_ErrSyntax), ("unicode/utf8.first", laid_unicode_utf8_first)], narrowed := true }
def TopSavedUptoSaid : Prop := topSavedUptoRow.holds Tryz.pinned (OpenSpec.upto topSavedSpec)

/-- 'pacelinelaw20.RtiPlain', WHERE WHAT IT READS IS OF BULK AT MOST 1048576: true; the input reads as it did. -/
def rtiPlainUptoRow : OpenClaim := { program := "ytehnkebcbomidaagreatdoor", sum := "e91f41bda4e9c3282217aa221ccb9a2f839198e4418e5bca518918ee89f87942", func := "paceline/pacelinelaw20.RtiPlain", spec := "rtiPlain", inPlace := ["internal/reflectlite.ValueOf", "(internal/reflectlite.Value).Type", "(internal/reflectlite.Value).IsNil", "internal/reflectlite.TypeOf", "(internal/reflectlite.Value).Elem", "(internal/reflectlite.Value).Set"], unfollowed := true, recurses := true, named := ["errors.errorType"], plainKeys := false, apart := false, laid := [("errors.errorType", laid_errors_errorType)], narrowed := true }
def RtiPlainUptoSaid : Prop := rtiPlainUptoRow.holds Tryz.pinned (OpenSpec.upto rtiPlainSpec)

/-- 'pacelinelaw20.RtiForms', WHERE WHAT IT READS IS OF BULK AT MOST 1048576: true; the input reads as it did. -/
def rtiFormsUptoRow : OpenClaim := { program := "ytehnkebcbomidaagreatdoor", sum := "e91f41bda4e9c3282217aa221ccb9a2f839198e4418e5bca518918ee89f87942", func := "paceline/pacelinelaw20.RtiForms", spec := "rtiForms", unfollowed := true, recurses := true, named := ["strconv.ErrSyntax", "strconv.ErrRange", "internal/strconv.uint64pow10", "math/bits.deBruijn32tab", "math/bits.deBruijn64tab"], plainKeys := false, apart := false, laid := [("math/bits.deBruijn32tab", laid_math_bits_deBruijn32tab), ("math/bits.deBruijn64tab", laid_math_bits_deBruijn64tab), ("internal/strconv.uint64pow10", laid_internal_strconv_uint64pow10), ("strconv.ErrRange", laid_strconv_ErrRange), ("strconv.ErrSyntax", laid_strconv_ErrSyntax)], narrowed := true }
def RtiFormsUptoSaid : Prop := rtiFormsUptoRow.holds Tryz.pinned (OpenSpec.upto rtiFormsSpec)

/-- 'pacelinelaw20.RtiNever', WHERE WHAT IT READS IS OF BULK AT MOST 1048576: true; the input reads as it did. -/
def rtiNeverUptoRow : OpenClaim := { program := "ytehnkebcbomidaagreatdoor", sum := "e91f41bda4e9c3282217aa221ccb9a2f839198e4418e5bca518918ee89f87942", func := "paceline/pacelinelaw20.RtiNever", spec := "rtiNever", inPlace := ["internal/reflectlite.ValueOf", "(internal/reflectlite.Value).Type", "(internal/reflectlite.Value).IsNil", "internal/reflectlite.TypeOf", "(internal/reflectlite.Value).Elem", "(internal/reflectlite.Value).Set"], unfollowed := true, recurses := true, named := ["errors.errorType", "internal/strconv.uint64pow10", "math/bits.deBruijn32tab", "math/bits.deBruijn64tab"], plainKeys := false, apart := false, laid := [("math/bits.deBruijn32tab", laid_math_bits_deBruijn32tab), ("math/bits.deBruijn64tab", laid_math_bits_deBruijn64tab), ("internal/strconv.uint64pow10", laid_internal_strconv_uint64pow10), ("errors.errorType", laid_errors_errorType)], narrowed := true }
def RtiNeverUptoSaid : Prop := rtiNeverUptoRow.holds Tryz.pinned (OpenSpec.upto rtiNeverSpec)

/-- 'pacelinelaw20.RtiOnce', WHERE WHAT IT READS IS OF BULK AT MOST 1048576: true; the input reads as it did. -/
def rtiOnceUptoRow : OpenClaim := { program := "ytehnkebcbomidaagreatdoor", sum := "e91f41bda4e9c3282217aa221ccb9a2f839198e4418e5bca518918ee89f87942", func := "paceline/pacelinelaw20.RtiOnce", spec := "rtiOnce", inPlace := ["internal/reflectlite.ValueOf", "(internal/reflectlite.Value).Type", "(internal/reflectlite.Value).IsNil", "internal/reflectlite.TypeOf", "(internal/reflectlite.Value).Elem", "(internal/reflectlite.Value).Set"], unfollowed := true, recurses := true, named := ["errors.errorType", "internal/strconv.uint64pow10", "math/bits.deBruijn32tab", "math/bits.deBruijn64tab"], plainKeys := false, apart := false, laid := [("math/bits.deBruijn32tab", laid_math_bits_deBruijn32tab), ("math/bits.deBruijn64tab", laid_math_bits_deBruijn64tab), ("internal/strconv.uint64pow10", laid_internal_strconv_uint64pow10), ("errors.errorType", laid_errors_errorType)], narrowed := true }
def RtiOnceUptoSaid : Prop := rtiOnceUptoRow.holds Tryz.pinned (OpenSpec.upto rtiOnceSpec)

/-- 'pacelinelaw20.RtiSaves', WHERE WHAT IT READS IS OF BULK AT MOST 1048576: true; the input reads as it did. -/
def rtiSavesUptoRow : OpenClaim := { program := "ytehnkebcbomidaagreatdoor", sum := "e91f41bda4e9c3282217aa221ccb9a2f839198e4418e5bca518918ee89f87942", func := "paceline/pacelinelaw20.RtiSaves", spec := "rtiSaves", inPlace := ["internal/reflectlite.ValueOf", "(internal/reflectlite.Value).Type", "(internal/reflectlite.Value).IsNil", "internal/reflectlite.TypeOf", "(internal/reflectlite.Value).Elem", "(internal/reflectlite.Value).Set"], unfollowed := true, recurses := true, named := ["errors.errorType", "internal/strconv.uint64pow10", "math/bits.deBruijn32tab", "math/bits.deBruijn64tab"], plainKeys := false, apart := false, laid := [("math/bits.deBruijn32tab", laid_math_bits_deBruijn32tab), ("math/bits.deBruijn64tab", laid_math_bits_deBruijn64tab), ("internal/strconv.uint64pow10", laid_internal_strconv_uint64pow10), ("errors.errorType", laid_errors_errorType)], narrowed := true }
def RtiSavesUptoSaid : Prop := rtiSavesUptoRow.holds Tryz.pinned (OpenSpec.upto rtiSavesSpec)

/-- 'pacelinelaw20.RtiNumbers', WHERE WHAT IT READS IS OF BULK AT MOST 1048576: true; the input reads as it did. -/
def rtiNumbersUptoRow : OpenClaim := { program := "ytehnkebcbomidaagreatdoor", sum := "e91f41bda4e9c3282217aa221ccb9a2f839198e4418e5bca518918ee89f87942", func := "paceline/pacelinelaw20.RtiNumbers", spec := "rtiNumbers", inPlace := ["internal/reflectlite.ValueOf", "(internal/reflectlite.Value).Type", "(internal/reflectlite.Value).IsNil", "internal/reflectlite.TypeOf", "(internal/reflectlite.Value).Elem", "(internal/reflectlite.Value).Set"], unfollowed := true, recurses := true, named := ["errors.errorType", "internal/strconv.uint64pow10", "math/bits.deBruijn32tab", "math/bits.deBruijn64tab"], plainKeys := false, apart := false, laid := [("math/bits.deBruijn32tab", laid_math_bits_deBruijn32tab), ("math/bits.deBruijn64tab", laid_math_bits_deBruijn64tab), ("internal/strconv.uint64pow10", laid_internal_strconv_uint64pow10), ("errors.errorType", laid_errors_errorType)], narrowed := true }
def RtiNumbersUptoSaid : Prop := rtiNumbersUptoRow.holds Tryz.pinned (OpenSpec.upto rtiNumbersSpec)

/-- 'pacelinelaw20.RtiRises', WHERE WHAT IT READS IS OF BULK AT MOST 1048576: true; the input reads as it did. -/
def rtiRisesUptoRow : OpenClaim := { program := "ytehnkebcbomidaagreatdoor", sum := "e91f41bda4e9c3282217aa221ccb9a2f839198e4418e5bca518918ee89f87942", func := "paceline/pacelinelaw20.RtiRises", spec := "rtiRises", inPlace := ["internal/reflectlite.ValueOf", "(internal/reflectlite.Value).Type", "(internal/reflectlite.Value).IsNil", "internal/reflectlite.TypeOf", "(internal/reflectlite.Value).Elem", "(internal/reflectlite.Value).Set"], unfollowed := true, recurses := true, named := ["errors.errorType", "internal/strconv.uint64pow10", "math/bits.deBruijn32tab", "math/bits.deBruijn64tab"], plainKeys := false, apart := false, laid := [("math/bits.deBruijn32tab", laid_math_bits_deBruijn32tab), ("math/bits.deBruijn64tab", laid_math_bits_deBruijn64tab), ("internal/strconv.uint64pow10", laid_internal_strconv_uint64pow10), ("errors.errorType", laid_errors_errorType)], narrowed := true }
def RtiRisesUptoSaid : Prop := rtiRisesUptoRow.holds Tryz.pinned (OpenSpec.upto rtiRisesSpec)

/-- 'pacelinelaw20.RtiEarly', WHERE WHAT IT READS IS OF BULK AT MOST 1048576: true; the input reads as it did. -/
def rtiEarlyUptoRow : OpenClaim := { program := "ytehnkebcbomidaagreatdoor", sum := "e91f41bda4e9c3282217aa221ccb9a2f839198e4418e5bca518918ee89f87942", func := "paceline/pacelinelaw20.RtiEarly", spec := "rtiEarly", inPlace := ["internal/reflectlite.ValueOf", "(internal/reflectlite.Value).Type", "(internal/reflectlite.Value).IsNil", "internal/reflectlite.TypeOf", "(internal/reflectlite.Value).Elem", "(internal/reflectlite.Value).Set"], unfollowed := true, recurses := true, named := ["errors.errorType", "internal/strconv.uint64pow10", "math/bits.deBruijn32tab", "math/bits.deBruijn64tab"], plainKeys := false, apart := false, laid := [("math/bits.deBruijn32tab", laid_math_bits_deBruijn32tab), ("math/bits.deBruijn64tab", laid_math_bits_deBruijn64tab), ("internal/strconv.uint64pow10", laid_internal_strconv_uint64pow10), ("errors.errorType", laid_errors_errorType)], narrowed := true }
def RtiEarlyUptoSaid : Prop := rtiEarlyUptoRow.holds Tryz.pinned (OpenSpec.upto rtiEarlySpec)

/-- 'pacelinelaw20.RtiOutsiders', WHERE WHAT IT READS IS OF BULK AT MOST 1048576: true; the input reads as it did. -/
def rtiOutsidersUptoRow : OpenClaim := { program := "ytehnkebcbomidaagreatdoor", sum := "e91f41bda4e9c3282217aa221ccb9a2f839198e4418e5bca518918ee89f87942", func := "paceline/pacelinelaw20.RtiOutsiders", spec := "rtiOutsiders", inPlace := ["internal/reflectlite.ValueOf", "(internal/reflectlite.Value).Type", "(internal/reflectlite.Value).IsNil", "internal/reflectlite.TypeOf", "(internal/reflectlite.Value).Elem", "(internal/reflectlite.Value).Set"], unfollowed := true, recurses := true, named := ["errors.errorType", "internal/strconv.uint64pow10", "math/bits.deBruijn32tab", "math/bits.deBruijn64tab"], plainKeys := false, apart := false, laid := [("math/bits.deBruijn32tab", laid_math_bits_deBruijn32tab), ("math/bits.deBruijn64tab", laid_math_bits_deBruijn64tab), ("internal/strconv.uint64pow10", laid_internal_strconv_uint64pow10), ("errors.errorType", laid_errors_errorType)], narrowed := true }
def RtiOutsidersUptoSaid : Prop := rtiOutsidersUptoRow.holds Tryz.pinned (OpenSpec.upto rtiOutsidersSpec)

/-- 'pacelinelaw21.SaveTexts', WHERE WHAT IT READS IS OF BULK AT MOST 1048576: true; the input reads as it did. -/
def saveTextsUptoRow : OpenClaim := { program := "ytehnkebcbomidaagreatdoor", sum := "e91f41bda4e9c3282217aa221ccb9a2f839198e4418e5bca518918ee89f87942", func := "paceline/pacelinelaw21.SaveTexts", spec := "saveTexts", inPlace := ["internal/reflectlite.ValueOf", "(internal/reflectlite.Value).Type", "(internal/reflectlite.Value).IsNil", "internal/reflectlite.TypeOf", "(internal/reflectlite.Value).Elem", "(internal/reflectlite.Value).Set", "internal/abi.NoEscape"], unfollowed := true, recurses := true, named := ["errors.errorType", "internal/strconv.uint64pow10", "math/bits.deBruijn32tab", "math/bits.deBruijn64tab"], plainKeys := false, apart := false, laid := [("math/bits.deBruijn32tab", laid_math_bits_deBruijn32tab), ("math/bits.deBruijn64tab", laid_math_bits_deBruijn64tab), ("internal/strconv.uint64pow10", laid_internal_strconv_uint64pow10), ("errors.errorType", laid_errors_errorType)], narrowed := true }
def SaveTextsUptoSaid : Prop := saveTextsUptoRow.holds Tryz.pinned (OpenSpec.upto saveTextsSpec)

/-- 'pacelinelaw21.SaveLoads', WHERE WHAT IT READS IS OF BULK AT MOST 1048576: true; the input reads as it did. -/
def saveLoadsUptoRow : OpenClaim := { program := "ytehnkebcbomidaagreatdoor", sum := "e91f41bda4e9c3282217aa221ccb9a2f839198e4418e5bca518918ee89f87942", func := "paceline/pacelinelaw21.SaveLoads", spec := "saveLoads", inPlace := ["internal/bytealg.IndexByteString", "internal/bytealg.CountString", "internal/bytealg.IndexString", "internal/abi.NoEscape", "internal/reflectlite.ValueOf", "(internal/reflectlite.Value).Type", "(internal/reflectlite.Value).IsNil", "internal/reflectlite.TypeOf", "(internal/reflectlite.Value).Elem", "(internal/reflectlite.Value).Set"], unfollowed := true, recurses := true, named := ["unicode/utf8.first", "unicode/utf8.acceptRanges", "internal/bytealg.MaxLen", "errors.errorType", "strconv.ErrSyntax", "strconv.ErrRange", "internal/strconv.uint64pow10", "math/bits.deBruijn32tab", "math/bits.deBruijn64tab"], plainKeys := false, apart := false, laid := [("math/bits.deBruijn32tab", laid_math_bits_deBruijn32tab), ("math/bits.deBruijn64tab", laid_math_bits_deBruijn64tab), ("internal/strconv.uint64pow10", laid_internal_strconv_uint64pow10), ("unicode/utf8.acceptRanges", laid_unicode_utf8_acceptRanges), ("errors.errorType", laid_errors_errorType), ("strconv.ErrRange", laid_strconv_ErrRange), ("strconv.ErrSyntax", laid_strconv_ErrSyntax), ("unicode/utf8.first", laid_unicode_utf8_first)], narrowed := true }
def SaveLoadsUptoSaid : Prop := saveLoadsUptoRow.holds Tryz.pinned (OpenSpec.upto saveLoadsSpec)

/-- 'pacelinelaw20.RtiRows', WHERE WHAT IT READS IS OF BULK AT MOST 1048576: true; the input reads as it did. -/
def rtiRowsUptoRow : OpenClaim := { program := "ytehnkebcbomidaagreatdoor", sum := "e91f41bda4e9c3282217aa221ccb9a2f839198e4418e5bca518918ee89f87942", func := "paceline/pacelinelaw20.RtiRows", spec := "rtiRows", inPlace := ["internal/reflectlite.ValueOf", "(internal/reflectlite.Value).Type", "(internal/reflectlite.Value).IsNil", "internal/reflectlite.TypeOf", "(internal/reflectlite.Value).Elem", "(internal/reflectlite.Value).Set"], unfollowed := true, recurses := true, named := ["errors.errorType", "internal/strconv.uint64pow10", "math/bits.deBruijn32tab", "math/bits.deBruijn64tab", "strconv.ErrSyntax", "strconv.ErrRange"], plainKeys := false, apart := false, laid := [("math/bits.deBruijn32tab", laid_math_bits_deBruijn32tab), ("math/bits.deBruijn64tab", laid_math_bits_deBruijn64tab), ("internal/strconv.uint64pow10", laid_internal_strconv_uint64pow10), ("errors.errorType", laid_errors_errorType), ("strconv.ErrRange", laid_strconv_ErrRange), ("strconv.ErrSyntax", laid_strconv_ErrSyntax)], narrowed := true }
def RtiRowsUptoSaid : Prop := rtiRowsUptoRow.holds Tryz.pinned (OpenSpec.upto rtiRowsSpec)

/-- 'pacelinelaw21.SaveGoes', WHERE WHAT IT READS IS OF BULK AT MOST 1048576: true; the input reads as it did. -/
def saveGoesUptoRow : OpenClaim := { program := "ytehnkebcbomidaagreatdoor", sum := "e91f41bda4e9c3282217aa221ccb9a2f839198e4418e5bca518918ee89f87942", func := "paceline/pacelinelaw21.SaveGoes", spec := "saveGoes", inPlace := ["internal/reflectlite.ValueOf", "(internal/reflectlite.Value).Type", "(internal/reflectlite.Value).IsNil", "internal/reflectlite.TypeOf", "(internal/reflectlite.Value).Elem", "(internal/reflectlite.Value).Set", "internal/abi.NoEscape", "internal/bytealg.IndexByteString", "internal/bytealg.CountString", "internal/bytealg.IndexString"], unfollowed := true, recurses := true, named := ["errors.errorType", "internal/strconv.uint64pow10", "math/bits.deBruijn32tab", "math/bits.deBruijn64tab", "unicode/utf8.first", "unicode/utf8.acceptRanges", "internal/bytealg.MaxLen", "strconv.ErrSyntax", "strconv.ErrRange"], plainKeys := false, apart := false, laid := [("math/bits.deBruijn32tab", laid_math_bits_deBruijn32tab), ("math/bits.deBruijn64tab", laid_math_bits_deBruijn64tab), ("internal/strconv.uint64pow10", laid_internal_strconv_uint64pow10), ("unicode/utf8.acceptRanges", laid_unicode_utf8_acceptRanges), ("errors.errorType", laid_errors_errorType), ("strconv.ErrRange", laid_strconv_ErrRange), ("strconv.ErrSyntax", laid_strconv_ErrSyntax), ("unicode/utf8.first", laid_unicode_utf8_first)], narrowed := true }
def SaveGoesUptoSaid : Prop := saveGoesUptoRow.holds Tryz.pinned (OpenSpec.upto saveGoesSpec)

/-- 'pacelinelaw21.SaveChanged', WHERE WHAT IT READS IS OF BULK AT MOST 1048576: true; the input reads as it did. -/
def saveChangedUptoRow : OpenClaim := { program := "ytehnkebcbomidaagreatdoor", sum := "e91f41bda4e9c3282217aa221ccb9a2f839198e4418e5bca518918ee89f87942", func := "paceline/pacelinelaw21.SaveChanged", spec := "saveChanged", inPlace := ["internal/reflectlite.ValueOf", "(internal/reflectlite.Value).Type", "(internal/reflectlite.Value).IsNil", "internal/reflectlite.TypeOf", "(internal/reflectlite.Value).Elem", "(internal/reflectlite.Value).Set", "internal/abi.NoEscape", "internal/bytealg.IndexByteString", "internal/bytealg.CountString", "internal/bytealg.IndexString"], unfollowed := true, recurses := true, named := ["errors.errorType", "internal/strconv.uint64pow10", "math/bits.deBruijn32tab", "math/bits.deBruijn64tab", "unicode/utf8.first", "unicode/utf8.acceptRanges", "internal/bytealg.MaxLen", "strconv.ErrSyntax", "strconv.ErrRange"], plainKeys := false, apart := false, laid := [("math/bits.deBruijn32tab", laid_math_bits_deBruijn32tab), ("math/bits.deBruijn64tab", laid_math_bits_deBruijn64tab), ("internal/strconv.uint64pow10", laid_internal_strconv_uint64pow10), ("unicode/utf8.acceptRanges", laid_unicode_utf8_acceptRanges), ("errors.errorType", laid_errors_errorType), ("strconv.ErrRange", laid_strconv_ErrRange), ("strconv.ErrSyntax", laid_strconv_ErrSyntax), ("unicode/utf8.first", laid_unicode_utf8_first)], narrowed := true }
def SaveChangedUptoSaid : Prop := saveChangedUptoRow.holds Tryz.pinned (OpenSpec.upto saveChangedSpec)

/-- 'pacelinelaw21.SaveOthers', WHERE WHAT IT READS IS OF BULK AT MOST 1048576: true; the input reads as it did. -/
def saveOthersUptoRow : OpenClaim := { program := "ytehnkebcbomidaagreatdoor", sum := "e91f41bda4e9c3282217aa221ccb9a2f839198e4418e5bca518918ee89f87942", func := "paceline/pacelinelaw21.SaveOthers", spec := "saveOthers", inPlace := ["internal/reflectlite.ValueOf", "(internal/reflectlite.Value).Type", "(internal/reflectlite.Value).IsNil", "internal/reflectlite.TypeOf", "(internal/reflectlite.Value).Elem", "(internal/reflectlite.Value).Set", "internal/abi.NoEscape", "internal/bytealg.IndexByteString", "internal/bytealg.CountString", "internal/bytealg.IndexString"], unfollowed := true, recurses := true, named := ["errors.errorType", "internal/strconv.uint64pow10", "math/bits.deBruijn32tab", "math/bits.deBruijn64tab", "unicode/utf8.first", "unicode/utf8.acceptRanges", "internal/bytealg.MaxLen", "strconv.ErrSyntax", "strconv.ErrRange"], plainKeys := false, apart := false, laid := [("math/bits.deBruijn32tab", laid_math_bits_deBruijn32tab), ("math/bits.deBruijn64tab", laid_math_bits_deBruijn64tab), ("internal/strconv.uint64pow10", laid_internal_strconv_uint64pow10), ("unicode/utf8.acceptRanges", laid_unicode_utf8_acceptRanges), ("errors.errorType", laid_errors_errorType), ("strconv.ErrRange", laid_strconv_ErrRange), ("strconv.ErrSyntax", laid_strconv_ErrSyntax), ("unicode/utf8.first", laid_unicode_utf8_first)], narrowed := true }
def SaveOthersUptoSaid : Prop := saveOthersUptoRow.holds Tryz.pinned (OpenSpec.upto saveOthersSpec)

/-- 'pacelinelaw22.ConsoleSaves', WHERE WHAT IT READS IS OF BULK AT MOST 1048576: true; the input reads as it did. -/
def consoleSavesUptoRow : OpenClaim := { program := "ytehnkebcbomidaagreatdoor", sum := "e91f41bda4e9c3282217aa221ccb9a2f839198e4418e5bca518918ee89f87942", func := "paceline/pacelinelaw22.ConsoleSaves", spec := "consoleSaves", inPlace := ["internal/bytealg.IndexByteString", "internal/bytealg.CountString", "internal/bytealg.IndexString", "internal/abi.NoEscape", "internal/reflectlite.ValueOf", "(internal/reflectlite.Value).Type", "(internal/reflectlite.Value).IsNil", "internal/reflectlite.TypeOf", "(internal/reflectlite.Value).Elem", "(internal/reflectlite.Value).Set", "internal/bytealg.MakeNoZero"], unfollowed := true, recurses := true, named := ["unicode/utf8.first", "unicode/utf8.acceptRanges", "internal/bytealg.MaxLen", "strconv.ErrSyntax", "strconv.ErrRange", "internal/strconv.uint64pow10", "math/bits.deBruijn32tab", "math/bits.deBruijn64tab", "errors.errorType"], plainKeys := false, apart := false, laid := [("math/bits.deBruijn32tab", laid_math_bits_deBruijn32tab), ("math/bits.deBruijn64tab", laid_math_bits_deBruijn64tab), ("internal/strconv.uint64pow10", laid_internal_strconv_uint64pow10), ("unicode/utf8.acceptRanges", laid_unicode_utf8_acceptRanges), ("errors.errorType", laid_errors_errorType), ("strconv.ErrRange", laid_strconv_ErrRange), ("strconv.ErrSyntax", laid_strconv_ErrSyntax), ("unicode/utf8.first", laid_unicode_utf8_first)], narrowed := true }
def ConsoleSavesUptoSaid : Prop := consoleSavesUptoRow.holds Tryz.pinned (OpenSpec.upto consoleSavesSpec)

/-- 'pacelinetop.TopSays', WHERE WHAT IT READS IS OF BULK AT MOST 1048576: true; the input reads as it did. -/
def topSaysUptoRow : OpenClaim := { program := "ytehnkebcbomidaagreatdoor", sum := "e91f41bda4e9c3282217aa221ccb9a2f839198e4418e5bca518918ee89f87942", func := "paceline/pacelinetop.TopSays", spec := "topSays", inPlace := ["internal/bytealg.IndexByteString", "internal/bytealg.CountString", "internal/bytealg.IndexString", "internal/abi.NoEscape", "internal/reflectlite.ValueOf", "(internal/reflectlite.Value).Type", "(internal/reflectlite.Value).IsNil", "internal/reflectlite.TypeOf", "(internal/reflectlite.Value).Elem", "(internal/reflectlite.Value).Set", "internal/bytealg.MakeNoZero"], unfollowed := true, recurses := true, named := ["internal/strconv.uint64pow10", "math/bits.deBruijn32tab", "math/bits.deBruijn64tab", "unicode/utf8.first", "unicode/utf8.acceptRanges", "internal/bytealg.MaxLen", "strconv.ErrSyntax", "strconv.ErrRange", "errors.errorType"], plainKeys := false, apart := false, laid := [("math/bits.deBruijn32tab", laid_math_bits_deBruijn32tab), ("math/bits.deBruijn64tab", laid_math_bits_deBruijn64tab), ("internal/strconv.uint64pow10", laid_internal_strconv_uint64pow10), ("unicode/utf8.acceptRanges", laid_unicode_utf8_acceptRanges), ("errors.errorType", laid_errors_errorType), ("strconv.ErrRange", laid_strconv_ErrRange), ("strconv.ErrSyntax", laid_strconv_ErrSyntax), ("unicode/utf8.first", laid_unicode_utf8_first)], narrowed := true }
def TopSaysUptoSaid : Prop := topSaysUptoRow.holds Tryz.pinned (OpenSpec.upto topSaysSpec)

end Rows
end Go.Proofs.YtehnkebcbomidaaGreatDoor
