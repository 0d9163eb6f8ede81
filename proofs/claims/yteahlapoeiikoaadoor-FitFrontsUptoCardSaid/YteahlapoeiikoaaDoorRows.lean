/-
  NARROWER THAN 'FOR EVERY INPUT', by the rows' own cells (each row's printed sentence says how): KindTells: laid · FitIn: laid · FitOuter: laid · PolicyChecks: laid · FitSound: loops, laid · FitFronts: loops, laid · KindNames: laid · KindRules: laid · KindUnions: laid · KindPlain: laid.
  DERIVED. THE GIVEN ROWS OF THIS SEAT. 10 by the template 'for every input the law returns true; each argument reads behind the call as it read before'; 0 by the template 'total and deterministic' (their statements: YteahlapoeiikoaaDoorTotals.lean).
  GIVEN WITH THE SEED: the statements are not yours to turn. If you find one false, say at which input.
  Laid BY PROGRAM, IN A SANDBOX (cutbox-rows.mjs): the forced cells as the released guide's own fill.sh prints them over the translation bf188be390b1d75c… (all of the seat's roots in one cut). By AI agents, Wed Nov 11 2026. No macro, syntax, notation, axiom, sorry.
-/
import Derived.Test.YteahlapoeiikoaaDoorChecked
import GoSem.PinnedTables
import GoSem.Claim
import GoSem.ClaimJoined
import GoSem.ClaimMapViews
import Derived.JoinedTies
import Derived.KernelRfl
namespace Go.Proofs.YteahlapoeiikoaaDoor
/- THE CELL 'sum', in the pinned program and in every row, IS THE sha256 OF THE DUMP (.gsa) THAT YteahlapoeiikoaaDoorProg.lean LOADS. Nothing in Lean hashes anything: it is a label: what it is worth is what the hold of that sum in a sandbox is worth. -/
noncomputable def Tryd.pinned : Pinned := { name := "yteahlapoeiikoaadoor", sum := "bf188be390b1d75cad8c5a0a0cbdd2ae82418faafeae0f1d11c28e065661ecdc", checked := Tryd.checked }
namespace Rows
def none {H : Type} : Left H := { results := [], args := [] }

/- WHAT THE LISTED PACKAGE-LEVEL VARIABLES READ AS WHEN THE CALL BEGINS. Each datum BY PROGRAM (the guide's laid-datum.mjs) off the statement by which the dump's own 'gosem.cut.vars' lays the variable. In a bare row this is a premise. The card (YteahlapoeiikoaaDoorCards.lean) ties it to the program's text. -/
def laid_unicode_utf8_acceptRanges {H : Type} : DataW H := .agg [.agg [.lit (.int .u8 128), .lit (.int .u8 191)], .agg [.lit (.int .u8 160), .lit (.int .u8 191)], .agg [.lit (.int .u8 128), .lit (.int .u8 159)], .agg [.lit (.int .u8 144), .lit (.int .u8 191)], .agg [.lit (.int .u8 128), .lit (.int .u8 143)], .agg [.lit (.int .u8 0), .lit (.int .u8 0)], .agg [.lit (.int .u8 0), .lit (.int .u8 0)], .agg [.lit (.int .u8 0), .lit (.int .u8 0)], .agg [.lit (.int .u8 0), .lit (.int .u8 0)], .agg [.lit (.int .u8 0), .lit (.int .u8 0)], .agg [.lit (.int .u8 0), .lit (.int .u8 0)], .agg [.lit (.int .u8 0), .lit (.int .u8 0)], .agg [.lit (.int .u8 0), .lit (.int .u8 0)], .agg [.lit (.int .u8 0), .lit (.int .u8 0)], .agg [.lit (.int .u8 0), .lit (.int .u8 0)], .agg [.lit (.int .u8 0), .lit (.int .u8 0)]]
def laid_unicode_White_Space {H : Type} : DataW H := .ptr (.agg [.slice [.agg [.lit (.int .u16 9), .lit (.int .u16 13), .lit (.int .u16 1)], .agg [.lit (.int .u16 32), .lit (.int .u16 133), .lit (.int .u16 101)], .agg [.lit (.int .u16 160), .lit (.int .u16 5760), .lit (.int .u16 5600)], .agg [.lit (.int .u16 8192), .lit (.int .u16 8202), .lit (.int .u16 1)], .agg [.lit (.int .u16 8232), .lit (.int .u16 8233), .lit (.int .u16 1)], .agg [.lit (.int .u16 8239), .lit (.int .u16 8287), .lit (.int .u16 48)], .agg [.lit (.int .u16 12288), .lit (.int .u16 12288), .lit (.int .u16 1)]] [], .nil, .lit (.int .i64 2)])
def laid_strings_asciiSpace {H : Type} : DataW H := .agg [.lit (.int .u8 0), .lit (.int .u8 0), .lit (.int .u8 0), .lit (.int .u8 0), .lit (.int .u8 0), .lit (.int .u8 0), .lit (.int .u8 0), .lit (.int .u8 0), .lit (.int .u8 0), .lit (.int .u8 1), .lit (.int .u8 1), .lit (.int .u8 1), .lit (.int .u8 1), .lit (.int .u8 1), .lit (.int .u8 0), .lit (.int .u8 0), .lit (.int .u8 0), .lit (.int .u8 0), .lit (.int .u8 0), .lit (.int .u8 0), .lit (.int .u8 0), .lit (.int .u8 0), .lit (.int .u8 0), .lit (.int .u8 0), .lit (.int .u8 0), .lit (.int .u8 0), .lit (.int .u8 0), .lit (.int .u8 0), .lit (.int .u8 0), .lit (.int .u8 0), .lit (.int .u8 0), .lit (.int .u8 0), .lit (.int .u8 1), .lit (.int .u8 0), .lit (.int .u8 0), .lit (.int .u8 0), .lit (.int .u8 0), .lit (.int .u8 0), .lit (.int .u8 0), .lit (.int .u8 0), .lit (.int .u8 0), .lit (.int .u8 0), .lit (.int .u8 0), .lit (.int .u8 0), .lit (.int .u8 0), .lit (.int .u8 0), .lit (.int .u8 0), .lit (.int .u8 0), .lit (.int .u8 0), .lit (.int .u8 0), .lit (.int .u8 0), .lit (.int .u8 0), .lit (.int .u8 0), .lit (.int .u8 0), .lit (.int .u8 0), .lit (.int .u8 0), .lit (.int .u8 0), .lit (.int .u8 0), .lit (.int .u8 0), .lit (.int .u8 0), .lit (.int .u8 0), .lit (.int .u8 0), .lit (.int .u8 0), .lit (.int .u8 0), .lit (.int .u8 0), .lit (.int .u8 0), .lit (.int .u8 0), .lit (.int .u8 0), .lit (.int .u8 0), .lit (.int .u8 0), .lit (.int .u8 0), .lit (.int .u8 0), .lit (.int .u8 0), .lit (.int .u8 0), .lit (.int .u8 0), .lit (.int .u8 0), .lit (.int .u8 0), .lit (.int .u8 0), .lit (.int .u8 0), .lit (.int .u8 0), .lit (.int .u8 0), .lit (.int .u8 0), .lit (.int .u8 0), .lit (.int .u8 0), .lit (.int .u8 0), .lit (.int .u8 0), .lit (.int .u8 0), .lit (.int .u8 0), .lit (.int .u8 0), .lit (.int .u8 0), .lit (.int .u8 0), .lit (.int .u8 0), .lit (.int .u8 0), .lit (.int .u8 0), .lit (.int .u8 0), .lit (.int .u8 0), .lit (.int .u8 0), .lit (.int .u8 0), .lit (.int .u8 0), .lit (.int .u8 0), .lit (.int .u8 0), .lit (.int .u8 0), .lit (.int .u8 0), .lit (.int .u8 0), .lit (.int .u8 0), .lit (.int .u8 0), .lit (.int .u8 0), .lit (.int .u8 0), .lit (.int .u8 0), .lit (.int .u8 0), .lit (.int .u8 0), .lit (.int .u8 0), .lit (.int .u8 0), .lit (.int .u8 0), .lit (.int .u8 0), .lit (.int .u8 0), .lit (.int .u8 0), .lit (.int .u8 0), .lit (.int .u8 0), .lit (.int .u8 0), .lit (.int .u8 0), .lit (.int .u8 0), .lit (.int .u8 0), .lit (.int .u8 0), .lit (.int .u8 0), .lit (.int .u8 0), .lit (.int .u8 0), .lit (.int .u8 0), .lit (.int .u8 0), .lit (.int .u8 0), .lit (.int .u8 0), .lit (.int .u8 0), .lit (.int .u8 0), .lit (.int .u8 0), .lit (.int .u8 0), .lit (.int .u8 0), .lit (.int .u8 0), .lit (.int .u8 0), .lit (.int .u8 0), .lit (.int .u8 0), .lit (.int .u8 0), .lit (.int .u8 0), .lit (.int .u8 0), .lit (.int .u8 0), .lit (.int .u8 0), .lit (.int .u8 0), .lit (.int .u8 0), .lit (.int .u8 0), .lit (.int .u8 0), .lit (.int .u8 0), .lit (.int .u8 0), .lit (.int .u8 0), .lit (.int .u8 0), .lit (.int .u8 0), .lit (.int .u8 0), .lit (.int .u8 0), .lit (.int .u8 0), .lit (.int .u8 0), .lit (.int .u8 0), .lit (.int .u8 0), .lit (.int .u8 0), .lit (.int .u8 0), .lit (.int .u8 0), .lit (.int .u8 0), .lit (.int .u8 0), .lit (.int .u8 0), .lit (.int .u8 0), .lit (.int .u8 0), .lit (.int .u8 0), .lit (.int .u8 0), .lit (.int .u8 0), .lit (.int .u8 0), .lit (.int .u8 0), .lit (.int .u8 0), .lit (.int .u8 0), .lit (.int .u8 0), .lit (.int .u8 0), .lit (.int .u8 0), .lit (.int .u8 0), .lit (.int .u8 0), .lit (.int .u8 0), .lit (.int .u8 0), .lit (.int .u8 0), .lit (.int .u8 0), .lit (.int .u8 0), .lit (.int .u8 0), .lit (.int .u8 0), .lit (.int .u8 0), .lit (.int .u8 0), .lit (.int .u8 0), .lit (.int .u8 0), .lit (.int .u8 0), .lit (.int .u8 0), .lit (.int .u8 0), .lit (.int .u8 0), .lit (.int .u8 0), .lit (.int .u8 0), .lit (.int .u8 0), .lit (.int .u8 0), .lit (.int .u8 0), .lit (.int .u8 0), .lit (.int .u8 0), .lit (.int .u8 0), .lit (.int .u8 0), .lit (.int .u8 0), .lit (.int .u8 0), .lit (.int .u8 0), .lit (.int .u8 0), .lit (.int .u8 0), .lit (.int .u8 0), .lit (.int .u8 0), .lit (.int .u8 0), .lit (.int .u8 0), .lit (.int .u8 0), .lit (.int .u8 0), .lit (.int .u8 0), .lit (.int .u8 0), .lit (.int .u8 0), .lit (.int .u8 0), .lit (.int .u8 0), .lit (.int .u8 0), .lit (.int .u8 0), .lit (.int .u8 0), .lit (.int .u8 0), .lit (.int .u8 0), .lit (.int .u8 0), .lit (.int .u8 0), .lit (.int .u8 0), .lit (.int .u8 0), .lit (.int .u8 0), .lit (.int .u8 0), .lit (.int .u8 0), .lit (.int .u8 0), .lit (.int .u8 0), .lit (.int .u8 0), .lit (.int .u8 0), .lit (.int .u8 0), .lit (.int .u8 0), .lit (.int .u8 0), .lit (.int .u8 0), .lit (.int .u8 0), .lit (.int .u8 0), .lit (.int .u8 0), .lit (.int .u8 0), .lit (.int .u8 0), .lit (.int .u8 0), .lit (.int .u8 0), .lit (.int .u8 0), .lit (.int .u8 0), .lit (.int .u8 0), .lit (.int .u8 0), .lit (.int .u8 0), .lit (.int .u8 0), .lit (.int .u8 0), .lit (.int .u8 0), .lit (.int .u8 0)]
/-- One of Go's own tables, pinned by name: the form's constant. -/
def laid_unicode_utf8_first : DataW Unit := Go.Pinned.utf8First
def laid_decanter_policy_never {H : Type} : DataW H := .slice [.lit (.string [102, 111, 114, 109, 97, 99, 116, 105, 111, 110]), .lit (.string [109, 97, 110, 105, 102, 101, 115, 116]), .lit (.string [112, 105, 110, 103]), .lit (.string [115, 114, 99, 100, 111, 99]), .lit (.string [115, 114, 99, 115, 101, 116]), .lit (.string [115, 116, 121, 108, 101])] []
def laid_decanter_policy_bad {H : Type} : DataW H := .slice [.lit (.string [100, 97, 116, 97]), .lit (.string [106, 97, 118, 97, 115, 99, 114, 105, 112, 116]), .lit (.string [118, 98, 115, 99, 114, 105, 112, 116])] []

/-- 'decanterlaw11.KindTells': WHATEVER THE INPUT: true; the input reads as it did. -/
def kindTellsSpec : ChangeSpec := { name := "kindTells", fn := fun _ => fun
  | [d1, d2] => { results := [.lit (.bool true)], args := [d1, d2] }
  | _ => none }
def kindTellsRow : OpenClaim := { program := "yteahlapoeiikoaadoor", sum := "bf188be390b1d75cad8c5a0a0cbdd2ae82418faafeae0f1d11c28e065661ecdc", func := "decanter/decanterlaw11.KindTells", spec := "kindTells", unfollowed := true, recurses := true, named := ["strings.asciiSpace", "unicode/utf8.first", "unicode/utf8.acceptRanges", "unicode.White_Space"], apart := false, laid := [("unicode/utf8.acceptRanges", laid_unicode_utf8_acceptRanges), ("unicode.White_Space", laid_unicode_White_Space), ("strings.asciiSpace", laid_strings_asciiSpace), ("unicode/utf8.first", laid_unicode_utf8_first)] }
def KindTellsSaid : Prop := kindTellsRow.holds Tryd.pinned (OpenSpec.ofChange kindTellsSpec)

/-- ITS FALSE NEIGHBOUR: 'it returns false'. Refute it at one input. -/
def kindTellsWrong : ChangeSpec := { name := "kindTells", fn := fun _ => fun
  | [d1, d2] => { results := [.lit (.bool false)], args := [d1, d2] }
  | _ => none }
def KindTellsWrongFalsely : Prop := kindTellsRow.holds Tryd.pinned (OpenSpec.ofChange kindTellsWrong)

/-- 'decanterlaw21.FitIn': WHATEVER THE INPUT: true; the input reads as it did. -/
def fitInSpec : ChangeSpec := { name := "fitIn", fn := fun _ => fun
  | [d1, d2] => { results := [.lit (.bool true)], args := [d1, d2] }
  | _ => none }
def fitInRow : OpenClaim := { program := "yteahlapoeiikoaadoor", sum := "bf188be390b1d75cad8c5a0a0cbdd2ae82418faafeae0f1d11c28e065661ecdc", func := "decanter/decanterlaw21.FitIn", spec := "fitIn", unfollowed := true, recurses := true, named := ["strings.asciiSpace", "unicode/utf8.first", "unicode/utf8.acceptRanges", "unicode.White_Space"], apart := false, laid := [("unicode/utf8.acceptRanges", laid_unicode_utf8_acceptRanges), ("unicode.White_Space", laid_unicode_White_Space), ("strings.asciiSpace", laid_strings_asciiSpace), ("unicode/utf8.first", laid_unicode_utf8_first)] }
def FitInSaid : Prop := fitInRow.holds Tryd.pinned (OpenSpec.ofChange fitInSpec)

/-- ITS FALSE NEIGHBOUR: 'it returns false'. Refute it at one input. -/
def fitInWrong : ChangeSpec := { name := "fitIn", fn := fun _ => fun
  | [d1, d2] => { results := [.lit (.bool false)], args := [d1, d2] }
  | _ => none }
def FitInWrongFalsely : Prop := fitInRow.holds Tryd.pinned (OpenSpec.ofChange fitInWrong)

/-- 'decanterlaw21.FitOuter': WHATEVER THE INPUT: true; the input reads as it did. -/
def fitOuterSpec : ChangeSpec := { name := "fitOuter", fn := fun _ => fun
  | [d1, d2, d3] => { results := [.lit (.bool true)], args := [d1, d2, d3] }
  | _ => none }
def fitOuterRow : OpenClaim := { program := "yteahlapoeiikoaadoor", sum := "bf188be390b1d75cad8c5a0a0cbdd2ae82418faafeae0f1d11c28e065661ecdc", func := "decanter/decanterlaw21.FitOuter", spec := "fitOuter", unfollowed := true, recurses := true, named := ["strings.asciiSpace", "unicode/utf8.first", "unicode/utf8.acceptRanges", "unicode.White_Space"], apart := false, laid := [("unicode/utf8.acceptRanges", laid_unicode_utf8_acceptRanges), ("unicode.White_Space", laid_unicode_White_Space), ("strings.asciiSpace", laid_strings_asciiSpace), ("unicode/utf8.first", laid_unicode_utf8_first)] }
def FitOuterSaid : Prop := fitOuterRow.holds Tryd.pinned (OpenSpec.ofChange fitOuterSpec)

/-- ITS FALSE NEIGHBOUR: 'it returns false'. Refute it at one input. -/
def fitOuterWrong : ChangeSpec := { name := "fitOuter", fn := fun _ => fun
  | [d1, d2, d3] => { results := [.lit (.bool false)], args := [d1, d2, d3] }
  | _ => none }
def FitOuterWrongFalsely : Prop := fitOuterRow.holds Tryd.pinned (OpenSpec.ofChange fitOuterWrong)

/-- 'decanterlaw20.PolicyChecks': WHATEVER THE INPUT: true; the input reads as it did. -/
def policyChecksSpec : ChangeSpec := { name := "policyChecks", fn := fun _ => fun
  | [d1, d2] => { results := [.lit (.bool true)], args := [d1, d2] }
  | _ => none }
def policyChecksRow : OpenClaim := { program := "yteahlapoeiikoaadoor", sum := "bf188be390b1d75cad8c5a0a0cbdd2ae82418faafeae0f1d11c28e065661ecdc", func := "decanter/decanterlaw20.PolicyChecks", spec := "policyChecks", inPlace := ["internal/bytealg.IndexByteString", "internal/bytealg.IndexString"], unfollowed := true, recurses := true, named := ["strings.asciiSpace", "unicode/utf8.first", "unicode/utf8.acceptRanges", "unicode.White_Space", "decanter/policy.never", "decanter/policy.bad", "internal/bytealg.MaxLen"], apart := false, laid := [("unicode/utf8.acceptRanges", laid_unicode_utf8_acceptRanges), ("unicode.White_Space", laid_unicode_White_Space), ("strings.asciiSpace", laid_strings_asciiSpace), ("decanter/policy.never", laid_decanter_policy_never), ("decanter/policy.bad", laid_decanter_policy_bad), ("unicode/utf8.first", laid_unicode_utf8_first)] }
def PolicyChecksSaid : Prop := policyChecksRow.holds Tryd.pinned (OpenSpec.ofChange policyChecksSpec)

/-- ITS FALSE NEIGHBOUR: 'it returns false'. Refute it at one input. -/
def policyChecksWrong : ChangeSpec := { name := "policyChecks", fn := fun _ => fun
  | [d1, d2] => { results := [.lit (.bool false)], args := [d1, d2] }
  | _ => none }
def PolicyChecksWrongFalsely : Prop := policyChecksRow.holds Tryd.pinned (OpenSpec.ofChange policyChecksWrong)

/-- 'decanterlaw21.FitSound': WHATEVER THE INPUT: true; the input reads as it did. -/
def fitSoundSpec : ChangeSpec := { name := "fitSound", fn := fun _ => fun
  | [d] => { results := [.lit (.bool true)], args := [d] }
  | _ => none }
def fitSoundRow : OpenClaim := { program := "yteahlapoeiikoaadoor", sum := "bf188be390b1d75cad8c5a0a0cbdd2ae82418faafeae0f1d11c28e065661ecdc", func := "decanter/decanterlaw21.FitSound", spec := "fitSound", inPlace := ["internal/bytealg.IndexByteString", "internal/bytealg.IndexString"], unfollowed := true, recurses := true, named := ["strings.asciiSpace", "unicode/utf8.first", "unicode/utf8.acceptRanges", "unicode.White_Space", "internal/bytealg.MaxLen"], loops := true, apart := false, laid := [("unicode/utf8.acceptRanges", laid_unicode_utf8_acceptRanges), ("unicode.White_Space", laid_unicode_White_Space), ("strings.asciiSpace", laid_strings_asciiSpace), ("unicode/utf8.first", laid_unicode_utf8_first)] }
def FitSoundSaid : Prop := fitSoundRow.holds Tryd.pinned (OpenSpec.ofChange fitSoundSpec)

/-- ITS FALSE NEIGHBOUR: 'it returns false'. Refute it at one input. -/
def fitSoundWrong : ChangeSpec := { name := "fitSound", fn := fun _ => fun
  | [d] => { results := [.lit (.bool false)], args := [d] }
  | _ => none }
def FitSoundWrongFalsely : Prop := fitSoundRow.holds Tryd.pinned (OpenSpec.ofChange fitSoundWrong)

/-- 'decanterlaw21.FitFronts': WHATEVER THE INPUT: true; the input reads as it did. -/
def fitFrontsSpec : ChangeSpec := { name := "fitFronts", fn := fun _ => fun
  | [d1, d2] => { results := [.lit (.bool true)], args := [d1, d2] }
  | _ => none }
def fitFrontsRow : OpenClaim := { program := "yteahlapoeiikoaadoor", sum := "bf188be390b1d75cad8c5a0a0cbdd2ae82418faafeae0f1d11c28e065661ecdc", func := "decanter/decanterlaw21.FitFronts", spec := "fitFronts", inPlace := ["internal/bytealg.IndexByteString", "internal/bytealg.IndexString"], unfollowed := true, recurses := true, named := ["strings.asciiSpace", "unicode/utf8.first", "unicode/utf8.acceptRanges", "unicode.White_Space", "internal/bytealg.MaxLen"], loops := true, apart := false, laid := [("unicode/utf8.acceptRanges", laid_unicode_utf8_acceptRanges), ("unicode.White_Space", laid_unicode_White_Space), ("strings.asciiSpace", laid_strings_asciiSpace), ("unicode/utf8.first", laid_unicode_utf8_first)] }
def FitFrontsSaid : Prop := fitFrontsRow.holds Tryd.pinned (OpenSpec.ofChange fitFrontsSpec)

/-- ITS FALSE NEIGHBOUR: 'it returns false'. Refute it at one input. -/
def fitFrontsWrong : ChangeSpec := { name := "fitFronts", fn := fun _ => fun
  | [d1, d2] => { results := [.lit (.bool false)], args := [d1, d2] }
  | _ => none }
def FitFrontsWrongFalsely : Prop := fitFrontsRow.holds Tryd.pinned (OpenSpec.ofChange fitFrontsWrong)

/-- 'decanterlaw11.KindNames': WHATEVER THE INPUT: true; the input reads as it did. -/
def kindNamesSpec : ChangeSpec := { name := "kindNames", fn := fun _ => fun
  | [d] => { results := [.lit (.bool true)], args := [d] }
  | _ => none }
def kindNamesRow : OpenClaim := { program := "yteahlapoeiikoaadoor", sum := "bf188be390b1d75cad8c5a0a0cbdd2ae82418faafeae0f1d11c28e065661ecdc", func := "decanter/decanterlaw11.KindNames", spec := "kindNames", unfollowed := true, recurses := true, named := ["strings.asciiSpace", "unicode/utf8.first", "unicode/utf8.acceptRanges", "unicode.White_Space"], apart := false, laid := [("unicode/utf8.acceptRanges", laid_unicode_utf8_acceptRanges), ("unicode.White_Space", laid_unicode_White_Space), ("strings.asciiSpace", laid_strings_asciiSpace), ("unicode/utf8.first", laid_unicode_utf8_first)] }
def KindNamesSaid : Prop := kindNamesRow.holds Tryd.pinned (OpenSpec.ofChange kindNamesSpec)

/-- ITS FALSE NEIGHBOUR: 'it returns false'. Refute it at one input. -/
def kindNamesWrong : ChangeSpec := { name := "kindNames", fn := fun _ => fun
  | [d] => { results := [.lit (.bool false)], args := [d] }
  | _ => none }
def KindNamesWrongFalsely : Prop := kindNamesRow.holds Tryd.pinned (OpenSpec.ofChange kindNamesWrong)

/-- 'decanterlaw11.KindRules': WHATEVER THE INPUT: true; the input reads as it did. -/
def kindRulesSpec : ChangeSpec := { name := "kindRules", fn := fun _ => fun
  | [d] => { results := [.lit (.bool true)], args := [d] }
  | _ => none }
def kindRulesRow : OpenClaim := { program := "yteahlapoeiikoaadoor", sum := "bf188be390b1d75cad8c5a0a0cbdd2ae82418faafeae0f1d11c28e065661ecdc", func := "decanter/decanterlaw11.KindRules", spec := "kindRules", unfollowed := true, recurses := true, named := ["strings.asciiSpace", "unicode/utf8.first", "unicode/utf8.acceptRanges", "unicode.White_Space"], apart := false, laid := [("unicode/utf8.acceptRanges", laid_unicode_utf8_acceptRanges), ("unicode.White_Space", laid_unicode_White_Space), ("strings.asciiSpace", laid_strings_asciiSpace), ("unicode/utf8.first", laid_unicode_utf8_first)] }
def KindRulesSaid : Prop := kindRulesRow.holds Tryd.pinned (OpenSpec.ofChange kindRulesSpec)

/-- ITS FALSE NEIGHBOUR: 'it returns false'. Refute it at one input. -/
def kindRulesWrong : ChangeSpec := { name := "kindRules", fn := fun _ => fun
  | [d] => { results := [.lit (.bool false)], args := [d] }
  | _ => none }
def KindRulesWrongFalsely : Prop := kindRulesRow.holds Tryd.pinned (OpenSpec.ofChange kindRulesWrong)

/-- 'decanterlaw11.KindUnions': WHATEVER THE INPUT: true; the input reads as it did. -/
def kindUnionsSpec : ChangeSpec := { name := "kindUnions", fn := fun _ => fun
  | [d1, d2] => { results := [.lit (.bool true)], args := [d1, d2] }
  | _ => none }
def kindUnionsRow : OpenClaim := { program := "yteahlapoeiikoaadoor", sum := "bf188be390b1d75cad8c5a0a0cbdd2ae82418faafeae0f1d11c28e065661ecdc", func := "decanter/decanterlaw11.KindUnions", spec := "kindUnions", unfollowed := true, recurses := true, named := ["strings.asciiSpace", "unicode/utf8.first", "unicode/utf8.acceptRanges", "unicode.White_Space"], apart := false, laid := [("unicode/utf8.acceptRanges", laid_unicode_utf8_acceptRanges), ("unicode.White_Space", laid_unicode_White_Space), ("strings.asciiSpace", laid_strings_asciiSpace), ("unicode/utf8.first", laid_unicode_utf8_first)] }
def KindUnionsSaid : Prop := kindUnionsRow.holds Tryd.pinned (OpenSpec.ofChange kindUnionsSpec)

/-- ITS FALSE NEIGHBOUR: 'it returns false'. Refute it at one input. -/
def kindUnionsWrong : ChangeSpec := { name := "kindUnions", fn := fun _ => fun
  | [d1, d2] => { results := [.lit (.bool false)], args := [d1, d2] }
  | _ => none }
def KindUnionsWrongFalsely : Prop := kindUnionsRow.holds Tryd.pinned (OpenSpec.ofChange kindUnionsWrong)

/-- 'decanterlaw11.KindPlain': WHATEVER THE INPUT: true; the input reads as it did. -/
def kindPlainSpec : ChangeSpec := { name := "kindPlain", fn := fun _ => fun
  | [d1, d2] => { results := [.lit (.bool true)], args := [d1, d2] }
  | _ => none }
def kindPlainRow : OpenClaim := { program := "yteahlapoeiikoaadoor", sum := "bf188be390b1d75cad8c5a0a0cbdd2ae82418faafeae0f1d11c28e065661ecdc", func := "decanter/decanterlaw11.KindPlain", spec := "kindPlain", unfollowed := true, recurses := true, named := ["strings.asciiSpace", "unicode/utf8.first", "unicode/utf8.acceptRanges", "unicode.White_Space"], apart := false, laid := [("unicode/utf8.acceptRanges", laid_unicode_utf8_acceptRanges), ("unicode.White_Space", laid_unicode_White_Space), ("strings.asciiSpace", laid_strings_asciiSpace), ("unicode/utf8.first", laid_unicode_utf8_first)] }
def KindPlainSaid : Prop := kindPlainRow.holds Tryd.pinned (OpenSpec.ofChange kindPlainSpec)

/-- ITS FALSE NEIGHBOUR: 'it returns false'. Refute it at one input. -/
def kindPlainWrong : ChangeSpec := { name := "kindPlain", fn := fun _ => fun
  | [d1, d2] => { results := [.lit (.bool false)], args := [d1, d2] }
  | _ => none }
def KindPlainWrongFalsely : Prop := kindPlainRow.holds Tryd.pinned (OpenSpec.ofChange kindPlainWrong)

/- THE SECOND FORM. 'bulk': how many values and letters a reading holds, each counted each time it is reached (what is shared counts as often as it is met; a slice's spare places count too). A statement '..UptoSaid' is the law's where the arguments, and the package variables that the reading takes, are together of bulk at most 1048576: NARROWER than '..Said'. Prove '..Said' where nothing that the law and all that it calls make is longer than what came in: it says more and counts as full. Else prove '..UptoSaid'. A law counts once. -/
mutual
def uptoBulk {H : Type} : DataW H → Nat
  | .lit (.string bytes) => bytes.length + 1
  | .lit _ => 1
  | .nil => 1
  | .ptr d => uptoBulk d + 1
  | .slice elems spare => uptoBulkAll elems + uptoBulkAll spare + 1
  | .agg parts => uptoBulkAll parts + 1
  | .iface _ d => uptoBulk d + 1
  | .map entries => uptoBulkEntries entries + 1
  | .held _ => 1
def uptoBulkAll {H : Type} : List (DataW H) → Nat
  | [] => 0
  | d :: r => uptoBulk d + uptoBulkAll r
def uptoBulkEntries {H : Type} : List (Lit × DataW H) → Nat
  | [] => 0
  | x :: r => uptoBulkEntry x + uptoBulkEntries r
def uptoBulkEntry {H : Type} : Lit × DataW H → Nat
  | (.string bytes, d) => bytes.length + uptoBulk d + 1
  | (_, d) => uptoBulk d + 1
 end
def uptoSmall : (H : Type) → List (DataW H) → Bool := fun _ ds => decide (uptoBulkAll ds ≤ 1048576)
def OpenSpec.upto (s : _root_.Go.ChangeSpec) : _root_.Go.OpenSpec := { _root_.Go.OpenSpec.ofChange s with cond := some uptoSmall }

/-- 'decanterlaw11.KindTells', WHERE WHAT IT READS IS OF BULK AT MOST 1048576: true; the input reads as it did. -/
def kindTellsUptoRow : OpenClaim := { program := "yteahlapoeiikoaadoor", sum := "bf188be390b1d75cad8c5a0a0cbdd2ae82418faafeae0f1d11c28e065661ecdc", func := "decanter/decanterlaw11.KindTells", spec := "kindTells", unfollowed := true, recurses := true, named := ["strings.asciiSpace", "unicode/utf8.first", "unicode/utf8.acceptRanges", "unicode.White_Space"], apart := false, laid := [("unicode/utf8.acceptRanges", laid_unicode_utf8_acceptRanges), ("unicode.White_Space", laid_unicode_White_Space), ("strings.asciiSpace", laid_strings_asciiSpace), ("unicode/utf8.first", laid_unicode_utf8_first)], narrowed := true }
def KindTellsUptoSaid : Prop := kindTellsUptoRow.holds Tryd.pinned (OpenSpec.upto kindTellsSpec)

/-- 'decanterlaw21.FitIn', WHERE WHAT IT READS IS OF BULK AT MOST 1048576: true; the input reads as it did. -/
def fitInUptoRow : OpenClaim := { program := "yteahlapoeiikoaadoor", sum := "bf188be390b1d75cad8c5a0a0cbdd2ae82418faafeae0f1d11c28e065661ecdc", func := "decanter/decanterlaw21.FitIn", spec := "fitIn", unfollowed := true, recurses := true, named := ["strings.asciiSpace", "unicode/utf8.first", "unicode/utf8.acceptRanges", "unicode.White_Space"], apart := false, laid := [("unicode/utf8.acceptRanges", laid_unicode_utf8_acceptRanges), ("unicode.White_Space", laid_unicode_White_Space), ("strings.asciiSpace", laid_strings_asciiSpace), ("unicode/utf8.first", laid_unicode_utf8_first)], narrowed := true }
def FitInUptoSaid : Prop := fitInUptoRow.holds Tryd.pinned (OpenSpec.upto fitInSpec)

/-- 'decanterlaw21.FitOuter', WHERE WHAT IT READS IS OF BULK AT MOST 1048576: true; the input reads as it did. -/
def fitOuterUptoRow : OpenClaim := { program := "yteahlapoeiikoaadoor", sum := "bf188be390b1d75cad8c5a0a0cbdd2ae82418faafeae0f1d11c28e065661ecdc", func := "decanter/decanterlaw21.FitOuter", spec := "fitOuter", unfollowed := true, recurses := true, named := ["strings.asciiSpace", "unicode/utf8.first", "unicode/utf8.acceptRanges", "unicode.White_Space"], apart := false, laid := [("unicode/utf8.acceptRanges", laid_unicode_utf8_acceptRanges), ("unicode.White_Space", laid_unicode_White_Space), ("strings.asciiSpace", laid_strings_asciiSpace), ("unicode/utf8.first", laid_unicode_utf8_first)], narrowed := true }
def FitOuterUptoSaid : Prop := fitOuterUptoRow.holds Tryd.pinned (OpenSpec.upto fitOuterSpec)

/-- 'decanterlaw20.PolicyChecks', WHERE WHAT IT READS IS OF BULK AT MOST 1048576: true; the input reads as it did. -/
def policyChecksUptoRow : OpenClaim := { program := "yteahlapoeiikoaadoor", sum := "bf188be390b1d75cad8c5a0a0cbdd2ae82418faafeae0f1d11c28e065661ecdc", func := "decanter/decanterlaw20.PolicyChecks", spec := "policyChecks", inPlace := ["internal/bytealg.IndexByteString", "internal/bytealg.IndexString"], unfollowed := true, recurses := true, named := ["strings.asciiSpace", "unicode/utf8.first", "unicode/utf8.acceptRanges", "unicode.White_Space", "decanter/policy.never", "decanter/policy.bad", "internal/bytealg.MaxLen"], apart := false, laid := [("unicode/utf8.acceptRanges", laid_unicode_utf8_acceptRanges), ("unicode.White_Space", laid_unicode_White_Space), ("strings.asciiSpace", laid_strings_asciiSpace), ("decanter/policy.never", laid_decanter_policy_never), ("decanter/policy.bad", laid_decanter_policy_bad), ("unicode/utf8.first", laid_unicode_utf8_first)], narrowed := true }
def PolicyChecksUptoSaid : Prop := policyChecksUptoRow.holds Tryd.pinned (OpenSpec.upto policyChecksSpec)

/-- 'decanterlaw21.FitSound', WHERE WHAT IT READS IS OF BULK AT MOST 1048576: true; the input reads as it did. -/
def fitSoundUptoRow : OpenClaim := { program := "yteahlapoeiikoaadoor", sum := "bf188be390b1d75cad8c5a0a0cbdd2ae82418faafeae0f1d11c28e065661ecdc", func := "decanter/decanterlaw21.FitSound", spec := "fitSound", inPlace := ["internal/bytealg.IndexByteString", "internal/bytealg.IndexString"], unfollowed := true, recurses := true, named := ["strings.asciiSpace", "unicode/utf8.first", "unicode/utf8.acceptRanges", "unicode.White_Space", "internal/bytealg.MaxLen"], loops := true, apart := false, laid := [("unicode/utf8.acceptRanges", laid_unicode_utf8_acceptRanges), ("unicode.White_Space", laid_unicode_White_Space), ("strings.asciiSpace", laid_strings_asciiSpace), ("unicode/utf8.first", laid_unicode_utf8_first)], narrowed := true }
def FitSoundUptoSaid : Prop := fitSoundUptoRow.holds Tryd.pinned (OpenSpec.upto fitSoundSpec)

/-- 'decanterlaw21.FitFronts', WHERE WHAT IT READS IS OF BULK AT MOST 1048576: true; the input reads as it did. -/
def fitFrontsUptoRow : OpenClaim := { program := "yteahlapoeiikoaadoor", sum := "bf188be390b1d75cad8c5a0a0cbdd2ae82418faafeae0f1d11c28e065661ecdc", func := "decanter/decanterlaw21.FitFronts", spec := "fitFronts", inPlace := ["internal/bytealg.IndexByteString", "internal/bytealg.IndexString"], unfollowed := true, recurses := true, named := ["strings.asciiSpace", "unicode/utf8.first", "unicode/utf8.acceptRanges", "unicode.White_Space", "internal/bytealg.MaxLen"], loops := true, apart := false, laid := [("unicode/utf8.acceptRanges", laid_unicode_utf8_acceptRanges), ("unicode.White_Space", laid_unicode_White_Space), ("strings.asciiSpace", laid_strings_asciiSpace), ("unicode/utf8.first", laid_unicode_utf8_first)], narrowed := true }
def FitFrontsUptoSaid : Prop := fitFrontsUptoRow.holds Tryd.pinned (OpenSpec.upto fitFrontsSpec)

/-- 'decanterlaw11.KindNames', WHERE WHAT IT READS IS OF BULK AT MOST 1048576: true; the input reads as it did. -/
def kindNamesUptoRow : OpenClaim := { program := "yteahlapoeiikoaadoor", sum := "bf188be390b1d75cad8c5a0a0cbdd2ae82418faafeae0f1d11c28e065661ecdc", func := "decanter/decanterlaw11.KindNames", spec := "kindNames", unfollowed := true, recurses := true, named := ["strings.asciiSpace", "unicode/utf8.first", "unicode/utf8.acceptRanges", "unicode.White_Space"], apart := false, laid := [("unicode/utf8.acceptRanges", laid_unicode_utf8_acceptRanges), ("unicode.White_Space", laid_unicode_White_Space), ("strings.asciiSpace", laid_strings_asciiSpace), ("unicode/utf8.first", laid_unicode_utf8_first)], narrowed := true }
def KindNamesUptoSaid : Prop := kindNamesUptoRow.holds Tryd.pinned (OpenSpec.upto kindNamesSpec)

/-- 'decanterlaw11.KindRules', WHERE WHAT IT READS IS OF BULK AT MOST 1048576: true; the input reads as it did. -/
def kindRulesUptoRow : OpenClaim := { program := "yteahlapoeiikoaadoor", sum := "bf188be390b1d75cad8c5a0a0cbdd2ae82418faafeae0f1d11c28e065661ecdc", func := "decanter/decanterlaw11.KindRules", spec := "kindRules", unfollowed := true, recurses := true, named := ["strings.asciiSpace", "unicode/utf8.first", "unicode/utf8.acceptRanges", "unicode.White_Space"], apart := false, laid := [("unicode/utf8.acceptRanges", laid_unicode_utf8_acceptRanges), ("unicode.White_Space", laid_unicode_White_Space), ("strings.asciiSpace", laid_strings_asciiSpace), ("unicode/utf8.first", laid_unicode_utf8_first)], narrowed := true }
def KindRulesUptoSaid : Prop := kindRulesUptoRow.holds Tryd.pinned (OpenSpec.upto kindRulesSpec)

/-- 'decanterlaw11.KindUnions', WHERE WHAT IT READS IS OF BULK AT MOST 1048576: true; the input reads as it did. -/
def kindUnionsUptoRow : OpenClaim := { program := "yteahlapoeiikoaadoor", sum := "bf188be390b1d75cad8c5a0a0cbdd2ae82418faafeae0f1d11c28e065661ecdc", func := "decanter/decanterlaw11.KindUnions", spec := "kindUnions", unfollowed := true, recurses := true, named := ["strings.asciiSpace", "unicode/utf8.first", "unicode/utf8.acceptRanges", "unicode.White_Space"], apart := false, laid := [("unicode/utf8.acceptRanges", laid_unicode_utf8_acceptRanges), ("unicode.White_Space", laid_unicode_White_Space), ("strings.asciiSpace", laid_strings_asciiSpace), ("unicode/utf8.first", laid_unicode_utf8_first)], narrowed := true }
def KindUnionsUptoSaid : Prop := kindUnionsUptoRow.holds Tryd.pinned (OpenSpec.upto kindUnionsSpec)

/-- 'decanterlaw11.KindPlain', WHERE WHAT IT READS IS OF BULK AT MOST 1048576: true; the input reads as it did. -/
def kindPlainUptoRow : OpenClaim := { program := "yteahlapoeiikoaadoor", sum := "bf188be390b1d75cad8c5a0a0cbdd2ae82418faafeae0f1d11c28e065661ecdc", func := "decanter/decanterlaw11.KindPlain", spec := "kindPlain", unfollowed := true, recurses := true, named := ["strings.asciiSpace", "unicode/utf8.first", "unicode/utf8.acceptRanges", "unicode.White_Space"], apart := false, laid := [("unicode/utf8.acceptRanges", laid_unicode_utf8_acceptRanges), ("unicode.White_Space", laid_unicode_White_Space), ("strings.asciiSpace", laid_strings_asciiSpace), ("unicode/utf8.first", laid_unicode_utf8_first)], narrowed := true }
def KindPlainUptoSaid : Prop := kindPlainUptoRow.holds Tryd.pinned (OpenSpec.upto kindPlainSpec)

end Rows
end Go.Proofs.YteahlapoeiikoaaDoor
