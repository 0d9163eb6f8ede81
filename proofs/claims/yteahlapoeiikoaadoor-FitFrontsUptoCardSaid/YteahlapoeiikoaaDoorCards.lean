/-
  DERIVED. GIVEN WITH THE SEED: THE CARDS: each row of YteahlapoeiikoaaDoorRows.lean that lists a variable, with what it lists TIED to the program's text (the seventh form; the later family's looks); each row that meets fmt, with fmt's text TOLD by the authors' own Lean function (tested against real Go, not proved from fmt's source: count such statements apart). THE CARD IS WHAT COUNTS. Prove the row's statement (the work); the ties are given (YteahlapoeiikoaaDoorTie.lean); close each card by the builder's one call (the guide's Derived/Test/ToyasCard.lean, 'card_holds'). Laid BY PROGRAM, IN A SANDBOX (cutbox-door.mjs). By AI agents, Wed Nov 11 2026. No macro, syntax, notation, axiom, sorry.
-/
import Derived.Test.YteahlapoeiikoaaDoorRows
import GoSem.ClaimSeven
namespace Go.Proofs.YteahlapoeiikoaaDoor
namespace Rows

/-- THE TIED CARD OF 'decanterlaw11.KindTells'. -/
def kindTellsCard : Claim7 := { stood := { row := kindTellsRow, standIns := [], harness := (true, "51525e944344c29decb54ec577acbf3348ca9b8a703caf5081f5b4d3771fdf41"), looks := false }, kinds := [], alts := [], laidByText := true, laidKinds := [.data, .listed, .data, .pinned], laidTests := true, laidLooks := .later }
def KindTellsCardSaid : Prop := Claim7.holds Tryd.pinned (.plain (OpenSpec.ofChange kindTellsSpec)) kindTellsCard

/-- THE TIED CARD OF 'decanterlaw21.FitIn'. -/
def fitInCard : Claim7 := { stood := { row := fitInRow, standIns := [], harness := (true, "51525e944344c29decb54ec577acbf3348ca9b8a703caf5081f5b4d3771fdf41"), looks := false }, kinds := [], alts := [], laidByText := true, laidKinds := [.data, .listed, .data, .pinned], laidTests := true, laidLooks := .later }
def FitInCardSaid : Prop := Claim7.holds Tryd.pinned (.plain (OpenSpec.ofChange fitInSpec)) fitInCard

/-- THE TIED CARD OF 'decanterlaw21.FitOuter'. -/
def fitOuterCard : Claim7 := { stood := { row := fitOuterRow, standIns := [], harness := (true, "51525e944344c29decb54ec577acbf3348ca9b8a703caf5081f5b4d3771fdf41"), looks := false }, kinds := [], alts := [], laidByText := true, laidKinds := [.data, .listed, .data, .pinned], laidTests := true, laidLooks := .later }
def FitOuterCardSaid : Prop := Claim7.holds Tryd.pinned (.plain (OpenSpec.ofChange fitOuterSpec)) fitOuterCard

/-- THE TIED CARD OF 'decanterlaw20.PolicyChecks'. -/
def policyChecksCard : Claim7 := { stood := { row := policyChecksRow, standIns := [], harness := (true, "51525e944344c29decb54ec577acbf3348ca9b8a703caf5081f5b4d3771fdf41"), looks := false }, kinds := [], alts := [], laidByText := true, laidKinds := [.data, .listed, .data, .widerDeep, .widerDeep, .pinned], laidTests := true, laidLooks := .later }
def PolicyChecksCardSaid : Prop := Claim7.holds Tryd.pinned (.plain (OpenSpec.ofChange policyChecksSpec)) policyChecksCard

/-- THE TIED CARD OF 'decanterlaw21.FitSound'. -/
def fitSoundCard : Claim7 := { stood := { row := fitSoundRow, standIns := [], harness := (true, "51525e944344c29decb54ec577acbf3348ca9b8a703caf5081f5b4d3771fdf41"), looks := false }, kinds := [], alts := [], laidByText := true, laidKinds := [.data, .listed, .data, .pinned], laidTests := true, laidLooks := .later }
def FitSoundCardSaid : Prop := Claim7.holds Tryd.pinned (.plain (OpenSpec.ofChange fitSoundSpec)) fitSoundCard

/-- THE TIED CARD OF 'decanterlaw21.FitFronts'. -/
def fitFrontsCard : Claim7 := { stood := { row := fitFrontsRow, standIns := [], harness := (true, "51525e944344c29decb54ec577acbf3348ca9b8a703caf5081f5b4d3771fdf41"), looks := false }, kinds := [], alts := [], laidByText := true, laidKinds := [.data, .listed, .data, .pinned], laidTests := true, laidLooks := .later }
def FitFrontsCardSaid : Prop := Claim7.holds Tryd.pinned (.plain (OpenSpec.ofChange fitFrontsSpec)) fitFrontsCard

/-- THE TIED CARD OF 'decanterlaw11.KindNames'. -/
def kindNamesCard : Claim7 := { stood := { row := kindNamesRow, standIns := [], harness := (true, "51525e944344c29decb54ec577acbf3348ca9b8a703caf5081f5b4d3771fdf41"), looks := false }, kinds := [], alts := [], laidByText := true, laidKinds := [.data, .listed, .data, .pinned], laidTests := true, laidLooks := .later }
def KindNamesCardSaid : Prop := Claim7.holds Tryd.pinned (.plain (OpenSpec.ofChange kindNamesSpec)) kindNamesCard

/-- THE TIED CARD OF 'decanterlaw11.KindRules'. -/
def kindRulesCard : Claim7 := { stood := { row := kindRulesRow, standIns := [], harness := (true, "51525e944344c29decb54ec577acbf3348ca9b8a703caf5081f5b4d3771fdf41"), looks := false }, kinds := [], alts := [], laidByText := true, laidKinds := [.data, .listed, .data, .pinned], laidTests := true, laidLooks := .later }
def KindRulesCardSaid : Prop := Claim7.holds Tryd.pinned (.plain (OpenSpec.ofChange kindRulesSpec)) kindRulesCard

/-- THE TIED CARD OF 'decanterlaw11.KindUnions'. -/
def kindUnionsCard : Claim7 := { stood := { row := kindUnionsRow, standIns := [], harness := (true, "51525e944344c29decb54ec577acbf3348ca9b8a703caf5081f5b4d3771fdf41"), looks := false }, kinds := [], alts := [], laidByText := true, laidKinds := [.data, .listed, .data, .pinned], laidTests := true, laidLooks := .later }
def KindUnionsCardSaid : Prop := Claim7.holds Tryd.pinned (.plain (OpenSpec.ofChange kindUnionsSpec)) kindUnionsCard

/-- THE TIED CARD OF 'decanterlaw11.KindPlain'. -/
def kindPlainCard : Claim7 := { stood := { row := kindPlainRow, standIns := [], harness := (true, "51525e944344c29decb54ec577acbf3348ca9b8a703caf5081f5b4d3771fdf41"), looks := false }, kinds := [], alts := [], laidByText := true, laidKinds := [.data, .listed, .data, .pinned], laidTests := true, laidLooks := .later }
def KindPlainCardSaid : Prop := Claim7.holds Tryd.pinned (.plain (OpenSpec.ofChange kindPlainSpec)) kindPlainCard

/-- THE SECOND FORM's CARD OF 'decanterlaw11.KindTells'. -/
def kindTellsUptoCard : Claim7 := { stood := { row := kindTellsUptoRow, standIns := [], harness := (true, "51525e944344c29decb54ec577acbf3348ca9b8a703caf5081f5b4d3771fdf41"), looks := false }, kinds := [], alts := [], laidByText := true, laidKinds := [.data, .listed, .data, .pinned], laidTests := true, laidLooks := .later }
def KindTellsUptoCardSaid : Prop := Claim7.holds Tryd.pinned (.plain (OpenSpec.upto kindTellsSpec)) kindTellsUptoCard

/-- THE SECOND FORM's CARD OF 'decanterlaw21.FitIn'. -/
def fitInUptoCard : Claim7 := { stood := { row := fitInUptoRow, standIns := [], harness := (true, "51525e944344c29decb54ec577acbf3348ca9b8a703caf5081f5b4d3771fdf41"), looks := false }, kinds := [], alts := [], laidByText := true, laidKinds := [.data, .listed, .data, .pinned], laidTests := true, laidLooks := .later }
def FitInUptoCardSaid : Prop := Claim7.holds Tryd.pinned (.plain (OpenSpec.upto fitInSpec)) fitInUptoCard

/-- THE SECOND FORM's CARD OF 'decanterlaw21.FitOuter'. -/
def fitOuterUptoCard : Claim7 := { stood := { row := fitOuterUptoRow, standIns := [], harness := (true, "51525e944344c29decb54ec577acbf3348ca9b8a703caf5081f5b4d3771fdf41"), looks := false }, kinds := [], alts := [], laidByText := true, laidKinds := [.data, .listed, .data, .pinned], laidTests := true, laidLooks := .later }
def FitOuterUptoCardSaid : Prop := Claim7.holds Tryd.pinned (.plain (OpenSpec.upto fitOuterSpec)) fitOuterUptoCard

/-- THE SECOND FORM's CARD OF 'decanterlaw20.PolicyChecks'. -/
def policyChecksUptoCard : Claim7 := { stood := { row := policyChecksUptoRow, standIns := [], harness := (true, "51525e944344c29decb54ec577acbf3348ca9b8a703caf5081f5b4d3771fdf41"), looks := false }, kinds := [], alts := [], laidByText := true, laidKinds := [.data, .listed, .data, .widerDeep, .widerDeep, .pinned], laidTests := true, laidLooks := .later }
def PolicyChecksUptoCardSaid : Prop := Claim7.holds Tryd.pinned (.plain (OpenSpec.upto policyChecksSpec)) policyChecksUptoCard

/-- THE SECOND FORM's CARD OF 'decanterlaw21.FitSound'. -/
def fitSoundUptoCard : Claim7 := { stood := { row := fitSoundUptoRow, standIns := [], harness := (true, "51525e944344c29decb54ec577acbf3348ca9b8a703caf5081f5b4d3771fdf41"), looks := false }, kinds := [], alts := [], laidByText := true, laidKinds := [.data, .listed, .data, .pinned], laidTests := true, laidLooks := .later }
def FitSoundUptoCardSaid : Prop := Claim7.holds Tryd.pinned (.plain (OpenSpec.upto fitSoundSpec)) fitSoundUptoCard

/-- THE SECOND FORM's CARD OF 'decanterlaw21.FitFronts'. -/
def fitFrontsUptoCard : Claim7 := { stood := { row := fitFrontsUptoRow, standIns := [], harness := (true, "51525e944344c29decb54ec577acbf3348ca9b8a703caf5081f5b4d3771fdf41"), looks := false }, kinds := [], alts := [], laidByText := true, laidKinds := [.data, .listed, .data, .pinned], laidTests := true, laidLooks := .later }
def FitFrontsUptoCardSaid : Prop := Claim7.holds Tryd.pinned (.plain (OpenSpec.upto fitFrontsSpec)) fitFrontsUptoCard

/-- THE SECOND FORM's CARD OF 'decanterlaw11.KindNames'. -/
def kindNamesUptoCard : Claim7 := { stood := { row := kindNamesUptoRow, standIns := [], harness := (true, "51525e944344c29decb54ec577acbf3348ca9b8a703caf5081f5b4d3771fdf41"), looks := false }, kinds := [], alts := [], laidByText := true, laidKinds := [.data, .listed, .data, .pinned], laidTests := true, laidLooks := .later }
def KindNamesUptoCardSaid : Prop := Claim7.holds Tryd.pinned (.plain (OpenSpec.upto kindNamesSpec)) kindNamesUptoCard

/-- THE SECOND FORM's CARD OF 'decanterlaw11.KindRules'. -/
def kindRulesUptoCard : Claim7 := { stood := { row := kindRulesUptoRow, standIns := [], harness := (true, "51525e944344c29decb54ec577acbf3348ca9b8a703caf5081f5b4d3771fdf41"), looks := false }, kinds := [], alts := [], laidByText := true, laidKinds := [.data, .listed, .data, .pinned], laidTests := true, laidLooks := .later }
def KindRulesUptoCardSaid : Prop := Claim7.holds Tryd.pinned (.plain (OpenSpec.upto kindRulesSpec)) kindRulesUptoCard

/-- THE SECOND FORM's CARD OF 'decanterlaw11.KindUnions'. -/
def kindUnionsUptoCard : Claim7 := { stood := { row := kindUnionsUptoRow, standIns := [], harness := (true, "51525e944344c29decb54ec577acbf3348ca9b8a703caf5081f5b4d3771fdf41"), looks := false }, kinds := [], alts := [], laidByText := true, laidKinds := [.data, .listed, .data, .pinned], laidTests := true, laidLooks := .later }
def KindUnionsUptoCardSaid : Prop := Claim7.holds Tryd.pinned (.plain (OpenSpec.upto kindUnionsSpec)) kindUnionsUptoCard

/-- THE SECOND FORM's CARD OF 'decanterlaw11.KindPlain'. -/
def kindPlainUptoCard : Claim7 := { stood := { row := kindPlainUptoRow, standIns := [], harness := (true, "51525e944344c29decb54ec577acbf3348ca9b8a703caf5081f5b4d3771fdf41"), looks := false }, kinds := [], alts := [], laidByText := true, laidKinds := [.data, .listed, .data, .pinned], laidTests := true, laidLooks := .later }
def KindPlainUptoCardSaid : Prop := Claim7.holds Tryd.pinned (.plain (OpenSpec.upto kindPlainSpec)) kindPlainUptoCard
end Rows
end Go.Proofs.YteahlapoeiikoaaDoor
