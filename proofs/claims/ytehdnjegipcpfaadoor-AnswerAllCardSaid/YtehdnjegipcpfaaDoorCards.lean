/-
  DERIVED. GIVEN WITH THE SEED: THE CARDS: each row of YtehdnjegipcpfaaDoorRows.lean that lists a variable, with what it lists TIED to the program's text (the seventh form; the later family's looks); each row that meets fmt, with fmt's text TOLD by the authors' own Lean function (tested against real Go, not proved from fmt's source: count such statements apart). THE CARD IS WHAT COUNTS. Prove the row's statement (the work); the ties are given (YtehdnjegipcpfaaDoorTie.lean); close each card by the builder's one call (the guide's Derived/Test/ToyasCard.lean, 'card_holds'). Laid BY PROGRAM, IN A SANDBOX (cutbox-door.mjs). By AI agents, Wed Nov 11 2026. No macro, syntax, notation, axiom, sorry.
-/
import Derived.Test.YtehdnjegipcpfaaDoorRows
import GoSem.ClaimSeven
namespace Go.Proofs.YtehdnjegipcpfaaDoor
namespace Rows

/-- THE TIED CARD OF 'munimentlaw15.FilterHolds'. -/
def filterHoldsCard : Claim7 := { stood := { row := filterHoldsRow, standIns := [], harness := (true, "03ac8b32ad9568ebe7b9614a67e3e9081c3494e94fb46662332154a7374a59a4"), looks := false }, kinds := [], alts := [], laidByText := true, laidKinds := [.data, .pinned], laidTests := true, laidLooks := .later }
def FilterHoldsCardSaid : Prop := Claim7.holds Tryd.pinned (.plain (OpenSpec.ofChange filterHoldsSpec)) filterHoldsCard

/-- THE TIED CARD OF 'munimentlaw15.FilterLogic'. -/
def filterLogicCard : Claim7 := { stood := { row := filterLogicRow, standIns := [], harness := (true, "03ac8b32ad9568ebe7b9614a67e3e9081c3494e94fb46662332154a7374a59a4"), looks := false }, kinds := [], alts := [], laidByText := true, laidKinds := [.data, .pinned], laidTests := true, laidLooks := .later }
def FilterLogicCardSaid : Prop := Claim7.holds Tryd.pinned (.plain (OpenSpec.ofChange filterLogicSpec)) filterLogicCard

/-- THE TIED CARD OF 'munimentlaw15.FilterTests'. -/
def filterTestsCard : Claim7 := { stood := { row := filterTestsRow, standIns := [], harness := (true, "03ac8b32ad9568ebe7b9614a67e3e9081c3494e94fb46662332154a7374a59a4"), looks := false }, kinds := [], alts := [], laidByText := true, laidKinds := [.data, .pinned], laidTests := true, laidLooks := .later }
def FilterTestsCardSaid : Prop := Claim7.holds Tryd.pinned (.plain (OpenSpec.ofChange filterTestsSpec)) filterTestsCard

/-- THE TIED CARD OF 'munimentlaw15.FilterIn'. -/
def filterInCard : Claim7 := { stood := { row := filterInRow, standIns := [], harness := (true, "03ac8b32ad9568ebe7b9614a67e3e9081c3494e94fb46662332154a7374a59a4"), looks := false }, kinds := [], alts := [], laidByText := true, laidKinds := [.data, .pinned], laidTests := true, laidLooks := .later }
def FilterInCardSaid : Prop := Claim7.holds Tryd.pinned (.plain (OpenSpec.ofChange filterInSpec)) filterInCard

/-- THE TIED CARD OF 'munimentlaw15.FilterChecks'. -/
def filterChecksCard : Claim7 := { stood := { row := filterChecksRow, standIns := [], harness := (true, "03ac8b32ad9568ebe7b9614a67e3e9081c3494e94fb46662332154a7374a59a4"), looks := false }, kinds := [], alts := [], laidByText := true, laidKinds := [.data, .pinned], laidTests := true, laidLooks := .later }
def FilterChecksCardSaid : Prop := Claim7.holds Tryd.pinned (.plain (OpenSpec.ofChange filterChecksSpec)) filterChecksCard

/-- THE TIED CARD OF 'munimentlaw16.AnswerOrder'. -/
def answerOrderCard : Claim7 := { stood := { row := answerOrderRow, standIns := [], harness := (true, "03ac8b32ad9568ebe7b9614a67e3e9081c3494e94fb46662332154a7374a59a4"), looks := false }, kinds := [], alts := [], laidByText := true, laidKinds := [.data, .pinned], laidTests := true, laidLooks := .later }
def AnswerOrderCardSaid : Prop := Claim7.holds Tryd.pinned (.plain (OpenSpec.ofChange answerOrderSpec)) answerOrderCard

/-- THE TIED CARD OF 'munimentlaw16.AnswerPages'. -/
def answerPagesCard : Claim7 := { stood := { row := answerPagesRow, standIns := [], harness := (true, "03ac8b32ad9568ebe7b9614a67e3e9081c3494e94fb46662332154a7374a59a4"), looks := false }, kinds := [], alts := [], laidByText := true, laidKinds := [.data, .pinned], laidTests := true, laidLooks := .later }
def AnswerPagesCardSaid : Prop := Claim7.holds Tryd.pinned (.plain (OpenSpec.ofChange answerPagesSpec)) answerPagesCard

/-- THE TIED CARD OF 'munimentlaw16.AnswerAll'. -/
def answerAllCard : Claim7 := { stood := { row := answerAllRow, standIns := [], harness := (true, "03ac8b32ad9568ebe7b9614a67e3e9081c3494e94fb46662332154a7374a59a4"), looks := false }, kinds := [], alts := [], laidByText := true, laidKinds := [.data, .pinned], laidTests := true, laidLooks := .later }
def AnswerAllCardSaid : Prop := Claim7.holds Tryd.pinned (.plain (OpenSpec.ofChange answerAllSpec)) answerAllCard

/-- THE SECOND FORM's CARD OF 'munimentlaw15.FilterHolds'. -/
def filterHoldsUptoCard : Claim7 := { stood := { row := filterHoldsUptoRow, standIns := [], harness := (true, "03ac8b32ad9568ebe7b9614a67e3e9081c3494e94fb46662332154a7374a59a4"), looks := false }, kinds := [], alts := [], laidByText := true, laidKinds := [.data, .pinned], laidTests := true, laidLooks := .later }
def FilterHoldsUptoCardSaid : Prop := Claim7.holds Tryd.pinned (.plain (OpenSpec.upto filterHoldsSpec)) filterHoldsUptoCard

/-- THE SECOND FORM's CARD OF 'munimentlaw15.FilterLogic'. -/
def filterLogicUptoCard : Claim7 := { stood := { row := filterLogicUptoRow, standIns := [], harness := (true, "03ac8b32ad9568ebe7b9614a67e3e9081c3494e94fb46662332154a7374a59a4"), looks := false }, kinds := [], alts := [], laidByText := true, laidKinds := [.data, .pinned], laidTests := true, laidLooks := .later }
def FilterLogicUptoCardSaid : Prop := Claim7.holds Tryd.pinned (.plain (OpenSpec.upto filterLogicSpec)) filterLogicUptoCard

/-- THE SECOND FORM's CARD OF 'munimentlaw15.FilterTests'. -/
def filterTestsUptoCard : Claim7 := { stood := { row := filterTestsUptoRow, standIns := [], harness := (true, "03ac8b32ad9568ebe7b9614a67e3e9081c3494e94fb46662332154a7374a59a4"), looks := false }, kinds := [], alts := [], laidByText := true, laidKinds := [.data, .pinned], laidTests := true, laidLooks := .later }
def FilterTestsUptoCardSaid : Prop := Claim7.holds Tryd.pinned (.plain (OpenSpec.upto filterTestsSpec)) filterTestsUptoCard

/-- THE SECOND FORM's CARD OF 'munimentlaw15.FilterIn'. -/
def filterInUptoCard : Claim7 := { stood := { row := filterInUptoRow, standIns := [], harness := (true, "03ac8b32ad9568ebe7b9614a67e3e9081c3494e94fb46662332154a7374a59a4"), looks := false }, kinds := [], alts := [], laidByText := true, laidKinds := [.data, .pinned], laidTests := true, laidLooks := .later }
def FilterInUptoCardSaid : Prop := Claim7.holds Tryd.pinned (.plain (OpenSpec.upto filterInSpec)) filterInUptoCard

/-- THE SECOND FORM's CARD OF 'munimentlaw15.FilterChecks'. -/
def filterChecksUptoCard : Claim7 := { stood := { row := filterChecksUptoRow, standIns := [], harness := (true, "03ac8b32ad9568ebe7b9614a67e3e9081c3494e94fb46662332154a7374a59a4"), looks := false }, kinds := [], alts := [], laidByText := true, laidKinds := [.data, .pinned], laidTests := true, laidLooks := .later }
def FilterChecksUptoCardSaid : Prop := Claim7.holds Tryd.pinned (.plain (OpenSpec.upto filterChecksSpec)) filterChecksUptoCard

/-- THE SECOND FORM's CARD OF 'munimentlaw16.AnswerOrder'. -/
def answerOrderUptoCard : Claim7 := { stood := { row := answerOrderUptoRow, standIns := [], harness := (true, "03ac8b32ad9568ebe7b9614a67e3e9081c3494e94fb46662332154a7374a59a4"), looks := false }, kinds := [], alts := [], laidByText := true, laidKinds := [.data, .pinned], laidTests := true, laidLooks := .later }
def AnswerOrderUptoCardSaid : Prop := Claim7.holds Tryd.pinned (.plain (OpenSpec.upto answerOrderSpec)) answerOrderUptoCard

/-- THE SECOND FORM's CARD OF 'munimentlaw16.AnswerPages'. -/
def answerPagesUptoCard : Claim7 := { stood := { row := answerPagesUptoRow, standIns := [], harness := (true, "03ac8b32ad9568ebe7b9614a67e3e9081c3494e94fb46662332154a7374a59a4"), looks := false }, kinds := [], alts := [], laidByText := true, laidKinds := [.data, .pinned], laidTests := true, laidLooks := .later }
def AnswerPagesUptoCardSaid : Prop := Claim7.holds Tryd.pinned (.plain (OpenSpec.upto answerPagesSpec)) answerPagesUptoCard

/-- THE SECOND FORM's CARD OF 'munimentlaw16.AnswerAll'. -/
def answerAllUptoCard : Claim7 := { stood := { row := answerAllUptoRow, standIns := [], harness := (true, "03ac8b32ad9568ebe7b9614a67e3e9081c3494e94fb46662332154a7374a59a4"), looks := false }, kinds := [], alts := [], laidByText := true, laidKinds := [.data, .pinned], laidTests := true, laidLooks := .later }
def AnswerAllUptoCardSaid : Prop := Claim7.holds Tryd.pinned (.plain (OpenSpec.upto answerAllSpec)) answerAllUptoCard
end Rows
end Go.Proofs.YtehdnjegipcpfaaDoor
