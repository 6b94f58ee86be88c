/-
  DERIVED. GIVEN WITH THE SEED: THE CARDS: each row of YthoikljmokkchaaDoorRows.lean that lists a variable, with what it lists TIED to the program's text (the seventh form; the later family's looks); each row that meets fmt, with fmt's text TOLD by the authors' own Lean function (tested against real Go, not proved from fmt's source: count such statements apart). THE CARD IS WHAT COUNTS. Prove the row's statement (the work); the ties are given (YthoikljmokkchaaDoorTie.lean); close each card by the builder's one call (the guide's Derived/Test/ToyasCard.lean, 'card_holds'). Laid BY PROGRAM, IN A SANDBOX (cutbox-door.mjs). By AI agents, Wed Nov 11 2026. No macro, syntax, notation, axiom, sorry.
-/
import Derived.Test.YthoikljmokkchaaDoorRows
import GoSem.ClaimSeven
namespace Go.Proofs.YthoikljmokkchaaDoor
namespace Rows

/-- THE TIED CARD OF 'perigeelaw20.FrameEncodes'. -/
def frameEncodesCard : Claim7 := { stood := { row := frameEncodesRow, standIns := [], harness := (true, "fb83023597fe268b2dd0c6455f27e1e13a9ac5b74f56e9a9a94fd2ec8004ff22"), looks := false }, kinds := [], alts := [], laidByText := true, laidKinds := [.data], laidTests := true, laidLooks := .later }
def FrameEncodesCardSaid : Prop := Claim7.holds Tryd.pinned (.plain (OpenSpec.ofChange frameEncodesSpec)) frameEncodesCard

/-- THE TIED CARD OF 'perigeelaw20.FrameReceives'. -/
def frameReceivesCard : Claim7 := { stood := { row := frameReceivesRow, standIns := [], harness := (true, "fb83023597fe268b2dd0c6455f27e1e13a9ac5b74f56e9a9a94fd2ec8004ff22"), looks := false }, kinds := [], alts := [], laidByText := true, laidKinds := [.data], laidTests := true, laidLooks := .later }
def FrameReceivesCardSaid : Prop := Claim7.holds Tryd.pinned (.plain (OpenSpec.ofChange frameReceivesSpec)) frameReceivesCard

/-- THE TIED CARD OF 'perigeelaw20.FrameOnce'. -/
def frameOnceCard : Claim7 := { stood := { row := frameOnceRow, standIns := [], harness := (true, "fb83023597fe268b2dd0c6455f27e1e13a9ac5b74f56e9a9a94fd2ec8004ff22"), looks := false }, kinds := [], alts := [], laidByText := true, laidKinds := [.data], laidTests := true, laidLooks := .later }
def FrameOnceCardSaid : Prop := Claim7.holds Tryd.pinned (.plain (OpenSpec.ofChange frameOnceSpec)) frameOnceCard

/-- THE TIED CARD OF 'perigeelaw20.FrameOrder'. -/
def frameOrderCard : Claim7 := { stood := { row := frameOrderRow, standIns := [], harness := (true, "fb83023597fe268b2dd0c6455f27e1e13a9ac5b74f56e9a9a94fd2ec8004ff22"), looks := false }, kinds := [], alts := [], laidByText := true, laidKinds := [.data], laidTests := true, laidLooks := .later }
def FrameOrderCardSaid : Prop := Claim7.holds Tryd.pinned (.plain (OpenSpec.ofChange frameOrderSpec)) frameOrderCard

/-- THE TIED CARD OF 'perigeelaw20.FrameCompletes'. -/
def frameCompletesCard : Claim7 := { stood := { row := frameCompletesRow, standIns := [], harness := (true, "fb83023597fe268b2dd0c6455f27e1e13a9ac5b74f56e9a9a94fd2ec8004ff22"), looks := false }, kinds := [], alts := [], laidByText := true, laidKinds := [.data], laidTests := true, laidLooks := .later }
def FrameCompletesCardSaid : Prop := Claim7.holds Tryd.pinned (.plain (OpenSpec.ofChange frameCompletesSpec)) frameCompletesCard

/-- THE TIED CARD OF 'perigeelaw20.FrameSends'. -/
def frameSendsCard : Claim7 := { stood := { row := frameSendsRow, standIns := [], harness := (true, "fb83023597fe268b2dd0c6455f27e1e13a9ac5b74f56e9a9a94fd2ec8004ff22"), looks := false }, kinds := [], alts := [], laidByText := true, laidKinds := [.data], laidTests := true, laidLooks := .later }
def FrameSendsCardSaid : Prop := Claim7.holds Tryd.pinned (.plain (OpenSpec.ofChange frameSendsSpec)) frameSendsCard

/-- THE TIED CARD OF 'perigeelaw20.FrameUnlocks'. -/
def frameUnlocksCard : Claim7 := { stood := { row := frameUnlocksRow, standIns := [], harness := (true, "fb83023597fe268b2dd0c6455f27e1e13a9ac5b74f56e9a9a94fd2ec8004ff22"), looks := false }, kinds := [], alts := [], laidByText := true, laidKinds := [.data], laidTests := true, laidLooks := .later }
def FrameUnlocksCardSaid : Prop := Claim7.holds Tryd.pinned (.plain (OpenSpec.ofChange frameUnlocksSpec)) frameUnlocksCard

/-- THE TIED CARD OF 'perigeelaw20.FrameDecodes'. -/
def frameDecodesCard : Claim7 := { stood := { row := frameDecodesRow, standIns := [], harness := (true, "fb83023597fe268b2dd0c6455f27e1e13a9ac5b74f56e9a9a94fd2ec8004ff22"), looks := false }, kinds := [], alts := [], laidByText := true, laidKinds := [.data], laidTests := true, laidLooks := .later }
def FrameDecodesCardSaid : Prop := Claim7.holds Tryd.pinned (.plain (OpenSpec.ofChange frameDecodesSpec)) frameDecodesCard

/-- THE TIED CARD OF 'perigeelaw20.FrameRound'. -/
def frameRoundCard : Claim7 := { stood := { row := frameRoundRow, standIns := [], harness := (true, "fb83023597fe268b2dd0c6455f27e1e13a9ac5b74f56e9a9a94fd2ec8004ff22"), looks := false }, kinds := [], alts := [], laidByText := true, laidKinds := [.data], laidTests := true, laidLooks := .later }
def FrameRoundCardSaid : Prop := Claim7.holds Tryd.pinned (.plain (OpenSpec.ofChange frameRoundSpec)) frameRoundCard

/-- THE TIED CARD OF 'perigeelaw20.FrameForged'. -/
def frameForgedCard : Claim7 := { stood := { row := frameForgedRow, standIns := [], harness := (true, "fb83023597fe268b2dd0c6455f27e1e13a9ac5b74f56e9a9a94fd2ec8004ff22"), looks := false }, kinds := [], alts := [], laidByText := true, laidKinds := [.data], laidTests := true, laidLooks := .later }
def FrameForgedCardSaid : Prop := Claim7.holds Tryd.pinned (.plain (OpenSpec.ofChange frameForgedSpec)) frameForgedCard

/-- THE SECOND FORM's CARD OF 'perigeelaw20.FrameEncodes'. -/
def frameEncodesUptoCard : Claim7 := { stood := { row := frameEncodesUptoRow, standIns := [], harness := (true, "fb83023597fe268b2dd0c6455f27e1e13a9ac5b74f56e9a9a94fd2ec8004ff22"), looks := false }, kinds := [], alts := [], laidByText := true, laidKinds := [.data], laidTests := true, laidLooks := .later }
def FrameEncodesUptoCardSaid : Prop := Claim7.holds Tryd.pinned (.plain (OpenSpec.upto frameEncodesSpec)) frameEncodesUptoCard

/-- THE SECOND FORM's CARD OF 'perigeelaw20.FrameReceives'. -/
def frameReceivesUptoCard : Claim7 := { stood := { row := frameReceivesUptoRow, standIns := [], harness := (true, "fb83023597fe268b2dd0c6455f27e1e13a9ac5b74f56e9a9a94fd2ec8004ff22"), looks := false }, kinds := [], alts := [], laidByText := true, laidKinds := [.data], laidTests := true, laidLooks := .later }
def FrameReceivesUptoCardSaid : Prop := Claim7.holds Tryd.pinned (.plain (OpenSpec.upto frameReceivesSpec)) frameReceivesUptoCard

/-- THE SECOND FORM's CARD OF 'perigeelaw20.FrameOnce'. -/
def frameOnceUptoCard : Claim7 := { stood := { row := frameOnceUptoRow, standIns := [], harness := (true, "fb83023597fe268b2dd0c6455f27e1e13a9ac5b74f56e9a9a94fd2ec8004ff22"), looks := false }, kinds := [], alts := [], laidByText := true, laidKinds := [.data], laidTests := true, laidLooks := .later }
def FrameOnceUptoCardSaid : Prop := Claim7.holds Tryd.pinned (.plain (OpenSpec.upto frameOnceSpec)) frameOnceUptoCard

/-- THE SECOND FORM's CARD OF 'perigeelaw20.FrameOrder'. -/
def frameOrderUptoCard : Claim7 := { stood := { row := frameOrderUptoRow, standIns := [], harness := (true, "fb83023597fe268b2dd0c6455f27e1e13a9ac5b74f56e9a9a94fd2ec8004ff22"), looks := false }, kinds := [], alts := [], laidByText := true, laidKinds := [.data], laidTests := true, laidLooks := .later }
def FrameOrderUptoCardSaid : Prop := Claim7.holds Tryd.pinned (.plain (OpenSpec.upto frameOrderSpec)) frameOrderUptoCard

/-- THE SECOND FORM's CARD OF 'perigeelaw20.FrameCompletes'. -/
def frameCompletesUptoCard : Claim7 := { stood := { row := frameCompletesUptoRow, standIns := [], harness := (true, "fb83023597fe268b2dd0c6455f27e1e13a9ac5b74f56e9a9a94fd2ec8004ff22"), looks := false }, kinds := [], alts := [], laidByText := true, laidKinds := [.data], laidTests := true, laidLooks := .later }
def FrameCompletesUptoCardSaid : Prop := Claim7.holds Tryd.pinned (.plain (OpenSpec.upto frameCompletesSpec)) frameCompletesUptoCard

/-- THE SECOND FORM's CARD OF 'perigeelaw20.FrameSends'. -/
def frameSendsUptoCard : Claim7 := { stood := { row := frameSendsUptoRow, standIns := [], harness := (true, "fb83023597fe268b2dd0c6455f27e1e13a9ac5b74f56e9a9a94fd2ec8004ff22"), looks := false }, kinds := [], alts := [], laidByText := true, laidKinds := [.data], laidTests := true, laidLooks := .later }
def FrameSendsUptoCardSaid : Prop := Claim7.holds Tryd.pinned (.plain (OpenSpec.upto frameSendsSpec)) frameSendsUptoCard

/-- THE SECOND FORM's CARD OF 'perigeelaw20.FrameUnlocks'. -/
def frameUnlocksUptoCard : Claim7 := { stood := { row := frameUnlocksUptoRow, standIns := [], harness := (true, "fb83023597fe268b2dd0c6455f27e1e13a9ac5b74f56e9a9a94fd2ec8004ff22"), looks := false }, kinds := [], alts := [], laidByText := true, laidKinds := [.data], laidTests := true, laidLooks := .later }
def FrameUnlocksUptoCardSaid : Prop := Claim7.holds Tryd.pinned (.plain (OpenSpec.upto frameUnlocksSpec)) frameUnlocksUptoCard

/-- THE SECOND FORM's CARD OF 'perigeelaw20.FrameDecodes'. -/
def frameDecodesUptoCard : Claim7 := { stood := { row := frameDecodesUptoRow, standIns := [], harness := (true, "fb83023597fe268b2dd0c6455f27e1e13a9ac5b74f56e9a9a94fd2ec8004ff22"), looks := false }, kinds := [], alts := [], laidByText := true, laidKinds := [.data], laidTests := true, laidLooks := .later }
def FrameDecodesUptoCardSaid : Prop := Claim7.holds Tryd.pinned (.plain (OpenSpec.upto frameDecodesSpec)) frameDecodesUptoCard

/-- THE SECOND FORM's CARD OF 'perigeelaw20.FrameRound'. -/
def frameRoundUptoCard : Claim7 := { stood := { row := frameRoundUptoRow, standIns := [], harness := (true, "fb83023597fe268b2dd0c6455f27e1e13a9ac5b74f56e9a9a94fd2ec8004ff22"), looks := false }, kinds := [], alts := [], laidByText := true, laidKinds := [.data], laidTests := true, laidLooks := .later }
def FrameRoundUptoCardSaid : Prop := Claim7.holds Tryd.pinned (.plain (OpenSpec.upto frameRoundSpec)) frameRoundUptoCard

/-- THE SECOND FORM's CARD OF 'perigeelaw20.FrameForged'. -/
def frameForgedUptoCard : Claim7 := { stood := { row := frameForgedUptoRow, standIns := [], harness := (true, "fb83023597fe268b2dd0c6455f27e1e13a9ac5b74f56e9a9a94fd2ec8004ff22"), looks := false }, kinds := [], alts := [], laidByText := true, laidKinds := [.data], laidTests := true, laidLooks := .later }
def FrameForgedUptoCardSaid : Prop := Claim7.holds Tryd.pinned (.plain (OpenSpec.upto frameForgedSpec)) frameForgedUptoCard
end Rows
end Go.Proofs.YthoikljmokkchaaDoor
