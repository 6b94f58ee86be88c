/-
  DERIVED. GIVEN WITH THE SEED: THE CARDS: each row of YtgeicbjlichdgaaDoorRows.lean that lists a variable, with what it lists TIED to the program's text (the seventh form; the later family's looks); each row that meets fmt, with fmt's text TOLD by the authors' own Lean function (tested against real Go, not proved from fmt's source: count such statements apart). THE CARD IS WHAT COUNTS. Prove the row's statement (the work); the ties are given (YtgeicbjlichdgaaDoorTie.lean); close each card by the builder's one call (the guide's Derived/Test/ToyasCard.lean, 'card_holds'). Laid BY PROGRAM, IN A SANDBOX (cutbox-door.mjs). By AI agents, Wed Nov 11 2026. No macro, syntax, notation, axiom, sorry.
-/
import Derived.Test.YtgeicbjlichdgaaDoorRows
import GoSem.ClaimSeven
namespace Go.Proofs.YtgeicbjlichdgaaDoor
namespace Rows

/-- THE TIED CARD OF 'perigeelaw26.FileCuts'. -/
def fileCutsCard : Claim7 := { stood := { row := fileCutsRow, standIns := [], harness := (true, "ff2906e2b211c3ee9105703074e7ada82ed0e5e43b2f78bf6034e1cda90f1def"), looks := false }, kinds := [], alts := [], laidByText := true, laidKinds := [.data], laidTests := true, laidLooks := .later }
def FileCutsCardSaid : Prop := Claim7.holds Tryd.pinned (.plain (OpenSpec.ofChange fileCutsSpec)) fileCutsCard

/-- THE TIED CARD OF 'perigeelaw26.FileAnswers'. -/
def fileAnswersCard : Claim7 := { stood := { row := fileAnswersRow, standIns := [], harness := (true, "ff2906e2b211c3ee9105703074e7ada82ed0e5e43b2f78bf6034e1cda90f1def"), looks := false }, kinds := [], alts := [], laidByText := true, laidKinds := [.data], laidTests := true, laidLooks := .later }
def FileAnswersCardSaid : Prop := Claim7.holds Tryd.pinned (.plain (OpenSpec.ofChange fileAnswersSpec)) fileAnswersCard

/-- THE TIED CARD OF 'perigeelaw26.FileOrder'. -/
def fileOrderCard : Claim7 := { stood := { row := fileOrderRow, standIns := [], harness := (true, "ff2906e2b211c3ee9105703074e7ada82ed0e5e43b2f78bf6034e1cda90f1def"), looks := false }, kinds := [], alts := [], laidByText := true, laidKinds := [.data], laidTests := true, laidLooks := .later }
def FileOrderCardSaid : Prop := Claim7.holds Tryd.pinned (.plain (OpenSpec.ofChange fileOrderSpec)) fileOrderCard

/-- THE TIED CARD OF 'perigeelaw26.FileGaps'. -/
def fileGapsCard : Claim7 := { stood := { row := fileGapsRow, standIns := [], harness := (true, "ff2906e2b211c3ee9105703074e7ada82ed0e5e43b2f78bf6034e1cda90f1def"), looks := false }, kinds := [], alts := [], laidByText := true, laidKinds := [.data], laidTests := true, laidLooks := .later }
def FileGapsCardSaid : Prop := Claim7.holds Tryd.pinned (.plain (OpenSpec.ofChange fileGapsSpec)) fileGapsCard

/-- THE TIED CARD OF 'perigeelaw26.FileSums'. -/
def fileSumsCard : Claim7 := { stood := { row := fileSumsRow, standIns := [], harness := (true, "ff2906e2b211c3ee9105703074e7ada82ed0e5e43b2f78bf6034e1cda90f1def"), looks := false }, kinds := [], alts := [], laidByText := true, laidKinds := [.data], laidTests := true, laidLooks := .later }
def FileSumsCardSaid : Prop := Claim7.holds Tryd.pinned (.plain (OpenSpec.ofChange fileSumsSpec)) fileSumsCard

/-- THE TIED CARD OF 'perigeelaw26.FilePasses'. -/
def filePassesCard : Claim7 := { stood := { row := filePassesRow, standIns := [], harness := (true, "ff2906e2b211c3ee9105703074e7ada82ed0e5e43b2f78bf6034e1cda90f1def"), looks := false }, kinds := [], alts := [], laidByText := true, laidKinds := [.data], laidTests := true, laidLooks := .later }
def FilePassesCardSaid : Prop := Claim7.holds Tryd.pinned (.plain (OpenSpec.ofChange filePassesSpec)) filePassesCard

/-- THE TIED CARD OF 'perigeelaw26.FilePuts'. -/
def filePutsCard : Claim7 := { stood := { row := filePutsRow, standIns := [], harness := (true, "ff2906e2b211c3ee9105703074e7ada82ed0e5e43b2f78bf6034e1cda90f1def"), looks := false }, kinds := [], alts := [], laidByText := true, laidKinds := [.data], laidTests := true, laidLooks := .later }
def FilePutsCardSaid : Prop := Claim7.holds Tryd.pinned (.plain (OpenSpec.ofChange filePutsSpec)) filePutsCard

/-- THE TIED CARD OF 'perigeelaw26.FileRefuses'. -/
def fileRefusesCard : Claim7 := { stood := { row := fileRefusesRow, standIns := [], harness := (true, "ff2906e2b211c3ee9105703074e7ada82ed0e5e43b2f78bf6034e1cda90f1def"), looks := false }, kinds := [], alts := [], laidByText := true, laidKinds := [.data], laidTests := true, laidLooks := .later }
def FileRefusesCardSaid : Prop := Claim7.holds Tryd.pinned (.plain (OpenSpec.ofChange fileRefusesSpec)) fileRefusesCard

/-- THE TIED CARD OF 'perigeelaw26.FileLinks'. -/
def fileLinksCard : Claim7 := { stood := { row := fileLinksRow, standIns := [], harness := (true, "ff2906e2b211c3ee9105703074e7ada82ed0e5e43b2f78bf6034e1cda90f1def"), looks := false }, kinds := [], alts := [], laidByText := true, laidKinds := [.data], laidTests := true, laidLooks := .later }
def FileLinksCardSaid : Prop := Claim7.holds Tryd.pinned (.plain (OpenSpec.ofChange fileLinksSpec)) fileLinksCard

/-- THE SECOND FORM's CARD OF 'perigeelaw26.FileCuts'. -/
def fileCutsUptoCard : Claim7 := { stood := { row := fileCutsUptoRow, standIns := [], harness := (true, "ff2906e2b211c3ee9105703074e7ada82ed0e5e43b2f78bf6034e1cda90f1def"), looks := false }, kinds := [], alts := [], laidByText := true, laidKinds := [.data], laidTests := true, laidLooks := .later }
def FileCutsUptoCardSaid : Prop := Claim7.holds Tryd.pinned (.plain (OpenSpec.upto fileCutsSpec)) fileCutsUptoCard

/-- THE SECOND FORM's CARD OF 'perigeelaw26.FileAnswers'. -/
def fileAnswersUptoCard : Claim7 := { stood := { row := fileAnswersUptoRow, standIns := [], harness := (true, "ff2906e2b211c3ee9105703074e7ada82ed0e5e43b2f78bf6034e1cda90f1def"), looks := false }, kinds := [], alts := [], laidByText := true, laidKinds := [.data], laidTests := true, laidLooks := .later }
def FileAnswersUptoCardSaid : Prop := Claim7.holds Tryd.pinned (.plain (OpenSpec.upto fileAnswersSpec)) fileAnswersUptoCard

/-- THE SECOND FORM's CARD OF 'perigeelaw26.FileOrder'. -/
def fileOrderUptoCard : Claim7 := { stood := { row := fileOrderUptoRow, standIns := [], harness := (true, "ff2906e2b211c3ee9105703074e7ada82ed0e5e43b2f78bf6034e1cda90f1def"), looks := false }, kinds := [], alts := [], laidByText := true, laidKinds := [.data], laidTests := true, laidLooks := .later }
def FileOrderUptoCardSaid : Prop := Claim7.holds Tryd.pinned (.plain (OpenSpec.upto fileOrderSpec)) fileOrderUptoCard

/-- THE SECOND FORM's CARD OF 'perigeelaw26.FileGaps'. -/
def fileGapsUptoCard : Claim7 := { stood := { row := fileGapsUptoRow, standIns := [], harness := (true, "ff2906e2b211c3ee9105703074e7ada82ed0e5e43b2f78bf6034e1cda90f1def"), looks := false }, kinds := [], alts := [], laidByText := true, laidKinds := [.data], laidTests := true, laidLooks := .later }
def FileGapsUptoCardSaid : Prop := Claim7.holds Tryd.pinned (.plain (OpenSpec.upto fileGapsSpec)) fileGapsUptoCard

/-- THE SECOND FORM's CARD OF 'perigeelaw26.FileSums'. -/
def fileSumsUptoCard : Claim7 := { stood := { row := fileSumsUptoRow, standIns := [], harness := (true, "ff2906e2b211c3ee9105703074e7ada82ed0e5e43b2f78bf6034e1cda90f1def"), looks := false }, kinds := [], alts := [], laidByText := true, laidKinds := [.data], laidTests := true, laidLooks := .later }
def FileSumsUptoCardSaid : Prop := Claim7.holds Tryd.pinned (.plain (OpenSpec.upto fileSumsSpec)) fileSumsUptoCard

/-- THE SECOND FORM's CARD OF 'perigeelaw26.FilePasses'. -/
def filePassesUptoCard : Claim7 := { stood := { row := filePassesUptoRow, standIns := [], harness := (true, "ff2906e2b211c3ee9105703074e7ada82ed0e5e43b2f78bf6034e1cda90f1def"), looks := false }, kinds := [], alts := [], laidByText := true, laidKinds := [.data], laidTests := true, laidLooks := .later }
def FilePassesUptoCardSaid : Prop := Claim7.holds Tryd.pinned (.plain (OpenSpec.upto filePassesSpec)) filePassesUptoCard

/-- THE SECOND FORM's CARD OF 'perigeelaw26.FilePuts'. -/
def filePutsUptoCard : Claim7 := { stood := { row := filePutsUptoRow, standIns := [], harness := (true, "ff2906e2b211c3ee9105703074e7ada82ed0e5e43b2f78bf6034e1cda90f1def"), looks := false }, kinds := [], alts := [], laidByText := true, laidKinds := [.data], laidTests := true, laidLooks := .later }
def FilePutsUptoCardSaid : Prop := Claim7.holds Tryd.pinned (.plain (OpenSpec.upto filePutsSpec)) filePutsUptoCard

/-- THE SECOND FORM's CARD OF 'perigeelaw26.FileRefuses'. -/
def fileRefusesUptoCard : Claim7 := { stood := { row := fileRefusesUptoRow, standIns := [], harness := (true, "ff2906e2b211c3ee9105703074e7ada82ed0e5e43b2f78bf6034e1cda90f1def"), looks := false }, kinds := [], alts := [], laidByText := true, laidKinds := [.data], laidTests := true, laidLooks := .later }
def FileRefusesUptoCardSaid : Prop := Claim7.holds Tryd.pinned (.plain (OpenSpec.upto fileRefusesSpec)) fileRefusesUptoCard

/-- THE SECOND FORM's CARD OF 'perigeelaw26.FileLinks'. -/
def fileLinksUptoCard : Claim7 := { stood := { row := fileLinksUptoRow, standIns := [], harness := (true, "ff2906e2b211c3ee9105703074e7ada82ed0e5e43b2f78bf6034e1cda90f1def"), looks := false }, kinds := [], alts := [], laidByText := true, laidKinds := [.data], laidTests := true, laidLooks := .later }
def FileLinksUptoCardSaid : Prop := Claim7.holds Tryd.pinned (.plain (OpenSpec.upto fileLinksSpec)) fileLinksUptoCard
end Rows
end Go.Proofs.YtgeicbjlichdgaaDoor
