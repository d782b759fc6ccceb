/-
  DERIVED. GIVEN WITH THE SEED: THE CARDS: each row of YtlgippliihgcjaaDoorRows.lean that lists a variable, with what it lists TIED to the program's text (the seventh form; the later family's looks); each row that meets fmt, with fmt's text TOLD by the authors' own Lean function (tested against real Go, not proved from fmt's source: count such statements apart). THE CARD IS WHAT COUNTS. Prove the row's statement (the work); the ties are given (YtlgippliihgcjaaDoorTie.lean); close each card by the builder's one call (the guide's Derived/Test/ToyasCard.lean, 'card_holds'). Laid BY PROGRAM, IN A SANDBOX (cutbox-door.mjs). By AI agents, Wed Nov 11 2026. No macro, syntax, notation, axiom, sorry.
-/
import Derived.Test.YtlgippliihgcjaaDoorRows
import GoSem.ClaimSeven
namespace Go.Proofs.YtlgippliihgcjaaDoor
namespace Rows

/-- THE TIED CARD OF 'daisychainlaw10.CmdWrites'. -/
def cmdWritesCard : Claim7 := { stood := { row := cmdWritesRow, standIns := [], harness := (true, "a3e086af39a0a1443acd4cafd73093124e74c8d365a5b2df85c8383edd293cd4"), looks := true }, kinds := [], alts := [], laidByText := true, laidKinds := [.handle], laidTests := true, laidLooks := .later }
def CmdWritesCardSaid : Prop := Claim7.holds Tryd.pinned (.plain (OpenSpec.ofChange cmdWritesSpec)) cmdWritesCard

/-- THE TIED CARD OF 'daisychainlaw10.CmdReads'. -/
def cmdReadsCard : Claim7 := { stood := { row := cmdReadsRow, standIns := [], harness := (true, "a3e086af39a0a1443acd4cafd73093124e74c8d365a5b2df85c8383edd293cd4"), looks := true }, kinds := [], alts := [], laidByText := true, laidKinds := [.handle], laidTests := true, laidLooks := .later }
def CmdReadsCardSaid : Prop := Claim7.holds Tryd.pinned (.plain (OpenSpec.ofChange cmdReadsSpec)) cmdReadsCard

/-- THE TIED CARD OF 'daisychainlaw10.CmdEnds'. -/
def cmdEndsCard : Claim7 := { stood := { row := cmdEndsRow, standIns := [], harness := (true, "a3e086af39a0a1443acd4cafd73093124e74c8d365a5b2df85c8383edd293cd4"), looks := true }, kinds := [], alts := [], laidByText := true, laidKinds := [.handle], laidTests := true, laidLooks := .later }
def CmdEndsCardSaid : Prop := Claim7.holds Tryd.pinned (.plain (OpenSpec.ofChange cmdEndsSpec)) cmdEndsCard

/-- THE TIED CARD OF 'daisychainlaw10.CmdTells'. -/
def cmdTellsCard : Claim7 := { stood := { row := cmdTellsRow, standIns := [], harness := (true, "a3e086af39a0a1443acd4cafd73093124e74c8d365a5b2df85c8383edd293cd4"), looks := true }, kinds := [], alts := [], laidByText := true, laidKinds := [.handle], laidTests := true, laidLooks := .later }
def CmdTellsCardSaid : Prop := Claim7.holds Tryd.pinned (.plain (OpenSpec.ofChange cmdTellsSpec)) cmdTellsCard

/-- THE TIED CARD OF 'daisychainlaw10.CmdAnswers'. -/
def cmdAnswersCard : Claim7 := { stood := { row := cmdAnswersRow, standIns := [], harness := (true, "a3e086af39a0a1443acd4cafd73093124e74c8d365a5b2df85c8383edd293cd4"), looks := true }, kinds := [], alts := [], laidByText := true, laidKinds := [.handle], laidTests := true, laidLooks := .later }
def CmdAnswersCardSaid : Prop := Claim7.holds Tryd.pinned (.plain (OpenSpec.ofChange cmdAnswersSpec)) cmdAnswersCard

/-- THE SECOND FORM's CARD OF 'daisychainlaw10.CmdWrites'. -/
def cmdWritesUptoCard : Claim7 := { stood := { row := cmdWritesUptoRow, standIns := [], harness := (true, "a3e086af39a0a1443acd4cafd73093124e74c8d365a5b2df85c8383edd293cd4"), looks := true }, kinds := [], alts := [], laidByText := true, laidKinds := [.handle], laidTests := true, laidLooks := .later }
def CmdWritesUptoCardSaid : Prop := Claim7.holds Tryd.pinned (.plain (OpenSpec.upto cmdWritesSpec)) cmdWritesUptoCard

/-- THE SECOND FORM's CARD OF 'daisychainlaw10.CmdReads'. -/
def cmdReadsUptoCard : Claim7 := { stood := { row := cmdReadsUptoRow, standIns := [], harness := (true, "a3e086af39a0a1443acd4cafd73093124e74c8d365a5b2df85c8383edd293cd4"), looks := true }, kinds := [], alts := [], laidByText := true, laidKinds := [.handle], laidTests := true, laidLooks := .later }
def CmdReadsUptoCardSaid : Prop := Claim7.holds Tryd.pinned (.plain (OpenSpec.upto cmdReadsSpec)) cmdReadsUptoCard

/-- THE SECOND FORM's CARD OF 'daisychainlaw10.CmdEnds'. -/
def cmdEndsUptoCard : Claim7 := { stood := { row := cmdEndsUptoRow, standIns := [], harness := (true, "a3e086af39a0a1443acd4cafd73093124e74c8d365a5b2df85c8383edd293cd4"), looks := true }, kinds := [], alts := [], laidByText := true, laidKinds := [.handle], laidTests := true, laidLooks := .later }
def CmdEndsUptoCardSaid : Prop := Claim7.holds Tryd.pinned (.plain (OpenSpec.upto cmdEndsSpec)) cmdEndsUptoCard

/-- THE SECOND FORM's CARD OF 'daisychainlaw10.CmdTells'. -/
def cmdTellsUptoCard : Claim7 := { stood := { row := cmdTellsUptoRow, standIns := [], harness := (true, "a3e086af39a0a1443acd4cafd73093124e74c8d365a5b2df85c8383edd293cd4"), looks := true }, kinds := [], alts := [], laidByText := true, laidKinds := [.handle], laidTests := true, laidLooks := .later }
def CmdTellsUptoCardSaid : Prop := Claim7.holds Tryd.pinned (.plain (OpenSpec.upto cmdTellsSpec)) cmdTellsUptoCard

/-- THE SECOND FORM's CARD OF 'daisychainlaw10.CmdAnswers'. -/
def cmdAnswersUptoCard : Claim7 := { stood := { row := cmdAnswersUptoRow, standIns := [], harness := (true, "a3e086af39a0a1443acd4cafd73093124e74c8d365a5b2df85c8383edd293cd4"), looks := true }, kinds := [], alts := [], laidByText := true, laidKinds := [.handle], laidTests := true, laidLooks := .later }
def CmdAnswersUptoCardSaid : Prop := Claim7.holds Tryd.pinned (.plain (OpenSpec.upto cmdAnswersSpec)) cmdAnswersUptoCard
end Rows
end Go.Proofs.YtlgippliihgcjaaDoor
