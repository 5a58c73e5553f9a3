/-
  DERIVED. GIVEN WITH THE SEED: THE CARDS: each row of YtmkmndgdakpojaaDoorRows.lean that lists a variable, with what it lists TIED to the program's text (the seventh form; the later family's looks); each row that meets fmt, with fmt's text TOLD by the authors' own Lean function (tested against real Go, not proved from fmt's source: count such statements apart). THE CARD IS WHAT COUNTS. Prove the row's statement (the work); the ties are given (YtmkmndgdakpojaaDoorTie.lean); close each card by the builder's one call (the guide's Derived/Test/ToyasCard.lean, 'card_holds'). Laid BY PROGRAM, IN A SANDBOX (cutbox-door.mjs). By AI agents, Wed Nov 11 2026. No macro, syntax, notation, axiom, sorry.
-/
import Derived.Test.YtmkmndgdakpojaaDoorRows
import GoSem.ClaimSeven
namespace Go.Proofs.YtmkmndgdakpojaaDoor
namespace Rows

/-- THE TIED CARD OF 'shallotlaw05.FrameTakes'. -/
def frameTakesCard : Claim7 := { stood := { row := frameTakesRow, standIns := [], harness := (true, "9190a2c0adf909509a8aa18001333f287e4b4ee787dc49e95d1b49a9168cee7c"), looks := false }, kinds := [], alts := [], laidByText := true, laidKinds := [.data], laidTests := true, laidLooks := .later }
def FrameTakesCardSaid : Prop := Claim7.holds Tryd.pinned (.plain (OpenSpec.ofChange frameTakesSpec)) frameTakesCard

/-- THE TIED CARD OF 'shallotlaw05.FrameLong'. -/
def frameLongCard : Claim7 := { stood := { row := frameLongRow, standIns := [], harness := (true, "9190a2c0adf909509a8aa18001333f287e4b4ee787dc49e95d1b49a9168cee7c"), looks := false }, kinds := [], alts := [], laidByText := true, laidKinds := [.data], laidTests := true, laidLooks := .later }
def FrameLongCardSaid : Prop := Claim7.holds Tryd.pinned (.plain (OpenSpec.ofChange frameLongSpec)) frameLongCard

/-- THE TIED CARD OF 'shallotlaw05.FrameTag'. -/
def frameTagCard : Claim7 := { stood := { row := frameTagRow, standIns := [], harness := (true, "9190a2c0adf909509a8aa18001333f287e4b4ee787dc49e95d1b49a9168cee7c"), looks := false }, kinds := [], alts := [], laidByText := true, laidKinds := [.data], laidTests := true, laidLooks := .later }
def FrameTagCardSaid : Prop := Claim7.holds Tryd.pinned (.plain (OpenSpec.ofChange frameTagSpec)) frameTagCard

/-- THE TIED CARD OF 'shallotlaw05.FrameSize'. -/
def frameSizeCard : Claim7 := { stood := { row := frameSizeRow, standIns := [], harness := (true, "9190a2c0adf909509a8aa18001333f287e4b4ee787dc49e95d1b49a9168cee7c"), looks := false }, kinds := [], alts := [], laidByText := true, laidKinds := [.data], laidTests := true, laidLooks := .later }
def FrameSizeCardSaid : Prop := Claim7.holds Tryd.pinned (.plain (OpenSpec.ofChange frameSizeSpec)) frameSizeCard

/-- THE TIED CARD OF 'shallotlaw05.FrameTells'. -/
def frameTellsCard : Claim7 := { stood := { row := frameTellsRow, standIns := [], harness := (true, "9190a2c0adf909509a8aa18001333f287e4b4ee787dc49e95d1b49a9168cee7c"), looks := false }, kinds := [], alts := [], laidByText := true, laidKinds := [.data], laidTests := true, laidLooks := .later }
def FrameTellsCardSaid : Prop := Claim7.holds Tryd.pinned (.plain (OpenSpec.ofChange frameTellsSpec)) frameTellsCard

/-- THE TIED CARD OF 'shallotlaw05.FrameBack'. -/
def frameBackCard : Claim7 := { stood := { row := frameBackRow, standIns := [], harness := (true, "9190a2c0adf909509a8aa18001333f287e4b4ee787dc49e95d1b49a9168cee7c"), looks := false }, kinds := [], alts := [], laidByText := true, laidKinds := [.data], laidTests := true, laidLooks := .later }
def FrameBackCardSaid : Prop := Claim7.holds Tryd.pinned (.plain (OpenSpec.ofChange frameBackSpec)) frameBackCard

/-- THE SECOND FORM's CARD OF 'shallotlaw05.FrameTakes'. -/
def frameTakesUptoCard : Claim7 := { stood := { row := frameTakesUptoRow, standIns := [], harness := (true, "9190a2c0adf909509a8aa18001333f287e4b4ee787dc49e95d1b49a9168cee7c"), looks := false }, kinds := [], alts := [], laidByText := true, laidKinds := [.data], laidTests := true, laidLooks := .later }
def FrameTakesUptoCardSaid : Prop := Claim7.holds Tryd.pinned (.plain (OpenSpec.upto frameTakesSpec)) frameTakesUptoCard

/-- THE SECOND FORM's CARD OF 'shallotlaw05.FrameLong'. -/
def frameLongUptoCard : Claim7 := { stood := { row := frameLongUptoRow, standIns := [], harness := (true, "9190a2c0adf909509a8aa18001333f287e4b4ee787dc49e95d1b49a9168cee7c"), looks := false }, kinds := [], alts := [], laidByText := true, laidKinds := [.data], laidTests := true, laidLooks := .later }
def FrameLongUptoCardSaid : Prop := Claim7.holds Tryd.pinned (.plain (OpenSpec.upto frameLongSpec)) frameLongUptoCard

/-- THE SECOND FORM's CARD OF 'shallotlaw05.FrameTag'. -/
def frameTagUptoCard : Claim7 := { stood := { row := frameTagUptoRow, standIns := [], harness := (true, "9190a2c0adf909509a8aa18001333f287e4b4ee787dc49e95d1b49a9168cee7c"), looks := false }, kinds := [], alts := [], laidByText := true, laidKinds := [.data], laidTests := true, laidLooks := .later }
def FrameTagUptoCardSaid : Prop := Claim7.holds Tryd.pinned (.plain (OpenSpec.upto frameTagSpec)) frameTagUptoCard

/-- THE SECOND FORM's CARD OF 'shallotlaw05.FrameSize'. -/
def frameSizeUptoCard : Claim7 := { stood := { row := frameSizeUptoRow, standIns := [], harness := (true, "9190a2c0adf909509a8aa18001333f287e4b4ee787dc49e95d1b49a9168cee7c"), looks := false }, kinds := [], alts := [], laidByText := true, laidKinds := [.data], laidTests := true, laidLooks := .later }
def FrameSizeUptoCardSaid : Prop := Claim7.holds Tryd.pinned (.plain (OpenSpec.upto frameSizeSpec)) frameSizeUptoCard

/-- THE SECOND FORM's CARD OF 'shallotlaw05.FrameTells'. -/
def frameTellsUptoCard : Claim7 := { stood := { row := frameTellsUptoRow, standIns := [], harness := (true, "9190a2c0adf909509a8aa18001333f287e4b4ee787dc49e95d1b49a9168cee7c"), looks := false }, kinds := [], alts := [], laidByText := true, laidKinds := [.data], laidTests := true, laidLooks := .later }
def FrameTellsUptoCardSaid : Prop := Claim7.holds Tryd.pinned (.plain (OpenSpec.upto frameTellsSpec)) frameTellsUptoCard

/-- THE SECOND FORM's CARD OF 'shallotlaw05.FrameBack'. -/
def frameBackUptoCard : Claim7 := { stood := { row := frameBackUptoRow, standIns := [], harness := (true, "9190a2c0adf909509a8aa18001333f287e4b4ee787dc49e95d1b49a9168cee7c"), looks := false }, kinds := [], alts := [], laidByText := true, laidKinds := [.data], laidTests := true, laidLooks := .later }
def FrameBackUptoCardSaid : Prop := Claim7.holds Tryd.pinned (.plain (OpenSpec.upto frameBackSpec)) frameBackUptoCard
end Rows
end Go.Proofs.YtmkmndgdakpojaaDoor
