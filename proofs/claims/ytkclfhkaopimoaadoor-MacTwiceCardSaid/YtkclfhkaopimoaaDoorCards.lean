/-
  DERIVED. GIVEN WITH THE SEED: THE CARDS: each row of YtkclfhkaopimoaaDoorRows.lean that lists a variable, with what it lists TIED to the program's text (the seventh form; the later family's looks); each row that meets fmt, with fmt's text TOLD by the authors' own Lean function (tested against real Go, not proved from fmt's source: count such statements apart). THE CARD IS WHAT COUNTS. Prove the row's statement (the work); the ties are given (YtkclfhkaopimoaaDoorTie.lean); close each card by the builder's one call (the guide's Derived/Test/ToyasCard.lean, 'card_holds'). Laid BY PROGRAM, IN A SANDBOX (cutbox-door.mjs). By AI agents, Wed Nov 11 2026. No macro, syntax, notation, axiom, sorry.
-/
import Derived.Test.YtkclfhkaopimoaaDoorRows
import GoSem.ClaimSeven
namespace Go.Proofs.YtkclfhkaopimoaaDoor
namespace Rows

/-- THE TIED CARD OF 'shallotlaw01.ShaPads'. -/
def shaPadsCard : Claim7 := { stood := { row := shaPadsRow, standIns := [], harness := (true, "216aff96c11110dab00c16a25f6841e5483664498896f808911cabd9ef41eb8e"), looks := false }, kinds := [], alts := [], laidByText := true, laidKinds := [.data], laidTests := true, laidLooks := .later }
def ShaPadsCardSaid : Prop := Claim7.holds Tryd.pinned (.plain (OpenSpec.ofChange shaPadsSpec)) shaPadsCard

/-- THE TIED CARD OF 'shallotlaw01.ShaBlocks'. -/
def shaBlocksCard : Claim7 := { stood := { row := shaBlocksRow, standIns := [], harness := (true, "216aff96c11110dab00c16a25f6841e5483664498896f808911cabd9ef41eb8e"), looks := false }, kinds := [], alts := [], laidByText := true, laidKinds := [.data], laidTests := true, laidLooks := .later }
def ShaBlocksCardSaid : Prop := Claim7.holds Tryd.pinned (.plain (OpenSpec.ofChange shaBlocksSpec)) shaBlocksCard

/-- THE TIED CARD OF 'shallotlaw01.ShaSums'. -/
def shaSumsCard : Claim7 := { stood := { row := shaSumsRow, standIns := [], harness := (true, "216aff96c11110dab00c16a25f6841e5483664498896f808911cabd9ef41eb8e"), looks := false }, kinds := [], alts := [], laidByText := true, laidKinds := [.data], laidTests := true, laidLooks := .later }
def ShaSumsCardSaid : Prop := Claim7.holds Tryd.pinned (.plain (OpenSpec.ofChange shaSumsSpec)) shaSumsCard

/-- THE TIED CARD OF 'shallotlaw01.ShaFolds'. -/
def shaFoldsCard : Claim7 := { stood := { row := shaFoldsRow, standIns := [], harness := (true, "216aff96c11110dab00c16a25f6841e5483664498896f808911cabd9ef41eb8e"), looks := false }, kinds := [], alts := [], laidByText := true, laidKinds := [.data], laidTests := true, laidLooks := .later }
def ShaFoldsCardSaid : Prop := Claim7.holds Tryd.pinned (.plain (OpenSpec.ofChange shaFoldsSpec)) shaFoldsCard

/-- THE TIED CARD OF 'shallotlaw01.ShaShape'. -/
def shaShapeCard : Claim7 := { stood := { row := shaShapeRow, standIns := [], harness := (true, "216aff96c11110dab00c16a25f6841e5483664498896f808911cabd9ef41eb8e"), looks := false }, kinds := [], alts := [], laidByText := true, laidKinds := [.data], laidTests := true, laidLooks := .later }
def ShaShapeCardSaid : Prop := Claim7.holds Tryd.pinned (.plain (OpenSpec.ofChange shaShapeSpec)) shaShapeCard

/-- THE TIED CARD OF 'shallotlaw01.ShaAhead'. -/
def shaAheadCard : Claim7 := { stood := { row := shaAheadRow, standIns := [], harness := (true, "216aff96c11110dab00c16a25f6841e5483664498896f808911cabd9ef41eb8e"), looks := false }, kinds := [], alts := [], laidByText := true, laidKinds := [.data], laidTests := true, laidLooks := .later }
def ShaAheadCardSaid : Prop := Claim7.holds Tryd.pinned (.plain (OpenSpec.ofChange shaAheadSpec)) shaAheadCard

/-- THE TIED CARD OF 'shallotlaw02.MacHashes'. -/
def macHashesCard : Claim7 := { stood := { row := macHashesRow, standIns := [], harness := (true, "216aff96c11110dab00c16a25f6841e5483664498896f808911cabd9ef41eb8e"), looks := false }, kinds := [], alts := [], laidByText := true, laidKinds := [.data], laidTests := true, laidLooks := .later }
def MacHashesCardSaid : Prop := Claim7.holds Tryd.pinned (.plain (OpenSpec.ofChange macHashesSpec)) macHashesCard

/-- THE TIED CARD OF 'shallotlaw02.MacKeys'. -/
def macKeysCard : Claim7 := { stood := { row := macKeysRow, standIns := [], harness := (true, "216aff96c11110dab00c16a25f6841e5483664498896f808911cabd9ef41eb8e"), looks := false }, kinds := [], alts := [], laidByText := true, laidKinds := [.data], laidTests := true, laidLooks := .later }
def MacKeysCardSaid : Prop := Claim7.holds Tryd.pinned (.plain (OpenSpec.ofChange macKeysSpec)) macKeysCard

/-- THE TIED CARD OF 'shallotlaw02.MacTags'. -/
def macTagsCard : Claim7 := { stood := { row := macTagsRow, standIns := [], harness := (true, "216aff96c11110dab00c16a25f6841e5483664498896f808911cabd9ef41eb8e"), looks := false }, kinds := [], alts := [], laidByText := true, laidKinds := [.data], laidTests := true, laidLooks := .later }
def MacTagsCardSaid : Prop := Claim7.holds Tryd.pinned (.plain (OpenSpec.ofChange macTagsSpec)) macTagsCard

/-- THE TIED CARD OF 'shallotlaw02.MacTwice'. -/
def macTwiceCard : Claim7 := { stood := { row := macTwiceRow, standIns := [], harness := (true, "216aff96c11110dab00c16a25f6841e5483664498896f808911cabd9ef41eb8e"), looks := false }, kinds := [], alts := [], laidByText := true, laidKinds := [.data], laidTests := true, laidLooks := .later }
def MacTwiceCardSaid : Prop := Claim7.holds Tryd.pinned (.plain (OpenSpec.ofChange macTwiceSpec)) macTwiceCard

/-- THE TIED CARD OF 'shallotlaw02.MacBegins'. -/
def macBeginsCard : Claim7 := { stood := { row := macBeginsRow, standIns := [], harness := (true, "216aff96c11110dab00c16a25f6841e5483664498896f808911cabd9ef41eb8e"), looks := false }, kinds := [], alts := [], laidByText := true, laidKinds := [.data], laidTests := true, laidLooks := .later }
def MacBeginsCardSaid : Prop := Claim7.holds Tryd.pinned (.plain (OpenSpec.ofChange macBeginsSpec)) macBeginsCard

/-- THE TIED CARD OF 'shallotlaw02.MacStreams'. -/
def macStreamsCard : Claim7 := { stood := { row := macStreamsRow, standIns := [], harness := (true, "216aff96c11110dab00c16a25f6841e5483664498896f808911cabd9ef41eb8e"), looks := false }, kinds := [], alts := [], laidByText := true, laidKinds := [.data], laidTests := true, laidLooks := .later }
def MacStreamsCardSaid : Prop := Claim7.holds Tryd.pinned (.plain (OpenSpec.ofChange macStreamsSpec)) macStreamsCard

/-- THE SECOND FORM's CARD OF 'shallotlaw01.ShaPads'. -/
def shaPadsUptoCard : Claim7 := { stood := { row := shaPadsUptoRow, standIns := [], harness := (true, "216aff96c11110dab00c16a25f6841e5483664498896f808911cabd9ef41eb8e"), looks := false }, kinds := [], alts := [], laidByText := true, laidKinds := [.data], laidTests := true, laidLooks := .later }
def ShaPadsUptoCardSaid : Prop := Claim7.holds Tryd.pinned (.plain (OpenSpec.upto shaPadsSpec)) shaPadsUptoCard

/-- THE SECOND FORM's CARD OF 'shallotlaw01.ShaBlocks'. -/
def shaBlocksUptoCard : Claim7 := { stood := { row := shaBlocksUptoRow, standIns := [], harness := (true, "216aff96c11110dab00c16a25f6841e5483664498896f808911cabd9ef41eb8e"), looks := false }, kinds := [], alts := [], laidByText := true, laidKinds := [.data], laidTests := true, laidLooks := .later }
def ShaBlocksUptoCardSaid : Prop := Claim7.holds Tryd.pinned (.plain (OpenSpec.upto shaBlocksSpec)) shaBlocksUptoCard

/-- THE SECOND FORM's CARD OF 'shallotlaw01.ShaSums'. -/
def shaSumsUptoCard : Claim7 := { stood := { row := shaSumsUptoRow, standIns := [], harness := (true, "216aff96c11110dab00c16a25f6841e5483664498896f808911cabd9ef41eb8e"), looks := false }, kinds := [], alts := [], laidByText := true, laidKinds := [.data], laidTests := true, laidLooks := .later }
def ShaSumsUptoCardSaid : Prop := Claim7.holds Tryd.pinned (.plain (OpenSpec.upto shaSumsSpec)) shaSumsUptoCard

/-- THE SECOND FORM's CARD OF 'shallotlaw01.ShaFolds'. -/
def shaFoldsUptoCard : Claim7 := { stood := { row := shaFoldsUptoRow, standIns := [], harness := (true, "216aff96c11110dab00c16a25f6841e5483664498896f808911cabd9ef41eb8e"), looks := false }, kinds := [], alts := [], laidByText := true, laidKinds := [.data], laidTests := true, laidLooks := .later }
def ShaFoldsUptoCardSaid : Prop := Claim7.holds Tryd.pinned (.plain (OpenSpec.upto shaFoldsSpec)) shaFoldsUptoCard

/-- THE SECOND FORM's CARD OF 'shallotlaw01.ShaShape'. -/
def shaShapeUptoCard : Claim7 := { stood := { row := shaShapeUptoRow, standIns := [], harness := (true, "216aff96c11110dab00c16a25f6841e5483664498896f808911cabd9ef41eb8e"), looks := false }, kinds := [], alts := [], laidByText := true, laidKinds := [.data], laidTests := true, laidLooks := .later }
def ShaShapeUptoCardSaid : Prop := Claim7.holds Tryd.pinned (.plain (OpenSpec.upto shaShapeSpec)) shaShapeUptoCard

/-- THE SECOND FORM's CARD OF 'shallotlaw01.ShaAhead'. -/
def shaAheadUptoCard : Claim7 := { stood := { row := shaAheadUptoRow, standIns := [], harness := (true, "216aff96c11110dab00c16a25f6841e5483664498896f808911cabd9ef41eb8e"), looks := false }, kinds := [], alts := [], laidByText := true, laidKinds := [.data], laidTests := true, laidLooks := .later }
def ShaAheadUptoCardSaid : Prop := Claim7.holds Tryd.pinned (.plain (OpenSpec.upto shaAheadSpec)) shaAheadUptoCard

/-- THE SECOND FORM's CARD OF 'shallotlaw02.MacHashes'. -/
def macHashesUptoCard : Claim7 := { stood := { row := macHashesUptoRow, standIns := [], harness := (true, "216aff96c11110dab00c16a25f6841e5483664498896f808911cabd9ef41eb8e"), looks := false }, kinds := [], alts := [], laidByText := true, laidKinds := [.data], laidTests := true, laidLooks := .later }
def MacHashesUptoCardSaid : Prop := Claim7.holds Tryd.pinned (.plain (OpenSpec.upto macHashesSpec)) macHashesUptoCard

/-- THE SECOND FORM's CARD OF 'shallotlaw02.MacKeys'. -/
def macKeysUptoCard : Claim7 := { stood := { row := macKeysUptoRow, standIns := [], harness := (true, "216aff96c11110dab00c16a25f6841e5483664498896f808911cabd9ef41eb8e"), looks := false }, kinds := [], alts := [], laidByText := true, laidKinds := [.data], laidTests := true, laidLooks := .later }
def MacKeysUptoCardSaid : Prop := Claim7.holds Tryd.pinned (.plain (OpenSpec.upto macKeysSpec)) macKeysUptoCard

/-- THE SECOND FORM's CARD OF 'shallotlaw02.MacTags'. -/
def macTagsUptoCard : Claim7 := { stood := { row := macTagsUptoRow, standIns := [], harness := (true, "216aff96c11110dab00c16a25f6841e5483664498896f808911cabd9ef41eb8e"), looks := false }, kinds := [], alts := [], laidByText := true, laidKinds := [.data], laidTests := true, laidLooks := .later }
def MacTagsUptoCardSaid : Prop := Claim7.holds Tryd.pinned (.plain (OpenSpec.upto macTagsSpec)) macTagsUptoCard

/-- THE SECOND FORM's CARD OF 'shallotlaw02.MacTwice'. -/
def macTwiceUptoCard : Claim7 := { stood := { row := macTwiceUptoRow, standIns := [], harness := (true, "216aff96c11110dab00c16a25f6841e5483664498896f808911cabd9ef41eb8e"), looks := false }, kinds := [], alts := [], laidByText := true, laidKinds := [.data], laidTests := true, laidLooks := .later }
def MacTwiceUptoCardSaid : Prop := Claim7.holds Tryd.pinned (.plain (OpenSpec.upto macTwiceSpec)) macTwiceUptoCard

/-- THE SECOND FORM's CARD OF 'shallotlaw02.MacBegins'. -/
def macBeginsUptoCard : Claim7 := { stood := { row := macBeginsUptoRow, standIns := [], harness := (true, "216aff96c11110dab00c16a25f6841e5483664498896f808911cabd9ef41eb8e"), looks := false }, kinds := [], alts := [], laidByText := true, laidKinds := [.data], laidTests := true, laidLooks := .later }
def MacBeginsUptoCardSaid : Prop := Claim7.holds Tryd.pinned (.plain (OpenSpec.upto macBeginsSpec)) macBeginsUptoCard

/-- THE SECOND FORM's CARD OF 'shallotlaw02.MacStreams'. -/
def macStreamsUptoCard : Claim7 := { stood := { row := macStreamsUptoRow, standIns := [], harness := (true, "216aff96c11110dab00c16a25f6841e5483664498896f808911cabd9ef41eb8e"), looks := false }, kinds := [], alts := [], laidByText := true, laidKinds := [.data], laidTests := true, laidLooks := .later }
def MacStreamsUptoCardSaid : Prop := Claim7.holds Tryd.pinned (.plain (OpenSpec.upto macStreamsSpec)) macStreamsUptoCard
end Rows
end Go.Proofs.YtkclfhkaopimoaaDoor
