/-
  DERIVED. GIVEN WITH THE SEED: THE CARDS: each row of YtklamgdgdamcgaaDoorRows.lean that lists a variable, with what it lists TIED to the program's text (the seventh form; the later family's looks); each row that meets fmt, with fmt's text TOLD by the authors' own Lean function (tested against real Go, not proved from fmt's source: count such statements apart). THE CARD IS WHAT COUNTS. Prove the row's statement (the work); the ties are given (YtklamgdgdamcgaaDoorTie.lean); close each card by the builder's one call (the guide's Derived/Test/ToyasCard.lean, 'card_holds'). Laid BY PROGRAM, IN A SANDBOX (cutbox-door.mjs). By AI agents, Wed Nov 11 2026. No macro, syntax, notation, axiom, sorry.
-/
import Derived.Test.YtklamgdgdamcgaaDoorRows
import GoSem.ClaimSeven
namespace Go.Proofs.YtklamgdgdamcgaaDoor
namespace Rows

/-- THE TIED CARD OF 'shallotlaw02.MacHashes'. -/
def macHashesCard : Claim7 := { stood := { row := macHashesRow, standIns := [], harness := (true, "afae67657bc4a1834149cd058dc2bf98e2f08ff0dcae66f118c210f6a9e156f6"), looks := false }, kinds := [], alts := [], laidByText := true, laidKinds := [.data], laidTests := true, laidLooks := .later }
def MacHashesCardSaid : Prop := Claim7.holds Tryd.pinned (.plain (OpenSpec.ofChange macHashesSpec)) macHashesCard

/-- THE TIED CARD OF 'shallotlaw02.MacKeys'. -/
def macKeysCard : Claim7 := { stood := { row := macKeysRow, standIns := [], harness := (true, "afae67657bc4a1834149cd058dc2bf98e2f08ff0dcae66f118c210f6a9e156f6"), looks := false }, kinds := [], alts := [], laidByText := true, laidKinds := [.data], laidTests := true, laidLooks := .later }
def MacKeysCardSaid : Prop := Claim7.holds Tryd.pinned (.plain (OpenSpec.ofChange macKeysSpec)) macKeysCard

/-- THE TIED CARD OF 'shallotlaw02.MacTags'. -/
def macTagsCard : Claim7 := { stood := { row := macTagsRow, standIns := [], harness := (true, "afae67657bc4a1834149cd058dc2bf98e2f08ff0dcae66f118c210f6a9e156f6"), looks := false }, kinds := [], alts := [], laidByText := true, laidKinds := [.data], laidTests := true, laidLooks := .later }
def MacTagsCardSaid : Prop := Claim7.holds Tryd.pinned (.plain (OpenSpec.ofChange macTagsSpec)) macTagsCard

/-- THE TIED CARD OF 'shallotlaw02.MacBegins'. -/
def macBeginsCard : Claim7 := { stood := { row := macBeginsRow, standIns := [], harness := (true, "afae67657bc4a1834149cd058dc2bf98e2f08ff0dcae66f118c210f6a9e156f6"), looks := false }, kinds := [], alts := [], laidByText := true, laidKinds := [.data], laidTests := true, laidLooks := .later }
def MacBeginsCardSaid : Prop := Claim7.holds Tryd.pinned (.plain (OpenSpec.ofChange macBeginsSpec)) macBeginsCard

/-- THE TIED CARD OF 'shallotlaw02.MacStreams'. -/
def macStreamsCard : Claim7 := { stood := { row := macStreamsRow, standIns := [], harness := (true, "afae67657bc4a1834149cd058dc2bf98e2f08ff0dcae66f118c210f6a9e156f6"), looks := false }, kinds := [], alts := [], laidByText := true, laidKinds := [.data], laidTests := true, laidLooks := .later }
def MacStreamsCardSaid : Prop := Claim7.holds Tryd.pinned (.plain (OpenSpec.ofChange macStreamsSpec)) macStreamsCard

/-- THE TIED CARD OF 'shallotlaw07.KeyKeys'. -/
def keyKeysCard : Claim7 := { stood := { row := keyKeysRow, standIns := [], harness := (true, "afae67657bc4a1834149cd058dc2bf98e2f08ff0dcae66f118c210f6a9e156f6"), looks := false }, kinds := [], alts := [], laidByText := true, laidKinds := [.data], laidTests := true, laidLooks := .later }
def KeyKeysCardSaid : Prop := Claim7.holds Tryd.pinned (.plain (OpenSpec.ofChange keyKeysSpec)) keyKeysCard

/-- THE TIED CARD OF 'shallotlaw07.KeyPairs'. -/
def keyPairsCard : Claim7 := { stood := { row := keyPairsRow, standIns := [], harness := (true, "afae67657bc4a1834149cd058dc2bf98e2f08ff0dcae66f118c210f6a9e156f6"), looks := false }, kinds := [], alts := [], laidByText := true, laidKinds := [.data], laidTests := true, laidLooks := .later }
def KeyPairsCardSaid : Prop := Claim7.holds Tryd.pinned (.plain (OpenSpec.ofChange keyPairsSpec)) keyPairsCard

/-- THE TIED CARD OF 'shallotlaw08.LayerStream'. -/
def layerStreamCard : Claim7 := { stood := { row := layerStreamRow, standIns := [], harness := (true, "afae67657bc4a1834149cd058dc2bf98e2f08ff0dcae66f118c210f6a9e156f6"), looks := false }, kinds := [], alts := [], laidByText := true, laidKinds := [.data], laidTests := true, laidLooks := .later }
def LayerStreamCardSaid : Prop := Claim7.holds Tryd.pinned (.plain (OpenSpec.ofChange layerStreamSpec)) layerStreamCard

/-- THE TIED CARD OF 'shallotlaw08.LayerSeals'. -/
def layerSealsCard : Claim7 := { stood := { row := layerSealsRow, standIns := [], harness := (true, "afae67657bc4a1834149cd058dc2bf98e2f08ff0dcae66f118c210f6a9e156f6"), looks := false }, kinds := [], alts := [], laidByText := true, laidKinds := [.data], laidTests := true, laidLooks := .later }
def LayerSealsCardSaid : Prop := Claim7.holds Tryd.pinned (.plain (OpenSpec.ofChange layerSealsSpec)) layerSealsCard

/-- THE TIED CARD OF 'shallotlaw08.LayerKeys'. -/
def layerKeysCard : Claim7 := { stood := { row := layerKeysRow, standIns := [], harness := (true, "afae67657bc4a1834149cd058dc2bf98e2f08ff0dcae66f118c210f6a9e156f6"), looks := false }, kinds := [], alts := [], laidByText := true, laidKinds := [.data], laidTests := true, laidLooks := .later }
def LayerKeysCardSaid : Prop := Claim7.holds Tryd.pinned (.plain (OpenSpec.ofChange layerKeysSpec)) layerKeysCard

/-- THE TIED CARD OF 'shallotlaw08.LayerOpens'. -/
def layerOpensCard : Claim7 := { stood := { row := layerOpensRow, standIns := [], harness := (true, "afae67657bc4a1834149cd058dc2bf98e2f08ff0dcae66f118c210f6a9e156f6"), looks := false }, kinds := [], alts := [], laidByText := true, laidKinds := [.data], laidTests := true, laidLooks := .later }
def LayerOpensCardSaid : Prop := Claim7.holds Tryd.pinned (.plain (OpenSpec.ofChange layerOpensSpec)) layerOpensCard

/-- THE TIED CARD OF 'shallotlaw08.LayerBack'. -/
def layerBackCard : Claim7 := { stood := { row := layerBackRow, standIns := [], harness := (true, "afae67657bc4a1834149cd058dc2bf98e2f08ff0dcae66f118c210f6a9e156f6"), looks := false }, kinds := [], alts := [], laidByText := true, laidKinds := [.data], laidTests := true, laidLooks := .later }
def LayerBackCardSaid : Prop := Claim7.holds Tryd.pinned (.plain (OpenSpec.ofChange layerBackSpec)) layerBackCard

/-- THE TIED CARD OF 'shallotlaw08.LayerTag'. -/
def layerTagCard : Claim7 := { stood := { row := layerTagRow, standIns := [], harness := (true, "afae67657bc4a1834149cd058dc2bf98e2f08ff0dcae66f118c210f6a9e156f6"), looks := false }, kinds := [], alts := [], laidByText := true, laidKinds := [.data], laidTests := true, laidLooks := .later }
def LayerTagCardSaid : Prop := Claim7.holds Tryd.pinned (.plain (OpenSpec.ofChange layerTagSpec)) layerTagCard

/-- THE SECOND FORM's CARD OF 'shallotlaw02.MacHashes'. -/
def macHashesUptoCard : Claim7 := { stood := { row := macHashesUptoRow, standIns := [], harness := (true, "afae67657bc4a1834149cd058dc2bf98e2f08ff0dcae66f118c210f6a9e156f6"), looks := false }, kinds := [], alts := [], laidByText := true, laidKinds := [.data], laidTests := true, laidLooks := .later }
def MacHashesUptoCardSaid : Prop := Claim7.holds Tryd.pinned (.plain (OpenSpec.upto macHashesSpec)) macHashesUptoCard

/-- THE SECOND FORM's CARD OF 'shallotlaw02.MacKeys'. -/
def macKeysUptoCard : Claim7 := { stood := { row := macKeysUptoRow, standIns := [], harness := (true, "afae67657bc4a1834149cd058dc2bf98e2f08ff0dcae66f118c210f6a9e156f6"), looks := false }, kinds := [], alts := [], laidByText := true, laidKinds := [.data], laidTests := true, laidLooks := .later }
def MacKeysUptoCardSaid : Prop := Claim7.holds Tryd.pinned (.plain (OpenSpec.upto macKeysSpec)) macKeysUptoCard

/-- THE SECOND FORM's CARD OF 'shallotlaw02.MacTags'. -/
def macTagsUptoCard : Claim7 := { stood := { row := macTagsUptoRow, standIns := [], harness := (true, "afae67657bc4a1834149cd058dc2bf98e2f08ff0dcae66f118c210f6a9e156f6"), looks := false }, kinds := [], alts := [], laidByText := true, laidKinds := [.data], laidTests := true, laidLooks := .later }
def MacTagsUptoCardSaid : Prop := Claim7.holds Tryd.pinned (.plain (OpenSpec.upto macTagsSpec)) macTagsUptoCard

/-- THE SECOND FORM's CARD OF 'shallotlaw02.MacBegins'. -/
def macBeginsUptoCard : Claim7 := { stood := { row := macBeginsUptoRow, standIns := [], harness := (true, "afae67657bc4a1834149cd058dc2bf98e2f08ff0dcae66f118c210f6a9e156f6"), looks := false }, kinds := [], alts := [], laidByText := true, laidKinds := [.data], laidTests := true, laidLooks := .later }
def MacBeginsUptoCardSaid : Prop := Claim7.holds Tryd.pinned (.plain (OpenSpec.upto macBeginsSpec)) macBeginsUptoCard

/-- THE SECOND FORM's CARD OF 'shallotlaw02.MacStreams'. -/
def macStreamsUptoCard : Claim7 := { stood := { row := macStreamsUptoRow, standIns := [], harness := (true, "afae67657bc4a1834149cd058dc2bf98e2f08ff0dcae66f118c210f6a9e156f6"), looks := false }, kinds := [], alts := [], laidByText := true, laidKinds := [.data], laidTests := true, laidLooks := .later }
def MacStreamsUptoCardSaid : Prop := Claim7.holds Tryd.pinned (.plain (OpenSpec.upto macStreamsSpec)) macStreamsUptoCard

/-- THE SECOND FORM's CARD OF 'shallotlaw07.KeyKeys'. -/
def keyKeysUptoCard : Claim7 := { stood := { row := keyKeysUptoRow, standIns := [], harness := (true, "afae67657bc4a1834149cd058dc2bf98e2f08ff0dcae66f118c210f6a9e156f6"), looks := false }, kinds := [], alts := [], laidByText := true, laidKinds := [.data], laidTests := true, laidLooks := .later }
def KeyKeysUptoCardSaid : Prop := Claim7.holds Tryd.pinned (.plain (OpenSpec.upto keyKeysSpec)) keyKeysUptoCard

/-- THE SECOND FORM's CARD OF 'shallotlaw07.KeyPairs'. -/
def keyPairsUptoCard : Claim7 := { stood := { row := keyPairsUptoRow, standIns := [], harness := (true, "afae67657bc4a1834149cd058dc2bf98e2f08ff0dcae66f118c210f6a9e156f6"), looks := false }, kinds := [], alts := [], laidByText := true, laidKinds := [.data], laidTests := true, laidLooks := .later }
def KeyPairsUptoCardSaid : Prop := Claim7.holds Tryd.pinned (.plain (OpenSpec.upto keyPairsSpec)) keyPairsUptoCard

/-- THE SECOND FORM's CARD OF 'shallotlaw08.LayerStream'. -/
def layerStreamUptoCard : Claim7 := { stood := { row := layerStreamUptoRow, standIns := [], harness := (true, "afae67657bc4a1834149cd058dc2bf98e2f08ff0dcae66f118c210f6a9e156f6"), looks := false }, kinds := [], alts := [], laidByText := true, laidKinds := [.data], laidTests := true, laidLooks := .later }
def LayerStreamUptoCardSaid : Prop := Claim7.holds Tryd.pinned (.plain (OpenSpec.upto layerStreamSpec)) layerStreamUptoCard

/-- THE SECOND FORM's CARD OF 'shallotlaw08.LayerSeals'. -/
def layerSealsUptoCard : Claim7 := { stood := { row := layerSealsUptoRow, standIns := [], harness := (true, "afae67657bc4a1834149cd058dc2bf98e2f08ff0dcae66f118c210f6a9e156f6"), looks := false }, kinds := [], alts := [], laidByText := true, laidKinds := [.data], laidTests := true, laidLooks := .later }
def LayerSealsUptoCardSaid : Prop := Claim7.holds Tryd.pinned (.plain (OpenSpec.upto layerSealsSpec)) layerSealsUptoCard

/-- THE SECOND FORM's CARD OF 'shallotlaw08.LayerKeys'. -/
def layerKeysUptoCard : Claim7 := { stood := { row := layerKeysUptoRow, standIns := [], harness := (true, "afae67657bc4a1834149cd058dc2bf98e2f08ff0dcae66f118c210f6a9e156f6"), looks := false }, kinds := [], alts := [], laidByText := true, laidKinds := [.data], laidTests := true, laidLooks := .later }
def LayerKeysUptoCardSaid : Prop := Claim7.holds Tryd.pinned (.plain (OpenSpec.upto layerKeysSpec)) layerKeysUptoCard

/-- THE SECOND FORM's CARD OF 'shallotlaw08.LayerOpens'. -/
def layerOpensUptoCard : Claim7 := { stood := { row := layerOpensUptoRow, standIns := [], harness := (true, "afae67657bc4a1834149cd058dc2bf98e2f08ff0dcae66f118c210f6a9e156f6"), looks := false }, kinds := [], alts := [], laidByText := true, laidKinds := [.data], laidTests := true, laidLooks := .later }
def LayerOpensUptoCardSaid : Prop := Claim7.holds Tryd.pinned (.plain (OpenSpec.upto layerOpensSpec)) layerOpensUptoCard

/-- THE SECOND FORM's CARD OF 'shallotlaw08.LayerBack'. -/
def layerBackUptoCard : Claim7 := { stood := { row := layerBackUptoRow, standIns := [], harness := (true, "afae67657bc4a1834149cd058dc2bf98e2f08ff0dcae66f118c210f6a9e156f6"), looks := false }, kinds := [], alts := [], laidByText := true, laidKinds := [.data], laidTests := true, laidLooks := .later }
def LayerBackUptoCardSaid : Prop := Claim7.holds Tryd.pinned (.plain (OpenSpec.upto layerBackSpec)) layerBackUptoCard

/-- THE SECOND FORM's CARD OF 'shallotlaw08.LayerTag'. -/
def layerTagUptoCard : Claim7 := { stood := { row := layerTagUptoRow, standIns := [], harness := (true, "afae67657bc4a1834149cd058dc2bf98e2f08ff0dcae66f118c210f6a9e156f6"), looks := false }, kinds := [], alts := [], laidByText := true, laidKinds := [.data], laidTests := true, laidLooks := .later }
def LayerTagUptoCardSaid : Prop := Claim7.holds Tryd.pinned (.plain (OpenSpec.upto layerTagSpec)) layerTagUptoCard
end Rows
end Go.Proofs.YtklamgdgdamcgaaDoor
