/-
  NARROWER THAN 'FOR EVERY INPUT', by the rows' own cells (each row's printed sentence says how): MacHashes: laid · MacKeys: laid · MacTags: laid · MacBegins: laid · MacStreams: laid · KeyKeys: laid · KeyPairs: laid · LayerStream: laid · LayerSeals: laid · LayerKeys: laid · LayerOpens: laid · LayerBack: laid · LayerTag: laid.
  DERIVED. THE GIVEN ROWS OF THIS SEAT. 13 by the template 'for every input the law returns true; each argument reads behind the call as it read before'; 0 by the template 'total and deterministic' (their statements: YtklamgdgdamcgaaDoorTotals.lean).
  GIVEN WITH THE SEED: the statements are not yours to turn. If you find one false, say at which input.
  Laid BY PROGRAM, IN A SANDBOX (cutbox-rows.mjs): the forced cells as the released guide's own fill.sh prints them over the translation 5b6b7b69e432501c… (all of the seat's roots in one cut). By AI agents, Wed Nov 11 2026. No macro, syntax, notation, axiom, sorry.
-/
import Derived.Test.YtklamgdgdamcgaaDoorChecked
import GoSem.Claim
import GoSem.ClaimJoined
import GoSem.ClaimMapViews
import Derived.JoinedTies
import Derived.KernelRfl
namespace Go.Proofs.YtklamgdgdamcgaaDoor
/- THE CELL 'sum', in the pinned program and in every row, IS THE sha256 OF THE DUMP (.gsa) THAT YtklamgdgdamcgaaDoorProg.lean LOADS. Nothing in Lean hashes anything: it is a label: what it is worth is what the hold of that sum in a sandbox is worth. -/
noncomputable def Tryd.pinned : Pinned := { name := "ytklamgdgdamcgaadoor", sum := "5b6b7b69e432501c2d1e25537fda3a3db97a21c8035afb32c70b9b4dd6829825", checked := Tryd.checked }
namespace Rows
def none {H : Type} : Left H := { results := [], args := [] }

/- WHAT THE LISTED PACKAGE-LEVEL VARIABLES READ AS WHEN THE CALL BEGINS. Each datum BY PROGRAM (the guide's laid-datum.mjs) off the statement by which the dump's own 'gosem.cut.vars' lays the variable. In a bare row this is a premise. The card (YtklamgdgdamcgaaDoorCards.lean) ties it to the program's text. -/
def laid_shallot_sha_constants {H : Type} : DataW H := .agg [.lit (.int .u32 1116352408), .lit (.int .u32 1899447441), .lit (.int .u32 3049323471), .lit (.int .u32 3921009573), .lit (.int .u32 961987163), .lit (.int .u32 1508970993), .lit (.int .u32 2453635748), .lit (.int .u32 2870763221), .lit (.int .u32 3624381080), .lit (.int .u32 310598401), .lit (.int .u32 607225278), .lit (.int .u32 1426881987), .lit (.int .u32 1925078388), .lit (.int .u32 2162078206), .lit (.int .u32 2614888103), .lit (.int .u32 3248222580), .lit (.int .u32 3835390401), .lit (.int .u32 4022224774), .lit (.int .u32 264347078), .lit (.int .u32 604807628), .lit (.int .u32 770255983), .lit (.int .u32 1249150122), .lit (.int .u32 1555081692), .lit (.int .u32 1996064986), .lit (.int .u32 2554220882), .lit (.int .u32 2821834349), .lit (.int .u32 2952996808), .lit (.int .u32 3210313671), .lit (.int .u32 3336571891), .lit (.int .u32 3584528711), .lit (.int .u32 113926993), .lit (.int .u32 338241895), .lit (.int .u32 666307205), .lit (.int .u32 773529912), .lit (.int .u32 1294757372), .lit (.int .u32 1396182291), .lit (.int .u32 1695183700), .lit (.int .u32 1986661051), .lit (.int .u32 2177026350), .lit (.int .u32 2456956037), .lit (.int .u32 2730485921), .lit (.int .u32 2820302411), .lit (.int .u32 3259730800), .lit (.int .u32 3345764771), .lit (.int .u32 3516065817), .lit (.int .u32 3600352804), .lit (.int .u32 4094571909), .lit (.int .u32 275423344), .lit (.int .u32 430227734), .lit (.int .u32 506948616), .lit (.int .u32 659060556), .lit (.int .u32 883997877), .lit (.int .u32 958139571), .lit (.int .u32 1322822218), .lit (.int .u32 1537002063), .lit (.int .u32 1747873779), .lit (.int .u32 1955562222), .lit (.int .u32 2024104815), .lit (.int .u32 2227730452), .lit (.int .u32 2361852424), .lit (.int .u32 2428436474), .lit (.int .u32 2756734187), .lit (.int .u32 3204031479), .lit (.int .u32 3329325298)]

/-- 'shallotlaw02.MacHashes': WHATEVER THE INPUT: true; the input reads as it did. -/
def macHashesSpec : ChangeSpec := { name := "macHashes", fn := fun _ => fun
  | [d1, d2] => { results := [.lit (.bool true)], args := [d1, d2] }
  | _ => none }
def macHashesRow : OpenClaim := { program := "ytklamgdgdamcgaadoor", sum := "5b6b7b69e432501c2d1e25537fda3a3db97a21c8035afb32c70b9b4dd6829825", func := "shallot/shallotlaw02.MacHashes", spec := "macHashes", unfollowed := true, recurses := true, named := ["shallot/sha.constants"], apart := false, laid := [("shallot/sha.constants", laid_shallot_sha_constants)] }
def MacHashesSaid : Prop := macHashesRow.holds Tryd.pinned (OpenSpec.ofChange macHashesSpec)

/-- ITS FALSE NEIGHBOUR: 'it returns false'. Refute it at one input. -/
def macHashesWrong : ChangeSpec := { name := "macHashes", fn := fun _ => fun
  | [d1, d2] => { results := [.lit (.bool false)], args := [d1, d2] }
  | _ => none }
def MacHashesWrongFalsely : Prop := macHashesRow.holds Tryd.pinned (OpenSpec.ofChange macHashesWrong)

/-- 'shallotlaw02.MacKeys': WHATEVER THE INPUT: true; the input reads as it did. -/
def macKeysSpec : ChangeSpec := { name := "macKeys", fn := fun _ => fun
  | [d1, d2] => { results := [.lit (.bool true)], args := [d1, d2] }
  | _ => none }
def macKeysRow : OpenClaim := { program := "ytklamgdgdamcgaadoor", sum := "5b6b7b69e432501c2d1e25537fda3a3db97a21c8035afb32c70b9b4dd6829825", func := "shallot/shallotlaw02.MacKeys", spec := "macKeys", unfollowed := true, recurses := true, named := ["shallot/sha.constants"], apart := false, laid := [("shallot/sha.constants", laid_shallot_sha_constants)] }
def MacKeysSaid : Prop := macKeysRow.holds Tryd.pinned (OpenSpec.ofChange macKeysSpec)

/-- ITS FALSE NEIGHBOUR: 'it returns false'. Refute it at one input. -/
def macKeysWrong : ChangeSpec := { name := "macKeys", fn := fun _ => fun
  | [d1, d2] => { results := [.lit (.bool false)], args := [d1, d2] }
  | _ => none }
def MacKeysWrongFalsely : Prop := macKeysRow.holds Tryd.pinned (OpenSpec.ofChange macKeysWrong)

/-- 'shallotlaw02.MacTags': WHATEVER THE INPUT: true; the input reads as it did. -/
def macTagsSpec : ChangeSpec := { name := "macTags", fn := fun _ => fun
  | [d1, d2, d3] => { results := [.lit (.bool true)], args := [d1, d2, d3] }
  | _ => none }
def macTagsRow : OpenClaim := { program := "ytklamgdgdamcgaadoor", sum := "5b6b7b69e432501c2d1e25537fda3a3db97a21c8035afb32c70b9b4dd6829825", func := "shallot/shallotlaw02.MacTags", spec := "macTags", unfollowed := true, recurses := true, named := ["shallot/sha.constants"], apart := false, laid := [("shallot/sha.constants", laid_shallot_sha_constants)] }
def MacTagsSaid : Prop := macTagsRow.holds Tryd.pinned (OpenSpec.ofChange macTagsSpec)

/-- ITS FALSE NEIGHBOUR: 'it returns false'. Refute it at one input. -/
def macTagsWrong : ChangeSpec := { name := "macTags", fn := fun _ => fun
  | [d1, d2, d3] => { results := [.lit (.bool false)], args := [d1, d2, d3] }
  | _ => none }
def MacTagsWrongFalsely : Prop := macTagsRow.holds Tryd.pinned (OpenSpec.ofChange macTagsWrong)

/-- 'shallotlaw02.MacBegins': WHATEVER THE INPUT: true; the input reads as it did. -/
def macBeginsSpec : ChangeSpec := { name := "macBegins", fn := fun _ => fun
  | [d1, d2, d3] => { results := [.lit (.bool true)], args := [d1, d2, d3] }
  | _ => none }
def macBeginsRow : OpenClaim := { program := "ytklamgdgdamcgaadoor", sum := "5b6b7b69e432501c2d1e25537fda3a3db97a21c8035afb32c70b9b4dd6829825", func := "shallot/shallotlaw02.MacBegins", spec := "macBegins", unfollowed := true, recurses := true, named := ["shallot/sha.constants"], apart := false, laid := [("shallot/sha.constants", laid_shallot_sha_constants)] }
def MacBeginsSaid : Prop := macBeginsRow.holds Tryd.pinned (OpenSpec.ofChange macBeginsSpec)

/-- ITS FALSE NEIGHBOUR: 'it returns false'. Refute it at one input. -/
def macBeginsWrong : ChangeSpec := { name := "macBegins", fn := fun _ => fun
  | [d1, d2, d3] => { results := [.lit (.bool false)], args := [d1, d2, d3] }
  | _ => none }
def MacBeginsWrongFalsely : Prop := macBeginsRow.holds Tryd.pinned (OpenSpec.ofChange macBeginsWrong)

/-- 'shallotlaw02.MacStreams': WHATEVER THE INPUT: true; the input reads as it did. -/
def macStreamsSpec : ChangeSpec := { name := "macStreams", fn := fun _ => fun
  | [d1, d2, d3, d4] => { results := [.lit (.bool true)], args := [d1, d2, d3, d4] }
  | _ => none }
def macStreamsRow : OpenClaim := { program := "ytklamgdgdamcgaadoor", sum := "5b6b7b69e432501c2d1e25537fda3a3db97a21c8035afb32c70b9b4dd6829825", func := "shallot/shallotlaw02.MacStreams", spec := "macStreams", unfollowed := true, recurses := true, named := ["shallot/sha.constants"], apart := false, laid := [("shallot/sha.constants", laid_shallot_sha_constants)] }
def MacStreamsSaid : Prop := macStreamsRow.holds Tryd.pinned (OpenSpec.ofChange macStreamsSpec)

/-- ITS FALSE NEIGHBOUR: 'it returns false'. Refute it at one input. -/
def macStreamsWrong : ChangeSpec := { name := "macStreams", fn := fun _ => fun
  | [d1, d2, d3, d4] => { results := [.lit (.bool false)], args := [d1, d2, d3, d4] }
  | _ => none }
def MacStreamsWrongFalsely : Prop := macStreamsRow.holds Tryd.pinned (OpenSpec.ofChange macStreamsWrong)

/-- 'shallotlaw07.KeyKeys': WHATEVER THE INPUT: true; the input reads as it did. -/
def keyKeysSpec : ChangeSpec := { name := "keyKeys", fn := fun _ => fun
  | [d1, d2, d3] => { results := [.lit (.bool true)], args := [d1, d2, d3] }
  | _ => none }
def keyKeysRow : OpenClaim := { program := "ytklamgdgdamcgaadoor", sum := "5b6b7b69e432501c2d1e25537fda3a3db97a21c8035afb32c70b9b4dd6829825", func := "shallot/shallotlaw07.KeyKeys", spec := "keyKeys", unfollowed := true, recurses := true, named := ["shallot/sha.constants"], apart := false, laid := [("shallot/sha.constants", laid_shallot_sha_constants)] }
def KeyKeysSaid : Prop := keyKeysRow.holds Tryd.pinned (OpenSpec.ofChange keyKeysSpec)

/-- ITS FALSE NEIGHBOUR: 'it returns false'. Refute it at one input. -/
def keyKeysWrong : ChangeSpec := { name := "keyKeys", fn := fun _ => fun
  | [d1, d2, d3] => { results := [.lit (.bool false)], args := [d1, d2, d3] }
  | _ => none }
def KeyKeysWrongFalsely : Prop := keyKeysRow.holds Tryd.pinned (OpenSpec.ofChange keyKeysWrong)

/-- 'shallotlaw07.KeyPairs': WHATEVER THE INPUT: true; the input reads as it did. -/
def keyPairsSpec : ChangeSpec := { name := "keyPairs", fn := fun _ => fun
  | [d1, d2, d3] => { results := [.lit (.bool true)], args := [d1, d2, d3] }
  | _ => none }
def keyPairsRow : OpenClaim := { program := "ytklamgdgdamcgaadoor", sum := "5b6b7b69e432501c2d1e25537fda3a3db97a21c8035afb32c70b9b4dd6829825", func := "shallot/shallotlaw07.KeyPairs", spec := "keyPairs", unfollowed := true, recurses := true, named := ["shallot/sha.constants"], apart := false, laid := [("shallot/sha.constants", laid_shallot_sha_constants)] }
def KeyPairsSaid : Prop := keyPairsRow.holds Tryd.pinned (OpenSpec.ofChange keyPairsSpec)

/-- ITS FALSE NEIGHBOUR: 'it returns false'. Refute it at one input. -/
def keyPairsWrong : ChangeSpec := { name := "keyPairs", fn := fun _ => fun
  | [d1, d2, d3] => { results := [.lit (.bool false)], args := [d1, d2, d3] }
  | _ => none }
def KeyPairsWrongFalsely : Prop := keyPairsRow.holds Tryd.pinned (OpenSpec.ofChange keyPairsWrong)

/-- 'shallotlaw08.LayerStream': WHATEVER THE INPUT: true; the input reads as it did. -/
def layerStreamSpec : ChangeSpec := { name := "layerStream", fn := fun _ => fun
  | [d1, d2, d3, d4] => { results := [.lit (.bool true)], args := [d1, d2, d3, d4] }
  | _ => none }
def layerStreamRow : OpenClaim := { program := "ytklamgdgdamcgaadoor", sum := "5b6b7b69e432501c2d1e25537fda3a3db97a21c8035afb32c70b9b4dd6829825", func := "shallot/shallotlaw08.LayerStream", spec := "layerStream", unfollowed := true, recurses := true, named := ["shallot/sha.constants"], apart := false, laid := [("shallot/sha.constants", laid_shallot_sha_constants)] }
def LayerStreamSaid : Prop := layerStreamRow.holds Tryd.pinned (OpenSpec.ofChange layerStreamSpec)

/-- ITS FALSE NEIGHBOUR: 'it returns false'. Refute it at one input. -/
def layerStreamWrong : ChangeSpec := { name := "layerStream", fn := fun _ => fun
  | [d1, d2, d3, d4] => { results := [.lit (.bool false)], args := [d1, d2, d3, d4] }
  | _ => none }
def LayerStreamWrongFalsely : Prop := layerStreamRow.holds Tryd.pinned (OpenSpec.ofChange layerStreamWrong)

/-- 'shallotlaw08.LayerSeals': WHATEVER THE INPUT: true; the input reads as it did. -/
def layerSealsSpec : ChangeSpec := { name := "layerSeals", fn := fun _ => fun
  | [d1, d2, d3, d4, d5] => { results := [.lit (.bool true)], args := [d1, d2, d3, d4, d5] }
  | _ => none }
def layerSealsRow : OpenClaim := { program := "ytklamgdgdamcgaadoor", sum := "5b6b7b69e432501c2d1e25537fda3a3db97a21c8035afb32c70b9b4dd6829825", func := "shallot/shallotlaw08.LayerSeals", spec := "layerSeals", unfollowed := true, recurses := true, named := ["shallot/sha.constants"], apart := false, laid := [("shallot/sha.constants", laid_shallot_sha_constants)] }
def LayerSealsSaid : Prop := layerSealsRow.holds Tryd.pinned (OpenSpec.ofChange layerSealsSpec)

/-- ITS FALSE NEIGHBOUR: 'it returns false'. Refute it at one input. -/
def layerSealsWrong : ChangeSpec := { name := "layerSeals", fn := fun _ => fun
  | [d1, d2, d3, d4, d5] => { results := [.lit (.bool false)], args := [d1, d2, d3, d4, d5] }
  | _ => none }
def LayerSealsWrongFalsely : Prop := layerSealsRow.holds Tryd.pinned (OpenSpec.ofChange layerSealsWrong)

/-- 'shallotlaw08.LayerKeys': WHATEVER THE INPUT: true; the input reads as it did. -/
def layerKeysSpec : ChangeSpec := { name := "layerKeys", fn := fun _ => fun
  | [d1, d2, d3, d4] => { results := [.lit (.bool true)], args := [d1, d2, d3, d4] }
  | _ => none }
def layerKeysRow : OpenClaim := { program := "ytklamgdgdamcgaadoor", sum := "5b6b7b69e432501c2d1e25537fda3a3db97a21c8035afb32c70b9b4dd6829825", func := "shallot/shallotlaw08.LayerKeys", spec := "layerKeys", unfollowed := true, recurses := true, named := ["shallot/sha.constants"], apart := false, laid := [("shallot/sha.constants", laid_shallot_sha_constants)] }
def LayerKeysSaid : Prop := layerKeysRow.holds Tryd.pinned (OpenSpec.ofChange layerKeysSpec)

/-- ITS FALSE NEIGHBOUR: 'it returns false'. Refute it at one input. -/
def layerKeysWrong : ChangeSpec := { name := "layerKeys", fn := fun _ => fun
  | [d1, d2, d3, d4] => { results := [.lit (.bool false)], args := [d1, d2, d3, d4] }
  | _ => none }
def LayerKeysWrongFalsely : Prop := layerKeysRow.holds Tryd.pinned (OpenSpec.ofChange layerKeysWrong)

/-- 'shallotlaw08.LayerOpens': WHATEVER THE INPUT: true; the input reads as it did. -/
def layerOpensSpec : ChangeSpec := { name := "layerOpens", fn := fun _ => fun
  | [d1, d2] => { results := [.lit (.bool true)], args := [d1, d2] }
  | _ => none }
def layerOpensRow : OpenClaim := { program := "ytklamgdgdamcgaadoor", sum := "5b6b7b69e432501c2d1e25537fda3a3db97a21c8035afb32c70b9b4dd6829825", func := "shallot/shallotlaw08.LayerOpens", spec := "layerOpens", unfollowed := true, recurses := true, named := ["shallot/sha.constants"], apart := false, laid := [("shallot/sha.constants", laid_shallot_sha_constants)] }
def LayerOpensSaid : Prop := layerOpensRow.holds Tryd.pinned (OpenSpec.ofChange layerOpensSpec)

/-- ITS FALSE NEIGHBOUR: 'it returns false'. Refute it at one input. -/
def layerOpensWrong : ChangeSpec := { name := "layerOpens", fn := fun _ => fun
  | [d1, d2] => { results := [.lit (.bool false)], args := [d1, d2] }
  | _ => none }
def LayerOpensWrongFalsely : Prop := layerOpensRow.holds Tryd.pinned (OpenSpec.ofChange layerOpensWrong)

/-- 'shallotlaw08.LayerBack': WHATEVER THE INPUT: true; the input reads as it did. -/
def layerBackSpec : ChangeSpec := { name := "layerBack", fn := fun _ => fun
  | [d1, d2, d3, d4] => { results := [.lit (.bool true)], args := [d1, d2, d3, d4] }
  | _ => none }
def layerBackRow : OpenClaim := { program := "ytklamgdgdamcgaadoor", sum := "5b6b7b69e432501c2d1e25537fda3a3db97a21c8035afb32c70b9b4dd6829825", func := "shallot/shallotlaw08.LayerBack", spec := "layerBack", unfollowed := true, recurses := true, named := ["shallot/sha.constants"], apart := false, laid := [("shallot/sha.constants", laid_shallot_sha_constants)] }
def LayerBackSaid : Prop := layerBackRow.holds Tryd.pinned (OpenSpec.ofChange layerBackSpec)

/-- ITS FALSE NEIGHBOUR: 'it returns false'. Refute it at one input. -/
def layerBackWrong : ChangeSpec := { name := "layerBack", fn := fun _ => fun
  | [d1, d2, d3, d4] => { results := [.lit (.bool false)], args := [d1, d2, d3, d4] }
  | _ => none }
def LayerBackWrongFalsely : Prop := layerBackRow.holds Tryd.pinned (OpenSpec.ofChange layerBackWrong)

/-- 'shallotlaw08.LayerTag': WHATEVER THE INPUT: true; the input reads as it did. -/
def layerTagSpec : ChangeSpec := { name := "layerTag", fn := fun _ => fun
  | [d1, d2, d3] => { results := [.lit (.bool true)], args := [d1, d2, d3] }
  | _ => none }
def layerTagRow : OpenClaim := { program := "ytklamgdgdamcgaadoor", sum := "5b6b7b69e432501c2d1e25537fda3a3db97a21c8035afb32c70b9b4dd6829825", func := "shallot/shallotlaw08.LayerTag", spec := "layerTag", unfollowed := true, recurses := true, named := ["shallot/sha.constants"], apart := false, laid := [("shallot/sha.constants", laid_shallot_sha_constants)] }
def LayerTagSaid : Prop := layerTagRow.holds Tryd.pinned (OpenSpec.ofChange layerTagSpec)

/-- ITS FALSE NEIGHBOUR: 'it returns false'. Refute it at one input. -/
def layerTagWrong : ChangeSpec := { name := "layerTag", fn := fun _ => fun
  | [d1, d2, d3] => { results := [.lit (.bool false)], args := [d1, d2, d3] }
  | _ => none }
def LayerTagWrongFalsely : Prop := layerTagRow.holds Tryd.pinned (OpenSpec.ofChange layerTagWrong)

/- THE SECOND FORM. 'bulk': how many values and letters a reading holds, each counted each time it is reached (what is shared counts as often as it is met; a slice's spare places count too). A statement '..UptoSaid' is the law's where the arguments, and the package variables that the reading takes, are together of bulk at most 1048576: NARROWER than '..Said'. Prove '..Said' where nothing that the law and all that it calls make is longer than what came in: it says more and counts as full. Else prove '..UptoSaid'. A law counts once. -/
mutual
def uptoBulk {H : Type} : DataW H → Nat
  | .lit (.string bytes) => bytes.length + 1
  | .lit _ => 1
  | .nil => 1
  | .ptr d => uptoBulk d + 1
  | .slice elems spare => uptoBulkAll elems + uptoBulkAll spare + 1
  | .agg parts => uptoBulkAll parts + 1
  | .iface _ d => uptoBulk d + 1
  | .map entries => uptoBulkEntries entries + 1
  | .held _ => 1
def uptoBulkAll {H : Type} : List (DataW H) → Nat
  | [] => 0
  | d :: r => uptoBulk d + uptoBulkAll r
def uptoBulkEntries {H : Type} : List (Lit × DataW H) → Nat
  | [] => 0
  | x :: r => uptoBulkEntry x + uptoBulkEntries r
def uptoBulkEntry {H : Type} : Lit × DataW H → Nat
  | (.string bytes, d) => bytes.length + uptoBulk d + 1
  | (_, d) => uptoBulk d + 1
 end
def uptoSmall : (H : Type) → List (DataW H) → Bool := fun _ ds => decide (uptoBulkAll ds ≤ 1048576)
def OpenSpec.upto (s : _root_.Go.ChangeSpec) : _root_.Go.OpenSpec := { _root_.Go.OpenSpec.ofChange s with cond := some uptoSmall }

/-- 'shallotlaw02.MacHashes', WHERE WHAT IT READS IS OF BULK AT MOST 1048576: true; the input reads as it did. -/
def macHashesUptoRow : OpenClaim := { program := "ytklamgdgdamcgaadoor", sum := "5b6b7b69e432501c2d1e25537fda3a3db97a21c8035afb32c70b9b4dd6829825", func := "shallot/shallotlaw02.MacHashes", spec := "macHashes", unfollowed := true, recurses := true, named := ["shallot/sha.constants"], apart := false, laid := [("shallot/sha.constants", laid_shallot_sha_constants)], narrowed := true }
def MacHashesUptoSaid : Prop := macHashesUptoRow.holds Tryd.pinned (OpenSpec.upto macHashesSpec)

/-- 'shallotlaw02.MacKeys', WHERE WHAT IT READS IS OF BULK AT MOST 1048576: true; the input reads as it did. -/
def macKeysUptoRow : OpenClaim := { program := "ytklamgdgdamcgaadoor", sum := "5b6b7b69e432501c2d1e25537fda3a3db97a21c8035afb32c70b9b4dd6829825", func := "shallot/shallotlaw02.MacKeys", spec := "macKeys", unfollowed := true, recurses := true, named := ["shallot/sha.constants"], apart := false, laid := [("shallot/sha.constants", laid_shallot_sha_constants)], narrowed := true }
def MacKeysUptoSaid : Prop := macKeysUptoRow.holds Tryd.pinned (OpenSpec.upto macKeysSpec)

/-- 'shallotlaw02.MacTags', WHERE WHAT IT READS IS OF BULK AT MOST 1048576: true; the input reads as it did. -/
def macTagsUptoRow : OpenClaim := { program := "ytklamgdgdamcgaadoor", sum := "5b6b7b69e432501c2d1e25537fda3a3db97a21c8035afb32c70b9b4dd6829825", func := "shallot/shallotlaw02.MacTags", spec := "macTags", unfollowed := true, recurses := true, named := ["shallot/sha.constants"], apart := false, laid := [("shallot/sha.constants", laid_shallot_sha_constants)], narrowed := true }
def MacTagsUptoSaid : Prop := macTagsUptoRow.holds Tryd.pinned (OpenSpec.upto macTagsSpec)

/-- 'shallotlaw02.MacBegins', WHERE WHAT IT READS IS OF BULK AT MOST 1048576: true; the input reads as it did. -/
def macBeginsUptoRow : OpenClaim := { program := "ytklamgdgdamcgaadoor", sum := "5b6b7b69e432501c2d1e25537fda3a3db97a21c8035afb32c70b9b4dd6829825", func := "shallot/shallotlaw02.MacBegins", spec := "macBegins", unfollowed := true, recurses := true, named := ["shallot/sha.constants"], apart := false, laid := [("shallot/sha.constants", laid_shallot_sha_constants)], narrowed := true }
def MacBeginsUptoSaid : Prop := macBeginsUptoRow.holds Tryd.pinned (OpenSpec.upto macBeginsSpec)

/-- 'shallotlaw02.MacStreams', WHERE WHAT IT READS IS OF BULK AT MOST 1048576: true; the input reads as it did. -/
def macStreamsUptoRow : OpenClaim := { program := "ytklamgdgdamcgaadoor", sum := "5b6b7b69e432501c2d1e25537fda3a3db97a21c8035afb32c70b9b4dd6829825", func := "shallot/shallotlaw02.MacStreams", spec := "macStreams", unfollowed := true, recurses := true, named := ["shallot/sha.constants"], apart := false, laid := [("shallot/sha.constants", laid_shallot_sha_constants)], narrowed := true }
def MacStreamsUptoSaid : Prop := macStreamsUptoRow.holds Tryd.pinned (OpenSpec.upto macStreamsSpec)

/-- 'shallotlaw07.KeyKeys', WHERE WHAT IT READS IS OF BULK AT MOST 1048576: true; the input reads as it did. -/
def keyKeysUptoRow : OpenClaim := { program := "ytklamgdgdamcgaadoor", sum := "5b6b7b69e432501c2d1e25537fda3a3db97a21c8035afb32c70b9b4dd6829825", func := "shallot/shallotlaw07.KeyKeys", spec := "keyKeys", unfollowed := true, recurses := true, named := ["shallot/sha.constants"], apart := false, laid := [("shallot/sha.constants", laid_shallot_sha_constants)], narrowed := true }
def KeyKeysUptoSaid : Prop := keyKeysUptoRow.holds Tryd.pinned (OpenSpec.upto keyKeysSpec)

/-- 'shallotlaw07.KeyPairs', WHERE WHAT IT READS IS OF BULK AT MOST 1048576: true; the input reads as it did. -/
def keyPairsUptoRow : OpenClaim := { program := "ytklamgdgdamcgaadoor", sum := "5b6b7b69e432501c2d1e25537fda3a3db97a21c8035afb32c70b9b4dd6829825", func := "shallot/shallotlaw07.KeyPairs", spec := "keyPairs", unfollowed := true, recurses := true, named := ["shallot/sha.constants"], apart := false, laid := [("shallot/sha.constants", laid_shallot_sha_constants)], narrowed := true }
def KeyPairsUptoSaid : Prop := keyPairsUptoRow.holds Tryd.pinned (OpenSpec.upto keyPairsSpec)

/-- 'shallotlaw08.LayerStream', WHERE WHAT IT READS IS OF BULK AT MOST 1048576: true; the input reads as it did. -/
def layerStreamUptoRow : OpenClaim := { program := "ytklamgdgdamcgaadoor", sum := "5b6b7b69e432501c2d1e25537fda3a3db97a21c8035afb32c70b9b4dd6829825", func := "shallot/shallotlaw08.LayerStream", spec := "layerStream", unfollowed := true, recurses := true, named := ["shallot/sha.constants"], apart := false, laid := [("shallot/sha.constants", laid_shallot_sha_constants)], narrowed := true }
def LayerStreamUptoSaid : Prop := layerStreamUptoRow.holds Tryd.pinned (OpenSpec.upto layerStreamSpec)

/-- 'shallotlaw08.LayerSeals', WHERE WHAT IT READS IS OF BULK AT MOST 1048576: true; the input reads as it did. -/
def layerSealsUptoRow : OpenClaim := { program := "ytklamgdgdamcgaadoor", sum := "5b6b7b69e432501c2d1e25537fda3a3db97a21c8035afb32c70b9b4dd6829825", func := "shallot/shallotlaw08.LayerSeals", spec := "layerSeals", unfollowed := true, recurses := true, named := ["shallot/sha.constants"], apart := false, laid := [("shallot/sha.constants", laid_shallot_sha_constants)], narrowed := true }
def LayerSealsUptoSaid : Prop := layerSealsUptoRow.holds Tryd.pinned (OpenSpec.upto layerSealsSpec)

/-- 'shallotlaw08.LayerKeys', WHERE WHAT IT READS IS OF BULK AT MOST 1048576: true; the input reads as it did. -/
def layerKeysUptoRow : OpenClaim := { program := "ytklamgdgdamcgaadoor", sum := "5b6b7b69e432501c2d1e25537fda3a3db97a21c8035afb32c70b9b4dd6829825", func := "shallot/shallotlaw08.LayerKeys", spec := "layerKeys", unfollowed := true, recurses := true, named := ["shallot/sha.constants"], apart := false, laid := [("shallot/sha.constants", laid_shallot_sha_constants)], narrowed := true }
def LayerKeysUptoSaid : Prop := layerKeysUptoRow.holds Tryd.pinned (OpenSpec.upto layerKeysSpec)

/-- 'shallotlaw08.LayerOpens', WHERE WHAT IT READS IS OF BULK AT MOST 1048576: true; the input reads as it did. -/
def layerOpensUptoRow : OpenClaim := { program := "ytklamgdgdamcgaadoor", sum := "5b6b7b69e432501c2d1e25537fda3a3db97a21c8035afb32c70b9b4dd6829825", func := "shallot/shallotlaw08.LayerOpens", spec := "layerOpens", unfollowed := true, recurses := true, named := ["shallot/sha.constants"], apart := false, laid := [("shallot/sha.constants", laid_shallot_sha_constants)], narrowed := true }
def LayerOpensUptoSaid : Prop := layerOpensUptoRow.holds Tryd.pinned (OpenSpec.upto layerOpensSpec)

/-- 'shallotlaw08.LayerBack', WHERE WHAT IT READS IS OF BULK AT MOST 1048576: true; the input reads as it did. -/
def layerBackUptoRow : OpenClaim := { program := "ytklamgdgdamcgaadoor", sum := "5b6b7b69e432501c2d1e25537fda3a3db97a21c8035afb32c70b9b4dd6829825", func := "shallot/shallotlaw08.LayerBack", spec := "layerBack", unfollowed := true, recurses := true, named := ["shallot/sha.constants"], apart := false, laid := [("shallot/sha.constants", laid_shallot_sha_constants)], narrowed := true }
def LayerBackUptoSaid : Prop := layerBackUptoRow.holds Tryd.pinned (OpenSpec.upto layerBackSpec)

/-- 'shallotlaw08.LayerTag', WHERE WHAT IT READS IS OF BULK AT MOST 1048576: true; the input reads as it did. -/
def layerTagUptoRow : OpenClaim := { program := "ytklamgdgdamcgaadoor", sum := "5b6b7b69e432501c2d1e25537fda3a3db97a21c8035afb32c70b9b4dd6829825", func := "shallot/shallotlaw08.LayerTag", spec := "layerTag", unfollowed := true, recurses := true, named := ["shallot/sha.constants"], apart := false, laid := [("shallot/sha.constants", laid_shallot_sha_constants)], narrowed := true }
def LayerTagUptoSaid : Prop := layerTagUptoRow.holds Tryd.pinned (OpenSpec.upto layerTagSpec)

end Rows
end Go.Proofs.YtklamgdgdamcgaaDoor
