/-
  NARROWER THAN 'FOR EVERY INPUT', by the rows' own cells (each row's printed sentence says how): KeyKeys: laid · KeyPairs: laid · LayerKeys: laid · OnionNonces: laid · LayerTag: laid · OnionPeels: laid · OnionPadding: laid · OnionOuter: laid · OnionSize: laid · OnionBody: laid · OnionWraps: laid.
  DERIVED. THE GIVEN ROWS OF THIS SEAT. 11 by the template 'for every input the law returns true; each argument reads behind the call as it read before'; 0 by the template 'total and deterministic' (their statements: YtgclcpopibjocaaDoorTotals.lean).
  GIVEN WITH THE SEED: the statements are not yours to turn. If you find one false, say at which input.
  Laid BY PROGRAM, IN A SANDBOX (cutbox-rows.mjs): the forced cells as the released guide's own fill.sh prints them over the translation 52b2c530e7680a34… (all of the seat's roots in one cut). By AI agents, Wed Nov 11 2026. No macro, syntax, notation, axiom, sorry.
-/
import Derived.Test.YtgclcpopibjocaaDoorChecked
import GoSem.Claim
import GoSem.ClaimJoined
import GoSem.ClaimMapViews
import Derived.JoinedTies
import Derived.KernelRfl
namespace Go.Proofs.YtgclcpopibjocaaDoor
/- THE CELL 'sum', in the pinned program and in every row, IS THE sha256 OF THE DUMP (.gsa) THAT YtgclcpopibjocaaDoorProg.lean LOADS. Nothing in Lean hashes anything: it is a label: what it is worth is what the hold of that sum in a sandbox is worth. -/
noncomputable def Tryd.pinned : Pinned := { name := "ytgclcpopibjocaadoor", sum := "52b2c530e7680a342fba962f33dbbadb51aac5b1f93fab3c3668fc1e002b2063", checked := Tryd.checked }
namespace Rows
def none {H : Type} : Left H := { results := [], args := [] }

/- WHAT THE LISTED PACKAGE-LEVEL VARIABLES READ AS WHEN THE CALL BEGINS. Each datum BY PROGRAM (the guide's laid-datum.mjs) off the statement by which the dump's own 'gosem.cut.vars' lays the variable. In a bare row this is a premise. The card (YtgclcpopibjocaaDoorCards.lean) ties it to the program's text. -/
def laid_shallot_sha_constants {H : Type} : DataW H := .agg [.lit (.int .u32 1116352408), .lit (.int .u32 1899447441), .lit (.int .u32 3049323471), .lit (.int .u32 3921009573), .lit (.int .u32 961987163), .lit (.int .u32 1508970993), .lit (.int .u32 2453635748), .lit (.int .u32 2870763221), .lit (.int .u32 3624381080), .lit (.int .u32 310598401), .lit (.int .u32 607225278), .lit (.int .u32 1426881987), .lit (.int .u32 1925078388), .lit (.int .u32 2162078206), .lit (.int .u32 2614888103), .lit (.int .u32 3248222580), .lit (.int .u32 3835390401), .lit (.int .u32 4022224774), .lit (.int .u32 264347078), .lit (.int .u32 604807628), .lit (.int .u32 770255983), .lit (.int .u32 1249150122), .lit (.int .u32 1555081692), .lit (.int .u32 1996064986), .lit (.int .u32 2554220882), .lit (.int .u32 2821834349), .lit (.int .u32 2952996808), .lit (.int .u32 3210313671), .lit (.int .u32 3336571891), .lit (.int .u32 3584528711), .lit (.int .u32 113926993), .lit (.int .u32 338241895), .lit (.int .u32 666307205), .lit (.int .u32 773529912), .lit (.int .u32 1294757372), .lit (.int .u32 1396182291), .lit (.int .u32 1695183700), .lit (.int .u32 1986661051), .lit (.int .u32 2177026350), .lit (.int .u32 2456956037), .lit (.int .u32 2730485921), .lit (.int .u32 2820302411), .lit (.int .u32 3259730800), .lit (.int .u32 3345764771), .lit (.int .u32 3516065817), .lit (.int .u32 3600352804), .lit (.int .u32 4094571909), .lit (.int .u32 275423344), .lit (.int .u32 430227734), .lit (.int .u32 506948616), .lit (.int .u32 659060556), .lit (.int .u32 883997877), .lit (.int .u32 958139571), .lit (.int .u32 1322822218), .lit (.int .u32 1537002063), .lit (.int .u32 1747873779), .lit (.int .u32 1955562222), .lit (.int .u32 2024104815), .lit (.int .u32 2227730452), .lit (.int .u32 2361852424), .lit (.int .u32 2428436474), .lit (.int .u32 2756734187), .lit (.int .u32 3204031479), .lit (.int .u32 3329325298)]

/-- 'shallotlaw07.KeyKeys': WHATEVER THE INPUT: true; the input reads as it did. -/
def keyKeysSpec : ChangeSpec := { name := "keyKeys", fn := fun _ => fun
  | [d1, d2, d3] => { results := [.lit (.bool true)], args := [d1, d2, d3] }
  | _ => none }
def keyKeysRow : OpenClaim := { program := "ytgclcpopibjocaadoor", sum := "52b2c530e7680a342fba962f33dbbadb51aac5b1f93fab3c3668fc1e002b2063", func := "shallot/shallotlaw07.KeyKeys", spec := "keyKeys", unfollowed := true, recurses := true, named := ["shallot/sha.constants"], apart := false, laid := [("shallot/sha.constants", laid_shallot_sha_constants)] }
def KeyKeysSaid : Prop := keyKeysRow.holds Tryd.pinned (OpenSpec.ofChange keyKeysSpec)

/-- ITS FALSE NEIGHBOUR: 'it returns false'. Refute it at one input. -/
def keyKeysWrong : ChangeSpec := { name := "keyKeys", fn := fun _ => fun
  | [d1, d2, d3] => { results := [.lit (.bool false)], args := [d1, d2, d3] }
  | _ => none }
def KeyKeysWrongFalsely : Prop := keyKeysRow.holds Tryd.pinned (OpenSpec.ofChange keyKeysWrong)

/-- 'shallotlaw07.KeyPairs': WHATEVER THE INPUT: true; the input reads as it did. -/
def keyPairsSpec : ChangeSpec := { name := "keyPairs", fn := fun _ => fun
  | [d1, d2, d3] => { results := [.lit (.bool true)], args := [d1, d2, d3] }
  | _ => none }
def keyPairsRow : OpenClaim := { program := "ytgclcpopibjocaadoor", sum := "52b2c530e7680a342fba962f33dbbadb51aac5b1f93fab3c3668fc1e002b2063", func := "shallot/shallotlaw07.KeyPairs", spec := "keyPairs", unfollowed := true, recurses := true, named := ["shallot/sha.constants"], apart := false, laid := [("shallot/sha.constants", laid_shallot_sha_constants)] }
def KeyPairsSaid : Prop := keyPairsRow.holds Tryd.pinned (OpenSpec.ofChange keyPairsSpec)

/-- ITS FALSE NEIGHBOUR: 'it returns false'. Refute it at one input. -/
def keyPairsWrong : ChangeSpec := { name := "keyPairs", fn := fun _ => fun
  | [d1, d2, d3] => { results := [.lit (.bool false)], args := [d1, d2, d3] }
  | _ => none }
def KeyPairsWrongFalsely : Prop := keyPairsRow.holds Tryd.pinned (OpenSpec.ofChange keyPairsWrong)

/-- 'shallotlaw08.LayerKeys': WHATEVER THE INPUT: true; the input reads as it did. -/
def layerKeysSpec : ChangeSpec := { name := "layerKeys", fn := fun _ => fun
  | [d1, d2, d3, d4] => { results := [.lit (.bool true)], args := [d1, d2, d3, d4] }
  | _ => none }
def layerKeysRow : OpenClaim := { program := "ytgclcpopibjocaadoor", sum := "52b2c530e7680a342fba962f33dbbadb51aac5b1f93fab3c3668fc1e002b2063", func := "shallot/shallotlaw08.LayerKeys", spec := "layerKeys", unfollowed := true, recurses := true, named := ["shallot/sha.constants"], apart := false, laid := [("shallot/sha.constants", laid_shallot_sha_constants)] }
def LayerKeysSaid : Prop := layerKeysRow.holds Tryd.pinned (OpenSpec.ofChange layerKeysSpec)

/-- ITS FALSE NEIGHBOUR: 'it returns false'. Refute it at one input. -/
def layerKeysWrong : ChangeSpec := { name := "layerKeys", fn := fun _ => fun
  | [d1, d2, d3, d4] => { results := [.lit (.bool false)], args := [d1, d2, d3, d4] }
  | _ => none }
def LayerKeysWrongFalsely : Prop := layerKeysRow.holds Tryd.pinned (OpenSpec.ofChange layerKeysWrong)

/-- 'shallotlaw09.OnionNonces': WHATEVER THE INPUT: true; the input reads as it did. -/
def onionNoncesSpec : ChangeSpec := { name := "onionNonces", fn := fun _ => fun
  | [d1, d2] => { results := [.lit (.bool true)], args := [d1, d2] }
  | _ => none }
def onionNoncesRow : OpenClaim := { program := "ytgclcpopibjocaadoor", sum := "52b2c530e7680a342fba962f33dbbadb51aac5b1f93fab3c3668fc1e002b2063", func := "shallot/shallotlaw09.OnionNonces", spec := "onionNonces", unfollowed := true, recurses := true, named := ["shallot/sha.constants"], apart := false, laid := [("shallot/sha.constants", laid_shallot_sha_constants)] }
def OnionNoncesSaid : Prop := onionNoncesRow.holds Tryd.pinned (OpenSpec.ofChange onionNoncesSpec)

/-- ITS FALSE NEIGHBOUR: 'it returns false'. Refute it at one input. -/
def onionNoncesWrong : ChangeSpec := { name := "onionNonces", fn := fun _ => fun
  | [d1, d2] => { results := [.lit (.bool false)], args := [d1, d2] }
  | _ => none }
def OnionNoncesWrongFalsely : Prop := onionNoncesRow.holds Tryd.pinned (OpenSpec.ofChange onionNoncesWrong)

/-- 'shallotlaw08.LayerTag': WHATEVER THE INPUT: true; the input reads as it did. -/
def layerTagSpec : ChangeSpec := { name := "layerTag", fn := fun _ => fun
  | [d1, d2, d3] => { results := [.lit (.bool true)], args := [d1, d2, d3] }
  | _ => none }
def layerTagRow : OpenClaim := { program := "ytgclcpopibjocaadoor", sum := "52b2c530e7680a342fba962f33dbbadb51aac5b1f93fab3c3668fc1e002b2063", func := "shallot/shallotlaw08.LayerTag", spec := "layerTag", unfollowed := true, recurses := true, named := ["shallot/sha.constants"], apart := false, laid := [("shallot/sha.constants", laid_shallot_sha_constants)] }
def LayerTagSaid : Prop := layerTagRow.holds Tryd.pinned (OpenSpec.ofChange layerTagSpec)

/-- ITS FALSE NEIGHBOUR: 'it returns false'. Refute it at one input. -/
def layerTagWrong : ChangeSpec := { name := "layerTag", fn := fun _ => fun
  | [d1, d2, d3] => { results := [.lit (.bool false)], args := [d1, d2, d3] }
  | _ => none }
def LayerTagWrongFalsely : Prop := layerTagRow.holds Tryd.pinned (OpenSpec.ofChange layerTagWrong)

/-- 'shallotlaw09.OnionPeels': WHATEVER THE INPUT: true; the input reads as it did. -/
def onionPeelsSpec : ChangeSpec := { name := "onionPeels", fn := fun _ => fun
  | [d1, d2, d3, d4] => { results := [.lit (.bool true)], args := [d1, d2, d3, d4] }
  | _ => none }
def onionPeelsRow : OpenClaim := { program := "ytgclcpopibjocaadoor", sum := "52b2c530e7680a342fba962f33dbbadb51aac5b1f93fab3c3668fc1e002b2063", func := "shallot/shallotlaw09.OnionPeels", spec := "onionPeels", unfollowed := true, recurses := true, named := ["shallot/sha.constants"], apart := false, laid := [("shallot/sha.constants", laid_shallot_sha_constants)] }
def OnionPeelsSaid : Prop := onionPeelsRow.holds Tryd.pinned (OpenSpec.ofChange onionPeelsSpec)

/-- ITS FALSE NEIGHBOUR: 'it returns false'. Refute it at one input. -/
def onionPeelsWrong : ChangeSpec := { name := "onionPeels", fn := fun _ => fun
  | [d1, d2, d3, d4] => { results := [.lit (.bool false)], args := [d1, d2, d3, d4] }
  | _ => none }
def OnionPeelsWrongFalsely : Prop := onionPeelsRow.holds Tryd.pinned (OpenSpec.ofChange onionPeelsWrong)

/-- 'shallotlaw09.OnionPadding': WHATEVER THE INPUT: true; the input reads as it did. -/
def onionPaddingSpec : ChangeSpec := { name := "onionPadding", fn := fun _ => fun
  | [d1, d2, d3, d4, d5] => { results := [.lit (.bool true)], args := [d1, d2, d3, d4, d5] }
  | _ => none }
def onionPaddingRow : OpenClaim := { program := "ytgclcpopibjocaadoor", sum := "52b2c530e7680a342fba962f33dbbadb51aac5b1f93fab3c3668fc1e002b2063", func := "shallot/shallotlaw09.OnionPadding", spec := "onionPadding", unfollowed := true, recurses := true, named := ["shallot/sha.constants"], apart := false, laid := [("shallot/sha.constants", laid_shallot_sha_constants)] }
def OnionPaddingSaid : Prop := onionPaddingRow.holds Tryd.pinned (OpenSpec.ofChange onionPaddingSpec)

/-- ITS FALSE NEIGHBOUR: 'it returns false'. Refute it at one input. -/
def onionPaddingWrong : ChangeSpec := { name := "onionPadding", fn := fun _ => fun
  | [d1, d2, d3, d4, d5] => { results := [.lit (.bool false)], args := [d1, d2, d3, d4, d5] }
  | _ => none }
def OnionPaddingWrongFalsely : Prop := onionPaddingRow.holds Tryd.pinned (OpenSpec.ofChange onionPaddingWrong)

/-- 'shallotlaw09.OnionOuter': WHATEVER THE INPUT: true; the input reads as it did. -/
def onionOuterSpec : ChangeSpec := { name := "onionOuter", fn := fun _ => fun
  | [d1, d2, d3] => { results := [.lit (.bool true)], args := [d1, d2, d3] }
  | _ => none }
def onionOuterRow : OpenClaim := { program := "ytgclcpopibjocaadoor", sum := "52b2c530e7680a342fba962f33dbbadb51aac5b1f93fab3c3668fc1e002b2063", func := "shallot/shallotlaw09.OnionOuter", spec := "onionOuter", unfollowed := true, recurses := true, named := ["shallot/sha.constants"], apart := false, laid := [("shallot/sha.constants", laid_shallot_sha_constants)] }
def OnionOuterSaid : Prop := onionOuterRow.holds Tryd.pinned (OpenSpec.ofChange onionOuterSpec)

/-- ITS FALSE NEIGHBOUR: 'it returns false'. Refute it at one input. -/
def onionOuterWrong : ChangeSpec := { name := "onionOuter", fn := fun _ => fun
  | [d1, d2, d3] => { results := [.lit (.bool false)], args := [d1, d2, d3] }
  | _ => none }
def OnionOuterWrongFalsely : Prop := onionOuterRow.holds Tryd.pinned (OpenSpec.ofChange onionOuterWrong)

/-- 'shallotlaw09.OnionSize': WHATEVER THE INPUT: true; the input reads as it did. -/
def onionSizeSpec : ChangeSpec := { name := "onionSize", fn := fun _ => fun
  | [d1, d2, d3, d4] => { results := [.lit (.bool true)], args := [d1, d2, d3, d4] }
  | _ => none }
def onionSizeRow : OpenClaim := { program := "ytgclcpopibjocaadoor", sum := "52b2c530e7680a342fba962f33dbbadb51aac5b1f93fab3c3668fc1e002b2063", func := "shallot/shallotlaw09.OnionSize", spec := "onionSize", unfollowed := true, recurses := true, named := ["shallot/sha.constants"], apart := false, laid := [("shallot/sha.constants", laid_shallot_sha_constants)] }
def OnionSizeSaid : Prop := onionSizeRow.holds Tryd.pinned (OpenSpec.ofChange onionSizeSpec)

/-- ITS FALSE NEIGHBOUR: 'it returns false'. Refute it at one input. -/
def onionSizeWrong : ChangeSpec := { name := "onionSize", fn := fun _ => fun
  | [d1, d2, d3, d4] => { results := [.lit (.bool false)], args := [d1, d2, d3, d4] }
  | _ => none }
def OnionSizeWrongFalsely : Prop := onionSizeRow.holds Tryd.pinned (OpenSpec.ofChange onionSizeWrong)

/-- 'shallotlaw09.OnionBody': WHATEVER THE INPUT: true; the input reads as it did. -/
def onionBodySpec : ChangeSpec := { name := "onionBody", fn := fun _ => fun
  | [d1, d2, d3] => { results := [.lit (.bool true)], args := [d1, d2, d3] }
  | _ => none }
def onionBodyRow : OpenClaim := { program := "ytgclcpopibjocaadoor", sum := "52b2c530e7680a342fba962f33dbbadb51aac5b1f93fab3c3668fc1e002b2063", func := "shallot/shallotlaw09.OnionBody", spec := "onionBody", unfollowed := true, recurses := true, named := ["shallot/sha.constants"], apart := false, laid := [("shallot/sha.constants", laid_shallot_sha_constants)] }
def OnionBodySaid : Prop := onionBodyRow.holds Tryd.pinned (OpenSpec.ofChange onionBodySpec)

/-- ITS FALSE NEIGHBOUR: 'it returns false'. Refute it at one input. -/
def onionBodyWrong : ChangeSpec := { name := "onionBody", fn := fun _ => fun
  | [d1, d2, d3] => { results := [.lit (.bool false)], args := [d1, d2, d3] }
  | _ => none }
def OnionBodyWrongFalsely : Prop := onionBodyRow.holds Tryd.pinned (OpenSpec.ofChange onionBodyWrong)

/-- 'shallotlaw09.OnionWraps': WHATEVER THE INPUT: true; the input reads as it did. -/
def onionWrapsSpec : ChangeSpec := { name := "onionWraps", fn := fun _ => fun
  | [d1, d2, d3, d4, d5, d6] => { results := [.lit (.bool true)], args := [d1, d2, d3, d4, d5, d6] }
  | _ => none }
def onionWrapsRow : OpenClaim := { program := "ytgclcpopibjocaadoor", sum := "52b2c530e7680a342fba962f33dbbadb51aac5b1f93fab3c3668fc1e002b2063", func := "shallot/shallotlaw09.OnionWraps", spec := "onionWraps", unfollowed := true, recurses := true, named := ["shallot/sha.constants"], apart := false, laid := [("shallot/sha.constants", laid_shallot_sha_constants)] }
def OnionWrapsSaid : Prop := onionWrapsRow.holds Tryd.pinned (OpenSpec.ofChange onionWrapsSpec)

/-- ITS FALSE NEIGHBOUR: 'it returns false'. Refute it at one input. -/
def onionWrapsWrong : ChangeSpec := { name := "onionWraps", fn := fun _ => fun
  | [d1, d2, d3, d4, d5, d6] => { results := [.lit (.bool false)], args := [d1, d2, d3, d4, d5, d6] }
  | _ => none }
def OnionWrapsWrongFalsely : Prop := onionWrapsRow.holds Tryd.pinned (OpenSpec.ofChange onionWrapsWrong)

/- THE SECOND FORM. 'bulk': how many values and letters a reading holds, each counted each time it is reached (what is shared counts as often as it is met; a slice's spare places count too). A statement '..UptoSaid' is the law's where the arguments, and the package variables that the reading takes, are together of bulk at most 1048576: NARROWER than '..Said'. Prove '..Said' where nothing that the law and all that it calls make is longer than what came in: it says more and counts as full. Else prove '..UptoSaid'. A law counts once. -/
mutual
def uptoBulk {H : Type} : DataW H → Nat
  | .lit (.string bytes) => bytes.length + 1
  | .lit _ => 1
  | .nil => 1
  | .ptr d => uptoBulk d + 1
  | .slice elems spare => uptoBulkAll elems + uptoBulkAll spare + 1
  | .agg parts => uptoBulkAll parts + 1
  | .iface _ d => uptoBulk d + 1
  | .map entries => uptoBulkEntries entries + 1
  | .held _ => 1
def uptoBulkAll {H : Type} : List (DataW H) → Nat
  | [] => 0
  | d :: r => uptoBulk d + uptoBulkAll r
def uptoBulkEntries {H : Type} : List (Lit × DataW H) → Nat
  | [] => 0
  | x :: r => uptoBulkEntry x + uptoBulkEntries r
def uptoBulkEntry {H : Type} : Lit × DataW H → Nat
  | (.string bytes, d) => bytes.length + uptoBulk d + 1
  | (_, d) => uptoBulk d + 1
 end
def uptoSmall : (H : Type) → List (DataW H) → Bool := fun _ ds => decide (uptoBulkAll ds ≤ 1048576)
def OpenSpec.upto (s : _root_.Go.ChangeSpec) : _root_.Go.OpenSpec := { _root_.Go.OpenSpec.ofChange s with cond := some uptoSmall }

/-- 'shallotlaw07.KeyKeys', WHERE WHAT IT READS IS OF BULK AT MOST 1048576: true; the input reads as it did. -/
def keyKeysUptoRow : OpenClaim := { program := "ytgclcpopibjocaadoor", sum := "52b2c530e7680a342fba962f33dbbadb51aac5b1f93fab3c3668fc1e002b2063", func := "shallot/shallotlaw07.KeyKeys", spec := "keyKeys", unfollowed := true, recurses := true, named := ["shallot/sha.constants"], apart := false, laid := [("shallot/sha.constants", laid_shallot_sha_constants)], narrowed := true }
def KeyKeysUptoSaid : Prop := keyKeysUptoRow.holds Tryd.pinned (OpenSpec.upto keyKeysSpec)

/-- 'shallotlaw07.KeyPairs', WHERE WHAT IT READS IS OF BULK AT MOST 1048576: true; the input reads as it did. -/
def keyPairsUptoRow : OpenClaim := { program := "ytgclcpopibjocaadoor", sum := "52b2c530e7680a342fba962f33dbbadb51aac5b1f93fab3c3668fc1e002b2063", func := "shallot/shallotlaw07.KeyPairs", spec := "keyPairs", unfollowed := true, recurses := true, named := ["shallot/sha.constants"], apart := false, laid := [("shallot/sha.constants", laid_shallot_sha_constants)], narrowed := true }
def KeyPairsUptoSaid : Prop := keyPairsUptoRow.holds Tryd.pinned (OpenSpec.upto keyPairsSpec)

/-- 'shallotlaw08.LayerKeys', WHERE WHAT IT READS IS OF BULK AT MOST 1048576: true; the input reads as it did. -/
def layerKeysUptoRow : OpenClaim := { program := "ytgclcpopibjocaadoor", sum := "52b2c530e7680a342fba962f33dbbadb51aac5b1f93fab3c3668fc1e002b2063", func := "shallot/shallotlaw08.LayerKeys", spec := "layerKeys", unfollowed := true, recurses := true, named := ["shallot/sha.constants"], apart := false, laid := [("shallot/sha.constants", laid_shallot_sha_constants)], narrowed := true }
def LayerKeysUptoSaid : Prop := layerKeysUptoRow.holds Tryd.pinned (OpenSpec.upto layerKeysSpec)

/-- 'shallotlaw09.OnionNonces', WHERE WHAT IT READS IS OF BULK AT MOST 1048576: true; the input reads as it did. -/
def onionNoncesUptoRow : OpenClaim := { program := "ytgclcpopibjocaadoor", sum := "52b2c530e7680a342fba962f33dbbadb51aac5b1f93fab3c3668fc1e002b2063", func := "shallot/shallotlaw09.OnionNonces", spec := "onionNonces", unfollowed := true, recurses := true, named := ["shallot/sha.constants"], apart := false, laid := [("shallot/sha.constants", laid_shallot_sha_constants)], narrowed := true }
def OnionNoncesUptoSaid : Prop := onionNoncesUptoRow.holds Tryd.pinned (OpenSpec.upto onionNoncesSpec)

/-- 'shallotlaw08.LayerTag', WHERE WHAT IT READS IS OF BULK AT MOST 1048576: true; the input reads as it did. -/
def layerTagUptoRow : OpenClaim := { program := "ytgclcpopibjocaadoor", sum := "52b2c530e7680a342fba962f33dbbadb51aac5b1f93fab3c3668fc1e002b2063", func := "shallot/shallotlaw08.LayerTag", spec := "layerTag", unfollowed := true, recurses := true, named := ["shallot/sha.constants"], apart := false, laid := [("shallot/sha.constants", laid_shallot_sha_constants)], narrowed := true }
def LayerTagUptoSaid : Prop := layerTagUptoRow.holds Tryd.pinned (OpenSpec.upto layerTagSpec)

/-- 'shallotlaw09.OnionPeels', WHERE WHAT IT READS IS OF BULK AT MOST 1048576: true; the input reads as it did. -/
def onionPeelsUptoRow : OpenClaim := { program := "ytgclcpopibjocaadoor", sum := "52b2c530e7680a342fba962f33dbbadb51aac5b1f93fab3c3668fc1e002b2063", func := "shallot/shallotlaw09.OnionPeels", spec := "onionPeels", unfollowed := true, recurses := true, named := ["shallot/sha.constants"], apart := false, laid := [("shallot/sha.constants", laid_shallot_sha_constants)], narrowed := true }
def OnionPeelsUptoSaid : Prop := onionPeelsUptoRow.holds Tryd.pinned (OpenSpec.upto onionPeelsSpec)

/-- 'shallotlaw09.OnionPadding', WHERE WHAT IT READS IS OF BULK AT MOST 1048576: true; the input reads as it did. -/
def onionPaddingUptoRow : OpenClaim := { program := "ytgclcpopibjocaadoor", sum := "52b2c530e7680a342fba962f33dbbadb51aac5b1f93fab3c3668fc1e002b2063", func := "shallot/shallotlaw09.OnionPadding", spec := "onionPadding", unfollowed := true, recurses := true, named := ["shallot/sha.constants"], apart := false, laid := [("shallot/sha.constants", laid_shallot_sha_constants)], narrowed := true }
def OnionPaddingUptoSaid : Prop := onionPaddingUptoRow.holds Tryd.pinned (OpenSpec.upto onionPaddingSpec)

/-- 'shallotlaw09.OnionOuter', WHERE WHAT IT READS IS OF BULK AT MOST 1048576: true; the input reads as it did. -/
def onionOuterUptoRow : OpenClaim := { program := "ytgclcpopibjocaadoor", sum := "52b2c530e7680a342fba962f33dbbadb51aac5b1f93fab3c3668fc1e002b2063", func := "shallot/shallotlaw09.OnionOuter", spec := "onionOuter", unfollowed := true, recurses := true, named := ["shallot/sha.constants"], apart := false, laid := [("shallot/sha.constants", laid_shallot_sha_constants)], narrowed := true }
def OnionOuterUptoSaid : Prop := onionOuterUptoRow.holds Tryd.pinned (OpenSpec.upto onionOuterSpec)

/-- 'shallotlaw09.OnionSize', WHERE WHAT IT READS IS OF BULK AT MOST 1048576: true; the input reads as it did. -/
def onionSizeUptoRow : OpenClaim := { program := "ytgclcpopibjocaadoor", sum := "52b2c530e7680a342fba962f33dbbadb51aac5b1f93fab3c3668fc1e002b2063", func := "shallot/shallotlaw09.OnionSize", spec := "onionSize", unfollowed := true, recurses := true, named := ["shallot/sha.constants"], apart := false, laid := [("shallot/sha.constants", laid_shallot_sha_constants)], narrowed := true }
def OnionSizeUptoSaid : Prop := onionSizeUptoRow.holds Tryd.pinned (OpenSpec.upto onionSizeSpec)

/-- 'shallotlaw09.OnionBody', WHERE WHAT IT READS IS OF BULK AT MOST 1048576: true; the input reads as it did. -/
def onionBodyUptoRow : OpenClaim := { program := "ytgclcpopibjocaadoor", sum := "52b2c530e7680a342fba962f33dbbadb51aac5b1f93fab3c3668fc1e002b2063", func := "shallot/shallotlaw09.OnionBody", spec := "onionBody", unfollowed := true, recurses := true, named := ["shallot/sha.constants"], apart := false, laid := [("shallot/sha.constants", laid_shallot_sha_constants)], narrowed := true }
def OnionBodyUptoSaid : Prop := onionBodyUptoRow.holds Tryd.pinned (OpenSpec.upto onionBodySpec)

/-- 'shallotlaw09.OnionWraps', WHERE WHAT IT READS IS OF BULK AT MOST 1048576: true; the input reads as it did. -/
def onionWrapsUptoRow : OpenClaim := { program := "ytgclcpopibjocaadoor", sum := "52b2c530e7680a342fba962f33dbbadb51aac5b1f93fab3c3668fc1e002b2063", func := "shallot/shallotlaw09.OnionWraps", spec := "onionWraps", unfollowed := true, recurses := true, named := ["shallot/sha.constants"], apart := false, laid := [("shallot/sha.constants", laid_shallot_sha_constants)], narrowed := true }
def OnionWrapsUptoSaid : Prop := onionWrapsUptoRow.holds Tryd.pinned (OpenSpec.upto onionWrapsSpec)

end Rows
end Go.Proofs.YtgclcpopibjocaaDoor
