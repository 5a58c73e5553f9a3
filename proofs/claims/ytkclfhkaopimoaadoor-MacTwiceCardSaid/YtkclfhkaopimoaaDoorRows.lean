/-
  NARROWER THAN 'FOR EVERY INPUT', by the rows' own cells (each row's printed sentence says how): ShaPads: laid · ShaBlocks: laid · ShaSums: laid · ShaFolds: laid · ShaShape: laid · ShaAhead: laid · MacHashes: laid · MacKeys: laid · MacTags: laid · MacTwice: laid · MacBegins: laid · MacStreams: laid.
  DERIVED. THE GIVEN ROWS OF THIS SEAT. 12 by the template 'for every input the law returns true; each argument reads behind the call as it read before'; 0 by the template 'total and deterministic' (their statements: YtkclfhkaopimoaaDoorTotals.lean).
  GIVEN WITH THE SEED: the statements are not yours to turn. If you find one false, say at which input.
  Laid BY PROGRAM, IN A SANDBOX (cutbox-rows.mjs): the forced cells as the released guide's own fill.sh prints them over the translation d5902aa259997ce5… (all of the seat's roots in one cut). By AI agents, Wed Nov 11 2026. No macro, syntax, notation, axiom, sorry.
-/
import Derived.Test.YtkclfhkaopimoaaDoorChecked
import GoSem.Claim
import GoSem.ClaimJoined
import GoSem.ClaimMapViews
import Derived.JoinedTies
import Derived.KernelRfl
namespace Go.Proofs.YtkclfhkaopimoaaDoor
/- THE CELL 'sum', in the pinned program and in every row, IS THE sha256 OF THE DUMP (.gsa) THAT YtkclfhkaopimoaaDoorProg.lean LOADS. Nothing in Lean hashes anything: it is a label: what it is worth is what the hold of that sum in a sandbox is worth. -/
noncomputable def Tryd.pinned : Pinned := { name := "ytkclfhkaopimoaadoor", sum := "d5902aa259997ce5f5de2b2b557262395f723aa2a1665bd075774d028bea67e2", checked := Tryd.checked }
namespace Rows
def none {H : Type} : Left H := { results := [], args := [] }

/- WHAT THE LISTED PACKAGE-LEVEL VARIABLES READ AS WHEN THE CALL BEGINS. Each datum BY PROGRAM (the guide's laid-datum.mjs) off the statement by which the dump's own 'gosem.cut.vars' lays the variable. In a bare row this is a premise. The card (YtkclfhkaopimoaaDoorCards.lean) ties it to the program's text. -/
def laid_shallot_sha_constants {H : Type} : DataW H := .agg [.lit (.int .u32 1116352408), .lit (.int .u32 1899447441), .lit (.int .u32 3049323471), .lit (.int .u32 3921009573), .lit (.int .u32 961987163), .lit (.int .u32 1508970993), .lit (.int .u32 2453635748), .lit (.int .u32 2870763221), .lit (.int .u32 3624381080), .lit (.int .u32 310598401), .lit (.int .u32 607225278), .lit (.int .u32 1426881987), .lit (.int .u32 1925078388), .lit (.int .u32 2162078206), .lit (.int .u32 2614888103), .lit (.int .u32 3248222580), .lit (.int .u32 3835390401), .lit (.int .u32 4022224774), .lit (.int .u32 264347078), .lit (.int .u32 604807628), .lit (.int .u32 770255983), .lit (.int .u32 1249150122), .lit (.int .u32 1555081692), .lit (.int .u32 1996064986), .lit (.int .u32 2554220882), .lit (.int .u32 2821834349), .lit (.int .u32 2952996808), .lit (.int .u32 3210313671), .lit (.int .u32 3336571891), .lit (.int .u32 3584528711), .lit (.int .u32 113926993), .lit (.int .u32 338241895), .lit (.int .u32 666307205), .lit (.int .u32 773529912), .lit (.int .u32 1294757372), .lit (.int .u32 1396182291), .lit (.int .u32 1695183700), .lit (.int .u32 1986661051), .lit (.int .u32 2177026350), .lit (.int .u32 2456956037), .lit (.int .u32 2730485921), .lit (.int .u32 2820302411), .lit (.int .u32 3259730800), .lit (.int .u32 3345764771), .lit (.int .u32 3516065817), .lit (.int .u32 3600352804), .lit (.int .u32 4094571909), .lit (.int .u32 275423344), .lit (.int .u32 430227734), .lit (.int .u32 506948616), .lit (.int .u32 659060556), .lit (.int .u32 883997877), .lit (.int .u32 958139571), .lit (.int .u32 1322822218), .lit (.int .u32 1537002063), .lit (.int .u32 1747873779), .lit (.int .u32 1955562222), .lit (.int .u32 2024104815), .lit (.int .u32 2227730452), .lit (.int .u32 2361852424), .lit (.int .u32 2428436474), .lit (.int .u32 2756734187), .lit (.int .u32 3204031479), .lit (.int .u32 3329325298)]

/-- 'shallotlaw01.ShaPads': WHATEVER THE INPUT: true; the input reads as it did. -/
def shaPadsSpec : ChangeSpec := { name := "shaPads", fn := fun _ => fun
  | [d] => { results := [.lit (.bool true)], args := [d] }
  | _ => none }
def shaPadsRow : OpenClaim := { program := "ytkclfhkaopimoaadoor", sum := "d5902aa259997ce5f5de2b2b557262395f723aa2a1665bd075774d028bea67e2", func := "shallot/shallotlaw01.ShaPads", spec := "shaPads", unfollowed := true, recurses := true, named := ["shallot/sha.constants"], apart := false, laid := [("shallot/sha.constants", laid_shallot_sha_constants)] }
def ShaPadsSaid : Prop := shaPadsRow.holds Tryd.pinned (OpenSpec.ofChange shaPadsSpec)

/-- ITS FALSE NEIGHBOUR: 'it returns false'. Refute it at one input. -/
def shaPadsWrong : ChangeSpec := { name := "shaPads", fn := fun _ => fun
  | [d] => { results := [.lit (.bool false)], args := [d] }
  | _ => none }
def ShaPadsWrongFalsely : Prop := shaPadsRow.holds Tryd.pinned (OpenSpec.ofChange shaPadsWrong)

/-- 'shallotlaw01.ShaBlocks': WHATEVER THE INPUT: true; the input reads as it did. -/
def shaBlocksSpec : ChangeSpec := { name := "shaBlocks", fn := fun _ => fun
  | [d1, d2] => { results := [.lit (.bool true)], args := [d1, d2] }
  | _ => none }
def shaBlocksRow : OpenClaim := { program := "ytkclfhkaopimoaadoor", sum := "d5902aa259997ce5f5de2b2b557262395f723aa2a1665bd075774d028bea67e2", func := "shallot/shallotlaw01.ShaBlocks", spec := "shaBlocks", unfollowed := true, recurses := true, named := ["shallot/sha.constants"], apart := false, laid := [("shallot/sha.constants", laid_shallot_sha_constants)] }
def ShaBlocksSaid : Prop := shaBlocksRow.holds Tryd.pinned (OpenSpec.ofChange shaBlocksSpec)

/-- ITS FALSE NEIGHBOUR: 'it returns false'. Refute it at one input. -/
def shaBlocksWrong : ChangeSpec := { name := "shaBlocks", fn := fun _ => fun
  | [d1, d2] => { results := [.lit (.bool false)], args := [d1, d2] }
  | _ => none }
def ShaBlocksWrongFalsely : Prop := shaBlocksRow.holds Tryd.pinned (OpenSpec.ofChange shaBlocksWrong)

/-- 'shallotlaw01.ShaSums': WHATEVER THE INPUT: true; the input reads as it did. -/
def shaSumsSpec : ChangeSpec := { name := "shaSums", fn := fun _ => fun
  | [d] => { results := [.lit (.bool true)], args := [d] }
  | _ => none }
def shaSumsRow : OpenClaim := { program := "ytkclfhkaopimoaadoor", sum := "d5902aa259997ce5f5de2b2b557262395f723aa2a1665bd075774d028bea67e2", func := "shallot/shallotlaw01.ShaSums", spec := "shaSums", unfollowed := true, recurses := true, named := ["shallot/sha.constants"], apart := false, laid := [("shallot/sha.constants", laid_shallot_sha_constants)] }
def ShaSumsSaid : Prop := shaSumsRow.holds Tryd.pinned (OpenSpec.ofChange shaSumsSpec)

/-- ITS FALSE NEIGHBOUR: 'it returns false'. Refute it at one input. -/
def shaSumsWrong : ChangeSpec := { name := "shaSums", fn := fun _ => fun
  | [d] => { results := [.lit (.bool false)], args := [d] }
  | _ => none }
def ShaSumsWrongFalsely : Prop := shaSumsRow.holds Tryd.pinned (OpenSpec.ofChange shaSumsWrong)

/-- 'shallotlaw01.ShaFolds': WHATEVER THE INPUT: true; the input reads as it did. -/
def shaFoldsSpec : ChangeSpec := { name := "shaFolds", fn := fun _ => fun
  | [d] => { results := [.lit (.bool true)], args := [d] }
  | _ => none }
def shaFoldsRow : OpenClaim := { program := "ytkclfhkaopimoaadoor", sum := "d5902aa259997ce5f5de2b2b557262395f723aa2a1665bd075774d028bea67e2", func := "shallot/shallotlaw01.ShaFolds", spec := "shaFolds", unfollowed := true, recurses := true, named := ["shallot/sha.constants"], apart := false, laid := [("shallot/sha.constants", laid_shallot_sha_constants)] }
def ShaFoldsSaid : Prop := shaFoldsRow.holds Tryd.pinned (OpenSpec.ofChange shaFoldsSpec)

/-- ITS FALSE NEIGHBOUR: 'it returns false'. Refute it at one input. -/
def shaFoldsWrong : ChangeSpec := { name := "shaFolds", fn := fun _ => fun
  | [d] => { results := [.lit (.bool false)], args := [d] }
  | _ => none }
def ShaFoldsWrongFalsely : Prop := shaFoldsRow.holds Tryd.pinned (OpenSpec.ofChange shaFoldsWrong)

/-- 'shallotlaw01.ShaShape': WHATEVER THE INPUT: true; the input reads as it did. -/
def shaShapeSpec : ChangeSpec := { name := "shaShape", fn := fun _ => fun
  | [d] => { results := [.lit (.bool true)], args := [d] }
  | _ => none }
def shaShapeRow : OpenClaim := { program := "ytkclfhkaopimoaadoor", sum := "d5902aa259997ce5f5de2b2b557262395f723aa2a1665bd075774d028bea67e2", func := "shallot/shallotlaw01.ShaShape", spec := "shaShape", unfollowed := true, recurses := true, named := ["shallot/sha.constants"], apart := false, laid := [("shallot/sha.constants", laid_shallot_sha_constants)] }
def ShaShapeSaid : Prop := shaShapeRow.holds Tryd.pinned (OpenSpec.ofChange shaShapeSpec)

/-- ITS FALSE NEIGHBOUR: 'it returns false'. Refute it at one input. -/
def shaShapeWrong : ChangeSpec := { name := "shaShape", fn := fun _ => fun
  | [d] => { results := [.lit (.bool false)], args := [d] }
  | _ => none }
def ShaShapeWrongFalsely : Prop := shaShapeRow.holds Tryd.pinned (OpenSpec.ofChange shaShapeWrong)

/-- 'shallotlaw01.ShaAhead': WHATEVER THE INPUT: true; the input reads as it did. -/
def shaAheadSpec : ChangeSpec := { name := "shaAhead", fn := fun _ => fun
  | [d1, d2] => { results := [.lit (.bool true)], args := [d1, d2] }
  | _ => none }
def shaAheadRow : OpenClaim := { program := "ytkclfhkaopimoaadoor", sum := "d5902aa259997ce5f5de2b2b557262395f723aa2a1665bd075774d028bea67e2", func := "shallot/shallotlaw01.ShaAhead", spec := "shaAhead", unfollowed := true, recurses := true, named := ["shallot/sha.constants"], apart := false, laid := [("shallot/sha.constants", laid_shallot_sha_constants)] }
def ShaAheadSaid : Prop := shaAheadRow.holds Tryd.pinned (OpenSpec.ofChange shaAheadSpec)

/-- ITS FALSE NEIGHBOUR: 'it returns false'. Refute it at one input. -/
def shaAheadWrong : ChangeSpec := { name := "shaAhead", fn := fun _ => fun
  | [d1, d2] => { results := [.lit (.bool false)], args := [d1, d2] }
  | _ => none }
def ShaAheadWrongFalsely : Prop := shaAheadRow.holds Tryd.pinned (OpenSpec.ofChange shaAheadWrong)

/-- 'shallotlaw02.MacHashes': WHATEVER THE INPUT: true; the input reads as it did. -/
def macHashesSpec : ChangeSpec := { name := "macHashes", fn := fun _ => fun
  | [d1, d2] => { results := [.lit (.bool true)], args := [d1, d2] }
  | _ => none }
def macHashesRow : OpenClaim := { program := "ytkclfhkaopimoaadoor", sum := "d5902aa259997ce5f5de2b2b557262395f723aa2a1665bd075774d028bea67e2", func := "shallot/shallotlaw02.MacHashes", spec := "macHashes", unfollowed := true, recurses := true, named := ["shallot/sha.constants"], apart := false, laid := [("shallot/sha.constants", laid_shallot_sha_constants)] }
def MacHashesSaid : Prop := macHashesRow.holds Tryd.pinned (OpenSpec.ofChange macHashesSpec)

/-- ITS FALSE NEIGHBOUR: 'it returns false'. Refute it at one input. -/
def macHashesWrong : ChangeSpec := { name := "macHashes", fn := fun _ => fun
  | [d1, d2] => { results := [.lit (.bool false)], args := [d1, d2] }
  | _ => none }
def MacHashesWrongFalsely : Prop := macHashesRow.holds Tryd.pinned (OpenSpec.ofChange macHashesWrong)

/-- 'shallotlaw02.MacKeys': WHATEVER THE INPUT: true; the input reads as it did. -/
def macKeysSpec : ChangeSpec := { name := "macKeys", fn := fun _ => fun
  | [d1, d2] => { results := [.lit (.bool true)], args := [d1, d2] }
  | _ => none }
def macKeysRow : OpenClaim := { program := "ytkclfhkaopimoaadoor", sum := "d5902aa259997ce5f5de2b2b557262395f723aa2a1665bd075774d028bea67e2", func := "shallot/shallotlaw02.MacKeys", spec := "macKeys", unfollowed := true, recurses := true, named := ["shallot/sha.constants"], apart := false, laid := [("shallot/sha.constants", laid_shallot_sha_constants)] }
def MacKeysSaid : Prop := macKeysRow.holds Tryd.pinned (OpenSpec.ofChange macKeysSpec)

/-- ITS FALSE NEIGHBOUR: 'it returns false'. Refute it at one input. -/
def macKeysWrong : ChangeSpec := { name := "macKeys", fn := fun _ => fun
  | [d1, d2] => { results := [.lit (.bool false)], args := [d1, d2] }
  | _ => none }
def MacKeysWrongFalsely : Prop := macKeysRow.holds Tryd.pinned (OpenSpec.ofChange macKeysWrong)

/-- 'shallotlaw02.MacTags': WHATEVER THE INPUT: true; the input reads as it did. -/
def macTagsSpec : ChangeSpec := { name := "macTags", fn := fun _ => fun
  | [d1, d2, d3] => { results := [.lit (.bool true)], args := [d1, d2, d3] }
  | _ => none }
def macTagsRow : OpenClaim := { program := "ytkclfhkaopimoaadoor", sum := "d5902aa259997ce5f5de2b2b557262395f723aa2a1665bd075774d028bea67e2", func := "shallot/shallotlaw02.MacTags", spec := "macTags", unfollowed := true, recurses := true, named := ["shallot/sha.constants"], apart := false, laid := [("shallot/sha.constants", laid_shallot_sha_constants)] }
def MacTagsSaid : Prop := macTagsRow.holds Tryd.pinned (OpenSpec.ofChange macTagsSpec)

/-- ITS FALSE NEIGHBOUR: 'it returns false'. Refute it at one input. -/
def macTagsWrong : ChangeSpec := { name := "macTags", fn := fun _ => fun
  | [d1, d2, d3] => { results := [.lit (.bool false)], args := [d1, d2, d3] }
  | _ => none }
def MacTagsWrongFalsely : Prop := macTagsRow.holds Tryd.pinned (OpenSpec.ofChange macTagsWrong)

/-- 'shallotlaw02.MacTwice': WHATEVER THE INPUT: true; the input reads as it did. -/
def macTwiceSpec : ChangeSpec := { name := "macTwice", fn := fun _ => fun
  | [d1, d2] => { results := [.lit (.bool true)], args := [d1, d2] }
  | _ => none }
def macTwiceRow : OpenClaim := { program := "ytkclfhkaopimoaadoor", sum := "d5902aa259997ce5f5de2b2b557262395f723aa2a1665bd075774d028bea67e2", func := "shallot/shallotlaw02.MacTwice", spec := "macTwice", unfollowed := true, recurses := true, named := ["shallot/sha.constants"], apart := false, laid := [("shallot/sha.constants", laid_shallot_sha_constants)] }
def MacTwiceSaid : Prop := macTwiceRow.holds Tryd.pinned (OpenSpec.ofChange macTwiceSpec)

/-- ITS FALSE NEIGHBOUR: 'it returns false'. Refute it at one input. -/
def macTwiceWrong : ChangeSpec := { name := "macTwice", fn := fun _ => fun
  | [d1, d2] => { results := [.lit (.bool false)], args := [d1, d2] }
  | _ => none }
def MacTwiceWrongFalsely : Prop := macTwiceRow.holds Tryd.pinned (OpenSpec.ofChange macTwiceWrong)

/-- 'shallotlaw02.MacBegins': WHATEVER THE INPUT: true; the input reads as it did. -/
def macBeginsSpec : ChangeSpec := { name := "macBegins", fn := fun _ => fun
  | [d1, d2, d3] => { results := [.lit (.bool true)], args := [d1, d2, d3] }
  | _ => none }
def macBeginsRow : OpenClaim := { program := "ytkclfhkaopimoaadoor", sum := "d5902aa259997ce5f5de2b2b557262395f723aa2a1665bd075774d028bea67e2", func := "shallot/shallotlaw02.MacBegins", spec := "macBegins", unfollowed := true, recurses := true, named := ["shallot/sha.constants"], apart := false, laid := [("shallot/sha.constants", laid_shallot_sha_constants)] }
def MacBeginsSaid : Prop := macBeginsRow.holds Tryd.pinned (OpenSpec.ofChange macBeginsSpec)

/-- ITS FALSE NEIGHBOUR: 'it returns false'. Refute it at one input. -/
def macBeginsWrong : ChangeSpec := { name := "macBegins", fn := fun _ => fun
  | [d1, d2, d3] => { results := [.lit (.bool false)], args := [d1, d2, d3] }
  | _ => none }
def MacBeginsWrongFalsely : Prop := macBeginsRow.holds Tryd.pinned (OpenSpec.ofChange macBeginsWrong)

/-- 'shallotlaw02.MacStreams': WHATEVER THE INPUT: true; the input reads as it did. -/
def macStreamsSpec : ChangeSpec := { name := "macStreams", fn := fun _ => fun
  | [d1, d2, d3, d4] => { results := [.lit (.bool true)], args := [d1, d2, d3, d4] }
  | _ => none }
def macStreamsRow : OpenClaim := { program := "ytkclfhkaopimoaadoor", sum := "d5902aa259997ce5f5de2b2b557262395f723aa2a1665bd075774d028bea67e2", func := "shallot/shallotlaw02.MacStreams", spec := "macStreams", unfollowed := true, recurses := true, named := ["shallot/sha.constants"], apart := false, laid := [("shallot/sha.constants", laid_shallot_sha_constants)] }
def MacStreamsSaid : Prop := macStreamsRow.holds Tryd.pinned (OpenSpec.ofChange macStreamsSpec)

/-- ITS FALSE NEIGHBOUR: 'it returns false'. Refute it at one input. -/
def macStreamsWrong : ChangeSpec := { name := "macStreams", fn := fun _ => fun
  | [d1, d2, d3, d4] => { results := [.lit (.bool false)], args := [d1, d2, d3, d4] }
  | _ => none }
def MacStreamsWrongFalsely : Prop := macStreamsRow.holds Tryd.pinned (OpenSpec.ofChange macStreamsWrong)

/- THE SECOND FORM. 'bulk': how many values and letters a reading holds, each counted each time it is reached (what is shared counts as often as it is met; a slice's spare places count too). A statement '..UptoSaid' is the law's where the arguments, and the package variables that the reading takes, are together of bulk at most 1048576: NARROWER than '..Said'. Prove '..Said' where nothing that the law and all that it calls make is longer than what came in: it says more and counts as full. Else prove '..UptoSaid'. A law counts once. -/
mutual
def uptoBulk {H : Type} : DataW H → Nat
  | .lit (.string bytes) => bytes.length + 1
  | .lit _ => 1
  | .nil => 1
  | .ptr d => uptoBulk d + 1
  | .slice elems spare => uptoBulkAll elems + uptoBulkAll spare + 1
  | .agg parts => uptoBulkAll parts + 1
  | .iface _ d => uptoBulk d + 1
  | .map entries => uptoBulkEntries entries + 1
  | .held _ => 1
def uptoBulkAll {H : Type} : List (DataW H) → Nat
  | [] => 0
  | d :: r => uptoBulk d + uptoBulkAll r
def uptoBulkEntries {H : Type} : List (Lit × DataW H) → Nat
  | [] => 0
  | x :: r => uptoBulkEntry x + uptoBulkEntries r
def uptoBulkEntry {H : Type} : Lit × DataW H → Nat
  | (.string bytes, d) => bytes.length + uptoBulk d + 1
  | (_, d) => uptoBulk d + 1
 end
def uptoSmall : (H : Type) → List (DataW H) → Bool := fun _ ds => decide (uptoBulkAll ds ≤ 1048576)
def OpenSpec.upto (s : _root_.Go.ChangeSpec) : _root_.Go.OpenSpec := { _root_.Go.OpenSpec.ofChange s with cond := some uptoSmall }

/-- 'shallotlaw01.ShaPads', WHERE WHAT IT READS IS OF BULK AT MOST 1048576: true; the input reads as it did. -/
def shaPadsUptoRow : OpenClaim := { program := "ytkclfhkaopimoaadoor", sum := "d5902aa259997ce5f5de2b2b557262395f723aa2a1665bd075774d028bea67e2", func := "shallot/shallotlaw01.ShaPads", spec := "shaPads", unfollowed := true, recurses := true, named := ["shallot/sha.constants"], apart := false, laid := [("shallot/sha.constants", laid_shallot_sha_constants)], narrowed := true }
def ShaPadsUptoSaid : Prop := shaPadsUptoRow.holds Tryd.pinned (OpenSpec.upto shaPadsSpec)

/-- 'shallotlaw01.ShaBlocks', WHERE WHAT IT READS IS OF BULK AT MOST 1048576: true; the input reads as it did. -/
def shaBlocksUptoRow : OpenClaim := { program := "ytkclfhkaopimoaadoor", sum := "d5902aa259997ce5f5de2b2b557262395f723aa2a1665bd075774d028bea67e2", func := "shallot/shallotlaw01.ShaBlocks", spec := "shaBlocks", unfollowed := true, recurses := true, named := ["shallot/sha.constants"], apart := false, laid := [("shallot/sha.constants", laid_shallot_sha_constants)], narrowed := true }
def ShaBlocksUptoSaid : Prop := shaBlocksUptoRow.holds Tryd.pinned (OpenSpec.upto shaBlocksSpec)

/-- 'shallotlaw01.ShaSums', WHERE WHAT IT READS IS OF BULK AT MOST 1048576: true; the input reads as it did. -/
def shaSumsUptoRow : OpenClaim := { program := "ytkclfhkaopimoaadoor", sum := "d5902aa259997ce5f5de2b2b557262395f723aa2a1665bd075774d028bea67e2", func := "shallot/shallotlaw01.ShaSums", spec := "shaSums", unfollowed := true, recurses := true, named := ["shallot/sha.constants"], apart := false, laid := [("shallot/sha.constants", laid_shallot_sha_constants)], narrowed := true }
def ShaSumsUptoSaid : Prop := shaSumsUptoRow.holds Tryd.pinned (OpenSpec.upto shaSumsSpec)

/-- 'shallotlaw01.ShaFolds', WHERE WHAT IT READS IS OF BULK AT MOST 1048576: true; the input reads as it did. -/
def shaFoldsUptoRow : OpenClaim := { program := "ytkclfhkaopimoaadoor", sum := "d5902aa259997ce5f5de2b2b557262395f723aa2a1665bd075774d028bea67e2", func := "shallot/shallotlaw01.ShaFolds", spec := "shaFolds", unfollowed := true, recurses := true, named := ["shallot/sha.constants"], apart := false, laid := [("shallot/sha.constants", laid_shallot_sha_constants)], narrowed := true }
def ShaFoldsUptoSaid : Prop := shaFoldsUptoRow.holds Tryd.pinned (OpenSpec.upto shaFoldsSpec)

/-- 'shallotlaw01.ShaShape', WHERE WHAT IT READS IS OF BULK AT MOST 1048576: true; the input reads as it did. -/
def shaShapeUptoRow : OpenClaim := { program := "ytkclfhkaopimoaadoor", sum := "d5902aa259997ce5f5de2b2b557262395f723aa2a1665bd075774d028bea67e2", func := "shallot/shallotlaw01.ShaShape", spec := "shaShape", unfollowed := true, recurses := true, named := ["shallot/sha.constants"], apart := false, laid := [("shallot/sha.constants", laid_shallot_sha_constants)], narrowed := true }
def ShaShapeUptoSaid : Prop := shaShapeUptoRow.holds Tryd.pinned (OpenSpec.upto shaShapeSpec)

/-- 'shallotlaw01.ShaAhead', WHERE WHAT IT READS IS OF BULK AT MOST 1048576: true; the input reads as it did. -/
def shaAheadUptoRow : OpenClaim := { program := "ytkclfhkaopimoaadoor", sum := "d5902aa259997ce5f5de2b2b557262395f723aa2a1665bd075774d028bea67e2", func := "shallot/shallotlaw01.ShaAhead", spec := "shaAhead", unfollowed := true, recurses := true, named := ["shallot/sha.constants"], apart := false, laid := [("shallot/sha.constants", laid_shallot_sha_constants)], narrowed := true }
def ShaAheadUptoSaid : Prop := shaAheadUptoRow.holds Tryd.pinned (OpenSpec.upto shaAheadSpec)

/-- 'shallotlaw02.MacHashes', WHERE WHAT IT READS IS OF BULK AT MOST 1048576: true; the input reads as it did. -/
def macHashesUptoRow : OpenClaim := { program := "ytkclfhkaopimoaadoor", sum := "d5902aa259997ce5f5de2b2b557262395f723aa2a1665bd075774d028bea67e2", func := "shallot/shallotlaw02.MacHashes", spec := "macHashes", unfollowed := true, recurses := true, named := ["shallot/sha.constants"], apart := false, laid := [("shallot/sha.constants", laid_shallot_sha_constants)], narrowed := true }
def MacHashesUptoSaid : Prop := macHashesUptoRow.holds Tryd.pinned (OpenSpec.upto macHashesSpec)

/-- 'shallotlaw02.MacKeys', WHERE WHAT IT READS IS OF BULK AT MOST 1048576: true; the input reads as it did. -/
def macKeysUptoRow : OpenClaim := { program := "ytkclfhkaopimoaadoor", sum := "d5902aa259997ce5f5de2b2b557262395f723aa2a1665bd075774d028bea67e2", func := "shallot/shallotlaw02.MacKeys", spec := "macKeys", unfollowed := true, recurses := true, named := ["shallot/sha.constants"], apart := false, laid := [("shallot/sha.constants", laid_shallot_sha_constants)], narrowed := true }
def MacKeysUptoSaid : Prop := macKeysUptoRow.holds Tryd.pinned (OpenSpec.upto macKeysSpec)

/-- 'shallotlaw02.MacTags', WHERE WHAT IT READS IS OF BULK AT MOST 1048576: true; the input reads as it did. -/
def macTagsUptoRow : OpenClaim := { program := "ytkclfhkaopimoaadoor", sum := "d5902aa259997ce5f5de2b2b557262395f723aa2a1665bd075774d028bea67e2", func := "shallot/shallotlaw02.MacTags", spec := "macTags", unfollowed := true, recurses := true, named := ["shallot/sha.constants"], apart := false, laid := [("shallot/sha.constants", laid_shallot_sha_constants)], narrowed := true }
def MacTagsUptoSaid : Prop := macTagsUptoRow.holds Tryd.pinned (OpenSpec.upto macTagsSpec)

/-- 'shallotlaw02.MacTwice', WHERE WHAT IT READS IS OF BULK AT MOST 1048576: true; the input reads as it did. -/
def macTwiceUptoRow : OpenClaim := { program := "ytkclfhkaopimoaadoor", sum := "d5902aa259997ce5f5de2b2b557262395f723aa2a1665bd075774d028bea67e2", func := "shallot/shallotlaw02.MacTwice", spec := "macTwice", unfollowed := true, recurses := true, named := ["shallot/sha.constants"], apart := false, laid := [("shallot/sha.constants", laid_shallot_sha_constants)], narrowed := true }
def MacTwiceUptoSaid : Prop := macTwiceUptoRow.holds Tryd.pinned (OpenSpec.upto macTwiceSpec)

/-- 'shallotlaw02.MacBegins', WHERE WHAT IT READS IS OF BULK AT MOST 1048576: true; the input reads as it did. -/
def macBeginsUptoRow : OpenClaim := { program := "ytkclfhkaopimoaadoor", sum := "d5902aa259997ce5f5de2b2b557262395f723aa2a1665bd075774d028bea67e2", func := "shallot/shallotlaw02.MacBegins", spec := "macBegins", unfollowed := true, recurses := true, named := ["shallot/sha.constants"], apart := false, laid := [("shallot/sha.constants", laid_shallot_sha_constants)], narrowed := true }
def MacBeginsUptoSaid : Prop := macBeginsUptoRow.holds Tryd.pinned (OpenSpec.upto macBeginsSpec)

/-- 'shallotlaw02.MacStreams', WHERE WHAT IT READS IS OF BULK AT MOST 1048576: true; the input reads as it did. -/
def macStreamsUptoRow : OpenClaim := { program := "ytkclfhkaopimoaadoor", sum := "d5902aa259997ce5f5de2b2b557262395f723aa2a1665bd075774d028bea67e2", func := "shallot/shallotlaw02.MacStreams", spec := "macStreams", unfollowed := true, recurses := true, named := ["shallot/sha.constants"], apart := false, laid := [("shallot/sha.constants", laid_shallot_sha_constants)], narrowed := true }
def MacStreamsUptoSaid : Prop := macStreamsUptoRow.holds Tryd.pinned (OpenSpec.upto macStreamsSpec)

end Rows
end Go.Proofs.YtkclfhkaopimoaaDoor
