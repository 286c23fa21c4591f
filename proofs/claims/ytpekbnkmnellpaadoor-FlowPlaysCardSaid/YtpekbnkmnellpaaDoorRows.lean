/-
  NARROWER THAN 'FOR EVERY INPUT', by the rows' own cells (each row's printed sentence says how): FlowApart: laid · FlowTakes: laid · FlowCounts: laid · ChannelOpens: laid · FlowOnce: laid · FlowCopies: laid · FlowPlays: laid · ChannelBack: laid · ChannelWhole: laid · ChannelTells: laid.
  DERIVED. THE GIVEN ROWS OF THIS SEAT. 10 by the template 'for every input the law returns true; each argument reads behind the call as it read before'; 0 by the template 'total and deterministic' (their statements: YtpekbnkmnellpaaDoorTotals.lean).
  GIVEN WITH THE SEED: the statements are not yours to turn. If you find one false, say at which input.
  Laid BY PROGRAM, IN A SANDBOX (cutbox-rows.mjs): the forced cells as the released guide's own fill.sh prints them over the translation 551fd0bb49e85715… (all of the seat's roots in one cut). By AI agents, Wed Nov 11 2026. No macro, syntax, notation, axiom, sorry.
-/
import Derived.Test.YtpekbnkmnellpaaDoorChecked
import GoSem.Claim
import GoSem.ClaimJoined
import GoSem.ClaimMapViews
import Derived.JoinedTies
import Derived.KernelRfl
namespace Go.Proofs.YtpekbnkmnellpaaDoor
/- THE CELL 'sum', in the pinned program and in every row, IS THE sha256 OF THE DUMP (.gsa) THAT YtpekbnkmnellpaaDoorProg.lean LOADS. Nothing in Lean hashes anything: it is a label: what it is worth is what the hold of that sum in a sandbox is worth. -/
noncomputable def Tryd.pinned : Pinned := { name := "ytpekbnkmnellpaadoor", sum := "551fd0bb49e8571590f199d13a4ea451b45bd7157b0ef71aec60ceeeaf73c972", checked := Tryd.checked }
namespace Rows
def none {H : Type} : Left H := { results := [], args := [] }

/- WHAT THE LISTED PACKAGE-LEVEL VARIABLES READ AS WHEN THE CALL BEGINS. Each datum BY PROGRAM (the guide's laid-datum.mjs) off the statement by which the dump's own 'gosem.cut.vars' lays the variable. In a bare row this is a premise. The card (YtpekbnkmnellpaaDoorCards.lean) ties it to the program's text. -/
def laid_voussoir_sha_k {H : Type} : DataW H := .agg [.lit (.int .u32 1116352408), .lit (.int .u32 1899447441), .lit (.int .u32 3049323471), .lit (.int .u32 3921009573), .lit (.int .u32 961987163), .lit (.int .u32 1508970993), .lit (.int .u32 2453635748), .lit (.int .u32 2870763221), .lit (.int .u32 3624381080), .lit (.int .u32 310598401), .lit (.int .u32 607225278), .lit (.int .u32 1426881987), .lit (.int .u32 1925078388), .lit (.int .u32 2162078206), .lit (.int .u32 2614888103), .lit (.int .u32 3248222580), .lit (.int .u32 3835390401), .lit (.int .u32 4022224774), .lit (.int .u32 264347078), .lit (.int .u32 604807628), .lit (.int .u32 770255983), .lit (.int .u32 1249150122), .lit (.int .u32 1555081692), .lit (.int .u32 1996064986), .lit (.int .u32 2554220882), .lit (.int .u32 2821834349), .lit (.int .u32 2952996808), .lit (.int .u32 3210313671), .lit (.int .u32 3336571891), .lit (.int .u32 3584528711), .lit (.int .u32 113926993), .lit (.int .u32 338241895), .lit (.int .u32 666307205), .lit (.int .u32 773529912), .lit (.int .u32 1294757372), .lit (.int .u32 1396182291), .lit (.int .u32 1695183700), .lit (.int .u32 1986661051), .lit (.int .u32 2177026350), .lit (.int .u32 2456956037), .lit (.int .u32 2730485921), .lit (.int .u32 2820302411), .lit (.int .u32 3259730800), .lit (.int .u32 3345764771), .lit (.int .u32 3516065817), .lit (.int .u32 3600352804), .lit (.int .u32 4094571909), .lit (.int .u32 275423344), .lit (.int .u32 430227734), .lit (.int .u32 506948616), .lit (.int .u32 659060556), .lit (.int .u32 883997877), .lit (.int .u32 958139571), .lit (.int .u32 1322822218), .lit (.int .u32 1537002063), .lit (.int .u32 1747873779), .lit (.int .u32 1955562222), .lit (.int .u32 2024104815), .lit (.int .u32 2227730452), .lit (.int .u32 2361852424), .lit (.int .u32 2428436474), .lit (.int .u32 2756734187), .lit (.int .u32 3204031479), .lit (.int .u32 3329325298)]
def laid_voussoir_sha_first {H : Type} : DataW H := .agg [.lit (.int .u32 1779033703), .lit (.int .u32 3144134277), .lit (.int .u32 1013904242), .lit (.int .u32 2773480762), .lit (.int .u32 1359893119), .lit (.int .u32 2600822924), .lit (.int .u32 528734635), .lit (.int .u32 1541459225)]
def laid_voussoir_voussoirref01_k {H : Type} : DataW H := .agg [.lit (.int .u32 1116352408), .lit (.int .u32 1899447441), .lit (.int .u32 3049323471), .lit (.int .u32 3921009573), .lit (.int .u32 961987163), .lit (.int .u32 1508970993), .lit (.int .u32 2453635748), .lit (.int .u32 2870763221), .lit (.int .u32 3624381080), .lit (.int .u32 310598401), .lit (.int .u32 607225278), .lit (.int .u32 1426881987), .lit (.int .u32 1925078388), .lit (.int .u32 2162078206), .lit (.int .u32 2614888103), .lit (.int .u32 3248222580), .lit (.int .u32 3835390401), .lit (.int .u32 4022224774), .lit (.int .u32 264347078), .lit (.int .u32 604807628), .lit (.int .u32 770255983), .lit (.int .u32 1249150122), .lit (.int .u32 1555081692), .lit (.int .u32 1996064986), .lit (.int .u32 2554220882), .lit (.int .u32 2821834349), .lit (.int .u32 2952996808), .lit (.int .u32 3210313671), .lit (.int .u32 3336571891), .lit (.int .u32 3584528711), .lit (.int .u32 113926993), .lit (.int .u32 338241895), .lit (.int .u32 666307205), .lit (.int .u32 773529912), .lit (.int .u32 1294757372), .lit (.int .u32 1396182291), .lit (.int .u32 1695183700), .lit (.int .u32 1986661051), .lit (.int .u32 2177026350), .lit (.int .u32 2456956037), .lit (.int .u32 2730485921), .lit (.int .u32 2820302411), .lit (.int .u32 3259730800), .lit (.int .u32 3345764771), .lit (.int .u32 3516065817), .lit (.int .u32 3600352804), .lit (.int .u32 4094571909), .lit (.int .u32 275423344), .lit (.int .u32 430227734), .lit (.int .u32 506948616), .lit (.int .u32 659060556), .lit (.int .u32 883997877), .lit (.int .u32 958139571), .lit (.int .u32 1322822218), .lit (.int .u32 1537002063), .lit (.int .u32 1747873779), .lit (.int .u32 1955562222), .lit (.int .u32 2024104815), .lit (.int .u32 2227730452), .lit (.int .u32 2361852424), .lit (.int .u32 2428436474), .lit (.int .u32 2756734187), .lit (.int .u32 3204031479), .lit (.int .u32 3329325298)]
def laid_voussoir_voussoirref01_first {H : Type} : DataW H := .agg [.lit (.int .u32 1779033703), .lit (.int .u32 3144134277), .lit (.int .u32 1013904242), .lit (.int .u32 2773480762), .lit (.int .u32 1359893119), .lit (.int .u32 2600822924), .lit (.int .u32 528734635), .lit (.int .u32 1541459225)]

/-- 'voussoirlaw18.FlowApart': WHATEVER THE INPUT: true; the input reads as it did. -/
def flowApartSpec : ChangeSpec := { name := "flowApart", fn := fun _ => fun
  | [d1, d2, d3, d4] => { results := [.lit (.bool true)], args := [d1, d2, d3, d4] }
  | _ => none }
def flowApartRow : OpenClaim := { program := "ytpekbnkmnellpaadoor", sum := "551fd0bb49e8571590f199d13a4ea451b45bd7157b0ef71aec60ceeeaf73c972", func := "voussoir/voussoirlaw18.FlowApart", spec := "flowApart", inPlace := ["internal/abi.NoEscape"], unfollowed := true, recurses := true, named := ["voussoir/sha.first", "voussoir/sha.k"], apart := false, laid := [("voussoir/sha.k", laid_voussoir_sha_k), ("voussoir/sha.first", laid_voussoir_sha_first)] }
def FlowApartSaid : Prop := flowApartRow.holds Tryd.pinned (OpenSpec.ofChange flowApartSpec)

/-- ITS FALSE NEIGHBOUR: 'it returns false'. Refute it at one input. -/
def flowApartWrong : ChangeSpec := { name := "flowApart", fn := fun _ => fun
  | [d1, d2, d3, d4] => { results := [.lit (.bool false)], args := [d1, d2, d3, d4] }
  | _ => none }
def FlowApartWrongFalsely : Prop := flowApartRow.holds Tryd.pinned (OpenSpec.ofChange flowApartWrong)

/-- 'voussoirlaw18.FlowTakes': WHATEVER THE INPUT: true; the input reads as it did. -/
def flowTakesSpec : ChangeSpec := { name := "flowTakes", fn := fun _ => fun
  | [d1, d2, d3, d4] => { results := [.lit (.bool true)], args := [d1, d2, d3, d4] }
  | _ => none }
def flowTakesRow : OpenClaim := { program := "ytpekbnkmnellpaadoor", sum := "551fd0bb49e8571590f199d13a4ea451b45bd7157b0ef71aec60ceeeaf73c972", func := "voussoir/voussoirlaw18.FlowTakes", spec := "flowTakes", inPlace := ["internal/abi.NoEscape"], unfollowed := true, recurses := true, named := ["voussoir/sha.first", "voussoir/sha.k"], apart := false, laid := [("voussoir/sha.k", laid_voussoir_sha_k), ("voussoir/sha.first", laid_voussoir_sha_first)] }
def FlowTakesSaid : Prop := flowTakesRow.holds Tryd.pinned (OpenSpec.ofChange flowTakesSpec)

/-- ITS FALSE NEIGHBOUR: 'it returns false'. Refute it at one input. -/
def flowTakesWrong : ChangeSpec := { name := "flowTakes", fn := fun _ => fun
  | [d1, d2, d3, d4] => { results := [.lit (.bool false)], args := [d1, d2, d3, d4] }
  | _ => none }
def FlowTakesWrongFalsely : Prop := flowTakesRow.holds Tryd.pinned (OpenSpec.ofChange flowTakesWrong)

/-- 'voussoirlaw18.FlowCounts': WHATEVER THE INPUT: true; the input reads as it did. -/
def flowCountsSpec : ChangeSpec := { name := "flowCounts", fn := fun _ => fun
  | [d1, d2] => { results := [.lit (.bool true)], args := [d1, d2] }
  | _ => none }
def flowCountsRow : OpenClaim := { program := "ytpekbnkmnellpaadoor", sum := "551fd0bb49e8571590f199d13a4ea451b45bd7157b0ef71aec60ceeeaf73c972", func := "voussoir/voussoirlaw18.FlowCounts", spec := "flowCounts", inPlace := ["internal/abi.NoEscape"], unfollowed := true, recurses := true, named := ["voussoir/sha.first", "voussoir/sha.k"], apart := false, laid := [("voussoir/sha.k", laid_voussoir_sha_k), ("voussoir/sha.first", laid_voussoir_sha_first)] }
def FlowCountsSaid : Prop := flowCountsRow.holds Tryd.pinned (OpenSpec.ofChange flowCountsSpec)

/-- ITS FALSE NEIGHBOUR: 'it returns false'. Refute it at one input. -/
def flowCountsWrong : ChangeSpec := { name := "flowCounts", fn := fun _ => fun
  | [d1, d2] => { results := [.lit (.bool false)], args := [d1, d2] }
  | _ => none }
def FlowCountsWrongFalsely : Prop := flowCountsRow.holds Tryd.pinned (OpenSpec.ofChange flowCountsWrong)

/-- 'voussoirlaw18.ChannelOpens': WHATEVER THE INPUT: true; the input reads as it did. -/
def channelOpensSpec : ChangeSpec := { name := "channelOpens", fn := fun _ => fun
  | [d1, d2, d3, d4] => { results := [.lit (.bool true)], args := [d1, d2, d3, d4] }
  | _ => none }
def channelOpensRow : OpenClaim := { program := "ytpekbnkmnellpaadoor", sum := "551fd0bb49e8571590f199d13a4ea451b45bd7157b0ef71aec60ceeeaf73c972", func := "voussoir/voussoirlaw18.ChannelOpens", spec := "channelOpens", inPlace := ["internal/abi.NoEscape"], unfollowed := true, recurses := true, named := ["voussoir/sha.first", "voussoir/sha.k"], apart := false, laid := [("voussoir/sha.k", laid_voussoir_sha_k), ("voussoir/sha.first", laid_voussoir_sha_first)] }
def ChannelOpensSaid : Prop := channelOpensRow.holds Tryd.pinned (OpenSpec.ofChange channelOpensSpec)

/-- ITS FALSE NEIGHBOUR: 'it returns false'. Refute it at one input. -/
def channelOpensWrong : ChangeSpec := { name := "channelOpens", fn := fun _ => fun
  | [d1, d2, d3, d4] => { results := [.lit (.bool false)], args := [d1, d2, d3, d4] }
  | _ => none }
def ChannelOpensWrongFalsely : Prop := channelOpensRow.holds Tryd.pinned (OpenSpec.ofChange channelOpensWrong)

/-- 'voussoirlaw18.FlowOnce': WHATEVER THE INPUT: true; the input reads as it did. -/
def flowOnceSpec : ChangeSpec := { name := "flowOnce", fn := fun _ => fun
  | [d1, d2] => { results := [.lit (.bool true)], args := [d1, d2] }
  | _ => none }
def flowOnceRow : OpenClaim := { program := "ytpekbnkmnellpaadoor", sum := "551fd0bb49e8571590f199d13a4ea451b45bd7157b0ef71aec60ceeeaf73c972", func := "voussoir/voussoirlaw18.FlowOnce", spec := "flowOnce", inPlace := ["internal/abi.NoEscape"], unfollowed := true, recurses := true, named := ["voussoir/sha.first", "voussoir/sha.k"], apart := false, laid := [("voussoir/sha.k", laid_voussoir_sha_k), ("voussoir/sha.first", laid_voussoir_sha_first)] }
def FlowOnceSaid : Prop := flowOnceRow.holds Tryd.pinned (OpenSpec.ofChange flowOnceSpec)

/-- ITS FALSE NEIGHBOUR: 'it returns false'. Refute it at one input. -/
def flowOnceWrong : ChangeSpec := { name := "flowOnce", fn := fun _ => fun
  | [d1, d2] => { results := [.lit (.bool false)], args := [d1, d2] }
  | _ => none }
def FlowOnceWrongFalsely : Prop := flowOnceRow.holds Tryd.pinned (OpenSpec.ofChange flowOnceWrong)

/-- 'voussoirlaw18.FlowCopies': WHATEVER THE INPUT: true; the input reads as it did. -/
def flowCopiesSpec : ChangeSpec := { name := "flowCopies", fn := fun _ => fun
  | [d1, d2, d3] => { results := [.lit (.bool true)], args := [d1, d2, d3] }
  | _ => none }
def flowCopiesRow : OpenClaim := { program := "ytpekbnkmnellpaadoor", sum := "551fd0bb49e8571590f199d13a4ea451b45bd7157b0ef71aec60ceeeaf73c972", func := "voussoir/voussoirlaw18.FlowCopies", spec := "flowCopies", inPlace := ["internal/abi.NoEscape", "maps.clone"], unfollowed := true, recurses := true, named := ["voussoir/sha.first", "voussoir/sha.k"], apart := false, laid := [("voussoir/sha.k", laid_voussoir_sha_k), ("voussoir/sha.first", laid_voussoir_sha_first)] }
def FlowCopiesSaid : Prop := flowCopiesRow.holds Tryd.pinned (OpenSpec.ofChange flowCopiesSpec)

/-- ITS FALSE NEIGHBOUR: 'it returns false'. Refute it at one input. -/
def flowCopiesWrong : ChangeSpec := { name := "flowCopies", fn := fun _ => fun
  | [d1, d2, d3] => { results := [.lit (.bool false)], args := [d1, d2, d3] }
  | _ => none }
def FlowCopiesWrongFalsely : Prop := flowCopiesRow.holds Tryd.pinned (OpenSpec.ofChange flowCopiesWrong)

/-- 'voussoirlaw18.FlowPlays': WHATEVER THE INPUT: true; the input reads as it did. -/
def flowPlaysSpec : ChangeSpec := { name := "flowPlays", fn := fun _ => fun
  | [d1, d2, d3, d4] => { results := [.lit (.bool true)], args := [d1, d2, d3, d4] }
  | _ => none }
def flowPlaysRow : OpenClaim := { program := "ytpekbnkmnellpaadoor", sum := "551fd0bb49e8571590f199d13a4ea451b45bd7157b0ef71aec60ceeeaf73c972", func := "voussoir/voussoirlaw18.FlowPlays", spec := "flowPlays", inPlace := ["internal/abi.NoEscape", "maps.clone"], unfollowed := true, recurses := true, named := ["voussoir/sha.first", "voussoir/sha.k", "voussoir/voussoirref01.first", "voussoir/voussoirref01.k"], apart := false, laid := [("voussoir/voussoirref01.k", laid_voussoir_voussoirref01_k), ("voussoir/voussoirref01.first", laid_voussoir_voussoirref01_first), ("voussoir/sha.k", laid_voussoir_sha_k), ("voussoir/sha.first", laid_voussoir_sha_first)] }
def FlowPlaysSaid : Prop := flowPlaysRow.holds Tryd.pinned (OpenSpec.ofChange flowPlaysSpec)

/-- ITS FALSE NEIGHBOUR: 'it returns false'. Refute it at one input. -/
def flowPlaysWrong : ChangeSpec := { name := "flowPlays", fn := fun _ => fun
  | [d1, d2, d3, d4] => { results := [.lit (.bool false)], args := [d1, d2, d3, d4] }
  | _ => none }
def FlowPlaysWrongFalsely : Prop := flowPlaysRow.holds Tryd.pinned (OpenSpec.ofChange flowPlaysWrong)

/-- 'voussoirlaw18.ChannelBack': WHATEVER THE INPUT: true; the input reads as it did. -/
def channelBackSpec : ChangeSpec := { name := "channelBack", fn := fun _ => fun
  | [d1, d2] => { results := [.lit (.bool true)], args := [d1, d2] }
  | _ => none }
def channelBackRow : OpenClaim := { program := "ytpekbnkmnellpaadoor", sum := "551fd0bb49e8571590f199d13a4ea451b45bd7157b0ef71aec60ceeeaf73c972", func := "voussoir/voussoirlaw18.ChannelBack", spec := "channelBack", inPlace := ["internal/abi.NoEscape"], unfollowed := true, recurses := true, named := ["voussoir/sha.first", "voussoir/sha.k"], apart := false, laid := [("voussoir/sha.k", laid_voussoir_sha_k), ("voussoir/sha.first", laid_voussoir_sha_first)] }
def ChannelBackSaid : Prop := channelBackRow.holds Tryd.pinned (OpenSpec.ofChange channelBackSpec)

/-- ITS FALSE NEIGHBOUR: 'it returns false'. Refute it at one input. -/
def channelBackWrong : ChangeSpec := { name := "channelBack", fn := fun _ => fun
  | [d1, d2] => { results := [.lit (.bool false)], args := [d1, d2] }
  | _ => none }
def ChannelBackWrongFalsely : Prop := channelBackRow.holds Tryd.pinned (OpenSpec.ofChange channelBackWrong)

/-- 'voussoirlaw18.ChannelWhole': WHATEVER THE INPUT: true; the input reads as it did. -/
def channelWholeSpec : ChangeSpec := { name := "channelWhole", fn := fun _ => fun
  | [d1, d2, d3] => { results := [.lit (.bool true)], args := [d1, d2, d3] }
  | _ => none }
def channelWholeRow : OpenClaim := { program := "ytpekbnkmnellpaadoor", sum := "551fd0bb49e8571590f199d13a4ea451b45bd7157b0ef71aec60ceeeaf73c972", func := "voussoir/voussoirlaw18.ChannelWhole", spec := "channelWhole", inPlace := ["internal/abi.NoEscape"], unfollowed := true, recurses := true, named := ["voussoir/sha.first", "voussoir/sha.k"], apart := false, laid := [("voussoir/sha.k", laid_voussoir_sha_k), ("voussoir/sha.first", laid_voussoir_sha_first)] }
def ChannelWholeSaid : Prop := channelWholeRow.holds Tryd.pinned (OpenSpec.ofChange channelWholeSpec)

/-- ITS FALSE NEIGHBOUR: 'it returns false'. Refute it at one input. -/
def channelWholeWrong : ChangeSpec := { name := "channelWhole", fn := fun _ => fun
  | [d1, d2, d3] => { results := [.lit (.bool false)], args := [d1, d2, d3] }
  | _ => none }
def ChannelWholeWrongFalsely : Prop := channelWholeRow.holds Tryd.pinned (OpenSpec.ofChange channelWholeWrong)

/-- 'voussoirlaw18.ChannelTells': WHATEVER THE INPUT: true; the input reads as it did. -/
def channelTellsSpec : ChangeSpec := { name := "channelTells", fn := fun _ => fun
  | [d1, d2, d3, d4] => { results := [.lit (.bool true)], args := [d1, d2, d3, d4] }
  | _ => none }
def channelTellsRow : OpenClaim := { program := "ytpekbnkmnellpaadoor", sum := "551fd0bb49e8571590f199d13a4ea451b45bd7157b0ef71aec60ceeeaf73c972", func := "voussoir/voussoirlaw18.ChannelTells", spec := "channelTells", inPlace := ["internal/abi.NoEscape"], unfollowed := true, recurses := true, named := ["voussoir/sha.first", "voussoir/sha.k", "voussoir/voussoirref01.first", "voussoir/voussoirref01.k"], apart := false, laid := [("voussoir/voussoirref01.k", laid_voussoir_voussoirref01_k), ("voussoir/voussoirref01.first", laid_voussoir_voussoirref01_first), ("voussoir/sha.k", laid_voussoir_sha_k), ("voussoir/sha.first", laid_voussoir_sha_first)] }
def ChannelTellsSaid : Prop := channelTellsRow.holds Tryd.pinned (OpenSpec.ofChange channelTellsSpec)

/-- ITS FALSE NEIGHBOUR: 'it returns false'. Refute it at one input. -/
def channelTellsWrong : ChangeSpec := { name := "channelTells", fn := fun _ => fun
  | [d1, d2, d3, d4] => { results := [.lit (.bool false)], args := [d1, d2, d3, d4] }
  | _ => none }
def ChannelTellsWrongFalsely : Prop := channelTellsRow.holds Tryd.pinned (OpenSpec.ofChange channelTellsWrong)

/- THE SECOND FORM. 'bulk': how many values and letters a reading holds, each counted each time it is reached (what is shared counts as often as it is met; a slice's spare places count too). A statement '..UptoSaid' is the law's where the arguments, and the package variables that the reading takes, are together of bulk at most 1048576: NARROWER than '..Said'. Prove '..Said' where nothing that the law and all that it calls make is longer than what came in: it says more and counts as full. Else prove '..UptoSaid'. A law counts once. -/
mutual
def uptoBulk {H : Type} : DataW H → Nat
  | .lit (.string bytes) => bytes.length + 1
  | .lit _ => 1
  | .nil => 1
  | .ptr d => uptoBulk d + 1
  | .slice elems spare => uptoBulkAll elems + uptoBulkAll spare + 1
  | .agg parts => uptoBulkAll parts + 1
  | .iface _ d => uptoBulk d + 1
  | .map entries => uptoBulkEntries entries + 1
  | .held _ => 1
def uptoBulkAll {H : Type} : List (DataW H) → Nat
  | [] => 0
  | d :: r => uptoBulk d + uptoBulkAll r
def uptoBulkEntries {H : Type} : List (Lit × DataW H) → Nat
  | [] => 0
  | x :: r => uptoBulkEntry x + uptoBulkEntries r
def uptoBulkEntry {H : Type} : Lit × DataW H → Nat
  | (.string bytes, d) => bytes.length + uptoBulk d + 1
  | (_, d) => uptoBulk d + 1
 end
def uptoSmall : (H : Type) → List (DataW H) → Bool := fun _ ds => decide (uptoBulkAll ds ≤ 1048576)
def OpenSpec.upto (s : _root_.Go.ChangeSpec) : _root_.Go.OpenSpec := { _root_.Go.OpenSpec.ofChange s with cond := some uptoSmall }

/-- 'voussoirlaw18.FlowApart', WHERE WHAT IT READS IS OF BULK AT MOST 1048576: true; the input reads as it did. -/
def flowApartUptoRow : OpenClaim := { program := "ytpekbnkmnellpaadoor", sum := "551fd0bb49e8571590f199d13a4ea451b45bd7157b0ef71aec60ceeeaf73c972", func := "voussoir/voussoirlaw18.FlowApart", spec := "flowApart", inPlace := ["internal/abi.NoEscape"], unfollowed := true, recurses := true, named := ["voussoir/sha.first", "voussoir/sha.k"], apart := false, laid := [("voussoir/sha.k", laid_voussoir_sha_k), ("voussoir/sha.first", laid_voussoir_sha_first)], narrowed := true }
def FlowApartUptoSaid : Prop := flowApartUptoRow.holds Tryd.pinned (OpenSpec.upto flowApartSpec)

/-- 'voussoirlaw18.FlowTakes', WHERE WHAT IT READS IS OF BULK AT MOST 1048576: true; the input reads as it did. -/
def flowTakesUptoRow : OpenClaim := { program := "ytpekbnkmnellpaadoor", sum := "551fd0bb49e8571590f199d13a4ea451b45bd7157b0ef71aec60ceeeaf73c972", func := "voussoir/voussoirlaw18.FlowTakes", spec := "flowTakes", inPlace := ["internal/abi.NoEscape"], unfollowed := true, recurses := true, named := ["voussoir/sha.first", "voussoir/sha.k"], apart := false, laid := [("voussoir/sha.k", laid_voussoir_sha_k), ("voussoir/sha.first", laid_voussoir_sha_first)], narrowed := true }
def FlowTakesUptoSaid : Prop := flowTakesUptoRow.holds Tryd.pinned (OpenSpec.upto flowTakesSpec)

/-- 'voussoirlaw18.FlowCounts', WHERE WHAT IT READS IS OF BULK AT MOST 1048576: true; the input reads as it did. -/
def flowCountsUptoRow : OpenClaim := { program := "ytpekbnkmnellpaadoor", sum := "551fd0bb49e8571590f199d13a4ea451b45bd7157b0ef71aec60ceeeaf73c972", func := "voussoir/voussoirlaw18.FlowCounts", spec := "flowCounts", inPlace := ["internal/abi.NoEscape"], unfollowed := true, recurses := true, named := ["voussoir/sha.first", "voussoir/sha.k"], apart := false, laid := [("voussoir/sha.k", laid_voussoir_sha_k), ("voussoir/sha.first", laid_voussoir_sha_first)], narrowed := true }
def FlowCountsUptoSaid : Prop := flowCountsUptoRow.holds Tryd.pinned (OpenSpec.upto flowCountsSpec)

/-- 'voussoirlaw18.ChannelOpens', WHERE WHAT IT READS IS OF BULK AT MOST 1048576: true; the input reads as it did. -/
def channelOpensUptoRow : OpenClaim := { program := "ytpekbnkmnellpaadoor", sum := "551fd0bb49e8571590f199d13a4ea451b45bd7157b0ef71aec60ceeeaf73c972", func := "voussoir/voussoirlaw18.ChannelOpens", spec := "channelOpens", inPlace := ["internal/abi.NoEscape"], unfollowed := true, recurses := true, named := ["voussoir/sha.first", "voussoir/sha.k"], apart := false, laid := [("voussoir/sha.k", laid_voussoir_sha_k), ("voussoir/sha.first", laid_voussoir_sha_first)], narrowed := true }
def ChannelOpensUptoSaid : Prop := channelOpensUptoRow.holds Tryd.pinned (OpenSpec.upto channelOpensSpec)

/-- 'voussoirlaw18.FlowOnce', WHERE WHAT IT READS IS OF BULK AT MOST 1048576: true; the input reads as it did. -/
def flowOnceUptoRow : OpenClaim := { program := "ytpekbnkmnellpaadoor", sum := "551fd0bb49e8571590f199d13a4ea451b45bd7157b0ef71aec60ceeeaf73c972", func := "voussoir/voussoirlaw18.FlowOnce", spec := "flowOnce", inPlace := ["internal/abi.NoEscape"], unfollowed := true, recurses := true, named := ["voussoir/sha.first", "voussoir/sha.k"], apart := false, laid := [("voussoir/sha.k", laid_voussoir_sha_k), ("voussoir/sha.first", laid_voussoir_sha_first)], narrowed := true }
def FlowOnceUptoSaid : Prop := flowOnceUptoRow.holds Tryd.pinned (OpenSpec.upto flowOnceSpec)

/-- 'voussoirlaw18.FlowCopies', WHERE WHAT IT READS IS OF BULK AT MOST 1048576: true; the input reads as it did. -/
def flowCopiesUptoRow : OpenClaim := { program := "ytpekbnkmnellpaadoor", sum := "551fd0bb49e8571590f199d13a4ea451b45bd7157b0ef71aec60ceeeaf73c972", func := "voussoir/voussoirlaw18.FlowCopies", spec := "flowCopies", inPlace := ["internal/abi.NoEscape", "maps.clone"], unfollowed := true, recurses := true, named := ["voussoir/sha.first", "voussoir/sha.k"], apart := false, laid := [("voussoir/sha.k", laid_voussoir_sha_k), ("voussoir/sha.first", laid_voussoir_sha_first)], narrowed := true }
def FlowCopiesUptoSaid : Prop := flowCopiesUptoRow.holds Tryd.pinned (OpenSpec.upto flowCopiesSpec)

/-- 'voussoirlaw18.FlowPlays', WHERE WHAT IT READS IS OF BULK AT MOST 1048576: true; the input reads as it did. -/
def flowPlaysUptoRow : OpenClaim := { program := "ytpekbnkmnellpaadoor", sum := "551fd0bb49e8571590f199d13a4ea451b45bd7157b0ef71aec60ceeeaf73c972", func := "voussoir/voussoirlaw18.FlowPlays", spec := "flowPlays", inPlace := ["internal/abi.NoEscape", "maps.clone"], unfollowed := true, recurses := true, named := ["voussoir/sha.first", "voussoir/sha.k", "voussoir/voussoirref01.first", "voussoir/voussoirref01.k"], apart := false, laid := [("voussoir/voussoirref01.k", laid_voussoir_voussoirref01_k), ("voussoir/voussoirref01.first", laid_voussoir_voussoirref01_first), ("voussoir/sha.k", laid_voussoir_sha_k), ("voussoir/sha.first", laid_voussoir_sha_first)], narrowed := true }
def FlowPlaysUptoSaid : Prop := flowPlaysUptoRow.holds Tryd.pinned (OpenSpec.upto flowPlaysSpec)

/-- 'voussoirlaw18.ChannelBack', WHERE WHAT IT READS IS OF BULK AT MOST 1048576: true; the input reads as it did. -/
def channelBackUptoRow : OpenClaim := { program := "ytpekbnkmnellpaadoor", sum := "551fd0bb49e8571590f199d13a4ea451b45bd7157b0ef71aec60ceeeaf73c972", func := "voussoir/voussoirlaw18.ChannelBack", spec := "channelBack", inPlace := ["internal/abi.NoEscape"], unfollowed := true, recurses := true, named := ["voussoir/sha.first", "voussoir/sha.k"], apart := false, laid := [("voussoir/sha.k", laid_voussoir_sha_k), ("voussoir/sha.first", laid_voussoir_sha_first)], narrowed := true }
def ChannelBackUptoSaid : Prop := channelBackUptoRow.holds Tryd.pinned (OpenSpec.upto channelBackSpec)

/-- 'voussoirlaw18.ChannelWhole', WHERE WHAT IT READS IS OF BULK AT MOST 1048576: true; the input reads as it did. -/
def channelWholeUptoRow : OpenClaim := { program := "ytpekbnkmnellpaadoor", sum := "551fd0bb49e8571590f199d13a4ea451b45bd7157b0ef71aec60ceeeaf73c972", func := "voussoir/voussoirlaw18.ChannelWhole", spec := "channelWhole", inPlace := ["internal/abi.NoEscape"], unfollowed := true, recurses := true, named := ["voussoir/sha.first", "voussoir/sha.k"], apart := false, laid := [("voussoir/sha.k", laid_voussoir_sha_k), ("voussoir/sha.first", laid_voussoir_sha_first)], narrowed := true }
def ChannelWholeUptoSaid : Prop := channelWholeUptoRow.holds Tryd.pinned (OpenSpec.upto channelWholeSpec)

/-- 'voussoirlaw18.ChannelTells', WHERE WHAT IT READS IS OF BULK AT MOST 1048576: true; the input reads as it did. -/
def channelTellsUptoRow : OpenClaim := { program := "ytpekbnkmnellpaadoor", sum := "551fd0bb49e8571590f199d13a4ea451b45bd7157b0ef71aec60ceeeaf73c972", func := "voussoir/voussoirlaw18.ChannelTells", spec := "channelTells", inPlace := ["internal/abi.NoEscape"], unfollowed := true, recurses := true, named := ["voussoir/sha.first", "voussoir/sha.k", "voussoir/voussoirref01.first", "voussoir/voussoirref01.k"], apart := false, laid := [("voussoir/voussoirref01.k", laid_voussoir_voussoirref01_k), ("voussoir/voussoirref01.first", laid_voussoir_voussoirref01_first), ("voussoir/sha.k", laid_voussoir_sha_k), ("voussoir/sha.first", laid_voussoir_sha_first)], narrowed := true }
def ChannelTellsUptoSaid : Prop := channelTellsUptoRow.holds Tryd.pinned (OpenSpec.upto channelTellsSpec)

end Rows
end Go.Proofs.YtpekbnkmnellpaaDoor
