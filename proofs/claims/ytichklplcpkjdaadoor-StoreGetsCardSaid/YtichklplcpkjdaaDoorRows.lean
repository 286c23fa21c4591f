/-
  NARROWER THAN 'FOR EVERY INPUT', by the rows' own cells (each row's printed sentence says how): StoreKeeps: laid · StoreDiscards: laid · StoreStill: laid · StoreGets: laid.
  DERIVED. THE GIVEN ROWS OF THIS SEAT. 4 by the template 'for every input the law returns true; each argument reads behind the call as it read before'; 0 by the template 'total and deterministic' (their statements: YtichklplcpkjdaaDoorTotals.lean).
  GIVEN WITH THE SEED: the statements are not yours to turn. If you find one false, say at which input.
  Laid BY PROGRAM, IN A SANDBOX (cutbox-rows.mjs): the forced cells as the released guide's own fill.sh prints them over the translation 0d13c2a288d03f19… (all of the seat's roots in one cut). By AI agents, Wed Nov 11 2026. No macro, syntax, notation, axiom, sorry.
-/
import Derived.Test.YtichklplcpkjdaaDoorChecked
import GoSem.Claim
import GoSem.ClaimJoined
import GoSem.ClaimMapViews
import Derived.JoinedTies
import Derived.KernelRfl
namespace Go.Proofs.YtichklplcpkjdaaDoor
/- THE CELL 'sum', in the pinned program and in every row, IS THE sha256 OF THE DUMP (.gsa) THAT YtichklplcpkjdaaDoorProg.lean LOADS. Nothing in Lean hashes anything: it is a label: what it is worth is what the hold of that sum in a sandbox is worth. -/
noncomputable def Tryd.pinned : Pinned := { name := "ytichklplcpkjdaadoor", sum := "0d13c2a288d03f19f99e6e3cc22c582da6ae31c627f92cd897c3ee16a477aefe", checked := Tryd.checked }
namespace Rows
def none {H : Type} : Left H := { results := [], args := [] }

/- WHAT THE LISTED PACKAGE-LEVEL VARIABLES READ AS WHEN THE CALL BEGINS. Each datum BY PROGRAM (the guide's laid-datum.mjs) off the statement by which the dump's own 'gosem.cut.vars' lays the variable. In a bare row this is a premise. The card (YtichklplcpkjdaaDoorCards.lean) ties it to the program's text. -/
def laid_voussoir_path_forms {H : Type} : DataW H := .agg [.agg [.lit (.string []), .lit (.string []), .lit (.bool false)], .agg [.lit (.string [99, 108, 105, 101, 110, 116, 115, 47]), .lit (.string [47, 99, 108, 105, 101, 110, 116, 83, 116, 97, 116, 101]), .lit (.bool false)], .agg [.lit (.string [99, 108, 105, 101, 110, 116, 115, 47]), .lit (.string [47, 99, 111, 110, 115, 101, 110, 115, 117, 115, 83, 116, 97, 116, 101, 115, 47]), .lit (.bool true)], .agg [.lit (.string [99, 111, 110, 110, 101, 99, 116, 105, 111, 110, 115, 47]), .lit (.string []), .lit (.bool false)], .agg [.lit (.string [99, 104, 97, 110, 110, 101, 108, 69, 110, 100, 115, 47, 99, 104, 97, 110, 110, 101, 108, 115, 47]), .lit (.string []), .lit (.bool false)], .agg [.lit (.string [99, 111, 109, 109, 105, 116, 109, 101, 110, 116, 115, 47, 99, 104, 97, 110, 110, 101, 108, 115, 47]), .lit (.string [47, 115, 101, 113, 117, 101, 110, 99, 101, 115, 47]), .lit (.bool true)], .agg [.lit (.string [114, 101, 99, 101, 105, 112, 116, 115, 47, 99, 104, 97, 110, 110, 101, 108, 115, 47]), .lit (.string [47, 115, 101, 113, 117, 101, 110, 99, 101, 115, 47]), .lit (.bool true)], .agg [.lit (.string [97, 99, 107, 115, 47, 99, 104, 97, 110, 110, 101, 108, 115, 47]), .lit (.string [47, 115, 101, 113, 117, 101, 110, 99, 101, 115, 47]), .lit (.bool true)], .agg [.lit (.string [110, 101, 120, 116, 83, 101, 113, 117, 101, 110, 99, 101, 82, 101, 99, 118, 47, 99, 104, 97, 110, 110, 101, 108, 115, 47]), .lit (.string []), .lit (.bool false)]]
def laid_voussoir_sha_k {H : Type} : DataW H := .agg [.lit (.int .u32 1116352408), .lit (.int .u32 1899447441), .lit (.int .u32 3049323471), .lit (.int .u32 3921009573), .lit (.int .u32 961987163), .lit (.int .u32 1508970993), .lit (.int .u32 2453635748), .lit (.int .u32 2870763221), .lit (.int .u32 3624381080), .lit (.int .u32 310598401), .lit (.int .u32 607225278), .lit (.int .u32 1426881987), .lit (.int .u32 1925078388), .lit (.int .u32 2162078206), .lit (.int .u32 2614888103), .lit (.int .u32 3248222580), .lit (.int .u32 3835390401), .lit (.int .u32 4022224774), .lit (.int .u32 264347078), .lit (.int .u32 604807628), .lit (.int .u32 770255983), .lit (.int .u32 1249150122), .lit (.int .u32 1555081692), .lit (.int .u32 1996064986), .lit (.int .u32 2554220882), .lit (.int .u32 2821834349), .lit (.int .u32 2952996808), .lit (.int .u32 3210313671), .lit (.int .u32 3336571891), .lit (.int .u32 3584528711), .lit (.int .u32 113926993), .lit (.int .u32 338241895), .lit (.int .u32 666307205), .lit (.int .u32 773529912), .lit (.int .u32 1294757372), .lit (.int .u32 1396182291), .lit (.int .u32 1695183700), .lit (.int .u32 1986661051), .lit (.int .u32 2177026350), .lit (.int .u32 2456956037), .lit (.int .u32 2730485921), .lit (.int .u32 2820302411), .lit (.int .u32 3259730800), .lit (.int .u32 3345764771), .lit (.int .u32 3516065817), .lit (.int .u32 3600352804), .lit (.int .u32 4094571909), .lit (.int .u32 275423344), .lit (.int .u32 430227734), .lit (.int .u32 506948616), .lit (.int .u32 659060556), .lit (.int .u32 883997877), .lit (.int .u32 958139571), .lit (.int .u32 1322822218), .lit (.int .u32 1537002063), .lit (.int .u32 1747873779), .lit (.int .u32 1955562222), .lit (.int .u32 2024104815), .lit (.int .u32 2227730452), .lit (.int .u32 2361852424), .lit (.int .u32 2428436474), .lit (.int .u32 2756734187), .lit (.int .u32 3204031479), .lit (.int .u32 3329325298)]
def laid_voussoir_sha_first {H : Type} : DataW H := .agg [.lit (.int .u32 1779033703), .lit (.int .u32 3144134277), .lit (.int .u32 1013904242), .lit (.int .u32 2773480762), .lit (.int .u32 1359893119), .lit (.int .u32 2600822924), .lit (.int .u32 528734635), .lit (.int .u32 1541459225)]

/-- 'voussoirlaw09.StoreKeeps': WHATEVER THE INPUT: true; the input reads as it did. -/
def storeKeepsSpec : ChangeSpec := { name := "storeKeeps", fn := fun _ => fun
  | [d1, d2, d3] => { results := [.lit (.bool true)], args := [d1, d2, d3] }
  | _ => none }
def storeKeepsRow : OpenClaim := { program := "ytichklplcpkjdaadoor", sum := "0d13c2a288d03f19f99e6e3cc22c582da6ae31c627f92cd897c3ee16a477aefe", func := "voussoir/voussoirlaw09.StoreKeeps", spec := "storeKeeps", inPlace := ["internal/abi.NoEscape", "internal/bytealg.Compare"], unfollowed := true, recurses := true, named := ["voussoir/path.forms", "voussoir/sha.first", "voussoir/sha.k"], plainKeys := false, apart := false, laid := [("voussoir/path.forms", laid_voussoir_path_forms), ("voussoir/sha.k", laid_voussoir_sha_k), ("voussoir/sha.first", laid_voussoir_sha_first)] }
def StoreKeepsSaid : Prop := storeKeepsRow.holds Tryd.pinned (OpenSpec.ofChange storeKeepsSpec)

/-- ITS FALSE NEIGHBOUR: 'it returns false'. Refute it at one input. -/
def storeKeepsWrong : ChangeSpec := { name := "storeKeeps", fn := fun _ => fun
  | [d1, d2, d3] => { results := [.lit (.bool false)], args := [d1, d2, d3] }
  | _ => none }
def StoreKeepsWrongFalsely : Prop := storeKeepsRow.holds Tryd.pinned (OpenSpec.ofChange storeKeepsWrong)

/-- 'voussoirlaw09.StoreDiscards': WHATEVER THE INPUT: true; the input reads as it did. -/
def storeDiscardsSpec : ChangeSpec := { name := "storeDiscards", fn := fun _ => fun
  | [d1, d2, d3] => { results := [.lit (.bool true)], args := [d1, d2, d3] }
  | _ => none }
def storeDiscardsRow : OpenClaim := { program := "ytichklplcpkjdaadoor", sum := "0d13c2a288d03f19f99e6e3cc22c582da6ae31c627f92cd897c3ee16a477aefe", func := "voussoir/voussoirlaw09.StoreDiscards", spec := "storeDiscards", inPlace := ["internal/abi.NoEscape", "internal/bytealg.Compare"], unfollowed := true, recurses := true, named := ["voussoir/path.forms", "voussoir/sha.first", "voussoir/sha.k"], plainKeys := false, apart := false, laid := [("voussoir/path.forms", laid_voussoir_path_forms), ("voussoir/sha.k", laid_voussoir_sha_k), ("voussoir/sha.first", laid_voussoir_sha_first)] }
def StoreDiscardsSaid : Prop := storeDiscardsRow.holds Tryd.pinned (OpenSpec.ofChange storeDiscardsSpec)

/-- ITS FALSE NEIGHBOUR: 'it returns false'. Refute it at one input. -/
def storeDiscardsWrong : ChangeSpec := { name := "storeDiscards", fn := fun _ => fun
  | [d1, d2, d3] => { results := [.lit (.bool false)], args := [d1, d2, d3] }
  | _ => none }
def StoreDiscardsWrongFalsely : Prop := storeDiscardsRow.holds Tryd.pinned (OpenSpec.ofChange storeDiscardsWrong)

/-- 'voussoirlaw09.StoreStill': WHATEVER THE INPUT: true; the input reads as it did. -/
def storeStillSpec : ChangeSpec := { name := "storeStill", fn := fun _ => fun
  | [d1, d2] => { results := [.lit (.bool true)], args := [d1, d2] }
  | _ => none }
def storeStillRow : OpenClaim := { program := "ytichklplcpkjdaadoor", sum := "0d13c2a288d03f19f99e6e3cc22c582da6ae31c627f92cd897c3ee16a477aefe", func := "voussoir/voussoirlaw09.StoreStill", spec := "storeStill", inPlace := ["internal/abi.NoEscape", "internal/bytealg.Compare"], unfollowed := true, recurses := true, named := ["voussoir/path.forms", "voussoir/sha.first", "voussoir/sha.k"], plainKeys := false, apart := false, laid := [("voussoir/path.forms", laid_voussoir_path_forms), ("voussoir/sha.k", laid_voussoir_sha_k), ("voussoir/sha.first", laid_voussoir_sha_first)] }
def StoreStillSaid : Prop := storeStillRow.holds Tryd.pinned (OpenSpec.ofChange storeStillSpec)

/-- ITS FALSE NEIGHBOUR: 'it returns false'. Refute it at one input. -/
def storeStillWrong : ChangeSpec := { name := "storeStill", fn := fun _ => fun
  | [d1, d2] => { results := [.lit (.bool false)], args := [d1, d2] }
  | _ => none }
def StoreStillWrongFalsely : Prop := storeStillRow.holds Tryd.pinned (OpenSpec.ofChange storeStillWrong)

/-- 'voussoirlaw09.StoreGets': WHATEVER THE INPUT: true; the input reads as it did. -/
def storeGetsSpec : ChangeSpec := { name := "storeGets", fn := fun _ => fun
  | [d1, d2, d3, d4, d5] => { results := [.lit (.bool true)], args := [d1, d2, d3, d4, d5] }
  | _ => none }
def storeGetsRow : OpenClaim := { program := "ytichklplcpkjdaadoor", sum := "0d13c2a288d03f19f99e6e3cc22c582da6ae31c627f92cd897c3ee16a477aefe", func := "voussoir/voussoirlaw09.StoreGets", spec := "storeGets", inPlace := ["internal/abi.NoEscape", "internal/bytealg.Compare"], unfollowed := true, recurses := true, named := ["voussoir/path.forms", "voussoir/sha.first", "voussoir/sha.k"], plainKeys := false, apart := false, laid := [("voussoir/path.forms", laid_voussoir_path_forms), ("voussoir/sha.k", laid_voussoir_sha_k), ("voussoir/sha.first", laid_voussoir_sha_first)] }
def StoreGetsSaid : Prop := storeGetsRow.holds Tryd.pinned (OpenSpec.ofChange storeGetsSpec)

/-- ITS FALSE NEIGHBOUR: 'it returns false'. Refute it at one input. -/
def storeGetsWrong : ChangeSpec := { name := "storeGets", fn := fun _ => fun
  | [d1, d2, d3, d4, d5] => { results := [.lit (.bool false)], args := [d1, d2, d3, d4, d5] }
  | _ => none }
def StoreGetsWrongFalsely : Prop := storeGetsRow.holds Tryd.pinned (OpenSpec.ofChange storeGetsWrong)

/- THE SECOND FORM. 'bulk': how many values and letters a reading holds, each counted each time it is reached (what is shared counts as often as it is met; a slice's spare places count too). A statement '..UptoSaid' is the law's where the arguments, and the package variables that the reading takes, are together of bulk at most 1048576: NARROWER than '..Said'. Prove '..Said' where nothing that the law and all that it calls make is longer than what came in: it says more and counts as full. Else prove '..UptoSaid'. A law counts once. -/
mutual
def uptoBulk {H : Type} : DataW H → Nat
  | .lit (.string bytes) => bytes.length + 1
  | .lit _ => 1
  | .nil => 1
  | .ptr d => uptoBulk d + 1
  | .slice elems spare => uptoBulkAll elems + uptoBulkAll spare + 1
  | .agg parts => uptoBulkAll parts + 1
  | .iface _ d => uptoBulk d + 1
  | .map entries => uptoBulkEntries entries + 1
  | .held _ => 1
def uptoBulkAll {H : Type} : List (DataW H) → Nat
  | [] => 0
  | d :: r => uptoBulk d + uptoBulkAll r
def uptoBulkEntries {H : Type} : List (Lit × DataW H) → Nat
  | [] => 0
  | x :: r => uptoBulkEntry x + uptoBulkEntries r
def uptoBulkEntry {H : Type} : Lit × DataW H → Nat
  | (.string bytes, d) => bytes.length + uptoBulk d + 1
  | (_, d) => uptoBulk d + 1
 end
def uptoSmall : (H : Type) → List (DataW H) → Bool := fun _ ds => decide (uptoBulkAll ds ≤ 1048576)
def OpenSpec.upto (s : _root_.Go.ChangeSpec) : _root_.Go.OpenSpec := { _root_.Go.OpenSpec.ofChange s with cond := some uptoSmall }

/-- 'voussoirlaw09.StoreKeeps', WHERE WHAT IT READS IS OF BULK AT MOST 1048576: true; the input reads as it did. -/
def storeKeepsUptoRow : OpenClaim := { program := "ytichklplcpkjdaadoor", sum := "0d13c2a288d03f19f99e6e3cc22c582da6ae31c627f92cd897c3ee16a477aefe", func := "voussoir/voussoirlaw09.StoreKeeps", spec := "storeKeeps", inPlace := ["internal/abi.NoEscape", "internal/bytealg.Compare"], unfollowed := true, recurses := true, named := ["voussoir/path.forms", "voussoir/sha.first", "voussoir/sha.k"], plainKeys := false, apart := false, laid := [("voussoir/path.forms", laid_voussoir_path_forms), ("voussoir/sha.k", laid_voussoir_sha_k), ("voussoir/sha.first", laid_voussoir_sha_first)], narrowed := true }
def StoreKeepsUptoSaid : Prop := storeKeepsUptoRow.holds Tryd.pinned (OpenSpec.upto storeKeepsSpec)

/-- 'voussoirlaw09.StoreDiscards', WHERE WHAT IT READS IS OF BULK AT MOST 1048576: true; the input reads as it did. -/
def storeDiscardsUptoRow : OpenClaim := { program := "ytichklplcpkjdaadoor", sum := "0d13c2a288d03f19f99e6e3cc22c582da6ae31c627f92cd897c3ee16a477aefe", func := "voussoir/voussoirlaw09.StoreDiscards", spec := "storeDiscards", inPlace := ["internal/abi.NoEscape", "internal/bytealg.Compare"], unfollowed := true, recurses := true, named := ["voussoir/path.forms", "voussoir/sha.first", "voussoir/sha.k"], plainKeys := false, apart := false, laid := [("voussoir/path.forms", laid_voussoir_path_forms), ("voussoir/sha.k", laid_voussoir_sha_k), ("voussoir/sha.first", laid_voussoir_sha_first)], narrowed := true }
def StoreDiscardsUptoSaid : Prop := storeDiscardsUptoRow.holds Tryd.pinned (OpenSpec.upto storeDiscardsSpec)

/-- 'voussoirlaw09.StoreStill', WHERE WHAT IT READS IS OF BULK AT MOST 1048576: true; the input reads as it did. -/
def storeStillUptoRow : OpenClaim := { program := "ytichklplcpkjdaadoor", sum := "0d13c2a288d03f19f99e6e3cc22c582da6ae31c627f92cd897c3ee16a477aefe", func := "voussoir/voussoirlaw09.StoreStill", spec := "storeStill", inPlace := ["internal/abi.NoEscape", "internal/bytealg.Compare"], unfollowed := true, recurses := true, named := ["voussoir/path.forms", "voussoir/sha.first", "voussoir/sha.k"], plainKeys := false, apart := false, laid := [("voussoir/path.forms", laid_voussoir_path_forms), ("voussoir/sha.k", laid_voussoir_sha_k), ("voussoir/sha.first", laid_voussoir_sha_first)], narrowed := true }
def StoreStillUptoSaid : Prop := storeStillUptoRow.holds Tryd.pinned (OpenSpec.upto storeStillSpec)

/-- 'voussoirlaw09.StoreGets', WHERE WHAT IT READS IS OF BULK AT MOST 1048576: true; the input reads as it did. -/
def storeGetsUptoRow : OpenClaim := { program := "ytichklplcpkjdaadoor", sum := "0d13c2a288d03f19f99e6e3cc22c582da6ae31c627f92cd897c3ee16a477aefe", func := "voussoir/voussoirlaw09.StoreGets", spec := "storeGets", inPlace := ["internal/abi.NoEscape", "internal/bytealg.Compare"], unfollowed := true, recurses := true, named := ["voussoir/path.forms", "voussoir/sha.first", "voussoir/sha.k"], plainKeys := false, apart := false, laid := [("voussoir/path.forms", laid_voussoir_path_forms), ("voussoir/sha.k", laid_voussoir_sha_k), ("voussoir/sha.first", laid_voussoir_sha_first)], narrowed := true }
def StoreGetsUptoSaid : Prop := storeGetsUptoRow.holds Tryd.pinned (OpenSpec.upto storeGetsSpec)

end Rows
end Go.Proofs.YtichklplcpkjdaaDoor
