/-
  NARROWER THAN 'FOR EVERY INPUT', by the rows' own cells (each row's printed sentence says how): PrimDoes: loops, laid · PrimTakes: loops, laid · PrimRight: loops, laid · PrimCompares: loops, laid · PrimJoins: loops, laid · PrimRounds: laid.
  DERIVED. THE GIVEN ROWS OF THIS SEAT. 6 by the template 'for every input the law returns true; each argument reads behind the call as it read before'; 0 by the template 'total and deterministic' (their statements: YtacaknkfddlklaaGreatDoorTotals.lean).
  GIVEN WITH THE SEED: the statements are not yours to turn. If you find one false, say at which input.
  Laid BY PROGRAM, IN A SANDBOX (cutbox-rows.mjs): the forced cells as the released guide's own fill.sh prints them over the translation 1ba6e3f596bda0fc… (all of the seat's roots in one cut). By AI agents, Wed Nov 11 2026. No macro, syntax, notation, axiom, sorry.
-/
import Derived.Test.YtacaknkfddlklaaGreatDoorChecked
import GoSem.Claim
import GoSem.ClaimJoined
import GoSem.ClaimMapViews
import Derived.JoinedTies
import Derived.KernelRfl
namespace Go.Proofs.YtacaknkfddlklaaGreatDoor
/- THE CELL 'sum', in the pinned program and in every row, IS THE sha256 OF THE DUMP (.gsa) THAT YtacaknkfddlklaaGreatDoorProg.lean LOADS. Nothing in Lean hashes anything: it is a label: what it is worth is what the hold of that sum in a sandbox is worth. -/
noncomputable def Tryz.pinned : Pinned := { name := "ytacaknkfddlklaagreatdoor", sum := "1ba6e3f596bda0fc6e58cfc763541157084ac0c527f7efdc308a1a4804cb1783", checked := Tryz.checked }
namespace Rows
def none {H : Type} : Left H := { results := [], args := [] }

/- WHAT THE LISTED PACKAGE-LEVEL VARIABLES READ AS WHEN THE CALL BEGINS. Each datum BY PROGRAM (the guide's laid-datum.mjs) off the statement by which the dump's own 'gosem.cut.vars' lays the variable. In a bare row this is a premise. The card (YtacaknkfddlklaaGreatDoorCards.lean) ties it to the program's text. -/
def laid_scruple_code_names {H : Type} : DataW H := .agg [.lit (.string []), .lit (.string [99, 111, 110, 115, 116]), .lit (.string [103, 101, 116]), .lit (.string [115, 101, 116]), .lit (.string [112, 111, 112]), .lit (.string [106, 117, 109, 112]), .lit (.string [117, 110, 108, 101, 115, 115]), .lit (.string [116, 101, 115, 116]), .lit (.string [99, 97, 108, 108]), .lit (.string [114, 101, 116]), .lit (.string [97, 100, 100]), .lit (.string [115, 117, 98]), .lit (.string [109, 117, 108]), .lit (.string [100, 105, 118]), .lit (.string [114, 101, 109]), .lit (.string [110, 101, 103]), .lit (.string [110, 111, 116]), .lit (.string [101, 113]), .lit (.string [110, 101]), .lit (.string [108, 116]), .lit (.string [108, 101]), .lit (.string [103, 116]), .lit (.string [103, 101]), .lit (.string [97, 114, 114, 97, 121]), .lit (.string [114, 101, 99, 111, 114, 100]), .lit (.string [105, 110, 100, 101, 120]), .lit (.string [102, 105, 101, 108, 100]), .lit (.string [108, 101, 110]), .lit (.string [112, 117, 115, 104]), .lit (.string [99, 104, 97, 110, 103, 101]), .lit (.string [115, 108, 105, 99, 101]), .lit (.string [119, 105, 116, 104]), .lit (.string [119, 105, 116, 104, 111, 117, 116]), .lit (.string [107, 101, 121, 115]), .lit (.string [104, 97, 115]), .lit (.string [107, 105, 110, 100]), .lit (.string [100, 105, 103, 101, 115, 116]), .lit (.string [97, 98, 111, 114, 116]), .lit (.string [108, 111, 97, 100]), .lit (.string [115, 97, 118, 101]), .lit (.string [100, 114, 111, 112]), .lit (.string [97, 102, 116, 101, 114])]
def laid_scruple_code_numbers {H : Type} : DataW H := .agg [.agg [.lit (.int .i64 0), .lit (.int .i64 0), .lit (.int .i64 0), .lit (.int .i64 0), .lit (.int .i64 0)], .agg [.lit (.int .i64 1), .lit (.int .i64 0), .lit (.int .i64 1), .lit (.int .i64 1), .lit (.int .i64 0)], .agg [.lit (.int .i64 2), .lit (.int .i64 0), .lit (.int .i64 1), .lit (.int .i64 1), .lit (.int .i64 0)], .agg [.lit (.int .i64 2), .lit (.int .i64 1), .lit (.int .i64 0), .lit (.int .i64 1), .lit (.int .i64 0)], .agg [.lit (.int .i64 0), .lit (.int .i64 1), .lit (.int .i64 0), .lit (.int .i64 1), .lit (.int .i64 0)], .agg [.lit (.int .i64 3), .lit (.int .i64 0), .lit (.int .i64 0), .lit (.int .i64 1), .lit (.int .i64 0)], .agg [.lit (.int .i64 3), .lit (.int .i64 1), .lit (.int .i64 0), .lit (.int .i64 2), .lit (.int .i64 0)], .agg [.lit (.int .i64 0), .lit (.int .i64 1), .lit (.int .i64 1), .lit (.int .i64 1), .lit (.int .i64 0)], .agg [.lit (.int .i64 4), .lit (.int .i64 0), .lit (.int .i64 1), .lit (.int .i64 8), .lit (.int .i64 0)], .agg [.lit (.int .i64 0), .lit (.int .i64 1), .lit (.int .i64 0), .lit (.int .i64 1), .lit (.int .i64 0)], .agg [.lit (.int .i64 0), .lit (.int .i64 2), .lit (.int .i64 1), .lit (.int .i64 2), .lit (.int .i64 1)], .agg [.lit (.int .i64 0), .lit (.int .i64 2), .lit (.int .i64 1), .lit (.int .i64 2), .lit (.int .i64 0)], .agg [.lit (.int .i64 0), .lit (.int .i64 2), .lit (.int .i64 1), .lit (.int .i64 3), .lit (.int .i64 0)], .agg [.lit (.int .i64 0), .lit (.int .i64 2), .lit (.int .i64 1), .lit (.int .i64 3), .lit (.int .i64 0)], .agg [.lit (.int .i64 0), .lit (.int .i64 2), .lit (.int .i64 1), .lit (.int .i64 3), .lit (.int .i64 0)], .agg [.lit (.int .i64 0), .lit (.int .i64 1), .lit (.int .i64 1), .lit (.int .i64 1), .lit (.int .i64 0)], .agg [.lit (.int .i64 0), .lit (.int .i64 1), .lit (.int .i64 1), .lit (.int .i64 1), .lit (.int .i64 0)], .agg [.lit (.int .i64 0), .lit (.int .i64 2), .lit (.int .i64 1), .lit (.int .i64 2), .lit (.int .i64 1)], .agg [.lit (.int .i64 0), .lit (.int .i64 2), .lit (.int .i64 1), .lit (.int .i64 2), .lit (.int .i64 1)], .agg [.lit (.int .i64 0), .lit (.int .i64 2), .lit (.int .i64 1), .lit (.int .i64 2), .lit (.int .i64 1)], .agg [.lit (.int .i64 0), .lit (.int .i64 2), .lit (.int .i64 1), .lit (.int .i64 2), .lit (.int .i64 1)], .agg [.lit (.int .i64 0), .lit (.int .i64 2), .lit (.int .i64 1), .lit (.int .i64 2), .lit (.int .i64 1)], .agg [.lit (.int .i64 0), .lit (.int .i64 2), .lit (.int .i64 1), .lit (.int .i64 2), .lit (.int .i64 1)], .agg [.lit (.int .i64 5), .lit (.int .i64 0), .lit (.int .i64 1), .lit (.int .i64 2), .lit (.int .i64 1)], .agg [.lit (.int .i64 1), .lit (.int .i64 0), .lit (.int .i64 1), .lit (.int .i64 2), .lit (.int .i64 1)], .agg [.lit (.int .i64 0), .lit (.int .i64 2), .lit (.int .i64 1), .lit (.int .i64 2), .lit (.int .i64 0)], .agg [.lit (.int .i64 1), .lit (.int .i64 1), .lit (.int .i64 1), .lit (.int .i64 2), .lit (.int .i64 0)], .agg [.lit (.int .i64 0), .lit (.int .i64 1), .lit (.int .i64 1), .lit (.int .i64 1), .lit (.int .i64 0)], .agg [.lit (.int .i64 0), .lit (.int .i64 2), .lit (.int .i64 1), .lit (.int .i64 2), .lit (.int .i64 1)], .agg [.lit (.int .i64 0), .lit (.int .i64 3), .lit (.int .i64 1), .lit (.int .i64 2), .lit (.int .i64 1)], .agg [.lit (.int .i64 0), .lit (.int .i64 3), .lit (.int .i64 1), .lit (.int .i64 2), .lit (.int .i64 1)], .agg [.lit (.int .i64 0), .lit (.int .i64 3), .lit (.int .i64 1), .lit (.int .i64 2), .lit (.int .i64 1)], .agg [.lit (.int .i64 0), .lit (.int .i64 2), .lit (.int .i64 1), .lit (.int .i64 2), .lit (.int .i64 1)], .agg [.lit (.int .i64 0), .lit (.int .i64 1), .lit (.int .i64 1), .lit (.int .i64 2), .lit (.int .i64 1)], .agg [.lit (.int .i64 0), .lit (.int .i64 2), .lit (.int .i64 1), .lit (.int .i64 2), .lit (.int .i64 0)], .agg [.lit (.int .i64 0), .lit (.int .i64 1), .lit (.int .i64 1), .lit (.int .i64 1), .lit (.int .i64 0)], .agg [.lit (.int .i64 0), .lit (.int .i64 1), .lit (.int .i64 1), .lit (.int .i64 20), .lit (.int .i64 1)], .agg [.lit (.int .i64 0), .lit (.int .i64 1), .lit (.int .i64 1), .lit (.int .i64 1), .lit (.int .i64 0)], .agg [.lit (.int .i64 0), .lit (.int .i64 1), .lit (.int .i64 1), .lit (.int .i64 10), .lit (.int .i64 1)], .agg [.lit (.int .i64 0), .lit (.int .i64 2), .lit (.int .i64 1), .lit (.int .i64 20), .lit (.int .i64 2)], .agg [.lit (.int .i64 0), .lit (.int .i64 1), .lit (.int .i64 1), .lit (.int .i64 10), .lit (.int .i64 1)], .agg [.lit (.int .i64 0), .lit (.int .i64 1), .lit (.int .i64 1), .lit (.int .i64 10), .lit (.int .i64 1)]]
def laid_scruple_hash_rounds {H : Type} : DataW H := .agg [.lit (.int .u32 1116352408), .lit (.int .u32 1899447441), .lit (.int .u32 3049323471), .lit (.int .u32 3921009573), .lit (.int .u32 961987163), .lit (.int .u32 1508970993), .lit (.int .u32 2453635748), .lit (.int .u32 2870763221), .lit (.int .u32 3624381080), .lit (.int .u32 310598401), .lit (.int .u32 607225278), .lit (.int .u32 1426881987), .lit (.int .u32 1925078388), .lit (.int .u32 2162078206), .lit (.int .u32 2614888103), .lit (.int .u32 3248222580), .lit (.int .u32 3835390401), .lit (.int .u32 4022224774), .lit (.int .u32 264347078), .lit (.int .u32 604807628), .lit (.int .u32 770255983), .lit (.int .u32 1249150122), .lit (.int .u32 1555081692), .lit (.int .u32 1996064986), .lit (.int .u32 2554220882), .lit (.int .u32 2821834349), .lit (.int .u32 2952996808), .lit (.int .u32 3210313671), .lit (.int .u32 3336571891), .lit (.int .u32 3584528711), .lit (.int .u32 113926993), .lit (.int .u32 338241895), .lit (.int .u32 666307205), .lit (.int .u32 773529912), .lit (.int .u32 1294757372), .lit (.int .u32 1396182291), .lit (.int .u32 1695183700), .lit (.int .u32 1986661051), .lit (.int .u32 2177026350), .lit (.int .u32 2456956037), .lit (.int .u32 2730485921), .lit (.int .u32 2820302411), .lit (.int .u32 3259730800), .lit (.int .u32 3345764771), .lit (.int .u32 3516065817), .lit (.int .u32 3600352804), .lit (.int .u32 4094571909), .lit (.int .u32 275423344), .lit (.int .u32 430227734), .lit (.int .u32 506948616), .lit (.int .u32 659060556), .lit (.int .u32 883997877), .lit (.int .u32 958139571), .lit (.int .u32 1322822218), .lit (.int .u32 1537002063), .lit (.int .u32 1747873779), .lit (.int .u32 1955562222), .lit (.int .u32 2024104815), .lit (.int .u32 2227730452), .lit (.int .u32 2361852424), .lit (.int .u32 2428436474), .lit (.int .u32 2756734187), .lit (.int .u32 3204031479), .lit (.int .u32 3329325298)]

/-- 'scruplelaw13.PrimDoes': WHATEVER THE INPUT: true; the input reads as it did. -/
def primDoesSpec : ChangeSpec := { name := "primDoes", fn := fun _ => fun
  | [d1, d2, d3] => { results := [.lit (.bool true)], args := [d1, d2, d3] }
  | _ => none }
def primDoesRow : OpenClaim := { program := "ytacaknkfddlklaagreatdoor", sum := "1ba6e3f596bda0fc6e58cfc763541157084ac0c527f7efdc308a1a4804cb1783", func := "scruple/scruplelaw13.PrimDoes", spec := "primDoes", inPlace := ["internal/bytealg.abigen_runtime_cmpstring", "slices.overlaps[string]", "slices.overlaps[scruple/api.Value]"], unfollowed := true, recurses := true, named := ["scruple/code.numbers", "scruple/code.names", "scruple/hash.rounds"], loops := true, apart := false, laid := [("scruple/code.names", laid_scruple_code_names), ("scruple/code.numbers", laid_scruple_code_numbers), ("scruple/hash.rounds", laid_scruple_hash_rounds)] }
def PrimDoesSaid : Prop := primDoesRow.holds Tryz.pinned (OpenSpec.ofChange primDoesSpec)

/-- ITS FALSE NEIGHBOUR: 'it returns false'. Refute it at one input. -/
def primDoesWrong : ChangeSpec := { name := "primDoes", fn := fun _ => fun
  | [d1, d2, d3] => { results := [.lit (.bool false)], args := [d1, d2, d3] }
  | _ => none }
def PrimDoesWrongFalsely : Prop := primDoesRow.holds Tryz.pinned (OpenSpec.ofChange primDoesWrong)

/-- 'scruplelaw13.PrimTakes': WHATEVER THE INPUT: true; the input reads as it did. -/
def primTakesSpec : ChangeSpec := { name := "primTakes", fn := fun _ => fun
  | [d1, d2, d3] => { results := [.lit (.bool true)], args := [d1, d2, d3] }
  | _ => none }
def primTakesRow : OpenClaim := { program := "ytacaknkfddlklaagreatdoor", sum := "1ba6e3f596bda0fc6e58cfc763541157084ac0c527f7efdc308a1a4804cb1783", func := "scruple/scruplelaw13.PrimTakes", spec := "primTakes", inPlace := ["internal/bytealg.abigen_runtime_cmpstring", "slices.overlaps[string]", "slices.overlaps[scruple/api.Value]"], unfollowed := true, recurses := true, named := ["scruple/code.numbers", "scruple/code.names", "scruple/hash.rounds"], loops := true, apart := false, laid := [("scruple/code.names", laid_scruple_code_names), ("scruple/code.numbers", laid_scruple_code_numbers), ("scruple/hash.rounds", laid_scruple_hash_rounds)] }
def PrimTakesSaid : Prop := primTakesRow.holds Tryz.pinned (OpenSpec.ofChange primTakesSpec)

/-- ITS FALSE NEIGHBOUR: 'it returns false'. Refute it at one input. -/
def primTakesWrong : ChangeSpec := { name := "primTakes", fn := fun _ => fun
  | [d1, d2, d3] => { results := [.lit (.bool false)], args := [d1, d2, d3] }
  | _ => none }
def PrimTakesWrongFalsely : Prop := primTakesRow.holds Tryz.pinned (OpenSpec.ofChange primTakesWrong)

/-- 'scruplelaw13.PrimRight': WHATEVER THE INPUT: true; the input reads as it did. -/
def primRightSpec : ChangeSpec := { name := "primRight", fn := fun _ => fun
  | [d1, d2, d3] => { results := [.lit (.bool true)], args := [d1, d2, d3] }
  | _ => none }
def primRightRow : OpenClaim := { program := "ytacaknkfddlklaagreatdoor", sum := "1ba6e3f596bda0fc6e58cfc763541157084ac0c527f7efdc308a1a4804cb1783", func := "scruple/scruplelaw13.PrimRight", spec := "primRight", inPlace := ["internal/bytealg.abigen_runtime_cmpstring", "slices.overlaps[string]", "slices.overlaps[scruple/api.Value]"], unfollowed := true, recurses := true, named := ["scruple/code.numbers", "scruple/code.names", "scruple/hash.rounds"], loops := true, apart := false, laid := [("scruple/code.names", laid_scruple_code_names), ("scruple/code.numbers", laid_scruple_code_numbers), ("scruple/hash.rounds", laid_scruple_hash_rounds)] }
def PrimRightSaid : Prop := primRightRow.holds Tryz.pinned (OpenSpec.ofChange primRightSpec)

/-- ITS FALSE NEIGHBOUR: 'it returns false'. Refute it at one input. -/
def primRightWrong : ChangeSpec := { name := "primRight", fn := fun _ => fun
  | [d1, d2, d3] => { results := [.lit (.bool false)], args := [d1, d2, d3] }
  | _ => none }
def PrimRightWrongFalsely : Prop := primRightRow.holds Tryz.pinned (OpenSpec.ofChange primRightWrong)

/-- 'scruplelaw13.PrimCompares': WHATEVER THE INPUT: true; the input reads as it did. -/
def primComparesSpec : ChangeSpec := { name := "primCompares", fn := fun _ => fun
  | [d1, d2] => { results := [.lit (.bool true)], args := [d1, d2] }
  | _ => none }
def primComparesRow : OpenClaim := { program := "ytacaknkfddlklaagreatdoor", sum := "1ba6e3f596bda0fc6e58cfc763541157084ac0c527f7efdc308a1a4804cb1783", func := "scruple/scruplelaw13.PrimCompares", spec := "primCompares", inPlace := ["internal/bytealg.abigen_runtime_cmpstring", "slices.overlaps[string]", "slices.overlaps[scruple/api.Value]"], unfollowed := true, recurses := true, named := ["scruple/code.numbers", "scruple/code.names", "scruple/hash.rounds"], loops := true, apart := false, laid := [("scruple/code.names", laid_scruple_code_names), ("scruple/code.numbers", laid_scruple_code_numbers), ("scruple/hash.rounds", laid_scruple_hash_rounds)] }
def PrimComparesSaid : Prop := primComparesRow.holds Tryz.pinned (OpenSpec.ofChange primComparesSpec)

/-- ITS FALSE NEIGHBOUR: 'it returns false'. Refute it at one input. -/
def primComparesWrong : ChangeSpec := { name := "primCompares", fn := fun _ => fun
  | [d1, d2] => { results := [.lit (.bool false)], args := [d1, d2] }
  | _ => none }
def PrimComparesWrongFalsely : Prop := primComparesRow.holds Tryz.pinned (OpenSpec.ofChange primComparesWrong)

/-- 'scruplelaw13.PrimJoins': WHATEVER THE INPUT: true; the input reads as it did. -/
def primJoinsSpec : ChangeSpec := { name := "primJoins", fn := fun _ => fun
  | [d1, d2] => { results := [.lit (.bool true)], args := [d1, d2] }
  | _ => none }
def primJoinsRow : OpenClaim := { program := "ytacaknkfddlklaagreatdoor", sum := "1ba6e3f596bda0fc6e58cfc763541157084ac0c527f7efdc308a1a4804cb1783", func := "scruple/scruplelaw13.PrimJoins", spec := "primJoins", inPlace := ["internal/bytealg.abigen_runtime_cmpstring", "slices.overlaps[string]", "slices.overlaps[scruple/api.Value]"], unfollowed := true, recurses := true, named := ["scruple/code.numbers", "scruple/code.names", "scruple/hash.rounds"], loops := true, apart := false, laid := [("scruple/code.names", laid_scruple_code_names), ("scruple/code.numbers", laid_scruple_code_numbers), ("scruple/hash.rounds", laid_scruple_hash_rounds)] }
def PrimJoinsSaid : Prop := primJoinsRow.holds Tryz.pinned (OpenSpec.ofChange primJoinsSpec)

/-- ITS FALSE NEIGHBOUR: 'it returns false'. Refute it at one input. -/
def primJoinsWrong : ChangeSpec := { name := "primJoins", fn := fun _ => fun
  | [d1, d2] => { results := [.lit (.bool false)], args := [d1, d2] }
  | _ => none }
def PrimJoinsWrongFalsely : Prop := primJoinsRow.holds Tryz.pinned (OpenSpec.ofChange primJoinsWrong)

/-- 'scruplelaw13.PrimRounds': WHATEVER THE INPUT: true; the input reads as it did. -/
def primRoundsSpec : ChangeSpec := { name := "primRounds", fn := fun _ => fun
  | [d1, d2] => { results := [.lit (.bool true)], args := [d1, d2] }
  | _ => none }
def primRoundsRow : OpenClaim := { program := "ytacaknkfddlklaagreatdoor", sum := "1ba6e3f596bda0fc6e58cfc763541157084ac0c527f7efdc308a1a4804cb1783", func := "scruple/scruplelaw13.PrimRounds", spec := "primRounds", inPlace := ["internal/bytealg.abigen_runtime_cmpstring", "slices.overlaps[string]", "slices.overlaps[scruple/api.Value]"], unfollowed := true, recurses := true, named := ["scruple/code.numbers", "scruple/code.names", "scruple/hash.rounds"], apart := false, laid := [("scruple/code.names", laid_scruple_code_names), ("scruple/code.numbers", laid_scruple_code_numbers), ("scruple/hash.rounds", laid_scruple_hash_rounds)] }
def PrimRoundsSaid : Prop := primRoundsRow.holds Tryz.pinned (OpenSpec.ofChange primRoundsSpec)

/-- ITS FALSE NEIGHBOUR: 'it returns false'. Refute it at one input. -/
def primRoundsWrong : ChangeSpec := { name := "primRounds", fn := fun _ => fun
  | [d1, d2] => { results := [.lit (.bool false)], args := [d1, d2] }
  | _ => none }
def PrimRoundsWrongFalsely : Prop := primRoundsRow.holds Tryz.pinned (OpenSpec.ofChange primRoundsWrong)

/- THE SECOND FORM. 'bulk': how many values and letters a reading holds, each counted each time it is reached (what is shared counts as often as it is met; a slice's spare places count too). A statement '..UptoSaid' is the law's where the arguments, and the package variables that the reading takes, are together of bulk at most 1048576: NARROWER than '..Said'. Prove '..Said' where nothing that the law and all that it calls make is longer than what came in: it says more and counts as full. Else prove '..UptoSaid'. A law counts once. -/
mutual
def uptoBulk {H : Type} : DataW H → Nat
  | .lit (.string bytes) => bytes.length + 1
  | .lit _ => 1
  | .nil => 1
  | .ptr d => uptoBulk d + 1
  | .slice elems spare => uptoBulkAll elems + uptoBulkAll spare + 1
  | .agg parts => uptoBulkAll parts + 1
  | .iface _ d => uptoBulk d + 1
  | .map entries => uptoBulkEntries entries + 1
  | .held _ => 1
def uptoBulkAll {H : Type} : List (DataW H) → Nat
  | [] => 0
  | d :: r => uptoBulk d + uptoBulkAll r
def uptoBulkEntries {H : Type} : List (Lit × DataW H) → Nat
  | [] => 0
  | x :: r => uptoBulkEntry x + uptoBulkEntries r
def uptoBulkEntry {H : Type} : Lit × DataW H → Nat
  | (.string bytes, d) => bytes.length + uptoBulk d + 1
  | (_, d) => uptoBulk d + 1
 end
def uptoSmall : (H : Type) → List (DataW H) → Bool := fun _ ds => decide (uptoBulkAll ds ≤ 1048576)
def OpenSpec.upto (s : _root_.Go.ChangeSpec) : _root_.Go.OpenSpec := { _root_.Go.OpenSpec.ofChange s with cond := some uptoSmall }

/-- 'scruplelaw13.PrimDoes', WHERE WHAT IT READS IS OF BULK AT MOST 1048576: true; the input reads as it did. -/
def primDoesUptoRow : OpenClaim := { program := "ytacaknkfddlklaagreatdoor", sum := "1ba6e3f596bda0fc6e58cfc763541157084ac0c527f7efdc308a1a4804cb1783", func := "scruple/scruplelaw13.PrimDoes", spec := "primDoes", inPlace := ["internal/bytealg.abigen_runtime_cmpstring", "slices.overlaps[string]", "slices.overlaps[scruple/api.Value]"], unfollowed := true, recurses := true, named := ["scruple/code.numbers", "scruple/code.names", "scruple/hash.rounds"], loops := true, apart := false, laid := [("scruple/code.names", laid_scruple_code_names), ("scruple/code.numbers", laid_scruple_code_numbers), ("scruple/hash.rounds", laid_scruple_hash_rounds)], narrowed := true }
def PrimDoesUptoSaid : Prop := primDoesUptoRow.holds Tryz.pinned (OpenSpec.upto primDoesSpec)

/-- 'scruplelaw13.PrimTakes', WHERE WHAT IT READS IS OF BULK AT MOST 1048576: true; the input reads as it did. -/
def primTakesUptoRow : OpenClaim := { program := "ytacaknkfddlklaagreatdoor", sum := "1ba6e3f596bda0fc6e58cfc763541157084ac0c527f7efdc308a1a4804cb1783", func := "scruple/scruplelaw13.PrimTakes", spec := "primTakes", inPlace := ["internal/bytealg.abigen_runtime_cmpstring", "slices.overlaps[string]", "slices.overlaps[scruple/api.Value]"], unfollowed := true, recurses := true, named := ["scruple/code.numbers", "scruple/code.names", "scruple/hash.rounds"], loops := true, apart := false, laid := [("scruple/code.names", laid_scruple_code_names), ("scruple/code.numbers", laid_scruple_code_numbers), ("scruple/hash.rounds", laid_scruple_hash_rounds)], narrowed := true }
def PrimTakesUptoSaid : Prop := primTakesUptoRow.holds Tryz.pinned (OpenSpec.upto primTakesSpec)

/-- 'scruplelaw13.PrimRight', WHERE WHAT IT READS IS OF BULK AT MOST 1048576: true; the input reads as it did. -/
def primRightUptoRow : OpenClaim := { program := "ytacaknkfddlklaagreatdoor", sum := "1ba6e3f596bda0fc6e58cfc763541157084ac0c527f7efdc308a1a4804cb1783", func := "scruple/scruplelaw13.PrimRight", spec := "primRight", inPlace := ["internal/bytealg.abigen_runtime_cmpstring", "slices.overlaps[string]", "slices.overlaps[scruple/api.Value]"], unfollowed := true, recurses := true, named := ["scruple/code.numbers", "scruple/code.names", "scruple/hash.rounds"], loops := true, apart := false, laid := [("scruple/code.names", laid_scruple_code_names), ("scruple/code.numbers", laid_scruple_code_numbers), ("scruple/hash.rounds", laid_scruple_hash_rounds)], narrowed := true }
def PrimRightUptoSaid : Prop := primRightUptoRow.holds Tryz.pinned (OpenSpec.upto primRightSpec)

/-- 'scruplelaw13.PrimCompares', WHERE WHAT IT READS IS OF BULK AT MOST 1048576: true; the input reads as it did. -/
def primComparesUptoRow : OpenClaim := { program := "ytacaknkfddlklaagreatdoor", sum := "1ba6e3f596bda0fc6e58cfc763541157084ac0c527f7efdc308a1a4804cb1783", func := "scruple/scruplelaw13.PrimCompares", spec := "primCompares", inPlace := ["internal/bytealg.abigen_runtime_cmpstring", "slices.overlaps[string]", "slices.overlaps[scruple/api.Value]"], unfollowed := true, recurses := true, named := ["scruple/code.numbers", "scruple/code.names", "scruple/hash.rounds"], loops := true, apart := false, laid := [("scruple/code.names", laid_scruple_code_names), ("scruple/code.numbers", laid_scruple_code_numbers), ("scruple/hash.rounds", laid_scruple_hash_rounds)], narrowed := true }
def PrimComparesUptoSaid : Prop := primComparesUptoRow.holds Tryz.pinned (OpenSpec.upto primComparesSpec)

/-- 'scruplelaw13.PrimJoins', WHERE WHAT IT READS IS OF BULK AT MOST 1048576: true; the input reads as it did. -/
def primJoinsUptoRow : OpenClaim := { program := "ytacaknkfddlklaagreatdoor", sum := "1ba6e3f596bda0fc6e58cfc763541157084ac0c527f7efdc308a1a4804cb1783", func := "scruple/scruplelaw13.PrimJoins", spec := "primJoins", inPlace := ["internal/bytealg.abigen_runtime_cmpstring", "slices.overlaps[string]", "slices.overlaps[scruple/api.Value]"], unfollowed := true, recurses := true, named := ["scruple/code.numbers", "scruple/code.names", "scruple/hash.rounds"], loops := true, apart := false, laid := [("scruple/code.names", laid_scruple_code_names), ("scruple/code.numbers", laid_scruple_code_numbers), ("scruple/hash.rounds", laid_scruple_hash_rounds)], narrowed := true }
def PrimJoinsUptoSaid : Prop := primJoinsUptoRow.holds Tryz.pinned (OpenSpec.upto primJoinsSpec)

/-- 'scruplelaw13.PrimRounds', WHERE WHAT IT READS IS OF BULK AT MOST 1048576: true; the input reads as it did. -/
def primRoundsUptoRow : OpenClaim := { program := "ytacaknkfddlklaagreatdoor", sum := "1ba6e3f596bda0fc6e58cfc763541157084ac0c527f7efdc308a1a4804cb1783", func := "scruple/scruplelaw13.PrimRounds", spec := "primRounds", inPlace := ["internal/bytealg.abigen_runtime_cmpstring", "slices.overlaps[string]", "slices.overlaps[scruple/api.Value]"], unfollowed := true, recurses := true, named := ["scruple/code.numbers", "scruple/code.names", "scruple/hash.rounds"], apart := false, laid := [("scruple/code.names", laid_scruple_code_names), ("scruple/code.numbers", laid_scruple_code_numbers), ("scruple/hash.rounds", laid_scruple_hash_rounds)], narrowed := true }
def PrimRoundsUptoSaid : Prop := primRoundsUptoRow.holds Tryz.pinned (OpenSpec.upto primRoundsSpec)

end Rows
end Go.Proofs.YtacaknkfddlklaaGreatDoor
