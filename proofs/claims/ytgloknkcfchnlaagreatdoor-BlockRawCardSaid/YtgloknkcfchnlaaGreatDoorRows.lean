/-
  NARROWER THAN 'FOR EVERY INPUT', by the rows' own cells (each row's printed sentence says how): BlockBack: laid · BlockState: laid · BlockValues: laid · BlockPlays: laid · BlockRaw: laid.
  DERIVED. THE GIVEN ROWS OF THIS SEAT. 5 by the template 'for every input the law returns true; each argument reads behind the call as it read before'; 0 by the template 'total and deterministic' (their statements: YtgloknkcfchnlaaGreatDoorTotals.lean).
  GIVEN WITH THE SEED: the statements are not yours to turn. If you find one false, say at which input.
  Laid BY PROGRAM, IN A SANDBOX (cutbox-rows.mjs): the forced cells as the released guide's own fill.sh prints them over the translation b1f04dd5ad20a41e… (all of the seat's roots in one cut). By AI agents, Wed Nov 11 2026. No macro, syntax, notation, axiom, sorry.
-/
import Derived.Test.YtgloknkcfchnlaaGreatDoorChecked
import GoSem.Claim
import GoSem.ClaimJoined
import GoSem.ClaimMapViews
import Derived.JoinedTies
import Derived.KernelRfl
namespace Go.Proofs.YtgloknkcfchnlaaGreatDoor
/- THE CELL 'sum', in the pinned program and in every row, IS THE sha256 OF THE DUMP (.gsa) THAT YtgloknkcfchnlaaGreatDoorProg.lean LOADS. Nothing in Lean hashes anything: it is a label: what it is worth is what the hold of that sum in a sandbox is worth. -/
noncomputable def Tryz.pinned : Pinned := { name := "ytgloknkcfchnlaagreatdoor", sum := "b1f04dd5ad20a41eef536bda20015cc1e0981e3d99e12eef6fd0f5197ea9ba6c", checked := Tryz.checked }
namespace Rows
def none {H : Type} : Left H := { results := [], args := [] }

/- WHAT THE LISTED PACKAGE-LEVEL VARIABLES READ AS WHEN THE CALL BEGINS. Each datum BY PROGRAM (the guide's laid-datum.mjs) off the statement by which the dump's own 'gosem.cut.vars' lays the variable. In a bare row this is a premise. The card (YtgloknkcfchnlaaGreatDoorCards.lean) ties it to the program's text. -/
def laid_errors_errorType {H : Type} : DataW H := .iface "internal/reflectlite.rtype" (.agg [.ptr (.lit (.string [101, 114, 114, 111, 114]))])

/-- 'kedgelaw12.BlockBack': WHATEVER THE INPUT: true; the input reads as it did. -/
def blockBackSpec : ChangeSpec := { name := "blockBack", fn := fun _ => fun
  | [d] => { results := [.lit (.bool true)], args := [d] }
  | _ => none }
def blockBackRow : OpenClaim := { program := "ytgloknkcfchnlaagreatdoor", sum := "b1f04dd5ad20a41eef536bda20015cc1e0981e3d99e12eef6fd0f5197ea9ba6c", func := "kedge/kedgelaw12.BlockBack", spec := "blockBack", inPlace := ["maps.clone", "internal/abi.NoEscape", "internal/bytealg.MakeNoZero", "internal/bytealg.abigen_runtime_cmpstring", "internal/reflectlite.TypeOf", "internal/reflectlite.ValueOf", "(internal/reflectlite.Value).Type", "(internal/reflectlite.Value).IsNil", "(internal/reflectlite.Value).Elem", "(internal/reflectlite.Value).Set"], unfollowed := true, recurses := true, named := ["errors.errorType"], plainKeys := false, apart := false, laid := [("errors.errorType", laid_errors_errorType)] }
def BlockBackSaid : Prop := blockBackRow.holds Tryz.pinned (OpenSpec.ofChange blockBackSpec)

/-- ITS FALSE NEIGHBOUR: 'it returns false'. Refute it at one input. -/
def blockBackWrong : ChangeSpec := { name := "blockBack", fn := fun _ => fun
  | [d] => { results := [.lit (.bool false)], args := [d] }
  | _ => none }
def BlockBackWrongFalsely : Prop := blockBackRow.holds Tryz.pinned (OpenSpec.ofChange blockBackWrong)

/-- 'kedgelaw12.BlockState': WHATEVER THE INPUT: true; the input reads as it did. -/
def blockStateSpec : ChangeSpec := { name := "blockState", fn := fun _ => fun
  | [d1, d2] => { results := [.lit (.bool true)], args := [d1, d2] }
  | _ => none }
def blockStateRow : OpenClaim := { program := "ytgloknkcfchnlaagreatdoor", sum := "b1f04dd5ad20a41eef536bda20015cc1e0981e3d99e12eef6fd0f5197ea9ba6c", func := "kedge/kedgelaw12.BlockState", spec := "blockState", inPlace := ["maps.clone", "internal/abi.NoEscape", "internal/bytealg.MakeNoZero", "internal/bytealg.abigen_runtime_cmpstring", "internal/reflectlite.TypeOf", "internal/reflectlite.ValueOf", "(internal/reflectlite.Value).Type", "(internal/reflectlite.Value).IsNil", "(internal/reflectlite.Value).Elem", "(internal/reflectlite.Value).Set"], unfollowed := true, recurses := true, named := ["errors.errorType"], plainKeys := false, apart := false, laid := [("errors.errorType", laid_errors_errorType)] }
def BlockStateSaid : Prop := blockStateRow.holds Tryz.pinned (OpenSpec.ofChange blockStateSpec)

/-- ITS FALSE NEIGHBOUR: 'it returns false'. Refute it at one input. -/
def blockStateWrong : ChangeSpec := { name := "blockState", fn := fun _ => fun
  | [d1, d2] => { results := [.lit (.bool false)], args := [d1, d2] }
  | _ => none }
def BlockStateWrongFalsely : Prop := blockStateRow.holds Tryz.pinned (OpenSpec.ofChange blockStateWrong)

/-- 'kedgelaw12.BlockValues': WHATEVER THE INPUT: true; the input reads as it did. -/
def blockValuesSpec : ChangeSpec := { name := "blockValues", fn := fun _ => fun
  | [d] => { results := [.lit (.bool true)], args := [d] }
  | _ => none }
def blockValuesRow : OpenClaim := { program := "ytgloknkcfchnlaagreatdoor", sum := "b1f04dd5ad20a41eef536bda20015cc1e0981e3d99e12eef6fd0f5197ea9ba6c", func := "kedge/kedgelaw12.BlockValues", spec := "blockValues", inPlace := ["maps.clone", "internal/abi.NoEscape", "internal/bytealg.MakeNoZero", "internal/bytealg.abigen_runtime_cmpstring", "internal/reflectlite.TypeOf", "internal/reflectlite.ValueOf", "(internal/reflectlite.Value).Type", "(internal/reflectlite.Value).IsNil", "(internal/reflectlite.Value).Elem", "(internal/reflectlite.Value).Set"], unfollowed := true, recurses := true, named := ["errors.errorType"], plainKeys := false, apart := false, laid := [("errors.errorType", laid_errors_errorType)] }
def BlockValuesSaid : Prop := blockValuesRow.holds Tryz.pinned (OpenSpec.ofChange blockValuesSpec)

/-- ITS FALSE NEIGHBOUR: 'it returns false'. Refute it at one input. -/
def blockValuesWrong : ChangeSpec := { name := "blockValues", fn := fun _ => fun
  | [d] => { results := [.lit (.bool false)], args := [d] }
  | _ => none }
def BlockValuesWrongFalsely : Prop := blockValuesRow.holds Tryz.pinned (OpenSpec.ofChange blockValuesWrong)

/-- 'kedgelaw12.BlockPlays': WHATEVER THE INPUT: true; the input reads as it did. -/
def blockPlaysSpec : ChangeSpec := { name := "blockPlays", fn := fun _ => fun
  | [d1, d2] => { results := [.lit (.bool true)], args := [d1, d2] }
  | _ => none }
def blockPlaysRow : OpenClaim := { program := "ytgloknkcfchnlaagreatdoor", sum := "b1f04dd5ad20a41eef536bda20015cc1e0981e3d99e12eef6fd0f5197ea9ba6c", func := "kedge/kedgelaw12.BlockPlays", spec := "blockPlays", inPlace := ["maps.clone", "internal/abi.NoEscape", "internal/bytealg.MakeNoZero", "internal/bytealg.abigen_runtime_cmpstring", "internal/reflectlite.ValueOf", "(internal/reflectlite.Value).Type", "(internal/reflectlite.Value).IsNil", "internal/reflectlite.TypeOf", "(internal/reflectlite.Value).Elem", "(internal/reflectlite.Value).Set"], unfollowed := true, recurses := true, named := ["errors.errorType"], plainKeys := false, apart := false, laid := [("errors.errorType", laid_errors_errorType)] }
def BlockPlaysSaid : Prop := blockPlaysRow.holds Tryz.pinned (OpenSpec.ofChange blockPlaysSpec)

/-- ITS FALSE NEIGHBOUR: 'it returns false'. Refute it at one input. -/
def blockPlaysWrong : ChangeSpec := { name := "blockPlays", fn := fun _ => fun
  | [d1, d2] => { results := [.lit (.bool false)], args := [d1, d2] }
  | _ => none }
def BlockPlaysWrongFalsely : Prop := blockPlaysRow.holds Tryz.pinned (OpenSpec.ofChange blockPlaysWrong)

/-- 'kedgelaw12.BlockRaw': WHATEVER THE INPUT: true; the input reads as it did. -/
def blockRawSpec : ChangeSpec := { name := "blockRaw", fn := fun _ => fun
  | [d1, d2] => { results := [.lit (.bool true)], args := [d1, d2] }
  | _ => none }
def blockRawRow : OpenClaim := { program := "ytgloknkcfchnlaagreatdoor", sum := "b1f04dd5ad20a41eef536bda20015cc1e0981e3d99e12eef6fd0f5197ea9ba6c", func := "kedge/kedgelaw12.BlockRaw", spec := "blockRaw", inPlace := ["maps.clone", "internal/abi.NoEscape", "internal/bytealg.MakeNoZero", "internal/bytealg.abigen_runtime_cmpstring", "internal/reflectlite.TypeOf", "internal/reflectlite.ValueOf", "(internal/reflectlite.Value).Type", "(internal/reflectlite.Value).IsNil", "(internal/reflectlite.Value).Elem", "(internal/reflectlite.Value).Set"], unfollowed := true, recurses := true, named := ["errors.errorType"], plainKeys := false, apart := false, laid := [("errors.errorType", laid_errors_errorType)] }
def BlockRawSaid : Prop := blockRawRow.holds Tryz.pinned (OpenSpec.ofChange blockRawSpec)

/-- ITS FALSE NEIGHBOUR: 'it returns false'. Refute it at one input. -/
def blockRawWrong : ChangeSpec := { name := "blockRaw", fn := fun _ => fun
  | [d1, d2] => { results := [.lit (.bool false)], args := [d1, d2] }
  | _ => none }
def BlockRawWrongFalsely : Prop := blockRawRow.holds Tryz.pinned (OpenSpec.ofChange blockRawWrong)

/- THE SECOND FORM. 'bulk': how many values and letters a reading holds, each counted each time it is reached (what is shared counts as often as it is met; a slice's spare places count too). A statement '..UptoSaid' is the law's where the arguments, and the package variables that the reading takes, are together of bulk at most 1048576: NARROWER than '..Said'. Prove '..Said' where nothing that the law and all that it calls make is longer than what came in: it says more and counts as full. Else prove '..UptoSaid'. A law counts once. -/
mutual
def uptoBulk {H : Type} : DataW H → Nat
  | .lit (.string bytes) => bytes.length + 1
  | .lit _ => 1
  | .nil => 1
  | .ptr d => uptoBulk d + 1
  | .slice elems spare => uptoBulkAll elems + uptoBulkAll spare + 1
  | .agg parts => uptoBulkAll parts + 1
  | .iface _ d => uptoBulk d + 1
  | .map entries => uptoBulkEntries entries + 1
  | .held _ => 1
def uptoBulkAll {H : Type} : List (DataW H) → Nat
  | [] => 0
  | d :: r => uptoBulk d + uptoBulkAll r
def uptoBulkEntries {H : Type} : List (Lit × DataW H) → Nat
  | [] => 0
  | x :: r => uptoBulkEntry x + uptoBulkEntries r
def uptoBulkEntry {H : Type} : Lit × DataW H → Nat
  | (.string bytes, d) => bytes.length + uptoBulk d + 1
  | (_, d) => uptoBulk d + 1
 end
def uptoSmall : (H : Type) → List (DataW H) → Bool := fun _ ds => decide (uptoBulkAll ds ≤ 1048576)
def OpenSpec.upto (s : _root_.Go.ChangeSpec) : _root_.Go.OpenSpec := { _root_.Go.OpenSpec.ofChange s with cond := some uptoSmall }

/-- 'kedgelaw12.BlockBack', WHERE WHAT IT READS IS OF BULK AT MOST 1048576: true; the input reads as it did. -/
def blockBackUptoRow : OpenClaim := { program := "ytgloknkcfchnlaagreatdoor", sum := "b1f04dd5ad20a41eef536bda20015cc1e0981e3d99e12eef6fd0f5197ea9ba6c", func := "kedge/kedgelaw12.BlockBack", spec := "blockBack", inPlace := ["maps.clone", "internal/abi.NoEscape", "internal/bytealg.MakeNoZero", "internal/bytealg.abigen_runtime_cmpstring", "internal/reflectlite.TypeOf", "internal/reflectlite.ValueOf", "(internal/reflectlite.Value).Type", "(internal/reflectlite.Value).IsNil", "(internal/reflectlite.Value).Elem", "(internal/reflectlite.Value).Set"], unfollowed := true, recurses := true, named := ["errors.errorType"], plainKeys := false, apart := false, laid := [("errors.errorType", laid_errors_errorType)], narrowed := true }
def BlockBackUptoSaid : Prop := blockBackUptoRow.holds Tryz.pinned (OpenSpec.upto blockBackSpec)

/-- 'kedgelaw12.BlockState', WHERE WHAT IT READS IS OF BULK AT MOST 1048576: true; the input reads as it did. -/
def blockStateUptoRow : OpenClaim := { program := "ytgloknkcfchnlaagreatdoor", sum := "b1f04dd5ad20a41eef536bda20015cc1e0981e3d99e12eef6fd0f5197ea9ba6c", func := "kedge/kedgelaw12.BlockState", spec := "blockState", inPlace := ["maps.clone", "internal/abi.NoEscape", "internal/bytealg.MakeNoZero", "internal/bytealg.abigen_runtime_cmpstring", "internal/reflectlite.TypeOf", "internal/reflectlite.ValueOf", "(internal/reflectlite.Value).Type", "(internal/reflectlite.Value).IsNil", "(internal/reflectlite.Value).Elem", "(internal/reflectlite.Value).Set"], unfollowed := true, recurses := true, named := ["errors.errorType"], plainKeys := false, apart := false, laid := [("errors.errorType", laid_errors_errorType)], narrowed := true }
def BlockStateUptoSaid : Prop := blockStateUptoRow.holds Tryz.pinned (OpenSpec.upto blockStateSpec)

/-- 'kedgelaw12.BlockValues', WHERE WHAT IT READS IS OF BULK AT MOST 1048576: true; the input reads as it did. -/
def blockValuesUptoRow : OpenClaim := { program := "ytgloknkcfchnlaagreatdoor", sum := "b1f04dd5ad20a41eef536bda20015cc1e0981e3d99e12eef6fd0f5197ea9ba6c", func := "kedge/kedgelaw12.BlockValues", spec := "blockValues", inPlace := ["maps.clone", "internal/abi.NoEscape", "internal/bytealg.MakeNoZero", "internal/bytealg.abigen_runtime_cmpstring", "internal/reflectlite.TypeOf", "internal/reflectlite.ValueOf", "(internal/reflectlite.Value).Type", "(internal/reflectlite.Value).IsNil", "(internal/reflectlite.Value).Elem", "(internal/reflectlite.Value).Set"], unfollowed := true, recurses := true, named := ["errors.errorType"], plainKeys := false, apart := false, laid := [("errors.errorType", laid_errors_errorType)], narrowed := true }
def BlockValuesUptoSaid : Prop := blockValuesUptoRow.holds Tryz.pinned (OpenSpec.upto blockValuesSpec)

/-- 'kedgelaw12.BlockPlays', WHERE WHAT IT READS IS OF BULK AT MOST 1048576: true; the input reads as it did. -/
def blockPlaysUptoRow : OpenClaim := { program := "ytgloknkcfchnlaagreatdoor", sum := "b1f04dd5ad20a41eef536bda20015cc1e0981e3d99e12eef6fd0f5197ea9ba6c", func := "kedge/kedgelaw12.BlockPlays", spec := "blockPlays", inPlace := ["maps.clone", "internal/abi.NoEscape", "internal/bytealg.MakeNoZero", "internal/bytealg.abigen_runtime_cmpstring", "internal/reflectlite.ValueOf", "(internal/reflectlite.Value).Type", "(internal/reflectlite.Value).IsNil", "internal/reflectlite.TypeOf", "(internal/reflectlite.Value).Elem", "(internal/reflectlite.Value).Set"], unfollowed := true, recurses := true, named := ["errors.errorType"], plainKeys := false, apart := false, laid := [("errors.errorType", laid_errors_errorType)], narrowed := true }
def BlockPlaysUptoSaid : Prop := blockPlaysUptoRow.holds Tryz.pinned (OpenSpec.upto blockPlaysSpec)

/-- 'kedgelaw12.BlockRaw', WHERE WHAT IT READS IS OF BULK AT MOST 1048576: true; the input reads as it did. -/
def blockRawUptoRow : OpenClaim := { program := "ytgloknkcfchnlaagreatdoor", sum := "b1f04dd5ad20a41eef536bda20015cc1e0981e3d99e12eef6fd0f5197ea9ba6c", func := "kedge/kedgelaw12.BlockRaw", spec := "blockRaw", inPlace := ["maps.clone", "internal/abi.NoEscape", "internal/bytealg.MakeNoZero", "internal/bytealg.abigen_runtime_cmpstring", "internal/reflectlite.TypeOf", "internal/reflectlite.ValueOf", "(internal/reflectlite.Value).Type", "(internal/reflectlite.Value).IsNil", "(internal/reflectlite.Value).Elem", "(internal/reflectlite.Value).Set"], unfollowed := true, recurses := true, named := ["errors.errorType"], plainKeys := false, apart := false, laid := [("errors.errorType", laid_errors_errorType)], narrowed := true }
def BlockRawUptoSaid : Prop := blockRawUptoRow.holds Tryz.pinned (OpenSpec.upto blockRawSpec)

end Rows
end Go.Proofs.YtgloknkcfchnlaaGreatDoor
