/-
  NARROWER THAN 'FOR EVERY INPUT', by the rows' own cells (each row's printed sentence says how): ChurnNil: laid · ChurnPlays: laid · ChurnBack: laid · ChurnEmpty: laid.
  DERIVED. THE GIVEN ROWS OF THIS SEAT. 4 by the template 'for every input the law returns true; each argument reads behind the call as it read before'; 0 by the template 'total and deterministic' (their statements: YteceapipdhnhdaaGreatDoorTotals.lean).
  GIVEN WITH THE SEED: the statements are not yours to turn. If you find one false, say at which input.
  Laid BY PROGRAM, IN A SANDBOX (cutbox-rows.mjs): the forced cells as the released guide's own fill.sh prints them over the translation f0b422df35165690… (all of the seat's roots in one cut). By AI agents, Wed Nov 11 2026. No macro, syntax, notation, axiom, sorry.
-/
import Derived.Test.YteceapipdhnhdaaGreatDoorChecked
import GoSem.Claim
import GoSem.ClaimJoined
import GoSem.ClaimMapViews
import Derived.JoinedTies
import Derived.KernelRfl
namespace Go.Proofs.YteceapipdhnhdaaGreatDoor
/- THE CELL 'sum', in the pinned program and in every row, IS THE sha256 OF THE DUMP (.gsa) THAT YteceapipdhnhdaaGreatDoorProg.lean LOADS. Nothing in Lean hashes anything: it is a label: what it is worth is what the hold of that sum in a sandbox is worth. -/
noncomputable def Tryz.pinned : Pinned := { name := "yteceapipdhnhdaagreatdoor", sum := "f0b422df35165690e00aebf2620474f7997ac3b8879fa40d9b464b8076ee1287", checked := Tryz.checked }
namespace Rows
def none {H : Type} : Left H := { results := [], args := [] }

/- WHAT THE LISTED PACKAGE-LEVEL VARIABLES READ AS WHEN THE CALL BEGINS. Each datum BY PROGRAM (the guide's laid-datum.mjs) off the statement by which the dump's own 'gosem.cut.vars' lays the variable. In a bare row this is a premise. The card (YteceapipdhnhdaaGreatDoorCards.lean) ties it to the program's text. -/
def laid_errors_errorType {H : Type} : DataW H := .iface "internal/reflectlite.rtype" (.agg [.ptr (.lit (.string [101, 114, 114, 111, 114]))])

/-- 'kedgelaw20.ChurnNil': WHATEVER THE INPUT: true; the input reads as it did. -/
def churnNilSpec : ChangeSpec := { name := "churnNil", fn := fun _ => fun
  | [d1, d2, d3] => { results := [.lit (.bool true)], args := [d1, d2, d3] }
  | _ => none }
def churnNilRow : OpenClaim := { program := "yteceapipdhnhdaagreatdoor", sum := "f0b422df35165690e00aebf2620474f7997ac3b8879fa40d9b464b8076ee1287", func := "kedge/kedgelaw20.ChurnNil", spec := "churnNil", inPlace := ["internal/abi.NoEscape", "internal/bytealg.MakeNoZero", "maps.clone", "internal/bytealg.abigen_runtime_cmpstring", "internal/reflectlite.ValueOf", "(internal/reflectlite.Value).Type", "(internal/reflectlite.Value).IsNil", "internal/reflectlite.TypeOf", "(internal/reflectlite.Value).Elem", "(internal/reflectlite.Value).Set"], unfollowed := true, recurses := true, named := ["math/bits.divideError", "math/bits.overflowError", "errors.errorType"], plainKeys := false, apart := false, laid := [("errors.errorType", laid_errors_errorType)] }
def ChurnNilSaid : Prop := churnNilRow.holds Tryz.pinned (OpenSpec.ofChange churnNilSpec)

/-- ITS FALSE NEIGHBOUR: 'it returns false'. Refute it at one input. -/
def churnNilWrong : ChangeSpec := { name := "churnNil", fn := fun _ => fun
  | [d1, d2, d3] => { results := [.lit (.bool false)], args := [d1, d2, d3] }
  | _ => none }
def ChurnNilWrongFalsely : Prop := churnNilRow.holds Tryz.pinned (OpenSpec.ofChange churnNilWrong)

/-- 'kedgelaw20.ChurnPlays': WHATEVER THE INPUT: true; the input reads as it did. -/
def churnPlaysSpec : ChangeSpec := { name := "churnPlays", fn := fun _ => fun
  | [d1, d2, d3] => { results := [.lit (.bool true)], args := [d1, d2, d3] }
  | _ => none }
def churnPlaysRow : OpenClaim := { program := "yteceapipdhnhdaagreatdoor", sum := "f0b422df35165690e00aebf2620474f7997ac3b8879fa40d9b464b8076ee1287", func := "kedge/kedgelaw20.ChurnPlays", spec := "churnPlays", inPlace := ["internal/abi.NoEscape", "internal/bytealg.MakeNoZero", "maps.clone", "internal/bytealg.abigen_runtime_cmpstring", "internal/reflectlite.ValueOf", "(internal/reflectlite.Value).Type", "(internal/reflectlite.Value).IsNil", "internal/reflectlite.TypeOf", "(internal/reflectlite.Value).Elem", "(internal/reflectlite.Value).Set"], unfollowed := true, recurses := true, named := ["errors.errorType", "math/bits.divideError", "math/bits.overflowError"], plainKeys := false, apart := false, laid := [("errors.errorType", laid_errors_errorType)] }
def ChurnPlaysSaid : Prop := churnPlaysRow.holds Tryz.pinned (OpenSpec.ofChange churnPlaysSpec)

/-- ITS FALSE NEIGHBOUR: 'it returns false'. Refute it at one input. -/
def churnPlaysWrong : ChangeSpec := { name := "churnPlays", fn := fun _ => fun
  | [d1, d2, d3] => { results := [.lit (.bool false)], args := [d1, d2, d3] }
  | _ => none }
def ChurnPlaysWrongFalsely : Prop := churnPlaysRow.holds Tryz.pinned (OpenSpec.ofChange churnPlaysWrong)

/-- 'kedgelaw20.ChurnBack': WHATEVER THE INPUT: true; the input reads as it did. -/
def churnBackSpec : ChangeSpec := { name := "churnBack", fn := fun _ => fun
  | [d1, d2, d3] => { results := [.lit (.bool true)], args := [d1, d2, d3] }
  | _ => none }
def churnBackRow : OpenClaim := { program := "yteceapipdhnhdaagreatdoor", sum := "f0b422df35165690e00aebf2620474f7997ac3b8879fa40d9b464b8076ee1287", func := "kedge/kedgelaw20.ChurnBack", spec := "churnBack", inPlace := ["internal/abi.NoEscape", "internal/bytealg.MakeNoZero", "maps.clone", "internal/bytealg.abigen_runtime_cmpstring", "internal/reflectlite.ValueOf", "(internal/reflectlite.Value).Type", "(internal/reflectlite.Value).IsNil", "internal/reflectlite.TypeOf", "(internal/reflectlite.Value).Elem", "(internal/reflectlite.Value).Set"], unfollowed := true, recurses := true, named := ["errors.errorType", "math/bits.divideError", "math/bits.overflowError"], plainKeys := false, apart := false, laid := [("errors.errorType", laid_errors_errorType)] }
def ChurnBackSaid : Prop := churnBackRow.holds Tryz.pinned (OpenSpec.ofChange churnBackSpec)

/-- ITS FALSE NEIGHBOUR: 'it returns false'. Refute it at one input. -/
def churnBackWrong : ChangeSpec := { name := "churnBack", fn := fun _ => fun
  | [d1, d2, d3] => { results := [.lit (.bool false)], args := [d1, d2, d3] }
  | _ => none }
def ChurnBackWrongFalsely : Prop := churnBackRow.holds Tryz.pinned (OpenSpec.ofChange churnBackWrong)

/-- 'kedgelaw20.ChurnEmpty': WHATEVER THE INPUT: true; the input reads as it did. -/
def churnEmptySpec : ChangeSpec := { name := "churnEmpty", fn := fun _ => fun
  | [d] => { results := [.lit (.bool true)], args := [d] }
  | _ => none }
def churnEmptyRow : OpenClaim := { program := "yteceapipdhnhdaagreatdoor", sum := "f0b422df35165690e00aebf2620474f7997ac3b8879fa40d9b464b8076ee1287", func := "kedge/kedgelaw20.ChurnEmpty", spec := "churnEmpty", inPlace := ["internal/abi.NoEscape", "internal/bytealg.MakeNoZero", "maps.clone", "internal/bytealg.abigen_runtime_cmpstring", "internal/reflectlite.ValueOf", "(internal/reflectlite.Value).Type", "(internal/reflectlite.Value).IsNil", "internal/reflectlite.TypeOf", "(internal/reflectlite.Value).Elem", "(internal/reflectlite.Value).Set"], unfollowed := true, recurses := true, named := ["errors.errorType", "math/bits.divideError", "math/bits.overflowError"], plainKeys := false, apart := false, laid := [("errors.errorType", laid_errors_errorType)] }
def ChurnEmptySaid : Prop := churnEmptyRow.holds Tryz.pinned (OpenSpec.ofChange churnEmptySpec)

/-- ITS FALSE NEIGHBOUR: 'it returns false'. Refute it at one input. -/
def churnEmptyWrong : ChangeSpec := { name := "churnEmpty", fn := fun _ => fun
  | [d] => { results := [.lit (.bool false)], args := [d] }
  | _ => none }
def ChurnEmptyWrongFalsely : Prop := churnEmptyRow.holds Tryz.pinned (OpenSpec.ofChange churnEmptyWrong)

/- THE SECOND FORM. 'bulk': how many values and letters a reading holds, each counted each time it is reached (what is shared counts as often as it is met; a slice's spare places count too). A statement '..UptoSaid' is the law's where the arguments, and the package variables that the reading takes, are together of bulk at most 1048576: NARROWER than '..Said'. Prove '..Said' where nothing that the law and all that it calls make is longer than what came in: it says more and counts as full. Else prove '..UptoSaid'. A law counts once. -/
mutual
def uptoBulk {H : Type} : DataW H → Nat
  | .lit (.string bytes) => bytes.length + 1
  | .lit _ => 1
  | .nil => 1
  | .ptr d => uptoBulk d + 1
  | .slice elems spare => uptoBulkAll elems + uptoBulkAll spare + 1
  | .agg parts => uptoBulkAll parts + 1
  | .iface _ d => uptoBulk d + 1
  | .map entries => uptoBulkEntries entries + 1
  | .held _ => 1
def uptoBulkAll {H : Type} : List (DataW H) → Nat
  | [] => 0
  | d :: r => uptoBulk d + uptoBulkAll r
def uptoBulkEntries {H : Type} : List (Lit × DataW H) → Nat
  | [] => 0
  | x :: r => uptoBulkEntry x + uptoBulkEntries r
def uptoBulkEntry {H : Type} : Lit × DataW H → Nat
  | (.string bytes, d) => bytes.length + uptoBulk d + 1
  | (_, d) => uptoBulk d + 1
 end
def uptoSmall : (H : Type) → List (DataW H) → Bool := fun _ ds => decide (uptoBulkAll ds ≤ 1048576)
def OpenSpec.upto (s : _root_.Go.ChangeSpec) : _root_.Go.OpenSpec := { _root_.Go.OpenSpec.ofChange s with cond := some uptoSmall }

/-- 'kedgelaw20.ChurnNil', WHERE WHAT IT READS IS OF BULK AT MOST 1048576: true; the input reads as it did. -/
def churnNilUptoRow : OpenClaim := { program := "yteceapipdhnhdaagreatdoor", sum := "f0b422df35165690e00aebf2620474f7997ac3b8879fa40d9b464b8076ee1287", func := "kedge/kedgelaw20.ChurnNil", spec := "churnNil", inPlace := ["internal/abi.NoEscape", "internal/bytealg.MakeNoZero", "maps.clone", "internal/bytealg.abigen_runtime_cmpstring", "internal/reflectlite.ValueOf", "(internal/reflectlite.Value).Type", "(internal/reflectlite.Value).IsNil", "internal/reflectlite.TypeOf", "(internal/reflectlite.Value).Elem", "(internal/reflectlite.Value).Set"], unfollowed := true, recurses := true, named := ["math/bits.divideError", "math/bits.overflowError", "errors.errorType"], plainKeys := false, apart := false, laid := [("errors.errorType", laid_errors_errorType)], narrowed := true }
def ChurnNilUptoSaid : Prop := churnNilUptoRow.holds Tryz.pinned (OpenSpec.upto churnNilSpec)

/-- 'kedgelaw20.ChurnPlays', WHERE WHAT IT READS IS OF BULK AT MOST 1048576: true; the input reads as it did. -/
def churnPlaysUptoRow : OpenClaim := { program := "yteceapipdhnhdaagreatdoor", sum := "f0b422df35165690e00aebf2620474f7997ac3b8879fa40d9b464b8076ee1287", func := "kedge/kedgelaw20.ChurnPlays", spec := "churnPlays", inPlace := ["internal/abi.NoEscape", "internal/bytealg.MakeNoZero", "maps.clone", "internal/bytealg.abigen_runtime_cmpstring", "internal/reflectlite.ValueOf", "(internal/reflectlite.Value).Type", "(internal/reflectlite.Value).IsNil", "internal/reflectlite.TypeOf", "(internal/reflectlite.Value).Elem", "(internal/reflectlite.Value).Set"], unfollowed := true, recurses := true, named := ["errors.errorType", "math/bits.divideError", "math/bits.overflowError"], plainKeys := false, apart := false, laid := [("errors.errorType", laid_errors_errorType)], narrowed := true }
def ChurnPlaysUptoSaid : Prop := churnPlaysUptoRow.holds Tryz.pinned (OpenSpec.upto churnPlaysSpec)

/-- 'kedgelaw20.ChurnBack', WHERE WHAT IT READS IS OF BULK AT MOST 1048576: true; the input reads as it did. -/
def churnBackUptoRow : OpenClaim := { program := "yteceapipdhnhdaagreatdoor", sum := "f0b422df35165690e00aebf2620474f7997ac3b8879fa40d9b464b8076ee1287", func := "kedge/kedgelaw20.ChurnBack", spec := "churnBack", inPlace := ["internal/abi.NoEscape", "internal/bytealg.MakeNoZero", "maps.clone", "internal/bytealg.abigen_runtime_cmpstring", "internal/reflectlite.ValueOf", "(internal/reflectlite.Value).Type", "(internal/reflectlite.Value).IsNil", "internal/reflectlite.TypeOf", "(internal/reflectlite.Value).Elem", "(internal/reflectlite.Value).Set"], unfollowed := true, recurses := true, named := ["errors.errorType", "math/bits.divideError", "math/bits.overflowError"], plainKeys := false, apart := false, laid := [("errors.errorType", laid_errors_errorType)], narrowed := true }
def ChurnBackUptoSaid : Prop := churnBackUptoRow.holds Tryz.pinned (OpenSpec.upto churnBackSpec)

/-- 'kedgelaw20.ChurnEmpty', WHERE WHAT IT READS IS OF BULK AT MOST 1048576: true; the input reads as it did. -/
def churnEmptyUptoRow : OpenClaim := { program := "yteceapipdhnhdaagreatdoor", sum := "f0b422df35165690e00aebf2620474f7997ac3b8879fa40d9b464b8076ee1287", func := "kedge/kedgelaw20.ChurnEmpty", spec := "churnEmpty", inPlace := ["internal/abi.NoEscape", "internal/bytealg.MakeNoZero", "maps.clone", "internal/bytealg.abigen_runtime_cmpstring", "internal/reflectlite.ValueOf", "(internal/reflectlite.Value).Type", "(internal/reflectlite.Value).IsNil", "internal/reflectlite.TypeOf", "(internal/reflectlite.Value).Elem", "(internal/reflectlite.Value).Set"], unfollowed := true, recurses := true, named := ["errors.errorType", "math/bits.divideError", "math/bits.overflowError"], plainKeys := false, apart := false, laid := [("errors.errorType", laid_errors_errorType)], narrowed := true }
def ChurnEmptyUptoSaid : Prop := churnEmptyUptoRow.holds Tryz.pinned (OpenSpec.upto churnEmptySpec)

end Rows
end Go.Proofs.YteceapipdhnhdaaGreatDoor
