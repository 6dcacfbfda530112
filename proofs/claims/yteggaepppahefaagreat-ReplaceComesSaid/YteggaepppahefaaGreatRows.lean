/-
  No cell of these rows narrows 'for every input' (looked for: loops, veiled, ifaces, maps, wideKeys, modest, calm, conditions, laid).
  DERIVED. THE GIVEN ROWS OF THIS SEAT. 9 by the template 'for every input the law returns true; each argument reads behind the call as it read before'; 0 by the template 'total and deterministic' (their statements: YteggaepppahefaaGreatTotals.lean).
  GIVEN WITH THE SEED: the statements are not yours to turn. If you find one false, say at which input.
  Laid BY PROGRAM, IN A SANDBOX (cutbox-rows.mjs): the forced cells as the released guide's own fill.sh prints them over the translation bebf17bc91a4310c… (all of the seat's roots in one cut). By AI agents, Wed Nov 11 2026. No macro, syntax, notation, axiom, sorry.
-/
import Derived.Test.YteggaepppahefaaGreatChecked
import GoSem.Claim
import GoSem.ClaimJoined
import GoSem.ClaimMapViews
import Derived.JoinedTies
import Derived.KernelRfl
namespace Go.Proofs.YteggaepppahefaaGreat
/- THE CELL 'sum', in the pinned program and in every row, IS THE sha256 OF THE DUMP (.gsa) THAT YteggaepppahefaaGreatProg.lean LOADS. Nothing in Lean hashes anything: it is a label: what it is worth is what the hold of that sum in a sandbox is worth. -/
noncomputable def Tryz.pinned : Pinned := { name := "yteggaepppahefaagreat", sum := "bebf17bc91a4310c9191d0978aaa9871fc4d5d01e35bfedeba78e27191da0873", checked := Tryz.checked }
namespace Rows
def none {H : Type} : Left H := { results := [], args := [] }

/-- 'kedgelaw19.TrimScores': WHATEVER THE INPUT: true; the input reads as it did. -/
def trimScoresSpec : ChangeSpec := { name := "trimScores", fn := fun _ => fun
  | [d1, d2] => { results := [.lit (.bool true)], args := [d1, d2] }
  | _ => none }
def trimScoresRow : OpenClaim := { program := "yteggaepppahefaagreat", sum := "bebf17bc91a4310c9191d0978aaa9871fc4d5d01e35bfedeba78e27191da0873", func := "kedge/kedgelaw19.TrimScores", spec := "trimScores", inPlace := ["internal/abi.NoEscape", "internal/bytealg.MakeNoZero"], unfollowed := true, recurses := true, plainKeys := false, apart := false }
def TrimScoresSaid : Prop := trimScoresRow.holds Tryz.pinned (OpenSpec.ofChange trimScoresSpec)

/-- ITS FALSE NEIGHBOUR: 'it returns false'. Refute it at one input. -/
def trimScoresWrong : ChangeSpec := { name := "trimScores", fn := fun _ => fun
  | [d1, d2] => { results := [.lit (.bool false)], args := [d1, d2] }
  | _ => none }
def TrimScoresWrongFalsely : Prop := trimScoresRow.holds Tryz.pinned (OpenSpec.ofChange trimScoresWrong)

/-- 'kedgelaw19.TrimPlays': WHATEVER THE INPUT: true; the input reads as it did. -/
def trimPlaysSpec : ChangeSpec := { name := "trimPlays", fn := fun _ => fun
  | [d1, d2] => { results := [.lit (.bool true)], args := [d1, d2] }
  | _ => none }
def trimPlaysRow : OpenClaim := { program := "yteggaepppahefaagreat", sum := "bebf17bc91a4310c9191d0978aaa9871fc4d5d01e35bfedeba78e27191da0873", func := "kedge/kedgelaw19.TrimPlays", spec := "trimPlays", inPlace := ["internal/abi.NoEscape", "internal/bytealg.MakeNoZero"], unfollowed := true, recurses := true, plainKeys := false, apart := false }
def TrimPlaysSaid : Prop := trimPlaysRow.holds Tryz.pinned (OpenSpec.ofChange trimPlaysSpec)

/-- ITS FALSE NEIGHBOUR: 'it returns false'. Refute it at one input. -/
def trimPlaysWrong : ChangeSpec := { name := "trimPlays", fn := fun _ => fun
  | [d1, d2] => { results := [.lit (.bool false)], args := [d1, d2] }
  | _ => none }
def TrimPlaysWrongFalsely : Prop := trimPlaysRow.holds Tryz.pinned (OpenSpec.ofChange trimPlaysWrong)

/-- 'kedgelaw19.TrimParts': WHATEVER THE INPUT: true; the input reads as it did. -/
def trimPartsSpec : ChangeSpec := { name := "trimParts", fn := fun _ => fun
  | [d1, d2, d3] => { results := [.lit (.bool true)], args := [d1, d2, d3] }
  | _ => none }
def trimPartsRow : OpenClaim := { program := "yteggaepppahefaagreat", sum := "bebf17bc91a4310c9191d0978aaa9871fc4d5d01e35bfedeba78e27191da0873", func := "kedge/kedgelaw19.TrimParts", spec := "trimParts", inPlace := ["internal/abi.NoEscape", "internal/bytealg.MakeNoZero", "maps.clone"], unfollowed := true, recurses := true, plainKeys := false, apart := false }
def TrimPartsSaid : Prop := trimPartsRow.holds Tryz.pinned (OpenSpec.ofChange trimPartsSpec)

/-- ITS FALSE NEIGHBOUR: 'it returns false'. Refute it at one input. -/
def trimPartsWrong : ChangeSpec := { name := "trimParts", fn := fun _ => fun
  | [d1, d2, d3] => { results := [.lit (.bool false)], args := [d1, d2, d3] }
  | _ => none }
def TrimPartsWrongFalsely : Prop := trimPartsRow.holds Tryz.pinned (OpenSpec.ofChange trimPartsWrong)

/-- 'kedgelaw19.TrimKeeps': WHATEVER THE INPUT: true; the input reads as it did. -/
def trimKeepsSpec : ChangeSpec := { name := "trimKeeps", fn := fun _ => fun
  | [d1, d2] => { results := [.lit (.bool true)], args := [d1, d2] }
  | _ => none }
def trimKeepsRow : OpenClaim := { program := "yteggaepppahefaagreat", sum := "bebf17bc91a4310c9191d0978aaa9871fc4d5d01e35bfedeba78e27191da0873", func := "kedge/kedgelaw19.TrimKeeps", spec := "trimKeeps", inPlace := ["internal/abi.NoEscape", "internal/bytealg.MakeNoZero", "maps.clone"], unfollowed := true, recurses := true, plainKeys := false, apart := false }
def TrimKeepsSaid : Prop := trimKeepsRow.holds Tryz.pinned (OpenSpec.ofChange trimKeepsSpec)

/-- ITS FALSE NEIGHBOUR: 'it returns false'. Refute it at one input. -/
def trimKeepsWrong : ChangeSpec := { name := "trimKeeps", fn := fun _ => fun
  | [d1, d2] => { results := [.lit (.bool false)], args := [d1, d2] }
  | _ => none }
def TrimKeepsWrongFalsely : Prop := trimKeepsRow.holds Tryz.pinned (OpenSpec.ofChange trimKeepsWrong)

/-- 'kedgelaw16.ReplaceNeeds': WHATEVER THE INPUT: true; the input reads as it did. -/
def replaceNeedsSpec : ChangeSpec := { name := "replaceNeeds", fn := fun _ => fun
  | [d1, d2] => { results := [.lit (.bool true)], args := [d1, d2] }
  | _ => none }
def replaceNeedsRow : OpenClaim := { program := "yteggaepppahefaagreat", sum := "bebf17bc91a4310c9191d0978aaa9871fc4d5d01e35bfedeba78e27191da0873", func := "kedge/kedgelaw16.ReplaceNeeds", spec := "replaceNeeds", inPlace := ["internal/abi.NoEscape", "internal/bytealg.MakeNoZero"], unfollowed := true, recurses := true, named := ["math/bits.divideError", "math/bits.overflowError"], plainKeys := false, apart := false }
def ReplaceNeedsSaid : Prop := replaceNeedsRow.holds Tryz.pinned (OpenSpec.ofChange replaceNeedsSpec)

/-- ITS FALSE NEIGHBOUR: 'it returns false'. Refute it at one input. -/
def replaceNeedsWrong : ChangeSpec := { name := "replaceNeeds", fn := fun _ => fun
  | [d1, d2] => { results := [.lit (.bool false)], args := [d1, d2] }
  | _ => none }
def ReplaceNeedsWrongFalsely : Prop := replaceNeedsRow.holds Tryz.pinned (OpenSpec.ofChange replaceNeedsWrong)

/-- 'kedgelaw16.ReplaceRules': WHATEVER THE INPUT: true; the input reads as it did. -/
def replaceRulesSpec : ChangeSpec := { name := "replaceRules", fn := fun _ => fun
  | [d1, d2, d3] => { results := [.lit (.bool true)], args := [d1, d2, d3] }
  | _ => none }
def replaceRulesRow : OpenClaim := { program := "yteggaepppahefaagreat", sum := "bebf17bc91a4310c9191d0978aaa9871fc4d5d01e35bfedeba78e27191da0873", func := "kedge/kedgelaw16.ReplaceRules", spec := "replaceRules", inPlace := ["internal/abi.NoEscape", "internal/bytealg.MakeNoZero"], unfollowed := true, recurses := true, named := ["math/bits.divideError", "math/bits.overflowError"], plainKeys := false, apart := false }
def ReplaceRulesSaid : Prop := replaceRulesRow.holds Tryz.pinned (OpenSpec.ofChange replaceRulesSpec)

/-- ITS FALSE NEIGHBOUR: 'it returns false'. Refute it at one input. -/
def replaceRulesWrong : ChangeSpec := { name := "replaceRules", fn := fun _ => fun
  | [d1, d2, d3] => { results := [.lit (.bool false)], args := [d1, d2, d3] }
  | _ => none }
def ReplaceRulesWrongFalsely : Prop := replaceRulesRow.holds Tryz.pinned (OpenSpec.ofChange replaceRulesWrong)

/-- 'kedgelaw16.ReplaceNone': WHATEVER THE INPUT: true; the input reads as it did. -/
def replaceNoneSpec : ChangeSpec := { name := "replaceNone", fn := fun _ => fun
  | [d1, d2] => { results := [.lit (.bool true)], args := [d1, d2] }
  | _ => none }
def replaceNoneRow : OpenClaim := { program := "yteggaepppahefaagreat", sum := "bebf17bc91a4310c9191d0978aaa9871fc4d5d01e35bfedeba78e27191da0873", func := "kedge/kedgelaw16.ReplaceNone", spec := "replaceNone", inPlace := ["internal/abi.NoEscape", "internal/bytealg.MakeNoZero"], unfollowed := true, recurses := true, named := ["math/bits.divideError", "math/bits.overflowError"], plainKeys := false, apart := false }
def ReplaceNoneSaid : Prop := replaceNoneRow.holds Tryz.pinned (OpenSpec.ofChange replaceNoneSpec)

/-- ITS FALSE NEIGHBOUR: 'it returns false'. Refute it at one input. -/
def replaceNoneWrong : ChangeSpec := { name := "replaceNone", fn := fun _ => fun
  | [d1, d2] => { results := [.lit (.bool false)], args := [d1, d2] }
  | _ => none }
def ReplaceNoneWrongFalsely : Prop := replaceNoneRow.holds Tryz.pinned (OpenSpec.ofChange replaceNoneWrong)

/-- 'kedgelaw16.ReplaceComes': WHATEVER THE INPUT: true; the input reads as it did. -/
def replaceComesSpec : ChangeSpec := { name := "replaceComes", fn := fun _ => fun
  | [d1, d2] => { results := [.lit (.bool true)], args := [d1, d2] }
  | _ => none }
def replaceComesRow : OpenClaim := { program := "yteggaepppahefaagreat", sum := "bebf17bc91a4310c9191d0978aaa9871fc4d5d01e35bfedeba78e27191da0873", func := "kedge/kedgelaw16.ReplaceComes", spec := "replaceComes", inPlace := ["internal/abi.NoEscape", "internal/bytealg.MakeNoZero"], unfollowed := true, recurses := true, named := ["math/bits.divideError", "math/bits.overflowError"], plainKeys := false, apart := false }
def ReplaceComesSaid : Prop := replaceComesRow.holds Tryz.pinned (OpenSpec.ofChange replaceComesSpec)

/-- ITS FALSE NEIGHBOUR: 'it returns false'. Refute it at one input. -/
def replaceComesWrong : ChangeSpec := { name := "replaceComes", fn := fun _ => fun
  | [d1, d2] => { results := [.lit (.bool false)], args := [d1, d2] }
  | _ => none }
def ReplaceComesWrongFalsely : Prop := replaceComesRow.holds Tryz.pinned (OpenSpec.ofChange replaceComesWrong)

/-- 'kedgelaw16.ReplacePays': WHATEVER THE INPUT: true; the input reads as it did. -/
def replacePaysSpec : ChangeSpec := { name := "replacePays", fn := fun _ => fun
  | [d1, d2, d3] => { results := [.lit (.bool true)], args := [d1, d2, d3] }
  | _ => none }
def replacePaysRow : OpenClaim := { program := "yteggaepppahefaagreat", sum := "bebf17bc91a4310c9191d0978aaa9871fc4d5d01e35bfedeba78e27191da0873", func := "kedge/kedgelaw16.ReplacePays", spec := "replacePays", inPlace := ["internal/abi.NoEscape", "internal/bytealg.MakeNoZero"], unfollowed := true, recurses := true, named := ["math/bits.divideError", "math/bits.overflowError"], plainKeys := false, apart := false }
def ReplacePaysSaid : Prop := replacePaysRow.holds Tryz.pinned (OpenSpec.ofChange replacePaysSpec)

/-- ITS FALSE NEIGHBOUR: 'it returns false'. Refute it at one input. -/
def replacePaysWrong : ChangeSpec := { name := "replacePays", fn := fun _ => fun
  | [d1, d2, d3] => { results := [.lit (.bool false)], args := [d1, d2, d3] }
  | _ => none }
def ReplacePaysWrongFalsely : Prop := replacePaysRow.holds Tryz.pinned (OpenSpec.ofChange replacePaysWrong)

/- THE SECOND FORM. 'bulk': how many values and letters a reading holds, each counted each time it is reached (what is shared counts as often as it is met; a slice's spare places count too). A statement '..UptoSaid' is the law's where the arguments, and the package variables that the reading takes, are together of bulk at most 1048576: NARROWER than '..Said'. Prove '..Said' where nothing that the law and all that it calls make is longer than what came in: it says more and counts as full. Else prove '..UptoSaid'. A law counts once. -/
mutual
def uptoBulk {H : Type} : DataW H → Nat
  | .lit (.string bytes) => bytes.length + 1
  | .lit _ => 1
  | .nil => 1
  | .ptr d => uptoBulk d + 1
  | .slice elems spare => uptoBulkAll elems + uptoBulkAll spare + 1
  | .agg parts => uptoBulkAll parts + 1
  | .iface _ d => uptoBulk d + 1
  | .map entries => uptoBulkEntries entries + 1
  | .held _ => 1
def uptoBulkAll {H : Type} : List (DataW H) → Nat
  | [] => 0
  | d :: r => uptoBulk d + uptoBulkAll r
def uptoBulkEntries {H : Type} : List (Lit × DataW H) → Nat
  | [] => 0
  | x :: r => uptoBulkEntry x + uptoBulkEntries r
def uptoBulkEntry {H : Type} : Lit × DataW H → Nat
  | (.string bytes, d) => bytes.length + uptoBulk d + 1
  | (_, d) => uptoBulk d + 1
 end
def uptoSmall : (H : Type) → List (DataW H) → Bool := fun _ ds => decide (uptoBulkAll ds ≤ 1048576)
def OpenSpec.upto (s : _root_.Go.ChangeSpec) : _root_.Go.OpenSpec := { _root_.Go.OpenSpec.ofChange s with cond := some uptoSmall }

/-- 'kedgelaw19.TrimScores', WHERE WHAT IT READS IS OF BULK AT MOST 1048576: true; the input reads as it did. -/
def trimScoresUptoRow : OpenClaim := { program := "yteggaepppahefaagreat", sum := "bebf17bc91a4310c9191d0978aaa9871fc4d5d01e35bfedeba78e27191da0873", func := "kedge/kedgelaw19.TrimScores", spec := "trimScores", inPlace := ["internal/abi.NoEscape", "internal/bytealg.MakeNoZero"], unfollowed := true, recurses := true, plainKeys := false, apart := false, narrowed := true }
def TrimScoresUptoSaid : Prop := trimScoresUptoRow.holds Tryz.pinned (OpenSpec.upto trimScoresSpec)

/-- 'kedgelaw19.TrimPlays', WHERE WHAT IT READS IS OF BULK AT MOST 1048576: true; the input reads as it did. -/
def trimPlaysUptoRow : OpenClaim := { program := "yteggaepppahefaagreat", sum := "bebf17bc91a4310c9191d0978aaa9871fc4d5d01e35bfedeba78e27191da0873", func := "kedge/kedgelaw19.TrimPlays", spec := "trimPlays", inPlace := ["internal/abi.NoEscape", "internal/bytealg.MakeNoZero"], unfollowed := true, recurses := true, plainKeys := false, apart := false, narrowed := true }
def TrimPlaysUptoSaid : Prop := trimPlaysUptoRow.holds Tryz.pinned (OpenSpec.upto trimPlaysSpec)

/-- 'kedgelaw19.TrimParts', WHERE WHAT IT READS IS OF BULK AT MOST 1048576: true; the input reads as it did. -/
def trimPartsUptoRow : OpenClaim := { program := "yteggaepppahefaagreat", sum := "bebf17bc91a4310c9191d0978aaa9871fc4d5d01e35bfedeba78e27191da0873", func := "kedge/kedgelaw19.TrimParts", spec := "trimParts", inPlace := ["internal/abi.NoEscape", "internal/bytealg.MakeNoZero", "maps.clone"], unfollowed := true, recurses := true, plainKeys := false, apart := false, narrowed := true }
def TrimPartsUptoSaid : Prop := trimPartsUptoRow.holds Tryz.pinned (OpenSpec.upto trimPartsSpec)

/-- 'kedgelaw19.TrimKeeps', WHERE WHAT IT READS IS OF BULK AT MOST 1048576: true; the input reads as it did. -/
def trimKeepsUptoRow : OpenClaim := { program := "yteggaepppahefaagreat", sum := "bebf17bc91a4310c9191d0978aaa9871fc4d5d01e35bfedeba78e27191da0873", func := "kedge/kedgelaw19.TrimKeeps", spec := "trimKeeps", inPlace := ["internal/abi.NoEscape", "internal/bytealg.MakeNoZero", "maps.clone"], unfollowed := true, recurses := true, plainKeys := false, apart := false, narrowed := true }
def TrimKeepsUptoSaid : Prop := trimKeepsUptoRow.holds Tryz.pinned (OpenSpec.upto trimKeepsSpec)

/-- 'kedgelaw16.ReplaceNeeds', WHERE WHAT IT READS IS OF BULK AT MOST 1048576: true; the input reads as it did. -/
def replaceNeedsUptoRow : OpenClaim := { program := "yteggaepppahefaagreat", sum := "bebf17bc91a4310c9191d0978aaa9871fc4d5d01e35bfedeba78e27191da0873", func := "kedge/kedgelaw16.ReplaceNeeds", spec := "replaceNeeds", inPlace := ["internal/abi.NoEscape", "internal/bytealg.MakeNoZero"], unfollowed := true, recurses := true, named := ["math/bits.divideError", "math/bits.overflowError"], plainKeys := false, apart := false, narrowed := true }
def ReplaceNeedsUptoSaid : Prop := replaceNeedsUptoRow.holds Tryz.pinned (OpenSpec.upto replaceNeedsSpec)

/-- 'kedgelaw16.ReplaceRules', WHERE WHAT IT READS IS OF BULK AT MOST 1048576: true; the input reads as it did. -/
def replaceRulesUptoRow : OpenClaim := { program := "yteggaepppahefaagreat", sum := "bebf17bc91a4310c9191d0978aaa9871fc4d5d01e35bfedeba78e27191da0873", func := "kedge/kedgelaw16.ReplaceRules", spec := "replaceRules", inPlace := ["internal/abi.NoEscape", "internal/bytealg.MakeNoZero"], unfollowed := true, recurses := true, named := ["math/bits.divideError", "math/bits.overflowError"], plainKeys := false, apart := false, narrowed := true }
def ReplaceRulesUptoSaid : Prop := replaceRulesUptoRow.holds Tryz.pinned (OpenSpec.upto replaceRulesSpec)

/-- 'kedgelaw16.ReplaceNone', WHERE WHAT IT READS IS OF BULK AT MOST 1048576: true; the input reads as it did. -/
def replaceNoneUptoRow : OpenClaim := { program := "yteggaepppahefaagreat", sum := "bebf17bc91a4310c9191d0978aaa9871fc4d5d01e35bfedeba78e27191da0873", func := "kedge/kedgelaw16.ReplaceNone", spec := "replaceNone", inPlace := ["internal/abi.NoEscape", "internal/bytealg.MakeNoZero"], unfollowed := true, recurses := true, named := ["math/bits.divideError", "math/bits.overflowError"], plainKeys := false, apart := false, narrowed := true }
def ReplaceNoneUptoSaid : Prop := replaceNoneUptoRow.holds Tryz.pinned (OpenSpec.upto replaceNoneSpec)

/-- 'kedgelaw16.ReplaceComes', WHERE WHAT IT READS IS OF BULK AT MOST 1048576: true; the input reads as it did. -/
def replaceComesUptoRow : OpenClaim := { program := "yteggaepppahefaagreat", sum := "bebf17bc91a4310c9191d0978aaa9871fc4d5d01e35bfedeba78e27191da0873", func := "kedge/kedgelaw16.ReplaceComes", spec := "replaceComes", inPlace := ["internal/abi.NoEscape", "internal/bytealg.MakeNoZero"], unfollowed := true, recurses := true, named := ["math/bits.divideError", "math/bits.overflowError"], plainKeys := false, apart := false, narrowed := true }
def ReplaceComesUptoSaid : Prop := replaceComesUptoRow.holds Tryz.pinned (OpenSpec.upto replaceComesSpec)

/-- 'kedgelaw16.ReplacePays', WHERE WHAT IT READS IS OF BULK AT MOST 1048576: true; the input reads as it did. -/
def replacePaysUptoRow : OpenClaim := { program := "yteggaepppahefaagreat", sum := "bebf17bc91a4310c9191d0978aaa9871fc4d5d01e35bfedeba78e27191da0873", func := "kedge/kedgelaw16.ReplacePays", spec := "replacePays", inPlace := ["internal/abi.NoEscape", "internal/bytealg.MakeNoZero"], unfollowed := true, recurses := true, named := ["math/bits.divideError", "math/bits.overflowError"], plainKeys := false, apart := false, narrowed := true }
def ReplacePaysUptoSaid : Prop := replacePaysUptoRow.holds Tryz.pinned (OpenSpec.upto replacePaysSpec)

end Rows
end Go.Proofs.YteggaepppahefaaGreat
