/-
  No cell of these rows narrows 'for every input' (looked for: loops, veiled, ifaces, maps, wideKeys, modest, calm, conditions, laid).
  DERIVED. THE GIVEN ROWS OF THIS SEAT. 10 by the template 'for every input the law returns true; each argument reads behind the call as it read before'; 0 by the template 'total and deterministic' (their statements: YtfeifodeaphbjaaGreatTotals.lean).
  GIVEN WITH THE SEED: the statements are not yours to turn. If you find one false, say at which input.
  Laid BY PROGRAM, IN A SANDBOX (cutbox-rows.mjs): the forced cells as the released guide's own fill.sh prints them over the translation c7c17995e6c82a3d… (all of the seat's roots in one cut). By AI agents, Wed Nov 11 2026. No macro, syntax, notation, axiom, sorry.
-/
import Derived.Test.YtfeifodeaphbjaaGreatChecked
import GoSem.Claim
import GoSem.ClaimJoined
import GoSem.ClaimMapViews
import Derived.JoinedTies
import Derived.KernelRfl
namespace Go.Proofs.YtfeifodeaphbjaaGreat
/- THE CELL 'sum', in the pinned program and in every row, IS THE sha256 OF THE DUMP (.gsa) THAT YtfeifodeaphbjaaGreatProg.lean LOADS. Nothing in Lean hashes anything: it is a label: what it is worth is what the hold of that sum in a sandbox is worth. -/
noncomputable def Tryz.pinned : Pinned := { name := "ytfeifodeaphbjaagreat", sum := "c7c17995e6c82a3df282b2d1921c5a262b4f7e4d82c6071758f3d64fe747c04e", checked := Tryz.checked }
namespace Rows
def none {H : Type} : Left H := { results := [], args := [] }

/-- 'kedgelaw14.GraphPlays': WHATEVER THE INPUT: true; the input reads as it did. -/
def graphPlaysSpec : ChangeSpec := { name := "graphPlays", fn := fun _ => fun
  | [d1, d2] => { results := [.lit (.bool true)], args := [d1, d2] }
  | _ => none }
def graphPlaysRow : OpenClaim := { program := "ytfeifodeaphbjaagreat", sum := "c7c17995e6c82a3df282b2d1921c5a262b4f7e4d82c6071758f3d64fe747c04e", func := "kedge/kedgelaw14.GraphPlays", spec := "graphPlays", inPlace := ["internal/abi.NoEscape", "internal/bytealg.MakeNoZero"], unfollowed := true, recurses := true, plainKeys := false, apart := false }
def GraphPlaysSaid : Prop := graphPlaysRow.holds Tryz.pinned (OpenSpec.ofChange graphPlaysSpec)

/-- ITS FALSE NEIGHBOUR: 'it returns false'. Refute it at one input. -/
def graphPlaysWrong : ChangeSpec := { name := "graphPlays", fn := fun _ => fun
  | [d1, d2] => { results := [.lit (.bool false)], args := [d1, d2] }
  | _ => none }
def GraphPlaysWrongFalsely : Prop := graphPlaysRow.holds Tryz.pinned (OpenSpec.ofChange graphPlaysWrong)

/-- 'kedgelaw14.GraphBoth': WHATEVER THE INPUT: true; the input reads as it did. -/
def graphBothSpec : ChangeSpec := { name := "graphBoth", fn := fun _ => fun
  | [d] => { results := [.lit (.bool true)], args := [d] }
  | _ => none }
def graphBothRow : OpenClaim := { program := "ytfeifodeaphbjaagreat", sum := "c7c17995e6c82a3df282b2d1921c5a262b4f7e4d82c6071758f3d64fe747c04e", func := "kedge/kedgelaw14.GraphBoth", spec := "graphBoth", inPlace := ["internal/abi.NoEscape", "internal/bytealg.MakeNoZero"], unfollowed := true, recurses := true, plainKeys := false, apart := false }
def GraphBothSaid : Prop := graphBothRow.holds Tryz.pinned (OpenSpec.ofChange graphBothSpec)

/-- ITS FALSE NEIGHBOUR: 'it returns false'. Refute it at one input. -/
def graphBothWrong : ChangeSpec := { name := "graphBoth", fn := fun _ => fun
  | [d] => { results := [.lit (.bool false)], args := [d] }
  | _ => none }
def GraphBothWrongFalsely : Prop := graphBothRow.holds Tryz.pinned (OpenSpec.ofChange graphBothWrong)

/-- 'kedgelaw15.LimitFits': WHATEVER THE INPUT: true; the input reads as it did. -/
def limitFitsSpec : ChangeSpec := { name := "limitFits", fn := fun _ => fun
  | [d1, d2, d3] => { results := [.lit (.bool true)], args := [d1, d2, d3] }
  | _ => none }
def limitFitsRow : OpenClaim := { program := "ytfeifodeaphbjaagreat", sum := "c7c17995e6c82a3df282b2d1921c5a262b4f7e4d82c6071758f3d64fe747c04e", func := "kedge/kedgelaw15.LimitFits", spec := "limitFits", inPlace := ["internal/abi.NoEscape", "internal/bytealg.MakeNoZero"], unfollowed := true, recurses := true, plainKeys := false, apart := false }
def LimitFitsSaid : Prop := limitFitsRow.holds Tryz.pinned (OpenSpec.ofChange limitFitsSpec)

/-- ITS FALSE NEIGHBOUR: 'it returns false'. Refute it at one input. -/
def limitFitsWrong : ChangeSpec := { name := "limitFits", fn := fun _ => fun
  | [d1, d2, d3] => { results := [.lit (.bool false)], args := [d1, d2, d3] }
  | _ => none }
def LimitFitsWrongFalsely : Prop := limitFitsRow.holds Tryz.pinned (OpenSpec.ofChange limitFitsWrong)

/-- 'kedgelaw15.LimitAll': WHATEVER THE INPUT: true; the input reads as it did. -/
def limitAllSpec : ChangeSpec := { name := "limitAll", fn := fun _ => fun
  | [d1, d2, d3] => { results := [.lit (.bool true)], args := [d1, d2, d3] }
  | _ => none }
def limitAllRow : OpenClaim := { program := "ytfeifodeaphbjaagreat", sum := "c7c17995e6c82a3df282b2d1921c5a262b4f7e4d82c6071758f3d64fe747c04e", func := "kedge/kedgelaw15.LimitAll", spec := "limitAll", inPlace := ["internal/abi.NoEscape", "internal/bytealg.MakeNoZero"], unfollowed := true, recurses := true, plainKeys := false, apart := false }
def LimitAllSaid : Prop := limitAllRow.holds Tryz.pinned (OpenSpec.ofChange limitAllSpec)

/-- ITS FALSE NEIGHBOUR: 'it returns false'. Refute it at one input. -/
def limitAllWrong : ChangeSpec := { name := "limitAll", fn := fun _ => fun
  | [d1, d2, d3] => { results := [.lit (.bool false)], args := [d1, d2, d3] }
  | _ => none }
def LimitAllWrongFalsely : Prop := limitAllRow.holds Tryz.pinned (OpenSpec.ofChange limitAllWrong)

/-- 'kedgelaw15.LimitCarves': WHATEVER THE INPUT: true; the input reads as it did. -/
def limitCarvesSpec : ChangeSpec := { name := "limitCarves", fn := fun _ => fun
  | [d1, d2] => { results := [.lit (.bool true)], args := [d1, d2] }
  | _ => none }
def limitCarvesRow : OpenClaim := { program := "ytfeifodeaphbjaagreat", sum := "c7c17995e6c82a3df282b2d1921c5a262b4f7e4d82c6071758f3d64fe747c04e", func := "kedge/kedgelaw15.LimitCarves", spec := "limitCarves", inPlace := ["internal/abi.NoEscape", "internal/bytealg.MakeNoZero"], unfollowed := true, recurses := true, plainKeys := false, apart := false }
def LimitCarvesSaid : Prop := limitCarvesRow.holds Tryz.pinned (OpenSpec.ofChange limitCarvesSpec)

/-- ITS FALSE NEIGHBOUR: 'it returns false'. Refute it at one input. -/
def limitCarvesWrong : ChangeSpec := { name := "limitCarves", fn := fun _ => fun
  | [d1, d2] => { results := [.lit (.bool false)], args := [d1, d2] }
  | _ => none }
def LimitCarvesWrongFalsely : Prop := limitCarvesRow.holds Tryz.pinned (OpenSpec.ofChange limitCarvesWrong)

/-- 'kedgelaw14.GraphHangs': WHATEVER THE INPUT: true; the input reads as it did. -/
def graphHangsSpec : ChangeSpec := { name := "graphHangs", fn := fun _ => fun
  | [d1, d2, d3] => { results := [.lit (.bool true)], args := [d1, d2, d3] }
  | _ => none }
def graphHangsRow : OpenClaim := { program := "ytfeifodeaphbjaagreat", sum := "c7c17995e6c82a3df282b2d1921c5a262b4f7e4d82c6071758f3d64fe747c04e", func := "kedge/kedgelaw14.GraphHangs", spec := "graphHangs", inPlace := ["internal/abi.NoEscape", "internal/bytealg.MakeNoZero"], unfollowed := true, recurses := true, plainKeys := false, apart := false }
def GraphHangsSaid : Prop := graphHangsRow.holds Tryz.pinned (OpenSpec.ofChange graphHangsSpec)

/-- ITS FALSE NEIGHBOUR: 'it returns false'. Refute it at one input. -/
def graphHangsWrong : ChangeSpec := { name := "graphHangs", fn := fun _ => fun
  | [d1, d2, d3] => { results := [.lit (.bool false)], args := [d1, d2, d3] }
  | _ => none }
def GraphHangsWrongFalsely : Prop := graphHangsRow.holds Tryz.pinned (OpenSpec.ofChange graphHangsWrong)

/-- 'kedgelaw14.GraphAgain': WHATEVER THE INPUT: true; the input reads as it did. -/
def graphAgainSpec : ChangeSpec := { name := "graphAgain", fn := fun _ => fun
  | [d] => { results := [.lit (.bool true)], args := [d] }
  | _ => none }
def graphAgainRow : OpenClaim := { program := "ytfeifodeaphbjaagreat", sum := "c7c17995e6c82a3df282b2d1921c5a262b4f7e4d82c6071758f3d64fe747c04e", func := "kedge/kedgelaw14.GraphAgain", spec := "graphAgain", inPlace := ["internal/abi.NoEscape", "internal/bytealg.MakeNoZero"], unfollowed := true, recurses := true, plainKeys := false, apart := false }
def GraphAgainSaid : Prop := graphAgainRow.holds Tryz.pinned (OpenSpec.ofChange graphAgainSpec)

/-- ITS FALSE NEIGHBOUR: 'it returns false'. Refute it at one input. -/
def graphAgainWrong : ChangeSpec := { name := "graphAgain", fn := fun _ => fun
  | [d] => { results := [.lit (.bool false)], args := [d] }
  | _ => none }
def GraphAgainWrongFalsely : Prop := graphAgainRow.holds Tryz.pinned (OpenSpec.ofChange graphAgainWrong)

/-- 'kedgelaw15.LimitKeeps': WHATEVER THE INPUT: true; the input reads as it did. -/
def limitKeepsSpec : ChangeSpec := { name := "limitKeeps", fn := fun _ => fun
  | [d] => { results := [.lit (.bool true)], args := [d] }
  | _ => none }
def limitKeepsRow : OpenClaim := { program := "ytfeifodeaphbjaagreat", sum := "c7c17995e6c82a3df282b2d1921c5a262b4f7e4d82c6071758f3d64fe747c04e", func := "kedge/kedgelaw15.LimitKeeps", spec := "limitKeeps", inPlace := ["internal/abi.NoEscape", "internal/bytealg.MakeNoZero"], unfollowed := true, recurses := true, plainKeys := false, apart := false }
def LimitKeepsSaid : Prop := limitKeepsRow.holds Tryz.pinned (OpenSpec.ofChange limitKeepsSpec)

/-- ITS FALSE NEIGHBOUR: 'it returns false'. Refute it at one input. -/
def limitKeepsWrong : ChangeSpec := { name := "limitKeeps", fn := fun _ => fun
  | [d] => { results := [.lit (.bool false)], args := [d] }
  | _ => none }
def LimitKeepsWrongFalsely : Prop := limitKeepsRow.holds Tryz.pinned (OpenSpec.ofChange limitKeepsWrong)

/-- 'kedgelaw15.LimitLess': WHATEVER THE INPUT: true; the input reads as it did. -/
def limitLessSpec : ChangeSpec := { name := "limitLess", fn := fun _ => fun
  | [d1, d2, d3] => { results := [.lit (.bool true)], args := [d1, d2, d3] }
  | _ => none }
def limitLessRow : OpenClaim := { program := "ytfeifodeaphbjaagreat", sum := "c7c17995e6c82a3df282b2d1921c5a262b4f7e4d82c6071758f3d64fe747c04e", func := "kedge/kedgelaw15.LimitLess", spec := "limitLess", inPlace := ["internal/abi.NoEscape", "internal/bytealg.MakeNoZero"], unfollowed := true, recurses := true, plainKeys := false, apart := false }
def LimitLessSaid : Prop := limitLessRow.holds Tryz.pinned (OpenSpec.ofChange limitLessSpec)

/-- ITS FALSE NEIGHBOUR: 'it returns false'. Refute it at one input. -/
def limitLessWrong : ChangeSpec := { name := "limitLess", fn := fun _ => fun
  | [d1, d2, d3] => { results := [.lit (.bool false)], args := [d1, d2, d3] }
  | _ => none }
def LimitLessWrongFalsely : Prop := limitLessRow.holds Tryz.pinned (OpenSpec.ofChange limitLessWrong)

/-- 'kedgelaw14.GraphCopy': WHATEVER THE INPUT: true; the input reads as it did. -/
def graphCopySpec : ChangeSpec := { name := "graphCopy", fn := fun _ => fun
  | [d1, d2] => { results := [.lit (.bool true)], args := [d1, d2] }
  | _ => none }
def graphCopyRow : OpenClaim := { program := "ytfeifodeaphbjaagreat", sum := "c7c17995e6c82a3df282b2d1921c5a262b4f7e4d82c6071758f3d64fe747c04e", func := "kedge/kedgelaw14.GraphCopy", spec := "graphCopy", inPlace := ["internal/abi.NoEscape", "internal/bytealg.MakeNoZero", "maps.clone"], unfollowed := true, recurses := true, plainKeys := false, apart := false }
def GraphCopySaid : Prop := graphCopyRow.holds Tryz.pinned (OpenSpec.ofChange graphCopySpec)

/-- ITS FALSE NEIGHBOUR: 'it returns false'. Refute it at one input. -/
def graphCopyWrong : ChangeSpec := { name := "graphCopy", fn := fun _ => fun
  | [d1, d2] => { results := [.lit (.bool false)], args := [d1, d2] }
  | _ => none }
def GraphCopyWrongFalsely : Prop := graphCopyRow.holds Tryz.pinned (OpenSpec.ofChange graphCopyWrong)

/- THE SECOND FORM. 'bulk': how many values and letters a reading holds, each counted each time it is reached (what is shared counts as often as it is met; a slice's spare places count too). A statement '..UptoSaid' is the law's where the arguments, and the package variables that the reading takes, are together of bulk at most 1048576: NARROWER than '..Said'. Prove '..Said' where nothing that the law and all that it calls make is longer than what came in: it says more and counts as full. Else prove '..UptoSaid'. A law counts once. -/
mutual
def uptoBulk {H : Type} : DataW H → Nat
  | .lit (.string bytes) => bytes.length + 1
  | .lit _ => 1
  | .nil => 1
  | .ptr d => uptoBulk d + 1
  | .slice elems spare => uptoBulkAll elems + uptoBulkAll spare + 1
  | .agg parts => uptoBulkAll parts + 1
  | .iface _ d => uptoBulk d + 1
  | .map entries => uptoBulkEntries entries + 1
  | .held _ => 1
def uptoBulkAll {H : Type} : List (DataW H) → Nat
  | [] => 0
  | d :: r => uptoBulk d + uptoBulkAll r
def uptoBulkEntries {H : Type} : List (Lit × DataW H) → Nat
  | [] => 0
  | x :: r => uptoBulkEntry x + uptoBulkEntries r
def uptoBulkEntry {H : Type} : Lit × DataW H → Nat
  | (.string bytes, d) => bytes.length + uptoBulk d + 1
  | (_, d) => uptoBulk d + 1
 end
def uptoSmall : (H : Type) → List (DataW H) → Bool := fun _ ds => decide (uptoBulkAll ds ≤ 1048576)
def OpenSpec.upto (s : _root_.Go.ChangeSpec) : _root_.Go.OpenSpec := { _root_.Go.OpenSpec.ofChange s with cond := some uptoSmall }

/-- 'kedgelaw14.GraphPlays', WHERE WHAT IT READS IS OF BULK AT MOST 1048576: true; the input reads as it did. -/
def graphPlaysUptoRow : OpenClaim := { program := "ytfeifodeaphbjaagreat", sum := "c7c17995e6c82a3df282b2d1921c5a262b4f7e4d82c6071758f3d64fe747c04e", func := "kedge/kedgelaw14.GraphPlays", spec := "graphPlays", inPlace := ["internal/abi.NoEscape", "internal/bytealg.MakeNoZero"], unfollowed := true, recurses := true, plainKeys := false, apart := false, narrowed := true }
def GraphPlaysUptoSaid : Prop := graphPlaysUptoRow.holds Tryz.pinned (OpenSpec.upto graphPlaysSpec)

/-- 'kedgelaw14.GraphBoth', WHERE WHAT IT READS IS OF BULK AT MOST 1048576: true; the input reads as it did. -/
def graphBothUptoRow : OpenClaim := { program := "ytfeifodeaphbjaagreat", sum := "c7c17995e6c82a3df282b2d1921c5a262b4f7e4d82c6071758f3d64fe747c04e", func := "kedge/kedgelaw14.GraphBoth", spec := "graphBoth", inPlace := ["internal/abi.NoEscape", "internal/bytealg.MakeNoZero"], unfollowed := true, recurses := true, plainKeys := false, apart := false, narrowed := true }
def GraphBothUptoSaid : Prop := graphBothUptoRow.holds Tryz.pinned (OpenSpec.upto graphBothSpec)

/-- 'kedgelaw15.LimitFits', WHERE WHAT IT READS IS OF BULK AT MOST 1048576: true; the input reads as it did. -/
def limitFitsUptoRow : OpenClaim := { program := "ytfeifodeaphbjaagreat", sum := "c7c17995e6c82a3df282b2d1921c5a262b4f7e4d82c6071758f3d64fe747c04e", func := "kedge/kedgelaw15.LimitFits", spec := "limitFits", inPlace := ["internal/abi.NoEscape", "internal/bytealg.MakeNoZero"], unfollowed := true, recurses := true, plainKeys := false, apart := false, narrowed := true }
def LimitFitsUptoSaid : Prop := limitFitsUptoRow.holds Tryz.pinned (OpenSpec.upto limitFitsSpec)

/-- 'kedgelaw15.LimitAll', WHERE WHAT IT READS IS OF BULK AT MOST 1048576: true; the input reads as it did. -/
def limitAllUptoRow : OpenClaim := { program := "ytfeifodeaphbjaagreat", sum := "c7c17995e6c82a3df282b2d1921c5a262b4f7e4d82c6071758f3d64fe747c04e", func := "kedge/kedgelaw15.LimitAll", spec := "limitAll", inPlace := ["internal/abi.NoEscape", "internal/bytealg.MakeNoZero"], unfollowed := true, recurses := true, plainKeys := false, apart := false, narrowed := true }
def LimitAllUptoSaid : Prop := limitAllUptoRow.holds Tryz.pinned (OpenSpec.upto limitAllSpec)

/-- 'kedgelaw15.LimitCarves', WHERE WHAT IT READS IS OF BULK AT MOST 1048576: true; the input reads as it did. -/
def limitCarvesUptoRow : OpenClaim := { program := "ytfeifodeaphbjaagreat", sum := "c7c17995e6c82a3df282b2d1921c5a262b4f7e4d82c6071758f3d64fe747c04e", func := "kedge/kedgelaw15.LimitCarves", spec := "limitCarves", inPlace := ["internal/abi.NoEscape", "internal/bytealg.MakeNoZero"], unfollowed := true, recurses := true, plainKeys := false, apart := false, narrowed := true }
def LimitCarvesUptoSaid : Prop := limitCarvesUptoRow.holds Tryz.pinned (OpenSpec.upto limitCarvesSpec)

/-- 'kedgelaw14.GraphHangs', WHERE WHAT IT READS IS OF BULK AT MOST 1048576: true; the input reads as it did. -/
def graphHangsUptoRow : OpenClaim := { program := "ytfeifodeaphbjaagreat", sum := "c7c17995e6c82a3df282b2d1921c5a262b4f7e4d82c6071758f3d64fe747c04e", func := "kedge/kedgelaw14.GraphHangs", spec := "graphHangs", inPlace := ["internal/abi.NoEscape", "internal/bytealg.MakeNoZero"], unfollowed := true, recurses := true, plainKeys := false, apart := false, narrowed := true }
def GraphHangsUptoSaid : Prop := graphHangsUptoRow.holds Tryz.pinned (OpenSpec.upto graphHangsSpec)

/-- 'kedgelaw14.GraphAgain', WHERE WHAT IT READS IS OF BULK AT MOST 1048576: true; the input reads as it did. -/
def graphAgainUptoRow : OpenClaim := { program := "ytfeifodeaphbjaagreat", sum := "c7c17995e6c82a3df282b2d1921c5a262b4f7e4d82c6071758f3d64fe747c04e", func := "kedge/kedgelaw14.GraphAgain", spec := "graphAgain", inPlace := ["internal/abi.NoEscape", "internal/bytealg.MakeNoZero"], unfollowed := true, recurses := true, plainKeys := false, apart := false, narrowed := true }
def GraphAgainUptoSaid : Prop := graphAgainUptoRow.holds Tryz.pinned (OpenSpec.upto graphAgainSpec)

/-- 'kedgelaw15.LimitKeeps', WHERE WHAT IT READS IS OF BULK AT MOST 1048576: true; the input reads as it did. -/
def limitKeepsUptoRow : OpenClaim := { program := "ytfeifodeaphbjaagreat", sum := "c7c17995e6c82a3df282b2d1921c5a262b4f7e4d82c6071758f3d64fe747c04e", func := "kedge/kedgelaw15.LimitKeeps", spec := "limitKeeps", inPlace := ["internal/abi.NoEscape", "internal/bytealg.MakeNoZero"], unfollowed := true, recurses := true, plainKeys := false, apart := false, narrowed := true }
def LimitKeepsUptoSaid : Prop := limitKeepsUptoRow.holds Tryz.pinned (OpenSpec.upto limitKeepsSpec)

/-- 'kedgelaw15.LimitLess', WHERE WHAT IT READS IS OF BULK AT MOST 1048576: true; the input reads as it did. -/
def limitLessUptoRow : OpenClaim := { program := "ytfeifodeaphbjaagreat", sum := "c7c17995e6c82a3df282b2d1921c5a262b4f7e4d82c6071758f3d64fe747c04e", func := "kedge/kedgelaw15.LimitLess", spec := "limitLess", inPlace := ["internal/abi.NoEscape", "internal/bytealg.MakeNoZero"], unfollowed := true, recurses := true, plainKeys := false, apart := false, narrowed := true }
def LimitLessUptoSaid : Prop := limitLessUptoRow.holds Tryz.pinned (OpenSpec.upto limitLessSpec)

/-- 'kedgelaw14.GraphCopy', WHERE WHAT IT READS IS OF BULK AT MOST 1048576: true; the input reads as it did. -/
def graphCopyUptoRow : OpenClaim := { program := "ytfeifodeaphbjaagreat", sum := "c7c17995e6c82a3df282b2d1921c5a262b4f7e4d82c6071758f3d64fe747c04e", func := "kedge/kedgelaw14.GraphCopy", spec := "graphCopy", inPlace := ["internal/abi.NoEscape", "internal/bytealg.MakeNoZero", "maps.clone"], unfollowed := true, recurses := true, plainKeys := false, apart := false, narrowed := true }
def GraphCopyUptoSaid : Prop := graphCopyUptoRow.holds Tryz.pinned (OpenSpec.upto graphCopySpec)

end Rows
end Go.Proofs.YtfeifodeaphbjaaGreat
