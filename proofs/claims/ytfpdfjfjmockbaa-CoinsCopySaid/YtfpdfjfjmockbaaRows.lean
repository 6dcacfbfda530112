/-
  No cell of these rows narrows 'for every input' (looked for: loops, veiled, ifaces, maps, wideKeys, modest, calm, conditions, laid).
  DERIVED. THE GIVEN ROWS OF THIS SEAT. 4 by the template 'for every input the law returns true; each argument reads behind the call as it read before'; 0 by the template 'total and deterministic' (their statements: YtfpdfjfjmockbaaTotals.lean).
  GIVEN WITH THE SEED: the statements are not yours to turn. If you find one false, say at which input.
  Laid BY PROGRAM, IN A SANDBOX (cutbox-rows.mjs): the forced cells as the released guide's own fill.sh prints them over the translation 490cc383f6c0f172… (all of the seat's roots in one cut). By AI agents, Wed Nov 11 2026. No macro, syntax, notation, axiom, sorry.
-/
import Derived.Test.YtfpdfjfjmockbaaChecked
import GoSem.Claim
import GoSem.ClaimJoined
import GoSem.ClaimMapViews
import Derived.JoinedTies
import Derived.KernelRfl
namespace Go.Proofs.Ytfpdfjfjmockbaa
/- THE CELL 'sum', in the pinned program and in every row, IS THE sha256 OF THE DUMP (.gsa) THAT YtfpdfjfjmockbaaProg.lean LOADS. Nothing in Lean hashes anything: it is a label: what it is worth is what the hold of that sum in a sandbox is worth. -/
noncomputable def Try.pinned : Pinned := { name := "ytfpdfjfjmockbaa", sum := "490cc383f6c0f1726155424f2104d6d6ef6432c7a9844afd0bfb1770597c1d2d", checked := Try.checked }
namespace Rows
def none {H : Type} : Left H := { results := [], args := [] }

/-- 'kedgelaw10.CoinsPlay': WHATEVER THE INPUT: true; the input reads as it did. -/
def coinsPlaySpec : ChangeSpec := { name := "coinsPlay", fn := fun _ => fun
  | [d] => { results := [.lit (.bool true)], args := [d] }
  | _ => none }
def coinsPlayRow : OpenClaim := { program := "ytfpdfjfjmockbaa", sum := "490cc383f6c0f1726155424f2104d6d6ef6432c7a9844afd0bfb1770597c1d2d", func := "kedge/kedgelaw10.CoinsPlay", spec := "coinsPlay", inPlace := ["internal/bytealg.abigen_runtime_cmpstring"], unfollowed := true, recurses := true, plainKeys := false, apart := false }
def CoinsPlaySaid : Prop := coinsPlayRow.holds Try.pinned (OpenSpec.ofChange coinsPlaySpec)

/-- ITS FALSE NEIGHBOUR: 'it returns false'. Refute it at one input. -/
def coinsPlayWrong : ChangeSpec := { name := "coinsPlay", fn := fun _ => fun
  | [d] => { results := [.lit (.bool false)], args := [d] }
  | _ => none }
def CoinsPlayWrongFalsely : Prop := coinsPlayRow.holds Try.pinned (OpenSpec.ofChange coinsPlayWrong)

/-- 'kedgelaw10.CoinsOrder': WHATEVER THE INPUT: true; the input reads as it did. -/
def coinsOrderSpec : ChangeSpec := { name := "coinsOrder", fn := fun _ => fun
  | [d] => { results := [.lit (.bool true)], args := [d] }
  | _ => none }
def coinsOrderRow : OpenClaim := { program := "ytfpdfjfjmockbaa", sum := "490cc383f6c0f1726155424f2104d6d6ef6432c7a9844afd0bfb1770597c1d2d", func := "kedge/kedgelaw10.CoinsOrder", spec := "coinsOrder", inPlace := ["internal/bytealg.abigen_runtime_cmpstring"], unfollowed := true, recurses := true, plainKeys := false, apart := false }
def CoinsOrderSaid : Prop := coinsOrderRow.holds Try.pinned (OpenSpec.ofChange coinsOrderSpec)

/-- ITS FALSE NEIGHBOUR: 'it returns false'. Refute it at one input. -/
def coinsOrderWrong : ChangeSpec := { name := "coinsOrder", fn := fun _ => fun
  | [d] => { results := [.lit (.bool false)], args := [d] }
  | _ => none }
def CoinsOrderWrongFalsely : Prop := coinsOrderRow.holds Try.pinned (OpenSpec.ofChange coinsOrderWrong)

/-- 'kedgelaw10.CoinsCopy': WHATEVER THE INPUT: true; the input reads as it did. -/
def coinsCopySpec : ChangeSpec := { name := "coinsCopy", fn := fun _ => fun
  | [d1, d2] => { results := [.lit (.bool true)], args := [d1, d2] }
  | _ => none }
def coinsCopyRow : OpenClaim := { program := "ytfpdfjfjmockbaa", sum := "490cc383f6c0f1726155424f2104d6d6ef6432c7a9844afd0bfb1770597c1d2d", func := "kedge/kedgelaw10.CoinsCopy", spec := "coinsCopy", inPlace := ["internal/bytealg.abigen_runtime_cmpstring", "maps.clone"], unfollowed := true, recurses := true, plainKeys := false, apart := false }
def CoinsCopySaid : Prop := coinsCopyRow.holds Try.pinned (OpenSpec.ofChange coinsCopySpec)

/-- ITS FALSE NEIGHBOUR: 'it returns false'. Refute it at one input. -/
def coinsCopyWrong : ChangeSpec := { name := "coinsCopy", fn := fun _ => fun
  | [d1, d2] => { results := [.lit (.bool false)], args := [d1, d2] }
  | _ => none }
def CoinsCopyWrongFalsely : Prop := coinsCopyRow.holds Try.pinned (OpenSpec.ofChange coinsCopyWrong)

/-- 'kedgelaw10.CoinsNil': WHATEVER THE INPUT: true; the input reads as it did. -/
def coinsNilSpec : ChangeSpec := { name := "coinsNil", fn := fun _ => fun
  | [d] => { results := [.lit (.bool true)], args := [d] }
  | _ => none }
def coinsNilRow : OpenClaim := { program := "ytfpdfjfjmockbaa", sum := "490cc383f6c0f1726155424f2104d6d6ef6432c7a9844afd0bfb1770597c1d2d", func := "kedge/kedgelaw10.CoinsNil", spec := "coinsNil", inPlace := ["internal/bytealg.abigen_runtime_cmpstring", "maps.clone"], unfollowed := true, recurses := true, plainKeys := false, apart := false }
def CoinsNilSaid : Prop := coinsNilRow.holds Try.pinned (OpenSpec.ofChange coinsNilSpec)

/-- ITS FALSE NEIGHBOUR: 'it returns false'. Refute it at one input. -/
def coinsNilWrong : ChangeSpec := { name := "coinsNil", fn := fun _ => fun
  | [d] => { results := [.lit (.bool false)], args := [d] }
  | _ => none }
def CoinsNilWrongFalsely : Prop := coinsNilRow.holds Try.pinned (OpenSpec.ofChange coinsNilWrong)

/- THE SECOND FORM. 'bulk': how many values and letters a reading holds, each counted each time it is reached (what is shared counts as often as it is met; a slice's spare places count too). A statement '..UptoSaid' is the law's where the arguments, and the package variables that the reading takes, are together of bulk at most 1048576: NARROWER than '..Said'. Prove '..Said' where nothing that the law and all that it calls make is longer than what came in: it says more and counts as full. Else prove '..UptoSaid'. A law counts once. -/
mutual
def uptoBulk {H : Type} : DataW H → Nat
  | .lit (.string bytes) => bytes.length + 1
  | .lit _ => 1
  | .nil => 1
  | .ptr d => uptoBulk d + 1
  | .slice elems spare => uptoBulkAll elems + uptoBulkAll spare + 1
  | .agg parts => uptoBulkAll parts + 1
  | .iface _ d => uptoBulk d + 1
  | .map entries => uptoBulkEntries entries + 1
  | .held _ => 1
def uptoBulkAll {H : Type} : List (DataW H) → Nat
  | [] => 0
  | d :: r => uptoBulk d + uptoBulkAll r
def uptoBulkEntries {H : Type} : List (Lit × DataW H) → Nat
  | [] => 0
  | x :: r => uptoBulkEntry x + uptoBulkEntries r
def uptoBulkEntry {H : Type} : Lit × DataW H → Nat
  | (.string bytes, d) => bytes.length + uptoBulk d + 1
  | (_, d) => uptoBulk d + 1
 end
def uptoSmall : (H : Type) → List (DataW H) → Bool := fun _ ds => decide (uptoBulkAll ds ≤ 1048576)
def OpenSpec.upto (s : _root_.Go.ChangeSpec) : _root_.Go.OpenSpec := { _root_.Go.OpenSpec.ofChange s with cond := some uptoSmall }

/-- 'kedgelaw10.CoinsPlay', WHERE WHAT IT READS IS OF BULK AT MOST 1048576: true; the input reads as it did. -/
def coinsPlayUptoRow : OpenClaim := { program := "ytfpdfjfjmockbaa", sum := "490cc383f6c0f1726155424f2104d6d6ef6432c7a9844afd0bfb1770597c1d2d", func := "kedge/kedgelaw10.CoinsPlay", spec := "coinsPlay", inPlace := ["internal/bytealg.abigen_runtime_cmpstring"], unfollowed := true, recurses := true, plainKeys := false, apart := false, narrowed := true }
def CoinsPlayUptoSaid : Prop := coinsPlayUptoRow.holds Try.pinned (OpenSpec.upto coinsPlaySpec)

/-- 'kedgelaw10.CoinsOrder', WHERE WHAT IT READS IS OF BULK AT MOST 1048576: true; the input reads as it did. -/
def coinsOrderUptoRow : OpenClaim := { program := "ytfpdfjfjmockbaa", sum := "490cc383f6c0f1726155424f2104d6d6ef6432c7a9844afd0bfb1770597c1d2d", func := "kedge/kedgelaw10.CoinsOrder", spec := "coinsOrder", inPlace := ["internal/bytealg.abigen_runtime_cmpstring"], unfollowed := true, recurses := true, plainKeys := false, apart := false, narrowed := true }
def CoinsOrderUptoSaid : Prop := coinsOrderUptoRow.holds Try.pinned (OpenSpec.upto coinsOrderSpec)

/-- 'kedgelaw10.CoinsCopy', WHERE WHAT IT READS IS OF BULK AT MOST 1048576: true; the input reads as it did. -/
def coinsCopyUptoRow : OpenClaim := { program := "ytfpdfjfjmockbaa", sum := "490cc383f6c0f1726155424f2104d6d6ef6432c7a9844afd0bfb1770597c1d2d", func := "kedge/kedgelaw10.CoinsCopy", spec := "coinsCopy", inPlace := ["internal/bytealg.abigen_runtime_cmpstring", "maps.clone"], unfollowed := true, recurses := true, plainKeys := false, apart := false, narrowed := true }
def CoinsCopyUptoSaid : Prop := coinsCopyUptoRow.holds Try.pinned (OpenSpec.upto coinsCopySpec)

/-- 'kedgelaw10.CoinsNil', WHERE WHAT IT READS IS OF BULK AT MOST 1048576: true; the input reads as it did. -/
def coinsNilUptoRow : OpenClaim := { program := "ytfpdfjfjmockbaa", sum := "490cc383f6c0f1726155424f2104d6d6ef6432c7a9844afd0bfb1770597c1d2d", func := "kedge/kedgelaw10.CoinsNil", spec := "coinsNil", inPlace := ["internal/bytealg.abigen_runtime_cmpstring", "maps.clone"], unfollowed := true, recurses := true, plainKeys := false, apart := false, narrowed := true }
def CoinsNilUptoSaid : Prop := coinsNilUptoRow.holds Try.pinned (OpenSpec.upto coinsNilSpec)

end Rows
end Go.Proofs.Ytfpdfjfjmockbaa
