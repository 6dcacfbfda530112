/-
  No cell of these rows narrows 'for every input' (looked for: loops, veiled, ifaces, maps, wideKeys, modest, calm, conditions, laid).
  DERIVED. THE GIVEN ROWS OF THIS SEAT. 7 by the template 'for every input the law returns true; each argument reads behind the call as it read before'; 0 by the template 'total and deterministic' (their statements: YtgloknkcfchnlaaGreatTotals.lean).
  GIVEN WITH THE SEED: the statements are not yours to turn. If you find one false, say at which input.
  Laid BY PROGRAM, IN A SANDBOX (cutbox-rows.mjs): the forced cells as the released guide's own fill.sh prints them over the translation b7c21797deb40fba… (all of the seat's roots in one cut). By AI agents, Wed Nov 11 2026. No macro, syntax, notation, axiom, sorry.
-/
import Derived.Test.YtgloknkcfchnlaaGreatChecked
import GoSem.Claim
import GoSem.ClaimJoined
import GoSem.ClaimMapViews
import Derived.JoinedTies
import Derived.KernelRfl
namespace Go.Proofs.YtgloknkcfchnlaaGreat
/- THE CELL 'sum', in the pinned program and in every row, IS THE sha256 OF THE DUMP (.gsa) THAT YtgloknkcfchnlaaGreatProg.lean LOADS. Nothing in Lean hashes anything: it is a label: what it is worth is what the hold of that sum in a sandbox is worth. -/
noncomputable def Tryz.pinned : Pinned := { name := "ytgloknkcfchnlaagreat", sum := "b7c21797deb40fba32aaabcba3e35d8fcf31e2329180cd61cf4d6b431529d7d6", checked := Tryz.checked }
namespace Rows
def none {H : Type} : Left H := { results := [], args := [] }

/-- 'kedgelaw17.PoolOver': WHATEVER THE INPUT: true; the input reads as it did. -/
def poolOverSpec : ChangeSpec := { name := "poolOver", fn := fun _ => fun
  | [d1, d2, d3] => { results := [.lit (.bool true)], args := [d1, d2, d3] }
  | _ => none }
def poolOverRow : OpenClaim := { program := "ytgloknkcfchnlaagreat", sum := "b7c21797deb40fba32aaabcba3e35d8fcf31e2329180cd61cf4d6b431529d7d6", func := "kedge/kedgelaw17.PoolOver", spec := "poolOver", inPlace := ["internal/abi.NoEscape", "internal/bytealg.MakeNoZero", "maps.clone", "internal/reflectlite.TypeOf"], unfollowed := true, recurses := true, named := ["math/bits.divideError", "math/bits.overflowError"], plainKeys := false, apart := false }
def PoolOverSaid : Prop := poolOverRow.holds Tryz.pinned (OpenSpec.ofChange poolOverSpec)

/-- ITS FALSE NEIGHBOUR: 'it returns false'. Refute it at one input. -/
def poolOverWrong : ChangeSpec := { name := "poolOver", fn := fun _ => fun
  | [d1, d2, d3] => { results := [.lit (.bool false)], args := [d1, d2, d3] }
  | _ => none }
def PoolOverWrongFalsely : Prop := poolOverRow.holds Tryz.pinned (OpenSpec.ofChange poolOverWrong)

/-- 'kedgelaw17.PoolKeeps': WHATEVER THE INPUT: true; the input reads as it did. -/
def poolKeepsSpec : ChangeSpec := { name := "poolKeeps", fn := fun _ => fun
  | [d1, d2, d3] => { results := [.lit (.bool true)], args := [d1, d2, d3] }
  | _ => none }
def poolKeepsRow : OpenClaim := { program := "ytgloknkcfchnlaagreat", sum := "b7c21797deb40fba32aaabcba3e35d8fcf31e2329180cd61cf4d6b431529d7d6", func := "kedge/kedgelaw17.PoolKeeps", spec := "poolKeeps", inPlace := ["internal/abi.NoEscape", "internal/bytealg.MakeNoZero", "maps.clone", "internal/reflectlite.TypeOf"], unfollowed := true, recurses := true, named := ["math/bits.divideError", "math/bits.overflowError"], plainKeys := false, apart := false }
def PoolKeepsSaid : Prop := poolKeepsRow.holds Tryz.pinned (OpenSpec.ofChange poolKeepsSpec)

/-- ITS FALSE NEIGHBOUR: 'it returns false'. Refute it at one input. -/
def poolKeepsWrong : ChangeSpec := { name := "poolKeeps", fn := fun _ => fun
  | [d1, d2, d3] => { results := [.lit (.bool false)], args := [d1, d2, d3] }
  | _ => none }
def PoolKeepsWrongFalsely : Prop := poolKeepsRow.holds Tryz.pinned (OpenSpec.ofChange poolKeepsWrong)

/-- 'kedgelaw17.PoolLower': WHATEVER THE INPUT: true; the input reads as it did. -/
def poolLowerSpec : ChangeSpec := { name := "poolLower", fn := fun _ => fun
  | [d1, d2, d3] => { results := [.lit (.bool true)], args := [d1, d2, d3] }
  | _ => none }
def poolLowerRow : OpenClaim := { program := "ytgloknkcfchnlaagreat", sum := "b7c21797deb40fba32aaabcba3e35d8fcf31e2329180cd61cf4d6b431529d7d6", func := "kedge/kedgelaw17.PoolLower", spec := "poolLower", inPlace := ["internal/abi.NoEscape", "internal/bytealg.MakeNoZero", "maps.clone", "internal/reflectlite.TypeOf"], unfollowed := true, recurses := true, named := ["math/bits.divideError", "math/bits.overflowError"], plainKeys := false, apart := false }
def PoolLowerSaid : Prop := poolLowerRow.holds Tryz.pinned (OpenSpec.ofChange poolLowerSpec)

/-- ITS FALSE NEIGHBOUR: 'it returns false'. Refute it at one input. -/
def poolLowerWrong : ChangeSpec := { name := "poolLower", fn := fun _ => fun
  | [d1, d2, d3] => { results := [.lit (.bool false)], args := [d1, d2, d3] }
  | _ => none }
def PoolLowerWrongFalsely : Prop := poolLowerRow.holds Tryz.pinned (OpenSpec.ofChange poolLowerWrong)

/-- 'kedgelaw18.PackAlone': WHATEVER THE INPUT: true; the input reads as it did. -/
def packAloneSpec : ChangeSpec := { name := "packAlone", fn := fun _ => fun
  | [d1, d2, d3] => { results := [.lit (.bool true)], args := [d1, d2, d3] }
  | _ => none }
def packAloneRow : OpenClaim := { program := "ytgloknkcfchnlaagreat", sum := "b7c21797deb40fba32aaabcba3e35d8fcf31e2329180cd61cf4d6b431529d7d6", func := "kedge/kedgelaw18.PackAlone", spec := "packAlone", inPlace := ["internal/abi.NoEscape", "internal/bytealg.MakeNoZero", "maps.clone", "internal/reflectlite.TypeOf"], unfollowed := true, recurses := true, named := ["math/bits.divideError", "math/bits.overflowError"], plainKeys := false, apart := false }
def PackAloneSaid : Prop := packAloneRow.holds Tryz.pinned (OpenSpec.ofChange packAloneSpec)

/-- ITS FALSE NEIGHBOUR: 'it returns false'. Refute it at one input. -/
def packAloneWrong : ChangeSpec := { name := "packAlone", fn := fun _ => fun
  | [d1, d2, d3] => { results := [.lit (.bool false)], args := [d1, d2, d3] }
  | _ => none }
def PackAloneWrongFalsely : Prop := packAloneRow.holds Tryz.pinned (OpenSpec.ofChange packAloneWrong)

/-- 'kedgelaw13.ChainBack': WHATEVER THE INPUT: true; the input reads as it did. -/
def chainBackSpec : ChangeSpec := { name := "chainBack", fn := fun _ => fun
  | [d1, d2] => { results := [.lit (.bool true)], args := [d1, d2] }
  | _ => none }
def chainBackRow : OpenClaim := { program := "ytgloknkcfchnlaagreat", sum := "b7c21797deb40fba32aaabcba3e35d8fcf31e2329180cd61cf4d6b431529d7d6", func := "kedge/kedgelaw13.ChainBack", spec := "chainBack", inPlace := ["maps.clone", "internal/abi.NoEscape", "internal/bytealg.MakeNoZero", "internal/bytealg.abigen_runtime_cmpstring"], unfollowed := true, recurses := true, plainKeys := false, apart := false }
def ChainBackSaid : Prop := chainBackRow.holds Tryz.pinned (OpenSpec.ofChange chainBackSpec)

/-- ITS FALSE NEIGHBOUR: 'it returns false'. Refute it at one input. -/
def chainBackWrong : ChangeSpec := { name := "chainBack", fn := fun _ => fun
  | [d1, d2] => { results := [.lit (.bool false)], args := [d1, d2] }
  | _ => none }
def ChainBackWrongFalsely : Prop := chainBackRow.holds Tryz.pinned (OpenSpec.ofChange chainBackWrong)

/-- 'kedgelaw13.ChainMoney': WHATEVER THE INPUT: true; the input reads as it did. -/
def chainMoneySpec : ChangeSpec := { name := "chainMoney", fn := fun _ => fun
  | [d] => { results := [.lit (.bool true)], args := [d] }
  | _ => none }
def chainMoneyRow : OpenClaim := { program := "ytgloknkcfchnlaagreat", sum := "b7c21797deb40fba32aaabcba3e35d8fcf31e2329180cd61cf4d6b431529d7d6", func := "kedge/kedgelaw13.ChainMoney", spec := "chainMoney", inPlace := ["maps.clone", "internal/abi.NoEscape", "internal/bytealg.MakeNoZero", "internal/bytealg.abigen_runtime_cmpstring"], unfollowed := true, recurses := true, plainKeys := false, apart := false }
def ChainMoneySaid : Prop := chainMoneyRow.holds Tryz.pinned (OpenSpec.ofChange chainMoneySpec)

/-- ITS FALSE NEIGHBOUR: 'it returns false'. Refute it at one input. -/
def chainMoneyWrong : ChangeSpec := { name := "chainMoney", fn := fun _ => fun
  | [d] => { results := [.lit (.bool false)], args := [d] }
  | _ => none }
def ChainMoneyWrongFalsely : Prop := chainMoneyRow.holds Tryz.pinned (OpenSpec.ofChange chainMoneyWrong)

/-- 'kedgelaw13.ChainNil': WHATEVER THE INPUT: true; the input reads as it did. -/
def chainNilSpec : ChangeSpec := { name := "chainNil", fn := fun _ => fun
  | [d1, d2] => { results := [.lit (.bool true)], args := [d1, d2] }
  | _ => none }
def chainNilRow : OpenClaim := { program := "ytgloknkcfchnlaagreat", sum := "b7c21797deb40fba32aaabcba3e35d8fcf31e2329180cd61cf4d6b431529d7d6", func := "kedge/kedgelaw13.ChainNil", spec := "chainNil", inPlace := ["maps.clone", "internal/abi.NoEscape", "internal/bytealg.MakeNoZero", "internal/bytealg.abigen_runtime_cmpstring", "internal/reflectlite.TypeOf"], unfollowed := true, recurses := true, plainKeys := false, apart := false }
def ChainNilSaid : Prop := chainNilRow.holds Tryz.pinned (OpenSpec.ofChange chainNilSpec)

/-- ITS FALSE NEIGHBOUR: 'it returns false'. Refute it at one input. -/
def chainNilWrong : ChangeSpec := { name := "chainNil", fn := fun _ => fun
  | [d1, d2] => { results := [.lit (.bool false)], args := [d1, d2] }
  | _ => none }
def ChainNilWrongFalsely : Prop := chainNilRow.holds Tryz.pinned (OpenSpec.ofChange chainNilWrong)

/- THE SECOND FORM. 'bulk': how many values and letters a reading holds, each counted each time it is reached (what is shared counts as often as it is met; a slice's spare places count too). A statement '..UptoSaid' is the law's where the arguments, and the package variables that the reading takes, are together of bulk at most 1048576: NARROWER than '..Said'. Prove '..Said' where nothing that the law and all that it calls make is longer than what came in: it says more and counts as full. Else prove '..UptoSaid'. A law counts once. -/
mutual
def uptoBulk {H : Type} : DataW H → Nat
  | .lit (.string bytes) => bytes.length + 1
  | .lit _ => 1
  | .nil => 1
  | .ptr d => uptoBulk d + 1
  | .slice elems spare => uptoBulkAll elems + uptoBulkAll spare + 1
  | .agg parts => uptoBulkAll parts + 1
  | .iface _ d => uptoBulk d + 1
  | .map entries => uptoBulkEntries entries + 1
  | .held _ => 1
def uptoBulkAll {H : Type} : List (DataW H) → Nat
  | [] => 0
  | d :: r => uptoBulk d + uptoBulkAll r
def uptoBulkEntries {H : Type} : List (Lit × DataW H) → Nat
  | [] => 0
  | x :: r => uptoBulkEntry x + uptoBulkEntries r
def uptoBulkEntry {H : Type} : Lit × DataW H → Nat
  | (.string bytes, d) => bytes.length + uptoBulk d + 1
  | (_, d) => uptoBulk d + 1
 end
def uptoSmall : (H : Type) → List (DataW H) → Bool := fun _ ds => decide (uptoBulkAll ds ≤ 1048576)
def OpenSpec.upto (s : _root_.Go.ChangeSpec) : _root_.Go.OpenSpec := { _root_.Go.OpenSpec.ofChange s with cond := some uptoSmall }

/-- 'kedgelaw17.PoolOver', WHERE WHAT IT READS IS OF BULK AT MOST 1048576: true; the input reads as it did. -/
def poolOverUptoRow : OpenClaim := { program := "ytgloknkcfchnlaagreat", sum := "b7c21797deb40fba32aaabcba3e35d8fcf31e2329180cd61cf4d6b431529d7d6", func := "kedge/kedgelaw17.PoolOver", spec := "poolOver", inPlace := ["internal/abi.NoEscape", "internal/bytealg.MakeNoZero", "maps.clone", "internal/reflectlite.TypeOf"], unfollowed := true, recurses := true, named := ["math/bits.divideError", "math/bits.overflowError"], plainKeys := false, apart := false, narrowed := true }
def PoolOverUptoSaid : Prop := poolOverUptoRow.holds Tryz.pinned (OpenSpec.upto poolOverSpec)

/-- 'kedgelaw17.PoolKeeps', WHERE WHAT IT READS IS OF BULK AT MOST 1048576: true; the input reads as it did. -/
def poolKeepsUptoRow : OpenClaim := { program := "ytgloknkcfchnlaagreat", sum := "b7c21797deb40fba32aaabcba3e35d8fcf31e2329180cd61cf4d6b431529d7d6", func := "kedge/kedgelaw17.PoolKeeps", spec := "poolKeeps", inPlace := ["internal/abi.NoEscape", "internal/bytealg.MakeNoZero", "maps.clone", "internal/reflectlite.TypeOf"], unfollowed := true, recurses := true, named := ["math/bits.divideError", "math/bits.overflowError"], plainKeys := false, apart := false, narrowed := true }
def PoolKeepsUptoSaid : Prop := poolKeepsUptoRow.holds Tryz.pinned (OpenSpec.upto poolKeepsSpec)

/-- 'kedgelaw17.PoolLower', WHERE WHAT IT READS IS OF BULK AT MOST 1048576: true; the input reads as it did. -/
def poolLowerUptoRow : OpenClaim := { program := "ytgloknkcfchnlaagreat", sum := "b7c21797deb40fba32aaabcba3e35d8fcf31e2329180cd61cf4d6b431529d7d6", func := "kedge/kedgelaw17.PoolLower", spec := "poolLower", inPlace := ["internal/abi.NoEscape", "internal/bytealg.MakeNoZero", "maps.clone", "internal/reflectlite.TypeOf"], unfollowed := true, recurses := true, named := ["math/bits.divideError", "math/bits.overflowError"], plainKeys := false, apart := false, narrowed := true }
def PoolLowerUptoSaid : Prop := poolLowerUptoRow.holds Tryz.pinned (OpenSpec.upto poolLowerSpec)

/-- 'kedgelaw18.PackAlone', WHERE WHAT IT READS IS OF BULK AT MOST 1048576: true; the input reads as it did. -/
def packAloneUptoRow : OpenClaim := { program := "ytgloknkcfchnlaagreat", sum := "b7c21797deb40fba32aaabcba3e35d8fcf31e2329180cd61cf4d6b431529d7d6", func := "kedge/kedgelaw18.PackAlone", spec := "packAlone", inPlace := ["internal/abi.NoEscape", "internal/bytealg.MakeNoZero", "maps.clone", "internal/reflectlite.TypeOf"], unfollowed := true, recurses := true, named := ["math/bits.divideError", "math/bits.overflowError"], plainKeys := false, apart := false, narrowed := true }
def PackAloneUptoSaid : Prop := packAloneUptoRow.holds Tryz.pinned (OpenSpec.upto packAloneSpec)

/-- 'kedgelaw13.ChainBack', WHERE WHAT IT READS IS OF BULK AT MOST 1048576: true; the input reads as it did. -/
def chainBackUptoRow : OpenClaim := { program := "ytgloknkcfchnlaagreat", sum := "b7c21797deb40fba32aaabcba3e35d8fcf31e2329180cd61cf4d6b431529d7d6", func := "kedge/kedgelaw13.ChainBack", spec := "chainBack", inPlace := ["maps.clone", "internal/abi.NoEscape", "internal/bytealg.MakeNoZero", "internal/bytealg.abigen_runtime_cmpstring"], unfollowed := true, recurses := true, plainKeys := false, apart := false, narrowed := true }
def ChainBackUptoSaid : Prop := chainBackUptoRow.holds Tryz.pinned (OpenSpec.upto chainBackSpec)

/-- 'kedgelaw13.ChainMoney', WHERE WHAT IT READS IS OF BULK AT MOST 1048576: true; the input reads as it did. -/
def chainMoneyUptoRow : OpenClaim := { program := "ytgloknkcfchnlaagreat", sum := "b7c21797deb40fba32aaabcba3e35d8fcf31e2329180cd61cf4d6b431529d7d6", func := "kedge/kedgelaw13.ChainMoney", spec := "chainMoney", inPlace := ["maps.clone", "internal/abi.NoEscape", "internal/bytealg.MakeNoZero", "internal/bytealg.abigen_runtime_cmpstring"], unfollowed := true, recurses := true, plainKeys := false, apart := false, narrowed := true }
def ChainMoneyUptoSaid : Prop := chainMoneyUptoRow.holds Tryz.pinned (OpenSpec.upto chainMoneySpec)

/-- 'kedgelaw13.ChainNil', WHERE WHAT IT READS IS OF BULK AT MOST 1048576: true; the input reads as it did. -/
def chainNilUptoRow : OpenClaim := { program := "ytgloknkcfchnlaagreat", sum := "b7c21797deb40fba32aaabcba3e35d8fcf31e2329180cd61cf4d6b431529d7d6", func := "kedge/kedgelaw13.ChainNil", spec := "chainNil", inPlace := ["maps.clone", "internal/abi.NoEscape", "internal/bytealg.MakeNoZero", "internal/bytealg.abigen_runtime_cmpstring", "internal/reflectlite.TypeOf"], unfollowed := true, recurses := true, plainKeys := false, apart := false, narrowed := true }
def ChainNilUptoSaid : Prop := chainNilUptoRow.holds Tryz.pinned (OpenSpec.upto chainNilSpec)

end Rows
end Go.Proofs.YtgloknkcfchnlaaGreat
