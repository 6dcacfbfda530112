/- Contracts: errors.Is of equal numbers (walked with the kit's -/
import Derived.Test.YtgloknkcfchnlaaGreatChecked
import Derived.WalkKit
import Derived.LaidEql
import Derived.Lib.IfaceEq
import Derived.Stop.Asserts
import Derived.RowKitTokens
import Derived.Test.YtgloknkcfchnlaaGreatZ29
set_option linter.unusedVariables false
set_option linter.unusedSimpArgs false
namespace Go.Proofs.YtgloknkcfchnlaaGreat
section
open Go Go.RowKit Go.Extern.Stop Go.Stop Go.Extern
theorem bLx (v:Value) (w:World):(Extern.ReflectliteType.typeOf #[.iface 71 v]).run Tryz.prog w=.ok (.iface 224 (.agg #[.pointer (some ⟨3,71,none⟩)])) w:=by kernel_rfl
theorem aHb (v:Value) (w:World):(Go.method 472 224 v "Comparable").run Tryz.prog w=.ok (284,v) w:=by kernel_rfl
theorem aWp (w:World):((Extern.ReflectliteType.method fun t=>do Extern.Rtype.noPackHeld "Comparable" t;Functor.map (fun a=>Value.bool a.comparable) (typeInfo t)) #[.agg #[.pointer (some ⟨3,71,none⟩)]]).run Tryz.prog w=.ok (.bool true) w:=by kernel_rfl
set_option maxRecDepth 20000 in
theorem bNp (a:Int) (w:World):
  Calls Tryz.prog 27 #[.iface 71 (.int .i64 a),.iface 71 (.int .i64 a)] w fun e w'=>e=.returned (.bool true)∧w'=w:=by
 have h8:=@run_callFunc_extern Tryz.prog 72 _ Extern.ReflectliteType.typeOf Tryz.func72 (by kernel_rfl) (by kernel_rfl) (by kernel_rfl) (by kernel_rfl)
 have h32:=@run_callFunc_extern Tryz.prog 284 _ (Extern.ReflectliteType.method fun t=>do Extern.Rtype.noPackHeld "Comparable" t;pure (.bool (←typeInfo t).comparable)) Tryz.func284 (by kernel_rfl) (by kernel_rfl) (by kernel_rfl) (by kernel_rfl)
 have tT:=bLx
 have cT:=aWp
 have mR:=aHb
 have heq:=Go.Lib.run_eql_iface_int (P:=Tryz.prog) w (t:=43) (tx:=71) (k:=.i64) (q:=.i64) a a Tryz.underlying43 (by kernel_rfl) Tryz.underlying71
 go_enter Tryz.func27,Tryz.ntmps27
 go_wp2
 refine wp_loop_rounds 1 ?_
 rw [rounds_succ]
 go_wp2
 go_ret
 exact ⟨rfl,rfl⟩
theorem rT (a:Int) (w:World):K.Spec Tryz.prog 27 [.iface 71 (.int .i64 a),.iface 71 (.int .i64 a)] w fun v w'=>v=.bool true∧w'=w:=
 Calls.mono (bNp a w) fun _ _ h=>⟨_,h.1,rfl,h.2⟩
end
end Go.Proofs.YtgloknkcfchnlaaGreat
