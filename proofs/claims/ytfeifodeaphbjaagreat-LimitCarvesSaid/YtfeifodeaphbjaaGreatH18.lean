/- The resolved code of functions, printed by program. -/
import Derived.Test.YtfeifodeaphbjaaGreatH15
set_option linter.unusedVariables false
set_option linter.unusedSimpArgs false
section
namespace Go.Proofs.YtfeifodeaphbjaaGreat
open Go Go.K
noncomputable def k_sha_Sum : KC :=
(.seq (.reg false <| oR 2 (.move (.const (.string ⟨#[]⟩)))<| .nil) (.seq (.reg false <| oR 12 (.call 116 [])<| oR 13 (.call 117 [])<|
 oR 3 (.alloc 144 [(.int .u32 0), (.int .u32 0), (.int .u32 0), (.int .u32 0), (.int .u32 0), (.int .u32 0), (.int .u32 0), (.int .u32 0)])<|
 oR 4 (.alloc 149 [(.int .u32 0), (.int .u32 0), (.int .u32 0), (.int .u32 0), (.int .u32 0), (.int .u32 0), (.int .u32 0), (.int .u32 0), (.int .u32 0), (.int .u32 0), (.int .u32 0), (.int .u32 0), (.int .u32 0), (.int .u32 0), (.int .u32 0), (.int .u32 0), (.int .u32 0), (.int .u32 0), (.int .u32 0), (.int .u32 0), (.int .u32 0), (.int .u32 0), (.int .u32 0), (.int .u32 0), (.int .u32 0), (.int .u32 0), (.int .u32 0), (.int .u32 0), (.int .u32 0), (.int .u32 0), (.int .u32 0), (.int .u32 0), (.int .u32 0), (.int .u32 0), (.int .u32 0), (.int .u32 0), (.int .u32 0), (.int .u32 0), (.int .u32 0), (.int .u32 0), (.int .u32 0), (.int .u32 0), (.int .u32 0), (.int .u32 0), (.int .u32 0), (.int .u32 0), (.int .u32 0), (.int .u32 0), (.int .u32 0), (.int .u32 0), (.int .u32 0), (.int .u32 0), (.int .u32 0), (.int .u32 0), (.int .u32 0), (.int .u32 0), (.int .u32 0), (.int .u32 0), (.int .u32 0), (.int .u32 0), (.int .u32 0), (.int .u32 0), (.int .u32 0), (.int .u32 0)])<|
 oU 8 3 12<| oU 64 4 13<| .nil) (.seq (.seq (.reg false <| oM 14 0<| oR 15 (oa 118 14)<| oM 0 15<| .nil) (.block 0 (.loop (.seq (.seq (.reg false <| oM 16 0<|
 oR 17 (.bin .neq (t 16) (.const (.string ⟨#[]⟩)))<| .nil) (.cond (t 17) .skip (.exit 0)))
 (.seq (.block 1 (.seq (.reg true <| .join (oM 20 0<| .both (oR 21 (oa 119 20)<| .both (oK 22 8 3<| .both (oR 5 (.alloc 149 [(.int .u32 0), (.int .u32 0), (.int .u32 0), (.int .u32 0), (.int .u32 0), (.int .u32 0), (.int .u32 0), (.int .u32 0), (.int .u32 0), (.int .u32 0), (.int .u32 0), (.int .u32 0), (.int .u32 0), (.int .u32 0), (.int .u32 0), (.int .u32 0), (.int .u32 0), (.int .u32 0), (.int .u32 0), (.int .u32 0), (.int .u32 0), (.int .u32 0), (.int .u32 0), (.int .u32 0), (.int .u32 0), (.int .u32 0), (.int .u32 0), (.int .u32 0), (.int .u32 0), (.int .u32 0), (.int .u32 0), (.int .u32 0), (.int .u32 0), (.int .u32 0), (.int .u32 0), (.int .u32 0), (.int .u32 0), (.int .u32 0), (.int .u32 0), (.int .u32 0), (.int .u32 0), (.int .u32 0), (.int .u32 0), (.int .u32 0), (.int .u32 0), (.int .u32 0), (.int .u32 0), (.int .u32 0), (.int .u32 0), (.int .u32 0), (.int .u32 0), (.int .u32 0), (.int .u32 0), (.int .u32 0), (.int .u32 0), (.int .u32 0), (.int .u32 0), (.int .u32 0), (.int .u32 0), (.int .u32 0), (.int .u32 0), (.int .u32 0), (.int .u32 0), (.int .u32 0)])<|
 oR 6 (.alloc 144 [(.int .u32 0), (.int .u32 0), (.int .u32 0), (.int .u32 0), (.int .u32 0), (.int .u32 0), (.int .u32 0), (.int .u32 0)])<| oU 64 5 21<| .nil)
 (oR 6 (.alloc 144 [(.int .u32 0), (.int .u32 0), (.int .u32 0), (.int .u32 0), (.int .u32 0), (.int .u32 0), (.int .u32 0), (.int .u32 0)])<|
 oR 5 (.alloc 149 [(.int .u32 0), (.int .u32 0), (.int .u32 0), (.int .u32 0), (.int .u32 0), (.int .u32 0), (.int .u32 0), (.int .u32 0), (.int .u32 0), (.int .u32 0), (.int .u32 0), (.int .u32 0), (.int .u32 0), (.int .u32 0), (.int .u32 0), (.int .u32 0), (.int .u32 0), (.int .u32 0), (.int .u32 0), (.int .u32 0), (.int .u32 0), (.int .u32 0), (.int .u32 0), (.int .u32 0), (.int .u32 0), (.int .u32 0), (.int .u32 0), (.int .u32 0), (.int .u32 0), (.int .u32 0), (.int .u32 0), (.int .u32 0), (.int .u32 0), (.int .u32 0), (.int .u32 0), (.int .u32 0), (.int .u32 0), (.int .u32 0), (.int .u32 0), (.int .u32 0), (.int .u32 0), (.int .u32 0), (.int .u32 0), (.int .u32 0), (.int .u32 0), (.int .u32 0), (.int .u32 0), (.int .u32 0), (.int .u32 0), (.int .u32 0), (.int .u32 0), (.int .u32 0), (.int .u32 0), (.int .u32 0), (.int .u32 0), (.int .u32 0), (.int .u32 0), (.int .u32 0), (.int .u32 0), (.int .u32 0), (.int .u32 0), (.int .u32 0), (.int .u32 0), (.int .u32 0)])<|
 oU 64 5 21<| .nil))
 (.both (oR 5 (.alloc 149 [(.int .u32 0), (.int .u32 0), (.int .u32 0), (.int .u32 0), (.int .u32 0), (.int .u32 0), (.int .u32 0), (.int .u32 0), (.int .u32 0), (.int .u32 0), (.int .u32 0), (.int .u32 0), (.int .u32 0), (.int .u32 0), (.int .u32 0), (.int .u32 0), (.int .u32 0), (.int .u32 0), (.int .u32 0), (.int .u32 0), (.int .u32 0), (.int .u32 0), (.int .u32 0), (.int .u32 0), (.int .u32 0), (.int .u32 0), (.int .u32 0), (.int .u32 0), (.int .u32 0), (.int .u32 0), (.int .u32 0), (.int .u32 0), (.int .u32 0), (.int .u32 0), (.int .u32 0), (.int .u32 0), (.int .u32 0), (.int .u32 0), (.int .u32 0), (.int .u32 0), (.int .u32 0), (.int .u32 0), (.int .u32 0), (.int .u32 0), (.int .u32 0), (.int .u32 0), (.int .u32 0), (.int .u32 0), (.int .u32 0), (.int .u32 0), (.int .u32 0), (.int .u32 0), (.int .u32 0), (.int .u32 0), (.int .u32 0), (.int .u32 0), (.int .u32 0), (.int .u32 0), (.int .u32 0), (.int .u32 0), (.int .u32 0), (.int .u32 0), (.int .u32 0), (.int .u32 0)])<| .both (oK 22 8 3<|
 oR 6 (.alloc 144 [(.int .u32 0), (.int .u32 0), (.int .u32 0), (.int .u32 0), (.int .u32 0), (.int .u32 0), (.int .u32 0), (.int .u32 0)])<| oU 64 5 21<| .nil)
 (oR 6 (.alloc 144 [(.int .u32 0), (.int .u32 0), (.int .u32 0), (.int .u32 0), (.int .u32 0), (.int .u32 0), (.int .u32 0), (.int .u32 0)])<| .both (oK 22 8 3<|
 oU 64 5 21<| .nil) (oU 64 5 21<| oK 22 8 3<| .nil)))
 (oR 6 (.alloc 144 [(.int .u32 0), (.int .u32 0), (.int .u32 0), (.int .u32 0), (.int .u32 0), (.int .u32 0), (.int .u32 0), (.int .u32 0)])<| .both (oK 22 8 3<|
 oR 5 (.alloc 149 [(.int .u32 0), (.int .u32 0), (.int .u32 0), (.int .u32 0), (.int .u32 0), (.int .u32 0), (.int .u32 0), (.int .u32 0), (.int .u32 0), (.int .u32 0), (.int .u32 0), (.int .u32 0), (.int .u32 0), (.int .u32 0), (.int .u32 0), (.int .u32 0), (.int .u32 0), (.int .u32 0), (.int .u32 0), (.int .u32 0), (.int .u32 0), (.int .u32 0), (.int .u32 0), (.int .u32 0), (.int .u32 0), (.int .u32 0), (.int .u32 0), (.int .u32 0), (.int .u32 0), (.int .u32 0), (.int .u32 0), (.int .u32 0), (.int .u32 0), (.int .u32 0), (.int .u32 0), (.int .u32 0), (.int .u32 0), (.int .u32 0), (.int .u32 0), (.int .u32 0), (.int .u32 0), (.int .u32 0), (.int .u32 0), (.int .u32 0), (.int .u32 0), (.int .u32 0), (.int .u32 0), (.int .u32 0), (.int .u32 0), (.int .u32 0), (.int .u32 0), (.int .u32 0), (.int .u32 0), (.int .u32 0), (.int .u32 0), (.int .u32 0), (.int .u32 0), (.int .u32 0), (.int .u32 0), (.int .u32 0), (.int .u32 0), (.int .u32 0), (.int .u32 0), (.int .u32 0)])<|
 oU 64 5 21<| .nil)
 (oR 5 (.alloc 149 [(.int .u32 0), (.int .u32 0), (.int .u32 0), (.int .u32 0), (.int .u32 0), (.int .u32 0), (.int .u32 0), (.int .u32 0), (.int .u32 0), (.int .u32 0), (.int .u32 0), (.int .u32 0), (.int .u32 0), (.int .u32 0), (.int .u32 0), (.int .u32 0), (.int .u32 0), (.int .u32 0), (.int .u32 0), (.int .u32 0), (.int .u32 0), (.int .u32 0), (.int .u32 0), (.int .u32 0), (.int .u32 0), (.int .u32 0), (.int .u32 0), (.int .u32 0), (.int .u32 0), (.int .u32 0), (.int .u32 0), (.int .u32 0), (.int .u32 0), (.int .u32 0), (.int .u32 0), (.int .u32 0), (.int .u32 0), (.int .u32 0), (.int .u32 0), (.int .u32 0), (.int .u32 0), (.int .u32 0), (.int .u32 0), (.int .u32 0), (.int .u32 0), (.int .u32 0), (.int .u32 0), (.int .u32 0), (.int .u32 0), (.int .u32 0), (.int .u32 0), (.int .u32 0), (.int .u32 0), (.int .u32 0), (.int .u32 0), (.int .u32 0), (.int .u32 0), (.int .u32 0), (.int .u32 0), (.int .u32 0), (.int .u32 0), (.int .u32 0), (.int .u32 0), (.int .u32 0)])<| .both (oK 22 8 3<|
 oU 64 5 21<| .nil) (oU 64 5 21<| oK 22 8 3<| .nil)))))
 (.both (oK 22 8 3<| .both (oR 21 (oa 119 20)<| .both (oR 5 (.alloc 149 [(.int .u32 0), (.int .u32 0), (.int .u32 0), (.int .u32 0), (.int .u32 0), (.int .u32 0), (.int .u32 0), (.int .u32 0), (.int .u32 0), (.int .u32 0), (.int .u32 0), (.int .u32 0), (.int .u32 0), (.int .u32 0), (.int .u32 0), (.int .u32 0), (.int .u32 0), (.int .u32 0), (.int .u32 0), (.int .u32 0), (.int .u32 0), (.int .u32 0), (.int .u32 0), (.int .u32 0), (.int .u32 0), (.int .u32 0), (.int .u32 0), (.int .u32 0), (.int .u32 0), (.int .u32 0), (.int .u32 0), (.int .u32 0), (.int .u32 0), (.int .u32 0), (.int .u32 0), (.int .u32 0), (.int .u32 0), (.int .u32 0), (.int .u32 0), (.int .u32 0), (.int .u32 0), (.int .u32 0), (.int .u32 0), (.int .u32 0), (.int .u32 0), (.int .u32 0), (.int .u32 0), (.int .u32 0), (.int .u32 0), (.int .u32 0), (.int .u32 0), (.int .u32 0), (.int .u32 0), (.int .u32 0), (.int .u32 0), (.int .u32 0), (.int .u32 0), (.int .u32 0), (.int .u32 0), (.int .u32 0), (.int .u32 0), (.int .u32 0), (.int .u32 0), (.int .u32 0)])<|
 oR 6 (.alloc 144 [(.int .u32 0), (.int .u32 0), (.int .u32 0), (.int .u32 0), (.int .u32 0), (.int .u32 0), (.int .u32 0), (.int .u32 0)])<| oU 64 5 21<| .nil)
 (oR 6 (.alloc 144 [(.int .u32 0), (.int .u32 0), (.int .u32 0), (.int .u32 0), (.int .u32 0), (.int .u32 0), (.int .u32 0), (.int .u32 0)])<|
 oR 5 (.alloc 149 [(.int .u32 0), (.int .u32 0), (.int .u32 0), (.int .u32 0), (.int .u32 0), (.int .u32 0), (.int .u32 0), (.int .u32 0), (.int .u32 0), (.int .u32 0), (.int .u32 0), (.int .u32 0), (.int .u32 0), (.int .u32 0), (.int .u32 0), (.int .u32 0), (.int .u32 0), (.int .u32 0), (.int .u32 0), (.int .u32 0), (.int .u32 0), (.int .u32 0), (.int .u32 0), (.int .u32 0), (.int .u32 0), (.int .u32 0), (.int .u32 0), (.int .u32 0), (.int .u32 0), (.int .u32 0), (.int .u32 0), (.int .u32 0), (.int .u32 0), (.int .u32 0), (.int .u32 0), (.int .u32 0), (.int .u32 0), (.int .u32 0), (.int .u32 0), (.int .u32 0), (.int .u32 0), (.int .u32 0), (.int .u32 0), (.int .u32 0), (.int .u32 0), (.int .u32 0), (.int .u32 0), (.int .u32 0), (.int .u32 0), (.int .u32 0), (.int .u32 0), (.int .u32 0), (.int .u32 0), (.int .u32 0), (.int .u32 0), (.int .u32 0), (.int .u32 0), (.int .u32 0), (.int .u32 0), (.int .u32 0), (.int .u32 0), (.int .u32 0), (.int .u32 0), (.int .u32 0)])<|
 oU 64 5 21<| .nil))
 (.both (oR 5 (.alloc 149 [(.int .u32 0), (.int .u32 0), (.int .u32 0), (.int .u32 0), (.int .u32 0), (.int .u32 0), (.int .u32 0), (.int .u32 0), (.int .u32 0), (.int .u32 0), (.int .u32 0), (.int .u32 0), (.int .u32 0), (.int .u32 0), (.int .u32 0), (.int .u32 0), (.int .u32 0), (.int .u32 0), (.int .u32 0), (.int .u32 0), (.int .u32 0), (.int .u32 0), (.int .u32 0), (.int .u32 0), (.int .u32 0), (.int .u32 0), (.int .u32 0), (.int .u32 0), (.int .u32 0), (.int .u32 0), (.int .u32 0), (.int .u32 0), (.int .u32 0), (.int .u32 0), (.int .u32 0), (.int .u32 0), (.int .u32 0), (.int .u32 0), (.int .u32 0), (.int .u32 0), (.int .u32 0), (.int .u32 0), (.int .u32 0), (.int .u32 0), (.int .u32 0), (.int .u32 0), (.int .u32 0), (.int .u32 0), (.int .u32 0), (.int .u32 0), (.int .u32 0), (.int .u32 0), (.int .u32 0), (.int .u32 0), (.int .u32 0), (.int .u32 0), (.int .u32 0), (.int .u32 0), (.int .u32 0), (.int .u32 0), (.int .u32 0), (.int .u32 0), (.int .u32 0), (.int .u32 0)])<| .both (oR 21 (oa 119 20)<|
 oR 6 (.alloc 144 [(.int .u32 0), (.int .u32 0), (.int .u32 0), (.int .u32 0), (.int .u32 0), (.int .u32 0), (.int .u32 0), (.int .u32 0)])<| oU 64 5 21<| .nil)
 (oR 6 (.alloc 144 [(.int .u32 0), (.int .u32 0), (.int .u32 0), (.int .u32 0), (.int .u32 0), (.int .u32 0), (.int .u32 0), (.int .u32 0)])<| oR 21 (oa 119 20)<|
 oU 64 5 21<| .nil))
 (oR 6 (.alloc 144 [(.int .u32 0), (.int .u32 0), (.int .u32 0), (.int .u32 0), (.int .u32 0), (.int .u32 0), (.int .u32 0), (.int .u32 0)])<| .both (oR 21 (oa 119 20)<|
 oR 5 (.alloc 149 [(.int .u32 0), (.int .u32 0), (.int .u32 0), (.int .u32 0), (.int .u32 0), (.int .u32 0), (.int .u32 0), (.int .u32 0), (.int .u32 0), (.int .u32 0), (.int .u32 0), (.int .u32 0), (.int .u32 0), (.int .u32 0), (.int .u32 0), (.int .u32 0), (.int .u32 0), (.int .u32 0), (.int .u32 0), (.int .u32 0), (.int .u32 0), (.int .u32 0), (.int .u32 0), (.int .u32 0), (.int .u32 0), (.int .u32 0), (.int .u32 0), (.int .u32 0), (.int .u32 0), (.int .u32 0), (.int .u32 0), (.int .u32 0), (.int .u32 0), (.int .u32 0), (.int .u32 0), (.int .u32 0), (.int .u32 0), (.int .u32 0), (.int .u32 0), (.int .u32 0), (.int .u32 0), (.int .u32 0), (.int .u32 0), (.int .u32 0), (.int .u32 0), (.int .u32 0), (.int .u32 0), (.int .u32 0), (.int .u32 0), (.int .u32 0), (.int .u32 0), (.int .u32 0), (.int .u32 0), (.int .u32 0), (.int .u32 0), (.int .u32 0), (.int .u32 0), (.int .u32 0), (.int .u32 0), (.int .u32 0), (.int .u32 0), (.int .u32 0), (.int .u32 0), (.int .u32 0)])<|
 oU 64 5 21<| .nil)
 (oR 5 (.alloc 149 [(.int .u32 0), (.int .u32 0), (.int .u32 0), (.int .u32 0), (.int .u32 0), (.int .u32 0), (.int .u32 0), (.int .u32 0), (.int .u32 0), (.int .u32 0), (.int .u32 0), (.int .u32 0), (.int .u32 0), (.int .u32 0), (.int .u32 0), (.int .u32 0), (.int .u32 0), (.int .u32 0), (.int .u32 0), (.int .u32 0), (.int .u32 0), (.int .u32 0), (.int .u32 0), (.int .u32 0), (.int .u32 0), (.int .u32 0), (.int .u32 0), (.int .u32 0), (.int .u32 0), (.int .u32 0), (.int .u32 0), (.int .u32 0), (.int .u32 0), (.int .u32 0), (.int .u32 0), (.int .u32 0), (.int .u32 0), (.int .u32 0), (.int .u32 0), (.int .u32 0), (.int .u32 0), (.int .u32 0), (.int .u32 0), (.int .u32 0), (.int .u32 0), (.int .u32 0), (.int .u32 0), (.int .u32 0), (.int .u32 0), (.int .u32 0), (.int .u32 0), (.int .u32 0), (.int .u32 0), (.int .u32 0), (.int .u32 0), (.int .u32 0), (.int .u32 0), (.int .u32 0), (.int .u32 0), (.int .u32 0), (.int .u32 0), (.int .u32 0), (.int .u32 0), (.int .u32 0)])<|
 oR 21 (oa 119 20)<| oU 64 5 21<| .nil))))
 (.both (oR 5 (.alloc 149 [(.int .u32 0), (.int .u32 0), (.int .u32 0), (.int .u32 0), (.int .u32 0), (.int .u32 0), (.int .u32 0), (.int .u32 0), (.int .u32 0), (.int .u32 0), (.int .u32 0), (.int .u32 0), (.int .u32 0), (.int .u32 0), (.int .u32 0), (.int .u32 0), (.int .u32 0), (.int .u32 0), (.int .u32 0), (.int .u32 0), (.int .u32 0), (.int .u32 0), (.int .u32 0), (.int .u32 0), (.int .u32 0), (.int .u32 0), (.int .u32 0), (.int .u32 0), (.int .u32 0), (.int .u32 0), (.int .u32 0), (.int .u32 0), (.int .u32 0), (.int .u32 0), (.int .u32 0), (.int .u32 0), (.int .u32 0), (.int .u32 0), (.int .u32 0), (.int .u32 0), (.int .u32 0), (.int .u32 0), (.int .u32 0), (.int .u32 0), (.int .u32 0), (.int .u32 0), (.int .u32 0), (.int .u32 0), (.int .u32 0), (.int .u32 0), (.int .u32 0), (.int .u32 0), (.int .u32 0), (.int .u32 0), (.int .u32 0), (.int .u32 0), (.int .u32 0), (.int .u32 0), (.int .u32 0), (.int .u32 0), (.int .u32 0), (.int .u32 0), (.int .u32 0), (.int .u32 0)])<| .both (oR 21 (oa 119 20)<| .both (oK 22 8 3<|
 oR 6 (.alloc 144 [(.int .u32 0), (.int .u32 0), (.int .u32 0), (.int .u32 0), (.int .u32 0), (.int .u32 0), (.int .u32 0), (.int .u32 0)])<| oU 64 5 21<| .nil)
 (oR 6 (.alloc 144 [(.int .u32 0), (.int .u32 0), (.int .u32 0), (.int .u32 0), (.int .u32 0), (.int .u32 0), (.int .u32 0), (.int .u32 0)])<| .both (oK 22 8 3<|
 oU 64 5 21<| .nil) (oU 64 5 21<| oK 22 8 3<| .nil))) (.both (oK 22 8 3<| .both (oR 21 (oa 119 20)<|
 oR 6 (.alloc 144 [(.int .u32 0), (.int .u32 0), (.int .u32 0), (.int .u32 0), (.int .u32 0), (.int .u32 0), (.int .u32 0), (.int .u32 0)])<| oU 64 5 21<| .nil)
 (oR 6 (.alloc 144 [(.int .u32 0), (.int .u32 0), (.int .u32 0), (.int .u32 0), (.int .u32 0), (.int .u32 0), (.int .u32 0), (.int .u32 0)])<| oR 21 (oa 119 20)<|
 oU 64 5 21<| .nil))
 (oR 6 (.alloc 144 [(.int .u32 0), (.int .u32 0), (.int .u32 0), (.int .u32 0), (.int .u32 0), (.int .u32 0), (.int .u32 0), (.int .u32 0)])<| .both (oR 21 (oa 119 20)<| .both (oK 22 8 3<|
 oU 64 5 21<| .nil) (oU 64 5 21<| oK 22 8 3<| .nil)) (oK 22 8 3<| oR 21 (oa 119 20)<| oU 64 5 21<| .nil))))
 (oR 6 (.alloc 144 [(.int .u32 0), (.int .u32 0), (.int .u32 0), (.int .u32 0), (.int .u32 0), (.int .u32 0), (.int .u32 0), (.int .u32 0)])<| .both (oR 21 (oa 119 20)<| .both (oK 22 8 3<|
 oR 5 (.alloc 149 [(.int .u32 0), (.int .u32 0), (.int .u32 0), (.int .u32 0), (.int .u32 0), (.int .u32 0), (.int .u32 0), (.int .u32 0), (.int .u32 0), (.int .u32 0), (.int .u32 0), (.int .u32 0), (.int .u32 0), (.int .u32 0), (.int .u32 0), (.int .u32 0), (.int .u32 0), (.int .u32 0), (.int .u32 0), (.int .u32 0), (.int .u32 0), (.int .u32 0), (.int .u32 0), (.int .u32 0), (.int .u32 0), (.int .u32 0), (.int .u32 0), (.int .u32 0), (.int .u32 0), (.int .u32 0), (.int .u32 0), (.int .u32 0), (.int .u32 0), (.int .u32 0), (.int .u32 0), (.int .u32 0), (.int .u32 0), (.int .u32 0), (.int .u32 0), (.int .u32 0), (.int .u32 0), (.int .u32 0), (.int .u32 0), (.int .u32 0), (.int .u32 0), (.int .u32 0), (.int .u32 0), (.int .u32 0), (.int .u32 0), (.int .u32 0), (.int .u32 0), (.int .u32 0), (.int .u32 0), (.int .u32 0), (.int .u32 0), (.int .u32 0), (.int .u32 0), (.int .u32 0), (.int .u32 0), (.int .u32 0), (.int .u32 0), (.int .u32 0), (.int .u32 0), (.int .u32 0)])<|
 oU 64 5 21<| .nil)
 (oR 5 (.alloc 149 [(.int .u32 0), (.int .u32 0), (.int .u32 0), (.int .u32 0), (.int .u32 0), (.int .u32 0), (.int .u32 0), (.int .u32 0), (.int .u32 0), (.int .u32 0), (.int .u32 0), (.int .u32 0), (.int .u32 0), (.int .u32 0), (.int .u32 0), (.int .u32 0), (.int .u32 0), (.int .u32 0), (.int .u32 0), (.int .u32 0), (.int .u32 0), (.int .u32 0), (.int .u32 0), (.int .u32 0), (.int .u32 0), (.int .u32 0), (.int .u32 0), (.int .u32 0), (.int .u32 0), (.int .u32 0), (.int .u32 0), (.int .u32 0), (.int .u32 0), (.int .u32 0), (.int .u32 0), (.int .u32 0), (.int .u32 0), (.int .u32 0), (.int .u32 0), (.int .u32 0), (.int .u32 0), (.int .u32 0), (.int .u32 0), (.int .u32 0), (.int .u32 0), (.int .u32 0), (.int .u32 0), (.int .u32 0), (.int .u32 0), (.int .u32 0), (.int .u32 0), (.int .u32 0), (.int .u32 0), (.int .u32 0), (.int .u32 0), (.int .u32 0), (.int .u32 0), (.int .u32 0), (.int .u32 0), (.int .u32 0), (.int .u32 0), (.int .u32 0), (.int .u32 0), (.int .u32 0)])<| .both (oK 22 8 3<|
 oU 64 5 21<| .nil) (oU 64 5 21<| oK 22 8 3<| .nil))) (.both (oK 22 8 3<| .both (oR 21 (oa 119 20)<|
 oR 5 (.alloc 149 [(.int .u32 0), (.int .u32 0), (.int .u32 0), (.int .u32 0), (.int .u32 0), (.int .u32 0), (.int .u32 0), (.int .u32 0), (.int .u32 0), (.int .u32 0), (.int .u32 0), (.int .u32 0), (.int .u32 0), (.int .u32 0), (.int .u32 0), (.int .u32 0), (.int .u32 0), (.int .u32 0), (.int .u32 0), (.int .u32 0), (.int .u32 0), (.int .u32 0), (.int .u32 0), (.int .u32 0), (.int .u32 0), (.int .u32 0), (.int .u32 0), (.int .u32 0), (.int .u32 0), (.int .u32 0), (.int .u32 0), (.int .u32 0), (.int .u32 0), (.int .u32 0), (.int .u32 0), (.int .u32 0), (.int .u32 0), (.int .u32 0), (.int .u32 0), (.int .u32 0), (.int .u32 0), (.int .u32 0), (.int .u32 0), (.int .u32 0), (.int .u32 0), (.int .u32 0), (.int .u32 0), (.int .u32 0), (.int .u32 0), (.int .u32 0), (.int .u32 0), (.int .u32 0), (.int .u32 0), (.int .u32 0), (.int .u32 0), (.int .u32 0), (.int .u32 0), (.int .u32 0), (.int .u32 0), (.int .u32 0), (.int .u32 0), (.int .u32 0), (.int .u32 0), (.int .u32 0)])<|
 oU 64 5 21<| .nil)
 (oR 5 (.alloc 149 [(.int .u32 0), (.int .u32 0), (.int .u32 0), (.int .u32 0), (.int .u32 0), (.int .u32 0), (.int .u32 0), (.int .u32 0), (.int .u32 0), (.int .u32 0), (.int .u32 0), (.int .u32 0), (.int .u32 0), (.int .u32 0), (.int .u32 0), (.int .u32 0), (.int .u32 0), (.int .u32 0), (.int .u32 0), (.int .u32 0), (.int .u32 0), (.int .u32 0), (.int .u32 0), (.int .u32 0), (.int .u32 0), (.int .u32 0), (.int .u32 0), (.int .u32 0), (.int .u32 0), (.int .u32 0), (.int .u32 0), (.int .u32 0), (.int .u32 0), (.int .u32 0), (.int .u32 0), (.int .u32 0), (.int .u32 0), (.int .u32 0), (.int .u32 0), (.int .u32 0), (.int .u32 0), (.int .u32 0), (.int .u32 0), (.int .u32 0), (.int .u32 0), (.int .u32 0), (.int .u32 0), (.int .u32 0), (.int .u32 0), (.int .u32 0), (.int .u32 0), (.int .u32 0), (.int .u32 0), (.int .u32 0), (.int .u32 0), (.int .u32 0), (.int .u32 0), (.int .u32 0), (.int .u32 0), (.int .u32 0), (.int .u32 0), (.int .u32 0), (.int .u32 0), (.int .u32 0)])<|
 oR 21 (oa 119 20)<| oU 64 5 21<| .nil))
 (oR 5 (.alloc 149 [(.int .u32 0), (.int .u32 0), (.int .u32 0), (.int .u32 0), (.int .u32 0), (.int .u32 0), (.int .u32 0), (.int .u32 0), (.int .u32 0), (.int .u32 0), (.int .u32 0), (.int .u32 0), (.int .u32 0), (.int .u32 0), (.int .u32 0), (.int .u32 0), (.int .u32 0), (.int .u32 0), (.int .u32 0), (.int .u32 0), (.int .u32 0), (.int .u32 0), (.int .u32 0), (.int .u32 0), (.int .u32 0), (.int .u32 0), (.int .u32 0), (.int .u32 0), (.int .u32 0), (.int .u32 0), (.int .u32 0), (.int .u32 0), (.int .u32 0), (.int .u32 0), (.int .u32 0), (.int .u32 0), (.int .u32 0), (.int .u32 0), (.int .u32 0), (.int .u32 0), (.int .u32 0), (.int .u32 0), (.int .u32 0), (.int .u32 0), (.int .u32 0), (.int .u32 0), (.int .u32 0), (.int .u32 0), (.int .u32 0), (.int .u32 0), (.int .u32 0), (.int .u32 0), (.int .u32 0), (.int .u32 0), (.int .u32 0), (.int .u32 0), (.int .u32 0), (.int .u32 0), (.int .u32 0), (.int .u32 0), (.int .u32 0), (.int .u32 0), (.int .u32 0), (.int .u32 0)])<| .both (oR 21 (oa 119 20)<| .both (oK 22 8 3<|
 oU 64 5 21<| .nil) (oU 64 5 21<| oK 22 8 3<| .nil)) (oK 22 8 3<| oR 21 (oa 119 20)<| oU 64 5 21<| .nil))))))) <|oU 8 6 22<| .nil) (.seq (.seq (.reg false <|
 oO 23 0<| .nil) (.block 2 (.loop (.seq (.reg false <| oC 24 .lss 23 64<| .nil) (.seq (.cond (t 24) .skip (.exit 2)) (.seq (.block 3 (.seq (.reg false <| oM 25 23<|
 oM 7 25<| .nil) (.reg true <| .join (oK 26 8 6<| oM 27 7<| oR 28 (.indexArr 1 64 (t 4) (t 27))<| oL 29 28<| oM 30 7<| oR 31 (.indexArr 1 64 (t 5) (t 30))<|
 oL 32 31<| .nil) <|oR 33 (oc 120 26 29 32)<| oU 8 6 33<| .nil))) (.reg false <| oC 34 .add 23 1<| oM 23 34<| .nil))))))) (.seq (.reg false <| oO 35 0<| .nil)
 (.block 4 (.loop (.seq (.reg false <| oC 36 .lss 35 8<| .nil) (.seq (.cond (t 36) .skip (.exit 4)) (.seq (.block 5 (.seq (.reg false <| oM 37 35<| oM 8 37<| .nil)
 (.reg true <| .join (oM 38 8<| oR 39 (.indexArr 1 8 (t 3) (t 38))<| oL 40 39<| oM 41 8<| oR 42 (.indexArr 1 8 (t 6) (t 41))<| oL 43 42<| oB 44 .add 40 43<|
 oR 45 (.indexArr 1 8 (t 3) (t 38))<| .nil) <|oS 45 44<| .nil))) (.reg false <| oC 46 .add 35 1<| oM 35 46<| .nil)))))))))) (.reg false <| oM 18 0<|
 oR 19 (.sliceStr (t 18) (some (oi 64)) none)<| oM 0 19<| .nil)))))) (.seq (.reg false <| oR 9 (.alloc 154 [(.pointer none), (.slice none 0 0)])<| .nil)
 (.seq (.seq (.reg false <| oK 47 8 3<| oO 48 0<| .nil) (.block 6 (.loop (.seq (.reg false <| oC 49 .lss 48 8<| .nil) (.seq (.cond (t 49) .skip (.exit 6))
 (.seq (.block 7 (.seq (.reg false <| oR 50 (.indexAgg 8 (t 47) (t 48))<| oM 11 50<| .nil) (.reg false <| oM 51 11<| oV 52 .u64 51<| oR 53 (.call 121 [(t 52), (oi 4)])<|
 oR 54 (ob 111 9 53)<| .nil))) (.reg false <| oC 55 .add 48 1<| oM 48 55<| .nil))))))) (.seq (.reg false <| oR 56 (oa 115 9)<| oM 2 56<| .nil) .ret))))))
theorem s_sha_Sum : CS 57 k_sha_Sum [.tmp 2] F.sha_Sum :=
  cs Tryz.func100 (by kernel_rfl) (by kernel_rfl)
noncomputable def k_wire_witnessed : KC :=
(.seq (.reg false <| oR 1 (.box 35 (t 0))<| oR 2 (.move (.const (.bool false)))<| .nil) (.seq (.reg false <| oF 3 1 1<| oL 4 3<| oR 5 (.call 126 [(t 4), (.func 127)])<|
 oM 2 5<| .nil) .ret))
theorem s_wire_witnessed : CS 6 k_wire_witnessed [.tmp 2] F.wire_witnessed :=
  cs Tryz.func102 (by kernel_rfl) (by kernel_rfl)
noncomputable def k_kedgeref04_k : KC :=
(.seq (.reg false <|
 oR 0 (.alloc 149 [(.int .u32 0), (.int .u32 0), (.int .u32 0), (.int .u32 0), (.int .u32 0), (.int .u32 0), (.int .u32 0), (.int .u32 0), (.int .u32 0), (.int .u32 0), (.int .u32 0), (.int .u32 0), (.int .u32 0), (.int .u32 0), (.int .u32 0), (.int .u32 0), (.int .u32 0), (.int .u32 0), (.int .u32 0), (.int .u32 0), (.int .u32 0), (.int .u32 0), (.int .u32 0), (.int .u32 0), (.int .u32 0), (.int .u32 0), (.int .u32 0), (.int .u32 0), (.int .u32 0), (.int .u32 0), (.int .u32 0), (.int .u32 0), (.int .u32 0), (.int .u32 0), (.int .u32 0), (.int .u32 0), (.int .u32 0), (.int .u32 0), (.int .u32 0), (.int .u32 0), (.int .u32 0), (.int .u32 0), (.int .u32 0), (.int .u32 0), (.int .u32 0), (.int .u32 0), (.int .u32 0), (.int .u32 0), (.int .u32 0), (.int .u32 0), (.int .u32 0), (.int .u32 0), (.int .u32 0), (.int .u32 0), (.int .u32 0), (.int .u32 0), (.int .u32 0), (.int .u32 0), (.int .u32 0), (.int .u32 0), (.int .u32 0), (.int .u32 0), (.int .u32 0), (.int .u32 0)])<| .nil)
 (.seq (.reg false <|
 oR 1 (.build [(.int .u32 0), (.int .u32 0), (.int .u32 0), (.int .u32 0), (.int .u32 0), (.int .u32 0), (.int .u32 0), (.int .u32 0), (.int .u32 0), (.int .u32 0), (.int .u32 0), (.int .u32 0), (.int .u32 0), (.int .u32 0), (.int .u32 0), (.int .u32 0), (.int .u32 0), (.int .u32 0), (.int .u32 0), (.int .u32 0), (.int .u32 0), (.int .u32 0), (.int .u32 0), (.int .u32 0), (.int .u32 0), (.int .u32 0), (.int .u32 0), (.int .u32 0), (.int .u32 0), (.int .u32 0), (.int .u32 0), (.int .u32 0), (.int .u32 0), (.int .u32 0), (.int .u32 0), (.int .u32 0), (.int .u32 0), (.int .u32 0), (.int .u32 0), (.int .u32 0), (.int .u32 0), (.int .u32 0), (.int .u32 0), (.int .u32 0), (.int .u32 0), (.int .u32 0), (.int .u32 0), (.int .u32 0), (.int .u32 0), (.int .u32 0), (.int .u32 0), (.int .u32 0), (.int .u32 0), (.int .u32 0), (.int .u32 0), (.int .u32 0), (.int .u32 0), (.int .u32 0), (.int .u32 0), (.int .u32 0), (.int .u32 0), (.int .u32 0), (.int .u32 0), (.int .u32 0)] [(0, 1, (.const (.int .u32 1116352408))), (1, 1, (.const (.int .u32 1899447441))), (2, 1, (.const (.int .u32 3049323471))), (3, 1, (.const (.int .u32 3921009573))), (4, 1, (.const (.int .u32 961987163))), (5, 1, (.const (.int .u32 1508970993))), (6, 1, (.const (.int .u32 2453635748))), (7, 1, (.const (.int .u32 2870763221))), (8, 1, (.const (.int .u32 3624381080))), (9, 1, (.const (.int .u32 310598401))), (10, 1, (.const (.int .u32 607225278))), (11, 1, (.const (.int .u32 1426881987))), (12, 1, (.const (.int .u32 1925078388))), (13, 1, (.const (.int .u32 2162078206))), (14, 1, (.const (.int .u32 2614888103))), (15, 1, (.const (.int .u32 3248222580))), (16, 1, (.const (.int .u32 3835390401))), (17, 1, (.const (.int .u32 4022224774))), (18, 1, (.const (.int .u32 264347078))), (19, 1, (.const (.int .u32 604807628))), (20, 1, (.const (.int .u32 770255983))), (21, 1, (.const (.int .u32 1249150122))), (22, 1, (.const (.int .u32 1555081692))), (23, 1, (.const (.int .u32 1996064986))), (24, 1, (.const (.int .u32 2554220882))), (25, 1, (.const (.int .u32 2821834349))), (26, 1, (.const (.int .u32 2952996808))), (27, 1, (.const (.int .u32 3210313671))), (28, 1, (.const (.int .u32 3336571891))), (29, 1, (.const (.int .u32 3584528711))), (30, 1, (.const (.int .u32 113926993))), (31, 1, (.const (.int .u32 338241895))), (32, 1, (.const (.int .u32 666307205))), (33, 1, (.const (.int .u32 773529912))), (34, 1, (.const (.int .u32 1294757372))), (35, 1, (.const (.int .u32 1396182291))), (36, 1, (.const (.int .u32 1695183700))), (37, 1, (.const (.int .u32 1986661051))), (38, 1, (.const (.int .u32 2177026350))), (39, 1, (.const (.int .u32 2456956037))), (40, 1, (.const (.int .u32 2730485921))), (41, 1, (.const (.int .u32 2820302411))), (42, 1, (.const (.int .u32 3259730800))), (43, 1, (.const (.int .u32 3345764771))), (44, 1, (.const (.int .u32 3516065817))), (45, 1, (.const (.int .u32 3600352804))), (46, 1, (.const (.int .u32 4094571909))), (47, 1, (.const (.int .u32 275423344))), (48, 1, (.const (.int .u32 430227734))), (49, 1, (.const (.int .u32 506948616))), (50, 1, (.const (.int .u32 659060556))), (51, 1, (.const (.int .u32 883997877))), (52, 1, (.const (.int .u32 958139571))), (53, 1, (.const (.int .u32 1322822218))), (54, 1, (.const (.int .u32 1537002063))), (55, 1, (.const (.int .u32 1747873779))), (56, 1, (.const (.int .u32 1955562222))), (57, 1, (.const (.int .u32 2024104815))), (58, 1, (.const (.int .u32 2227730452))), (59, 1, (.const (.int .u32 2361852424))), (60, 1, (.const (.int .u32 2428436474))), (61, 1, (.const (.int .u32 2756734187))), (62, 1, (.const (.int .u32 3204031479))), (63, 1, (.const (.int .u32 3329325298)))])<|
 oU 64 0 1<| .nil) .ret))
theorem s_kedgeref04_k : CS 2 k_kedgeref04_k [.cellN 64 0] F.kedgeref04_k :=
  cs Tryz.func103 (by kernel_rfl) (by kernel_rfl)
noncomputable def k_tx_Total : KC :=
(.seq (.reg false <| oR 1 (.box 35 (t 0))<| oO 2 0<| oO 3 0<| .nil) (.seq (.reg false <| oR 4 (.move (.const (.slice none 0 0)))<| .nil) (.seq (.seq (.reg false <|
 oF 7 2 1<| oL 8 7<| oD 9 8<| oO 10 0<| .nil) (.block 0 (.loop (.seq (.reg false <| oB 11 .lss 10 9<| .nil) (.seq (.cond (t 11) .skip (.exit 0))
 (.seq (.block 1 (.seq (.reg false <| oI 12 2 8 10<| oK 13 2 12<| oR 6 (.alloc 58 [(.int .i64 0), (.string ⟨#[]⟩)])<| oU 2 6 13<| .nil) (.reg false <| oM 14 4<| oF 15 0 6<|
 oL 16 15<| oR 17 (.buildSlice 3 1 [(.int .i64 0)] [(0, 1, (t 16))])<| oR 18 (.append 3 1 8 [(.int .i64 0)] (t 14) (t 17))<| oM 4 18<| .nil))) (.reg false <|
 oC 19 .add 10 1<| oM 10 19<| .nil))))))) (.seq (.reg false <| oM 20 4<| oR 21 (oa 128 20)<| oX 22 0 21<| oX 23 1 21<| oM 2 22<| oM 3 23<| .nil) .ret))))
theorem s_tx_Total : CS 24 k_tx_Total [.tmp 2, .tmp 3] F.tx_Total :=
  cs Tryz.func105 (by kernel_rfl) (by kernel_rfl)
noncomputable def k_tx_counts : KC :=
(.seq (.reg false <| oR 1 (.box 35 (t 0))<| oR 2 (.move (.const (.bool false)))<| .nil) (.seq (.reg false <| oF 3 1 1<| oL 4 3<| oD 5 4<|
 oR 6 (.pcall 129 Go.Proofs.YtfeifodeaphbjaaGreat.qFrom1 [(t 5), (oi 256)])<| oM 7 6<| oG 8 7 true (.fieldAddr 2 (t 1))<| oG 9 7 true (.load (t 8))<|
 oG 10 7 true (.len false (t 9))<| oG 11 7 true (.pcall 129 Go.Proofs.YtfeifodeaphbjaaGreat.qFrom1 [(t 10), (oi 256)])<| oR 12 (.pick (t 7) (t 11) (.const (.bool false)))<|
 oM 13 12<| oG 14 13 true (.fieldAddr 1 (t 1))<| oG 15 13 true (.load (t 14))<| oG 16 13 true (.call 126 [(t 15), (.func 130)])<| oG 17 13 true (.not (t 16))<|
 oR 18 (.pick (t 13) (t 17) (.const (.bool false)))<| oM 2 18<| .nil) .ret))
theorem s_tx_counts : CS 19 k_tx_counts [.tmp 2] F.tx_counts :=
  cs Tryz.func106 (by kernel_rfl) (by kernel_rfl)
noncomputable def k_tx_long : KC :=
(.seq (.reg false <| oR 1 (.box 35 (t 0))<| oR 2 (.move (.const (.bool false)))<| .nil) (.seq (.reg false <| oR 3 (.alloc 103 [.nilFunc])<|
 oQ (.store (t 3) (.func 131))<| .nil) (.seq (.reg false <| oF 4 2 1<| oL 5 4<| oR 6 (.call 132 [(t 5), (.func 133)])<| oM 7 6<| oG 8 7 false (.fieldAddr 1 (t 1))<|
 oG 9 7 false (.load (t 8))<| oG 10 7 false (.makeFunc (.func 134) [] [(t 3)])<| oG 11 7 false (ob 126 9 10)<| oR 12 (.pick (t 7) (.const (.bool true)) (t 11))<|
 oM 2 12<| .nil) .ret)))
theorem s_tx_long : CS 13 k_tx_long [.tmp 2] F.tx_long :=
  cs Tryz.func107 (by kernel_rfl) (by kernel_rfl)
noncomputable def k_tx_formed : KC :=
(.seq (.reg false <| oR 1 (.box 35 (t 0))<| oR 2 (.move (.const (.bool false)))<| .nil) (.seq (.seq (.reg false <| oF 5 1 1<| oL 6 5<| oD 7 6<| oO 8 0<| .nil)
 (.block 0 (.loop (.seq (.reg false <| oB 9 .lss 8 7<| .nil) (.seq (.cond (t 9) .skip (.exit 0)) (.seq (.block 1 (.seq (.reg false <| oI 10 4 6 8<| oK 11 4 10<|
 oR 4 (.alloc 50 [(.string ⟨#[]⟩), (.int .u32 0), (.int .u32 0), (.slice none 0 0)])<| oU 4 4 11<| .nil) (.seq (.reg true <| .join (oF 12 0 4<| oF 13 0 12<| oL 14 13<|
 oR 15 (.len true (t 14))<| oC 16 .neq 15 32<| oM 17 16<| oG 18 17 false (.fieldAddr 0 (t 4))<| .nil) <|.join (.both (oG 19 17 false (.loadN 2 (t 18))<|
 oG 20 17 false (.call 90 [])<| oG 21 17 false (.eqAgg false [.s, .i] (t 19) (t 20))<| oG 22 17 false (.move (t 21))<| oG 23 22 true (.fieldAddr 1 (t 1))<| .nil)
 (oG 20 17 false (.call 90 [])<| oG 19 17 false (.loadN 2 (t 18))<| oG 21 17 false (.eqAgg false [.s, .i] (t 19) (t 20))<| oG 22 17 false (.move (t 21))<|
 oG 23 22 true (.fieldAddr 1 (t 1))<| .nil)) <|oG 24 22 true (.load (t 23))<| oG 25 22 true (.len false (t 24))<| oG 26 22 true (.bin .gtr (t 25) (oi 1))<|
 oG 27 17 false (.pick (t 22) (t 26) (.const (.bool false)))<| oR 28 (.pick (t 17) (.const (.bool true)) (t 27))<| .nil) (.cond (t 28) (.seq (.reg false <|
 oR 2 (.move (.const (.bool false)))<| .nil) .ret) .skip)))) (.reg false <| oC 29 .add 8 1<| oM 8 29<| .nil))))))) (.seq (.reg false <|
 oR 2 (.move (.const (.bool true)))<| .nil) .ret)))
theorem s_tx_formed : CS 30 k_tx_formed [.tmp 2] F.tx_formed :=
  cs Tryz.func108 (by kernel_rfl) (by kernel_rfl)
noncomputable def k_tx_twice : KC :=
(.seq (.reg false <| oR 1 (.box 35 (t 0))<| oR 2 (.move (.const (.bool false)))<| .nil) (.seq (.reg false <| oR 6 (.makeMap)<| oM 3 6<| .nil) (.seq (.seq (.reg false <|
 oF 7 1 1<| oL 8 7<| oD 9 8<| oO 10 0<| .nil) (.block 0 (.loop (.seq (.reg false <| oB 11 .lss 10 9<| .nil) (.seq (.cond (t 11) .skip (.exit 0))
 (.seq (.block 1 (.seq (.reg false <| oI 12 4 8 10<| oK 13 4 12<| oR 5 (.alloc 50 [(.string ⟨#[]⟩), (.int .u32 0), (.int .u32 0), (.slice none 0 0)])<| oU 4 5 13<| .nil)
 (.seq (.reg true <| .join (oM 14 3<| oF 15 0 5<| oK 16 2 15<| .nil) <|.join (.both (oR 17 (.lookup true [.s, .i] (.int .i64 0) false (t 14) (t 16))<| oC 18 .add 17 1<|
 oR 19 (.mapEntry true [.s, .i] (.int .i64 0) (t 14) (t 16))<| oX 20 1 19<| .nil) (oR 19 (.mapEntry true [.s, .i] (.int .i64 0) (t 14) (t 16))<|
 oR 17 (.lookup true [.s, .i] (.int .i64 0) false (t 14) (t 16))<| oC 18 .add 17 1<| oX 20 1 19<| .nil)) <|oQ (.entryStore (t 14) (t 20) (t 18))<| .nil)
 (.seq (.reg false <| oM 21 3<| oF 22 0 5<| oK 23 2 22<| oR 24 (.lookup true [.s, .i] (.int .i64 0) false (t 21) (t 23))<| oC 25 .gtr 24 1<| .nil)
 (.cond (t 25) (.seq (.reg false <| oR 2 (.move (.const (.bool true)))<| .nil) .ret) .skip))))) (.reg false <| oC 26 .add 10 1<| oM 10 26<| .nil))))))) (.seq (.reg false <|
 oR 2 (.move (.const (.bool false)))<| .nil) .ret))))
theorem s_tx_twice : CS 27 k_tx_twice [.tmp 2] F.tx_twice :=
  cs Tryz.func109 (by kernel_rfl) (by kernel_rfl)
noncomputable def k_wire_encode_1 : KC :=
(.reg false <| oM 5 0<| oM 6 1<| oR 7 (ob 112 5 6)<| oR 8 (ob 111 2 7)<| .nil)
theorem s_wire_encode_1 : CS 9 k_wire_encode_1 [] F.wire_encode_1 :=
  cs Tryz.func110 (by kernel_rfl) (by kernel_rfl)
noncomputable def k_octet_Put : KC :=
(.seq (.reg false <| oR 4 (.move (.const (.string ⟨#[]⟩)))<| .nil) (.seq (.seq (.reg false <| oM 6 1<| oR 7 (oa 137 6)<| oT 8 7<| .nil) (.cond (t 8) (.seq (.reg false <|
 oR 4 (.move (.const (.string ⟨#[]⟩)))<| .nil) .ret) .skip)) (.seq (.reg false <| oR 5 (.move (.const (.slice none 0 0)))<| .nil) (.seq (.seq (.reg false <| oM 9 1<|
 oO 10 0<| .nil) (.block 0 (.loop (.seq (.reg false <| oB 11 .lss 10 9<| .nil) (.seq (.cond (t 11) .skip (.exit 0)) (.seq (.block 1 (.seq (.reg false <| oM 12 5<| oM 13 0<|
 oV 14 .u8 13<| oR 15 (.buildSlice 5 1 [(.int .u8 0)] [(0, 1, (t 14))])<| oR 16 (.append 5 1 1 [(.int .u8 0)] (t 12) (t 15))<| oM 5 16<| .nil) (.reg false <| oM 17 0<|
 oR 18 (.bin .shr (t 17) (.const (.int .u64 8)))<| oM 0 18<| .nil))) (.reg false <| oC 19 .add 10 1<| oM 10 19<| .nil))))))) (.seq (.reg false <| oM 20 5<|
 oR 21 (.strOf (t 20))<| oM 4 21<| .nil) .ret)))))
theorem s_octet_Put : CS 22 k_octet_Put [.tmp 4] F.octet_Put :=
  cs Tryz.func112 (by kernel_rfl) (by kernel_rfl)
noncomputable def k_wire_counted : KC :=
(.seq (.reg false <| oR 2 (.move (.const (.string ⟨#[]⟩)))<| .nil) (.seq (.reg false <| oM 3 0<| oV 4 .u64 3<| oR 5 (oa 138 4)<| oM 2 5<| .nil) .ret))
theorem s_wire_counted : CS 6 k_wire_counted [.tmp 2] F.wire_counted :=
  cs Tryz.func113 (by kernel_rfl) (by kernel_rfl)
noncomputable def k_wire_sized : KC :=
(.seq (.reg false <| oR 2 (.move (.const (.string ⟨#[]⟩)))<| .nil) (.seq (.reg false <| oM 3 0<| oR 4 (.len true (t 3))<| oR 5 (oa 113 4)<| oM 6 0<| oB 7 .add 5 6<|
 oM 2 7<| .nil) .ret))
theorem s_wire_sized : CS 8 k_wire_sized [.tmp 2] F.wire_sized :=
  cs Tryz.func114 (by kernel_rfl) (by kernel_rfl)
noncomputable def k_sha_begin : KC :=
(.seq (.reg false <| oR 0 (.alloc 144 [(.int .u32 0), (.int .u32 0), (.int .u32 0), (.int .u32 0), (.int .u32 0), (.int .u32 0), (.int .u32 0), (.int .u32 0)])<| .nil)
 (.seq (.reg false <|
 oR 1 (.build [(.int .u32 0), (.int .u32 0), (.int .u32 0), (.int .u32 0), (.int .u32 0), (.int .u32 0), (.int .u32 0), (.int .u32 0)] [(0, 1, (.const (.int .u32 1779033703))), (1, 1, (.const (.int .u32 3144134277))), (2, 1, (.const (.int .u32 1013904242))), (3, 1, (.const (.int .u32 2773480762))), (4, 1, (.const (.int .u32 1359893119))), (5, 1, (.const (.int .u32 2600822924))), (6, 1, (.const (.int .u32 528734635))), (7, 1, (.const (.int .u32 1541459225)))])<|
 oU 8 0 1<| .nil) .ret))
theorem s_sha_begin : CS 2 k_sha_begin [.cellN 8 0] F.sha_begin :=
  cs Tryz.func116 (by kernel_rfl) (by kernel_rfl)
noncomputable def k_sha_keys : KC :=
(.seq (.reg false <|
 oR 0 (.alloc 149 [(.int .u32 0), (.int .u32 0), (.int .u32 0), (.int .u32 0), (.int .u32 0), (.int .u32 0), (.int .u32 0), (.int .u32 0), (.int .u32 0), (.int .u32 0), (.int .u32 0), (.int .u32 0), (.int .u32 0), (.int .u32 0), (.int .u32 0), (.int .u32 0), (.int .u32 0), (.int .u32 0), (.int .u32 0), (.int .u32 0), (.int .u32 0), (.int .u32 0), (.int .u32 0), (.int .u32 0), (.int .u32 0), (.int .u32 0), (.int .u32 0), (.int .u32 0), (.int .u32 0), (.int .u32 0), (.int .u32 0), (.int .u32 0), (.int .u32 0), (.int .u32 0), (.int .u32 0), (.int .u32 0), (.int .u32 0), (.int .u32 0), (.int .u32 0), (.int .u32 0), (.int .u32 0), (.int .u32 0), (.int .u32 0), (.int .u32 0), (.int .u32 0), (.int .u32 0), (.int .u32 0), (.int .u32 0), (.int .u32 0), (.int .u32 0), (.int .u32 0), (.int .u32 0), (.int .u32 0), (.int .u32 0), (.int .u32 0), (.int .u32 0), (.int .u32 0), (.int .u32 0), (.int .u32 0), (.int .u32 0), (.int .u32 0), (.int .u32 0), (.int .u32 0), (.int .u32 0)])<| .nil)
 (.seq (.reg false <|
 oR 1 (.build [(.int .u32 0), (.int .u32 0), (.int .u32 0), (.int .u32 0), (.int .u32 0), (.int .u32 0), (.int .u32 0), (.int .u32 0), (.int .u32 0), (.int .u32 0), (.int .u32 0), (.int .u32 0), (.int .u32 0), (.int .u32 0), (.int .u32 0), (.int .u32 0), (.int .u32 0), (.int .u32 0), (.int .u32 0), (.int .u32 0), (.int .u32 0), (.int .u32 0), (.int .u32 0), (.int .u32 0), (.int .u32 0), (.int .u32 0), (.int .u32 0), (.int .u32 0), (.int .u32 0), (.int .u32 0), (.int .u32 0), (.int .u32 0), (.int .u32 0), (.int .u32 0), (.int .u32 0), (.int .u32 0), (.int .u32 0), (.int .u32 0), (.int .u32 0), (.int .u32 0), (.int .u32 0), (.int .u32 0), (.int .u32 0), (.int .u32 0), (.int .u32 0), (.int .u32 0), (.int .u32 0), (.int .u32 0), (.int .u32 0), (.int .u32 0), (.int .u32 0), (.int .u32 0), (.int .u32 0), (.int .u32 0), (.int .u32 0), (.int .u32 0), (.int .u32 0), (.int .u32 0), (.int .u32 0), (.int .u32 0), (.int .u32 0), (.int .u32 0), (.int .u32 0), (.int .u32 0)] [(0, 1, (.const (.int .u32 1116352408))), (1, 1, (.const (.int .u32 1899447441))), (2, 1, (.const (.int .u32 3049323471))), (3, 1, (.const (.int .u32 3921009573))), (4, 1, (.const (.int .u32 961987163))), (5, 1, (.const (.int .u32 1508970993))), (6, 1, (.const (.int .u32 2453635748))), (7, 1, (.const (.int .u32 2870763221))), (8, 1, (.const (.int .u32 3624381080))), (9, 1, (.const (.int .u32 310598401))), (10, 1, (.const (.int .u32 607225278))), (11, 1, (.const (.int .u32 1426881987))), (12, 1, (.const (.int .u32 1925078388))), (13, 1, (.const (.int .u32 2162078206))), (14, 1, (.const (.int .u32 2614888103))), (15, 1, (.const (.int .u32 3248222580))), (16, 1, (.const (.int .u32 3835390401))), (17, 1, (.const (.int .u32 4022224774))), (18, 1, (.const (.int .u32 264347078))), (19, 1, (.const (.int .u32 604807628))), (20, 1, (.const (.int .u32 770255983))), (21, 1, (.const (.int .u32 1249150122))), (22, 1, (.const (.int .u32 1555081692))), (23, 1, (.const (.int .u32 1996064986))), (24, 1, (.const (.int .u32 2554220882))), (25, 1, (.const (.int .u32 2821834349))), (26, 1, (.const (.int .u32 2952996808))), (27, 1, (.const (.int .u32 3210313671))), (28, 1, (.const (.int .u32 3336571891))), (29, 1, (.const (.int .u32 3584528711))), (30, 1, (.const (.int .u32 113926993))), (31, 1, (.const (.int .u32 338241895))), (32, 1, (.const (.int .u32 666307205))), (33, 1, (.const (.int .u32 773529912))), (34, 1, (.const (.int .u32 1294757372))), (35, 1, (.const (.int .u32 1396182291))), (36, 1, (.const (.int .u32 1695183700))), (37, 1, (.const (.int .u32 1986661051))), (38, 1, (.const (.int .u32 2177026350))), (39, 1, (.const (.int .u32 2456956037))), (40, 1, (.const (.int .u32 2730485921))), (41, 1, (.const (.int .u32 2820302411))), (42, 1, (.const (.int .u32 3259730800))), (43, 1, (.const (.int .u32 3345764771))), (44, 1, (.const (.int .u32 3516065817))), (45, 1, (.const (.int .u32 3600352804))), (46, 1, (.const (.int .u32 4094571909))), (47, 1, (.const (.int .u32 275423344))), (48, 1, (.const (.int .u32 430227734))), (49, 1, (.const (.int .u32 506948616))), (50, 1, (.const (.int .u32 659060556))), (51, 1, (.const (.int .u32 883997877))), (52, 1, (.const (.int .u32 958139571))), (53, 1, (.const (.int .u32 1322822218))), (54, 1, (.const (.int .u32 1537002063))), (55, 1, (.const (.int .u32 1747873779))), (56, 1, (.const (.int .u32 1955562222))), (57, 1, (.const (.int .u32 2024104815))), (58, 1, (.const (.int .u32 2227730452))), (59, 1, (.const (.int .u32 2361852424))), (60, 1, (.const (.int .u32 2428436474))), (61, 1, (.const (.int .u32 2756734187))), (62, 1, (.const (.int .u32 3204031479))), (63, 1, (.const (.int .u32 3329325298)))])<|
 oU 64 0 1<| .nil) .ret))
theorem s_sha_keys : CS 2 k_sha_keys [.cellN 64 0] F.sha_keys :=
  cs Tryz.func117 (by kernel_rfl) (by kernel_rfl)
noncomputable def k_sha_padded : KC :=
(.seq (.reg false <| oR 2 (.move (.const (.string ⟨#[]⟩)))<| .nil) (.seq (.reg false <| oM 4 0<| oR 5 (.len true (t 4))<| oC 6 .rem 5 64<|
 oR 7 (.bin .sub (oi 119) (t 6))<| oC 8 .rem 7 64<| oM 3 8<| .nil) (.seq (.reg false <| oM 9 0<| oR 10 (.bin .add (t 9) (.const (.string ⟨#[128]⟩)))<| oM 11 3<|
 oR 12 (.call 101 [(.const (.string ⟨#[0]⟩)), (t 11)])<| oB 13 .add 10 12<| oM 14 0<| oR 15 (.len true (t 14))<| oV 16 .u64 15<|
 oR 17 (.bin .mul (t 16) (.const (.int .u64 8)))<| oR 18 (.call 121 [(t 17), (oi 8)])<| oB 19 .add 13 18<| oM 2 19<| .nil) .ret)))
theorem s_sha_padded : CS 20 k_sha_padded [.tmp 2] F.sha_padded :=
  cs Tryz.func118 (by kernel_rfl) (by kernel_rfl)
noncomputable def k_sha_schedule : KC :=
(.seq (.reg false <|
 oR 2 (.alloc 149 [(.int .u32 0), (.int .u32 0), (.int .u32 0), (.int .u32 0), (.int .u32 0), (.int .u32 0), (.int .u32 0), (.int .u32 0), (.int .u32 0), (.int .u32 0), (.int .u32 0), (.int .u32 0), (.int .u32 0), (.int .u32 0), (.int .u32 0), (.int .u32 0), (.int .u32 0), (.int .u32 0), (.int .u32 0), (.int .u32 0), (.int .u32 0), (.int .u32 0), (.int .u32 0), (.int .u32 0), (.int .u32 0), (.int .u32 0), (.int .u32 0), (.int .u32 0), (.int .u32 0), (.int .u32 0), (.int .u32 0), (.int .u32 0), (.int .u32 0), (.int .u32 0), (.int .u32 0), (.int .u32 0), (.int .u32 0), (.int .u32 0), (.int .u32 0), (.int .u32 0), (.int .u32 0), (.int .u32 0), (.int .u32 0), (.int .u32 0), (.int .u32 0), (.int .u32 0), (.int .u32 0), (.int .u32 0), (.int .u32 0), (.int .u32 0), (.int .u32 0), (.int .u32 0), (.int .u32 0), (.int .u32 0), (.int .u32 0), (.int .u32 0), (.int .u32 0), (.int .u32 0), (.int .u32 0), (.int .u32 0), (.int .u32 0), (.int .u32 0), (.int .u32 0), (.int .u32 0)])<| .nil)
 (.seq (.reg false <|
 oR 3 (.alloc 149 [(.int .u32 0), (.int .u32 0), (.int .u32 0), (.int .u32 0), (.int .u32 0), (.int .u32 0), (.int .u32 0), (.int .u32 0), (.int .u32 0), (.int .u32 0), (.int .u32 0), (.int .u32 0), (.int .u32 0), (.int .u32 0), (.int .u32 0), (.int .u32 0), (.int .u32 0), (.int .u32 0), (.int .u32 0), (.int .u32 0), (.int .u32 0), (.int .u32 0), (.int .u32 0), (.int .u32 0), (.int .u32 0), (.int .u32 0), (.int .u32 0), (.int .u32 0), (.int .u32 0), (.int .u32 0), (.int .u32 0), (.int .u32 0), (.int .u32 0), (.int .u32 0), (.int .u32 0), (.int .u32 0), (.int .u32 0), (.int .u32 0), (.int .u32 0), (.int .u32 0), (.int .u32 0), (.int .u32 0), (.int .u32 0), (.int .u32 0), (.int .u32 0), (.int .u32 0), (.int .u32 0), (.int .u32 0), (.int .u32 0), (.int .u32 0), (.int .u32 0), (.int .u32 0), (.int .u32 0), (.int .u32 0), (.int .u32 0), (.int .u32 0), (.int .u32 0), (.int .u32 0), (.int .u32 0), (.int .u32 0), (.int .u32 0), (.int .u32 0), (.int .u32 0), (.int .u32 0)])<| .nil)
 (.seq (.seq (.reg false <| oO 9 0<| .nil) (.block 0 (.loop (.seq (.reg false <| oC 10 .lss 9 64<| .nil) (.seq (.cond (t 10) .skip (.exit 0))
 (.seq (.block 1 (.seq (.reg false <| oM 11 9<| oM 4 11<| .nil) (.seq (.seq (.reg false <| oM 12 4<| oC 13 .lss 12 16<| .nil) (.cond (t 13) (.seq (.seq (.reg false <|
 oM 14 0<| oM 15 4<| oR 16 (.bin .mul (oi 4) (t 15))<| oM 17 4<| oR 18 (.bin .mul (oi 4) (t 17))<| oC 19 .add 18 4<| oR 20 (.sliceStr (t 14) (some (t 16)) (some (t 19)))<|
 oR 21 (.bytesOf 5 (t 20))<| oD 22 21<| oO 23 0<| .nil) (.block 2 (.loop (.seq (.reg false <| oB 24 .lss 23 22<| .nil) (.seq (.cond (t 24) .skip (.exit 2))
 (.seq (.block 3 (.seq (.reg false <| oI 25 1 21 23<| oL 26 25<| oM 6 26<| .nil) (.reg false <| oM 27 4<| oM 28 4<| oR 29 (.indexArr 1 64 (t 3) (t 28))<| oL 30 29<|
 oR 31 (.bin .shl (t 30) (.const (.int .u64 8)))<| oM 32 6<| oV 33 .u32 32<| oB 34 .or 31 33<| oR 35 (.indexArr 1 64 (t 3) (t 27))<| oS 35 34<| .nil))) (.reg false <|
 oC 36 .add 23 1<| oM 23 36<| .nil))))))) (.exit 1)) .skip)) (.seq (.reg true <| oM 37 4<| oC 38 .sub 37 15<| oR 39 (.indexArr 1 64 (t 3) (t 38))<| oL 40 39<| oM 41 4<|
 oC 42 .sub 41 2<| oR 43 (.indexArr 1 64 (t 3) (t 42))<| oL 44 43<| oM 7 40<| oM 8 44<| .nil) (.reg true <| .join (oM 45 4<| oM 46 4<| oC 47 .sub 46 16<|
 oR 48 (.indexArr 1 64 (t 3) (t 47))<| oL 49 48<| oM 50 7<| oR 51 (.pcall 139 Go.Proofs.YtfeifodeaphbjaaGreat.qRotI [(t 50), (oi 7)])<| oM 52 7<|
 oR 53 (.pcall 139 Go.Proofs.YtfeifodeaphbjaaGreat.qRotI [(t 52), (oi 18)])<| oB 54 .xor 51 53<| oM 55 7<| oR 56 (.bin .shr (t 55) (.const (.int .u64 3)))<|
 oB 57 .xor 54 56<| oB 58 .add 49 57<| oM 59 4<| oC 60 .sub 59 7<| oR 61 (.indexArr 1 64 (t 3) (t 60))<| oL 62 61<| oB 63 .add 58 62<| oM 64 8<|
 oR 65 (.pcall 139 Go.Proofs.YtfeifodeaphbjaaGreat.qRotI [(t 64), (oi 17)])<| oM 66 8<| oR 67 (.pcall 139 Go.Proofs.YtfeifodeaphbjaaGreat.qRotI [(t 66), (oi 19)])<|
 oB 68 .xor 65 67<| oM 69 8<| oR 70 (.bin .shr (t 69) (.const (.int .u64 10)))<| oB 71 .xor 68 70<| oB 72 .add 63 71<|
 oR 73 (.indexArr 1 64 (t 3) (t 45))<| .nil) <|oS 73 72<| .nil))))) (.reg false <| oC 74 .add 9 1<| oM 9 74<| .nil))))))) (.seq (.reg false <| oK 75 64 3<|
 oU 64 2 75<| .nil) .ret))))
theorem s_sha_schedule : CS 76 k_sha_schedule [.cellN 64 2] F.sha_schedule :=
  cs Tryz.func119 (by kernel_rfl) (by kernel_rfl)
noncomputable def k_sha_round : KC :=
(.seq (.reg false <| oR 3 (.box 144 (t 0))<|
 oR 6 (.alloc 144 [(.int .u32 0), (.int .u32 0), (.int .u32 0), (.int .u32 0), (.int .u32 0), (.int .u32 0), (.int .u32 0), (.int .u32 0)])<| .nil) (.seq (.reg true <|
 oR 11 (.indexArr 1 8 (t 3) (oi 0))<| oL 12 11<| oR 13 (.indexArr 1 8 (t 3) (oi 4))<| oL 14 13<| oM 7 12<| oM 8 14<| .nil) (.seq (.reg true <|
 oR 15 (.indexArr 1 8 (t 3) (oi 7))<| oL 16 15<| oM 17 8<| oR 18 (.pcall 139 Go.Proofs.YtfeifodeaphbjaaGreat.qRotI [(t 17), (oi 6)])<| oM 19 8<|
 oR 20 (.pcall 139 Go.Proofs.YtfeifodeaphbjaaGreat.qRotI [(t 19), (oi 11)])<| oB 21 .xor 18 20<| oM 22 8<|
 oR 23 (.pcall 139 Go.Proofs.YtfeifodeaphbjaaGreat.qRotI [(t 22), (oi 25)])<| oB 24 .xor 21 23<| oB 25 .add 16 24<| oM 26 8<| oR 27 (.indexArr 1 8 (t 3) (oi 5))<|
 oL 28 27<| oB 29 .and 26 28<| oM 30 8<| oR 31 (.unNeg true (t 30))<| oR 32 (.indexArr 1 8 (t 3) (oi 6))<| oL 33 32<| oB 34 .and 31 33<| oB 35 .xor 29 34<|
 oB 36 .add 25 35<| oM 37 1<| oB 38 .add 36 37<| oM 39 2<| oB 40 .add 38 39<| oM 9 40<| .nil) (.seq (.reg true <| oM 41 7<|
 oR 42 (.pcall 139 Go.Proofs.YtfeifodeaphbjaaGreat.qRotI [(t 41), (oi 2)])<| oM 43 7<| oR 44 (.pcall 139 Go.Proofs.YtfeifodeaphbjaaGreat.qRotI [(t 43), (oi 13)])<|
 oB 45 .xor 42 44<| oM 46 7<| oR 47 (.pcall 139 Go.Proofs.YtfeifodeaphbjaaGreat.qRotI [(t 46), (oi 22)])<| oB 48 .xor 45 47<| oM 49 7<| oR 50 (.indexArr 1 8 (t 3) (oi 1))<|
 oL 51 50<| oB 52 .and 49 51<| oM 53 7<| oR 54 (.indexArr 1 8 (t 3) (oi 2))<| oL 55 54<| oB 56 .and 53 55<| oB 57 .xor 52 56<| oR 58 (.indexArr 1 8 (t 3) (oi 1))<|
 oL 59 58<| oR 60 (.indexArr 1 8 (t 3) (oi 2))<| oL 61 60<| oB 62 .and 59 61<| oB 63 .xor 57 62<| oB 64 .add 48 63<| oM 10 64<| .nil) (.seq (.reg false <| oM 65 9<|
 oM 66 10<| oB 67 .add 65 66<| oM 68 7<| oR 69 (.indexArr 1 8 (t 3) (oi 1))<| oL 70 69<| oR 71 (.indexArr 1 8 (t 3) (oi 2))<| oL 72 71<|
 oR 73 (.indexArr 1 8 (t 3) (oi 3))<| oL 74 73<| oM 75 9<| oB 76 .add 74 75<| oM 77 8<| oR 78 (.indexArr 1 8 (t 3) (oi 5))<| oL 79 78<| oR 80 (.indexArr 1 8 (t 3) (oi 6))<|
 oL 81 80<|
 oR 82 (.build [(.int .u32 0), (.int .u32 0), (.int .u32 0), (.int .u32 0), (.int .u32 0), (.int .u32 0), (.int .u32 0), (.int .u32 0)] [(0, 1, (t 67)), (1, 1, (t 68)), (2, 1, (t 70)), (3, 1, (t 72)), (4, 1, (t 76)), (5, 1, (t 77)), (6, 1, (t 79)), (7, 1, (t 81))])<|
 oU 8 6 82<| .nil) .ret)))))
theorem s_sha_round : CS 83 k_sha_round [.cellN 8 6] F.sha_round :=
  cs Tryz.func120 (by kernel_rfl) (by kernel_rfl)
noncomputable def k_sha_high : KC :=
(.seq (.reg false <| oR 4 (.move (.const (.string ⟨#[]⟩)))<| .nil) (.seq (.reg false <| oM 7 1<| oR 8 (.makeSlice 5 1 1 [(.int .u8 0)] (t 7) (t 7))<| oM 5 8<| .nil)
 (.seq (.seq (.reg false <| oM 9 5<| oD 10 9<| oO 11 0<| .nil) (.block 0 (.loop (.seq (.reg false <| oB 12 .lss 11 10<| .nil) (.seq (.cond (t 12) .skip (.exit 0))
 (.seq (.block 1 (.seq (.reg false <| oM 13 11<| oM 6 13<| .nil) (.seq (.reg false <| oM 14 5<| oM 15 1<| oC 16 .sub 15 1<| oM 17 6<| oB 18 .sub 16 17<| oM 19 0<|
 oV 20 .u8 19<| oI 21 1 14 18<| oS 21 20<| .nil) (.reg false <| oM 22 0<| oR 23 (.bin .shr (t 22) (.const (.int .u64 8)))<| oM 0 23<| .nil)))) (.reg false <|
 oC 24 .add 11 1<| oM 11 24<| .nil))))))) (.seq (.reg false <| oM 25 5<| oR 26 (.strOf (t 25))<| oM 4 26<| .nil) .ret))))
theorem s_sha_high : CS 27 k_sha_high [.tmp 4] F.sha_high :=
  cs Tryz.func121 (by kernel_rfl) (by kernel_rfl)
noncomputable def k_slices_ContainsFunc_L_api_In_api_In : KC :=
(.seq (.reg false <| oR 4 (.move (.const (.bool false)))<| .nil) (.seq (.reg false <| oM 5 0<| oM 6 1<| oR 7 (ob 144 5 6)<| oC 8 .geq 7 0<| oM 4 8<| .nil) .ret))
theorem s_slices_ContainsFunc_L_api_In_api_In : CS 9 k_slices_ContainsFunc_L_api_In_api_In [.tmp 4] F.slices_ContainsFunc_L_api_In_api_In :=
  cs Tryz.func126 (by kernel_rfl) (by kernel_rfl)
noncomputable def k_wire_witnessed_1 : KC :=
(.seq (.reg false <| oR 1 (.box 50 (t 0))<| oR 2 (.move (.const (.bool false)))<| .nil) (.seq (.reg false <| oF 3 3 1<| oL 4 3<| oD 5 4<| oC 6 .gtr 5 0<|
 oM 2 6<| .nil) .ret))
theorem s_wire_witnessed_1 : CS 7 k_wire_witnessed_1 [.tmp 2] F.wire_witnessed_1 :=
  cs Tryz.func127 (by kernel_rfl) (by kernel_rfl)
noncomputable def k_amount_Sum : KC :=
(.seq (.reg false <| oO 2 0<| oO 3 0<| .nil) (.seq (.reg false <| oO 4 0<| .nil) (.seq (.seq (.reg false <| oM 8 0<| oD 9 8<| oO 10 0<| .nil)
 (.block 0 (.loop (.seq (.reg false <| oB 11 .lss 10 9<| .nil) (.seq (.cond (t 11) .skip (.exit 0)) (.seq (.block 1 (.seq (.reg false <| oI 12 1 8 10<| oL 13 12<|
 oM 6 13<| .nil) (.seq (.reg false <| oO 7 0<| .nil) (.seq (.reg false <| oM 15 4<| oM 16 6<| oR 17 (ob 145 15 16)<| oM 14 17<| oX 18 0 14<| oX 19 1 14<| oM 4 18<|
 oM 7 19<| .nil) (.seq (.reg false <| oM 20 7<| oC 21 .neq 20 0<| .nil) (.cond (t 21) (.seq (.reg false <| oM 22 7<| oO 2 0<| oM 3 22<| .nil) .ret) .skip))))))
 (.reg false <| oC 23 .add 10 1<| oM 10 23<| .nil))))))) (.seq (.reg false <| oM 24 4<| oM 2 24<| oO 3 0<| .nil) .ret))))
theorem s_amount_Sum : CS 25 k_amount_Sum [.tmp 2, .tmp 3] F.amount_Sum :=
  cs Tryz.func128 (by kernel_rfl) (by kernel_rfl)
noncomputable def k_tx_counts_1 : KC :=
(.seq (.reg false <| oR 1 (.box 50 (t 0))<| oR 2 (.move (.const (.bool false)))<| .nil) (.seq (.reg false <| oF 3 3 1<| oL 4 3<| oD 5 4<| oC 6 .gtr 5 4<|
 oM 2 6<| .nil) .ret))
theorem s_tx_counts_1 : CS 7 k_tx_counts_1 [.tmp 2] F.tx_counts_1 :=
  cs Tryz.func130 (by kernel_rfl) (by kernel_rfl)
noncomputable def k_tx_long_1 : KC :=
(.seq (.reg false <| oR 2 (.move (.const (.bool false)))<| .nil) (.seq (.reg false <| oM 3 0<| oR 4 (.len true (t 3))<| oC 5 .gtr 4 80<| oM 2 5<| .nil) .ret))
theorem s_tx_long_1 : CS 6 k_tx_long_1 [.tmp 2] F.tx_long_1 :=
  cs Tryz.func131 (by kernel_rfl) (by kernel_rfl)
noncomputable def k_slices_ContainsFunc_L_api_Out_api_Out : KC :=
(.seq (.reg false <| oR 4 (.move (.const (.bool false)))<| .nil) (.seq (.reg false <| oM 5 0<| oM 6 1<| oR 7 (ob 146 5 6)<| oC 8 .geq 7 0<| oM 4 8<| .nil) .ret))
theorem s_slices_ContainsFunc_L_api_Out_api_Out : CS 9 k_slices_ContainsFunc_L_api_Out_api_Out [.tmp 4] F.slices_ContainsFunc_L_api_Out_api_Out :=
  cs Tryz.func132 (by kernel_rfl) (by kernel_rfl)
noncomputable def k_tx_long_2 : KC :=
(.seq (.reg false <| oR 1 (.box 58 (t 0))<| oR 2 (.move (.const (.bool false)))<| .nil) (.seq (.reg false <| oF 3 1 1<| oL 4 3<| oR 5 (.len true (t 4))<| oC 6 .gtr 5 40<|
 oM 2 6<| .nil) .ret))
theorem s_tx_long_2 : CS 7 k_tx_long_2 [.tmp 2] F.tx_long_2 :=
  cs Tryz.func133 (by kernel_rfl) (by kernel_rfl)
noncomputable def k_tx_long_3 : KC :=
(.seq (.reg false <| oR 2 (.box 50 (t 0))<| oR 3 (.move (.const (.bool false)))<| .nil) (.seq (.reg false <| oF 4 3 2<| oL 5 4<| oL 6 1<| oR 7 (ob 135 5 6)<|
 oM 3 7<| .nil) .ret))
theorem s_tx_long_3 : CS 8 k_tx_long_3 [.tmp 3] F.tx_long_3 :=
  cs Tryz.func134 (by kernel_rfl) (by kernel_rfl)
noncomputable def k_slices_ContainsFunc_L_string_string : KC :=
(.seq (.reg false <| oR 4 (.move (.const (.bool false)))<| .nil) (.seq (.reg false <| oM 5 0<| oM 6 1<| oR 7 (ob 72 5 6)<| oC 8 .geq 7 0<| oM 4 8<| .nil) .ret))
theorem s_slices_ContainsFunc_L_string_string : CS 9 k_slices_ContainsFunc_L_string_string [.tmp 4] F.slices_ContainsFunc_L_string_string :=
  cs Tryz.func135 (by kernel_rfl) (by kernel_rfl)
noncomputable def k_octet_known : KC :=
(.seq (.reg false <| oR 2 (.move (.const (.bool false)))<| .nil) (.seq (.reg false <|
 oR 3 (.buildSlice 3 4 [(.int .i64 0), (.int .i64 0), (.int .i64 0), (.int .i64 0)] [(0, 1, (oi 1)), (1, 1, (oi 2)), (2, 1, (oi 4)), (3, 1, (oi 8))])<| oM 4 0<|
 oR 5 (ob 148 3 4)<| oM 2 5<| .nil) .ret))
theorem s_octet_known : CS 6 k_octet_known [.tmp 2] F.octet_known :=
  cs Tryz.func137 (by kernel_rfl) (by kernel_rfl)
noncomputable def k_vint_Put : KC :=
(.seq (.reg false <| oR 2 (.move (.const (.string ⟨#[]⟩)))<| .nil) (.seq (.block 0 (.seq (.reg false <| oM 4 0<| oR 5 (.bin .lss (t 4) (.const (.int .u64 253)))<|
 oM 3 5<| .nil) (.cond (t 3) (.seq (.reg false <| oM 6 0<| oR 7 (.call 112 [(t 6), (oi 1)])<| oM 2 7<| .nil) .ret) (.seq (.reg false <| oM 9 0<|
 oR 10 (.bin .lss (t 9) (.const (.int .u64 65536)))<| oM 8 10<| .nil) (.cond (t 8) (.seq (.reg false <| oR 11 (.call 112 [(.const (.int .u64 253)), (oi 1)])<| oM 12 0<|
 oR 13 (.call 112 [(t 12), (oi 2)])<| oB 14 .add 11 13<| oM 2 14<| .nil) .ret) (.seq (.reg false <| oM 16 0<| oR 17 (.bin .lss (t 16) (.const (.int .u64 4294967296)))<|
 oM 15 17<| .nil) (.cond (t 15) (.seq (.reg false <| oR 18 (.call 112 [(.const (.int .u64 254)), (oi 1)])<| oM 19 0<| oR 20 (.call 112 [(t 19), (oi 4)])<|
 oB 21 .add 18 20<| oM 2 21<| .nil) .ret) .skip))))))) (.seq (.reg false <| oR 22 (.call 112 [(.const (.int .u64 255)), (oi 1)])<| oM 23 0<|
 oR 24 (.call 112 [(t 23), (oi 8)])<| oB 25 .add 22 24<| oM 2 25<| .nil) .ret)))
theorem s_vint_Put : CS 26 k_vint_Put [.tmp 2] F.vint_Put :=
  cs Tryz.func138 (by kernel_rfl) (by kernel_rfl)
noncomputable def k_slices_IndexFunc_L_api_In_api_In : KC :=
(.seq (.reg false <| oO 4 0<| .nil) (.seq (.seq (.reg false <| oM 6 0<| oD 7 6<| oO 8 0<| .nil) (.block 0 (.loop (.seq (.reg false <| oB 9 .lss 8 7<| .nil)
 (.seq (.cond (t 9) .skip (.exit 0)) (.seq (.block 1 (.seq (.reg false <| oM 10 8<| oM 5 10<| .nil) (.seq (.reg false <| oM 11 1<| oM 12 0<| oM 13 5<| oI 14 4 12 13<|
 oK 15 4 14<| oR 16 (.callV (t 11) [(t 15)])<| .nil) (.cond (t 16) (.seq (.reg false <| oM 17 5<| oM 4 17<| .nil) .ret) .skip)))) (.reg false <| oC 18 .add 8 1<|
 oM 8 18<| .nil))))))) (.seq (.reg false <| oO 4 (-1)<| .nil) .ret)))
theorem s_slices_IndexFunc_L_api_In_api_In : CS 19 k_slices_IndexFunc_L_api_In_api_In [.tmp 4] F.slices_IndexFunc_L_api_In_api_In :=
  cs Tryz.func144 (by kernel_rfl) (by kernel_rfl)
noncomputable def k_amount_Add : KC :=
(.seq (.reg false <| oO 4 0<| oO 5 0<| .nil) (.seq (.seq (.reg false <| oM 6 0<| oR 7 (.pcall 75 Go.Proofs.YtfeifodeaphbjaaGreat.qGood [(t 6)])<| oT 8 7<| oM 9 8<|
 oG 10 9 false (.move (t 1))<| oG 11 9 false (.pcall 75 Go.Proofs.YtfeifodeaphbjaaGreat.qGood [(t 10)])<| oG 12 9 false (.not (t 11))<|
 oR 13 (.pick (t 9) (.const (.bool true)) (t 12))<| oM 14 13<| oG 15 14 false (.move (t 0))<| oG 16 14 false (.move (t 1))<| oG 17 14 false (.bin .add (t 15) (t 16))<|
 oG 18 14 false (.pcall 75 Go.Proofs.YtfeifodeaphbjaaGreat.qGood [(t 17)])<| oG 19 14 false (.not (t 18))<| oR 20 (.pick (t 14) (.const (.bool true)) (t 19))<| .nil)
 (.cond (t 20) (.seq (.reg false <| oO 4 0<| oO 5 3<| .nil) .ret) .skip)) (.seq (.reg false <| oM 21 0<| oM 22 1<| oB 23 .add 21 22<| oM 4 23<| oO 5 0<| .nil) .ret)))
theorem s_amount_Add : CS 24 k_amount_Add [.tmp 4, .tmp 5] F.amount_Add :=
  cs Tryz.func145 (by kernel_rfl) (by kernel_rfl)
noncomputable def k_slices_IndexFunc_L_api_Out_api_Out : KC :=
(.seq (.reg false <| oO 4 0<| .nil) (.seq (.seq (.reg false <| oM 6 0<| oD 7 6<| oO 8 0<| .nil) (.block 0 (.loop (.seq (.reg false <| oB 9 .lss 8 7<| .nil)
 (.seq (.cond (t 9) .skip (.exit 0)) (.seq (.block 1 (.seq (.reg false <| oM 10 8<| oM 5 10<| .nil) (.seq (.reg false <| oM 11 1<| oM 12 0<| oM 13 5<| oI 14 2 12 13<|
 oK 15 2 14<| oR 16 (.callV (t 11) [(t 15)])<| .nil) (.cond (t 16) (.seq (.reg false <| oM 17 5<| oM 4 17<| .nil) .ret) .skip)))) (.reg false <| oC 18 .add 8 1<|
 oM 8 18<| .nil))))))) (.seq (.reg false <| oO 4 (-1)<| .nil) .ret)))
theorem s_slices_IndexFunc_L_api_Out_api_Out : CS 19 k_slices_IndexFunc_L_api_Out_api_Out [.tmp 4] F.slices_IndexFunc_L_api_Out_api_Out :=
  cs Tryz.func146 (by kernel_rfl) (by kernel_rfl)
noncomputable def k_slices_Contains_L_int_int : KC :=
(.seq (.reg false <| oR 4 (.move (.const (.bool false)))<| .nil) (.seq (.reg false <| oM 5 0<| oM 6 1<| oR 7 (ob 151 5 6)<| oC 8 .geq 7 0<| oM 4 8<| .nil) .ret))
theorem s_slices_Contains_L_int_int : CS 9 k_slices_Contains_L_int_int [.tmp 4] F.slices_Contains_L_int_int :=
  cs Tryz.func148 (by kernel_rfl) (by kernel_rfl)
noncomputable def k_slices_Index_L_int_int : KC :=
(.seq (.reg false <| oO 4 0<| .nil) (.seq (.seq (.reg false <| oM 6 0<| oD 7 6<| oO 8 0<| .nil) (.block 0 (.loop (.seq (.reg false <| oB 9 .lss 8 7<| .nil)
 (.seq (.cond (t 9) .skip (.exit 0)) (.seq (.block 1 (.seq (.reg false <| oM 10 8<| oM 5 10<| .nil) (.seq (.reg false <| oM 11 1<| oM 12 0<| oM 13 5<| oI 14 1 12 13<|
 oL 15 14<| oB 16 .eql 11 15<| .nil) (.cond (t 16) (.seq (.reg false <| oM 17 5<| oM 4 17<| .nil) .ret) .skip)))) (.reg false <| oC 18 .add 8 1<| oM 8 18<| .nil)))))))
 (.seq (.reg false <| oO 4 (-1)<| .nil) .ret)))
theorem s_slices_Index_L_int_int : CS 19 k_slices_Index_L_int_int [.tmp 4] F.slices_Index_L_int_int :=
  cs Tryz.func151 (by kernel_rfl) (by kernel_rfl)
end Go.Proofs.YtfeifodeaphbjaaGreat
end
