/- The resolved code of functions, printed by program. -/
import Derived.Test.YteggaepppahefaaGreatG12
set_option linter.unusedVariables false
set_option linter.unusedSimpArgs false
section
namespace Go.Proofs.YteggaepppahefaaGreat
open Go Go.K
noncomputable def k_sha_Sum : KC :=
(.seq (.reg false <| oR 2 (.move (.const (.string ⟨#[]⟩)))<| .nil) (.seq (.reg false <| oR 12 (.call 139 [])<| oR 13 (.call 140 [])<|
 oR 3 (.alloc 174 [(.int .u32 0), (.int .u32 0), (.int .u32 0), (.int .u32 0), (.int .u32 0), (.int .u32 0), (.int .u32 0), (.int .u32 0)])<|
 oR 4 (.alloc 176 [(.int .u32 0), (.int .u32 0), (.int .u32 0), (.int .u32 0), (.int .u32 0), (.int .u32 0), (.int .u32 0), (.int .u32 0), (.int .u32 0), (.int .u32 0), (.int .u32 0), (.int .u32 0), (.int .u32 0), (.int .u32 0), (.int .u32 0), (.int .u32 0), (.int .u32 0), (.int .u32 0), (.int .u32 0), (.int .u32 0), (.int .u32 0), (.int .u32 0), (.int .u32 0), (.int .u32 0), (.int .u32 0), (.int .u32 0), (.int .u32 0), (.int .u32 0), (.int .u32 0), (.int .u32 0), (.int .u32 0), (.int .u32 0), (.int .u32 0), (.int .u32 0), (.int .u32 0), (.int .u32 0), (.int .u32 0), (.int .u32 0), (.int .u32 0), (.int .u32 0), (.int .u32 0), (.int .u32 0), (.int .u32 0), (.int .u32 0), (.int .u32 0), (.int .u32 0), (.int .u32 0), (.int .u32 0), (.int .u32 0), (.int .u32 0), (.int .u32 0), (.int .u32 0), (.int .u32 0), (.int .u32 0), (.int .u32 0), (.int .u32 0), (.int .u32 0), (.int .u32 0), (.int .u32 0), (.int .u32 0), (.int .u32 0), (.int .u32 0), (.int .u32 0), (.int .u32 0)])<|
 oU 8 3 12<| oU 64 4 13<| .nil) (.seq (.seq (.reg false <| oM 14 0<| oR 15 (oa 141 14)<| oM 0 15<| .nil) (.block 0 (.loop (.seq (.seq (.reg false <| oM 16 0<|
 oR 17 (.bin .neq (t 16) (.const (.string ⟨#[]⟩)))<| .nil) (.cond (t 17) .skip (.exit 0)))
 (.seq (.block 1 (.seq (.reg true <| .join (oM 20 0<| .both (oR 21 (oa 142 20)<| .both (oK 22 8 3<| .both (oR 5 (.alloc 176 [(.int .u32 0), (.int .u32 0), (.int .u32 0), (.int .u32 0), (.int .u32 0), (.int .u32 0), (.int .u32 0), (.int .u32 0), (.int .u32 0), (.int .u32 0), (.int .u32 0), (.int .u32 0), (.int .u32 0), (.int .u32 0), (.int .u32 0), (.int .u32 0), (.int .u32 0), (.int .u32 0), (.int .u32 0), (.int .u32 0), (.int .u32 0), (.int .u32 0), (.int .u32 0), (.int .u32 0), (.int .u32 0), (.int .u32 0), (.int .u32 0), (.int .u32 0), (.int .u32 0), (.int .u32 0), (.int .u32 0), (.int .u32 0), (.int .u32 0), (.int .u32 0), (.int .u32 0), (.int .u32 0), (.int .u32 0), (.int .u32 0), (.int .u32 0), (.int .u32 0), (.int .u32 0), (.int .u32 0), (.int .u32 0), (.int .u32 0), (.int .u32 0), (.int .u32 0), (.int .u32 0), (.int .u32 0), (.int .u32 0), (.int .u32 0), (.int .u32 0), (.int .u32 0), (.int .u32 0), (.int .u32 0), (.int .u32 0), (.int .u32 0), (.int .u32 0), (.int .u32 0), (.int .u32 0), (.int .u32 0), (.int .u32 0), (.int .u32 0), (.int .u32 0), (.int .u32 0)])<|
 oR 6 (.alloc 174 [(.int .u32 0), (.int .u32 0), (.int .u32 0), (.int .u32 0), (.int .u32 0), (.int .u32 0), (.int .u32 0), (.int .u32 0)])<| oU 64 5 21<| .nil)
 (oR 6 (.alloc 174 [(.int .u32 0), (.int .u32 0), (.int .u32 0), (.int .u32 0), (.int .u32 0), (.int .u32 0), (.int .u32 0), (.int .u32 0)])<|
 oR 5 (.alloc 176 [(.int .u32 0), (.int .u32 0), (.int .u32 0), (.int .u32 0), (.int .u32 0), (.int .u32 0), (.int .u32 0), (.int .u32 0), (.int .u32 0), (.int .u32 0), (.int .u32 0), (.int .u32 0), (.int .u32 0), (.int .u32 0), (.int .u32 0), (.int .u32 0), (.int .u32 0), (.int .u32 0), (.int .u32 0), (.int .u32 0), (.int .u32 0), (.int .u32 0), (.int .u32 0), (.int .u32 0), (.int .u32 0), (.int .u32 0), (.int .u32 0), (.int .u32 0), (.int .u32 0), (.int .u32 0), (.int .u32 0), (.int .u32 0), (.int .u32 0), (.int .u32 0), (.int .u32 0), (.int .u32 0), (.int .u32 0), (.int .u32 0), (.int .u32 0), (.int .u32 0), (.int .u32 0), (.int .u32 0), (.int .u32 0), (.int .u32 0), (.int .u32 0), (.int .u32 0), (.int .u32 0), (.int .u32 0), (.int .u32 0), (.int .u32 0), (.int .u32 0), (.int .u32 0), (.int .u32 0), (.int .u32 0), (.int .u32 0), (.int .u32 0), (.int .u32 0), (.int .u32 0), (.int .u32 0), (.int .u32 0), (.int .u32 0), (.int .u32 0), (.int .u32 0), (.int .u32 0)])<|
 oU 64 5 21<| .nil))
 (.both (oR 5 (.alloc 176 [(.int .u32 0), (.int .u32 0), (.int .u32 0), (.int .u32 0), (.int .u32 0), (.int .u32 0), (.int .u32 0), (.int .u32 0), (.int .u32 0), (.int .u32 0), (.int .u32 0), (.int .u32 0), (.int .u32 0), (.int .u32 0), (.int .u32 0), (.int .u32 0), (.int .u32 0), (.int .u32 0), (.int .u32 0), (.int .u32 0), (.int .u32 0), (.int .u32 0), (.int .u32 0), (.int .u32 0), (.int .u32 0), (.int .u32 0), (.int .u32 0), (.int .u32 0), (.int .u32 0), (.int .u32 0), (.int .u32 0), (.int .u32 0), (.int .u32 0), (.int .u32 0), (.int .u32 0), (.int .u32 0), (.int .u32 0), (.int .u32 0), (.int .u32 0), (.int .u32 0), (.int .u32 0), (.int .u32 0), (.int .u32 0), (.int .u32 0), (.int .u32 0), (.int .u32 0), (.int .u32 0), (.int .u32 0), (.int .u32 0), (.int .u32 0), (.int .u32 0), (.int .u32 0), (.int .u32 0), (.int .u32 0), (.int .u32 0), (.int .u32 0), (.int .u32 0), (.int .u32 0), (.int .u32 0), (.int .u32 0), (.int .u32 0), (.int .u32 0), (.int .u32 0), (.int .u32 0)])<| .both (oK 22 8 3<|
 oR 6 (.alloc 174 [(.int .u32 0), (.int .u32 0), (.int .u32 0), (.int .u32 0), (.int .u32 0), (.int .u32 0), (.int .u32 0), (.int .u32 0)])<| oU 64 5 21<| .nil)
 (oR 6 (.alloc 174 [(.int .u32 0), (.int .u32 0), (.int .u32 0), (.int .u32 0), (.int .u32 0), (.int .u32 0), (.int .u32 0), (.int .u32 0)])<| .both (oK 22 8 3<|
 oU 64 5 21<| .nil) (oU 64 5 21<| oK 22 8 3<| .nil)))
 (oR 6 (.alloc 174 [(.int .u32 0), (.int .u32 0), (.int .u32 0), (.int .u32 0), (.int .u32 0), (.int .u32 0), (.int .u32 0), (.int .u32 0)])<| .both (oK 22 8 3<|
 oR 5 (.alloc 176 [(.int .u32 0), (.int .u32 0), (.int .u32 0), (.int .u32 0), (.int .u32 0), (.int .u32 0), (.int .u32 0), (.int .u32 0), (.int .u32 0), (.int .u32 0), (.int .u32 0), (.int .u32 0), (.int .u32 0), (.int .u32 0), (.int .u32 0), (.int .u32 0), (.int .u32 0), (.int .u32 0), (.int .u32 0), (.int .u32 0), (.int .u32 0), (.int .u32 0), (.int .u32 0), (.int .u32 0), (.int .u32 0), (.int .u32 0), (.int .u32 0), (.int .u32 0), (.int .u32 0), (.int .u32 0), (.int .u32 0), (.int .u32 0), (.int .u32 0), (.int .u32 0), (.int .u32 0), (.int .u32 0), (.int .u32 0), (.int .u32 0), (.int .u32 0), (.int .u32 0), (.int .u32 0), (.int .u32 0), (.int .u32 0), (.int .u32 0), (.int .u32 0), (.int .u32 0), (.int .u32 0), (.int .u32 0), (.int .u32 0), (.int .u32 0), (.int .u32 0), (.int .u32 0), (.int .u32 0), (.int .u32 0), (.int .u32 0), (.int .u32 0), (.int .u32 0), (.int .u32 0), (.int .u32 0), (.int .u32 0), (.int .u32 0), (.int .u32 0), (.int .u32 0), (.int .u32 0)])<|
 oU 64 5 21<| .nil)
 (oR 5 (.alloc 176 [(.int .u32 0), (.int .u32 0), (.int .u32 0), (.int .u32 0), (.int .u32 0), (.int .u32 0), (.int .u32 0), (.int .u32 0), (.int .u32 0), (.int .u32 0), (.int .u32 0), (.int .u32 0), (.int .u32 0), (.int .u32 0), (.int .u32 0), (.int .u32 0), (.int .u32 0), (.int .u32 0), (.int .u32 0), (.int .u32 0), (.int .u32 0), (.int .u32 0), (.int .u32 0), (.int .u32 0), (.int .u32 0), (.int .u32 0), (.int .u32 0), (.int .u32 0), (.int .u32 0), (.int .u32 0), (.int .u32 0), (.int .u32 0), (.int .u32 0), (.int .u32 0), (.int .u32 0), (.int .u32 0), (.int .u32 0), (.int .u32 0), (.int .u32 0), (.int .u32 0), (.int .u32 0), (.int .u32 0), (.int .u32 0), (.int .u32 0), (.int .u32 0), (.int .u32 0), (.int .u32 0), (.int .u32 0), (.int .u32 0), (.int .u32 0), (.int .u32 0), (.int .u32 0), (.int .u32 0), (.int .u32 0), (.int .u32 0), (.int .u32 0), (.int .u32 0), (.int .u32 0), (.int .u32 0), (.int .u32 0), (.int .u32 0), (.int .u32 0), (.int .u32 0), (.int .u32 0)])<| .both (oK 22 8 3<|
 oU 64 5 21<| .nil) (oU 64 5 21<| oK 22 8 3<| .nil)))))
 (.both (oK 22 8 3<| .both (oR 21 (oa 142 20)<| .both (oR 5 (.alloc 176 [(.int .u32 0), (.int .u32 0), (.int .u32 0), (.int .u32 0), (.int .u32 0), (.int .u32 0), (.int .u32 0), (.int .u32 0), (.int .u32 0), (.int .u32 0), (.int .u32 0), (.int .u32 0), (.int .u32 0), (.int .u32 0), (.int .u32 0), (.int .u32 0), (.int .u32 0), (.int .u32 0), (.int .u32 0), (.int .u32 0), (.int .u32 0), (.int .u32 0), (.int .u32 0), (.int .u32 0), (.int .u32 0), (.int .u32 0), (.int .u32 0), (.int .u32 0), (.int .u32 0), (.int .u32 0), (.int .u32 0), (.int .u32 0), (.int .u32 0), (.int .u32 0), (.int .u32 0), (.int .u32 0), (.int .u32 0), (.int .u32 0), (.int .u32 0), (.int .u32 0), (.int .u32 0), (.int .u32 0), (.int .u32 0), (.int .u32 0), (.int .u32 0), (.int .u32 0), (.int .u32 0), (.int .u32 0), (.int .u32 0), (.int .u32 0), (.int .u32 0), (.int .u32 0), (.int .u32 0), (.int .u32 0), (.int .u32 0), (.int .u32 0), (.int .u32 0), (.int .u32 0), (.int .u32 0), (.int .u32 0), (.int .u32 0), (.int .u32 0), (.int .u32 0), (.int .u32 0)])<|
 oR 6 (.alloc 174 [(.int .u32 0), (.int .u32 0), (.int .u32 0), (.int .u32 0), (.int .u32 0), (.int .u32 0), (.int .u32 0), (.int .u32 0)])<| oU 64 5 21<| .nil)
 (oR 6 (.alloc 174 [(.int .u32 0), (.int .u32 0), (.int .u32 0), (.int .u32 0), (.int .u32 0), (.int .u32 0), (.int .u32 0), (.int .u32 0)])<|
 oR 5 (.alloc 176 [(.int .u32 0), (.int .u32 0), (.int .u32 0), (.int .u32 0), (.int .u32 0), (.int .u32 0), (.int .u32 0), (.int .u32 0), (.int .u32 0), (.int .u32 0), (.int .u32 0), (.int .u32 0), (.int .u32 0), (.int .u32 0), (.int .u32 0), (.int .u32 0), (.int .u32 0), (.int .u32 0), (.int .u32 0), (.int .u32 0), (.int .u32 0), (.int .u32 0), (.int .u32 0), (.int .u32 0), (.int .u32 0), (.int .u32 0), (.int .u32 0), (.int .u32 0), (.int .u32 0), (.int .u32 0), (.int .u32 0), (.int .u32 0), (.int .u32 0), (.int .u32 0), (.int .u32 0), (.int .u32 0), (.int .u32 0), (.int .u32 0), (.int .u32 0), (.int .u32 0), (.int .u32 0), (.int .u32 0), (.int .u32 0), (.int .u32 0), (.int .u32 0), (.int .u32 0), (.int .u32 0), (.int .u32 0), (.int .u32 0), (.int .u32 0), (.int .u32 0), (.int .u32 0), (.int .u32 0), (.int .u32 0), (.int .u32 0), (.int .u32 0), (.int .u32 0), (.int .u32 0), (.int .u32 0), (.int .u32 0), (.int .u32 0), (.int .u32 0), (.int .u32 0), (.int .u32 0)])<|
 oU 64 5 21<| .nil))
 (.both (oR 5 (.alloc 176 [(.int .u32 0), (.int .u32 0), (.int .u32 0), (.int .u32 0), (.int .u32 0), (.int .u32 0), (.int .u32 0), (.int .u32 0), (.int .u32 0), (.int .u32 0), (.int .u32 0), (.int .u32 0), (.int .u32 0), (.int .u32 0), (.int .u32 0), (.int .u32 0), (.int .u32 0), (.int .u32 0), (.int .u32 0), (.int .u32 0), (.int .u32 0), (.int .u32 0), (.int .u32 0), (.int .u32 0), (.int .u32 0), (.int .u32 0), (.int .u32 0), (.int .u32 0), (.int .u32 0), (.int .u32 0), (.int .u32 0), (.int .u32 0), (.int .u32 0), (.int .u32 0), (.int .u32 0), (.int .u32 0), (.int .u32 0), (.int .u32 0), (.int .u32 0), (.int .u32 0), (.int .u32 0), (.int .u32 0), (.int .u32 0), (.int .u32 0), (.int .u32 0), (.int .u32 0), (.int .u32 0), (.int .u32 0), (.int .u32 0), (.int .u32 0), (.int .u32 0), (.int .u32 0), (.int .u32 0), (.int .u32 0), (.int .u32 0), (.int .u32 0), (.int .u32 0), (.int .u32 0), (.int .u32 0), (.int .u32 0), (.int .u32 0), (.int .u32 0), (.int .u32 0), (.int .u32 0)])<| .both (oR 21 (oa 142 20)<|
 oR 6 (.alloc 174 [(.int .u32 0), (.int .u32 0), (.int .u32 0), (.int .u32 0), (.int .u32 0), (.int .u32 0), (.int .u32 0), (.int .u32 0)])<| oU 64 5 21<| .nil)
 (oR 6 (.alloc 174 [(.int .u32 0), (.int .u32 0), (.int .u32 0), (.int .u32 0), (.int .u32 0), (.int .u32 0), (.int .u32 0), (.int .u32 0)])<| oR 21 (oa 142 20)<|
 oU 64 5 21<| .nil))
 (oR 6 (.alloc 174 [(.int .u32 0), (.int .u32 0), (.int .u32 0), (.int .u32 0), (.int .u32 0), (.int .u32 0), (.int .u32 0), (.int .u32 0)])<| .both (oR 21 (oa 142 20)<|
 oR 5 (.alloc 176 [(.int .u32 0), (.int .u32 0), (.int .u32 0), (.int .u32 0), (.int .u32 0), (.int .u32 0), (.int .u32 0), (.int .u32 0), (.int .u32 0), (.int .u32 0), (.int .u32 0), (.int .u32 0), (.int .u32 0), (.int .u32 0), (.int .u32 0), (.int .u32 0), (.int .u32 0), (.int .u32 0), (.int .u32 0), (.int .u32 0), (.int .u32 0), (.int .u32 0), (.int .u32 0), (.int .u32 0), (.int .u32 0), (.int .u32 0), (.int .u32 0), (.int .u32 0), (.int .u32 0), (.int .u32 0), (.int .u32 0), (.int .u32 0), (.int .u32 0), (.int .u32 0), (.int .u32 0), (.int .u32 0), (.int .u32 0), (.int .u32 0), (.int .u32 0), (.int .u32 0), (.int .u32 0), (.int .u32 0), (.int .u32 0), (.int .u32 0), (.int .u32 0), (.int .u32 0), (.int .u32 0), (.int .u32 0), (.int .u32 0), (.int .u32 0), (.int .u32 0), (.int .u32 0), (.int .u32 0), (.int .u32 0), (.int .u32 0), (.int .u32 0), (.int .u32 0), (.int .u32 0), (.int .u32 0), (.int .u32 0), (.int .u32 0), (.int .u32 0), (.int .u32 0), (.int .u32 0)])<|
 oU 64 5 21<| .nil)
 (oR 5 (.alloc 176 [(.int .u32 0), (.int .u32 0), (.int .u32 0), (.int .u32 0), (.int .u32 0), (.int .u32 0), (.int .u32 0), (.int .u32 0), (.int .u32 0), (.int .u32 0), (.int .u32 0), (.int .u32 0), (.int .u32 0), (.int .u32 0), (.int .u32 0), (.int .u32 0), (.int .u32 0), (.int .u32 0), (.int .u32 0), (.int .u32 0), (.int .u32 0), (.int .u32 0), (.int .u32 0), (.int .u32 0), (.int .u32 0), (.int .u32 0), (.int .u32 0), (.int .u32 0), (.int .u32 0), (.int .u32 0), (.int .u32 0), (.int .u32 0), (.int .u32 0), (.int .u32 0), (.int .u32 0), (.int .u32 0), (.int .u32 0), (.int .u32 0), (.int .u32 0), (.int .u32 0), (.int .u32 0), (.int .u32 0), (.int .u32 0), (.int .u32 0), (.int .u32 0), (.int .u32 0), (.int .u32 0), (.int .u32 0), (.int .u32 0), (.int .u32 0), (.int .u32 0), (.int .u32 0), (.int .u32 0), (.int .u32 0), (.int .u32 0), (.int .u32 0), (.int .u32 0), (.int .u32 0), (.int .u32 0), (.int .u32 0), (.int .u32 0), (.int .u32 0), (.int .u32 0), (.int .u32 0)])<|
 oR 21 (oa 142 20)<| oU 64 5 21<| .nil))))
 (.both (oR 5 (.alloc 176 [(.int .u32 0), (.int .u32 0), (.int .u32 0), (.int .u32 0), (.int .u32 0), (.int .u32 0), (.int .u32 0), (.int .u32 0), (.int .u32 0), (.int .u32 0), (.int .u32 0), (.int .u32 0), (.int .u32 0), (.int .u32 0), (.int .u32 0), (.int .u32 0), (.int .u32 0), (.int .u32 0), (.int .u32 0), (.int .u32 0), (.int .u32 0), (.int .u32 0), (.int .u32 0), (.int .u32 0), (.int .u32 0), (.int .u32 0), (.int .u32 0), (.int .u32 0), (.int .u32 0), (.int .u32 0), (.int .u32 0), (.int .u32 0), (.int .u32 0), (.int .u32 0), (.int .u32 0), (.int .u32 0), (.int .u32 0), (.int .u32 0), (.int .u32 0), (.int .u32 0), (.int .u32 0), (.int .u32 0), (.int .u32 0), (.int .u32 0), (.int .u32 0), (.int .u32 0), (.int .u32 0), (.int .u32 0), (.int .u32 0), (.int .u32 0), (.int .u32 0), (.int .u32 0), (.int .u32 0), (.int .u32 0), (.int .u32 0), (.int .u32 0), (.int .u32 0), (.int .u32 0), (.int .u32 0), (.int .u32 0), (.int .u32 0), (.int .u32 0), (.int .u32 0), (.int .u32 0)])<| .both (oR 21 (oa 142 20)<| .both (oK 22 8 3<|
 oR 6 (.alloc 174 [(.int .u32 0), (.int .u32 0), (.int .u32 0), (.int .u32 0), (.int .u32 0), (.int .u32 0), (.int .u32 0), (.int .u32 0)])<| oU 64 5 21<| .nil)
 (oR 6 (.alloc 174 [(.int .u32 0), (.int .u32 0), (.int .u32 0), (.int .u32 0), (.int .u32 0), (.int .u32 0), (.int .u32 0), (.int .u32 0)])<| .both (oK 22 8 3<|
 oU 64 5 21<| .nil) (oU 64 5 21<| oK 22 8 3<| .nil))) (.both (oK 22 8 3<| .both (oR 21 (oa 142 20)<|
 oR 6 (.alloc 174 [(.int .u32 0), (.int .u32 0), (.int .u32 0), (.int .u32 0), (.int .u32 0), (.int .u32 0), (.int .u32 0), (.int .u32 0)])<| oU 64 5 21<| .nil)
 (oR 6 (.alloc 174 [(.int .u32 0), (.int .u32 0), (.int .u32 0), (.int .u32 0), (.int .u32 0), (.int .u32 0), (.int .u32 0), (.int .u32 0)])<| oR 21 (oa 142 20)<|
 oU 64 5 21<| .nil))
 (oR 6 (.alloc 174 [(.int .u32 0), (.int .u32 0), (.int .u32 0), (.int .u32 0), (.int .u32 0), (.int .u32 0), (.int .u32 0), (.int .u32 0)])<| .both (oR 21 (oa 142 20)<| .both (oK 22 8 3<|
 oU 64 5 21<| .nil) (oU 64 5 21<| oK 22 8 3<| .nil)) (oK 22 8 3<| oR 21 (oa 142 20)<| oU 64 5 21<| .nil))))
 (oR 6 (.alloc 174 [(.int .u32 0), (.int .u32 0), (.int .u32 0), (.int .u32 0), (.int .u32 0), (.int .u32 0), (.int .u32 0), (.int .u32 0)])<| .both (oR 21 (oa 142 20)<| .both (oK 22 8 3<|
 oR 5 (.alloc 176 [(.int .u32 0), (.int .u32 0), (.int .u32 0), (.int .u32 0), (.int .u32 0), (.int .u32 0), (.int .u32 0), (.int .u32 0), (.int .u32 0), (.int .u32 0), (.int .u32 0), (.int .u32 0), (.int .u32 0), (.int .u32 0), (.int .u32 0), (.int .u32 0), (.int .u32 0), (.int .u32 0), (.int .u32 0), (.int .u32 0), (.int .u32 0), (.int .u32 0), (.int .u32 0), (.int .u32 0), (.int .u32 0), (.int .u32 0), (.int .u32 0), (.int .u32 0), (.int .u32 0), (.int .u32 0), (.int .u32 0), (.int .u32 0), (.int .u32 0), (.int .u32 0), (.int .u32 0), (.int .u32 0), (.int .u32 0), (.int .u32 0), (.int .u32 0), (.int .u32 0), (.int .u32 0), (.int .u32 0), (.int .u32 0), (.int .u32 0), (.int .u32 0), (.int .u32 0), (.int .u32 0), (.int .u32 0), (.int .u32 0), (.int .u32 0), (.int .u32 0), (.int .u32 0), (.int .u32 0), (.int .u32 0), (.int .u32 0), (.int .u32 0), (.int .u32 0), (.int .u32 0), (.int .u32 0), (.int .u32 0), (.int .u32 0), (.int .u32 0), (.int .u32 0), (.int .u32 0)])<|
 oU 64 5 21<| .nil)
 (oR 5 (.alloc 176 [(.int .u32 0), (.int .u32 0), (.int .u32 0), (.int .u32 0), (.int .u32 0), (.int .u32 0), (.int .u32 0), (.int .u32 0), (.int .u32 0), (.int .u32 0), (.int .u32 0), (.int .u32 0), (.int .u32 0), (.int .u32 0), (.int .u32 0), (.int .u32 0), (.int .u32 0), (.int .u32 0), (.int .u32 0), (.int .u32 0), (.int .u32 0), (.int .u32 0), (.int .u32 0), (.int .u32 0), (.int .u32 0), (.int .u32 0), (.int .u32 0), (.int .u32 0), (.int .u32 0), (.int .u32 0), (.int .u32 0), (.int .u32 0), (.int .u32 0), (.int .u32 0), (.int .u32 0), (.int .u32 0), (.int .u32 0), (.int .u32 0), (.int .u32 0), (.int .u32 0), (.int .u32 0), (.int .u32 0), (.int .u32 0), (.int .u32 0), (.int .u32 0), (.int .u32 0), (.int .u32 0), (.int .u32 0), (.int .u32 0), (.int .u32 0), (.int .u32 0), (.int .u32 0), (.int .u32 0), (.int .u32 0), (.int .u32 0), (.int .u32 0), (.int .u32 0), (.int .u32 0), (.int .u32 0), (.int .u32 0), (.int .u32 0), (.int .u32 0), (.int .u32 0), (.int .u32 0)])<| .both (oK 22 8 3<|
 oU 64 5 21<| .nil) (oU 64 5 21<| oK 22 8 3<| .nil))) (.both (oK 22 8 3<| .both (oR 21 (oa 142 20)<|
 oR 5 (.alloc 176 [(.int .u32 0), (.int .u32 0), (.int .u32 0), (.int .u32 0), (.int .u32 0), (.int .u32 0), (.int .u32 0), (.int .u32 0), (.int .u32 0), (.int .u32 0), (.int .u32 0), (.int .u32 0), (.int .u32 0), (.int .u32 0), (.int .u32 0), (.int .u32 0), (.int .u32 0), (.int .u32 0), (.int .u32 0), (.int .u32 0), (.int .u32 0), (.int .u32 0), (.int .u32 0), (.int .u32 0), (.int .u32 0), (.int .u32 0), (.int .u32 0), (.int .u32 0), (.int .u32 0), (.int .u32 0), (.int .u32 0), (.int .u32 0), (.int .u32 0), (.int .u32 0), (.int .u32 0), (.int .u32 0), (.int .u32 0), (.int .u32 0), (.int .u32 0), (.int .u32 0), (.int .u32 0), (.int .u32 0), (.int .u32 0), (.int .u32 0), (.int .u32 0), (.int .u32 0), (.int .u32 0), (.int .u32 0), (.int .u32 0), (.int .u32 0), (.int .u32 0), (.int .u32 0), (.int .u32 0), (.int .u32 0), (.int .u32 0), (.int .u32 0), (.int .u32 0), (.int .u32 0), (.int .u32 0), (.int .u32 0), (.int .u32 0), (.int .u32 0), (.int .u32 0), (.int .u32 0)])<|
 oU 64 5 21<| .nil)
 (oR 5 (.alloc 176 [(.int .u32 0), (.int .u32 0), (.int .u32 0), (.int .u32 0), (.int .u32 0), (.int .u32 0), (.int .u32 0), (.int .u32 0), (.int .u32 0), (.int .u32 0), (.int .u32 0), (.int .u32 0), (.int .u32 0), (.int .u32 0), (.int .u32 0), (.int .u32 0), (.int .u32 0), (.int .u32 0), (.int .u32 0), (.int .u32 0), (.int .u32 0), (.int .u32 0), (.int .u32 0), (.int .u32 0), (.int .u32 0), (.int .u32 0), (.int .u32 0), (.int .u32 0), (.int .u32 0), (.int .u32 0), (.int .u32 0), (.int .u32 0), (.int .u32 0), (.int .u32 0), (.int .u32 0), (.int .u32 0), (.int .u32 0), (.int .u32 0), (.int .u32 0), (.int .u32 0), (.int .u32 0), (.int .u32 0), (.int .u32 0), (.int .u32 0), (.int .u32 0), (.int .u32 0), (.int .u32 0), (.int .u32 0), (.int .u32 0), (.int .u32 0), (.int .u32 0), (.int .u32 0), (.int .u32 0), (.int .u32 0), (.int .u32 0), (.int .u32 0), (.int .u32 0), (.int .u32 0), (.int .u32 0), (.int .u32 0), (.int .u32 0), (.int .u32 0), (.int .u32 0), (.int .u32 0)])<|
 oR 21 (oa 142 20)<| oU 64 5 21<| .nil))
 (oR 5 (.alloc 176 [(.int .u32 0), (.int .u32 0), (.int .u32 0), (.int .u32 0), (.int .u32 0), (.int .u32 0), (.int .u32 0), (.int .u32 0), (.int .u32 0), (.int .u32 0), (.int .u32 0), (.int .u32 0), (.int .u32 0), (.int .u32 0), (.int .u32 0), (.int .u32 0), (.int .u32 0), (.int .u32 0), (.int .u32 0), (.int .u32 0), (.int .u32 0), (.int .u32 0), (.int .u32 0), (.int .u32 0), (.int .u32 0), (.int .u32 0), (.int .u32 0), (.int .u32 0), (.int .u32 0), (.int .u32 0), (.int .u32 0), (.int .u32 0), (.int .u32 0), (.int .u32 0), (.int .u32 0), (.int .u32 0), (.int .u32 0), (.int .u32 0), (.int .u32 0), (.int .u32 0), (.int .u32 0), (.int .u32 0), (.int .u32 0), (.int .u32 0), (.int .u32 0), (.int .u32 0), (.int .u32 0), (.int .u32 0), (.int .u32 0), (.int .u32 0), (.int .u32 0), (.int .u32 0), (.int .u32 0), (.int .u32 0), (.int .u32 0), (.int .u32 0), (.int .u32 0), (.int .u32 0), (.int .u32 0), (.int .u32 0), (.int .u32 0), (.int .u32 0), (.int .u32 0), (.int .u32 0)])<| .both (oR 21 (oa 142 20)<| .both (oK 22 8 3<|
 oU 64 5 21<| .nil) (oU 64 5 21<| oK 22 8 3<| .nil)) (oK 22 8 3<| oR 21 (oa 142 20)<| oU 64 5 21<| .nil))))))) <|oU 8 6 22<| .nil) (.seq (.seq (.reg false <|
 oO 23 0<| .nil) (.block 2 (.loop (.seq (.reg false <| oC 24 .lss 23 64<| .nil) (.seq (.cond (t 24) .skip (.exit 2)) (.seq (.block 3 (.seq (.reg false <| oM 25 23<|
 oM 7 25<| .nil) (.reg true <| .join (oK 26 8 6<| oM 27 7<| oR 28 (.indexArr 1 64 (t 4) (t 27))<| oL 29 28<| oM 30 7<| oR 31 (.indexArr 1 64 (t 5) (t 30))<|
 oL 32 31<| .nil) <|oR 33 (oc 143 26 29 32)<| oU 8 6 33<| .nil))) (.reg false <| oC 34 .add 23 1<| oM 23 34<| .nil))))))) (.seq (.reg false <| oO 35 0<| .nil)
 (.block 4 (.loop (.seq (.reg false <| oC 36 .lss 35 8<| .nil) (.seq (.cond (t 36) .skip (.exit 4)) (.seq (.block 5 (.seq (.reg false <| oM 37 35<| oM 8 37<| .nil)
 (.reg true <| .join (oM 38 8<| oR 39 (.indexArr 1 8 (t 3) (t 38))<| oL 40 39<| oM 41 8<| oR 42 (.indexArr 1 8 (t 6) (t 41))<| oL 43 42<| oB 44 .add 40 43<|
 oR 45 (.indexArr 1 8 (t 3) (t 38))<| .nil) <|oS 45 44<| .nil))) (.reg false <| oC 46 .add 35 1<| oM 35 46<| .nil)))))))))) (.reg false <| oM 18 0<|
 oR 19 (.sliceStr (t 18) (some (oi 64)) none)<| oM 0 19<| .nil)))))) (.seq (.reg false <| oR 9 (.alloc 168 [(.pointer none), (.slice none 0 0)])<| .nil)
 (.seq (.seq (.reg false <| oK 47 8 3<| oO 48 0<| .nil) (.block 6 (.loop (.seq (.reg false <| oC 49 .lss 48 8<| .nil) (.seq (.cond (t 49) .skip (.exit 6))
 (.seq (.block 7 (.seq (.reg false <| oR 50 (.indexAgg 8 (t 47) (t 48))<| oM 11 50<| .nil) (.reg false <| oM 51 11<| oV 52 .u64 51<| oR 53 (.call 144 [(t 52), (oi 4)])<|
 oR 54 (ob 134 9 53)<| .nil))) (.reg false <| oC 55 .add 48 1<| oM 48 55<| .nil))))))) (.seq (.reg false <| oR 56 (oa 138 9)<| oM 2 56<| .nil) .ret))))))
theorem s_sha_Sum : CS 57 k_sha_Sum [.tmp 2] F.sha_Sum :=
  cs Tryz.func120 (by kernel_rfl) (by kernel_rfl)
noncomputable def k_wire_Encode : KC :=
(.seq (.reg false <| oR 1 (.box 31 (t 0))<| oR 2 (.move (.const (.string ⟨#[]⟩)))<| oO 3 0<| .nil) (.seq (.seq (.reg false <| oK 5 4 1<| oR 6 (oa 118 5)<| oM 4 6<| .nil)
 (.seq (.reg false <| oM 7 4<| oC 8 .neq 7 0<| .nil) (.cond (t 8) (.seq (.reg false <| oM 9 4<| oR 2 (.move (.const (.string ⟨#[]⟩)))<| oM 3 9<| .nil) .ret) .skip)))
 (.seq (.reg true <| .join (oK 11 4 1<| .both (oK 10 4 1<| oR 12 (oa 145 11)<| .nil) (oR 12 (oa 145 11)<| oK 10 4 1<| .nil)) <|oR 13 (ob 119 10 12)<| oM 2 13<|
 oO 3 0<| .nil) .ret)))
theorem s_wire_Encode : CS 14 k_wire_Encode [.tmp 2, .tmp 3] F.wire_Encode :=
  cs Tryz.func121 (by kernel_rfl) (by kernel_rfl)
noncomputable def k_kedgeref06_Bytes : KC :=
(.seq (.reg false <| oR 2 (.box 31 (t 0))<| oR 4 (.move (.const (.string ⟨#[]⟩)))<| .nil) (.seq (.reg false <| oR 5 (.move (.const (.bool false)))<| .nil)
 (.seq (.seq (.reg false <| oO 6 0<| .nil) (.block 0 (.loop (.seq (.seq (.reg false <| oM 16 6<| oF 17 1 2<| oL 18 17<| oD 19 18<| oB 20 .lss 16 19<| .nil)
 (.cond (t 20) .skip (.exit 0))) (.seq (.block 1 (.reg false <| oM 23 5<| oM 24 23<| oG 25 24 false (.move (t 1))<| oG 26 24 false (.not (t 25))<|
 oG 27 24 false (.move (t 26))<| oG 28 27 true (.fieldAddr 1 (t 2))<| oG 29 27 true (.load (t 28))<| oG 30 27 true (.move (t 6))<|
 oG 31 27 true (.indexAddr 4 (t 29) (t 30))<| oG 32 27 true (.fieldAddr 3 (t 31))<| oG 33 27 true (.load (t 32))<| oG 34 27 true (.len false (t 33))<|
 oG 35 27 true (.bin .gtr (t 34) (oi 0))<| oG 36 24 false (.pick (t 27) (t 35) (.const (.bool false)))<| oR 37 (.pick (t 24) (.const (.bool true)) (t 36))<|
 oM 5 37<| .nil)) (.reg false <| oM 21 6<| oC 22 .add 21 1<| oM 6 22<| .nil)))))) (.seq (.reg false <| oF 38 0 2<| oL 39 38<| oV 40 .u64 39<|
 oR 41 (.call 146 [(t 40), (oi 4)])<| oM 7 41<| .nil) (.seq (.seq (.reg false <| oM 42 5<| .nil) (.cond (t 42) (.reg false <| oM 43 7<|
 oR 44 (.bin .add (t 43) (.const (.string ⟨#[0, 1]⟩)))<| oM 7 44<| .nil) .skip)) (.seq (.reg false <| oF 45 1 2<| oL 46 45<| oD 47 46<| oR 48 (oa 147 47)<| oM 8 48<| .nil)
 (.seq (.reg false <| oM 49 7<| oM 50 8<| oB 51 .add 49 50<| oM 7 51<| .nil) (.seq (.seq (.reg false <| oO 9 0<| .nil) (.block 2 (.loop (.seq (.seq (.reg false <| oM 52 9<|
 oF 53 1 2<| oL 54 53<| oD 55 54<| oB 56 .lss 52 55<| .nil) (.cond (t 56) .skip (.exit 2))) (.seq (.block 3 (.seq (.reg false <| oF 59 1 2<| oL 60 59<| oM 61 9<|
 oI 62 4 60 61<| oF 63 0 62<| oF 64 1 63<| oL 65 64<| oV 66 .u64 65<| oR 67 (.call 146 [(t 66), (oi 4)])<| oM 10 67<| .nil) (.seq (.reg false <| oF 68 1 2<| oL 69 68<|
 oM 70 9<| oI 71 4 69 70<| oF 72 2 71<| oL 73 72<| oV 74 .u64 73<| oR 75 (.call 146 [(t 74), (oi 4)])<| oM 11 75<| .nil) (.reg false <| oM 76 7<| oF 77 1 2<| oL 78 77<|
 oM 79 9<| oI 80 4 78 79<| oF 81 0 80<| oF 82 0 81<| oL 83 82<| oB 84 .add 76 83<| oM 85 10<| oB 86 .add 84 85<| oR 87 (.bin .add (t 86) (.const (.string ⟨#[0]⟩)))<|
 oM 88 11<| oB 89 .add 87 88<| oM 7 89<| .nil)))) (.reg false <| oM 57 9<| oC 58 .add 57 1<| oM 9 58<| .nil)))))) (.seq (.reg false <| oF 90 2 2<| oL 91 90<| oD 92 91<|
 oR 93 (oa 147 92)<| oM 8 93<| .nil) (.seq (.reg false <| oM 94 7<| oM 95 8<| oB 96 .add 94 95<| oM 7 96<| .nil) (.seq (.seq (.reg false <| oO 12 0<| .nil)
 (.block 4 (.loop (.seq (.seq (.reg false <| oM 97 12<| oF 98 2 2<| oL 99 98<| oD 100 99<| oB 101 .lss 97 100<| .nil) (.cond (t 101) .skip (.exit 4)))
 (.seq (.block 5 (.seq (.reg false <| oF 104 2 2<| oL 105 104<| oM 106 12<| oI 107 2 105 106<| oF 108 0 107<| oL 109 108<| oV 110 .u64 109<|
 oR 111 (.call 146 [(t 110), (oi 8)])<| oM 13 111<| .nil) (.seq (.reg false <| oF 112 2 2<| oL 113 112<| oM 114 12<| oI 115 2 113 114<| oF 116 1 115<| oL 117 116<|
 oR 118 (.len true (t 117))<| oR 119 (oa 147 118)<| oM 8 119<| .nil) (.reg false <| oM 120 7<| oM 121 13<| oB 122 .add 120 121<| oM 123 8<| oB 124 .add 122 123<|
 oF 125 2 2<| oL 126 125<| oM 127 12<| oI 128 2 126 127<| oF 129 1 128<| oL 130 129<| oB 131 .add 124 130<| oM 7 131<| .nil)))) (.reg false <| oM 102 12<|
 oC 103 .add 102 1<| oM 12 103<| .nil)))))) (.seq (.seq (.reg false <| oO 14 0<| .nil) (.block 6 (.loop (.seq (.seq (.reg false <| oM 132 5<| oM 133 132<|
 oG 134 133 true (.move (t 14))<| oG 135 133 true (.fieldAddr 1 (t 2))<| oG 136 133 true (.load (t 135))<| oG 137 133 true (.len false (t 136))<|
 oG 138 133 true (.bin .lss (t 134) (t 137))<| oR 139 (.pick (t 133) (t 138) (.const (.bool false)))<| .nil) (.cond (t 139) .skip (.exit 6)))
 (.seq (.block 7 (.seq (.reg false <| oF 142 1 2<| oL 143 142<| oM 144 14<| oI 145 4 143 144<| oF 146 3 145<| oL 147 146<| oD 148 147<| oR 149 (oa 147 148)<|
 oM 8 149<| .nil) (.seq (.reg false <| oM 150 7<| oM 151 8<| oB 152 .add 150 151<| oM 7 152<| .nil) (.seq (.reg false <| oO 15 0<| .nil)
 (.block 8 (.loop (.seq (.seq (.reg false <| oM 153 15<| oF 154 1 2<| oL 155 154<| oM 156 14<| oI 157 4 155 156<| oF 158 3 157<| oL 159 158<| oD 160 159<|
 oB 161 .lss 153 160<| .nil) (.cond (t 161) .skip (.exit 8))) (.seq (.block 9 (.seq (.reg false <| oF 164 1 2<| oL 165 164<| oM 166 14<| oI 167 4 165 166<| oF 168 3 167<|
 oL 169 168<| oM 170 15<| oI 171 1 169 170<| oL 172 171<| oR 173 (.len true (t 172))<| oR 174 (oa 147 173)<| oM 8 174<| .nil) (.reg false <| oM 175 7<| oM 176 8<|
 oB 177 .add 175 176<| oF 178 1 2<| oL 179 178<| oM 180 14<| oI 181 4 179 180<| oF 182 3 181<| oL 183 182<| oM 184 15<| oI 185 1 183 184<| oL 186 185<|
 oB 187 .add 177 186<| oM 7 187<| .nil))) (.reg false <| oM 162 15<| oC 163 .add 162 1<| oM 15 163<| .nil))))))))) (.reg false <| oM 140 14<| oC 141 .add 140 1<|
 oM 14 141<| .nil)))))) (.seq (.reg false <| oF 188 3 2<| oL 189 188<| oV 190 .u64 189<| oR 191 (.call 146 [(t 190), (oi 4)])<| oM 8 191<| .nil) (.seq (.reg false <|
 oM 192 7<| oM 193 8<| oB 194 .add 192 193<| oM 4 194<| .nil) .ret))))))))))))))
theorem s_kedgeref06_Bytes : CS 195 k_kedgeref06_Bytes [.tmp 4] F.kedgeref06_Bytes :=
  cs Tryz.func122 (by kernel_rfl) (by kernel_rfl)
noncomputable def k_kedgeref04_Twice : KC :=
(.seq (.reg false <| oR 2 (.move (.const (.string ⟨#[]⟩)))<| .nil) (.seq (.reg false <| oM 4 0<| oR 5 (oa 148 4)<| oM 3 5<| .nil) (.seq (.reg false <| oM 6 3<|
 oR 7 (oa 148 6)<| oM 2 7<| .nil) .ret)))
theorem s_kedgeref04_Twice : CS 8 k_kedgeref04_Twice [.tmp 2] F.kedgeref04_Twice :=
  cs Tryz.func123 (by kernel_rfl) (by kernel_rfl)
noncomputable def k_replace_signals_1 : KC :=
(.seq (.reg false <| oR 1 (.box 88 (t 0))<| oR 2 (.move (.const (.bool false)))<| .nil) (.seq (.reg false <| oF 3 2 1<| oL 4 3<|
 oR 5 (.bin .lss (t 4) (.const (.int .u32 4294967294)))<| oM 2 5<| .nil) .ret))
theorem s_replace_signals_1 : CS 6 k_replace_signals_1 [.tmp 2] F.replace_signals_1 :=
  cs Tryz.func126 (by kernel_rfl) (by kernel_rfl)
noncomputable def k_tx_base : KC :=
(.seq (.reg false <| oR 0 (.alloc 86 [(.string ⟨#[]⟩), (.int .u32 0)])<| .nil) (.seq (.reg false <| oR 1 (.call 150 [(.const (.string ⟨#[0]⟩)), (oi 32)])<|
 oR 2 (.build [(.string ⟨#[]⟩), (.int .u32 0)] [(0, 1, (t 1)), (1, 1, (.const (.int .u32 4294967295)))])<| oU 2 0 2<| .nil) .ret))
theorem s_tx_base : CS 3 k_tx_base [.cellN 2 0] F.tx_base :=
  cs Tryz.func127 (by kernel_rfl) (by kernel_rfl)
noncomputable def k_tx_Total : KC :=
(.seq (.reg false <| oR 1 (.box 31 (t 0))<| oO 2 0<| oO 3 0<| .nil) (.seq (.reg false <| oR 4 (.move (.const (.slice none 0 0)))<| .nil) (.seq (.seq (.reg false <|
 oF 7 2 1<| oL 8 7<| oD 9 8<| oO 10 0<| .nil) (.block 0 (.loop (.seq (.reg false <| oB 11 .lss 10 9<| .nil) (.seq (.cond (t 11) .skip (.exit 0))
 (.seq (.block 1 (.seq (.reg false <| oI 12 2 8 10<| oK 13 2 12<| oR 6 (.alloc 128 [(.int .i64 0), (.string ⟨#[]⟩)])<| oU 2 6 13<| .nil) (.reg false <| oM 14 4<|
 oF 15 0 6<| oL 16 15<| oR 17 (.buildSlice 3 1 [(.int .i64 0)] [(0, 1, (t 16))])<| oR 18 (.append 3 1 8 [(.int .i64 0)] (t 14) (t 17))<| oM 4 18<| .nil))) (.reg false <|
 oC 19 .add 10 1<| oM 10 19<| .nil))))))) (.seq (.reg false <| oM 20 4<| oR 21 (oa 151 20)<| oX 22 0 21<| oX 23 1 21<| oM 2 22<| oM 3 23<| .nil) .ret))))
theorem s_tx_Total : CS 24 k_tx_Total [.tmp 2, .tmp 3] F.tx_Total :=
  cs Tryz.func128 (by kernel_rfl) (by kernel_rfl)
noncomputable def k_tx_counts : KC :=
(.seq (.reg false <| oR 1 (.box 31 (t 0))<| oR 2 (.move (.const (.bool false)))<| .nil) (.seq (.reg false <| oF 3 1 1<| oL 4 3<| oD 5 4<|
 oR 6 (.pcall 152 Go.Proofs.YteggaepppahefaaGreat.qFrom1 [(t 5), (oi 256)])<| oM 7 6<| oG 8 7 true (.fieldAddr 2 (t 1))<| oG 9 7 true (.load (t 8))<|
 oG 10 7 true (.len false (t 9))<| oG 11 7 true (.pcall 152 Go.Proofs.YteggaepppahefaaGreat.qFrom1 [(t 10), (oi 256)])<| oR 12 (.pick (t 7) (t 11) (.const (.bool false)))<|
 oM 13 12<| oG 14 13 true (.fieldAddr 1 (t 1))<| oG 15 13 true (.load (t 14))<| oG 16 13 true (.call 78 [(t 15), (.func 153)])<| oG 17 13 true (.not (t 16))<|
 oR 18 (.pick (t 13) (t 17) (.const (.bool false)))<| oM 2 18<| .nil) .ret))
theorem s_tx_counts : CS 19 k_tx_counts [.tmp 2] F.tx_counts :=
  cs Tryz.func129 (by kernel_rfl) (by kernel_rfl)
noncomputable def k_tx_long : KC :=
(.seq (.reg false <| oR 1 (.box 31 (t 0))<| oR 2 (.move (.const (.bool false)))<| .nil) (.seq (.reg false <| oR 3 (.alloc 134 [.nilFunc])<|
 oQ (.store (t 3) (.func 154))<| .nil) (.seq (.reg false <| oF 4 2 1<| oL 5 4<| oR 6 (.call 155 [(t 5), (.func 156)])<| oM 7 6<| oG 8 7 false (.fieldAddr 1 (t 1))<|
 oG 9 7 false (.load (t 8))<| oG 10 7 false (.makeFunc (.func 157) [] [(t 3)])<| oG 11 7 false (ob 78 9 10)<| oR 12 (.pick (t 7) (.const (.bool true)) (t 11))<|
 oM 2 12<| .nil) .ret)))
theorem s_tx_long : CS 13 k_tx_long [.tmp 2] F.tx_long :=
  cs Tryz.func130 (by kernel_rfl) (by kernel_rfl)
noncomputable def k_tx_formed : KC :=
(.seq (.reg false <| oR 1 (.box 31 (t 0))<| oR 2 (.move (.const (.bool false)))<| .nil) (.seq (.seq (.reg false <| oF 5 1 1<| oL 6 5<| oD 7 6<| oO 8 0<| .nil)
 (.block 0 (.loop (.seq (.reg false <| oB 9 .lss 8 7<| .nil) (.seq (.cond (t 9) .skip (.exit 0)) (.seq (.block 1 (.seq (.reg false <| oI 10 4 6 8<| oK 11 4 10<|
 oR 4 (.alloc 88 [(.string ⟨#[]⟩), (.int .u32 0), (.int .u32 0), (.slice none 0 0)])<| oU 4 4 11<| .nil) (.seq (.reg true <| .join (oF 12 0 4<| oF 13 0 12<| oL 14 13<|
 oR 15 (.len true (t 14))<| oC 16 .neq 15 32<| oM 17 16<| oG 18 17 false (.fieldAddr 0 (t 4))<| .nil) <|.join (.both (oG 19 17 false (.loadN 2 (t 18))<|
 oG 20 17 false (.call 127 [])<| oG 21 17 false (.eqAgg false [.s, .i] (t 19) (t 20))<| oG 22 17 false (.move (t 21))<| oG 23 22 true (.fieldAddr 1 (t 1))<| .nil)
 (oG 20 17 false (.call 127 [])<| oG 19 17 false (.loadN 2 (t 18))<| oG 21 17 false (.eqAgg false [.s, .i] (t 19) (t 20))<| oG 22 17 false (.move (t 21))<|
 oG 23 22 true (.fieldAddr 1 (t 1))<| .nil)) <|oG 24 22 true (.load (t 23))<| oG 25 22 true (.len false (t 24))<| oG 26 22 true (.bin .gtr (t 25) (oi 1))<|
 oG 27 17 false (.pick (t 22) (t 26) (.const (.bool false)))<| oR 28 (.pick (t 17) (.const (.bool true)) (t 27))<| .nil) (.cond (t 28) (.seq (.reg false <|
 oR 2 (.move (.const (.bool false)))<| .nil) .ret) .skip)))) (.reg false <| oC 29 .add 8 1<| oM 8 29<| .nil))))))) (.seq (.reg false <|
 oR 2 (.move (.const (.bool true)))<| .nil) .ret)))
theorem s_tx_formed : CS 30 k_tx_formed [.tmp 2] F.tx_formed :=
  cs Tryz.func131 (by kernel_rfl) (by kernel_rfl)
noncomputable def k_tx_twice : KC :=
(.seq (.reg false <| oR 1 (.box 31 (t 0))<| oR 2 (.move (.const (.bool false)))<| .nil) (.seq (.reg false <| oR 6 (.makeMap)<| oM 3 6<| .nil) (.seq (.seq (.reg false <|
 oF 7 1 1<| oL 8 7<| oD 9 8<| oO 10 0<| .nil) (.block 0 (.loop (.seq (.reg false <| oB 11 .lss 10 9<| .nil) (.seq (.cond (t 11) .skip (.exit 0))
 (.seq (.block 1 (.seq (.reg false <| oI 12 4 8 10<| oK 13 4 12<| oR 5 (.alloc 88 [(.string ⟨#[]⟩), (.int .u32 0), (.int .u32 0), (.slice none 0 0)])<| oU 4 5 13<| .nil)
 (.seq (.reg true <| .join (oM 14 3<| oF 15 0 5<| oK 16 2 15<| .nil) <|.join (.both (oR 17 (.lookup true [.s, .i] (.int .i64 0) false (t 14) (t 16))<| oC 18 .add 17 1<|
 oR 19 (.mapEntry true [.s, .i] (.int .i64 0) (t 14) (t 16))<| oX 20 1 19<| .nil) (oR 19 (.mapEntry true [.s, .i] (.int .i64 0) (t 14) (t 16))<|
 oR 17 (.lookup true [.s, .i] (.int .i64 0) false (t 14) (t 16))<| oC 18 .add 17 1<| oX 20 1 19<| .nil)) <|oQ (.entryStore (t 14) (t 20) (t 18))<| .nil)
 (.seq (.reg false <| oM 21 3<| oF 22 0 5<| oK 23 2 22<| oR 24 (.lookup true [.s, .i] (.int .i64 0) false (t 21) (t 23))<| oC 25 .gtr 24 1<| .nil)
 (.cond (t 25) (.seq (.reg false <| oR 2 (.move (.const (.bool true)))<| .nil) .ret) .skip))))) (.reg false <| oC 26 .add 10 1<| oM 10 26<| .nil))))))) (.seq (.reg false <|
 oR 2 (.move (.const (.bool false)))<| .nil) .ret))))
theorem s_tx_twice : CS 27 k_tx_twice [.tmp 2] F.tx_twice :=
  cs Tryz.func132 (by kernel_rfl) (by kernel_rfl)
noncomputable def k_wire_encode_1 : KC :=
(.reg false <| oM 5 0<| oM 6 1<| oR 7 (ob 135 5 6)<| oR 8 (ob 134 2 7)<| .nil)
theorem s_wire_encode_1 : CS 9 k_wire_encode_1 [] F.wire_encode_1 :=
  cs Tryz.func133 (by kernel_rfl) (by kernel_rfl)
noncomputable def k_octet_Put : KC :=
(.seq (.reg false <| oR 4 (.move (.const (.string ⟨#[]⟩)))<| .nil) (.seq (.seq (.reg false <| oM 6 1<| oR 7 (oa 159 6)<| oT 8 7<| .nil) (.cond (t 8) (.seq (.reg false <|
 oR 4 (.move (.const (.string ⟨#[]⟩)))<| .nil) .ret) .skip)) (.seq (.reg false <| oR 5 (.move (.const (.slice none 0 0)))<| .nil) (.seq (.seq (.reg false <| oM 9 1<|
 oO 10 0<| .nil) (.block 0 (.loop (.seq (.reg false <| oB 11 .lss 10 9<| .nil) (.seq (.cond (t 11) .skip (.exit 0)) (.seq (.block 1 (.seq (.reg false <| oM 12 5<| oM 13 0<|
 oV 14 .u8 13<| oR 15 (.buildSlice 5 1 [(.int .u8 0)] [(0, 1, (t 14))])<| oR 16 (.append 5 1 1 [(.int .u8 0)] (t 12) (t 15))<| oM 5 16<| .nil) (.reg false <| oM 17 0<|
 oR 18 (.bin .shr (t 17) (.const (.int .u64 8)))<| oM 0 18<| .nil))) (.reg false <| oC 19 .add 10 1<| oM 10 19<| .nil))))))) (.seq (.reg false <| oM 20 5<|
 oR 21 (.strOf (t 20))<| oM 4 21<| .nil) .ret)))))
theorem s_octet_Put : CS 22 k_octet_Put [.tmp 4] F.octet_Put :=
  cs Tryz.func135 (by kernel_rfl) (by kernel_rfl)
noncomputable def k_wire_counted : KC :=
(.seq (.reg false <| oR 2 (.move (.const (.string ⟨#[]⟩)))<| .nil) (.seq (.reg false <| oM 3 0<| oV 4 .u64 3<| oR 5 (oa 160 4)<| oM 2 5<| .nil) .ret))
theorem s_wire_counted : CS 6 k_wire_counted [.tmp 2] F.wire_counted :=
  cs Tryz.func136 (by kernel_rfl) (by kernel_rfl)
noncomputable def k_wire_sized : KC :=
(.seq (.reg false <| oR 2 (.move (.const (.string ⟨#[]⟩)))<| .nil) (.seq (.reg false <| oM 3 0<| oR 4 (.len true (t 3))<| oR 5 (oa 136 4)<| oM 6 0<| oB 7 .add 5 6<|
 oM 2 7<| .nil) .ret))
theorem s_wire_sized : CS 8 k_wire_sized [.tmp 2] F.wire_sized :=
  cs Tryz.func137 (by kernel_rfl) (by kernel_rfl)
noncomputable def k_sha_begin : KC :=
(.seq (.reg false <| oR 0 (.alloc 174 [(.int .u32 0), (.int .u32 0), (.int .u32 0), (.int .u32 0), (.int .u32 0), (.int .u32 0), (.int .u32 0), (.int .u32 0)])<| .nil)
 (.seq (.reg false <|
 oR 1 (.build [(.int .u32 0), (.int .u32 0), (.int .u32 0), (.int .u32 0), (.int .u32 0), (.int .u32 0), (.int .u32 0), (.int .u32 0)] [(0, 1, (.const (.int .u32 1779033703))), (1, 1, (.const (.int .u32 3144134277))), (2, 1, (.const (.int .u32 1013904242))), (3, 1, (.const (.int .u32 2773480762))), (4, 1, (.const (.int .u32 1359893119))), (5, 1, (.const (.int .u32 2600822924))), (6, 1, (.const (.int .u32 528734635))), (7, 1, (.const (.int .u32 1541459225)))])<|
 oU 8 0 1<| .nil) .ret))
theorem s_sha_begin : CS 2 k_sha_begin [.cellN 8 0] F.sha_begin :=
  cs Tryz.func139 (by kernel_rfl) (by kernel_rfl)
noncomputable def k_sha_keys : KC :=
(.seq (.reg false <|
 oR 0 (.alloc 176 [(.int .u32 0), (.int .u32 0), (.int .u32 0), (.int .u32 0), (.int .u32 0), (.int .u32 0), (.int .u32 0), (.int .u32 0), (.int .u32 0), (.int .u32 0), (.int .u32 0), (.int .u32 0), (.int .u32 0), (.int .u32 0), (.int .u32 0), (.int .u32 0), (.int .u32 0), (.int .u32 0), (.int .u32 0), (.int .u32 0), (.int .u32 0), (.int .u32 0), (.int .u32 0), (.int .u32 0), (.int .u32 0), (.int .u32 0), (.int .u32 0), (.int .u32 0), (.int .u32 0), (.int .u32 0), (.int .u32 0), (.int .u32 0), (.int .u32 0), (.int .u32 0), (.int .u32 0), (.int .u32 0), (.int .u32 0), (.int .u32 0), (.int .u32 0), (.int .u32 0), (.int .u32 0), (.int .u32 0), (.int .u32 0), (.int .u32 0), (.int .u32 0), (.int .u32 0), (.int .u32 0), (.int .u32 0), (.int .u32 0), (.int .u32 0), (.int .u32 0), (.int .u32 0), (.int .u32 0), (.int .u32 0), (.int .u32 0), (.int .u32 0), (.int .u32 0), (.int .u32 0), (.int .u32 0), (.int .u32 0), (.int .u32 0), (.int .u32 0), (.int .u32 0), (.int .u32 0)])<| .nil)
 (.seq (.reg false <|
 oR 1 (.build [(.int .u32 0), (.int .u32 0), (.int .u32 0), (.int .u32 0), (.int .u32 0), (.int .u32 0), (.int .u32 0), (.int .u32 0), (.int .u32 0), (.int .u32 0), (.int .u32 0), (.int .u32 0), (.int .u32 0), (.int .u32 0), (.int .u32 0), (.int .u32 0), (.int .u32 0), (.int .u32 0), (.int .u32 0), (.int .u32 0), (.int .u32 0), (.int .u32 0), (.int .u32 0), (.int .u32 0), (.int .u32 0), (.int .u32 0), (.int .u32 0), (.int .u32 0), (.int .u32 0), (.int .u32 0), (.int .u32 0), (.int .u32 0), (.int .u32 0), (.int .u32 0), (.int .u32 0), (.int .u32 0), (.int .u32 0), (.int .u32 0), (.int .u32 0), (.int .u32 0), (.int .u32 0), (.int .u32 0), (.int .u32 0), (.int .u32 0), (.int .u32 0), (.int .u32 0), (.int .u32 0), (.int .u32 0), (.int .u32 0), (.int .u32 0), (.int .u32 0), (.int .u32 0), (.int .u32 0), (.int .u32 0), (.int .u32 0), (.int .u32 0), (.int .u32 0), (.int .u32 0), (.int .u32 0), (.int .u32 0), (.int .u32 0), (.int .u32 0), (.int .u32 0), (.int .u32 0)] [(0, 1, (.const (.int .u32 1116352408))), (1, 1, (.const (.int .u32 1899447441))), (2, 1, (.const (.int .u32 3049323471))), (3, 1, (.const (.int .u32 3921009573))), (4, 1, (.const (.int .u32 961987163))), (5, 1, (.const (.int .u32 1508970993))), (6, 1, (.const (.int .u32 2453635748))), (7, 1, (.const (.int .u32 2870763221))), (8, 1, (.const (.int .u32 3624381080))), (9, 1, (.const (.int .u32 310598401))), (10, 1, (.const (.int .u32 607225278))), (11, 1, (.const (.int .u32 1426881987))), (12, 1, (.const (.int .u32 1925078388))), (13, 1, (.const (.int .u32 2162078206))), (14, 1, (.const (.int .u32 2614888103))), (15, 1, (.const (.int .u32 3248222580))), (16, 1, (.const (.int .u32 3835390401))), (17, 1, (.const (.int .u32 4022224774))), (18, 1, (.const (.int .u32 264347078))), (19, 1, (.const (.int .u32 604807628))), (20, 1, (.const (.int .u32 770255983))), (21, 1, (.const (.int .u32 1249150122))), (22, 1, (.const (.int .u32 1555081692))), (23, 1, (.const (.int .u32 1996064986))), (24, 1, (.const (.int .u32 2554220882))), (25, 1, (.const (.int .u32 2821834349))), (26, 1, (.const (.int .u32 2952996808))), (27, 1, (.const (.int .u32 3210313671))), (28, 1, (.const (.int .u32 3336571891))), (29, 1, (.const (.int .u32 3584528711))), (30, 1, (.const (.int .u32 113926993))), (31, 1, (.const (.int .u32 338241895))), (32, 1, (.const (.int .u32 666307205))), (33, 1, (.const (.int .u32 773529912))), (34, 1, (.const (.int .u32 1294757372))), (35, 1, (.const (.int .u32 1396182291))), (36, 1, (.const (.int .u32 1695183700))), (37, 1, (.const (.int .u32 1986661051))), (38, 1, (.const (.int .u32 2177026350))), (39, 1, (.const (.int .u32 2456956037))), (40, 1, (.const (.int .u32 2730485921))), (41, 1, (.const (.int .u32 2820302411))), (42, 1, (.const (.int .u32 3259730800))), (43, 1, (.const (.int .u32 3345764771))), (44, 1, (.const (.int .u32 3516065817))), (45, 1, (.const (.int .u32 3600352804))), (46, 1, (.const (.int .u32 4094571909))), (47, 1, (.const (.int .u32 275423344))), (48, 1, (.const (.int .u32 430227734))), (49, 1, (.const (.int .u32 506948616))), (50, 1, (.const (.int .u32 659060556))), (51, 1, (.const (.int .u32 883997877))), (52, 1, (.const (.int .u32 958139571))), (53, 1, (.const (.int .u32 1322822218))), (54, 1, (.const (.int .u32 1537002063))), (55, 1, (.const (.int .u32 1747873779))), (56, 1, (.const (.int .u32 1955562222))), (57, 1, (.const (.int .u32 2024104815))), (58, 1, (.const (.int .u32 2227730452))), (59, 1, (.const (.int .u32 2361852424))), (60, 1, (.const (.int .u32 2428436474))), (61, 1, (.const (.int .u32 2756734187))), (62, 1, (.const (.int .u32 3204031479))), (63, 1, (.const (.int .u32 3329325298)))])<|
 oU 64 0 1<| .nil) .ret))
theorem s_sha_keys : CS 2 k_sha_keys [.cellN 64 0] F.sha_keys :=
  cs Tryz.func140 (by kernel_rfl) (by kernel_rfl)
noncomputable def k_sha_padded : KC :=
(.seq (.reg false <| oR 2 (.move (.const (.string ⟨#[]⟩)))<| .nil) (.seq (.reg false <| oM 4 0<| oR 5 (.len true (t 4))<| oC 6 .rem 5 64<|
 oR 7 (.bin .sub (oi 119) (t 6))<| oC 8 .rem 7 64<| oM 3 8<| .nil) (.seq (.reg false <| oM 9 0<| oR 10 (.bin .add (t 9) (.const (.string ⟨#[128]⟩)))<| oM 11 3<|
 oR 12 (.call 150 [(.const (.string ⟨#[0]⟩)), (t 11)])<| oB 13 .add 10 12<| oM 14 0<| oR 15 (.len true (t 14))<| oV 16 .u64 15<|
 oR 17 (.bin .mul (t 16) (.const (.int .u64 8)))<| oR 18 (.call 144 [(t 17), (oi 8)])<| oB 19 .add 13 18<| oM 2 19<| .nil) .ret)))
theorem s_sha_padded : CS 20 k_sha_padded [.tmp 2] F.sha_padded :=
  cs Tryz.func141 (by kernel_rfl) (by kernel_rfl)
noncomputable def k_sha_schedule : KC :=
(.seq (.reg false <|
 oR 2 (.alloc 176 [(.int .u32 0), (.int .u32 0), (.int .u32 0), (.int .u32 0), (.int .u32 0), (.int .u32 0), (.int .u32 0), (.int .u32 0), (.int .u32 0), (.int .u32 0), (.int .u32 0), (.int .u32 0), (.int .u32 0), (.int .u32 0), (.int .u32 0), (.int .u32 0), (.int .u32 0), (.int .u32 0), (.int .u32 0), (.int .u32 0), (.int .u32 0), (.int .u32 0), (.int .u32 0), (.int .u32 0), (.int .u32 0), (.int .u32 0), (.int .u32 0), (.int .u32 0), (.int .u32 0), (.int .u32 0), (.int .u32 0), (.int .u32 0), (.int .u32 0), (.int .u32 0), (.int .u32 0), (.int .u32 0), (.int .u32 0), (.int .u32 0), (.int .u32 0), (.int .u32 0), (.int .u32 0), (.int .u32 0), (.int .u32 0), (.int .u32 0), (.int .u32 0), (.int .u32 0), (.int .u32 0), (.int .u32 0), (.int .u32 0), (.int .u32 0), (.int .u32 0), (.int .u32 0), (.int .u32 0), (.int .u32 0), (.int .u32 0), (.int .u32 0), (.int .u32 0), (.int .u32 0), (.int .u32 0), (.int .u32 0), (.int .u32 0), (.int .u32 0), (.int .u32 0), (.int .u32 0)])<| .nil)
 (.seq (.reg false <|
 oR 3 (.alloc 176 [(.int .u32 0), (.int .u32 0), (.int .u32 0), (.int .u32 0), (.int .u32 0), (.int .u32 0), (.int .u32 0), (.int .u32 0), (.int .u32 0), (.int .u32 0), (.int .u32 0), (.int .u32 0), (.int .u32 0), (.int .u32 0), (.int .u32 0), (.int .u32 0), (.int .u32 0), (.int .u32 0), (.int .u32 0), (.int .u32 0), (.int .u32 0), (.int .u32 0), (.int .u32 0), (.int .u32 0), (.int .u32 0), (.int .u32 0), (.int .u32 0), (.int .u32 0), (.int .u32 0), (.int .u32 0), (.int .u32 0), (.int .u32 0), (.int .u32 0), (.int .u32 0), (.int .u32 0), (.int .u32 0), (.int .u32 0), (.int .u32 0), (.int .u32 0), (.int .u32 0), (.int .u32 0), (.int .u32 0), (.int .u32 0), (.int .u32 0), (.int .u32 0), (.int .u32 0), (.int .u32 0), (.int .u32 0), (.int .u32 0), (.int .u32 0), (.int .u32 0), (.int .u32 0), (.int .u32 0), (.int .u32 0), (.int .u32 0), (.int .u32 0), (.int .u32 0), (.int .u32 0), (.int .u32 0), (.int .u32 0), (.int .u32 0), (.int .u32 0), (.int .u32 0), (.int .u32 0)])<| .nil)
 (.seq (.seq (.reg false <| oO 9 0<| .nil) (.block 0 (.loop (.seq (.reg false <| oC 10 .lss 9 64<| .nil) (.seq (.cond (t 10) .skip (.exit 0))
 (.seq (.block 1 (.seq (.reg false <| oM 11 9<| oM 4 11<| .nil) (.seq (.seq (.reg false <| oM 12 4<| oC 13 .lss 12 16<| .nil) (.cond (t 13) (.seq (.seq (.reg false <|
 oM 14 0<| oM 15 4<| oR 16 (.bin .mul (oi 4) (t 15))<| oM 17 4<| oR 18 (.bin .mul (oi 4) (t 17))<| oC 19 .add 18 4<| oR 20 (.sliceStr (t 14) (some (t 16)) (some (t 19)))<|
 oR 21 (.bytesOf 5 (t 20))<| oD 22 21<| oO 23 0<| .nil) (.block 2 (.loop (.seq (.reg false <| oB 24 .lss 23 22<| .nil) (.seq (.cond (t 24) .skip (.exit 2))
 (.seq (.block 3 (.seq (.reg false <| oI 25 1 21 23<| oL 26 25<| oM 6 26<| .nil) (.reg false <| oM 27 4<| oM 28 4<| oR 29 (.indexArr 1 64 (t 3) (t 28))<| oL 30 29<|
 oR 31 (.bin .shl (t 30) (.const (.int .u64 8)))<| oM 32 6<| oV 33 .u32 32<| oB 34 .or 31 33<| oR 35 (.indexArr 1 64 (t 3) (t 27))<| oS 35 34<| .nil))) (.reg false <|
 oC 36 .add 23 1<| oM 23 36<| .nil))))))) (.exit 1)) .skip)) (.seq (.reg true <| oM 37 4<| oC 38 .sub 37 15<| oR 39 (.indexArr 1 64 (t 3) (t 38))<| oL 40 39<| oM 41 4<|
 oC 42 .sub 41 2<| oR 43 (.indexArr 1 64 (t 3) (t 42))<| oL 44 43<| oM 7 40<| oM 8 44<| .nil) (.reg true <| .join (oM 45 4<| oM 46 4<| oC 47 .sub 46 16<|
 oR 48 (.indexArr 1 64 (t 3) (t 47))<| oL 49 48<| oM 50 7<| oR 51 (.pcall 161 Go.Proofs.YteggaepppahefaaGreat.qRotI [(t 50), (oi 7)])<| oM 52 7<|
 oR 53 (.pcall 161 Go.Proofs.YteggaepppahefaaGreat.qRotI [(t 52), (oi 18)])<| oB 54 .xor 51 53<| oM 55 7<| oR 56 (.bin .shr (t 55) (.const (.int .u64 3)))<|
 oB 57 .xor 54 56<| oB 58 .add 49 57<| oM 59 4<| oC 60 .sub 59 7<| oR 61 (.indexArr 1 64 (t 3) (t 60))<| oL 62 61<| oB 63 .add 58 62<| oM 64 8<|
 oR 65 (.pcall 161 Go.Proofs.YteggaepppahefaaGreat.qRotI [(t 64), (oi 17)])<| oM 66 8<| oR 67 (.pcall 161 Go.Proofs.YteggaepppahefaaGreat.qRotI [(t 66), (oi 19)])<|
 oB 68 .xor 65 67<| oM 69 8<| oR 70 (.bin .shr (t 69) (.const (.int .u64 10)))<| oB 71 .xor 68 70<| oB 72 .add 63 71<|
 oR 73 (.indexArr 1 64 (t 3) (t 45))<| .nil) <|oS 73 72<| .nil))))) (.reg false <| oC 74 .add 9 1<| oM 9 74<| .nil))))))) (.seq (.reg false <| oK 75 64 3<|
 oU 64 2 75<| .nil) .ret))))
theorem s_sha_schedule : CS 76 k_sha_schedule [.cellN 64 2] F.sha_schedule :=
  cs Tryz.func142 (by kernel_rfl) (by kernel_rfl)
noncomputable def k_sha_round : KC :=
(.seq (.reg false <| oR 3 (.box 174 (t 0))<|
 oR 6 (.alloc 174 [(.int .u32 0), (.int .u32 0), (.int .u32 0), (.int .u32 0), (.int .u32 0), (.int .u32 0), (.int .u32 0), (.int .u32 0)])<| .nil) (.seq (.reg true <|
 oR 11 (.indexArr 1 8 (t 3) (oi 0))<| oL 12 11<| oR 13 (.indexArr 1 8 (t 3) (oi 4))<| oL 14 13<| oM 7 12<| oM 8 14<| .nil) (.seq (.reg true <|
 oR 15 (.indexArr 1 8 (t 3) (oi 7))<| oL 16 15<| oM 17 8<| oR 18 (.pcall 161 Go.Proofs.YteggaepppahefaaGreat.qRotI [(t 17), (oi 6)])<| oM 19 8<|
 oR 20 (.pcall 161 Go.Proofs.YteggaepppahefaaGreat.qRotI [(t 19), (oi 11)])<| oB 21 .xor 18 20<| oM 22 8<|
 oR 23 (.pcall 161 Go.Proofs.YteggaepppahefaaGreat.qRotI [(t 22), (oi 25)])<| oB 24 .xor 21 23<| oB 25 .add 16 24<| oM 26 8<| oR 27 (.indexArr 1 8 (t 3) (oi 5))<|
 oL 28 27<| oB 29 .and 26 28<| oM 30 8<| oR 31 (.unNeg true (t 30))<| oR 32 (.indexArr 1 8 (t 3) (oi 6))<| oL 33 32<| oB 34 .and 31 33<| oB 35 .xor 29 34<|
 oB 36 .add 25 35<| oM 37 1<| oB 38 .add 36 37<| oM 39 2<| oB 40 .add 38 39<| oM 9 40<| .nil) (.seq (.reg true <| oM 41 7<|
 oR 42 (.pcall 161 Go.Proofs.YteggaepppahefaaGreat.qRotI [(t 41), (oi 2)])<| oM 43 7<| oR 44 (.pcall 161 Go.Proofs.YteggaepppahefaaGreat.qRotI [(t 43), (oi 13)])<|
 oB 45 .xor 42 44<| oM 46 7<| oR 47 (.pcall 161 Go.Proofs.YteggaepppahefaaGreat.qRotI [(t 46), (oi 22)])<| oB 48 .xor 45 47<| oM 49 7<| oR 50 (.indexArr 1 8 (t 3) (oi 1))<|
 oL 51 50<| oB 52 .and 49 51<| oM 53 7<| oR 54 (.indexArr 1 8 (t 3) (oi 2))<| oL 55 54<| oB 56 .and 53 55<| oB 57 .xor 52 56<| oR 58 (.indexArr 1 8 (t 3) (oi 1))<|
 oL 59 58<| oR 60 (.indexArr 1 8 (t 3) (oi 2))<| oL 61 60<| oB 62 .and 59 61<| oB 63 .xor 57 62<| oB 64 .add 48 63<| oM 10 64<| .nil) (.seq (.reg false <| oM 65 9<|
 oM 66 10<| oB 67 .add 65 66<| oM 68 7<| oR 69 (.indexArr 1 8 (t 3) (oi 1))<| oL 70 69<| oR 71 (.indexArr 1 8 (t 3) (oi 2))<| oL 72 71<|
 oR 73 (.indexArr 1 8 (t 3) (oi 3))<| oL 74 73<| oM 75 9<| oB 76 .add 74 75<| oM 77 8<| oR 78 (.indexArr 1 8 (t 3) (oi 5))<| oL 79 78<| oR 80 (.indexArr 1 8 (t 3) (oi 6))<|
 oL 81 80<|
 oR 82 (.build [(.int .u32 0), (.int .u32 0), (.int .u32 0), (.int .u32 0), (.int .u32 0), (.int .u32 0), (.int .u32 0), (.int .u32 0)] [(0, 1, (t 67)), (1, 1, (t 68)), (2, 1, (t 70)), (3, 1, (t 72)), (4, 1, (t 76)), (5, 1, (t 77)), (6, 1, (t 79)), (7, 1, (t 81))])<|
 oU 8 6 82<| .nil) .ret)))))
theorem s_sha_round : CS 83 k_sha_round [.cellN 8 6] F.sha_round :=
  cs Tryz.func143 (by kernel_rfl) (by kernel_rfl)
noncomputable def k_sha_high : KC :=
(.seq (.reg false <| oR 4 (.move (.const (.string ⟨#[]⟩)))<| .nil) (.seq (.reg false <| oM 7 1<| oR 8 (.makeSlice 5 1 1 [(.int .u8 0)] (t 7) (t 7))<| oM 5 8<| .nil)
 (.seq (.seq (.reg false <| oM 9 5<| oD 10 9<| oO 11 0<| .nil) (.block 0 (.loop (.seq (.reg false <| oB 12 .lss 11 10<| .nil) (.seq (.cond (t 12) .skip (.exit 0))
 (.seq (.block 1 (.seq (.reg false <| oM 13 11<| oM 6 13<| .nil) (.seq (.reg false <| oM 14 5<| oM 15 1<| oC 16 .sub 15 1<| oM 17 6<| oB 18 .sub 16 17<| oM 19 0<|
 oV 20 .u8 19<| oI 21 1 14 18<| oS 21 20<| .nil) (.reg false <| oM 22 0<| oR 23 (.bin .shr (t 22) (.const (.int .u64 8)))<| oM 0 23<| .nil)))) (.reg false <|
 oC 24 .add 11 1<| oM 11 24<| .nil))))))) (.seq (.reg false <| oM 25 5<| oR 26 (.strOf (t 25))<| oM 4 26<| .nil) .ret))))
theorem s_sha_high : CS 27 k_sha_high [.tmp 4] F.sha_high :=
  cs Tryz.func144 (by kernel_rfl) (by kernel_rfl)
noncomputable def k_wire_witnessed : KC :=
(.seq (.reg false <| oR 1 (.box 31 (t 0))<| oR 2 (.move (.const (.bool false)))<| .nil) (.seq (.reg false <| oF 3 1 1<| oL 4 3<| oR 5 (.call 78 [(t 4), (.func 162)])<|
 oM 2 5<| .nil) .ret))
theorem s_wire_witnessed : CS 6 k_wire_witnessed [.tmp 2] F.wire_witnessed :=
  cs Tryz.func145 (by kernel_rfl) (by kernel_rfl)
noncomputable def k_kedgeref02_Put : KC :=
(.seq (.reg false <| oR 4 (.move (.const (.string ⟨#[]⟩)))<| .nil) (.seq (.reg false <| oR 5 (.move (.const (.string ⟨#[]⟩)))<| .nil) (.seq (.seq (.reg false <| oM 7 1<|
 oC 8 .neq 7 1<| oM 9 8<| oG 10 9 true (.move (t 1))<| oG 11 9 true (.bin .neq (t 10) (oi 2))<| oR 12 (.pick (t 9) (t 11) (.const (.bool false)))<| oM 13 12<|
 oG 14 13 true (.move (t 1))<| oG 15 13 true (.bin .neq (t 14) (oi 4))<| oR 16 (.pick (t 13) (t 15) (.const (.bool false)))<| oM 17 16<| oG 18 17 true (.move (t 1))<|
 oG 19 17 true (.bin .neq (t 18) (oi 8))<| oR 20 (.pick (t 17) (t 19) (.const (.bool false)))<| .nil) (.cond (t 20) (.seq (.reg false <| oM 21 5<|
 oM 4 21<| .nil) .ret) .skip)) (.seq (.seq (.reg false <| oO 6 0<| .nil) (.block 0 (.loop (.seq (.seq (.reg false <| oM 22 6<| oM 23 1<| oB 24 .lss 22 23<| .nil)
 (.cond (t 24) .skip (.exit 0))) (.seq (.block 1 (.seq (.reg false <| oM 27 5<| oM 28 0<| oR 29 (.bin .rem (t 28) (.const (.int .u64 256)))<| oV 30 .u8 29<|
 oR 31 (.buildSlice 5 1 [(.int .u8 0)] [(0, 1, (t 30))])<| oR 32 (.strOf (t 31))<| oB 33 .add 27 32<| oM 5 33<| .nil) (.reg false <| oM 34 0<|
 oR 35 (.bin .quo (t 34) (.const (.int .u64 256)))<| oM 0 35<| .nil))) (.reg false <| oM 25 6<| oC 26 .add 25 1<| oM 6 26<| .nil)))))) (.seq (.reg false <| oM 36 5<|
 oM 4 36<| .nil) .ret)))))
theorem s_kedgeref02_Put : CS 37 k_kedgeref02_Put [.tmp 4] F.kedgeref02_Put :=
  cs Tryz.func146 (by kernel_rfl) (by kernel_rfl)
noncomputable def k_kedgeref06_length : KC :=
(.seq (.reg false <| oR 2 (.move (.const (.string ⟨#[]⟩)))<| .nil) (.seq (.reg false <| oM 3 0<| oV 4 .u64 3<| oR 5 (oa 163 4)<| oM 2 5<| .nil) .ret))
theorem s_kedgeref06_length : CS 6 k_kedgeref06_length [.tmp 2] F.kedgeref06_length :=
  cs Tryz.func147 (by kernel_rfl) (by kernel_rfl)
noncomputable def k_kedgeref04_Sum : KC :=
(.seq (.reg false <| oR 2 (.move (.const (.string ⟨#[]⟩)))<| .nil) (.seq (.reg false <|
 oR 8 (.build [(.int .u32 0), (.int .u32 0), (.int .u32 0), (.int .u32 0), (.int .u32 0), (.int .u32 0), (.int .u32 0), (.int .u32 0)] [(0, 1, (.const (.int .u32 1779033703))), (1, 1, (.const (.int .u32 3144134277))), (2, 1, (.const (.int .u32 1013904242))), (3, 1, (.const (.int .u32 2773480762))), (4, 1, (.const (.int .u32 1359893119))), (5, 1, (.const (.int .u32 2600822924))), (6, 1, (.const (.int .u32 528734635))), (7, 1, (.const (.int .u32 1541459225)))])<|
 oR 3 (.alloc 174 [(.int .u32 0), (.int .u32 0), (.int .u32 0), (.int .u32 0), (.int .u32 0), (.int .u32 0), (.int .u32 0), (.int .u32 0)])<| oU 8 3 8<| .nil)
 (.seq (.reg false <| oM 9 0<| oR 10 (oa 164 9)<| oM 4 10<| .nil) (.seq (.seq (.reg false <| oO 5 0<| .nil) (.block 0 (.loop (.seq (.seq (.reg false <| oM 11 5<| oM 12 4<|
 oD 13 12<| oB 14 .lss 11 13<| .nil) (.cond (t 14) .skip (.exit 0))) (.seq (.block 1 (.reg true <| oK 17 8 3<| oM 18 4<| oM 19 5<| oM 20 5<| oC 21 .add 20 64<|
 oR 22 (.sliceSl 1 (t 18) (some (t 19)) (some (t 21)))<| oR 23 (ob 165 17 22)<| oU 8 3 23<| .nil)) (.reg false <| oM 15 5<| oC 16 .add 15 64<| oM 5 16<| .nil))))))
 (.seq (.reg false <| oR 6 (.move (.const (.string ⟨#[]⟩)))<| .nil) (.seq (.seq (.reg false <| oO 7 0<| .nil) (.block 2 (.loop (.seq (.seq (.reg false <| oM 24 7<|
 oC 25 .lss 24 8<| .nil) (.cond (t 25) .skip (.exit 2))) (.seq (.block 3 (.reg true <| .join (oM 28 6<| oM 29 7<| oR 30 (.indexArr 1 8 (t 3) (t 29))<| oL 31 30<|
 oR 32 (.bin .shr (t 31) (.const (.int .u64 24)))<| oV 33 .u8 32<| oM 34 7<| oR 35 (.indexArr 1 8 (t 3) (t 34))<| oL 36 35<|
 oR 37 (.bin .shr (t 36) (.const (.int .u64 16)))<| oV 38 .u8 37<| oM 39 7<| oR 40 (.indexArr 1 8 (t 3) (t 39))<| oL 41 40<|
 oR 42 (.bin .shr (t 41) (.const (.int .u64 8)))<| oV 43 .u8 42<| oM 44 7<| oR 45 (.indexArr 1 8 (t 3) (t 44))<| oL 46 45<|
 oV 47 .u8 46<| .nil) <|oR 48 (.buildSlice 5 4 [(.int .u8 0), (.int .u8 0), (.int .u8 0), (.int .u8 0)] [(0, 1, (t 33)), (1, 1, (t 38)), (2, 1, (t 43)), (3, 1, (t 47))])<|
 oR 49 (.strOf (t 48))<| oB 50 .add 28 49<| oM 6 50<| .nil)) (.reg false <| oM 26 7<| oC 27 .add 26 1<| oM 7 27<| .nil)))))) (.seq (.reg false <| oM 51 6<|
 oM 2 51<| .nil) .ret)))))))
theorem s_kedgeref04_Sum : CS 52 k_kedgeref04_Sum [.tmp 2] F.kedgeref04_Sum :=
  cs Tryz.func148 (by kernel_rfl) (by kernel_rfl)
noncomputable def k_amount_Sum : KC :=
(.seq (.reg false <| oO 2 0<| oO 3 0<| .nil) (.seq (.reg false <| oO 4 0<| .nil) (.seq (.seq (.reg false <| oM 8 0<| oD 9 8<| oO 10 0<| .nil)
 (.block 0 (.loop (.seq (.reg false <| oB 11 .lss 10 9<| .nil) (.seq (.cond (t 11) .skip (.exit 0)) (.seq (.block 1 (.seq (.reg false <| oI 12 1 8 10<| oL 13 12<|
 oM 6 13<| .nil) (.seq (.reg false <| oO 7 0<| .nil) (.seq (.reg false <| oM 15 4<| oM 16 6<| oR 17 (ob 170 15 16)<| oM 14 17<| oX 18 0 14<| oX 19 1 14<| oM 4 18<|
 oM 7 19<| .nil) (.seq (.reg false <| oM 20 7<| oC 21 .neq 20 0<| .nil) (.cond (t 21) (.seq (.reg false <| oM 22 7<| oO 2 0<| oM 3 22<| .nil) .ret) .skip))))))
 (.reg false <| oC 23 .add 10 1<| oM 10 23<| .nil))))))) (.seq (.reg false <| oM 24 4<| oM 2 24<| oO 3 0<| .nil) .ret))))
theorem s_amount_Sum : CS 25 k_amount_Sum [.tmp 2, .tmp 3] F.amount_Sum :=
  cs Tryz.func151 (by kernel_rfl) (by kernel_rfl)
noncomputable def k_tx_counts_1 : KC :=
(.seq (.reg false <| oR 1 (.box 88 (t 0))<| oR 2 (.move (.const (.bool false)))<| .nil) (.seq (.reg false <| oF 3 3 1<| oL 4 3<| oD 5 4<| oC 6 .gtr 5 4<|
 oM 2 6<| .nil) .ret))
theorem s_tx_counts_1 : CS 7 k_tx_counts_1 [.tmp 2] F.tx_counts_1 :=
  cs Tryz.func153 (by kernel_rfl) (by kernel_rfl)
noncomputable def k_tx_long_1 : KC :=
(.seq (.reg false <| oR 2 (.move (.const (.bool false)))<| .nil) (.seq (.reg false <| oM 3 0<| oR 4 (.len true (t 3))<| oC 5 .gtr 4 80<| oM 2 5<| .nil) .ret))
theorem s_tx_long_1 : CS 6 k_tx_long_1 [.tmp 2] F.tx_long_1 :=
  cs Tryz.func154 (by kernel_rfl) (by kernel_rfl)
noncomputable def k_slices_ContainsFunc_L_api_Out_api_Out : KC :=
(.seq (.reg false <| oR 4 (.move (.const (.bool false)))<| .nil) (.seq (.reg false <| oM 5 0<| oM 6 1<| oR 7 (ob 171 5 6)<| oC 8 .geq 7 0<| oM 4 8<| .nil) .ret))
theorem s_slices_ContainsFunc_L_api_Out_api_Out : CS 9 k_slices_ContainsFunc_L_api_Out_api_Out [.tmp 4] F.slices_ContainsFunc_L_api_Out_api_Out :=
  cs Tryz.func155 (by kernel_rfl) (by kernel_rfl)
noncomputable def k_tx_long_2 : KC :=
(.seq (.reg false <| oR 1 (.box 128 (t 0))<| oR 2 (.move (.const (.bool false)))<| .nil) (.seq (.reg false <| oF 3 1 1<| oL 4 3<| oR 5 (.len true (t 4))<| oC 6 .gtr 5 40<|
 oM 2 6<| .nil) .ret))
theorem s_tx_long_2 : CS 7 k_tx_long_2 [.tmp 2] F.tx_long_2 :=
  cs Tryz.func156 (by kernel_rfl) (by kernel_rfl)
noncomputable def k_tx_long_3 : KC :=
(.seq (.reg false <| oR 2 (.box 88 (t 0))<| oR 3 (.move (.const (.bool false)))<| .nil) (.seq (.reg false <| oF 4 3 2<| oL 5 4<| oL 6 1<| oR 7 (ob 81 5 6)<|
 oM 3 7<| .nil) .ret))
theorem s_tx_long_3 : CS 8 k_tx_long_3 [.tmp 3] F.tx_long_3 :=
  cs Tryz.func157 (by kernel_rfl) (by kernel_rfl)
noncomputable def k_octet_known : KC :=
(.seq (.reg false <| oR 2 (.move (.const (.bool false)))<| .nil) (.seq (.reg false <|
 oR 3 (.buildSlice 3 4 [(.int .i64 0), (.int .i64 0), (.int .i64 0), (.int .i64 0)] [(0, 1, (oi 1)), (1, 1, (oi 2)), (2, 1, (oi 4)), (3, 1, (oi 8))])<| oM 4 0<|
 oR 5 (ob 173 3 4)<| oM 2 5<| .nil) .ret))
theorem s_octet_known : CS 6 k_octet_known [.tmp 2] F.octet_known :=
  cs Tryz.func159 (by kernel_rfl) (by kernel_rfl)
noncomputable def k_vint_Put : KC :=
(.seq (.reg false <| oR 2 (.move (.const (.string ⟨#[]⟩)))<| .nil) (.seq (.block 0 (.seq (.reg false <| oM 4 0<| oR 5 (.bin .lss (t 4) (.const (.int .u64 253)))<|
 oM 3 5<| .nil) (.cond (t 3) (.seq (.reg false <| oM 6 0<| oR 7 (.call 135 [(t 6), (oi 1)])<| oM 2 7<| .nil) .ret) (.seq (.reg false <| oM 9 0<|
 oR 10 (.bin .lss (t 9) (.const (.int .u64 65536)))<| oM 8 10<| .nil) (.cond (t 8) (.seq (.reg false <| oR 11 (.call 135 [(.const (.int .u64 253)), (oi 1)])<| oM 12 0<|
 oR 13 (.call 135 [(t 12), (oi 2)])<| oB 14 .add 11 13<| oM 2 14<| .nil) .ret) (.seq (.reg false <| oM 16 0<| oR 17 (.bin .lss (t 16) (.const (.int .u64 4294967296)))<|
 oM 15 17<| .nil) (.cond (t 15) (.seq (.reg false <| oR 18 (.call 135 [(.const (.int .u64 254)), (oi 1)])<| oM 19 0<| oR 20 (.call 135 [(t 19), (oi 4)])<|
 oB 21 .add 18 20<| oM 2 21<| .nil) .ret) .skip))))))) (.seq (.reg false <| oR 22 (.call 135 [(.const (.int .u64 255)), (oi 1)])<| oM 23 0<|
 oR 24 (.call 135 [(t 23), (oi 8)])<| oB 25 .add 22 24<| oM 2 25<| .nil) .ret)))
theorem s_vint_Put : CS 26 k_vint_Put [.tmp 2] F.vint_Put :=
  cs Tryz.func160 (by kernel_rfl) (by kernel_rfl)
noncomputable def k_wire_witnessed_1 : KC :=
(.seq (.reg false <| oR 1 (.box 88 (t 0))<| oR 2 (.move (.const (.bool false)))<| .nil) (.seq (.reg false <| oF 3 3 1<| oL 4 3<| oD 5 4<| oC 6 .gtr 5 0<|
 oM 2 6<| .nil) .ret))
theorem s_wire_witnessed_1 : CS 7 k_wire_witnessed_1 [.tmp 2] F.wire_witnessed_1 :=
  cs Tryz.func162 (by kernel_rfl) (by kernel_rfl)
noncomputable def k_kedgeref03_Put : KC :=
(.seq (.reg false <| oR 2 (.move (.const (.string ⟨#[]⟩)))<| .nil) (.seq (.seq (.reg false <| oM 3 0<| oR 4 (.bin .lss (t 3) (.const (.int .u64 253)))<| .nil)
 (.cond (t 4) (.seq (.reg false <| oM 5 0<| oR 6 (.call 146 [(t 5), (oi 1)])<| oM 2 6<| .nil) .ret) .skip)) (.seq (.seq (.reg false <| oM 7 0<|
 oR 8 (.bin .lss (t 7) (.const (.int .u64 65536)))<| .nil) (.cond (t 8) (.seq (.reg false <| oM 9 0<| oR 10 (.call 146 [(t 9), (oi 2)])<|
 oR 11 (.bin .add (.const (.string ⟨#[253]⟩)) (t 10))<| oM 2 11<| .nil) .ret) .skip)) (.seq (.seq (.reg false <| oM 12 0<|
 oR 13 (.bin .lss (t 12) (.const (.int .u64 4294967296)))<| .nil) (.cond (t 13) (.seq (.reg false <| oM 14 0<| oR 15 (.call 146 [(t 14), (oi 4)])<|
 oR 16 (.bin .add (.const (.string ⟨#[254]⟩)) (t 15))<| oM 2 16<| .nil) .ret) .skip)) (.seq (.reg false <| oM 17 0<| oR 18 (.call 146 [(t 17), (oi 8)])<|
 oR 19 (.bin .add (.const (.string ⟨#[255]⟩)) (t 18))<| oM 2 19<| .nil) .ret)))))
theorem s_kedgeref03_Put : CS 20 k_kedgeref03_Put [.tmp 2] F.kedgeref03_Put :=
  cs Tryz.func163 (by kernel_rfl) (by kernel_rfl)
noncomputable def k_kedgeref04_pad : KC :=
(.seq (.reg false <| oR 2 (.move (.const (.slice none 0 0)))<| .nil) (.seq (.reg false <| oR 3 (.move (.const (.slice none 0 0)))<| .nil) (.seq (.seq (.reg false <|
 oO 4 0<| .nil) (.block 0 (.loop (.seq (.seq (.reg false <| oM 7 4<| oM 8 0<| oR 9 (.len true (t 8))<| oB 10 .lss 7 9<| .nil) (.cond (t 10) .skip (.exit 0)))
 (.seq (.block 1 (.reg false <| oM 13 3<| oM 14 0<| oM 15 4<| oR 16 (.indexStr (t 14) (t 15))<| oR 17 (.buildSlice 5 1 [(.int .u8 0)] [(0, 1, (t 16))])<|
 oR 18 (.append 5 1 1 [(.int .u8 0)] (t 13) (t 17))<| oM 3 18<| .nil)) (.reg false <| oM 11 4<| oC 12 .add 11 1<| oM 4 12<| .nil)))))) (.seq (.reg false <| oM 19 3<|
 oR 20 (.buildSlice 5 1 [(.int .u8 0)] [(0, 1, (.const (.int .u8 128)))])<| oR 21 (.append 5 1 1 [(.int .u8 0)] (t 19) (t 20))<| oM 3 21<| .nil)
 (.seq (.block 2 (.loop (.seq (.seq (.reg false <| oM 22 3<| oD 23 22<| oC 24 .rem 23 64<| oC 25 .neq 24 56<| .nil) (.cond (t 25) .skip (.exit 2))) (.block 3 (.reg false <|
 oM 26 3<| oR 27 (.buildSlice 5 1 [(.int .u8 0)] [(0, 1, (.const (.int .u8 0)))])<| oR 28 (.append 5 1 1 [(.int .u8 0)] (t 26) (t 27))<| oM 3 28<| .nil)))))
 (.seq (.reg false <| oM 29 0<| oR 30 (.len true (t 29))<| oV 31 .u64 30<| oR 32 (.bin .mul (t 31) (.const (.int .u64 8)))<| oM 5 32<| .nil) (.seq (.seq (.reg false <|
 oO 6 7<| .nil) (.block 4 (.loop (.seq (.seq (.reg false <| oM 33 6<| oC 34 .geq 33 0<| .nil) (.cond (t 34) .skip (.exit 4))) (.seq (.block 5 (.reg false <| oM 37 3<|
 oM 38 5<| oM 39 6<| oV 40 .u64 39<| oR 41 (.bin .mul (.const (.int .u64 8)) (t 40))<| oB 42 .shr 38 41<| oV 43 .u8 42<|
 oR 44 (.buildSlice 5 1 [(.int .u8 0)] [(0, 1, (t 43))])<| oR 45 (.append 5 1 1 [(.int .u8 0)] (t 37) (t 44))<| oM 3 45<| .nil)) (.reg false <| oM 35 6<| oC 36 .sub 35 1<|
 oM 6 36<| .nil)))))) (.seq (.reg false <| oM 46 3<| oM 2 46<| .nil) .ret))))))))
theorem s_kedgeref04_pad : CS 47 k_kedgeref04_pad [.tmp 2] F.kedgeref04_pad :=
  cs Tryz.func164 (by kernel_rfl) (by kernel_rfl)
noncomputable def k_kedgeref04_block : KC :=
(.seq (.reg false <| oR 2 (.box 174 (t 0))<|
 oR 4 (.alloc 174 [(.int .u32 0), (.int .u32 0), (.int .u32 0), (.int .u32 0), (.int .u32 0), (.int .u32 0), (.int .u32 0), (.int .u32 0)])<| .nil) (.seq (.reg false <|
 oR 5 (.alloc 176 [(.int .u32 0), (.int .u32 0), (.int .u32 0), (.int .u32 0), (.int .u32 0), (.int .u32 0), (.int .u32 0), (.int .u32 0), (.int .u32 0), (.int .u32 0), (.int .u32 0), (.int .u32 0), (.int .u32 0), (.int .u32 0), (.int .u32 0), (.int .u32 0), (.int .u32 0), (.int .u32 0), (.int .u32 0), (.int .u32 0), (.int .u32 0), (.int .u32 0), (.int .u32 0), (.int .u32 0), (.int .u32 0), (.int .u32 0), (.int .u32 0), (.int .u32 0), (.int .u32 0), (.int .u32 0), (.int .u32 0), (.int .u32 0), (.int .u32 0), (.int .u32 0), (.int .u32 0), (.int .u32 0), (.int .u32 0), (.int .u32 0), (.int .u32 0), (.int .u32 0), (.int .u32 0), (.int .u32 0), (.int .u32 0), (.int .u32 0), (.int .u32 0), (.int .u32 0), (.int .u32 0), (.int .u32 0), (.int .u32 0), (.int .u32 0), (.int .u32 0), (.int .u32 0), (.int .u32 0), (.int .u32 0), (.int .u32 0), (.int .u32 0), (.int .u32 0), (.int .u32 0), (.int .u32 0), (.int .u32 0), (.int .u32 0), (.int .u32 0), (.int .u32 0), (.int .u32 0)])<| .nil)
 (.seq (.reg false <| oR 22 (.call 175 [])<|
 oR 6 (.alloc 176 [(.int .u32 0), (.int .u32 0), (.int .u32 0), (.int .u32 0), (.int .u32 0), (.int .u32 0), (.int .u32 0), (.int .u32 0), (.int .u32 0), (.int .u32 0), (.int .u32 0), (.int .u32 0), (.int .u32 0), (.int .u32 0), (.int .u32 0), (.int .u32 0), (.int .u32 0), (.int .u32 0), (.int .u32 0), (.int .u32 0), (.int .u32 0), (.int .u32 0), (.int .u32 0), (.int .u32 0), (.int .u32 0), (.int .u32 0), (.int .u32 0), (.int .u32 0), (.int .u32 0), (.int .u32 0), (.int .u32 0), (.int .u32 0), (.int .u32 0), (.int .u32 0), (.int .u32 0), (.int .u32 0), (.int .u32 0), (.int .u32 0), (.int .u32 0), (.int .u32 0), (.int .u32 0), (.int .u32 0), (.int .u32 0), (.int .u32 0), (.int .u32 0), (.int .u32 0), (.int .u32 0), (.int .u32 0), (.int .u32 0), (.int .u32 0), (.int .u32 0), (.int .u32 0), (.int .u32 0), (.int .u32 0), (.int .u32 0), (.int .u32 0), (.int .u32 0), (.int .u32 0), (.int .u32 0), (.int .u32 0), (.int .u32 0), (.int .u32 0), (.int .u32 0), (.int .u32 0)])<|
 oU 64 6 22<| .nil) (.seq (.seq (.reg false <| oO 7 0<| .nil) (.block 0 (.loop (.seq (.seq (.reg false <| oM 23 7<| oC 24 .lss 23 16<| .nil) (.cond (t 24) .skip (.exit 0)))
 (.seq (.block 1 (.reg true <| .join (oM 27 7<| oM 28 1<| oM 29 7<| oR 30 (.bin .mul (oi 4) (t 29))<| oI 31 1 28 30<| oL 32 31<| oV 33 .u32 32<|
 oR 34 (.bin .mul (t 33) (.const (.int .u32 16777216)))<| oM 35 1<| oM 36 7<| oR 37 (.bin .mul (oi 4) (t 36))<| oC 38 .add 37 1<| oI 39 1 35 38<| oL 40 39<| oV 41 .u32 40<|
 oR 42 (.bin .mul (t 41) (.const (.int .u32 65536)))<| oB 43 .add 34 42<| oM 44 1<| oM 45 7<| oR 46 (.bin .mul (oi 4) (t 45))<| oC 47 .add 46 2<| oI 48 1 44 47<| oL 49 48<|
 oV 50 .u32 49<| oR 51 (.bin .mul (t 50) (.const (.int .u32 256)))<| oB 52 .add 43 51<| oM 53 1<| oM 54 7<| oR 55 (.bin .mul (oi 4) (t 54))<| oC 56 .add 55 3<|
 oI 57 1 53 56<| oL 58 57<| oV 59 .u32 58<| oB 60 .add 52 59<| oR 61 (.indexArr 1 64 (t 5) (t 27))<| .nil) <|oS 61 60<| .nil)) (.reg false <| oM 25 7<| oC 26 .add 25 1<|
 oM 7 26<| .nil)))))) (.seq (.seq (.reg false <| oO 8 16<| .nil) (.block 2 (.loop (.seq (.seq (.reg false <| oM 62 8<| oC 63 .lss 62 64<| .nil)
 (.cond (t 63) .skip (.exit 2))) (.seq (.block 3 (.seq (.reg false <| oM 66 8<| oC 67 .sub 66 15<| oR 68 (.indexArr 1 64 (t 5) (t 67))<| oL 69 68<|
 oR 70 (.pcall 176 Go.Proofs.YteggaepppahefaaGreat.qRotU [(t 69), (.const (.int .u64 7))])<| oM 9 70<| .nil) (.seq (.reg false <| oM 71 8<| oC 72 .sub 71 15<|
 oR 73 (.indexArr 1 64 (t 5) (t 72))<| oL 74 73<| oR 75 (.pcall 176 Go.Proofs.YteggaepppahefaaGreat.qRotU [(t 74), (.const (.int .u64 18))])<| oM 10 75<| .nil)
 (.seq (.reg false <| oM 76 8<| oC 77 .sub 76 2<| oR 78 (.indexArr 1 64 (t 5) (t 77))<| oL 79 78<|
 oR 80 (.pcall 176 Go.Proofs.YteggaepppahefaaGreat.qRotU [(t 79), (.const (.int .u64 17))])<| oM 11 80<| .nil) (.seq (.reg false <| oM 81 8<| oC 82 .sub 81 2<|
 oR 83 (.indexArr 1 64 (t 5) (t 82))<| oL 84 83<| oR 85 (.pcall 176 Go.Proofs.YteggaepppahefaaGreat.qRotU [(t 84), (.const (.int .u64 19))])<| oM 12 85<| .nil)
 (.reg true <| .join (oM 86 8<| oM 87 8<| oC 88 .sub 87 16<| oR 89 (.indexArr 1 64 (t 5) (t 88))<| oL 90 89<| oM 91 9<| oM 92 10<| oB 93 .xor 91 92<| oM 94 8<|
 oC 95 .sub 94 15<| oR 96 (.indexArr 1 64 (t 5) (t 95))<| oL 97 96<| oR 98 (.bin .shr (t 97) (.const (.int .u64 3)))<| oB 99 .xor 93 98<| oB 100 .add 90 99<| oM 101 8<|
 oC 102 .sub 101 7<| oR 103 (.indexArr 1 64 (t 5) (t 102))<| oL 104 103<| oB 105 .add 100 104<| oM 106 11<| oM 107 12<| oB 108 .xor 106 107<| oM 109 8<| oC 110 .sub 109 2<|
 oR 111 (.indexArr 1 64 (t 5) (t 110))<| oL 112 111<| oR 113 (.bin .shr (t 112) (.const (.int .u64 10)))<| oB 114 .xor 108 113<| oB 115 .add 105 114<|
 oR 116 (.indexArr 1 64 (t 5) (t 86))<| .nil) <|oS 116 115<| .nil)))))) (.reg false <| oM 64 8<| oC 65 .add 64 1<| oM 8 65<| .nil)))))) (.seq (.reg false <| oK 117 8 2<|
 oR 13 (.alloc 174 [(.int .u32 0), (.int .u32 0), (.int .u32 0), (.int .u32 0), (.int .u32 0), (.int .u32 0), (.int .u32 0), (.int .u32 0)])<| oU 8 13 117<| .nil)
 (.seq (.seq (.reg false <| oO 14 0<| .nil) (.block 4 (.loop (.seq (.seq (.reg false <| oM 118 14<| oC 119 .lss 118 64<| .nil) (.cond (t 119) .skip (.exit 4)))
 (.seq (.block 5 (.seq (.reg false <| oR 122 (.indexArr 1 8 (t 13) (oi 4))<| oL 123 122<|
 oR 124 (.pcall 176 Go.Proofs.YteggaepppahefaaGreat.qRotU [(t 123), (.const (.int .u64 6))])<| oM 15 124<| .nil) (.seq (.reg false <| oR 125 (.indexArr 1 8 (t 13) (oi 4))<|
 oL 126 125<| oR 127 (.pcall 176 Go.Proofs.YteggaepppahefaaGreat.qRotU [(t 126), (.const (.int .u64 11))])<| oM 16 127<| .nil) (.seq (.reg false <|
 oR 128 (.indexArr 1 8 (t 13) (oi 4))<| oL 129 128<| oR 130 (.pcall 176 Go.Proofs.YteggaepppahefaaGreat.qRotU [(t 129), (.const (.int .u64 25))])<| oM 17 130<| .nil)
 (.seq (.reg true <| oR 131 (.indexArr 1 8 (t 13) (oi 7))<| oL 132 131<| oM 133 15<| oM 134 16<| oB 135 .xor 133 134<| oM 136 17<| oB 137 .xor 135 136<|
 oB 138 .add 132 137<| oR 139 (.indexArr 1 8 (t 13) (oi 4))<| oL 140 139<| oR 141 (.indexArr 1 8 (t 13) (oi 5))<| oL 142 141<| oB 143 .and 140 142<|
 oR 144 (.indexArr 1 8 (t 13) (oi 4))<| oL 145 144<| oR 146 (.unNeg true (t 145))<| oR 147 (.indexArr 1 8 (t 13) (oi 6))<| oL 148 147<| oB 149 .and 146 148<|
 oB 150 .xor 143 149<| oB 151 .add 138 150<| oM 152 14<| oR 153 (.indexArr 1 64 (t 6) (t 152))<| oL 154 153<| oB 155 .add 151 154<| oM 156 14<|
 oR 157 (.indexArr 1 64 (t 5) (t 156))<| oL 158 157<| oB 159 .add 155 158<| oM 18 159<| .nil) (.seq (.reg false <| oR 160 (.indexArr 1 8 (t 13) (oi 0))<| oL 161 160<|
 oR 162 (.pcall 176 Go.Proofs.YteggaepppahefaaGreat.qRotU [(t 161), (.const (.int .u64 2))])<| oM 15 162<| .nil) (.seq (.reg false <| oR 163 (.indexArr 1 8 (t 13) (oi 0))<|
 oL 164 163<| oR 165 (.pcall 176 Go.Proofs.YteggaepppahefaaGreat.qRotU [(t 164), (.const (.int .u64 13))])<| oM 16 165<| .nil) (.seq (.reg false <|
 oR 166 (.indexArr 1 8 (t 13) (oi 0))<| oL 167 166<| oR 168 (.pcall 176 Go.Proofs.YteggaepppahefaaGreat.qRotU [(t 167), (.const (.int .u64 22))])<| oM 17 168<| .nil)
 (.seq (.reg false <| oM 169 15<| oM 170 16<| oB 171 .xor 169 170<| oM 172 17<| oB 173 .xor 171 172<| oR 174 (.indexArr 1 8 (t 13) (oi 0))<| oL 175 174<|
 oR 176 (.indexArr 1 8 (t 13) (oi 1))<| oL 177 176<| oB 178 .and 175 177<| oR 179 (.indexArr 1 8 (t 13) (oi 0))<| oL 180 179<| oR 181 (.indexArr 1 8 (t 13) (oi 2))<|
 oL 182 181<| oB 183 .and 180 182<| oB 184 .xor 178 183<| oR 185 (.indexArr 1 8 (t 13) (oi 1))<| oL 186 185<| oR 187 (.indexArr 1 8 (t 13) (oi 2))<| oL 188 187<|
 oB 189 .and 186 188<| oB 190 .xor 184 189<| oB 191 .add 173 190<| oM 19 191<| .nil) (.seq (.seq (.reg false <| oO 20 7<| .nil) (.block 6 (.loop (.seq (.seq (.reg false <|
 oM 192 20<| oC 193 .gtr 192 0<| .nil) (.cond (t 193) .skip (.exit 6))) (.seq (.block 7 (.reg false <| oM 196 20<| oM 197 20<| oC 198 .sub 197 1<|
 oR 199 (.indexArr 1 8 (t 13) (t 198))<| oL 200 199<| oR 201 (.indexArr 1 8 (t 13) (t 196))<| oS 201 200<| .nil)) (.reg false <| oM 194 20<| oC 195 .sub 194 1<|
 oM 20 195<| .nil)))))) (.seq (.reg false <| oR 202 (.indexArr 1 8 (t 13) (oi 4))<| oL 203 202<| oM 204 18<| oB 205 .add 203 204<| oR 206 (.indexArr 1 8 (t 13) (oi 4))<|
 oS 206 205<| .nil) (.reg false <| oM 207 18<| oM 208 19<| oB 209 .add 207 208<| oR 210 (.indexArr 1 8 (t 13) (oi 0))<| oS 210 209<| .nil)))))))))))) (.reg false <|
 oM 120 14<| oC 121 .add 120 1<| oM 14 121<| .nil)))))) (.seq (.seq (.reg false <| oO 21 0<| .nil) (.block 8 (.loop (.seq (.seq (.reg false <| oM 211 21<|
 oC 212 .lss 211 8<| .nil) (.cond (t 212) .skip (.exit 8))) (.seq (.block 9 (.reg true <| .join (oM 215 21<| oM 216 21<| oR 217 (.indexArr 1 8 (t 13) (t 216))<|
 oL 218 217<| oM 219 21<| oR 220 (.indexArr 1 8 (t 2) (t 219))<| oL 221 220<| oB 222 .add 218 221<| oR 223 (.indexArr 1 8 (t 13) (t 215))<| .nil) <|oS 223 222<| .nil))
 (.reg false <| oM 213 21<| oC 214 .add 213 1<| oM 21 214<| .nil)))))) (.seq (.reg false <| oK 224 8 13<| oU 8 4 224<| .nil) .ret)))))))))
theorem s_kedgeref04_block : CS 225 k_kedgeref04_block [.cellN 8 4] F.kedgeref04_block :=
  cs Tryz.func165 (by kernel_rfl) (by kernel_rfl)
noncomputable def k_amount_Add : KC :=
(.seq (.reg false <| oO 4 0<| oO 5 0<| .nil) (.seq (.seq (.reg false <| oM 6 0<| oR 7 (.pcall 72 Go.Proofs.YteggaepppahefaaGreat.qGood [(t 6)])<| oT 8 7<| oM 9 8<|
 oG 10 9 false (.move (t 1))<| oG 11 9 false (.pcall 72 Go.Proofs.YteggaepppahefaaGreat.qGood [(t 10)])<| oG 12 9 false (.not (t 11))<|
 oR 13 (.pick (t 9) (.const (.bool true)) (t 12))<| oM 14 13<| oG 15 14 false (.move (t 0))<| oG 16 14 false (.move (t 1))<| oG 17 14 false (.bin .add (t 15) (t 16))<|
 oG 18 14 false (.pcall 72 Go.Proofs.YteggaepppahefaaGreat.qGood [(t 17)])<| oG 19 14 false (.not (t 18))<| oR 20 (.pick (t 14) (.const (.bool true)) (t 19))<| .nil)
 (.cond (t 20) (.seq (.reg false <| oO 4 0<| oO 5 3<| .nil) .ret) .skip)) (.seq (.reg false <| oM 21 0<| oM 22 1<| oB 23 .add 21 22<| oM 4 23<| oO 5 0<| .nil) .ret)))
theorem s_amount_Add : CS 24 k_amount_Add [.tmp 4, .tmp 5] F.amount_Add :=
  cs Tryz.func170 (by kernel_rfl) (by kernel_rfl)
noncomputable def k_slices_IndexFunc_L_api_Out_api_Out : KC :=
(.seq (.reg false <| oO 4 0<| .nil) (.seq (.seq (.reg false <| oM 6 0<| oD 7 6<| oO 8 0<| .nil) (.block 0 (.loop (.seq (.reg false <| oB 9 .lss 8 7<| .nil)
 (.seq (.cond (t 9) .skip (.exit 0)) (.seq (.block 1 (.seq (.reg false <| oM 10 8<| oM 5 10<| .nil) (.seq (.reg false <| oM 11 1<| oM 12 0<| oM 13 5<| oI 14 2 12 13<|
 oK 15 2 14<| oR 16 (.callV (t 11) [(t 15)])<| .nil) (.cond (t 16) (.seq (.reg false <| oM 17 5<| oM 4 17<| .nil) .ret) .skip)))) (.reg false <| oC 18 .add 8 1<|
 oM 8 18<| .nil))))))) (.seq (.reg false <| oO 4 (-1)<| .nil) .ret)))
theorem s_slices_IndexFunc_L_api_Out_api_Out : CS 19 k_slices_IndexFunc_L_api_Out_api_Out [.tmp 4] F.slices_IndexFunc_L_api_Out_api_Out :=
  cs Tryz.func171 (by kernel_rfl) (by kernel_rfl)
noncomputable def k_slices_Contains_L_int_int : KC :=
(.seq (.reg false <| oR 4 (.move (.const (.bool false)))<| .nil) (.seq (.reg false <| oM 5 0<| oM 6 1<| oR 7 (ob 180 5 6)<| oC 8 .geq 7 0<| oM 4 8<| .nil) .ret))
theorem s_slices_Contains_L_int_int : CS 9 k_slices_Contains_L_int_int [.tmp 4] F.slices_Contains_L_int_int :=
  cs Tryz.func173 (by kernel_rfl) (by kernel_rfl)
end Go.Proofs.YteggaepppahefaaGreat
end
