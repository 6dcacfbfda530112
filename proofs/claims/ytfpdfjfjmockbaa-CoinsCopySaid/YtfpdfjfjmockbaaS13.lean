/- The walk of CoinsNil. -/
import Derived.Test.YtfpdfjfjmockbaaS10
import Derived.Test.YtfpdfjfjmockbaaL4
namespace Go.Proofs.Ytfpdfjfjmockbaa
open Go Go.K
attribute [local irreducible] regK codeK retK KOp.wp K.Spec

theorem nil_law (a : Act) (w0 : World) : K.Spec Try.prog F.kedgelaw10_CoinsNil [.agg a.cs.toArray] w0 fun r w' => r = .bool true ∧ Ext w0 w' := by
  refine s_kedgelaw10_CoinsNil rfl ?_
  unfold k_kedgelaw10_CoinsNil
  repeat' (first | refine st_both ?_ ?_ | (refine st_call rfl (point_spec a _) ?_; rintro _ _ ⟨⟨_, rfl⟩, _⟩) | (refine st_call rfl (coin_spec a _) ?_; rintro _ _ ⟨rfl, _⟩) | (refine st_call rfl (get_nil _ _) ?_; rintro _ _ ⟨rfl, _⟩) | (refine st_call rfl (take_nil _ _) ?_; rintro _ _ ⟨rfl, _⟩) | (refine st_call rfl (wakes_spec _) ?_; rintro _ _ ⟨rfl, _⟩) | (refine st_call rfl (put_nil _ _ _) ?_; rintro _ _ ⟨rfl, _⟩) | (refine st_call rfl (len_nil _) ?_; rintro _ _ ⟨rfl, _⟩) | (refine st_call rfl (total_nil _) ?_; rintro _ _ ⟨rfl, _⟩) | (refine st_call rfl (all_nil _) ?_; rintro _ _ ⟨rfl, _⟩) | (refine st_call rfl (copy_nil _) ?_; rintro _ _ ⟨rfl, _⟩) | (first | (refine st_move ?_; conv => arg 4; arg 3; whnf) | refine st_end ?_ | refine g_on rfl ?_ | refine g_off rfl ?_ | refine st_min rfl rfl ?_ | refine st_add rfl rfl (by omega) ?_ | refine st_sub rfl rfl (by omega) ?_ | (refine st_fix rfl rfl ?_; conv => arg 4; arg 3; whnf) | (((first | apply st_ld3 rfl | apply st_ld2 rfl | apply st_ld1 rfl | apply st_ld0 rfl | apply st_lN2 rfl | apply st_lN1 rfl | apply st_lN0 rfl); (focus (repeat (first | assumption | (apply Row.ext; assumption)))); (first | exact Nat.le_of_ble_eq_true rfl | rfl); (try rfl))) | refine c_sreg ?_ | refine c_sregd (fun _ _ => ?_) | refine c_reg ?_ | refine c_regd (fun _ _ => ?_) | refine c_seq ?_ | refine c_block ?_ | refine c_skip ?_ | refine c_ret ?_ | refine c_exit ?_ | refine x_then ?_ | refine x_then_ret ?_ | refine x_then_exit ?_ | refine x_block ?_ | refine x_block_ret ?_ | refine x_block_exit ?_ | refine x_block_other (by decide) ?_ | refine x_loop ?_ | refine x_loop_ret ?_ | refine x_loop_exit ?_ | refine c_true rfl ?_ | refine c_false rfl ?_) | refine st_box rfl rfl (fun _ _ _ _ _ _ => ?_) | refine st_local (fun _ => rfl) rfl rfl rfl (fun _ _ _ _ _ _ => ?_) | refine g_cases rfl (fun _ => ?_) (fun h => by simp [cn0] at h))
  all_goals exact x_ret rfl ⟨rfl, by repeat (first | assumption | exact Ext.refl _ | refine Ext.trans ?_ (by assumption))⟩
end Go.Proofs.Ytfpdfjfjmockbaa
