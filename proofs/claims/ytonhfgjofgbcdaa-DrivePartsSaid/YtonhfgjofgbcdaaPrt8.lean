/- The texts Word of this claim's proof; what is proved stands in the last one. -/
import Derived.Test.YtonhfgjofgbcdaaPrt3
import Derived.Test.YtonhfgjofgbcdaaPrt5
import Derived.Test.YtonhfgjofgbcdaaProg
import Derived.KernelRfl
set_option linter.unusedSimpArgs false
set_option linter.unusedVariables false
namespace Go.Proofs.Ytonhfgjofgbcdaa.Wd
set_option linter.unusedSimpArgs false
set_option linter.unusedVariables false
set_option maxRecDepth 20000
open Go Go.Conc Go.RowKit Go.Proofs.Ytonhfgjofgbcdaa.Jay Go.Proofs.Ytonhfgjofgbcdaa.Pl
section
variable {γ : Type} {X : Turns γ} {s : γ} {w : World}
attribute [local go_sem] upon_value upon_skip
theorem pack {h l : Int} (a : U32 h) (b : U32 l) : Jdo Try.prog X 37 #[.int .u32 h,.int .u32 l] s w fun s' r w' => s' = s ∧ w' = w ∧ r = .back (.int .u64 (pk h l)) := by
  refine jdo_of Try.func37 rfl ?_
  simp only [Try.ntmps37,List.size_toArray,List.length_cons,List.length_nil,Nat.reduceAdd,Nat.reduceSub,Array.replicate_succ,Array.replicate_zero,List.push_toArray,List.append_toArray,List.nil_append,List.cons_append]
  repeat (first | (with_reducible apply lst_nil) | ((with_reducible refine lst_cons ?_ ?_ (fun K hK => ?_)); (focus rfl); (focus (intro ht; refine fine_none ?_ ht; (focus (first | (with_reducible apply only_idle); (focus decide) | (with_reducible apply only_turn); (focus rfl); (focus rfl); (focus kernel_rfl) | exact only_calc rfl rfl rfl)))); go_simp; refine hK _ _ _ ?_; clear hK K) | (with_reducible apply j_seq) | (with_reducible apply j_ret) | (with_reducible apply j_region_lit) | (with_reducible show Then _ _ _ _ _ _; simp only [Then]))
  refine body_ret1 rfl rfl ⟨rfl,rfl,?_⟩
  simp [or_pk a b]
def seg (h : Int) : Int := (h + 1) % 4294967296
theorem seg_u32 (h : Int) : U32 (seg h) := by unfold U32 seg; omega
theorem ref {r h : Int} (a : U32 r) : Jdo Try.prog X 26 #[.int .u32 r,.int .i64 h] s w fun s' x w' => s' = s ∧ w' = w ∧ x = .back (.int .u64 (pk r (seg h))) := by
  have hs : IntKind.u32.wrap (IntKind.u32.wrap h + 1) = seg h := by rw [u32_wrap,u32_wrap]; unfold seg; omega
  refine jdo_of Try.func26 rfl ?_
  simp only [Try.ntmps26,List.size_toArray,List.length_cons,List.length_nil,Nat.reduceAdd,Nat.reduceSub,Array.replicate_succ,Array.replicate_zero,List.push_toArray,List.append_toArray,List.nil_append,List.cons_append]
  repeat (first | (with_reducible apply lst_nil) | ((with_reducible refine lst_cons ?_ ?_ (fun K hK => ?_)); (focus rfl); (focus (intro ht; refine fine_none ?_ ht; (focus (first | (with_reducible apply only_idle); (focus decide) | (with_reducible apply only_turn); (focus rfl); (focus rfl); (focus kernel_rfl) | exact only_calc rfl rfl rfl)))); go_simp; refine hK _ _ _ ?_; clear hK K) | (with_reducible apply j_seq) | (with_reducible apply j_region_lit) | (with_reducible show Then _ _ _ _ _ _; simp only [Then]))
  refine lst_call _ rfl ?_ ?_ Try.func37 ?_ rfl (pack a (seg_u32 h)) ?_
  focus rfl
  focus first | rfl | (go_simp; done) | (go_simp; rfl)
  focus rfl
  rintro s' x w' ⟨rfl,rfl,rfl⟩
  simp only [Act.put,List.setIfInBounds_toArray,List.set_cons_zero,List.set_cons_succ]
  repeat (first | (with_reducible apply lst_nil) | ((with_reducible refine lst_cons ?_ ?_ (fun K hK => ?_)); (focus rfl); (focus (intro ht; refine fine_none ?_ ht; (focus ((with_reducible apply only_idle); (focus decide))))); go_simp; refine hK _ _ _ ?_; clear hK K) | (with_reducible apply j_ret) | (with_reducible show Then _ _ _ _ _ _; simp only [Then]))
  exact body_ret1 rfl rfl ⟨rfl,rfl,rfl⟩
end
end Go.Proofs.Ytonhfgjofgbcdaa.Wd
