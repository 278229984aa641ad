/- A part of this claim's proof. -/
import Derived.Test.YtonhfgjofgbcdaaRws12
import Derived.Test.YtonhfgjofgbcdaaRws13
import Derived.Test.YtonhfgjofgbcdaaProg
import Derived.KernelRfl
set_option linter.unusedSimpArgs false
set_option linter.unusedVariables false
set_option maxRecDepth 20000
namespace Go.Proofs.Ytonhfgjofgbcdaa.Wd
open Go Go.Conc Go.RowKit Jay Pl
section
variable {γ : Type} {X : zad γ} {s : γ} {w : World}
attribute [local go_sem] upon_value upon_skip
theorem pack {h l : Int} (a : U32 h) (b : U32 l) : Jdo Try.prog X 37 #[.int .u32 h,.int .u32 l] s w fun s' r w'=>s' = s /\ w' = w /\ r = .back (.int .u64 (pk h l)):=by
 refine zar Try.func37 rfl ?_
 simp only [Try.ntmps37]
 refine wk8 ?_
 refine wk1 ?_
 refine za6 rfl rfl ⟨rfl,rfl,?_⟩
 simp [or_pk a b]
def seg (h : Int) : Int:=(h + 1) % 4294967296
theorem seg_u32 (h : Int) : U32 (seg h):=by unfold U32 seg; omega
theorem ref {r h : Int} (a : U32 r) : Jdo Try.prog X 26 #[.int .u32 r,.int .i64 h] s w fun s' x w'=>s' = s /\ w' = w /\ x = .back (.int .u64 (pk r (seg h))):=by
 have hs : IntKind.u32.wrap (IntKind.u32.wrap h + 1) = seg h:=by rw [u32_wrap,u32_wrap]; unfold seg; omega
 refine zar Try.func26 rfl ?_
 simp only [Try.ntmps26]
 refine wk8 ?_
 refine wk1 ?_
 refine zbf _ rfl ?_ ?_ Try.func37 ?_ rfl (pack a (seg_u32 h)) ?_
 focus rfl
 focus first | rfl | (go_simp; done) | (go_simp; rfl)
 focus rfl
 rintro s' x w' ⟨rfl,rfl,rfl⟩
 refine wk7 ?_
 refine wk1 ?_
 exact za6 rfl rfl ⟨rfl,rfl,rfl⟩
end
end Go.Proofs.Ytonhfgjofgbcdaa.Wd
