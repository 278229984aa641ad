/- A part of this claim's proof. -/
import Derived.Test.YtonhfgjofgbcdaaRws17
set_option linter.unusedSimpArgs false
set_option linter.unusedVariables false
set_option maxRecDepth 20000
namespace Go.Proofs.Ytonhfgjofgbcdaa.Rf
open Go Go.Conc Go.RowKit Jay Pl
open St Wd
section
variable {γ : Type} {X : zad γ} {s : γ} {w : World}
attribute [local go_sem] upon_value upon_skip
set_option maxHeartbeats 8000000 in
theorem rmay (k K T M : Int) : Jdo Try.prog X 16 #[cfg k K T M] s w fun s' r w'=>s' = s /\ Below w.heap.size w w' /\ r = .back (.bool (zea k K T M)):=by
 unfold cfg
 refine zar Try.func16 rfl ?_
 simp only [Try.ntmps16]
 refine wk8 ?_
 have hw : Below w.heap.size w (w.alloc (.cells #[.int .i64 k,.int .i64 K,.int .i64 T,.int .i64 M] 36)):=(Below.refl _ _).alloc (Nat.le_refl _) _
 by_cases h1 : 1 <= k
 case neg=>
  have q1 : decide (k >= 1) = false:=decide_eq_false h1
  refine wk2 ?_
  exact za6 rfl rfl ⟨rfl,hw,by simp [zea,inB,h1]⟩
 have q1 : decide (k >= 1) = true:=decide_eq_true h1
 by_cases h2 : k <= 3
 case neg=>
  have q2 : decide (k <= 3) = false:=decide_eq_false h2
  refine wk2 ?_
  exact za6 rfl rfl ⟨rfl,hw,by simp [zea,inB,h1,h2]⟩
 have q2 : decide (k <= 3) = true:=decide_eq_true h2
 by_cases h3 : 1 <= K
 case neg=>
  have q3 : decide (K >= 1) = false:=decide_eq_false h3
  refine wk2 ?_
  exact za6 rfl rfl ⟨rfl,hw,by simp [zea,inB,h1,h2,h3]⟩
 have q3 : decide (K >= 1) = true:=decide_eq_true h3
 by_cases h4 : K <= 64
 case neg=>
  have q4 : decide (K <= 64) = false:=decide_eq_false h4
  refine wk2 ?_
  exact za6 rfl rfl ⟨rfl,hw,by simp [zea,inB,h1,h2,h3,h4]⟩
 have q4 : decide (K <= 64) = true:=decide_eq_true h4
 by_cases h5 : 1 <= T
 case neg=>
  have q5 : decide (T >= 1) = false:=decide_eq_false h5
  refine wk2 ?_
  exact za6 rfl rfl ⟨rfl,hw,by simp [zea,inB,h1,h2,h3,h4,h5]⟩
 have q5 : decide (T >= 1) = true:=decide_eq_true h5
 by_cases h6 : T <= 8
 case neg=>
  have q6 : decide (T <= 8) = false:=decide_eq_false h6
  refine wk2 ?_
  exact za6 rfl rfl ⟨rfl,hw,by simp [zea,inB,h1,h2,h3,h4,h5,h6]⟩
 have q6 : decide (T <= 8) = true:=decide_eq_true h6
 by_cases h7 : 2 <= M
 case neg=>
  have q7 : decide (M >= 2) = false:=decide_eq_false h7
  refine wk2 ?_
  exact za6 rfl rfl ⟨rfl,hw,by simp [zea,inB,h1,h2,h3,h4,h5,h6,h7]⟩
 have q7 : decide (M >= 2) = true:=decide_eq_true h7
 by_cases h8 : M <= 64
 case neg=>
  have q8 : decide (M <= 64) = false:=decide_eq_false h8
  refine wk2 ?_
  exact za6 rfl rfl ⟨rfl,hw,by simp [zea,inB,h1,h2,h3,h4,h5,h6,h7,h8]⟩
 have q8 : decide (M <= 64) = true:=decide_eq_true h8
 refine wk2 ?_
 exact za6 rfl rfl ⟨rfl,hw,by simp [zea,inB,h1,h2,h3,h4,h5,h6,h7,h8]⟩
set_option maxHeartbeats 8000000 in
theorem rmore {x : Int} (h : U32 x) : Jdo Try.prog X 40 #[.int .u32 x] s w fun s' r w'=>s' = s /\ w' = w /\ r = .back (.int .u32 (more x)):=by
 obtain ⟨a,b⟩:=h
 have e0 : IntKind.u64.wrap x = x:=by simp [IntKind.wrap,IntKind.bits,IntKind.signed]; omega
 have e1 : IntKind.u64.wrap (x + 1) = x + 1:=by simp [IntKind.wrap,IntKind.bits,IntKind.signed]; omega
 have e2 : Int.tmod (x + 1) 4294967296 = more x:=by unfold more; rw [Int.tmod_eq_emod_of_nonneg (by omega)]
 have e3 : IntKind.u64.wrap (more x) = more x:=by unfold more; simp [IntKind.wrap,IntKind.bits,IntKind.signed]; omega
 have e4 : IntKind.u32.wrap (more x) = more x:=by unfold more; simp [IntKind.wrap,IntKind.bits,IntKind.signed]
 refine zar Try.func40 rfl ?_
 simp only [Try.ntmps40]
 refine wk8 ?_
 refine wk2 ?_
 exact za6 rfl rfl ⟨rfl,rfl,rfl⟩
theorem rpack {h l : Int} (a : U32 h) (b : U32 l) : Jdo Try.prog X 39 #[.int .u32 h,.int .u32 l] s w fun s' r w'=>s' = s /\ w' = w /\ r = .back (.int .u64 (pk h l)):=by
 obtain ⟨a1,a2⟩:=a
 obtain ⟨b1,b2⟩:=b
 have e0 : IntKind.u64.wrap h = h:=by simp [IntKind.wrap,IntKind.bits,IntKind.signed]; omega
 have e1 : IntKind.u64.wrap l = l:=by simp [IntKind.wrap,IntKind.bits,IntKind.signed]; omega
 have e2 : IntKind.u64.wrap (h * 4294967296) = h * 4294967296:=by simp [IntKind.wrap,IntKind.bits,IntKind.signed]; omega
 have e3 : IntKind.u64.wrap (h * 4294967296 + l) = pk h l:=by unfold pk; simp [IntKind.wrap,IntKind.bits,IntKind.signed]; omega
 refine zar Try.func39 rfl ?_
 simp only [Try.ntmps39]
 refine wk8 ?_
 refine wk2 ?_
 exact za6 rfl rfl ⟨rfl,rfl,rfl⟩
set_option maxHeartbeats 8000000 in
theorem rref {r h : Int} (a : U32 r) (h0 : 0 <= h) (h1 : h <= 1000) : Jdo Try.prog X 28 #[.int .u32 r,.int .i64 h] s w fun s' x w'=>s' = s /\ w' = w /\ x = .back (.int .u64 (pk r (seg h))):=by
 have e0 : Int.tmod h 4294967296 = h:=by rw [Int.tmod_eq_emod_of_nonneg h0]; omega
 have e1 : IntKind.i64.wrap h = h:=by simp [IntKind.wrap,IntKind.bits,IntKind.signed]; omega
 have e2 : IntKind.u32.wrap h = h:=by simp [IntKind.wrap,IntKind.bits,IntKind.signed]; omega
 have e3 : decide (h < 0) = false:=decide_eq_false (by omega)
 have e4 : more h = seg h:=rfl
 have hh : U32 h:=⟨h0,by omega⟩
 refine zar Try.func28 rfl ?_
 simp only [Try.ntmps28]
 refine wk8 ?_
 refine wk2 ?_
 refine zbf _ rfl ?_ ?_ Try.func40 ?_ rfl (rmore hh) ?_
 focus rfl
 focus first | rfl | (go_simp; done) | (go_simp; rfl)
 focus rfl
 rintro s' x w' ⟨rfl,rfl,rfl⟩
 refine wk7 ?_
 rw [e4]
 refine zbf _ rfl ?_ ?_ Try.func39 ?_ rfl (rpack a (seg_u32 h)) ?_
 focus rfl
 focus first | rfl | (go_simp; done) | (go_simp; rfl)
 focus rfl
 rintro s' x w' ⟨rfl,rfl,rfl⟩
 refine wk7 ?_
 refine wk2 ?_
 exact za6 rfl rfl ⟨rfl,rfl,rfl⟩
end
end Go.Proofs.Ytonhfgjofgbcdaa.Rf
namespace Go.Proofs.Ytonhfgjofgbcdaa.Lw
open Go Go.Conc Go.RowKit Jay Pl
open St Rf Wd
section
variable {γ : Type} {X : zad γ} {s : γ} {w : World}
attribute [local go_sem] upon_value upon_skip
theorem zc2 {w : World} {B : Nat} {m : Mem} {cs : Array Value} (h : zbb w B m cs) : ∀ u ∈ (Value.agg cs).cells.toList,u.oneCell' = true:=by
 obtain ⟨v2,v3,v6,v7,v8,rfl,h2,h3,h6,h7,h8⟩:=h
 obtain ⟨A2,c2,rfl,_⟩:=h2.form
 obtain ⟨A3,c3,rfl,_⟩:=h3.form
 obtain ⟨A6,c6,rfl,_⟩:=h6.form
 obtain ⟨A7,c7,rfl,_⟩:=h7.form
 obtain ⟨A8,c8,rfl,_⟩:=h8.form
 simp [Value.cells,Value.oneCell']
def mem1 : Mem:=⟨0,2,[0,0,0],[0],1,1,[0,0],[0,0],[0,0]⟩
theorem act2 : mem1.act 3 5 0 2 9 = (mem1,1,false):=by decide +kernel
end
end Go.Proofs.Ytonhfgjofgbcdaa.Lw
namespace Go.Proofs.Ytonhfgjofgbcdaa.St
open Go Go.Conc Go.RowKit Jay Pl
open Rf
theorem small_put {m : Mem} (h : m.small) (a : Int) (i : Nat) (x : Int) : (m.put a i x).small:=by
 unfold Mem.small at *
 unfold Mem.put
 repeat' split
 all_goals simpa using h
theorem zho {m : Mem} (h : m.small) (d ar at_ old new : Int) : (m.act d ar at_ old new).1.small:=by
 unfold Mem.act
 repeat' split
 all_goals first | exact h | exact small_put h _ _ _
end Go.Proofs.Ytonhfgjofgbcdaa.St
