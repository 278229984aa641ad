/- A part of this claim's proof. -/
import Derived.Test.YtonhfgjofgbcdaaRws38
import Derived.Test.YtonhfgjofgbcdaaRws21
import Derived.Deep.Slices
set_option linter.unusedSimpArgs false
set_option linter.unusedVariables false
set_option maxRecDepth 20000
namespace Go.Proofs.Ytonhfgjofgbcdaa.Op
open Go Go.Conc Go.RowKit Go.ChangeShapes Go.WideShapes Jay St Rp
section
variable {H : Type} {enc : TypeId × Value -> H} {P : Program} {w : World} {base : Nat} {spare : Nat -> Bool} {held : Bool}
theorem zhb {t : TypeId} {l : List (TypeId × Nat)} {n : Nat} {cs : List Value} {x : DataW H × List MemPlace} (hs : shape P t = some l) (h : DataW.trod enc P w base spare held n t cs = some x) :
  cs.length = P.cellsOf t /\ ∀ ty o,(ty,o) ∈ l -> ∃ n' x',DataW.trod enc P w base spare held n' ty ((cs.drop o).take (P.cellsOf ty)) = some x':=by
 obtain ⟨fs,hu,rfl⟩:=zmp hs
 obtain ⟨xs,n',_,_,hlen,hxl,hat⟩:=DataW.trod_struct hu h
 refine ⟨hlen,fun ty o hl=>?_⟩
 rw [List.mem_map] at hl
 obtain ⟨f,hmem,he⟩:=hl
 obtain ⟨i,hi,rfl⟩:=List.getElem_of_mem hmem
 simp only [Prod.mk.injEq] at he
 have hi' : i < fs.size:=by simpa using hi
 have hg:=hat i (fs.toList[i]) (by simp [hi'])
 rw [he.1,he.2] at hg
 have hx : xs[i]? = some (xs[i]'(by omega)):=List.getElem?_eq_getElem (by omega)
 exact ⟨n',_,hg.trans hx⟩
theorem list_of {α : Type} {n : Nat} {p : Nat -> α -> Prop} (h : ∀ i,i < n -> ∃ y,p i y) : ∃ l : List α,l.length = n /\ ∀ i (hi : i < l.length),p i l[i]:=by
 refine ⟨List.ofFn fun i : Fin n=>Classical.choose (h i.1 i.2),List.length_ofFn,fun i hi=>?_⟩
 rw [List.getElem_ofFn]
 exact Classical.choose_spec (h i (by simpa using hi))
end
section
variable {H : Type} {enc : TypeId × Value -> H} {w : World} {base : Nat} {spare : Nat -> Bool} {held : Bool} {r : Reach} {b0 : Nat} {v : Value} {d : DataW H} {p : List MemPlace}
theorem shape_cfg : shape Try.prog 36 = some [(3,0),(3,1),(3,2),(3,3)]:=by kernel_rfl
theorem size_cfg : Try.prog.cellsOf 36 = 4:=by kernel_rfl
theorem und_bool : Try.prog.underlying 4 = some .bool:=by kernel_rfl
theorem open_cfg (hv : Value.okWide Try.prog w r b0 36 v) (h : DataW.Trod enc Try.prog w base spare held 36 v d p) : ∃ k K T M,v = cfg k K T M:=by
 obtain ⟨cs,rfl,hsz,hat⟩:=open_struct shape_cfg hv h
 rw [size_cfg] at hsz
 obtain ⟨l⟩:=cs
 match l,hsz with
 | [c0,c1,c2,c3],_=>
  obtain ⟨_,_,k0⟩:=hat _ _ c0 (.head _) zio rfl
  obtain ⟨_,_,k1⟩:=hat _ _ c1 (.tail _ (.head _)) zio rfl
  obtain ⟨_,_,k2⟩:=hat _ _ c2 (.tail _ (.tail _ (.head _))) zio rfl
  obtain ⟨_,_,k3⟩:=hat _ _ c3 (.tail _ (.tail _ (.tail _ (.head _)))) zio rfl
  obtain ⟨z0,rfl,_⟩:=zbg zfz k0
  obtain ⟨z1,rfl,_⟩:=zbg zfz k1
  obtain ⟨z2,rfl,_⟩:=zbg zfz k2
  obtain ⟨z3,rfl,_⟩:=zbg zfz k3
  exact ⟨z0,z1,z2,z3,rfl⟩
theorem acc_of_trod {n : Nat} {cs : List Value} {x : DataW H × List MemPlace} (h : DataW.trod enc Try.prog w base spare held n 27 cs = some x) :
  ∃ a0 a1 a2 a3 a4 : Int,cs = [.int .i64 a0,.int .i64 a1,.int .i64 a2,.int .u64 a3,.int .u64 a4]:=by
 obtain ⟨hlen,hat⟩:=zhb shape_acc h
 rw [size_acc] at hlen
 match cs,hlen with
 | [c0,c1,c2,c3,c4],_=>
  obtain ⟨_,_,k0⟩:=hat _ _ (.head _)
  obtain ⟨_,_,k1⟩:=hat _ _ (.tail _ (.head _))
  obtain ⟨_,_,k2⟩:=hat _ _ (.tail _ (.tail _ (.head _)))
  obtain ⟨_,_,k3⟩:=hat _ _ (.tail _ (.tail _ (.tail _ (.head _))))
  obtain ⟨_,_,k4⟩:=hat _ _ (.tail _ (.tail _ (.tail _ (.tail _ (.head _)))))
  rw [zio] at k0 k1 k2
  rw [one_u64] at k3 k4
  obtain ⟨z0,rfl,_⟩:=zbg zfz k0
  obtain ⟨z1,rfl,_⟩:=zbg zfz k1
  obtain ⟨z2,rfl,_⟩:=zbg zfz k2
  obtain ⟨z3,rfl,_⟩:=zbg und_u64 k3
  obtain ⟨z4,rfl,_⟩:=zbg und_u64 k4
  exact ⟨z0,z1,z2,z3,z4,rfl⟩
end
end Go.Proofs.Ytonhfgjofgbcdaa.Op
