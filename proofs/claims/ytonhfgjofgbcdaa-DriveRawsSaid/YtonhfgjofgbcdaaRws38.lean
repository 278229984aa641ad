/- A part of this claim's proof. -/
import Derived.Test.YtonhfgjofgbcdaaRws14
import Derived.Carry
import Derived.ChangeSlices
import Derived.WideShapes
set_option linter.unusedSimpArgs false
set_option linter.unusedVariables false
set_option maxRecDepth 20000
namespace Go.Proofs.Ytonhfgjofgbcdaa.Op
open Go Go.Conc Go.RowKit Go.ChangeShapes Go.WideShapes Jay St
def shape (P : Program) (t : TypeId) : Option (List (TypeId × Nat)):=match P.underlying t with | some (.struct fs)=>some (fs.toList.map fun f=>(f.type,f.offset)) | _=>none
theorem zmp {P : Program} {t : TypeId} {l : List (TypeId × Nat)} (h : shape P t = some l) : ∃ fs,P.underlying t = some (.struct fs) /\ l = fs.toList.map fun f=>(f.type,f.offset):=by
 unfold shape at h
 split at h
 ·exact ⟨_, ‹_›,(Option.some.inj h).symm⟩
 ·cases h
section
variable {H : Type} {enc : TypeId × Value -> H} {P : Program} {w : World} {base : Nat} {spare : Nat -> Bool} {held : Bool}
theorem open_struct {r : Reach} {b0 : Nat} {t : TypeId} {l : List (TypeId × Nat)} {v : Value} {d : DataW H} {p : List MemPlace} (hs : shape P t = some l) (hv : Value.okWide P w r b0 t v) (h : DataW.Trod enc P w base spare held t v d p) :
  ∃ cs : Array Value,v = .agg cs /\ cs.size = P.cellsOf t /\ ∀ ty o c,(ty,o) ∈ l -> P.cellsOf ty = 1 -> cs[o]? = some c -> ∃ n x,DataW.trod enc P w base spare held n ty [c] = some x:=by
 obtain ⟨fs,hu,rfl⟩:=zmp hs
 obtain ⟨cs,rfl,hsz⟩:=okWide_struct hu hv
 refine ⟨cs,rfl,hsz,fun ty o c hl h1 hc=>?_⟩
 obtain ⟨fuel,hf⟩:=h
 obtain ⟨xs,n,_,_,_,hxl,hat⟩:=DataW.trod_struct hu hf
 rw [List.mem_map] at hl
 obtain ⟨f,hmem,he⟩:=hl
 obtain ⟨i,hi,rfl⟩:=List.getElem_of_mem hmem
 simp only [Prod.mk.injEq] at he
 have hi' : i < fs.size:=by simpa using hi
 have hg:=hat i (fs.toList[i]) (by simp [hi'])
 rw [he.1,he.2,h1] at hg
 have hcl : (Value.agg cs).cells.toList = cs.toList:=rfl
 rw [hcl] at hg
 have ht : (cs.toList.drop o).take 1 = [c]:=by
  have hc' : cs.toList[o]? = some c:=by simpa using hc
  obtain ⟨ho,hoe⟩:=List.getElem?_eq_some_iff.1 hc'
  rw [List.drop_eq_getElem_cons ho,hoe]
  rfl
 rw [ht] at hg
 have hx : xs[i]? = some (xs[i]'(by omega)):=List.getElem?_eq_getElem (by omega)
 exact ⟨n,_,hg.trans hx⟩
theorem zbg {k : IntKind} {t : TypeId} {n : Nat} {c : Value} {x : DataW H × List MemPlace} (ht : P.underlying t = some (.int k)) (h : DataW.trod enc P w base spare held n t [c] = some x) : ∃ z,c = .int k z /\ (Lit.int k z).wf = true:=by
 obtain ⟨z,e,_,hw⟩:=DataW.trod_int ht h
 exact ⟨z,by simpa using e,hw⟩
end
section
variable {H : Type} {enc : TypeId × Value -> H} {w : World} {base : Nat} {held : Bool} {r : Reach} {b0 : Nat} {v : Value} {d : DataW H} {p : List MemPlace}
theorem shape_acc : shape Try.prog 27 = some [(3,0),(3,1),(3,2),(22,3),(22,4)]:=by kernel_rfl
theorem und_u64 : Try.prog.underlying 22 = some (.int .u64):=by kernel_rfl
theorem zfz : Try.prog.underlying 3 = some (.int .i64):=by kernel_rfl
theorem one_u64 : Try.prog.cellsOf 22 = 1:=by kernel_rfl
theorem zio : Try.prog.cellsOf 3 = 1:=by kernel_rfl
theorem size_acc : Try.prog.cellsOf 27 = 5:=by kernel_rfl
end
end Go.Proofs.Ytonhfgjofgbcdaa.Op
