/- A part of this claim's proof. -/
import Derived.Test.YtonhfgjofgbcdaaRws4
import GoSem.Instr.Method
set_option linter.unusedSimpArgs false
set_option linter.unusedVariables false
set_option maxRecDepth 20000
namespace Go.Proofs.Ytonhfgjofgbcdaa.Jay
open Go Go.Conc
section
variable {P : Program} {γ : Type} {X : zad γ} {fn : FuncId} {Q : γ -> Exit -> Act -> World -> Prop} {s : γ} {a : Act} {w : World} {ops : Array Oper} {o : Oper} {rest : List Oper}
def zgb (P : Program) (t : TypeId) (name : String) : Option FuncId:=
 match P.info? t,P.underlying t with
 | some i,some (.pointer _)=>match i.methods.find? (·.name == name) with
  | some m=>if m.path.toList.isEmpty then (match m.func with | some (f,true)=>some f | _=>none) else none
  | none=>none
 | _,_=>none
theorem zh4 {t : TypeId} {name : String} {f : FuncId} (h : zgb P t name = some f) : ∃ i e m,P.info? t = some i /\ P.underlying t = some (.pointer e) /\ i.methods.find? (·.name == name) = some m /\ m.path.toList = [] /\ m.func = some (f,true):=by
 unfold zgb at h
 split at h
 ·rename_i i e hi hu
  split at h
  ·rename_i m hm
   split at h
   ·rename_i hp
    split at h
    ·rename_i f' hf
     obtain rfl:=Option.some.inj h
     exact ⟨i,e,m,hi,hu,hm,List.isEmpty_iff.1 hp,hf⟩
    ·cases h
   ·cases h
  ·cases h
 ·cases h
theorem run_method {t : TypeId} {name : String} {f : FuncId} (h : zgb P t name = some f) (n : Nat) (v : Value) (w : World) : (method (n + 1) t v name).run P w = .ok (f,v) w:=by
 obtain ⟨i,e,m,hi,hu,hm,hp,hf⟩:=zh4 h
 have hprog : ∀ w,(program : Sem Program).run P w = .ok P w:=fun _=>rfl
 simp [method,typeInfo,underlying,Sem.run_bind,hprog,Result.andThen,hi,hm,hp,hf,follow,receiverAt,Place.get,hu]
theorem only_method {W : Nat -> Prop} {α : Type} {t : TypeId} {name : String} {f : FuncId} (h : zgb P t name = some f) (n : Nat) (v : Value) {k : FuncId × Value -> Sem α} (hk : zax P W (k (f,v))) : zax P W (method (n + 1) t v name >>= k):=by
 obtain ⟨i,e,m,hi,hu,hm,hp,hf⟩:=zh4 h
 simpa [method,typeInfo,underlying,program,bind,Sem.bind,pure,zax,hi,hm,hp,hf,follow,receiverAt,Place.get,hu] using hk
end
end Go.Proofs.Ytonhfgjofgbcdaa.Jay
