/- A part of this claim's proof. -/
import Derived.Test.YtonhfgjofgbcdaaRws39
import Derived.Test.YtonhfgjofgbcdaaRws29
import Derived.SizedLaws
set_option linter.unusedSimpArgs false
set_option linter.unusedVariables false
set_option maxRecDepth 20000
namespace Go.Proofs.Ytonhfgjofgbcdaa.Op
open Go Go.Conc Go.RowKit Go.ChangeShapes Go.WideShapes Jay St Rp Dr
section
variable {H : Type} {enc : TypeId × Value -> H} {P : Program} {w : World} {base : Nat} {held : Bool}
theorem zmk {α : Type} {f : α -> List Value} {t e : TypeId} {sz n : Nat} {c : Value} {x : DataW H × List MemPlace} (ht : P.underlying t = some (.slice e)) (hsz : P.cellsOf e = sz) (hpos : 0 < sz) (hf : ∀ y,(f y).length = sz) (hel : ∀ n cs y,DataW.trod enc P w base (fun _=>true) held n e cs = some y -> ∃ a : α,cs = f a)
  (h : DataW.trod enc P w base (fun _=>true) held n t [c] = some x) : ∃ l : List α,Sl w w.heap.size sz c l.length (l.flatMap f) /\ (c.oneCell' = true /\ ∀ B,(∀ n ∈ x.1.weights P t,n <= B) -> l.length * P.bytesOf e <= B):=by
 rcases Go.Deep.open_slice ht h with ⟨e1,_⟩ | ⟨a,len,cap,m,n',D,Pl,e1,hb,hl,hm,hmm,hx,hat⟩
 ·obtain rfl : c = .slice none 0 0:=by simpa using e1
  exact ⟨[],Sl.nil _ _ _,rfl,fun B _=>by simp⟩
 ·obtain rfl : c = .slice (some a) len cap:=by simpa using e1
  simp only [if_true] at hmm
  have each : ∀ i,i < len -> ∃ y : α,w.cells? base (a.add (i * sz)) sz = some (f y):=fun i hi=>by
   obtain ⟨cs',hc,ht'⟩:=hat i (by omega)
   rw [hsz] at hc
   obtain ⟨y,rfl⟩:=hel _ _ _ ht'
   exact ⟨y,hc⟩
  obtain ⟨l,hlen,hla⟩:=list_of each
  refine ⟨l,⟨zde hf l,some a,cap,by rw [hlen],by omega,hm,fun hn=>?_⟩,rfl,fun B hB=>?_⟩
  ·have hf0 : 0 < (f l[0]).length:=by rw [hf]; exact hpos
   have c0:=(World.cells?_some (hla 0 hn)).2.2 0 hpos
   have c0' : w.cell? ((a.add (0 * sz)).add 0) = some ((f l[0])[0]):=c0.trans (List.getElem?_eq_getElem hf0)
   have hsp:=World.cell?_spot c0'
   have hblk:=World.block_lt_of_cell? w _ c0'
   obtain ⟨b,o,sp⟩:=a
   have : sp = none:=by simpa [Addr.add] using hsp
   subst this
   refine ⟨b,o,rfl,by simpa [Addr.add] using hblk,fun j u hu=>?_⟩
   have hj : j < l.length * sz:=by rw [<- zde hf l]; exact (List.getElem?_eq_some_iff.1 hu).1
   have hi : j / sz < l.length:=Nat.div_lt_of_lt_mul (by rw [Nat.mul_comm]; exact hj)
   have hje : j / sz * sz + j % sz = j:=by rw [Nat.mul_comm]; exact Nat.div_add_mod j sz
   have hjm : j % sz < sz:=Nat.mod_lt _ hpos
   have hu':=zls hf l (j / sz) (j % sz) hi hjm
   rw [hje,hu] at hu'
   have hlt : j % sz < (f l[j / sz]).length:=by rw [hf]; exact hjm
   have hc:=(World.cells?_some (hla (j / sz) hi)).2.2 (j % sz) hjm
   rw [Go.Deep.add_add,hje,<- hu'] at hc
   rw [<- hc]
   unfold Addr.add
   by_cases h0 : j = 0
   ·subst h0; simp
   ·simp [h0]
  ·rw [hx] at hB
   have:=hB ((len + (m - len)) * P.bytesOf e) (by simp [DataW.weights,ht])
   rw [hlen]
   exact Nat.le_trans (Nat.mul_le_mul_right _ (by omega)) this
theorem zh1 {e : TypeId} {n : Nat} {d : DataW H} : ∀ {ds : List (DataW H)},d ∈ ds -> n ∈ d.weights P e -> n ∈ DataW.weightsAll P e ds
 | [],h,_=>by cases h
 | x :: ds,h,hn=>by
  simp only [DataW.weightsAll,List.mem_append]
  rcases List.mem_cons.1 h with rfl | h
  ·exact .inl hn
  ·exact .inr (zh1 h hn)
end
section
variable {H : Type} {enc : TypeId × Value -> H} {w : World} {base : Nat} {held : Bool}
theorem shape_pick : shape Try.prog 61 = some [(3,0),(59,1)]:=by kernel_rfl
theorem size_pick : Try.prog.cellsOf 61 = 2:=by kernel_rfl
theorem und_u32 : Try.prog.underlying 59 = some (.int .u32):=by kernel_rfl
theorem one_u32 : Try.prog.cellsOf 59 = 1:=by kernel_rfl
theorem und_picks : Try.prog.underlying 48 = some (.slice 61):=by kernel_rfl
theorem und_accs : Try.prog.underlying 49 = some (.slice 27):=by kernel_rfl
theorem und_lls : Try.prog.underlying 47 = some (.slice 49):=by kernel_rfl
theorem one_accs : Try.prog.cellsOf 49 = 1:=by kernel_rfl
theorem bytes_acc : Try.prog.bytesOf 27 = 40:=by kernel_rfl
theorem bytes_accs : Try.prog.bytesOf 49 = 24:=by kernel_rfl
theorem pick_of_trod {n : Nat} {cs : List Value} {x : DataW H × List MemPlace} (h : DataW.trod enc Try.prog w base (fun _=>true) held n 61 cs = some x) : ∃ a : Int × Int,cs = pkC a:=by
 obtain ⟨hlen,hat⟩:=zhb shape_pick h
 rw [size_pick] at hlen
 match cs,hlen with
 | [c0,c1],_=>
  obtain ⟨_,_,k0⟩:=hat _ _ (.head _)
  obtain ⟨_,_,k1⟩:=hat _ _ (.tail _ (.head _))
  rw [zio] at k0
  rw [one_u32] at k1
  obtain ⟨z0,rfl,_⟩:=zbg zfz k0
  obtain ⟨z1,rfl,_⟩:=zbg und_u32 k1
  exact ⟨(z0,z1),rfl⟩
theorem pks_of_trod {n : Nat} {c : Value} {x : DataW H × List MemPlace} (h : DataW.trod enc Try.prog w base (fun _=>true) held n 48 [c] = some x) : ∃ l : List (Int × Int),Sl w w.heap.size 2 c l.length (l.flatMap pkC):=by
 obtain ⟨l,hl,_⟩:=zmk und_picks size_pick (by decide) zo2 (fun n cs y h=>pick_of_trod h) h
 exact ⟨l,hl⟩
theorem acs_of_trod {n : Nat} {c : Value} {x : DataW H × List MemPlace} (h : DataW.trod enc Try.prog w base (fun _=>true) held n 49 [c] = some x) : ∃ l : List Ac,Acs w w.heap.size c l /\ ∀ B,(∀ n ∈ x.1.weights Try.prog 49,n <= B) -> l.length * 40 <= B:=by
 obtain ⟨l,hl,_,hB⟩:=zmk und_accs size_acc (by decide) Ac.len (fun n cs y h=>by
  obtain ⟨a0,a1,a2,a3,a4,e⟩:=acc_of_trod h
  exact ⟨⟨a0,a1,a2,a3,a4⟩,e⟩) h
 rw [bytes_acc] at hB
 exact ⟨l,hl,hB⟩
theorem lls_of_trod {n : Nat} {c : Value} {x : DataW H × List MemPlace} (h : DataW.trod enc Try.prog w base (fun _=>true) held n 47 [c] = some x) : ∃ l : List (List Ac),Lls w w.heap.size c l /\ ∀ B,(∀ n ∈ x.1.weights Try.prog 47,n <= B) -> l.length * 24 <= B /\ ∀ xs ∈ l,xs.length * 40 <= B:=by
 rcases Go.Deep.open_slice1 und_lls one_accs h with ⟨e1,_⟩ | ⟨a,len,cap,m,n',V,D,Pl,e1,hb,hl,hm,hmm,hx,hat⟩
 ·obtain rfl : c = .slice none 0 0:=by simpa using e1
  exact ⟨[],⟨[],rfl,Sl.nil _ _ _,fun i u hu=>by cases hu⟩,fun B _=>⟨by simp,fun xs hx=>by cases hx⟩⟩
 ·obtain rfl : c = .slice (some a) len cap:=by simpa using e1
  simp only [if_true] at hmm
  have each : ∀ i,i < len -> ∃ l : List Ac,Acs w w.heap.size (V i) l /\ ∀ B,(∀ n ∈ (D i).weights Try.prog 49,n <= B) -> l.length * 40 <= B:=fun i hi=>acs_of_trod (hat i (by omega)).2
  obtain ⟨l,hlen,hla⟩:=list_of each
  refine ⟨l,⟨(List.range len).map V,by simp [hlen],⟨by simp [hlen],some a,cap,by rw [hlen],by omega,hm,fun hn=>?_⟩,fun i u hu=>?_⟩,fun B hB=>?_⟩
  ·have c0:=(hat 0 (by omega)).1
   have hsp:=World.cell?_spot c0
   have hblk:=World.block_lt_of_cell? w _ c0
   obtain ⟨b,o,sp⟩:=a
   have : sp = none:=by simpa [Addr.add] using hsp
   subst this
   refine ⟨b,o,rfl,by simpa [Addr.add] using hblk,fun j u hu=>?_⟩
   have hj : j < len:=by have:=(List.getElem?_eq_some_iff.1 hu).1; simpa using this
   have hu' : V j = u:=by simpa [hj] using hu
   have:=(hat j (by omega)).1
   rw [hu'] at this
   rw [<- this]
   unfold Addr.add
   by_cases h0 : j = 0
   ·subst h0; simp
   ·simp [h0]
  ·have hi : i < len:=by have:=(List.getElem?_eq_some_iff.1 hu).1; simpa using this
   have hu' : V i = u:=by simpa [hi] using hu
   have hil : i < l.length:=by omega
   refine ⟨l[i],List.getElem?_eq_getElem hil,?_⟩
   rw [<- hu']
   exact (hla i hil).1
  ·rw [hx] at hB
   have hw : ∀ n,n ∈ DataW.weights Try.prog 47 (.slice ((List.range len).map D) ((List.range (m - len)).map fun j=>D (len + j))) ↔ n = (len + (m - len)) * 24 \/ n ∈ DataW.weightsAll Try.prog 49 ((List.range len).map D) \/ n ∈ DataW.weightsAll Try.prog 49 ((List.range (m - len)).map fun j=>D (len + j)):=fun n=>by
    simp [DataW.weights,und_lls,bytes_accs]
   refine ⟨?_,fun xs hxs=>?_⟩
   ·have:=hB _ ((hw _).2 (.inl rfl))
    rw [hlen]
    exact Nat.le_trans (Nat.mul_le_mul_right _ (by omega)) this
   ·obtain ⟨i,hi,rfl⟩:=List.getElem_of_mem hxs
    refine (hla i hi).2 B fun n hn=>hB n ((hw n).2 (.inr (.inl (zh1 ?_ hn))))
    exact List.mem_map.2 ⟨i,List.mem_range.2 (by omega),rfl⟩
end
end Go.Proofs.Ytonhfgjofgbcdaa.Op
