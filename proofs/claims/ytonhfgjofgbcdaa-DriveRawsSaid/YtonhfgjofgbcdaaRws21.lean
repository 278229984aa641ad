/- A part of this claim's proof. -/
import Derived.Test.YtonhfgjofgbcdaaRws19
import Derived.Test.YtonhfgjofgbcdaaRws20
set_option linter.unusedSimpArgs false
set_option linter.unusedVariables false
set_option maxRecDepth 20000
namespace Go.Proofs.Ytonhfgjofgbcdaa.Rp
open Go Go.Conc Go.RowKit Jay Pl
open St Rf Wd Lw
section
variable {γ : Type} {X : zad γ} {s : γ} {w : World}
attribute [local go_sem] upon_value upon_skip
structure Sp where
 (th d ar at_ old new was : Int) (done : Bool)
def Sp.cells (x : Sp) : List Value:=[.int .i64 x.th,.int .i64 x.d,.int .i64 x.ar,.int .i64 x.at_,.int .u64 x.old,.int .u64 x.new,.int .u64 x.was,.bool x.done]
def Sps (w : World) (B : Nat) (v : Value) (l : List Sp) : Prop:=Sl w B 8 v l.length (l.flatMap Sp.cells)
theorem flat_get (l : List Sp) (i j : Nat) (hi : i < l.length) (hj : j < 8) : (l.flatMap Sp.cells)[i * 8 + j]? = (l[i].cells)[j]?:=by
 induction l generalizing i with
 | nil=>simp at hi
 | cons x l ih=>
  rw [List.flatMap_cons]
  have hx : x.cells.length = 8:=rfl
  cases i with
  | zero=>
   rw [Nat.zero_mul,Nat.zero_add,List.getElem?_append_left (by omega)]
   rfl
  | succ i=>
   rw [List.getElem?_append_right (by omega),hx,show (i + 1) * 8 + j - 8 = i * 8 + j by omega]
   exact ih i (by simpa using hi)
theorem Sps.at_ {w : World} {B : Nat} {v : Value} {l : List Sp} (h : Sps w B v l) (hn : 0 < l.length) : ∃ b o c,v = .slice (some ⟨b,o,none⟩) l.length c /\ b < B /\ l.length <= c /\ c <= maxLen /\
  ∀ i (hi : i < l.length) j u,(l[i].cells)[j]? = some u -> w.cell? ⟨b,o + (i * 8 + j),none⟩ = some u:=by
 obtain ⟨b,o,c,hv,hb,hc,hm,hat⟩:=Sl.row h hn
 refine ⟨b,o,c,hv,hb,hc,hm,fun i hi j u hu=>hat _ _ ?_⟩
 have hj : j < 8:=(List.getElem?_eq_some_iff.1 hu).1
 rw [flat_get l i j hi hj]
 exact hu
def replay : List Sp -> Mem -> Option Mem
 | [],m=>some m
 | x :: l,m=>if (m.act x.d x.ar x.at_ x.old x.new).2.1 = x.was /\ (m.act x.d x.ar x.at_ x.old x.new).2.2 = x.done then replay l (m.act x.d x.ar x.at_ x.old x.new).1 else none
def zeroM : Mem:=⟨0,0,[],[],0,0,[],[],[]⟩
def firstM (k K T M : Int) : Mem:=if zea k K T M = true then zj7 k K.toNat T.toNat M.toNat else zeroM
def whole (k K T M : Int) (l : List Sp) : Option Mem:=if zea k K T M = true then replay l (zj7 k K.toNat T.toNat M.toNat) else none
theorem zi7 (w : World) (B : Nat) : zbb w B zeroM #[.int .u64 0,.int .u64 0,.slice none 0 0,.slice none 0 0,.int .u64 0,.int .u64 0,.slice none 0 0,.slice none 0 0,.slice none 0 0]:=⟨_,_,_,_,_,rfl,Sl.nil _ _ _,Sl.nil _ _ _,Sl.nil _ _ _,Sl.nil _ _ _,Sl.nil _ _ _⟩
theorem off_zero (g : Nat) : Off g #[.int .u64 0,.int .u64 0,.slice none 0 0,.slice none 0 0,.int .u64 0,.int .u64 0,.slice none 0 0,.slice none 0 0,.slice none 0 0]:=zbd (zi7 { (default : World) with } 0) (Nat.zero_le _)
theorem mayB_nat {k K T M : Int} (h : zea k K T M = true) : K = (K.toNat : Int) /\ T = (T.toNat : Int) /\ M = (M.toNat : Int):=by
 simp [zea,inB] at h
 omega
theorem zkl (k K T M : Int) : (firstM k K T M).small:=by
 unfold firstM
 split
 ·rename_i h
  have h2 : 1 <= K /\ K <= 64 /\ 1 <= T /\ T <= 8 /\ 2 <= M /\ M <= 64:=by simp [zea,inB] at h; omega
  have hmk : M.toNat * K.toNat <= 64 * 64:=Nat.mul_le_mul (by omega) (by omega)
  unfold zj7 Mem.small
  repeat' split
  all_goals simp only [zs,List.length_replicate,lk_len]; omega
 ·exact ⟨by decide,by decide,by decide,by decide,by decide⟩
theorem new_any (k K T M : Int) : Jdo Try.prog X 13 #[cfg k K T M] s w fun s' r w'=>s' = s /\ Below w.heap.size w w' /\ ∃ cs,r = .back (.tuple #[.agg cs,.int .i64 (if zea k K T M = true then 0 else 1)]) /\ zbb w' w'.heap.size (firstM k K T M) cs /\ ∀ g,g < w.heap.size -> Off g cs:=by
 unfold firstM
 cases h : zea k K T M with
 | false=>exact (new_bad h).mono fun s' r w' ⟨h1,h2,h3⟩=>⟨h1,h2,_,h3,zi7 _ _,fun g _=>off_zero g⟩
 | true=>
  obtain ⟨e1,e2,e3⟩:=mayB_nat h
  rw [e1,e2,e3] at h ⊢
  simp only [Int.toNat_natCast]
  exact (new_ok2 h).mono fun s' r w' ⟨h1,h2,cs,h3,h4,h5⟩=>⟨h1,h2,cs,by rw [h3]; rfl,h4,h5⟩
end
end Go.Proofs.Ytonhfgjofgbcdaa.Rp
