/- A part of this claim's proof. -/
import Derived.Test.YtonhfgjofgbcdaaRws21
import Derived.Test.YtonhfgjofgbcdaaRws6
import Derived.Test.YtonhfgjofgbcdaaRws7
set_option linter.unusedSimpArgs false
set_option linter.unusedVariables false
set_option maxRecDepth 20000
namespace Go.Proofs.Ytonhfgjofgbcdaa.Dr
open Go Go.Conc Go.RowKit Jay Pl
open St
section
section
variable {γ : Type} {X : zad γ} {s : γ} {w : World}
attribute [local go_sem] upon_value upon_skip
def rawC (d ar at_ old new dn : Int) (ov : Bool) : Array Value:=#[.int .i64 d,.int .i64 ar,.int .i64 at_,.int .u64 old,.int .u64 new,.int .u32 dn,.bool ov]
theorem rawResult {g : Nat} {t : TypeId} {d ar at_ old new dn : Int} {ov : Bool} (hb : Blk w g t (rawC d ar at_ old new dn ov)) :
  Jdo Try.prog X 85 #[.pointer (some ⟨g,0,none⟩)] s w fun s' r w'=>s' = s /\ Below w.heap.size w w' /\ r = .back (.tuple #[.int .i64 0,.int .u32 dn]):=by
 have hc:=hb.cell
 have hlt:=hb.lt
 unfold rawC at hc
 refine zar Try.func85 rfl ?_
 simp only [Try.ntmps85]
 refine wk8 ?_
 refine wk3 ?_
 refine zbe [0,1,3,7,0,31] [0,1,2,3,4,5] (Below w.heap.size w) rfl (by decide +kernel) (by exact wk5) ?_ ?_
 focus exact (Below.refl _ _).drew
 refine wk4 ?_
 refine wk3 ?_
 exact zb0 (.tuple #[.int .i64 0,.int .u32 dn]) rfl (by simp [results,go_sem]) ⟨rfl,(Below.refl _ _).drew,rfl⟩
set_option maxHeartbeats 4000000 in
theorem rawNext {g : Nat} {t : TypeId} {d ar at_ old new dn was : Int} {ov done : Bool} (hb : Blk w g t (rawC d ar at_ old new dn ov)) (ho : ¬ X.oth s g) :
  Jdo Try.prog X 84 #[.pointer (some ⟨g,0,none⟩),.int .u64 was,.bool done] s w fun s' r w'=>s' = s /\ Chg (fun k=>k = g) w w' /\ Blk w' g t (rawC d ar at_ old new (if done = true then 1 else dn) true) /\
   r = .back (.tuple #[.agg (acc d ar at_ old new),.bool (!ov)]):=by
 refine Jdo.there fun ht=>?_
 have hoth : ∀ b,w.heap.size <= b -> ¬ X.oth s b:=fun b hb ho=>by have:=ht b ho; omega
 have hlt:=hb.lt
 unfold rawC at hb ⊢
 unfold acc
 refine zar Try.func84 rfl ?_
 simp only [Try.ntmps84]
 refine wk8 ?_
 have b0:=hb.alloc (.cells #[.int .i64 0,.int .i64 0,.int .i64 0,.int .u64 0,.int .u64 0] 27)
 have r0:=Blk.new w 27 #[.int .i64 0,.int .i64 0,.int .i64 0,.int .u64 0,.int .u64 0]
 have c0:=(Chg.refl (fun k=>k = g) w).alloc (.cells #[.int .i64 0,.int .i64 0,.int .i64 0,.int .u64 0,.int .u64 0] 27)
 obtain ⟨W0,hW0⟩ : ∃ W0,W0 = w.alloc (.cells #[.int .i64 0,.int .i64 0,.int .i64 0,.int .u64 0,.int .u64 0] 27):=⟨_,rfl⟩
 rw [<- hW0] at b0 r0 c0
 cases done with
 | true=>
  refine wk3 ?_
  rw [<- hW0]
  clear hW0
  refine zaj (za7 (v:=.int .u32 1) (cs':=#[.int .i64 d,.int .i64 ar,.int .i64 at_,.int .u64 old,.int .u64 new,.int .u32 1,.bool ov]) rfl rfl rfl rfl b0 ho (by kernel_rfl) (Nat.le_of_ble_eq_true rfl) (by simp [Value.cells,Value.oneCell']) rfl ?_)
  refine wk7 ?_
  have b1:=b0.row #[.int .i64 d,.int .i64 ar,.int .i64 at_,.int .u64 old,.int .u64 new,.int .u32 1,.bool ov]
  have r1:=r0.row_far (g':=g) #[.int .i64 d,.int .i64 ar,.int .i64 at_,.int .u64 old,.int .u64 new,.int .u32 1,.bool ov] (by omega)
  have c1:=c0.row (g:=g) rfl #[.int .i64 d,.int .i64 ar,.int .i64 at_,.int .u64 old,.int .u64 new,.int .u32 1,.bool ov]
  generalize hW1 : W0.setRow g #[.int .i64 d,.int .i64 ar,.int .i64 at_,.int .u64 old,.int .u64 new,.int .u32 1,.bool ov] = W1 at b1 r1 c1 ⊢
  clear hW1 b0 r0 c0
  have b0:=b1
  have r0:=r1
  have c0:=c1
  clear b1 r1 c1
  simp only [↓reduceIte]
  have hc:=b0.cell
  refine wk3 ?_
  refine zaj (za7 (v:=.bool true) (cs':=#[.int .i64 d,.int .i64 ar,.int .i64 at_,.int .u64 old,.int .u64 new,.int .u32 1,.bool true]) rfl rfl rfl rfl b0 ho (by kernel_rfl) (Nat.le_of_ble_eq_true rfl) (by simp [Value.cells,Value.oneCell']) rfl ?_)
  refine wk7 ?_
  have b2:=b0.row #[.int .i64 d,.int .i64 ar,.int .i64 at_,.int .u64 old,.int .u64 new,.int .u32 1,.bool true]
  have r2:=r0.row_far (g':=g) #[.int .i64 d,.int .i64 ar,.int .i64 at_,.int .u64 old,.int .u64 new,.int .u32 1,.bool true] (by omega)
  have c2:=c0.row (g:=g) rfl #[.int .i64 d,.int .i64 ar,.int .i64 at_,.int .u64 old,.int .u64 new,.int .u32 1,.bool true]
  generalize hW2 : World.setRow W1 g #[.int .i64 d,.int .i64 ar,.int .i64 at_,.int .u64 old,.int .u64 new,.int .u32 1,.bool true] = W2 at b2 r2 c2 ⊢
  clear hW2 hc b0 r0 c0
  have hc:=b2.cell
  refine wk3 ?_
  refine zaj (za7 (v:=.agg #[.int .i64 d,.int .i64 ar,.int .i64 at_,.int .u64 old,.int .u64 new]) (cs':=#[.int .i64 d,.int .i64 ar,.int .i64 at_,.int .u64 old,.int .u64 new]) rfl rfl rfl rfl r2 (hoth _ (Nat.le_refl _)) (by kernel_rfl) (Nat.le_of_ble_eq_true rfl) (by simp [Value.cells,Value.oneCell']) rfl ?_)
  refine wk7 ?_
  have b3:=b2.row_far (g':=w.heap.size) #[.int .i64 d,.int .i64 ar,.int .i64 at_,.int .u64 old,.int .u64 new] (by omega)
  have r3:=r2.row #[.int .i64 d,.int .i64 ar,.int .i64 at_,.int .u64 old,.int .u64 new]
  have c3 : Chg (fun k=>k = g) w (W2.setRow w.heap.size #[.int .i64 d,.int .i64 ar,.int .i64 at_,.int .u64 old,.int .u64 new]):=⟨c2.os,c2.tape,c2.output,by rw [setRow_size]; exact c2.size,fun k hk hs=>(setRow_other W2 w.heap.size k _ (by omega)).trans (c2.block k hk hs)⟩
  generalize hW3 : W2.setRow w.heap.size #[.int .i64 d,.int .i64 ar,.int .i64 at_,.int .u64 old,.int .u64 new] = W3 at b3 r3 c3 ⊢
  clear hW3 hc b2 r2 c2
  have dr:=r3.cell
  refine wk3 ?_
  exact zb0 (.tuple #[.agg #[.int .i64 d,.int .i64 ar,.int .i64 at_,.int .u64 old,.int .u64 new],.bool (!ov)]) rfl (by simp [results,go_sem,dr]) ⟨rfl,c3,b3,rfl⟩
 | false=>
  refine wk3 ?_
  rw [<- hW0]
  clear hW0
  simp only [Bool.false_eq_true, ↓reduceIte]
  have hc:=b0.cell
  refine wk3 ?_
  refine zaj (za7 (v:=.bool true) (cs':=#[.int .i64 d,.int .i64 ar,.int .i64 at_,.int .u64 old,.int .u64 new,.int .u32 dn,.bool true]) rfl rfl rfl rfl b0 ho (by kernel_rfl) (Nat.le_of_ble_eq_true rfl) (by simp [Value.cells,Value.oneCell']) rfl ?_)
  refine wk7 ?_
  have b2:=b0.row #[.int .i64 d,.int .i64 ar,.int .i64 at_,.int .u64 old,.int .u64 new,.int .u32 dn,.bool true]
  have r2:=r0.row_far (g':=g) #[.int .i64 d,.int .i64 ar,.int .i64 at_,.int .u64 old,.int .u64 new,.int .u32 dn,.bool true] (by omega)
  have c2:=c0.row (g:=g) rfl #[.int .i64 d,.int .i64 ar,.int .i64 at_,.int .u64 old,.int .u64 new,.int .u32 dn,.bool true]
  generalize hW2 : World.setRow W0 g #[.int .i64 d,.int .i64 ar,.int .i64 at_,.int .u64 old,.int .u64 new,.int .u32 dn,.bool true] = W2 at b2 r2 c2 ⊢
  clear hW2 hc b0 r0 c0
  have hc:=b2.cell
  refine wk3 ?_
  refine zaj (za7 (v:=.agg #[.int .i64 d,.int .i64 ar,.int .i64 at_,.int .u64 old,.int .u64 new]) (cs':=#[.int .i64 d,.int .i64 ar,.int .i64 at_,.int .u64 old,.int .u64 new]) rfl rfl rfl rfl r2 (hoth _ (Nat.le_refl _)) (by kernel_rfl) (Nat.le_of_ble_eq_true rfl) (by simp [Value.cells,Value.oneCell']) rfl ?_)
  refine wk7 ?_
  have b3:=b2.row_far (g':=w.heap.size) #[.int .i64 d,.int .i64 ar,.int .i64 at_,.int .u64 old,.int .u64 new] (by omega)
  have r3:=r2.row #[.int .i64 d,.int .i64 ar,.int .i64 at_,.int .u64 old,.int .u64 new]
  have c3 : Chg (fun k=>k = g) w (W2.setRow w.heap.size #[.int .i64 d,.int .i64 ar,.int .i64 at_,.int .u64 old,.int .u64 new]):=⟨c2.os,c2.tape,c2.output,by rw [setRow_size]; exact c2.size,fun k hk hs=>(setRow_other W2 w.heap.size k _ (by omega)).trans (c2.block k hk hs)⟩
  generalize hW3 : W2.setRow w.heap.size #[.int .i64 d,.int .i64 ar,.int .i64 at_,.int .u64 old,.int .u64 new] = W3 at b3 r3 c3 ⊢
  clear hW3 hc b2 r2 c2
  have dr:=r3.cell
  refine wk3 ?_
  exact zb0 (.tuple #[.agg #[.int .i64 d,.int .i64 ar,.int .i64 at_,.int .u64 old,.int .u64 new],.bool (!ov)]) rfl (by simp [results,go_sem,dr]) ⟨rfl,c3,b3,rfl⟩
end
end
section
theorem zls {α : Type} {f : α -> List Value} {k : Nat} (hf : ∀ x,(f x).length = k) (l : List α) (i j : Nat) (hi : i < l.length) (hj : j < k) : (l.flatMap f)[i * k + j]? = (f l[i])[j]?:=by
 induction l generalizing i with
 | nil=>simp at hi
 | cons x l ih=>
  rw [List.flatMap_cons]
  have hx:=hf x
  cases i with
  | zero=>
   rw [Nat.zero_mul,Nat.zero_add,List.getElem?_append_left (by omega)]
   rfl
  | succ i=>
   rw [List.getElem?_append_right (by rw [hx,Nat.succ_mul]; omega),hx,show (i + 1) * k + j - k = i * k + j by rw [Nat.succ_mul]; omega]
   exact ih i (by simpa using hi)
theorem zde {α : Type} {f : α -> List Value} {k : Nat} (hf : ∀ x,(f x).length = k) (l : List α) : (l.flatMap f).length = l.length * k:=by
 induction l with
 | nil=>simp
 | cons x l ih=>rw [List.flatMap_cons,List.length_append,ih,hf,List.length_cons,Nat.succ_mul]; omega
structure Ac where
 (d ar at_ old new : Int)
 deriving DecidableEq
def Ac.cells (x : Ac) : List Value:=[.int .i64 x.d,.int .i64 x.ar,.int .i64 x.at_,.int .u64 x.old,.int .u64 x.new]
def Acs (w : World) (B : Nat) (v : Value) (l : List Ac) : Prop:=Sl w B 5 v l.length (l.flatMap Ac.cells)
theorem Ac.len (x : Ac) : x.cells.length = 5:=rfl
theorem Acs.at_ {w : World} {B : Nat} {v : Value} {l : List Ac} (h : Acs w B v l) (hn : 0 < l.length) : ∃ b o c,v = .slice (some ⟨b,o,none⟩) l.length c /\ b < B /\ l.length <= c /\ c <= maxLen /\
  ∀ i (hi : i < l.length) j u,(l[i].cells)[j]? = some u -> w.cell? ⟨b,o + (i * 5 + j),none⟩ = some u:=by
 obtain ⟨b,o,c,hv,hb,hc,hm,hat⟩:=Sl.row h hn
 refine ⟨b,o,c,hv,hb,hc,hm,fun i hi j u hu=>hat _ _ ?_⟩
 have hj : j < 5:=(List.getElem?_eq_some_iff.1 hu).1
 rw [zls Ac.len l i j hi hj]
 exact hu
def Lls (w : World) (B : Nat) (v : Value) (l : List (List Ac)) : Prop:=∃ vs : List Value,vs.length = l.length /\ Sl w B 1 v l.length vs /\ ∀ (i : Nat) (u : Value),vs[i]? = some u -> ∃ xs,l[i]? = some xs /\ Acs w B u xs
theorem Lls.keep {w w' : World} {B : Nat} {v : Value} {l : List (List Ac)} (h : Lls w B v l) (hk : ∀ p : Addr,p.block < B -> w'.cell? p = w.cell? p) : Lls w' B v l:=by
 obtain ⟨vs,h1,h2,h3⟩:=h
 exact ⟨vs,h1,h2.keep hk,fun i u hu=>by obtain ⟨xs,hx,ha⟩:=h3 i u hu; exact ⟨xs,hx,Sl.keep ha hk⟩⟩
theorem Lls.below {w w' : World} {B : Nat} {v : Value} {l : List (List Ac)} (h : Lls w B v l) (hb : Below B w w') : Lls w' B v l:=h.keep fun _ hp=>hb.cell hp
theorem Lls.at_ {w : World} {B : Nat} {v : Value} {l : List (List Ac)} (h : Lls w B v l) (hn : 0 < l.length) : ∃ b o c,v = .slice (some ⟨b,o,none⟩) l.length c /\ b < B /\ l.length <= c /\ c <= maxLen /\
  ∀ i (hi : i < l.length), ∃ u,w.cell? ⟨b,o + i,none⟩ = some u /\ Acs w B u l[i]:=by
 obtain ⟨vs,h1,h2,h3⟩:=h
 obtain ⟨b,o,c,hv,hb,hc,hm,hat⟩:=Sl.row h2 hn
 refine ⟨b,o,c,hv,hb,hc,hm,fun i hi=>?_⟩
 have hi' : i < vs.length:=by omega
 obtain ⟨xs,hx,ha⟩:=h3 i vs[i] (List.getElem?_eq_getElem hi')
 obtain rfl : l[i] = xs:=by rw [List.getElem?_eq_getElem hi] at hx; exact Option.some.inj hx
 exact ⟨vs[i],hat i _ (List.getElem?_eq_getElem hi'),ha⟩
def Ns (xs : List Nat) : Array Value:=(xs.map fun (n : Nat)=>Value.int .i64 (n : Int)).toArray
theorem Ns_at {xs : List Nat} {i : Nat} (hi : i < xs.length) : (Ns xs)[i]? = some (.int .i64 (xs[i] : Int)):=by simp [Ns,hi]
theorem Ns_set {xs : List Nat} (i n : Nat) : (Ns xs).setIfInBounds i (.int .i64 (n : Int)) = Ns (xs.set i n):=by simp [Ns,List.map_set]
end
section
section
variable {γ : Type} {X : zad γ} {s : γ} {w : World}
attribute [local go_sem] upon_value upon_skip
set_option maxHeartbeats 8000000 in
theorem rawBegin {gA gL ga B : Nat} {tA tL ta : TypeId} {ca t n : Nat} {at_ : List Nat} {vL : Value} {l : List (List Ac)} {xs : List Ac} {x : Ac} {draw kind val : Int}
  (hA : Blk w gA tA #[.slice (some ⟨ga,0,none⟩) at_.length ca]) (ha : Blk w ga ta (Ns at_)) (hL : Blk w gL tL #[vL]) (hl : Lls w B vL l) (hB : B <= w.heap.size) (hBa : B <= ga) (h1 : gA ≠ ga) (h2 : gL ≠ ga)
  (ht1 : l[t]? = some xs) (ht2 : at_[t]? = some n) (ht3 : xs[n]? = some x) (ho : ¬ X.oth s ga) :
  Jdo Try.prog X 30 #[.int .i64 t,.agg #[.int .i64 kind,.int .u32 val],.int .u32 draw,.pointer (some ⟨gA,0,none⟩),.pointer (some ⟨gL,0,none⟩)] s w fun s' r w'=>s' = s /\ Chg (fun k=>k = ga) w w' /\
   Blk w' ga ta (Ns (at_.set t (n + 1))) /\ ∃ g,w.heap.size <= g /\ r = .back (.iface 82 (.pointer (some ⟨g,0,none⟩))) /\ Blk w' g 84 (rawC x.d x.ar x.at_ x.old x.new 0 false):=by
 refine Jdo.there fun ht=>?_
 have hoth : ∀ b,w.heap.size <= b -> ¬ X.oth s b:=fun b hb ho=>by have:=ht b ho; omega
 obtain ⟨htl,rfl⟩:=List.getElem?_eq_some_iff.1 ht1
 obtain ⟨htn,rfl⟩:=List.getElem?_eq_some_iff.1 ht2
 obtain ⟨htx,rfl⟩:=List.getElem?_eq_some_iff.1 ht3
 obtain ⟨b,o,c,rfl,hb,hc1,hc2,hat⟩:=hl.at_ (by omega)
 obtain ⟨u,hu,hacs⟩:=hat t htl
 obtain ⟨b',o',c',rfl,hb',hc1',hc2',hat'⟩:=hacs.at_ (by omega)
 generalize hL0 : l[t] = xs at *
 generalize hn0 : at_[t] = n at *
 generalize hx0 : xs[n] = x at *
 have hm : maxLen = 9223372036854775807:=rfl
 have W0b:=(Below.refl w.heap.size w).alloc (Nat.le_refl _) (.cells #[.int .i64 kind,.int .u32 val] 79)
 obtain ⟨W0,hW0⟩ : ∃ W0,W0 = w.alloc (.cells #[.int .i64 kind,.int .u32 val] 79):=⟨_,rfl⟩
 rw [<- hW0] at W0b
 have hs0:=W0b.size
 have hA0:=hA.below W0b hA.lt
 have ha0:=ha.below W0b ha.lt
 have hL0':=hL.below W0b hL.lt
 have dA:=hA0.cell 0
 have dL:=hL0'.cell 0
 have da : W0.cell? ⟨ga,t,none⟩ = some (.int .i64 (n : Int)):=by rw [ha0.cell,Ns_at htn,hn0]
 have hi1 : (0 : Int) <= (t : Int) /\ (t : Int) < (at_.length : Int):=by omega
 have hi2 : (t : Int) < (l.length : Int):=by omega
 have hi3 : (n : Int) < (xs.length : Int):=by omega
 have hw1 : IntKind.i64.wrap ((n : Int) + 1) = (n : Int) + 1:=by simp [IntKind.wrap,IntKind.bits,IntKind.signed]; omega
 have hw2 : IntKind.i64.wrap (n : Int) = (n : Int):=by simp [IntKind.wrap,IntKind.bits,IntKind.signed]; omega
 have hf:=ha0.frozen t
 clear ht1 ht2 ht3 hL0 hn0
 refine zar Try.func30 rfl ?_
 simp only [Try.ntmps30]
 refine wk8 ?_
 refine wk3 ?_
 rw [<- hW0]
 clear hW0
 refine wk3 ?_
 refine zdy ?_ ?_ (fun K hK=>?_)
 focus rfl
 focus exact fun ht=>zcy rfl rfl da ho ht
 go_simp
 refine hK _ _ _ ?_
 clear hK K
 have b1:=ha0.set_ t (.int .i64 ((n : Int) + 1))
 have e1 : (Ns at_).setIfInBounds t (.int .i64 ((n : Int) + 1)) = Ns (at_.set t (n + 1)):=Ns_set t (n + 1)
 rw [e1] at b1
 have c1 : Chg (fun k=>k = ga) w (W0.setCell ⟨ga,t,none⟩ (.int .i64 ((n : Int) + 1))):=Chg.set_ (S:=fun k=>k = ga) (Chg.of_below W0b) (p:=⟨ga,t,none⟩) rfl _
 have hA1:=hA0.far (p:=⟨ga,t,none⟩) h1 (.int .i64 ((n : Int) + 1))
 have hL1:=hL0'.far (p:=⟨ga,t,none⟩) h2 (.int .i64 ((n : Int) + 1))
 have hk1 : ∀ p : Addr,p.block < B -> (W0.setCell ⟨ga,t,none⟩ (.int .i64 ((n : Int) + 1))).cell? p = w.cell? p:=fun p hp=>c1.cell (by omega) (by omega)
 generalize hW1 : W0.setCell ⟨ga,t,none⟩ (.int .i64 ((n : Int) + 1)) = W1 at b1 c1 hA1 hL1 hk1 ⊢
 clear hW1 dA dL da hf e1
 have hs1:=c1.size
 have dA:=hA1.cell 0
 have dL:=hL1.cell 0
 have da : W1.cell? ⟨ga,t,none⟩ = some (.int .i64 ((n : Int) + 1)):=by
  rw [b1.cell,Ns_at (by rw [List.length_set]; exact htn)]
  simp
 have hgA:=hA1.lt
 have hgL:=hL1.lt
 have hga:=b1.lt
 have hbW : b < W1.heap.size:=by omega
 have hbW' : b' < W1.heap.size:=by omega
 have du : W1.cell? ⟨b,o + t,none⟩ = _:=(hk1 ⟨b,o + t,none⟩ hb).trans hu
 have y0 : W1.cell? ⟨b',o' + n * 5,none⟩ = some (.int .i64 x.d):=(hk1 ⟨b',o' + n * 5,none⟩ hb').trans (hat' n htx 0 _ (by rw [hx0]; rfl))
 have y1 : W1.cell? ⟨b',o' + n * 5 + 1,none⟩ = some (.int .i64 x.ar):=(hk1 ⟨b',o' + n * 5 + 1,none⟩ hb').trans (by rw [Nat.add_assoc]; exact hat' n htx 1 _ (by rw [hx0]; rfl))
 have y2 : W1.cell? ⟨b',o' + n * 5 + 2,none⟩ = some (.int .i64 x.at_):=(hk1 ⟨b',o' + n * 5 + 2,none⟩ hb').trans (by rw [Nat.add_assoc]; exact hat' n htx 2 _ (by rw [hx0]; rfl))
 have y3 : W1.cell? ⟨b',o' + n * 5 + 3,none⟩ = some (.int .u64 x.old):=(hk1 ⟨b',o' + n * 5 + 3,none⟩ hb').trans (by rw [Nat.add_assoc]; exact hat' n htx 3 _ (by rw [hx0]; rfl))
 have y4 : W1.cell? ⟨b',o' + n * 5 + 4,none⟩ = some (.int .u64 x.new):=(hk1 ⟨b',o' + n * 5 + 4,none⟩ hb').trans (by rw [Nat.add_assoc]; exact hat' n htx 4 _ (by rw [hx0]; rfl))
 clear hat hat' hu hacs hk1
 refine wk3 ?_
 refine zbe [0,0,3,7,0,0,48,112,240,511,1023,2047,4095,8191,16383] [0,1,2,3,4,5,6,7,8,9,10,11,12,13,14] (Below W1.heap.size W1) rfl (by decide +kernel) (by exact wk5) ?_ ?_
 focus exact (Below.refl _ _).drew
 refine wk4 ?_
 refine dl_act (o:=?_) ?_ ?_ ?_ ?_ (fun K hK=>?_)
 rotate_left 1
 focus rfl
 focus rfl
 focus rfl
 focus (intro ht; refine zb3 ?_ ht; (focus (first | (with_reducible apply zay); (focus decide) | (with_reducible apply zc4); (focus rfl); (focus rfl); (focus kernel_rfl) | exact zc5 rfl rfl rfl | exact zbp rfl rfl)))
 go_simp
 have hg:=(Below.refl W1.heap.size W1).alloc (Nat.le_refl _) (.cells #[.int .i64 x.d,.int .i64 x.ar,.int .i64 x.at_,.int .u64 x.old,.int .u64 x.new,.int .u32 0,.bool false] 84)
 have bg:=Blk.new W1 84 #[.int .i64 x.d,.int .i64 x.ar,.int .i64 x.at_,.int .u64 x.old,.int .u64 x.new,.int .u32 0,.bool false]
 refine hK _ _ _ ⟨_,hg.drew,fun _=>rfl,?_⟩
 clear hK K
 have b2 : Blk (W1.alloc (.cells #[.int .i64 x.d,.int .i64 x.ar,.int .i64 x.at_,.int .u64 x.old,.int .u64 x.new,.int .u32 0,.bool false] 84)).drew ga ta (Ns (at_.set t (n + 1))):=b1.alloc _
 have bg2 : Blk (W1.alloc (.cells #[.int .i64 x.d,.int .i64 x.ar,.int .i64 x.at_,.int .u64 x.old,.int .u64 x.new,.int .u32 0,.bool false] 84)).drew W1.heap.size 84 #[.int .i64 x.d,.int .i64 x.ar,.int .i64 x.at_,.int .u64 x.old,.int .u64 x.new,.int .u32 0,.bool false]:=bg
 have c2 : Chg (fun k=>k = ga) w (W1.alloc (.cells #[.int .i64 x.d,.int .i64 x.ar,.int .i64 x.at_,.int .u64 x.old,.int .u64 x.new,.int .u32 0,.bool false] 84)).drew:=(c1.alloc _).drew
 generalize hW2 : (W1.alloc (.cells #[.int .i64 x.d,.int .i64 x.ar,.int .i64 x.at_,.int .u64 x.old,.int .u64 x.new,.int .u32 0,.bool false] 84)).drew = W2 at b2 bg2 c2 ⊢
 clear hW2 bg hg
 refine wk4 ?_
 refine wk3 ?_
 exact za6 rfl rfl ⟨rfl,c2,b2,W1.heap.size,hs1,rfl,bg2⟩
end
end
section
structure Th where
 (left on : Value) (asks : Ac) (call : Int)
def Th.cells (x : Th) : List Value:=[x.left,x.on,.int .i64 x.asks.d,.int .i64 x.asks.ar,.int .i64 x.asks.at_,.int .u64 x.asks.old,.int .u64 x.asks.new,.int .i64 x.call]
theorem Th.len (x : Th) : x.cells.length = 8:=rfl
def Ths (l : List Th) : Array Value:=(l.flatMap Th.cells).toArray
theorem Ths_at {l : List Th} {i j : Nat} (hi : i < l.length) (hj : j < 8) : (Ths l)[i * 8 + j]? = (l[i].cells)[j]?:=by
 unfold Ths
 rw [List.getElem?_toArray]
 exact zls Th.len l i j hi hj
end
end Go.Proofs.Ytonhfgjofgbcdaa.Dr
