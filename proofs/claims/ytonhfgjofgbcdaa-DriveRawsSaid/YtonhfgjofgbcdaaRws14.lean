/- A part of this claim's proof. -/
import Derived.Test.YtonhfgjofgbcdaaRws4
import Derived.Test.YtonhfgjofgbcdaaRws12
import Derived.Test.YtonhfgjofgbcdaaRws13
import Derived.Test.YtonhfgjofgbcdaaProg
import Derived.KernelRfl
set_option linter.unusedSimpArgs false
set_option linter.unusedVariables false
set_option maxRecDepth 20000
namespace Go.Proofs.Ytonhfgjofgbcdaa.St
open Go Go.Conc Go.RowKit Jay Pl
section
section
variable {γ : Type} {X : zad γ} {s : γ} {w : World}
attribute [local go_sem] upon_value upon_skip
def inB (x l h : Int) : Bool:=decide (l <= x) && decide (x <= h)
theorem within (x l h : Int) : Jdo Try.prog X 24 #[.int .i64 x,.int .i64 l,.int .i64 h] s w fun s' r w'=>s' = s /\ w' = w /\ r = .back (.bool (inB x l h)):=by
 unfold inB
 by_cases c : l <= x
 ·have c1 : decide (l <= x) = true:=decide_eq_true c
  refine zar Try.func24 rfl ?_
  simp only [Try.ntmps24]
  refine wk8 ?_
  refine wk1 ?_
  exact za6 rfl rfl ⟨rfl,rfl,by simp [c]⟩
 ·have c1 : decide (l <= x) = false:=decide_eq_false c
  refine zar Try.func24 rfl ?_
  simp only [Try.ntmps24]
  refine wk8 ?_
  refine wk1 ?_
  exact za6 rfl rfl ⟨rfl,rfl,by simp [c]⟩
def cfg (k K T M : Int) : Value:=.agg #[.int .i64 k,.int .i64 K,.int .i64 T,.int .i64 M]
def zea (k K T M : Int) : Bool:=inB k 1 3 && inB K 1 64 && inB T 1 8 && inB M 2 64
theorem may (k K T M : Int) : Jdo Try.prog X 15 #[cfg k K T M] s w fun s' r w'=>s' = s /\ Below w.heap.size w w' /\ r = .back (.bool (zea k K T M)):=by
 unfold cfg
 refine zar Try.func15 rfl ?_
 simp only [Try.ntmps15]
 refine wk8 ?_
 refine wk1 ?_
 refine zbf _ rfl ?_ ?_ Try.func24 ?_ rfl (within k 1 3) ?_
 focus rfl
 focus first | rfl | (go_simp; done) | (go_simp; rfl)
 focus rfl
 rintro s' r w' ⟨rfl,rfl,rfl⟩
 refine wk7 ?_
 cases h1 : inB k 1 3
 ·refine wk1 ?_
  exact za6 rfl rfl ⟨rfl,(Below.refl _ _).alloc (Nat.le_refl _) _,by simp [zea,h1]⟩
 ·refine wk1 ?_
  refine zbf _ rfl ?_ ?_ Try.func24 ?_ rfl (within K 1 64) ?_
  focus rfl
  focus first | rfl | (go_simp; done) | (go_simp; rfl)
  focus rfl
  rintro s' r w' ⟨rfl,rfl,rfl⟩
  refine wk7 ?_
  cases h2 : inB K 1 64
  ·refine wk1 ?_
   exact za6 rfl rfl ⟨rfl,(Below.refl _ _).alloc (Nat.le_refl _) _,by simp [zea,h1,h2]⟩
  ·refine wk1 ?_
   refine zbf _ rfl ?_ ?_ Try.func24 ?_ rfl (within T 1 8) ?_
   focus rfl
   focus first | rfl | (go_simp; done) | (go_simp; rfl)
   focus rfl
   rintro s' r w' ⟨rfl,rfl,rfl⟩
   refine wk7 ?_
   cases h3 : inB T 1 8
   ·refine wk1 ?_
    exact za6 rfl rfl ⟨rfl,(Below.refl _ _).alloc (Nat.le_refl _) _,by simp [zea,h1,h2,h3]⟩
   ·refine wk1 ?_
    refine zbf _ rfl ?_ ?_ Try.func24 ?_ rfl (within M 2 64) ?_
    focus rfl
    focus first | rfl | (go_simp; done) | (go_simp; rfl)
    focus rfl
    rintro s' r w' ⟨rfl,rfl,rfl⟩
    refine wk7 ?_
    cases h4 : inB M 2 64 <;> refine wk1 ?_
    all_goals exact za6 rfl rfl ⟨rfl,(Below.refl _ _).alloc (Nat.le_refl _) _,by simp [zea,h1,h2,h3,h4]⟩
/-! ### Finding a word -/
def acc (d ar at_ old new : Int) : Array Value:=#[.int .i64 d,.int .i64 ar,.int .i64 at_,.int .u64 old,.int .u64 new]
theorem find1 {p : Value} {g : Nat} {t : TypeId} {d ar at_ old new : Int} (hb : Blk w g t (acc d ar at_ old new)) : Jdo Try.prog X 34 #[p,.pointer (some ⟨g,0,none⟩)] s w fun s' r w'=>s' = s /\ w' = w /\ r = .back (if at_ = 0 then p else .pointer none):=by
 have hc:=hb.cell
 unfold acc at hc
 by_cases c : at_ = 0
 ·subst c
  refine zar Try.func34 rfl ?_
  simp only [Try.ntmps34]
  refine wk8 ?_
  refine wk1 ?_
  exact za6 rfl rfl ⟨rfl,rfl,rfl⟩
 ·have c1 : (at_ != 0) = true:=by simpa using c
  refine zar Try.func34 rfl ?_
  simp only [Try.ntmps34]
  refine wk8 ?_
  refine wk1 ?_
  exact za6 rfl rfl ⟨rfl,rfl,by simp [c]⟩
/-! ### A copy of a row of words -/
theorem zcw : (Try.prog.info? 22).map (fun i=>(i.zero,i.size,i.bytes)) = some (some (.int .u64 0),1,8):=by kernel_rfl
theorem zbv : Try.prog.underlying 23 = some (.slice 22):=by kernel_rfl
def U (xs : List Int) : List Value:=xs.map (.int .u64)
theorem U_len (xs : List Int) : (U xs).length = xs.length:=List.length_map ..
theorem U_one (xs : List Int) : ∀ u ∈ U xs,u.oneCell' = true:=by
 intro u hu
 obtain ⟨x,_,rfl⟩:=List.mem_map.1 hu
 rfl
theorem clone {B : Nat} {v : Value} {n : Nat} {xs : List Int} (hs : Sl w B 1 v n (U xs)) (hB : B <= w.heap.size) (hn : 0 < n) (hn2 : n <= 1000000) : Jdo Try.prog X 36 #[v] s w fun s' r w'=>s' = s /\ Below w.heap.size w w' /\
  ∃ g cap cur,r = .back (.slice (some ⟨g,0,none⟩) n cap) /\ w.heap.size <= g /\ Blk w' g 22 cur /\ n <= cap /\ cap <= maxLen /\ cur.size = cap /\ cur.toList.take n = U xs:=by
 refine Jdo.there fun ht=>?_
 obtain ⟨b,o,c,rfl,hb,hnc,hcm,hcell⟩:=hs.row hn
 refine zar Try.func36 rfl ?_
 simp only [Try.ntmps36]
 refine wk8 ?_
 refine wk1 ?_
 refine zaj (zmw (.tmp 5) (.tmp 6) 23 rfl rfl w.heap.size 22 (.int .u64 0) 1 8 zbv zcw rfl (by decide) _ 0 [] rfl
  (by exact ⟨rfl,.inr ⟨w.heap.size,0, #[],rfl,Nat.le_refl _,heap_alloc_new w _,Nat.le_refl _,Nat.zero_le _,rfl,rfl⟩⟩)
  (fun g hg ho=>by have:=ht g ho; have hg' : w.heap.size = g:=Option.some.inj hg; omega)
  ⟨b,o,none⟩ n c (U xs) rfl (by rw [U_len]; have:=hs.1; rw [U_len] at this; omega)
  (fun j u hu=>by
   have hadd : (⟨b,o,none⟩ : Addr).add j = ⟨b,o + j,none⟩:=by unfold Addr.add; split <;> simp_all
   rw [hadd,World.cell?_alloc_lt w _ _ (by show b < _; omega)]
   exact hcell j u hu) (U_one xs) hn (by unfold maxLen; omega) (by omega) (by simp) ?_)
 intro g cap w' hown hgrow hat hlt
 simp only [Nat.zero_add,List.nil_append] at hown ⊢
 refine wk7 ?_
 refine wk1 ?_
 obtain ⟨_,⟨hx,_⟩ | ⟨g',cap',cur,hx,hbase,hcur,h1,h2,h3,h4⟩⟩:=hown
 ·cases hx
 ·injection hx with hx1 hx2 hx3
  injection hx1 with hx1
  injection hx1 with hx1
  subst hx1 hx3
  have hbel : Below w.heap.size w w':=((Below.refl w.heap.size w).alloc (Nat.le_refl _) _).grown hgrow (by simp) (fun k hk=>by have hk' : w.heap.size = k:=Option.some.inj hk; omega)
  exact za6 rfl rfl ⟨rfl,hbel,g,cap,cur,rfl,hbase,hcur,h1,h2,by omega,by simpa using h4⟩
theorem find2 {B gM kM gA : Nat} {tM tA : TypeId} {cM : Array Value} {d ar at_ old new : Int} {v : Value} {n : Nat} {xs : List Int} (hA : Blk w gA tA (acc d ar at_ old new)) (hM : Blk w gM tM cM) (hv : cM[kM]? = some v) (hs : Sl w B 1 v n (U xs)) (hB : B <= gM) (hne : gA ≠ gM) (hn2 : n <= 1000000)
  (hoth : ¬ X.oth s gM) : Jdo Try.prog X 35 #[.pointer (some ⟨gM,kM,none⟩),.pointer (some ⟨gA,0,none⟩)] s w fun s' r w'=>s' = s /\
   if 0 <= at_ /\ at_ < n then ∃ g cap cur,r = .back (.pointer (some ⟨g,at_.toNat,none⟩)) /\ w.heap.size <= g /\ Blk w' g 22 cur /\ n <= cap /\ cap <= maxLen /\ cur.size = cap /\ cur.toList.take n = U xs /\
     Blk w' gM tM (cM.setIfInBounds kM (.slice (some ⟨g,0,none⟩) n cap)) /\ Below gM w w'
   else r = .back (.pointer none) /\ Below w.heap.size w w':=by
 have hcA:=hA.cell
 unfold acc at hcA
 obtain ⟨vA,vc,rfl,hnc,hcm⟩:=hs.form
 have hcM:=hM.cell kM
 rw [hv] at hcM
 have hlA:=hA.lt
 have hlM:=hM.lt
 by_cases c : at_ < 0
 ·have c1 : decide (at_ < 0) = true:=by simpa using c
  have c2 : ¬ (0 <= at_ /\ at_ < n):=by omega
  simp only [if_neg c2]
  refine zar Try.func35 rfl ?_
  simp only [Try.ntmps35]
  refine wk8 ?_
  refine wk1 ?_
  refine zbe [0,1,3,7,15,31,15,79,207,463,1023,2047] [0,1,2,3,4,5,6,7,8,9,10,11] (Below w.heap.size w) rfl (by decide +kernel) (by exact wk5) ?_ ?_
  focus exact (Below.refl _ _).drew
  refine wk4 ?_
  refine wk1 ?_
  exact za6 rfl rfl ⟨rfl,rfl,(Below.refl _ _).drew⟩
 ·have c1 : decide (at_ < 0) = false:=by simpa using c
  by_cases c0 : at_ < n
  ·have c2 : 0 <= at_ /\ at_ < n:=by omega
   have c3 : decide ((n : Int) <= at_) = false:=by simpa using c0
   simp only [if_pos c2]
   refine zar Try.func35 rfl ?_
   simp only [Try.ntmps35]
   refine wk8 ?_
   refine wk1 ?_
   refine zbe [0,1,3,7,15,31,15,79,207,463,1023,2047] [0,1,2,3,4,5,6,7,8,9,10,11] (Below w.heap.size w) rfl (by decide +kernel) (by exact wk5) ?_ ?_
   focus exact (Below.refl _ _).drew
   refine wk4 ?_
   refine wk1 ?_
   refine zbf _ rfl ?_ ?_ Try.func36 ?_ rfl (clone (w:=w.drew) hs.drew (show B <= w.heap.size by omega) (show 0 < n by omega) hn2) ?_
   focus rfl
   focus first | rfl | (go_simp; done) | (go_simp; rfl)
   focus rfl
   rintro s' r w1 ⟨rfl,hb1,g,cap,cur,rfl,hg,hcur,h1,h2,h3,h4⟩
   refine wk7 ?_
   have hM1 : Blk w1 gM tM cM:=hM.drew.below hb1 hlM
   have hcM1:=hM1.cell kM
   rw [hv] at hcM1
   have hfM1:=hM1.frozen kM
   have hA1 : Blk w1 gA tA (acc d ar at_ old new):=hA.drew.below hb1 hlA
   have hcA1:=hA1.cell
   unfold acc at hcA1
   refine wk1 ?_
   refine zdy ?_ ?_ (fun K hK=>?_)
   focus rfl
   focus exact fun ht=>zcy rfl rfl hcM1 hoth ht
   go_simp
   refine hK _ _ _ ?_
   clear hK K
   refine wk1 ?_
   have hk : kM < cM.size:=(Array.getElem?_eq_some_iff.1 hv).1
   have hM2:=hM1.set_ kM (.slice (some ⟨g,0,none⟩) n cap)
   have hcM2:=hM2.cell kM
   rw [Array.getElem?_setIfInBounds_self_of_lt hk] at hcM2
   have hA2:=hA1.far (p:=⟨gM,kM,none⟩) hne (.slice (some ⟨g,0,none⟩) n cap)
   have hcA2:=hA2.cell
   unfold acc at hcA2
   have hcur2:=hcur.far (p:=⟨gM,kM,none⟩) (show g ≠ gM by have : w.drew.heap.size = w.heap.size:=rfl; omega) (.slice (some ⟨g,0,none⟩) n cap)
   have hlA2:=hA2.lt
   have hlM2:=hM2.lt
   have hg' : w.heap.size <= g:=hg
   replace hb1 : Below w.heap.size w w1:=⟨hb1.os,hb1.tape,hb1.output,hb1.size,hb1.block⟩
   generalize hW : w1.setCell ⟨gM,kM,none⟩ (.slice (some ⟨g,0,none⟩) n cap) = W at hM2 hcM2 hA2 hcA2 hcur2 hlA2 hlM2 ⊢
   refine zbe [0,1,3,0,8,31,63] [0,1,2,3,4,5,6] (Below W.heap.size W) rfl (by decide +kernel) (by exact wk5) ?_ ?_
   focus exact (Below.refl _ _).drew
   refine wk4 ?_
   refine wk1 ?_
   refine za6 rfl rfl ⟨rfl,g,cap,cur,rfl,hg',hcur2.drew,h1,h2,h3,h4,hM2.drew,?_⟩
   subst hW
   exact ((hb1.mono (Nat.le_of_lt hlM)).setCell (p:=⟨gM,kM,none⟩) (Nat.le_refl _) _).drew
  ·have c2 : ¬ (0 <= at_ /\ at_ < n):=by omega
   have c3 : decide ((n : Int) <= at_) = true:=by simpa using c0
   simp only [if_neg c2]
   refine zar Try.func35 rfl ?_
   simp only [Try.ntmps35]
   refine wk8 ?_
   refine wk1 ?_
   refine zbe [0,1,3,7,15,31,15,79,207,463,1023,2047] [0,1,2,3,4,5,6,7,8,9,10,11] (Below w.heap.size w) rfl (by decide +kernel) (by exact wk5) ?_ ?_
   focus exact (Below.refl _ _).drew
   refine wk4 ?_
   refine wk1 ?_
   exact za6 rfl rfl ⟨rfl,rfl,(Below.refl _ _).drew⟩
end
end
section
section
variable {γ : Type} {X : zad γ} {s : γ} {w : World}
attribute [local go_sem] upon_value upon_skip
/-! ### The words as a whole -/
structure Mem where
 (e f : Int) (li pi : List Int) (h t : Int) (ln nx sl : List Int)
 deriving DecidableEq
def Mem.area (m : Mem) (a : Int) : List Int:=
 if a = 1 then [m.e] else if a = 2 then [m.f] else if a = 3 then m.li else if a = 4 then m.pi else if a = 5 then [m.h] else if a = 6 then [m.t] else if a = 7 then m.ln else if a = 8 then m.nx else if a = 9 then m.sl else []
def Mem.put (m : Mem) (a : Int) (i : Nat) (x : Int) : Mem:=
 if a = 1 then { m with e:=x } else if a = 2 then { m with f:=x } else if a = 3 then { m with li:=m.li.set i x } else if a = 4 then { m with pi:=m.pi.set i x } else if a = 5 then { m with h:=x } else if a = 6 then { m with t:=x }
 else if a = 7 then { m with ln:=m.ln.set i x } else if a = 8 then { m with nx:=m.nx.set i x } else if a = 9 then { m with sl:=m.sl.set i x } else m
def Mem.at_ (m : Mem) (a i : Int) : Option Int:=if 0 <= i then (m.area a)[i.toNat]? else none
def Mem.small (m : Mem) : Prop:=m.li.length <= 1000000 /\ m.pi.length <= 1000000 /\ m.ln.length <= 1000000 /\ m.nx.length <= 1000000 /\ m.sl.length <= 1000000
def Us (w : World) (B : Nat) (v : Value) (xs : List Int) : Prop:=Sl w B 1 v xs.length (U xs)
def zbb (w : World) (B : Nat) (m : Mem) (cs : Array Value) : Prop:=
 ∃ v2 v3 v6 v7 v8,cs = #[.int .u64 m.e,.int .u64 m.f,v2,v3,.int .u64 m.h,.int .u64 m.t,v6,v7,v8] /\ Us w B v2 m.li /\ Us w B v3 m.pi /\ Us w B v6 m.ln /\ Us w B v7 m.nx /\ Us w B v8 m.sl
def zie (w : World) (B : Nat) (m : Mem) (v : Value) : Prop:=∃ cs,v = .agg cs /\ zbb w B m cs
section
variable {w w' : World} {B B' : Nat} {m : Mem} {cs : Array Value}
theorem zbb.map (h : zbb w B m cs) (f : ∀ v xs,Us w B v xs -> Us w' B' v xs) : zbb w' B' m cs:=by
 obtain ⟨v2,v3,v6,v7,v8,h0,h2,h3,h6,h7,h8⟩:=h
 exact ⟨v2,v3,v6,v7,v8,h0,f _ _ h2,f _ _ h3,f _ _ h6,f _ _ h7,f _ _ h8⟩
theorem zbb.keep (h : zbb w B m cs) (hk : ∀ p : Addr,p.block < B -> w'.cell? p = w.cell? p) : zbb w' B m cs:=h.map fun _ _ u=>Sl.keep u hk
theorem zbb.more (h : zbb w B m cs) (hB : B <= B') : zbb w B' m cs:=h.map fun _ _ u=>Sl.more u hB
theorem zbb.below (h : zbb w B m cs) (hb : Below B w w') : zbb w' B m cs:=h.keep fun _ hp=>hb.cell hp
end
theorem zdh {w : World} {g cap : Nat} {cur : Array Value} {xs : List Int} {t : TypeId} {B : Nat} (hb : Blk w g t cur) (h1 : xs.length <= cap) (h2 : cap <= maxLen) (h3 : cur.size = cap) (h4 : cur.toList.take xs.length = U xs) (hB : g < B) : Us w B (.slice (some ⟨g,0,none⟩) xs.length cap) xs:=by
 have:=Sl.of_blk (size:=1) (n:=xs.length) (c:=cap) hb (by omega) h1 h2 hB
 rw [Nat.mul_one,h4] at this
 exact this
theorem us_set {w : World} {g cap i : Nat} {cur : Array Value} {xs : List Int} {t : TypeId} {B : Nat} {x : Int} (hb : Blk w g t cur) (h1 : xs.length <= cap) (h2 : cap <= maxLen) (h3 : cur.size = cap) (h4 : cur.toList.take xs.length = U xs) (hB : g < B) :
  Us (w.setCell ⟨g,i,none⟩ (.int .u64 x)) B (.slice (some ⟨g,0,none⟩) xs.length cap) (xs.set i x):=by
 have h5 : (cur.setIfInBounds i (.int .u64 x)).toList.take xs.length = U (xs.set i x):=by
  rw [Array.toList_setIfInBounds,List.take_set,h4]
  exact (List.map_set ..).symm
 have:=zdh (xs:=xs.set i x) (hb.set_ i (.int .u64 x)) (by rw [List.length_set]; exact h1) h2 (by rw [Array.size_setIfInBounds]; exact h3) (by rw [List.length_set]; exact h5) hB
 rwa [List.length_set] at this
def OffS (g : Nat) (v : Value) : Prop:=∀ b o n c,v = .slice (some ⟨b,o,none⟩) n c -> 0 < n -> b ≠ g
def Off (g : Nat) (cs : Array Value) : Prop:=∀ v ∈ cs.toList,OffS g v
theorem Off.set_ {g k : Nat} {cs : Array Value} {v : Value} (h : Off g cs) (hv : OffS g v) : Off g (cs.setIfInBounds k v):=by
 intro u hu
 rw [Array.toList_setIfInBounds] at hu
 rcases List.mem_or_eq_of_mem_set hu with h1 | rfl
 ·exact h u h1
 ·exact hv
theorem zco (g : Nat) (k : IntKind) (x : Int) : OffS g (.int k x):=fun _ _ _ _ e=>by cases e
theorem zfi {g g' n c : Nat} (h : g' ≠ g) : OffS g (.slice (some ⟨g',0,none⟩) n c):=fun b o n' c' e _=>by
 injection e with e1
 injection e1 with e1
 injection e1 with e1
 omega
theorem zf4 {w : World} {B g : Nat} {v : Value} {xs : List Int} (h : Us w B v xs) (hB : B <= g) : OffS g v:=fun b o n c e hn=>by
 obtain ⟨_,A,c',e',_,_,h4⟩:=h
 rw [e] at e'
 injection e' with e1 e2 e3
 obtain ⟨b',o',e4,hb,_⟩:=h4 (by omega)
 rw [<- e1] at e4
 injection e4 with e4
 injection e4 with e4
 omega
theorem Us.off {w w5 : World} {B g : Nat} {v : Value} {xs : List Int} (h : Us w B v xs) (ho : OffS g v) (hk : ∀ p : Addr,p.block < B -> p.block ≠ g -> w5.cell? p = w.cell? p) : Us w5 B v xs:=by
 obtain ⟨h1,A,c,rfl,h2,h3,h4⟩:=h
 refine ⟨h1,A,c,rfl,h2,h3,fun hn=>?_⟩
 obtain ⟨b,o,rfl,hb,hc⟩:=h4 hn
 exact ⟨b,o,rfl,hb,fun j u hu=>(hk _ hb (ho _ _ _ _ rfl hn)).trans (hc j u hu)⟩
theorem zbd {w : World} {B g : Nat} {m : Mem} {cs : Array Value} (h : zbb w B m cs) (hB : B <= g) : Off g cs:=by
 obtain ⟨v2,v3,v6,v7,v8,rfl,h2,h3,h6,h7,h8⟩:=h
 intro v hv
 simp only [List.mem_cons,List.not_mem_nil,or_false] at hv
 rcases hv with rfl | rfl | rfl | rfl | rfl | rfl | rfl | rfl | rfl
 ·exact zco _ _ _
 ·exact zco _ _ _
 ·exact zf4 h2 hB
 ·exact zf4 h3 hB
 ·exact zco _ _ _
 ·exact zco _ _ _
 ·exact zf4 h6 hB
 ·exact zf4 h7 hB
 ·exact zf4 h8 hB
theorem zbb.off {w w5 : World} {B g : Nat} {m : Mem} {cs : Array Value} (h : zbb w B m cs) (ho : Off g cs) (hk : ∀ p : Addr,p.block < B -> p.block ≠ g -> w5.cell? p = w.cell? p) : zbb w5 B m cs:=by
 obtain ⟨v2,v3,v6,v7,v8,rfl,h2,h3,h6,h7,h8⟩:=h
 exact ⟨_,_,_,_,_,rfl,h2.off (ho _ (by simp)) hk,h3.off (ho _ (by simp)) hk,h6.off (ho _ (by simp)) hk,h7.off (ho _ (by simp)) hk,h8.off (ho _ (by simp)) hk⟩
def Far (w : World) (c0 c1 : Array Value) : Prop:=∀ g,g < w.heap.size -> Off g c0 -> Off g c1
theorem Far.refl (w : World) (c : Array Value) : Far w c c:=fun _ _ h=>h
theorem Far.int (w : World) (c : Array Value) (k : Nat) (x : Int) : Far w c (c.setIfInBounds k (.int .u64 x)):=fun _ _ h=>h.set_ (zco _ _ _)
theorem Far.new {w : World} (c : Array Value) (k : Nat) {g n cap : Nat} (hg : w.heap.size <= g) : Far w c (c.setIfInBounds k (.slice (some ⟨g,0,none⟩) n cap)):=fun g' hg' h=>h.set_ (zfi (by omega))
def Found (w w' : World) (gM : Nat) (tM : TypeId) (c0 : Array Value) (m : Mem) (ar at_ : Int) (was : Int) (r : zf9) : Prop:=
 ∃ gp op tp cp,r = .back (.pointer (some ⟨gp,op,none⟩)) /\ gM <= gp /\ Blk w' gp tp cp /\ cp[op]? = some (.int .u64 was) /\ (∃ cM,Blk w' gM tM cM /\ zbb w' w'.heap.size m cM /\ Far w c0 cM) /\
  (∀ x, ∃ cM,Blk (w'.setCell ⟨gp,op,none⟩ (.int .u64 x)) gM tM cM /\ zbb (w'.setCell ⟨gp,op,none⟩ (.int .u64 x)) w'.heap.size (m.put ar at_.toNat x) cM /\ Far w c0 cM) /\
  Below gM w w'
def zgn (w w' : World) (gM : Nat) (tM : TypeId) (c0 : Array Value) (m : Mem) (ar at_ : Int) (r : zf9) : Prop:=
 match m.at_ ar at_ with
 | some was=>Found w w' gM tM c0 m ar at_ was r
 | none=>r = .back (.pointer none) /\ Below w.heap.size w w'
theorem zib {w : World} {gM B : Nat} {tM : TypeId} {cM : Array Value} {m : Mem} {ar at_ : Int} {k : Nat} {was : Int} {o : Obj} (hM : Blk w gM tM cM) (hm : zbb w B m cM) (hB : B <= gM) (hcell : cM[k]? = some (.int .u64 was)) (hat : ∀ i,m.at_ ar i = if i = 0 then some was else none)
  (hput : ∀ x,zbb w B (m.put ar 0 x) (cM.setIfInBounds k (.int .u64 x))) : zgn w (w.alloc o) gM tM cM m ar at_ (.back (if at_ = 0 then .pointer (some ⟨gM,k,none⟩) else .pointer none)):=by
 unfold zgn
 rw [hat]
 have hlt:=hM.lt
 have hsz : (w.alloc o).heap.size = w.heap.size + 1:=Array.size_push ..
 by_cases c : at_ = 0
 ·subst c
  rw [if_pos rfl]
  refine ⟨gM,k,tM,cM,rfl,Nat.le_refl _,hM.alloc _,hcell,⟨cM,hM.alloc _,?_,Far.refl _ _⟩,fun x=>⟨_,(hM.alloc _).set_ k _,?_,Far.int _ _ _ _⟩,((Below.refl _ _).alloc (Nat.le_of_lt hlt) _)⟩
  ·exact (hm.keep fun p hp=>World.cell?_alloc_lt w o p (by omega)).more (by omega)
  ·exact ((hput x).keep fun p hp=>(World.cell?_setCell_other _ _ _ _ (fun e=>by subst e; exact absurd hp (by show ¬ gM < B; omega))).trans (World.cell?_alloc_lt w o p (by omega))).more (by omega)
 ·rw [if_neg c,if_neg c]
  exact ⟨rfl,(Below.refl _ _).alloc (Nat.le_refl _) _⟩
theorem zf5 {w w1 w' : World} {gM B k : Nat} {tM : TypeId} {cM : Array Value} {m : Mem} {ar at_ : Int} {xs : List Int} {r : zf9} (hM : Blk w gM tM cM) (hB : B <= gM) (hw1 : Below w.heap.size w w1) (hat : ∀ i,m.at_ ar i = if 0 <= i then xs[i.toNat]? else none)
  (hsame : ∀ W B' v,(∀ v xs,Us w B v xs -> Us W B' v xs) -> Us W B' v xs -> zbb W B' m (cM.setIfInBounds k v)) (hput : ∀ W B' v i x,(∀ v xs,Us w B v xs -> Us W B' v xs) -> Us W B' v (xs.set i x) -> zbb W B' (m.put ar i x) (cM.setIfInBounds k v))
  (h : if 0 <= at_ /\ at_ < xs.length then ∃ g cap cur,r = .back (.pointer (some ⟨g,at_.toNat,none⟩)) /\ w1.heap.size <= g /\ Blk w' g 22 cur /\ xs.length <= cap /\ cap <= maxLen /\ cur.size = cap /\ cur.toList.take xs.length = U xs /\
     Blk w' gM tM (cM.setIfInBounds k (.slice (some ⟨g,0,none⟩) xs.length cap)) /\ Below gM w1 w'
   else r = .back (.pointer none) /\ Below w1.heap.size w1 w') : zgn w w' gM tM cM m ar at_ r:=by
 unfold zgn
 rw [hat]
 have hlt:=hM.lt
 have hs1:=hw1.size
 by_cases c : 0 <= at_ /\ at_ < xs.length
 ·rw [if_pos c] at h
  obtain ⟨g,cap,cur,rfl,hg,hcur,h1,h2,h3,h4,hM',hold⟩:=h
  rw [if_pos c.1]
  have hlen : at_.toNat < xs.length:=by omega
  rw [List.getElem?_eq_getElem hlen]
  have keep : ∀ p : Addr,p.block < B -> w'.cell? p = w.cell? p:=fun p hp=>by
   exact World.cell?_of_block ((hold.block p.block (by omega)).trans (hw1.block p.block (by omega)))
  have hgl:=hcur.lt
  have hsz:=hold.size
  have hcell : cur[at_.toNat]? = some (.int .u64 xs[at_.toNat]):=by
   have h5 : (cur.toList.take xs.length)[at_.toNat]? = (U xs)[at_.toNat]?:=by rw [h4]
   rw [List.getElem?_take,if_pos hlen,Array.getElem?_toList] at h5
   rw [h5]
   unfold U
   rw [List.getElem?_map,List.getElem?_eq_getElem hlen]
   rfl
  refine ⟨g,at_.toNat,_,cur,rfl,by omega,hcur,hcell,⟨_,hM',?_,Far.new _ _ (by omega)⟩,fun x=>⟨_,hM'.far (p:=⟨g,at_.toNat,none⟩) (show gM ≠ g by omega) _,?_,Far.new _ _ (by omega)⟩,(hw1.mono (Nat.le_of_lt hlt)).trans hold⟩
  ·exact hsame _ _ _ (fun v xs u=>(Sl.keep u keep).more (by omega)) (zdh hcur h1 h2 h3 h4 hgl)
  ·refine hput _ _ _ _ _ (fun v xs u=>(Sl.keep u fun p hp=>?_).more (by omega)) (us_set hcur h1 h2 h3 h4 hgl)
   exact (World.cell?_setCell_other _ _ _ _ (fun e=>by subst e; exact absurd hp (by show ¬ g < B; omega))).trans (keep p hp)
 ·rw [if_neg c] at h
  have hnone : (if 0 <= at_ then xs[at_.toNat]? else none) = none:=by
   split
   ·exact List.getElem?_eq_none (by omega)
   ·rfl
  rw [hnone]
  exact ⟨h.1,hw1.trans (h.2.mono hs1)⟩
set_option maxHeartbeats 4000000 in
theorem find_1 {gM B : Nat} {tM : TypeId} {cM : Array Value} {m : Mem} {d at_ old new : Int} (hM : Blk w gM tM cM) (hm : zbb w B m cM) (hB : B <= gM) (hsm : m.small) (hoth : ¬ X.oth s gM) :
  Jdo Try.prog X 23 #[.pointer (some ⟨gM,0,none⟩),.agg (acc d 1 at_ old new)] s w fun s' r w'=>s' = s /\ zgn w w' gM tM cM m 1 at_ r:=by
 unfold acc
 have hm0:=hm
 obtain ⟨v2,v3,v6,v7,v8,rfl,h2,h3,h6,h7,h8⟩:=hm
 have hlM:=hM.lt
 refine zar Try.func23 rfl ?_
 simp only [Try.ntmps23]
 refine wk8 ?_
 refine wk1 ?_
 refine zd2 (first:=?_) (captured:=?_) _ rfl ?_ ?_ ?_ Try.func34 ?_ rfl (find1 (p:=.pointer (some ⟨gM,0,none⟩)) (d:=d) (ar:=1) (at_:=at_) (old:=old) (new:=new) (Blk.new w _ _)) ?_
 rotate_left 2
 focus rfl
 focus rfl
 focus first | rfl | (go_simp; done) | (go_simp; rfl)
 focus rfl
 rintro s' r w' ⟨rfl,rfl,rfl⟩
 refine wk7 ?_
 refine wk1 ?_
 exact za6 rfl rfl ⟨rfl,zib (ar:=1) (k:=0) (was:=m.e) hM hm0 hB rfl (fun i=>by
  unfold Mem.at_ Mem.area
  by_cases ci : i = 0
  ·subst ci; rfl
  ·rw [if_neg ci]
   split
   ·simp; omega
   ·rfl) fun x=>⟨v2,v3,v6,v7,v8,rfl,h2,h3,h6,h7,h8⟩⟩
set_option maxHeartbeats 4000000 in
theorem find_2 {gM B : Nat} {tM : TypeId} {cM : Array Value} {m : Mem} {d at_ old new : Int} (hM : Blk w gM tM cM) (hm : zbb w B m cM) (hB : B <= gM) (hsm : m.small) (hoth : ¬ X.oth s gM) :
  Jdo Try.prog X 23 #[.pointer (some ⟨gM,0,none⟩),.agg (acc d 2 at_ old new)] s w fun s' r w'=>s' = s /\ zgn w w' gM tM cM m 2 at_ r:=by
 unfold acc
 have hm0:=hm
 obtain ⟨v2,v3,v6,v7,v8,rfl,h2,h3,h6,h7,h8⟩:=hm
 have hlM:=hM.lt
 refine zar Try.func23 rfl ?_
 simp only [Try.ntmps23]
 refine wk8 ?_
 refine wk1 ?_
 refine zd2 (first:=?_) (captured:=?_) _ rfl ?_ ?_ ?_ Try.func34 ?_ rfl (find1 (p:=.pointer (some ⟨gM,1,none⟩)) (d:=d) (ar:=2) (at_:=at_) (old:=old) (new:=new) (Blk.new w _ _)) ?_
 rotate_left 2
 focus rfl
 focus rfl
 focus first | rfl | (go_simp; done) | (go_simp; rfl)
 focus rfl
 rintro s' r w' ⟨rfl,rfl,rfl⟩
 refine wk7 ?_
 refine wk1 ?_
 exact za6 rfl rfl ⟨rfl,zib (ar:=2) (k:=1) (was:=m.f) hM hm0 hB rfl (fun i=>by
  unfold Mem.at_ Mem.area
  by_cases ci : i = 0
  ·subst ci; rfl
  ·rw [if_neg ci]
   split
   ·simp; omega
   ·rfl) fun x=>⟨v2,v3,v6,v7,v8,rfl,h2,h3,h6,h7,h8⟩⟩
set_option maxHeartbeats 4000000 in
theorem find_3 {gM B : Nat} {tM : TypeId} {cM : Array Value} {m : Mem} {d at_ old new : Int} (hM : Blk w gM tM cM) (hm : zbb w B m cM) (hB : B <= gM) (hsm : m.small) (hoth : ¬ X.oth s gM) :
  Jdo Try.prog X 23 #[.pointer (some ⟨gM,0,none⟩),.agg (acc d 3 at_ old new)] s w fun s' r w'=>s' = s /\ zgn w w' gM tM cM m 3 at_ r:=by
 unfold acc
 have hm0:=hm
 obtain ⟨v2,v3,v6,v7,v8,rfl,h2,h3,h6,h7,h8⟩:=hm
 have hlM:=hM.lt
 refine zar Try.func23 rfl ?_
 simp only [Try.ntmps23]
 refine wk8 ?_
 refine wk1 ?_
 refine zd2 (first:=?_) (captured:=?_) _ rfl ?_ ?_ ?_ Try.func35 ?_ rfl (find2 (B:=B) (kM:=2) (d:=d) (ar:=3) (at_:=at_) (old:=old) (new:=new) (Blk.new w _ _) (hM.alloc _) rfl (Sl.alloc h2 (show B <= w.heap.size by omega) _) hB (show w.heap.size ≠ gM by omega) hsm.1 hoth) ?_
 rotate_left 2
 focus rfl
 focus rfl
 focus first | rfl | (go_simp; done) | (go_simp; rfl)
 focus rfl
 rintro s' r w' ⟨rfl,hr⟩
 obtain ⟨p,rfl⟩ : ∃ p,r = .back p:=by
  split at hr
  ·obtain ⟨g,cap,cur,hr,_⟩:=hr; exact ⟨_,hr⟩
  ·exact ⟨_,hr.1⟩
 refine wk7 ?_
 refine wk1 ?_
 refine za6 rfl rfl ⟨rfl,?_⟩
 exact zf5 (m:=m) (ar:=3) (at_:=at_) (xs:=m.li) (k:=2) hM hB ((Below.refl _ _).alloc (Nat.le_refl _) _) (fun i=>rfl) (fun W B' v f u=>⟨v,v3,v6,v7,v8,rfl,u,f _ _ h3,f _ _ h6,f _ _ h7,f _ _ h8⟩) (fun W B' v i x f u=>⟨v,v3,v6,v7,v8,rfl,u,f _ _ h3,f _ _ h6,f _ _ h7,f _ _ h8⟩) hr
set_option maxHeartbeats 4000000 in
theorem find_4 {gM B : Nat} {tM : TypeId} {cM : Array Value} {m : Mem} {d at_ old new : Int} (hM : Blk w gM tM cM) (hm : zbb w B m cM) (hB : B <= gM) (hsm : m.small) (hoth : ¬ X.oth s gM) :
  Jdo Try.prog X 23 #[.pointer (some ⟨gM,0,none⟩),.agg (acc d 4 at_ old new)] s w fun s' r w'=>s' = s /\ zgn w w' gM tM cM m 4 at_ r:=by
 unfold acc
 have hm0:=hm
 obtain ⟨v2,v3,v6,v7,v8,rfl,h2,h3,h6,h7,h8⟩:=hm
 have hlM:=hM.lt
 refine zar Try.func23 rfl ?_
 simp only [Try.ntmps23]
 refine wk8 ?_
 refine wk1 ?_
 refine zd2 (first:=?_) (captured:=?_) _ rfl ?_ ?_ ?_ Try.func35 ?_ rfl (find2 (B:=B) (kM:=3) (d:=d) (ar:=4) (at_:=at_) (old:=old) (new:=new) (Blk.new w _ _) (hM.alloc _) rfl (Sl.alloc h3 (show B <= w.heap.size by omega) _) hB (show w.heap.size ≠ gM by omega) hsm.2.1 hoth) ?_
 rotate_left 2
 focus rfl
 focus rfl
 focus first | rfl | (go_simp; done) | (go_simp; rfl)
 focus rfl
 rintro s' r w' ⟨rfl,hr⟩
 obtain ⟨p,rfl⟩ : ∃ p,r = .back p:=by
  split at hr
  ·obtain ⟨g,cap,cur,hr,_⟩:=hr; exact ⟨_,hr⟩
  ·exact ⟨_,hr.1⟩
 refine wk7 ?_
 refine wk1 ?_
 refine za6 rfl rfl ⟨rfl,?_⟩
 exact zf5 (m:=m) (ar:=4) (at_:=at_) (xs:=m.pi) (k:=3) hM hB ((Below.refl _ _).alloc (Nat.le_refl _) _) (fun i=>rfl) (fun W B' v f u=>⟨v2,v,v6,v7,v8,rfl,f _ _ h2,u,f _ _ h6,f _ _ h7,f _ _ h8⟩) (fun W B' v i x f u=>⟨v2,v,v6,v7,v8,rfl,f _ _ h2,u,f _ _ h6,f _ _ h7,f _ _ h8⟩) hr
set_option maxHeartbeats 4000000 in
theorem find_5 {gM B : Nat} {tM : TypeId} {cM : Array Value} {m : Mem} {d at_ old new : Int} (hM : Blk w gM tM cM) (hm : zbb w B m cM) (hB : B <= gM) (hsm : m.small) (hoth : ¬ X.oth s gM) :
  Jdo Try.prog X 23 #[.pointer (some ⟨gM,0,none⟩),.agg (acc d 5 at_ old new)] s w fun s' r w'=>s' = s /\ zgn w w' gM tM cM m 5 at_ r:=by
 unfold acc
 have hm0:=hm
 obtain ⟨v2,v3,v6,v7,v8,rfl,h2,h3,h6,h7,h8⟩:=hm
 have hlM:=hM.lt
 refine zar Try.func23 rfl ?_
 simp only [Try.ntmps23]
 refine wk8 ?_
 refine wk1 ?_
 refine zd2 (first:=?_) (captured:=?_) _ rfl ?_ ?_ ?_ Try.func34 ?_ rfl (find1 (p:=.pointer (some ⟨gM,4,none⟩)) (d:=d) (ar:=5) (at_:=at_) (old:=old) (new:=new) (Blk.new w _ _)) ?_
 rotate_left 2
 focus rfl
 focus rfl
 focus first | rfl | (go_simp; done) | (go_simp; rfl)
 focus rfl
 rintro s' r w' ⟨rfl,rfl,rfl⟩
 refine wk7 ?_
 refine wk1 ?_
 exact za6 rfl rfl ⟨rfl,zib (ar:=5) (k:=4) (was:=m.h) hM hm0 hB rfl (fun i=>by
  unfold Mem.at_ Mem.area
  by_cases ci : i = 0
  ·subst ci; rfl
  ·rw [if_neg ci]
   split
   ·simp; omega
   ·rfl) fun x=>⟨v2,v3,v6,v7,v8,rfl,h2,h3,h6,h7,h8⟩⟩
set_option maxHeartbeats 4000000 in
theorem find_6 {gM B : Nat} {tM : TypeId} {cM : Array Value} {m : Mem} {d at_ old new : Int} (hM : Blk w gM tM cM) (hm : zbb w B m cM) (hB : B <= gM) (hsm : m.small) (hoth : ¬ X.oth s gM) :
  Jdo Try.prog X 23 #[.pointer (some ⟨gM,0,none⟩),.agg (acc d 6 at_ old new)] s w fun s' r w'=>s' = s /\ zgn w w' gM tM cM m 6 at_ r:=by
 unfold acc
 have hm0:=hm
 obtain ⟨v2,v3,v6,v7,v8,rfl,h2,h3,h6,h7,h8⟩:=hm
 have hlM:=hM.lt
 refine zar Try.func23 rfl ?_
 simp only [Try.ntmps23]
 refine wk8 ?_
 refine wk1 ?_
 refine zd2 (first:=?_) (captured:=?_) _ rfl ?_ ?_ ?_ Try.func34 ?_ rfl (find1 (p:=.pointer (some ⟨gM,5,none⟩)) (d:=d) (ar:=6) (at_:=at_) (old:=old) (new:=new) (Blk.new w _ _)) ?_
 rotate_left 2
 focus rfl
 focus rfl
 focus first | rfl | (go_simp; done) | (go_simp; rfl)
 focus rfl
 rintro s' r w' ⟨rfl,rfl,rfl⟩
 refine wk7 ?_
 refine wk1 ?_
 exact za6 rfl rfl ⟨rfl,zib (ar:=6) (k:=5) (was:=m.t) hM hm0 hB rfl (fun i=>by
  unfold Mem.at_ Mem.area
  by_cases ci : i = 0
  ·subst ci; rfl
  ·rw [if_neg ci]
   split
   ·simp; omega
   ·rfl) fun x=>⟨v2,v3,v6,v7,v8,rfl,h2,h3,h6,h7,h8⟩⟩
set_option maxHeartbeats 4000000 in
theorem find_7 {gM B : Nat} {tM : TypeId} {cM : Array Value} {m : Mem} {d at_ old new : Int} (hM : Blk w gM tM cM) (hm : zbb w B m cM) (hB : B <= gM) (hsm : m.small) (hoth : ¬ X.oth s gM) :
  Jdo Try.prog X 23 #[.pointer (some ⟨gM,0,none⟩),.agg (acc d 7 at_ old new)] s w fun s' r w'=>s' = s /\ zgn w w' gM tM cM m 7 at_ r:=by
 unfold acc
 have hm0:=hm
 obtain ⟨v2,v3,v6,v7,v8,rfl,h2,h3,h6,h7,h8⟩:=hm
 have hlM:=hM.lt
 refine zar Try.func23 rfl ?_
 simp only [Try.ntmps23]
 refine wk8 ?_
 refine wk1 ?_
 refine zd2 (first:=?_) (captured:=?_) _ rfl ?_ ?_ ?_ Try.func35 ?_ rfl (find2 (B:=B) (kM:=6) (d:=d) (ar:=7) (at_:=at_) (old:=old) (new:=new) (Blk.new w _ _) (hM.alloc _) rfl (Sl.alloc h6 (show B <= w.heap.size by omega) _) hB (show w.heap.size ≠ gM by omega) hsm.2.2.1 hoth) ?_
 rotate_left 2
 focus rfl
 focus rfl
 focus first | rfl | (go_simp; done) | (go_simp; rfl)
 focus rfl
 rintro s' r w' ⟨rfl,hr⟩
 obtain ⟨p,rfl⟩ : ∃ p,r = .back p:=by
  split at hr
  ·obtain ⟨g,cap,cur,hr,_⟩:=hr; exact ⟨_,hr⟩
  ·exact ⟨_,hr.1⟩
 refine wk7 ?_
 refine wk1 ?_
 refine za6 rfl rfl ⟨rfl,?_⟩
 exact zf5 (m:=m) (ar:=7) (at_:=at_) (xs:=m.ln) (k:=6) hM hB ((Below.refl _ _).alloc (Nat.le_refl _) _) (fun i=>rfl) (fun W B' v f u=>⟨v2,v3,v,v7,v8,rfl,f _ _ h2,f _ _ h3,u,f _ _ h7,f _ _ h8⟩) (fun W B' v i x f u=>⟨v2,v3,v,v7,v8,rfl,f _ _ h2,f _ _ h3,u,f _ _ h7,f _ _ h8⟩) hr
set_option maxHeartbeats 4000000 in
theorem find_8 {gM B : Nat} {tM : TypeId} {cM : Array Value} {m : Mem} {d at_ old new : Int} (hM : Blk w gM tM cM) (hm : zbb w B m cM) (hB : B <= gM) (hsm : m.small) (hoth : ¬ X.oth s gM) :
  Jdo Try.prog X 23 #[.pointer (some ⟨gM,0,none⟩),.agg (acc d 8 at_ old new)] s w fun s' r w'=>s' = s /\ zgn w w' gM tM cM m 8 at_ r:=by
 unfold acc
 have hm0:=hm
 obtain ⟨v2,v3,v6,v7,v8,rfl,h2,h3,h6,h7,h8⟩:=hm
 have hlM:=hM.lt
 refine zar Try.func23 rfl ?_
 simp only [Try.ntmps23]
 refine wk8 ?_
 refine wk1 ?_
 refine zd2 (first:=?_) (captured:=?_) _ rfl ?_ ?_ ?_ Try.func35 ?_ rfl (find2 (B:=B) (kM:=7) (d:=d) (ar:=8) (at_:=at_) (old:=old) (new:=new) (Blk.new w _ _) (hM.alloc _) rfl (Sl.alloc h7 (show B <= w.heap.size by omega) _) hB (show w.heap.size ≠ gM by omega) hsm.2.2.2.1 hoth) ?_
 rotate_left 2
 focus rfl
 focus rfl
 focus first | rfl | (go_simp; done) | (go_simp; rfl)
 focus rfl
 rintro s' r w' ⟨rfl,hr⟩
 obtain ⟨p,rfl⟩ : ∃ p,r = .back p:=by
  split at hr
  ·obtain ⟨g,cap,cur,hr,_⟩:=hr; exact ⟨_,hr⟩
  ·exact ⟨_,hr.1⟩
 refine wk7 ?_
 refine wk1 ?_
 refine za6 rfl rfl ⟨rfl,?_⟩
 exact zf5 (m:=m) (ar:=8) (at_:=at_) (xs:=m.nx) (k:=7) hM hB ((Below.refl _ _).alloc (Nat.le_refl _) _) (fun i=>rfl) (fun W B' v f u=>⟨v2,v3,v6,v,v8,rfl,f _ _ h2,f _ _ h3,f _ _ h6,u,f _ _ h8⟩) (fun W B' v i x f u=>⟨v2,v3,v6,v,v8,rfl,f _ _ h2,f _ _ h3,f _ _ h6,u,f _ _ h8⟩) hr
set_option maxHeartbeats 4000000 in
theorem find_9 {gM B : Nat} {tM : TypeId} {cM : Array Value} {m : Mem} {d at_ old new : Int} (hM : Blk w gM tM cM) (hm : zbb w B m cM) (hB : B <= gM) (hsm : m.small) (hoth : ¬ X.oth s gM) :
  Jdo Try.prog X 23 #[.pointer (some ⟨gM,0,none⟩),.agg (acc d 9 at_ old new)] s w fun s' r w'=>s' = s /\ zgn w w' gM tM cM m 9 at_ r:=by
 unfold acc
 have hm0:=hm
 obtain ⟨v2,v3,v6,v7,v8,rfl,h2,h3,h6,h7,h8⟩:=hm
 have hlM:=hM.lt
 refine zar Try.func23 rfl ?_
 simp only [Try.ntmps23]
 refine wk8 ?_
 refine wk1 ?_
 refine zd2 (first:=?_) (captured:=?_) _ rfl ?_ ?_ ?_ Try.func35 ?_ rfl (find2 (B:=B) (kM:=8) (d:=d) (ar:=9) (at_:=at_) (old:=old) (new:=new) (Blk.new w _ _) (hM.alloc _) rfl (Sl.alloc h8 (show B <= w.heap.size by omega) _) hB (show w.heap.size ≠ gM by omega) hsm.2.2.2.2 hoth) ?_
 rotate_left 2
 focus rfl
 focus rfl
 focus first | rfl | (go_simp; done) | (go_simp; rfl)
 focus rfl
 rintro s' r w' ⟨rfl,hr⟩
 obtain ⟨p,rfl⟩ : ∃ p,r = .back p:=by
  split at hr
  ·obtain ⟨g,cap,cur,hr,_⟩:=hr; exact ⟨_,hr⟩
  ·exact ⟨_,hr.1⟩
 refine wk7 ?_
 refine wk1 ?_
 refine za6 rfl rfl ⟨rfl,?_⟩
 exact zf5 (m:=m) (ar:=9) (at_:=at_) (xs:=m.sl) (k:=8) hM hB ((Below.refl _ _).alloc (Nat.le_refl _) _) (fun i=>rfl) (fun W B' v f u=>⟨v2,v3,v6,v7,v,rfl,f _ _ h2,f _ _ h3,f _ _ h6,f _ _ h7,u⟩) (fun W B' v i x f u=>⟨v2,v3,v6,v7,v,rfl,f _ _ h2,f _ _ h3,f _ _ h6,f _ _ h7,u⟩) hr
set_option maxHeartbeats 4000000 in
theorem find_none {gM : Nat} {tM : TypeId} {cM : Array Value} {m : Mem} {d ar at_ old new : Int} (c : ∀ k : Int,1 <= k -> k <= 9 -> ar ≠ k) :
  Jdo Try.prog X 23 #[.pointer (some ⟨gM,0,none⟩),.agg (acc d ar at_ old new)] s w fun s' r w'=>s' = s /\ zgn w w' gM tM cM m ar at_ r:=by
 unfold acc
 have c1:=c 1 (by decide) (by decide); have c2:=c 2 (by decide) (by decide); have c3:=c 3 (by decide) (by decide); have c4:=c 4 (by decide) (by decide); have c5:=c 5 (by decide) (by decide); have c6:=c 6 (by decide) (by decide); have c7:=c 7 (by decide) (by decide); have c8:=c 8 (by decide) (by decide); have c9:=c 9 (by decide) (by decide)
 clear c
 have hk : ∀ k : Int,k = 1 \/ k = 2 \/ k = 3 \/ k = 4 \/ k = 5 \/ k = 6 \/ k = 7 \/ k = 8 \/ k = 9 -> (ar == k) = false:=by
  rintro k hk
  simp only [beq_eq_false_iff_ne,ne_eq]
  omega
 have e1:=hk 1 (by decide); have e2:=hk 2 (by decide); have e3:=hk 3 (by decide); have e4:=hk 4 (by decide); have e5:=hk 5 (by decide); have e6:=hk 6 (by decide); have e7:=hk 7 (by decide); have e8:=hk 8 (by decide); have e9:=hk 9 (by decide)
 clear hk
 refine zar Try.func23 rfl ?_
 simp only [Try.ntmps23]
 refine wk8 ?_
 refine wk1 ?_
 have hnone : m.at_ ar at_ = none:=by
  unfold Mem.at_ Mem.area
  rw [if_neg c1,if_neg c2,if_neg c3,if_neg c4,if_neg c5,if_neg c6,if_neg c7,if_neg c8,if_neg c9]
  split <;> rfl
 refine za6 rfl rfl ⟨rfl,?_⟩
 unfold zgn
 rw [hnone]
 exact ⟨rfl,(Below.refl _ _).alloc (Nat.le_refl _) _⟩
theorem find {gM B : Nat} {tM : TypeId} {cM : Array Value} {m : Mem} {d ar at_ old new : Int} (hM : Blk w gM tM cM) (hm : zbb w B m cM) (hB : B <= gM) (hsm : m.small) (hoth : ¬ X.oth s gM) :
  Jdo Try.prog X 23 #[.pointer (some ⟨gM,0,none⟩),.agg (acc d ar at_ old new)] s w fun s' r w'=>s' = s /\ zgn w w' gM tM cM m ar at_ r:=by
 by_cases c1 : ar = 1
 ·subst c1; exact find_1 hM hm hB hsm hoth
 by_cases c2 : ar = 2
 ·subst c2; exact find_2 hM hm hB hsm hoth
 by_cases c3 : ar = 3
 ·subst c3; exact find_3 hM hm hB hsm hoth
 by_cases c4 : ar = 4
 ·subst c4; exact find_4 hM hm hB hsm hoth
 by_cases c5 : ar = 5
 ·subst c5; exact find_5 hM hm hB hsm hoth
 by_cases c6 : ar = 6
 ·subst c6; exact find_6 hM hm hB hsm hoth
 by_cases c7 : ar = 7
 ·subst c7; exact find_7 hM hm hB hsm hoth
 by_cases c8 : ar = 8
 ·subst c8; exact find_8 hM hm hB hsm hoth
 by_cases c9 : ar = 9
 ·subst c9; exact find_9 hM hm hB hsm hoth
 exact find_none fun k h1 h2=>by omega
end
end
section
section
variable {γ : Type} {X : zad γ} {s : γ} {w : World}
attribute [local go_sem] upon_value upon_skip
def Mem.act (m : Mem) (d ar at_ old new : Int) : Mem × Int × Bool:=
 match m.at_ ar at_ with
 | none=>(m,0,false)
 | some was=>if inB d 1 3 = false then (m,0,false) else if d = 1 \/ d = 3 /\ was ≠ old then (m,was,false) else (m.put ar at_.toNat new,was,true)
set_option maxHeartbeats 8000000 in
theorem act2 {B : Nat} {m : Mem} {cs : Array Value} {d ar at_ old new : Int} (hm : zbb w B m cs) (hB : B <= w.heap.size) (hsm : m.small) :
  Jdo Try.prog X 10 #[.agg cs,.agg (acc d ar at_ old new)] s w fun s' r w'=>s' = s /\ Below w.heap.size w w' /\
   ∃ cs',r = .back (.tuple #[.agg cs',.int .u64 (m.act d ar at_ old new).2.1,.bool (m.act d ar at_ old new).2.2]) /\ zbb w' w'.heap.size (m.act d ar at_ old new).1 cs' /\ Far w cs cs':=by
 refine Jdo.there fun ht=>?_
 have hoth : ∀ b,w.heap.size <= b -> ¬ X.oth s b:=fun b hb ho=>by have:=ht b ho; omega
 have hm0:=hm
 obtain ⟨v2,v3,v6,v7,v8,rfl,h2,h3,h6,h7,h8⟩:=hm
 unfold acc
 obtain ⟨W0,hW0⟩ : ∃ W0,W0 = ((w.alloc (.cells #[.int .u64 m.e,.int .u64 m.f,v2,v3,.int .u64 m.h,.int .u64 m.t,v6,v7,v8] 25)).alloc (.cells (acc d ar at_ old new) 27)).alloc
   (.cells #[.int .u64 0,.int .u64 0,.slice none 0 0,.slice none 0 0,.int .u64 0,.int .u64 0,.slice none 0 0,.slice none 0 0,.slice none 0 0] 25):=⟨_,rfl⟩
 have b0 : Blk W0 w.heap.size _ _:=hW0 ▸ ((Blk.new w _ _).alloc _).alloc _
 have b1 : Blk W0 (w.heap.size + 1) _ _:=hW0 ▸ (Blk.new1 w _ _ _).alloc _
 have b2 : Blk W0 (w.heap.size + 1 + 1) _ _:=hW0 ▸ Blk.new2 w _ _ _ _
 have hb0 : Below w.heap.size w W0:=hW0 ▸ (((Below.refl _ _).alloc (Nat.le_refl _) _).alloc (by simp) _).alloc (by simp; omega) _
 unfold acc at hW0
 refine zar Try.func10 rfl ?_
 simp only [Try.ntmps10]
 refine wk8 ?_
 refine wk1 ?_
 rw [<- hW0]
 have hone : ∀ u ∈ (Value.agg #[.int .u64 m.e,.int .u64 m.f,v2,v3,.int .u64 m.h,.int .u64 m.t,v6,v7,v8]).cells.toList,u.oneCell' = true:=by
  obtain ⟨A2,c2,rfl,_⟩:=h2.form
  obtain ⟨A3,c3,rfl,_⟩:=h3.form
  obtain ⟨A6,c6,rfl,_⟩:=h6.form
  obtain ⟨A7,c7,rfl,_⟩:=h7.form
  obtain ⟨A8,c8,rfl,_⟩:=h8.form
  simp [Value.cells,Value.oneCell']
 refine zaj (za7 (v:=.agg #[.int .u64 m.e,.int .u64 m.f,v2,v3,.int .u64 m.h,.int .u64 m.t,v6,v7,v8]) (cs':=#[.int .u64 m.e,.int .u64 m.f,v2,v3,.int .u64 m.h,.int .u64 m.t,v6,v7,v8]) rfl rfl rfl rfl b2 (hoth _ (by omega)) (by kernel_rfl) (Nat.le_of_ble_eq_true rfl) hone rfl ?_)
 refine wk7 ?_
 generalize hW1 : W0.setRow (w.heap.size + 1 + 1) #[.int .u64 m.e,.int .u64 m.f,v2,v3,.int .u64 m.h,.int .u64 m.t,v6,v7,v8] = W1
 have c0 : Blk W1 w.heap.size _ _:=hW1 ▸ b0.row_far _ (by omega)
 have c1 : Blk W1 (w.heap.size + 1) _ _:=hW1 ▸ b1.row_far _ (by omega)
 have c2 : Blk W1 (w.heap.size + 1 + 1) _ _:=hW1 ▸ b2.row _
 have hb1 : Below w.heap.size w W1:=hW1 ▸ zaf hb0 _ (by omega)
 clear hW1 hW0 b0 b1 b2 hb0 W0
 have d1:=c1.cell
 have d0:=c0.cell
 have l2:=c2.lt
 unfold acc at d1
 refine wk1 ?_
 refine zbf _ rfl ?_ ?_ Try.func23 ?_ rfl (find (d:=d) (ar:=ar) (at_:=at_) (old:=old) (new:=new) c2 (hm0.below (hb1.mono hB)) (by omega) hsm (hoth _ (by omega))) ?_
 focus rfl
 focus first | rfl | (go_simp; done) | (go_simp; rfl)
 focus rfl
 rintro s' r w' ⟨rfl,hr⟩
 unfold zgn at hr
 cases hat : m.at_ ar at_ with
 | none=>
  rw [hat] at hr
  obtain ⟨rfl,hb2⟩:=hr
  have hact : m.act d ar at_ old new = (m,0,false):=by unfold Mem.act; rw [hat]
  have e0 : Blk w' _ _ _:=c0.below hb2 c0.lt
  have e2 : Blk w' _ _ _:=c2.below hb2 c2.lt
  have hb3:=hb1.trans (hb2.mono hb1.size)
  clear d0 d1
  have d0:=e0.cell
  refine wk7 ?_
  refine wk1 ?_
  refine zaj (za7 (v:=.agg #[.int .u64 m.e,.int .u64 m.f,v2,v3,.int .u64 m.h,.int .u64 m.t,v6,v7,v8]) (cs':=#[.int .u64 m.e,.int .u64 m.f,v2,v3,.int .u64 m.h,.int .u64 m.t,v6,v7,v8]) rfl rfl rfl rfl e2 (hoth _ (by omega)) (by kernel_rfl) (Nat.le_of_ble_eq_true rfl) hone rfl ?_)
  refine wk7 ?_
  generalize hW2 : w'.setRow (w.heap.size + 1 + 1) #[.int .u64 m.e,.int .u64 m.f,v2,v3,.int .u64 m.h,.int .u64 m.t,v6,v7,v8] = W2
  have f2 : Blk W2 (w.heap.size + 1 + 1) _ _:=hW2 ▸ e2.row _
  have hb4 : Below w.heap.size w W2:=hW2 ▸ zaf hb3 _ (by omega)
  have d2:=f2.cell
  refine wk1 ?_
  exact zb0 (.tuple #[.agg #[.int .u64 m.e,.int .u64 m.f,v2,v3,.int .u64 m.h,.int .u64 m.t,v6,v7,v8],.int .u64 0,.bool false]) rfl (by simp [results,go_sem,d2]) ⟨rfl,hb4,_,by rw [hact],by rw [hact]; exact zbb.more (B':=W2.heap.size) (hm0.below (hb4.mono hB)) (by have:=f2.lt; omega),Far.refl _ _⟩
 | some was=>
  rw [hat] at hr
  obtain ⟨gp,op,tp,cp,rfl,hge,hcp,hwas,⟨cM,hcM,hmM,hfM⟩,hset,hold⟩:=hr
  have hmM':=hmM
  obtain ⟨u2,u3,u6,u7,u8,rfl,z2,z3,z6,z7,z8⟩:=hmM'
  have e0 : Blk w' w.heap.size _ _:=c0.below hold (by omega)
  have e1 : Blk w' (w.heap.size + 1) _ _:=c1.below hold (by omega)
  have hb3 : Below w.heap.size w w':=hb1.trans (hold.mono (by omega))
  clear d0 d1
  have d0:=e0.cell
  have d1:=e1.cell
  have d2:=hcM.cell
  have dp:=hcp.cell op
  rw [hwas] at dp
  have fp:=hcp.frozen op
  unfold acc at d1
  refine wk7 ?_
  refine wk1 ?_
  refine zbf _ rfl ?_ ?_ Try.func24 ?_ rfl (within d 1 3) ?_
  focus rfl
  focus first | rfl | (go_simp; done) | (go_simp; rfl)
  focus rfl
  rintro s' r w' ⟨rfl,rfl,rfl⟩
  refine wk7 ?_
  cases hd : inB d 1 3 with
  | false=>
   have hact : m.act d ar at_ old new = (m,0,false):=by unfold Mem.act; rw [hat]; simp [hd]
   refine wk1 ?_
   refine zaj (za7 (v:=.agg #[.int .u64 m.e,.int .u64 m.f,v2,v3,.int .u64 m.h,.int .u64 m.t,v6,v7,v8]) (cs':=#[.int .u64 m.e,.int .u64 m.f,v2,v3,.int .u64 m.h,.int .u64 m.t,v6,v7,v8]) rfl rfl rfl rfl hcM (hoth _ (by omega)) (by kernel_rfl) (Nat.le_of_ble_eq_true rfl) hone rfl ?_)
   refine wk7 ?_
   generalize hW2 : w'.setRow (w.heap.size + 1 + 1) #[.int .u64 m.e,.int .u64 m.f,v2,v3,.int .u64 m.h,.int .u64 m.t,v6,v7,v8] = W2
   have f2 : Blk W2 (w.heap.size + 1 + 1) _ _:=hW2 ▸ hcM.row _
   have hb4 : Below w.heap.size w W2:=hW2 ▸ zaf hb3 _ (by omega)
   clear d2
   have d2:=f2.cell
   refine wk1 ?_
   exact zb0 (.tuple #[.agg #[.int .u64 m.e,.int .u64 m.f,v2,v3,.int .u64 m.h,.int .u64 m.t,v6,v7,v8],.int .u64 0,.bool false]) rfl (by simp [results,go_sem,d2]) ⟨rfl,hb4,_,by rw [hact],by rw [hact]; exact zbb.more (B':=W2.heap.size) (hm0.below (hb4.mono hB)) (by have:=f2.lt; omega),Far.refl _ _⟩
  | true=>
   have hd3 : d = 1 \/ d = 2 \/ d = 3:=by
    unfold inB at hd
    simp at hd
    omega
   have l2':=hcM.lt
   rcases hd3 with rfl | rfl | rfl
   ·have hact : m.act 1 ar at_ old new = (m,was,false):=by unfold Mem.act; rw [hat]; simp [hd]
    refine wk1 ?_
    clear d2
    have d2:=Blk.cell hcM
    refine wk1 ?_
    refine zaj (za7 (v:=.agg #[_,_,u2,u3,_,_,u6,u7,u8]) (cs':=#[_,_,u2,u3,_,_,u6,u7,u8]) rfl rfl rfl rfl hcM (hoth _ (by omega)) (by kernel_rfl) (Nat.le_of_ble_eq_true rfl) ?_ rfl ?_)
    focus
     obtain ⟨A2,k2,rfl,_⟩:=z2.form
     obtain ⟨A3,k3,rfl,_⟩:=z3.form
     obtain ⟨A6,k6,rfl,_⟩:=z6.form
     obtain ⟨A7,k7,rfl,_⟩:=z7.form
     obtain ⟨A8,k8,rfl,_⟩:=z8.form
     simp [Value.cells,Value.oneCell']
    rw [setRow_self _ _ _ _ _ hcM]
    refine wk7 ?_
    refine wk1 ?_
    exact zb0 (.tuple #[.agg #[.int .u64 (Mem.e m),.int .u64 (Mem.f m),u2,u3,.int .u64 (Mem.h m),.int .u64 (Mem.t m),u6,u7,u8],.int .u64 was,.bool false]) rfl (by simp [results,go_sem,d2]) ⟨rfl,hb3,_,by rw [hact],by rw [hact]; exact hmM,fun g hg h=>hfM g (by have:=hb1.size; omega) h⟩
   ·have hact : m.act 2 ar at_ old new = (m.put ar at_.toNat new,was,true):=by unfold Mem.act; rw [hat]; simp [hd]
    refine wk1 ?_
    refine zdy ?_ ?_ (fun K hK=>?_)
    focus rfl
    focus exact fun ht=>zcy rfl rfl dp (hoth _ (by first | omega | (dsimp only <;> omega))) ht
    go_simp
    refine hK _ _ _ ?_
    clear hK K
    obtain ⟨cN,hcN,hmN,hfN⟩:=hset new
    have hsz : (w'.setCell ⟨gp,op,none⟩ (.int .u64 new)).heap.size = w'.heap.size:=size_setCell _ _ _
    have hb4 : Below w.heap.size w (w'.setCell ⟨gp,op,none⟩ (.int .u64 new)):=hb3.setCell (p:=⟨gp,op,none⟩) (by dsimp only; omega) _
    generalize hW2 : w'.setCell ⟨gp,op,none⟩ (.int .u64 new) = W2 at hcN hmN hsz hb4 ⊢
    rw [<- hsz] at hmN
    have hmN':=hmN
    obtain ⟨x2,x3,x6,x7,x8,rfl,y2,y3,y6,y7,y8⟩:=hmN'
    clear d2
    have d2:=Blk.cell hcN
    refine wk1 ?_
    refine zaj (za7 (v:=.agg #[_,_,x2,x3,_,_,x6,x7,x8]) (cs':=#[_,_,x2,x3,_,_,x6,x7,x8]) rfl rfl rfl rfl hcN (hoth _ (by omega)) (by kernel_rfl) (Nat.le_of_ble_eq_true rfl) ?_ rfl ?_)
    focus
     obtain ⟨A2,k2,rfl,_⟩:=y2.form
     obtain ⟨A3,k3,rfl,_⟩:=y3.form
     obtain ⟨A6,k6,rfl,_⟩:=y6.form
     obtain ⟨A7,k7,rfl,_⟩:=y7.form
     obtain ⟨A8,k8,rfl,_⟩:=y8.form
     simp [Value.cells,Value.oneCell']
    rw [setRow_self _ _ _ _ _ hcN]
    refine wk7 ?_
    refine wk1 ?_
    exact zb0 (.tuple #[.agg #[.int .u64 (Mem.e (m.put ar at_.toNat new)),.int .u64 (Mem.f (m.put ar at_.toNat new)),x2,x3,.int .u64 (Mem.h (m.put ar at_.toNat new)),.int .u64 (Mem.t (m.put ar at_.toNat new)),x6,x7,x8],.int .u64 was,.bool true]) rfl (by simp [results,go_sem,d2]) ⟨rfl,hb4,_,by rw [hact],by rw [hact]; exact hmN,fun g hg h=>hfN g (by have:=hb1.size; omega) h⟩
   ·by_cases hwo : was = old
    ·subst hwo
     have hact : m.act 3 ar at_ was new = (m.put ar at_.toNat new,was,true):=by unfold Mem.act; rw [hat]; simp [hd]
     refine wk1 ?_
     refine zdy ?_ ?_ (fun K hK=>?_)
     focus rfl
     focus exact fun ht=>zcy rfl rfl dp (hoth _ (by first | omega | (dsimp only <;> omega))) ht
     go_simp
     refine hK _ _ _ ?_
     clear hK K
     obtain ⟨cN,hcN,hmN,hfN⟩:=hset new
     have hsz : (w'.setCell ⟨gp,op,none⟩ (.int .u64 new)).heap.size = w'.heap.size:=size_setCell _ _ _
     have hb4 : Below w.heap.size w (w'.setCell ⟨gp,op,none⟩ (.int .u64 new)):=hb3.setCell (p:=⟨gp,op,none⟩) (by dsimp only; omega) _
     generalize hW2 : w'.setCell ⟨gp,op,none⟩ (.int .u64 new) = W2 at hcN hmN hsz hb4 ⊢
     rw [<- hsz] at hmN
     have hmN':=hmN
     obtain ⟨x2,x3,x6,x7,x8,rfl,y2,y3,y6,y7,y8⟩:=hmN'
     clear d2
     have d2:=Blk.cell hcN
     refine wk1 ?_
     refine zaj (za7 (v:=.agg #[_,_,x2,x3,_,_,x6,x7,x8]) (cs':=#[_,_,x2,x3,_,_,x6,x7,x8]) rfl rfl rfl rfl hcN (hoth _ (by omega)) (by kernel_rfl) (Nat.le_of_ble_eq_true rfl) ?_ rfl ?_)
     focus
      obtain ⟨A2,k2,rfl,_⟩:=y2.form
      obtain ⟨A3,k3,rfl,_⟩:=y3.form
      obtain ⟨A6,k6,rfl,_⟩:=y6.form
      obtain ⟨A7,k7,rfl,_⟩:=y7.form
      obtain ⟨A8,k8,rfl,_⟩:=y8.form
      simp [Value.cells,Value.oneCell']
     rw [setRow_self _ _ _ _ _ hcN]
     refine wk7 ?_
     refine wk1 ?_
     exact zb0 (.tuple #[.agg #[.int .u64 (Mem.e (m.put ar at_.toNat new)),.int .u64 (Mem.f (m.put ar at_.toNat new)),x2,x3,.int .u64 (Mem.h (m.put ar at_.toNat new)),.int .u64 (Mem.t (m.put ar at_.toNat new)),x6,x7,x8],.int .u64 was,.bool true]) rfl (by simp [results,go_sem,d2]) ⟨rfl,hb4,_,by rw [hact],by rw [hact]; exact hmN,fun g hg h=>hfN g (by have:=hb1.size; omega) h⟩
    ·have hb : (was != old) = true:=by simpa using hwo
     have hact : m.act 3 ar at_ old new = (m,was,false):=by unfold Mem.act; rw [hat]; simp [hd,hwo]
     refine wk1 ?_
     refine zaj (za7 (v:=.agg #[.int .u64 m.e,.int .u64 m.f,v2,v3,.int .u64 m.h,.int .u64 m.t,v6,v7,v8]) (cs':=#[.int .u64 m.e,.int .u64 m.f,v2,v3,.int .u64 m.h,.int .u64 m.t,v6,v7,v8]) rfl rfl rfl rfl hcM (hoth _ (by omega)) (by kernel_rfl) (Nat.le_of_ble_eq_true rfl) hone rfl ?_)
     refine wk7 ?_
     generalize hW2 : w'.setRow (w.heap.size + 1 + 1) #[.int .u64 m.e,.int .u64 m.f,v2,v3,.int .u64 m.h,.int .u64 m.t,v6,v7,v8] = W2
     have f2 : Blk W2 (w.heap.size + 1 + 1) _ _:=hW2 ▸ hcM.row _
     have hb4 : Below w.heap.size w W2:=hW2 ▸ zaf hb3 _ (by omega)
     clear d2
     have d2:=f2.cell
     refine wk1 ?_
     exact zb0 (.tuple #[.agg #[.int .u64 m.e,.int .u64 m.f,v2,v3,.int .u64 m.h,.int .u64 m.t,v6,v7,v8],.int .u64 was,.bool false]) rfl (by simp [results,go_sem,d2]) ⟨rfl,hb4,_,by rw [hact],by rw [hact]; exact zbb.more (B':=W2.heap.size) (hm0.below (hb4.mono hB)) (by have:=f2.lt; omega),Far.refl _ _⟩
theorem act {B : Nat} {m : Mem} {v : Value} {d ar at_ old new : Int} (hm : zie w B m v) (hB : B <= w.heap.size) (hsm : m.small) :
  Jdo Try.prog X 10 #[v,.agg (acc d ar at_ old new)] s w fun s' r w'=>s' = s /\ Below w.heap.size w w' /\
   ∃ v',r = .back (.tuple #[v',.int .u64 (m.act d ar at_ old new).2.1,.bool (m.act d ar at_ old new).2.2]) /\ zie w' w'.heap.size (m.act d ar at_ old new).1 v':=by
 obtain ⟨cs,rfl,hm⟩:=hm
 exact (act2 hm hB hsm).mono fun s' r w' ⟨h1,h2,cs',h3,h4,_⟩=>⟨h1,h2,_,h3,cs',rfl,h4⟩
end
end
end Go.Proofs.Ytonhfgjofgbcdaa.St
