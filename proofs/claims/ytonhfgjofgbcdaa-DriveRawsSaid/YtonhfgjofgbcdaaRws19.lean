/- A part of this claim's proof. -/
import Derived.Test.YtonhfgjofgbcdaaRws18
set_option linter.unusedSimpArgs false
set_option linter.unusedVariables false
set_option maxRecDepth 20000
namespace Go.Proofs.Ytonhfgjofgbcdaa.Rf
open Go Go.Conc Go.RowKit Jay Pl
open St Wd
section
variable {γ : Type} {X : zad γ} {s : γ} {w : World}
attribute [local go_sem] upon_value upon_skip
def OffA (g : Nat) (v : Value) : Prop:=∀ cs,v = .agg cs -> Off g cs
def zdg (s : γ) (w : World) (B B' : Nat) (v vs : Value) (m' : Mem) (s' : γ) (r : zf9) (w' : World) : Prop:=s' = s /\ Below w.heap.size w w' /\ ∃ cs,r = .back (.agg cs) /\ zbb w' w'.heap.size m' cs /\
 (∀ W5,(∀ v xs,Us w' B v xs -> Us W5 W5.heap.size v xs) -> (∀ xs,Us w' B' vs xs -> Us W5 W5.heap.size vs xs) -> zbb W5 W5.heap.size m' cs) /\
 ∀ g,OffA g v -> OffS g vs -> Off g cs
def Mem.with_ (m : Mem) (a : Int) (xs : List Int) : Mem:=
 if a = 1 then { m with e:=xs.headD 0 } else if a = 2 then { m with f:=xs.headD 0 } else if a = 3 then { m with li:=xs } else if a = 4 then { m with pi:=xs } else if a = 5 then { m with h:=xs.headD 0 } else if a = 6 then { m with t:=xs.headD 0 }
 else if a = 7 then { m with ln:=xs } else if a = 8 then { m with nx:=xs } else if a = 9 then { m with sl:=xs } else m
theorem with_put {m : Mem} {a : Int} {i : Nat} (x : Int) (h : i < (m.area a).length) : Mem.with_ m a ((m.area a).set i x) = m.put a i x:=by
 have one : ∀ y : Int,i < [y].length -> ([y] : List Int).set i x = [x]:=fun y hy=>by
  have : i = 0:=by simpa using hy
  subst this
  rfl
 unfold Mem.with_ Mem.put
 unfold Mem.area at h ⊢
 by_cases h1 : a = 1
 ·simp only [h1,if_true] at h ⊢; rw [one _ h]; rfl
 ·by_cases h2 : a = 2
  ·subst h2; simp only [if_true,if_neg h1] at h ⊢; rw [one _ h]; rfl
  ·by_cases h5 : a = 5
   ·subst h5; simp at h ⊢; subst h; rfl
   ·by_cases h6 : a = 6
    ·subst h6; simp at h ⊢; subst h; rfl
    ·simp only [if_neg h1,if_neg h2,if_neg h5,if_neg h6] at h ⊢
     by_cases h3 : a = 3
     ·simp only [h3,if_true]
     ·by_cases h4 : a = 4
      ·subst h4; rfl
      ·by_cases h7 : a = 7
       ·subst h7; rfl
       ·by_cases h8 : a = 8
        ·subst h8; rfl
        ·by_cases h9 : a = 9
         ·subst h9; rfl
         ·simp only [if_neg h3,if_neg h4,if_neg h7,if_neg h8,if_neg h9] at h
          simp at h
set_option maxHeartbeats 4000000 in
theorem with_1 {B B' : Nat} {m : Mem} {v vs : Value} {x : Int} (hm : zie w B m v) (hx : Us w B' vs [x]) (hB : B <= w.heap.size) (hB' : B' <= w.heap.size) : Jdo Try.prog X 38 #[v,.int .i64 1,vs] s w (zdg s w B B' v vs { m with e:=x }):=by
 refine Jdo.there fun ht=>?_
 have hoth : ∀ b,w.heap.size <= b -> ¬ X.oth s b:=fun b hb ho=>by have:=ht b ho; omega
 obtain ⟨cs,rfl,v2,v3,v6,v7,v8,rfl,h2,h3,h6,h7,h8⟩:=hm
 obtain ⟨gx,ox,c,rfl,hgx,hcx⟩:=zkf hx (by simp)
 have hc0:=hcx 0 (by simp)
 simp only [Nat.add_zero,List.getElem_cons_zero] at hc0
 have b0:=(Blk.new w 25 #[.int .u64 m.e,.int .u64 m.f,v2,v3,.int .u64 m.h,.int .u64 m.t,v6,v7,v8]).alloc (.cells #[.int .u64 0,.int .u64 0,.slice none 0 0,.slice none 0 0,.int .u64 0,.int .u64 0,.slice none 0 0,.slice none 0 0,.slice none 0 0] 25)
 have b1:=Blk.new1 w (.cells #[.int .u64 m.e,.int .u64 m.f,v2,v3,.int .u64 m.h,.int .u64 m.t,v6,v7,v8] 25) 25 #[.int .u64 0,.int .u64 0,.slice none 0 0,.slice none 0 0,.int .u64 0,.int .u64 0,.slice none 0 0,.slice none 0 0,.slice none 0 0]
 have hb0:=((Below.refl w.heap.size w).alloc (Nat.le_refl _) (.cells #[.int .u64 m.e,.int .u64 m.f,v2,v3,.int .u64 m.h,.int .u64 m.t,v6,v7,v8] 25)).alloc (by simp) (.cells #[.int .u64 0,.int .u64 0,.slice none 0 0,.slice none 0 0,.int .u64 0,.int .u64 0,.slice none 0 0,.slice none 0 0,.slice none 0 0] 25)
 obtain ⟨W,hW⟩ : ∃ W,W = (w.alloc (.cells #[.int .u64 m.e,.int .u64 m.f,v2,v3,.int .u64 m.h,.int .u64 m.t,v6,v7,v8] 25)).alloc (.cells #[.int .u64 0,.int .u64 0,.slice none 0 0,.slice none 0 0,.int .u64 0,.int .u64 0,.slice none 0 0,.slice none 0 0,.slice none 0 0] 25):=⟨_,rfl⟩
 rw [<- hW] at b0 b1 hb0
 have hc1 : W.cell? ⟨gx,ox,none⟩ = some (.int .u64 x):=(hb0.cell (p:=⟨gx,ox,none⟩) (Nat.lt_of_lt_of_le hgx hB')).trans hc0
 refine zar Try.func38 rfl ?_
 simp only [Try.ntmps38]
 refine wk8 ?_
 refine wk2 ?_
 rw [<- hW]
 clear hW
 have dW:=b0.cell
 refine wk2 ?_
 refine zaj (za7 (v:=.int .u64 x) (cs':=#[.int .u64 x,.int .u64 m.f,v2,v3,.int .u64 m.h,.int .u64 m.t,v6,v7,v8]) rfl rfl rfl rfl b0 (hoth _ (by omega)) (by kernel_rfl) (Nat.le_of_ble_eq_true rfl) (by simp [Value.cells,Value.oneCell']) rfl ?_)
 refine wk7 ?_
 have a0:=b0.row #[.int .u64 x,.int .u64 m.f,v2,v3,.int .u64 m.h,.int .u64 m.t,v6,v7,v8]
 have a1:=b1.row_far (g':=w.heap.size) #[.int .u64 x,.int .u64 m.f,v2,v3,.int .u64 m.h,.int .u64 m.t,v6,v7,v8] (by omega)
 have g0:=zaf hb0 #[.int .u64 x,.int .u64 m.f,v2,v3,.int .u64 m.h,.int .u64 m.t,v6,v7,v8] (g:=w.heap.size) (Nat.le_refl _)
 generalize hW1 : W.setRow w.heap.size #[.int .u64 x,.int .u64 m.f,v2,v3,.int .u64 m.h,.int .u64 m.t,v6,v7,v8] = W1 at a0 a1 g0 ⊢
 clear hW1 dW
 have dW:=a0.cell
 refine wk2 ?_
 have mv : ∀ {v xs},Us w B v xs -> Us W1 W1.heap.size v xs:=fun h=>(h.below (g0.mono hB)).more (Nat.le_trans hB g0.size)
 have mw : ∀ {v xs},Us w B' v xs -> Us W1 W1.heap.size v xs:=fun h=>(h.below (g0.mono hB')).more (Nat.le_trans hB' g0.size)
 have hM : zbb W1 W1.heap.size { m with e:=x } #[.int .u64 x,.int .u64 m.f,v2,v3,.int .u64 m.h,.int .u64 m.t,v6,v7,v8]:=⟨_,_,_,_,_,rfl,mv h2,mv h3,mv h6,mv h7,mv h8⟩
 refine zaj (za7 (v:=.agg #[.int .u64 x,.int .u64 m.f,v2,v3,.int .u64 m.h,.int .u64 m.t,v6,v7,v8]) (cs':=#[.int .u64 x,.int .u64 m.f,v2,v3,.int .u64 m.h,.int .u64 m.t,v6,v7,v8]) rfl rfl rfl rfl a1 (hoth _ (by omega)) (by kernel_rfl) (Nat.le_of_ble_eq_true rfl) (Lw.zc2 hM) rfl ?_)
 refine wk7 ?_
 have f1:=a1.row #[.int .u64 x,.int .u64 m.f,v2,v3,.int .u64 m.h,.int .u64 m.t,v6,v7,v8]
 have g1:=zaf g0 #[.int .u64 x,.int .u64 m.f,v2,v3,.int .u64 m.h,.int .u64 m.t,v6,v7,v8] (g:=w.heap.size + 1) (by omega)
 generalize hW2 : W1.setRow (w.heap.size + 1) #[.int .u64 x,.int .u64 m.f,v2,v3,.int .u64 m.h,.int .u64 m.t,v6,v7,v8] = W2 at f1 g1 ⊢
 clear hW2 dW hM mv mw
 have d1:=f1.cell
 refine wk2 ?_
 have mv2 : ∀ {v xs},Us w B v xs -> Us W2 B v xs:=fun h=>h.below (g1.mono hB)
 have mw2 : ∀ {v xs},Us w B' v xs -> Us W2 B' v xs:=fun h=>h.below (g1.mono hB')
 have fin : ∀ W5,(∀ v xs,Us W2 B v xs -> Us W5 W5.heap.size v xs) -> (∀ xs',Us W2 B' (.slice (some ⟨gx,ox,none⟩) [x].length c) xs' -> Us W5 W5.heap.size (.slice (some ⟨gx,ox,none⟩) [x].length c) xs') -> zbb W5 W5.heap.size { m with e:=x } #[.int .u64 x,.int .u64 m.f,v2,v3,.int .u64 m.h,.int .u64 m.t,v6,v7,v8]:=fun W5 k1 k2=>⟨_,_,_,_,_,rfl,k1 _ _ (mv2 h2),k1 _ _ (mv2 h3),k1 _ _ (mv2 h6),k1 _ _ (mv2 h7),k1 _ _ (mv2 h8)⟩
 exact zb0 (.agg #[.int .u64 x,.int .u64 m.f,v2,v3,.int .u64 m.h,.int .u64 m.t,v6,v7,v8]) rfl (by simp [results,go_sem,d1]) ⟨rfl,g1,_,rfl,fin W2 (fun _ _ h=>h.more (Nat.le_trans hB g1.size)) (fun _ h=>h.more (Nat.le_trans hB' g1.size)),fin,fun g ho hv=>Off.set_ (k:=0) (v:=.int .u64 x) (ho _ rfl) (zco _ _ _)⟩
set_option maxHeartbeats 4000000 in
theorem with_2 {B B' : Nat} {m : Mem} {v vs : Value} {x : Int} (hm : zie w B m v) (hx : Us w B' vs [x]) (hB : B <= w.heap.size) (hB' : B' <= w.heap.size) : Jdo Try.prog X 38 #[v,.int .i64 2,vs] s w (zdg s w B B' v vs { m with f:=x }):=by
 refine Jdo.there fun ht=>?_
 have hoth : ∀ b,w.heap.size <= b -> ¬ X.oth s b:=fun b hb ho=>by have:=ht b ho; omega
 obtain ⟨cs,rfl,v2,v3,v6,v7,v8,rfl,h2,h3,h6,h7,h8⟩:=hm
 obtain ⟨gx,ox,c,rfl,hgx,hcx⟩:=zkf hx (by simp)
 have hc0:=hcx 0 (by simp)
 simp only [Nat.add_zero,List.getElem_cons_zero] at hc0
 have b0:=(Blk.new w 25 #[.int .u64 m.e,.int .u64 m.f,v2,v3,.int .u64 m.h,.int .u64 m.t,v6,v7,v8]).alloc (.cells #[.int .u64 0,.int .u64 0,.slice none 0 0,.slice none 0 0,.int .u64 0,.int .u64 0,.slice none 0 0,.slice none 0 0,.slice none 0 0] 25)
 have b1:=Blk.new1 w (.cells #[.int .u64 m.e,.int .u64 m.f,v2,v3,.int .u64 m.h,.int .u64 m.t,v6,v7,v8] 25) 25 #[.int .u64 0,.int .u64 0,.slice none 0 0,.slice none 0 0,.int .u64 0,.int .u64 0,.slice none 0 0,.slice none 0 0,.slice none 0 0]
 have hb0:=((Below.refl w.heap.size w).alloc (Nat.le_refl _) (.cells #[.int .u64 m.e,.int .u64 m.f,v2,v3,.int .u64 m.h,.int .u64 m.t,v6,v7,v8] 25)).alloc (by simp) (.cells #[.int .u64 0,.int .u64 0,.slice none 0 0,.slice none 0 0,.int .u64 0,.int .u64 0,.slice none 0 0,.slice none 0 0,.slice none 0 0] 25)
 obtain ⟨W,hW⟩ : ∃ W,W = (w.alloc (.cells #[.int .u64 m.e,.int .u64 m.f,v2,v3,.int .u64 m.h,.int .u64 m.t,v6,v7,v8] 25)).alloc (.cells #[.int .u64 0,.int .u64 0,.slice none 0 0,.slice none 0 0,.int .u64 0,.int .u64 0,.slice none 0 0,.slice none 0 0,.slice none 0 0] 25):=⟨_,rfl⟩
 rw [<- hW] at b0 b1 hb0
 have hc1 : W.cell? ⟨gx,ox,none⟩ = some (.int .u64 x):=(hb0.cell (p:=⟨gx,ox,none⟩) (Nat.lt_of_lt_of_le hgx hB')).trans hc0
 refine zar Try.func38 rfl ?_
 simp only [Try.ntmps38]
 refine wk8 ?_
 refine wk2 ?_
 rw [<- hW]
 clear hW
 have dW:=b0.cell
 refine wk2 ?_
 refine zaj (za7 (v:=.int .u64 x) (cs':=#[.int .u64 m.e,.int .u64 x,v2,v3,.int .u64 m.h,.int .u64 m.t,v6,v7,v8]) rfl rfl rfl rfl b0 (hoth _ (by omega)) (by kernel_rfl) (Nat.le_of_ble_eq_true rfl) (by simp [Value.cells,Value.oneCell']) rfl ?_)
 refine wk7 ?_
 have a0:=b0.row #[.int .u64 m.e,.int .u64 x,v2,v3,.int .u64 m.h,.int .u64 m.t,v6,v7,v8]
 have a1:=b1.row_far (g':=w.heap.size) #[.int .u64 m.e,.int .u64 x,v2,v3,.int .u64 m.h,.int .u64 m.t,v6,v7,v8] (by omega)
 have g0:=zaf hb0 #[.int .u64 m.e,.int .u64 x,v2,v3,.int .u64 m.h,.int .u64 m.t,v6,v7,v8] (g:=w.heap.size) (Nat.le_refl _)
 generalize hW1 : W.setRow w.heap.size #[.int .u64 m.e,.int .u64 x,v2,v3,.int .u64 m.h,.int .u64 m.t,v6,v7,v8] = W1 at a0 a1 g0 ⊢
 clear hW1 dW
 have dW:=a0.cell
 refine wk2 ?_
 have mv : ∀ {v xs},Us w B v xs -> Us W1 W1.heap.size v xs:=fun h=>(h.below (g0.mono hB)).more (Nat.le_trans hB g0.size)
 have mw : ∀ {v xs},Us w B' v xs -> Us W1 W1.heap.size v xs:=fun h=>(h.below (g0.mono hB')).more (Nat.le_trans hB' g0.size)
 have hM : zbb W1 W1.heap.size { m with f:=x } #[.int .u64 m.e,.int .u64 x,v2,v3,.int .u64 m.h,.int .u64 m.t,v6,v7,v8]:=⟨_,_,_,_,_,rfl,mv h2,mv h3,mv h6,mv h7,mv h8⟩
 refine zaj (za7 (v:=.agg #[.int .u64 m.e,.int .u64 x,v2,v3,.int .u64 m.h,.int .u64 m.t,v6,v7,v8]) (cs':=#[.int .u64 m.e,.int .u64 x,v2,v3,.int .u64 m.h,.int .u64 m.t,v6,v7,v8]) rfl rfl rfl rfl a1 (hoth _ (by omega)) (by kernel_rfl) (Nat.le_of_ble_eq_true rfl) (Lw.zc2 hM) rfl ?_)
 refine wk7 ?_
 have f1:=a1.row #[.int .u64 m.e,.int .u64 x,v2,v3,.int .u64 m.h,.int .u64 m.t,v6,v7,v8]
 have g1:=zaf g0 #[.int .u64 m.e,.int .u64 x,v2,v3,.int .u64 m.h,.int .u64 m.t,v6,v7,v8] (g:=w.heap.size + 1) (by omega)
 generalize hW2 : W1.setRow (w.heap.size + 1) #[.int .u64 m.e,.int .u64 x,v2,v3,.int .u64 m.h,.int .u64 m.t,v6,v7,v8] = W2 at f1 g1 ⊢
 clear hW2 dW hM mv mw
 have d1:=f1.cell
 refine wk2 ?_
 have mv2 : ∀ {v xs},Us w B v xs -> Us W2 B v xs:=fun h=>h.below (g1.mono hB)
 have mw2 : ∀ {v xs},Us w B' v xs -> Us W2 B' v xs:=fun h=>h.below (g1.mono hB')
 have fin : ∀ W5,(∀ v xs,Us W2 B v xs -> Us W5 W5.heap.size v xs) -> (∀ xs',Us W2 B' (.slice (some ⟨gx,ox,none⟩) [x].length c) xs' -> Us W5 W5.heap.size (.slice (some ⟨gx,ox,none⟩) [x].length c) xs') -> zbb W5 W5.heap.size { m with f:=x } #[.int .u64 m.e,.int .u64 x,v2,v3,.int .u64 m.h,.int .u64 m.t,v6,v7,v8]:=fun W5 k1 k2=>⟨_,_,_,_,_,rfl,k1 _ _ (mv2 h2),k1 _ _ (mv2 h3),k1 _ _ (mv2 h6),k1 _ _ (mv2 h7),k1 _ _ (mv2 h8)⟩
 exact zb0 (.agg #[.int .u64 m.e,.int .u64 x,v2,v3,.int .u64 m.h,.int .u64 m.t,v6,v7,v8]) rfl (by simp [results,go_sem,d1]) ⟨rfl,g1,_,rfl,fin W2 (fun _ _ h=>h.more (Nat.le_trans hB g1.size)) (fun _ h=>h.more (Nat.le_trans hB' g1.size)),fin,fun g ho hv=>Off.set_ (k:=1) (v:=.int .u64 x) (ho _ rfl) (zco _ _ _)⟩
set_option maxHeartbeats 4000000 in
theorem with_3 {B B' : Nat} {m : Mem} {v vs : Value} {xs : List Int} (hm : zie w B m v) (hx : Us w B' vs xs) (hB : B <= w.heap.size) (hB' : B' <= w.heap.size) : Jdo Try.prog X 38 #[v,.int .i64 3,vs] s w (zdg s w B B' v vs { m with li:=xs }):=by
 refine Jdo.there fun ht=>?_
 have hoth : ∀ b,w.heap.size <= b -> ¬ X.oth s b:=fun b hb ho=>by have:=ht b ho; omega
 obtain ⟨cs,rfl,v2,v3,v6,v7,v8,rfl,h2,h3,h6,h7,h8⟩:=hm
 obtain ⟨A,c,rfl,_,_⟩:=hx.form
 have b0:=(Blk.new w 25 #[.int .u64 m.e,.int .u64 m.f,v2,v3,.int .u64 m.h,.int .u64 m.t,v6,v7,v8]).alloc (.cells #[.int .u64 0,.int .u64 0,.slice none 0 0,.slice none 0 0,.int .u64 0,.int .u64 0,.slice none 0 0,.slice none 0 0,.slice none 0 0] 25)
 have b1:=Blk.new1 w (.cells #[.int .u64 m.e,.int .u64 m.f,v2,v3,.int .u64 m.h,.int .u64 m.t,v6,v7,v8] 25) 25 #[.int .u64 0,.int .u64 0,.slice none 0 0,.slice none 0 0,.int .u64 0,.int .u64 0,.slice none 0 0,.slice none 0 0,.slice none 0 0]
 have hb0:=((Below.refl w.heap.size w).alloc (Nat.le_refl _) (.cells #[.int .u64 m.e,.int .u64 m.f,v2,v3,.int .u64 m.h,.int .u64 m.t,v6,v7,v8] 25)).alloc (by simp) (.cells #[.int .u64 0,.int .u64 0,.slice none 0 0,.slice none 0 0,.int .u64 0,.int .u64 0,.slice none 0 0,.slice none 0 0,.slice none 0 0] 25)
 obtain ⟨W,hW⟩ : ∃ W,W = (w.alloc (.cells #[.int .u64 m.e,.int .u64 m.f,v2,v3,.int .u64 m.h,.int .u64 m.t,v6,v7,v8] 25)).alloc (.cells #[.int .u64 0,.int .u64 0,.slice none 0 0,.slice none 0 0,.int .u64 0,.int .u64 0,.slice none 0 0,.slice none 0 0,.slice none 0 0] 25):=⟨_,rfl⟩
 rw [<- hW] at b0 b1 hb0
 refine zar Try.func38 rfl ?_
 simp only [Try.ntmps38]
 refine wk8 ?_
 refine wk2 ?_
 rw [<- hW]
 clear hW
 have dW:=b0.cell
 refine wk2 ?_
 refine zaj (za7 (v:=.slice A xs.length c) (cs':=#[.int .u64 m.e,.int .u64 m.f,.slice A xs.length c,v3,.int .u64 m.h,.int .u64 m.t,v6,v7,v8]) rfl rfl rfl rfl b0 (hoth _ (by omega)) (by kernel_rfl) (Nat.le_of_ble_eq_true rfl) (by simp [Value.cells,Value.oneCell']) rfl ?_)
 refine wk7 ?_
 have a0:=b0.row #[.int .u64 m.e,.int .u64 m.f,.slice A xs.length c,v3,.int .u64 m.h,.int .u64 m.t,v6,v7,v8]
 have a1:=b1.row_far (g':=w.heap.size) #[.int .u64 m.e,.int .u64 m.f,.slice A xs.length c,v3,.int .u64 m.h,.int .u64 m.t,v6,v7,v8] (by omega)
 have g0:=zaf hb0 #[.int .u64 m.e,.int .u64 m.f,.slice A xs.length c,v3,.int .u64 m.h,.int .u64 m.t,v6,v7,v8] (g:=w.heap.size) (Nat.le_refl _)
 generalize hW1 : W.setRow w.heap.size #[.int .u64 m.e,.int .u64 m.f,.slice A xs.length c,v3,.int .u64 m.h,.int .u64 m.t,v6,v7,v8] = W1 at a0 a1 g0 ⊢
 clear hW1 dW
 have dW:=a0.cell
 refine wk2 ?_
 have mv : ∀ {v xs},Us w B v xs -> Us W1 W1.heap.size v xs:=fun h=>(h.below (g0.mono hB)).more (Nat.le_trans hB g0.size)
 have mw : ∀ {v xs},Us w B' v xs -> Us W1 W1.heap.size v xs:=fun h=>(h.below (g0.mono hB')).more (Nat.le_trans hB' g0.size)
 have hM : zbb W1 W1.heap.size { m with li:=xs } #[.int .u64 m.e,.int .u64 m.f,.slice A xs.length c,v3,.int .u64 m.h,.int .u64 m.t,v6,v7,v8]:=⟨_,_,_,_,_,rfl,mw hx,mv h3,mv h6,mv h7,mv h8⟩
 refine zaj (za7 (v:=.agg #[.int .u64 m.e,.int .u64 m.f,.slice A xs.length c,v3,.int .u64 m.h,.int .u64 m.t,v6,v7,v8]) (cs':=#[.int .u64 m.e,.int .u64 m.f,.slice A xs.length c,v3,.int .u64 m.h,.int .u64 m.t,v6,v7,v8]) rfl rfl rfl rfl a1 (hoth _ (by omega)) (by kernel_rfl) (Nat.le_of_ble_eq_true rfl) (Lw.zc2 hM) rfl ?_)
 refine wk7 ?_
 have f1:=a1.row #[.int .u64 m.e,.int .u64 m.f,.slice A xs.length c,v3,.int .u64 m.h,.int .u64 m.t,v6,v7,v8]
 have g1:=zaf g0 #[.int .u64 m.e,.int .u64 m.f,.slice A xs.length c,v3,.int .u64 m.h,.int .u64 m.t,v6,v7,v8] (g:=w.heap.size + 1) (by omega)
 generalize hW2 : W1.setRow (w.heap.size + 1) #[.int .u64 m.e,.int .u64 m.f,.slice A xs.length c,v3,.int .u64 m.h,.int .u64 m.t,v6,v7,v8] = W2 at f1 g1 ⊢
 clear hW2 dW hM mv mw
 have d1:=f1.cell
 refine wk2 ?_
 have mv2 : ∀ {v xs},Us w B v xs -> Us W2 B v xs:=fun h=>h.below (g1.mono hB)
 have mw2 : ∀ {v xs},Us w B' v xs -> Us W2 B' v xs:=fun h=>h.below (g1.mono hB')
 have fin : ∀ W5,(∀ v xs,Us W2 B v xs -> Us W5 W5.heap.size v xs) -> (∀ xs',Us W2 B' (.slice A xs.length c) xs' -> Us W5 W5.heap.size (.slice A xs.length c) xs') -> zbb W5 W5.heap.size { m with li:=xs } #[.int .u64 m.e,.int .u64 m.f,.slice A xs.length c,v3,.int .u64 m.h,.int .u64 m.t,v6,v7,v8]:=fun W5 k1 k2=>⟨_,_,_,_,_,rfl,k2 _ (mw2 hx),k1 _ _ (mv2 h3),k1 _ _ (mv2 h6),k1 _ _ (mv2 h7),k1 _ _ (mv2 h8)⟩
 exact zb0 (.agg #[.int .u64 m.e,.int .u64 m.f,.slice A xs.length c,v3,.int .u64 m.h,.int .u64 m.t,v6,v7,v8]) rfl (by simp [results,go_sem,d1]) ⟨rfl,g1,_,rfl,fin W2 (fun _ _ h=>h.more (Nat.le_trans hB g1.size)) (fun _ h=>h.more (Nat.le_trans hB' g1.size)),fin,fun g ho hv=>Off.set_ (k:=2) (v:=.slice A xs.length c) (ho _ rfl) hv⟩
set_option maxHeartbeats 4000000 in
theorem with_4 {B B' : Nat} {m : Mem} {v vs : Value} {xs : List Int} (hm : zie w B m v) (hx : Us w B' vs xs) (hB : B <= w.heap.size) (hB' : B' <= w.heap.size) : Jdo Try.prog X 38 #[v,.int .i64 4,vs] s w (zdg s w B B' v vs { m with pi:=xs }):=by
 refine Jdo.there fun ht=>?_
 have hoth : ∀ b,w.heap.size <= b -> ¬ X.oth s b:=fun b hb ho=>by have:=ht b ho; omega
 obtain ⟨cs,rfl,v2,v3,v6,v7,v8,rfl,h2,h3,h6,h7,h8⟩:=hm
 obtain ⟨A,c,rfl,_,_⟩:=hx.form
 have b0:=(Blk.new w 25 #[.int .u64 m.e,.int .u64 m.f,v2,v3,.int .u64 m.h,.int .u64 m.t,v6,v7,v8]).alloc (.cells #[.int .u64 0,.int .u64 0,.slice none 0 0,.slice none 0 0,.int .u64 0,.int .u64 0,.slice none 0 0,.slice none 0 0,.slice none 0 0] 25)
 have b1:=Blk.new1 w (.cells #[.int .u64 m.e,.int .u64 m.f,v2,v3,.int .u64 m.h,.int .u64 m.t,v6,v7,v8] 25) 25 #[.int .u64 0,.int .u64 0,.slice none 0 0,.slice none 0 0,.int .u64 0,.int .u64 0,.slice none 0 0,.slice none 0 0,.slice none 0 0]
 have hb0:=((Below.refl w.heap.size w).alloc (Nat.le_refl _) (.cells #[.int .u64 m.e,.int .u64 m.f,v2,v3,.int .u64 m.h,.int .u64 m.t,v6,v7,v8] 25)).alloc (by simp) (.cells #[.int .u64 0,.int .u64 0,.slice none 0 0,.slice none 0 0,.int .u64 0,.int .u64 0,.slice none 0 0,.slice none 0 0,.slice none 0 0] 25)
 obtain ⟨W,hW⟩ : ∃ W,W = (w.alloc (.cells #[.int .u64 m.e,.int .u64 m.f,v2,v3,.int .u64 m.h,.int .u64 m.t,v6,v7,v8] 25)).alloc (.cells #[.int .u64 0,.int .u64 0,.slice none 0 0,.slice none 0 0,.int .u64 0,.int .u64 0,.slice none 0 0,.slice none 0 0,.slice none 0 0] 25):=⟨_,rfl⟩
 rw [<- hW] at b0 b1 hb0
 refine zar Try.func38 rfl ?_
 simp only [Try.ntmps38]
 refine wk8 ?_
 refine wk2 ?_
 rw [<- hW]
 clear hW
 have dW:=b0.cell
 refine wk2 ?_
 refine zaj (za7 (v:=.slice A xs.length c) (cs':=#[.int .u64 m.e,.int .u64 m.f,v2,.slice A xs.length c,.int .u64 m.h,.int .u64 m.t,v6,v7,v8]) rfl rfl rfl rfl b0 (hoth _ (by omega)) (by kernel_rfl) (Nat.le_of_ble_eq_true rfl) (by simp [Value.cells,Value.oneCell']) rfl ?_)
 refine wk7 ?_
 have a0:=b0.row #[.int .u64 m.e,.int .u64 m.f,v2,.slice A xs.length c,.int .u64 m.h,.int .u64 m.t,v6,v7,v8]
 have a1:=b1.row_far (g':=w.heap.size) #[.int .u64 m.e,.int .u64 m.f,v2,.slice A xs.length c,.int .u64 m.h,.int .u64 m.t,v6,v7,v8] (by omega)
 have g0:=zaf hb0 #[.int .u64 m.e,.int .u64 m.f,v2,.slice A xs.length c,.int .u64 m.h,.int .u64 m.t,v6,v7,v8] (g:=w.heap.size) (Nat.le_refl _)
 generalize hW1 : W.setRow w.heap.size #[.int .u64 m.e,.int .u64 m.f,v2,.slice A xs.length c,.int .u64 m.h,.int .u64 m.t,v6,v7,v8] = W1 at a0 a1 g0 ⊢
 clear hW1 dW
 have dW:=a0.cell
 refine wk2 ?_
 have mv : ∀ {v xs},Us w B v xs -> Us W1 W1.heap.size v xs:=fun h=>(h.below (g0.mono hB)).more (Nat.le_trans hB g0.size)
 have mw : ∀ {v xs},Us w B' v xs -> Us W1 W1.heap.size v xs:=fun h=>(h.below (g0.mono hB')).more (Nat.le_trans hB' g0.size)
 have hM : zbb W1 W1.heap.size { m with pi:=xs } #[.int .u64 m.e,.int .u64 m.f,v2,.slice A xs.length c,.int .u64 m.h,.int .u64 m.t,v6,v7,v8]:=⟨_,_,_,_,_,rfl,mv h2,mw hx,mv h6,mv h7,mv h8⟩
 refine zaj (za7 (v:=.agg #[.int .u64 m.e,.int .u64 m.f,v2,.slice A xs.length c,.int .u64 m.h,.int .u64 m.t,v6,v7,v8]) (cs':=#[.int .u64 m.e,.int .u64 m.f,v2,.slice A xs.length c,.int .u64 m.h,.int .u64 m.t,v6,v7,v8]) rfl rfl rfl rfl a1 (hoth _ (by omega)) (by kernel_rfl) (Nat.le_of_ble_eq_true rfl) (Lw.zc2 hM) rfl ?_)
 refine wk7 ?_
 have f1:=a1.row #[.int .u64 m.e,.int .u64 m.f,v2,.slice A xs.length c,.int .u64 m.h,.int .u64 m.t,v6,v7,v8]
 have g1:=zaf g0 #[.int .u64 m.e,.int .u64 m.f,v2,.slice A xs.length c,.int .u64 m.h,.int .u64 m.t,v6,v7,v8] (g:=w.heap.size + 1) (by omega)
 generalize hW2 : W1.setRow (w.heap.size + 1) #[.int .u64 m.e,.int .u64 m.f,v2,.slice A xs.length c,.int .u64 m.h,.int .u64 m.t,v6,v7,v8] = W2 at f1 g1 ⊢
 clear hW2 dW hM mv mw
 have d1:=f1.cell
 refine wk2 ?_
 have mv2 : ∀ {v xs},Us w B v xs -> Us W2 B v xs:=fun h=>h.below (g1.mono hB)
 have mw2 : ∀ {v xs},Us w B' v xs -> Us W2 B' v xs:=fun h=>h.below (g1.mono hB')
 have fin : ∀ W5,(∀ v xs,Us W2 B v xs -> Us W5 W5.heap.size v xs) -> (∀ xs',Us W2 B' (.slice A xs.length c) xs' -> Us W5 W5.heap.size (.slice A xs.length c) xs') -> zbb W5 W5.heap.size { m with pi:=xs } #[.int .u64 m.e,.int .u64 m.f,v2,.slice A xs.length c,.int .u64 m.h,.int .u64 m.t,v6,v7,v8]:=fun W5 k1 k2=>⟨_,_,_,_,_,rfl,k1 _ _ (mv2 h2),k2 _ (mw2 hx),k1 _ _ (mv2 h6),k1 _ _ (mv2 h7),k1 _ _ (mv2 h8)⟩
 exact zb0 (.agg #[.int .u64 m.e,.int .u64 m.f,v2,.slice A xs.length c,.int .u64 m.h,.int .u64 m.t,v6,v7,v8]) rfl (by simp [results,go_sem,d1]) ⟨rfl,g1,_,rfl,fin W2 (fun _ _ h=>h.more (Nat.le_trans hB g1.size)) (fun _ h=>h.more (Nat.le_trans hB' g1.size)),fin,fun g ho hv=>Off.set_ (k:=3) (v:=.slice A xs.length c) (ho _ rfl) hv⟩
set_option maxHeartbeats 4000000 in
theorem with_5 {B B' : Nat} {m : Mem} {v vs : Value} {x : Int} (hm : zie w B m v) (hx : Us w B' vs [x]) (hB : B <= w.heap.size) (hB' : B' <= w.heap.size) : Jdo Try.prog X 38 #[v,.int .i64 5,vs] s w (zdg s w B B' v vs { m with h:=x }):=by
 refine Jdo.there fun ht=>?_
 have hoth : ∀ b,w.heap.size <= b -> ¬ X.oth s b:=fun b hb ho=>by have:=ht b ho; omega
 obtain ⟨cs,rfl,v2,v3,v6,v7,v8,rfl,h2,h3,h6,h7,h8⟩:=hm
 obtain ⟨gx,ox,c,rfl,hgx,hcx⟩:=zkf hx (by simp)
 have hc0:=hcx 0 (by simp)
 simp only [Nat.add_zero,List.getElem_cons_zero] at hc0
 have b0:=(Blk.new w 25 #[.int .u64 m.e,.int .u64 m.f,v2,v3,.int .u64 m.h,.int .u64 m.t,v6,v7,v8]).alloc (.cells #[.int .u64 0,.int .u64 0,.slice none 0 0,.slice none 0 0,.int .u64 0,.int .u64 0,.slice none 0 0,.slice none 0 0,.slice none 0 0] 25)
 have b1:=Blk.new1 w (.cells #[.int .u64 m.e,.int .u64 m.f,v2,v3,.int .u64 m.h,.int .u64 m.t,v6,v7,v8] 25) 25 #[.int .u64 0,.int .u64 0,.slice none 0 0,.slice none 0 0,.int .u64 0,.int .u64 0,.slice none 0 0,.slice none 0 0,.slice none 0 0]
 have hb0:=((Below.refl w.heap.size w).alloc (Nat.le_refl _) (.cells #[.int .u64 m.e,.int .u64 m.f,v2,v3,.int .u64 m.h,.int .u64 m.t,v6,v7,v8] 25)).alloc (by simp) (.cells #[.int .u64 0,.int .u64 0,.slice none 0 0,.slice none 0 0,.int .u64 0,.int .u64 0,.slice none 0 0,.slice none 0 0,.slice none 0 0] 25)
 obtain ⟨W,hW⟩ : ∃ W,W = (w.alloc (.cells #[.int .u64 m.e,.int .u64 m.f,v2,v3,.int .u64 m.h,.int .u64 m.t,v6,v7,v8] 25)).alloc (.cells #[.int .u64 0,.int .u64 0,.slice none 0 0,.slice none 0 0,.int .u64 0,.int .u64 0,.slice none 0 0,.slice none 0 0,.slice none 0 0] 25):=⟨_,rfl⟩
 rw [<- hW] at b0 b1 hb0
 have hc1 : W.cell? ⟨gx,ox,none⟩ = some (.int .u64 x):=(hb0.cell (p:=⟨gx,ox,none⟩) (Nat.lt_of_lt_of_le hgx hB')).trans hc0
 refine zar Try.func38 rfl ?_
 simp only [Try.ntmps38]
 refine wk8 ?_
 refine wk2 ?_
 rw [<- hW]
 clear hW
 have dW:=b0.cell
 refine wk2 ?_
 refine zaj (za7 (v:=.int .u64 x) (cs':=#[.int .u64 m.e,.int .u64 m.f,v2,v3,.int .u64 x,.int .u64 m.t,v6,v7,v8]) rfl rfl rfl rfl b0 (hoth _ (by omega)) (by kernel_rfl) (Nat.le_of_ble_eq_true rfl) (by simp [Value.cells,Value.oneCell']) rfl ?_)
 refine wk7 ?_
 have a0:=b0.row #[.int .u64 m.e,.int .u64 m.f,v2,v3,.int .u64 x,.int .u64 m.t,v6,v7,v8]
 have a1:=b1.row_far (g':=w.heap.size) #[.int .u64 m.e,.int .u64 m.f,v2,v3,.int .u64 x,.int .u64 m.t,v6,v7,v8] (by omega)
 have g0:=zaf hb0 #[.int .u64 m.e,.int .u64 m.f,v2,v3,.int .u64 x,.int .u64 m.t,v6,v7,v8] (g:=w.heap.size) (Nat.le_refl _)
 generalize hW1 : W.setRow w.heap.size #[.int .u64 m.e,.int .u64 m.f,v2,v3,.int .u64 x,.int .u64 m.t,v6,v7,v8] = W1 at a0 a1 g0 ⊢
 clear hW1 dW
 have dW:=a0.cell
 refine wk2 ?_
 have mv : ∀ {v xs},Us w B v xs -> Us W1 W1.heap.size v xs:=fun h=>(h.below (g0.mono hB)).more (Nat.le_trans hB g0.size)
 have mw : ∀ {v xs},Us w B' v xs -> Us W1 W1.heap.size v xs:=fun h=>(h.below (g0.mono hB')).more (Nat.le_trans hB' g0.size)
 have hM : zbb W1 W1.heap.size { m with h:=x } #[.int .u64 m.e,.int .u64 m.f,v2,v3,.int .u64 x,.int .u64 m.t,v6,v7,v8]:=⟨_,_,_,_,_,rfl,mv h2,mv h3,mv h6,mv h7,mv h8⟩
 refine zaj (za7 (v:=.agg #[.int .u64 m.e,.int .u64 m.f,v2,v3,.int .u64 x,.int .u64 m.t,v6,v7,v8]) (cs':=#[.int .u64 m.e,.int .u64 m.f,v2,v3,.int .u64 x,.int .u64 m.t,v6,v7,v8]) rfl rfl rfl rfl a1 (hoth _ (by omega)) (by kernel_rfl) (Nat.le_of_ble_eq_true rfl) (Lw.zc2 hM) rfl ?_)
 refine wk7 ?_
 have f1:=a1.row #[.int .u64 m.e,.int .u64 m.f,v2,v3,.int .u64 x,.int .u64 m.t,v6,v7,v8]
 have g1:=zaf g0 #[.int .u64 m.e,.int .u64 m.f,v2,v3,.int .u64 x,.int .u64 m.t,v6,v7,v8] (g:=w.heap.size + 1) (by omega)
 generalize hW2 : W1.setRow (w.heap.size + 1) #[.int .u64 m.e,.int .u64 m.f,v2,v3,.int .u64 x,.int .u64 m.t,v6,v7,v8] = W2 at f1 g1 ⊢
 clear hW2 dW hM mv mw
 have d1:=f1.cell
 refine wk2 ?_
 have mv2 : ∀ {v xs},Us w B v xs -> Us W2 B v xs:=fun h=>h.below (g1.mono hB)
 have mw2 : ∀ {v xs},Us w B' v xs -> Us W2 B' v xs:=fun h=>h.below (g1.mono hB')
 have fin : ∀ W5,(∀ v xs,Us W2 B v xs -> Us W5 W5.heap.size v xs) -> (∀ xs',Us W2 B' (.slice (some ⟨gx,ox,none⟩) [x].length c) xs' -> Us W5 W5.heap.size (.slice (some ⟨gx,ox,none⟩) [x].length c) xs') -> zbb W5 W5.heap.size { m with h:=x } #[.int .u64 m.e,.int .u64 m.f,v2,v3,.int .u64 x,.int .u64 m.t,v6,v7,v8]:=fun W5 k1 k2=>⟨_,_,_,_,_,rfl,k1 _ _ (mv2 h2),k1 _ _ (mv2 h3),k1 _ _ (mv2 h6),k1 _ _ (mv2 h7),k1 _ _ (mv2 h8)⟩
 exact zb0 (.agg #[.int .u64 m.e,.int .u64 m.f,v2,v3,.int .u64 x,.int .u64 m.t,v6,v7,v8]) rfl (by simp [results,go_sem,d1]) ⟨rfl,g1,_,rfl,fin W2 (fun _ _ h=>h.more (Nat.le_trans hB g1.size)) (fun _ h=>h.more (Nat.le_trans hB' g1.size)),fin,fun g ho hv=>Off.set_ (k:=4) (v:=.int .u64 x) (ho _ rfl) (zco _ _ _)⟩
set_option maxHeartbeats 4000000 in
theorem with_6 {B B' : Nat} {m : Mem} {v vs : Value} {x : Int} (hm : zie w B m v) (hx : Us w B' vs [x]) (hB : B <= w.heap.size) (hB' : B' <= w.heap.size) : Jdo Try.prog X 38 #[v,.int .i64 6,vs] s w (zdg s w B B' v vs { m with t:=x }):=by
 refine Jdo.there fun ht=>?_
 have hoth : ∀ b,w.heap.size <= b -> ¬ X.oth s b:=fun b hb ho=>by have:=ht b ho; omega
 obtain ⟨cs,rfl,v2,v3,v6,v7,v8,rfl,h2,h3,h6,h7,h8⟩:=hm
 obtain ⟨gx,ox,c,rfl,hgx,hcx⟩:=zkf hx (by simp)
 have hc0:=hcx 0 (by simp)
 simp only [Nat.add_zero,List.getElem_cons_zero] at hc0
 have b0:=(Blk.new w 25 #[.int .u64 m.e,.int .u64 m.f,v2,v3,.int .u64 m.h,.int .u64 m.t,v6,v7,v8]).alloc (.cells #[.int .u64 0,.int .u64 0,.slice none 0 0,.slice none 0 0,.int .u64 0,.int .u64 0,.slice none 0 0,.slice none 0 0,.slice none 0 0] 25)
 have b1:=Blk.new1 w (.cells #[.int .u64 m.e,.int .u64 m.f,v2,v3,.int .u64 m.h,.int .u64 m.t,v6,v7,v8] 25) 25 #[.int .u64 0,.int .u64 0,.slice none 0 0,.slice none 0 0,.int .u64 0,.int .u64 0,.slice none 0 0,.slice none 0 0,.slice none 0 0]
 have hb0:=((Below.refl w.heap.size w).alloc (Nat.le_refl _) (.cells #[.int .u64 m.e,.int .u64 m.f,v2,v3,.int .u64 m.h,.int .u64 m.t,v6,v7,v8] 25)).alloc (by simp) (.cells #[.int .u64 0,.int .u64 0,.slice none 0 0,.slice none 0 0,.int .u64 0,.int .u64 0,.slice none 0 0,.slice none 0 0,.slice none 0 0] 25)
 obtain ⟨W,hW⟩ : ∃ W,W = (w.alloc (.cells #[.int .u64 m.e,.int .u64 m.f,v2,v3,.int .u64 m.h,.int .u64 m.t,v6,v7,v8] 25)).alloc (.cells #[.int .u64 0,.int .u64 0,.slice none 0 0,.slice none 0 0,.int .u64 0,.int .u64 0,.slice none 0 0,.slice none 0 0,.slice none 0 0] 25):=⟨_,rfl⟩
 rw [<- hW] at b0 b1 hb0
 have hc1 : W.cell? ⟨gx,ox,none⟩ = some (.int .u64 x):=(hb0.cell (p:=⟨gx,ox,none⟩) (Nat.lt_of_lt_of_le hgx hB')).trans hc0
 refine zar Try.func38 rfl ?_
 simp only [Try.ntmps38]
 refine wk8 ?_
 refine wk2 ?_
 rw [<- hW]
 clear hW
 have dW:=b0.cell
 refine wk2 ?_
 refine zaj (za7 (v:=.int .u64 x) (cs':=#[.int .u64 m.e,.int .u64 m.f,v2,v3,.int .u64 m.h,.int .u64 x,v6,v7,v8]) rfl rfl rfl rfl b0 (hoth _ (by omega)) (by kernel_rfl) (Nat.le_of_ble_eq_true rfl) (by simp [Value.cells,Value.oneCell']) rfl ?_)
 refine wk7 ?_
 have a0:=b0.row #[.int .u64 m.e,.int .u64 m.f,v2,v3,.int .u64 m.h,.int .u64 x,v6,v7,v8]
 have a1:=b1.row_far (g':=w.heap.size) #[.int .u64 m.e,.int .u64 m.f,v2,v3,.int .u64 m.h,.int .u64 x,v6,v7,v8] (by omega)
 have g0:=zaf hb0 #[.int .u64 m.e,.int .u64 m.f,v2,v3,.int .u64 m.h,.int .u64 x,v6,v7,v8] (g:=w.heap.size) (Nat.le_refl _)
 generalize hW1 : W.setRow w.heap.size #[.int .u64 m.e,.int .u64 m.f,v2,v3,.int .u64 m.h,.int .u64 x,v6,v7,v8] = W1 at a0 a1 g0 ⊢
 clear hW1 dW
 have dW:=a0.cell
 refine wk2 ?_
 have mv : ∀ {v xs},Us w B v xs -> Us W1 W1.heap.size v xs:=fun h=>(h.below (g0.mono hB)).more (Nat.le_trans hB g0.size)
 have mw : ∀ {v xs},Us w B' v xs -> Us W1 W1.heap.size v xs:=fun h=>(h.below (g0.mono hB')).more (Nat.le_trans hB' g0.size)
 have hM : zbb W1 W1.heap.size { m with t:=x } #[.int .u64 m.e,.int .u64 m.f,v2,v3,.int .u64 m.h,.int .u64 x,v6,v7,v8]:=⟨_,_,_,_,_,rfl,mv h2,mv h3,mv h6,mv h7,mv h8⟩
 refine zaj (za7 (v:=.agg #[.int .u64 m.e,.int .u64 m.f,v2,v3,.int .u64 m.h,.int .u64 x,v6,v7,v8]) (cs':=#[.int .u64 m.e,.int .u64 m.f,v2,v3,.int .u64 m.h,.int .u64 x,v6,v7,v8]) rfl rfl rfl rfl a1 (hoth _ (by omega)) (by kernel_rfl) (Nat.le_of_ble_eq_true rfl) (Lw.zc2 hM) rfl ?_)
 refine wk7 ?_
 have f1:=a1.row #[.int .u64 m.e,.int .u64 m.f,v2,v3,.int .u64 m.h,.int .u64 x,v6,v7,v8]
 have g1:=zaf g0 #[.int .u64 m.e,.int .u64 m.f,v2,v3,.int .u64 m.h,.int .u64 x,v6,v7,v8] (g:=w.heap.size + 1) (by omega)
 generalize hW2 : W1.setRow (w.heap.size + 1) #[.int .u64 m.e,.int .u64 m.f,v2,v3,.int .u64 m.h,.int .u64 x,v6,v7,v8] = W2 at f1 g1 ⊢
 clear hW2 dW hM mv mw
 have d1:=f1.cell
 refine wk2 ?_
 have mv2 : ∀ {v xs},Us w B v xs -> Us W2 B v xs:=fun h=>h.below (g1.mono hB)
 have mw2 : ∀ {v xs},Us w B' v xs -> Us W2 B' v xs:=fun h=>h.below (g1.mono hB')
 have fin : ∀ W5,(∀ v xs,Us W2 B v xs -> Us W5 W5.heap.size v xs) -> (∀ xs',Us W2 B' (.slice (some ⟨gx,ox,none⟩) [x].length c) xs' -> Us W5 W5.heap.size (.slice (some ⟨gx,ox,none⟩) [x].length c) xs') -> zbb W5 W5.heap.size { m with t:=x } #[.int .u64 m.e,.int .u64 m.f,v2,v3,.int .u64 m.h,.int .u64 x,v6,v7,v8]:=fun W5 k1 k2=>⟨_,_,_,_,_,rfl,k1 _ _ (mv2 h2),k1 _ _ (mv2 h3),k1 _ _ (mv2 h6),k1 _ _ (mv2 h7),k1 _ _ (mv2 h8)⟩
 exact zb0 (.agg #[.int .u64 m.e,.int .u64 m.f,v2,v3,.int .u64 m.h,.int .u64 x,v6,v7,v8]) rfl (by simp [results,go_sem,d1]) ⟨rfl,g1,_,rfl,fin W2 (fun _ _ h=>h.more (Nat.le_trans hB g1.size)) (fun _ h=>h.more (Nat.le_trans hB' g1.size)),fin,fun g ho hv=>Off.set_ (k:=5) (v:=.int .u64 x) (ho _ rfl) (zco _ _ _)⟩
set_option maxHeartbeats 4000000 in
theorem with_7 {B B' : Nat} {m : Mem} {v vs : Value} {xs : List Int} (hm : zie w B m v) (hx : Us w B' vs xs) (hB : B <= w.heap.size) (hB' : B' <= w.heap.size) : Jdo Try.prog X 38 #[v,.int .i64 7,vs] s w (zdg s w B B' v vs { m with ln:=xs }):=by
 refine Jdo.there fun ht=>?_
 have hoth : ∀ b,w.heap.size <= b -> ¬ X.oth s b:=fun b hb ho=>by have:=ht b ho; omega
 obtain ⟨cs,rfl,v2,v3,v6,v7,v8,rfl,h2,h3,h6,h7,h8⟩:=hm
 obtain ⟨A,c,rfl,_,_⟩:=hx.form
 have b0:=(Blk.new w 25 #[.int .u64 m.e,.int .u64 m.f,v2,v3,.int .u64 m.h,.int .u64 m.t,v6,v7,v8]).alloc (.cells #[.int .u64 0,.int .u64 0,.slice none 0 0,.slice none 0 0,.int .u64 0,.int .u64 0,.slice none 0 0,.slice none 0 0,.slice none 0 0] 25)
 have b1:=Blk.new1 w (.cells #[.int .u64 m.e,.int .u64 m.f,v2,v3,.int .u64 m.h,.int .u64 m.t,v6,v7,v8] 25) 25 #[.int .u64 0,.int .u64 0,.slice none 0 0,.slice none 0 0,.int .u64 0,.int .u64 0,.slice none 0 0,.slice none 0 0,.slice none 0 0]
 have hb0:=((Below.refl w.heap.size w).alloc (Nat.le_refl _) (.cells #[.int .u64 m.e,.int .u64 m.f,v2,v3,.int .u64 m.h,.int .u64 m.t,v6,v7,v8] 25)).alloc (by simp) (.cells #[.int .u64 0,.int .u64 0,.slice none 0 0,.slice none 0 0,.int .u64 0,.int .u64 0,.slice none 0 0,.slice none 0 0,.slice none 0 0] 25)
 obtain ⟨W,hW⟩ : ∃ W,W = (w.alloc (.cells #[.int .u64 m.e,.int .u64 m.f,v2,v3,.int .u64 m.h,.int .u64 m.t,v6,v7,v8] 25)).alloc (.cells #[.int .u64 0,.int .u64 0,.slice none 0 0,.slice none 0 0,.int .u64 0,.int .u64 0,.slice none 0 0,.slice none 0 0,.slice none 0 0] 25):=⟨_,rfl⟩
 rw [<- hW] at b0 b1 hb0
 refine zar Try.func38 rfl ?_
 simp only [Try.ntmps38]
 refine wk8 ?_
 refine wk2 ?_
 rw [<- hW]
 clear hW
 have dW:=b0.cell
 refine wk2 ?_
 refine zaj (za7 (v:=.slice A xs.length c) (cs':=#[.int .u64 m.e,.int .u64 m.f,v2,v3,.int .u64 m.h,.int .u64 m.t,.slice A xs.length c,v7,v8]) rfl rfl rfl rfl b0 (hoth _ (by omega)) (by kernel_rfl) (Nat.le_of_ble_eq_true rfl) (by simp [Value.cells,Value.oneCell']) rfl ?_)
 refine wk7 ?_
 have a0:=b0.row #[.int .u64 m.e,.int .u64 m.f,v2,v3,.int .u64 m.h,.int .u64 m.t,.slice A xs.length c,v7,v8]
 have a1:=b1.row_far (g':=w.heap.size) #[.int .u64 m.e,.int .u64 m.f,v2,v3,.int .u64 m.h,.int .u64 m.t,.slice A xs.length c,v7,v8] (by omega)
 have g0:=zaf hb0 #[.int .u64 m.e,.int .u64 m.f,v2,v3,.int .u64 m.h,.int .u64 m.t,.slice A xs.length c,v7,v8] (g:=w.heap.size) (Nat.le_refl _)
 generalize hW1 : W.setRow w.heap.size #[.int .u64 m.e,.int .u64 m.f,v2,v3,.int .u64 m.h,.int .u64 m.t,.slice A xs.length c,v7,v8] = W1 at a0 a1 g0 ⊢
 clear hW1 dW
 have dW:=a0.cell
 refine wk2 ?_
 have mv : ∀ {v xs},Us w B v xs -> Us W1 W1.heap.size v xs:=fun h=>(h.below (g0.mono hB)).more (Nat.le_trans hB g0.size)
 have mw : ∀ {v xs},Us w B' v xs -> Us W1 W1.heap.size v xs:=fun h=>(h.below (g0.mono hB')).more (Nat.le_trans hB' g0.size)
 have hM : zbb W1 W1.heap.size { m with ln:=xs } #[.int .u64 m.e,.int .u64 m.f,v2,v3,.int .u64 m.h,.int .u64 m.t,.slice A xs.length c,v7,v8]:=⟨_,_,_,_,_,rfl,mv h2,mv h3,mw hx,mv h7,mv h8⟩
 refine zaj (za7 (v:=.agg #[.int .u64 m.e,.int .u64 m.f,v2,v3,.int .u64 m.h,.int .u64 m.t,.slice A xs.length c,v7,v8]) (cs':=#[.int .u64 m.e,.int .u64 m.f,v2,v3,.int .u64 m.h,.int .u64 m.t,.slice A xs.length c,v7,v8]) rfl rfl rfl rfl a1 (hoth _ (by omega)) (by kernel_rfl) (Nat.le_of_ble_eq_true rfl) (Lw.zc2 hM) rfl ?_)
 refine wk7 ?_
 have f1:=a1.row #[.int .u64 m.e,.int .u64 m.f,v2,v3,.int .u64 m.h,.int .u64 m.t,.slice A xs.length c,v7,v8]
 have g1:=zaf g0 #[.int .u64 m.e,.int .u64 m.f,v2,v3,.int .u64 m.h,.int .u64 m.t,.slice A xs.length c,v7,v8] (g:=w.heap.size + 1) (by omega)
 generalize hW2 : W1.setRow (w.heap.size + 1) #[.int .u64 m.e,.int .u64 m.f,v2,v3,.int .u64 m.h,.int .u64 m.t,.slice A xs.length c,v7,v8] = W2 at f1 g1 ⊢
 clear hW2 dW hM mv mw
 have d1:=f1.cell
 refine wk2 ?_
 have mv2 : ∀ {v xs},Us w B v xs -> Us W2 B v xs:=fun h=>h.below (g1.mono hB)
 have mw2 : ∀ {v xs},Us w B' v xs -> Us W2 B' v xs:=fun h=>h.below (g1.mono hB')
 have fin : ∀ W5,(∀ v xs,Us W2 B v xs -> Us W5 W5.heap.size v xs) -> (∀ xs',Us W2 B' (.slice A xs.length c) xs' -> Us W5 W5.heap.size (.slice A xs.length c) xs') -> zbb W5 W5.heap.size { m with ln:=xs } #[.int .u64 m.e,.int .u64 m.f,v2,v3,.int .u64 m.h,.int .u64 m.t,.slice A xs.length c,v7,v8]:=fun W5 k1 k2=>⟨_,_,_,_,_,rfl,k1 _ _ (mv2 h2),k1 _ _ (mv2 h3),k2 _ (mw2 hx),k1 _ _ (mv2 h7),k1 _ _ (mv2 h8)⟩
 exact zb0 (.agg #[.int .u64 m.e,.int .u64 m.f,v2,v3,.int .u64 m.h,.int .u64 m.t,.slice A xs.length c,v7,v8]) rfl (by simp [results,go_sem,d1]) ⟨rfl,g1,_,rfl,fin W2 (fun _ _ h=>h.more (Nat.le_trans hB g1.size)) (fun _ h=>h.more (Nat.le_trans hB' g1.size)),fin,fun g ho hv=>Off.set_ (k:=6) (v:=.slice A xs.length c) (ho _ rfl) hv⟩
set_option maxHeartbeats 4000000 in
theorem with_8 {B B' : Nat} {m : Mem} {v vs : Value} {xs : List Int} (hm : zie w B m v) (hx : Us w B' vs xs) (hB : B <= w.heap.size) (hB' : B' <= w.heap.size) : Jdo Try.prog X 38 #[v,.int .i64 8,vs] s w (zdg s w B B' v vs { m with nx:=xs }):=by
 refine Jdo.there fun ht=>?_
 have hoth : ∀ b,w.heap.size <= b -> ¬ X.oth s b:=fun b hb ho=>by have:=ht b ho; omega
 obtain ⟨cs,rfl,v2,v3,v6,v7,v8,rfl,h2,h3,h6,h7,h8⟩:=hm
 obtain ⟨A,c,rfl,_,_⟩:=hx.form
 have b0:=(Blk.new w 25 #[.int .u64 m.e,.int .u64 m.f,v2,v3,.int .u64 m.h,.int .u64 m.t,v6,v7,v8]).alloc (.cells #[.int .u64 0,.int .u64 0,.slice none 0 0,.slice none 0 0,.int .u64 0,.int .u64 0,.slice none 0 0,.slice none 0 0,.slice none 0 0] 25)
 have b1:=Blk.new1 w (.cells #[.int .u64 m.e,.int .u64 m.f,v2,v3,.int .u64 m.h,.int .u64 m.t,v6,v7,v8] 25) 25 #[.int .u64 0,.int .u64 0,.slice none 0 0,.slice none 0 0,.int .u64 0,.int .u64 0,.slice none 0 0,.slice none 0 0,.slice none 0 0]
 have hb0:=((Below.refl w.heap.size w).alloc (Nat.le_refl _) (.cells #[.int .u64 m.e,.int .u64 m.f,v2,v3,.int .u64 m.h,.int .u64 m.t,v6,v7,v8] 25)).alloc (by simp) (.cells #[.int .u64 0,.int .u64 0,.slice none 0 0,.slice none 0 0,.int .u64 0,.int .u64 0,.slice none 0 0,.slice none 0 0,.slice none 0 0] 25)
 obtain ⟨W,hW⟩ : ∃ W,W = (w.alloc (.cells #[.int .u64 m.e,.int .u64 m.f,v2,v3,.int .u64 m.h,.int .u64 m.t,v6,v7,v8] 25)).alloc (.cells #[.int .u64 0,.int .u64 0,.slice none 0 0,.slice none 0 0,.int .u64 0,.int .u64 0,.slice none 0 0,.slice none 0 0,.slice none 0 0] 25):=⟨_,rfl⟩
 rw [<- hW] at b0 b1 hb0
 refine zar Try.func38 rfl ?_
 simp only [Try.ntmps38]
 refine wk8 ?_
 refine wk2 ?_
 rw [<- hW]
 clear hW
 have dW:=b0.cell
 refine wk2 ?_
 refine zaj (za7 (v:=.slice A xs.length c) (cs':=#[.int .u64 m.e,.int .u64 m.f,v2,v3,.int .u64 m.h,.int .u64 m.t,v6,.slice A xs.length c,v8]) rfl rfl rfl rfl b0 (hoth _ (by omega)) (by kernel_rfl) (Nat.le_of_ble_eq_true rfl) (by simp [Value.cells,Value.oneCell']) rfl ?_)
 refine wk7 ?_
 have a0:=b0.row #[.int .u64 m.e,.int .u64 m.f,v2,v3,.int .u64 m.h,.int .u64 m.t,v6,.slice A xs.length c,v8]
 have a1:=b1.row_far (g':=w.heap.size) #[.int .u64 m.e,.int .u64 m.f,v2,v3,.int .u64 m.h,.int .u64 m.t,v6,.slice A xs.length c,v8] (by omega)
 have g0:=zaf hb0 #[.int .u64 m.e,.int .u64 m.f,v2,v3,.int .u64 m.h,.int .u64 m.t,v6,.slice A xs.length c,v8] (g:=w.heap.size) (Nat.le_refl _)
 generalize hW1 : W.setRow w.heap.size #[.int .u64 m.e,.int .u64 m.f,v2,v3,.int .u64 m.h,.int .u64 m.t,v6,.slice A xs.length c,v8] = W1 at a0 a1 g0 ⊢
 clear hW1 dW
 have dW:=a0.cell
 refine wk2 ?_
 have mv : ∀ {v xs},Us w B v xs -> Us W1 W1.heap.size v xs:=fun h=>(h.below (g0.mono hB)).more (Nat.le_trans hB g0.size)
 have mw : ∀ {v xs},Us w B' v xs -> Us W1 W1.heap.size v xs:=fun h=>(h.below (g0.mono hB')).more (Nat.le_trans hB' g0.size)
 have hM : zbb W1 W1.heap.size { m with nx:=xs } #[.int .u64 m.e,.int .u64 m.f,v2,v3,.int .u64 m.h,.int .u64 m.t,v6,.slice A xs.length c,v8]:=⟨_,_,_,_,_,rfl,mv h2,mv h3,mv h6,mw hx,mv h8⟩
 refine zaj (za7 (v:=.agg #[.int .u64 m.e,.int .u64 m.f,v2,v3,.int .u64 m.h,.int .u64 m.t,v6,.slice A xs.length c,v8]) (cs':=#[.int .u64 m.e,.int .u64 m.f,v2,v3,.int .u64 m.h,.int .u64 m.t,v6,.slice A xs.length c,v8]) rfl rfl rfl rfl a1 (hoth _ (by omega)) (by kernel_rfl) (Nat.le_of_ble_eq_true rfl) (Lw.zc2 hM) rfl ?_)
 refine wk7 ?_
 have f1:=a1.row #[.int .u64 m.e,.int .u64 m.f,v2,v3,.int .u64 m.h,.int .u64 m.t,v6,.slice A xs.length c,v8]
 have g1:=zaf g0 #[.int .u64 m.e,.int .u64 m.f,v2,v3,.int .u64 m.h,.int .u64 m.t,v6,.slice A xs.length c,v8] (g:=w.heap.size + 1) (by omega)
 generalize hW2 : W1.setRow (w.heap.size + 1) #[.int .u64 m.e,.int .u64 m.f,v2,v3,.int .u64 m.h,.int .u64 m.t,v6,.slice A xs.length c,v8] = W2 at f1 g1 ⊢
 clear hW2 dW hM mv mw
 have d1:=f1.cell
 refine wk2 ?_
 have mv2 : ∀ {v xs},Us w B v xs -> Us W2 B v xs:=fun h=>h.below (g1.mono hB)
 have mw2 : ∀ {v xs},Us w B' v xs -> Us W2 B' v xs:=fun h=>h.below (g1.mono hB')
 have fin : ∀ W5,(∀ v xs,Us W2 B v xs -> Us W5 W5.heap.size v xs) -> (∀ xs',Us W2 B' (.slice A xs.length c) xs' -> Us W5 W5.heap.size (.slice A xs.length c) xs') -> zbb W5 W5.heap.size { m with nx:=xs } #[.int .u64 m.e,.int .u64 m.f,v2,v3,.int .u64 m.h,.int .u64 m.t,v6,.slice A xs.length c,v8]:=fun W5 k1 k2=>⟨_,_,_,_,_,rfl,k1 _ _ (mv2 h2),k1 _ _ (mv2 h3),k1 _ _ (mv2 h6),k2 _ (mw2 hx),k1 _ _ (mv2 h8)⟩
 exact zb0 (.agg #[.int .u64 m.e,.int .u64 m.f,v2,v3,.int .u64 m.h,.int .u64 m.t,v6,.slice A xs.length c,v8]) rfl (by simp [results,go_sem,d1]) ⟨rfl,g1,_,rfl,fin W2 (fun _ _ h=>h.more (Nat.le_trans hB g1.size)) (fun _ h=>h.more (Nat.le_trans hB' g1.size)),fin,fun g ho hv=>Off.set_ (k:=7) (v:=.slice A xs.length c) (ho _ rfl) hv⟩
set_option maxHeartbeats 4000000 in
theorem with_9 {B B' : Nat} {m : Mem} {v vs : Value} {xs : List Int} (hm : zie w B m v) (hx : Us w B' vs xs) (hB : B <= w.heap.size) (hB' : B' <= w.heap.size) : Jdo Try.prog X 38 #[v,.int .i64 9,vs] s w (zdg s w B B' v vs { m with sl:=xs }):=by
 refine Jdo.there fun ht=>?_
 have hoth : ∀ b,w.heap.size <= b -> ¬ X.oth s b:=fun b hb ho=>by have:=ht b ho; omega
 obtain ⟨cs,rfl,v2,v3,v6,v7,v8,rfl,h2,h3,h6,h7,h8⟩:=hm
 obtain ⟨A,c,rfl,_,_⟩:=hx.form
 have b0:=(Blk.new w 25 #[.int .u64 m.e,.int .u64 m.f,v2,v3,.int .u64 m.h,.int .u64 m.t,v6,v7,v8]).alloc (.cells #[.int .u64 0,.int .u64 0,.slice none 0 0,.slice none 0 0,.int .u64 0,.int .u64 0,.slice none 0 0,.slice none 0 0,.slice none 0 0] 25)
 have b1:=Blk.new1 w (.cells #[.int .u64 m.e,.int .u64 m.f,v2,v3,.int .u64 m.h,.int .u64 m.t,v6,v7,v8] 25) 25 #[.int .u64 0,.int .u64 0,.slice none 0 0,.slice none 0 0,.int .u64 0,.int .u64 0,.slice none 0 0,.slice none 0 0,.slice none 0 0]
 have hb0:=((Below.refl w.heap.size w).alloc (Nat.le_refl _) (.cells #[.int .u64 m.e,.int .u64 m.f,v2,v3,.int .u64 m.h,.int .u64 m.t,v6,v7,v8] 25)).alloc (by simp) (.cells #[.int .u64 0,.int .u64 0,.slice none 0 0,.slice none 0 0,.int .u64 0,.int .u64 0,.slice none 0 0,.slice none 0 0,.slice none 0 0] 25)
 obtain ⟨W,hW⟩ : ∃ W,W = (w.alloc (.cells #[.int .u64 m.e,.int .u64 m.f,v2,v3,.int .u64 m.h,.int .u64 m.t,v6,v7,v8] 25)).alloc (.cells #[.int .u64 0,.int .u64 0,.slice none 0 0,.slice none 0 0,.int .u64 0,.int .u64 0,.slice none 0 0,.slice none 0 0,.slice none 0 0] 25):=⟨_,rfl⟩
 rw [<- hW] at b0 b1 hb0
 refine zar Try.func38 rfl ?_
 simp only [Try.ntmps38]
 refine wk8 ?_
 refine wk2 ?_
 rw [<- hW]
 clear hW
 have dW:=b0.cell
 refine wk2 ?_
 refine zaj (za7 (v:=.slice A xs.length c) (cs':=#[.int .u64 m.e,.int .u64 m.f,v2,v3,.int .u64 m.h,.int .u64 m.t,v6,v7,.slice A xs.length c]) rfl rfl rfl rfl b0 (hoth _ (by omega)) (by kernel_rfl) (Nat.le_of_ble_eq_true rfl) (by simp [Value.cells,Value.oneCell']) rfl ?_)
 refine wk7 ?_
 have a0:=b0.row #[.int .u64 m.e,.int .u64 m.f,v2,v3,.int .u64 m.h,.int .u64 m.t,v6,v7,.slice A xs.length c]
 have a1:=b1.row_far (g':=w.heap.size) #[.int .u64 m.e,.int .u64 m.f,v2,v3,.int .u64 m.h,.int .u64 m.t,v6,v7,.slice A xs.length c] (by omega)
 have g0:=zaf hb0 #[.int .u64 m.e,.int .u64 m.f,v2,v3,.int .u64 m.h,.int .u64 m.t,v6,v7,.slice A xs.length c] (g:=w.heap.size) (Nat.le_refl _)
 generalize hW1 : W.setRow w.heap.size #[.int .u64 m.e,.int .u64 m.f,v2,v3,.int .u64 m.h,.int .u64 m.t,v6,v7,.slice A xs.length c] = W1 at a0 a1 g0 ⊢
 clear hW1 dW
 have dW:=a0.cell
 refine wk2 ?_
 have mv : ∀ {v xs},Us w B v xs -> Us W1 W1.heap.size v xs:=fun h=>(h.below (g0.mono hB)).more (Nat.le_trans hB g0.size)
 have mw : ∀ {v xs},Us w B' v xs -> Us W1 W1.heap.size v xs:=fun h=>(h.below (g0.mono hB')).more (Nat.le_trans hB' g0.size)
 have hM : zbb W1 W1.heap.size { m with sl:=xs } #[.int .u64 m.e,.int .u64 m.f,v2,v3,.int .u64 m.h,.int .u64 m.t,v6,v7,.slice A xs.length c]:=⟨_,_,_,_,_,rfl,mv h2,mv h3,mv h6,mv h7,mw hx⟩
 refine zaj (za7 (v:=.agg #[.int .u64 m.e,.int .u64 m.f,v2,v3,.int .u64 m.h,.int .u64 m.t,v6,v7,.slice A xs.length c]) (cs':=#[.int .u64 m.e,.int .u64 m.f,v2,v3,.int .u64 m.h,.int .u64 m.t,v6,v7,.slice A xs.length c]) rfl rfl rfl rfl a1 (hoth _ (by omega)) (by kernel_rfl) (Nat.le_of_ble_eq_true rfl) (Lw.zc2 hM) rfl ?_)
 refine wk7 ?_
 have f1:=a1.row #[.int .u64 m.e,.int .u64 m.f,v2,v3,.int .u64 m.h,.int .u64 m.t,v6,v7,.slice A xs.length c]
 have g1:=zaf g0 #[.int .u64 m.e,.int .u64 m.f,v2,v3,.int .u64 m.h,.int .u64 m.t,v6,v7,.slice A xs.length c] (g:=w.heap.size + 1) (by omega)
 generalize hW2 : W1.setRow (w.heap.size + 1) #[.int .u64 m.e,.int .u64 m.f,v2,v3,.int .u64 m.h,.int .u64 m.t,v6,v7,.slice A xs.length c] = W2 at f1 g1 ⊢
 clear hW2 dW hM mv mw
 have d1:=f1.cell
 refine wk2 ?_
 have mv2 : ∀ {v xs},Us w B v xs -> Us W2 B v xs:=fun h=>h.below (g1.mono hB)
 have mw2 : ∀ {v xs},Us w B' v xs -> Us W2 B' v xs:=fun h=>h.below (g1.mono hB')
 have fin : ∀ W5,(∀ v xs,Us W2 B v xs -> Us W5 W5.heap.size v xs) -> (∀ xs',Us W2 B' (.slice A xs.length c) xs' -> Us W5 W5.heap.size (.slice A xs.length c) xs') -> zbb W5 W5.heap.size { m with sl:=xs } #[.int .u64 m.e,.int .u64 m.f,v2,v3,.int .u64 m.h,.int .u64 m.t,v6,v7,.slice A xs.length c]:=fun W5 k1 k2=>⟨_,_,_,_,_,rfl,k1 _ _ (mv2 h2),k1 _ _ (mv2 h3),k1 _ _ (mv2 h6),k1 _ _ (mv2 h7),k2 _ (mw2 hx)⟩
 exact zb0 (.agg #[.int .u64 m.e,.int .u64 m.f,v2,v3,.int .u64 m.h,.int .u64 m.t,v6,v7,.slice A xs.length c]) rfl (by simp [results,go_sem,d1]) ⟨rfl,g1,_,rfl,fin W2 (fun _ _ h=>h.more (Nat.le_trans hB g1.size)) (fun _ h=>h.more (Nat.le_trans hB' g1.size)),fin,fun g ho hv=>Off.set_ (k:=8) (v:=.slice A xs.length c) (ho _ rfl) hv⟩
theorem with_ {B B' : Nat} {m : Mem} {v vs : Value} {a : Int} {xs : List Int} (hm : zie w B m v) (hx : Us w B' vs xs) (hB : B <= w.heap.size) (hB' : B' <= w.heap.size) (hl : xs.length = (m.area a).length) (h0 : 0 < xs.length) :
  Jdo Try.prog X 38 #[v,.int .i64 a,vs] s w (zdg s w B B' v vs (Mem.with_ m a xs)):=by
 have one : ∀ y : Int,xs.length = [y].length -> ∃ x,xs = [x]:=fun y hy=>by
  match xs,hy with
  | [x],_=>exact ⟨x,rfl⟩
 have ha : a = 1 \/ a = 2 \/ a = 3 \/ a = 4 \/ a = 5 \/ a = 6 \/ a = 7 \/ a = 8 \/ a = 9:=by
  false_or_by_contra
  rename_i h
  simp only [not_or] at h
  have : (m.area a).length = 0:=by unfold Mem.area; simp [h]
  omega
 rcases ha with rfl | rfl | rfl | rfl | rfl | rfl | rfl | rfl | rfl
 ·obtain ⟨x,rfl⟩:=one m.e hl
  exact with_1 hm hx hB hB'
 ·obtain ⟨x,rfl⟩:=one m.f hl
  exact with_2 hm hx hB hB'
 ·exact with_3 hm hx hB hB'
 ·exact with_4 hm hx hB hB'
 ·obtain ⟨x,rfl⟩:=one m.h hl
  exact with_5 hm hx hB hB'
 ·obtain ⟨x,rfl⟩:=one m.t hl
  exact with_6 hm hx hB hB'
 ·exact with_7 hm hx hB hB'
 ·exact with_8 hm hx hB hB'
 ·exact with_9 hm hx hB hB'
end
end Go.Proofs.Ytonhfgjofgbcdaa.Rf
namespace Go.Proofs.Ytonhfgjofgbcdaa.Lw
open Go Go.Conc Go.RowKit Jay Pl
open St Rf Wd
section
variable {γ : Type} {X : zad γ} {s : γ} {w : World}
attribute [local go_sem] upon_value upon_skip
def Kept (W : World) (g B : Nat) (m : Mem) : Prop:=∃ cs,Blk W g 25 cs /\ zbb W B m cs
theorem Kept.below {W W' : World} {g B N : Nat} {m : Mem} (h : Kept W g B m) (hb : Below N W W') (hg : g < N) (hB : B <= N) : Kept W' g B m:=by
 obtain ⟨cs,h1,h2⟩:=h
 exact ⟨cs,h1.below hb hg,h2.below (hb.mono hB)⟩
end
end Go.Proofs.Ytonhfgjofgbcdaa.Lw
namespace Go.Proofs.Ytonhfgjofgbcdaa.Rf
open Go Go.Conc Go.RowKit Jay Pl
open St Wd Lw
section
variable {γ : Type} {X : zad γ} {s : γ} {w : World}
attribute [local go_sem] upon_value upon_skip
def DoPost (s : γ) (w : World) (cs : Array Value) (m : Mem) (was : Int) (done : Bool) (s' : γ) (r : zf9) (w' : World) : Prop:=
 s' = s /\ Below w.heap.size w w' /\ ∃ cs',r = .back (.tuple #[.agg cs',.int .u64 was,.bool done]) /\ zbb w' w'.heap.size m cs' /\ Far w cs cs'
theorem us_block {w w5 : World} {B B5 g o n c : Nat} {xs : List Int} (h : Us w B (.slice (some ⟨g,o,none⟩) n c) xs) (hg : g < B5) (hk : ∀ p : Addr,p.block = g -> w5.cell? p = w.cell? p) : Us w5 B5 (.slice (some ⟨g,o,none⟩) n c) xs:=by
 obtain ⟨h1,A,c',e,h2,h3,h4⟩:=h
 injection e with e1 e2 e3
 subst e1 e3
 refine ⟨h1,_,_,by rw [e2],h2,h3,fun hn=>?_⟩
 obtain ⟨b,o',e',hb,hc⟩:=h4 hn
 injection e' with e'
 injection e' with e4 e5
 subst e4 e5
 exact ⟨g,o,rfl,hg,fun j u hu=>(hk _ rfl).trans (hc j u hu)⟩
set_option maxHeartbeats 16000000 in
theorem rdo_put {w W1 : World} {B gx ox ca i : Nat} {m : Mem} {v2 v3 v6 v7 v8 : Value} {d ar old new was : Int} (hoth : ∀ b,w.heap.size <= b -> ¬ X.oth s b) (g1 : Below w.heap.size w W1) (hmW : zbb W1 B m #[.int .u64 m.e,.int .u64 m.f,v2,v3,.int .u64 m.h,.int .u64 m.t,v6,v7,v8]) (hB : B <= w.heap.size)
  (b0 : Blk W1 w.heap.size 25 #[.int .u64 m.e,.int .u64 m.f,v2,v3,.int .u64 m.h,.int .u64 m.t,v6,v7,v8]) (b1 : Blk W1 (w.heap.size + 1) 27 (acc d ar (i : Int) old new)) (b2 : Blk W1 (w.heap.size + 1 + 1) 25 #[.int .u64 0,.int .u64 0,.slice none 0 0,.slice none 0 0,.int .u64 0,.int .u64 0,.slice none 0 0,.slice none 0 0,.slice none 0 0])
  (hus : Us W1 W1.heap.size (.slice (some ⟨gx,ox,none⟩) (m.area ar).length ca) (m.area ar)) (h2 : i < (m.area ar).length) (hfew : (m.area ar).length <= 1000000) {cs0 : Array Value} (hcs0 : ∀ q,Off q cs0 -> Off q #[.int .u64 m.e,.int .u64 m.f,v2,v3,.int .u64 m.h,.int .u64 m.t,v6,v7,v8]) (there : X.there s w) (v0 v1 v5 v6 v9 v10 v11 v12 v13 v14 v15 v16 v17 v18 v19 v20 v21 v22 v23 v24 v25 v26 v27 v28 v29 v30 v31 v32 v33 v34 v35 v36 v37 v38 v39 v40 v41 v42 v43 v44 v45 v46 v47 v48 v49 v50 v51 v52 v53 v54 v55 v56 v57 v58 v59 v60 v61 v62 v63 v64 v65 v66 v67 v68 v69 v70 : Value) :
  Wp Try.prog X 27 (zbn 5 Try.f27.body) (Body Try.prog Try.f27 (DoPost s w cs0 (Mem.with_ m ar ((m.area ar).set i new)) was true)) s
   ({ tmps:=(v0 :: v1 :: .pointer (some ⟨w.heap.size,0,none⟩) :: .pointer (some ⟨w.heap.size + 1,0,none⟩) :: .pointer (some ⟨w.heap.size + 1 + 1,0,none⟩) :: v5 :: v6 :: .slice (some ⟨gx,ox,none⟩) (m.area ar).length ca :: .int .u64 was :: v9 :: v10 :: v11 :: v12 :: v13 :: v14 :: v15 :: v16 :: v17 :: v18 :: v19 :: v20 :: v21 :: v22 :: v23 :: v24 :: v25 :: v26 :: v27 :: v28 :: v29 :: v30 :: v31 :: v32 :: v33 :: v34 :: v35 :: v36 :: v37 :: v38 :: v39 :: v40 :: v41 :: v42 :: v43 :: v44 :: v45 :: v46 :: v47 :: v48 :: v49 :: v50 :: v51 :: v52 :: v53 :: v54 :: v55 :: v56 :: v57 :: v58 :: v59 :: v60 :: v61 :: v62 :: v63 :: v64 :: v65 :: v66 :: v67 :: v68 :: v69 :: v70 :: []).toArray,defers:=[] }) W1:=by
 show Wp _ _ _ (Code.seq (zds 5 Try.f27.body) (zbn 6 Try.f27.body)) _ _ _ _
 with_reducible apply zdz
 generalize hT : zbn 6 _ = T
 conv=>arg 4; whnf
 refine wk3 ?_
 have hlen:=hus.1
 have hrow:=Sl.row hus (by omega)
 obtain ⟨b',o',c',ex,hgx,hnc,hcm,hcell⟩:=hrow
 obtain ⟨rfl,rfl,rfl⟩ : gx = b' /\ ox = o' /\ ca = c':=by injection ex with e1 e2 e3; injection e1 with e1; injection e1 with e1 e4; exact ⟨e1,e4,e3⟩
 refine zaj (zmw (.tmp 56) (.tmp 57) 23 rfl rfl W1.heap.size 22 (.int .u64 0) 1 8 zbv zcw rfl (by decide) _ 0 [] rfl
  (by exact ⟨rfl,.inr ⟨W1.heap.size,0, #[],rfl,Nat.le_refl _,heap_alloc_new W1 _,Nat.le_refl _,Nat.zero_le _,rfl,rfl⟩⟩)
  (fun g hg ho=>by
   have hg' : W1.heap.size = g:=Option.some.inj hg
   exact hoth g (by have:=g1.size; omega) ho)
  ⟨gx,ox,none⟩ (m.area ar).length ca (U (m.area ar)) rfl (by rw [U_len]; omega)
  (fun j u hu=>by
   have hadd : (⟨gx,ox,none⟩ : Addr).add j = ⟨gx,ox + j,none⟩:=by unfold Addr.add; split <;> simp_all
   rw [hadd,World.cell?_alloc_lt W1 _ _ (by show gx < _; omega)]
   exact hcell j u hu) (U_one _) (by omega) (by unfold maxLen; omega) (by omega) (by simp) ?_)
 intro g cap w' hown hgrow hat hlt
 simp only [Nat.zero_add,List.nil_append] at hown ⊢
 refine wk7 ?_
 refine wk3 ?_
 subst hT
 obtain ⟨_,⟨hx,_⟩ | ⟨g',cap',cur,hx,hbase,hcur,h1,hc2,h3,h4⟩⟩:=hown
 ·cases hx
 injection hx with hx1 hx2 hx3
 injection hx1 with hx1
 injection hx1 with hx1
 subst hx1 hx3
 have hbel : Below W1.heap.size W1 w':=((Below.refl W1.heap.size W1).alloc (Nat.le_refl _) _).grown hgrow (by simp) (fun k hk=>by have hk' : W1.heap.size = k:=Option.some.inj hk; omega)
 have g2:=g1.trans (hbel.mono g1.size)
 have hcg : Blk w' g 22 cur:=hcur
 have l1:=b1.lt
 have l2:=b2.lt
 replace b0:=Blk.below b0 hbel (Blk.lt b0)
 replace b1:=Blk.below b1 hbel (Blk.lt b1)
 replace b2:=Blk.below b2 hbel (Blk.lt b2)
 have hmW2:=hmW.below (hbel.mono (Nat.le_trans hB g1.size))
 have hsz1:=g1.size
 have hne : g ≠ w.heap.size + 1:=by omega
 clear hat
 have e1:=b1.cell
 unfold acc at e1
 have hcur1 : cur.size = cap:=by omega
 have htk : cur.toList.take (m.area ar).length = U (m.area ar):=by simpa using h4
 have hold : w'.cell? ⟨g,i,none⟩ = some (.int .u64 ((m.area ar)[i])):=by
  rw [hcg.cell]
  have e : (cur.toList.take (m.area ar).length)[i]? = (U (m.area ar))[i]?:=by rw [htk]
  rw [List.getElem?_take,if_pos h2] at e
  rw [<- Array.getElem?_toList,e]
  unfold U
  rw [List.getElem?_map,List.getElem?_eq_getElem h2]
  rfl
 have hfz:=hcg.frozen i
 have hidx : (0 : Int) <= (i : Int) /\ (i : Int) < ((m.area ar).length : Int):=by omega
 show Wp _ _ _ (Code.seq (zds 6 Try.f27.body) (zbn 7 Try.f27.body)) _ _ _ _
 with_reducible apply zdz
 generalize hT : zbn 7 _ = T
 conv=>arg 4; whnf
 refine wk3 ?_
 refine zdy ?_ ?_ (fun K hK=>?_)
 focus rfl
 focus exact fun ht=>zcy rfl rfl hold (hoth g (by omega)) ht
 go_simp
 refine hK _ _ _ ?_
 clear hK K
 have hb3:=(Below.refl w'.heap.size w')
 have c0:=b0.far (p:=⟨g,i,none⟩) (by dsimp only; omega) (.int .u64 new)
 have c2:=b2.far (p:=⟨g,i,none⟩) (by dsimp only; omega) (.int .u64 new)
 have c1:=b1.far (p:=⟨g,i,none⟩) (by dsimp only; omega) (.int .u64 new)
 have hmW3:=hmW2.below ((Below.refl B w').setCell (p:=⟨g,i,none⟩) (by dsimp only; omega) (.int .u64 new))
 have g3:=g2.setCell (p:=⟨g,i,none⟩) (by dsimp only; omega) (.int .u64 new)
 have hc3:=hcg.set_ i (.int .u64 new)
 generalize hW3 : w'.setCell ⟨g,i,none⟩ (.int .u64 new) = W3 at c0 c1 c2 hmW3 g3 hc3 ⊢
 clear hW3 b0 b1 b2 hmW2 e1 hold hfz hb3 hcg hcur
 have hset : ((m.area ar).set i new).length = (m.area ar).length:=List.length_set
 have hx : Us W3 W3.heap.size (.slice (some ⟨g,0,none⟩) ((m.area ar).set i new).length cap) ((m.area ar).set i new):=by
  refine zdh hc3 (by omega) hc2 (by rw [Array.size_setIfInBounds]; omega) ?_ hc3.lt
  rw [hset,Array.toList_setIfInBounds,List.take_set,htk]
  unfold U
  rw [List.map_set]
 rw [hset] at hx
 have e0:=c0.cell
 have e1:=c1.cell
 unfold acc at e1
 refine wk3 ?_
 subst hT
 show Wp _ _ _ (Code.seq (zds 7 Try.f27.body) (zbn 8 Try.f27.body)) _ _ _ _
 with_reducible apply zdz
 generalize hT : zbn 8 _ = T
 conv=>arg 4; whnf
 refine wk3 ?_
 have hsz3 : B <= W3.heap.size:=Nat.le_trans hB g3.size
 refine zbf _ rfl ?_ ?_ Try.func38 ?_ rfl (with_ (m:=m) (a:=ar) ⟨_,rfl,hmW3⟩ hx hsz3 (Nat.le_refl _) hset (by omega)) ?_
 focus rfl
 focus first | rfl | (go_simp; done) | (go_simp; rfl)
 focus rfl
 rintro s3 x W4 ⟨rfl,hb4,cs4,rfl,hm4,hm5,hoff⟩
 have hm40:=hm4
 obtain ⟨p2,p3,p6,p7,p8,rfl,_⟩:=hm4
 have g4:=g3.trans (hb4.mono g3.size)
 replace c2:=Blk.below c2 hb4 (Blk.lt c2)
 clear e0 e1 c0 c1
 generalize Mem.with_ m ar ((m.area ar).set i new) = M at hm40 hm5 hoff ⊢
 refine wk7 ?_
 refine wk3 ?_
 refine zaj (za7 (v:=.agg #[.int .u64 M.e,.int .u64 M.f,p2,p3,.int .u64 M.h,.int .u64 M.t,p6,p7,p8]) (cs':=#[.int .u64 M.e,.int .u64 M.f,p2,p3,.int .u64 M.h,.int .u64 M.t,p6,p7,p8]) rfl rfl rfl rfl c2 (hoth _ (by omega)) (by kernel_rfl) (Nat.le_of_ble_eq_true rfl) (zc2 hm40) rfl ?_)
 refine wk7 ?_
 have hne2 : g ≠ w.heap.size + 1 + 1:=by omega
 have hc4:=hc3.below hb4 hc3.lt
 have hfin:=hm5 (W4.setRow (w.heap.size + 1 + 1) #[.int .u64 M.e,.int .u64 M.f,p2,p3,.int .u64 M.h,.int .u64 M.t,p6,p7,p8])
  (fun v xs h=>(h.below (zaf (Below.refl B W4) (g:=w.heap.size + 1 + 1) _ (by omega))).more (by rw [setRow_size]; exact Nat.le_trans hB g4.size))
  (fun xs h=>us_block h (by rw [setRow_size]; exact hc4.lt) (fun q hq=>World.cell?_of_block (setRow_other W4 (w.heap.size + 1 + 1) q.block _ (by omega))))
 have f1:=c2.row #[.int .u64 M.e,.int .u64 M.f,p2,p3,.int .u64 M.h,.int .u64 M.t,p6,p7,p8]
 have gf:=zaf g4 (g:=w.heap.size + 1 + 1) #[.int .u64 M.e,.int .u64 M.f,p2,p3,.int .u64 M.h,.int .u64 M.t,p6,p7,p8] (by omega)
 generalize hW5 : W4.setRow (w.heap.size + 1 + 1) #[.int .u64 M.e,.int .u64 M.f,p2,p3,.int .u64 M.h,.int .u64 M.t,p6,p7,p8] = W5 at hfin f1 gf ⊢
 clear hW5 hc4 c2 hm40
 have dd:=f1.cell
 refine wk3 ?_
 subst hT
 conv=>arg 4; whnf
 refine wk3 ?_
 exact zb0 (.tuple #[.agg #[.int .u64 M.e,.int .u64 M.f,p2,p3,.int .u64 M.h,.int .u64 M.t,p6,p7,p8],.int .u64 was,.bool true]) rfl (by simp [results,go_sem,dd]) ⟨rfl,gf,_,rfl,hfin,fun q hq ho=>hoff q (fun cs e=>by injection e with e; exact e ▸ hcs0 q ho) (zfi (by omega))⟩
set_option maxHeartbeats 16000000 in
theorem rdo {B : Nat} {m : Mem} {cs : Array Value} {d ar at_ old new : Int} (hm : zbb w B m cs) (hB : B <= w.heap.size) (hsm : m.small) :
  Jdo Try.prog X 27 #[.agg cs,.agg (acc d ar at_ old new)] s w (DoPost s w cs (m.act d ar at_ old new).1 (m.act d ar at_ old new).2.1 (m.act d ar at_ old new).2.2):=by
 refine Jdo.there fun ht=>?_
 have hoth : ∀ b,w.heap.size <= b -> ¬ X.oth s b:=fun b hb ho=>by have:=ht b ho; omega
 have hm0:=hm
 obtain ⟨v2,v3,v6,v7,v8,rfl,_⟩:=hm
 obtain ⟨W0,hW0⟩ : ∃ W0,W0 = ((w.alloc (.cells #[.int .u64 m.e,.int .u64 m.f,v2,v3,.int .u64 m.h,.int .u64 m.t,v6,v7,v8] 25)).alloc (.cells (acc d ar at_ old new) 27)).alloc (.cells #[.int .u64 0,.int .u64 0,.slice none 0 0,.slice none 0 0,.int .u64 0,.int .u64 0,.slice none 0 0,.slice none 0 0,.slice none 0 0] 25):=⟨_,rfl⟩
 have b0 : Blk W0 w.heap.size _ _:=hW0 ▸ ((Blk.new w _ _).alloc _).alloc _
 have b1 : Blk W0 (w.heap.size + 1) _ _:=hW0 ▸ (Blk.new1 w _ _ _).alloc _
 have b2 : Blk W0 (w.heap.size + 1 + 1) _ _:=hW0 ▸ Blk.new2 w _ _ _ _
 have hb0 : Below w.heap.size w W0:=hW0 ▸ (((Below.refl _ _).alloc (Nat.le_refl _) _).alloc (by simp) _).alloc (by simp; omega) _
 unfold acc at hW0 ⊢
 refine zar Try.func27 rfl ?_
 simp only [Try.ntmps27]
 refine wk8 ?_
 show Wp _ _ _ (Code.seq (zds 0 Try.f27.body) (zbn 1 Try.f27.body)) _ _ _ _
 with_reducible apply zdz
 generalize hT : zbn 1 _ = T
 conv=>arg 4; whnf
 refine wk3 ?_
 rw [<- hW0]
 clear hW0
 have d0:=b0.cell
 have d1:=b1.cell
 unfold acc at d1
 subst hT
 show Wp _ _ _ (Code.seq (zds 1 Try.f27.body) (zbn 2 Try.f27.body)) _ _ _ _
 with_reducible apply zdz
 generalize hT : zbn 2 _ = T
 conv=>arg 4; whnf
 refine wk3 ?_
 have hmW:=hm0.below (hb0.mono hB)
 refine zbf _ rfl ?_ ?_ Try.func12 ?_ rfl (area (m:=m) (a:=ar) ⟨_,rfl,hmW⟩ (Nat.le_trans hB hb0.size)) ?_
 focus rfl
 focus first | rfl | (go_simp; done) | (go_simp; rfl)
 focus rfl
 rintro s1 x W1 ⟨rfl,hb1,vs,rfl,hus⟩
 have g1:=hb0.trans (hb1.mono hb0.size)
 replace b0:=Blk.below b0 hb1 (Blk.lt b0)
 replace b1:=Blk.below b1 hb1 (Blk.lt b1)
 replace b2:=Blk.below b2 hb1 (Blk.lt b2)
 clear d0 d1 hmW
 have d0:=b0.cell
 have d1:=b1.cell
 unfold acc at d1
 refine wk7 ?_
 refine wk3 ?_
 subst hT
 obtain ⟨Aa,ca,rfl,hnc,hcm⟩:=hus.form
 have hfew : (m.area ar).length <= 1000000:=zdo hsm ar
 have hmW:=hm0.below (g1.mono hB)
 by_cases h1 : at_ < 0
 ·have hact : m.act d ar at_ old new = (m,0,false):=by unfold Mem.act Mem.at_; rw [if_neg (by omega)]
  rw [hact]
  have q1 : decide (at_ < 0) = true:=decide_eq_true h1
  clear hact h1
  show Wp _ _ _ (Code.seq (zds 2 Try.f27.body) (zbn 3 Try.f27.body)) _ _ _ _
  with_reducible apply zdz
  generalize hT : zbn 3 _ = T
  conv=>arg 4; whnf
  refine wk3 ?_
  refine zaj (za7 (v:=.agg #[.int .u64 m.e,.int .u64 m.f,v2,v3,.int .u64 m.h,.int .u64 m.t,v6,v7,v8]) (cs':=#[.int .u64 m.e,.int .u64 m.f,v2,v3,.int .u64 m.h,.int .u64 m.t,v6,v7,v8]) rfl rfl rfl rfl b2 (hoth _ (by omega)) (by kernel_rfl) (Nat.le_of_ble_eq_true rfl) (zc2 hmW) rfl ?_)
  refine wk7 ?_
  have hM2:=hmW.below (zaf (Below.refl B W1) (g:=w.heap.size + 1 + 1) #[.int .u64 m.e,.int .u64 m.f,v2,v3,.int .u64 m.h,.int .u64 m.t,v6,v7,v8] (by omega))
  have f1:=b2.row #[.int .u64 m.e,.int .u64 m.f,v2,v3,.int .u64 m.h,.int .u64 m.t,v6,v7,v8]
  have gf:=zaf g1 (g:=w.heap.size + 1 + 1) #[.int .u64 m.e,.int .u64 m.f,v2,v3,.int .u64 m.h,.int .u64 m.t,v6,v7,v8] (by omega)
  generalize hW2 : W1.setRow (w.heap.size + 1 + 1) #[.int .u64 m.e,.int .u64 m.f,v2,v3,.int .u64 m.h,.int .u64 m.t,v6,v7,v8] = W2 at hM2 f1 gf ⊢
  clear hW2 d0 d1
  have dd:=f1.cell
  refine wk3 ?_
  exact zb0 (.tuple #[.agg #[.int .u64 m.e,.int .u64 m.f,v2,v3,.int .u64 m.h,.int .u64 m.t,v6,v7,v8],.int .u64 0,.bool false]) rfl (by simp [results,go_sem,dd]) ⟨rfl,gf,_,rfl,hM2.more (Nat.le_trans hB gf.size),Far.refl _ _⟩
 have q1 : decide (at_ < 0) = false:=decide_eq_false h1
 obtain ⟨i,rfl⟩:=Int.eq_ofNat_of_zero_le (Int.not_lt.1 h1)
 clear h1
 by_cases h2 : i < (m.area ar).length
 case neg=>
  have hact : m.act d ar (i : Int) old new = (m,0,false):=by
   unfold Mem.act Mem.at_
   rw [if_pos (by omega),Int.toNat_natCast,List.getElem?_eq_none (by omega)]
  rw [hact]
  have q2 : decide ((i : Int) >= ((m.area ar).length : Int)) = true:=decide_eq_true (by omega)
  have q3 : decide ((m.area ar).length <= i) = true:=decide_eq_true (by omega)
  clear hact h2
  show Wp _ _ _ (Code.seq (zds 2 Try.f27.body) (zbn 3 Try.f27.body)) _ _ _ _
  with_reducible apply zdz
  generalize hT : zbn 3 _ = T
  conv=>arg 4; whnf
  refine wk3 ?_
  refine zaj (za7 (v:=.agg #[.int .u64 m.e,.int .u64 m.f,v2,v3,.int .u64 m.h,.int .u64 m.t,v6,v7,v8]) (cs':=#[.int .u64 m.e,.int .u64 m.f,v2,v3,.int .u64 m.h,.int .u64 m.t,v6,v7,v8]) rfl rfl rfl rfl b2 (hoth _ (by omega)) (by kernel_rfl) (Nat.le_of_ble_eq_true rfl) (zc2 hmW) rfl ?_)
  refine wk7 ?_
  have hM2:=hmW.below (zaf (Below.refl B W1) (g:=w.heap.size + 1 + 1) #[.int .u64 m.e,.int .u64 m.f,v2,v3,.int .u64 m.h,.int .u64 m.t,v6,v7,v8] (by omega))
  have f1:=b2.row #[.int .u64 m.e,.int .u64 m.f,v2,v3,.int .u64 m.h,.int .u64 m.t,v6,v7,v8]
  have gf:=zaf g1 (g:=w.heap.size + 1 + 1) #[.int .u64 m.e,.int .u64 m.f,v2,v3,.int .u64 m.h,.int .u64 m.t,v6,v7,v8] (by omega)
  generalize hW2 : W1.setRow (w.heap.size + 1 + 1) #[.int .u64 m.e,.int .u64 m.f,v2,v3,.int .u64 m.h,.int .u64 m.t,v6,v7,v8] = W2 at hM2 f1 gf ⊢
  clear hW2 d0 d1
  have dd:=f1.cell
  refine wk3 ?_
  exact zb0 (.tuple #[.agg #[.int .u64 m.e,.int .u64 m.f,v2,v3,.int .u64 m.h,.int .u64 m.t,v6,v7,v8],.int .u64 0,.bool false]) rfl (by simp [results,go_sem,dd]) ⟨rfl,gf,_,rfl,hM2.more (Nat.le_trans hB gf.size),Far.refl _ _⟩
 have q2 : decide ((i : Int) >= ((m.area ar).length : Int)) = false:=decide_eq_false (by omega)
 have q3 : decide ((m.area ar).length <= i) = false:=decide_eq_false (by omega)
 obtain ⟨was,hwas⟩ : ∃ was,(m.area ar)[i]? = some was:=⟨_,List.getElem?_eq_getElem h2⟩
 have hat : m.at_ ar (i : Int) = some was:=by unfold Mem.at_; rw [if_pos (by omega),Int.toNat_natCast]; exact hwas
 by_cases h3 : inB d 1 3 = false
 ·have hact : m.act d ar (i : Int) old new = (m,0,false):=by
   unfold Mem.act
   rw [hat]
   simp only [h3,if_true]
  rw [hact]
  by_cases h4 : d < 1
  ·have q4 : decide (d < 1) = true:=decide_eq_true h4
   clear hact h4 h3 h2
   show Wp _ _ _ (Code.seq (zds 2 Try.f27.body) (zbn 3 Try.f27.body)) _ _ _ _
   with_reducible apply zdz
   generalize hT : zbn 3 _ = T
   conv=>arg 4; whnf
   refine wk3 ?_
   refine zaj (za7 (v:=.agg #[.int .u64 m.e,.int .u64 m.f,v2,v3,.int .u64 m.h,.int .u64 m.t,v6,v7,v8]) (cs':=#[.int .u64 m.e,.int .u64 m.f,v2,v3,.int .u64 m.h,.int .u64 m.t,v6,v7,v8]) rfl rfl rfl rfl b2 (hoth _ (by omega)) (by kernel_rfl) (Nat.le_of_ble_eq_true rfl) (zc2 hmW) rfl ?_)
   refine wk7 ?_
   have hM2:=hmW.below (zaf (Below.refl B W1) (g:=w.heap.size + 1 + 1) #[.int .u64 m.e,.int .u64 m.f,v2,v3,.int .u64 m.h,.int .u64 m.t,v6,v7,v8] (by omega))
   have f1:=b2.row #[.int .u64 m.e,.int .u64 m.f,v2,v3,.int .u64 m.h,.int .u64 m.t,v6,v7,v8]
   have gf:=zaf g1 (g:=w.heap.size + 1 + 1) #[.int .u64 m.e,.int .u64 m.f,v2,v3,.int .u64 m.h,.int .u64 m.t,v6,v7,v8] (by omega)
   generalize hW2 : W1.setRow (w.heap.size + 1 + 1) #[.int .u64 m.e,.int .u64 m.f,v2,v3,.int .u64 m.h,.int .u64 m.t,v6,v7,v8] = W2 at hM2 f1 gf ⊢
   clear hW2 d0 d1
   have dd:=f1.cell
   refine wk3 ?_
   exact zb0 (.tuple #[.agg #[.int .u64 m.e,.int .u64 m.f,v2,v3,.int .u64 m.h,.int .u64 m.t,v6,v7,v8],.int .u64 0,.bool false]) rfl (by simp [results,go_sem,dd]) ⟨rfl,gf,_,rfl,hM2.more (Nat.le_trans hB gf.size),Far.refl _ _⟩
  ·have q4 : decide (d < 1) = false:=decide_eq_false h4
   have h5 : d > 3:=by simp [inB] at h3; omega
   have q5 : decide (d > 3) = true:=decide_eq_true h5
   have q6 : decide (3 < d) = true:=decide_eq_true h5
   clear hact h4 h3 h2 h5
   show Wp _ _ _ (Code.seq (zds 2 Try.f27.body) (zbn 3 Try.f27.body)) _ _ _ _
   with_reducible apply zdz
   generalize hT : zbn 3 _ = T
   conv=>arg 4; whnf
   refine wk3 ?_
   refine zaj (za7 (v:=.agg #[.int .u64 m.e,.int .u64 m.f,v2,v3,.int .u64 m.h,.int .u64 m.t,v6,v7,v8]) (cs':=#[.int .u64 m.e,.int .u64 m.f,v2,v3,.int .u64 m.h,.int .u64 m.t,v6,v7,v8]) rfl rfl rfl rfl b2 (hoth _ (by omega)) (by kernel_rfl) (Nat.le_of_ble_eq_true rfl) (zc2 hmW) rfl ?_)
   refine wk7 ?_
   have hM2:=hmW.below (zaf (Below.refl B W1) (g:=w.heap.size + 1 + 1) #[.int .u64 m.e,.int .u64 m.f,v2,v3,.int .u64 m.h,.int .u64 m.t,v6,v7,v8] (by omega))
   have f1:=b2.row #[.int .u64 m.e,.int .u64 m.f,v2,v3,.int .u64 m.h,.int .u64 m.t,v6,v7,v8]
   have gf:=zaf g1 (g:=w.heap.size + 1 + 1) #[.int .u64 m.e,.int .u64 m.f,v2,v3,.int .u64 m.h,.int .u64 m.t,v6,v7,v8] (by omega)
   generalize hW2 : W1.setRow (w.heap.size + 1 + 1) #[.int .u64 m.e,.int .u64 m.f,v2,v3,.int .u64 m.h,.int .u64 m.t,v6,v7,v8] = W2 at hM2 f1 gf ⊢
   clear hW2 d0 d1
   have dd:=f1.cell
   refine wk3 ?_
   exact zb0 (.tuple #[.agg #[.int .u64 m.e,.int .u64 m.f,v2,v3,.int .u64 m.h,.int .u64 m.t,v6,v7,v8],.int .u64 0,.bool false]) rfl (by simp [results,go_sem,dd]) ⟨rfl,gf,_,rfl,hM2.more (Nat.le_trans hB gf.size),Far.refl _ _⟩
 have hd : 1 <= d /\ d <= 3:=by simp [inB] at h3; omega
 have hin3 : inB d 1 3 = true:=by simpa using h3
 have q4 : decide (d < 1) = false:=decide_eq_false (by omega)
 have q5 : decide (d > 3) = false:=decide_eq_false (by omega)
 have q6 : decide (3 < d) = false:=decide_eq_false (by omega)
 clear h3
 have hrow:=zkf hus (by omega)
 obtain ⟨gx,ox,cx,ex,hgx,hcx⟩:=hrow
 obtain ⟨rfl,rfl⟩ : Aa = some ⟨gx,ox,none⟩ /\ ca = cx:=by injection ex with e1 e2 e3; exact ⟨e1,e3⟩
 have hci:=hcx i h2
 have hgi : (m.area ar)[i] = was:=(List.getElem?_eq_some_iff.1 hwas).2
 rw [hgi] at hci
 have hidx : (0 : Int) <= (i : Int) /\ (i : Int) < ((m.area ar).length : Int):=by omega
 have hd0:=hd
 clear hd
 show Wp _ _ _ (Code.seq (zds 2 Try.f27.body) (zbn 3 Try.f27.body)) _ _ _ _
 with_reducible apply zdz
 generalize hT : zbn 3 _ = T
 conv=>arg 4; whnf
 refine wk3 ?_
 subst hT
 show Wp _ _ _ (Code.seq (zds 3 Try.f27.body) (zbn 4 Try.f27.body)) _ _ _ _
 with_reducible apply zdz
 generalize hT : zbn 4 _ = T
 conv=>arg 4; whnf
 refine wk3 ?_
 subst hT
 by_cases h5 : d = 1
 ·have hact : m.act d ar (i : Int) old new = (m,was,false):=by
   unfold Mem.act
   rw [hat]
   show (if inB d 1 3 = false then _ else _) = _
   rw [if_neg (by rw [hin3]; simp),if_pos (.inl h5)]
  rw [hact]
  have c5 : (d == 1) = true:=by simpa using h5
  have c5' : decide (d = 1) = true:=by simpa using h5
  clear hact h5 hin3 hat
  show Wp _ _ _ (Code.seq (zds 4 Try.f27.body) (zbn 5 Try.f27.body)) _ _ _ _
  with_reducible apply zdz
  generalize hT : zbn 5 _ = T
  conv=>arg 4; whnf
  refine wk3 ?_
  refine zaj (za7 (v:=.agg #[.int .u64 m.e,.int .u64 m.f,v2,v3,.int .u64 m.h,.int .u64 m.t,v6,v7,v8]) (cs':=#[.int .u64 m.e,.int .u64 m.f,v2,v3,.int .u64 m.h,.int .u64 m.t,v6,v7,v8]) rfl rfl rfl rfl b2 (hoth _ (by omega)) (by kernel_rfl) (Nat.le_of_ble_eq_true rfl) (zc2 hmW) rfl ?_)
  refine wk7 ?_
  have hM2:=hmW.below (zaf (Below.refl B W1) (g:=w.heap.size + 1 + 1) #[.int .u64 m.e,.int .u64 m.f,v2,v3,.int .u64 m.h,.int .u64 m.t,v6,v7,v8] (by omega))
  have f1:=b2.row #[.int .u64 m.e,.int .u64 m.f,v2,v3,.int .u64 m.h,.int .u64 m.t,v6,v7,v8]
  have gf:=zaf g1 (g:=w.heap.size + 1 + 1) #[.int .u64 m.e,.int .u64 m.f,v2,v3,.int .u64 m.h,.int .u64 m.t,v6,v7,v8] (by omega)
  generalize hW2 : W1.setRow (w.heap.size + 1 + 1) #[.int .u64 m.e,.int .u64 m.f,v2,v3,.int .u64 m.h,.int .u64 m.t,v6,v7,v8] = W2 at hM2 f1 gf ⊢
  clear hW2 d0 d1
  have dd:=f1.cell
  refine wk3 ?_
  exact zb0 (.tuple #[.agg #[.int .u64 m.e,.int .u64 m.f,v2,v3,.int .u64 m.h,.int .u64 m.t,v6,v7,v8],.int .u64 was,.bool false]) rfl (by simp [results,go_sem,dd]) ⟨rfl,gf,_,rfl,hM2.more (Nat.le_trans hB gf.size),Far.refl _ _⟩
 have c5 : (d == 1) = false:=by simpa using h5
 have c5' : decide (d = 1) = false:=by simpa using h5
 by_cases h6 : d = 3 /\ was ≠ old
 ·have hact : m.act d ar (i : Int) old new = (m,was,false):=by
   unfold Mem.act
   rw [hat]
   show (if inB d 1 3 = false then _ else _) = _
   rw [if_neg (by rw [hin3]; simp),if_pos (.inr h6)]
  rw [hact]
  have c6 : (d == 3) = true:=by simpa using h6.1
  have c6' : decide (d = 3) = true:=by simpa using h6.1
  have c7 : (was != old) = true:=by simpa using h6.2
  clear hact h6 h5 hin3 hat
  show Wp _ _ _ (Code.seq (zds 4 Try.f27.body) (zbn 5 Try.f27.body)) _ _ _ _
  with_reducible apply zdz
  generalize hT : zbn 5 _ = T
  conv=>arg 4; whnf
  refine wk3 ?_
  refine zaj (za7 (v:=.agg #[.int .u64 m.e,.int .u64 m.f,v2,v3,.int .u64 m.h,.int .u64 m.t,v6,v7,v8]) (cs':=#[.int .u64 m.e,.int .u64 m.f,v2,v3,.int .u64 m.h,.int .u64 m.t,v6,v7,v8]) rfl rfl rfl rfl b2 (hoth _ (by omega)) (by kernel_rfl) (Nat.le_of_ble_eq_true rfl) (zc2 hmW) rfl ?_)
  refine wk7 ?_
  have hM2:=hmW.below (zaf (Below.refl B W1) (g:=w.heap.size + 1 + 1) #[.int .u64 m.e,.int .u64 m.f,v2,v3,.int .u64 m.h,.int .u64 m.t,v6,v7,v8] (by omega))
  have f1:=b2.row #[.int .u64 m.e,.int .u64 m.f,v2,v3,.int .u64 m.h,.int .u64 m.t,v6,v7,v8]
  have gf:=zaf g1 (g:=w.heap.size + 1 + 1) #[.int .u64 m.e,.int .u64 m.f,v2,v3,.int .u64 m.h,.int .u64 m.t,v6,v7,v8] (by omega)
  generalize hW2 : W1.setRow (w.heap.size + 1 + 1) #[.int .u64 m.e,.int .u64 m.f,v2,v3,.int .u64 m.h,.int .u64 m.t,v6,v7,v8] = W2 at hM2 f1 gf ⊢
  clear hW2 d0 d1
  have dd:=f1.cell
  refine wk3 ?_
  exact zb0 (.tuple #[.agg #[.int .u64 m.e,.int .u64 m.f,v2,v3,.int .u64 m.h,.int .u64 m.t,v6,v7,v8],.int .u64 was,.bool false]) rfl (by simp [results,go_sem,dd]) ⟨rfl,gf,_,rfl,hM2.more (Nat.le_trans hB gf.size),Far.refl _ _⟩
 have hact : m.act d ar (i : Int) old new = (m.put ar i new,was,true):=by
  unfold Mem.act
  rw [hat]
  show (if inB d 1 3 = false then _ else _) = _
  rw [if_neg (by rw [hin3]; simp),if_neg (fun h=>h.elim h5 h6),Int.toNat_natCast]
 rw [hact,<- with_put new h2]
 have fin:=fun (there : X.there s1 w)=>rdo_put (s:=s1) hoth g1 hmW hB b0 b1 b2 hus h2 hfew (cs0:=#[.int .u64 m.e,.int .u64 m.f,v2,v3,.int .u64 m.h,.int .u64 m.t,v6,v7,v8]) (fun _ h=>h) there (d:=d) (old:=old) (new:=new) (was:=was)
 by_cases h7 : d = 3
 ·have c6 : (d == 3) = true:=by simpa using h7
  have c6' : decide (d = 3) = true:=by simpa using h7
  have c7 : (was != old) = false:=by
   have : was = old:=by
    false_or_by_contra
    rename_i h
    exact h6 ⟨h7,h⟩
   simpa using this
  clear hact h6 h5 hin3 hat h7
  show Wp _ _ _ (Code.seq (zds 4 Try.f27.body) (zbn 5 Try.f27.body)) _ _ _ _
  with_reducible apply zdz
  generalize hT : zbn 5 _ = T
  conv=>arg 4; whnf
  refine wk3 ?_
  subst hT
  apply fin ht
 ·have c6 : (d == 3) = false:=by simpa using h7
  have c6' : decide (d = 3) = false:=by simpa using h7
  clear hact h6 h5 hin3 hat h7
  show Wp _ _ _ (Code.seq (zds 4 Try.f27.body) (zbn 5 Try.f27.body)) _ _ _ _
  with_reducible apply zdz
  generalize hT : zbn 5 _ = T
  conv=>arg 4; whnf
  refine wk3 ?_
  subst hT
  apply fin ht
end
end Go.Proofs.Ytonhfgjofgbcdaa.Rf
