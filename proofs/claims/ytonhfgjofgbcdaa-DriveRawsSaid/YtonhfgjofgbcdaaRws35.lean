/- A part of this claim's proof. -/
import Derived.Test.YtonhfgjofgbcdaaRws34
set_option linter.unusedSimpArgs false
set_option linter.unusedVariables false
set_option maxRecDepth 20000
namespace Go.Proofs.Ytonhfgjofgbcdaa.Dr
open Go Go.Conc Go.RowKit Jay Pl
open St Sx Rf
section
section
variable {γ : Type} {X : zad γ} {s : γ} {w : World} {Stop : γ -> Frame -> List Frame -> World -> Prop} {c : Frame} {cs : List Frame}
theorem nw_k {W : World} {k K T Mn : Int} {m : Mem} {i : Nat} {p : Np} {q0 q1 : Seg} {xs : List Value} (h : Nw X W s w k K T Mn m i p) (hth : X.there s w) (hi : (i : Int) < T) (hi9 : i < 1000) (h0 : Whl q0 p.gB) (h1 : Whl q1 p.gR) (hxs : xs.length = 42)
  {gO nO cO gC nC cC gA nA cA : Nat} (eO : p.vO = .slice (some ⟨gO,0,none⟩) nO cO) (eC : p.vC = .slice (some ⟨gC,0,none⟩) nC cC) (eA : p.vA = .slice (some ⟨gA,0,none⟩) nA cA)
  (hback : ∀ (p' : Np) (q0 q1 : Seg) (xs : List Value) (w' : World),Nw X W s w' k K T Mn m (i + 1) p' -> X.there s w' -> Whl q0 p'.gB -> Whl q1 p'.gR -> xs.length = 42 -> Fr.reach Try.prog X Stop s (c :: cs) ⟨[((i + 1 : Nat) : Int)],[],xs,[],[q0,q1],[]⟩ nw1.frs w') :
  Fr.reach Try.prog X Stop s (c :: cs) ⟨[(i : Int)],[],xs,[],[q0,q1],[]⟩ nw1.frs w:=by
 obtain ⟨g0,b0,o0,pre0,post0,cap0,ad0⟩:=q0
 obtain ⟨rfl,rfl,rfl,rfl⟩ : g0 = _ /\ o0 = _ /\ pre0 = _ /\ post0 = _:=h0
 obtain ⟨g1,b1,o1,pre1,post1,cap1,ad1⟩:=q1
 obtain ⟨rfl,rfl,rfl,rfl⟩ : g1 = _ /\ o1 = _ /\ pre1 = _ /\ post1 = _:=h1
 obtain ⟨v2,v3,v6,v7,v8,hcE,u2,u3,u6,u7,u8⟩:=h.mem
 have hR:=h.R
 unfold nwV at hR
 rw [hcE,eO,eC,eA] at hR
 obtain ⟨pO,eqO,bO,lO,cO1,cO2,cO3⟩:=zcd h.O eO
 have eqO:=eqO.symm
 subst eqO
 obtain ⟨pC,eqC,bC,lC,cC1,cC2,cC3⟩:=zcd h.C eC
 have eqC:=eqC.symm
 subst eqC
 obtain ⟨pA,eqA,bA,lA,cA1,cA2,cA3⟩:=zcd h.A eA
 have eqA:=eqA.symm
 subst eqA
 have dR:=h.dis p.gR (.inl rfl)
 have mO : p.mine gO:=.inr (.inl (by rw [eO]; rfl))
 have mC : p.mine gC:=.inr (.inr (.inl (by rw [eC]; rfl)))
 have mA : p.mine gA:=.inr (.inr (.inr (by rw [eA]; rfl)))
 have dO:=h.dis gO mO
 have dC:=h.dis gC mC
 have dA:=h.dis gA mA
 obtain ⟨n1,n2,n3⟩:=h.ne
 have n1:=n1 gO (by rw [eO]; rfl)
 have n2:=n2 gC (by rw [eC]; rfl)
 have n3:=n3 gA (by rw [eA]; rfl)
 have nOC : gO ≠ gC:=fun e=>n1.2.1 (by rw [eC,e]; rfl)
 have nOA : gO ≠ gA:=fun e=>n1.2.2 (by rw [eA,e]; rfl)
 have nCA : gC ≠ gA:=fun e=>n2.2 (by rw [eA,e]; rfl)
 have nB : ∀ g,p.mine g -> p.gB ≠ g:=h.nB
 refine zak (L:=⟨1,0,42,0,2⟩) (ai:=[k,K,T,Mn]) (ab:=[]) (ax:=[]) (ay:=[.int .i64 k,.int .i64 K,.int .i64 T,.int .i64 Mn,.int .u64 m.e,.int .u64 m.f,v2,v3,.int .u64 m.h,.int .u64 m.t,v6,v7,v8]) (ak:=[⟨gO,0,(List.replicate i f0V).flatten.length,(List.replicate i f0V).flatten,pO,cO,none⟩,⟨gC,0,(isV (List.replicate i (-1))).length,isV (List.replicate i (-1)),pC,cC,none⟩,⟨gA,0,(nsV (List.replicate i 0)).length,nsV (List.replicate i 0),pA,cA,none⟩]) (by simp [Env.lens,hxs]) (by kernel_rfl) ?_
 generalize hY : Env.grow _ _ _ _ _ _ = Y
 have hi' : Y.ints = [(i : Int),k,K,T,Mn]:=by rw [<- hY]; rfl
 have hbo : Y.bools = []:=by rw [<- hY]; rfl
 have hx : Y.xs = xs:=by rw [<- hY]; exact List.append_nil _
 have hy : Y.ys = [.int .i64 k,.int .i64 K,.int .i64 T,.int .i64 Mn,.int .u64 m.e,.int .u64 m.f,v2,v3,.int .u64 m.h,.int .u64 m.t,v6,v7,v8]:=by rw [<- hY]; rfl
 have hbl : Y.blks = [⟨p.gB,b0,0,[],[],cap0,ad0⟩,⟨p.gR,b1,0,[],[],cap1,ad1⟩,⟨gO,0,(List.replicate i f0V).flatten.length,(List.replicate i f0V).flatten,pO,cO,none⟩,⟨gC,0,(isV (List.replicate i (-1))).length,isV (List.replicate i (-1)),pC,cC,none⟩,⟨gA,0,(nsV (List.replicate i 0)).length,nsV (List.replicate i 0),pA,cA,none⟩]:=by rw [<- hY]; rfl
 have hp : Y.perms = []:=by rw [<- hY]; rfl
 clear hY
 have hr : Rep X s (ours Y nwD_in.heap) w Y nwD_in.heap nwD_in.facts 0 w:=by
  obtain ⟨Yi,Yb,Yx,Yy,Yk,Yp⟩:=Y
  dsimp only at hi' hbo hx hy hbl hp
  subst hi' hbo hx hy hbl hp
  refine Rep.start hth (zb9 ⟨rfl,rfl,rfl,rfl,rfl,rfl,za2 u2,za2 u3,rfl,rfl,za2 u6,za2 u7,za2 u8,trivial⟩) rfl ⟨⟨h.B.lt,zb8 rfl (zaz h.B rfl rfl),trivial,trivial,rfl⟩,⟨dR.2.1,zcc rfl ⟨dR.1,rfl,hR⟩,⟨rfl,rfl⟩,trivial,rfl⟩,⟨dO.2.1,zcc rfl ⟨dO.1,rfl,bO⟩,trivial,⟨rfl,lO,Nat.le_of_lt hi9,cO1,cO2,cO3,rfl⟩,rfl⟩,⟨dC.2.1,zcc rfl ⟨dC.1,rfl,bC⟩,trivial,⟨rfl,lC,Nat.le_of_lt hi9,cC1,cC2,cC3,rfl⟩,rfl⟩,⟨dA.2.1,zcc rfl ⟨dA.1,rfl,bA⟩,trivial,⟨rfl,lA,Nat.le_of_lt hi9,cA1,cA2,cA3,rfl⟩,rfl⟩,trivial⟩
   ⟨⟨(fun _=>nB _ (.inl rfl)),(fun _=>nB _ mO),(fun _=>nB _ mC),(fun _=>nB _ mA),trivial⟩,⟨(fun _=>Ne.symm n1.1),(fun _=>Ne.symm n2.1),(fun _=>Ne.symm n3),trivial⟩,⟨(fun _=>nOC),(fun _=>nOA),trivial⟩,⟨(fun _=>nCA),trivial⟩,trivial,trivial⟩ (za5 ⟨?_,trivial⟩) rfl
  exact decide_eq_true hi
 have hours : ∀ g,ours Y nwD_in.heap g -> p.mine g:=zbz ⟨(fun e=>nomatch e),fun _=>.inl (by rw [hbl]; rfl),fun _=>by rw [hbl]; exact mO,fun _=>by rw [hbl]; exact mC,fun _=>by rw [hbl]; exact mA,trivial⟩
 refine zaa 900 nwD_run hr ⟨fun Y1 w1 hx1 hr1=>?_,trivial⟩
 refine zbh nwD0_head hr1 fun Y5 w5 hx5' hr5=>?_
 have hx5:=hx1.trans hx5'
 have hb5l : Y5.blks.length = 11:=hr5.len
 have hi5 : Y5.ints = Y.ints:=hx5.ints
 have hy5 : Y5.ys = Y.ys:=hx5.ys
 have hk5 : ∀ j,j < 5 -> Y5.blks.getD j {} = Y.blks.getD j {}:=fun j hj=>hx5.blk (by rw [hbl]; exact hj)
 have hp5 : Y5.perms = []:=zae hr5
 have hc5:=hr5.chg
 have kr1:=(hr5.rep.blk 1 _ rfl rfl).2
 rw [hk5 1 (by decide),hbl] at kr1
 have rO:=hr5.rep.row 6 _ _ _ _ rfl rfl
 have kO:=(hr5.rep.blk 6 _ rfl rfl).2
 have rC:=hr5.rep.row 8 _ _ _ _ rfl rfl
 have kC:=(hr5.rep.blk 8 _ rfl rfl).2
 have rA:=hr5.rep.row 10 _ _ _ _ rfl rfl
 have kA:=(hr5.rep.blk 10 _ rfl rfl).2
 have hlen : (E.den Y5 (.ad (.tn (.v 0)) (.lit 1))).toNat = i + 1:=by show ((((Y5.ints.getD 0 0).toNat : Nat) : Int) + 1).toNat = _; rw [hi5,hi']; show ((((i : Int).toNat : Nat) : Int) + 1).toNat = _; omega
 have eO' : SV.den Y5 (.sl (.blk 6) (.ad (.tn (.v 0)) (.lit 1)) (.of 6 24)) = .slice (some ⟨(Y5.blks.getD 6 {}).g,0,none⟩) (i + 1) (Y5.blks.getD 6 {}).cap:=by
  refine (zas rfl rO.2.2.2.2.2.2).trans ?_
  rw [rO.1,hlen]
 have eC' : SV.den Y5 (.sl (.blk 8) (.ad (.tn (.v 0)) (.lit 1)) (.of 8 1)) = .slice (some ⟨(Y5.blks.getD 8 {}).g,0,none⟩) (i + 1) (Y5.blks.getD 8 {}).cap:=by
  refine (zas rfl rC.2.2.2.2.2.2).trans ?_
  rw [rC.1,hlen]
 have eA' : SV.den Y5 (.sl (.blk 10) (.ad (.tn (.v 0)) (.lit 1)) (.of 10 1)) = .slice (some ⟨(Y5.blks.getD 10 {}).g,0,none⟩) (i + 1) (Y5.blks.getD 10 {}).cap:=by
  refine (zas rfl rA.2.2.2.2.2.2).trans ?_
  rw [rA.1,hlen]
 let p' : Np:={ p with vO:=.slice (some ⟨(Y5.blks.getD 6 {}).g,0,none⟩) (i + 1) (Y5.blks.getD 6 {}).cap,vC:=.slice (some ⟨(Y5.blks.getD 8 {}).g,0,none⟩) (i + 1) (Y5.blks.getD 8 {}).cap,vA:=.slice (some ⟨(Y5.blks.getD 10 {}).g,0,none⟩) (i + 1) (Y5.blks.getD 10 {}).cap }
 have hm5 : zbb w5 w5.heap.size m p.cE:=(zbb.chg h.mem (Nat.le_refl _) hc5 fun g hg=>h.off g (hours g hg)).more hc5.size
 have offN : ∀ j x,nwD_0.heap[j]? = some x -> x.wr = true -> ¬ X.oth s (Y5.blks.getD j {}).g /\ (Y5.blks.getD j {}).g < w5.heap.size /\ W.heap.size <= (Y5.blks.getD j {}).g /\ Off (Y5.blks.getD j {}).g p.cE /\ p.gB ≠ (Y5.blks.getD j {}).g:=fun j x hx hw=>by
  refine ⟨hr5.own j x hx hw,hr5.bnd j (List.getElem?_eq_some_iff.1 hx).1,?_⟩
  rcases hr5.inS j x hx hw with h1 | h1
  ·exact ⟨(h.dis _ (hours _ h1)).2.2,h.off _ (hours _ h1),nB _ (hours _ h1)⟩
  ·have:=h.B.lt
   exact ⟨Nat.le_trans h.bel.size h1,zbd h.mem h1,by omega⟩
 have o1:=offN 1 _ rfl rfl
 have oO:=offN 6 _ rfl rfl
 have oC:=offN 8 _ rfl rfl
 have oA:=offN 10 _ rfl rfl
 rw [hk5 1 (by decide),hbl] at o1
 have nd1O:=hr5.nd 1 6 _ _ rfl rfl rfl rfl (by decide)
 have nd1C:=hr5.nd 1 8 _ _ rfl rfl rfl rfl (by decide)
 have nd1A:=hr5.nd 1 10 _ _ rfl rfl rfl rfl (by decide)
 have ndOC:=hr5.nd 6 8 _ _ rfl rfl rfl rfl (by decide)
 have ndOA:=hr5.nd 6 10 _ _ rfl rfl rfl rfl (by decide)
 have ndCA:=hr5.nd 8 10 _ _ rfl rfl rfl rfl (by decide)
 rw [hk5 1 (by decide),hbl] at nd1O nd1C nd1A
 have hN : Nw X W s w5 k K T Mn m (i + 1) p':=by
  refine ⟨?_,?_,?_,?_,?_,hm5,fun g hg=>?_,fun g hg=>?_,fun g hg=>?_,⟨fun g hg=>?_,fun g hg=>?_,fun g hg=>?_⟩,h.bel.trans (hc5.below (fun g hg=>(h.dis g (hours g hg)).2.2) h.bel.size),.inr ⟨_,_,_,_,_,_,_,_,_,rfl,rfl,rfl⟩,h.far⟩
  ·exact (hc5.block p.gB h.B.lt fun hg=>nB _ (hours _ hg) rfl).trans h.B
  ·have e : za3 Y5 ((nwD_0.heap.getD 1 default).cs) = nwV k K T Mn p':=by
    unfold nwV
    show [Y5.ys.getD 0 .nilFunc,Y5.ys.getD 1 .nilFunc,Y5.ys.getD 2 .nilFunc,Y5.ys.getD 3 .nilFunc,Y5.ys.getD 4 .nilFunc,Y5.ys.getD 5 .nilFunc,Y5.ys.getD 6 .nilFunc,Y5.ys.getD 7 .nilFunc,Y5.ys.getD 8 .nilFunc,Y5.ys.getD 9 .nilFunc,Y5.ys.getD 10 .nilFunc,Y5.ys.getD 11 .nilFunc,Y5.ys.getD 12 .nilFunc,SV.den Y5 (.sl (.blk 6) (.ad (.tn (.v 0)) (.lit 1)) (.of 6 24)),SV.den Y5 (.sl (.blk 8) (.ad (.tn (.v 0)) (.lit 1)) (.of 8 1)),SV.den Y5 (.sl (.blk 10) (.ad (.tn (.v 0)) (.lit 1)) (.of 10 1)),.slice none 0 0,.slice none 0 0,.int .u64 0,.int .u64 0,.slice none 0 0,.slice none 0 0,.int .u64 0,.int .u64 0,.slice none 0 0,.slice none 0 0,.slice none 0 0] = _
    rw [eO',eC',eA',hy5,hy,show p'.cE = p.cE from rfl,hcE]
    rfl
   refine Eq.trans kr1 ?_
   show some (Obj.cells _ _ _) = some (Obj.cells _ _ _)
   congr 2
   show ([] ++ za3 Y5 ((nwD_0.heap.getD 1 default).cs) ++ []).toArray = _
   rw [List.nil_append,List.append_nil,e]
  ·have hpre : (Y5.blks.getD 6 {}).pre = (List.replicate (i + 1) f0V).flatten:=by
    rw [hr5.aps 6 _ _ _ rfl rfl]
    have e1 : zd9 Y5 (some 2) = (List.replicate i f0V).flatten:=by
     show (Y5.blks.getD 2 {}).pre = _
     rw [hk5 2 (by decide),hbl]
     rfl
    rw [e1,List.replicate_succ',List.flatten_append]
    rfl
   have h5:=zbc (w:=w5) (t:=94) (size:=24) (q:=Y5.blks.getD 6 {}) kO rO.2.1 rO.2.2.2.1 rO.2.2.2.2.1 rO.2.2.2.2.2.1
   rw [hpre,hlen] at h5
   exact h5
  ·have hpre : (Y5.blks.getD 8 {}).pre = isV (List.replicate (i + 1) (-1)):=by
    rw [hr5.aps 8 _ _ _ rfl rfl]
    have e1 : zd9 Y5 (some 3) = isV (List.replicate i (-1)):=by
     show (Y5.blks.getD 3 {}).pre = _
     rw [hk5 3 (by decide),hbl]
     rfl
    rw [e1,List.replicate_succ']
    unfold isV
    rw [List.map_append]
    rfl
   have h5:=zbc (w:=w5) (t:=3) (size:=1) (q:=Y5.blks.getD 8 {}) kC rC.2.1 rC.2.2.2.1 rC.2.2.2.2.1 rC.2.2.2.2.2.1
   rw [hpre,hlen] at h5
   exact h5
  ·have hpre : (Y5.blks.getD 10 {}).pre = nsV (List.replicate (i + 1) 0):=by
    rw [hr5.aps 10 _ _ _ rfl rfl]
    have e1 : zd9 Y5 (some 4) = nsV (List.replicate i 0):=by
     show (Y5.blks.getD 4 {}).pre = _
     rw [hk5 4 (by decide),hbl]
     rfl
    rw [e1,List.replicate_succ']
    unfold nsV
    rw [List.map_append]
    rfl
   have h5:=zbc (w:=w5) (t:=3) (size:=1) (q:=Y5.blks.getD 10 {}) kA rA.2.1 rA.2.2.2.1 rA.2.2.2.2.1 rA.2.2.2.2.2.1
   rw [hpre,hlen] at h5
   exact h5
  ·rcases hg with rfl | hg | hg | hg
   ·exact o1.2.2.2.1
   ·obtain rfl:=Option.some.inj hg; exact oO.2.2.2.1
   ·obtain rfl:=Option.some.inj hg; exact oC.2.2.2.1
   ·obtain rfl:=Option.some.inj hg; exact oA.2.2.2.1
  ·rcases hg with rfl | hg | hg | hg
   ·exact ⟨o1.1,o1.2.1,o1.2.2.1⟩
   ·obtain rfl:=Option.some.inj hg; exact ⟨oO.1,oO.2.1,oO.2.2.1⟩
   ·obtain rfl:=Option.some.inj hg; exact ⟨oC.1,oC.2.1,oC.2.2.1⟩
   ·obtain rfl:=Option.some.inj hg; exact ⟨oA.1,oA.2.1,oA.2.2.1⟩
  ·rcases hg with rfl | hg | hg | hg
   ·exact o1.2.2.2.2
   ·obtain rfl:=Option.some.inj hg; exact oO.2.2.2.2
   ·obtain rfl:=Option.some.inj hg; exact oC.2.2.2.2
   ·obtain rfl:=Option.some.inj hg; exact oA.2.2.2.2
  ·obtain rfl:=Option.some.inj hg
   exact ⟨Ne.symm nd1O,fun e=>ndOC (Option.some.inj e).symm,fun e=>ndOA (Option.some.inj e).symm⟩
  ·obtain rfl:=Option.some.inj hg
   exact ⟨Ne.symm nd1C,fun e=>ndCA (Option.some.inj e).symm⟩
  ·obtain rfl:=Option.some.inj hg
   exact Ne.symm nd1A
 have s1 : (zer.env Y5).ints = [((i + 1 : Nat) : Int)]:=by
  show [IntKind.i64.wrap (Y5.ints.getD 0 0 + 1)] = _
  rw [hi5,hi']
  show [IntKind.i64.wrap ((i : Int) + 1)] = _
  rw [zbr hi9 (by decide)]
 have s2 : (zer.env Y5).bools = []:=rfl
 have s3 : (zer.env Y5).xs.length = 42:=(za8 _).trans rfl
 have s4 : (zer.env Y5).ys = []:=rfl
 have s5 : (zer.env Y5).blks = [⟨p.gB,b0,0,[],[],cap0,ad0⟩,⟨p.gR,b1,0,[],[],cap1,ad1⟩]:=by
  show [Y5.blks.getD 0 {},Y5.blks.getD 1 {}] = _
  rw [hk5 0 (by decide),hk5 1 (by decide),hbl]
  rfl
 have s6 : (zer.env Y5).perms = []:=hp5
 generalize zer.env Y5 = Ys at s1 s2 s3 s4 s5 s6
 obtain ⟨gi,gb,gx,gy,gk,gp⟩:=Ys
 dsimp only at s1 s2 s3 s4 s5 s6
 subst s1 s2 s4 s5 s6
 exact hback p' _ _ _ w5 hN hr5.there ⟨rfl,rfl,rfl,rfl⟩ ⟨rfl,rfl,rfl,rfl⟩ s3
end
end
section
section
variable {γ : Type} {X : zad γ} {s : γ} {w : World} {Stop : γ -> Frame -> List Frame -> World -> Prop} {c : Frame} {cs : List Frame}
theorem nw_n {W : World} {k K T Mn : Int} {m : Mem} {i : Nat} {p : Np} {q0 q1 : Seg} {xs : List Value} (h : Nw X W s w k K T Mn m i p) (hth : X.there s w) (hi : (i : Int) < T) (hi9 : i < 1000) (h0 : Whl q0 p.gB) (h1 : Whl q1 p.gR) (hxs : xs.length = 42)
  (eO : p.vO = .slice none 0 0) (eC : p.vC = .slice none 0 0) (eA : p.vA = .slice none 0 0) (hi0 : i = 0)
  (hback : ∀ (p' : Np) (q0 q1 : Seg) (xs : List Value) (w' : World),Nw X W s w' k K T Mn m (i + 1) p' -> X.there s w' -> Whl q0 p'.gB -> Whl q1 p'.gR -> xs.length = 42 -> Fr.reach Try.prog X Stop s (c :: cs) ⟨[((i + 1 : Nat) : Int)],[],xs,[],[q0,q1],[]⟩ nw1.frs w') :
  Fr.reach Try.prog X Stop s (c :: cs) ⟨[(i : Int)],[],xs,[],[q0,q1],[]⟩ nw1.frs w:=by
 obtain ⟨g0,b0,o0,pre0,post0,cap0,ad0⟩:=q0
 obtain ⟨rfl,rfl,rfl,rfl⟩ : g0 = _ /\ o0 = _ /\ pre0 = _ /\ post0 = _:=h0
 obtain ⟨g1,b1,o1,pre1,post1,cap1,ad1⟩:=q1
 obtain ⟨rfl,rfl,rfl,rfl⟩ : g1 = _ /\ o1 = _ /\ pre1 = _ /\ post1 = _:=h1
 obtain ⟨v2,v3,v6,v7,v8,hcE,u2,u3,u6,u7,u8⟩:=h.mem
 have hR:=h.R
 unfold nwV at hR
 rw [hcE,eO,eC,eA] at hR
 have dR:=h.dis p.gR (.inl rfl)
 have nB : ∀ g,p.mine g -> p.gB ≠ g:=h.nB
 refine zak (L:=⟨1,0,42,0,2⟩) (ai:=[k,K,T,Mn]) (ab:=[]) (ax:=[]) (ay:=[.int .i64 k,.int .i64 K,.int .i64 T,.int .i64 Mn,.int .u64 m.e,.int .u64 m.f,v2,v3,.int .u64 m.h,.int .u64 m.t,v6,v7,v8]) (ak:=[]) (by simp [Env.lens,hxs]) (by kernel_rfl) ?_
 generalize hY : Env.grow _ _ _ _ _ _ = Y
 have hi' : Y.ints = [(i : Int),k,K,T,Mn]:=by rw [<- hY]; rfl
 have hbo : Y.bools = []:=by rw [<- hY]; rfl
 have hx : Y.xs = xs:=by rw [<- hY]; exact List.append_nil _
 have hy : Y.ys = [.int .i64 k,.int .i64 K,.int .i64 T,.int .i64 Mn,.int .u64 m.e,.int .u64 m.f,v2,v3,.int .u64 m.h,.int .u64 m.t,v6,v7,v8]:=by rw [<- hY]; rfl
 have hbl : Y.blks = [⟨p.gB,b0,0,[],[],cap0,ad0⟩,⟨p.gR,b1,0,[],[],cap1,ad1⟩]:=by rw [<- hY]; rfl
 have hp : Y.perms = []:=by rw [<- hY]; rfl
 clear hY
 have hr : Rep X s (ours Y nwC_in.heap) w Y nwC_in.heap nwC_in.facts 0 w:=by
  obtain ⟨Yi,Yb,Yx,Yy,Yk,Yp⟩:=Y
  dsimp only at hi' hbo hx hy hbl hp
  subst hi' hbo hx hy hbl hp
  refine Rep.start hth (zb9 ⟨rfl,rfl,rfl,rfl,rfl,rfl,za2 u2,za2 u3,rfl,rfl,za2 u6,za2 u7,za2 u8,trivial⟩) rfl ⟨⟨h.B.lt,zb8 rfl (zaz h.B rfl rfl),trivial,trivial,rfl⟩,⟨dR.2.1,zcc rfl ⟨dR.1,rfl,hR⟩,⟨rfl,rfl⟩,trivial,rfl⟩,trivial⟩
   ⟨⟨(fun _=>nB _ (.inl rfl)),trivial⟩,trivial,trivial⟩ (za5 ⟨?_,trivial⟩) rfl
  exact decide_eq_true hi
 have hours : ∀ g,ours Y nwC_in.heap g -> p.mine g:=zbz ⟨(fun e=>nomatch e),fun _=>.inl (by rw [hbl]; rfl),trivial⟩
 refine zaa 900 nwC_run hr ⟨fun Y1 w1 hx1 hr1=>?_,trivial⟩
 refine zbh nwC0_head hr1 fun Y5 w5 hx5' hr5=>?_
 have hx5:=hx1.trans hx5'
 have hb5l : Y5.blks.length = 8:=hr5.len
 have hi5 : Y5.ints = Y.ints:=hx5.ints
 have hy5 : Y5.ys = Y.ys:=hx5.ys
 have hk5 : ∀ j,j < 2 -> Y5.blks.getD j {} = Y.blks.getD j {}:=fun j hj=>hx5.blk (by rw [hbl]; exact hj)
 have hp5 : Y5.perms = []:=zae hr5
 have hc5:=hr5.chg
 have kr1:=(hr5.rep.blk 1 _ rfl rfl).2
 rw [hk5 1 (by decide),hbl] at kr1
 have rO:=hr5.rep.row 3 _ _ _ _ rfl rfl
 have kO:=(hr5.rep.blk 3 _ rfl rfl).2
 have rC:=hr5.rep.row 5 _ _ _ _ rfl rfl
 have kC:=(hr5.rep.blk 5 _ rfl rfl).2
 have rA:=hr5.rep.row 7 _ _ _ _ rfl rfl
 have kA:=(hr5.rep.blk 7 _ rfl rfl).2
 have hlen : (E.den Y5 (.lit 1)).toNat = i + 1:=by rw [hi0]; rfl
 have eO' : SV.den Y5 (.sl (.blk 3) (.lit 1) (.of 3 24)) = .slice (some ⟨(Y5.blks.getD 3 {}).g,0,none⟩) (i + 1) (Y5.blks.getD 3 {}).cap:=by
  refine (zas rfl rO.2.2.2.2.2.2).trans ?_
  rw [rO.1,hlen]
 have eC' : SV.den Y5 (.sl (.blk 5) (.lit 1) (.of 5 1)) = .slice (some ⟨(Y5.blks.getD 5 {}).g,0,none⟩) (i + 1) (Y5.blks.getD 5 {}).cap:=by
  refine (zas rfl rC.2.2.2.2.2.2).trans ?_
  rw [rC.1,hlen]
 have eA' : SV.den Y5 (.sl (.blk 7) (.lit 1) (.of 7 1)) = .slice (some ⟨(Y5.blks.getD 7 {}).g,0,none⟩) (i + 1) (Y5.blks.getD 7 {}).cap:=by
  refine (zas rfl rA.2.2.2.2.2.2).trans ?_
  rw [rA.1,hlen]
 let p' : Np:={ p with vO:=.slice (some ⟨(Y5.blks.getD 3 {}).g,0,none⟩) (i + 1) (Y5.blks.getD 3 {}).cap,vC:=.slice (some ⟨(Y5.blks.getD 5 {}).g,0,none⟩) (i + 1) (Y5.blks.getD 5 {}).cap,vA:=.slice (some ⟨(Y5.blks.getD 7 {}).g,0,none⟩) (i + 1) (Y5.blks.getD 7 {}).cap }
 have hm5 : zbb w5 w5.heap.size m p.cE:=(zbb.chg h.mem (Nat.le_refl _) hc5 fun g hg=>h.off g (hours g hg)).more hc5.size
 have offN : ∀ j x,nwC_0.heap[j]? = some x -> x.wr = true -> ¬ X.oth s (Y5.blks.getD j {}).g /\ (Y5.blks.getD j {}).g < w5.heap.size /\ W.heap.size <= (Y5.blks.getD j {}).g /\ Off (Y5.blks.getD j {}).g p.cE /\ p.gB ≠ (Y5.blks.getD j {}).g:=fun j x hx hw=>by
  refine ⟨hr5.own j x hx hw,hr5.bnd j (List.getElem?_eq_some_iff.1 hx).1,?_⟩
  rcases hr5.inS j x hx hw with h1 | h1
  ·exact ⟨(h.dis _ (hours _ h1)).2.2,h.off _ (hours _ h1),nB _ (hours _ h1)⟩
  ·have:=h.B.lt
   exact ⟨Nat.le_trans h.bel.size h1,zbd h.mem h1,by omega⟩
 have o1:=offN 1 _ rfl rfl
 have oO:=offN 3 _ rfl rfl
 have oC:=offN 5 _ rfl rfl
 have oA:=offN 7 _ rfl rfl
 rw [hk5 1 (by decide),hbl] at o1
 have nd1O:=hr5.nd 1 3 _ _ rfl rfl rfl rfl (by decide)
 have nd1C:=hr5.nd 1 5 _ _ rfl rfl rfl rfl (by decide)
 have nd1A:=hr5.nd 1 7 _ _ rfl rfl rfl rfl (by decide)
 have ndOC:=hr5.nd 3 5 _ _ rfl rfl rfl rfl (by decide)
 have ndOA:=hr5.nd 3 7 _ _ rfl rfl rfl rfl (by decide)
 have ndCA:=hr5.nd 5 7 _ _ rfl rfl rfl rfl (by decide)
 rw [hk5 1 (by decide),hbl] at nd1O nd1C nd1A
 have hN : Nw X W s w5 k K T Mn m (i + 1) p':=by
  refine ⟨?_,?_,?_,?_,?_,hm5,fun g hg=>?_,fun g hg=>?_,fun g hg=>?_,⟨fun g hg=>?_,fun g hg=>?_,fun g hg=>?_⟩,h.bel.trans (hc5.below (fun g hg=>(h.dis g (hours g hg)).2.2) h.bel.size),.inr ⟨_,_,_,_,_,_,_,_,_,rfl,rfl,rfl⟩,h.far⟩
  ·exact (hc5.block p.gB h.B.lt fun hg=>nB _ (hours _ hg) rfl).trans h.B
  ·have e : za3 Y5 ((nwC_0.heap.getD 1 default).cs) = nwV k K T Mn p':=by
    unfold nwV
    show [Y5.ys.getD 0 .nilFunc,Y5.ys.getD 1 .nilFunc,Y5.ys.getD 2 .nilFunc,Y5.ys.getD 3 .nilFunc,Y5.ys.getD 4 .nilFunc,Y5.ys.getD 5 .nilFunc,Y5.ys.getD 6 .nilFunc,Y5.ys.getD 7 .nilFunc,Y5.ys.getD 8 .nilFunc,Y5.ys.getD 9 .nilFunc,Y5.ys.getD 10 .nilFunc,Y5.ys.getD 11 .nilFunc,Y5.ys.getD 12 .nilFunc,SV.den Y5 (.sl (.blk 3) (.lit 1) (.of 3 24)),SV.den Y5 (.sl (.blk 5) (.lit 1) (.of 5 1)),SV.den Y5 (.sl (.blk 7) (.lit 1) (.of 7 1)),.slice none 0 0,.slice none 0 0,.int .u64 0,.int .u64 0,.slice none 0 0,.slice none 0 0,.int .u64 0,.int .u64 0,.slice none 0 0,.slice none 0 0,.slice none 0 0] = _
    rw [eO',eC',eA',hy5,hy,show p'.cE = p.cE from rfl,hcE]
    rfl
   refine Eq.trans kr1 ?_
   show some (Obj.cells _ _ _) = some (Obj.cells _ _ _)
   congr 2
   show ([] ++ za3 Y5 ((nwC_0.heap.getD 1 default).cs) ++ []).toArray = _
   rw [List.nil_append,List.append_nil,e]
  ·have hpre : (Y5.blks.getD 3 {}).pre = (List.replicate (i + 1) f0V).flatten:=by
    rw [hr5.aps 3 _ _ _ rfl rfl]
    have e1 : zd9 Y5 none = (List.replicate i f0V).flatten:=by
     rw [hi0]
     rfl
    rw [e1,List.replicate_succ',List.flatten_append]
    rfl
   have h5:=zbc (w:=w5) (t:=94) (size:=24) (q:=Y5.blks.getD 3 {}) kO rO.2.1 rO.2.2.2.1 rO.2.2.2.2.1 rO.2.2.2.2.2.1
   rw [hpre,hlen] at h5
   exact h5
  ·have hpre : (Y5.blks.getD 5 {}).pre = isV (List.replicate (i + 1) (-1)):=by
    rw [hr5.aps 5 _ _ _ rfl rfl]
    have e1 : zd9 Y5 none = isV (List.replicate i (-1)):=by
     rw [hi0]
     rfl
    rw [e1,List.replicate_succ']
    unfold isV
    rw [List.map_append]
    rfl
   have h5:=zbc (w:=w5) (t:=3) (size:=1) (q:=Y5.blks.getD 5 {}) kC rC.2.1 rC.2.2.2.1 rC.2.2.2.2.1 rC.2.2.2.2.2.1
   rw [hpre,hlen] at h5
   exact h5
  ·have hpre : (Y5.blks.getD 7 {}).pre = nsV (List.replicate (i + 1) 0):=by
    rw [hr5.aps 7 _ _ _ rfl rfl]
    have e1 : zd9 Y5 none = nsV (List.replicate i 0):=by
     rw [hi0]
     rfl
    rw [e1,List.replicate_succ']
    unfold nsV
    rw [List.map_append]
    rfl
   have h5:=zbc (w:=w5) (t:=3) (size:=1) (q:=Y5.blks.getD 7 {}) kA rA.2.1 rA.2.2.2.1 rA.2.2.2.2.1 rA.2.2.2.2.2.1
   rw [hpre,hlen] at h5
   exact h5
  ·rcases hg with rfl | hg | hg | hg
   ·exact o1.2.2.2.1
   ·obtain rfl:=Option.some.inj hg; exact oO.2.2.2.1
   ·obtain rfl:=Option.some.inj hg; exact oC.2.2.2.1
   ·obtain rfl:=Option.some.inj hg; exact oA.2.2.2.1
  ·rcases hg with rfl | hg | hg | hg
   ·exact ⟨o1.1,o1.2.1,o1.2.2.1⟩
   ·obtain rfl:=Option.some.inj hg; exact ⟨oO.1,oO.2.1,oO.2.2.1⟩
   ·obtain rfl:=Option.some.inj hg; exact ⟨oC.1,oC.2.1,oC.2.2.1⟩
   ·obtain rfl:=Option.some.inj hg; exact ⟨oA.1,oA.2.1,oA.2.2.1⟩
  ·rcases hg with rfl | hg | hg | hg
   ·exact o1.2.2.2.2
   ·obtain rfl:=Option.some.inj hg; exact oO.2.2.2.2
   ·obtain rfl:=Option.some.inj hg; exact oC.2.2.2.2
   ·obtain rfl:=Option.some.inj hg; exact oA.2.2.2.2
  ·obtain rfl:=Option.some.inj hg
   exact ⟨Ne.symm nd1O,fun e=>ndOC (Option.some.inj e).symm,fun e=>ndOA (Option.some.inj e).symm⟩
  ·obtain rfl:=Option.some.inj hg
   exact ⟨Ne.symm nd1C,fun e=>ndCA (Option.some.inj e).symm⟩
  ·obtain rfl:=Option.some.inj hg
   exact Ne.symm nd1A
 have s1 : (zes.env Y5).ints = [((i + 1 : Nat) : Int)]:=by
  show [IntKind.i64.wrap (Y5.ints.getD 0 0 + 1)] = _
  rw [hi5,hi']
  show [IntKind.i64.wrap ((i : Int) + 1)] = _
  rw [zbr hi9 (by decide)]
 have s2 : (zes.env Y5).bools = []:=rfl
 have s3 : (zes.env Y5).xs.length = 42:=(za8 _).trans rfl
 have s4 : (zes.env Y5).ys = []:=rfl
 have s5 : (zes.env Y5).blks = [⟨p.gB,b0,0,[],[],cap0,ad0⟩,⟨p.gR,b1,0,[],[],cap1,ad1⟩]:=by
  show [Y5.blks.getD 0 {},Y5.blks.getD 1 {}] = _
  rw [hk5 0 (by decide),hk5 1 (by decide),hbl]
  rfl
 have s6 : (zes.env Y5).perms = []:=hp5
 generalize zes.env Y5 = Ys at s1 s2 s3 s4 s5 s6
 obtain ⟨gi,gb,gx,gy,gk,gp⟩:=Ys
 dsimp only at s1 s2 s3 s4 s5 s6
 subst s1 s2 s4 s5 s6
 exact hback p' _ _ _ w5 hN hr5.there ⟨rfl,rfl,rfl,rfl⟩ ⟨rfl,rfl,rfl,rfl⟩ s3
end
end
section
section
variable {γ : Type} {X : zad γ} {s : γ} {w : World}
def first3 (k K T Mn : Int) (n : Nat) : R3:=R3.of ⟨List.replicate n 0,Rp.firstM k K T Mn,[]⟩
def New3 (X : zad γ) (s : γ) (W : World) (k K T Mn : Int) (n : Nat) (s' : γ) (r : zf9) (w' : World) : Prop:=s' = s /\ ∃ q : Q3,r = .back (.pointer (some ⟨q.gR,0,none⟩)) /\ zkd X W s w' k K T Mn (first3 k K T Mn n) q
theorem nw_end {W : World} {k K T Mn : Int} {i : Nat} {p : Np} (h : Nw X W s w k K T Mn (Rp.firstM k K T Mn) i p) (h1 : 0 < i) : ∃ q : Q3,q.gR = p.gR /\ zkd X W s w k K T Mn (first3 k K T Mn i) q:=by
 rcases h.nils with ⟨_,_,_,e⟩ | ⟨gO,nO,cO,gC,nC,cC,gA,nA,cA,eO,eC,eA⟩
 ·omega
 obtain ⟨pO,eqO,bO,lO,cO1,cO2,cO3⟩:=zcd h.O eO
 obtain ⟨pC,eqC,bC,lC,cC1,cC2,cC3⟩:=zcd h.C eC
 obtain ⟨pA,eqA,bA,lA,cA1,cA2,cA3⟩:=zcd h.A eA
 have eqO:=eqO.symm
 subst eqO
 have eqC:=eqC.symm
 subst eqC
 have eqA:=eqA.symm
 subst eqA
 obtain ⟨n1,n2,n3⟩:=h.ne
 have n1:=n1 gO (by rw [eO]; rfl)
 have n2:=n2 gC (by rw [eC]; rfl)
 have n3:=n3 gA (by rw [eA]; rfl)
 have nOC : gO ≠ gC:=fun e=>n1.2.1 (by rw [eC,e]; rfl)
 have nOA : gO ≠ gA:=fun e=>n1.2.2 (by rw [eA,e]; rfl)
 have nCA : gC ≠ gA:=fun e=>n2.2 (by rw [eA,e]; rfl)
 let q : Q3:=⟨p.gR,gO,gC,gA,cO,cC,cA,pO,pC,pA,.slice none 0 0,.slice none 0 0,p.cE,List.replicate i f0V⟩
 have hm : ∀ g,q.mine g -> p.mine g:=fun g hg=>by
  rcases hg with rfl | rfl | rfl | rfl | hg | hg
  ·exact .inl rfl
  ·exact .inr (.inl (by rw [eO]; rfl))
  ·exact .inr (.inr (.inl (by rw [eC]; rfl)))
  ·exact .inr (.inr (.inr (by rw [eA]; rfl)))
  ·cases hg
  ·cases hg
 refine ⟨q,rfl,?_,?_,?_,?_,?_,fun f hf=>?_,?_,World.ownsRow_nil _ _ _ _,World.ownsRow_nil _ _ _ _,h.mem,Rp.zkl _ _ _ _,fun g hg=>h.off g (hm g hg),fun g hg=>h.dis g (hm g hg),⟨?_,(fun g hg=>by cases hg),fun g hg=>by cases hg⟩,h.bel,.inl ⟨rfl,rfl,rfl,rfl⟩,h.far⟩
 ·have hR:=h.R
  unfold nwV at hR
  rw [eO,eC,eA] at hR
  unfold r3V
  show Blk w p.gR _ ([Value.int .i64 k,.int .i64 K,.int .i64 T,.int .i64 Mn] ++ p.cE.toList ++ [Value.slice (some ⟨gO,0,none⟩) (List.replicate i 0).length cO,.slice (some ⟨gC,0,none⟩) (List.replicate i 0).length cC,.slice (some ⟨gA,0,none⟩) (List.replicate i 0).length cA,.slice none 0 0,.slice none 0 0,.int .u64 0,.int .u64 0,.slice none 0 0,.slice none 0 0,.int .u64 0,.int .u64 0,.slice none 0 0,.slice none 0 0,.slice none 0 0]).toArray
  rw [List.length_replicate]
  exact hR
 ·rw [List.append_nil] at bO
  exact bO
 ·rw [List.append_nil] at bC
  show Blk w gC _ (isV (List.replicate (List.replicate i 0).length (-1)) ++ pC).toArray
  rw [List.length_replicate]
  exact bC
 ·rw [List.append_nil] at bA
  exact bA
 ·show (List.replicate i f0V).length = (List.replicate i 0).length
  simp
 ·have hf : f ∈ List.replicate i f0V:=hf
  rw [(List.mem_replicate.1 hf).2]
  exact ⟨rfl,zox⟩
 ·show (List.replicate (List.replicate i 0).length (-1 : Int)).length = (List.replicate i 0).length
  simp
 ·show [p.gR,gO,gC,gA].Nodup
  simp only [List.nodup_cons,List.mem_cons,List.not_mem_nil,or_false,not_or,not_false_eq_true,List.nodup_nil,and_true]
  exact ⟨⟨Ne.symm n1.1,Ne.symm n2.1,Ne.symm n3⟩,⟨nOC,nOA⟩,nCA⟩
theorem nw_loop {W : World} {k K T Mn : Int} {n : Nat} (hT : T = (n : Int)) (hn : 0 < n) (hn9 : n <= 1000) {Stop : γ -> Frame -> List Frame -> World -> Prop} {c : Frame} {cs : List Frame}
  (hback : ∀ v w',New3 X s W k K T Mn n s (.back v) w' -> X.there s w' -> Jay.Reach Try.prog X Stop s (c.finish v) cs w') (d : Nat) : ∀ (i : Nat) (p : Np) (q0 q1 : Seg) (xs : List Value) (w : World),n - i = d -> i <= n -> Nw X W s w k K T Mn (Rp.firstM k K T Mn) i p -> X.there s w -> Whl q0 p.gB -> Whl q1 p.gR -> xs.length = 42 -> Fr.reach Try.prog X Stop s (c :: cs) ⟨[(i : Int)],[],xs,[],[q0,q1],[]⟩ nw1.frs w:=by
 induction d with
 | zero=>
  intro i p q0 q1 xs w hd hi h hth h0 h1 hxs
  obtain rfl : i = n:=by omega
  obtain ⟨g0,b0,o0,pre0,post0,cap0,ad0⟩:=q0
  obtain ⟨rfl,rfl,rfl,rfl⟩ : g0 = _ /\ o0 = _ /\ pre0 = _ /\ post0 = _:=h0
  obtain ⟨g1,b1,o1,pre1,post1,cap1,ad1⟩:=q1
  obtain ⟨rfl,rfl,rfl,rfl⟩ : g1 = _ /\ o1 = _ /\ pre1 = _ /\ post1 = _:=h1
  refine zak (L:=⟨1,0,42,0,2⟩) (ai:=[k,K,T,Mn]) (ab:=[]) (ax:=[]) (ay:=[]) (ak:=[]) (by simp [Env.lens,hxs]) (by kernel_rfl) ?_
  generalize hY : Env.grow _ _ _ _ _ _ = Y
  have hr : Rep X s (ours Y nwE_in.heap) w Y nwE_in.heap nwE_in.facts 0 w:=by
   subst hY
   refine Rep.start hth (fun v hv=>by cases hv) rfl ⟨⟨h.B.lt,zb8 rfl (zaz h.B rfl rfl),trivial,trivial,rfl⟩,kn h.R.lt,trivial⟩ (nd_ro rfl) (za5 ⟨?_,trivial⟩) rfl
   exact decide_eq_false (by show ¬ (i : Int) < T; omega)
  refine zaa 900 nwE_run hr ⟨fun Y1 w1 hx1 hr1=>?_,trivial⟩
  have hb1 : Below w.heap.size w w1:=hr1.chg.below (fun k hk=>absurd hk (zah rfl k)) (Nat.le_refl _)
  obtain ⟨q,eq,hq⟩:=nw_end h hn
  refine zbx nwE_0_end hr1.rep (hback _ w1 ⟨rfl,q,?_,hq.below hb1⟩ hr1.there)
  have hk : Y1.blks.getD 1 {} = ⟨p.gR,b1,0,[],[],cap1,ad1⟩:=by
   rw [hx1.blk (by rw [<- hY]; exact Nat.lt_succ_self _),<- hY]
   rfl
  show zf9.back (.pointer (some ⟨(Y1.blks.getD 1 {}).g,(Y1.blks.getD 1 {}).o + 0,none⟩)) = _
  rw [hk,eq]
 | succ d ih=>
  intro i p q0 q1 xs w hd hi h hth h0 h1 hxs
  have hb:=fun (p' : Np) (q0 q1 : Seg) (xs : List Value) (w' : World) h' ht h0 h1 hx=>ih (i + 1) p' q0 q1 xs w' (by omega) (by omega) h' ht h0 h1 hx
  rcases h.nils with ⟨eO,eC,eA,e0⟩ | ⟨gO,nO,cO,gC,nC,cC,gA,nA,cA,eO,eC,eA⟩
  ·exact nw_n h hth (by omega) (by omega) h0 h1 hxs eO eC eA e0 hb
  ·exact nw_k h hth (by omega) (by omega) h0 h1 hxs eO eC eA hb
theorem zis {k K T Mn : Int} (h : zea k K T Mn = true) : 0 < T.toNat /\ T.toNat <= 1000 /\ T = (T.toNat : Int) /\ IntKind.u64.wrap Mn ≠ 0:=by
 simp [zea,inB] at h
 refine ⟨by omega,by omega,by omega,?_⟩
 simp [IntKind.wrap,IntKind.bits,IntKind.signed]
 omega
theorem new03 {k K T Mn : Int} (hm : zea k K T Mn = true) : Jdo Try.prog X 32 #[cfg k K T Mn] s w (New3 X s w k K T Mn T.toNat):=by
 obtain ⟨hT1,hT2,hT3,_⟩:=zis hm
 let Y : Env:={ ints:=[k,K,T,Mn] }
 refine zbt (Y:=Y) nw_fresh rfl fun Stop c cs hth hback _=>?_
 have hr : Rep X s (ours Y nwA_in.heap) w Y nwA_in.heap nwA_in.facts 0 w:=Rep.start hth (fun v hv=>by cases hv) rfl trivial trivial (za5 trivial) rfl
 refine zaa 900 nwA_run hr ⟨fun Y1 w1 hx1 hr1=>?_,trivial⟩
 show Fr.reach _ X Stop s (c :: cs) Y1 [nwA_0.frs.headD default] w1
 have hb1 : Y1.blks.length = 1:=hr1.len
 have hL : Y1.lens = ⟨4,0,0,0,1⟩:=by simp only [Env.lens,hx1.ints,hx1.bools,hx1.xs,hx1.ys,hb1]; rfl
 refine zmf (fr:=nwA_0.frs.headD default) (callers:=[]) nwA_kd nwA_ord rfl nwA_code rfl nwA_ok hr1 ?_
 refine da_new (k:=(nwA_0.frs.headD default).todo.tail) 900 (fun Y'=>(za3 Y' zk5).toArray) (.agg [.int .u64 (.v 4),.int .u64 (.v 5),.y 0,.y 1,.int .u64 (.v 6),.int .u64 (.v 7),.y 2,.y 3,.y 4]) nwS1_grp nwS2_grp (kd_new [2] [] _ (by kernel_rfl)) nwS_at nwS_kdi nwS_gd nwS_set (fun Y' w hx=>zbs nwS_call nwS_fresh Y' w) hr1 (L:=⟨4,0,0,0,1⟩) (by rw [hL]; rfl) (by kernel_rfl) rfl (by kernel_rfl) (Post:=fun _ w1 s' r w'=>s' = s /\ Below w1.heap.size w1 w' /\ ∃ cs,r = .back (.agg cs) /\ zbb w' w'.heap.size (Rp.firstM k K T Mn) cs /\ ∀ g,g < w1.heap.size -> Off g cs) ?_ ?_ (fun Y' w1 s' ch w' hp=>by obtain ⟨_,_,_,e,_⟩:=hp; cases e)
 ·intro Y' w2 hx' hr'
  obtain ⟨e1,e2,e3⟩:=Rp.mayB_nat hm
  have:=rnew (X:=X) (s:=s) (w:=w2) (k:=k) (K:=K.toNat) (T:=T.toNat) (M:=Mn.toNat) (by rw [<- e1,<- e2,<- e3]; exact hm)
  rw [<- e1,<- e2,<- e3] at this
  have ef : Rp.firstM k K T Mn = zj7 k K.toNat T.toNat Mn.toNat:=by unfold Rp.firstM; rw [if_pos hm]
  rw [ef]
  rwa [show (za3 Y' zk5).toArray = #[cfg k K T Mn] by
   have e : Y'.ints = Y.ints:=hx'.ints.trans hx1.ints
   obtain ⟨gi,gb,gx,gy,gk,gp⟩:=Y'
   dsimp only at e
   subst e
   rfl]
 ·intro Y' w2 hx' hr' s' v w3 hp ht3
  obtain ⟨rfl,hb,cE,ev,hmem,hfresh⟩:=hp
  cases ev
  obtain ⟨z2,z3,z6,z7,z8,hcs,hzs⟩:=ze2 hmem
  generalize hMm : Rp.firstM k K T Mn = m at hmem hcs
  have hlb' : Y'.blks.length = 1:=hr'.len
  have hi' : Y'.ints = Y.ints:=hx'.ints.trans hx1.ints
  have hL' : Y'.lens = ⟨4,0,0,0,1⟩:=by
   simp only [Env.lens,hi',hx'.bools,hx'.xs,hx'.ys,hx1.bools,hx1.xs,hx1.ys,hlb']
   rfl
  have hgi : (Y'.grow [m.e,m.f,m.h,m.t] [] [] [z2,z3,z6,z7,z8] []).ints = [k,K,T,Mn,m.e,m.f,m.h,m.t]:=by simp only [Env.grow,hi']; rfl
  have hgy : (Y'.grow [m.e,m.f,m.h,m.t] [] [] [z2,z3,z6,z7,z8] []).ys = [z2,z3,z6,z7,z8]:=by simp only [Env.grow,hx'.ys,hx1.ys]; rfl
  have hgk : (Y'.grow [m.e,m.f,m.h,m.t] [] [] [z2,z3,z6,z7,z8] []).blks = Y'.blks:=by simp only [Env.grow,List.append_nil]
  have hrg:=((hr'.below hb).grow_ hL' (by kernel_rfl) rfl [m.e,m.f,m.h,m.t] [] [] [z2,z3,z6,z7,z8] (zb9 hzs)).rebase
  generalize hYg : Y'.grow _ _ _ _ _ = Yg at hgi hgy hgk hrg
  have hle2:=hr'.chg.size
  have hou : ∀ g,ours Yg nwS1_ho g -> w.heap.size <= g /\ Off g cE:=fun g hg=>by
   obtain ⟨i,x,hx,hw,rfl⟩:=hg
   rw [hgk]
   have hlt : (Y'.blks.getD i {}).g < w2.heap.size:=hr'.bnd i (List.getElem?_eq_some_iff.1 hx).1
   rcases hr'.inS i x hx hw with h1 | h1
   ·obtain ⟨j,y,hy,_⟩:=h1; cases hy
   ·exact ⟨h1,hfresh _ hlt⟩
  refine ⟨ours Yg nwS1_ho,w3,[m.e,m.f,m.h,m.t],[],[],[z2,z3,z6,z7,z8],?_,by rw [hYg]; exact hrg,fun Y4 w4 hx4 hr4=>?_⟩
  ·rw [hYg,hcs]
   obtain ⟨gi,gb,gx,gy,gk,gp⟩:=Yg
   dsimp only at hgi hgy
   subst hgi hgy
   rfl
  rw [hYg] at hx4
  refine zaa 900 nwB_run hr4 ⟨fun Y5 w5 hx5 hr5=>?_,trivial⟩
  refine zbh nwB0_head hr5 fun Y6 w6 hx6 hr6=>?_
  have hx46:=(hx4.trans hx5).trans hx6
  have hi6 : Y6.ints = [k,K,T,Mn,m.e,m.f,m.h,m.t]:=hx46.ints.trans hgi
  have hy6 : Y6.ys = [z2,z3,z6,z7,z8]:=hx46.ys.trans hgy
  have hc6:=hr6.chg
  have hle3 : w.heap.size <= w3.heap.size:=Nat.le_trans hle2 hb.size
  obtain ⟨wB,bB⟩:=zex hr6 0 rfl rfl rfl rfl
  obtain ⟨wR,bR⟩:=zex hr6 1 rfl rfl rfl rfl
  have n01:=hr6.nd 0 1 _ _ rfl rfl rfl rfl (by decide)
  have fR : w.heap.size <= (Y6.blks.getD 1 {}).g /\ Off (Y6.blks.getD 1 {}).g cE:=by
   rcases hr6.inS 1 _ rfl rfl with h1 | h1
   ·exact hou _ h1
   ·exact ⟨Nat.le_trans hle3 h1,zbd hmem h1⟩
  let p : Np:=⟨(Y6.blks.getD 0 {}).g,(Y6.blks.getD 1 {}).g,.slice none 0 0,.slice none 0 0,.slice none 0 0,cE⟩
  have hmine : ∀ g,p.mine g -> g = (Y6.blks.getD 1 {}).g:=fun g hg=>by
   rcases hg with hg | hg | hg | hg
   ·exact hg
   ·cases hg
   ·cases hg
   ·cases hg
  have hN : Nw X w s' w6 k K T Mn m 0 p:=by
   refine ⟨?_,?_,World.ownsRow_nil _ _ _ _,World.ownsRow_nil _ _ _ _,World.ownsRow_nil _ _ _ _,(zbb.chg hmem (Nat.le_refl _) hc6 fun g hg=>(hou g hg).2).more hc6.size,fun g hg=>by rw [hmine g hg]; exact fR.2,fun g hg=>by rw [hmine g hg]; exact ⟨hr6.own 1 _ rfl rfl,hr6.bnd 1 (by decide),fR.1⟩,fun g hg=>by rw [hmine g hg]; exact n01,⟨fun g hg=>by (cases hg),fun g hg=>by (cases hg),fun g hg=>by (cases hg)⟩,?_,.inl ⟨rfl,rfl,rfl,rfl⟩,fun g hg=>hfresh g (Nat.lt_of_lt_of_le hg hle2)⟩
   ·have h3 : Blk w6 (Y6.blks.getD 0 {}).g 36 #[.int .i64 (Y6.ints.getD 0 0),.int .i64 (Y6.ints.getD 1 0),.int .i64 (Y6.ints.getD 2 0),.int .i64 (Y6.ints.getD 3 0)]:=bB
    rw [hi6] at h3
    exact h3
   ·have h3 : Blk w6 (Y6.blks.getD 1 {}).g 91 #[.int .i64 (Y6.ints.getD 0 0),.int .i64 (Y6.ints.getD 1 0),.int .i64 (Y6.ints.getD 2 0),.int .i64 (Y6.ints.getD 3 0),.int .u64 (Y6.ints.getD 4 0),.int .u64 (Y6.ints.getD 5 0),Y6.ys.getD 0 .nilFunc,Y6.ys.getD 1 .nilFunc,.int .u64 (Y6.ints.getD 6 0),.int .u64 (Y6.ints.getD 7 0),Y6.ys.getD 2 .nilFunc,Y6.ys.getD 3 .nilFunc,Y6.ys.getD 4 .nilFunc,.slice none 0 0,.slice none 0 0,.slice none 0 0,.slice none 0 0,.slice none 0 0,.int .u64 0,.int .u64 0,.slice none 0 0,.slice none 0 0,.int .u64 0,.int .u64 0,.slice none 0 0,.slice none 0 0,.slice none 0 0]:=bR
    rw [hi6,hy6] at h3
    unfold nwV
    show Blk w6 _ _ ([Value.int .i64 k,.int .i64 K,.int .i64 T,.int .i64 Mn] ++ cE.toList ++ _).toArray
    rw [hcs]
    exact h3
   ·have b1:=hr'.chg.below (B:=w.heap.size) (fun g hg=>by obtain ⟨j,y,hy,_⟩:=hg; cases hy) (Nat.le_refl _)
    exact (b1.trans (hb.mono hle2)).trans (hc6.below (fun g hg=>(hou g hg).1) hle3)
  have s1 : (zet.env Y6).ints = [((0 : Nat) : Int)]:=rfl
  have s2 : (zet.env Y6).bools = []:=rfl
  have s3 : (zet.env Y6).xs.length = 42:=(za8 _).trans rfl
  have s4 : (zet.env Y6).ys = []:=rfl
  have s5 : (zet.env Y6).blks = [Y6.blks.getD 0 {},Y6.blks.getD 1 {}]:=rfl
  have s6 : (zet.env Y6).perms = []:=(show Y6.perms = [] from zae hr6)
  generalize zet.env Y6 = Ys at s1 s2 s3 s4 s5 s6
  obtain ⟨gi,gb,gx,gy,gk,gp⟩:=Ys
  dsimp only at s1 s2 s3 s4 s5 s6
  subst s1 s2 s4 s5 s6
  rw [<- hMm] at hN
  exact nw_loop hT3 hT1 hT2 (fun v w' h1 h2=>hback s' v w' h1 h2) T.toNat 0 p _ _ gx w6 (Nat.sub_zero _) (Nat.zero_le _) hN hr6.there wB wR s3
end
end
end Go.Proofs.Ytonhfgjofgbcdaa.Dr
