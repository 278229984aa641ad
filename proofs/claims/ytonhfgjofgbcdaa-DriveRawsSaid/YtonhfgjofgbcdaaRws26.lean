/- A part of this claim's proof. -/
import Derived.Test.YtonhfgjofgbcdaaRws25
set_option linter.unusedSimpArgs false
set_option linter.unusedVariables false
set_option maxRecDepth 20000
namespace Go.Proofs.Ytonhfgjofgbcdaa.Dr
open Go Go.Conc Go.RowKit Jay Pl
open St Sx
section
section
variable {γ : Type} {X : zad γ} {s : γ} {w : World} {M : Type} {Z : Fam X M}
theorem sh_den {Y : Env} {b gL oL n cL : Nat} (had : (Y.blks.getD b {}).ad = none) (hg : (Y.blks.getD b {}).g = gL) (hb0 : (Y.blks.getD b {}).b0 = oL) (h9 : Y.ints.getD 9 0 = ((n + 1 : Nat) : Int)) (h10 : Y.ints.getD 10 0 = (cL : Int)) (hc : 1 <= cL) :
  (SV.sl (.sh (.blk b) (.lit 1) (.v 10) 2) (.su (.tn (.v 9)) (.lit 1)) (.e (.su (.tn (.v 10)) (.lit 1)))).den Y = .slice (some ⟨gL,if cL = 1 then oL else oL + 2,none⟩) n (cL - 1):=by
 simp only [SV.den,BA.den,Seg.adr,had,CP.den,E.den,hg,hb0,h9,h10]
 have e1 : (((n + 1 : Nat) : Int).toNat : Int) - 1 = (n : Int):=by omega
 have e2 : (((cL : Int).toNat : Int) - 1).toNat = cL - 1:=by omega
 rw [e1,e2]
 by_cases h : cL = 1
 ·subst h; rfl
 ·rw [if_neg (by simpa using h),if_neg h]
  rfl
theorem pick_startk {s₀ : γ} {w₀ : World} {F : Nat -> Prop} {R : Rr M} {p : Ph} (h : ze3 Z s₀ w₀ s F w R p) (t : Nat) (draw : Int) {y : Rt} {o : Int × Int} {rest : List (Int × Int)} (hy : R.ths[t]? = some y) (hon : y.on = none) (hl : y.left = o :: rest) (hpre : Z.pre R.ms t) (hsm : R.steps.length < 1000000) (hcm : R.calls.length < 1000000)
  {gS nS cS gC nC cC : Nat} (eS : p.vS = .slice (some ⟨gS,0,none⟩) nS cS) (eC : p.vC = .slice (some ⟨gC,0,none⟩) nC cC) :
  Jdo Try.prog X 41 #[.pointer (some ⟨p.gR,0,none⟩),.agg #[.int .i64 t,.int .u32 draw]] s w (zjc Z s₀ w₀ R p.gR t draw):=by
 have hc:=h.core
 obtain ⟨v2,v3,v6,v7,v8,hcE,u2,u3,u6,u7,u8⟩:=h.side.mem
 have h1 : ∀ {v xs},Us w w.heap.size v xs -> v.oneCell' = true:=fun hu=>by obtain ⟨A,c,rfl,_⟩:=Sl.form hu; rfl
 have hcR:=hc.r
 rw [hcE] at hcR
 have htl : t < p.ths.length:=by rw [h.side.tlen]; exact (List.getElem?_eq_some_iff.1 hy).1
 have hx:=List.getElem?_eq_getElem htl
 generalize p.ths[t] = x at hx
 have hrel:=h.side.rel t x y hx hy
 obtain ⟨postS,rfl,bS,lS,cS1,cS2,cS3⟩:=zcd hc.s eS
 obtain ⟨postC,rfl,bC,lC,cC1,cC2,cC3⟩:=zcd hc.c eC
 have dR:=h.side.dis p.gR (.inl rfl)
 have dT:=h.side.dis p.gT (.inr (.inl rfl))
 have dS:=h.side.dis gS (.inr (.inr (.inl (by rw [eS]; rfl))))
 have dC:=h.side.dis gC (.inr (.inr (.inr (.inl (by rw [eC]; rfl)))))
 obtain ⟨n1,n2,n3⟩:=h.side.ne
 have n2:=n2 gS (by rw [eS]; rfl)
 have n3:=n3 gC (by rw [eC]; rfl)
 have n4 : gS ≠ gC:=fun e=>n2.2.2 (by rw [eC,e]; rfl)
 obtain ⟨lv,on,asks,call⟩:=x
 obtain rfl : on = .nilIface:=by rw [show on = _ from hrel.on,hon]; rfl
 have hleft:=hrel.left
 have hloff:=hrel.off
 rw [hl] at hleft
 obtain ⟨gL,oL,cL,eL,hgL,hlc,hlm,hat⟩:=Sl.row hleft (by simp)
 have eL : lv = .slice (some ⟨gL,oL,none⟩) (rest.length + 1) cL:=eL
 subst eL
 have nL : ∀ g,F g \/ p.mine g -> gL ≠ g:=fun g hg=>hloff g hg gL oL _ _ rfl (by omega)
 let Y : Env:=envP Z t draw R.ths.length p.tcap R.steps.length R.calls.length R.mem.e R.mem.f R.mem.h R.mem.t v2 v3 v6 v7 v8 ⟨.nilFunc,.nilFunc,asks,call⟩ (rest.length + 1) cL o [.nilFunc,.nilFunc] [⟨p.gR,0,0,[],[],0,none⟩,⟨p.gT,0,t * 8,(p.ths.take t).flatMap Th.cells,(p.ths.drop (t + 1)).flatMap Th.cells,0,none⟩,⟨gC,0,(R.calls.flatMap Rc.cells).length,R.calls.flatMap Rc.cells,postC,cC,none⟩,⟨gS,0,(R.steps.flatMap Rp.Sp.cells).length,R.steps.flatMap Rp.Sp.cells,postS,cS,none⟩,⟨gL,oL,oL,[],[],0,none⟩]
 refine zbt (Y:=Y) zgt rfl fun Stop c cs hth hback _=>?_
 have hkR : Blk w p.gR 105 ((⟨p.gR,0,0,[],[],0,none⟩ : Seg).whole (za3 Y (zl7.heap.headD default).cs)).toArray:=by
  rw [eS,eC] at hcR
  exact hcR
 have hkT : Blk w p.gT 107 ((⟨p.gT,0,t * 8,(p.ths.take t).flatMap Th.cells,(p.ths.drop (t + 1)).flatMap Th.cells,0,none⟩ : Seg).whole (za3 Y (zl7.heap.tail.headD default).cs)).toArray:=by
  have h2:=zf7 hx
  have h3:=hc.t
  rw [show Ths p.ths = (Ths p.ths).toList.toArray from rfl,h2] at h3
  exact h3
 have f1 : (0 : Int) <= t:=Int.natCast_nonneg _
 have f2 : (t : Int) < ((R.ths.length : Int).toNat : Int):=by have:=h.side.tlen; omega
 have f3 : (((rest.length + 1 : Nat) : Int).toNat : Int) = rest.length + 1:=by omega
 have hr : Rep X s (ours Y zl7.heap) w Y zl7.heap zl7.facts 0 w:=by
  refine Rep.start hth (zb9 (l:=Y.ys) ⟨rfl,h1 u2,h1 u3,h1 u6,h1 u7,h1 u8,rfl,rfl,trivial⟩) rfl ⟨⟨dR.2.2.1,zcc rfl ⟨dR.2.1,rfl,hkR⟩,⟨rfl,rfl⟩,trivial,rfl⟩,⟨dT.2.2.1,zcc rfl ⟨dT.2.1,(zlz (Nat.le_of_lt htl)).symm,hkT⟩,⟨(Nat.zero_add _).symm,rfl⟩,trivial,rfl⟩,⟨dC.2.2.1,zcc rfl ⟨dC.2.1,rfl,bC⟩,trivial,⟨rfl,lC,Nat.le_of_lt hcm,cC1,cC2,cC3,rfl⟩,rfl⟩,⟨dS.2.2.1,zcc rfl ⟨dS.2.1,rfl,bS⟩,trivial,⟨rfl,lS,Nat.le_of_lt hsm,cS1,cS2,cS3,rfl⟩,rfl⟩,⟨hgL,zb8 rfl (fun j u hu=>hat j u ?_),⟨rfl,rfl⟩,trivial,rfl⟩,trivial⟩ ?_
   (za5 ⟨decide_eq_true f1,decide_eq_true f2,decide_eq_false (Int.not_lt.2 f1),decide_eq_false (Int.not_le.2 f2),(show ((((rest.length + 1 : Nat) : Int).toNat : Int) == 0) = false from beq_eq_false_iff_ne.2 (by omega)),decide_eq_true (by show (0 : Int) < (((rest.length + 1 : Nat) : Int).toNat : Int); omega),decide_eq_true (by show (1 : Int) <= (((rest.length + 1 : Nat) : Int).toNat : Int); omega),trivial⟩) rfl
  ·have hj : j < 2:=(List.getElem?_eq_some_iff.1 hu).1
   rw [List.flatMap_cons,List.getElem?_append_left (by rw [zim]; exact hj)]
   exact hu
  ·exact ⟨⟨(fun _=>n1),(fun _=>n3.1.symm),(fun _=>n2.1.symm),(fun _=>(nL _ (.inr (.inl rfl))).symm),trivial⟩,⟨(fun _=>n3.2.symm),(fun _=>n2.2.1.symm),(fun _=>(nL _ (.inr (.inr (.inl rfl)))).symm),trivial⟩,⟨(fun _=>n4.symm),(fun _=>(nL gC (.inr (.inr (.inr (.inr (.inl (by rw [eC]; rfl))))))).symm),trivial⟩,⟨(fun _=>(nL gS (.inr (.inr (.inr (.inl (by rw [eS]; rfl)))))).symm),trivial⟩,trivial,trivial⟩
 refine zaa 900 pkS_run hr ⟨fun Y1 w1 hx1 hr1=>?_,trivial⟩
 have hm0 : ∀ k,ours Y zl7.heap k -> p.mine k:=zbz ⟨fun _=>.inl rfl,fun _=>.inr (.inl rfl),fun _=>.inr (.inr (.inr (.inl (by rw [eC]; rfl)))),fun _=>.inr (.inr (.inl (by rw [eS]; rfl))),(fun e=>nomatch e),trivial⟩
 have hin1 : ∀ j hb,zl8.heap[j]? = some hb -> hb.wr = true -> p.mine (Y1.blks.getD j {}).g \/ w.heap.size <= (Y1.blks.getD j {}).g /\ (Y1.blks.getD j {}).g < w1.heap.size /\ ¬ X.oth s (Y1.blks.getD j {}).g:=fun j hb e hw=>by
  rcases hr1.inS j hb e hw with h2 | h2
  ·exact .inl (hm0 _ h2)
  ·exact .inr ⟨h2,hr1.bnd j (List.getElem?_eq_some_iff.1 e).1,hr1.own j hb e hw⟩
 have hb1 : ∀ j,j < 5 -> Y1.blks.getD j {} = Y.blks.getD j {}:=fun j hj=>hx1.blk hj
 let vC' : Value:=(SV.sl (.blk 8) (E.ad (.tn (.v 4)) (.lit 1)) (.of 8 7)).den Y1
 have rN:=hr1.rep.row 8 _ _ _ _ rfl rfl
 have kN:=(hr1.rep.blk 8 _ rfl rfl).2
 have eN : vC' = .slice (some ⟨(Y1.blks.getD 8 {}).g,(Y1.blks.getD 8 {}).b0,none⟩) ((E.ad (.tn (.v 4)) (.lit 1)).den Y1).toNat (Y1.blks.getD 8 {}).cap:=zas rfl rN.2.2.2.2.2.2
 rw [rN.1] at eN
 have m0:=hr1.nd 0 8 _ _ rfl rfl rfl rfl (by decide)
 have m1:=hr1.nd 1 8 _ _ rfl rfl rfl rfl (by decide)
 have m3:=hr1.nd 3 8 _ _ rfl rfl rfl rfl (by decide)
 rw [hb1 0 (by decide)] at m0
 rw [hb1 1 (by decide)] at m1
 rw [hb1 3 (by decide)] at m3
 let rc : Rc:=⟨t,o.1,o.2,R.steps.length, -1,0,0⟩
 have side_a:=h.side.called (hr1.chg.mono fun k _ hk=>hm0 k hk) hr1.there (vC':=vC') (g':=(Y1.blks.getD 8 {}).g) [(Y1.blks.getD 5 {}).g,(Y1.blks.getD 6 {}).g,(Y1.blks.getD 7 {}).g] (R.calls ++ [rc]) (by simp) (by rw [eN]; rfl) (fun g hg'=>by
  simp only [List.mem_cons,List.not_mem_nil,or_false] at hg'
  rcases hg' with rfl | rfl | rfl | rfl
  ·exact hin1 8 _ rfl rfl
  ·exact hin1 5 _ rfl rfl
  ·exact hin1 6 _ rfl rfl
  ·exact hin1 7 _ rfl rfl) (Ne.symm m0) (Ne.symm m1) (fun e=>m3 (Option.some.inj ((show p.vS.ownBlock = some gS by rw [eS]; rfl).symm.trans e)))
 have rel_a:=side_a.rel t _ y hx hy
 have hcL : 1 <= cL:=by simp only [List.length_cons] at hlc; omega
 let lv' : Value:=.slice (some ⟨gL,if cL = 1 then oL else oL + 2,none⟩) rest.length (cL - 1)
 have side_b:=side_a.upd (t:=t) (x':=⟨lv',.nilIface,asks,R.calls.length⟩) (y':={ y with left:=rest,call:=R.calls.length }) (calls':=R.calls ++ [rc]) (Nat.le_refl _) ⟨by rw [hon]; rfl,(fun k hk=>by rw [hon] at hk; cases hk),rel_a.asks,rfl,by
   have h2:=rel_a.left
   rw [hl] at h2
   exact left_next h2,.inr ⟨gL,_,_,rfl,Nat.lt_of_lt_of_le hgL hr1.chg.size⟩,fun g hg b o' n c e hn=>by
   cases e
   exact rel_a.off g hg gL oL _ _ rfl (by omega)⟩
 obtain ⟨func,code,hff,hnm,hbd⟩:=Z.fbok
 have hr1b:=hr1.rebase
 have hm1 : ∀ k,ours Y1 zl8.heap k -> Ph.mine { p with vC:=vC',tmp:=[(Y1.blks.getD 5 {}).g,(Y1.blks.getD 6 {}).g,(Y1.blks.getD 7 {}).g],ths:=p.ths.set t ⟨lv',.nilIface,asks,R.calls.length⟩ } k:=zbz ⟨fun _=>.inl (by rw [hb1 0 (by decide)]; rfl),fun _=>.inr (.inl (by rw [hb1 1 (by decide)]; rfl)),(fun e=>nomatch e),fun _=>.inr (.inr (.inl (by rw [hb1 3 (by decide)]; show p.vS.ownBlock = _; rw [eS]; rfl))),(fun e=>nomatch e),fun _=>.inr (.inr (.inr (.inr (List.mem_cons_self ..)))),fun _=>.inr (.inr (.inr (.inr (List.mem_cons_of_mem _ (List.mem_cons_self ..))))),fun _=>.inr (.inr (.inr (.inr (List.mem_cons_of_mem _ (List.mem_cons_of_mem _ (List.mem_cons_self ..)))))),fun _=>.inr (.inr (.inr (.inl (by show vC'.ownBlock = _; rw [eN]; rfl)))),trivial⟩
 have hn1 : Y1.blks.length = 9:=hr1.len
 have hL1 : Y1.lens = ⟨20,0,0,8,9⟩:=by simp only [Env.lens,hx1.ints,hx1.bools,hx1.xs,hx1.ys,hn1]; rfl
 have hsnd : (p.vs.zip R.ms).map (·.2) = R.ms:=List.map_snd_zip (Nat.le_of_eq h.side.vlen.symm)
 let m0:=Z.ini R.ms t o.1 o.2 draw
 refine zmf pkS_kd pkS_ord rfl pkS_code rfl pkS_ok hr1b ?_
 refine zbm (k:=(zl8.frs.headD default).todo.tail) 900 (fun Y'=>(za3 Y' zk1 ++ Z.capt).toArray) (.iface 82 (.y 8)) pkS1_grp pkS2_grp (zcg [8] [] _) pkS_at pkS_kdi pkS_gd pkS_set (fun Y' w hx=>run_vcall pkS_call (by show Y'.ys.getD 0 .nilFunc = _; rw [hx.ys,hx1.ys]; rfl) hff hbd hnm w) hr1b (L:=⟨20,0,0,8,9⟩) (by rw [hL1]; rfl) (by kernel_rfl) (by kernel_rfl) (Post:=fun _ w2 s' r w'=>∃ v F',r = .back (.iface 82 v) /\ v.oneCell' = true /\ Z.I s' F' w' (p.vs.zip R.ms ++ [(v,m0)]) /\ Chg F w2 w' /\ (∀ k,F' k -> F k \/ w2.heap.size <= k) /\ ∀ k,k < w2.heap.size -> X.oth s' k -> X.oth s k) ?_ ?_ (fun Y' w1 s' ch w' hp=>by obtain ⟨_,_,e,_⟩:=hp; cases e)
 ·intro Y' w2 hx' hr'
  have side_c:=side_b.keep (hr'.chg.mono fun k _ hk=>hm1 k hk) hr'.there
  have:=Z.begin_ok t o.1 o.2 draw side_c.i (by rw [hsnd]; exact hpre)
  rw [hsnd] at this
  rwa [show (za3 Y' zk1 ++ Z.capt).toArray = #[.int .i64 t,.agg #[.int .i64 o.1,.int .u32 o.2],.int .u32 draw] ++ Z.capt.toArray by
   have e1 : za3 Y' zk1 = [.int .i64 t,.agg #[.int .i64 o.1,.int .u32 o.2],.int .u32 draw]:=by
    show [Value.int .i64 (Y'.ints.getD 0 0),.agg #[.int .i64 (Y'.ints.getD 17 0),.int .u32 (Y'.ints.getD 18 0)],.int .u32 (Y'.ints.getD 19 0)] = _
    rw [hx'.ints,hx1.ints]
    rfl
   rw [e1]
   apply Array.ext'
   simp]
 ·intro Y' w2 hx' hr' s' v0 w3 hp ht3
  obtain ⟨v,F',e,hv1,hI,hch,hF',ho⟩:=hp
  cases e
  have side_c:=side_b.keep (hr'.chg.mono fun k _ hk=>hm1 k hk) hr'.there
  have hzip : p.vs.zip R.ms ++ [(v,m0)] = (p.vs ++ [v]).zip (R.ms ++ [m0]):=by
   rw [List.zip_append h.side.vlen]
   rfl
  rw [hzip] at hI
  have side_d:=side_c.foreign (vs':=p.vs ++ [v]) (ms':=R.ms ++ [m0]) hI hch ht3 hF' ho (by simp [h.side.vlen]) (fun u hu=>by
   rcases List.mem_append.1 hu with h2 | h2
   ·exact h.side.vone u h2
   ·rw [List.mem_singleton.1 h2]; exact hv1) (by simp) (fun i hi=>by
   have hi' : i < p.vs.length:=hi
   simp only [List.getD_eq_getElem?_getD]
   rw [List.getElem?_append_left hi'])
  have hg4 : (Y'.blks.getD 4 {}).g = gL:=by rw [hx'.blk (by omega),hb1 4 (by decide)]; rfl
  have hr3:=(hr'.foreign hch ht3 ho (side_b.apart2 hr' hm1 (b:=4) (zgv (by kernel_rfl)) (by rw [hg4]; exact fun hf=>nL gL (.inl hf) rfl))).grow_ (L:=⟨20,0,0,8,9⟩) (by
   have hn' : Y'.blks.length = 9:=hr'.len
   simp only [Env.lens,hx'.ints,hx'.bools,hx'.xs,hx'.ys,hn']
   rw [<- hL1]
   simp only [Env.lens,hn1]) (by kernel_rfl) (by kernel_rfl) [] [] [] [v] (zb9 ⟨hv1,trivial⟩)
  refine ⟨_,_,[],[],[],[v],?_,hr3,fun Y4 w4 hx4 hr4=>?_⟩
  ·have hly : Y'.ys.length = 8:=by rw [hx'.ys,hx1.ys]; rfl
   simp [SV.den,Env.grow,List.getElem?_append_right,hly]
  have hsame : ∀ k,ours Y' pkS1_ho k -> ours Y1 zl8.heap k:=zi0 (by kernel_rfl) fun j hj=>hx'.blk (by rw [hn1]; exact hj)
  refine zaa 900 pkT_run hr4 ⟨fun Y5 w5 hx5 hr5=>?_,trivial⟩
  have side_e:=side_d.keep (hr5.chg.mono fun k _ hk=>hm1 k (hsame k hk)) hr5.there
  have hi5 : Y5.ints = Y.ints:=by rw [hx5.ints,hx4.ints]; show Y'.ints ++ [] = _; rw [List.append_nil,hx'.ints,hx1.ints]
  have hb5 : Y5.bools = []:=by rw [hx5.bools,hx4.bools]; show Y'.bools ++ [] = _; rw [List.append_nil,hx'.bools,hx1.bools]; rfl
  have hxs5 : Y5.xs = []:=by rw [hx5.xs,hx4.xs]; show Y'.xs ++ [] = _; rw [List.append_nil,hx'.xs,hx1.xs]; rfl
  have hy5 : Y5.ys = Y.ys ++ [v]:=by rw [hx5.ys,hx4.ys]; show Y'.ys ++ [v] = _; rw [hx'.ys,hx1.ys]
  have hn5 : Y5.blks.length = 9:=hr5.len
  have hblk5 : ∀ j,j < 9 -> Y5.blks.getD j {} = Y1.blks.getD j {}:=fun j hj=>by
   have hn4 : Y4.blks.length = 9:=hr4.len
   have hn' : Y'.blks.length = 9:=hr'.len
   rw [hx5.blk (by omega),hx4.blk (by simp [Env.grow,hn']; exact hj)]
   show (Y'.blks ++ []).getD j {} = _
   rw [List.append_nil,hx'.blk (by omega)]
  have hL5 : Y5.lens = ⟨20,0,0,9,9⟩:=by simp only [Env.lens,hi5,hb5,hxs5,hy5,hn5]; rfl
  have hz : ((p.vs ++ [v]).zip (R.ms ++ [m0]))[R.ms.length]? = some (v,m0):=by
   rw [<- hzip,List.getElem?_append_right (by rw [List.length_zip,h.side.vlen]; simp)]
   rw [List.length_zip,h.side.vlen]
   simp
  let n:=Z.next m0 0 false
  show Fr.reach _ X Stop s' (c :: cs) Y5 (pkT_fr :: pkT_0.frs.tail) w5
  refine zc7 (fr:=pkT_fr) (callers:=pkT_0.frs.tail) (ht:=rfl) pkT_at pkT_gd pkT_call pkT_fresh hr5 (Post:=fun s6 r w6=>∃ F6,r = .back (.tuple #[.agg n.2.1.cells.toArray,.bool n.2.2]) /\ Z.I s6 F6 w6 (((p.vs ++ [v]).zip (R.ms ++ [m0])).set R.ms.length (v,n.1)) /\ Chg F' w5 w6 /\ (∀ k,F6 k -> F' k \/ w5.heap.size <= k) /\ ∀ k,k < w5.heap.size -> X.oth s6 k -> X.oth s' k) ?_ (fun s6 u6 w6 hp ht6=>?_) (fun s6 ch w6 hp _=>by obtain ⟨_,e,_⟩:=hp; cases e)
  ·have:=Z.next_ok R.ms.length v m0 0 false side_e.i hz
   rwa [show (za3 Y5 zo0).toArray = #[v,.int .u64 0,.bool false] by
    show #[Y5.ys.getD 8 .nilFunc,.int .u64 0,.bool false] = _
    rw [hy5]
    rfl]
  ·obtain ⟨F6,e,hI6,hch6,hF6,ho6⟩:=hp
   cases e
   have hset : ((p.vs ++ [v]).zip (R.ms ++ [m0])).set R.ms.length (v,n.1) = (p.vs ++ [v]).zip (R.ms ++ [n.1]):=by
    rw [<- hzip,List.zip_append h.side.vlen,List.set_append_right _ _ (by rw [List.length_zip,h.side.vlen]; simp)]
    rw [List.length_zip,h.side.vlen]
    simp
   rw [hset] at hI6
   have side_f:=side_e.foreign (vs':=p.vs ++ [v]) (ms':=R.ms ++ [n.1]) hI6 hch6 ht6 hF6 ho6 (by simp [h.side.vlen]) side_e.vone (by simp) (fun _ _=>rfl)
   have hnF : ¬ F' (Y5.blks.getD 4 {}).g:=fun hf=>by
    rw [hblk5 4 (by decide),hb1 4 (by decide)] at hf
    rcases hF' _ hf with h2 | h2
    ·exact nL gL (.inl h2) rfl
    ·have e1:=hr1.chg.size
     have e2:=hr'.chg.size
     have e3 : w2.heap.size <= gL:=h2
     omega
   have hr6:=(hr5.foreign hch6 ht6 ho6 (side_d.apart2 hr5 (fun k hk=>hm1 k (hsame k hk)) (b:=4) (zgv (by kernel_rfl)) hnF)).grow_ hL5 (by kernel_rfl) (by kernel_rfl) [n.2.1.d,n.2.1.ar,n.2.1.at_,n.2.1.old,n.2.1.new] [n.2.2] [] [] (fun v hv=>by cases hv)
   refine zc8 (ai:=[n.2.1.d,n.2.1.ar,n.2.1.at_,n.2.1.old,n.2.1.new]) (ab:=[n.2.2]) (ax:=[]) (ay:=[]) (.tup [.agg [.int .i64 (.v 20),.int .i64 (.v 21),.int .i64 (.v 22),.int .u64 (.v 23),.int .u64 (.v 24)],.bool (.v 0)]) hL5 (by kernel_rfl) ?_ ?_
   ·have h2 : Y5.ints.length = 20:=congrArg zfa.ni hL5
    simp [SV.den,za3,E.den,B.den,Env.grow,List.getElem?_append_right,h2,hb5,Ac.cells]
   ·rw [pkT_put]
    refine zaa 900 pkU_run hr6 ⟨fun Y7 w7 hx7 hr7=>?_,trivial⟩
    have hsame2 : ∀ k,ours Y5 pkT_0.heap k -> ours Y1 zl8.heap k:=zi0 (by kernel_rfl) fun j hj=>hblk5 j hj
    have hm7 : ∀ k,ours Y5 pkT_0.heap k -> Ph.mine { p with vC:=vC',tmp:=[(Y1.blks.getD 5 {}).g,(Y1.blks.getD 6 {}).g,(Y1.blks.getD 7 {}).g],ths:=p.ths.set t ⟨lv',.nilIface,asks,R.calls.length⟩ } k:=fun k hk=>hm1 k (hsame2 k hk)
    have hblk7 : ∀ j,j < 9 -> Y7.blks.getD j {} = Y1.blks.getD j {}:=fun j hj=>by
     rw [hx7.blk (by simp [Env.grow,hn5]; exact hj)]
     show (Y5.blks ++ []).getD j {} = _
     rw [List.append_nil,hblk5 j hj]
    have side_g:=side_f.temps (hr7.chg.mono fun k _ hk=>hm7 k hk) hr7.there [(Y7.blks.getD 5 {}).g,(Y7.blks.getD 9 {}).g] (fun g hg'=>by
     simp only [List.mem_cons,List.not_mem_nil,or_false] at hg'
     rcases hg' with rfl | rfl
     ·refine .inl (.inr (.inr (.inr (.inr ?_))))
      rw [hblk7 5 (by decide)]
      exact List.mem_cons_self ..
     ·rcases hr7.inS 9 _ rfl rfl with h2 | h2
      ·exact .inl (hm7 _ h2)
      ·exact .inr ⟨h2,hr7.bnd 9 (by decide),hr7.own 9 _ rfl rfl⟩)
    let x7 : Th:=⟨lv',.iface 82 v,n.2.1,R.calls.length⟩
    let y7 : Rt:={ left:=y.left.drop 1,on:=some R.ms.length,asks:=n.2.1,call:=R.calls.length }
    have hrest : y.left.drop 1 = rest:=by rw [hl]; rfl
    have hgx : (p.ths.set t ⟨lv',.nilIface,asks,R.calls.length⟩)[t]? = some ⟨lv',.nilIface,asks,R.calls.length⟩:=List.getElem?_set_self htl
    have hgy : (R.ths.set t { y with left:=rest,call:=R.calls.length })[t]? = some { y with left:=rest,call:=R.calls.length }:=List.getElem?_set_self (List.getElem?_eq_some_iff.1 hy).1
    have rel_g:=side_g.rel t _ _ hgx hgy
    have side_h:=side_g.upd (t:=t) (x':=x7) (y':=y7) (calls':=R.calls ++ [rc]) (Nat.le_refl _) ⟨by
      show Value.iface 82 v = .iface 82 ((p.vs ++ [v]).getD R.ms.length .nilFunc)
      rw [List.getD_eq_getElem?_getD,List.getElem?_append_right (by rw [h.side.vlen]; exact Nat.le_refl _),h.side.vlen]
      simp,(fun k hk=>by
      obtain rfl:=Option.some.inj hk
      exact ⟨by simp,Int.natCast_nonneg _,by show R.calls.length < (R.calls ++ [rc]).length; simp⟩),rfl,rfl,by show Sl w7 _ 2 lv' (y.left.drop 1).length ((y.left.drop 1).flatMap opC); rw [hrest]; exact rel_g.left,by show lv' = _ \/ ∃ g o c,lv' = .slice (some ⟨g,o,none⟩) (y.left.drop 1).length c /\ _; rw [hrest]; exact rel_g.form,rel_g.off⟩
    have hbeg : R.begin_ Z t y o draw = { R with ths:=R.ths.set t y7,calls:=R.calls ++ [rc],ms:=R.ms ++ [n.1] }:=rfl
    have hi7 : Y7.ints = Y.ints ++ [n.2.1.d,n.2.1.ar,n.2.1.at_,n.2.1.old,n.2.1.new]:=by rw [hx7.ints]; show Y5.ints ++ _ = _; rw [hi5]
    have hy7 : Y7.ys = Y.ys ++ [v]:=by rw [hx7.ys]; show Y5.ys ++ [] = _; rw [List.append_nil,hy5]
    have hd1 : ∀ l,scs 5 l = true -> za3 Y1 l = za3 Y l:=fun l a3=>by obtain ⟨_,_,rfl⟩:=hx1; exact zai 5 (Nat.le_refl _) l a3
    have hdd : ∀ l,zdp ⟨20,0,0,8,9⟩ l = true -> zdp ⟨20,0,0,9,9⟩ l = true -> scs 9 l = true -> za3 Y7 l = za3 Y1 l:=fun l a1 a2 a3=>by
     have hn4 : Y4.blks.length = 9:=hr4.len
     have hn' : Y'.blks.length = 9:=hr'.len
     have e7 : za3 Y7 l = za3 (Y5.grow [n.2.1.d,n.2.1.ar,n.2.1.at_,n.2.1.old,n.2.1.new] [n.2.2] [] [] []) l:=by obtain ⟨_,_,rfl⟩:=hx7; exact zai 9 (by simp [Env.grow,hn5]) l a3
     have e6 : za3 (Y5.grow [n.2.1.d,n.2.1.ar,n.2.1.at_,n.2.1.old,n.2.1.new] [n.2.2] [] [] []) l = za3 Y5 l:=zb4 l (by rw [hL5]; exact a2)
     have e5 : za3 Y5 l = za3 Y4 l:=by obtain ⟨_,_,rfl⟩:=hx5; exact zai 9 (by omega) l a3
     have e4 : za3 Y4 l = za3 (Y'.grow [] [] [] [v] []) l:=by obtain ⟨_,_,rfl⟩:=hx4; exact zai 9 (by simp [Env.grow,hn']) l a3
     have e3 : za3 (Y'.grow [] [] [] [v] []) l = za3 Y' l:=zb4 l (by
      have : Y'.lens = ⟨20,0,0,8,9⟩:=by
       simp only [Env.lens,hx'.ints,hx'.bools,hx'.xs,hx'.ys,hn']
       rw [<- hL1]
       simp only [Env.lens,hn1]
      rw [this]; exact a1)
     have e2 : za3 Y' l = za3 Y1 l:=by obtain ⟨_,_,rfl⟩:=hx'; exact zai 9 (by omega) l a3
     rw [e7,e6,e5,e4,e3,e2]
    have core7 : Core Z w7 (R.begin_ Z t y o draw) { p with vC:=vC',tmp:=[(Y7.blks.getD 5 {}).g,(Y7.blks.getD 9 {}).g],ths:=p.ths.set t x7,vs:=p.vs ++ [v] }:=by
     refine ⟨?_,?_,?_,?_⟩
     ·have h3:=(hr7.rep.blk 0 _ rfl rfl).2
      rw [hblk7 0 (by decide),hb1 0 (by decide)] at h3
      have h4 : Blk w7 p.gR 105 ((⟨p.gR,0,0,[],[],0,none⟩ : Seg).whole (za3 Y7 [.y 0,.sl (.blk 1) (.v 1) (.e (.v 2)),.sl (.blk 3) (.v 3) (.of 3 8)] ++ za3 Y7 [.sl (.blk 8) (.ad (.tn (.v 4)) (.lit 1)) (.of 8 7)] ++ za3 Y7 [.int .u64 (.v 5),.int .u64 (.v 6),.y 1,.y 2,.int .u64 (.v 7),.int .u64 (.v 8),.y 3,.y 4,.y 5])).toArray:=h3
      rw [hdd _ (by kernel_rfl) (by kernel_rfl) (by kernel_rfl),hdd _ (by kernel_rfl) (by kernel_rfl) (by kernel_rfl),hdd _ (by kernel_rfl) (by kernel_rfl) (by kernel_rfl),hd1 _ (by kernel_rfl),hd1 [.int .u64 (.v 5),.int .u64 (.v 6),.y 1,.y 2,.int .u64 (.v 7),.int .u64 (.v 8),.y 3,.y 4,.y 5] (by kernel_rfl)] at h4
      rw [hcE]
      show Blk w7 p.gR _ (#[fbV Z,.slice (some ⟨p.gT,0,none⟩) (R.ths.set t y7).length p.tcap,p.vS,vC'] ++ _)
      rw [List.length_set,eS]
      exact h4
     ·have h3:=(hr7.rep.blk 1 _ rfl rfl).2
      have hd : za3 Y7 ((pkU_0.heap.tail.headD default).cs) = x7.cells:=by
       show [(SV.sl (.sh (.blk 4) (.lit 1) (.v 10) 2) (.su (.tn (.v 9)) (.lit 1)) (.e (.su (.tn (.v 10)) (.lit 1)))).den Y7,.iface 82 (Y7.ys.getD 8 .nilFunc),.int .i64 (Y7.ints.getD 20 0),.int .i64 (Y7.ints.getD 21 0),.int .i64 (Y7.ints.getD 22 0),.int .u64 (Y7.ints.getD 23 0),.int .u64 (Y7.ints.getD 24 0),.int .i64 (((Y7.ints.getD 4 0).toNat : Nat) : Int)] = _
       rw [sh_den (gL:=gL) (oL:=oL) (n:=rest.length) (cL:=cL) (by rw [hblk7 4 (by decide),hb1 4 (by decide)]; rfl) (by rw [hblk7 4 (by decide),hb1 4 (by decide)]; rfl) (by rw [hblk7 4 (by decide),hb1 4 (by decide)]; rfl) (by rw [hi7]; rfl) (by rw [hi7]; rfl) hcL,hi7,hy7]
       rfl
      rw [hblk7 1 (by decide),hb1 1 (by decide)] at h3
      have h4 : Blk w7 p.gT 107 ((⟨p.gT,0,t * 8,(p.ths.take t).flatMap Th.cells,(p.ths.drop (t + 1)).flatMap Th.cells,0,none⟩ : Seg).whole (za3 Y7 ((pkU_0.heap.tail.headD default).cs))).toArray:=h3
      rw [hd,show (⟨p.gT,0,t * 8,(p.ths.take t).flatMap Th.cells,(p.ths.drop (t + 1)).flatMap Th.cells,0,none⟩ : Seg).whole x7.cells = (Ths (p.ths.set t x7)).toList from zly htl] at h4
      exact h4
     ·have h3:=(hr7.rep.blk 3 _ rfl rfl).2
      rw [hblk7 3 (by decide),hb1 3 (by decide)] at h3
      exact zdc hc.s eS bS h3
     ·have kN7:=(hr7.rep.blk 8 _ rfl rfl).2
      have rN7:=hr7.rep.row 8 _ _ _ _ rfl rfl
      have hpre8 : (Y7.blks.getD 8 {}).pre = (R.calls ++ [rc]).flatMap Rc.cells:=by
       rw [hr7.aps 8 _ _ _ rfl rfl]
       have e1 : zd9 Y7 (some 2) = R.calls.flatMap Rc.cells:=by
        show (Y7.blks.getD 2 {}).pre = _
        rw [hblk7 2 (by decide),hb1 2 (by decide)]
        rfl
       rw [e1,List.flatMap_append,hdd _ (by kernel_rfl) (by kernel_rfl) (by kernel_rfl),hd1 _ (by kernel_rfl)]
       rfl
      have hLn : ((E.ad (.tn (.v 4)) (.lit 1)).den Y7).toNat = R.calls.length + 1:=by
       show ((((Y7.ints.getD 4 0).toNat : Int)) + 1).toNat = _
       rw [hi7]
       show ((((R.calls.length : Int).toNat : Int)) + 1).toNat = _
       omega
      have hLn1 : ((E.ad (.tn (.v 4)) (.lit 1)).den Y1).toNat = R.calls.length + 1:=by
       show ((((Y1.ints.getD 4 0).toNat : Int)) + 1).toNat = _
       rw [hx1.ints]
       show ((((R.calls.length : Int).toNat : Int)) + 1).toNat = _
       omega
      have h5:=zbc (w:=w7) (t:=65) (size:=7) (q:=Y7.blks.getD 8 {}) kN7 rN7.2.1 rN7.2.2.2.1 rN7.2.2.2.2.1 rN7.2.2.2.2.2.1
      rw [hpre8,hLn,hblk7 8 (by decide)] at h5
      show w7.ownsRow 0 _ 7 vC' (R.calls ++ [rc]).length _
      rw [eN,List.length_append,hLn1]
      exact h5
    have side7 : zhm Z s₀ w₀ s6 F6 w7 (R.begin_ Z t y o draw) { p with vC:=vC',tmp:=[(Y7.blks.getD 5 {}).g,(Y7.blks.getD 9 {}).g],ths:=p.ths.set t x7,vs:=p.vs ++ [v] }:=by
     rw [hbeg]
     have:=side_h
     simp only [List.set_set] at this
     exact this
    have hy8 : (R.begin_ Z t y o draw).ths[t]? = some y7:=List.getElem?_set_self (List.getElem?_eq_some_iff.1 hy).1
    have hm8 : (R.begin_ Z t y o draw).ms[R.ms.length]? = some n.1:=by
     rw [hbeg]
     show (R.ms ++ [n.1])[R.ms.length]? = _
     simp
    refine zkh pkU_sub_fits hr7 fun hr8=>at5pk (t:=t) (i:=R.ms.length) (y:=y7) (m:=n.1) hr8 (by rw [Sub.env_lens]; kernel_rfl) core7 side7 hy8 rfl hm8 (by show (Y7.blks.getD 0 {}).g = _; rw [hblk7 0 (by decide),hb1 0 (by decide)]; rfl) (by show Y7.ints.getD 0 0 = _; rw [hi7]; rfl) (fun b hb=>?_) hsm ?_
    ·simp only [List.mem_cons,List.not_mem_nil,or_false] at hb
     rcases hb with rfl | rfl
     ·exact List.mem_cons_self ..
     ·exact List.mem_cons_of_mem _ (List.mem_cons_self ..)
    ·intro s9 F9 p9 w9 hg9 hr9 ht9
     refine hback s9 _ w9 ⟨F9,p9,hg9,rfl,?_⟩ ht9
     have hR : R.pick Z t draw = (R.begin_ Z t y o draw).go Z t R.ms.length y7 n.1:=by
      unfold Rr.pick
      rw [if_neg (by omega),show (t : Int).toNat = t from rfl,hy]
      simp only [hon,hl,hy8,hm8]
     rw [hR]
     exact hr9
end
end
section
section
variable {γ : Type} {X : zad γ} {s : γ} {w : World} {M : Type} {Z : Fam X M}
theorem pick_startn {s₀ : γ} {w₀ : World} {F : Nat -> Prop} {R : Rr M} {p : Ph} (h : ze3 Z s₀ w₀ s F w R p) (t : Nat) (draw : Int) {y : Rt} {o : Int × Int} {rest : List (Int × Int)} (hy : R.ths[t]? = some y) (hon : y.on = none) (hl : y.left = o :: rest) (hpre : Z.pre R.ms t) (hsm : R.steps.length < 1000000) (hcm : R.calls.length < 1000000)
  (eS : p.vS = .slice none 0 0) (eC : p.vC = .slice none 0 0) (hst : R.steps = []) (hcl : R.calls = []) :
  Jdo Try.prog X 41 #[.pointer (some ⟨p.gR,0,none⟩),.agg #[.int .i64 t,.int .u32 draw]] s w (zjc Z s₀ w₀ R p.gR t draw):=by
 have hc:=h.core
 obtain ⟨v2,v3,v6,v7,v8,hcE,u2,u3,u6,u7,u8⟩:=h.side.mem
 have h1 : ∀ {v xs},Us w w.heap.size v xs -> v.oneCell' = true:=fun hu=>by obtain ⟨A,c,rfl,_⟩:=Sl.form hu; rfl
 have hcR:=hc.r
 rw [hcE] at hcR
 have htl : t < p.ths.length:=by rw [h.side.tlen]; exact (List.getElem?_eq_some_iff.1 hy).1
 have hx:=List.getElem?_eq_getElem htl
 generalize p.ths[t] = x at hx
 have hrel:=h.side.rel t x y hx hy
 have dR:=h.side.dis p.gR (.inl rfl)
 have dT:=h.side.dis p.gT (.inr (.inl rfl))
 obtain ⟨n1, -, -⟩:=h.side.ne
 obtain ⟨lv,on,asks,call⟩:=x
 obtain rfl : on = .nilIface:=by rw [show on = _ from hrel.on,hon]; rfl
 have hleft:=hrel.left
 have hloff:=hrel.off
 rw [hl] at hleft
 obtain ⟨gL,oL,cL,eL,hgL,hlc,hlm,hat⟩:=Sl.row hleft (by simp)
 have eL : lv = .slice (some ⟨gL,oL,none⟩) (rest.length + 1) cL:=eL
 subst eL
 have nL : ∀ g,F g \/ p.mine g -> gL ≠ g:=fun g hg=>hloff g hg gL oL _ _ rfl (by omega)
 let Y : Env:=envP Z t draw R.ths.length p.tcap R.steps.length R.calls.length R.mem.e R.mem.f R.mem.h R.mem.t v2 v3 v6 v7 v8 ⟨.nilFunc,.nilFunc,asks,call⟩ (rest.length + 1) cL o [.nilFunc,.nilFunc] [⟨p.gR,0,0,[],[],0,none⟩,⟨p.gT,0,t * 8,(p.ths.take t).flatMap Th.cells,(p.ths.drop (t + 1)).flatMap Th.cells,0,none⟩,⟨gL,oL,oL,[],[],0,none⟩]
 refine zbt (Y:=Y) zgt rfl fun Stop c cs hth hback _=>?_
 have hkR : Blk w p.gR 105 ((⟨p.gR,0,0,[],[],0,none⟩ : Seg).whole (za3 Y (zl5.heap.headD default).cs)).toArray:=by
  rw [eS,eC] at hcR
  exact hcR
 have hkT : Blk w p.gT 107 ((⟨p.gT,0,t * 8,(p.ths.take t).flatMap Th.cells,(p.ths.drop (t + 1)).flatMap Th.cells,0,none⟩ : Seg).whole (za3 Y (zl5.heap.tail.headD default).cs)).toArray:=by
  have h2:=zf7 hx
  have h3:=hc.t
  rw [show Ths p.ths = (Ths p.ths).toList.toArray from rfl,h2] at h3
  exact h3
 have f1 : (0 : Int) <= t:=Int.natCast_nonneg _
 have f2 : (t : Int) < ((R.ths.length : Int).toNat : Int):=by have:=h.side.tlen; omega
 have f3 : (((rest.length + 1 : Nat) : Int).toNat : Int) = rest.length + 1:=by omega
 have hr : Rep X s (ours Y zl5.heap) w Y zl5.heap zl5.facts 0 w:=by
  refine Rep.start hth (zb9 (l:=Y.ys) ⟨rfl,h1 u2,h1 u3,h1 u6,h1 u7,h1 u8,rfl,rfl,trivial⟩) rfl ⟨⟨dR.2.2.1,zcc rfl ⟨dR.2.1,rfl,hkR⟩,⟨rfl,rfl⟩,trivial,rfl⟩,⟨dT.2.2.1,zcc rfl ⟨dT.2.1,(zlz (Nat.le_of_lt htl)).symm,hkT⟩,⟨(Nat.zero_add _).symm,rfl⟩,trivial,rfl⟩,⟨hgL,zb8 rfl (fun j u hu=>hat j u ?_),⟨rfl,rfl⟩,trivial,rfl⟩,trivial⟩ ?_
   (za5 ⟨decide_eq_true f1,decide_eq_true f2,decide_eq_false (Int.not_lt.2 f1),decide_eq_false (Int.not_le.2 f2),(show ((((rest.length + 1 : Nat) : Int).toNat : Int) == 0) = false from beq_eq_false_iff_ne.2 (by omega)),decide_eq_true (by show (0 : Int) < (((rest.length + 1 : Nat) : Int).toNat : Int); omega),decide_eq_true (by show (1 : Int) <= (((rest.length + 1 : Nat) : Int).toNat : Int); omega),trivial⟩) rfl
  ·have hj : j < 2:=(List.getElem?_eq_some_iff.1 hu).1
   rw [List.flatMap_cons,List.getElem?_append_left (by rw [zim]; exact hj)]
   exact hu
  ·exact ⟨⟨(fun _=>n1),(fun _=>(nL _ (.inr (.inl rfl))).symm),trivial⟩,⟨(fun _=>(nL _ (.inr (.inr (.inl rfl)))).symm),trivial⟩,trivial,trivial⟩
 refine zaa 900 pnS_run hr ⟨fun Y1 w1 hx1 hr1=>?_,trivial⟩
 have hm0 : ∀ k,ours Y zl5.heap k -> p.mine k:=zbz ⟨fun _=>.inl rfl,fun _=>.inr (.inl rfl),(fun e=>nomatch e),trivial⟩
 have hin1 : ∀ j hb,zl6.heap[j]? = some hb -> hb.wr = true -> p.mine (Y1.blks.getD j {}).g \/ w.heap.size <= (Y1.blks.getD j {}).g /\ (Y1.blks.getD j {}).g < w1.heap.size /\ ¬ X.oth s (Y1.blks.getD j {}).g:=fun j hb e hw=>by
  rcases hr1.inS j hb e hw with h2 | h2
  ·exact .inl (hm0 _ h2)
  ·exact .inr ⟨h2,hr1.bnd j (List.getElem?_eq_some_iff.1 e).1,hr1.own j hb e hw⟩
 have hb1 : ∀ j,j < 3 -> Y1.blks.getD j {} = Y.blks.getD j {}:=fun j hj=>hx1.blk hj
 let vC' : Value:=(SV.sl (.blk 6) (E.lit 1) (.of 6 7)).den Y1
 have rN:=hr1.rep.row 6 _ _ _ _ rfl rfl
 have kN:=(hr1.rep.blk 6 _ rfl rfl).2
 have eN : vC' = .slice (some ⟨(Y1.blks.getD 6 {}).g,(Y1.blks.getD 6 {}).b0,none⟩) ((E.lit 1).den Y1).toNat (Y1.blks.getD 6 {}).cap:=zas rfl rN.2.2.2.2.2.2
 rw [rN.1] at eN
 have m0:=hr1.nd 0 6 _ _ rfl rfl rfl rfl (by decide)
 have m1:=hr1.nd 1 6 _ _ rfl rfl rfl rfl (by decide)
 rw [hb1 0 (by decide)] at m0
 rw [hb1 1 (by decide)] at m1
 let rc : Rc:=⟨t,o.1,o.2,R.steps.length, -1,0,0⟩
 have side_a:=h.side.called (hr1.chg.mono fun k _ hk=>hm0 k hk) hr1.there (vC':=vC') (g':=(Y1.blks.getD 6 {}).g) [(Y1.blks.getD 3 {}).g,(Y1.blks.getD 4 {}).g,(Y1.blks.getD 5 {}).g] (R.calls ++ [rc]) (by simp) (by rw [eN]; rfl) (fun g hg'=>by
  simp only [List.mem_cons,List.not_mem_nil,or_false] at hg'
  rcases hg' with rfl | rfl | rfl | rfl
  ·exact hin1 6 _ rfl rfl
  ·exact hin1 3 _ rfl rfl
  ·exact hin1 4 _ rfl rfl
  ·exact hin1 5 _ rfl rfl) (Ne.symm m0) (Ne.symm m1) (fun e=>by rw [eS] at e; cases e)
 have rel_a:=side_a.rel t _ y hx hy
 have hcL : 1 <= cL:=by simp only [List.length_cons] at hlc; omega
 let lv' : Value:=.slice (some ⟨gL,if cL = 1 then oL else oL + 2,none⟩) rest.length (cL - 1)
 have side_b:=side_a.upd (t:=t) (x':=⟨lv',.nilIface,asks,R.calls.length⟩) (y':={ y with left:=rest,call:=R.calls.length }) (calls':=R.calls ++ [rc]) (Nat.le_refl _) ⟨by rw [hon]; rfl,(fun k hk=>by rw [hon] at hk; cases hk),rel_a.asks,rfl,by
   have h2:=rel_a.left
   rw [hl] at h2
   exact left_next h2,.inr ⟨gL,_,_,rfl,Nat.lt_of_lt_of_le hgL hr1.chg.size⟩,fun g hg b o' n c e hn=>by
   cases e
   exact rel_a.off g hg gL oL _ _ rfl (by omega)⟩
 obtain ⟨func,code,hff,hnm,hbd⟩:=Z.fbok
 have hr1b:=hr1.rebase
 have hm1 : ∀ k,ours Y1 zl6.heap k -> Ph.mine { p with vC:=vC',tmp:=[(Y1.blks.getD 3 {}).g,(Y1.blks.getD 4 {}).g,(Y1.blks.getD 5 {}).g],ths:=p.ths.set t ⟨lv',.nilIface,asks,R.calls.length⟩ } k:=zbz ⟨fun _=>.inl (by rw [hb1 0 (by decide)]; rfl),fun _=>.inr (.inl (by rw [hb1 1 (by decide)]; rfl)),(fun e=>nomatch e),fun _=>.inr (.inr (.inr (.inr (List.mem_cons_self ..)))),fun _=>.inr (.inr (.inr (.inr (List.mem_cons_of_mem _ (List.mem_cons_self ..))))),fun _=>.inr (.inr (.inr (.inr (List.mem_cons_of_mem _ (List.mem_cons_of_mem _ (List.mem_cons_self ..)))))),fun _=>.inr (.inr (.inr (.inl (by show vC'.ownBlock = _; rw [eN]; rfl)))),trivial⟩
 have hn1 : Y1.blks.length = 7:=hr1.len
 have hL1 : Y1.lens = ⟨20,0,0,8,7⟩:=by simp only [Env.lens,hx1.ints,hx1.bools,hx1.xs,hx1.ys,hn1]; rfl
 have hsnd : (p.vs.zip R.ms).map (·.2) = R.ms:=List.map_snd_zip (Nat.le_of_eq h.side.vlen.symm)
 let m0:=Z.ini R.ms t o.1 o.2 draw
 refine zmf pnS_kd pnS_ord rfl pnS_code rfl pnS_ok hr1b ?_
 refine zbm (k:=(zl6.frs.headD default).todo.tail) 900 (fun Y'=>(za3 Y' zk0 ++ Z.capt).toArray) (.iface 82 (.y 8)) pnS1_grp pnS2_grp (zcg [8] [] _) pnS_at pnS_kdi pnS_gd pnS_set (fun Y' w hx=>run_vcall pnS_call (by show Y'.ys.getD 0 .nilFunc = _; rw [hx.ys,hx1.ys]; rfl) hff hbd hnm w) hr1b (L:=⟨20,0,0,8,7⟩) (by rw [hL1]; rfl) (by kernel_rfl) (by kernel_rfl) (Post:=fun _ w2 s' r w'=>∃ v F',r = .back (.iface 82 v) /\ v.oneCell' = true /\ Z.I s' F' w' (p.vs.zip R.ms ++ [(v,m0)]) /\ Chg F w2 w' /\ (∀ k,F' k -> F k \/ w2.heap.size <= k) /\ ∀ k,k < w2.heap.size -> X.oth s' k -> X.oth s k) ?_ ?_ (fun Y' w1 s' ch w' hp=>by obtain ⟨_,_,e,_⟩:=hp; cases e)
 ·intro Y' w2 hx' hr'
  have side_c:=side_b.keep (hr'.chg.mono fun k _ hk=>hm1 k hk) hr'.there
  have:=Z.begin_ok t o.1 o.2 draw side_c.i (by rw [hsnd]; exact hpre)
  rw [hsnd] at this
  rwa [show (za3 Y' zk0 ++ Z.capt).toArray = #[.int .i64 t,.agg #[.int .i64 o.1,.int .u32 o.2],.int .u32 draw] ++ Z.capt.toArray by
   have e1 : za3 Y' zk0 = [.int .i64 t,.agg #[.int .i64 o.1,.int .u32 o.2],.int .u32 draw]:=by
    show [Value.int .i64 (Y'.ints.getD 0 0),.agg #[.int .i64 (Y'.ints.getD 17 0),.int .u32 (Y'.ints.getD 18 0)],.int .u32 (Y'.ints.getD 19 0)] = _
    rw [hx'.ints,hx1.ints]
    rfl
   rw [e1]
   apply Array.ext'
   simp]
 ·intro Y' w2 hx' hr' s' v0 w3 hp ht3
  obtain ⟨v,F',e,hv1,hI,hch,hF',ho⟩:=hp
  cases e
  have side_c:=side_b.keep (hr'.chg.mono fun k _ hk=>hm1 k hk) hr'.there
  have hzip : p.vs.zip R.ms ++ [(v,m0)] = (p.vs ++ [v]).zip (R.ms ++ [m0]):=by
   rw [List.zip_append h.side.vlen]
   rfl
  rw [hzip] at hI
  have side_d:=side_c.foreign (vs':=p.vs ++ [v]) (ms':=R.ms ++ [m0]) hI hch ht3 hF' ho (by simp [h.side.vlen]) (fun u hu=>by
   rcases List.mem_append.1 hu with h2 | h2
   ·exact h.side.vone u h2
   ·rw [List.mem_singleton.1 h2]; exact hv1) (by simp) (fun i hi=>by
   have hi' : i < p.vs.length:=hi
   simp only [List.getD_eq_getElem?_getD]
   rw [List.getElem?_append_left hi'])
  have hg4 : (Y'.blks.getD 2 {}).g = gL:=by rw [hx'.blk (by omega),hb1 2 (by decide)]; rfl
  have hr3:=(hr'.foreign hch ht3 ho (side_b.apart2 hr' hm1 (b:=2) (zgv (by kernel_rfl)) (by rw [hg4]; exact fun hf=>nL gL (.inl hf) rfl))).grow_ (L:=⟨20,0,0,8,7⟩) (by
   have hn' : Y'.blks.length = 7:=hr'.len
   simp only [Env.lens,hx'.ints,hx'.bools,hx'.xs,hx'.ys,hn']
   rw [<- hL1]
   simp only [Env.lens,hn1]) (by kernel_rfl) (by kernel_rfl) [] [] [] [v] (zb9 ⟨hv1,trivial⟩)
  refine ⟨_,_,[],[],[],[v],?_,hr3,fun Y4 w4 hx4 hr4=>?_⟩
  ·have hly : Y'.ys.length = 8:=by rw [hx'.ys,hx1.ys]; rfl
   simp [SV.den,Env.grow,List.getElem?_append_right,hly]
  have hsame : ∀ k,ours Y' pnS1_ho k -> ours Y1 zl6.heap k:=zi0 (by kernel_rfl) fun j hj=>hx'.blk (by rw [hn1]; exact hj)
  refine zaa 900 pnT_run hr4 ⟨fun Y5 w5 hx5 hr5=>?_,trivial⟩
  have side_e:=side_d.keep (hr5.chg.mono fun k _ hk=>hm1 k (hsame k hk)) hr5.there
  have hi5 : Y5.ints = Y.ints:=by rw [hx5.ints,hx4.ints]; show Y'.ints ++ [] = _; rw [List.append_nil,hx'.ints,hx1.ints]
  have hb5 : Y5.bools = []:=by rw [hx5.bools,hx4.bools]; show Y'.bools ++ [] = _; rw [List.append_nil,hx'.bools,hx1.bools]; rfl
  have hxs5 : Y5.xs = []:=by rw [hx5.xs,hx4.xs]; show Y'.xs ++ [] = _; rw [List.append_nil,hx'.xs,hx1.xs]; rfl
  have hy5 : Y5.ys = Y.ys ++ [v]:=by rw [hx5.ys,hx4.ys]; show Y'.ys ++ [v] = _; rw [hx'.ys,hx1.ys]
  have hn5 : Y5.blks.length = 7:=hr5.len
  have hblk5 : ∀ j,j < 7 -> Y5.blks.getD j {} = Y1.blks.getD j {}:=fun j hj=>by
   have hn4 : Y4.blks.length = 7:=hr4.len
   have hn' : Y'.blks.length = 7:=hr'.len
   rw [hx5.blk (by omega),hx4.blk (by simp [Env.grow,hn']; exact hj)]
   show (Y'.blks ++ []).getD j {} = _
   rw [List.append_nil,hx'.blk (by omega)]
  have hL5 : Y5.lens = ⟨20,0,0,9,7⟩:=by simp only [Env.lens,hi5,hb5,hxs5,hy5,hn5]; rfl
  have hz : ((p.vs ++ [v]).zip (R.ms ++ [m0]))[R.ms.length]? = some (v,m0):=by
   rw [<- hzip,List.getElem?_append_right (by rw [List.length_zip,h.side.vlen]; simp)]
   rw [List.length_zip,h.side.vlen]
   simp
  let n:=Z.next m0 0 false
  show Fr.reach _ X Stop s' (c :: cs) Y5 (pnT_fr :: pnT_0.frs.tail) w5
  refine zc7 (fr:=pnT_fr) (callers:=pnT_0.frs.tail) (ht:=rfl) pnT_at pnT_gd pnT_call pnT_fresh hr5 (Post:=fun s6 r w6=>∃ F6,r = .back (.tuple #[.agg n.2.1.cells.toArray,.bool n.2.2]) /\ Z.I s6 F6 w6 (((p.vs ++ [v]).zip (R.ms ++ [m0])).set R.ms.length (v,n.1)) /\ Chg F' w5 w6 /\ (∀ k,F6 k -> F' k \/ w5.heap.size <= k) /\ ∀ k,k < w5.heap.size -> X.oth s6 k -> X.oth s' k) ?_ (fun s6 u6 w6 hp ht6=>?_) (fun s6 ch w6 hp _=>by obtain ⟨_,e,_⟩:=hp; cases e)
  ·have:=Z.next_ok R.ms.length v m0 0 false side_e.i hz
   rwa [show (za3 Y5 znw).toArray = #[v,.int .u64 0,.bool false] by
    show #[Y5.ys.getD 8 .nilFunc,.int .u64 0,.bool false] = _
    rw [hy5]
    rfl]
  ·obtain ⟨F6,e,hI6,hch6,hF6,ho6⟩:=hp
   cases e
   have hset : ((p.vs ++ [v]).zip (R.ms ++ [m0])).set R.ms.length (v,n.1) = (p.vs ++ [v]).zip (R.ms ++ [n.1]):=by
    rw [<- hzip,List.zip_append h.side.vlen,List.set_append_right _ _ (by rw [List.length_zip,h.side.vlen]; simp)]
    rw [List.length_zip,h.side.vlen]
    simp
   rw [hset] at hI6
   have side_f:=side_e.foreign (vs':=p.vs ++ [v]) (ms':=R.ms ++ [n.1]) hI6 hch6 ht6 hF6 ho6 (by simp [h.side.vlen]) side_e.vone (by simp) (fun _ _=>rfl)
   have hnF : ¬ F' (Y5.blks.getD 2 {}).g:=fun hf=>by
    rw [hblk5 2 (by decide),hb1 2 (by decide)] at hf
    rcases hF' _ hf with h2 | h2
    ·exact nL gL (.inl h2) rfl
    ·have e1:=hr1.chg.size
     have e2:=hr'.chg.size
     have e3 : w2.heap.size <= gL:=h2
     omega
   have hr6:=(hr5.foreign hch6 ht6 ho6 (side_d.apart2 hr5 (fun k hk=>hm1 k (hsame k hk)) (b:=2) (zgv (by kernel_rfl)) hnF)).grow_ hL5 (by kernel_rfl) (by kernel_rfl) [n.2.1.d,n.2.1.ar,n.2.1.at_,n.2.1.old,n.2.1.new] [n.2.2] [] [] (fun v hv=>by cases hv)
   refine zc8 (ai:=[n.2.1.d,n.2.1.ar,n.2.1.at_,n.2.1.old,n.2.1.new]) (ab:=[n.2.2]) (ax:=[]) (ay:=[]) (.tup [.agg [.int .i64 (.v 20),.int .i64 (.v 21),.int .i64 (.v 22),.int .u64 (.v 23),.int .u64 (.v 24)],.bool (.v 0)]) hL5 (by kernel_rfl) ?_ ?_
   ·have h2 : Y5.ints.length = 20:=congrArg zfa.ni hL5
    simp [SV.den,za3,E.den,B.den,Env.grow,List.getElem?_append_right,h2,hb5,Ac.cells]
   ·rw [pnT_put]
    refine zaa 900 pnU_run hr6 ⟨fun Y7 w7 hx7 hr7=>?_,trivial⟩
    have hsame2 : ∀ k,ours Y5 pnT_0.heap k -> ours Y1 zl6.heap k:=zi0 (by kernel_rfl) fun j hj=>hblk5 j hj
    have hm7 : ∀ k,ours Y5 pnT_0.heap k -> Ph.mine { p with vC:=vC',tmp:=[(Y1.blks.getD 3 {}).g,(Y1.blks.getD 4 {}).g,(Y1.blks.getD 5 {}).g],ths:=p.ths.set t ⟨lv',.nilIface,asks,R.calls.length⟩ } k:=fun k hk=>hm1 k (hsame2 k hk)
    have hblk7 : ∀ j,j < 7 -> Y7.blks.getD j {} = Y1.blks.getD j {}:=fun j hj=>by
     rw [hx7.blk (by simp [Env.grow,hn5]; exact hj)]
     show (Y5.blks ++ []).getD j {} = _
     rw [List.append_nil,hblk5 j hj]
    have side_g:=side_f.temps (hr7.chg.mono fun k _ hk=>hm7 k hk) hr7.there [(Y7.blks.getD 3 {}).g,(Y7.blks.getD 7 {}).g] (fun g hg'=>by
     simp only [List.mem_cons,List.not_mem_nil,or_false] at hg'
     rcases hg' with rfl | rfl
     ·refine .inl (.inr (.inr (.inr (.inr ?_))))
      rw [hblk7 3 (by decide)]
      exact List.mem_cons_self ..
     ·rcases hr7.inS 7 _ rfl rfl with h2 | h2
      ·exact .inl (hm7 _ h2)
      ·exact .inr ⟨h2,hr7.bnd 7 (by decide),hr7.own 7 _ rfl rfl⟩)
    let x7 : Th:=⟨lv',.iface 82 v,n.2.1,0⟩
    let y7 : Rt:={ left:=y.left.drop 1,on:=some R.ms.length,asks:=n.2.1,call:=R.calls.length }
    have hrest : y.left.drop 1 = rest:=by rw [hl]; rfl
    have hgx : (p.ths.set t ⟨lv',.nilIface,asks,R.calls.length⟩)[t]? = some ⟨lv',.nilIface,asks,R.calls.length⟩:=List.getElem?_set_self htl
    have hgy : (R.ths.set t { y with left:=rest,call:=R.calls.length })[t]? = some { y with left:=rest,call:=R.calls.length }:=List.getElem?_set_self (List.getElem?_eq_some_iff.1 hy).1
    have rel_g:=side_g.rel t _ _ hgx hgy
    have side_h:=side_g.upd (t:=t) (x':=x7) (y':=y7) (calls':=R.calls ++ [rc]) (Nat.le_refl _) ⟨by
      show Value.iface 82 v = .iface 82 ((p.vs ++ [v]).getD R.ms.length .nilFunc)
      rw [List.getD_eq_getElem?_getD,List.getElem?_append_right (by rw [h.side.vlen]; exact Nat.le_refl _),h.side.vlen]
      simp,(fun k hk=>by
      obtain rfl:=Option.some.inj hk
      exact ⟨by simp,Int.natCast_nonneg _,by show R.calls.length < (R.calls ++ [rc]).length; simp⟩),rfl,(by show (0 : Int) = (R.calls.length : Int); rw [hcl]; rfl),by show Sl w7 _ 2 lv' (y.left.drop 1).length ((y.left.drop 1).flatMap opC); rw [hrest]; exact rel_g.left,by show lv' = _ \/ ∃ g o c,lv' = .slice (some ⟨g,o,none⟩) (y.left.drop 1).length c /\ _; rw [hrest]; exact rel_g.form,rel_g.off⟩
    have hbeg : R.begin_ Z t y o draw = { R with ths:=R.ths.set t y7,calls:=R.calls ++ [rc],ms:=R.ms ++ [n.1] }:=rfl
    have hi7 : Y7.ints = Y.ints ++ [n.2.1.d,n.2.1.ar,n.2.1.at_,n.2.1.old,n.2.1.new]:=by rw [hx7.ints]; show Y5.ints ++ _ = _; rw [hi5]
    have hy7 : Y7.ys = Y.ys ++ [v]:=by rw [hx7.ys]; show Y5.ys ++ [] = _; rw [List.append_nil,hy5]
    have hd1 : ∀ l,scs 3 l = true -> za3 Y1 l = za3 Y l:=fun l a3=>by obtain ⟨_,_,rfl⟩:=hx1; exact zai 3 (Nat.le_refl _) l a3
    have hdd : ∀ l,zdp ⟨20,0,0,8,7⟩ l = true -> zdp ⟨20,0,0,9,7⟩ l = true -> scs 7 l = true -> za3 Y7 l = za3 Y1 l:=fun l a1 a2 a3=>by
     have hn4 : Y4.blks.length = 7:=hr4.len
     have hn' : Y'.blks.length = 7:=hr'.len
     have e7 : za3 Y7 l = za3 (Y5.grow [n.2.1.d,n.2.1.ar,n.2.1.at_,n.2.1.old,n.2.1.new] [n.2.2] [] [] []) l:=by obtain ⟨_,_,rfl⟩:=hx7; exact zai 7 (by simp [Env.grow,hn5]) l a3
     have e6 : za3 (Y5.grow [n.2.1.d,n.2.1.ar,n.2.1.at_,n.2.1.old,n.2.1.new] [n.2.2] [] [] []) l = za3 Y5 l:=zb4 l (by rw [hL5]; exact a2)
     have e5 : za3 Y5 l = za3 Y4 l:=by obtain ⟨_,_,rfl⟩:=hx5; exact zai 7 (by omega) l a3
     have e4 : za3 Y4 l = za3 (Y'.grow [] [] [] [v] []) l:=by obtain ⟨_,_,rfl⟩:=hx4; exact zai 7 (by simp [Env.grow,hn']) l a3
     have e3 : za3 (Y'.grow [] [] [] [v] []) l = za3 Y' l:=zb4 l (by
      have : Y'.lens = ⟨20,0,0,8,7⟩:=by
       simp only [Env.lens,hx'.ints,hx'.bools,hx'.xs,hx'.ys,hn']
       rw [<- hL1]
       simp only [Env.lens,hn1]
      rw [this]; exact a1)
     have e2 : za3 Y' l = za3 Y1 l:=by obtain ⟨_,_,rfl⟩:=hx'; exact zai 7 (by omega) l a3
     rw [e7,e6,e5,e4,e3,e2]
    have core7 : Core Z w7 (R.begin_ Z t y o draw) { p with vC:=vC',tmp:=[(Y7.blks.getD 3 {}).g,(Y7.blks.getD 7 {}).g],ths:=p.ths.set t x7,vs:=p.vs ++ [v] }:=by
     refine ⟨?_,?_,?_,?_⟩
     ·have h3:=(hr7.rep.blk 0 _ rfl rfl).2
      rw [hblk7 0 (by decide),hb1 0 (by decide)] at h3
      have h4 : Blk w7 p.gR 105 ((⟨p.gR,0,0,[],[],0,none⟩ : Seg).whole (za3 Y7 [.y 0,.sl (.blk 1) (.v 1) (.e (.v 2)),.c (.slice none 0 0)] ++ za3 Y7 [.sl (.blk 6) (.lit 1) (.of 6 7)] ++ za3 Y7 [.int .u64 (.v 5),.int .u64 (.v 6),.y 1,.y 2,.int .u64 (.v 7),.int .u64 (.v 8),.y 3,.y 4,.y 5])).toArray:=h3
      rw [hdd _ (by kernel_rfl) (by kernel_rfl) (by kernel_rfl),hdd _ (by kernel_rfl) (by kernel_rfl) (by kernel_rfl),hdd _ (by kernel_rfl) (by kernel_rfl) (by kernel_rfl),hd1 _ (by kernel_rfl),hd1 [.int .u64 (.v 5),.int .u64 (.v 6),.y 1,.y 2,.int .u64 (.v 7),.int .u64 (.v 8),.y 3,.y 4,.y 5] (by kernel_rfl)] at h4
      rw [hcE]
      show Blk w7 p.gR _ (#[fbV Z,.slice (some ⟨p.gT,0,none⟩) (R.ths.set t y7).length p.tcap,p.vS,vC'] ++ _)
      rw [List.length_set,eS]
      exact h4
     ·have h3:=(hr7.rep.blk 1 _ rfl rfl).2
      have hd : za3 Y7 ((pnU_0.heap.tail.headD default).cs) = x7.cells:=by
       show [(SV.sl (.sh (.blk 2) (.lit 1) (.v 10) 2) (.su (.tn (.v 9)) (.lit 1)) (.e (.su (.tn (.v 10)) (.lit 1)))).den Y7,.iface 82 (Y7.ys.getD 8 .nilFunc),.int .i64 (Y7.ints.getD 20 0),.int .i64 (Y7.ints.getD 21 0),.int .i64 (Y7.ints.getD 22 0),.int .u64 (Y7.ints.getD 23 0),.int .u64 (Y7.ints.getD 24 0),.int .i64 0] = _
       rw [sh_den (gL:=gL) (oL:=oL) (n:=rest.length) (cL:=cL) (by rw [hblk7 2 (by decide),hb1 2 (by decide)]; rfl) (by rw [hblk7 2 (by decide),hb1 2 (by decide)]; rfl) (by rw [hblk7 2 (by decide),hb1 2 (by decide)]; rfl) (by rw [hi7]; rfl) (by rw [hi7]; rfl) hcL,hi7,hy7]
       rfl
      rw [hblk7 1 (by decide),hb1 1 (by decide)] at h3
      have h4 : Blk w7 p.gT 107 ((⟨p.gT,0,t * 8,(p.ths.take t).flatMap Th.cells,(p.ths.drop (t + 1)).flatMap Th.cells,0,none⟩ : Seg).whole (za3 Y7 ((pnU_0.heap.tail.headD default).cs))).toArray:=h3
      rw [hd,show (⟨p.gT,0,t * 8,(p.ths.take t).flatMap Th.cells,(p.ths.drop (t + 1)).flatMap Th.cells,0,none⟩ : Seg).whole x7.cells = (Ths (p.ths.set t x7)).toList from zly htl] at h4
      exact h4
     ·exact zeo hc.s fun g hg _=>by rw [eS] at hg; cases hg
     ·have kN7:=(hr7.rep.blk 6 _ rfl rfl).2
      have rN7:=hr7.rep.row 6 _ _ _ _ rfl rfl
      have hpre8 : (Y7.blks.getD 6 {}).pre = (R.calls ++ [rc]).flatMap Rc.cells:=by
       rw [hr7.aps 6 _ _ _ rfl rfl]
       have e1 : zd9 Y7 none = R.calls.flatMap Rc.cells:=by rw [hcl]; rfl
       have hrc : rc = ⟨t,o.1,o.2,0, -1,0,0⟩:=by simp [rc,hst]
       rw [e1,List.flatMap_append,hdd _ (by kernel_rfl) (by kernel_rfl) (by kernel_rfl),hd1 _ (by kernel_rfl),hrc]
       rfl
      have hLn : ((E.lit 1).den Y7).toNat = R.calls.length + 1:=by rw [hcl]; rfl
      have hLn1 : ((E.lit 1).den Y1).toNat = R.calls.length + 1:=by rw [hcl]; rfl
      have h5:=zbc (w:=w7) (t:=65) (size:=7) (q:=Y7.blks.getD 6 {}) kN7 rN7.2.1 rN7.2.2.2.1 rN7.2.2.2.2.1 rN7.2.2.2.2.2.1
      rw [hpre8,hLn,hblk7 6 (by decide)] at h5
      show w7.ownsRow 0 _ 7 vC' (R.calls ++ [rc]).length _
      rw [eN,List.length_append,hLn1]
      exact h5
    have side7 : zhm Z s₀ w₀ s6 F6 w7 (R.begin_ Z t y o draw) { p with vC:=vC',tmp:=[(Y7.blks.getD 3 {}).g,(Y7.blks.getD 7 {}).g],ths:=p.ths.set t x7,vs:=p.vs ++ [v] }:=by
     rw [hbeg]
     have:=side_h
     simp only [List.set_set] at this
     exact this
    have hy8 : (R.begin_ Z t y o draw).ths[t]? = some y7:=List.getElem?_set_self (List.getElem?_eq_some_iff.1 hy).1
    have hm8 : (R.begin_ Z t y o draw).ms[R.ms.length]? = some n.1:=by
     rw [hbeg]
     show (R.ms ++ [n.1])[R.ms.length]? = _
     simp
    refine zkh pnU_sub_fits hr7 fun hr8=>at5pn (t:=t) (i:=R.ms.length) (y:=y7) (m:=n.1) hr8 (by rw [Sub.env_lens]; kernel_rfl) core7 side7 hy8 rfl hm8 (by show (Y7.blks.getD 0 {}).g = _; rw [hblk7 0 (by decide),hb1 0 (by decide)]; rfl) (by show Y7.ints.getD 0 0 = _; rw [hi7]; rfl) (fun b hb=>?_) hsm ?_
    ·simp only [List.mem_cons,List.not_mem_nil,or_false] at hb
     rcases hb with rfl | rfl
     ·exact List.mem_cons_self ..
     ·exact List.mem_cons_of_mem _ (List.mem_cons_self ..)
    ·intro s9 F9 p9 w9 hg9 hr9 ht9
     refine hback s9 _ w9 ⟨F9,p9,hg9,rfl,?_⟩ ht9
     have hR : R.pick Z t draw = (R.begin_ Z t y o draw).go Z t R.ms.length y7 n.1:=by
      unfold Rr.pick
      rw [if_neg (by omega),show (t : Int).toNat = t from rfl,hy]
      simp only [hon,hl,hy8,hm8]
     rw [hR]
     exact hr9
end
end
section
section
variable {γ : Type} {X : zad γ} {s : γ} {w : World} {M : Type} {Z : Fam X M}
theorem pick_ok {s₀ : γ} {w₀ : World} {F : Nat -> Prop} {R : Rr M} {p : Ph} (h : ze3 Z s₀ w₀ s F w R p) (t draw : Int) (hpre : ∀ (n : Nat) (y : Rt),R.ths[n]? = some y -> y.on = none -> y.left ≠ [] -> Z.pre R.ms n) (hsm : R.steps.length < 1000000) (hcm : R.calls.length < 1000000) :
  Jdo Try.prog X 41 #[.pointer (some ⟨p.gR,0,none⟩),.agg #[.int .i64 t,.int .u32 draw]] s w (zjc Z s₀ w₀ R p.gR t draw):=by
 by_cases ht : t < 0 \/ (R.ths.length : Int) <= t
 ·exact pick_out h t draw ht
 obtain ⟨n,rfl⟩ : ∃ n : Nat,t = n:=⟨t.toNat,by omega⟩
 have hn : n < R.ths.length:=by omega
 have hy:=List.getElem?_eq_getElem hn
 generalize R.ths[n] = y at hy
 have hn' : n < p.ths.length:=by rw [h.side.tlen]; exact hn
 have hrel:=h.side.rel n _ y (List.getElem?_eq_getElem hn') hy
 cases hon : y.on with
 | some i=>
  have hi:=(hrel.onlt i hon).1
  exact pick_on h n i draw hy hon (List.getElem?_eq_getElem hi) hsm (Nat.le_of_lt hcm)
 | none=>
  cases hl : y.left with
  | nil=>exact pick_none h n draw hy hon hl
  | cons o rest=>
   have hp:=hpre n y hy hon (by rw [hl]; exact List.cons_ne_nil _ _)
   rcases h.nils with ⟨eS,eC,hst,hcl⟩ | ⟨gS,nS,cS,gC,nC,cC,eS,eC⟩
   ·exact pick_startn h n draw hy hon hl hp hsm hcm eS eC hst hcl
   ·exact pick_startk h n draw hy hon hl hp hsm hcm eS eC
end
end
section
section
variable {γ : Type} {X : zad γ} {M : Type} (Z : Fam X M)
def Fam.with_ (g : Nat) (t : TypeId) (arr : Array Value) : Fam X M where
 fb:=Z.fb
 capt:=Z.capt
 base:=Z.base
 fbok:=Z.fbok
 I s F w l:=∃ F1,Z.I s F1 w l /\ (∀ k,F k ↔ F1 k \/ k = g) /\ Blk w g t arr /\ ¬ F1 g /\ ¬ X.oth s g
 ini:=Z.ini
 pre:=Z.pre
 next:=Z.next
 res:=Z.res
 bound:=fun ⟨F1,h,hF,hb,_⟩ k hk=>by
  rcases (hF k).1 hk with h1 | rfl
  ·exact Z.bound h k h1
  ·exact hb.lt
 keep:=fun ⟨F1,h,hF,hb,hn,ho⟩ hst hsz ht=>⟨F1,Z.keep h (fun k hk=>hst k (hk.imp (fun h=>(hF k).2 (.inl h)) id)) hsz ht,hF,(hst g (.inl ((hF g).2 (.inr rfl)))).trans hb,hn,ho⟩
 begin_ok:=fun {s F w l} t kind val draw ⟨F1,h,hF,hb,hn,ho⟩ hp=>by
  refine (Z.begin_ok t kind val draw h hp).mono fun s' r w' ⟨v,F',hr,hv,hI,hc,hF',hoth⟩=>?_
  refine ⟨v,fun k=>F' k \/ k = g,hr,hv,⟨F',hI,fun k=>Iff.rfl,hb.chg hc hn,fun hg=>?_,fun hg=>ho (hoth g hb.lt hg)⟩,hc.mono fun k _ hk=>(hF k).2 (.inl hk),fun k hk=>?_,hoth⟩
  ·rcases hF' g hg with h1 | h1
   ·exact hn h1
   ·exact absurd hb.lt (by omega)
  ·rcases hk with hk | rfl
   ·rcases hF' k hk with h1 | h1
    ·exact .inl ((hF k).2 (.inl h1))
    ·exact .inr h1
   ·exact .inl ((hF k).2 (.inr rfl))
 next_ok:=fun {s F w l} i v m was done ⟨F1,h,hF,hb,hn,ho⟩ hi=>by
  refine (Z.next_ok i v m was done h hi).mono fun s' r w' ⟨F',hr,hI,hc,hF',hoth⟩=>?_
  refine ⟨fun k=>F' k \/ k = g,hr,⟨F',hI,fun k=>Iff.rfl,hb.chg hc hn,fun hg=>?_,fun hg=>ho (hoth g hb.lt hg)⟩,hc.mono fun k _ hk=>(hF k).2 (.inl hk),fun k hk=>?_,hoth⟩
  ·rcases hF' g hg with h1 | h1
   ·exact hn h1
   ·exact absurd hb.lt (by omega)
  ·rcases hk with hk | rfl
   ·rcases hF' k hk with h1 | h1
    ·exact .inl ((hF k).2 (.inl h1))
    ·exact .inr h1
   ·exact .inl ((hF k).2 (.inr rfl))
 res_ok:=fun i v m ⟨F1,h,_⟩ hi=>Z.res_ok i v m h hi
variable {Z}
theorem ze3.free {g : Nat} {t : TypeId} {arr : Array Value} {s₀ s : γ} {w₀ w : World} {F : Nat -> Prop} {R : Rr M} {p : Ph} (h : ze3 (Z.with_ g t arr) s₀ w₀ s F w R p) : ∃ F1,ze3 Z s₀ w₀ s F1 w R { p with tmp:=[g] } /\ Blk w g t arr:=by
 obtain ⟨hc,hs,hn⟩:=h
 obtain ⟨F1,hI,hF,hb,hng,ho⟩:=hs.i
 have hg : F g:=(hF g).2 (.inr rfl)
 have hm : ∀ k,Ph.mine { p with tmp:=[g] } k -> p.mine k \/ k = g:=fun k hk=>by
  rcases hk with h1 | h1 | h1 | h1 | h1
  ·exact .inl (.inl h1)
  ·exact .inl (.inr (.inl h1))
  ·exact .inl (.inr (.inr (.inl h1)))
  ·exact .inl (.inr (.inr (.inr (.inl h1))))
  ·exact .inr (by simpa using h1)
 have hm2 : ∀ k,F1 k \/ Ph.mine { p with tmp:=[g] } k -> F k \/ p.mine k:=fun k hk=>by
  rcases hk with h1 | h1
  ·exact .inl ((hF k).2 (.inl h1))
  ·rcases hm k h1 with h2 | rfl
   ·exact .inr h2
   ·exact .inl hg
 refine ⟨F1,⟨⟨hc.r,hc.t,hc.s,hc.c⟩,⟨hI,hs.vlen,hs.vone,hs.mem,hs.small,fun k hk=>hs.off k (hm2 k hk),hs.tlen,hs.tle,fun i x y hx hy=>?_,fun k hk=>?_,hs.ne,⟨fun k hk=>hs.fB.1 k ((hF k).2 (.inl hk)),hs.fB.2⟩,hs.oth,hs.chg,hs.far⟩,hn⟩,hb⟩
 ·have r:=hs.rel i x y hx hy
  exact ⟨r.on,r.onlt,r.asks,r.call,r.left,r.form,fun k hk=>r.off k (hm2 k hk)⟩
 ·rcases hm k hk with h1 | rfl
  ·obtain ⟨d1,d2,d3,d4⟩:=hs.dis k h1
   exact ⟨fun hf=>d1 ((hF k).2 (.inl hf)),d2,d3,d4⟩
  ·exact ⟨hng,ho,hb.lt,hs.fB.1 k hg⟩
theorem ze3.set_ {s₀ s : γ} {w₀ w w' : World} {F : Nat -> Prop} {R : Rr M} {p : Ph} {g : Nat} (h : ze3 Z s₀ w₀ s F w R p) (hg : g ∈ p.tmp) (hn : g ≠ p.gR /\ g ≠ p.gT /\ p.vS.ownBlock ≠ some g /\ p.vC.ownBlock ≠ some g) (hc : Chg (fun k=>k = g) w w') (ht : X.there s w') : ze3 Z s₀ w₀ s F w' R p:=by
 refine ⟨⟨h.core.r.chg hc (Ne.symm hn.1),h.core.t.chg hc (Ne.symm hn.2.1),zo9 h.core.s hc fun k hk e=>hn.2.2.1 (e ▸ hk),zo9 h.core.c hc fun k hk e=>hn.2.2.2 (e ▸ hk)⟩,h.side.keep (hc.mono fun k _ e=>?_) ht,h.nils⟩
 subst e
 exact .inr (.inr (.inr (.inr hg)))
end
end
end Go.Proofs.Ytonhfgjofgbcdaa.Dr
