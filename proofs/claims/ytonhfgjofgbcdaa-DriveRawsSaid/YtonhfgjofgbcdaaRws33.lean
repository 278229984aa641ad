/- A part of this claim's proof. -/
import Derived.Test.YtonhfgjofgbcdaaRws32
set_option linter.unusedSimpArgs false
set_option linter.unusedVariables false
set_option maxRecDepth 20000
namespace Go.Proofs.Ytonhfgjofgbcdaa.Dr
open Go Go.Conc Go.RowKit Jay Pl
open St Sx Rf
section
def R3.begun (r : R3) (t : Nat) (a : Ac) : R3:=⟨r.at_.set t (r.at_.getD t 0 + 1),r.cl.set t (r.calls.length : Int),(r.mem.act a.d a.ar a.at_ a.old a.new).1,r.steps ++ [a.step t r.mem],r.calls ++ [⟨t,0,0,r.steps.length, -1,0,0⟩]⟩
def R3.over (r : R3) (t k' : Nat) (rc : Rc) (done : Bool) : R3:={ r with cl:=r.cl.set t (-1),calls:=r.calls.set k' { rc with to:=(r.steps.length : Int) - 1,code:=0,out:=if done = true then 1 else 0 } }
def R3.does (r : R3) (t : Nat) (a : Ac) : R3:=(r.begun t a).over t r.calls.length ⟨t,0,0,r.steps.length, -1,0,0⟩ (r.mem.act a.d a.ar a.at_ a.old a.new).2.2
theorem len24 {f : List Value} (h : f.length = 24) : ∃ a0 a1 a2 a3 a4 a5 a6 a7 a8 a9 a10 a11 a12 a13 a14 a15 a16 a17 a18 a19 a20 a21 a22 a23,f = [a0,a1,a2,a3,a4,a5,a6,a7,a8,a9,a10,a11,a12,a13,a14,a15,a16,a17,a18,a19,a20,a21,a22,a23]:=by
 match f,h with
 | [a0,a1,a2,a3,a4,a5,a6,a7,a8,a9,a10,a11,a12,a13,a14,a15,a16,a17,a18,a19,a20,a21,a22,a23],_=>exact ⟨_,_,_,_,_,_,_,_,_,_,_,_,_,_,_,_,_,_,_,_,_,_,_,_,rfl⟩
section
variable {γ : Type} {X : zad γ} {s : γ} {w : World}
theorem step_k {W : World} {k K T Mn : Int} {r : R3} {q : Q3} {t : Nat} {a : Ac} (h : zkd X W s w k K T Mn r q) (hM : IntKind.u64.wrap Mn ≠ 0) (ht : t < r.at_.length) (hcl : r.cl[t]? = some (-1)) (hnb : r.at_.getD t 0 < maxLen) (hlen : r.calls.length = r.steps.length) (hsm : r.steps.length < 1000000)
  {gS nS cS gK nK cK : Nat} (eS : q.vS = .slice (some ⟨gS,0,none⟩) nS cS) (eK : q.vC = .slice (some ⟨gK,0,none⟩) nK cK) :
  Jdo Try.prog X 33 #[.pointer (some ⟨q.gR,0,none⟩),.int .i64 t,.agg (f99 99 0 a).toArray,.int .i64 0,.int .u32 0,.bool true] s w (fun s' res w'=>s' = s /\ res = .back (.bool true) /\ ∃ q',q'.gR = q.gR /\ zkd X W s w' k K T Mn (r.does t a) q'):=by
 have hmem:=h.mem
 obtain ⟨v2,v3,v6,v7,v8,hcE,u2,u3,u6,u7,u8⟩:=h.mem
 have hR:=h.R
 unfold r3V at hR
 rw [hcE,eS,eK] at hR
 have htf : t < q.fs.length:=by rw [h.fl]; exact ht
 have htc : t < r.cl.length:=by rw [h.cl]; exact ht
 have hff:=List.getElem?_eq_getElem htf
 have hfc:=h.fc q.fs[t] (List.getElem_mem htf)
 generalize q.fs[t] = f0 at hff hfc
 obtain ⟨hf24,hf1⟩:=hfc
 obtain ⟨a0,a1,a2,a3,a4,a5,a6,a7,a8,a9,a10,a11,a12,a13,a14,a15,a16,a17,a18,a19,a20,a21,a22,a23,rfl⟩:=len24 hf24
 have hO:=h.O
 rw [zou hff] at hO
 have hcv : (isV r.cl)[t]? = some (.int .i64 (-1)):=by unfold isV; rw [List.getElem?_map,hcl]; rfl
 have hC:=h.C
 rw [zhn hcv] at hC
 have hm0 : r.at_[t]? = some (r.at_.getD t 0):=by rw [List.getD_eq_getElem?_getD,List.getElem?_eq_getElem ht]; rfl
 have hav : (nsV r.at_)[t]? = some (.int .i64 ((r.at_.getD t 0 : Nat) : Int)):=by unfold nsV; rw [List.getElem?_map,hm0]; rfl
 have hA:=h.A
 rw [zhn hav] at hA
 obtain ⟨m,hm⟩ : ∃ m,m = r.at_.getD t 0:=⟨_,rfl⟩
 rw [<- hm] at hA hnb
 obtain ⟨pK,rfl,bK,lK,cK1,cK2,cK3⟩:=zcd h.K eK
 obtain ⟨pS,rfl,bS,lS,cS1,cS2,cS3⟩:=zcd h.S eS
 have hfl : (q.fs.take t).flatten.length = t * 24:=by
  rw [fl_len fun f hf=>(h.fc f (List.mem_of_mem_take hf)).1,List.length_take]
  congr 1
  omega
 have hil : ((isV r.cl).take t).length = t:=by rw [List.length_take]; unfold isV; rw [List.length_map]; omega
 have hal : ((nsV r.at_).take t).length = t:=by rw [List.length_take]; unfold nsV; rw [List.length_map]; omega
 have dR:=h.dis q.gR (.inl rfl)
 have dO:=h.dis q.gO (.inr (.inl rfl))
 have dC:=h.dis q.gC (.inr (.inr (.inl rfl)))
 have dA:=h.dis q.gA (.inr (.inr (.inr (.inl rfl))))
 have mS : q.mine gS:=.inr (.inr (.inr (.inr (.inl (by rw [eS]; rfl)))))
 have mK : q.mine gK:=.inr (.inr (.inr (.inr (.inr (by rw [eK]; rfl)))))
 have dS:=h.dis gS mS
 have dK:=h.dis gK mK
 obtain ⟨n1,n2,n3⟩:=h.ne
 have n2:=n2 gS (by rw [eS]; rfl)
 have n3:=n3 gK (by rw [eK]; rfl)
 have n4 : gK ≠ gS:=fun e=>n2.2 (by rw [eK,e]; rfl)
 simp only [List.nodup_cons,List.mem_cons,List.not_mem_nil,or_false,not_or,not_false_eq_true,List.nodup_nil,and_true] at n1 n2 n3
 obtain ⟨⟨nRO,nRC,nRA⟩,⟨nOC,nOA⟩,nCA⟩:=n1
 obtain ⟨⟨nSR,nSO,nSC,nSA⟩, -⟩:=n2
 obtain ⟨nKR,nKO,nKC,nKA⟩:=n3
 let Y : Env:={ ints:=[(t : Int),a.d,a.ar,a.at_,a.old,a.new,k,K,T,Mn,r.mem.e,r.mem.f,r.mem.h,r.mem.t,(r.at_.length : Int),(q.cO : Int),(q.cC : Int),(q.cA : Int),(r.steps.length : Int),(m : Int)],ys:=[v2,v3,v6,v7,v8,a0,a1,a2,a3,a4,a5,a6,a7,a8,a9,a10,a11,a12,a13,a14,a15,a16,a17,a18,a19,a20,a21,a22,a23],blks:=[⟨q.gR,0,0,[],[],0,none⟩,⟨q.gO,0,t * 24,(q.fs.take t).flatten,(q.fs.drop (t + 1)).flatten ++ q.pO,0,none⟩,⟨q.gC,0,t,(isV r.cl).take t,(isV r.cl).drop (t + 1) ++ q.pC,0,none⟩,⟨q.gA,0,t,(nsV r.at_).take t,(nsV r.at_).drop (t + 1) ++ q.pA,0,none⟩,⟨gS,0,(r.steps.flatMap Rp.Sp.cells).length,r.steps.flatMap Rp.Sp.cells,pS,cS,none⟩,⟨gK,0,(r.calls.flatMap Rc.cells).length,r.calls.flatMap Rc.cells,pK,cK,none⟩] }
 refine zbt (Y:=Y) st_fresh rfl fun Stop c cs hth hback _=>?_
 have hr : Rep X s (ours Y zg6.heap) w Y zg6.heap zg6.facts 0 w:=by
  refine Rep.start hth (fun v hv=>?_) rfl ⟨⟨dR.2.1,zcc rfl ⟨dR.1,rfl,?_⟩,⟨rfl,rfl⟩,trivial,rfl⟩,⟨dO.2.1,zcc rfl ⟨dO.1,hfl.symm,hO⟩,⟨(Nat.zero_add _).symm,rfl⟩,trivial,rfl⟩,⟨dC.2.1,zcc rfl ⟨dC.1,hil.symm,hC⟩,⟨?_,rfl⟩,trivial,rfl⟩,⟨dA.2.1,zcc rfl ⟨dA.1,hal.symm,hA⟩,⟨?_,rfl⟩,trivial,rfl⟩,⟨dS.2.1,zcc rfl ⟨dS.1,rfl,bS⟩,trivial,⟨rfl,lS,Nat.le_of_lt hsm,cS1,cS2,cS3,rfl⟩,rfl⟩,⟨dK.2.1,zcc rfl ⟨dK.1,rfl,bK⟩,trivial,⟨rfl,?_,Nat.le_of_lt hsm,?_,cK2,cK3,rfl⟩,rfl⟩,trivial⟩
   ⟨⟨(fun _=>nRO),(fun _=>nRC),(fun _=>nRA),(fun _=>Ne.symm nSR),(fun _=>Ne.symm nKR),trivial⟩,⟨(fun _=>nOC),(fun _=>nOA),(fun _=>Ne.symm nSO),(fun _=>Ne.symm nKO),trivial⟩,⟨(fun _=>nCA),(fun _=>Ne.symm nSC),(fun _=>Ne.symm nKC),trivial⟩,⟨(fun _=>Ne.symm nSA),(fun _=>Ne.symm nKA),trivial⟩,⟨(fun _=>Ne.symm n4),trivial⟩,trivial,trivial⟩ (za5 ⟨?_,?_,trivial⟩) rfl
  ·have hv : v ∈ [v2,v3,v6,v7,v8] ++ [a0,a1,a2,a3,a4,a5,a6,a7,a8,a9,a10,a11,a12,a13,a14,a15,a16,a17,a18,a19,a20,a21,a22,a23]:=hv
   rcases List.mem_append.1 hv with hv | hv
   ·exact zb9 (l:=[v2,v3,v6,v7,v8]) ⟨za2 u2,za2 u3,za2 u6,za2 u7,za2 u8,trivial⟩ v hv
   ·exact hf1 v hv
  ·rw [hlen] at hR
   exact hR
  ·show t = 0 + (t : Int).toNat * 1
   simp
  ·show t = 0 + (t : Int).toNat * 1
   simp
  ·rw [hlen] at lK; exact lK
  ·rw [hlen] at cK1; exact cK1
  ·exact decide_eq_true (by show (0 : Int) <= (t : Int); omega)
  ·exact decide_eq_true (by show (t : Int) < ((r.at_.length : Int).toNat : Int); omega)
 have hours : ∀ g,ours Y zg6.heap g -> q.mine g:=zbz ⟨fun _=>.inl rfl,fun _=>.inr (.inl rfl),fun _=>.inr (.inr (.inl rfl)),fun _=>.inr (.inr (.inr (.inl rfl))),fun _=>mS,fun _=>mK,trivial⟩
 have fin : ∀ q' w',q'.gR = q.gR -> zkd X W s w' k K T Mn (r.does t a) q' -> X.there s w' -> Jay.Reach Try.prog X Stop s (c.finish (.bool true)) cs w':=fun q' w' e1 e2 e3=>hback s _ w' ⟨rfl,rfl,q',e1,e2⟩ e3
 refine zaa 900 skA_run hr ⟨fun Y1 w1 hx1 hr1=>?_,trivial⟩
 have hb1 : Y1.blks.length = 9:=hr1.len
 show Fr.reach _ X Stop s (c :: cs) Y1 [zfx.frs.headD default] w1
 let A0 : List Value:=[.int .i64 a.d,.int .i64 a.ar,.int .i64 a.at_,.int .u64 a.old,.int .u64 a.new]
 have hr:=hr1
 have hL : Y1.lens = ⟨20,0,0,29,9⟩:=by simp only [Env.lens,hx1.ints,hx1.bools,hx1.xs,hx1.ys,hb1]; rfl
 let Post : World -> γ -> zf9 -> World -> Prop:=fun w1 s' r w'=>s' = s /\ Below w1.heap.size w1 w' /\ r = .back (.agg (acc a.d a.ar a.at_ a.old a.new))
 have HJ : ∀ (Y' : Env) (w' : World),Ext Y1 Y' -> Chg (ours Y zg6.heap) w w' -> X.there s w' -> Jdo Try.prog X 42 (za3 Y' zg5).toArray s w' (Post w'):=by
  intro Y' w' hx' _ _
  have:=ask99 (X:=X) (s:=s) (w:=w') (k:=k) (K:=K) (T:=T) a hM
  rwa [show (za3 Y' zg5).toArray = #[cfg k K T Mn,.agg (f99 99 0 a).toArray] by
   have e : Y'.ints = Y.ints:=hx'.ints.trans hx1.ints
   obtain ⟨gi,gb,gx,gy,gk,gp⟩:=Y'
   dsimp only at e
   subst e
   rfl]
 have HB : ∀ (h1' : List HB) (n : Nat) (Y' : Env) (w' : World),h1'.length = n -> 9 <= n -> zdn ⟨20,0,0,29,n⟩ h1' = true -> Ext Y1 Y' -> Rep X s (ours Y zg6.heap) w Y' h1' zfx.facts 0 w' -> ∀ s' v w'',Post w' s' (.back v) w'' -> X.there s' w'' -> ∃ (S' : Nat -> Prop) (w₁ : World) (ai : List Int) (ab : List Bool) (ax ay : List Value),v = SV.den (Y'.grow ai ab ax ay []) (.agg [.int .i64 (.v 1),.int .i64 (.v 2),.int .i64 (.v 3),.int .u64 (.v 4),.int .u64 (.v 5)]) /\ Rep X s' S' w₁ (Y'.grow ai ab ax ay []) h1' zfx.facts 0 w'' /\ ∀ Y'' w3,Ext (Y'.grow ai ab ax ay []) Y'' -> Rep X s' S' w₁ Y'' skC_in.heap skC_in.facts 0 w3 -> Fr.reach Try.prog X Stop s' (c :: cs) Y'' skC_in.frs w3:=by
  intro h1' n Y' w' hn hn3 hok hx' hr' s' v w'' hp' ht2
  obtain ⟨rfl,hb2,ev⟩:=hp'
  cases ev
  have hlb' : Y'.blks.length = n:=hr'.len.trans hn
  have hi' : Y'.ints = Y.ints:=hx'.ints.trans hx1.ints
  have hL' : Y'.lens = ⟨20,0,0,29,n⟩:=by
   simp only [Env.lens,hi',hx'.bools,hx'.xs,hx'.ys,hx1.bools,hx1.xs,hx1.ys,hlb']
   rfl
  have hg : Y'.grow [] [] [] [] [] = Y':=by simp [Env.grow]
  refine ⟨ours Y zg6.heap,w,[],[],[],[],?_,(hr'.below hb2).grow_ hL' hok rfl _ _ _ _ (fun v hv=>by cases hv),fun Y2 w2 hx2 hr2=>?_⟩
  ·rw [hg]
   obtain ⟨gi,gb,gx,gy,gk,gp⟩:=Y'
   dsimp only at hi'
   subst hi'
   rfl
  rw [hg] at hx2
  have hk2 : ∀ i,i < 9 -> Y2.blks.getD i {} = Y1.blks.getD i {}:=fun i hi=>by rw [hx2.blk (by omega),hx'.blk (by omega)]
  have hi2 : Y2.ints = Y.ints:=hx2.ints.trans hi'
  have hy2 : Y2.ys = Y.ys:=hx2.ys.trans (hx'.ys.trans hx1.ys)
  have hbo2 : Y2.bools = []:=hx2.bools.trans (hx'.bools.trans hx1.bools)
  have hxs2 : Y2.xs = []:=hx2.xs.trans (hx'.xs.trans hx1.xs)
  refine zaa 900 skC_run hr2 ⟨fun Y3 w3 hx3 hr3=>?_,trivial⟩
  have hb3 : Y3.blks.length = 10:=hr3.len
  have hb2l : Y2.blks.length = 10:=hr2.len
  have hi3 : Y3.ints = Y.ints:=hx3.ints.trans hi2
  have hy3 : Y3.ys = Y.ys:=hx3.ys.trans hy2
  have hbo3 : Y3.bools = []:=hx3.bools.trans hbo2
  have hxs3 : Y3.xs = []:=hx3.xs.trans hxs2
  have hk3 : ∀ i,i < 9 -> Y3.blks.getD i {} = Y1.blks.getD i {}:=fun i hi=>by rw [hx3.blk (by omega),hk2 i hi]
  show Fr.reach _ X Stop s' (c :: cs) Y3 [zfw.frs.headD default] w3
  have hr:=hr3
  have hL : Y3.lens = ⟨20,0,0,29,10⟩:=by simp only [Env.lens,hi3,hbo3,hxs3,hy3,hb3]; rfl
  let M':=r.mem.act a.d a.ar a.at_ a.old a.new
  let Post : World -> γ -> zf9 -> World -> Prop:=fun w1=>DoPost s' w1 q.cE M'.1 M'.2.1 M'.2.2
  have memAt : ∀ w',Chg (ours Y zg6.heap) w w' -> zbb w' w'.heap.size r.mem q.cE:=fun w' hc=>(zbb.chg hmem (Nat.le_refl _) hc fun g hg=>h.off g (hours g hg)).more hc.size
  have HJ : ∀ (Y' : Env) (w' : World),Ext Y3 Y' -> Chg (ours Y zg6.heap) w w' -> X.there s' w' -> Jdo Try.prog X 27 (za3 Y' zg4).toArray s' w' (Post w'):=by
   intro Y' w' hx' hc' _
   have:=rdo (X:=X) (s:=s') (w:=w') (d:=a.d) (ar:=a.ar) (at_:=a.at_) (old:=a.old) (new:=a.new) (memAt w' hc') (Nat.le_refl _) h.small
   rwa [show (za3 Y' zg4).toArray = #[.agg q.cE,.agg (acc a.d a.ar a.at_ a.old a.new)] by
    have e : Y'.ints = Y.ints:=hx'.ints.trans hi3
    have e2 : Y'.ys = Y.ys:=hx'.ys.trans hy3
    rw [hcE]
    obtain ⟨gi,gb,gx,gy,gk,gp⟩:=Y'
    dsimp only at e e2
    subst e e2
    rfl]
  have HB : ∀ (h1' : List HB) (n : Nat) (Y' : Env) (w' : World),h1'.length = n -> 10 <= n -> zdn ⟨20,0,0,29,n⟩ h1' = true -> Ext Y3 Y' -> Rep X s' (ours Y zg6.heap) w Y' h1' zfw.facts 0 w' -> ∀ s'' v w'',Post w' s'' (.back v) w'' -> X.there s'' w'' -> ∃ (S' : Nat -> Prop) (w₁ : World) (ai : List Int) (ab : List Bool) (ax ay : List Value),v = SV.den (Y'.grow ai ab ax ay []) (.tup [.agg [.int .u64 (.v 20),.int .u64 (.v 21),.y 29,.y 30,.int .u64 (.v 22),.int .u64 (.v 23),.y 31,.y 32,.y 33],.int .u64 (.v 24),.bool (.v 0)]) /\ Rep X s'' S' w₁ (Y'.grow ai ab ax ay []) h1' zfw.facts 0 w'' /\ ∀ Y'' w3,Ext (Y'.grow ai ab ax ay []) Y'' -> Rep X s'' S' w₁ Y'' skE_in.heap skE_in.facts 0 w3 -> Fr.reach Try.prog X Stop s'' (c :: cs) Y'' skE_in.frs w3:=by
   intro h1' n Y' w' hn hn3 hok hx' hr' s'' v w'' hp' ht2
   obtain ⟨rfl,hb4,cs',ev,hm',hfar⟩:=hp'
   cases ev
   obtain ⟨z2,z3,z6,z7,z8,hcs,hzs⟩:=ze2 hm'
   have hlb' : Y'.blks.length = n:=hr'.len.trans hn
   have hi' : Y'.ints = Y.ints:=hx'.ints.trans hi3
   have hy' : Y'.ys = Y.ys:=hx'.ys.trans hy3
   have hbo' : Y'.bools = []:=hx'.bools.trans hbo3
   have hxs' : Y'.xs = []:=hx'.xs.trans hxs3
   have hL' : Y'.lens = ⟨20,0,0,29,n⟩:=by
    simp only [Env.lens,hi',hbo',hxs',hy',hlb']
    rfl
   have hgi : (Y'.grow [M'.1.e,M'.1.f,M'.1.h,M'.1.t,M'.2.1] [M'.2.2] [] [z2,z3,z6,z7,z8] []).ints = Y.ints ++ [M'.1.e,M'.1.f,M'.1.h,M'.1.t,M'.2.1]:=by simp only [Env.grow,hi']
   have hgb : (Y'.grow [M'.1.e,M'.1.f,M'.1.h,M'.1.t,M'.2.1] [M'.2.2] [] [z2,z3,z6,z7,z8] []).bools = [M'.2.2]:=by simp only [Env.grow,hbo',List.nil_append]
   have hgy : (Y'.grow [M'.1.e,M'.1.f,M'.1.h,M'.1.t,M'.2.1] [M'.2.2] [] [z2,z3,z6,z7,z8] []).ys = Y.ys ++ [z2,z3,z6,z7,z8]:=by simp only [Env.grow,hy']
   have hgk : (Y'.grow [M'.1.e,M'.1.f,M'.1.h,M'.1.t,M'.2.1] [M'.2.2] [] [z2,z3,z6,z7,z8] []).blks = Y'.blks:=by simp only [Env.grow,List.append_nil]
   have hrg:=((hr'.below hb4).grow_ hL' hok rfl [M'.1.e,M'.1.f,M'.1.h,M'.1.t,M'.2.1] [M'.2.2] [] [z2,z3,z6,z7,z8] (zb9 hzs)).rebase
   generalize hYg : Y'.grow _ _ _ _ _ = Yg at hgi hgb hgy hgk hrg
   have hou : ∀ g,ours Yg h1' g -> W.heap.size <= g /\ Off g cs':=fun g hg=>by
    obtain ⟨i,x,hx,hw,rfl⟩:=hg
    rw [hgk]
    have hlt : (Y'.blks.getD i {}).g < w'.heap.size:=hr'.bnd i (List.getElem?_eq_some_iff.1 hx).1
    rcases hr'.inS i x hx hw with h1 | h1
    ·exact ⟨(h.dis _ (hours _ h1)).2.2,hfar _ hlt (h.off _ (hours _ h1))⟩
    ·exact ⟨Nat.le_trans h.bel.size h1,hfar _ hlt (zbd hmem h1)⟩
   refine ⟨ours Yg h1',w'',[M'.1.e,M'.1.f,M'.1.h,M'.1.t,M'.2.1],[M'.2.2],[],[z2,z3,z6,z7,z8],?_,by rw [hYg]; exact hrg,fun Y4 w4 hx4 hr4=>?_⟩
   ·rw [hYg,hcs]
    obtain ⟨gi,gb,gx,gy,gk,gp⟩:=Yg
    dsimp only at hgi hgb hgy
    subst hgi hgb hgy
    rfl
   rw [hYg] at hx4
   have hb4l : Y4.blks.length = 11:=hr4.len
   have hk4 : ∀ i,i < 9 -> Y4.blks.getD i {} = Y1.blks.getD i {}:=fun i hi=>by rw [hx4.blk (by rw [hgk]; omega),hgk,hx'.blk (by omega),hk3 i hi]
   refine zaa 900 skE_run hr4 ⟨fun Y5 w5 hx5 hr5=>?_,trivial⟩
   have hb5l : Y5.blks.length = 13:=hr5.len
   have hi5 : Y5.ints = Y.ints ++ [M'.1.e,M'.1.f,M'.1.h,M'.1.t,M'.2.1]:=hx5.ints.trans (hx4.ints.trans hgi)
   have hy5 : Y5.ys = Y.ys ++ [z2,z3,z6,z7,z8]:=hx5.ys.trans (hx4.ys.trans hgy)
   have hbo5 : Y5.bools = [M'.2.2]:=hx5.bools.trans (hx4.bools.trans hgb)
   have hk5 : ∀ i,i < 9 -> Y5.blks.getD i {} = Y1.blks.getD i {}:=fun i hi=>by rw [hx5.blk (by omega),hk4 i hi]
   have hk50 : ∀ i,i < 6 -> Y5.blks.getD i {} = Y.blks.getD i {}:=fun i hi=>by rw [hk5 i (by omega),hx1.blk (by show i < 6; exact hi)]
   have hp5 : Y5.perms = []:=zae hr5
   have hc4:=hr5.chg
   have hle : w.heap.size <= w''.heap.size:=Nat.le_trans hr'.chg.size hb4.size
   have hm5 : zbb w5 w5.heap.size M'.1 cs':=(zbb.chg hm' (Nat.le_refl _) hc4 fun g hg=>(hou g hg).2).more hc4.size
   have hsm5 : M'.1.small:=zho h.small _ _ _ _ _
   have kr0:=(hr5.rep.blk 0 _ rfl rfl).2
   have kr1:=(hr5.rep.blk 1 _ rfl rfl).2
   have kr2:=(hr5.rep.blk 2 _ rfl rfl).2
   have kr3:=(hr5.rep.blk 3 _ rfl rfl).2
   rw [hk50 0 (by decide)] at kr0
   rw [hk50 1 (by decide)] at kr1
   rw [hk50 2 (by decide)] at kr2
   rw [hk50 3 (by decide)] at kr3
   have rK:=hr5.rep.row 8 _ _ _ _ rfl rfl
   have kK:=(hr5.rep.blk 8 _ rfl rfl).2
   have rS:=hr5.rep.row 12 _ _ _ _ rfl rfl
   have kS:=(hr5.rep.blk 12 _ rfl rfl).2
   have eK' : SV.den Y5 (.sl (.blk 8) (.ad (.tn (.v 18)) (.lit 1)) (.of 8 7)) = .slice (some ⟨(Y5.blks.getD 8 {}).g,0,none⟩) (r.steps.length + 1) (Y5.blks.getD 8 {}).cap:=by
    refine (zas rfl rK.2.2.2.2.2.2).trans ?_
    rw [rK.1]
    congr 1
    rw [show ((E.ad (.tn (.v 18)) (.lit 1)).den Y5).toNat = r.steps.length + 1 by show ((((Y5.ints.getD 18 0).toNat : Nat) : Int) + 1).toNat = _; rw [hi5]; show ((((r.steps.length : Int).toNat : Nat) : Int) + 1).toNat = _; omega]
   have eS' : SV.den Y5 (.sl (.blk 12) (.ad (.tn (.v 18)) (.lit 1)) (.of 12 8)) = .slice (some ⟨(Y5.blks.getD 12 {}).g,0,none⟩) (r.steps.length + 1) (Y5.blks.getD 12 {}).cap:=by
    refine (zas rfl rS.2.2.2.2.2.2).trans ?_
    rw [rS.1]
    congr 1
    rw [show ((E.ad (.tn (.v 18)) (.lit 1)).den Y5).toNat = r.steps.length + 1 by show ((((Y5.ints.getD 18 0).toNat : Nat) : Int) + 1).toNat = _; rw [hi5]; show ((((r.steps.length : Int).toNat : Nat) : Int) + 1).toNat = _; omega]
   let q' : Q3:={ q with vS:=.slice (some ⟨(Y5.blks.getD 12 {}).g,0,none⟩) (r.steps.length + 1) (Y5.blks.getD 12 {}).cap,vC:=.slice (some ⟨(Y5.blks.getD 8 {}).g,0,none⟩) (r.steps.length + 1) (Y5.blks.getD 8 {}).cap,cE:=cs',fs:=q.fs.set t (f99 99 0 a) }
   have offN : ∀ i x,zje.heap[i]? = some x -> x.wr = true -> ¬ X.oth s'' (Y5.blks.getD i {}).g /\ (Y5.blks.getD i {}).g < w5.heap.size /\ W.heap.size <= (Y5.blks.getD i {}).g /\ Off (Y5.blks.getD i {}).g cs':=fun i x hx hw=>by
    refine ⟨hr5.own i x hx hw,hr5.bnd i (List.getElem?_eq_some_iff.1 hx).1,?_⟩
    rcases hr5.inS i x hx hw with h1 | h1
    ·exact hou _ h1
    ·exact ⟨Nat.le_trans h.bel.size (Nat.le_trans hle h1),zbd hm' h1⟩
   have o0:=offN 0 _ rfl rfl
   have o1:=offN 1 _ rfl rfl
   have o2:=offN 2 _ rfl rfl
   have o3:=offN 3 _ rfl rfl
   have oK:=offN 8 _ rfl rfl
   have oS:=offN 12 _ rfl rfl
   rw [hk50 0 (by decide)] at o0
   rw [hk50 1 (by decide)] at o1
   rw [hk50 2 (by decide)] at o2
   rw [hk50 3 (by decide)] at o3
   have nd0K:=hr5.nd 0 8 _ _ rfl rfl rfl rfl (by decide)
   have nd1K:=hr5.nd 1 8 _ _ rfl rfl rfl rfl (by decide)
   have nd2K:=hr5.nd 2 8 _ _ rfl rfl rfl rfl (by decide)
   have nd3K:=hr5.nd 3 8 _ _ rfl rfl rfl rfl (by decide)
   have nd0S:=hr5.nd 0 12 _ _ rfl rfl rfl rfl (by decide)
   have nd1S:=hr5.nd 1 12 _ _ rfl rfl rfl rfl (by decide)
   have nd2S:=hr5.nd 2 12 _ _ rfl rfl rfl rfl (by decide)
   have nd3S:=hr5.nd 3 12 _ _ rfl rfl rfl rfl (by decide)
   have ndKS:=hr5.nd 8 12 _ _ rfl rfl rfl rfl (by decide)
   rw [hk50 0 (by decide)] at nd0K nd0S
   rw [hk50 1 (by decide)] at nd1K nd1S
   rw [hk50 2 (by decide)] at nd2K nd2S
   rw [hk50 3 (by decide)] at nd3K nd3S
   have hmid : zkd X W s'' w5 k K T Mn (r.begun t a) q':=by
    refine ⟨?_,?_,?_,?_,?_,?_,?_,?_,?_,hm5,hsm5,fun g hg=>?_,fun g hg=>?_,⟨h.ne.1,fun g hg=>?_,fun g hg=>?_⟩,?_,.inr ⟨_,_,_,_,_,_,rfl,rfl⟩,fun g hg=>hfar g (Nat.lt_of_lt_of_le hg (Nat.le_trans h.bel.size hr'.chg.size)) (h.far g hg)⟩
    ·have e : za3 Y5 ((zje.heap.headD default).cs) = r3V k K T Mn (r.begun t a).at_.length q':=by
      have x1:=hk50 1 (by decide)
      have x2:=hk50 2 (by decide)
      have x3:=hk50 3 (by decide)
      unfold r3V
      show [Value.int .i64 (Y5.ints.getD 6 0),.int .i64 (Y5.ints.getD 7 0),.int .i64 (Y5.ints.getD 8 0),.int .i64 (Y5.ints.getD 9 0),.int .u64 (Y5.ints.getD 20 0),.int .u64 (Y5.ints.getD 21 0),Y5.ys.getD 29 .nilFunc,Y5.ys.getD 30 .nilFunc,.int .u64 (Y5.ints.getD 22 0),.int .u64 (Y5.ints.getD 23 0),Y5.ys.getD 31 .nilFunc,Y5.ys.getD 32 .nilFunc,Y5.ys.getD 33 .nilFunc,.slice (Y5.blks.getD 1 {}).adr (Y5.ints.getD 14 0).toNat (Y5.ints.getD 15 0).toNat,.slice (Y5.blks.getD 2 {}).adr (Y5.ints.getD 14 0).toNat (Y5.ints.getD 16 0).toNat,.slice (Y5.blks.getD 3 {}).adr (Y5.ints.getD 14 0).toNat (Y5.ints.getD 17 0).toNat,SV.den Y5 (.sl (.blk 12) (.ad (.tn (.v 18)) (.lit 1)) (.of 12 8)),SV.den Y5 (.sl (.blk 8) (.ad (.tn (.v 18)) (.lit 1)) (.of 8 7)),.int .u64 0,.int .u64 0,.slice none 0 0,.slice none 0 0,.int .u64 0,.int .u64 0,.slice none 0 0,.slice none 0 0,.slice none 0 0] = _
      rw [eS',eK',x1,x2,x3,hi5,hy5,show (r.begun t a).at_.length = r.at_.length from List.length_set,show q'.cE = cs' from rfl,hcs]
      rfl
     refine Eq.trans kr0 ?_
     show some (Obj.cells _ _ _) = some (Obj.cells _ _ _)
     congr 2
     show ([] ++ za3 Y5 ((zje.heap.headD default).cs) ++ []).toArray = _
     rw [List.nil_append,List.append_nil,e]
    ·have e : za3 Y5 ((zje.heap.getD 1 default).cs) = f99 99 0 a:=by
      obtain ⟨gi,gb,gx,gy,gk,gp⟩:=Y5
      dsimp only at hi5
      subst hi5
      rfl
     refine Eq.trans kr1 ?_
     show some (Obj.cells _ _ _) = some (Obj.cells _ _ _)
     congr 2
     show ((q.fs.take t).flatten ++ za3 Y5 ((zje.heap.getD 1 default).cs) ++ ((q.fs.drop (t + 1)).flatten ++ q.pO)).toArray = _
     rw [e,fl_set htf]
    ·have e : za3 Y5 ((zje.heap.getD 2 default).cs) = [.int .i64 (r.calls.length : Int)]:=by
      rw [hlen]
      obtain ⟨gi,gb,gx,gy,gk,gp⟩:=Y5
      dsimp only at hi5
      subst hi5
      rfl
     refine Eq.trans kr2 ?_
     show some (Obj.cells _ _ _) = some (Obj.cells _ _ _)
     congr 2
     show ((isV r.cl).take t ++ za3 Y5 ((zje.heap.getD 2 default).cs) ++ ((isV r.cl).drop (t + 1) ++ q.pC)).toArray = _
     rw [e,set_at (by unfold isV; rw [List.length_map]; exact htc)]
     show _ = (isV (r.cl.set t (r.calls.length : Int)) ++ _).toArray
     unfold isV
     rw [List.map_set]
    ·have e : za3 Y5 ((zje.heap.getD 3 default).cs) = [.int .i64 ((m + 1 : Nat) : Int)]:=by
      rw [<- zbr hnb (Nat.le_refl _)]
      obtain ⟨gi,gb,gx,gy,gk,gp⟩:=Y5
      dsimp only at hi5
      subst hi5
      rfl
     refine Eq.trans kr3 ?_
     show some (Obj.cells _ _ _) = some (Obj.cells _ _ _)
     congr 2
     show ((nsV r.at_).take t ++ za3 Y5 ((zje.heap.getD 3 default).cs) ++ ((nsV r.at_).drop (t + 1) ++ q.pA)).toArray = _
     rw [e,set_at (by unfold nsV; rw [List.length_map]; exact ht)]
     show _ = (nsV (r.at_.set t (r.at_.getD t 0 + 1)) ++ _).toArray
     unfold nsV
     rw [List.map_set,hm]
    ·show (q.fs.set t _).length = (r.at_.set t _).length
     rw [List.length_set,List.length_set]; exact h.fl
    ·intro f hf'
     rcases List.mem_or_eq_of_mem_set hf' with h1 | rfl
     ·exact h.fc f h1
     ·exact ⟨rfl,zox⟩
    ·show (r.cl.set t _).length = (r.at_.set t _).length
     rw [List.length_set,List.length_set]; exact h.cl
    ·have hpre : (Y5.blks.getD 12 {}).pre = (r.steps ++ [a.step t r.mem]).flatMap Rp.Sp.cells:=by
      rw [hr5.aps 12 _ _ _ rfl rfl]
      have e1 : zd9 Y5 (some 4) = r.steps.flatMap Rp.Sp.cells:=by
       show (Y5.blks.getD 4 {}).pre = _
       rw [hk50 4 (by decide)]
       rfl
      rw [e1,List.flatMap_append]
      congr 1
      obtain ⟨gi,gb,gx,gy,gk,gp⟩:=Y5
      dsimp only at hi5 hbo5
      subst hi5 hbo5
      rfl
     have h5:=zbc (w:=w5) (t:=63) (size:=8) (q:=Y5.blks.getD 12 {}) kS rS.2.1 rS.2.2.2.1 rS.2.2.2.2.1 rS.2.2.2.2.2.1
     rw [hpre,show ((E.ad (.tn (.v 18)) (.lit 1)).den Y5).toNat = r.steps.length + 1 by show ((((Y5.ints.getD 18 0).toNat : Nat) : Int) + 1).toNat = _; rw [hi5]; show ((((r.steps.length : Int).toNat : Nat) : Int) + 1).toNat = _; omega] at h5
     show w5.ownsRow 0 _ 8 _ (r.steps ++ [a.step t r.mem]).length _
     rw [List.length_append]
     exact h5
    ·have hpre : (Y5.blks.getD 8 {}).pre = (r.calls ++ [(⟨t,0,0,r.steps.length, -1,0,0⟩ : Rc)]).flatMap Rc.cells:=by
      rw [hr5.aps 8 _ _ _ rfl rfl]
      have e1 : zd9 Y5 (some 5) = r.calls.flatMap Rc.cells:=by
       show (Y5.blks.getD 5 {}).pre = _
       rw [hk50 5 (by decide)]
       rfl
      rw [e1,List.flatMap_append]
      congr 1
      obtain ⟨gi,gb,gx,gy,gk,gp⟩:=Y5
      dsimp only at hi5 hbo5
      subst hi5 hbo5
      rfl
     have h5:=zbc (w:=w5) (t:=65) (size:=7) (q:=Y5.blks.getD 8 {}) kK rK.2.1 rK.2.2.2.1 rK.2.2.2.2.1 rK.2.2.2.2.2.1
     rw [hpre,show ((E.ad (.tn (.v 18)) (.lit 1)).den Y5).toNat = r.steps.length + 1 by show ((((Y5.ints.getD 18 0).toNat : Nat) : Int) + 1).toNat = _; rw [hi5]; show ((((r.steps.length : Int).toNat : Nat) : Int) + 1).toNat = _; omega] at h5
     show w5.ownsRow 0 _ 7 _ (r.calls ++ [_]).length _
     rw [List.length_append,hlen]
     exact h5
    ·rcases hg with rfl | rfl | rfl | rfl | hg | hg
     ·exact o0.2.2.2
     ·exact o1.2.2.2
     ·exact o2.2.2.2
     ·exact o3.2.2.2
     ·obtain rfl:=Option.some.inj hg
      exact oS.2.2.2
     ·obtain rfl:=Option.some.inj hg
      exact oK.2.2.2
    ·rcases hg with rfl | rfl | rfl | rfl | hg | hg
     ·exact ⟨o0.1,o0.2.1,o0.2.2.1⟩
     ·exact ⟨o1.1,o1.2.1,o1.2.2.1⟩
     ·exact ⟨o2.1,o2.2.1,o2.2.2.1⟩
     ·exact ⟨o3.1,o3.2.1,o3.2.2.1⟩
     ·obtain rfl:=Option.some.inj hg
      exact ⟨oS.1,oS.2.1,oS.2.2.1⟩
     ·obtain rfl:=Option.some.inj hg
      exact ⟨oK.1,oK.2.1,oK.2.2.1⟩
    ·obtain rfl:=Option.some.inj hg
     refine ⟨?_,fun e=>ndKS (Option.some.inj e)⟩
     simp only [List.mem_cons,List.not_mem_nil,or_false,not_or]
     exact ⟨Ne.symm nd0S,Ne.symm nd1S,Ne.symm nd2S,Ne.symm nd3S⟩
    ·obtain rfl:=Option.some.inj hg
     simp only [List.mem_cons,List.not_mem_nil,or_false,not_or]
     exact ⟨Ne.symm nd0K,Ne.symm nd1K,Ne.symm nd2K,Ne.symm nd3K⟩
    ·have b1:=hr'.chg.below (fun g hg=>(h.dis g (hours g hg)).2.2) h.bel.size
     have b2:=b1.trans (hb4.mono (Nat.le_trans h.bel.size hr'.chg.size))
     exact h.bel.trans (b2.trans (hc4.below (fun g hg=>(hou g hg).1) (Nat.le_trans h.bel.size hle)))
   refine zd8 (a:=zje) skEp_fits ?_
   have s1 : (zeh.env Y5).ints = [(t : Int),M'.2.1]:=by
    show [Y5.ints.getD 0 0,Y5.ints.getD 24 0] = _
    rw [hi5]
    rfl
   have s2 : (zeh.env Y5).bools = [M'.2.2]:=by
    show [Y5.bools.getD 0 false] = _
    rw [hbo5]
    rfl
   have s3 : (zeh.env Y5).xs.length = 188:=(za8 _).trans rfl
   have s4 : (zeh.env Y5).ys = []:=rfl
   have s5 : (zeh.env Y5).blks = [⟨q.gR,0,0,[],[],0,none⟩]:=by
    show [Y5.blks.getD 0 {}] = _
    rw [hk50 0 (by decide)]
    rfl
   have s6 : (zeh.env Y5).perms = []:=hp5
   generalize zeh.env Y5 = Ys at s1 s2 s3 s4 s5 s6
   obtain ⟨gi,gb,gx,gy,gk,gp⟩:=Ys
   dsimp only at s1 s2 s3 s4 s5 s6
   subst s1 s2 s4 s5 s6
   exact step_end (r:=r.begun t a) (a:=a) (q:=q') (rc:=⟨t,0,0,r.steps.length, -1,0,0⟩) (k':=r.calls.length) hmid hr5.there hM (by show t < (r.at_.set t _).length; rw [List.length_set]; exact ht) (List.getElem?_set_self htf) (List.getElem?_set_self htc) (by show (r.calls ++ [_])[r.calls.length]? = _; simp) rfl rfl s3 ⟨rfl,rfl,rfl,rfl⟩ (fun q2 w6 e1 e2 e3=>fin q2 w6 e1 e2 e3)
  refine zme (fr:=zfw.frs.headD default) (callers:=[]) (p:=skC_0_p) (k:=(zfw.frs.headD default).todo.tail) zei [5,10] [(5,zmm),(10,zml)] rfl skC_0_code rfl skC_0_ok hr ⟨?_,?_,trivial⟩
  ·exact zbm (k:=(zfw.frs.headD default).todo.tail) 900 (fun Y'=>(za3 Y' zg4).toArray) (.tup [.agg [.int .u64 (.v 20),.int .u64 (.v 21),.y 29,.y 30,.int .u64 (.v 22),.int .u64 (.v 23),.y 31,.y 32,.y 33],.int .u64 (.v 24),.bool (.v 0)]) skDa1_grp skDa2_grp (zcg [5] [] _) skDa_at skDa_kdi skDa_gd skDa_set (fun Y' w hx=>zbs skDa_call skDa_fresh Y' w) hr (L:=⟨20,0,0,29,10⟩) (by rw [hL]; rfl) (by kernel_rfl) rfl (Post:=fun _=>Post) (fun Y' w1 hx' hr'=>HJ Y' w1 hx' hr'.chg hr'.there) (fun Y' w1 hx' hr'=>HB _ 10 Y' w1 rfl (by decide) (by kernel_rfl) hx' hr') (fun Y' w1 s' ch w' hp=>by obtain ⟨_,_,_,e,_⟩:=hp; cases e)
  ·exact zbm (k:=(zfw.frs.headD default).todo.tail) 900 (fun Y'=>(za3 Y' zkn).toArray) (.tup [.agg [.int .u64 (.v 20),.int .u64 (.v 21),.y 29,.y 30,.int .u64 (.v 22),.int .u64 (.v 23),.y 31,.y 32,.y 33],.int .u64 (.v 24),.bool (.v 0)]) skDb1_grp skDb2_grp (zcg [5] [] _) skDb_at skDb_kdi skDb_gd skDb_set (fun Y' w hx=>zbs skDb_call skDb_fresh Y' w) hr (L:=⟨20,0,0,29,11⟩) (by rw [hL]; rfl) (by kernel_rfl) rfl (Post:=fun _=>Post) (fun Y' w1 hx' hr'=>HJ Y' w1 hx' hr'.chg hr'.there) (fun Y' w1 hx' hr'=>HB _ 11 Y' w1 rfl (by decide) (by kernel_rfl) hx' hr') (fun Y' w1 s' ch w' hp=>by obtain ⟨_,_,_,e,_⟩:=hp; cases e)
 refine zme (fr:=zfx.frs.headD default) (callers:=[]) (p:=skA_0_p) (k:=(zfx.frs.headD default).todo.tail) zej [11,12] [(11,zmo),(12,zmn)] rfl skA_0_code rfl skA_0_ok hr ⟨?_,?_,trivial⟩
 ·exact zbm (k:=(zfx.frs.headD default).todo.tail) 900 (fun Y'=>(za3 Y' zg5).toArray) (.agg [.int .i64 (.v 1),.int .i64 (.v 2),.int .i64 (.v 3),.int .u64 (.v 4),.int .u64 (.v 5)]) skBa1_grp skBa2_grp (zcg [11] [] _) skBa_at skBa_kdi skBa_gd skBa_set (fun Y' w hx=>zbs skBa_call skBa_fresh Y' w) hr (L:=⟨20,0,0,29,9⟩) (by rw [hL]; rfl) (by kernel_rfl) rfl (Post:=fun _=>Post) (fun Y' w1 hx' hr'=>HJ Y' w1 hx' hr'.chg hr'.there) (fun Y' w1 hx' hr'=>HB _ 9 Y' w1 rfl (by decide) (by kernel_rfl) hx' hr') (fun Y' w1 s' ch w' hp=>by obtain ⟨_,_,e⟩:=hp; cases e)
 ·exact zbm (k:=(zfx.frs.headD default).todo.tail) 900 (fun Y'=>(za3 Y' zko).toArray) (.agg [.int .i64 (.v 1),.int .i64 (.v 2),.int .i64 (.v 3),.int .u64 (.v 4),.int .u64 (.v 5)]) skBb1_grp skBb2_grp (zcg [11] [] _) skBb_at skBb_kdi skBb_gd skBb_set (fun Y' w hx=>zbs skBb_call skBb_fresh Y' w) hr (L:=⟨20,0,0,29,10⟩) (by rw [hL]; rfl) (by kernel_rfl) rfl (Post:=fun _=>Post) (fun Y' w1 hx' hr'=>HJ Y' w1 hx' hr'.chg hr'.there) (fun Y' w1 hx' hr'=>HB _ 10 Y' w1 rfl (by decide) (by kernel_rfl) hx' hr') (fun Y' w1 s' ch w' hp=>by obtain ⟨_,_,e⟩:=hp; cases e)
end
end
section
section
variable {γ : Type} {X : zad γ} {s : γ} {w : World}
theorem step_n {W : World} {k K T Mn : Int} {r : R3} {q : Q3} {t : Nat} {a : Ac} (h : zkd X W s w k K T Mn r q) (hM : IntKind.u64.wrap Mn ≠ 0) (ht : t < r.at_.length) (hcl : r.cl[t]? = some (-1)) (hnb : r.at_.getD t 0 < maxLen) (hlen : r.calls.length = r.steps.length) (hsm : r.steps.length < 1000000)
  (eS : q.vS = .slice none 0 0) (eK : q.vC = .slice none 0 0) (hs0 : r.steps = []) (hc0 : r.calls = []) :
  Jdo Try.prog X 33 #[.pointer (some ⟨q.gR,0,none⟩),.int .i64 t,.agg (f99 99 0 a).toArray,.int .i64 0,.int .u32 0,.bool true] s w (fun s' res w'=>s' = s /\ res = .back (.bool true) /\ ∃ q',q'.gR = q.gR /\ zkd X W s w' k K T Mn (r.does t a) q'):=by
 have hmem:=h.mem
 obtain ⟨v2,v3,v6,v7,v8,hcE,u2,u3,u6,u7,u8⟩:=h.mem
 have hR:=h.R
 unfold r3V at hR
 rw [hcE,eS,eK] at hR
 have htf : t < q.fs.length:=by rw [h.fl]; exact ht
 have htc : t < r.cl.length:=by rw [h.cl]; exact ht
 have hff:=List.getElem?_eq_getElem htf
 have hfc:=h.fc q.fs[t] (List.getElem_mem htf)
 generalize q.fs[t] = f0 at hff hfc
 obtain ⟨hf24,hf1⟩:=hfc
 obtain ⟨a0,a1,a2,a3,a4,a5,a6,a7,a8,a9,a10,a11,a12,a13,a14,a15,a16,a17,a18,a19,a20,a21,a22,a23,rfl⟩:=len24 hf24
 have hO:=h.O
 rw [zou hff] at hO
 have hcv : (isV r.cl)[t]? = some (.int .i64 (-1)):=by unfold isV; rw [List.getElem?_map,hcl]; rfl
 have hC:=h.C
 rw [zhn hcv] at hC
 have hm0 : r.at_[t]? = some (r.at_.getD t 0):=by rw [List.getD_eq_getElem?_getD,List.getElem?_eq_getElem ht]; rfl
 have hav : (nsV r.at_)[t]? = some (.int .i64 ((r.at_.getD t 0 : Nat) : Int)):=by unfold nsV; rw [List.getElem?_map,hm0]; rfl
 have hA:=h.A
 rw [zhn hav] at hA
 obtain ⟨m,hm⟩ : ∃ m,m = r.at_.getD t 0:=⟨_,rfl⟩
 rw [<- hm] at hA hnb
 have hfl : (q.fs.take t).flatten.length = t * 24:=by
  rw [fl_len fun f hf=>(h.fc f (List.mem_of_mem_take hf)).1,List.length_take]
  congr 1
  omega
 have hil : ((isV r.cl).take t).length = t:=by rw [List.length_take]; unfold isV; rw [List.length_map]; omega
 have hal : ((nsV r.at_).take t).length = t:=by rw [List.length_take]; unfold nsV; rw [List.length_map]; omega
 have dR:=h.dis q.gR (.inl rfl)
 have dO:=h.dis q.gO (.inr (.inl rfl))
 have dC:=h.dis q.gC (.inr (.inr (.inl rfl)))
 have dA:=h.dis q.gA (.inr (.inr (.inr (.inl rfl))))
 obtain ⟨n1,n2,n3⟩:=h.ne
 simp only [List.nodup_cons,List.mem_cons,List.not_mem_nil,or_false,not_or,not_false_eq_true,List.nodup_nil,and_true] at n1
 obtain ⟨⟨nRO,nRC,nRA⟩,⟨nOC,nOA⟩,nCA⟩:=n1
 let Y : Env:={ ints:=[(t : Int),a.d,a.ar,a.at_,a.old,a.new,k,K,T,Mn,r.mem.e,r.mem.f,r.mem.h,r.mem.t,(r.at_.length : Int),(q.cO : Int),(q.cC : Int),(q.cA : Int),(r.steps.length : Int),(m : Int)],ys:=[v2,v3,v6,v7,v8,a0,a1,a2,a3,a4,a5,a6,a7,a8,a9,a10,a11,a12,a13,a14,a15,a16,a17,a18,a19,a20,a21,a22,a23],blks:=[⟨q.gR,0,0,[],[],0,none⟩,⟨q.gO,0,t * 24,(q.fs.take t).flatten,(q.fs.drop (t + 1)).flatten ++ q.pO,0,none⟩,⟨q.gC,0,t,(isV r.cl).take t,(isV r.cl).drop (t + 1) ++ q.pC,0,none⟩,⟨q.gA,0,t,(nsV r.at_).take t,(nsV r.at_).drop (t + 1) ++ q.pA,0,none⟩] }
 refine zbt (Y:=Y) st_fresh rfl fun Stop c cs hth hback _=>?_
 have hr : Rep X s (ours Y zg3.heap) w Y zg3.heap zg3.facts 0 w:=by
  refine Rep.start hth (fun v hv=>?_) rfl ⟨⟨dR.2.1,zcc rfl ⟨dR.1,rfl,?_⟩,⟨rfl,rfl⟩,trivial,rfl⟩,⟨dO.2.1,zcc rfl ⟨dO.1,hfl.symm,hO⟩,⟨(Nat.zero_add _).symm,rfl⟩,trivial,rfl⟩,⟨dC.2.1,zcc rfl ⟨dC.1,hil.symm,hC⟩,⟨?_,rfl⟩,trivial,rfl⟩,⟨dA.2.1,zcc rfl ⟨dA.1,hal.symm,hA⟩,⟨?_,rfl⟩,trivial,rfl⟩,trivial⟩
   ⟨⟨(fun _=>nRO),(fun _=>nRC),(fun _=>nRA),trivial⟩,⟨(fun _=>nOC),(fun _=>nOA),trivial⟩,⟨(fun _=>nCA),trivial⟩,trivial,trivial⟩ (za5 ⟨?_,?_,trivial⟩) rfl
  ·have hv : v ∈ [v2,v3,v6,v7,v8] ++ [a0,a1,a2,a3,a4,a5,a6,a7,a8,a9,a10,a11,a12,a13,a14,a15,a16,a17,a18,a19,a20,a21,a22,a23]:=hv
   rcases List.mem_append.1 hv with hv | hv
   ·exact zb9 (l:=[v2,v3,v6,v7,v8]) ⟨za2 u2,za2 u3,za2 u6,za2 u7,za2 u8,trivial⟩ v hv
   ·exact hf1 v hv
  ·exact hR
  ·show t = 0 + (t : Int).toNat * 1
   simp
  ·show t = 0 + (t : Int).toNat * 1
   simp
  ·exact decide_eq_true (by show (0 : Int) <= (t : Int); omega)
  ·exact decide_eq_true (by show (t : Int) < ((r.at_.length : Int).toNat : Int); omega)
 have hours : ∀ g,ours Y zg3.heap g -> q.mine g:=zbz ⟨fun _=>.inl rfl,fun _=>.inr (.inl rfl),fun _=>.inr (.inr (.inl rfl)),fun _=>.inr (.inr (.inr (.inl rfl))),trivial⟩
 have fin : ∀ q' w',q'.gR = q.gR -> zkd X W s w' k K T Mn (r.does t a) q' -> X.there s w' -> Jay.Reach Try.prog X Stop s (c.finish (.bool true)) cs w':=fun q' w' e1 e2 e3=>hback s _ w' ⟨rfl,rfl,q',e1,e2⟩ e3
 refine zaa 900 snA_run hr ⟨fun Y1 w1 hx1 hr1=>?_,trivial⟩
 have hb1 : Y1.blks.length = 7:=hr1.len
 show Fr.reach _ X Stop s (c :: cs) Y1 [zfv.frs.headD default] w1
 let A0 : List Value:=[.int .i64 a.d,.int .i64 a.ar,.int .i64 a.at_,.int .u64 a.old,.int .u64 a.new]
 have hr:=hr1
 have hL : Y1.lens = ⟨20,0,0,29,7⟩:=by simp only [Env.lens,hx1.ints,hx1.bools,hx1.xs,hx1.ys,hb1]; rfl
 let Post : World -> γ -> zf9 -> World -> Prop:=fun w1 s' r w'=>s' = s /\ Below w1.heap.size w1 w' /\ r = .back (.agg (acc a.d a.ar a.at_ a.old a.new))
 have HJ : ∀ (Y' : Env) (w' : World),Ext Y1 Y' -> Chg (ours Y zg3.heap) w w' -> X.there s w' -> Jdo Try.prog X 42 (za3 Y' zg2).toArray s w' (Post w'):=by
  intro Y' w' hx' _ _
  have:=ask99 (X:=X) (s:=s) (w:=w') (k:=k) (K:=K) (T:=T) a hM
  rwa [show (za3 Y' zg2).toArray = #[cfg k K T Mn,.agg (f99 99 0 a).toArray] by
   have e : Y'.ints = Y.ints:=hx'.ints.trans hx1.ints
   obtain ⟨gi,gb,gx,gy,gk,gp⟩:=Y'
   dsimp only at e
   subst e
   rfl]
 have HB : ∀ (h1' : List HB) (n : Nat) (Y' : Env) (w' : World),h1'.length = n -> 7 <= n -> zdn ⟨20,0,0,29,n⟩ h1' = true -> Ext Y1 Y' -> Rep X s (ours Y zg3.heap) w Y' h1' zfv.facts 0 w' -> ∀ s' v w'',Post w' s' (.back v) w'' -> X.there s' w'' -> ∃ (S' : Nat -> Prop) (w₁ : World) (ai : List Int) (ab : List Bool) (ax ay : List Value),v = SV.den (Y'.grow ai ab ax ay []) (.agg [.int .i64 (.v 1),.int .i64 (.v 2),.int .i64 (.v 3),.int .u64 (.v 4),.int .u64 (.v 5)]) /\ Rep X s' S' w₁ (Y'.grow ai ab ax ay []) h1' zfv.facts 0 w'' /\ ∀ Y'' w3,Ext (Y'.grow ai ab ax ay []) Y'' -> Rep X s' S' w₁ Y'' snC_in.heap snC_in.facts 0 w3 -> Fr.reach Try.prog X Stop s' (c :: cs) Y'' snC_in.frs w3:=by
  intro h1' n Y' w' hn hn3 hok hx' hr' s' v w'' hp' ht2
  obtain ⟨rfl,hb2,ev⟩:=hp'
  cases ev
  have hlb' : Y'.blks.length = n:=hr'.len.trans hn
  have hi' : Y'.ints = Y.ints:=hx'.ints.trans hx1.ints
  have hL' : Y'.lens = ⟨20,0,0,29,n⟩:=by
   simp only [Env.lens,hi',hx'.bools,hx'.xs,hx'.ys,hx1.bools,hx1.xs,hx1.ys,hlb']
   rfl
  have hg : Y'.grow [] [] [] [] [] = Y':=by simp [Env.grow]
  refine ⟨ours Y zg3.heap,w,[],[],[],[],?_,(hr'.below hb2).grow_ hL' hok rfl _ _ _ _ (fun v hv=>by cases hv),fun Y2 w2 hx2 hr2=>?_⟩
  ·rw [hg]
   obtain ⟨gi,gb,gx,gy,gk,gp⟩:=Y'
   dsimp only at hi'
   subst hi'
   rfl
  rw [hg] at hx2
  have hk2 : ∀ i,i < 7 -> Y2.blks.getD i {} = Y1.blks.getD i {}:=fun i hi=>by rw [hx2.blk (by omega),hx'.blk (by omega)]
  have hi2 : Y2.ints = Y.ints:=hx2.ints.trans hi'
  have hy2 : Y2.ys = Y.ys:=hx2.ys.trans (hx'.ys.trans hx1.ys)
  have hbo2 : Y2.bools = []:=hx2.bools.trans (hx'.bools.trans hx1.bools)
  have hxs2 : Y2.xs = []:=hx2.xs.trans (hx'.xs.trans hx1.xs)
  refine zaa 900 snC_run hr2 ⟨fun Y3 w3 hx3 hr3=>?_,trivial⟩
  have hb3 : Y3.blks.length = 8:=hr3.len
  have hb2l : Y2.blks.length = 8:=hr2.len
  have hi3 : Y3.ints = Y.ints:=hx3.ints.trans hi2
  have hy3 : Y3.ys = Y.ys:=hx3.ys.trans hy2
  have hbo3 : Y3.bools = []:=hx3.bools.trans hbo2
  have hxs3 : Y3.xs = []:=hx3.xs.trans hxs2
  have hk3 : ∀ i,i < 7 -> Y3.blks.getD i {} = Y1.blks.getD i {}:=fun i hi=>by rw [hx3.blk (by omega),hk2 i hi]
  show Fr.reach _ X Stop s' (c :: cs) Y3 [zfu.frs.headD default] w3
  have hr:=hr3
  have hL : Y3.lens = ⟨20,0,0,29,8⟩:=by simp only [Env.lens,hi3,hbo3,hxs3,hy3,hb3]; rfl
  let M':=r.mem.act a.d a.ar a.at_ a.old a.new
  let Post : World -> γ -> zf9 -> World -> Prop:=fun w1=>DoPost s' w1 q.cE M'.1 M'.2.1 M'.2.2
  have memAt : ∀ w',Chg (ours Y zg3.heap) w w' -> zbb w' w'.heap.size r.mem q.cE:=fun w' hc=>(zbb.chg hmem (Nat.le_refl _) hc fun g hg=>h.off g (hours g hg)).more hc.size
  have HJ : ∀ (Y' : Env) (w' : World),Ext Y3 Y' -> Chg (ours Y zg3.heap) w w' -> X.there s' w' -> Jdo Try.prog X 27 (za3 Y' zg1).toArray s' w' (Post w'):=by
   intro Y' w' hx' hc' _
   have:=rdo (X:=X) (s:=s') (w:=w') (d:=a.d) (ar:=a.ar) (at_:=a.at_) (old:=a.old) (new:=a.new) (memAt w' hc') (Nat.le_refl _) h.small
   rwa [show (za3 Y' zg1).toArray = #[.agg q.cE,.agg (acc a.d a.ar a.at_ a.old a.new)] by
    have e : Y'.ints = Y.ints:=hx'.ints.trans hi3
    have e2 : Y'.ys = Y.ys:=hx'.ys.trans hy3
    rw [hcE]
    obtain ⟨gi,gb,gx,gy,gk,gp⟩:=Y'
    dsimp only at e e2
    subst e e2
    rfl]
  have HB : ∀ (h1' : List HB) (n : Nat) (Y' : Env) (w' : World),h1'.length = n -> 8 <= n -> zdn ⟨20,0,0,29,n⟩ h1' = true -> Ext Y3 Y' -> Rep X s' (ours Y zg3.heap) w Y' h1' zfu.facts 0 w' -> ∀ s'' v w'',Post w' s'' (.back v) w'' -> X.there s'' w'' -> ∃ (S' : Nat -> Prop) (w₁ : World) (ai : List Int) (ab : List Bool) (ax ay : List Value),v = SV.den (Y'.grow ai ab ax ay []) (.tup [.agg [.int .u64 (.v 20),.int .u64 (.v 21),.y 29,.y 30,.int .u64 (.v 22),.int .u64 (.v 23),.y 31,.y 32,.y 33],.int .u64 (.v 24),.bool (.v 0)]) /\ Rep X s'' S' w₁ (Y'.grow ai ab ax ay []) h1' zfu.facts 0 w'' /\ ∀ Y'' w3,Ext (Y'.grow ai ab ax ay []) Y'' -> Rep X s'' S' w₁ Y'' snE_in.heap snE_in.facts 0 w3 -> Fr.reach Try.prog X Stop s'' (c :: cs) Y'' snE_in.frs w3:=by
   intro h1' n Y' w' hn hn3 hok hx' hr' s'' v w'' hp' ht2
   obtain ⟨rfl,hb4,cs',ev,hm',hfar⟩:=hp'
   cases ev
   obtain ⟨z2,z3,z6,z7,z8,hcs,hzs⟩:=ze2 hm'
   have hlb' : Y'.blks.length = n:=hr'.len.trans hn
   have hi' : Y'.ints = Y.ints:=hx'.ints.trans hi3
   have hy' : Y'.ys = Y.ys:=hx'.ys.trans hy3
   have hbo' : Y'.bools = []:=hx'.bools.trans hbo3
   have hxs' : Y'.xs = []:=hx'.xs.trans hxs3
   have hL' : Y'.lens = ⟨20,0,0,29,n⟩:=by
    simp only [Env.lens,hi',hbo',hxs',hy',hlb']
    rfl
   have hgi : (Y'.grow [M'.1.e,M'.1.f,M'.1.h,M'.1.t,M'.2.1] [M'.2.2] [] [z2,z3,z6,z7,z8] []).ints = Y.ints ++ [M'.1.e,M'.1.f,M'.1.h,M'.1.t,M'.2.1]:=by simp only [Env.grow,hi']
   have hgb : (Y'.grow [M'.1.e,M'.1.f,M'.1.h,M'.1.t,M'.2.1] [M'.2.2] [] [z2,z3,z6,z7,z8] []).bools = [M'.2.2]:=by simp only [Env.grow,hbo',List.nil_append]
   have hgy : (Y'.grow [M'.1.e,M'.1.f,M'.1.h,M'.1.t,M'.2.1] [M'.2.2] [] [z2,z3,z6,z7,z8] []).ys = Y.ys ++ [z2,z3,z6,z7,z8]:=by simp only [Env.grow,hy']
   have hgk : (Y'.grow [M'.1.e,M'.1.f,M'.1.h,M'.1.t,M'.2.1] [M'.2.2] [] [z2,z3,z6,z7,z8] []).blks = Y'.blks:=by simp only [Env.grow,List.append_nil]
   have hrg:=((hr'.below hb4).grow_ hL' hok rfl [M'.1.e,M'.1.f,M'.1.h,M'.1.t,M'.2.1] [M'.2.2] [] [z2,z3,z6,z7,z8] (zb9 hzs)).rebase
   generalize hYg : Y'.grow _ _ _ _ _ = Yg at hgi hgb hgy hgk hrg
   have hou : ∀ g,ours Yg h1' g -> W.heap.size <= g /\ Off g cs':=fun g hg=>by
    obtain ⟨i,x,hx,hw,rfl⟩:=hg
    rw [hgk]
    have hlt : (Y'.blks.getD i {}).g < w'.heap.size:=hr'.bnd i (List.getElem?_eq_some_iff.1 hx).1
    rcases hr'.inS i x hx hw with h1 | h1
    ·exact ⟨(h.dis _ (hours _ h1)).2.2,hfar _ hlt (h.off _ (hours _ h1))⟩
    ·exact ⟨Nat.le_trans h.bel.size h1,hfar _ hlt (zbd hmem h1)⟩
   refine ⟨ours Yg h1',w'',[M'.1.e,M'.1.f,M'.1.h,M'.1.t,M'.2.1],[M'.2.2],[],[z2,z3,z6,z7,z8],?_,by rw [hYg]; exact hrg,fun Y4 w4 hx4 hr4=>?_⟩
   ·rw [hYg,hcs]
    obtain ⟨gi,gb,gx,gy,gk,gp⟩:=Yg
    dsimp only at hgi hgb hgy
    subst hgi hgb hgy
    rfl
   rw [hYg] at hx4
   have hb4l : Y4.blks.length = 9:=hr4.len
   have hk4 : ∀ i,i < 7 -> Y4.blks.getD i {} = Y1.blks.getD i {}:=fun i hi=>by rw [hx4.blk (by rw [hgk]; omega),hgk,hx'.blk (by omega),hk3 i hi]
   refine zaa 900 snE_run hr4 ⟨fun Y5 w5 hx5 hr5=>?_,trivial⟩
   have hb5l : Y5.blks.length = 11:=hr5.len
   have hi5 : Y5.ints = Y.ints ++ [M'.1.e,M'.1.f,M'.1.h,M'.1.t,M'.2.1]:=hx5.ints.trans (hx4.ints.trans hgi)
   have hy5 : Y5.ys = Y.ys ++ [z2,z3,z6,z7,z8]:=hx5.ys.trans (hx4.ys.trans hgy)
   have hbo5 : Y5.bools = [M'.2.2]:=hx5.bools.trans (hx4.bools.trans hgb)
   have hk5 : ∀ i,i < 7 -> Y5.blks.getD i {} = Y1.blks.getD i {}:=fun i hi=>by rw [hx5.blk (by omega),hk4 i hi]
   have hk50 : ∀ i,i < 4 -> Y5.blks.getD i {} = Y.blks.getD i {}:=fun i hi=>by rw [hk5 i (by omega),hx1.blk (by show i < 4; exact hi)]
   have hp5 : Y5.perms = []:=zae hr5
   have hc4:=hr5.chg
   have hle : w.heap.size <= w''.heap.size:=Nat.le_trans hr'.chg.size hb4.size
   have hm5 : zbb w5 w5.heap.size M'.1 cs':=(zbb.chg hm' (Nat.le_refl _) hc4 fun g hg=>(hou g hg).2).more hc4.size
   have hsm5 : M'.1.small:=zho h.small _ _ _ _ _
   have kr0:=(hr5.rep.blk 0 _ rfl rfl).2
   have kr1:=(hr5.rep.blk 1 _ rfl rfl).2
   have kr2:=(hr5.rep.blk 2 _ rfl rfl).2
   have kr3:=(hr5.rep.blk 3 _ rfl rfl).2
   rw [hk50 0 (by decide)] at kr0
   rw [hk50 1 (by decide)] at kr1
   rw [hk50 2 (by decide)] at kr2
   rw [hk50 3 (by decide)] at kr3
   have rK:=hr5.rep.row 6 _ _ _ _ rfl rfl
   have kK:=(hr5.rep.blk 6 _ rfl rfl).2
   have rS:=hr5.rep.row 10 _ _ _ _ rfl rfl
   have kS:=(hr5.rep.blk 10 _ rfl rfl).2
   have eK' : SV.den Y5 (.sl (.blk 6) (.lit 1) (.of 6 7)) = .slice (some ⟨(Y5.blks.getD 6 {}).g,0,none⟩) (r.steps.length + 1) (Y5.blks.getD 6 {}).cap:=by
    refine (zas rfl rK.2.2.2.2.2.2).trans ?_
    rw [rK.1]
    congr 1
    rw [show ((E.lit 1).den Y5).toNat = r.steps.length + 1 by rw [hs0]; rfl]
   have eS' : SV.den Y5 (.sl (.blk 10) (.lit 1) (.of 10 8)) = .slice (some ⟨(Y5.blks.getD 10 {}).g,0,none⟩) (r.steps.length + 1) (Y5.blks.getD 10 {}).cap:=by
    refine (zas rfl rS.2.2.2.2.2.2).trans ?_
    rw [rS.1]
    congr 1
    rw [show ((E.lit 1).den Y5).toNat = r.steps.length + 1 by rw [hs0]; rfl]
   let q' : Q3:={ q with vS:=.slice (some ⟨(Y5.blks.getD 10 {}).g,0,none⟩) (r.steps.length + 1) (Y5.blks.getD 10 {}).cap,vC:=.slice (some ⟨(Y5.blks.getD 6 {}).g,0,none⟩) (r.steps.length + 1) (Y5.blks.getD 6 {}).cap,cE:=cs',fs:=q.fs.set t (f99 99 0 a) }
   have offN : ∀ i x,zjd.heap[i]? = some x -> x.wr = true -> ¬ X.oth s'' (Y5.blks.getD i {}).g /\ (Y5.blks.getD i {}).g < w5.heap.size /\ W.heap.size <= (Y5.blks.getD i {}).g /\ Off (Y5.blks.getD i {}).g cs':=fun i x hx hw=>by
    refine ⟨hr5.own i x hx hw,hr5.bnd i (List.getElem?_eq_some_iff.1 hx).1,?_⟩
    rcases hr5.inS i x hx hw with h1 | h1
    ·exact hou _ h1
    ·exact ⟨Nat.le_trans h.bel.size (Nat.le_trans hle h1),zbd hm' h1⟩
   have o0:=offN 0 _ rfl rfl
   have o1:=offN 1 _ rfl rfl
   have o2:=offN 2 _ rfl rfl
   have o3:=offN 3 _ rfl rfl
   have oK:=offN 6 _ rfl rfl
   have oS:=offN 10 _ rfl rfl
   rw [hk50 0 (by decide)] at o0
   rw [hk50 1 (by decide)] at o1
   rw [hk50 2 (by decide)] at o2
   rw [hk50 3 (by decide)] at o3
   have nd0K:=hr5.nd 0 6 _ _ rfl rfl rfl rfl (by decide)
   have nd1K:=hr5.nd 1 6 _ _ rfl rfl rfl rfl (by decide)
   have nd2K:=hr5.nd 2 6 _ _ rfl rfl rfl rfl (by decide)
   have nd3K:=hr5.nd 3 6 _ _ rfl rfl rfl rfl (by decide)
   have nd0S:=hr5.nd 0 10 _ _ rfl rfl rfl rfl (by decide)
   have nd1S:=hr5.nd 1 10 _ _ rfl rfl rfl rfl (by decide)
   have nd2S:=hr5.nd 2 10 _ _ rfl rfl rfl rfl (by decide)
   have nd3S:=hr5.nd 3 10 _ _ rfl rfl rfl rfl (by decide)
   have ndKS:=hr5.nd 6 10 _ _ rfl rfl rfl rfl (by decide)
   rw [hk50 0 (by decide)] at nd0K nd0S
   rw [hk50 1 (by decide)] at nd1K nd1S
   rw [hk50 2 (by decide)] at nd2K nd2S
   rw [hk50 3 (by decide)] at nd3K nd3S
   have hmid : zkd X W s'' w5 k K T Mn (r.begun t a) q':=by
    refine ⟨?_,?_,?_,?_,?_,?_,?_,?_,?_,hm5,hsm5,fun g hg=>?_,fun g hg=>?_,⟨h.ne.1,fun g hg=>?_,fun g hg=>?_⟩,?_,.inr ⟨_,_,_,_,_,_,rfl,rfl⟩,fun g hg=>hfar g (Nat.lt_of_lt_of_le hg (Nat.le_trans h.bel.size hr'.chg.size)) (h.far g hg)⟩
    ·have e : za3 Y5 ((zjd.heap.headD default).cs) = r3V k K T Mn (r.begun t a).at_.length q':=by
      have x1:=hk50 1 (by decide)
      have x2:=hk50 2 (by decide)
      have x3:=hk50 3 (by decide)
      unfold r3V
      show [Value.int .i64 (Y5.ints.getD 6 0),.int .i64 (Y5.ints.getD 7 0),.int .i64 (Y5.ints.getD 8 0),.int .i64 (Y5.ints.getD 9 0),.int .u64 (Y5.ints.getD 20 0),.int .u64 (Y5.ints.getD 21 0),Y5.ys.getD 29 .nilFunc,Y5.ys.getD 30 .nilFunc,.int .u64 (Y5.ints.getD 22 0),.int .u64 (Y5.ints.getD 23 0),Y5.ys.getD 31 .nilFunc,Y5.ys.getD 32 .nilFunc,Y5.ys.getD 33 .nilFunc,.slice (Y5.blks.getD 1 {}).adr (Y5.ints.getD 14 0).toNat (Y5.ints.getD 15 0).toNat,.slice (Y5.blks.getD 2 {}).adr (Y5.ints.getD 14 0).toNat (Y5.ints.getD 16 0).toNat,.slice (Y5.blks.getD 3 {}).adr (Y5.ints.getD 14 0).toNat (Y5.ints.getD 17 0).toNat,SV.den Y5 (.sl (.blk 10) (.lit 1) (.of 10 8)),SV.den Y5 (.sl (.blk 6) (.lit 1) (.of 6 7)),.int .u64 0,.int .u64 0,.slice none 0 0,.slice none 0 0,.int .u64 0,.int .u64 0,.slice none 0 0,.slice none 0 0,.slice none 0 0] = _
      rw [eS',eK',x1,x2,x3,hi5,hy5,show (r.begun t a).at_.length = r.at_.length from List.length_set,show q'.cE = cs' from rfl,hcs]
      rfl
     refine Eq.trans kr0 ?_
     show some (Obj.cells _ _ _) = some (Obj.cells _ _ _)
     congr 2
     show ([] ++ za3 Y5 ((zjd.heap.headD default).cs) ++ []).toArray = _
     rw [List.nil_append,List.append_nil,e]
    ·have e : za3 Y5 ((zjd.heap.getD 1 default).cs) = f99 99 0 a:=by
      obtain ⟨gi,gb,gx,gy,gk,gp⟩:=Y5
      dsimp only at hi5
      subst hi5
      rfl
     refine Eq.trans kr1 ?_
     show some (Obj.cells _ _ _) = some (Obj.cells _ _ _)
     congr 2
     show ((q.fs.take t).flatten ++ za3 Y5 ((zjd.heap.getD 1 default).cs) ++ ((q.fs.drop (t + 1)).flatten ++ q.pO)).toArray = _
     rw [e,fl_set htf]
    ·have e : za3 Y5 ((zjd.heap.getD 2 default).cs) = [.int .i64 (r.calls.length : Int)]:=by
      rw [hc0]
      obtain ⟨gi,gb,gx,gy,gk,gp⟩:=Y5
      dsimp only at hi5
      subst hi5
      rfl
     refine Eq.trans kr2 ?_
     show some (Obj.cells _ _ _) = some (Obj.cells _ _ _)
     congr 2
     show ((isV r.cl).take t ++ za3 Y5 ((zjd.heap.getD 2 default).cs) ++ ((isV r.cl).drop (t + 1) ++ q.pC)).toArray = _
     rw [e,set_at (by unfold isV; rw [List.length_map]; exact htc)]
     show _ = (isV (r.cl.set t (r.calls.length : Int)) ++ _).toArray
     unfold isV
     rw [List.map_set]
    ·have e : za3 Y5 ((zjd.heap.getD 3 default).cs) = [.int .i64 ((m + 1 : Nat) : Int)]:=by
      rw [<- zbr hnb (Nat.le_refl _)]
      obtain ⟨gi,gb,gx,gy,gk,gp⟩:=Y5
      dsimp only at hi5
      subst hi5
      rfl
     refine Eq.trans kr3 ?_
     show some (Obj.cells _ _ _) = some (Obj.cells _ _ _)
     congr 2
     show ((nsV r.at_).take t ++ za3 Y5 ((zjd.heap.getD 3 default).cs) ++ ((nsV r.at_).drop (t + 1) ++ q.pA)).toArray = _
     rw [e,set_at (by unfold nsV; rw [List.length_map]; exact ht)]
     show _ = (nsV (r.at_.set t (r.at_.getD t 0 + 1)) ++ _).toArray
     unfold nsV
     rw [List.map_set,hm]
    ·show (q.fs.set t _).length = (r.at_.set t _).length
     rw [List.length_set,List.length_set]; exact h.fl
    ·intro f hf'
     rcases List.mem_or_eq_of_mem_set hf' with h1 | rfl
     ·exact h.fc f h1
     ·exact ⟨rfl,zox⟩
    ·show (r.cl.set t _).length = (r.at_.set t _).length
     rw [List.length_set,List.length_set]; exact h.cl
    ·have hpre : (Y5.blks.getD 10 {}).pre = (r.steps ++ [a.step t r.mem]).flatMap Rp.Sp.cells:=by
      rw [hr5.aps 10 _ _ _ rfl rfl]
      have e1 : zd9 Y5 none = r.steps.flatMap Rp.Sp.cells:=by
       rw [hs0]
       rfl
      rw [e1,List.flatMap_append]
      congr 1
      obtain ⟨gi,gb,gx,gy,gk,gp⟩:=Y5
      dsimp only at hi5 hbo5
      subst hi5 hbo5
      rfl
     have h5:=zbc (w:=w5) (t:=63) (size:=8) (q:=Y5.blks.getD 10 {}) kS rS.2.1 rS.2.2.2.1 rS.2.2.2.2.1 rS.2.2.2.2.2.1
     rw [hpre,show ((E.lit 1).den Y5).toNat = r.steps.length + 1 by rw [hs0]; rfl] at h5
     show w5.ownsRow 0 _ 8 _ (r.steps ++ [a.step t r.mem]).length _
     rw [List.length_append]
     exact h5
    ·have hpre : (Y5.blks.getD 6 {}).pre = (r.calls ++ [(⟨t,0,0,r.steps.length, -1,0,0⟩ : Rc)]).flatMap Rc.cells:=by
      rw [hr5.aps 6 _ _ _ rfl rfl]
      have e1 : zd9 Y5 none = r.calls.flatMap Rc.cells:=by
       rw [hc0]
       rfl
      rw [e1,List.flatMap_append]
      congr 1
      rw [hs0]
      obtain ⟨gi,gb,gx,gy,gk,gp⟩:=Y5
      dsimp only at hi5 hbo5
      subst hi5 hbo5
      rfl
     have h5:=zbc (w:=w5) (t:=65) (size:=7) (q:=Y5.blks.getD 6 {}) kK rK.2.1 rK.2.2.2.1 rK.2.2.2.2.1 rK.2.2.2.2.2.1
     rw [hpre,show ((E.lit 1).den Y5).toNat = r.steps.length + 1 by rw [hs0]; rfl] at h5
     show w5.ownsRow 0 _ 7 _ (r.calls ++ [_]).length _
     rw [List.length_append,hlen]
     exact h5
    ·rcases hg with rfl | rfl | rfl | rfl | hg | hg
     ·exact o0.2.2.2
     ·exact o1.2.2.2
     ·exact o2.2.2.2
     ·exact o3.2.2.2
     ·obtain rfl:=Option.some.inj hg
      exact oS.2.2.2
     ·obtain rfl:=Option.some.inj hg
      exact oK.2.2.2
    ·rcases hg with rfl | rfl | rfl | rfl | hg | hg
     ·exact ⟨o0.1,o0.2.1,o0.2.2.1⟩
     ·exact ⟨o1.1,o1.2.1,o1.2.2.1⟩
     ·exact ⟨o2.1,o2.2.1,o2.2.2.1⟩
     ·exact ⟨o3.1,o3.2.1,o3.2.2.1⟩
     ·obtain rfl:=Option.some.inj hg
      exact ⟨oS.1,oS.2.1,oS.2.2.1⟩
     ·obtain rfl:=Option.some.inj hg
      exact ⟨oK.1,oK.2.1,oK.2.2.1⟩
    ·obtain rfl:=Option.some.inj hg
     refine ⟨?_,fun e=>ndKS (Option.some.inj e)⟩
     simp only [List.mem_cons,List.not_mem_nil,or_false,not_or]
     exact ⟨Ne.symm nd0S,Ne.symm nd1S,Ne.symm nd2S,Ne.symm nd3S⟩
    ·obtain rfl:=Option.some.inj hg
     simp only [List.mem_cons,List.not_mem_nil,or_false,not_or]
     exact ⟨Ne.symm nd0K,Ne.symm nd1K,Ne.symm nd2K,Ne.symm nd3K⟩
    ·have b1:=hr'.chg.below (fun g hg=>(h.dis g (hours g hg)).2.2) h.bel.size
     have b2:=b1.trans (hb4.mono (Nat.le_trans h.bel.size hr'.chg.size))
     exact h.bel.trans (b2.trans (hc4.below (fun g hg=>(hou g hg).1) (Nat.le_trans h.bel.size hle)))
   refine zd8 (a:=zjd) snEp_fits ?_
   have s1 : (zee.env Y5).ints = [(t : Int),M'.2.1]:=by
    show [Y5.ints.getD 0 0,Y5.ints.getD 24 0] = _
    rw [hi5]
    rfl
   have s2 : (zee.env Y5).bools = [M'.2.2]:=by
    show [Y5.bools.getD 0 false] = _
    rw [hbo5]
    rfl
   have s3 : (zee.env Y5).xs.length = 188:=(za8 _).trans rfl
   have s4 : (zee.env Y5).ys = []:=rfl
   have s5 : (zee.env Y5).blks = [⟨q.gR,0,0,[],[],0,none⟩]:=by
    show [Y5.blks.getD 0 {}] = _
    rw [hk50 0 (by decide)]
    rfl
   have s6 : (zee.env Y5).perms = []:=hp5
   generalize zee.env Y5 = Ys at s1 s2 s3 s4 s5 s6
   obtain ⟨gi,gb,gx,gy,gk,gp⟩:=Ys
   dsimp only at s1 s2 s3 s4 s5 s6
   subst s1 s2 s4 s5 s6
   exact step_end (r:=r.begun t a) (a:=a) (q:=q') (rc:=⟨t,0,0,r.steps.length, -1,0,0⟩) (k':=r.calls.length) hmid hr5.there hM (by show t < (r.at_.set t _).length; rw [List.length_set]; exact ht) (List.getElem?_set_self htf) (List.getElem?_set_self htc) (by show (r.calls ++ [_])[r.calls.length]? = _; simp) rfl rfl s3 ⟨rfl,rfl,rfl,rfl⟩ (fun q2 w6 e1 e2 e3=>fin q2 w6 e1 e2 e3)
  refine zme (fr:=zfu.frs.headD default) (callers:=[]) (p:=snC_0_p) (k:=(zfu.frs.headD default).todo.tail) zef [5,10] [(5,zmh),(10,zmg)] rfl snC_0_code rfl snC_0_ok hr ⟨?_,?_,trivial⟩
  ·exact zbm (k:=(zfu.frs.headD default).todo.tail) 900 (fun Y'=>(za3 Y' zg1).toArray) (.tup [.agg [.int .u64 (.v 20),.int .u64 (.v 21),.y 29,.y 30,.int .u64 (.v 22),.int .u64 (.v 23),.y 31,.y 32,.y 33],.int .u64 (.v 24),.bool (.v 0)]) snDa1_grp snDa2_grp (zcg [5] [] _) snDa_at snDa_kdi snDa_gd snDa_set (fun Y' w hx=>zbs snDa_call snDa_fresh Y' w) hr (L:=⟨20,0,0,29,8⟩) (by rw [hL]; rfl) (by kernel_rfl) rfl (Post:=fun _=>Post) (fun Y' w1 hx' hr'=>HJ Y' w1 hx' hr'.chg hr'.there) (fun Y' w1 hx' hr'=>HB _ 8 Y' w1 rfl (by decide) (by kernel_rfl) hx' hr') (fun Y' w1 s' ch w' hp=>by obtain ⟨_,_,_,e,_⟩:=hp; cases e)
  ·exact zbm (k:=(zfu.frs.headD default).todo.tail) 900 (fun Y'=>(za3 Y' zki).toArray) (.tup [.agg [.int .u64 (.v 20),.int .u64 (.v 21),.y 29,.y 30,.int .u64 (.v 22),.int .u64 (.v 23),.y 31,.y 32,.y 33],.int .u64 (.v 24),.bool (.v 0)]) snDb1_grp snDb2_grp (zcg [5] [] _) snDb_at snDb_kdi snDb_gd snDb_set (fun Y' w hx=>zbs snDb_call snDb_fresh Y' w) hr (L:=⟨20,0,0,29,9⟩) (by rw [hL]; rfl) (by kernel_rfl) rfl (Post:=fun _=>Post) (fun Y' w1 hx' hr'=>HJ Y' w1 hx' hr'.chg hr'.there) (fun Y' w1 hx' hr'=>HB _ 9 Y' w1 rfl (by decide) (by kernel_rfl) hx' hr') (fun Y' w1 s' ch w' hp=>by obtain ⟨_,_,_,e,_⟩:=hp; cases e)
 refine zme (fr:=zfv.frs.headD default) (callers:=[]) (p:=snA_0_p) (k:=(zfv.frs.headD default).todo.tail) zeg [11,12] [(11,zmj),(12,zmi)] rfl snA_0_code rfl snA_0_ok hr ⟨?_,?_,trivial⟩
 ·exact zbm (k:=(zfv.frs.headD default).todo.tail) 900 (fun Y'=>(za3 Y' zg2).toArray) (.agg [.int .i64 (.v 1),.int .i64 (.v 2),.int .i64 (.v 3),.int .u64 (.v 4),.int .u64 (.v 5)]) snBa1_grp snBa2_grp (zcg [11] [] _) snBa_at snBa_kdi snBa_gd snBa_set (fun Y' w hx=>zbs snBa_call snBa_fresh Y' w) hr (L:=⟨20,0,0,29,7⟩) (by rw [hL]; rfl) (by kernel_rfl) rfl (Post:=fun _=>Post) (fun Y' w1 hx' hr'=>HJ Y' w1 hx' hr'.chg hr'.there) (fun Y' w1 hx' hr'=>HB _ 7 Y' w1 rfl (by decide) (by kernel_rfl) hx' hr') (fun Y' w1 s' ch w' hp=>by obtain ⟨_,_,e⟩:=hp; cases e)
 ·exact zbm (k:=(zfv.frs.headD default).todo.tail) 900 (fun Y'=>(za3 Y' zkj).toArray) (.agg [.int .i64 (.v 1),.int .i64 (.v 2),.int .i64 (.v 3),.int .u64 (.v 4),.int .u64 (.v 5)]) snBb1_grp snBb2_grp (zcg [11] [] _) snBb_at snBb_kdi snBb_gd snBb_set (fun Y' w hx=>zbs snBb_call snBb_fresh Y' w) hr (L:=⟨20,0,0,29,8⟩) (by rw [hL]; rfl) (by kernel_rfl) rfl (Post:=fun _=>Post) (fun Y' w1 hx' hr'=>HJ Y' w1 hx' hr'.chg hr'.there) (fun Y' w1 hx' hr'=>HB _ 8 Y' w1 rfl (by decide) (by kernel_rfl) hx' hr') (fun Y' w1 s' ch w' hp=>by obtain ⟨_,_,e⟩:=hp; cases e)
end
end
section
theorem of_does {r : Rw} {t : Nat} {a : Ac} (ht : t < r.at_.length) : (R3.of r).does t a = R3.of (r.does t a):=by
 unfold R3.does R3.begun R3.over R3.of Rw.does
 simp only [List.set_set,List.length_set]
 congr 1
 ·rw [List.set_replicate_self]
 ·rw [zjb,List.set_append_right _ _ (Nat.le_refl _),Nat.sub_self,List.set_cons_zero]
  congr 1
  simp [callOf,Ac.step,zck]
  rfl
section
variable {γ : Type} {X : zad γ} {s : γ} {w : World}
theorem step_ok {W : World} {k K T Mn : Int} {r : Rw} {q : Q3} {t : Nat} {a : Ac} (h : zkd X W s w k K T Mn (R3.of r) q) (hM : IntKind.u64.wrap Mn ≠ 0) (ht : t < r.at_.length) (hnb : r.at_.getD t 0 < maxLen) (hsm : r.steps.length < 1000000) :
  Jdo Try.prog X 33 #[.pointer (some ⟨q.gR,0,none⟩),.int .i64 t,.agg (f99 99 0 a).toArray,.int .i64 0,.int .u32 0,.bool true] s w (fun s' res w'=>s' = s /\ res = .back (.bool true) /\ ∃ q',q'.gR = q.gR /\ zkd X W s w' k K T Mn (R3.of (r.does t a)) q'):=by
 have hcl : (R3.of r).cl[t]? = some (-1):=by
  show (List.replicate r.at_.length (-1 : Int))[t]? = _
  simp [ht]
 rw [<- of_does ht]
 rcases h.nils with ⟨eS,eK,hs0,hc0⟩ | ⟨gS,nS,cS,gK,nK,cK,eS,eK⟩
 ·exact step_n h hM ht hcl hnb (zck _) hsm eS eK hs0 hc0
 ·exact step_k h hM ht hcl hnb (zck _) hsm eS eK
theorem step_no {W : World} {k K T Mn : Int} {r : Rw} {q : Q3} {t : Nat} (h : zkd X W s w k K T Mn (R3.of r) q) (ht : t < r.at_.length) :
  Jdo Try.prog X 33 #[.pointer (some ⟨q.gR,0,none⟩),.int .i64 t,.agg (f99 0 0 ⟨0,0,0,0,0⟩).toArray,.int .i64 0,.int .u32 0,.bool false] s w (fun s' res w'=>s' = s /\ res = .back (.bool false) /\ Below w.heap.size w w'):=by
 have htc : t < (R3.of r).cl.length:=by rw [h.cl]; exact ht
 have hcl : (R3.of r).cl[t]? = some (-1):=by
  show (List.replicate r.at_.length (-1 : Int))[t]? = _
  simp [ht]
 have hcv : (isV (R3.of r).cl)[t]? = some (.int .i64 (-1)):=by unfold isV; rw [List.getElem?_map,hcl]; rfl
 have hC:=h.C
 obtain ⟨v2,v3,v6,v7,v8,hcE,u2,u3,u6,u7,u8⟩:=h.mem
 have hR:=h.R
 unfold r3V at hR
 rw [hcE] at hR
 have dR:=h.dis q.gR (.inl rfl)
 have dC:=h.dis q.gC (.inr (.inr (.inl rfl)))
 let Y : Env:={ ints:=[(t : Int),(r.at_.length : Int),(q.cC : Int)],ys:=[.int .i64 k,.int .i64 K,.int .i64 T,.int .i64 Mn,.int .u64 r.mem.e,.int .u64 r.mem.f,v2,v3,.int .u64 r.mem.h,.int .u64 r.mem.t,v6,v7,v8,.slice (some ⟨q.gO,0,none⟩) r.at_.length q.cO],blks:=[⟨q.gR,0,0,[],[],0,none⟩,⟨q.gC,0,t,[],[],0,none⟩] }
 refine zbt (Y:=Y) s0_fresh rfl fun Stop c cs hth hback _=>?_
 have hr : Rep X s (ours Y s0A_in.heap) w Y s0A_in.heap s0A_in.facts 0 w:=by
  refine Rep.start hth (zb9 ⟨rfl,rfl,rfl,rfl,rfl,rfl,za2 u2,za2 u3,rfl,rfl,za2 u6,za2 u7,za2 u8,rfl,trivial⟩) rfl ⟨⟨dR.2.1,zb8 rfl (fun j u hu=>?_),trivial,trivial,rfl⟩,⟨dC.2.1,zb8 rfl (fun j u hu=>?_),⟨?_,rfl⟩,trivial,rfl⟩,trivial⟩ (nd_ro rfl) (za5 ⟨?_,?_,trivial⟩) rfl
  ·have hj : j < 15:=(List.getElem?_eq_some_iff.1 hu).1
   have hu2 : ([Value.int .i64 k,.int .i64 K,.int .i64 T,.int .i64 Mn,.int .u64 r.mem.e,.int .u64 r.mem.f,v2,v3,.int .u64 r.mem.h,.int .u64 r.mem.t,v6,v7,v8,.slice (some ⟨q.gO,0,none⟩) r.at_.length q.cO,.slice (some ⟨q.gC,0,none⟩) r.at_.length q.cC] : List Value)[j]? = some u:=hu
   refine zaz hR rfl rfl j u ?_
   rw [<- hu2]
   show ([Value.int .i64 k,.int .i64 K,.int .i64 T,.int .i64 Mn,.int .u64 r.mem.e,.int .u64 r.mem.f,v2,v3,.int .u64 r.mem.h,.int .u64 r.mem.t,v6,v7,v8,.slice (some ⟨q.gO,0,none⟩) r.at_.length q.cO,.slice (some ⟨q.gC,0,none⟩) r.at_.length q.cC] ++ _ : List Value)[j]? = _
   exact List.getElem?_append_left hj
  ·have hj : j < 1:=(List.getElem?_eq_some_iff.1 hu).1
   obtain rfl : j = 0:=by omega
   have hu2 : some (Value.int .i64 (-1)) = some u:=hu
   cases hu2
   show w.cell? ⟨q.gC,t + 0,none⟩ = _
   have:=hC.cell (i:=t)
   rw [Nat.add_zero,this]
   rw [List.getElem?_toArray,List.getElem?_append_left (List.getElem?_eq_some_iff.1 hcv).1]
   exact hcv
  ·show t = 0 + (t : Int).toNat * 1
   simp
  ·exact decide_eq_true (by show (0 : Int) <= (t : Int); omega)
  ·exact decide_eq_true (by show (t : Int) < ((r.at_.length : Int).toNat : Int); omega)
 refine zaa 900 s0A_run hr ⟨fun Y1 w1 hx1 hr1=>?_,trivial⟩
 have hb1 : Below w.heap.size w w1:=hr1.chg.below (fun k hk=>absurd hk (zah rfl k)) (Nat.le_refl _)
 exact zbx s0A_0_end hr1.rep (hback s _ w1 ⟨rfl,rfl,hb1⟩ hr1.there)
end
end
end Go.Proofs.Ytonhfgjofgbcdaa.Dr
