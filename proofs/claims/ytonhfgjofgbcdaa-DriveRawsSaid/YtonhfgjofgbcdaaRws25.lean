/- A part of this claim's proof. -/
import Derived.Test.YtonhfgjofgbcdaaRws24
set_option linter.unusedSimpArgs false
set_option linter.unusedVariables false
set_option maxRecDepth 20000
namespace Go.Proofs.Ytonhfgjofgbcdaa.Dr
open Go Go.Conc Go.RowKit Jay Pl
open St Sx
section
section
variable {γ : Type} {X : zad γ} {s : γ} {w : World} {M : Type} {Z : Fam X M}
def envP (Z : Fam X M) (t draw : Int) (n tcap nS nC : Nat) (e f h tl : Int) (v2 v3 v6 v7 v8 : Value) (x : Th) (ll lc : Nat) (o : Int × Int) (more : List Value) (blks : List Seg) : Env:=
 { ints:=[t,n,tcap,nS,nC,e,f,h,tl,ll,lc,x.asks.d,x.asks.ar,x.asks.at_,x.asks.old,x.asks.new,x.call,o.1,o.2,draw],ys:=[fbV Z,v2,v3,v6,v7,v8] ++ more,blks }
theorem zf7 {l : List Th} {i : Nat} {x : Th} (hx : l[i]? = some x) : (Ths l).toList = (l.take i).flatMap Th.cells ++ x.cells ++ (l.drop (i + 1)).flatMap Th.cells:=by
 obtain ⟨hi,rfl⟩:=List.getElem?_eq_some_iff.1 hx
 show l.flatMap Th.cells = _
 have h:=congrArg (List.flatMap Th.cells) (List.take_append_drop i l)
 rw [List.drop_eq_getElem_cons hi,List.flatMap_append,List.flatMap_cons] at h
 rw [<- h,List.append_assoc]
theorem zly {l : List Th} {i : Nat} {x : Th} (hi : i < l.length) : (l.take i).flatMap Th.cells ++ x.cells ++ (l.drop (i + 1)).flatMap Th.cells = (Ths (l.set i x)).toList:=by
 rw [zf7 (List.getElem?_set_self hi)]
 rw [List.take_set_of_le (Nat.le_refl _),List.drop_set_of_lt (by omega)]
theorem zlz {l : List Th} {i : Nat} (hi : i <= l.length) : ((l.take i).flatMap Th.cells).length = i * 8:=by
 rw [zde Th.len,List.length_take]
 congr 1
 omega
def zjc (Z : Fam X M) (s₀ : γ) (w₀ : World) (R : Rr M) (gR : Nat) (t draw : Int) (s' : γ) (r : zf9) (w' : World) : Prop:=
 ∃ F' p',p'.gR = gR /\ r = .back (.tuple #[]) /\ ze3 Z s₀ w₀ s' F' w' (R.pick Z t draw) p'
theorem pick_out {s₀ : γ} {w₀ : World} {F : Nat -> Prop} {R : Rr M} {p : Ph} (h : ze3 Z s₀ w₀ s F w R p) (t draw : Int) (ht : t < 0 \/ (R.ths.length : Int) <= t) : Jdo Try.prog X 41 #[.pointer (some ⟨p.gR,0,none⟩),.agg #[.int .i64 t,.int .u32 draw]] s w (zjc Z s₀ w₀ R p.gR t draw):=by
 have hR : R.pick Z t draw = R:=by
  unfold Rr.pick
  rcases ht with ht | ht
  ·rw [if_pos ht]
  ·rw [if_neg (by omega),List.getElem?_eq_none (by omega)]
 have hc:=h.core
 obtain ⟨v2,v3,v6,v7,v8,hcE,u2,u3,u6,u7,u8⟩:=h.side.mem
 have h1 : ∀ {v xs},Us w w.heap.size v xs -> v.oneCell' = true:=fun hu=>by obtain ⟨A,c,rfl,_⟩:=Sl.form hu; rfl
 have hcR:=hc.r
 rw [hcE] at hcR
 have oS : p.vS.oneCell' = true:=by obtain ⟨A,c,e,_⟩:=Sl.form (Sl.of_own hc.s); rw [e]; rfl
 have oC : p.vC.oneCell' = true:=by obtain ⟨A,c,e,_⟩:=Sl.form (Sl.of_own hc.c); rw [e]; rfl
 let Y : Env:=envP Z t draw R.ths.length p.tcap 0 0 R.mem.e R.mem.f R.mem.h R.mem.t v2 v3 v6 v7 v8 ⟨.nilFunc,.nilFunc,⟨0,0,0,0,0⟩,0⟩ 0 0 (0,0) [.nilFunc,.nilFunc,.nilFunc,.nilFunc,.nilFunc,.nilFunc,.nilFunc,p.vS,p.vC] [⟨p.gR,0,0,[],[],0,none⟩,⟨p.gT,0,0,[],[],0,none⟩]
 refine zbt (Y:=Y) zgt rfl fun Stop c cs hth hback _=>?_
 have hys : ysA Y.ys:=⟨rfl,h1 u2,h1 u3,h1 u6,h1 u7,h1 u8,rfl,rfl,rfl,rfl,rfl,rfl,rfl,oS,oC,trivial⟩
 have hk : knownA X s w Y 0 pkA_in.heap:=⟨⟨(h.side.dis _ (.inl rfl)).2.2.1,zb8 rfl (zaz hcR rfl rfl),trivial,trivial,rfl⟩,kn ((h.side.dis _ (.inr (.inl rfl))).2.2.1),trivial⟩
 have hnd : ndA Y 0 pkA_in.heap:=(nd_ro rfl)
 have fin : ∀ (Y' : Env) (w' : World) (hp : List HB) (fa : List (B × Bool)),Rep X s (ours Y pkA_in.heap) w Y' hp fa 0 w' -> ze3 Z s₀ w₀ s F w' (R.pick Z t draw) p:=fun Y' w' hp fa hr=>by
  rw [hR]
  exact h.below (hr.chg.below (fun k hk=>absurd hk (zah rfl k)) (Nat.le_refl _)) hr.there
 by_cases hneg : t < 0
 ·refine zaa 900 pkA_run (Rep.start hth (zb9 hys) rfl hk hnd (za5 ⟨decide_eq_true hneg,trivial⟩) rfl) ⟨fun Y' w' _ hr=>?_,trivial⟩
  exact zbx pkA_0_end hr.rep (hback s _ w' ⟨F,p,rfl,rfl,fin Y' w' _ _ hr⟩ hr.there)
 ·refine zaa 900 pkB_run (Rep.start hth (zb9 hys) rfl hk hnd (za5 ⟨decide_eq_false hneg,decide_eq_true ?_,trivial⟩) rfl) ⟨fun Y' w' _ hr=>?_,trivial⟩
  ·show (((R.ths.length : Int).toNat : Int)) <= t
   omega
  ·exact zbx pkB_0_end hr.rep (hback s _ w' ⟨F,p,rfl,rfl,fin Y' w' _ _ hr⟩ hr.there)
theorem zn6 {p : Ph} {t : Nat} {x : Th} (hT : Blk w p.gT 107 (Ths p.ths)) (hx : p.ths[t]? = some x) : ∀ j u,x.cells[j]? = some u -> w.cell? ⟨p.gT,t * 8 + j,none⟩ = some u:=by
 intro j u hu
 obtain ⟨hi,rfl⟩:=List.getElem?_eq_some_iff.1 hx
 have hj : j < 8:=(List.getElem?_eq_some_iff.1 hu).1
 rw [hT.cell,Ths_at hi hj]
 exact hu
theorem pick_none {s₀ : γ} {w₀ : World} {F : Nat -> Prop} {R : Rr M} {p : Ph} (h : ze3 Z s₀ w₀ s F w R p) (t : Nat) (draw : Int) {y : Rt} (hy : R.ths[t]? = some y) (hon : y.on = none) (hl : y.left = []) : Jdo Try.prog X 41 #[.pointer (some ⟨p.gR,0,none⟩),.agg #[.int .i64 t,.int .u32 draw]] s w (zjc Z s₀ w₀ R p.gR t draw):=by
 have hR : R.pick Z t draw = R:=by
  unfold Rr.pick
  rw [if_neg (by omega),show (t : Int).toNat = t from rfl,hy]
  simp only [hon,hl]
 have hc:=h.core
 obtain ⟨v2,v3,v6,v7,v8,hcE,u2,u3,u6,u7,u8⟩:=h.side.mem
 have h1 : ∀ {v xs},Us w w.heap.size v xs -> v.oneCell' = true:=fun hu=>by obtain ⟨A,c,rfl,_⟩:=Sl.form hu; rfl
 have hcR:=hc.r
 rw [hcE] at hcR
 have oS : p.vS.oneCell' = true:=by obtain ⟨A,c,e,_⟩:=Sl.form (Sl.of_own hc.s); rw [e]; rfl
 have oC : p.vC.oneCell' = true:=by obtain ⟨A,c,e,_⟩:=Sl.form (Sl.of_own hc.c); rw [e]; rfl
 have htl : t < R.ths.length:=(List.getElem?_eq_some_iff.1 hy).1
 have hx : p.ths[t]? = some (p.ths[t]'(by rw [h.side.tlen]; exact htl)):=List.getElem?_eq_getElem _
 generalize p.ths[t]'_ = x at hx
 have hrel:=h.side.rel t x y hx hy
 have hcT:=zn6 hc.t hx
 obtain ⟨lv,on,asks,call⟩:=x
 obtain rfl : on = .nilIface:=by rw [show on = _ from hrel.on,hon]; rfl
 have hform:=hrel.form
 rw [hl] at hform
 have keep : ∀ {Y : Env} {w' : World} {h0 : List HB} {hp : List HB} {fa : List (B × Bool)} {Y' : Env},h0.all (fun x=>!x.wr) = true -> Rep X s (ours Y h0) w Y' hp fa 0 w' -> zjc Z s₀ w₀ R p.gR t draw s (.back (.tuple #[])) w':=fun hro hr=>by
  refine ⟨F,p,rfl,rfl,?_⟩
  rw [hR]
  exact h.below (hr.chg.below (fun k hk=>absurd hk (zah hro k)) (Nat.le_refl _)) hr.there
 have f1 : (0 : Int) <= t:=Int.natCast_nonneg _
 have f2 : (t : Int) < ((R.ths.length : Int).toNat : Int):=by omega
 rcases hform with e | ⟨g,o,c,e,hg⟩
 ·subst e
  let Y : Env:=envP Z t draw R.ths.length p.tcap 0 0 R.mem.e R.mem.f R.mem.h R.mem.t v2 v3 v6 v7 v8 ⟨.nilFunc,.nilFunc,asks,call⟩ 0 0 (0,0) [.nilFunc,.nilFunc,.nilFunc,.nilFunc,.nilFunc,.nilFunc,.nilFunc,p.vS,p.vC] [⟨p.gR,0,0,[],[],0,none⟩,⟨p.gT,0,t * 8,[],[],0,none⟩]
  refine zbt (Y:=Y) zgt rfl fun Stop c cs hth hback _=>?_
  refine zaa 900 pkM_run (Rep.start hth (zb9 (l:=Y.ys) ⟨rfl,h1 u2,h1 u3,h1 u6,h1 u7,h1 u8,rfl,rfl,rfl,rfl,rfl,rfl,rfl,oS,oC,trivial⟩) rfl ⟨⟨(h.side.dis _ (.inl rfl)).2.2.1,zb8 rfl (zaz hcR rfl rfl),trivial,trivial,rfl⟩,⟨(h.side.dis _ (.inr (.inl rfl))).2.2.1,zb8 rfl hcT,⟨(Nat.zero_add _).symm,rfl⟩,trivial,rfl⟩,trivial⟩ (nd_ro rfl)
   (za5 ⟨decide_eq_true f1,decide_eq_true f2,decide_eq_false (Int.not_lt.2 f1),decide_eq_false (Int.not_le.2 f2),trivial⟩) rfl) ⟨fun Y' w' _ hr=>?_,trivial⟩
  exact zbx pkM_0_end hr.rep (hback s _ w' (keep rfl hr) hr.there)
 ·subst e
  let Y : Env:=envP Z t draw R.ths.length p.tcap 0 0 R.mem.e R.mem.f R.mem.h R.mem.t v2 v3 v6 v7 v8 ⟨.nilFunc,.nilFunc,asks,call⟩ 0 c (0,0) [.nilFunc,.nilFunc,.nilFunc,.nilFunc,.nilFunc,.nilFunc,.nilFunc,p.vS,p.vC] [⟨p.gR,0,0,[],[],0,none⟩,⟨p.gT,0,t * 8,[],[],0,none⟩,⟨g,o,o,[],[],0,none⟩]
  refine zbt (Y:=Y) zgt rfl fun Stop c cs hth hback _=>?_
  refine zaa 900 pkN_run (Rep.start hth (zb9 (l:=Y.ys) ⟨rfl,h1 u2,h1 u3,h1 u6,h1 u7,h1 u8,rfl,rfl,rfl,rfl,rfl,rfl,rfl,oS,oC,trivial⟩) rfl ⟨⟨(h.side.dis _ (.inl rfl)).2.2.1,zb8 rfl (zaz hcR rfl rfl),trivial,trivial,rfl⟩,⟨(h.side.dis _ (.inr (.inl rfl))).2.2.1,zb8 rfl hcT,⟨(Nat.zero_add _).symm,rfl⟩,trivial,rfl⟩,⟨hg,zb8 rfl zn1,⟨rfl,rfl⟩,trivial,rfl⟩,trivial⟩ (nd_ro rfl)
   (za5 ⟨decide_eq_true f1,decide_eq_true f2,decide_eq_false (Int.not_lt.2 f1),decide_eq_false (Int.not_le.2 f2),rfl,trivial⟩) rfl) ⟨fun Y' w' _ hr=>?_,trivial⟩
  exact zbx pkN_0_end hr.rep (hback s _ w' (keep rfl hr) hr.there)
end
end
section
section
variable {γ : Type} {X : zad γ} {s : γ} {w : World} {M : Type} {Z : Fam X M}
theorem app_cut {α : Type} {a b c x y z : List α} (h : a ++ b ++ c = x ++ y ++ z) (h1 : a.length = x.length) (h2 : b.length = y.length) : a = x /\ b = y /\ c = z:=by
 rw [List.append_assoc,List.append_assoc] at h
 obtain ⟨h3,h4⟩:=List.append_inj h h1
 obtain ⟨h5,h6⟩:=List.append_inj h4 h2
 exact ⟨h3,h5,h6⟩
theorem zez {S : Nat -> Prop} {w₁ : World} {Y : Env} {h : List HB} {facts : List (B × Bool)} {np : Nat} (hr : Rep X s S w₁ Y h facts np w) {R : Rr M} {p : Ph} (core : Core Z w R p) (hE : p.cE.size = 9) {t : Nat} {x : Th} (hx : p.ths[t]? = some x)
  {hR hT : HB} (e0 : h[0]? = some hR) (e1 : h[1]? = some hT) (wR : hR.wr = true) (wT : hT.wr = true) (lR : hR.cs.length = 13) (lT : hT.cs.length = 8) (sR : hR.cs[1]? = some (.sl (.blk 1) (.v 1) (.e (.v 2)))) (fT : hT.foc = some (.v 0,8)) (hg : (Y.blks.getD 0 {}).g = p.gR) (ht : Y.ints.getD 0 0 = (t : Int)) :
  ((Y.blks.getD 0 {}).pre = [] /\ (Y.blks.getD 0 {}).post = [] /\ za3 Y hR.cs = (#[fbV Z,.slice (some ⟨p.gT,0,none⟩) R.ths.length p.tcap,p.vS,p.vC] ++ p.cE).toList) /\ (Y.blks.getD 1 {}).g = p.gT /\ (Y.blks.getD 1 {}).pre = (p.ths.take t).flatMap Th.cells /\ (Y.blks.getD 1 {}).post = (p.ths.drop (t + 1)).flatMap Th.cells /\ za3 Y hT.cs = x.cells:=by
 have b0:=(hr.rep.blk 0 hR e0 wR).2
 rw [hg] at b0
 have q0:=whole_one (blk_eq b0 core.r) (by rw [za8,lR,Array.size_append,hE]; rfl)
 have e : (SV.sl (.blk 1) (.v 1) (.e (.v 2))).den Y = .slice (some ⟨p.gT,0,none⟩) R.ths.length p.tcap:=by
  have h1 : (za3 Y hR.cs)[1]? = some ((SV.sl (.blk 1) (.v 1) (.e (.v 2))).den Y):=by rw [zc3,List.getElem?_map,sR]; rfl
  rw [q0.2.2,Array.toList_append] at h1
  exact (Option.some.inj h1).symm
 have b1:=hr.rep.blk 1 hT e1 wT
 obtain ⟨hf,hfa⟩:=hr.rep.foc 1 hT _ _ e1 fT
 simp only [SV.den,BA.den,Seg.adr,hfa,Value.slice.injEq,Option.some.injEq,Addr.mk.injEq,and_true] at e
 rw [e.1.1] at b1
 have hpl : (Y.blks.getD 1 {}).pre.length = t * 8:=by
  rw [<- b1.1,hf,e.1.2]
  show 0 + (Y.ints.getD 0 0).toNat * 8 = _
  rw [ht]
  simp
 have htl : t < p.ths.length:=(List.getElem?_eq_some_iff.1 hx).1
 have hw : (Y.blks.getD 1 {}).whole (za3 Y hT.cs) = (Ths p.ths).toList:=by rw [<- blk_eq b1.2 core.t]
 rw [zf7 hx] at hw
 obtain ⟨c1,c2,c3⟩:=app_cut hw (by rw [hpl,zlz (Nat.le_of_lt htl)]) (by rw [za8,lT]; rfl)
 exact ⟨q0,e.1.1,c1,c3,c2⟩
theorem zfb {s' : γ} {S S' : Nat -> Prop} {w₁ w₂ w' : World} {Y Y' : Env} {h h' : List HB} {facts facts' : List (B × Bool)} {np np' : Nat} (hr : Rep X s S w₁ Y h facts np w) (hr' : Rep X s' S' w₂ Y' h' facts' np' w') (hx : Ext Y Y') {i : Nat} {hb : HB} (e : h[i]? = some hb) (e' : h'[i]? = some hb) (hw : hb.wr = true) (hsc : scs h.length hb.cs = true)
  {t : TypeId} {arr : Array Value} (hb : Blk w (Y.blks.getD i {}).g t arr) : Blk w' (Y.blks.getD i {}).g t arr:=by
 have h1:=(hr.rep.blk i _ e hw).2
 have h2:=(hr'.rep.blk i _ e' hw).2
 have hi : i < Y.blks.length:=by rw [hr.len]; exact (List.getElem?_eq_some_iff.1 e).1
 obtain ⟨l,m,rfl⟩:=hx
 rw [show (Y.more l m).blks.getD i {} = Y.blks.getD i {} from zb6 _ _ _ _ hi,zai h.length (Nat.le_of_eq hr.len.symm) _ hsc] at h2
 unfold Blk at h1 h2 hb ⊢
 rw [h1] at hb
 rw [h2]
 exact hb
theorem zdj {s' : γ} {S S' : Nat -> Prop} {w₁ w₂ w' : World} {Y Y' : Env} {h h' : List HB} {facts facts' : List (B × Bool)} {np np' : Nat} (hr : Rep X s S w₁ Y h facts np w) (hr' : Rep X s' S' w₂ Y' h' facts' np' w') {i : Nat} {hb : HB} (hseg : Y'.blks.getD i {} = Y.blks.getD i {}) (hd : za3 Y' hb.cs = za3 Y hb.cs) (e : h[i]? = some hb) (e' : h'[i]? = some hb) (hw : hb.wr = true)
  {t : TypeId} {arr : Array Value} (hb : Blk w (Y.blks.getD i {}).g t arr) : Blk w' (Y.blks.getD i {}).g t arr:=by
 have h1:=(hr.rep.blk i _ e hw).2
 have h2:=(hr'.rep.blk i _ e' hw).2
 rw [hseg,hd] at h2
 unfold Blk at h1 h2 hb ⊢
 rw [h1] at hb
 rw [h2]
 exact hb
theorem zdl {l r : List Value} (h : l = r) (i : Nat) {a b : Value} (ha : l[i]? = some a) (hb : r[i]? = some b) : a = b:=by rw [h,hb] at ha; exact (Option.some.inj ha).symm
theorem zas {Y : Env} {b sz : Nat} {e : E} {v : Value} (h : (SV.sl (.blk b) e (.of b sz)).den Y = v) (ha : (Y.blks.getD b {}).ad = none) : v = .slice (some ⟨(Y.blks.getD b {}).g,(Y.blks.getD b {}).b0,none⟩) (e.den Y).toNat (Y.blks.getD b {}).cap:=by
 rw [<- h]; simp only [SV.den,BA.den,Seg.adr,ha,CP.den]
theorem at9 {S : Nat -> Prop} {w₁ : World} {Y : Env} {Stop : γ -> Frame -> List Frame -> World -> Prop} {c : Frame} {cs : List Frame} {s₀ : γ} {w₀ : World} {F : Nat -> Prop} {R : Rr M} {p : Ph} {t i : Nat} {y : Rt} {m : M} {fa : List (B × Bool)} (hr : Rep X s S w₁ Y p8_1.heap fa 0 w) (hlen : Y.lens = ⟨31,9,23,13,7⟩) (h : ze3 Z s₀ w₀ s F w R p)
  (hy : R.ths[t]? = some y) (hon : y.on = some i) (hm : R.ms[i]? = some m) (hg : (Y.blks.getD 0 {}).g = p.gR) (ht : Y.ints.getD 0 0 = (t : Int)) (htmp : ∀ b ∈ [3,4,6],(Y.blks.getD b {}).g ∈ p.tmp) (hsm : R.steps.length <= 1000000)
  (hback : ∀ s' F' p' w',p'.gR = p.gR -> ze3 Z s₀ w₀ s' F' w' (Rr.ended Z R t y m false) p' -> X.there s' w' -> Jay.Reach Try.prog X Stop s' (c.finish (.tuple #[])) cs w') : Fr.reach Try.prog X Stop s (c :: cs) Y p8_1.frs w:=by
 obtain ⟨v2,v3,v6,v7,v8,hcE, -⟩:=h.side.mem
 have htl : t < p.ths.length:=by rw [h.side.tlen]; exact (List.getElem?_eq_some_iff.1 hy).1
 have hx:=List.getElem?_eq_getElem htl
 generalize p.ths[t] = x at hx
 have hrel:=h.side.rel t x y hx hy
 obtain ⟨⟨q0,q1,qR⟩,gT,preT,postT,qT⟩:=zez hr h.core (by rw [hcE]; rfl) hx (hR:=p8_1.heap.headD default) (hT:=p8_1.heap.tail.headD default) rfl rfl rfl rfl rfl rfl rfl rfl hg ht
 rw [hcE,Array.toList_append] at qR
 have eS:=zas (zdl qR 2 rfl rfl) (hr.rep.row 5 _ _ _ _ rfl rfl).2.2.2.2.2.2
 have eC:=zas (zdl qR 3 rfl rfl) (hr.rep.row 2 _ _ _ _ rfl rfl).2.2.2.2.2.2
 have eOn : SV.den Y (.iface 82 (.y 6)) = x.on:=zdl qT 1 rfl rfl
 have eCall : SV.den Y (.int .i64 (.v 16)) = .int .i64 x.call:=zdl qT 7 rfl rfl
 have eCall' : Y.ints.getD 16 0 = y.call:=by rw [<- hrel.call]; exact (Value.int.inj eCall).2
 rw [hrel.on,hon] at eOn
 have eV : Y.ys.getD 6 .nilFunc = p.vs.getD i .nilFunc:=(Value.iface.inj eOn).2
 have bS:=hr.rep.row 5 _ _ _ _ rfl rfl
 have bC:=hr.rep.row 2 _ _ _ _ rfl rfl
 rw [bS.1] at eS
 rw [bC.1] at eC
 have kS:=(hr.rep.blk 5 _ rfl rfl).2
 have kC:=(hr.rep.blk 2 _ rfl rfl).2
 obtain ⟨pS,nS⟩:=zg9 h.core.s eS kS bS.2.1
 obtain ⟨pC,nC⟩:=zg9 h.core.c eC kC bC.2.1
 have hmine : ∀ k,ours Y p8_1.heap k -> p.mine k:=zbz ⟨fun _=>.inl hg,fun _=>.inr (.inl gT),fun _=>.inr (.inr (.inr (.inl (by rw [eC]; rfl)))),fun _=>.inr (.inr (.inr (.inr (htmp 3 (by simp))))),fun _=>.inr (.inr (.inr (.inr (htmp 4 (by simp))))),fun _=>.inr (.inr (.inl (by rw [eS]; rfl))),fun _=>.inr (.inr (.inr (.inr (htmp 6 (by simp))))),trivial⟩
 obtain ⟨hlt1,hlt2,hlt3⟩:=hrel.onlt i hon
 have hcc:=List.getElem?_eq_getElem hlt3
 generalize hcall : R.calls[y.call.toNat] = rc at hcc
 let q : Seg:=⟨(Y.blks.getD 2 {}).g,0,y.call.toNat * 7,(R.calls.take y.call.toNat).flatMap Rc.cells,(R.calls.drop (y.call.toNat + 1)).flatMap Rc.cells ++ (Y.blks.getD 2 {}).post,(Y.blks.getD 2 {}).cap,none⟩
 have hlb : Y.blks.length = 7:=hr.len
 have hli : Y.ints.length = 31:=congrArg zfa.ni hlen
 have hgr:=(hr.know (facts':=[(.cmp .leq (.lit 0) (.v 16),true),(.cmp .lss (.v 16) (.tn (.v 4)),true)]) (za5 ⟨decide_eq_true (by show (0 : Int) <= Y.ints.getD 16 0; rw [eCall']; exact hlt2),decide_eq_true (by
   show Y.ints.getD 16 0 < ((Y.ints.getD 4 0).toNat : Int)
   have : (Y.ints.getD 4 0).toNat = R.calls.length:=nC.symm
   rw [eCall',this]
   omega),trivial⟩)).grow_ hlen (by kernel_rfl) (by kernel_rfl) [rc.th,rc.kind,rc.val,rc.frm,rc.to,rc.code,rc.out] [] [] [] (fun v hv=>by cases hv)
 have hge : ∀ j,j < 31 -> (Y.grow [rc.th,rc.kind,rc.val,rc.frm,rc.to,rc.code,rc.out] [] [] [] []).ints.getD j 0 = Y.ints.getD j 0:=fun j hj=>zb6 _ _ _ _ (by omega)
 have hgn : ∀ j,(Y.grow [rc.th,rc.kind,rc.val,rc.frm,rc.to,rc.code,rc.out] [] [] [] []).ints.getD (31 + j) 0 = [rc.th,rc.kind,rc.val,rc.frm,rc.to,rc.code,rc.out].getD j 0:=fun j=>by
  simp only [Env.grow,List.getD_eq_getElem?_getD]
  rw [List.getElem?_append_right (by omega),hli,Nat.add_sub_cancel_left]
 generalize hYg : Y.grow [rc.th,rc.kind,rc.val,rc.frm,rc.to,rc.code,rc.out] [] [] [] [] = Yg at hgr hge hgn
 have hbg : Yg.blks = Y.blks:=by rw [<- hYg]; simp [Env.grow]
 have hCf : za3 Yg ((p9_in.heap.getD 2 default).cs) = rc.cells:=by
  show [Value.int .i64 (Yg.ints.getD 31 0),.int .i64 (Yg.ints.getD 32 0),.int .u32 (Yg.ints.getD 33 0),.int .i64 (Yg.ints.getD 34 0),.int .i64 (Yg.ints.getD 35 0),.int .i64 (Yg.ints.getD 36 0),.int .u32 (Yg.ints.getD 37 0)] = _
  rw [hgn 0,hgn 1,hgn 2,hgn 3,hgn 4,hgn 5,hgn 6]
  rfl
 have h16 : Yg.ints.getD 16 0 = y.call:=by rw [hge 16 (by omega),eCall']
 have hpl : ((R.calls.take y.call.toNat).flatMap Rc.cells).length = y.call.toNat * 7:=by
  rw [zde Rc.len,List.length_take]
  congr 1
  omega
 have hr2:=hgr.reseg (b:=2) (hb:=p8_1.heap.getD 2 default) (hb':=p9_in.heap.getD 2 default) (q:=q) rfl rfl rfl rfl (by rw [hbg]) (by rw [hbg]; exact (show q.adr = (Y.blks.getD 2 {}).adr by unfold Seg.adr; rw [bC.2.2.2.2.2.2,bC.1])) (by rw [hbg]) hpl.symm rfl rfl (by kernel_rfl) (by kernel_rfl)
  (by
   rw [hCf,hbg]
   show (R.calls.take y.call.toNat).flatMap Rc.cells ++ rc.cells ++ ((R.calls.drop (y.call.toNat + 1)).flatMap Rc.cells ++ (Y.blks.getD 2 {}).post) = (Y.blks.getD 2 {}).pre ++ [] ++ (Y.blks.getD 2 {}).post
   rw [pC,flat_cut Rc.cells R.calls _ rc hcc]
   simp only [List.append_assoc,List.append_nil,List.nil_append])
  (fun e n he=>by
   cases he
   refine ⟨?_,rfl⟩
   show y.call.toNat * 7 = 0 + (Yg.ints.getD 16 0).toNat * 7
   rw [h16,Nat.zero_add]) (fun e n N he=>by cases he) (fun e=>by cases e)
 refine zak (ai:=[rc.th,rc.kind,rc.val,rc.frm,rc.to,rc.code,rc.out]) (ab:=[]) (ax:=[]) (ay:=[]) (ak:=[]) hlen (by kernel_rfl) ?_
 rw [hYg]
 refine zbl (b:=2) (q:=q) (by rw [hbg,hlb]; decide) (by rw [hbg]) (by rw [hbg]; exact (show q.adr = (Y.blks.getD 2 {}).adr by unfold Seg.adr; rw [bC.2.2.2.2.2.2,bC.1])) (by rw [hbg]) (by kernel_rfl) ?_
 have hb2 : ∀ j,j < 7 -> (Yg.reseg 2 q).blks.getD j {} = if j = 2 then q else Y.blks.getD j {}:=fun j hj=>by
  split
  ·rename_i e
   subst e
   exact zdv (by rw [hbg,hlb]; decide)
  ·rename_i e
   rw [zdb e,hbg]
 generalize hY2 : Yg.reseg 2 q = Y2 at hr2 hb2
 have hr2:=hr2.rebase
 have hi2 : Y2.ints = Yg.ints:=by rw [<- hY2]; rfl
 have hy2 : Y2.ys = Y.ys:=by rw [<- hY2,<- hYg]; simp [Env.reseg,Env.grow]
 have hn2 : Y2.blks.length = 7:=hr2.len
 have hmine2 : ∀ k,ours Y2 p9_in.heap k -> p.mine k:=zbz ⟨fun _=>.inl (by rw [hb2 0 (by decide)]; exact hg),fun _=>.inr (.inl (by rw [hb2 1 (by decide)]; exact gT)),fun _=>.inr (.inr (.inr (.inl (by rw [hb2 2 (by decide),eC]; rfl)))),fun _=>.inr (.inr (.inr (.inr (by rw [hb2 3 (by decide)]; exact htmp 3 (by simp))))),fun _=>.inr (.inr (.inr (.inr (by rw [hb2 4 (by decide)]; exact htmp 4 (by simp))))),fun _=>.inr (.inr (.inl (by rw [hb2 5 (by decide),eS]; rfl))),fun _=>.inr (.inr (.inr (.inr (by rw [hb2 6 (by decide)]; exact htmp 6 (by simp))))),trivial⟩
 refine zaa 900 p9_run hr2 ⟨fun Y3 w3 hx3 hr3=>?_,trivial⟩
 have side3:=h.side.keep (hr3.chg.mono fun k _ hk=>hmine2 k hk) hr3.there
 have hL3 : Y3.lens = ⟨38,9,23,13,7⟩:=by
  have h1 : Y3.blks.length = 7:=hr3.len
  have h2 : Y3.ints.length = 38:=by rw [hx3.ints,hi2,<- hYg]; simp [Env.grow,hli]
  have h3 : Y3.bools.length = 9:=by rw [hx3.bools,<- hY2,<- hYg]; simp [Env.grow,Env.reseg]; exact congrArg zfa.nb hlen
  have h4 : Y3.xs.length = 23:=by rw [hx3.xs,<- hY2,<- hYg]; simp [Env.grow,Env.reseg]; exact congrArg zfa.nx hlen
  have h5 : Y3.ys.length = 13:=by rw [hx3.ys,hy2]; exact congrArg zfa.ny hlen
  simp only [Env.lens,h1,h2,h3,h4,h5]
 show Fr.reach _ X Stop s (c :: cs) Y3 [p9_fr] w3
 refine zc7 (fr:=p9_fr) (callers:=[]) (ht:=rfl) p9_at p9_gd p9_call p9_fresh hr3 (Post:=fun s' r w'=>s' = s /\ Below w3.heap.size w3 w' /\ r = .back (.tuple #[.int .i64 (Z.res m).1,.int .u32 (Z.res m).2])) ?_ (fun s' v w4 hp ht4=>?_) (fun s' ch w4 hp _=>by obtain ⟨_,_,e⟩:=hp; cases e)
 ·have hz : (p.vs.zip R.ms)[i]? = some (p.vs.getD i .nilFunc,m):=by
   rw [List.getElem?_zip_eq_some]
   refine ⟨?_,hm⟩
   have : i < p.vs.length:=by rw [h.side.vlen]; exact hlt1
   simp [List.getD_eq_getElem?_getD,this]
  have:=Z.res_ok i _ m side3.i hz
  rwa [show (za3 Y3 p9_args).toArray = #[p.vs.getD i .nilFunc] by
   show #[Y3.ys.getD 6 .nilFunc] = _
   rw [hx3.ys,hy2,eV]]
 ·obtain ⟨rfl,hb4,e⟩:=hp
  cases e
  have hr4:=(hr3.below hb4).grow_ hL3 (by kernel_rfl) (by kernel_rfl) [(Z.res m).1,(Z.res m).2] [] [] [] (fun v hv=>by cases hv)
  refine zc8 (ai:=[(Z.res m).1,(Z.res m).2]) (ab:=[]) (ax:=[]) (ay:=[]) (.tup [.int .i64 (.v 38),.int .u32 (.v 39)]) hL3 (by kernel_rfl) ?_ ?_
  ·have h2 : Y3.ints.length = 38:=congrArg zfa.ni hL3
   simp [SV.den,za3,E.den,Env.grow,List.getElem?_append_right,h2]
  ·rw [p9_put]
   have h2 : Y3.ints.length = 38:=congrArg zfa.ni hL3
   generalize hY4 : Y3.grow [(Z.res m).1,(Z.res m).2] [] [] [] [] = Y4 at hr4
   have hn4 : Y4.blks.length = 7:=hr4.len
   have hi4 : Y4.ints = Y3.ints ++ [(Z.res m).1,(Z.res m).2]:=by rw [<- hY4]; rfl
   have hb4' : ∀ j,j < 7 -> Y4.blks.getD j {} = if j = 2 then q else Y.blks.getD j {}:=fun j hj=>by
    rw [<- hY4]
    show (Y3.blks ++ []).getD j {} = _
    rw [List.append_nil,hx3.blk (by omega),hb2 j hj]
   refine zaa 900 pa_run hr4 ⟨fun Y5 w5 hx5 hr5=>?_,trivial⟩
   have hb5 : ∀ j,j < 7 -> Y5.blks.getD j {} = if j = 2 then q else Y.blks.getD j {}:=fun j hj=>by rw [hx5.blk (by omega),hb4' j hj]
   have eD : ∀ l,zdp ⟨31,9,23,13,7⟩ l = true -> zdp ⟨38,9,23,13,7⟩ l = true -> noPs 2 l = true -> scs 7 l = true -> za3 Y5 l = za3 Y l:=fun l a1 a2 a3 a4=>by
    have e5 : za3 Y5 l = za3 Y4 l:=by obtain ⟨_,_,rfl⟩:=hx5; exact zai 7 (by omega) l a4
    have e4 : za3 Y4 l = za3 Y3 l:=by rw [<- hY4]; exact zb4 l (by rw [hL3]; exact a2)
    have e3 : za3 Y3 l = za3 Y2 l:=by obtain ⟨_,_,rfl⟩:=hx3; exact zai 7 (by omega) l a4
    have e2 : za3 Y2 l = za3 Yg l:=by rw [<- hY2]; exact zcb (by rw [hbg,hlb]; decide) (by rw [hbg]) (by rw [hbg]; exact (show q.adr = (Y.blks.getD 2 {}).adr by unfold Seg.adr; rw [bC.2.2.2.2.2.2,bC.1])) (by rw [hbg]) l a3
    have e1 : za3 Yg l = za3 Y l:=by rw [<- hYg]; exact zb4 l (by rw [hlen]; exact a1)
    rw [e5,e4,e3,e2,e1]
   have eI : ∀ j,j < 38 -> Y5.ints.getD j 0 = Yg.ints.getD j 0:=fun j hj=>by
    rw [hx5.ints,hi4,hx3.ints,hi2]
    refine zb6 _ _ _ _ ?_
    rw [<- hi2,<- hx3.ints,h2]
    exact hj
   have eI2 : ∀ j,Y5.ints.getD (38 + j) 0 = [(Z.res m).1,(Z.res m).2].getD j 0:=fun j=>by
    rw [hx5.ints,hi4]
    simp only [List.getD_eq_getElem?_getD]
    rw [List.getElem?_append_right (by omega),h2,Nat.add_sub_cancel_left]
   let rc' : Rc:={ rc with to:=R.steps.length - 1,code:=(Z.res m).1,out:=(Z.res m).2 }
   have hE : Rr.ended Z R t y m false = { R with ths:=R.ths.set t { y with on:=none },calls:=R.calls.set y.call.toNat rc' }:=by
    unfold Rr.ended
    rw [if_neg (by decide),hcc]
   have hback':=hback s' F { p with ths:=p.ths.set t { x with on:=.nilIface } } w5 rfl ?_ hr5.there
   ·exact zbx pa_0_end hr5.rep hback'
   ·rw [hE]
    have side5:=h.side.keep (hr5.chg.mono fun k _ hk=>hmine2 k hk) hr5.there
    have hrel5:=side5.rel t x y hx hy
    refine ⟨⟨?_,?_,?_,?_⟩,side5.upd (x':={ x with on:=.nilIface }) (y':={ y with on:=none }) (calls':=R.calls.set y.call.toNat rc') (by simp) ⟨rfl,(fun k hk=>by cases hk),hrel5.asks,hrel5.call,hrel5.left,hrel5.form,hrel5.off⟩,?_⟩
    ·have h3:=(hr5.rep.blk 0 _ rfl rfl).2
     rw [hb5 0 (by decide)] at h3
     have h4 : Blk w5 (Y.blks.getD 0 {}).g 105 ((Y.blks.getD 0 {}).whole (za3 Y5 (p8_1.heap.headD default).cs)).toArray:=h3
     rw [eD _ (by kernel_rfl) (by kernel_rfl) (by kernel_rfl) (by kernel_rfl),hg] at h4
     have h5:=(hr.rep.blk 0 _ rfl rfl).2
     have h6 : Blk w (Y.blks.getD 0 {}).g 105 ((Y.blks.getD 0 {}).whole (za3 Y (p8_1.heap.headD default).cs)).toArray:=h5
     rw [hg] at h6
     rw [blk_eq h6 h.core.r] at h4
     simpa only [List.length_set] using h4
    ·have h3:=(hr5.rep.blk 1 _ rfl rfl).2
     rw [hb5 1 (by decide)] at h3
     have h4 : Blk w5 (Y.blks.getD 1 {}).g 107 ((Y.blks.getD 1 {}).whole ((za3 Y5 (p8_1.heap.tail.headD default).cs).set 1 .nilIface)).toArray:=h3
     rw [eD _ (by kernel_rfl) (by kernel_rfl) (by kernel_rfl) (by kernel_rfl),qT,gT] at h4
     rw [show (Y.blks.getD 1 {}).whole (x.cells.set 1 .nilIface) = (Ths (p.ths.set t { x with on:=.nilIface })).toList by rw [Seg.whole,preT,postT]; exact zly (x:={ x with on:=.nilIface }) htl] at h4
     exact h4
    ·have h3:=(hr5.rep.blk 5 _ rfl rfl).2
     rw [hb5 5 (by decide)] at h3
     exact zdc h.core.s eS kS h3
    ·have h3:=(hr5.rep.blk 2 _ rfl rfl).2
     rw [hb5 2 (by decide)] at h3
     have hd : za3 Y5 ((pa_0.heap.getD 2 default).cs) = rc'.cells:=by
      show [Value.int .i64 (Y5.ints.getD 31 0),.int .i64 (Y5.ints.getD 32 0),.int .u32 (Y5.ints.getD 33 0),.int .i64 (Y5.ints.getD 34 0),.int .i64 (IntKind.wrap .i64 (((Y5.ints.getD 25 0).toNat : Int) - 1)),.int .i64 (Y5.ints.getD 38 0),.int .u32 (Y5.ints.getD 39 0)] = _
      have h25 : (Y.ints.getD 25 0).toNat = R.steps.length:=nS.symm
      rw [eI 31 (by decide),eI 32 (by decide),eI 33 (by decide),eI 34 (by decide),eI 25 (by decide),hge 25 (by decide),h25,eI2 0,eI2 1,hgn 0,hgn 1,hgn 2,hgn 3]
      have hw : IntKind.wrap .i64 ((R.steps.length : Int) - 1) = (R.steps.length : Int) - 1:=by simp [IntKind.wrap,IntKind.bits,IntKind.signed]; omega
      rw [hw]
      rfl
     have h4 : Blk w5 (Y.blks.getD 2 {}).g 65 (q.whole (za3 Y5 (pa_0.heap.getD 2 default).cs)).toArray:=h3
     rw [hd] at h4
     have hcl : (R.calls.set y.call.toNat rc').length = (E.den Y (.v 4)).toNat:=by rw [List.length_set]; exact nC
     have h5:=zbc (w:=w5) (t:=65) (size:=7) (n:=(E.den Y (.v 4)).toNat) (q:=⟨(Y.blks.getD 2 {}).g,0,0,(R.calls.set y.call.toNat rc').flatMap Rc.cells,(Y.blks.getD 2 {}).post,(Y.blks.getD 2 {}).cap,none⟩) (by
      rw [zot Rc.cells R.calls _ rc' hlt3]
      have e : ∀ (a b c d : List Value),a ++ b ++ c ++ [] ++ d = a ++ b ++ (c ++ d):=fun a b c d=>by simp
      show Blk w5 _ _ (_ ++ _ ++ _ ++ [] ++ _ : List Value).toArray
      rw [e]
      exact h4) (by show ((R.calls.set y.call.toNat rc').flatMap Rc.cells).length = _; rw [zde Rc.len,hcl]) bC.2.2.2.1 bC.2.2.2.2.1 (by
      show ((R.calls.set y.call.toNat rc').flatMap Rc.cells).length + _ = _
      rw [zde Rc.len,hcl,<- bC.2.1]
      exact bC.2.2.2.2.2.1)
     rw [eC,hcl]
     exact h5
    ·exact .inr ⟨_,_,_,_,_,_,eS,eC⟩
theorem at8 {S : Nat -> Prop} {w₁ : World} {Y : Env} {Stop : γ -> Frame -> List Frame -> World -> Prop} {c : Frame} {cs : List Frame} {s₀ : γ} {w₀ : World} {F : Nat -> Prop} {R : Rr M} {p : Ph} {t i : Nat} {y : Rt} {m : M} (hr : Rep X s S w₁ Y zm7.heap zm7.facts 0 w) (hlen : Y.lens = ⟨31,9,23,13,7⟩) (h : ze3 Z s₀ w₀ s F w R p)
  (hy : R.ths[t]? = some y) (hon : y.on = some i) (hm : R.ms[i]? = some m) (hg : (Y.blks.getD 0 {}).g = p.gR) (ht : Y.ints.getD 0 0 = (t : Int)) (htmp : ∀ b ∈ [3,4,6],(Y.blks.getD b {}).g ∈ p.tmp) (hsm : R.steps.length <= 1000000) {a : Ac} (hA : za3 Y [.int .i64 (.v 26),.int .i64 (.v 27),.int .i64 (.v 28),.int .u64 (.v 29),.int .u64 (.v 30)] = a.cells)
  (hback : ∀ s' F' p' w',p'.gR = p.gR -> ze3 Z s₀ w₀ s' F' w' (Rr.ended Z { R with ths:=R.ths.set t { y with asks:=a } } t { y with asks:=a } m (Y.bools.getD 8 false)) p' -> X.there s' w' -> Jay.Reach Try.prog X Stop s' (c.finish (.tuple #[])) cs w') : Fr.reach Try.prog X Stop s (c :: cs) Y zm7.frs w:=by
 obtain ⟨v2,v3,v6,v7,v8,hcE, -⟩:=h.side.mem
 have htl : t < p.ths.length:=by rw [h.side.tlen]; exact (List.getElem?_eq_some_iff.1 hy).1
 have hx:=List.getElem?_eq_getElem htl
 generalize p.ths[t] = x at hx
 have hrel:=h.side.rel t x y hx hy
 obtain ⟨⟨q0,q1,qR⟩,gT,preT,postT,qT⟩:=zez hr h.core (by rw [hcE]; rfl) hx (hR:=zm7.heap.headD default) (hT:=zm7.heap.tail.headD default) rfl rfl rfl rfl rfl rfl rfl rfl hg ht
 rw [hcE,Array.toList_append] at qR
 have eS:=zas (zdl qR 2 rfl rfl) (hr.rep.row 5 _ _ _ _ rfl rfl).2.2.2.2.2.2
 have eC:=zas (zdl qR 3 rfl rfl) (hr.rep.row 2 _ _ _ _ rfl rfl).2.2.2.2.2.2
 have eOn : SV.den Y (.iface 82 (.y 6)) = x.on:=zdl qT 1 rfl rfl
 have eCall : SV.den Y (.int .i64 (.v 16)) = .int .i64 x.call:=zdl qT 7 rfl rfl
 have eCall' : Y.ints.getD 16 0 = y.call:=by rw [<- hrel.call]; exact (Value.int.inj eCall).2
 rw [hrel.on,hon] at eOn
 have eV : Y.ys.getD 6 .nilFunc = p.vs.getD i .nilFunc:=(Value.iface.inj eOn).2
 have bS:=hr.rep.row 5 _ _ _ _ rfl rfl
 have bC:=hr.rep.row 2 _ _ _ _ rfl rfl
 rw [bS.1] at eS
 rw [bC.1] at eC
 have kS:=(hr.rep.blk 5 _ rfl rfl).2
 have kC:=(hr.rep.blk 2 _ rfl rfl).2
 obtain ⟨pS,nS⟩:=zg9 h.core.s eS kS bS.2.1
 obtain ⟨pC,nC⟩:=zg9 h.core.c eC kC bC.2.1
 have hrb:=hr.rebase
 have hmine : ∀ k,ours Y zm7.heap k -> p.mine k:=zbz ⟨fun _=>.inl hg,fun _=>.inr (.inl gT),fun _=>.inr (.inr (.inr (.inl (by rw [eC]; rfl)))),fun _=>.inr (.inr (.inr (.inr (htmp 3 (by simp))))),fun _=>.inr (.inr (.inr (.inr (htmp 4 (by simp))))),fun _=>.inr (.inr (.inl (by rw [eS]; rfl))),fun _=>.inr (.inr (.inr (.inr (htmp 6 (by simp))))),trivial⟩
 have eL : SV.den Y (.y 7) = x.left:=zdl qT 0 rfl rfl
 have hpre1 : (Y.blks.getD 1 {}).pre = (p.ths.take t).flatMap Th.cells:=preT
 have key : ∀ (Y' : Env) (w' : World) (fa : List (B × Bool)),Ext Y Y' -> Rep X s (ours Y zm7.heap) w Y' p8_0.heap fa 0 w' -> ze3 Z s₀ w₀ s F w' { R with ths:=R.ths.set t { y with asks:=a } } { p with ths:=p.ths.set t { x with asks:=a } }:=by
  intro Y' w' fa hext hr'
  have hside:=h.side.keep (hr'.chg.mono fun k _ hk=>hmine k hk) hr'.there
  have hrel':=hside.rel t x y hx hy
  refine ⟨⟨?_,?_,?_,?_⟩,hside.upd (Nat.le_refl _) ⟨hrel'.on,hrel'.onlt,rfl,hrel'.call,hrel'.left,hrel'.form,hrel'.off⟩,h.nils⟩
  ·have:=zfb hr hr' hext (i:=0) rfl rfl rfl rfl (by rw [hg]; exact h.core.r)
   rw [hg] at this
   simpa only [List.length_set] using this
  ·have h1:=(hr'.rep.blk 1 _ rfl rfl).2
   have hd : za3 Y' ((p8_0.heap.tail.headD default).cs) = Th.cells { x with asks:=a }:=by
    obtain ⟨l,m',rfl⟩:=hext
    rw [zai 7 (by rw [hr.len]; exact Nat.le_refl _) _ rfl]
    show [SV.den Y (.y 7),SV.den Y (.iface 82 (.y 6))] ++ za3 Y [.int .i64 (.v 26),.int .i64 (.v 27),.int .i64 (.v 28),.int .u64 (.v 29),.int .u64 (.v 30)] ++ [SV.den Y (.int .i64 (.v 16))] = _
    rw [hA,eL,eCall,eOn,<- hon,<- hrel.on]
    rfl
   rw [hext.blk (by rw [hr.len]; exact (by decide : 1 < 7)),gT] at h1
   have h3 : Blk w' p.gT 107 ((Y.blks.getD 1 {}).whole (za3 Y' (p8_0.heap.tail.headD default).cs)).toArray:=h1
   rw [show (Y.blks.getD 1 {}).whole (za3 Y' ((p8_0.heap.tail.headD default).cs)) = (Ths (p.ths.set t { x with asks:=a })).toList by rw [hd,Seg.whole,preT,postT]; exact zly htl] at h3
   exact h3
  ·exact zdc h.core.s eS kS (zfb hr hr' hext (i:=5) rfl rfl rfl rfl kS)
  ·exact zdc h.core.c eC kC (zfb hr hr' hext (i:=2) rfl rfl rfl rfl kC)
 refine zaa 900 p8_run hrb ⟨fun Y' w' hext hr'=>?_,fun Y' w' hext hr'=>?_,trivial⟩
 ·have hmore : Y.bools.getD 8 false = true:=by
   have:=hr'.facts (.v 8,true) (by simp [p8_0])
   rw [<- hext.bools]
   exact this
  refine zbx p8_0_end hr'.rep (hback s F { p with ths:=p.ths.set t { x with asks:=a } } w' rfl ?_ hr'.there)
  rw [hmore]
  exact key Y' w' _ hext hr'
 ·have hmore : Y.bools.getD 8 false = false:=by
   have:=hr'.facts (.v 8,false) (by simp [p8_1])
   rw [<- hext.bools]
   exact this
  rw [hmore] at hback
  have h':=key Y' w' _ hext hr'
  have hn' : Y'.blks.length = 7:=hr'.len
  have hlb : Y.blks.length = 7:=hr.len
  refine at9 (t:=t) (i:=i) (y:={ y with asks:=a }) (m:=m) hr' (by
   rw [<- hlen]
   simp only [Env.lens,hext.ints,hext.bools,hext.xs,hext.ys,hn',hlb]) h' (List.getElem?_set_self (List.getElem?_eq_some_iff.1 hy).1) hon hm (by rw [hext.blk (by omega)]; exact hg) (by rw [hext.ints]; exact ht) (fun b hb=>?_) hsm hback
  have : b < 7:=by
   simp only [List.mem_cons,List.not_mem_nil,or_false] at hb
   omega
  rw [hext.blk (by omega)]
  exact htmp b hb
theorem at6 {S : Nat -> Prop} {w₁ : World} {Y : Env} {Stop : γ -> Frame -> List Frame -> World -> Prop} {c : Frame} {cs : List Frame} {s₀ : γ} {w₀ : World} {F : Nat -> Prop} {R : Rr M} {p : Ph} {t i : Nat} {y : Rt} {m : M} (hr : Rep X s S w₁ Y p6.heap p6.facts 0 w) (hlen : Y.lens = ⟨26,8,23,13,6⟩) (h : ze3 Z s₀ w₀ s F w R p)
  (hy : R.ths[t]? = some y) (hon : y.on = some i) (hm : R.ms[i]? = some m) (hg : (Y.blks.getD 0 {}).g = p.gR) (ht : Y.ints.getD 0 0 = (t : Int)) (htmp : ∀ b ∈ [3,4],(Y.blks.getD b {}).g ∈ p.tmp) (hsm : R.steps.length <= 1000000)
  (hback : ∀ s' F' p' w',p'.gR = p.gR -> ze3 Z s₀ w₀ s' F' w' (Rr.told Z R t i y m (Y.ints.getD 24 0) (Y.bools.getD 7 false)) p' -> X.there s' w' -> Jay.Reach Try.prog X Stop s' (c.finish (.tuple #[])) cs w') : Fr.reach Try.prog X Stop s (c :: cs) Y p6.frs w:=by
 obtain ⟨v2,v3,v6,v7,v8,hcE, -⟩:=h.side.mem
 have htl : t < p.ths.length:=by rw [h.side.tlen]; exact (List.getElem?_eq_some_iff.1 hy).1
 have hx:=List.getElem?_eq_getElem htl
 generalize p.ths[t] = x at hx
 have hrel:=h.side.rel t x y hx hy
 obtain ⟨⟨q0,q1,qR⟩,gT,preT,postT,qT⟩:=zez hr h.core (by rw [hcE]; rfl) hx (hR:=p6.heap.headD default) (hT:=p6.heap.tail.headD default) rfl rfl rfl rfl rfl rfl rfl rfl hg ht
 rw [hcE,Array.toList_append] at qR
 have eS:=zas (zdl qR 2 rfl rfl) (hr.rep.row 5 _ _ _ _ rfl rfl).2.2.2.2.2.2
 have eC:=zas (zdl qR 3 rfl rfl) (hr.rep.row 2 _ _ _ _ rfl rfl).2.2.2.2.2.2
 have eOn : SV.den Y (.iface 82 (.y 6)) = x.on:=zdl qT 1 rfl rfl
 rw [hrel.on,hon] at eOn
 have eV : Y.ys.getD 6 .nilFunc = p.vs.getD i .nilFunc:=(Value.iface.inj eOn).2
 obtain ⟨hlt1,hlt2,hlt3⟩:=hrel.onlt i hon
 have hmine : ∀ k,ours Y p6.heap k -> p.mine k:=zbz ⟨fun _=>.inl hg,fun _=>.inr (.inl gT),fun _=>.inr (.inr (.inr (.inl (by rw [eC]; rfl)))),fun _=>.inr (.inr (.inr (.inr (htmp 3 (by simp))))),fun _=>.inr (.inr (.inr (.inr (htmp 4 (by simp))))),fun _=>.inr (.inr (.inl (by rw [eS]; rfl))),trivial⟩
 have hrb:=hr.rebase
 have hlb : Y.blks.length = 6:=hr.len
 have hz : (p.vs.zip R.ms)[i]? = some (p.vs.getD i .nilFunc,m):=by
  rw [List.getElem?_zip_eq_some]
  refine ⟨?_,hm⟩
  have : i < p.vs.length:=by rw [h.side.vlen]; exact hlt1
  simp [List.getD_eq_getElem?_getD,this]
 have kS:=(hr.rep.blk 5 _ rfl rfl).2
 have kC:=(hr.rep.blk 2 _ rfl rfl).2
 have bS:=hr.rep.row 5 _ _ _ _ rfl rfl
 have bC:=hr.rep.row 2 _ _ _ _ rfl rfl
 rw [bS.1] at eS
 rw [bC.1] at eC
 obtain ⟨pC,nC⟩:=zg9 h.core.c eC kC bC.2.1
 generalize hwas : Y.ints.getD 24 0 = was at hback
 generalize hdone : Y.bools.getD 7 false = done at hback
 let n:=Z.next m was done
 let Post : World -> γ -> zf9 -> World -> Prop:=fun w1 s' r w'=>∃ F',r = .back (.tuple #[.agg n.2.1.cells.toArray,.bool n.2.2]) /\ Z.I s' F' w' ((p.vs.zip R.ms).set i (p.vs.getD i .nilFunc,n.1)) /\ Chg F w1 w' /\ (∀ k,F' k -> F k \/ w1.heap.size <= k) /\ ∀ k,k < w1.heap.size -> X.oth s' k -> X.oth s k
 have hset : (p.vs.zip R.ms).set i (p.vs.getD i .nilFunc,n.1) = p.vs.zip (R.ms.set i n.1):=by
  apply List.ext_getElem?
  intro j
  by_cases hj : j = i
  ·subst hj
   have hv : j < p.vs.length:=by rw [h.side.vlen]; exact hlt1
   rw [List.getElem?_set_self (by rw [List.length_zip]; omega)]
   symm
   rw [List.getElem?_zip_eq_some]
   exact ⟨by simp [List.getD_eq_getElem?_getD,hv],List.getElem?_set_self hlt1⟩
  ·rw [List.getElem?_set_ne (Ne.symm hj)]
   simp only [List.zip,List.getElem?_zipWith,List.getElem?_set_ne (Ne.symm hj)]
 have hj : ∀ (Y' : Env) (w1 : World) (h1 : List HB),Ext Y Y' -> Rep X s (ours Y p6.heap) w Y' h1 p6.facts 0 w1 -> Jdo Try.prog X 84 (za3 Y' [.y 6,.int .u64 (.v 24),.bool (.v 7)]).toArray s w1 (Post w1):=by
  intro Y' w1 h1 hx' hr'
  have side1:=h.side.keep (hr'.chg.mono fun k _ hk=>hmine k hk) hr'.there
  have:=Z.next_ok i _ m was done side1.i hz
  rwa [show (za3 Y' [.y 6,.int .u64 (.v 24),.bool (.v 7)]).toArray = #[p.vs.getD i .nilFunc,.int .u64 was,.bool done] by
   show #[Y'.ys.getD 6 .nilFunc,.int .u64 (Y'.ints.getD 24 0),.bool (Y'.bools.getD 7 false)] = _
   rw [hx'.ys,hx'.ints,hx'.bools,eV,hwas,hdone]]
 have hli : Y.ints.length = 26:=congrArg zfa.ni hlen
 have hlbo : Y.bools.length = 8:=congrArg zfa.nb hlen
 have hlx : Y.xs.length = 23:=congrArg zfa.nx hlen
 have hly : Y.ys.length = 13:=congrArg zfa.ny hlen
 have hb : ∀ (Y' : Env) (w1 : World) (h1 : List HB) (nk : Nat),Ext Y Y' -> Rep X s (ours Y p6.heap) w Y' h1 p6.facts 0 w1 -> h1.length = nk -> (nk = 6 \/ nk = 7) -> h1.all (fun x=>x.wr) = true -> zdn ⟨26,8,23,13,nk⟩ h1 = true -> ∀ s' v w',Post w1 s' (.back v) w' -> X.there s' w' -> ∃ (S' : Nat -> Prop) (w₁ : World) (ai : List Int) (ab : List Bool) (ax ay : List Value),v = (SV.tup [.agg [.int .i64 (.v 26),.int .i64 (.v 27),.int .i64 (.v 28),.int .u64 (.v 29),.int .u64 (.v 30)],.bool (.v 8)]).den (Y'.grow ai ab ax ay []) /\ Rep X s' S' w₁ (Y'.grow ai ab ax ay []) h1 p6.facts 0 w' /\
   ∀ Y'' w'',Ext (Y'.grow ai ab ax ay []) Y'' -> Rep X s' S' w₁ Y'' zm7.heap p6.facts 0 w'' -> Fr.reach Try.prog X Stop s' (c :: cs) Y'' zm7.frs w'':=by
  intro Y' w1 h1 nk hx' hr' hk hk6 hwr hok s' v w' hp ht'
  obtain ⟨F',e,hI,hch,hF',ho⟩:=hp
  cases e
  rw [hset] at hI
  have hlb' : Y'.blks.length = nk:=hr'.len.trans hk
  have hk7:=hk6
  replace hk6 : 6 <= nk:=by omega
  have hL' : Y'.lens = ⟨26,8,23,13,nk⟩:=by simp only [Env.lens,hx'.ints,hx'.bools,hx'.xs,hx'.ys,hlb',hli,hlbo,hlx,hly]
  have hS1 : ∀ k,ours Y p6.heap k -> p.mine k:=hmine
  have side0:=h.side.keep (hr'.chg.mono fun k _ hk=>hmine k hk) hr'.there
  let l1 : List Nat:=(List.range nk).map (fun j=>(Y'.blks.getD j {}).g) ++ p.tmp
  have hin1 : ∀ j hb,h1[j]? = some hb -> hb.wr = true -> p.mine (Y'.blks.getD j {}).g \/ w.heap.size <= (Y'.blks.getD j {}).g /\ (Y'.blks.getD j {}).g < w1.heap.size /\ ¬ X.oth s (Y'.blks.getD j {}).g:=fun j hb e hw=>by
   rcases hr'.inS j hb e hw with h2 | h2
   ·exact .inl (hmine _ h2)
   ·exact .inr ⟨h2,hr'.bnd j (List.getElem?_eq_some_iff.1 e).1,hr'.own j hb e hw⟩
  have hin : ∀ j,j < nk -> p.mine (Y'.blks.getD j {}).g \/ w.heap.size <= (Y'.blks.getD j {}).g /\ (Y'.blks.getD j {}).g < w1.heap.size /\ ¬ X.oth s (Y'.blks.getD j {}).g:=fun j hj=>by
   have e : h1[j]? = some (h1[j]'(by omega)):=List.getElem?_eq_getElem _
   exact hin1 j _ e (List.all_eq_true.1 hwr _ (List.mem_of_getElem? e))
  have hlv : h1.all (fun x=>!x.live || x.wr) = true:=List.all_eq_true.2 fun x hx=>by rw [List.all_eq_true.1 hwr x hx,Bool.or_true]
  have side1:=h.side.temps (hr'.chg.mono fun k _ hk=>hmine k hk) hr'.there l1 (fun g hg'=>by
   rcases List.mem_append.1 hg' with h2 | h2
   ·obtain ⟨j,hj,rfl⟩:=List.mem_map.1 h2
    exact hin j (List.mem_range.1 hj)
   ·exact .inl (.inr (.inr (.inr (.inr h2)))))
  have side2:=side1.foreign hI hch ht' hF' ho (by rw [List.length_set]; exact h.side.vlen) h.side.vone (Nat.le_of_eq (by rw [List.length_set])) (fun _ _=>rfl)
  have hr2:=hr'.foreign hch ht' ho (h.side.apart hr' hmine hlv)
  refine ⟨ours Y' h1,w',[n.2.1.d,n.2.1.ar,n.2.1.at_,n.2.1.old,n.2.1.new],[n.2.2],[],[],?_,hr2.grow_ hL' hok rfl _ _ _ _ (fun v hv=>by cases hv),fun Y'' w'' hx'' hr''=>?_⟩
  ·simp [SV.den,za3,E.den,B.den,Env.grow,List.getElem?_append_right,hx'.ints,hx'.bools,hli,hlbo,Ac.cells]
  ·have hseg : ∀ j,j < 6 -> Y''.blks.getD j {} = Y.blks.getD j {}:=fun j hj=>by
    rw [hx''.blk (by simp [Env.grow]; omega)]
    show (Y'.blks ++ []).getD j {} = _
    rw [List.append_nil,hx'.blk (by omega)]
   have hdd : ∀ l,zdp ⟨26,8,23,13,6⟩ l = true -> zdp ⟨26,8,23,13,7⟩ l = true -> scs 6 l = true -> za3 Y'' l = za3 Y l:=fun l a1 a2 a3=>by
    have e1 : za3 Y'' l = za3 (Y'.grow [n.2.1.d,n.2.1.ar,n.2.1.at_,n.2.1.old,n.2.1.new] [n.2.2] [] [] []) l:=by obtain ⟨_,_,rfl⟩:=hx''; exact zai 6 (by simp [Env.grow]; omega) l a3
    have e2 : za3 (Y'.grow [n.2.1.d,n.2.1.ar,n.2.1.at_,n.2.1.old,n.2.1.new] [n.2.2] [] [] []) l = za3 Y' l:=zb4 l (by rw [hL']; rcases hk7 with e | e <;> rw [e] <;> assumption)
    have e3 : za3 Y' l = za3 Y l:=by obtain ⟨_,_,rfl⟩:=hx'; exact zai 6 (by omega) l a3
    rw [e1,e2,e3]
   have hours : ∀ k,ours Y' h1 k -> Ph.mine { p with tmp:=l1,vs:=p.vs } k:=by
    rintro k ⟨j,hb,hj,_,rfl⟩
    refine .inr (.inr (.inr (.inr (List.mem_append_left _ (List.mem_map.2 ⟨j,List.mem_range.2 ?_,rfl⟩)))))
    rw [<- hk]
    exact (List.getElem?_eq_some_iff.1 hj).1
   have side3:=side2.temps (hr''.chg.mono fun k _ hk=>hours k hk) hr''.there ((Y''.blks.getD 6 {}).g :: l1) (fun g hg'=>by
    rcases List.mem_cons.1 hg' with rfl | h2
    ·rcases hr''.inS 6 _ rfl rfl with h3 | h3
     ·exact .inl (hours _ h3)
     ·exact .inr ⟨h3,hr''.bnd 6 (by decide),hr''.own 6 _ rfl rfl⟩
    ·exact .inl (.inr (.inr (.inr (.inr h2)))))
   have hg3 : ∀ b ∈ [3,4,6],(Y''.blks.getD b {}).g ∈ (Y''.blks.getD 6 {}).g :: l1:=fun b hb=>by
    simp only [List.mem_cons,List.not_mem_nil,or_false] at hb
    rcases hb with rfl | rfl | rfl
    ·rw [hseg 3 (by decide)]; exact List.mem_cons_of_mem _ (List.mem_append_right _ (htmp 3 (by simp)))
    ·rw [hseg 4 (by decide)]; exact List.mem_cons_of_mem _ (List.mem_append_right _ (htmp 4 (by simp)))
    ·exact List.mem_cons_self ..
   have hrun : ze3 Z s₀ w₀ s' F' w'' { R with ms:=R.ms.set i n.1 } { p with tmp:=(Y''.blks.getD 6 {}).g :: l1 }:=by
    refine ⟨⟨?_,?_,?_,?_⟩,side3,.inr ⟨_,_,_,_,_,_,eS,eC⟩⟩
    ·have:=zdj hr hr'' (i:=0) (hseg 0 (by decide)) (hdd _ (by kernel_rfl) (by kernel_rfl) (by kernel_rfl)) rfl rfl rfl (by rw [hg]; exact h.core.r)
     rwa [hg] at this
    ·have:=zdj hr hr'' (i:=1) (hseg 1 (by decide)) (hdd _ (by kernel_rfl) (by kernel_rfl) (by kernel_rfl)) rfl rfl rfl (by rw [gT]; exact h.core.t)
     rwa [gT] at this
    ·exact zdc h.core.s eS kS (zdj hr hr'' (i:=5) (hseg 5 (by decide)) (hdd _ (by kernel_rfl) (by kernel_rfl) (by kernel_rfl)) rfl rfl rfl kS)
    ·exact zdc h.core.c eC kC (zdj hr hr'' (i:=2) (hseg 2 (by decide)) (hdd _ (by kernel_rfl) (by kernel_rfl) (by kernel_rfl)) rfl rfl rfl kC)
   have hi'' : Y''.ints = Y.ints ++ [n.2.1.d,n.2.1.ar,n.2.1.at_,n.2.1.old,n.2.1.new]:=by rw [hx''.ints]; show Y'.ints ++ _ = _; rw [hx'.ints]
   have hb'' : Y''.bools = Y.bools ++ [n.2.2]:=by rw [hx''.bools]; show Y'.bools ++ _ = _; rw [hx'.bools]
   have hge : ∀ j,j < 26 -> Y''.ints.getD j 0 = Y.ints.getD j 0:=fun j hj=>by rw [hi'']; exact zb6 _ _ _ _ (by omega)
   have hgn : ∀ j,Y''.ints.getD (26 + j) 0 = [n.2.1.d,n.2.1.ar,n.2.1.at_,n.2.1.old,n.2.1.new].getD j 0:=fun j=>by
    rw [hi'']
    simp only [List.getD_eq_getElem?_getD]
    rw [List.getElem?_append_right (by omega),hli,Nat.add_sub_cancel_left]
   have hmore : Y''.bools.getD 8 false = n.2.2:=by
    rw [hb'']
    simp only [List.getD_eq_getElem?_getD]
    rw [List.getElem?_append_right (by omega),hlbo]
    rfl
   have eCall : SV.den Y (.int .i64 (.v 16)) = .int .i64 x.call:=zdl qT 7 rfl rfl
   have eCall' : Y.ints.getD 16 0 = y.call:=by rw [<- hrel.call]; exact (Value.int.inj eCall).2
   refine at8 (t:=t) (i:=i) (y:=y) (m:=n.1) (a:=n.2.1) (hr''.know (za5 ⟨decide_eq_true (by show (0 : Int) <= Y''.ints.getD 16 0; rw [hge 16 (by decide),eCall']; exact hlt2),decide_eq_true (by
    show Y''.ints.getD 16 0 < ((Y''.ints.getD 4 0).toNat : Int)
    have : (Y.ints.getD 4 0).toNat = R.calls.length:=nC.symm
    rw [hge 16 (by decide),hge 4 (by decide),eCall',this]
    omega),trivial⟩)) ?_ hrun hy hon (List.getElem?_set_self hlt1) (by rw [hseg 0 (by decide)]; exact hg) (by rw [hge 0 (by decide)]; exact ht) hg3 hsm ?_ ?_
   ·have h7 : Y''.blks.length = 7:=hr''.len
    simp only [Env.lens,hi'',hb'',hx''.xs,hx''.ys,h7,List.length_append,hli,hlbo]
    simp [Env.grow,hx'.xs,hx'.ys,hlx,hly]
   ·show [Value.int .i64 (Y''.ints.getD (26 + 0) 0),.int .i64 (Y''.ints.getD (26 + 1) 0),.int .i64 (Y''.ints.getD (26 + 2) 0),.int .u64 (Y''.ints.getD (26 + 3) 0),.int .u64 (Y''.ints.getD (26 + 4) 0)] = _
    rw [hgn 0,hgn 1,hgn 2,hgn 3,hgn 4]
    rfl
   ·intro s3 F3 p3 w3 hg4 hrun3 ht3
    rw [hmore] at hrun3
    exact hback s3 F3 p3 w3 hg4 hrun3 ht3
 refine zme p6_kd [8,12] [(8,p6_ordA),(12,p6_ordB)] rfl p6_code rfl p6_ok hrb ⟨?_,?_,trivial⟩
 ·exact zbm (k:=(p6.frs.headD default).todo.tail) 900 (fun Y'=>(za3 Y' zo7).toArray) (.tup [.agg [.int .i64 (.v 26),.int .i64 (.v 27),.int .i64 (.v 28),.int .u64 (.v 29),.int .u64 (.v 30)],.bool (.v 8)]) p7a1_grp p7a2_grp (zcg [8] [] _) p7a_at p7a_kdi p7a_gd p7a_set (fun Y' w hx=>zbs p7a_call p7a_fresh Y' w) hrb (L:=⟨26,8,23,13,6⟩) (by rw [hlen]; rfl) (by kernel_rfl) rfl (Post:=fun _=>Post) (fun Y' w1 hx' hr'=>hj Y' w1 _ hx' hr') (fun Y' w1 hx' hr'=>hb Y' w1 _ 6 hx' hr' rfl (.inl rfl) rfl (by kernel_rfl)) (fun Y' w1 s' ch w' hp=>by obtain ⟨_,e,_⟩:=hp; cases e)
 ·exact zbm (k:=(p6.frs.headD default).todo.tail) 900 (fun Y'=>(za3 Y' zo5).toArray) (.tup [.agg [.int .i64 (.v 26),.int .i64 (.v 27),.int .i64 (.v 28),.int .u64 (.v 29),.int .u64 (.v 30)],.bool (.v 8)]) p7b1_grp p7b2_grp (zcg [8] [] _) p7b_at p7b_kdi p7b_gd p7b_set (fun Y' w hx=>zbs p7b_call p7b_fresh Y' w) hrb (L:=⟨26,8,23,13,7⟩) (by rw [hlen]; rfl) (by kernel_rfl) rfl (Post:=fun _=>Post) (fun Y' w1 hx' hr'=>hj Y' w1 _ hx' hr') (fun Y' w1 hx' hr'=>hb Y' w1 _ 7 hx' hr' rfl (.inr rfl) rfl (by kernel_rfl)) (fun Y' w1 s' ch w' hp=>by obtain ⟨_,e,_⟩:=hp; cases e)
end
end
section
section
variable {γ : Type} {X : zad γ} {s' s : γ} {w : World} {M : Type} {Z : Fam X M}
theorem at5pk {S : Nat -> Prop} {w₁ : World} {Y : Env} {Stop : γ -> Frame -> List Frame -> World -> Prop} {c : Frame} {cs : List Frame} {s₀ : γ} {w₀ : World} {F : Nat -> Prop} {R : Rr M} {p : Ph} {t i : Nat} {y : Rt} {m : M} (hr : Rep X s S w₁ Y pk5.heap pk5.facts 0 w) (hlen : Y.lens = ⟨20,7,12,8,6⟩) (hcore : Core Z w R p) (hside : zhm Z s₀ w₀ s F w R p)
  (hy : R.ths[t]? = some y) (hon : y.on = some i) (hm : R.ms[i]? = some m) (hg : (Y.blks.getD 0 {}).g = p.gR) (ht : Y.ints.getD 0 0 = (t : Int)) (htmp : ∀ b ∈ [4,5],(Y.blks.getD b {}).g ∈ p.tmp) (hsm : R.steps.length < 1000000)
  (hback : ∀ s' F' p' w',p'.gR = p.gR -> ze3 Z s₀ w₀ s' F' w' (Rr.go Z R t i y m) p' -> X.there s' w' -> Jay.Reach Try.prog X Stop s' (c.finish (.tuple #[])) cs w') : Fr.reach Try.prog X Stop s (c :: cs) Y pk5.frs w:=by
 obtain ⟨v2,v3,v6,v7,v8,hcE, -⟩:=hside.mem
 have htl : t < p.ths.length:=by rw [hside.tlen]; exact (List.getElem?_eq_some_iff.1 hy).1
 have hx:=List.getElem?_eq_getElem htl
 generalize p.ths[t] = x at hx
 have hrel:=hside.rel t x y hx hy
 obtain ⟨⟨q0,q1,qR⟩,gT,preT,postT,qT⟩:=zez hr hcore (by rw [hcE]; rfl) hx (hR:=pk5.heap.headD default) (hT:=pk5.heap.tail.headD default) rfl rfl rfl rfl rfl rfl rfl rfl hg ht
 have qR':=qR
 rw [hcE,Array.toList_append] at qR
 have eC:=zas (zdl qR 3 rfl rfl) (hr.rep.row 2 _ _ _ _ rfl rfl).2.2.2.2.2.2
 have bC:=hr.rep.row 2 _ _ _ _ rfl rfl
 have kC:=(hr.rep.blk 2 _ rfl rfl).2
 rw [bC.1] at eC
 obtain ⟨pC,nC⟩:=zg9 hcore.c eC kC bC.2.1
 have hlb : Y.blks.length = 6:=hr.len
 have hli : Y.ints.length = 20:=congrArg zfa.ni hlen
 have hlbo : Y.bools.length = 7:=congrArg zfa.nb hlen
 have hlx : Y.xs.length = 12:=congrArg zfa.nx hlen
 have hly : Y.ys.length = 8:=congrArg zfa.ny hlen
 have eS:=zas (zdl qR 2 rfl rfl) (hr.rep.row 3 _ _ _ _ rfl rfl).2.2.2.2.2.2
 have bS:=hr.rep.row 3 _ _ _ _ rfl rfl
 have kS:=(hr.rep.blk 3 _ rfl rfl).2
 rw [bS.1] at eS
 obtain ⟨pS,nS⟩:=zg9 hcore.s eS kS bS.2.1
 have hmn : ∀ j,j < 6 -> p.mine (Y.blks.getD j {}).g:=fun j hj=>by
  rcases j with _ | _ | _ | _ | _ | _ | j
  ·exact .inl hg
  ·exact .inr (.inl gT)
  ·exact .inr (.inr (.inr (.inl (by rw [eC]; rfl))))
  ·exact .inr (.inr (.inl (by rw [eS]; rfl)))
  ·exact .inr (.inr (.inr (.inr (htmp 4 (by simp)))))
  ·exact .inr (.inr (.inr (.inr (htmp 5 (by simp)))))
  ·omega
 have hours : ∀ (h : List HB),h.length = 6 -> ∀ (Y' : Env) (k : Nat),(∀ j,j < 6 -> Y'.blks.getD j {} = Y.blks.getD j {}) -> ours Y' h k -> p.mine k:=fun h hl Y' k hs hk=>by
  obtain ⟨j,hb,hj,_,rfl⟩:=hk
  have:=(List.getElem?_eq_some_iff.1 hj).1
  rw [hs j (by omega)]
  exact hmn j (by omega)
 have hold : zd9 Y (some 3) = R.steps.flatMap Rp.Sp.cells:=pS
 have hLn : ((E.ad (.tn (.v 3)) (.lit 1)).den Y).toNat = R.steps.length + 1:=by
  show ((((Y.ints.getD 3 0).toNat : Int)) + 1).toNat = _
  have : (Y.ints.getD 3 0).toNat = R.steps.length:=nS.symm
  rw [this]
  omega
 have hrb:=hr.rebase
 have hE : za3 Y [.int .u64 (.v 5),.int .u64 (.v 6),.y 1,.y 2,.int .u64 (.v 7),.int .u64 (.v 8),.y 3,.y 4,.y 5] = p.cE.toList:=by
  have:=congrArg (List.drop 4) qR'
  rw [Array.toList_append] at this
  exact this
 have hA : za3 Y [.int .i64 (.v 11),.int .i64 (.v 12),.int .i64 (.v 13),.int .u64 (.v 14),.int .u64 (.v 15)] = y.asks.cells:=by
  have:=congrArg (fun l=>(l.drop 2).take 5) qT
  rw [<- hrel.asks]
  exact this
 let a:=R.mem.act y.asks.d y.asks.ar y.asks.at_ y.asks.old y.asks.new
 let Post : World -> γ -> zf9 -> World -> Prop:=fun w1 s' r w'=>s' = s /\ Below w1.heap.size w1 w' /\ ∃ cs',r = .back (.tuple #[.agg cs',.int .u64 a.2.1,.bool a.2.2]) /\ zbb w' w'.heap.size a.1 cs' /\ Far w1 p.cE cs'
 refine zmf pk5_kd pk5_ord rfl pk5_code rfl pk5_ok hrb ?_
 refine zbm (k:=(pk5.frs.headD default).todo.tail) 900 (fun Y'=>(za3 Y' zgu).toArray) (.tup [.agg [.int .u64 (.v 20),.int .u64 (.v 21),.y 8,.y 9,.int .u64 (.v 22),.int .u64 (.v 23),.y 10,.y 11,.y 12],.int .u64 (.v 24),.bool (.v 7)]) pk51_grp pk52_grp (zcg [10] [] _) pk5_at pk5_kdi pk5_gd pk5_set (fun Y' w hx=>zbs pk5_call pk5_fresh Y' w) hrb (L:=⟨20,7,12,8,6⟩) (by rw [hlen]; rfl) (by kernel_rfl) rfl (Post:=fun _=>Post) ?_ ?_ (fun Y' w1 s' ch w' hp=>by obtain ⟨_,_,_,e,_⟩:=hp; cases e)
 ·intro Y' w1 hx' hr'
  have side1:=hside.keep (hr'.chg.mono fun k _ hk=>hours pk5.heap rfl Y k (fun _ _=>rfl) hk) hr'.there
  have:=act2 (X:=X) (s:=s) (d:=y.asks.d) (ar:=y.asks.ar) (at_:=y.asks.at_) (old:=y.asks.old) (new:=y.asks.new) side1.mem (Nat.le_refl _) side1.small
  rwa [show (za3 Y' zgu).toArray = #[.agg p.cE,.agg (acc y.asks.d y.asks.ar y.asks.at_ y.asks.old y.asks.new)] by
   have e1 : za3 Y' zgu = za3 Y zgu:=by obtain ⟨_,_,rfl⟩:=hx'; exact zai 6 (by omega) _ (by kernel_rfl)
   rw [e1]
   show #[Value.agg (za3 Y [.int .u64 (.v 5),.int .u64 (.v 6),.y 1,.y 2,.int .u64 (.v 7),.int .u64 (.v 8),.y 3,.y 4,.y 5]).toArray,Value.agg (za3 Y [.int .i64 (.v 11),.int .i64 (.v 12),.int .i64 (.v 13),.int .u64 (.v 14),.int .u64 (.v 15)]).toArray] = _
   rw [hE,hA]
   rfl]
 ·intro Y' w1 hx' hr' s' v w2 hp ht2
  obtain ⟨rfl,hb2,cs',e,hm',hfar⟩:=hp
  cases e
  have side1:=hside.keep (hr'.chg.mono fun k _ hk=>hours pk5.heap rfl Y k (fun _ _=>rfl) hk) hr'.there
  have side2:=side1.acted hb2 ht2 hm' (zho side1.small _ _ _ _ _) hfar
  obtain ⟨w2',w3',w6',w7',w8',hcs,u2,u3,u6,u7,u8⟩:=hm'
  have h1 : ∀ {v xs},Us w2 w2.heap.size v xs -> v.oneCell' = true:=fun hu=>by obtain ⟨A,c,rfl,_⟩:=Sl.form hu; rfl
  have hlb' : Y'.blks.length = 6:=hr'.len
  have hL' : Y'.lens = ⟨20,7,12,8,6⟩:=by simp only [Env.lens,hx'.ints,hx'.bools,hx'.xs,hx'.ys,hlb',hli,hlbo,hlx,hly]
  refine ⟨ours Y' zo4,w2,[a.1.e,a.1.f,a.1.h,a.1.t,a.2.1],[a.2.2],[],[w2',w3',w6',w7',w8'],?_,(hr'.below hb2).rebase.grow_ hL' (by kernel_rfl) rfl _ _ _ _ (zb9 ⟨h1 u2,h1 u3,h1 u6,h1 u7,h1 u8,trivial⟩),fun Y'' w'' hx'' hr''=>?_⟩
  ·rw [hcs]
   simp [SV.den,za3,E.den,B.den,Env.grow,List.getElem?_append_right,hx'.ints,hx'.bools,hx'.ys,hli,hlbo,hly]
  refine zaa 900 pk6_run hr'' ⟨fun Y4 w4 hx4 hr4=>?_,trivial⟩
  have hi4 : Y4.ints = Y.ints ++ [a.1.e,a.1.f,a.1.h,a.1.t,a.2.1]:=by rw [hx4.ints,hx''.ints]; show Y'.ints ++ _ = _; rw [hx'.ints]
  have hb4 : Y4.bools = Y.bools ++ [a.2.2]:=by rw [hx4.bools,hx''.bools]; show Y'.bools ++ _ = _; rw [hx'.bools]
  have hy4 : Y4.ys = Y.ys ++ [w2',w3',w6',w7',w8']:=by rw [hx4.ys,hx''.ys]; show Y'.ys ++ _ = _; rw [hx'.ys]
  have hn'' : 6 <= Y''.blks.length:=by rw [hr''.len]; decide
  have hseg : ∀ j,j < 6 -> Y4.blks.getD j {} = Y.blks.getD j {}:=fun j hj=>by
   rw [hx4.blk (by omega),hx''.blk (by simp [Env.grow]; omega)]
   show (Y'.blks ++ []).getD j {} = _
   rw [List.append_nil,hx'.blk (by omega)]
  have hdd : ∀ l,zdp ⟨20,7,12,8,6⟩ l = true -> scs 6 l = true -> za3 Y4 l = za3 Y l:=fun l a1 a3=>by
   have e0 : za3 Y4 l = za3 Y'' l:=by obtain ⟨_,_,rfl⟩:=hx4; exact zai 6 hn'' l a3
   have e1 : za3 Y'' l = za3 (Y'.grow [a.1.e,a.1.f,a.1.h,a.1.t,a.2.1] [a.2.2] [] [w2',w3',w6',w7',w8'] []) l:=by obtain ⟨_,_,rfl⟩:=hx''; exact zai 6 (by simp [Env.grow]; omega) l a3
   have e2 : za3 (Y'.grow [a.1.e,a.1.f,a.1.h,a.1.t,a.2.1] [a.2.2] [] [w2',w3',w6',w7',w8'] []) l = za3 Y' l:=zb4 l (by rw [hL']; exact a1)
   have e3 : za3 Y' l = za3 Y l:=by obtain ⟨_,_,rfl⟩:=hx'; exact zai 6 (by omega) l a3
   rw [e0,e1,e2,e3]
  have hge : ∀ j,j < 20 -> Y4.ints.getD j 0 = Y.ints.getD j 0:=fun j hj=>by rw [hi4]; exact zb6 _ _ _ _ (by omega)
  have hgn : ∀ j,Y4.ints.getD (20 + j) 0 = [a.1.e,a.1.f,a.1.h,a.1.t,a.2.1].getD j 0:=fun j=>by
   rw [hi4]
   simp only [List.getD_eq_getElem?_getD]
   rw [List.getElem?_append_right (by omega),hli,Nat.add_sub_cancel_left]
  have hgy : ∀ j,Y4.ys.getD (8 + j) .nilFunc = [w2',w3',w6',w7',w8'].getD j .nilFunc:=fun j=>by
   rw [hy4]
   simp only [List.getD_eq_getElem?_getD]
   rw [List.getElem?_append_right (by omega),hly,Nat.add_sub_cancel_left]
  have hdone : Y4.bools.getD 7 false = a.2.2:=by
   rw [hb4]
   simp only [List.getD_eq_getElem?_getD]
   rw [List.getElem?_append_right (by omega),hlbo]
   rfl
  let vS' : Value:=(SV.sl (.blk 7) (E.ad (.tn (.v 3)) (.lit 1)) (.of 7 8)).den Y4
  have rN:=hr4.rep.row 7 _ _ _ _ rfl rfl
  have kN:=(hr4.rep.blk 7 _ rfl rfl).2
  have eN : vS' = .slice (some ⟨(Y4.blks.getD 7 {}).g,(Y4.blks.getD 7 {}).b0,none⟩) ((E.ad (.tn (.v 3)) (.lit 1)).den Y4).toNat (Y4.blks.getD 7 {}).cap:=zas rfl rN.2.2.2.2.2.2
  rw [rN.1] at eN
  have hmS : ∀ k,ours Y' zo4 k -> p.mine k:=fun k hk=>hours zo4 rfl Y' k (fun j hj=>hx'.blk (by omega)) hk
  have hnew : p.mine (Y4.blks.getD 7 {}).g \/ w2.heap.size <= (Y4.blks.getD 7 {}).g /\ (Y4.blks.getD 7 {}).g < w4.heap.size /\ ¬ X.oth s' (Y4.blks.getD 7 {}).g:=by
   rcases hr4.inS 7 _ rfl rfl with h2 | h2
   ·exact .inl (hmS _ h2)
   ·exact .inr ⟨h2,hr4.bnd 7 (by decide),hr4.own 7 _ rfl rfl⟩
  let st : Rp.Sp:=⟨t,y.asks.d,y.asks.ar,y.asks.at_,y.asks.old,y.asks.new,a.2.1,a.2.2⟩
  have g0 : (Y4.blks.getD 0 {}).g = p.gR:=by rw [hseg 0 (by decide)]; exact hg
  have g1 : (Y4.blks.getD 1 {}).g = p.gT:=by rw [hseg 1 (by decide)]; exact gT
  have g2 : p.vC.ownBlock = some (Y4.blks.getD 2 {}).g:=by rw [hseg 2 (by decide),eC]; rfl
  have n0:=hr4.nd 0 7 _ _ rfl rfl rfl rfl (by decide)
  have n1:=hr4.nd 1 7 _ _ rfl rfl rfl rfl (by decide)
  have n2:=hr4.nd 2 7 _ _ rfl rfl rfl rfl (by decide)
  rw [g0] at n0
  rw [g1] at n1
  have side4:=side2.stepped (hr4.chg.mono fun k _ hk=>hmS k hk) hr4.there (vS':=vS') (g':=(Y4.blks.getD 7 {}).g) p.tmp (R.steps ++ [st]) (by rw [eN]; rfl) (fun g hg'=>by
   rcases List.mem_cons.1 hg' with rfl | h2
   ·exact hnew
   ·exact .inl (.inr (.inr (.inr (.inr h2))))) (Ne.symm n0) (Ne.symm n1) (fun e=>n2 (Option.some.inj (g2.symm.trans e)))
  have hrun : ze3 Z s₀ w₀ s' F w4 (R.act t y) { p with cE:=cs',vS:=vS' }:=by
   refine ⟨⟨?_,?_,?_,?_⟩,side4,.inr ⟨_,_,_,_,_,_,eN,eC⟩⟩
   ·have h3:=(hr4.rep.blk 0 _ rfl rfl).2
    rw [hseg 0 (by decide)] at h3
    have h4 : Blk w4 (Y.blks.getD 0 {}).g 105 ((Y.blks.getD 0 {}).whole (za3 Y4 [.y 0,.sl (.blk 1) (.v 1) (.e (.v 2))] ++ [vS'] ++ za3 Y4 [.sl (.blk 2) (.v 4) (.of 2 7)] ++ za3 Y4 [.int .u64 (.v 20),.int .u64 (.v 21),.y 8,.y 9,.int .u64 (.v 22),.int .u64 (.v 23),.y 10,.y 11,.y 12])).toArray:=h3
    have d1 : za3 Y4 [.y 0,.sl (.blk 1) (.v 1) (.e (.v 2))] = [fbV Z,.slice (some ⟨p.gT,0,none⟩) R.ths.length p.tcap]:=by
     rw [hdd _ (by kernel_rfl) (by kernel_rfl)]
     exact congrArg (List.take 2) qR
    have d2 : za3 Y4 [.sl (.blk 2) (.v 4) (.of 2 7)] = [p.vC]:=by
     rw [hdd _ (by kernel_rfl) (by kernel_rfl)]
     exact congrArg (fun l=>(l.drop 3).take 1) qR
    have d3 : za3 Y4 [.int .u64 (.v 20),.int .u64 (.v 21),.y 8,.y 9,.int .u64 (.v 22),.int .u64 (.v 23),.y 10,.y 11,.y 12] = cs'.toList:=by
     rw [hcs]
     show [Value.int .u64 (Y4.ints.getD (20 + 0) 0),.int .u64 (Y4.ints.getD (20 + 1) 0),Y4.ys.getD (8 + 0) .nilFunc,Y4.ys.getD (8 + 1) .nilFunc,.int .u64 (Y4.ints.getD (20 + 2) 0),.int .u64 (Y4.ints.getD (20 + 3) 0),Y4.ys.getD (8 + 2) .nilFunc,Y4.ys.getD (8 + 3) .nilFunc,Y4.ys.getD (8 + 4) .nilFunc] = _
     rw [hgn 0,hgn 1,hgn 2,hgn 3,hgy 0,hgy 1,hgy 2,hgy 3,hgy 4]
     rfl
    rw [d1,d2,d3,hg] at h4
    rw [show (Y.blks.getD 0 {}).whole ([fbV Z,.slice (some ⟨p.gT,0,none⟩) R.ths.length p.tcap] ++ [vS'] ++ [p.vC] ++ cs'.toList) = (#[fbV Z,.slice (some ⟨p.gT,0,none⟩) R.ths.length p.tcap,vS',p.vC] ++ cs').toList by rw [Seg.whole,q0,q1,Array.toList_append]; simp] at h4
    exact h4
   ·have:=zdj hr hr4 (i:=1) (hseg 1 (by decide)) (hdd _ (by kernel_rfl) (by kernel_rfl)) rfl rfl rfl (by rw [gT]; exact hcore.t)
    rwa [gT] at this
   ·have hpre : (Y4.blks.getD 7 {}).pre = (R.steps ++ [st]).flatMap Rp.Sp.cells:=by
     rw [hr4.aps 7 _ _ _ rfl rfl]
     have e1 : zd9 Y4 (some 3) = zd9 Y (some 3):=by first | rfl | exact congrArg Seg.pre (hseg 3 (by decide))
     rw [e1,hold,List.flatMap_append]
     congr 1
     show za3 Y4 [.int .i64 (.v 0)] ++ za3 Y4 [.int .i64 (.v 11),.int .i64 (.v 12),.int .i64 (.v 13),.int .u64 (.v 14),.int .u64 (.v 15)] ++ [Value.int .u64 (Y4.ints.getD (20 + 4) 0),.bool (Y4.bools.getD 7 false)] = _
     rw [hdd [.int .i64 (.v 0)] (by kernel_rfl) (by kernel_rfl),hdd _ (by kernel_rfl) (by kernel_rfl),hA,hgn 4,hdone]
     show [Value.int .i64 (Y.ints.getD 0 0)] ++ _ ++ _ = _
     rw [ht]
     rfl
    have hLn4 : ((E.ad (.tn (.v 3)) (.lit 1)).den Y4).toNat = R.steps.length + 1:=by
     rw [<- hLn]
     first | rfl | (show ((((Y4.ints.getD 3 0).toNat : Int)) + 1).toNat = ((((Y.ints.getD 3 0).toNat : Int)) + 1).toNat; rw [hge 3 (by decide)])
    have h5:=zbc (w:=w4) (t:=63) (size:=8) (q:=Y4.blks.getD 7 {}) kN rN.2.1 rN.2.2.2.1 rN.2.2.2.2.1 rN.2.2.2.2.2.1
    rw [hpre] at h5
    show w4.ownsRow 0 _ 8 vS' (R.steps ++ [st]).length _
    rw [eN,List.length_append]
    rw [hLn4] at h5 ⊢
    exact h5
   ·exact zdc hcore.c eC kC (zdj hr hr4 (i:=2) (hseg 2 (by decide)) (hdd _ (by kernel_rfl) (by kernel_rfl)) rfl rfl rfl kC)
  refine zkh pk6_sub_fits hr4 fun hr6=>at6 (t:=t) (i:=i) (y:=y) (m:=m) hr6 (by rw [Sub.env_lens]; kernel_rfl) hrun hy hon hm g0 (by show Y4.ints.getD 0 0 = _; rw [hge 0 (by decide)]; exact ht) (fun b hb=>?_) (by show (R.steps ++ [st]).length <= _; rw [List.length_append]; exact hsm) ?_
  ·simp only [List.mem_cons,List.not_mem_nil,or_false] at hb
   rcases hb with rfl | rfl
   ·show (Y4.blks.getD 4 {}).g ∈ p.tmp
    rw [hseg 4 (by decide)]
    exact htmp 4 (by simp)
   ·show (Y4.blks.getD 5 {}).g ∈ p.tmp
    rw [hseg 5 (by decide)]
    exact htmp 5 (by simp)
  ·intro s3 F3 p3 w3 hg3 hr3 ht3
   refine hback s3 F3 p3 w3 hg3 ?_ ht3
   have e1 : (pk6_sub.env Y4).ints.getD 24 0 = a.2.1:=hgn 4
   have e2 : (pk6_sub.env Y4).bools.getD 7 false = a.2.2:=hdone
   rw [e1,e2] at hr3
   exact hr3
theorem at5pn {S : Nat -> Prop} {w₁ : World} {Y : Env} {Stop : γ -> Frame -> List Frame -> World -> Prop} {c : Frame} {cs : List Frame} {s₀ : γ} {w₀ : World} {F : Nat -> Prop} {R : Rr M} {p : Ph} {t i : Nat} {y : Rt} {m : M} (hr : Rep X s S w₁ Y pn5.heap pn5.facts 0 w) (hlen : Y.lens = ⟨20,7,12,8,5⟩) (hcore : Core Z w R p) (hside : zhm Z s₀ w₀ s F w R p)
  (hy : R.ths[t]? = some y) (hon : y.on = some i) (hm : R.ms[i]? = some m) (hg : (Y.blks.getD 0 {}).g = p.gR) (ht : Y.ints.getD 0 0 = (t : Int)) (htmp : ∀ b ∈ [3,4],(Y.blks.getD b {}).g ∈ p.tmp) (hsm : R.steps.length < 1000000)
  (hback : ∀ s' F' p' w',p'.gR = p.gR -> ze3 Z s₀ w₀ s' F' w' (Rr.go Z R t i y m) p' -> X.there s' w' -> Jay.Reach Try.prog X Stop s' (c.finish (.tuple #[])) cs w') : Fr.reach Try.prog X Stop s (c :: cs) Y pn5.frs w:=by
 obtain ⟨v2,v3,v6,v7,v8,hcE, -⟩:=hside.mem
 have htl : t < p.ths.length:=by rw [hside.tlen]; exact (List.getElem?_eq_some_iff.1 hy).1
 have hx:=List.getElem?_eq_getElem htl
 generalize p.ths[t] = x at hx
 have hrel:=hside.rel t x y hx hy
 obtain ⟨⟨q0,q1,qR⟩,gT,preT,postT,qT⟩:=zez hr hcore (by rw [hcE]; rfl) hx (hR:=pn5.heap.headD default) (hT:=pn5.heap.tail.headD default) rfl rfl rfl rfl rfl rfl rfl rfl hg ht
 have qR':=qR
 rw [hcE,Array.toList_append] at qR
 have eC:=zas (zdl qR 3 rfl rfl) (hr.rep.row 2 _ _ _ _ rfl rfl).2.2.2.2.2.2
 have bC:=hr.rep.row 2 _ _ _ _ rfl rfl
 have kC:=(hr.rep.blk 2 _ rfl rfl).2
 rw [bC.1] at eC
 obtain ⟨pC,nC⟩:=zg9 hcore.c eC kC bC.2.1
 have hlb : Y.blks.length = 5:=hr.len
 have hli : Y.ints.length = 20:=congrArg zfa.ni hlen
 have hlbo : Y.bools.length = 7:=congrArg zfa.nb hlen
 have hlx : Y.xs.length = 12:=congrArg zfa.nx hlen
 have hly : Y.ys.length = 8:=congrArg zfa.ny hlen
 have eS0 : (Value.slice none 0 0) = p.vS:=zdl qR 2 rfl rfl
 have hst : R.steps = []:=by
  obtain ⟨_,⟨_,h0⟩ | ⟨_,_,_,e,_⟩⟩:=hcore.s
  ·exact List.eq_nil_of_length_eq_zero h0
  ·rw [<- eS0] at e; cases e
 have hmn : ∀ j,j < 5 -> p.mine (Y.blks.getD j {}).g:=fun j hj=>by
  rcases j with _ | _ | _ | _ | _ | j
  ·exact .inl hg
  ·exact .inr (.inl gT)
  ·exact .inr (.inr (.inr (.inl (by rw [eC]; rfl))))
  ·exact .inr (.inr (.inr (.inr (htmp 3 (by simp)))))
  ·exact .inr (.inr (.inr (.inr (htmp 4 (by simp)))))
  ·omega
 have hours : ∀ (h : List HB),h.length = 5 -> ∀ (Y' : Env) (k : Nat),(∀ j,j < 5 -> Y'.blks.getD j {} = Y.blks.getD j {}) -> ours Y' h k -> p.mine k:=fun h hl Y' k hs hk=>by
  obtain ⟨j,hb,hj,_,rfl⟩:=hk
  have:=(List.getElem?_eq_some_iff.1 hj).1
  rw [hs j (by omega)]
  exact hmn j (by omega)
 have hold : zd9 Y none = R.steps.flatMap Rp.Sp.cells:=by rw [hst]; rfl
 have hLn : ((E.lit 1).den Y).toNat = R.steps.length + 1:=by rw [hst]; rfl
 have hrb:=hr.rebase
 have hE : za3 Y [.int .u64 (.v 5),.int .u64 (.v 6),.y 1,.y 2,.int .u64 (.v 7),.int .u64 (.v 8),.y 3,.y 4,.y 5] = p.cE.toList:=by
  have:=congrArg (List.drop 4) qR'
  rw [Array.toList_append] at this
  exact this
 have hA : za3 Y [.int .i64 (.v 11),.int .i64 (.v 12),.int .i64 (.v 13),.int .u64 (.v 14),.int .u64 (.v 15)] = y.asks.cells:=by
  have:=congrArg (fun l=>(l.drop 2).take 5) qT
  rw [<- hrel.asks]
  exact this
 let a:=R.mem.act y.asks.d y.asks.ar y.asks.at_ y.asks.old y.asks.new
 let Post : World -> γ -> zf9 -> World -> Prop:=fun w1 s' r w'=>s' = s /\ Below w1.heap.size w1 w' /\ ∃ cs',r = .back (.tuple #[.agg cs',.int .u64 a.2.1,.bool a.2.2]) /\ zbb w' w'.heap.size a.1 cs' /\ Far w1 p.cE cs'
 refine zmf pn5_kd pn5_ord rfl pn5_code rfl pn5_ok hrb ?_
 refine zbm (k:=(pn5.frs.headD default).todo.tail) 900 (fun Y'=>(za3 Y' zgs).toArray) (.tup [.agg [.int .u64 (.v 20),.int .u64 (.v 21),.y 8,.y 9,.int .u64 (.v 22),.int .u64 (.v 23),.y 10,.y 11,.y 12],.int .u64 (.v 24),.bool (.v 7)]) pn51_grp pn52_grp (zcg [10] [] _) pn5_at pn5_kdi pn5_gd pn5_set (fun Y' w hx=>zbs pn5_call pn5_fresh Y' w) hrb (L:=⟨20,7,12,8,5⟩) (by rw [hlen]; rfl) (by kernel_rfl) rfl (Post:=fun _=>Post) ?_ ?_ (fun Y' w1 s' ch w' hp=>by obtain ⟨_,_,_,e,_⟩:=hp; cases e)
 ·intro Y' w1 hx' hr'
  have side1:=hside.keep (hr'.chg.mono fun k _ hk=>hours pn5.heap rfl Y k (fun _ _=>rfl) hk) hr'.there
  have:=act2 (X:=X) (s:=s) (d:=y.asks.d) (ar:=y.asks.ar) (at_:=y.asks.at_) (old:=y.asks.old) (new:=y.asks.new) side1.mem (Nat.le_refl _) side1.small
  rwa [show (za3 Y' zgs).toArray = #[.agg p.cE,.agg (acc y.asks.d y.asks.ar y.asks.at_ y.asks.old y.asks.new)] by
   have e1 : za3 Y' zgs = za3 Y zgs:=by obtain ⟨_,_,rfl⟩:=hx'; exact zai 5 (by omega) _ (by kernel_rfl)
   rw [e1]
   show #[Value.agg (za3 Y [.int .u64 (.v 5),.int .u64 (.v 6),.y 1,.y 2,.int .u64 (.v 7),.int .u64 (.v 8),.y 3,.y 4,.y 5]).toArray,Value.agg (za3 Y [.int .i64 (.v 11),.int .i64 (.v 12),.int .i64 (.v 13),.int .u64 (.v 14),.int .u64 (.v 15)]).toArray] = _
   rw [hE,hA]
   rfl]
 ·intro Y' w1 hx' hr' s' v w2 hp ht2
  obtain ⟨rfl,hb2,cs',e,hm',hfar⟩:=hp
  cases e
  have side1:=hside.keep (hr'.chg.mono fun k _ hk=>hours pn5.heap rfl Y k (fun _ _=>rfl) hk) hr'.there
  have side2:=side1.acted hb2 ht2 hm' (zho side1.small _ _ _ _ _) hfar
  obtain ⟨w2',w3',w6',w7',w8',hcs,u2,u3,u6,u7,u8⟩:=hm'
  have h1 : ∀ {v xs},Us w2 w2.heap.size v xs -> v.oneCell' = true:=fun hu=>by obtain ⟨A,c,rfl,_⟩:=Sl.form hu; rfl
  have hlb' : Y'.blks.length = 5:=hr'.len
  have hL' : Y'.lens = ⟨20,7,12,8,5⟩:=by simp only [Env.lens,hx'.ints,hx'.bools,hx'.xs,hx'.ys,hlb',hli,hlbo,hlx,hly]
  refine ⟨ours Y' znz,w2,[a.1.e,a.1.f,a.1.h,a.1.t,a.2.1],[a.2.2],[],[w2',w3',w6',w7',w8'],?_,(hr'.below hb2).rebase.grow_ hL' (by kernel_rfl) rfl _ _ _ _ (zb9 ⟨h1 u2,h1 u3,h1 u6,h1 u7,h1 u8,trivial⟩),fun Y'' w'' hx'' hr''=>?_⟩
  ·rw [hcs]
   simp [SV.den,za3,E.den,B.den,Env.grow,List.getElem?_append_right,hx'.ints,hx'.bools,hx'.ys,hli,hlbo,hly]
  refine zaa 900 pn6_run hr'' ⟨fun Y4 w4 hx4 hr4=>?_,trivial⟩
  have hi4 : Y4.ints = Y.ints ++ [a.1.e,a.1.f,a.1.h,a.1.t,a.2.1]:=by rw [hx4.ints,hx''.ints]; show Y'.ints ++ _ = _; rw [hx'.ints]
  have hb4 : Y4.bools = Y.bools ++ [a.2.2]:=by rw [hx4.bools,hx''.bools]; show Y'.bools ++ _ = _; rw [hx'.bools]
  have hy4 : Y4.ys = Y.ys ++ [w2',w3',w6',w7',w8']:=by rw [hx4.ys,hx''.ys]; show Y'.ys ++ _ = _; rw [hx'.ys]
  have hn'' : 5 <= Y''.blks.length:=by rw [hr''.len]; decide
  have hseg : ∀ j,j < 5 -> Y4.blks.getD j {} = Y.blks.getD j {}:=fun j hj=>by
   rw [hx4.blk (by omega),hx''.blk (by simp [Env.grow]; omega)]
   show (Y'.blks ++ []).getD j {} = _
   rw [List.append_nil,hx'.blk (by omega)]
  have hdd : ∀ l,zdp ⟨20,7,12,8,5⟩ l = true -> scs 5 l = true -> za3 Y4 l = za3 Y l:=fun l a1 a3=>by
   have e0 : za3 Y4 l = za3 Y'' l:=by obtain ⟨_,_,rfl⟩:=hx4; exact zai 5 hn'' l a3
   have e1 : za3 Y'' l = za3 (Y'.grow [a.1.e,a.1.f,a.1.h,a.1.t,a.2.1] [a.2.2] [] [w2',w3',w6',w7',w8'] []) l:=by obtain ⟨_,_,rfl⟩:=hx''; exact zai 5 (by simp [Env.grow]; omega) l a3
   have e2 : za3 (Y'.grow [a.1.e,a.1.f,a.1.h,a.1.t,a.2.1] [a.2.2] [] [w2',w3',w6',w7',w8'] []) l = za3 Y' l:=zb4 l (by rw [hL']; exact a1)
   have e3 : za3 Y' l = za3 Y l:=by obtain ⟨_,_,rfl⟩:=hx'; exact zai 5 (by omega) l a3
   rw [e0,e1,e2,e3]
  have hge : ∀ j,j < 20 -> Y4.ints.getD j 0 = Y.ints.getD j 0:=fun j hj=>by rw [hi4]; exact zb6 _ _ _ _ (by omega)
  have hgn : ∀ j,Y4.ints.getD (20 + j) 0 = [a.1.e,a.1.f,a.1.h,a.1.t,a.2.1].getD j 0:=fun j=>by
   rw [hi4]
   simp only [List.getD_eq_getElem?_getD]
   rw [List.getElem?_append_right (by omega),hli,Nat.add_sub_cancel_left]
  have hgy : ∀ j,Y4.ys.getD (8 + j) .nilFunc = [w2',w3',w6',w7',w8'].getD j .nilFunc:=fun j=>by
   rw [hy4]
   simp only [List.getD_eq_getElem?_getD]
   rw [List.getElem?_append_right (by omega),hly,Nat.add_sub_cancel_left]
  have hdone : Y4.bools.getD 7 false = a.2.2:=by
   rw [hb4]
   simp only [List.getD_eq_getElem?_getD]
   rw [List.getElem?_append_right (by omega),hlbo]
   rfl
  let vS' : Value:=(SV.sl (.blk 6) (E.lit 1) (.of 6 8)).den Y4
  have rN:=hr4.rep.row 6 _ _ _ _ rfl rfl
  have kN:=(hr4.rep.blk 6 _ rfl rfl).2
  have eN : vS' = .slice (some ⟨(Y4.blks.getD 6 {}).g,(Y4.blks.getD 6 {}).b0,none⟩) ((E.lit 1).den Y4).toNat (Y4.blks.getD 6 {}).cap:=zas rfl rN.2.2.2.2.2.2
  rw [rN.1] at eN
  have hmS : ∀ k,ours Y' znz k -> p.mine k:=fun k hk=>hours znz rfl Y' k (fun j hj=>hx'.blk (by omega)) hk
  have hnew : p.mine (Y4.blks.getD 6 {}).g \/ w2.heap.size <= (Y4.blks.getD 6 {}).g /\ (Y4.blks.getD 6 {}).g < w4.heap.size /\ ¬ X.oth s' (Y4.blks.getD 6 {}).g:=by
   rcases hr4.inS 6 _ rfl rfl with h2 | h2
   ·exact .inl (hmS _ h2)
   ·exact .inr ⟨h2,hr4.bnd 6 (by decide),hr4.own 6 _ rfl rfl⟩
  let st : Rp.Sp:=⟨t,y.asks.d,y.asks.ar,y.asks.at_,y.asks.old,y.asks.new,a.2.1,a.2.2⟩
  have g0 : (Y4.blks.getD 0 {}).g = p.gR:=by rw [hseg 0 (by decide)]; exact hg
  have g1 : (Y4.blks.getD 1 {}).g = p.gT:=by rw [hseg 1 (by decide)]; exact gT
  have g2 : p.vC.ownBlock = some (Y4.blks.getD 2 {}).g:=by rw [hseg 2 (by decide),eC]; rfl
  have n0:=hr4.nd 0 6 _ _ rfl rfl rfl rfl (by decide)
  have n1:=hr4.nd 1 6 _ _ rfl rfl rfl rfl (by decide)
  have n2:=hr4.nd 2 6 _ _ rfl rfl rfl rfl (by decide)
  rw [g0] at n0
  rw [g1] at n1
  have side4:=side2.stepped (hr4.chg.mono fun k _ hk=>hmS k hk) hr4.there (vS':=vS') (g':=(Y4.blks.getD 6 {}).g) p.tmp (R.steps ++ [st]) (by rw [eN]; rfl) (fun g hg'=>by
   rcases List.mem_cons.1 hg' with rfl | h2
   ·exact hnew
   ·exact .inl (.inr (.inr (.inr (.inr h2))))) (Ne.symm n0) (Ne.symm n1) (fun e=>n2 (Option.some.inj (g2.symm.trans e)))
  have hrun : ze3 Z s₀ w₀ s' F w4 (R.act t y) { p with cE:=cs',vS:=vS' }:=by
   refine ⟨⟨?_,?_,?_,?_⟩,side4,.inr ⟨_,_,_,_,_,_,eN,eC⟩⟩
   ·have h3:=(hr4.rep.blk 0 _ rfl rfl).2
    rw [hseg 0 (by decide)] at h3
    have h4 : Blk w4 (Y.blks.getD 0 {}).g 105 ((Y.blks.getD 0 {}).whole (za3 Y4 [.y 0,.sl (.blk 1) (.v 1) (.e (.v 2))] ++ [vS'] ++ za3 Y4 [.sl (.blk 2) (.v 4) (.of 2 7)] ++ za3 Y4 [.int .u64 (.v 20),.int .u64 (.v 21),.y 8,.y 9,.int .u64 (.v 22),.int .u64 (.v 23),.y 10,.y 11,.y 12])).toArray:=h3
    have d1 : za3 Y4 [.y 0,.sl (.blk 1) (.v 1) (.e (.v 2))] = [fbV Z,.slice (some ⟨p.gT,0,none⟩) R.ths.length p.tcap]:=by
     rw [hdd _ (by kernel_rfl) (by kernel_rfl)]
     exact congrArg (List.take 2) qR
    have d2 : za3 Y4 [.sl (.blk 2) (.v 4) (.of 2 7)] = [p.vC]:=by
     rw [hdd _ (by kernel_rfl) (by kernel_rfl)]
     exact congrArg (fun l=>(l.drop 3).take 1) qR
    have d3 : za3 Y4 [.int .u64 (.v 20),.int .u64 (.v 21),.y 8,.y 9,.int .u64 (.v 22),.int .u64 (.v 23),.y 10,.y 11,.y 12] = cs'.toList:=by
     rw [hcs]
     show [Value.int .u64 (Y4.ints.getD (20 + 0) 0),.int .u64 (Y4.ints.getD (20 + 1) 0),Y4.ys.getD (8 + 0) .nilFunc,Y4.ys.getD (8 + 1) .nilFunc,.int .u64 (Y4.ints.getD (20 + 2) 0),.int .u64 (Y4.ints.getD (20 + 3) 0),Y4.ys.getD (8 + 2) .nilFunc,Y4.ys.getD (8 + 3) .nilFunc,Y4.ys.getD (8 + 4) .nilFunc] = _
     rw [hgn 0,hgn 1,hgn 2,hgn 3,hgy 0,hgy 1,hgy 2,hgy 3,hgy 4]
     rfl
    rw [d1,d2,d3,hg] at h4
    rw [show (Y.blks.getD 0 {}).whole ([fbV Z,.slice (some ⟨p.gT,0,none⟩) R.ths.length p.tcap] ++ [vS'] ++ [p.vC] ++ cs'.toList) = (#[fbV Z,.slice (some ⟨p.gT,0,none⟩) R.ths.length p.tcap,vS',p.vC] ++ cs').toList by rw [Seg.whole,q0,q1,Array.toList_append]; simp] at h4
    exact h4
   ·have:=zdj hr hr4 (i:=1) (hseg 1 (by decide)) (hdd _ (by kernel_rfl) (by kernel_rfl)) rfl rfl rfl (by rw [gT]; exact hcore.t)
    rwa [gT] at this
   ·have hpre : (Y4.blks.getD 6 {}).pre = (R.steps ++ [st]).flatMap Rp.Sp.cells:=by
     rw [hr4.aps 6 _ _ _ rfl rfl]
     have e1 : zd9 Y4 none = zd9 Y none:=by first | rfl | exact congrArg Seg.pre (hseg 3 (by decide))
     rw [e1,hold,List.flatMap_append]
     congr 1
     show za3 Y4 [.int .i64 (.v 0)] ++ za3 Y4 [.int .i64 (.v 11),.int .i64 (.v 12),.int .i64 (.v 13),.int .u64 (.v 14),.int .u64 (.v 15)] ++ [Value.int .u64 (Y4.ints.getD (20 + 4) 0),.bool (Y4.bools.getD 7 false)] = _
     rw [hdd [.int .i64 (.v 0)] (by kernel_rfl) (by kernel_rfl),hdd _ (by kernel_rfl) (by kernel_rfl),hA,hgn 4,hdone]
     show [Value.int .i64 (Y.ints.getD 0 0)] ++ _ ++ _ = _
     rw [ht]
     rfl
    have hLn4 : ((E.lit 1).den Y4).toNat = R.steps.length + 1:=by
     rw [<- hLn]
     first | rfl | (show ((((Y4.ints.getD 3 0).toNat : Int)) + 1).toNat = ((((Y.ints.getD 3 0).toNat : Int)) + 1).toNat; rw [hge 3 (by decide)])
    have h5:=zbc (w:=w4) (t:=63) (size:=8) (q:=Y4.blks.getD 6 {}) kN rN.2.1 rN.2.2.2.1 rN.2.2.2.2.1 rN.2.2.2.2.2.1
    rw [hpre] at h5
    show w4.ownsRow 0 _ 8 vS' (R.steps ++ [st]).length _
    rw [eN,List.length_append]
    rw [hLn4] at h5 ⊢
    exact h5
   ·exact zdc hcore.c eC kC (zdj hr hr4 (i:=2) (hseg 2 (by decide)) (hdd _ (by kernel_rfl) (by kernel_rfl)) rfl rfl rfl kC)
  refine zkh pn6_sub_fits hr4 fun hr6=>at6 (t:=t) (i:=i) (y:=y) (m:=m) hr6 (by rw [Sub.env_lens]; kernel_rfl) hrun hy hon hm g0 (by show Y4.ints.getD 0 0 = _; rw [hge 0 (by decide)]; exact ht) (fun b hb=>?_) (by show (R.steps ++ [st]).length <= _; rw [List.length_append]; exact hsm) ?_
  ·simp only [List.mem_cons,List.not_mem_nil,or_false] at hb
   rcases hb with rfl | rfl
   ·show (Y4.blks.getD 3 {}).g ∈ p.tmp
    rw [hseg 3 (by decide)]
    exact htmp 3 (by simp)
   ·show (Y4.blks.getD 4 {}).g ∈ p.tmp
    rw [hseg 4 (by decide)]
    exact htmp 4 (by simp)
  ·intro s3 F3 p3 w3 hg3 hr3 ht3
   refine hback s3 F3 p3 w3 hg3 ?_ ht3
   have e1 : (pn6_sub.env Y4).ints.getD 24 0 = a.2.1:=hgn 4
   have e2 : (pn6_sub.env Y4).bools.getD 7 false = a.2.2:=hdone
   rw [e1,e2] at hr3
   exact hr3
end
end
section
section
variable {γ : Type} {X : zad γ} {s : γ} {w : World} {M : Type} {Z : Fam X M}
theorem zcd {t : TypeId} {size n : Nat} {v : Value} {xs : List Value} (h : w.ownsRow 0 t size v n xs) {g m c : Nat} (hv : v = .slice (some ⟨g,0,none⟩) m c) : ∃ post : List Value,m = n /\ Blk w g t (xs ++ [] ++ post : List Value).toArray /\ xs.length = n * size /\ n <= c /\ c <= maxLen /\ xs.length + post.length = c * size:=by
 obtain ⟨h1,⟨e,_⟩ | ⟨g',cap',cur,e,_,hg,h3,h4,h5,h6⟩⟩:=h
 ·rw [hv] at e; cases e
 ·rw [hv] at e
  cases e
  have hcur : cur.toList = xs ++ cur.toList.drop (n * size):=by rw [<- h6,List.take_append_drop]
  refine ⟨cur.toList.drop (n * size),rfl,?_,h1,h3,h4,?_⟩
  ·rw [List.append_nil,<- hcur]; exact hg
  ·have:=congrArg List.length hcur
   rw [List.length_append] at this
   rw [<- this,Array.length_toList,h5]
theorem pick_on {s₀ : γ} {w₀ : World} {F : Nat -> Prop} {R : Rr M} {p : Ph} (h : ze3 Z s₀ w₀ s F w R p) (t i : Nat) (draw : Int) {y : Rt} {m : M} (hy : R.ths[t]? = some y) (hon : y.on = some i) (hm : R.ms[i]? = some m) (hsm : R.steps.length < 1000000) (hcm : R.calls.length <= 1000000) :
  Jdo Try.prog X 41 #[.pointer (some ⟨p.gR,0,none⟩),.agg #[.int .i64 t,.int .u32 draw]] s w (zjc Z s₀ w₀ R p.gR t draw):=by
 have hR : R.pick Z t draw = R.go Z t i y m:=by
  unfold Rr.pick
  rw [if_neg (by omega),show (t : Int).toNat = t from rfl,hy]
  simp only [hon,hm]
 have hc:=h.core
 obtain ⟨v2,v3,v6,v7,v8,hcE,u2,u3,u6,u7,u8⟩:=h.side.mem
 have h1 : ∀ {v xs},Us w w.heap.size v xs -> v.oneCell' = true:=fun hu=>by obtain ⟨A,c,rfl,_⟩:=Sl.form hu; rfl
 have hcR:=hc.r
 rw [hcE] at hcR
 have htl : t < p.ths.length:=by rw [h.side.tlen]; exact (List.getElem?_eq_some_iff.1 hy).1
 have hx:=List.getElem?_eq_getElem htl
 generalize p.ths[t] = x at hx
 have hrel:=h.side.rel t x y hx hy
 obtain ⟨hlt1,hlt2,hlt3⟩:=hrel.onlt i hon
 obtain ⟨gS,nS,cS,gC,nC,cC,eS,eC⟩ : ∃ gS nS cS gC nC cC,p.vS = .slice (some ⟨gS,0,none⟩) nS cS /\ p.vC = .slice (some ⟨gC,0,none⟩) nC cC:=by
  rcases h.nils with ⟨_,_,_,e⟩ | e
  ·rw [e] at hlt3; exact absurd hlt3 (by simp)
  ·exact e
 obtain ⟨postS,rfl,bS,lS,cS1,cS2,cS3⟩:=zcd hc.s eS
 obtain ⟨postC,rfl,bC,lC,cC1,cC2,cC3⟩:=zcd hc.c eC
 have dR:=h.side.dis p.gR (.inl rfl)
 have dT:=h.side.dis p.gT (.inr (.inl rfl))
 have dS:=h.side.dis gS (.inr (.inr (.inl (by rw [eS]; rfl))))
 have dC:=h.side.dis gC (.inr (.inr (.inr (.inl (by rw [eC]; rfl)))))
 obtain ⟨n1,n2,n3⟩:=h.side.ne
 have n2:=n2 gS (by rw [eS]; rfl)
 have n3:=n3 gC (by rw [eC]; rfl)
 have n4 : gS ≠ gC:=fun e=>n2.2.2 (by rw [eC,e]; rfl)
 have hvi : p.vs.getD i .nilFunc ∈ p.vs:=by
  have : i < p.vs.length:=by rw [h.side.vlen]; exact hlt1
  rw [List.getD_eq_getElem?_getD,List.getElem?_eq_getElem this]
  exact List.getElem_mem this
 obtain ⟨lv,on,asks,call⟩:=x
 have hon' : on = .iface 82 (p.vs.getD i .nilFunc):=by rw [show on = _ from hrel.on,hon]; rfl
 have hlv : lv.oneCell' = true:=by obtain ⟨A,c,e,_⟩:=Sl.form hrel.left; rw [show lv = _ from e]; rfl
 let Y : Env:=envP Z t draw R.ths.length p.tcap R.steps.length R.calls.length R.mem.e R.mem.f R.mem.h R.mem.t v2 v3 v6 v7 v8 ⟨.nilFunc,.nilFunc,asks,call⟩ 0 0 (0,0) [p.vs.getD i .nilFunc,lv] [⟨p.gR,0,0,[],[],0,none⟩,⟨p.gT,0,t * 8,(p.ths.take t).flatMap Th.cells,(p.ths.drop (t + 1)).flatMap Th.cells,0,none⟩,⟨gC,0,(R.calls.flatMap Rc.cells).length,R.calls.flatMap Rc.cells,postC,cC,none⟩,⟨gS,0,(R.steps.flatMap Rp.Sp.cells).length,R.steps.flatMap Rp.Sp.cells,postS,cS,none⟩]
 refine zbt (Y:=Y) zgt rfl fun Stop c cs hth hback _=>?_
 have hkR : Blk w p.gR 105 ((⟨p.gR,0,0,[],[],0,none⟩ : Seg).whole (za3 Y (zl9.heap.headD default).cs)).toArray:=by
  rw [eS,eC] at hcR
  exact hcR
 have hkT : Blk w p.gT 107 ((⟨p.gT,0,t * 8,(p.ths.take t).flatMap Th.cells,(p.ths.drop (t + 1)).flatMap Th.cells,0,none⟩ : Seg).whole (za3 Y (zl9.heap.tail.headD default).cs)).toArray:=by
  have h2:=zf7 hx
  rw [hon'] at h2
  have h3:=hc.t
  rw [show Ths p.ths = (Ths p.ths).toList.toArray from rfl,h2] at h3
  exact h3
 have f1 : (0 : Int) <= t:=Int.natCast_nonneg _
 have f2 : (t : Int) < ((R.ths.length : Int).toNat : Int):=by have:=h.side.tlen; omega
 have hr : Rep X s (ours Y zl9.heap) w Y zl9.heap zl9.facts 0 w:=by
  refine Rep.start hth (zb9 (l:=Y.ys) ⟨rfl,h1 u2,h1 u3,h1 u6,h1 u7,h1 u8,h.side.vone _ hvi,hlv,trivial⟩) rfl ⟨⟨dR.2.2.1,zcc rfl ⟨dR.2.1,rfl,hkR⟩,⟨rfl,rfl⟩,trivial,rfl⟩,⟨dT.2.2.1,zcc rfl ⟨dT.2.1,(zlz (Nat.le_of_lt htl)).symm,hkT⟩,⟨(Nat.zero_add _).symm,rfl⟩,trivial,rfl⟩,⟨dC.2.2.1,zcc rfl ⟨dC.2.1,rfl,bC⟩,trivial,⟨rfl,lC,Nat.le_succ_of_le hcm,cC1,cC2,cC3,rfl⟩,rfl⟩,⟨dS.2.2.1,zcc rfl ⟨dS.2.1,rfl,bS⟩,trivial,⟨rfl,lS,Nat.le_of_lt hsm,cS1,cS2,cS3,rfl⟩,rfl⟩,trivial⟩ ?_
   (za5 ⟨decide_eq_true f1,decide_eq_true f2,decide_eq_false (Int.not_lt.2 f1),decide_eq_false (Int.not_le.2 f2),trivial⟩) rfl
  exact ⟨⟨(fun _=>n1),(fun _=>n3.1.symm),(fun _=>n2.1.symm),trivial⟩,⟨(fun _=>n3.2.symm),(fun _=>n2.2.1.symm),trivial⟩,⟨(fun _=>n4.symm),trivial⟩,trivial,trivial⟩
 refine zaa 900 pkO_run hr ⟨fun Y' w' hext hr'=>?_,trivial⟩
 have hmine : ∀ k,ours Y zl9.heap k -> p.mine k:=zbz ⟨fun _=>.inl rfl,fun _=>.inr (.inl rfl),fun _=>.inr (.inr (.inr (.inl (by rw [eC]; rfl)))),fun _=>.inr (.inr (.inl (by rw [eS]; rfl))),trivial⟩
 have side':=h.side.temps (hr'.chg.mono fun k _ hk=>hmine k hk) hr'.there [(Y'.blks.getD 4 {}).g,(Y'.blks.getD 5 {}).g] (fun g hg=>by
  simp only [List.mem_cons,List.not_mem_nil,or_false] at hg
  rcases hg with rfl | rfl
  ·rcases hr'.inS 4 _ rfl rfl with h2 | h2
   ·exact .inl (hmine _ h2)
   ·exact .inr ⟨h2,hr'.bnd 4 (by decide),hr'.own 4 _ rfl rfl⟩
  ·rcases hr'.inS 5 _ rfl rfl with h2 | h2
   ·exact .inl (hmine _ h2)
   ·exact .inr ⟨h2,hr'.bnd 5 (by decide),hr'.own 5 _ rfl rfl⟩)
 have core' : Core Z w' R { p with tmp:=[(Y'.blks.getD 4 {}).g,(Y'.blks.getD 5 {}).g] }:=by
  refine ⟨?_,?_,?_,?_⟩
  ·exact zfb hr hr' hext (i:=0) rfl rfl rfl rfl hc.r
  ·exact zfb hr hr' hext (i:=1) rfl rfl rfl rfl hc.t
  ·exact zdc hc.s eS bS (zfb hr hr' hext (i:=3) rfl rfl rfl rfl bS)
  ·exact zdc hc.c eC bC (zfb hr hr' hext (i:=2) rfl rfl rfl rfl bC)
 refine zkh pkO_sub_fits hr' fun hr5=>at5pk (t:=t) (i:=i) (y:=y) (m:=m) hr5 (by rw [Sub.env_lens]; kernel_rfl) core' side' hy hon hm (by show (Y'.blks.getD 0 {}).g = _; rw [hext.blk (show 0 < 4 by decide)]; rfl) (by show Y'.ints.getD 0 0 = _; rw [hext.ints]; rfl) (fun b hb=>?_) hsm ?_
 ·simp only [List.mem_cons,List.not_mem_nil,or_false] at hb
  rcases hb with rfl | rfl
  ·exact List.mem_cons_self ..
  ·exact List.mem_cons_of_mem _ (List.mem_cons_self ..)
 ·intro s3 F3 p3 w3 hg3 hr3 ht3
  exact hback s3 _ w3 ⟨F3,p3,hg3,rfl,by rw [hR]; exact hr3⟩ ht3
end
end
end Go.Proofs.Ytonhfgjofgbcdaa.Dr
