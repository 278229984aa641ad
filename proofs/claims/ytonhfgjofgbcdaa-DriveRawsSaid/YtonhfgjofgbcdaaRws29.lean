/- A part of this claim's proof. -/
import Derived.Test.YtonhfgjofgbcdaaRws28
set_option linter.unusedSimpArgs false
set_option linter.unusedVariables false
set_option maxRecDepth 20000
namespace Go.Proofs.Ytonhfgjofgbcdaa.Dr
section
open Go Go.Conc Go.RowKit Jay Pl
open Sx
noncomputable def yer : List SV:=[.agg [.int .i64 (.lit 2),.int .i64 (.lit 1),.int .i64 (.lit 2),.int .i64 (.lit 2)]]
noncomputable def yep : List SV:=[.agg [.int .i64 (.lit 3),.int .i64 (.lit 5),.int .i64 (.lit 0),.int .u64 (.lit 0),.int .u64 (.lit 5)]]
noncomputable def yem : List SV:=[.bool (.lit false),.ptr 0 0,.ptr 1 0,u,u] ++ yer ++ yep ++ [u] ++ yer ++ yep ++ [.sl (.blk 2) (.lit 1) (.e (.lit 1))] ++ yep ++ [.sl (.blk 3) (.lit 1) (.e (.lit 1)),.sl (.blk 4) (.lit 2) (.e (.lit 2)),.agg [.int .i64 (.lit 1),.int .u32 (.lit 0)],.agg [.int .i64 (.lit 0),.int .u32 (.lit 0)],.agg [.int .i64 (.lit 0),.int .u32 (.lit 0)],.sl (.blk 5) (.lit 3) (.e (.lit 3))]
noncomputable def yen : List SV:=[.int .i64 (.lit 3),.int .i64 (.lit 5),.int .i64 (.lit 0),.int .u64 (.lit 0),.int .u64 (.lit 5)]
noncomputable def yeu : List SV:=[.bool (.lit true),.bool (.lit true)]
noncomputable def yeo : List SV:=yeu ++ [.bool (.lit true),.ptr 2 1,.sl (.blk 1) (.lit 2) (.e (.v 1))]
noncomputable def yeq : List SV:=[.tup [.agg [.sl (.blk 0) (.lit 2) (.e (.v 0)),.sl (.blk 1) (.lit 2) (.e (.v 1)),Lu 2,Lu 3,.y 0,.y 1,.int .u64 (.lit 5),Lu 4,.y 2,.y 3,.y 4],.int .i64 (.lit 0)]]
noncomputable def yet : List SV:=[.int .i64 (.lit 0),.int .u32 (.lit 0)]
noncomputable def aw_fr : Fr:=⟨19,ur 73,[.code (.at_ [])]⟩
theorem aw_fresh : fresh Try.prog 19 [] = some aw_fr:=by kernel_rfl
noncomputable def awA_in : St:=⟨[⟨19,ur 73,[.code (.at_ [])]⟩],[],[],0⟩
noncomputable def awA_0 : St:=⟨[⟨19,yem ++ ur 55,[.inRegion [0,3] [10,11,12,13,14,15,16],.code (.at_ [4])]⟩],[⟨36,[.int .i64 (.lit 2),.int .i64 (.lit 1),.int .i64 (.lit 2),.int .i64 (.lit 2)],true,none,none,none⟩,⟨27,yen,true,none,none,none⟩,⟨27,yen,true,some ((.lit 0),5),none,none⟩,⟨27,yen,true,some ((.lit 0),5),none,none⟩,⟨49,[.sl (.blk 2) (.lit 1) (.e (.lit 1)),.sl (.blk 3) (.lit 1) (.e (.lit 1))],true,some ((.lit 0),1),none,none⟩,⟨61,[.int .i64 (.lit 1),.int .u32 (.lit 0)] ++ yet ++ yet,true,some ((.lit 0),2),none,none⟩],[],0⟩
theorem awA_run : run Try.prog [] [20] true 900 awA_in = [awA_0]:=by kernel_rfl
noncomputable def awA_op : Oper:=(za1 Try.prog 19 [0,3]).getD 10 default
theorem awA_at : (za1 Try.prog 19 [0,3])[10]? = some awA_op:=by kernel_rfl
noncomputable def awA_fr : Fr:=⟨19,yem ++ ur 55,[.inRegion [0,3] [10,11,12,13,14,15,16],.code (.at_ [4])]⟩
theorem awA_gd : guardOf awA_0.facts (za1 Try.prog 19 [0,3]) awA_fr.tmps awA_op = .yes:=by kernel_rfl
noncomputable def awA_args : List SV:=yer ++ [.sl (.blk 4) (.lit 2) (.e (.lit 2)),.sl (.blk 5) (.lit 3) (.e (.lit 3))]
theorem awA_call : zc1 Try.prog awA_fr.tmps awA_op.op = some (20,awA_args):=by kernel_rfl
theorem awA_fresh : (fresh Try.prog 20 awA_args).isSome = true:=by kernel_rfl
noncomputable def awA_frb : Fr:=⟨19,yem ++ [.x 0] ++ ur 54,[.inRegion [0,3] [11,12,13,14,15,16],.code (.at_ [4])]⟩
theorem awA_put : Fr.put awA_fr awA_op.dst (.x 0) ([.inRegion [0,3] [11,12,13,14,15,16],.code (.at_ [4])]) = awA_frb:=by kernel_rfl
noncomputable def awA_p : St:=⟨[⟨19,[.x 0,.x 1,.x 2,.x 3,.x 4,.x 5,.x 6,.x 7,.x 8,.x 9,.x 10,.x 11,.x 12,.x 13,.x 14,.x 15,.x 16,.x 17,.x 72,.x 18,.x 19,.x 20,.x 21,.x 22,.x 23,.x 24,.x 25,.x 26,.x 27,.x 28,.x 29,.x 30,.x 31,.x 32,.x 33,.x 34,.x 35,.x 36,.x 37,.x 38,.x 39,.x 40,.x 41,.x 42,.x 43,.x 44,.x 45,.x 46,.x 47,.x 48,.x 49,.x 50,.x 51,.x 52,.x 53,.x 54,.x 55,.x 56,.x 57,.x 58,.x 59,.x 60,.x 61,.x 62,.x 63,.x 64,.x 65,.x 66,.x 67,.x 68,.x 69,.x 70,.x 71],[.inRegion [0,3] [11,12,13,14,15,16],.code (.at_ [4])]⟩],
 [],
 [],
 0⟩
noncomputable def zid : Sub:=⟨[],[],[.bool (.lit false),.ptr 0 0,.ptr 1 0,u,u,.agg [.int .i64 (.lit 2),.int .i64 (.lit 1),.int .i64 (.lit 2),.int .i64 (.lit 2)],.agg [.int .i64 (.lit 3),.int .i64 (.lit 5),.int .i64 (.lit 0),.int .u64 (.lit 0),.int .u64 (.lit 5)],u,.agg [.int .i64 (.lit 2),.int .i64 (.lit 1),.int .i64 (.lit 2),.int .i64 (.lit 2)],.agg [.int .i64 (.lit 3),.int .i64 (.lit 5),.int .i64 (.lit 0),.int .u64 (.lit 0),.int .u64 (.lit 5)],.sl (.blk 2) (.lit 1) (.e (.lit 1)),.agg [.int .i64 (.lit 3),.int .i64 (.lit 5),.int .i64 (.lit 0),.int .u64 (.lit 0),.int .u64 (.lit 5)],.sl (.blk 3) (.lit 1) (.e (.lit 1)),.sl (.blk 4) (.lit 2) (.e (.lit 2)),.agg [.int .i64 (.lit 1),.int .u32 (.lit 0)],.agg [.int .i64 (.lit 0),.int .u32 (.lit 0)],.agg [.int .i64 (.lit 0),.int .u32 (.lit 0)],.sl (.blk 5) (.lit 3) (.e (.lit 3)),u,u,u,u,u,u,u,u,u,u,u,u,u,u,u,u,u,u,u,u,u,u,u,u,u,u,u,u,u,u,u,u,u,u,u,u,u,u,u,u,u,u,u,u,u,u,u,u,u,u,u,u,u,u,.x 0],[],[]⟩
theorem awAp_fits : zfy zid ⟨[awA_frb],[],[],0⟩ awA_p:=⟨by kernel_rfl,by kernel_rfl⟩
noncomputable def awB_in : St:=⟨[⟨19,[.x 0,.x 1,.x 2,.x 3,.x 4,.x 5,.x 6,.x 7,.x 8,.x 9,.x 10,.x 11,.x 12,.x 13,.x 14,.x 15,.x 16,.x 17,.tup [.agg [.sl (.blk 0) (.lit 2) (.e (.v 0)),.sl (.blk 1) (.lit 2) (.e (.v 1)),.int .u64 (.v 2),.int .u64 (.v 3),.y 0,.y 1,.int .u64 (.lit 5),.int .u64 (.v 4),.y 2,.y 3,.y 4],.int .i64 (.lit 0)],.x 18,.x 19,.x 20,.x 21,.x 22,.x 23,.x 24,.x 25,.x 26,.x 27,.x 28,.x 29,.x 30,.x 31,.x 32,.x 33,.x 34,.x 35,.x 36,.x 37,.x 38,.x 39,.x 40,.x 41,.x 42,.x 43,.x 44,.x 45,.x 46,.x 47,.x 48,.x 49,.x 50,.x 51,.x 52,.x 53,.x 54,.x 55,.x 56,.x 57,.x 58,.x 59,.x 60,.x 61,.x 62,.x 63,.x 64,.x 65,.x 66,.x 67,.x 68,.x 69,.x 70,.x 71],[.inRegion [0,3] [11,12,13,14,15,16],.code (.at_ [4])]⟩],
 [⟨63,[.int .i64 (.lit 1),.int .i64 (.lit 3),.int .i64 (.lit 5),.int .i64 (.lit 0),.int .u64 (.lit 0),.int .u64 (.lit 5),.int .u64 (.lit 0),.bool (.lit true),.int .i64 (.lit 0),.int .i64 (.lit 3),.int .i64 (.lit 5),.int .i64 (.lit 0),.int .u64 (.lit 0),.int .u64 (.lit 5),.int .u64 (.lit 5),.bool (.lit false)],false,some ((.lit 0),8),none,none⟩,
 ⟨65,[.int .i64 (.lit 1),.int .i64 (.lit 0),.int .u32 (.lit 0),.int .i64 (.lit 0),.int .i64 (.lit 0),.int .i64 (.lit 0),.int .u32 (.lit 1),.int .i64 (.lit 0),.int .i64 (.lit 0),.int .u32 (.lit 0),.int .i64 (.lit 1),.int .i64 (.lit 1),.int .i64 (.lit 0),.int .u32 (.lit 0)],false,some ((.lit 0),7),none,none⟩],
 [],
 0⟩
noncomputable def awB_0 : St:=⟨[⟨19,[.bool (.lit true),.x 1,.x 2,.ptr 2 0,.int .i64 (.lit 0),.x 5,.x 6] ++ yeq ++ xr 8 10 ++ yeq ++ [.agg [.sl (.blk 0) (.lit 2) (.e (.v 0)),.sl (.blk 1) (.lit 2) (.e (.v 1)),Lu 2,Lu 3,.y 0,.y 1,.int .u64 (.lit 5),Lu 4,.y 2,.y 3,.y 4],.int .i64 (.lit 0),.int .i64 (.lit 0)] ++ yeu ++ [.ptr 2 0,.sl (.blk 0) (.lit 2) (.e (.v 0)),.int .i64 (.lit 2)] ++ yeo ++ [.int .i64 (.lit 2)] ++ yeo ++ [.ptr 1 0,.ptr 1 0,.int .i64 (.lit 1)] ++ yeo ++ [.ptr 1 0,.ptr 1 6,.int .u32 (.lit 1)] ++ yeo ++ [.ptr 1 7,.ptr 1 13,.int .u32 (.lit 0)] ++ yeu ++ [.bool (.lit true),.ptr 2 0,.sl (.blk 0) (.lit 2) (.e (.v 0)),.ptr 0 8,.ptr 0 14,.int .u64 (.lit 5)] ++ yeu ++ [.bool (.lit true),.ptr 2 2,.ptr 2 6,.int .u64 (.lit 5)] ++ yeu,[.code (.at_ [5])]⟩],[⟨63,[.int .i64 (.lit 1)] ++ yen ++ [.int .u64 (.lit 0),.bool (.lit true),.int .i64 (.lit 0)] ++ yen ++ [.int .u64 (.lit 5),.bool (.lit false)],false,some ((.lit 0),8),none,none⟩,⟨65,[.int .i64 (.lit 1)] ++ yet ++ [.int .i64 (.lit 0),.int .i64 (.lit 0),.int .i64 (.lit 0),.int .u32 (.lit 1),.int .i64 (.lit 0)] ++ yet ++ [.int .i64 (.lit 1),.int .i64 (.lit 1)] ++ yet,false,some ((.lit 0),7),none,none⟩,⟨52,[.sl (.blk 0) (.lit 2) (.e (.v 0)),.sl (.blk 1) (.lit 2) (.e (.v 1)),Lu 2,Lu 3,.y 0,.y 1,.int .u64 (.lit 5),Lu 4,.y 2,.y 3,.y 4],true,none,none,none⟩],[],0⟩
theorem awB_0_end : zc6 Try.prog awB_0 = some (.bool (.lit true)):=by kernel_rfl
theorem awB_run : run Try.prog [] [20] true 900 awB_in = [awB_0]:=by kernel_rfl
end
section
open Go Go.Conc Go.RowKit Jay Pl
open St Sx
section
variable {γ : Type} {X : zad γ} {s : γ} {w : World} {Stop : γ -> Frame -> List Frame -> World -> Prop} {cs₀ : List Frame}
theorem zca {P : Program} {Y Y' : Env} {frs frs' : List Fr} (h : frs'.map (Fr.den P Y') = frs.map (Fr.den P Y)) (hk : Fr.reach P X Stop s cs₀ Y' frs' w) : Fr.reach P X Stop s cs₀ Y frs w:=by
 cases frs with
 | nil=>
  cases frs' with
  | nil=>exact hk
  | cons _ _=>simp at h
 | cons f l=>
  cases frs' with
  | nil=>simp at h
  | cons f' l'=>
   simp only [List.map_cons,List.cons.injEq] at h
   simp only [Fr.reach,h.1,h.2] at hk ⊢
   exact hk
theorem zfn {P : Program} {Y Y' : Env} {fr fr' : Fr} (hfn : fr'.fn = fr.fn) (htodo : fr'.todo = fr.todo) (hp : Y'.perms = Y.perms) (ht : za3 Y' fr'.tmps = za3 Y fr.tmps) : [fr'].map (Fr.den P Y') = [fr].map (Fr.den P Y):=by
 simp only [List.map_cons,List.map_nil,Fr.den,Fr.act,ht,hfn,htodo]
 rw [zlr hp]
theorem zhq {S : Nat -> Prop} {w₀ : World} {Y : Env} {h : List HB} {facts : List (B × Bool)} {np : Nat} (hr : Rep X s S w₀ Y h facts np w) {i : Nat} {hb : HB} (hi : h[i]? = some hb) {sz : Nat} (hf : hb.foc = some (.lit 0,sz)) {n : Nat} (hl : hb.cs.length = n * sz) (hn : n <= maxLen) : Sl w w.heap.size sz (.slice ((Y.blks.getD i {}).adr) n n) n (za3 Y hb.cs) /\ (Y.blks.getD i {}).adr = some ⟨(Y.blks.getD i {}).g,(Y.blks.getD i {}).b0,none⟩:=by
 obtain ⟨ho,had⟩:=hr.rep.foc i hb _ _ hi hf
 have e : (Y.blks.getD i {}).adr = some ⟨(Y.blks.getD i {}).g,(Y.blks.getD i {}).b0,none⟩:=by
  unfold Seg.adr
  rw [had]
 refine ⟨⟨by rw [za8]; exact hl,_,_,rfl,Nat.le_refl _,hn,fun _=>⟨_,_,e,hr.bnd i (List.getElem?_eq_some_iff.1 hi).1,fun j u hu=>?_⟩⟩,e⟩
 have:=hr.rep.cell i hb j u hi hu
 rw [ho] at this
 exact (by simpa [E.den] using this)
def awL : List (List Ac):=[[⟨3,5,0,0,5⟩],[⟨3,5,0,0,5⟩]]
def awP : List (Int × Int):=[(1,0),(0,0),(0,0)]
def awS : List Rp.Sp:=[⟨1,3,5,0,0,5,0,true⟩,⟨0,3,5,0,0,5,5,false⟩]
theorem aw_steps : (zcf 2 1 2 2 awL awP).steps = awS:=by rfl
theorem aw_mem : (zcf 2 1 2 2 awL awP).mem.h = 5 /\ (zcf 2 1 2 2 awL awP).mem.li.length = 3:=⟨by rfl,by rfl⟩
theorem aw_ok : Okw 2 1 2 2 awL awP:=⟨by rfl,by rfl,by decide,fun xs hx=>by
 simp only [awL,List.mem_cons,List.not_mem_nil,or_false] at hx
 rcases hx with rfl | rfl <;> decide⟩
theorem awake03 : Jdo Try.prog X 19 #[] s w fun s' r w'=>Below w.heap.size w w' /\ (∀ k,k < w.heap.size -> X.oth s' k -> X.oth s k) /\ 0 < w'.heap.size /\ r = .back (.bool true):=by
 let Y : Env:={}
 refine zbt (Y:=Y) aw_fresh rfl fun Stop c cs hth hback _=>?_
 have hr : Rep X s (ours Y awA_in.heap) w Y awA_in.heap awA_in.facts 0 w:=Rep.start hth (fun v hv=>by cases hv) rfl trivial trivial (za5 trivial) rfl
 refine zaa 900 awA_run hr ⟨fun Y1 w1 hx1 hr1=>?_,trivial⟩
 show Fr.reach _ X Stop s (c :: cs) Y1 [awA_fr] w1
 have hb1 : Below w.heap.size w w1:=hr1.chg.below (fun k hk=>by obtain ⟨i,hb,hi,_⟩:=hk; cases hi) (Nat.le_refl _)
 have hml : maxLen = 9223372036854775807:=rfl
 obtain ⟨s2,e2⟩:=zhq hr1 (i:=2) rfl rfl (n:=1) rfl (by omega)
 obtain ⟨s3,e3⟩:=zhq hr1 (i:=3) rfl rfl (n:=1) rfl (by omega)
 obtain ⟨s4,e4⟩:=zhq hr1 (i:=4) rfl rfl (n:=2) rfl (by omega)
 obtain ⟨s5,e5⟩:=zhq hr1 (i:=5) rfl rfl (n:=3) rfl (by omega)
 have hW : 0 < w1.heap.size:=Nat.lt_of_le_of_lt (Nat.zero_le _) (hr1.bnd 0 (by decide))
 have hL : Lls w1 w1.heap.size (.slice (Y1.blks.getD 4 {}).adr 2 2) awL:=by
  refine ⟨_,?_,s4,fun i u hu=>?_⟩
  ·exact (za8 _).trans rfl
  ·rcases i with _ | _ | i
   ·cases hu
    exact ⟨_,rfl,s2⟩
   ·cases hu
    exact ⟨_,rfl,s3⟩
   ·cases hu
 have hraw:=raw_ok (X:=X) (s:=s) (k:=2) (K:=1) (T:=2) (Mn:=2) (picks:=awP) hL s5 hW (by decide) (fun xs hx=>by
  simp only [awL,List.mem_cons,List.not_mem_nil,or_false] at hx
  rcases hx with rfl | rfl <;> decide)
 refine zc7 (fr:=awA_fr) (callers:=[]) (ht:=rfl) awA_at awA_gd awA_call awA_fresh hr1 (Post:=ziv X s w1 2 1 2 2 awL awP) hraw (fun s' v w2 hp ht2=>?_) (fun s' ch w' hp _=>by obtain ⟨_,_,⟨_,_,_,_,e,_⟩ | ⟨_,e⟩⟩:=hp <;> cases e)
 obtain ⟨hbel,hoth,⟨hok,vS,vC,cE,ev,hS,hC,hM,hsm⟩ | ⟨hno,_⟩⟩:=hp
 ·cases ev
  rw [aw_steps] at hS hC
  obtain ⟨v2,v3,v6,v7,v8,hcE,u2,u3,u6,u7,u8⟩:=hM
  obtain ⟨bS,oS,cS,eS,hbS,_,_,hatS⟩:=Sl.row hS (by decide)
  obtain ⟨bC,oC,cC,eC,hbC,_,_,hatC⟩:=Sl.row hC (by decide)
  obtain ⟨bL,oL,cL,eL,hbL,_⟩:=Sl.row u2 (by rw [aw_mem.2]; decide)
  have hmh:=aw_mem.1
  generalize zcf 2 1 2 2 awL awP = R at *
  subst eS eC hcE
  have hL1 : Y1.lens = ⟨0,0,0,0,6⟩:=by
   have h1 : Y1.blks.length = 6:=hr1.len
   simp only [Env.lens,h1,hx1.ints,hx1.bools,hx1.xs,hx1.ys]
   rfl
  refine zc8 (ai:=[]) (ab:=[]) (ax:=[.tuple #[.agg (#[.slice (some ⟨bS,oS,none⟩) awS.length cS,.slice (some ⟨bC,oC,none⟩) (zbi awS).length cC] ++ #[.int .u64 R.mem.e,.int .u64 R.mem.f,v2,v3,.int .u64 R.mem.h,.int .u64 R.mem.t,v6,v7,v8]),.int .i64 0]]) (ay:=[]) (.x 0) hL1 (by kernel_rfl) ?_ ?_
  ·have h1 : Y1.xs = []:=hx1.xs
   show (Y1.xs ++ [_]).getD 0 _ = _
   rw [h1]
   rfl
  rw [awA_put]
  have hgx : (Y1.grow [] [] [.tuple #[.agg (#[.slice (some ⟨bS,oS,none⟩) awS.length cS,.slice (some ⟨bC,oC,none⟩) (zbi awS).length cC] ++ #[.int .u64 R.mem.e,.int .u64 R.mem.f,v2,v3,.int .u64 R.mem.h,.int .u64 R.mem.t,v6,v7,v8]),.int .i64 0]] [] []).xs = [.tuple #[.agg (#[.slice (some ⟨bS,oS,none⟩) awS.length cS,.slice (some ⟨bC,oC,none⟩) (zbi awS).length cC] ++ #[.int .u64 R.mem.e,.int .u64 R.mem.f,v2,v3,.int .u64 R.mem.h,.int .u64 R.mem.t,v6,v7,v8]),.int .i64 0]]:=by
   simp only [Env.grow,hx1.xs]
   rfl
  have hgp : (Y1.grow [] [] [.tuple #[.agg (#[.slice (some ⟨bS,oS,none⟩) awS.length cS,.slice (some ⟨bC,oC,none⟩) (zbi awS).length cC] ++ #[.int .u64 R.mem.e,.int .u64 R.mem.f,v2,v3,.int .u64 R.mem.h,.int .u64 R.mem.t,v6,v7,v8]),.int .i64 0]] [] []).perms = []:=(show Y1.perms = [] from zae hr1)
  generalize Y1.grow _ _ _ _ _ = Yg at hgx hgp ⊢
  refine zd8 (a:=⟨[awA_frb],[],[],0⟩) awAp_fits ?_
  refine zca (frs':=awB_in.frs) (Y':={ ints:=[(cS : Int),(cC : Int),R.mem.e,R.mem.f,R.mem.t],xs:=(zid.env Yg).xs,ys:=[v2,v3,v6,v7,v8],blks:=[⟨bS,oS,oS,[],[],0,none⟩,⟨bC,oC,oC,[],[],0,none⟩] }) ?_ ?_
  ·have h72 : (zid.env Yg).xs.getD 72 undef = .tuple #[.agg (#[.slice (some ⟨bS,oS,none⟩) awS.length cS,.slice (some ⟨bC,oC,none⟩) (zbi awS).length cC] ++ #[.int .u64 R.mem.e,.int .u64 R.mem.f,v2,v3,.int .u64 R.mem.h,.int .u64 R.mem.t,v6,v7,v8]),.int .i64 0]:=by
    show Yg.xs.getD 0 undef = _
    rw [hgx]
    rfl
   have hps : (zid.env Yg).perms = []:=hgp
   generalize zid.env Yg = Ys at h72 hps ⊢
   refine zfn (fr':=awB_in.frs.headD default) (fr:=awA_p.frs.headD default) rfl rfl hps.symm ?_
   show za3 _ (awB_in.frs.headD default).tmps = za3 Ys (awA_p.frs.headD default).tmps
   simp only [awB_in,awA_p,List.headD_cons,za3,SV.den]
   rw [h72,hmh]
   rfl
  ·refine zaa 900 awB_run (Rep.start ht2 ?_ rfl ⟨⟨hbS,zb8 rfl ?_,⟨?_,?_⟩,trivial,rfl⟩,⟨hbC,zb8 rfl ?_,⟨?_,?_⟩,trivial,rfl⟩,trivial⟩ (nd_ro rfl) (za5 trivial) rfl) ⟨fun Y3 w3 hx3 hr3=>?_,trivial⟩
   ·exact zb9 ⟨za2 u2,za2 u3,za2 u6,za2 u7,za2 u8,trivial⟩
   ·exact fun j u hu=>hatS j u hu
   ·show oS = oS + 0 * 8
    omega
   ·rfl
   ·exact fun j u hu=>hatC j u hu
   ·show oC = oC + 0 * 7
    omega
   ·rfl
   ·have hb3 : Below w2.heap.size w2 w3:=hr3.chg.below (fun k hk=>absurd hk (zah rfl k)) (Nat.le_refl _)
    exact zbx (v:=_) awB_0_end hr3.rep (hback s' _ w3 ⟨(hb1.trans (hbel.mono hb1.size)).trans (hb3.mono (Nat.le_trans hb1.size hbel.size)),fun k hk ho=>hoth k (Nat.lt_of_lt_of_le hk hb1.size) ho,by have:=hb3.size; omega,rfl⟩ hr3.there)
 ·exact absurd aw_ok hno
end
end
section
open Go Go.Conc Go.RowKit Jay Pl
open St Sx
section
variable {γ : Type} {X : zad γ}
def zp1 (X : zad γ) (s : γ) (W : World) (s' : γ) (r : zf9) (w' : World) : Prop:=Below W.heap.size W w' /\ (∀ k,k < W.heap.size -> X.oth s' k -> X.oth s k) /\ r = .back (.bool true)
theorem zdi {w : World} {g : Nat} {t : TypeId} {arr : Array Value} {a b : Value} (hb : Blk w g t arr) (h0 : arr[0]? = some a) (h1 : arr[1]? = some b) : ∀ j u,[a,b][j]? = some u -> w.cell? ⟨g,0 + j,none⟩ = some u:=by
 intro j u hu
 rw [Nat.zero_add,hb.cell]
 rcases j with _ | _ | j
 ·cases hu; exact h0
 ·cases hu; exact h1
 ·cases hu
end
end
end Go.Proofs.Ytonhfgjofgbcdaa.Dr
