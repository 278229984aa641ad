/- A part of this claim's proof. -/
import Derived.Test.YtonhfgjofgbcdaaRws9
set_option linter.unusedSimpArgs false
set_option linter.unusedVariables false
set_option maxRecDepth 20000
namespace Go.Proofs.Ytonhfgjofgbcdaa.Sx
open Go Go.Conc Jay Go.RowKit
section
section
variable {P : Program} {γ : Type} {X : zad γ} {Stop : γ -> Frame -> List Frame -> World -> Prop} {s : γ} {S : Nat -> Prop} {w₀ w : World} {Y : Env} {cs₀ : List Frame} {facts : List (B × Bool)} {np : Nat}
/-! ### A new block -/
theorem HRep.below {h : List HB} (hr : HRep Y h w) (hb : ∀ i,i < h.length -> (Y.blks.getD i {}).g < w.heap.size) {w' : World} (hw : Below w.heap.size w w') : HRep Y h w':=
 ⟨hr.ys,fun i x hx hwr=>⟨(hr.blk i x hx hwr).1,(hr.blk i x hx hwr).2.below hw (hb i (List.getElem?_eq_some_iff.1 hx).1)⟩,fun i x j u hx hu=>(hw.cell (p:=⟨_,_,none⟩) (hb i (List.getElem?_eq_some_iff.1 hx).1)).trans (hr.cell i x j u hx hu),hr.foc,hr.row,hr.pl⟩
theorem Rep.below {h : List HB} (hr : Rep X s S w₀ Y h facts np w) {w' : World} (hb : Below w.heap.size w w') : Rep X s S w₀ Y h facts np w':=
 ⟨fun b ho=>Nat.lt_of_lt_of_le (hr.there b ho) hb.size,hr.rep.below hr.bnd hb,hr.len,hr.nd,fun i hi=>Nat.lt_of_lt_of_le (hr.bnd i hi) hb.size,hr.own,hr.chg.trans (Chg.of_below hb),hr.inS,hr.facts,hr.np,hr.aps⟩
theorem Rep.perm {h : List HB} (hr : Rep X s S w₀ Y h facts np w) (l : List Nat) : Rep X s S w₀ (Y.more [] [l]) h facts (np + 1) w:=by
 have hb : (Y.more [] [l]).blks = Y.blks:=by simp [Env.more]
 refine ⟨hr.there,⟨hr.rep.ys,fun i hb' hi hw=>?_,fun i hb' j u hi hu=>?_,fun i hb' e n hi he=>?_,fun i hb' e n N hi he=>?_,by rw [hb]; exact hr.rep.pl⟩,by rw [hb]; exact hr.len,by rw [hb]; exact hr.nd,by rw [hb]; exact hr.bnd,by rw [hb]; exact hr.own,hr.chg,by rw [hb]; exact hr.inS,fun p hp=>by rw [B_ext]; exact hr.facts p hp,by simp [Env.more,hr.np],fun i x o cs hx ha=>?_⟩
 ·rw [hb,zcj]; exact hr.rep.blk i hb' hi hw
 ·rw [hb]; rw [zcj] at hu; exact hr.rep.cell i hb' j u hi hu
 ·rw [hb,zf8]; exact hr.rep.foc i hb' e n hi he
 ·rw [hb,zf8]; exact hr.rep.row i hb' e n N hi he
 ·rw [hb,zcj,hr.aps i x o cs hx ha]; cases o <;> simp [zd9,hb]
theorem zbw {α : Type} {h : List α} {x : α} {i : Nat} {hb : α} (hi : (h ++ [x])[i]? = some hb) : (i < h.length /\ h[i]? = some hb) \/ (i = h.length /\ hb = x):=by
 by_cases hl : i < h.length
 ·rw [List.getElem?_append_left hl] at hi; exact .inl ⟨hl,hi⟩
 ·rw [List.getElem?_append_right (by omega)] at hi
  have : i - h.length = 0:=by
   rcases Nat.eq_zero_or_pos (i - h.length) with h0 | h0
   ·exact h0
   ·rw [List.getElem?_eq_none (by simp; omega)] at hi; cases hi
  rw [this] at hi
  simp at hi
  exact .inr ⟨by omega,hi.symm⟩
theorem Rep.alloc {h : List HB} (hr : Rep X s S w₀ Y h facts np w) (hs : zcq h.length h = true) {t : TypeId} {cs : List SV} (hc : scs h.length cs = true) (fo : Option (E × Nat)) (hfo : fo = none \/ ∃ n,fo = some (.lit 0,n)) :
  Rep X s S w₀ (Y.more [⟨w.heap.size,0,0,[],[],0,none⟩] []) (h ++ [HB.mk t cs true fo none none]) facts np (w.alloc (.cells (za3 Y cs).toArray t)) /\ ∀ w',HRep (Y.more [⟨w.heap.size,0,0,[],[],0,none⟩] []) (h ++ [HB.mk t cs true fo none none]) w' -> HRep Y h w':=by
 have hn : h.length <= Y.blks.length:=Nat.le_of_eq hr.len.symm
 have hsplit : ∀ (i : Nat) (hb : HB),(h ++ [HB.mk t cs true fo none none])[i]? = some hb -> (i < h.length /\ h[i]? = some hb) \/ (i = h.length /\ hb = HB.mk t cs true fo none none):=fun i hb hi=>zbw hi
 have hold : ∀ i,i < h.length -> (Y.more [⟨w.heap.size,0,0,[],[],0,none⟩] []).blks.getD i {} = Y.blks.getD i {}:=fun i hi=>zb6 _ _ _ _ (by omega)
 have hnew : (Y.more [⟨w.heap.size,0,0,[],[],0,none⟩] []).blks.getD h.length {} = ⟨w.heap.size,0,0,[],[],0,none⟩:=by
  rw [show h.length = Y.blks.length from hr.len.symm]
  exact zgk _ _ _
 have hlen' : (h ++ [HB.mk t cs true fo none none]).length = h.length + 1:=by simp
 refine ⟨⟨?_,⟨hr.rep.ys,?_,?_,?_,?_,?_⟩,?_,?_,?_,?_,hr.chg.alloc _,?_,?_,?_,?_⟩,fun w' hw'=>⟨hr.rep.ys,fun i hb hi hw=>?_,fun i hb j u hi hu=>?_,hr.rep.foc,hr.rep.row,hr.rep.pl⟩⟩
 ·intro b hb
  have:=hr.there b hb
  rw [size_alloc]
  omega
 ·intro i hb hi hw
  rcases hsplit i hb hi with ⟨hl,hi⟩ | ⟨rfl,rfl⟩
  ·rw [ze0 h.length hn h hs i hb hi,hold i hl]
   exact ⟨(hr.rep.blk i hb hi hw).1,(hr.rep.blk i hb hi hw).2.alloc _⟩
  ·rw [zai h.length hn cs hc,hnew]
   simp only [Seg.whole,List.nil_append,List.append_nil]
   exact ⟨rfl,Blk.new _ _ _⟩
 ·intro i hb j u hi hu
  rcases hsplit i hb hi with ⟨hl,hi⟩ | ⟨rfl,rfl⟩
  ·rw [ze0 h.length hn h hs i hb hi] at hu
   rw [hold i hl]
   exact (World.cell?_alloc_lt w _ _ (hr.bnd i hl)).trans (hr.rep.cell i hb j u hi hu)
  ·rw [zai h.length hn cs hc] at hu
   rw [hnew]
   simp only [Nat.zero_add]
   rw [(Blk.new w t (za3 Y cs).toArray).cell,List.getElem?_toArray]
   exact hu
 ·intro i hb e n hi he
  rcases hsplit i hb hi with ⟨hl,hi⟩ | ⟨rfl,rfl⟩
  ·rw [hold i hl,zf8]; exact hr.rep.foc i hb e n hi he
  ·rw [hnew]
   rcases hfo with rfl | ⟨m,rfl⟩
   ·cases he
   ·simp only [Option.some.injEq,Prod.mk.injEq] at he
    obtain ⟨rfl,rfl⟩:=he
    simp [E.den]
 ·intro i hb e n N hi he
  rcases hsplit i hb hi with ⟨hl,hi⟩ | ⟨rfl,rfl⟩
  ·rw [hold i hl,zf8]; exact hr.rep.row i hb e n N hi he
  ·cases he
 ·intro i hb hi hw h3 h4
  rcases hsplit i hb hi with ⟨hl,hi⟩ | ⟨rfl,rfl⟩
  ·rw [hold i hl]; exact hr.rep.pl i hb hi hw h3 h4
  ·rw [hnew]; exact ⟨rfl,rfl⟩
 ·simp [Env.more,hr.len]
 ·intro i j hi' hb hi hlv hj hw hij
  rcases hsplit j hb hj with ⟨hl,hj⟩ | ⟨rfl,rfl⟩
  ·rw [hold j hl]
   rcases hsplit i hi' hi with ⟨hil,hi⟩ | ⟨rfl,rfl⟩
   ·rw [hold i hil]; exact hr.nd i j hi' hb hi hlv hj hw hij
   ·rw [hnew]
    exact (Nat.ne_of_lt (hr.bnd j hl)).symm
  ·rcases hsplit i hi' hi with ⟨hil,hi⟩ | ⟨rfl,rfl⟩
   ·rw [hnew,hold i hil]
    exact Nat.ne_of_lt (hr.bnd i hil)
   ·exact absurd rfl hij
 ·intro i hi
  rw [hlen'] at hi
  rw [size_alloc]
  by_cases hil : i < h.length
  ·rw [hold i hil]; have:=hr.bnd i hil; omega
  ·have : i = h.length:=by omega
   subst this
   rw [hnew]
   show w.heap.size < w.heap.size + 1
   omega
 ·intro i hb hi hw
  rcases hsplit i hb hi with ⟨hl,hi⟩ | ⟨rfl,rfl⟩
  ·rw [hold i hl]; exact hr.own i hb hi hw
  ·rw [hnew]
   intro ho
   exact absurd (hr.there _ ho) (Nat.lt_irrefl _)
 ·intro i hb hi hw
  rcases hsplit i hb hi with ⟨hl,hi⟩ | ⟨rfl,rfl⟩
  ·rw [hold i hl]; exact hr.inS i hb hi hw
  ·rw [hnew]; exact .inr hr.chg.size
 ·intro p hp
  rw [B_ext]
  exact hr.facts p hp
 ·simp [Env.more,hr.np]
 ·intro i x o cs' hx ha
  rcases hsplit i x hx with ⟨hl,hx⟩ | ⟨rfl,rfl⟩
  ·rw [hold i hl,hr.aps i x o cs' hx ha,ap_ext h.length hn h hs i x o cs' hx ha]
  ·cases ha
 ·have hl : i < h.length:=(List.getElem?_eq_some_iff.1 hi).1
  have:=hw'.blk i hb (by rw [List.getElem?_append_left hl]; exact hi) hw
  rwa [ze0 h.length hn h hs i hb hi,hold i hl] at this
 ·have hl : i < h.length:=(List.getElem?_eq_some_iff.1 hi).1
  have:=hw'.cell i hb j u (by rw [List.getElem?_append_left hl]; exact hi) (by rw [ze0 h.length hn h hs i hb hi]; exact hu)
  rwa [hold i hl] at this
/-! ### A store -/
theorem whole_patch (q : Seg) (cs vs : List Value) (off : Nat) (h : off + vs.length <= cs.length) : patch (q.whole cs).toArray (q.pre.length + off) vs = (q.whole (cs.take off ++ vs ++ cs.drop (off + vs.length))).toArray:=by
 unfold patch Seg.whole
 congr 1
 rw [List.append_assoc,List.append_assoc,List.take_length_add_append,Nat.add_assoc,List.drop_length_add_append,List.take_append_of_le_length (by omega),List.drop_append_of_le_length (by omega)]
 simp only [List.append_assoc]
theorem Rep.row {h : List HB} (hr : Rep X s S w₀ Y h facts np w) {b : Nat} {hb : HB} (hi : h[b]? = some hb) (hw : hb.wr = true) (cs : List SV) :
  Rep X s S w₀ Y (h.set b { hb with cs }) facts np (w.setRow (Y.blks.getD b {}).g ((Y.blks.getD b {}).whole (za3 Y cs)).toArray):=by
 have hbl : b < h.length:=(List.getElem?_eq_some_iff.1 hi).1
 have hget : ∀ (i : Nat) (x : HB),(h.set b { hb with cs })[i]? = some x -> (i = b /\ x = { hb with cs }) \/ (i ≠ b /\ h[i]? = some x):=by
  intro i x hx
  rw [List.getElem?_set] at hx
  split at hx
  ·rename_i e
   cases hx
   exact .inl ⟨e.symm,rfl⟩
  ·rename_i e
   exact .inr ⟨Ne.symm e,hx⟩
 have hne : ∀ i x,h[i]? = some x -> x.live = true -> i ≠ b -> (Y.blks.getD i {}).g ≠ (Y.blks.getD b {}).g:=fun i x hx hlv hib=>hr.nd i b x hb hx hlv hi hw hib
 have hlt : ∀ i x,h[i]? = some x -> i < h.length:=fun i x hx=>(List.getElem?_eq_some_iff.1 hx).1
 have hsl : (h.set b { hb with cs }).length = h.length:=List.length_set
 refine ⟨?_,⟨hr.rep.ys,?_,?_,?_,?_,?_⟩,by simp [hr.len],?_,?_,?_,?_,?_,hr.facts,hr.np,?_⟩
 ·intro g hg
  rw [setRow_size]
  exact hr.there g hg
 ·intro i x hx hxw
  rcases hget i x hx with ⟨rfl,rfl⟩ | ⟨hib,hx⟩
  ·exact ⟨(hr.rep.blk i hb hi hw).1,(hr.rep.blk i hb hi hw).2.row _⟩
  ·exact ⟨(hr.rep.blk i x hx hxw).1,(hr.rep.blk i x hx hxw).2.row_far _ (hne i x hx (by simp [HB.live,hxw]) hib)⟩
 ·intro i x j u hx hu
  rcases hget i x hx with ⟨rfl,rfl⟩ | ⟨hib,hx⟩
  ·exact ziu ((hr.rep.blk i hb hi hw).2.row _) (hr.rep.blk i hb hi hw).1 hu
  ·exact (World.cell?_of_block (setRow_other w _ _ _ (hne i x hx (by cases hcs : x.cs with | nil=>rw [hcs] at hu; simp [za3] at hu | cons _ _=>simp [HB.live,hcs]) hib))).trans (hr.rep.cell i x j u hx hu)
 ·intro i x e n hx he
  rcases hget i x hx with ⟨rfl,rfl⟩ | ⟨hib,hx⟩
  ·exact hr.rep.foc i hb e n hi he
  ·exact hr.rep.foc i x e n hx he
 ·intro i x e n N hx he
  rcases hget i x hx with ⟨rfl,rfl⟩ | ⟨hib,hx⟩
  ·exact hr.rep.row i hb e n N hi he
  ·exact hr.rep.row i x e n N hx he
 ·intro i x hx hxw h3 h4
  rcases hget i x hx with ⟨rfl,rfl⟩ | ⟨hib,hx⟩
  ·exact hr.rep.pl i hb hi hw h3 h4
  ·exact hr.rep.pl i x hx hxw h3 h4
 ·intro i j y x hy hlv hj hxw hij
  have hy' : ∃ y',h[i]? = some y' /\ y'.live = true:=by
   rcases hget i y hy with ⟨rfl,rfl⟩ | ⟨_,hy⟩
   ·exact ⟨hb,hi,by simp [HB.live,hw]⟩
   ·exact ⟨y,hy,hlv⟩
  obtain ⟨y',hy1,hy2⟩:=hy'
  rcases hget j x hj with ⟨rfl,rfl⟩ | ⟨hjb,hj⟩
  ·exact hr.nd i j y' hb hy1 hy2 hi hw hij
  ·exact hr.nd i j y' x hy1 hy2 hj hxw hij
 ·intro i hil
  rw [hsl] at hil
  rw [setRow_size]
  exact hr.bnd i hil
 ·intro i x hx hxw
  rcases hget i x hx with ⟨rfl,rfl⟩ | ⟨hib,hx⟩
  ·exact hr.own i hb hi hw
  ·exact hr.own i x hx hxw
 ·have c:=hr.chg
  refine ⟨c.os,c.tape,c.output,by rw [setRow_size]; exact c.size,fun k hk hs=>(setRow_other w _ k _ (fun e=>?_)).trans (c.block k hk hs)⟩
  subst e
  rcases hr.inS b hb hi hw with h1 | h1
  ·exact hs h1
  ·omega
 ·intro i x hx hxw
  rcases hget i x hx with ⟨rfl,rfl⟩ | ⟨hib,hx⟩
  ·exact hr.inS i hb hi hw
  ·exact hr.inS i x hx hxw
 ·intro i x o cs' hx ha
  rcases hget i x hx with ⟨rfl,rfl⟩ | ⟨hib,hx⟩
  ·exact hr.aps i hb o cs' hi ha
  ·exact hr.aps i x o cs' hx ha
/-! ### Calls -/
theorem zgq {tmps : List SV} {o : Oper} {f : FuncId} {args : List SV} {fn : Func} {c : Code} (h : zc1 P tmps o.op = some (f,args)) (hf : P.funcs[f]? = some fn) (hb : fn.body = some c) (hn : (fn.name == "runtime.NumGoroutine") = false) :
  (execOp (Act.eval { tmps:=(za3 Y tmps).toArray,defers:=[] }) o).run P w = .ok (.enter f (za3 Y args).toArray) w /\ zax P (fun _=>False) (execOp (Act.eval { tmps:=(za3 Y tmps).toArray,defers:=[] }) o):=by
 obtain ⟨dst,op,type,pos,after,guard⟩:=o
 have he:=zcz (Y:=Y) tmps
 have hm:=sev_map (Y:=Y) tmps
 generalize ha : ({ tmps:=(za3 Y tmps).toArray,defers:=[] } : Act) = a at he hm ⊢
 clear ha
 dsimp only at h
 unfold zc1 at h
 split at h
 ·rename_i x args' ats
  split at h
  ·rename_i f' first captured hx
   cases h
   have hxe : a.eval x = .func (.func f) (za3 Y first).toArray (za3 Y captured).toArray:=by rw [he,hx]; rfl
   have hex : execOp a.eval { dst,op:=.call { callee:=.value x,args:=args',argTypes:=ats },type,pos,after,guard } = callFunc f (za3 Y (first ++ args'.toList.map (sev tmps) ++ captured)).toArray:=by
    unfold execOp
    simp only [resolve,hxe,Deferred.ofValue]
    show invoke (.fn (.func f) (za3 Y captured).toArray) ((za3 Y first).toArray ++ args'.map a.eval) = _
    simp only [invoke,hm]
    congr 1
    apply Array.ext'
    simp [zeb]
   rw [hex]
   exact ⟨zen hf hn hb,zdx hf hn hb⟩
  ·cases h
 ·rename_i r name args' ats
  split at h
  ·rename_i t v hx
   split at h
   ·rename_i f' hm'
    cases h
    have hxe : a.eval r = .iface t (v.den Y):=by rw [he,hx]; rfl
    have hprog : ∀ w,(program : Sem Program).run P w = .ok P w:=fun _=>rfl
    obtain ⟨n,hn'⟩ : ∃ n,P.types.size + Made.depth = n + 1:=⟨P.types.size + Made.depth - 1,by unfold Made.depth; omega⟩
    have hext : (#[Value.iface t (v.den Y)] ++ args'.map a.eval).extract 1 (#[Value.iface t (v.den Y)] ++ args'.map a.eval).size = args'.map a.eval:=by
     apply Array.ext'
     simp
     exact List.take_of_length_le (by simp)
    have hex : execOp a.eval { dst,op:=.call { callee:=.invoke r name,args:=args',argTypes:=ats },type,pos,after,guard } = callMethod (.iface t (v.den Y)) name (args'.map a.eval):=by
     unfold execOp
     simp only [resolve,hxe]
     show invoke (.fn (.method name) #[]) (#[Value.iface t (v.den Y)] ++ args'.map a.eval) = _
     have h0 : (#[Value.iface t (v.den Y)] ++ args'.map a.eval)[0]? = some (.iface t (v.den Y)):=by
      rw [Array.getElem?_append_left (by simp)]
      rfl
     unfold invoke
     dsimp only
     rw [h0]
     dsimp only
     rw [hext]
    have hvals : #[v.den Y] ++ args'.map a.eval = (za3 Y (v :: args'.toList.map (sev tmps))).toArray:=by
     rw [hm]
     apply Array.ext'
     simp [za3]
    rw [hex]
    constructor
    ·unfold callMethod
     simp only [Sem.run_bind,hprog,Result.andThen,hn',run_method hm' n (v.den Y),hvals]
     exact zen hf hn hb
    ·unfold callMethod
     show zax P _ (Sem.bind (Sem.program Sem.pure) _)
     simp only [Sem.bind,zax,hn']
     refine only_method hm' n (v.den Y) ?_
     exact zdx hf hn hb
   ·cases h
  ·cases h
 ·cases h
theorem zfk {f : FuncId} {args : List SV} {g : Fr} (h : fresh P f args = some g) : ∃ fn c,P.funcs[f]? = some fn /\ fn.body = some c /\ (fn.name == "runtime.NumGoroutine") = false /\ g.den P Y = Frame.enter P f (za3 Y args).toArray .normal := by
 unfold fresh at h
 split at h
 ·rename_i fn hf
  split at h
  ·rename_i c hb
   split at h
   ·cases h
   ·rename_i hn
    cases h
    refine ⟨fn,c,hf,hb,by simpa using hn,?_⟩
    rw [enter_at _ hf hb]
    have hcode : zbo P f [] = some c:=by simp [zbo,bodyOf,hf,hb,Sx.walk]
    simp only [Fr.den,List.map_cons,List.map_nil,It.den,CE.den,hcode,Option.getD_some]
    congr 1
    simp only [Fr.act,zeb,Act.mk.injEq,and_true]
    apply Array.ext'
    simp only [List.toList_toArray,Array.toList_append,Array.toList_replicate,List.size_toArray,za8]
    congr 1
    simp [zc3,List.map_replicate,SV.den]
  ·cases h
 ·cases h
/-! ### One operation -/
def ActsV (P : Program) (X : zad γ) (s : γ) (S : Nat -> Prop) (w₀ : World) (Y : Env) (h h' : List HB) (facts : List (B × Bool)) (np : Nat) (frs : List Fr) (tmps : List SV) (o : Oper) (v : SV) (w : World) : Prop:=
 ∃ (q : Seg) (w' : World),let Y':=Y.more [q] []; (execOp (Act.eval { tmps:=(za3 Y tmps).toArray,defers:=[] }) o).run P w = .ok (.value (v.den Y')) w' /\ (∀ fn,ziw P (X.oth s) fn o { tmps:=(za3 Y tmps).toArray,defers:=[] } w) /\
  Rep X s S w₀ Y' h' facts np w' /\ za3 Y' tmps = za3 Y tmps /\ frs.map (Fr.den P Y') = frs.map (Fr.den P Y) /\ ((∀ w,HRep Y' h' w -> HRep Y h w) \/ ∃ c : Call,o.op = .call { callee:=.builtin .append,args:=c.args,argTypes:=c.argTypes })
theorem zir {h : List HB} (hrep : Rep X s S w₀ Y h facts np w) (q : Seg) : (Y.more [q] []).blks.getD h.length {} = q:=by
 rw [show h.length = Y.blks.length from hrep.len.symm]
 exact zgk _ _ _
theorem sbsl_val {h h' : List HB} {frs : List Fr} {tmps : List SV} {o : Oper} {t : TypeId} {n : Nat} {parts : Array (Nat × Operand)} {v : SV} (hop : o.op = .buildSlice t n parts) (hrep : Rep X s S w₀ Y h facts np w) (hs : sbsl P h frs tmps t n parts = .val v h') : ActsV P X s S w₀ Y h h' facts np frs tmps o v w:=by
 have he:=zcz (Y:=Y) tmps
 have hn : h.length <= Y.blks.length:=Nat.le_of_eq hrep.len.symm
 unfold sbsl at hs
 split at hs
 ·rename_i el hu
  split at hs
  ·rename_i ti hti
   split at hs
   ·rename_i z hz
    split at hs
    ·rename_i cs hf
     split at hs
     ·rename_i hcond
      simp only [Bool.and_eq_true] at hcond
      obtain ⟨⟨hn1,hn2⟩,⟨⟨⟨h0,h1⟩,h2⟩,h3⟩⟩:=hcond
      cases hs
      obtain ⟨hr1,hr2⟩:=hrep.alloc h2 (t:=el) h3 (some (.lit 0,ti.size)) (.inr ⟨_,rfl⟩)
      refine ⟨⟨w.heap.size,0,0,[],[],0,none⟩,_,?_,fun fn=>zb3 (zay (by rw [hop]; rfl) _) hrep.there,hr1,zai _ hn _ h0,zgl _ hn _ h1,.inl hr2⟩
      have hfill:=zjt (Y:=Y) hrep.rep.ys _ _ _ _ hf
      have hz0 : (za3 Y ((List.range (n * ti.size)).map fun j=>ofV1 (z.cells[j % z.cells.size]!))).toArray = (Array.range (n * ti.size)).map (z.cells[· % z.cells.size]!):=by
       rw [zc3,List.map_map]
       apply Array.ext'
       simp only [List.toList_toArray,Array.toList_map,Array.toList_range]
       refine List.map_congr_left fun j _=>?_
       exact zoh _
      rw [hz0] at hfill
      have hparts : (parts.map fun x=>(x.1,Act.eval { tmps:=(za3 Y tmps).toArray,defers:=[] } x.2)).toList = (parts.toList.map fun x=>(x.1,sev tmps x.2)).map fun x=>(x.1,x.2.den Y):=by
       simp [he]
      have hne : ¬ n * ti.size = 0:=by omega
      have hng : ¬ n * ti.size > 2 ^ 24:=by omega
      have hrun : (Instr.buildSlice t n (parts.map fun x=>(x.1,Act.eval { tmps:=(za3 Y tmps).toArray,defers:=[] } x.2))).run P w = .ok (.slice (some ⟨w.heap.size,0,none⟩) n n) (w.alloc (.cells (za3 Y cs).toArray el)):=by
       unfold Instr.buildSlice
       simp only [Sem.run_bind,run_underlying hu,Result.andThen,zfe hti]
       rw [if_neg hng,if_neg hne]
       simp only [Sem.run_bind,zeroValue,run_info hti,Result.andThen,hz,Sem.run_pure,hparts,hfill,newRow,run_newObj]
       rfl
      have hex : execOp (Act.eval { tmps:=(za3 Y tmps).toArray,defers:=[] }) o = (do pure (Next.value (<- Instr.buildSlice t n (parts.map fun x=>(x.1,Act.eval { tmps:=(za3 Y tmps).toArray,defers:=[] } x.2)))) : Sem Next):=by
       unfold execOp
       simp only [hop]
      rw [hex]
      simp only [Sem.run_bind,hrun,Result.andThen,Sem.run_pure,SV.den,BA.den,Seg.adr,CP.den,E.den,zir hrep,Int.toNat_natCast]
     ·cases hs
    ·cases hs
   ·cases hs
  ·cases hs
 ·cases hs
theorem zmq {n : Nat} : ∀ (h : List HB) (b : Nat) {hb hb' : HB},zcq n h = true -> h[b]? = some hb -> hb'.cs = hb.cs -> hb'.ap = hb.ap -> zcq n (h.set b hb') = true
 | [],b,hb,hb',hh,hi,he,ha=>by simp at hi
 | x :: h,b,hb,hb',hh,hi,he,ha=>by
  simp only [zcq,Bool.and_eq_true] at hh
  cases b with
  | zero=>
   simp at hi
   subst hi
   simp only [List.set_cons_zero,zcq,Bool.and_eq_true,he,ha]
   exact hh
  | succ b=>
   simp only [List.set_cons_succ,zcq,Bool.and_eq_true]
   exact ⟨hh.1,zmq h b hh.2 (by simpa using hi) he ha⟩
theorem Rep.dead {h : List HB} (hr : Rep X s S w₀ Y h facts np w) {b : Nat} {hb : HB} (hi : h[b]? = some hb) (hcs : hb.cs = []) (hfo : hb.foc = none) : Rep X s S w₀ Y (h.set b { hb with wr:=false,row:=none }) facts np w:=by
 have hbl : b < h.length:=(List.getElem?_eq_some_iff.1 hi).1
 have hget : ∀ (i : Nat) (x : HB),(h.set b { hb with wr:=false,row:=none })[i]? = some x -> (i = b /\ x = { hb with wr:=false,row:=none }) \/ (i ≠ b /\ h[i]? = some x):=by
  intro i x hx
  rw [List.getElem?_set] at hx
  split at hx
  ·rename_i e
   cases hx
   exact .inl ⟨e.symm,rfl⟩
  ·rename_i e
   exact .inr ⟨Ne.symm e,hx⟩
 refine ⟨hr.there,⟨hr.rep.ys,fun i x hx hw=>?_,fun i x j u hx hu=>?_,fun i x e n hx he=>?_,fun i x e n N hx he=>?_,fun i x hx hw h3 h4=>?_⟩,by simp [hr.len],fun i j y x hy hlv hj hw hij=>?_,fun i hil=>hr.bnd i (by simpa using hil),fun i x hx hw=>?_,hr.chg,fun i x hx hw=>?_,hr.facts,hr.np,fun i x o cs' hx ha=>?_⟩
 ·rcases hget i x hx with ⟨rfl,rfl⟩ | ⟨_,hx⟩
  ·cases hw
  ·exact hr.rep.blk i x hx hw
 ·rcases hget i x hx with ⟨rfl,rfl⟩ | ⟨_,hx⟩
  ·simp [hcs,za3] at hu
  ·exact hr.rep.cell i x j u hx hu
 ·rcases hget i x hx with ⟨rfl,rfl⟩ | ⟨_,hx⟩
  ·rw [hfo] at he; cases he
  ·exact hr.rep.foc i x e n hx he
 ·rcases hget i x hx with ⟨rfl,rfl⟩ | ⟨_,hx⟩
  ·cases he
  ·exact hr.rep.row i x e n N hx he
 ·rcases hget i x hx with ⟨rfl,rfl⟩ | ⟨_,hx⟩
  ·cases hw
  ·exact hr.rep.pl i x hx hw h3 h4
 ·rcases hget i y hy with ⟨rfl,rfl⟩ | ⟨_,hy⟩
  ·simp [HB.live,hcs] at hlv
  ·rcases hget j x hj with ⟨rfl,rfl⟩ | ⟨_,hj⟩
   ·cases hw
   ·exact hr.nd i j y x hy hlv hj hw hij
 ·rcases hget i x hx with ⟨rfl,rfl⟩ | ⟨_,hx⟩
  ·cases hw
  ·exact hr.own i x hx hw
 ·rcases hget i x hx with ⟨rfl,rfl⟩ | ⟨_,hx⟩
  ·cases hw
  ·exact hr.inS i x hx hw
 ·rcases hget i x hx with ⟨rfl,rfl⟩ | ⟨_,hx⟩
  ·exact hr.aps i hb o cs' hi ha
  ·exact hr.aps i x o cs' hx ha
theorem Rep.grow {h : List HB} (hr : Rep X s S w₀ Y h facts np w) (hs : zcq h.length h = true) {r : Option Nat} {w' : World} (hg : w.grownBy w' r) {q : Seg} {t : TypeId} {e : E} {n N : Nat} {ap : Option (Option Nat × List SV)} (hsz : 0 < n) (hap : ∀ a0 acs,ap = some (a0,acs) -> q.pre = zd9 Y a0 ++ za3 Y acs /\ scAp h.length (some (a0,acs)) = true)
  (hrow : ∀ g,r = some g -> (∀ i x,h[i]? = some x -> x.live = true -> (Y.blks.getD i {}).g ≠ g) /\ ¬ X.oth s g /\ (S g \/ w₀.heap.size <= g)) (hq : r = some q.g \/ q.g = w.heap.size) (hb0 : q.b0 = 0) (ho : q.o = q.pre.length) (hblk : Blk w' q.g t (q.whole []).toArray) (hpre : q.pre.length = (e.den Y).toNat * n) (hN : (e.den Y).toNat <= N) (hc1 : (e.den Y).toNat <= q.cap) (hc2 : q.cap <= maxLen) (hc3 : q.pre.length + q.post.length = q.cap * n) (had : q.ad = none) :
  Rep X s S w₀ (Y.more [q] []) (h ++ [{ t,cs:=[],row:=some (e,n,N),ap }]) facts np w':=by
 have hn : h.length <= Y.blks.length:=Nat.le_of_eq hr.len.symm
 have hold : ∀ i,i < h.length -> (Y.more [q] []).blks.getD i {} = Y.blks.getD i {}:=fun i hi=>zb6 _ _ _ _ (by omega)
 have hnew : (Y.more [q] []).blks.getD h.length {} = q:=by
  rw [show h.length = Y.blks.length from hr.len.symm]
  exact zgk _ _ _
 have hlt : ∀ {i x},h[i]? = some x -> i < h.length:=fun hx=>(List.getElem?_eq_some_iff.1 hx).1
 have hfar : ∀ i x,h[i]? = some x -> x.live = true -> (Y.blks.getD i {}).g ≠ q.g:=fun i x hx hlv=>by
  rcases hq with hq | hq
  ·exact (hrow _ hq).1 i x hx hlv
  ·rw [hq]; exact Nat.ne_of_lt (hr.bnd i (hlt hx))
 have hkeep : ∀ i x,h[i]? = some x -> x.live = true -> w'.heap[(Y.blks.getD i {}).g]? = w.heap[(Y.blks.getD i {}).g]?:=fun i x hx hlv=>
  hg.block _ (hr.bnd i (hlt hx)) fun e=>(hrow _ e.symm).1 i x hx hlv rfl
 refine ⟨fun b hb=>Nat.lt_of_lt_of_le (hr.there b hb) hg.size,⟨hr.rep.ys,fun i x hx hw=>?_,fun i x j u hx hu=>?_,fun i x e' n' hx he=>?_,fun i x e' n' N' hx he=>?_,fun i x hx hw h3 h4=>?_⟩,by simp [Env.more,hr.len],fun i j y x hy hlv hj hw hij=>?_,fun i hil=>?_,fun i x hx hw=>?_,?_,fun i x hx hw=>?_,fun p hp=>by rw [B_ext]; exact hr.facts p hp,by simp [Env.more,hr.np],fun i x o cs' hx ha=>?_⟩
 ·rcases zbw hx with ⟨hil,hx⟩ | ⟨rfl,rfl⟩
  ·rw [hold i hil,ze0 h.length hn h hs i x hx]
   exact ⟨(hr.rep.blk i x hx hw).1,(hkeep i x hx (by simp [HB.live,hw])).trans (hr.rep.blk i x hx hw).2⟩
  ·rw [hnew]
   exact ⟨ho,hblk⟩
 ·rcases zbw hx with ⟨hil,hx⟩ | ⟨rfl,rfl⟩
  ·rw [ze0 h.length hn h hs i x hx] at hu
   rw [hold i hil]
   have hlv : x.live = true:=by
    cases hcs : x.cs with
    | nil=>rw [hcs] at hu; simp [za3] at hu
    | cons _ _=>simp [HB.live,hcs]
   exact (World.cell?_of_block (a:=⟨_,_,none⟩) (hkeep i x hx hlv)).trans (hr.rep.cell i x j u hx hu)
  ·simp [za3] at hu
 ·rcases zbw hx with ⟨hil,hx⟩ | ⟨rfl,rfl⟩
  ·rw [hold i hil,zf8]; exact hr.rep.foc i x e' n' hx he
  ·cases he
 ·rcases zbw hx with ⟨hil,hx⟩ | ⟨rfl,rfl⟩
  ·rw [hold i hil,zf8]; exact hr.rep.row i x e' n' N' hx he
  ·simp only [Option.some.injEq,Prod.mk.injEq] at he
   obtain ⟨rfl,rfl,rfl⟩:=he
   rw [hnew,zf8]
   exact ⟨hb0,hpre,hN,hc1,hc2,hc3,had⟩
 ·rcases zbw hx with ⟨hil,hx⟩ | ⟨rfl,rfl⟩
  ·rw [hold i hil]; exact hr.rep.pl i x hx hw h3 h4
  ·cases h4
 ·rcases zbw hj with ⟨hjl,hj⟩ | ⟨rfl,rfl⟩
  ·rw [hold j hjl]
   rcases zbw hy with ⟨hil,hy⟩ | ⟨rfl,rfl⟩
   ·rw [hold i hil]; exact hr.nd i j y x hy hlv hj hw hij
   ·rw [hnew]; exact (hfar j x hj (by simp [HB.live,hw])).symm
  ·rcases zbw hy with ⟨hil,hy⟩ | ⟨rfl,rfl⟩
   ·rw [hnew,hold i hil]; exact hfar i y hy hlv
   ·exact absurd rfl hij
 ·by_cases hil' : i < h.length
  ·rw [hold i hil']; exact Nat.lt_of_lt_of_le (hr.bnd i hil') hg.size
  ·have : i = h.length:=by simp at hil; omega
   subst this
   rw [hnew]
   exact hblk.lt
 ·rcases zbw hx with ⟨hil,hx⟩ | ⟨rfl,rfl⟩
  ·rw [hold i hil]; exact hr.own i x hx hw
  ·rw [hnew]
   rcases hq with hq | hq
   ·exact (hrow _ hq).2.1
   ·rw [hq]
    intro ho
    exact absurd (hr.there _ ho) (Nat.lt_irrefl _)
 ·have c:=hr.chg
  refine ⟨hg.os.trans c.os,hg.tape.trans c.tape,hg.output.trans c.output,Nat.le_trans c.size hg.size,fun k hk hS=>(hg.block k (Nat.lt_of_lt_of_le hk c.size) fun e=>?_).trans (c.block k hk hS)⟩
  rcases (hrow k e.symm).2.2 with h1 | h1
  ·exact hS h1
  ·omega
 ·rcases zbw hx with ⟨hil,hx⟩ | ⟨rfl,rfl⟩
  ·rw [hold i hil]; exact hr.inS i x hx hw
  ·rw [hnew]
   rcases hq with hq | hq
   ·exact (hrow _ hq).2.2
   ·rw [hq]; exact .inr hr.chg.size
 ·rcases zbw hx with ⟨hil,hx⟩ | ⟨rfl,rfl⟩
  ·rw [hold i hil,hr.aps i x o cs' hx ha,ap_ext h.length hn h hs i x o cs' hx ha]
  ·have hap:=hap o cs' ha
   rw [hnew,apv_ext h.length hn _ _ hap.2]
   exact hap.1
theorem zif {n : Nat} : ∀ (h : List HB) (b : Nat) {hb : HB},zcq n h = true -> h[b]? = some hb -> scs n hb.cs = true
 | [],b,hb,hh,hi=>by simp at hi
 | x :: h,b,hb,hh,hi=>by
  simp only [zcq,Bool.and_eq_true] at hh
  cases b with
  | zero=>simp at hi; subst hi; exact hh.1.1
  | succ b=>exact zif h b hh.2 (by simpa using hi)
theorem sapp_val {h h' : List HB} {frs : List Fr} {tmps : List SV} {o : Oper} {args : Array Operand} {ts : Array TypeId} {v : SV} (hop : o.op = .call { callee:=.builtin .append,args,argTypes:=ts }) (hrep : Rep X s S w₀ Y h facts np w) (hs : sapp P h frs tmps args.toList ts.toList = .val v h') : ActsV P X s S w₀ Y h h' facts np frs tmps o v w:=by
 have he:=zcz (Y:=Y) tmps
 have hn : h.length <= Y.blks.length:=Nat.le_of_eq hrep.len.symm
 unfold sapp at hs
 split at hs
 ·rename_i x y t t' hargs hts
  obtain rfl : args = #[x,y]:=Array.ext' hargs
  obtain rfl : ts = #[t,t']:=Array.ext' hts
  split at hs
  ·rename_i el hu
   split at hs
   ·rename_i ti hti
    split at hs
    ·rename_i z hz
     split at hs
     ·rename_i c m cp hy
      split at hs
      ·rename_i hc hci
       split at hs
       ·rename_i hcond
        simp only [Bool.and_eq_true] at hcond
        obtain ⟨htt,hzs,hsz,hm,hlen,hone,hfoc,⟨⟨c0,c1⟩,c2⟩⟩:=hcond
        subst htt
        have hev : ∀ u,Act.eval { tmps:=(za3 Y tmps).toArray,defers:=[] } x = u -> execOp (Act.eval { tmps:=(za3 Y tmps).toArray,defers:=[] }) o = (do pure (Next.value (<- Builtin.append_ #[t,t] o.type #[u,(SV.sl (.blk c) (.lit m) cp).den Y])) : Sem Next):=by
         intro u hxu
         unfold execOp
         simp only [hop,resolve,List.map_toArray,List.map_cons,List.map_nil,hxu,he y,hy]
         rfl
        have hm0 : 0 < m.toNat:=by omega
        obtain ⟨hq0,hqa⟩:=hrep.rep.foc c hc _ _ hci hfoc
        simp only [E.den,Int.toNat_zero,Nat.zero_mul,Nat.add_zero] at hq0
        have hnews : ∀ j u,(za3 Y hc.cs)[j]? = some u -> w.cell? ((⟨(Y.blks.getD c {}).g,(Y.blks.getD c {}).b0,none⟩ : Addr).add j) = some u:=by
         intro j u hu
         rw [zlx,<- hq0]
         exact hrep.rep.cell c hc j u hci hu
        have hone' : ∀ u ∈ za3 Y hc.cs,u.oneCell' = true:=by
         intro u hu
         rw [zc3] at hu
         obtain ⟨sv,hsv,rfl⟩:=List.mem_map.1 hu
         exact one_ok hrep.rep.ys (List.all_eq_true.1 hone sv hsv)
        have hml : maxLen = 9223372036854775807:=rfl
        split at hs
        ·rename_i hxnil
         split at hs
         ·rename_i hb
          cases hs
          have hx : Act.eval { tmps:=(za3 Y tmps).toArray,defers:=[] } x = .slice none 0 0:=by rw [he,hxnil]; rfl
          obtain ⟨g,cap,w',hr,hown,hgrow,hor,hlt⟩:=run_append_lies (P:=P) w t o.type 0 el ti z ti.size ti.bytes hu hti hz rfl rfl hzs hsz (.slice none 0 0) 0 [] ⟨by simp,.inl ⟨rfl,rfl⟩⟩ ⟨(Y.blks.getD c {}).g,(Y.blks.getD c {}).b0,none⟩ m.toNat (cp.den Y) (za3 Y hc.cs) (by rw [za8]; exact hlen) hnews hone' hm0 (by omega) (by simpa using hb.1) (Nat.zero_le _) w.heap.size rfl
          obtain ⟨o1,o2 | ⟨g',cap',cur,o3,_,o4,o5,o6,o7,o8⟩⟩:=hown
          ·omega
          ·simp only [Value.slice.injEq,Option.some.injEq,Addr.mk.injEq,and_true,true_and] at o3
           obtain ⟨rfl,_,rfl⟩:=o3
           have hg : g = w.heap.size:=by
            rcases hor with h | h
            ·cases h
            ·exact h
           have hq : cur.toList = za3 Y hc.cs ++ cur.toList.drop (m.toNat * ti.size):=by
            have:=o8
            simp only [Nat.zero_add,List.nil_append] at this
            rw [<- this,List.take_append_drop]
           have hpl : (za3 Y hc.cs).length = m.toNat * ti.size:=by rw [za8]; exact hlen
           have hcl : (za3 Y hc.cs).length + (cur.toList.drop (m.toNat * ti.size)).length = cap * ti.size:=by
            have h1:=congrArg List.length hq
            rw [List.length_append] at h1
            rw [<- h1,Array.length_toList]
            exact o7
           have hrep':=hrep.grow c2 hgrow (q:=⟨g,0,(za3 Y hc.cs).length,za3 Y hc.cs,cur.toList.drop (m.toNat * ti.size),cap,none⟩) (t:=el) (e:=.lit m) (n:=ti.size) (N:=1000000 + m.toNat) (ap:=some (none,hc.cs)) hsz (fun a0 acs e=>by cases e; exact ⟨rfl,by simp only [scAp,Bool.true_and]; exact zif _ _ c2 hci⟩) (fun g hg=>by cases hg) (.inr hg) rfl rfl (by
            show Blk w' g el (Seg.whole _ []).toArray
            simp only [Seg.whole,List.append_nil]
            rw [<- hq]
            simpa [Blk] using o4) hpl (Nat.le_add_left _ _) (by simp only [Nat.zero_add] at o5; exact o5) o6 hcl rfl
           refine ⟨_,w',?_,fun fn=>?_,hrep',zai _ hn _ c0,zgl _ hn _ c1,.inr ⟨{ callee:=.builtin .append,args:=#[x,y],argTypes:=#[t,t] },hop⟩⟩
           ·rw [hev _ hx]
            simp only [SV.den,BA.den,Seg.adr,hqa,CP.den,E.den,zir hrep] at hr ⊢
            simp only [Sem.run_bind,hr,Result.andThen,Sem.run_pure,Nat.zero_add]
           ·refine zci (W:=fun b=>False) ?_ hrep.there (fun b hb=>hb.elim)
            rw [hev _ hx]
            exact za0 (zfg _ _ _ _ _ _ fun ad had=>by cases had) fun _=>trivial
         ·cases hs
        ·rename_i b len b' sz' hxb
         split at hs
         ·rename_i hb hbi
          split at hs
          ·rename_i len' sz N hrow
           split at hs
           ·rename_i hcond2
            obtain ⟨rfl,rfl,rfl,rfl,ht,hwr,hemp,hfo,hby,hN⟩:=hcond2
            cases hs
            have hcs : hb.cs = []:=List.isEmpty_iff.1 hemp
            obtain ⟨r1,r2,r3,r4,r5,r6,r7⟩:=hrep.rep.row b hb _ _ _ hbi hrow
            generalize hcap0 : (Y.blks.getD b {}).cap = cap0 at r4 r5 r6
            obtain ⟨ho,hblk⟩:=hrep.rep.blk b hb hbi hwr
            have hx : Act.eval { tmps:=(za3 Y tmps).toArray,defers:=[] } x = .slice (some ⟨(Y.blks.getD b {}).g,0,none⟩) (len'.den Y).toNat cap0:=by
             rw [he,hxb]
             simp only [SV.den,BA.den,CP.den,Seg.adr,r7,r1,hcap0]
            rw [hcs] at hblk
            have hown0 : w.ownsRow 0 el ti.size (.slice (some ⟨(Y.blks.getD b {}).g,0,none⟩) (len'.den Y).toNat cap0) (len'.den Y).toNat (Y.blks.getD b {}).pre:=by
             refine ⟨r2,.inr ⟨_,cap0,((Y.blks.getD b {}).whole (za3 Y [])).toArray,rfl,Nat.zero_le _,?_,r4,r5,?_,?_⟩⟩
             ·rw [<- ht]; exact hblk
             ·simp only [Seg.whole,za3,List.append_nil,List.size_toArray,List.length_append]
              exact r6
             ·simp only [Seg.whole,za3,List.append_nil]
              rw [<- r2]
              simp
            obtain ⟨g,cap,w',hr,hown,hgrow,hor,hlt⟩:=run_append_lies (P:=P) w t o.type 0 el ti z ti.size ti.bytes hu hti hz rfl rfl hzs hsz _ _ _ hown0 ⟨(Y.blks.getD c {}).g,(Y.blks.getD c {}).b0,none⟩ m.toNat (cp.den Y) (za3 Y hc.cs) (by rw [za8]; exact hlen) hnews hone' hm0 (by omega) (Nat.le_trans (Nat.mul_le_mul_right _ (by omega)) hby) (Nat.zero_le _) w.heap.size rfl
            obtain ⟨o1,o2 | ⟨g',cap',cur,o3,_,o4,o5,o6,o7,o8⟩⟩:=hown
            ·omega
            ·simp only [Value.slice.injEq,Option.some.injEq,Addr.mk.injEq,and_true,true_and] at o3
             obtain ⟨rfl,rfl⟩:=o3
             simp only [Value.ownBlock] at hgrow hor
             have hq : cur.toList = (Y.blks.getD b {}).pre ++ za3 Y hc.cs ++ cur.toList.drop (((len'.den Y).toNat + m.toNat) * ti.size):=by
              rw [<- o8,List.take_append_drop]
             have hpl : ((Y.blks.getD b {}).pre ++ za3 Y hc.cs).length = ((len'.den Y).toNat + m.toNat) * ti.size:=o1
             have hcl : ((Y.blks.getD b {}).pre ++ za3 Y hc.cs).length + (cur.toList.drop (((len'.den Y).toNat + m.toNat) * ti.size)).length = cap * ti.size:=by
              have h1:=congrArg List.length hq
              rw [List.length_append] at h1
              rw [<- h1,Array.length_toList]
              exact o7
             have hel : (E.ad (zm3 len') (.lit m)).den Y = (((len'.den Y).toNat + m.toNat : Nat) : Int):=by
              simp only [E.den,zeu]
              omega
             have hel2 : ((E.ad (zm3 len') (.lit m)).den Y).toNat = (len'.den Y).toNat + m.toNat:=by rw [hel]; omega
             have hdead:=hrep.dead hbi hcs hfo
             have hsc : zcq (h.set b { hb with wr:=false,row:=none }).length (h.set b { hb with wr:=false,row:=none }) = true:=by
              rw [List.length_set]
              exact zmq _ _ c2 hbi rfl rfl
             have hrep':=hdead.grow hsc hgrow (q:=⟨g,0,((Y.blks.getD b {}).pre ++ za3 Y hc.cs).length,(Y.blks.getD b {}).pre ++ za3 Y hc.cs,cur.toList.drop (((len'.den Y).toNat + m.toNat) * ti.size),cap,none⟩) (t:=el) (e:=.ad (zm3 len') (.lit m)) (n:=ti.size) (N:=N + m.toNat) (ap:=some (some b,hc.cs)) hsz (fun a0 acs e=>by cases e; exact ⟨rfl,by rw [List.length_set]; simp only [scAp,Bool.and_eq_true,decide_eq_true_eq]; exact ⟨(List.getElem?_eq_some_iff.1 hbi).1,zif _ _ c2 hci⟩⟩) (fun g hg=>by
               cases hg
               refine ⟨fun i x hx hlv=>?_,hrep.own b hb hbi hwr,hrep.inS b hb hbi hwr⟩
               rw [List.getElem?_set] at hx
               split at hx
               ·split at hx
                ·cases hx
                 simp [HB.live,hcs] at hlv
                ·cases hx
               ·rename_i hib
                exact hrep.nd i b x hb hx hlv hbi hwr (Ne.symm hib)) (by rcases hor with h | h; exact .inl h; exact .inr h) rfl rfl (by
               show Blk w' g el (Seg.whole _ []).toArray
               simp only [Seg.whole,List.append_nil]
               rw [<- hq]
               simpa [Blk] using o4) (by rw [hel2]; exact hpl) (by rw [hel2]; omega) (by rw [hel2]; exact o5) o6 hcl rfl
             refine ⟨_,w',?_,fun fn=>?_,hrep',zai _ hn _ c0,zgl _ hn _ c1,.inr ⟨{ callee:=.builtin .append,args:=#[x,y],argTypes:=#[t,t] },hop⟩⟩
             ·rw [hev _ hx]
              simp only [SV.den,BA.den,Seg.adr,hqa,CP.den,zf8,hel,zir hrep,E.den] at hr ⊢
              simp only [Sem.run_bind,hr,Result.andThen,Sem.run_pure]
              have h9 : (E.den Y (zm3 len') + m).toNat = (len'.den Y).toNat + m.toNat:=by rw [zeu]; omega
              rw [h9]
             ·refine zci (W:=fun g=>g = (Y.blks.getD b {}).g) ?_ hrep.there (fun g hg=>by
               subst hg
               exact ⟨hrep.own b hb hbi hwr,hblk.lt,fun y t' e=>by unfold Blk at hblk; rw [hblk] at e; cases e⟩)
              rw [hev _ hx]
              exact za0 (zfg _ _ _ _ _ _ fun ad had=>by cases had; rfl) fun _=>trivial
           ·cases hs
          ·cases hs
         ·cases hs
        ·cases hs
       ·cases hs
      ·cases hs
     ·cases hs
    ·cases hs
   ·cases hs
  ·cases hs
 ·cases hs
theorem sact_val {h h' : List HB} {frs : List Fr} {tmps : List SV} {o : Oper} {v : SV} (hrep : Rep X s S w₀ Y h facts np w) (hs : sact P h frs tmps o.op = .val v h') : ActsV P X s S w₀ Y h h' facts np frs tmps o v w:=by
 have he:=zcz (Y:=Y) tmps
 have hn : h.length <= Y.blks.length:=Nat.le_of_eq hrep.len.symm
 have hptr : (SV.ptr h.length 0).den (Y.more [⟨w.heap.size,0,0,[],[],0,none⟩] []) = .pointer (some ⟨w.heap.size,0,none⟩):=by
  simp only [SV.den,zir hrep]
 unfold sact at hs
 split at hs
 ·rename_i t a x hop
  split at hs
  ·split at hs
   ·dsimp only at hs
    split at hs <;> cases hs
   ·cases hs
  ·cases hs
 ·rename_i t hop
  split at hs
  ·rename_i cs hz
   split at hs
   ·rename_i hcond
    simp only [Bool.and_eq_true] at hcond
    obtain ⟨⟨⟨h0,h1⟩,h2⟩,h3⟩:=hcond
    cases hs
    obtain ⟨hr1,hr2⟩:=hrep.alloc h2 (t:=t) h3 none (.inl rfl)
    refine ⟨⟨w.heap.size,0,0,[],[],0,none⟩,_,?_,fun fn=>zb3 (zay (by rw [hop]; rfl) _) hrep.there,hr1,zai _ hn _ h0,zgl _ hn _ h1,.inl hr2⟩
    rw [hptr]
    unfold zeroOf at hz
    split at hz
    ·rename_i ti hti
     split at hz
     ·rename_i v hv
      cases hz
      simp only [execOp,hop,Instr.alloc,zeroValue,Sem.run_bind,run_info hti,Result.andThen,hv,Sem.run_pure,newVar,newRow,run_newObj,zlu]
      rfl
     ·cases hz
    ·cases hz
   ·cases hs
  ·cases hs
 ·rename_i t n parts hop
  exact sbsl_val hop hrep hs
 ·rename_i args ts hop
  exact sapp_val hop hrep hs
 ·rename_i t x hop
  dsimp only at hs
  split at hs
  ·rename_i hcond
   simp only [Bool.and_eq_true] at hcond
   obtain ⟨⟨⟨⟨h0,h1⟩,h2⟩,h3⟩,h4⟩:=hcond
   cases hs
   obtain ⟨hr1,hr2⟩:=hrep.alloc h2 (t:=t) h3 none (.inl rfl)
   refine ⟨⟨w.heap.size,0,0,[],[],0,none⟩,_,?_,fun fn=>zb3 (zay (by rw [hop]; rfl) _) hrep.there,hr1,zai _ hn _ h0,zgl _ hn _ h1,.inl hr2⟩
   rw [hptr]
   have hcells:=zli (Y:=Y) h4 hrep.rep.ys
   simp only [execOp,hop,Instr.box,he,Sem.run_bind,newVar,newRow,run_newObj,Result.andThen,Sem.run_pure,hcells]
   rfl
  ·cases hs
 ·cases hs
theorem sact_skip {h h' : List HB} {frs : List Fr} {tmps : List SV} {o : Oper} (hrep : Rep X s S w₀ Y h facts np w) (hs : sact P h frs tmps o.op = .skip h') :
  (∃ t a x,o.op = .store t a x) /\ ∃ w',(execOp (Act.eval { tmps:=(za3 Y tmps).toArray,defers:=[] }) o).run P w = .ok .skip w' /\ (∀ fn,ziw P (X.oth s) fn o { tmps:=(za3 Y tmps).toArray,defers:=[] } w) /\ Rep X s S w₀ Y h' facts np w':=by
 have he:=zcz (Y:=Y) tmps
 have hth : ∀ b,X.oth s b -> b < w.heap.size:=hrep.there
 unfold sact at hs
 split at hs
 ·rename_i t a x hop
  refine ⟨⟨t,a,x,hop⟩,?_⟩
  split at hs
  ·rename_i b off hpa
   split at hs
   ·rename_i hb ti hbi hti
    dsimp only at hs
    split at hs
    ·rename_i hcond
     simp only [Bool.and_eq_true,beq_iff_eq,decide_eq_true_eq] at hcond
     obtain ⟨⟨⟨hwr,hlen⟩,hle⟩,hone⟩:=hcond
     cases hs
     obtain ⟨hoff,hblk⟩:=hrep.rep.blk b hb hbi hwr
     have hcells:=zli (Y:=Y) hone hrep.rep.ys
     have hea : Act.eval { tmps:=(za3 Y tmps).toArray,defers:=[] } a = .pointer (some ⟨(Y.blks.getD b {}).g,(Y.blks.getD b {}).o + off,none⟩):=by
      rw [he,hpa]
      rfl
     rw [hoff] at hea
     have hex:=he x
     have hsz : ((sev tmps x).den Y).cells.size = ti.size:=by rw [hcells]; simp [za8,hlen]
     have hrun:=zg8 (P:=P) (ty:=t) (v:=(sev tmps x).den Y) (o':=(Y.blks.getD b {}).pre.length + off) hblk (by rw [hti,hsz]; rfl) (by rw [hcells]; simp only [List.size_toArray,za8,Seg.whole,List.length_append]; omega) (by
      intro u hu
      rw [hcells] at hu
      simp only [zc3] at hu
      obtain ⟨sv,hsv,rfl⟩:=List.mem_map.1 hu
      exact one_ok hrep.rep.ys (List.all_eq_true.1 hone sv hsv))
     have hpatch : patch ((Y.blks.getD b {}).whole (za3 Y hb.cs)).toArray ((Y.blks.getD b {}).pre.length + off) ((sev tmps x).den Y).cells.toList = ((Y.blks.getD b {}).whole (za3 Y (hb.cs.take off ++ (sev tmps x).cells ++ hb.cs.drop (off + (sev tmps x).cells.length)))).toArray:=by
      rw [hcells,whole_patch _ _ _ _ (by rw [za8,za8]; exact hle)]
      simp only [zeb,zlt,zlv,za8]
     rw [hpatch] at hrun
     refine ⟨_,?_,fun fn=>?_,hrep.row hbi hwr (hb.cs.take off ++ (sev tmps x).cells ++ hb.cs.drop (off + (sev tmps x).cells.length))⟩
     ·unfold execOp
      simp only [hop,hea,hex,Sem.run_bind,hrun,Result.andThen_ok,Sem.run_pure]
     ·refine zci (W:=fun g=>g = (Y.blks.getD b {}).g) ?_ hth (fun g hg=>by subst hg; exact ⟨hrep.own b hb hbi hwr,hblk.lt,fun y t' e=>by unfold Blk at hblk; rw [hblk] at e; cases e⟩)
      unfold execOp
      simp only [hop,hea]
      exact za0 (zgd rfl) fun _=>trivial
    ·cases hs
   ·cases hs
  ·cases hs
 ·rename_i t hop
  split at hs
  ·split at hs <;> cases hs
  ·cases hs
 ·unfold sbsl at hs
  (repeat' split at hs) <;> cases hs
 ·unfold sapp at hs
  (repeat' split at hs) <;> cases hs
 ·rename_i t x hop
  dsimp only at hs
  split at hs <;> cases hs
 ·cases hs
theorem sop_ok {st st' : St} {stops : List FuncId} {fr : Fr} {callers : List Fr} {p : List Nat} {o : Oper} {i : Nat} {todo : List Nat} {k : List It} (hrep : Rep X s S w₀ Y st.heap st.facts st.np w) (ho : (za1 P fr.fn p)[i]? = some o)
  (hw : Region.wanted o (yielded (za1 P fr.fn p) (fr.act Y).tmps) = true) (h : sop P stops st fr callers p o i todo k = .next st')
  (K : ∀ Y' w',Ext Y Y' -> Rep X s S w₀ Y' st'.heap st'.facts st'.np w' -> Fr.reach P X Stop s cs₀ Y' st'.frs w') :
  Jay.Reach P X Stop s ((base fr.fn).at (fr.act Y) (.inRegion (za1 P fr.fn p) (i :: todo) :: k.map (It.den P Y fr.fn))) (callers.map (Fr.den P Y) ++ cs₀) w:=by
 have hth : ∀ b,X.oth s b -> b < w.heap.size:=hrep.there
 unfold sop at h
 split at h
 ·rename_i v hv
  cases h
  obtain ⟨hrun,honly⟩:=spure_ok hrep.rep hrep.facts hv
  refine zhf ho hw (zb3 honly hth) hrun ?_
  have hk:=K Y w (Ext.refl Y) hrep
  simp only [Fr.reach] at hk
  rwa [zhg] at hk
 ·split at h
  ·rename_i v h' hs
   cases h
   obtain ⟨q,w',hrun,hfine,hr,hd,hf,_⟩:=sact_val hrep hs
   have hk:=K _ w' ⟨_,_,rfl⟩ hr
   simp only [Fr.reach] at hk
   rw [zhg,hf,zka] at hk
   have hact : fr.act (Y.more [q] []) = fr.act Y:=by unfold Fr.act; rw [hd]
   rw [hact] at hk
   exact zhf ho hw (hfine fr.fn) hrun hk
  ·rename_i h' hs
   cases h
   obtain ⟨_,w',hrun,hfine,hr⟩:=sact_skip hrep hs
   have hk:=K Y w' (Ext.refl Y) hr
   simp only [Fr.reach] at hk
   rw [zhg] at hk
   exact reach_none ho hw (hfine fr.fn) hrun hk
  ·split at h
   ·rename_i f args hc
    split at h
    ·cases h
    ·split at h
     ·rename_i g hg
      cases h
      obtain ⟨fn,c,hf,hb,hname,hden⟩:=zfk (Y:=Y) hg
      obtain ⟨hrun,honly⟩:=zgq (Y:=Y) (w:=w) hc hf hb hname
      have hfine : ziw P (X.oth s) fr.fn o (fr.act Y) w:=zb3 honly hth
      unfold ziw at hfine
      rw [show (execOp (fr.act Y).eval o).run P w = _ from hrun] at hfine
      refine .step (fun _=>stepG_enter (b:=base fr.fn) ho hw (by simp [base]) hrun) hfine ?_
      have hk:=K Y w (Ext.refl Y) hrep
      simp only [Fr.reach,List.map_cons,List.cons_append] at hk
      rw [hden] at hk
      exact hk
     ·cases h
   ·split at h <;> cases h
/-! ### A frame's end -/
theorem leaf_ret {h : List HB} {fr : Fr} {v : SV} {c : Frame} {cs : List Frame} (hr : HRep Y h w) (he : ended P fr = true) (hv : retOf P h fr = some v) (hk : Jay.Reach P X Stop s (c.finish (v.den Y)) cs w) : Jay.Reach P X Stop s (fr.den P Y) (c :: cs) w:=by
 obtain ⟨fn,hf,hres⟩:=zjz (P:=P) hr hv
 have hleave : ∀ todo,Jay.Reach P X Stop s { (base fr.fn).at (fr.act Y) todo with mode:=.returning } (c :: cs) w:=fun todo=>
  .step (fun _=>zed (b:=base fr.fn) rfl rfl hf hres) ⟨fun e hm=>(zdf (P:=P) fn (fr.act Y).tmps (X.oth s) w e (mem_seen hm)).resolve_right (fun ⟨f,hf⟩=>zce hm f hf),fun _ _=>rfl,Nat.le_refl _⟩ hk
 unfold ended at he
 show Jay.Reach P X Stop s ((base fr.fn).at (fr.act Y) (fr.todo.map (It.den P Y fr.fn))) (c :: cs) w
 split at he
 ·rename_i ht
  rw [ht]
  exact .idle (fun _=>stepG_end) (hleave _)
 ·rename_i p k ht
  split at he
  ·rename_i hc
   rw [ht,List.map_cons,It.den,zau hc]
   exact .idle (fun _=>stepG_ret') (hleave _)
  ·cases he
 ·cases he
def Trust (P : Program) (X : zad γ) (rn : St -> List St) : Prop:=
 ∀ (Stop : γ -> Frame -> List Frame -> World -> Prop) (s : γ) (S : Nat -> Prop) (w₀ : World) (cs₀ : List Frame) (st : St) (Y : Env) (w : World),Rep X s S w₀ Y st.heap st.facts st.np w ->
  (∀ leaf ∈ rn st, ∀ Y' w',Ext Y Y' -> Rep X s S w₀ Y' leaf.heap leaf.facts leaf.np w' -> Fr.reach P X Stop s cs₀ Y' leaf.frs w') -> Fr.reach P X Stop s cs₀ Y st.frs w
theorem quiet_ok {rn : St -> List St} (hT : Trust P X rn) {h : List HB} (hlen : Y.blks.length = h.length) (hf : ∀ p ∈ facts,p.1.den Y = p.2) (hnp : Y.perms.length = np) {tmps : List SV} {o : Oper} {v : SV} (hq : quiet P rn h facts np tmps o.op = .val v) :
  zax P (fun _=>False) (execOp (Act.eval { tmps:=(za3 Y tmps).toArray,defers:=[] }) o) /\ dry P o.op = false /\ ∃ f vals,(∀ w,(execOp (Act.eval { tmps:=(za3 Y tmps).toArray,defers:=[] }) o).run P w = .ok (.enter f vals) w) /\
   ∀ (s : γ) w,HRep Y h w -> (∀ i,i < h.length -> (Y.blks.getD i {}).g < w.heap.size) -> Jdo P X f vals s w fun s' r w'=>s' = s /\ Below w.heap.size w w' /\ r = .back (v.den Y):=by
 unfold quiet at hq
 split at hq
 ·rename_i f args hc
  split at hq
  ·rename_i g hg
   split at hq
   ·rename_i leaf hrn
    split at hq
    ·rename_i fr hfrs
     split at hq
     ·rename_i hend
      split at hq
      ·rename_i v' hret
       split at hq
       ·rename_i hsc
        cases hq
        obtain ⟨fn,c,hff,hb,hname,hden⟩:=zfk (Y:=Y) hg
        refine ⟨(zgq (Y:=Y) (w:=default) hc hff hb hname).2,?_,f,(za3 Y args).toArray,fun w=>(zgq (Y:=Y) hc hff hb hname).1,?_⟩
        ·unfold zc1 at hc
         split at hc
         ·rename_i hop; rw [hop]; rfl
         ·rename_i hop; rw [hop]; rfl
         ·cases hc
        ·intro s w hr hbnd Stop c cs hk ht
         have hrep : Rep X s (fun _=>False) w Y (h.map fun b=>{ b with wr:=false,ap:=none }) facts np w:=by
          refine ⟨ht,⟨hr.ys,fun i hb hi hw=>?_,fun i hb j u hi hu=>?_,fun i hb e n hi he=>?_,fun i hb e n N hi he=>?_,fun i hb hi hw h3 h4=>?_⟩,by rw [List.length_map]; exact hlen,fun i j hb' hb hi hlv hj hw=>?_,fun i hi=>hbnd i (by rwa [List.length_map] at hi),fun i hb hi hw=>?_,Chg.refl _ _,fun i hb hi hw=>?_,hf,hnp,fun i x o cs hx ha=>?_⟩
          ·rw [List.getElem?_map] at hi
           obtain ⟨x,hx,rfl⟩:=Option.map_eq_some_iff.1 hi
           cases hw
          ·rw [List.getElem?_map] at hi
           obtain ⟨x,hx,rfl⟩:=Option.map_eq_some_iff.1 hi
           exact hr.cell i x j u hx hu
          ·rw [List.getElem?_map] at hi
           obtain ⟨x,hx,rfl⟩:=Option.map_eq_some_iff.1 hi
           exact hr.foc i x e n hx he
          ·rw [List.getElem?_map] at hi
           obtain ⟨x,hx,rfl⟩:=Option.map_eq_some_iff.1 hi
           exact hr.row i x e n N hx he
          ·rw [List.getElem?_map] at hi
           obtain ⟨x,hx,rfl⟩:=Option.map_eq_some_iff.1 hi
           cases hw
          ·rw [List.getElem?_map] at hj
           obtain ⟨x,hx,rfl⟩:=Option.map_eq_some_iff.1 hj
           cases hw
          ·rw [List.getElem?_map] at hi
           obtain ⟨x,hx,rfl⟩:=Option.map_eq_some_iff.1 hi
           cases hw
          ·rw [List.getElem?_map] at hi
           obtain ⟨x,hx,rfl⟩:=Option.map_eq_some_iff.1 hi
           cases hw
          ·rw [List.getElem?_map] at hx
           obtain ⟨y,hy,rfl⟩:=Option.map_eq_some_iff.1 hx
           cases ha
         have:=hT Stop s (fun _=>False) w (c :: cs) { frs:=[g],heap:=h.map fun b=>{ b with wr:=false,ap:=none },facts,np } Y w hrep (by
          intro leaf' hl Y' w' hx hr'
          rw [hrn,List.mem_singleton] at hl
          subst hl
          rw [hfrs]
          show Jay.Reach P X Stop s (fr.den P Y') ([] ++ c :: cs) w'
          refine leaf_ret hr'.rep hend hret ?_
          have hv : v.den Y' = v.den Y:=by
           obtain ⟨l,m,rfl⟩:=hx
           exact SV_ext h.length (Nat.le_of_eq hlen.symm) v hsc
          rw [hv]
          exact hk s (.back (v.den Y)) w' ⟨rfl,⟨hr'.chg.os,hr'.chg.tape,hr'.chg.output,hr'.chg.size,fun k hk=>hr'.chg.block k hk (fun h=>h)⟩,rfl⟩ hr'.there)
         simp only [Fr.reach,List.map_nil,List.nil_append] at this
         rw [hden] at this
         exact this
       ·cases hq
      ·cases hq
     ·cases hq
    ·cases hq
   ·split at hq <;> cases hq
   ·cases hq
  ·cases hq
 ·cases hq
end
end
section
section
variable {P : Program} {γ : Type} {X : zad γ} {Stop : γ -> Frame -> List Frame -> World -> Prop} {s : γ} {S : Nat -> Prop} {w₀ w : World} {Y : Env} {cs₀ : List Frame} {facts : List (B × Bool)} {np : Nat}
/-! ### A group of operations -/
theorem spure_only {h : List HB} {tmps : List SV} {o : Oper} {v : SV} (hs : spure P h facts tmps o.op = some v) : zax P (fun _=>False) (execOp (Act.eval { tmps:=(za3 Y tmps).toArray,defers:=[] }) o):=by
 obtain ⟨dst,op,type,pos,after,guard⟩:=o
 have he:=zcz (Y:=Y) tmps
 generalize ha : ({ tmps:=(za3 Y tmps).toArray,defers:=[] } : Act) = a at he ⊢
 clear ha
 dsimp only at hs
 cases op <;> simp only [spure] at hs <;> first | (cases hs; done) | (exact zay rfl _) | skip
 case nilCheck x=>
  have hx:=he x
  split at hs <;> first | (cases hs; done) | skip
  all_goals
   rename_i hq
   cases hs
   rw [hq] at hx
   simp only [execOp,hx,SV.den]
   trivial
 case binOp op t x y u=>
  have h2:=sbin_only (x:=x) (y:=y) (Y:=Y) rfl hs
  rw [<- he,<- he] at h2
  exact zcr h2
 case convert src dst x=>
  split at hs
  ·rename_i k e k' k2 hx h1 h2
   have hx' : a.eval x = .int k (e.den Y):=by rw [he,hx]; rfl
   exact zdq rfl hx' h2
  ·cases hs
 case call c=>
  obtain ⟨callee,args,ats⟩:=c
  cases callee with
  | value f=>simp at hs
  | invoke r n=>simp at hs
  | builtin bi=>cases bi <;> simp only at hs <;> first | (cases hs; done) | exact zay rfl _
def RepG (X : zad γ) (s : γ) (S : Nat -> Prop) (w₀ : World) (Y : Env) (h : List HB) (facts : List (B × Bool)) (np : Nat) (s' : γ) (w : World) : Prop:=s' = s /\ Rep X s S w₀ Y h facts np w
def zhl (Y : Env) (h : List HB) (w : World) : Prop:=HRep Y h w /\ ∀ i,i < h.length -> (Y.blks.getD i {}).g < w.heap.size
theorem zd4 (h : List HB) : Jay.Good (zhl Y h) (RepG X s S w₀ Y h facts np):=⟨fun s' w hg=>⟨hg.2.rep,hg.2.bnd⟩,fun s' w w' hg hb=>⟨hg.1,hg.2.below hb⟩⟩
theorem zek (tmps : List SV) (dst : Option Tmp) (v : SV) : Act.put { tmps:=(za3 Y tmps).toArray,defers:=[] } dst (v.den Y) = { tmps:=(za3 Y (zgp tmps dst v)).toArray,defers:=[] }:=by
 cases dst with
 | none=>rfl
 | some d=>simp only [Act.put,zgp,dens_set,List.setIfInBounds_toArray]
theorem kd_store {qs : List FuncId} {o : Op} {t : TypeId} {a x : Operand} (h : o = .store t a x) : kdOf qs o = 2:=by subst h; rfl
def GoesOn (P : Program) (X : zad γ) (fn : FuncId) (ops : Array Oper) (kd : Nat -> Nat) (Q : γ -> Exit -> Act -> World -> Prop) (fin : γ -> Act -> World -> Prop) (stop : List Nat -> (γ -> World -> Prop) -> Act -> Prop) (s : γ) (S : Nat -> Prop) (w₀ : World) (Y : Env) (facts : List (B × Bool)) (np : Nat) (callers : List Fr) : DR -> Prop
 | .done tmps' h'=>∀ l,callers.map (Fr.den P (Y.more l [])) = callers.map (Fr.den P Y) -> ∀ w,Rep X s S w₀ (Y.more l []) h' facts np w -> fin s { tmps:=(za3 (Y.more l []) tmps').toArray,defers:=[] } w
 | .halt rest' tmps' h'=>∀ l,callers.map (Fr.den P (Y.more l [])) = callers.map (Fr.den P Y) -> Da P X fn ops kd Q fin stop rest' (zhl (Y.more l []) h') (RepG X s S w₀ (Y.more l []) h' facts np) { tmps:=(za3 (Y.more l []) tmps').toArray,defers:=[] }
 | _=>False
theorem zg7 {rn : St -> List St} (hT : Trust P X rn) {ops : Array Oper} {kd : Nat -> Nat} {hl : Nat -> Bool} {Q : γ -> Exit -> Act -> World -> Prop} {fn : FuncId} {callers : List Fr} {fin : γ -> Act -> World -> Prop} {stop : List Nat -> (γ -> World -> Prop) -> Act -> Prop} {res : DR} (hkd : ∀ i o,ops[i]? = some o -> ((∃ t a x,o.op = .store t a x) \/ ∃ c : Call,o.op = .call { callee:=.builtin .append,args:=c.args,argTypes:=c.argTypes }) -> kd i = 2 \/ kd i = 3) (hf : ∀ p ∈ facts, ∀ l,p.1.den (Y.more l []) = p.2) (hnp : Y.perms.length = np)
  (K : GoesOn P X fn ops kd Q fin stop s S w₀ Y facts np callers res) :
  ∀ (rest : List Nat) (tmps : List SV) (h : List HB) (l : List Seg),zd7 P rn facts np ops kd hl callers rest tmps h = res -> callers.map (Fr.den P (Y.more l [])) = callers.map (Fr.den P Y) -> (Y.more l []).blks.length = h.length ->
   Da P X fn ops kd Q fin stop rest (zhl (Y.more l []) h) (RepG X s S w₀ (Y.more l []) h facts np) { tmps:=(za3 (Y.more l []) tmps).toArray,defers:=[] }
 | [],tmps,h,l,hs,hc,hlen=>by
  simp only [zd7] at hs
  rintro s' w ⟨rfl,hr⟩
  subst hs
  exact K l hc w hr
 | i :: r,tmps,h,l,hs,hc,hlen=>by
  have hf' : ∀ p ∈ facts,p.1.den (Y.more l []) = p.2:=fun p hp=>hf p hp l
  have hnp' : (Y.more l []).perms.length = np:=by simp [Env.more,hnp]
  have bad : ∀ {α : Prop},DR.bad = res -> α:=fun e=>by rw [<- e] at K; exact K.elim
  have ask : ∀ {α : Prop} (b : B),DR.ask b = res -> α:=fun b e=>by rw [<- e] at K; exact K.elim
  simp only [zd7] at hs
  split at hs
  ·exact bad hs
  ·rename_i o ho
   obtain ⟨g1,g2⟩:=zey hf' ops tmps o
   split at hs
   ·rename_i hg
    refine ⟨o,ho,?_⟩
    have ih:=zg7 (fn:=fn) hT hkd hf hnp K r (zgp tmps o.dst (.c undef)) h l hs hc hlen
    rw [<- zek] at ih
    split
    ·exact ⟨undef,.inr ⟨g2 hg,rfl⟩,ih⟩
    ·refine .inl fun s' w hG=>?_
     unfold Jay.One
     rw [if_neg (by simp [g2 hg])]
     exact ⟨_,_,zd4 h,hG,.inl fun _ h=>h,ih⟩
   ·rename_i b hg; exact ask _ hs
   ·exact bad hs
   ·rename_i hg
    have hw:=g1 hg
    split at hs
    ·subst hs
     exact K l hc
    ·refine ⟨o,ho,?_⟩
     split at hs
     ·rename_i hk
      rw [if_pos hk]
      split at hs
      ·rename_i v hv
       have ih:=zg7 (fn:=fn) hT hkd hf hnp K r (zgp tmps o.dst v) h l hs hc hlen
       rw [<- zek] at ih
       exact ⟨_,.inl ⟨hw,spure_only (Y:=Y.more l []) hv,.inl fun w' hw'=>(spure_ok hw'.1 hf' hv).1⟩,ih⟩
      ·split at hs
       ·rename_i v hv
        have ih:=zg7 (fn:=fn) hT hkd hf hnp K r (zgp tmps o.dst v) h l hs hc hlen
        rw [<- zek] at ih
        obtain ⟨q1,q2,f,vals,q3,q4⟩:=quiet_ok (Y:=Y.more l []) hT hlen hf' hnp' hv
        exact ⟨_,.inl ⟨hw,q1,.inr ⟨q2,f,vals,q3,fun s w hw=>q4 s w hw.1 hw.2⟩⟩,ih⟩
       ·exact ask _ hs
       ·split at hs
        ·exact ask _ hs
        ·exact bad hs
     ·rename_i hk0
      rw [if_neg hk0]
      refine .inl fun s' w hG=>?_
      obtain ⟨hss,hrep⟩:=hG
      rw [hss]
      split at hs
      ·rename_i v h' hv
       obtain ⟨q,w',hrun,hfine,hr,hd,hfr,hsub⟩:=sact_val hrep hv
       have hmore : (Y.more l []).more [q] [] = Y.more (l ++ [q]) []:=by simp [Env.more]
       have hblk : ∀ i,i < h.length -> ((Y.more l []).more [q] []).blks.getD i {} = (Y.more l []).blks.getD i {}:=fun i hi=>zb6 _ _ _ _ (by omega)
       have hlh : h.length <= h'.length:=by have:=hr.len; simp only [Env.more,List.length_append,List.length_singleton] at this hlen; omega
       rw [hmore] at hrun hr hd hfr hsub hblk
       have ih:=zg7 (fn:=fn) hT hkd hf hnp K r (zgp tmps o.dst v) h' (l ++ [q]) hs (hfr.trans hc) hr.len
       rw [<- zek,hd] at ih
       unfold Jay.One
       rw [if_pos hw]
       refine ⟨fun ht=>hfine fn,?_⟩
       rw [hrun]
       refine ⟨_,_,zd4 h',⟨rfl,hr⟩,?_,ih⟩
       rcases hsub with hsub | hap
       ·exact .inl fun w hw=>⟨hsub w hw.1,fun i hi=>by rw [<- hblk i hi]; exact hw.2 i (by omega)⟩
       ·exact .inr (hkd i o ho (.inr hap))
      ·rename_i h' hv
       obtain ⟨hst,w',hrun,hfine,hr⟩:=sact_skip hrep hv
       have ih:=zg7 (fn:=fn) hT hkd hf hnp K r (zgp tmps o.dst (.c undef)) h' l hs hc hr.len
       rw [<- zek] at ih
       unfold Jay.One
       rw [if_pos hw]
       refine ⟨fun _=>hfine fn,?_⟩
       rw [hrun]
       exact ⟨_,_,zd4 h',⟨rfl,hr⟩,.inr (hkd i o ho (.inl hst)),ih⟩
      ·exact bad hs
theorem zf2 {rn : St -> List St} {ops : Array Oper} {kd : Nat -> Nat} {hl : Nat -> Bool} {callers : List Fr} {rest' : List Nat} {tmps' : List SV} {h' : List HB} : ∀ (rest : List Nat) (tmps : List SV) (h : List HB),zd7 P rn facts np ops kd hl callers rest tmps h = .halt rest' tmps' h' -> ∃ i r o,rest' = i :: r /\ ops[i]? = some o /\ hl i = true
 | [],tmps,h,hs=>by simp [zd7] at hs
 | i :: r,tmps,h,hs=>by
  simp only [zd7] at hs
  split at hs
  ·cases hs
  ·rename_i o ho
   split at hs
   ·exact zf2 r _ _ hs
   ·cases hs
   ·cases hs
   ·split at hs
    ·rename_i hh
     cases hs
     exact ⟨i,r,o,rfl,ho,hh⟩
    ·split at hs
     ·split at hs
      ·exact zf2 r _ _ hs
      ·split at hs
       ·exact zf2 r _ _ hs
       ·cases hs
       ·split at hs <;> cases hs
     ·split at hs
      ·exact zf2 r _ _ hs
      ·exact zf2 r _ _ hs
      ·cases hs
theorem zmy (qs : List FuncId) (ops : Array Oper) (i : Nat) (o : Oper) (ho : ops[i]? = some o) (h : (∃ t a x,o.op = .store t a x) \/ ∃ c : Call,o.op = .call { callee:=.builtin .append,args:=c.args,argTypes:=c.argTypes }) : zh0 qs ops i = 2 \/ zh0 qs ops i = 3:=by
 unfold zh0
 rw [ho]
 rcases h with ⟨t,a,x,hop⟩ | ⟨c,hop⟩
 ·exact .inl (kd_store hop)
 ·left
  simp only [hop]
  rfl
/-! ### What is left of a region -/
theorem linOf_eq {ops : Array Oper} {ord rest perm : List Nat} (h : LinR ops (zc0 ops) ord rest perm) : linOf ops ord rest perm = perm:=by unfold linOf; rw [if_pos h]
theorem linB_ok (ops : Array Oper) : ∀ (l : List Nat) (listed : Array Bool),linB ops listed l = true -> Lin ops listed l
 | [],listed,h=>.nil (by simpa [linB] using h)
 | i :: l,listed,h=>by
  simp only [linB,Bool.and_eq_true] at h
  exact .cons (by simpa using h.1) (linB_ok ops l _ h.2)
theorem zk9 {ops : Array Oper} {ord rest : List Nat} (h : zmb ops ord rest = true) (perm : List Nat) : LinR ops (zc0 ops) ord rest (linOf ops ord rest perm):=by
 simp only [zmb,Bool.and_eq_true,beq_iff_eq,List.all_eq_true,List.mem_range,Bool.or_eq_true,Bool.not_eq_true'] at h
 obtain ⟨⟨⟨h1,h2⟩,h3⟩,h4⟩:=h
 have hsz : (zk8 ops.size rest).size = ops.size:=by simp [zk8]
 have hex : ∃ l,LinR ops (zc0 ops) ord rest l:=by
  refine ⟨rest,zk8 ops.size rest,hsz,fun i x hi hw=>?_,h1,linB_ok ops rest _ h2⟩
  have hil : i < ops.size:=by
   rcases Nat.lt_or_ge i ops.size with h | h
   ·exact h
   ·rw [Array.getD_eq_getD_getElem?,Array.getElem?_eq_none (by omega)] at hi; cases hi
  rcases h4 i hil with h | h
  ·rw [hi] at h; cases h
  ·by_cases hx : x < ops.size
   ·rcases h x hx with h | h
    ·rw [hw] at h; cases h
    ·exact h
   ·exfalso
    unfold waits? at hw
    rw [Nat.testBit_lt_two_pow (Nat.lt_of_lt_of_le (of_decide_eq_true (h3 i hil).2) (Nat.pow_le_pow_right (by omega) (Nat.le_of_not_lt hx)))] at hw
    cases hw
 unfold linOf
 split
 ·assumption
 ·exact hex.choose_spec
theorem zoo {P : Program} {ops : Array Oper} {kd : Nat -> Nat} {ord r perm : List Nat} {i : Nat} (hchk : zbk P ops (zc0 ops) kd ord = true) (hr : ∀ x ∈ r,waits? (zc0 ops) x i = true) (h : LinR ops (zc0 ops) ord (i :: r) perm) :
  ∃ l,perm = i :: l /\ LinR ops (zc0 ops) ord r l:=by
 simp only [zbk,Bool.and_eq_true,List.all_eq_true,List.mem_range] at hchk
 obtain ⟨⟨⟨hall,hrange⟩,hpairs⟩,hns⟩:=hchk
 have hpw:=zfh hpairs
 have hokne : ∀ x i,zcs P ops (zc0 ops) kd x i = true -> x ≠ i:=fun x i h=>by simp [zcs] at h; exact h.1.1.1
 have hokedge : ∀ x i,zcs P ops (zc0 ops) kd x i = true -> zhc ops x i = false:=fun x i h=>by simp [zcs] at h; exact h.1.2
 have hnd : ord.Nodup:=zc9 hokne hpw
 obtain ⟨listed,hsz,hdown,heq,hlin⟩:=h
 have hi : i ∈ ord /\ listed.getD i false = false:=by
  have : i ∈ ord.filter fun i=>!listed.getD i false:=by rw [heq]; exact List.mem_cons_self ..
  rw [List.mem_filter] at this
  simpa using this
 cases hlin with
 | nil hnil=>
  rw [all_up hsz (fun i hi=>(hall i hi).2) (fun i hi=>by simpa using (hall i hi).1) (fun i hi=>by simpa using hrange i hi) hpw hokedge hnil] at heq
  cases heq
 | cons hready hlin'=>
  rename_i x l
  obtain ⟨hun,o,ho,hafter⟩:=mem_ready.1 hready
  have hlt : x < ops.size:=(Array.getElem?_eq_some_iff.1 ho).1
  have hltl : x < listed.size:=by omega
  have hwait:=Jay.waited ho (hall x hlt).2 hafter hdown
  have hmem : x ∈ ord:=by simpa using (hall x hlt).1
  have hun':=zgo hltl hun
  have hxr : x ∈ i :: r:=by rw [<- heq,List.mem_filter]; exact ⟨hmem,by simp only [hun',Bool.not_false]⟩
  rcases List.mem_cons.1 hxr with rfl | hxr
  ·refine ⟨l,rfl,listed.setIfInBounds x true,by simp [hsz],zf6 hltl hwait hdown,?_,hlin'⟩
   obtain ⟨pre,post,he,hf1,hf2⟩:=zhj hmem hltl hun' hnd
   rw [hf2]
   rw [heq] at hf1
   cases hp : pre.filter fun i=>!listed.getD i false with
   | nil=>rw [hp] at hf1; simp only [List.nil_append,List.cons.injEq,true_and] at hf1; rw [<- hf1]; rfl
   | cons y ys=>
    exfalso
    rw [hp] at hf1
    simp only [List.cons_append,List.cons.injEq] at hf1
    have hy : y ∈ pre:=(List.mem_filter.1 (by rw [hp]; exact List.mem_cons_self ..)).1
    rw [<- hf1.1] at hy
    rw [he,List.nodup_append] at hnd
    exact hnd.2.2 x hy x (List.mem_cons_self ..) rfl
  ·have:=hwait i (hr x hxr)
   rw [hi.2] at this
   cases this
theorem slin_ok {rn : St -> List St} (hT : Trust P X rn) {qs : List FuncId} {st st' : St} {fr : Fr} {callers : List Fr} {p ord rest l : List Nat} {k : List It} (hrep : Rep X s S w₀ Y st.heap st.facts st.np w) (hl : LinR (za1 P fr.fn p) (zc0 (za1 P fr.fn p)) ord rest l) (h : slin P rn qs st fr callers p ord rest k = .next st')
  (K : ∀ Y' w',Ext Y Y' -> Rep X s S w₀ Y' st'.heap st'.facts st'.np w' -> Fr.reach P X Stop s cs₀ Y' st'.frs w') :
  Jay.Reach P X Stop s ((base fr.fn).at (fr.act Y) (.inRegion (za1 P fr.fn p) l :: k.map (It.den P Y fr.fn))) (callers.map (Fr.den P Y) ++ cs₀) w:=by
 unfold slin at h
 dsimp only at h
 split at h
 ·rename_i hchk
  have hY : Y.more [] [] = Y:=by simp [Env.more]
  have hf : ∀ p ∈ st.facts, ∀ l,p.1.den (Y.more l []) = p.2:=fun p hp l=>by rw [B_ext]; exact hrep.facts p hp
  have start : ∀ (fin : γ -> Act -> World -> Prop) (stop : List Nat -> (γ -> World -> Prop) -> Act -> Prop),Da P X fr.fn (za1 P fr.fn p) (zh0 qs (za1 P fr.fn p)) (fun _ _ _ _=>False) fin stop rest (zhl (Y.more [] []) st.heap) (RepG X s S w₀ (Y.more [] []) st.heap st.facts st.np) { tmps:=(za3 (Y.more [] []) fr.tmps).toArray,defers:=[] } ->
    (∀ s a w,fin s a w -> X.there s w -> Jay.Reach P X Stop s ((base fr.fn).at a (k.map (It.den P Y fr.fn))) (callers.map (Fr.den P Y) ++ cs₀) w) ->
    (∀ rest G a,stop rest G a -> ∀ s w l,G s w -> X.there s w -> LinR (za1 P fr.fn p) (zc0 (za1 P fr.fn p)) ord rest l -> Jay.Reach P X Stop s ((base fr.fn).at a (.inRegion (za1 P fr.fn p) l :: k.map (It.den P Y fr.fn))) (callers.map (Fr.den P Y) ++ cs₀) w) ->
    Jay.Reach P X Stop s ((base fr.fn).at (fr.act Y) (.inRegion (za1 P fr.fn p) l :: k.map (It.den P Y fr.fn))) (callers.map (Fr.den P Y) ++ cs₀) w:=by
   intro fin stop hda hfin hstop
   rw [hY] at hda
   exact da_lin hchk (fun _ _ _ _ _ _ h=>h) (fun _ _ _ _ h=>h.elim) hfin hstop l rest _ _ s (fr.act Y) w hl (zd4 st.heap) ⟨rfl,hrep⟩ hrep.there hda
  split at h
  ·rename_i tmps' h' hs
   cases h
   refine start (fun s' a w=>Jay.Reach P X Stop s' ((base fr.fn).at a (k.map (It.den P Y fr.fn))) (callers.map (Fr.den P Y) ++ cs₀) w) (fun _ _ _=>False) ?_ (fun _ _ _ h _=>h) (fun _ _ _ h=>h.elim)
   refine zg7 hT (zmy qs _) hf hrep.np (res:=.done tmps' h') (fun l hc w hr=>?_) rest fr.tmps st.heap [] hs (by rw [hY]) (by rw [hY]; exact hrep.len)
   have hk:=K (Y.more l []) w ⟨l,[],rfl⟩ hr
   simp only [Fr.reach,Fr.den,zka] at hk
   rw [hc] at hk
   exact hk
  ·rename_i rest' tmps' h' hs
   split at h
   ·rename_i hsc
    simp only [Bool.and_eq_true] at hsc
    cases h
    refine start (fun _ _ _=>False) (fun rest2 G a=>rest2 = rest' /\ ∃ l2,callers.map (Fr.den P (Y.more l2 [])) = callers.map (Fr.den P Y) /\ a = { tmps:=(za3 (Y.more l2 []) tmps').toArray,defers:=[] } /\ ∀ s' w,G s' w -> s' = s /\ Rep X s S w₀ (Y.more l2 []) h' st.facts st.np w) ?_ (fun _ _ _ h=>h.elim) ?_
    ·refine zg7 hT (zmy qs _) hf hrep.np (res:=.halt rest' tmps' h') (fun l hc=>?_) rest fr.tmps st.heap [] hs (by rw [hY]) (by rw [hY]; exact hrep.len)
     obtain ⟨i,r,o,e1,ho,e3⟩:=zf2 rest fr.tmps st.heap hs
     subst e1
     refine ⟨o,ho,?_⟩
     simp only [beq_iff_eq] at e3
     rw [if_neg (by omega)]
     exact .inr ⟨e3,rfl,l,hc,rfl,fun s' w hg=>hg⟩
    ·rintro rest2 G a ⟨rfl,l2,hc,rfl,hG⟩ s' w2 l3 hg ht hlr
     obtain ⟨rfl,hr⟩:=hG s' w2 hg
     have hr3:=hr.perm l3
     have hmm : (Y.more l2 []).more [] [l3] = Y.more l2 [l3]:=by simp [Env.more]
     rw [hmm] at hr3
     have hk:=K (Y.more l2 [l3]) w2 ⟨l2,[l3],rfl⟩ hr3
     have hnp : st.np <= (Y.more l2 []).perms.length:=by simp [Env.more,hrep.np]
     have hget : (Y.more l2 [l3]).perms.getD st.np [] = l3:=by
      rw [<- hrep.np]
      exact zgk _ _ _
     have hits : ∀ fn,k.map (It.den P (Y.more l2 [l3]) fn) = k.map (It.den P Y fn):=fun fn=>zfj st.np (Nat.le_of_eq hrep.np.symm) k hsc.1
     have hcal : callers.map (Fr.den P (Y.more l2 [l3])) = callers.map (Fr.den P Y):=by
      rw [<- hmm,zos st.np hnp callers hsc.2]
      exact hc
     have hd : za3 (Y.more l2 [l3]) tmps' = za3 (Y.more l2 []) tmps':=by rw [<- hmm,zcj]
     simp only [Fr.reach,hcal] at hk
     simp only [Fr.den,List.map_cons,hits,It.den,hget,linOf_eq hlr,Fr.act,hd] at hk
     exact hk
   ·cases h
  ·cases h
  ·cases h
 ·cases h
/-! ### One step -/
theorem sret_ok {qs : List FuncId} {st st' : St} {fr : Fr} {callers : List Fr} (hrep : Rep X s S w₀ Y st.heap st.facts st.np w) (h : sret P qs st fr callers = .next st') (todo : List Item) (K : ∀ Y' w',Ext Y Y' -> Rep X s S w₀ Y' st'.heap st'.facts st'.np w' -> Fr.reach P X Stop s cs₀ Y' st'.frs w') :
  Jay.Reach P X Stop s { (base fr.fn).at (fr.act Y) todo with mode:=.returning } (callers.map (Fr.den P Y) ++ cs₀) w:=by
 unfold sret at h
 split at h
 ·cases h
 ·rename_i c rest
  split at h
  ·rename_i p i todo' k' ht
   split at h
   ·rename_i o v ho hv
    cases h
    obtain ⟨fn,hf,hres⟩:=zjz (P:=P) hrep.rep hv
    refine .step (fun _=>zed (b:=base fr.fn) (c:=c.den P Y) rfl rfl hf hres) ⟨fun e hm=>(zdf (P:=P) fn (fr.act Y).tmps (X.oth s) w e (mem_seen hm)).resolve_right (fun ⟨f,hf⟩=>zce hm f hf),fun _ _=>rfl,Nat.le_refl _⟩ ?_
    have hk:=K Y w (Ext.refl Y) hrep
    simp only [Fr.reach] at hk
    rw [zhg] at hk
    rw [zit c p (i :: todo') k' ht,Frame.finish_at,ho]
    exact hk
   ·cases h
  ·rename_i p ord i r j k' ht
   split at h
   ·rename_i o v ho hv
    split at h
    ·rename_i hcond
     simp only [Bool.and_eq_true,List.all_eq_true] at hcond
     obtain ⟨⟨⟨⟨c1,c2⟩,c3⟩,c4⟩,c5⟩:=hcond
     cases h
     obtain ⟨fn,hf,hres⟩:=zjz (P:=P) hrep.rep hv
     refine .step (fun _=>zed (b:=base fr.fn) (c:=c.den P Y) rfl rfl hf hres) ⟨fun e hm=>(zdf (P:=P) fn (fr.act Y).tmps (X.oth s) w e (mem_seen hm)).resolve_right (fun ⟨f,hf⟩=>zce hm f hf),fun _ _=>rfl,Nat.le_refl _⟩ ?_
     obtain ⟨l,hperm,hlr⟩:=zoo c2 c3 (zk9 c1 (Y.perms.getD j []))
     have hk:=K (Y.more [] [l]) w ⟨[],[l],rfl⟩ (hrep.perm l)
     have hnp : st.np <= Y.perms.length:=Nat.le_of_eq hrep.np.symm
     have hget : (Y.more [] [l]).perms.getD st.np [] = l:=by
      rw [<- hrep.np]
      exact zgk _ _ _
     have hits : ∀ fn,k'.map (It.den P (Y.more [] [l]) fn) = k'.map (It.den P Y fn):=fun fn=>zfj st.np hnp k' c4
     have hcal : rest.map (Fr.den P (Y.more [] [l])) = rest.map (Fr.den P Y):=zos st.np hnp rest c5
     have hden : c.den P Y = (base c.fn).at (c.act Y) (.inRegion (za1 P c.fn p) (i :: l) :: k'.map (It.den P Y c.fn)):=by
      unfold Fr.den
      rw [ht]
      simp only [List.map_cons,It.den,hperm]
     have hact : ((c.put o.dst v (.lin p ord r st.np :: k')).act (Y.more [] [l])) = (c.act Y).put o.dst (v.den Y):=by
      rw [put_act c o.dst v (.lin p ord r st.np :: k')]
      simp only [Fr.act,zcj]
     simp only [Fr.reach,hcal,Fr.den] at hk
     have hcal' : rest.map (fun fr=>(base fr.fn).at (fr.act (Y.more [] [l])) (fr.todo.map (It.den P (Y.more [] [l]) fr.fn))) = rest.map (Fr.den P Y):=hcal
     rw [hden,Frame.finish_at,ho]
     show Jay.Reach P X Stop s ((base c.fn).at ((c.act Y).put o.dst (v.den Y)) (.inRegion (za1 P c.fn p) l :: k'.map (It.den P Y c.fn))) (rest.map (Fr.den P Y) ++ cs₀) w
     have htodo : (c.put o.dst v (.lin p ord r st.np :: k')).todo = .lin p ord r st.np :: k':=rfl
     have hfn : (c.put o.dst v (.lin p ord r st.np :: k')).fn = c.fn:=rfl
     rw [hact,htodo,hfn] at hk
     simp only [List.map_cons,hits,It.den,hget,linOf_eq hlr] at hk
     exact hk
    ·cases h
   ·cases h
  ·cases h
theorem scode_ok {rn : St -> List St} (hT : Trust P X rn) {qs : List FuncId} {st st' : St} {lp : Bool} {fr : Fr} {callers : List Fr} {c : CE} {k : List It} (hrep : Rep X s S w₀ Y st.heap st.facts st.np w) (h : scode P rn qs lp st fr callers c k = .next st')
  (K : ∀ Y' w',Ext Y Y' -> Rep X s S w₀ Y' st'.heap st'.facts st'.np w' -> Fr.reach P X Stop s cs₀ Y' st'.frs w') :
  Jay.Reach P X Stop s ((base fr.fn).at (fr.act Y) (.code (c.den P fr.fn) :: k.map (It.den P Y fr.fn))) (callers.map (Fr.den P Y) ++ cs₀) w:=by
 have he:=zcz (Y:=Y) fr.tmps
 unfold scode at h
 dsimp only at h
 split at h
 ·cases h; exact .idle (fun _=>stepG_skip) (K Y w (Ext.refl Y) hrep)
 ·cases h; exact .idle (fun _=>stepG_seq) (K Y w (Ext.refl Y) hrep)
 ·rename_i p
  split at h
  ·rename_i hc; rw [zau hc]; cases h; exact .idle (fun _=>stepG_skip) (K Y w (Ext.refl Y) hrep)
  ·rename_i hc; rw [zau hc]; cases h; exact .idle (fun _=>stepG_label) (K Y w (Ext.refl Y) hrep)
  ·rename_i a b hc
   rw [zau hc]; cases h
   have hk:=K Y w (Ext.refl Y) hrep
   simp only [Fr.reach,Fr.den,List.map_cons,It.den,zau (zfo hc rfl),zau (zkb hc rfl)] at hk
   exact .idle (fun _=>stepG_seq) hk
  ·rename_i x a b hc
   rw [zau hc]
   split at h
   ·rename_i t ht
    have hx : (fr.act Y).eval x = .bool (t.den Y):=by
     have:=he x
     rw [ht] at this
     exact this
    split at h
    ·rename_i hl
     rw [zd3 hrep.facts t true hl] at hx
     cases h
     have hk:=K Y w (Ext.refl Y) hrep
     simp only [Fr.reach,Fr.den,List.map_cons,It.den,zau (zfo hc rfl)] at hk
     exact .idle (fun _=>stepG_cond hx) hk
    ·rename_i hl
     rw [zd3 hrep.facts t false hl] at hx
     cases h
     have hk:=K Y w (Ext.refl Y) hrep
     simp only [Fr.reach,Fr.den,List.map_cons,It.den,zau (zkb hc rfl)] at hk
     exact .idle (fun _=>stepG_cond hx) hk
    ·cases h
   ·cases h
  ·rename_i id a hc
   rw [zau hc]; cases h
   have hk:=K Y w (Ext.refl Y) hrep
   simp only [Fr.reach,Fr.den,List.map_cons,It.den,zau (zfo hc rfl)] at hk
   exact .idle (fun _=>stepG_block) hk
  ·rename_i a hc
   rw [zau hc]
   split at h
   ·cases h
   ·cases h
    have hk:=K Y w (Ext.refl Y) hrep
    simp only [Fr.reach,Fr.den,List.map_cons,It.den,zau (zfo hc rfl)] at hk
    exact .idle (fun _=>stepG_loop) hk
  ·rename_i a hc
   rw [zau hc]; cases h
   have hk:=K Y w (Ext.refl Y) hrep
   simp only [Fr.reach,Fr.den,List.map_cons,It.den,zau (zfo hc rfl),zfo hc (e:=a) rfl,Option.getD_some] at hk
   exact .idle (fun _=>stepG_scope) hk
  ·rename_i id hc
   rw [zau hc]
   split at h
   ·rename_i k' hk'
    cases h
    exact .idle (fun _=>stepG_exit (ze6 fr.fn id k k' hk')) (K Y w (Ext.refl Y) hrep)
   ·cases h
  ·rename_i l hc
   rw [zau hc]
   split at h
   ·cases h
   ·split at h
    ·rename_i k' hk'
     cases h
     exact .idle (fun _=>stepG_goto (ze5 fr.fn l k k' hk')) (K Y w (Ext.refl Y) hrep)
    ·cases h
  ·rename_i hc
   rw [zau hc]
   exact .idle (fun _=>stepG_ret') (sret_ok hrep h _ K)
  ·rename_i id ops hc
   rw [zau hc]; cases h
   have hk:=K Y w (Ext.refl Y) hrep
   have ho : za1 P fr.fn p = ops:=by simp [za1,hc]
   simp only [Fr.reach,Fr.den,List.map_cons,It.den,ho] at hk
   exact .idle (fun _=>stepG_region) hk
  ·rename_i id ops hc
   rw [zau hc]
   split at h
   ·rename_i hm
    have ho : za1 P fr.fn p = ops:=by simp [za1,hc]
    have hrd : Rep X s S w₀ Y st.heap st.facts st.np w.drew:=hrep.below (Below.refl _ _).drew
    have hstep : ∀ main,stepG P main (G ((base fr.fn).at (fr.act Y) (.code (.region id ops true) :: k.map (It.den P Y fr.fn))) (callers.map (Fr.den P Y) ++ cs₀)) w = .go (G ((base fr.fn).at (fr.act Y) (.inRegion ops (Region.schedule (P.follows .mixedOrders) ops (Question.cut (.order (base fr.fn).fn id) (w.tape w.drawn (.order (base fr.fn).fn id)))) :: k.map (It.den P Y fr.fn))) (callers.map (Fr.den P Y) ++ cs₀)) w.drew:=by
     intro main
     simp only [G,stepG,stepG.exec,Frame.at,Bool.not_true,Bool.false_eq_true,if_false,choose,Sem.run,Question.forced]
     rfl
    refine .step (es:=#[]) hstep ⟨by simp,fun _ _=>rfl,Nat.le_refl _⟩ ?_
    have hs:=fun (t : Nat)=>slin_ok (l:=Region.schedule (P.follows .mixedOrders) ops t) hT hrd (by
     rw [ho]
     refine ⟨Array.replicate ops.size false,by simp,zgm _,filter_none _,?_⟩
     simp only [Region.schedule,hm,Bool.true_or,if_true]
     exact zgi ops t) h K
    rw [ho] at hs
    exact hs _
   ·cases h
  ·cases h
theorem step_ok {rn : St -> List St} (hT : Trust P X rn) {qs stops : List FuncId} {st st' : St} {lp : Bool} (hrep : Rep X s S w₀ Y st.heap st.facts st.np w) (h : step P rn qs stops lp st = .next st')
  (K : ∀ Y' w',Ext Y Y' -> Rep X s S w₀ Y' st'.heap st'.facts st'.np w' -> Fr.reach P X Stop s cs₀ Y' st'.frs w') : Fr.reach P X Stop s cs₀ Y st.frs w:=by
 unfold step at h
 split at h
 ·cases h
 ·rename_i fr callers hfrs
  rw [hfrs]
  show Jay.Reach P X Stop s ((base fr.fn).at (fr.act Y) (fr.todo.map (It.den P Y fr.fn))) (callers.map (Fr.den P Y) ++ cs₀) w
  split at h
  ·rename_i ht
   rw [ht]
   exact .idle (fun _=>stepG_end) (sret_ok hrep h _ K)
  ·rename_i id k ht
   rw [ht]; cases h
   exact .idle (fun _=>stepG_inBlock) (K Y w (Ext.refl Y) hrep)
  ·rename_i p k ht
   rw [ht]; cases h
   exact .idle (fun _=>zn7) (K Y w (Ext.refl Y) hrep)
  ·rename_i c k ht
   rw [ht]
   split at h
   ·cases h
   ·cases h
    exact .idle (fun _=>stepG_inLoop) (K Y w (Ext.refl Y) hrep)
  ·rename_i p k ht
   rw [ht]; cases h
   exact .idle (fun _=>stepG_region_end) (K Y w (Ext.refl Y) hrep)
  ·rename_i p i todo k ht
   rw [ht]
   split at h
   ·cases h
   ·rename_i o ho
    obtain ⟨g1,g2⟩:=zey hrep.facts (za1 P fr.fn p) fr.tmps o
    split at h
    ·rename_i hg
     exact sop_ok hrep ho (g1 hg) h K
    ·rename_i hg
     cases h
     have hk:=K Y w (Ext.refl Y) hrep
     simp only [Fr.reach] at hk
     rw [zhg] at hk
     exact .idle (fun _=>stepG_unwanted ho (g2 hg)) hk
    ·cases h
    ·cases h
  ·rename_i p ord rest j k ht
   have hlin : zmb (za1 P fr.fn p) ord rest = true -> slin P rn qs st fr callers p ord rest k = .next st' -> Jay.Reach P X Stop s ((base fr.fn).at (fr.act Y) (fr.todo.map (It.den P Y fr.fn))) (callers.map (Fr.den P Y) ++ cs₀) w:=fun h1 h2=>by
    rw [ht,List.map_cons,It.den]
    exact slin_ok hT hrep (zk9 h1 _) h2 K
   split at h
   ·rename_i i r
    split at h
    ·cases h
    ·rename_i o ho
     obtain ⟨g1,g2⟩:=zey hrep.facts (za1 P fr.fn p) fr.tmps o
     split at h
     ·rename_i hg hk3
      split at h
      ·rename_i f args hc
       split at h
       ·cases h
       ·split at h
        ·rename_i hcond
         simp only [Bool.and_eq_true,List.all_eq_true,List.tail_cons] at hcond
         obtain ⟨⟨c1,c2⟩,c3⟩:=hcond
         split at h
         ·rename_i g hgf
          cases h
          obtain ⟨l,hperm,hlr⟩:=zoo c2 c3 (zk9 c1 (Y.perms.getD j []))
          obtain ⟨fn,c,hf,hb,hname,hden⟩:=zfk (Y:=Y) hgf
          obtain ⟨hrun,honly⟩:=zgq (Y:=Y) (w:=w) hc hf hb hname
          have hfine : ziw P (X.oth s) fr.fn o (fr.act Y) w:=zb3 honly hrep.there
          unfold ziw at hfine
          rw [show (execOp (fr.act Y).eval o).run P w = _ from hrun] at hfine
          have hk:=K Y w (Ext.refl Y) hrep
          simp only [Fr.reach,List.map_cons,List.cons_append] at hk
          rw [hden] at hk
          have hdf : fr.den P Y = (base fr.fn).at (fr.act Y) (.inRegion (za1 P fr.fn p) (i :: l) :: k.map (It.den P Y fr.fn)):=by
           unfold Fr.den
           rw [ht]
           simp only [List.map_cons,It.den,hperm]
          rw [hdf] at hk
          rw [ht]
          simp only [List.map_cons,It.den,hperm]
          exact .step (fun _=>stepG_enter (b:=base fr.fn) ho (g1 hg) (by simp [base]) hrun) hfine hk
         ·cases h
        ·cases h
      ·cases h
     ·split at h
      ·rename_i hl
       exact hlin hl h
      ·cases h
   ·split at h
    ·rename_i hl
     exact hlin hl h
    ·cases h
  ·rename_i c k ht
   rw [ht]
   exact scode_ok hT hrep h K
theorem zkw {qs stops : List FuncId} {lp : Bool} : ∀ (n : Nat),Trust P X (run P qs stops lp n)
 | 0=>fun Stop s S w₀ cs₀ st Y w hrep h=>h st (by simp [run]) Y w (Ext.refl Y) hrep
 | n + 1=>fun Stop s S w₀ cs₀ st Y w hrep h=>by
  have hT:=zkw (qs:=qs) (stops:=stops) (lp:=lp) n
  simp only [run] at h
  cases hs : step P (run P qs stops lp n) qs stops lp st with
  | next st'=>
   rw [hs] at h
   exact step_ok hT hrep hs fun Y' w' hx hr=>hT Stop s S w₀ cs₀ st' Y' w' hr fun leaf hl Y2 w2 hx2 hr2=>h leaf hl Y2 w2 (hx.trans hx2) hr2
  | fork b=>
   rw [hs] at h
   have hb : ∀ t,b.den Y = t -> Rep X s S w₀ Y st.heap ((b,t) :: st.facts) st.np w:=fun t ht=>⟨hrep.there,hrep.rep,hrep.len,hrep.nd,hrep.bnd,hrep.own,hrep.chg,hrep.inS,fun p hp=>by
    rcases List.mem_cons.1 hp with rfl | hp
    ·exact ht
    ·exact hrep.facts p hp,hrep.np,hrep.aps⟩
   cases ht : b.den Y with
   | true=>exact hT Stop s S w₀ cs₀ { st with facts:=(b,true) :: st.facts } Y w (hb true ht) fun leaf hl=>h leaf (List.mem_append_left _ hl)
   | false=>exact hT Stop s S w₀ cs₀ { st with facts:=(b,false) :: st.facts } Y w (hb false ht) fun leaf hl=>h leaf (List.mem_append_right _ hl)
  | stop=>
   rw [hs] at h
   exact h st (by simp) Y w (Ext.refl Y) hrep
end
end
section
/-! ### More zez -/
structure zfa where
 (ni nb nx ny nk : Nat)
def E.ok (n : Nat) : E -> Bool
 | .lit _=>true
 | .v i=>i < n
 | .ar _ _ a b | .ad a b | .su a b=>a.ok n && b.ok n
 | .cv _ a | .tn a=>a.ok n
def B.ok (L : zfa) : B -> Bool
 | .lit _=>true
 | .v i=>i < L.nb
 | .cmp _ a b=>a.ok L.ni && b.ok L.ni
 | .no a=>a.ok L
 | .eq a b=>a.ok L && b.ok L
 | .and a b=>a.ok L && b.ok L
def BA.ok (L : zfa) : BA -> Bool
 | .blk b=>b < L.nk
 | .sh a l m _=>a.ok L && l.ok L.ni && m.ok L.ni
def CP.ok (L : zfa) : CP -> Bool
 | .e a=>a.ok L.ni
 | .of b _=>b < L.nk
mutual
def SV.ok (L : zfa) : SV -> Bool
 | .int _ e=>e.ok L.ni
 | .bool b=>b.ok L
 | .nilp | .c _=>true
 | .ptr b _=>b < L.nk
 | .func _ a c=>zdp L a && zdp L c
 | .iface _ v=>v.ok L
 | .agg l | .tup l=>zdp L l
 | .x i=>i < L.nx
 | .y i=>i < L.ny
 | .sl a l c=>a.ok L && l.ok L.ni && c.ok L
def zdp (L : zfa) : List SV -> Bool
 | []=>true
 | v :: l=>v.ok L && zdp L l
end
def optOk (L : zfa) : Option (E × Nat) -> Bool
 | none=>true
 | some (e,_)=>e.ok L.ni
def rowOk (L : zfa) : Option (E × Nat × Nat) -> Bool
 | none=>true
 | some (e,_,_)=>e.ok L.ni
def apOk (L : zfa) : Option (Option Nat × List SV) -> Bool
 | none=>true
 | some (o,cs)=>(match o with | none=>true | some b=>decide (b < L.nk)) && zdp L cs
def zdn (L : zfa) : List HB -> Bool
 | []=>true
 | h :: l=>zdp L h.cs && optOk L h.foc && rowOk L h.row && apOk L h.ap && zdn L l
def zia (L : zfa) : List Fr -> Bool
 | []=>true
 | f :: l=>zdp L f.tmps && zia L l
def zow (L : zfa) : List (B × Bool) -> Bool
 | []=>true
 | p :: l=>p.1.ok L && zow L l
def Env.lens (Y : Env) : zfa:=⟨Y.ints.length,Y.bools.length,Y.xs.length,Y.ys.length,Y.blks.length⟩
def Env.grow (Y : Env) (a : List Int) (b : List Bool) (c d : List Value) (e : List Seg) : Env:={ ints:=Y.ints ++ a,bools:=Y.bools ++ b,xs:=Y.xs ++ c,ys:=Y.ys ++ d,blks:=Y.blks ++ e,perms:=Y.perms }
section
variable {Y : Env} {ai : List Int} {ab : List Bool} {ax ay : List Value} {ak : List Seg}
theorem zd5 : ∀ (e : E),e.ok Y.ints.length = true -> E.den (Y.grow ai ab ax ay ak) e = e.den Y
 | .lit n,_=>rfl
 | .v i,h=>by
  simp only [E.ok,decide_eq_true_eq] at h
  exact zb6 _ _ _ _ h
 | .ar o k a b,h=>by simp only [E.ok,Bool.and_eq_true] at h; simp only [E.den,zd5 a h.1,zd5 b h.2]
 | .ad a b,h=>by simp only [E.ok,Bool.and_eq_true] at h; simp only [E.den,zd5 a h.1,zd5 b h.2]
 | .su a b,h=>by simp only [E.ok,Bool.and_eq_true] at h; simp only [E.den,zd5 a h.1,zd5 b h.2]
 | .cv k a,h=>by simp only [E.ok] at h; simp only [E.den,zd5 a h]
 | .tn a,h=>by simp only [E.ok] at h; simp only [E.den,zd5 a h]
theorem zm2 : ∀ (b : B),b.ok Y.lens = true -> B.den (Y.grow ai ab ax ay ak) b = b.den Y
 | .lit n,_=>rfl
 | .v i,h=>by
  simp only [B.ok,decide_eq_true_eq] at h
  exact zb6 _ _ _ _ h
 | .cmp o a b,h=>by simp only [B.ok,Bool.and_eq_true] at h; simp only [B.den,zd5 a h.1,zd5 b h.2]
 | .no a,h=>by simp only [B.ok] at h; simp only [B.den,zm2 a h]
 | .eq a b,h=>by simp only [B.ok,Bool.and_eq_true] at h; simp only [B.den,zm2 a h.1,zm2 b h.2]
 | .and a b,h=>by simp only [B.ok,Bool.and_eq_true] at h; simp only [B.den,zm2 a h.1,zm2 b h.2]
theorem zp0 {b : Nat} (h : b < Y.blks.length) : (Y.grow ai ab ax ay ak).blks.getD b {} = Y.blks.getD b {}:=zb6 _ _ _ _ h
theorem BA_grow : ∀ (a : BA),a.ok Y.lens = true -> a.den (Y.grow ai ab ax ay ak) = a.den Y
 | .blk b,h=>by
  simp only [BA.ok,decide_eq_true_eq] at h
  simp only [BA.den,zp0 h]
 | .sh a l m n,h=>by
  simp only [BA.ok,Bool.and_eq_true] at h
  simp only [BA.den,BA_grow a h.1.1,zd5 l h.1.2,zd5 m h.2]
theorem CP_grow (c : CP) (h : c.ok Y.lens = true) : c.den (Y.grow ai ab ax ay ak) = c.den Y:=by
 cases c with
 | e a=>simp only [CP.ok] at h; simp only [CP.den,zd5 a h]
 | of b n=>simp only [CP.ok,decide_eq_true_eq] at h; simp only [CP.den,zp0 h]
mutual
theorem SV_grow : ∀ (v : SV),v.ok Y.lens = true -> SV.den (Y.grow ai ab ax ay ak) v = v.den Y
 | .int k e,h=>by simp only [SV.ok] at h; simp only [SV.den,zd5 e h]
 | .bool b,h=>by simp only [SV.ok] at h; simp only [SV.den,zm2 b h]
 | .nilp,_=>rfl
 | .c v,_=>rfl
 | .ptr b o,h=>by simp only [SV.ok,decide_eq_true_eq] at h; simp only [SV.den,zp0 h]
 | .func f a c,h=>by simp only [SV.ok,Bool.and_eq_true] at h; simp only [SV.den,zb4 a h.1,zb4 c h.2]
 | .iface t v,h=>by simp only [SV.ok] at h; simp only [SV.den,SV_grow v h]
 | .agg l,h=>by simp only [SV.ok] at h; simp only [SV.den,zb4 l h]
 | .tup l,h=>by simp only [SV.ok] at h; simp only [SV.den,zb4 l h]
 | .x i,h=>by simp only [SV.ok,decide_eq_true_eq] at h; exact zb6 _ _ _ _ h
 | .y i,h=>by simp only [SV.ok,decide_eq_true_eq] at h; exact zb6 _ _ _ _ h
 | .sl a l c,h=>by
  simp only [SV.ok,Bool.and_eq_true] at h
  simp only [SV.den,BA_grow a h.1.1,zd5 l h.1.2,CP_grow c h.2]
theorem zb4 : ∀ (l : List SV),zdp Y.lens l = true -> za3 (Y.grow ai ab ax ay ak) l = za3 Y l
 | [],_=>rfl
 | v :: l,h=>by simp only [zdp,Bool.and_eq_true] at h; simp only [za3,SV_grow v h.1,zb4 l h.2]
end
theorem zi9 {P : Program} : ∀ (frs : List Fr),zia Y.lens frs = true -> frs.map (Fr.den P (Y.grow ai ab ax ay ak)) = frs.map (Fr.den P Y)
 | [],_=>rfl
 | f :: l,h=>by
  simp only [zia,Bool.and_eq_true] at h
  have h1 : Fr.den P (Y.grow ai ab ax ay ak) f = Fr.den P Y f:=by
   simp only [Fr.den,Fr.act,zb4 _ h.1]
   rfl
  simp only [List.map_cons,h1,zi9 l h.2]
theorem zcv : ∀ (h : List HB),zdn Y.lens h = true -> ∀ (i : Nat) (hb : HB),h[i]? = some hb -> zdp Y.lens hb.cs = true /\ optOk Y.lens hb.foc = true /\ rowOk Y.lens hb.row = true /\ apOk Y.lens hb.ap = true
 | [],_,i,hb,hi=>by simp at hi
 | x :: h,hh,i,hb,hi=>by
  simp only [zdn,Bool.and_eq_true] at hh
  cases i with
  | zero=>simp at hi; subst hi; exact ⟨hh.1.1.1.1,hh.1.1.1.2,hh.1.1.2,hh.1.2⟩
  | succ i=>exact zcv h hh.2 i hb (by simpa using hi)
theorem zn0 : ∀ (l : List (B × Bool)),zow Y.lens l = true -> ∀ p ∈ l,p.1.ok Y.lens = true
 | [],_,p,hp=>by simp at hp
 | x :: l,h,p,hp=>by
  simp only [zow,Bool.and_eq_true] at h
  rcases List.mem_cons.1 hp with rfl | hp
  ·exact h.1
  ·exact zn0 l h.2 p hp
end
section
variable {P : Program} {γ : Type} {X : zad γ} {Stop : γ -> Frame -> List Frame -> World -> Prop} {s : γ} {S : Nat -> Prop} {w₀ w : World} {Y : Env} {cs₀ : List Frame} {facts : List (B × Bool)} {np : Nat}
theorem Rep.grow_ {h : List HB} (hr : Rep X s S w₀ Y h facts np w) {L : zfa} (hL : Y.lens = L) (h1 : zdn L h = true) (h2 : zow L facts = true) (ai : List Int) (ab : List Bool) (ax ay : List Value) (hy : ∀ v ∈ ay,v.oneCell' = true) : Rep X s S w₀ (Y.grow ai ab ax ay []) h facts np w:=by
 subst hL
 have hb : (Y.grow ai ab ax ay []).blks = Y.blks:=by simp [Env.grow]
 refine ⟨hr.there,⟨fun v hv=>?_,fun i hb' hi hw=>?_,fun i hb' j u hi hu=>?_,fun i hb' e n hi he=>?_,fun i hb' e n N hi he=>?_,by rw [hb]; exact hr.rep.pl⟩,by rw [hb]; exact hr.len,by rw [hb]; exact hr.nd,by rw [hb]; exact hr.bnd,by rw [hb]; exact hr.own,hr.chg,by rw [hb]; exact hr.inS,fun p hp=>by rw [zm2 _ (zn0 _ h2 p hp)]; exact hr.facts p hp,hr.np,fun i x o cs hx ha=>?_⟩
 ·rcases List.mem_append.1 hv with hv | hv
  ·exact hr.rep.ys v hv
  ·exact hy v hv
 ·rw [hb,zb4 _ (zcv h h1 i hb' hi).1]; exact hr.rep.blk i hb' hi hw
 ·rw [zb4 _ (zcv h h1 i hb' hi).1] at hu; rw [hb]; exact hr.rep.cell i hb' j u hi hu
 ·have h3:=(zcv h h1 i hb' hi).2.1
  rw [he] at h3
  rw [hb,zd5 _ h3]; exact hr.rep.foc i hb' e n hi he
 ·have h3:=(zcv h h1 i hb' hi).2.2
  rw [he] at h3
  rw [hb,zd5 _ h3.1]; exact hr.rep.row i hb' e n N hi he
 ·have h3:=(zcv h h1 i x hx).2.2.2
  rw [ha] at h3
  simp only [apOk,Bool.and_eq_true] at h3
  rw [hb,zb4 _ h3.2,hr.aps i x o cs hx ha]
  cases o <;> simp [zd9,hb]
theorem zak {frs : List Fr} {L : zfa} (hL : Y.lens = L) (h : zia L frs = true) {ai : List Int} {ab : List Bool} {ax ay : List Value} {ak : List Seg} (hk : Fr.reach P X Stop s cs₀ (Y.grow ai ab ax ay ak) frs w) : Fr.reach P X Stop s cs₀ Y frs w:=by
 subst hL
 cases frs with
 | nil=>exact hk
 | cons f l=>
  have:=zi9 (P:=P) (ai:=ai) (ab:=ab) (ax:=ax) (ay:=ay) (ak:=ak) (f :: l) h
  simp only [List.map_cons,List.cons.injEq] at this
  simp only [Fr.reach,this.1,this.2] at hk ⊢
  exact hk
/-! ### Beginning,going on,returning -/
def Each {α : Type} (p : α -> Prop) : List α -> Prop
 | []=>True
 | x :: l=>p x /\ Each p l
theorem Each.mem {α : Type} {p : α -> Prop} : ∀ {l : List α},Each p l -> ∀ x ∈ l,p x
 | [],_,x,hx=>by simp at hx
 | y :: l,h,x,hx=>by
  rcases List.mem_cons.1 hx with rfl | hx
  ·exact h.1
  ·exact h.2.mem x hx
theorem zaa {qs stops : List FuncId} {lp : Bool} (n : Nat) {frs : List Fr} {h : List HB} {L : List St} (hrun : run P qs stops lp n ⟨frs,h,facts,np⟩ = L) (hrep : Rep X s S w₀ Y h facts np w)
  (hL : Each (fun leaf=>∀ Y' w',Ext Y Y' -> Rep X s S w₀ Y' leaf.heap leaf.facts leaf.np w' -> Fr.reach P X Stop s cs₀ Y' leaf.frs w') L) : Fr.reach P X Stop s cs₀ Y frs w:=by
 subst hrun
 exact zkw (qs:=qs) (stops:=stops) (lp:=lp) n Stop s S w₀ cs₀ ⟨frs,h,facts,np⟩ Y w hrep hL.mem
theorem zbt {f : FuncId} {vals : Array Value} {args : List SV} {g : Fr} {Post : γ -> zf9 -> World -> Prop} (hg : fresh P f args = some g) (hv : (za3 Y args).toArray = vals)
  (h : ∀ (Stop : γ -> Frame -> List Frame -> World -> Prop) (c : Frame) (cs : List Frame),X.there s w -> (∀ s' v w',Post s' (.back v) w' -> X.there s' w' -> Jay.Reach P X Stop s' (c.finish v) cs w') -> (∀ s' ch w',Post s' (.threw ch) w' -> X.there s' w' -> Jay.Reach P X Stop s' (c.raise ch) cs w') -> Fr.reach P X Stop s (c :: cs) Y [g] w) : Jdo P X f vals s w Post:=by
 intro Stop c cs hc ht
 obtain ⟨fn,b,hf,hb,hn,hden⟩:=zfk (Y:=Y) hg
 have:=h Stop c cs ht (fun s' v w' p ht'=>hc s' (.back v) w' p ht') (fun s' ch w' p ht'=>hc s' (.threw ch) w' p ht')
 simp only [Fr.reach,List.map_nil,List.nil_append] at this
 rw [hden,hv] at this
 exact this
theorem sx_ret {h : List HB} {fr : Fr} {v : SV} {c : Frame} {cs : List Frame} (he : ended P fr = true) (hv : retOf P h fr = some v) (hr : HRep Y h w) (hk : Jay.Reach P X Stop s (c.finish (v.den Y)) cs w) : Fr.reach P X Stop s (c :: cs) Y [fr] w:=leaf_ret hr he hv hk
/-! ### A call by its contract -/
theorem zc7 {fr : Fr} {callers : List Fr} {p : List Nat} {i : Nat} {todo : List Nat} {k : List It} {o : Oper} {f : FuncId} {args : List SV} {h : List HB} {Post : γ -> zf9 -> World -> Prop} (ht : fr.todo = .inRegion p (i :: todo) :: k) (ho : (za1 P fr.fn p)[i]? = some o)
  (hg : guardOf facts (za1 P fr.fn p) fr.tmps o = .yes) (hc : zc1 P fr.tmps o.op = some (f,args)) (hf : (fresh P f args).isSome = true) (hrep : Rep X s S w₀ Y h facts np w) (hj : Jdo P X f (za3 Y args).toArray s w Post)
  (hb : ∀ s' v w',Post s' (.back v) w' -> X.there s' w' -> Jay.Reach P X Stop s' ((base fr.fn).at ((fr.act Y).put o.dst v) (.inRegion (za1 P fr.fn p) todo :: k.map (It.den P Y fr.fn))) (callers.map (Fr.den P Y) ++ cs₀) w')
  (hthrew : ∀ s' ch w',Post s' (.threw ch) w' -> X.there s' w' -> Jay.Reach P X Stop s' { (base fr.fn).at (fr.act Y) (fr.todo.map (It.den P Y fr.fn)) with mode:=.panicking ch } (callers.map (Fr.den P Y) ++ cs₀) w') : Fr.reach P X Stop s cs₀ Y (fr :: callers) w:=by
 obtain ⟨g,hg'⟩:=Option.isSome_iff_exists.1 hf
 obtain ⟨fn,c,hff,hbb,hname,hden⟩:=zfk (Y:=Y) hg'
 obtain ⟨hrun,honly⟩:=zgq (Y:=Y) (w:=w) hc hff hbb hname
 have hw:=(zey hrep.facts (za1 P fr.fn p) fr.tmps o).1 hg
 have hfine : ziw P (X.oth s) fr.fn o (fr.act Y) w:=zb3 honly hrep.there
 unfold ziw at hfine
 rw [show (execOp (fr.act Y).eval o).run P w = _ from hrun] at hfine
 have hd : fr.den P Y = (base fr.fn).at (fr.act Y) (.inRegion (za1 P fr.fn p) (i :: todo) :: k.map (It.den P Y fr.fn)):=zit fr p (i :: todo) k ht
 simp only [Fr.reach]
 rw [hd]
 refine .step (fun _=>stepG_enter (b:=base fr.fn) ho hw (by simp [base]) hrun) hfine (hj Stop _ _ (fun s' r w' hp ht'=>?_) hrep.there)
 cases r with
 | back v=>
  show Jay.Reach P X Stop s' (Frame.finish _ v) _ w'
  rw [Frame.finish_at,ho]
  exact hb s' v w' hp ht'
 | threw ch=>
  have:=hthrew s' ch w' hp ht'
  rw [ht] at this
  exact this
theorem zdk {fr : Fr} {callers : List Fr} {p : List Nat} {todo : List Nat} {k : List It} {dst : Option Tmp} {v : Value} {sv : SV} (hv : sv.den Y = v) (hk : Fr.reach P X Stop s cs₀ Y (fr.put dst sv (.inRegion p todo :: k) :: callers) w) :
  Jay.Reach P X Stop s ((base fr.fn).at ((fr.act Y).put dst v) (.inRegion (za1 P fr.fn p) todo :: k.map (It.den P Y fr.fn))) (callers.map (Fr.den P Y) ++ cs₀) w:=by
 subst hv
 simp only [Fr.reach] at hk
 rwa [zhg] at hk
/-! ### A drawn region,by hand -/
theorem sx_region {fr : Fr} {callers : List Fr} {p : List Nat} {k : List It} {id : Nat} {h : List HB} (kd : Nat -> Nat) (ord : List Nat) (Q : γ -> Exit -> Act -> World -> Prop) (ht : fr.todo = .code (.at_ p) :: k) (hc : zbo P fr.fn p = some (.region id (za1 P fr.fn p) true)) (hm : P.follows .mixedOrders = true)
  (hchk : zbk P (za1 P fr.fn p) (zc0 (za1 P fr.fn p)) kd ord = true) (hQ : zec Q) (hpan : ∀ s' e a' w',Q s' e a' w' -> X.there s' w' -> ∃ ch,e = .panic ch /\ ∀ todo,Jay.Reach P X Stop s' { (base fr.fn).at a' todo with mode:=.panicking ch } (callers.map (Fr.den P Y) ++ cs₀) w') (hrep : Rep X s S w₀ Y h facts np w)
  (hda : Da P X fr.fn (za1 P fr.fn p) kd Q (fun s a w=>Jay.Reach P X Stop s ((base fr.fn).at a (k.map (It.den P Y fr.fn))) (callers.map (Fr.den P Y) ++ cs₀) w) (fun _ _ _=>False) ord (zhl Y h) (RepG X s S w₀ Y h facts np) (fr.act Y)) : Fr.reach P X Stop s cs₀ Y (fr :: callers) w:=by
 have hrd : Rep X s S w₀ Y h facts np w.drew:=hrep.below (Below.refl _ _).drew
 show Jay.Reach P X Stop s ((base fr.fn).at (fr.act Y) (fr.todo.map (It.den P Y fr.fn))) (callers.map (Fr.den P Y) ++ cs₀) w
 rw [ht,List.map_cons,It.den,zau hc]
 generalize hops : za1 P fr.fn p = ops at *
 have hstep : ∀ main,stepG P main (G ((base fr.fn).at (fr.act Y) (.code (.region id ops true) :: k.map (It.den P Y fr.fn))) (callers.map (Fr.den P Y) ++ cs₀)) w = .go (G ((base fr.fn).at (fr.act Y) (.inRegion ops (Region.schedule (P.follows .mixedOrders) ops (Question.cut (.order (base fr.fn).fn id) (w.tape w.drawn (.order (base fr.fn).fn id)))) :: k.map (It.den P Y fr.fn))) (callers.map (Fr.den P Y) ++ cs₀)) w.drew:=by
  intro main
  simp only [G,stepG,stepG.exec,Frame.at,Bool.not_true,Bool.false_eq_true,if_false,choose,Sem.run,Question.forced]
  rfl
 refine .step (es:=#[]) hstep ⟨by simp,fun _ _=>rfl,Nat.le_refl _⟩ ?_
 refine da_lin hchk hQ hpan (fun _ _ _ h _=>h) (fun _ _ _ h=>h.elim) _ ord _ _ s (fr.act Y) w.drew ⟨Array.replicate ops.size false,by simp,zgm _,filter_none _,?_⟩ (zd4 h) ⟨rfl,hrd⟩ hrd.there hda
 simp only [Region.schedule,hm,Bool.true_or,if_true]
 exact zgi ops _
theorem zgx {ops : Array Oper} {kd : Nat -> Nat} {Q : γ -> Exit -> Act -> World -> Prop} {fn : FuncId} {callers : List Fr} {fin : γ -> Act -> World -> Prop} {stop : List Nat -> (γ -> World -> Prop) -> Act -> Prop} {qs stops : List FuncId} (n : Nat) (hl : Nat -> Bool) {rest : List Nat} {tmps : List SV} {h : List HB} {res : DR}
  (hs : zd7 P (run P qs stops true n) facts np ops kd hl callers rest tmps h = res) (hkd : ∀ i o,ops[i]? = some o -> ((∃ t a x,o.op = .store t a x) \/ ∃ c : Call,o.op = .call { callee:=.builtin .append,args:=c.args,argTypes:=c.argTypes }) -> kd i = 2 \/ kd i = 3)
  (hf : ∀ p ∈ facts,p.1.den Y = p.2) (hnp : Y.perms.length = np) (hlen : Y.blks.length = h.length) (K : GoesOn P X fn ops kd Q fin stop s S w₀ Y facts np callers res) : Da P X fn ops kd Q fin stop rest (zhl Y h) (RepG X s S w₀ Y h facts np) { tmps:=(za3 Y tmps).toArray,defers:=[] }:=by
 have hY : Y.more [] [] = Y:=by simp [Env.more]
 have:=zg7 (X:=X) (s:=s) (S:=S) (w₀:=w₀) (Y:=Y) (facts:=facts) (np:=np) (fn:=fn) (Q:=Q) (fin:=fin) (stop:=stop) (zkw (qs:=qs) (stops:=stops) (lp:=true) n) hkd (fun p hp l=>by rw [B_ext]; exact hf p hp) hnp K rest tmps h [] hs (by rw [hY]) (by rw [hY]; exact hlen)
 rw [hY] at this
 exact this
end
end
section
structure Sub where
 ints : List E:=[]
 bools : List B:=[]
 xs : List SV:=[]
 ys : List SV:=[]
 blks : List Nat:=[]
def E.sub (σ : Sub) : E -> E
 | .lit n=>.lit n
 | .v i=>σ.ints.getD i (.lit 0)
 | .ar o k a b=>.ar o k (a.sub σ) (b.sub σ)
 | .cv k a=>.cv k (a.sub σ)
 | .tn a=>.tn (a.sub σ)
 | .ad a b=>.ad (a.sub σ) (b.sub σ)
 | .su a b=>.su (a.sub σ) (b.sub σ)
def B.sub (σ : Sub) : B -> B
 | .lit b=>.lit b
 | .v i=>σ.bools.getD i (.lit false)
 | .cmp o a b=>.cmp o (a.sub σ) (b.sub σ)
 | .no b=>.no (b.sub σ)
 | .eq a b=>.eq (a.sub σ) (b.sub σ)
 | .and a b=>.and (a.sub σ) (b.sub σ)
def BA.sub (σ : Sub) : BA -> BA
 | .blk b=>.blk (σ.blks.getD b 0)
 | .sh a l m n=>.sh (a.sub σ) (l.sub σ) (m.sub σ) n
def CP.sub (σ : Sub) : CP -> CP
 | .e a=>.e (a.sub σ)
 | .of b n=>.of (σ.blks.getD b 0) n
mutual
def SV.sub (σ : Sub) : SV -> SV
 | .int k e=>.int k (e.sub σ)
 | .bool b=>.bool (b.sub σ)
 | .nilp=>.nilp
 | .ptr b o=>.ptr (σ.blks.getD b 0) o
 | .func f a c=>.func f (zg0 σ a) (zg0 σ c)
 | .iface t v=>.iface t (v.sub σ)
 | .agg l=>.agg (zg0 σ l)
 | .tup l=>.tup (zg0 σ l)
 | .x i=>σ.xs.getD i (.c undef)
 | .y i=>σ.ys.getD i (.c .nilFunc)
 | .c v=>.c v
 | .sl a l c=>.sl (a.sub σ) (l.sub σ) (c.sub σ)
def zg0 (σ : Sub) : List SV -> List SV
 | []=>[]
 | v :: l=>v.sub σ :: zg0 σ l
end
def Fr.sub (σ : Sub) (f : Fr) : Fr:={ f with tmps:=zg0 σ f.tmps }
def HB.sub (σ : Sub) (h : HB) : HB:={ t:=h.t,cs:=zg0 σ h.cs,wr:=h.wr,foc:=h.foc.map fun p=>(p.1.sub σ,p.2),row:=h.row.map fun p=>(p.1.sub σ,p.2) }
def Sub.env (σ : Sub) (Y : Env) : Env:={ ints:=σ.ints.map (E.den Y),bools:=σ.bools.map (B.den Y),xs:=za3 Y σ.xs,ys:=za3 Y σ.ys,blks:=σ.blks.map fun b=>Y.blks.getD b {},perms:=Y.perms }
section
variable {Y : Env} {σ : Sub}
theorem getD_map {α β : Type} (f : α -> β) (l : List α) (i : Nat) (d : α) : (l.map f).getD i (f d) = f (l.getD i d):=by
 simp only [List.getD_eq_getElem?_getD,List.getElem?_map]
 cases l[i]? <;> rfl
theorem E_sub (e : E) : (e.sub σ).den Y = e.den (σ.env Y):=by
 induction e with
 | lit n=>rfl
 | v i=>exact (getD_map (E.den Y) σ.ints i (.lit 0)).symm
 | ar o k a b ha hb=>simp only [E.sub,E.den,ha,hb]
 | cv k a ha=>simp only [E.sub,E.den,ha]
 | tn a ha=>simp only [E.sub,E.den,ha]
 | ad a b ha hb=>simp only [E.sub,E.den,ha,hb]
 | su a b ha hb=>simp only [E.sub,E.den,ha,hb]
theorem B_sub (b : B) : (b.sub σ).den Y = b.den (σ.env Y):=by
 induction b with
 | lit n=>rfl
 | v i=>exact (getD_map (B.den Y) σ.bools i (.lit false)).symm
 | cmp o a b=>simp only [B.sub,B.den,E_sub]
 | no a ha=>simp only [B.sub,B.den,ha]
 | eq a b ha hb=>simp only [B.sub,B.den,ha,hb]
 | and a b ha hb=>simp only [B.sub,B.den,ha,hb]
theorem zoz {b : Nat} (h : b < σ.blks.length) : (σ.env Y).blks.getD b {} = Y.blks.getD (σ.blks.getD b 0) {}:=by
 simp only [Sub.env,List.getD_eq_getElem?_getD,List.getElem?_map,List.getElem?_eq_getElem h,Option.map_some,Option.getD_some]
theorem BA_sub : ∀ (a : BA),a.ok (σ.env Y).lens = true -> (a.sub σ).den Y = a.den (σ.env Y)
 | .blk b,h=>by
  simp only [BA.ok,Env.lens,Sub.env,List.length_map,decide_eq_true_eq] at h
  simp only [BA.sub,BA.den,zoz h]
 | .sh a l m n,h=>by
  simp only [BA.ok,Bool.and_eq_true] at h
  simp only [BA.sub,BA.den,E_sub,BA_sub a h.1.1]
theorem CP_sub (c : CP) (h : c.ok (σ.env Y).lens = true) : (c.sub σ).den Y = c.den (σ.env Y):=by
 cases c with
 | e a=>simp only [CP.sub,CP.den,E_sub]
 | of b n=>
  simp only [CP.ok,Env.lens,Sub.env,List.length_map,decide_eq_true_eq] at h
  simp only [CP.sub,CP.den,zoz h]
theorem dens_getD (l : List SV) (i : Nat) (d : SV) : (za3 Y l).getD i (d.den Y) = (l.getD i d).den Y:=by rw [zc3]; exact getD_map _ _ _ _
mutual
theorem SV_sub : ∀ (v : SV),v.ok (σ.env Y).lens = true -> (v.sub σ).den Y = v.den (σ.env Y)
 | .int k e,_=>by simp only [SV.sub,SV.den,E_sub]
 | .bool b,_=>by simp only [SV.sub,SV.den,B_sub]
 | .nilp,_=>rfl
 | .c v,_=>rfl
 | .ptr b o,h=>by
  simp only [SV.ok,Env.lens,Sub.env,List.length_map,decide_eq_true_eq] at h
  simp only [SV.sub,SV.den,zoz h]
 | .func f a c,h=>by simp only [SV.ok,Bool.and_eq_true] at h; simp only [SV.sub,SV.den,zfm a h.1,zfm c h.2]
 | .iface t v,h=>by simp only [SV.ok] at h; simp only [SV.sub,SV.den,SV_sub v h]
 | .agg l,h=>by simp only [SV.ok] at h; simp only [SV.sub,SV.den,zfm l h]
 | .tup l,h=>by simp only [SV.ok] at h; simp only [SV.sub,SV.den,zfm l h]
 | .x i,_=>(dens_getD σ.xs i (.c undef)).symm
 | .y i,_=>(dens_getD σ.ys i (.c .nilFunc)).symm
 | .sl a l c,h=>by
  simp only [SV.ok,Bool.and_eq_true] at h
  simp only [SV.sub,SV.den,E_sub,BA_sub a h.1.1,CP_sub c h.2]
theorem zfm : ∀ (l : List SV),zdp (σ.env Y).lens l = true -> za3 Y (zg0 σ l) = za3 (σ.env Y) l
 | [],_=>rfl
 | v :: l,h=>by simp only [zdp,Bool.and_eq_true] at h; simp only [zg0,za3,SV_sub v h.1,zfm l h.2]
end
theorem frs_sub {P : Program} : ∀ (frs : List Fr),zia (σ.env Y).lens frs = true -> (frs.map (Fr.sub σ)).map (Fr.den P Y) = frs.map (Fr.den P (σ.env Y))
 | [],_=>rfl
 | f :: l,h=>by
  simp only [zia,Bool.and_eq_true] at h
  have h1 : Fr.den P Y (f.sub σ) = Fr.den P (σ.env Y) f:=by
   simp only [Fr.den,Fr.act,Fr.sub,zfm _ h.1]
   rfl
  simp only [List.map_cons,h1,frs_sub l h.2]
end
def Sub.lens (σ : Sub) : zfa:=⟨σ.ints.length,σ.bools.length,σ.xs.length,σ.ys.length,σ.blks.length⟩
theorem Sub.env_lens (σ : Sub) (Y : Env) : (σ.env Y).lens = σ.lens:=by simp [Env.lens,Sub.env,Sub.lens,za8]
def zmx : List Nat -> Bool
 | []=>true
 | x :: l=>!l.contains x && zmx l
theorem nodupB_ok : ∀ (l : List Nat),zmx l = true -> l.Nodup
 | [],_=>.nil
 | x :: l,h=>by
  simp only [zmx,Bool.and_eq_true,Bool.not_eq_true'] at h
  exact List.nodup_cons.2 ⟨by simpa using h.1,nodupB_ok l h.2⟩
def HB.clear (h : HB) : HB:={ h with ap:=none }
def pickH (h : List HB) : List Nat -> Option (List HB)
 | []=>some []
 | b :: l=>match h[b]?,pickH h l with
  | some x,some r=>some (x.clear :: r)
  | _,_=>none
theorem pickH_ok {h : List HB} : ∀ {l : List Nat} {r : List HB},pickH h l = some r -> l.length = r.length /\ ∀ (i b : Nat) (x : HB),l[i]? = some b -> r[i]? = some x -> ∃ y,h[b]? = some y /\ y.clear = x
 | [],r,hr=>by cases hr; exact ⟨rfl,fun i b x hl=>by simp at hl⟩
 | b :: l,r,hr=>by
  simp only [pickH] at hr
  split at hr
  ·rename_i x r' h1 h2
   cases hr
   obtain ⟨h3,h4⟩:=pickH_ok h2
   refine ⟨by simp [h3],fun i b' x' hl hx=>?_⟩
   cases i with
   | zero=>simp at hl hx; subst hl hx; exact ⟨x,h1,rfl⟩
   | succ i=>exact h4 i b' x' (by simpa using hl) (by simpa using hx)
  ·cases hr
section
variable {P : Program} {γ : Type} {X : zad γ} {Stop : γ -> Frame -> List Frame -> World -> Prop} {s : γ} {S : Nat -> Prop} {w₀ w : World} {Y : Env} {cs₀ : List Frame} {facts : List (B × Bool)} {np : Nat}
theorem Rep.clear {h : List HB} (hr : Rep X s S w₀ Y h facts np w) : Rep X s S w₀ Y (h.map HB.clear) facts np w:=by
 have hg : ∀ {i : Nat} {x : HB},(h.map HB.clear)[i]? = some x -> ∃ y,h[i]? = some y /\ y.clear = x:=fun hx=>by
  rw [List.getElem?_map] at hx
  exact Option.map_eq_some_iff.1 hx
 refine ⟨hr.there,⟨hr.rep.ys,fun i x hx hw=>?_,fun i x j u hx hu=>?_,fun i x e n hx he=>?_,fun i x e n N hx he=>?_,fun i x hx hw h3 h4=>?_⟩,by simp [hr.len],fun i j y x hy hlv hj hw hij=>?_,fun i hi=>hr.bnd i (by simpa using hi),fun i x hx hw=>?_,hr.chg,fun i x hx hw=>?_,hr.facts,hr.np,fun i x o cs hx ha=>?_⟩
 ·obtain ⟨y,hy,rfl⟩:=hg hx; exact hr.rep.blk i y hy hw
 ·obtain ⟨y,hy,rfl⟩:=hg hx; exact hr.rep.cell i y j u hy hu
 ·obtain ⟨y,hy,rfl⟩:=hg hx; exact hr.rep.foc i y e n hy he
 ·obtain ⟨y,hy,rfl⟩:=hg hx; exact hr.rep.row i y e n N hy he
 ·obtain ⟨y,hy,rfl⟩:=hg hx; exact hr.rep.pl i y hy hw h3 h4
 ·obtain ⟨a,ha,rfl⟩:=hg hy
  obtain ⟨b,hb,rfl⟩:=hg hj
  exact hr.nd i j a b ha hlv hb hw hij
 ·obtain ⟨y,hy,rfl⟩:=hg hx; exact hr.own i y hy hw
 ·obtain ⟨y,hy,rfl⟩:=hg hx; exact hr.inS i y hy hw
 ·obtain ⟨y,hy,rfl⟩:=hg hx; cases ha
theorem Rep.sub {h hp : List HB} {fp : List (B × Bool)} (hr : Rep X s S w₀ Y h facts np w) (σ : Sub) (hpick : pickH h σ.blks = some (hp.map (HB.sub σ))) (hok : zdn σ.lens hp = true) (hys : σ.ys.all SV.one = true) (hnd : zmx σ.blks = true) (hnoap : hp.all (fun x=>x.ap.isNone) = true)
  (hfp : fp.all (fun p=>decide ((p.1.sub σ).look facts = some p.2)) = true) : Rep X s S w₀ (σ.env Y) hp fp np w:=by
 have hL:=Sub.env_lens σ Y
 obtain ⟨hlen,hget'⟩:=pickH_ok hpick
 have hr:=hr.clear
 have hget : ∀ (i b : Nat) (x : HB),σ.blks[i]? = some b -> (hp.map (HB.sub σ))[i]? = some x -> (h.map HB.clear)[b]? = some x:=fun i b x h1 h2=>by
  obtain ⟨y,hy,rfl⟩:=hget' i b x h1 h2
  rw [List.getElem?_map,hy]; rfl
 clear hget'
 generalize h.map HB.clear = h at hr hget
 rw [List.length_map] at hlen
 have hnd':=nodupB_ok _ hnd
 have hent : ∀ (i : Nat) (x : HB),hp[i]? = some x -> ∃ b,σ.blks[i]? = some b /\ h[b]? = some (x.sub σ) /\ (σ.env Y).blks.getD i {} = Y.blks.getD b {}:=by
  intro i x hx
  have hi : i < σ.blks.length:=by rw [hlen]; exact (List.getElem?_eq_some_iff.1 hx).1
  refine ⟨σ.blks[i],List.getElem?_eq_getElem hi,hget i _ _ (List.getElem?_eq_getElem hi) (by rw [List.getElem?_map,hx]; rfl),?_⟩
  rw [zoz hi]
  congr 1
  simp [List.getD_eq_getElem?_getD,List.getElem?_eq_getElem hi]
 have hcs : ∀ (i : Nat) (x : HB),hp[i]? = some x -> za3 Y (x.sub σ).cs = za3 (σ.env Y) x.cs:=fun i x hx=>zfm _ (by rw [hL]; exact (heap_grow_sub hok i x hx).1)
 refine ⟨hr.there,⟨fun v hv=>?_,fun i x hx hw=>?_,fun i x j u hx hu=>?_,fun i x e n hx he=>?_,fun i x e n N hx he=>?_,fun i x hx hw h3 h4=>?_⟩,by simp [Sub.env,hlen],fun i j y x hy hlv hj hw hij=>?_,fun i hi=>?_,fun i x hx hw=>?_,hr.chg,fun i x hx hw=>?_,fun p hp=>?_,hr.np,fun i x o cs hx ha=>?_⟩
 ·simp only [Sub.env,zc3] at hv
  obtain ⟨sv,hsv,rfl⟩:=List.mem_map.1 hv
  exact one_ok hr.rep.ys (List.all_eq_true.1 hys sv hsv)
 ·obtain ⟨b,hb,hh,he⟩:=hent i x hx
  have:=hr.rep.blk b _ hh hw
  rw [hcs i x hx] at this
  rw [he]; exact this
 ·obtain ⟨b,hb,hh,he⟩:=hent i x hx
  rw [he]
  exact hr.rep.cell b _ j u hh (by rw [hcs i x hx]; exact hu)
 ·obtain ⟨b,hb,hh,heq⟩:=hent i x hx
  rw [heq,<- E_sub]
  exact hr.rep.foc b _ (e.sub σ) n hh (by simp [HB.sub,he])
 ·obtain ⟨b,hb,hh,heq⟩:=hent i x hx
  rw [heq,<- E_sub]
  exact hr.rep.row b _ (e.sub σ) n N hh (by simp [HB.sub,he])
 ·obtain ⟨b,hb,hh,heq⟩:=hent i x hx
  rw [heq]
  exact hr.rep.pl b _ hh hw (by simp [HB.sub,h3]) (by simp [HB.sub,h4])
 ·obtain ⟨b,hb,hh,he⟩:=hent i y hy
  obtain ⟨b',hb',hh',he'⟩:=hent j x hj
  rw [he,he']
  refine hr.nd b b' _ _ hh ?_ hh' hw fun e=>hij ?_
  ·simp only [HB.live,HB.sub] at hlv ⊢
   generalize y.cs = l at hlv ⊢
   cases l with
   | nil=>simpa [zg0] using hlv
   | cons _ _=>simp [zg0]
  ·subst e
   have hi : i < σ.blks.length:=(List.getElem?_eq_some_iff.1 hb).1
   exact (List.getElem?_inj hi hnd').1 (hb.trans hb'.symm)
 ·have hx : hp[i]? = some hp[i]:=List.getElem?_eq_getElem hi
  obtain ⟨b,hb,hh,he⟩:=hent i _ hx
  rw [he]
  exact hr.bnd b (List.getElem?_eq_some_iff.1 hh).1
 ·obtain ⟨b,hb,hh,he⟩:=hent i x hx
  rw [he]; exact hr.own b _ hh hw
 ·obtain ⟨b,hb,hh,he⟩:=hent i x hx
  rw [he]; exact hr.inS b _ hh hw
 ·have:=List.all_eq_true.1 hfp p hp
  simp only [decide_eq_true_eq] at this
  rw [<- B_sub]
  exact zd3 hr.facts _ _ this
 ·have:=List.all_eq_true.1 hnoap x (List.mem_of_getElem? hx)
  rw [ha] at this
  cases this
where
 heap_grow_sub {L : zfa} {h : List HB} (hh : zdn L h = true) : ∀ (i : Nat) (hb : HB),h[i]? = some hb -> zdp L hb.cs = true /\ optOk L hb.foc = true /\ rowOk L hb.row = true:=by
  induction h with
  | nil=>intro i hb hi; simp at hi
  | cons x h ih=>
   intro i hb hi
   simp only [zdn,Bool.and_eq_true] at hh
   cases i with
   | zero=>simp at hi; subst hi; exact ⟨hh.1.1.1.1,hh.1.1.1.2,hh.1.1.2⟩
   | succ i=>exact ih hh.2 i hb (by simpa using hi)
theorem sx_match {frs fp' : List Fr} {h hp : List HB} {fp : List (B × Bool)} (σ : Sub) (hfrs : fp'.map (Fr.sub σ) = frs) (hok : zia σ.lens fp' = true) (hr : Rep X s S w₀ Y h facts np w) (hpick : pickH h σ.blks = some (hp.map (HB.sub σ))) (hhok : zdn σ.lens hp = true) (hys : σ.ys.all SV.one = true) (hnd : zmx σ.blks = true) (hnoap : hp.all (fun x=>x.ap.isNone) = true)
  (hfp : fp.all (fun p=>decide ((p.1.sub σ).look facts = some p.2)) = true) (hk : Rep X s S w₀ (σ.env Y) hp fp np w -> Fr.reach P X Stop s cs₀ (σ.env Y) fp' w) : Fr.reach P X Stop s cs₀ Y frs w:=by
 have hk:=hk (hr.sub σ hpick hhok hys hnd hnoap hfp)
 subst hfrs
 cases fp' with
 | nil=>exact hk
 | cons f l=>
  have:=frs_sub (P:=P) (σ:=σ) (Y:=Y) (f :: l) (by rw [Sub.env_lens]; exact hok)
  simp only [List.map_cons,List.cons.injEq] at this
  simp only [Fr.reach,List.map_cons] at hk ⊢
  rw [this.1,this.2]
  exact hk
end
end
section
section
variable {P : Program} {γ : Type} {X : zad γ} {Stop : γ -> Frame -> List Frame -> World -> Prop} {s : γ} {S : Nat -> Prop} {w₀ w : World} {Y : Env} {cs₀ : List Frame} {facts : List (B × Bool)} {np : Nat}
theorem sx_regions {fr : Fr} {callers : List Fr} {p : List Nat} {k : List It} {id : Nat} {h : List HB} (kd : Nat -> Nat) (heads : List Nat) (ords : List (Nat × List Nat)) (Q : γ -> Exit -> Act -> World -> Prop) (ht : fr.todo = .code (.at_ p) :: k) (hc : zbo P fr.fn p = some (.region id (za1 P fr.fn p) true)) (hm : P.follows .mixedOrders = true)
  (hchk : zcu P (za1 P fr.fn p) (zc0 (za1 P fr.fn p)) heads kd ords = true) (hQ : zec Q) (hpan : ∀ s' e a' w',Q s' e a' w' -> X.there s' w' -> ∃ ch,e = .panic ch /\ ∀ todo,Jay.Reach P X Stop s' { (base fr.fn).at a' todo with mode:=.panicking ch } (callers.map (Fr.den P Y) ++ cs₀) w') (hrep : Rep X s S w₀ Y h facts np w)
  (hda : Each (fun p₁ : Nat × List Nat=>Da P X fr.fn (za1 P fr.fn p) kd Q (fun s a w=>Jay.Reach P X Stop s ((base fr.fn).at a (k.map (It.den P Y fr.fn))) (callers.map (Fr.den P Y) ++ cs₀) w) (fun _ _ _=>False) p₁.2 (zhl Y h) (RepG X s S w₀ Y h facts np) (fr.act Y)) ords) : Fr.reach P X Stop s cs₀ Y (fr :: callers) w:=by
 have hrd : Rep X s S w₀ Y h facts np w.drew:=hrep.below (Below.refl _ _).drew
 show Jay.Reach P X Stop s ((base fr.fn).at (fr.act Y) (fr.todo.map (It.den P Y fr.fn))) (callers.map (Fr.den P Y) ++ cs₀) w
 rw [ht,List.map_cons,It.den,zau hc]
 generalize hops : za1 P fr.fn p = ops at *
 have hstep : ∀ main,stepG P main (G ((base fr.fn).at (fr.act Y) (.code (.region id ops true) :: k.map (It.den P Y fr.fn))) (callers.map (Fr.den P Y) ++ cs₀)) w = .go (G ((base fr.fn).at (fr.act Y) (.inRegion ops (Region.schedule (P.follows .mixedOrders) ops (Question.cut (.order (base fr.fn).fn id) (w.tape w.drawn (.order (base fr.fn).fn id)))) :: k.map (It.den P Y fr.fn))) (callers.map (Fr.den P Y) ++ cs₀)) w.drew:=by
  intro main
  simp only [G,stepG,stepG.exec,Frame.at,Bool.not_true,Bool.false_eq_true,if_false,choose,Sem.run,Question.forced]
  rfl
 refine .step (es:=#[]) hstep ⟨by simp,fun _ _=>rfl,Nat.le_refl _⟩ ?_
 refine da_lins (fin:=fun s a w=>Jay.Reach P X Stop s ((base fr.fn).at a (k.map (It.den P Y fr.fn))) (callers.map (Fr.den P Y) ++ cs₀) w) (stop:=fun _ _ _=>False) hchk hQ hpan (fun _ _ _ h _=>h) (fun _ _ _ h=>h) _ (Array.replicate ops.size false) s (fr.act Y) w.drew ?_ (by simp) (zgm _) hrd.there (.inl ⟨fun h _=>?_,fun p₁ hp=>⟨_,_,zd4 h,⟨rfl,hrd⟩,?_⟩⟩)
 ·simp only [Region.schedule,hm,Bool.true_or,if_true]
  exact zgi ops _
 ·rw [Array.getD_eq_getD_getElem?,Array.getElem?_replicate]
  split <;> rfl
 ·rw [filter_none]
  exact hda.mem p₁ hp
end
end
section
mutual
def SV.noP (b : Nat) : SV -> Bool
 | .ptr c _=>c != b
 | .func _ a c=>noPs b a && noPs b c
 | .iface _ v=>v.noP b
 | .agg l | .tup l=>noPs b l
 | _=>true
def noPs (b : Nat) : List SV -> Bool
 | []=>true
 | v :: l=>v.noP b && noPs b l
end
def noPFrs (b : Nat) : List Fr -> Bool
 | []=>true
 | f :: l=>noPs b f.tmps && noPFrs b l
def zoj (b : Nat) : List HB -> Bool
 | []=>true
 | h :: l=>noPs b h.cs && zoj b l
def Env.reseg (Y : Env) (b : Nat) (q : Seg) : Env:={ Y with blks:=Y.blks.set b q }
section
variable {Y : Env} {b : Nat} {q : Seg}
theorem zdb {c : Nat} (h : c ≠ b) : (Y.reseg b q).blks.getD c {} = Y.blks.getD c {}:=by
 simp only [Env.reseg,List.getD_eq_getElem?_getD]
 rw [List.getElem?_set_ne (Ne.symm h)]
theorem zdv (h : b < Y.blks.length) : (Y.reseg b q).blks.getD b {} = q:=by
 simp only [Env.reseg,List.getD_eq_getElem?_getD]
 rw [List.getElem?_set_self h]
 rfl
theorem zfq (e : E) : E.den (Y.reseg b q) e = e.den Y:=by
 induction e with
 | lit n=>rfl
 | v i=>rfl
 | ar o k a b ha hb=>simp only [E.den,ha,hb]
 | cv k a ha=>simp only [E.den,ha]
 | tn a ha=>simp only [E.den,ha]
 | ad a b ha hb=>simp only [E.den,ha,hb]
 | su a b ha hb=>simp only [E.den,ha,hb]
theorem B_reseg (e : B) : B.den (Y.reseg b q) e = e.den Y:=by
 induction e with
 | lit n=>rfl
 | v i=>rfl
 | cmp o a b=>simp only [B.den,zfq]
 | no a ha=>simp only [B.den,ha]
 | eq a b ha hb=>simp only [B.den,ha,hb]
 | and a b ha hb=>simp only [B.den,ha,hb]
variable (hb : b < Y.blks.length) (h1 : q.g = (Y.blks.getD b {}).g) (h2 : q.adr = (Y.blks.getD b {}).adr) (h3 : q.cap = (Y.blks.getD b {}).cap)
include hb h1 h2 h3
theorem BA_reseg (a : BA) : a.den (Y.reseg b q) = a.den Y:=by
 induction a with
 | blk c=>
  by_cases hc : c = b
  ·subst hc; simp only [BA.den,zdv hb,h2]
  ·simp only [BA.den,zdb hc]
 | sh a x y k ih=>simp only [BA.den,zfq,ih]
theorem CP_reseg (c : CP) : c.den (Y.reseg b q) = c.den Y:=by
 cases c with
 | e a=>simp only [CP.den,zfq]
 | of c k=>
  by_cases hc : c = b
  ·subst hc; simp only [CP.den,zdv hb,h3]
  ·simp only [CP.den,zdb hc]
omit hb h1 h2 h3
mutual
theorem SV_reseg (hb : b < Y.blks.length) (h1 : q.g = (Y.blks.getD b {}).g) (h2 : q.adr = (Y.blks.getD b {}).adr) (h3 : q.cap = (Y.blks.getD b {}).cap) : ∀ (v : SV),v.noP b = true -> SV.den (Y.reseg b q) v = v.den Y
 | .int k e,_=>by simp only [SV.den,zfq]
 | .bool c,_=>by simp only [SV.den,B_reseg]
 | .nilp,_=>rfl
 | .c v,_=>rfl
 | .ptr c o,h=>by
  simp only [SV.noP,bne_iff_ne] at h
  simp only [SV.den,zdb h]
 | .func f a c,h=>by simp only [SV.noP,Bool.and_eq_true] at h; simp only [SV.den,zcb hb h1 h2 h3 a h.1,zcb hb h1 h2 h3 c h.2]
 | .iface t v,h=>by simp only [SV.noP] at h; simp only [SV.den,SV_reseg hb h1 h2 h3 v h]
 | .agg l,h=>by simp only [SV.noP] at h; simp only [SV.den,zcb hb h1 h2 h3 l h]
 | .tup l,h=>by simp only [SV.noP] at h; simp only [SV.den,zcb hb h1 h2 h3 l h]
 | .x i,h=>rfl
 | .y i,h=>rfl
 | .sl a l c,h=>by simp only [SV.den,BA_reseg hb h1 h2 h3,zfq,CP_reseg hb h1 h2 h3]
theorem zcb (hb : b < Y.blks.length) (h1 : q.g = (Y.blks.getD b {}).g) (h2 : q.adr = (Y.blks.getD b {}).adr) (h3 : q.cap = (Y.blks.getD b {}).cap) : ∀ (l : List SV),noPs b l = true -> za3 (Y.reseg b q) l = za3 Y l
 | [],_=>rfl
 | v :: l,h=>by simp only [noPs,Bool.and_eq_true] at h; simp only [za3,SV_reseg hb h1 h2 h3 v h.1,zcb hb h1 h2 h3 l h.2]
end
include hb h1 h2 h3
theorem frs_reseg {P : Program} : ∀ (frs : List Fr),noPFrs b frs = true -> frs.map (Fr.den P (Y.reseg b q)) = frs.map (Fr.den P Y)
 | [],_=>rfl
 | f :: l,h=>by
  simp only [noPFrs,Bool.and_eq_true] at h
  have h4 : Fr.den P (Y.reseg b q) f = Fr.den P Y f:=by
   simp only [Fr.den,Fr.act,zcb hb h1 h2 h3 _ h.1]
   rfl
  simp only [List.map_cons,h4,frs_reseg l h.2]
omit hb h1 h2 h3 in
theorem zoq : ∀ (h : List HB),zoj b h = true -> ∀ (i : Nat) (hb : HB),h[i]? = some hb -> noPs b hb.cs = true
 | [],_,i,hb,hi=>by simp at hi
 | x :: h,hh,i,hb,hi=>by
  simp only [zoj,Bool.and_eq_true] at hh
  cases i with
  | zero=>simp at hi; subst hi; exact hh.1
  | succ i=>exact zoq h hh.2 i hb (by simpa using hi)
end
section
variable {P : Program} {γ : Type} {X : zad γ} {Stop : γ -> Frame -> List Frame -> World -> Prop} {s : γ} {S : Nat -> Prop} {w₀ w : World} {Y : Env} {cs₀ : List Frame} {facts : List (B × Bool)} {np : Nat}
theorem Rep.reseg {h : List HB} (hr : Rep X s S w₀ Y h facts np w) {b : Nat} {hb hb' : HB} {q : Seg} (hi : h[b]? = some hb) (hwr : hb.wr = true) (hwr' : hb'.wr = true) (ht : hb'.t = hb.t) (h1 : q.g = (Y.blks.getD b {}).g) (h2 : q.adr = (Y.blks.getD b {}).adr) (h3 : q.cap = (Y.blks.getD b {}).cap) (ho : q.o = q.pre.length)
  (hap : h.all (fun x=>x.ap.isNone) = true) (hap' : hb'.ap = none) (hno : zoj b h = true) (hno' : noPs b hb'.cs = true) (hsame : q.whole (za3 Y hb'.cs) = (Y.blks.getD b {}).whole (za3 Y hb.cs)) (hfoc : ∀ e n,hb'.foc = some (e,n) -> q.o = q.b0 + (e.den Y).toNat * n /\ q.ad = none)
  (hrow : ∀ e n N,hb'.row = some (e,n,N) -> q.b0 = 0 /\ q.pre.length = (e.den Y).toNat * n /\ (e.den Y).toNat <= N /\ (e.den Y).toNat <= q.cap /\ q.cap <= maxLen /\ q.pre.length + q.post.length = q.cap * n /\ q.ad = none) (hpl : hb'.foc = none -> hb'.row = none -> q.pre = [] /\ q.post = []) :
  Rep X s S w₀ (Y.reseg b q) (h.set b hb') facts np w:=by
 have hbl : b < h.length:=(List.getElem?_eq_some_iff.1 hi).1
 have hbk : b < Y.blks.length:=by rw [hr.len]; exact hbl
 have hget : ∀ (i : Nat) (x : HB),(h.set b hb')[i]? = some x -> (i = b /\ x = hb') \/ (i ≠ b /\ h[i]? = some x):=by
  intro i x hx
  rw [List.getElem?_set] at hx
  split at hx
  ·rename_i e
   cases hx
   exact .inl ⟨e.symm,rfl⟩
  ·rename_i e
   exact .inr ⟨Ne.symm e,hx⟩
 have hg : ∀ i,((Y.reseg b q).blks.getD i {}).g = (Y.blks.getD i {}).g:=fun i=>by
  by_cases hib : i = b
  ·subst hib; rw [zdv hbk,h1]
  ·rw [zdb hib]
 have hd' : za3 (Y.reseg b q) hb'.cs = za3 Y hb'.cs:=zcb hbk h1 h2 h3 _ hno'
 have hblk:=(hr.rep.blk b hb hi hwr).2
 rw [<- hsame,<- h1] at hblk
 refine ⟨hr.there,⟨hr.rep.ys,fun i x hx hw=>?_,fun i x j u hx hu=>?_,fun i x e n hx he=>?_,fun i x e n N hx he=>?_,fun i x hx hw k3 k4=>?_⟩,by simp [Env.reseg,hr.len],fun i j y x hy hlv hj hw hij=>?_,fun i hil=>?_,fun i x hx hw=>?_,hr.chg,fun i x hx hw=>?_,fun p hp=>by rw [B_reseg]; exact hr.facts p hp,hr.np,fun i x o cs hx ha=>?_⟩
 ·rcases hget i x hx with ⟨rfl,rfl⟩ | ⟨hib,hx⟩
  ·rw [zdv hbk,hd',ht]
   exact ⟨ho,hblk⟩
  ·rw [zdb hib,zcb hbk h1 h2 h3 _ (zoq h hno i x hx)]
   exact hr.rep.blk i x hx hw
 ·rcases hget i x hx with ⟨rfl,rfl⟩ | ⟨hib,hx⟩
  ·rw [hd'] at hu
   rw [zdv hbk]
   exact ziu hblk ho hu
  ·rw [zcb hbk h1 h2 h3 _ (zoq h hno i x hx)] at hu
   rw [zdb hib]
   exact hr.rep.cell i x j u hx hu
 ·rcases hget i x hx with ⟨rfl,rfl⟩ | ⟨hib,hx⟩
  ·rw [zdv hbk,zfq]; exact hfoc e n he
  ·rw [zdb hib,zfq]; exact hr.rep.foc i x e n hx he
 ·rcases hget i x hx with ⟨rfl,rfl⟩ | ⟨hib,hx⟩
  ·rw [zdv hbk,zfq]; exact hrow e n N he
  ·rw [zdb hib,zfq]; exact hr.rep.row i x e n N hx he
 ·rcases hget i x hx with ⟨rfl,rfl⟩ | ⟨hib,hx⟩
  ·rw [zdv hbk]; exact hpl k3 k4
  ·rw [zdb hib]; exact hr.rep.pl i x hx hw k3 k4
 ·rw [hg,hg]
  have hy' : ∃ y',h[i]? = some y' /\ y'.live = true:=by
   rcases hget i y hy with ⟨rfl,rfl⟩ | ⟨_,hy⟩
   ·exact ⟨hb,hi,by simp [HB.live,hwr]⟩
   ·exact ⟨y,hy,hlv⟩
  obtain ⟨y',hy1,hy2⟩:=hy'
  rcases hget j x hj with ⟨rfl,rfl⟩ | ⟨_,hj⟩
  ·exact hr.nd i j y' hb hy1 hy2 hi hwr hij
  ·exact hr.nd i j y' x hy1 hy2 hj hw hij
 ·rw [hg]
  exact hr.bnd i (by simpa using hil)
 ·rw [hg]
  rcases hget i x hx with ⟨rfl,rfl⟩ | ⟨_,hx⟩
  ·exact hr.own i hb hi hwr
  ·exact hr.own i x hx hw
 ·rw [hg]
  rcases hget i x hx with ⟨rfl,rfl⟩ | ⟨_,hx⟩
  ·exact hr.inS i hb hi hwr
  ·exact hr.inS i x hx hw
 ·rcases hget i x hx with ⟨rfl,rfl⟩ | ⟨_,hx⟩
  ·rw [hap'] at ha; cases ha
  ·have:=List.all_eq_true.1 hap x (List.mem_of_getElem? hx)
   rw [ha] at this
   cases this
theorem zbl {frs : List Fr} {b : Nat} {q : Seg} (hb : b < Y.blks.length) (h1 : q.g = (Y.blks.getD b {}).g) (h2 : q.adr = (Y.blks.getD b {}).adr) (h3 : q.cap = (Y.blks.getD b {}).cap) (h : noPFrs b frs = true) (hk : Fr.reach P X Stop s cs₀ (Y.reseg b q) frs w) : Fr.reach P X Stop s cs₀ Y frs w:=by
 cases frs with
 | nil=>exact hk
 | cons f l=>
  have:=frs_reseg (P:=P) hb h1 h2 h3 (f :: l) h
  simp only [List.map_cons,List.cons.injEq] at this
  simp only [Fr.reach,this.1,this.2] at hk ⊢
  exact hk
end
end
section
section
variable {P : Program} {γ : Type} {X : zad γ} {Stop : γ -> Frame -> List Frame -> World -> Prop} {s : γ} {S : Nat -> Prop} {w₀ w : World} {Y : Env} {cs₀ : List Frame} {facts : List (B × Bool)} {np : Nat}
abbrev u : SV:=.c (.tuple #[])
def ours (Y : Env) (h : List HB) (k : Nat) : Prop:=∃ i hb,h[i]? = some hb /\ hb.wr = true /\ (Y.blks.getD i {}).g = k
theorem Rep.rebase {h : List HB} (hr : Rep X s S w₀ Y h facts np w) : Rep X s (ours Y h) w Y h facts np w:=
 ⟨hr.there,hr.rep,hr.len,hr.nd,hr.bnd,hr.own,Chg.refl _ _,fun i hb hi hw=>.inl ⟨i,hb,hi,hw,rfl⟩,hr.facts,hr.np,hr.aps⟩
theorem Rep.know {h : List HB} (hr : Rep X s S w₀ Y h facts np w) {facts' : List (B × Bool)} (hf : ∀ p ∈ facts',p.1.den Y = p.2) : Rep X s S w₀ Y h facts' np w:=
 ⟨hr.there,hr.rep,hr.len,hr.nd,hr.bnd,hr.own,hr.chg,hr.inS,hf,hr.np,hr.aps⟩
theorem Rep.foreign {h : List HB} (hr : Rep X s S w₀ Y h facts np w) {s' : γ} {w' : World} {F : Nat -> Prop} (hc : Chg F w w') (ht : X.there s' w') (ho : ∀ k,k < w.heap.size -> X.oth s' k -> X.oth s k) (hF : ∀ i hb,h[i]? = some hb -> hb.live = true -> ¬ F (Y.blks.getD i {}).g) :
  Rep X s' (ours Y h) w' Y h facts np w':=by
 have hk : ∀ i hb,h[i]? = some hb -> hb.live = true -> w'.heap[(Y.blks.getD i {}).g]? = w.heap[(Y.blks.getD i {}).g]?:=fun i hb hi hl=>hc.block _ (hr.bnd i (List.getElem?_eq_some_iff.1 hi).1) (hF i hb hi hl)
 refine ⟨ht,⟨hr.rep.ys,fun i x hx hw=>⟨(hr.rep.blk i x hx hw).1,?_⟩,fun i x j u hx hu=>?_,hr.rep.foc,hr.rep.row,hr.rep.pl⟩,hr.len,hr.nd,fun i hi=>Nat.lt_of_lt_of_le (hr.bnd i hi) hc.size,fun i x hx hw ho'=>hr.own i x hx hw (ho _ (hr.bnd i (List.getElem?_eq_some_iff.1 hx).1) ho'),Chg.refl _ _,fun i hb hi hw=>.inl ⟨i,hb,hi,hw,rfl⟩,hr.facts,hr.np,hr.aps⟩
 ·exact (hk i x hx (by simp [HB.live,hw])).trans (hr.rep.blk i x hx hw).2
 ·have hlv : x.live = true:=by
   cases hcs : x.cs with
   | nil=>rw [hcs] at hu; simp [za3] at hu
   | cons _ _=>simp [HB.live,hcs]
  exact (World.cell?_of_block (a:=⟨_,_,none⟩) (hk i x hx hlv)).trans (hr.rep.cell i x j u hx hu)
/-! ### A beginning -/
def nd1 (Y : Env) (i : Nat) (x : HB) : Nat -> List HB -> Prop
 | _,[]=>True
 | j,y :: l=>((x.live && y.wr || x.wr && y.live) = true -> (Y.blks.getD i {}).g ≠ (Y.blks.getD j {}).g) /\ nd1 Y i x (j + 1) l
def ndA (Y : Env) : Nat -> List HB -> Prop
 | _,[]=>True
 | i,x :: l=>nd1 Y i x (i + 1) l /\ ndA Y (i + 1) l
theorem nd1_ok {i j : Nat} {x : HB} : ∀ {l : List HB},nd1 Y i x j l -> ∀ (k : Nat) (y : HB),l[k]? = some y -> (x.live && y.wr || x.wr && y.live) = true -> (Y.blks.getD i {}).g ≠ (Y.blks.getD (j + k) {}).g
 | [],_,k,y,hk,_=>by simp at hk
 | z :: l,h,k,y,hk,hl=>by
  cases k with
  | zero=>simp at hk; subst hk; exact h.1 hl
  | succ k=>have:=nd1_ok h.2 k y (by simpa using hk) hl; rwa [show j + 1 + k = j + (k + 1) by omega] at this
theorem ndA_ok {i : Nat} : ∀ {l : List HB},ndA Y i l -> ∀ (a b : Nat) (x y : HB),a < b -> l[a]? = some x -> l[b]? = some y -> (x.live && y.wr || x.wr && y.live) = true -> (Y.blks.getD (i + a) {}).g ≠ (Y.blks.getD (i + b) {}).g
 | [],_,a,b,x,y,_,ha,_,_=>by simp at ha
 | z :: l,h,a,b,x,y,hab,ha,hb,hl=>by
  cases b with
  | zero=>omega
  | succ b=>
   cases a with
   | zero=>
    simp at ha; subst ha
    have:=nd1_ok h.1 b y (by simpa using hb) hl
    rwa [show i + 1 + b = i + (b + 1) by omega] at this
   | succ a=>
    have:=ndA_ok h.2 a b x y (by omega) (by simpa using ha) (by simpa using hb) hl
    rwa [show i + 1 + a = i + (a + 1) by omega,show i + 1 + b = i + (b + 1) by omega] at this
def HB.known (X : zad γ) (s : γ) (w : World) (Y : Env) (q : Seg) (hb : HB) : Prop:=
 q.g < w.heap.size /\ (if hb.wr = true then ¬ X.oth s q.g /\ q.o = q.pre.length /\ Blk w q.g hb.t (q.whole (za3 Y hb.cs)).toArray else ∀ j u,(za3 Y hb.cs)[j]? = some u -> w.cell? ⟨q.g,q.o + j,none⟩ = some u) /\
 (match hb.foc with | none=>(match hb.row with | some _=>True | none=>match hb.wr with | true=>q.pre = [] /\ q.post = [] | false=>True) | some (e,n)=>q.o = q.b0 + (e.den Y).toNat * n /\ q.ad = none) /\
 (match hb.row with | none=>True | some (e,n,N)=>q.b0 = 0 /\ q.pre.length = (e.den Y).toNat * n /\ (e.den Y).toNat <= N /\ (e.den Y).toNat <= q.cap /\ q.cap <= maxLen /\ q.pre.length + q.post.length = q.cap * n /\ q.ad = none) /\ hb.ap = none
def knownA (X : zad γ) (s : γ) (w : World) (Y : Env) : Nat -> List HB -> Prop
 | _,[]=>True
 | i,x :: l=>x.known X s w Y (Y.blks.getD i {}) /\ knownA X s w Y (i + 1) l
theorem knownA_ok {i : Nat} : ∀ {l : List HB},knownA X s w Y i l -> ∀ (a : Nat) (x : HB),l[a]? = some x -> x.known X s w Y (Y.blks.getD (i + a) {})
 | [],_,a,x,ha=>by simp at ha
 | y :: l,h,a,x,ha=>by
  cases a with
  | zero=>simp at ha; subst ha; exact h.1
  | succ a=>have:=knownA_ok h.2 a x (by simpa using ha); rwa [show i + 1 + a = i + (a + 1) by omega] at this
theorem Rep.start {h : List HB} (ht : X.there s w) (hys : ∀ v ∈ Y.ys,v.oneCell' = true) (hlen : Y.blks.length = h.length) (hk : knownA X s w Y 0 h) (hnd : ndA Y 0 h) (hf : ∀ p ∈ facts,p.1.den Y = p.2) (hnp : Y.perms.length = np) : Rep X s (ours Y h) w Y h facts np w:=by
 have hk' : ∀ (i : Nat) (x : HB),h[i]? = some x -> x.known X s w Y (Y.blks.getD i {}):=fun i x hx=>by have:=knownA_ok hk i x hx; rwa [Nat.zero_add] at this
 refine ⟨ht,⟨hys,fun i x hx hw=>?_,fun i x j u hx hu=>?_,fun i x e n hx he=>?_,fun i x e n N hx he=>?_,fun i x hx hw h3 h4=>?_⟩,hlen,fun i j y x hy hlv hj hw hij=>?_,fun i hi=>(hk' i _ (List.getElem?_eq_getElem hi)).1,fun i x hx hw=>?_,Chg.refl _ _,fun i hb hi hw=>.inl ⟨i,hb,hi,hw,rfl⟩,hf,hnp,fun i x o cs hx ha=>?_⟩
 ·have:=(hk' i x hx).2.1
  rw [if_pos hw] at this
  exact this.2
 ·have:=(hk' i x hx).2.1
  split at this
  ·exact ziu this.2.2 this.2.1 hu
  ·exact this j u hu
 ·have:=(hk' i x hx).2.2.1
  rw [he] at this
  exact this
 ·have:=(hk' i x hx).2.2.2.1
  rw [he] at this
  exact this
 ·have:=(hk' i x hx).2.2.1
  rw [h3,h4,hw] at this
  exact this
 ·rcases Nat.lt_or_gt_of_ne hij with hlt | hlt
  ·have:=ndA_ok hnd i j y x hlt hy hj (by simp [hlv,hw])
   simpa using this
  ·have:=ndA_ok hnd j i x y hlt hj hy (by simp [hlv,hw])
   simpa using this.symm
 ·have:=(hk' i x hx).2.1
  rw [if_pos hw] at this
  exact this.1
 ·have:=(hk' i x hx).2.2.2.2
  rw [ha] at this
  cases this
def factsA (Y : Env) : List (B × Bool) -> Prop
 | []=>True
 | p :: l=>p.1.den Y = p.2 /\ factsA Y l
theorem za5 : ∀ {l : List (B × Bool)},factsA Y l -> ∀ p ∈ l,p.1.den Y = p.2
 | [],_,p,hp=>by simp at hp
 | q :: l,h,p,hp=>by
  rcases List.mem_cons.1 hp with rfl | hp
  ·exact h.1
  ·exact za5 h.2 p hp
def ysA : List Value -> Prop
 | []=>True
 | v :: l=>v.oneCell' = true /\ ysA l
theorem zb9 : ∀ {l : List Value},ysA l -> ∀ v ∈ l,v.oneCell' = true
 | [],_,v,hv=>by simp at hv
 | q :: l,h,v,hv=>by
  rcases List.mem_cons.1 hv with rfl | hv
  ·exact h.1
  ·exact zb9 h.2 v hv
theorem zb8 {b : Bool} {A C : Prop} (hb : b = false) (h : C) : if b = true then A else C:=by rw [if_neg (by simp [hb])]; exact h
theorem zcc {b : Bool} {A C : Prop} (hb : b = true) (h : A) : if b = true then A else C:=by rw [if_pos hb]; exact h
theorem zaz {g o : Nat} {t : TypeId} {arr : Array Value} {l : List Value} (hb : Blk w g t arr) (hl : arr.toList = l) (ho : o = 0) : ∀ j u,l[j]? = some u -> w.cell? ⟨g,o + j,none⟩ = some u:=by
 intro j u hu
 rw [ho,Nat.zero_add,hb.cell]
 rw [<- hl,Array.getElem?_toList] at hu
 exact hu
deriving instance Inhabited for HB
deriving instance Inhabited for Fr
theorem zn1 {g o : Nat} : ∀ j u,(za3 Y [])[j]? = some u -> w.cell? ⟨g,o + j,none⟩ = some u:=by
 intro j u hu
 simp [za3] at hu
theorem zah {h : List HB} (hro : h.all (fun x=>!x.wr) = true) (k : Nat) : ¬ ours Y h k:=by
 rintro ⟨i,hb,hi,hw,_⟩
 have:=List.all_eq_true.1 hro hb (List.mem_of_getElem? hi)
 rw [hw] at this
 cases this
def zc6 (P : Program) (st : St) : Option SV:=match st.frs with
 | [fr]=>if ended P fr = true then retOf P st.heap fr else none
 | _=>none
theorem zbx {st : St} {v : SV} {c : Frame} {cs : List Frame} (he : zc6 P st = some v) (hr : HRep Y st.heap w) (hk : Jay.Reach P X Stop s (c.finish (v.den Y)) cs w) : Fr.reach P X Stop s (c :: cs) Y st.frs w:=by
 unfold zc6 at he
 split at he
 ·rename_i fr hfr
  rw [hfr]
  split at he
  ·rename_i hend
   exact sx_ret hend he hr hk
  ·cases he
 ·cases he
/-! ### More blocks don't trouble -/
theorem Ext.ints {Y Y' : Env} (h : Ext Y Y') : Y'.ints = Y.ints:=by obtain ⟨l,m,rfl⟩:=h; rfl
theorem Ext.bools {Y Y' : Env} (h : Ext Y Y') : Y'.bools = Y.bools:=by obtain ⟨l,m,rfl⟩:=h; rfl
theorem Ext.xs {Y Y' : Env} (h : Ext Y Y') : Y'.xs = Y.xs:=by obtain ⟨l,m,rfl⟩:=h; rfl
theorem Ext.ys {Y Y' : Env} (h : Ext Y Y') : Y'.ys = Y.ys:=by obtain ⟨l,m,rfl⟩:=h; rfl
theorem Ext.blk {Y Y' : Env} (h : Ext Y Y') {i : Nat} (hi : i < Y.blks.length) : Y'.blks.getD i {} = Y.blks.getD i {}:=by obtain ⟨l,m,rfl⟩:=h; exact zb6 _ _ _ _ hi
/-! ### A call of a value that isn't written out -/
theorem callv_ok {tmps : List SV} {o : Oper} {x : Operand} {args : Array Operand} {ats : Array TypeId} {f : FuncId} {capt : List Value} {fn : Func} {c : Code} (hop : o.op = .call { callee := .value x,args := args,argTypes := ats }) (hx : (sev tmps x).den Y = .func (.func f) #[] capt.toArray) (hf : P.funcs[f]? = some fn) (hb : fn.body = some c) (hn : (fn.name == "runtime.NumGoroutine") = false) :
  (execOp (Act.eval { tmps:=(za3 Y tmps).toArray,defers:=[] }) o).run P w = .ok (.enter f (za3 Y (args.toList.map (sev tmps)) ++ capt).toArray) w /\ zax P (fun _=>False) (execOp (Act.eval { tmps:=(za3 Y tmps).toArray,defers:=[] }) o):=by
 obtain ⟨dst,op,type,pos,after,guard⟩:=o
 have he:=zcz (Y:=Y) tmps
 have hm:=sev_map (Y:=Y) tmps
 generalize ha : ({ tmps:=(za3 Y tmps).toArray,defers:=[] } : Act) = a at he hm ⊢
 clear ha
 dsimp only at hop
 subst hop
 have hxe : a.eval x = .func (.func f) #[] capt.toArray:=by rw [he,hx]
 have hex : execOp a.eval { dst,op:=.call { callee:=.value x,args:=args,argTypes:=ats },type,pos,after,guard } = callFunc f (za3 Y (args.toList.map (sev tmps)) ++ capt).toArray:=by
  unfold execOp
  simp only [resolve,hxe,Deferred.ofValue]
  show invoke (.fn (.func f) capt.toArray) (#[] ++ args.map a.eval) = _
  simp only [invoke,hm]
  congr 1
  apply Array.ext'
  simp
 rw [hex]
 exact ⟨zen hf hn hb,zdx hf hn hb⟩
end
theorem nd_r1 {Y : Env} {i : Nat} {x : HB} (hx : x.wr = false) : ∀ {h : List HB} {j : Nat},h.all (fun x=>!x.wr) = true -> nd1 Y i x j h
 | [],_,_=>trivial
 | y :: l,j,hh=>by
  simp only [List.all_cons,Bool.and_eq_true,Bool.not_eq_true'] at hh
  refine ⟨fun e=>?_,nd_r1 hx hh.2⟩
  rw [hx,hh.1] at e
  simp at e
theorem nd_ro {Y : Env} : ∀ {h : List HB} {i : Nat},h.all (fun x=>!x.wr) = true -> ndA Y i h
 | [],_,_=>trivial
 | x :: l,i,hh=>by
  simp only [List.all_cons,Bool.and_eq_true,Bool.not_eq_true'] at hh
  exact ⟨nd_r1 hh.1 hh.2,nd_ro hh.2⟩
theorem kn {γ : Type} {X : zad γ} {s : γ} {w : World} {Y : Env} {q : Seg} {t : TypeId} (h : q.g < w.heap.size) : HB.known X s w Y q ⟨t,[],false,none,none,none⟩:=⟨h,zb8 rfl zn1,trivial,trivial,rfl⟩
end
section
section
variable {P : Program} {γ : Type} {X : zad γ} {Stop : γ -> Frame -> List Frame -> World -> Prop} {s : γ} {S : Nat -> Prop} {w₀ w : World} {Y : Env} {cs₀ : List Frame} {facts : List (B × Bool)} {np : Nat}
theorem zlr {Y Y' : Env} (h : Y'.perms = Y.perms) (fn : FuncId) (k : List It) : k.map (It.den P Y' fn) = k.map (It.den P Y fn):=by
 congr 1
 funext x
 cases x with
 | lin p ord rest j=>simp only [It.den,h]
 | _=>rfl
theorem zcg (acts qs : List Nat) (ops : Array Oper) : ∀ i o,ops[i]? = some o -> ((∃ t a x,o.op = .store t a x) \/ ∃ c : Call,o.op = .call { callee:=.builtin .append,args:=c.args,argTypes:=c.argTypes }) -> (if acts.contains i then 2 else zh0 qs ops i) = 2 \/ (if acts.contains i then 2 else zh0 qs ops i) = 3:=by
 intro i o ho h
 split
 ·exact .inl rfl
 ·refine .inl ?_
  unfold zh0
  rw [ho]
  rcases h with ⟨t,a,x,h⟩ | ⟨c,h⟩
  ·show kdOf qs o.op = 2
   rw [h]; rfl
  ·show kdOf qs o.op = 2
   rw [h]; rfl
theorem lens_more {l : List Seg} {m : List (List Nat)} : (Y.more l m).lens = { Y.lens with nk:=Y.blks.length + l.length }:=by
 simp [Env.lens,Env.more]
theorem zbm {ops : Array Oper} {kd : Nat -> Nat} {fn : FuncId} {callers : List Fr} {k : List It} {qs stops : List FuncId} (n : Nat) {hl hl2 : Nat -> Bool} {ord rest : List Nat} {t0 t1 t2i t2 : List SV} {h0 h1 h2 : List HB} {i : Nat} {o : Oper} {f : FuncId} {L : zfa} (vals : Env -> Array Value) (res : SV) {Post : Env -> World -> γ -> zf9 -> World -> Prop}
  (hg1 : zd7 P (run P qs stops true n) facts np ops kd hl callers ord t0 h0 = .halt (i :: rest) t1 h1) (hg2 : zd7 P (run P qs stops true n) facts np ops kd hl2 callers rest t2i h1 = .done t2 h2)
  (hkd : ∀ i o,ops[i]? = some o -> ((∃ t a x,o.op = .store t a x) \/ ∃ c : Call,o.op = .call { callee:=.builtin .append,args:=c.args,argTypes:=c.argTypes }) -> kd i = 2 \/ kd i = 3) (ho : ops[i]? = some o) (hk : kd i = 2) (hgd : guardOf facts ops t1 o = .yes) (hset : zgp t1 o.dst res = t2i)
  (hrun : ∀ (Y' : Env) (w : World),Ext Y Y' -> (execOp (Act.eval { tmps:=(za3 Y' t1).toArray,defers:=[] }) o).run P w = .ok (.enter f (vals Y')) w /\ zax P (fun _=>False) (execOp (Act.eval { tmps:=(za3 Y' t1).toArray,defers:=[] }) o))
  (hrep : Rep X s S w₀ Y h0 facts np w) (hL : { Y.lens with nk:=h1.length } = L) (hokT : zdp L t1 = true) (hokC : zia L callers = true)
  (hj : ∀ Y' w,Ext Y Y' -> Rep X s S w₀ Y' h1 facts np w -> Jdo P X f (vals Y') s w (Post Y' w))
  (hb : ∀ Y' w,Ext Y Y' -> Rep X s S w₀ Y' h1 facts np w -> ∀ s' v w',Post Y' w s' (.back v) w' -> X.there s' w' -> ∃ (S' : Nat -> Prop) (w₁ : World) (ai : List Int) (ab : List Bool) (ax ay : List Value),v = res.den (Y'.grow ai ab ax ay []) /\ Rep X s' S' w₁ (Y'.grow ai ab ax ay []) h1 facts np w' /\
   ∀ Y'' w'',Ext (Y'.grow ai ab ax ay []) Y'' -> Rep X s' S' w₁ Y'' h2 facts np w'' -> Fr.reach P X Stop s' cs₀ Y'' ({ fn:=fn,tmps:=t2,todo:=k } :: callers) w'')
  (hthrew : ∀ Y' w s' ch w',¬ Post Y' w s' (.threw ch) w') :
  Da P X fn ops kd (fun _ _ _ _=>False) (fun s a w=>Jay.Reach P X Stop s ((base fn).at a (k.map (It.den P Y fn))) (callers.map (Fr.den P Y) ++ cs₀) w) (fun _ _ _=>False) ord (zhl Y h0) (RepG X s S w₀ Y h0 facts np) { tmps:=(za3 Y t0).toArray,defers:=[] }:=by
 refine zgx n hl hg1 hkd hrep.facts hrep.np hrep.len fun l hcl=>?_
 have hext : Ext Y (Y.more l []):=⟨l,[],rfl⟩
 refine ⟨o,ho,?_⟩
 rw [if_neg (by omega)]
 refine .inl fun s' w hG=>?_
 obtain ⟨hss,hrep'⟩:=hG
 rw [hss]
 have hLl : (Y.more l []).lens = L:=by
  rw [lens_more,<- hL]
  have:=hrep'.len
  simp only [Env.more,List.length_append] at this
  rw [this]
 obtain ⟨hr,honly⟩:=hrun _ w hext
 unfold Jay.One
 rw [if_pos ((zey hrep'.facts ops t1 o).1 hgd)]
 refine ⟨fun ht=>zb3 honly ht,?_⟩
 rw [hr]
 refine Jdo.mono (Jdo.post_there (hj _ w hext hrep')) fun s2 r w2 hp=>?_
 cases r with
 | threw ch=>exact absurd hp.1 (hthrew _ _ _ _ _)
 | back v=>
  obtain ⟨S',w₁,ai,ab,ax,ay,rfl,hr2,K⟩:=hb _ w hext hrep' s2 v w2 hp.1 hp.2
  refine ⟨_,_,zd4 h1,⟨rfl,hr2⟩,.inr (.inl hk),?_⟩
  have e1 : za3 (Y.more l []) t1 = za3 ((Y.more l []).grow ai ab ax ay []) t1:=(zb4 t1 (by rw [hLl]; exact hokT)).symm
  rw [e1,zek,hset]
  have hcg : callers.map (Fr.den P ((Y.more l []).grow ai ab ax ay [])) = callers.map (Fr.den P (Y.more l [])):=zi9 callers (by rw [hLl]; exact hokC)
  refine zgx n hl2 hg2 hkd hr2.facts hr2.np hr2.len fun l2 hcl2 w3 hr3=>?_
  have:=K _ w3 ⟨l2,[],rfl⟩ hr3
  simp only [Fr.reach,Fr.den,Fr.act] at this
  have hit : k.map (It.den P (((Y.more l []).grow ai ab ax ay []).more l2 []) fn) = k.map (It.den P Y fn):=zlr (by simp [Env.more,Env.grow]) fn k
  rw [hit] at this
  have hcc : callers.map (Fr.den P (((Y.more l []).grow ai ab ax ay []).more l2 [])) = callers.map (Fr.den P Y):=(hcl2.trans hcg).trans hcl
  rw [hcc] at this
  exact this
def callV (tmps : List SV) (o : Op) : Option (SV × List SV):=match o with
 | .call { callee:=.value x,args,.. }=>some (sev tmps x,args.toList.map (sev tmps))
 | _=>none
theorem run_vcall {tmps : List SV} {o : Oper} {v : SV} {args : List SV} {f : FuncId} {capt : List Value} {fn : Func} {c : Code} {Y' : Env} (hc : callV tmps o.op = some (v,args)) (hx : v.den Y' = .func (.func f) #[] capt.toArray) (hf : P.funcs[f]? = some fn) (hb : fn.body = some c) (hn : (fn.name == "runtime.NumGoroutine") = false) (w : World) :
  (execOp (Act.eval { tmps:=(za3 Y' tmps).toArray,defers:=[] }) o).run P w = .ok (.enter f (za3 Y' args ++ capt).toArray) w /\ zax P (fun _=>False) (execOp (Act.eval { tmps:=(za3 Y' tmps).toArray,defers:=[] }) o):=by
 unfold callV at hc
 split at hc
 ·rename_i x args' ats hop
  cases hc
  exact callv_ok hop hx hf hb hn
 ·cases hc
theorem zbs {tmps : List SV} {o : Oper} {f : FuncId} {args : List SV} (hc : zc1 P tmps o.op = some (f,args)) (hf : (fresh P f args).isSome = true) (Y' : Env) (w : World) :
  (execOp (Act.eval { tmps:=(za3 Y' tmps).toArray,defers:=[] }) o).run P w = .ok (.enter f (za3 Y' args).toArray) w /\ zax P (fun _=>False) (execOp (Act.eval { tmps:=(za3 Y' tmps).toArray,defers:=[] }) o):=by
 obtain ⟨g,hg'⟩:=Option.isSome_iff_exists.1 hf
 obtain ⟨func,c,hff,hbb,hname,hden⟩:=zfk (Y:=Y') hg'
 exact zgq hc hff hbb hname
theorem zll : zec (γ:=γ) (fun _ _ _ _=>False):=fun _ _ _ _ _ _ h=>h.elim
theorem zmf {fr : Fr} {callers : List Fr} {p : List Nat} {k : List It} {id : Nat} {h : List HB} (kd : Nat -> Nat) (ord : List Nat) (ht : fr.todo = .code (.at_ p) :: k) (hc : zbo P fr.fn p = some (.region id (za1 P fr.fn p) true)) (hm : P.follows .mixedOrders = true)
  (hchk : zbk P (za1 P fr.fn p) (zc0 (za1 P fr.fn p)) kd ord = true) (hrep : Rep X s S w₀ Y h facts np w)
  (hda : Da P X fr.fn (za1 P fr.fn p) kd (fun _ _ _ _=>False) (fun s a w=>Jay.Reach P X Stop s ((base fr.fn).at a (k.map (It.den P Y fr.fn))) (callers.map (Fr.den P Y) ++ cs₀) w) (fun _ _ _=>False) ord (zhl Y h) (RepG X s S w₀ Y h facts np) (fr.act Y)) : Fr.reach P X Stop s cs₀ Y (fr :: callers) w:=
 sx_region kd ord (fun _ _ _ _=>False) ht hc hm hchk zll (fun _ _ _ _ h=>h.elim) hrep hda
theorem zme {fr : Fr} {callers : List Fr} {p : List Nat} {k : List It} {id : Nat} {h : List HB} (kd : Nat -> Nat) (heads : List Nat) (ords : List (Nat × List Nat)) (ht : fr.todo = .code (.at_ p) :: k) (hc : zbo P fr.fn p = some (.region id (za1 P fr.fn p) true)) (hm : P.follows .mixedOrders = true)
  (hchk : zcu P (za1 P fr.fn p) (zc0 (za1 P fr.fn p)) heads kd ords = true) (hrep : Rep X s S w₀ Y h facts np w)
  (hda : Each (fun p₁ : Nat × List Nat=>Da P X fr.fn (za1 P fr.fn p) kd (fun _ _ _ _=>False) (fun s a w=>Jay.Reach P X Stop s ((base fr.fn).at a (k.map (It.den P Y fr.fn))) (callers.map (Fr.den P Y) ++ cs₀) w) (fun _ _ _=>False) p₁.2 (zhl Y h) (RepG X s S w₀ Y h facts np) (fr.act Y)) ords) : Fr.reach P X Stop s cs₀ Y (fr :: callers) w:=
 sx_regions kd heads ords (fun _ _ _ _=>False) ht hc hm hchk zll (fun _ _ _ _ h=>h.elim) hrep hda
def Fits (σ : Sub) (a p : St) : Prop:=p.frs.map (Fr.sub σ) = a.frs /\ pickH a.heap σ.blks = some (p.heap.map (HB.sub σ)) /\
 (zia σ.lens p.frs && zdn σ.lens p.heap && σ.ys.all SV.one && zmx σ.blks && p.heap.all (fun x=>x.ap.isNone) && p.facts.all (fun q=>decide ((q.1.sub σ).look a.facts = some q.2))) = true /\ p.np = a.np
theorem zkh {σ : Sub} {a p : St} (hf : Fits σ a p) (hr : Rep X s S w₀ Y a.heap a.facts a.np w) (hk : Rep X s S w₀ (σ.env Y) p.heap p.facts p.np w -> Fr.reach P X Stop s cs₀ (σ.env Y) p.frs w) : Fr.reach P X Stop s cs₀ Y a.frs w:=by
 obtain ⟨h1,h2,h3,h4⟩:=hf
 simp only [Bool.and_eq_true] at h3
 obtain ⟨⟨⟨⟨⟨a1,a2⟩,a3⟩,a4⟩,a5⟩,a6⟩:=h3
 exact sx_match σ h1 a1 hr h2 a2 a3 a4 a5 a6 (by rw [<- h4]; exact hk)
theorem zc8 {fr : Fr} {callers : List Fr} {p : List Nat} {todo : List Nat} {k : List It} {dst : Option Tmp} {v : Value} {ai : List Int} {ab : List Bool} {ax ay : List Value} {L : zfa} (sv : SV) (hL : Y.lens = L) (hok : zia L (fr :: callers) = true) (hv : sv.den (Y.grow ai ab ax ay []) = v) (hk : Fr.reach P X Stop s cs₀ (Y.grow ai ab ax ay []) (fr.put dst sv (.inRegion p todo :: k) :: callers) w) :
  Jay.Reach P X Stop s ((base fr.fn).at ((fr.act Y).put dst v) (.inRegion (za1 P fr.fn p) todo :: k.map (It.den P Y fr.fn))) (callers.map (Fr.den P Y) ++ cs₀) w:=by
 have h1:=zdk (fr:=fr) (p:=p) (todo:=todo) (k:=k) (dst:=dst) hv hk
 subst hL
 have hk':=hok
 simp only [zia,Bool.and_eq_true] at hk'
 rw [zlr (P:=P) (show (Y.grow ai ab ax ay []).perms = Y.perms from rfl) fr.fn k,zi9 callers hk'.2] at h1
 rw [show fr.act (Y.grow ai ab ax ay []) = fr.act Y by simp only [Fr.act,zb4 _ hk'.1]] at h1
 exact h1
def oursB (Y : Env) (Q : Nat -> Prop) : Nat -> List HB -> Prop
 | _,[]=>True
 | i,x :: l=>(x.wr = true -> Q (Y.blks.getD i {}).g) /\ oursB Y Q (i + 1) l
theorem oursB_ok {Q : Nat -> Prop} {j : Nat} : ∀ {l : List HB},oursB Y Q j l -> ∀ (i : Nat) (x : HB),l[i]? = some x -> x.wr = true -> Q (Y.blks.getD (j + i) {}).g
 | [],_,i,x,hi,_=>by simp at hi
 | y :: l,h,i,x,hi,hw=>by
  cases i with
  | zero=>simp at hi; subst hi; exact h.1 hw
  | succ i=>have:=oursB_ok h.2 i x (by simpa using hi) hw; rwa [show j + 1 + i = j + (i + 1) by omega] at this
theorem zbz {Q : Nat -> Prop} {h : List HB} (hq : oursB Y Q 0 h) : ∀ k,ours Y h k -> Q k:=by
 rintro k ⟨i,x,hi,hw,rfl⟩
 have:=oursB_ok hq i x hi hw
 rwa [Nat.zero_add] at this
def liveBut (b : Nat) (h : List HB) : Bool:=(List.range h.length).all fun i=>i == b || !(h.getD i default).live || (h.getD i default).wr
theorem zgv {b : Nat} {h : List HB} (hc : liveBut b h = true) : ∀ i hb,h[i]? = some hb -> hb.live = true -> i = b \/ hb.wr = true:=by
 intro i hb hi hl
 have hlt:=(List.getElem?_eq_some_iff.1 hi).1
 have:=List.all_eq_true.1 hc i (List.mem_range.2 hlt)
 rw [List.getD_eq_getElem?_getD,hi] at this
 simpa [hl] using this
theorem zi0 {Y Y' : Env} {h h' : List HB} (hw : h.map (·.wr) = h'.map (·.wr)) (hs : ∀ j,j < h.length -> Y'.blks.getD j {} = Y.blks.getD j {}) : ∀ k,ours Y' h k -> ours Y h' k:=by
 rintro k ⟨j,hb,hj,hwr,rfl⟩
 have hlt:=(List.getElem?_eq_some_iff.1 hj).1
 have h1 : (h'.map (·.wr))[j]? = some true:=by rw [<- hw,List.getElem?_map,hj]; simp [hwr]
 rw [List.getElem?_map] at h1
 obtain ⟨x,hx,hxw⟩:=Option.map_eq_some_iff.1 h1
 exact ⟨j,x,hx,hxw,by rw [hs j hlt]⟩
end
end
end Go.Proofs.Ytonhfgjofgbcdaa.Sx
