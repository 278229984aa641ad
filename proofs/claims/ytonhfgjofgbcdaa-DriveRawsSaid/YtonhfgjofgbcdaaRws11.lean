/- A part of this claim's proof. -/
import Derived.Test.YtonhfgjofgbcdaaRws10
import Derived.Laws.MakeOwn
set_option linter.unusedSimpArgs false
set_option linter.unusedVariables false
set_option maxRecDepth 20000
namespace Go.Proofs.Ytonhfgjofgbcdaa.Sx
open Go Go.Conc Jay Go.RowKit
section
section
variable {P : Program} {γ : Type} {X : zad γ} {Stop : γ -> Frame -> List Frame -> World -> Prop} {s : γ} {S : Nat -> Prop} {w₀ w : World} {Y : Env} {cs₀ : List Frame} {facts : List (B × Bool)} {np : Nat}
theorem da_make {ops : Array Oper} {kd : Nat -> Nat} {fn : FuncId} {callers : List Fr} {k : List It} {qs stops : List FuncId} (n : Nat) {hl hl2 : Nat -> Bool} {ord rest : List Nat} {t0 t1 t2i t2 : List SV} {h0 h1 h2 : List HB} {i : Nat} {o : Oper} {t e : TypeId} {l c : Operand} {ti : TypeInfo} {z : Value} {kl kc : IntKind} {N : E} {B : Nat}
  (hg1 : zd7 P (run P qs stops true n) facts np ops kd hl callers ord t0 h0 = .halt (i :: rest) t1 h1) (hg2 : zd7 P (run P qs stops true n) facts np ops kd hl2 callers rest t2i (h1 ++ [{ t:=e,cs:=[],row:=some (N,ti.size,B) }]) = .done t2 h2)
  (hkd : ∀ i o,ops[i]? = some o -> ((∃ t a x,o.op = .store t a x) \/ ∃ c : Call,o.op = .call { callee:=.builtin .append,args:=c.args,argTypes:=c.argTypes }) -> kd i = 2 \/ kd i = 3) (ho : ops[i]? = some o) (hk : kd i = 1) (hgd : guardOf facts ops t1 o = .yes)
  (hop : o.op = .makeSlice t l c) (hlv : sev t1 l = .int kl N) (hcv : sev t1 c = .int kc N) (hset : zgp t1 o.dst (.sl (.blk h1.length) N (.of h1.length ti.size)) = t2i) (hu : P.underlying t = some (.slice e)) (hi : P.info? e = some ti) (hz : ti.zero = some z) (hsz : 0 < ti.size) (hzs : z.cells.size = ti.size)
  (hN0 : 0 <= N.den Y) (hNB : (N.den Y).toNat <= B) (hB1 : B * ti.bytes <= 140737488355328) (hB2 : B <= 1000000000) (hsc : (scs h1.length t1 && zm5 h1.length callers && zcq h1.length h1) = true) (hrep : Rep X s S w₀ Y h0 facts np w)
  (K : ∀ Y' w',Ext Y Y' -> (Y'.blks.getD h1.length {}).pre = (madeCells z.cells ((N.den Y).toNat * ti.size)).toList /\ (Y'.blks.getD h1.length {}).post = [] /\ (Y'.blks.getD h1.length {}).cap = (N.den Y).toNat -> Rep X s S w₀ Y' h2 facts np w' -> Fr.reach P X Stop s cs₀ Y' ({ fn:=fn,tmps:=t2,todo:=k } :: callers) w') :
  Da P X fn ops kd (fun _ _ _ _=>False) (fun s a w=>Jay.Reach P X Stop s ((base fn).at a (k.map (It.den P Y fn))) (callers.map (Fr.den P Y) ++ cs₀) w) (fun _ _ _=>False) ord (zhl Y h0) (RepG X s S w₀ Y h0 facts np) { tmps:=(za3 Y t0).toArray,defers:=[] }:=by
 simp only [Bool.and_eq_true] at hsc
 obtain ⟨⟨c0,c1⟩,c2⟩:=hsc
 refine zgx n hl hg1 hkd hrep.facts hrep.np hrep.len fun l1 hcl=>?_
 refine ⟨o,ho,?_⟩
 rw [if_neg (by omega)]
 refine .inl fun s' w hG=>?_
 obtain ⟨hss,hr'⟩:=hG
 rw [hss]
 generalize hY1 : Y.more l1 [] = Y1 at hr' hcl ⊢
 have hNd : N.den Y1 = N.den Y:=by rw [<- hY1,zf8]
 have he:=zcz (Y:=Y1) t1
 have hev1 : Act.eval { tmps:=(za3 Y1 t1).toArray,defers:=[] } l = .int kl (N.den Y):=by rw [he,hlv,SV.den,hNd]
 have hev2 : Act.eval { tmps:=(za3 Y1 t1).toArray,defers:=[] } c = .int kc (N.den Y):=by rw [he,hcv,SV.den,hNd]
 have hml : maxLen = 9223372036854775807:=rfl
 have hby : (N.den Y).toNat * ti.bytes <= 140737488355328:=Nat.le_trans (Nat.mul_le_mul_right _ hNB) hB1
 have hmk:=run_make (P:=P) w t e ti z hu hi hz kl kc (N.den Y) (N.den Y) hN0 (Int.le_refl _) (by
  have h2 : (((N.den Y).toNat * ti.bytes : Nat) : Int) <= 140737488355328:=Int.ofNat_le.2 hby
  rw [Int.natCast_mul,Int.toNat_of_nonneg hN0,Int.mul_comm] at h2
  omega) (by omega)
 have hrun : (execOp (Act.eval { tmps:=(za3 Y1 t1).toArray,defers:=[] }) o).run P w = .ok (.value (.slice (some ⟨w.heap.size,0,none⟩) (N.den Y).toNat (N.den Y).toNat)) (w.alloc (.cells (madeCells z.cells ((N.den Y).toNat * ti.size)) e)):=by
  simp [execOp,hop,hev1,hev2,hmk,Result.andThen]
 unfold Jay.One
 rw [if_pos ((zey hr'.facts ops t1 o).1 hgd)]
 refine ⟨fun ht=>fine_idle (by rw [hop]; rfl) ht,?_⟩
 rw [hrun]
 have hlenM : (madeCells z.cells ((N.den Y).toNat * ti.size)).toList.length = (N.den Y).toNat * ti.size:=by rw [Array.length_toList,size_madeCells]
 have hr2:=hr'.grow c2 (r:=none) (w':=w.alloc (.cells (madeCells z.cells ((N.den Y).toNat * ti.size)) e)) ⟨rfl,rfl,rfl,by rw [size_alloc]; omega,fun g hg _=>Below.heap_alloc w _ g hg⟩ (q:=⟨w.heap.size,0,(madeCells z.cells ((N.den Y).toNat * ti.size)).toList.length,(madeCells z.cells ((N.den Y).toNat * ti.size)).toList,[],(N.den Y).toNat,none⟩) (t:=e) (e:=N) (n:=ti.size) (N:=B) (ap:=none) hsz (fun _ _ e=>by cases e) (fun g hg=>by cases hg) (.inr rfl) rfl rfl (by
   show Blk _ _ e (Seg.whole _ []).toArray
   simp only [Seg.whole,List.append_nil]
   exact Blk.new _ _ _) (by rw [hNd]; exact hlenM) (by rw [hNd]; exact hNB) (by rw [hNd]; exact Nat.le_refl _) (by show (N.den Y).toNat <= maxLen; omega) (by show _ + 0 = _; rw [Nat.add_zero]; exact hlenM) rfl
 have hn1 : h1.length <= Y1.blks.length:=Nat.le_of_eq hr'.len.symm
 generalize hq : (⟨w.heap.size,0,(madeCells z.cells ((N.den Y).toNat * ti.size)).toList.length,(madeCells z.cells ((N.den Y).toNat * ti.size)).toList,[],(N.den Y).toNat,none⟩ : Seg) = q at hr2 ⊢
 have hnp:=zir hr' q
 have hold : ∀ i,i < h1.length -> (Y1.more [q] []).blks.getD i {} = Y1.blks.getD i {}:=fun i hi=>zb6 _ _ _ _ (by omega)
 refine ⟨_,_,zd4 _,⟨rfl,hr2⟩,.inl fun w' hw=>⟨⟨hr'.rep.ys,fun i x hx hwr=>?_,fun i x j u hx hu=>?_,hr'.rep.foc,hr'.rep.row,hr'.rep.pl⟩,fun i hi=>?_⟩,?_⟩
 ·have hl : i < h1.length:=(List.getElem?_eq_some_iff.1 hx).1
  have:=hw.1.blk i x (by rw [List.getElem?_append_left hl]; exact hx) hwr
  rwa [ze0 h1.length hn1 h1 c2 i x hx,hold i hl] at this
 ·have hl : i < h1.length:=(List.getElem?_eq_some_iff.1 hx).1
  have:=hw.1.cell i x j u (by rw [List.getElem?_append_left hl]; exact hx) (by rw [ze0 h1.length hn1 h1 c2 i x hx]; exact hu)
  rwa [hold i hl] at this
 ·have:=hw.2 i (by simp; omega)
  rwa [hold i hi] at this
 have e1 : za3 Y1 t1 = za3 (Y1.more [q] []) t1:=(zai h1.length hn1 t1 c0).symm
 have ev : Value.slice (some ⟨w.heap.size,0,none⟩) (N.den Y).toNat (N.den Y).toNat = (SV.sl (.blk h1.length) N (.of h1.length ti.size)).den (Y1.more [q] []):=by
  simp only [SV.den,BA.den,Seg.adr,CP.den,hnp,zf8,hNd]
  rw [<- hq]
 rw [e1,ev,zek,hset]
 refine zgx n hl2 hg2 hkd hr2.facts hr2.np hr2.len fun l2 hcl2 w3 hr3=>?_
 have hget : ((Y1.more [q] []).more l2 []).blks.getD h1.length {} = q:=by
  rw [show ((Y1.more [q] []).more l2 []).blks.getD h1.length {} = (Y1.more [q] []).blks.getD h1.length {} from zb6 _ _ _ _ (by simp [Env.more]; omega)]
  exact hnp
 have:=K _ w3 (Ext.trans ⟨l1,[],hY1.symm⟩ (Ext.trans ⟨[q],[],rfl⟩ ⟨l2,[],rfl⟩)) (by rw [hget,<- hq]; exact ⟨rfl,rfl,rfl⟩) hr3
 simp only [Fr.reach,Fr.den,Fr.act] at this
 have hit : k.map (It.den P ((Y1.more [q] []).more l2 []) fn) = k.map (It.den P Y fn):=zlr (by rw [<- hY1]; simp [Env.more]) fn k
 rw [hit] at this
 have hcc : callers.map (Fr.den P ((Y1.more [q] []).more l2 [])) = callers.map (Fr.den P Y):=(hcl2.trans (zgl _ hn1 _ c1)).trans hcl
 rw [hcc] at this
 exact this
end
end
section
def smk (tmps : List SV) : Op -> Option (TypeId × SV × SV)
 | .makeSlice t l c=>some (t,sev tmps l,sev tmps c)
 | _=>none
def zj8 (P : Program) (t : TypeId) : Option (TypeId × Nat × Nat × List Value):=match P.underlying t with
 | some (.slice e)=>match P.info? e with
  | some ti=>match ti.zero with
   | some z=>some (e,ti.size,ti.bytes,z.cells.toList)
   | none=>none
  | none=>none
 | _=>none
def mksOk (mk : List Nat) (ops : Array Oper) : Bool:=mk.all fun i=>match ops[i]? with
 | some o=>match o.op with
  | .makeSlice ..=>true
  | _=>false
 | none=>true
theorem kd_mks {mk qs : List Nat} {ops : Array Oper} (h : mksOk mk ops = true) : ∀ i o,ops[i]? = some o -> ((∃ t a x,o.op = .store t a x) \/ ∃ c : Call,o.op = .call { callee:=.builtin .append,args:=c.args,argTypes:=c.argTypes }) -> (if mk.contains i then 1 else zh0 qs ops i) = 2 \/ (if mk.contains i then 1 else zh0 qs ops i) = 3:=by
 intro i o ho hop
 split
 ·rename_i hc
  have:=List.all_eq_true.1 h i (by simpa using hc)
  rw [ho] at this
  dsimp only at this
  rcases hop with ⟨t,a,x,e⟩ | ⟨c,e⟩
  ·rw [e] at this; cases this
  ·rw [e] at this; cases this
 ·refine .inl ?_
  unfold zh0
  rw [ho]
  rcases hop with ⟨t,a,x,e⟩ | ⟨c,e⟩
  ·show kdOf qs o.op = 2
   rw [e]; rfl
  ·show kdOf qs o.op = 2
   rw [e]; rfl
theorem made_flat (z : List Value) (n : Nat) : (madeCells z.toArray (n * z.length)).toList = (List.replicate n z).flatten:=by
 apply List.ext_getElem?
 intro i
 have hl : (List.replicate n z).flatten.length = n * z.length:=by simp
 by_cases hi : i < n * z.length
 ·have hz : 0 < z.length:=Nat.pos_of_ne_zero fun e=>by rw [e,Nat.mul_zero] at hi; omega
  have e1 : (madeCells z.toArray (n * z.length)).toList[i]? = z[i % z.length]?:=by
   have hm : i % z.length < z.length:=Nat.mod_lt _ hz
   rw [Array.getElem?_toList]
   unfold madeCells
   rw [Array.getElem?_map,Array.getElem?_range,if_pos hi]
   simp only [Option.map_some,List.size_toArray]
   rw [getElem!_pos z.toArray (i % z.length) (by simpa using hm)]
   simp [List.getElem?_eq_getElem hm]
  rw [e1]
  clear e1 hl
  induction n generalizing i with
  | zero=>omega
  | succ n ih=>
   rw [List.replicate_succ,List.flatten_cons]
   by_cases h : i < z.length
   ·rw [List.getElem?_append_left h,Nat.mod_eq_of_lt h]
   ·rw [List.getElem?_append_right (by omega),<- ih (i:=i - z.length) (by rw [Nat.succ_mul] at hi; omega),<- Nat.mod_eq_sub_mod (by omega)]
 ·rw [List.getElem?_eq_none (by rw [Array.length_toList,size_madeCells]; omega),List.getElem?_eq_none (by omega)]
section
variable {P : Program} {γ : Type} {X : zad γ} {Stop : γ -> Frame -> List Frame -> World -> Prop} {s : γ} {S : Nat -> Prop} {w₀ w : World} {Y : Env} {cs₀ : List Frame} {facts : List (B × Bool)} {np : Nat}
theorem da_mk {ops : Array Oper} {kd : Nat -> Nat} {fn : FuncId} {callers : List Fr} {k : List It} {qs stops : List FuncId} (n : Nat) {hl hl2 : Nat -> Bool} {ord rest : List Nat} {t0 t1 t2i t2 : List SV} {h0 h1 h2 : List HB} {i : Nat} {o : Oper} {t e : TypeId} {sz by_ : Nat} {z : List Value} {kl kc : IntKind} {N : E} {B : Nat}
  (hg1 : zd7 P (run P qs stops true n) facts np ops kd hl callers ord t0 h0 = .halt (i :: rest) t1 h1) (hg2 : zd7 P (run P qs stops true n) facts np ops kd hl2 callers rest t2i (h1 ++ [{ t:=e,cs:=[],row:=some (N,sz,B) }]) = .done t2 h2)
  (hkd : ∀ i o,ops[i]? = some o -> ((∃ t a x,o.op = .store t a x) \/ ∃ c : Call,o.op = .call { callee:=.builtin .append,args:=c.args,argTypes:=c.argTypes }) -> kd i = 2 \/ kd i = 3) (ho : ops[i]? = some o) (hk : kd i = 1) (hgd : guardOf facts ops t1 o = .yes)
  (hop : smk t1 o.op = some (t,.int kl N,.int kc N)) (hset : zgp t1 o.dst (.sl (.blk h1.length) N (.of h1.length sz)) = t2i) (hinfo : zj8 P t = some (e,sz,by_,z)) (hsz : (decide (0 < sz) && decide (z.length = sz)) = true)
  (hN0 : 0 <= N.den Y) (hNB : (N.den Y).toNat <= B) (hB : (decide (B * by_ <= 140737488355328) && decide (B <= 1000000000)) = true) (hsc : (scs h1.length t1 && zm5 h1.length callers && zcq h1.length h1) = true) (hrep : Rep X s S w₀ Y h0 facts np w)
  (K : ∀ Y' w',Ext Y Y' -> (Y'.blks.getD h1.length {}).pre = (List.replicate (N.den Y).toNat z).flatten /\ (Y'.blks.getD h1.length {}).post = [] /\ (Y'.blks.getD h1.length {}).cap = (N.den Y).toNat -> Rep X s S w₀ Y' h2 facts np w' -> Fr.reach P X Stop s cs₀ Y' ({ fn:=fn,tmps:=t2,todo:=k } :: callers) w') :
  Da P X fn ops kd (fun _ _ _ _=>False) (fun s a w=>Jay.Reach P X Stop s ((base fn).at a (k.map (It.den P Y fn))) (callers.map (Fr.den P Y) ++ cs₀) w) (fun _ _ _=>False) ord (zhl Y h0) (RepG X s S w₀ Y h0 facts np) { tmps:=(za3 Y t0).toArray,defers:=[] }:=by
 unfold zj8 at hinfo
 split at hinfo
 ·rename_i e' hu
  split at hinfo
  ·rename_i ti hi
   split at hinfo
   ·rename_i zv hz
    cases hinfo
    unfold smk at hop
    split at hop
    ·rename_i t' l c hop'
     simp only [Option.some.injEq,Prod.mk.injEq] at hop
     obtain ⟨rfl,h2,h3⟩:=hop
     simp only [Bool.and_eq_true,decide_eq_true_eq] at hsz hB
     refine da_make (ti:=ti) (z:=zv) (kl:=kl) (kc:=kc) n hg1 hg2 hkd ho hk hgd hop' h2 h3 hset hu hi hz hsz.1 (by simpa using hsz.2) hN0 hNB hB.1 hB.2 hsc hrep fun Y' w' hx hp hr=>K Y' w' hx ⟨?_,hp.2⟩ hr
     rw [hp.1,<- made_flat,hsz.2]
    ·cases hop
   ·cases hinfo
  ·cases hinfo
 ·cases hinfo
theorem sx_mk {fr : Fr} {callers : List Fr} {p : List Nat} {i : Nat} {todo : List Nat} {k : List It} {o : Oper} {h : List HB} {t e : TypeId} {sz by_ : Nat} {z : List Value} {kl kc : IntKind} {N : E} {B : Nat} (ht : fr.todo = .inRegion p (i :: todo) :: k) (ho : (za1 P fr.fn p)[i]? = some o) (hgd : guardOf facts (za1 P fr.fn p) fr.tmps o = .yes)
  (hop : smk fr.tmps o.op = some (t,.int kl N,.int kc N)) (hinfo : zj8 P t = some (e,sz,by_,z)) (hsz : (decide (0 < sz) && decide (z.length = sz)) = true) (hN0 : 0 <= N.den Y) (hNB : (N.den Y).toNat <= B) (hB : (decide (B * by_ <= 140737488355328) && decide (B <= 140737488355328)) = true) (hsc : (scs h.length fr.tmps && zm5 h.length callers && zcq h.length h) = true) (hrep : Rep X s S w₀ Y h facts np w)
  (K : ∀ Y' w',Ext Y Y' -> ((Y'.blks.getD h.length {}).pre = (List.replicate (N.den Y).toNat z).flatten /\ (Y'.blks.getD h.length {}).post = [] /\ (Y'.blks.getD h.length {}).cap = (N.den Y).toNat /\ (Y'.blks.getD h.length {}).g = w.heap.size) -> Rep X s S w₀ Y' (h ++ [{ t:=e,cs:=[],row:=some (N,sz,B) }]) facts np w' -> Fr.reach P X Stop s cs₀ Y' (fr.put o.dst (.sl (.blk h.length) N (.of h.length sz)) (.inRegion p todo :: k) :: callers) w') : Fr.reach P X Stop s cs₀ Y (fr :: callers) w:=by
 unfold zj8 at hinfo
 split at hinfo
 case h_2=>cases hinfo
 rename_i e' hu
 split at hinfo
 case h_2=>cases hinfo
 rename_i ti hi
 split at hinfo
 case h_2=>cases hinfo
 rename_i zv hz
 cases hinfo
 unfold smk at hop
 split at hop
 case h_2=>cases hop
 rename_i t' l c hop'
 simp only [Option.some.injEq,Prod.mk.injEq] at hop
 obtain ⟨rfl,hlv,hcv⟩:=hop
 simp only [Bool.and_eq_true,decide_eq_true_eq] at hsz hB hsc
 obtain ⟨⟨c0,c1⟩,c2⟩:=hsc
 have hn : h.length <= Y.blks.length:=Nat.le_of_eq hrep.len.symm
 have he:=zcz (Y:=Y) fr.tmps
 have hml : maxLen = 9223372036854775807:=rfl
 have hby : (N.den Y).toNat * ti.bytes <= 140737488355328:=Nat.le_trans (Nat.mul_le_mul_right _ hNB) hB.1
 have hmk:=run_make (P:=P) w t' e ti zv hu hi hz kl kc (N.den Y) (N.den Y) hN0 (Int.le_refl _) (by
  have h2 : (((N.den Y).toNat * ti.bytes : Nat) : Int) <= 140737488355328:=Int.ofNat_le.2 hby
  rw [Int.natCast_mul,Int.toNat_of_nonneg hN0,Int.mul_comm] at h2
  omega) (by omega)
 have hrun : (execOp (fr.act Y).eval o).run P w = .ok (.value (.slice (some ⟨w.heap.size,0,none⟩) (N.den Y).toNat (N.den Y).toNat)) (w.alloc (.cells (madeCells zv.cells ((N.den Y).toNat * ti.size)) e)):=by
  have hev1 : (fr.act Y).eval l = .int kl (N.den Y):=by rw [show (fr.act Y).eval l = _ from he l,hlv]; rfl
  have hev2 : (fr.act Y).eval c = .int kc (N.den Y):=by rw [show (fr.act Y).eval c = _ from he c,hcv]; rfl
  simp [execOp,hop',hev1,hev2,hmk,Result.andThen]
 have hmade : (madeCells zv.cells ((N.den Y).toNat * ti.size)).toList = (List.replicate (N.den Y).toNat zv.cells.toList).flatten:=by
  rw [<- made_flat,hsz.2]
 have hlenM : (madeCells zv.cells ((N.den Y).toNat * ti.size)).toList.length = (N.den Y).toNat * ti.size:=by rw [Array.length_toList,size_madeCells]
 have hr2:=hrep.grow c2 (r:=none) (w':=w.alloc (.cells (madeCells zv.cells ((N.den Y).toNat * ti.size)) e)) ⟨rfl,rfl,rfl,by rw [size_alloc]; omega,fun g hg _=>Below.heap_alloc w _ g hg⟩ (q:=⟨w.heap.size,0,(madeCells zv.cells ((N.den Y).toNat * ti.size)).toList.length,(madeCells zv.cells ((N.den Y).toNat * ti.size)).toList,[],(N.den Y).toNat,none⟩) (t:=e) (e:=N) (n:=ti.size) (N:=B) (ap:=none) hsz.1 (fun _ _ e=>by cases e) (fun g hg=>by cases hg) (.inr rfl) rfl rfl (by
   show Blk _ _ e (Seg.whole _ []).toArray
   simp only [Seg.whole,List.append_nil]
   exact Blk.new _ _ _) hlenM hNB (Nat.le_refl _) (by show (N.den Y).toNat <= maxLen; omega) (by show _ + 0 = _; rw [Nat.add_zero]; exact hlenM) rfl
 generalize hq : (⟨w.heap.size,0,(madeCells zv.cells ((N.den Y).toNat * ti.size)).toList.length,(madeCells zv.cells ((N.den Y).toNat * ti.size)).toList,[],(N.den Y).toNat,none⟩ : Seg) = q at hr2
 have hnp:=zir hrep q
 have hk:=K (Y.more [q] []) _ ⟨_,_,rfl⟩ (by rw [hnp,<- hq]; exact ⟨hmade,rfl,rfl,rfl⟩) hr2
 simp only [Fr.reach] at hk ⊢
 rw [zit fr p (i :: todo) k ht]
 refine zhf ho ((zey hrep.facts (za1 P fr.fn p) fr.tmps o).1 hgd) (zb3 (zay (by rw [hop']; rfl) _) hrep.there) hrun ?_
 have ev : Value.slice (some ⟨w.heap.size,0,none⟩) (N.den Y).toNat (N.den Y).toNat = (SV.sl (.blk h.length) N (.of h.length ti.size)).den (Y.more [q] []):=by
  simp only [SV.den,BA.den,Seg.adr,CP.den,hnp,zf8]
  rw [<- hq]
 rw [ev]
 rw [zhg,zgl _ hn _ c1,zka] at hk
 have hact : fr.act (Y.more [q] []) = fr.act Y:=by unfold Fr.act; rw [zai _ hn _ c0]
 rw [hact] at hk
 exact hk
def zfy (σ : Sub) (a p : St) : Prop:=p.frs.map (Fr.sub σ) = a.frs /\ zia σ.lens p.frs = true
theorem zd8 {σ : Sub} {a p : St} (hf : zfy σ a p) (hk : Fr.reach P X Stop s cs₀ (σ.env Y) p.frs w) : Fr.reach P X Stop s cs₀ Y a.frs w:=by
 obtain ⟨h1,h2⟩:=hf
 rw [<- h1]
 generalize p.frs = l at h2 hk
 cases l with
 | nil=>exact hk
 | cons f l=>
  have:=frs_sub (P:=P) (σ:=σ) (Y:=Y) (f :: l) (by rw [Sub.env_lens]; exact h2)
  simp only [List.map_cons,List.cons.injEq] at this
  simp only [Fr.reach,List.map_cons] at hk ⊢
  rw [this.1,this.2]
  exact hk
def zda (P : Program) (σ : Sub) (a p : St) : Prop:=(match run P [] [] false 1 a with | [b]=>some (b.frs,b.heap,b.facts,b.np) | _=>none) = some (p.frs.map (Fr.sub σ),a.heap,a.facts,a.np) /\ zia σ.lens p.frs = true
theorem zbh {σ : Sub} {a p : St} (hf : zda P σ a p) (hr : Rep X s S w₀ Y a.heap a.facts a.np w) (hk : ∀ Y' w',Ext Y Y' -> Rep X s S w₀ Y' a.heap a.facts a.np w' -> Fr.reach P X Stop s cs₀ (σ.env Y') p.frs w') : Fr.reach P X Stop s cs₀ Y a.frs w:=by
 obtain ⟨h1,h2⟩:=hf
 split at h1
 ·rename_i b hb
  simp only [Option.some.injEq,Prod.mk.injEq] at h1
  obtain ⟨e1,e2,e3,e4⟩:=h1
  exact zaa 1 (frs:=a.frs) (h:=a.heap) (facts:=a.facts) (np:=a.np) hb hr ⟨fun Y' w' hx hr'=>zd8 (σ:=σ) (a:=b) (p:=p) ⟨e1.symm,h2⟩ (hk Y' w' hx (by rw [<- e2,<- e3,<- e4]; exact hr')),trivial⟩
 ·cases h1
end
end
section
section
variable {P : Program} {γ : Type} {X : zad γ} {Stop : γ -> Frame -> List Frame -> World -> Prop} {s : γ} {S : Nat -> Prop} {w₀ w : World} {Y : Env} {cs₀ : List Frame} {facts : List (B × Bool)} {np : Nat}
def zmd (P : Program) (X : zad γ) (Stop : γ -> Frame -> List Frame -> World -> Prop) (f : FuncId) (cs₀ : List Frame) (s : γ) (v : Value) (w : World) : Prop:=
 ∀ (a : Act) (todo : List Item) (fn : Func),a.defers = [] -> P.funcs[f]? = some fn -> (results fn a.tmps).run P w = .ok v w -> Jay.Reach P X Stop s { (base f).at a todo with mode:=.returning } cs₀ w
theorem zhe {f : FuncId} {st : St} {v : SV} (he : zc6 P st = some v) (hfn : (st.frs.headD default).fn = f) (hr : HRep Y st.heap w) (hk : zmd P X Stop f cs₀ s (v.den Y) w) : Fr.reach P X Stop s cs₀ Y st.frs w:=by
 unfold zc6 at he
 split at he
 ·rename_i fr hfr
  rw [hfr] at hfn ⊢
  split at he
  ·rename_i hend
   obtain ⟨fn,hf,hres⟩:=zjz (P:=P) hr he
   have hfn : fr.fn = f:=hfn
   have hleave : ∀ todo,Jay.Reach P X Stop s { (base fr.fn).at (fr.act Y) todo with mode:=.returning } cs₀ w:=fun todo=>by
    rw [hfn]
    exact hk (fr.act Y) todo fn rfl (hfn ▸ hf) hres
   simp only [Fr.reach,List.map_nil,List.nil_append]
   unfold ended at hend
   show Jay.Reach P X Stop s ((base fr.fn).at (fr.act Y) (fr.todo.map (It.den P Y fr.fn))) cs₀ w
   split at hend
   ·rename_i ht
    rw [ht]
    exact .idle (fun _=>stepG_end) (hleave _)
   ·rename_i p k ht
    split at hend
    ·rename_i hc
     rw [ht,List.map_cons,It.den,zau hc]
     exact .idle (fun _=>stepG_ret') (hleave _)
    ·cases hend
   ·cases hend
  ·cases he
 ·cases he
def JdoT (P : Program) (X : zad γ) (f : FuncId) (args : Array Value) (s : γ) (w : World) (Post : γ -> Value -> World -> Prop) : Prop:=
 ∀ (Stop : γ -> Frame -> List Frame -> World -> Prop) (cs₀ : List Frame),(∀ s' v w',Post s' v w' -> X.there s' w' -> zmd P X Stop f cs₀ s' v w') -> X.there s w -> Jay.Reach P X Stop s (Frame.enter P f args .normal) cs₀ w
theorem sx_enterT {f : FuncId} {vals : Array Value} {args : List SV} {g : Fr} {Post : γ -> Value -> World -> Prop} (hg : fresh P f args = some g) (hv : (za3 Y args).toArray = vals)
  (h : ∀ (Stop : γ -> Frame -> List Frame -> World -> Prop) (cs₀ : List Frame),X.there s w -> (∀ s' v w',Post s' v w' -> X.there s' w' -> zmd P X Stop f cs₀ s' v w') -> Fr.reach P X Stop s cs₀ Y [g] w) : JdoT P X f vals s w Post:=by
 intro Stop cs hc ht
 obtain ⟨fn,b,hf,hb,hn,hden⟩:=zfk (Y:=Y) hg
 have:=h Stop cs ht hc
 simp only [Fr.reach,List.map_nil,List.nil_append] at this
 rw [hden,hv] at this
 exact this
theorem calls_of_t {f : FuncId} {args : Array Value} {Post : Unit -> Value -> World -> Prop} {R : Ending -> World -> Prop} (h : JdoT P alone f args () w Post) (hf : (P.funcs[f]?).isSome = true) (hR : ∀ v w',Post () v w' -> R (.returned v) w') : Calls P f args w R:=by
 intro cs
 have hr:=h (fun _ fr cs' w'=>cs' = cs /\ ∃ e,R e w' /\ fr.fn = f /\ fr.leaving P w' e /\ e ≠ .outgrown) cs (fun s' v w' hp _ a todo fn hd hfn hres=>.stop ⟨rfl,.returned v,hR v w' hp,rfl,⟨rfl,hd,rfl,fn,hfn,hres⟩,by simp⟩) (fun _ h=>h.elim)
 obtain ⟨fr',cs',w',⟨rfl,e,h1,h2,h3,h4⟩,hs⟩:=zm4 hr
 refine ⟨e,w',fr',h1,?_,h2,h3⟩
 cases e with
 | returned v=>exact hs
 | panicked ch=>exact hs
 | outgrown=>exact absurd rfl h4
end
end
end Go.Proofs.Ytonhfgjofgbcdaa.Sx
