/- A part of this claim's proof. -/
import Derived.Test.YtonhfgjofgbcdaaRws27
set_option linter.unusedSimpArgs false
set_option linter.unusedVariables false
set_option maxRecDepth 20000
namespace Go.Proofs.Ytonhfgjofgbcdaa.Dr
section
open Go Go.Conc Go.RowKit Jay Pl
open St Sx
structure Rm where
 th : Nat
 a : Ac
 done : Int
 over : Bool
def cnt (ms : List Rm) (t : Nat) : Nat:=ms.countP fun m=>m.th == t
def cnts (n : Nat) (ms : List Rm) : List Nat:=(List.range n).map (cnt ms)
theorem zkc (n : Nat) (ms : List Rm) : (cnts n ms).length = n:=by simp [cnts]
theorem cnts_at {n t : Nat} (ms : List Rm) (h : t < n) : (cnts n ms)[t]? = some (cnt ms t):=by simp [cnts,h]
theorem cnt_more (ms : List Rm) (m : Rm) (t : Nat) : cnt (ms ++ [m]) t = if m.th = t then cnt ms t + 1 else cnt ms t:=by
 unfold cnt
 rw [List.countP_append,List.countP_singleton]
 by_cases h : m.th = t <;> simp [h]
theorem cnts_more (n : Nat) (ms : List Rm) (m : Rm) (h : m.th < n) : (cnts n ms).set m.th (cnt ms m.th + 1) = cnts n (ms ++ [m]):=by
 apply List.ext_getElem?
 intro i
 rw [List.getElem?_set]
 by_cases hi : i < n
 ·rw [cnts_at (ms ++ [m]) hi,cnt_more]
  by_cases e : m.th = i
  ·subst e
   rw [if_pos rfl,if_pos (by rw [zkc]; exact hi),if_pos rfl]
  ·rw [if_neg e,if_neg e,cnts_at _ hi]
 ·rw [if_neg (by omega),List.getElem?_eq_none (by rw [zkc]; omega),List.getElem?_eq_none (by rw [zkc]; omega)]
theorem cnt_set (ms : List Rm) (i : Nat) (m m' : Rm) (h : ms[i]? = some m) (he : m'.th = m.th) (t : Nat) : cnt (ms.set i m') t = cnt ms t:=by
 unfold cnt
 induction ms generalizing i with
 | nil=>rfl
 | cons x ms ih=>
  cases i with
  | zero=>
   simp only [List.getElem?_cons_zero,Option.some.injEq] at h
   subst h
   simp only [List.set_cons_zero,List.countP_cons,he]
  | succ i=>
   simp only [List.set_cons_succ,List.countP_cons]
   rw [ih i (by simpa using h)]
section
variable {γ : Type} {X : zad γ}
structure RawI (Wb : World) (gA gL ga ca : Nat) (tA ta tL : TypeId) (l : List (List Ac)) (vL : Value) (s : γ) (X : zad γ) (F : Nat -> Prop) (w : World) (lst : List (Value × Rm)) : Prop where
 base : ∀ k,k < Wb.heap.size -> w.heap[k]? = Wb.heap[k]?
 size : Wb.heap.size <= w.heap.size
 A : Blk w gA tA #[.slice (some ⟨ga,0,none⟩) l.length ca]
 a : Blk w ga ta (Ns (cnts l.length (lst.map (·.2))))
 L : Blk w gL tL #[vL]
 f : F gA /\ F gL /\ F ga
 ne : gA ≠ ga /\ gL ≠ ga /\ Wb.heap.size <= ga
 oth : ∀ k,F k -> k < w.heap.size /\ ¬ X.oth s k
 fB : ∀ k,F k -> Wb.heap.size <= k
 each : ∀ (i : Nat) (v : Value) (m : Rm),lst[i]? = some (v,m) -> ∃ g,v = .pointer (some ⟨g,0,none⟩) /\ F g /\ g ≠ gA /\ g ≠ gL /\ g ≠ ga /\ Blk w g 84 (rawC m.a.d m.a.ar m.a.at_ m.a.old m.a.new m.done m.over)
 inj : ∀ (i j : Nat) (v : Value) (m m' : Rm),lst[i]? = some (v,m) -> lst[j]? = some (v,m') -> i = j
def zl4 (Wb : World) (gA gL ga ca : Nat) (tA ta tL : TypeId) (l : List (List Ac)) (vL : Value) (hl : Lls Wb Wb.heap.size vL l) : Fam X Rm where
 fb:=30
 capt:=[.pointer (some ⟨gA,0,none⟩),.pointer (some ⟨gL,0,none⟩)]
 base:=Wb.heap.size
 fbok:=⟨_,_,Try.func30,by kernel_rfl,rfl⟩
 I s F w lst:=RawI Wb gA gL ga ca tA ta tL l vL s X F w lst
 ini ms t _ _ _:=⟨t,(l.getD t []).getD (cnt ms t) ⟨0,0,0,0,0⟩,0,false⟩
 pre ms t:=∃ h : t < l.length,cnt ms t < l[t].length
 next m _ done:=(⟨m.th,m.a,if done = true then 1 else m.done,true⟩,m.a, !m.over)
 res m:=(0,m.done)
 bound:=fun h k hk=>(h.oth k hk).1
 keep:=fun {s F w lst w'} h hst hsz ht=>by
  have hk : ∀ g,F g -> w'.heap[g]? = w.heap[g]?:=fun g hg=>hst g (.inl hg)
  refine ⟨fun k hk=>(hst k (.inr hk)).trans (h.base k hk),Nat.le_trans h.size hsz,(hk _ h.f.1).trans h.A,(hk _ h.f.2.2).trans h.a,(hk _ h.f.2.1).trans h.L,h.f,h.ne,fun k hk=>⟨Nat.lt_of_lt_of_le (h.oth k hk).1 hsz,(h.oth k hk).2⟩,h.fB,fun i v m hi=>?_,h.inj⟩
  obtain ⟨g,e,hg,n1,n2,n3,hb⟩:=h.each i v m hi
  exact ⟨g,e,hg,n1,n2,n3,(hk g hg).trans hb⟩
 begin_ok:=fun {s F w lst} t kind val draw h hp=>by
  obtain ⟨htl,hn⟩:=hp
  have hlw : Lls w Wb.heap.size vL l:=hl.keep fun p hp=>World.cell?_of_block (h.base p.block hp)
  refine Jdo.there fun hth=>(rawBegin (draw:=draw) (kind:=kind) (val:=val) (t:=t) (n:=cnt (lst.map (·.2)) t) (xs:=l[t]) (x:=l[t][cnt (lst.map (·.2)) t]) (by rw [zkc]; exact h.A) h.a h.L hlw h.size h.ne.2.2 h.ne.1 h.ne.2.1 (List.getElem?_eq_getElem htl) (cnts_at _ htl) (List.getElem?_eq_getElem hn) (h.oth _ h.f.2.2).2).mono fun s' r w' ⟨hs,hc,ha',g,hg,hr,hgb⟩=>?_
  subst hs
  have hF' : ∀ k,F k -> k < w.heap.size:=fun k hk=>(h.oth k hk).1
  have hmd : (l.getD t []).getD (cnt (lst.map (·.2)) t) ⟨0,0,0,0,0⟩ = l[t][cnt (lst.map (·.2)) t]:=by
   simp [List.getD_eq_getElem?_getD,List.getElem?_eq_getElem htl,List.getElem?_eq_getElem hn]
  refine ⟨.pointer (some ⟨g,0,none⟩),fun k=>F k \/ k = g,hr,rfl,⟨fun k hk=>?_,Nat.le_trans h.size hc.size,h.A.chg hc h.ne.1,?_,h.L.chg hc h.ne.2.1,⟨.inl h.f.1,.inl h.f.2.1,.inl h.f.2.2⟩,h.ne,fun k hk=>?_,fun k hk=>?_,fun i v m hi=>?_,fun i j v m m' hi hj=>?_⟩,hc.mono fun k _ e=>e ▸ h.f.2.2,fun k hk=>?_,fun k _ hk=>hk⟩
  ·rw [hc.block k (by have:=h.size; omega) (by have:=h.ne.2.2; omega)]
   exact h.base k hk
  ·rw [List.map_append,List.map_cons,List.map_nil,<- cnts_more l.length (lst.map (·.2)) ⟨t,_,0,false⟩ htl]
   exact ha'
  ·rcases hk with hk | rfl
   ·exact ⟨Nat.lt_of_lt_of_le (hF' k hk) hc.size,(h.oth k hk).2⟩
   ·exact ⟨hgb.lt,fun ho=>by have:=hth _ ho; omega⟩
  ·rcases hk with hk | rfl
   ·exact h.fB k hk
   ·exact Nat.le_trans h.size hg
  ·by_cases hil : i < lst.length
   ·rw [List.getElem?_append_left hil] at hi
    obtain ⟨g',e,hg',n1,n2,n3,hb⟩:=h.each i v m hi
    exact ⟨g',e,.inl hg',n1,n2,n3,hb.chg hc n3⟩
   ·rw [List.getElem?_append_right (by omega)] at hi
    cases hz : i - lst.length with
    | zero=>
     rw [hz] at hi
     cases hi
     have:=hF' _ h.f.1
     have:=hF' _ h.f.2.1
     have:=hF' _ h.f.2.2
     refine ⟨g,rfl,.inr rfl,by omega,by omega,by omega,?_⟩
     rw [hmd]
     exact hgb
    | succ n=>rw [hz] at hi; cases hi
  ·have hold : ∀ (i : Nat) (v : Value) (m : Rm),lst[i]? = some (v,m) -> v ≠ .pointer (some ⟨g,0,none⟩):=fun i v m hi e=>by
    obtain ⟨g',e',hg',_⟩:=h.each i v m hi
    rw [e'] at e
    cases e
    have:=hF' _ hg'
    omega
   have hsp : ∀ (i : Nat) (v : Value) (m : Rm),(lst ++ [(Value.pointer (some ⟨g,0,none⟩),(⟨t,(l.getD t []).getD (cnt (lst.map (·.2)) t) ⟨0,0,0,0,0⟩,0,false⟩ : Rm))])[i]? = some (v,m) -> (lst[i]? = some (v,m)) \/ (i = lst.length /\ v = .pointer (some ⟨g,0,none⟩)):=fun i v m hi=>by
    by_cases hil : i < lst.length
    ·rw [List.getElem?_append_left hil] at hi; exact .inl hi
    ·rw [List.getElem?_append_right (by omega)] at hi
     cases hz : i - lst.length with
     | zero=>rw [hz] at hi; cases hi; exact .inr ⟨by omega,rfl⟩
     | succ n=>rw [hz] at hi; cases hi
   rcases hsp i v m hi with h1 | ⟨h1,h1'⟩
   ·rcases hsp j v m' hj with h2 | ⟨h2,h2'⟩
    ·exact h.inj i j v m m' h1 h2
    ·exact absurd h2' (hold i v m h1)
   ·rcases hsp j v m' hj with h2 | ⟨h2,h2'⟩
    ·exact absurd h1' (hold j v m' h2)
    ·omega
  ·rcases hk with hk | rfl
   ·exact .inl hk
   ·exact .inr hg
 next_ok:=fun {s F w lst} i v m was done h hi=>by
  obtain ⟨g,rfl,hg,n1,n2,n3,hb⟩:=h.each i v m hi
  have hil : i < lst.length:=(List.getElem?_eq_some_iff.1 hi).1
  refine (rawNext (was:=was) (done:=done) hb (h.oth g hg).2).mono fun s' r w' ⟨hs,hc,hb',hr⟩=>?_
  subst hs
  refine ⟨F,hr,⟨fun k hk=>?_,Nat.le_trans h.size hc.size,h.A.chg hc n1.symm,?_,h.L.chg hc n2.symm,h.f,h.ne,fun k hk=>⟨Nat.lt_of_lt_of_le (h.oth k hk).1 hc.size,(h.oth k hk).2⟩,h.fB,fun j v' m' hj=>?_,fun j k v' m' m'' hj hk=>?_⟩,hc.mono fun k _ e=>e ▸ hg,fun k hk=>.inl hk,fun k _ hk=>hk⟩
  ·rw [hc.block k (by have:=h.size; omega) (by have:=h.fB g hg; omega)]
   exact h.base k hk
  ·have e1 : cnts l.length ((lst.set i (.pointer (some ⟨g,0,none⟩),(⟨m.th,m.a,if done = true then 1 else m.done,true⟩ : Rm))).map (·.2)) = cnts l.length (lst.map (·.2)):=by
    unfold cnts
    apply List.map_congr_left
    intro t _
    rw [List.map_set]
    exact cnt_set (lst.map (·.2)) i m ⟨m.th,m.a,if done = true then 1 else m.done,true⟩ (by rw [List.getElem?_map,hi,Option.map_some]) rfl t
   rw [e1]
   exact h.a.chg hc n3.symm
  ·rw [List.getElem?_set] at hj
   simp only [hil,if_true] at hj
   split at hj
   ·rename_i e
    subst e
    cases hj
    exact ⟨g,rfl,hg,n1,n2,n3,hb'⟩
   ·rename_i e
    obtain ⟨g',e',hg',k1,k2,k3,hbb⟩:=h.each j v' m' hj
    refine ⟨g',e',hg',k1,k2,k3,hbb.chg hc fun e2=>e ?_⟩
    subst e2
    rw [e'] at hj
    exact h.inj i j _ _ _ hi hj
  ·have hget : ∀ (j : Nat) (v' : Value) (m' : Rm),(lst.set i (.pointer (some ⟨g,0,none⟩),(⟨m.th,m.a,if done = true then 1 else m.done,true⟩ : Rm)))[j]? = some (v',m') -> ∃ m0,lst[j]? = some (v',m0):=fun j v' m' hj=>by
    rw [List.getElem?_set] at hj
    simp only [hil,if_true] at hj
    split at hj
    ·rename_i e
     subst e
     cases hj
     exact ⟨m,hi⟩
    ·exact ⟨_,hj⟩
   obtain ⟨_,a1⟩:=hget j v' m' hj
   obtain ⟨_,a2⟩:=hget k v' m'' hk
   exact h.inj j k v' _ _ a1 a2
 res_ok:=fun {s F w lst} i v m h hi=>by
  obtain ⟨g,rfl,hg,n1,n2,n3,hb⟩:=h.each i v m hi
  exact rawResult hb
end
end
section
open Go Go.Conc Go.RowKit Jay Pl
open St Sx
structure Rw where
 at_ : List Nat
 mem : Mem
 steps : List Rp.Sp
def Ac.step (a : Ac) (t : Nat) (m : Mem) : Rp.Sp:=⟨t,a.d,a.ar,a.at_,a.old,a.new,(m.act a.d a.ar a.at_ a.old a.new).2.1,(m.act a.d a.ar a.at_ a.old a.new).2.2⟩
def nextA (l : List (List Ac)) (r : Rw) (t : Int) : Option Ac:=if t < 0 then none else match r.at_[t.toNat]?,l[t.toNat]? with
 | some n,some xs=>xs[n]?
 | _,_=>none
def Rw.does (r : Rw) (t : Nat) (a : Ac) : Rw:=⟨r.at_.set t (r.at_.getD t 0 + 1),(r.mem.act a.d a.ar a.at_ a.old a.new).1,r.steps ++ [a.step t r.mem]⟩
def Rw.pick (l : List (List Ac)) (r : Rw) (t : Int) : Rw:=match nextA l r t with
 | some a=>r.does t.toNat a
 | none=>r
def Rw.run (l : List (List Ac)) (r : Rw) (picks : List (Int × Int)) : Rw:=picks.foldl (fun r a=>r.pick l a.1) r
def Rw.first (l : List (List Ac)) (m : Mem) : Rw:=⟨List.replicate l.length 0,m,[]⟩
def callOf (i : Nat) (x : Rp.Sp) : Rc:=⟨x.th,0,0,i,i,0,if x.done = true then 1 else 0⟩
def zbi (l : List Rp.Sp) : List Rc:=l.zipIdx.map fun p=>callOf p.2 p.1
theorem zjb (l : List Rp.Sp) (x : Rp.Sp) : zbi (l ++ [x]) = zbi l ++ [callOf l.length x]:=by
 unfold zbi
 rw [List.zipIdx_append,List.map_append]
 simp
theorem zck (l : List Rp.Sp) : (zbi l).length = l.length:=by simp [zbi]
def nils (l : List (List Ac)) : List (List (Int × Int)):=l.map fun xs=>List.replicate xs.length (0,0)
theorem zk6 (l : List (List Ac)) : (nils l).length = l.length:=by simp [nils]
section
variable {γ : Type} {X : zad γ} {Wb : World} {gA gL ga ca : Nat} {tA ta tL : TypeId} {l : List (List Ac)} {vL : Value} (hl : Lls Wb Wb.heap.size vL l)
structure RawR (l : List (List Ac)) (R : Rr Rm) (r : Rw) : Prop where
 mem : R.mem = r.mem
 steps : R.steps = r.steps
 calls : R.calls = zbi r.steps
 len : R.ths.length = l.length
 alen : r.at_.length = l.length
 th : ∀ t (ht : t < l.length), ∃ y n,R.ths[t]? = some y /\ r.at_[t]? = some n /\ y.on = none /\ y.left = List.replicate (l[t].length - n) (0,0) /\ n <= l[t].length /\ cnt R.ms t = n
theorem RawR.first (m : Mem) : RawR l (Rr.fill (nils l) m (nils l).length) (Rw.first l m):=by
 have e : (Rr.fill (nils l) m (nils l).length : Rr Rm).ths = (nils l).map zix:=by
  show ((nils l).take (nils l).length).map zix ++ List.replicate ((nils l).length - (nils l).length) (zix []) = _
  simp
 refine ⟨rfl,rfl,rfl,?_,by simp [Rw.first],fun t ht=>?_⟩
 ·rw [e]; simp [nils]
 ·refine ⟨zix (List.replicate l[t].length (0,0)),0,?_,by simp [Rw.first,ht],rfl,rfl,Nat.zero_le _,rfl⟩
  rw [e]
  simp [nils,ht]
theorem RawR.pre {R : Rr Rm} {r : Rw} (h : RawR l R r) : ∀ (n : Nat) (y : Rt),R.ths[n]? = some y -> y.on = none -> y.left ≠ [] -> (zl4 (X:=X) Wb gA gL ga ca tA ta tL l vL hl).pre R.ms n:=by
 intro n y hy _ hne
 have hn : n < l.length:=by rw [<- h.len]; exact (List.getElem?_eq_some_iff.1 hy).1
 obtain ⟨y',k,hy',hk,_,hleft,hle,hc⟩:=h.th n hn
 rw [hy] at hy'
 cases hy'
 refine ⟨hn,?_⟩
 rw [hc]
 refine Nat.lt_of_le_of_ne hle fun e=>hne ?_
 rw [hleft,e,Nat.sub_self]
 rfl
theorem RawR.pick {R : Rr Rm} {r : Rw} (h : RawR l R r) (t d : Int) : RawR l (R.pick (zl4 (X:=X) Wb gA gL ga ca tA ta tL l vL hl) t d) (r.pick l t):=by
 unfold Rr.pick Rw.pick nextA
 by_cases ht : t < 0
 ·rw [if_pos ht,if_pos ht]; exact h
 rw [if_neg ht,if_neg ht]
 obtain ⟨n,rfl⟩ : ∃ n : Nat,t = n:=⟨t.toNat,by omega⟩
 rw [show ((n : Int)).toNat = n from rfl]
 by_cases hn : n < l.length
 ·obtain ⟨y,k,hy,hk,hon,hleft,hle,hc⟩:=h.th n hn
  rw [hy,hk,List.getElem?_eq_getElem hn]
  simp only [hon]
  by_cases hkl : k < l[n].length
  ·rw [List.getElem?_eq_getElem hkl]
   have hlc : y.left = (0,0) :: List.replicate (l[n].length - (k + 1)) (0,0):=by
    rw [hleft,show l[n].length - k = (l[n].length - (k + 1)) + 1 by omega]
    rfl
   rw [hlc]
   have hnl : n < R.ths.length:=by rw [h.len]; exact hn
   have hmd : (l.getD n []).getD (cnt R.ms n) ⟨0,0,0,0,0⟩ = l[n][k]:=by
    rw [hc]
    simp [List.getD_eq_getElem?_getD,List.getElem?_eq_getElem hn,List.getElem?_eq_getElem hkl]
   generalize hZ : zl4 (X:=X) Wb gA gL ga ca tA ta tL l vL hl = Z
   have hini : Z.ini R.ms n 0 0 d = ⟨n,l[n][k],0,false⟩:=by rw [<- hZ]; show Rm.mk n _ 0 false = _; rw [hmd]
   have hnx : ∀ (m : Rm) (was : Int) (done : Bool),Z.next m was done = (⟨m.th,m.a,if done = true then 1 else m.done,true⟩,m.a, !m.over):=fun m was done=>by rw [<- hZ]; rfl
   have hres : ∀ m,Z.res m = (0,m.done):=fun m=>by rw [<- hZ]; rfl
   have hb : Rr.begin_ Z R n y (0,0) d = { R with ths:=R.ths.set n { left:=List.replicate (l[n].length - (k + 1)) (0,0),on:=some R.ms.length,asks:=l[n][k],call:=R.calls.length },calls:=R.calls ++ [⟨n,0,0,R.steps.length, -1,0,0⟩],ms:=R.ms ++ [⟨n,l[n][k],0,true⟩] }:=by
    unfold Rr.begin_
    simp only [hini,hnx,hlc,List.drop_succ_cons,List.drop_zero]
    rfl
   simp only [hb]
   rw [List.getElem?_set_self hnl]
   have hme : (R.ms ++ [(⟨n,l[n][k],0,true⟩ : Rm)])[R.ms.length]? = some ⟨n,l[n][k],0,true⟩:=by simp
   simp only [hme]
   unfold Rr.go Rr.told Rr.ended Rr.act
   simp only [hnx,hres,Bool.not_true,Bool.false_eq_true,if_false]
   have hcn : (R.calls ++ [(⟨n,0,0,R.steps.length, -1,0,0⟩ : Rc)])[((R.calls.length : Int)).toNat]? = some ⟨n,0,0,R.steps.length, -1,0,0⟩:=by simp
   simp only [hcn]
   have hcs : (R.calls ++ [(⟨n,0,0,R.steps.length, -1,0,0⟩ : Rc)]).set ((R.calls.length : Int)).toNat { (⟨n,0,0,R.steps.length, -1,0,0⟩ : Rc) with to:=((R.steps ++ [(⟨n,l[n][k].d,l[n][k].ar,l[n][k].at_,l[n][k].old,l[n][k].new,(R.mem.act l[n][k].d l[n][k].ar l[n][k].at_ l[n][k].old l[n][k].new).2.1,(R.mem.act l[n][k].d l[n][k].ar l[n][k].at_ l[n][k].old l[n][k].new).2.2⟩ : Rp.Sp)]).length : Int) - 1,code:=0,out:=if (R.mem.act l[n][k].d l[n][k].ar l[n][k].at_ l[n][k].old l[n][k].new).2.2 = true then 1 else 0 } = zbi (r.steps ++ [l[n][k].step n r.mem]):=by
    rw [zjb,<- h.steps,<- h.mem,show ((R.calls.length : Int)).toNat = R.calls.length from rfl,List.set_append_right _ _ (Nat.le_refl _),Nat.sub_self,List.set_cons_zero]
    congr 1
    ·rw [h.calls,h.steps]
    ·unfold callOf Ac.step
     simp
   refine ⟨?_,?_,hcs,?_,?_,fun t ht=>?_⟩
   ·show (R.mem.act _ _ _ _ _).1 = (r.mem.act _ _ _ _ _).1
    rw [h.mem]
   ·show R.steps ++ [_] = r.steps ++ [_]
    unfold Ac.step
    rw [h.steps,h.mem]
   ·simp only [List.length_set]; exact h.len
   ·show (r.at_.set _ _).length = _
    rw [List.length_set]; exact h.alen
   ·have hms : ∀ t,cnt ((R.ms ++ [(⟨n,l[n][k],0,true⟩ : Rm)]).set R.ms.length ⟨n,l[n][k],if (R.mem.act l[n][k].d l[n][k].ar l[n][k].at_ l[n][k].old l[n][k].new).2.2 = true then 1 else 0,true⟩) t = if n = t then cnt R.ms t + 1 else cnt R.ms t:=fun t=>by
     refine (cnt_set _ _ ⟨n,l[n][k],0,true⟩ _ hme ?_ t).trans (cnt_more _ _ _)
     rfl
    by_cases e : n = t
    ·subst e
     refine ⟨{ left:=List.replicate (l[n].length - (k + 1)) (0,0),on:=none,asks:=l[n][k],call:=R.calls.length },k + 1,?_,?_,rfl,rfl,hkl,?_⟩
     ·simp only [List.set_set]
      exact List.getElem?_set_self hnl
     ·show (r.at_.set n (r.at_.getD n 0 + 1))[n]? = _
      rw [List.getElem?_set_self (by rw [h.alen]; exact hn),List.getD_eq_getElem?_getD,hk]
      rfl
     ·refine (hms n).trans ?_
      rw [if_pos rfl,hc]
    ·obtain ⟨y',n',h1,h2,h3,h4,h5,h6⟩:=h.th t ht
     refine ⟨y',n',?_,?_,h3,h4,h5,?_⟩
     ·simp only [List.set_set]
      rw [List.getElem?_set_ne e]
      exact h1
     ·show (r.at_.set n (r.at_.getD n 0 + 1))[t]? = _
      rw [List.getElem?_set_ne e]
      exact h2
     ·refine (hms t).trans ?_
      rw [if_neg e,h6]
  ·rw [List.getElem?_eq_none (by omega)]
   have : y.left = []:=by rw [hleft,show l[n].length - k = 0 by omega]; rfl
   rw [this]
   exact h
 ·rw [List.getElem?_eq_none (by rw [h.len]; omega),List.getElem?_eq_none (by rw [h.alen]; omega)]
  exact h
theorem RawR.run {R : Rr Rm} {r : Rw} (picks : List (Int × Int)) (h : RawR l R r) : RawR l (Rr.run (zl4 (X:=X) Wb gA gL ga ca tA ta tL l vL hl) R picks) (r.run l picks) /\ zm0 (zl4 (X:=X) Wb gA gL ga ca tA ta tL l vL hl) picks R:=by
 induction picks generalizing R r with
 | nil=>exact ⟨h,trivial⟩
 | cons a picks ih=>
  have h1:=h.pick (X:=X) (gA:=gA) (gL:=gL) (ga:=ga) (ca:=ca) (tA:=tA) (ta:=ta) (tL:=tL) hl a.1 a.2
  exact ⟨(ih h1).1,h.pre hl,(ih h1).2⟩
end
end
section
open Go Go.Conc Go.RowKit Jay Pl
open Sx
noncomputable def yeh : List HB:=[⟨61,[],false,none,none,none⟩]
noncomputable def yel : List SV:=[.c (.slice none 0 0),.c (.slice none 0 0),.int .u64 (.lit 0),.int .u64 (.lit 0)]
noncomputable def ye0 : List HB:=[⟨49,[],false,none,none,none⟩] ++ yeh ++ [⟨36,[Li 0,Li 1,Li 2,Li 3],true,none,none,none⟩,⟨47,[.sl (.blk 0) (.v 4) (.e (.v 5))],true,none,none,none⟩,⟨52,yel ++ yel ++ [.c (.slice none 0 0),.c (.slice none 0 0),.c (.slice none 0 0)],true,none,none,none⟩]
noncomputable def ye1 : List SV:=[.x 0,.x 1,.sl (.blk 0) (.v 2) (.e (.v 3)),.ptr 2 0,.ptr 3 0,.x 2,.ptr 4 0,.x 3,.sl (.blk 1) (.tn (.v 1)) (.of 1 1),.ptr 5 0]
noncomputable def ye9 : List SV:=[.agg [Li 0,Li 1,Li 2,Li 3],.sl (.blk 0) (.v 4) (.e (.v 5)),.sl (.blk 1) (.v 6) (.e (.v 7))]
noncomputable def ye2 : List SV:=ye9 ++ [.ptr 2 0,.ptr 3 0,u,.ptr 4 0,.int .i64 (.lit 0)]
noncomputable def ye3 : List HB:=[⟨36,[],false,none,none,none⟩,⟨47,[.sl (.blk 6) (.v 1) (.e (.v 4))],false,none,none,none⟩,⟨52,[],false,none,none,none⟩,⟨75,[],false,none,none,none⟩,⟨49,[.sl (.blk 7) (.v 5) (.e (.v 6))],false,some ((.v 0),1),none,none⟩,⟨27,[],false,none,none,none⟩]
noncomputable def ye4 : List SV:=[.bool (.cmp .lss (.v 0) (.tn (.v 1))),Li 0,.sl (.blk 1) (.tn (.v 1)) (.of 1 1),Li 0,.sl (.blk 6) (.v 1) (.e (.v 4)),Li 0,.ptr 6 0,.sl (.blk 7) (.v 5) (.e (.v 6)),.int .i64 (.tn (.v 5))]
noncomputable def ye5 : List SV:=[.sl (.blk 0) (.v 4) (.e (.v 5)),.int .i64 (.tn (.v 4))]
noncomputable def yeg : List SV:=[.agg [Li 4,Li 5,Li 6,Li 7],.sl (.blk 1) (.tn (.v 1)) (.of 1 1),.sl (.blk 0) (.v 2) (.e (.v 3)),.func 30 [] [.ptr 5 0,.ptr 3 0]]
noncomputable def ye6 : List SV:=ye1 ++ xr 4 8 ++ [.int .i64 (.tn (.v 1)),Li 0,.bool (.cmp .lss (.v 0) (.tn (.v 1)))] ++ xr 13 11 ++ yeg
noncomputable def ye7 : List Fr:=[⟨20,ye1 ++ xr 4 8 ++ [.int .i64 (.tn (.v 1)),Li 0] ++ xr 12 19,[.code (.at_ [0,0,1,0,3]),.inLoop (.at_ [0,0,1,0,3]),.inBlock 0,.code (.at_ [4])]⟩]
noncomputable def yef : List SV:=[.sl (.blk 5) (.tn (.v 4)) (.of 5 1)]
noncomputable def ye8 : List SV:=ye2 ++ yef ++ [u,u] ++ ye5 ++ yef ++ ye5
noncomputable def yea : List HB:=yeh ++ [⟨76,[],false,none,none,none⟩,⟨36,[Li 4,Li 5,Li 6,Li 7],false,none,none,none⟩,⟨47,[],false,none,none,none⟩,⟨52,[],false,none,none,none⟩,⟨75,[],false,none,none,none⟩]
noncomputable def yeb : List (B × Bool):=[((.cmp .lss (.v 0) (.tn (.v 1))),true),((.cmp .leq (.lit 0) (.v 0)),true)]
noncomputable def yec : List HB:=ye0 ++ [⟨76,[],true,none,some ((.tn (.v 4)),1,5864062014805),none⟩]
noncomputable def yed : List HB:=yeh ++ [⟨76,[.y 0],true,some ((.v 0),1),none,none⟩] ++ ye3
noncomputable def yee : List SV:=ye1 ++ [Li 0] ++ xr 5 7 ++ [.int .i64 (.tn (.v 1)),Li 0] ++ ye4
noncomputable def yei : List SV:=[.sl (.blk 6) (.tn (.v 4)) (.of 6 1)]
noncomputable def yej : List SV:=[.sl (.blk 8) (.tn (.v 5)) (.of 8 2)]
noncomputable def yek : List SV:=[.tup [.agg [.y 0,.y 1,.y 2,.y 3,.y 4,.y 5,.y 6,.y 7,.y 8,.y 9,.y 10],Li 0]]
noncomputable def ra_args : List SV:=ye9
noncomputable def ra_fr : Fr:=⟨20,ye9 ++ ur 36,[.code (.at_ [])]⟩
theorem ra_fresh : fresh Try.prog 20 ra_args = some ra_fr:=by kernel_rfl
noncomputable def raA_in : St:=⟨[⟨20,ye9 ++ ur 36,[.code (.at_ [])]⟩],[⟨49,[],false,none,none,none⟩] ++ yeh,[],0⟩
noncomputable def raA_0 : St:=⟨[⟨20,ye2 ++ ur 3 ++ ye5 ++ ur 26,[.inRegion [0,1] [2,3],.code (.at_ [2])]⟩],ye0,[],0⟩
theorem raA_run : run Try.prog [] [29] true 900 raA_in = [raA_0]:=by kernel_rfl
noncomputable def raA_op : Oper:=(za1 Try.prog 20 [0,1]).getD 2 default
theorem raA_at : (za1 Try.prog 20 [0,1])[2]? = some raA_op:=by kernel_rfl
noncomputable def raA_fr : Fr:=⟨20,ye2 ++ ur 3 ++ ye5 ++ ur 26,[.inRegion [0,1] [2,3],.code (.at_ [2])]⟩
theorem raA_gd : guardOf [] (za1 Try.prog 20 [0,1]) raA_fr.tmps raA_op = .yes:=by kernel_rfl
theorem raA_smk : smk raA_fr.tmps raA_op.op = some (74,.int .i64 (.tn (.v 4)),.int .i64 (.tn (.v 4))):=by kernel_rfl
theorem raA_info : zj8 Try.prog 74 = some (76,1,24,[(.slice none 0 0)]):=by kernel_rfl
noncomputable def raA_frb : Fr:=⟨20,ye2 ++ ur 3 ++ ye5 ++ yef ++ ur 25,[.inRegion [0,1] [3],.code (.at_ [2])]⟩
theorem raA_put : Fr.put raA_fr raA_op.dst (.sl (.blk 5) (.tn (.v 4)) (.of 5 1)) ([.inRegion [0,1] [3],.code (.at_ [2])]) = raA_frb:=by kernel_rfl
noncomputable def raB_in : St:=⟨[⟨20,ye2 ++ ur 3 ++ ye5 ++ yef ++ ur 25,[.inRegion [0,1] [3],.code (.at_ [2])]⟩],yec,[],0⟩
noncomputable def raB_0 : St:=⟨[⟨20,ye8 ++ ur 23,[.inRegion [0,2] [2,3,4],.code (.at_ [3])]⟩],yec,[],0⟩
theorem raB_run : run Try.prog [] [29] true 900 raB_in = [raB_0]:=by kernel_rfl
noncomputable def raB_op : Oper:=(za1 Try.prog 20 [0,2]).getD 2 default
theorem raB_at : (za1 Try.prog 20 [0,2])[2]? = some raB_op:=by kernel_rfl
noncomputable def raB_fr : Fr:=⟨20,ye8 ++ ur 23,[.inRegion [0,2] [2,3,4],.code (.at_ [3])]⟩
theorem raB_gd : guardOf [] (za1 Try.prog 20 [0,2]) raB_fr.tmps raB_op = .yes:=by kernel_rfl
theorem raB_smk : smk raB_fr.tmps raB_op.op = some (75,.int .i64 (.tn (.v 4)),.int .i64 (.tn (.v 4))):=by kernel_rfl
theorem raB_info : zj8 Try.prog 75 = some (3,1,8,[(.int .i64 0)]):=by kernel_rfl
noncomputable def raB_frb : Fr:=⟨20,ye8 ++ yei ++ ur 22,[.inRegion [0,2] [3,4],.code (.at_ [3])]⟩
theorem raB_put : Fr.put raB_fr raB_op.dst (.sl (.blk 6) (.tn (.v 4)) (.of 6 1)) ([.inRegion [0,2] [3,4],.code (.at_ [3])]) = raB_frb:=by kernel_rfl
noncomputable def raC_in : St:=⟨[⟨20,ye8 ++ yei ++ ur 22,[.inRegion [0,2] [3,4],.code (.at_ [3])]⟩],yec ++ [⟨3,[],true,none,some ((.tn (.v 4)),1,5864062014805),none⟩],[],0⟩
noncomputable def raC_0 : St:=⟨[⟨20,ye2 ++ yef ++ [.ptr 7 0,u] ++ ye5 ++ yef ++ ye5 ++ yei ++ ye5 ++ [.int .i64 (.lit 0)] ++ ur 19,[.code (.at_ [0,1,0,3]),.inBlock 0,.code (.at_ [4])]⟩],yec ++ [⟨3,[],true,none,some ((.tn (.v 4)),1,5864062014805),none⟩,⟨75,yei,true,none,none,none⟩],[],0⟩
theorem raC_run : run Try.prog [] [29] true 900 raC_in = [raC_0]:=by kernel_rfl
noncomputable def ra1 : St:=⟨ye7,[],[],0⟩
noncomputable def raE_sub : Sub:=⟨[(.lit 0),(.v 4),(.v 6),(.v 7)],[],[.agg [.int .i64 (.v 0),.int .i64 (.v 1),.int .i64 (.v 2),.int .i64 (.v 3)],.sl (.blk 0) (.v 4) (.e (.v 5)),u,.int .i64 (.lit 0),u,.sl (.blk 0) (.v 4) (.e (.v 5)),.int .i64 (.tn (.v 4)),.sl (.blk 5) (.tn (.v 4)) (.of 5 1),.sl (.blk 0) (.v 4) (.e (.v 5)),.int .i64 (.tn (.v 4)),.sl (.blk 6) (.tn (.v 4)) (.of 6 1),.sl (.blk 0) (.v 4) (.e (.v 5)),u,u,u,u,u,u,u,u,u,u,u,u,u,u,u,u,u,u,u],[],[1,5,2,3,4,7]⟩
theorem raE_head : zda Try.prog raE_sub raC_0 ra1:=⟨by kernel_rfl,by kernel_rfl⟩
noncomputable def raF_in : St:=⟨ye7,yed,yeb,0⟩
noncomputable def raF_0 : St:=⟨[⟨20,yee ++ xr 21 10,[.inRegion [1,0,0,2,0,0,1,0,3] [7,8,9],.inBlock 1,.code (.at_ [3,0,0,1,0,3]),.inLoop (.at_ [0,0,1,0,3]),.inBlock 0,.code (.at_ [4])]⟩],yed,yeb,0⟩
theorem raF_run : run Try.prog [] [29] true 900 raF_in = [raF_0]:=by kernel_rfl
noncomputable def raF_op : Oper:=(za1 Try.prog 20 [1,0,0,2,0,0,1,0,3]).getD 7 default
theorem raF_at : (za1 Try.prog 20 [1,0,0,2,0,0,1,0,3])[7]? = some raF_op:=by kernel_rfl
noncomputable def raF_fr : Fr:=⟨20,yee ++ xr 21 10,[.inRegion [1,0,0,2,0,0,1,0,3] [7,8,9],.inBlock 1,.code (.at_ [3,0,0,1,0,3]),.inLoop (.at_ [0,0,1,0,3]),.inBlock 0,.code (.at_ [4])]⟩
theorem raF_gd : guardOf raF_0.facts (za1 Try.prog 20 [1,0,0,2,0,0,1,0,3]) raF_fr.tmps raF_op = .yes:=by kernel_rfl
theorem raF_smk : smk raF_fr.tmps raF_op.op = some (76,.int .i64 (.tn (.v 5)),.int .i64 (.tn (.v 5))):=by kernel_rfl
theorem raF_info : zj8 Try.prog 76 = some (79,2,16,[(.int .i64 0),(.int .u32 0)]):=by kernel_rfl
noncomputable def raF_frb : Fr:=⟨20,yee ++ yej ++ xr 22 9,[.inRegion [1,0,0,2,0,0,1,0,3] [8,9],.inBlock 1,.code (.at_ [3,0,0,1,0,3]),.inLoop (.at_ [0,0,1,0,3]),.inBlock 0,.code (.at_ [4])]⟩
theorem raF_put : Fr.put raF_fr raF_op.dst (.sl (.blk 8) (.tn (.v 5)) (.of 8 2)) ([.inRegion [1,0,0,2,0,0,1,0,3] [8,9],.inBlock 1,.code (.at_ [3,0,0,1,0,3]),.inLoop (.at_ [0,0,1,0,3]),.inBlock 0,.code (.at_ [4])]) = raF_frb:=by kernel_rfl
noncomputable def raG_in : St:=⟨[⟨20,yee ++ yej ++ xr 22 9,[.inRegion [1,0,0,2,0,0,1,0,3] [8,9],.inBlock 1,.code (.at_ [3,0,0,1,0,3]),.inLoop (.at_ [0,0,1,0,3]),.inBlock 0,.code (.at_ [4])]⟩],yed ++ [⟨79,[],true,none,some ((.tn (.v 5)),2,8796093022207),none⟩],yeb,0⟩
noncomputable def raG_0 : St:=⟨[⟨20,ye1 ++ [Li 0] ++ xr 5 7 ++ [.int .i64 (.tn (.v 1)),.int .i64 (.ar .add .i64 (.v 0) (.lit 1))] ++ ye4 ++ yej ++ [.ptr 1 0,.int .i64 (.ar .add .i64 (.v 0) (.lit 1))] ++ xr 24 7,[.inLoop (.at_ [0,0,1,0,3]),.inBlock 0,.code (.at_ [4])]⟩],yeh ++ [⟨76,yej,true,some ((.v 0),1),none,none⟩] ++ ye3 ++ [⟨79,[],true,none,some ((.tn (.v 5)),2,8796093022207),none⟩],yeb,0⟩
theorem raG_run : run Try.prog [] [29] true 900 raG_in = [raG_0]:=by kernel_rfl
noncomputable def raG0_sub : Sub:=⟨[(.ar .add .i64 (.v 0) (.lit 1)),(.v 1),(.v 2),(.v 3)],[],[.x 0,.x 1,.x 2,.x 3,.int .i64 (.v 0),.x 5,.x 6,.x 7,.x 8,.x 9,.x 10,.x 11,.bool (.cmp .lss (.v 0) (.tn (.v 1))),.int .i64 (.v 0),.sl (.blk 1) (.tn (.v 1)) (.of 1 1),.int .i64 (.v 0),.sl (.blk 6) (.v 1) (.e (.v 4)),.int .i64 (.v 0),.ptr 6 0,.sl (.blk 7) (.v 5) (.e (.v 6)),.int .i64 (.tn (.v 5)),.sl (.blk 8) (.tn (.v 5)) (.of 8 2),.ptr 1 0,.int .i64 (.ar .add .i64 (.v 0) (.lit 1)),.x 24,.x 25,.x 26,.x 27,.x 28,.x 29,.x 30],[],[0,1,2,3,4,5]⟩
theorem raG0_head : zda Try.prog raG0_sub raG_0 ra1:=⟨by kernel_rfl,by kernel_rfl⟩
noncomputable def raH_in : St:=⟨ye7,yea,[((.cmp .lss (.v 0) (.tn (.v 1))),false)],0⟩
noncomputable def raH_0 : St:=⟨[⟨20,ye6 ++ xr 28 3,[.inRegion [0,4] [4,5,6,7,8],.code (.at_ [5])]⟩],yea,[((.cmp .lss (.v 0) (.tn (.v 1))),false)],0⟩
theorem raH_run : run Try.prog [] [29] true 900 raH_in = [raH_0]:=by kernel_rfl
noncomputable def raH_op : Oper:=(za1 Try.prog 20 [0,4]).getD 4 default
theorem raH_at : (za1 Try.prog 20 [0,4])[4]? = some raH_op:=by kernel_rfl
noncomputable def raH_fr : Fr:=⟨20,ye6 ++ xr 28 3,[.inRegion [0,4] [4,5,6,7,8],.code (.at_ [5])]⟩
theorem raH_gd : guardOf raH_0.facts (za1 Try.prog 20 [0,4]) raH_fr.tmps raH_op = .yes:=by kernel_rfl
noncomputable def znv : List SV:=yeg
theorem raH_call : zc1 Try.prog raH_fr.tmps raH_op.op = some (29,znv):=by kernel_rfl
theorem raH_fresh : (fresh Try.prog 29 znv).isSome = true:=by kernel_rfl
noncomputable def raH_frb : Fr:=⟨20,ye6 ++ [.tup [.agg [.y 0,.y 1,.y 2,.y 3,.y 4,.y 5,.y 6,.y 7,.y 8,.y 9,.y 10],Li 8],.x 29,.x 30],[.inRegion [0,4] [5,6,7,8],.code (.at_ [5])]⟩
theorem raH_put : Fr.put raH_fr raH_op.dst (.tup [.agg [.y 0,.y 1,.y 2,.y 3,.y 4,.y 5,.y 6,.y 7,.y 8,.y 9,.y 10],.int .i64 (.v 8)]) ([.inRegion [0,4] [5,6,7,8],.code (.at_ [5])]) = raH_frb:=by kernel_rfl
noncomputable def zj0 : St:=⟨[⟨20,xr 0 6 ++ [.ptr 0 0] ++ xr 6 29 ++ yek ++ [.x 35,.x 36],[.inRegion [0,4] [5,6,7,8],.code (.at_ [5])]⟩],[⟨52,[.y 11,.y 12,.y 13,.y 14,.y 15,.y 16,.y 17,.y 18,.y 19,.y 20,.y 21],true,none,none,none⟩],[],0⟩
noncomputable def raK_0 : St:=⟨[⟨20,xr 0 6 ++ [.ptr 0 0,Li 0] ++ xr 7 28 ++ yek ++ [.agg [.y 0,.y 1,.y 2,.y 3,.y 4,.y 5,.y 6,.y 7,.y 8,.y 9,.y 10],Li 0],[.code (.at_ [5])]⟩],[⟨52,[.y 0,.y 1,.y 2,.y 3,.y 4,.y 5,.y 6,.y 7,.y 8,.y 9,.y 10],true,none,none,none⟩],[],0⟩
theorem raK_0_end : zc6 Try.prog raK_0 = some (.tup [.agg [.y 0,.y 1,.y 2,.y 3,.y 4,.y 5,.y 6,.y 7,.y 8,.y 9,.y 10],.int .i64 (.v 0)]):=by kernel_rfl
theorem raK_run : run Try.prog [] [29] true 900 zj0 = [raK_0]:=by kernel_rfl
noncomputable def zff : Sub:=⟨[(.v 8)],[],[.x 0,.x 1,.sl (.blk 0) (.v 2) (.e (.v 3)),.ptr 2 0,.ptr 3 0,.x 2,.x 3,.sl (.blk 1) (.tn (.v 1)) (.of 1 1),.ptr 5 0,.x 4,.x 5,.x 6,.x 7,.x 8,.x 9,.x 10,.x 11,.int .i64 (.tn (.v 1)),.int .i64 (.v 0),.bool (.cmp .lss (.v 0) (.tn (.v 1))),.x 13,.x 14,.x 15,.x 16,.x 17,.x 18,.x 19,.x 20,.x 21,.x 22,.x 23,.agg [.int .i64 (.v 4),.int .i64 (.v 5),.int .i64 (.v 6),.int .i64 (.v 7)],.sl (.blk 1) (.tn (.v 1)) (.of 1 1),.sl (.blk 0) (.v 2) (.e (.v 3)),.func 30 [] [.ptr 5 0,.ptr 3 0],.x 29,.x 30],[.y 0,.y 1,.y 2,.y 3,.y 4,.y 5,.y 6,.y 7,.y 8,.y 9,.y 10],[4]⟩
theorem raHp_fits : zfy zff ⟨[raH_frb],[],[],0⟩ zj0:=⟨by kernel_rfl,by kernel_rfl⟩
end
section
open Go Go.Conc Go.RowKit Jay Pl
open St Sx
theorem zOps_flat (n : Nat) : (List.replicate n [Value.int .i64 0,.int .u32 0]).flatten = (List.replicate n ((0 : Int),(0 : Int))).flatMap opC:=by
 induction n with
 | zero=>rfl
 | succ n ih=>rw [List.replicate_succ,List.replicate_succ,List.flatten_cons,List.flatMap_cons,ih]; rfl
theorem zInts_flat (n : Nat) : (List.replicate n [Value.int .i64 0]).flatten.toArray = Ns (List.replicate n 0):=by
 unfold Ns
 congr 1
 induction n with
 | zero=>rfl
 | succ n ih=>rw [List.replicate_succ,List.replicate_succ,List.flatten_cons,List.map_cons,ih]; rfl
theorem zNil_flat (n : Nat) : (List.replicate n [Value.slice none 0 0]).flatten = List.replicate n (.slice none 0 0):=by
 induction n with
 | zero=>rfl
 | succ n ih=>rw [List.replicate_succ,List.replicate_succ,List.flatten_cons,ih]; rfl
theorem cnts_nil (n : Nat) : cnts n [] = List.replicate n 0:=by
 unfold cnts
 rw [show cnt [] = fun _=>0 by funext t; rfl,List.map_const',List.length_range]
section
variable {γ : Type} {X : zad γ} {Stop : γ -> Frame -> List Frame -> World -> Prop} {c : Frame} {cs : List Frame}
structure RwL (X : zad γ) (s : γ) (W w : World) (k K T Mn : Int) (l : List (List Ac)) (vL : Value) (gO ga gA gL gC gG ca t : Nat) (vals : List Value) : Prop where
 bel : Below W.heap.size W w
 O : Blk w gO 76 vals.toArray
 len : vals.length = l.length
 one : ∀ u ∈ vals,u.oneCell' = true
 a : Blk w ga 3 (Ns (List.replicate l.length 0))
 A : Blk w gA 75 #[.slice (some ⟨ga,0,none⟩) l.length ca]
 L : Blk w gL 47 #[vL]
 C : Blk w gC 36 #[.int .i64 k,.int .i64 K,.int .i64 T,.int .i64 Mn]
 G : Blk w gG 52 zTr.toArray
 new : ∀ g ∈ [gO,ga,gA,gL,gC,gG],W.heap.size <= g /\ g < w.heap.size /\ ¬ X.oth s g
 nd : [gO,ga,gA,gL,gC,gG].Nodup
 done : ∀ i (hi : i < l.length),i < t -> ∃ g,vals[i]? = some (.slice (some ⟨g,0,none⟩) l[i].length l[i].length) /\ W.heap.size <= g /\ g < w.heap.size /\ g ∉ [gO,ga,gA,gL,gC,gG] /\ Sl w w.heap.size 2 (.slice (some ⟨g,0,none⟩) l[i].length l[i].length) l[i].length ((List.replicate l[i].length ((0 : Int),(0 : Int))).flatMap opC)
def Okw (k K T Mn : Int) (l : List (List Ac)) (picks : List (Int × Int)) : Prop:=zea k K T Mn = true /\ (l.length : Int) = T /\ picks.length <= 20000 /\ ∀ xs ∈ l,xs.length <= 1000
def zcf (k K T Mn : Int) (l : List (List Ac)) (picks : List (Int × Int)) : Rw:=(Rw.first l (Rp.firstM k K T Mn)).run l picks
def ziv (X : zad γ) (s : γ) (W : World) (k K T Mn : Int) (l : List (List Ac)) (picks : List (Int × Int)) (s' : γ) (r : zf9) (w' : World) : Prop:=
 Below W.heap.size W w' /\ (∀ k,k < W.heap.size -> X.oth s' k -> X.oth s k) /\ ((Okw k K T Mn l picks /\ ∃ (vS vC : Value) (cE : Array Value),r = .back (.tuple #[.agg (#[vS,vC] ++ cE),.int .i64 0]) /\ Rp.Sps w' w'.heap.size vS (zcf k K T Mn l picks).steps /\ Sl w' w'.heap.size 7 vC (zbi (zcf k K T Mn l picks).steps).length ((zbi (zcf k K T Mn l picks).steps).flatMap Rc.cells) /\ zbb w' w'.heap.size (zcf k K T Mn l picks).mem cE /\ (zcf k K T Mn l picks).mem.small /\ ∀ g,g < W.heap.size -> OffS g vS /\ OffS g vC /\ Off g cE) \/
  (¬ Okw k K T Mn l picks /\ r = .back badV))
theorem okw_okr {k K T Mn : Int} {l : List (List Ac)} {picks : List (Int × Int)} : Okr k K T Mn (nils l) picks ↔ Okw k K T Mn l picks:=by
 unfold Okr Okw
 rw [zk6]
 constructor
 ·rintro ⟨h1,h2,h3,h4⟩
  refine ⟨h1,h2,h3,fun xs hx=>?_⟩
  have:=h4 (List.replicate xs.length (0,0)) (List.mem_map.2 ⟨xs,hx,rfl⟩)
  simpa using this
 ·rintro ⟨h1,h2,h3,h4⟩
  refine ⟨h1,h2,h3,fun xs hx=>?_⟩
  obtain ⟨ys,hy,rfl⟩:=List.mem_map.1 hx
  simpa using h4 ys hy
theorem preAll_with {M : Type} {Z : Fam X M} {g : Nat} {t : TypeId} {arr : Array Value} {l : List (Int × Int)} {R : Rr M} (h : zm0 Z l R) : zm0 (Z.with_ g t arr) l R:=by
 induction l generalizing R with
 | nil=>trivial
 | cons a l ih=>exact ⟨h.1,ih h.2⟩
theorem rawEnd {s : γ} {W w : World} {k K T Mn : Int} {l : List (List Ac)} {vL : Value} {gO ga gA gL gC gG ca t : Nat} {vals : List Value} {picks : List (Int × Int)} {A : Option Addr} {cP : Nat} {Y : Env} {q0 q1 q2 q3 q4 q5 : Seg} (hm : RwL X s W w k K T Mn l vL gO ga gA gL gC gG ca t vals) (hL : Lls W W.heap.size vL l) (hth : X.there s w) (hlm : l.length <= maxLen) (hP : Sl W W.heap.size 2 (.slice A picks.length cP) picks.length (picks.flatMap pkC)) (hW : 0 < W.heap.size)
  (hd : Hd Y [(t : Int),(l.length : Int),(picks.length : Int),(cP : Int)] 31 [q0,q1,q2,q3,q4,q5]) (ht : t = l.length) (h0 : q0.adr = A /\ q0.g < w.heap.size) (h1 : q1.g = gO /\ q1.adr = some ⟨gO,0,none⟩) (h2 : Whl q2 gC) (h3 : Whl q3 gL) (h4 : Whl q4 gG) (h5 : Whl q5 gA)
  (hback : ∀ s' v w',ziv X s W k K T Mn l picks s' (.back v) w' -> X.there s' w' -> Jay.Reach Try.prog X Stop s' (c.finish v) cs w') : Fr.reach Try.prog X Stop s (c :: cs) Y ra1.frs w:=by
 obtain ⟨xs,hxs,rfl⟩:=hd.of
 obtain ⟨g2,b2,o2,pre2,post2,cap2,ad2⟩:=q2
 obtain ⟨g3,b3,o3,pre3,post3,cap3,ad3⟩:=q3
 obtain ⟨g4,b4,o4,pre4,post4,cap4,ad4⟩:=q4
 obtain ⟨g5,b5,o5,pre5,post5,cap5,ad5⟩:=q5
 obtain ⟨rfl,rfl,rfl,rfl⟩ : g2 = _ /\ o2 = _ /\ pre2 = _ /\ post2 = _:=h2
 obtain ⟨rfl,rfl,rfl,rfl⟩ : g3 = _ /\ o3 = _ /\ pre3 = _ /\ post3 = _:=h3
 obtain ⟨rfl,rfl,rfl,rfl⟩ : g4 = _ /\ o4 = _ /\ pre4 = _ /\ post4 = _:=h4
 obtain ⟨rfl,rfl,rfl,rfl⟩ : g5 = _ /\ o5 = _ /\ pre5 = _ /\ post5 = _:=h5
 have nO:=hm.new gO (by simp)
 have na:=hm.new ga (by simp)
 have nA:=hm.new g5 (by simp)
 have nL:=hm.new g3 (by simp)
 have nC:=hm.new g2 (by simp)
 have nG:=hm.new g4 (by simp)
 have hnd:=hm.nd
 simp only [List.nodup_cons,List.mem_cons,List.not_mem_nil,or_false,not_or,not_false_eq_true,List.nodup_nil,and_true] at hnd
 generalize hY0 : (⟨[(t : Int),(l.length : Int),(picks.length : Int),(cP : Int)],[],xs,[],[q0,q1,⟨g2,b2,0,[],[],cap2,ad2⟩,⟨g3,b3,0,[],[],cap3,ad3⟩,⟨g4,b4,0,[],[],cap4,ad4⟩,⟨g5,b5,0,[],[],cap5,ad5⟩],[]⟩ : Env) = Y0
 have hl0 : Y0.lens = ⟨4,0,31,0,6⟩:=by rw [<- hY0]; simp [Env.lens,hxs]
 refine zak (L:=⟨4,0,31,0,6⟩) (ai:=[k,K,T,Mn]) (ab:=[]) (ax:=[]) (ay:=[]) (ak:=[]) hl0 (by kernel_rfl) ?_
 generalize hY : Env.grow _ _ _ _ _ _ = Y
 have hr : Rep X s (ours Y raH_in.heap) w Y raH_in.heap raH_in.facts 0 w:=by
  refine Rep.start hth (by rw [<- hY,<- hY0]; intro v hv; cases hv) (by rw [<- hY,<- hY0]; rfl) ⟨kn ?_,kn ?_,⟨?_,zb8 rfl ?_,trivial,trivial,rfl⟩,kn ?_,kn ?_,kn ?_,trivial⟩
   (nd_ro rfl) (za5 ⟨?_,trivial⟩) (by rw [<- hY,<- hY0]; rfl)
  all_goals subst hY; subst hY0
  ·exact h0.2
  ·show q1.g < _
   rw [h1.1]; exact nO.2.1
  ·exact nC.2.1
  ·exact zaz hm.C rfl rfl
  ·exact nL.2.1
  ·exact nG.2.1
  ·exact nA.2.1
  ·exact decide_eq_false (by show ¬ (t : Int) < ((l.length : Int).toNat : Int); omega)
 refine zaa 900 raH_run hr ⟨fun Y1 w1 hx1 hr1=>?_,trivial⟩
 have hb1 : Below w.heap.size w w1:=hr1.chg.below (fun k hk=>absurd hk (zah rfl k)) (Nat.le_refl _)
 have hi1 : Y1.ints = [(t : Int),(l.length : Int),(picks.length : Int),(cP : Int),k,K,T,Mn]:=by rw [hx1.ints,<- hY,<- hY0]; rfl
 have hbl : Y.blks.length = 6:=by rw [<- hY,<- hY0]; rfl
 have hk1 : ∀ i,i < 6 -> Y1.blks.getD i {} = Y.blks.getD i {}:=fun i hi=>hx1.blk (by omega)
 show Fr.reach _ X Stop s (c :: cs) Y1 [raH_fr] w1
 have hsz1:=hb1.size
 have hbW : Below W.heap.size W w1:=hm.bel.trans (hb1.mono hm.bel.size)
 let Z0 : Fam X Rm:=zl4 W g5 g3 ga ca 75 3 47 l vL hL
 have hRI : RawI W g5 g3 ga ca 75 3 47 l vL s X (fun k=>k = g5 \/ k = g3 \/ k = ga) w1 []:=by
  refine ⟨fun k hk=>hbW.block k hk,hbW.size,hm.A.below hb1 nA.2.1,?_,hm.L.below hb1 nL.2.1,⟨.inl rfl,.inr (.inl rfl),.inr (.inr rfl)⟩,⟨by omega,by omega,na.1⟩,fun k hk=>?_,fun k hk=>?_,fun i v m hi=>(by cases hi),fun i j v m m' hi=>(by cases hi)⟩
  ·show Blk w1 ga _ (Ns (cnts l.length []))
   rw [cnts_nil]
   exact hm.a.below hb1 na.2.1
  ·rcases hk with rfl | rfl | rfl
   ·exact ⟨by omega,nA.2.2⟩
   ·exact ⟨by omega,nL.2.2⟩
   ·exact ⟨by omega,na.2.2⟩
  ·rcases hk with rfl | rfl | rfl
   ·exact nA.1
   ·exact nL.1
   ·exact na.1
 have hI : (Z0.with_ g4 52 zTr.toArray).I s (fun k=>(k = g5 \/ k = g3 \/ k = ga) \/ k = g4) w1 []:=
  ⟨fun k=>k = g5 \/ k = g3 \/ k = ga,hRI,fun k=>Iff.rfl,hm.G.below hb1 nG.2.1,(by show ¬ (g4 = g5 \/ g4 = g3 \/ g4 = ga); omega),nG.2.2⟩
 have hO : Ols w1 w1.heap.size gO 0 (nils l) (fun g=>¬ ((g = g5 \/ g = g3 \/ g = ga) \/ g = g4)):=by
  refine ⟨by omega,fun i hi=>?_⟩
  have hi' : i < l.length:=by rw [zk6] at hi; exact hi
  have hni : (nils l)[i] = List.replicate l[i].length (0,0):=by simp [nils]
  obtain ⟨g,hv,d1,d2,d3,d4⟩:=hm.done i hi' (by omega)
  refine ⟨g,0,l[i].length,?_,by omega,fun hg=>?_,?_⟩
  ·rw [hb1.cell (p:=⟨gO,0 + i,none⟩) nO.2.1,hm.O.cell,Nat.zero_add,List.getElem?_toArray,hv,hni,List.length_replicate]
  ·refine d3 ?_
   rcases hg with (rfl | rfl | rfl) | rfl <;> simp
  ·rw [hni,List.length_replicate]
   exact (d4.below hb1).more hsz1
 have hfirst:=RawR.first (l:=l) (Rp.firstM k K T Mn)
 have hrun:=hfirst.run (X:=X) (gA:=g5) (gL:=g3) (ga:=ga) (ca:=ca) (tA:=75) (ta:=3) (tL:=47) hL picks
 have hRok:=run_ok (Z:=Z0.with_ g4 52 zTr.toArray) (s₀:=s) (w₀:=W) (cl:=q1.cap) (k:=k) (K:=K) (T:=T) (Mn:=Mn) hI hbW (fun k _ h=>h) ⟨fun k hk=>by
  rcases hk with (rfl | rfl | rfl) | rfl
  ·exact nA.1
  ·exact nL.1
  ·exact na.1
  ·exact nG.1,Nat.le_refl _⟩ hO hP hW (by rw [zk6]; exact hlm) (fun _=>preAll_with hrun.2)
 refine zc7 (fr:=raH_fr) (callers:=[]) (ht:=rfl) raH_at raH_gd raH_call raH_fresh hr1 (Post:=RunPost (Z0.with_ g4 52 zTr.toArray) s W s w1 k K T Mn (nils l) picks) ?_ (fun s' v w2 hp ht2=>?_) (fun s' ch w' hp _=>by rcases hp with ⟨_,_,_,e,_⟩ | ⟨_,_,_,e⟩ <;> cases e)
 ·have e : (za3 Y1 znv).toArray = #[cfg k K T Mn,.slice (some ⟨gO,0,none⟩) (nils l).length q1.cap,.slice A picks.length cP,fbV (Z0.with_ g4 52 zTr.toArray)]:=by
   show #[Value.agg #[.int .i64 (Y1.ints.getD 4 0),.int .i64 (Y1.ints.getD 5 0),.int .i64 (Y1.ints.getD 6 0),.int .i64 (Y1.ints.getD 7 0)],.slice (Y1.blks.getD 1 {}).adr (((Y1.ints.getD 1 0).toNat : Int)).toNat (Y1.blks.getD 1 {}).cap,.slice (Y1.blks.getD 0 {}).adr (Y1.ints.getD 2 0).toNat (Y1.ints.getD 3 0).toNat,.func (.func 30) #[] #[.pointer (some ⟨(Y1.blks.getD 5 {}).g,(Y1.blks.getD 5 {}).o + 0,none⟩),.pointer (some ⟨(Y1.blks.getD 3 {}).g,(Y1.blks.getD 3 {}).o + 0,none⟩)]] = _
   rw [hi1,hk1 0 (by decide),hk1 1 (by decide),hk1 3 (by decide),hk1 5 (by decide),<- hY,<- hY0]
   show #[cfg k K T Mn,.slice q1.adr l.length q1.cap,.slice q0.adr picks.length cP,_] = _
   rw [h1.2,h0.1,zk6]
   rfl
  rw [e]
  exact hRok
 ·-- what came back
  obtain ⟨vs,code,ev,hvl,hvone,hGb,hGlt,hGo,hgoal⟩ : ∃ (vs : List Value) (code : Int),v = .tuple #[.agg vs.toArray,.int .i64 code] /\ vs.length = 11 /\ (∀ u ∈ vs,u.oneCell' = true) /\ Blk w2 g4 52 zTr.toArray /\ g4 < w2.heap.size /\ ¬ X.oth s' g4 /\ ∀ w',Chg (fun k=>k = g4) w2 w' -> X.there s' w' -> ziv X s W k K T Mn l picks s' (.back v) w':=by
   rcases hp with ⟨hok,F',p',ev,hrw⟩ | ⟨hnok,rfl,hbel,ev⟩
   ·cases ev
    have hne:=kept_ne hrw
    obtain ⟨F1,hfree,hGb⟩:=hrw.free
    obtain ⟨v2,v3,v6,v7,v8,hcE,u2,u3,u6,u7,u8⟩:=hrw.side.mem
    have dG:=hfree.side.dis g4 (.inr (.inr (.inr (.inr (List.mem_cons_self ..)))))
    refine ⟨[p'.vS,p'.vC] ++ p'.cE.toList,0,?_,?_,?_,hGb,dG.2.2.1,dG.2.1,fun w' hc' ht'=>?_⟩
    ·unfold outV
     rw [show #[p'.vS,p'.vC] ++ p'.cE = ([p'.vS,p'.vC] ++ p'.cE.toList).toArray by apply Array.ext'; simp]
    ·rw [hcE]; rfl
    ·rw [hcE]
     exact zb9 ⟨zcx hrw.core.s,zcx hrw.core.c,rfl,rfl,za2 u2,za2 u3,rfl,rfl,za2 u6,za2 u7,za2 u8,trivial⟩
    ·have hfin:=hfree.set_ (List.mem_cons_self ..) hne hc' ht'
     have hR:=hrun.1
     generalize hRR : Rr.run (zl4 W g5 g3 ga ca 75 3 47 l vL hL) _ picks = RR at hR
     have hfin' : ze3 Z0 s W s' F1 w' RR { p' with tmp:=[g4] }:=by rw [<- hRR]; exact hfin
     have hrr : zcf k K T Mn l picks = (Rw.first l (Rp.firstM k K T Mn)).run l picks:=rfl
     rw [<- hrr] at hR
     refine ⟨hfin'.side.chg,hfin'.side.oth,.inl ⟨okw_okr.1 hok,p'.vS,p'.vC,p'.cE,rfl,?_,?_,?_,?_,fun g hg=>⟨?_,?_,hfin'.side.far g hg⟩⟩⟩
     ·have:=Sl.of_own hfin'.core.s
      rw [hR.steps] at this
      exact this
     ·have:=Sl.of_own hfin'.core.c
      rw [hR.calls] at this
      exact this
     ·have:=hfin'.side.mem
      rw [hR.mem] at this
      exact this
     ·have:=hfin'.side.small
      rwa [hR.mem] at this
     ·intro b o n c e hn
      rcases hfin'.nils with ⟨e1,_⟩ | ⟨gS,nS,cS,gC,nC,cC,e1,e2⟩
      ·rw [show p'.vS = _ from e1] at e
       cases e
      ·have d:=(hfin'.side.dis gS (.inr (.inr (.inl (by rw [e1]; rfl))))).2.2.2
       rw [show p'.vS = _ from e1] at e
       cases e
       omega
     ·intro b o n c e hn
      rcases hfin'.nils with ⟨_,e1,_⟩ | ⟨gS,nS,cS,gC,nC,cC,e1,e2⟩
      ·rw [show p'.vC = _ from e1] at e
       cases e
      ·have d:=(hfin'.side.dis gC (.inr (.inr (.inr (.inl (by rw [e2]; rfl)))))).2.2.2
       rw [show p'.vC = _ from e2] at e
       cases e
       omega
   ·cases ev
    refine ⟨zTr,1,rfl,rfl,zb9 ⟨rfl,rfl,rfl,rfl,rfl,rfl,rfl,rfl,rfl,rfl,rfl,trivial⟩,(hm.G.below hb1 nG.2.1).below hbel (by omega),by have:=hbel.size; omega,nG.2.2,fun w' hc' ht'=>?_⟩
    exact ⟨(hbW.trans (hbel.mono hbW.size)).trans (hc'.below (fun k e=>e ▸ nG.1) (Nat.le_trans hbW.size hbel.size)),fun k _ h=>h,.inr ⟨fun h=>hnok (okw_okr.2 h),rfl⟩⟩
  subst ev
  have hL1 : Y1.lens = ⟨8,0,31,0,6⟩:=by
   have h1 : Y1.blks.length = 6:=hr1.len
   have h2 : Y1.xs.length = 31:=by rw [hx1.xs,<- hY,<- hY0]; simp [Env.grow,hxs]
   have h3 : Y1.ys = []:=by rw [hx1.ys,<- hY,<- hY0]; rfl
   have h4 : Y1.bools = []:=by rw [hx1.bools,<- hY,<- hY0]; rfl
   simp only [Env.lens,hi1,h1,h2,h3,h4]
   rfl
  match vs,hvl with
  | [y0,y1,y2,y3,y4,y5,y6,y7,y8,y9,y10],_=>
  refine zc8 (ai:=[code]) (ab:=[]) (ax:=[]) (ay:=[y0,y1,y2,y3,y4,y5,y6,y7,y8,y9,y10]) (.tup [.agg [.y 0,.y 1,.y 2,.y 3,.y 4,.y 5,.y 6,.y 7,.y 8,.y 9,.y 10],.int .i64 (.v 8)]) hL1 (by kernel_rfl) ?_ ?_
  ·have h1 : (Y1.grow [code] [] [] [y0,y1,y2,y3,y4,y5,y6,y7,y8,y9,y10] []).ints.getD 8 0 = code:=by simp only [Env.grow,hi1]; rfl
   have h2 : (Y1.grow [code] [] [] [y0,y1,y2,y3,y4,y5,y6,y7,y8,y9,y10] []).ys = [y0,y1,y2,y3,y4,y5,y6,y7,y8,y9,y10]:=by
    have h3 : Y1.ys = []:=by rw [hx1.ys,<- hY,<- hY0]; rfl
    simp only [Env.grow,h3]
    rfl
   generalize Y1.grow _ _ _ _ _ = Yg at h1 h2
   show Value.tuple #[.agg #[Yg.ys.getD 0 .nilFunc,Yg.ys.getD 1 .nilFunc,Yg.ys.getD 2 .nilFunc,Yg.ys.getD 3 .nilFunc,Yg.ys.getD 4 .nilFunc,Yg.ys.getD 5 .nilFunc,Yg.ys.getD 6 .nilFunc,Yg.ys.getD 7 .nilFunc,Yg.ys.getD 8 .nilFunc,Yg.ys.getD 9 .nilFunc,Yg.ys.getD 10 .nilFunc],.int .i64 (Yg.ints.getD 8 0)] = _
   rw [h1,h2]
   rfl
  rw [raH_put]
  have hgi : (Y1.grow [code] [] [] [y0,y1,y2,y3,y4,y5,y6,y7,y8,y9,y10] []).ints.getD 8 0 = code:=by simp only [Env.grow,hi1]; rfl
  have hgy : (Y1.grow [code] [] [] [y0,y1,y2,y3,y4,y5,y6,y7,y8,y9,y10] []).ys = [y0,y1,y2,y3,y4,y5,y6,y7,y8,y9,y10]:=by
   have h3 : Y1.ys = []:=by rw [hx1.ys,<- hY,<- hY0]; rfl
   simp only [Env.grow,h3]
   rfl
  have hgk : (Y1.grow [code] [] [] [y0,y1,y2,y3,y4,y5,y6,y7,y8,y9,y10] []).blks.getD 4 {} = ⟨g4,b4,0,[],[],cap4,ad4⟩:=by
   simp only [Env.grow,List.append_nil]
   rw [hk1 4 (by decide),<- hY,<- hY0]
   rfl
  have hgp : (Y1.grow [code] [] [] [y0,y1,y2,y3,y4,y5,y6,y7,y8,y9,y10] []).perms = []:=(show Y1.perms = [] from zae hr1)
  generalize Y1.grow _ _ _ _ _ = Yg at hgi hgy hgk hgp ⊢
  refine zd8 (a:=⟨[raH_frb],[],[],0⟩) raHp_fits ?_
  have hei : (zff.env Yg).ints = [code]:=by
   show [Yg.ints.getD 8 0] = _
   rw [hgi]
  have hey : (zff.env Yg).ys = [y0,y1,y2,y3,y4,y5,y6,y7,y8,y9,y10]:=by
   show [Yg.ys.getD 0 .nilFunc,Yg.ys.getD 1 .nilFunc,Yg.ys.getD 2 .nilFunc,Yg.ys.getD 3 .nilFunc,Yg.ys.getD 4 .nilFunc,Yg.ys.getD 5 .nilFunc,Yg.ys.getD 6 .nilFunc,Yg.ys.getD 7 .nilFunc,Yg.ys.getD 8 .nilFunc,Yg.ys.getD 9 .nilFunc,Yg.ys.getD 10 .nilFunc] = _
   rw [hgy]
   rfl
  have hek : (zff.env Yg).blks = [⟨g4,b4,0,[],[],cap4,ad4⟩]:=by
   show [Yg.blks.getD 4 {}] = _
   rw [hgk]
  have hep : (zff.env Yg).perms = []:=hgp
  have heL : (zff.env Yg).lens = ⟨1,0,37,11,1⟩:=by rw [Sub.env_lens]; kernel_rfl
  generalize zff.env Yg = Ye at hei hey hek hep heL ⊢
  refine zak (L:=⟨1,0,37,11,1⟩) (ai:=[]) (ab:=[]) (ax:=[]) (ay:=zTr) (ak:=[]) heL (by kernel_rfl) ?_
  have hfi : (Ye.grow [] [] [] zTr []).ints = [code]:=by simp only [Env.grow,List.append_nil,hei]
  have hfy : (Ye.grow [] [] [] zTr []).ys = [y0,y1,y2,y3,y4,y5,y6,y7,y8,y9,y10] ++ zTr:=by simp only [Env.grow,hey]
  have hfk : (Ye.grow [] [] [] zTr []).blks = [⟨g4,b4,0,[],[],cap4,ad4⟩]:=by simp only [Env.grow,List.append_nil,hek]
  have hfp : (Ye.grow [] [] [] zTr []).perms = []:=hep
  generalize Ye.grow _ _ _ _ _ = Yf at hfi hfy hfk hfp ⊢
  have hrf : Rep X s' (ours Yf zj0.heap) w2 Yf zj0.heap zj0.facts 0 w2:=by
   refine Rep.start ht2 ?_ (by rw [hfk]; rfl) ⟨⟨?_,zcc rfl ⟨?_,?_,?_⟩,?_,trivial,rfl⟩,trivial⟩ ⟨trivial,trivial⟩ (za5 trivial) (by rw [hfp]; rfl)
   ·rw [hfy]
    intro u hu
    rcases List.mem_append.1 hu with hu | hu
    ·exact hvone u hu
    ·exact zb9 (l:=zTr) ⟨rfl,rfl,rfl,rfl,rfl,rfl,rfl,rfl,rfl,rfl,rfl,trivial⟩ u hu
   ·rw [hfk]; exact hGlt
   ·rw [hfk]; exact hGo
   ·rw [hfk]; rfl
   ·rw [hfk]
    have : za3 Yf (zj0.heap.headD default).cs = zTr:=by
     show [Yf.ys.getD 11 .nilFunc,Yf.ys.getD 12 .nilFunc,Yf.ys.getD 13 .nilFunc,Yf.ys.getD 14 .nilFunc,Yf.ys.getD 15 .nilFunc,Yf.ys.getD 16 .nilFunc,Yf.ys.getD 17 .nilFunc,Yf.ys.getD 18 .nilFunc,Yf.ys.getD 19 .nilFunc,Yf.ys.getD 20 .nilFunc,Yf.ys.getD 21 .nilFunc] = _
     rw [hfy]
     rfl
    show Blk w2 g4 _ ((⟨g4,b4,0,[],[],cap4,ad4⟩ : Seg).whole (za3 Yf (zj0.heap.headD default).cs)).toArray
    rw [this]
    exact hGb
   ·rw [hfk]; exact ⟨rfl,rfl⟩
  refine zaa 900 raK_run hrf ⟨fun Y3 w3 hx3 hr3=>?_,trivial⟩
  refine zbx (v:=_) raK_0_end hr3.rep ?_
  have hch : Chg (fun k=>k = g4) w2 w3:=hr3.chg.mono fun k _ hk=>by
   exact zbz (Y:=Yf) (h:=zj0.heap) (Q:=fun k=>k = g4) ⟨(fun _=>by rw [hfk]; rfl),trivial⟩ k hk
  have:=hback s' _ w3 (hgoal w3 hch hr3.there) hr3.there
  refine cast ?_ this
  congr 2
  show _ = Value.tuple #[.agg #[Y3.ys.getD 0 .nilFunc,Y3.ys.getD 1 .nilFunc,Y3.ys.getD 2 .nilFunc,Y3.ys.getD 3 .nilFunc,Y3.ys.getD 4 .nilFunc,Y3.ys.getD 5 .nilFunc,Y3.ys.getD 6 .nilFunc,Y3.ys.getD 7 .nilFunc,Y3.ys.getD 8 .nilFunc,Y3.ys.getD 9 .nilFunc,Y3.ys.getD 10 .nilFunc],.int .i64 (Y3.ints.getD 0 0)]
  rw [hx3.ys,hx3.ints,hfy,hfi]
  rfl
theorem rawLoop {s : γ} {W : World} {k K T Mn : Int} {l : List (List Ac)} {vL : Value} {gO ga gA gL gC gG ca : Nat} {picks : List (Int × Int)} {A : Option Addr} {cP : Nat} (hL : Lls W W.heap.size vL l) (hlm : l.length <= maxLen) (hP : Sl W W.heap.size 2 (.slice A picks.length cP) picks.length (picks.flatMap pkC)) (hW : 0 < W.heap.size) (hbig : ∀ xs ∈ l,xs.length <= 8796093022207)
  (hback : ∀ s' v w',ziv X s W k K T Mn l picks s' (.back v) w' -> X.there s' w' -> Jay.Reach Try.prog X Stop s' (c.finish v) cs w') (n : Nat) :
  ∀ (t : Nat) (vals : List Value) (Y : Env) (q0 q1 q2 q3 q4 q5 : Seg) (w : World) (hm : RwL X s W w k K T Mn l vL gO ga gA gL gC gG ca t vals) (hth : X.there s w) (hd : Hd Y [(t : Int),(l.length : Int),(picks.length : Int),(cP : Int)] 31 [q0,q1,q2,q3,q4,q5]) (hn : l.length - t = n) (htl : t <= l.length) (h0 : q0.adr = A /\ q0.g < w.heap.size) (h1 : q1.g = gO /\ q1.adr = some ⟨gO,0,none⟩) (h2 : Whl q2 gC) (h3 : Whl q3 gL) (h4 : Whl q4 gG) (h5 : Whl q5 gA),Fr.reach Try.prog X Stop s (c :: cs) Y ra1.frs w:=by
 induction n with
 | zero=>
  intro t vals Y q0 q1 q2 q3 q4 q5 w hm hth hd hn htl h0 h1 h2 h3 h4 h5
  exact rawEnd hm hL hth hlm hP hW hd (by omega) h0 h1 h2 h3 h4 h5 hback
 | succ n ih=>
  intro t vals Y q0 q1 q2 q3 q4 q5 w hm hth hd hn htl h0 h1 h2 h3 h4 h5
  have ht : t < l.length:=by omega
  have hn1 : l.length - (t + 1) = n:=by omega
  obtain ⟨bl,ol,cL,rfl,hbl,hcl1,hcl2,hat⟩:=hL.at_ (by omega)
  obtain ⟨u,hu,hacs⟩:=hat t ht
  obtain ⟨At,ct,rfl,hct1,hct2⟩:=Sl.form hacs
  have hlt:=hbig l[t] (List.getElem_mem ht)
  obtain ⟨xs,hxs,rfl⟩:=hd.of
  obtain ⟨g2,b2,o2,pre2,post2,cap2,ad2⟩:=q2
  obtain ⟨g3,b3,o3,pre3,post3,cap3,ad3⟩:=q3
  obtain ⟨g4,b4,o4,pre4,post4,cap4,ad4⟩:=q4
  obtain ⟨g5,b5,o5,pre5,post5,cap5,ad5⟩:=q5
  obtain ⟨rfl,rfl,rfl,rfl⟩ : g2 = _ /\ o2 = _ /\ pre2 = _ /\ post2 = _:=h2
  obtain ⟨rfl,rfl,rfl,rfl⟩ : g3 = _ /\ o3 = _ /\ pre3 = _ /\ post3 = _:=h3
  obtain ⟨rfl,rfl,rfl,rfl⟩ : g4 = _ /\ o4 = _ /\ pre4 = _ /\ post4 = _:=h4
  obtain ⟨rfl,rfl,rfl,rfl⟩ : g5 = _ /\ o5 = _ /\ pre5 = _ /\ post5 = _:=h5
  have nO:=hm.new gO (by simp)
  have na:=hm.new ga (by simp)
  have nA:=hm.new g5 (by simp)
  have nL:=hm.new g3 (by simp)
  have nC:=hm.new g2 (by simp)
  have nG:=hm.new g4 (by simp)
  have hnd:=hm.nd
  simp only [List.nodup_cons,List.mem_cons,List.not_mem_nil,or_false,not_or,not_false_eq_true,List.nodup_nil,and_true] at hnd
  have htv : t < vals.length:=by rw [hm.len]; exact ht
  have hv1 : vals[t].oneCell' = true:=hm.one _ (List.getElem_mem htv)
  generalize hY0 : (⟨[(t : Int),(l.length : Int),(picks.length : Int),(cP : Int)],[],xs,[],[q0,q1,⟨g2,b2,0,[],[],cap2,ad2⟩,⟨g3,b3,0,[],[],cap3,ad3⟩,⟨g4,b4,0,[],[],cap4,ad4⟩,⟨g5,b5,0,[],[],cap5,ad5⟩],[]⟩ : Env) = Y0
  have hl0 : Y0.lens = ⟨4,0,31,0,6⟩:=by rw [<- hY0]; simp [Env.lens,hxs]
  refine zbl (b:=1) (q:=⟨gO,0,t,vals.take t,vals.drop (t + 1),q1.cap,none⟩) (by rw [<- hY0]; show 1 < 6; decide) (by rw [<- hY0]; exact h1.1.symm) (by rw [<- hY0]; exact h1.2.symm) (by rw [<- hY0]; rfl) (by kernel_rfl) ?_
  refine zak (L:=⟨4,0,31,0,6⟩) (ai:=[(cL : Int),(l[t].length : Int),(ct : Int)]) (ab:=[]) (ax:=[]) (ay:=[vals[t]]) (ak:=[⟨bl,ol,ol + t * 1,[],[],0,none⟩,⟨gO,0,0,[],[],0,some At⟩]) (by rw [<- hl0]; simp [Env.lens,Env.reseg]) (by kernel_rfl) ?_
  generalize hY : Env.grow _ _ _ _ _ _ = Y
  have hblw : bl < w.heap.size:=Nat.lt_of_lt_of_le hbl hm.bel.size
  have hr : Rep X s (ours Y raF_in.heap) w Y raF_in.heap raF_in.facts 0 w:=by
   refine Rep.start hth ?_ (by rw [<- hY,<- hY0]; rfl) ⟨kn ?_,⟨?_,zcc rfl ⟨?_,?_,?_⟩,⟨?_,?_⟩,trivial,rfl⟩,kn ?_,⟨?_,zb8 rfl ?_,trivial,trivial,rfl⟩,kn ?_,kn ?_,⟨?_,zb8 rfl ?_,⟨?_,?_⟩,trivial,rfl⟩,kn ?_,trivial⟩
    ⟨⟨(fun e=>nomatch e),(fun e=>nomatch e),(fun e=>nomatch e),(fun e=>nomatch e),(fun e=>nomatch e),(fun e=>nomatch e),(fun e=>nomatch e),trivial⟩,⟨(fun e=>nomatch e),(fun _=>?_),(fun e=>nomatch e),(fun e=>nomatch e),(fun _=>?_),(fun e=>nomatch e),trivial⟩,⟨(fun e=>nomatch e),(fun e=>nomatch e),(fun e=>nomatch e),(fun e=>nomatch e),(fun e=>nomatch e),trivial⟩,⟨(fun e=>nomatch e),(fun e=>nomatch e),(fun e=>nomatch e),(fun e=>nomatch e),trivial⟩,⟨(fun e=>nomatch e),(fun e=>nomatch e),(fun e=>nomatch e),trivial⟩,⟨(fun e=>nomatch e),(fun e=>nomatch e),trivial⟩,⟨(fun e=>nomatch e),trivial⟩,trivial,trivial⟩ (za5 ⟨?_,?_,trivial⟩) (by rw [<- hY,<- hY0]; rfl)
   ·rw [<- hY,<- hY0]
    exact zb9 ⟨hv1,trivial⟩
   all_goals subst hY; subst hY0
   ·exact h0.2
   ·exact nO.2.1
   ·exact nO.2.2
   ·show t = (vals.take t).length
    rw [List.length_take]; omega
   ·show Blk w gO _ ((vals.take t) ++ [vals[t]] ++ vals.drop (t + 1)).toArray
    rw [List.append_assoc,List.singleton_append,<- List.drop_eq_getElem_cons htv,List.take_append_drop]
    exact hm.O
   ·show t = 0 + ((t : Int)).toNat * 1
    omega
   ·rfl
   ·exact nC.2.1
   ·exact nL.2.1
   ·refine zaz hm.L ?_ rfl
    rfl
   ·exact nG.2.1
   ·exact nA.2.1
   ·exact hblw
   ·intro j u' hu'
    cases j with
    | zero=>
     cases hu'
     show w.cell? ⟨bl,ol + t * 1 + 0,none⟩ = _
     rw [Nat.mul_one,Nat.add_zero,hm.bel.cell (p:=⟨bl,ol + t,none⟩) hbl,hu]
     rfl
    | succ j=>cases hu'
   ·rfl
   ·rfl
   ·exact nO.2.1
   ·exact hnd.1.2.2.1
   ·show gO ≠ bl
    omega
   ·exact decide_eq_true (by show (t : Int) < ((l.length : Int).toNat : Int); omega)
   ·exact decide_eq_true (by show (0 : Int) <= (t : Int); omega)
  refine zaa 900 raF_run hr ⟨fun Y1 w1 hx1 hr1=>?_,trivial⟩
  have hi1 : Y1.ints = [(t : Int),(l.length : Int),(picks.length : Int),(cP : Int),(cL : Int),(l[t].length : Int),(ct : Int)]:=by rw [hx1.ints,<- hY,<- hY0]; rfl
  have hbl8 : Y.blks.length = 8:=by rw [<- hY,<- hY0]; rfl
  show Fr.reach _ X Stop s (c :: cs) Y1 [raF_fr] w1
  refine sx_mk (fr:=raF_fr) (callers:=[]) rfl raF_at raF_gd raF_smk raF_info rfl (B:=8796093022207) ?_ ?_ rfl (by kernel_rfl) hr1 fun Y2 w2 hx2 hnew2 hr2=>?_
  ·show 0 <= (((Y1.ints.getD 5 0).toNat : Nat) : Int)
   omega
  ·show ((((Y1.ints.getD 5 0).toNat : Nat) : Int)).toNat <= _
   rw [hi1]
   show l[t].length <= _
   exact hlt
  rw [show raF_0.heap.length = 8 from rfl,raF_put]
  refine zaa 900 raG_run hr2 ⟨fun Y3 w3 hx3 hr3=>?_,trivial⟩
  refine zbh raG0_head hr3 fun Y4 w4 hx4 hr4=>?_
  have hx14:=hx2.trans (hx3.trans hx4)
  have hx24:=hx3.trans hx4
  have hi4 : Y4.ints = [(t : Int),(l.length : Int),(picks.length : Int),(cP : Int),(cL : Int),(l[t].length : Int),(ct : Int)]:=hx14.ints.trans hi1
  have hl1 : Y1.blks.length = 8:=hr1.len
  have hl2 : Y2.blks.length = 9:=hr2.len
  have hk4 : ∀ j,j < 8 -> Y4.blks.getD j {} = Y.blks.getD j {}:=fun j hj=>by rw [hx14.blk (by omega),hx1.blk (by omega)]
  have hN : (E.den Y1 (.tn (.v 5))).toNat = l[t].length:=by
   show ((((Y1.ints.getD 5 0).toNat : Nat) : Int)).toNat = _
   rw [hi1]
   rfl
  rw [hN,show raF_0.heap.length = 8 from rfl,<- hx24.blk (show 8 < Y2.blks.length by omega)] at hnew2
  obtain ⟨p1,p2,p3,p4⟩:=hnew2
  have hR8:=hr4.rep.row 8 _ _ _ _ rfl rfl
  have hB8:=(hr4.rep.blk 8 _ rfl rfl).2
  have hlt8:=hr4.bnd 8 (by decide)
  have ho8:=hr4.own 8 _ rfl rfl
  have hsz1:=hr1.chg.size
  have hch : Chg (fun k=>k = gO) w w4:=hr4.chg.mono fun k _ hk=>by
   exact zbz (Y:=Y) (h:=raF_in.heap) (Q:=fun k=>k = gO) ⟨(fun e=>nomatch e),(fun _=>by rw [<- hY,<- hY0]; rfl),(fun e=>nomatch e),(fun e=>nomatch e),(fun e=>nomatch e),(fun e=>nomatch e),(fun e=>nomatch e),(fun e=>nomatch e),trivial⟩ k hk
  generalize hgN : (Y4.blks.getD 8 {}).g = gN at *
  have had8 : (Y4.blks.getD 8 {}).adr = some ⟨gN,0,none⟩:=by
   unfold Seg.adr
   rw [hR8.2.2.2.2.2.2,hR8.1,hgN]
  have hgNw : w.heap.size <= gN:=by omega
  have hO4 : Blk w4 gO 76 ((vals.set t (.slice (some ⟨gN,0,none⟩) l[t].length l[t].length)).toArray):=by
   have h4:=(hr4.rep.blk 1 _ rfl rfl).2
   rw [hk4 1 (by decide)] at h4
   have hd4 : za3 Y4 ((raG_0.heap.getD 1 default).cs) = [.slice (some ⟨gN,0,none⟩) l[t].length l[t].length]:=by
    show [Value.slice ((Y4.blks.getD 8 {}).adr) ((((Y4.ints.getD 5 0).toNat : Nat) : Int)).toNat (Y4.blks.getD 8 {}).cap] = _
    rw [had8,p3,hi4]
    rfl
   have h5 : Blk w4 (Y.blks.getD 1 {}).g 76 ((Y.blks.getD 1 {}).whole (za3 Y4 ((raG_0.heap.getD 1 default).cs))).toArray:=h4
   rw [hd4,<- hY,<- hY0] at h5
   rw [List.set_eq_take_append_cons_drop,if_pos htv]
   have h6 : Blk w4 gO 76 (vals.take t ++ [Value.slice (some ⟨gN,0,none⟩) l[t].length l[t].length] ++ vals.drop (t + 1)).toArray:=h5
   rw [List.append_assoc,List.singleton_append] at h6
   exact h6
  have hops : Sl w4 w4.heap.size 2 (.slice (some ⟨gN,0,none⟩) l[t].length l[t].length) l[t].length ((List.replicate l[t].length ((0 : Int),(0 : Int))).flatMap opC):=by
   have h7 : Blk w4 gN 79 ((List.replicate l[t].length ((0 : Int),(0 : Int))).flatMap opC).toArray:=by
    have h8 : Blk w4 gN 79 ((Y4.blks.getD 8 {}).whole []).toArray:=hB8
    unfold Seg.whole at h8
    rw [p1,p2,List.append_nil,List.append_nil,zOps_flat] at h8
    exact h8
   have hln : ((List.replicate l[t].length ((0 : Int),(0 : Int))).flatMap opC).length = l[t].length * 2:=by rw [zde zim,List.length_replicate]
   have:=Sl.of_blk (size:=2) (n:=l[t].length) (c:=l[t].length) (B:=w4.heap.size) h7 (by rw [List.size_toArray,hln]; exact Nat.le_refl _) (Nat.le_refl _) (Nat.le_trans hct1 hct2) hlt8
   rw [List.take_of_length_le (by rw [hln]; exact Nat.le_refl _)] at this
   exact this
  have hone : ∀ u ∈ vals.set t (.slice (some ⟨gN,0,none⟩) l[t].length l[t].length),u.oneCell' = true:=fun u hu=>by
   rcases List.mem_or_eq_of_mem_set hu with h | h
   ·exact hm.one u h
   ·rw [h]; rfl
  have hnew4 : ∀ g ∈ [gO,ga,g5,g3,g2,g4],W.heap.size <= g /\ g < w4.heap.size /\ ¬ X.oth s g:=fun g hg=>by
   obtain ⟨a1,a2,a3⟩:=hm.new g hg
   exact ⟨a1,Nat.lt_of_lt_of_le a2 hch.size,a3⟩
  have hdone4 : ∀ i (hi : i < l.length),i < t + 1 -> ∃ g,(vals.set t (.slice (some ⟨gN,0,none⟩) l[t].length l[t].length))[i]? = some (.slice (some ⟨g,0,none⟩) l[i].length l[i].length) /\ W.heap.size <= g /\ g < w4.heap.size /\ g ∉ [gO,ga,g5,g3,g2,g4] /\ Sl w4 w4.heap.size 2 (.slice (some ⟨g,0,none⟩) l[i].length l[i].length) l[i].length ((List.replicate l[i].length ((0 : Int),(0 : Int))).flatMap opC):=fun i hi hit=>by
   by_cases e : i = t
   ·subst e
    refine ⟨gN,by rw [List.getElem?_set_self htv],by have:=hm.bel.size; omega,hlt8,?_,hops⟩
    simp only [List.mem_cons,List.not_mem_nil,or_false]
    omega
   ·obtain ⟨g,a1,a2,a3,a4,a5⟩:=hm.done i hi (by omega)
    refine ⟨g,by rw [List.getElem?_set_ne (Ne.symm e)]; exact a1,a2,Nat.lt_of_lt_of_le a3 hch.size,a4,(Sl.chg a5 (Nat.le_refl _) hch fun k hk b o n c ec hn=>?_).more hch.size⟩
    cases ec
    subst hk
    intro e2
    subst e2
    exact a4 (by simp)
  have hm4 : RwL X s W w4 k K T Mn l (.slice (some ⟨bl,ol,none⟩) l.length cL) gO ga g5 g3 g2 g4 ca (t + 1) (vals.set t (.slice (some ⟨gN,0,none⟩) l[t].length l[t].length)):=
   ⟨hm.bel.trans (hch.below (fun k e=>e ▸ nO.1) hm.bel.size),hO4,by rw [List.length_set]; exact hm.len,hone,hm.a.chg hch (fun e=>hnd.1.1 e.symm),hm.A.chg hch (fun e=>hnd.1.2.1 e.symm),hm.L.chg hch (fun e=>hnd.1.2.2.1 e.symm),hm.C.chg hch (fun e=>hnd.1.2.2.2.1 e.symm),hm.G.chg hch (fun e=>hnd.1.2.2.2.2 e.symm),hnew4,hm.nd,hdone4⟩
  have hp4 : Y4.perms = []:=zae hr4
  refine ih (t + 1) _ _ _ _ _ _ _ _ w4 hm4 hr4.there ⟨?_,rfl,?_,rfl,rfl,hp4⟩ hn1 ht ?_ ?_ ?_ ?_ ?_ ?_
  ·show [IntKind.i64.wrap (Y4.ints.getD 0 0 + 1),Y4.ints.getD 1 0,Y4.ints.getD 2 0,Y4.ints.getD 3 0] = _
   rw [hi4]
   show [IntKind.i64.wrap ((t : Int) + 1),_,_,_] = _
   rw [zbr ht hlm]
   rfl
  ·exact (za8 _).trans rfl
  ·dsimp only
   rw [hk4 0 (by decide),<- hY,<- hY0]
   exact ⟨h0.1,Nat.lt_of_lt_of_le h0.2 hch.size⟩
  ·dsimp only
   rw [hk4 1 (by decide),<- hY,<- hY0]
   exact ⟨rfl,rfl⟩
  ·dsimp only
   rw [hk4 2 (by decide),<- hY,<- hY0]
   exact ⟨rfl,rfl,rfl,rfl⟩
  ·dsimp only
   rw [hk4 3 (by decide),<- hY,<- hY0]
   exact ⟨rfl,rfl,rfl,rfl⟩
  ·dsimp only
   rw [hk4 4 (by decide),<- hY,<- hY0]
   exact ⟨rfl,rfl,rfl,rfl⟩
  ·dsimp only
   rw [hk4 5 (by decide),<- hY,<- hY0]
   exact ⟨rfl,rfl,rfl,rfl⟩
theorem raw_ok {s : γ} {W : World} {k K T Mn : Int} {l : List (List Ac)} {vL : Value} {picks : List (Int × Int)} {A : Option Addr} {cP : Nat} (hL : Lls W W.heap.size vL l) (hP : Sl W W.heap.size 2 (.slice A picks.length cP) picks.length (picks.flatMap pkC)) (hW : 0 < W.heap.size) (hlm : l.length <= 5864062014805) (hbig : ∀ xs ∈ l,xs.length <= 8796093022207) :
  Jdo Try.prog X 20 #[cfg k K T Mn,vL,.slice A picks.length cP] s W (ziv X s W k K T Mn l picks):=by
 have hml : maxLen = 9223372036854775807:=rfl
 obtain ⟨AL,cL,hvL,hcL,hcL2⟩ : ∃ AL cL,vL = Value.slice AL l.length cL /\ l.length <= cL /\ cL <= maxLen:=by
  obtain ⟨vs,_,h,_⟩:=hL
  exact Sl.form h
 let Y : Env:={ ints:=[k,K,T,Mn,(l.length : Int),(cL : Int),(picks.length : Int),(cP : Int)],blks:=[⟨0,0,0,[],[],0,some AL⟩,⟨0,0,0,[],[],0,some A⟩] }
 refine zbt (Y:=Y) ra_fresh (by rw [hvL]; rfl) fun Stop c cs hth hback hthrew=>?_
 have hr : Rep X s (ours Y raA_in.heap) W Y raA_in.heap raA_in.facts 0 W:=Rep.start hth (fun v hv=>by cases hv) rfl ⟨kn hW,kn hW,trivial⟩ (nd_ro rfl) (za5 trivial) rfl
 refine zaa 900 raA_run hr ⟨fun Y1 w1 hx1 hr1=>?_,trivial⟩
 have hi1 : Y1.ints = [k,K,T,Mn,(l.length : Int),(cL : Int),(picks.length : Int),(cP : Int)]:=hx1.ints
 show Fr.reach _ X Stop s (c :: cs) Y1 [raA_fr] w1
 have hNd : ∀ Y',Y'.ints = [k,K,T,Mn,(l.length : Int),(cL : Int),(picks.length : Int),(cP : Int)] -> (E.den Y' (.tn (.v 4))).toNat = l.length:=fun Y' h=>by
  show ((((Y'.ints.getD 4 0).toNat : Nat) : Int)).toNat = _
  rw [h]
  rfl
 refine sx_mk (fr:=raA_fr) (callers:=[]) rfl raA_at raA_gd raA_smk raA_info rfl (B:=5864062014805) ?_ ?_ rfl (by kernel_rfl) hr1 fun Y2 w2 hx2 hn5 hr2=>?_
 ·exact Int.natCast_nonneg _
 ·rw [hNd Y1 hi1]; exact hlm
 rw [show raA_0.heap.length = 5 from rfl,raA_put]
 rw [hNd Y1 hi1,show raA_0.heap.length = 5 from rfl] at hn5
 refine zaa 900 raB_run hr2 ⟨fun Y3 w3 hx3 hr3=>?_,trivial⟩
 have hi3 : Y3.ints = [k,K,T,Mn,(l.length : Int),(cL : Int),(picks.length : Int),(cP : Int)]:=(hx2.trans hx3).ints.trans hi1
 show Fr.reach _ X Stop s (c :: cs) Y3 [raB_fr] w3
 refine sx_mk (fr:=raB_fr) (callers:=[]) rfl raB_at raB_gd raB_smk raB_info rfl (B:=5864062014805) ?_ ?_ rfl (by kernel_rfl) hr3 fun Y4 w4 hx4 hn6 hr4=>?_
 ·exact Int.natCast_nonneg _
 ·rw [hNd Y3 hi3]; exact hlm
 rw [show raB_0.heap.length = 6 from rfl,raB_put]
 rw [hNd Y3 hi3,show raB_0.heap.length = 6 from rfl] at hn6
 refine zaa 900 raC_run hr4 ⟨fun Y5 w5 hx5 hr5=>?_,trivial⟩
 refine zbh raE_head hr5 fun Y6 w6 hx6 hr6=>?_
 have hi6 : Y6.ints = [k,K,T,Mn,(l.length : Int),(cL : Int),(picks.length : Int),(cP : Int)]:=(hx4.trans (hx5.trans hx6)).ints.trans hi3
 have hl2 : Y2.blks.length = 6:=hr2.len
 have hl4 : Y4.blks.length = 7:=hr4.len
 have e5 : Y6.blks.getD 5 {} = Y2.blks.getD 5 {}:=(hx3.trans (hx4.trans (hx5.trans hx6))).blk (by omega)
 have e6 : Y6.blks.getD 6 {} = Y4.blks.getD 6 {}:=(hx5.trans hx6).blk (by omega)
 rw [<- e5] at hn5
 rw [<- e6] at hn6
 have hx06:=hx1.trans (hx2.trans (hx3.trans (hx4.trans (hx5.trans hx6))))
 have e0 : Y6.blks.getD 0 {} = Y.blks.getD 0 {}:=hx06.blk (show 0 < 2 by decide)
 have e1 : Y6.blks.getD 1 {} = Y.blks.getD 1 {}:=hx06.blk (show 1 < 2 by decide)
 have hr5':=hr6.rep.row 5 _ _ _ _ rfl rfl
 have hr6':=hr6.rep.row 6 _ _ _ _ rfl rfl
 have hwr : ∀ i,2 <= i -> i < 8 -> ∃ hb,raC_0.heap[i]? = some hb /\ hb.wr = true:=fun i h2 h8=>by
  rcases i with _ | _ | _ | _ | _ | _ | _ | _ | i
  ·omega
  ·omega
  ·exact ⟨_,rfl,rfl⟩
  ·exact ⟨_,rfl,rfl⟩
  ·exact ⟨_,rfl,rfl⟩
  ·exact ⟨_,rfl,rfl⟩
  ·exact ⟨_,rfl,rfl⟩
  ·exact ⟨_,rfl,rfl⟩
  ·omega
 have hnew : ∀ i,2 <= i -> i < 8 -> W.heap.size <= (Y6.blks.getD i {}).g /\ (Y6.blks.getD i {}).g < w6.heap.size /\ ¬ X.oth s (Y6.blks.getD i {}).g:=fun i h2 h8=>by
  obtain ⟨hb,hi,hw⟩:=hwr i h2 h8
  refine ⟨?_,hr6.bnd i (List.getElem?_eq_some_iff.1 hi).1,hr6.own i hb hi hw⟩
  rcases hr6.inS i hb hi hw with h | h
  ·exact absurd h (zah rfl _)
  ·exact h
 have hnd : ∀ i j,2 <= i -> i < 8 -> 2 <= j -> j < 8 -> i ≠ j -> (Y6.blks.getD i {}).g ≠ (Y6.blks.getD j {}).g:=fun i j a b a' b' hij=>by
  obtain ⟨x,hi,hw⟩:=hwr i a b
  obtain ⟨y,hj,hw'⟩:=hwr j a' b'
  exact hr6.nd i j x y hi (by simp [HB.live,hw]) hj hw' hij
 have hwhl : ∀ i hb,raC_0.heap[i]? = some hb -> hb.wr = true -> hb.foc = none -> hb.row = none -> (Y6.blks.getD i {}).o = 0 /\ (Y6.blks.getD i {}).pre = [] /\ (Y6.blks.getD i {}).post = [] /\ Blk w6 (Y6.blks.getD i {}).g hb.t (za3 Y6 hb.cs).toArray:=fun i hb hi hw hf hro=>by
  have hp:=hr6.rep.pl i hb hi hw hf hro
  have hb':=hr6.rep.blk i hb hi hw
  refine ⟨by rw [hb'.1,hp.1]; rfl,hp.1,hp.2,?_⟩
  have:=hb'.2
  unfold Seg.whole at this
  rw [hp.1,hp.2,List.append_nil,List.nil_append] at this
  exact this
 have ad5 : (Y6.blks.getD 5 {}).adr = some ⟨(Y6.blks.getD 5 {}).g,0,none⟩:=by
  unfold Seg.adr
  rw [hr5'.2.2.2.2.2.2,hr5'.1]
 have ad6 : (Y6.blks.getD 6 {}).adr = some ⟨(Y6.blks.getD 6 {}).g,0,none⟩:=by
  unfold Seg.adr
  rw [hr6'.2.2.2.2.2.2,hr6'.1]
 obtain ⟨c1,c2,c3,c4⟩:=hwhl 2 _ rfl rfl rfl rfl
 obtain ⟨l1,l2,l3,l4⟩:=hwhl 3 _ rfl rfl rfl rfl
 obtain ⟨r1,r2,r3,r4⟩:=hwhl 4 _ rfl rfl rfl rfl
 obtain ⟨a1,a2,a3,a4⟩:=hwhl 7 _ rfl rfl rfl rfl
 refine rawLoop (gO:=(Y6.blks.getD 5 {}).g) (ga:=(Y6.blks.getD 6 {}).g) (gA:=(Y6.blks.getD 7 {}).g) (gL:=(Y6.blks.getD 3 {}).g) (gC:=(Y6.blks.getD 2 {}).g) (gG:=(Y6.blks.getD 4 {}).g) (ca:=(Y6.blks.getD 6 {}).cap) hL (by omega) hP hW hbig hback l.length 0 (List.replicate l.length (.slice none 0 0)) _ _ _ _ _ _ _ w6
  ⟨hr6.chg.below (fun k hk=>absurd hk (zah rfl k)) (Nat.le_refl _),?_,List.length_replicate,fun u hu=>(by rw [List.eq_of_mem_replicate hu]; rfl),?_,?_,?_,?_,?_,fun g hg=>?_,?_,fun i hi h=>absurd h (Nat.not_lt_zero _)⟩ hr6.there ⟨?_,rfl,?_,rfl,rfl,(show Y6.perms = [] from zae hr6)⟩ (Nat.sub_zero _) (Nat.zero_le _) ?_ ?_ ?_ ?_ ?_ ?_
 ·have h1 : Blk w6 _ 76 ((Y6.blks.getD 5 {}).whole []).toArray:=(hr6.rep.blk 5 _ rfl rfl).2
  unfold Seg.whole at h1
  rw [hn5.1,hn5.2.1,List.append_nil,List.append_nil,zNil_flat] at h1
  exact h1
 ·have h1 : Blk w6 _ 3 ((Y6.blks.getD 6 {}).whole []).toArray:=(hr6.rep.blk 6 _ rfl rfl).2
  unfold Seg.whole at h1
  rw [hn6.1,hn6.2.1,List.append_nil,List.append_nil,zInts_flat] at h1
  exact h1
 ·have h1 : Blk w6 _ 75 #[Value.slice (Y6.blks.getD 6 {}).adr ((((Y6.ints.getD 4 0).toNat : Nat) : Int)).toNat (Y6.blks.getD 6 {}).cap]:=a4
  rw [ad6,hi6] at h1
  exact h1
 ·have h1 : Blk w6 _ 47 #[Value.slice (Y6.blks.getD 0 {}).adr (Y6.ints.getD 4 0).toNat (Y6.ints.getD 5 0).toNat]:=l4
  rw [e0,hi6] at h1
  rw [hvL]
  exact h1
 ·have h1 : Blk w6 _ 36 #[Value.int .i64 (Y6.ints.getD 0 0),.int .i64 (Y6.ints.getD 1 0),.int .i64 (Y6.ints.getD 2 0),.int .i64 (Y6.ints.getD 3 0)]:=c4
  rw [hi6] at h1
  exact h1
 ·exact r4
 ·simp only [List.mem_cons,List.not_mem_nil,or_false] at hg
  rcases hg with rfl | rfl | rfl | rfl | rfl | rfl
  ·exact hnew 5 (by decide) (by decide)
  ·exact hnew 6 (by decide) (by decide)
  ·exact hnew 7 (by decide) (by decide)
  ·exact hnew 3 (by decide) (by decide)
  ·exact hnew 2 (by decide) (by decide)
  ·exact hnew 4 (by decide) (by decide)
 ·simp only [List.nodup_cons,List.mem_cons,List.not_mem_nil,or_false,not_or,not_false_eq_true,List.nodup_nil,and_true]
  refine ⟨⟨hnd 5 6 ?_ ?_ ?_ ?_ ?_,hnd 5 7 ?_ ?_ ?_ ?_ ?_,hnd 5 3 ?_ ?_ ?_ ?_ ?_,hnd 5 2 ?_ ?_ ?_ ?_ ?_,hnd 5 4 ?_ ?_ ?_ ?_ ?_⟩,⟨hnd 6 7 ?_ ?_ ?_ ?_ ?_,hnd 6 3 ?_ ?_ ?_ ?_ ?_,hnd 6 2 ?_ ?_ ?_ ?_ ?_,hnd 6 4 ?_ ?_ ?_ ?_ ?_⟩,⟨hnd 7 3 ?_ ?_ ?_ ?_ ?_,hnd 7 2 ?_ ?_ ?_ ?_ ?_,hnd 7 4 ?_ ?_ ?_ ?_ ?_⟩,⟨hnd 3 2 ?_ ?_ ?_ ?_ ?_,hnd 3 4 ?_ ?_ ?_ ?_ ?_⟩,hnd 2 4 ?_ ?_ ?_ ?_ ?_⟩ <;> decide
 ·show [0,Y6.ints.getD 4 0,Y6.ints.getD 6 0,Y6.ints.getD 7 0] = _
  rw [hi6]
  rfl
 ·exact (za8 _).trans rfl
 ·dsimp only
  rw [e1]
  exact ⟨rfl,Nat.lt_of_lt_of_le hW (hr6.chg.below (fun k hk=>absurd hk (zah rfl k)) (Nat.le_refl _)).size⟩
 ·dsimp only
  exact ⟨rfl,ad5⟩
 ·exact ⟨rfl,c1,c2,c3⟩
 ·exact ⟨rfl,l1,l2,l3⟩
 ·exact ⟨rfl,r1,r2,r3⟩
 ·exact ⟨rfl,a1,a2,a3⟩
end
end
end Go.Proofs.Ytonhfgjofgbcdaa.Dr
