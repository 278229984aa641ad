/- A part of this claim's proof. -/
import Derived.Test.YtonhfgjofgbcdaaRws4
set_option linter.unusedSimpArgs false
set_option linter.unusedVariables false
set_option maxRecDepth 20000
namespace Go.Proofs.Ytonhfgjofgbcdaa.Jay
open Go Go.Conc Go.RowKit
section
def Good {γ : Type} (V : World -> Prop) (G : γ -> World -> Prop) : Prop:=(∀ s w,G s w -> V w) /\ ∀ s w w',G s w -> Below w.heap.size w w' -> G s w'
def dry (P : Program) : Op -> Bool
 | .extract ..=>true
 | o=>zji P o
def Val (P : Program) {γ : Type} (X : zad γ) (ops : Array Oper) (V : World -> Prop) (o : Oper) (v : Value) (a : Act) : Prop:=
 (Region.wanted o (yielded ops a.tmps) = true /\ zax P (fun _=>False) (execOp a.eval o) /\
  ((∀ w,V w -> (execOp a.eval o).run P w = .ok (.value v) w) \/
   (dry P o.op = false /\ ∃ f vals,(∀ w,(execOp a.eval o).run P w = .ok (.enter f vals) w) /\ ∀ s w,V w -> Jdo P X f vals s w fun s' r w'=>s' = s /\ Below w.heap.size w w' /\ r = .back v))) \/
 (Region.wanted o (yielded ops a.tmps) = false /\ v = undef)
section
variable {P : Program} {γ : Type} {X : zad γ} {fn : FuncId} {Q : γ -> Exit -> Act -> World -> Prop} {ops : Array Oper} {V : World -> Prop} {G : γ -> World -> Prop}
theorem Val.of_same {o : Oper} {v : Value} {a a' : Act} (hy : Val P X ops V o v a) (he : execOp a'.eval o = execOp a.eval o)
  (hw : Region.wanted o (yielded ops a'.tmps) = Region.wanted o (yielded ops a.tmps)) : Val P X ops V o v a':=by
 unfold Val at *
 rw [he,hw]
 exact hy
theorem Val.anti {V' : World -> Prop} {o : Oper} {v : Value} {a : Act} (hy : Val P X ops V o v a) (h : ∀ w,V' w -> V w) : Val P X ops V' o v a:=by
 rcases hy with ⟨h1,h2,h3 | ⟨h0,f,vals,h3,h4⟩⟩ | h1
 ·exact .inl ⟨h1,h2,.inl fun w hw=>h3 w (h w hw)⟩
 ·exact .inl ⟨h1,h2,.inr ⟨h0,f,vals,h3,fun s w hw=>h4 s w (h w hw)⟩⟩
 ·exact .inr h1
theorem Val.dry {V' : World -> Prop} {o : Oper} {v : Value} {a : Act} {w : World} (hd : dry P o.op = true) (hV : V w) (hy : Val P X ops V o v a) : Val P X ops V' o v a:=by
 rcases hy with ⟨h1,h2,h3 | ⟨h0,_⟩⟩ | h1
 ·refine .inl ⟨h1,h2,.inl fun w' hw'=>?_⟩
  have h:=h3 w hV
  unfold Jay.dry at hd
  split at hd
  ·rename_i x i hop
   simp only [execOp,hop] at h ⊢
   generalize a.eval x = u at h ⊢
   unfold Instr.extract at h ⊢
   cases u <;> simp at h ⊢
   rename_i vs
   cases hq : vs[i]? with
   | none=>rw [hq] at h; simp at h
   | some y=>rw [hq] at h; simp at h ⊢; exact h
  ·have hst : zf1 P ops V o v a:=.inl ⟨h1,h2,h3⟩
   rcases hst.moved (S':=V') hd hV with ⟨_,_,h4⟩ | ⟨h4,_⟩
   ·exact h4 w' hw'
   ·rw [h1] at h4; cases h4
 ·rw [hd] at h0; cases h0
 ·exact .inr h1
theorem Val.one {o : Oper} {v : Value} {s : γ} {a : Act} {w : World} {K : γ -> Act -> World -> Prop} (hy : Val P X ops V o v a) (hV : V w) (h : ∀ w',Below w.heap.size w w' -> K s (a.put o.dst v) w') : One P X fn ops o Q K s a w:=by
 unfold One
 rcases hy with ⟨hw,ho,hv⟩ | ⟨hw,rfl⟩
 ·rw [if_pos hw]
  refine ⟨fun ht=>zb3 ho ht,?_⟩
  rcases hv with hv | ⟨_,f,vals,hr,hd⟩
  ·rw [hv w hV]
   exact h w (Below.refl _ _)
  ·rw [hr w]
   exact Jdo.mono (hd s w hV) fun s' r w' p=>by
    obtain ⟨rfl,hb,rfl⟩:=p
    exact h w' hb
 ·rw [if_neg (by simp [hw])]
  exact h w (Below.refl _ _)
theorem one_put_val {oi oj : Oper} {v : Value} {s : γ} {a : Act} {w : World} (hap : oi.apart ops oj = true) (hsi : ∀ cs b,oi.op ≠ .select cs b) (hsj : ∀ cs b,oj.op ≠ .select cs b) (hQ : zec Q)
  {K : γ -> Act -> World -> Prop} (hy : Val P X ops V oi v a) (h : One P X fn ops oj Q K s (a.put oi.dst v) w) :
  One P X fn ops oj Q (fun s' a' w'=>Val P X ops V oi v a' /\ K s' (a'.put oi.dst v) w') s a w:=by
 obtain ⟨h1,h2,h3⟩:=Oper.apart_spec hap
 have keep : ∀ (a : Act),Val P X ops V oi v a -> ∀ u,Val P X ops V oi v (a.put oj.dst u):=fun a hy u=>
  hy.of_same (execOp_put oi hsi a oj.dst u h3) (wanted_put oi a oj.dst u h3)
 have keepD : ∀ d,Val P X ops V oi v { a with defers:=d :: a.defers }:=fun d=>hy.of_same rfl rfl
 unfold One at *
 rw [wanted_put oj a oi.dst v h1] at h
 split
 ·rename_i hw
  rw [if_pos hw] at h
  have he:=execOp_put oj hsj a oi.dst v h1
  unfold ziw listed at h
  rw [he] at h
  refine ⟨h.1,?_⟩
  have h4:=h.2
  generalize (execOp a.eval oj).run P w = r at h4
  match r,h4 with
  | .ok (.value u) w',h4=>exact ⟨keep a hy u,by rw [<- Act.put_comm a v u h2]; exact h4⟩
  | .ok .skip w',h4=>exact ⟨keep a hy _,by rw [<- Act.put_comm a v undef h2]; exact h4⟩
  | .ok (.defer d) w',h4=>
   refine ⟨keep _ (keepD d) _,?_⟩
   rw [<- Act.put_comm _ v undef h2,<- Act.put_defers]
   exact h4
  | .ok (.enter f args) w',h4=>
   refine Jdo.mono h4 fun s' r w'' p=>?_
   cases r with
   | back u=>exact ⟨keep a hy u,by rw [<- Act.put_comm a v u h2]; exact p⟩
   | threw ch=>exact hQ _ _ _ _ _ _ p
  | .halt (.panic u) w',h4=>exact hQ _ _ _ _ _ _ h4
 ·rename_i hw
  rw [if_neg hw] at h
  exact ⟨keep a hy _,by rw [<- Act.put_comm a v undef h2]; exact h⟩
end
theorem Jdo.post_there {P : Program} {γ : Type} {X : zad γ} {s : γ} {w : World} {f : FuncId} {args : Array Value} {Post : γ -> zf9 -> World -> Prop} (h : Jdo P X f args s w Post) : Jdo P X f args s w fun s' r w'=>Post s' r w' /\ X.there s' w':=
 fun Stop c cs hc=>h Stop c cs fun s' r w' p ht=>hc s' r w' ⟨p,ht⟩ ht
/-! ### The walk in one order -/
def Da (P : Program) {γ : Type} (X : zad γ) (fn : FuncId) (ops : Array Oper) (kd : Nat -> Nat) (Q : γ -> Exit -> Act -> World -> Prop) (fin : γ -> Act -> World -> Prop) (stop : List Nat -> (γ -> World -> Prop) -> Act -> Prop) : List Nat -> (World -> Prop) -> (γ -> World -> Prop) -> Act -> Prop
 | [],_,G,a=>∀ s w,G s w -> fin s a w
 | i :: rest,V,G,a=>∃ o,ops[i]? = some o /\
   if kd i = 0 then ∃ v,Val P X ops V o v a /\ Da P X fn ops kd Q fin stop rest V G (a.put o.dst v)
   else (∀ s w,G s w -> One P X fn ops o Q (fun s' a' w'=>∃ (V' : World -> Prop) (G' : γ -> World -> Prop),Good V' G' /\ G' s' w' /\ ((∀ w,V' w -> V w) \/ kd i = 2 \/ kd i = 3) /\ Da P X fn ops kd Q fin stop rest V' G' a') s a w) \/ (kd i = 3 /\ stop (i :: rest) G a)
def dryAt (P : Program) (ops : Array Oper) (x : Nat) : Bool:=match ops[x]? with | some o=>dry P o.op | none=>false
def zcs (P : Program) (ops : Array Oper) (A : List Nat) (kd : Nat -> Nat) (x i : Nat) : Bool:=x != i && !waits? A x i && !zhc ops x i && (waits? A i x || (kd x == 0 && zhk ops x i && (kd i != 3) && (kd i != 2 || dryAt P ops x)))
def zk2 (P : Program) (ops : Array Oper) (A : List Nat) (kd : Nat -> Nat) : List Nat -> Bool
 | []=>true
 | x :: rest=>rest.all (zcs P ops A kd x) && zk2 P ops A kd rest
def zbk (P : Program) (ops : Array Oper) (A : List Nat) (kd : Nat -> Nat) (ord : List Nat) : Bool:=
 (List.range ops.size).all (fun i=>ord.contains i && zha ops A i) && ord.all (· < ops.size) && zk2 P ops A kd ord && Region.noSelect ops
theorem zfh {P : Program} {ops : Array Oper} {A : List Nat} {kd : Nat -> Nat} : ∀ {ord : List Nat},zk2 P ops A kd ord = true -> ord.Pairwise fun x i=>zcs P ops A kd x i = true
 | [],_=>.nil
 | x :: rest,h=>by
  simp only [zk2,Bool.and_eq_true,List.all_eq_true] at h
  exact .cons h.1 (zfh h.2)
inductive Lin (ops : Array Oper) : Array Bool -> List Nat -> Prop
 | nil {listed : Array Bool} : Region.ready .any ops listed = [] -> Lin ops listed []
 | cons {listed : Array Bool} {i : Nat} {l : List Nat} : i ∈ Region.ready .any ops listed -> Lin ops (listed.setIfInBounds i true) l -> Lin ops listed (i :: l)
theorem zgi (ops : Array Oper) (t : Nat) : Lin ops (Array.replicate ops.size false) (Region.linearise .any ops t):=by
 unfold Region.linearise
 have key : ∀ (fuel t : Nat) (listed : Array Bool),(fuel = 0 -> Region.ready .any ops listed = []) -> ops.size <= fuel + (listed.toList.filter id).length -> listed.size = ops.size ->
   Lin ops listed (Region.linearise.go .any ops fuel t listed []):=by
  intro fuel
  induction fuel with
  | zero=>intro t listed hz _ _; simp only [Region.linearise.go,List.reverse_nil]; exact .nil (hz rfl)
  | succ fuel ih=>
   intro t listed _ hcount hsz
   simp only [Region.linearise.go]
   change Lin ops listed (match (Region.ready .any ops listed)[t % (Region.ready .any ops listed).length]? with
    | some i=>Region.linearise.go .any ops fuel (t / (Region.ready .any ops listed).length) (listed.setIfInBounds i true) [i]
    | none=>[].reverse)
   cases hi : (Region.ready .any ops listed)[t % (Region.ready .any ops listed).length]? with
   | none=>
    have hnil : Region.ready .any ops listed = []:=by
     cases hr : Region.ready .any ops listed with
     | nil=>rfl
     | cons x xs=>
      rw [hr] at hi
      have hlt : t % (x :: xs).length < (x :: xs).length:=Nat.mod_lt _ (by simp)
      simp at hi
      simp at hlt
      omega
    exact .nil hnil
   | some i=>
    simp only []
    rw [zi8,List.reverse_singleton,List.singleton_append]
    have hmem:=List.mem_of_getElem? hi
    obtain ⟨hun,o,ho,_⟩:=mem_ready.1 hmem
    have hlt : i < listed.size:=by rw [hsz]; exact (Array.getElem?_eq_some_iff.1 ho).1
    have hcnt : ((listed.setIfInBounds i true).toList.filter id).length = (listed.toList.filter id).length + 1:=by
     have hfalse : listed.toList[i]? = some false:=by
      rw [Array.getElem?_toList,Array.getElem?_eq_getElem hlt]
      rw [Array.getD_eq_getD_getElem?,Array.getElem?_eq_getElem hlt] at hun
      simpa using hun
     rw [Array.toList_setIfInBounds]
     exact count_set _ _ hfalse
    refine .cons hmem (ih _ _ ?_ (by rw [hcnt]; omega) (by simp [hsz]))
    intro hz
    subst hz
    cases hr : Region.ready .any ops (listed.setIfInBounds i true) with
    | nil=>rfl
    | cons j js=>
     exfalso
     have hj : j ∈ Region.ready .any ops (listed.setIfInBounds i true):=by rw [hr]; simp
     obtain ⟨hun',o',ho',_⟩:=mem_ready.1 hj
     have hjl : j < (listed.setIfInBounds i true).size:=by simp [hsz]; exact (Array.getElem?_eq_some_iff.1 ho').1
     have hlen : ((listed.setIfInBounds i true).toList.filter id).length <= (listed.setIfInBounds i true).toList.length:=List.length_filter_le _ _
     have hall : ((listed.setIfInBounds i true).toList.filter id).length = (listed.setIfInBounds i true).toList.length:=by
      have : (listed.setIfInBounds i true).toList.length = ops.size:=by simp [hsz]
      omega
     have h1:=all_true _ hall j (by simpa using hjl)
     rw [Array.getElem?_toList] at h1
     rw [Array.getD_eq_getD_getElem?,h1] at hun'
     cases hun'
 exact key ops.size t _ (fun hz=>by
  unfold Region.ready
  rw [hz]
  rfl) (by omega) (by simp)
def LinR (ops : Array Oper) (A ord : List Nat) (rest perm : List Nat) : Prop:=
 ∃ listed : Array Bool,listed.size = ops.size /\ (∀ i x,listed.getD i false = true -> waits? A i x = true -> listed.getD x false = true) /\ (ord.filter fun i=>!listed.getD i false) = rest /\ Lin ops listed perm
section
variable {P : Program} {γ : Type} {X : zad γ} {fn : FuncId} {Q : γ -> Exit -> Act -> World -> Prop} {ops : Array Oper} {fin : γ -> Act -> World -> Prop} {stop : List Nat -> (γ -> World -> Prop) -> Act -> Prop} {kd : Nat -> Nat}
theorem Da.swap {V : World -> Prop} {G : γ -> World -> Prop} {x i : Nat} {ox oi : Oper} {rest : List Nat} {a : Act} (hx : ops[x]? = some ox) (hi : ops[i]? = some oi) (hsel : ∀ (j : Nat) (o : Oper) cs b,ops[j]? = some o -> o.op ≠ .select cs b) (hQ : zec Q) (hgood : Good V G)
  (hcx : kd x = 0) (hap : ox.apart ops oi = true) (h3 : kd i ≠ 3) (ht : kd i ≠ 2 \/ dry P ox.op = true) (h : Da P X fn ops kd Q fin stop (x :: i :: rest) V G a) : Da P X fn ops kd Q fin stop (i :: x :: rest) V G a:=by
 obtain ⟨o,ho,h⟩:=h
 obtain rfl : ox = o:=by rw [hx] at ho; exact Option.some.inj ho
 rw [if_pos hcx] at h
 obtain ⟨v,hv,o',ho',h⟩:=h
 obtain rfl : oi = o':=by rw [hi] at ho'; exact Option.some.inj ho'
 obtain ⟨h1,h2,h4⟩:=Oper.apart_spec hap
 refine ⟨oi,hi,?_⟩
 by_cases hci : kd i = 0
 ·rw [if_pos hci] at h ⊢
  obtain ⟨u,hu,h⟩:=h
  refine ⟨u,hu.of_same (execOp_put oi (fun cs b=>hsel i oi cs b hi) a ox.dst v h1).symm (wanted_put oi a ox.dst v h1).symm,ox,hx,?_⟩
  rw [if_pos hcx]
  refine ⟨v,hv.of_same (execOp_put ox (fun cs b=>hsel x ox cs b hx) a oi.dst u h4) (wanted_put ox a oi.dst u h4),?_⟩
  rw [<- Act.put_comm a v u h2]
  exact h
 ·rw [if_neg hci] at h ⊢
  rcases h with h | h
  ·refine .inl fun s w hg=>One.mono (one_put_val hap (fun cs b=>hsel x ox cs b hx) (fun cs b=>hsel i oi cs b hi) hQ hv (h s w hg)) ?_
   rintro s' a' w' ⟨hv',V',G',hgood',hG',hV',h'⟩
   refine ⟨V',G',hgood',hG',hV',ox,hx,?_⟩
   rw [if_pos hcx]
   refine ⟨v,?_,h'⟩
   rcases hV' with hV' | hV'
   ·exact hv'.anti hV'
   ·rcases hV' with h2' | h2'
    ·exact hv'.dry (ht.resolve_left (fun h=>h h2')) (hgood.1 s w hg)
    ·exact absurd h2' h3
  ·exact absurd h.1 h3
theorem Da.front {V : World -> Prop} {G : γ -> World -> Prop} {i : Nat} {oi : Oper} (hi : ops[i]? = some oi) (hsel : ∀ (j : Nat) (o : Oper) cs b,ops[j]? = some o -> o.op ≠ .select cs b) (hQ : zec Q) (hgood : Good V G) (post : List Nat) : ∀ (pre : List Nat) (a : Act),
  (∀ x ∈ pre, ∃ ox,ops[x]? = some ox /\ kd x = 0 /\ ox.apart ops oi = true /\ kd i ≠ 3 /\ (kd i ≠ 2 \/ dry P ox.op = true)) -> Da P X fn ops kd Q fin stop (pre ++ i :: post) V G a -> Da P X fn ops kd Q fin stop (i :: (pre ++ post)) V G a
 | [],_,_,h=>h
 | x :: pre,a,hp,h=>by
  obtain ⟨ox,hox,hc,hap,h3,ht⟩:=hp x (List.mem_cons_self ..)
  refine Da.swap hox hi hsel hQ hgood hc hap h3 ht ?_
  obtain ⟨o,ho,h⟩:=h
  obtain rfl : ox = o:=by rw [hox] at ho; exact Option.some.inj ho
  rw [if_pos hc] at h
  obtain ⟨v,hv,h⟩:=h
  refine ⟨ox,hox,?_⟩
  rw [if_pos hc]
  exact ⟨v,hv,Da.front hi hsel hQ hgood post pre _ (fun y hy=>hp y (List.mem_cons_of_mem _ hy)) h⟩
theorem zhj {ord : List Nat} {listed : Array Bool} {i : Nat} (hmem : i ∈ ord) (hlt : i < listed.size) (hun : listed.getD i false = false) (hnd : ord.Nodup) :
  ∃ pre post,ord = pre ++ i :: post /\ (ord.filter fun i=>!listed.getD i false) = (pre.filter fun i=>!listed.getD i false) ++ i :: (post.filter fun i=>!listed.getD i false) /\
   (ord.filter fun j=>!(listed.setIfInBounds i true).getD j false) = (pre.filter fun i=>!listed.getD i false) ++ (post.filter fun i=>!listed.getD i false):=by
 obtain ⟨pre,post,heq⟩:=List.append_of_mem hmem
 have hset : ∀ j,j ≠ i -> (listed.setIfInBounds i true).getD j false = listed.getD j false:=fun j hj=>getD_set_ne false (Ne.symm hj)
 have hself : (listed.setIfInBounds i true).getD i false = true:=by simp [hlt]
 have hnd':=hnd
 rw [heq,List.nodup_append] at hnd'
 have hpre : ∀ x ∈ pre,x ≠ i:=fun x hx e=>hnd'.2.2 x hx i (List.mem_cons_self ..) e
 have hpost : ∀ x ∈ post,x ≠ i:=fun x hx e=>(List.nodup_cons.1 hnd'.2.1).1 (e ▸ hx)
 refine ⟨pre,post,heq,?_,?_⟩
 ·rw [heq,List.filter_append,List.filter_cons_of_pos (by simp [hun])]
 ·rw [heq,List.filter_append,List.filter_cons_of_neg (by rw [hself]; simp)]
  congr 1 <;> refine List.filter_congr fun x hx=>?_
  ·rw [hset x (hpre x hx)]
  ·rw [hset x (hpost x hx)]
theorem zf3 {Stop : γ -> Frame -> List Frame -> World -> Prop} {s : γ} {a : Act} {w : World} {i : Nat} {rest : List Nat} {o : Oper} {k : List Item} {cs : List Frame} {K : γ -> Act -> World -> Prop} (ho : ops[i]? = some o) (h : One P X fn ops o Q K s a w) (ht : X.there s w)
  (hK : ∀ s' a' w',K s' a' w' -> X.there s' w' -> Reach P X Stop s' ((base fn).at a' (.inRegion ops rest :: k)) cs w')
  (hQ : ∀ s' e a' w',Q s' e a' w' -> X.there s' w' -> ∃ ch,e = .panic ch /\ ∀ todo,Reach P X Stop s' { (base fn).at a' todo with mode:=.panicking ch } cs w') :
  Reach P X Stop s ((base fn).at a (.inRegion ops (i :: rest) :: k)) cs w:=by
 have hk : (base fn).kind ≠ .early:=by simp [base]
 have hpan : ∀ s' ch a' w',Q s' (.panic ch) a' w' -> X.there s' w' -> ∀ todo,Reach P X Stop s' { (base fn).at a' todo with mode:=.panicking ch } cs w':=fun s' ch a' w' q ht'=>by
  obtain ⟨ch',e,h⟩:=hQ s' _ a' w' q ht'
  cases e
  exact h
 unfold One at h
 split at h
 ·rename_i hw
  obtain ⟨hf,h⟩:=h
  replace hf:=hf ht
  unfold ziw at hf
  generalize hr : (execOp a.eval o).run P w = r at h hf
  match r,h with
  | .ok (.value v) w',h=>exact .step (fun _=>stepG_value ho hw hk hr) hf (hK _ _ _ h (hf.there ht))
  | .ok .skip w',h=>exact .step (fun _=>stepG_none ho hw hk hr) hf (hK _ _ _ h (hf.there ht))
  | .ok (.defer d) w',h=>exact .step (fun _=>zh3 ho hw hk hr) hf (hK _ _ _ h (hf.there ht))
  | .ok (.enter f args) w',h=>
   refine .step (fun _=>stepG_enter ho hw hk hr) hf (h Stop _ cs (fun s' r w'' p ht'=>?_) (hf.there ht))
   cases r with
   | back v=>
    have hfin : ((base fn).at a (.inRegion ops (i :: rest) :: k)).finish v = (base fn).at (a.put o.dst v) (.inRegion ops rest :: k):=by rw [Frame.finish_at,ho]; rfl
    simp only [hfin]
    exact hK _ _ _ p ht'
   | threw ch=>exact hpan _ _ _ _ p ht' _
  | .halt (.panic v) w',h=>exact .step (fun _=>zh2 ho hw hk hr) hf (hpan _ _ _ _ h (hf.there ht) _)
 ·rename_i hw
  exact .idle (fun _=>stepG_unwanted ho (by simpa using hw)) (hK _ _ _ h ht)
theorem da_lin {A ord : List Nat} {Stop : γ -> Frame -> List Frame -> World -> Prop} {k : List Item} {cs : List Frame} (hchk : zbk P ops A kd ord = true) (hQ : zec Q)
  (hpan : ∀ s' e a' w',Q s' e a' w' -> X.there s' w' -> ∃ ch,e = .panic ch /\ ∀ todo,Reach P X Stop s' { (base fn).at a' todo with mode:=.panicking ch } cs w')
  (hfin : ∀ s a w,fin s a w -> X.there s w -> Reach P X Stop s ((base fn).at a k) cs w)
  (hstop : ∀ rest G a,stop rest G a -> ∀ s w l,G s w -> X.there s w -> LinR ops A ord rest l -> Reach P X Stop s ((base fn).at a (.inRegion ops l :: k)) cs w) :
  ∀ (l rest : List Nat) (V : World -> Prop) (G : γ -> World -> Prop) (s : γ) (a : Act) (w : World),LinR ops A ord rest l -> Good V G -> G s w -> X.there s w -> Da P X fn ops kd Q fin stop rest V G a -> Reach P X Stop s ((base fn).at a (.inRegion ops l :: k)) cs w:=by
 simp only [zbk,Bool.and_eq_true,List.all_eq_true,List.mem_range] at hchk
 obtain ⟨⟨⟨hall,hrange⟩,hpairs⟩,hns⟩:=hchk
 have hsel:=Region.noSelect_spec hns
 have hpw:=zfh hpairs
 have hokne : ∀ x i,zcs P ops A kd x i = true -> x ≠ i:=fun x i h=>by simp [zcs] at h; exact h.1.1.1
 have hokedge : ∀ x i,zcs P ops A kd x i = true -> zhc ops x i = false:=fun x i h=>by simp [zcs] at h; exact h.1.2
 have hnd : ord.Nodup:=zc9 hokne hpw
 intro l
 induction l with
 | nil=>
  rintro rest V G s a w ⟨listed,hsz,hdown,rfl,hlin⟩ hgood hG ht hda
  cases hlin with
  | nil hnil=>
   rw [all_up hsz (fun i hi=>(hall i hi).2) (fun i hi=>by simpa using (hall i hi).1) (fun i hi=>by simpa using hrange i hi) hpw hokedge hnil] at hda
   exact .idle (fun _=>stepG_region_end) (hfin _ _ _ (hda s w hG) ht)
 | cons i l ih=>
  rintro rest V G s a w ⟨listed,hsz,hdown,rfl,hlin⟩ hgood hG ht hda
  cases hlin with
  | cons hr hlin'=>
   obtain ⟨hun,o,ho,hafter⟩:=mem_ready.1 hr
   have hlt : i < ops.size:=(Array.getElem?_eq_some_iff.1 ho).1
   have hltl : i < listed.size:=by omega
   have hwait:=waited ho (hall i hlt).2 hafter hdown
   have hmem : i ∈ ord:=by simpa using (hall i hlt).1
   have hun':=zgo hltl hun
   obtain ⟨pre,post,heq,hf1,hf2⟩:=zhj hmem hltl hun' hnd
   have hpre : ∀ x ∈ pre.filter fun i=>!listed.getD i false, ∃ ox,ops[x]? = some ox /\ kd x = 0 /\ ox.apart ops o = true /\ kd i ≠ 3 /\ (kd i ≠ 2 \/ dry P ox.op = true):=by
    intro x hx
    rw [List.mem_filter] at hx
    have hxo : x ∈ ord:=by rw [heq]; exact List.mem_append_left _ hx.1
    have hxl : x < ops.size:=by simpa using hrange x hxo
    have hp:=zdd hpw heq x hx.1
    have hnw : waits? A i x = false:=by
     cases hb : waits? A i x with
     | false=>rfl
     | true=>have:=hwait x hb; rw [this] at hx; simp at hx
    simp only [zcs,hnw,Bool.false_or,Bool.and_eq_true,bne_iff_ne,beq_iff_eq,Bool.or_eq_true,zhk,dryAt,Array.getElem?_eq_getElem hxl,ho] at hp
    exact ⟨ops[x],Array.getElem?_eq_getElem hxl,hp.2.1.1.1,hp.2.1.1.2,hp.2.1.2,hp.2.2⟩
   have hLR : LinR ops A ord (ord.filter fun j=>!(listed.setIfInBounds i true).getD j false) l:=⟨_,by simp [hsz],zf6 hltl hwait hdown,rfl,hlin'⟩
   have hfr:=Da.front ho hsel hQ hgood (post.filter fun i=>!listed.getD i false) (pre.filter fun i=>!listed.getD i false) a hpre (by rw [<- hf1]; exact hda)
   rw [<- hf2] at hfr
   obtain ⟨o',ho',hf⟩:=hfr
   obtain rfl : o = o':=by rw [ho] at ho'; exact Option.some.inj ho'
   split at hf
   ·obtain ⟨v,hv,hd⟩:=hf
    exact zf3 (K:=fun s' a' w'=>s' = s /\ a' = a.put o.dst v /\ Below w.heap.size w w') ho (hv.one (Q:=Q) (hgood.1 s w hG) fun w' hb=>⟨rfl,rfl,hb⟩) ht (fun s' a' w' ⟨e1,e2,hb⟩ ht'=>by
     subst e1 e2
     exact ih _ V G _ _ w' hLR hgood (hgood.2 _ w w' hG hb) ht' hd) hpan
   ·rcases hf with hf | ⟨h3,hst⟩
    ·exact zf3 ho (hf s w hG) ht (fun s' a' w' ⟨V',G',hgood',hG',_,hd⟩ ht'=>ih _ V' G' s' a' w' hLR hgood' hG' ht' hd) hpan
    ·have hnil : (pre.filter fun i=>!listed.getD i false) = []:=by
      cases hq : pre.filter fun i=>!listed.getD i false with
      | nil=>rfl
      | cons x xs=>exact absurd h3 (hpre x (by rw [hq]; exact List.mem_cons_self ..)).choose_spec.2.2.2.1
     rw [hf2] at hst
     refine hstop _ _ _ hst s w (i :: l) hG ht ⟨listed,hsz,hdown,?_,.cons hr hlin'⟩
     rw [hf1,hnil]
     rfl
end
end
section
section
variable {P : Program} {γ : Type} {X : zad γ} {fn : FuncId} {Q : γ -> Exit -> Act -> World -> Prop} {ops : Array Oper} {fin : γ -> Act -> World -> Prop} {stop : List Nat -> (γ -> World -> Prop) -> Act -> Prop} {kd : Nat -> Nat}
theorem zn2 {o : Oper} (hc : calm o.op = true) (Y : Operand -> Value) (w w' : World) (f : FuncId) (vals : Array Value) : (execOp Y o).run P w ≠ .ok (.enter f vals) w':=by
 have hv : ∀ s : Sem Value,(do pure (Next.value (<- s)) : Sem Next).run P w ≠ .ok (.enter f vals) w':=by
  intro s
  simp only [Sem.run_bind]
  cases s.run P w <;> simp [Result.andThen]
 obtain ⟨dst,op,type,pos,after,guard⟩:=o
 unfold execOp
 cases op <;> simp only [calm,Bool.false_eq_true] at hc ⊢
 case move=>simp
 case assign=>simp
 case nilCheck x=>
  generalize Y x = u
  repeat' split
  all_goals first
   | (simp; done)
   | (unfold runtimePanic; simp [Sem.run_bind,Result.andThen]; done)
   | skip
  simp only [Sem.run_bind,run_program,Result.andThen]
  generalize (nilAhead _ _ _ _ : Sem (Option Bool)).run P w = r
  cases r with
  | halt h w2=>simp
  | ok b w2=>
   simp only
   split <;> simp [unsupported,Sem.run_bind,Result.andThen]
 case pick c a b=>
  simp only [Sem.run_bind]
  cases (asBool (Y c)).run P w <;> simp [Result.andThen]
 case call c=>
  obtain ⟨callee,args,ts⟩:=c
  cases callee with
  | builtin b=>
   cases b <;> simp only [calm,Bool.false_eq_true] at hc
   all_goals exact hv _
  | value f=>simp at hc
  | invoke r n=>simp at hc
 all_goals exact hv _
theorem Val.same_value {V V' : World -> Prop} {o : Oper} {v v' : Value} {a : Act} {w : World} (hc : calm o.op = true) (h : Val P X ops V o v a) (h' : Val P X ops V' o v' a) (hV : V w) (hV' : V' w) : v' = v:=by
 rcases h with ⟨hw,_,hv⟩ | ⟨hw,rfl⟩ <;> rcases h' with ⟨hw',_,hv'⟩ | ⟨hw',rfl⟩
 ·rcases hv with hv | ⟨_,f,vals,hv,_⟩
  ·rcases hv' with hv' | ⟨_,f,vals,hv',_⟩
   ·have:=(hv' w hV').symm.trans (hv w hV)
    simpa using this
   ·exact absurd (hv' w) (zn2 hc _ _ _ _ _)
  ·exact absurd (hv w) (zn2 hc _ _ _ _ _)
 ·rw [hw] at hw'; cases hw'
 ·rw [hw] at hw'; cases hw'
 ·rfl
def zd1 (P : Program) (ops : Array Oper) (A heads : List Nat) (kd : Nat -> Nat) (h x i : Nat) : Bool:=zcs P ops A kd x i || (x == h && (heads.contains i || heads.any (waits? A i)) && x != i && !zhc ops x i && !waits? A x i)
def zi5 (P : Program) (ops : Array Oper) (A heads : List Nat) (kd : Nat -> Nat) (h : Nat) : List Nat -> Bool
 | []=>true
 | x :: rest=>rest.all (zd1 P ops A heads kd h x) && zi5 P ops A heads kd h rest
def zcu (P : Program) (ops : Array Oper) (A heads : List Nat) (kd : Nat -> Nat) (ords : List (Nat × List Nat)) : Bool:=
 (List.range ops.size).all (fun i=>zha ops A i && ((zhd ops i && kd i == 0) || heads.contains i || heads.any (waits? A i))) && heads.all (fun h=>!(kd h == 0) && !(kd h == 3) && ords.any fun p=>p.1 == h) &&
 ords.all (fun p=>heads.contains p.1 && (List.range ops.size).all (p.2.contains ·) && p.2.all (· < ops.size) && zi5 P ops A heads kd p.1 p.2) && !ords.isEmpty && Region.noSelect ops
theorem zh9 {A heads : List Nat} {h : Nat} : ∀ {ord : List Nat},zi5 P ops A heads kd h ord = true -> ord.Pairwise fun x i=>zd1 P ops A heads kd h x i = true
 | [],_=>.nil
 | x :: rest,hh=>by
  simp only [zi5,Bool.and_eq_true,List.all_eq_true] at hh
  exact .cons hh.1 (zh9 hh.2)
theorem da_lins {A heads : List Nat} {ords : List (Nat × List Nat)} {Stop : γ -> Frame -> List Frame -> World -> Prop} {k : List Item} {cs : List Frame} (hchk : zcu P ops A heads kd ords = true) (hQ : zec Q)
  (hpan : ∀ s' e a' w',Q s' e a' w' -> X.there s' w' -> ∃ ch,e = .panic ch /\ ∀ todo,Reach P X Stop s' { (base fn).at a' todo with mode:=.panicking ch } cs w')
  (hfin : ∀ s a w,fin s a w -> X.there s w -> Reach P X Stop s ((base fn).at a k) cs w)
  (hstop : ∀ rest G a,¬ stop rest G a) :
  ∀ (l : List Nat) (listed : Array Bool) (s : γ) (a : Act) (w : World),Lin ops listed l -> listed.size = ops.size -> (∀ i x,listed.getD i false = true -> waits? A i x = true -> listed.getD x false = true) -> X.there s w ->
   (((∀ h ∈ heads,listed.getD h false = false) /\ ∀ p ∈ ords, ∃ (V : World -> Prop) (G : γ -> World -> Prop),Good V G /\ G s w /\ Da P X fn ops kd Q fin stop (p.2.filter fun i=>!listed.getD i false) V G a) \/
    (∃ p ∈ ords,listed.getD p.1 false = true /\ ∃ (V : World -> Prop) (G : γ -> World -> Prop),Good V G /\ G s w /\ Da P X fn ops kd Q fin stop (p.2.filter fun i=>!listed.getD i false) V G a)) ->
   Reach P X Stop s ((base fn).at a (.inRegion ops l :: k)) cs w:=by
 simp only [zcu,Bool.and_eq_true,List.all_eq_true,List.mem_range,Bool.not_eq_true'] at hchk
 obtain ⟨⟨⟨⟨hall,hheads⟩,hords⟩,hne⟩,hns⟩:=hchk
 have hsel:=Region.noSelect_spec hns
 have hpw : ∀ p ∈ ords,p.2.Pairwise fun x i=>zd1 P ops A heads kd p.1 x i = true:=fun p hp=>zh9 (hords p hp).2
 have hokne : ∀ h x i,zd1 P ops A heads kd h x i = true -> x ≠ i:=fun h x i hh=>by
  simp only [zd1,zcs,Bool.or_eq_true,Bool.and_eq_true,bne_iff_ne] at hh
  rcases hh with hh | hh
  ·exact hh.1.1.1
  ·exact hh.1.1.2
 have hokedge : ∀ h x i,zd1 P ops A heads kd h x i = true -> zhc ops x i = false:=fun h x i hh=>by
  simp only [zd1,zcs,Bool.or_eq_true,Bool.and_eq_true,Bool.not_eq_true'] at hh
  rcases hh with hh | hh
  ·exact hh.1.2
  ·exact hh.1.2
 have hnd : ∀ p ∈ ords,p.2.Nodup:=fun p hp=>zc9 (hokne p.1) (hpw p hp)
 have hin : ∀ p ∈ ords, ∀ i,i < ops.size -> i ∈ p.2:=fun p hp i hi=>by simpa using (hords p hp).1.1.2 i hi
 have hout : ∀ p ∈ ords, ∀ i ∈ p.2,i < ops.size:=fun p hp i hi=>by simpa using (hords p hp).1.2 i hi
 have hmask : ∀ i,i < ops.size -> zha ops A i = true:=fun i hi=>(hall i hi).1
 intro l
 induction l with
 | nil=>
  intro listed s a w hlin hsz hdown ht hphase
  cases hlin with
  | nil hnil=>
   have fin' : ∀ p ∈ ords, ∀ (V : World -> Prop) (G : γ -> World -> Prop),G s w -> Da P X fn ops kd Q fin stop (p.2.filter fun i=>!listed.getD i false) V G a -> Reach P X Stop s ((base fn).at a (.inRegion ops [] :: k)) cs w:=fun p hp V G hG hdl=>by
    rw [all_up hsz hmask (hin p hp) (hout p hp) (hpw p hp) (hokedge p.1) hnil] at hdl
    exact .idle (fun _=>stepG_region_end) (hfin _ _ _ (hdl s w hG) ht)
   rcases hphase with ⟨_,hdls⟩ | ⟨p,hp,_,V,G,_,hG,hdl⟩
   ·obtain ⟨p₀,hp₀⟩ : ∃ p,p ∈ ords:=by
     cases ords with
     | nil=>simp at hne
     | cons p _=>exact ⟨p,List.mem_cons_self ..⟩
    obtain ⟨V,G,_,hG,hdl⟩:=hdls p₀ hp₀
    exact fin' p₀ hp₀ V G hG hdl
   ·exact fin' p hp V G hG hdl
 | cons i l ih=>
  intro listed s a w hlin hsz hdown ht hphase
  cases hlin with
  | cons hr hlin'=>
   obtain ⟨hun,o,ho,hafter⟩:=mem_ready.1 hr
   have hlt : i < ops.size:=(Array.getElem?_eq_some_iff.1 ho).1
   have hltl : i < listed.size:=by omega
   have hwait:=waited ho (hmask i hlt) hafter hdown
   have hun':=zgo hltl hun
   have hsz' : (listed.setIfInBounds i true).size = ops.size:=by simp [hsz]
   have hdown':=zf6 hltl hwait hdown
   have hself : (listed.setIfInBounds i true).getD i false = true:=by simp [hltl]
   have hcalm : zhd ops i = calm o.op:=by unfold zhd; rw [ho]
   have front : ∀ p ∈ ords,(∀ x ∈ p.2,zd1 P ops A heads kd p.1 x i = true -> listed.getD x false = false -> zcs P ops A kd x i = true) -> ∀ (V : World -> Prop) (G : γ -> World -> Prop),Good V G -> Da P X fn ops kd Q fin stop (p.2.filter fun i=>!listed.getD i false) V G a ->
     Da P X fn ops kd Q fin stop (i :: p.2.filter fun j=>!(listed.setIfInBounds i true).getD j false) V G a:=fun p hp hok V G hgood hdl=>by
    obtain ⟨pre,post,heq,hf1,hf2⟩:=zhj (hin p hp i hlt) hltl hun' (hnd p hp)
    rw [hf2]
    refine Da.front ho hsel hQ hgood _ _ a (fun x hx=>?_) (by rw [<- hf1]; exact hdl)
    rw [List.mem_filter] at hx
    have hxo : x ∈ p.2:=by rw [heq]; exact List.mem_append_left _ hx.1
    have hxl : x < ops.size:=hout p hp x hxo
    have hxu : listed.getD x false = false:=by simpa using hx.2
    have hp':=hok x hxo (zdd (hpw p hp) heq x hx.1) hxu
    have hnw : waits? A i x = false:=by
     cases hb : waits? A i x with
     | false=>rfl
     | true=>rw [hwait x hb] at hxu; cases hxu
    simp only [zcs,hnw,Bool.false_or,Bool.and_eq_true,bne_iff_ne,beq_iff_eq,Bool.or_eq_true,zhk,dryAt,Array.getElem?_eq_getElem hxl,ho] at hp'
    exact ⟨ops[x],Array.getElem?_eq_getElem hxl,hp'.2.1.1.1,hp'.2.1.1.2,hp'.2.1.2,hp'.2.2⟩
   rcases hphase with ⟨hnone,hdls⟩ | ⟨p,hp,hhead,V,G,hgood,hG,hdl⟩
   ·by_cases hc : calm o.op = true /\ kd i = 0
    ·obtain ⟨hc,hk0⟩:=hc
     have hih : heads.contains i = false:=by
      cases hb : heads.contains i with
      | false=>rfl
      | true=>
       have:=(hheads i (by simpa using hb)).1.1
       rw [hk0] at this
       simp at this
     have hiw : heads.any (waits? A i) = false:=by
      rw [List.any_eq_false]
      intro h hh hw
      have h1:=hwait h hw
      rw [hnone h hh] at h1
      cases h1
     have stills : ∀ p ∈ ords, ∃ (V : World -> Prop) (G : γ -> World -> Prop),Good V G /\ G s w /\ ∃ v,Val P X ops V o v a /\ Da P X fn ops kd Q fin stop (p.2.filter fun j=>!(listed.setIfInBounds i true).getD j false) V G (a.put o.dst v):=fun p hp=>by
      obtain ⟨V,G,hgood,hG,hdl⟩:=hdls p hp
      obtain ⟨o',ho',hf⟩:=front p hp (fun x _ hx _=>by
       simp only [zd1,hih,hiw,Bool.and_false,Bool.false_and,Bool.or_false] at hx
       exact hx) V G hgood hdl
      obtain rfl : o = o':=by rw [ho] at ho'; exact Option.some.inj ho'
      rw [if_pos hk0] at hf
      exact ⟨V,G,hgood,hG,hf⟩
     obtain ⟨p₀,hp₀⟩ : ∃ p,p ∈ ords:=by
      cases ords with
      | nil=>simp at hne
      | cons p _=>exact ⟨p,List.mem_cons_self ..⟩
     obtain ⟨V₀,G₀,hgood₀,hG₀,v,hv,_⟩:=stills p₀ hp₀
     refine zf3 (K:=fun s' a' w'=>s' = s /\ a' = a.put o.dst v /\ Below w.heap.size w w') ho (hv.one (Q:=Q) (hgood₀.1 s w hG₀) fun w' hb=>⟨rfl,rfl,hb⟩) ht (fun s' a' w' ⟨e1,e2,hb⟩ ht'=>?_) hpan
     subst e1 e2
     refine ih _ _ _ w' hlin' hsz' hdown' ht' (.inl ⟨fun h hh=>?_,fun p hp=>?_⟩)
     ·have hne : i ≠ h:=by rintro rfl; rw [show heads.contains i = true by simpa using hh] at hih; cases hih
      rw [getD_set_ne false hne]
      exact hnone h hh
     ·obtain ⟨V,G,hgood,hG,v',hv',hd⟩:=stills p hp
      obtain rfl:=hv.same_value hc hv' (hgood₀.1 _ w hG₀) (hgood.1 _ w hG)
      exact ⟨V,G,hgood,hgood.2 _ w w' hG hb,hd⟩
    ·have hih : i ∈ heads:=by
      have:=(hall i hlt).2
      rw [hcalm] at this
      simp only [Bool.or_eq_true,Bool.and_eq_true,beq_iff_eq,hc,false_or,List.any_eq_true] at this
      rcases this with this | ⟨h,hh,hw⟩
      ·simpa using this
      ·have h1:=hwait h hw
       rw [hnone h hh] at h1
       cases h1
     obtain ⟨p,hp,hpi⟩ : ∃ p ∈ ords,p.1 = i:=by simpa using (hheads i hih).2
     have hkd:=hheads i hih
     obtain ⟨V,G,hgood,hG,hdl⟩:=hdls p hp
     obtain ⟨o',ho',hf⟩:=front p hp (fun x _ hx _=>by
      have h1:=hokne _ _ _ hx
      simp only [zd1,Bool.or_eq_true,Bool.and_eq_true,beq_iff_eq] at hx
      rcases hx with hx | hx
      ·exact hx
      ·exact absurd (hx.1.1.1.1.trans hpi) h1) V G hgood hdl
     obtain rfl : o = o':=by rw [ho] at ho'; exact Option.some.inj ho'
     rw [if_neg (by have:=hkd.1.1; simpa using this)] at hf
     rcases hf with hf | ⟨h3,_⟩
     ·exact zf3 ho (hf s w hG) ht (fun s' a' w' ⟨V',G',hgood',hG',_,hd⟩ ht'=>ih _ s' a' w' hlin' hsz' hdown' ht' (.inr ⟨p,hp,by rw [hpi]; exact hself,V',G',hgood',hG',hd⟩)) hpan
     ·have:=hkd.1.2
      rw [h3] at this
      simp at this
   ·obtain ⟨o',ho',hf⟩:=front p hp (fun x _ hx hxu=>by
     simp only [zd1,Bool.or_eq_true,Bool.and_eq_true,beq_iff_eq] at hx
     rcases hx with hx | hx
     ·exact hx
     ·rw [hx.1.1.1.1,hhead] at hxu; cases hxu) V G hgood hdl
    obtain rfl : o = o':=by rw [ho] at ho'; exact Option.some.inj ho'
    have next : (listed.setIfInBounds i true).getD p.1 false = true:=getD_set_true hhead
    split at hf
    ·obtain ⟨v,hv,hd⟩:=hf
     refine zf3 (K:=fun s' a' w'=>s' = s /\ a' = a.put o.dst v /\ Below w.heap.size w w') ho (hv.one (Q:=Q) (hgood.1 s w hG) fun w' hb=>⟨rfl,rfl,hb⟩) ht (fun s' a' w' ⟨e1,e2,hb⟩ ht'=>?_) hpan
     subst e1 e2
     exact ih _ _ _ w' hlin' hsz' hdown' ht' (.inr ⟨p,hp,next,V,G,hgood,hgood.2 _ w w' hG hb,hd⟩)
    ·rcases hf with hf | ⟨_,hst⟩
     ·exact zf3 ho (hf s w hG) ht (fun s' a' w' ⟨V',G',hgood',hG',_,hd⟩ ht'=>ih _ s' a' w' hlin' hsz' hdown' ht' (.inr ⟨p,hp,next,V',G',hgood',hG',hd⟩)) hpan
     ·exact absurd hst (hstop _ _ _)
end
end
end Go.Proofs.Ytonhfgjofgbcdaa.Jay
