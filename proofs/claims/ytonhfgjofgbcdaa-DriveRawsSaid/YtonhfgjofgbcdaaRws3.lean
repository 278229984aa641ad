/- A part of this claim's proof. -/
import Derived.Test.YtonhfgjofgbcdaaRws2
import Derived.WalkKit
set_option linter.unusedSimpArgs false
set_option linter.unusedVariables false
set_option maxRecDepth 20000
namespace Go.Proofs.Ytonhfgjofgbcdaa.Jay
open Go Go.Conc
section
section
variable {P : Program} {γ : Type} {X : zad γ} {fn : FuncId} {Q : γ -> Exit -> Act -> World -> Prop} {s : γ} {a : Act} {w : World} {ops : Array Oper} {o : Oper} {rest : List Oper} {oth : Nat -> Prop}
theorem upon_value (K : γ -> Act -> World -> Prop) (v : Value) (w : World) : Upon P X o a s K Q (.ok (.value v) w) = K s (a.put o.dst v) w:=rfl
theorem upon_skip (K : γ -> Act -> World -> Prop) (w : World) : Upon P X o a s K Q (.ok .skip w) = K s (a.put o.dst undef) w:=rfl
/-! ### Stores -/
theorem zoy {ad : Addr} {u : Value} (h : w.cell? ad = some u) : ad.block < w.heap.size /\ ∀ x t,w.heap[ad.block]? ≠ some (.view x t):=by
 unfold World.cell? at h
 cases hb : w.heap[ad.block]? with
 | none=>rw [hb] at h; cases h
 | some o=>
  refine ⟨(Array.getElem?_eq_some_iff.1 hb).1,fun x t e=>?_⟩
  cases e
  rw [hb] at h
  cases h
theorem zgd {W : Nat -> Prop} {t : TypeId} {ad : Addr} {v : Value} (h : W ad.block) : zax P W (Instr.storeAt t (.pointer (some ad)) v):=zob t ad v h
theorem zcy {t : TypeId} {p x : Operand} (ho : o.op = .store t p x) {ad : Addr} (hp : a.eval p = .pointer (some ad)) {u : Value} (hc : w.cell? ad = some u) (hn : ¬ oth ad.block) (hoth : ∀ b,oth b -> b < w.heap.size) : ziw P oth fn o a w:=by
 obtain ⟨h1,h2⟩:=zoy hc
 refine zci (W:=fun b=>b = ad.block) ?_ hoth (fun b hb=>by subst hb; exact ⟨hn,h1,h2⟩)
 unfold execOp
 simp only [ho,hp]
 exact za0 (zgd rfl) fun _=>trivial
/-! ### Calls -/
theorem zdx {W : Nat -> Prop} {f : FuncId} {func : Func} {c : Code} {args : Array Value} (hf : P.funcs[f]? = some func) (hname : (func.name == "runtime.NumGoroutine") = false) (hb : func.body = some c) : zax P W (callFunc f args) := by
 unfold callFunc
 show zax P W (Sem.bind (Sem.program Sem.pure) _)
 simp only [Sem.bind,zax,hf,hname,hb]
 trivial
theorem zen {f : FuncId} {func : Func} {c : Code} {args : Array Value} (hf : P.funcs[f]? = some func) (hname : (func.name == "runtime.NumGoroutine") = false) (hb : func.body = some c) : (callFunc f args).run P w = .ok (.enter f args) w := by
 have h1 : ¬ func.name = "runtime.NumGoroutine" := by simpa using hname
 have h2 : ¬ func.body = none:=by rw [hb]; simp
 simp [callFunc,hf,h1,h2]
theorem one_callv {x : Operand} {args : Array Operand} {ats : Array TypeId} {f : FuncId} {func : Func} {c : Code} {first captured vals : Array Value} {K : γ -> Act -> World -> Prop} (hop : o.op = .call { callee:=.value x,args,argTypes:=ats }) (hw : Region.wanted o (yielded ops a.tmps) = true)
  (hx : a.eval x = .func (.func f) first captured) (hv : first ++ args.map a.eval ++ captured = vals) (hf : P.funcs[f]? = some func) (hname : (func.name == "runtime.NumGoroutine") = false) (hb : func.body = some c)
  (h : Jdo P X f vals s w fun s' r w'=>match r with | .back v=>K s' (a.put o.dst v) w' | .threw ch=>Q s' (.panic ch) a w') : One P X fn ops o Q K s a w:=by
 have he : execOp a.eval o = callFunc f vals:=by
  unfold execOp
  simp only [hop,resolve,hx,Deferred.ofValue]
  show invoke (.fn (.func f) captured) (first ++ args.map a.eval) = _
  simp only [invoke,hv]
 unfold One
 rw [if_pos hw]
 refine ⟨fun ht=>zb3 (by rw [he]; exact zdx hf hname hb) ht,?_⟩
 rw [he,zen hf hname hb]
 exact h
theorem one_call {args : Array Operand} {ats : Array TypeId} {f : FuncId} {func : Func} {c : Code} {vals : Array Value} {K : γ -> Act -> World -> Prop} (hop : o.op = .call { callee:=.value (.func f),args,argTypes:=ats }) (hw : Region.wanted o (yielded ops a.tmps) = true)
  (hv : args.map a.eval = vals) (hf : P.funcs[f]? = some func) (hname : (func.name == "runtime.NumGoroutine") = false) (hb : func.body = some c)
  (h : Jdo P X f vals s w fun s' r w'=>match r with | .back v=>K s' (a.put o.dst v) w' | .threw ch=>Q s' (.panic ch) a w') : One P X fn ops o Q K s a w:=
 one_callv (first:=#[]) (captured:=#[]) hop hw rfl (by simpa using hv) hf hname hb h
theorem zaj (h : One P X fn ops o Q (Lst P X fn ops Q rest) s a w) : Lst P X fn ops Q (o :: rest) s a w:=h
theorem zbf {args : Array Operand} {ats : Array TypeId} {f : FuncId} {func : Func} {c : Code} (vals : Array Value) (hop : o.op = .call { callee:=.value (.func f),args,argTypes:=ats }) (hw : Region.wanted o (yielded ops a.tmps) = true)
  (hv : args.map a.eval = vals) (hf : P.funcs[f]? = some func) (hname : (func.name == "runtime.NumGoroutine") = false) (hb : func.body = some c) {Post : γ -> zf9 -> World -> Prop}
  (hd : Jdo P X f vals s w Post) (h : ∀ s' r w',Post s' r w' -> match r with | .back v=>Lst P X fn ops Q rest s' (a.put o.dst v) w' | .threw ch=>Q s' (.panic ch) a w') : Lst P X fn ops Q (o :: rest) s a w:=
 one_call hop hw hv hf hname hb (hd.mono fun s' r w' p=>by have:=h s' r w' p; cases r <;> exact this)
/-! ### Results -/
theorem only_results {W : Nat -> Prop} (func : Func) (tmps : Array Value) : zax P W (results func tmps):=by
 unfold results
 refine za0 (only_mapM _ _ fun r=>?_) fun vs=>?_
 ·cases r with
  | tmp t=>trivial
  | cell t ty=>exact za0 (zlh _) fun ad=>zj2 _ _
 ·trivial
theorem zdf (func : Func) (tmps : Array Value) (oth : Nat -> Prop) (w : World) : ∀ e ∈ (results func tmps).events P w #[],EvOk oth e \/ ∃ f,e.loc = .mark (.extern f):=by
 obtain ⟨h1, -, -⟩:=only_runT (P:=P) (W:=fun _=>False) (results func tmps) w #[] (only_results func tmps) (fun _ h=>h.elim) (fun _ h=>h.elim)
 rw [Sem.runT_eq] at h1
 intro e he
 rcases h1 e he with h | h
 ·simp at h
 ·unfold EvW at h
  unfold EvOk
  split at h
  ·rename_i x hl; rw [hl]; exact .inl ⟨h.1,fun hw=>(h.2 hw).elim⟩
  ·rename_i r hl; rw [hl]; exact .inl fun hw=>(h hw).elim
  ·rename_i m hl
   rw [hl]
   rcases h with h | ⟨f,h⟩
   ·exact .inl (.inl h)
   ·exact .inr ⟨f,by rw [h]⟩
  ·exact h.elim
end
section
variable {P : Program} {γ : Type} {X : zad γ} {s : γ} {a : Act} {w : World}
theorem zar {f : FuncId} {fn : Func} {c : Code} {args : Array Value} {Post : γ -> zf9 -> World -> Prop} (hf : P.funcs[f]? = some fn) (hb : fn.body = some c)
  (h : Wp P X f c (Body P fn Post) s { tmps:=args ++ Array.replicate (fn.ntmps - args.size) undef,defers:=[] } w) : Jdo P X f args s w Post:=by
 intro Stop cl cs hc ht
 rw [enter_at args hf hb]
 have hleave : ∀ (s' : γ) (a' : Act) (w' : World) (todo : List Item),X.there s' w' -> (a'.defers = [] /\ ∃ v,(results fn a'.tmps).run P w' = .ok v w' /\ Post s' (.back v) w') ->
   Reach P X Stop s' { (base f).at a' todo with mode:=.returning } (cl :: cs) w':=by
  rintro s' a' w' todo ht' ⟨hd,v,hr,hp⟩
  exact .step (fun _=>zed (b:=base f) rfl hd hf hr) ⟨fun e hm=>(zdf (P:=P) fn a'.tmps (X.oth s') w' e (mem_seen hm)).resolve_right (fun ⟨f,hf⟩=>zce hm f hf),fun _ _=>rfl,Nat.le_refl _⟩ (hc s' (.back v) w' hp ht')
 refine h Stop (base f) [] (cl :: cs) rfl (by simp [base]) (fun s' e a' w' q ht'=>?_) ht
 cases e with
 | normal=>exact .idle (fun _=>stepG_end) (hleave s' a' w' [] ht' q)
 | ret=>exact fun todo=>hleave s' a' w' todo ht' q
 | panic ch=>exact fun todo=>.idle (fun _=>stepG_threw (b:=base f) q.1 hf) (hc s' (.threw ch) w' q.2 ht')
 | exit id=>exact q.elim
 | goto l=>exact q.elim
 | outgrown=>exact q.elim
theorem za6 {func : Func} {t : Tmp} (h : func.results = #[.tmp t]) {Post : γ -> zf9 -> World -> Prop} (hd : a.defers = []) (hp : Post s (.back (a.tmps.getD t undef)) w) : Body P func Post s .ret a w:=⟨hd,_,results_tmp h _ _ _,hp⟩
theorem zb0 {func : Func} {Post : γ -> zf9 -> World -> Prop} (v : Value) (hd : a.defers = []) (hr : (results func a.tmps).run P w = .ok v w) (hp : Post s (.back v) w) : Body P func Post s .ret a w:=⟨hd,v,hr,hp⟩
/-! ### From the walk to the kit's contracts: one goroutine,alone -/
def alone : zad Unit:={ oth:=fun _ _=>False,sw:=fun _ _ _ _ _=>False }
theorem zm4 {Stop : Unit -> Frame -> List Frame -> World -> Prop} {u : Unit} {fr : Frame} {cs : List Frame} (h : Reach P alone Stop u fr cs w) : ∃ fr' cs' w',Stop () fr' cs' w' /\ Steps P (lone fr cs w) (lone fr' cs' w'):=by
 induction h with
 | stop h=>exact ⟨_,_,_,h,Steps.refl _ _⟩
 | step h1 _ _ ih=>
  obtain ⟨fr',cs',w',hs,hst⟩:=ih
  refine ⟨fr',cs',w',hs,.head (step_lone_go ?_) hst⟩
  have:=h1 true
  unfold G at this
  rw [this]
  rfl
 | turn h1 _ _=>exact h1.elim
end
end
section
def calm : Op -> Bool
 | .move _ | .assign _ | .pick .. | .load .. | .nilCheck _ | .binOp .. | .unOp .. | .convert .. | .fieldAddr .. | .field .. | .indexAddr .. | .index .. | .extract .. | .slice .. | .makeFunc .. | .build .. | .makeInterface ..=>true
 | .call { callee:=.builtin .len,.. } | .call { callee:=.builtin .cap,.. }=>true
 | _=>false
def zf1 (P : Program) (ops : Array Oper) (S : World -> Prop) (o : Oper) (v : Value) (a : Act) : Prop:=
 (Region.wanted o (yielded ops a.tmps) = true /\ zax P (fun _=>False) (execOp a.eval o) /\ ∀ w,S w -> (execOp a.eval o).run P w = .ok (.value v) w) \/
 (Region.wanted o (yielded ops a.tmps) = false /\ v = undef)
section
variable {P : Program} {γ : Type} {X : zad γ} {fn : FuncId} {Q : γ -> Exit -> Act -> World -> Prop} {ops : Array Oper} {S : World -> Prop} {tight : Nat -> Bool}
theorem zf1.of_same {o : Oper} {v : Value} {a a' : Act} (hy : zf1 P ops S o v a) (he : execOp a'.eval o = execOp a.eval o)
  (hw : Region.wanted o (yielded ops a'.tmps) = Region.wanted o (yielded ops a.tmps)) : zf1 P ops S o v a':=by
 unfold zf1 at *
 rw [he,hw]
 exact hy
theorem zf1.one {o : Oper} {v : Value} {s : γ} {a : Act} {w : World} {K : γ -> Act -> World -> Prop} (hy : zf1 P ops S o v a) (hS : S w) (h : K s (a.put o.dst v) w) : One P X fn ops o Q K s a w:=by
 unfold One
 rcases hy with ⟨hw,ho,hv⟩ | ⟨hw,rfl⟩
 ·rw [if_pos hw]
  refine ⟨fun ht=>zb3 ho ht,?_⟩
  rw [hv w hS]
  exact h
 ·rw [if_neg (by simp [hw])]
  exact h
def isSlice (P : Program) (t : TypeId) : Bool:=match P.underlying t with | some (.slice _)=>true | _=>false
def zji (P : Program) : Op -> Bool
 | .move _ | .assign _=>true
 | .call { callee:=.builtin .len,args,argTypes }=>match args.toList,argTypes.toList with
  | [_],[t]=>isSlice P t
  | _,_=>false
 | _=>false
theorem zf1.moved {S' : World -> Prop} {o : Oper} {v : Value} {a : Act} {w : World} (hm : zji P o.op = true) (hS : S w) (hy : zf1 P ops S o v a) : zf1 P ops S' o v a:=by
 unfold zf1 at *
 rcases hy with ⟨hw,ho,hv⟩ | h
 ·refine .inl ⟨hw,ho,fun w' _=>?_⟩
  have h1:=hv w hS
  unfold zji at hm
  split at hm
  ·rename_i hop
   simp only [execOp,hop] at h1 ⊢
   cases h1
   rfl
  ·rename_i hop
   simp only [execOp,hop] at h1 ⊢
   cases h1
   rfl
  ·rename_i args ats hop
   split at hm
   ·rename_i x t hx ht
    obtain rfl : args = #[x]:=Array.ext' hx
    obtain rfl : ats = #[t]:=Array.ext' ht
    unfold isSlice at hm
    split at hm
    ·rename_i e hu
     have he : execOp a.eval o = (do pure (Next.value (<- Builtin.len_ #[t] o.type #[a.eval x])) : Sem Next):=by
      unfold execOp
      simp only [hop,resolve,List.map_toArray,List.map_cons,List.map_nil]
      rfl
     rw [he] at h1 ⊢
     have hund : ∀ w,(underlying t).run P w = .ok (.slice e) w:=fun w=>by simp [underlying,hu]
     cases hxv : a.eval x with
     | slice b n c=>
      rw [hxv] at h1
      simp [Builtin.len_,Sem.run_bind,hund,Result.andThen] at h1 ⊢
      exact h1
     | _=>
      rw [hxv] at h1
      simp [Builtin.len_,Sem.run_bind,hund,Result.andThen,stuck] at h1
    ·cases hm
   ·cases hm
  ·cases hm
 ·exact .inr h
def Dl (P : Program) {γ : Type} (X : zad γ) (fn : FuncId) (ops : Array Oper) (Q : γ -> Exit -> Act -> World -> Prop) (tight : Nat -> Bool) : List Nat -> (World -> Prop) -> γ -> Act -> World -> Prop
 | [],_,s,a,w=>Q s .normal a w
 | i :: rest,S,s,a,w=>∃ o,ops[i]? = some o /\
   if calm o.op = true then ∃ v,zf1 P ops S o v a /\ Dl P X fn ops Q tight rest S s (a.put o.dst v) w
   else One P X fn ops o Q (fun s' a' w'=>∃ S' : World -> Prop,S' w' /\ (tight i = false -> S' = S) /\ Dl P X fn ops Q tight rest S' s' a' w') s a w
def zec (Q : γ -> Exit -> Act -> World -> Prop) : Prop:=∀ s ch (a : Act) d v w,Q s (.panic ch) (a.put d v) w -> Q s (.panic ch) a w
theorem one_put {oi oj : Oper} {v : Value} {s : γ} {a : Act} {w : World} (hap : oi.apart ops oj = true) (hsi : ∀ cs b,oi.op ≠ .select cs b) (hsj : ∀ cs b,oj.op ≠ .select cs b) (hQ : zec Q)
  {K : γ -> Act -> World -> Prop} (hy : zf1 P ops S oi v a) (h : One P X fn ops oj Q K s (a.put oi.dst v) w) :
  One P X fn ops oj Q (fun s' a' w'=>zf1 P ops S oi v a' /\ K s' (a'.put oi.dst v) w') s a w:=by
 obtain ⟨h1,h2,h3⟩:=Oper.apart_spec hap
 have keep : ∀ (a : Act),zf1 P ops S oi v a -> ∀ u,zf1 P ops S oi v (a.put oj.dst u):=fun a hy u=>
  hy.of_same (execOp_put oi hsi a oj.dst u h3) (wanted_put oi a oj.dst u h3)
 have keepD : ∀ d,zf1 P ops S oi v { a with defers:=d :: a.defers }:=fun d=>hy.of_same rfl rfl
 unfold One at *
 rw [wanted_put oj a oi.dst v h1] at h
 split
 ·rename_i hw
  rw [if_pos hw] at h
  have he:=execOp_put oj hsj a oi.dst v h1
  unfold ziw listed at h
  rw [he] at h
  refine ⟨h.1,?_⟩
  have h4:=h.2
  generalize (execOp a.eval oj).run P w = r at h4
  match r,h4 with
  | .ok (.value u) w',h4=>exact ⟨keep a hy u,by rw [<- Act.put_comm a v u h2]; exact h4⟩
  | .ok .skip w',h4=>exact ⟨keep a hy _,by rw [<- Act.put_comm a v undef h2]; exact h4⟩
  | .ok (.defer d) w',h4=>
   refine ⟨keep _ (keepD d) _,?_⟩
   rw [<- Act.put_comm _ v undef h2,<- Act.put_defers]
   exact h4
  | .ok (.enter f args) w',h4=>
   refine Jdo.mono h4 fun s' r w'' p=>?_
   cases r with
   | back u=>exact ⟨keep a hy u,by rw [<- Act.put_comm a v u h2]; exact p⟩
   | threw ch=>exact hQ _ _ _ _ _ _ p
  | .halt (.panic u) w',h4=>exact hQ _ _ _ _ _ _ h4
 ·rename_i hw
  rw [if_neg hw] at h
  exact ⟨keep a hy _,by rw [<- Act.put_comm a v undef h2]; exact h⟩
theorem Dl.swap {x i : Nat} {ox oi : Oper} {rest : List Nat} {s : γ} {a : Act} {w : World} (hx : ops[x]? = some ox) (hi : ops[i]? = some oi) (hsel : ∀ (j : Nat) (o : Oper) cs b,ops[j]? = some o -> o.op ≠ .select cs b) (hQ : zec Q)
  (hcx : calm ox.op = true) (hap : ox.apart ops oi = true) (ht : calm oi.op = true \/ tight i = false \/ zji P ox.op = true) (hS : S w) (h : Dl P X fn ops Q tight (x :: i :: rest) S s a w) : Dl P X fn ops Q tight (i :: x :: rest) S s a w:=by
 obtain ⟨o,ho,h⟩:=h
 obtain rfl : ox = o:=by rw [hx] at ho; exact Option.some.inj ho
 rw [if_pos hcx] at h
 obtain ⟨v,hv,o',ho',h⟩:=h
 obtain rfl : oi = o':=by rw [hi] at ho'; exact Option.some.inj ho'
 obtain ⟨h1,h2,h3⟩:=Oper.apart_spec hap
 refine ⟨oi,hi,?_⟩
 by_cases hci : calm oi.op = true
 ·rw [if_pos hci] at h ⊢
  obtain ⟨u,hu,h⟩:=h
  refine ⟨u,hu.of_same (execOp_put oi (fun cs b=>hsel i oi cs b hi) a ox.dst v h1).symm (wanted_put oi a ox.dst v h1).symm,ox,hx,?_⟩
  rw [if_pos hcx]
  refine ⟨v,hv.of_same (execOp_put ox (fun cs b=>hsel x ox cs b hx) a oi.dst u h3) (wanted_put ox a oi.dst u h3),?_⟩
  rw [<- Act.put_comm a v u h2]
  exact h
 ·rw [if_neg hci] at h ⊢
  refine One.mono (one_put hap (fun cs b=>hsel x ox cs b hx) (fun cs b=>hsel i oi cs b hi) hQ hv h) ?_
  rintro s' a' w' ⟨hv',S',hS',hSS,h'⟩
  rcases ht.resolve_left hci with ht | ht
  ·obtain rfl:=hSS ht
   refine ⟨S',hS',fun _=>rfl,ox,hx,?_⟩
   rw [if_pos hcx]
   exact ⟨v,hv',h'⟩
  ·refine ⟨S',hS',hSS,ox,hx,?_⟩
   rw [if_pos hcx]
   exact ⟨v,hv'.moved ht hS,h'⟩
theorem Dl.front {i : Nat} {oi : Oper} (hi : ops[i]? = some oi) (hsel : ∀ (j : Nat) (o : Oper) cs b,ops[j]? = some o -> o.op ≠ .select cs b) (hQ : zec Q) (post : List Nat) : ∀ (pre : List Nat) (s : γ) (a : Act) (w : World),
  (∀ x ∈ pre, ∃ ox,ops[x]? = some ox /\ calm ox.op = true /\ ox.apart ops oi = true /\ (calm oi.op = true \/ tight i = false \/ zji P ox.op = true)) -> S w -> Dl P X fn ops Q tight (pre ++ i :: post) S s a w -> Dl P X fn ops Q tight (i :: (pre ++ post)) S s a w
 | [],_,_,_,_,_,h=>h
 | x :: pre,s,a,w,hp,hS,h=>by
  obtain ⟨ox,hox,hc,hap,ht⟩:=hp x (List.mem_cons_self ..)
  refine Dl.swap hox hi hsel hQ hc hap ht hS ?_
  obtain ⟨o,ho,h⟩:=h
  obtain rfl : ox = o:=by rw [hox] at ho; exact Option.some.inj ho
  rw [if_pos hc] at h
  obtain ⟨v,hv,h⟩:=h
  refine ⟨ox,hox,?_⟩
  rw [if_pos hc]
  exact ⟨v,hv,Dl.front hi hsel hQ post pre s _ w (fun y hy=>hp y (List.mem_cons_of_mem _ hy)) hS h⟩
end
/-! ### The check of an order -/
def waits? (A : List Nat) (i x : Nat) : Bool:=(A.getD i 0).testBit x
def zhd (ops : Array Oper) (i : Nat) : Bool:=match ops[i]? with | some o=>calm o.op | none=>false
def zhk (ops : Array Oper) (x i : Nat) : Bool:=match ops[x]?,ops[i]? with | some o,some u=>o.apart ops u | _,_=>false
def zhc (ops : Array Oper) (i x : Nat) : Bool:=match ops[i]? with | some o=>o.after.any fun e=>Region.binds .any e && e.on == x | none=>false
def zlj (ops : Array Oper) (A : List Nat) (x i : Nat) : Bool:=x != i && !waits? A x i && !zhc ops x i && (waits? A i x || (zhd ops x && zhk ops x i))
def zog (ops : Array Oper) (A : List Nat) : List Nat -> Bool
 | []=>true
 | x :: rest=>rest.all (zlj ops A x) && zog ops A rest
def zn4 (A : List Nat) (after : Array Edge) : Nat:=after.foldl (fun m e=>if Region.binds .any e then m ||| (2 ^ e.on) ||| A.getD e.on 0 else m) 0
def zha (ops : Array Oper) (A : List Nat) (i : Nat) : Bool:=match ops[i]? with
 | some o=>(A.getD i 0) &&& zn4 A o.after == A.getD i 0 && o.after.all (fun e=>e.on < ops.size && e.on != i)
 | none=>true
def okOrder (ops : Array Oper) (A ord : List Nat) : Bool:=
 (List.range ops.size).all (fun i=>ord.contains i && zha ops A i) && ord.all (· < ops.size) && zog ops A ord && Region.noSelect ops
def movesAt (P : Program) (ops : Array Oper) (x : Nat) : Bool:=match ops[x]? with | some o=>zji P o.op | none=>false
def zn5 (P : Program) (ops : Array Oper) (A ord : List Nat) (i : Nat) : Bool:=ord.all fun x=>x == i || waits? A i x || waits? A x i || movesAt P ops x
theorem unionOf_spec {A : List Nat} {after : Array Edge} {x : Nat} (h : (zn4 A after).testBit x = true) : ∃ e ∈ after,Region.binds .any e = true /\ (e.on = x \/ waits? A e.on x = true):=by
 unfold zn4 at h
 rw [<- Array.foldl_toList] at h
 have key : ∀ (l : List Edge) (m : Nat),(l.foldl (fun m e=>if Region.binds .any e then m ||| (2 ^ e.on) ||| A.getD e.on 0 else m) m).testBit x = true -> m.testBit x = true \/ ∃ e ∈ l,Region.binds .any e = true /\ (e.on = x \/ waits? A e.on x = true):=by
  intro l
  induction l with
  | nil=>exact fun m h=>.inl h
  | cons e l ih=>
   intro m h
   rcases ih _ h with h | ⟨e',he',h⟩
   ·dsimp only at h
    split at h
    ·rename_i hb
     rw [Nat.testBit_or,Nat.testBit_or,Bool.or_eq_true,Bool.or_eq_true] at h
     rcases h with (h | h) | h
     ·exact .inl h
     ·rw [Nat.testBit_two_pow] at h
      exact .inr ⟨e,List.mem_cons_self ..,hb,.inl (by simpa using h)⟩
     ·exact .inr ⟨e,List.mem_cons_self ..,hb,.inr h⟩
    ·exact .inl h
   ·exact .inr ⟨e',List.mem_cons_of_mem _ he',h⟩
 rcases key _ _ h with h | ⟨e,he,h⟩
 ·simp at h
 ·exact ⟨e,by simpa using he,h⟩
theorem zj6 {ops : Array Oper} {A : List Nat} : ∀ {ord : List Nat},zog ops A ord = true -> ord.Pairwise fun x i=>zlj ops A x i = true
 | [],_=>.nil
 | x :: rest,h=>by
  simp only [zog,Bool.and_eq_true,List.all_eq_true] at h
  exact .cons h.1 (zj6 h.2)
section
variable {P : Program} {γ : Type} {X : zad γ} {fn : FuncId} {Q : γ -> Exit -> Act -> World -> Prop} {s : γ} {a : Act} {w : World} {ops : Array Oper} {S : World -> Prop}
theorem Dl.ready {tight : Nat -> Bool} {ord : List Nat} {listed : Array Bool} {i : Nat} {o : Oper} (hsel : ∀ (j : Nat) (o : Oper) cs b,ops[j]? = some o -> o.op ≠ .select cs b) (hQ : zec Q) (ho : ops[i]? = some o) (hmem : i ∈ ord) (hlt : i < listed.size) (hun : listed.getD i false = false) (hnd : ord.Nodup)
  (hp : ∀ pre post,ord = pre ++ i :: post -> ∀ x ∈ pre,listed.getD x false = false -> ∃ ox,ops[x]? = some ox /\ calm ox.op = true /\ ox.apart ops o = true /\ (calm o.op = true \/ tight i = false \/ zji P ox.op = true)) (hS : S w)
  (h : Dl P X fn ops Q tight (ord.filter fun i=>!listed.getD i false) S s a w) : Dl P X fn ops Q tight (i :: ord.filter fun j=>!(listed.setIfInBounds i true).getD j false) S s a w:=by
 obtain ⟨pre,post,heq⟩:=List.append_of_mem hmem
 have hset : ∀ j,j ≠ i -> (listed.setIfInBounds i true).getD j false = listed.getD j false:=fun j hj=>getD_set_ne false (Ne.symm hj)
 have hself : (listed.setIfInBounds i true).getD i false = true:=by simp [hlt]
 have hnd':=hnd
 rw [heq,List.nodup_append] at hnd'
 have hpre : ∀ x ∈ pre,x ≠ i:=fun x hx e=>hnd'.2.2 x hx i (List.mem_cons_self ..) e
 have hpost : ∀ x ∈ post,x ≠ i:=fun x hx e=>(List.nodup_cons.1 hnd'.2.1).1 (e ▸ hx)
 have h1 : (ord.filter fun i=>!listed.getD i false) = (pre.filter fun i=>!listed.getD i false) ++ i :: (post.filter fun i=>!listed.getD i false):=by
  rw [heq,List.filter_append,List.filter_cons_of_pos (by simp [hun])]
 have h2 : (ord.filter fun j=>!(listed.setIfInBounds i true).getD j false) = (pre.filter fun i=>!listed.getD i false) ++ (post.filter fun i=>!listed.getD i false):=by
  rw [heq,List.filter_append,List.filter_cons_of_neg (by rw [hself]; simp)]
  congr 1 <;> refine List.filter_congr fun x hx=>?_
  ·rw [hset x (hpre x hx)]
  ·rw [hset x (hpost x hx)]
 rw [h2]
 rw [h1] at h
 exact Dl.front ho hsel hQ _ _ s a w (fun x hx=>by
  rw [List.mem_filter] at hx
  exact hp pre post heq x hx.1 (by simpa using hx.2)) hS h
theorem okPair_spec {A : List Nat} {x i : Nat} {listed : Array Bool} {o : Oper} (hx : x < ops.size) (ho : ops[i]? = some o) (h : zlj ops A x i = true) (hun : listed.getD x false = false) (hwait : ∀ x,waits? A i x = true -> listed.getD x false = true) {ord : List Nat} (hxo : x ∈ ord) :
  ∃ ox,ops[x]? = some ox /\ calm ox.op = true /\ ox.apart ops o = true /\ (calm o.op = true \/ zn5 P ops A ord i = false \/ zji P ox.op = true):=by
 refine ⟨ops[x],Array.getElem?_eq_getElem hx,?_⟩
 simp only [zlj,Bool.and_eq_true,Bool.not_eq_true',Bool.or_eq_true,zhd,zhk,Array.getElem?_eq_getElem hx,ho] at h
 have hnw : waits? A i x = false:=by
  cases hb : waits? A i x with
  | false=>rfl
  | true=>rw [hwait x hb] at hun; cases hun
 rw [hnw] at h
 have h3:=h.2.resolve_left (by simp)
 refine ⟨h3.1,h3.2,.inr ?_⟩
 cases hmv : zji P ops[x].op with
 | true=>exact .inr rfl
 | false=>
 left
 have hmx : movesAt P ops x = false:=by unfold movesAt; rw [Array.getElem?_eq_getElem hx]; exact hmv
 unfold zn5
 rw [List.all_eq_false]
 refine ⟨x,hxo,?_⟩
 have h4:=h.1.1.1
 have h5:=h.1.1.2
 simp only [bne_iff_ne,ne_eq] at h4
 simp [h4,hnw,h5,hmx]
theorem zdd {ok : Nat -> Nat -> Bool} {ord pre post : List Nat} {i : Nat} (h : ord.Pairwise fun x i=>ok x i = true) (heq : ord = pre ++ i :: post) : ∀ x ∈ pre,ok x i = true:=by
 rw [heq,List.pairwise_append] at h
 exact fun x hx=>h.2.2 x hx i (List.mem_cons_self ..)
theorem waited {A : List Nat} {i : Nat} {o : Oper} {listed : Array Bool} (ho : ops[i]? = some o) (hmask : zha ops A i = true) (hafter : ∀ e ∈ o.after,Region.binds .any e = true -> listed.getD e.on false = true)
  (hdown : ∀ i x,listed.getD i false = true -> waits? A i x = true -> listed.getD x false = true) : ∀ x,waits? A i x = true -> listed.getD x false = true:=by
 intro x hx
 simp only [zha,ho,Bool.and_eq_true,beq_iff_eq] at hmask
 unfold waits? at hx
 rw [<- hmask.1,Nat.testBit_and,Bool.and_eq_true] at hx
 obtain ⟨e,he,hb,hcase⟩:=unionOf_spec hx.2
 have hl:=hafter e he hb
 rcases hcase with rfl | hw
 ·exact hl
 ·exact hdown _ _ hl hw
theorem zf6 {A : List Nat} {i : Nat} {listed : Array Bool} (hlt : i < listed.size) (hwait : ∀ x,waits? A i x = true -> listed.getD x false = true) (hdown : ∀ i x,listed.getD i false = true -> waits? A i x = true -> listed.getD x false = true) :
  ∀ j x,(listed.setIfInBounds i true).getD j false = true -> waits? A j x = true -> (listed.setIfInBounds i true).getD x false = true:=by
 intro j x hj hw
 refine getD_set_true ?_
 by_cases hji : j = i
 ·subst hji; exact hwait x hw
 ·rw [getD_set_ne false (Ne.symm hji)] at hj; exact hdown j x hj hw
theorem all_up {A : List Nat} {listed : Array Bool} {ord : List Nat} {ok : Nat -> Nat -> Bool} (hsz : listed.size = ops.size) (hmask : ∀ i,i < ops.size -> zha ops A i = true) (hall : ∀ i,i < ops.size -> i ∈ ord) (hrange : ∀ i ∈ ord,i < ops.size)
  (hpw : ord.Pairwise fun x i=>ok x i = true) (hok : ∀ x i,ok x i = true -> zhc ops x i = false) (hnil : Region.ready .any ops listed = []) : (ord.filter fun i=>!listed.getD i false) = []:=by
 cases ht : ord.filter fun i=>!listed.getD i false with
 | nil=>rfl
 | cons i rest=>
  exfalso
  have hpw':=List.Pairwise.filter (fun i=>!listed.getD i false) hpw
  have hmem : ∀ x ∈ i :: rest,x ∈ ord /\ listed.getD x false = false:=fun x hx=>by
   rw [<- ht,List.mem_filter] at hx
   simpa using hx
  rw [ht] at hpw'
  have hi:=hmem i (List.mem_cons_self ..)
  have hilt : i < ops.size:=hrange i hi.1
  have hready : i ∈ Region.ready .any ops listed:=by
   refine mem_ready.2 ⟨?_,ops[i],Array.getElem?_eq_getElem hilt,fun e he hb=>?_⟩
   ·have hl : i < listed.size:=by omega
    have:=hi.2
    rw [Array.getD_eq_getD_getElem?,Array.getElem?_eq_getElem hl] at this ⊢
    simpa using this
   ·cases hl : listed.getD e.on false with
    | true=>rfl
    | false=>
     exfalso
     have hmask:=hmask i hilt
     simp only [zha,Array.getElem?_eq_getElem hilt,Bool.and_eq_true,Array.all_eq_true_iff_forall_mem] at hmask
     have hboth : e.on < ops.size /\ e.on ≠ i:=by simpa using hmask.2 e he
     have hemem : e.on ∈ i :: rest:=by
      rw [<- ht,List.mem_filter]
      exact ⟨hall e.on hboth.1,by simp [hl]⟩
     have hedge : zhc ops i e.on = true:=by
      unfold zhc
      rw [Array.getElem?_eq_getElem hilt]
      simp only [Array.any_eq_true']
      exact ⟨e,he,by simp [hb]⟩
     rcases List.mem_cons.1 hemem with heq | hr
     ·exact hboth.2 heq
     ·have:=hok _ _ ((List.pairwise_cons.1 hpw').1 _ hr)
      rw [hedge] at this
      cases this
  rw [hnil] at hready
  cases hready
theorem filter_none {n : Nat} (ord : List Nat) : (ord.filter fun i=>!(Array.replicate n false).getD i false) = ord:=by
 rw [List.filter_eq_self]
 intro i _
 rw [Array.getD_eq_getD_getElem?,Array.getElem?_replicate]
 split <;> rfl
theorem zgm {n : Nat} (A : List Nat) : ∀ i x,(Array.replicate n false).getD i false = true -> waits? A i x = true -> (Array.replicate n false).getD x false = true:=by
 intro i x hi
 exfalso
 rw [Array.getD_eq_getD_getElem?,Array.getElem?_replicate] at hi
 split at hi <;> simp at hi
theorem zgo {i : Nat} {listed : Array Bool} (hlt : i < listed.size) (h : listed.getD i true = false) : listed.getD i false = false:=by
 rw [Array.getD_eq_getD_getElem?,Array.getElem?_eq_getElem hlt] at h ⊢
 simpa using h
theorem zc9 {ord : List Nat} {ok : Nat -> Nat -> Bool} (hok : ∀ x i,ok x i = true -> x ≠ i) (h : ord.Pairwise fun x i=>ok x i = true) : ord.Nodup:=h.imp fun {x i} hxi=>hok x i hxi
theorem zbe {rid : Nat} (A ord : List Nat) (S : World -> Prop) (hm : P.follows .mixedOrders = true) (hok : okOrder ops A ord = true) (hQ : zec Q) (hS : S w.drew)
  (h : Dl P X fn ops Q (zn5 P ops A ord) ord S s a w.drew) : Wp P X fn (.region rid ops true) Q s a w:=by
 simp only [okOrder,Bool.and_eq_true,List.all_eq_true,List.mem_range] at hok
 obtain ⟨⟨⟨hall,hrange⟩,hpairs⟩,hns⟩:=hok
 have hsel:=Region.noSelect_spec hns
 have hpw:=zj6 hpairs
 have hnd : ord.Nodup:=zc9 (ok:=zlj ops A) (fun x i h=>by simp [zlj] at h; exact h.1.1.1) hpw
 refine zj9 (I:=fun listed s a w=>listed.size = ops.size /\ (∀ i x,listed.getD i false = true -> waits? A i x = true -> listed.getD x false = true) /\
  ∃ S : World -> Prop,S w /\ Dl P X fn ops Q (zn5 P ops A ord) (ord.filter fun i=>!listed.getD i false) S s a w) hm ?_ ?_ ?_
 ·exact ⟨by simp,zgm A,S,hS,by rw [filter_none]; exact h⟩
 ·rintro i o listed s a w ho hr ⟨hsz,hdown,S,hS,hdl⟩
  obtain ⟨hun,o',ho',hafter⟩:=mem_ready.1 hr
  obtain rfl : o = o':=by rw [ho] at ho'; exact Option.some.inj ho'
  have hlt : i < ops.size:=(Array.getElem?_eq_some_iff.1 ho).1
  have hltl : i < listed.size:=by omega
  have hwait:=waited ho (hall i hlt).2 hafter hdown
  have hmem : i ∈ ord:=by simpa using (hall i hlt).1
  have hfront:=Dl.ready hsel hQ ho hmem hltl (zgo hltl hun) hnd (fun pre post heq x hx hxu=>by
   have hxo : x ∈ ord:=by rw [heq]; exact List.mem_append_left _ hx
   exact okPair_spec (by simpa using hrange x hxo) ho (zdd hpw heq x hx) hxu hwait hxo) hS hdl
  obtain ⟨o',ho',hf⟩:=hfront
  obtain rfl : o = o':=by rw [ho] at ho'; exact Option.some.inj ho'
  have hsz' : (listed.setIfInBounds i true).size = ops.size:=by simp [hsz]
  split at hf
  ·obtain ⟨v,hv,hd⟩:=hf
   exact hv.one hS ⟨hsz',zf6 hltl hwait hdown,S,hS,hd⟩
  ·exact One.mono hf fun s' a' w' ⟨S',hS',_,hd⟩=>⟨hsz',zf6 hltl hwait hdown,S',hS',hd⟩
 ·rintro listed s a w hnil ⟨hsz,hdown,S,hS,hdl⟩
  rw [all_up hsz (fun i hi=>(hall i hi).2) (fun i hi=>by simpa using (hall i hi).1) (fun i hi=>by simpa using hrange i hi) hpw (fun x i h=>by simp [zlj] at h; exact h.1.2) hnil] at hdl
  exact hdl
/-! ### The zji -/
theorem dl_nil {tight : Nat -> Bool} (h : Q s .normal a w) : Dl P X fn ops Q tight [] S s a w:=h
theorem dl_calm {tight : Nat -> Bool} {i : Nat} {rest : List Nat} {o : Oper} {v : Value} (ho : ops.toList[i]? = some o) (hc : calm o.op = true) (hw : Region.wanted o (yielded ops a.tmps) = true) (hO : zax P (fun _=>False) (execOp a.eval o))
  (hv : ∀ w,S w -> (execOp a.eval o).run P w = .ok (.value v) w) (h : Dl P X fn ops Q tight rest S s (a.put o.dst v) w) : Dl P X fn ops Q tight (i :: rest) S s a w:=by
 refine ⟨o,by rw [<- Array.getElem?_toList]; exact ho,?_⟩
 rw [if_pos hc]
 exact ⟨v,.inl ⟨hw,hO,hv⟩,h⟩
theorem dl_skip {tight : Nat -> Bool} {i : Nat} {rest : List Nat} {o : Oper} (ho : ops.toList[i]? = some o) (hw : Region.wanted o (yielded ops a.tmps) = false) (hS : S w) (h : Dl P X fn ops Q tight rest S s (a.put o.dst undef) w) : Dl P X fn ops Q tight (i :: rest) S s a w:=by
 refine ⟨o,by rw [<- Array.getElem?_toList]; exact ho,?_⟩
 split
 ·exact ⟨undef,.inr ⟨hw,rfl⟩,h⟩
 ·unfold One
  rw [if_neg (by simp [hw])]
  exact ⟨S,hS,fun _=>rfl,h⟩
theorem dl_do {tight : Nat -> Bool} {i : Nat} {rest : List Nat} {o : Oper} (ho : ops.toList[i]? = some o) (hc : calm o.op = false)
  (h : One P X fn ops o Q (fun s' a' w'=>∃ S' : World -> Prop,S' w' /\ (tight i = false -> S' = S) /\ Dl P X fn ops Q tight rest S' s' a' w') s a w) : Dl P X fn ops Q tight (i :: rest) S s a w:=by
 refine ⟨o,by rw [<- Array.getElem?_toList]; exact ho,?_⟩
 rw [if_neg (by simp [hc])]
 exact h
theorem dl_act {tight : Nat -> Bool} {i : Nat} {rest : List Nat} {o : Oper} (ho : ops.toList[i]? = some o) (hc : calm o.op = false) (hw : Region.wanted o (yielded ops a.tmps) = true) (hf : X.there s w -> ziw P (X.oth s) fn o a w)
  (h : ∀ K : γ -> Act -> World -> Prop,(∀ s' a' w',(∃ S' : World -> Prop,S' w' /\ (tight i = false -> S' = S) /\ Dl P X fn ops Q tight rest S' s' a' w') -> K s' a' w') -> Upon P X o a s K Q ((execOp a.eval o).run P w)) : Dl P X fn ops Q tight (i :: rest) S s a w:=by
 refine dl_do ho hc ?_
 unfold One
 rw [if_pos hw]
 exact ⟨hf,h _ fun _ _ _ x=>x⟩
theorem zfl {tight : Nat -> Bool} {i : Nat} {rest : List Nat} {o : Oper} {args : Array Operand} {ats : Array TypeId} {f : FuncId} {func : Func} {c : Code} (vals : Array Value) (ho : ops.toList[i]? = some o) (hop : o.op = .call { callee:=.value (.func f),args,argTypes:=ats }) (hw : Region.wanted o (yielded ops a.tmps) = true)
  (hv : args.map a.eval = vals) (hf : P.funcs[f]? = some func) (hname : (func.name == "runtime.NumGoroutine") = false) (hb : func.body = some c) {Post : γ -> zf9 -> World -> Prop}
  (hd : Jdo P X f vals s w Post) (h : ∀ s' r w',Post s' r w' -> match r with | .back v=>∃ S' : World -> Prop,S' w' /\ (tight i = false -> S' = S) /\ Dl P X fn ops Q tight rest S' s' (a.put o.dst v) w' | .threw ch=>Q s' (.panic ch) a w') : Dl P X fn ops Q tight (i :: rest) S s a w:=
 dl_do ho (by rw [hop]; rfl) (one_call hop hw hv hf hname hb (hd.mono fun s' r w' p=>by have:=h s' r w' p; cases r <;> exact this))
/-! ### A condition that is known -/
theorem j_true {c : Operand} {x y : Code} (hc : a.eval c = .bool true) (h : Wp P X fn x Q s a w) : Wp P X fn (.cond c x y) Q s a w:=j_cond true hc (fun _=>h) (fun e=>nomatch e)
theorem zlp {c : Operand} {x y : Code} (hc : a.eval c = .bool false) (h : Wp P X fn y Q s a w) : Wp P X fn (.cond c x y) Q s a w:=j_cond false hc (fun e=>nomatch e) (fun _=>h)
/-! ### A number turned into another kind -/
def isInt : Option TypeDesc -> Bool
 | some (.int _)=>true
 | _=>false
theorem zc4 {W : Nat -> Prop} {o : Oper} {Y : Operand -> Value} (x : Operand) (t u : TypeId) (ho : o.op = .convert t u x) (k : IntKind) (n : Int) (hx : Y x = .int k n) (hu : isInt (P.underlying u) = true) : zax P W (execOp Y o):=by
 cases hd : P.underlying u with
 | none=>rw [hd] at hu; cases hu
 | some d=>
  rw [hd] at hu
  cases d <;> first | exact zdq ho hx hd | cases hu
/-! ### Panics' ways out ask nothing of the slots -/
theorem loose_body {func : Func} {Post : γ -> zf9 -> World -> Prop} : zec (Body P func Post):=fun s ch a d v w h=>by
 refine ⟨?_,h.2⟩
 have:=h.1
 cases d <;> exact this
theorem loose_then {K : γ -> Act -> World -> Prop} (h : zec Q) : zec (Then K Q):=fun s ch a d v w hh=>h s ch a d v w hh
theorem loose_block {id : Nat} (h : zec Q) : zec (zct id Q):=fun s ch a d v w hh=>h s ch a d v w hh
theorem loose_noGoto (h : zec Q) : zec (NoGoto Q):=fun s ch a d v w hh=>h s ch a d v w hh
theorem loose_jump {l : Nat} {J : γ -> Act -> World -> Prop} (h : zec Q) : zec (Jump l J Q):=fun s ch a d v w hh=>h s ch a d v w hh
end
end
section
def zbn : Nat -> Option Code -> Code
 | 0,some c=>c
 | n + 1,some (.seq _ b)=>zbn n (some b)
 | _,_=>.skip
def zds : Nat -> Option Code -> Code
 | 0,some (.seq a _)=>a
 | n + 1,some (.seq _ b)=>zds n (some b)
 | _,_=>.skip
section
variable {P : Program} {γ : Type} {X : zad γ} {fn : FuncId} {Q : γ -> Exit -> Act -> World -> Prop} {s : γ} {a : Act} {w : World} {ops : Array Oper} {o : Oper} {rest : List Oper}
theorem wanted_free (h : o.guard = none) (y : Nat -> Option Bool) : Region.wanted o y = true:=by unfold Region.wanted; rw [h]
theorem wanted_at {i : Nat} {b c : Bool} {d : Nat} (hg : o.guard = some (i,b)) (hd : (ops[i]?).bind (·.dst) = some d) (ht : a.tmps[d]? = some (.bool c)) : Region.wanted o (yielded ops a.tmps) = (c == b):=by
 unfold Region.wanted
 rw [hg]
 simp only [yielded,hd,Option.bind_some,ht]
 cases c <;> cases b <;> rfl
theorem lst_any {l : List Oper} (h : Lst P X fn ops Q l s a w) : Lst P X fn ops Q l s a w:=h
theorem zon (hg : o.guard = none) (hf : X.there s w -> ziw P (X.oth s) fn o a w)
  (h : ∀ K : γ -> Act -> World -> Prop,(∀ s a w,Lst P X fn ops Q rest s a w -> K s a w) -> Upon P X o a s K Q ((execOp a.eval o).run P w)) : Lst P X fn ops Q (o :: rest) s a w:=zdy (wanted_free hg _) hf h
theorem lst_on {i : Nat} {b : Bool} {d : Nat} (hg : o.guard = some (i,b)) (hd : (ops[i]?).bind (·.dst) = some d) (ht : a.tmps[d]? = some (.bool b)) (hf : X.there s w -> ziw P (X.oth s) fn o a w)
  (h : ∀ K : γ -> Act -> World -> Prop,(∀ s a w,Lst P X fn ops Q rest s a w -> K s a w) -> Upon P X o a s K Q ((execOp a.eval o).run P w)) : Lst P X fn ops Q (o :: rest) s a w:=zdy (by rw [wanted_at hg hd ht]; cases b <;> rfl) hf h
theorem lst_off {i : Nat} {b : Bool} {d : Nat} (hg : o.guard = some (i,b)) (hd : (ops[i]?).bind (·.dst) = some d) (ht : a.tmps[d]? = some (.bool (!b))) (h : Lst P X fn ops Q rest s (a.put o.dst undef) w) : Lst P X fn ops Q (o :: rest) s a w:=
 zew (by rw [wanted_at hg hd ht]; cases b <;> rfl) h
end
end
section
section
variable {P : Program} {γ : Type} {X : zad γ} {fn : FuncId} {Q : γ -> Exit -> Act -> World -> Prop} {s : γ} {a : Act} {w : World} {ops : Array Oper} {o : Oper} {rest : List Oper}
theorem wanted_undef {i : Nat} {b : Bool} {d : Nat} (hg : o.guard = some (i,b)) (hd : (ops[i]?).bind (·.dst) = some d) (ht : a.tmps[d]? = some undef) : Region.wanted o (yielded ops a.tmps) = false:=by
 unfold Region.wanted
 rw [hg]
 simp only [yielded,hd,Option.bind_some,ht]
 rfl
theorem lst_undef {i : Nat} {b : Bool} {d : Nat} (hg : o.guard = some (i,b)) (hd : (ops[i]?).bind (·.dst) = some d) (ht : a.tmps[d]? = some undef) (h : Lst P X fn ops Q rest s (a.put o.dst undef) w) : Lst P X fn ops Q (o :: rest) s a w:=
 zew (wanted_undef hg hd ht) h
end
end
end Go.Proofs.Ytonhfgjofgbcdaa.Jay
