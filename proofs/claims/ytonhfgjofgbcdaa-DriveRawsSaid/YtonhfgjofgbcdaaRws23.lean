/- A part of this claim's proof. -/
import Derived.Test.YtonhfgjofgbcdaaRws10
import Derived.Test.YtonhfgjofgbcdaaRws22
set_option linter.unusedSimpArgs false
set_option linter.unusedVariables false
set_option maxRecDepth 20000
namespace Go.Proofs.Ytonhfgjofgbcdaa.Dr
open Go Go.Conc Go.RowKit Jay Pl
open St Sx
section
def Stay (F : Nat -> Prop) (w w' : World) : Prop:=∀ k,F k -> w'.heap[k]? = w.heap[k]?
structure Fam {γ : Type} (X : zad γ) (M : Type) where
 fb : FuncId
 capt : List Value
 /-- What lies below stays as it is,too. -/
 base : Nat
 fbok : ∃ func c,Try.prog.funcs[fb]? = some func /\ (func.name == "runtime.NumGoroutine") = false /\ func.body = some c
 I : γ -> (Nat -> Prop) -> World -> List (Value × M) -> Prop
 /-- What the next call of a thread is,behind these machines. -/
 ini : List M -> Nat -> Int -> Int -> Int -> M
 pre : List M -> Nat -> Prop
 next : M -> Int -> Bool -> M × Ac × Bool
 res : M -> Int × Int
 bound : ∀ {s F w l},I s F w l -> ∀ k,F k -> k < w.heap.size
 keep : ∀ {s F w l w'},I s F w l -> Stay (fun k=>F k \/ k < base) w w' -> w.heap.size <= w'.heap.size -> X.there s w' -> I s F w' l
 begin_ok : ∀ {s F w l} (t : Nat) (kind val draw : Int),I s F w l -> pre (l.map (·.2)) t -> Jdo Try.prog X fb (#[.int .i64 t,.agg #[.int .i64 kind,.int .u32 val],.int .u32 draw] ++ capt.toArray) s w fun s' r w'=>
  ∃ v F',r = .back (.iface 82 v) /\ v.oneCell' = true /\ I s' F' w' (l ++ [(v,ini (l.map (·.2)) t kind val draw)]) /\ Chg F w w' /\ (∀ k,F' k -> F k \/ w.heap.size <= k) /\ ∀ k,k < w.heap.size -> X.oth s' k -> X.oth s k
 next_ok : ∀ {s F w l} (i : Nat) (v : Value) (m : M) (was : Int) (done : Bool),I s F w l -> l[i]? = some (v,m) -> Jdo Try.prog X 84 #[v,.int .u64 was,.bool done] s w fun s' r w'=>
  ∃ F',r = .back (.tuple #[.agg (next m was done).2.1.cells.toArray,.bool (next m was done).2.2]) /\ I s' F' w' (l.set i (v,(next m was done).1)) /\ Chg F w w' /\ (∀ k,F' k -> F k \/ w.heap.size <= k) /\ ∀ k,k < w.heap.size -> X.oth s' k -> X.oth s k
 res_ok : ∀ {s F w l} (i : Nat) (v : Value) (m : M),I s F w l -> l[i]? = some (v,m) -> Jdo Try.prog X 85 #[v] s w fun s' r w'=>
  s' = s /\ Below w.heap.size w w' /\ r = .back (.tuple #[.int .i64 (res m).1,.int .u32 (res m).2])
end
section
/-! ### What a run is -/
structure Rt where
 left : List (Int × Int)
 on : Option Nat
 asks : Ac
 call : Int
structure Rc where
 (th kind val frm to code out : Int)
def Rc.cells (x : Rc) : List Value:=[.int .i64 x.th,.int .i64 x.kind,.int .u32 x.val,.int .i64 x.frm,.int .i64 x.to,.int .i64 x.code,.int .u32 x.out]
theorem Rc.len (x : Rc) : x.cells.length = 7:=rfl
theorem Sp_len (x : Rp.Sp) : x.cells.length = 8:=rfl
structure Rr (M : Type) where
 ths : List Rt
 mem : Mem
 steps : List Rp.Sp
 calls : List Rc
 ms : List M
def opC (o : Int × Int) : List Value:=[.int .i64 o.1,.int .u32 o.2]
theorem zim (o : Int × Int) : (opC o).length = 2:=rfl
section
variable {γ : Type} {X : zad γ} {M : Type} (Z : Fam X M)
def Rr.begin_ (R : Rr M) (t : Nat) (x : Rt) (o : Int × Int) (draw : Int) : Rr M:=
 let n:=Z.next (Z.ini R.ms t o.1 o.2 draw) 0 false
 { R with ths:=R.ths.set t { left:=x.left.drop 1,on:=some R.ms.length,asks:=n.2.1,call:=R.calls.length },calls:=R.calls ++ [⟨t,o.1,o.2,R.steps.length, -1,0,0⟩],ms:=R.ms ++ [n.1] }
def Rr.act (R : Rr M) (t : Nat) (x : Rt) : Rr M:=
 let a:=R.mem.act x.asks.d x.asks.ar x.asks.at_ x.asks.old x.asks.new
 { R with mem:=a.1,steps:=R.steps ++ [⟨t,x.asks.d,x.asks.ar,x.asks.at_,x.asks.old,x.asks.new,a.2.1,a.2.2⟩] }
def Rr.ended (R : Rr M) (t : Nat) (x : Rt) (m : M) (more : Bool) : Rr M:=
  if more = true then R else { R with ths:=R.ths.set t { x with on:=none },calls:=match R.calls[x.call.toNat]? with
    | some c=>R.calls.set x.call.toNat { c with to:=R.steps.length - 1,code:=(Z.res m).1,out:=(Z.res m).2 }
    | none=>R.calls }
def Rr.told (R : Rr M) (t i : Nat) (x : Rt) (m : M) (was : Int) (done : Bool) : Rr M:=
 let n:=Z.next m was done
 Rr.ended Z { R with ms:=R.ms.set i n.1,ths:=R.ths.set t { x with asks:=n.2.1 } } t { x with asks:=n.2.1 } n.1 n.2.2
def Rr.go (R : Rr M) (t i : Nat) (x : Rt) (m : M) : Rr M:=
 let a:=R.mem.act x.asks.d x.asks.ar x.asks.at_ x.asks.old x.asks.new
 Rr.told Z (R.act t x) t i x m a.2.1 a.2.2
def Rr.pick (R : Rr M) (t : Int) (draw : Int) : Rr M:=
 if t < 0 then R else match R.ths[t.toNat]? with
 | none=>R
 | some x=>match x.on with
  | some i=>match R.ms[i]? with
   | some m=>R.go Z t.toNat i x m
   | none=>R
  | none=>match x.left with
   | []=>R
   | o :: _=>
    let R':=R.begin_ Z t.toNat x o draw
    match R'.ths[t.toNat]?,R'.ms[R.ms.length]? with
    | some x',some m=>R'.go Z t.toNat R.ms.length x' m
    | _,_=>R'
end
/-! ### How it lies in memory -/
structure Ph where
 (gR gT tcap : Nat)
 (vS vC : Value)
 cE : Array Value
 ths : List Th
 vs : List Value
 /-- Variables of a turn. -/
 tmp : List Nat:=[]
def Ph.mine (p : Ph) (g : Nat) : Prop:=g = p.gR \/ g = p.gT \/ p.vS.ownBlock = some g \/ p.vC.ownBlock = some g \/ g ∈ p.tmp
section
variable {γ : Type} {X : zad γ} {M : Type} (Z : Fam X M)
def onV (vs : List Value) : Option Nat -> Value
 | none=>.nilIface
 | some i=>.iface 82 (vs.getD i .nilFunc)
def fbV : Value:=.func (.func Z.fb) #[] Z.capt.toArray
structure Core (w : World) (R : Rr M) (p : Ph) : Prop where
 r : Blk w p.gR 105 (#[fbV Z,.slice (some ⟨p.gT,0,none⟩) R.ths.length p.tcap,p.vS,p.vC] ++ p.cE)
 t : Blk w p.gT 107 (Ths p.ths)
 s : w.ownsRow 0 63 8 p.vS R.steps.length (R.steps.flatMap Rp.Sp.cells)
 c : w.ownsRow 0 65 7 p.vC R.calls.length (R.calls.flatMap Rc.cells)
structure Rel (F : Nat -> Prop) (w : World) (R : Rr M) (p : Ph) (x : Th) (y : Rt) : Prop where
 on : x.on = onV p.vs y.on
 onlt : ∀ k,y.on = some k -> k < R.ms.length /\ 0 <= y.call /\ y.call.toNat < R.calls.length
 asks : x.asks = y.asks
 call : x.call = y.call
 left : Sl w w.heap.size 2 x.left y.left.length (y.left.flatMap opC)
 form : x.left = .slice none 0 0 \/ ∃ g o c,x.left = .slice (some ⟨g,o,none⟩) y.left.length c /\ g < w.heap.size
 off : ∀ g,F g \/ p.mine g -> OffS g x.left
structure zhm (s₀ : γ) (w₀ : World) (s : γ) (F : Nat -> Prop) (w : World) (R : Rr M) (p : Ph) : Prop where
 i : Z.I s F w (p.vs.zip R.ms)
 vlen : p.vs.length = R.ms.length
 vone : ∀ v ∈ p.vs,v.oneCell' = true
 mem : zbb w w.heap.size R.mem p.cE
 small : R.mem.small
 off : ∀ g,F g \/ p.mine g -> Off g p.cE
 tlen : p.ths.length = R.ths.length
 tle : R.ths.length <= p.tcap /\ p.tcap <= maxLen
 rel : ∀ (i : Nat) (x : Th) (y : Rt),p.ths[i]? = some x -> R.ths[i]? = some y -> Rel F w R p x y
 dis : ∀ g,p.mine g -> ¬ F g /\ ¬ X.oth s g /\ g < w.heap.size /\ w₀.heap.size <= g
 ne : p.gR ≠ p.gT /\ (∀ g,p.vS.ownBlock = some g -> g ≠ p.gR /\ g ≠ p.gT /\ p.vC.ownBlock ≠ some g) /\ ∀ g,p.vC.ownBlock = some g -> g ≠ p.gR /\ g ≠ p.gT
 fB : (∀ k,F k -> w₀.heap.size <= k) /\ Z.base <= w₀.heap.size
 oth : ∀ k,k < w₀.heap.size -> X.oth s k -> X.oth s₀ k
 chg : Below w₀.heap.size w₀ w
 far : ∀ g,g < w₀.heap.size -> Off g p.cE
structure ze3 (s₀ : γ) (w₀ : World) (s : γ) (F : Nat -> Prop) (w : World) (R : Rr M) (p : Ph) : Prop where
 core : Core Z w R p
 side : zhm Z s₀ w₀ s F w R p
 nils : (p.vS = .slice none 0 0 /\ p.vC = .slice none 0 0 /\ R.steps = [] /\ R.calls = []) \/ ∃ gS nS cS gC nC cC,p.vS = .slice (some ⟨gS,0,none⟩) nS cS /\ p.vC = .slice (some ⟨gC,0,none⟩) nC cC
variable {Z}
theorem Sl.chg {S : Nat -> Prop} {w w' : World} {B size n : Nat} {v : Value} {xs : List Value} (h : Sl w B size v n xs) (hB : B <= w.heap.size) (hc : Chg S w w') (ho : ∀ g,S g -> OffS g v) : Sl w' B size v n xs:=by
 obtain ⟨h1,A,c,rfl,h2,h3,h4⟩:=h
 refine ⟨h1,A,c,rfl,h2,h3,fun hn=>?_⟩
 obtain ⟨b,o,rfl,hb,hat⟩:=h4 hn
 exact ⟨b,o,rfl,hb,fun j u hu=>(hc.cell (p:=⟨b,o + j,none⟩) (by show b < _; omega) fun hS=>ho b hS b o n c rfl hn rfl).trans (hat j u hu)⟩
theorem zbb.chg {S : Nat -> Prop} {w w' : World} {B : Nat} {m : Mem} {cs : Array Value} (h : zbb w B m cs) (hB : B <= w.heap.size) (hc : Chg S w w') (ho : ∀ g,S g -> Off g cs) : zbb w' B m cs:=by
 obtain ⟨v2,v3,v6,v7,v8,rfl,h2,h3,h6,h7,h8⟩:=h
 exact ⟨v2,v3,v6,v7,v8,rfl,Sl.chg h2 hB hc fun g hg=>ho g hg _ (by simp),Sl.chg h3 hB hc fun g hg=>ho g hg _ (by simp),Sl.chg h6 hB hc fun g hg=>ho g hg _ (by simp),Sl.chg h7 hB hc fun g hg=>ho g hg _ (by simp),Sl.chg h8 hB hc fun g hg=>ho g hg _ (by simp)⟩
theorem zhm.keep {s₀ s : γ} {w₀ w w' : World} {F : Nat -> Prop} {R : Rr M} {p : Ph} (h : zhm Z s₀ w₀ s F w R p) (hc : Chg p.mine w w') (ht : X.there s w') : zhm Z s₀ w₀ s F w' R p:=
 ⟨Z.keep h.i (fun k hk=>hk.elim (fun hk=>hc.block k (Z.bound h.i k hk) fun hm=>(h.dis k hm).1 hk) fun hk=>hc.block k (Nat.lt_of_lt_of_le hk (Nat.le_trans h.fB.2 h.chg.size)) fun hm=>absurd (Nat.le_trans h.fB.2 (h.dis k hm).2.2.2) (Nat.not_le.2 hk)) hc.size ht,h.vlen,h.vone,(zbb.chg h.mem (Nat.le_refl _) hc fun g hg=>h.off g (.inr hg)).more hc.size,h.small,h.off,h.tlen,h.tle,
  fun i x y hx hy=>let r:=h.rel i x y hx hy; ⟨r.on,r.onlt,r.asks,r.call,(Sl.chg r.left (Nat.le_refl _) hc fun g hg=>r.off g (.inr hg)).more hc.size,r.form.imp id fun ⟨g,o,c,e,hg⟩=>⟨g,o,c,e,Nat.lt_of_lt_of_le hg hc.size⟩,r.off⟩,fun g hg=>let d:=h.dis g hg; ⟨d.1,d.2.1,Nat.lt_of_lt_of_le d.2.2.1 hc.size,d.2.2.2⟩,h.ne,h.fB,h.oth,
  h.chg.trans (hc.below (fun k hk=>(h.dis k hk).2.2.2) h.chg.size),h.far⟩
theorem Core.below {w w' : World} {R : Rr M} {p : Ph} (h : Core Z w R p) (hb : Below w.heap.size w w') : Core Z w' R p:=
 ⟨h.r.below hb h.r.lt,h.t.below hb h.t.lt,zeo h.s fun g _ hl=>hb.block g hl,zeo h.c fun g _ hl=>hb.block g hl⟩
theorem ze3.below {s₀ s : γ} {w₀ w w' : World} {F : Nat -> Prop} {R : Rr M} {p : Ph} (h : ze3 Z s₀ w₀ s F w R p) (hb : Below w.heap.size w w') (ht : X.there s w') : ze3 Z s₀ w₀ s F w' R p:=
 ⟨h.core.below hb,h.side.keep (Chg.of_below hb) ht,h.nils⟩
theorem zhm.foreign {s₀ s s' : γ} {w₀ w w' : World} {F F' : Nat -> Prop} {R : Rr M} {p : Ph} (h : zhm Z s₀ w₀ s F w R p) {vs' : List Value} {ms' : List M} (hI : Z.I s' F' w' (vs'.zip ms')) (hc : Chg F w w') (ht : X.there s' w') (hF' : ∀ k,F' k -> F k \/ w.heap.size <= k) (ho : ∀ k,k < w.heap.size -> X.oth s' k -> X.oth s k)
  (hvl : vs'.length = ms'.length) (hvo : ∀ v ∈ vs',v.oneCell' = true) (hle : R.ms.length <= ms'.length) (hvs : ∀ i,i < p.vs.length -> vs'.getD i .nilFunc = p.vs.getD i .nilFunc) : zhm Z s₀ w₀ s' F' w' { R with ms:=ms' } { p with vs:=vs' }:=by
 have hFm : ∀ g,F' g \/ p.mine g -> (F g \/ p.mine g) \/ w.heap.size <= g:=fun g hg=>by
  rcases hg with hg | hg
  ·rcases hF' g hg with h1 | h1
   ·exact .inl (.inl h1)
   ·exact .inr h1
  ·exact .inl (.inr hg)
 have hon : ∀ o : Option Nat,(∀ k,o = some k -> k < R.ms.length) -> onV p.vs o = onV vs' o:=fun o hk=>by
  cases o with
  | none=>rfl
  | some k=>simp only [onV]; rw [hvs k (by rw [h.vlen]; exact hk k rfl)]
 refine ⟨hI,hvl,hvo,(zbb.chg h.mem (Nat.le_refl _) hc fun g hg=>h.off g (.inl hg)).more hc.size,h.small,fun g hg=>?_,h.tlen,h.tle,fun i x y hx hy=>?_,fun g hg=>?_,h.ne,⟨fun k hk=>?_,h.fB.2⟩,fun k hk hk'=>?_,?_,h.far⟩
 ·rcases hFm g hg with h1 | h1
  ·exact h.off g h1
  ·exact zbd h.mem h1
 ·have r:=h.rel i x y hx hy
  refine ⟨r.on.trans (hon _ fun k hk=>(r.onlt k hk).1),fun k hk=>⟨Nat.lt_of_lt_of_le (r.onlt k hk).1 hle,(r.onlt k hk).2⟩,r.asks,r.call,(Sl.chg r.left (Nat.le_refl _) hc fun g hg=>r.off g (.inl hg)).more hc.size,r.form.imp id fun ⟨g,o,c,e,hg⟩=>⟨g,o,c,e,Nat.lt_of_lt_of_le hg hc.size⟩,fun g hg=>?_⟩
  rcases hFm g hg with h1 | h1
  ·exact r.off g h1
  ·intro b o n c e hn
   have r:=r.left
   obtain ⟨_,A,c',hv,_,_,h4⟩:=r
   rw [e] at hv
   cases hv
   obtain ⟨b',o',e',hb',_⟩:=h4 hn
   cases e'
   exact Nat.ne_of_lt (Nat.lt_of_lt_of_le hb' h1)
 ·obtain ⟨d1,d2,d3,d4⟩:=h.dis g hg
  refine ⟨fun hf=>?_,fun ho'=>d2 (ho g d3 ho'),Nat.lt_of_lt_of_le d3 hc.size,d4⟩
  rcases hF' g hf with h1 | h1
  ·exact d1 h1
  ·omega
 ·rcases hF' k hk with h1 | h1
  ·exact h.fB.1 k h1
  ·exact Nat.le_trans h.chg.size h1
 ·exact h.oth k hk (ho k (Nat.lt_of_lt_of_le hk h.chg.size) hk')
 ·exact h.chg.trans (hc.below h.fB.1 h.chg.size)
theorem zhm.temps {s₀ s : γ} {w₀ w w' : World} {F : Nat -> Prop} {R : Rr M} {p : Ph} (h : zhm Z s₀ w₀ s F w R p) (hc : Chg p.mine w w') (ht : X.there s w') (l : List Nat) (hl : ∀ g ∈ l,p.mine g \/ w.heap.size <= g /\ g < w'.heap.size /\ ¬ X.oth s g) : zhm Z s₀ w₀ s F w' R { p with tmp:=l }:=by
 have h':=h.keep hc ht
 have hm : ∀ g,Ph.mine { p with tmp:=l } g -> p.mine g \/ w.heap.size <= g /\ g < w'.heap.size /\ ¬ X.oth s g:=fun g hg=>by
  rcases hg with h1 | h1 | h1 | h1 | h1
  ·exact .inl (.inl h1)
  ·exact .inl (.inr (.inl h1))
  ·exact .inl (.inr (.inr (.inl h1)))
  ·exact .inl (.inr (.inr (.inr (.inl h1))))
  ·rcases hl g h1 with h2 | h2
   ·exact .inl h2
   ·exact .inr h2
 refine ⟨h'.i,h'.vlen,h'.vone,h'.mem,h'.small,fun g hg=>?_,h'.tlen,h'.tle,fun i x y hx hy=>?_,fun g hg=>?_,h'.ne,h'.fB,h'.oth,h'.chg,h'.far⟩
 ·rcases hg with hg | hg
  ·exact h'.off g (.inl hg)
  ·rcases hm g hg with h1 | h1
   ·exact h'.off g (.inr h1)
   ·exact zbd h.mem h1.1
 ·have r:=h'.rel i x y hx hy
  have r0:=h.rel i x y hx hy
  refine ⟨r.on,r.onlt,r.asks,r.call,r.left,r.form,fun g hg=>?_⟩
  rcases hg with hg | hg
  ·exact r.off g (.inl hg)
  ·rcases hm g hg with h1 | h1
   ·exact r.off g (.inr h1)
   ·intro b o n c e hn
    obtain ⟨_,A,c',hv,_,_,h4⟩:=r0.left
    rw [e] at hv
    cases hv
    obtain ⟨b',o',e',hb',_⟩:=h4 hn
    cases e'
    exact Nat.ne_of_lt (Nat.lt_of_lt_of_le hb' h1.1)
 ·rcases hm g hg with h1 | h1
  ·exact h'.dis g h1
  ·exact ⟨fun hf=>by have:=Z.bound h.i g hf; omega,h1.2.2,h1.2.1,Nat.le_trans h.chg.size h1.1⟩
/-! ### Rows,read and written -/
theorem zg9 {w : World} {t : TypeId} {size n : Nat} {v : Value} {xs : List Value} {q : Seg} {m cap : Nat} (h : w.ownsRow 0 t size v n xs) (hv : v = .slice (some ⟨q.g,0,none⟩) m cap) (hb : Blk w q.g t (q.whole []).toArray) (hp : q.pre.length = m * size) : q.pre = xs /\ n = m:=by
 obtain ⟨h1,⟨e,_⟩ | ⟨g,cap',cur,e,_,hg,h3,h4,h5,h6⟩⟩:=h
 ·rw [hv] at e; cases e
 ·rw [hv] at e
  cases e
  unfold Blk at hb
  rw [hb] at hg
  cases hg
  refine ⟨?_,rfl⟩
  rw [<- h6,<- hp]
  simp [Seg.whole]
theorem zbc {w : World} {t : TypeId} {size n : Nat} {q : Seg} (hb : Blk w q.g t (q.whole []).toArray) (hp : q.pre.length = n * size) (hn : n <= q.cap) (hc : q.cap <= maxLen) (hl : q.pre.length + q.post.length = q.cap * size) : w.ownsRow 0 t size (.slice (some ⟨q.g,0,none⟩) n q.cap) n q.pre:=by
 refine ⟨hp,.inr ⟨q.g,q.cap,_,rfl,Nat.zero_le _,hb,hn,hc,?_,?_⟩⟩
 ·simpa [Seg.whole] using hl
 ·rw [<- hp]; simp [Seg.whole]
theorem zdc {w w' : World} {t : TypeId} {size n : Nat} {v : Value} {xs : List Value} {g m cap : Nat} {arr : Array Value} (h : w.ownsRow 0 t size v n xs) (hv : v = .slice (some ⟨g,0,none⟩) m cap) (hb : Blk w g t arr) (hb' : Blk w' g t arr) : w'.ownsRow 0 t size v n xs:=
 zeo h fun g' hg' _=>by
  rw [hv] at hg'
  have : g = g':=Option.some.inj hg'
  subst this
  exact hb'.trans hb.symm
theorem whole_one {q : Seg} {cs : List Value} {arr : Array Value} (h : (q.whole cs).toArray = arr) (hl : cs.length = arr.size) : q.pre = [] /\ q.post = [] /\ cs = arr.toList:=by
 subst h
 simp only [Seg.whole,List.size_toArray,List.length_append] at hl
 have h1 : q.pre = []:=List.eq_nil_of_length_eq_zero (by omega)
 have h2 : q.post = []:=List.eq_nil_of_length_eq_zero (by omega)
 exact ⟨h1,h2,by simp [Seg.whole,h1,h2]⟩
theorem blk_eq {w : World} {g : Nat} {t t' : TypeId} {a b : Array Value} (h : Blk w g t a) (h' : Blk w g t' b) : a = b:=by
 unfold Blk at h h'
 rw [h] at h'
 cases h'
 rfl
theorem zhm.upd {s₀ s : γ} {w₀ w : World} {F : Nat -> Prop} {R : Rr M} {p : Ph} (h : zhm Z s₀ w₀ s F w R p) {t : Nat} {x' : Th} {y' : Rt} {calls' : List Rc} (hc : R.calls.length <= calls'.length) (hrel : Rel F w { R with calls:=calls' } p x' y') :
  zhm Z s₀ w₀ s F w { R with ths:=R.ths.set t y',calls:=calls' } { p with ths:=p.ths.set t x' }:=by
 refine ⟨h.i,h.vlen,h.vone,h.mem,h.small,h.off,by simp only [List.length_set]; exact h.tlen,by simp only [List.length_set]; exact h.tle,fun i x y hx hy=>?_,h.dis,h.ne,h.fB,h.oth,h.chg,h.far⟩
 rw [List.getElem?_set] at hx hy
 have hlen:=h.tlen
 split at hx
 ·rename_i e
  rw [if_pos e] at hy
  have hx' : x = x':=by
   split at hx
   ·exact (Option.some.inj hx).symm
   ·cases hx
  have hy' : y = y':=by
   split at hy
   ·exact (Option.some.inj hy).symm
   ·cases hy
  subst hx' hy'
  exact ⟨hrel.on,hrel.onlt,hrel.asks,hrel.call,hrel.left,hrel.form,hrel.off⟩
 ·rename_i e
  rw [if_neg e] at hy
  have r:=h.rel i x y hx hy
  exact ⟨r.on,fun k hk=>let q:=r.onlt k hk; ⟨q.1,q.2.1,Nat.lt_of_lt_of_le q.2.2 hc⟩,r.asks,r.call,r.left,r.form,r.off⟩
theorem zot {α : Type} (f : α -> List Value) (l : List α) (i : Nat) (y : α) (hi : i < l.length) : (l.set i y).flatMap f = (l.take i).flatMap f ++ f y ++ (l.drop (i + 1)).flatMap f:=by
 have h:=congrArg (List.flatMap f) (List.take_append_drop i (l.set i y))
 rw [List.drop_eq_getElem_cons (by simpa using hi),List.flatMap_append,List.flatMap_cons,List.take_set_of_le (Nat.le_refl _),List.drop_set_of_lt (by omega),List.getElem_set_self] at h
 rw [<- h,List.append_assoc]
theorem flat_cut {α : Type} (f : α -> List Value) (l : List α) (i : Nat) (y : α) (hy : l[i]? = some y) : l.flatMap f = (l.take i).flatMap f ++ f y ++ (l.drop (i + 1)).flatMap f:=by
 obtain ⟨hi,rfl⟩:=List.getElem?_eq_some_iff.1 hy
 have:=zot f l i l[i] hi
 rwa [List.set_getElem_self] at this
theorem zhm.apart {s₀ s : γ} {w₀ w w' : World} {F S : Nat -> Prop} {R : Rr M} {p : Ph} {Y' : Env} {h' : List HB} {facts : List (B × Bool)} {np : Nat} (h : zhm Z s₀ w₀ s F w R p) (hr : Rep X s S w Y' h' facts np w') (hS : ∀ k,S k -> p.mine k) (hl : h'.all (fun x=>!x.live || x.wr) = true) : ∀ i hb,h'[i]? = some hb -> hb.live = true -> ¬ F (Y'.blks.getD i {}).g:=by
 intro i hb hi hlv hf
 have h1:=List.all_eq_true.1 hl hb (List.mem_of_getElem? hi)
 rw [hlv] at h1
 rcases hr.inS i hb hi (by simpa using h1) with h2 | h2
 ·exact (h.dis _ (hS _ h2)).1 hf
 ·have:=Z.bound h.i _ hf
  omega
theorem zhm.acted {s₀ s : γ} {w₀ w w' : World} {F : Nat -> Prop} {R : Rr M} {p : Ph} (h : zhm Z s₀ w₀ s F w R p) (hb : Below w.heap.size w w') (ht : X.there s w') {m' : Mem} {cs' : Array Value} (hm : zbb w' w'.heap.size m' cs') (hsm : m'.small) (hfar : Far w p.cE cs') : zhm Z s₀ w₀ s F w' { R with mem:=m' } { p with cE:=cs' }:=by
 have h':=h.keep (Chg.of_below hb) ht
 refine ⟨h'.i,h'.vlen,h'.vone,hm,hsm,fun g hg=>?_,h'.tlen,h'.tle,fun i x y hx hy=>let r:=h'.rel i x y hx hy; ⟨r.on,r.onlt,r.asks,r.call,r.left,r.form,r.off⟩,h'.dis,h'.ne,h'.fB,h'.oth,h'.chg,fun g hg=>hfar g (Nat.lt_of_lt_of_le hg h.chg.size) (h.far g hg)⟩
 refine hfar g ?_ (h.off g hg)
 rcases hg with hg | hg
 ·exact Z.bound h.i g hg
 ·exact (h.dis g hg).2.2.1
theorem zhm.stepped {s₀ s : γ} {w₀ w w' : World} {F : Nat -> Prop} {R : Rr M} {p : Ph} (h : zhm Z s₀ w₀ s F w R p) (hc : Chg p.mine w w') (ht : X.there s w') {vS' : Value} {g' : Nat} (l : List Nat) (steps' : List Rp.Sp) (hv : vS'.ownBlock = some g') (hl : ∀ g ∈ g' :: l,p.mine g \/ w.heap.size <= g /\ g < w'.heap.size /\ ¬ X.oth s g) (n1 : g' ≠ p.gR) (n2 : g' ≠ p.gT) (n3 : p.vC.ownBlock ≠ some g') :
  zhm Z s₀ w₀ s F w' { R with steps:=steps' } { p with vS:=vS',tmp:=l }:=by
 have h1:=h.temps hc ht (g' :: l) hl
 have hm : ∀ g,Ph.mine { p with vS:=vS',tmp:=l } g -> Ph.mine { p with tmp:=g' :: l } g:=fun g hg=>by
  rcases hg with h2 | h2 | h2 | h2 | h2
  ·exact .inl h2
  ·exact .inr (.inl h2)
  ·have h3 : vS'.ownBlock = some g:=h2
   rw [hv] at h3
   obtain rfl:=Option.some.inj h3
   exact .inr (.inr (.inr (.inr (List.mem_cons_self ..))))
  ·exact .inr (.inr (.inr (.inl h2)))
  ·exact .inr (.inr (.inr (.inr (List.mem_cons_of_mem _ h2))))
 refine ⟨h1.i,h1.vlen,h1.vone,h1.mem,h1.small,fun g hg=>h1.off g (hg.imp id (hm g)),h1.tlen,h1.tle,fun i x y hx hy=>let r:=h1.rel i x y hx hy; ⟨r.on,r.onlt,r.asks,r.call,r.left,r.form,fun g hg=>r.off g (hg.imp id (hm g))⟩,fun g hg=>h1.dis g (hm g hg),⟨h1.ne.1,fun g hg=>?_,h1.ne.2.2⟩,h1.fB,h1.oth,h1.chg,h1.far⟩
 have h3 : vS'.ownBlock = some g:=hg
 rw [hv] at h3
 obtain rfl:=Option.some.inj h3
 exact ⟨n1,n2,n3⟩
theorem zhm.called {s₀ s : γ} {w₀ w w' : World} {F : Nat -> Prop} {R : Rr M} {p : Ph} (h : zhm Z s₀ w₀ s F w R p) (hc : Chg p.mine w w') (ht : X.there s w') {vC' : Value} {g' : Nat} (l : List Nat) (calls' : List Rc) (hle : R.calls.length <= calls'.length) (hv : vC'.ownBlock = some g') (hl : ∀ g ∈ g' :: l,p.mine g \/ w.heap.size <= g /\ g < w'.heap.size /\ ¬ X.oth s g) (n1 : g' ≠ p.gR) (n2 : g' ≠ p.gT) (n3 : p.vS.ownBlock ≠ some g') :
  zhm Z s₀ w₀ s F w' { R with calls:=calls' } { p with vC:=vC',tmp:=l }:=by
 have h1:=h.temps hc ht (g' :: l) hl
 have hm : ∀ g,Ph.mine { p with vC:=vC',tmp:=l } g -> Ph.mine { p with tmp:=g' :: l } g:=fun g hg=>by
  rcases hg with h2 | h2 | h2 | h2 | h2
  ·exact .inl h2
  ·exact .inr (.inl h2)
  ·exact .inr (.inr (.inl h2))
  ·have h3 : vC'.ownBlock = some g:=h2
   rw [hv] at h3
   obtain rfl:=Option.some.inj h3
   exact .inr (.inr (.inr (.inr (List.mem_cons_self ..))))
  ·exact .inr (.inr (.inr (.inr (List.mem_cons_of_mem _ h2))))
 refine ⟨h1.i,h1.vlen,h1.vone,h1.mem,h1.small,fun g hg=>h1.off g (hg.imp id (hm g)),h1.tlen,h1.tle,fun i x y hx hy=>let r:=h1.rel i x y hx hy; ⟨r.on,fun k hk=>let q:=r.onlt k hk; ⟨q.1,q.2.1,Nat.lt_of_lt_of_le q.2.2 hle⟩,r.asks,r.call,r.left,r.form,fun g hg=>r.off g (hg.imp id (hm g))⟩,fun g hg=>h1.dis g (hm g hg),⟨h1.ne.1,fun g hg=>⟨(h1.ne.2.1 g hg).1,(h1.ne.2.1 g hg).2.1,fun e=>?_⟩,fun g hg=>?_⟩,h1.fB,h1.oth,h1.chg,h1.far⟩
 ·have h3 : vC'.ownBlock = some g:=e
  rw [hv] at h3
  obtain rfl:=Option.some.inj h3
  exact n3 hg
 ·have h3 : vC'.ownBlock = some g:=hg
  rw [hv] at h3
  obtain rfl:=Option.some.inj h3
  exact ⟨n1,n2⟩
theorem left_next {w : World} {B g o n c : Nat} {a : Int × Int} {rest : List (Int × Int)} (h : Sl w B 2 (.slice (some ⟨g,o,none⟩) n c) (a :: rest).length ((a :: rest).flatMap opC)) : Sl w B 2 (.slice (some ⟨g,if c = 1 then o else o + 2,none⟩) (n - 1) (c - 1)) rest.length (rest.flatMap opC):=by
 obtain ⟨h1,A,c',e,h2,h3,h4⟩:=h
 cases e
 have hl : (rest.flatMap opC).length = rest.length * 2:=zde zim rest
 refine ⟨hl,_,_,rfl,?_,?_,fun hn=>?_⟩
 ·simp only [List.length_cons] at h2; omega
 ·omega
 ·obtain ⟨b,o',e',hb,hat⟩:=h4 (by simp)
  cases e'
  simp only [List.length_cons] at h2
  rw [if_neg (by omega)]
  refine ⟨g,o + 2,rfl,hb,fun j u hu=>?_⟩
  rw [Nat.add_assoc]
  refine hat (2 + j) u ?_
  rw [List.flatMap_cons,List.getElem?_append_right (by rw [zim]; omega),zim,Nat.add_sub_cancel_left]
  exact hu
theorem zhm.apart2 {s₀ s : γ} {w₀ w w' : World} {F S : Nat -> Prop} {R : Rr M} {p : Ph} {Y' : Env} {h' : List HB} {facts : List (B × Bool)} {np : Nat} (h : zhm Z s₀ w₀ s F w R p) (hr : Rep X s S w Y' h' facts np w') (hS : ∀ k,S k -> p.mine k) {b : Nat} (hl : ∀ i hb,h'[i]? = some hb -> hb.live = true -> i = b \/ hb.wr = true) (hb : ¬ F (Y'.blks.getD b {}).g) : ∀ i hb,h'[i]? = some hb -> hb.live = true -> ¬ F (Y'.blks.getD i {}).g:=by
 intro i x hi hlv hf
 rcases hl i x hi hlv with rfl | h1
 ·exact hb hf
 ·rcases hr.inS i x hi h1 with h2 | h2
  ·exact (h.dis _ (hS _ h2)).1 hf
  ·have:=Z.bound h.i _ hf
   omega
end
end
end Go.Proofs.Ytonhfgjofgbcdaa.Dr
