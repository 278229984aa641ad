/- A part of this claim's proof. -/
import Derived.Test.YtonhfgjofgbcdaaRws29
set_option linter.unusedSimpArgs false
set_option linter.unusedVariables false
set_option maxRecDepth 20000
namespace Go.Proofs.Ytonhfgjofgbcdaa.Dr
section
open Go Go.Conc Go.RowKit Jay Pl
open Sx
noncomputable def yev : List SV:=[.agg [.int .i64 (.lit 0),.int .u32 (.lit 0),.int .i64 (.lit 0),.int .i64 (.lit 0),.int .i64 (.lit 99),.int .u64 (.lit 0),.int .u64 (.lit 0),.int .u64 (.lit 0),.int .u64 (.lit 0),.int .i64 (.lit 0),.c (.slice none 0 0),.bool (.lit false),.int .u64 (.lit 0),.int .u64 (.lit 0),.int .i64 (.lit 0),.int .u32 (.lit 0),.int .i64 (.lit 0),Li 4,Li 5,Li 6,Lu 7,Lu 8,.int .i64 (.lit 0),.int .u32 (.lit 0)]]
noncomputable def yew : List SV:=[.int .u64 (.lit 0),.int .u64 (.lit 0),.int .u64 (.lit 0),.int .u64 (.lit 0),.int .i64 (.lit 0),.c (.slice none 0 0),.bool (.lit false),.int .u64 (.lit 0),.int .u64 (.lit 0),.int .i64 (.lit 0),.int .u32 (.lit 0),.int .i64 (.lit 0),Li 4,Li 5,Li 6,Lu 7,Lu 8,.int .i64 (.lit 0)]
noncomputable def yex : List SV:=[.int .i64 (.lit 0),.int .u32 (.lit 0),.int .i64 (.lit 0),.int .i64 (.lit 0)]
noncomputable def yf7 : List SV:=[.ptr 1 4,.int .i64 (.lit 99),.bool (.lit true),.bool (.lit true)]
noncomputable def yey : List SV:=yf7 ++ [.bool (.v 0),.int .i64 (.lit 1),.int .u32 (.lit 1),.ptr 1 23,.agg [.int .i64 (.lit 0),.int .u32 (.lit 0),.int .i64 (.lit 0),.int .i64 (.lit 0),.int .i64 (.lit 99),.int .u64 (.lit 0),.int .u64 (.lit 0),.int .u64 (.lit 0),.int .u64 (.lit 0),.int .i64 (.lit 0),.c (.slice none 0 0),.bool (.lit false),.int .u64 (.lit 0),.int .u64 (.lit 0),.int .i64 (.lit 0),.int .u32 (.lit 0),.int .i64 (.lit 0),Li 4,Li 5,Li 6,Lu 7,Lu 8,.int .i64 (.lit 0),.int .u32 (.lit 1)],.agg [.int .i64 (.lit 0),.int .u32 (.lit 0),.int .i64 (.lit 0),.int .i64 (.lit 0),.int .i64 (.lit 0),.int .u64 (.lit 0),.int .u64 (.lit 0),.int .u64 (.lit 0),.int .u64 (.lit 0),.int .i64 (.lit 0),.c (.slice none 0 0),.bool (.lit false),.int .u64 (.lit 0),.int .u64 (.lit 0),.int .i64 (.lit 0),.int .u32 (.lit 0),.int .i64 (.lit 0),Li 4,Li 5,Li 6,Lu 7,Lu 8,.int .i64 (.lit 0),.int .u32 (.lit 1)]] ++ ur 684
noncomputable def yez : List HB:=[⟨94,yex ++ [.int .i64 (.lit 99)] ++ yew ++ [.int .u32 (.lit 0)],true,none,none,none⟩]
noncomputable def yf0 : List HB:=[⟨36,[Li 0,Li 1,Li 2,Li 3],true,none,none,none⟩]
noncomputable def yf1 : List SV:=yf7 ++ [.bool (.v 0),.int .i64 (.lit 0),.int .u32 (.lit 0),.ptr 1 23] ++ yev ++ [.agg [.int .i64 (.lit 0),.int .u32 (.lit 0),.int .i64 (.lit 0),.int .i64 (.lit 0),.int .i64 (.lit 0),.int .u64 (.lit 0),.int .u64 (.lit 0),.int .u64 (.lit 0),.int .u64 (.lit 0),.int .i64 (.lit 0),.c (.slice none 0 0),.bool (.lit false),.int .u64 (.lit 0),.int .u64 (.lit 0),.int .i64 (.lit 0),.int .u32 (.lit 0),.int .i64 (.lit 0),Li 4,Li 5,Li 6,Lu 7,Lu 8,.int .i64 (.lit 0),.int .u32 (.lit 0)]] ++ ur 684
noncomputable def yf2 : List HB:=[⟨94,yex ++ [.int .i64 (.lit 0)] ++ yew ++ [.int .u32 (.lit 1)],true,none,none,none⟩]
noncomputable def yf3 : List HB:=[⟨94,yex ++ [.int .i64 (.lit 0)] ++ yew ++ [.int .u32 (.lit 0)],true,none,none,none⟩]
noncomputable def yf4 : List SV:=[.ptr 2 0,.int .u32 (.cv .u32 (.ar .quo .u64 (.lit 0) (.cv .u64 (.v 3))))] ++ yev ++ [.agg [Li 0,Li 1,Li 2,Li 3],.int .u32 (.cv .u32 (.ar .quo .u64 (.lit 0) (.cv .u64 (.v 3))))]
noncomputable def yf5 : List SV:=[.agg [Li 0,Li 1,Li 2,Li 3]] ++ yev
noncomputable def yf6 : List (B × Bool):=[((.cmp .eql (.cv .u64 (.v 3)) (.lit 0)),false)]
noncomputable def yf8 : List SV:=[.ptr 2 0,.int .u32 (.lit 0)] ++ yev ++ [.agg [Li 0,Li 1,Li 2,Li 3],.int .u32 (.lit 0)]
noncomputable def yf9 : List SV:=yf5 ++ [Lu 9,.bool (.v 0),.ptr 0 0,.ptr 1 0,u,u]
noncomputable def yfa : List HB:=yf0 ++ [⟨94,yex ++ [.int .i64 (.lit 99)] ++ yew ++ [.int .u32 (.lit 1)],true,none,none,none⟩] ++ yf2 ++ yez ++ yf0
noncomputable def yfb : List HB:=yf0 ++ yez ++ [⟨27,[Li 4,Li 5,Li 6,Lu 7,Lu 8],true,none,none,none⟩] ++ yez ++ yf0
noncomputable def yfc : List (B × Bool):=[((.cmp .eql (.v 0) (.lit 2)),false)] ++ yf6
noncomputable def yfd : List (B × Bool):=[((.cmp .eql (.v 0) (.lit 2)),true)] ++ yf6
noncomputable def as_args : List SV:=yf5
noncomputable def as_fr : Fr:=⟨42,yf5 ++ ur 354,[.code (.at_ [])]⟩
theorem as_fresh : fresh Try.prog 42 as_args = some as_fr:=by kernel_rfl
noncomputable def asA_in : St:=⟨[⟨42,yf5 ++ ur 354,[.code (.at_ [])]⟩],[],yf6,0⟩
noncomputable def asA_0 : St:=⟨[⟨42,yf5 ++ [.ptr 0 0,.ptr 1 0] ++ yf4 ++ yf7 ++ [.ptr 1 17,.agg [Li 4,Li 5,Li 6,Lu 7,Lu 8]] ++ ur 341,[.code (.at_ [1,0,1,0,1,0,2]),.inBlock 0,.code (.at_ [3])]⟩],yfb ++ yf0,yfd,0⟩
theorem asA_0_end : zc6 Try.prog asA_0 = some (.agg [.int .i64 (.v 4),.int .i64 (.v 5),.int .i64 (.v 6),.int .u64 (.v 7),.int .u64 (.v 8)]):=by kernel_rfl
noncomputable def asA_1 : St:=⟨[⟨42,yf5 ++ [.ptr 0 0,.ptr 1 0] ++ yf8 ++ yf7 ++ [.ptr 1 17,.agg [Li 4,Li 5,Li 6,Lu 7,Lu 8]] ++ ur 341,[.code (.at_ [1,0,1,0,1,0,2]),.inBlock 0,.code (.at_ [3])]⟩],yfb,yfc,0⟩
theorem asA_1_end : zc6 Try.prog asA_1 = some (.agg [.int .i64 (.v 4),.int .i64 (.v 5),.int .i64 (.v 6),.int .u64 (.v 7),.int .u64 (.v 8)]):=by kernel_rfl
theorem asA_run : run Try.prog [] [18,27,16,33,32] true 900 asA_in = [asA_0,asA_1]:=by kernel_rfl
noncomputable def tl_args : List SV:=yf5 ++ [Lu 9,.bool (.v 0)]
noncomputable def tl_fr : Fr:=⟨43,yf5 ++ [Lu 9,.bool (.v 0)] ++ ur 703,[.code (.at_ [])]⟩
theorem tl_fresh : fresh Try.prog 43 tl_args = some tl_fr:=by kernel_rfl
noncomputable def tlA_in : St:=⟨[⟨43,yf5 ++ [Lu 9,.bool (.v 0)] ++ ur 703,[.code (.at_ [])]⟩],[],yf6,0⟩
noncomputable def tlA_0 : St:=⟨[⟨43,yf9 ++ yf4 ++ yey,[.code (.at_ [2,0,1,0,1,0,2]),.inBlock 0,.code (.at_ [3])]⟩],yfa ++ yf0 ++ yf2 ++ yf2,[((.v 0),true)] ++ yfd,0⟩
theorem tlA_0_end : zc6 Try.prog tlA_0 = some (.agg [.int .i64 (.lit 0),.int .u32 (.lit 0),.int .i64 (.lit 0),.int .i64 (.lit 0),.int .i64 (.lit 0),.int .u64 (.lit 0),.int .u64 (.lit 0),.int .u64 (.lit 0),.int .u64 (.lit 0),.int .i64 (.lit 0),.c (.slice none 0 0),.bool (.lit false),.int .u64 (.lit 0),.int .u64 (.lit 0),.int .i64 (.lit 0),.int .u32 (.lit 0),.int .i64 (.lit 0),.int .i64 (.v 4),.int .i64 (.v 5),.int .i64 (.v 6),.int .u64 (.v 7),.int .u64 (.v 8),.int .i64 (.lit 0),.int .u32 (.lit 1)]):=by kernel_rfl
noncomputable def tlA_1 : St:=⟨[⟨43,yf9 ++ yf4 ++ yf1,[.code (.at_ [2,0,1,0,1,0,2]),.inBlock 0,.code (.at_ [3])]⟩],yf0 ++ yez ++ yf3 ++ yez ++ yf0 ++ yf0 ++ yf3 ++ yf3,[((.v 0),false)] ++ yfd,0⟩
theorem tlA_1_end : zc6 Try.prog tlA_1 = some (.agg [.int .i64 (.lit 0),.int .u32 (.lit 0),.int .i64 (.lit 0),.int .i64 (.lit 0),.int .i64 (.lit 0),.int .u64 (.lit 0),.int .u64 (.lit 0),.int .u64 (.lit 0),.int .u64 (.lit 0),.int .i64 (.lit 0),.c (.slice none 0 0),.bool (.lit false),.int .u64 (.lit 0),.int .u64 (.lit 0),.int .i64 (.lit 0),.int .u32 (.lit 0),.int .i64 (.lit 0),.int .i64 (.v 4),.int .i64 (.v 5),.int .i64 (.v 6),.int .u64 (.v 7),.int .u64 (.v 8),.int .i64 (.lit 0),.int .u32 (.lit 0)]):=by kernel_rfl
noncomputable def tlA_2 : St:=⟨[⟨43,yf9 ++ yf8 ++ yey,[.code (.at_ [2,0,1,0,1,0,2]),.inBlock 0,.code (.at_ [3])]⟩],yfa ++ yf2 ++ yf2,[((.v 0),true)] ++ yfc,0⟩
theorem tlA_2_end : zc6 Try.prog tlA_2 = some (.agg [.int .i64 (.lit 0),.int .u32 (.lit 0),.int .i64 (.lit 0),.int .i64 (.lit 0),.int .i64 (.lit 0),.int .u64 (.lit 0),.int .u64 (.lit 0),.int .u64 (.lit 0),.int .u64 (.lit 0),.int .i64 (.lit 0),.c (.slice none 0 0),.bool (.lit false),.int .u64 (.lit 0),.int .u64 (.lit 0),.int .i64 (.lit 0),.int .u32 (.lit 0),.int .i64 (.lit 0),.int .i64 (.v 4),.int .i64 (.v 5),.int .i64 (.v 6),.int .u64 (.v 7),.int .u64 (.v 8),.int .i64 (.lit 0),.int .u32 (.lit 1)]):=by kernel_rfl
noncomputable def tlA_3 : St:=⟨[⟨43,yf9 ++ yf8 ++ yf1,[.code (.at_ [2,0,1,0,1,0,2]),.inBlock 0,.code (.at_ [3])]⟩],yf0 ++ yez ++ yf3 ++ yez ++ yf0 ++ yf3 ++ yf3,[((.v 0),false)] ++ yfc,0⟩
theorem tlA_3_end : zc6 Try.prog tlA_3 = some (.agg [.int .i64 (.lit 0),.int .u32 (.lit 0),.int .i64 (.lit 0),.int .i64 (.lit 0),.int .i64 (.lit 0),.int .u64 (.lit 0),.int .u64 (.lit 0),.int .u64 (.lit 0),.int .u64 (.lit 0),.int .i64 (.lit 0),.c (.slice none 0 0),.bool (.lit false),.int .u64 (.lit 0),.int .u64 (.lit 0),.int .i64 (.lit 0),.int .u32 (.lit 0),.int .i64 (.lit 0),.int .i64 (.v 4),.int .i64 (.v 5),.int .i64 (.v 6),.int .u64 (.v 7),.int .u64 (.v 8),.int .i64 (.lit 0),.int .u32 (.lit 0)]):=by kernel_rfl
theorem tlA_run : run Try.prog [] [18,27,16,33,32] true 900 tlA_in = [tlA_0,tlA_1,tlA_2,tlA_3]:=by kernel_rfl
end
section
open Go Go.Conc Go.RowKit Jay Pl
open St Sx Rf
structure R3 where
 at_ : List Nat
 cl : List Int
 mem : Mem
 steps : List Rp.Sp
 calls : List Rc
structure Q3 where
 (gR gO gC gA cO cC cA : Nat)
 (pO pC pA : List Value)
 (vS vC : Value)
 cE : Array Value
 fs : List (List Value)
def Q3.mine (q : Q3) (g : Nat) : Prop:=g = q.gR \/ g = q.gO \/ g = q.gC \/ g = q.gA \/ q.vS.ownBlock = some g \/ q.vC.ownBlock = some g
def isV (l : List Int) : List Value:=l.map fun i=>.int .i64 i
def nsV (l : List Nat) : List Value:=l.map fun (i : Nat)=>.int .i64 (i : Int)
def f99 (pc out : Int) (a : Ac) : List Value:=[.int .i64 0,.int .u32 0,.int .i64 0,.int .i64 0,.int .i64 pc,.int .u64 0,.int .u64 0,.int .u64 0,.int .u64 0,.int .i64 0,.slice none 0 0,.bool false,.int .u64 0,.int .u64 0,.int .i64 0,.int .u32 0,.int .i64 0,.int .i64 a.d,.int .i64 a.ar,.int .i64 a.at_,.int .u64 a.old,.int .u64 a.new,.int .i64 0,.int .u32 out]
theorem zox {pc out : Int} {a : Ac} : ∀ v ∈ f99 pc out a,v.oneCell' = true:=fun v hv=>by
 simp only [f99,List.mem_cons,List.not_mem_nil,or_false] at hv
 rcases hv with rfl | rfl | rfl | rfl | rfl | rfl | rfl | rfl | rfl | rfl | rfl | rfl | rfl | rfl | rfl | rfl | rfl | rfl | rfl | rfl | rfl | rfl | rfl | rfl <;> rfl
def r3V (k K T Mn : Int) (n : Nat) (q : Q3) : List Value:=[.int .i64 k,.int .i64 K,.int .i64 T,.int .i64 Mn] ++ q.cE.toList ++ [.slice (some ⟨q.gO,0,none⟩) n q.cO,.slice (some ⟨q.gC,0,none⟩) n q.cC,.slice (some ⟨q.gA,0,none⟩) n q.cA,q.vS,q.vC,.int .u64 0,.int .u64 0,.slice none 0 0,.slice none 0 0,.int .u64 0,.int .u64 0,.slice none 0 0,.slice none 0 0,.slice none 0 0]
section
variable {γ : Type} {X : zad γ}
structure zkd (X : zad γ) (W : World) (s : γ) (w : World) (k K T Mn : Int) (r : R3) (q : Q3) : Prop where
 R : Blk w q.gR 91 (r3V k K T Mn r.at_.length q).toArray
 O : Blk w q.gO 94 (q.fs.flatten ++ q.pO).toArray
 C : Blk w q.gC 3 (isV r.cl ++ q.pC).toArray
 A : Blk w q.gA 3 (nsV r.at_ ++ q.pA).toArray
 fl : q.fs.length = r.at_.length
 fc : ∀ f ∈ q.fs,f.length = 24 /\ ∀ v ∈ f,v.oneCell' = true
 cl : r.cl.length = r.at_.length
 S : w.ownsRow 0 63 8 q.vS r.steps.length (r.steps.flatMap Rp.Sp.cells)
 K : w.ownsRow 0 65 7 q.vC r.calls.length (r.calls.flatMap Rc.cells)
 mem : zbb w w.heap.size r.mem q.cE
 small : r.mem.small
 off : ∀ g,q.mine g -> Off g q.cE
 dis : ∀ g,q.mine g -> ¬ X.oth s g /\ g < w.heap.size /\ W.heap.size <= g
 ne : [q.gR,q.gO,q.gC,q.gA].Nodup /\ (∀ g,q.vS.ownBlock = some g -> g ∉ [q.gR,q.gO,q.gC,q.gA] /\ q.vC.ownBlock ≠ some g) /\ ∀ g,q.vC.ownBlock = some g -> g ∉ [q.gR,q.gO,q.gC,q.gA]
 bel : Below W.heap.size W w
 nils : (q.vS = .slice none 0 0 /\ q.vC = .slice none 0 0 /\ r.steps = [] /\ r.calls = []) \/ ∃ gS nS cS gK nK cK,q.vS = .slice (some ⟨gS,0,none⟩) nS cS /\ q.vC = .slice (some ⟨gK,0,none⟩) nK cK
 far : ∀ g,g < W.heap.size -> Off g q.cE
def R3.of (r : Rw) : R3:=⟨r.at_,List.replicate r.at_.length (-1),r.mem,r.steps,zbi r.steps⟩
theorem zkd.below {W : World} {s : γ} {w w' : World} {k K T Mn : Int} {r : R3} {q : Q3} (h : zkd X W s w k K T Mn r q) (hb : Below w.heap.size w w') : zkd X W s w' k K T Mn r q:=
 ⟨h.R.below hb h.R.lt,h.O.below hb h.O.lt,h.C.below hb h.C.lt,h.A.below hb h.A.lt,h.fl,h.fc,h.cl,zeo h.S fun g _ hl=>hb.block g hl,zeo h.K fun g _ hl=>hb.block g hl,(zbb.chg h.mem (Nat.le_refl _) (Chg.of_below (S:=fun _=>False) hb) fun g hg=>hg.elim).more hb.size,h.small,h.off,fun g hg=>let d:=h.dis g hg; ⟨d.1,Nat.lt_of_lt_of_le d.2.1 hb.size,d.2.2⟩,h.ne,h.bel.trans (hb.mono h.bel.size),h.nils,h.far⟩
theorem zhn {l : List Value} {p : List Value} {i : Nat} {v : Value} (h : l[i]? = some v) : l ++ p = l.take i ++ [v] ++ (l.drop (i + 1) ++ p):=by
 obtain ⟨hi,rfl⟩:=List.getElem?_eq_some_iff.1 h
 have e : l = l.take i ++ (l[i] :: l.drop (i + 1)):=by rw [<- List.drop_eq_getElem_cons hi,List.take_append_drop]
 conv=>lhs; rw [e]
 simp only [List.append_assoc,List.cons_append,List.nil_append]
theorem set_at {l p : List Value} {i : Nat} {v : Value} (h : i < l.length) : l.take i ++ [v] ++ (l.drop (i + 1) ++ p) = l.set i v ++ p:=by
 rw [List.set_eq_take_append_cons_drop,if_pos h]
 simp
theorem fl_len {fs : List (List Value)} (h : ∀ f ∈ fs,f.length = 24) : fs.flatten.length = fs.length * 24:=by
 induction fs with
 | nil=>rfl
 | cons f fs ih=>
  rw [List.flatten_cons,List.length_append,h f (by simp),ih fun g hg=>h g (by simp [hg]),List.length_cons,Nat.succ_mul]
  omega
theorem zou {fs : List (List Value)} {i : Nat} {f p : List Value} (h : fs[i]? = some f) : fs.flatten ++ p = (fs.take i).flatten ++ f ++ ((fs.drop (i + 1)).flatten ++ p):=by
 obtain ⟨hi,rfl⟩:=List.getElem?_eq_some_iff.1 h
 have e : fs.flatten = (fs.take i).flatten ++ (fs[i] ++ (fs.drop (i + 1)).flatten):=by rw [<- List.flatten_cons,<- List.drop_eq_getElem_cons hi,<- List.flatten_append,List.take_append_drop]
 rw [e]
 simp only [List.append_assoc]
theorem fl_set {fs : List (List Value)} {i : Nat} {f p : List Value} (h : i < fs.length) : (fs.take i).flatten ++ f ++ ((fs.drop (i + 1)).flatten ++ p) = (fs.set i f).flatten ++ p:=by
 rw [List.set_eq_take_append_cons_drop,if_pos h]
 simp
/-! ### Ask and Tell of a call of one access -/
variable {s : γ} {w : World}
theorem ask99 {k K T Mn : Int} (a : Ac) (hM : IntKind.u64.wrap Mn ≠ 0) :
  Jdo Try.prog X 42 #[cfg k K T Mn,.agg (f99 99 0 a).toArray] s w fun s' r w'=>s' = s /\ Below w.heap.size w w' /\ r = .back (.agg (acc a.d a.ar a.at_ a.old a.new)):=by
 let Y : Env:={ ints:=[k,K,T,Mn,a.d,a.ar,a.at_,a.old,a.new] }
 refine zbt (Y:=Y) as_fresh rfl fun Stop c cs hth hback _=>?_
 have hr : Rep X s (ours Y asA_in.heap) w Y asA_in.heap asA_in.facts 0 w:=Rep.start hth (fun v hv=>by cases hv) rfl trivial trivial (za5 ⟨?_,trivial⟩) rfl
 ·refine zaa 900 asA_run hr ⟨fun Y1 w1 hx1 hr1=>?_,fun Y1 w1 hx1 hr1=>?_,trivial⟩
  ·have hb1 : Below w.heap.size w w1:=hr1.chg.below (fun k hk=>by obtain ⟨i,hb,hi,_⟩:=hk; cases hi) (Nat.le_refl _)
   refine zbx asA_0_end hr1.rep (hback s _ w1 ⟨rfl,hb1,?_⟩ hr1.there)
   show zf9.back (Value.agg #[.int .i64 (Y1.ints.getD 4 0),.int .i64 (Y1.ints.getD 5 0),.int .i64 (Y1.ints.getD 6 0),.int .u64 (Y1.ints.getD 7 0),.int .u64 (Y1.ints.getD 8 0)]) = _
   rw [hx1.ints]
   rfl
  ·have hb1 : Below w.heap.size w w1:=hr1.chg.below (fun k hk=>by obtain ⟨i,hb,hi,_⟩:=hk; cases hi) (Nat.le_refl _)
   refine zbx asA_1_end hr1.rep (hback s _ w1 ⟨rfl,hb1,?_⟩ hr1.there)
   show zf9.back (Value.agg #[.int .i64 (Y1.ints.getD 4 0),.int .i64 (Y1.ints.getD 5 0),.int .i64 (Y1.ints.getD 6 0),.int .u64 (Y1.ints.getD 7 0),.int .u64 (Y1.ints.getD 8 0)]) = _
   rw [hx1.ints]
   rfl
 ·show (IntKind.u64.wrap Mn == 0) = false
  exact beq_eq_false_iff_ne.2 hM
theorem tell99 {k K T Mn : Int} {was : Int} {done : Bool} (a : Ac) (hM : IntKind.u64.wrap Mn ≠ 0) :
  Jdo Try.prog X 43 #[cfg k K T Mn,.agg (f99 99 0 a).toArray,.int .u64 was,.bool done] s w fun s' r w'=>s' = s /\ Below w.heap.size w w' /\ r = .back (.agg (f99 0 (if done = true then 1 else 0) a).toArray):=by
 let Y : Env:={ ints:=[k,K,T,Mn,a.d,a.ar,a.at_,a.old,a.new,was],bools:=[done] }
 refine zbt (Y:=Y) tl_fresh rfl fun Stop c cs hth hback _=>?_
 have hr : Rep X s (ours Y tlA_in.heap) w Y tlA_in.heap tlA_in.facts 0 w:=Rep.start hth (fun v hv=>by cases hv) rfl trivial trivial (za5 ⟨beq_eq_false_iff_ne.2 hM,trivial⟩) rfl
 have fin : ∀ (out : Int) (b : Bool) (Y1 : Env) (w1 : World) (hh : List HB) (fa : List (B × Bool)),Ext Y Y1 -> Rep X s (ours Y tlA_in.heap) w Y1 hh ((.v 0,b) :: fa) 0 w1 -> out = (if b = true then 1 else 0) -> Below w.heap.size w w1 /\ zf9.back (Value.agg #[.int .i64 0,.int .u32 0,.int .i64 0,.int .i64 0,.int .i64 0,.int .u64 0,.int .u64 0,.int .u64 0,.int .u64 0,.int .i64 0,.slice none 0 0,.bool false,.int .u64 0,.int .u64 0,.int .i64 0,.int .u32 0,.int .i64 0,.int .i64 (Y1.ints.getD 4 0),.int .i64 (Y1.ints.getD 5 0),.int .i64 (Y1.ints.getD 6 0),.int .u64 (Y1.ints.getD 7 0),.int .u64 (Y1.ints.getD 8 0),.int .i64 0,.int .u32 out]) = .back (.agg (f99 0 (if done = true then 1 else 0) a).toArray):=by
  intro out b Y1 w1 hh fa hx1 hr1 ho
  refine ⟨hr1.chg.below (fun k hk=>by obtain ⟨i,hb,hi,_⟩:=hk; cases hi) (Nat.le_refl _),?_⟩
  have hd : done = b:=by
   have:=hr1.facts (.v 0,b) (List.mem_cons_self ..)
   have h2 : Y1.bools.getD 0 false = b:=this
   rw [hx1.bools] at h2
   exact h2
  rw [hx1.ints,ho,hd]
  rfl
 refine zaa 900 tlA_run hr ⟨fun Y1 w1 hx1 hr1=>?_,fun Y1 w1 hx1 hr1=>?_,fun Y1 w1 hx1 hr1=>?_,fun Y1 w1 hx1 hr1=>?_,trivial⟩
 ·obtain ⟨h1,h2⟩:=fin 1 true Y1 w1 _ _ hx1 hr1 rfl
  exact zbx tlA_0_end hr1.rep (hback s _ w1 ⟨rfl,h1,h2⟩ hr1.there)
 ·obtain ⟨h1,h2⟩:=fin 0 false Y1 w1 _ _ hx1 hr1 rfl
  exact zbx tlA_1_end hr1.rep (hback s _ w1 ⟨rfl,h1,h2⟩ hr1.there)
 ·obtain ⟨h1,h2⟩:=fin 1 true Y1 w1 _ _ hx1 hr1 rfl
  exact zbx tlA_2_end hr1.rep (hback s _ w1 ⟨rfl,h1,h2⟩ hr1.there)
 ·obtain ⟨h1,h2⟩:=fin 0 false Y1 w1 _ _ hx1 hr1 rfl
  exact zbx tlA_3_end hr1.rep (hback s _ w1 ⟨rfl,h1,h2⟩ hr1.there)
end
end
end Go.Proofs.Ytonhfgjofgbcdaa.Dr
