/- A part of this claim's proof. -/
import Derived.Test.YtonhfgjofgbcdaaRws5
import Derived.Test.YtonhfgjofgbcdaaRws6
import Derived.Test.YtonhfgjofgbcdaaRws7
import Derived.Stop.Asserts
set_option linter.unusedSimpArgs false
set_option linter.unusedVariables false
set_option maxRecDepth 20000
noncomputable section
namespace Go.Proofs.Ytonhfgjofgbcdaa.Sx
open Go Go.Conc Jay
section
/-! ### Values -/
inductive E where
 | lit (n : Int)
 | v (i : Nat)
 | ar (o : BinOp) (k : IntKind) (a b : E)
 | cv (k : IntKind) (a : E)
 | tn (a : E)
 | ad (a b : E)
 | su (a b : E)
 deriving DecidableEq
inductive B where
 | lit (b : Bool)
 | v (i : Nat)
 | cmp (o : BinOp) (a b : E)
 | no (b : B)
 | eq (a b : B)
 | and (a b : B)
 deriving DecidableEq
inductive BA where
 | blk (b : Nat)
 | sh (a : BA) (l m : E) (n : Nat)
 deriving DecidableEq
inductive CP where
 | e (a : E)
 | of (b n : Nat)
 deriving DecidableEq
inductive SV where
 | int (k : IntKind) (e : E)
 | bool (b : B)
 | nilp
 | ptr (b o : Nat)
 | func (f : FuncId) (first captured : List SV)
 | iface (t : TypeId) (v : SV)
 | agg (l : List SV)
 | tup (l : List SV)
 | x (i : Nat)
 | y (i : Nat)
 | c (v : Value)
 | sl (a : BA) (len : E) (cap : CP)
structure Seg where
 g : Nat:=0
 b0 : Nat:=0
 o : Nat:=0
 pre : List Value:=[]
 post : List Value:=[]
 cap : Nat:=0
 /-- Another beginning of a slice of it: of one of no elements it may be any. -/
 ad : Option (Option Addr):=none
def Seg.adr (q : Seg) : Option Addr:=match q.ad with
 | none=>some ⟨q.g,q.b0,none⟩
 | some a=>a
structure Env where
 ints : List Int:=[]
 bools : List Bool:=[]
 xs : List Value:=[]
 ys : List Value:=[]
 blks : List Seg:=[]
 perms : List (List Nat):=[]
def arOf (o : BinOp) (k : IntKind) (x y : Int) : Int:=
 match o with
 | .add=>k.wrap (x + y)
 | .sub=>k.wrap (x - y)
 | .mul=>k.wrap (x * y)
 | .quo=>k.wrap (x.tdiv y)
 | .rem=>x.tmod y
 | .shl=>k.wrap (x * 2 ^ (min y.toNat k.bits))
 | .shr=>x.fdiv (2 ^ (min y.toNat k.bits))
 | o=>bits o k x y
def zlw (o : BinOp) (x y : Int) : Bool:=
 match o with
 | .eql=>x == y
 | .neq=>x != y
 | .lss=>decide (x < y)
 | .leq=>decide (x <= y)
 | .gtr=>decide (x > y)
 | _=>decide (x >= y)
def E.den (Y : Env) : E -> Int
 | .lit n=>n
 | .v i=>Y.ints.getD i 0
 | .ar o k a b=>arOf o k (a.den Y) (b.den Y)
 | .cv k a=>k.wrap (a.den Y)
 | .tn a=>((a.den Y).toNat : Int)
 | .ad a b=>a.den Y + b.den Y
 | .su a b=>a.den Y - b.den Y
def B.den (Y : Env) : B -> Bool
 | .lit b=>b
 | .v i=>Y.bools.getD i false
 | .cmp o a b=>zlw o (a.den Y) (b.den Y)
 | .no b=>!(b.den Y)
 | .eq a b=>a.den Y == b.den Y
 | .and a b=>a.den Y && b.den Y
def BA.den (Y : Env) : BA -> Option Addr
 | .blk b=>(Y.blks.getD b {}).adr
 | .sh a l m n=>if (m.den Y).toNat = (l.den Y).toNat then a.den Y else (a.den Y).map (·.add ((l.den Y).toNat * n))
def CP.den (Y : Env) : CP -> Nat
 | .e a=>(a.den Y).toNat
 | .of b _=>(Y.blks.getD b {}).cap
mutual
def SV.den (Y : Env) : SV -> Value
 | .int k e=>.int k (e.den Y)
 | .bool b=>.bool (b.den Y)
 | .nilp=>.pointer none
 | .ptr b o=>.pointer (some ⟨(Y.blks.getD b {}).g,(Y.blks.getD b {}).o + o,none⟩)
 | .func f a c=>.func (.func f) (za3 Y a).toArray (za3 Y c).toArray
 | .iface t v=>.iface t (v.den Y)
 | .agg l=>.agg (za3 Y l).toArray
 | .tup l=>.tuple (za3 Y l).toArray
 | .x i=>Y.xs.getD i undef
 | .y i=>Y.ys.getD i .nilFunc
 | .c v=>v
 | .sl a len cap=>.slice (a.den Y) (len.den Y).toNat (cap.den Y)
def za3 (Y : Env) : List SV -> List Value
 | []=>[]
 | v :: l=>v.den Y :: za3 Y l
end
def mkAr (o : BinOp) (k : IntKind) (a b : E) : E:=match a,b with
 | .lit x,.lit y=>.lit (arOf o k x y)
 | a,b=>.ar o k a b
def mkCv (k : IntKind) (a : E) : E:=match a with
 | .lit x=>.lit (k.wrap x)
 | a=>.cv k a
def zm3 (a : E) : E:=match a with
 | .lit x=>.lit (x.toNat : Int)
 | .tn a=>.tn a
 | a=>.tn a
def zgz (o : BinOp) (a b : E) : B:=match a,b with
 | .lit x,.lit y=>.lit (zlw o x y)
 | a,b=>.cmp o a b
def mkNo (b : B) : B:=match b with
 | .lit b=>.lit (!b)
 | .no b=>b
 | b=>.no b
def mkEq (a b : B) : B:=match a,b with
 | .lit a,.lit b=>.lit (a == b)
 | .lit true,b=>b
 | a,.lit true=>a
 | .lit false,b=>mkNo b
 | a,.lit false=>mkNo a
 | a,b=>.eq a b
def mkAnd (a b : B) : B:=match a,b with
 | .lit true,b=>b
 | a,.lit true=>a
 | .lit false,_=>.lit false
 | a,b=>.and a b
def ofV1 : Value -> SV
 | .int k n=>.int k (.lit n)
 | .bool b=>.bool (.lit b)
 | .pointer none=>.nilp
 | v=>.c v
def ofV : Value -> SV
 | .agg cs=>.agg (cs.toList.map ofV1)
 | v=>ofV1 v
def sev (tmps : List SV) : Operand -> SV
 | .tmp t=>tmps.getD t (.c undef)
 | .const v=>ofV v
 | .global g=>.c (.pointer (some ⟨g,0,none⟩))
 | .func f=>.func f [] []
def SV.one : SV -> Bool
 | .int .. | .bool _ | .nilp | .ptr .. | .func .. | .iface .. | .y _ | .sl ..=>true
 | .c v=>v.oneCell'
 | _=>false
def SV.cells : SV -> List SV
 | .agg l=>l
 | v=>[v]
def BA.sc (n : Nat) : BA -> Bool
 | .blk b=>b < n
 | .sh a _ _ _=>a.sc n
def CP.sc (n : Nat) : CP -> Bool
 | .e _=>true
 | .of b _=>b < n
mutual
def SV.sc (n : Nat) : SV -> Bool
 | .ptr b _=>b < n
 | .sl a _ c=>a.sc n && c.sc n
 | .func _ a c=>scs n a && scs n c
 | .iface _ v=>v.sc n
 | .agg l | .tup l=>scs n l
 | _=>true
def scs (n : Nat) : List SV -> Bool
 | []=>true
 | v :: l=>v.sc n && scs n l
end
/-! ### Frames,blocks -/
structure HB where
 t : TypeId
 cs : List SV
 wr : Bool:=true
 foc : Option (E × Nat):=none
 row : Option (E × Nat × Nat):=none
 /-- What of the block lies ahead of its cells: what lies there of that block,and these. -/
 ap : Option (Option Nat × List SV):=none
def HB.live (h : HB) : Bool:=h.wr || !h.cs.isEmpty
inductive CE where
 | at_ (p : List Nat)
 | skip
 | seq (a b : CE)
inductive It where
 | code (c : CE)
 | inBlock (id : Nat)
 | inLoop (c : CE)
 | inScope (p : List Nat)
 | inRegion (p : List Nat) (todo : List Nat)
 | lin (p ord rest : List Nat) (j : Nat)
structure Fr where
 fn : FuncId
 tmps : List SV
 todo : List It
structure St where
 frs : List Fr
 heap : List HB
 facts : List (B × Bool):=[]
 np : Nat:=0
def ze7 : Nat -> Code -> Option Code
 | 0,c=>some c
 | n + 1,.seq _ b=>ze7 n b
 | n + 1,.cond _ _ b=>ze7 n b
 | _,_=>none
def child : Nat -> Code -> Option Code
 | 0,.seq a _=>some a
 | 0,.cond _ a _=>some a
 | 0,.block _ a=>some a
 | 0,.loop a=>some a
 | 0,.scope a=>some a
 | n + 1,c=>ze7 (n + 1) c
 | _,_=>none
def walk (c : Code) : List Nat -> Option Code
 | []=>some c
 | n :: r=>match walk c r with
  | some d=>child n d
  | none=>none
def bodyOf (P : Program) (f : FuncId) : Option Code:=match P.funcs[f]? with
 | some fn=>fn.body
 | none=>none
def zbo (P : Program) (f : FuncId) (p : List Nat) : Option Code:=match bodyOf P f with
 | some c=>walk c p
 | none=>none
def pL (p : List Nat) : List Nat:=0 :: p
def pR : List Nat -> List Nat
 | (n + 1) :: r=>(n + 2) :: r
 | p=>1 :: p
def CE.den (P : Program) (f : FuncId) : CE -> Code
 | .at_ p=>(zbo P f p).getD .skip
 | .skip=>.skip
 | .seq a b=>.seq (a.den P f) (b.den P f)
def za1 (P : Program) (f : FuncId) (p : List Nat) : Array Oper:=match zbo P f p with
 | some (.region _ ops _)=>ops
 | _=>#[]
def zc0 (ops : Array Oper) : List Nat:=ops.toList.foldl (fun acc o=>acc ++ [zn4 acc o.after]) []
open Classical in
def linOf (ops : Array Oper) (ord rest perm : List Nat) : List Nat:=
 if LinR ops (zc0 ops) ord rest perm then perm else if h : ∃ l,LinR ops (zc0 ops) ord rest l then h.choose else []
def It.den (P : Program) (Y : Env) (f : FuncId) : It -> Item
 | .code c=>.code (c.den P f)
 | .inBlock id=>.inBlock id
 | .inLoop c=>.inLoop (c.den P f)
 | .inScope p=>.inScope ((zbo P f p).getD .skip)
 | .inRegion p todo=>.inRegion (za1 P f p) todo
 | .lin p ord rest j=>.inRegion (za1 P f p) (linOf (za1 P f p) ord rest (Y.perms.getD j []))
def Fr.act (Y : Env) (fr : Fr) : Act:={ tmps:=(za3 Y fr.tmps).toArray,defers:=[] }
def Fr.den (P : Program) (Y : Env) (fr : Fr) : Frame:=(base fr.fn).at (fr.act Y) (fr.todo.map (It.den P Y fr.fn))
/-! ### Operations that change nothing -/
def B.core : B -> B
 | .no b=>b.core
 | b=>b
def B.look (facts : List (B × Bool)) : B -> Option Bool
 | .lit b=>some b
 | .no b=>(b.look facts).map (!·)
 | b=>(facts.find? fun p=>decide (p.1 = b)).map (·.2)
def isAgg? : TypeDesc -> Bool
 | .struct _ | .array _ _=>true
 | _=>false
def sload (P : Program) (h : List HB) (t : TypeId) (b o : Nat) : Option SV:=
 match h[b]?,P.underlying t,P.info? t with
 | some hb,some d,some i=>
  if isAgg? d then (if o + i.size <= hb.cs.length then some (.agg ((hb.cs.drop o).take i.size)) else none)
  else hb.cs[o]?
 | _,_,_=>none
def isPtr (P : Program) (t : TypeId) : Bool:=match P.underlying t with | some (.pointer _)=>true | _=>false
def isIface (P : Program) (t : TypeId) : Bool:=match P.underlying t with | some (.interface _)=>true | _=>false
def isBool (P : Program) (t : TypeId) : Bool:=match P.underlying t with | some .bool=>true | _=>false
def isC : Operand -> Bool
 | .const _=>true
 | _=>false
def spart (P : Program) (t : TypeId) (l : List SV) (o : Nat) : Option SV:=
 match P.underlying t,P.info? t with
 | some d,some i=>if isAgg? d then some (.agg ((l.drop o).take (o + i.size - o))) else l[o]?
 | _,_=>none
def seqV (P : Program) (rec : TypeId -> List SV -> List SV -> Option B) (t : TypeId) (a b : SV) : Option B:=
 match a,b with
 | .int k e,.int j f=>if k = j then (match P.underlying t with | some (.int _)=>some (zgz .eql e f) | _=>none) else none
 | .bool x,.bool y=>if isBool P t then some (mkEq x y) else none
 | .agg xs,.agg ys=>rec t xs ys
 | _,_=>none
def sflds (P : Program) (rec : TypeId -> List SV -> List SV -> Option B) (xs ys : List SV) : List Field -> Option B
 | []=>some (.lit true)
 | f :: fs => if f.name ≠ "_" then
   match spart P f.type xs f.offset,spart P f.type ys f.offset with
   | some a,some b=>match seqV P rec f.type a b,sflds P rec xs ys fs with
    | some r,some s=>some (mkAnd r s)
    | _,_=>none
   | _,_=>none
  else sflds P rec xs ys fs
def sstr (P : Program) : Nat -> TypeId -> List SV -> List SV -> Option B
 | 0,_,_,_=>none
 | n + 1,t,xs,ys=>match P.underlying t with
  | some (.struct fs)=>if P.stoodInHeld t then none else sflds P (sstr P n) xs ys fs.toList
  | _=>none
def sbin (P : Program) (facts : List (B × Bool)) (lit : Bool) (op : BinOp) (t : TypeId) (a b : SV) : Option SV:=
 match a,b with
 | .int k e,.int j f=>
  match op with
  | .shl | .shr=>match f with
   | .lit n=>if 0 <= n then some (.int k (mkAr op k e (.lit n))) else none
   | _=>none
  | .quo | .rem=>match f with
   | .lit n=>if k = j /\ n ≠ 0 then some (.int k (mkAr op k e (.lit n))) else none
   | f=>if k = j /\ (B.cmp .eql f (.lit 0)).look facts = some false then some (.int k (mkAr op k e f)) else none
  | .add | .sub | .mul | .and | .or | .xor | .andNot=>if k = j then some (.int k (mkAr op k e f)) else none
  | op=>if k = j then some (.bool (zgz op e f)) else none
 | .bool x,.bool y=>
  if isBool P t then match op with
   | .eql=>some (.bool (mkEq x y))
   | .neq=>some (.bool (mkNo (mkEq x y)))
   | _=>none
  else none
 | .ptr ..,.nilp=>if isPtr P t then match op with
   | .eql=>some (.bool (.lit false))
   | .neq=>some (.bool (.lit true))
   | _=>none
  else none
 | .nilp,.nilp=>if isPtr P t then match op with
   | .eql=>some (.bool (.lit true))
   | .neq=>some (.bool (.lit false))
   | _=>none
  else none
 | .c .nilIface,.c .nilIface=>if lit && isIface P t then match op with
   | .eql=>some (.bool (.lit true))
   | .neq=>some (.bool (.lit false))
   | _=>none
  else none
 | .iface ..,.c .nilIface=>if isIface P t then match op with
   | .eql=>some (.bool (.lit false))
   | .neq=>some (.bool (.lit true))
   | _=>none
  else none
 | .agg xs,.agg ys=>if P.eqGuardType P.depth t = false then
   match op with
   | .eql=>(sstr P 8 t xs ys).map .bool
   | .neq=>(sstr P 8 t xs ys).map fun b=>.bool (mkNo b)
   | _=>none
  else none
 | _,_=>none
def zov (P : Program) (s : TypeId) (f : Nat) : Option (TypeId × Nat):=match P.underlying s with
 | some (.struct fs)=>match fs[f]? with
  | some fd=>some (fd.type,fd.offset)
  | none=>none
 | _=>none
def sfill (place : Nat -> Option (Nat × Nat)) (cells : List SV) : List (Nat × SV) -> Option (List SV)
 | []=>some cells
 | (i,v) :: rest=>match place i with
  | none=>none
  | some (off,size)=>if v.cells.length = size /\ off + v.cells.length <= cells.length /\ v.cells.all SV.one = true then sfill place (cells.take off ++ v.cells ++ cells.drop (off + v.cells.length)) rest else none
def sbuilt (P : Program) (t : TypeId) (parts : List (Nat × SV)) : Option (List SV):=
 match P.info? t,P.underlying t with
 | some it,some (.array _ e)=>match it.zero,P.info? e with
  | some z,some ie=>sfill (fun i=>some (i * ie.size,ie.size)) (z.cells.toList.map ofV1) parts
  | _,_=>none
 | some it,some (.struct fields)=>match it.zero,fields.toList.mapM (fun f=>(P.info? f.type).map fun i=>(f.offset,i.size)) with
  | some z,some places=>sfill (places.toArray[·]?) (z.cells.toList.map ofV1) parts
  | _,_=>none
 | _,_=>none
def askOf (facts : List (B × Bool)) (tmps : List SV) (o : Op) : Option B:=
 let ask (b : B) : Option B:=match b.look facts with | none=>some b.core | some _=>none
 match o with
 | .pick c _ _=>match sev tmps c with
  | .bool b=>ask b
  | _=>none
 | .binOp .quo _ _ y _ | .binOp .rem _ _ y _=>match sev tmps y with
  | .int _ (.lit _)=>none
  | .int _ f=>ask (.cmp .eql f (.lit 0))
  | _=>none
 | .indexAddr _ x i=>match sev tmps x,sev tmps i with
  | .sl _ len _,.int _ e=>match ask (zgz .leq (.lit 0) e) with
   | some b=>some b
   | none=>ask (zgz .lss e (zm3 len))
  | _,_=>none
 | .slice _ x lo hi _=>match sev tmps x with
  | .sl _ len (.e cap)=>
   let num (o : Option Operand) (d : E) : E:=match o with
    | none=>d
    | some y=>match sev tmps y with
     | .int _ e=>e
     | _=>d
   let h':=num hi (zm3 len)
   let l':=num lo (.lit 0)
   match ask (zgz .leq (.lit 0) h') with
   | some b=>some b
   | none=>match (if hi.isNone then none else ask (zgz .leq h' (zm3 cap))) with
    | some b=>some b
    | none=>match ask (zgz .leq (.lit 0) l') with
     | some b=>some b
     | none=>ask (zgz .leq l' (zm3 h'))
  | _=>none
 | _=>none
def spure (P : Program) (h : List HB) (facts : List (B × Bool)) (tmps : List SV) (o : Op) : Option SV:=
 match o with
 | .move x | .assign x=>some (sev tmps x)
 | .pick c a b=>match sev tmps c with
  | .bool t=>match t.look facts with
   | some true=>some (sev tmps a)
   | some false=>some (sev tmps b)
   | none=>none
  | _=>none
 | .load t a=>match sev tmps a with
  | .ptr b o=>sload P h t b o
  | _=>none
 | .call { callee:=.builtin .len,args,argTypes }=>match args.toList,argTypes.toList with
  | [x],[t]=>match sev tmps x,P.underlying t with
   | .sl _ len _,some (.slice _)=>some (.int .i64 (zm3 len))
   | .c (.slice none 0 0),some (.slice _)=>some (.int .i64 (.lit 0))
   | _,_=>none
  | _,_=>none
 | .indexAddr t x i=>match sev tmps x,sev tmps i,P.underlying t with
  | .sl (.blk b) len _,.int _ e,some (.slice el)=>match h[b]?,P.info? el with
   | some hb,some ti=>
    if (zgz .leq (.lit 0) e).look facts = some true /\ (zgz .lss e (zm3 len)).look facts = some true then match hb.foc with
     | some (f,n)=>if f = e /\ n = ti.size then some (.ptr b 0) else match f,e with
      | .lit x,.lit y=>if 0 <= x /\ x <= y /\ n = ti.size then some (.ptr b ((y - x).toNat * n)) else none
      | _,_=>none
     | none=>none
    else none
   | _,_=>none
  | _,_,_=>none
 | .slice t x lo hi mx=>match sev tmps x,P.underlying t with
  | .sl a len (.e cap),some (.slice el)=>match P.info? el with
   | some ti=>
    let num (o : Option Operand) (d : E) : Option E:=match o with
     | none=>some d
     | some y=>match sev tmps y with
      | .int _ e=>some e
      | _=>none
    match mx,num hi (zm3 len),num lo (.lit 0) with
    | none,some h',some l'=>
     if (hi.isNone || ((zgz .leq (.lit 0) h').look facts = some true /\ (zgz .leq h' (zm3 cap)).look facts = some true)) /\ (lo.isNone || ((zgz .leq (.lit 0) l').look facts = some true /\ (zgz .leq l' (zm3 h')).look facts = some true)) then
      some (.sl (.sh a l' cap ti.size) (.su (zm3 h') (zm3 l')) (.e (.su (zm3 cap) (zm3 l'))))
     else none
    | _,_,_=>none
   | none=>none
  | _,_=>none
 | .nilCheck x=>match sev tmps x with
  | .ptr b o=>some (.ptr b o)
  | .func f a c=>some (.func f a c)
  | .iface t v=>some (.iface t v)
  | _=>none
 | .binOp op t x y _=>sbin P facts (isC x || isC y) op t (sev tmps x) (sev tmps y)
 | .unOp op _ x=>match op,sev tmps x with
  | .not,.bool b=>some (.bool (mkNo b))
  | _,_=>none
 | .convert src dst x=>match sev tmps x,P.underlying src,P.underlying dst with
  | .int _ e,some (.int _),some (.int k')=>some (.int k' (mkCv k' e))
  | _,_,_=>none
 | .fieldAddr s x f=>match sev tmps x,zov P s f with
  | .ptr b o,some (t,n)=>match P.info? t with
   | some i=>if i.size = 0 then none else some (.ptr b (o + n))
   | none=>none
  | _,_=>none
 | .field s x f=>match sev tmps x,zov P s f with
  | .agg l,some (t,n)=>spart P t l n
  | _,_=>none
 | .extract x i=>match sev tmps x with
  | .tup l=>l[i]?
  | _=>none
 | .build t parts=>match sbuilt P t (parts.toList.map fun x=>(x.1,sev tmps x.2)) with
  | some cs=>some (.agg cs)
  | none=>none
 | .makeFunc (.func f) a c=>some (.func f (a.toList.map (sev tmps)) (c.toList.map (sev tmps)))
 | .makeInterface t x=>match P.underlying t with
  | some (.interface _)=>none
  | some _=>some (.iface t (sev tmps x))
  | none=>none
 | .typeAssert x _ t true=>match P.underlying t with
  | some (.interface want)=>match sev tmps x with
   | .c .nilIface=>match (P.info? t).map (·.zero) with
    | some (some z)=>some (.tup [.c z,.bool (.lit false)])
    | _=>none
   | .iface d v=>match (P.info? d).map (fun i=>(lacking want i.methods).isEmpty) with
    | some true=>some (.tup [.iface d v,.bool (.lit true)])
    | some false=>match (P.info? t).map (·.zero) with
     | some (some z)=>some (.tup [.c z,.bool (.lit false)])
     | _=>none
    | none=>none
   | _=>none
  | _=>none
 | _=>none
/-! ### Steps -/
inductive SR where
 | next (st : St)
 | fork (b : B)
 | stop
def Fr.put (fr : Fr) (dst : Option Tmp) (v : SV) (todo : List It) : Fr:={ fr with tmps:=(match dst with | some d=>fr.tmps.set d v | none=>fr.tmps),todo }
def zc1 (P : Program) (tmps : List SV) (o : Op) : Option (FuncId × List SV):=
 match o with
 | .call { callee:=.value x,args,.. }=>match sev tmps x with
  | .func f a c=>some (f,a ++ args.toList.map (sev tmps) ++ c)
  | _=>none
 | .call { callee:=.invoke r name,args,.. }=>match sev tmps r with
  | .iface t v=>match zgb P t name with
   | some f=>some (f,v :: args.toList.map (sev tmps))
   | none=>none
  | _=>none
 | _=>none
def fresh (P : Program) (f : FuncId) (args : List SV) : Option Fr:=match P.funcs[f]? with
 | some fn=>match fn.body with
  | some _ => if fn.name == "runtime.NumGoroutine" then none else some { fn := f,tmps := args ++ List.replicate (fn.ntmps - args.length) (.c undef),todo := [.code (.at_ [])] }
  | none=>none
 | none=>none
def sExit (id : Nat) : List It -> Option (List It)
 | .inBlock id' :: k=>if id' == id then some k else sExit id k
 | _ :: k=>sExit id k
 | []=>none
def sFind (l : Nat) : Code -> List Nat -> Option CE
 | .seq a b,p=>match sFind l a (pL p) with
  | some r=>some (.seq r (.at_ (pR p)))
  | none=>sFind l b (pR p)
 | .label l',_=>if l' == l then some .skip else none
 | _,_=>none
def sGoto (P : Program) (f : FuncId) (l : Nat) : List It -> Option (List It)
 | .inScope p :: k=>match zbo P f p with
  | some c=>match sFind l c p with
   | some r=>some (.code r :: .inScope p :: k)
   | none=>sGoto P f l k
  | none=>none
 | _ :: k=>sGoto P f l k
 | []=>none
def zga (P : Program) (h : List HB) (tmps : List SV) : List ResultVar -> Option (List SV)
 | []=>some []
 | .tmp t :: l=>(zga P h tmps l).map (tmps.getD t (.c undef) :: ·)
 | .cell a t :: l=>match tmps.getD a (.c undef) with
  | .ptr b o=>match sload P h t b o,zga P h tmps l with
   | some v,some vs=>some (v :: vs)
   | _,_=>none
  | _=>none
def packed : List SV -> SV
 | [v]=>v
 | l=>.tup l
def retOf (P : Program) (h : List HB) (fr : Fr) : Option SV:=match P.funcs[fr.fn]? with
 | some fn=>(zga P h fr.tmps fn.results.toList).map packed
 | none=>none
inductive GR where
 | yes
 | no
 | ask (b : B)
 | bad
def guardOf (facts : List (B × Bool)) (ops : Array Oper) (tmps : List SV) (o : Oper) : GR:=
 match o.guard with
 | none=>.yes
 | some (j,want)=>match (ops[j]?).bind (·.dst) with
  | none=>.no
  | some d=>match tmps[d]? with
   | none=>.no
   | some (.bool b)=>match b.look facts with
    | some t=>if t = want then .yes else .no
    | none=>.ask b
   | some (.x _) | some (.y _) | some (.c (.bool _))=>.bad
   | some _=>.no
def zm5 (n : Nat) : List Fr -> Bool
 | []=>true
 | f :: l=>scs n f.tmps && zm5 n l
def scAp (n : Nat) : Option (Option Nat × List SV) -> Bool
 | none=>true
 | some (o,cs)=>(match o with | none=>true | some b=>decide (b < n)) && scs n cs
def zcq (n : Nat) : List HB -> Bool
 | []=>true
 | h :: l=>scs n h.cs && scAp n h.ap && zcq n l
def zeroOf (P : Program) (t : TypeId) : Option (List SV):=match P.info? t with
 | some i=>match i.zero with
  | some v=>some (v.cells.toList.map ofV1)
  | none=>none
 | none=>none
def zjf (n : Nat) : List It -> Bool
 | []=>true
 | .lin _ _ _ j :: k=>j < n && zjf n k
 | _ :: k=>zjf n k
def scTodo (n : Nat) : List Fr -> Bool
 | []=>true
 | f :: l=>zjf n f.todo && scTodo n l
inductive KR where
 | skip (h : List HB)
 | val (v : SV) (h : List HB)
 | none_
def sbsl (P : Program) (h : List HB) (frs : List Fr) (tmps : List SV) (t : TypeId) (n : Nat) (parts : Array (Nat × Operand)) : KR:=
 match P.underlying t with
 | some (.slice el)=>match P.info? el with
  | some ti=>match ti.zero with
   | some z=>match sfill (fun i=>some (i * ti.size,ti.size)) ((List.range (n * ti.size)).map fun j=>ofV1 (z.cells[j % z.cells.size]!)) (parts.toList.map fun x=>(x.1,sev tmps x.2)) with
    | some cs=>if (0 < n * ti.size /\ n * ti.size <= 1000) /\ (scs h.length tmps && zm5 h.length frs && zcq h.length h && scs h.length cs) = true then .val (.sl (.blk h.length) (.lit n) (.e (.lit n))) (h ++ [{ t:=el,cs,foc:=some (.lit 0,ti.size) }]) else .none_
    | none=>.none_
   | none=>.none_
  | none=>.none_
 | _=>.none_
def sapp (P : Program) (h : List HB) (frs : List Fr) (tmps : List SV) (args : List Operand) (ts : List TypeId) : KR:=
 match args,ts with
 | [x,y],[t,t']=>match P.underlying t with
  | some (.slice el)=>match P.info? el with
   | some ti=>match ti.zero with
    | some z=>match sev tmps y with
     | .sl (.blk c) (.lit m) _=>match h[c]? with
      | some hc=>if t = t' /\ z.cells.size = ti.size /\ 0 < ti.size /\ 0 < m /\ hc.cs.length = m.toNat * ti.size /\ hc.cs.all SV.one = true /\ hc.foc = some (.lit 0,ti.size) /\ (scs h.length tmps && zm5 h.length frs && zcq h.length h) = true then
        match sev tmps x with
        | .c (.slice none 0 0)=>if m.toNat * ti.bytes <= 140737488355328 /\ m.toNat <= 1000000 then .val (.sl (.blk h.length) (.lit m) (.of h.length ti.size)) (h ++ [{ t:=el,cs:=[],row:=some (.lit m,ti.size,1000000 + m.toNat),ap:=some (none,hc.cs) }]) else .none_
        | .sl (.blk b) len (.of b' sz')=>match h[b]? with
         | some hb=>match hb.row with
          | some (len',sz,N)=>if b = b' /\ sz' = ti.size /\ len' = len /\ sz = ti.size /\ hb.t = el /\ hb.wr = true /\ hb.cs.isEmpty = true /\ hb.foc = none /\ (N + m.toNat) * ti.bytes <= 140737488355328 /\ N + m.toNat <= 1000000000 then
            .val (.sl (.blk h.length) (.ad (zm3 len) (.lit m)) (.of h.length ti.size)) ((h.set b { hb with wr:=false,row:=none }) ++ [{ t:=el,cs:=[],row:=some (.ad (zm3 len) (.lit m),ti.size,N + m.toNat),ap:=some (some b,hc.cs) }])
           else .none_
          | none=>.none_
         | none=>.none_
        | _=>.none_
       else .none_
      | none=>.none_
     | _=>.none_
    | none=>.none_
   | none=>.none_
  | _=>.none_
 | _,_=>.none_
def sact (P : Program) (h : List HB) (frs : List Fr) (tmps : List SV) (o : Op) : KR:=
 match o with
 | .store t a x=>match sev tmps a with
  | .ptr b off=>match h[b]?,P.info? t with
   | some hb,some i=>
    let cs:=(sev tmps x).cells
    if hb.wr && cs.length == i.size && decide (off + cs.length <= hb.cs.length) && cs.all SV.one then .skip (h.set b { hb with cs:=hb.cs.take off ++ cs ++ hb.cs.drop (off + cs.length) }) else .none_
   | _,_=>.none_
  | _=>.none_
 | .alloc t=>match zeroOf P t with
  | some cs=>if scs h.length tmps && zm5 h.length frs && zcq h.length h && scs h.length cs then .val (.ptr h.length 0) (h ++ [{ t,cs }]) else .none_
  | none=>.none_
 | .buildSlice t n parts=>sbsl P h frs tmps t n parts
 | .call { callee:=.builtin .append,args,argTypes }=>sapp P h frs tmps args.toList argTypes.toList
 | .box t x=>
  let cs:=(sev tmps x).cells
  if scs h.length tmps && zm5 h.length frs && zcq h.length h && scs h.length cs && cs.all SV.one then .val (.ptr h.length 0) (h ++ [{ t,cs }]) else .none_
 | _=>.none_
def sop (P : Program) (stops : List FuncId) (st : St) (fr : Fr) (callers : List Fr) (p : List Nat) (o : Oper) (i : Nat) (todo : List Nat) (k : List It) : SR:=
 match spure P st.heap st.facts fr.tmps o.op with
 | some v=>.next { st with frs:=fr.put o.dst v (.inRegion p todo :: k) :: callers }
 | none=>match sact P st.heap callers fr.tmps o.op with
  | .val v h=>.next { st with frs:=fr.put o.dst v (.inRegion p todo :: k) :: callers,heap:=h }
  | .skip h=>.next { st with frs:=fr.put o.dst (.c undef) (.inRegion p todo :: k) :: callers,heap:=h }
  | .none_=>match zc1 P fr.tmps o.op with
   | some (f,args)=>if stops.contains f then .stop else match fresh P f args with
    | some g=>.next { st with frs:=g :: { fr with todo:=.inRegion p (i :: todo) :: k } :: callers }
    | none=>.stop
   | none=>match askOf st.facts fr.tmps o.op with
    | some b=>.fork b
    | none=>.stop
def kdOf (qs : List FuncId) (o : Op) : Nat:=
 match o with
 | .store ..=>2
 | .alloc _ | .box .. | .buildSlice ..=>1
 | .call { callee:=.builtin .append,.. }=>2
 | .call { callee:=.value (.func f),.. }=>if qs.contains f then 0 else 3
 | o=>if calm o then 0 else 3
def zh0 (qs : List FuncId) (ops : Array Oper) (i : Nat) : Nat:=match ops[i]? with
 | some o=>kdOf qs o.op
 | none=>0
def readyIn (A : List Nat) (rest : List Nat) (i : Nat) : Bool:=rest.all fun x=>!waits? A i x
def ordGo (A : List Nat) (kd : Nat -> Nat) : Nat -> List Nat -> List Nat
 | 0,_=>[]
 | n + 1,rest=>
  let rs:=rest.filter (readyIn A rest)
  match (rs.find? fun i=>kd i == 0) <|> rs.head? with
  | some i=>i :: ordGo A kd n (rest.filter (· != i))
  | none=>[]
def ordOf (ops : Array Oper) (kd : Nat -> Nat) : List Nat:=ordGo (zc0 ops) kd ops.size (List.range ops.size)
def zgp (tmps : List SV) (dst : Option Tmp) (v : SV) : List SV:=match dst with | some d=>tmps.set d v | none=>tmps
def ended (P : Program) (fr : Fr) : Bool:=match fr.todo with
 | []=>true
 | .code (.at_ p) :: _=>match zbo P fr.fn p with
  | some .ret=>true
  | _=>false
 | _=>false
inductive QR where
 | val (v : SV)
 | ask (b : B)
 | bad
def quiet (P : Program) (rn : St -> List St) (h : List HB) (facts : List (B × Bool)) (np : Nat) (tmps : List SV) (o : Op) : QR:=
 match zc1 P tmps o with
 | some (f,args)=>match fresh P f args with
  | some g=>match rn { frs:=[g],heap:=h.map fun b=>{ b with wr:=false,ap:=none },facts,np } with
   | [leaf]=>match leaf.frs with
    | [fr]=>if ended P fr then match retOf P leaf.heap fr with
      | some v=>if v.sc h.length then .val v else .bad
      | none=>.bad
     else .bad
    | _=>.bad
   | leaf :: _ :: _=>match (leaf.facts.take (leaf.facts.length - facts.length)).getLast? with
    | some (b,_)=>.ask b
    | none=>.bad
   | []=>.bad
  | none=>.bad
 | none=>.bad
inductive DR where
 | done (tmps : List SV) (h : List HB)
 | halt (rest : List Nat) (tmps : List SV) (h : List HB)
 | ask (b : B)
 | bad
def zd7 (P : Program) (rn : St -> List St) (facts : List (B × Bool)) (np : Nat) (ops : Array Oper) (kd : Nat -> Nat) (hl : Nat -> Bool) (callers : List Fr) : List Nat -> List SV -> List HB -> DR
 | [],tmps,h=>.done tmps h
 | i :: r,tmps,h=>match ops[i]? with
  | none=>.bad
  | some o=>match guardOf facts ops tmps o with
   | .no=>zd7 P rn facts np ops kd hl callers r (zgp tmps o.dst (.c undef)) h
   | .ask b=>.ask b
   | .bad=>.bad
   | .yes=>if hl i then .halt (i :: r) tmps h else match kd i with
    | 0=>match spure P h facts tmps o.op with
     | some v=>zd7 P rn facts np ops kd hl callers r (zgp tmps o.dst v) h
     | none=>match quiet P rn h facts np tmps o.op with
      | .val v=>zd7 P rn facts np ops kd hl callers r (zgp tmps o.dst v) h
      | .ask b=>.ask b
      | .bad=>match askOf facts tmps o.op with
       | some b=>.ask b
       | none=>.bad
    | _=>match sact P h callers tmps o.op with
     | .val v h'=>zd7 P rn facts np ops kd hl callers r (zgp tmps o.dst v) h'
     | .skip h'=>zd7 P rn facts np ops kd hl callers r (zgp tmps o.dst (.c undef)) h'
     | .none_=>.bad
def slin (P : Program) (rn : St -> List St) (qs : List FuncId) (st : St) (fr : Fr) (callers : List Fr) (p ord rest : List Nat) (k : List It) : SR:=
 let ops:=za1 P fr.fn p
 if zbk P ops (zc0 ops) (zh0 qs ops) ord then match zd7 P rn st.facts st.np ops (zh0 qs ops) (fun i=>zh0 qs ops i == 3) callers rest fr.tmps st.heap with
  | .done tmps h=>.next { st with frs:={ fr with tmps,todo:=k } :: callers,heap:=h }
  | .halt rest' tmps h=>if zjf st.np k && scTodo st.np callers then .next { st with frs:={ fr with tmps,todo:=.lin p ord rest' st.np :: k } :: callers,heap:=h,np:=st.np + 1 } else .stop
  | .ask b=>.fork b.core
  | .bad=>.stop
 else .stop
def linB (ops : Array Oper) : Array Bool -> List Nat -> Bool
 | listed,[]=>(Region.ready .any ops listed).isEmpty
 | listed,i :: l=>(Region.ready .any ops listed).contains i && linB ops (listed.setIfInBounds i true) l
def zk8 (n : Nat) (rest : List Nat) : Array Bool:=((List.range n).map fun i=>!rest.contains i).toArray
def zmb (ops : Array Oper) (ord rest : List Nat) : Bool:=
 let listed:=zk8 ops.size rest
 ((ord.filter fun i=>!listed.getD i false) == rest) && linB ops listed rest && (List.range ops.size).all (fun i=>zha ops (zc0 ops) i && decide ((zc0 ops).getD i 0 < 2 ^ ops.size)) && (List.range ops.size).all fun i=>!listed.getD i false || (List.range ops.size).all fun x=>!waits? (zc0 ops) i x || listed.getD x false
def sret (P : Program) (qs : List FuncId) (st : St) (fr : Fr) (callers : List Fr) : SR:=
 match callers with
 | []=>.stop
 | c :: rest=>match c.todo with
  | .inRegion p (i :: todo) :: k=>match (za1 P c.fn p)[i]?,retOf P st.heap fr with
   | some o,some v=>.next { st with frs:=c.put o.dst v (.inRegion p todo :: k) :: rest }
   | _,_=>.stop
  | .lin p ord (i :: r) _ :: k=>match (za1 P c.fn p)[i]?,retOf P st.heap fr with
   | some o,some v=>if zmb (za1 P c.fn p) ord (i :: r) && zbk P (za1 P c.fn p) (zc0 (za1 P c.fn p)) (zh0 qs (za1 P c.fn p)) ord && r.all (fun x=>waits? (zc0 (za1 P c.fn p)) x i) && zjf st.np k && scTodo st.np rest then .next { st with frs:=c.put o.dst v (.lin p ord r st.np :: k) :: rest,np:=st.np + 1 } else .stop
   | _,_=>.stop
  | _=>.stop
def scode (P : Program) (rn : St -> List St) (qs : List FuncId) (lp : Bool) (st : St) (fr : Fr) (callers : List Fr) (c : CE) (k : List It) : SR:=
 let to (todo : List It) : SR:=.next { st with frs:={ fr with todo } :: callers }
 match c with
 | .skip=>to k
 | .seq a b=>to (.code a :: .code b :: k)
 | .at_ p=>match zbo P fr.fn p with
  | some .skip=>to k
  | some (.label _)=>to k
  | some (.seq _ _)=>to (.code (.at_ (pL p)) :: .code (.at_ (pR p)) :: k)
  | some (.cond c _ _)=>match sev fr.tmps c with
   | .bool b=>match b.look st.facts with
    | some true=>to (.code (.at_ (pL p)) :: k)
    | some false=>to (.code (.at_ (pR p)) :: k)
    | none=>.fork b.core
   | _=>.stop
  | some (.block id _)=>to (.code (.at_ (pL p)) :: .inBlock id :: k)
  | some (.loop _)=>if lp then .stop else to (.code (.at_ (pL p)) :: .inLoop (.at_ (pL p)) :: k)
  | some (.scope _)=>to (.code (.at_ (pL p)) :: .inScope (pL p) :: k)
  | some (.exit id)=>match sExit id k with
   | some k'=>to k'
   | none=>.stop
  | some (.goto l)=>if lp then .stop else match sGoto P fr.fn l k with
   | some k'=>to k'
   | none=>.stop
  | some .ret=>sret P qs st fr callers
  | some (.region _ ops false)=>to (.inRegion p (List.range ops.size) :: k)
  | some (.region _ ops true)=>if P.follows .mixedOrders then slin P rn qs st fr callers p (ordOf ops (zh0 qs ops)) (ordOf ops (zh0 qs ops)) k else .stop
  | _=>.stop
def step (P : Program) (rn : St -> List St) (qs stops : List FuncId) (lp : Bool) (st : St) : SR:=
 match st.frs with
 | []=>.stop
 | fr :: callers=>match fr.todo with
  | []=>sret P qs st fr callers
  | .inBlock _ :: k=>.next { st with frs:={ fr with todo:=k } :: callers }
  | .inScope _ :: k=>.next { st with frs:={ fr with todo:=k } :: callers }
  | .inLoop c :: k=>if lp then .stop else .next { st with frs:={ fr with todo:=.code c :: .inLoop c :: k } :: callers }
  | .inRegion _ [] :: k=>.next { st with frs:={ fr with todo:=k } :: callers }
  | .inRegion p (i :: todo) :: k=>match (za1 P fr.fn p)[i]? with
   | none=>.stop
   | some o=>match guardOf st.facts (za1 P fr.fn p) fr.tmps o with
    | .yes=>sop P stops st fr callers p o i todo k
    | .no=>.next { st with frs:=fr.put o.dst (.c undef) (.inRegion p todo :: k) :: callers }
    | .ask b=>.fork b.core
    | .bad=>.stop
  | .lin p ord rest _ :: k=>match rest with
   | i :: _=>match (za1 P fr.fn p)[i]? with
    | none=>.stop
    | some o=>match guardOf st.facts (za1 P fr.fn p) fr.tmps o,zh0 qs (za1 P fr.fn p) i with
     | .yes,3=>match zc1 P fr.tmps o.op with
      | some (f,args)=>if stops.contains f then .stop else if zmb (za1 P fr.fn p) ord rest && zbk P (za1 P fr.fn p) (zc0 (za1 P fr.fn p)) (zh0 qs (za1 P fr.fn p)) ord && rest.tail.all (fun x=>waits? (zc0 (za1 P fr.fn p)) x i) then match fresh P f args with
       | some g=>.next { st with frs:=g :: fr :: callers }
       | none=>.stop else .stop
      | none=>.stop
     | _,_=>if zmb (za1 P fr.fn p) ord rest then slin P rn qs st fr callers p ord rest k else .stop
   | []=>if zmb (za1 P fr.fn p) ord rest then slin P rn qs st fr callers p ord rest k else .stop
  | .code c :: k=>scode P rn qs lp st fr callers c k
def run (P : Program) (qs stops : List FuncId) (lp : Bool) : Nat -> St -> List St
 | 0,st=>[st]
 | n + 1,st=>match step P (run P qs stops lp n) qs stops lp st with
  | .next st'=>run P qs stops lp n st'
  | .fork b=>run P qs stops lp n { st with facts:=(b,true) :: st.facts } ++ run P qs stops lp n { st with facts:=(b,false) :: st.facts }
  | .stop=>[st]
@[reducible] def Li (n : Nat) : SV:=.int .i64 (.v n)
@[reducible] def Lu (n : Nat) : SV:=.int .u64 (.v n)
def xr : Nat -> Nat -> List SV
 | _,0=>[]
 | a,n + 1=>.x a :: xr (a + 1) n
def ur : Nat -> List SV
 | 0=>[]
 | n + 1=>.c undef :: ur n
end
section
section
variable {Y : Env}
theorem zc3 (l : List SV) : za3 Y l = l.map (SV.den Y):=by
 induction l with
 | nil=>rfl
 | cons v l ih=>simp [za3,ih]
theorem za8 (l : List SV) : (za3 Y l).length = l.length:=by rw [zc3]; simp
theorem zgw (l : List SV) (i : Nat) : (za3 Y l)[i]? = (l[i]?).map (SV.den Y):=by rw [zc3]; simp
theorem zeb (l m : List SV) : za3 Y (l ++ m) = za3 Y l ++ za3 Y m:=by simp [zc3]
theorem dens_set (l : List SV) (i : Nat) (v : SV) : za3 Y (l.set i v) = (za3 Y l).set i (v.den Y):=by simp [zc3,List.map_set]
theorem zlt (l : List SV) (i : Nat) : za3 Y (l.take i) = (za3 Y l).take i:=by simp [zc3,List.map_take]
theorem zlv (l : List SV) (i : Nat) : za3 Y (l.drop i) = (za3 Y l).drop i:=by simp [zc3,List.map_drop]
theorem zoh (v : Value) : (ofV1 v).den Y = v:=by
 cases v <;> try rfl
 case pointer a=>cases a <;> rfl
theorem ofV_den (v : Value) : (ofV v).den Y = v:=by
 cases v
 all_goals try rfl
 case pointer a=>cases a <;> rfl
 case agg cs=>
  show Value.agg (za3 Y (cs.toList.map ofV1)).toArray = _
  rw [zc3,List.map_map]
  congr 1
  apply Array.ext'
  simp only [List.toList_toArray]
  have : (SV.den Y ∘ ofV1) = id:=funext fun v=>zoh v
  rw [this,List.map_id]
theorem zlu (l : List Value) : za3 Y (l.map ofV1) = l:=by
 rw [zc3,List.map_map]
 have : (SV.den Y ∘ ofV1) = id:=funext fun v=>zoh v
 rw [this,List.map_id]
theorem zev (o : BinOp) (k : IntKind) (a b : E) : (mkAr o k a b).den Y = arOf o k (a.den Y) (b.den Y):=by unfold mkAr; split <;> rfl
theorem mkCv_den (k : IntKind) (a : E) : (mkCv k a).den Y = k.wrap (a.den Y):=by unfold mkCv; split <;> rfl
theorem zgg (o : BinOp) (a b : E) : (zgz o a b).den Y = zlw o (a.den Y) (b.den Y):=by unfold zgz; split <;> rfl
theorem zeu (a : E) : (zm3 a).den Y = ((a.den Y).toNat : Int):=by unfold zm3; split <;> simp [E.den]
theorem zk7 (b : B) : (mkNo b).den Y = !(b.den Y):=by unfold mkNo; split <;> simp [B.den]
theorem zol (a b : B) : (mkEq a b).den Y = (a.den Y == b.den Y):=by
 unfold mkEq
 split <;> simp [B.den,zk7]
theorem zcz (tmps : List SV) (x : Operand) : Act.eval { tmps:=(za3 Y tmps).toArray,defers:=[] } x = (sev tmps x).den Y:=by
 cases x with
 | tmp t=>
  simp only [Act.eval,sev,Array.getD_eq_getD_getElem?,List.getElem?_toArray,zgw,List.getD_eq_getElem?_getD]
  cases tmps[t]? <;> rfl
 | const v=>exact (ofV_den v).symm
 | global g=>rfl
 | func f=>rfl
theorem sev_map (tmps : List SV) (l : Array Operand) : (l.map (Act.eval { tmps:=(za3 Y tmps).toArray,defers:=[] })) = (za3 Y (l.toList.map (sev tmps))).toArray:=by
 apply Array.ext'
 rw [Array.toList_map,List.toList_toArray,zc3 (l.toList.map (sev tmps)),List.map_map]
 exact List.map_congr_left fun x _=>zcz tmps x
theorem zd3 {facts : List (B × Bool)} (hf : ∀ p ∈ facts,p.1.den Y = p.2) : ∀ (b : B) (t : Bool),b.look facts = some t -> b.den Y = t:=by
 have key : ∀ (b : B) (t : Bool),(facts.find? fun p=>decide (p.1 = b)).map (·.2) = some t -> b.den Y = t:=by
  intro b t h
  cases hq : facts.find? fun p=>decide (p.1 = b) with
  | none=>rw [hq] at h; cases h
  | some p=>
   rw [hq] at h
   have h1:=List.find?_some hq
   have h2:=hf p (List.mem_of_find?_eq_some hq)
   simp only [decide_eq_true_eq] at h1
   subst h1
   simp only [Option.map_some,Option.some.injEq] at h
   exact h2.trans h
 intro b
 induction b with
 | lit b=>intro t h; simpa [B.look,B.den] using h
 | no b ih=>
  intro t h
  simp only [B.look] at h
  cases hb : b.look facts with
  | none=>rw [hb] at h; cases h
  | some u=>
   rw [hb] at h
   simp only [Option.map_some,Option.some.injEq] at h
   simp only [B.den,ih u hb,h]
 | v i=>intro t h; exact key _ t h
 | cmp o a b=>intro t h; exact key _ t h
 | eq a b=>intro t h; exact key _ t h
 | and a b=>intro t h; exact key _ t h
theorem one_ok (hy : ∀ v ∈ Y.ys,v.oneCell' = true) {v : SV} (h : v.one = true) : (v.den Y).oneCell' = true:=by
 cases v <;> first | rfl | (simp [SV.one] at h; done) | skip
 case y i=>
  simp only [SV.den,List.getD_eq_getElem?_getD]
  cases hq : Y.ys[i]? with
  | none=>rfl
  | some u=>exact hy u (List.mem_of_getElem? hq)
 case c v=>exact h
theorem zli {v : SV} (h : v.cells.all SV.one = true) (hy : ∀ v ∈ Y.ys,v.oneCell' = true) : (v.den Y).cells = (za3 Y v.cells).toArray:=by
 cases v
 case agg l=>rfl
 all_goals
  simp only [SV.cells,List.all_cons,List.all_nil,Bool.and_true] at h
  have h1:=one_ok hy h
  simp only [SV.cells,za3]
  revert h1
  generalize SV.den Y _ = u
  intro h1
  cases u <;> first | rfl | (simp [Value.oneCell'] at h1; done)
end
section
variable {P : Program} {Y : Env} {h : List HB} {w : World}
def Seg.whole (q : Seg) (cs : List Value) : List Value:=q.pre ++ cs ++ q.post
structure HRep (Y : Env) (h : List HB) (w : World) : Prop where
 ys : ∀ v ∈ Y.ys,v.oneCell' = true
 blk : ∀ i hb,h[i]? = some hb -> hb.wr = true -> (Y.blks.getD i {}).o = (Y.blks.getD i {}).pre.length /\ Blk w (Y.blks.getD i {}).g hb.t ((Y.blks.getD i {}).whole (za3 Y hb.cs)).toArray
 cell : ∀ (i : Nat) (hb : HB) (j : Nat) (u : Value),h[i]? = some hb -> (za3 Y hb.cs)[j]? = some u -> w.cell? ⟨(Y.blks.getD i {}).g,(Y.blks.getD i {}).o + j,none⟩ = some u
 foc : ∀ i hb e n,h[i]? = some hb -> hb.foc = some (e,n) -> (Y.blks.getD i {}).o = (Y.blks.getD i {}).b0 + (e.den Y).toNat * n /\ (Y.blks.getD i {}).ad = none
 row : ∀ i hb e n N,h[i]? = some hb -> hb.row = some (e,n,N) -> (Y.blks.getD i {}).b0 = 0 /\ (Y.blks.getD i {}).pre.length = (e.den Y).toNat * n /\ (e.den Y).toNat <= N /\
  (e.den Y).toNat <= (Y.blks.getD i {}).cap /\ (Y.blks.getD i {}).cap <= maxLen /\ (Y.blks.getD i {}).pre.length + (Y.blks.getD i {}).post.length = (Y.blks.getD i {}).cap * n /\ (Y.blks.getD i {}).ad = none
 pl : ∀ i hb,h[i]? = some hb -> hb.wr = true -> hb.foc = none -> hb.row = none -> (Y.blks.getD i {}).pre = [] /\ (Y.blks.getD i {}).post = []
theorem whole_get (q : Seg) (cs : List Value) {j : Nat} {u : Value} (h : cs[j]? = some u) : (q.whole cs)[q.pre.length + j]? = some u:=by
 unfold Seg.whole
 have hj:=(List.getElem?_eq_some_iff.1 h).1
 rw [List.append_assoc,List.getElem?_append_right (by omega),Nat.add_sub_cancel_left,List.getElem?_append_left hj]
 exact h
theorem ziu {g o : Nat} {t : TypeId} {q : Seg} {cs : List Value} (hb : Blk w g t (q.whole cs).toArray) (ho : o = q.pre.length) {j : Nat} {u : Value} (h : cs[j]? = some u) : w.cell? ⟨g,o + j,none⟩ = some u:=by
 subst ho
 rw [hb.cell,List.getElem?_toArray]
 exact whole_get q cs h
theorem run_info {t : TypeId} {i : TypeInfo} (hi : P.info? t = some i) (w : World) : (typeInfo t).run P w = .ok i w:=by simp [typeInfo,hi]
theorem zfe {t : TypeId} {i : TypeInfo} (hi : P.info? t = some i) (w : World) : (sizeOf t).run P w = .ok i.size w:=by simp [sizeOf,typeInfo,hi]
theorem run_agg {t : TypeId} {d : TypeDesc} (hd : P.underlying t = some d) (w : World) : (isAgg t).run P w = .ok (isAgg? d) w:=by
 simp only [isAgg,Sem.run_bind,run_underlying hd,Result.andThen]
 cases d <;> rfl
theorem zlx (g o j : Nat) : (⟨g,o,none⟩ : Addr).add j = ⟨g,o + j,none⟩:=by unfold Addr.add; split <;> simp_all
theorem sload_ok (hr : HRep Y h w) {t : TypeId} {b o : Nat} {v : SV} (hs : sload P h t b o = some v) : (loadVar t ⟨(Y.blks.getD b {}).g,(Y.blks.getD b {}).o + o,none⟩).run P w = .ok (v.den Y) w:=by
 unfold sload at hs
 split at hs
 ·rename_i hb d i h1 h2 h3
  have hcell:=fun j u=>hr.cell b hb j u h1
  simp only [loadVar,Sem.run_bind,run_agg h2,Result.andThen]
  cases hd : isAgg? d with
  | true=>
   simp only [hd,if_true] at hs ⊢
   split at hs
   ·rename_i hle
    cases hs
    have hl : (za3 Y ((hb.cs.drop o).take i.size)).length = i.size:=by rw [za8,List.length_take,List.length_drop]; omega
    have hload:=run_loadCells_list (P:=P) w ⟨(Y.blks.getD b {}).g,(Y.blks.getD b {}).o + o,none⟩ (za3 Y ((hb.cs.drop o).take i.size)) (by
     intro j u hu
     rw [zlx,Nat.add_assoc]
     refine hcell _ _ ?_
     rw [zgw] at hu ⊢
     rw [List.getElem?_take] at hu
     split at hu
     ·rw [List.getElem?_drop] at hu; exact hu
     ·cases hu)
    rw [hl] at hload
    simp only [Sem.run_bind,zfe h3,Result.andThen,hload]
    rfl
   ·cases hs
  | false=>
   simp only [hd,Bool.false_eq_true,if_false] at hs ⊢
   have hc : w.cell? ⟨(Y.blks.getD b {}).g,(Y.blks.getD b {}).o + o,none⟩ = some (v.den Y):=by
    refine hcell _ _ ?_
    rw [zgw,hs]
    rfl
   rw [run_load,hc]
 ·cases hs
theorem zkx (op : BinOp) (t : TypeId) (x y : Operand) (k j : IntKind) (m n : Int) (w : World) : (eqGuard op t x y (.int k m) (.int j n)).run P w = .ok () w:=by
 unfold eqGuard
 split <;> rfl
theorem sbin_int {facts : List (B × Bool)} (hf : ∀ p ∈ facts,p.1.den Y = p.2) {op : BinOp} {t : TypeId} {k j : IntKind} {e f : E} {v : SV} {lit : Bool} (hs : sbin P facts lit op t (.int k e) (.int j f) = some v) : (binOp op t (.int k (e.den Y)) (.int j (f.den Y))).run P w = .ok (v.den Y) w:=by
 unfold sbin at hs
 dsimp only at hs
 cases op <;> dsimp only at hs
 case shl=>
  split at hs
  ·rename_i n
   split at hs
   ·rename_i h0
    cases hs
    have : ¬ n < 0:=by omega
    simp [binOp,Op.shift,E.den,this,SV.den,zev,arOf]
   ·cases hs
  ·cases hs
 case shr=>
  split at hs
  ·rename_i n
   split at hs
   ·rename_i h0
    cases hs
    have : ¬ n < 0:=by omega
    simp [binOp,Op.shift,E.den,this,SV.den,zev,arOf]
   ·cases hs
  ·cases hs
 case quo=>
  split at hs
  ·split at hs
   ·rename_i h0
    obtain ⟨rfl,h0⟩:=h0
    cases hs
    simp [binOp,Op.intDiv,E.den,h0,SV.den,zev,arOf]
   ·cases hs
  ·split at hs
   ·rename_i h0
    obtain ⟨rfl,h0⟩:=h0
    have h1:=zd3 hf _ _ h0
    simp only [B.den,zlw,E.den,beq_eq_false_iff_ne,ne_eq] at h1
    cases hs
    simp [binOp,Op.intDiv,h1,SV.den,zev,arOf]
   ·cases hs
 case rem=>
  split at hs
  ·split at hs
   ·rename_i h0
    obtain ⟨rfl,h0⟩:=h0
    cases hs
    simp [binOp,Op.intDiv,E.den,h0,SV.den,zev,arOf]
   ·cases hs
  ·split at hs
   ·rename_i h0
    obtain ⟨rfl,h0⟩:=h0
    have h1:=zd3 hf _ _ h0
    simp only [B.den,zlw,E.den,beq_eq_false_iff_ne,ne_eq] at h1
    cases hs
    simp [binOp,Op.intDiv,h1,SV.den,zev,arOf]
   ·cases hs
 all_goals
  split at hs
  ·rename_i h0
   subst h0
   cases hs
   first
    | (simp [binOp,Op.intArith,SV.den,zev,arOf]; done)
    | (simp [binOp,Op.intCmp,SV.den,B.den,zgg,zlw]; done)
    | (simp [binOp,SV.den,zev,arOf]; rfl)
  ·cases hs
theorem zn8 {t : TypeId} {l : List SV} {o : Nat} {v : SV} (hs : spart P t l o = some v) : (part t (za3 Y l).toArray o).run P w = .ok (v.den Y) w:=by
 unfold spart at hs
 split at hs
 ·rename_i d i h1 h2
  simp only [part,Sem.run_bind,run_agg h1,Result.andThen]
  cases hd : isAgg? d with
  | true=>
   simp only [hd,if_true,Option.some.injEq] at hs ⊢
   subst hs
   simp only [Sem.run_bind,zfe h2,Result.andThen,Sem.run_pure,SV.den,zlt,zlv]
   congr 2
   apply Array.ext'
   simp [List.take_drop]
  | false=>
   simp only [hd,Bool.false_eq_true,if_false] at hs ⊢
   rw [List.getElem?_toArray,zgw,hs]
   rfl
 ·cases hs
end
end
end Go.Proofs.Ytonhfgjofgbcdaa.Sx
end
