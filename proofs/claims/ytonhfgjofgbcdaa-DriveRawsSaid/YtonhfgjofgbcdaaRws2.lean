/- A part of this claim's proof. -/
import Derived.Test.YtonhfgjofgbcdaaRws1
import GoSem.Dispatch
set_option linter.unusedSimpArgs false
set_option linter.unusedVariables false
set_option maxRecDepth 20000
namespace Go.Proofs.Ytonhfgjofgbcdaa.Jay
open Go Go.Conc
section
section
variable {P : Program} {W : Nat -> Prop}
theorem zgf {α β : Type} (l : List α) (f : α -> β -> Sem (ForInStep β)) (hf : ∀ a b,zax P W (f a b)) : ∀ b,zax P W (forIn l b f):=by
 induction l with
 | nil=>intro b; exact zd0 _
 | cons a l ih=>
  intro b
  rw [List.forIn_cons]
  refine za0 (hf a b) fun x=>?_
  cases x with
  | done b=>exact zd0 _
  | yield b=>exact ih b
theorem zft {α β : Type} (l : Array α) (f : α -> β -> Sem (ForInStep β)) (hf : ∀ a b,zax P W (f a b)) (b : β) : zax P W (forIn l b f):=by
 rw [<- Array.forIn_toList]; exact zgf _ f hf b
theorem zfs {β : Type} (r : Std.Legacy.Range) (f : Nat -> β -> Sem (ForInStep β)) (hf : ∀ a b,zax P W (f a b)) (b : β) : zax P W (forIn r b f):=by
 rw [Std.Legacy.Range.forIn_eq_forIn_range']; exact zgf _ f hf b
theorem zac (t : TypeId) : zax P W (typeInfo t):=by unfold typeInfo; exact za0 zag fun p=>by split <;> trivial
theorem za4 (t : TypeId) : zax P W (underlying t):=by unfold underlying; exact za0 zag fun p=>by split <;> trivial
theorem za9 (t : TypeId) : zax P W (zeroValue t):=by unfold zeroValue; exact za0 (zac t) fun p=>by split <;> trivial
theorem zab (t : TypeId) : zax P W (sizeOf t):=by unfold sizeOf; exact za0 (zac t) fun p=>trivial
theorem zms (t : TypeId) : zax P W (isAgg t):=by unfold isAgg; exact za0 (za4 t) fun p=>by split <;> trivial
theorem zaw (t : TypeId) : zax P W (elemOf t):=by unfold elemOf; exact za0 (za4 t) fun p=>by split <;> trivial
theorem zi3 (a : Addr) (n : Nat) : ∀ (i : Nat) (acc : Array Value),zax P W (loadCellsFrom a i n acc):=by
 induction n with
 | zero=>intro i acc; exact zd0 _
 | succ n ih=>intro i acc; exact za0 (only_load _) fun v=>ih _ _
theorem zh6 (a : Addr) (n : Nat) : zax P W (loadCells a n):=zi3 a n 0 #[]
theorem zj2 (t : TypeId) (a : Addr) : zax P W (loadVar t a):=by
 unfold loadVar
 refine za0 (zms t) fun b=>zbj ?_ (only_load a)
 exact za0 (zab t) fun n=>za0 (zh6 a n) fun _=>trivial
theorem ze8 (a : Addr) (h : W a.block) (vs : List Value) : ∀ i,zax P W (storeCells a vs i):=by
 induction vs with
 | nil=>intro i; exact zd0 _
 | cons v vs ih=>intro i; exact za0 (only_store (by unfold Addr.add; split <;> exact h)) fun _=>ih _
theorem zob (t : TypeId) (a : Addr) (v : Value) (h : W a.block) : zax P W (storeVar t a v):=by
 unfold storeVar
 refine za0 (zab t) fun n=>?_
 split
 ·exact za0 (ze1 _) fun _=>ze8 a h _ _
 ·exact za0 (zd0 _) fun _=>ze8 a h _ _
theorem zap (t : TypeId) (cs : Array Value) : zax P W (newRow t cs):=za0 (zb2 _) fun _=>trivial
theorem zao (t : TypeId) (v : Value) : zax P W (newVar t v):=zap t _
theorem zi2 (t : TypeId) (cs : Array Value) (n : Nat) : zax P W (part t cs n):=by
 unfold part
 refine za0 (zms t) fun b=>zbj ?_ ?_
 ·exact za0 (zab t) fun _=>trivial
 ·split <;> trivial
theorem zan (n : Nat) : zax P W (askRoom n):=by unfold askRoom; split; exact zav; trivial
theorem zb1 {α : Type} (e : RuntimeError) : zax P W (runtimePanic e : Sem α):=by
 unfold runtimePanic
 refine za0 zag fun p=>?_
 cases e with
 | typeAssertion i c a m=>exact za0 (zaw _) fun _=>za0 (zao _ _) fun _=>trivial
 | panicNil=>exact za0 (zaw _) fun _=>za0 (zao _ _) fun _=>trivial
 | _=>trivial
theorem zdr {α : Type} (k : IntKind) (x y : Int) (c : BoundsCode) : zax P W (boundsPanic k x y c : Sem α):=by
 unfold boundsPanic
 dsimp only
 split
 ·exact za0 (zbu (zal _)) fun _=>zb1 _
 ·exact za0 (zd0 _) fun _=>zb1 _
theorem zam (v : Value) : zax P W (asIntOf v):=by unfold asIntOf; split <;> trivial
theorem zb5 (v : Value) : zax P W (asInt v):=za0 (zam v) fun _=>trivial
theorem only_asBool (v : Value) : zax P W (asBool v):=by unfold asBool; split <;> trivial
theorem zb7 (v : Value) : zax P W (asAgg v):=by unfold asAgg; split <;> trivial
theorem zlh (v : Value) : zax P W (asAddr v):=by unfold asAddr; split <;> first | trivial | exact zb1 _
theorem zdw (v : Value) : zax P W (Instr.sureAddr v):=by unfold Instr.sureAddr; split <;> trivial
theorem only_viewAt (r : Nat) : zax P W (viewAt r):=by
 unfold viewAt
 refine za0 (zaq _) fun x=>?_
 split
 ·trivial
 ·exact za0 (zat _) fun o=>by split <;> trivial
theorem zhh (a : Addr) : zax P W (noView a):=by
 unfold noView
 refine za0 (only_viewAt _) fun x=>?_
 split <;> trivial
theorem zhi (a : Addr) : zax P W (byteOf a):=by
 unfold byteOf
 split
 ·trivial
 ·refine za0 zag fun p=>za0 (zhh a) fun _=>za0 (zaq _) fun x=>?_
  split
  ·dsimp only
   split
   ·trivial
   ·split <;> trivial
  ·trivial
theorem only_partAt (a : Addr) (n m : Nat) : zax P W (partAt a n m):=by
 unfold partAt
 refine za0 (zhi a) fun x=>?_
 dsimp only
 exact za0 (zhi _) fun _=>trivial
theorem zlf (a : Addr) (f : Field) : zax P W (fieldPlace a f):=by
 unfold fieldPlace
 refine za0 (zab _) fun n=>?_
 split
 ·exact only_partAt _ _ _
 ·trivial
theorem only_alloc (e : TypeId) : zax P W (Instr.alloc e true (.tuple #[])):=by
 unfold Instr.alloc
 exact za0 (za9 e) fun z=>za0 (zao _ _) fun _=>trivial
theorem only_box (e : TypeId) (v : Value) : zax P W (Instr.box e v):=za0 (zao e v) fun _=>trivial
theorem zlb (t : TypeId) (v : Value) : zax P W (Instr.loadAt t v):=za0 (zdw v) fun a=>zj2 t a
theorem zj4 (t : TypeId) (v : Value) (f : Nat) : zax P W (Instr.fieldAt t v f):=by
 unfold Instr.fieldAt
 refine za0 (za4 t) fun d=>?_
 repeat (first | exact trivial | exact zag | exact za4 _ | exact zac _ | exact za9 _ | exact zab _ | exact zaw _ | exact zao _ _ | exact zap _ _ | exact zb2 _ | exact zat _ | exact zaq _ | exact zal _ | exact zam _ | exact zb5 _ | exact zb7 _ | exact zan _ | exact zav | refine zbj ?_ ?_ | refine zbu ?_ | dsimp only | exact zdw _ | exact zlf _ _ | refine za0 ?_ (fun _=>?_) | split)
theorem zge (t : TypeId) (v i : Value) : zax P W (Instr.indexAt t v i):=by
 unfold Instr.indexAt
 repeat (first | exact trivial | exact zag | exact za4 _ | exact zac _ | exact za9 _ | exact zab _ | exact zaw _ | exact zao _ _ | exact zap _ _ | exact zb2 _ | exact zat _ | exact zaq _ | exact zal _ | exact zam _ | exact zb5 _ | exact zb7 _ | exact zan _ | exact zav | refine zbj ?_ ?_ | refine zbu ?_ | dsimp only | exact zam _ | exact za4 _ | exact zdw _ | exact zab _ | exact zdr _ _ _ _ | refine za0 ?_ (fun _=>?_) | split)
theorem only_index (t : TypeId) (v i : Value) : zax P W (Instr.index t v i):=by
 unfold Instr.index
 repeat (first | exact trivial | exact zag | exact za4 _ | exact zac _ | exact za9 _ | exact zab _ | exact zaw _ | exact zao _ _ | exact zap _ _ | exact zb2 _ | exact zat _ | exact zaq _ | exact zal _ | exact zam _ | exact zb5 _ | exact zb7 _ | exact zan _ | exact zav | refine zbj ?_ ?_ | refine zbu ?_ | dsimp only | exact zam _ | exact za4 _ | exact zi2 _ _ _ | exact zab _ | exact zdr _ _ _ _ | refine za0 ?_ (fun _=>?_) | split)
theorem zmt (t : TypeId) (v : Value) (f : Nat) : zax P W (Instr.field t v f):=by
 unfold Instr.field
 repeat (first | exact trivial | exact zag | exact za4 _ | exact zac _ | exact za9 _ | exact zab _ | exact zaw _ | exact zao _ _ | exact zap _ _ | exact zb2 _ | exact zat _ | exact zaq _ | exact zal _ | exact zam _ | exact zb5 _ | exact zb7 _ | exact zan _ | exact zav | refine zbj ?_ ?_ | refine zbu ?_ | dsimp only | exact za4 _ | exact zb7 _ | exact zi2 _ _ _ | refine za0 ?_ (fun _=>?_) | split)
theorem zm8 (t : TypeId) (l c : Value) : zax P W (Instr.makeSlice t l c):=by
 unfold Instr.makeSlice
 repeat (first | exact trivial | exact zag | exact za4 _ | exact zac _ | exact za9 _ | exact zab _ | exact zaw _ | exact zao _ _ | exact zap _ _ | exact zb2 _ | exact zat _ | exact zaq _ | exact zal _ | exact zam _ | exact zb5 _ | exact zb7 _ | exact zan _ | exact zav | refine zbj ?_ ?_ | refine zbu ?_ | dsimp only | exact za4 _ | exact zb5 _ | exact zac _ | exact zab _ | exact za9 _ | exact zan _ | exact zap _ _ | exact zb1 _ | exact zal _ | refine za0 ?_ (fun _=>?_) | split)
theorem zla (x : Value) (y : Nat) (c : BoundsCode) : zax P W (Instr.sliceBound x y c):=by
 unfold Instr.sliceBound
 repeat (first | exact trivial | exact zag | exact za4 _ | exact zac _ | exact za9 _ | exact zab _ | exact zaw _ | exact zao _ _ | exact zap _ _ | exact zb2 _ | exact zat _ | exact zaq _ | exact zal _ | exact zam _ | exact zb5 _ | exact zb7 _ | exact zan _ | exact zav | refine zbj ?_ ?_ | refine zbu ?_ | dsimp only | exact zam _ | exact zdr _ _ _ _ | refine za0 ?_ (fun _=>?_) | split)
theorem zfr (b : Bool) (x y : Nat) (l h m : Option Value) : zax P W (Instr.sliceBounds b x y l h m):=by
 unfold Instr.sliceBounds
 repeat (first | exact trivial | exact zag | exact za4 _ | exact zac _ | exact za9 _ | exact zab _ | exact zaw _ | exact zao _ _ | exact zap _ _ | exact zb2 _ | exact zat _ | exact zaq _ | exact zal _ | exact zam _ | exact zb5 _ | exact zb7 _ | exact zan _ | exact zav | refine zbj ?_ ?_ | refine zbu ?_ | dsimp only | exact zla _ _ _ | refine za0 ?_ (fun _=>?_) | split)
theorem only_slice (t : TypeId) (x : Value) (l h m : Option Value) : zax P W (Instr.slice t x l h m):=by
 unfold Instr.slice
 repeat (first | exact trivial | exact zag | exact za4 _ | exact zac _ | exact za9 _ | exact zab _ | exact zaw _ | exact zao _ _ | exact zap _ _ | exact zb2 _ | exact zat _ | exact zaq _ | exact zal _ | exact zam _ | exact zb5 _ | exact zb7 _ | exact zan _ | exact zav | refine zbj ?_ ?_ | refine zbu ?_ | dsimp only | exact za4 _ | exact zlh _ | exact zab _ | exact zfr _ _ _ _ _ _ | refine za0 ?_ (fun _=>?_) | split)
theorem zj1 (t : TypeId) (x : Value) (l h m : Option Value) : zax P W (Instr.sliceAt t x l h m):=by
 unfold Instr.sliceAt
 repeat (first | exact trivial | exact zag | exact za4 _ | exact zac _ | exact za9 _ | exact zab _ | exact zaw _ | exact zao _ _ | exact zap _ _ | exact zb2 _ | exact zat _ | exact zaq _ | exact zal _ | exact zam _ | exact zb5 _ | exact zb7 _ | exact zan _ | exact zav | refine zbj ?_ ?_ | refine zbu ?_ | dsimp only | exact za4 _ | exact zdw _ | exact zab _ | exact zfr _ _ _ _ _ _ | exact only_slice _ _ _ _ _ | refine za0 ?_ (fun _=>?_) | split)
theorem only_mapM {α β : Type} (xs : Array α) (f : α -> Sem β) (hf : ∀ a,zax P W (f a)) : zax P W (xs.mapM f):=by
 rw [Array.mapM_eq_foldlM,<- Array.foldlM_toList]
 generalize (#[] : Array β) = acc
 induction xs.toList generalizing acc with
 | nil=>exact zd0 _
 | cons x l ih=>
  rw [List.foldlM_cons]
  exact za0 (za0 (hf x) fun _=>zd0 _) fun _=>ih _
theorem zmu (t : TypeId) (ps : Array (Nat × Value)) : zax P W (Instr.build t ps):=by
 unfold Instr.build
 repeat (first | exact trivial | exact zag | exact za4 _ | exact zac _ | exact za9 _ | exact zab _ | exact zaw _ | exact zao _ _ | exact zap _ _ | exact zb2 _ | exact zat _ | exact zaq _ | exact zal _ | exact zam _ | exact zb5 _ | exact zb7 _ | exact zan _ | exact zav | refine zbj ?_ ?_ | refine zbu ?_ | dsimp only | exact za4 _ | exact za9 _ | exact zab _ | refine only_mapM _ _ (fun _=>?_) | refine za0 ?_ (fun _=>?_) | split)
theorem zlg (t : TypeId) (n : Nat) (ps : Array (Nat × Value)) : zax P W (Instr.buildSlice t n ps):=by
 unfold Instr.buildSlice
 repeat (first | exact trivial | exact zag | exact za4 _ | exact zac _ | exact za9 _ | exact zab _ | exact zaw _ | exact zao _ _ | exact zap _ _ | exact zb2 _ | exact zat _ | exact zaq _ | exact zal _ | exact zam _ | exact zb5 _ | exact zb7 _ | exact zan _ | exact zav | refine zbj ?_ ?_ | refine zbu ?_ | dsimp only | exact za4 _ | exact za9 _ | exact zab _ | exact zap _ _ | refine za0 ?_ (fun _=>?_) | split)
theorem zep (t : TypeId) (v : Value) : zax P W (Instr.makeInterface t v):=by
 unfold Instr.makeInterface
 repeat (first | exact trivial | exact zag | exact za4 _ | exact zac _ | exact za9 _ | exact zab _ | exact zaw _ | exact zao _ _ | exact zap _ _ | exact zb2 _ | exact zat _ | exact zaq _ | exact zal _ | exact zam _ | exact zb5 _ | exact zb7 _ | exact zan _ | exact zav | refine zbj ?_ ?_ | refine zbu ?_ | dsimp only | exact za4 _ | refine za0 ?_ (fun _=>?_) | split)
theorem zgc (x : Value) (t u : TypeId) (ok : Bool) : zax P W (Instr.typeAssert x t u ok):=by
 unfold Instr.typeAssert
 repeat (first | exact trivial | exact zag | exact za4 _ | exact zac _ | exact za9 _ | exact zab _ | exact zaw _ | exact zao _ _ | exact zap _ _ | exact zb2 _ | exact zat _ | exact zaq _ | exact zal _ | exact zam _ | exact zb5 _ | exact zb7 _ | exact zan _ | exact zav | refine zbj ?_ ?_ | refine zbu ?_ | dsimp only | exact za4 _ | exact zac _ | exact za9 _ | exact zb1 _ | refine za0 ?_ (fun _=>?_) | split)
theorem zj5 (v : Value) (i : Nat) : zax P W (Instr.extract v i):=by
 unfold Instr.extract
 repeat (first | exact trivial | exact zag | exact za4 _ | exact zac _ | exact za9 _ | exact zab _ | exact zaw _ | exact zao _ _ | exact zap _ _ | exact zb2 _ | exact zat _ | exact zaq _ | exact zal _ | exact zam _ | exact zb5 _ | exact zb7 _ | exact zan _ | exact zav | refine zbj ?_ ?_ | refine zbu ?_ | dsimp only | split)
theorem zof (ts : Array TypeId) (t : TypeId) (vs : Array Value) : zax P W (Builtin.len_ ts t vs):=by
 unfold Builtin.len_
 repeat (first | exact trivial | exact zag | exact za4 _ | exact zac _ | exact za9 _ | exact zab _ | exact zaw _ | exact zao _ _ | exact zap _ _ | exact zb2 _ | exact zat _ | exact zaq _ | exact zal _ | exact zam _ | exact zb5 _ | exact zb7 _ | exact zan _ | exact zav | refine zbj ?_ ?_ | refine zbu ?_ | dsimp only | exact za4 _ | exact zat _ | refine za0 ?_ (fun _=>?_) | split)
theorem zi4 (op : BinOp) (k : IntKind) (x y : Int) : zax P W (Op.intArith op k x y):=by unfold Op.intArith; split <;> trivial
theorem only_intDiv (op : BinOp) (k : IntKind) (x y : Int) : zax P W (Op.intDiv op k x y):=by
 unfold Op.intDiv
 repeat (first | exact trivial | exact zag | exact za4 _ | exact zac _ | exact za9 _ | exact zab _ | exact zaw _ | exact zao _ _ | exact zap _ _ | exact zb2 _ | exact zat _ | exact zaq _ | exact zal _ | exact zam _ | exact zb5 _ | exact zb7 _ | exact zan _ | exact zav | refine zbj ?_ ?_ | refine zbu ?_ | dsimp only | exact zb1 _ | split)
theorem zj3 (op : BinOp) (k : IntKind) (x y : Int) : zax P W (Op.intBits op k x y):=by
 unfold Op.intBits
 cases op <;> trivial
theorem zlc (op : BinOp) (x y : Int) : zax P W (Op.intCmp op x y):=by unfold Op.intCmp; split <;> trivial
theorem only_shift (op : BinOp) (k j : IntKind) (x y : Int) : zax P W (Op.shift op k x j y):=by
 unfold Op.shift
 split
 ·exact zb1 _
 ·cases op <;> trivial
theorem zoa (op : BinOp) (x y : ByteArray) : zax P W (Op.stringOp op x y):=by
 unfold Op.stringOp
 cases op <;> repeat (first | exact trivial | exact zag | exact za4 _ | exact zac _ | exact za9 _ | exact zab _ | exact zaw _ | exact zao _ _ | exact zap _ _ | exact zb2 _ | exact zat _ | exact zaq _ | exact zal _ | exact zam _ | exact zb5 _ | exact zb7 _ | exact zan _ | exact zav | refine zbj ?_ ?_ | refine zbu ?_ | dsimp only | split)
theorem zmr (op : UnOp) (x : Value) : zax P W (Op.unary op x):=by
 unfold Op.unary
 split <;> first | exact zi4 _ _ _ _ | exact zj3 _ _ _ _ | trivial
end
end
section
section
variable {P : Program} {W : Nat -> Prop}
theorem zoc (r : Nat) : zax P W (numberAt r):=by
 unfold numberAt
 refine za0 (zaq _) fun x=>?_
 split
 ·trivial
 ·exact za0 (zat _) fun o=>by split <;> trivial
theorem zin (a : Addr) : zax P W (behindNumber a):=za0 (zoc _) fun _=>trivial
theorem zh5 (a : Addr) : zax P W (stringish a):=by
 unfold stringish
 refine za0 (ze9 a) fun b=>?_
 split
 ·trivial
 ·refine za0 (zaq _) fun x=>?_
  split
  ·exact ze9 _
  ·trivial
theorem zoe (a b : Addr) : zax P W (mayBeOne a b):=by
 unfold mayBeOne
 refine za0 (zh5 a) fun x=>za0 (zh5 b) fun y=>?_
 dsimp only
 refine za0 ?_ fun _=>za0 ?_ fun _=>trivial
 ·exact za0 (zaq _) fun _=>by split <;> trivial
 ·exact za0 (zaq _) fun _=>by split <;> trivial
theorem zi1 (a b : Addr) : zax P W (sameAddr a b):=by
 unfold sameAddr
 dsimp only
 split
 ·trivial
 ·refine za0 (ze9 a) fun x=>?_
  refine za0 (ze9 b) fun y=>?_
  split
  ·trivial
  ·refine za0 (zhh a) fun _=>za0 (zhh b) fun _=>za0 (zoe a b) fun z=>?_
   split
   ·exact za0 (zal _) fun _=>trivial
   ·trivial
theorem zjh (a b : Option Addr) : zax P W (samePointer a b):=by unfold samePointer; split; exact zi1 _ _; trivial
theorem only_typeStr (t : TypeId) : zax P W (typeStr t):=by
 unfold typeStr
 exact za0 (zac t) fun s=>by dsimp only; split <;> trivial
set_option maxHeartbeats 4000000 in
theorem only_equalIn (d : Nat) : ∀ (t : TypeId) (x y : Value),zax P W (Op.equalIn d t x y):=by
 induction d with
 | zero=>intro t x y; trivial
 | succ d ih=>
  intro t x y
  unfold Op.equalIn
  repeat (first | exact trivial | exact ih _ _ _ | exact zi2 _ _ _ | exact zag | exact za4 _ | exact zac _ | exact zab _ | exact zin _ | exact zhi _ | exact zi1 _ _ | exact zjh _ _ | exact zal _ | exact only_typeStr _ | exact zb1 _ | refine zft _ _ (fun _ _=>?_) _ | refine zfs _ _ (fun _ _=>?_) _ | refine za0 ?_ (fun _=>?_) | split | dsimp only)
theorem only_equal (t : TypeId) (x y : Value) : zax P W (Op.equal t x y):=only_equalIn _ t x y
set_option maxHeartbeats 4000000 in
theorem zm9 (d : Nat) : ∀ (t : TypeId) (x y : Value),zax P W (Op.eqGuardIn d t x y):=by
 induction d with
 | zero=>intro t x y; trivial
 | succ d ih=>
  intro t x y
  unfold Op.eqGuardIn
  repeat (first | exact trivial | exact ih _ _ _ | exact zi2 _ _ _ | exact za4 _ | exact zab _ | refine zft _ _ (fun _ _=>?_) _ | refine zfs _ _ (fun _ _=>?_) _ | refine za0 ?_ (fun _=>?_) | split | dsimp only)
theorem zeq (op : BinOp) (t : TypeId) (x y : Operand) (a b : Value) : zax P W (eqGuard op t x y a b):=by
 unfold eqGuard
 repeat (first | exact trivial | exact zm9 _ _ _ _ | exact zag | refine za0 ?_ (fun _=>?_) | split | dsimp only)
theorem zh8 (op : BinOp) (h : op = .eql \/ op = .neq) (t : TypeId) (x y : Value) : zax P W (binOp op t x y):=by
 rcases h with rfl | rfl
 all_goals
  unfold binOp
  split
  all_goals first
   | contradiction
   | exact zoa _ _ _
   | exact za0 (only_equal _ _ _) fun _=>trivial
   | trivial
   | (split; exact ze1 _; exact zlc _ _ _)
   | (split; exact ze1 _; unfold Op.floatCmp; repeat (first | exact trivial | exact za0 (zal _) (fun _=>trivial) | split | dsimp only))
   | (split; exact ze1 _; unfold Op.complexOp; repeat (first | exact trivial | exact za0 (zal _) (fun _=>trivial) | split | dsimp only))
   | (simp_all; done)
theorem zh7 (op : BinOp) (t : TypeId) (k j : IntKind) (x y : Int) : zax P W (binOp op t (.int k x) (.int j y)):=by
 unfold binOp
 cases op <;> simp only [] <;> first
  | exact only_shift _ _ _ _ _
  | (split; exact ze1 _; first | exact zi4 _ _ _ _ | exact only_intDiv _ _ _ _ | exact zj3 _ _ _ _ | exact zlc _ _ _)
def idle : Op -> Bool
 | .move _ | .assign _ | .pick .. | .alloc _ | .box .. | .build .. | .buildSlice .. | .load .. | .unOp .. | .makeInterface .. | .makeFunc .. | .makeSlice .. | .slice .. | .fieldAddr .. | .field ..
 | .indexAddr .. | .index .. | .typeAssert .. | .extract .. | .defer _=>true
 | .binOp op ..=>op == .eql || op == .neq
 | .call { callee:=.builtin .len,.. }=>true
 | _=>false
theorem zcr {s : Sem Value} (h : zax P W s) : zax P W (do pure (Next.value (<- s)) : Sem Next):=za0 h fun _=>trivial
theorem zay {o : Oper} (h : idle o.op = true) (Y : Operand -> Value) : zax P W (execOp Y o):=by
 obtain ⟨dst,op,type,pos,after,guard⟩:=o
 unfold execOp
 cases op <;> simp only [idle,Bool.false_eq_true] at h ⊢
 case move=>trivial
 case assign=>trivial
 case pick=>exact za0 (only_asBool _) fun b=>trivial
 case alloc=>exact zcr (only_alloc _)
 case box=>exact zcr (only_box _ _)
 case build=>exact zcr (zmu _ _)
 case buildSlice=>exact zcr (zlg _ _ _)
 case load=>exact zcr (zlb _ _)
 case unOp=>exact zcr (zmr _ _)
 case makeInterface=>exact zcr (zep _ _)
 case makeFunc=>exact zcr trivial
 case makeSlice=>exact zcr (zm8 _ _ _)
 case slice=>exact zcr (zj1 _ _ _ _ _)
 case fieldAddr=>exact zcr (zj4 _ _ _)
 case field=>exact zcr (zmt _ _ _)
 case indexAddr=>exact zcr (zge _ _ _)
 case index=>exact zcr (only_index _ _ _)
 case typeAssert=>exact zcr (zgc _ _ _ _)
 case extract=>exact zcr (zj5 _ _)
 case binOp op t x y u=>
  refine zcr (za0 (zeq _ _ _ _ _ _) fun _=>zh8 _ ?_ _ _ _)
  simp only [Bool.or_eq_true,beq_iff_eq] at h
  exact h
 case defer c=>
  refine za0 ?_ fun _=>trivial
  unfold resolve
  split <;> first | trivial | (unfold Deferred.ofValue; split <;> trivial)
 case call c=>
  obtain ⟨callee,args,ts⟩:=c
  cases callee with
  | builtin b=>
   cases b <;> simp only [Bool.false_eq_true] at h
   exact zcr (zof _ _ _)
  | value f=>simp at h
  | invoke r n=>simp at h
theorem zc5 {o : Oper} {op : BinOp} {t u : TypeId} {x y : Operand} (ho : o.op = .binOp op t x y u) {Y : Operand -> Value} {k j : IntKind} {m n : Int} (hx : Y x = .int k m) (hy : Y y = .int j n) : zax P W (execOp Y o):=by
 unfold execOp
 simp only [ho,hx,hy]
 exact zcr (za0 (zeq _ _ _ _ _ _) fun _=>zh7 _ _ _ _ _ _)
theorem zbp {o : Oper} {x : Operand} (ho : o.op = .nilCheck x) {Y : Operand -> Value} {p : Option Addr} (hx : Y x = .pointer p) : zax P W (execOp Y o):=by
 unfold execOp
 simp only [ho,hx]
 cases p with
 | none=>exact zb1 _
 | some a=>trivial
theorem zdq {o : Oper} {x : Operand} {t u : TypeId} (ho : o.op = .convert t u x) {Y : Operand -> Value} {k j : IntKind} {n : Int} (hx : Y x = .int k n) (hu : P.underlying u = some (.int j)) : zax P W (execOp Y o):=by
 unfold execOp
 simp only [ho,hx]
 refine zcr ?_
 unfold convert
 unfold underlying
 refine za0 (za0 zag fun p=>by split <;> trivial) fun d=>?_
 show zax P W ((program >>= fun p => match p.underlying u with | some d => pure d | none => stuck "no such type") >>= _)
 show zax P W (Sem.bind (Sem.bind (Sem.program Sem.pure) _) _)
 simp only [Sem.bind,zax,hu]
 show zax P W (Conv.intToInt j n)
 trivial
end
section
variable {P : Program} {oth : Nat -> Prop} {fn : FuncId} {o : Oper} {a : Act} {w : World}
theorem zb3 (h : zax P (fun _=>False) (execOp a.eval o)) (hoth : ∀ b,oth b -> b < w.heap.size) : ziw P oth fn o a w:=zci h hoth fun _ hb=>hb.elim
theorem fine_idle (h : idle o.op = true) (hoth : ∀ b,oth b -> b < w.heap.size) : ziw P oth fn o a w:=zb3 (zay h _) hoth
end
end
end Go.Proofs.Ytonhfgjofgbcdaa.Jay
