/- Which operations store nothing, by their text. No program in sight. -/
import Derived.Test.YtgchailmcbifdaaDoorOnly
import GoSem.Dispatch
namespace Go.Proofs.YtgchailmcbifdaaDoor.Jay
open Go Go.Conc

section
variable {P : Program} {W : Nat → Prop}

theorem only_forIn_list {α β : Type} (l : List α) (f : α → β → Sem (ForInStep β)) (hf : ∀ a b, Only P W (f a b)) : ∀ b, Only P W (forIn l b f) := by
  induction l with
  | nil => intro b; exact only_pure _
  | cons a l ih =>
    intro b
    rw [List.forIn_cons]
    refine only_bind (hf a b) fun x => ?_
    cases x with
    | done b => exact only_pure _
    | yield b => exact ih b
theorem only_forIn_array {α β : Type} (l : Array α) (f : α → β → Sem (ForInStep β)) (hf : ∀ a b, Only P W (f a b)) (b : β) : Only P W (forIn l b f) := by
  rw [← Array.forIn_toList]; exact only_forIn_list _ f hf b
theorem only_forIn_range {β : Type} (r : Std.Legacy.Range) (f : Nat → β → Sem (ForInStep β)) (hf : ∀ a b, Only P W (f a b)) (b : β) : Only P W (forIn r b f) := by
  rw [Std.Legacy.Range.forIn_eq_forIn_range']; exact only_forIn_list _ f hf b

theorem only_typeInfo (t : TypeId) : Only P W (typeInfo t) := by unfold typeInfo; exact only_bind only_program fun p => by split <;> trivial
theorem only_underlying (t : TypeId) : Only P W (underlying t) := by unfold underlying; exact only_bind only_program fun p => by split <;> trivial
theorem only_zeroValue (t : TypeId) : Only P W (zeroValue t) := by unfold zeroValue; exact only_bind (only_typeInfo t) fun p => by split <;> trivial
theorem only_sizeOf (t : TypeId) : Only P W (sizeOf t) := by unfold sizeOf; exact only_bind (only_typeInfo t) fun p => trivial
theorem only_isAgg (t : TypeId) : Only P W (isAgg t) := by unfold isAgg; exact only_bind (only_underlying t) fun p => by split <;> trivial
theorem only_elemOf (t : TypeId) : Only P W (elemOf t) := by unfold elemOf; exact only_bind (only_underlying t) fun p => by split <;> trivial
theorem only_loadCellsFrom (a : Addr) (n : Nat) : ∀ (i : Nat) (acc : Array Value), Only P W (loadCellsFrom a i n acc) := by
  induction n with
  | zero => intro i acc; exact only_pure _
  | succ n ih => intro i acc; exact only_bind (only_load _) fun v => ih _ _
theorem only_loadCells (a : Addr) (n : Nat) : Only P W (loadCells a n) := only_loadCellsFrom a n 0 #[]
theorem only_loadVar (t : TypeId) (a : Addr) : Only P W (loadVar t a) := by
  unfold loadVar
  refine only_bind (only_isAgg t) fun b => only_ite ?_ (only_load a)
  exact only_bind (only_sizeOf t) fun n => only_bind (only_loadCells a n) fun _ => trivial
theorem only_storeCells (a : Addr) (h : W a.block) (vs : List Value) : ∀ i, Only P W (storeCells a vs i) := by
  induction vs with
  | nil => intro i; exact only_pure _
  | cons v vs ih => intro i; exact only_bind (only_store (by unfold Addr.add; split <;> exact h)) fun _ => ih _
theorem only_storeVar (t : TypeId) (a : Addr) (v : Value) (h : W a.block) : Only P W (storeVar t a v) := by
  unfold storeVar
  refine only_bind (only_sizeOf t) fun n => ?_
  split
  · exact only_bind (only_stuck _) fun _ => only_storeCells a h _ _
  · exact only_bind (only_pure _) fun _ => only_storeCells a h _ _
theorem only_newRow (t : TypeId) (cs : Array Value) : Only P W (newRow t cs) := only_bind (only_newObj _) fun _ => trivial
theorem only_newVar (t : TypeId) (v : Value) : Only P W (newVar t v) := only_newRow t _
theorem only_part (t : TypeId) (cs : Array Value) (n : Nat) : Only P W (part t cs n) := by
  unfold part
  refine only_bind (only_isAgg t) fun b => only_ite ?_ ?_
  · exact only_bind (only_sizeOf t) fun _ => trivial
  · split <;> trivial
theorem only_askRoom (n : Nat) : Only P W (askRoom n) := by unfold askRoom; split; exact only_noRoom; trivial
theorem only_runtimePanic {α : Type} (e : RuntimeError) : Only P W (runtimePanic e : Sem α) := by
  unfold runtimePanic
  refine only_bind only_program fun p => ?_
  cases e with
  | typeAssertion i c a m => exact only_bind (only_elemOf _) fun _ => only_bind (only_newVar _ _) fun _ => trivial
  | panicNil => exact only_bind (only_elemOf _) fun _ => only_bind (only_newVar _ _) fun _ => trivial
  | _ => trivial
theorem only_boundsPanic {α : Type} (k : IntKind) (x y : Int) (c : BoundsCode) : Only P W (boundsPanic k x y c : Sem α) := by
  unfold boundsPanic
  dsimp only
  split
  · exact only_bind (only_map (only_choose _)) fun _ => only_runtimePanic _
  · exact only_bind (only_pure _) fun _ => only_runtimePanic _
theorem only_asIntOf (v : Value) : Only P W (asIntOf v) := by unfold asIntOf; split <;> trivial
theorem only_asInt (v : Value) : Only P W (asInt v) := only_bind (only_asIntOf v) fun _ => trivial
theorem only_asBool (v : Value) : Only P W (asBool v) := by unfold asBool; split <;> trivial
theorem only_asAgg (v : Value) : Only P W (asAgg v) := by unfold asAgg; split <;> trivial
theorem only_asAddr (v : Value) : Only P W (asAddr v) := by unfold asAddr; split <;> first | trivial | exact only_runtimePanic _
theorem only_sureAddr (v : Value) : Only P W (Instr.sureAddr v) := by unfold Instr.sureAddr; split <;> trivial
theorem only_viewAt (r : Nat) : Only P W (viewAt r) := by
  unfold viewAt
  refine only_bind (only_shape _) fun x => ?_
  split
  · trivial
  · exact only_bind (only_getObj _) fun o => by split <;> trivial
theorem only_noView (a : Addr) : Only P W (noView a) := by
  unfold noView
  refine only_bind (only_viewAt _) fun x => ?_
  split <;> trivial
theorem only_byteOf (a : Addr) : Only P W (byteOf a) := by
  unfold byteOf
  split
  · trivial
  · refine only_bind only_program fun p => only_bind (only_noView a) fun _ => only_bind (only_shape _) fun x => ?_
    split
    · dsimp only
      split
      · trivial
      · split <;> trivial
    · trivial
theorem only_partAt (a : Addr) (n m : Nat) : Only P W (partAt a n m) := by
  unfold partAt
  refine only_bind (only_byteOf a) fun x => ?_
  dsimp only
  exact only_bind (only_byteOf _) fun _ => trivial
theorem only_fieldPlace (a : Addr) (f : Field) : Only P W (fieldPlace a f) := by
  unfold fieldPlace
  refine only_bind (only_sizeOf _) fun n => ?_
  split
  · exact only_partAt _ _ _
  · trivial

theorem only_alloc (e : TypeId) : Only P W (Instr.alloc e true (.tuple #[])) := by
  unfold Instr.alloc
  exact only_bind (only_zeroValue e) fun z => only_bind (only_newVar _ _) fun _ => trivial
theorem only_box (e : TypeId) (v : Value) : Only P W (Instr.box e v) := only_bind (only_newVar e v) fun _ => trivial
theorem only_loadAt (t : TypeId) (v : Value) : Only P W (Instr.loadAt t v) := only_bind (only_sureAddr v) fun a => only_loadVar t a
theorem only_fieldAt (t : TypeId) (v : Value) (f : Nat) : Only P W (Instr.fieldAt t v f) := by
  unfold Instr.fieldAt
  refine only_bind (only_underlying t) fun d => ?_
  repeat (first | exact trivial | exact only_program | exact only_underlying _ | exact only_typeInfo _ | exact only_zeroValue _ | exact only_sizeOf _ | exact only_elemOf _ | exact only_newVar _ _ | exact only_newRow _ _ | exact only_newObj _ | exact only_getObj _ | exact only_shape _ | exact only_choose _ | exact only_asIntOf _ | exact only_asInt _ | exact only_asAgg _ | exact only_askRoom _ | exact only_noRoom | refine only_ite ?_ ?_ | refine only_map ?_ | dsimp only | exact only_sureAddr _ | exact only_fieldPlace _ _ | refine only_bind ?_ (fun _ => ?_) | split)
theorem only_indexAt (t : TypeId) (v i : Value) : Only P W (Instr.indexAt t v i) := by
  unfold Instr.indexAt
  repeat (first | exact trivial | exact only_program | exact only_underlying _ | exact only_typeInfo _ | exact only_zeroValue _ | exact only_sizeOf _ | exact only_elemOf _ | exact only_newVar _ _ | exact only_newRow _ _ | exact only_newObj _ | exact only_getObj _ | exact only_shape _ | exact only_choose _ | exact only_asIntOf _ | exact only_asInt _ | exact only_asAgg _ | exact only_askRoom _ | exact only_noRoom | refine only_ite ?_ ?_ | refine only_map ?_ | dsimp only | exact only_asIntOf _ | exact only_underlying _ | exact only_sureAddr _ | exact only_sizeOf _ | exact only_boundsPanic _ _ _ _ | refine only_bind ?_ (fun _ => ?_) | split)
theorem only_index (t : TypeId) (v i : Value) : Only P W (Instr.index t v i) := by
  unfold Instr.index
  repeat (first | exact trivial | exact only_program | exact only_underlying _ | exact only_typeInfo _ | exact only_zeroValue _ | exact only_sizeOf _ | exact only_elemOf _ | exact only_newVar _ _ | exact only_newRow _ _ | exact only_newObj _ | exact only_getObj _ | exact only_shape _ | exact only_choose _ | exact only_asIntOf _ | exact only_asInt _ | exact only_asAgg _ | exact only_askRoom _ | exact only_noRoom | refine only_ite ?_ ?_ | refine only_map ?_ | dsimp only | exact only_asIntOf _ | exact only_underlying _ | exact only_part _ _ _ | exact only_sizeOf _ | exact only_boundsPanic _ _ _ _ | refine only_bind ?_ (fun _ => ?_) | split)
theorem only_field (t : TypeId) (v : Value) (f : Nat) : Only P W (Instr.field t v f) := by
  unfold Instr.field
  repeat (first | exact trivial | exact only_program | exact only_underlying _ | exact only_typeInfo _ | exact only_zeroValue _ | exact only_sizeOf _ | exact only_elemOf _ | exact only_newVar _ _ | exact only_newRow _ _ | exact only_newObj _ | exact only_getObj _ | exact only_shape _ | exact only_choose _ | exact only_asIntOf _ | exact only_asInt _ | exact only_asAgg _ | exact only_askRoom _ | exact only_noRoom | refine only_ite ?_ ?_ | refine only_map ?_ | dsimp only | exact only_underlying _ | exact only_asAgg _ | exact only_part _ _ _ | refine only_bind ?_ (fun _ => ?_) | split)
theorem only_makeSlice (t : TypeId) (l c : Value) : Only P W (Instr.makeSlice t l c) := by
  unfold Instr.makeSlice
  repeat (first | exact trivial | exact only_program | exact only_underlying _ | exact only_typeInfo _ | exact only_zeroValue _ | exact only_sizeOf _ | exact only_elemOf _ | exact only_newVar _ _ | exact only_newRow _ _ | exact only_newObj _ | exact only_getObj _ | exact only_shape _ | exact only_choose _ | exact only_asIntOf _ | exact only_asInt _ | exact only_asAgg _ | exact only_askRoom _ | exact only_noRoom | refine only_ite ?_ ?_ | refine only_map ?_ | dsimp only | exact only_underlying _ | exact only_asInt _ | exact only_typeInfo _ | exact only_sizeOf _ | exact only_zeroValue _ | exact only_askRoom _ | exact only_newRow _ _ | exact only_runtimePanic _ | exact only_choose _ | refine only_bind ?_ (fun _ => ?_) | split)
theorem only_sliceBound (x : Value) (y : Nat) (c : BoundsCode) : Only P W (Instr.sliceBound x y c) := by
  unfold Instr.sliceBound
  repeat (first | exact trivial | exact only_program | exact only_underlying _ | exact only_typeInfo _ | exact only_zeroValue _ | exact only_sizeOf _ | exact only_elemOf _ | exact only_newVar _ _ | exact only_newRow _ _ | exact only_newObj _ | exact only_getObj _ | exact only_shape _ | exact only_choose _ | exact only_asIntOf _ | exact only_asInt _ | exact only_asAgg _ | exact only_askRoom _ | exact only_noRoom | refine only_ite ?_ ?_ | refine only_map ?_ | dsimp only | exact only_asIntOf _ | exact only_boundsPanic _ _ _ _ | refine only_bind ?_ (fun _ => ?_) | split)
theorem only_sliceBounds (b : Bool) (x y : Nat) (l h m : Option Value) : Only P W (Instr.sliceBounds b x y l h m) := by
  unfold Instr.sliceBounds
  repeat (first | exact trivial | exact only_program | exact only_underlying _ | exact only_typeInfo _ | exact only_zeroValue _ | exact only_sizeOf _ | exact only_elemOf _ | exact only_newVar _ _ | exact only_newRow _ _ | exact only_newObj _ | exact only_getObj _ | exact only_shape _ | exact only_choose _ | exact only_asIntOf _ | exact only_asInt _ | exact only_asAgg _ | exact only_askRoom _ | exact only_noRoom | refine only_ite ?_ ?_ | refine only_map ?_ | dsimp only | exact only_sliceBound _ _ _ | refine only_bind ?_ (fun _ => ?_) | split)
theorem only_slice (t : TypeId) (x : Value) (l h m : Option Value) : Only P W (Instr.slice t x l h m) := by
  unfold Instr.slice
  repeat (first | exact trivial | exact only_program | exact only_underlying _ | exact only_typeInfo _ | exact only_zeroValue _ | exact only_sizeOf _ | exact only_elemOf _ | exact only_newVar _ _ | exact only_newRow _ _ | exact only_newObj _ | exact only_getObj _ | exact only_shape _ | exact only_choose _ | exact only_asIntOf _ | exact only_asInt _ | exact only_asAgg _ | exact only_askRoom _ | exact only_noRoom | refine only_ite ?_ ?_ | refine only_map ?_ | dsimp only | exact only_underlying _ | exact only_asAddr _ | exact only_sizeOf _ | exact only_sliceBounds _ _ _ _ _ _ | refine only_bind ?_ (fun _ => ?_) | split)
theorem only_sliceAt (t : TypeId) (x : Value) (l h m : Option Value) : Only P W (Instr.sliceAt t x l h m) := by
  unfold Instr.sliceAt
  repeat (first | exact trivial | exact only_program | exact only_underlying _ | exact only_typeInfo _ | exact only_zeroValue _ | exact only_sizeOf _ | exact only_elemOf _ | exact only_newVar _ _ | exact only_newRow _ _ | exact only_newObj _ | exact only_getObj _ | exact only_shape _ | exact only_choose _ | exact only_asIntOf _ | exact only_asInt _ | exact only_asAgg _ | exact only_askRoom _ | exact only_noRoom | refine only_ite ?_ ?_ | refine only_map ?_ | dsimp only | exact only_underlying _ | exact only_sureAddr _ | exact only_sizeOf _ | exact only_sliceBounds _ _ _ _ _ _ | exact only_slice _ _ _ _ _ | refine only_bind ?_ (fun _ => ?_) | split)
theorem only_mapM {α β : Type} (xs : Array α) (f : α → Sem β) (hf : ∀ a, Only P W (f a)) : Only P W (xs.mapM f) := by
  rw [Array.mapM_eq_foldlM, ← Array.foldlM_toList]
  generalize (#[] : Array β) = acc
  induction xs.toList generalizing acc with
  | nil => exact only_pure _
  | cons x l ih =>
    rw [List.foldlM_cons]
    exact only_bind (only_bind (hf x) fun _ => only_pure _) fun _ => ih _
theorem only_build (t : TypeId) (ps : Array (Nat × Value)) : Only P W (Instr.build t ps) := by
  unfold Instr.build
  repeat (first | exact trivial | exact only_program | exact only_underlying _ | exact only_typeInfo _ | exact only_zeroValue _ | exact only_sizeOf _ | exact only_elemOf _ | exact only_newVar _ _ | exact only_newRow _ _ | exact only_newObj _ | exact only_getObj _ | exact only_shape _ | exact only_choose _ | exact only_asIntOf _ | exact only_asInt _ | exact only_asAgg _ | exact only_askRoom _ | exact only_noRoom | refine only_ite ?_ ?_ | refine only_map ?_ | dsimp only | exact only_underlying _ | exact only_zeroValue _ | exact only_sizeOf _ | refine only_mapM _ _ (fun _ => ?_) | refine only_bind ?_ (fun _ => ?_) | split)
theorem only_buildSlice (t : TypeId) (n : Nat) (ps : Array (Nat × Value)) : Only P W (Instr.buildSlice t n ps) := by
  unfold Instr.buildSlice
  repeat (first | exact trivial | exact only_program | exact only_underlying _ | exact only_typeInfo _ | exact only_zeroValue _ | exact only_sizeOf _ | exact only_elemOf _ | exact only_newVar _ _ | exact only_newRow _ _ | exact only_newObj _ | exact only_getObj _ | exact only_shape _ | exact only_choose _ | exact only_asIntOf _ | exact only_asInt _ | exact only_asAgg _ | exact only_askRoom _ | exact only_noRoom | refine only_ite ?_ ?_ | refine only_map ?_ | dsimp only | exact only_underlying _ | exact only_zeroValue _ | exact only_sizeOf _ | exact only_newRow _ _ | refine only_bind ?_ (fun _ => ?_) | split)
theorem only_makeInterface (t : TypeId) (v : Value) : Only P W (Instr.makeInterface t v) := by
  unfold Instr.makeInterface
  repeat (first | exact trivial | exact only_program | exact only_underlying _ | exact only_typeInfo _ | exact only_zeroValue _ | exact only_sizeOf _ | exact only_elemOf _ | exact only_newVar _ _ | exact only_newRow _ _ | exact only_newObj _ | exact only_getObj _ | exact only_shape _ | exact only_choose _ | exact only_asIntOf _ | exact only_asInt _ | exact only_asAgg _ | exact only_askRoom _ | exact only_noRoom | refine only_ite ?_ ?_ | refine only_map ?_ | dsimp only | exact only_underlying _ | refine only_bind ?_ (fun _ => ?_) | split)
theorem only_typeAssert (x : Value) (t u : TypeId) (ok : Bool) : Only P W (Instr.typeAssert x t u ok) := by
  unfold Instr.typeAssert
  repeat (first | exact trivial | exact only_program | exact only_underlying _ | exact only_typeInfo _ | exact only_zeroValue _ | exact only_sizeOf _ | exact only_elemOf _ | exact only_newVar _ _ | exact only_newRow _ _ | exact only_newObj _ | exact only_getObj _ | exact only_shape _ | exact only_choose _ | exact only_asIntOf _ | exact only_asInt _ | exact only_asAgg _ | exact only_askRoom _ | exact only_noRoom | refine only_ite ?_ ?_ | refine only_map ?_ | dsimp only | exact only_underlying _ | exact only_typeInfo _ | exact only_zeroValue _ | exact only_runtimePanic _ | refine only_bind ?_ (fun _ => ?_) | split)
theorem only_extract (v : Value) (i : Nat) : Only P W (Instr.extract v i) := by
  unfold Instr.extract
  repeat (first | exact trivial | exact only_program | exact only_underlying _ | exact only_typeInfo _ | exact only_zeroValue _ | exact only_sizeOf _ | exact only_elemOf _ | exact only_newVar _ _ | exact only_newRow _ _ | exact only_newObj _ | exact only_getObj _ | exact only_shape _ | exact only_choose _ | exact only_asIntOf _ | exact only_asInt _ | exact only_asAgg _ | exact only_askRoom _ | exact only_noRoom | refine only_ite ?_ ?_ | refine only_map ?_ | dsimp only | split)
theorem only_len (ts : Array TypeId) (t : TypeId) (vs : Array Value) : Only P W (Builtin.len_ ts t vs) := by
  unfold Builtin.len_
  repeat (first | exact trivial | exact only_program | exact only_underlying _ | exact only_typeInfo _ | exact only_zeroValue _ | exact only_sizeOf _ | exact only_elemOf _ | exact only_newVar _ _ | exact only_newRow _ _ | exact only_newObj _ | exact only_getObj _ | exact only_shape _ | exact only_choose _ | exact only_asIntOf _ | exact only_asInt _ | exact only_asAgg _ | exact only_askRoom _ | exact only_noRoom | refine only_ite ?_ ?_ | refine only_map ?_ | dsimp only | exact only_underlying _ | exact only_getObj _ | refine only_bind ?_ (fun _ => ?_) | split)
theorem only_intArith (op : BinOp) (k : IntKind) (x y : Int) : Only P W (Op.intArith op k x y) := by unfold Op.intArith; split <;> trivial
theorem only_intDiv (op : BinOp) (k : IntKind) (x y : Int) : Only P W (Op.intDiv op k x y) := by
  unfold Op.intDiv
  repeat (first | exact trivial | exact only_program | exact only_underlying _ | exact only_typeInfo _ | exact only_zeroValue _ | exact only_sizeOf _ | exact only_elemOf _ | exact only_newVar _ _ | exact only_newRow _ _ | exact only_newObj _ | exact only_getObj _ | exact only_shape _ | exact only_choose _ | exact only_asIntOf _ | exact only_asInt _ | exact only_asAgg _ | exact only_askRoom _ | exact only_noRoom | refine only_ite ?_ ?_ | refine only_map ?_ | dsimp only | exact only_runtimePanic _ | split)
theorem only_intBits (op : BinOp) (k : IntKind) (x y : Int) : Only P W (Op.intBits op k x y) := by
  unfold Op.intBits
  cases op <;> trivial
theorem only_intCmp (op : BinOp) (x y : Int) : Only P W (Op.intCmp op x y) := by unfold Op.intCmp; split <;> trivial
theorem only_shift (op : BinOp) (k j : IntKind) (x y : Int) : Only P W (Op.shift op k x j y) := by
  unfold Op.shift
  split
  · exact only_runtimePanic _
  · cases op <;> trivial
theorem only_stringOp (op : BinOp) (x y : ByteArray) : Only P W (Op.stringOp op x y) := by
  unfold Op.stringOp
  cases op <;> repeat (first | exact trivial | exact only_program | exact only_underlying _ | exact only_typeInfo _ | exact only_zeroValue _ | exact only_sizeOf _ | exact only_elemOf _ | exact only_newVar _ _ | exact only_newRow _ _ | exact only_newObj _ | exact only_getObj _ | exact only_shape _ | exact only_choose _ | exact only_asIntOf _ | exact only_asInt _ | exact only_asAgg _ | exact only_askRoom _ | exact only_noRoom | refine only_ite ?_ ?_ | refine only_map ?_ | dsimp only | split)
theorem only_unary (op : UnOp) (x : Value) : Only P W (Op.unary op x) := by
  unfold Op.unary
  split <;> first | exact only_intArith _ _ _ _ | exact only_intBits _ _ _ _ | trivial
end
end Go.Proofs.YtgchailmcbifdaaDoor.Jay
