/- Comparisons, and operations as a whole: which of them store nothing, by their text. No program in sight. -/
import Derived.Test.YtgchailmcbifdaaDoorCalm
namespace Go.Proofs.YtgchailmcbifdaaDoor.Jay
open Go Go.Conc

section
variable {P : Program} {W : Nat → Prop}

theorem only_numberAt (r : Nat) : Only P W (numberAt r) := by
  unfold numberAt
  refine only_bind (only_shape _) fun x => ?_
  split
  · trivial
  · exact only_bind (only_getObj _) fun o => by split <;> trivial
theorem only_behindNumber (a : Addr) : Only P W (behindNumber a) := only_bind (only_numberAt _) fun _ => trivial
theorem only_stringish (a : Addr) : Only P W (stringish a) := by
  unfold stringish
  refine only_bind (only_frozen a) fun b => ?_
  split
  · trivial
  · refine only_bind (only_shape _) fun x => ?_
    split
    · exact only_frozen _
    · trivial
theorem only_mayBeOne (a b : Addr) : Only P W (mayBeOne a b) := by
  unfold mayBeOne
  refine only_bind (only_stringish a) fun x => only_bind (only_stringish b) fun y => ?_
  dsimp only
  refine only_bind ?_ fun _ => only_bind ?_ fun _ => trivial
  · exact only_bind (only_shape _) fun _ => by split <;> trivial
  · exact only_bind (only_shape _) fun _ => by split <;> trivial
theorem only_sameAddr (a b : Addr) : Only P W (sameAddr a b) := by
  unfold sameAddr
  dsimp only
  split
  · trivial
  · refine only_bind (only_frozen a) fun x => ?_
    refine only_bind (only_frozen b) fun y => ?_
    split
    · trivial
    · refine only_bind (only_noView a) fun _ => only_bind (only_noView b) fun _ => only_bind (only_mayBeOne a b) fun z => ?_
      split
      · exact only_bind (only_choose _) fun _ => trivial
      · trivial
theorem only_samePointer (a b : Option Addr) : Only P W (samePointer a b) := by unfold samePointer; split; exact only_sameAddr _ _; trivial
theorem only_typeStr (t : TypeId) : Only P W (typeStr t) := by
  unfold typeStr
  exact only_bind (only_typeInfo t) fun s => by dsimp only; split <;> trivial
set_option maxHeartbeats 4000000 in
theorem only_equalIn (d : Nat) : ∀ (t : TypeId) (x y : Value), Only P W (Op.equalIn d t x y) := by
  induction d with
  | zero => intro t x y; trivial
  | succ d ih =>
    intro t x y
    unfold Op.equalIn
    repeat (first | exact trivial | exact ih _ _ _ | exact only_part _ _ _ | exact only_program | exact only_underlying _ | exact only_typeInfo _ | exact only_sizeOf _ | exact only_behindNumber _ | exact only_byteOf _ | exact only_sameAddr _ _ | exact only_samePointer _ _ | exact only_choose _ | exact only_typeStr _ | exact only_runtimePanic _ | refine only_forIn_array _ _ (fun _ _ => ?_) _ | refine only_forIn_range _ _ (fun _ _ => ?_) _ | refine only_bind ?_ (fun _ => ?_) | split | dsimp only)
theorem only_equal (t : TypeId) (x y : Value) : Only P W (Op.equal t x y) := only_equalIn _ t x y
set_option maxHeartbeats 4000000 in
theorem only_eqGuardIn (d : Nat) : ∀ (t : TypeId) (x y : Value), Only P W (Op.eqGuardIn d t x y) := by
  induction d with
  | zero => intro t x y; trivial
  | succ d ih =>
    intro t x y
    unfold Op.eqGuardIn
    repeat (first | exact trivial | exact ih _ _ _ | exact only_part _ _ _ | exact only_underlying _ | exact only_sizeOf _ | refine only_forIn_array _ _ (fun _ _ => ?_) _ | refine only_forIn_range _ _ (fun _ _ => ?_) _ | refine only_bind ?_ (fun _ => ?_) | split | dsimp only)
theorem only_eqGuard (op : BinOp) (t : TypeId) (x y : Operand) (a b : Value) : Only P W (eqGuard op t x y a b) := by
  unfold eqGuard
  repeat (first | exact trivial | exact only_eqGuardIn _ _ _ _ | exact only_program | refine only_bind ?_ (fun _ => ?_) | split | dsimp only)

/-- The comparisons and sums of a fixed form: what they store is nothing, whatever stands there. -/
theorem only_binOp_cmp (op : BinOp) (h : op = .eql ∨ op = .neq) (t : TypeId) (x y : Value) : Only P W (binOp op t x y) := by
  rcases h with rfl | rfl
  all_goals
    unfold binOp
    split
    all_goals first
      | contradiction
      | exact only_stringOp _ _ _
      | exact only_bind (only_equal _ _ _) fun _ => trivial
      | trivial
      | (split; exact only_stuck _; exact only_intCmp _ _ _)
      | (split; exact only_stuck _; unfold Op.floatCmp; repeat (first | exact trivial | exact only_bind (only_choose _) (fun _ => trivial) | split | dsimp only))
      | (split; exact only_stuck _; unfold Op.complexOp; repeat (first | exact trivial | exact only_bind (only_choose _) (fun _ => trivial) | split | dsimp only))
      | (simp_all; done)
theorem only_binOp_int (op : BinOp) (t : TypeId) (k j : IntKind) (x y : Int) : Only P W (binOp op t (.int k x) (.int j y)) := by
  unfold binOp
  cases op <;> simp only [] <;> first
    | exact only_shift _ _ _ _ _
    | (split; exact only_stuck _; first | exact only_intArith _ _ _ _ | exact only_intDiv _ _ _ _ | exact only_intBits _ _ _ _ | exact only_intCmp _ _ _)
theorem only_binOp_str (op : BinOp) (t : TypeId) (x y : ByteArray) : Only P W (binOp op t (.string x) (.string y)) := by
  unfold binOp
  cases op <;> exact only_stringOp _ _ _

/-- An operation that stores nothing, by its make alone. -/
def idle : Op → Bool
  | .move _ | .assign _ | .pick .. | .alloc _ | .box .. | .build .. | .buildSlice .. | .load .. | .unOp .. | .makeInterface .. | .makeFunc .. | .makeSlice .. | .slice .. | .fieldAddr .. | .field ..
  | .indexAddr .. | .index .. | .typeAssert .. | .extract .. | .defer _ => true
  | .binOp op .. => op == .eql || op == .neq
  | .call { callee := .builtin .len, .. } => true
  | _ => false
theorem only_v {s : Sem Value} (h : Only P W s) : Only P W (do pure (Next.value (← s)) : Sem Next) := only_bind h fun _ => trivial
theorem only_idle {o : Oper} (h : idle o.op = true) (ρ : Operand → Value) : Only P W (execOp ρ o) := by
  obtain ⟨dst, op, type, pos, after, guard⟩ := o
  unfold execOp
  cases op <;> simp only [idle, Bool.false_eq_true] at h ⊢
  case move => trivial
  case assign => trivial
  case pick => exact only_bind (only_asBool _) fun b => trivial
  case alloc => exact only_v (only_alloc _)
  case box => exact only_v (only_box _ _)
  case build => exact only_v (only_build _ _)
  case buildSlice => exact only_v (only_buildSlice _ _ _)
  case load => exact only_v (only_loadAt _ _)
  case unOp => exact only_v (only_unary _ _)
  case makeInterface => exact only_v (only_makeInterface _ _)
  case makeFunc => exact only_v trivial
  case makeSlice => exact only_v (only_makeSlice _ _ _)
  case slice => exact only_v (only_sliceAt _ _ _ _ _)
  case fieldAddr => exact only_v (only_fieldAt _ _ _)
  case field => exact only_v (only_field _ _ _)
  case indexAddr => exact only_v (only_indexAt _ _ _)
  case index => exact only_v (only_index _ _ _)
  case typeAssert => exact only_v (only_typeAssert _ _ _ _)
  case extract => exact only_v (only_extract _ _)
  case binOp op t x y u =>
    refine only_v (only_bind (only_eqGuard _ _ _ _ _ _) fun _ => only_binOp_cmp _ ?_ _ _ _)
    simp only [Bool.or_eq_true, beq_iff_eq] at h
    exact h
  case defer c =>
    refine only_bind ?_ fun _ => trivial
    unfold resolve
    split <;> first | trivial | (unfold Deferred.ofValue; split <;> trivial)
  case call c =>
    obtain ⟨callee, args, ts⟩ := c
    cases callee with
    | builtin b =>
      cases b <;> simp only [Bool.false_eq_true] at h
      exact only_v (only_len _ _ _)
    | value f => simp at h
    | invoke r n => simp at h

/-- Whole numbers compared, added ..; a pointer held against nil; a number turned into another kind. -/
theorem only_calc {o : Oper} {op : BinOp} {t u : TypeId} {x y : Operand} (ho : o.op = .binOp op t x y u) {ρ : Operand → Value} {k j : IntKind} {m n : Int} (hx : ρ x = .int k m) (hy : ρ y = .int j n) : Only P W (execOp ρ o) := by
  unfold execOp
  simp only [ho, hx, hy]
  exact only_v (only_bind (only_eqGuard _ _ _ _ _ _) fun _ => only_binOp_int _ _ _ _ _ _)
theorem only_check {o : Oper} {x : Operand} (ho : o.op = .nilCheck x) {ρ : Operand → Value} {p : Option Addr} (hx : ρ x = .pointer p) : Only P W (execOp ρ o) := by
  unfold execOp
  simp only [ho, hx]
  cases p with
  | none => exact only_runtimePanic _
  | some a => trivial
theorem only_convert_int {o : Oper} {x : Operand} {t u : TypeId} (ho : o.op = .convert t u x) {ρ : Operand → Value} {k j : IntKind} {n : Int} (hx : ρ x = .int k n) (hu : P.underlying u = some (.int j)) : Only P W (execOp ρ o) := by
  unfold execOp
  simp only [ho, hx]
  refine only_v ?_
  unfold convert
  unfold underlying
  refine only_bind (only_bind only_program fun p => by split <;> trivial) fun d => ?_
  show Only P W ((program >>= fun p => match p.underlying u with | some d => pure d | none => stuck "no such type") >>= _)
  show Only P W (Sem.bind (Sem.bind (Sem.program Sem.pure) _) _)
  simp only [Sem.bind, Only, hu]
  show Only P W (Conv.intToInt j n)
  trivial
end

section
variable {P : Program} {oth : Nat → Prop} {fn : FuncId} {o : Oper} {a : Act} {w : World}
theorem fine_none (h : Only P (fun _ => False) (execOp a.eval o)) (hoth : ∀ b, oth b → b < w.heap.size) : Fine P oth fn o a w := fine_of_only h hoth fun _ hb => hb.elim
theorem fine_idle (h : idle o.op = true) (hoth : ∀ b, oth b → b < w.heap.size) : Fine P oth fn o a w := fine_none (only_idle h _) hoth
end
end Go.Proofs.YtgchailmcbifdaaDoor.Jay
