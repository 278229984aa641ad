/- A region whose order is drawn, walked in one order that is written out: what changes nothing may come up whenever it likes. No program in sight. -/
import Derived.Test.YtgchailmcbifdaaDoorWalk
namespace Go.Proofs.YtgchailmcbifdaaDoor.Jay
open Go Go.Conc

/-- Operations that are walked as changing nothing. -/
def calm : Op → Bool
  | .move _ | .assign _ | .pick .. | .load .. | .nilCheck _ | .binOp .. | .unOp .. | .convert .. | .fieldAddr .. | .field .. | .indexAddr .. | .index .. | .extract .. | .slice .. | .makeFunc .. | .build .. | .makeInterface .. => true
  | .call { callee := .builtin .len, .. } | .call { callee := .builtin .cap, .. } => true
  | _ => false

/-- In every world that meets S the operation leaves v, and nothing else. -/
def Still (P : Program) (ops : Array Oper) (S : World → Prop) (o : Oper) (v : Value) (a : Act) : Prop :=
  (Region.wanted o (yielded ops a.tmps) = true ∧ Only P (fun _ => False) (execOp a.eval o) ∧ ∀ w, S w → (execOp a.eval o).run P w = .ok (.value v) w) ∨
  (Region.wanted o (yielded ops a.tmps) = false ∧ v = undef)

section
variable {P : Program} {γ : Type} {X : Turns γ} {fn : FuncId} {Q : γ → Exit → Act → World → Prop} {ops : Array Oper} {S : World → Prop} {tight : Nat → Bool}

theorem Still.of_same {o : Oper} {v : Value} {a a' : Act} (hy : Still P ops S o v a) (he : execOp a'.eval o = execOp a.eval o)
    (hw : Region.wanted o (yielded ops a'.tmps) = Region.wanted o (yielded ops a.tmps)) : Still P ops S o v a' := by
  unfold Still at *
  rw [he, hw]
  exact hy

theorem Still.one {o : Oper} {v : Value} {s : γ} {a : Act} {w : World} {K : γ → Act → World → Prop} (hy : Still P ops S o v a) (hS : S w) (h : K s (a.put o.dst v) w) : One P X fn ops o Q K s a w := by
  unfold One
  rcases hy with ⟨hw, ho, hv⟩ | ⟨hw, rfl⟩
  · rw [if_pos hw]
    refine ⟨fun ht => fine_none ho ht, ?_⟩
    rw [hv w hS]
    exact h
  · rw [if_neg (by simp [hw])]
    exact h

/-- A move asks nothing of the world, nor does a slice's length. -/
def isSlice (P : Program) (t : TypeId) : Bool := match P.underlying t with | some (.slice _) => true | _ => false
def moves (P : Program) : Op → Bool
  | .move _ | .assign _ => true
  | .call { callee := .builtin .len, args, argTypes } => match args.toList, argTypes.toList with
    | [_], [t] => isSlice P t
    | _, _ => false
  | _ => false
theorem Still.moved {S' : World → Prop} {o : Oper} {v : Value} {a : Act} {w : World} (hm : moves P o.op = true) (hS : S w) (hy : Still P ops S o v a) : Still P ops S' o v a := by
  unfold Still at *
  rcases hy with ⟨hw, ho, hv⟩ | h
  · refine .inl ⟨hw, ho, fun w' _ => ?_⟩
    have h1 := hv w hS
    unfold moves at hm
    split at hm
    · rename_i hop
      simp only [execOp, hop] at h1 ⊢
      cases h1
      rfl
    · rename_i hop
      simp only [execOp, hop] at h1 ⊢
      cases h1
      rfl
    · rename_i args ats hop
      split at hm
      · rename_i x t hx ht
        obtain rfl : args = #[x] := Array.ext' hx
        obtain rfl : ats = #[t] := Array.ext' ht
        unfold isSlice at hm
        split at hm
        · rename_i e hu
          have he : execOp a.eval o = (do pure (Next.value (← Builtin.len_ #[t] o.type #[a.eval x])) : Sem Next) := by
            unfold execOp
            simp only [hop, resolve, List.map_toArray, List.map_cons, List.map_nil]
            rfl
          rw [he] at h1 ⊢
          have hund : ∀ w, (underlying t).run P w = .ok (.slice e) w := fun w => by simp [underlying, hu]
          cases hxv : a.eval x with
          | slice b n c =>
            rw [hxv] at h1
            simp [Builtin.len_, Sem.run_bind, hund, Result.andThen] at h1 ⊢
            exact h1
          | _ =>
            rw [hxv] at h1
            simp [Builtin.len_, Sem.run_bind, hund, Result.andThen, stuck] at h1
        · cases hm
      · cases hm
    · cases hm
  · exact .inr h

/-- The walk of the operations that are still to come, in this order. -/
def Dl (P : Program) {γ : Type} (X : Turns γ) (fn : FuncId) (ops : Array Oper) (Q : γ → Exit → Act → World → Prop) (tight : Nat → Bool) : List Nat → (World → Prop) → γ → Act → World → Prop
  | [], _, s, a, w => Q s .normal a w
  | i :: rest, S, s, a, w => ∃ o, ops[i]? = some o ∧
      if calm o.op = true then ∃ v, Still P ops S o v a ∧ Dl P X fn ops Q tight rest S s (a.put o.dst v) w
      else One P X fn ops o Q (fun s' a' w' => ∃ S' : World → Prop, S' w' ∧ (tight i = false → S' = S) ∧ Dl P X fn ops Q tight rest S' s' a' w') s a w

/-- A panic's way out asks nothing of the slots. -/
def Loose (Q : γ → Exit → Act → World → Prop) : Prop := ∀ s ch (a : Act) d v w, Q s (.panic ch) (a.put d v) w → Q s (.panic ch) a w

theorem one_put {oi oj : Oper} {v : Value} {s : γ} {a : Act} {w : World} (hap : oi.apart ops oj = true) (hsi : ∀ cs b, oi.op ≠ .select cs b) (hsj : ∀ cs b, oj.op ≠ .select cs b) (hQ : Loose Q)
    {K : γ → Act → World → Prop} (hy : Still P ops S oi v a) (h : One P X fn ops oj Q K s (a.put oi.dst v) w) :
    One P X fn ops oj Q (fun s' a' w' => Still P ops S oi v a' ∧ K s' (a'.put oi.dst v) w') s a w := by
  obtain ⟨h1, h2, h3⟩ := Oper.apart_spec hap
  have keep : ∀ (a : Act), Still P ops S oi v a → ∀ u, Still P ops S oi v (a.put oj.dst u) := fun a hy u =>
    hy.of_same (execOp_put oi hsi a oj.dst u h3) (wanted_put oi a oj.dst u h3)
  have keepD : ∀ d, Still P ops S oi v { a with defers := d :: a.defers } := fun d => hy.of_same rfl rfl
  unfold One at *
  rw [wanted_put oj a oi.dst v h1] at h
  split
  · rename_i hw
    rw [if_pos hw] at h
    have he := execOp_put oj hsj a oi.dst v h1
    unfold Fine listed at h
    rw [he] at h
    refine ⟨h.1, ?_⟩
    have h4 := h.2
    generalize (execOp a.eval oj).run P w = r at h4
    match r, h4 with
    | .ok (.value u) w', h4 => exact ⟨keep a hy u, by rw [← Act.put_comm a v u h2]; exact h4⟩
    | .ok .skip w', h4 => exact ⟨keep a hy _, by rw [← Act.put_comm a v undef h2]; exact h4⟩
    | .ok (.defer d) w', h4 =>
      refine ⟨keep _ (keepD d) _, ?_⟩
      rw [← Act.put_comm _ v undef h2, ← Act.put_defers]
      exact h4
    | .ok (.enter f args) w', h4 =>
      refine Jdo.mono h4 fun s' r w'' p => ?_
      cases r with
      | back u => exact ⟨keep a hy u, by rw [← Act.put_comm a v u h2]; exact p⟩
      | threw ch => exact hQ _ _ _ _ _ _ p
    | .halt (.panic u) w', h4 => exact hQ _ _ _ _ _ _ h4
  · rename_i hw
    rw [if_neg hw] at h
    exact ⟨keep a hy _, by rw [← Act.put_comm a v undef h2]; exact h⟩

theorem Dl.swap {x i : Nat} {ox oi : Oper} {rest : List Nat} {s : γ} {a : Act} {w : World} (hx : ops[x]? = some ox) (hi : ops[i]? = some oi) (hsel : ∀ (j : Nat) (o : Oper) cs b, ops[j]? = some o → o.op ≠ .select cs b) (hQ : Loose Q)
    (hcx : calm ox.op = true) (hap : ox.apart ops oi = true) (ht : calm oi.op = true ∨ tight i = false ∨ moves P ox.op = true) (hS : S w) (h : Dl P X fn ops Q tight (x :: i :: rest) S s a w) : Dl P X fn ops Q tight (i :: x :: rest) S s a w := by
  obtain ⟨o, ho, h⟩ := h
  obtain rfl : ox = o := by rw [hx] at ho; exact Option.some.inj ho
  rw [if_pos hcx] at h
  obtain ⟨v, hv, o', ho', h⟩ := h
  obtain rfl : oi = o' := by rw [hi] at ho'; exact Option.some.inj ho'
  obtain ⟨h1, h2, h3⟩ := Oper.apart_spec hap
  refine ⟨oi, hi, ?_⟩
  by_cases hci : calm oi.op = true
  · rw [if_pos hci] at h ⊢
    obtain ⟨u, hu, h⟩ := h
    refine ⟨u, hu.of_same (execOp_put oi (fun cs b => hsel i oi cs b hi) a ox.dst v h1).symm (wanted_put oi a ox.dst v h1).symm, ox, hx, ?_⟩
    rw [if_pos hcx]
    refine ⟨v, hv.of_same (execOp_put ox (fun cs b => hsel x ox cs b hx) a oi.dst u h3) (wanted_put ox a oi.dst u h3), ?_⟩
    rw [← Act.put_comm a v u h2]
    exact h
  · rw [if_neg hci] at h ⊢
    refine One.mono (one_put hap (fun cs b => hsel x ox cs b hx) (fun cs b => hsel i oi cs b hi) hQ hv h) ?_
    rintro s' a' w' ⟨hv', S', hS', hSS, h'⟩
    rcases ht.resolve_left hci with ht | ht
    · obtain rfl := hSS ht
      refine ⟨S', hS', fun _ => rfl, ox, hx, ?_⟩
      rw [if_pos hcx]
      exact ⟨v, hv', h'⟩
    · refine ⟨S', hS', hSS, ox, hx, ?_⟩
      rw [if_pos hcx]
      exact ⟨v, hv'.moved ht hS, h'⟩

theorem Dl.front {i : Nat} {oi : Oper} (hi : ops[i]? = some oi) (hsel : ∀ (j : Nat) (o : Oper) cs b, ops[j]? = some o → o.op ≠ .select cs b) (hQ : Loose Q) (post : List Nat) : ∀ (pre : List Nat) (s : γ) (a : Act) (w : World),
    (∀ x ∈ pre, ∃ ox, ops[x]? = some ox ∧ calm ox.op = true ∧ ox.apart ops oi = true ∧ (calm oi.op = true ∨ tight i = false ∨ moves P ox.op = true)) → S w → Dl P X fn ops Q tight (pre ++ i :: post) S s a w → Dl P X fn ops Q tight (i :: (pre ++ post)) S s a w
  | [], _, _, _, _, _, h => h
  | x :: pre, s, a, w, hp, hS, h => by
    obtain ⟨ox, hox, hc, hap, ht⟩ := hp x (List.mem_cons_self ..)
    refine Dl.swap hox hi hsel hQ hc hap ht hS ?_
    obtain ⟨o, ho, h⟩ := h
    obtain rfl : ox = o := by rw [hox] at ho; exact Option.some.inj ho
    rw [if_pos hc] at h
    obtain ⟨v, hv, h⟩ := h
    refine ⟨ox, hox, ?_⟩
    rw [if_pos hc]
    exact ⟨v, hv, Dl.front hi hsel hQ post pre s _ w (fun y hy => hp y (List.mem_cons_of_mem _ hy)) hS h⟩
end

/-! ### The check of an order -/

def waits? (A : List Nat) (i x : Nat) : Bool := (A.getD i 0).testBit x
def calmAt (ops : Array Oper) (i : Nat) : Bool := match ops[i]? with | some o => calm o.op | none => false
def apartAt (ops : Array Oper) (x i : Nat) : Bool := match ops[x]?, ops[i]? with | some o, some u => o.apart ops u | _, _ => false
def edgeTo (ops : Array Oper) (i x : Nat) : Bool := match ops[i]? with | some o => o.after.any fun e => Region.binds .any e && e.on == x | none => false
/-- x stands ahead of i. -/
def okPair (ops : Array Oper) (A : List Nat) (x i : Nat) : Bool := x != i && !waits? A x i && !edgeTo ops x i && (waits? A i x || (calmAt ops x && apartAt ops x i))
def okPairs (ops : Array Oper) (A : List Nat) : List Nat → Bool
  | [] => true
  | x :: rest => rest.all (okPair ops A x) && okPairs ops A rest
/-- What i is said to wait for it waits for. -/
def unionOf (A : List Nat) (after : Array Edge) : Nat := after.foldl (fun m e => if Region.binds .any e then m ||| (2 ^ e.on) ||| A.getD e.on 0 else m) 0
def okMask (ops : Array Oper) (A : List Nat) (i : Nat) : Bool := match ops[i]? with
  | some o => (A.getD i 0) &&& unionOf A o.after == A.getD i 0 && o.after.all (fun e => e.on < ops.size && e.on != i)
  | none => true
def okOrder (ops : Array Oper) (A ord : List Nat) : Bool :=
  (List.range ops.size).all (fun i => ord.contains i && okMask ops A i) && ord.all (· < ops.size) && okPairs ops A ord && Region.noSelect ops
def movesAt (P : Program) (ops : Array Oper) (x : Nat) : Bool := match ops[x]? with | some o => moves P o.op | none => false
def tightAt (P : Program) (ops : Array Oper) (A ord : List Nat) (i : Nat) : Bool := ord.all fun x => x == i || waits? A i x || waits? A x i || movesAt P ops x

theorem unionOf_spec {A : List Nat} {after : Array Edge} {x : Nat} (h : (unionOf A after).testBit x = true) : ∃ e ∈ after, Region.binds .any e = true ∧ (e.on = x ∨ waits? A e.on x = true) := by
  unfold unionOf at h
  rw [← Array.foldl_toList] at h
  have key : ∀ (l : List Edge) (m : Nat), (l.foldl (fun m e => if Region.binds .any e then m ||| (2 ^ e.on) ||| A.getD e.on 0 else m) m).testBit x = true → m.testBit x = true ∨ ∃ e ∈ l, Region.binds .any e = true ∧ (e.on = x ∨ waits? A e.on x = true) := by
    intro l
    induction l with
    | nil => exact fun m h => .inl h
    | cons e l ih =>
      intro m h
      rcases ih _ h with h | ⟨e', he', h⟩
      · dsimp only at h
        split at h
        · rename_i hb
          rw [Nat.testBit_or, Nat.testBit_or, Bool.or_eq_true, Bool.or_eq_true] at h
          rcases h with (h | h) | h
          · exact .inl h
          · rw [Nat.testBit_two_pow] at h
            exact .inr ⟨e, List.mem_cons_self .., hb, .inl (by simpa using h)⟩
          · exact .inr ⟨e, List.mem_cons_self .., hb, .inr h⟩
        · exact .inl h
      · exact .inr ⟨e', List.mem_cons_of_mem _ he', h⟩
  rcases key _ _ h with h | ⟨e, he, h⟩
  · simp at h
  · exact ⟨e, by simpa using he, h⟩

theorem okPairs_spec {ops : Array Oper} {A : List Nat} : ∀ {ord : List Nat}, okPairs ops A ord = true → ord.Pairwise fun x i => okPair ops A x i = true
  | [], _ => .nil
  | x :: rest, h => by
    simp only [okPairs, Bool.and_eq_true, List.all_eq_true] at h
    exact .cons h.1 (okPairs_spec h.2)

section
variable {P : Program} {γ : Type} {X : Turns γ} {fn : FuncId} {Q : γ → Exit → Act → World → Prop} {s : γ} {a : Act} {w : World} {ops : Array Oper} {S : World → Prop}

/-- One step: what is ready comes to the front of what is still to come. -/
theorem Dl.ready {tight : Nat → Bool} {ord : List Nat} {listed : Array Bool} {i : Nat} {o : Oper} (hsel : ∀ (j : Nat) (o : Oper) cs b, ops[j]? = some o → o.op ≠ .select cs b) (hQ : Loose Q) (ho : ops[i]? = some o) (hmem : i ∈ ord) (hlt : i < listed.size) (hun : listed.getD i false = false) (hnd : ord.Nodup)
    (hp : ∀ pre post, ord = pre ++ i :: post → ∀ x ∈ pre, listed.getD x false = false → ∃ ox, ops[x]? = some ox ∧ calm ox.op = true ∧ ox.apart ops o = true ∧ (calm o.op = true ∨ tight i = false ∨ moves P ox.op = true)) (hS : S w)
    (h : Dl P X fn ops Q tight (ord.filter fun i => !listed.getD i false) S s a w) : Dl P X fn ops Q tight (i :: ord.filter fun j => !(listed.setIfInBounds i true).getD j false) S s a w := by
  obtain ⟨pre, post, heq⟩ := List.append_of_mem hmem
  have hset : ∀ j, j ≠ i → (listed.setIfInBounds i true).getD j false = listed.getD j false := fun j hj => getD_set_ne false (Ne.symm hj)
  have hself : (listed.setIfInBounds i true).getD i false = true := by simp [hlt]
  have hnd' := hnd
  rw [heq, List.nodup_append] at hnd'
  have hpre : ∀ x ∈ pre, x ≠ i := fun x hx e => hnd'.2.2 x hx i (List.mem_cons_self ..) e
  have hpost : ∀ x ∈ post, x ≠ i := fun x hx e => (List.nodup_cons.1 hnd'.2.1).1 (e ▸ hx)
  have h1 : (ord.filter fun i => !listed.getD i false) = (pre.filter fun i => !listed.getD i false) ++ i :: (post.filter fun i => !listed.getD i false) := by
    rw [heq, List.filter_append, List.filter_cons_of_pos (by simp [hun])]
  have h2 : (ord.filter fun j => !(listed.setIfInBounds i true).getD j false) = (pre.filter fun i => !listed.getD i false) ++ (post.filter fun i => !listed.getD i false) := by
    rw [heq, List.filter_append, List.filter_cons_of_neg (by rw [hself]; simp)]
    congr 1 <;> refine List.filter_congr fun x hx => ?_
    · rw [hset x (hpre x hx)]
    · rw [hset x (hpost x hx)]
  rw [h2]
  rw [h1] at h
  exact Dl.front ho hsel hQ _ _ s a w (fun x hx => by
    rw [List.mem_filter] at hx
    exact hp pre post heq x hx.1 (by simpa using hx.2)) hS h

/-- Phase-free form of what the check says. -/
theorem okPair_spec {A : List Nat} {x i : Nat} {listed : Array Bool} {o : Oper} (hx : x < ops.size) (ho : ops[i]? = some o) (h : okPair ops A x i = true) (hun : listed.getD x false = false) (hwait : ∀ x, waits? A i x = true → listed.getD x false = true) {ord : List Nat} (hxo : x ∈ ord) :
    ∃ ox, ops[x]? = some ox ∧ calm ox.op = true ∧ ox.apart ops o = true ∧ (calm o.op = true ∨ tightAt P ops A ord i = false ∨ moves P ox.op = true) := by
  refine ⟨ops[x], Array.getElem?_eq_getElem hx, ?_⟩
  simp only [okPair, Bool.and_eq_true, Bool.not_eq_true', Bool.or_eq_true, calmAt, apartAt, Array.getElem?_eq_getElem hx, ho] at h
  have hnw : waits? A i x = false := by
    cases hb : waits? A i x with
    | false => rfl
    | true => rw [hwait x hb] at hun; cases hun
  rw [hnw] at h
  have h3 := h.2.resolve_left (by simp)
  refine ⟨h3.1, h3.2, .inr ?_⟩
  cases hmv : moves P ops[x].op with
  | true => exact .inr rfl
  | false =>
  left
  have hmx : movesAt P ops x = false := by unfold movesAt; rw [Array.getElem?_eq_getElem hx]; exact hmv
  unfold tightAt
  rw [List.all_eq_false]
  refine ⟨x, hxo, ?_⟩
  have h4 := h.1.1.1
  have h5 := h.1.1.2
  simp only [bne_iff_ne, ne_eq] at h4
  simp [h4, hnw, h5, hmx]

/-- What stands ahead in a list. -/
theorem okPairs_before {ok : Nat → Nat → Bool} {ord pre post : List Nat} {i : Nat} (h : ord.Pairwise fun x i => ok x i = true) (heq : ord = pre ++ i :: post) : ∀ x ∈ pre, ok x i = true := by
  rw [heq, List.pairwise_append] at h
  exact fun x hx => h.2.2 x hx i (List.mem_cons_self ..)

/-- The common part of a step: what i waits for has come up. -/
theorem waited {A : List Nat} {i : Nat} {o : Oper} {listed : Array Bool} (ho : ops[i]? = some o) (hmask : okMask ops A i = true) (hafter : ∀ e ∈ o.after, Region.binds .any e = true → listed.getD e.on false = true)
    (hdown : ∀ i x, listed.getD i false = true → waits? A i x = true → listed.getD x false = true) : ∀ x, waits? A i x = true → listed.getD x false = true := by
  intro x hx
  simp only [okMask, ho, Bool.and_eq_true, beq_iff_eq] at hmask
  unfold waits? at hx
  rw [← hmask.1, Nat.testBit_and, Bool.and_eq_true] at hx
  obtain ⟨e, he, hb, hcase⟩ := unionOf_spec hx.2
  have hl := hafter e he hb
  rcases hcase with rfl | hw
  · exact hl
  · exact hdown _ _ hl hw

theorem down_step {A : List Nat} {i : Nat} {listed : Array Bool} (hlt : i < listed.size) (hwait : ∀ x, waits? A i x = true → listed.getD x false = true) (hdown : ∀ i x, listed.getD i false = true → waits? A i x = true → listed.getD x false = true) :
    ∀ j x, (listed.setIfInBounds i true).getD j false = true → waits? A j x = true → (listed.setIfInBounds i true).getD x false = true := by
  intro j x hj hw
  refine getD_set_true ?_
  by_cases hji : j = i
  · subst hji; exact hwait x hw
  · rw [getD_set_ne false (Ne.symm hji)] at hj; exact hdown j x hj hw

/-- Where nothing is ready any more all has come up. -/
theorem all_up {A : List Nat} {listed : Array Bool} {ord : List Nat} {ok : Nat → Nat → Bool} (hsz : listed.size = ops.size) (hmask : ∀ i, i < ops.size → okMask ops A i = true) (hall : ∀ i, i < ops.size → i ∈ ord) (hrange : ∀ i ∈ ord, i < ops.size)
    (hpw : ord.Pairwise fun x i => ok x i = true) (hok : ∀ x i, ok x i = true → edgeTo ops x i = false) (hnil : Region.ready .any ops listed = []) : (ord.filter fun i => !listed.getD i false) = [] := by
  cases ht : ord.filter fun i => !listed.getD i false with
  | nil => rfl
  | cons i rest =>
    exfalso
    have hpw' := List.Pairwise.filter (fun i => !listed.getD i false) hpw
    have hmem : ∀ x ∈ i :: rest, x ∈ ord ∧ listed.getD x false = false := fun x hx => by
      rw [← ht, List.mem_filter] at hx
      simpa using hx
    rw [ht] at hpw'
    have hi := hmem i (List.mem_cons_self ..)
    have hilt : i < ops.size := hrange i hi.1
    have hready : i ∈ Region.ready .any ops listed := by
      refine mem_ready.2 ⟨?_, ops[i], Array.getElem?_eq_getElem hilt, fun e he hb => ?_⟩
      · have hl : i < listed.size := by omega
        have := hi.2
        rw [Array.getD_eq_getD_getElem?, Array.getElem?_eq_getElem hl] at this ⊢
        simpa using this
      · cases hl : listed.getD e.on false with
        | true => rfl
        | false =>
          exfalso
          have hmask := hmask i hilt
          simp only [okMask, Array.getElem?_eq_getElem hilt, Bool.and_eq_true, Array.all_eq_true_iff_forall_mem] at hmask
          have hboth : e.on < ops.size ∧ e.on ≠ i := by simpa using hmask.2 e he
          have hemem : e.on ∈ i :: rest := by
            rw [← ht, List.mem_filter]
            exact ⟨hall e.on hboth.1, by simp [hl]⟩
          have hedge : edgeTo ops i e.on = true := by
            unfold edgeTo
            rw [Array.getElem?_eq_getElem hilt]
            simp only [Array.any_eq_true']
            exact ⟨e, he, by simp [hb]⟩
          rcases List.mem_cons.1 hemem with heq | hr
          · exact hboth.2 heq
          · have := hok _ _ ((List.pairwise_cons.1 hpw').1 _ hr)
            rw [hedge] at this
            cases this
    rw [hnil] at hready
    cases hready

theorem filter_none {n : Nat} (ord : List Nat) : (ord.filter fun i => !(Array.replicate n false).getD i false) = ord := by
  rw [List.filter_eq_self]
  intro i _
  rw [Array.getD_eq_getD_getElem?, Array.getElem?_replicate]
  split <;> rfl
theorem down_none {n : Nat} (A : List Nat) : ∀ i x, (Array.replicate n false).getD i false = true → waits? A i x = true → (Array.replicate n false).getD x false = true := by
  intro i x hi
  exfalso
  rw [Array.getD_eq_getD_getElem?, Array.getElem?_replicate] at hi
  split at hi <;> simp at hi
theorem unlisted {i : Nat} {listed : Array Bool} (hlt : i < listed.size) (h : listed.getD i true = false) : listed.getD i false = false := by
  rw [Array.getD_eq_getD_getElem?, Array.getElem?_eq_getElem hlt] at h ⊢
  simpa using h
theorem nodup_of_okPairs {ord : List Nat} {ok : Nat → Nat → Bool} (hok : ∀ x i, ok x i = true → x ≠ i) (h : ord.Pairwise fun x i => ok x i = true) : ord.Nodup := h.imp fun {x i} hxi => hok x i hxi

/-- THE RULE: one order, checked; a condition S on the world that holds at the start, and behind all that changes something and isn't tight. -/
theorem j_region_dl {rid : Nat} (A ord : List Nat) (S : World → Prop) (hm : P.follows .mixedOrders = true) (hok : okOrder ops A ord = true) (hQ : Loose Q) (hS : S w.drew)
    (h : Dl P X fn ops Q (tightAt P ops A ord) ord S s a w.drew) : Wp P X fn (.region rid ops true) Q s a w := by
  simp only [okOrder, Bool.and_eq_true, List.all_eq_true, List.mem_range] at hok
  obtain ⟨⟨⟨hall, hrange⟩, hpairs⟩, hns⟩ := hok
  have hsel := Region.noSelect_spec hns
  have hpw := okPairs_spec hpairs
  have hnd : ord.Nodup := nodup_of_okPairs (ok := okPair ops A) (fun x i h => by simp [okPair] at h; exact h.1.1.1) hpw
  refine j_region_inv (I := fun listed s a w => listed.size = ops.size ∧ (∀ i x, listed.getD i false = true → waits? A i x = true → listed.getD x false = true) ∧
    ∃ S : World → Prop, S w ∧ Dl P X fn ops Q (tightAt P ops A ord) (ord.filter fun i => !listed.getD i false) S s a w) hm ?_ ?_ ?_
  · exact ⟨by simp, down_none A, S, hS, by rw [filter_none]; exact h⟩
  · rintro i o listed s a w ho hr ⟨hsz, hdown, S, hS, hdl⟩
    obtain ⟨hun, o', ho', hafter⟩ := mem_ready.1 hr
    obtain rfl : o = o' := by rw [ho] at ho'; exact Option.some.inj ho'
    have hlt : i < ops.size := (Array.getElem?_eq_some_iff.1 ho).1
    have hltl : i < listed.size := by omega
    have hwait := waited ho (hall i hlt).2 hafter hdown
    have hmem : i ∈ ord := by simpa using (hall i hlt).1
    have hfront := Dl.ready hsel hQ ho hmem hltl (unlisted hltl hun) hnd (fun pre post heq x hx hxu => by
      have hxo : x ∈ ord := by rw [heq]; exact List.mem_append_left _ hx
      exact okPair_spec (by simpa using hrange x hxo) ho (okPairs_before hpw heq x hx) hxu hwait hxo) hS hdl
    obtain ⟨o', ho', hf⟩ := hfront
    obtain rfl : o = o' := by rw [ho] at ho'; exact Option.some.inj ho'
    have hsz' : (listed.setIfInBounds i true).size = ops.size := by simp [hsz]
    split at hf
    · obtain ⟨v, hv, hd⟩ := hf
      exact hv.one hS ⟨hsz', down_step hltl hwait hdown, S, hS, hd⟩
    · exact One.mono hf fun s' a' w' ⟨S', hS', _, hd⟩ => ⟨hsz', down_step hltl hwait hdown, S', hS', hd⟩
  · rintro listed s a w hnil ⟨hsz, hdown, S, hS, hdl⟩
    rw [all_up hsz (fun i hi => (hall i hi).2) (fun i hi => by simpa using (hall i hi).1) (fun i hi => by simpa using hrange i hi) hpw (fun x i h => by simp [okPair] at h; exact h.1.2) hnil] at hdl
    exact hdl

/-! ### Several orders: some operations that change something may come up in any order -/

def okPairX (ops : Array Oper) (A heads : List Nat) (h x i : Nat) : Bool := okPair ops A x i || (x == h && (heads.contains i || heads.any (waits? A i)) && x != i && !edgeTo ops x i && !waits? A x i)
def okPairsX (ops : Array Oper) (A heads : List Nat) (h : Nat) : List Nat → Bool
  | [] => true
  | x :: rest => rest.all (okPairX ops A heads h x) && okPairsX ops A heads h rest
def okOrders (ops : Array Oper) (A heads : List Nat) (ords : List (Nat × List Nat)) : Bool :=
  (List.range ops.size).all (fun i => okMask ops A i && (calmAt ops i || heads.contains i || heads.any (waits? A i))) && heads.all (fun h => !calmAt ops h && ords.any fun p => p.1 == h) &&
  ords.all (fun p => heads.contains p.1 && (List.range ops.size).all (p.2.contains ·) && p.2.all (· < ops.size) && okPairsX ops A heads p.1 p.2) && !ords.isEmpty && Region.noSelect ops

theorem okPairsX_spec {A heads : List Nat} {h : Nat} : ∀ {ord : List Nat}, okPairsX ops A heads h ord = true → ord.Pairwise fun x i => okPairX ops A heads h x i = true
  | [], _ => .nil
  | x :: rest, hh => by
    simp only [okPairsX, Bool.and_eq_true, List.all_eq_true] at hh
    exact .cons hh.1 (okPairsX_spec hh.2)

theorem Still.same_value {S S' : World → Prop} {o : Oper} {v v' : Value} (h : Still P ops S o v a) (h' : Still P ops S' o v' a) (hS : S w) (hS' : S' w) : v' = v := by
  rcases h with ⟨hw, -, hv⟩ | ⟨hw, rfl⟩ <;> rcases h' with ⟨hw', -, hv'⟩ | ⟨hw', rfl⟩
  · have := (hv' w hS').symm.trans (hv w hS)
    simpa using this
  · rw [hw] at hw'; cases hw'
  · rw [hw] at hw'; cases hw'
  · rfl

theorem j_region_dls {rid : Nat} (A heads : List Nat) (ords : List (Nat × List Nat)) (S : World → Prop) (hm : P.follows .mixedOrders = true) (hok : okOrders ops A heads ords = true) (hQ : Loose Q) (hS : S w.drew)
    (h : ∀ p ∈ ords, Dl P X fn ops Q (tightAt P ops A p.2) p.2 S s a w.drew) : Wp P X fn (.region rid ops true) Q s a w := by
  simp only [okOrders, Bool.and_eq_true, List.all_eq_true, List.mem_range, Bool.not_eq_true'] at hok
  obtain ⟨⟨⟨⟨hall, hheads⟩, hords⟩, hne⟩, hns⟩ := hok
  have hsel := Region.noSelect_spec hns
  have hpw : ∀ p ∈ ords, p.2.Pairwise fun x i => okPairX ops A heads p.1 x i = true := fun p hp => okPairsX_spec (hords p hp).2
  have hokne : ∀ h x i, okPairX ops A heads h x i = true → x ≠ i := fun h x i hh => by
    simp only [okPairX, okPair, Bool.or_eq_true, Bool.and_eq_true, bne_iff_ne] at hh
    rcases hh with hh | hh
    · exact hh.1.1.1
    · exact hh.1.1.2
  have hokedge : ∀ h x i, okPairX ops A heads h x i = true → edgeTo ops x i = false := fun h x i hh => by
    simp only [okPairX, okPair, Bool.or_eq_true, Bool.and_eq_true, Bool.not_eq_true'] at hh
    rcases hh with hh | hh
    · exact hh.1.2
    · exact hh.1.2
  have hnd : ∀ p ∈ ords, p.2.Nodup := fun p hp => nodup_of_okPairs (hokne p.1) (hpw p hp)
  have hin : ∀ p ∈ ords, ∀ i, i < ops.size → i ∈ p.2 := fun p hp i hi => by simpa using (hords p hp).1.1.2 i hi
  have hout : ∀ p ∈ ords, ∀ i ∈ p.2, i < ops.size := fun p hp i hi => by simpa using (hords p hp).1.2 i hi
  have hmask : ∀ i, i < ops.size → okMask ops A i = true := fun i hi => (hall i hi).1
  refine j_region_inv (I := fun listed s a w => listed.size = ops.size ∧ (∀ i x, listed.getD i false = true → waits? A i x = true → listed.getD x false = true) ∧
    (((∀ h ∈ heads, listed.getD h false = false) ∧ ∀ p ∈ ords, ∃ S : World → Prop, S w ∧ Dl P X fn ops Q (tightAt P ops A p.2) (p.2.filter fun i => !listed.getD i false) S s a w) ∨
     (∃ p ∈ ords, listed.getD p.1 false = true ∧ ∃ S : World → Prop, S w ∧ Dl P X fn ops Q (tightAt P ops A p.2) (p.2.filter fun i => !listed.getD i false) S s a w))) hm ?_ ?_ ?_
  · refine ⟨by simp, down_none A, .inl ⟨fun h _ => ?_, fun p hp => ⟨S, hS, by rw [filter_none]; exact h p hp⟩⟩⟩
    rw [Array.getD_eq_getD_getElem?, Array.getElem?_replicate]
    split <;> rfl
  · rintro i o listed s a w ho hr ⟨hsz, hdown, hphase⟩
    obtain ⟨hun, o', ho', hafter⟩ := mem_ready.1 hr
    obtain rfl : o = o' := by rw [ho] at ho'; exact Option.some.inj ho'
    have hlt : i < ops.size := (Array.getElem?_eq_some_iff.1 ho).1
    have hltl : i < listed.size := by omega
    have hwait := waited ho (hmask i hlt) hafter hdown
    have hsz' : (listed.setIfInBounds i true).size = ops.size := by simp [hsz]
    have hdown' := down_step hltl hwait hdown
    have hself : (listed.setIfInBounds i true).getD i false = true := by simp [hltl]
    have hcalm : calmAt ops i = calm o.op := by unfold calmAt; rw [ho]
    have front : ∀ p ∈ ords, (∀ x ∈ p.2, okPairX ops A heads p.1 x i = true → listed.getD x false = false → okPair ops A x i = true) → ∀ S : World → Prop, S w → Dl P X fn ops Q (tightAt P ops A p.2) (p.2.filter fun i => !listed.getD i false) S s a w →
        Dl P X fn ops Q (tightAt P ops A p.2) (i :: p.2.filter fun j => !(listed.setIfInBounds i true).getD j false) S s a w := fun p hp hok S hS hdl =>
      Dl.ready hsel hQ ho (hin p hp i hlt) hltl (unlisted hltl hun) (hnd p hp) (fun pre post heq x hx hxu => by
        have hxo : x ∈ p.2 := by rw [heq]; exact List.mem_append_left _ hx
        exact okPair_spec (hout p hp x hxo) ho (hok x hxo (okPairs_before (hpw p hp) heq x hx) hxu) hxu hwait hxo) hS hdl
    rcases hphase with ⟨hnone, hdls⟩ | ⟨p, hp, hhead, S, hS, hdl⟩
    · by_cases hc : calm o.op = true
      · have hih : heads.contains i = false := by
          cases hb : heads.contains i with
          | false => rfl
          | true =>
            have := (hheads i (by simpa using hb)).1
            rw [hcalm, hc] at this
            cases this
        have hiw : heads.any (waits? A i) = false := by
          rw [List.any_eq_false]
          intro h hh hw
          have h1 := hwait h hw
          rw [hnone h hh] at h1
          cases h1
        have stills : ∀ p ∈ ords, ∃ S : World → Prop, S w ∧ ∃ v, Still P ops S o v a ∧ Dl P X fn ops Q (tightAt P ops A p.2) (p.2.filter fun j => !(listed.setIfInBounds i true).getD j false) S s (a.put o.dst v) w := fun p hp => by
          obtain ⟨S, hS, hdl⟩ := hdls p hp
          obtain ⟨o', ho', hf⟩ := front p hp (fun x _ hx _ => by
            simp only [okPairX, hih, hiw, Bool.and_false, Bool.false_and, Bool.or_false] at hx
            exact hx) S hS hdl
          obtain rfl : o = o' := by rw [ho] at ho'; exact Option.some.inj ho'
          rw [if_pos hc] at hf
          exact ⟨S, hS, hf⟩
        obtain ⟨p₀, hp₀⟩ : ∃ p, p ∈ ords := by
          cases ords with
          | nil => simp at hne
          | cons p _ => exact ⟨p, List.mem_cons_self ..⟩
        obtain ⟨S₀, hS₀, v, hv, _⟩ := stills p₀ hp₀
        refine hv.one hS₀ ⟨hsz', hdown', .inl ⟨fun h hh => ?_, fun p hp => ?_⟩⟩
        · have hne : i ≠ h := by rintro rfl; rw [show heads.contains i = true by simpa using hh] at hih; cases hih
          rw [getD_set_ne false hne]
          exact hnone h hh
        · obtain ⟨S, hS, v', hv', hd⟩ := stills p hp
          obtain rfl := hv.same_value hv' hS₀ hS
          exact ⟨S, hS, hd⟩
      · have hih : i ∈ heads := by
          have := (hall i hlt).2
          rw [hcalm] at this
          simp only [Bool.or_eq_true, hc, false_or, Bool.false_eq_true, List.any_eq_true] at this
          rcases this with this | ⟨h, hh, hw⟩
          · simpa using this
          · have h1 := hwait h hw
            rw [hnone h hh] at h1
            cases h1
        obtain ⟨p, hp, hpi⟩ : ∃ p ∈ ords, p.1 = i := by simpa using (hheads i hih).2
        obtain ⟨S, hS, hdl⟩ := hdls p hp
        obtain ⟨o', ho', hf⟩ := front p hp (fun x _ hx _ => by
          have h1 := hokne _ _ _ hx
          simp only [okPairX, Bool.or_eq_true, Bool.and_eq_true, beq_iff_eq] at hx
          rcases hx with hx | hx
          · exact hx
          · exact absurd (hx.1.1.1.1.trans hpi) h1) S hS hdl
        obtain rfl : o = o' := by rw [ho] at ho'; exact Option.some.inj ho'
        rw [if_neg hc] at hf
        exact One.mono hf fun s' a' w' ⟨S', hS', _, hd⟩ => ⟨hsz', hdown', .inr ⟨p, hp, by rw [hpi]; exact hself, S', hS', hd⟩⟩
    · obtain ⟨o', ho', hf⟩ := front p hp (fun x _ hx hxu => by
        simp only [okPairX, Bool.or_eq_true, Bool.and_eq_true, beq_iff_eq] at hx
        rcases hx with hx | hx
        · exact hx
        · rw [hx.1.1.1.1, hhead] at hxu; cases hxu) S hS hdl
      obtain rfl : o = o' := by rw [ho] at ho'; exact Option.some.inj ho'
      split at hf
      · obtain ⟨v, hv, hd⟩ := hf
        exact hv.one hS ⟨hsz', hdown', .inr ⟨p, hp, getD_set_true hhead, S, hS, hd⟩⟩
      · exact One.mono hf fun s' a' w' ⟨S', hS', _, hd⟩ => ⟨hsz', hdown', .inr ⟨p, hp, getD_set_true hhead, S', hS', hd⟩⟩
  · rintro listed s a w hnil ⟨hsz, hdown, hphase⟩
    have fin : ∀ p ∈ ords, ∀ S : World → Prop, Dl P X fn ops Q (tightAt P ops A p.2) (p.2.filter fun i => !listed.getD i false) S s a w → Q s .normal a w := fun p hp S hdl => by
      rw [all_up hsz hmask (hin p hp) (hout p hp) (hpw p hp) (hokedge p.1) hnil] at hdl
      exact hdl
    rcases hphase with ⟨_, hdls⟩ | ⟨p, hp, _, S, _, hdl⟩
    · obtain ⟨p₀, hp₀⟩ : ∃ p, p ∈ ords := by
        cases ords with
        | nil => simp at hne
        | cons p _ => exact ⟨p, List.mem_cons_self ..⟩
      obtain ⟨S, _, hdl⟩ := hdls p₀ hp₀
      exact fin p₀ hp₀ S hdl
    · exact fin p hp S hdl

/-! ### The moves -/

theorem dl_nil {tight : Nat → Bool} (h : Q s .normal a w) : Dl P X fn ops Q tight [] S s a w := h
theorem dl_calm {tight : Nat → Bool} {i : Nat} {rest : List Nat} {o : Oper} {v : Value} (ho : ops.toList[i]? = some o) (hc : calm o.op = true) (hw : Region.wanted o (yielded ops a.tmps) = true) (hO : Only P (fun _ => False) (execOp a.eval o))
    (hv : ∀ w, S w → (execOp a.eval o).run P w = .ok (.value v) w) (h : Dl P X fn ops Q tight rest S s (a.put o.dst v) w) : Dl P X fn ops Q tight (i :: rest) S s a w := by
  refine ⟨o, by rw [← Array.getElem?_toList]; exact ho, ?_⟩
  rw [if_pos hc]
  exact ⟨v, .inl ⟨hw, hO, hv⟩, h⟩
theorem dl_skip {tight : Nat → Bool} {i : Nat} {rest : List Nat} {o : Oper} (ho : ops.toList[i]? = some o) (hw : Region.wanted o (yielded ops a.tmps) = false) (hS : S w) (h : Dl P X fn ops Q tight rest S s (a.put o.dst undef) w) : Dl P X fn ops Q tight (i :: rest) S s a w := by
  refine ⟨o, by rw [← Array.getElem?_toList]; exact ho, ?_⟩
  split
  · exact ⟨undef, .inr ⟨hw, rfl⟩, h⟩
  · unfold One
    rw [if_neg (by simp [hw])]
    exact ⟨S, hS, fun _ => rfl, h⟩
theorem dl_do {tight : Nat → Bool} {i : Nat} {rest : List Nat} {o : Oper} (ho : ops.toList[i]? = some o) (hc : calm o.op = false)
    (h : One P X fn ops o Q (fun s' a' w' => ∃ S' : World → Prop, S' w' ∧ (tight i = false → S' = S) ∧ Dl P X fn ops Q tight rest S' s' a' w') s a w) : Dl P X fn ops Q tight (i :: rest) S s a w := by
  refine ⟨o, by rw [← Array.getElem?_toList]; exact ho, ?_⟩
  rw [if_neg (by simp [hc])]
  exact h
/-- An operation that is carried out at once, by its run: a store, an alloc. -/
theorem dl_act {tight : Nat → Bool} {i : Nat} {rest : List Nat} {o : Oper} (ho : ops.toList[i]? = some o) (hc : calm o.op = false) (hw : Region.wanted o (yielded ops a.tmps) = true) (hf : X.there s w → Fine P (X.oth s) fn o a w)
    (h : ∀ K : γ → Act → World → Prop, (∀ s' a' w', (∃ S' : World → Prop, S' w' ∧ (tight i = false → S' = S) ∧ Dl P X fn ops Q tight rest S' s' a' w') → K s' a' w') → Upon P X o a s K Q ((execOp a.eval o).run P w)) : Dl P X fn ops Q tight (i :: rest) S s a w := by
  refine dl_do ho hc ?_
  unfold One
  rw [if_pos hw]
  exact ⟨hf, h _ fun _ _ _ x => x⟩
theorem dl_call {tight : Nat → Bool} {i : Nat} {rest : List Nat} {o : Oper} {args : Array Operand} {ats : Array TypeId} {f : FuncId} {func : Func} {c : Code} (vals : Array Value) (ho : ops.toList[i]? = some o) (hop : o.op = .call { callee := .value (.func f), args, argTypes := ats }) (hw : Region.wanted o (yielded ops a.tmps) = true)
    (hv : args.map a.eval = vals) (hf : P.funcs[f]? = some func) (hname : (func.name == "runtime.NumGoroutine") = false) (hb : func.body = some c) {Post : γ → Came → World → Prop}
    (hd : Jdo P X f vals s w Post) (h : ∀ s' r w', Post s' r w' → match r with | .back v => ∃ S' : World → Prop, S' w' ∧ (tight i = false → S' = S) ∧ Dl P X fn ops Q tight rest S' s' (a.put o.dst v) w' | .threw ch => Q s' (.panic ch) a w') : Dl P X fn ops Q tight (i :: rest) S s a w :=
  dl_do ho (by rw [hop]; rfl) (one_call hop hw hv hf hname hb (hd.mono fun s' r w' p => by have := h s' r w' p; cases r <;> exact this))

/-! ### A condition that is known -/

theorem j_true {c : Operand} {x y : Code} (hc : a.eval c = .bool true) (h : Wp P X fn x Q s a w) : Wp P X fn (.cond c x y) Q s a w := j_cond true hc (fun _ => h) (fun e => nomatch e)
theorem j_false {c : Operand} {x y : Code} (hc : a.eval c = .bool false) (h : Wp P X fn y Q s a w) : Wp P X fn (.cond c x y) Q s a w := j_cond false hc (fun e => nomatch e) (fun _ => h)

/-! ### A number turned into another kind -/

def isInt : Option TypeDesc → Bool
  | some (.int _) => true
  | _ => false
theorem only_turn {W : Nat → Prop} {o : Oper} {ρ : Operand → Value} (x : Operand) (t u : TypeId) (ho : o.op = .convert t u x) (k : IntKind) (n : Int) (hx : ρ x = .int k n) (hu : isInt (P.underlying u) = true) : Only P W (execOp ρ o) := by
  cases hd : P.underlying u with
  | none => rw [hd] at hu; cases hu
  | some d =>
    rw [hd] at hu
    cases d <;> first | exact only_convert_int ho hx hd | cases hu

/-! ### Panics' ways out ask nothing of the slots -/

theorem loose_body {func : Func} {Post : γ → Came → World → Prop} : Loose (Body P func Post) := fun s ch a d v w h => by
  refine ⟨?_, h.2⟩
  have := h.1
  cases d <;> exact this
theorem loose_then {K : γ → Act → World → Prop} (h : Loose Q) : Loose (Then K Q) := fun s ch a d v w hh => h s ch a d v w hh
theorem loose_block {id : Nat} (h : Loose Q) : Loose (InBlock id Q) := fun s ch a d v w hh => h s ch a d v w hh
theorem loose_noGoto (h : Loose Q) : Loose (NoGoto Q) := fun s ch a d v w hh => h s ch a d v w hh
theorem loose_jump {l : Nat} {J : γ → Act → World → Prop} (h : Loose Q) : Loose (Jump l J Q) := fun s ch a d v w hh => h s ch a d v w hh
end
end Go.Proofs.YtgchailmcbifdaaDoor.Jay
