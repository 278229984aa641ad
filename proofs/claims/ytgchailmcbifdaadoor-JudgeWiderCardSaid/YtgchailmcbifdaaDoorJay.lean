/- A walk of one goroutine in a machine of coroutines: its own steps, what they may touch, and the places where the turn is handed over. No program in sight. -/
import Derived.Conc.Company
import Derived.Conc.DeferLaws
import Derived.ScopeJumps
import Derived.Orders
namespace Go.Proofs.YtgchailmcbifdaaDoor.Jay
open Go Go.Conc

/-! ### What a step may list -/

/-- One entry: a plain touch, no write of what is another's; of marks 'noRoom' and 'take it that I write here' alone. -/
def EvOk (oth : Nat → Prop) (e : Event) : Prop :=
  match e.loc with
  | .cell a => e.sync = false ∧ (e.write = true → ¬ oth a.block)
  | .obj r => e.write = true → ¬ oth r
  | .mark m => m = .noRoom ∨ ∃ a, m = .write a ∧ ¬ oth a.block
  | _ => False

structure Okay (oth : Nat → Prop) (w w' : World) (es : Array Event) : Prop where
  evs : ∀ e ∈ es, EvOk oth e
  same : ∀ b, oth b → w'.heap[b]? = w.heap[b]?
  size : w.heap.size ≤ w'.heap.size

theorem Okay.idle {oth : Nat → Prop} (w : World) : Okay oth w w #[] := ⟨by simp, fun _ _ => rfl, Nat.le_refl _⟩

/-- What is held of the turns: what is another's, and where the turn may be handed over, and how it comes back. -/
structure Turns (γ : Type) where
  oth : γ → Nat → Prop
  sw : γ → Frame → List Frame → World → (γ → Frame → List Frame → World → Prop) → Prop

/-- What is another's is there. -/
def Turns.there {γ : Type} (X : Turns γ) (s : γ) (w : World) : Prop := ∀ b, X.oth s b → b < w.heap.size

theorem Okay.there {γ : Type} {X : Turns γ} {s : γ} {w w' : World} {es : Array Event} (h : Okay (X.oth s) w w' es) (ht : X.there s w) : X.there s w' := fun b hb => Nat.lt_of_lt_of_le (ht b hb) h.size

inductive Reach (P : Program) {γ : Type} (X : Turns γ) (Stop : γ → Frame → List Frame → World → Prop) : γ → Frame → List Frame → World → Prop
  | stop {s fr cs w} : Stop s fr cs w → Reach P X Stop s fr cs w
  | step {s fr cs w fr' cs' w' es} : (∀ main, stepG P main (G fr cs) w = .go (G fr' cs') w' es) → Okay (X.oth s) w w' es → Reach P X Stop s fr' cs' w' → Reach P X Stop s fr cs w
  | turn {s fr cs w σ} : X.sw s fr cs w σ → (∀ s' fr' cs' w', σ s' fr' cs' w' → Reach P X Stop s' fr' cs' w') → Reach P X Stop s fr cs w

section
variable {P : Program} {γ : Type} {X : Turns γ} {Stop : γ → Frame → List Frame → World → Prop}

theorem Reach.idle {s : γ} {fr fr' : Frame} {cs cs' : List Frame} {w : World} (h : ∀ main, stepG P main (G fr cs) w = .go (G fr' cs') w) (hr : Reach P X Stop s fr' cs' w) : Reach P X Stop s fr cs w :=
  .step (es := #[]) h (Okay.idle w) hr

theorem Reach.bind {Stop' : γ → Frame → List Frame → World → Prop} {s : γ} {fr : Frame} {cs : List Frame} {w : World} (h : Reach P X Stop s fr cs w) (hk : ∀ s fr cs w, Stop s fr cs w → Reach P X Stop' s fr cs w) : Reach P X Stop' s fr cs w := by
  induction h with
  | stop h => exact hk _ _ _ _ h
  | step h1 h2 _ ih => exact .step h1 h2 ih
  | turn h1 _ ih => exact .turn h1 ih

/-- Where the walk goes on behind a piece of code that is left by this way out. -/
def After (P : Program) (X : Turns γ) (Stop : γ → Frame → List Frame → World → Prop) (b : Frame) (k : List Item) (cs : List Frame) (s : γ) : Exit → Act → World → Prop
  | .normal, a, w => Reach P X Stop s (b.at a k) cs w
  | .exit id, a, w => ∃ k', exitTo id k = some k' ∧ Reach P X Stop s (b.at a k') cs w
  | .goto l, a, w => ∃ k', gotoIn l k = some k' ∧ Reach P X Stop s (b.at a k') cs w
  | .ret, a, w => ∀ todo, Reach P X Stop s { b.at a todo with mode := .returning } cs w
  | .panic ch, a, w => ∀ todo, Reach P X Stop s { b.at a todo with mode := .panicking ch } cs w
  | .outgrown, _, _ => False

/-- A way out other than the normal one passes a plain item. -/
theorem After.push {b : Frame} {x : Item} {k : List Item} {cs : List Frame} {s : γ} {e : Exit} {a : Act} {w : World} (hx : x.plain = true) (he : e ≠ .normal)
    (h : After P X Stop b k cs s e a w) : After P X Stop b (x :: k) cs s e a w := by
  cases e with
  | normal => exact absurd rfl he
  | exit id => obtain ⟨k', hk, hg⟩ := h; exact ⟨k', by cases x <;> simp_all [exitTo, Item.plain], hg⟩
  | goto l => obtain ⟨k', hk, hg⟩ := h; exact ⟨k', by cases x <;> simp_all [gotoIn, Item.plain], hg⟩
  | ret => exact h
  | panic ch => exact h
  | outgrown => exact h
end

/-- THE JUDGEMENT of a piece of code of function 'fn'. -/
def Wp (P : Program) {γ : Type} (X : Turns γ) (fn : FuncId) (c : Code) (Q : γ → Exit → Act → World → Prop) (s : γ) (a : Act) (w : World) : Prop :=
  ∀ (Stop : γ → Frame → List Frame → World → Prop) (b : Frame) (k : List Item) (cs : List Frame), b.fn = fn → b.kind ≠ .early →
    (∀ s' e a' w', Q s' e a' w' → X.there s' w' → After P X Stop b k cs s' e a' w') → X.there s w → Reach P X Stop s (b.at a (.code c :: k)) cs w

/-- The same of the operations of a region that are still to come, in this order. -/
def Ops (P : Program) {γ : Type} (X : Turns γ) (fn : FuncId) (ops : Array Oper) (Q : γ → Exit → Act → World → Prop) (todo : List Nat) (s : γ) (a : Act) (w : World) : Prop :=
  ∀ (Stop : γ → Frame → List Frame → World → Prop) (b : Frame) (k : List Item) (cs : List Frame), b.fn = fn → b.kind ≠ .early →
    (∀ s' e a' w', Q s' e a' w' → X.there s' w' → After P X Stop b k cs s' e a' w') → X.there s w → Reach P X Stop s (b.at a (.inRegion ops todo :: k)) cs w

/-- Behind a call. -/
inductive Came where
  | back (v : Value)
  | threw (ch : List PanicEntry)

/-- A CONTRACT: the function is entered by an ordinary call, with these arguments. -/
def Jdo (P : Program) {γ : Type} (X : Turns γ) (f : FuncId) (args : Array Value) (s : γ) (w : World) (Post : γ → Came → World → Prop) : Prop :=
  ∀ (Stop : γ → Frame → List Frame → World → Prop) (c : Frame) (cs : List Frame),
    (∀ s' r w', Post s' r w' → X.there s' w' → match r with
      | .back v => Reach P X Stop s' (c.finish v) cs w'
      | .threw ch => Reach P X Stop s' (c.raise ch) cs w') →
    X.there s w → Reach P X Stop s (Frame.enter P f args .normal) (c :: cs) w

section rules
variable {P : Program} {γ : Type} {X : Turns γ} {fn : FuncId} {Q Q' : γ → Exit → Act → World → Prop} {s : γ} {a : Act} {w : World}

theorem Wp.mono {c : Code} (h : Wp P X fn c Q s a w) (hq : ∀ s e a w, Q s e a w → Q' s e a w) : Wp P X fn c Q' s a w :=
  fun Stop b k cs hb hk hc => h Stop b k cs hb hk fun s' e a' w' q => hc s' e a' w' (hq s' e a' w' q)
theorem Wp.there {c : Code} (h : X.there s w → Wp P X fn c Q s a w) : Wp P X fn c Q s a w := fun Stop b k cs hb hk hc ht => h ht Stop b k cs hb hk hc ht
theorem Jdo.mono {f : FuncId} {args : Array Value} {Post Post' : γ → Came → World → Prop} (h : Jdo P X f args s w Post) (hp : ∀ s r w, Post s r w → Post' s r w) : Jdo P X f args s w Post' :=
  fun Stop c cs hc => h Stop c cs fun s' r w' p => hc s' r w' (hp s' r w' p)
theorem Jdo.there {f : FuncId} {args : Array Value} {Post : γ → Came → World → Prop} (h : X.there s w → Jdo P X f args s w Post) : Jdo P X f args s w Post := fun Stop c cs hc ht => h ht Stop c cs hc ht

theorem j_skip (h : Q s .normal a w) : Wp P X fn .skip Q s a w := fun _ _ _ _ _ _ hc ht => .idle (fun _ => stepG_skip) (hc _ _ _ _ h ht)
theorem j_label {l : Nat} (h : Q s .normal a w) : Wp P X fn (.label l) Q s a w := fun _ _ _ _ _ _ hc ht => .idle (fun _ => stepG_label) (hc _ _ _ _ h ht)
theorem j_ret (h : Q s .ret a w) : Wp P X fn .ret Q s a w := fun _ _ _ _ _ _ hc ht => .idle (fun _ => stepG_ret') (hc _ _ _ _ h ht _)
theorem j_exit {id : Nat} (h : Q s (.exit id) a w) : Wp P X fn (.exit id) Q s a w := fun _ _ _ _ _ _ hc ht => by
  obtain ⟨k', hk', hg⟩ := hc _ _ _ _ h ht
  exact .idle (fun _ => stepG_exit hk') hg
theorem stepG_goto {main : Bool} {b : Frame} {k : List Item} {cs : List Frame} {l : Nat} {k' : List Item} (h : gotoIn l k = some k') : stepG P main (G (b.at a (.code (.goto l) :: k)) cs) w = .go (G (b.at a k') cs) w := by simp [G, stepG, stepG.exec, Frame.at, h]
theorem stepG_scope {main : Bool} {b : Frame} {k : List Item} {cs : List Frame} {c : Code} : stepG P main (G (b.at a (.code (.scope c) :: k)) cs) w = .go (G (b.at a (.code c :: .inScope c :: k)) cs) w := by simp [G, stepG, stepG.exec, Frame.at]
theorem stepG_inScope {main : Bool} {b : Frame} {k : List Item} {cs : List Frame} {c : Code} : stepG P main (G (b.at a (.inScope c :: k)) cs) w = .go (G (b.at a k) cs) w := by simp [G, stepG, stepG.exec, Frame.at]
theorem j_goto {l : Nat} (h : Q s (.goto l) a w) : Wp P X fn (.goto l) Q s a w := fun _ _ _ _ _ _ hc ht => by
  obtain ⟨k', hk', hg⟩ := hc _ _ _ _ h ht
  exact .idle (fun _ => stepG_goto hk') hg

/-- What is asked behind the first of two. -/
def Then (K : γ → Act → World → Prop) (Q : γ → Exit → Act → World → Prop) (s : γ) : Exit → Act → World → Prop
  | .normal, a, w => K s a w
  | e, a, w => Q s e a w
/-- What is asked inside a block. -/
def InBlock (id : Nat) (Q : γ → Exit → Act → World → Prop) (s : γ) : Exit → Act → World → Prop
  | .exit id', a, w => if id' = id then Q s .normal a w else Q s (.exit id') a w
  | e, a, w => Q s e a w

theorem j_seq {x y : Code} (h : Wp P X fn x (Then (Wp P X fn y Q) Q) s a w) : Wp P X fn (.seq x y) Q s a w := by
  intro Stop b k cs hb hk hc ht
  refine .idle (fun _ => stepG_seq) (h Stop b (.code y :: k) cs hb hk (fun s' e a' w' q ht' => ?_) ht)
  cases e with
  | normal => exact q Stop b k cs hb hk hc ht'
  | exit id => exact (hc _ _ _ _ q ht').push rfl (by simp)
  | goto l => exact (hc _ _ _ _ q ht').push rfl (by simp)
  | ret => exact (hc _ _ _ _ q ht').push (x := .code y) rfl (by simp)
  | panic ch => exact (hc _ _ _ _ q ht').push (x := .code y) rfl (by simp)
  | outgrown => exact (hc _ _ _ _ q ht')

/-- A CUT: what holds between the two is said once. -/
theorem j_seq_mid {x y : Code} (M : γ → Act → World → Prop) (hx : Wp P X fn x (Then M Q) s a w) (hy : ∀ s' a' w', M s' a' w' → Wp P X fn y Q s' a' w') : Wp P X fn (.seq x y) Q s a w :=
  j_seq (hx.mono fun s' e a' w' q => by cases e <;> first | exact hy _ _ _ q | exact q)

theorem j_cond {c : Operand} {x y : Code} (t : Bool) (hc : a.eval c = .bool t) (ht : t = true → Wp P X fn x Q s a w) (hf : t = false → Wp P X fn y Q s a w) : Wp P X fn (.cond c x y) Q s a w := by
  intro Stop b k cs hb hk hq th
  cases t with
  | true => exact .idle (fun _ => stepG_cond hc) (ht rfl Stop b k cs hb hk hq th)
  | false => exact .idle (fun _ => stepG_cond hc) (hf rfl Stop b k cs hb hk hq th)

theorem j_block {id : Nat} {c : Code} (h : Wp P X fn c (InBlock id Q) s a w) : Wp P X fn (.block id c) Q s a w := by
  intro Stop b k cs hb hk hc ht
  refine .idle (fun _ => stepG_block) (h Stop b (.inBlock id :: k) cs hb hk (fun s' e a' w' q ht' => ?_) ht)
  cases e with
  | normal => exact .idle (fun _ => stepG_inBlock) (hc _ _ _ _ q ht')
  | exit id' =>
    by_cases hid : id' = id
    · simp only [InBlock, hid, if_true] at q
      exact ⟨k, by simp [exitTo, hid], hc _ _ _ _ q ht'⟩
    · simp only [InBlock, hid, if_false] at q
      obtain ⟨k', hk', hg⟩ := hc _ _ _ _ q ht'
      have : (id == id') = false := by simp; exact fun h => hid h.symm
      exact ⟨k', by simp [exitTo, this, hk'], hg⟩
  | goto l => obtain ⟨k', hk', hg⟩ := hc _ _ _ _ q ht'; exact ⟨k', by simp [gotoIn, hk'], hg⟩
  | ret => exact hc _ _ _ _ q ht'
  | panic ch => exact hc _ _ _ _ q ht'
  | outgrown => exact hc _ _ _ _ q ht'

/-- A LOOP: an invariant I, a measure that every round lowers. -/
theorem j_loop {c : Code} (I : γ → Act → World → Prop) (μ : γ → Act → World → Nat) (h₀ : I s a w)
    (round : ∀ s a w, I s a w → Wp P X fn c (Then (fun s' a' w' => I s' a' w' ∧ μ s' a' w' < μ s a w) Q) s a w) : Wp P X fn (.loop c) Q s a w := by
  intro Stop b k cs hb hk hc ht
  have key : ∀ n s a w, μ s a w = n → I s a w → X.there s w → Reach P X Stop s (b.at a (.code c :: .inLoop c :: k)) cs w := by
    intro n
    induction n using Nat.strongRecOn with
    | _ n ih =>
      intro s a w hμ hI ht
      refine round s a w hI Stop b (.inLoop c :: k) cs hb hk (fun s' e a' w' q ht' => ?_) ht
      cases e with
      | normal => exact .idle (fun _ => stepG_inLoop) (ih _ (hμ ▸ q.2) s' a' w' rfl q.1 ht')
      | exit id => exact (hc _ _ _ _ q ht').push rfl (by simp)
      | goto l => exact (hc _ _ _ _ q ht').push rfl (by simp)
      | ret => exact (hc _ _ _ _ q ht').push (x := .inLoop c) rfl (by simp)
      | panic ch => exact (hc _ _ _ _ q ht').push (x := .inLoop c) rfl (by simp)
      | outgrown => exact hc _ _ _ _ q ht'
  exact .idle (fun _ => stepG_loop) (key _ s a w rfl h₀ ht)

/-- A SCOPE through which the run goes without a goto. -/
def NoGoto (Q : γ → Exit → Act → World → Prop) (s : γ) : Exit → Act → World → Prop
  | .goto _, _, _ => False
  | e, a, w => Q s e a w
theorem j_scope_straight {c : Code} (h : Wp P X fn c (NoGoto Q) s a w) : Wp P X fn (.scope c) Q s a w := by
  intro Stop b k cs hb hk hc ht
  refine .idle (fun _ => stepG_scope) (h Stop b (.inScope c :: k) cs hb hk (fun s' e a' w' q ht' => ?_) ht)
  cases e with
  | normal => exact .idle (fun _ => stepG_inScope) (hc _ _ _ _ q ht')
  | exit id => obtain ⟨k', hk', hg⟩ := hc _ _ _ _ q ht'; exact ⟨k', by simp [exitTo, hk'], hg⟩
  | goto l => exact q.elim
  | ret => exact hc _ _ _ _ q ht'
  | panic ch => exact hc _ _ _ _ q ht'
  | outgrown => exact hc _ _ _ _ q ht'
/-- A SCOPE in which the run jumps back to one label. -/
def Jump (l : Nat) (J : γ → Act → World → Prop) (Q : γ → Exit → Act → World → Prop) (s : γ) : Exit → Act → World → Prop
  | .goto l', a, w => l' = l ∧ J s a w
  | e, a, w => Q s e a w
theorem j_scope_jumps {c rest : Code} (l : Nat) (J : γ → Act → World → Prop) (μ : γ → Act → World → Nat) (hf : findLabel c l = some rest)
    (first : Wp P X fn c (Jump l J Q) s a w) (pass : ∀ s a w, J s a w → Wp P X fn rest (Jump l (fun s' a' w' => J s' a' w' ∧ μ s' a' w' < μ s a w) Q) s a w) : Wp P X fn (.scope c) Q s a w := by
  intro Stop b k cs hb hk hc ht
  have hg : gotoIn l (.inScope c :: k) = some (.code rest :: .inScope c :: k) := by simp [gotoIn, hf]
  have key : ∀ n s a w, μ s a w = n → J s a w → X.there s w → Reach P X Stop s (b.at a (.code rest :: .inScope c :: k)) cs w := by
    intro n
    induction n using Nat.strongRecOn with
    | _ n ih =>
      intro s a w hn hJ ht
      refine pass s a w hJ Stop b (.inScope c :: k) cs hb hk (fun s' e a' w' q ht' => ?_) ht
      cases e with
      | normal => exact .idle (fun _ => stepG_inScope) (hc _ _ _ _ q ht')
      | exit id => obtain ⟨k', hk', hg⟩ := hc _ _ _ _ q ht'; exact ⟨k', by simp [exitTo, hk'], hg⟩
      | goto l' => obtain ⟨rfl, hJ', hlt⟩ := q; exact ⟨_, hg, ih _ (hn ▸ hlt) s' a' w' rfl hJ' ht'⟩
      | ret => exact hc _ _ _ _ q ht'
      | panic ch => exact hc _ _ _ _ q ht'
      | outgrown => exact hc _ _ _ _ q ht'
  refine .idle (fun _ => stepG_scope) (first Stop b (.inScope c :: k) cs hb hk (fun s' e a' w' q ht' => ?_) ht)
  cases e with
  | normal => exact .idle (fun _ => stepG_inScope) (hc _ _ _ _ q ht')
  | exit id => obtain ⟨k', hk', hg⟩ := hc _ _ _ _ q ht'; exact ⟨k', by simp [exitTo, hk'], hg⟩
  | goto l' => obtain ⟨rfl, hJ'⟩ := q; exact ⟨_, hg, key _ s' a' w' rfl hJ' ht'⟩
  | ret => exact hc _ _ _ _ q ht'
  | panic ch => exact hc _ _ _ _ q ht'
  | outgrown => exact hc _ _ _ _ q ht'

/-! ### Regions -/

theorem j_region {id : Nat} {ops : Array Oper} (h : Ops P X fn ops Q (List.range ops.size) s a w) : Wp P X fn (.region id ops false) Q s a w :=
  fun Stop b k cs hb hk hc ht => .idle (fun _ => stepG_region) (h Stop b k cs hb hk hc ht)

theorem j_region_draw {id : Nat} {ops : Array Oper} (h : ∀ t, Ops P X fn ops Q (Region.schedule (P.follows .mixedOrders) ops t) s a w.drew) : Wp P X fn (.region id ops true) Q s a w := by
  intro Stop b k cs hb hk hc ht
  have ho : ∀ main, stepG P main (G (b.at a (.code (.region id ops true) :: k)) cs) w = .go (G (b.at a (.inRegion ops (Region.schedule (P.follows .mixedOrders) ops (Question.cut (.order b.fn id) (w.tape w.drawn (.order b.fn id)))) :: k)) cs) w.drew := by
    intro main
    simp only [G, stepG, stepG.exec, Frame.at, Bool.not_true, Bool.false_eq_true, if_false, choose, Sem.run, Question.forced]
    rfl
  exact .step (es := #[]) ho ⟨by simp, fun _ _ => rfl, Nat.le_refl _⟩ (h _ Stop b k cs hb hk hc ht)

theorem ops_nil {ops : Array Oper} (h : Q s .normal a w) : Ops P X fn ops Q [] s a w := fun _ _ _ _ _ _ hc ht => .idle (fun _ => stepG_region_end) (hc _ _ _ _ h ht)

/-- What is asked once an operation has come to this. -/
def Upon (P : Program) {γ : Type} (X : Turns γ) (o : Oper) (a : Act) (s : γ) (K : γ → Act → World → Prop) (Q : γ → Exit → Act → World → Prop) : Result Next → Prop
  | .ok (.value v) w' => K s (a.put o.dst v) w'
  | .ok .skip w' => K s (a.put o.dst undef) w'
  | .ok (.defer d) w' => K s (Act.put { a with defers := d :: a.defers } o.dst undef) w'
  | .ok (.enter f args) w' => Jdo P X f args s w' fun s' r w'' => match r with
      | .back v => K s' (a.put o.dst v) w''
      | .threw ch => Q s' (.panic ch) a w''
  | .halt (.panic v) w' => Q s (.panic [{ v, recovered := false }]) a w'
  | _ => False

theorem Upon.mono {o : Oper} {K K' : γ → Act → World → Prop} {r : Result Next} (h : Upon P X o a s K Q r) (hk : ∀ s a w, K s a w → K' s a w) : Upon P X o a s K' Q r := by
  match r, h with
  | .ok (.value v) w', h => exact hk _ _ _ h
  | .ok .skip w', h => exact hk _ _ _ h
  | .ok (.defer d) w', h => exact hk _ _ _ h
  | .ok (.enter f args) w', h => exact Jdo.mono h fun s' r w'' p => by cases r <;> first | exact hk _ _ _ p | exact p
  | .halt (.panic v) w', h => exact h

/-- The world behind an operation. -/
def worldOf {α : Type} : Result α → World
  | .ok _ w => w
  | .halt _ w => w

def Fine (P : Program) (oth : Nat → Prop) (fn : FuncId) (o : Oper) (a : Act) (w : World) : Prop :=
  Okay oth w (worldOf ((execOp a.eval o).run P w)) (listed P fn a o w)

theorem stepG_panicked {main : Bool} {b : Frame} {k : List Item} {cs : List Frame} {ops : Array Oper} {i : Nat} {rest : List Nat} {o : Oper} {v : Value} {w' : World} (ho : ops[i]? = some o) (hw : Region.wanted o (yielded ops a.tmps) = true)
    (hk : b.kind ≠ .early) (hr : (execOp a.eval o).run P w = .halt (.panic v) w') :
    stepG P main (G (b.at a (.inRegion ops (i :: rest) :: k)) cs) w = .go (G { b.at a (.inRegion ops (i :: rest) :: k) with mode := .panicking [{ v, recovered := false }] } cs) w' (listed P b.fn a o w) := by
  have hk' : (b.kind == CallKind.early) = false := by simpa using hk
  rw [stepG_oper ho hw]
  simp [stepG.apply, hr, G, Frame.at, hk', GStep.after, listed, Frame.raise]

theorem stepG_deferred {main : Bool} {b : Frame} {k : List Item} {cs : List Frame} {ops : Array Oper} {i : Nat} {rest : List Nat} {o : Oper} {d : Deferred} {w' : World} (ho : ops[i]? = some o) (hw : Region.wanted o (yielded ops a.tmps) = true)
    (hk : b.kind ≠ .early) (hr : (execOp a.eval o).run P w = .ok (.defer d) w') :
    stepG P main (G (b.at a (.inRegion ops (i :: rest) :: k)) cs) w = .go (G (b.at (Act.put { a with defers := d :: a.defers } o.dst undef) (.inRegion ops rest :: k)) cs) w' (listed P b.fn a o w) := by
  have hfin : (b.at { a with defers := d :: a.defers } (.inRegion ops (i :: rest) :: k)).finish undef = b.at (Act.put { a with defers := d :: a.defers } o.dst undef) (.inRegion ops rest :: k) := by rw [Frame.finish_at, ho]; rfl
  have hk' : (b.kind == CallKind.early) = false := by simpa using hk
  rw [stepG_oper ho hw, ← hfin]
  simp [stepG.apply, hr, G, Frame.at, hk', GStep.after, listed]

/-- ONE OPERATION. -/
theorem ops_cons {ops : Array Oper} {i : Nat} {rest : List Nat} {o : Oper} (ho : ops[i]? = some o) (hw : Region.wanted o (yielded ops a.tmps) = true) (hf : X.there s w → Fine P (X.oth s) fn o a w)
    (h : Upon P X o a s (Ops P X fn ops Q rest) Q ((execOp a.eval o).run P w)) : Ops P X fn ops Q (i :: rest) s a w := by
  intro Stop b k cs hb hk hc ht
  replace hf := hf ht
  unfold Fine at hf
  subst hb
  generalize hr : (execOp a.eval o).run P w = r at h hf
  match r, h with
  | .ok (.value v) w', h => exact .step (fun _ => stepG_value ho hw hk hr) hf (h Stop b k cs rfl hk hc (hf.there ht))
  | .ok .skip w', h => exact .step (fun _ => stepG_none ho hw hk hr) hf (h Stop b k cs rfl hk hc (hf.there ht))
  | .ok (.defer d) w', h => exact .step (fun _ => stepG_deferred ho hw hk hr) hf (h Stop b k cs rfl hk hc (hf.there ht))
  | .ok (.enter f args) w', h =>
    refine .step (fun _ => stepG_enter ho hw hk hr) hf (h Stop _ cs (fun s' r w'' p ht' => ?_) (hf.there ht))
    cases r with
    | back v =>
      have hfin : (b.at a (.inRegion ops (i :: rest) :: k)).finish v = b.at (a.put o.dst v) (.inRegion ops rest :: k) := by rw [Frame.finish_at, ho]; rfl
      simp only [hfin]
      exact p Stop b k cs rfl hk hc ht'
    | threw ch => exact hc _ _ _ _ p ht' _
  | .halt (.panic v) w', h => exact .step (fun _ => stepG_panicked ho hw hk hr) hf (hc _ _ _ _ h (hf.there ht) _)

theorem ops_unwanted {ops : Array Oper} {i : Nat} {rest : List Nat} {o : Oper} (ho : ops[i]? = some o) (hw : Region.wanted o (yielded ops a.tmps) = false)
    (h : Ops P X fn ops Q rest s (a.put o.dst undef) w) : Ops P X fn ops Q (i :: rest) s a w :=
  fun Stop b k cs hb hk hc ht => .idle (fun _ => stepG_unwanted ho hw) (h Stop b k cs hb hk hc ht)

/-- One operation that comes up, wanted or not. -/
def One (P : Program) {γ : Type} (X : Turns γ) (fn : FuncId) (ops : Array Oper) (o : Oper) (Q : γ → Exit → Act → World → Prop) (K : γ → Act → World → Prop) (s : γ) (a : Act) (w : World) : Prop :=
  if Region.wanted o (yielded ops a.tmps) = true then (X.there s w → Fine P (X.oth s) fn o a w) ∧ Upon P X o a s K Q ((execOp a.eval o).run P w) else K s (a.put o.dst undef) w

theorem One.mono {ops : Array Oper} {o : Oper} {K K' : γ → Act → World → Prop} (h : One P X fn ops o Q K s a w) (hk : ∀ s a w, K s a w → K' s a w) : One P X fn ops o Q K' s a w := by
  unfold One at *
  split
  · rename_i hw; rw [if_pos hw] at h; exact ⟨h.1, h.2.mono hk⟩
  · rename_i hw; rw [if_neg hw] at h; exact hk _ _ _ h

theorem ops_one {ops : Array Oper} {i : Nat} {rest : List Nat} {o : Oper} (ho : ops[i]? = some o) (h : One P X fn ops o Q (Ops P X fn ops Q rest) s a w) : Ops P X fn ops Q (i :: rest) s a w := by
  unfold One at h
  split at h
  · rename_i hw; exact ops_cons ho hw h.1 h.2
  · rename_i hw; exact ops_unwanted ho (by simpa using hw) h

/-- The operations of a region that are still to come, in the text's order, as a list. -/
def Lst (P : Program) {γ : Type} (X : Turns γ) (fn : FuncId) (ops : Array Oper) (Q : γ → Exit → Act → World → Prop) : List Oper → γ → Act → World → Prop
  | [], s, a, w => Q s .normal a w
  | o :: rest, s, a, w => One P X fn ops o Q (Lst P X fn ops Q rest) s a w

theorem ops_of_lst {ops : Array Oper} (l : List Oper) : ∀ (k : Nat) (s : γ) (a : Act) (w : World), (∀ j, l[j]? = ops[k + j]?) → Lst P X fn ops Q l s a w → Ops P X fn ops Q (List.range' k l.length) s a w := by
  induction l with
  | nil => exact fun k s a w _ h => ops_nil h
  | cons o l ih =>
    intro k s a w h hl
    have h0 : ops[k]? = some o := by simpa using (h 0).symm
    rw [List.length_cons, List.range'_succ]
    exact ops_one h0 (One.mono hl fun s a w hx => ih (k + 1) s a w (fun j => by have := h (j + 1); simpa [Nat.add_assoc, Nat.add_comm 1 j] using this) hx)

theorem j_region_lit {id : Nat} {l : List Oper} (h : Lst P X fn l.toArray Q l s a w) : Wp P X fn (.region id l.toArray false) Q s a w := by
  refine j_region ?_
  have := ops_of_lst (ops := l.toArray) l 0 s a w (by simp) h
  rwa [← List.range_eq_range'] at this

theorem lst_nil {ops : Array Oper} (h : Q s .normal a w) : Lst P X fn ops Q [] s a w := h
/-- A wanted operation, what follows behind a variable. -/
theorem lst_cons {ops : Array Oper} {o : Oper} {rest : List Oper} (hw : Region.wanted o (yielded ops a.tmps) = true) (hf : X.there s w → Fine P (X.oth s) fn o a w)
    (h : ∀ K : γ → Act → World → Prop, (∀ s a w, Lst P X fn ops Q rest s a w → K s a w) → Upon P X o a s K Q ((execOp a.eval o).run P w)) : Lst P X fn ops Q (o :: rest) s a w := by
  show One P X fn ops o Q _ s a w
  unfold One
  rw [if_pos hw]
  exact ⟨hf, h _ fun _ _ _ x => x⟩
theorem lst_unwanted {ops : Array Oper} {o : Oper} {rest : List Oper} (hw : Region.wanted o (yielded ops a.tmps) = false) (h : Lst P X fn ops Q rest s (a.put o.dst undef) w) : Lst P X fn ops Q (o :: rest) s a w := by
  show One P X fn ops o Q _ s a w
  unfold One
  rw [if_neg (by simp [hw])]
  exact h

/-! ### A region whose order is drawn: an invariant over what has come up -/

theorem linearise_acc (md : Region.Mode) (ops : Array Oper) : ∀ (fuel t : Nat) (listed : Array Bool) (acc : List Nat),
    Region.linearise.go md ops fuel t listed acc = acc.reverse ++ Region.linearise.go md ops fuel t listed [] := linearise_go_acc md ops

theorem count_set (l : List Bool) : ∀ i, l[i]? = some false → ((l.set i true).filter id).length = (l.filter id).length + 1 := by
  induction l with
  | nil => intro i h; simp at h
  | cons x l ih =>
    intro i h
    cases i with
    | zero => simp at h; subst h; simp
    | succ i =>
      have := ih i (by simpa using h)
      cases x <;> simp [this]
theorem all_true (l : List Bool) (h : (l.filter id).length = l.length) (j : Nat) (hj : j < l.length) : l[j]? = some true := by
  have := List.length_filter_eq_length_iff.1 h l[j] (List.getElem_mem hj)
  rw [List.getElem?_eq_getElem hj]
  simpa using this

/-- Each operation, whenever it comes up, keeps the invariant: then the region does, whatever order is drawn. -/
theorem j_region_inv {rid : Nat} {ops : Array Oper} (I : Array Bool → γ → Act → World → Prop) (hm : P.follows .mixedOrders = true)
    (h0 : I (Array.replicate ops.size false) s a w.drew)
    (hstep : ∀ (i : Nat) (o : Oper) (listed : Array Bool) (s : γ) (a : Act) (w : World), ops[i]? = some o → i ∈ Region.ready .any ops listed → I listed s a w → One P X fn ops o Q (I (listed.setIfInBounds i true)) s a w)
    (hend : ∀ (listed : Array Bool) (s : γ) (a : Act) (w : World), Region.ready .any ops listed = [] → I listed s a w → Q s .normal a w) : Wp P X fn (.region rid ops true) Q s a w := by
  refine j_region_draw fun t => ?_
  simp only [Region.schedule, hm, Bool.true_or, if_true]
  unfold Region.linearise
  have key : ∀ (fuel t : Nat) (listed : Array Bool) (s : γ) (a : Act) (w : World), (fuel = 0 → Region.ready .any ops listed = []) → ops.size ≤ fuel + (listed.toList.filter id).length → listed.size = ops.size → I listed s a w →
      Ops P X fn ops Q (Region.linearise.go .any ops fuel t listed []) s a w := by
    intro fuel
    induction fuel with
    | zero => intro t listed s a w hz _ _ hI; simp only [Region.linearise.go, List.reverse_nil]; exact ops_nil (hend _ _ _ _ (hz rfl) hI)
    | succ fuel ih =>
      intro t listed s a w _ hcount hsz hI
      simp only [Region.linearise.go]
      change Ops P X fn ops Q (match (Region.ready .any ops listed)[t % (Region.ready .any ops listed).length]? with
        | some i => Region.linearise.go .any ops fuel (t / (Region.ready .any ops listed).length) (listed.setIfInBounds i true) [i]
        | none => [].reverse) s a w
      cases hi : (Region.ready .any ops listed)[t % (Region.ready .any ops listed).length]? with
      | none =>
        have hnil : Region.ready .any ops listed = [] := by
          cases hr : Region.ready .any ops listed with
          | nil => rfl
          | cons x xs =>
            rw [hr] at hi
            have hlt : t % (x :: xs).length < (x :: xs).length := Nat.mod_lt _ (by simp)
            simp at hi
            simp at hlt
            omega
        exact ops_nil (hend _ _ _ _ hnil hI)
      | some i =>
        simp only []
        rw [linearise_acc, List.reverse_singleton, List.singleton_append]
        have hmem := List.mem_of_getElem? hi
        obtain ⟨hun, o, ho, _⟩ := mem_ready.1 hmem
        have hlt : i < listed.size := by rw [hsz]; exact (Array.getElem?_eq_some_iff.1 ho).1
        have hcnt : ((listed.setIfInBounds i true).toList.filter id).length = (listed.toList.filter id).length + 1 := by
          have hfalse : listed.toList[i]? = some false := by
            rw [Array.getElem?_toList, Array.getElem?_eq_getElem hlt]
            rw [Array.getD_eq_getD_getElem?, Array.getElem?_eq_getElem hlt] at hun
            simpa using hun
          rw [Array.toList_setIfInBounds]
          exact count_set _ _ hfalse
        refine ops_one ho (One.mono (hstep i o listed s a w ho hmem hI) fun s' a' w' hI' => ih _ _ s' a' w' ?_ (by rw [hcnt]; omega) (by simp [hsz]) hI')
        intro hz
        subst hz
        cases hr : Region.ready .any ops (listed.setIfInBounds i true) with
        | nil => rfl
        | cons j js =>
          exfalso
          have hj : j ∈ Region.ready .any ops (listed.setIfInBounds i true) := by rw [hr]; simp
          obtain ⟨hun', o', ho', _⟩ := mem_ready.1 hj
          have hjl : j < (listed.setIfInBounds i true).size := by simp [hsz]; exact (Array.getElem?_eq_some_iff.1 ho').1
          have hlen : ((listed.setIfInBounds i true).toList.filter id).length ≤ (listed.setIfInBounds i true).toList.length := List.length_filter_le _ _
          have hall : ((listed.setIfInBounds i true).toList.filter id).length = (listed.setIfInBounds i true).toList.length := by
            have : (listed.setIfInBounds i true).toList.length = ops.size := by simp [hsz]
            omega
          have h1 := all_true _ hall j (by simpa using hjl)
          rw [Array.getElem?_toList] at h1
          rw [Array.getD_eq_getD_getElem?, h1] at hun'
          cases hun'
  exact key ops.size t _ s a w.drew (fun hz => by
    unfold Region.ready
    rw [hz]
    rfl) (by omega) (by simp) h0

/-! ### Calls -/

/-- What the body of a function must achieve: no deferred call is left. -/
def Body (P : Program) (fn : Func) (Post : γ → Came → World → Prop) (s : γ) : Exit → Act → World → Prop
  | .normal, a, w | .ret, a, w => a.defers = [] ∧ ∃ v, (results fn a.tmps).run P w = .ok v w ∧ Post s (.back v) w
  | .panic ch, a, w => a.defers = [] ∧ Post s (.threw ch) w
  | _, _, _ => False

theorem stepG_leave' {main : Bool} {b : Frame} {fn : Func} {todo : List Item} {c : Frame} {cs : List Frame} {v : Value} (hn : b.kind = .normal) (hd : a.defers = []) (hf : P.funcs[b.fn]? = some fn)
    (hr : (results fn a.tmps).run P w = .ok v w) :
    stepG P main (G { b.at a todo with mode := .returning } (c :: cs)) w = .go (G (c.finish v) cs) w (seen P b.fn ((results fn a.tmps).events P w #[])) := by
  simp [G, stepG, unwind, doReturn, Frame.at, hn, hd, hf, hr, GStep.after]

theorem stepG_threw {main : Bool} {b : Frame} {fn : Func} {todo : List Item} {c : Frame} {cs : List Frame} {ch : List PanicEntry} (hd : a.defers = []) (hf : P.funcs[b.fn]? = some fn) :
    stepG P main (G { b.at a todo with mode := .panicking ch } (c :: cs)) w = .go (G (c.raise ch) cs) w := by
  simp [G, stepG, unwind, Frame.at, hd, Frame.catches, hf]

end rules
end Go.Proofs.YtgchailmcbifdaaDoor.Jay
