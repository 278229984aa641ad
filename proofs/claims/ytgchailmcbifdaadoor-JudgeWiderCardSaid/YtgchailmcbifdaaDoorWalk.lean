/- The walk's rules in the form in which they are used: stores, calls, results; from a walk to the kit's contracts of one goroutine alone. No program in sight. -/
import Derived.Test.YtgchailmcbifdaaDoorCalm2
import Derived.WalkKit
namespace Go.Proofs.YtgchailmcbifdaaDoor.Jay
open Go Go.Conc

section
variable {P : Program} {γ : Type} {X : Turns γ} {fn : FuncId} {Q : γ → Exit → Act → World → Prop} {s : γ} {a : Act} {w : World} {ops : Array Oper} {o : Oper} {rest : List Oper} {oth : Nat → Prop}

theorem upon_value (K : γ → Act → World → Prop) (v : Value) (w : World) : Upon P X o a s K Q (.ok (.value v) w) = K s (a.put o.dst v) w := rfl
theorem upon_skip (K : γ → Act → World → Prop) (w : World) : Upon P X o a s K Q (.ok .skip w) = K s (a.put o.dst undef) w := rfl

/-! ### Stores -/

theorem cells_of_cell {ad : Addr} {u : Value} (h : w.cell? ad = some u) : ad.block < w.heap.size ∧ ∀ x t, w.heap[ad.block]? ≠ some (.view x t) := by
  unfold World.cell? at h
  cases hb : w.heap[ad.block]? with
  | none => rw [hb] at h; cases h
  | some o =>
    refine ⟨(Array.getElem?_eq_some_iff.1 hb).1, fun x t e => ?_⟩
    cases e
    rw [hb] at h
    cases h

theorem only_storeAt {W : Nat → Prop} {t : TypeId} {ad : Addr} {v : Value} (h : W ad.block) : Only P W (Instr.storeAt t (.pointer (some ad)) v) := only_storeVar t ad v h

theorem fine_store {t : TypeId} {p x : Operand} (ho : o.op = .store t p x) {ad : Addr} (hp : a.eval p = .pointer (some ad)) {u : Value} (hc : w.cell? ad = some u) (hn : ¬ oth ad.block) (hoth : ∀ b, oth b → b < w.heap.size) : Fine P oth fn o a w := by
  obtain ⟨h1, h2⟩ := cells_of_cell hc
  refine fine_of_only (W := fun b => b = ad.block) ?_ hoth (fun b hb => by subst hb; exact ⟨hn, h1, h2⟩)
  unfold execOp
  simp only [ho, hp]
  exact only_bind (only_storeAt rfl) fun _ => trivial

/-! ### Calls -/

theorem only_callFunc {W : Nat → Prop} {f : FuncId} {func : Func} {c : Code} {args : Array Value} (hf : P.funcs[f]? = some func) (hname : (func.name == "runtime.NumGoroutine") = false) (hb : func.body = some c) : Only P W (callFunc f args) := by
  unfold callFunc
  show Only P W (Sem.bind (Sem.program Sem.pure) _)
  simp only [Sem.bind, Only, hf, hname, hb]
  trivial

theorem run_callFunc {f : FuncId} {func : Func} {c : Code} {args : Array Value} (hf : P.funcs[f]? = some func) (hname : (func.name == "runtime.NumGoroutine") = false) (hb : func.body = some c) : (callFunc f args).run P w = .ok (.enter f args) w := by
  have h1 : ¬ func.name = "runtime.NumGoroutine" := by simpa using hname
  have h2 : ¬ func.body = none := by rw [hb]; simp
  simp [callFunc, hf, h1, h2]

/-- THE CALL of a function by a value that holds it: named outright, or a closure. -/
theorem one_callv {x : Operand} {args : Array Operand} {ats : Array TypeId} {f : FuncId} {func : Func} {c : Code} {first captured vals : Array Value} {K : γ → Act → World → Prop} (hop : o.op = .call { callee := .value x, args, argTypes := ats }) (hw : Region.wanted o (yielded ops a.tmps) = true)
    (hx : a.eval x = .func (.func f) first captured) (hv : first ++ args.map a.eval ++ captured = vals) (hf : P.funcs[f]? = some func) (hname : (func.name == "runtime.NumGoroutine") = false) (hb : func.body = some c)
    (h : Jdo P X f vals s w fun s' r w' => match r with | .back v => K s' (a.put o.dst v) w' | .threw ch => Q s' (.panic ch) a w') : One P X fn ops o Q K s a w := by
  have he : execOp a.eval o = callFunc f vals := by
    unfold execOp
    simp only [hop, resolve, hx, Deferred.ofValue]
    show invoke (.fn (.func f) captured) (first ++ args.map a.eval) = _
    simp only [invoke, hv]
  unfold One
  rw [if_pos hw]
  refine ⟨fun ht => fine_none (by rw [he]; exact only_callFunc hf hname hb) ht, ?_⟩
  rw [he, run_callFunc hf hname hb]
  exact h
theorem one_call {args : Array Operand} {ats : Array TypeId} {f : FuncId} {func : Func} {c : Code} {vals : Array Value} {K : γ → Act → World → Prop} (hop : o.op = .call { callee := .value (.func f), args, argTypes := ats }) (hw : Region.wanted o (yielded ops a.tmps) = true)
    (hv : args.map a.eval = vals) (hf : P.funcs[f]? = some func) (hname : (func.name == "runtime.NumGoroutine") = false) (hb : func.body = some c)
    (h : Jdo P X f vals s w fun s' r w' => match r with | .back v => K s' (a.put o.dst v) w' | .threw ch => Q s' (.panic ch) a w') : One P X fn ops o Q K s a w :=
  one_callv (first := #[]) (captured := #[]) hop hw rfl (by simpa using hv) hf hname hb h

theorem lst_one (h : One P X fn ops o Q (Lst P X fn ops Q rest) s a w) : Lst P X fn ops Q (o :: rest) s a w := h

/-- A contract of a function that comes back with one value, in a known world, met at a call. -/
theorem lst_call {args : Array Operand} {ats : Array TypeId} {f : FuncId} {func : Func} {c : Code} (vals : Array Value) (hop : o.op = .call { callee := .value (.func f), args, argTypes := ats }) (hw : Region.wanted o (yielded ops a.tmps) = true)
    (hv : args.map a.eval = vals) (hf : P.funcs[f]? = some func) (hname : (func.name == "runtime.NumGoroutine") = false) (hb : func.body = some c) {Post : γ → Came → World → Prop}
    (hd : Jdo P X f vals s w Post) (h : ∀ s' r w', Post s' r w' → match r with | .back v => Lst P X fn ops Q rest s' (a.put o.dst v) w' | .threw ch => Q s' (.panic ch) a w') : Lst P X fn ops Q (o :: rest) s a w :=
  one_call hop hw hv hf hname hb (hd.mono fun s' r w' p => by have := h s' r w' p; cases r <;> exact this)

/-! ### Results -/

theorem only_results {W : Nat → Prop} (func : Func) (tmps : Array Value) : Only P W (results func tmps) := by
  unfold results
  refine only_bind (only_mapM _ _ fun r => ?_) fun vs => ?_
  · cases r with
    | tmp t => trivial
    | cell t ty => exact only_bind (only_asAddr _) fun ad => only_loadVar _ _
  · trivial
theorem events_results (func : Func) (tmps : Array Value) (oth : Nat → Prop) (w : World) : ∀ e ∈ (results func tmps).events P w #[], EvOk oth e ∨ ∃ f, e.loc = .mark (.extern f) := by
  obtain ⟨h1, -, -⟩ := only_runT (P := P) (W := fun _ => False) (results func tmps) w #[] (only_results func tmps) (fun _ h => h.elim) (fun _ h => h.elim)
  rw [Sem.runT_eq] at h1
  intro e he
  rcases h1 e he with h | h
  · simp at h
  · unfold EvW at h
    unfold EvOk
    split at h
    · rename_i x hl; rw [hl]; exact .inl ⟨h.1, fun hw => (h.2 hw).elim⟩
    · rename_i r hl; rw [hl]; exact .inl fun hw => (h hw).elim
    · rename_i m hl
      rw [hl]
      rcases h with h | ⟨f, h⟩
      · exact .inl (.inl h)
      · exact .inr ⟨f, by rw [h]⟩
    · exact h.elim
end

section
variable {P : Program} {γ : Type} {X : Turns γ} {s : γ} {a : Act} {w : World}
theorem jdo_of {f : FuncId} {fn : Func} {c : Code} {args : Array Value} {Post : γ → Came → World → Prop} (hf : P.funcs[f]? = some fn) (hb : fn.body = some c)
    (h : Wp P X f c (Body P fn Post) s { tmps := args ++ Array.replicate (fn.ntmps - args.size) undef, defers := [] } w) : Jdo P X f args s w Post := by
  intro Stop cl cs hc ht
  rw [enter_at args hf hb]
  have hleave : ∀ (s' : γ) (a' : Act) (w' : World) (todo : List Item), X.there s' w' → (a'.defers = [] ∧ ∃ v, (results fn a'.tmps).run P w' = .ok v w' ∧ Post s' (.back v) w') →
      Reach P X Stop s' { (base f).at a' todo with mode := .returning } (cl :: cs) w' := by
    rintro s' a' w' todo ht' ⟨hd, v, hr, hp⟩
    exact .step (fun _ => stepG_leave' (b := base f) rfl hd hf hr) ⟨fun e hm => (events_results (P := P) fn a'.tmps (X.oth s') w' e (mem_seen hm)).resolve_right (fun ⟨f, hf⟩ => seen_not_extern hm f hf), fun _ _ => rfl, Nat.le_refl _⟩ (hc s' (.back v) w' hp ht')
  refine h Stop (base f) [] (cl :: cs) rfl (by simp [base]) (fun s' e a' w' q ht' => ?_) ht
  cases e with
  | normal => exact .idle (fun _ => stepG_end) (hleave s' a' w' [] ht' q)
  | ret => exact fun todo => hleave s' a' w' todo ht' q
  | panic ch => exact fun todo => .idle (fun _ => stepG_threw (b := base f) q.1 hf) (hc s' (.threw ch) w' q.2 ht')
  | exit id => exact q.elim
  | goto l => exact q.elim
  | outgrown => exact q.elim


/-- One result, in a slot; none; two; three. -/
theorem body_ret1 {func : Func} {t : Tmp} (h : func.results = #[.tmp t]) {Post : γ → Came → World → Prop} (hd : a.defers = []) (hp : Post s (.back (a.tmps.getD t undef)) w) : Body P func Post s .ret a w := ⟨hd, _, results_tmp h _ _ _, hp⟩
theorem body_end1 {func : Func} {t : Tmp} (h : func.results = #[.tmp t]) {Post : γ → Came → World → Prop} (hd : a.defers = []) (hp : Post s (.back (a.tmps.getD t undef)) w) : Body P func Post s .normal a w := ⟨hd, _, results_tmp h _ _ _, hp⟩
theorem body_ret0 {func : Func} (h : func.results = #[]) {Post : γ → Came → World → Prop} (hd : a.defers = []) (hp : Post s (.back (.tuple #[])) w) : Body P func Post s .ret a w := ⟨hd, _, results_none h _ _ _, hp⟩
theorem body_end0 {func : Func} (h : func.results = #[]) {Post : γ → Came → World → Prop} (hd : a.defers = []) (hp : Post s (.back (.tuple #[])) w) : Body P func Post s .normal a w := ⟨hd, _, results_none h _ _ _, hp⟩
theorem body_ret2 {func : Func} {t u : Tmp} (h : func.results = #[.tmp t, .tmp u]) {Post : γ → Came → World → Prop} (hd : a.defers = []) (hp : Post s (.back (.tuple #[a.tmps.getD t undef, a.tmps.getD u undef])) w) : Body P func Post s .ret a w := ⟨hd, _, results_tmp2 h _ _ _, hp⟩
theorem body_run {func : Func} {Post : γ → Came → World → Prop} (v : Value) (hd : a.defers = []) (hr : (results func a.tmps).run P w = .ok v w) (hp : Post s (.back v) w) : Body P func Post s .ret a w := ⟨hd, v, hr, hp⟩

/-! ### From the walk to the kit's contracts: one goroutine, alone -/

def alone : Turns Unit := { oth := fun _ _ => False, sw := fun _ _ _ _ _ => False }

theorem steps_of_reach {Stop : Unit → Frame → List Frame → World → Prop} {u : Unit} {fr : Frame} {cs : List Frame} (h : Reach P alone Stop u fr cs w) : ∃ fr' cs' w', Stop () fr' cs' w' ∧ Steps P (lone fr cs w) (lone fr' cs' w') := by
  induction h with
  | stop h => exact ⟨_, _, _, h, Steps.refl _ _⟩
  | step h1 _ _ ih =>
    obtain ⟨fr', cs', w', hs, hst⟩ := ih
    refine ⟨fr', cs', w', hs, .head (step_lone_go ?_) hst⟩
    have := h1 true
    unfold G at this
    rw [this]
    rfl
  | turn h1 _ _ => exact h1.elim

theorem calls_of_j {f : FuncId} {fn : Func} {c : Code} {args : Array Value} {Post : Unit → Came → World → Prop} {R : Ending → World → Prop} (hf : P.funcs[f]? = some fn) (hb : fn.body = some c)
    (h : Wp P alone f c (Body P fn Post) () { tmps := args ++ Array.replicate (fn.ntmps - args.size) undef, defers := [] } w) (hR : ∀ v w', Post () (.back v) w' → R (.returned v) w') (hT : ∀ ch w', Post () (.threw ch) w' → R (.panicked ch) w') : Calls P f args w R := by
  intro cs
  have hr := h (fun _ fr cs' w' => cs' = cs ∧ ∃ e, R e w' ∧ fr.fn = f ∧ fr.leaving P w' e ∧ e ≠ .outgrown) (base f) [] cs rfl (by simp [base]) (fun s' e a' w' q ht' => by
    have hleave : ∀ (todo : List Item), (a'.defers = [] ∧ ∃ v, (results fn a'.tmps).run P w' = .ok v w' ∧ Post s' (.back v) w') →
        Reach P alone (fun _ fr cs' w' => cs' = cs ∧ ∃ e, R e w' ∧ fr.fn = f ∧ fr.leaving P w' e ∧ e ≠ .outgrown) s' { (base f).at a' todo with mode := .returning } cs w' := by
      rintro todo ⟨hd, v, hr, hp⟩
      exact .stop ⟨rfl, .returned v, hR v w' hp, rfl, ⟨rfl, hd, rfl, fn, hf, hr⟩, by simp⟩
    cases e with
    | normal => exact .idle (fun _ => stepG_end) (hleave [] q)
    | ret => exact fun todo => hleave todo q
    | panic ch => exact fun todo => .stop ⟨rfl, .panicked ch, hT ch w' q.2, rfl, ⟨rfl, q.1, fn, hf⟩, by simp⟩
    | exit id => exact q.elim
    | goto l => exact q.elim
    | outgrown => exact q.elim) (fun _ h => h.elim)
  rw [← enter_at args hf hb] at hr
  obtain ⟨fr', cs', w', ⟨rfl, e, h1, h2, h3, h4⟩, hs⟩ := steps_of_reach hr
  refine ⟨e, w', fr', h1, ?_, h2, h3⟩
  cases e with
  | returned v => exact hs
  | panicked ch => exact hs
  | outgrown => exact absurd rfl h4
end
end Go.Proofs.YtgchailmcbifdaaDoor.Jay
