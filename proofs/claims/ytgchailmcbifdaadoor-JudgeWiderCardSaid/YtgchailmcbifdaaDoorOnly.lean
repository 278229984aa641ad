/- What an operation of the model may list and turn, by its text alone: an operation that stores nothing lists no write, says no word, and leaves every block that was there. No program in sight. -/
import Derived.Test.YtgchailmcbifdaaDoorJay
import Derived.Laws.Sem
import Derived.Conc.Events
namespace Go.Proofs.YtgchailmcbifdaaDoor.Jay
open Go Go.Conc

/-- It stores into blocks of W alone; it freezes nothing, asks nothing of the outside; it says no word but 'noRoom'. -/
def Only (P : Program) (W : Nat → Prop) {α : Type} : Sem α → Prop
  | .pure _ => True
  | .load m _ k => m = .plain ∧ ∀ v, Only P W (k v)
  | .store m a _ k => m = .plain ∧ W a.block ∧ Only P W k
  | .new _ k => ∀ r, Only P W (k r)
  | .shape _ k => ∀ x, Only P W (k x)
  | .freeze .. => False
  | .frozen _ k => ∀ b, Only P W (k b)
  | .getObj _ k => ∀ o, Only P W (k o)
  | .setObj r o k => W r ∧ (∀ x t, o ≠ .view x t) ∧ Only P W k
  | .choose _ k => ∀ n, Only P W (k n)
  | .sys .. => False
  | .program k => Only P W (k P)
  | .mark m k => (m = .noRoom ∨ ∃ f, m = .extern f) ∧ Only P W k
  | .halt _ => True

section
variable {P : Program} {W : Nat → Prop} {α β : Type}

theorem only_bind_ {s : Sem α} {f : α → Sem β} (h : Only P W s) (hf : ∀ a, Only P W (f a)) : Only P W (s.bind f) := by
  induction s with
  | pure a => exact hf a
  | load m a k ih => exact ⟨h.1, fun v => ih v (h.2 v)⟩
  | store m a v k ih => exact ⟨h.1, h.2.1, ih h.2.2⟩
  | new o k ih => exact fun r => ih r (h r)
  | shape r k ih => exact fun r => ih r (h r)
  | freeze a n k ih => exact h.elim
  | frozen a k ih => exact fun r => ih r (h r)
  | getObj r k ih => exact fun r => ih r (h r)
  | setObj r o k ih => exact ⟨h.1, h.2.1, ih h.2.2⟩
  | choose q k ih => exact fun r => ih r (h r)
  | sys c k ih => exact h.elim
  | program k ih => exact ih P h
  | mark m k ih => exact ⟨h.1, ih h.2⟩
  | halt x => trivial
theorem only_bind {s : Sem α} {f : α → Sem β} (h : Only P W s) (hf : ∀ a, Only P W (f a)) : Only P W (s >>= f) := only_bind_ h hf
theorem only_pure (a : α) : Only P W (pure a : Sem α) := trivial
theorem only_pure' (a : α) : Only P W (Sem.pure a) := trivial
theorem only_halt (h : Halt) : Only P W (Sem.halt h : Sem α) := trivial
theorem only_ite {c : Prop} [Decidable c] {x y : Sem α} (hx : Only P W x) (hy : Only P W y) : Only P W (if c then x else y) := by split <;> assumption
theorem only_load (a : Addr) : Only P W (load a) := ⟨rfl, fun _ => trivial⟩
theorem only_store {a : Addr} {v : Value} (h : W a.block) : Only P W (store a v) := ⟨rfl, h, trivial⟩
theorem only_newObj (o : Obj) : Only P W (newObj o) := fun _ => trivial
theorem only_shape (r : Nat) : Only P W (shape r) := fun _ => trivial
theorem only_frozen (a : Addr) : Only P W (frozen a) := fun _ => trivial
theorem only_getObj (r : Nat) : Only P W (getObj r) := fun _ => trivial
theorem only_choose (q : Question) : Only P W (choose q) := fun _ => trivial
theorem only_program : Only P W (program) := trivial
theorem only_noRoom : Only P W (mark .noRoom) := ⟨.inl rfl, trivial⟩
theorem only_extern (f : FuncId) : Only P W (mark (.extern f)) := ⟨.inr ⟨f, rfl⟩, trivial⟩
theorem only_map {f : α → β} {s : Sem α} (h : Only P W s) : Only P W (f <$> s) := only_bind_ h fun _ => trivial
theorem only_stuck (m : String) : Only P W (stuck m : Sem α) := trivial
theorem only_unsupported (m : Unsupported) : Only P W (unsupported m : Sem α) := trivial
theorem only_goPanic (v : Value) : Only P W (goPanic v : Sem α) := trivial

/-- What one entry of such an operation may be. -/
def EvW (W : Nat → Prop) (e : Event) : Prop :=
  match e.loc with
  | .cell a => e.sync = false ∧ (e.write = true → W a.block)
  | .obj r => e.write = true → W r
  | .mark m => m = .noRoom ∨ ∃ f, m = .extern f
  | _ => False

def NoView (W : Nat → Prop) (w : World) : Prop := ∀ b, W b → ∀ x t, w.heap[b]? ≠ some (.view x t)

theorem noView_push {w : World} (h : NoView W w) (o : Obj) (hlt : ∀ b, W b → b < w.heap.size) : NoView W { w with heap := w.heap.push o } := by
  intro b hb x t e
  rw [Array.getElem?_push, if_neg (by have := hlt b hb; omega)] at e
  exact h b hb x t e

theorem heap_setCell_ne (w : World) (a : Addr) (v : Value) (b : Nat) (h : b ≠ a.block) : (w.setCell a v).heap[b]? = w.heap[b]? := by
  unfold World.setCell
  rw [Array.getElem?_modify, if_neg (fun e => h e.symm)]
theorem size_setCell (w : World) (a : Addr) (v : Value) : (w.setCell a v).heap.size = w.heap.size := by
  unfold World.setCell
  simp
theorem noView_setCell {w : World} (h : NoView W w) (a : Addr) (v : Value) : NoView W (w.setCell a v) := by
  intro b hb x t e
  by_cases hba : b = a.block
  · subst hba
    unfold World.setCell at e
    rw [Array.getElem?_modify, if_pos rfl] at e
    cases ho : w.heap[a.block]? with
    | none => rw [ho] at e; cases e
    | some o =>
      rw [ho] at e
      simp only [Option.map_some, Option.some.injEq] at e
      cases o <;> simp at e
      exact h _ hb _ _ (ho.trans (by rw [e.1, e.2]))
  · rw [heap_setCell_ne _ _ _ _ hba] at e; exact h b hb x t e

theorem only_runT (s : Sem α) : ∀ (w : World) (es : Array Event), Only P W s → NoView W w → (∀ b, W b → b < w.heap.size) →
    (∀ e ∈ (s.runT P w es).2, e ∈ es ∨ EvW W e) ∧ (∀ b, b < w.heap.size → ¬ W b → (worldOf (s.runT P w es).1).heap[b]? = w.heap[b]?) ∧ w.heap.size ≤ (worldOf (s.runT P w es).1).heap.size := by
  have push : ∀ {es : Array Event} {x : Event} {l : Array Event}, EvW W x → (∀ e ∈ l, e ∈ es.push x ∨ EvW W e) → ∀ e ∈ l, e ∈ es ∨ EvW W e := fun hx h e he => by
    rcases h e he with h | h
    · rcases Array.mem_push.1 h with h | rfl
      · exact .inl h
      · exact .inr hx
    · exact .inr h
  induction s with
  | pure a => exact fun w es _ _ _ => ⟨fun e he => .inl he, fun _ _ _ => rfl, Nat.le_refl _⟩
  | load m a k ih =>
    intro w es h hn hlt
    simp only [Sem.runT]
    cases hc : w.cell? a with
    | some v =>
      obtain ⟨h1, h2, h3⟩ := ih v w (es.push ⟨.cell a, false, m == .atomic⟩) (h.2 v) hn hlt
      exact ⟨push (x := ⟨.cell a, false, m == .atomic⟩) (by simp [EvW, h.1]) h1, h2, h3⟩
    | none =>
      simp only []
      cases hf : w.farLoad P a (m == .atomic) with
      | error x => exact ⟨fun e he => .inl he, fun _ _ _ => rfl, Nat.le_refl _⟩
      | ok r =>
        obtain ⟨v, touched⟩ := r
        obtain ⟨h1, h2, h3⟩ := ih v w (es ++ touched.toArray.map (⟨.cell ·, false, m == .atomic⟩)) (h.2 v) hn hlt
        refine ⟨fun e he => ?_, h2, h3⟩
        rcases h1 e he with h' | h'
        · rcases Array.mem_append.1 h' with h' | h'
          · exact .inl h'
          · obtain ⟨x, _, rfl⟩ := Array.mem_map.1 h'
            exact .inr (by simp [EvW, h.1])
        · exact .inr h'
  | store m a v k ih =>
    intro w es h hn hlt
    have main : ∀ r : Result _ × Array Event, r = (match w.cell? a with
        | some _ =>
          if w.frozen? a then (.halt (.unsupported (.unsafePointer "a write to bytes that a string shares")) w, es)
          else k.runT P (w.setCell a v) (es.push ⟨.cell a, true, m == .atomic⟩)
        | none => match w.farStore P a v (m == .atomic) with
          | .ok (w, touched) => k.runT P w (es ++ touched.toArray.map (⟨.cell ·, true, m == .atomic⟩))
          | .error h => (.halt h w, es)) →
        (∀ e ∈ r.2, e ∈ es ∨ EvW W e) ∧ (∀ b, b < w.heap.size → ¬ W b → (worldOf r.1).heap[b]? = w.heap[b]?) ∧ w.heap.size ≤ (worldOf r.1).heap.size := by
      rintro r rfl
      cases hc : w.cell? a with
      | some u =>
        simp only []
        by_cases hfz : w.frozen? a = true
        · rw [if_pos hfz]; exact ⟨fun e he => .inl he, fun _ _ _ => rfl, Nat.le_refl _⟩
        · rw [if_neg hfz]
          obtain ⟨h1, h2, h3⟩ := ih (w.setCell a v) (es.push ⟨.cell a, true, m == .atomic⟩) h.2.2 (noView_setCell hn a v) (fun b hb => by rw [size_setCell]; exact hlt b hb)
          rw [size_setCell] at h2 h3
          exact ⟨push (x := ⟨.cell a, true, m == .atomic⟩) (by simp [EvW, h.1, h.2.1]) h1, fun b hb hW => (h2 b hb hW).trans (heap_setCell_ne _ _ _ _ (fun e => hW (e ▸ h.2.1))), h3⟩
      | none =>
        simp only []
        have hfar : ∀ r, w.farStore P a v (m == .atomic) ≠ .ok r := by
          intro r e
          unfold World.farStore at e
          split at e
          · rename_i x t hb; exact hn _ h.2.1 _ _ hb
          · cases e
        cases hf : w.farStore P a v (m == .atomic) with
        | error x => exact ⟨fun e he => .inl he, fun _ _ _ => rfl, Nat.le_refl _⟩
        | ok r => exact absurd hf (hfar r)
    cases v <;> first
      | exact ⟨fun e he => .inl he, fun _ _ _ => rfl, Nat.le_refl _⟩
      | exact main _ rfl
  | new o k ih =>
    intro w es h hn hlt
    simp only [Sem.runT]
    obtain ⟨h1, h2, h3⟩ := ih w.heap.size { w with heap := w.heap.push o } es (h _) (noView_push hn o hlt) (fun b hb => by simp; have := hlt b hb; omega)
    simp only [Array.size_push] at h2 h3
    exact ⟨h1, fun b hb hW => (h2 b (by omega) hW).trans (by rw [Array.getElem?_push, if_neg (by omega)]), by omega⟩
  | shape r k ih => exact fun w es h hn hlt => ih _ w es (h _) hn hlt
  | freeze a n k ih => exact fun w es h _ _ => h.elim
  | frozen a k ih => exact fun w es h hn hlt => ih _ w es (h _) hn hlt
  | getObj r k ih =>
    intro w es h hn hlt
    simp only [Sem.runT]
    split
    · exact ⟨fun e he => .inl he, fun _ _ _ => rfl, Nat.le_refl _⟩
    · rename_i o _ _
      obtain ⟨h1, h2, h3⟩ := ih o w (es.push ⟨.obj r, false, o.isChan⟩) (h _) hn hlt
      exact ⟨push (x := ⟨.obj r, false, o.isChan⟩) (by simp [EvW]) h1, h2, h3⟩
    · exact ⟨fun e he => .inl he, fun _ _ _ => rfl, Nat.le_refl _⟩
  | setObj r o k ih =>
    intro w es h hn hlt
    simp only [Sem.runT]
    split
    · exact ⟨fun e he => .inl he, fun _ _ _ => rfl, Nat.le_refl _⟩
    · rename_i old _ _
      have hn' : NoView W { w with heap := w.heap.setIfInBounds r o } := by
        intro b hb x t e
        simp only [Array.getElem?_setIfInBounds] at e
        split at e
        · split at e
          · exact h.2.1 x t (Option.some.inj e)
          · cases e
        · exact hn b hb x t e
      obtain ⟨h1, h2, h3⟩ := ih { w with heap := w.heap.setIfInBounds r o } (es.push ⟨.obj r, true, o.isChan⟩) h.2.2 hn' (fun b hb => by simp; exact hlt b hb)
      simp only [Array.size_setIfInBounds] at h2 h3
      refine ⟨push (x := ⟨.obj r, true, o.isChan⟩) (fun _ => h.1) h1, fun b hb hW => (h2 b hb hW).trans ?_, h3⟩
      rw [Array.getElem?_setIfInBounds, if_neg (show ¬ r = b from fun e => hW (e ▸ h.1))]
    · exact ⟨fun e he => .inl he, fun _ _ _ => rfl, Nat.le_refl _⟩
  | choose q k ih =>
    intro w es h hn hlt
    simp only [Sem.runT]
    split
    · exact ih _ w es (h _) hn hlt
    · exact ih _ { w with drawn := w.drawn + 1 } es (h _) hn hlt
  | sys c k ih => exact fun w es h _ _ => h.elim
  | program k ih => exact fun w es h hn hlt => ih P w es h hn hlt
  | mark m k ih =>
    intro w es h hn hlt
    simp only [Sem.runT]
    obtain ⟨h1, h2, h3⟩ := ih w (es.push ⟨.mark m, false, true⟩) h.2 hn hlt
    exact ⟨push (x := ⟨.mark m, false, true⟩) h.1 h1, h2, h3⟩
  | halt x => exact fun w es _ _ _ => ⟨fun e he => .inl he, fun _ _ _ => rfl, Nat.le_refl _⟩
end

/-- The marks 'extern' are never kept. -/
theorem seen_not_extern {P : Program} {fn : FuncId} {es : Array Event} {e : Event} (h : e ∈ seen P fn es) (f : FuncId) : e.loc ≠ .mark (.extern f) := by
  rw [seen_def] at h
  have key : ∀ (quiet : FuncId → Bool) (l : List Event) (q : Bool) (kept : Array Event), (∀ x ∈ kept, ∀ f, x.loc ≠ .mark (.extern f)) → ∀ x ∈ (l.foldl (seenStep quiet) (q, kept)).2, ∀ f, x.loc ≠ .mark (.extern f) := by
    intro quiet l
    induction l with
    | nil => exact fun _ _ h => h
    | cons a l ih =>
      intro q kept hk
      simp only [List.foldl_cons, seenStep]
      split
      · exact ih _ _ hk
      · rename_i hne
        refine ih _ _ fun x hx g => ?_
        split at hx
        · exact hk x hx g
        · rcases Array.mem_push.1 hx with hx | rfl
          · exact hk x hx g
          · exact hne g
  exact key _ _ _ _ (by simp) e h f

/-- AN OPERATION WHOSE TEXT STORES INTO BLOCKS OF W ALONE is fine, where none of these is another's. -/
theorem fine_of_only {P : Program} {oth W : Nat → Prop} {fn : FuncId} {o : Oper} {a : Act} {w : World} (h : Only P W (execOp a.eval o)) (hoth : ∀ b, oth b → b < w.heap.size) (hW : ∀ b, W b → ¬ oth b ∧ b < w.heap.size ∧ ∀ x t, w.heap[b]? ≠ some (.view x t)) : Fine P oth fn o a w := by
  obtain ⟨h1, h2, h3⟩ := only_runT (P := P) (W := W) (execOp a.eval o) w #[] h (fun b hb => (hW b hb).2.2) (fun b hb => (hW b hb).2.1)
  rw [Sem.runT_eq] at h1 h2 h3
  refine ⟨fun e he => ?_, fun b hb => h2 b (hoth b hb) (fun hw => (hW b hw).1 hb), h3⟩
  have hx := seen_not_extern he
  rcases h1 e (mem_seen he) with h' | h'
  · simp at h'
  · unfold EvW at h'
    unfold EvOk
    split at h'
    · rename_i x hl; rw [hl]; exact ⟨h'.1, fun hw => (hW _ (h'.2 hw)).1⟩
    · rename_i r hl; rw [hl]; exact fun hw => (hW _ (h' hw)).1
    · rename_i m hl
      rw [hl]
      rcases h' with h' | ⟨f, h'⟩
      · exact .inl h'
      · exact absurd (hl.trans (by rw [h'])) (hx f)
    · exact h'.elim
end Go.Proofs.YtgchailmcbifdaaDoor.Jay
