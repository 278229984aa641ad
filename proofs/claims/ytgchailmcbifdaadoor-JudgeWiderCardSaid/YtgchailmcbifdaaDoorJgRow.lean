/- An append whose run is known; a loop that is unrolled; a map's look and store, met in a walk. No program in sight. -/
import Derived.Test.YtgchailmcbifdaaDoorTail2
import Derived.Test.YtgchailmcbifdaaDoorRow
import Derived.Lib.AppendZeros
namespace Go.Proofs.YtgchailmcbifdaaDoor.Jay
open Go Go.Conc Go.RowKit
/-- The loop of a statement. -/
def loopIn : Code → Code
  | .seq _ (.block _ c) => c
  | .block _ c => c
  | c => c
section
variable {P : Program} {γ : Type} {X : Turns γ} {fn : FuncId} {Q : γ → Exit → Act → World → Prop} {s : γ} {a : Act} {w : World} {ops : Array Oper} {o : Oper} {rest : List Oper} {oth : Nat → Prop}

theorem one_append_run {K : γ → Act → World → Prop} (x y : Operand) (t tn : TypeId) (ho : o.op = .call { callee := .builtin .append, args := #[x, y], argTypes := #[t, tn] }) (hw : Region.wanted o (yielded ops a.tmps) = true)
    (base : Option Addr) (l c : Nat) (vy : Value) (hs : a.eval x = .slice base l c) (hy : a.eval y = vy) (hoth : ∀ ad, base = some ad → ¬ X.oth s ad.block ∧ ad.block < w.heap.size ∧ ∀ x t, w.heap[ad.block]? ≠ some (.view x t))
    (v' : Value) (w' : World) (hr : (Builtin.append_ #[t, tn] o.type #[.slice base l c, vy]).run P w = .ok v' w') (h : K s (a.put o.dst v') w') : One P X fn ops o Q K s a w := by
  have he : execOp a.eval o = (do pure (Next.value (← Builtin.append_ #[t, tn] o.type #[.slice base l c, vy])) : Sem Next) := by
    unfold execOp
    simp only [ho, resolve, List.map_toArray, List.map_cons, List.map_nil, hs, hy]
    rfl
  refine one_run hw (fun hthere => fine_of_only (W := fun b => ∃ ad, base = some ad ∧ ad.block = b) ?_ hthere fun b hb' => ?_) (v := v') (w' := w') ?_ h
  · rw [he]
    exact only_bind (only_append _ _ _ _ _ _ fun ad had => ⟨ad, had, rfl⟩) fun _ => trivial
  · obtain ⟨ad, had, rfl⟩ := hb'
    exact hoth ad had
  · rw [he, Sem.run_bind, hr]
    rfl

/-- Nothing is appended. -/
theorem run_append_empty (t ty e : TypeId) (i : TypeInfo) (ht : P.underlying t = some (.slice e)) (hi : P.info? e = some i) (base A : Option Addr) (l c k : Nat) (hlc : l ≤ c) :
    (Builtin.append_ #[t, t] ty #[.slice base l c, .slice A 0 k]).run P w = .ok (.slice base l c) w := by
  cases A <;> cases base <;> simp [Builtin.append_, run_underlying ht, sizeOf, typeInfo, hi, Builtin.lenOf, Builtin.firstCells, loadCells, loadCellsFrom, hlc, storeCells]

/-- A slice of any length, set behind a row of one's own. -/
theorem one_append_any {K : γ → Act → World → Prop} (x y : Operand) (t : TypeId) (ho : o.op = .call { callee := .builtin .append, args := #[x, y], argTypes := #[t, t] }) (hw : Region.wanted o (yielded ops a.tmps) = true)
    (base : Nat) (e : TypeId) (z : Value) (size bytes : Nat) (ht : P.underlying t = some (.slice e)) (hinfo : (P.info? e).map (fun i => (i.zero, i.size, i.bytes)) = some (some z, size, bytes)) (hzs : z.cells.size = size) (hsz : 0 < size)
    (v : Value) (n : Nat) (xs : List Value) (hs : a.eval x = v) (hown : w.ownsRow base e size v n xs) (hoth : ∀ g, v.ownBlock = some g → ¬ X.oth s g)
    (vy : Value) (B m : Nat) (news : List Value) (hx : a.eval y = vy) (hy : Sl w B size vy m news) (h1 : ∀ u ∈ news, u.oneCell' = true)
    (h63 : n + m ≤ maxLen) (hbytes : (n + m) * bytes ≤ 140737488355328) (hbase : base ≤ w.heap.size)
    (h : ∀ v' w', w'.ownsRow base e size v' (n + m) (xs ++ news) → w.grownBy w' v.ownBlock → (v' = v ∨ v'.ownBlock = v.ownBlock ∨ v'.ownBlock = some w.heap.size) → K s (a.put o.dst v') w') : One P X fn ops o Q K s a w := by
  obtain ⟨hl, A, c, rfl, hmc, hcm, hrow⟩ := hy
  rcases Nat.eq_zero_or_pos m with rfl | hm
  · have hnews : news = [] := by
      rw [Nat.zero_mul] at hl
      exact List.eq_nil_of_length_eq_zero hl
    subst hnews
    obtain ⟨i, hi, -⟩ := Option.map_eq_some_iff.1 hinfo
    have hn : n + 0 = n := rfl
    obtain ⟨hxs, ⟨rfl, rfl⟩ | ⟨g, cap, cur, rfl, hb, hg, h3, h4, h5, h6⟩⟩ := hown
    · refine one_append_run x y t t ho hw none 0 0 _ hs hx (fun ad e => by cases e) _ _ (run_append_empty t _ e i ht hi none A 0 0 c (Nat.le_refl _)) (h _ _ ⟨by simpa using hxs, .inl ⟨rfl, rfl⟩⟩ ?_ (.inl rfl))
      exact ⟨rfl, rfl, rfl, Nat.le_refl _, fun _ _ _ => rfl⟩
    · refine one_append_run x y t t ho hw _ n cap _ hs hx (fun ad e' => by cases e'; exact ⟨hoth g rfl, (Array.getElem?_eq_some_iff.1 hg).1, fun x t e'' => by rw [hg] at e''; cases e''⟩) _ _ (run_append_empty t _ e i ht hi (some ⟨g, 0, none⟩) A n cap c h3) (h _ _ ⟨by simpa using hxs, .inr ⟨g, cap, cur, rfl, hb, hg, h3, h4, h5, by simpa using h6⟩⟩ ?_ (.inl rfl))
      exact ⟨rfl, rfl, rfl, Nat.le_refl _, fun _ _ _ => rfl⟩
  · obtain ⟨b, o', rfl, hb, hcell⟩ := hrow hm
    refine one_append x y t ho hw base e z size bytes ht hinfo hzs hsz v n xs hs hown hoth ⟨b, o', none⟩ m c news hx hl (fun j u hu => ?_) h1 hm h63 hbytes hbase fun g cap w' h2 h3 h4 h5 => h _ _ h2 h3 ?_
    · have hadd : (⟨b, o', none⟩ : Addr).add j = ⟨b, o' + j, none⟩ := by unfold Addr.add; split <;> simp_all
      rw [hadd]
      exact hcell j u hu
    · rcases h4 with h4 | rfl
      · exact .inr (.inl h4.symm)
      · exact .inr (.inr rfl)

/-- A loop, from its round on. -/
def Lp (P : Program) {γ : Type} (X : Turns γ) (fn : FuncId) (c : Code) (Q : γ → Exit → Act → World → Prop) (s : γ) (a : Act) (w : World) : Prop :=
  ∀ (Stop : γ → Frame → List Frame → World → Prop) (b : Frame) (k : List Item) (cs : List Frame), b.fn = fn → b.kind ≠ .early →
    (∀ s' e a' w', Q s' e a' w' → X.there s' w' → After P X Stop b k cs s' e a' w') → X.there s w → Reach P X Stop s (b.at a (.code c :: .inLoop c :: k)) cs w
theorem j_loop_at {c : Code} (h : Lp P X fn c Q s a w) : Wp P X fn (.loop c) Q s a w := fun Stop b k cs hb hk hc ht => .idle (fun _ => stepG_loop) (h Stop b k cs hb hk hc ht)
theorem lp_round {c : Code} (h : Wp P X fn c (Then (Lp P X fn c Q) Q) s a w) : Lp P X fn c Q s a w := by
  intro Stop b k cs hb hk hc ht
  refine h Stop b (.inLoop c :: k) cs hb hk (fun s' e a' w' q ht' => ?_) ht
  cases e with
  | normal => exact .idle (fun _ => stepG_inLoop) (q Stop b k cs hb hk hc ht')
  | exit id => exact (hc _ _ _ _ q ht').push rfl (by simp)
  | goto l => exact (hc _ _ _ _ q ht').push rfl (by simp)
  | ret => exact (hc _ _ _ _ q ht').push (x := .inLoop c) rfl (by simp)
  | panic ch => exact (hc _ _ _ _ q ht').push (x := .inLoop c) rfl (by simp)
  | outgrown => exact (hc _ _ _ _ q ht')
/-- A frame's values, by their places. -/
theorem lit_tmps {a : Act} {n : Nat} (hs : a.tmps.size = n) (hd : a.defers = []) : a = ⟨((List.range n).map fun i => a.tmps.getD i undef).toArray, []⟩ := by
  obtain ⟨t, d⟩ := a
  simp only at hs hd
  subst hd hs
  congr 1
  apply Array.ext
  · simp
  · intro i h1 h2
    simp [Array.getD, h1]
theorem lp_any {c : Code} (h : Lp P X fn c Q s a w) : Lp P X fn c Q s a w := h
end
end Go.Proofs.YtgchailmcbifdaaDoor.Jay
