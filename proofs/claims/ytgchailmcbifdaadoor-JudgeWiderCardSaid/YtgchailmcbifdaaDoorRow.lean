/- Words for memory: a block that is known whole; a slice that reads as a list of cells; append, make, met in a walk. No program in sight. -/
import Derived.Test.YtgchailmcbifdaaDoorWalk
import Derived.Below
import Derived.Laws.OwnMore
import Derived.Maps.AppendAt
import Derived.Deep.AppendLies
import Derived.Deep.Draws
import Derived.OwnWalk
import Derived.Deep.OwnRows
namespace Go.Proofs.YtgchailmcbifdaaDoor.Jay
open Go Go.Conc Go.RowKit

/-! ### A block that is known whole -/

def Blk (w : World) (g : Nat) (t : TypeId) (cs : Array Value) : Prop := w.heap[g]? = some (.cells cs t (0, 0))

section
variable {w w' : World} {g : Nat} {t : TypeId} {cs : Array Value}
theorem Blk.lt (h : Blk w g t cs) : g < w.heap.size := by
  rcases Nat.lt_or_ge g w.heap.size with hlt | hge
  · exact hlt
  · unfold Blk at h; rw [Array.getElem?_eq_none hge] at h; cases h
theorem Blk.cell (h : Blk w g t cs) (i : Nat) : w.cell? ⟨g, i, none⟩ = cs[i]? := cell_of_row w g i cs t (0, 0) h
theorem Blk.frozen (h : Blk w g t cs) (i : Nat) : w.frozen? ⟨g, i, none⟩ = false := by
  unfold Blk at h
  simp [World.frozen?, h]
theorem Blk.new (w : World) (t : TypeId) (cs : Array Value) : Blk (w.alloc (.cells cs t)) w.heap.size t cs := heap_alloc_new w _
theorem size_alloc (w : World) (o : Obj) : (w.alloc o).heap.size = w.heap.size + 1 := Array.size_push ..
theorem Blk.new1 (w : World) (o : Obj) (t : TypeId) (cs : Array Value) : Blk ((w.alloc o).alloc (.cells cs t)) (w.heap.size + 1) t cs := by
  have := Blk.new (w.alloc o) t cs
  rwa [size_alloc] at this
theorem Blk.new2 (w : World) (o u : Obj) (t : TypeId) (cs : Array Value) : Blk (((w.alloc o).alloc u).alloc (.cells cs t)) (w.heap.size + 1 + 1) t cs := by
  have := Blk.new ((w.alloc o).alloc u) t cs
  rwa [size_alloc, size_alloc] at this
theorem Blk.new3 (w : World) (o u v : Obj) (t : TypeId) (cs : Array Value) : Blk ((((w.alloc o).alloc u).alloc v).alloc (.cells cs t)) (w.heap.size + 1 + 1 + 1) t cs := by
  have := Blk.new (((w.alloc o).alloc u).alloc v) t cs
  rwa [size_alloc, size_alloc, size_alloc] at this
theorem Blk.drew (h : Blk w g t cs) : Blk w.drew g t cs := h
theorem Blk.alloc (h : Blk w g t cs) (o : Obj) : Blk (w.alloc o) g t cs := (Below.heap_alloc w o g h.lt).trans h
theorem Blk.set_ (h : Blk w g t cs) (i : Nat) (u : Value) : Blk (w.setCell ⟨g, i, none⟩ u) g t (cs.setIfInBounds i u) := by
  unfold Blk at h ⊢
  simp [World.setCell, Array.getElem?_modify, h]
theorem Blk.far (h : Blk w g t cs) {p : Addr} (hp : g ≠ p.block) (u : Value) : Blk (w.setCell p u) g t cs := (Below.heap_setCell w p u g hp).trans h
theorem Blk.below {B : Nat} (h : Blk w g t cs) (hb : Below B w w') (hg : g < B) : Blk w' g t cs := (hb.block g hg).trans h
theorem Blk.grown {row : Option Nat} (h : Blk w g t cs) (hb : w.grownBy w' row) (hg : some g ≠ row) : Blk w' g t cs := (hb.block g h.lt hg).trans h
theorem Blk.ne_ {g' : Nat} {t' : TypeId} {cs' : Array Value} (h : Blk w g t cs) (h' : Blk w g' t' cs') (hne : t ≠ t') : g ≠ g' := by
  rintro rfl
  unfold Blk at h h'
  rw [h] at h'
  injection h' with h'
  injection h' with _ ht
  exact hne ht
end

/-! ### A slice that reads as a list of cells -/

/-- The slice value 'v' has n elements of 'size' cells each, that read 'xs'; it lies below block B. -/
def Sl (w : World) (B size : Nat) (v : Value) (n : Nat) (xs : List Value) : Prop :=
  xs.length = n * size ∧ ∃ A c, v = .slice A n c ∧ n ≤ c ∧ c ≤ maxLen ∧ (0 < n → ∃ b o, A = some ⟨b, o, none⟩ ∧ b < B ∧ ∀ j u, xs[j]? = some u → w.cell? ⟨b, o + j, none⟩ = some u)

section
variable {w w' : World} {B B' size n : Nat} {v : Value} {xs : List Value}
theorem Sl.keep (h : Sl w B size v n xs) (hk : ∀ p : Addr, p.block < B → w'.cell? p = w.cell? p) : Sl w' B size v n xs := by
  obtain ⟨h1, A, c, rfl, h2, h3, h4⟩ := h
  refine ⟨h1, A, c, rfl, h2, h3, fun hn => ?_⟩
  obtain ⟨b, o, rfl, hb, hc⟩ := h4 hn
  exact ⟨b, o, rfl, hb, fun j u hu => (hk _ hb).trans (hc j u hu)⟩
theorem Sl.more (h : Sl w B size v n xs) (hB : B ≤ B') : Sl w B' size v n xs := by
  obtain ⟨h1, A, c, rfl, h2, h3, h4⟩ := h
  refine ⟨h1, A, c, rfl, h2, h3, fun hn => ?_⟩
  obtain ⟨b, o, rfl, hb, hc⟩ := h4 hn
  exact ⟨b, o, rfl, by omega, hc⟩
theorem Sl.below (h : Sl w B size v n xs) (hb : Below B w w') : Sl w' B size v n xs := h.keep fun _ hp => hb.cell hp
theorem Sl.drew (h : Sl w B size v n xs) : Sl w.drew B size v n xs := h
theorem Sl.alloc (h : Sl w B size v n xs) (hB : B ≤ w.heap.size) (o : Obj) : Sl (w.alloc o) B size v n xs := h.keep fun p hp => World.cell?_alloc_lt w o p (by omega)
theorem Sl.set_ (h : Sl w B size v n xs) {p : Addr} (hB : B ≤ p.block) (u : Value) : Sl (w.setCell p u) B size v n xs :=
  h.keep fun q hq => World.cell?_setCell_other w p q u (fun e => by subst e; omega)
theorem Sl.grown (h : Sl w B size v n xs) {row : Option Nat} (hg : w.grownBy w' row) (hB : B ≤ w.heap.size) (hr : ∀ g, row = some g → B ≤ g) : Sl w' B size v n xs :=
  h.keep fun p hp => World.cell?_of_block (hg.block p.block (by omega) (fun e => by have := hr _ e.symm; omega))
/-- Its length. -/
theorem Sl.form (h : Sl w B size v n xs) : ∃ A c, v = .slice A n c ∧ n ≤ c ∧ c ≤ maxLen := by obtain ⟨_, A, c, rfl, h2, h3, _⟩ := h; exact ⟨A, c, rfl, h2, h3⟩
/-- A slice of one-cell elements that is not empty. -/
theorem Sl.row (h : Sl w B size v n xs) (hn : 0 < n) : ∃ b o c, v = .slice (some ⟨b, o, none⟩) n c ∧ b < B ∧ n ≤ c ∧ c ≤ maxLen ∧ ∀ j u, xs[j]? = some u → w.cell? ⟨b, o + j, none⟩ = some u := by
  obtain ⟨_, A, c, rfl, h2, h3, h4⟩ := h
  obtain ⟨b, o, rfl, hb, hc⟩ := h4 hn
  exact ⟨b, o, c, rfl, hb, h2, h3, hc⟩
theorem Sl.nil (w : World) (B size : Nat) : Sl w B size (.slice none 0 0) 0 [] := ⟨by simp, none, 0, rfl, Nat.le_refl _, Nat.zero_le _, fun h => absurd h (by omega)⟩
theorem Sl.of_own {base : Nat} {e : TypeId} (h : w.ownsRow base e size v n xs) : Sl w w.heap.size size v n xs := by
  refine ⟨h.1, ?_⟩
  rcases h.2 with ⟨rfl, rfl⟩ | ⟨g, cap, cur, rfl, hg, hh, hnc, hm, hs, ht⟩
  · exact ⟨none, 0, rfl, Nat.le_refl _, Nat.zero_le _, fun h => absurd h (by omega)⟩
  · refine ⟨some ⟨g, 0, none⟩, cap, rfl, hnc, hm, fun _ => ⟨g, 0, rfl, ?_, fun j u hu => ?_⟩⟩
    · rcases Nat.lt_or_ge g w.heap.size with hlt | hge
      · exact hlt
      · rw [Array.getElem?_eq_none hge] at hh; cases hh
    · have := h.cellAt (g := g) (cap := cap) j (by have := (List.getElem?_eq_some_iff.1 hu).1; have := h.1; omega)
      rw [Nat.zero_add, this]; exact hu
theorem Sl.of_blk {g c : Nat} {t : TypeId} {cs : Array Value} (h : Blk w g t cs) (hn : n * size ≤ cs.size) (hc : n ≤ c) (hm : c ≤ maxLen) (hB : g < B) : Sl w B size (.slice (some ⟨g, 0, none⟩) n c) n (cs.toList.take (n * size)) := by
  refine ⟨by rw [List.length_take]; simp; omega, _, c, rfl, hc, hm, fun _ => ⟨g, 0, rfl, hB, fun j u hu => ?_⟩⟩
  rw [h.cell, Nat.zero_add]
  rw [List.getElem?_take] at hu
  split at hu
  · simpa using hu
  · cases hu
end

/-! ### append, make: as operations of a walk -/

section
variable {P : Program} {γ : Type} {X : Turns γ} {fn : FuncId} {Q : γ → Exit → Act → World → Prop} {s : γ} {a : Act} {w : World} {ops : Array Oper} {o : Oper} {rest : List Oper} {oth : Nat → Prop}

theorem only_firstCells (size n : Nat) (v : Value) {W : Nat → Prop} : Only P W (Builtin.firstCells size n v) := by
  unfold Builtin.firstCells
  split <;> first | trivial | exact only_loadCells _ _
theorem only_lenOf (v : Value) {W : Nat → Prop} : Only P W (Builtin.lenOf v) := by unfold Builtin.lenOf; split <;> trivial
theorem only_holdsCells (ad : Addr) (n : Nat) {W : Nat → Prop} : Only P W (Builtin.holdsCells ad n) := by
  unfold Builtin.holdsCells
  exact only_bind (only_shape _) fun x => by split <;> trivial
theorem only_mayShare (a b c : Nat) (base : Option Addr) (x : Value) {W : Nat → Prop} : Only P W (Builtin.mayShare a b c base x) := by
  unfold Builtin.mayShare
  repeat (first | exact trivial | exact only_holdsCells _ _ | exact only_frozen _ | refine only_bind ?_ (fun _ => ?_) | split | dsimp only)

theorem only_store_cells_add {W : Nat → Prop} (ad : Addr) (k : Nat) (h : W ad.block) (vs : List Value) : Only P W (storeCells (ad.add k) vs) := only_storeCells _ (by unfold Addr.add; split <;> exact h) _ _
theorem slice_of_triple {t t' : Option TypeId} {base base' : Option Addr} {l c l' c' : Nat} {x : Value} {y : Option Value} (h : (t, #[Value.slice base l c, x][0]?, #[Value.slice base l c, x][1]?) = (t', some (Value.slice base' l' c'), y)) : base = base' := by
  simp at h
  exact h.2.1.1
set_option maxHeartbeats 1000000 in
theorem only_append {W : Nat → Prop} (ts : Array TypeId) (ty : TypeId) (base : Option Addr) (l c : Nat) (x : Value) (h : ∀ ad, base = some ad → W ad.block) : Only P W (Builtin.append_ ts ty #[.slice base l c, x]) := by
  unfold Builtin.append_
  repeat (first
    | with_reducible exact only_pure _ | with_reducible exact only_underlying _ | with_reducible exact only_sizeOf _ | with_reducible exact only_typeInfo _ | with_reducible exact only_asInt _ | with_reducible exact only_lenOf _ | with_reducible exact only_firstCells _ _ _ | with_reducible exact only_zeroValue _
    | with_reducible exact only_choose _ | with_reducible exact only_askRoom _ | with_reducible exact only_newRow _ _ | with_reducible exact only_stuck _ | with_reducible exact only_unsupported _ | with_reducible exact only_runtimePanic _ | with_reducible exact only_mayShare _ _ _ _ _ | with_reducible exact only_noRoom
    | with_reducible exact only_store_cells_add _ _ (h _ (slice_of_triple ‹_›)) _
    | with_reducible refine only_bind ?_ (fun _ => ?_) | with_reducible refine only_ite ?_ ?_ | split | dsimp only)

/-- ONE OPERATION, by its run. -/
theorem one_run {v : Value} {w' : World} {K : γ → Act → World → Prop} (hw : Region.wanted o (yielded ops a.tmps) = true) (hf : X.there s w → Fine P (X.oth s) fn o a w) (hr : (execOp a.eval o).run P w = .ok (.value v) w') (h : K s (a.put o.dst v) w') : One P X fn ops o Q K s a w := by
  unfold One
  rw [if_pos hw]
  refine ⟨hf, ?_⟩
  rw [hr]
  exact h

/-- The call of a closure, by its contract. -/
theorem lst_callv {x : Operand} {args : Array Operand} {ats : Array TypeId} {f : FuncId} {func : Func} {c : Code} {first captured : Array Value} (vals : Array Value) (hop : o.op = .call { callee := .value x, args, argTypes := ats }) (hw : Region.wanted o (yielded ops a.tmps) = true)
    (hx : a.eval x = .func (.func f) first captured) (hv : first ++ args.map a.eval ++ captured = vals) (hf : P.funcs[f]? = some func) (hname : (func.name == "runtime.NumGoroutine") = false) (hb : func.body = some c) {Post : γ → Came → World → Prop}
    (hd : Jdo P X f vals s w Post) (h : ∀ s' r w', Post s' r w' → match r with | .back v => Lst P X fn ops Q rest s' (a.put o.dst v) w' | .threw ch => Q s' (.panic ch) a w') : Lst P X fn ops Q (o :: rest) s a w :=
  one_callv hop hw hx hv hf hname hb (hd.mono fun s' r w' p => by have := h s' r w' p; cases r <;> exact this)

/-- Cells in the middle of a block, replaced. -/
def patch (cs : Array Value) (o : Nat) (vs : List Value) : Array Value := (cs.toList.take o ++ vs ++ cs.toList.drop (o + vs.length)).toArray

theorem Blk.row {g : Nat} {t : TypeId} {cs : Array Value} (h : Blk w g t cs) (cs' : Array Value) : Blk (w.setRow g cs') g t cs' := setRow_heap w g cs cs' t (0, 0) h
theorem Blk.row_far {g g' : Nat} {t : TypeId} {cs : Array Value} (h : Blk w g t cs) (cs' : Array Value) (hne : g ≠ g') : Blk (w.setRow g' cs') g t cs := (setRow_other w g' g cs' hne).trans h
theorem Below_row {B : Nat} {v : World} (h : Below B v w) {g : Nat} (cs : Array Value) (hg : B ≤ g) : Below B v (w.setRow g cs) :=
  ⟨h.os, h.tape, h.output, by rw [setRow_size]; exact h.size, fun k hk => (setRow_other w g k cs (by omega)).trans (h.block k hk)⟩

theorem run_storeAt_row {g o' : Nat} {t ty : TypeId} {cs : Array Value} {v : Value} (hb : Blk w g t cs) (hi : (P.info? ty).map (·.size) = some v.cells.size) (hle : o' + v.cells.size ≤ cs.size) (h1 : ∀ u ∈ v.cells.toList, u.oneCell' = true) :
    (Instr.storeAt ty (.pointer (some ⟨g, o', none⟩)) v).run P w = .ok () (w.setRow g (patch cs o' v.cells.toList)) := by
  have h2 := run_storeCells_at (P := P) g o' t v.cells.toList 0 cs w hb (by simpa using hle) h1
  simp only [Nat.add_zero] at h2
  simp only [Instr.storeAt, Instr.sureAddr, Sem.run_bind, Sem.run_pure, Result.andThen_ok]
  cases hq : P.info? ty with
  | none => simp [hq] at hi
  | some i =>
    have hs : v.cells.size = i.size := by simp [hq] at hi; omega
    simp [storeVar, sizeOf, typeInfo, hq, hs]
    rw [h2]
    rfl

/-- A store, into a block that is known whole, of a value of however many cells. -/
theorem one_store {K : γ → Act → World → Prop} {g o' : Nat} {t ty : TypeId} {x y : Operand} {cs cs' : Array Value} {v : Value} (hop : o.op = .store ty x y) (hw : Region.wanted o (yielded ops a.tmps) = true) (hx : a.eval x = .pointer (some ⟨g, o', none⟩)) (hy : a.eval y = v)
    (hb : Blk w g t cs) (hn : ¬ X.oth s g) (hi : (P.info? ty).map (·.size) = some v.cells.size) (hle : o' + v.cells.size ≤ cs.size) (h1 : ∀ u ∈ v.cells.toList, u.oneCell' = true) (hp : patch cs o' v.cells.toList = cs')
    (h : K s (a.put o.dst undef) (w.setRow g cs')) : One P X fn ops o Q K s a w := by
  subst hp
  have hr := run_storeAt_row (P := P) hb hi hle h1
  unfold One
  rw [if_pos hw]
  refine ⟨fun ht => fine_of_only (W := fun b => b = g) ?_ ht (fun b hb' => by subst hb'; exact ⟨hn, hb.lt, fun x t e => by unfold Blk at hb; rw [hb] at e; cases e⟩), ?_⟩
  · unfold execOp
    simp only [hop, hx]
    exact only_bind (only_storeAt rfl) fun _ => trivial
  · have he : (execOp a.eval o).run P w = .ok .skip (w.setRow g (patch cs o' v.cells.toList)) := by
      unfold execOp
      simp only [hop, hx, hy, Sem.run_bind, hr, Result.andThen_ok, Sem.run_pure]
    rw [he]
    exact h

/-- append onto what the walk owns (nil, or a row of its own). -/
theorem one_append {K : γ → Act → World → Prop} (x y : Operand) (t : TypeId) (ho : o.op = .call { callee := .builtin .append, args := #[x, y], argTypes := #[t, t] }) (hw : Region.wanted o (yielded ops a.tmps) = true)
    (base : Nat) (e : TypeId) (z : Value) (size bytes : Nat) (ht : P.underlying t = some (.slice e)) (hinfo : (P.info? e).map (fun i => (i.zero, i.size, i.bytes)) = some (some z, size, bytes)) (hzs : z.cells.size = size) (hsz : 0 < size)
    (v : Value) (n : Nat) (xs : List Value) (hs : a.eval x = v) (hown : w.ownsRow base e size v n xs) (hoth : ∀ g, v.ownBlock = some g → ¬ X.oth s g)
    (ad : Addr) (m c : Nat) (news : List Value) (hx : a.eval y = .slice (some ad) m c) (hl : news.length = m * size) (hnews : ∀ j u, news[j]? = some u → w.cell? (ad.add j) = some u) (h1 : ∀ u ∈ news, u.oneCell' = true)
    (hm : 0 < m) (h63 : n + m ≤ maxLen) (hbytes : (n + m) * bytes ≤ 140737488355328) (hbase : base ≤ w.heap.size)
    (h : ∀ g cap w', w'.ownsRow base e size (.slice (some ⟨g, 0, none⟩) (n + m) cap) (n + m) (xs ++ news) → w.grownBy w' v.ownBlock → (v.ownBlock = some g ∨ g = w.heap.size) → g < w'.heap.size → K s (a.put o.dst (.slice (some ⟨g, 0, none⟩) (n + m) cap)) w') : One P X fn ops o Q K s a w := by
  obtain ⟨i, hi, hzz⟩ := Option.map_eq_some_iff.1 hinfo
  simp only [Prod.mk.injEq] at hzz
  obtain ⟨hz, hsize, hb⟩ := hzz
  obtain ⟨g, cap, w', hr, h2, h3, h4, h5⟩ := run_append_lies (P := P) w t o.type base e i z size bytes ht hi hz hsize hb hzs hsz v n xs hown ad m c news hl hnews h1 hm h63 hbytes hbase w.heap.size rfl
  have he : execOp a.eval o = (do pure (Next.value (← Builtin.append_ #[t, t] o.type #[v, .slice (some ad) m c])) : Sem Next) := by
    unfold execOp
    simp only [ho, resolve, List.map_toArray, List.map_cons, List.map_nil, hs, hx]
    rfl
  refine one_run hw (fun hthere => fine_of_only (W := fun b => v.ownBlock = some b) ?_ hthere fun b hb' => ⟨hoth b hb', ?_⟩) (v := .slice (some ⟨g, 0, none⟩) (n + m) cap) (w' := w') ?_ (h g cap w' h2 h3 h4 h5)
  · rw [he]
    rcases hown.2 with ⟨rfl, _⟩ | ⟨g', cap', cur, rfl, _⟩
    · exact only_bind (only_append _ _ _ _ _ _ fun ad had => by cases had) fun _ => trivial
    · exact only_bind (only_append _ _ _ _ _ _ fun ad had => by cases had; rfl) fun _ => trivial
  · rcases hown.2 with ⟨rfl, _⟩ | ⟨g', cap', cur, rfl, _, hg', _⟩
    · cases hb'
    · simp only [Value.ownBlock, Option.some.injEq] at hb'
      subst hb'
      refine ⟨(Array.getElem?_eq_some_iff.1 hg').1, fun x t e => ?_⟩
      rw [hg'] at e
      cases e
  · rw [he, Sem.run_bind, hr]
    rfl

/-- make of a slice of one-cell elements. -/
theorem one_make {K : γ → Act → World → Prop} (l c : Operand) (t : TypeId) (hop : o.op = Op.makeSlice t l c) (hw : Region.wanted o (yielded ops a.tmps) = true)
    (e : TypeId) (z : Value) (bytes : Nat) (ht : P.underlying t = some (.slice e)) (hinfo : (P.info? e).map (fun i => (i.zero, i.size, i.bytes)) = some (some z, 1, bytes)) (hz1 : z.cells = #[z])
    (kl kc : IntKind) (n : Nat) (hl : a.eval l = .int kl (n : Int)) (hc : a.eval c = .int kc (n : Int)) (hbytes : bytes * n ≤ 281474976710656) (h63 : n ≤ 9223372036854775807)
    (h : K s (a.put o.dst (.slice (some ⟨w.heap.size, 0, none⟩) n n)) (w.alloc (.cells (madeCells #[z] n) e))) : One P X fn ops o Q K s a w := by
  have hrun := run_make_row' (P := P) t e z bytes ht hinfo hz1 kl kc n hbytes h63 w
  refine one_run hw (fun hthere => fine_idle (by rw [hop]; rfl) hthere) (v := .slice (some ⟨w.heap.size, 0, none⟩) n n) (w' := w.alloc (.cells (madeCells #[z] n) e)) ?_ h
  simp [execOp, hop, hl, hc, hrun, Result.andThen]

theorem madeCells_one (z : Value) (n : Nat) : madeCells #[z] n = (List.replicate n z).toArray := by
  unfold madeCells
  apply Array.ext
  · simp
  · intro i h1 h2
    simp [Nat.mod_one]
end
end Go.Proofs.YtgchailmcbifdaaDoor.Jay
