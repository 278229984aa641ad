/- More operations of a walk: cap, min, max; texts put together; bytes made a text; a map's look, store, making. No program in sight. -/
import Derived.Test.YtgchailmcbifdaaDoorTail2
import Derived.Test.YtgchailmcbifdaaDoorChg
import Derived.MapKept
import Derived.Laws.Small
import Derived.Laws.Slices
import Derived.Laws.BytesString
import Derived.Laws.Concat
import Derived.Lib.MinMax
import Derived.Laws.Strings
import Derived.Laws.Strings2
namespace Go.Proofs.YtgchailmcbifdaaDoor.Jay
open Go Go.Conc Go.RowKit
section
variable {P : Program} {W : Nat → Prop}
set_option linter.unusedVariables false
set_option linter.unusedSimpArgs false
theorem only_bi {o : Oper} {b : Builtin} {args : Array Operand} {ts : Array TypeId} (ho : o.op = .call { callee := .builtin b, args := args, argTypes := ts }) {ρ : Operand → Value} {s : Sem Next} (he : execOp ρ o = s) (h : Only P W s) : Only P W (execOp ρ o) := he ▸ h
theorem only_cap {o : Oper} {x : Operand} {t : TypeId} (ho : o.op = .call { callee := .builtin .cap, args := #[x], argTypes := #[t] }) {ρ : Operand → Value} {A : Option Addr} {l c : Nat} (hx : ρ x = .slice A l c) : Only P W (execOp ρ o) := by
  have he : execOp ρ o = (do pure (Next.value (← Builtin.cap_ #[t] o.type #[.slice A l c])) : Sem Next) := by
    unfold execOp
    simp only [ho, resolve, List.map_toArray, List.map_cons, List.map_nil, hx]
    rfl
  rw [he]
  refine only_v ?_
  unfold Builtin.cap_
  simp only [List.getElem?_toArray, List.getElem?_cons_zero]
  refine only_bind (only_underlying _) fun d => ?_
  repeat (first | exact trivial | exact only_stuck _ | split | refine only_bind (only_underlying _) (fun _ => ?_) | refine only_bind (only_getObj _) (fun _ => ?_))
theorem only_min {o : Oper} {x y : Operand} {ts : Array TypeId} (ho : o.op = .call { callee := .builtin .min, args := #[x, y], argTypes := ts }) {ρ : Operand → Value} {k j : IntKind} {m n : Int} (hx : ρ x = .int k m) (hy : ρ y = .int j n) : Only P W (execOp ρ o) := by
  have he : execOp ρ o = (do pure (Next.value (← Builtin.min_ ts o.type #[.int k m, .int j n])) : Sem Next) := by
    unfold execOp
    simp only [ho, resolve, List.map_toArray, List.map_cons, List.map_nil, hx, hy]
    rfl
  rw [he]
  exact only_v (only_bind trivial fun _ => trivial)
theorem only_max {o : Oper} {x y : Operand} {ts : Array TypeId} (ho : o.op = .call { callee := .builtin .max, args := #[x, y], argTypes := ts }) {ρ : Operand → Value} {k j : IntKind} {m n : Int} (hx : ρ x = .int k m) (hy : ρ y = .int j n) : Only P W (execOp ρ o) := by
  have he : execOp ρ o = (do pure (Next.value (← Builtin.max_ ts o.type #[.int k m, .int j n])) : Sem Next) := by
    unfold execOp
    simp only [ho, resolve, List.map_toArray, List.map_cons, List.map_nil, hx, hy]
    rfl
  rw [he]
  exact only_v (only_bind trivial fun _ => trivial)
end
section
variable {P : Program} {γ : Type} {X : Turns γ} {fn : FuncId} {Q : γ → Exit → Act → World → Prop} {s : γ} {a : Act} {w : World} {ops : Array Oper} {o : Oper} {rest : List Oper} {oth : Nat → Prop}

/-- A text, by its bytes. -/
def str (l : List UInt8) : Value := .string ⟨l.toArray⟩

theorem one_cat {K : γ → Act → World → Prop} (x y : Operand) (t u : TypeId) (ho : o.op = .binOp .add t x y u) (hw : Region.wanted o (yielded ops a.tmps) = true) (b c : List UInt8) (hx : a.eval x = str b) (hy : a.eval y = str c)
    (hb : b.length ≤ 8388608) (hc : c.length ≤ 8388608) (h : K s (a.put o.dst (str (b ++ c))) w) : One P X fn ops o Q K s a w := by
  have he : execOp a.eval o = (do pure (Next.value (← (eqGuard .add t x y (str b) (str c) >>= fun _ => binOp .add t (str b) (str c)))) : Sem Next) := by
    unfold execOp
    simp only [ho, hx, hy]
  have hr : (binOp .add t (str b) (str c)).run P w = .ok (str (b ++ c)) w := by
    unfold str
    rw [binOp_string_add]
    exact run_string_add_lists w b c (by omega) (by omega)
  refine one_run hw (fun hthere => fine_none ?_ hthere) (v := str (b ++ c)) (w' := w) ?_ h
  · rw [he]
    exact only_v (only_bind (only_eqGuard _ _ _ _ _ _) fun _ => only_binOp_str _ _ _ _)
  · rw [he]
    simp only [Sem.run_bind]
    rw [show (eqGuard .add t x y (str b) (str c)).run P w = .ok () w from by rfl]
    simp only [Result.andThen, hr]
    rfl

/-! ### Bytes made a text -/

theorem run_b2s (src dst e : TypeId) (hs : P.underlying src = some (.slice e)) (he : P.underlying e = some (.int .u8)) (hd : P.underlying dst = some .string) (ad : Addr) (c : Nat) (l : List UInt8)
    (h : ∀ j b, l[j]? = some b → w.cell? (ad.add j) = some (.int .u8 (b.toNat : Int))) : (convert src dst (.slice (some ad) l.length c)).run P w = .ok (str l) w := by
  rw [run_convert_bytes_string w src dst e (some ad) _ c hs he hd]
  have h1 := run_bytesToString (P := P) w ad l.length c (l.map fun b => (b.toNat : Int)) (by
    have := run_loadCells_list (P := P) w ad (l.map fun b => Value.int .u8 (b.toNat : Int)) (fun j v hv => by
      rw [List.getElem?_map] at hv
      obtain ⟨b, hb, rfl⟩ := Option.map_eq_some_iff.1 hv
      exact h j b hb)
    rw [List.length_map] at this
    rw [this, List.map_map]
    rfl)
  rw [h1]
  congr 1
  unfold str
  congr 1
  have key : ∀ (l : List UInt8) (s : ByteArray), (l.map fun b => (b.toNat : Int)).foldl (fun r n => r.push (UInt8.ofNat n.toNat)) s = ⟨s.data ++ l.toArray⟩ := by
    intro l
    induction l with
    | nil => intro s; simp
    | cons b l ih =>
      intro s
      simp only [List.map_cons, List.foldl_cons, ih]
      simp [ByteArray.push]
  rw [key]
  simp
theorem only_b2s {W : Nat → Prop} (v : Value) : Only P W (Conv.bytesToString v) := by
  unfold Conv.bytesToString
  split
  · trivial
  · refine only_bind (only_loadCells _ _) fun cs => ?_
    refine only_bind (only_forIn_array _ _ (fun _ _ => ?_) _) fun _ => trivial
    split <;> trivial
  · trivial
theorem one_b2s {K : γ → Act → World → Prop} (x : Operand) (src dst e : TypeId) (ho : o.op = .convert src dst x) (hw : Region.wanted o (yielded ops a.tmps) = true) (hs : P.underlying src = some (.slice e)) (he : P.underlying e = some (.int .u8)) (hd : P.underlying dst = some .string)
    (ad : Addr) (n c : Nat) (hx : a.eval x = .slice (some ad) n c) (l : List UInt8) (hn : l.length = n) (hc : ∀ j b, l[j]? = some b → w.cell? (ad.add j) = some (.int .u8 (b.toNat : Int))) (h : K s (a.put o.dst (str l)) w) : One P X fn ops o Q K s a w := by
  subst hn
  have hE : execOp a.eval o = (do pure (Next.value (← convert src dst (.slice (some ad) l.length c))) : Sem Next) := by
    unfold execOp
    simp only [ho, hx]
  have hO : Only P (fun _ => False) (convert src dst (.slice (some ad) l.length c)) := by
    have : convert src dst (.slice (some ad) l.length c) = (underlying src >>= fun d => underlying dst >>= fun d' => (convert src dst (.slice (some ad) l.length c))) ∨ True := .inr trivial
    unfold convert
    unfold underlying
    show Only P _ (Sem.bind (Sem.bind (Sem.program Sem.pure) _) _)
    simp only [Sem.bind, Only, hs]
    show Only P _ (Sem.bind (Sem.bind (Sem.program Sem.pure) _) _)
    simp only [Sem.bind, Only, hd]
    show Only P _ (Sem.bind (Sem.bind (Sem.program Sem.pure) _) _)
    simp only [Sem.bind, Only, he]
    change Only P _ (Sem.bind (Sem.pure _) _)
    simp only [Sem.bind]
    exact only_b2s _
  refine one_run hw (fun hthere => fine_none ?_ hthere) (v := str l) (w' := w) ?_ h
  · rw [hE]; exact only_v hO
  · rw [hE, Sem.run_bind, run_b2s src dst e hs he hd ad c l hc]
    rfl

/-! ### A part of a text, a byte of it -/

theorem exec_slice_str {x lo hi : Operand} {t : TypeId} (ho : o.op = .slice t x (some lo) (some hi) none) (ht : P.underlying t = some .string) {b : ByteArray} {l h : Nat} {kl kh : IntKind} (hx : a.eval x = .string b) (hlo : a.eval lo = .int kl l) (hhi : a.eval hi = .int kh h) (h1 : l ≤ h) (h2 : h ≤ b.size) :
    (execOp a.eval o).run P w = .ok (.value (.string (b.extract l h))) w := by
  have he : execOp a.eval o = (do pure (Next.value (← Instr.sliceAt t (.string b) (some (.int kl l)) (some (.int kh h)) none)) : Sem Next) := by
    unfold execOp
    simp only [ho, hx, hlo, hhi, Option.map_some, Option.map_none]
  rw [he, Sem.run_bind, run_sliceAt_string w _ _ _ _ _ ht, run_slice_string w t b kl kh l h ht (by omega) (by omega) (by omega)]
  rfl
theorem one_slice_str {K : γ → Act → World → Prop} (x lo hi : Operand) (t : TypeId) (ho : o.op = .slice t x (some lo) (some hi) none) (hw : Region.wanted o (yielded ops a.tmps) = true) (ht : P.underlying t = some .string) (b : ByteArray) (l h : Nat) (kl kh : IntKind)
    (hx : a.eval x = .string b) (hlo : a.eval lo = .int kl l) (hhi : a.eval hi = .int kh h) (h1 : l ≤ h) (h2 : h ≤ b.size) (hK : K s (a.put o.dst (.string (b.extract l h))) w) : One P X fn ops o Q K s a w :=
  one_run hw (fun hthere => fine_none (only_idle (by rw [ho]; rfl) _) hthere) (exec_slice_str ho ht hx hlo hhi h1 h2) hK
theorem exec_index_str {x y : Operand} {t : TypeId} (ho : o.op = .index t x y) (ht : P.underlying t = some .string) {b : ByteArray} {i : Nat} {k : IntKind} {u : UInt8} (hx : a.eval x = .string b) (hy : a.eval y = .int k i) (hu : b[i]? = some u) :
    (execOp a.eval o).run P w = .ok (.value (.int .u8 u.toNat)) w := by
  have he : execOp a.eval o = (do pure (Next.value (← Instr.index t (.string b) (.int k i))) : Sem Next) := by
    unfold execOp
    simp only [ho, hx, hy]
  rw [he, Sem.run_bind]
  have hr : (Instr.index t (.string b) (.int k i)).run P w = .ok (.int .u8 u.toNat) w := by
    unfold Instr.index
    have h0 : (0 : Int) ≤ (i : Int) := by omega
    simp only [Sem.run_bind, asIntOf, Result.andThen_ok, Sem.run_pure, run_underlying ht, if_pos h0, Int.toNat_natCast, hu]
  rw [hr]
  rfl
theorem one_index_str {K : γ → Act → World → Prop} (x y : Operand) (t : TypeId) (ho : o.op = .index t x y) (hw : Region.wanted o (yielded ops a.tmps) = true) (ht : P.underlying t = some .string) (b : ByteArray) (i : Nat) (k : IntKind) (u : UInt8)
    (hx : a.eval x = .string b) (hy : a.eval y = .int k i) (hu : b[i]? = some u) (hK : K s (a.put o.dst (.int .u8 u.toNat)) w) : One P X fn ops o Q K s a w :=
  one_run hw (fun hthere => fine_none (only_idle (by rw [ho]; rfl) _) hthere) (exec_index_str ho ht hx hy hu) hK

/-! ### A map whose keys are texts, and whose values are all true -/

/-- The keys that it has, in their order. -/
def Tr (w : World) (g : Nat) (ks : List (List UInt8)) : Prop := ∃ es clock, w.heap[g]? = some (.map es clock) ∧ es.toList.map (fun e => (e.key, e.val)) = ks.map fun k => (str k, Value.bool true)
theorem Tr.lt {g : Nat} {ks : List (List UInt8)} (h : Tr w g ks) : g < w.heap.size := by
  obtain ⟨es, clock, h, -⟩ := h
  exact (Array.getElem?_eq_some_iff.1 h).1
theorem Tr.keep {g : Nat} {ks : List (List UInt8)} {w' : World} (h : Tr w g ks) (hk : w'.heap[g]? = w.heap[g]?) : Tr w' g ks := by
  obtain ⟨es, clock, h, h2⟩ := h
  exact ⟨es, clock, hk.trans h, h2⟩
theorem Tr.below {g : Nat} {ks : List (List UInt8)} {w' : World} (h : Tr w g ks) (hb : Below w.heap.size w w') : Tr w' g ks := h.keep (hb.block g h.lt)
theorem str_eq {k l : List UInt8} : (ByteArray.mk k.toArray == ByteArray.mk l.toArray) = decide (k = l) := by
  by_cases h : k = l
  · subst h; rw [decide_eq_true rfl]; exact (MapKept.bytes_beq _ _).2 rfl
  · rw [decide_eq_false h]
    cases e : (ByteArray.mk k.toArray == ByteArray.mk l.toArray) with
    | false => rfl
    | true =>
      have := (MapKept.bytes_beq _ _).1 e
      injection this with this
      exact absurd (by simpa using this) h
theorem findNow_tr (k : List UInt8) : ∀ (es : List MapEntry) (ks : List (List UInt8)) (i : Nat), es.map (fun e => (e.key, e.val)) = ks.map (fun k => (str k, Value.bool true)) →
    ∃ r, Instr.findNow .string (str k) es i = some r ∧ r.map (·.2) = if k ∈ ks then some (Value.bool true) else none
  | [], ks, i, h => by
    cases ks with
    | nil => exact ⟨none, rfl, by simp⟩
    | cons _ _ => simp at h
  | e :: es, ks, i, h => by
    cases ks with
    | nil => simp at h
    | cons l ks =>
      simp only [List.map_cons, List.cons.injEq, Prod.mk.injEq] at h
      obtain ⟨⟨h1, h2⟩, h3⟩ := h
      have hs : Instr.sameNow .string (str k) e.key = some (decide (k = l)) := by
        rw [h1]
        unfold str Instr.sameNow
        simp only [str_eq]
      unfold Instr.findNow
      rw [hs]
      by_cases hk : k = l
      · subst hk
        exact ⟨some (i, e.val), by simp, by simp [h2]⟩
      · obtain ⟨r, hr, hr2⟩ := findNow_tr k es ks (i + 1) h3
        refine ⟨r, ?_, ?_⟩
        · rw [decide_eq_false hk]
          exact hr
        · rw [hr2]
          simp [hk]
theorem run_findKey_tr (kt : TypeId) (hk : P.underlying kt = some .string) (k : List UInt8) {es : List MapEntry} {ks : List (List UInt8)} (h : es.map (fun e => (e.key, e.val)) = ks.map (fun k => (str k, Value.bool true))) :
    ∃ r, (Instr.findKey kt (str k) es).run P w = .ok r w ∧ r.map (·.2) = if k ∈ ks then some (Value.bool true) else none := by
  obtain ⟨r, h1, h2⟩ := findNow_tr k es ks 0 h
  refine ⟨r, ?_, h2⟩
  unfold Instr.findKey
  simp only [Sem.run_bind, run_underlying hk, Result.andThen, h1]
  rfl
theorem isKey_str (k : List UInt8) : MapKept.IsKey .string (str k) := trivial
theorem run_lookup_tr (t kt et : TypeId) (ht : P.underlying t = some (.map kt et)) (hk : P.underlying kt = some .string) (hz : (zeroValue et).run P w = .ok (.bool false) w) {g : Nat} {ks : List (List UInt8)} (hT : Tr w g ks) (k : List UInt8) :
    (Instr.lookup t (.map (some g)) (str k) false).run P w = .ok (.bool (decide (k ∈ ks))) w := by
  obtain ⟨es, clock, hg, he⟩ := hT
  obtain ⟨r, hr, hr2⟩ := run_findKey_tr (P := P) (w := w) kt hk k he
  unfold Instr.lookup
  simp only [Sem.run_bind, run_underlying ht, Result.andThen, MapKept.run_getObj_map hg, MapKept.run_checkKey hk (isKey_str k) _ 9999, hr]
  cases r with
  | none =>
    have : k ∉ ks := fun h => by rw [if_pos h] at hr2; cases hr2
    simp [hr, hz, this, Sem.run_pure]
  | some r =>
    obtain ⟨i, v⟩ := r
    have : k ∈ ks := by
      by_cases h : k ∈ ks
      · exact h
      · rw [if_neg h] at hr2; cases hr2
    rw [if_pos this] at hr2
    simp at hr2
    simp [hr, hr2, this, Sem.run_pure]
theorem run_store_tr (t kt et : TypeId) (ht : P.underlying t = some (.map kt et)) (hk : P.underlying kt = some .string) {g : Nat} {ks : List (List UInt8)} (hT : Tr w g ks) (k : List UInt8) (hn : k ∉ ks) :
    ∃ w', (Instr.mapUpdate t (.map (some g)) (str k) (.bool true)).run P w = .ok () w' ∧ Tr w' g (ks ++ [k]) ∧ Chg (fun b => b = g) w w' ∧ w'.heap.size = w.heap.size := by
  obtain ⟨es, clock, hg, he⟩ := hT
  obtain ⟨r, hr, hr2⟩ := run_findKey_tr (P := P) (w := w) kt hk k he
  rw [if_neg hn] at hr2
  have hr3 : r = none := by cases r with | none => rfl | some _ => cases hr2
  subst hr3
  refine ⟨{ w with heap := w.heap.setIfInBounds g (.map (es.push { key := str k, val := .bool true, born := clock }) (clock + 1)) }, ?_, ⟨es.push { key := str k, val := .bool true, born := clock }, clock + 1, (MapKept.heap_set hg).1, by simp [he]⟩, ⟨rfl, rfl, rfl, by simp, fun b _ hb => (MapKept.heap_set hg).2 b hb⟩, by simp⟩
  unfold Instr.mapUpdate
  simp only [Sem.run_bind, run_underlying ht, Result.andThen, MapKept.run_getObj_map hg, MapKept.run_checkKey hk (isKey_str k) _ 9999]
  simp [hr, MapKept.run_setObj_map _ hg]
theorem only_checkKey_str {W : Nat → Prop} (b : Bool) (n : Nat) (kt : TypeId) (hk : P.underlying kt = some .string) (v : Value) : Only P W (Instr.checkKey b (n + 1) kt v) := by
  unfold Instr.checkKey underlying
  show Only P _ (Sem.bind (Sem.bind (Sem.program Sem.pure) _) _)
  simp only [Sem.bind, Only, hk]
  change Only P _ (Sem.bind (Sem.pure _) _)
  simp only [Sem.bind]
  trivial
theorem only_findAsking {W : Nat → Prop} (kt : TypeId) (k : Value) : ∀ (es : List MapEntry) (i : Nat), Only P W (Instr.findAsking kt k es i)
  | [], _ => trivial
  | e :: es, i => only_bind (only_equal _ _ _) fun b => only_ite trivial (only_findAsking kt k es (i + 1))
theorem only_findKey {W : Nat → Prop} (kt : TypeId) (k : Value) (es : List MapEntry) : Only P W (Instr.findKey kt k es) := by
  unfold Instr.findKey
  refine only_bind (only_underlying _) fun d => ?_
  split
  · trivial
  · exact only_findAsking _ _ _ _
theorem only_lookup {W : Nat → Prop} (t kt et : TypeId) (ht : P.underlying t = some (.map kt et)) (hk : P.underlying kt = some .string) (x k : Value) : Only P W (Instr.lookup t x k false) := by
  unfold Instr.lookup underlying
  show Only P _ (Sem.bind (Sem.bind (Sem.program Sem.pure) _) _)
  simp only [Sem.bind, Only, ht]
  change Only P _ (Sem.bind (Sem.pure _) _)
  simp only [Sem.bind]
  repeat (first | exact trivial | exact only_stuck _ | exact only_zeroValue _ | exact only_getObj _ | exact only_findKey _ _ _ | exact only_checkKey_str _ 9999 _ hk _ | refine only_bind ?_ (fun _ => ?_) | refine only_ite ?_ ?_ | split)
theorem only_mapUpdate {W : Nat → Prop} (t kt et : TypeId) (ht : P.underlying t = some (.map kt et)) (hk : P.underlying kt = some .string) (g : Nat) (hg : W g) (k v : Value) : Only P W (Instr.mapUpdate t (.map (some g)) k v) := by
  unfold Instr.mapUpdate underlying
  show Only P _ (Sem.bind (Sem.bind (Sem.program Sem.pure) _) _)
  simp only [Sem.bind, Only, ht]
  change Only P _ (Sem.bind (Sem.pure _) _)
  simp only [Sem.bind]
  refine only_bind (only_getObj _) fun o => ?_
  split
  · refine only_bind (only_checkKey_str _ 9999 _ hk _) fun _ => only_bind (only_findKey _ _ _) fun r => ?_
    split
    · refine only_bind ?_ fun _ => ⟨hg, (fun _ _ h => by cases h), trivial⟩
      unfold Instr.keyThatStays
      exact only_ite trivial (only_bind (only_choose _) fun _ => trivial)
    · exact ⟨hg, (fun _ _ h => by cases h), trivial⟩
  · trivial

theorem one_lookup {K : γ → Act → World → Prop} (x y : Operand) (t kt et : TypeId) (ho : o.op = .lookup t x y false) (hw : Region.wanted o (yielded ops a.tmps) = true) (ht : P.underlying t = some (.map kt et)) (hk : P.underlying kt = some .string) (hz : (zeroValue et).run P w = .ok (.bool false) w)
    {g : Nat} {ks : List (List UInt8)} {k : List UInt8} (hx : a.eval x = .map (some g)) (hy : a.eval y = str k) (hT : Tr w g ks) (h : K s (a.put o.dst (.bool (decide (k ∈ ks)))) w) : One P X fn ops o Q K s a w := by
  have he : execOp a.eval o = (do pure (Next.value (← Instr.lookup t (.map (some g)) (str k) false)) : Sem Next) := by
    unfold execOp
    simp only [ho, hx, hy]
  refine one_run hw (fun ht' => fine_none ?_ ht') (v := .bool (decide (k ∈ ks))) (w' := w) ?_ h
  · rw [he]; exact only_v (only_lookup t kt et ht hk _ _)
  · rw [he, Sem.run_bind, run_lookup_tr t kt et ht hk hz hT k]
    rfl
theorem one_mapput {K : γ → Act → World → Prop} (x y z : Operand) (t kt et : TypeId) (ho : o.op = .mapUpdate t x y z) (hw : Region.wanted o (yielded ops a.tmps) = true) (ht : P.underlying t = some (.map kt et)) (hk : P.underlying kt = some .string)
    {g : Nat} {ks : List (List UInt8)} {k : List UInt8} (hx : a.eval x = .map (some g)) (hy : a.eval y = str k) (hz : a.eval z = .bool true) (hT : Tr w g ks) (hn : k ∉ ks) (hoth : ¬ X.oth s g)
    (h : ∀ w', Tr w' g (ks ++ [k]) → Chg (fun b => b = g) w w' → w'.heap.size = w.heap.size → K s (a.put o.dst undef) w') : One P X fn ops o Q K s a w := by
  have he : execOp a.eval o = (do Instr.mapUpdate t (.map (some g)) (str k) (.bool true); pure Next.skip : Sem Next) := by
    unfold execOp
    simp only [ho, hx, hy, hz]
  obtain ⟨w', h1, h2, h3, h4⟩ := run_store_tr (P := P) t kt et ht hk hT k hn
  unfold One
  rw [if_pos hw]
  refine ⟨fun ht' => fine_of_only (W := fun b => b = g) ?_ ht' (fun b hb => by subst hb; exact ⟨hoth, hT.lt, fun x t e => by obtain ⟨es, c, h, -⟩ := hT; rw [h] at e; cases e⟩), ?_⟩
  · rw [he]
    exact only_bind (only_mapUpdate (W := fun b => b = g) t kt et ht hk g rfl _ _) fun _ => trivial
  · have hr : (execOp a.eval o).run P w = .ok .skip w' := by
      rw [he, Sem.run_bind, h1]
      rfl
    rw [hr]
    exact h w' h2 h3 h4
theorem one_map {K : γ → Act → World → Prop} (t : TypeId) (ho : o.op = .makeMap t none) (hw : Region.wanted o (yielded ops a.tmps) = true) (h : Tr (w.alloc (.map #[] 0)) w.heap.size [] → K s (a.put o.dst (.map (some w.heap.size))) (w.alloc (.map #[] 0))) : One P X fn ops o Q K s a w := by
  have he : execOp a.eval o = (do pure (Next.value (← Instr.makeMap t none)) : Sem Next) := by
    unfold execOp
    simp only [ho]
    rfl
  refine one_run hw (fun ht' => fine_none ?_ ht') (v := .map (some w.heap.size)) (w' := w.alloc (.map #[] 0)) ?_ (h ⟨#[], 0, heap_alloc_new w _, rfl⟩)
  · rw [he]
    exact only_v (only_bind (only_newObj _) fun _ => trivial)
  · rw [he]
    rfl
end
end Go.Proofs.YtgchailmcbifdaaDoor.Jay
