/- A region whose order is drawn, in which several operations each lay a new block: whatever order is drawn, one walk, the blocks' numbers left open. No program in sight. -/
import Derived.Test.YtgchailmcbifdaaDoorDraw
import Derived.Test.YtgchailmcbifdaaDoorRow
namespace Go.Proofs.YtgchailmcbifdaaDoor.Jay
open Go Go.Conc Go.RowKit

/-- Operations that are walked as laying one new block, and nothing else. -/
def grows : Op → Bool
  | .makeSlice .. | .alloc _ | .box .. | .buildSlice .. => true
  | _ => false

/-- In whatever world: a new block 'ob' at the heap's end, and a value that hangs on its number. -/
def Lays (P : Program) (ops : Array Oper) (o : Oper) (F : Nat → Value) (ob : Obj) (a : Act) : Prop :=
  Region.wanted o (yielded ops a.tmps) = true ∧ Only P (fun _ => False) (execOp a.eval o) ∧ ∀ w : World, (execOp a.eval o).run P w = .ok (.value (F w.heap.size)) (w.alloc ob)

def Closed (S : World → Prop) : Prop := ∀ w o, S w → S (w.alloc o)
/-- S, and this block. -/
def WithB (S : World → Prop) (g : Nat) (ob : Obj) : World → Prop := fun w => S w ∧ w.heap[g]? = some ob
def Bnd (N : Nat → Prop) : Prop := ∃ B, ∀ b, N b → b < B
def WithN (N : Nat → Prop) (g : Nat) : Nat → Prop := fun b => N b ∨ b = g

section
variable {P : Program} {γ : Type} {X : Turns γ} {fn : FuncId} {Q : γ → Exit → Act → World → Prop} {ops : Array Oper}

theorem Closed.withB {S : World → Prop} (h : Closed S) (g : Nat) (ob : Obj) : Closed (WithB S g ob) := fun w o hw => ⟨h w o hw.1, (Below.heap_alloc w o g (Array.getElem?_eq_some_iff.1 hw.2).1).trans hw.2⟩

theorem Lays.of_same {o : Oper} {F : Nat → Value} {ob : Obj} {a a' : Act} (hy : Lays P ops o F ob a) (he : execOp a'.eval o = execOp a.eval o)
    (hw : Region.wanted o (yielded ops a'.tmps) = Region.wanted o (yielded ops a.tmps)) : Lays P ops o F ob a' := by
  unfold Lays at *
  rw [he, hw]
  exact hy
theorem Lays.unique {o : Oper} {F F' : Nat → Value} {ob ob' : Obj} {a : Act} (h : Lays P ops o F ob a) (h' : Lays P ops o F' ob' a) (w : World) : F w.heap.size = F' w.heap.size ∧ ob = ob' := by
  have e := (h.2.2 w).symm.trans (h'.2.2 w)
  simp only [Result.ok.injEq, Next.value.injEq] at e
  refine ⟨e.1, ?_⟩
  have e2 : (w.alloc ob).heap = (w.alloc ob').heap := by rw [e.2]
  exact (Array.push_eq_push.1 e2).1
theorem exists_world (w : World) (n : Nat) : ∃ w' : World, w'.heap.size = n := ⟨{ w with heap := Array.replicate n (.cells #[] 0) }, by simp⟩

def Dg (P : Program) {γ : Type} (X : Turns γ) (fn : FuncId) (ops : Array Oper) (Q : γ → Exit → Act → World → Prop) : List Nat → (Nat → Prop) → (World → Prop) → γ → Act → Prop
  | [], N, S, s, a => ∀ w, S w → (∀ b, N b → b < w.heap.size) → Q s .normal a w
  | i :: rest, N, S, s, a => ∃ o, ops[i]? = some o ∧
      if calm o.op = true then ∃ v, Still P ops S o v a ∧ Dg P X fn ops Q rest N S s (a.put o.dst v)
      else if grows o.op = true then ∃ F ob, Lays P ops o F ob a ∧ ∀ g, ¬ N g → Dg P X fn ops Q rest (WithN N g) (WithB S g ob) s (a.put o.dst (F g))
      else ∀ w, S w → (∀ b, N b → b < w.heap.size) → One P X fn ops o Q (fun s' a' w' => ∃ (N' : Nat → Prop) (S' : World → Prop), S' w' ∧ Closed S' ∧ (∀ b, N' b → b < w'.heap.size) ∧ Dg P X fn ops Q rest N' S' s' a') s a w

theorem Still.anti {S S' : World → Prop} {o : Oper} {v : Value} {a : Act} (h : Still P ops S o v a) (hS : ∀ w, S' w → S w) : Still P ops S' o v a :=
  h.imp (fun ⟨h1, h2, h3⟩ => ⟨h1, h2, fun w hw => h3 w (hS w hw)⟩) id

theorem Dg.anti : ∀ (l : List Nat) {N N' : Nat → Prop} {S S' : World → Prop} {s : γ} {a : Act}, Dg P X fn ops Q l N S s a → (∀ b, N b → N' b) → (∀ w, S' w → S w) → Dg P X fn ops Q l N' S' s a
  | [], _, _, _, _, _, _, h, hN, hS => fun w hw hb => h w (hS w hw) fun b hn => hb b (hN b hn)
  | i :: rest, N, N', S, S', s, a, h, hN, hS => by
    obtain ⟨o, ho, h⟩ := h
    refine ⟨o, ho, ?_⟩
    split at h
    · rename_i hc
      rw [if_pos hc]
      obtain ⟨v, hv, h⟩ := h
      exact ⟨v, hv.anti hS, Dg.anti rest h hN hS⟩
    · rename_i hc
      rw [if_neg hc]
      split at h
      · rename_i hg
        rw [if_pos hg]
        obtain ⟨F, ob, hl, h⟩ := h
        exact ⟨F, ob, hl, fun g hg => Dg.anti rest (h g fun hn => hg (hN g hn)) (fun b hb => hb.imp (hN b) id) fun w hw => ⟨hS w hw.1, hw.2⟩⟩
      · rename_i hg
        rw [if_neg hg]
        exact fun w hw hb => h w (hS w hw) fun b hn => hb b (hN b hn)

theorem Dg.swap {x i : Nat} {ox oi : Oper} {rest : List Nat} {N : Nat → Prop} {S : World → Prop} {s : γ} {a : Act} (w₀ : World) (hN : Bnd N) (hx : ops[x]? = some ox) (hi : ops[i]? = some oi) (hsel : ∀ (j : Nat) (o : Oper) cs b, ops[j]? = some o → o.op ≠ .select cs b)
    (hap : ox.apart ops oi = true) (hk : calm ox.op = true ∧ (calm oi.op = true ∨ grows oi.op = true) ∨ calm ox.op = false ∧ calm oi.op = false ∧ grows ox.op = true ∧ grows oi.op = true) (h : Dg P X fn ops Q (x :: i :: rest) N S s a) : Dg P X fn ops Q (i :: x :: rest) N S s a := by
  obtain ⟨o, ho, h⟩ := h
  obtain rfl : ox = o := by rw [hx] at ho; exact Option.some.inj ho
  obtain ⟨h1, h2, h3⟩ := Oper.apart_spec hap
  have sx := fun cs b => hsel x ox cs b hx
  have si := fun cs b => hsel i oi cs b hi
  rcases hk with ⟨hcx, hki⟩ | ⟨hcx, hci, hgx, hgi⟩
  · rw [if_pos hcx] at h
    obtain ⟨v, hv, o', ho', h⟩ := h
    obtain rfl : oi = o' := by rw [hi] at ho'; exact Option.some.inj ho'
    refine ⟨oi, hi, ?_⟩
    by_cases hci : calm oi.op = true
    · rw [if_pos hci] at h ⊢
      obtain ⟨u, hu, h⟩ := h
      refine ⟨u, hu.of_same (execOp_put oi si a ox.dst v h1).symm (wanted_put oi a ox.dst v h1).symm, ox, hx, ?_⟩
      rw [if_pos hcx]
      refine ⟨v, hv.of_same (execOp_put ox sx a oi.dst u h3) (wanted_put ox a oi.dst u h3), ?_⟩
      rw [← Act.put_comm a v u h2]
      exact h
    · have hgi := hki.resolve_left hci
      rw [if_neg hci, if_pos hgi] at h ⊢
      obtain ⟨F, ob, hl, h⟩ := h
      refine ⟨F, ob, hl.of_same (execOp_put oi si a ox.dst v h1).symm (wanted_put oi a ox.dst v h1).symm, fun g hg => ⟨ox, hx, ?_⟩⟩
      rw [if_pos hcx]
      refine ⟨v, (hv.of_same (execOp_put ox sx a oi.dst (F g) h3) (wanted_put ox a oi.dst (F g) h3)).anti fun w hw => hw.1, ?_⟩
      rw [← Act.put_comm a v (F g) h2]
      exact h g hg
  · have hcx' : ¬ calm ox.op = true := by simp [hcx]
    have hci' : ¬ calm oi.op = true := by simp [hci]
    rw [if_neg hcx', if_pos hgx] at h
    obtain ⟨F, ob, hl, h⟩ := h
    have same : ∀ g, execOp (a.put ox.dst (F g)).eval oi = execOp a.eval oi ∧ Region.wanted oi (yielded ops (a.put ox.dst (F g)).tmps) = Region.wanted oi (yielded ops a.tmps) := fun g => ⟨execOp_put oi si a ox.dst (F g) h1, wanted_put oi a ox.dst (F g) h1⟩
    have each : ∀ g, ¬ N g → ∃ G u, Lays P ops oi G u a ∧ ∀ k, ¬ WithN N g k → Dg P X fn ops Q rest (WithN (WithN N g) k) (WithB (WithB S g ob) k u) s ((a.put ox.dst (F g)).put oi.dst (G k)) := fun g hg => by
      obtain ⟨o', ho', h'⟩ := h g hg
      obtain rfl : oi = o' := by rw [hi] at ho'; exact Option.some.inj ho'
      rw [if_neg hci', if_pos hgi] at h'
      obtain ⟨G, u, hl', h'⟩ := h'
      exact ⟨G, u, hl'.of_same (same g).1.symm (same g).2.symm, h'⟩
    refine ⟨oi, hi, ?_⟩
    rw [if_neg hci', if_pos hgi]
    focus
      obtain ⟨g₀, hg₀⟩ := hN
      replace hg₀ : ¬ N g₀ := fun h => by have := hg₀ _ h; omega
      obtain ⟨G, u, hG, _⟩ := each g₀ hg₀
      refine ⟨G, u, hG, fun k hk => ⟨ox, hx, ?_⟩⟩
      rw [if_neg hcx', if_pos hgx]
      refine ⟨F, ob, hl.of_same (execOp_put ox sx a oi.dst (G k) h3) (wanted_put ox a oi.dst (G k) h3), fun g hg => ?_⟩
      have hgN : ¬ N g := fun hn => hg (.inl hn)
      obtain ⟨G', u', hG', h'⟩ := each g hgN
      obtain ⟨w', hw'⟩ := exists_world w₀ k
      have e := hG.unique hG' w'
      rw [hw'] at e
      have hd := h' k (fun hn => by
        rcases hn with hn | hn
        · exact hk hn
        · exact hg (.inr hn.symm))
      rw [← e.1, ← e.2] at hd
      rw [← Act.put_comm a (F g) (G k) h2]
      exact Dg.anti rest hd (fun b hb => by
        rcases hb with (hb | hb) | hb
        · exact .inl (.inl hb)
        · exact .inr hb
        · exact .inl (.inr hb)) fun w hw => ⟨⟨hw.1.1, hw.2⟩, hw.1.2⟩

theorem Bnd.withN {N : Nat → Prop} (h : Bnd N) (g : Nat) : Bnd (WithN N g) := by
  obtain ⟨B, hB⟩ := h
  refine ⟨max B (g + 1), fun b hb => ?_⟩
  rcases hb with hb | rfl
  · have := hB b hb; omega
  · omega

/-- What may stand ahead of an operation that comes up. -/
def MayPass (ops : Array Oper) (x : Nat) (o : Oper) : Prop :=
  ∃ ox, ops[x]? = some ox ∧ ox.apart ops o = true ∧ (calm ox.op = true ∧ (calm o.op = true ∨ grows o.op = true) ∨ calm ox.op = false ∧ calm o.op = false ∧ grows ox.op = true ∧ grows o.op = true)

theorem Dg.front {i : Nat} {oi : Oper} (w₀ : World) (hi : ops[i]? = some oi) (hsel : ∀ (j : Nat) (o : Oper) cs b, ops[j]? = some o → o.op ≠ .select cs b) (post : List Nat) : ∀ (pre : List Nat) (N : Nat → Prop) (S : World → Prop) (s : γ) (a : Act), Bnd N →
    (∀ x ∈ pre, MayPass ops x oi) → Dg P X fn ops Q (pre ++ i :: post) N S s a → Dg P X fn ops Q (i :: (pre ++ post)) N S s a
  | [], _, _, _, _, _, _, h => h
  | x :: pre, N, S, s, a, hN, hp, h => by
    obtain ⟨ox, hox, hap, hk⟩ := hp x (List.mem_cons_self ..)
    refine Dg.swap w₀ hN hox hi hsel hap hk ?_
    obtain ⟨o, ho, h⟩ := h
    obtain rfl : ox = o := by rw [hox] at ho; exact Option.some.inj ho
    refine ⟨ox, hox, ?_⟩
    rcases hk with ⟨hc, _⟩ | ⟨hc, _, hg, _⟩
    · rw [if_pos hc] at h ⊢
      obtain ⟨v, hv, h⟩ := h
      exact ⟨v, hv, Dg.front w₀ hi hsel post pre N S s _ hN (fun y hy => hp y (List.mem_cons_of_mem _ hy)) h⟩
    · have hc' : ¬ calm ox.op = true := by simp [hc]
      rw [if_neg hc', if_pos hg] at h ⊢
      obtain ⟨F, ob, hl, h⟩ := h
      exact ⟨F, ob, hl, fun g hg => Dg.front w₀ hi hsel post pre _ _ s _ (hN.withN g) (fun y hy => hp y (List.mem_cons_of_mem _ hy)) (h g hg)⟩

/-! ### The check -/

def growsAt (ops : Array Oper) (i : Nat) : Bool := match ops[i]? with | some o => grows o.op | none => false
/-- x stands ahead of i. -/
def okPairG (ops : Array Oper) (A : List Nat) (x i : Nat) : Bool := x != i && !edgeTo ops x i &&
  (waits? A i x || (apartAt ops x i && (calmAt ops x && (calmAt ops i || growsAt ops i) || !calmAt ops x && !calmAt ops i && growsAt ops x && growsAt ops i)))
def okPairsG (ops : Array Oper) (A : List Nat) : List Nat → Bool
  | [] => true
  | x :: rest => rest.all (okPairG ops A x) && okPairsG ops A rest
def okOrderG (ops : Array Oper) (A ord : List Nat) : Bool :=
  (List.range ops.size).all (fun i => ord.contains i && okMask ops A i) && ord.all (· < ops.size) && okPairsG ops A ord && Region.noSelect ops

theorem okPairsG_spec {A : List Nat} : ∀ {ord : List Nat}, okPairsG ops A ord = true → ord.Pairwise fun x i => okPairG ops A x i = true
  | [], _ => .nil
  | x :: rest, hh => by
    simp only [okPairsG, Bool.and_eq_true, List.all_eq_true] at hh
    exact .cons hh.1 (okPairsG_spec hh.2)

theorem Lays.one {o : Oper} {F : Nat → Value} {ob : Obj} {s : γ} {a : Act} {w : World} {K : γ → Act → World → Prop} (hl : Lays P ops o F ob a) (h : K s (a.put o.dst (F w.heap.size)) (w.alloc ob)) : One P X fn ops o Q K s a w := by
  unfold One
  rw [if_pos hl.1]
  refine ⟨fun ht => fine_none hl.2.1 ht, ?_⟩
  rw [hl.2.2 w]
  exact h

/-- THE RULE. -/
theorem j_region_dg {rid : Nat} {s : γ} {a : Act} {w : World} (A ord : List Nat) (S : World → Prop) (hm : P.follows .mixedOrders = true) (hok : okOrderG ops A ord = true) (hS : S w.drew) (hcl : Closed S)
    (h : Dg P X fn ops Q ord (· < w.heap.size) S s a) : Wp P X fn (.region rid ops true) Q s a w := by
  simp only [okOrderG, Bool.and_eq_true, List.all_eq_true, List.mem_range] at hok
  obtain ⟨⟨⟨hall, hrange⟩, hpairs⟩, hns⟩ := hok
  have hsel := Region.noSelect_spec hns
  have hpw := okPairsG_spec hpairs
  have hnd : ord.Nodup := nodup_of_okPairs (ok := okPairG ops A) (fun x i h => by simp [okPairG] at h; exact h.1.1) hpw
  refine j_region_inv (I := fun listed s a w => listed.size = ops.size ∧ (∀ i x, listed.getD i false = true → waits? A i x = true → listed.getD x false = true) ∧
    ∃ (N : Nat → Prop) (S : World → Prop), S w ∧ Closed S ∧ (∀ b, N b → b < w.heap.size) ∧ Dg P X fn ops Q (ord.filter fun i => !listed.getD i false) N S s a) hm ?_ ?_ ?_
  · exact ⟨by simp, down_none A, (· < w.heap.size), S, hS, hcl, fun b hb => hb, by rw [filter_none]; exact h⟩
  · rintro i o listed s a w ho hr ⟨hsz, hdown, N, S, hS, hcl, hN, hdl⟩
    obtain ⟨hun, o', ho', hafter⟩ := mem_ready.1 hr
    obtain rfl : o = o' := by rw [ho] at ho'; exact Option.some.inj ho'
    have hlt : i < ops.size := (Array.getElem?_eq_some_iff.1 ho).1
    have hltl : i < listed.size := by omega
    have hwait := waited ho (hall i hlt).2 hafter hdown
    have hmem : i ∈ ord := by simpa using (hall i hlt).1
    have hunf := unlisted hltl hun
    obtain ⟨pre, post, heq⟩ := List.append_of_mem hmem
    have hset : ∀ j, j ≠ i → (listed.setIfInBounds i true).getD j false = listed.getD j false := fun j hj => getD_set_ne false (Ne.symm hj)
    have hself : (listed.setIfInBounds i true).getD i false = true := by simp [hltl]
    have hnd' := hnd
    rw [heq, List.nodup_append] at hnd'
    have h1 : (ord.filter fun i => !listed.getD i false) = (pre.filter fun i => !listed.getD i false) ++ i :: (post.filter fun i => !listed.getD i false) := by
      rw [heq, List.filter_append, List.filter_cons_of_pos (by simp [hunf])]
    have h2 : (ord.filter fun j => !(listed.setIfInBounds i true).getD j false) = (pre.filter fun i => !listed.getD i false) ++ (post.filter fun i => !listed.getD i false) := by
      rw [heq, List.filter_append, List.filter_cons_of_neg (by rw [hself]; simp)]
      congr 1 <;> refine List.filter_congr fun x hx => ?_
      · rw [hset x (fun e => hnd'.2.2 x hx i (List.mem_cons_self ..) e)]
      · rw [hset x (fun e => (List.nodup_cons.1 hnd'.2.1).1 (e ▸ hx))]
    rw [h1] at hdl
    have hfront := Dg.front w ho hsel _ _ N S s a ⟨_, hN⟩ (fun x hx => by
      rw [List.mem_filter] at hx
      have hxo : x ∈ ord := by rw [heq]; exact List.mem_append_left _ hx.1
      have hxlt : x < ops.size := by simpa using hrange x hxo
      have hok := okPairs_before hpw heq x hx.1
      have hnw : waits? A i x = false := by
        cases hb : waits? A i x with
        | false => rfl
        | true => have := hwait x hb; simp [this] at hx
      refine ⟨ops[x], Array.getElem?_eq_getElem hxlt, ?_⟩
      simp only [okPairG, hnw, apartAt, calmAt, growsAt, Array.getElem?_eq_getElem hxlt, ho, Bool.and_eq_true, Bool.or_eq_true, Bool.not_eq_true', Bool.false_eq_true, false_or] at hok
      obtain ⟨_, hap, hk⟩ := hok
      refine ⟨hap, ?_⟩
      rcases hk with hk | hk
      · exact .inl hk
      · exact .inr ⟨hk.1.1.1, hk.1.1.2, hk.1.2, hk.2⟩) hdl
    rw [← h2] at hfront
    obtain ⟨o', ho', hf⟩ := hfront
    obtain rfl : o = o' := by rw [ho] at ho'; exact Option.some.inj ho'
    have hsz' : (listed.setIfInBounds i true).size = ops.size := by simp [hsz]
    have hd' := down_step hltl hwait hdown
    split at hf
    · obtain ⟨v, hv, hd⟩ := hf
      exact hv.one hS ⟨hsz', hd', N, S, hS, hcl, hN, hd⟩
    · split at hf
      · obtain ⟨F, ob, hl, hd⟩ := hf
        have hnew : ¬ N w.heap.size := fun hn => by have := hN _ hn; omega
        refine hl.one ⟨hsz', hd', WithN N w.heap.size, WithB S w.heap.size ob, ⟨hcl w ob hS, heap_alloc_new w ob⟩, hcl.withB _ _, fun b hb => ?_, hd _ hnew⟩
        rw [size_alloc]
        rcases hb with hb | rfl
        · have := hN b hb; omega
        · omega
      · exact One.mono (hf w hS hN) fun s' a' w' ⟨N', S', hS', hcl', hN', hd⟩ => ⟨hsz', hd', N', S', hS', hcl', hN', hd⟩
  · rintro listed s a w hnil ⟨hsz, hdown, N, S, hS, hcl, hN, hdl⟩
    rw [all_up hsz (fun i hi => (hall i hi).2) (fun i hi => by simpa using (hall i hi).1) (fun i hi => by simpa using hrange i hi) hpw (fun x i h => by simp [okPairG] at h; exact h.1.2) hnil] at hdl
    exact hdl w hS hN

/-! ### The moves -/

theorem dg_nil {N : Nat → Prop} {S : World → Prop} {s : γ} {a : Act} (h : ∀ w, S w → (∀ b, N b → b < w.heap.size) → Q s .normal a w) : Dg P X fn ops Q [] N S s a := h
theorem dg_calm {N : Nat → Prop} {S : World → Prop} {s : γ} {a : Act} {i : Nat} {rest : List Nat} {o : Oper} {v : Value} (ho : ops.toList[i]? = some o) (hc : calm o.op = true) (hw : Region.wanted o (yielded ops a.tmps) = true) (hO : Only P (fun _ => False) (execOp a.eval o))
    (hv : ∀ w, S w → (execOp a.eval o).run P w = .ok (.value v) w) (h : Dg P X fn ops Q rest N S s (a.put o.dst v)) : Dg P X fn ops Q (i :: rest) N S s a := by
  refine ⟨o, by rw [← Array.getElem?_toList]; exact ho, ?_⟩
  rw [if_pos hc]
  exact ⟨v, .inl ⟨hw, hO, hv⟩, h⟩
theorem dg_lay {N : Nat → Prop} {S : World → Prop} {s : γ} {a : Act} {i : Nat} {rest : List Nat} {o : Oper} (F : Nat → Value) (ob : Obj) (ho : ops.toList[i]? = some o) (hc : calm o.op = false) (hg : grows o.op = true) (hw : Region.wanted o (yielded ops a.tmps) = true) (hO : Only P (fun _ => False) (execOp a.eval o))
    (hv : ∀ w : World, (execOp a.eval o).run P w = .ok (.value (F w.heap.size)) (w.alloc ob)) (h : ∀ g, ¬ N g → Dg P X fn ops Q rest (WithN N g) (WithB S g ob) s (a.put o.dst (F g))) : Dg P X fn ops Q (i :: rest) N S s a := by
  refine ⟨o, by rw [← Array.getElem?_toList]; exact ho, ?_⟩
  rw [if_neg (by simp [hc]), if_pos hg]
  exact ⟨F, ob, ⟨hw, hO, hv⟩, h⟩
theorem dg_do {N : Nat → Prop} {S : World → Prop} {s : γ} {a : Act} {i : Nat} {rest : List Nat} {o : Oper} (ho : ops.toList[i]? = some o) (hc : calm o.op = false) (hg : grows o.op = false)
    (h : ∀ w, S w → (∀ b, N b → b < w.heap.size) → One P X fn ops o Q (fun s' a' w' => ∃ (N' : Nat → Prop) (S' : World → Prop), S' w' ∧ Closed S' ∧ (∀ b, N' b → b < w'.heap.size) ∧ Dg P X fn ops Q rest N' S' s' a') s a w) : Dg P X fn ops Q (i :: rest) N S s a := by
  refine ⟨o, by rw [← Array.getElem?_toList]; exact ho, ?_⟩
  rw [if_neg (by simp [hc]), if_neg (by simp [hg])]
  exact h

theorem dg_make {N : Nat → Prop} {S : World → Prop} {s : γ} {a : Act} {i : Nat} {rest : List Nat} {o : Oper} {l c : Operand} {t : TypeId} (ho : ops.toList[i]? = some o) (hop : o.op = Op.makeSlice t l c) (hw : Region.wanted o (yielded ops a.tmps) = true)
    (e : TypeId) (z : Value) (bytes : Nat) (ht : P.underlying t = some (.slice e)) (hinfo : (P.info? e).map (fun i => (i.zero, i.size, i.bytes)) = some (some z, 1, bytes)) (hz1 : z.cells = #[z])
    (kl kc : IntKind) (n : Nat) (hl : a.eval l = .int kl (n : Int)) (hc : a.eval c = .int kc (n : Int)) (hbytes : bytes * n ≤ 281474976710656) (h63 : n ≤ 9223372036854775807)
    (h : ∀ g, ¬ N g → Dg P X fn ops Q rest (WithN N g) (WithB S g (.cells (List.replicate n z).toArray e)) s (a.put o.dst (.slice (some ⟨g, 0, none⟩) n n))) : Dg P X fn ops Q (i :: rest) N S s a := by
  refine dg_lay (fun g => .slice (some ⟨g, 0, none⟩) n n) (.cells (List.replicate n z).toArray e) ho (by rw [hop]; rfl) (by rw [hop]; rfl) hw (only_idle (by rw [hop]; rfl) _) (fun w => ?_) h
  have hrun := run_make_row' (P := P) t e z bytes ht hinfo hz1 kl kc n hbytes h63 w
  rw [madeCells_one] at hrun
  simp [execOp, hop, hl, hc, hrun, Result.andThen]
theorem closed_below (w : World) : Closed (Below w.heap.size w) := fun _ o h => h.alloc h.size o
end
end Go.Proofs.YtgchailmcbifdaaDoor.Jay
