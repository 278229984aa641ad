/- Package judge: the rows that may be behind a Get. -/
import Derived.Test.YtgchailmcbifdaaDoorJgE
namespace Go.Proofs.YtgchailmcbifdaaDoor.Jg
set_option linter.unusedSimpArgs false
set_option linter.unusedVariables false
set_option maxRecDepth 20000
open Go Go.Conc Go.RowKit Go.Proofs.YtgchailmcbifdaaDoor.Jay Go.Proofs.YtgchailmcbifdaaDoor.Pl
section
variable {γ : Type} {X : Turns γ} {s : γ} {w : World}
attribute [local go_sem] upon_value upon_skip

/-- Rows of a row of rows: what each reads; none lies where the row of rows grows. -/
def Rd (w : World) (V : Value) (vs : List Value) (rows : List (List Int)) : Prop := vs.length = rows.length ∧ ∀ (i : Nat) (r : List Int), rows[i]? = some r → ∃ v, vs[i]? = some v ∧ Rw w w.heap.size v r ∧ (r ≠ [] → ∀ g, v.ownBlock = some g → V.ownBlock ≠ some g)
/-- A row of rows of one's own. -/
def Rws (w : World) (B : Nat) (V : Value) (rows : List (List Int)) : Prop := ∃ vs, w.ownsRow B 38 1 V vs.length vs ∧ Rd w V vs rows
def RwsPost (s : γ) (w : World) (rows : List (List Int)) (s' : γ) (r : Came) (w' : World) : Prop := s' = s ∧ Below w.heap.size w w' ∧ ∃ V, r = .back V ∧ Rws w' w.heap.size V rows
theorem info_row : (Tryd.prog.info? 38).map (fun i => (i.zero, i.size, i.bytes)) = some (some (.slice none 0 0), 1, 24) := by kernel_rfl
theorem under_rows : Tryd.prog.underlying 41 = some (.slice 38) := by kernel_rfl
theorem Rws.nil (w : World) (B : Nat) : Rws w B (.slice none 0 0) [] := ⟨[], World.ownsRow_nil w _ _ 1, rfl, fun i r h => by simp at h⟩
theorem Rw.one {w : World} {B : Nat} {v : Value} {xs : List Int} (h : Rw w B v xs) : v.oneCell' = true := by obtain ⟨_, A, c, rfl, _⟩ := h; rfl
theorem Rw.at_ {w : World} {B : Nat} {v : Value} {xs : List Int} (h : Rw w B v xs) (h0 : xs ≠ []) : ∃ b o c, v = .slice (some ⟨b, o, none⟩) xs.length c ∧ b < B ∧ ∀ (i : Nat) (hi : i < xs.length), w.cell? ⟨b, o + i, none⟩ = some (.int .u32 xs[i]) := by
  obtain ⟨b, o, c, e, hb, _, _, hc⟩ := Sl.row h (List.length_pos_iff.2 h0)
  refine ⟨b, o, c, e, hb, fun i hi => hc i _ ?_⟩
  unfold R32
  rw [List.getElem?_map, List.getElem?_eq_getElem hi]
  rfl
theorem Rw.grown {w w' : World} {B : Nat} {v : Value} {xs : List Int} {row : Option Nat} (h : Rw w B v xs) (hB : B ≤ w.heap.size) (hg : w.grownBy w' row) (hn : xs ≠ [] → ∀ g, v.ownBlock = some g → row ≠ some g) : Rw w' B v xs := by
  obtain ⟨h1, A, c, rfl, h2, h3, h4⟩ := h
  refine ⟨h1, A, c, rfl, h2, h3, fun h5 => ?_⟩
  obtain ⟨b, o, rfl, hb, hc⟩ := h4 h5
  refine ⟨b, o, rfl, hb, fun j u hu => ?_⟩
  rw [← hc j u hu]
  exact World.cell?_of_block (hg.block b (by omega) (fun e => hn (List.length_pos_iff.1 h5) b rfl e.symm))
theorem Rws.rd {w : World} {B : Nat} {V : Value} {rows : List (List Int)} (h : Rws w B V rows) : ∃ vs, Rd w V vs rows ∧ w.ownsRow B 38 1 V vs.length vs := by obtain ⟨vs, h1, h2⟩ := h; exact ⟨vs, h2, h1⟩
theorem Rws.ge {w : World} {B : Nat} {V : Value} {rows : List (List Int)} (h : Rws w B V rows) {g : Nat} (hg : V.ownBlock = some g) : B ≤ g ∧ g < w.heap.size := by
  obtain ⟨vs, h1, -⟩ := h
  refine ⟨?_, own_lt h1 hg⟩
  obtain ⟨h1, ⟨rfl, _⟩ | ⟨g', cap, cur, rfl, hb, _⟩⟩ := h1
  · cases hg
  · have : g' = g := Option.some.inj hg
    omega
theorem Rws.below {w w' : World} {B : Nat} {V : Value} {rows : List (List Int)} (h : Rws w B V rows) (hb : Below w.heap.size w w') : Rws w' B V rows := by
  obtain ⟨vs, h1, h2, h3⟩ := h
  exact ⟨vs, own_keep h1 fun g _ hl => hb.block g hl, h2, fun i r hr => by obtain ⟨v, h4, h5, h6⟩ := h3 i r hr; exact ⟨v, h4, (h5.below hb).more hb.size, h6⟩⟩
theorem Rws.base {w : World} {B B' : Nat} {V : Value} {rows : List (List Int)} (h : Rws w B V rows) (hB : B' ≤ B) : Rws w B' V rows := by
  obtain ⟨vs, ⟨h1, ⟨h2, h3⟩ | ⟨g, cap, cur, h2, h3, h4⟩⟩, h5⟩ := h
  · exact ⟨vs, ⟨h1, .inl ⟨h2, h3⟩⟩, h5⟩
  · exact ⟨vs, ⟨h1, .inr ⟨g, cap, cur, h2, Nat.le_trans hB h3, h4⟩⟩, h5⟩

section
variable {fn : FuncId} {Q : γ → Exit → Act → World → Prop} {a : Act} {ops : Array Oper} {o : Oper}
/-- One row more. -/
theorem one_append_row {K : γ → Act → World → Prop} (x y : Operand) (ho : o.op = .call { callee := .builtin .append, args := #[x, y], argTypes := #[41, 41] }) (hw : Region.wanted o (yielded ops a.tmps) = true)
    {B : Nat} {V : Value} {rows : List (List Int)} {v : Value} {r : List Int} {g : Nat} {t : TypeId} (hs : a.eval x = V) (hV : Rws w B V rows) (hoth : ∀ g, V.ownBlock = some g → ¬ X.oth s g) (hy : a.eval y = .slice (some ⟨g, 0, none⟩) 1 1) (hg : Blk w g t #[v])
    (hr : Rw w w.heap.size v r) (hd : r ≠ [] → ∀ b, v.ownBlock = some b → V.ownBlock ≠ some b) (hlen : rows.length ≤ 400000) (hB : B ≤ w.heap.size)
    (h : ∀ V' w', Rws w' B V' (rows ++ [r]) → w.grownBy w' V.ownBlock → K s (a.put o.dst V') w') : One Tryd.prog X fn ops o Q K s a w := by
  have hV0 := hV
  obtain ⟨vs, h1, h2, h3⟩ := hV
  refine one_append_any x y 41 ho hw B 38 (.slice none 0 0) 1 24 under_rows info_row rfl (by decide) V vs.length vs hs h1 hoth _ w.heap.size 1 [v] hy
    (by have := Sl.of_blk (n := 1) (size := 1) (c := 1) hg (by simp) (Nat.le_refl _) (by unfold maxLen; omega) hg.lt; simpa using this) (fun u hu => by rw [List.mem_singleton.1 hu]; exact hr.one) (by unfold maxLen; omega) (by omega) hB ?_
  intro V' w' own' gr' hv'
  refine h V' w' ⟨vs ++ [v], by rw [List.length_append]; exact own', ?_⟩ gr'
  have hex : ∀ {b : Nat}, b < w.heap.size → V.ownBlock ≠ some b → V'.ownBlock ≠ some b := by
    intro b hb hn
    rcases hv' with rfl | h4 | h4
    · exact hn
    · rw [h4]; exact hn
    · rw [h4]; intro e; cases e; omega
  have hrow : ∀ {u : Value} {q : List Int}, Rw w w.heap.size u q → (q ≠ [] → ∀ b, u.ownBlock = some b → V.ownBlock ≠ some b) → Rw w' w'.heap.size u q ∧ (q ≠ [] → ∀ b, u.ownBlock = some b → V'.ownBlock ≠ some b) := by
    intro u q hq hx
    refine ⟨(hq.grown (Nat.le_refl _) gr' hx).more gr'.size, fun hne b hb => ?_⟩
    obtain ⟨b', o', c', e, hb', -⟩ := hq.at_ hne
    subst e
    cases hb
    exact hex hb' (hx hne b' rfl)
  refine ⟨by simp [h2], fun i q hq => ?_⟩
  rcases Nat.lt_trichotomy i rows.length with h4 | h4 | h4
  · rw [List.getElem?_append_left h4] at hq
    obtain ⟨u, h5, h6, h7⟩ := h3 i q hq
    obtain ⟨h8, h9⟩ := hrow h6 h7
    exact ⟨u, by rw [List.getElem?_append_left (by omega)]; exact h5, h8, h9⟩
  · subst h4
    rw [List.getElem?_append_right (Nat.le_refl _), Nat.sub_self] at hq
    cases hq
    obtain ⟨h8, h9⟩ := hrow hr hd
    exact ⟨v, by rw [← h2, List.getElem?_append_right (Nat.le_refl _), Nat.sub_self]; rfl, h8, h9⟩
  · rw [List.getElem?_append_right (by omega), List.getElem?_eq_none (by simp; omega)] at hq
    cases hq
end

theorem al_ {w w' : World} (h : Below w.heap.size w w') (o : Obj) : Below w.heap.size w (w'.alloc o) := h.alloc h.size o

theorem rows_step {f i : Nat} (h : f ≤ i) (p : Nat → Bool) (g : Nat → List Int) : ((List.range' f (i + 1 - f)).filter p).map g = ((List.range' f (i - f)).filter p).map g ++ (if p i = true then [g i] else []) := by
  rw [show i + 1 - f = i - f + 1 by omega, List.range'_concat, List.filter_append, List.map_append, show f + 1 * (i - f) = i by omega]
  congr 1
  cases hp : p i <;> simp [hp]
theorem Rws.ne {w : World} {B : Nat} {V : Value} {rows : List (List Int)} (h : Rws w B V rows) {g : Nat} {t : TypeId} {cs : Array Value} (hb : Blk w g t cs) (ht : t ≠ 38) : V.ownBlock ≠ some g := by
  obtain ⟨vs, ⟨_, ⟨rfl, _⟩ | ⟨g', cap, cur, rfl, _, hg, _⟩⟩, _⟩ := h
  · intro e; cases e
  · intro e
    have : g' = g := Option.some.inj e
    subst this
    exact Blk.ne_ hb (show Blk w g' 38 cur from hg) ht rfl
def GotInv {γ : Type} (s' : γ) (w : World) (A : Option Addr) (c : Nat) (x : Cl) (xs : List Int) (f z : Nat) (s2 : γ) (a : Act) (W : World) : Prop := s2 = s' ∧ ∃ (i : Nat) (V : Value), Below w.heap.size w W ∧ (∃ t cs, Blk W (w.heap.size + 1) t cs ∧ t = 32 ∧ cs = (clC x).toArray) ∧ f ≤ i ∧ i ≤ z ∧ Rws W w.heap.size V (((List.range' f (i - f)).filter (gotP x xs)).map (without xs)) ∧
  (∃ v0 v1 v3 v5 v7 v10 v11 v12 v13 v14 v15 v16 v17 v18 v19 v20 v21 v22 v23 v24 v25 v26 v27 v28 v29 v30 v31 v32 v33 v34 v35 v36 v37 v38 v39 v40 v41 v42 v43 v44 v45 v46 v47 v48 v49 v50 v51 v52 v53 v54 v55 v56 v57 v58 v59 v60 v61 v62 v63 v64 v65 v66, a = { tmps := #[v0, v1, .slice A xs.length c, v3, .pointer (some ⟨w.heap.size + 1, 0, none⟩), v5, V, v7, .int .i64 z, .int .i64 i, v10, v11, v12, v13, v14, v15, v16, v17, v18, v19, v20, v21, v22, v23, v24, v25, v26, v27, v28, v29, v30, v31, v32, v33, v34, v35, v36, v37, v38, v39, v40, v41, v42, v43, v44, v45, v46, v47, v48, v49, v50, v51, v52, v53, v54, v55, v56, v57, v58, v59, v60, v61, v62, v63, v64, v65, v66], defers := [] })
def GotMu {γ : Type} (n : Nat) (_ : γ) (a : Act) (_ : World) : Nat := match a.tmps.getD 9 undef with
  | .int _ i => n - i.toNat
  | _ => 0

set_option maxHeartbeats 8000000 in
theorem got_loop {k K : Int} {x : Cl} {A : Option Addr} {c : Nat} {xs : List Int} {f z : Nat} (h : Rw w w.heap.size (.slice A xs.length c) xs) (hn : xs.length ≤ 400000) (ht : X.there s w) (e2 : (x.code == 2) = false) (hfz : f ≤ z) (hzn : z ≤ xs.length)
    (hz : List.range' (gotA k K xs.length) (gotZ k K xs.length - gotA k K xs.length) = List.range' f (z - f)) {a : Act} {W : World} (hI : GotInv s w A c x xs f z s a W) :
    Wp Tryd.prog X 19 (loopIn (headOf 4 Tryd.f19.body)) (InBlock 0 (Then (Wp Tryd.prog X 19 (tailOf 5 Tryd.f19.body) (Body Tryd.prog Tryd.f19 (RwsPost s w (gotL k K x xs)))) (Body Tryd.prog Tryd.f19 (RwsPost s w (gotL k K x xs))))) s a W := by
  have hoth : ∀ b, w.heap.size ≤ b → ¬ X.oth s b := fun b hb ho => by have := ht b ho; omega
  conv => arg 4; whnf
  conv in tailOf 5 _ => whnf
  refine j_loop (I := GotInv s w A c x xs f z) (μ := GotMu z) hI ?_
  clear hI
  rintro s2 a W ⟨rfl, i, V, hW, ⟨_, _, bx, rfl, rfl⟩, hfi, hiz, hV, v0, v1, v3, v5, v7, v10, v11, v12, v13, v14, v15, v16, v17, v18, v19, v20, v21, v22, v23, v24, v25, v26, v27, v28, v29, v30, v31, v32, v33, v34, v35, v36, v37, v38, v39, v40, v41, v42, v43, v44, v45, v46, v47, v48, v49, v50, v51, v52, v53, v54, v55, v56, v57, v58, v59, v60, v61, v62, v63, v64, v65, v66, rfl⟩
  unfold clC at bx
  have d4 := bx.cell
  have l4 := bx.lt
  have fin : (i = z ∨ (x.code == 0) = false) → ((List.range' f (i - f)).filter (gotP x xs)).map (without xs) = gotL k K x xs := by
    intro hor
    unfold gotL
    rw [if_neg (by simpa using e2)]
    rcases hor with rfl | hor
    · rw [hz]
    · have hp : ∀ j, gotP x xs j = false := fun j => by unfold gotP; rw [hor]; rfl
      have hq : ∀ l : List Nat, l.filter (gotP x xs) = [] := fun l => List.filter_eq_nil_iff.2 fun j _ => by rw [hp j]; decide
      rw [hq, hq]
  cases e0 : (x.code == 0)
  ·
    by_cases hlt : i < z
    · have c1 : decide ((i : Int) < ((z : Nat) : Int)) = true := decide_eq_true (by omega)
      repeat (first
        | ((with_reducible refine lst_free ?_ ?_ (fun K hK => ?_)); (focus with_reducible rfl); (focus (intro ht; refine fine_none ?_ ht; (focus (first | (with_reducible apply only_idle); (focus decide) | (with_reducible apply only_turn); (focus rfl); (focus rfl); (focus kernel_rfl) | exact only_calc rfl rfl rfl | exact only_check rfl rfl | exact only_cap rfl rfl | exact only_min rfl rfl rfl | exact only_max rfl rfl rfl)))); go_simp; refine hK _ _ _ ?_; clear hK K)
        | ((with_reducible refine lst_off (i := ?_) (b := ?_) (d := ?_) ?_ ?_ ?_ ?_); rotate_left 3; (focus with_reducible rfl); (focus rfl); (focus (simp only [List.getElem?_toArray, List.getElem?_cons_succ, List.getElem?_cons_zero, Bool.not_true, Bool.not_false])); simp only [Act.put, List.setIfInBounds_toArray, List.set_cons_zero, List.set_cons_succ])
        | ((with_reducible refine lst_on (i := ?_) (b := ?_) (d := ?_) ?_ ?_ ?_ ?_ (fun K hK => ?_)); rotate_left 3; (focus with_reducible rfl); (focus rfl); (focus (simp only [List.getElem?_toArray, List.getElem?_cons_succ, List.getElem?_cons_zero])); (focus (intro ht; refine fine_none ?_ ht; (focus (first | (with_reducible apply only_idle); (focus decide) | (with_reducible apply only_turn); (focus rfl); (focus rfl); (focus kernel_rfl) | exact only_calc rfl rfl rfl | exact only_check rfl rfl | exact only_cap rfl rfl | exact only_min rfl rfl rfl | exact only_max rfl rfl rfl)))); go_simp; refine hK _ _ _ ?_; clear hK K)
        | ((with_reducible refine lst_undef (i := ?_) (b := ?_) (d := ?_) ?_ ?_ ?_ ?_); rotate_left 3; (focus with_reducible rfl); (focus rfl); (focus (simp only [List.getElem?_toArray, List.getElem?_cons_succ, List.getElem?_cons_zero])); simp only [Act.put, List.setIfInBounds_toArray, List.set_cons_zero, List.set_cons_succ])
        | (with_reducible apply lst_nil)
        | ((fail_if_success (with_reducible refine lst_any ?_)); first
        | (with_reducible apply j_seq) | (with_reducible apply j_block) | (with_reducible apply j_ret) | (with_reducible apply j_skip) | (with_reducible apply j_exit) | (with_reducible apply j_label) | (with_reducible apply j_region_lit)
        | ((with_reducible refine j_true ?_ ?_); (focus rfl)) | ((with_reducible refine j_false ?_ ?_); (focus rfl))
        | (with_reducible show Then _ _ _ _ _ _; simp only [Then])
        | (with_reducible show InBlock _ _ _ _ _ _; simp only [InBlock, ↓reduceIte, Nat.reduceEqDiff])))
      exact body_ret1 rfl rfl ⟨rfl, hW, _, rfl, by rw [← fin (.inr e0)]; exact hV⟩
    · have c1 : decide ((i : Int) < ((z : Nat) : Int)) = false := decide_eq_false (by omega)
      repeat (first
        | ((with_reducible refine lst_free ?_ ?_ (fun K hK => ?_)); (focus with_reducible rfl); (focus (intro ht; refine fine_none ?_ ht; (focus (first | (with_reducible apply only_idle); (focus decide) | (with_reducible apply only_turn); (focus rfl); (focus rfl); (focus kernel_rfl) | exact only_calc rfl rfl rfl | exact only_check rfl rfl | exact only_cap rfl rfl | exact only_min rfl rfl rfl | exact only_max rfl rfl rfl)))); go_simp; refine hK _ _ _ ?_; clear hK K)
        | ((with_reducible refine lst_off (i := ?_) (b := ?_) (d := ?_) ?_ ?_ ?_ ?_); rotate_left 3; (focus with_reducible rfl); (focus rfl); (focus (simp only [List.getElem?_toArray, List.getElem?_cons_succ, List.getElem?_cons_zero, Bool.not_true, Bool.not_false])); simp only [Act.put, List.setIfInBounds_toArray, List.set_cons_zero, List.set_cons_succ])
        | ((with_reducible refine lst_on (i := ?_) (b := ?_) (d := ?_) ?_ ?_ ?_ ?_ (fun K hK => ?_)); rotate_left 3; (focus with_reducible rfl); (focus rfl); (focus (simp only [List.getElem?_toArray, List.getElem?_cons_succ, List.getElem?_cons_zero])); (focus (intro ht; refine fine_none ?_ ht; (focus (first | (with_reducible apply only_idle); (focus decide) | (with_reducible apply only_turn); (focus rfl); (focus rfl); (focus kernel_rfl) | exact only_calc rfl rfl rfl | exact only_check rfl rfl | exact only_cap rfl rfl | exact only_min rfl rfl rfl | exact only_max rfl rfl rfl)))); go_simp; refine hK _ _ _ ?_; clear hK K)
        | ((with_reducible refine lst_undef (i := ?_) (b := ?_) (d := ?_) ?_ ?_ ?_ ?_); rotate_left 3; (focus with_reducible rfl); (focus rfl); (focus (simp only [List.getElem?_toArray, List.getElem?_cons_succ, List.getElem?_cons_zero])); simp only [Act.put, List.setIfInBounds_toArray, List.set_cons_zero, List.set_cons_succ])
        | (with_reducible apply lst_nil)
        | ((fail_if_success (with_reducible refine lst_any ?_)); first
        | (with_reducible apply j_seq) | (with_reducible apply j_block) | (with_reducible apply j_ret) | (with_reducible apply j_skip) | (with_reducible apply j_exit) | (with_reducible apply j_label) | (with_reducible apply j_region_lit)
        | ((with_reducible refine j_true ?_ ?_); (focus rfl)) | ((with_reducible refine j_false ?_ ?_); (focus rfl))
        | (with_reducible show Then _ _ _ _ _ _; simp only [Then])
        | (with_reducible show InBlock _ _ _ _ _ _; simp only [InBlock, ↓reduceIte, Nat.reduceEqDiff])))
      exact body_ret1 rfl rfl ⟨rfl, hW, _, rfl, by rw [← fin (.inr e0)]; exact hV⟩
  ·
    by_cases hlt : i < z
    · have c1 : decide ((i : Int) < ((z : Nat) : Int)) = true := decide_eq_true (by omega)
      have hx0 : i < xs.length := by omega
      obtain ⟨b, o, c', ev, hb, hat⟩ := h.at_ (by intro e; rw [e] at hx0; simp at hx0)
      obtain ⟨rfl, rfl⟩ : A = some ⟨b, o, none⟩ ∧ c = c' := by injection ev with e1 e2 e3; exact ⟨e1, e3⟩
      have y0 : W.cell? ⟨b, o + i, none⟩ = some (.int .u32 xs[i]) := by rw [← hat i hx0]; exact hW.cell hb
      have hxi : xs[i]? = some xs[i] := List.getElem?_eq_getElem hx0
      have lb : b < W.heap.size := Nat.lt_of_lt_of_le hb hW.size
      have hidx : (0 : Int) ≤ (i : Int) ∧ (i : Int) < (xs.length : Int) := by omega
      have hidx2 : (0 : Int) ≤ (i : Int) := by omega
      generalize xs[i] = u at y0 hxi
      repeat (first
        | ((with_reducible refine lst_free ?_ ?_ (fun K hK => ?_)); (focus with_reducible rfl); (focus (intro ht; refine fine_none ?_ ht; (focus (first | (with_reducible apply only_idle); (focus decide) | (with_reducible apply only_turn); (focus rfl); (focus rfl); (focus kernel_rfl) | exact only_calc rfl rfl rfl | exact only_check rfl rfl | exact only_cap rfl rfl | exact only_min rfl rfl rfl | exact only_max rfl rfl rfl)))); go_simp; refine hK _ _ _ ?_; clear hK K)
        | ((with_reducible refine lst_off (i := ?_) (b := ?_) (d := ?_) ?_ ?_ ?_ ?_); rotate_left 3; (focus with_reducible rfl); (focus rfl); (focus (simp only [List.getElem?_toArray, List.getElem?_cons_succ, List.getElem?_cons_zero, Bool.not_true, Bool.not_false])); simp only [Act.put, List.setIfInBounds_toArray, List.set_cons_zero, List.set_cons_succ])
        | ((with_reducible refine lst_on (i := ?_) (b := ?_) (d := ?_) ?_ ?_ ?_ ?_ (fun K hK => ?_)); rotate_left 3; (focus with_reducible rfl); (focus rfl); (focus (simp only [List.getElem?_toArray, List.getElem?_cons_succ, List.getElem?_cons_zero])); (focus (intro ht; refine fine_none ?_ ht; (focus (first | (with_reducible apply only_idle); (focus decide) | (with_reducible apply only_turn); (focus rfl); (focus rfl); (focus kernel_rfl) | exact only_calc rfl rfl rfl | exact only_check rfl rfl | exact only_cap rfl rfl | exact only_min rfl rfl rfl | exact only_max rfl rfl rfl)))); go_simp; refine hK _ _ _ ?_; clear hK K)
        | ((with_reducible refine lst_undef (i := ?_) (b := ?_) (d := ?_) ?_ ?_ ?_ ?_); rotate_left 3; (focus with_reducible rfl); (focus rfl); (focus (simp only [List.getElem?_toArray, List.getElem?_cons_succ, List.getElem?_cons_zero])); simp only [Act.put, List.setIfInBounds_toArray, List.set_cons_zero, List.set_cons_succ])
        | (with_reducible apply lst_nil)
        | ((fail_if_success (with_reducible refine lst_any ?_)); first
        | (with_reducible apply j_seq) | (with_reducible apply j_block) | (with_reducible apply j_ret) | (with_reducible apply j_skip) | (with_reducible apply j_exit) | (with_reducible apply j_label) | (with_reducible apply j_region_lit)
        | ((with_reducible refine j_true ?_ ?_); (focus rfl)) | ((with_reducible refine j_false ?_ ?_); (focus rfl))
        | (with_reducible show Then _ _ _ _ _ _; simp only [Then])
        | (with_reducible show InBlock _ _ _ _ _ _; simp only [InBlock, ↓reduceIte, Nat.reduceEqDiff])))
      refine j_region_dl [0, 1, 3, 7, 15, 15, 63, 127, 15, 271, 1023, 2047] [0, 1, 2, 3, 4, 5, 6, 7, 8, 9, 10, 11] (Below W.heap.size W) rfl (by decide +kernel) (by repeat (first | assumption | exact loose_body | (with_reducible apply loose_then) | (with_reducible apply loose_block) | (with_reducible apply loose_noGoto) | (with_reducible apply loose_jump))) ?_ ?_
      focus exact (Below.refl _ _).drew
      repeat (first
        | (with_reducible apply dl_nil)
        | ((with_reducible apply dl_skip); (focus rfl); (focus rfl); (focus (first | assumption | exact (Below.refl _ _).drew)); simp only [Act.put, List.setIfInBounds_toArray, List.set_cons_zero, List.set_cons_succ])
        | ((with_reducible apply dl_calm); (focus rfl); (focus rfl); (focus rfl); (focus (first | (with_reducible apply only_idle); (focus decide) | (with_reducible apply only_turn); (focus rfl); (focus rfl); (focus kernel_rfl) | exact only_calc rfl rfl rfl | exact only_check rfl rfl | exact only_cap rfl rfl | exact only_min rfl rfl rfl | exact only_max rfl rfl rfl)); (focus (intro wS hS; have hcS := fun p => Below.cell hS (p := p); go_simp; try rfl)); simp only [Act.put, List.setIfInBounds_toArray, List.set_cons_zero, List.set_cons_succ])
        | (with_reducible show Then _ _ _ _ _ _; simp only [Then])
        | (with_reducible show InBlock _ _ _ _ _ _; simp only [InBlock, ↓reduceIte, Nat.reduceEqDiff]))
      refine dl_call (o := ?_) (args := ?_) (ats := ?_) _ ?_ ?_ ?_ ?_ Tryd.func10 ?_ rfl (over x) ?_
      rotate_left 3
      focus rfl
      focus rfl
      focus rfl
      focus first | rfl | (go_simp; done) | (go_simp; rfl)
      focus rfl
      rintro s3 r W2 ⟨rfl, hb3, rfl⟩
      have hb4 : Below W.heap.size W W2 := (Below.refl _ _).drew.trans hb3
      refine ⟨_, hb4, fun _ => rfl, ?_⟩
      simp only [Act.put, List.setIfInBounds_toArray, List.set_cons_zero, List.set_cons_succ]
      clear hb3
      have g2 := hW.trans (hb4.mono hW.size)
      have hw : IntKind.i64.wrap ((i : Int) + 1) = (i : Int) + 1 := by simp [IntKind.wrap, IntKind.bits, IntKind.signed]; omega
      have bx2 := bx.below hb4 l4
      cases ho : x.over
      · have hp : gotP x xs i = true := by unfold gotP; rw [e0, ho]; rfl
        repeat (first
          | (with_reducible apply dl_nil)
          | ((with_reducible apply dl_skip); (focus rfl); (focus rfl); (focus (first | assumption | exact (Below.refl _ _).drew)); simp only [Act.put, List.setIfInBounds_toArray, List.set_cons_zero, List.set_cons_succ])
          | ((with_reducible apply dl_calm); (focus rfl); (focus rfl); (focus rfl); (focus (first | (with_reducible apply only_idle); (focus decide) | (with_reducible apply only_turn); (focus rfl); (focus rfl); (focus kernel_rfl) | exact only_calc rfl rfl rfl | exact only_check rfl rfl | exact only_cap rfl rfl | exact only_min rfl rfl rfl | exact only_max rfl rfl rfl)); (focus (intro wS hS; have hcS := fun p => Below.cell hS (p := p); go_simp; try rfl)); simp only [Act.put, List.setIfInBounds_toArray, List.set_cons_zero, List.set_cons_succ])
          | (with_reducible show Then _ _ _ _ _ _; simp only [Then])
          | (with_reducible show InBlock _ _ _ _ _ _; simp only [InBlock, ↓reduceIte, Nat.reduceEqDiff]))
        clear d4
        repeat (first
          | ((with_reducible refine lst_free ?_ ?_ (fun K hK => ?_)); (focus with_reducible rfl); (focus (intro ht; refine fine_none ?_ ht; (focus (first | (with_reducible apply only_idle); (focus decide) | (with_reducible apply only_turn); (focus rfl); (focus rfl); (focus kernel_rfl) | exact only_calc rfl rfl rfl | exact only_check rfl rfl | exact only_cap rfl rfl | exact only_min rfl rfl rfl | exact only_max rfl rfl rfl)))); go_simp; refine hK _ _ _ ?_; clear hK K)
          | ((with_reducible refine lst_off (i := ?_) (b := ?_) (d := ?_) ?_ ?_ ?_ ?_); rotate_left 3; (focus with_reducible rfl); (focus rfl); (focus (simp only [List.getElem?_toArray, List.getElem?_cons_succ, List.getElem?_cons_zero, Bool.not_true, Bool.not_false])); simp only [Act.put, List.setIfInBounds_toArray, List.set_cons_zero, List.set_cons_succ])
          | ((with_reducible refine lst_on (i := ?_) (b := ?_) (d := ?_) ?_ ?_ ?_ ?_ (fun K hK => ?_)); rotate_left 3; (focus with_reducible rfl); (focus rfl); (focus (simp only [List.getElem?_toArray, List.getElem?_cons_succ, List.getElem?_cons_zero])); (focus (intro ht; refine fine_none ?_ ht; (focus (first | (with_reducible apply only_idle); (focus decide) | (with_reducible apply only_turn); (focus rfl); (focus rfl); (focus kernel_rfl) | exact only_calc rfl rfl rfl | exact only_check rfl rfl | exact only_cap rfl rfl | exact only_min rfl rfl rfl | exact only_max rfl rfl rfl)))); go_simp; refine hK _ _ _ ?_; clear hK K)
          | ((with_reducible refine lst_undef (i := ?_) (b := ?_) (d := ?_) ?_ ?_ ?_ ?_); rotate_left 3; (focus with_reducible rfl); (focus rfl); (focus (simp only [List.getElem?_toArray, List.getElem?_cons_succ, List.getElem?_cons_zero])); simp only [Act.put, List.setIfInBounds_toArray, List.set_cons_zero, List.set_cons_succ])
          | (with_reducible apply lst_nil)
          | ((fail_if_success (with_reducible refine lst_any ?_)); first
          | (with_reducible apply j_seq) | (with_reducible apply j_block) | (with_reducible apply j_ret) | (with_reducible apply j_skip) | (with_reducible apply j_exit) | (with_reducible apply j_label) | (with_reducible apply j_region_lit)
          | ((with_reducible refine j_true ?_ ?_); (focus rfl)) | ((with_reducible refine j_false ?_ ?_); (focus rfl))
          | (with_reducible show Then _ _ _ _ _ _; simp only [Then])
          | (with_reducible show InBlock _ _ _ _ _ _; simp only [InBlock, ↓reduceIte, Nat.reduceEqDiff])))
        refine lst_call _ rfl ?_ ?_ Tryd.func23 ?_ rfl (without_ok (B := w.heap.size) (h.below g2) g2.size hx0 hn) ?_
        focus rfl
        focus first | rfl | (go_simp; done) | (go_simp; rfl)
        focus rfl
        rintro s4 r W3 ⟨rfl, hb5, v5, rfl, own5⟩
        obtain ⟨A5, c5, rfl, -, -⟩ := own5.rw.form
        simp only [Act.put, List.setIfInBounds_toArray, List.set_cons_zero, List.set_cons_succ]
        have g3 := g2.trans (hb5.mono g2.size)
        have bx3 := bx2.below hb5 bx2.lt
        have hV3 : Rws W3 w.heap.size V _ := (hV.below hb4).below hb5
        repeat (first
          | ((with_reducible refine lst_free ?_ ?_ (fun K hK => ?_)); (focus with_reducible rfl); (focus (intro ht; refine fine_none ?_ ht; (focus (first | (with_reducible apply only_idle); (focus decide) | (with_reducible apply only_turn); (focus rfl); (focus rfl); (focus kernel_rfl) | exact only_calc rfl rfl rfl | exact only_check rfl rfl | exact only_cap rfl rfl | exact only_min rfl rfl rfl | exact only_max rfl rfl rfl)))); go_simp; refine hK _ _ _ ?_; clear hK K)
          | ((with_reducible refine lst_off (i := ?_) (b := ?_) (d := ?_) ?_ ?_ ?_ ?_); rotate_left 3; (focus with_reducible rfl); (focus rfl); (focus (simp only [List.getElem?_toArray, List.getElem?_cons_succ, List.getElem?_cons_zero, Bool.not_true, Bool.not_false])); simp only [Act.put, List.setIfInBounds_toArray, List.set_cons_zero, List.set_cons_succ])
          | ((with_reducible refine lst_on (i := ?_) (b := ?_) (d := ?_) ?_ ?_ ?_ ?_ (fun K hK => ?_)); rotate_left 3; (focus with_reducible rfl); (focus rfl); (focus (simp only [List.getElem?_toArray, List.getElem?_cons_succ, List.getElem?_cons_zero])); (focus (intro ht; refine fine_none ?_ ht; (focus (first | (with_reducible apply only_idle); (focus decide) | (with_reducible apply only_turn); (focus rfl); (focus rfl); (focus kernel_rfl) | exact only_calc rfl rfl rfl | exact only_check rfl rfl | exact only_cap rfl rfl | exact only_min rfl rfl rfl | exact only_max rfl rfl rfl)))); go_simp; refine hK _ _ _ ?_; clear hK K)
          | ((with_reducible refine lst_undef (i := ?_) (b := ?_) (d := ?_) ?_ ?_ ?_ ?_); rotate_left 3; (focus with_reducible rfl); (focus rfl); (focus (simp only [List.getElem?_toArray, List.getElem?_cons_succ, List.getElem?_cons_zero])); simp only [Act.put, List.setIfInBounds_toArray, List.set_cons_zero, List.set_cons_succ])
          | (with_reducible apply lst_nil)
          | ((fail_if_success (with_reducible refine lst_any ?_)); first
          | (with_reducible apply j_seq) | (with_reducible apply j_block) | (with_reducible apply j_ret) | (with_reducible apply j_skip) | (with_reducible apply j_exit) | (with_reducible apply j_label) | (with_reducible apply j_region_lit)
          | ((with_reducible refine j_true ?_ ?_); (focus rfl)) | ((with_reducible refine j_false ?_ ?_); (focus rfl))
          | (with_reducible show Then _ _ _ _ _ _; simp only [Then])
          | (with_reducible show InBlock _ _ _ _ _ _; simp only [InBlock, ↓reduceIte, Nat.reduceEqDiff])))
        refine lst_one (one_append_row (.tmp 60) (.tmp 64) rfl rfl (B := w.heap.size) (V := V) rfl (hV3.below ((al_ (Below.refl _ _) _))) (fun b hb' => hoth b (hV.ge hb').1) rfl (Blk.new W3 _ _) ((own5.rw.below ((al_ (Below.refl _ _) _))).more (by simp)) (fun _ b hb' e => by have := own5.ge hb'; have := (hV.ge e).2; have := hb4.size; omega) ?_ ((al_ g3 _)).size ?_)
        focus
          rw [List.length_map]
          refine Nat.le_trans (List.length_filter_le _ _) ?_
          rw [List.length_range']
          omega
        intro V' W4 hV4 gr4
        have g4 : Below w.heap.size w W4 := ((al_ g3 _)).grown gr4 ((al_ g3 _)).size (fun b hb' => (hV.ge hb').1)
        have bx4 := (bx3.alloc _).grown gr4 (fun e => hV3.ne bx3 (by decide) e.symm)
        simp only [Act.put, List.setIfInBounds_toArray, List.set_cons_zero, List.set_cons_succ]
        repeat (first
          | ((with_reducible refine lst_free ?_ ?_ (fun K hK => ?_)); (focus with_reducible rfl); (focus (intro ht; refine fine_none ?_ ht; (focus (first | (with_reducible apply only_idle); (focus decide) | (with_reducible apply only_turn); (focus rfl); (focus rfl); (focus kernel_rfl) | exact only_calc rfl rfl rfl | exact only_check rfl rfl | exact only_cap rfl rfl | exact only_min rfl rfl rfl | exact only_max rfl rfl rfl)))); go_simp; refine hK _ _ _ ?_; clear hK K)
          | ((with_reducible refine lst_off (i := ?_) (b := ?_) (d := ?_) ?_ ?_ ?_ ?_); rotate_left 3; (focus with_reducible rfl); (focus rfl); (focus (simp only [List.getElem?_toArray, List.getElem?_cons_succ, List.getElem?_cons_zero, Bool.not_true, Bool.not_false])); simp only [Act.put, List.setIfInBounds_toArray, List.set_cons_zero, List.set_cons_succ])
          | ((with_reducible refine lst_on (i := ?_) (b := ?_) (d := ?_) ?_ ?_ ?_ ?_ (fun K hK => ?_)); rotate_left 3; (focus with_reducible rfl); (focus rfl); (focus (simp only [List.getElem?_toArray, List.getElem?_cons_succ, List.getElem?_cons_zero])); (focus (intro ht; refine fine_none ?_ ht; (focus (first | (with_reducible apply only_idle); (focus decide) | (with_reducible apply only_turn); (focus rfl); (focus rfl); (focus kernel_rfl) | exact only_calc rfl rfl rfl | exact only_check rfl rfl | exact only_cap rfl rfl | exact only_min rfl rfl rfl | exact only_max rfl rfl rfl)))); go_simp; refine hK _ _ _ ?_; clear hK K)
          | ((with_reducible refine lst_undef (i := ?_) (b := ?_) (d := ?_) ?_ ?_ ?_ ?_); rotate_left 3; (focus with_reducible rfl); (focus rfl); (focus (simp only [List.getElem?_toArray, List.getElem?_cons_succ, List.getElem?_cons_zero])); simp only [Act.put, List.setIfInBounds_toArray, List.set_cons_zero, List.set_cons_succ])
          | (with_reducible apply lst_nil)
          | ((fail_if_success (with_reducible refine lst_any ?_)); first
          | (with_reducible apply j_seq) | (with_reducible apply j_block) | (with_reducible apply j_ret) | (with_reducible apply j_skip) | (with_reducible apply j_exit) | (with_reducible apply j_label) | (with_reducible apply j_region_lit)
          | ((with_reducible refine j_true ?_ ?_); (focus rfl)) | ((with_reducible refine j_false ?_ ?_); (focus rfl))
          | (with_reducible show Then _ _ _ _ _ _; simp only [Then])
          | (with_reducible show InBlock _ _ _ _ _ _; simp only [InBlock, ↓reduceIte, Nat.reduceEqDiff])))
        refine ⟨⟨rfl, i + 1, V', g4, ⟨_, _, bx4, rfl, rfl⟩, by omega, by omega, ?_, _, _, _, _, _, _, _, _, _, _, _, _, _, _, _, _, _, _, _, _, _, _, _, _, _, _, _, _, _, _, _, _, _, _, _, _, _, _, _, _, _, _, _, _, _, _, _, _, _, _, _, _, _, _, _, _, _, _, _, _, _, _, rfl⟩, by show z - ((i : Int) + 1).toNat < z - ((i : Int)).toNat; omega⟩
        rw [rows_step hfi, hp, if_pos rfl]
        exact hV4
      · cases eu : (u == x.out)
        · have hp : gotP x xs i = false := by unfold gotP; rw [e0, ho, hxi]; simpa using eu
          repeat (first
            | (with_reducible apply dl_nil)
            | ((with_reducible apply dl_skip); (focus rfl); (focus rfl); (focus (first | assumption | exact (Below.refl _ _).drew)); simp only [Act.put, List.setIfInBounds_toArray, List.set_cons_zero, List.set_cons_succ])
            | ((with_reducible apply dl_calm); (focus rfl); (focus rfl); (focus rfl); (focus (first | (with_reducible apply only_idle); (focus decide) | (with_reducible apply only_turn); (focus rfl); (focus rfl); (focus kernel_rfl) | exact only_calc rfl rfl rfl | exact only_check rfl rfl | exact only_cap rfl rfl | exact only_min rfl rfl rfl | exact only_max rfl rfl rfl)); (focus (intro wS hS; have hcS := fun p => Below.cell hS (p := p); go_simp; try rfl)); simp only [Act.put, List.setIfInBounds_toArray, List.set_cons_zero, List.set_cons_succ])
            | (with_reducible show Then _ _ _ _ _ _; simp only [Then])
            | (with_reducible show InBlock _ _ _ _ _ _; simp only [InBlock, ↓reduceIte, Nat.reduceEqDiff]))
          clear d4
          repeat (first
            | ((with_reducible refine lst_free ?_ ?_ (fun K hK => ?_)); (focus with_reducible rfl); (focus (intro ht; refine fine_none ?_ ht; (focus (first | (with_reducible apply only_idle); (focus decide) | (with_reducible apply only_turn); (focus rfl); (focus rfl); (focus kernel_rfl) | exact only_calc rfl rfl rfl | exact only_check rfl rfl | exact only_cap rfl rfl | exact only_min rfl rfl rfl | exact only_max rfl rfl rfl)))); go_simp; refine hK _ _ _ ?_; clear hK K)
            | ((with_reducible refine lst_off (i := ?_) (b := ?_) (d := ?_) ?_ ?_ ?_ ?_); rotate_left 3; (focus with_reducible rfl); (focus rfl); (focus (simp only [List.getElem?_toArray, List.getElem?_cons_succ, List.getElem?_cons_zero, Bool.not_true, Bool.not_false])); simp only [Act.put, List.setIfInBounds_toArray, List.set_cons_zero, List.set_cons_succ])
            | ((with_reducible refine lst_on (i := ?_) (b := ?_) (d := ?_) ?_ ?_ ?_ ?_ (fun K hK => ?_)); rotate_left 3; (focus with_reducible rfl); (focus rfl); (focus (simp only [List.getElem?_toArray, List.getElem?_cons_succ, List.getElem?_cons_zero])); (focus (intro ht; refine fine_none ?_ ht; (focus (first | (with_reducible apply only_idle); (focus decide) | (with_reducible apply only_turn); (focus rfl); (focus rfl); (focus kernel_rfl) | exact only_calc rfl rfl rfl | exact only_check rfl rfl | exact only_cap rfl rfl | exact only_min rfl rfl rfl | exact only_max rfl rfl rfl)))); go_simp; refine hK _ _ _ ?_; clear hK K)
            | ((with_reducible refine lst_undef (i := ?_) (b := ?_) (d := ?_) ?_ ?_ ?_ ?_); rotate_left 3; (focus with_reducible rfl); (focus rfl); (focus (simp only [List.getElem?_toArray, List.getElem?_cons_succ, List.getElem?_cons_zero])); simp only [Act.put, List.setIfInBounds_toArray, List.set_cons_zero, List.set_cons_succ])
            | (with_reducible apply lst_nil)
            | ((fail_if_success (with_reducible refine lst_any ?_)); first
            | (with_reducible apply j_seq) | (with_reducible apply j_block) | (with_reducible apply j_ret) | (with_reducible apply j_skip) | (with_reducible apply j_exit) | (with_reducible apply j_label) | (with_reducible apply j_region_lit)
            | ((with_reducible refine j_true ?_ ?_); (focus rfl)) | ((with_reducible refine j_false ?_ ?_); (focus rfl))
            | (with_reducible show Then _ _ _ _ _ _; simp only [Then])
            | (with_reducible show InBlock _ _ _ _ _ _; simp only [InBlock, ↓reduceIte, Nat.reduceEqDiff])))
          refine ⟨⟨rfl, i + 1, V, g2, ⟨_, _, bx2, rfl, rfl⟩, by omega, by omega, ?_, _, _, _, _, _, _, _, _, _, _, _, _, _, _, _, _, _, _, _, _, _, _, _, _, _, _, _, _, _, _, _, _, _, _, _, _, _, _, _, _, _, _, _, _, _, _, _, _, _, _, _, _, _, _, _, _, _, _, _, _, _, _, rfl⟩, by show z - ((i : Int) + 1).toNat < z - ((i : Int)).toNat; omega⟩
          rw [rows_step hfi, hp, if_neg (by decide), List.append_nil]
          exact hV.below hb4
        · have hp : gotP x xs i = true := by unfold gotP; rw [e0, ho, hxi]; simpa using eu
          repeat (first
            | (with_reducible apply dl_nil)
            | ((with_reducible apply dl_skip); (focus rfl); (focus rfl); (focus (first | assumption | exact (Below.refl _ _).drew)); simp only [Act.put, List.setIfInBounds_toArray, List.set_cons_zero, List.set_cons_succ])
            | ((with_reducible apply dl_calm); (focus rfl); (focus rfl); (focus rfl); (focus (first | (with_reducible apply only_idle); (focus decide) | (with_reducible apply only_turn); (focus rfl); (focus rfl); (focus kernel_rfl) | exact only_calc rfl rfl rfl | exact only_check rfl rfl | exact only_cap rfl rfl | exact only_min rfl rfl rfl | exact only_max rfl rfl rfl)); (focus (intro wS hS; have hcS := fun p => Below.cell hS (p := p); go_simp; try rfl)); simp only [Act.put, List.setIfInBounds_toArray, List.set_cons_zero, List.set_cons_succ])
            | (with_reducible show Then _ _ _ _ _ _; simp only [Then])
            | (with_reducible show InBlock _ _ _ _ _ _; simp only [InBlock, ↓reduceIte, Nat.reduceEqDiff]))
          clear d4
          repeat (first
            | ((with_reducible refine lst_free ?_ ?_ (fun K hK => ?_)); (focus with_reducible rfl); (focus (intro ht; refine fine_none ?_ ht; (focus (first | (with_reducible apply only_idle); (focus decide) | (with_reducible apply only_turn); (focus rfl); (focus rfl); (focus kernel_rfl) | exact only_calc rfl rfl rfl | exact only_check rfl rfl | exact only_cap rfl rfl | exact only_min rfl rfl rfl | exact only_max rfl rfl rfl)))); go_simp; refine hK _ _ _ ?_; clear hK K)
            | ((with_reducible refine lst_off (i := ?_) (b := ?_) (d := ?_) ?_ ?_ ?_ ?_); rotate_left 3; (focus with_reducible rfl); (focus rfl); (focus (simp only [List.getElem?_toArray, List.getElem?_cons_succ, List.getElem?_cons_zero, Bool.not_true, Bool.not_false])); simp only [Act.put, List.setIfInBounds_toArray, List.set_cons_zero, List.set_cons_succ])
            | ((with_reducible refine lst_on (i := ?_) (b := ?_) (d := ?_) ?_ ?_ ?_ ?_ (fun K hK => ?_)); rotate_left 3; (focus with_reducible rfl); (focus rfl); (focus (simp only [List.getElem?_toArray, List.getElem?_cons_succ, List.getElem?_cons_zero])); (focus (intro ht; refine fine_none ?_ ht; (focus (first | (with_reducible apply only_idle); (focus decide) | (with_reducible apply only_turn); (focus rfl); (focus rfl); (focus kernel_rfl) | exact only_calc rfl rfl rfl | exact only_check rfl rfl | exact only_cap rfl rfl | exact only_min rfl rfl rfl | exact only_max rfl rfl rfl)))); go_simp; refine hK _ _ _ ?_; clear hK K)
            | ((with_reducible refine lst_undef (i := ?_) (b := ?_) (d := ?_) ?_ ?_ ?_ ?_); rotate_left 3; (focus with_reducible rfl); (focus rfl); (focus (simp only [List.getElem?_toArray, List.getElem?_cons_succ, List.getElem?_cons_zero])); simp only [Act.put, List.setIfInBounds_toArray, List.set_cons_zero, List.set_cons_succ])
            | (with_reducible apply lst_nil)
            | ((fail_if_success (with_reducible refine lst_any ?_)); first
            | (with_reducible apply j_seq) | (with_reducible apply j_block) | (with_reducible apply j_ret) | (with_reducible apply j_skip) | (with_reducible apply j_exit) | (with_reducible apply j_label) | (with_reducible apply j_region_lit)
            | ((with_reducible refine j_true ?_ ?_); (focus rfl)) | ((with_reducible refine j_false ?_ ?_); (focus rfl))
            | (with_reducible show Then _ _ _ _ _ _; simp only [Then])
            | (with_reducible show InBlock _ _ _ _ _ _; simp only [InBlock, ↓reduceIte, Nat.reduceEqDiff])))
          refine lst_call _ rfl ?_ ?_ Tryd.func23 ?_ rfl (without_ok (B := w.heap.size) (h.below g2) g2.size hx0 hn) ?_
          focus rfl
          focus first | rfl | (go_simp; done) | (go_simp; rfl)
          focus rfl
          rintro s4 r W3 ⟨rfl, hb5, v5, rfl, own5⟩
          obtain ⟨A5, c5, rfl, -, -⟩ := own5.rw.form
          simp only [Act.put, List.setIfInBounds_toArray, List.set_cons_zero, List.set_cons_succ]
          have g3 := g2.trans (hb5.mono g2.size)
          have bx3 := bx2.below hb5 bx2.lt
          have hV3 : Rws W3 w.heap.size V _ := (hV.below hb4).below hb5
          repeat (first
            | ((with_reducible refine lst_free ?_ ?_ (fun K hK => ?_)); (focus with_reducible rfl); (focus (intro ht; refine fine_none ?_ ht; (focus (first | (with_reducible apply only_idle); (focus decide) | (with_reducible apply only_turn); (focus rfl); (focus rfl); (focus kernel_rfl) | exact only_calc rfl rfl rfl | exact only_check rfl rfl | exact only_cap rfl rfl | exact only_min rfl rfl rfl | exact only_max rfl rfl rfl)))); go_simp; refine hK _ _ _ ?_; clear hK K)
            | ((with_reducible refine lst_off (i := ?_) (b := ?_) (d := ?_) ?_ ?_ ?_ ?_); rotate_left 3; (focus with_reducible rfl); (focus rfl); (focus (simp only [List.getElem?_toArray, List.getElem?_cons_succ, List.getElem?_cons_zero, Bool.not_true, Bool.not_false])); simp only [Act.put, List.setIfInBounds_toArray, List.set_cons_zero, List.set_cons_succ])
            | ((with_reducible refine lst_on (i := ?_) (b := ?_) (d := ?_) ?_ ?_ ?_ ?_ (fun K hK => ?_)); rotate_left 3; (focus with_reducible rfl); (focus rfl); (focus (simp only [List.getElem?_toArray, List.getElem?_cons_succ, List.getElem?_cons_zero])); (focus (intro ht; refine fine_none ?_ ht; (focus (first | (with_reducible apply only_idle); (focus decide) | (with_reducible apply only_turn); (focus rfl); (focus rfl); (focus kernel_rfl) | exact only_calc rfl rfl rfl | exact only_check rfl rfl | exact only_cap rfl rfl | exact only_min rfl rfl rfl | exact only_max rfl rfl rfl)))); go_simp; refine hK _ _ _ ?_; clear hK K)
            | ((with_reducible refine lst_undef (i := ?_) (b := ?_) (d := ?_) ?_ ?_ ?_ ?_); rotate_left 3; (focus with_reducible rfl); (focus rfl); (focus (simp only [List.getElem?_toArray, List.getElem?_cons_succ, List.getElem?_cons_zero])); simp only [Act.put, List.setIfInBounds_toArray, List.set_cons_zero, List.set_cons_succ])
            | (with_reducible apply lst_nil)
            | ((fail_if_success (with_reducible refine lst_any ?_)); first
            | (with_reducible apply j_seq) | (with_reducible apply j_block) | (with_reducible apply j_ret) | (with_reducible apply j_skip) | (with_reducible apply j_exit) | (with_reducible apply j_label) | (with_reducible apply j_region_lit)
            | ((with_reducible refine j_true ?_ ?_); (focus rfl)) | ((with_reducible refine j_false ?_ ?_); (focus rfl))
            | (with_reducible show Then _ _ _ _ _ _; simp only [Then])
            | (with_reducible show InBlock _ _ _ _ _ _; simp only [InBlock, ↓reduceIte, Nat.reduceEqDiff])))
          refine lst_one (one_append_row (.tmp 60) (.tmp 64) rfl rfl (B := w.heap.size) (V := V) rfl (hV3.below ((al_ (Below.refl _ _) _))) (fun b hb' => hoth b (hV.ge hb').1) rfl (Blk.new W3 _ _) ((own5.rw.below ((al_ (Below.refl _ _) _))).more (by simp)) (fun _ b hb' e => by have := own5.ge hb'; have := (hV.ge e).2; have := hb4.size; omega) ?_ ((al_ g3 _)).size ?_)
          focus
            rw [List.length_map]
            refine Nat.le_trans (List.length_filter_le _ _) ?_
            rw [List.length_range']
            omega
          intro V' W4 hV4 gr4
          have g4 : Below w.heap.size w W4 := ((al_ g3 _)).grown gr4 ((al_ g3 _)).size (fun b hb' => (hV.ge hb').1)
          have bx4 := (bx3.alloc _).grown gr4 (fun e => hV3.ne bx3 (by decide) e.symm)
          simp only [Act.put, List.setIfInBounds_toArray, List.set_cons_zero, List.set_cons_succ]
          repeat (first
            | ((with_reducible refine lst_free ?_ ?_ (fun K hK => ?_)); (focus with_reducible rfl); (focus (intro ht; refine fine_none ?_ ht; (focus (first | (with_reducible apply only_idle); (focus decide) | (with_reducible apply only_turn); (focus rfl); (focus rfl); (focus kernel_rfl) | exact only_calc rfl rfl rfl | exact only_check rfl rfl | exact only_cap rfl rfl | exact only_min rfl rfl rfl | exact only_max rfl rfl rfl)))); go_simp; refine hK _ _ _ ?_; clear hK K)
            | ((with_reducible refine lst_off (i := ?_) (b := ?_) (d := ?_) ?_ ?_ ?_ ?_); rotate_left 3; (focus with_reducible rfl); (focus rfl); (focus (simp only [List.getElem?_toArray, List.getElem?_cons_succ, List.getElem?_cons_zero, Bool.not_true, Bool.not_false])); simp only [Act.put, List.setIfInBounds_toArray, List.set_cons_zero, List.set_cons_succ])
            | ((with_reducible refine lst_on (i := ?_) (b := ?_) (d := ?_) ?_ ?_ ?_ ?_ (fun K hK => ?_)); rotate_left 3; (focus with_reducible rfl); (focus rfl); (focus (simp only [List.getElem?_toArray, List.getElem?_cons_succ, List.getElem?_cons_zero])); (focus (intro ht; refine fine_none ?_ ht; (focus (first | (with_reducible apply only_idle); (focus decide) | (with_reducible apply only_turn); (focus rfl); (focus rfl); (focus kernel_rfl) | exact only_calc rfl rfl rfl | exact only_check rfl rfl | exact only_cap rfl rfl | exact only_min rfl rfl rfl | exact only_max rfl rfl rfl)))); go_simp; refine hK _ _ _ ?_; clear hK K)
            | ((with_reducible refine lst_undef (i := ?_) (b := ?_) (d := ?_) ?_ ?_ ?_ ?_); rotate_left 3; (focus with_reducible rfl); (focus rfl); (focus (simp only [List.getElem?_toArray, List.getElem?_cons_succ, List.getElem?_cons_zero])); simp only [Act.put, List.setIfInBounds_toArray, List.set_cons_zero, List.set_cons_succ])
            | (with_reducible apply lst_nil)
            | ((fail_if_success (with_reducible refine lst_any ?_)); first
            | (with_reducible apply j_seq) | (with_reducible apply j_block) | (with_reducible apply j_ret) | (with_reducible apply j_skip) | (with_reducible apply j_exit) | (with_reducible apply j_label) | (with_reducible apply j_region_lit)
            | ((with_reducible refine j_true ?_ ?_); (focus rfl)) | ((with_reducible refine j_false ?_ ?_); (focus rfl))
            | (with_reducible show Then _ _ _ _ _ _; simp only [Then])
            | (with_reducible show InBlock _ _ _ _ _ _; simp only [InBlock, ↓reduceIte, Nat.reduceEqDiff])))
          refine ⟨⟨rfl, i + 1, V', g4, ⟨_, _, bx4, rfl, rfl⟩, by omega, by omega, ?_, _, _, _, _, _, _, _, _, _, _, _, _, _, _, _, _, _, _, _, _, _, _, _, _, _, _, _, _, _, _, _, _, _, _, _, _, _, _, _, _, _, _, _, _, _, _, _, _, _, _, _, _, _, _, _, _, _, _, _, _, _, _, rfl⟩, by show z - ((i : Int) + 1).toNat < z - ((i : Int)).toNat; omega⟩
          rw [rows_step hfi, hp, if_pos rfl]
          exact hV4
    · have c1 : decide ((i : Int) < ((z : Nat) : Int)) = false := decide_eq_false (by omega)
      repeat (first
        | ((with_reducible refine lst_free ?_ ?_ (fun K hK => ?_)); (focus with_reducible rfl); (focus (intro ht; refine fine_none ?_ ht; (focus (first | (with_reducible apply only_idle); (focus decide) | (with_reducible apply only_turn); (focus rfl); (focus rfl); (focus kernel_rfl) | exact only_calc rfl rfl rfl | exact only_check rfl rfl | exact only_cap rfl rfl | exact only_min rfl rfl rfl | exact only_max rfl rfl rfl)))); go_simp; refine hK _ _ _ ?_; clear hK K)
        | ((with_reducible refine lst_off (i := ?_) (b := ?_) (d := ?_) ?_ ?_ ?_ ?_); rotate_left 3; (focus with_reducible rfl); (focus rfl); (focus (simp only [List.getElem?_toArray, List.getElem?_cons_succ, List.getElem?_cons_zero, Bool.not_true, Bool.not_false])); simp only [Act.put, List.setIfInBounds_toArray, List.set_cons_zero, List.set_cons_succ])
        | ((with_reducible refine lst_on (i := ?_) (b := ?_) (d := ?_) ?_ ?_ ?_ ?_ (fun K hK => ?_)); rotate_left 3; (focus with_reducible rfl); (focus rfl); (focus (simp only [List.getElem?_toArray, List.getElem?_cons_succ, List.getElem?_cons_zero])); (focus (intro ht; refine fine_none ?_ ht; (focus (first | (with_reducible apply only_idle); (focus decide) | (with_reducible apply only_turn); (focus rfl); (focus rfl); (focus kernel_rfl) | exact only_calc rfl rfl rfl | exact only_check rfl rfl | exact only_cap rfl rfl | exact only_min rfl rfl rfl | exact only_max rfl rfl rfl)))); go_simp; refine hK _ _ _ ?_; clear hK K)
        | ((with_reducible refine lst_undef (i := ?_) (b := ?_) (d := ?_) ?_ ?_ ?_ ?_); rotate_left 3; (focus with_reducible rfl); (focus rfl); (focus (simp only [List.getElem?_toArray, List.getElem?_cons_succ, List.getElem?_cons_zero])); simp only [Act.put, List.setIfInBounds_toArray, List.set_cons_zero, List.set_cons_succ])
        | (with_reducible apply lst_nil)
        | ((fail_if_success (with_reducible refine lst_any ?_)); first
        | (with_reducible apply j_seq) | (with_reducible apply j_block) | (with_reducible apply j_ret) | (with_reducible apply j_skip) | (with_reducible apply j_exit) | (with_reducible apply j_label) | (with_reducible apply j_region_lit)
        | ((with_reducible refine j_true ?_ ?_); (focus rfl)) | ((with_reducible refine j_false ?_ ?_); (focus rfl))
        | (with_reducible show Then _ _ _ _ _ _; simp only [Then])
        | (with_reducible show InBlock _ _ _ _ _ _; simp only [InBlock, ↓reduceIte, Nat.reduceEqDiff])))
      exact body_ret1 rfl rfl ⟨rfl, hW, _, rfl, by rw [← fin (.inl (by omega))]; exact hV⟩

set_option maxHeartbeats 8000000 in
theorem got_ok {k K T M : Int} {x : Cl} {v : Value} {xs : List Int} (h : Rw w w.heap.size v xs) (hn : xs.length ≤ 400000) (hK : 1 ≤ K ∧ K ≤ 64) : Jdo Tryd.prog X 19 #[cfg k K T M, clV x, v] s w (RwsPost s w (gotL k K x xs)) := by
  refine Jdo.there fun ht => ?_
  have hoth : ∀ b, w.heap.size ≤ b → ¬ X.oth s b := fun b hb ho => by have := ht b ho; omega
  obtain ⟨A, c, rfl, hc1, hc2⟩ := h.form
  unfold cfg clV
  cases e2 : (x.code == 2)
  ·
    refine jdo_of Tryd.func19 rfl ?_
    simp only [Tryd.ntmps19, List.size_toArray, List.length_cons, List.length_nil, Nat.reduceAdd, Nat.reduceSub, Array.replicate_succ, Array.replicate_zero, List.push_toArray, List.append_toArray, List.nil_append, List.cons_append]
    repeat (first
      | ((with_reducible refine lst_free ?_ ?_ (fun K hK => ?_)); (focus with_reducible rfl); (focus (intro ht; refine fine_none ?_ ht; (focus (first | (with_reducible apply only_idle); (focus decide) | (with_reducible apply only_turn); (focus rfl); (focus rfl); (focus kernel_rfl) | exact only_calc rfl rfl rfl | exact only_check rfl rfl | exact only_cap rfl rfl | exact only_min rfl rfl rfl | exact only_max rfl rfl rfl)))); go_simp; refine hK _ _ _ ?_; clear hK K)
      | ((with_reducible refine lst_off (i := ?_) (b := ?_) (d := ?_) ?_ ?_ ?_ ?_); rotate_left 3; (focus with_reducible rfl); (focus rfl); (focus (simp only [List.getElem?_toArray, List.getElem?_cons_succ, List.getElem?_cons_zero, Bool.not_true, Bool.not_false])); simp only [Act.put, List.setIfInBounds_toArray, List.set_cons_zero, List.set_cons_succ])
      | ((with_reducible refine lst_on (i := ?_) (b := ?_) (d := ?_) ?_ ?_ ?_ ?_ (fun K hK => ?_)); rotate_left 3; (focus with_reducible rfl); (focus rfl); (focus (simp only [List.getElem?_toArray, List.getElem?_cons_succ, List.getElem?_cons_zero])); (focus (intro ht; refine fine_none ?_ ht; (focus (first | (with_reducible apply only_idle); (focus decide) | (with_reducible apply only_turn); (focus rfl); (focus rfl); (focus kernel_rfl) | exact only_calc rfl rfl rfl | exact only_check rfl rfl | exact only_cap rfl rfl | exact only_min rfl rfl rfl | exact only_max rfl rfl rfl)))); go_simp; refine hK _ _ _ ?_; clear hK K)
      | ((with_reducible refine lst_undef (i := ?_) (b := ?_) (d := ?_) ?_ ?_ ?_ ?_); rotate_left 3; (focus with_reducible rfl); (focus rfl); (focus (simp only [List.getElem?_toArray, List.getElem?_cons_succ, List.getElem?_cons_zero])); simp only [Act.put, List.setIfInBounds_toArray, List.set_cons_zero, List.set_cons_succ])
      | (with_reducible apply lst_nil)
      | ((fail_if_success (with_reducible refine lst_any ?_)); first
      | (with_reducible apply j_seq) | (with_reducible apply j_block) | (with_reducible apply j_ret) | (with_reducible apply j_skip) | (with_reducible apply j_exit) | (with_reducible apply j_label) | (with_reducible apply j_region_lit)
      | ((with_reducible refine j_true ?_ ?_); (focus rfl)) | ((with_reducible refine j_false ?_ ?_); (focus rfl))
      | (with_reducible show Then _ _ _ _ _ _; simp only [Then])
      | (with_reducible show InBlock _ _ _ _ _ _; simp only [InBlock, ↓reduceIte, Nat.reduceEqDiff])))
    have bk := (Blk.new w 23 #[.int .i64 k, .int .i64 K, .int .i64 T, .int .i64 M]).alloc (.cells #[.int .i64 (Cl.th x), .int .i64 (Cl.kind x), .int .u32 (Cl.val x), .int .i64 (Cl.fr x), .int .i64 (Cl.to x), .int .i64 (Cl.code x), .int .u32 (Cl.out x)] 32)
    have bx := Blk.new1 w (.cells #[.int .i64 k, .int .i64 K, .int .i64 T, .int .i64 M] 23) 32 #[.int .i64 (Cl.th x), .int .i64 (Cl.kind x), .int .u32 (Cl.val x), .int .i64 (Cl.fr x), .int .i64 (Cl.to x), .int .i64 (Cl.code x), .int .u32 (Cl.out x)]
    have hb2 : Below w.heap.size w ((w.alloc (.cells #[.int .i64 k, .int .i64 K, .int .i64 T, .int .i64 M] 23)).alloc (.cells #[.int .i64 (Cl.th x), .int .i64 (Cl.kind x), .int .u32 (Cl.val x), .int .i64 (Cl.fr x), .int .i64 (Cl.to x), .int .i64 (Cl.code x), .int .u32 (Cl.out x)] 32)) := (al_ ((al_ (Below.refl _ _) _)) _)
    generalize hW : (w.alloc (.cells #[.int .i64 k, .int .i64 K, .int .i64 T, .int .i64 M] 23)).alloc (.cells #[.int .i64 (Cl.th x), .int .i64 (Cl.kind x), .int .u32 (Cl.val x), .int .i64 (Cl.fr x), .int .i64 (Cl.to x), .int .i64 (Cl.code x), .int .u32 (Cl.out x)] 32) = W at bk bx hb2 ⊢
    have d3 := bk.cell
    have d4 := bx.cell
    have l3 := bk.lt
    have l4 := bx.lt
    refine j_region_dl [0, 1, 0, 4, 15, 0, 63] [0, 1, 2, 3, 5, 4, 6] (Below W.heap.size W) rfl (by decide +kernel) (by repeat (first | assumption | exact loose_body | (with_reducible apply loose_then) | (with_reducible apply loose_block) | (with_reducible apply loose_noGoto) | (with_reducible apply loose_jump))) ?_ ?_
    focus exact (Below.refl _ _).drew
    repeat (first
      | (with_reducible apply dl_nil)
      | ((with_reducible apply dl_skip); (focus rfl); (focus rfl); (focus (first | assumption | exact (Below.refl _ _).drew)); simp only [Act.put, List.setIfInBounds_toArray, List.set_cons_zero, List.set_cons_succ])
      | ((with_reducible apply dl_calm); (focus rfl); (focus rfl); (focus rfl); (focus (first | (with_reducible apply only_idle); (focus decide) | (with_reducible apply only_turn); (focus rfl); (focus rfl); (focus kernel_rfl) | exact only_calc rfl rfl rfl | exact only_check rfl rfl | exact only_cap rfl rfl | exact only_min rfl rfl rfl | exact only_max rfl rfl rfl)); (focus (intro wS hS; have hcS := fun p => Below.cell hS (p := p); go_simp; try rfl)); simp only [Act.put, List.setIfInBounds_toArray, List.set_cons_zero, List.set_cons_succ])
      | (with_reducible show Then _ _ _ _ _ _; simp only [Then])
      | (with_reducible show InBlock _ _ _ _ _ _; simp only [InBlock, ↓reduceIte, Nat.reduceEqDiff]))
    refine dl_act (o := ?_) ?_ ?_ ?_ ?_ (fun K hK => ?_)
    rotate_left 1
    focus rfl
    focus rfl
    focus rfl
    focus exact fun ht => fine_none (by first | (with_reducible apply only_idle); (focus decide) | (with_reducible apply only_turn); (focus rfl); (focus rfl); (focus kernel_rfl) | exact only_calc rfl rfl rfl | exact only_check rfl rfl | exact only_cap rfl rfl | exact only_min rfl rfl rfl | exact only_max rfl rfl rfl) ht
    go_simp
    refine hK _ _ _ ⟨Below W.heap.size W, (Below.refl _ _).drew, fun _ => rfl, ?_⟩
    clear hK K
    repeat (first
      | (with_reducible apply dl_nil)
      | ((with_reducible apply dl_skip); (focus rfl); (focus rfl); (focus (first | assumption | exact (Below.refl _ _).drew)); simp only [Act.put, List.setIfInBounds_toArray, List.set_cons_zero, List.set_cons_succ])
      | ((with_reducible apply dl_calm); (focus rfl); (focus rfl); (focus rfl); (focus (first | (with_reducible apply only_idle); (focus decide) | (with_reducible apply only_turn); (focus rfl); (focus rfl); (focus kernel_rfl) | exact only_calc rfl rfl rfl | exact only_check rfl rfl | exact only_cap rfl rfl | exact only_min rfl rfl rfl | exact only_max rfl rfl rfl)); (focus (intro wS hS; have hcS := fun p => Below.cell hS (p := p); go_simp; try rfl)); simp only [Act.put, List.setIfInBounds_toArray, List.set_cons_zero, List.set_cons_succ])
      | (with_reducible show Then _ _ _ _ _ _; simp only [Then])
      | (with_reducible show InBlock _ _ _ _ _ _; simp only [InBlock, ↓reduceIte, Nat.reduceEqDiff]))
    have hmin : min K (xs.length : Int) = ((min K.toNat xs.length : Nat) : Int) := by omega
    have hmax : max 0 ((xs.length : Int) - K) = ((xs.length - K.toNat : Nat) : Int) := by omega
    have hwK : IntKind.i64.wrap ((xs.length : Int) - K) = (xs.length : Int) - K := by simp [IntKind.wrap, IntKind.bits, IntKind.signed]; omega
    cases e3 : (k == 3)
    · have hk : ¬ k = 3 := by simpa using e3
      have hz : List.range' (gotA k K xs.length) (gotZ k K xs.length - gotA k K xs.length) = List.range' 0 (min K.toNat xs.length - 0) := by unfold gotA gotZ; rw [if_neg hk, if_neg hk]
      repeat (first
        | ((with_reducible refine lst_free ?_ ?_ (fun K hK => ?_)); (focus with_reducible rfl); (focus (intro ht; refine fine_none ?_ ht; (focus (first | (with_reducible apply only_idle); (focus decide) | (with_reducible apply only_turn); (focus rfl); (focus rfl); (focus kernel_rfl) | exact only_calc rfl rfl rfl | exact only_check rfl rfl | exact only_cap rfl rfl | exact only_min rfl rfl rfl | exact only_max rfl rfl rfl)))); go_simp; refine hK _ _ _ ?_; clear hK K)
        | ((with_reducible refine lst_off (i := ?_) (b := ?_) (d := ?_) ?_ ?_ ?_ ?_); rotate_left 3; (focus with_reducible rfl); (focus rfl); (focus (simp only [List.getElem?_toArray, List.getElem?_cons_succ, List.getElem?_cons_zero, Bool.not_true, Bool.not_false])); simp only [Act.put, List.setIfInBounds_toArray, List.set_cons_zero, List.set_cons_succ])
        | ((with_reducible refine lst_on (i := ?_) (b := ?_) (d := ?_) ?_ ?_ ?_ ?_ (fun K hK => ?_)); rotate_left 3; (focus with_reducible rfl); (focus rfl); (focus (simp only [List.getElem?_toArray, List.getElem?_cons_succ, List.getElem?_cons_zero])); (focus (intro ht; refine fine_none ?_ ht; (focus (first | (with_reducible apply only_idle); (focus decide) | (with_reducible apply only_turn); (focus rfl); (focus rfl); (focus kernel_rfl) | exact only_calc rfl rfl rfl | exact only_check rfl rfl | exact only_cap rfl rfl | exact only_min rfl rfl rfl | exact only_max rfl rfl rfl)))); go_simp; refine hK _ _ _ ?_; clear hK K)
        | ((with_reducible refine lst_undef (i := ?_) (b := ?_) (d := ?_) ?_ ?_ ?_ ?_); rotate_left 3; (focus with_reducible rfl); (focus rfl); (focus (simp only [List.getElem?_toArray, List.getElem?_cons_succ, List.getElem?_cons_zero])); simp only [Act.put, List.setIfInBounds_toArray, List.set_cons_zero, List.set_cons_succ])
        | (with_reducible apply lst_nil)
        | ((fail_if_success (with_reducible refine lst_any ?_)); first
        | (with_reducible apply j_seq) | (with_reducible apply j_block) | (with_reducible apply j_ret) | (with_reducible apply j_skip) | (with_reducible apply j_exit) | (with_reducible apply j_label) | (with_reducible apply j_region_lit)
        | ((with_reducible refine j_true ?_ ?_); (focus rfl)) | ((with_reducible refine j_false ?_ ?_); (focus rfl))
        | (with_reducible show Then _ _ _ _ _ _; simp only [Then])
        | (with_reducible show InBlock _ _ _ _ _ _; simp only [InBlock, ↓reduceIte, Nat.reduceEqDiff])))
      exact got_loop h hn ht e2 (Nat.zero_le _) (Nat.min_le_right _ _) hz ⟨rfl, 0, .slice none 0 0, hb2.drew, ⟨_, _, bx.drew, rfl, rfl⟩, Nat.le_refl _, by omega, Rws.nil _ _, _, _, _, _, _, _, _, _, _, _, _, _, _, _, _, _, _, _, _, _, _, _, _, _, _, _, _, _, _, _, _, _, _, _, _, _, _, _, _, _, _, _, _, _, _, _, _, _, _, _, _, _, _, _, _, _, _, _, _, _, _, _, rfl⟩
    · have hk : k = 3 := by simpa using e3
      have hz : List.range' (gotA k K xs.length) (gotZ k K xs.length - gotA k K xs.length) = List.range' (xs.length - K.toNat) (xs.length - (xs.length - K.toNat)) := by unfold gotA gotZ; rw [if_pos hk, if_pos hk]
      repeat (first
        | ((with_reducible refine lst_free ?_ ?_ (fun K hK => ?_)); (focus with_reducible rfl); (focus (intro ht; refine fine_none ?_ ht; (focus (first | (with_reducible apply only_idle); (focus decide) | (with_reducible apply only_turn); (focus rfl); (focus rfl); (focus kernel_rfl) | exact only_calc rfl rfl rfl | exact only_check rfl rfl | exact only_cap rfl rfl | exact only_min rfl rfl rfl | exact only_max rfl rfl rfl)))); go_simp; refine hK _ _ _ ?_; clear hK K)
        | ((with_reducible refine lst_off (i := ?_) (b := ?_) (d := ?_) ?_ ?_ ?_ ?_); rotate_left 3; (focus with_reducible rfl); (focus rfl); (focus (simp only [List.getElem?_toArray, List.getElem?_cons_succ, List.getElem?_cons_zero, Bool.not_true, Bool.not_false])); simp only [Act.put, List.setIfInBounds_toArray, List.set_cons_zero, List.set_cons_succ])
        | ((with_reducible refine lst_on (i := ?_) (b := ?_) (d := ?_) ?_ ?_ ?_ ?_ (fun K hK => ?_)); rotate_left 3; (focus with_reducible rfl); (focus rfl); (focus (simp only [List.getElem?_toArray, List.getElem?_cons_succ, List.getElem?_cons_zero])); (focus (intro ht; refine fine_none ?_ ht; (focus (first | (with_reducible apply only_idle); (focus decide) | (with_reducible apply only_turn); (focus rfl); (focus rfl); (focus kernel_rfl) | exact only_calc rfl rfl rfl | exact only_check rfl rfl | exact only_cap rfl rfl | exact only_min rfl rfl rfl | exact only_max rfl rfl rfl)))); go_simp; refine hK _ _ _ ?_; clear hK K)
        | ((with_reducible refine lst_undef (i := ?_) (b := ?_) (d := ?_) ?_ ?_ ?_ ?_); rotate_left 3; (focus with_reducible rfl); (focus rfl); (focus (simp only [List.getElem?_toArray, List.getElem?_cons_succ, List.getElem?_cons_zero])); simp only [Act.put, List.setIfInBounds_toArray, List.set_cons_zero, List.set_cons_succ])
        | (with_reducible apply lst_nil)
        | ((fail_if_success (with_reducible refine lst_any ?_)); first
        | (with_reducible apply j_seq) | (with_reducible apply j_block) | (with_reducible apply j_ret) | (with_reducible apply j_skip) | (with_reducible apply j_exit) | (with_reducible apply j_label) | (with_reducible apply j_region_lit)
        | ((with_reducible refine j_true ?_ ?_); (focus rfl)) | ((with_reducible refine j_false ?_ ?_); (focus rfl))
        | (with_reducible show Then _ _ _ _ _ _; simp only [Then])
        | (with_reducible show InBlock _ _ _ _ _ _; simp only [InBlock, ↓reduceIte, Nat.reduceEqDiff])))
      exact got_loop h hn ht e2 (by omega) (Nat.le_refl _) hz ⟨rfl, (xs.length - K.toNat), .slice none 0 0, hb2.drew, ⟨_, _, bx.drew, rfl, rfl⟩, Nat.le_refl _, by omega, by rw [Nat.sub_self]; exact Rws.nil _ _, _, _, _, _, _, _, _, _, _, _, _, _, _, _, _, _, _, _, _, _, _, _, _, _, _, _, _, _, _, _, _, _, _, _, _, _, _, _, _, _, _, _, _, _, _, _, _, _, _, _, _, _, _, _, _, _, _, _, _, _, _, _, rfl⟩
  · have hb2 : Below w.heap.size w ((w.alloc (.cells #[.int .i64 k, .int .i64 K, .int .i64 T, .int .i64 M] 23)).alloc (.cells #[.int .i64 (Cl.th x), .int .i64 (Cl.kind x), .int .u32 (Cl.val x), .int .i64 (Cl.fr x), .int .i64 (Cl.to x), .int .i64 (Cl.code x), .int .u32 (Cl.out x)] 32)) := (al_ ((al_ (Below.refl _ _) _)) _)
    have hL : gotL k K x xs = if xs = [] then [xs] else [] := by
      unfold gotL
      rw [if_pos (by simpa using e2)]
    by_cases h0 : xs = []
    · subst h0
      rw [hL, if_pos rfl]
      refine jdo_of Tryd.func19 rfl ?_
      simp only [Tryd.ntmps19, List.size_toArray, List.length_cons, List.length_nil, Nat.reduceAdd, Nat.reduceSub, Array.replicate_succ, Array.replicate_zero, List.push_toArray, List.append_toArray, List.nil_append, List.cons_append]
      repeat (first
        | ((with_reducible refine lst_free ?_ ?_ (fun K hK => ?_)); (focus with_reducible rfl); (focus (intro ht; refine fine_none ?_ ht; (focus (first | (with_reducible apply only_idle); (focus decide) | (with_reducible apply only_turn); (focus rfl); (focus rfl); (focus kernel_rfl) | exact only_calc rfl rfl rfl | exact only_check rfl rfl | exact only_cap rfl rfl | exact only_min rfl rfl rfl | exact only_max rfl rfl rfl)))); go_simp; refine hK _ _ _ ?_; clear hK K)
        | ((with_reducible refine lst_off (i := ?_) (b := ?_) (d := ?_) ?_ ?_ ?_ ?_); rotate_left 3; (focus with_reducible rfl); (focus rfl); (focus (simp only [List.getElem?_toArray, List.getElem?_cons_succ, List.getElem?_cons_zero, Bool.not_true, Bool.not_false])); simp only [Act.put, List.setIfInBounds_toArray, List.set_cons_zero, List.set_cons_succ])
        | ((with_reducible refine lst_on (i := ?_) (b := ?_) (d := ?_) ?_ ?_ ?_ ?_ (fun K hK => ?_)); rotate_left 3; (focus with_reducible rfl); (focus rfl); (focus (simp only [List.getElem?_toArray, List.getElem?_cons_succ, List.getElem?_cons_zero])); (focus (intro ht; refine fine_none ?_ ht; (focus (first | (with_reducible apply only_idle); (focus decide) | (with_reducible apply only_turn); (focus rfl); (focus rfl); (focus kernel_rfl) | exact only_calc rfl rfl rfl | exact only_check rfl rfl | exact only_cap rfl rfl | exact only_min rfl rfl rfl | exact only_max rfl rfl rfl)))); go_simp; refine hK _ _ _ ?_; clear hK K)
        | ((with_reducible refine lst_undef (i := ?_) (b := ?_) (d := ?_) ?_ ?_ ?_ ?_); rotate_left 3; (focus with_reducible rfl); (focus rfl); (focus (simp only [List.getElem?_toArray, List.getElem?_cons_succ, List.getElem?_cons_zero])); simp only [Act.put, List.setIfInBounds_toArray, List.set_cons_zero, List.set_cons_succ])
        | (with_reducible apply lst_nil)
        | ((fail_if_success (with_reducible refine lst_any ?_)); first
        | (with_reducible apply j_seq) | (with_reducible apply j_block) | (with_reducible apply j_ret) | (with_reducible apply j_skip) | (with_reducible apply j_exit) | (with_reducible apply j_label) | (with_reducible apply j_region_lit)
        | ((with_reducible refine j_true ?_ ?_); (focus rfl)) | ((with_reducible refine j_false ?_ ?_); (focus rfl))
        | (with_reducible show Then _ _ _ _ _ _; simp only [Then])
        | (with_reducible show InBlock _ _ _ _ _ _; simp only [InBlock, ↓reduceIte, Nat.reduceEqDiff])))
      refine lst_one (one_append_row (.tmp 16) (.tmp 18) rfl rfl (B := w.heap.size) (rows := []) (v := .slice A 0 c) (r := []) rfl (Rws.nil _ _) (fun g e => by cases e) rfl (Blk.new2 _ _ _ _ _) ?_ (fun e => absurd rfl e) (by decide) (by simp; omega) ?_)
      focus exact (h.below ((al_ hb2 _))).more (by simp; omega)
      intro V' w' hV' gr'
      have hb3 : Below w.heap.size w w' := ((al_ hb2 _)).grown gr' (by simp; omega) (fun g e => by cases e)
      simp only [Act.put, List.setIfInBounds_toArray, List.set_cons_zero, List.set_cons_succ]
      repeat (first
        | ((with_reducible refine lst_free ?_ ?_ (fun K hK => ?_)); (focus with_reducible rfl); (focus (intro ht; refine fine_none ?_ ht; (focus (first | (with_reducible apply only_idle); (focus decide) | (with_reducible apply only_turn); (focus rfl); (focus rfl); (focus kernel_rfl) | exact only_calc rfl rfl rfl | exact only_check rfl rfl | exact only_cap rfl rfl | exact only_min rfl rfl rfl | exact only_max rfl rfl rfl)))); go_simp; refine hK _ _ _ ?_; clear hK K)
        | ((with_reducible refine lst_off (i := ?_) (b := ?_) (d := ?_) ?_ ?_ ?_ ?_); rotate_left 3; (focus with_reducible rfl); (focus rfl); (focus (simp only [List.getElem?_toArray, List.getElem?_cons_succ, List.getElem?_cons_zero, Bool.not_true, Bool.not_false])); simp only [Act.put, List.setIfInBounds_toArray, List.set_cons_zero, List.set_cons_succ])
        | ((with_reducible refine lst_on (i := ?_) (b := ?_) (d := ?_) ?_ ?_ ?_ ?_ (fun K hK => ?_)); rotate_left 3; (focus with_reducible rfl); (focus rfl); (focus (simp only [List.getElem?_toArray, List.getElem?_cons_succ, List.getElem?_cons_zero])); (focus (intro ht; refine fine_none ?_ ht; (focus (first | (with_reducible apply only_idle); (focus decide) | (with_reducible apply only_turn); (focus rfl); (focus rfl); (focus kernel_rfl) | exact only_calc rfl rfl rfl | exact only_check rfl rfl | exact only_cap rfl rfl | exact only_min rfl rfl rfl | exact only_max rfl rfl rfl)))); go_simp; refine hK _ _ _ ?_; clear hK K)
        | ((with_reducible refine lst_undef (i := ?_) (b := ?_) (d := ?_) ?_ ?_ ?_ ?_); rotate_left 3; (focus with_reducible rfl); (focus rfl); (focus (simp only [List.getElem?_toArray, List.getElem?_cons_succ, List.getElem?_cons_zero])); simp only [Act.put, List.setIfInBounds_toArray, List.set_cons_zero, List.set_cons_succ])
        | (with_reducible apply lst_nil)
        | ((fail_if_success (with_reducible refine lst_any ?_)); first
        | (with_reducible apply j_seq) | (with_reducible apply j_block) | (with_reducible apply j_ret) | (with_reducible apply j_skip) | (with_reducible apply j_exit) | (with_reducible apply j_label) | (with_reducible apply j_region_lit)
        | ((with_reducible refine j_true ?_ ?_); (focus rfl)) | ((with_reducible refine j_false ?_ ?_); (focus rfl))
        | (with_reducible show Then _ _ _ _ _ _; simp only [Then])
        | (with_reducible show InBlock _ _ _ _ _ _; simp only [InBlock, ↓reduceIte, Nat.reduceEqDiff])))
      exact body_ret1 rfl rfl ⟨rfl, hb3, _, rfl, by exact hV'⟩
    · rw [hL, if_neg h0]
      have h1 : ((xs.length : Int) == 0) = false := by
        have := List.length_pos_iff.2 h0
        simp
        omega
      refine jdo_of Tryd.func19 rfl ?_
      simp only [Tryd.ntmps19, List.size_toArray, List.length_cons, List.length_nil, Nat.reduceAdd, Nat.reduceSub, Array.replicate_succ, Array.replicate_zero, List.push_toArray, List.append_toArray, List.nil_append, List.cons_append]
      repeat (first
        | ((with_reducible refine lst_free ?_ ?_ (fun K hK => ?_)); (focus with_reducible rfl); (focus (intro ht; refine fine_none ?_ ht; (focus (first | (with_reducible apply only_idle); (focus decide) | (with_reducible apply only_turn); (focus rfl); (focus rfl); (focus kernel_rfl) | exact only_calc rfl rfl rfl | exact only_check rfl rfl | exact only_cap rfl rfl | exact only_min rfl rfl rfl | exact only_max rfl rfl rfl)))); go_simp; refine hK _ _ _ ?_; clear hK K)
        | ((with_reducible refine lst_off (i := ?_) (b := ?_) (d := ?_) ?_ ?_ ?_ ?_); rotate_left 3; (focus with_reducible rfl); (focus rfl); (focus (simp only [List.getElem?_toArray, List.getElem?_cons_succ, List.getElem?_cons_zero, Bool.not_true, Bool.not_false])); simp only [Act.put, List.setIfInBounds_toArray, List.set_cons_zero, List.set_cons_succ])
        | ((with_reducible refine lst_on (i := ?_) (b := ?_) (d := ?_) ?_ ?_ ?_ ?_ (fun K hK => ?_)); rotate_left 3; (focus with_reducible rfl); (focus rfl); (focus (simp only [List.getElem?_toArray, List.getElem?_cons_succ, List.getElem?_cons_zero])); (focus (intro ht; refine fine_none ?_ ht; (focus (first | (with_reducible apply only_idle); (focus decide) | (with_reducible apply only_turn); (focus rfl); (focus rfl); (focus kernel_rfl) | exact only_calc rfl rfl rfl | exact only_check rfl rfl | exact only_cap rfl rfl | exact only_min rfl rfl rfl | exact only_max rfl rfl rfl)))); go_simp; refine hK _ _ _ ?_; clear hK K)
        | ((with_reducible refine lst_undef (i := ?_) (b := ?_) (d := ?_) ?_ ?_ ?_ ?_); rotate_left 3; (focus with_reducible rfl); (focus rfl); (focus (simp only [List.getElem?_toArray, List.getElem?_cons_succ, List.getElem?_cons_zero])); simp only [Act.put, List.setIfInBounds_toArray, List.set_cons_zero, List.set_cons_succ])
        | (with_reducible apply lst_nil)
        | ((fail_if_success (with_reducible refine lst_any ?_)); first
        | (with_reducible apply j_seq) | (with_reducible apply j_block) | (with_reducible apply j_ret) | (with_reducible apply j_skip) | (with_reducible apply j_exit) | (with_reducible apply j_label) | (with_reducible apply j_region_lit)
        | ((with_reducible refine j_true ?_ ?_); (focus rfl)) | ((with_reducible refine j_false ?_ ?_); (focus rfl))
        | (with_reducible show Then _ _ _ _ _ _; simp only [Then])
        | (with_reducible show InBlock _ _ _ _ _ _; simp only [InBlock, ↓reduceIte, Nat.reduceEqDiff])))
      exact body_ret1 rfl rfl ⟨rfl, hb2, _, rfl, by exact Rws.nil _ _⟩
end
end Go.Proofs.YtgchailmcbifdaaDoor.Jg
