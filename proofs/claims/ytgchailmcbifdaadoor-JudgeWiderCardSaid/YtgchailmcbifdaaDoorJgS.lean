/- Package judge: Fits. -/
import Derived.Test.YtgchailmcbifdaaDoorJgR
namespace Go.Proofs.YtgchailmcbifdaaDoor.Jg
set_option linter.unusedSimpArgs false
set_option linter.unusedVariables false
set_option maxRecDepth 20000
open Go Go.Conc Go.RowKit Go.Proofs.YtgchailmcbifdaaDoor.Jay Go.Proofs.YtgchailmcbifdaaDoor.Pl
section
variable {γ : Type} {X : Turns γ} {s : γ} {w : World}
attribute [local go_sem] upon_value upon_skip

/-- The calls that are over, of the first i. -/
def ob (l : List Cl) : Nat → Nat
  | 0 => 0
  | i + 1 => match l[i]? with
    | some x => if x.over then ob l i ||| 2 ^ i else ob l i
    | none => ob l i
theorem ob_lt (l : List Cl) : ∀ i, ob l i < 2 ^ i
  | 0 => by simp [ob]
  | i + 1 => by
    have h := ob_lt l i
    have h2 : ob l i < 2 ^ (i + 1) := Nat.lt_of_lt_of_le h (Nat.pow_le_pow_right (by decide) (by omega))
    unfold ob
    split
    · split
      · exact Nat.or_lt_two_pow h2 (Nat.pow_lt_pow_right (by decide) (by omega))
      · exact h2
    · exact h2
theorem ob_256 (l : List Cl) {i : Nat} (h : i ≤ 8) : ob l i < 256 := Nat.lt_of_lt_of_le (ob_lt l i) (Nat.le_trans (Nat.pow_le_pow_right (by decide) h) (by decide))
theorem lev_zero (n : Nat) : lev n 0 = n := by
  induction n with
  | zero => rfl
  | succ n ih => rw [lev_succ, ih]; simp
theorem mayB_K {k K T M : Int} (h : mayB k K T M = true) : 1 ≤ K ∧ K ≤ 64 := by
  unfold mayB inB at h
  simp only [Bool.and_eq_true, decide_eq_true_eq] at h
  exact h.1.1.2
def FitsPost {γ : Type} (k K T M : Int) (l : List Cl) (s : γ) (w : World) (s' : γ) (r : Came) (w' : World) : Prop := s' = s ∧ Below w.heap.size w w' ∧ ∃ (b : Bool) (e : Int), r = .back (.tuple #[.bool b, .int .i64 e]) ∧
  ((mayB k K T M && allMay l) = false → b = false ∧ e = 1) ∧ ((mayB k K T M && allMay l) = true → e = 0 ∧ (b = true ↔ Path k K l (ob l l.length) 0 []))
def FitInv {γ : Type} (w : World) (v : Value) (l : List Cl) (k K T M : Int) (ga : Nat) (s' : γ) (s2 : γ) (a : Act) (W : World) : Prop := s2 = s' ∧ ∃ i : Nat, Below w.heap.size w W ∧ i ≤ l.length ∧ (∃ t cs, Blk W w.heap.size t cs ∧ t = 23 ∧ cs = #[.int .i64 k, .int .i64 K, .int .i64 T, .int .i64 M]) ∧ (∃ t cs, Blk W (w.heap.size + 1) t cs ∧ t = 24 ∧ cs = #[v]) ∧
  (∃ t cs, Blk W ga t cs ∧ t = 3 ∧ cs = #[.int .i64 (ob l i)]) ∧
  (∃ v0 v1 v4 v5 v7 v8 v9 v10 v11 v12 v13 v14 v15 v16 v17 v18 v19 v20 v21 v22 v26 v27 v28 v29 v30 v31 v32 v33 v34 v35 v36 v37 v38 v39 v40, a = { tmps := #[v0, v1, .pointer (some ⟨w.heap.size, 0, none⟩), .pointer (some ⟨w.heap.size + 1, 0, none⟩), v4, v5, .pointer (some ⟨ga, 0, none⟩), v7, v8, v9, v10, v11, v12, v13, v14, v15, v16, v17, v18, v19, v20, v21, v22, v, .int .i64 l.length, .int .i64 i, v26, v27, v28, v29, v30, v31, v32, v33, v34, v35, v36, v37, v38, v39, v40], defers := [] })
def FitMu {γ : Type} (n : Nat) (_ : γ) (a : Act) (_ : World) : Nat := match a.tmps.getD 25 undef with
  | .int _ i => n - i.toNat
  | _ => 0

set_option maxHeartbeats 16000000 in
theorem fits_ok {k K T M : Int} {v : Value} {l : List Cl} (hk2 : (k == 2) = false) (hl : Cls w w.heap.size v l) (hn8 : l.length ≤ 8) (hgood : ∀ x ∈ l, 0 ≤ x.val ∧ x.val < 4294967296) (hT : Tab w) : Jdo Tryd.prog X 5 #[cfg k K T M, v] s w (FitsPost k K T M l s w) := by
  refine Jdo.there fun ht => ?_
  have hoth : ∀ b, w.heap.size ≤ b → ¬ X.oth s b := fun b hb ho => by have := ht b ho; omega
  obtain ⟨A, c, rfl, hc1, hc2⟩ := Sl.form hl
  have c12 : decide ((12 : Int) < (l.length : Int)) = false := decide_eq_false (by omega)
  have c12' : decide (12 < l.length) = false := decide_eq_false (by omega)
  unfold cfg
  refine jdo_of Tryd.func5 rfl ?_
  simp only [Tryd.ntmps5, List.size_toArray, List.length_cons, List.length_nil, Nat.reduceAdd, Nat.reduceSub, Array.replicate_succ, Array.replicate_zero, List.push_toArray, List.append_toArray, List.nil_append, List.cons_append]
  repeat (first
    | ((with_reducible refine lst_free ?_ ?_ (fun K hK => ?_)); (focus with_reducible rfl); (focus (intro ht; refine fine_none ?_ ht; (focus (first | (with_reducible apply only_idle); (focus decide) | (with_reducible apply only_turn); (focus rfl); (focus rfl); (focus kernel_rfl) | exact only_calc rfl rfl rfl | exact only_check rfl rfl | exact only_cap rfl rfl | exact only_min rfl rfl rfl | exact only_max rfl rfl rfl)))); go_simp; refine hK _ _ _ ?_; clear hK K)
    | ((with_reducible refine lst_off (i := ?_) (b := ?_) (d := ?_) ?_ ?_ ?_ ?_); rotate_left 3; (focus with_reducible rfl); (focus rfl); (focus (simp only [List.getElem?_toArray, List.getElem?_cons_succ, List.getElem?_cons_zero, Bool.not_true, Bool.not_false])); simp only [Act.put, List.setIfInBounds_toArray, List.set_cons_zero, List.set_cons_succ])
    | ((with_reducible refine lst_on (i := ?_) (b := ?_) (d := ?_) ?_ ?_ ?_ ?_ (fun K hK => ?_)); rotate_left 3; (focus with_reducible rfl); (focus rfl); (focus (simp only [List.getElem?_toArray, List.getElem?_cons_succ, List.getElem?_cons_zero])); (focus (intro ht; refine fine_none ?_ ht; (focus (first | (with_reducible apply only_idle); (focus decide) | (with_reducible apply only_turn); (focus rfl); (focus rfl); (focus kernel_rfl) | exact only_calc rfl rfl rfl | exact only_check rfl rfl | exact only_cap rfl rfl | exact only_min rfl rfl rfl | exact only_max rfl rfl rfl)))); go_simp; refine hK _ _ _ ?_; clear hK K)
    | ((with_reducible refine lst_undef (i := ?_) (b := ?_) (d := ?_) ?_ ?_ ?_ ?_); rotate_left 3; (focus with_reducible rfl); (focus rfl); (focus (simp only [List.getElem?_toArray, List.getElem?_cons_succ, List.getElem?_cons_zero])); simp only [Act.put, List.setIfInBounds_toArray, List.set_cons_zero, List.set_cons_succ])
    | (with_reducible apply lst_nil)
    | ((fail_if_success (with_reducible refine lst_any ?_)); first
    | (with_reducible apply j_seq) | (with_reducible apply j_block) | (with_reducible apply j_ret) | (with_reducible apply j_skip) | (with_reducible apply j_exit) | (with_reducible apply j_label) | (with_reducible apply j_region_lit)
    | ((with_reducible refine j_true ?_ ?_); (focus rfl)) | ((with_reducible refine j_false ?_ ?_); (focus rfl))
    | (with_reducible show Then _ _ _ _ _ _; simp only [Then])
    | (with_reducible show InBlock _ _ _ _ _ _; simp only [InBlock, ↓reduceIte, Nat.reduceEqDiff])))
  have bk := (Blk.new w 23 #[.int .i64 k, .int .i64 K, .int .i64 T, .int .i64 M]).alloc (.cells #[.slice A l.length c] 24)
  have bl := Blk.new1 w (.cells #[.int .i64 k, .int .i64 K, .int .i64 T, .int .i64 M] 23) 24 #[.slice A l.length c]
  have hb0 : Below w.heap.size w ((w.alloc (.cells #[.int .i64 k, .int .i64 K, .int .i64 T, .int .i64 M] 23)).alloc (.cells #[.slice A l.length c] 24)) := (al_ ((al_ (Below.refl _ _) _)) _)
  generalize hW : (w.alloc (.cells #[.int .i64 k, .int .i64 K, .int .i64 T, .int .i64 M] 23)).alloc (.cells #[.slice A l.length c] 24) = W at bk bl hb0 ⊢
  clear hW
  have dk := bk.cell
  have dl := bl.cell
  have lk := bk.lt
  have ll := bl.lt
  have hmay := may (X := X) (s := s) (w := W) k K T M
  unfold cfg at hmay
  refine lst_call _ rfl ?_ ?_ Tryd.func6 ?_ rfl hmay ?_
  focus rfl
  focus first | rfl | (go_simp; done) | (go_simp; rfl)
  focus rfl
  rintro s1 r W1 ⟨rfl, hb1, rfl⟩
  simp only [Act.put, List.setIfInBounds_toArray, List.set_cons_zero, List.set_cons_succ]
  clear hmay
  have g1 := hb0.trans (hb1.mono hb0.size)
  cases hmB : mayB k K T M
  · clear dk dl
    repeat (first
      | ((with_reducible refine lst_free ?_ ?_ (fun K hK => ?_)); (focus with_reducible rfl); (focus (intro ht; refine fine_none ?_ ht; (focus (first | (with_reducible apply only_idle); (focus decide) | (with_reducible apply only_turn); (focus rfl); (focus rfl); (focus kernel_rfl) | exact only_calc rfl rfl rfl | exact only_check rfl rfl | exact only_cap rfl rfl | exact only_min rfl rfl rfl | exact only_max rfl rfl rfl)))); go_simp; refine hK _ _ _ ?_; clear hK K)
      | ((with_reducible refine lst_off (i := ?_) (b := ?_) (d := ?_) ?_ ?_ ?_ ?_); rotate_left 3; (focus with_reducible rfl); (focus rfl); (focus (simp only [List.getElem?_toArray, List.getElem?_cons_succ, List.getElem?_cons_zero, Bool.not_true, Bool.not_false])); simp only [Act.put, List.setIfInBounds_toArray, List.set_cons_zero, List.set_cons_succ])
      | ((with_reducible refine lst_on (i := ?_) (b := ?_) (d := ?_) ?_ ?_ ?_ ?_ (fun K hK => ?_)); rotate_left 3; (focus with_reducible rfl); (focus rfl); (focus (simp only [List.getElem?_toArray, List.getElem?_cons_succ, List.getElem?_cons_zero])); (focus (intro ht; refine fine_none ?_ ht; (focus (first | (with_reducible apply only_idle); (focus decide) | (with_reducible apply only_turn); (focus rfl); (focus rfl); (focus kernel_rfl) | exact only_calc rfl rfl rfl | exact only_check rfl rfl | exact only_cap rfl rfl | exact only_min rfl rfl rfl | exact only_max rfl rfl rfl)))); go_simp; refine hK _ _ _ ?_; clear hK K)
      | ((with_reducible refine lst_undef (i := ?_) (b := ?_) (d := ?_) ?_ ?_ ?_ ?_); rotate_left 3; (focus with_reducible rfl); (focus rfl); (focus (simp only [List.getElem?_toArray, List.getElem?_cons_succ, List.getElem?_cons_zero])); simp only [Act.put, List.setIfInBounds_toArray, List.set_cons_zero, List.set_cons_succ])
      | (with_reducible apply lst_nil)
      | ((fail_if_success (with_reducible refine lst_any ?_)); first
      | (with_reducible apply j_seq) | (with_reducible apply j_block) | (with_reducible apply j_ret) | (with_reducible apply j_skip) | (with_reducible apply j_exit) | (with_reducible apply j_label) | (with_reducible apply j_region_lit)
      | ((with_reducible refine j_true ?_ ?_); (focus rfl)) | ((with_reducible refine j_false ?_ ?_); (focus rfl))
      | (with_reducible show Then _ _ _ _ _ _; simp only [Then])
      | (with_reducible show InBlock _ _ _ _ _ _; simp only [InBlock, ↓reduceIte, Nat.reduceEqDiff])))
    exact body_ret2 rfl rfl ⟨rfl, g1, false, 1, rfl, (fun _ => ⟨rfl, rfl⟩), (fun h => by simp [hmB] at h)⟩
  · replace bk := bk.below hb1 lk
    replace bl := bl.below hb1 ll
    clear dk dl lk ll
    have dl := bl.cell
    have ll := bl.lt
    repeat (first
      | ((with_reducible refine lst_free ?_ ?_ (fun K hK => ?_)); (focus with_reducible rfl); (focus (intro ht; refine fine_none ?_ ht; (focus (first | (with_reducible apply only_idle); (focus decide) | (with_reducible apply only_turn); (focus rfl); (focus rfl); (focus kernel_rfl) | exact only_calc rfl rfl rfl | exact only_check rfl rfl | exact only_cap rfl rfl | exact only_min rfl rfl rfl | exact only_max rfl rfl rfl)))); go_simp; refine hK _ _ _ ?_; clear hK K)
      | ((with_reducible refine lst_off (i := ?_) (b := ?_) (d := ?_) ?_ ?_ ?_ ?_); rotate_left 3; (focus with_reducible rfl); (focus rfl); (focus (simp only [List.getElem?_toArray, List.getElem?_cons_succ, List.getElem?_cons_zero, Bool.not_true, Bool.not_false])); simp only [Act.put, List.setIfInBounds_toArray, List.set_cons_zero, List.set_cons_succ])
      | ((with_reducible refine lst_on (i := ?_) (b := ?_) (d := ?_) ?_ ?_ ?_ ?_ (fun K hK => ?_)); rotate_left 3; (focus with_reducible rfl); (focus rfl); (focus (simp only [List.getElem?_toArray, List.getElem?_cons_succ, List.getElem?_cons_zero])); (focus (intro ht; refine fine_none ?_ ht; (focus (first | (with_reducible apply only_idle); (focus decide) | (with_reducible apply only_turn); (focus rfl); (focus rfl); (focus kernel_rfl) | exact only_calc rfl rfl rfl | exact only_check rfl rfl | exact only_cap rfl rfl | exact only_min rfl rfl rfl | exact only_max rfl rfl rfl)))); go_simp; refine hK _ _ _ ?_; clear hK K)
      | ((with_reducible refine lst_undef (i := ?_) (b := ?_) (d := ?_) ?_ ?_ ?_ ?_); rotate_left 3; (focus with_reducible rfl); (focus rfl); (focus (simp only [List.getElem?_toArray, List.getElem?_cons_succ, List.getElem?_cons_zero])); simp only [Act.put, List.setIfInBounds_toArray, List.set_cons_zero, List.set_cons_succ])
      | (with_reducible apply lst_nil)
      | ((fail_if_success (with_reducible refine lst_any ?_)); first
      | (with_reducible apply j_seq) | (with_reducible apply j_block) | (with_reducible apply j_ret) | (with_reducible apply j_skip) | (with_reducible apply j_exit) | (with_reducible apply j_label) | (with_reducible apply j_region_lit)
      | ((with_reducible refine j_true ?_ ?_); (focus rfl)) | ((with_reducible refine j_false ?_ ?_); (focus rfl))
      | (with_reducible show Then _ _ _ _ _ _; simp only [Then])
      | (with_reducible show InBlock _ _ _ _ _ _; simp only [InBlock, ↓reduceIte, Nat.reduceEqDiff])))
    refine lst_call _ rfl ?_ ?_ Tryd.func7 ?_ rfl (containsFunc (B := w.heap.size) (Sl.below hl g1) g1.size (by omega)) ?_
    focus rfl
    focus first | rfl | (go_simp; done) | (go_simp; rfl)
    focus rfl
    rintro s2 r W2 ⟨rfl, hb2, rfl⟩
    simp only [Act.put, List.setIfInBounds_toArray, List.set_cons_zero, List.set_cons_succ]
    have g2 := g1.trans (hb2.mono g1.size)
    cases hA : allMay l
    · clear dl
      repeat (first
        | ((with_reducible refine lst_free ?_ ?_ (fun K hK => ?_)); (focus with_reducible rfl); (focus (intro ht; refine fine_none ?_ ht; (focus (first | (with_reducible apply only_idle); (focus decide) | (with_reducible apply only_turn); (focus rfl); (focus rfl); (focus kernel_rfl) | exact only_calc rfl rfl rfl | exact only_check rfl rfl | exact only_cap rfl rfl | exact only_min rfl rfl rfl | exact only_max rfl rfl rfl)))); go_simp; refine hK _ _ _ ?_; clear hK K)
        | ((with_reducible refine lst_off (i := ?_) (b := ?_) (d := ?_) ?_ ?_ ?_ ?_); rotate_left 3; (focus with_reducible rfl); (focus rfl); (focus (simp only [List.getElem?_toArray, List.getElem?_cons_succ, List.getElem?_cons_zero, Bool.not_true, Bool.not_false])); simp only [Act.put, List.setIfInBounds_toArray, List.set_cons_zero, List.set_cons_succ])
        | ((with_reducible refine lst_on (i := ?_) (b := ?_) (d := ?_) ?_ ?_ ?_ ?_ (fun K hK => ?_)); rotate_left 3; (focus with_reducible rfl); (focus rfl); (focus (simp only [List.getElem?_toArray, List.getElem?_cons_succ, List.getElem?_cons_zero])); (focus (intro ht; refine fine_none ?_ ht; (focus (first | (with_reducible apply only_idle); (focus decide) | (with_reducible apply only_turn); (focus rfl); (focus rfl); (focus kernel_rfl) | exact only_calc rfl rfl rfl | exact only_check rfl rfl | exact only_cap rfl rfl | exact only_min rfl rfl rfl | exact only_max rfl rfl rfl)))); go_simp; refine hK _ _ _ ?_; clear hK K)
        | ((with_reducible refine lst_undef (i := ?_) (b := ?_) (d := ?_) ?_ ?_ ?_ ?_); rotate_left 3; (focus with_reducible rfl); (focus rfl); (focus (simp only [List.getElem?_toArray, List.getElem?_cons_succ, List.getElem?_cons_zero])); simp only [Act.put, List.setIfInBounds_toArray, List.set_cons_zero, List.set_cons_succ])
        | (with_reducible apply lst_nil)
        | ((fail_if_success (with_reducible refine lst_any ?_)); first
        | (with_reducible apply j_seq) | (with_reducible apply j_block) | (with_reducible apply j_ret) | (with_reducible apply j_skip) | (with_reducible apply j_exit) | (with_reducible apply j_label) | (with_reducible apply j_region_lit)
        | ((with_reducible refine j_true ?_ ?_); (focus rfl)) | ((with_reducible refine j_false ?_ ?_); (focus rfl))
        | (with_reducible show Then _ _ _ _ _ _; simp only [Then])
        | (with_reducible show InBlock _ _ _ _ _ _; simp only [InBlock, ↓reduceIte, Nat.reduceEqDiff])))
      exact body_ret2 rfl rfl ⟨rfl, g2, false, 1, rfl, (fun _ => ⟨rfl, rfl⟩), (fun h => by simp [hA] at h)⟩
    · replace bk := bk.below hb2 bk.lt
      replace bl := bl.below hb2 bl.lt
      have hga : w.heap.size + 1 < W2.heap.size := bl.lt
      clear dl ll
      repeat (first
        | ((with_reducible refine lst_free ?_ ?_ (fun K hK => ?_)); (focus with_reducible rfl); (focus (intro ht; refine fine_none ?_ ht; (focus (first | (with_reducible apply only_idle); (focus decide) | (with_reducible apply only_turn); (focus rfl); (focus rfl); (focus kernel_rfl) | exact only_calc rfl rfl rfl | exact only_check rfl rfl | exact only_cap rfl rfl | exact only_min rfl rfl rfl | exact only_max rfl rfl rfl)))); go_simp; refine hK _ _ _ ?_; clear hK K)
        | ((with_reducible refine lst_off (i := ?_) (b := ?_) (d := ?_) ?_ ?_ ?_ ?_); rotate_left 3; (focus with_reducible rfl); (focus rfl); (focus (simp only [List.getElem?_toArray, List.getElem?_cons_succ, List.getElem?_cons_zero, Bool.not_true, Bool.not_false])); simp only [Act.put, List.setIfInBounds_toArray, List.set_cons_zero, List.set_cons_succ])
        | ((with_reducible refine lst_on (i := ?_) (b := ?_) (d := ?_) ?_ ?_ ?_ ?_ (fun K hK => ?_)); rotate_left 3; (focus with_reducible rfl); (focus rfl); (focus (simp only [List.getElem?_toArray, List.getElem?_cons_succ, List.getElem?_cons_zero])); (focus (intro ht; refine fine_none ?_ ht; (focus (first | (with_reducible apply only_idle); (focus decide) | (with_reducible apply only_turn); (focus rfl); (focus rfl); (focus kernel_rfl) | exact only_calc rfl rfl rfl | exact only_check rfl rfl | exact only_cap rfl rfl | exact only_min rfl rfl rfl | exact only_max rfl rfl rfl)))); go_simp; refine hK _ _ _ ?_; clear hK K)
        | ((with_reducible refine lst_undef (i := ?_) (b := ?_) (d := ?_) ?_ ?_ ?_ ?_); rotate_left 3; (focus with_reducible rfl); (focus rfl); (focus (simp only [List.getElem?_toArray, List.getElem?_cons_succ, List.getElem?_cons_zero])); simp only [Act.put, List.setIfInBounds_toArray, List.set_cons_zero, List.set_cons_succ])
        | (with_reducible apply lst_nil)
        | ((fail_if_success (with_reducible refine lst_any ?_)); first
        | (with_reducible apply j_seq) | (with_reducible apply j_block) | (with_reducible apply j_ret) | (with_reducible apply j_skip) | (with_reducible apply j_exit) | (with_reducible apply j_label) | (with_reducible apply j_region_lit)
        | ((with_reducible refine j_true ?_ ?_); (focus rfl)) | ((with_reducible refine j_false ?_ ?_); (focus rfl))
        | (with_reducible show Then _ _ _ _ _ _; simp only [Then])
        | (with_reducible show InBlock _ _ _ _ _ _; simp only [InBlock, ↓reduceIte, Nat.reduceEqDiff])))
      refine lst_one (one_store (v := .int .i64 0) (cs' := #[.int .i64 0]) rfl rfl rfl rfl (Blk.new W2 _ _) (hoth _ (g2.size)) (by kernel_rfl) (Nat.le_of_ble_eq_true rfl) (by simp [Value.cells, Value.oneCell']) rfl ?_)
      simp only [Act.put, List.setIfInBounds_toArray, List.set_cons_zero, List.set_cons_succ]
      have ba := (Blk.new W2 3 #[.int .i64 0]).row #[.int .i64 0]
      have hb3 : Below (World.heap W2).size W2 _ := Below_row ((Below.refl _ _).alloc (Nat.le_refl _) (.cells #[.int .i64 0] 3)) #[.int .i64 0] (Nat.le_refl _)
      generalize hKV : (World.alloc W2 (.cells #[.int .i64 0] 3)).setRow (World.heap W2).size #[.int .i64 0] = W3 at ba hb3 ⊢
      clear hKV
      have g3 := g2.trans (hb3.mono g2.size)
      replace bk := bk.below hb3 bk.lt
      replace bl := bl.below hb3 bl.lt
      have dl := bl.cell
      have ll := bl.lt
      have la := ba.lt
      have hgo : ¬ X.oth s2 W2.heap.size := hoth _ g2.size
      generalize W2.heap.size = ga at ba la hga hgo ⊢
      repeat (first
        | ((with_reducible refine lst_free ?_ ?_ (fun K hK => ?_)); (focus with_reducible rfl); (focus (intro ht; refine fine_none ?_ ht; (focus (first | (with_reducible apply only_idle); (focus decide) | (with_reducible apply only_turn); (focus rfl); (focus rfl); (focus kernel_rfl) | exact only_calc rfl rfl rfl | exact only_check rfl rfl | exact only_cap rfl rfl | exact only_min rfl rfl rfl | exact only_max rfl rfl rfl)))); go_simp; refine hK _ _ _ ?_; clear hK K)
        | ((with_reducible refine lst_off (i := ?_) (b := ?_) (d := ?_) ?_ ?_ ?_ ?_); rotate_left 3; (focus with_reducible rfl); (focus rfl); (focus (simp only [List.getElem?_toArray, List.getElem?_cons_succ, List.getElem?_cons_zero, Bool.not_true, Bool.not_false])); simp only [Act.put, List.setIfInBounds_toArray, List.set_cons_zero, List.set_cons_succ])
        | ((with_reducible refine lst_on (i := ?_) (b := ?_) (d := ?_) ?_ ?_ ?_ ?_ (fun K hK => ?_)); rotate_left 3; (focus with_reducible rfl); (focus rfl); (focus (simp only [List.getElem?_toArray, List.getElem?_cons_succ, List.getElem?_cons_zero])); (focus (intro ht; refine fine_none ?_ ht; (focus (first | (with_reducible apply only_idle); (focus decide) | (with_reducible apply only_turn); (focus rfl); (focus rfl); (focus kernel_rfl) | exact only_calc rfl rfl rfl | exact only_check rfl rfl | exact only_cap rfl rfl | exact only_min rfl rfl rfl | exact only_max rfl rfl rfl)))); go_simp; refine hK _ _ _ ?_; clear hK K)
        | ((with_reducible refine lst_undef (i := ?_) (b := ?_) (d := ?_) ?_ ?_ ?_ ?_); rotate_left 3; (focus with_reducible rfl); (focus rfl); (focus (simp only [List.getElem?_toArray, List.getElem?_cons_succ, List.getElem?_cons_zero])); simp only [Act.put, List.setIfInBounds_toArray, List.set_cons_zero, List.set_cons_succ])
        | (with_reducible apply lst_nil)
        | ((fail_if_success (with_reducible refine lst_any ?_)); first
        | (with_reducible apply j_seq) | (with_reducible apply j_block) | (with_reducible apply j_ret) | (with_reducible apply j_skip) | (with_reducible apply j_exit) | (with_reducible apply j_label) | (with_reducible apply j_region_lit)
        | ((with_reducible refine j_true ?_ ?_); (focus rfl)) | ((with_reducible refine j_false ?_ ?_); (focus rfl))
        | (with_reducible show Then _ _ _ _ _ _; simp only [Then])
        | (with_reducible show InBlock _ _ _ _ _ _; simp only [InBlock, ↓reduceIte, Nat.reduceEqDiff])))
      refine j_loop (I := FitInv w (.slice A l.length c) l k K T M ga s2) (μ := FitMu l.length) ?_ ?_
      focus exact ⟨rfl, 0, g3, Nat.zero_le _, ⟨_, _, bk, rfl, rfl⟩, ⟨_, _, bl, rfl, rfl⟩, ⟨_, _, ba, rfl, rfl⟩, _, _, _, _, _, _, _, _, _, _, _, _, _, _, _, _, _, _, _, _, _, _, _, _, _, _, _, _, _, _, _, _, _, _, _, rfl⟩
      clear bk bl ba dl ll la g3 hb3 W3 g2 hb2 W2 g1 hb1 W1 hb0 W
      rintro s3 a W ⟨rfl, i, hW, hi, ⟨_, _, bk, rfl, rfl⟩, ⟨_, _, bl, rfl, rfl⟩, ⟨_, _, ba, rfl, rfl⟩, v0, v1, v4, v5, v7, v8, v9, v10, v11, v12, v13, v14, v15, v16, v17, v18, v19, v20, v21, v22, v26, v27, v28, v29, v30, v31, v32, v33, v34, v35, v36, v37, v38, v39, v40, rfl⟩
      by_cases hlt : i < l.length
      · have c1 : decide ((i : Int) < (l.length : Int)) = true := decide_eq_true (by omega)
        have c2 : decide (i < l.length) = true := decide_eq_true hlt
        have hl' : Cls W w.heap.size _ l := Sl.below hl hW
        obtain ⟨b, o, cc, ev, hb, _, _, hat⟩ := Cls.at_ hl' (by omega)
        obtain ⟨rfl, rfl⟩ : A = some ⟨b, o, none⟩ ∧ c = cc := by injection ev with e1 e2 e3; exact ⟨e1, e3⟩
        have y0 : W.cell? ⟨b, o + i * 7, none⟩ = some (.int .i64 l[i].th) := hat i hlt 0 _ rfl
        have y1 : W.cell? ⟨b, o + i * 7 + 1, none⟩ = some (.int .i64 l[i].kind) := hat i hlt 1 _ rfl
        have y2 : W.cell? ⟨b, o + i * 7 + 2, none⟩ = some (.int .u32 l[i].val) := hat i hlt 2 _ rfl
        have y3 : W.cell? ⟨b, o + i * 7 + 3, none⟩ = some (.int .i64 l[i].fr) := hat i hlt 3 _ rfl
        have y4 : W.cell? ⟨b, o + i * 7 + 4, none⟩ = some (.int .i64 l[i].to) := hat i hlt 4 _ rfl
        have y5 : W.cell? ⟨b, o + i * 7 + 5, none⟩ = some (.int .i64 l[i].code) := hat i hlt 5 _ rfl
        have y6 : W.cell? ⟨b, o + i * 7 + 6, none⟩ = some (.int .u32 l[i].out) := hat i hlt 6 _ rfl
        have hidx : (0 : Int) ≤ (i : Int) ∧ (i : Int) < (l.length : Int) := by omega
        clear hat ev
        have hob : ob l (i + 1) = if l[i].over then ob l i ||| 2 ^ i else ob l i := by
          conv => lhs; unfold ob
          rw [List.getElem?_eq_getElem hlt]
        generalize l[i] = y at y0 y1 y2 y3 y4 y5 y6 hob
        have hw : IntKind.i64.wrap ((i : Int) + 1) = (i : Int) + 1 := by simp [IntKind.wrap, IntKind.bits, IntKind.signed]; omega
        have hor := or_bit (ob_256 l (show i ≤ 8 by omega)) (show i < 8 by omega)
        obtain ⟨a2, ha2⟩ : ∃ a2, Hid (ob l (i + 1) = a2) := ⟨_, rfl⟩
        rw [show ob l (i + 1) = a2 from ha2] at hob
        generalize ob l i = a1 at ba hor hob
        generalize hx : a1 ||| 2 ^ i = a3 at hor hob
        clear hx
        repeat (first
          | ((with_reducible refine lst_free ?_ ?_ (fun K hK => ?_)); (focus with_reducible rfl); (focus (intro ht; refine fine_none ?_ ht; (focus (first | (with_reducible apply only_idle); (focus decide) | (with_reducible apply only_turn); (focus rfl); (focus rfl); (focus kernel_rfl) | exact only_calc rfl rfl rfl | exact only_check rfl rfl | exact only_cap rfl rfl | exact only_min rfl rfl rfl | exact only_max rfl rfl rfl)))); go_simp; refine hK _ _ _ ?_; clear hK K)
          | ((with_reducible refine lst_off (i := ?_) (b := ?_) (d := ?_) ?_ ?_ ?_ ?_); rotate_left 3; (focus with_reducible rfl); (focus rfl); (focus (simp only [List.getElem?_toArray, List.getElem?_cons_succ, List.getElem?_cons_zero, Bool.not_true, Bool.not_false])); simp only [Act.put, List.setIfInBounds_toArray, List.set_cons_zero, List.set_cons_succ])
          | ((with_reducible refine lst_on (i := ?_) (b := ?_) (d := ?_) ?_ ?_ ?_ ?_ (fun K hK => ?_)); rotate_left 3; (focus with_reducible rfl); (focus rfl); (focus (simp only [List.getElem?_toArray, List.getElem?_cons_succ, List.getElem?_cons_zero])); (focus (intro ht; refine fine_none ?_ ht; (focus (first | (with_reducible apply only_idle); (focus decide) | (with_reducible apply only_turn); (focus rfl); (focus rfl); (focus kernel_rfl) | exact only_calc rfl rfl rfl | exact only_check rfl rfl | exact only_cap rfl rfl | exact only_min rfl rfl rfl | exact only_max rfl rfl rfl)))); go_simp; refine hK _ _ _ ?_; clear hK K)
          | ((with_reducible refine lst_undef (i := ?_) (b := ?_) (d := ?_) ?_ ?_ ?_ ?_); rotate_left 3; (focus with_reducible rfl); (focus rfl); (focus (simp only [List.getElem?_toArray, List.getElem?_cons_succ, List.getElem?_cons_zero])); simp only [Act.put, List.setIfInBounds_toArray, List.set_cons_zero, List.set_cons_succ])
          | (with_reducible apply lst_nil)
          | ((fail_if_success (with_reducible refine lst_any ?_)); first
          | (with_reducible apply j_seq) | (with_reducible apply j_block) | (with_reducible apply j_ret) | (with_reducible apply j_skip) | (with_reducible apply j_exit) | (with_reducible apply j_label) | (with_reducible apply j_region_lit)
          | ((with_reducible refine j_true ?_ ?_); (focus rfl)) | ((with_reducible refine j_false ?_ ?_); (focus rfl))
          | (with_reducible show Then _ _ _ _ _ _; simp only [Then])
          | (with_reducible show InBlock _ _ _ _ _ _; simp only [InBlock, ↓reduceIte, Nat.reduceEqDiff])))
        refine lst_one (one_store (v := .agg #[.int .i64 (Cl.th y), .int .i64 (Cl.kind y), .int .u32 (Cl.val y), .int .i64 (Cl.fr y), .int .i64 (Cl.to y), .int .i64 (Cl.code y), .int .u32 (Cl.out y)]) (cs' := #[.int .i64 (Cl.th y), .int .i64 (Cl.kind y), .int .u32 (Cl.val y), .int .i64 (Cl.fr y), .int .i64 (Cl.to y), .int .i64 (Cl.code y), .int .u32 (Cl.out y)]) rfl rfl rfl rfl (Blk.new W _ _) (hoth _ hW.size) (by kernel_rfl) (Nat.le_of_ble_eq_true rfl) (by simp [Value.cells, Value.oneCell']) rfl ?_)
        simp only [Act.put, List.setIfInBounds_toArray, List.set_cons_zero, List.set_cons_succ]
        have bs := (Blk.new W 32 #[.int .i64 0, .int .i64 0, .int .u32 0, .int .i64 0, .int .i64 0, .int .i64 0, .int .u32 0]).row #[.int .i64 (Cl.th y), .int .i64 (Cl.kind y), .int .u32 (Cl.val y), .int .i64 (Cl.fr y), .int .i64 (Cl.to y), .int .i64 (Cl.code y), .int .u32 (Cl.out y)]
        have hb1 : Below (World.heap W).size W _ := Below_row ((Below.refl _ _).alloc (Nat.le_refl _) (.cells #[.int .i64 0, .int .i64 0, .int .u32 0, .int .i64 0, .int .i64 0, .int .i64 0, .int .u32 0] 32)) #[.int .i64 (Cl.th y), .int .i64 (Cl.kind y), .int .u32 (Cl.val y), .int .i64 (Cl.fr y), .int .i64 (Cl.to y), .int .i64 (Cl.code y), .int .u32 (Cl.out y)] (Nat.le_refl _)
        generalize hKW1 : (World.alloc W (.cells #[.int .i64 0, .int .i64 0, .int .u32 0, .int .i64 0, .int .i64 0, .int .i64 0, .int .u32 0] 32)).setRow (World.heap W).size #[.int .i64 (Cl.th y), .int .i64 (Cl.kind y), .int .u32 (Cl.val y), .int .i64 (Cl.fr y), .int .i64 (Cl.to y), .int .i64 (Cl.code y), .int .u32 (Cl.out y)] = W1 at bs hb1 ⊢
        clear hKW1
        clear y0 y1 y2 y3 y4 y5 y6
        have g1 := hW.trans (hb1.mono hW.size)
        replace bk := bk.below hb1 bk.lt
        replace bl := bl.below hb1 bl.lt
        replace ba := ba.below hb1 ba.lt
        have ds := bs.cell
        have lbs := bs.lt
        repeat (first
          | ((with_reducible refine lst_free ?_ ?_ (fun K hK => ?_)); (focus with_reducible rfl); (focus (intro ht; refine fine_none ?_ ht; (focus (first | (with_reducible apply only_idle); (focus decide) | (with_reducible apply only_turn); (focus rfl); (focus rfl); (focus kernel_rfl) | exact only_calc rfl rfl rfl | exact only_check rfl rfl | exact only_cap rfl rfl | exact only_min rfl rfl rfl | exact only_max rfl rfl rfl)))); go_simp; refine hK _ _ _ ?_; clear hK K)
          | ((with_reducible refine lst_off (i := ?_) (b := ?_) (d := ?_) ?_ ?_ ?_ ?_); rotate_left 3; (focus with_reducible rfl); (focus rfl); (focus (simp only [List.getElem?_toArray, List.getElem?_cons_succ, List.getElem?_cons_zero, Bool.not_true, Bool.not_false])); simp only [Act.put, List.setIfInBounds_toArray, List.set_cons_zero, List.set_cons_succ])
          | ((with_reducible refine lst_on (i := ?_) (b := ?_) (d := ?_) ?_ ?_ ?_ ?_ (fun K hK => ?_)); rotate_left 3; (focus with_reducible rfl); (focus rfl); (focus (simp only [List.getElem?_toArray, List.getElem?_cons_succ, List.getElem?_cons_zero])); (focus (intro ht; refine fine_none ?_ ht; (focus (first | (with_reducible apply only_idle); (focus decide) | (with_reducible apply only_turn); (focus rfl); (focus rfl); (focus kernel_rfl) | exact only_calc rfl rfl rfl | exact only_check rfl rfl | exact only_cap rfl rfl | exact only_min rfl rfl rfl | exact only_max rfl rfl rfl)))); go_simp; refine hK _ _ _ ?_; clear hK K)
          | ((with_reducible refine lst_undef (i := ?_) (b := ?_) (d := ?_) ?_ ?_ ?_ ?_); rotate_left 3; (focus with_reducible rfl); (focus rfl); (focus (simp only [List.getElem?_toArray, List.getElem?_cons_succ, List.getElem?_cons_zero])); simp only [Act.put, List.setIfInBounds_toArray, List.set_cons_zero, List.set_cons_succ])
          | (with_reducible apply lst_nil)
          | ((fail_if_success (with_reducible refine lst_any ?_)); first
          | (with_reducible apply j_seq) | (with_reducible apply j_block) | (with_reducible apply j_ret) | (with_reducible apply j_skip) | (with_reducible apply j_exit) | (with_reducible apply j_label) | (with_reducible apply j_region_lit)
          | ((with_reducible refine j_true ?_ ?_); (focus rfl)) | ((with_reducible refine j_false ?_ ?_); (focus rfl))
          | (with_reducible show Then _ _ _ _ _ _; simp only [Then])
          | (with_reducible show InBlock _ _ _ _ _ _; simp only [InBlock, ↓reduceIte, Nat.reduceEqDiff])))
        refine lst_call _ rfl ?_ ?_ Tryd.func10 ?_ rfl (over y) ?_
        focus rfl
        focus first | rfl | (go_simp; done) | (go_simp; rfl)
        focus rfl
        rintro s4 r W2 ⟨rfl, hb2, rfl⟩
        simp only [Act.put, List.setIfInBounds_toArray, List.set_cons_zero, List.set_cons_succ]
        have g2 := g1.trans (hb2.mono g1.size)
        replace bk := bk.below hb2 bk.lt
        replace bl := bl.below hb2 bl.lt
        replace ba := ba.below hb2 ba.lt
        clear ds lbs bs
        cases ho : y.over
        · rw [ho, if_neg (by decide)] at hob
          repeat (first
            | ((with_reducible refine lst_free ?_ ?_ (fun K hK => ?_)); (focus with_reducible rfl); (focus (intro ht; refine fine_none ?_ ht; (focus (first | (with_reducible apply only_idle); (focus decide) | (with_reducible apply only_turn); (focus rfl); (focus rfl); (focus kernel_rfl) | exact only_calc rfl rfl rfl | exact only_check rfl rfl | exact only_cap rfl rfl | exact only_min rfl rfl rfl | exact only_max rfl rfl rfl)))); go_simp; refine hK _ _ _ ?_; clear hK K)
            | ((with_reducible refine lst_off (i := ?_) (b := ?_) (d := ?_) ?_ ?_ ?_ ?_); rotate_left 3; (focus with_reducible rfl); (focus rfl); (focus (simp only [List.getElem?_toArray, List.getElem?_cons_succ, List.getElem?_cons_zero, Bool.not_true, Bool.not_false])); simp only [Act.put, List.setIfInBounds_toArray, List.set_cons_zero, List.set_cons_succ])
            | ((with_reducible refine lst_on (i := ?_) (b := ?_) (d := ?_) ?_ ?_ ?_ ?_ (fun K hK => ?_)); rotate_left 3; (focus with_reducible rfl); (focus rfl); (focus (simp only [List.getElem?_toArray, List.getElem?_cons_succ, List.getElem?_cons_zero])); (focus (intro ht; refine fine_none ?_ ht; (focus (first | (with_reducible apply only_idle); (focus decide) | (with_reducible apply only_turn); (focus rfl); (focus rfl); (focus kernel_rfl) | exact only_calc rfl rfl rfl | exact only_check rfl rfl | exact only_cap rfl rfl | exact only_min rfl rfl rfl | exact only_max rfl rfl rfl)))); go_simp; refine hK _ _ _ ?_; clear hK K)
            | ((with_reducible refine lst_undef (i := ?_) (b := ?_) (d := ?_) ?_ ?_ ?_ ?_); rotate_left 3; (focus with_reducible rfl); (focus rfl); (focus (simp only [List.getElem?_toArray, List.getElem?_cons_succ, List.getElem?_cons_zero])); simp only [Act.put, List.setIfInBounds_toArray, List.set_cons_zero, List.set_cons_succ])
            | (with_reducible apply lst_nil)
            | ((fail_if_success (with_reducible refine lst_any ?_)); first
            | (with_reducible apply j_seq) | (with_reducible apply j_block) | (with_reducible apply j_ret) | (with_reducible apply j_skip) | (with_reducible apply j_exit) | (with_reducible apply j_label) | (with_reducible apply j_region_lit)
            | ((with_reducible refine j_true ?_ ?_); (focus rfl)) | ((with_reducible refine j_false ?_ ?_); (focus rfl))
            | (with_reducible show Then _ _ _ _ _ _; simp only [Then])
            | (with_reducible show InBlock _ _ _ _ _ _; simp only [InBlock, ↓reduceIte, Nat.reduceEqDiff])))
          refine ⟨⟨rfl, i + 1, g2, by omega, ⟨_, _, bk, rfl, rfl⟩, ⟨_, _, bl, rfl, rfl⟩, ⟨_, _, ba, rfl, by rw [show ob l (i + 1) = a2 from ha2, hob]⟩, _, _, _, _, _, _, _, _, _, _, _, _, _, _, _, _, _, _, _, _, _, _, _, _, _, _, _, _, _, _, _, _, _, _, _, rfl⟩, by show l.length - ((i : Int) + 1).toNat < l.length - ((i : Int)).toNat; omega⟩
        · rw [ho, if_pos rfl] at hob
          have da := ba.cell
          have la := ba.lt
          have fa := ba.frozen 0
          repeat (first
            | ((with_reducible refine lst_free ?_ ?_ (fun K hK => ?_)); (focus with_reducible rfl); (focus (intro ht; refine fine_none ?_ ht; (focus (first | (with_reducible apply only_idle); (focus decide) | (with_reducible apply only_turn); (focus rfl); (focus rfl); (focus kernel_rfl) | exact only_calc rfl rfl rfl | exact only_check rfl rfl | exact only_cap rfl rfl | exact only_min rfl rfl rfl | exact only_max rfl rfl rfl)))); go_simp; refine hK _ _ _ ?_; clear hK K)
            | ((with_reducible refine lst_off (i := ?_) (b := ?_) (d := ?_) ?_ ?_ ?_ ?_); rotate_left 3; (focus with_reducible rfl); (focus rfl); (focus (simp only [List.getElem?_toArray, List.getElem?_cons_succ, List.getElem?_cons_zero, Bool.not_true, Bool.not_false])); simp only [Act.put, List.setIfInBounds_toArray, List.set_cons_zero, List.set_cons_succ])
            | ((with_reducible refine lst_on (i := ?_) (b := ?_) (d := ?_) ?_ ?_ ?_ ?_ (fun K hK => ?_)); rotate_left 3; (focus with_reducible rfl); (focus rfl); (focus (simp only [List.getElem?_toArray, List.getElem?_cons_succ, List.getElem?_cons_zero])); (focus (intro ht; refine fine_none ?_ ht; (focus (first | (with_reducible apply only_idle); (focus decide) | (with_reducible apply only_turn); (focus rfl); (focus rfl); (focus kernel_rfl) | exact only_calc rfl rfl rfl | exact only_check rfl rfl | exact only_cap rfl rfl | exact only_min rfl rfl rfl | exact only_max rfl rfl rfl)))); go_simp; refine hK _ _ _ ?_; clear hK K)
            | ((with_reducible refine lst_undef (i := ?_) (b := ?_) (d := ?_) ?_ ?_ ?_ ?_); rotate_left 3; (focus with_reducible rfl); (focus rfl); (focus (simp only [List.getElem?_toArray, List.getElem?_cons_succ, List.getElem?_cons_zero])); simp only [Act.put, List.setIfInBounds_toArray, List.set_cons_zero, List.set_cons_succ])
            | (with_reducible apply lst_nil)
            | ((fail_if_success (with_reducible refine lst_any ?_)); first
            | (with_reducible apply j_seq) | (with_reducible apply j_block) | (with_reducible apply j_ret) | (with_reducible apply j_skip) | (with_reducible apply j_exit) | (with_reducible apply j_label) | (with_reducible apply j_region_lit)
            | ((with_reducible refine j_true ?_ ?_); (focus rfl)) | ((with_reducible refine j_false ?_ ?_); (focus rfl))
            | (with_reducible show Then _ _ _ _ _ _; simp only [Then])
            | (with_reducible show InBlock _ _ _ _ _ _; simp only [InBlock, ↓reduceIte, Nat.reduceEqDiff])))
          refine j_region_dl [0, 0, 2, 7, 15] [0, 1, 2, 3, 4] (Cs W2) rfl (by decide +kernel) (by repeat (first | assumption | exact loose_body | (with_reducible apply loose_then) | (with_reducible apply loose_block) | (with_reducible apply loose_noGoto) | (with_reducible apply loose_jump))) ?_ ?_
          focus exact fun p hp => rfl
          repeat (first
            | (with_reducible apply dl_nil)
            | ((with_reducible apply dl_calm); (focus rfl); (focus rfl); (focus rfl); (focus (first | (with_reducible apply only_idle); (focus decide) | (with_reducible apply only_turn); (focus rfl); (focus rfl); (focus kernel_rfl) | exact only_calc rfl rfl rfl | exact only_check rfl rfl | exact only_cap rfl rfl | exact only_min rfl rfl rfl | exact only_max rfl rfl rfl)); (focus (intro wS hS; have hcS : ∀ p : Addr, p.block < (World.heap W2).size → wS.cell? p = World.cell? W2 p := hS; go_simp; try rfl)); simp only [Act.put, List.setIfInBounds_toArray, List.set_cons_zero, List.set_cons_succ])
            | (with_reducible show Then _ _ _ _ _ _; simp only [Then])
            | (with_reducible show InBlock _ _ _ _ _ _; simp only [InBlock, ↓reduceIte, Nat.reduceEqDiff]))
          refine dl_act (o := ?_) ?_ ?_ ?_ ?_ (fun K hK => ?_)
          rotate_left 1
          focus rfl
          focus rfl
          focus rfl
          focus exact fun ht => fine_store rfl rfl (da 0) hgo ht
          go_simp
          refine hK _ _ _ ⟨fun _ => True, trivial, fun h => ?_, ?_⟩
          focus exact absurd h (by rw [show tightAt _ _ _ _ _ = true from by kernel_rfl]; decide)
          clear hK K
          have hc4 : Chg (fun b => b = ga) W2 (W2.setCell ⟨ga, 0, none⟩ (.int .i64 (a3 : Int))).drew := ((Chg.refl (fun b => b = ga) W2).set_ (p := ⟨ga, 0, none⟩) rfl _).drew
          have g4 : Below w.heap.size w (W2.setCell ⟨ga, 0, none⟩ (.int .i64 (a3 : Int))).drew := g2.trans (hc4.below (fun k hk => by omega) g2.size)
          have ba4 : Blk (W2.setCell ⟨ga, 0, none⟩ (.int .i64 (a3 : Int))).drew ga 3 #[.int .i64 (a3 : Int)] := (ba.set_ 0 (.int .i64 (a3 : Int))).drew
          have bk4 := bk.chg hc4 (by omega)
          have bl4 := bl.chg hc4 (by omega)
          generalize (W2.setCell ⟨ga, 0, none⟩ (.int .i64 (a3 : Int))).drew = W4 at g4 ba4 bk4 bl4 ⊢
          clear da la fa ba bk bl hc4
          repeat (first
            | (with_reducible apply dl_nil)
            | ((with_reducible apply dl_calm); (focus rfl); (focus rfl); (focus rfl); (focus (first | (with_reducible apply only_idle); (focus decide) | (with_reducible apply only_turn); (focus rfl); (focus rfl); (focus kernel_rfl) | exact only_calc rfl rfl rfl | exact only_check rfl rfl | exact only_cap rfl rfl | exact only_min rfl rfl rfl | exact only_max rfl rfl rfl)); (focus (intro wS hS; have hcS : ∀ p : Addr, p.block < (World.heap W2).size → wS.cell? p = World.cell? W2 p := hS; go_simp; try rfl)); simp only [Act.put, List.setIfInBounds_toArray, List.set_cons_zero, List.set_cons_succ])
            | (with_reducible show Then _ _ _ _ _ _; simp only [Then])
            | (with_reducible show InBlock _ _ _ _ _ _; simp only [InBlock, ↓reduceIte, Nat.reduceEqDiff]))
          repeat (first
            | ((with_reducible refine lst_free ?_ ?_ (fun K hK => ?_)); (focus with_reducible rfl); (focus (intro ht; refine fine_none ?_ ht; (focus (first | (with_reducible apply only_idle); (focus decide) | (with_reducible apply only_turn); (focus rfl); (focus rfl); (focus kernel_rfl) | exact only_calc rfl rfl rfl | exact only_check rfl rfl | exact only_cap rfl rfl | exact only_min rfl rfl rfl | exact only_max rfl rfl rfl)))); go_simp; refine hK _ _ _ ?_; clear hK K)
            | ((with_reducible refine lst_off (i := ?_) (b := ?_) (d := ?_) ?_ ?_ ?_ ?_); rotate_left 3; (focus with_reducible rfl); (focus rfl); (focus (simp only [List.getElem?_toArray, List.getElem?_cons_succ, List.getElem?_cons_zero, Bool.not_true, Bool.not_false])); simp only [Act.put, List.setIfInBounds_toArray, List.set_cons_zero, List.set_cons_succ])
            | ((with_reducible refine lst_on (i := ?_) (b := ?_) (d := ?_) ?_ ?_ ?_ ?_ (fun K hK => ?_)); rotate_left 3; (focus with_reducible rfl); (focus rfl); (focus (simp only [List.getElem?_toArray, List.getElem?_cons_succ, List.getElem?_cons_zero])); (focus (intro ht; refine fine_none ?_ ht; (focus (first | (with_reducible apply only_idle); (focus decide) | (with_reducible apply only_turn); (focus rfl); (focus rfl); (focus kernel_rfl) | exact only_calc rfl rfl rfl | exact only_check rfl rfl | exact only_cap rfl rfl | exact only_min rfl rfl rfl | exact only_max rfl rfl rfl)))); go_simp; refine hK _ _ _ ?_; clear hK K)
            | ((with_reducible refine lst_undef (i := ?_) (b := ?_) (d := ?_) ?_ ?_ ?_ ?_); rotate_left 3; (focus with_reducible rfl); (focus rfl); (focus (simp only [List.getElem?_toArray, List.getElem?_cons_succ, List.getElem?_cons_zero])); simp only [Act.put, List.setIfInBounds_toArray, List.set_cons_zero, List.set_cons_succ])
            | (with_reducible apply lst_nil)
            | ((fail_if_success (with_reducible refine lst_any ?_)); first
            | (with_reducible apply j_seq) | (with_reducible apply j_block) | (with_reducible apply j_ret) | (with_reducible apply j_skip) | (with_reducible apply j_exit) | (with_reducible apply j_label) | (with_reducible apply j_region_lit)
            | ((with_reducible refine j_true ?_ ?_); (focus rfl)) | ((with_reducible refine j_false ?_ ?_); (focus rfl))
            | (with_reducible show Then _ _ _ _ _ _; simp only [Then])
            | (with_reducible show InBlock _ _ _ _ _ _; simp only [InBlock, ↓reduceIte, Nat.reduceEqDiff])))
          refine ⟨⟨rfl, i + 1, g4, by omega, ⟨_, _, bk4, rfl, rfl⟩, ⟨_, _, bl4, rfl, rfl⟩, ⟨_, _, ba4, rfl, by rw [show ob l (i + 1) = a2 from ha2, hob]⟩, _, _, _, _, _, _, _, _, _, _, _, _, _, _, _, _, _, _, _, _, _, _, _, _, _, _, _, _, _, _, _, _, _, _, _, rfl⟩, by show l.length - ((i : Int) + 1).toNat < l.length - ((i : Int)).toNat; omega⟩
      · have c1 : decide ((i : Int) < (l.length : Int)) = false := decide_eq_false (by omega)
        have c2 : decide (i < l.length) = false := decide_eq_false hlt
        obtain rfl : i = l.length := by omega
        repeat (first
          | ((with_reducible refine lst_free ?_ ?_ (fun K hK => ?_)); (focus with_reducible rfl); (focus (intro ht; refine fine_none ?_ ht; (focus (first | (with_reducible apply only_idle); (focus decide) | (with_reducible apply only_turn); (focus rfl); (focus rfl); (focus kernel_rfl) | exact only_calc rfl rfl rfl | exact only_check rfl rfl | exact only_cap rfl rfl | exact only_min rfl rfl rfl | exact only_max rfl rfl rfl)))); go_simp; refine hK _ _ _ ?_; clear hK K)
          | ((with_reducible refine lst_off (i := ?_) (b := ?_) (d := ?_) ?_ ?_ ?_ ?_); rotate_left 3; (focus with_reducible rfl); (focus rfl); (focus (simp only [List.getElem?_toArray, List.getElem?_cons_succ, List.getElem?_cons_zero, Bool.not_true, Bool.not_false])); simp only [Act.put, List.setIfInBounds_toArray, List.set_cons_zero, List.set_cons_succ])
          | ((with_reducible refine lst_on (i := ?_) (b := ?_) (d := ?_) ?_ ?_ ?_ ?_ (fun K hK => ?_)); rotate_left 3; (focus with_reducible rfl); (focus rfl); (focus (simp only [List.getElem?_toArray, List.getElem?_cons_succ, List.getElem?_cons_zero])); (focus (intro ht; refine fine_none ?_ ht; (focus (first | (with_reducible apply only_idle); (focus decide) | (with_reducible apply only_turn); (focus rfl); (focus rfl); (focus kernel_rfl) | exact only_calc rfl rfl rfl | exact only_check rfl rfl | exact only_cap rfl rfl | exact only_min rfl rfl rfl | exact only_max rfl rfl rfl)))); go_simp; refine hK _ _ _ ?_; clear hK K)
          | ((with_reducible refine lst_undef (i := ?_) (b := ?_) (d := ?_) ?_ ?_ ?_ ?_); rotate_left 3; (focus with_reducible rfl); (focus rfl); (focus (simp only [List.getElem?_toArray, List.getElem?_cons_succ, List.getElem?_cons_zero])); simp only [Act.put, List.setIfInBounds_toArray, List.set_cons_zero, List.set_cons_succ])
          | (with_reducible apply lst_nil)
          | ((fail_if_success (with_reducible refine lst_any ?_)); first
          | (with_reducible apply j_seq) | (with_reducible apply j_block) | (with_reducible apply j_ret) | (with_reducible apply j_skip) | (with_reducible apply j_exit) | (with_reducible apply j_label) | (with_reducible apply j_region_lit)
          | ((with_reducible refine j_true ?_ ?_); (focus rfl)) | ((with_reducible refine j_false ?_ ?_); (focus rfl))
          | (with_reducible show Then _ _ _ _ _ _; simp only [Then])
          | (with_reducible show InBlock _ _ _ _ _ _; simp only [InBlock, ↓reduceIte, Nat.reduceEqDiff])))
        refine lst_one (one_map 36 rfl rfl fun hT0 => ?_)
        simp only [Act.put, List.setIfInBounds_toArray, List.set_cons_zero, List.set_cons_succ]
        have hb1 : Below W.heap.size W (W.alloc (.map #[] 0)) := (al_ (Below.refl _ _) _)
        have hgm : W.heap.size < (W.alloc (.map #[] 0)).heap.size := hT0.lt
        have hgm2 : w.heap.size ≤ W.heap.size := hW.size
        generalize W.alloc (.map #[] 0) = W1 at hT0 hb1 hgm ⊢
        generalize hgme : W.heap.size = gm at hT0 hgm hgm2 ⊢
        have g1 : Below w.heap.size w W1 := hW.trans (hb1.mono hW.size)
        replace bk := bk.below hb1 bk.lt
        replace bl := bl.below hb1 bl.lt
        replace ba := ba.below hb1 ba.lt
        repeat (first
          | ((with_reducible refine lst_free ?_ ?_ (fun K hK => ?_)); (focus with_reducible rfl); (focus (intro ht; refine fine_none ?_ ht; (focus (first | (with_reducible apply only_idle); (focus decide) | (with_reducible apply only_turn); (focus rfl); (focus rfl); (focus kernel_rfl) | exact only_calc rfl rfl rfl | exact only_check rfl rfl | exact only_cap rfl rfl | exact only_min rfl rfl rfl | exact only_max rfl rfl rfl)))); go_simp; refine hK _ _ _ ?_; clear hK K)
          | ((with_reducible refine lst_off (i := ?_) (b := ?_) (d := ?_) ?_ ?_ ?_ ?_); rotate_left 3; (focus with_reducible rfl); (focus rfl); (focus (simp only [List.getElem?_toArray, List.getElem?_cons_succ, List.getElem?_cons_zero, Bool.not_true, Bool.not_false])); simp only [Act.put, List.setIfInBounds_toArray, List.set_cons_zero, List.set_cons_succ])
          | ((with_reducible refine lst_on (i := ?_) (b := ?_) (d := ?_) ?_ ?_ ?_ ?_ (fun K hK => ?_)); rotate_left 3; (focus with_reducible rfl); (focus rfl); (focus (simp only [List.getElem?_toArray, List.getElem?_cons_succ, List.getElem?_cons_zero])); (focus (intro ht; refine fine_none ?_ ht; (focus (first | (with_reducible apply only_idle); (focus decide) | (with_reducible apply only_turn); (focus rfl); (focus rfl); (focus kernel_rfl) | exact only_calc rfl rfl rfl | exact only_check rfl rfl | exact only_cap rfl rfl | exact only_min rfl rfl rfl | exact only_max rfl rfl rfl)))); go_simp; refine hK _ _ _ ?_; clear hK K)
          | ((with_reducible refine lst_undef (i := ?_) (b := ?_) (d := ?_) ?_ ?_ ?_ ?_); rotate_left 3; (focus with_reducible rfl); (focus rfl); (focus (simp only [List.getElem?_toArray, List.getElem?_cons_succ, List.getElem?_cons_zero])); simp only [Act.put, List.setIfInBounds_toArray, List.set_cons_zero, List.set_cons_succ])
          | (with_reducible apply lst_nil)
          | ((fail_if_success (with_reducible refine lst_any ?_)); first
          | (with_reducible apply j_seq) | (with_reducible apply j_block) | (with_reducible apply j_ret) | (with_reducible apply j_skip) | (with_reducible apply j_exit) | (with_reducible apply j_label) | (with_reducible apply j_region_lit)
          | ((with_reducible refine j_true ?_ ?_); (focus rfl)) | ((with_reducible refine j_false ?_ ?_); (focus rfl))
          | (with_reducible show Then _ _ _ _ _ _; simp only [Then])
          | (with_reducible show InBlock _ _ _ _ _ _; simp only [InBlock, ↓reduceIte, Nat.reduceEqDiff])))
        refine lst_one (one_store (v := .map (some gm)) (cs' := #[.map (some gm)]) rfl rfl rfl rfl (Blk.new W1 _ _) (hoth _ (g1.size)) (by kernel_rfl) (Nat.le_of_ble_eq_true rfl) (by simp [Value.cells, Value.oneCell']) rfl ?_)
        simp only [Act.put, List.setIfInBounds_toArray, List.set_cons_zero, List.set_cons_succ]
        have bt := (Blk.new W1 36 #[.map none]).row #[.map (some gm)]
        have hb2 : Below (World.heap W1).size W1 _ := Below_row ((Below.refl _ _).alloc (Nat.le_refl _) (.cells #[.map none] 36)) #[.map (some gm)] (Nat.le_refl _)
        generalize hKV : (World.alloc W1 (.cells #[.map none] 36)).setRow (World.heap W1).size #[.map (some gm)] = W2 at bt hb2 ⊢
        clear hKV
        have g2 := g1.trans (hb2.mono g1.size)
        have hT2 := hT0.below hb2
        replace bk := bk.below hb2 bk.lt
        replace bl := bl.below hb2 bl.lt
        replace ba := ba.below hb2 ba.lt
        generalize W1.heap.size = gt at bt ⊢
        repeat (first
          | ((with_reducible refine lst_free ?_ ?_ (fun K hK => ?_)); (focus with_reducible rfl); (focus (intro ht; refine fine_none ?_ ht; (focus (first | (with_reducible apply only_idle); (focus decide) | (with_reducible apply only_turn); (focus rfl); (focus rfl); (focus kernel_rfl) | exact only_calc rfl rfl rfl | exact only_check rfl rfl | exact only_cap rfl rfl | exact only_min rfl rfl rfl | exact only_max rfl rfl rfl)))); go_simp; refine hK _ _ _ ?_; clear hK K)
          | ((with_reducible refine lst_off (i := ?_) (b := ?_) (d := ?_) ?_ ?_ ?_ ?_); rotate_left 3; (focus with_reducible rfl); (focus rfl); (focus (simp only [List.getElem?_toArray, List.getElem?_cons_succ, List.getElem?_cons_zero, Bool.not_true, Bool.not_false])); simp only [Act.put, List.setIfInBounds_toArray, List.set_cons_zero, List.set_cons_succ])
          | ((with_reducible refine lst_on (i := ?_) (b := ?_) (d := ?_) ?_ ?_ ?_ ?_ (fun K hK => ?_)); rotate_left 3; (focus with_reducible rfl); (focus rfl); (focus (simp only [List.getElem?_toArray, List.getElem?_cons_succ, List.getElem?_cons_zero])); (focus (intro ht; refine fine_none ?_ ht; (focus (first | (with_reducible apply only_idle); (focus decide) | (with_reducible apply only_turn); (focus rfl); (focus rfl); (focus kernel_rfl) | exact only_calc rfl rfl rfl | exact only_check rfl rfl | exact only_cap rfl rfl | exact only_min rfl rfl rfl | exact only_max rfl rfl rfl)))); go_simp; refine hK _ _ _ ?_; clear hK K)
          | ((with_reducible refine lst_undef (i := ?_) (b := ?_) (d := ?_) ?_ ?_ ?_ ?_); rotate_left 3; (focus with_reducible rfl); (focus rfl); (focus (simp only [List.getElem?_toArray, List.getElem?_cons_succ, List.getElem?_cons_zero])); simp only [Act.put, List.setIfInBounds_toArray, List.set_cons_zero, List.set_cons_succ])
          | (with_reducible apply lst_nil)
          | ((fail_if_success (with_reducible refine lst_any ?_)); first
          | (with_reducible apply j_seq) | (with_reducible apply j_block) | (with_reducible apply j_ret) | (with_reducible apply j_skip) | (with_reducible apply j_exit) | (with_reducible apply j_label) | (with_reducible apply j_region_lit)
          | ((with_reducible refine j_true ?_ ?_); (focus rfl)) | ((with_reducible refine j_false ?_ ?_); (focus rfl))
          | (with_reducible show Then _ _ _ _ _ _; simp only [Then])
          | (with_reducible show InBlock _ _ _ _ _ _; simp only [InBlock, ↓reduceIte, Nat.reduceEqDiff])))
        refine lst_one (one_store (v := .func (.func 11) #[] #[.pointer (some ⟨ga, 0, none⟩), .pointer (some ⟨gt, 0, none⟩), .pointer (some ⟨w.heap.size + 1, 0, none⟩), .pointer (some ⟨w.heap.size, 0, none⟩), .pointer (some ⟨W2.heap.size, 0, none⟩)]) (cs' := #[.func (.func 11) #[] #[.pointer (some ⟨ga, 0, none⟩), .pointer (some ⟨gt, 0, none⟩), .pointer (some ⟨w.heap.size + 1, 0, none⟩), .pointer (some ⟨w.heap.size, 0, none⟩), .pointer (some ⟨W2.heap.size, 0, none⟩)]]) rfl rfl rfl rfl (Blk.new W2 _ _) (hoth _ (g2.size)) (by kernel_rfl) (Nat.le_of_ble_eq_true rfl) (by simp [Value.cells, Value.oneCell']) rfl ?_)
        simp only [Act.put, List.setIfInBounds_toArray, List.set_cons_zero, List.set_cons_succ]
        have bf := (Blk.new W2 37 #[.nilFunc]).row #[.func (.func 11) #[] #[.pointer (some ⟨ga, 0, none⟩), .pointer (some ⟨gt, 0, none⟩), .pointer (some ⟨w.heap.size + 1, 0, none⟩), .pointer (some ⟨w.heap.size, 0, none⟩), .pointer (some ⟨W2.heap.size, 0, none⟩)]]
        have hb3 : Below (World.heap W2).size W2 _ := Below_row ((Below.refl _ _).alloc (Nat.le_refl _) (.cells #[.nilFunc] 37)) #[.func (.func 11) #[] #[.pointer (some ⟨ga, 0, none⟩), .pointer (some ⟨gt, 0, none⟩), .pointer (some ⟨w.heap.size + 1, 0, none⟩), .pointer (some ⟨w.heap.size, 0, none⟩), .pointer (some ⟨W2.heap.size, 0, none⟩)]] (Nat.le_refl _)
        generalize hKV : (World.alloc W2 (.cells #[.nilFunc] 37)).setRow (World.heap W2).size #[.func (.func 11) #[] #[.pointer (some ⟨ga, 0, none⟩), .pointer (some ⟨gt, 0, none⟩), .pointer (some ⟨w.heap.size + 1, 0, none⟩), .pointer (some ⟨w.heap.size, 0, none⟩), .pointer (some ⟨W2.heap.size, 0, none⟩)]] = W3 at bf hb3 ⊢
        clear hKV
        have g3 := g2.trans (hb3.mono g2.size)
        have hT3 := hT2.below hb3
        replace bk := bk.below hb3 bk.lt
        replace bl := bl.below hb3 bl.lt
        replace ba := ba.below hb3 ba.lt
        replace bt := bt.below hb3 bt.lt
        generalize W2.heap.size = gf at bf ⊢
        have df := bf.cell
        have lf := bf.lt
        have hcall : Jdo Tryd.prog X 11 #[.int .i64 0, .slice none 0 0, .pointer (some ⟨ga, 0, none⟩), .pointer (some ⟨gt, 0, none⟩), .pointer (some ⟨w.heap.size + 1, 0, none⟩), .pointer (some ⟨w.heap.size, 0, none⟩), .pointer (some ⟨gf, 0, none⟩)] s3 W3 (TryPost ⟨k, K, T, M, l, ob l l.length, ga, gt, w.heap.size + 1, w.heap.size, gf, gm, .slice A l.length c⟩ l.length 0 [] [] s3 W3) :=
          try_all (H := ⟨k, K, T, M, l, ob l l.length, ga, gt, w.heap.size + 1, w.heap.size, gf, gm, .slice A l.length c⟩) ⟨hn8, ob_256 l hn8, hk2, mayB_K hmB, hgood⟩ l.length s3 W3 0 [] (.slice none 0 0) []
            ⟨ba, bt, bl, bk, bf, Sl.more (Sl.below hl g3) g3.size, hT.below g3 hT.1⟩ hT3 (hoth _ hgm2) (Nat.two_pow_pos _) (lev_zero _) (fun v hv => by cases hv) (by simp) (Sl.nil _ _ _) (fun d row _ _ _ h => by cases h)
        clear bk bl ba bt
        repeat (first
          | ((with_reducible refine lst_free ?_ ?_ (fun K hK => ?_)); (focus with_reducible rfl); (focus (intro ht; refine fine_none ?_ ht; (focus (first | (with_reducible apply only_idle); (focus decide) | (with_reducible apply only_turn); (focus rfl); (focus rfl); (focus kernel_rfl) | exact only_calc rfl rfl rfl | exact only_check rfl rfl | exact only_cap rfl rfl | exact only_min rfl rfl rfl | exact only_max rfl rfl rfl)))); go_simp; refine hK _ _ _ ?_; clear hK K)
          | ((with_reducible refine lst_off (i := ?_) (b := ?_) (d := ?_) ?_ ?_ ?_ ?_); rotate_left 3; (focus with_reducible rfl); (focus rfl); (focus (simp only [List.getElem?_toArray, List.getElem?_cons_succ, List.getElem?_cons_zero, Bool.not_true, Bool.not_false])); simp only [Act.put, List.setIfInBounds_toArray, List.set_cons_zero, List.set_cons_succ])
          | ((with_reducible refine lst_on (i := ?_) (b := ?_) (d := ?_) ?_ ?_ ?_ ?_ (fun K hK => ?_)); rotate_left 3; (focus with_reducible rfl); (focus rfl); (focus (simp only [List.getElem?_toArray, List.getElem?_cons_succ, List.getElem?_cons_zero])); (focus (intro ht; refine fine_none ?_ ht; (focus (first | (with_reducible apply only_idle); (focus decide) | (with_reducible apply only_turn); (focus rfl); (focus rfl); (focus kernel_rfl) | exact only_calc rfl rfl rfl | exact only_check rfl rfl | exact only_cap rfl rfl | exact only_min rfl rfl rfl | exact only_max rfl rfl rfl)))); go_simp; refine hK _ _ _ ?_; clear hK K)
          | ((with_reducible refine lst_undef (i := ?_) (b := ?_) (d := ?_) ?_ ?_ ?_ ?_); rotate_left 3; (focus with_reducible rfl); (focus rfl); (focus (simp only [List.getElem?_toArray, List.getElem?_cons_succ, List.getElem?_cons_zero])); simp only [Act.put, List.setIfInBounds_toArray, List.set_cons_zero, List.set_cons_succ])
          | (with_reducible apply lst_nil)
          | ((fail_if_success (with_reducible refine lst_any ?_)); first
          | (with_reducible apply j_seq) | (with_reducible apply j_block) | (with_reducible apply j_ret) | (with_reducible apply j_skip) | (with_reducible apply j_exit) | (with_reducible apply j_label) | (with_reducible apply j_region_lit)
          | ((with_reducible refine j_true ?_ ?_); (focus rfl)) | ((with_reducible refine j_false ?_ ?_); (focus rfl))
          | (with_reducible show Then _ _ _ _ _ _; simp only [Then])
          | (with_reducible show InBlock _ _ _ _ _ _; simp only [InBlock, ↓reduceIte, Nat.reduceEqDiff])))
        refine lst_callv (first := ?_) (captured := ?_) _ rfl ?_ ?_ ?_ Tryd.func11 ?_ rfl hcall ?_
        rotate_left 2
        focus rfl
        focus rfl
        focus first | rfl | (go_simp; done) | (go_simp; rfl)
        focus rfl
        rintro s4 r W4 ⟨rfl, hk, b, ks', rfl, hT4, hyes, hno⟩
        simp only [Act.put, List.setIfInBounds_toArray, List.set_cons_zero, List.set_cons_succ]
        clear df hcall
        have g4 : Below w.heap.size w W4 := g3.trans (hk.1.below (fun k (hk : k = gm) => by omega) g3.size)
        repeat (first
          | ((with_reducible refine lst_free ?_ ?_ (fun K hK => ?_)); (focus with_reducible rfl); (focus (intro ht; refine fine_none ?_ ht; (focus (first | (with_reducible apply only_idle); (focus decide) | (with_reducible apply only_turn); (focus rfl); (focus rfl); (focus kernel_rfl) | exact only_calc rfl rfl rfl | exact only_check rfl rfl | exact only_cap rfl rfl | exact only_min rfl rfl rfl | exact only_max rfl rfl rfl)))); go_simp; refine hK _ _ _ ?_; clear hK K)
          | ((with_reducible refine lst_off (i := ?_) (b := ?_) (d := ?_) ?_ ?_ ?_ ?_); rotate_left 3; (focus with_reducible rfl); (focus rfl); (focus (simp only [List.getElem?_toArray, List.getElem?_cons_succ, List.getElem?_cons_zero, Bool.not_true, Bool.not_false])); simp only [Act.put, List.setIfInBounds_toArray, List.set_cons_zero, List.set_cons_succ])
          | ((with_reducible refine lst_on (i := ?_) (b := ?_) (d := ?_) ?_ ?_ ?_ ?_ (fun K hK => ?_)); rotate_left 3; (focus with_reducible rfl); (focus rfl); (focus (simp only [List.getElem?_toArray, List.getElem?_cons_succ, List.getElem?_cons_zero])); (focus (intro ht; refine fine_none ?_ ht; (focus (first | (with_reducible apply only_idle); (focus decide) | (with_reducible apply only_turn); (focus rfl); (focus rfl); (focus kernel_rfl) | exact only_calc rfl rfl rfl | exact only_check rfl rfl | exact only_cap rfl rfl | exact only_min rfl rfl rfl | exact only_max rfl rfl rfl)))); go_simp; refine hK _ _ _ ?_; clear hK K)
          | ((with_reducible refine lst_undef (i := ?_) (b := ?_) (d := ?_) ?_ ?_ ?_ ?_); rotate_left 3; (focus with_reducible rfl); (focus rfl); (focus (simp only [List.getElem?_toArray, List.getElem?_cons_succ, List.getElem?_cons_zero])); simp only [Act.put, List.setIfInBounds_toArray, List.set_cons_zero, List.set_cons_succ])
          | (with_reducible apply lst_nil)
          | ((fail_if_success (with_reducible refine lst_any ?_)); first
          | (with_reducible apply j_seq) | (with_reducible apply j_block) | (with_reducible apply j_ret) | (with_reducible apply j_skip) | (with_reducible apply j_exit) | (with_reducible apply j_label) | (with_reducible apply j_region_lit)
          | ((with_reducible refine j_true ?_ ?_); (focus rfl)) | ((with_reducible refine j_false ?_ ?_); (focus rfl))
          | (with_reducible show Then _ _ _ _ _ _; simp only [Then])
          | (with_reducible show InBlock _ _ _ _ _ _; simp only [InBlock, ↓reduceIte, Nat.reduceEqDiff])))
        refine body_ret2 rfl rfl ⟨rfl, g4, b, 0, rfl, (fun h => by simp [hmB, hA] at h), fun _ => ⟨rfl, ?_⟩⟩
        constructor
        · exact hyes
        · intro hp
          cases b
          · exact absurd hp (hno rfl).1
          · rfl
end
end Go.Proofs.YtgchailmcbifdaaDoor.Jg
