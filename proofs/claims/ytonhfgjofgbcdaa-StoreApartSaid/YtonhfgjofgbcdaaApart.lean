/- shuntinglaw02.StoreApart, walked. -/
import Derived.Test.YtonhfgjofgbcdaaApartM
namespace Go.Proofs.Ytonhfgjofgbcdaa.Lw
set_option linter.unusedSimpArgs false
set_option linter.unusedVariables false
set_option maxRecDepth 20000
open Go Go.Conc Go.RowKit Go.Proofs.Ytonhfgjofgbcdaa.Jay Go.Proofs.Ytonhfgjofgbcdaa.Pl
open Go.Proofs.Ytonhfgjofgbcdaa.St Go.Proofs.Ytonhfgjofgbcdaa.Rf Go.Proofs.Ytonhfgjofgbcdaa.Wd
section
variable {γ : Type} {X : Turns γ} {s : γ} {w : World}
attribute [local go_sem] upon_value upon_skip

set_option maxHeartbeats 16000000 in
theorem apart {B : Nat} {m : Mem} {va : Value} {d ar at_ old new d' ar' at' old' new' : Int} (hm : MemV w B m va) (hB : B ≤ w.heap.size) :
    Wp Try.prog X 3 (tailOf 0 Try.f3.body) (Body Try.prog Try.f3 (Yes s w)) s { tmps := #[va, .agg (acc d ar at_ old new), .agg (acc d' ar' at' old' new')] ++ Array.replicate (Try.f3.ntmps - 3) undef, defers := [] } w := by
  refine Wp.there fun ht => ?_
  have hoth : ∀ b, w.heap.size ≤ b → ¬ X.oth s b := fun b hb ho => by have := ht b ho; omega
  have hm0 := hm
  obtain ⟨cs, rfl, v2, v3, v6, v7, v8, rfl, _⟩ := hm
  obtain ⟨W0, hW0⟩ : ∃ W0, W0 = ((w.alloc (.cells #[.int .u64 m.e, .int .u64 m.f, v2, v3, .int .u64 m.h, .int .u64 m.t, v6, v7, v8] 25)).alloc (.cells (acc d ar at_ old new) 27)).alloc (.cells (acc d' ar' at' old' new') 27) := ⟨_, rfl⟩
  have b0 : Blk W0 w.heap.size _ _ := hW0 ▸ ((Blk.new w _ _).alloc _).alloc _
  have b1 : Blk W0 (w.heap.size + 1) _ _ := hW0 ▸ (Blk.new1 w _ _ _).alloc _
  have b2 : Blk W0 (w.heap.size + 1 + 1) _ _ := hW0 ▸ Blk.new2 w _ _ _ _
  have hb0 : Below w.heap.size w W0 := hW0 ▸ (((Below.refl _ _).alloc (Nat.le_refl _) _).alloc (by simp) _).alloc (by simp; omega) _
  unfold acc at hW0 ⊢
  simp only [Try.ntmps3, List.size_toArray, List.length_cons, List.length_nil, Nat.reduceAdd, Nat.reduceSub, Array.replicate_succ, Array.replicate_zero, List.push_toArray, List.append_toArray, List.nil_append, List.cons_append]
  show Wp _ _ _ (Code.seq (headOf 0 Try.f3.body) (tailOf 1 Try.f3.body)) _ _ _ _
  with_reducible apply j_seq
  generalize hT : tailOf 1 _ = T
  conv => arg 4; whnf
  repeat (first
    | ((with_reducible refine lst_free ?_ ?_ (fun K hK => ?_)); (focus with_reducible rfl); (focus (intro ht; refine fine_none ?_ ht; (focus (first | (with_reducible apply only_idle); (focus decide) | (with_reducible apply only_turn); (focus rfl); (focus rfl); (focus kernel_rfl) | exact only_calc rfl rfl rfl | exact only_check rfl rfl)))); go_simp; refine hK _ _ _ ?_; clear hK K)
    | ((with_reducible refine lst_off (i := ?_) (b := ?_) (d := ?_) ?_ ?_ ?_ ?_); rotate_left 3; (focus with_reducible rfl); (focus rfl); (focus (simp only [List.getElem?_toArray, List.getElem?_cons_succ, List.getElem?_cons_zero, Bool.not_true, Bool.not_false])); simp only [Act.put, List.setIfInBounds_toArray, List.set_cons_zero, List.set_cons_succ])
    | ((with_reducible refine lst_on (i := ?_) (b := ?_) (d := ?_) ?_ ?_ ?_ ?_ (fun K hK => ?_)); rotate_left 3; (focus with_reducible rfl); (focus rfl); (focus (simp only [List.getElem?_toArray, List.getElem?_cons_succ, List.getElem?_cons_zero])); (focus (intro ht; refine fine_none ?_ ht; (focus (first | (with_reducible apply only_idle); (focus decide) | (with_reducible apply only_turn); (focus rfl); (focus rfl); (focus kernel_rfl) | exact only_calc rfl rfl rfl | exact only_check rfl rfl)))); go_simp; refine hK _ _ _ ?_; clear hK K)
    | (with_reducible apply lst_nil)
    | ((fail_if_success (with_reducible refine lst_any ?_)); first
    | (with_reducible apply j_seq) | (with_reducible apply j_block) | (with_reducible apply j_ret) | (with_reducible apply j_skip) | (with_reducible apply j_exit) | (with_reducible apply j_label) | (with_reducible apply j_region_lit)
    | ((with_reducible refine j_true ?_ ?_); (focus rfl)) | ((with_reducible refine j_false ?_ ?_); (focus rfl))
    | (with_reducible show Then _ _ _ _ _ _; simp only [Then])
    | (with_reducible show InBlock _ _ _ _ _ _; simp only [InBlock, ↓reduceIte, Nat.reduceEqDiff])))
  rw [← hW0]
  subst hT
  show Wp _ _ _ (Code.seq (headOf 1 Try.f3.body) (tailOf 2 Try.f3.body)) _ _ _ _
  with_reducible apply j_seq
  generalize hT : tailOf 2 _ = T
  conv => arg 4; whnf
  repeat (first
    | ((with_reducible refine lst_free ?_ ?_ (fun K hK => ?_)); (focus with_reducible rfl); (focus (intro ht; refine fine_none ?_ ht; (focus (first | (with_reducible apply only_idle); (focus decide) | (with_reducible apply only_turn); (focus rfl); (focus rfl); (focus kernel_rfl) | exact only_calc rfl rfl rfl | exact only_check rfl rfl)))); go_simp; refine hK _ _ _ ?_; clear hK K)
    | ((with_reducible refine lst_off (i := ?_) (b := ?_) (d := ?_) ?_ ?_ ?_ ?_); rotate_left 3; (focus with_reducible rfl); (focus rfl); (focus (simp only [List.getElem?_toArray, List.getElem?_cons_succ, List.getElem?_cons_zero, Bool.not_true, Bool.not_false])); simp only [Act.put, List.setIfInBounds_toArray, List.set_cons_zero, List.set_cons_succ])
    | ((with_reducible refine lst_on (i := ?_) (b := ?_) (d := ?_) ?_ ?_ ?_ ?_ (fun K hK => ?_)); rotate_left 3; (focus with_reducible rfl); (focus rfl); (focus (simp only [List.getElem?_toArray, List.getElem?_cons_succ, List.getElem?_cons_zero])); (focus (intro ht; refine fine_none ?_ ht; (focus (first | (with_reducible apply only_idle); (focus decide) | (with_reducible apply only_turn); (focus rfl); (focus rfl); (focus kernel_rfl) | exact only_calc rfl rfl rfl | exact only_check rfl rfl)))); go_simp; refine hK _ _ _ ?_; clear hK K)
    | (with_reducible apply lst_nil)
    | ((fail_if_success (with_reducible refine lst_any ?_)); first
    | (with_reducible apply j_seq) | (with_reducible apply j_block) | (with_reducible apply j_ret) | (with_reducible apply j_skip) | (with_reducible apply j_exit) | (with_reducible apply j_label) | (with_reducible apply j_region_lit)
    | ((with_reducible refine j_true ?_ ?_); (focus rfl)) | ((with_reducible refine j_false ?_ ?_); (focus rfl))
    | (with_reducible show Then _ _ _ _ _ _; simp only [Then])
    | (with_reducible show InBlock _ _ _ _ _ _; simp only [InBlock, ↓reduceIte, Nat.reduceEqDiff])))
  refine lst_call _ rfl ?_ ?_ Try.func8 ?_ rfl awake ?_
  focus rfl
  focus first | rfl | (go_simp; done) | (go_simp; rfl)
  focus rfl
  rintro s1 x W1 ⟨rfl, hb1, rfl⟩
  have c0 := b0.below hb1 b0.lt
  have c1 := b1.below hb1 b1.lt
  have c2 := b2.below hb1 b2.lt
  have g1 := hb0.trans (hb1.mono hb0.size)
  have e0 := c0.cell
  clear b0 b1 b2 hb1 hW0 hb0
  simp only [Act.put, List.setIfInBounds_toArray, List.set_cons_zero, List.set_cons_succ]
  repeat (first
    | ((with_reducible refine lst_free ?_ ?_ (fun K hK => ?_)); (focus with_reducible rfl); (focus (intro ht; refine fine_none ?_ ht; (focus (first | (with_reducible apply only_idle); (focus decide) | (with_reducible apply only_turn); (focus rfl); (focus rfl); (focus kernel_rfl) | exact only_calc rfl rfl rfl | exact only_check rfl rfl)))); go_simp; refine hK _ _ _ ?_; clear hK K)
    | ((with_reducible refine lst_off (i := ?_) (b := ?_) (d := ?_) ?_ ?_ ?_ ?_); rotate_left 3; (focus with_reducible rfl); (focus rfl); (focus (simp only [List.getElem?_toArray, List.getElem?_cons_succ, List.getElem?_cons_zero, Bool.not_true, Bool.not_false])); simp only [Act.put, List.setIfInBounds_toArray, List.set_cons_zero, List.set_cons_succ])
    | ((with_reducible refine lst_on (i := ?_) (b := ?_) (d := ?_) ?_ ?_ ?_ ?_ (fun K hK => ?_)); rotate_left 3; (focus with_reducible rfl); (focus rfl); (focus (simp only [List.getElem?_toArray, List.getElem?_cons_succ, List.getElem?_cons_zero])); (focus (intro ht; refine fine_none ?_ ht; (focus (first | (with_reducible apply only_idle); (focus decide) | (with_reducible apply only_turn); (focus rfl); (focus rfl); (focus kernel_rfl) | exact only_calc rfl rfl rfl | exact only_check rfl rfl)))); go_simp; refine hK _ _ _ ?_; clear hK K)
    | (with_reducible apply lst_nil)
    | ((fail_if_success (with_reducible refine lst_any ?_)); first
    | (with_reducible apply j_seq) | (with_reducible apply j_block) | (with_reducible apply j_ret) | (with_reducible apply j_skip) | (with_reducible apply j_exit) | (with_reducible apply j_label) | (with_reducible apply j_region_lit)
    | ((with_reducible refine j_true ?_ ?_); (focus rfl)) | ((with_reducible refine j_false ?_ ?_); (focus rfl))
    | (with_reducible show Then _ _ _ _ _ _; simp only [Then])
    | (with_reducible show InBlock _ _ _ _ _ _; simp only [InBlock, ↓reduceIte, Nat.reduceEqDiff])))
  subst hT
  show Wp _ _ _ (Code.seq (headOf 2 Try.f3.body) (tailOf 3 Try.f3.body)) _ _ _ _
  with_reducible apply j_seq
  generalize hT : tailOf 3 _ = T
  conv => arg 4; whnf
  repeat (first
    | ((with_reducible refine lst_free ?_ ?_ (fun K hK => ?_)); (focus with_reducible rfl); (focus (intro ht; refine fine_none ?_ ht; (focus (first | (with_reducible apply only_idle); (focus decide) | (with_reducible apply only_turn); (focus rfl); (focus rfl); (focus kernel_rfl) | exact only_calc rfl rfl rfl | exact only_check rfl rfl)))); go_simp; refine hK _ _ _ ?_; clear hK K)
    | ((with_reducible refine lst_off (i := ?_) (b := ?_) (d := ?_) ?_ ?_ ?_ ?_); rotate_left 3; (focus with_reducible rfl); (focus rfl); (focus (simp only [List.getElem?_toArray, List.getElem?_cons_succ, List.getElem?_cons_zero, Bool.not_true, Bool.not_false])); simp only [Act.put, List.setIfInBounds_toArray, List.set_cons_zero, List.set_cons_succ])
    | ((with_reducible refine lst_on (i := ?_) (b := ?_) (d := ?_) ?_ ?_ ?_ ?_ (fun K hK => ?_)); rotate_left 3; (focus with_reducible rfl); (focus rfl); (focus (simp only [List.getElem?_toArray, List.getElem?_cons_succ, List.getElem?_cons_zero])); (focus (intro ht; refine fine_none ?_ ht; (focus (first | (with_reducible apply only_idle); (focus decide) | (with_reducible apply only_turn); (focus rfl); (focus rfl); (focus kernel_rfl) | exact only_calc rfl rfl rfl | exact only_check rfl rfl)))); go_simp; refine hK _ _ _ ?_; clear hK K)
    | (with_reducible apply lst_nil)
    | ((fail_if_success (with_reducible refine lst_any ?_)); first
    | (with_reducible apply j_seq) | (with_reducible apply j_block) | (with_reducible apply j_ret) | (with_reducible apply j_skip) | (with_reducible apply j_exit) | (with_reducible apply j_label) | (with_reducible apply j_region_lit)
    | ((with_reducible refine j_true ?_ ?_); (focus rfl)) | ((with_reducible refine j_false ?_ ?_); (focus rfl))
    | (with_reducible show Then _ _ _ _ _ _; simp only [Then])
    | (with_reducible show InBlock _ _ _ _ _ _; simp only [InBlock, ↓reduceIte, Nat.reduceEqDiff])))
  refine lst_call _ rfl ?_ ?_ Try.func9 ?_ rfl (short (memV_keep hm0 (g1.mono hB)) (Nat.le_trans hB g1.size)) ?_
  focus rfl
  focus first | rfl | (go_simp; done) | (go_simp; rfl)
  focus rfl
  rintro s2 x W2 ⟨rfl, hb2, rfl⟩
  have a0 := c0.below hb2 c0.lt
  have a1 := c1.below hb2 c1.lt
  have a2 := c2.below hb2 c2.lt
  have g2 := g1.trans (hb2.mono g1.size)
  clear e0 c0 c1 c2 hb2 g1
  simp only [Act.put, List.setIfInBounds_toArray, List.set_cons_zero, List.set_cons_succ]
  cases hsh : Mem.short m with
  | false =>
    repeat (first
      | (with_reducible apply lst_nil)
      | ((with_reducible refine lst_unwanted ?_ ?_); (focus rfl); simp only [Act.put, List.setIfInBounds_toArray, List.set_cons_zero, List.set_cons_succ])
      | ((with_reducible refine lst_cons ?_ ?_ (fun K hK => ?_)); (focus rfl); (focus (intro ht; refine fine_none ?_ ht; (focus (first | (with_reducible apply only_idle); (focus decide) | (with_reducible apply only_turn); (focus rfl); (focus rfl); (focus kernel_rfl) | exact only_calc rfl rfl rfl | exact only_check rfl rfl)))); go_simp; refine hK _ _ _ ?_; clear hK K)
      | (with_reducible apply j_seq) | (with_reducible apply j_block) | (with_reducible apply j_ret) | (with_reducible apply j_skip) | (with_reducible apply j_exit) | (with_reducible apply j_label) | (with_reducible apply j_region_lit)
      | ((with_reducible refine j_true ?_ ?_); (focus rfl)) | ((with_reducible refine j_false ?_ ?_); (focus rfl))
      | (with_reducible show Then _ _ _ _ _ _; simp only [Then])
      | (with_reducible show InBlock _ _ _ _ _ _; simp only [InBlock, ↓reduceIte, Nat.reduceEqDiff]))
    exact body_ret1 rfl rfl ⟨rfl, g2, rfl⟩
  | true =>
    have hsm := small_of_short hsh
    have e1 := a1.cell
    unfold acc at e1
    repeat (first
      | ((with_reducible refine lst_free ?_ ?_ (fun K hK => ?_)); (focus with_reducible rfl); (focus (intro ht; refine fine_none ?_ ht; (focus (first | (with_reducible apply only_idle); (focus decide) | (with_reducible apply only_turn); (focus rfl); (focus rfl); (focus kernel_rfl) | exact only_calc rfl rfl rfl | exact only_check rfl rfl)))); go_simp; refine hK _ _ _ ?_; clear hK K)
      | ((with_reducible refine lst_off (i := ?_) (b := ?_) (d := ?_) ?_ ?_ ?_ ?_); rotate_left 3; (focus with_reducible rfl); (focus rfl); (focus (simp only [List.getElem?_toArray, List.getElem?_cons_succ, List.getElem?_cons_zero, Bool.not_true, Bool.not_false])); simp only [Act.put, List.setIfInBounds_toArray, List.set_cons_zero, List.set_cons_succ])
      | ((with_reducible refine lst_on (i := ?_) (b := ?_) (d := ?_) ?_ ?_ ?_ ?_ (fun K hK => ?_)); rotate_left 3; (focus with_reducible rfl); (focus rfl); (focus (simp only [List.getElem?_toArray, List.getElem?_cons_succ, List.getElem?_cons_zero])); (focus (intro ht; refine fine_none ?_ ht; (focus (first | (with_reducible apply only_idle); (focus decide) | (with_reducible apply only_turn); (focus rfl); (focus rfl); (focus kernel_rfl) | exact only_calc rfl rfl rfl | exact only_check rfl rfl)))); go_simp; refine hK _ _ _ ?_; clear hK K)
      | (with_reducible apply lst_nil)
      | ((fail_if_success (with_reducible refine lst_any ?_)); first
      | (with_reducible apply j_seq) | (with_reducible apply j_block) | (with_reducible apply j_ret) | (with_reducible apply j_skip) | (with_reducible apply j_exit) | (with_reducible apply j_label) | (with_reducible apply j_region_lit)
      | ((with_reducible refine j_true ?_ ?_); (focus rfl)) | ((with_reducible refine j_false ?_ ?_); (focus rfl))
      | (with_reducible show Then _ _ _ _ _ _; simp only [Then])
      | (with_reducible show InBlock _ _ _ _ _ _; simp only [InBlock, ↓reduceIte, Nat.reduceEqDiff])))
    subst hT
    show Wp _ _ _ (Code.seq (headOf 3 Try.f3.body) (tailOf 4 Try.f3.body)) _ _ _ _
    with_reducible apply j_seq
    generalize hT : tailOf 4 _ = T
    conv => arg 4; whnf
    repeat (first
      | ((with_reducible refine lst_free ?_ ?_ (fun K hK => ?_)); (focus with_reducible rfl); (focus (intro ht; refine fine_none ?_ ht; (focus (first | (with_reducible apply only_idle); (focus decide) | (with_reducible apply only_turn); (focus rfl); (focus rfl); (focus kernel_rfl) | exact only_calc rfl rfl rfl | exact only_check rfl rfl)))); go_simp; refine hK _ _ _ ?_; clear hK K)
      | ((with_reducible refine lst_off (i := ?_) (b := ?_) (d := ?_) ?_ ?_ ?_ ?_); rotate_left 3; (focus with_reducible rfl); (focus rfl); (focus (simp only [List.getElem?_toArray, List.getElem?_cons_succ, List.getElem?_cons_zero, Bool.not_true, Bool.not_false])); simp only [Act.put, List.setIfInBounds_toArray, List.set_cons_zero, List.set_cons_succ])
      | ((with_reducible refine lst_on (i := ?_) (b := ?_) (d := ?_) ?_ ?_ ?_ ?_ (fun K hK => ?_)); rotate_left 3; (focus with_reducible rfl); (focus rfl); (focus (simp only [List.getElem?_toArray, List.getElem?_cons_succ, List.getElem?_cons_zero])); (focus (intro ht; refine fine_none ?_ ht; (focus (first | (with_reducible apply only_idle); (focus decide) | (with_reducible apply only_turn); (focus rfl); (focus rfl); (focus kernel_rfl) | exact only_calc rfl rfl rfl | exact only_check rfl rfl)))); go_simp; refine hK _ _ _ ?_; clear hK K)
      | (with_reducible apply lst_nil)
      | ((fail_if_success (with_reducible refine lst_any ?_)); first
      | (with_reducible apply j_seq) | (with_reducible apply j_block) | (with_reducible apply j_ret) | (with_reducible apply j_skip) | (with_reducible apply j_exit) | (with_reducible apply j_label) | (with_reducible apply j_region_lit)
      | ((with_reducible refine j_true ?_ ?_); (focus rfl)) | ((with_reducible refine j_false ?_ ?_); (focus rfl))
      | (with_reducible show Then _ _ _ _ _ _; simp only [Then])
      | (with_reducible show InBlock _ _ _ _ _ _; simp only [InBlock, ↓reduceIte, Nat.reduceEqDiff])))
    refine lst_one (one_store (v := .agg (acc 1 ar at_ 0 0)) (cs' := acc 1 ar at_ 0 0) rfl rfl rfl rfl (Blk.new W2 _ _) (hoth _ g2.size) (by kernel_rfl) (Nat.le_of_ble_eq_true rfl) (by simp [acc, Value.cells, Value.oneCell']) rfl ?_)
    simp only [Act.put, List.setIfInBounds_toArray, List.set_cons_zero, List.set_cons_succ]
    have b3 := (Blk.new W2 27 (acc 0 0 0 0 0)).row (acc 1 ar at_ 0 0)
    have hb3 : Below W2.heap.size W2 _ := Below_row ((Below.refl _ _).alloc (Nat.le_refl _) (.cells (acc 0 0 0 0 0) 27)) (acc 1 ar at_ 0 0) (Nat.le_refl _)
    change Lst _ _ _ _ _ _ _ _ ((W2.alloc (.cells (acc 0 0 0 0 0) 27)).setRow W2.heap.size (acc 1 ar at_ 0 0))
    generalize hW3 : (W2.alloc (.cells (acc 0 0 0 0 0) 27)).setRow W2.heap.size (acc 1 ar at_ 0 0) = W3 at b3 hb3 ⊢
    clear hW3
    have k0 := a0.below hb3 a0.lt
    have k1 := a1.below hb3 a1.lt
    have k2 := a2.below hb3 a2.lt
    have g3 := g2.trans (hb3.mono g2.size)
    clear e1 a0 a1 a2
    have e0 := k0.cell
    have e1 := k1.cell
    unfold acc at e1
    repeat (first
      | ((with_reducible refine lst_free ?_ ?_ (fun K hK => ?_)); (focus with_reducible rfl); (focus (intro ht; refine fine_none ?_ ht; (focus (first | (with_reducible apply only_idle); (focus decide) | (with_reducible apply only_turn); (focus rfl); (focus rfl); (focus kernel_rfl) | exact only_calc rfl rfl rfl | exact only_check rfl rfl)))); go_simp; refine hK _ _ _ ?_; clear hK K)
      | ((with_reducible refine lst_off (i := ?_) (b := ?_) (d := ?_) ?_ ?_ ?_ ?_); rotate_left 3; (focus with_reducible rfl); (focus rfl); (focus (simp only [List.getElem?_toArray, List.getElem?_cons_succ, List.getElem?_cons_zero, Bool.not_true, Bool.not_false])); simp only [Act.put, List.setIfInBounds_toArray, List.set_cons_zero, List.set_cons_succ])
      | ((with_reducible refine lst_on (i := ?_) (b := ?_) (d := ?_) ?_ ?_ ?_ ?_ (fun K hK => ?_)); rotate_left 3; (focus with_reducible rfl); (focus rfl); (focus (simp only [List.getElem?_toArray, List.getElem?_cons_succ, List.getElem?_cons_zero])); (focus (intro ht; refine fine_none ?_ ht; (focus (first | (with_reducible apply only_idle); (focus decide) | (with_reducible apply only_turn); (focus rfl); (focus rfl); (focus kernel_rfl) | exact only_calc rfl rfl rfl | exact only_check rfl rfl)))); go_simp; refine hK _ _ _ ?_; clear hK K)
      | (with_reducible apply lst_nil)
      | ((fail_if_success (with_reducible refine lst_any ?_)); first
      | (with_reducible apply j_seq) | (with_reducible apply j_block) | (with_reducible apply j_ret) | (with_reducible apply j_skip) | (with_reducible apply j_exit) | (with_reducible apply j_label) | (with_reducible apply j_region_lit)
      | ((with_reducible refine j_true ?_ ?_); (focus rfl)) | ((with_reducible refine j_false ?_ ?_); (focus rfl))
      | (with_reducible show Then _ _ _ _ _ _; simp only [Then])
      | (with_reducible show InBlock _ _ _ _ _ _; simp only [InBlock, ↓reduceIte, Nat.reduceEqDiff])))
    subst hT
    show Wp _ _ _ (Code.seq (headOf 4 Try.f3.body) (tailOf 5 Try.f3.body)) _ _ _ _
    with_reducible apply j_seq
    generalize hT : tailOf 5 _ = T
    conv => arg 4; whnf
    repeat (first
      | ((with_reducible refine lst_free ?_ ?_ (fun K hK => ?_)); (focus with_reducible rfl); (focus (intro ht; refine fine_none ?_ ht; (focus (first | (with_reducible apply only_idle); (focus decide) | (with_reducible apply only_turn); (focus rfl); (focus rfl); (focus kernel_rfl) | exact only_calc rfl rfl rfl | exact only_check rfl rfl)))); go_simp; refine hK _ _ _ ?_; clear hK K)
      | ((with_reducible refine lst_off (i := ?_) (b := ?_) (d := ?_) ?_ ?_ ?_ ?_); rotate_left 3; (focus with_reducible rfl); (focus rfl); (focus (simp only [List.getElem?_toArray, List.getElem?_cons_succ, List.getElem?_cons_zero, Bool.not_true, Bool.not_false])); simp only [Act.put, List.setIfInBounds_toArray, List.set_cons_zero, List.set_cons_succ])
      | ((with_reducible refine lst_on (i := ?_) (b := ?_) (d := ?_) ?_ ?_ ?_ ?_ (fun K hK => ?_)); rotate_left 3; (focus with_reducible rfl); (focus rfl); (focus (simp only [List.getElem?_toArray, List.getElem?_cons_succ, List.getElem?_cons_zero])); (focus (intro ht; refine fine_none ?_ ht; (focus (first | (with_reducible apply only_idle); (focus decide) | (with_reducible apply only_turn); (focus rfl); (focus rfl); (focus kernel_rfl) | exact only_calc rfl rfl rfl | exact only_check rfl rfl)))); go_simp; refine hK _ _ _ ?_; clear hK K)
      | (with_reducible apply lst_nil)
      | ((fail_if_success (with_reducible refine lst_any ?_)); first
      | (with_reducible apply j_seq) | (with_reducible apply j_block) | (with_reducible apply j_ret) | (with_reducible apply j_skip) | (with_reducible apply j_exit) | (with_reducible apply j_label) | (with_reducible apply j_region_lit)
      | ((with_reducible refine j_true ?_ ?_); (focus rfl)) | ((with_reducible refine j_false ?_ ?_); (focus rfl))
      | (with_reducible show Then _ _ _ _ _ _; simp only [Then])
      | (with_reducible show InBlock _ _ _ _ _ _; simp only [InBlock, ↓reduceIte, Nat.reduceEqDiff])))
    refine lst_call _ rfl ?_ ?_ Try.func10 ?_ rfl (act (d := d) (ar := ar) (at_ := at_) (old := old) (new := new) (memV_keep hm0 (g3.mono hB)) (Nat.le_trans hB g3.size) hsm) ?_
    focus rfl
    focus first | rfl | (go_simp; done) | (go_simp; rfl)
    focus rfl
    rintro s3 x W4 ⟨rfl, hb4, v4, rfl, hm4⟩
    have sm1 := small_act hsm d ar at_ old new
    generalize hA1 : m.act d ar at_ old new = A1 at hm4 sm1 ⊢
    have g4 := g3.trans (hb4.mono g3.size)
    clear e0 e1
    replace k0 := Blk.below k0 hb4 (Blk.lt k0)
    replace k1 := Blk.below k1 hb4 (Blk.lt k1)
    replace k2 := Blk.below k2 hb4 (Blk.lt k2)
    replace b3 := Blk.below b3 hb4 (Blk.lt b3)
    simp only [Act.put, List.setIfInBounds_toArray, List.set_cons_zero, List.set_cons_succ]
    obtain ⟨csp, rfl, hcp⟩ := hm4
    have onep := memC_one hcp
    have hc0p := hcp
    obtain ⟨p2, p3, p6, p7, p8, rfl, _⟩ := hcp
    repeat (first
      | (with_reducible apply lst_nil)
      | ((with_reducible refine lst_unwanted ?_ ?_); (focus rfl); simp only [Act.put, List.setIfInBounds_toArray, List.set_cons_zero, List.set_cons_succ])
      | ((with_reducible refine lst_cons ?_ ?_ (fun K hK => ?_)); (focus rfl); (focus (intro ht; refine fine_none ?_ ht; (focus (first | (with_reducible apply only_idle); (focus decide) | (with_reducible apply only_turn); (focus rfl); (focus rfl); (focus kernel_rfl) | exact only_calc rfl rfl rfl | exact only_check rfl rfl)))); go_simp; refine hK _ _ _ ?_; clear hK K)
      | (with_reducible apply j_seq) | (with_reducible apply j_block) | (with_reducible apply j_ret) | (with_reducible apply j_skip) | (with_reducible apply j_exit) | (with_reducible apply j_label) | (with_reducible apply j_region_lit)
      | ((with_reducible refine j_true ?_ ?_); (focus rfl)) | ((with_reducible refine j_false ?_ ?_); (focus rfl))
      | (with_reducible show Then _ _ _ _ _ _; simp only [Then])
      | (with_reducible show InBlock _ _ _ _ _ _; simp only [InBlock, ↓reduceIte, Nat.reduceEqDiff]))
    refine lst_one (one_store (v := .agg #[_, _, p2, p3, _, _, p6, p7, p8]) (cs' := #[_, _, p2, p3, _, _, p6, p7, p8]) rfl rfl rfl rfl (Blk.new W4 _ _) (hoth _ (Below.size g4)) (by kernel_rfl) (Nat.le_of_ble_eq_true rfl) onep rfl ?_)
    simp only [Act.put, List.setIfInBounds_toArray, List.set_cons_zero, List.set_cons_succ]
    have kp := (Blk.new W4 25 #[.int .u64 0, .int .u64 0, .slice none 0 0, .slice none 0 0, .int .u64 0, .int .u64 0, .slice none 0 0, .slice none 0 0, .slice none 0 0]).row #[.int .u64 (Mem.e A1.1), .int .u64 (Mem.f A1.1), p2, p3, .int .u64 (Mem.h A1.1), .int .u64 (Mem.t A1.1), p6, p7, p8]
    have wp : Below (World.heap W4).size W4 _ := Below_row ((Below.refl _ _).alloc (Nat.le_refl _) (.cells #[.int .u64 0, .int .u64 0, .slice none 0 0, .slice none 0 0, .int .u64 0, .int .u64 0, .slice none 0 0, .slice none 0 0, .slice none 0 0] 25)) #[.int .u64 (Mem.e A1.1), .int .u64 (Mem.f A1.1), p2, p3, .int .u64 (Mem.h A1.1), .int .u64 (Mem.t A1.1), p6, p7, p8] (Nat.le_refl _)
    generalize hhp : (World.alloc W4 (.cells #[.int .u64 0, .int .u64 0, .slice none 0 0, .slice none 0 0, .int .u64 0, .int .u64 0, .slice none 0 0, .slice none 0 0, .slice none 0 0] 25)).setRow (World.heap W4).size #[.int .u64 (Mem.e A1.1), .int .u64 (Mem.f A1.1), p2, p3, .int .u64 (Mem.h A1.1), .int .u64 (Mem.t A1.1), p6, p7, p8] = W5 at kp wp ⊢
    clear hhp
    have zp := hc0p.below wp
    have dp := kp.cell
    have gp := (g4).trans (wp.mono (Below.size g4))
    replace k0 := Blk.below k0 wp (Blk.lt k0)
    replace k1 := Blk.below k1 wp (Blk.lt k1)
    replace k2 := Blk.below k2 wp (Blk.lt k2)
    replace b3 := Blk.below b3 wp (Blk.lt b3)
    have e3 := b3.cell
    unfold acc at e3
    repeat (first
      | ((with_reducible refine lst_free ?_ ?_ (fun K hK => ?_)); (focus with_reducible rfl); (focus (intro ht; refine fine_none ?_ ht; (focus (first | (with_reducible apply only_idle); (focus decide) | (with_reducible apply only_turn); (focus rfl); (focus rfl); (focus kernel_rfl) | exact only_calc rfl rfl rfl | exact only_check rfl rfl)))); go_simp; refine hK _ _ _ ?_; clear hK K)
      | ((with_reducible refine lst_off (i := ?_) (b := ?_) (d := ?_) ?_ ?_ ?_ ?_); rotate_left 3; (focus with_reducible rfl); (focus rfl); (focus (simp only [List.getElem?_toArray, List.getElem?_cons_succ, List.getElem?_cons_zero, Bool.not_true, Bool.not_false])); simp only [Act.put, List.setIfInBounds_toArray, List.set_cons_zero, List.set_cons_succ])
      | ((with_reducible refine lst_on (i := ?_) (b := ?_) (d := ?_) ?_ ?_ ?_ ?_ (fun K hK => ?_)); rotate_left 3; (focus with_reducible rfl); (focus rfl); (focus (simp only [List.getElem?_toArray, List.getElem?_cons_succ, List.getElem?_cons_zero])); (focus (intro ht; refine fine_none ?_ ht; (focus (first | (with_reducible apply only_idle); (focus decide) | (with_reducible apply only_turn); (focus rfl); (focus rfl); (focus kernel_rfl) | exact only_calc rfl rfl rfl | exact only_check rfl rfl)))); go_simp; refine hK _ _ _ ?_; clear hK K)
      | (with_reducible apply lst_nil)
      | ((fail_if_success (with_reducible refine lst_any ?_)); first
      | (with_reducible apply j_seq) | (with_reducible apply j_block) | (with_reducible apply j_ret) | (with_reducible apply j_skip) | (with_reducible apply j_exit) | (with_reducible apply j_label) | (with_reducible apply j_region_lit)
      | ((with_reducible refine j_true ?_ ?_); (focus rfl)) | ((with_reducible refine j_false ?_ ?_); (focus rfl))
      | (with_reducible show Then _ _ _ _ _ _; simp only [Then])
      | (with_reducible show InBlock _ _ _ _ _ _; simp only [InBlock, ↓reduceIte, Nat.reduceEqDiff])))
    subst hT
    show Wp _ _ _ (Code.seq (headOf 5 Try.f3.body) (tailOf 6 Try.f3.body)) _ _ _ _
    with_reducible apply j_seq
    generalize hT : tailOf 6 _ = T
    conv => arg 4; whnf
    repeat (first
      | ((with_reducible refine lst_free ?_ ?_ (fun K hK => ?_)); (focus with_reducible rfl); (focus (intro ht; refine fine_none ?_ ht; (focus (first | (with_reducible apply only_idle); (focus decide) | (with_reducible apply only_turn); (focus rfl); (focus rfl); (focus kernel_rfl) | exact only_calc rfl rfl rfl | exact only_check rfl rfl)))); go_simp; refine hK _ _ _ ?_; clear hK K)
      | ((with_reducible refine lst_off (i := ?_) (b := ?_) (d := ?_) ?_ ?_ ?_ ?_); rotate_left 3; (focus with_reducible rfl); (focus rfl); (focus (simp only [List.getElem?_toArray, List.getElem?_cons_succ, List.getElem?_cons_zero, Bool.not_true, Bool.not_false])); simp only [Act.put, List.setIfInBounds_toArray, List.set_cons_zero, List.set_cons_succ])
      | ((with_reducible refine lst_on (i := ?_) (b := ?_) (d := ?_) ?_ ?_ ?_ ?_ (fun K hK => ?_)); rotate_left 3; (focus with_reducible rfl); (focus rfl); (focus (simp only [List.getElem?_toArray, List.getElem?_cons_succ, List.getElem?_cons_zero])); (focus (intro ht; refine fine_none ?_ ht; (focus (first | (with_reducible apply only_idle); (focus decide) | (with_reducible apply only_turn); (focus rfl); (focus rfl); (focus kernel_rfl) | exact only_calc rfl rfl rfl | exact only_check rfl rfl)))); go_simp; refine hK _ _ _ ?_; clear hK K)
      | (with_reducible apply lst_nil)
      | ((fail_if_success (with_reducible refine lst_any ?_)); first
      | (with_reducible apply j_seq) | (with_reducible apply j_block) | (with_reducible apply j_ret) | (with_reducible apply j_skip) | (with_reducible apply j_exit) | (with_reducible apply j_label) | (with_reducible apply j_region_lit)
      | ((with_reducible refine j_true ?_ ?_); (focus rfl)) | ((with_reducible refine j_false ?_ ?_); (focus rfl))
      | (with_reducible show Then _ _ _ _ _ _; simp only [Then])
      | (with_reducible show InBlock _ _ _ _ _ _; simp only [InBlock, ↓reduceIte, Nat.reduceEqDiff])))
    refine lst_call _ rfl ?_ ?_ Try.func10 ?_ rfl (act (d := 1) (ar := ar) (at_ := at_) (old := 0) (new := 0) ⟨_, rfl, zp⟩ wp.size sm1) ?_
    focus rfl
    focus first | rfl | (go_simp; done) | (go_simp; rfl)
    focus rfl
    rintro s4 x W6 ⟨rfl, hb6, v6', rfl, hm6⟩
    obtain ⟨r1, r2, r3⟩ := act_read A1.1 ar at_ 0 0
    rw [r1] at hm6
    rw [r2, r3]
    have g6 := gp.trans (hb6.mono gp.size)
    clear e3
    replace k0 := Blk.below k0 hb6 (Blk.lt k0)
    replace k1 := Blk.below k1 hb6 (Blk.lt k1)
    replace k2 := Blk.below k2 hb6 (Blk.lt k2)
    replace b3 := Blk.below b3 hb6 (Blk.lt b3)
    replace kp := Blk.below kp hb6 (Blk.lt kp)
    simp only [Act.put, List.setIfInBounds_toArray, List.set_cons_zero, List.set_cons_succ]
    obtain ⟨csq, rfl, hcq⟩ := hm6
    have oneq := memC_one hcq
    have hc0q := hcq
    obtain ⟨q2, q3, q6, q7, q8, rfl, _⟩ := hcq
    repeat (first
      | (with_reducible apply lst_nil)
      | ((with_reducible refine lst_unwanted ?_ ?_); (focus rfl); simp only [Act.put, List.setIfInBounds_toArray, List.set_cons_zero, List.set_cons_succ])
      | ((with_reducible refine lst_cons ?_ ?_ (fun K hK => ?_)); (focus rfl); (focus (intro ht; refine fine_none ?_ ht; (focus (first | (with_reducible apply only_idle); (focus decide) | (with_reducible apply only_turn); (focus rfl); (focus rfl); (focus kernel_rfl) | exact only_calc rfl rfl rfl | exact only_check rfl rfl)))); go_simp; refine hK _ _ _ ?_; clear hK K)
      | (with_reducible apply j_seq) | (with_reducible apply j_block) | (with_reducible apply j_ret) | (with_reducible apply j_skip) | (with_reducible apply j_exit) | (with_reducible apply j_label) | (with_reducible apply j_region_lit)
      | ((with_reducible refine j_true ?_ ?_); (focus rfl)) | ((with_reducible refine j_false ?_ ?_); (focus rfl))
      | (with_reducible show Then _ _ _ _ _ _; simp only [Then])
      | (with_reducible show InBlock _ _ _ _ _ _; simp only [InBlock, ↓reduceIte, Nat.reduceEqDiff]))
    refine lst_one (one_store (v := .agg #[_, _, q2, q3, _, _, q6, q7, q8]) (cs' := #[_, _, q2, q3, _, _, q6, q7, q8]) rfl rfl rfl rfl (Blk.new W6 _ _) (hoth _ (Below.size g6)) (by kernel_rfl) (Nat.le_of_ble_eq_true rfl) oneq rfl ?_)
    simp only [Act.put, List.setIfInBounds_toArray, List.set_cons_zero, List.set_cons_succ]
    have kq := (Blk.new W6 25 #[.int .u64 0, .int .u64 0, .slice none 0 0, .slice none 0 0, .int .u64 0, .int .u64 0, .slice none 0 0, .slice none 0 0, .slice none 0 0]).row #[.int .u64 (Mem.e A1.1), .int .u64 (Mem.f A1.1), q2, q3, .int .u64 (Mem.h A1.1), .int .u64 (Mem.t A1.1), q6, q7, q8]
    have wq : Below (World.heap W6).size W6 _ := Below_row ((Below.refl _ _).alloc (Nat.le_refl _) (.cells #[.int .u64 0, .int .u64 0, .slice none 0 0, .slice none 0 0, .int .u64 0, .int .u64 0, .slice none 0 0, .slice none 0 0, .slice none 0 0] 25)) #[.int .u64 (Mem.e A1.1), .int .u64 (Mem.f A1.1), q2, q3, .int .u64 (Mem.h A1.1), .int .u64 (Mem.t A1.1), q6, q7, q8] (Nat.le_refl _)
    generalize hhq : (World.alloc W6 (.cells #[.int .u64 0, .int .u64 0, .slice none 0 0, .slice none 0 0, .int .u64 0, .int .u64 0, .slice none 0 0, .slice none 0 0, .slice none 0 0] 25)).setRow (World.heap W6).size #[.int .u64 (Mem.e A1.1), .int .u64 (Mem.f A1.1), q2, q3, .int .u64 (Mem.h A1.1), .int .u64 (Mem.t A1.1), q6, q7, q8] = W7 at kq wq ⊢
    clear hhq
    have zq := hc0q.below wq
    have dq := kq.cell
    have gq := (g6).trans (wq.mono (Below.size g6))
    replace k0 := Blk.below k0 wq (Blk.lt k0)
    replace k1 := Blk.below k1 wq (Blk.lt k1)
    replace k2 := Blk.below k2 wq (Blk.lt k2)
    replace b3 := Blk.below b3 wq (Blk.lt b3)
    replace kp := Blk.below kp wq (Blk.lt kp)
    have e3 := b3.cell
    unfold acc at e3
    clear dp
    have dp := kp.cell
    have zp7 := (zp.below (hb6.mono wp.size)).below (wq.mono (Nat.le_trans wp.size hb6.size))
    have sp7 : W4.heap.size ≤ W7.heap.size := Nat.le_trans wp.size (Nat.le_trans hb6.size wq.size)
    repeat (first
      | ((with_reducible refine lst_free ?_ ?_ (fun K hK => ?_)); (focus with_reducible rfl); (focus (intro ht; refine fine_none ?_ ht; (focus (first | (with_reducible apply only_idle); (focus decide) | (with_reducible apply only_turn); (focus rfl); (focus rfl); (focus kernel_rfl) | exact only_calc rfl rfl rfl | exact only_check rfl rfl)))); go_simp; refine hK _ _ _ ?_; clear hK K)
      | ((with_reducible refine lst_off (i := ?_) (b := ?_) (d := ?_) ?_ ?_ ?_ ?_); rotate_left 3; (focus with_reducible rfl); (focus rfl); (focus (simp only [List.getElem?_toArray, List.getElem?_cons_succ, List.getElem?_cons_zero, Bool.not_true, Bool.not_false])); simp only [Act.put, List.setIfInBounds_toArray, List.set_cons_zero, List.set_cons_succ])
      | ((with_reducible refine lst_on (i := ?_) (b := ?_) (d := ?_) ?_ ?_ ?_ ?_ (fun K hK => ?_)); rotate_left 3; (focus with_reducible rfl); (focus rfl); (focus (simp only [List.getElem?_toArray, List.getElem?_cons_succ, List.getElem?_cons_zero])); (focus (intro ht; refine fine_none ?_ ht; (focus (first | (with_reducible apply only_idle); (focus decide) | (with_reducible apply only_turn); (focus rfl); (focus rfl); (focus kernel_rfl) | exact only_calc rfl rfl rfl | exact only_check rfl rfl)))); go_simp; refine hK _ _ _ ?_; clear hK K)
      | (with_reducible apply lst_nil)
      | ((fail_if_success (with_reducible refine lst_any ?_)); first
      | (with_reducible apply j_seq) | (with_reducible apply j_block) | (with_reducible apply j_ret) | (with_reducible apply j_skip) | (with_reducible apply j_exit) | (with_reducible apply j_label) | (with_reducible apply j_region_lit)
      | ((with_reducible refine j_true ?_ ?_); (focus rfl)) | ((with_reducible refine j_false ?_ ?_); (focus rfl))
      | (with_reducible show Then _ _ _ _ _ _; simp only [Then])
      | (with_reducible show InBlock _ _ _ _ _ _; simp only [InBlock, ↓reduceIte, Nat.reduceEqDiff])))
    subst hT
    show Wp _ _ _ (Code.seq (headOf 6 Try.f3.body) (tailOf 7 Try.f3.body)) _ _ _ _
    with_reducible apply j_seq
    generalize hT : tailOf 7 _ = T
    conv => arg 4; whnf
    repeat (first
      | ((with_reducible refine lst_free ?_ ?_ (fun K hK => ?_)); (focus with_reducible rfl); (focus (intro ht; refine fine_none ?_ ht; (focus (first | (with_reducible apply only_idle); (focus decide) | (with_reducible apply only_turn); (focus rfl); (focus rfl); (focus kernel_rfl) | exact only_calc rfl rfl rfl | exact only_check rfl rfl)))); go_simp; refine hK _ _ _ ?_; clear hK K)
      | ((with_reducible refine lst_off (i := ?_) (b := ?_) (d := ?_) ?_ ?_ ?_ ?_); rotate_left 3; (focus with_reducible rfl); (focus rfl); (focus (simp only [List.getElem?_toArray, List.getElem?_cons_succ, List.getElem?_cons_zero, Bool.not_true, Bool.not_false])); simp only [Act.put, List.setIfInBounds_toArray, List.set_cons_zero, List.set_cons_succ])
      | ((with_reducible refine lst_on (i := ?_) (b := ?_) (d := ?_) ?_ ?_ ?_ ?_ (fun K hK => ?_)); rotate_left 3; (focus with_reducible rfl); (focus rfl); (focus (simp only [List.getElem?_toArray, List.getElem?_cons_succ, List.getElem?_cons_zero])); (focus (intro ht; refine fine_none ?_ ht; (focus (first | (with_reducible apply only_idle); (focus decide) | (with_reducible apply only_turn); (focus rfl); (focus rfl); (focus kernel_rfl) | exact only_calc rfl rfl rfl | exact only_check rfl rfl)))); go_simp; refine hK _ _ _ ?_; clear hK K)
      | (with_reducible apply lst_nil)
      | ((fail_if_success (with_reducible refine lst_any ?_)); first
      | (with_reducible apply j_seq) | (with_reducible apply j_block) | (with_reducible apply j_ret) | (with_reducible apply j_skip) | (with_reducible apply j_exit) | (with_reducible apply j_label) | (with_reducible apply j_region_lit)
      | ((with_reducible refine j_true ?_ ?_); (focus rfl)) | ((with_reducible refine j_false ?_ ?_); (focus rfl))
      | (with_reducible show Then _ _ _ _ _ _; simp only [Then])
      | (with_reducible show InBlock _ _ _ _ _ _; simp only [InBlock, ↓reduceIte, Nat.reduceEqDiff])))
    refine lst_call _ rfl ?_ ?_ Try.func10 ?_ rfl (act (d := 1) (ar := ar) (at_ := at_) (old := 0) (new := 0) ⟨_, rfl, zp7⟩ sp7 sm1) ?_
    focus rfl
    focus first | rfl | (go_simp; done) | (go_simp; rfl)
    focus rfl
    rintro s5 x W8 ⟨rfl, hb8, v8', rfl, hm8⟩
    rw [r1] at hm8
    rw [r2, r3]
    have g8 := gq.trans (hb8.mono gq.size)
    clear e3 dp
    replace k0 := Blk.below k0 hb8 (Blk.lt k0)
    replace k1 := Blk.below k1 hb8 (Blk.lt k1)
    replace k2 := Blk.below k2 hb8 (Blk.lt k2)
    replace kp := Blk.below kp hb8 (Blk.lt kp)
    simp only [Act.put, List.setIfInBounds_toArray, List.set_cons_zero, List.set_cons_succ]
    obtain ⟨csr, rfl, hcr⟩ := hm8
    have oner := memC_one hcr
    have hc0r := hcr
    obtain ⟨r2, r3, r6, r7, r8, rfl, _⟩ := hcr
    repeat (first
      | (with_reducible apply lst_nil)
      | ((with_reducible refine lst_unwanted ?_ ?_); (focus rfl); simp only [Act.put, List.setIfInBounds_toArray, List.set_cons_zero, List.set_cons_succ])
      | ((with_reducible refine lst_cons ?_ ?_ (fun K hK => ?_)); (focus rfl); (focus (intro ht; refine fine_none ?_ ht; (focus (first | (with_reducible apply only_idle); (focus decide) | (with_reducible apply only_turn); (focus rfl); (focus rfl); (focus kernel_rfl) | exact only_calc rfl rfl rfl | exact only_check rfl rfl)))); go_simp; refine hK _ _ _ ?_; clear hK K)
      | (with_reducible apply j_seq) | (with_reducible apply j_block) | (with_reducible apply j_ret) | (with_reducible apply j_skip) | (with_reducible apply j_exit) | (with_reducible apply j_label) | (with_reducible apply j_region_lit)
      | ((with_reducible refine j_true ?_ ?_); (focus rfl)) | ((with_reducible refine j_false ?_ ?_); (focus rfl))
      | (with_reducible show Then _ _ _ _ _ _; simp only [Then])
      | (with_reducible show InBlock _ _ _ _ _ _; simp only [InBlock, ↓reduceIte, Nat.reduceEqDiff]))
    refine lst_one (one_store (v := .agg #[_, _, r2, r3, _, _, r6, r7, r8]) (cs' := #[_, _, r2, r3, _, _, r6, r7, r8]) rfl rfl rfl rfl (Blk.new W8 _ _) (hoth _ (Below.size g8)) (by kernel_rfl) (Nat.le_of_ble_eq_true rfl) oner rfl ?_)
    simp only [Act.put, List.setIfInBounds_toArray, List.set_cons_zero, List.set_cons_succ]
    have kr := (Blk.new W8 25 #[.int .u64 0, .int .u64 0, .slice none 0 0, .slice none 0 0, .int .u64 0, .int .u64 0, .slice none 0 0, .slice none 0 0, .slice none 0 0]).row #[.int .u64 (Mem.e A1.1), .int .u64 (Mem.f A1.1), r2, r3, .int .u64 (Mem.h A1.1), .int .u64 (Mem.t A1.1), r6, r7, r8]
    have wr : Below (World.heap W8).size W8 _ := Below_row ((Below.refl _ _).alloc (Nat.le_refl _) (.cells #[.int .u64 0, .int .u64 0, .slice none 0 0, .slice none 0 0, .int .u64 0, .int .u64 0, .slice none 0 0, .slice none 0 0, .slice none 0 0] 25)) #[.int .u64 (Mem.e A1.1), .int .u64 (Mem.f A1.1), r2, r3, .int .u64 (Mem.h A1.1), .int .u64 (Mem.t A1.1), r6, r7, r8] (Nat.le_refl _)
    generalize hhr : (World.alloc W8 (.cells #[.int .u64 0, .int .u64 0, .slice none 0 0, .slice none 0 0, .int .u64 0, .int .u64 0, .slice none 0 0, .slice none 0 0, .slice none 0 0] 25)).setRow (World.heap W8).size #[.int .u64 (Mem.e A1.1), .int .u64 (Mem.f A1.1), r2, r3, .int .u64 (Mem.h A1.1), .int .u64 (Mem.t A1.1), r6, r7, r8] = W9 at kr wr ⊢
    clear hhr
    have zr := hc0r.below wr
    have dr := kr.cell
    have gr := (g8).trans (wr.mono (Below.size g8))
    replace k0 := Blk.below k0 wr (Blk.lt k0)
    replace k1 := Blk.below k1 wr (Blk.lt k1)
    replace k2 := Blk.below k2 wr (Blk.lt k2)
    replace kp := Blk.below kp wr (Blk.lt kp)
    repeat (first
      | ((with_reducible refine lst_free ?_ ?_ (fun K hK => ?_)); (focus with_reducible rfl); (focus (intro ht; refine fine_none ?_ ht; (focus (first | (with_reducible apply only_idle); (focus decide) | (with_reducible apply only_turn); (focus rfl); (focus rfl); (focus kernel_rfl) | exact only_calc rfl rfl rfl | exact only_check rfl rfl)))); go_simp; refine hK _ _ _ ?_; clear hK K)
      | ((with_reducible refine lst_off (i := ?_) (b := ?_) (d := ?_) ?_ ?_ ?_ ?_); rotate_left 3; (focus with_reducible rfl); (focus rfl); (focus (simp only [List.getElem?_toArray, List.getElem?_cons_succ, List.getElem?_cons_zero, Bool.not_true, Bool.not_false])); simp only [Act.put, List.setIfInBounds_toArray, List.set_cons_zero, List.set_cons_succ])
      | ((with_reducible refine lst_on (i := ?_) (b := ?_) (d := ?_) ?_ ?_ ?_ ?_ (fun K hK => ?_)); rotate_left 3; (focus with_reducible rfl); (focus rfl); (focus (simp only [List.getElem?_toArray, List.getElem?_cons_succ, List.getElem?_cons_zero])); (focus (intro ht; refine fine_none ?_ ht; (focus (first | (with_reducible apply only_idle); (focus decide) | (with_reducible apply only_turn); (focus rfl); (focus rfl); (focus kernel_rfl) | exact only_calc rfl rfl rfl | exact only_check rfl rfl)))); go_simp; refine hK _ _ _ ?_; clear hK K)
      | (with_reducible apply lst_nil)
      | ((fail_if_success (with_reducible refine lst_any ?_)); first
      | (with_reducible apply j_seq) | (with_reducible apply j_block) | (with_reducible apply j_ret) | (with_reducible apply j_skip) | (with_reducible apply j_exit) | (with_reducible apply j_label) | (with_reducible apply j_region_lit)
      | ((with_reducible refine j_true ?_ ?_); (focus rfl)) | ((with_reducible refine j_false ?_ ?_); (focus rfl))
      | (with_reducible show Then _ _ _ _ _ _; simp only [Then])
      | (with_reducible show InBlock _ _ _ _ _ _; simp only [InBlock, ↓reduceIte, Nat.reduceEqDiff])))
    have zp9 := ((zp7.below (hb8.mono sp7)).below (wr.mono (Nat.le_trans sp7 hb8.size))).more (Nat.le_trans sp7 hb8.size)
    have hA : A1.1 = (m.act d ar at_ old new).1 := by rw [hA1]
    have hcase := act_cases m d ar at_ old new
    rw [hA1] at hcase
    obtain ⟨cs0, ecs, hmc⟩ := memV_keep hm0 (gr.mono hB)
    obtain rfl := Value.agg.inj ecs
    subst hT
    refine apart9 (B := B) (m := m) (A := A1.1) (was := A1.2.1) (dn := A1.2.2) (now := (A1.1.at_ ar at_).getD 0) (B8 := W8.heap.size) (B1 := W8.heap.size) gr hoth ⟨_, k0, hmc⟩ k1 k2 ⟨_, kp, zp9⟩ ⟨_, kr, zr⟩ (Nat.le_trans hB gr.size) wr.size wr.size hA hsm ?_ ?_ _ _ _ _ _ _ _ _ _ _ _ _ _ _ _ _ _ _ _ _ _ _ _ _ _ _ _ _ _ _ _ _ _ _ _ _ _ _ _ _ _ _ _ _ _ _ _ _ _ _ _ _ _ _ _ _ _ _ _ _ _ _ _ _ _ _ _ _ _ _ _ _ _ _ _ _ _ _ _ _ _ _ _ _ _ _ _ _ _ _ _ _ _ _ _ _ _ _ _ _ _ _ _ _ _ _ _ _ _ _ _ _ _ _ _ _ _ _ _ _ _ _ _ _ _ _ _
    · rcases hcase with ⟨q1, q2, q3⟩ | ⟨wd, q1, q2, q3⟩
      · intro h; rw [q2] at h; cases h
      · intro _; rw [q2, at_put new q1]; simp
    · rcases hcase with ⟨q1, q2, q3⟩ | ⟨wd, q1, q2, q3⟩
      · intro _ h1 h2; rw [q1]; exact (q3 (by unfold inB; simp; omega)).symm
      · intro h; rw [q3] at h; cases h
end
end Go.Proofs.Ytonhfgjofgbcdaa.Lw
