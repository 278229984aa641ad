/- Package store: an access, walked. -/
import Derived.Test.YtonhfgjofgbcdaaStFind
namespace Go.Proofs.Ytonhfgjofgbcdaa.St
set_option linter.unusedSimpArgs false
set_option linter.unusedVariables false
set_option maxRecDepth 20000
open Go Go.Conc Go.RowKit Go.Proofs.Ytonhfgjofgbcdaa.Jay Go.Proofs.Ytonhfgjofgbcdaa.Pl
section
variable {γ : Type} {X : Turns γ} {s : γ} {w : World}
attribute [local go_sem] upon_value upon_skip

/-- What an access does, and tells. -/
def Mem.act (m : Mem) (d ar at_ old new : Int) : Mem × Int × Bool :=
  match m.at_ ar at_ with
  | none => (m, 0, false)
  | some was => if inB d 1 3 = false then (m, 0, false) else if d = 1 ∨ d = 3 ∧ was ≠ old then (m, was, false) else (m.put ar at_.toNat new, was, true)

set_option maxHeartbeats 8000000 in
theorem act2 {B : Nat} {m : Mem} {cs : Array Value} {d ar at_ old new : Int} (hm : MemC w B m cs) (hB : B ≤ w.heap.size) (hsm : m.small) :
    Jdo Try.prog X 10 #[.agg cs, .agg (acc d ar at_ old new)] s w fun s' r w' => s' = s ∧ Below w.heap.size w w' ∧
      ∃ cs', r = .back (.tuple #[.agg cs', .int .u64 (m.act d ar at_ old new).2.1, .bool (m.act d ar at_ old new).2.2]) ∧ MemC w' w'.heap.size (m.act d ar at_ old new).1 cs' ∧ Far w cs cs' := by
  refine Jdo.there fun ht => ?_
  have hoth : ∀ b, w.heap.size ≤ b → ¬ X.oth s b := fun b hb ho => by have := ht b ho; omega
  have hm0 := hm
  obtain ⟨v2, v3, v6, v7, v8, rfl, h2, h3, h6, h7, h8⟩ := hm
  unfold acc
  obtain ⟨W0, hW0⟩ : ∃ W0, W0 = ((w.alloc (.cells #[.int .u64 m.e, .int .u64 m.f, v2, v3, .int .u64 m.h, .int .u64 m.t, v6, v7, v8] 25)).alloc (.cells (acc d ar at_ old new) 27)).alloc
      (.cells #[.int .u64 0, .int .u64 0, .slice none 0 0, .slice none 0 0, .int .u64 0, .int .u64 0, .slice none 0 0, .slice none 0 0, .slice none 0 0] 25) := ⟨_, rfl⟩
  have b0 : Blk W0 w.heap.size _ _ := hW0 ▸ ((Blk.new w _ _).alloc _).alloc _
  have b1 : Blk W0 (w.heap.size + 1) _ _ := hW0 ▸ (Blk.new1 w _ _ _).alloc _
  have b2 : Blk W0 (w.heap.size + 1 + 1) _ _ := hW0 ▸ Blk.new2 w _ _ _ _
  have hb0 : Below w.heap.size w W0 := hW0 ▸ (((Below.refl _ _).alloc (Nat.le_refl _) _).alloc (by simp) _).alloc (by simp; omega) _
  unfold acc at hW0
  refine jdo_of Try.func10 rfl ?_
  simp only [Try.ntmps10, List.size_toArray, List.length_cons, List.length_nil, Nat.reduceAdd, Nat.reduceSub, Array.replicate_succ, Array.replicate_zero, List.push_toArray, List.append_toArray, List.nil_append, List.cons_append]
  repeat (first
    | (with_reducible apply lst_nil)
    | ((with_reducible refine lst_unwanted ?_ ?_); (focus rfl); simp only [Act.put, List.setIfInBounds_toArray, List.set_cons_zero, List.set_cons_succ])
    | ((with_reducible refine lst_cons ?_ ?_ (fun K hK => ?_)); (focus rfl); (focus (intro ht; refine fine_none ?_ ht; (focus (first | (with_reducible apply only_idle); (focus decide) | (with_reducible apply only_turn); (focus rfl); (focus rfl); (focus kernel_rfl) | exact only_calc rfl rfl rfl | exact only_check rfl rfl)))); go_simp; refine hK _ _ _ ?_; clear hK K)
    | (with_reducible apply j_seq) | (with_reducible apply j_block) | (with_reducible apply j_ret) | (with_reducible apply j_skip) | (with_reducible apply j_exit) | (with_reducible apply j_label) | (with_reducible apply j_region_lit)
    | ((with_reducible refine j_true ?_ ?_); (focus rfl)) | ((with_reducible refine j_false ?_ ?_); (focus rfl))
    | (with_reducible show Then _ _ _ _ _ _; simp only [Then])
    | (with_reducible show InBlock _ _ _ _ _ _; simp only [InBlock, ↓reduceIte, Nat.reduceEqDiff]))
  rw [← hW0]
  have hone : ∀ u ∈ (Value.agg #[.int .u64 m.e, .int .u64 m.f, v2, v3, .int .u64 m.h, .int .u64 m.t, v6, v7, v8]).cells.toList, u.oneCell' = true := by
    obtain ⟨A2, c2, rfl, _⟩ := h2.form
    obtain ⟨A3, c3, rfl, _⟩ := h3.form
    obtain ⟨A6, c6, rfl, _⟩ := h6.form
    obtain ⟨A7, c7, rfl, _⟩ := h7.form
    obtain ⟨A8, c8, rfl, _⟩ := h8.form
    simp [Value.cells, Value.oneCell']
  refine lst_one (one_store (v := .agg #[.int .u64 m.e, .int .u64 m.f, v2, v3, .int .u64 m.h, .int .u64 m.t, v6, v7, v8]) (cs' := #[.int .u64 m.e, .int .u64 m.f, v2, v3, .int .u64 m.h, .int .u64 m.t, v6, v7, v8]) rfl rfl rfl rfl b2 (hoth _ (by omega)) (by kernel_rfl) (Nat.le_of_ble_eq_true rfl) hone rfl ?_)
  simp only [Act.put, List.setIfInBounds_toArray, List.set_cons_zero, List.set_cons_succ]
  generalize hW1 : W0.setRow (w.heap.size + 1 + 1) #[.int .u64 m.e, .int .u64 m.f, v2, v3, .int .u64 m.h, .int .u64 m.t, v6, v7, v8] = W1
  have c0 : Blk W1 w.heap.size _ _ := hW1 ▸ b0.row_far _ (by omega)
  have c1 : Blk W1 (w.heap.size + 1) _ _ := hW1 ▸ b1.row_far _ (by omega)
  have c2 : Blk W1 (w.heap.size + 1 + 1) _ _ := hW1 ▸ b2.row _
  have hb1 : Below w.heap.size w W1 := hW1 ▸ Below_row hb0 _ (by omega)
  clear hW1 hW0 b0 b1 b2 hb0 W0
  have d1 := c1.cell
  have d0 := c0.cell
  have l2 := c2.lt
  unfold acc at d1
  repeat (first
    | (with_reducible apply lst_nil)
    | ((with_reducible refine lst_unwanted ?_ ?_); (focus rfl); simp only [Act.put, List.setIfInBounds_toArray, List.set_cons_zero, List.set_cons_succ])
    | ((with_reducible refine lst_cons ?_ ?_ (fun K hK => ?_)); (focus rfl); (focus (intro ht; refine fine_none ?_ ht; (focus (first | (with_reducible apply only_idle); (focus decide) | (with_reducible apply only_turn); (focus rfl); (focus rfl); (focus kernel_rfl) | exact only_calc rfl rfl rfl | exact only_check rfl rfl)))); go_simp; refine hK _ _ _ ?_; clear hK K)
    | (with_reducible apply j_seq) | (with_reducible apply j_block) | (with_reducible apply j_ret) | (with_reducible apply j_skip) | (with_reducible apply j_exit) | (with_reducible apply j_label) | (with_reducible apply j_region_lit)
    | ((with_reducible refine j_true ?_ ?_); (focus rfl)) | ((with_reducible refine j_false ?_ ?_); (focus rfl))
    | (with_reducible show Then _ _ _ _ _ _; simp only [Then])
    | (with_reducible show InBlock _ _ _ _ _ _; simp only [InBlock, ↓reduceIte, Nat.reduceEqDiff]))
  refine lst_call _ rfl ?_ ?_ Try.func23 ?_ rfl (find (d := d) (ar := ar) (at_ := at_) (old := old) (new := new) c2 (hm0.below (hb1.mono hB)) (by omega) hsm (hoth _ (by omega))) ?_
  focus rfl
  focus first | rfl | (go_simp; done) | (go_simp; rfl)
  focus rfl
  rintro s' r w' ⟨rfl, hr⟩
  unfold Finds at hr
  cases hat : m.at_ ar at_ with
  | none =>
    rw [hat] at hr
    obtain ⟨rfl, hb2⟩ := hr
    have hact : m.act d ar at_ old new = (m, 0, false) := by unfold Mem.act; rw [hat]
    have e0 : Blk w' _ _ _ := c0.below hb2 c0.lt
    have e2 : Blk w' _ _ _ := c2.below hb2 c2.lt
    have hb3 := hb1.trans (hb2.mono hb1.size)
    clear d0 d1
    have d0 := e0.cell
    simp only [Act.put, List.setIfInBounds_toArray, List.set_cons_zero, List.set_cons_succ]
    repeat (first
      | (with_reducible apply lst_nil)
      | ((with_reducible refine lst_unwanted ?_ ?_); (focus rfl); simp only [Act.put, List.setIfInBounds_toArray, List.set_cons_zero, List.set_cons_succ])
      | ((with_reducible refine lst_cons ?_ ?_ (fun K hK => ?_)); (focus rfl); (focus (intro ht; refine fine_none ?_ ht; (focus (first | (with_reducible apply only_idle); (focus decide) | (with_reducible apply only_turn); (focus rfl); (focus rfl); (focus kernel_rfl) | exact only_calc rfl rfl rfl | exact only_check rfl rfl)))); go_simp; refine hK _ _ _ ?_; clear hK K)
      | (with_reducible apply j_seq) | (with_reducible apply j_block) | (with_reducible apply j_ret) | (with_reducible apply j_skip) | (with_reducible apply j_exit) | (with_reducible apply j_label) | (with_reducible apply j_region_lit)
      | ((with_reducible refine j_true ?_ ?_); (focus rfl)) | ((with_reducible refine j_false ?_ ?_); (focus rfl))
      | (with_reducible show Then _ _ _ _ _ _; simp only [Then])
      | (with_reducible show InBlock _ _ _ _ _ _; simp only [InBlock, ↓reduceIte, Nat.reduceEqDiff]))
    refine lst_one (one_store (v := .agg #[.int .u64 m.e, .int .u64 m.f, v2, v3, .int .u64 m.h, .int .u64 m.t, v6, v7, v8]) (cs' := #[.int .u64 m.e, .int .u64 m.f, v2, v3, .int .u64 m.h, .int .u64 m.t, v6, v7, v8]) rfl rfl rfl rfl e2 (hoth _ (by omega)) (by kernel_rfl) (Nat.le_of_ble_eq_true rfl) hone rfl ?_)
    simp only [Act.put, List.setIfInBounds_toArray, List.set_cons_zero, List.set_cons_succ]
    generalize hW2 : w'.setRow (w.heap.size + 1 + 1) #[.int .u64 m.e, .int .u64 m.f, v2, v3, .int .u64 m.h, .int .u64 m.t, v6, v7, v8] = W2
    have f2 : Blk W2 (w.heap.size + 1 + 1) _ _ := hW2 ▸ e2.row _
    have hb4 : Below w.heap.size w W2 := hW2 ▸ Below_row hb3 _ (by omega)
    have d2 := f2.cell
    repeat (first
      | (with_reducible apply lst_nil)
      | ((with_reducible refine lst_unwanted ?_ ?_); (focus rfl); simp only [Act.put, List.setIfInBounds_toArray, List.set_cons_zero, List.set_cons_succ])
      | ((with_reducible refine lst_cons ?_ ?_ (fun K hK => ?_)); (focus rfl); (focus (intro ht; refine fine_none ?_ ht; (focus (first | (with_reducible apply only_idle); (focus decide) | (with_reducible apply only_turn); (focus rfl); (focus rfl); (focus kernel_rfl) | exact only_calc rfl rfl rfl | exact only_check rfl rfl)))); go_simp; refine hK _ _ _ ?_; clear hK K)
      | (with_reducible apply j_seq) | (with_reducible apply j_block) | (with_reducible apply j_ret) | (with_reducible apply j_skip) | (with_reducible apply j_exit) | (with_reducible apply j_label) | (with_reducible apply j_region_lit)
      | ((with_reducible refine j_true ?_ ?_); (focus rfl)) | ((with_reducible refine j_false ?_ ?_); (focus rfl))
      | (with_reducible show Then _ _ _ _ _ _; simp only [Then])
      | (with_reducible show InBlock _ _ _ _ _ _; simp only [InBlock, ↓reduceIte, Nat.reduceEqDiff]))
    exact body_run (.tuple #[.agg #[.int .u64 m.e, .int .u64 m.f, v2, v3, .int .u64 m.h, .int .u64 m.t, v6, v7, v8], .int .u64 0, .bool false]) rfl (by simp [results, go_sem, d2]) ⟨rfl, hb4, _, by rw [hact], by rw [hact]; exact MemC.more (B' := W2.heap.size) (hm0.below (hb4.mono hB)) (by have := f2.lt; omega), Far.refl _ _⟩
  | some was =>
    rw [hat] at hr
    obtain ⟨gp, op, tp, cp, rfl, hge, hcp, hwas, ⟨cM, hcM, hmM, hfM⟩, hset, hold⟩ := hr
    have hmM' := hmM
    obtain ⟨u2, u3, u6, u7, u8, rfl, z2, z3, z6, z7, z8⟩ := hmM'
    have e0 : Blk w' w.heap.size _ _ := c0.below hold (by omega)
    have e1 : Blk w' (w.heap.size + 1) _ _ := c1.below hold (by omega)
    have hb3 : Below w.heap.size w w' := hb1.trans (hold.mono (by omega))
    clear d0 d1
    have d0 := e0.cell
    have d1 := e1.cell
    have d2 := hcM.cell
    have dp := hcp.cell op
    rw [hwas] at dp
    have fp := hcp.frozen op
    unfold acc at d1
    simp only [Act.put, List.setIfInBounds_toArray, List.set_cons_zero, List.set_cons_succ]
    repeat (first
      | (with_reducible apply lst_nil)
      | ((with_reducible refine lst_unwanted ?_ ?_); (focus rfl); simp only [Act.put, List.setIfInBounds_toArray, List.set_cons_zero, List.set_cons_succ])
      | ((with_reducible refine lst_cons ?_ ?_ (fun K hK => ?_)); (focus rfl); (focus (intro ht; refine fine_none ?_ ht; (focus (first | (with_reducible apply only_idle); (focus decide) | (with_reducible apply only_turn); (focus rfl); (focus rfl); (focus kernel_rfl) | exact only_calc rfl rfl rfl | exact only_check rfl rfl)))); go_simp; refine hK _ _ _ ?_; clear hK K)
      | (with_reducible apply j_seq) | (with_reducible apply j_block) | (with_reducible apply j_ret) | (with_reducible apply j_skip) | (with_reducible apply j_exit) | (with_reducible apply j_label) | (with_reducible apply j_region_lit)
      | ((with_reducible refine j_true ?_ ?_); (focus rfl)) | ((with_reducible refine j_false ?_ ?_); (focus rfl))
      | (with_reducible show Then _ _ _ _ _ _; simp only [Then])
      | (with_reducible show InBlock _ _ _ _ _ _; simp only [InBlock, ↓reduceIte, Nat.reduceEqDiff]))
    refine lst_call _ rfl ?_ ?_ Try.func24 ?_ rfl (within d 1 3) ?_
    focus rfl
    focus first | rfl | (go_simp; done) | (go_simp; rfl)
    focus rfl
    rintro s' r w' ⟨rfl, rfl, rfl⟩
    simp only [Act.put, List.setIfInBounds_toArray, List.set_cons_zero, List.set_cons_succ]
    cases hd : inB d 1 3 with
    | false =>
      have hact : m.act d ar at_ old new = (m, 0, false) := by unfold Mem.act; rw [hat]; simp [hd]
      repeat (first
        | (with_reducible apply lst_nil)
        | ((with_reducible refine lst_unwanted ?_ ?_); (focus rfl); simp only [Act.put, List.setIfInBounds_toArray, List.set_cons_zero, List.set_cons_succ])
        | ((with_reducible refine lst_cons ?_ ?_ (fun K hK => ?_)); (focus rfl); (focus (intro ht; refine fine_none ?_ ht; (focus (first | (with_reducible apply only_idle); (focus decide) | (with_reducible apply only_turn); (focus rfl); (focus rfl); (focus kernel_rfl) | exact only_calc rfl rfl rfl | exact only_check rfl rfl)))); go_simp; refine hK _ _ _ ?_; clear hK K)
        | (with_reducible apply j_seq) | (with_reducible apply j_block) | (with_reducible apply j_ret) | (with_reducible apply j_skip) | (with_reducible apply j_exit) | (with_reducible apply j_label) | (with_reducible apply j_region_lit)
        | ((with_reducible refine j_true ?_ ?_); (focus rfl)) | ((with_reducible refine j_false ?_ ?_); (focus rfl))
        | (with_reducible show Then _ _ _ _ _ _; simp only [Then])
        | (with_reducible show InBlock _ _ _ _ _ _; simp only [InBlock, ↓reduceIte, Nat.reduceEqDiff]))
      refine lst_one (one_store (v := .agg #[.int .u64 m.e, .int .u64 m.f, v2, v3, .int .u64 m.h, .int .u64 m.t, v6, v7, v8]) (cs' := #[.int .u64 m.e, .int .u64 m.f, v2, v3, .int .u64 m.h, .int .u64 m.t, v6, v7, v8]) rfl rfl rfl rfl hcM (hoth _ (by omega)) (by kernel_rfl) (Nat.le_of_ble_eq_true rfl) hone rfl ?_)
      simp only [Act.put, List.setIfInBounds_toArray, List.set_cons_zero, List.set_cons_succ]
      generalize hW2 : w'.setRow (w.heap.size + 1 + 1) #[.int .u64 m.e, .int .u64 m.f, v2, v3, .int .u64 m.h, .int .u64 m.t, v6, v7, v8] = W2
      have f2 : Blk W2 (w.heap.size + 1 + 1) _ _ := hW2 ▸ hcM.row _
      have hb4 : Below w.heap.size w W2 := hW2 ▸ Below_row hb3 _ (by omega)
      clear d2
      have d2 := f2.cell
      repeat (first
        | (with_reducible apply lst_nil)
        | ((with_reducible refine lst_unwanted ?_ ?_); (focus rfl); simp only [Act.put, List.setIfInBounds_toArray, List.set_cons_zero, List.set_cons_succ])
        | ((with_reducible refine lst_cons ?_ ?_ (fun K hK => ?_)); (focus rfl); (focus (intro ht; refine fine_none ?_ ht; (focus (first | (with_reducible apply only_idle); (focus decide) | (with_reducible apply only_turn); (focus rfl); (focus rfl); (focus kernel_rfl) | exact only_calc rfl rfl rfl | exact only_check rfl rfl)))); go_simp; refine hK _ _ _ ?_; clear hK K)
        | (with_reducible apply j_seq) | (with_reducible apply j_block) | (with_reducible apply j_ret) | (with_reducible apply j_skip) | (with_reducible apply j_exit) | (with_reducible apply j_label) | (with_reducible apply j_region_lit)
        | ((with_reducible refine j_true ?_ ?_); (focus rfl)) | ((with_reducible refine j_false ?_ ?_); (focus rfl))
        | (with_reducible show Then _ _ _ _ _ _; simp only [Then])
        | (with_reducible show InBlock _ _ _ _ _ _; simp only [InBlock, ↓reduceIte, Nat.reduceEqDiff]))
      exact body_run (.tuple #[.agg #[.int .u64 m.e, .int .u64 m.f, v2, v3, .int .u64 m.h, .int .u64 m.t, v6, v7, v8], .int .u64 0, .bool false]) rfl (by simp [results, go_sem, d2]) ⟨rfl, hb4, _, by rw [hact], by rw [hact]; exact MemC.more (B' := W2.heap.size) (hm0.below (hb4.mono hB)) (by have := f2.lt; omega), Far.refl _ _⟩
    | true =>
      have hd3 : d = 1 ∨ d = 2 ∨ d = 3 := by
        unfold inB at hd
        simp at hd
        omega
      have l2' := hcM.lt
      rcases hd3 with rfl | rfl | rfl
      · have hact : m.act 1 ar at_ old new = (m, was, false) := by unfold Mem.act; rw [hat]; simp [hd]
        repeat (first
          | (with_reducible apply lst_nil)
          | ((with_reducible refine lst_unwanted ?_ ?_); (focus rfl); simp only [Act.put, List.setIfInBounds_toArray, List.set_cons_zero, List.set_cons_succ])
          | ((with_reducible refine lst_cons ?_ ?_ (fun K hK => ?_)); (focus rfl); (focus (intro ht; refine fine_none ?_ ht; (focus (first | (with_reducible apply only_idle); (focus decide) | (with_reducible apply only_turn); (focus rfl); (focus rfl); (focus kernel_rfl) | exact only_calc rfl rfl rfl | exact only_check rfl rfl)))); go_simp; refine hK _ _ _ ?_; clear hK K)
          | (with_reducible apply j_seq) | (with_reducible apply j_block) | (with_reducible apply j_ret) | (with_reducible apply j_skip) | (with_reducible apply j_exit) | (with_reducible apply j_label) | (with_reducible apply j_region_lit)
          | ((with_reducible refine j_true ?_ ?_); (focus rfl)) | ((with_reducible refine j_false ?_ ?_); (focus rfl))
          | (with_reducible show Then _ _ _ _ _ _; simp only [Then])
          | (with_reducible show InBlock _ _ _ _ _ _; simp only [InBlock, ↓reduceIte, Nat.reduceEqDiff]))
        clear d2
        have d2 := Blk.cell hcM
        repeat (first
          | (with_reducible apply lst_nil)
          | ((with_reducible refine lst_unwanted ?_ ?_); (focus rfl); simp only [Act.put, List.setIfInBounds_toArray, List.set_cons_zero, List.set_cons_succ])
          | ((with_reducible refine lst_cons ?_ ?_ (fun K hK => ?_)); (focus rfl); (focus (intro ht; refine fine_none ?_ ht; (focus (first | (with_reducible apply only_idle); (focus decide) | (with_reducible apply only_turn); (focus rfl); (focus rfl); (focus kernel_rfl) | exact only_calc rfl rfl rfl | exact only_check rfl rfl)))); go_simp; refine hK _ _ _ ?_; clear hK K)
          | (with_reducible apply j_seq) | (with_reducible apply j_block) | (with_reducible apply j_ret) | (with_reducible apply j_skip) | (with_reducible apply j_exit) | (with_reducible apply j_label) | (with_reducible apply j_region_lit)
          | ((with_reducible refine j_true ?_ ?_); (focus rfl)) | ((with_reducible refine j_false ?_ ?_); (focus rfl))
          | (with_reducible show Then _ _ _ _ _ _; simp only [Then])
          | (with_reducible show InBlock _ _ _ _ _ _; simp only [InBlock, ↓reduceIte, Nat.reduceEqDiff]))
        refine lst_one (one_store (v := .agg #[_, _, u2, u3, _, _, u6, u7, u8]) (cs' := #[_, _, u2, u3, _, _, u6, u7, u8]) rfl rfl rfl rfl hcM (hoth _ (by omega)) (by kernel_rfl) (Nat.le_of_ble_eq_true rfl) ?_ rfl ?_)
        focus
          obtain ⟨A2, k2, rfl, _⟩ := z2.form
          obtain ⟨A3, k3, rfl, _⟩ := z3.form
          obtain ⟨A6, k6, rfl, _⟩ := z6.form
          obtain ⟨A7, k7, rfl, _⟩ := z7.form
          obtain ⟨A8, k8, rfl, _⟩ := z8.form
          simp [Value.cells, Value.oneCell']
        rw [setRow_self _ _ _ _ _ hcM]
        simp only [Act.put, List.setIfInBounds_toArray, List.set_cons_zero, List.set_cons_succ]
        repeat (first
          | (with_reducible apply lst_nil)
          | ((with_reducible refine lst_unwanted ?_ ?_); (focus rfl); simp only [Act.put, List.setIfInBounds_toArray, List.set_cons_zero, List.set_cons_succ])
          | ((with_reducible refine lst_cons ?_ ?_ (fun K hK => ?_)); (focus rfl); (focus (intro ht; refine fine_none ?_ ht; (focus (first | (with_reducible apply only_idle); (focus decide) | (with_reducible apply only_turn); (focus rfl); (focus rfl); (focus kernel_rfl) | exact only_calc rfl rfl rfl | exact only_check rfl rfl)))); go_simp; refine hK _ _ _ ?_; clear hK K)
          | (with_reducible apply j_seq) | (with_reducible apply j_block) | (with_reducible apply j_ret) | (with_reducible apply j_skip) | (with_reducible apply j_exit) | (with_reducible apply j_label) | (with_reducible apply j_region_lit)
          | ((with_reducible refine j_true ?_ ?_); (focus rfl)) | ((with_reducible refine j_false ?_ ?_); (focus rfl))
          | (with_reducible show Then _ _ _ _ _ _; simp only [Then])
          | (with_reducible show InBlock _ _ _ _ _ _; simp only [InBlock, ↓reduceIte, Nat.reduceEqDiff]))
        exact body_run (.tuple #[.agg #[.int .u64 (Mem.e m), .int .u64 (Mem.f m), u2, u3, .int .u64 (Mem.h m), .int .u64 (Mem.t m), u6, u7, u8], .int .u64 was, .bool false]) rfl (by simp [results, go_sem, d2]) ⟨rfl, hb3, _, by rw [hact], by rw [hact]; exact hmM, fun g hg h => hfM g (by have := hb1.size; omega) h⟩
      · have hact : m.act 2 ar at_ old new = (m.put ar at_.toNat new, was, true) := by unfold Mem.act; rw [hat]; simp [hd]
        repeat (first
          | (with_reducible apply lst_nil)
          | ((with_reducible refine lst_unwanted ?_ ?_); (focus rfl); simp only [Act.put, List.setIfInBounds_toArray, List.set_cons_zero, List.set_cons_succ])
          | ((with_reducible refine lst_cons ?_ ?_ (fun K hK => ?_)); (focus rfl); (focus (intro ht; refine fine_none ?_ ht; (focus (first | (with_reducible apply only_idle); (focus decide) | (with_reducible apply only_turn); (focus rfl); (focus rfl); (focus kernel_rfl) | exact only_calc rfl rfl rfl | exact only_check rfl rfl)))); go_simp; refine hK _ _ _ ?_; clear hK K)
          | (with_reducible apply j_seq) | (with_reducible apply j_block) | (with_reducible apply j_ret) | (with_reducible apply j_skip) | (with_reducible apply j_exit) | (with_reducible apply j_label) | (with_reducible apply j_region_lit)
          | ((with_reducible refine j_true ?_ ?_); (focus rfl)) | ((with_reducible refine j_false ?_ ?_); (focus rfl))
          | (with_reducible show Then _ _ _ _ _ _; simp only [Then])
          | (with_reducible show InBlock _ _ _ _ _ _; simp only [InBlock, ↓reduceIte, Nat.reduceEqDiff]))
        refine lst_cons ?_ ?_ (fun K hK => ?_)
        focus rfl
        focus exact fun ht => fine_store rfl rfl dp (hoth _ (by first | omega | (dsimp only <;> omega))) ht
        go_simp
        refine hK _ _ _ ?_
        clear hK K
        obtain ⟨cN, hcN, hmN, hfN⟩ := hset new
        have hsz : (w'.setCell ⟨gp, op, none⟩ (.int .u64 new)).heap.size = w'.heap.size := size_setCell _ _ _
        have hb4 : Below w.heap.size w (w'.setCell ⟨gp, op, none⟩ (.int .u64 new)) := hb3.setCell (p := ⟨gp, op, none⟩) (by dsimp only; omega) _
        generalize hW2 : w'.setCell ⟨gp, op, none⟩ (.int .u64 new) = W2 at hcN hmN hsz hb4 ⊢
        rw [← hsz] at hmN
        have hmN' := hmN
        obtain ⟨x2, x3, x6, x7, x8, rfl, y2, y3, y6, y7, y8⟩ := hmN'
        clear d2
        have d2 := Blk.cell hcN
        repeat (first
          | (with_reducible apply lst_nil)
          | ((with_reducible refine lst_unwanted ?_ ?_); (focus rfl); simp only [Act.put, List.setIfInBounds_toArray, List.set_cons_zero, List.set_cons_succ])
          | ((with_reducible refine lst_cons ?_ ?_ (fun K hK => ?_)); (focus rfl); (focus (intro ht; refine fine_none ?_ ht; (focus (first | (with_reducible apply only_idle); (focus decide) | (with_reducible apply only_turn); (focus rfl); (focus rfl); (focus kernel_rfl) | exact only_calc rfl rfl rfl | exact only_check rfl rfl)))); go_simp; refine hK _ _ _ ?_; clear hK K)
          | (with_reducible apply j_seq) | (with_reducible apply j_block) | (with_reducible apply j_ret) | (with_reducible apply j_skip) | (with_reducible apply j_exit) | (with_reducible apply j_label) | (with_reducible apply j_region_lit)
          | ((with_reducible refine j_true ?_ ?_); (focus rfl)) | ((with_reducible refine j_false ?_ ?_); (focus rfl))
          | (with_reducible show Then _ _ _ _ _ _; simp only [Then])
          | (with_reducible show InBlock _ _ _ _ _ _; simp only [InBlock, ↓reduceIte, Nat.reduceEqDiff]))
        refine lst_one (one_store (v := .agg #[_, _, x2, x3, _, _, x6, x7, x8]) (cs' := #[_, _, x2, x3, _, _, x6, x7, x8]) rfl rfl rfl rfl hcN (hoth _ (by omega)) (by kernel_rfl) (Nat.le_of_ble_eq_true rfl) ?_ rfl ?_)
        focus
          obtain ⟨A2, k2, rfl, _⟩ := y2.form
          obtain ⟨A3, k3, rfl, _⟩ := y3.form
          obtain ⟨A6, k6, rfl, _⟩ := y6.form
          obtain ⟨A7, k7, rfl, _⟩ := y7.form
          obtain ⟨A8, k8, rfl, _⟩ := y8.form
          simp [Value.cells, Value.oneCell']
        rw [setRow_self _ _ _ _ _ hcN]
        simp only [Act.put, List.setIfInBounds_toArray, List.set_cons_zero, List.set_cons_succ]
        repeat (first
          | (with_reducible apply lst_nil)
          | ((with_reducible refine lst_unwanted ?_ ?_); (focus rfl); simp only [Act.put, List.setIfInBounds_toArray, List.set_cons_zero, List.set_cons_succ])
          | ((with_reducible refine lst_cons ?_ ?_ (fun K hK => ?_)); (focus rfl); (focus (intro ht; refine fine_none ?_ ht; (focus (first | (with_reducible apply only_idle); (focus decide) | (with_reducible apply only_turn); (focus rfl); (focus rfl); (focus kernel_rfl) | exact only_calc rfl rfl rfl | exact only_check rfl rfl)))); go_simp; refine hK _ _ _ ?_; clear hK K)
          | (with_reducible apply j_seq) | (with_reducible apply j_block) | (with_reducible apply j_ret) | (with_reducible apply j_skip) | (with_reducible apply j_exit) | (with_reducible apply j_label) | (with_reducible apply j_region_lit)
          | ((with_reducible refine j_true ?_ ?_); (focus rfl)) | ((with_reducible refine j_false ?_ ?_); (focus rfl))
          | (with_reducible show Then _ _ _ _ _ _; simp only [Then])
          | (with_reducible show InBlock _ _ _ _ _ _; simp only [InBlock, ↓reduceIte, Nat.reduceEqDiff]))
        exact body_run (.tuple #[.agg #[.int .u64 (Mem.e (m.put ar at_.toNat new)), .int .u64 (Mem.f (m.put ar at_.toNat new)), x2, x3, .int .u64 (Mem.h (m.put ar at_.toNat new)), .int .u64 (Mem.t (m.put ar at_.toNat new)), x6, x7, x8], .int .u64 was, .bool true]) rfl (by simp [results, go_sem, d2]) ⟨rfl, hb4, _, by rw [hact], by rw [hact]; exact hmN, fun g hg h => hfN g (by have := hb1.size; omega) h⟩
      · by_cases hwo : was = old
        · subst hwo
          have hact : m.act 3 ar at_ was new = (m.put ar at_.toNat new, was, true) := by unfold Mem.act; rw [hat]; simp [hd]
          repeat (first
            | (with_reducible apply lst_nil)
            | ((with_reducible refine lst_unwanted ?_ ?_); (focus rfl); simp only [Act.put, List.setIfInBounds_toArray, List.set_cons_zero, List.set_cons_succ])
            | ((with_reducible refine lst_cons ?_ ?_ (fun K hK => ?_)); (focus rfl); (focus (intro ht; refine fine_none ?_ ht; (focus (first | (with_reducible apply only_idle); (focus decide) | (with_reducible apply only_turn); (focus rfl); (focus rfl); (focus kernel_rfl) | exact only_calc rfl rfl rfl | exact only_check rfl rfl)))); go_simp; refine hK _ _ _ ?_; clear hK K)
            | (with_reducible apply j_seq) | (with_reducible apply j_block) | (with_reducible apply j_ret) | (with_reducible apply j_skip) | (with_reducible apply j_exit) | (with_reducible apply j_label) | (with_reducible apply j_region_lit)
            | ((with_reducible refine j_true ?_ ?_); (focus rfl)) | ((with_reducible refine j_false ?_ ?_); (focus rfl))
            | (with_reducible show Then _ _ _ _ _ _; simp only [Then])
            | (with_reducible show InBlock _ _ _ _ _ _; simp only [InBlock, ↓reduceIte, Nat.reduceEqDiff]))
          refine lst_cons ?_ ?_ (fun K hK => ?_)
          focus rfl
          focus exact fun ht => fine_store rfl rfl dp (hoth _ (by first | omega | (dsimp only <;> omega))) ht
          go_simp
          refine hK _ _ _ ?_
          clear hK K
          obtain ⟨cN, hcN, hmN, hfN⟩ := hset new
          have hsz : (w'.setCell ⟨gp, op, none⟩ (.int .u64 new)).heap.size = w'.heap.size := size_setCell _ _ _
          have hb4 : Below w.heap.size w (w'.setCell ⟨gp, op, none⟩ (.int .u64 new)) := hb3.setCell (p := ⟨gp, op, none⟩) (by dsimp only; omega) _
          generalize hW2 : w'.setCell ⟨gp, op, none⟩ (.int .u64 new) = W2 at hcN hmN hsz hb4 ⊢
          rw [← hsz] at hmN
          have hmN' := hmN
          obtain ⟨x2, x3, x6, x7, x8, rfl, y2, y3, y6, y7, y8⟩ := hmN'
          clear d2
          have d2 := Blk.cell hcN
          repeat (first
            | (with_reducible apply lst_nil)
            | ((with_reducible refine lst_unwanted ?_ ?_); (focus rfl); simp only [Act.put, List.setIfInBounds_toArray, List.set_cons_zero, List.set_cons_succ])
            | ((with_reducible refine lst_cons ?_ ?_ (fun K hK => ?_)); (focus rfl); (focus (intro ht; refine fine_none ?_ ht; (focus (first | (with_reducible apply only_idle); (focus decide) | (with_reducible apply only_turn); (focus rfl); (focus rfl); (focus kernel_rfl) | exact only_calc rfl rfl rfl | exact only_check rfl rfl)))); go_simp; refine hK _ _ _ ?_; clear hK K)
            | (with_reducible apply j_seq) | (with_reducible apply j_block) | (with_reducible apply j_ret) | (with_reducible apply j_skip) | (with_reducible apply j_exit) | (with_reducible apply j_label) | (with_reducible apply j_region_lit)
            | ((with_reducible refine j_true ?_ ?_); (focus rfl)) | ((with_reducible refine j_false ?_ ?_); (focus rfl))
            | (with_reducible show Then _ _ _ _ _ _; simp only [Then])
            | (with_reducible show InBlock _ _ _ _ _ _; simp only [InBlock, ↓reduceIte, Nat.reduceEqDiff]))
          refine lst_one (one_store (v := .agg #[_, _, x2, x3, _, _, x6, x7, x8]) (cs' := #[_, _, x2, x3, _, _, x6, x7, x8]) rfl rfl rfl rfl hcN (hoth _ (by omega)) (by kernel_rfl) (Nat.le_of_ble_eq_true rfl) ?_ rfl ?_)
          focus
            obtain ⟨A2, k2, rfl, _⟩ := y2.form
            obtain ⟨A3, k3, rfl, _⟩ := y3.form
            obtain ⟨A6, k6, rfl, _⟩ := y6.form
            obtain ⟨A7, k7, rfl, _⟩ := y7.form
            obtain ⟨A8, k8, rfl, _⟩ := y8.form
            simp [Value.cells, Value.oneCell']
          rw [setRow_self _ _ _ _ _ hcN]
          simp only [Act.put, List.setIfInBounds_toArray, List.set_cons_zero, List.set_cons_succ]
          repeat (first
            | (with_reducible apply lst_nil)
            | ((with_reducible refine lst_unwanted ?_ ?_); (focus rfl); simp only [Act.put, List.setIfInBounds_toArray, List.set_cons_zero, List.set_cons_succ])
            | ((with_reducible refine lst_cons ?_ ?_ (fun K hK => ?_)); (focus rfl); (focus (intro ht; refine fine_none ?_ ht; (focus (first | (with_reducible apply only_idle); (focus decide) | (with_reducible apply only_turn); (focus rfl); (focus rfl); (focus kernel_rfl) | exact only_calc rfl rfl rfl | exact only_check rfl rfl)))); go_simp; refine hK _ _ _ ?_; clear hK K)
            | (with_reducible apply j_seq) | (with_reducible apply j_block) | (with_reducible apply j_ret) | (with_reducible apply j_skip) | (with_reducible apply j_exit) | (with_reducible apply j_label) | (with_reducible apply j_region_lit)
            | ((with_reducible refine j_true ?_ ?_); (focus rfl)) | ((with_reducible refine j_false ?_ ?_); (focus rfl))
            | (with_reducible show Then _ _ _ _ _ _; simp only [Then])
            | (with_reducible show InBlock _ _ _ _ _ _; simp only [InBlock, ↓reduceIte, Nat.reduceEqDiff]))
          exact body_run (.tuple #[.agg #[.int .u64 (Mem.e (m.put ar at_.toNat new)), .int .u64 (Mem.f (m.put ar at_.toNat new)), x2, x3, .int .u64 (Mem.h (m.put ar at_.toNat new)), .int .u64 (Mem.t (m.put ar at_.toNat new)), x6, x7, x8], .int .u64 was, .bool true]) rfl (by simp [results, go_sem, d2]) ⟨rfl, hb4, _, by rw [hact], by rw [hact]; exact hmN, fun g hg h => hfN g (by have := hb1.size; omega) h⟩
        · have hb : (was != old) = true := by simpa using hwo
          have hact : m.act 3 ar at_ old new = (m, was, false) := by unfold Mem.act; rw [hat]; simp [hd, hwo]
          repeat (first
            | (with_reducible apply lst_nil)
            | ((with_reducible refine lst_unwanted ?_ ?_); (focus rfl); simp only [Act.put, List.setIfInBounds_toArray, List.set_cons_zero, List.set_cons_succ])
            | ((with_reducible refine lst_cons ?_ ?_ (fun K hK => ?_)); (focus rfl); (focus (intro ht; refine fine_none ?_ ht; (focus (first | (with_reducible apply only_idle); (focus decide) | (with_reducible apply only_turn); (focus rfl); (focus rfl); (focus kernel_rfl) | exact only_calc rfl rfl rfl | exact only_check rfl rfl)))); go_simp; refine hK _ _ _ ?_; clear hK K)
            | (with_reducible apply j_seq) | (with_reducible apply j_block) | (with_reducible apply j_ret) | (with_reducible apply j_skip) | (with_reducible apply j_exit) | (with_reducible apply j_label) | (with_reducible apply j_region_lit)
            | ((with_reducible refine j_true ?_ ?_); (focus rfl)) | ((with_reducible refine j_false ?_ ?_); (focus rfl))
            | (with_reducible show Then _ _ _ _ _ _; simp only [Then])
            | (with_reducible show InBlock _ _ _ _ _ _; simp only [InBlock, ↓reduceIte, Nat.reduceEqDiff]))
          refine lst_one (one_store (v := .agg #[.int .u64 m.e, .int .u64 m.f, v2, v3, .int .u64 m.h, .int .u64 m.t, v6, v7, v8]) (cs' := #[.int .u64 m.e, .int .u64 m.f, v2, v3, .int .u64 m.h, .int .u64 m.t, v6, v7, v8]) rfl rfl rfl rfl hcM (hoth _ (by omega)) (by kernel_rfl) (Nat.le_of_ble_eq_true rfl) hone rfl ?_)
          simp only [Act.put, List.setIfInBounds_toArray, List.set_cons_zero, List.set_cons_succ]
          generalize hW2 : w'.setRow (w.heap.size + 1 + 1) #[.int .u64 m.e, .int .u64 m.f, v2, v3, .int .u64 m.h, .int .u64 m.t, v6, v7, v8] = W2
          have f2 : Blk W2 (w.heap.size + 1 + 1) _ _ := hW2 ▸ hcM.row _
          have hb4 : Below w.heap.size w W2 := hW2 ▸ Below_row hb3 _ (by omega)
          clear d2
          have d2 := f2.cell
          repeat (first
            | (with_reducible apply lst_nil)
            | ((with_reducible refine lst_unwanted ?_ ?_); (focus rfl); simp only [Act.put, List.setIfInBounds_toArray, List.set_cons_zero, List.set_cons_succ])
            | ((with_reducible refine lst_cons ?_ ?_ (fun K hK => ?_)); (focus rfl); (focus (intro ht; refine fine_none ?_ ht; (focus (first | (with_reducible apply only_idle); (focus decide) | (with_reducible apply only_turn); (focus rfl); (focus rfl); (focus kernel_rfl) | exact only_calc rfl rfl rfl | exact only_check rfl rfl)))); go_simp; refine hK _ _ _ ?_; clear hK K)
            | (with_reducible apply j_seq) | (with_reducible apply j_block) | (with_reducible apply j_ret) | (with_reducible apply j_skip) | (with_reducible apply j_exit) | (with_reducible apply j_label) | (with_reducible apply j_region_lit)
            | ((with_reducible refine j_true ?_ ?_); (focus rfl)) | ((with_reducible refine j_false ?_ ?_); (focus rfl))
            | (with_reducible show Then _ _ _ _ _ _; simp only [Then])
            | (with_reducible show InBlock _ _ _ _ _ _; simp only [InBlock, ↓reduceIte, Nat.reduceEqDiff]))
          exact body_run (.tuple #[.agg #[.int .u64 m.e, .int .u64 m.f, v2, v3, .int .u64 m.h, .int .u64 m.t, v6, v7, v8], .int .u64 was, .bool false]) rfl (by simp [results, go_sem, d2]) ⟨rfl, hb4, _, by rw [hact], by rw [hact]; exact MemC.more (B' := W2.heap.size) (hm0.below (hb4.mono hB)) (by have := f2.lt; omega), Far.refl _ _⟩

theorem act {B : Nat} {m : Mem} {v : Value} {d ar at_ old new : Int} (hm : MemV w B m v) (hB : B ≤ w.heap.size) (hsm : m.small) :
    Jdo Try.prog X 10 #[v, .agg (acc d ar at_ old new)] s w fun s' r w' => s' = s ∧ Below w.heap.size w w' ∧
      ∃ v', r = .back (.tuple #[v', .int .u64 (m.act d ar at_ old new).2.1, .bool (m.act d ar at_ old new).2.2]) ∧ MemV w' w'.heap.size (m.act d ar at_ old new).1 v' := by
  obtain ⟨cs, rfl, hm⟩ := hm
  exact (act2 hm hB hsm).mono fun s' r w' ⟨h1, h2, cs', h3, h4, _⟩ => ⟨h1, h2, _, h3, cs', rfl, h4⟩
end
end Go.Proofs.Ytonhfgjofgbcdaa.St
