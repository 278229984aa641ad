/- Package shuntingref02: areas, comparisons, walked. -/
import Derived.Test.YtonhfgjofgbcdaaStNew
namespace Go.Proofs.Ytonhfgjofgbcdaa.Rf
set_option linter.unusedSimpArgs false
set_option linter.unusedVariables false
set_option maxRecDepth 20000
open Go Go.Conc Go.RowKit Go.Proofs.Ytonhfgjofgbcdaa.Jay Go.Proofs.Ytonhfgjofgbcdaa.Pl
open Go.Proofs.Ytonhfgjofgbcdaa.St
section
variable {γ : Type} {X : Turns γ} {s : γ} {w : World}
attribute [local go_sem] upon_value upon_skip

/-- What 'Area' tells. -/
def AreaPost (s : γ) (w : World) (m : Mem) (a : Int) (s' : γ) (r : Came) (w' : World) : Prop := s' = s ∧ Below w.heap.size w w' ∧ ∃ v, r = .back v ∧ Us w' w'.heap.size v (m.area a)


theorem area_1 {B : Nat} {m : Mem} {v : Value} (hm : MemV w B m v) (hB : B ≤ w.heap.size) : Jdo Try.prog X 12 #[v, .int .i64 1] s w (AreaPost s w m 1) := by
  obtain ⟨cs, rfl, v2, v3, v6, v7, v8, rfl, h2, h3, h6, h7, h8⟩ := hm
  refine jdo_of Try.func12 rfl ?_
  simp only [Try.ntmps12, List.size_toArray, List.length_cons, List.length_nil, Nat.reduceAdd, Nat.reduceSub, Array.replicate_succ, Array.replicate_zero, List.push_toArray, List.append_toArray, List.nil_append, List.cons_append]
  repeat (first
    | (with_reducible apply j_seq) | (with_reducible apply j_block) | (with_reducible apply j_ret) | (with_reducible apply j_skip) | (with_reducible apply j_exit) | (with_reducible apply j_label) | (with_reducible apply j_region_lit) | (with_reducible apply lst_nil)
    | ((with_reducible refine lst_unwanted ?_ ?_); (focus rfl); simp only [Act.put, List.setIfInBounds_toArray, List.set_cons_zero, List.set_cons_succ])
    | ((with_reducible refine lst_cons ?_ ?_ (fun K hK => ?_)); (focus rfl); (focus (intro ht; refine fine_none ?_ ht; (focus (first | (with_reducible apply only_idle); (focus decide) | (with_reducible apply only_turn); (focus rfl); (focus rfl); (focus kernel_rfl) | exact only_calc rfl rfl rfl | exact only_check rfl rfl)))); go_simp; refine hK _ _ _ ?_; clear hK K)
    | ((with_reducible refine j_true ?_ ?_); (focus rfl)) | ((with_reducible refine j_false ?_ ?_); (focus rfl))
    | (with_reducible show Then _ _ _ _ _ _; simp only [Then])
    | (with_reducible show InBlock _ _ _ _ _ _; simp only [InBlock, ↓reduceIte, Nat.reduceEqDiff]))
  refine body_ret1 rfl rfl ⟨rfl, ((Below.refl _ _).alloc (Nat.le_refl _) _).alloc (by simp) _, _, rfl, ?_⟩
  exact us_of_row (xs := [m.e]) (cap := 1) (Blk.new1 w _ 22 #[.int .u64 m.e]) (Nat.le_refl _) (by unfold maxLen; omega) rfl rfl (by simp)

theorem area_2 {B : Nat} {m : Mem} {v : Value} (hm : MemV w B m v) (hB : B ≤ w.heap.size) : Jdo Try.prog X 12 #[v, .int .i64 2] s w (AreaPost s w m 2) := by
  obtain ⟨cs, rfl, v2, v3, v6, v7, v8, rfl, h2, h3, h6, h7, h8⟩ := hm
  refine jdo_of Try.func12 rfl ?_
  simp only [Try.ntmps12, List.size_toArray, List.length_cons, List.length_nil, Nat.reduceAdd, Nat.reduceSub, Array.replicate_succ, Array.replicate_zero, List.push_toArray, List.append_toArray, List.nil_append, List.cons_append]
  repeat (first
    | (with_reducible apply j_seq) | (with_reducible apply j_block) | (with_reducible apply j_ret) | (with_reducible apply j_skip) | (with_reducible apply j_exit) | (with_reducible apply j_label) | (with_reducible apply j_region_lit) | (with_reducible apply lst_nil)
    | ((with_reducible refine lst_unwanted ?_ ?_); (focus rfl); simp only [Act.put, List.setIfInBounds_toArray, List.set_cons_zero, List.set_cons_succ])
    | ((with_reducible refine lst_cons ?_ ?_ (fun K hK => ?_)); (focus rfl); (focus (intro ht; refine fine_none ?_ ht; (focus (first | (with_reducible apply only_idle); (focus decide) | (with_reducible apply only_turn); (focus rfl); (focus rfl); (focus kernel_rfl) | exact only_calc rfl rfl rfl | exact only_check rfl rfl)))); go_simp; refine hK _ _ _ ?_; clear hK K)
    | ((with_reducible refine j_true ?_ ?_); (focus rfl)) | ((with_reducible refine j_false ?_ ?_); (focus rfl))
    | (with_reducible show Then _ _ _ _ _ _; simp only [Then])
    | (with_reducible show InBlock _ _ _ _ _ _; simp only [InBlock, ↓reduceIte, Nat.reduceEqDiff]))
  refine body_ret1 rfl rfl ⟨rfl, ((Below.refl _ _).alloc (Nat.le_refl _) _).alloc (by simp) _, _, rfl, ?_⟩
  exact us_of_row (xs := [m.f]) (cap := 1) (Blk.new1 w _ 22 #[.int .u64 m.f]) (Nat.le_refl _) (by unfold maxLen; omega) rfl rfl (by simp)

theorem area_3 {B : Nat} {m : Mem} {v : Value} (hm : MemV w B m v) (hB : B ≤ w.heap.size) : Jdo Try.prog X 12 #[v, .int .i64 3] s w (AreaPost s w m 3) := by
  obtain ⟨cs, rfl, v2, v3, v6, v7, v8, rfl, h2, h3, h6, h7, h8⟩ := hm
  refine jdo_of Try.func12 rfl ?_
  simp only [Try.ntmps12, List.size_toArray, List.length_cons, List.length_nil, Nat.reduceAdd, Nat.reduceSub, Array.replicate_succ, Array.replicate_zero, List.push_toArray, List.append_toArray, List.nil_append, List.cons_append]
  repeat (first
    | (with_reducible apply j_seq) | (with_reducible apply j_block) | (with_reducible apply j_ret) | (with_reducible apply j_skip) | (with_reducible apply j_exit) | (with_reducible apply j_label) | (with_reducible apply j_region_lit) | (with_reducible apply lst_nil)
    | ((with_reducible refine lst_unwanted ?_ ?_); (focus rfl); simp only [Act.put, List.setIfInBounds_toArray, List.set_cons_zero, List.set_cons_succ])
    | ((with_reducible refine lst_cons ?_ ?_ (fun K hK => ?_)); (focus rfl); (focus (intro ht; refine fine_none ?_ ht; (focus (first | (with_reducible apply only_idle); (focus decide) | (with_reducible apply only_turn); (focus rfl); (focus rfl); (focus kernel_rfl) | exact only_calc rfl rfl rfl | exact only_check rfl rfl)))); go_simp; refine hK _ _ _ ?_; clear hK K)
    | ((with_reducible refine j_true ?_ ?_); (focus rfl)) | ((with_reducible refine j_false ?_ ?_); (focus rfl))
    | (with_reducible show Then _ _ _ _ _ _; simp only [Then])
    | (with_reducible show InBlock _ _ _ _ _ _; simp only [InBlock, ↓reduceIte, Nat.reduceEqDiff]))
  exact body_ret1 rfl rfl ⟨rfl, (Below.refl _ _).alloc (Nat.le_refl _) _, _, rfl, Sl.more (Sl.alloc h2 hB _) (by simp <;> omega)⟩

theorem area_4 {B : Nat} {m : Mem} {v : Value} (hm : MemV w B m v) (hB : B ≤ w.heap.size) : Jdo Try.prog X 12 #[v, .int .i64 4] s w (AreaPost s w m 4) := by
  obtain ⟨cs, rfl, v2, v3, v6, v7, v8, rfl, h2, h3, h6, h7, h8⟩ := hm
  refine jdo_of Try.func12 rfl ?_
  simp only [Try.ntmps12, List.size_toArray, List.length_cons, List.length_nil, Nat.reduceAdd, Nat.reduceSub, Array.replicate_succ, Array.replicate_zero, List.push_toArray, List.append_toArray, List.nil_append, List.cons_append]
  repeat (first
    | (with_reducible apply j_seq) | (with_reducible apply j_block) | (with_reducible apply j_ret) | (with_reducible apply j_skip) | (with_reducible apply j_exit) | (with_reducible apply j_label) | (with_reducible apply j_region_lit) | (with_reducible apply lst_nil)
    | ((with_reducible refine lst_unwanted ?_ ?_); (focus rfl); simp only [Act.put, List.setIfInBounds_toArray, List.set_cons_zero, List.set_cons_succ])
    | ((with_reducible refine lst_cons ?_ ?_ (fun K hK => ?_)); (focus rfl); (focus (intro ht; refine fine_none ?_ ht; (focus (first | (with_reducible apply only_idle); (focus decide) | (with_reducible apply only_turn); (focus rfl); (focus rfl); (focus kernel_rfl) | exact only_calc rfl rfl rfl | exact only_check rfl rfl)))); go_simp; refine hK _ _ _ ?_; clear hK K)
    | ((with_reducible refine j_true ?_ ?_); (focus rfl)) | ((with_reducible refine j_false ?_ ?_); (focus rfl))
    | (with_reducible show Then _ _ _ _ _ _; simp only [Then])
    | (with_reducible show InBlock _ _ _ _ _ _; simp only [InBlock, ↓reduceIte, Nat.reduceEqDiff]))
  exact body_ret1 rfl rfl ⟨rfl, (Below.refl _ _).alloc (Nat.le_refl _) _, _, rfl, Sl.more (Sl.alloc h3 hB _) (by simp <;> omega)⟩

theorem area_5 {B : Nat} {m : Mem} {v : Value} (hm : MemV w B m v) (hB : B ≤ w.heap.size) : Jdo Try.prog X 12 #[v, .int .i64 5] s w (AreaPost s w m 5) := by
  obtain ⟨cs, rfl, v2, v3, v6, v7, v8, rfl, h2, h3, h6, h7, h8⟩ := hm
  refine jdo_of Try.func12 rfl ?_
  simp only [Try.ntmps12, List.size_toArray, List.length_cons, List.length_nil, Nat.reduceAdd, Nat.reduceSub, Array.replicate_succ, Array.replicate_zero, List.push_toArray, List.append_toArray, List.nil_append, List.cons_append]
  repeat (first
    | (with_reducible apply j_seq) | (with_reducible apply j_block) | (with_reducible apply j_ret) | (with_reducible apply j_skip) | (with_reducible apply j_exit) | (with_reducible apply j_label) | (with_reducible apply j_region_lit) | (with_reducible apply lst_nil)
    | ((with_reducible refine lst_unwanted ?_ ?_); (focus rfl); simp only [Act.put, List.setIfInBounds_toArray, List.set_cons_zero, List.set_cons_succ])
    | ((with_reducible refine lst_cons ?_ ?_ (fun K hK => ?_)); (focus rfl); (focus (intro ht; refine fine_none ?_ ht; (focus (first | (with_reducible apply only_idle); (focus decide) | (with_reducible apply only_turn); (focus rfl); (focus rfl); (focus kernel_rfl) | exact only_calc rfl rfl rfl | exact only_check rfl rfl)))); go_simp; refine hK _ _ _ ?_; clear hK K)
    | ((with_reducible refine j_true ?_ ?_); (focus rfl)) | ((with_reducible refine j_false ?_ ?_); (focus rfl))
    | (with_reducible show Then _ _ _ _ _ _; simp only [Then])
    | (with_reducible show InBlock _ _ _ _ _ _; simp only [InBlock, ↓reduceIte, Nat.reduceEqDiff]))
  refine body_ret1 rfl rfl ⟨rfl, ((Below.refl _ _).alloc (Nat.le_refl _) _).alloc (by simp) _, _, rfl, ?_⟩
  exact us_of_row (xs := [m.h]) (cap := 1) (Blk.new1 w _ 22 #[.int .u64 m.h]) (Nat.le_refl _) (by unfold maxLen; omega) rfl rfl (by simp)

theorem area_6 {B : Nat} {m : Mem} {v : Value} (hm : MemV w B m v) (hB : B ≤ w.heap.size) : Jdo Try.prog X 12 #[v, .int .i64 6] s w (AreaPost s w m 6) := by
  obtain ⟨cs, rfl, v2, v3, v6, v7, v8, rfl, h2, h3, h6, h7, h8⟩ := hm
  refine jdo_of Try.func12 rfl ?_
  simp only [Try.ntmps12, List.size_toArray, List.length_cons, List.length_nil, Nat.reduceAdd, Nat.reduceSub, Array.replicate_succ, Array.replicate_zero, List.push_toArray, List.append_toArray, List.nil_append, List.cons_append]
  repeat (first
    | (with_reducible apply j_seq) | (with_reducible apply j_block) | (with_reducible apply j_ret) | (with_reducible apply j_skip) | (with_reducible apply j_exit) | (with_reducible apply j_label) | (with_reducible apply j_region_lit) | (with_reducible apply lst_nil)
    | ((with_reducible refine lst_unwanted ?_ ?_); (focus rfl); simp only [Act.put, List.setIfInBounds_toArray, List.set_cons_zero, List.set_cons_succ])
    | ((with_reducible refine lst_cons ?_ ?_ (fun K hK => ?_)); (focus rfl); (focus (intro ht; refine fine_none ?_ ht; (focus (first | (with_reducible apply only_idle); (focus decide) | (with_reducible apply only_turn); (focus rfl); (focus rfl); (focus kernel_rfl) | exact only_calc rfl rfl rfl | exact only_check rfl rfl)))); go_simp; refine hK _ _ _ ?_; clear hK K)
    | ((with_reducible refine j_true ?_ ?_); (focus rfl)) | ((with_reducible refine j_false ?_ ?_); (focus rfl))
    | (with_reducible show Then _ _ _ _ _ _; simp only [Then])
    | (with_reducible show InBlock _ _ _ _ _ _; simp only [InBlock, ↓reduceIte, Nat.reduceEqDiff]))
  refine body_ret1 rfl rfl ⟨rfl, ((Below.refl _ _).alloc (Nat.le_refl _) _).alloc (by simp) _, _, rfl, ?_⟩
  exact us_of_row (xs := [m.t]) (cap := 1) (Blk.new1 w _ 22 #[.int .u64 m.t]) (Nat.le_refl _) (by unfold maxLen; omega) rfl rfl (by simp)

theorem area_7 {B : Nat} {m : Mem} {v : Value} (hm : MemV w B m v) (hB : B ≤ w.heap.size) : Jdo Try.prog X 12 #[v, .int .i64 7] s w (AreaPost s w m 7) := by
  obtain ⟨cs, rfl, v2, v3, v6, v7, v8, rfl, h2, h3, h6, h7, h8⟩ := hm
  refine jdo_of Try.func12 rfl ?_
  simp only [Try.ntmps12, List.size_toArray, List.length_cons, List.length_nil, Nat.reduceAdd, Nat.reduceSub, Array.replicate_succ, Array.replicate_zero, List.push_toArray, List.append_toArray, List.nil_append, List.cons_append]
  repeat (first
    | (with_reducible apply j_seq) | (with_reducible apply j_block) | (with_reducible apply j_ret) | (with_reducible apply j_skip) | (with_reducible apply j_exit) | (with_reducible apply j_label) | (with_reducible apply j_region_lit) | (with_reducible apply lst_nil)
    | ((with_reducible refine lst_unwanted ?_ ?_); (focus rfl); simp only [Act.put, List.setIfInBounds_toArray, List.set_cons_zero, List.set_cons_succ])
    | ((with_reducible refine lst_cons ?_ ?_ (fun K hK => ?_)); (focus rfl); (focus (intro ht; refine fine_none ?_ ht; (focus (first | (with_reducible apply only_idle); (focus decide) | (with_reducible apply only_turn); (focus rfl); (focus rfl); (focus kernel_rfl) | exact only_calc rfl rfl rfl | exact only_check rfl rfl)))); go_simp; refine hK _ _ _ ?_; clear hK K)
    | ((with_reducible refine j_true ?_ ?_); (focus rfl)) | ((with_reducible refine j_false ?_ ?_); (focus rfl))
    | (with_reducible show Then _ _ _ _ _ _; simp only [Then])
    | (with_reducible show InBlock _ _ _ _ _ _; simp only [InBlock, ↓reduceIte, Nat.reduceEqDiff]))
  exact body_ret1 rfl rfl ⟨rfl, (Below.refl _ _).alloc (Nat.le_refl _) _, _, rfl, Sl.more (Sl.alloc h6 hB _) (by simp <;> omega)⟩

theorem area_8 {B : Nat} {m : Mem} {v : Value} (hm : MemV w B m v) (hB : B ≤ w.heap.size) : Jdo Try.prog X 12 #[v, .int .i64 8] s w (AreaPost s w m 8) := by
  obtain ⟨cs, rfl, v2, v3, v6, v7, v8, rfl, h2, h3, h6, h7, h8⟩ := hm
  refine jdo_of Try.func12 rfl ?_
  simp only [Try.ntmps12, List.size_toArray, List.length_cons, List.length_nil, Nat.reduceAdd, Nat.reduceSub, Array.replicate_succ, Array.replicate_zero, List.push_toArray, List.append_toArray, List.nil_append, List.cons_append]
  repeat (first
    | (with_reducible apply j_seq) | (with_reducible apply j_block) | (with_reducible apply j_ret) | (with_reducible apply j_skip) | (with_reducible apply j_exit) | (with_reducible apply j_label) | (with_reducible apply j_region_lit) | (with_reducible apply lst_nil)
    | ((with_reducible refine lst_unwanted ?_ ?_); (focus rfl); simp only [Act.put, List.setIfInBounds_toArray, List.set_cons_zero, List.set_cons_succ])
    | ((with_reducible refine lst_cons ?_ ?_ (fun K hK => ?_)); (focus rfl); (focus (intro ht; refine fine_none ?_ ht; (focus (first | (with_reducible apply only_idle); (focus decide) | (with_reducible apply only_turn); (focus rfl); (focus rfl); (focus kernel_rfl) | exact only_calc rfl rfl rfl | exact only_check rfl rfl)))); go_simp; refine hK _ _ _ ?_; clear hK K)
    | ((with_reducible refine j_true ?_ ?_); (focus rfl)) | ((with_reducible refine j_false ?_ ?_); (focus rfl))
    | (with_reducible show Then _ _ _ _ _ _; simp only [Then])
    | (with_reducible show InBlock _ _ _ _ _ _; simp only [InBlock, ↓reduceIte, Nat.reduceEqDiff]))
  exact body_ret1 rfl rfl ⟨rfl, (Below.refl _ _).alloc (Nat.le_refl _) _, _, rfl, Sl.more (Sl.alloc h7 hB _) (by simp <;> omega)⟩

theorem area_9 {B : Nat} {m : Mem} {v : Value} (hm : MemV w B m v) (hB : B ≤ w.heap.size) : Jdo Try.prog X 12 #[v, .int .i64 9] s w (AreaPost s w m 9) := by
  obtain ⟨cs, rfl, v2, v3, v6, v7, v8, rfl, h2, h3, h6, h7, h8⟩ := hm
  refine jdo_of Try.func12 rfl ?_
  simp only [Try.ntmps12, List.size_toArray, List.length_cons, List.length_nil, Nat.reduceAdd, Nat.reduceSub, Array.replicate_succ, Array.replicate_zero, List.push_toArray, List.append_toArray, List.nil_append, List.cons_append]
  repeat (first
    | (with_reducible apply j_seq) | (with_reducible apply j_block) | (with_reducible apply j_ret) | (with_reducible apply j_skip) | (with_reducible apply j_exit) | (with_reducible apply j_label) | (with_reducible apply j_region_lit) | (with_reducible apply lst_nil)
    | ((with_reducible refine lst_unwanted ?_ ?_); (focus rfl); simp only [Act.put, List.setIfInBounds_toArray, List.set_cons_zero, List.set_cons_succ])
    | ((with_reducible refine lst_cons ?_ ?_ (fun K hK => ?_)); (focus rfl); (focus (intro ht; refine fine_none ?_ ht; (focus (first | (with_reducible apply only_idle); (focus decide) | (with_reducible apply only_turn); (focus rfl); (focus rfl); (focus kernel_rfl) | exact only_calc rfl rfl rfl | exact only_check rfl rfl)))); go_simp; refine hK _ _ _ ?_; clear hK K)
    | ((with_reducible refine j_true ?_ ?_); (focus rfl)) | ((with_reducible refine j_false ?_ ?_); (focus rfl))
    | (with_reducible show Then _ _ _ _ _ _; simp only [Then])
    | (with_reducible show InBlock _ _ _ _ _ _; simp only [InBlock, ↓reduceIte, Nat.reduceEqDiff]))
  exact body_ret1 rfl rfl ⟨rfl, (Below.refl _ _).alloc (Nat.le_refl _) _, _, rfl, Sl.more (Sl.alloc h8 hB _) (by simp <;> omega)⟩

theorem area_none {B : Nat} {m : Mem} {v : Value} {a : Int} (hm : MemV w B m v) (hB : B ≤ w.heap.size) (c : ∀ k : Int, 1 ≤ k → k ≤ 9 → a ≠ k) : Jdo Try.prog X 12 #[v, .int .i64 a] s w (AreaPost s w m a) := by
  obtain ⟨cs, rfl, v2, v3, v6, v7, v8, rfl, h2, h3, h6, h7, h8⟩ := hm
  have c1 := c 1 (by decide) (by decide); have c2 := c 2 (by decide) (by decide); have c3 := c 3 (by decide) (by decide); have c4 := c 4 (by decide) (by decide); have c5 := c 5 (by decide) (by decide); have c6 := c 6 (by decide) (by decide); have c7 := c 7 (by decide) (by decide); have c8 := c 8 (by decide) (by decide); have c9 := c 9 (by decide) (by decide)
  clear c
  have hk : ∀ k : Int, k = 1 ∨ k = 2 ∨ k = 3 ∨ k = 4 ∨ k = 5 ∨ k = 6 ∨ k = 7 ∨ k = 8 ∨ k = 9 → (a == k) = false := by
    rintro k hk
    simp only [beq_eq_false_iff_ne, ne_eq]
    omega
  have e1 := hk 1 (by decide); have e2 := hk 2 (by decide); have e3 := hk 3 (by decide); have e4 := hk 4 (by decide); have e5 := hk 5 (by decide); have e6 := hk 6 (by decide); have e7 := hk 7 (by decide); have e8 := hk 8 (by decide); have e9 := hk 9 (by decide)
  clear hk
  refine jdo_of Try.func12 rfl ?_
  simp only [Try.ntmps12, List.size_toArray, List.length_cons, List.length_nil, Nat.reduceAdd, Nat.reduceSub, Array.replicate_succ, Array.replicate_zero, List.push_toArray, List.append_toArray, List.nil_append, List.cons_append]
  repeat (first
    | (with_reducible apply j_seq) | (with_reducible apply j_block) | (with_reducible apply j_ret) | (with_reducible apply j_skip) | (with_reducible apply j_exit) | (with_reducible apply j_label) | (with_reducible apply j_region_lit) | (with_reducible apply lst_nil)
    | ((with_reducible refine lst_unwanted ?_ ?_); (focus rfl); simp only [Act.put, List.setIfInBounds_toArray, List.set_cons_zero, List.set_cons_succ])
    | ((with_reducible refine lst_cons ?_ ?_ (fun K hK => ?_)); (focus rfl); (focus (intro ht; refine fine_none ?_ ht; (focus (first | (with_reducible apply only_idle); (focus decide) | (with_reducible apply only_turn); (focus rfl); (focus rfl); (focus kernel_rfl) | exact only_calc rfl rfl rfl | exact only_check rfl rfl)))); go_simp; refine hK _ _ _ ?_; clear hK K)
    | ((with_reducible refine j_true ?_ ?_); (focus rfl)) | ((with_reducible refine j_false ?_ ?_); (focus rfl))
    | (with_reducible show Then _ _ _ _ _ _; simp only [Then])
    | (with_reducible show InBlock _ _ _ _ _ _; simp only [InBlock, ↓reduceIte, Nat.reduceEqDiff]))
  refine body_ret1 rfl rfl ⟨rfl, (Below.refl _ _).alloc (Nat.le_refl _) _, _, rfl, ?_⟩
  unfold Mem.area
  rw [if_neg c1, if_neg c2, if_neg c3, if_neg c4, if_neg c5, if_neg c6, if_neg c7, if_neg c8, if_neg c9]
  exact Sl.nil _ _ _

theorem area {B : Nat} {m : Mem} {v : Value} {a : Int} (hm : MemV w B m v) (hB : B ≤ w.heap.size) : Jdo Try.prog X 12 #[v, .int .i64 a] s w (AreaPost s w m a) := by
  by_cases c1 : a = 1
  · subst c1; exact area_1 hm hB
  by_cases c2 : a = 2
  · subst c2; exact area_2 hm hB
  by_cases c3 : a = 3
  · subst c3; exact area_3 hm hB
  by_cases c4 : a = 4
  · subst c4; exact area_4 hm hB
  by_cases c5 : a = 5
  · subst c5; exact area_5 hm hB
  by_cases c6 : a = 6
  · subst c6; exact area_6 hm hB
  by_cases c7 : a = 7
  · subst c7; exact area_7 hm hB
  by_cases c8 : a = 8
  · subst c8; exact area_8 hm hB
  by_cases c9 : a = 9
  · subst c9; exact area_9 hm hB
  exact area_none hm hB fun k h1 h2 => by omega
end
end Go.Proofs.Ytonhfgjofgbcdaa.Rf
