/- Package store, walked. -/
import Derived.Test.YtonhfgjofgbcdaaProg
import Derived.Test.YtonhfgjofgbcdaaDraw
import Derived.Test.YtonhfgjofgbcdaaRow
import Derived.Test.YtonhfgjofgbcdaaPlain
import Derived.KernelRfl
namespace Go.Proofs.Ytonhfgjofgbcdaa.St
set_option linter.unusedSimpArgs false
set_option linter.unusedVariables false
set_option maxRecDepth 20000
open Go Go.Conc Go.RowKit Go.Proofs.Ytonhfgjofgbcdaa.Jay Go.Proofs.Ytonhfgjofgbcdaa.Pl
section
variable {γ : Type} {X : Turns γ} {s : γ} {w : World}
attribute [local go_sem] upon_value upon_skip

def inB (x l h : Int) : Bool := decide (l ≤ x) && decide (x ≤ h)
theorem within (x l h : Int) : Jdo Try.prog X 24 #[.int .i64 x, .int .i64 l, .int .i64 h] s w fun s' r w' => s' = s ∧ w' = w ∧ r = .back (.bool (inB x l h)) := by
  unfold inB
  by_cases c : l ≤ x
  · have c1 : decide (l ≤ x) = true := decide_eq_true c
    refine jdo_of Try.func24 rfl ?_
    simp only [Try.ntmps24, List.size_toArray, List.length_cons, List.length_nil, Nat.reduceAdd, Nat.reduceSub, Array.replicate_succ, Array.replicate_zero, List.push_toArray, List.append_toArray, List.nil_append, List.cons_append]
    repeat (first
      | (with_reducible apply j_seq) | (with_reducible apply j_block) | (with_reducible apply j_ret) | (with_reducible apply j_skip) | (with_reducible apply j_exit) | (with_reducible apply j_label) | (with_reducible apply j_region_lit) | (with_reducible apply lst_nil)
      | ((with_reducible refine lst_unwanted ?_ ?_); (focus rfl); simp only [Act.put, List.setIfInBounds_toArray, List.set_cons_zero, List.set_cons_succ])
      | ((with_reducible refine lst_cons ?_ ?_ (fun K hK => ?_)); (focus rfl); (focus (intro ht; refine fine_none ?_ ht; (focus (first | (with_reducible apply only_idle); (focus decide) | (with_reducible apply only_turn); (focus rfl); (focus rfl); (focus kernel_rfl) | exact only_calc rfl rfl rfl | exact only_check rfl rfl)))); go_simp; refine hK _ _ _ ?_; clear hK K)
      | ((with_reducible refine j_true ?_ ?_); (focus rfl)) | ((with_reducible refine j_false ?_ ?_); (focus rfl))
      | (with_reducible show Then _ _ _ _ _ _; simp only [Then])
      | (with_reducible show InBlock _ _ _ _ _ _; simp only [InBlock, ↓reduceIte, Nat.reduceEqDiff]))
    exact body_ret1 rfl rfl ⟨rfl, rfl, by simp [c]⟩
  · have c1 : decide (l ≤ x) = false := decide_eq_false c
    refine jdo_of Try.func24 rfl ?_
    simp only [Try.ntmps24, List.size_toArray, List.length_cons, List.length_nil, Nat.reduceAdd, Nat.reduceSub, Array.replicate_succ, Array.replicate_zero, List.push_toArray, List.append_toArray, List.nil_append, List.cons_append]
    repeat (first
      | (with_reducible apply j_seq) | (with_reducible apply j_block) | (with_reducible apply j_ret) | (with_reducible apply j_skip) | (with_reducible apply j_exit) | (with_reducible apply j_label) | (with_reducible apply j_region_lit) | (with_reducible apply lst_nil)
      | ((with_reducible refine lst_unwanted ?_ ?_); (focus rfl); simp only [Act.put, List.setIfInBounds_toArray, List.set_cons_zero, List.set_cons_succ])
      | ((with_reducible refine lst_cons ?_ ?_ (fun K hK => ?_)); (focus rfl); (focus (intro ht; refine fine_none ?_ ht; (focus (first | (with_reducible apply only_idle); (focus decide) | (with_reducible apply only_turn); (focus rfl); (focus rfl); (focus kernel_rfl) | exact only_calc rfl rfl rfl | exact only_check rfl rfl)))); go_simp; refine hK _ _ _ ?_; clear hK K)
      | ((with_reducible refine j_true ?_ ?_); (focus rfl)) | ((with_reducible refine j_false ?_ ?_); (focus rfl))
      | (with_reducible show Then _ _ _ _ _ _; simp only [Then])
      | (with_reducible show InBlock _ _ _ _ _ _; simp only [InBlock, ↓reduceIte, Nat.reduceEqDiff]))
    exact body_ret1 rfl rfl ⟨rfl, rfl, by simp [c]⟩

def cfg (k K T M : Int) : Value := .agg #[.int .i64 k, .int .i64 K, .int .i64 T, .int .i64 M]
def mayB (k K T M : Int) : Bool := inB k 1 3 && inB K 1 64 && inB T 1 8 && inB M 2 64

theorem may (k K T M : Int) : Jdo Try.prog X 15 #[cfg k K T M] s w fun s' r w' => s' = s ∧ Below w.heap.size w w' ∧ r = .back (.bool (mayB k K T M)) := by
  unfold cfg
  refine jdo_of Try.func15 rfl ?_
  simp only [Try.ntmps15, List.size_toArray, List.length_cons, List.length_nil, Nat.reduceAdd, Nat.reduceSub, Array.replicate_succ, Array.replicate_zero, List.push_toArray, List.append_toArray, List.nil_append, List.cons_append]
  repeat (first
    | (with_reducible apply j_seq) | (with_reducible apply j_block) | (with_reducible apply j_ret) | (with_reducible apply j_skip) | (with_reducible apply j_exit) | (with_reducible apply j_label) | (with_reducible apply j_region_lit) | (with_reducible apply lst_nil)
    | ((with_reducible refine lst_unwanted ?_ ?_); (focus rfl); simp only [Act.put, List.setIfInBounds_toArray, List.set_cons_zero, List.set_cons_succ])
    | ((with_reducible refine lst_cons ?_ ?_ (fun K hK => ?_)); (focus rfl); (focus (intro ht; refine fine_none ?_ ht; (focus (first | (with_reducible apply only_idle); (focus decide) | (with_reducible apply only_turn); (focus rfl); (focus rfl); (focus kernel_rfl) | exact only_calc rfl rfl rfl | exact only_check rfl rfl)))); go_simp; refine hK _ _ _ ?_; clear hK K)
    | ((with_reducible refine j_true ?_ ?_); (focus rfl)) | ((with_reducible refine j_false ?_ ?_); (focus rfl))
    | (with_reducible show Then _ _ _ _ _ _; simp only [Then])
    | (with_reducible show InBlock _ _ _ _ _ _; simp only [InBlock, ↓reduceIte, Nat.reduceEqDiff]))
  refine lst_call _ rfl ?_ ?_ Try.func24 ?_ rfl (within k 1 3) ?_
  focus rfl
  focus first | rfl | (go_simp; done) | (go_simp; rfl)
  focus rfl
  rintro s' r w' ⟨rfl, rfl, rfl⟩
  simp only [Act.put, List.setIfInBounds_toArray, List.set_cons_zero, List.set_cons_succ]
  cases h1 : inB k 1 3
  · repeat (first | (with_reducible apply j_seq) | (with_reducible apply j_block) | (with_reducible apply j_ret) | (with_reducible apply j_skip) | (with_reducible apply j_exit) | (with_reducible apply j_label) | (with_reducible apply j_region_lit) | (with_reducible apply lst_nil) | ((with_reducible refine lst_unwanted ?_ ?_); (focus rfl); simp only [Act.put, List.setIfInBounds_toArray, List.set_cons_zero, List.set_cons_succ]) | ((with_reducible refine lst_cons ?_ ?_ (fun K hK => ?_)); (focus rfl); (focus (intro ht; refine fine_none ?_ ht; (focus (first | (with_reducible apply only_idle); (focus decide) | (with_reducible apply only_turn); (focus rfl); (focus rfl); (focus kernel_rfl) | exact only_calc rfl rfl rfl | exact only_check rfl rfl)))); go_simp; refine hK _ _ _ ?_; clear hK K) | ((with_reducible refine j_true ?_ ?_); (focus rfl)) | ((with_reducible refine j_false ?_ ?_); (focus rfl)) | (with_reducible show Then _ _ _ _ _ _; simp only [Then]) | (with_reducible show InBlock _ _ _ _ _ _; simp only [InBlock, ↓reduceIte, Nat.reduceEqDiff]))
    exact body_ret1 rfl rfl ⟨rfl, (Below.refl _ _).alloc (Nat.le_refl _) _, by simp [mayB, h1]⟩
  · repeat (first | (with_reducible apply j_seq) | (with_reducible apply j_block) | (with_reducible apply j_ret) | (with_reducible apply j_skip) | (with_reducible apply j_exit) | (with_reducible apply j_label) | (with_reducible apply j_region_lit) | (with_reducible apply lst_nil) | ((with_reducible refine lst_unwanted ?_ ?_); (focus rfl); simp only [Act.put, List.setIfInBounds_toArray, List.set_cons_zero, List.set_cons_succ]) | ((with_reducible refine lst_cons ?_ ?_ (fun K hK => ?_)); (focus rfl); (focus (intro ht; refine fine_none ?_ ht; (focus (first | (with_reducible apply only_idle); (focus decide) | (with_reducible apply only_turn); (focus rfl); (focus rfl); (focus kernel_rfl) | exact only_calc rfl rfl rfl | exact only_check rfl rfl)))); go_simp; refine hK _ _ _ ?_; clear hK K) | ((with_reducible refine j_true ?_ ?_); (focus rfl)) | ((with_reducible refine j_false ?_ ?_); (focus rfl)) | (with_reducible show Then _ _ _ _ _ _; simp only [Then]) | (with_reducible show InBlock _ _ _ _ _ _; simp only [InBlock, ↓reduceIte, Nat.reduceEqDiff]))
    refine lst_call _ rfl ?_ ?_ Try.func24 ?_ rfl (within K 1 64) ?_
    focus rfl
    focus first | rfl | (go_simp; done) | (go_simp; rfl)
    focus rfl
    rintro s' r w' ⟨rfl, rfl, rfl⟩
    simp only [Act.put, List.setIfInBounds_toArray, List.set_cons_zero, List.set_cons_succ]
    cases h2 : inB K 1 64
    · repeat (first | (with_reducible apply j_seq) | (with_reducible apply j_block) | (with_reducible apply j_ret) | (with_reducible apply j_skip) | (with_reducible apply j_exit) | (with_reducible apply j_label) | (with_reducible apply j_region_lit) | (with_reducible apply lst_nil) | ((with_reducible refine lst_unwanted ?_ ?_); (focus rfl); simp only [Act.put, List.setIfInBounds_toArray, List.set_cons_zero, List.set_cons_succ]) | ((with_reducible refine lst_cons ?_ ?_ (fun K hK => ?_)); (focus rfl); (focus (intro ht; refine fine_none ?_ ht; (focus (first | (with_reducible apply only_idle); (focus decide) | (with_reducible apply only_turn); (focus rfl); (focus rfl); (focus kernel_rfl) | exact only_calc rfl rfl rfl | exact only_check rfl rfl)))); go_simp; refine hK _ _ _ ?_; clear hK K) | ((with_reducible refine j_true ?_ ?_); (focus rfl)) | ((with_reducible refine j_false ?_ ?_); (focus rfl)) | (with_reducible show Then _ _ _ _ _ _; simp only [Then]) | (with_reducible show InBlock _ _ _ _ _ _; simp only [InBlock, ↓reduceIte, Nat.reduceEqDiff]))
      exact body_ret1 rfl rfl ⟨rfl, (Below.refl _ _).alloc (Nat.le_refl _) _, by simp [mayB, h1, h2]⟩
    · repeat (first | (with_reducible apply j_seq) | (with_reducible apply j_block) | (with_reducible apply j_ret) | (with_reducible apply j_skip) | (with_reducible apply j_exit) | (with_reducible apply j_label) | (with_reducible apply j_region_lit) | (with_reducible apply lst_nil) | ((with_reducible refine lst_unwanted ?_ ?_); (focus rfl); simp only [Act.put, List.setIfInBounds_toArray, List.set_cons_zero, List.set_cons_succ]) | ((with_reducible refine lst_cons ?_ ?_ (fun K hK => ?_)); (focus rfl); (focus (intro ht; refine fine_none ?_ ht; (focus (first | (with_reducible apply only_idle); (focus decide) | (with_reducible apply only_turn); (focus rfl); (focus rfl); (focus kernel_rfl) | exact only_calc rfl rfl rfl | exact only_check rfl rfl)))); go_simp; refine hK _ _ _ ?_; clear hK K) | ((with_reducible refine j_true ?_ ?_); (focus rfl)) | ((with_reducible refine j_false ?_ ?_); (focus rfl)) | (with_reducible show Then _ _ _ _ _ _; simp only [Then]) | (with_reducible show InBlock _ _ _ _ _ _; simp only [InBlock, ↓reduceIte, Nat.reduceEqDiff]))
      refine lst_call _ rfl ?_ ?_ Try.func24 ?_ rfl (within T 1 8) ?_
      focus rfl
      focus first | rfl | (go_simp; done) | (go_simp; rfl)
      focus rfl
      rintro s' r w' ⟨rfl, rfl, rfl⟩
      simp only [Act.put, List.setIfInBounds_toArray, List.set_cons_zero, List.set_cons_succ]
      cases h3 : inB T 1 8
      · repeat (first | (with_reducible apply j_seq) | (with_reducible apply j_block) | (with_reducible apply j_ret) | (with_reducible apply j_skip) | (with_reducible apply j_exit) | (with_reducible apply j_label) | (with_reducible apply j_region_lit) | (with_reducible apply lst_nil) | ((with_reducible refine lst_unwanted ?_ ?_); (focus rfl); simp only [Act.put, List.setIfInBounds_toArray, List.set_cons_zero, List.set_cons_succ]) | ((with_reducible refine lst_cons ?_ ?_ (fun K hK => ?_)); (focus rfl); (focus (intro ht; refine fine_none ?_ ht; (focus (first | (with_reducible apply only_idle); (focus decide) | (with_reducible apply only_turn); (focus rfl); (focus rfl); (focus kernel_rfl) | exact only_calc rfl rfl rfl | exact only_check rfl rfl)))); go_simp; refine hK _ _ _ ?_; clear hK K) | ((with_reducible refine j_true ?_ ?_); (focus rfl)) | ((with_reducible refine j_false ?_ ?_); (focus rfl)) | (with_reducible show Then _ _ _ _ _ _; simp only [Then]) | (with_reducible show InBlock _ _ _ _ _ _; simp only [InBlock, ↓reduceIte, Nat.reduceEqDiff]))
        exact body_ret1 rfl rfl ⟨rfl, (Below.refl _ _).alloc (Nat.le_refl _) _, by simp [mayB, h1, h2, h3]⟩
      · repeat (first | (with_reducible apply j_seq) | (with_reducible apply j_block) | (with_reducible apply j_ret) | (with_reducible apply j_skip) | (with_reducible apply j_exit) | (with_reducible apply j_label) | (with_reducible apply j_region_lit) | (with_reducible apply lst_nil) | ((with_reducible refine lst_unwanted ?_ ?_); (focus rfl); simp only [Act.put, List.setIfInBounds_toArray, List.set_cons_zero, List.set_cons_succ]) | ((with_reducible refine lst_cons ?_ ?_ (fun K hK => ?_)); (focus rfl); (focus (intro ht; refine fine_none ?_ ht; (focus (first | (with_reducible apply only_idle); (focus decide) | (with_reducible apply only_turn); (focus rfl); (focus rfl); (focus kernel_rfl) | exact only_calc rfl rfl rfl | exact only_check rfl rfl)))); go_simp; refine hK _ _ _ ?_; clear hK K) | ((with_reducible refine j_true ?_ ?_); (focus rfl)) | ((with_reducible refine j_false ?_ ?_); (focus rfl)) | (with_reducible show Then _ _ _ _ _ _; simp only [Then]) | (with_reducible show InBlock _ _ _ _ _ _; simp only [InBlock, ↓reduceIte, Nat.reduceEqDiff]))
        refine lst_call _ rfl ?_ ?_ Try.func24 ?_ rfl (within M 2 64) ?_
        focus rfl
        focus first | rfl | (go_simp; done) | (go_simp; rfl)
        focus rfl
        rintro s' r w' ⟨rfl, rfl, rfl⟩
        simp only [Act.put, List.setIfInBounds_toArray, List.set_cons_zero, List.set_cons_succ]
        cases h4 : inB M 2 64 <;> repeat (first | (with_reducible apply j_seq) | (with_reducible apply j_block) | (with_reducible apply j_ret) | (with_reducible apply j_skip) | (with_reducible apply j_exit) | (with_reducible apply j_label) | (with_reducible apply j_region_lit) | (with_reducible apply lst_nil) | ((with_reducible refine lst_unwanted ?_ ?_); (focus rfl); simp only [Act.put, List.setIfInBounds_toArray, List.set_cons_zero, List.set_cons_succ]) | ((with_reducible refine lst_cons ?_ ?_ (fun K hK => ?_)); (focus rfl); (focus (intro ht; refine fine_none ?_ ht; (focus (first | (with_reducible apply only_idle); (focus decide) | (with_reducible apply only_turn); (focus rfl); (focus rfl); (focus kernel_rfl) | exact only_calc rfl rfl rfl | exact only_check rfl rfl)))); go_simp; refine hK _ _ _ ?_; clear hK K) | ((with_reducible refine j_true ?_ ?_); (focus rfl)) | ((with_reducible refine j_false ?_ ?_); (focus rfl)) | (with_reducible show Then _ _ _ _ _ _; simp only [Then]) | (with_reducible show InBlock _ _ _ _ _ _; simp only [InBlock, ↓reduceIte, Nat.reduceEqDiff]))
        all_goals exact body_ret1 rfl rfl ⟨rfl, (Below.refl _ _).alloc (Nat.le_refl _) _, by simp [mayB, h1, h2, h3, h4]⟩

/-! ### Finding a word -/

def acc (d ar at_ old new : Int) : Array Value := #[.int .i64 d, .int .i64 ar, .int .i64 at_, .int .u64 old, .int .u64 new]

theorem find1 {p : Value} {g : Nat} {t : TypeId} {d ar at_ old new : Int} (hb : Blk w g t (acc d ar at_ old new)) : Jdo Try.prog X 34 #[p, .pointer (some ⟨g, 0, none⟩)] s w fun s' r w' => s' = s ∧ w' = w ∧ r = .back (if at_ = 0 then p else .pointer none) := by
  have hc := hb.cell
  unfold acc at hc
  by_cases c : at_ = 0
  · subst c
    refine jdo_of Try.func34 rfl ?_
    simp only [Try.ntmps34, List.size_toArray, List.length_cons, List.length_nil, Nat.reduceAdd, Nat.reduceSub, Array.replicate_succ, Array.replicate_zero, List.push_toArray, List.append_toArray, List.nil_append, List.cons_append]
    repeat (first
      | (with_reducible apply j_seq) | (with_reducible apply j_block) | (with_reducible apply j_ret) | (with_reducible apply j_skip) | (with_reducible apply j_exit) | (with_reducible apply j_label) | (with_reducible apply j_region_lit) | (with_reducible apply lst_nil)
      | ((with_reducible refine lst_unwanted ?_ ?_); (focus rfl); simp only [Act.put, List.setIfInBounds_toArray, List.set_cons_zero, List.set_cons_succ])
      | ((with_reducible refine lst_cons ?_ ?_ (fun K hK => ?_)); (focus rfl); (focus (intro ht; refine fine_none ?_ ht; (focus (first | (with_reducible apply only_idle); (focus decide) | (with_reducible apply only_turn); (focus rfl); (focus rfl); (focus kernel_rfl) | exact only_calc rfl rfl rfl | exact only_check rfl rfl)))); go_simp; refine hK _ _ _ ?_; clear hK K)
      | ((with_reducible refine j_true ?_ ?_); (focus rfl)) | ((with_reducible refine j_false ?_ ?_); (focus rfl))
      | (with_reducible show Then _ _ _ _ _ _; simp only [Then])
      | (with_reducible show InBlock _ _ _ _ _ _; simp only [InBlock, ↓reduceIte, Nat.reduceEqDiff]))
    exact body_ret1 rfl rfl ⟨rfl, rfl, rfl⟩
  · have c1 : (at_ != 0) = true := by simpa using c
    refine jdo_of Try.func34 rfl ?_
    simp only [Try.ntmps34, List.size_toArray, List.length_cons, List.length_nil, Nat.reduceAdd, Nat.reduceSub, Array.replicate_succ, Array.replicate_zero, List.push_toArray, List.append_toArray, List.nil_append, List.cons_append]
    repeat (first
      | (with_reducible apply j_seq) | (with_reducible apply j_block) | (with_reducible apply j_ret) | (with_reducible apply j_skip) | (with_reducible apply j_exit) | (with_reducible apply j_label) | (with_reducible apply j_region_lit) | (with_reducible apply lst_nil)
      | ((with_reducible refine lst_unwanted ?_ ?_); (focus rfl); simp only [Act.put, List.setIfInBounds_toArray, List.set_cons_zero, List.set_cons_succ])
      | ((with_reducible refine lst_cons ?_ ?_ (fun K hK => ?_)); (focus rfl); (focus (intro ht; refine fine_none ?_ ht; (focus (first | (with_reducible apply only_idle); (focus decide) | (with_reducible apply only_turn); (focus rfl); (focus rfl); (focus kernel_rfl) | exact only_calc rfl rfl rfl | exact only_check rfl rfl)))); go_simp; refine hK _ _ _ ?_; clear hK K)
      | ((with_reducible refine j_true ?_ ?_); (focus rfl)) | ((with_reducible refine j_false ?_ ?_); (focus rfl))
      | (with_reducible show Then _ _ _ _ _ _; simp only [Then])
      | (with_reducible show InBlock _ _ _ _ _ _; simp only [InBlock, ↓reduceIte, Nat.reduceEqDiff]))
    exact body_ret1 rfl rfl ⟨rfl, rfl, by simp [c]⟩

/-! ### A copy of a row of words -/

theorem info_u64 : (Try.prog.info? 22).map (fun i => (i.zero, i.size, i.bytes)) = some (some (.int .u64 0), 1, 8) := by kernel_rfl
theorem under_u64s : Try.prog.underlying 23 = some (.slice 22) := by kernel_rfl

def U (xs : List Int) : List Value := xs.map (.int .u64)
theorem U_len (xs : List Int) : (U xs).length = xs.length := List.length_map ..
theorem U_one (xs : List Int) : ∀ u ∈ U xs, u.oneCell' = true := by
  intro u hu
  obtain ⟨x, _, rfl⟩ := List.mem_map.1 hu
  rfl

theorem clone {B : Nat} {v : Value} {n : Nat} {xs : List Int} (hs : Sl w B 1 v n (U xs)) (hB : B ≤ w.heap.size) (hn : 0 < n) (hn2 : n ≤ 1000000) : Jdo Try.prog X 36 #[v] s w fun s' r w' => s' = s ∧ Below w.heap.size w w' ∧
    ∃ g cap cur, r = .back (.slice (some ⟨g, 0, none⟩) n cap) ∧ w.heap.size ≤ g ∧ Blk w' g 22 cur ∧ n ≤ cap ∧ cap ≤ maxLen ∧ cur.size = cap ∧ cur.toList.take n = U xs := by
  refine Jdo.there fun ht => ?_
  obtain ⟨b, o, c, rfl, hb, hnc, hcm, hcell⟩ := hs.row hn
  refine jdo_of Try.func36 rfl ?_
  simp only [Try.ntmps36, List.size_toArray, List.length_cons, List.length_nil, Nat.reduceAdd, Nat.reduceSub, Array.replicate_succ, Array.replicate_zero, List.push_toArray, List.append_toArray, List.nil_append, List.cons_append]
  repeat (first
    | (with_reducible apply j_seq) | (with_reducible apply j_block) | (with_reducible apply j_ret) | (with_reducible apply j_skip) | (with_reducible apply j_exit) | (with_reducible apply j_label) | (with_reducible apply j_region_lit) | (with_reducible apply lst_nil)
    | ((with_reducible refine lst_unwanted ?_ ?_); (focus rfl); simp only [Act.put, List.setIfInBounds_toArray, List.set_cons_zero, List.set_cons_succ])
    | ((with_reducible refine lst_cons ?_ ?_ (fun K hK => ?_)); (focus rfl); (focus (intro ht; refine fine_none ?_ ht; (focus (first | (with_reducible apply only_idle); (focus decide) | (with_reducible apply only_turn); (focus rfl); (focus rfl); (focus kernel_rfl) | exact only_calc rfl rfl rfl | exact only_check rfl rfl)))); go_simp; refine hK _ _ _ ?_; clear hK K)
    | ((with_reducible refine j_true ?_ ?_); (focus rfl)) | ((with_reducible refine j_false ?_ ?_); (focus rfl))
    | (with_reducible show Then _ _ _ _ _ _; simp only [Then])
    | (with_reducible show InBlock _ _ _ _ _ _; simp only [InBlock, ↓reduceIte, Nat.reduceEqDiff]))
  refine lst_one (one_append (.tmp 5) (.tmp 6) 23 rfl rfl w.heap.size 22 (.int .u64 0) 1 8 under_u64s info_u64 rfl (by decide) _ 0 [] rfl
    (by exact ⟨rfl, .inr ⟨w.heap.size, 0, #[], rfl, Nat.le_refl _, heap_alloc_new w _, Nat.le_refl _, Nat.zero_le _, rfl, rfl⟩⟩)
    (fun g hg ho => by have := ht g ho; have hg' : w.heap.size = g := Option.some.inj hg; omega)
    ⟨b, o, none⟩ n c (U xs) rfl (by rw [U_len]; have := hs.1; rw [U_len] at this; omega)
    (fun j u hu => by
      have hadd : (⟨b, o, none⟩ : Addr).add j = ⟨b, o + j, none⟩ := by unfold Addr.add; split <;> simp_all
      rw [hadd, World.cell?_alloc_lt w _ _ (by show b < _; omega)]
      exact hcell j u hu) (U_one xs) hn (by unfold maxLen; omega) (by omega) (by simp) ?_)
  intro g cap w' hown hgrow hat hlt
  simp only [Nat.zero_add, List.nil_append] at hown ⊢
  simp only [Act.put, List.setIfInBounds_toArray, List.set_cons_zero, List.set_cons_succ]
  repeat (first
    | (with_reducible apply j_seq) | (with_reducible apply j_block) | (with_reducible apply j_ret) | (with_reducible apply j_skip) | (with_reducible apply j_exit) | (with_reducible apply j_label) | (with_reducible apply j_region_lit) | (with_reducible apply lst_nil)
    | ((with_reducible refine lst_unwanted ?_ ?_); (focus rfl); simp only [Act.put, List.setIfInBounds_toArray, List.set_cons_zero, List.set_cons_succ])
    | ((with_reducible refine lst_cons ?_ ?_ (fun K hK => ?_)); (focus rfl); (focus (intro ht; refine fine_none ?_ ht; (focus (first | (with_reducible apply only_idle); (focus decide) | (with_reducible apply only_turn); (focus rfl); (focus rfl); (focus kernel_rfl) | exact only_calc rfl rfl rfl | exact only_check rfl rfl)))); go_simp; refine hK _ _ _ ?_; clear hK K)
    | ((with_reducible refine j_true ?_ ?_); (focus rfl)) | ((with_reducible refine j_false ?_ ?_); (focus rfl))
    | (with_reducible show Then _ _ _ _ _ _; simp only [Then])
    | (with_reducible show InBlock _ _ _ _ _ _; simp only [InBlock, ↓reduceIte, Nat.reduceEqDiff]))
  obtain ⟨_, ⟨hx, _⟩ | ⟨g', cap', cur, hx, hbase, hcur, h1, h2, h3, h4⟩⟩ := hown
  · cases hx
  · injection hx with hx1 hx2 hx3
    injection hx1 with hx1
    injection hx1 with hx1
    subst hx1 hx3
    have hbel : Below w.heap.size w w' := ((Below.refl w.heap.size w).alloc (Nat.le_refl _) _).grown hgrow (by simp) (fun k hk => by have hk' : w.heap.size = k := Option.some.inj hk; omega)
    exact body_ret1 rfl rfl ⟨rfl, hbel, g, cap, cur, rfl, hbase, hcur, h1, h2, by omega, by simpa using h4⟩

/-- The second way: a word of a list, which is copied first. The pointer is to the list's own cell. -/
theorem find2 {B gM kM gA : Nat} {tM tA : TypeId} {cM : Array Value} {d ar at_ old new : Int} {v : Value} {n : Nat} {xs : List Int} (hA : Blk w gA tA (acc d ar at_ old new)) (hM : Blk w gM tM cM) (hv : cM[kM]? = some v) (hs : Sl w B 1 v n (U xs)) (hB : B ≤ gM) (hne : gA ≠ gM) (hn2 : n ≤ 1000000)
    (hoth : ¬ X.oth s gM) : Jdo Try.prog X 35 #[.pointer (some ⟨gM, kM, none⟩), .pointer (some ⟨gA, 0, none⟩)] s w fun s' r w' => s' = s ∧
      if 0 ≤ at_ ∧ at_ < n then ∃ g cap cur, r = .back (.pointer (some ⟨g, at_.toNat, none⟩)) ∧ w.heap.size ≤ g ∧ Blk w' g 22 cur ∧ n ≤ cap ∧ cap ≤ maxLen ∧ cur.size = cap ∧ cur.toList.take n = U xs ∧
          Blk w' gM tM (cM.setIfInBounds kM (.slice (some ⟨g, 0, none⟩) n cap)) ∧ Below gM w w'
      else r = .back (.pointer none) ∧ Below w.heap.size w w' := by
  have hcA := hA.cell
  unfold acc at hcA
  obtain ⟨vA, vc, rfl, hnc, hcm⟩ := hs.form
  have hcM := hM.cell kM
  rw [hv] at hcM
  have hlA := hA.lt
  have hlM := hM.lt
  by_cases c : at_ < 0
  · have c1 : decide (at_ < 0) = true := by simpa using c
    have c2 : ¬ (0 ≤ at_ ∧ at_ < n) := by omega
    simp only [if_neg c2]
    refine jdo_of Try.func35 rfl ?_
    simp only [Try.ntmps35, List.size_toArray, List.length_cons, List.length_nil, Nat.reduceAdd, Nat.reduceSub, Array.replicate_succ, Array.replicate_zero, List.push_toArray, List.append_toArray, List.nil_append, List.cons_append]
    repeat (first
      | (with_reducible apply j_seq) | (with_reducible apply j_block) | (with_reducible apply j_ret) | (with_reducible apply j_skip) | (with_reducible apply j_exit) | (with_reducible apply j_label) | (with_reducible apply j_region_lit) | (with_reducible apply lst_nil)
      | ((with_reducible refine lst_unwanted ?_ ?_); (focus rfl); simp only [Act.put, List.setIfInBounds_toArray, List.set_cons_zero, List.set_cons_succ])
      | ((with_reducible refine lst_cons ?_ ?_ (fun K hK => ?_)); (focus rfl); (focus (intro ht; refine fine_none ?_ ht; (focus (first | (with_reducible apply only_idle); (focus decide) | (with_reducible apply only_turn); (focus rfl); (focus rfl); (focus kernel_rfl) | exact only_calc rfl rfl rfl | exact only_check rfl rfl)))); go_simp; refine hK _ _ _ ?_; clear hK K)
      | ((with_reducible refine j_true ?_ ?_); (focus rfl)) | ((with_reducible refine j_false ?_ ?_); (focus rfl))
      | (with_reducible show Then _ _ _ _ _ _; simp only [Then])
      | (with_reducible show InBlock _ _ _ _ _ _; simp only [InBlock, ↓reduceIte, Nat.reduceEqDiff]))
    refine j_region_dl [0, 1, 3, 7, 15, 31, 15, 79, 207, 463, 1023, 2047] [0, 1, 2, 3, 4, 5, 6, 7, 8, 9, 10, 11] (Below w.heap.size w) rfl (by decide +kernel) (by repeat (first | exact loose_body | (with_reducible apply loose_then) | (with_reducible apply loose_block) | (with_reducible apply loose_noGoto) | (with_reducible apply loose_jump))) ?_ ?_
    focus exact (Below.refl _ _).drew
    repeat (first
      | (with_reducible apply dl_nil)
      | ((with_reducible apply dl_skip); (focus rfl); (focus rfl); (focus (first | assumption | exact (Below.refl _ _).drew)); simp only [Act.put, List.setIfInBounds_toArray, List.set_cons_zero, List.set_cons_succ])
      | ((with_reducible apply dl_calm); (focus rfl); (focus rfl); (focus rfl); (focus (first | (with_reducible apply only_idle); (focus decide) | (with_reducible apply only_turn); (focus rfl); (focus rfl); (focus kernel_rfl) | exact only_calc rfl rfl rfl | exact only_check rfl rfl)); (focus (intro wS hS; have hcS := fun p => Below.cell hS (p := p); go_simp; try rfl)); simp only [Act.put, List.setIfInBounds_toArray, List.set_cons_zero, List.set_cons_succ])
      | (with_reducible show Then _ _ _ _ _ _; simp only [Then])
      | (with_reducible show InBlock _ _ _ _ _ _; simp only [InBlock, ↓reduceIte, Nat.reduceEqDiff]))
    repeat (first
      | (with_reducible apply j_seq) | (with_reducible apply j_block) | (with_reducible apply j_ret) | (with_reducible apply j_skip) | (with_reducible apply j_exit) | (with_reducible apply j_label) | (with_reducible apply j_region_lit) | (with_reducible apply lst_nil)
      | ((with_reducible refine lst_unwanted ?_ ?_); (focus rfl); simp only [Act.put, List.setIfInBounds_toArray, List.set_cons_zero, List.set_cons_succ])
      | ((with_reducible refine lst_cons ?_ ?_ (fun K hK => ?_)); (focus rfl); (focus (intro ht; refine fine_none ?_ ht; (focus (first | (with_reducible apply only_idle); (focus decide) | (with_reducible apply only_turn); (focus rfl); (focus rfl); (focus kernel_rfl) | exact only_calc rfl rfl rfl | exact only_check rfl rfl)))); go_simp; refine hK _ _ _ ?_; clear hK K)
      | ((with_reducible refine j_true ?_ ?_); (focus rfl)) | ((with_reducible refine j_false ?_ ?_); (focus rfl))
      | (with_reducible show Then _ _ _ _ _ _; simp only [Then])
      | (with_reducible show InBlock _ _ _ _ _ _; simp only [InBlock, ↓reduceIte, Nat.reduceEqDiff]))
    exact body_ret1 rfl rfl ⟨rfl, rfl, (Below.refl _ _).drew⟩
  · have c1 : decide (at_ < 0) = false := by simpa using c
    by_cases c0 : at_ < n
    · have c2 : 0 ≤ at_ ∧ at_ < n := by omega
      have c3 : decide ((n : Int) ≤ at_) = false := by simpa using c0
      simp only [if_pos c2]
      refine jdo_of Try.func35 rfl ?_
      simp only [Try.ntmps35, List.size_toArray, List.length_cons, List.length_nil, Nat.reduceAdd, Nat.reduceSub, Array.replicate_succ, Array.replicate_zero, List.push_toArray, List.append_toArray, List.nil_append, List.cons_append]
      repeat (first
        | (with_reducible apply j_seq) | (with_reducible apply j_block) | (with_reducible apply j_ret) | (with_reducible apply j_skip) | (with_reducible apply j_exit) | (with_reducible apply j_label) | (with_reducible apply j_region_lit) | (with_reducible apply lst_nil)
        | ((with_reducible refine lst_unwanted ?_ ?_); (focus rfl); simp only [Act.put, List.setIfInBounds_toArray, List.set_cons_zero, List.set_cons_succ])
        | ((with_reducible refine lst_cons ?_ ?_ (fun K hK => ?_)); (focus rfl); (focus (intro ht; refine fine_none ?_ ht; (focus (first | (with_reducible apply only_idle); (focus decide) | (with_reducible apply only_turn); (focus rfl); (focus rfl); (focus kernel_rfl) | exact only_calc rfl rfl rfl | exact only_check rfl rfl)))); go_simp; refine hK _ _ _ ?_; clear hK K)
        | ((with_reducible refine j_true ?_ ?_); (focus rfl)) | ((with_reducible refine j_false ?_ ?_); (focus rfl))
        | (with_reducible show Then _ _ _ _ _ _; simp only [Then])
        | (with_reducible show InBlock _ _ _ _ _ _; simp only [InBlock, ↓reduceIte, Nat.reduceEqDiff]))
      refine j_region_dl [0, 1, 3, 7, 15, 31, 15, 79, 207, 463, 1023, 2047] [0, 1, 2, 3, 4, 5, 6, 7, 8, 9, 10, 11] (Below w.heap.size w) rfl (by decide +kernel) (by repeat (first | exact loose_body | (with_reducible apply loose_then) | (with_reducible apply loose_block) | (with_reducible apply loose_noGoto) | (with_reducible apply loose_jump))) ?_ ?_
      focus exact (Below.refl _ _).drew
      repeat (first
        | (with_reducible apply dl_nil)
        | ((with_reducible apply dl_skip); (focus rfl); (focus rfl); (focus (first | assumption | exact (Below.refl _ _).drew)); simp only [Act.put, List.setIfInBounds_toArray, List.set_cons_zero, List.set_cons_succ])
        | ((with_reducible apply dl_calm); (focus rfl); (focus rfl); (focus rfl); (focus (first | (with_reducible apply only_idle); (focus decide) | (with_reducible apply only_turn); (focus rfl); (focus rfl); (focus kernel_rfl) | exact only_calc rfl rfl rfl | exact only_check rfl rfl)); (focus (intro wS hS; have hcS := fun p => Below.cell hS (p := p); go_simp; try rfl)); simp only [Act.put, List.setIfInBounds_toArray, List.set_cons_zero, List.set_cons_succ])
        | (with_reducible show Then _ _ _ _ _ _; simp only [Then])
        | (with_reducible show InBlock _ _ _ _ _ _; simp only [InBlock, ↓reduceIte, Nat.reduceEqDiff]))
      repeat (first
        | (with_reducible apply j_seq) | (with_reducible apply j_block) | (with_reducible apply j_ret) | (with_reducible apply j_skip) | (with_reducible apply j_exit) | (with_reducible apply j_label) | (with_reducible apply j_region_lit) | (with_reducible apply lst_nil)
        | ((with_reducible refine lst_unwanted ?_ ?_); (focus rfl); simp only [Act.put, List.setIfInBounds_toArray, List.set_cons_zero, List.set_cons_succ])
        | ((with_reducible refine lst_cons ?_ ?_ (fun K hK => ?_)); (focus rfl); (focus (intro ht; refine fine_none ?_ ht; (focus (first | (with_reducible apply only_idle); (focus decide) | (with_reducible apply only_turn); (focus rfl); (focus rfl); (focus kernel_rfl) | exact only_calc rfl rfl rfl | exact only_check rfl rfl)))); go_simp; refine hK _ _ _ ?_; clear hK K)
        | ((with_reducible refine j_true ?_ ?_); (focus rfl)) | ((with_reducible refine j_false ?_ ?_); (focus rfl))
        | (with_reducible show Then _ _ _ _ _ _; simp only [Then])
        | (with_reducible show InBlock _ _ _ _ _ _; simp only [InBlock, ↓reduceIte, Nat.reduceEqDiff]))
      refine lst_call _ rfl ?_ ?_ Try.func36 ?_ rfl (clone (w := w.drew) hs.drew (show B ≤ w.heap.size by omega) (show 0 < n by omega) hn2) ?_
      focus rfl
      focus first | rfl | (go_simp; done) | (go_simp; rfl)
      focus rfl
      rintro s' r w1 ⟨rfl, hb1, g, cap, cur, rfl, hg, hcur, h1, h2, h3, h4⟩
      simp only [Act.put, List.setIfInBounds_toArray, List.set_cons_zero, List.set_cons_succ]
      have hM1 : Blk w1 gM tM cM := hM.drew.below hb1 hlM
      have hcM1 := hM1.cell kM
      rw [hv] at hcM1
      have hfM1 := hM1.frozen kM
      have hA1 : Blk w1 gA tA (acc d ar at_ old new) := hA.drew.below hb1 hlA
      have hcA1 := hA1.cell
      unfold acc at hcA1
      repeat (first
        | (with_reducible apply j_seq) | (with_reducible apply j_block) | (with_reducible apply j_ret) | (with_reducible apply j_skip) | (with_reducible apply j_exit) | (with_reducible apply j_label) | (with_reducible apply j_region_lit) | (with_reducible apply lst_nil)
        | ((with_reducible refine lst_unwanted ?_ ?_); (focus rfl); simp only [Act.put, List.setIfInBounds_toArray, List.set_cons_zero, List.set_cons_succ])
        | ((with_reducible refine lst_cons ?_ ?_ (fun K hK => ?_)); (focus rfl); (focus (intro ht; refine fine_none ?_ ht; (focus (first | (with_reducible apply only_idle); (focus decide) | (with_reducible apply only_turn); (focus rfl); (focus rfl); (focus kernel_rfl) | exact only_calc rfl rfl rfl | exact only_check rfl rfl)))); go_simp; refine hK _ _ _ ?_; clear hK K)
        | ((with_reducible refine j_true ?_ ?_); (focus rfl)) | ((with_reducible refine j_false ?_ ?_); (focus rfl))
        | (with_reducible show Then _ _ _ _ _ _; simp only [Then])
        | (with_reducible show InBlock _ _ _ _ _ _; simp only [InBlock, ↓reduceIte, Nat.reduceEqDiff]))
      refine lst_cons ?_ ?_ (fun K hK => ?_)
      focus rfl
      focus exact fun ht => fine_store rfl rfl hcM1 hoth ht
      go_simp
      refine hK _ _ _ ?_
      clear hK K
      repeat (first
        | (with_reducible apply j_seq) | (with_reducible apply j_block) | (with_reducible apply j_ret) | (with_reducible apply j_skip) | (with_reducible apply j_exit) | (with_reducible apply j_label) | (with_reducible apply j_region_lit) | (with_reducible apply lst_nil)
        | ((with_reducible refine lst_unwanted ?_ ?_); (focus rfl); simp only [Act.put, List.setIfInBounds_toArray, List.set_cons_zero, List.set_cons_succ])
        | ((with_reducible refine lst_cons ?_ ?_ (fun K hK => ?_)); (focus rfl); (focus (intro ht; refine fine_none ?_ ht; (focus (first | (with_reducible apply only_idle); (focus decide) | (with_reducible apply only_turn); (focus rfl); (focus rfl); (focus kernel_rfl) | exact only_calc rfl rfl rfl | exact only_check rfl rfl)))); go_simp; refine hK _ _ _ ?_; clear hK K)
        | ((with_reducible refine j_true ?_ ?_); (focus rfl)) | ((with_reducible refine j_false ?_ ?_); (focus rfl))
        | (with_reducible show Then _ _ _ _ _ _; simp only [Then])
        | (with_reducible show InBlock _ _ _ _ _ _; simp only [InBlock, ↓reduceIte, Nat.reduceEqDiff]))
      have hk : kM < cM.size := (Array.getElem?_eq_some_iff.1 hv).1
      have hM2 := hM1.set_ kM (.slice (some ⟨g, 0, none⟩) n cap)
      have hcM2 := hM2.cell kM
      rw [Array.getElem?_setIfInBounds_self_of_lt hk] at hcM2
      have hA2 := hA1.far (p := ⟨gM, kM, none⟩) hne (.slice (some ⟨g, 0, none⟩) n cap)
      have hcA2 := hA2.cell
      unfold acc at hcA2
      have hcur2 := hcur.far (p := ⟨gM, kM, none⟩) (show g ≠ gM by have : w.drew.heap.size = w.heap.size := rfl; omega) (.slice (some ⟨g, 0, none⟩) n cap)
      have hlA2 := hA2.lt
      have hlM2 := hM2.lt
      have hg' : w.heap.size ≤ g := hg
      replace hb1 : Below w.heap.size w w1 := ⟨hb1.os, hb1.tape, hb1.output, hb1.size, hb1.block⟩
      generalize hW : w1.setCell ⟨gM, kM, none⟩ (.slice (some ⟨g, 0, none⟩) n cap) = W at hM2 hcM2 hA2 hcA2 hcur2 hlA2 hlM2 ⊢
      refine j_region_dl [0, 1, 3, 0, 8, 31, 63] [0, 1, 2, 3, 4, 5, 6] (Below W.heap.size W) rfl (by decide +kernel) (by repeat (first | exact loose_body | (with_reducible apply loose_then) | (with_reducible apply loose_block) | (with_reducible apply loose_noGoto) | (with_reducible apply loose_jump))) ?_ ?_
      focus exact (Below.refl _ _).drew
      repeat (first
        | (with_reducible apply dl_nil)
        | ((with_reducible apply dl_skip); (focus rfl); (focus rfl); (focus (first | assumption | exact (Below.refl _ _).drew)); simp only [Act.put, List.setIfInBounds_toArray, List.set_cons_zero, List.set_cons_succ])
        | ((with_reducible apply dl_calm); (focus rfl); (focus rfl); (focus rfl); (focus (first | (with_reducible apply only_idle); (focus decide) | (with_reducible apply only_turn); (focus rfl); (focus rfl); (focus kernel_rfl) | exact only_calc rfl rfl rfl | exact only_check rfl rfl)); (focus (intro wS hS; have hcS := fun p => Below.cell hS (p := p); go_simp; try rfl)); simp only [Act.put, List.setIfInBounds_toArray, List.set_cons_zero, List.set_cons_succ])
        | (with_reducible show Then _ _ _ _ _ _; simp only [Then])
        | (with_reducible show InBlock _ _ _ _ _ _; simp only [InBlock, ↓reduceIte, Nat.reduceEqDiff]))
      repeat (first
        | (with_reducible apply j_seq) | (with_reducible apply j_block) | (with_reducible apply j_ret) | (with_reducible apply j_skip) | (with_reducible apply j_exit) | (with_reducible apply j_label) | (with_reducible apply j_region_lit) | (with_reducible apply lst_nil)
        | ((with_reducible refine lst_unwanted ?_ ?_); (focus rfl); simp only [Act.put, List.setIfInBounds_toArray, List.set_cons_zero, List.set_cons_succ])
        | ((with_reducible refine lst_cons ?_ ?_ (fun K hK => ?_)); (focus rfl); (focus (intro ht; refine fine_none ?_ ht; (focus (first | (with_reducible apply only_idle); (focus decide) | (with_reducible apply only_turn); (focus rfl); (focus rfl); (focus kernel_rfl) | exact only_calc rfl rfl rfl | exact only_check rfl rfl)))); go_simp; refine hK _ _ _ ?_; clear hK K)
        | ((with_reducible refine j_true ?_ ?_); (focus rfl)) | ((with_reducible refine j_false ?_ ?_); (focus rfl))
        | (with_reducible show Then _ _ _ _ _ _; simp only [Then])
        | (with_reducible show InBlock _ _ _ _ _ _; simp only [InBlock, ↓reduceIte, Nat.reduceEqDiff]))
      refine body_ret1 rfl rfl ⟨rfl, g, cap, cur, rfl, hg', hcur2.drew, h1, h2, h3, h4, hM2.drew, ?_⟩
      subst hW
      exact ((hb1.mono (Nat.le_of_lt hlM)).setCell (p := ⟨gM, kM, none⟩) (Nat.le_refl _) _).drew
    · have c2 : ¬ (0 ≤ at_ ∧ at_ < n) := by omega
      have c3 : decide ((n : Int) ≤ at_) = true := by simpa using c0
      simp only [if_neg c2]
      refine jdo_of Try.func35 rfl ?_
      simp only [Try.ntmps35, List.size_toArray, List.length_cons, List.length_nil, Nat.reduceAdd, Nat.reduceSub, Array.replicate_succ, Array.replicate_zero, List.push_toArray, List.append_toArray, List.nil_append, List.cons_append]
      repeat (first
        | (with_reducible apply j_seq) | (with_reducible apply j_block) | (with_reducible apply j_ret) | (with_reducible apply j_skip) | (with_reducible apply j_exit) | (with_reducible apply j_label) | (with_reducible apply j_region_lit) | (with_reducible apply lst_nil)
        | ((with_reducible refine lst_unwanted ?_ ?_); (focus rfl); simp only [Act.put, List.setIfInBounds_toArray, List.set_cons_zero, List.set_cons_succ])
        | ((with_reducible refine lst_cons ?_ ?_ (fun K hK => ?_)); (focus rfl); (focus (intro ht; refine fine_none ?_ ht; (focus (first | (with_reducible apply only_idle); (focus decide) | (with_reducible apply only_turn); (focus rfl); (focus rfl); (focus kernel_rfl) | exact only_calc rfl rfl rfl | exact only_check rfl rfl)))); go_simp; refine hK _ _ _ ?_; clear hK K)
        | ((with_reducible refine j_true ?_ ?_); (focus rfl)) | ((with_reducible refine j_false ?_ ?_); (focus rfl))
        | (with_reducible show Then _ _ _ _ _ _; simp only [Then])
        | (with_reducible show InBlock _ _ _ _ _ _; simp only [InBlock, ↓reduceIte, Nat.reduceEqDiff]))
      refine j_region_dl [0, 1, 3, 7, 15, 31, 15, 79, 207, 463, 1023, 2047] [0, 1, 2, 3, 4, 5, 6, 7, 8, 9, 10, 11] (Below w.heap.size w) rfl (by decide +kernel) (by repeat (first | exact loose_body | (with_reducible apply loose_then) | (with_reducible apply loose_block) | (with_reducible apply loose_noGoto) | (with_reducible apply loose_jump))) ?_ ?_
      focus exact (Below.refl _ _).drew
      repeat (first
        | (with_reducible apply dl_nil)
        | ((with_reducible apply dl_skip); (focus rfl); (focus rfl); (focus (first | assumption | exact (Below.refl _ _).drew)); simp only [Act.put, List.setIfInBounds_toArray, List.set_cons_zero, List.set_cons_succ])
        | ((with_reducible apply dl_calm); (focus rfl); (focus rfl); (focus rfl); (focus (first | (with_reducible apply only_idle); (focus decide) | (with_reducible apply only_turn); (focus rfl); (focus rfl); (focus kernel_rfl) | exact only_calc rfl rfl rfl | exact only_check rfl rfl)); (focus (intro wS hS; have hcS := fun p => Below.cell hS (p := p); go_simp; try rfl)); simp only [Act.put, List.setIfInBounds_toArray, List.set_cons_zero, List.set_cons_succ])
        | (with_reducible show Then _ _ _ _ _ _; simp only [Then])
        | (with_reducible show InBlock _ _ _ _ _ _; simp only [InBlock, ↓reduceIte, Nat.reduceEqDiff]))
      repeat (first
        | (with_reducible apply j_seq) | (with_reducible apply j_block) | (with_reducible apply j_ret) | (with_reducible apply j_skip) | (with_reducible apply j_exit) | (with_reducible apply j_label) | (with_reducible apply j_region_lit) | (with_reducible apply lst_nil)
        | ((with_reducible refine lst_unwanted ?_ ?_); (focus rfl); simp only [Act.put, List.setIfInBounds_toArray, List.set_cons_zero, List.set_cons_succ])
        | ((with_reducible refine lst_cons ?_ ?_ (fun K hK => ?_)); (focus rfl); (focus (intro ht; refine fine_none ?_ ht; (focus (first | (with_reducible apply only_idle); (focus decide) | (with_reducible apply only_turn); (focus rfl); (focus rfl); (focus kernel_rfl) | exact only_calc rfl rfl rfl | exact only_check rfl rfl)))); go_simp; refine hK _ _ _ ?_; clear hK K)
        | ((with_reducible refine j_true ?_ ?_); (focus rfl)) | ((with_reducible refine j_false ?_ ?_); (focus rfl))
        | (with_reducible show Then _ _ _ _ _ _; simp only [Then])
        | (with_reducible show InBlock _ _ _ _ _ _; simp only [InBlock, ↓reduceIte, Nat.reduceEqDiff]))
      exact body_ret1 rfl rfl ⟨rfl, rfl, (Below.refl _ _).drew⟩
end
end Go.Proofs.Ytonhfgjofgbcdaa.St
