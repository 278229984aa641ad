/- Package internal/strconv: a number's digits, written into a row, all. -/
import Derived.Test.YtgchailmcbifdaaDoorJgJ
namespace Go.Proofs.YtgchailmcbifdaaDoor.Jg
set_option linter.unusedSimpArgs false
set_option linter.unusedVariables false
set_option maxRecDepth 20000
open Go Go.Conc Go.RowKit Go.Proofs.YtgchailmcbifdaaDoor.Jay Go.Proofs.YtgchailmcbifdaaDoor.Pl
section
variable {γ : Type} {X : Turns γ} {s : γ} {w : World}
attribute [local go_sem] upon_value upon_skip

set_option maxHeartbeats 8000000 in
theorem fb_exit {g o L c n x : Nat} {a : Act} {W : World} (hn : n < 8) (ha : Fb g o L c n x a) {Q : γ → Exit → Act → World → Prop} (hQ : ∀ a', Fb g o L c n x a' → Q s (.exit 0) a' W) :
    Wp Tryd.prog X 27 (match loopIn (headOf 1 Tryd.f27.body) with | .loop c => c | c => c) Q s a W := by
  conv => arg 4; whnf
  obtain ⟨hs, hd, h0, h1, h4⟩ := ha
  have e := lit_tmps hs hd
  generalize hf : (fun i => a.tmps.getD i undef) = f at e
  replace h0 : f 0 = .slice (some ⟨g, o, none⟩) L c := by rw [← hf]; exact h0
  replace h1 : f 1 = .int .u64 x := by rw [← hf]; exact h1
  replace h4 : f 4 = .int .i64 n := by rw [← hf]; exact h4
  clear hf hs hd
  subst e
  change Wp _ _ _ _ _ _ ⟨#[f 0, f 1, f 2, f 3, f 4, f 5, f 6, f 7, f 8, f 9, f 10, f 11, f 12, f 13, f 14, f 15, f 16, f 17, f 18, f 19, f 20, f 21, f 22, f 23, f 24, f 25, f 26, f 27, f 28, f 29, f 30, f 31, f 32, f 33, f 34, f 35, f 36, f 37, f 38, f 39, f 40, f 41, f 42, f 43, f 44, f 45, f 46, f 47, f 48, f 49, f 50, f 51, f 52, f 53, f 54, f 55, f 56, f 57, f 58, f 59, f 60, f 61, f 62, f 63, f 64, f 65, f 66, f 67, f 68, f 69, f 70, f 71, f 72, f 73, f 74, f 75, f 76, f 77, f 78, f 79, f 80, f 81, f 82, f 83, f 84, f 85, f 86, f 87, f 88, f 89, f 90, f 91, f 92, f 93, f 94, f 95, f 96, f 97, f 98, f 99, f 100, f 101, f 102, f 103, f 104, f 105, f 106, f 107, f 108, f 109, f 110, f 111, f 112, f 113, f 114, f 115, f 116, f 117, f 118, f 119, f 120, f 121, f 122, f 123, f 124, f 125, f 126, f 127, f 128, f 129, f 130, f 131, f 132, f 133, f 134, f 135, f 136, f 137, f 138, f 139, f 140, f 141, f 142, f 143, f 144, f 145, f 146, f 147, f 148, f 149, f 150, f 151, f 152, f 153, f 154, f 155, f 156, f 157, f 158, f 159, f 160, f 161, f 162, f 163, f 164, f 165, f 166], []⟩ _
  rw [h0, h1, h4]
  clear h0 h1 h4
  have c1 : decide ((8 : Int) ≤ (n : Int)) = false := decide_eq_false (by omega)
  repeat (first
    | ((with_reducible refine lst_free ?_ ?_ (fun K hK => ?_)); (focus with_reducible rfl); (focus (intro ht; refine fine_none ?_ ht; (focus (first | (with_reducible apply only_idle); (focus decide) | (with_reducible apply only_turn); (focus rfl); (focus rfl); (focus kernel_rfl) | exact only_calc rfl rfl rfl | exact only_check rfl rfl | exact only_cap rfl rfl | exact only_min rfl rfl rfl | exact only_max rfl rfl rfl)))); go_simp; refine hK _ _ _ ?_; clear hK K)
    | ((with_reducible refine lst_off (i := ?_) (b := ?_) (d := ?_) ?_ ?_ ?_ ?_); rotate_left 3; (focus with_reducible rfl); (focus rfl); (focus (simp only [List.getElem?_toArray, List.getElem?_cons_succ, List.getElem?_cons_zero, Bool.not_true, Bool.not_false])); simp only [Act.put, List.setIfInBounds_toArray, List.set_cons_zero, List.set_cons_succ])
    | ((with_reducible refine lst_on (i := ?_) (b := ?_) (d := ?_) ?_ ?_ ?_ ?_ (fun K hK => ?_)); rotate_left 3; (focus with_reducible rfl); (focus rfl); (focus (simp only [List.getElem?_toArray, List.getElem?_cons_succ, List.getElem?_cons_zero])); (focus (intro ht; refine fine_none ?_ ht; (focus (first | (with_reducible apply only_idle); (focus decide) | (with_reducible apply only_turn); (focus rfl); (focus rfl); (focus kernel_rfl) | exact only_calc rfl rfl rfl | exact only_check rfl rfl | exact only_cap rfl rfl | exact only_min rfl rfl rfl | exact only_max rfl rfl rfl)))); go_simp; refine hK _ _ _ ?_; clear hK K)
    | ((with_reducible refine lst_undef (i := ?_) (b := ?_) (d := ?_) ?_ ?_ ?_ ?_); rotate_left 3; (focus with_reducible rfl); (focus rfl); (focus (simp only [List.getElem?_toArray, List.getElem?_cons_succ, List.getElem?_cons_zero])); simp only [Act.put, List.setIfInBounds_toArray, List.set_cons_zero, List.set_cons_succ])
    | (with_reducible apply lst_nil)
    | ((fail_if_success (with_reducible refine lst_any ?_)); first
    | (with_reducible apply j_seq) | (with_reducible apply j_block) | (with_reducible apply j_ret) | (with_reducible apply j_skip) | (with_reducible apply j_exit) | (with_reducible apply j_label) | (with_reducible apply j_region_lit)
    | ((with_reducible refine j_true ?_ ?_); (focus rfl)) | ((with_reducible refine j_false ?_ ?_); (focus rfl))
    | (with_reducible show Then _ _ _ _ _ _; simp only [Then])
    | (with_reducible show InBlock _ _ _ _ _ _; simp only [InBlock, ↓reduceIte, Nat.reduceEqDiff])))
  exact hQ _ ⟨rfl, rfl, rfl, rfl, rfl⟩
set_option maxHeartbeats 8000000 in
theorem fb_conv {g o L c n x : Nat} {a : Act} {W : World} (hx : x < 4294967296) (ha : Fb g o L c n x a) {Q : γ → Exit → Act → World → Prop} (hQ : ∀ a', Fc g o L c n x a' → Q s .normal a' W) :
    Wp Tryd.prog X 27 (headOf 2 Tryd.f27.body) Q s a W := by
  conv => arg 4; whnf
  obtain ⟨hs, hd, h0, h1, h4⟩ := ha
  have e := lit_tmps hs hd
  generalize hf : (fun i => a.tmps.getD i undef) = f at e
  replace h0 : f 0 = .slice (some ⟨g, o, none⟩) L c := by rw [← hf]; exact h0
  replace h1 : f 1 = .int .u64 x := by rw [← hf]; exact h1
  replace h4 : f 4 = .int .i64 n := by rw [← hf]; exact h4
  clear hf hs hd
  subst e
  change Wp _ _ _ _ _ _ ⟨#[f 0, f 1, f 2, f 3, f 4, f 5, f 6, f 7, f 8, f 9, f 10, f 11, f 12, f 13, f 14, f 15, f 16, f 17, f 18, f 19, f 20, f 21, f 22, f 23, f 24, f 25, f 26, f 27, f 28, f 29, f 30, f 31, f 32, f 33, f 34, f 35, f 36, f 37, f 38, f 39, f 40, f 41, f 42, f 43, f 44, f 45, f 46, f 47, f 48, f 49, f 50, f 51, f 52, f 53, f 54, f 55, f 56, f 57, f 58, f 59, f 60, f 61, f 62, f 63, f 64, f 65, f 66, f 67, f 68, f 69, f 70, f 71, f 72, f 73, f 74, f 75, f 76, f 77, f 78, f 79, f 80, f 81, f 82, f 83, f 84, f 85, f 86, f 87, f 88, f 89, f 90, f 91, f 92, f 93, f 94, f 95, f 96, f 97, f 98, f 99, f 100, f 101, f 102, f 103, f 104, f 105, f 106, f 107, f 108, f 109, f 110, f 111, f 112, f 113, f 114, f 115, f 116, f 117, f 118, f 119, f 120, f 121, f 122, f 123, f 124, f 125, f 126, f 127, f 128, f 129, f 130, f 131, f 132, f 133, f 134, f 135, f 136, f 137, f 138, f 139, f 140, f 141, f 142, f 143, f 144, f 145, f 146, f 147, f 148, f 149, f 150, f 151, f 152, f 153, f 154, f 155, f 156, f 157, f 158, f 159, f 160, f 161, f 162, f 163, f 164, f 165, f 166], []⟩ _
  rw [h0, h1, h4]
  clear h0 h1 h4
  have wz : IntKind.u32.wrap (x : Int) = (x : Int) := by simp [IntKind.wrap, IntKind.bits, IntKind.signed]; omega
  repeat (first
    | ((with_reducible refine lst_free ?_ ?_ (fun K hK => ?_)); (focus with_reducible rfl); (focus (intro ht; refine fine_none ?_ ht; (focus (first | (with_reducible apply only_idle); (focus decide) | (with_reducible apply only_turn); (focus rfl); (focus rfl); (focus kernel_rfl) | exact only_calc rfl rfl rfl | exact only_check rfl rfl | exact only_cap rfl rfl | exact only_min rfl rfl rfl | exact only_max rfl rfl rfl)))); go_simp; refine hK _ _ _ ?_; clear hK K)
    | ((with_reducible refine lst_off (i := ?_) (b := ?_) (d := ?_) ?_ ?_ ?_ ?_); rotate_left 3; (focus with_reducible rfl); (focus rfl); (focus (simp only [List.getElem?_toArray, List.getElem?_cons_succ, List.getElem?_cons_zero, Bool.not_true, Bool.not_false])); simp only [Act.put, List.setIfInBounds_toArray, List.set_cons_zero, List.set_cons_succ])
    | ((with_reducible refine lst_on (i := ?_) (b := ?_) (d := ?_) ?_ ?_ ?_ ?_ (fun K hK => ?_)); rotate_left 3; (focus with_reducible rfl); (focus rfl); (focus (simp only [List.getElem?_toArray, List.getElem?_cons_succ, List.getElem?_cons_zero])); (focus (intro ht; refine fine_none ?_ ht; (focus (first | (with_reducible apply only_idle); (focus decide) | (with_reducible apply only_turn); (focus rfl); (focus rfl); (focus kernel_rfl) | exact only_calc rfl rfl rfl | exact only_check rfl rfl | exact only_cap rfl rfl | exact only_min rfl rfl rfl | exact only_max rfl rfl rfl)))); go_simp; refine hK _ _ _ ?_; clear hK K)
    | ((with_reducible refine lst_undef (i := ?_) (b := ?_) (d := ?_) ?_ ?_ ?_ ?_); rotate_left 3; (focus with_reducible rfl); (focus rfl); (focus (simp only [List.getElem?_toArray, List.getElem?_cons_succ, List.getElem?_cons_zero])); simp only [Act.put, List.setIfInBounds_toArray, List.set_cons_zero, List.set_cons_succ])
    | (with_reducible apply lst_nil)
    | ((fail_if_success (with_reducible refine lst_any ?_)); first
    | (with_reducible apply j_seq) | (with_reducible apply j_block) | (with_reducible apply j_ret) | (with_reducible apply j_skip) | (with_reducible apply j_exit) | (with_reducible apply j_label) | (with_reducible apply j_region_lit)
    | ((with_reducible refine j_true ?_ ?_); (focus rfl)) | ((with_reducible refine j_false ?_ ?_); (focus rfl))
    | (with_reducible show Then _ _ _ _ _ _; simp only [Then])
    | (with_reducible show InBlock _ _ _ _ _ _; simp only [InBlock, ↓reduceIte, Nat.reduceEqDiff])))
  exact hQ _ ⟨rfl, rfl, rfl, rfl, rfl⟩
set_option maxHeartbeats 8000000 in
theorem fb_one {g o t L c u0 n x : Nat} {a : Act} {W0 W : World} (hC : Chg (fun b => b = g) W0 W) (hg : ¬ X.oth s g) (hL : L ≤ 24) (hn2 : n < 2) (hF : Fm W g o t L u0 n x) (ha : Fc g o L c n x a) {Q : γ → Exit → Act → World → Prop}
    (hQ : ∀ a' W', a'.defers = [] → Fm W' g o t L u0 0 0 → Chg (fun b => b = g) W0 W' → Q s .normal a' W') :
    Wp Tryd.prog X 27 (tailOf 5 Tryd.f27.body) Q s a W := by
  conv => arg 4; whnf
  obtain ⟨hs, hd, h0, h1, h4⟩ := ha
  have e := lit_tmps hs hd
  generalize hf : (fun i => a.tmps.getD i undef) = f at e
  replace h0 : f 0 = .slice (some ⟨g, o, none⟩) L c := by rw [← hf]; exact h0
  replace h1 : f 12 = .int .u32 x := by rw [← hf]; exact h1
  replace h4 : f 4 = .int .i64 n := by rw [← hf]; exact h4
  clear hf hs hd
  subst e
  change Wp _ _ _ _ _ _ ⟨#[f 0, f 1, f 2, f 3, f 4, f 5, f 6, f 7, f 8, f 9, f 10, f 11, f 12, f 13, f 14, f 15, f 16, f 17, f 18, f 19, f 20, f 21, f 22, f 23, f 24, f 25, f 26, f 27, f 28, f 29, f 30, f 31, f 32, f 33, f 34, f 35, f 36, f 37, f 38, f 39, f 40, f 41, f 42, f 43, f 44, f 45, f 46, f 47, f 48, f 49, f 50, f 51, f 52, f 53, f 54, f 55, f 56, f 57, f 58, f 59, f 60, f 61, f 62, f 63, f 64, f 65, f 66, f 67, f 68, f 69, f 70, f 71, f 72, f 73, f 74, f 75, f 76, f 77, f 78, f 79, f 80, f 81, f 82, f 83, f 84, f 85, f 86, f 87, f 88, f 89, f 90, f 91, f 92, f 93, f 94, f 95, f 96, f 97, f 98, f 99, f 100, f 101, f 102, f 103, f 104, f 105, f 106, f 107, f 108, f 109, f 110, f 111, f 112, f 113, f 114, f 115, f 116, f 117, f 118, f 119, f 120, f 121, f 122, f 123, f 124, f 125, f 126, f 127, f 128, f 129, f 130, f 131, f 132, f 133, f 134, f 135, f 136, f 137, f 138, f 139, f 140, f 141, f 142, f 143, f 144, f 145, f 146, f 147, f 148, f 149, f 150, f 151, f 152, f 153, f 154, f 155, f 156, f 157, f 158, f 159, f 160, f 161, f 162, f 163, f 164, f 165, f 166], []⟩ _
  rw [h0, h1, h4]
  clear h0 h1 h4
  by_cases hn : 0 < n
  · have c1 : decide ((0 : Int) < (n : Int)) = true := decide_eq_true (by omega)
    obtain rfl : n = 1 := by omega
    have hx : x < 10 := by have := hF.1; omega
    have hL0 : 0 < L := by have := hF.2.1; omega
    have w1 : IntKind.u32.wrap (48 + (x : Int)) = 48 + (x : Int) := by simp [IntKind.wrap, IntKind.bits, IntKind.signed]; omega
    have w2 : IntKind.u8.wrap (48 + (x : Int)) = 48 + (x : Int) := by simp [IntKind.wrap, IntKind.bits, IntKind.signed]; omega
    have hB := hF.bk
    obtain ⟨v1, k1⟩ := hB.cell (i := o) (by omega)
    have z1 := hB.frozen o
    have hF' := hF.one
    have hC' := hC.set_ (p := ⟨g, o, none⟩) rfl (.int .u8 ((48 + x : Nat) : Int))
    clear hF
    repeat (first
      | ((with_reducible refine lst_free ?_ ?_ (fun K hK => ?_)); (focus with_reducible rfl); (focus (intro ht; refine fine_none ?_ ht; (focus (first | (with_reducible apply only_idle); (focus decide) | (with_reducible apply only_turn); (focus rfl); (focus rfl); (focus kernel_rfl) | exact only_calc rfl rfl rfl | exact only_check rfl rfl | exact only_cap rfl rfl | exact only_min rfl rfl rfl | exact only_max rfl rfl rfl)))); go_simp; refine hK _ _ _ ?_; clear hK K)
      | ((with_reducible refine lst_off (i := ?_) (b := ?_) (d := ?_) ?_ ?_ ?_ ?_); rotate_left 3; (focus with_reducible rfl); (focus rfl); (focus (simp only [List.getElem?_toArray, List.getElem?_cons_succ, List.getElem?_cons_zero, Bool.not_true, Bool.not_false])); simp only [Act.put, List.setIfInBounds_toArray, List.set_cons_zero, List.set_cons_succ])
      | ((with_reducible refine lst_on (i := ?_) (b := ?_) (d := ?_) ?_ ?_ ?_ ?_ (fun K hK => ?_)); rotate_left 3; (focus with_reducible rfl); (focus rfl); (focus (simp only [List.getElem?_toArray, List.getElem?_cons_succ, List.getElem?_cons_zero])); (focus (intro ht; refine fine_none ?_ ht; (focus (first | (with_reducible apply only_idle); (focus decide) | (with_reducible apply only_turn); (focus rfl); (focus rfl); (focus kernel_rfl) | exact only_calc rfl rfl rfl | exact only_check rfl rfl | exact only_cap rfl rfl | exact only_min rfl rfl rfl | exact only_max rfl rfl rfl)))); go_simp; refine hK _ _ _ ?_; clear hK K)
      | ((with_reducible refine lst_undef (i := ?_) (b := ?_) (d := ?_) ?_ ?_ ?_ ?_); rotate_left 3; (focus with_reducible rfl); (focus rfl); (focus (simp only [List.getElem?_toArray, List.getElem?_cons_succ, List.getElem?_cons_zero])); simp only [Act.put, List.setIfInBounds_toArray, List.set_cons_zero, List.set_cons_succ])
      | (with_reducible apply lst_nil)
      | ((fail_if_success (with_reducible refine lst_any ?_)); first
      | (with_reducible apply j_seq) | (with_reducible apply j_block) | (with_reducible apply j_ret) | (with_reducible apply j_skip) | (with_reducible apply j_exit) | (with_reducible apply j_label) | (with_reducible apply j_region_lit)
      | ((with_reducible refine j_true ?_ ?_); (focus rfl)) | ((with_reducible refine j_false ?_ ?_); (focus rfl))
      | (with_reducible show Then _ _ _ _ _ _; simp only [Then])
      | (with_reducible show InBlock _ _ _ _ _ _; simp only [InBlock, ↓reduceIte, Nat.reduceEqDiff])))
    refine lst_cons ?_ ?_ (fun K hK => ?_)
    focus rfl
    focus exact fun ht => fine_store rfl rfl k1 hg ht
    go_simp
    refine hK _ _ _ ?_
    clear hK K
    repeat (first
      | ((with_reducible refine lst_free ?_ ?_ (fun K hK => ?_)); (focus with_reducible rfl); (focus (intro ht; refine fine_none ?_ ht; (focus (first | (with_reducible apply only_idle); (focus decide) | (with_reducible apply only_turn); (focus rfl); (focus rfl); (focus kernel_rfl) | exact only_calc rfl rfl rfl | exact only_check rfl rfl | exact only_cap rfl rfl | exact only_min rfl rfl rfl | exact only_max rfl rfl rfl)))); go_simp; refine hK _ _ _ ?_; clear hK K)
      | ((with_reducible refine lst_off (i := ?_) (b := ?_) (d := ?_) ?_ ?_ ?_ ?_); rotate_left 3; (focus with_reducible rfl); (focus rfl); (focus (simp only [List.getElem?_toArray, List.getElem?_cons_succ, List.getElem?_cons_zero, Bool.not_true, Bool.not_false])); simp only [Act.put, List.setIfInBounds_toArray, List.set_cons_zero, List.set_cons_succ])
      | ((with_reducible refine lst_on (i := ?_) (b := ?_) (d := ?_) ?_ ?_ ?_ ?_ (fun K hK => ?_)); rotate_left 3; (focus with_reducible rfl); (focus rfl); (focus (simp only [List.getElem?_toArray, List.getElem?_cons_succ, List.getElem?_cons_zero])); (focus (intro ht; refine fine_none ?_ ht; (focus (first | (with_reducible apply only_idle); (focus decide) | (with_reducible apply only_turn); (focus rfl); (focus rfl); (focus kernel_rfl) | exact only_calc rfl rfl rfl | exact only_check rfl rfl | exact only_cap rfl rfl | exact only_min rfl rfl rfl | exact only_max rfl rfl rfl)))); go_simp; refine hK _ _ _ ?_; clear hK K)
      | ((with_reducible refine lst_undef (i := ?_) (b := ?_) (d := ?_) ?_ ?_ ?_ ?_); rotate_left 3; (focus with_reducible rfl); (focus rfl); (focus (simp only [List.getElem?_toArray, List.getElem?_cons_succ, List.getElem?_cons_zero])); simp only [Act.put, List.setIfInBounds_toArray, List.set_cons_zero, List.set_cons_succ])
      | (with_reducible apply lst_nil)
      | ((fail_if_success (with_reducible refine lst_any ?_)); first
      | (with_reducible apply j_seq) | (with_reducible apply j_block) | (with_reducible apply j_ret) | (with_reducible apply j_skip) | (with_reducible apply j_exit) | (with_reducible apply j_label) | (with_reducible apply j_region_lit)
      | ((with_reducible refine j_true ?_ ?_); (focus rfl)) | ((with_reducible refine j_false ?_ ?_); (focus rfl))
      | (with_reducible show Then _ _ _ _ _ _; simp only [Then])
      | (with_reducible show InBlock _ _ _ _ _ _; simp only [InBlock, ↓reduceIte, Nat.reduceEqDiff])))
    exact hQ _ _ rfl hF' hC'
  · have c1 : decide ((0 : Int) < (n : Int)) = false := decide_eq_false (by omega)
    obtain rfl : n = 0 := by omega
    have hx : x = 0 := by have := hF.1; omega
    subst hx
    repeat (first
      | ((with_reducible refine lst_free ?_ ?_ (fun K hK => ?_)); (focus with_reducible rfl); (focus (intro ht; refine fine_none ?_ ht; (focus (first | (with_reducible apply only_idle); (focus decide) | (with_reducible apply only_turn); (focus rfl); (focus rfl); (focus kernel_rfl) | exact only_calc rfl rfl rfl | exact only_check rfl rfl | exact only_cap rfl rfl | exact only_min rfl rfl rfl | exact only_max rfl rfl rfl)))); go_simp; refine hK _ _ _ ?_; clear hK K)
      | ((with_reducible refine lst_off (i := ?_) (b := ?_) (d := ?_) ?_ ?_ ?_ ?_); rotate_left 3; (focus with_reducible rfl); (focus rfl); (focus (simp only [List.getElem?_toArray, List.getElem?_cons_succ, List.getElem?_cons_zero, Bool.not_true, Bool.not_false])); simp only [Act.put, List.setIfInBounds_toArray, List.set_cons_zero, List.set_cons_succ])
      | ((with_reducible refine lst_on (i := ?_) (b := ?_) (d := ?_) ?_ ?_ ?_ ?_ (fun K hK => ?_)); rotate_left 3; (focus with_reducible rfl); (focus rfl); (focus (simp only [List.getElem?_toArray, List.getElem?_cons_succ, List.getElem?_cons_zero])); (focus (intro ht; refine fine_none ?_ ht; (focus (first | (with_reducible apply only_idle); (focus decide) | (with_reducible apply only_turn); (focus rfl); (focus rfl); (focus kernel_rfl) | exact only_calc rfl rfl rfl | exact only_check rfl rfl | exact only_cap rfl rfl | exact only_min rfl rfl rfl | exact only_max rfl rfl rfl)))); go_simp; refine hK _ _ _ ?_; clear hK K)
      | ((with_reducible refine lst_undef (i := ?_) (b := ?_) (d := ?_) ?_ ?_ ?_ ?_); rotate_left 3; (focus with_reducible rfl); (focus rfl); (focus (simp only [List.getElem?_toArray, List.getElem?_cons_succ, List.getElem?_cons_zero])); simp only [Act.put, List.setIfInBounds_toArray, List.set_cons_zero, List.set_cons_succ])
      | (with_reducible apply lst_nil)
      | ((fail_if_success (with_reducible refine lst_any ?_)); first
      | (with_reducible apply j_seq) | (with_reducible apply j_block) | (with_reducible apply j_ret) | (with_reducible apply j_skip) | (with_reducible apply j_exit) | (with_reducible apply j_label) | (with_reducible apply j_region_lit)
      | ((with_reducible refine j_true ?_ ?_); (focus rfl)) | ((with_reducible refine j_false ?_ ?_); (focus rfl))
      | (with_reducible show Then _ _ _ _ _ _; simp only [Then])
      | (with_reducible show InBlock _ _ _ _ _ _; simp only [InBlock, ↓reduceIte, Nat.reduceEqDiff])))
    exact hQ _ _ rfl hF hC

def FbInv {γ : Type} (W0 : World) (g o t L c u0 : Nat) (s' : γ) (s2 : γ) (a : Act) (W : World) : Prop := s2 = s' ∧ Chg (fun b => b = g) W0 W ∧ ∃ n x : Nat, x < 4294967296 ∧ Fm W g o t L u0 n x ∧ Fb g o L c n x a
def FbMu {γ : Type} (_ : γ) (a : Act) (_ : World) : Nat := match a.tmps.getD 4 undef with
  | .int _ i => i.toNat
  | _ => 0
theorem fb_mu {s : γ} {g o L c n x : Nat} {a : Act} {W : World} (h : Fb g o L c n x a) : FbMu s a W = n := by
  unfold FbMu
  rw [h.2.2.2.2]
  simp
/-- formatBase10: the digits are there. -/
def FbPost {γ : Type} (s : γ) (w : World) (g o t L u : Nat) (s' : γ) (r : Came) (w' : World) : Prop := s' = s ∧ Chg (fun b => b = g) w w' ∧ r = .back (.tuple #[]) ∧ ∃ cs', Blk w' g t cs' ∧ ∀ j b, (dig L u)[j]? = some b → cs'[o + j]? = some (.int .u8 (b.toNat : Int))
set_option maxHeartbeats 8000000 in
theorem fb_tail {g o t L c u n x : Nat} {a : Act} {W : World} (hC : Chg (fun b => b = g) w W) (hg : ¬ X.oth s g) (hL : L ≤ 24) (hn : n < 8) (hx : x < 4294967296) (hF : Fm W g o t L u n x) (ha : Fb g o L c n x a) :
    Wp Tryd.prog X 27 (tailOf 2 Tryd.f27.body) (Body Tryd.prog Tryd.f27 (FbPost s w g o t L u)) s a W := by
  show Wp _ _ _ (Code.seq (headOf 2 Tryd.f27.body) (tailOf 3 Tryd.f27.body)) _ _ _ _
  refine j_seq (fb_conv hx ha fun a1 h1 => ?_)
  show Wp _ _ _ (Code.seq (headOf 3 Tryd.f27.body) (tailOf 4 Tryd.f27.body)) _ _ _ _
  refine j_seq (fb_four hC hg hL hx hF h1 (by exact loose_then loose_body) fun n2 x2 a2 W2 hn2 hx2 h2 hF2 hC2 => ?_)
  show Wp _ _ _ (Code.seq (headOf 4 Tryd.f27.body) (tailOf 5 Tryd.f27.body)) _ _ _ _
  refine j_seq (fb_two hC2 hg hL (by omega) hF2 h2 (by exact loose_then loose_body) fun n3 x3 a3 W3 hn3 hx3 h3 hF3 hC3 => ?_)
  show Wp _ _ _ (tailOf 5 Tryd.f27.body) _ _ _ _
  refine fb_one hC3 hg hL (by omega) hF3 h3 fun a4 W4 hd hF4 hC4 => ?_
  refine body_end0 rfl hd ⟨rfl, hC4, rfl, ?_⟩
  obtain ⟨_, _, cs, hb, _, rest, hr, hc⟩ := hF4
  refine ⟨cs, hb, fun j b hj => ?_⟩
  rw [hr] at hj
  have := hc j b hj
  rwa [Nat.add_zero] at this
set_option maxHeartbeats 8000000 in
theorem formatBase10_ok {g o t L c u : Nat} {cs : Array Value} (hg : ¬ X.oth s g) (hb : Blk w g t cs) (hs : o + L ≤ cs.size) (hL : L ≤ 24) (hu : u < 10 ^ L) (hu2 : u < 4294967296) :
    Jdo Tryd.prog X 27 #[.slice (some ⟨g, o, none⟩) L c, .int .u64 u] s w (FbPost s w g o t L u) := by
  refine jdo_of Tryd.func27 rfl ?_
  simp only [Tryd.ntmps27, List.size_toArray, List.length_cons, List.length_nil, Nat.reduceAdd, Nat.reduceSub, Array.replicate_succ, Array.replicate_zero, List.push_toArray, List.append_toArray, List.nil_append, List.cons_append]
  repeat (first
    | ((with_reducible refine lst_free ?_ ?_ (fun K hK => ?_)); (focus with_reducible rfl); (focus (intro ht; refine fine_none ?_ ht; (focus (first | (with_reducible apply only_idle); (focus decide) | (with_reducible apply only_turn); (focus rfl); (focus rfl); (focus kernel_rfl) | exact only_calc rfl rfl rfl | exact only_check rfl rfl | exact only_cap rfl rfl | exact only_min rfl rfl rfl | exact only_max rfl rfl rfl)))); go_simp; refine hK _ _ _ ?_; clear hK K)
    | ((with_reducible refine lst_off (i := ?_) (b := ?_) (d := ?_) ?_ ?_ ?_ ?_); rotate_left 3; (focus with_reducible rfl); (focus rfl); (focus (simp only [List.getElem?_toArray, List.getElem?_cons_succ, List.getElem?_cons_zero, Bool.not_true, Bool.not_false])); simp only [Act.put, List.setIfInBounds_toArray, List.set_cons_zero, List.set_cons_succ])
    | ((with_reducible refine lst_on (i := ?_) (b := ?_) (d := ?_) ?_ ?_ ?_ ?_ (fun K hK => ?_)); rotate_left 3; (focus with_reducible rfl); (focus rfl); (focus (simp only [List.getElem?_toArray, List.getElem?_cons_succ, List.getElem?_cons_zero])); (focus (intro ht; refine fine_none ?_ ht; (focus (first | (with_reducible apply only_idle); (focus decide) | (with_reducible apply only_turn); (focus rfl); (focus rfl); (focus kernel_rfl) | exact only_calc rfl rfl rfl | exact only_check rfl rfl | exact only_cap rfl rfl | exact only_min rfl rfl rfl | exact only_max rfl rfl rfl)))); go_simp; refine hK _ _ _ ?_; clear hK K)
    | ((with_reducible refine lst_undef (i := ?_) (b := ?_) (d := ?_) ?_ ?_ ?_ ?_); rotate_left 3; (focus with_reducible rfl); (focus rfl); (focus (simp only [List.getElem?_toArray, List.getElem?_cons_succ, List.getElem?_cons_zero])); simp only [Act.put, List.setIfInBounds_toArray, List.set_cons_zero, List.set_cons_succ])
    | (with_reducible apply lst_nil)
    | ((fail_if_success (with_reducible refine lst_any ?_)); first
    | (with_reducible apply j_seq) | (with_reducible apply j_block) | (with_reducible apply j_ret) | (with_reducible apply j_skip) | (with_reducible apply j_exit) | (with_reducible apply j_label) | (with_reducible apply j_region_lit)
    | ((with_reducible refine j_true ?_ ?_); (focus rfl)) | ((with_reducible refine j_false ?_ ?_); (focus rfl))
    | (with_reducible show Then _ _ _ _ _ _; simp only [Then])
    | (with_reducible show InBlock _ _ _ _ _ _; simp only [InBlock, ↓reduceIte, Nat.reduceEqDiff])))
  refine j_loop (I := FbInv w g o t L c u s) (μ := FbMu) ?_ ?_
  focus exact ⟨rfl, .refl _ _, L, u, hu2, ⟨hu, Nat.le_refl _, cs, hb, hs, [], by rw [List.append_nil], fun j b hj => by cases hj⟩, rfl, rfl, rfl, rfl, rfl⟩
  rintro s2 a W ⟨rfl, hC, n, x, hx, hF, ha⟩
  by_cases hn : 8 ≤ n
  · refine fb_round hC hg hn hL hx hF ha ?_ fun a' W' h1 h2 h3 => ?_
    focus
      repeat (first | assumption | exact loose_body | (with_reducible apply loose_then) | (with_reducible apply loose_block) | (with_reducible apply loose_noGoto) | (with_reducible apply loose_jump))
    exact ⟨⟨rfl, h3, _, _, by omega, h2, h1⟩, by rw [fb_mu h1, fb_mu ha]; omega⟩
  · refine fb_exit (by omega) ha fun a' h1 => ?_
    exact fb_tail hC hg hL (by omega) hx hF h1
end
end Go.Proofs.YtgchailmcbifdaaDoor.Jg
