/- Package internal/strconv: a number's digits, written into a row; a number's text. -/
import Derived.Test.YtgchailmcbifdaaDoorJgI
namespace Go.Proofs.YtgchailmcbifdaaDoor.Jg
set_option linter.unusedSimpArgs false
set_option linter.unusedVariables false
set_option maxRecDepth 20000
open Go Go.Conc Go.RowKit Go.Proofs.YtgchailmcbifdaaDoor.Jay Go.Proofs.YtgchailmcbifdaaDoor.Pl
section
variable {γ : Type} {X : Turns γ} {s : γ} {w : World}
attribute [local go_sem] upon_value upon_skip

/-- What a frame of formatBase10 holds behind its loop. -/
def Fc (g o L c n x : Nat) (a : Act) : Prop := a.tmps.size = 167 ∧ a.defers = [] ∧ a.tmps.getD 0 undef = .slice (some ⟨g, o, none⟩) L c ∧ a.tmps.getD 12 undef = .int .u32 x ∧ a.tmps.getD 4 undef = .int .i64 n
set_option maxHeartbeats 8000000 in
theorem fb_four {g o t L c u0 n x : Nat} {a : Act} {W0 W : World} (hC : Chg (fun b => b = g) W0 W) (hg : ¬ X.oth s g) (hL : L ≤ 24) (hx : x < 4294967296) (hF : Fm W g o t L u0 n x) (ha : Fc g o L c n x a) {Q : γ → Exit → Act → World → Prop} (hQl : Loose Q)
    (hQ : ∀ n' x' a' W', (n' = n ∧ n < 4 ∨ n' = n - 4 ∧ 4 ≤ n) → x' ≤ x → Fc g o L c n' x' a' → Fm W' g o t L u0 n' x' → Chg (fun b => b = g) W0 W' → Q s .normal a' W') :
    Wp Tryd.prog X 27 (headOf 3 Tryd.f27.body) Q s a W := by
  conv => arg 4; whnf
  obtain ⟨hs, hd, h0, h1, h4⟩ := ha
  have e := lit_tmps hs hd
  generalize hf : (fun i => a.tmps.getD i undef) = f at e
  replace h0 : f 0 = .slice (some ⟨g, o, none⟩) L c := by rw [← hf]; exact h0
  replace h1 : f 12 = .int .u32 x := by rw [← hf]; exact h1
  replace h4 : f 4 = .int .i64 n := by rw [← hf]; exact h4
  clear hf hs hd
  subst e
  change Wp _ _ _ _ _ _ ⟨#[f 0, f 1, f 2, f 3, f 4, f 5, f 6, f 7, f 8, f 9, f 10, f 11, f 12, f 13, f 14, f 15, f 16, f 17, f 18, f 19, f 20, f 21, f 22, f 23, f 24, f 25, f 26, f 27, f 28, f 29, f 30, f 31, f 32, f 33, f 34, f 35, f 36, f 37, f 38, f 39, f 40, f 41, f 42, f 43, f 44, f 45, f 46, f 47, f 48, f 49, f 50, f 51, f 52, f 53, f 54, f 55, f 56, f 57, f 58, f 59, f 60, f 61, f 62, f 63, f 64, f 65, f 66, f 67, f 68, f 69, f 70, f 71, f 72, f 73, f 74, f 75, f 76, f 77, f 78, f 79, f 80, f 81, f 82, f 83, f 84, f 85, f 86, f 87, f 88, f 89, f 90, f 91, f 92, f 93, f 94, f 95, f 96, f 97, f 98, f 99, f 100, f 101, f 102, f 103, f 104, f 105, f 106, f 107, f 108, f 109, f 110, f 111, f 112, f 113, f 114, f 115, f 116, f 117, f 118, f 119, f 120, f 121, f 122, f 123, f 124, f 125, f 126, f 127, f 128, f 129, f 130, f 131, f 132, f 133, f 134, f 135, f 136, f 137, f 138, f 139, f 140, f 141, f 142, f 143, f 144, f 145, f 146, f 147, f 148, f 149, f 150, f 151, f 152, f 153, f 154, f 155, f 156, f 157, f 158, f 159, f 160, f 161, f 162, f 163, f 164, f 165, f 166], []⟩ _
  rw [h0, h1, h4]
  clear h0 h1 h4
  by_cases hn : 4 ≤ n
  · have c1 : decide ((4 : Int) ≤ (n : Int)) = true := decide_eq_true (by omega)
    obtain ⟨q, hq0, hq⟩ : ∃ q : Nat, (x : Int).tmod 10000 = (q : Int) ∧ Hid (q = x % 10000) := ⟨x % 10000, by rw [Int.tmod_eq_emod_of_nonneg (by omega)]; omega, rfl⟩
    obtain ⟨z, hz0, hz⟩ : ∃ z : Nat, (x : Int).tdiv 10000 = (z : Int) ∧ Hid (z = x / 10000) := ⟨x / 10000, by rw [Int.tdiv_eq_ediv_of_nonneg (by omega)]; omega, rfl⟩
    obtain ⟨q1, hq10, hq1⟩ : ∃ q1 : Nat, (q : Int).tdiv 100 = (q1 : Int) ∧ Hid (q1 = q / 100) := ⟨q / 100, by rw [Int.tdiv_eq_ediv_of_nonneg (by omega)]; omega, rfl⟩
    obtain ⟨q0, hq00, hq0'⟩ : ∃ q0 : Nat, (q : Int).tmod 100 = (q0 : Int) ∧ Hid (q0 = q % 100) := ⟨q % 100, by rw [Int.tmod_eq_emod_of_nonneg (by omega)]; omega, rfl⟩
    unfold Hid at hq hz hq1 hq0'
    have wz : IntKind.u32.wrap (z : Int) = (z : Int) := by simp [IntKind.wrap, IntKind.bits, IntKind.signed]; omega
    have wq : IntKind.u32.wrap (q : Int) = (q : Int) := by simp [IntKind.wrap, IntKind.bits, IntKind.signed]; omega
    have wq1 : IntKind.u32.wrap (q1 : Int) = (q1 : Int) := by simp [IntKind.wrap, IntKind.bits, IntKind.signed]; omega
    have l3 : q1 < 100 := by omega
    have l4 : q0 < 100 := by omega
    have fb : ∀ k : Nat, k < 100 → IntKind.u32.wrap ((k : Int) * 2) = (k : Int) * 2 ∧ IntKind.u32.wrap ((k : Int) * 2 + 1) = (k : Int) * 2 + 1 := fun k hk => by
      constructor <;> (simp [IntKind.wrap, IntKind.bits, IntKind.signed]; omega)
    obtain ⟨m3, m3'⟩ := fb q1 l3
    obtain ⟨m4, m4'⟩ := fb q0 l4
    clear fb
    change Hid (z = x / 10000) at hz
    change Hid (q = x % 10000) at hq
    change Hid (q1 = q / 100) at hq1
    change Hid (q0 = q % 100) at hq0'
    have dg : ∀ k : Nat, ∃ e : Nat, Hid (e = 48 + k % 10) := fun k => ⟨_, rfl⟩
    have dh : ∀ k : Nat, ∃ e : Nat, Hid (e = 48 + k / 10 % 10) := fun k => ⟨_, rfl⟩
    obtain ⟨e1, he1⟩ := dg q0
    obtain ⟨e2, he2⟩ := dh q0
    obtain ⟨e3, he3⟩ := dg q1
    obtain ⟨e4, he4⟩ := dh q1
    clear dg dh
    have hnL : n ≤ L := hF.2.1
    obtain ⟨n1, wn1, b1, hn1⟩ : ∃ m : Nat, IntKind.i64.wrap ((n : Int) - 1) = (m : Int) ∧ m < L ∧ Hid (m = n - 1) := ⟨n - 1, by simp [IntKind.wrap, IntKind.bits, IntKind.signed]; omega, by omega, rfl⟩
    obtain ⟨n2, wn2, b2, hn2⟩ : ∃ m : Nat, IntKind.i64.wrap ((n : Int) - 2) = (m : Int) ∧ m < L ∧ Hid (m = n - 2) := ⟨n - 2, by simp [IntKind.wrap, IntKind.bits, IntKind.signed]; omega, by omega, rfl⟩
    obtain ⟨n3, wn3, b3, hn3⟩ : ∃ m : Nat, IntKind.i64.wrap ((n : Int) - 3) = (m : Int) ∧ m < L ∧ Hid (m = n - 3) := ⟨n - 3, by simp [IntKind.wrap, IntKind.bits, IntKind.signed]; omega, by omega, rfl⟩
    obtain ⟨n4, wn4, b4, hn4⟩ : ∃ m : Nat, IntKind.i64.wrap ((n : Int) - 4) = (m : Int) ∧ m < L ∧ Hid (m = n - 4) := ⟨n - 4, by simp [IntKind.wrap, IntKind.bits, IntKind.signed]; omega, by omega, rfl⟩
    have hB := hF.bk
    repeat (first
      | ((with_reducible refine lst_free ?_ ?_ (fun K hK => ?_)); (focus with_reducible rfl); (focus (intro ht; refine fine_none ?_ ht; (focus (first | (with_reducible apply only_idle); (focus decide) | (with_reducible apply only_turn); (focus rfl); (focus rfl); (focus kernel_rfl) | exact only_calc rfl rfl rfl | exact only_check rfl rfl | exact only_cap rfl rfl | exact only_min rfl rfl rfl | exact only_max rfl rfl rfl)))); go_simp; refine hK _ _ _ ?_; clear hK K)
      | ((with_reducible refine lst_off (i := ?_) (b := ?_) (d := ?_) ?_ ?_ ?_ ?_); rotate_left 3; (focus with_reducible rfl); (focus rfl); (focus (simp only [List.getElem?_toArray, List.getElem?_cons_succ, List.getElem?_cons_zero, Bool.not_true, Bool.not_false])); simp only [Act.put, List.setIfInBounds_toArray, List.set_cons_zero, List.set_cons_succ])
      | ((with_reducible refine lst_on (i := ?_) (b := ?_) (d := ?_) ?_ ?_ ?_ ?_ (fun K hK => ?_)); rotate_left 3; (focus with_reducible rfl); (focus rfl); (focus (simp only [List.getElem?_toArray, List.getElem?_cons_succ, List.getElem?_cons_zero])); (focus (intro ht; refine fine_none ?_ ht; (focus (first | (with_reducible apply only_idle); (focus decide) | (with_reducible apply only_turn); (focus rfl); (focus rfl); (focus kernel_rfl) | exact only_calc rfl rfl rfl | exact only_check rfl rfl | exact only_cap rfl rfl | exact only_min rfl rfl rfl | exact only_max rfl rfl rfl)))); go_simp; refine hK _ _ _ ?_; clear hK K)
      | ((with_reducible refine lst_undef (i := ?_) (b := ?_) (d := ?_) ?_ ?_ ?_ ?_); rotate_left 3; (focus with_reducible rfl); (focus rfl); (focus (simp only [List.getElem?_toArray, List.getElem?_cons_succ, List.getElem?_cons_zero])); simp only [Act.put, List.setIfInBounds_toArray, List.set_cons_zero, List.set_cons_succ])
      | (with_reducible apply lst_nil)
      | ((fail_if_success (with_reducible refine lst_any ?_)); first
      | (with_reducible apply j_seq) | (with_reducible apply j_block) | (with_reducible apply j_ret) | (with_reducible apply j_skip) | (with_reducible apply j_exit) | (with_reducible apply j_label) | (with_reducible apply j_region_lit)
      | ((with_reducible refine j_true ?_ ?_); (focus rfl)) | ((with_reducible refine j_false ?_ ?_); (focus rfl))
      | (with_reducible show Then _ _ _ _ _ _; simp only [Then])
      | (with_reducible show InBlock _ _ _ _ _ _; simp only [InBlock, ↓reduceIte, Nat.reduceEqDiff])))
    refine j_region_dl [0, 0, 2, 0, 0, 16, 0, 64, 192, 0, 512, 455, 2503, 8191, 16383] [0, 1, 2, 3, 4, 5, 6, 7, 8, 9, 10, 11, 12, 13, 14] (fun _ => True) rfl (by decide +kernel) (by repeat (first | assumption | exact loose_body | (with_reducible apply loose_then) | (with_reducible apply loose_block) | (with_reducible apply loose_noGoto) | (with_reducible apply loose_jump))) ?_ ?_
    focus trivial
    repeat (first
      | (with_reducible apply dl_nil)
      | ((with_reducible apply dl_skip); (focus rfl); (focus rfl); (focus trivial); simp only [Act.put, List.setIfInBounds_toArray, List.set_cons_zero, List.set_cons_succ])
      | ((with_reducible apply dl_calm); (focus rfl); (focus rfl); (focus rfl); (focus (first | (with_reducible apply only_idle); (focus decide) | (with_reducible apply only_turn); (focus rfl); (focus rfl); (focus kernel_rfl) | exact only_calc rfl rfl rfl | exact only_check rfl rfl | exact only_cap rfl rfl | exact only_min rfl rfl rfl | exact only_max rfl rfl rfl)); (focus (intro wS hS;  go_simp; try rfl)); simp only [Act.put, List.setIfInBounds_toArray, List.set_cons_zero, List.set_cons_succ])
      | (with_reducible show Then _ _ _ _ _ _; simp only [Then])
      | (with_reducible show InBlock _ _ _ _ _ _; simp only [InBlock, ↓reduceIte, Nat.reduceEqDiff]))
    refine dl_calm (o := ?_) (v := .int .u8 ((e1 : Nat) : Int)) ?_ ?_ ?_ ?_ ?_ ?_
    rotate_left 1
    focus rfl
    focus rfl
    focus rfl
    focus (first | (with_reducible apply only_idle); (focus decide) | (with_reducible apply only_turn); (focus rfl); (focus rfl); (focus kernel_rfl) | exact only_calc rfl rfl rfl | exact only_check rfl rfl | exact only_cap rfl rfl | exact only_min rfl rfl rfl | exact only_max rfl rfl rfl)
    focus exact fun wS _ => exec_smalls1 (y := (.tmp 117)) rfl (by kernel_rfl) rfl l4 he1
    simp only [Act.put, List.setIfInBounds_toArray, List.set_cons_zero, List.set_cons_succ]
    repeat (first
      | (with_reducible apply dl_nil)
      | ((with_reducible apply dl_skip); (focus rfl); (focus rfl); (focus trivial); simp only [Act.put, List.setIfInBounds_toArray, List.set_cons_zero, List.set_cons_succ])
      | ((with_reducible apply dl_calm); (focus rfl); (focus rfl); (focus rfl); (focus (first | (with_reducible apply only_idle); (focus decide) | (with_reducible apply only_turn); (focus rfl); (focus rfl); (focus kernel_rfl) | exact only_calc rfl rfl rfl | exact only_check rfl rfl | exact only_cap rfl rfl | exact only_min rfl rfl rfl | exact only_max rfl rfl rfl)); (focus (intro wS hS;  go_simp; try rfl)); simp only [Act.put, List.setIfInBounds_toArray, List.set_cons_zero, List.set_cons_succ])
      | (with_reducible show Then _ _ _ _ _ _; simp only [Then])
      | (with_reducible show InBlock _ _ _ _ _ _; simp only [InBlock, ↓reduceIte, Nat.reduceEqDiff]))
    refine dl_calm (o := ?_) (v := .int .u8 ((e2 : Nat) : Int)) ?_ ?_ ?_ ?_ ?_ ?_
    rotate_left 1
    focus rfl
    focus rfl
    focus rfl
    focus (first | (with_reducible apply only_idle); (focus decide) | (with_reducible apply only_turn); (focus rfl); (focus rfl); (focus kernel_rfl) | exact only_calc rfl rfl rfl | exact only_check rfl rfl | exact only_cap rfl rfl | exact only_min rfl rfl rfl | exact only_max rfl rfl rfl)
    focus exact fun wS _ => exec_smalls0 (y := (.tmp 119)) rfl (by kernel_rfl) rfl l4 he2
    simp only [Act.put, List.setIfInBounds_toArray, List.set_cons_zero, List.set_cons_succ]
    repeat (first
      | (with_reducible apply dl_nil)
      | ((with_reducible apply dl_skip); (focus rfl); (focus rfl); (focus trivial); simp only [Act.put, List.setIfInBounds_toArray, List.set_cons_zero, List.set_cons_succ])
      | ((with_reducible apply dl_calm); (focus rfl); (focus rfl); (focus rfl); (focus (first | (with_reducible apply only_idle); (focus decide) | (with_reducible apply only_turn); (focus rfl); (focus rfl); (focus kernel_rfl) | exact only_calc rfl rfl rfl | exact only_check rfl rfl | exact only_cap rfl rfl | exact only_min rfl rfl rfl | exact only_max rfl rfl rfl)); (focus (intro wS hS;  go_simp; try rfl)); simp only [Act.put, List.setIfInBounds_toArray, List.set_cons_zero, List.set_cons_succ])
      | (with_reducible show Then _ _ _ _ _ _; simp only [Then])
      | (with_reducible show InBlock _ _ _ _ _ _; simp only [InBlock, ↓reduceIte, Nat.reduceEqDiff]))
    obtain ⟨v1, k1⟩ := hB.cell (i := o + n1) (by omega)
    have z1 := hB.frozen (o + n1)
    refine dl_act (o := ?_) ?_ ?_ ?_ ?_ (fun K hK => ?_)
    rotate_left 1
    focus rfl
    focus rfl
    focus rfl
    focus exact fun ht => fine_store rfl rfl k1 hg ht
    go_simp
    refine hK _ _ _ ⟨fun _ => True, trivial, fun _ => rfl, ?_⟩
    clear hK K
    have hB1 := hB.set (o + n1) (.int .u8 (e1 : Int))
    obtain ⟨v2, k2⟩ := hB1.cell (i := o + n2) (by omega)
    clear k1 z1
    have z2 := hB1.frozen (o + n2)
    repeat (first
      | (with_reducible apply dl_nil)
      | ((with_reducible apply dl_skip); (focus rfl); (focus rfl); (focus trivial); simp only [Act.put, List.setIfInBounds_toArray, List.set_cons_zero, List.set_cons_succ])
      | ((with_reducible apply dl_calm); (focus rfl); (focus rfl); (focus rfl); (focus (first | (with_reducible apply only_idle); (focus decide) | (with_reducible apply only_turn); (focus rfl); (focus rfl); (focus kernel_rfl) | exact only_calc rfl rfl rfl | exact only_check rfl rfl | exact only_cap rfl rfl | exact only_min rfl rfl rfl | exact only_max rfl rfl rfl)); (focus (intro wS hS;  go_simp; try rfl)); simp only [Act.put, List.setIfInBounds_toArray, List.set_cons_zero, List.set_cons_succ])
      | (with_reducible show Then _ _ _ _ _ _; simp only [Then])
      | (with_reducible show InBlock _ _ _ _ _ _; simp only [InBlock, ↓reduceIte, Nat.reduceEqDiff]))
    refine dl_act (o := ?_) ?_ ?_ ?_ ?_ (fun K hK => ?_)
    rotate_left 1
    focus rfl
    focus rfl
    focus rfl
    focus exact fun ht => fine_store rfl rfl k2 hg ht
    go_simp
    refine hK _ _ _ ⟨fun _ => True, trivial, fun _ => rfl, ?_⟩
    clear hK K
    clear k2 z2
    repeat (first
      | (with_reducible apply dl_nil)
      | ((with_reducible apply dl_skip); (focus rfl); (focus rfl); (focus trivial); simp only [Act.put, List.setIfInBounds_toArray, List.set_cons_zero, List.set_cons_succ])
      | ((with_reducible apply dl_calm); (focus rfl); (focus rfl); (focus rfl); (focus (first | (with_reducible apply only_idle); (focus decide) | (with_reducible apply only_turn); (focus rfl); (focus rfl); (focus kernel_rfl) | exact only_calc rfl rfl rfl | exact only_check rfl rfl | exact only_cap rfl rfl | exact only_min rfl rfl rfl | exact only_max rfl rfl rfl)); (focus (intro wS hS;  go_simp; try rfl)); simp only [Act.put, List.setIfInBounds_toArray, List.set_cons_zero, List.set_cons_succ])
      | (with_reducible show Then _ _ _ _ _ _; simp only [Then])
      | (with_reducible show InBlock _ _ _ _ _ _; simp only [InBlock, ↓reduceIte, Nat.reduceEqDiff]))
    repeat (first
      | ((with_reducible refine lst_free ?_ ?_ (fun K hK => ?_)); (focus with_reducible rfl); (focus (intro ht; refine fine_none ?_ ht; (focus (first | (with_reducible apply only_idle); (focus decide) | (with_reducible apply only_turn); (focus rfl); (focus rfl); (focus kernel_rfl) | exact only_calc rfl rfl rfl | exact only_check rfl rfl | exact only_cap rfl rfl | exact only_min rfl rfl rfl | exact only_max rfl rfl rfl)))); go_simp; refine hK _ _ _ ?_; clear hK K)
      | ((with_reducible refine lst_off (i := ?_) (b := ?_) (d := ?_) ?_ ?_ ?_ ?_); rotate_left 3; (focus with_reducible rfl); (focus rfl); (focus (simp only [List.getElem?_toArray, List.getElem?_cons_succ, List.getElem?_cons_zero, Bool.not_true, Bool.not_false])); simp only [Act.put, List.setIfInBounds_toArray, List.set_cons_zero, List.set_cons_succ])
      | ((with_reducible refine lst_on (i := ?_) (b := ?_) (d := ?_) ?_ ?_ ?_ ?_ (fun K hK => ?_)); rotate_left 3; (focus with_reducible rfl); (focus rfl); (focus (simp only [List.getElem?_toArray, List.getElem?_cons_succ, List.getElem?_cons_zero])); (focus (intro ht; refine fine_none ?_ ht; (focus (first | (with_reducible apply only_idle); (focus decide) | (with_reducible apply only_turn); (focus rfl); (focus rfl); (focus kernel_rfl) | exact only_calc rfl rfl rfl | exact only_check rfl rfl | exact only_cap rfl rfl | exact only_min rfl rfl rfl | exact only_max rfl rfl rfl)))); go_simp; refine hK _ _ _ ?_; clear hK K)
      | ((with_reducible refine lst_undef (i := ?_) (b := ?_) (d := ?_) ?_ ?_ ?_ ?_); rotate_left 3; (focus with_reducible rfl); (focus rfl); (focus (simp only [List.getElem?_toArray, List.getElem?_cons_succ, List.getElem?_cons_zero])); simp only [Act.put, List.setIfInBounds_toArray, List.set_cons_zero, List.set_cons_succ])
      | (with_reducible apply lst_nil)
      | ((fail_if_success (with_reducible refine lst_any ?_)); first
      | (with_reducible apply j_seq) | (with_reducible apply j_block) | (with_reducible apply j_ret) | (with_reducible apply j_skip) | (with_reducible apply j_exit) | (with_reducible apply j_label) | (with_reducible apply j_region_lit)
      | ((with_reducible refine j_true ?_ ?_); (focus rfl)) | ((with_reducible refine j_false ?_ ?_); (focus rfl))
      | (with_reducible show Then _ _ _ _ _ _; simp only [Then])
      | (with_reducible show InBlock _ _ _ _ _ _; simp only [InBlock, ↓reduceIte, Nat.reduceEqDiff])))
    have hF' := hF.two2 (n1 := n1) (n2 := n2) (e1 := e1) (e0 := e2) (by unfold Hid at *; omega) (by unfold Hid at *; omega) (by unfold Hid at *; omega) (by unfold Hid at *; omega) (by unfold Hid at *; omega)
    have hC' := ((hC.set_ (p := ⟨g, o + n1, none⟩) rfl (.int .u8 (e1 : Int))).set_ (p := ⟨g, o + n2, none⟩) rfl (.int .u8 (e2 : Int))).drew
    generalize ((W.setCell ⟨g, o + n1, none⟩ (.int .u8 (e1 : Int))).setCell ⟨g, o + n2, none⟩ (.int .u8 (e2 : Int))).drew = W at hF' hC' ⊢
    clear hB hB1 hF hC
    have hF := hF'
    have hC := hC'
    clear hF' hC'
    have hB := hF.bk
    refine j_region_dl [0, 0, 2, 0, 0, 16, 0, 64, 192, 0, 512, 455, 2503, 8191, 16383] [0, 1, 2, 3, 4, 5, 6, 7, 8, 9, 10, 11, 12, 13, 14] (fun _ => True) rfl (by decide +kernel) (by repeat (first | assumption | exact loose_body | (with_reducible apply loose_then) | (with_reducible apply loose_block) | (with_reducible apply loose_noGoto) | (with_reducible apply loose_jump))) ?_ ?_
    focus trivial
    repeat (first
      | (with_reducible apply dl_nil)
      | ((with_reducible apply dl_skip); (focus rfl); (focus rfl); (focus trivial); simp only [Act.put, List.setIfInBounds_toArray, List.set_cons_zero, List.set_cons_succ])
      | ((with_reducible apply dl_calm); (focus rfl); (focus rfl); (focus rfl); (focus (first | (with_reducible apply only_idle); (focus decide) | (with_reducible apply only_turn); (focus rfl); (focus rfl); (focus kernel_rfl) | exact only_calc rfl rfl rfl | exact only_check rfl rfl | exact only_cap rfl rfl | exact only_min rfl rfl rfl | exact only_max rfl rfl rfl)); (focus (intro wS hS;  go_simp; try rfl)); simp only [Act.put, List.setIfInBounds_toArray, List.set_cons_zero, List.set_cons_succ])
      | (with_reducible show Then _ _ _ _ _ _; simp only [Then])
      | (with_reducible show InBlock _ _ _ _ _ _; simp only [InBlock, ↓reduceIte, Nat.reduceEqDiff]))
    refine dl_calm (o := ?_) (v := .int .u8 ((e3 : Nat) : Int)) ?_ ?_ ?_ ?_ ?_ ?_
    rotate_left 1
    focus rfl
    focus rfl
    focus rfl
    focus (first | (with_reducible apply only_idle); (focus decide) | (with_reducible apply only_turn); (focus rfl); (focus rfl); (focus kernel_rfl) | exact only_calc rfl rfl rfl | exact only_check rfl rfl | exact only_cap rfl rfl | exact only_min rfl rfl rfl | exact only_max rfl rfl rfl)
    focus exact fun wS _ => exec_smalls1 (y := (.tmp 130)) rfl (by kernel_rfl) rfl l3 he3
    simp only [Act.put, List.setIfInBounds_toArray, List.set_cons_zero, List.set_cons_succ]
    repeat (first
      | (with_reducible apply dl_nil)
      | ((with_reducible apply dl_skip); (focus rfl); (focus rfl); (focus trivial); simp only [Act.put, List.setIfInBounds_toArray, List.set_cons_zero, List.set_cons_succ])
      | ((with_reducible apply dl_calm); (focus rfl); (focus rfl); (focus rfl); (focus (first | (with_reducible apply only_idle); (focus decide) | (with_reducible apply only_turn); (focus rfl); (focus rfl); (focus kernel_rfl) | exact only_calc rfl rfl rfl | exact only_check rfl rfl | exact only_cap rfl rfl | exact only_min rfl rfl rfl | exact only_max rfl rfl rfl)); (focus (intro wS hS;  go_simp; try rfl)); simp only [Act.put, List.setIfInBounds_toArray, List.set_cons_zero, List.set_cons_succ])
      | (with_reducible show Then _ _ _ _ _ _; simp only [Then])
      | (with_reducible show InBlock _ _ _ _ _ _; simp only [InBlock, ↓reduceIte, Nat.reduceEqDiff]))
    refine dl_calm (o := ?_) (v := .int .u8 ((e4 : Nat) : Int)) ?_ ?_ ?_ ?_ ?_ ?_
    rotate_left 1
    focus rfl
    focus rfl
    focus rfl
    focus (first | (with_reducible apply only_idle); (focus decide) | (with_reducible apply only_turn); (focus rfl); (focus rfl); (focus kernel_rfl) | exact only_calc rfl rfl rfl | exact only_check rfl rfl | exact only_cap rfl rfl | exact only_min rfl rfl rfl | exact only_max rfl rfl rfl)
    focus exact fun wS _ => exec_smalls0 (y := (.tmp 132)) rfl (by kernel_rfl) rfl l3 he4
    simp only [Act.put, List.setIfInBounds_toArray, List.set_cons_zero, List.set_cons_succ]
    repeat (first
      | (with_reducible apply dl_nil)
      | ((with_reducible apply dl_skip); (focus rfl); (focus rfl); (focus trivial); simp only [Act.put, List.setIfInBounds_toArray, List.set_cons_zero, List.set_cons_succ])
      | ((with_reducible apply dl_calm); (focus rfl); (focus rfl); (focus rfl); (focus (first | (with_reducible apply only_idle); (focus decide) | (with_reducible apply only_turn); (focus rfl); (focus rfl); (focus kernel_rfl) | exact only_calc rfl rfl rfl | exact only_check rfl rfl | exact only_cap rfl rfl | exact only_min rfl rfl rfl | exact only_max rfl rfl rfl)); (focus (intro wS hS;  go_simp; try rfl)); simp only [Act.put, List.setIfInBounds_toArray, List.set_cons_zero, List.set_cons_succ])
      | (with_reducible show Then _ _ _ _ _ _; simp only [Then])
      | (with_reducible show InBlock _ _ _ _ _ _; simp only [InBlock, ↓reduceIte, Nat.reduceEqDiff]))
    obtain ⟨v1, k1⟩ := hB.cell (i := o + n3) (by omega)
    have z1 := hB.frozen (o + n3)
    refine dl_act (o := ?_) ?_ ?_ ?_ ?_ (fun K hK => ?_)
    rotate_left 1
    focus rfl
    focus rfl
    focus rfl
    focus exact fun ht => fine_store rfl rfl k1 hg ht
    go_simp
    refine hK _ _ _ ⟨fun _ => True, trivial, fun _ => rfl, ?_⟩
    clear hK K
    have hB1 := hB.set (o + n3) (.int .u8 (e3 : Int))
    obtain ⟨v2, k2⟩ := hB1.cell (i := o + n4) (by omega)
    clear k1 z1
    have z2 := hB1.frozen (o + n4)
    repeat (first
      | (with_reducible apply dl_nil)
      | ((with_reducible apply dl_skip); (focus rfl); (focus rfl); (focus trivial); simp only [Act.put, List.setIfInBounds_toArray, List.set_cons_zero, List.set_cons_succ])
      | ((with_reducible apply dl_calm); (focus rfl); (focus rfl); (focus rfl); (focus (first | (with_reducible apply only_idle); (focus decide) | (with_reducible apply only_turn); (focus rfl); (focus rfl); (focus kernel_rfl) | exact only_calc rfl rfl rfl | exact only_check rfl rfl | exact only_cap rfl rfl | exact only_min rfl rfl rfl | exact only_max rfl rfl rfl)); (focus (intro wS hS;  go_simp; try rfl)); simp only [Act.put, List.setIfInBounds_toArray, List.set_cons_zero, List.set_cons_succ])
      | (with_reducible show Then _ _ _ _ _ _; simp only [Then])
      | (with_reducible show InBlock _ _ _ _ _ _; simp only [InBlock, ↓reduceIte, Nat.reduceEqDiff]))
    refine dl_act (o := ?_) ?_ ?_ ?_ ?_ (fun K hK => ?_)
    rotate_left 1
    focus rfl
    focus rfl
    focus rfl
    focus exact fun ht => fine_store rfl rfl k2 hg ht
    go_simp
    refine hK _ _ _ ⟨fun _ => True, trivial, fun _ => rfl, ?_⟩
    clear hK K
    clear k2 z2
    repeat (first
      | (with_reducible apply dl_nil)
      | ((with_reducible apply dl_skip); (focus rfl); (focus rfl); (focus trivial); simp only [Act.put, List.setIfInBounds_toArray, List.set_cons_zero, List.set_cons_succ])
      | ((with_reducible apply dl_calm); (focus rfl); (focus rfl); (focus rfl); (focus (first | (with_reducible apply only_idle); (focus decide) | (with_reducible apply only_turn); (focus rfl); (focus rfl); (focus kernel_rfl) | exact only_calc rfl rfl rfl | exact only_check rfl rfl | exact only_cap rfl rfl | exact only_min rfl rfl rfl | exact only_max rfl rfl rfl)); (focus (intro wS hS;  go_simp; try rfl)); simp only [Act.put, List.setIfInBounds_toArray, List.set_cons_zero, List.set_cons_succ])
      | (with_reducible show Then _ _ _ _ _ _; simp only [Then])
      | (with_reducible show InBlock _ _ _ _ _ _; simp only [InBlock, ↓reduceIte, Nat.reduceEqDiff]))
    repeat (first
      | ((with_reducible refine lst_free ?_ ?_ (fun K hK => ?_)); (focus with_reducible rfl); (focus (intro ht; refine fine_none ?_ ht; (focus (first | (with_reducible apply only_idle); (focus decide) | (with_reducible apply only_turn); (focus rfl); (focus rfl); (focus kernel_rfl) | exact only_calc rfl rfl rfl | exact only_check rfl rfl | exact only_cap rfl rfl | exact only_min rfl rfl rfl | exact only_max rfl rfl rfl)))); go_simp; refine hK _ _ _ ?_; clear hK K)
      | ((with_reducible refine lst_off (i := ?_) (b := ?_) (d := ?_) ?_ ?_ ?_ ?_); rotate_left 3; (focus with_reducible rfl); (focus rfl); (focus (simp only [List.getElem?_toArray, List.getElem?_cons_succ, List.getElem?_cons_zero, Bool.not_true, Bool.not_false])); simp only [Act.put, List.setIfInBounds_toArray, List.set_cons_zero, List.set_cons_succ])
      | ((with_reducible refine lst_on (i := ?_) (b := ?_) (d := ?_) ?_ ?_ ?_ ?_ (fun K hK => ?_)); rotate_left 3; (focus with_reducible rfl); (focus rfl); (focus (simp only [List.getElem?_toArray, List.getElem?_cons_succ, List.getElem?_cons_zero])); (focus (intro ht; refine fine_none ?_ ht; (focus (first | (with_reducible apply only_idle); (focus decide) | (with_reducible apply only_turn); (focus rfl); (focus rfl); (focus kernel_rfl) | exact only_calc rfl rfl rfl | exact only_check rfl rfl | exact only_cap rfl rfl | exact only_min rfl rfl rfl | exact only_max rfl rfl rfl)))); go_simp; refine hK _ _ _ ?_; clear hK K)
      | ((with_reducible refine lst_undef (i := ?_) (b := ?_) (d := ?_) ?_ ?_ ?_ ?_); rotate_left 3; (focus with_reducible rfl); (focus rfl); (focus (simp only [List.getElem?_toArray, List.getElem?_cons_succ, List.getElem?_cons_zero])); simp only [Act.put, List.setIfInBounds_toArray, List.set_cons_zero, List.set_cons_succ])
      | (with_reducible apply lst_nil)
      | ((fail_if_success (with_reducible refine lst_any ?_)); first
      | (with_reducible apply j_seq) | (with_reducible apply j_block) | (with_reducible apply j_ret) | (with_reducible apply j_skip) | (with_reducible apply j_exit) | (with_reducible apply j_label) | (with_reducible apply j_region_lit)
      | ((with_reducible refine j_true ?_ ?_); (focus rfl)) | ((with_reducible refine j_false ?_ ?_); (focus rfl))
      | (with_reducible show Then _ _ _ _ _ _; simp only [Then])
      | (with_reducible show InBlock _ _ _ _ _ _; simp only [InBlock, ↓reduceIte, Nat.reduceEqDiff])))
    have hF' := hF.two2 (n1 := n3) (n2 := n4) (e1 := e3) (e0 := e4) (by unfold Hid at *; omega) (by unfold Hid at *; omega) (by unfold Hid at *; omega) (by unfold Hid at *; omega) (by unfold Hid at *; omega)
    have hC' := ((hC.set_ (p := ⟨g, o + n3, none⟩) rfl (.int .u8 (e3 : Int))).set_ (p := ⟨g, o + n4, none⟩) rfl (.int .u8 (e4 : Int))).drew
    generalize ((W.setCell ⟨g, o + n3, none⟩ (.int .u8 (e3 : Int))).setCell ⟨g, o + n4, none⟩ (.int .u8 (e4 : Int))).drew = W at hF' hC' ⊢
    clear hB hB1 hF hC
    have hF := hF'
    have hC := hC'
    clear hF' hC'
    have hB := hF.bk
    have e8' : n4 = n - 4 := hn4
    have ez : z = x / 10000 := hz
    have ex : x / 100 / 100 = z := by omega
    rw [ex] at hF
    exact hQ _ _ _ _ (.inr ⟨e8', hn⟩) (show z ≤ x by omega) ⟨rfl, rfl, rfl, rfl, rfl⟩ hF hC
  · have c1 : decide ((4 : Int) ≤ (n : Int)) = false := decide_eq_false (by omega)
    repeat (first
      | ((with_reducible refine lst_free ?_ ?_ (fun K hK => ?_)); (focus with_reducible rfl); (focus (intro ht; refine fine_none ?_ ht; (focus (first | (with_reducible apply only_idle); (focus decide) | (with_reducible apply only_turn); (focus rfl); (focus rfl); (focus kernel_rfl) | exact only_calc rfl rfl rfl | exact only_check rfl rfl | exact only_cap rfl rfl | exact only_min rfl rfl rfl | exact only_max rfl rfl rfl)))); go_simp; refine hK _ _ _ ?_; clear hK K)
      | ((with_reducible refine lst_off (i := ?_) (b := ?_) (d := ?_) ?_ ?_ ?_ ?_); rotate_left 3; (focus with_reducible rfl); (focus rfl); (focus (simp only [List.getElem?_toArray, List.getElem?_cons_succ, List.getElem?_cons_zero, Bool.not_true, Bool.not_false])); simp only [Act.put, List.setIfInBounds_toArray, List.set_cons_zero, List.set_cons_succ])
      | ((with_reducible refine lst_on (i := ?_) (b := ?_) (d := ?_) ?_ ?_ ?_ ?_ (fun K hK => ?_)); rotate_left 3; (focus with_reducible rfl); (focus rfl); (focus (simp only [List.getElem?_toArray, List.getElem?_cons_succ, List.getElem?_cons_zero])); (focus (intro ht; refine fine_none ?_ ht; (focus (first | (with_reducible apply only_idle); (focus decide) | (with_reducible apply only_turn); (focus rfl); (focus rfl); (focus kernel_rfl) | exact only_calc rfl rfl rfl | exact only_check rfl rfl | exact only_cap rfl rfl | exact only_min rfl rfl rfl | exact only_max rfl rfl rfl)))); go_simp; refine hK _ _ _ ?_; clear hK K)
      | ((with_reducible refine lst_undef (i := ?_) (b := ?_) (d := ?_) ?_ ?_ ?_ ?_); rotate_left 3; (focus with_reducible rfl); (focus rfl); (focus (simp only [List.getElem?_toArray, List.getElem?_cons_succ, List.getElem?_cons_zero])); simp only [Act.put, List.setIfInBounds_toArray, List.set_cons_zero, List.set_cons_succ])
      | (with_reducible apply lst_nil)
      | ((fail_if_success (with_reducible refine lst_any ?_)); first
      | (with_reducible apply j_seq) | (with_reducible apply j_block) | (with_reducible apply j_ret) | (with_reducible apply j_skip) | (with_reducible apply j_exit) | (with_reducible apply j_label) | (with_reducible apply j_region_lit)
      | ((with_reducible refine j_true ?_ ?_); (focus rfl)) | ((with_reducible refine j_false ?_ ?_); (focus rfl))
      | (with_reducible show Then _ _ _ _ _ _; simp only [Then])
      | (with_reducible show InBlock _ _ _ _ _ _; simp only [InBlock, ↓reduceIte, Nat.reduceEqDiff])))
    exact hQ _ _ _ _ (.inl ⟨rfl, by omega⟩) (Nat.le_refl x) ⟨rfl, rfl, rfl, rfl, rfl⟩ hF hC
set_option maxHeartbeats 8000000 in
theorem fb_two {g o t L c u0 n x : Nat} {a : Act} {W0 W : World} (hC : Chg (fun b => b = g) W0 W) (hg : ¬ X.oth s g) (hL : L ≤ 24) (hx : x < 4294967296) (hF : Fm W g o t L u0 n x) (ha : Fc g o L c n x a) {Q : γ → Exit → Act → World → Prop} (hQl : Loose Q)
    (hQ : ∀ n' x' a' W', (n' = n ∧ n < 2 ∨ n' = n - 2 ∧ 2 ≤ n) → x' ≤ x → Fc g o L c n' x' a' → Fm W' g o t L u0 n' x' → Chg (fun b => b = g) W0 W' → Q s .normal a' W') :
    Wp Tryd.prog X 27 (headOf 4 Tryd.f27.body) Q s a W := by
  conv => arg 4; whnf
  obtain ⟨hs, hd, h0, h1, h4⟩ := ha
  have e := lit_tmps hs hd
  generalize hf : (fun i => a.tmps.getD i undef) = f at e
  replace h0 : f 0 = .slice (some ⟨g, o, none⟩) L c := by rw [← hf]; exact h0
  replace h1 : f 12 = .int .u32 x := by rw [← hf]; exact h1
  replace h4 : f 4 = .int .i64 n := by rw [← hf]; exact h4
  clear hf hs hd
  subst e
  change Wp _ _ _ _ _ _ ⟨#[f 0, f 1, f 2, f 3, f 4, f 5, f 6, f 7, f 8, f 9, f 10, f 11, f 12, f 13, f 14, f 15, f 16, f 17, f 18, f 19, f 20, f 21, f 22, f 23, f 24, f 25, f 26, f 27, f 28, f 29, f 30, f 31, f 32, f 33, f 34, f 35, f 36, f 37, f 38, f 39, f 40, f 41, f 42, f 43, f 44, f 45, f 46, f 47, f 48, f 49, f 50, f 51, f 52, f 53, f 54, f 55, f 56, f 57, f 58, f 59, f 60, f 61, f 62, f 63, f 64, f 65, f 66, f 67, f 68, f 69, f 70, f 71, f 72, f 73, f 74, f 75, f 76, f 77, f 78, f 79, f 80, f 81, f 82, f 83, f 84, f 85, f 86, f 87, f 88, f 89, f 90, f 91, f 92, f 93, f 94, f 95, f 96, f 97, f 98, f 99, f 100, f 101, f 102, f 103, f 104, f 105, f 106, f 107, f 108, f 109, f 110, f 111, f 112, f 113, f 114, f 115, f 116, f 117, f 118, f 119, f 120, f 121, f 122, f 123, f 124, f 125, f 126, f 127, f 128, f 129, f 130, f 131, f 132, f 133, f 134, f 135, f 136, f 137, f 138, f 139, f 140, f 141, f 142, f 143, f 144, f 145, f 146, f 147, f 148, f 149, f 150, f 151, f 152, f 153, f 154, f 155, f 156, f 157, f 158, f 159, f 160, f 161, f 162, f 163, f 164, f 165, f 166], []⟩ _
  rw [h0, h1, h4]
  clear h0 h1 h4
  by_cases hn : 2 ≤ n
  · have c1 : decide ((2 : Int) ≤ (n : Int)) = true := decide_eq_true (by omega)
    obtain ⟨q0, hq00, hq0'⟩ : ∃ q0 : Nat, (x : Int).tmod 100 = (q0 : Int) ∧ Hid (q0 = x % 100) := ⟨x % 100, by rw [Int.tmod_eq_emod_of_nonneg (by omega)]; omega, rfl⟩
    obtain ⟨z, hz0, hz⟩ : ∃ z : Nat, (x : Int).tdiv 100 = (z : Int) ∧ Hid (z = x / 100) := ⟨x / 100, by rw [Int.tdiv_eq_ediv_of_nonneg (by omega)]; omega, rfl⟩
    unfold Hid at hz hq0'
    have wz : IntKind.u32.wrap (z : Int) = (z : Int) := by simp [IntKind.wrap, IntKind.bits, IntKind.signed]; omega
    have l4 : q0 < 100 := by omega
    have fb : ∀ k : Nat, k < 100 → IntKind.u32.wrap ((k : Int) * 2) = (k : Int) * 2 ∧ IntKind.u32.wrap ((k : Int) * 2 + 1) = (k : Int) * 2 + 1 := fun k hk => by
      constructor <;> (simp [IntKind.wrap, IntKind.bits, IntKind.signed]; omega)
    obtain ⟨m4, m4'⟩ := fb q0 l4
    clear fb
    change Hid (z = x / 100) at hz
    change Hid (q0 = x % 100) at hq0'
    have dg : ∀ k : Nat, ∃ e : Nat, Hid (e = 48 + k % 10) := fun k => ⟨_, rfl⟩
    have dh : ∀ k : Nat, ∃ e : Nat, Hid (e = 48 + k / 10 % 10) := fun k => ⟨_, rfl⟩
    obtain ⟨e1, he1⟩ := dg q0
    obtain ⟨e2, he2⟩ := dh q0
    clear dg dh
    have hnL : n ≤ L := hF.2.1
    obtain ⟨n1, wn1, b1, hn1⟩ : ∃ m : Nat, IntKind.i64.wrap ((n : Int) - 1) = (m : Int) ∧ m < L ∧ Hid (m = n - 1) := ⟨n - 1, by simp [IntKind.wrap, IntKind.bits, IntKind.signed]; omega, by omega, rfl⟩
    obtain ⟨n2, wn2, b2, hn2⟩ : ∃ m : Nat, IntKind.i64.wrap ((n : Int) - 2) = (m : Int) ∧ m < L ∧ Hid (m = n - 2) := ⟨n - 2, by simp [IntKind.wrap, IntKind.bits, IntKind.signed]; omega, by omega, rfl⟩
    have hB := hF.bk
    repeat (first
      | ((with_reducible refine lst_free ?_ ?_ (fun K hK => ?_)); (focus with_reducible rfl); (focus (intro ht; refine fine_none ?_ ht; (focus (first | (with_reducible apply only_idle); (focus decide) | (with_reducible apply only_turn); (focus rfl); (focus rfl); (focus kernel_rfl) | exact only_calc rfl rfl rfl | exact only_check rfl rfl | exact only_cap rfl rfl | exact only_min rfl rfl rfl | exact only_max rfl rfl rfl)))); go_simp; refine hK _ _ _ ?_; clear hK K)
      | ((with_reducible refine lst_off (i := ?_) (b := ?_) (d := ?_) ?_ ?_ ?_ ?_); rotate_left 3; (focus with_reducible rfl); (focus rfl); (focus (simp only [List.getElem?_toArray, List.getElem?_cons_succ, List.getElem?_cons_zero, Bool.not_true, Bool.not_false])); simp only [Act.put, List.setIfInBounds_toArray, List.set_cons_zero, List.set_cons_succ])
      | ((with_reducible refine lst_on (i := ?_) (b := ?_) (d := ?_) ?_ ?_ ?_ ?_ (fun K hK => ?_)); rotate_left 3; (focus with_reducible rfl); (focus rfl); (focus (simp only [List.getElem?_toArray, List.getElem?_cons_succ, List.getElem?_cons_zero])); (focus (intro ht; refine fine_none ?_ ht; (focus (first | (with_reducible apply only_idle); (focus decide) | (with_reducible apply only_turn); (focus rfl); (focus rfl); (focus kernel_rfl) | exact only_calc rfl rfl rfl | exact only_check rfl rfl | exact only_cap rfl rfl | exact only_min rfl rfl rfl | exact only_max rfl rfl rfl)))); go_simp; refine hK _ _ _ ?_; clear hK K)
      | ((with_reducible refine lst_undef (i := ?_) (b := ?_) (d := ?_) ?_ ?_ ?_ ?_); rotate_left 3; (focus with_reducible rfl); (focus rfl); (focus (simp only [List.getElem?_toArray, List.getElem?_cons_succ, List.getElem?_cons_zero])); simp only [Act.put, List.setIfInBounds_toArray, List.set_cons_zero, List.set_cons_succ])
      | (with_reducible apply lst_nil)
      | ((fail_if_success (with_reducible refine lst_any ?_)); first
      | (with_reducible apply j_seq) | (with_reducible apply j_block) | (with_reducible apply j_ret) | (with_reducible apply j_skip) | (with_reducible apply j_exit) | (with_reducible apply j_label) | (with_reducible apply j_region_lit)
      | ((with_reducible refine j_true ?_ ?_); (focus rfl)) | ((with_reducible refine j_false ?_ ?_); (focus rfl))
      | (with_reducible show Then _ _ _ _ _ _; simp only [Then])
      | (with_reducible show InBlock _ _ _ _ _ _; simp only [InBlock, ↓reduceIte, Nat.reduceEqDiff])))
    refine j_region_dl [0, 0, 2, 0, 0, 16, 0, 64, 192, 0, 512, 455, 2503, 8191, 16383] [0, 1, 2, 3, 4, 5, 6, 7, 8, 9, 10, 11, 12, 13, 14] (fun _ => True) rfl (by decide +kernel) (by repeat (first | assumption | exact loose_body | (with_reducible apply loose_then) | (with_reducible apply loose_block) | (with_reducible apply loose_noGoto) | (with_reducible apply loose_jump))) ?_ ?_
    focus trivial
    repeat (first
      | (with_reducible apply dl_nil)
      | ((with_reducible apply dl_skip); (focus rfl); (focus rfl); (focus trivial); simp only [Act.put, List.setIfInBounds_toArray, List.set_cons_zero, List.set_cons_succ])
      | ((with_reducible apply dl_calm); (focus rfl); (focus rfl); (focus rfl); (focus (first | (with_reducible apply only_idle); (focus decide) | (with_reducible apply only_turn); (focus rfl); (focus rfl); (focus kernel_rfl) | exact only_calc rfl rfl rfl | exact only_check rfl rfl | exact only_cap rfl rfl | exact only_min rfl rfl rfl | exact only_max rfl rfl rfl)); (focus (intro wS hS;  go_simp; try rfl)); simp only [Act.put, List.setIfInBounds_toArray, List.set_cons_zero, List.set_cons_succ])
      | (with_reducible show Then _ _ _ _ _ _; simp only [Then])
      | (with_reducible show InBlock _ _ _ _ _ _; simp only [InBlock, ↓reduceIte, Nat.reduceEqDiff]))
    refine dl_calm (o := ?_) (v := .int .u8 ((e1 : Nat) : Int)) ?_ ?_ ?_ ?_ ?_ ?_
    rotate_left 1
    focus rfl
    focus rfl
    focus rfl
    focus (first | (with_reducible apply only_idle); (focus decide) | (with_reducible apply only_turn); (focus rfl); (focus rfl); (focus kernel_rfl) | exact only_calc rfl rfl rfl | exact only_check rfl rfl | exact only_cap rfl rfl | exact only_min rfl rfl rfl | exact only_max rfl rfl rfl)
    focus exact fun wS _ => exec_smalls1 (y := (.tmp 152)) rfl (by kernel_rfl) rfl l4 he1
    simp only [Act.put, List.setIfInBounds_toArray, List.set_cons_zero, List.set_cons_succ]
    repeat (first
      | (with_reducible apply dl_nil)
      | ((with_reducible apply dl_skip); (focus rfl); (focus rfl); (focus trivial); simp only [Act.put, List.setIfInBounds_toArray, List.set_cons_zero, List.set_cons_succ])
      | ((with_reducible apply dl_calm); (focus rfl); (focus rfl); (focus rfl); (focus (first | (with_reducible apply only_idle); (focus decide) | (with_reducible apply only_turn); (focus rfl); (focus rfl); (focus kernel_rfl) | exact only_calc rfl rfl rfl | exact only_check rfl rfl | exact only_cap rfl rfl | exact only_min rfl rfl rfl | exact only_max rfl rfl rfl)); (focus (intro wS hS;  go_simp; try rfl)); simp only [Act.put, List.setIfInBounds_toArray, List.set_cons_zero, List.set_cons_succ])
      | (with_reducible show Then _ _ _ _ _ _; simp only [Then])
      | (with_reducible show InBlock _ _ _ _ _ _; simp only [InBlock, ↓reduceIte, Nat.reduceEqDiff]))
    refine dl_calm (o := ?_) (v := .int .u8 ((e2 : Nat) : Int)) ?_ ?_ ?_ ?_ ?_ ?_
    rotate_left 1
    focus rfl
    focus rfl
    focus rfl
    focus (first | (with_reducible apply only_idle); (focus decide) | (with_reducible apply only_turn); (focus rfl); (focus rfl); (focus kernel_rfl) | exact only_calc rfl rfl rfl | exact only_check rfl rfl | exact only_cap rfl rfl | exact only_min rfl rfl rfl | exact only_max rfl rfl rfl)
    focus exact fun wS _ => exec_smalls0 (y := (.tmp 154)) rfl (by kernel_rfl) rfl l4 he2
    simp only [Act.put, List.setIfInBounds_toArray, List.set_cons_zero, List.set_cons_succ]
    repeat (first
      | (with_reducible apply dl_nil)
      | ((with_reducible apply dl_skip); (focus rfl); (focus rfl); (focus trivial); simp only [Act.put, List.setIfInBounds_toArray, List.set_cons_zero, List.set_cons_succ])
      | ((with_reducible apply dl_calm); (focus rfl); (focus rfl); (focus rfl); (focus (first | (with_reducible apply only_idle); (focus decide) | (with_reducible apply only_turn); (focus rfl); (focus rfl); (focus kernel_rfl) | exact only_calc rfl rfl rfl | exact only_check rfl rfl | exact only_cap rfl rfl | exact only_min rfl rfl rfl | exact only_max rfl rfl rfl)); (focus (intro wS hS;  go_simp; try rfl)); simp only [Act.put, List.setIfInBounds_toArray, List.set_cons_zero, List.set_cons_succ])
      | (with_reducible show Then _ _ _ _ _ _; simp only [Then])
      | (with_reducible show InBlock _ _ _ _ _ _; simp only [InBlock, ↓reduceIte, Nat.reduceEqDiff]))
    obtain ⟨v1, k1⟩ := hB.cell (i := o + n1) (by omega)
    have z1 := hB.frozen (o + n1)
    refine dl_act (o := ?_) ?_ ?_ ?_ ?_ (fun K hK => ?_)
    rotate_left 1
    focus rfl
    focus rfl
    focus rfl
    focus exact fun ht => fine_store rfl rfl k1 hg ht
    go_simp
    refine hK _ _ _ ⟨fun _ => True, trivial, fun _ => rfl, ?_⟩
    clear hK K
    have hB1 := hB.set (o + n1) (.int .u8 (e1 : Int))
    obtain ⟨v2, k2⟩ := hB1.cell (i := o + n2) (by omega)
    clear k1 z1
    have z2 := hB1.frozen (o + n2)
    repeat (first
      | (with_reducible apply dl_nil)
      | ((with_reducible apply dl_skip); (focus rfl); (focus rfl); (focus trivial); simp only [Act.put, List.setIfInBounds_toArray, List.set_cons_zero, List.set_cons_succ])
      | ((with_reducible apply dl_calm); (focus rfl); (focus rfl); (focus rfl); (focus (first | (with_reducible apply only_idle); (focus decide) | (with_reducible apply only_turn); (focus rfl); (focus rfl); (focus kernel_rfl) | exact only_calc rfl rfl rfl | exact only_check rfl rfl | exact only_cap rfl rfl | exact only_min rfl rfl rfl | exact only_max rfl rfl rfl)); (focus (intro wS hS;  go_simp; try rfl)); simp only [Act.put, List.setIfInBounds_toArray, List.set_cons_zero, List.set_cons_succ])
      | (with_reducible show Then _ _ _ _ _ _; simp only [Then])
      | (with_reducible show InBlock _ _ _ _ _ _; simp only [InBlock, ↓reduceIte, Nat.reduceEqDiff]))
    refine dl_act (o := ?_) ?_ ?_ ?_ ?_ (fun K hK => ?_)
    rotate_left 1
    focus rfl
    focus rfl
    focus rfl
    focus exact fun ht => fine_store rfl rfl k2 hg ht
    go_simp
    refine hK _ _ _ ⟨fun _ => True, trivial, fun _ => rfl, ?_⟩
    clear hK K
    clear k2 z2
    repeat (first
      | (with_reducible apply dl_nil)
      | ((with_reducible apply dl_skip); (focus rfl); (focus rfl); (focus trivial); simp only [Act.put, List.setIfInBounds_toArray, List.set_cons_zero, List.set_cons_succ])
      | ((with_reducible apply dl_calm); (focus rfl); (focus rfl); (focus rfl); (focus (first | (with_reducible apply only_idle); (focus decide) | (with_reducible apply only_turn); (focus rfl); (focus rfl); (focus kernel_rfl) | exact only_calc rfl rfl rfl | exact only_check rfl rfl | exact only_cap rfl rfl | exact only_min rfl rfl rfl | exact only_max rfl rfl rfl)); (focus (intro wS hS;  go_simp; try rfl)); simp only [Act.put, List.setIfInBounds_toArray, List.set_cons_zero, List.set_cons_succ])
      | (with_reducible show Then _ _ _ _ _ _; simp only [Then])
      | (with_reducible show InBlock _ _ _ _ _ _; simp only [InBlock, ↓reduceIte, Nat.reduceEqDiff]))
    repeat (first
      | ((with_reducible refine lst_free ?_ ?_ (fun K hK => ?_)); (focus with_reducible rfl); (focus (intro ht; refine fine_none ?_ ht; (focus (first | (with_reducible apply only_idle); (focus decide) | (with_reducible apply only_turn); (focus rfl); (focus rfl); (focus kernel_rfl) | exact only_calc rfl rfl rfl | exact only_check rfl rfl | exact only_cap rfl rfl | exact only_min rfl rfl rfl | exact only_max rfl rfl rfl)))); go_simp; refine hK _ _ _ ?_; clear hK K)
      | ((with_reducible refine lst_off (i := ?_) (b := ?_) (d := ?_) ?_ ?_ ?_ ?_); rotate_left 3; (focus with_reducible rfl); (focus rfl); (focus (simp only [List.getElem?_toArray, List.getElem?_cons_succ, List.getElem?_cons_zero, Bool.not_true, Bool.not_false])); simp only [Act.put, List.setIfInBounds_toArray, List.set_cons_zero, List.set_cons_succ])
      | ((with_reducible refine lst_on (i := ?_) (b := ?_) (d := ?_) ?_ ?_ ?_ ?_ (fun K hK => ?_)); rotate_left 3; (focus with_reducible rfl); (focus rfl); (focus (simp only [List.getElem?_toArray, List.getElem?_cons_succ, List.getElem?_cons_zero])); (focus (intro ht; refine fine_none ?_ ht; (focus (first | (with_reducible apply only_idle); (focus decide) | (with_reducible apply only_turn); (focus rfl); (focus rfl); (focus kernel_rfl) | exact only_calc rfl rfl rfl | exact only_check rfl rfl | exact only_cap rfl rfl | exact only_min rfl rfl rfl | exact only_max rfl rfl rfl)))); go_simp; refine hK _ _ _ ?_; clear hK K)
      | ((with_reducible refine lst_undef (i := ?_) (b := ?_) (d := ?_) ?_ ?_ ?_ ?_); rotate_left 3; (focus with_reducible rfl); (focus rfl); (focus (simp only [List.getElem?_toArray, List.getElem?_cons_succ, List.getElem?_cons_zero])); simp only [Act.put, List.setIfInBounds_toArray, List.set_cons_zero, List.set_cons_succ])
      | (with_reducible apply lst_nil)
      | ((fail_if_success (with_reducible refine lst_any ?_)); first
      | (with_reducible apply j_seq) | (with_reducible apply j_block) | (with_reducible apply j_ret) | (with_reducible apply j_skip) | (with_reducible apply j_exit) | (with_reducible apply j_label) | (with_reducible apply j_region_lit)
      | ((with_reducible refine j_true ?_ ?_); (focus rfl)) | ((with_reducible refine j_false ?_ ?_); (focus rfl))
      | (with_reducible show Then _ _ _ _ _ _; simp only [Then])
      | (with_reducible show InBlock _ _ _ _ _ _; simp only [InBlock, ↓reduceIte, Nat.reduceEqDiff])))
    have hF' := hF.two2 (n1 := n1) (n2 := n2) (e1 := e1) (e0 := e2) (by unfold Hid at *; omega) (by unfold Hid at *; omega) (by unfold Hid at *; omega) (by unfold Hid at *; omega) (by unfold Hid at *; omega)
    have hC' := ((hC.set_ (p := ⟨g, o + n1, none⟩) rfl (.int .u8 (e1 : Int))).set_ (p := ⟨g, o + n2, none⟩) rfl (.int .u8 (e2 : Int))).drew
    generalize ((W.setCell ⟨g, o + n1, none⟩ (.int .u8 (e1 : Int))).setCell ⟨g, o + n2, none⟩ (.int .u8 (e2 : Int))).drew = W at hF' hC' ⊢
    clear hB hB1 hF hC
    have hF := hF'
    have hC := hC'
    clear hF' hC'
    have hB := hF.bk
    have e8' : n2 = n - 2 := hn2
    have ez : z = x / 100 := hz
    rw [← ez] at hF
    exact hQ _ _ _ _ (.inr ⟨e8', hn⟩) (show z ≤ x by omega) ⟨rfl, rfl, rfl, rfl, rfl⟩ hF hC
  · have c1 : decide ((2 : Int) ≤ (n : Int)) = false := decide_eq_false (by omega)
    repeat (first
      | ((with_reducible refine lst_free ?_ ?_ (fun K hK => ?_)); (focus with_reducible rfl); (focus (intro ht; refine fine_none ?_ ht; (focus (first | (with_reducible apply only_idle); (focus decide) | (with_reducible apply only_turn); (focus rfl); (focus rfl); (focus kernel_rfl) | exact only_calc rfl rfl rfl | exact only_check rfl rfl | exact only_cap rfl rfl | exact only_min rfl rfl rfl | exact only_max rfl rfl rfl)))); go_simp; refine hK _ _ _ ?_; clear hK K)
      | ((with_reducible refine lst_off (i := ?_) (b := ?_) (d := ?_) ?_ ?_ ?_ ?_); rotate_left 3; (focus with_reducible rfl); (focus rfl); (focus (simp only [List.getElem?_toArray, List.getElem?_cons_succ, List.getElem?_cons_zero, Bool.not_true, Bool.not_false])); simp only [Act.put, List.setIfInBounds_toArray, List.set_cons_zero, List.set_cons_succ])
      | ((with_reducible refine lst_on (i := ?_) (b := ?_) (d := ?_) ?_ ?_ ?_ ?_ (fun K hK => ?_)); rotate_left 3; (focus with_reducible rfl); (focus rfl); (focus (simp only [List.getElem?_toArray, List.getElem?_cons_succ, List.getElem?_cons_zero])); (focus (intro ht; refine fine_none ?_ ht; (focus (first | (with_reducible apply only_idle); (focus decide) | (with_reducible apply only_turn); (focus rfl); (focus rfl); (focus kernel_rfl) | exact only_calc rfl rfl rfl | exact only_check rfl rfl | exact only_cap rfl rfl | exact only_min rfl rfl rfl | exact only_max rfl rfl rfl)))); go_simp; refine hK _ _ _ ?_; clear hK K)
      | ((with_reducible refine lst_undef (i := ?_) (b := ?_) (d := ?_) ?_ ?_ ?_ ?_); rotate_left 3; (focus with_reducible rfl); (focus rfl); (focus (simp only [List.getElem?_toArray, List.getElem?_cons_succ, List.getElem?_cons_zero])); simp only [Act.put, List.setIfInBounds_toArray, List.set_cons_zero, List.set_cons_succ])
      | (with_reducible apply lst_nil)
      | ((fail_if_success (with_reducible refine lst_any ?_)); first
      | (with_reducible apply j_seq) | (with_reducible apply j_block) | (with_reducible apply j_ret) | (with_reducible apply j_skip) | (with_reducible apply j_exit) | (with_reducible apply j_label) | (with_reducible apply j_region_lit)
      | ((with_reducible refine j_true ?_ ?_); (focus rfl)) | ((with_reducible refine j_false ?_ ?_); (focus rfl))
      | (with_reducible show Then _ _ _ _ _ _; simp only [Then])
      | (with_reducible show InBlock _ _ _ _ _ _; simp only [InBlock, ↓reduceIte, Nat.reduceEqDiff])))
    exact hQ _ _ _ _ (.inl ⟨rfl, by omega⟩) (Nat.le_refl x) ⟨rfl, rfl, rfl, rfl, rfl⟩ hF hC
end
end Go.Proofs.YtgchailmcbifdaaDoor.Jg
