/- The statements' own check of three answers. -/
import Derived.Test.YtgchailmcbifdaaDoorJgS
namespace Go.Proofs.YtgchailmcbifdaaDoor.Jg
set_option linter.unusedSimpArgs false
set_option linter.unusedVariables false
set_option maxRecDepth 20000
open Go Go.Conc Go.RowKit Go.Proofs.YtgchailmcbifdaaDoor.Jay Go.Proofs.YtgchailmcbifdaaDoor.Pl
section
variable {γ : Type} {X : Turns γ} {s : γ} {w : World}
attribute [local go_sem] upon_value upon_skip

def l3 : List Cl := [⟨0, 1, 1, 0, 1, 0, 0⟩, ⟨0, 1, 2, 2, 3, 0, 0⟩, ⟨0, 2, 0, 4, 5, 0, 2⟩]
def l4 : List Cl := l3 ++ [⟨0, 4, 0, 0, 0, 0, 0⟩]
theorem l3_no : ¬ Path 1 1 l3 (ob l3 l3.length) 0 [] := by
  intro h
  have := pathB_full h (n := 3) (by decide)
  revert this
  decide
theorem l3_yes : Path 1 2 l3 (ob l3 l3.length) 0 [] := pathB_sound (n := 3) (by decide)
theorem l3_may (K : Int) (hK : K = 1 ∨ K = 2) : (mayB 1 K 1 2 && allMay l3) = true := by rcases hK with rfl | rfl <;> decide
theorem l4_may : (mayB 1 2 1 2 && allMay l4) = false := by decide
theorem l3_good : ∀ x ∈ l3, 0 ≤ x.val ∧ x.val < 4294967296 := by decide
theorem l4_good : ∀ x ∈ l4, 0 ≤ x.val ∧ x.val < 4294967296 := by decide
theorem info_call : (Tryd.prog.info? 32).map (fun i => (i.zero, i.size, i.bytes)) = some (some (.agg #[.int .i64 0, .int .i64 0, .int .u32 0, .int .i64 0, .int .i64 0, .int .i64 0, .int .u32 0]), 7, 56) := by kernel_rfl
theorem under_calls : Tryd.prog.underlying 24 = some (.slice 32) := by kernel_rfl
/-- A block's cells are kept. -/
def Cp (W : World) (g : Nat) (W' : World) : Prop := ∀ i : Nat, W'.cell? ⟨g, i, none⟩ = W.cell? ⟨g, i, none⟩
def AwPost {γ : Type} (s : γ) (w : World) (s' : γ) (r : Came) (w' : World) : Prop := s' = s ∧ Below w.heap.size w w' ∧ r = .back (.bool true)
set_option maxHeartbeats 16000000 in
theorem awake_ok (hT : Tab w) : Jdo Tryd.prog X 4 #[] s w (AwPost s w) := by
  refine Jdo.there fun ht => ?_
  have hoth : ∀ b, w.heap.size ≤ b → ¬ X.oth s b := fun b hb ho => by have := ht b ho; omega
  refine jdo_of Tryd.func4 rfl ?_
  simp only [Tryd.ntmps4, List.size_toArray, List.length_cons, List.length_nil, Nat.reduceAdd, Nat.reduceSub, Array.replicate_succ, Array.replicate_zero, List.push_toArray, List.append_toArray, List.nil_append, List.cons_append]
  repeat (first
    | ((with_reducible refine lst_free ?_ ?_ (fun K hK => ?_)); (focus with_reducible rfl); (focus (intro ht; refine fine_none ?_ ht; (focus (first | (with_reducible apply only_idle); (focus decide) | (with_reducible apply only_turn); (focus rfl); (focus rfl); (focus kernel_rfl) | exact only_calc rfl rfl rfl | exact only_check rfl rfl | exact only_cap rfl rfl | exact only_min rfl rfl rfl | exact only_max rfl rfl rfl)))); go_simp; refine hK _ _ _ ?_; clear hK K)
    | ((with_reducible refine lst_off (i := ?_) (b := ?_) (d := ?_) ?_ ?_ ?_ ?_); rotate_left 3; (focus with_reducible rfl); (focus rfl); (focus (simp only [List.getElem?_toArray, List.getElem?_cons_succ, List.getElem?_cons_zero, Bool.not_true, Bool.not_false])); simp only [Act.put, List.setIfInBounds_toArray, List.set_cons_zero, List.set_cons_succ])
    | ((with_reducible refine lst_on (i := ?_) (b := ?_) (d := ?_) ?_ ?_ ?_ ?_ (fun K hK => ?_)); rotate_left 3; (focus with_reducible rfl); (focus rfl); (focus (simp only [List.getElem?_toArray, List.getElem?_cons_succ, List.getElem?_cons_zero])); (focus (intro ht; refine fine_none ?_ ht; (focus (first | (with_reducible apply only_idle); (focus decide) | (with_reducible apply only_turn); (focus rfl); (focus rfl); (focus kernel_rfl) | exact only_calc rfl rfl rfl | exact only_check rfl rfl | exact only_cap rfl rfl | exact only_min rfl rfl rfl | exact only_max rfl rfl rfl)))); go_simp; refine hK _ _ _ ?_; clear hK K)
    | ((with_reducible refine lst_undef (i := ?_) (b := ?_) (d := ?_) ?_ ?_ ?_ ?_); rotate_left 3; (focus with_reducible rfl); (focus rfl); (focus (simp only [List.getElem?_toArray, List.getElem?_cons_succ, List.getElem?_cons_zero])); simp only [Act.put, List.setIfInBounds_toArray, List.set_cons_zero, List.set_cons_succ])
    | (with_reducible apply lst_nil)
    | ((fail_if_success (with_reducible refine lst_any ?_)); first
    | (with_reducible apply j_seq) | (with_reducible apply j_block) | (with_reducible apply j_ret) | (with_reducible apply j_skip) | (with_reducible apply j_exit) | (with_reducible apply j_label) | (with_reducible apply j_region_lit)
    | ((with_reducible refine j_true ?_ ?_); (focus rfl)) | ((with_reducible refine j_false ?_ ?_); (focus rfl))
    | (with_reducible show Then _ _ _ _ _ _; simp only [Then])
    | (with_reducible show InBlock _ _ _ _ _ _; simp only [InBlock, ↓reduceIte, Nat.reduceEqDiff])))
  refine lst_one (one_store (v := .agg #[.int .i64 1, .int .i64 1, .int .i64 1, .int .i64 2]) (cs' := #[.int .i64 1, .int .i64 1, .int .i64 1, .int .i64 2]) rfl rfl rfl rfl (Blk.new w _ _) (hoth _ (Nat.le_refl _)) (by kernel_rfl) (Nat.le_of_ble_eq_true rfl) (by simp [Value.cells, Value.oneCell']) rfl ?_)
  simp only [Act.put, List.setIfInBounds_toArray, List.set_cons_zero, List.set_cons_succ]
  have b1 := (Blk.new w 23 #[.int .i64 0, .int .i64 0, .int .i64 0, .int .i64 0]).row #[.int .i64 1, .int .i64 1, .int .i64 1, .int .i64 2]
  have hb1 : Below (World.heap w).size w _ := Below_row ((Below.refl _ _).alloc (Nat.le_refl _) (.cells #[.int .i64 0, .int .i64 0, .int .i64 0, .int .i64 0] 23)) #[.int .i64 1, .int .i64 1, .int .i64 1, .int .i64 2] (Nat.le_refl _)
  generalize hKV : (World.alloc w (.cells #[.int .i64 0, .int .i64 0, .int .i64 0, .int .i64 0] 23)).setRow (World.heap w).size #[.int .i64 1, .int .i64 1, .int .i64 1, .int .i64 2] = W1 at b1 hb1 ⊢
  clear hKV
  have d1 := b1.cell
  have l1 := b1.lt
  repeat (first
    | ((with_reducible refine lst_free ?_ ?_ (fun K hK => ?_)); (focus with_reducible rfl); (focus (intro ht; refine fine_none ?_ ht; (focus (first | (with_reducible apply only_idle); (focus decide) | (with_reducible apply only_turn); (focus rfl); (focus rfl); (focus kernel_rfl) | exact only_calc rfl rfl rfl | exact only_check rfl rfl | exact only_cap rfl rfl | exact only_min rfl rfl rfl | exact only_max rfl rfl rfl)))); go_simp; refine hK _ _ _ ?_; clear hK K)
    | ((with_reducible refine lst_off (i := ?_) (b := ?_) (d := ?_) ?_ ?_ ?_ ?_); rotate_left 3; (focus with_reducible rfl); (focus rfl); (focus (simp only [List.getElem?_toArray, List.getElem?_cons_succ, List.getElem?_cons_zero, Bool.not_true, Bool.not_false])); simp only [Act.put, List.setIfInBounds_toArray, List.set_cons_zero, List.set_cons_succ])
    | ((with_reducible refine lst_on (i := ?_) (b := ?_) (d := ?_) ?_ ?_ ?_ ?_ (fun K hK => ?_)); rotate_left 3; (focus with_reducible rfl); (focus rfl); (focus (simp only [List.getElem?_toArray, List.getElem?_cons_succ, List.getElem?_cons_zero])); (focus (intro ht; refine fine_none ?_ ht; (focus (first | (with_reducible apply only_idle); (focus decide) | (with_reducible apply only_turn); (focus rfl); (focus rfl); (focus kernel_rfl) | exact only_calc rfl rfl rfl | exact only_check rfl rfl | exact only_cap rfl rfl | exact only_min rfl rfl rfl | exact only_max rfl rfl rfl)))); go_simp; refine hK _ _ _ ?_; clear hK K)
    | ((with_reducible refine lst_undef (i := ?_) (b := ?_) (d := ?_) ?_ ?_ ?_ ?_); rotate_left 3; (focus with_reducible rfl); (focus rfl); (focus (simp only [List.getElem?_toArray, List.getElem?_cons_succ, List.getElem?_cons_zero])); simp only [Act.put, List.setIfInBounds_toArray, List.set_cons_zero, List.set_cons_succ])
    | (with_reducible apply lst_nil)
    | ((fail_if_success (with_reducible refine lst_any ?_)); first
    | (with_reducible apply j_seq) | (with_reducible apply j_block) | (with_reducible apply j_ret) | (with_reducible apply j_skip) | (with_reducible apply j_exit) | (with_reducible apply j_label) | (with_reducible apply j_region_lit)
    | ((with_reducible refine j_true ?_ ?_); (focus rfl)) | ((with_reducible refine j_false ?_ ?_); (focus rfl))
    | (with_reducible show Then _ _ _ _ _ _; simp only [Then])
    | (with_reducible show InBlock _ _ _ _ _ _; simp only [InBlock, ↓reduceIte, Nat.reduceEqDiff])))
  refine lst_one (one_store (v := .agg #[.int .i64 1, .int .i64 1, .int .i64 1, .int .i64 2]) (cs' := #[.int .i64 1, .int .i64 1, .int .i64 1, .int .i64 2]) rfl rfl rfl rfl (Blk.new W1 _ _) (hoth _ (hb1.size)) (by kernel_rfl) (Nat.le_of_ble_eq_true rfl) (by simp [Value.cells, Value.oneCell']) rfl ?_)
  simp only [Act.put, List.setIfInBounds_toArray, List.set_cons_zero, List.set_cons_succ]
  have b2 := (Blk.new W1 23 #[.int .i64 0, .int .i64 0, .int .i64 0, .int .i64 0]).row #[.int .i64 1, .int .i64 1, .int .i64 1, .int .i64 2]
  have hb2 : Below (World.heap W1).size W1 _ := Below_row ((Below.refl _ _).alloc (Nat.le_refl _) (.cells #[.int .i64 0, .int .i64 0, .int .i64 0, .int .i64 0] 23)) #[.int .i64 1, .int .i64 1, .int .i64 1, .int .i64 2] (Nat.le_refl _)
  generalize hKV : (World.alloc W1 (.cells #[.int .i64 0, .int .i64 0, .int .i64 0, .int .i64 0] 23)).setRow (World.heap W1).size #[.int .i64 1, .int .i64 1, .int .i64 1, .int .i64 2] = W2 at b2 hb2 ⊢
  clear hKV
  have g2 := hb1.trans (hb2.mono hb1.size)
  replace b1 := b1.below hb2 l1
  clear d1
  have hne : w.heap.size < W1.heap.size := l1
  generalize W1.heap.size = p2 at b2 hne ⊢
  have d2 := b2.cell
  have l2 := b2.lt
  have hp2 : ¬ X.oth s p2 := hoth _ (by omega)
  have f2 := b2.frozen 1
  repeat (first
    | ((with_reducible refine lst_free ?_ ?_ (fun K hK => ?_)); (focus with_reducible rfl); (focus (intro ht; refine fine_none ?_ ht; (focus (first | (with_reducible apply only_idle); (focus decide) | (with_reducible apply only_turn); (focus rfl); (focus rfl); (focus kernel_rfl) | exact only_calc rfl rfl rfl | exact only_check rfl rfl | exact only_cap rfl rfl | exact only_min rfl rfl rfl | exact only_max rfl rfl rfl)))); go_simp; refine hK _ _ _ ?_; clear hK K)
    | ((with_reducible refine lst_off (i := ?_) (b := ?_) (d := ?_) ?_ ?_ ?_ ?_); rotate_left 3; (focus with_reducible rfl); (focus rfl); (focus (simp only [List.getElem?_toArray, List.getElem?_cons_succ, List.getElem?_cons_zero, Bool.not_true, Bool.not_false])); simp only [Act.put, List.setIfInBounds_toArray, List.set_cons_zero, List.set_cons_succ])
    | ((with_reducible refine lst_on (i := ?_) (b := ?_) (d := ?_) ?_ ?_ ?_ ?_ (fun K hK => ?_)); rotate_left 3; (focus with_reducible rfl); (focus rfl); (focus (simp only [List.getElem?_toArray, List.getElem?_cons_succ, List.getElem?_cons_zero])); (focus (intro ht; refine fine_none ?_ ht; (focus (first | (with_reducible apply only_idle); (focus decide) | (with_reducible apply only_turn); (focus rfl); (focus rfl); (focus kernel_rfl) | exact only_calc rfl rfl rfl | exact only_check rfl rfl | exact only_cap rfl rfl | exact only_min rfl rfl rfl | exact only_max rfl rfl rfl)))); go_simp; refine hK _ _ _ ?_; clear hK K)
    | ((with_reducible refine lst_undef (i := ?_) (b := ?_) (d := ?_) ?_ ?_ ?_ ?_); rotate_left 3; (focus with_reducible rfl); (focus rfl); (focus (simp only [List.getElem?_toArray, List.getElem?_cons_succ, List.getElem?_cons_zero])); simp only [Act.put, List.setIfInBounds_toArray, List.set_cons_zero, List.set_cons_succ])
    | (with_reducible apply lst_nil)
    | ((fail_if_success (with_reducible refine lst_any ?_)); first
    | (with_reducible apply j_seq) | (with_reducible apply j_block) | (with_reducible apply j_ret) | (with_reducible apply j_skip) | (with_reducible apply j_exit) | (with_reducible apply j_label) | (with_reducible apply j_region_lit)
    | ((with_reducible refine j_true ?_ ?_); (focus rfl)) | ((with_reducible refine j_false ?_ ?_); (focus rfl))
    | (with_reducible show Then _ _ _ _ _ _; simp only [Then])
    | (with_reducible show InBlock _ _ _ _ _ _; simp only [InBlock, ↓reduceIte, Nat.reduceEqDiff])))
  refine lst_cons ?_ ?_ (fun K hK => ?_)
  focus rfl
  focus exact fun ht => fine_store rfl rfl (d2 1) hp2 ht
  go_simp
  refine hK _ _ _ ?_
  clear hK K
  have hc3 : Chg (fun b => b = p2) W2 (W2.setCell ⟨p2, 1, none⟩ (.int .i64 2)) := (Chg.refl (fun b => b = p2) W2).set_ (p := ⟨p2, 1, none⟩) rfl _
  have g3 : Below w.heap.size w (W2.setCell ⟨p2, 1, none⟩ (.int .i64 2)) := g2.trans (hc3.below (fun k hk => by omega) g2.size)
  replace b1 := b1.chg hc3 (by omega)
  have b3 : Blk (W2.setCell ⟨p2, 1, none⟩ (.int .i64 2)) p2 23 #[.int .i64 1, .int .i64 2, .int .i64 1, .int .i64 2] := b2.set_ 1 _
  clear d2 l2 f2 b2
  generalize W2.setCell ⟨p2, 1, none⟩ (.int .i64 2) = W3 at hc3 g3 b1 b3 ⊢
  have d1 := b1.cell
  have l1 := b1.lt
  repeat (first
    | ((with_reducible refine lst_free ?_ ?_ (fun K hK => ?_)); (focus with_reducible rfl); (focus (intro ht; refine fine_none ?_ ht; (focus (first | (with_reducible apply only_idle); (focus decide) | (with_reducible apply only_turn); (focus rfl); (focus rfl); (focus kernel_rfl) | exact only_calc rfl rfl rfl | exact only_check rfl rfl | exact only_cap rfl rfl | exact only_min rfl rfl rfl | exact only_max rfl rfl rfl)))); go_simp; refine hK _ _ _ ?_; clear hK K)
    | ((with_reducible refine lst_off (i := ?_) (b := ?_) (d := ?_) ?_ ?_ ?_ ?_); rotate_left 3; (focus with_reducible rfl); (focus rfl); (focus (simp only [List.getElem?_toArray, List.getElem?_cons_succ, List.getElem?_cons_zero, Bool.not_true, Bool.not_false])); simp only [Act.put, List.setIfInBounds_toArray, List.set_cons_zero, List.set_cons_succ])
    | ((with_reducible refine lst_on (i := ?_) (b := ?_) (d := ?_) ?_ ?_ ?_ ?_ (fun K hK => ?_)); rotate_left 3; (focus with_reducible rfl); (focus rfl); (focus (simp only [List.getElem?_toArray, List.getElem?_cons_succ, List.getElem?_cons_zero])); (focus (intro ht; refine fine_none ?_ ht; (focus (first | (with_reducible apply only_idle); (focus decide) | (with_reducible apply only_turn); (focus rfl); (focus rfl); (focus kernel_rfl) | exact only_calc rfl rfl rfl | exact only_check rfl rfl | exact only_cap rfl rfl | exact only_min rfl rfl rfl | exact only_max rfl rfl rfl)))); go_simp; refine hK _ _ _ ?_; clear hK K)
    | ((with_reducible refine lst_undef (i := ?_) (b := ?_) (d := ?_) ?_ ?_ ?_ ?_); rotate_left 3; (focus with_reducible rfl); (focus rfl); (focus (simp only [List.getElem?_toArray, List.getElem?_cons_succ, List.getElem?_cons_zero])); simp only [Act.put, List.setIfInBounds_toArray, List.set_cons_zero, List.set_cons_succ])
    | (with_reducible apply lst_nil)
    | ((fail_if_success (with_reducible refine lst_any ?_)); first
    | (with_reducible apply j_seq) | (with_reducible apply j_block) | (with_reducible apply j_ret) | (with_reducible apply j_skip) | (with_reducible apply j_exit) | (with_reducible apply j_label) | (with_reducible apply j_region_lit)
    | ((with_reducible refine j_true ?_ ?_); (focus rfl)) | ((with_reducible refine j_false ?_ ?_); (focus rfl))
    | (with_reducible show Then _ _ _ _ _ _; simp only [Then])
    | (with_reducible show InBlock _ _ _ _ _ _; simp only [InBlock, ↓reduceIte, Nat.reduceEqDiff])))
  have b3lt := b3.lt
  have b4 := Blk.new W3 32 #[.int .i64 0, .int .i64 1, .int .u32 1, .int .i64 0, .int .i64 1, .int .i64 0, .int .u32 0, .int .i64 0, .int .i64 1, .int .u32 2, .int .i64 2, .int .i64 3, .int .i64 0, .int .u32 0, .int .i64 0, .int .i64 2, .int .u32 0, .int .i64 4, .int .i64 5, .int .i64 0, .int .u32 2]
  have hb4 : Below W3.heap.size W3 (W3.alloc (.cells #[.int .i64 0, .int .i64 1, .int .u32 1, .int .i64 0, .int .i64 1, .int .i64 0, .int .u32 0, .int .i64 0, .int .i64 1, .int .u32 2, .int .i64 2, .int .i64 3, .int .i64 0, .int .u32 0, .int .i64 0, .int .i64 2, .int .u32 0, .int .i64 4, .int .i64 5, .int .i64 0, .int .u32 2] 32)) := (al_ (Below.refl _ _) _)
  have hp4 : w.heap.size ≤ W3.heap.size := g3.size
  generalize W3.alloc (.cells #[.int .i64 0, .int .i64 1, .int .u32 1, .int .i64 0, .int .i64 1, .int .i64 0, .int .u32 0, .int .i64 0, .int .i64 1, .int .u32 2, .int .i64 2, .int .i64 3, .int .i64 0, .int .u32 0, .int .i64 0, .int .i64 2, .int .u32 0, .int .i64 4, .int .i64 5, .int .i64 0, .int .u32 2] 32) = W4 at b4 hb4 ⊢
  replace b1 := b1.below hb4 b1.lt
  replace b3 := b3.below hb4 b3.lt
  have g4 := g3.trans (hb4.mono g3.size)
  have h24 : p2 < W3.heap.size := b3lt
  generalize W3.heap.size = p4 at b4 hp4 h24 ⊢
  clear d1 l1
  have hcl : Cls W4 W4.heap.size (.slice (some ⟨p4, 0, none⟩) 3 3) l3 := Sl.of_blk (n := 3) (size := 7) (c := 3) b4 (by simp) (Nat.le_refl _) (by unfold maxLen; omega) b4.lt
  have hf : Jdo Tryd.prog X 5 #[cfg 1 1 1 2, .slice (some ⟨p4, 0, none⟩) 3 3] s W4 _ := fits_ok (k := 1) (K := 1) (T := 1) (M := 2) (by decide) hcl (by decide) l3_good (hT.below g4 hT.1)
  unfold cfg at hf
  refine lst_call _ rfl ?_ ?_ Tryd.func5 ?_ rfl hf ?_
  focus rfl
  focus first | rfl | (go_simp; done) | (go_simp; rfl)
  focus rfl
  rintro s1 r W5 ⟨rfl, hb5, b, e, rfl, -, hyes⟩
  obtain ⟨rfl, hiff⟩ := hyes (l3_may 1 (.inl rfl))
  obtain rfl : b = false := by
    cases b
    · rfl
    · exact absurd (hiff.1 rfl) l3_no
  clear hyes hiff hf
  simp only [Act.put, List.setIfInBounds_toArray, List.set_cons_zero, List.set_cons_succ]
  have g5 := g4.trans (hb5.mono g4.size)
  replace b1 := b1.below hb5 b1.lt
  replace b3 := b3.below hb5 b3.lt
  replace b4 := b4.below hb5 b4.lt
  have d3 := b3.cell
  have l3' := b3.lt
  repeat (first
    | ((with_reducible refine lst_free ?_ ?_ (fun K hK => ?_)); (focus with_reducible rfl); (focus (intro ht; refine fine_none ?_ ht; (focus (first | (with_reducible apply only_idle); (focus decide) | (with_reducible apply only_turn); (focus rfl); (focus rfl); (focus kernel_rfl) | exact only_calc rfl rfl rfl | exact only_check rfl rfl | exact only_cap rfl rfl | exact only_min rfl rfl rfl | exact only_max rfl rfl rfl)))); go_simp; refine hK _ _ _ ?_; clear hK K)
    | ((with_reducible refine lst_off (i := ?_) (b := ?_) (d := ?_) ?_ ?_ ?_ ?_); rotate_left 3; (focus with_reducible rfl); (focus rfl); (focus (simp only [List.getElem?_toArray, List.getElem?_cons_succ, List.getElem?_cons_zero, Bool.not_true, Bool.not_false])); simp only [Act.put, List.setIfInBounds_toArray, List.set_cons_zero, List.set_cons_succ])
    | ((with_reducible refine lst_on (i := ?_) (b := ?_) (d := ?_) ?_ ?_ ?_ ?_ (fun K hK => ?_)); rotate_left 3; (focus with_reducible rfl); (focus rfl); (focus (simp only [List.getElem?_toArray, List.getElem?_cons_succ, List.getElem?_cons_zero])); (focus (intro ht; refine fine_none ?_ ht; (focus (first | (with_reducible apply only_idle); (focus decide) | (with_reducible apply only_turn); (focus rfl); (focus rfl); (focus kernel_rfl) | exact only_calc rfl rfl rfl | exact only_check rfl rfl | exact only_cap rfl rfl | exact only_min rfl rfl rfl | exact only_max rfl rfl rfl)))); go_simp; refine hK _ _ _ ?_; clear hK K)
    | ((with_reducible refine lst_undef (i := ?_) (b := ?_) (d := ?_) ?_ ?_ ?_ ?_); rotate_left 3; (focus with_reducible rfl); (focus rfl); (focus (simp only [List.getElem?_toArray, List.getElem?_cons_succ, List.getElem?_cons_zero])); simp only [Act.put, List.setIfInBounds_toArray, List.set_cons_zero, List.set_cons_succ])
    | (with_reducible apply lst_nil)
    | ((fail_if_success (with_reducible refine lst_any ?_)); first
    | (with_reducible apply j_seq) | (with_reducible apply j_block) | (with_reducible apply j_ret) | (with_reducible apply j_skip) | (with_reducible apply j_exit) | (with_reducible apply j_label) | (with_reducible apply j_region_lit)
    | ((with_reducible refine j_true ?_ ?_); (focus rfl)) | ((with_reducible refine j_false ?_ ?_); (focus rfl))
    | (with_reducible show Then _ _ _ _ _ _; simp only [Then])
    | (with_reducible show InBlock _ _ _ _ _ _; simp only [InBlock, ↓reduceIte, Nat.reduceEqDiff])))
  have hcl : Cls W5 W5.heap.size (.slice (some ⟨p4, 0, none⟩) 3 3) l3 := Sl.of_blk (n := 3) (size := 7) (c := 3) b4 (by simp) (Nat.le_refl _) (by unfold maxLen; omega) b4.lt
  have hf : Jdo Tryd.prog X 5 #[cfg 1 2 1 2, .slice (some ⟨p4, 0, none⟩) 3 3] s1 W5 _ := fits_ok (k := 1) (K := 2) (T := 1) (M := 2) (by decide) hcl (by decide) l3_good (hT.below g5 hT.1)
  unfold cfg at hf
  refine lst_call _ rfl ?_ ?_ Tryd.func5 ?_ rfl hf ?_
  focus rfl
  focus first | rfl | (go_simp; done) | (go_simp; rfl)
  focus rfl
  rintro s2 r W6 ⟨rfl, hb6, b, e, rfl, -, hyes⟩
  obtain ⟨rfl, hiff⟩ := hyes (l3_may 2 (.inr rfl))
  obtain rfl : b = true := hiff.2 l3_yes
  clear hyes hiff hf d3 l3'
  simp only [Act.put, List.setIfInBounds_toArray, List.set_cons_zero, List.set_cons_succ]
  have g6 := g5.trans (hb6.mono g5.size)
  replace b1 := b1.below hb6 b1.lt
  replace b3 := b3.below hb6 b3.lt
  replace b4 := b4.below hb6 b4.lt
  have d3 := b3.cell
  have l3' := b3.lt
  repeat (first
    | ((with_reducible refine lst_free ?_ ?_ (fun K hK => ?_)); (focus with_reducible rfl); (focus (intro ht; refine fine_none ?_ ht; (focus (first | (with_reducible apply only_idle); (focus decide) | (with_reducible apply only_turn); (focus rfl); (focus rfl); (focus kernel_rfl) | exact only_calc rfl rfl rfl | exact only_check rfl rfl | exact only_cap rfl rfl | exact only_min rfl rfl rfl | exact only_max rfl rfl rfl)))); go_simp; refine hK _ _ _ ?_; clear hK K)
    | ((with_reducible refine lst_off (i := ?_) (b := ?_) (d := ?_) ?_ ?_ ?_ ?_); rotate_left 3; (focus with_reducible rfl); (focus rfl); (focus (simp only [List.getElem?_toArray, List.getElem?_cons_succ, List.getElem?_cons_zero, Bool.not_true, Bool.not_false])); simp only [Act.put, List.setIfInBounds_toArray, List.set_cons_zero, List.set_cons_succ])
    | ((with_reducible refine lst_on (i := ?_) (b := ?_) (d := ?_) ?_ ?_ ?_ ?_ (fun K hK => ?_)); rotate_left 3; (focus with_reducible rfl); (focus rfl); (focus (simp only [List.getElem?_toArray, List.getElem?_cons_succ, List.getElem?_cons_zero])); (focus (intro ht; refine fine_none ?_ ht; (focus (first | (with_reducible apply only_idle); (focus decide) | (with_reducible apply only_turn); (focus rfl); (focus rfl); (focus kernel_rfl) | exact only_calc rfl rfl rfl | exact only_check rfl rfl | exact only_cap rfl rfl | exact only_min rfl rfl rfl | exact only_max rfl rfl rfl)))); go_simp; refine hK _ _ _ ?_; clear hK K)
    | ((with_reducible refine lst_undef (i := ?_) (b := ?_) (d := ?_) ?_ ?_ ?_ ?_); rotate_left 3; (focus with_reducible rfl); (focus rfl); (focus (simp only [List.getElem?_toArray, List.getElem?_cons_succ, List.getElem?_cons_zero])); simp only [Act.put, List.setIfInBounds_toArray, List.set_cons_zero, List.set_cons_succ])
    | (with_reducible apply lst_nil)
    | ((fail_if_success (with_reducible refine lst_any ?_)); first
    | (with_reducible apply j_seq) | (with_reducible apply j_block) | (with_reducible apply j_ret) | (with_reducible apply j_skip) | (with_reducible apply j_exit) | (with_reducible apply j_label) | (with_reducible apply j_region_lit)
    | ((with_reducible refine j_true ?_ ?_); (focus rfl)) | ((with_reducible refine j_false ?_ ?_); (focus rfl))
    | (with_reducible show Then _ _ _ _ _ _; simp only [Then])
    | (with_reducible show InBlock _ _ _ _ _ _; simp only [InBlock, ↓reduceIte, Nat.reduceEqDiff])))
  refine j_region_dl [0, 0, 0, 4, 14, 31, 63, 127, 127, 255, 1023] [0, 1, 2, 3, 4, 5, 6, 7, 8, 9, 10] (Cp W6 p2) rfl (by decide +kernel) (by repeat (first | assumption | exact loose_body | (with_reducible apply loose_then) | (with_reducible apply loose_block) | (with_reducible apply loose_noGoto) | (with_reducible apply loose_jump))) ?_ ?_
  focus exact fun i => rfl
  repeat (first
    | (with_reducible apply dl_nil)
    | ((with_reducible apply dl_calm); (focus rfl); (focus rfl); (focus rfl); (focus (first | (with_reducible apply only_idle); (focus decide) | (with_reducible apply only_turn); (focus rfl); (focus rfl); (focus kernel_rfl) | exact only_calc rfl rfl rfl | exact only_check rfl rfl | exact only_cap rfl rfl | exact only_min rfl rfl rfl | exact only_max rfl rfl rfl)); (focus (intro wS hS; have hcS : ∀ i : Nat, wS.cell? ⟨p2, i, none⟩ = World.cell? W6 ⟨p2, i, none⟩ := hS; go_simp; try rfl)); simp only [Act.put, List.setIfInBounds_toArray, List.set_cons_zero, List.set_cons_succ])
    | (with_reducible show Then _ _ _ _ _ _; simp only [Then])
    | (with_reducible show InBlock _ _ _ _ _ _; simp only [InBlock, ↓reduceIte, Nat.reduceEqDiff]))
  refine dl_act (o := ?_) ?_ ?_ ?_ ?_ (fun K hK => ?_)
  rotate_left 1
  focus rfl
  focus rfl
  focus rfl
  focus exact fun ht => fine_idle rfl ht
  go_simp
  have hb7 : Below W6.heap.size W6 (W6.alloc (.cells #[.int .i64 0, .int .i64 4, .int .u32 0, .int .i64 0, .int .i64 0, .int .i64 0, .int .u32 0] 32)).drew := ((al_ (Below.refl _ _) _)).drew
  refine hK _ _ _ ⟨_, fun i => hb7.cell l3', fun _ => rfl, ?_⟩
  clear hK K
  have b7 : Blk (W6.alloc (.cells #[.int .i64 0, .int .i64 4, .int .u32 0, .int .i64 0, .int .i64 0, .int .i64 0, .int .u32 0] 32)).drew W6.heap.size 32 #[.int .i64 0, .int .i64 4, .int .u32 0, .int .i64 0, .int .i64 0, .int .i64 0, .int .u32 0] := (Blk.new W6 _ _).drew
  generalize (W6.alloc (.cells #[.int .i64 0, .int .i64 4, .int .u32 0, .int .i64 0, .int .i64 0, .int .i64 0, .int .u32 0] 32)).drew = W7 at hb7 b7 ⊢
  have b37 := b3.below hb7 b3.lt
  have b47 := b4.below hb7 b4.lt
  have g7 := g6.trans (hb7.mono g6.size)
  generalize W6.heap.size = p7 at b7 ⊢
  have own7 : W7.ownsRow p4 32 7 (.slice (some ⟨p4, 0, none⟩) 3 3) 3 (l3.flatMap clC) := ⟨rfl, .inr ⟨p4, 3, _, rfl, Nat.le_refl _, b47, Nat.le_refl _, by unfold maxLen; omega, rfl, rfl⟩⟩
  refine dl_do (o := ?_) ?_ ?_ ?_
  rotate_left 1
  focus rfl
  focus rfl
  refine one_append (.tmp 31) (.tmp 33) 24 rfl rfl p4 32 (.agg #[.int .i64 0, .int .i64 0, .int .u32 0, .int .i64 0, .int .i64 0, .int .i64 0, .int .u32 0]) 7 56 under_calls info_call rfl (by decide) _ 3 _ rfl own7 (fun g hg => by cases hg; exact hoth _ hp4) ⟨p7, 0, none⟩ 1 1 (clC ⟨0, 4, 0, 0, 0, 0, 0⟩) rfl rfl (fun j u hu => ?_) (by decide) (by decide) (by unfold maxLen; omega) (by decide) (by have := b47.lt; omega) ?_
  focus
    have hadd : (⟨p7, 0, none⟩ : Addr).add j = ⟨p7, 0 + j, none⟩ := by unfold Addr.add; split <;> simp_all
    rw [hadd, b7.cell, Nat.zero_add, List.getElem?_toArray]
    exact hu
  intro g8 c8 W8 own8 gr8 _ _
  have hcl : Cls W8 W8.heap.size (.slice (some ⟨g8, 0, none⟩) 4 c8) l4 := Sl.of_own own8
  have g8' : Below w.heap.size w W8 := g7.grown gr8 g7.size (fun k hk => by cases hk; exact hp4)
  refine ⟨_, fun i => ?_, fun _ => rfl, ?_⟩
  focus
    rw [World.cell?_of_block (gr8.block p2 b37.lt (fun e => by have e' : p2 = p4 := Option.some.inj e; omega))]
    exact hb7.cell l3'
  simp only [Act.put, List.setIfInBounds_toArray, List.set_cons_zero, List.set_cons_succ]
  have hf : Jdo Tryd.prog X 5 #[cfg 1 2 1 2, .slice (some ⟨g8, 0, none⟩) 4 c8] s2 W8 _ := fits_ok (k := 1) (K := 2) (T := 1) (M := 2) (by decide) hcl (by decide) l4_good (hT.below g8' hT.1)
  unfold cfg at hf
  refine dl_call (o := ?_) (args := ?_) (ats := ?_) _ ?_ ?_ ?_ ?_ Tryd.func5 ?_ rfl hf ?_
  rotate_left 3
  focus rfl
  focus rfl
  focus rfl
  focus first | rfl | (go_simp; done) | (go_simp; rfl)
  focus rfl
  rintro s3 r W9 ⟨rfl, hb9, b, e, rfl, hno, -⟩
  obtain ⟨rfl, rfl⟩ := hno l4_may
  clear hf
  refine ⟨_, fun i => ?_, fun _ => rfl, ?_⟩
  focus
    rw [hb9.cell (Nat.lt_of_lt_of_le b37.lt gr8.size), World.cell?_of_block (gr8.block p2 b37.lt (fun e => by have e' : p2 = p4 := Option.some.inj e; omega))]
    exact hb7.cell l3'
  simp only [Act.put, List.setIfInBounds_toArray, List.set_cons_zero, List.set_cons_succ]
  repeat (first
    | (with_reducible apply dl_nil)
    | ((with_reducible apply dl_calm); (focus rfl); (focus rfl); (focus rfl); (focus (first | (with_reducible apply only_idle); (focus decide) | (with_reducible apply only_turn); (focus rfl); (focus rfl); (focus kernel_rfl) | exact only_calc rfl rfl rfl | exact only_check rfl rfl | exact only_cap rfl rfl | exact only_min rfl rfl rfl | exact only_max rfl rfl rfl)); (focus (intro wS hS; have hcS : ∀ i : Nat, wS.cell? ⟨p2, i, none⟩ = World.cell? W6 ⟨p2, i, none⟩ := hS; go_simp; try rfl)); simp only [Act.put, List.setIfInBounds_toArray, List.set_cons_zero, List.set_cons_succ])
    | (with_reducible show Then _ _ _ _ _ _; simp only [Then])
    | (with_reducible show InBlock _ _ _ _ _ _; simp only [InBlock, ↓reduceIte, Nat.reduceEqDiff]))
  repeat (first
    | ((with_reducible refine lst_free ?_ ?_ (fun K hK => ?_)); (focus with_reducible rfl); (focus (intro ht; refine fine_none ?_ ht; (focus (first | (with_reducible apply only_idle); (focus decide) | (with_reducible apply only_turn); (focus rfl); (focus rfl); (focus kernel_rfl) | exact only_calc rfl rfl rfl | exact only_check rfl rfl | exact only_cap rfl rfl | exact only_min rfl rfl rfl | exact only_max rfl rfl rfl)))); go_simp; refine hK _ _ _ ?_; clear hK K)
    | ((with_reducible refine lst_off (i := ?_) (b := ?_) (d := ?_) ?_ ?_ ?_ ?_); rotate_left 3; (focus with_reducible rfl); (focus rfl); (focus (simp only [List.getElem?_toArray, List.getElem?_cons_succ, List.getElem?_cons_zero, Bool.not_true, Bool.not_false])); simp only [Act.put, List.setIfInBounds_toArray, List.set_cons_zero, List.set_cons_succ])
    | ((with_reducible refine lst_on (i := ?_) (b := ?_) (d := ?_) ?_ ?_ ?_ ?_ (fun K hK => ?_)); rotate_left 3; (focus with_reducible rfl); (focus rfl); (focus (simp only [List.getElem?_toArray, List.getElem?_cons_succ, List.getElem?_cons_zero])); (focus (intro ht; refine fine_none ?_ ht; (focus (first | (with_reducible apply only_idle); (focus decide) | (with_reducible apply only_turn); (focus rfl); (focus rfl); (focus kernel_rfl) | exact only_calc rfl rfl rfl | exact only_check rfl rfl | exact only_cap rfl rfl | exact only_min rfl rfl rfl | exact only_max rfl rfl rfl)))); go_simp; refine hK _ _ _ ?_; clear hK K)
    | ((with_reducible refine lst_undef (i := ?_) (b := ?_) (d := ?_) ?_ ?_ ?_ ?_); rotate_left 3; (focus with_reducible rfl); (focus rfl); (focus (simp only [List.getElem?_toArray, List.getElem?_cons_succ, List.getElem?_cons_zero])); simp only [Act.put, List.setIfInBounds_toArray, List.set_cons_zero, List.set_cons_succ])
    | (with_reducible apply lst_nil)
    | ((fail_if_success (with_reducible refine lst_any ?_)); first
    | (with_reducible apply j_seq) | (with_reducible apply j_block) | (with_reducible apply j_ret) | (with_reducible apply j_skip) | (with_reducible apply j_exit) | (with_reducible apply j_label) | (with_reducible apply j_region_lit)
    | ((with_reducible refine j_true ?_ ?_); (focus rfl)) | ((with_reducible refine j_false ?_ ?_); (focus rfl))
    | (with_reducible show Then _ _ _ _ _ _; simp only [Then])
    | (with_reducible show InBlock _ _ _ _ _ _; simp only [InBlock, ↓reduceIte, Nat.reduceEqDiff])))
  exact body_ret1 rfl rfl ⟨rfl, g8'.trans (hb9.mono g8'.size), rfl⟩
end
end Go.Proofs.YtgchailmcbifdaaDoor.Jg
