/- Package shuntingref02: Same and Short, walked. -/
import Derived.Test.YtonhfgjofgbcdaaRfSame
namespace Go.Proofs.Ytonhfgjofgbcdaa.Rf
set_option linter.unusedSimpArgs false
set_option linter.unusedVariables false
set_option maxRecDepth 20000
open Go Go.Conc Go.RowKit Go.Proofs.Ytonhfgjofgbcdaa.Jay Go.Proofs.Ytonhfgjofgbcdaa.Pl
open Go.Proofs.Ytonhfgjofgbcdaa.St
section
variable {γ : Type} {X : Turns γ} {s : γ} {w : World}
attribute [local go_sem] upon_value upon_skip

def Mem.few (m : Mem) : Prop := ∀ a, (m.area a).length ≤ 1000000
theorem few_of_small {m : Mem} (h : m.small) : Mem.few m := by
  intro a
  unfold Mem.small at h
  unfold Mem.area
  repeat' split
  all_goals first | omega | (simp only [List.length_cons, List.length_nil] <;> omega)

def AllInv {γ : Type} (s' : γ) (W0 : World) (n0 : Nat) (m n : Mem) (s2 : γ) (a : Act) (W : World) : Prop := s2 = s' ∧ Below W0.heap.size W0 W ∧ ∃ i : Nat, i ≤ 9 ∧ (∀ j : Nat, j < i → m.area ((j : Int) + 1) = n.area ((j : Int) + 1)) ∧
  (∃ v0 v1 v4 v6 v7 v8 v9 v10 v11 v12 v13 v14 v15 v16 v17, a = { tmps := #[v0, v1, .pointer (some ⟨n0, 0, none⟩), .pointer (some ⟨n0 + 1, 0, none⟩), v4, .int .i64 ((i : Int) + 1), v6, v7, v8, v9, v10, v11, v12, v13, v14, v15, v16, v17], defers := [] })
def AllMu {γ : Type} (_ : γ) (a : Act) (_ : World) : Nat := match a.tmps.getD 5 undef with
  | .int _ i => 20 - i.toNat
  | _ => 0

set_option maxHeartbeats 4000000 in
theorem all {B : Nat} {va vb : Value} {m n : Mem} (ha : MemV w B m va) (hb : MemV w B n vb) (hB : B ≤ w.heap.size) (hm : Mem.few m) (hn : Mem.few n) : Jdo Try.prog X 11 #[va, vb] s w fun s' r w' => s' = s ∧ Below w.heap.size w w' ∧ r = .back (.bool (Mem.same m n)) := by
  have ha0 := ha
  have hb0 := hb
  obtain ⟨cs, rfl, v2, v3, v6, v7, v8, rfl, _⟩ := ha
  obtain ⟨cs', rfl, u2, u3, u6, u7, u8, rfl, _⟩ := hb
  obtain ⟨W0, hW0⟩ : ∃ W0, W0 = (w.alloc (.cells #[.int .u64 m.e, .int .u64 m.f, v2, v3, .int .u64 m.h, .int .u64 m.t, v6, v7, v8] 25)).alloc (.cells #[.int .u64 n.e, .int .u64 n.f, u2, u3, .int .u64 n.h, .int .u64 n.t, u6, u7, u8] 25) := ⟨_, rfl⟩
  have b0 : Blk W0 w.heap.size _ _ := hW0 ▸ (Blk.new w _ _).alloc _
  have b1 : Blk W0 (w.heap.size + 1) _ _ := hW0 ▸ Blk.new1 w _ _ _
  have hbel : Below w.heap.size w W0 := hW0 ▸ ((Below.refl _ _).alloc (Nat.le_refl _) _).alloc (by simp) _
  have l0 := b0.lt
  have l1 := b1.lt
  refine jdo_of Try.func11 rfl ?_
  simp only [Try.ntmps11, List.size_toArray, List.length_cons, List.length_nil, Nat.reduceAdd, Nat.reduceSub, Array.replicate_succ, Array.replicate_zero, List.push_toArray, List.append_toArray, List.nil_append, List.cons_append]
  repeat (first
    | (with_reducible apply j_seq) | (with_reducible apply j_block) | (with_reducible apply j_ret) | (with_reducible apply j_skip) | (with_reducible apply j_exit) | (with_reducible apply j_label) | (with_reducible apply j_region_lit) | (with_reducible apply lst_nil)
    | ((with_reducible refine lst_unwanted ?_ ?_); (focus rfl); simp only [Act.put, List.setIfInBounds_toArray, List.set_cons_zero, List.set_cons_succ])
    | ((with_reducible refine lst_cons ?_ ?_ (fun K hK => ?_)); (focus rfl); (focus (intro ht; refine fine_none ?_ ht; (focus (first | (with_reducible apply only_idle); (focus decide) | (with_reducible apply only_turn); (focus rfl); (focus rfl); (focus kernel_rfl) | exact only_calc rfl rfl rfl | exact only_check rfl rfl)))); go_simp; refine hK _ _ _ ?_; clear hK K)
    | ((with_reducible refine j_true ?_ ?_); (focus rfl)) | ((with_reducible refine j_false ?_ ?_); (focus rfl))
    | (with_reducible show Then _ _ _ _ _ _; simp only [Then])
    | (with_reducible show InBlock _ _ _ _ _ _; simp only [InBlock, ↓reduceIte, Nat.reduceEqDiff]))
  rw [← hW0]
  refine j_loop (I := AllInv s W0 w.heap.size m n) (μ := AllMu) ?_ ?_
  focus exact ⟨rfl, Below.refl _ _, 0, by omega, fun j hj => by omega, _, _, _, _, _, _, _, _, _, _, _, _, _, _, _, rfl⟩
  rintro s2 a W ⟨rfl, hW, i, hi, hsame, v0, v1, v4, v6, v7, v8, v9, v10, v11, v12, v13, v14, v15, v16, v17, rfl⟩
  have hbW := hbel.trans (hW.mono hbel.size)
  have d0 := (b0.below hW l0).cell
  have d1 := (b1.below hW l1).cell
  have l0' : w.heap.size < W.heap.size := by have := hW.size; omega
  have l1' : w.heap.size + 1 < W.heap.size := by have := hW.size; omega
  by_cases hlt : i < 9
  · have c1 : decide ((i : Int) + 1 ≤ 9) = true := decide_eq_true (by omega)
    have hw : IntKind.i64.wrap ((i : Int) + 1 + 1) = (i : Int) + 1 + 1 := by simp [IntKind.wrap, IntKind.bits, IntKind.signed]; omega
    by_cases heq : m.area ((i : Int) + 1) = n.area ((i : Int) + 1)
    · repeat (first | (with_reducible apply j_seq) | (with_reducible apply j_block) | (with_reducible apply j_ret) | (with_reducible apply j_skip) | (with_reducible apply j_exit) | (with_reducible apply j_label) | (with_reducible apply j_region_lit) | (with_reducible apply lst_nil) | ((with_reducible refine lst_unwanted ?_ ?_); (focus rfl); simp only [Act.put, List.setIfInBounds_toArray, List.set_cons_zero, List.set_cons_succ]) | ((with_reducible refine lst_cons ?_ ?_ (fun K hK => ?_)); (focus rfl); (focus (intro ht; refine fine_none ?_ ht; (focus (first | (with_reducible apply only_idle); (focus decide) | (with_reducible apply only_turn); (focus rfl); (focus rfl); (focus kernel_rfl) | exact only_calc rfl rfl rfl | exact only_check rfl rfl)))); go_simp; refine hK _ _ _ ?_; clear hK K) | ((with_reducible refine j_true ?_ ?_); (focus rfl)) | ((with_reducible refine j_false ?_ ?_); (focus rfl)) | (with_reducible show Then _ _ _ _ _ _; simp only [Then]) | (with_reducible show InBlock _ _ _ _ _ _; simp only [InBlock, ↓reduceIte, Nat.reduceEqDiff]))
      refine j_region_dl [0, 0, 3, 0, 0, 31, 63, 127] [0, 1, 3, 4, 2, 5, 6, 7] (Below W.heap.size W) rfl (by decide +kernel) (by repeat (first | exact loose_body | (with_reducible apply loose_then) | (with_reducible apply loose_block) | (with_reducible apply loose_noGoto) | (with_reducible apply loose_jump))) ?_ ?_
      focus exact (Below.refl _ _).drew
      repeat (first
        | (with_reducible apply dl_nil)
        | ((with_reducible apply dl_skip); (focus rfl); (focus rfl); (focus (first | assumption | exact (Below.refl _ _).drew)); simp only [Act.put, List.setIfInBounds_toArray, List.set_cons_zero, List.set_cons_succ])
        | ((with_reducible apply dl_calm); (focus rfl); (focus rfl); (focus rfl); (focus (first | (with_reducible apply only_idle); (focus decide) | (with_reducible apply only_turn); (focus rfl); (focus rfl); (focus kernel_rfl) | exact only_calc rfl rfl rfl | exact only_check rfl rfl)); (focus (intro wS hS; have hcS := fun p => Below.cell hS (p := p); go_simp; try rfl)); simp only [Act.put, List.setIfInBounds_toArray, List.set_cons_zero, List.set_cons_succ])
        | (with_reducible show Then _ _ _ _ _ _; simp only [Then])
        | (with_reducible show InBlock _ _ _ _ _ _; simp only [InBlock, ↓reduceIte, Nat.reduceEqDiff]))
      refine dl_call (o := ?_) (args := ?_) (ats := ?_) _ ?_ ?_ ?_ ?_ Try.func12 ?_ rfl (area (a := (i : Int) + 1) (memV_keep ha0 (hbW.mono hB).drew) (show B ≤ W.drew.heap.size from Nat.le_trans hB hbW.size)) ?_
      rotate_left 3
      focus rfl
      focus rfl
      focus rfl
      focus first | rfl | (go_simp; done) | (go_simp; rfl)
      focus rfl
      rintro s3 x3 W1 ⟨rfl, hb1, x, rfl, hx⟩
      have hS1 : Below W.heap.size W W1 := (Below.refl W.heap.size W).drew.trans hb1
      refine ⟨_, hS1, fun _ => rfl, ?_⟩
      simp only [Act.put, List.setIfInBounds_toArray, List.set_cons_zero, List.set_cons_succ]
      repeat (first
        | (with_reducible apply dl_nil)
        | ((with_reducible apply dl_skip); (focus rfl); (focus rfl); (focus (first | assumption | exact (Below.refl _ _).drew)); simp only [Act.put, List.setIfInBounds_toArray, List.set_cons_zero, List.set_cons_succ])
        | ((with_reducible apply dl_calm); (focus rfl); (focus rfl); (focus rfl); (focus (first | (with_reducible apply only_idle); (focus decide) | (with_reducible apply only_turn); (focus rfl); (focus rfl); (focus kernel_rfl) | exact only_calc rfl rfl rfl | exact only_check rfl rfl)); (focus (intro wS hS; have hcS := fun p => Below.cell hS (p := p); go_simp; try rfl)); simp only [Act.put, List.setIfInBounds_toArray, List.set_cons_zero, List.set_cons_succ])
        | (with_reducible show Then _ _ _ _ _ _; simp only [Then])
        | (with_reducible show InBlock _ _ _ _ _ _; simp only [InBlock, ↓reduceIte, Nat.reduceEqDiff]))
      refine dl_call (o := ?_) (args := ?_) (ats := ?_) _ ?_ ?_ ?_ ?_ Try.func12 ?_ rfl (area (a := (i : Int) + 1) (memV_keep hb0 ((hbW.mono hB).trans (hS1.mono (Nat.le_trans hB hbW.size)))) (show B ≤ W1.heap.size from Nat.le_trans hB (Nat.le_trans hbW.size hS1.size))) ?_
      rotate_left 3
      focus rfl
      focus rfl
      focus rfl
      focus first | rfl | (go_simp; done) | (go_simp; rfl)
      focus rfl
      rintro s3 x3 W2 ⟨rfl, hb2, y, rfl, hy⟩
      have hS2 : Below W.heap.size W W2 := hS1.trans (hb2.mono hS1.size)
      refine ⟨_, hS2, fun _ => rfl, ?_⟩
      simp only [Act.put, List.setIfInBounds_toArray, List.set_cons_zero, List.set_cons_succ]
      repeat (first
        | (with_reducible apply dl_nil)
        | ((with_reducible apply dl_skip); (focus rfl); (focus rfl); (focus (first | assumption | exact (Below.refl _ _).drew)); simp only [Act.put, List.setIfInBounds_toArray, List.set_cons_zero, List.set_cons_succ])
        | ((with_reducible apply dl_calm); (focus rfl); (focus rfl); (focus rfl); (focus (first | (with_reducible apply only_idle); (focus decide) | (with_reducible apply only_turn); (focus rfl); (focus rfl); (focus kernel_rfl) | exact only_calc rfl rfl rfl | exact only_check rfl rfl)); (focus (intro wS hS; have hcS := fun p => Below.cell hS (p := p); go_simp; try rfl)); simp only [Act.put, List.setIfInBounds_toArray, List.set_cons_zero, List.set_cons_succ])
        | (with_reducible show Then _ _ _ _ _ _; simp only [Then])
        | (with_reducible show InBlock _ _ _ _ _ _; simp only [InBlock, ↓reduceIte, Nat.reduceEqDiff]))
      refine dl_call (o := ?_) (args := ?_) (ats := ?_) _ ?_ ?_ ?_ ?_ Try.func25 ?_ rfl (same (xs := m.area ((i : Int) + 1)) (ys := n.area ((i : Int) + 1)) ((Sl.below hx hb2).more hb2.size) hy (Nat.le_refl _) (hm _) (hn _)) ?_
      rotate_left 3
      focus rfl
      focus rfl
      focus rfl
      focus first | rfl | (go_simp; done) | (go_simp; rfl)
      focus rfl
      rintro s3 x3 W3 ⟨rfl, hb3, rfl⟩
      have hS3 : Below W.heap.size W W3 := hS2.trans (hb3.mono hS2.size)
      refine ⟨_, hS3, fun _ => rfl, ?_⟩
      rw [decide_eq_true heq]
      simp only [Act.put, List.setIfInBounds_toArray, List.set_cons_zero, List.set_cons_succ]
      repeat (first
        | (with_reducible apply dl_nil)
        | ((with_reducible apply dl_skip); (focus rfl); (focus rfl); (focus (first | assumption | exact (Below.refl _ _).drew)); simp only [Act.put, List.setIfInBounds_toArray, List.set_cons_zero, List.set_cons_succ])
        | ((with_reducible apply dl_calm); (focus rfl); (focus rfl); (focus rfl); (focus (first | (with_reducible apply only_idle); (focus decide) | (with_reducible apply only_turn); (focus rfl); (focus rfl); (focus kernel_rfl) | exact only_calc rfl rfl rfl | exact only_check rfl rfl)); (focus (intro wS hS; have hcS := fun p => Below.cell hS (p := p); go_simp; try rfl)); simp only [Act.put, List.setIfInBounds_toArray, List.set_cons_zero, List.set_cons_succ])
        | (with_reducible show Then _ _ _ _ _ _; simp only [Then])
        | (with_reducible show InBlock _ _ _ _ _ _; simp only [InBlock, ↓reduceIte, Nat.reduceEqDiff]))
      repeat (first
        | (with_reducible apply j_seq) | (with_reducible apply j_block) | (with_reducible apply j_ret) | (with_reducible apply j_skip) | (with_reducible apply j_exit) | (with_reducible apply j_label) | (with_reducible apply j_region_lit) | (with_reducible apply lst_nil)
        | ((with_reducible refine lst_unwanted ?_ ?_); (focus rfl); simp only [Act.put, List.setIfInBounds_toArray, List.set_cons_zero, List.set_cons_succ])
        | ((with_reducible refine lst_cons ?_ ?_ (fun K hK => ?_)); (focus rfl); (focus (intro ht; refine fine_none ?_ ht; (focus (first | (with_reducible apply only_idle); (focus decide) | (with_reducible apply only_turn); (focus rfl); (focus rfl); (focus kernel_rfl) | exact only_calc rfl rfl rfl | exact only_check rfl rfl)))); go_simp; refine hK _ _ _ ?_; clear hK K)
        | ((with_reducible refine j_true ?_ ?_); (focus rfl)) | ((with_reducible refine j_false ?_ ?_); (focus rfl))
        | (with_reducible show Then _ _ _ _ _ _; simp only [Then])
        | (with_reducible show InBlock _ _ _ _ _ _; simp only [InBlock, ↓reduceIte, Nat.reduceEqDiff]))
      refine ⟨⟨rfl, hW.trans (hS3.mono hW.size), i + 1, by omega, ?_, _, _, _, _, _, _, _, _, _, _, _, _, _, _, _, rfl⟩, by show 20 - ((i : Int) + 1 + 1).toNat < 20 - ((i : Int) + 1).toNat; omega⟩
      intro j hj
      by_cases hji : j = i
      · subst hji; exact heq
      · exact hsame j (by omega)
    · repeat (first | (with_reducible apply j_seq) | (with_reducible apply j_block) | (with_reducible apply j_ret) | (with_reducible apply j_skip) | (with_reducible apply j_exit) | (with_reducible apply j_label) | (with_reducible apply j_region_lit) | (with_reducible apply lst_nil) | ((with_reducible refine lst_unwanted ?_ ?_); (focus rfl); simp only [Act.put, List.setIfInBounds_toArray, List.set_cons_zero, List.set_cons_succ]) | ((with_reducible refine lst_cons ?_ ?_ (fun K hK => ?_)); (focus rfl); (focus (intro ht; refine fine_none ?_ ht; (focus (first | (with_reducible apply only_idle); (focus decide) | (with_reducible apply only_turn); (focus rfl); (focus rfl); (focus kernel_rfl) | exact only_calc rfl rfl rfl | exact only_check rfl rfl)))); go_simp; refine hK _ _ _ ?_; clear hK K) | ((with_reducible refine j_true ?_ ?_); (focus rfl)) | ((with_reducible refine j_false ?_ ?_); (focus rfl)) | (with_reducible show Then _ _ _ _ _ _; simp only [Then]) | (with_reducible show InBlock _ _ _ _ _ _; simp only [InBlock, ↓reduceIte, Nat.reduceEqDiff]))
      refine j_region_dl [0, 0, 3, 0, 0, 31, 63, 127] [0, 1, 3, 4, 2, 5, 6, 7] (Below W.heap.size W) rfl (by decide +kernel) (by repeat (first | exact loose_body | (with_reducible apply loose_then) | (with_reducible apply loose_block) | (with_reducible apply loose_noGoto) | (with_reducible apply loose_jump))) ?_ ?_
      focus exact (Below.refl _ _).drew
      repeat (first
        | (with_reducible apply dl_nil)
        | ((with_reducible apply dl_skip); (focus rfl); (focus rfl); (focus (first | assumption | exact (Below.refl _ _).drew)); simp only [Act.put, List.setIfInBounds_toArray, List.set_cons_zero, List.set_cons_succ])
        | ((with_reducible apply dl_calm); (focus rfl); (focus rfl); (focus rfl); (focus (first | (with_reducible apply only_idle); (focus decide) | (with_reducible apply only_turn); (focus rfl); (focus rfl); (focus kernel_rfl) | exact only_calc rfl rfl rfl | exact only_check rfl rfl)); (focus (intro wS hS; have hcS := fun p => Below.cell hS (p := p); go_simp; try rfl)); simp only [Act.put, List.setIfInBounds_toArray, List.set_cons_zero, List.set_cons_succ])
        | (with_reducible show Then _ _ _ _ _ _; simp only [Then])
        | (with_reducible show InBlock _ _ _ _ _ _; simp only [InBlock, ↓reduceIte, Nat.reduceEqDiff]))
      refine dl_call (o := ?_) (args := ?_) (ats := ?_) _ ?_ ?_ ?_ ?_ Try.func12 ?_ rfl (area (a := (i : Int) + 1) (memV_keep ha0 (hbW.mono hB).drew) (show B ≤ W.drew.heap.size from Nat.le_trans hB hbW.size)) ?_
      rotate_left 3
      focus rfl
      focus rfl
      focus rfl
      focus first | rfl | (go_simp; done) | (go_simp; rfl)
      focus rfl
      rintro s3 x3 W1 ⟨rfl, hb1, x, rfl, hx⟩
      have hS1 : Below W.heap.size W W1 := (Below.refl W.heap.size W).drew.trans hb1
      refine ⟨_, hS1, fun _ => rfl, ?_⟩
      simp only [Act.put, List.setIfInBounds_toArray, List.set_cons_zero, List.set_cons_succ]
      repeat (first
        | (with_reducible apply dl_nil)
        | ((with_reducible apply dl_skip); (focus rfl); (focus rfl); (focus (first | assumption | exact (Below.refl _ _).drew)); simp only [Act.put, List.setIfInBounds_toArray, List.set_cons_zero, List.set_cons_succ])
        | ((with_reducible apply dl_calm); (focus rfl); (focus rfl); (focus rfl); (focus (first | (with_reducible apply only_idle); (focus decide) | (with_reducible apply only_turn); (focus rfl); (focus rfl); (focus kernel_rfl) | exact only_calc rfl rfl rfl | exact only_check rfl rfl)); (focus (intro wS hS; have hcS := fun p => Below.cell hS (p := p); go_simp; try rfl)); simp only [Act.put, List.setIfInBounds_toArray, List.set_cons_zero, List.set_cons_succ])
        | (with_reducible show Then _ _ _ _ _ _; simp only [Then])
        | (with_reducible show InBlock _ _ _ _ _ _; simp only [InBlock, ↓reduceIte, Nat.reduceEqDiff]))
      refine dl_call (o := ?_) (args := ?_) (ats := ?_) _ ?_ ?_ ?_ ?_ Try.func12 ?_ rfl (area (a := (i : Int) + 1) (memV_keep hb0 ((hbW.mono hB).trans (hS1.mono (Nat.le_trans hB hbW.size)))) (show B ≤ W1.heap.size from Nat.le_trans hB (Nat.le_trans hbW.size hS1.size))) ?_
      rotate_left 3
      focus rfl
      focus rfl
      focus rfl
      focus first | rfl | (go_simp; done) | (go_simp; rfl)
      focus rfl
      rintro s3 x3 W2 ⟨rfl, hb2, y, rfl, hy⟩
      have hS2 : Below W.heap.size W W2 := hS1.trans (hb2.mono hS1.size)
      refine ⟨_, hS2, fun _ => rfl, ?_⟩
      simp only [Act.put, List.setIfInBounds_toArray, List.set_cons_zero, List.set_cons_succ]
      repeat (first
        | (with_reducible apply dl_nil)
        | ((with_reducible apply dl_skip); (focus rfl); (focus rfl); (focus (first | assumption | exact (Below.refl _ _).drew)); simp only [Act.put, List.setIfInBounds_toArray, List.set_cons_zero, List.set_cons_succ])
        | ((with_reducible apply dl_calm); (focus rfl); (focus rfl); (focus rfl); (focus (first | (with_reducible apply only_idle); (focus decide) | (with_reducible apply only_turn); (focus rfl); (focus rfl); (focus kernel_rfl) | exact only_calc rfl rfl rfl | exact only_check rfl rfl)); (focus (intro wS hS; have hcS := fun p => Below.cell hS (p := p); go_simp; try rfl)); simp only [Act.put, List.setIfInBounds_toArray, List.set_cons_zero, List.set_cons_succ])
        | (with_reducible show Then _ _ _ _ _ _; simp only [Then])
        | (with_reducible show InBlock _ _ _ _ _ _; simp only [InBlock, ↓reduceIte, Nat.reduceEqDiff]))
      refine dl_call (o := ?_) (args := ?_) (ats := ?_) _ ?_ ?_ ?_ ?_ Try.func25 ?_ rfl (same (xs := m.area ((i : Int) + 1)) (ys := n.area ((i : Int) + 1)) ((Sl.below hx hb2).more hb2.size) hy (Nat.le_refl _) (hm _) (hn _)) ?_
      rotate_left 3
      focus rfl
      focus rfl
      focus rfl
      focus first | rfl | (go_simp; done) | (go_simp; rfl)
      focus rfl
      rintro s3 x3 W3 ⟨rfl, hb3, rfl⟩
      have hS3 : Below W.heap.size W W3 := hS2.trans (hb3.mono hS2.size)
      refine ⟨_, hS3, fun _ => rfl, ?_⟩
      rw [decide_eq_false heq]
      simp only [Act.put, List.setIfInBounds_toArray, List.set_cons_zero, List.set_cons_succ]
      repeat (first
        | (with_reducible apply dl_nil)
        | ((with_reducible apply dl_skip); (focus rfl); (focus rfl); (focus (first | assumption | exact (Below.refl _ _).drew)); simp only [Act.put, List.setIfInBounds_toArray, List.set_cons_zero, List.set_cons_succ])
        | ((with_reducible apply dl_calm); (focus rfl); (focus rfl); (focus rfl); (focus (first | (with_reducible apply only_idle); (focus decide) | (with_reducible apply only_turn); (focus rfl); (focus rfl); (focus kernel_rfl) | exact only_calc rfl rfl rfl | exact only_check rfl rfl)); (focus (intro wS hS; have hcS := fun p => Below.cell hS (p := p); go_simp; try rfl)); simp only [Act.put, List.setIfInBounds_toArray, List.set_cons_zero, List.set_cons_succ])
        | (with_reducible show Then _ _ _ _ _ _; simp only [Then])
        | (with_reducible show InBlock _ _ _ _ _ _; simp only [InBlock, ↓reduceIte, Nat.reduceEqDiff]))
      repeat (first
        | (with_reducible apply j_seq) | (with_reducible apply j_block) | (with_reducible apply j_ret) | (with_reducible apply j_skip) | (with_reducible apply j_exit) | (with_reducible apply j_label) | (with_reducible apply j_region_lit) | (with_reducible apply lst_nil)
        | ((with_reducible refine lst_unwanted ?_ ?_); (focus rfl); simp only [Act.put, List.setIfInBounds_toArray, List.set_cons_zero, List.set_cons_succ])
        | ((with_reducible refine lst_cons ?_ ?_ (fun K hK => ?_)); (focus rfl); (focus (intro ht; refine fine_none ?_ ht; (focus (first | (with_reducible apply only_idle); (focus decide) | (with_reducible apply only_turn); (focus rfl); (focus rfl); (focus kernel_rfl) | exact only_calc rfl rfl rfl | exact only_check rfl rfl)))); go_simp; refine hK _ _ _ ?_; clear hK K)
        | ((with_reducible refine j_true ?_ ?_); (focus rfl)) | ((with_reducible refine j_false ?_ ?_); (focus rfl))
        | (with_reducible show Then _ _ _ _ _ _; simp only [Then])
        | (with_reducible show InBlock _ _ _ _ _ _; simp only [InBlock, ↓reduceIte, Nat.reduceEqDiff]))
      have hno : Mem.same m n = false := by
        cases hc : Mem.same m n with
        | false => rfl
        | true => rw [Mem.same_iff] at hc; exact absurd (by rw [hc]) heq
      exact body_ret1 rfl rfl ⟨rfl, hbW.trans (hS3.mono hbW.size), by rw [hno]; rfl⟩
  · have c1 : decide ((i : Int) + 1 ≤ 9) = false := decide_eq_false (by omega)
    repeat (first
      | (with_reducible apply j_seq) | (with_reducible apply j_block) | (with_reducible apply j_ret) | (with_reducible apply j_skip) | (with_reducible apply j_exit) | (with_reducible apply j_label) | (with_reducible apply j_region_lit) | (with_reducible apply lst_nil)
      | ((with_reducible refine lst_unwanted ?_ ?_); (focus rfl); simp only [Act.put, List.setIfInBounds_toArray, List.set_cons_zero, List.set_cons_succ])
      | ((with_reducible refine lst_cons ?_ ?_ (fun K hK => ?_)); (focus rfl); (focus (intro ht; refine fine_none ?_ ht; (focus (first | (with_reducible apply only_idle); (focus decide) | (with_reducible apply only_turn); (focus rfl); (focus rfl); (focus kernel_rfl) | exact only_calc rfl rfl rfl | exact only_check rfl rfl)))); go_simp; refine hK _ _ _ ?_; clear hK K)
      | ((with_reducible refine j_true ?_ ?_); (focus rfl)) | ((with_reducible refine j_false ?_ ?_); (focus rfl))
      | (with_reducible show Then _ _ _ _ _ _; simp only [Then])
      | (with_reducible show InBlock _ _ _ _ _ _; simp only [InBlock, ↓reduceIte, Nat.reduceEqDiff]))
    have hall : Mem.same m n = true := by
      unfold Mem.same
      rw [List.all_eq_true]
      intro j hj
      rw [List.mem_range] at hj
      exact decide_eq_true (hsame j (by omega))
    exact body_ret1 rfl rfl ⟨rfl, hbW, by rw [hall]; rfl⟩

/-! ### Short -/

def Mem.short (m : Mem) : Bool := (List.range 9).all fun i => decide ((m.area ((i : Int) + 1)).length ≤ 5000)
theorem small_of_short {m : Mem} (h : Mem.short m = true) : m.small := by
  obtain ⟨e, f, li, pi, hd, t, ln, nx, sl⟩ := m
  simp [Mem.short, List.range, List.range.loop, Mem.area] at h
  unfold Mem.small
  simp only
  omega

def ShortInv {γ : Type} (s' : γ) (W0 : World) (n0 : Nat) (m : Mem) (s2 : γ) (a : Act) (W : World) : Prop := s2 = s' ∧ Below W0.heap.size W0 W ∧ ∃ i : Nat, i ≤ 9 ∧ (∀ j : Nat, j < i → (m.area ((j : Int) + 1)).length ≤ 5000) ∧
  (∃ v0 v2 v4 v5 v6 v7 v8 v9 v10 v11 v12, a = { tmps := #[v0, .pointer (some ⟨n0, 0, none⟩), v2, .int .i64 ((i : Int) + 1), v4, v5, v6, v7, v8, v9, v10, v11, v12], defers := [] })
def ShortMu {γ : Type} (_ : γ) (a : Act) (_ : World) : Nat := match a.tmps.getD 3 undef with
  | .int _ i => 20 - i.toNat
  | _ => 0

set_option maxHeartbeats 4000000 in
theorem short {B : Nat} {va : Value} {m : Mem} (ha : MemV w B m va) (hB : B ≤ w.heap.size) : Jdo Try.prog X 9 #[va] s w fun s' r w' => s' = s ∧ Below w.heap.size w w' ∧ r = .back (.bool (Mem.short m)) := by
  have ha0 := ha
  obtain ⟨cs, rfl, v2, v3, v6, v7, v8, rfl, _⟩ := ha
  obtain ⟨W0, hW0⟩ : ∃ W0, W0 = w.alloc (.cells #[.int .u64 m.e, .int .u64 m.f, v2, v3, .int .u64 m.h, .int .u64 m.t, v6, v7, v8] 25) := ⟨_, rfl⟩
  have b0 : Blk W0 w.heap.size _ _ := hW0 ▸ Blk.new w _ _
  have hbel : Below w.heap.size w W0 := hW0 ▸ (Below.refl _ _).alloc (Nat.le_refl _) _
  have l0 := b0.lt
  refine jdo_of Try.func9 rfl ?_
  simp only [Try.ntmps9, List.size_toArray, List.length_cons, List.length_nil, Nat.reduceAdd, Nat.reduceSub, Array.replicate_succ, Array.replicate_zero, List.push_toArray, List.append_toArray, List.nil_append, List.cons_append]
  repeat (first
    | (with_reducible apply j_seq) | (with_reducible apply j_block) | (with_reducible apply j_ret) | (with_reducible apply j_skip) | (with_reducible apply j_exit) | (with_reducible apply j_label) | (with_reducible apply j_region_lit) | (with_reducible apply lst_nil)
    | ((with_reducible refine lst_unwanted ?_ ?_); (focus rfl); simp only [Act.put, List.setIfInBounds_toArray, List.set_cons_zero, List.set_cons_succ])
    | ((with_reducible refine lst_cons ?_ ?_ (fun K hK => ?_)); (focus rfl); (focus (intro ht; refine fine_none ?_ ht; (focus (first | (with_reducible apply only_idle); (focus decide) | (with_reducible apply only_turn); (focus rfl); (focus rfl); (focus kernel_rfl) | exact only_calc rfl rfl rfl | exact only_check rfl rfl)))); go_simp; refine hK _ _ _ ?_; clear hK K)
    | ((with_reducible refine j_true ?_ ?_); (focus rfl)) | ((with_reducible refine j_false ?_ ?_); (focus rfl))
    | (with_reducible show Then _ _ _ _ _ _; simp only [Then])
    | (with_reducible show InBlock _ _ _ _ _ _; simp only [InBlock, ↓reduceIte, Nat.reduceEqDiff]))
  rw [← hW0]
  refine j_loop (I := ShortInv s W0 w.heap.size m) (μ := ShortMu) ?_ ?_
  focus exact ⟨rfl, Below.refl _ _, 0, by omega, fun j hj => by omega, _, _, _, _, _, _, _, _, _, _, _, rfl⟩
  rintro s2 a W ⟨rfl, hW, i, hi, hshort, v0, v2, v4, v5, v6, v7, v8, v9, v10, v11, v12, rfl⟩
  have hbW := hbel.trans (hW.mono hbel.size)
  have d0 := (b0.below hW l0).cell
  by_cases hlt : i < 9
  · have c1 : decide ((i : Int) + 1 ≤ 9) = true := decide_eq_true (by omega)
    have hw : IntKind.i64.wrap ((i : Int) + 1 + 1) = (i : Int) + 1 + 1 := by simp [IntKind.wrap, IntKind.bits, IntKind.signed]; omega
    repeat (first
      | (with_reducible apply j_seq) | (with_reducible apply j_block) | (with_reducible apply j_ret) | (with_reducible apply j_skip) | (with_reducible apply j_exit) | (with_reducible apply j_label) | (with_reducible apply j_region_lit) | (with_reducible apply lst_nil)
      | ((with_reducible refine lst_unwanted ?_ ?_); (focus rfl); simp only [Act.put, List.setIfInBounds_toArray, List.set_cons_zero, List.set_cons_succ])
      | ((with_reducible refine lst_cons ?_ ?_ (fun K hK => ?_)); (focus rfl); (focus (intro ht; refine fine_none ?_ ht; (focus (first | (with_reducible apply only_idle); (focus decide) | (with_reducible apply only_turn); (focus rfl); (focus rfl); (focus kernel_rfl) | exact only_calc rfl rfl rfl | exact only_check rfl rfl)))); go_simp; refine hK _ _ _ ?_; clear hK K)
      | ((with_reducible refine j_true ?_ ?_); (focus rfl)) | ((with_reducible refine j_false ?_ ?_); (focus rfl))
      | (with_reducible show Then _ _ _ _ _ _; simp only [Then])
      | (with_reducible show InBlock _ _ _ _ _ _; simp only [InBlock, ↓reduceIte, Nat.reduceEqDiff]))
    refine lst_call _ rfl ?_ ?_ Try.func12 ?_ rfl (area (a := (i : Int) + 1) (memV_keep ha0 (hbW.mono hB)) (Nat.le_trans hB hbW.size)) ?_
    focus rfl
    focus first | rfl | (go_simp; done) | (go_simp; rfl)
    focus rfl
    rintro s3 x3 W1 ⟨rfl, hb1, x, rfl, hx⟩
    simp only [Act.put, List.setIfInBounds_toArray, List.set_cons_zero, List.set_cons_succ]
    obtain ⟨A, c, rfl, _, _⟩ := hx.form
    by_cases hle : (m.area ((i : Int) + 1)).length ≤ 5000
    · have c2 : decide (5000 < (((m.area ((i : Int) + 1)).length : Nat) : Int)) = false := decide_eq_false (by omega)
      repeat (first
        | (with_reducible apply j_seq) | (with_reducible apply j_block) | (with_reducible apply j_ret) | (with_reducible apply j_skip) | (with_reducible apply j_exit) | (with_reducible apply j_label) | (with_reducible apply j_region_lit) | (with_reducible apply lst_nil)
        | ((with_reducible refine lst_unwanted ?_ ?_); (focus rfl); simp only [Act.put, List.setIfInBounds_toArray, List.set_cons_zero, List.set_cons_succ])
        | ((with_reducible refine lst_cons ?_ ?_ (fun K hK => ?_)); (focus rfl); (focus (intro ht; refine fine_none ?_ ht; (focus (first | (with_reducible apply only_idle); (focus decide) | (with_reducible apply only_turn); (focus rfl); (focus rfl); (focus kernel_rfl) | exact only_calc rfl rfl rfl | exact only_check rfl rfl)))); go_simp; refine hK _ _ _ ?_; clear hK K)
        | ((with_reducible refine j_true ?_ ?_); (focus rfl)) | ((with_reducible refine j_false ?_ ?_); (focus rfl))
        | (with_reducible show Then _ _ _ _ _ _; simp only [Then])
        | (with_reducible show InBlock _ _ _ _ _ _; simp only [InBlock, ↓reduceIte, Nat.reduceEqDiff]))
      refine ⟨⟨rfl, hW.trans (hb1.mono hW.size), i + 1, by omega, ?_, _, _, _, _, _, _, _, _, _, _, _, rfl⟩, by show 20 - ((i : Int) + 1 + 1).toNat < 20 - ((i : Int) + 1).toNat; omega⟩
      intro j hj
      by_cases hji : j = i
      · subst hji; exact hle
      · exact hshort j (by omega)
    · have c2 : decide (5000 < (((m.area ((i : Int) + 1)).length : Nat) : Int)) = true := decide_eq_true (by omega)
      repeat (first
        | (with_reducible apply j_seq) | (with_reducible apply j_block) | (with_reducible apply j_ret) | (with_reducible apply j_skip) | (with_reducible apply j_exit) | (with_reducible apply j_label) | (with_reducible apply j_region_lit) | (with_reducible apply lst_nil)
        | ((with_reducible refine lst_unwanted ?_ ?_); (focus rfl); simp only [Act.put, List.setIfInBounds_toArray, List.set_cons_zero, List.set_cons_succ])
        | ((with_reducible refine lst_cons ?_ ?_ (fun K hK => ?_)); (focus rfl); (focus (intro ht; refine fine_none ?_ ht; (focus (first | (with_reducible apply only_idle); (focus decide) | (with_reducible apply only_turn); (focus rfl); (focus rfl); (focus kernel_rfl) | exact only_calc rfl rfl rfl | exact only_check rfl rfl)))); go_simp; refine hK _ _ _ ?_; clear hK K)
        | ((with_reducible refine j_true ?_ ?_); (focus rfl)) | ((with_reducible refine j_false ?_ ?_); (focus rfl))
        | (with_reducible show Then _ _ _ _ _ _; simp only [Then])
        | (with_reducible show InBlock _ _ _ _ _ _; simp only [InBlock, ↓reduceIte, Nat.reduceEqDiff]))
      have hno : Mem.short m = false := by
        unfold Mem.short
        rw [List.all_eq_false]
        exact ⟨i, List.mem_range.2 hlt, by simp; omega⟩
      exact body_ret1 rfl rfl ⟨rfl, hbW.trans (hb1.mono hbW.size), by rw [hno]; rfl⟩
  · have c1 : decide ((i : Int) + 1 ≤ 9) = false := decide_eq_false (by omega)
    repeat (first
      | (with_reducible apply j_seq) | (with_reducible apply j_block) | (with_reducible apply j_ret) | (with_reducible apply j_skip) | (with_reducible apply j_exit) | (with_reducible apply j_label) | (with_reducible apply j_region_lit) | (with_reducible apply lst_nil)
      | ((with_reducible refine lst_unwanted ?_ ?_); (focus rfl); simp only [Act.put, List.setIfInBounds_toArray, List.set_cons_zero, List.set_cons_succ])
      | ((with_reducible refine lst_cons ?_ ?_ (fun K hK => ?_)); (focus rfl); (focus (intro ht; refine fine_none ?_ ht; (focus (first | (with_reducible apply only_idle); (focus decide) | (with_reducible apply only_turn); (focus rfl); (focus rfl); (focus kernel_rfl) | exact only_calc rfl rfl rfl | exact only_check rfl rfl)))); go_simp; refine hK _ _ _ ?_; clear hK K)
      | ((with_reducible refine j_true ?_ ?_); (focus rfl)) | ((with_reducible refine j_false ?_ ?_); (focus rfl))
      | (with_reducible show Then _ _ _ _ _ _; simp only [Then])
      | (with_reducible show InBlock _ _ _ _ _ _; simp only [InBlock, ↓reduceIte, Nat.reduceEqDiff]))
    have hall : Mem.short m = true := by
      unfold Mem.short
      rw [List.all_eq_true]
      intro j hj
      rw [List.mem_range] at hj
      exact decide_eq_true (hshort j (by omega))
    exact body_ret1 rfl rfl ⟨rfl, hbW, by rw [hall]; rfl⟩
end
end Go.Proofs.Ytonhfgjofgbcdaa.Rf
