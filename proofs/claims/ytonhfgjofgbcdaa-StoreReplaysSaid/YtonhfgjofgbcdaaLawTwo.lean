/- Package shuntinglaw02: awake, walked. -/
import Derived.Test.YtonhfgjofgbcdaaRfAll
namespace Go.Proofs.Ytonhfgjofgbcdaa.Lw
set_option linter.unusedSimpArgs false
set_option linter.unusedVariables false
set_option maxRecDepth 20000
open Go Go.Conc Go.RowKit Go.Proofs.Ytonhfgjofgbcdaa.Jay Go.Proofs.Ytonhfgjofgbcdaa.Pl
open Go.Proofs.Ytonhfgjofgbcdaa.St Go.Proofs.Ytonhfgjofgbcdaa.Rf Go.Proofs.Ytonhfgjofgbcdaa.Wd
section
variable {γ : Type} {X : Turns γ} {s : γ} {w : World}
attribute [local go_sem] upon_value upon_skip

/-- What is stored as a whole: its cells are cells. -/
theorem memC_one {w : World} {B : Nat} {m : Mem} {cs : Array Value} (h : MemC w B m cs) : ∀ u ∈ (Value.agg cs).cells.toList, u.oneCell' = true := by
  obtain ⟨v2, v3, v6, v7, v8, rfl, h2, h3, h6, h7, h8⟩ := h
  obtain ⟨A2, c2, rfl, _⟩ := h2.form
  obtain ⟨A3, c3, rfl, _⟩ := h3.form
  obtain ⟨A6, c6, rfl, _⟩ := h6.form
  obtain ⟨A7, c7, rfl, _⟩ := h7.form
  obtain ⟨A8, c8, rfl, _⟩ := h8.form
  simp [Value.cells, Value.oneCell']

def mem1 : Mem := ⟨0, 2, [0, 0, 0], [0], 1, 1, [0, 0], [0, 0], [0, 0]⟩
theorem new1 : newMem 1 1 1 2 = mem1 := by decide +kernel
theorem act1 : mem1.act 3 5 0 1 9 = ({ mem1 with h := 9 }, 1, true) := by decide +kernel
theorem act2 : mem1.act 3 5 0 2 9 = (mem1, 1, false) := by decide +kernel
theorem small1 : mem1.small := by unfold Mem.small mem1; simp

set_option maxHeartbeats 8000000 in
theorem awake : Jdo Try.prog X 8 #[] s w fun s' r w' => s' = s ∧ Below w.heap.size w w' ∧ r = .back (.bool true) := by
  refine Jdo.there fun ht => ?_
  have hoth : ∀ b, w.heap.size ≤ b → ¬ X.oth s b := fun b hb ho => by have := ht b ho; omega
  refine jdo_of Try.func8 rfl ?_
  simp only [Try.ntmps8, List.size_toArray, List.length_cons, List.length_nil, Nat.reduceAdd, Nat.reduceSub, Array.replicate_succ, Array.replicate_zero, List.push_toArray, List.append_toArray, List.nil_append, List.cons_append]
  repeat (first
    | (with_reducible apply j_seq) | (with_reducible apply j_block) | (with_reducible apply j_ret) | (with_reducible apply j_skip) | (with_reducible apply j_exit) | (with_reducible apply j_label) | (with_reducible apply j_region_lit) | (with_reducible apply lst_nil)
    | ((with_reducible refine lst_unwanted ?_ ?_); (focus rfl); simp only [Act.put, List.setIfInBounds_toArray, List.set_cons_zero, List.set_cons_succ])
    | ((with_reducible refine lst_cons ?_ ?_ (fun K hK => ?_)); (focus rfl); (focus (intro ht; refine fine_none ?_ ht; (focus (first | (with_reducible apply only_idle); (focus decide) | (with_reducible apply only_turn); (focus rfl); (focus rfl); (focus kernel_rfl) | exact only_calc rfl rfl rfl | exact only_check rfl rfl)))); go_simp; refine hK _ _ _ ?_; clear hK K)
    | ((with_reducible refine j_true ?_ ?_); (focus rfl)) | ((with_reducible refine j_false ?_ ?_); (focus rfl))
    | (with_reducible show Then _ _ _ _ _ _; simp only [Then])
    | (with_reducible show InBlock _ _ _ _ _ _; simp only [InBlock, ↓reduceIte, Nat.reduceEqDiff]))
  refine lst_one (one_store (v := .agg #[.int .i64 1, .int .i64 1, .int .i64 1, .int .i64 2]) (cs' := #[.int .i64 1, .int .i64 1, .int .i64 1, .int .i64 2]) rfl rfl rfl rfl (Blk.new w _ _) (hoth _ (by omega)) (by kernel_rfl) (Nat.le_of_ble_eq_true rfl) (by simp [Value.cells, Value.oneCell']) rfl ?_)
  simp only [Act.put, List.setIfInBounds_toArray, List.set_cons_zero, List.set_cons_succ]
  have b1 := (Blk.new w 36 #[.int .i64 0, .int .i64 0, .int .i64 0, .int .i64 0]).row #[.int .i64 1, .int .i64 1, .int .i64 1, .int .i64 2]
  have hB1 : Below w.heap.size w _ := Below_row ((Below.refl _ _).alloc (Nat.le_refl _) (.cells #[.int .i64 0, .int .i64 0, .int .i64 0, .int .i64 0] 36)) #[.int .i64 1, .int .i64 1, .int .i64 1, .int .i64 2] (Nat.le_refl _)
  generalize hW1 : (w.alloc (.cells #[.int .i64 0, .int .i64 0, .int .i64 0, .int .i64 0] 36)).setRow w.heap.size #[.int .i64 1, .int .i64 1, .int .i64 1, .int .i64 2] = W1 at b1 hB1 ⊢
  clear hW1
  have d1 := b1.cell
  repeat (first
    | (with_reducible apply j_seq) | (with_reducible apply j_block) | (with_reducible apply j_ret) | (with_reducible apply j_skip) | (with_reducible apply j_exit) | (with_reducible apply j_label) | (with_reducible apply j_region_lit) | (with_reducible apply lst_nil)
    | ((with_reducible refine lst_unwanted ?_ ?_); (focus rfl); simp only [Act.put, List.setIfInBounds_toArray, List.set_cons_zero, List.set_cons_succ])
    | ((with_reducible refine lst_cons ?_ ?_ (fun K hK => ?_)); (focus rfl); (focus (intro ht; refine fine_none ?_ ht; (focus (first | (with_reducible apply only_idle); (focus decide) | (with_reducible apply only_turn); (focus rfl); (focus rfl); (focus kernel_rfl) | exact only_calc rfl rfl rfl | exact only_check rfl rfl)))); go_simp; refine hK _ _ _ ?_; clear hK K)
    | ((with_reducible refine j_true ?_ ?_); (focus rfl)) | ((with_reducible refine j_false ?_ ?_); (focus rfl))
    | (with_reducible show Then _ _ _ _ _ _; simp only [Then])
    | (with_reducible show InBlock _ _ _ _ _ _; simp only [InBlock, ↓reduceIte, Nat.reduceEqDiff]))
  refine lst_call _ rfl ?_ ?_ Try.func13 ?_ rfl (new_ok (k := 1) (K := 1) (T := 1) (M := 2) (by decide +kernel)) ?_
  focus rfl
  focus first | rfl | (go_simp; done) | (go_simp; rfl)
  focus rfl
  rintro s2 x W2 ⟨rfl, hb2, v, rfl, hm⟩
  rw [new1] at hm
  have hB2 := hB1.trans (hb2.mono hB1.size)
  clear b1 d1 hb2 hB1
  simp only [Act.put, List.setIfInBounds_toArray, List.set_cons_zero, List.set_cons_succ]
  obtain ⟨csp, rfl, hcp⟩ := hm
  have onep := memC_one hcp
  have hc0p := hcp
  obtain ⟨p2, p3, p6, p7, p8, rfl, _⟩ := hcp
  repeat (first
    | (with_reducible apply j_seq) | (with_reducible apply j_block) | (with_reducible apply j_ret) | (with_reducible apply j_skip) | (with_reducible apply j_exit) | (with_reducible apply j_label) | (with_reducible apply j_region_lit) | (with_reducible apply lst_nil)
    | ((with_reducible refine lst_unwanted ?_ ?_); (focus rfl); simp only [Act.put, List.setIfInBounds_toArray, List.set_cons_zero, List.set_cons_succ])
    | ((with_reducible refine lst_cons ?_ ?_ (fun K hK => ?_)); (focus rfl); (focus (intro ht; refine fine_none ?_ ht; (focus (first | (with_reducible apply only_idle); (focus decide) | (with_reducible apply only_turn); (focus rfl); (focus rfl); (focus kernel_rfl) | exact only_calc rfl rfl rfl | exact only_check rfl rfl)))); go_simp; refine hK _ _ _ ?_; clear hK K)
    | ((with_reducible refine j_true ?_ ?_); (focus rfl)) | ((with_reducible refine j_false ?_ ?_); (focus rfl))
    | (with_reducible show Then _ _ _ _ _ _; simp only [Then])
    | (with_reducible show InBlock _ _ _ _ _ _; simp only [InBlock, ↓reduceIte, Nat.reduceEqDiff]))
  refine lst_one (one_store (v := .agg #[_, _, p2, p3, _, _, p6, p7, p8]) (cs' := #[_, _, p2, p3, _, _, p6, p7, p8]) rfl rfl rfl rfl (Blk.new W2 _ _) (hoth _ (Below.size hB2)) (by kernel_rfl) (Nat.le_of_ble_eq_true rfl) onep rfl ?_)
  simp only [Act.put, List.setIfInBounds_toArray, List.set_cons_zero, List.set_cons_succ]
  have kp := (Blk.new W2 25 #[.int .u64 0, .int .u64 0, .slice none 0 0, .slice none 0 0, .int .u64 0, .int .u64 0, .slice none 0 0, .slice none 0 0, .slice none 0 0]).row #[.int .u64 (Mem.e mem1), .int .u64 (Mem.f mem1), p2, p3, .int .u64 (Mem.h mem1), .int .u64 (Mem.t mem1), p6, p7, p8]
  have wp : Below (World.heap W2).size W2 _ := Below_row ((Below.refl _ _).alloc (Nat.le_refl _) (.cells #[.int .u64 0, .int .u64 0, .slice none 0 0, .slice none 0 0, .int .u64 0, .int .u64 0, .slice none 0 0, .slice none 0 0, .slice none 0 0] 25)) #[.int .u64 (Mem.e mem1), .int .u64 (Mem.f mem1), p2, p3, .int .u64 (Mem.h mem1), .int .u64 (Mem.t mem1), p6, p7, p8] (Nat.le_refl _)
  generalize hhp : (World.alloc W2 (.cells #[.int .u64 0, .int .u64 0, .slice none 0 0, .slice none 0 0, .int .u64 0, .int .u64 0, .slice none 0 0, .slice none 0 0, .slice none 0 0] 25)).setRow (World.heap W2).size #[.int .u64 (Mem.e mem1), .int .u64 (Mem.f mem1), p2, p3, .int .u64 (Mem.h mem1), .int .u64 (Mem.t mem1), p6, p7, p8] = W3 at kp wp ⊢
  clear hhp
  have zp := hc0p.below wp
  have dp := kp.cell
  have gp := (hB2).trans (wp.mono (Below.size hB2))
  repeat (first
    | (with_reducible apply j_seq) | (with_reducible apply j_block) | (with_reducible apply j_ret) | (with_reducible apply j_skip) | (with_reducible apply j_exit) | (with_reducible apply j_label) | (with_reducible apply j_region_lit) | (with_reducible apply lst_nil)
    | ((with_reducible refine lst_unwanted ?_ ?_); (focus rfl); simp only [Act.put, List.setIfInBounds_toArray, List.set_cons_zero, List.set_cons_succ])
    | ((with_reducible refine lst_cons ?_ ?_ (fun K hK => ?_)); (focus rfl); (focus (intro ht; refine fine_none ?_ ht; (focus (first | (with_reducible apply only_idle); (focus decide) | (with_reducible apply only_turn); (focus rfl); (focus rfl); (focus kernel_rfl) | exact only_calc rfl rfl rfl | exact only_check rfl rfl)))); go_simp; refine hK _ _ _ ?_; clear hK K)
    | ((with_reducible refine j_true ?_ ?_); (focus rfl)) | ((with_reducible refine j_false ?_ ?_); (focus rfl))
    | (with_reducible show Then _ _ _ _ _ _; simp only [Then])
    | (with_reducible show InBlock _ _ _ _ _ _; simp only [InBlock, ↓reduceIte, Nat.reduceEqDiff]))
  refine lst_call _ rfl ?_ ?_ Try.func10 ?_ rfl (act (d := 3) (ar := 5) (at_ := 0) (old := 1) (new := 9) ⟨_, rfl, zp⟩ wp.size small1) ?_
  focus rfl
  focus first | rfl | (go_simp; done) | (go_simp; rfl)
  focus rfl
  rw [act1]
  rintro s3 x W4 ⟨rfl, hb4, v4, rfl, hm4⟩
  have gq := gp.trans (hb4.mono gp.size)
  simp only [Act.put, List.setIfInBounds_toArray, List.set_cons_zero, List.set_cons_succ]
  obtain ⟨csr, rfl, hcr⟩ := hm4
  have oner := memC_one hcr
  have hc0r := hcr
  obtain ⟨r2, r3, r6, r7, r8, rfl, _⟩ := hcr
  repeat (first
    | (with_reducible apply j_seq) | (with_reducible apply j_block) | (with_reducible apply j_ret) | (with_reducible apply j_skip) | (with_reducible apply j_exit) | (with_reducible apply j_label) | (with_reducible apply j_region_lit) | (with_reducible apply lst_nil)
    | ((with_reducible refine lst_unwanted ?_ ?_); (focus rfl); simp only [Act.put, List.setIfInBounds_toArray, List.set_cons_zero, List.set_cons_succ])
    | ((with_reducible refine lst_cons ?_ ?_ (fun K hK => ?_)); (focus rfl); (focus (intro ht; refine fine_none ?_ ht; (focus (first | (with_reducible apply only_idle); (focus decide) | (with_reducible apply only_turn); (focus rfl); (focus rfl); (focus kernel_rfl) | exact only_calc rfl rfl rfl | exact only_check rfl rfl)))); go_simp; refine hK _ _ _ ?_; clear hK K)
    | ((with_reducible refine j_true ?_ ?_); (focus rfl)) | ((with_reducible refine j_false ?_ ?_); (focus rfl))
    | (with_reducible show Then _ _ _ _ _ _; simp only [Then])
    | (with_reducible show InBlock _ _ _ _ _ _; simp only [InBlock, ↓reduceIte, Nat.reduceEqDiff]))
  refine lst_one (one_store (v := .agg #[_, _, r2, r3, _, _, r6, r7, r8]) (cs' := #[_, _, r2, r3, _, _, r6, r7, r8]) rfl rfl rfl rfl (Blk.new W4 _ _) (hoth _ (Below.size gq)) (by kernel_rfl) (Nat.le_of_ble_eq_true rfl) oner rfl ?_)
  simp only [Act.put, List.setIfInBounds_toArray, List.set_cons_zero, List.set_cons_succ]
  have kr := (Blk.new W4 25 #[.int .u64 0, .int .u64 0, .slice none 0 0, .slice none 0 0, .int .u64 0, .int .u64 0, .slice none 0 0, .slice none 0 0, .slice none 0 0]).row #[.int .u64 (Mem.e ({ mem1 with h := 9 } : Mem)), .int .u64 (Mem.f ({ mem1 with h := 9 } : Mem)), r2, r3, .int .u64 (Mem.h ({ mem1 with h := 9 } : Mem)), .int .u64 (Mem.t ({ mem1 with h := 9 } : Mem)), r6, r7, r8]
  have wr : Below (World.heap W4).size W4 _ := Below_row ((Below.refl _ _).alloc (Nat.le_refl _) (.cells #[.int .u64 0, .int .u64 0, .slice none 0 0, .slice none 0 0, .int .u64 0, .int .u64 0, .slice none 0 0, .slice none 0 0, .slice none 0 0] 25)) #[.int .u64 (Mem.e ({ mem1 with h := 9 } : Mem)), .int .u64 (Mem.f ({ mem1 with h := 9 } : Mem)), r2, r3, .int .u64 (Mem.h ({ mem1 with h := 9 } : Mem)), .int .u64 (Mem.t ({ mem1 with h := 9 } : Mem)), r6, r7, r8] (Nat.le_refl _)
  generalize hhr : (World.alloc W4 (.cells #[.int .u64 0, .int .u64 0, .slice none 0 0, .slice none 0 0, .int .u64 0, .int .u64 0, .slice none 0 0, .slice none 0 0, .slice none 0 0] 25)).setRow (World.heap W4).size #[.int .u64 (Mem.e ({ mem1 with h := 9 } : Mem)), .int .u64 (Mem.f ({ mem1 with h := 9 } : Mem)), r2, r3, .int .u64 (Mem.h ({ mem1 with h := 9 } : Mem)), .int .u64 (Mem.t ({ mem1 with h := 9 } : Mem)), r6, r7, r8] = W5 at kr wr ⊢
  clear hhr
  have zr := hc0r.below wr
  have dr := kr.cell
  have gr := (gq).trans (wr.mono (Below.size gq))
  have kp4 := kp.below hb4 kp.lt
  have kp5 := kp4.below wr kp4.lt
  have dp5 := kp5.cell
  have zp5 := (zp.below (hb4.mono wp.size)).below (wr.mono (Nat.le_trans wp.size hb4.size))
  have sp5 : W2.heap.size ≤ W5.heap.size := Nat.le_trans wp.size (Nat.le_trans hb4.size wr.size)
  clear dp
  repeat (first
    | (with_reducible apply j_seq) | (with_reducible apply j_block) | (with_reducible apply j_ret) | (with_reducible apply j_skip) | (with_reducible apply j_exit) | (with_reducible apply j_label) | (with_reducible apply j_region_lit) | (with_reducible apply lst_nil)
    | ((with_reducible refine lst_unwanted ?_ ?_); (focus rfl); simp only [Act.put, List.setIfInBounds_toArray, List.set_cons_zero, List.set_cons_succ])
    | ((with_reducible refine lst_cons ?_ ?_ (fun K hK => ?_)); (focus rfl); (focus (intro ht; refine fine_none ?_ ht; (focus (first | (with_reducible apply only_idle); (focus decide) | (with_reducible apply only_turn); (focus rfl); (focus rfl); (focus kernel_rfl) | exact only_calc rfl rfl rfl | exact only_check rfl rfl)))); go_simp; refine hK _ _ _ ?_; clear hK K)
    | ((with_reducible refine j_true ?_ ?_); (focus rfl)) | ((with_reducible refine j_false ?_ ?_); (focus rfl))
    | (with_reducible show Then _ _ _ _ _ _; simp only [Then])
    | (with_reducible show InBlock _ _ _ _ _ _; simp only [InBlock, ↓reduceIte, Nat.reduceEqDiff]))
  refine lst_call _ rfl ?_ ?_ Try.func10 ?_ rfl (act (d := 3) (ar := 5) (at_ := 0) (old := 2) (new := 9) ⟨_, rfl, zp5⟩ sp5 small1) ?_
  focus rfl
  focus first | rfl | (go_simp; done) | (go_simp; rfl)
  focus rfl
  rw [act2]
  rintro s4 x W6 ⟨rfl, hb6, v6, rfl, hm6⟩
  have gt := gr.trans (hb6.mono gr.size)
  simp only [Act.put, List.setIfInBounds_toArray, List.set_cons_zero, List.set_cons_succ]
  obtain ⟨cst, rfl, hct⟩ := hm6
  have onet := memC_one hct
  have hc0t := hct
  obtain ⟨t2, t3, t6, t7, t8, rfl, _⟩ := hct
  repeat (first
    | (with_reducible apply j_seq) | (with_reducible apply j_block) | (with_reducible apply j_ret) | (with_reducible apply j_skip) | (with_reducible apply j_exit) | (with_reducible apply j_label) | (with_reducible apply j_region_lit) | (with_reducible apply lst_nil)
    | ((with_reducible refine lst_unwanted ?_ ?_); (focus rfl); simp only [Act.put, List.setIfInBounds_toArray, List.set_cons_zero, List.set_cons_succ])
    | ((with_reducible refine lst_cons ?_ ?_ (fun K hK => ?_)); (focus rfl); (focus (intro ht; refine fine_none ?_ ht; (focus (first | (with_reducible apply only_idle); (focus decide) | (with_reducible apply only_turn); (focus rfl); (focus rfl); (focus kernel_rfl) | exact only_calc rfl rfl rfl | exact only_check rfl rfl)))); go_simp; refine hK _ _ _ ?_; clear hK K)
    | ((with_reducible refine j_true ?_ ?_); (focus rfl)) | ((with_reducible refine j_false ?_ ?_); (focus rfl))
    | (with_reducible show Then _ _ _ _ _ _; simp only [Then])
    | (with_reducible show InBlock _ _ _ _ _ _; simp only [InBlock, ↓reduceIte, Nat.reduceEqDiff]))
  refine lst_one (one_store (v := .agg #[_, _, t2, t3, _, _, t6, t7, t8]) (cs' := #[_, _, t2, t3, _, _, t6, t7, t8]) rfl rfl rfl rfl (Blk.new W6 _ _) (hoth _ (Below.size gt)) (by kernel_rfl) (Nat.le_of_ble_eq_true rfl) onet rfl ?_)
  simp only [Act.put, List.setIfInBounds_toArray, List.set_cons_zero, List.set_cons_succ]
  have kt := (Blk.new W6 25 #[.int .u64 0, .int .u64 0, .slice none 0 0, .slice none 0 0, .int .u64 0, .int .u64 0, .slice none 0 0, .slice none 0 0, .slice none 0 0]).row #[.int .u64 (Mem.e mem1), .int .u64 (Mem.f mem1), t2, t3, .int .u64 (Mem.h mem1), .int .u64 (Mem.t mem1), t6, t7, t8]
  have wt : Below (World.heap W6).size W6 _ := Below_row ((Below.refl _ _).alloc (Nat.le_refl _) (.cells #[.int .u64 0, .int .u64 0, .slice none 0 0, .slice none 0 0, .int .u64 0, .int .u64 0, .slice none 0 0, .slice none 0 0, .slice none 0 0] 25)) #[.int .u64 (Mem.e mem1), .int .u64 (Mem.f mem1), t2, t3, .int .u64 (Mem.h mem1), .int .u64 (Mem.t mem1), t6, t7, t8] (Nat.le_refl _)
  generalize hht : (World.alloc W6 (.cells #[.int .u64 0, .int .u64 0, .slice none 0 0, .slice none 0 0, .int .u64 0, .int .u64 0, .slice none 0 0, .slice none 0 0, .slice none 0 0] 25)).setRow (World.heap W6).size #[.int .u64 (Mem.e mem1), .int .u64 (Mem.f mem1), t2, t3, .int .u64 (Mem.h mem1), .int .u64 (Mem.t mem1), t6, t7, t8] = W7 at kt wt ⊢
  clear hht
  have zt := hc0t.below wt
  have dt := kt.cell
  have gt := (gt).trans (wt.mono (Below.size gt))
  have kp6 := kp5.below hb6 kp5.lt
  have kp7 := kp6.below wt kp6.lt
  have dp7 := kp7.cell
  have kr6 := kr.below hb6 kr.lt
  have kr7 := kr6.below wt kr6.lt
  have dr7 := kr7.cell
  clear dp5 dr
  have me1 : mem1.h = 1 := rfl
  have me2 : mem1.f = 2 := rfl
  rw [me1, me2] at dp7
  repeat (first
    | (with_reducible apply j_seq) | (with_reducible apply j_block) | (with_reducible apply j_ret) | (with_reducible apply j_skip) | (with_reducible apply j_exit) | (with_reducible apply j_label) | (with_reducible apply j_region_lit) | (with_reducible apply lst_nil)
    | ((with_reducible refine lst_unwanted ?_ ?_); (focus rfl); simp only [Act.put, List.setIfInBounds_toArray, List.set_cons_zero, List.set_cons_succ])
    | ((with_reducible refine lst_cons ?_ ?_ (fun K hK => ?_)); (focus rfl); (focus (intro ht; refine fine_none ?_ ht; (focus (first | (with_reducible apply only_idle); (focus decide) | (with_reducible apply only_turn); (focus rfl); (focus rfl); (focus kernel_rfl) | exact only_calc rfl rfl rfl | exact only_check rfl rfl)))); go_simp; refine hK _ _ _ ?_; clear hK K)
    | ((with_reducible refine j_true ?_ ?_); (focus rfl)) | ((with_reducible refine j_false ?_ ?_); (focus rfl))
    | (with_reducible show Then _ _ _ _ _ _; simp only [Then])
    | (with_reducible show InBlock _ _ _ _ _ _; simp only [InBlock, ↓reduceIte, Nat.reduceEqDiff]))
  exact body_ret1 rfl rfl ⟨rfl, gt, rfl⟩
end
end Go.Proofs.Ytonhfgjofgbcdaa.Lw
