/- Package shuntingref02: other words of an area, walked. -/
import Derived.Test.YtonhfgjofgbcdaaRfNew
import Derived.Test.YtonhfgjofgbcdaaLawTwo
namespace Go.Proofs.Ytonhfgjofgbcdaa.Rf
set_option linter.unusedSimpArgs false
set_option linter.unusedVariables false
set_option maxRecDepth 20000
open Go Go.Conc Go.RowKit Go.Proofs.Ytonhfgjofgbcdaa.Jay Go.Proofs.Ytonhfgjofgbcdaa.Pl
open Go.Proofs.Ytonhfgjofgbcdaa.St Go.Proofs.Ytonhfgjofgbcdaa.Wd
section
variable {γ : Type} {X : Turns γ} {s : γ} {w : World}
attribute [local go_sem] upon_value upon_skip

/-- A struct whose slices lie off a block. -/
def OffA (g : Nat) (v : Value) : Prop := ∀ cs, v = .agg cs → Off g cs

/-- What 'With' tells: the words, those of the area being others; they stand in each world where the words' lists and the other list stand. -/
def WithPost (s : γ) (w : World) (B B' : Nat) (v vs : Value) (m' : Mem) (s' : γ) (r : Came) (w' : World) : Prop := s' = s ∧ Below w.heap.size w w' ∧ ∃ cs, r = .back (.agg cs) ∧ MemC w' w'.heap.size m' cs ∧
  (∀ W5, (∀ v xs, Us w' B v xs → Us W5 W5.heap.size v xs) → (∀ xs, Us w' B' vs xs → Us W5 W5.heap.size vs xs) → MemC W5 W5.heap.size m' cs) ∧
  ∀ g, OffA g v → OffS g vs → Off g cs

/-- The words, those of an area being others. -/
def Mem.with_ (m : Mem) (a : Int) (xs : List Int) : Mem :=
  if a = 1 then { m with e := xs.headD 0 } else if a = 2 then { m with f := xs.headD 0 } else if a = 3 then { m with li := xs } else if a = 4 then { m with pi := xs } else if a = 5 then { m with h := xs.headD 0 } else if a = 6 then { m with t := xs.headD 0 }
  else if a = 7 then { m with ln := xs } else if a = 8 then { m with nx := xs } else if a = 9 then { m with sl := xs } else m

theorem with_put {m : Mem} {a : Int} {i : Nat} (x : Int) (h : i < (m.area a).length) : Mem.with_ m a ((m.area a).set i x) = m.put a i x := by
  have one : ∀ y : Int, i < [y].length → ([y] : List Int).set i x = [x] := fun y hy => by
    have : i = 0 := by simpa using hy
    subst this
    rfl
  unfold Mem.with_ Mem.put
  unfold Mem.area at h ⊢
  by_cases h1 : a = 1
  · simp only [h1, if_true] at h ⊢; rw [one _ h]; rfl
  · by_cases h2 : a = 2
    · subst h2; simp only [if_true, if_neg h1] at h ⊢; rw [one _ h]; rfl
    · by_cases h5 : a = 5
      · subst h5; simp at h ⊢; subst h; rfl
      · by_cases h6 : a = 6
        · subst h6; simp at h ⊢; subst h; rfl
        · simp only [if_neg h1, if_neg h2, if_neg h5, if_neg h6] at h ⊢
          by_cases h3 : a = 3
          · simp only [h3, if_true]
          · by_cases h4 : a = 4
            · subst h4; rfl
            · by_cases h7 : a = 7
              · subst h7; rfl
              · by_cases h8 : a = 8
                · subst h8; rfl
                · by_cases h9 : a = 9
                  · subst h9; rfl
                  · simp only [if_neg h3, if_neg h4, if_neg h7, if_neg h8, if_neg h9] at h
                    simp at h

set_option maxHeartbeats 4000000 in
theorem with_1 {B B' : Nat} {m : Mem} {v vs : Value} {x : Int} (hm : MemV w B m v) (hx : Us w B' vs [x]) (hB : B ≤ w.heap.size) (hB' : B' ≤ w.heap.size) : Jdo Try.prog X 38 #[v, .int .i64 1, vs] s w (WithPost s w B B' v vs { m with e := x }) := by
  refine Jdo.there fun ht => ?_
  have hoth : ∀ b, w.heap.size ≤ b → ¬ X.oth s b := fun b hb ho => by have := ht b ho; omega
  obtain ⟨cs, rfl, v2, v3, v6, v7, v8, rfl, h2, h3, h6, h7, h8⟩ := hm
  obtain ⟨gx, ox, c, rfl, hgx, hcx⟩ := us_row hx (by simp)
  have hc0 := hcx 0 (by simp)
  simp only [Nat.add_zero, List.getElem_cons_zero] at hc0
  have b0 := (Blk.new w 25 #[.int .u64 m.e, .int .u64 m.f, v2, v3, .int .u64 m.h, .int .u64 m.t, v6, v7, v8]).alloc (.cells #[.int .u64 0, .int .u64 0, .slice none 0 0, .slice none 0 0, .int .u64 0, .int .u64 0, .slice none 0 0, .slice none 0 0, .slice none 0 0] 25)
  have b1 := Blk.new1 w (.cells #[.int .u64 m.e, .int .u64 m.f, v2, v3, .int .u64 m.h, .int .u64 m.t, v6, v7, v8] 25) 25 #[.int .u64 0, .int .u64 0, .slice none 0 0, .slice none 0 0, .int .u64 0, .int .u64 0, .slice none 0 0, .slice none 0 0, .slice none 0 0]
  have hb0 := ((Below.refl w.heap.size w).alloc (Nat.le_refl _) (.cells #[.int .u64 m.e, .int .u64 m.f, v2, v3, .int .u64 m.h, .int .u64 m.t, v6, v7, v8] 25)).alloc (by simp) (.cells #[.int .u64 0, .int .u64 0, .slice none 0 0, .slice none 0 0, .int .u64 0, .int .u64 0, .slice none 0 0, .slice none 0 0, .slice none 0 0] 25)
  obtain ⟨W, hW⟩ : ∃ W, W = (w.alloc (.cells #[.int .u64 m.e, .int .u64 m.f, v2, v3, .int .u64 m.h, .int .u64 m.t, v6, v7, v8] 25)).alloc (.cells #[.int .u64 0, .int .u64 0, .slice none 0 0, .slice none 0 0, .int .u64 0, .int .u64 0, .slice none 0 0, .slice none 0 0, .slice none 0 0] 25) := ⟨_, rfl⟩
  rw [← hW] at b0 b1 hb0
  have hc1 : W.cell? ⟨gx, ox, none⟩ = some (.int .u64 x) := (hb0.cell (p := ⟨gx, ox, none⟩) (Nat.lt_of_lt_of_le hgx hB')).trans hc0
  refine jdo_of Try.func38 rfl ?_
  simp only [Try.ntmps38, List.size_toArray, List.length_cons, List.length_nil, Nat.reduceAdd, Nat.reduceSub, Array.replicate_succ, Array.replicate_zero, List.push_toArray, List.append_toArray, List.nil_append, List.cons_append]
  repeat (first
    | ((with_reducible refine lst_free ?_ ?_ (fun K hK => ?_)); (focus with_reducible rfl); (focus (intro ht; refine fine_none ?_ ht; (focus (first | (with_reducible apply only_idle); (focus decide) | (with_reducible apply only_turn); (focus rfl); (focus rfl); (focus kernel_rfl) | exact only_calc rfl rfl rfl | exact only_check rfl rfl)))); go_simp; refine hK _ _ _ ?_; clear hK K)
    | ((with_reducible refine lst_off (i := ?_) (b := ?_) (d := ?_) ?_ ?_ ?_ ?_); rotate_left 3; (focus with_reducible rfl); (focus rfl); (focus (simp only [List.getElem?_toArray, List.getElem?_cons_succ, List.getElem?_cons_zero, Bool.not_true, Bool.not_false])); simp only [Act.put, List.setIfInBounds_toArray, List.set_cons_zero, List.set_cons_succ])
    | ((with_reducible refine lst_on (i := ?_) (b := ?_) (d := ?_) ?_ ?_ ?_ ?_ (fun K hK => ?_)); rotate_left 3; (focus with_reducible rfl); (focus rfl); (focus (simp only [List.getElem?_toArray, List.getElem?_cons_succ, List.getElem?_cons_zero])); (focus (intro ht; refine fine_none ?_ ht; (focus (first | (with_reducible apply only_idle); (focus decide) | (with_reducible apply only_turn); (focus rfl); (focus rfl); (focus kernel_rfl) | exact only_calc rfl rfl rfl | exact only_check rfl rfl)))); go_simp; refine hK _ _ _ ?_; clear hK K)
    | (with_reducible apply lst_nil)
    | ((fail_if_success (with_reducible refine lst_any ?_)); first
    | (with_reducible apply j_seq) | (with_reducible apply j_block) | (with_reducible apply j_ret) | (with_reducible apply j_skip) | (with_reducible apply j_exit) | (with_reducible apply j_label) | (with_reducible apply j_region_lit)
    | ((with_reducible refine j_true ?_ ?_); (focus rfl)) | ((with_reducible refine j_false ?_ ?_); (focus rfl))
    | (with_reducible show Then _ _ _ _ _ _; simp only [Then])
    | (with_reducible show InBlock _ _ _ _ _ _; simp only [InBlock, ↓reduceIte, Nat.reduceEqDiff])))
  rw [← hW]
  clear hW
  have dW := b0.cell
  repeat (first
    | ((with_reducible refine lst_free ?_ ?_ (fun K hK => ?_)); (focus with_reducible rfl); (focus (intro ht; refine fine_none ?_ ht; (focus (first | (with_reducible apply only_idle); (focus decide) | (with_reducible apply only_turn); (focus rfl); (focus rfl); (focus kernel_rfl) | exact only_calc rfl rfl rfl | exact only_check rfl rfl)))); go_simp; refine hK _ _ _ ?_; clear hK K)
    | ((with_reducible refine lst_off (i := ?_) (b := ?_) (d := ?_) ?_ ?_ ?_ ?_); rotate_left 3; (focus with_reducible rfl); (focus rfl); (focus (simp only [List.getElem?_toArray, List.getElem?_cons_succ, List.getElem?_cons_zero, Bool.not_true, Bool.not_false])); simp only [Act.put, List.setIfInBounds_toArray, List.set_cons_zero, List.set_cons_succ])
    | ((with_reducible refine lst_on (i := ?_) (b := ?_) (d := ?_) ?_ ?_ ?_ ?_ (fun K hK => ?_)); rotate_left 3; (focus with_reducible rfl); (focus rfl); (focus (simp only [List.getElem?_toArray, List.getElem?_cons_succ, List.getElem?_cons_zero])); (focus (intro ht; refine fine_none ?_ ht; (focus (first | (with_reducible apply only_idle); (focus decide) | (with_reducible apply only_turn); (focus rfl); (focus rfl); (focus kernel_rfl) | exact only_calc rfl rfl rfl | exact only_check rfl rfl)))); go_simp; refine hK _ _ _ ?_; clear hK K)
    | (with_reducible apply lst_nil)
    | ((fail_if_success (with_reducible refine lst_any ?_)); first
    | (with_reducible apply j_seq) | (with_reducible apply j_block) | (with_reducible apply j_ret) | (with_reducible apply j_skip) | (with_reducible apply j_exit) | (with_reducible apply j_label) | (with_reducible apply j_region_lit)
    | ((with_reducible refine j_true ?_ ?_); (focus rfl)) | ((with_reducible refine j_false ?_ ?_); (focus rfl))
    | (with_reducible show Then _ _ _ _ _ _; simp only [Then])
    | (with_reducible show InBlock _ _ _ _ _ _; simp only [InBlock, ↓reduceIte, Nat.reduceEqDiff])))
  refine lst_one (one_store (v := .int .u64 x) (cs' := #[.int .u64 x, .int .u64 m.f, v2, v3, .int .u64 m.h, .int .u64 m.t, v6, v7, v8]) rfl rfl rfl rfl b0 (hoth _ (by omega)) (by kernel_rfl) (Nat.le_of_ble_eq_true rfl) (by simp [Value.cells, Value.oneCell']) rfl ?_)
  simp only [Act.put, List.setIfInBounds_toArray, List.set_cons_zero, List.set_cons_succ]
  have a0 := b0.row #[.int .u64 x, .int .u64 m.f, v2, v3, .int .u64 m.h, .int .u64 m.t, v6, v7, v8]
  have a1 := b1.row_far (g' := w.heap.size) #[.int .u64 x, .int .u64 m.f, v2, v3, .int .u64 m.h, .int .u64 m.t, v6, v7, v8] (by omega)
  have g0 := Below_row hb0 #[.int .u64 x, .int .u64 m.f, v2, v3, .int .u64 m.h, .int .u64 m.t, v6, v7, v8] (g := w.heap.size) (Nat.le_refl _)
  generalize hW1 : W.setRow w.heap.size #[.int .u64 x, .int .u64 m.f, v2, v3, .int .u64 m.h, .int .u64 m.t, v6, v7, v8] = W1 at a0 a1 g0 ⊢
  clear hW1 dW
  have dW := a0.cell
  repeat (first
    | ((with_reducible refine lst_free ?_ ?_ (fun K hK => ?_)); (focus with_reducible rfl); (focus (intro ht; refine fine_none ?_ ht; (focus (first | (with_reducible apply only_idle); (focus decide) | (with_reducible apply only_turn); (focus rfl); (focus rfl); (focus kernel_rfl) | exact only_calc rfl rfl rfl | exact only_check rfl rfl)))); go_simp; refine hK _ _ _ ?_; clear hK K)
    | ((with_reducible refine lst_off (i := ?_) (b := ?_) (d := ?_) ?_ ?_ ?_ ?_); rotate_left 3; (focus with_reducible rfl); (focus rfl); (focus (simp only [List.getElem?_toArray, List.getElem?_cons_succ, List.getElem?_cons_zero, Bool.not_true, Bool.not_false])); simp only [Act.put, List.setIfInBounds_toArray, List.set_cons_zero, List.set_cons_succ])
    | ((with_reducible refine lst_on (i := ?_) (b := ?_) (d := ?_) ?_ ?_ ?_ ?_ (fun K hK => ?_)); rotate_left 3; (focus with_reducible rfl); (focus rfl); (focus (simp only [List.getElem?_toArray, List.getElem?_cons_succ, List.getElem?_cons_zero])); (focus (intro ht; refine fine_none ?_ ht; (focus (first | (with_reducible apply only_idle); (focus decide) | (with_reducible apply only_turn); (focus rfl); (focus rfl); (focus kernel_rfl) | exact only_calc rfl rfl rfl | exact only_check rfl rfl)))); go_simp; refine hK _ _ _ ?_; clear hK K)
    | (with_reducible apply lst_nil)
    | ((fail_if_success (with_reducible refine lst_any ?_)); first
    | (with_reducible apply j_seq) | (with_reducible apply j_block) | (with_reducible apply j_ret) | (with_reducible apply j_skip) | (with_reducible apply j_exit) | (with_reducible apply j_label) | (with_reducible apply j_region_lit)
    | ((with_reducible refine j_true ?_ ?_); (focus rfl)) | ((with_reducible refine j_false ?_ ?_); (focus rfl))
    | (with_reducible show Then _ _ _ _ _ _; simp only [Then])
    | (with_reducible show InBlock _ _ _ _ _ _; simp only [InBlock, ↓reduceIte, Nat.reduceEqDiff])))
  have mv : ∀ {v xs}, Us w B v xs → Us W1 W1.heap.size v xs := fun h => (h.below (g0.mono hB)).more (Nat.le_trans hB g0.size)
  have mw : ∀ {v xs}, Us w B' v xs → Us W1 W1.heap.size v xs := fun h => (h.below (g0.mono hB')).more (Nat.le_trans hB' g0.size)
  have hM : MemC W1 W1.heap.size { m with e := x } #[.int .u64 x, .int .u64 m.f, v2, v3, .int .u64 m.h, .int .u64 m.t, v6, v7, v8] := ⟨_, _, _, _, _, rfl, mv h2, mv h3, mv h6, mv h7, mv h8⟩
  refine lst_one (one_store (v := .agg #[.int .u64 x, .int .u64 m.f, v2, v3, .int .u64 m.h, .int .u64 m.t, v6, v7, v8]) (cs' := #[.int .u64 x, .int .u64 m.f, v2, v3, .int .u64 m.h, .int .u64 m.t, v6, v7, v8]) rfl rfl rfl rfl a1 (hoth _ (by omega)) (by kernel_rfl) (Nat.le_of_ble_eq_true rfl) (Lw.memC_one hM) rfl ?_)
  simp only [Act.put, List.setIfInBounds_toArray, List.set_cons_zero, List.set_cons_succ]
  have f1 := a1.row #[.int .u64 x, .int .u64 m.f, v2, v3, .int .u64 m.h, .int .u64 m.t, v6, v7, v8]
  have g1 := Below_row g0 #[.int .u64 x, .int .u64 m.f, v2, v3, .int .u64 m.h, .int .u64 m.t, v6, v7, v8] (g := w.heap.size + 1) (by omega)
  generalize hW2 : W1.setRow (w.heap.size + 1) #[.int .u64 x, .int .u64 m.f, v2, v3, .int .u64 m.h, .int .u64 m.t, v6, v7, v8] = W2 at f1 g1 ⊢
  clear hW2 dW hM mv mw
  have d1 := f1.cell
  repeat (first
    | ((with_reducible refine lst_free ?_ ?_ (fun K hK => ?_)); (focus with_reducible rfl); (focus (intro ht; refine fine_none ?_ ht; (focus (first | (with_reducible apply only_idle); (focus decide) | (with_reducible apply only_turn); (focus rfl); (focus rfl); (focus kernel_rfl) | exact only_calc rfl rfl rfl | exact only_check rfl rfl)))); go_simp; refine hK _ _ _ ?_; clear hK K)
    | ((with_reducible refine lst_off (i := ?_) (b := ?_) (d := ?_) ?_ ?_ ?_ ?_); rotate_left 3; (focus with_reducible rfl); (focus rfl); (focus (simp only [List.getElem?_toArray, List.getElem?_cons_succ, List.getElem?_cons_zero, Bool.not_true, Bool.not_false])); simp only [Act.put, List.setIfInBounds_toArray, List.set_cons_zero, List.set_cons_succ])
    | ((with_reducible refine lst_on (i := ?_) (b := ?_) (d := ?_) ?_ ?_ ?_ ?_ (fun K hK => ?_)); rotate_left 3; (focus with_reducible rfl); (focus rfl); (focus (simp only [List.getElem?_toArray, List.getElem?_cons_succ, List.getElem?_cons_zero])); (focus (intro ht; refine fine_none ?_ ht; (focus (first | (with_reducible apply only_idle); (focus decide) | (with_reducible apply only_turn); (focus rfl); (focus rfl); (focus kernel_rfl) | exact only_calc rfl rfl rfl | exact only_check rfl rfl)))); go_simp; refine hK _ _ _ ?_; clear hK K)
    | (with_reducible apply lst_nil)
    | ((fail_if_success (with_reducible refine lst_any ?_)); first
    | (with_reducible apply j_seq) | (with_reducible apply j_block) | (with_reducible apply j_ret) | (with_reducible apply j_skip) | (with_reducible apply j_exit) | (with_reducible apply j_label) | (with_reducible apply j_region_lit)
    | ((with_reducible refine j_true ?_ ?_); (focus rfl)) | ((with_reducible refine j_false ?_ ?_); (focus rfl))
    | (with_reducible show Then _ _ _ _ _ _; simp only [Then])
    | (with_reducible show InBlock _ _ _ _ _ _; simp only [InBlock, ↓reduceIte, Nat.reduceEqDiff])))
  have mv2 : ∀ {v xs}, Us w B v xs → Us W2 B v xs := fun h => h.below (g1.mono hB)
  have mw2 : ∀ {v xs}, Us w B' v xs → Us W2 B' v xs := fun h => h.below (g1.mono hB')
  have fin : ∀ W5, (∀ v xs, Us W2 B v xs → Us W5 W5.heap.size v xs) → (∀ xs', Us W2 B' (.slice (some ⟨gx, ox, none⟩) [x].length c) xs' → Us W5 W5.heap.size (.slice (some ⟨gx, ox, none⟩) [x].length c) xs') → MemC W5 W5.heap.size { m with e := x } #[.int .u64 x, .int .u64 m.f, v2, v3, .int .u64 m.h, .int .u64 m.t, v6, v7, v8] := fun W5 k1 k2 => ⟨_, _, _, _, _, rfl, k1 _ _ (mv2 h2), k1 _ _ (mv2 h3), k1 _ _ (mv2 h6), k1 _ _ (mv2 h7), k1 _ _ (mv2 h8)⟩
  exact body_run (.agg #[.int .u64 x, .int .u64 m.f, v2, v3, .int .u64 m.h, .int .u64 m.t, v6, v7, v8]) rfl (by simp [results, go_sem, d1]) ⟨rfl, g1, _, rfl, fin W2 (fun _ _ h => h.more (Nat.le_trans hB g1.size)) (fun _ h => h.more (Nat.le_trans hB' g1.size)), fin, fun g ho hv => Off.set_ (k := 0) (v := .int .u64 x) (ho _ rfl) (offS_int _ _ _)⟩

set_option maxHeartbeats 4000000 in
theorem with_2 {B B' : Nat} {m : Mem} {v vs : Value} {x : Int} (hm : MemV w B m v) (hx : Us w B' vs [x]) (hB : B ≤ w.heap.size) (hB' : B' ≤ w.heap.size) : Jdo Try.prog X 38 #[v, .int .i64 2, vs] s w (WithPost s w B B' v vs { m with f := x }) := by
  refine Jdo.there fun ht => ?_
  have hoth : ∀ b, w.heap.size ≤ b → ¬ X.oth s b := fun b hb ho => by have := ht b ho; omega
  obtain ⟨cs, rfl, v2, v3, v6, v7, v8, rfl, h2, h3, h6, h7, h8⟩ := hm
  obtain ⟨gx, ox, c, rfl, hgx, hcx⟩ := us_row hx (by simp)
  have hc0 := hcx 0 (by simp)
  simp only [Nat.add_zero, List.getElem_cons_zero] at hc0
  have b0 := (Blk.new w 25 #[.int .u64 m.e, .int .u64 m.f, v2, v3, .int .u64 m.h, .int .u64 m.t, v6, v7, v8]).alloc (.cells #[.int .u64 0, .int .u64 0, .slice none 0 0, .slice none 0 0, .int .u64 0, .int .u64 0, .slice none 0 0, .slice none 0 0, .slice none 0 0] 25)
  have b1 := Blk.new1 w (.cells #[.int .u64 m.e, .int .u64 m.f, v2, v3, .int .u64 m.h, .int .u64 m.t, v6, v7, v8] 25) 25 #[.int .u64 0, .int .u64 0, .slice none 0 0, .slice none 0 0, .int .u64 0, .int .u64 0, .slice none 0 0, .slice none 0 0, .slice none 0 0]
  have hb0 := ((Below.refl w.heap.size w).alloc (Nat.le_refl _) (.cells #[.int .u64 m.e, .int .u64 m.f, v2, v3, .int .u64 m.h, .int .u64 m.t, v6, v7, v8] 25)).alloc (by simp) (.cells #[.int .u64 0, .int .u64 0, .slice none 0 0, .slice none 0 0, .int .u64 0, .int .u64 0, .slice none 0 0, .slice none 0 0, .slice none 0 0] 25)
  obtain ⟨W, hW⟩ : ∃ W, W = (w.alloc (.cells #[.int .u64 m.e, .int .u64 m.f, v2, v3, .int .u64 m.h, .int .u64 m.t, v6, v7, v8] 25)).alloc (.cells #[.int .u64 0, .int .u64 0, .slice none 0 0, .slice none 0 0, .int .u64 0, .int .u64 0, .slice none 0 0, .slice none 0 0, .slice none 0 0] 25) := ⟨_, rfl⟩
  rw [← hW] at b0 b1 hb0
  have hc1 : W.cell? ⟨gx, ox, none⟩ = some (.int .u64 x) := (hb0.cell (p := ⟨gx, ox, none⟩) (Nat.lt_of_lt_of_le hgx hB')).trans hc0
  refine jdo_of Try.func38 rfl ?_
  simp only [Try.ntmps38, List.size_toArray, List.length_cons, List.length_nil, Nat.reduceAdd, Nat.reduceSub, Array.replicate_succ, Array.replicate_zero, List.push_toArray, List.append_toArray, List.nil_append, List.cons_append]
  repeat (first
    | ((with_reducible refine lst_free ?_ ?_ (fun K hK => ?_)); (focus with_reducible rfl); (focus (intro ht; refine fine_none ?_ ht; (focus (first | (with_reducible apply only_idle); (focus decide) | (with_reducible apply only_turn); (focus rfl); (focus rfl); (focus kernel_rfl) | exact only_calc rfl rfl rfl | exact only_check rfl rfl)))); go_simp; refine hK _ _ _ ?_; clear hK K)
    | ((with_reducible refine lst_off (i := ?_) (b := ?_) (d := ?_) ?_ ?_ ?_ ?_); rotate_left 3; (focus with_reducible rfl); (focus rfl); (focus (simp only [List.getElem?_toArray, List.getElem?_cons_succ, List.getElem?_cons_zero, Bool.not_true, Bool.not_false])); simp only [Act.put, List.setIfInBounds_toArray, List.set_cons_zero, List.set_cons_succ])
    | ((with_reducible refine lst_on (i := ?_) (b := ?_) (d := ?_) ?_ ?_ ?_ ?_ (fun K hK => ?_)); rotate_left 3; (focus with_reducible rfl); (focus rfl); (focus (simp only [List.getElem?_toArray, List.getElem?_cons_succ, List.getElem?_cons_zero])); (focus (intro ht; refine fine_none ?_ ht; (focus (first | (with_reducible apply only_idle); (focus decide) | (with_reducible apply only_turn); (focus rfl); (focus rfl); (focus kernel_rfl) | exact only_calc rfl rfl rfl | exact only_check rfl rfl)))); go_simp; refine hK _ _ _ ?_; clear hK K)
    | (with_reducible apply lst_nil)
    | ((fail_if_success (with_reducible refine lst_any ?_)); first
    | (with_reducible apply j_seq) | (with_reducible apply j_block) | (with_reducible apply j_ret) | (with_reducible apply j_skip) | (with_reducible apply j_exit) | (with_reducible apply j_label) | (with_reducible apply j_region_lit)
    | ((with_reducible refine j_true ?_ ?_); (focus rfl)) | ((with_reducible refine j_false ?_ ?_); (focus rfl))
    | (with_reducible show Then _ _ _ _ _ _; simp only [Then])
    | (with_reducible show InBlock _ _ _ _ _ _; simp only [InBlock, ↓reduceIte, Nat.reduceEqDiff])))
  rw [← hW]
  clear hW
  have dW := b0.cell
  repeat (first
    | ((with_reducible refine lst_free ?_ ?_ (fun K hK => ?_)); (focus with_reducible rfl); (focus (intro ht; refine fine_none ?_ ht; (focus (first | (with_reducible apply only_idle); (focus decide) | (with_reducible apply only_turn); (focus rfl); (focus rfl); (focus kernel_rfl) | exact only_calc rfl rfl rfl | exact only_check rfl rfl)))); go_simp; refine hK _ _ _ ?_; clear hK K)
    | ((with_reducible refine lst_off (i := ?_) (b := ?_) (d := ?_) ?_ ?_ ?_ ?_); rotate_left 3; (focus with_reducible rfl); (focus rfl); (focus (simp only [List.getElem?_toArray, List.getElem?_cons_succ, List.getElem?_cons_zero, Bool.not_true, Bool.not_false])); simp only [Act.put, List.setIfInBounds_toArray, List.set_cons_zero, List.set_cons_succ])
    | ((with_reducible refine lst_on (i := ?_) (b := ?_) (d := ?_) ?_ ?_ ?_ ?_ (fun K hK => ?_)); rotate_left 3; (focus with_reducible rfl); (focus rfl); (focus (simp only [List.getElem?_toArray, List.getElem?_cons_succ, List.getElem?_cons_zero])); (focus (intro ht; refine fine_none ?_ ht; (focus (first | (with_reducible apply only_idle); (focus decide) | (with_reducible apply only_turn); (focus rfl); (focus rfl); (focus kernel_rfl) | exact only_calc rfl rfl rfl | exact only_check rfl rfl)))); go_simp; refine hK _ _ _ ?_; clear hK K)
    | (with_reducible apply lst_nil)
    | ((fail_if_success (with_reducible refine lst_any ?_)); first
    | (with_reducible apply j_seq) | (with_reducible apply j_block) | (with_reducible apply j_ret) | (with_reducible apply j_skip) | (with_reducible apply j_exit) | (with_reducible apply j_label) | (with_reducible apply j_region_lit)
    | ((with_reducible refine j_true ?_ ?_); (focus rfl)) | ((with_reducible refine j_false ?_ ?_); (focus rfl))
    | (with_reducible show Then _ _ _ _ _ _; simp only [Then])
    | (with_reducible show InBlock _ _ _ _ _ _; simp only [InBlock, ↓reduceIte, Nat.reduceEqDiff])))
  refine lst_one (one_store (v := .int .u64 x) (cs' := #[.int .u64 m.e, .int .u64 x, v2, v3, .int .u64 m.h, .int .u64 m.t, v6, v7, v8]) rfl rfl rfl rfl b0 (hoth _ (by omega)) (by kernel_rfl) (Nat.le_of_ble_eq_true rfl) (by simp [Value.cells, Value.oneCell']) rfl ?_)
  simp only [Act.put, List.setIfInBounds_toArray, List.set_cons_zero, List.set_cons_succ]
  have a0 := b0.row #[.int .u64 m.e, .int .u64 x, v2, v3, .int .u64 m.h, .int .u64 m.t, v6, v7, v8]
  have a1 := b1.row_far (g' := w.heap.size) #[.int .u64 m.e, .int .u64 x, v2, v3, .int .u64 m.h, .int .u64 m.t, v6, v7, v8] (by omega)
  have g0 := Below_row hb0 #[.int .u64 m.e, .int .u64 x, v2, v3, .int .u64 m.h, .int .u64 m.t, v6, v7, v8] (g := w.heap.size) (Nat.le_refl _)
  generalize hW1 : W.setRow w.heap.size #[.int .u64 m.e, .int .u64 x, v2, v3, .int .u64 m.h, .int .u64 m.t, v6, v7, v8] = W1 at a0 a1 g0 ⊢
  clear hW1 dW
  have dW := a0.cell
  repeat (first
    | ((with_reducible refine lst_free ?_ ?_ (fun K hK => ?_)); (focus with_reducible rfl); (focus (intro ht; refine fine_none ?_ ht; (focus (first | (with_reducible apply only_idle); (focus decide) | (with_reducible apply only_turn); (focus rfl); (focus rfl); (focus kernel_rfl) | exact only_calc rfl rfl rfl | exact only_check rfl rfl)))); go_simp; refine hK _ _ _ ?_; clear hK K)
    | ((with_reducible refine lst_off (i := ?_) (b := ?_) (d := ?_) ?_ ?_ ?_ ?_); rotate_left 3; (focus with_reducible rfl); (focus rfl); (focus (simp only [List.getElem?_toArray, List.getElem?_cons_succ, List.getElem?_cons_zero, Bool.not_true, Bool.not_false])); simp only [Act.put, List.setIfInBounds_toArray, List.set_cons_zero, List.set_cons_succ])
    | ((with_reducible refine lst_on (i := ?_) (b := ?_) (d := ?_) ?_ ?_ ?_ ?_ (fun K hK => ?_)); rotate_left 3; (focus with_reducible rfl); (focus rfl); (focus (simp only [List.getElem?_toArray, List.getElem?_cons_succ, List.getElem?_cons_zero])); (focus (intro ht; refine fine_none ?_ ht; (focus (first | (with_reducible apply only_idle); (focus decide) | (with_reducible apply only_turn); (focus rfl); (focus rfl); (focus kernel_rfl) | exact only_calc rfl rfl rfl | exact only_check rfl rfl)))); go_simp; refine hK _ _ _ ?_; clear hK K)
    | (with_reducible apply lst_nil)
    | ((fail_if_success (with_reducible refine lst_any ?_)); first
    | (with_reducible apply j_seq) | (with_reducible apply j_block) | (with_reducible apply j_ret) | (with_reducible apply j_skip) | (with_reducible apply j_exit) | (with_reducible apply j_label) | (with_reducible apply j_region_lit)
    | ((with_reducible refine j_true ?_ ?_); (focus rfl)) | ((with_reducible refine j_false ?_ ?_); (focus rfl))
    | (with_reducible show Then _ _ _ _ _ _; simp only [Then])
    | (with_reducible show InBlock _ _ _ _ _ _; simp only [InBlock, ↓reduceIte, Nat.reduceEqDiff])))
  have mv : ∀ {v xs}, Us w B v xs → Us W1 W1.heap.size v xs := fun h => (h.below (g0.mono hB)).more (Nat.le_trans hB g0.size)
  have mw : ∀ {v xs}, Us w B' v xs → Us W1 W1.heap.size v xs := fun h => (h.below (g0.mono hB')).more (Nat.le_trans hB' g0.size)
  have hM : MemC W1 W1.heap.size { m with f := x } #[.int .u64 m.e, .int .u64 x, v2, v3, .int .u64 m.h, .int .u64 m.t, v6, v7, v8] := ⟨_, _, _, _, _, rfl, mv h2, mv h3, mv h6, mv h7, mv h8⟩
  refine lst_one (one_store (v := .agg #[.int .u64 m.e, .int .u64 x, v2, v3, .int .u64 m.h, .int .u64 m.t, v6, v7, v8]) (cs' := #[.int .u64 m.e, .int .u64 x, v2, v3, .int .u64 m.h, .int .u64 m.t, v6, v7, v8]) rfl rfl rfl rfl a1 (hoth _ (by omega)) (by kernel_rfl) (Nat.le_of_ble_eq_true rfl) (Lw.memC_one hM) rfl ?_)
  simp only [Act.put, List.setIfInBounds_toArray, List.set_cons_zero, List.set_cons_succ]
  have f1 := a1.row #[.int .u64 m.e, .int .u64 x, v2, v3, .int .u64 m.h, .int .u64 m.t, v6, v7, v8]
  have g1 := Below_row g0 #[.int .u64 m.e, .int .u64 x, v2, v3, .int .u64 m.h, .int .u64 m.t, v6, v7, v8] (g := w.heap.size + 1) (by omega)
  generalize hW2 : W1.setRow (w.heap.size + 1) #[.int .u64 m.e, .int .u64 x, v2, v3, .int .u64 m.h, .int .u64 m.t, v6, v7, v8] = W2 at f1 g1 ⊢
  clear hW2 dW hM mv mw
  have d1 := f1.cell
  repeat (first
    | ((with_reducible refine lst_free ?_ ?_ (fun K hK => ?_)); (focus with_reducible rfl); (focus (intro ht; refine fine_none ?_ ht; (focus (first | (with_reducible apply only_idle); (focus decide) | (with_reducible apply only_turn); (focus rfl); (focus rfl); (focus kernel_rfl) | exact only_calc rfl rfl rfl | exact only_check rfl rfl)))); go_simp; refine hK _ _ _ ?_; clear hK K)
    | ((with_reducible refine lst_off (i := ?_) (b := ?_) (d := ?_) ?_ ?_ ?_ ?_); rotate_left 3; (focus with_reducible rfl); (focus rfl); (focus (simp only [List.getElem?_toArray, List.getElem?_cons_succ, List.getElem?_cons_zero, Bool.not_true, Bool.not_false])); simp only [Act.put, List.setIfInBounds_toArray, List.set_cons_zero, List.set_cons_succ])
    | ((with_reducible refine lst_on (i := ?_) (b := ?_) (d := ?_) ?_ ?_ ?_ ?_ (fun K hK => ?_)); rotate_left 3; (focus with_reducible rfl); (focus rfl); (focus (simp only [List.getElem?_toArray, List.getElem?_cons_succ, List.getElem?_cons_zero])); (focus (intro ht; refine fine_none ?_ ht; (focus (first | (with_reducible apply only_idle); (focus decide) | (with_reducible apply only_turn); (focus rfl); (focus rfl); (focus kernel_rfl) | exact only_calc rfl rfl rfl | exact only_check rfl rfl)))); go_simp; refine hK _ _ _ ?_; clear hK K)
    | (with_reducible apply lst_nil)
    | ((fail_if_success (with_reducible refine lst_any ?_)); first
    | (with_reducible apply j_seq) | (with_reducible apply j_block) | (with_reducible apply j_ret) | (with_reducible apply j_skip) | (with_reducible apply j_exit) | (with_reducible apply j_label) | (with_reducible apply j_region_lit)
    | ((with_reducible refine j_true ?_ ?_); (focus rfl)) | ((with_reducible refine j_false ?_ ?_); (focus rfl))
    | (with_reducible show Then _ _ _ _ _ _; simp only [Then])
    | (with_reducible show InBlock _ _ _ _ _ _; simp only [InBlock, ↓reduceIte, Nat.reduceEqDiff])))
  have mv2 : ∀ {v xs}, Us w B v xs → Us W2 B v xs := fun h => h.below (g1.mono hB)
  have mw2 : ∀ {v xs}, Us w B' v xs → Us W2 B' v xs := fun h => h.below (g1.mono hB')
  have fin : ∀ W5, (∀ v xs, Us W2 B v xs → Us W5 W5.heap.size v xs) → (∀ xs', Us W2 B' (.slice (some ⟨gx, ox, none⟩) [x].length c) xs' → Us W5 W5.heap.size (.slice (some ⟨gx, ox, none⟩) [x].length c) xs') → MemC W5 W5.heap.size { m with f := x } #[.int .u64 m.e, .int .u64 x, v2, v3, .int .u64 m.h, .int .u64 m.t, v6, v7, v8] := fun W5 k1 k2 => ⟨_, _, _, _, _, rfl, k1 _ _ (mv2 h2), k1 _ _ (mv2 h3), k1 _ _ (mv2 h6), k1 _ _ (mv2 h7), k1 _ _ (mv2 h8)⟩
  exact body_run (.agg #[.int .u64 m.e, .int .u64 x, v2, v3, .int .u64 m.h, .int .u64 m.t, v6, v7, v8]) rfl (by simp [results, go_sem, d1]) ⟨rfl, g1, _, rfl, fin W2 (fun _ _ h => h.more (Nat.le_trans hB g1.size)) (fun _ h => h.more (Nat.le_trans hB' g1.size)), fin, fun g ho hv => Off.set_ (k := 1) (v := .int .u64 x) (ho _ rfl) (offS_int _ _ _)⟩

set_option maxHeartbeats 4000000 in
theorem with_3 {B B' : Nat} {m : Mem} {v vs : Value} {xs : List Int} (hm : MemV w B m v) (hx : Us w B' vs xs) (hB : B ≤ w.heap.size) (hB' : B' ≤ w.heap.size) : Jdo Try.prog X 38 #[v, .int .i64 3, vs] s w (WithPost s w B B' v vs { m with li := xs }) := by
  refine Jdo.there fun ht => ?_
  have hoth : ∀ b, w.heap.size ≤ b → ¬ X.oth s b := fun b hb ho => by have := ht b ho; omega
  obtain ⟨cs, rfl, v2, v3, v6, v7, v8, rfl, h2, h3, h6, h7, h8⟩ := hm
  obtain ⟨A, c, rfl, _, _⟩ := hx.form
  have b0 := (Blk.new w 25 #[.int .u64 m.e, .int .u64 m.f, v2, v3, .int .u64 m.h, .int .u64 m.t, v6, v7, v8]).alloc (.cells #[.int .u64 0, .int .u64 0, .slice none 0 0, .slice none 0 0, .int .u64 0, .int .u64 0, .slice none 0 0, .slice none 0 0, .slice none 0 0] 25)
  have b1 := Blk.new1 w (.cells #[.int .u64 m.e, .int .u64 m.f, v2, v3, .int .u64 m.h, .int .u64 m.t, v6, v7, v8] 25) 25 #[.int .u64 0, .int .u64 0, .slice none 0 0, .slice none 0 0, .int .u64 0, .int .u64 0, .slice none 0 0, .slice none 0 0, .slice none 0 0]
  have hb0 := ((Below.refl w.heap.size w).alloc (Nat.le_refl _) (.cells #[.int .u64 m.e, .int .u64 m.f, v2, v3, .int .u64 m.h, .int .u64 m.t, v6, v7, v8] 25)).alloc (by simp) (.cells #[.int .u64 0, .int .u64 0, .slice none 0 0, .slice none 0 0, .int .u64 0, .int .u64 0, .slice none 0 0, .slice none 0 0, .slice none 0 0] 25)
  obtain ⟨W, hW⟩ : ∃ W, W = (w.alloc (.cells #[.int .u64 m.e, .int .u64 m.f, v2, v3, .int .u64 m.h, .int .u64 m.t, v6, v7, v8] 25)).alloc (.cells #[.int .u64 0, .int .u64 0, .slice none 0 0, .slice none 0 0, .int .u64 0, .int .u64 0, .slice none 0 0, .slice none 0 0, .slice none 0 0] 25) := ⟨_, rfl⟩
  rw [← hW] at b0 b1 hb0
  refine jdo_of Try.func38 rfl ?_
  simp only [Try.ntmps38, List.size_toArray, List.length_cons, List.length_nil, Nat.reduceAdd, Nat.reduceSub, Array.replicate_succ, Array.replicate_zero, List.push_toArray, List.append_toArray, List.nil_append, List.cons_append]
  repeat (first
    | ((with_reducible refine lst_free ?_ ?_ (fun K hK => ?_)); (focus with_reducible rfl); (focus (intro ht; refine fine_none ?_ ht; (focus (first | (with_reducible apply only_idle); (focus decide) | (with_reducible apply only_turn); (focus rfl); (focus rfl); (focus kernel_rfl) | exact only_calc rfl rfl rfl | exact only_check rfl rfl)))); go_simp; refine hK _ _ _ ?_; clear hK K)
    | ((with_reducible refine lst_off (i := ?_) (b := ?_) (d := ?_) ?_ ?_ ?_ ?_); rotate_left 3; (focus with_reducible rfl); (focus rfl); (focus (simp only [List.getElem?_toArray, List.getElem?_cons_succ, List.getElem?_cons_zero, Bool.not_true, Bool.not_false])); simp only [Act.put, List.setIfInBounds_toArray, List.set_cons_zero, List.set_cons_succ])
    | ((with_reducible refine lst_on (i := ?_) (b := ?_) (d := ?_) ?_ ?_ ?_ ?_ (fun K hK => ?_)); rotate_left 3; (focus with_reducible rfl); (focus rfl); (focus (simp only [List.getElem?_toArray, List.getElem?_cons_succ, List.getElem?_cons_zero])); (focus (intro ht; refine fine_none ?_ ht; (focus (first | (with_reducible apply only_idle); (focus decide) | (with_reducible apply only_turn); (focus rfl); (focus rfl); (focus kernel_rfl) | exact only_calc rfl rfl rfl | exact only_check rfl rfl)))); go_simp; refine hK _ _ _ ?_; clear hK K)
    | (with_reducible apply lst_nil)
    | ((fail_if_success (with_reducible refine lst_any ?_)); first
    | (with_reducible apply j_seq) | (with_reducible apply j_block) | (with_reducible apply j_ret) | (with_reducible apply j_skip) | (with_reducible apply j_exit) | (with_reducible apply j_label) | (with_reducible apply j_region_lit)
    | ((with_reducible refine j_true ?_ ?_); (focus rfl)) | ((with_reducible refine j_false ?_ ?_); (focus rfl))
    | (with_reducible show Then _ _ _ _ _ _; simp only [Then])
    | (with_reducible show InBlock _ _ _ _ _ _; simp only [InBlock, ↓reduceIte, Nat.reduceEqDiff])))
  rw [← hW]
  clear hW
  have dW := b0.cell
  repeat (first
    | ((with_reducible refine lst_free ?_ ?_ (fun K hK => ?_)); (focus with_reducible rfl); (focus (intro ht; refine fine_none ?_ ht; (focus (first | (with_reducible apply only_idle); (focus decide) | (with_reducible apply only_turn); (focus rfl); (focus rfl); (focus kernel_rfl) | exact only_calc rfl rfl rfl | exact only_check rfl rfl)))); go_simp; refine hK _ _ _ ?_; clear hK K)
    | ((with_reducible refine lst_off (i := ?_) (b := ?_) (d := ?_) ?_ ?_ ?_ ?_); rotate_left 3; (focus with_reducible rfl); (focus rfl); (focus (simp only [List.getElem?_toArray, List.getElem?_cons_succ, List.getElem?_cons_zero, Bool.not_true, Bool.not_false])); simp only [Act.put, List.setIfInBounds_toArray, List.set_cons_zero, List.set_cons_succ])
    | ((with_reducible refine lst_on (i := ?_) (b := ?_) (d := ?_) ?_ ?_ ?_ ?_ (fun K hK => ?_)); rotate_left 3; (focus with_reducible rfl); (focus rfl); (focus (simp only [List.getElem?_toArray, List.getElem?_cons_succ, List.getElem?_cons_zero])); (focus (intro ht; refine fine_none ?_ ht; (focus (first | (with_reducible apply only_idle); (focus decide) | (with_reducible apply only_turn); (focus rfl); (focus rfl); (focus kernel_rfl) | exact only_calc rfl rfl rfl | exact only_check rfl rfl)))); go_simp; refine hK _ _ _ ?_; clear hK K)
    | (with_reducible apply lst_nil)
    | ((fail_if_success (with_reducible refine lst_any ?_)); first
    | (with_reducible apply j_seq) | (with_reducible apply j_block) | (with_reducible apply j_ret) | (with_reducible apply j_skip) | (with_reducible apply j_exit) | (with_reducible apply j_label) | (with_reducible apply j_region_lit)
    | ((with_reducible refine j_true ?_ ?_); (focus rfl)) | ((with_reducible refine j_false ?_ ?_); (focus rfl))
    | (with_reducible show Then _ _ _ _ _ _; simp only [Then])
    | (with_reducible show InBlock _ _ _ _ _ _; simp only [InBlock, ↓reduceIte, Nat.reduceEqDiff])))
  refine lst_one (one_store (v := .slice A xs.length c) (cs' := #[.int .u64 m.e, .int .u64 m.f, .slice A xs.length c, v3, .int .u64 m.h, .int .u64 m.t, v6, v7, v8]) rfl rfl rfl rfl b0 (hoth _ (by omega)) (by kernel_rfl) (Nat.le_of_ble_eq_true rfl) (by simp [Value.cells, Value.oneCell']) rfl ?_)
  simp only [Act.put, List.setIfInBounds_toArray, List.set_cons_zero, List.set_cons_succ]
  have a0 := b0.row #[.int .u64 m.e, .int .u64 m.f, .slice A xs.length c, v3, .int .u64 m.h, .int .u64 m.t, v6, v7, v8]
  have a1 := b1.row_far (g' := w.heap.size) #[.int .u64 m.e, .int .u64 m.f, .slice A xs.length c, v3, .int .u64 m.h, .int .u64 m.t, v6, v7, v8] (by omega)
  have g0 := Below_row hb0 #[.int .u64 m.e, .int .u64 m.f, .slice A xs.length c, v3, .int .u64 m.h, .int .u64 m.t, v6, v7, v8] (g := w.heap.size) (Nat.le_refl _)
  generalize hW1 : W.setRow w.heap.size #[.int .u64 m.e, .int .u64 m.f, .slice A xs.length c, v3, .int .u64 m.h, .int .u64 m.t, v6, v7, v8] = W1 at a0 a1 g0 ⊢
  clear hW1 dW
  have dW := a0.cell
  repeat (first
    | ((with_reducible refine lst_free ?_ ?_ (fun K hK => ?_)); (focus with_reducible rfl); (focus (intro ht; refine fine_none ?_ ht; (focus (first | (with_reducible apply only_idle); (focus decide) | (with_reducible apply only_turn); (focus rfl); (focus rfl); (focus kernel_rfl) | exact only_calc rfl rfl rfl | exact only_check rfl rfl)))); go_simp; refine hK _ _ _ ?_; clear hK K)
    | ((with_reducible refine lst_off (i := ?_) (b := ?_) (d := ?_) ?_ ?_ ?_ ?_); rotate_left 3; (focus with_reducible rfl); (focus rfl); (focus (simp only [List.getElem?_toArray, List.getElem?_cons_succ, List.getElem?_cons_zero, Bool.not_true, Bool.not_false])); simp only [Act.put, List.setIfInBounds_toArray, List.set_cons_zero, List.set_cons_succ])
    | ((with_reducible refine lst_on (i := ?_) (b := ?_) (d := ?_) ?_ ?_ ?_ ?_ (fun K hK => ?_)); rotate_left 3; (focus with_reducible rfl); (focus rfl); (focus (simp only [List.getElem?_toArray, List.getElem?_cons_succ, List.getElem?_cons_zero])); (focus (intro ht; refine fine_none ?_ ht; (focus (first | (with_reducible apply only_idle); (focus decide) | (with_reducible apply only_turn); (focus rfl); (focus rfl); (focus kernel_rfl) | exact only_calc rfl rfl rfl | exact only_check rfl rfl)))); go_simp; refine hK _ _ _ ?_; clear hK K)
    | (with_reducible apply lst_nil)
    | ((fail_if_success (with_reducible refine lst_any ?_)); first
    | (with_reducible apply j_seq) | (with_reducible apply j_block) | (with_reducible apply j_ret) | (with_reducible apply j_skip) | (with_reducible apply j_exit) | (with_reducible apply j_label) | (with_reducible apply j_region_lit)
    | ((with_reducible refine j_true ?_ ?_); (focus rfl)) | ((with_reducible refine j_false ?_ ?_); (focus rfl))
    | (with_reducible show Then _ _ _ _ _ _; simp only [Then])
    | (with_reducible show InBlock _ _ _ _ _ _; simp only [InBlock, ↓reduceIte, Nat.reduceEqDiff])))
  have mv : ∀ {v xs}, Us w B v xs → Us W1 W1.heap.size v xs := fun h => (h.below (g0.mono hB)).more (Nat.le_trans hB g0.size)
  have mw : ∀ {v xs}, Us w B' v xs → Us W1 W1.heap.size v xs := fun h => (h.below (g0.mono hB')).more (Nat.le_trans hB' g0.size)
  have hM : MemC W1 W1.heap.size { m with li := xs } #[.int .u64 m.e, .int .u64 m.f, .slice A xs.length c, v3, .int .u64 m.h, .int .u64 m.t, v6, v7, v8] := ⟨_, _, _, _, _, rfl, mw hx, mv h3, mv h6, mv h7, mv h8⟩
  refine lst_one (one_store (v := .agg #[.int .u64 m.e, .int .u64 m.f, .slice A xs.length c, v3, .int .u64 m.h, .int .u64 m.t, v6, v7, v8]) (cs' := #[.int .u64 m.e, .int .u64 m.f, .slice A xs.length c, v3, .int .u64 m.h, .int .u64 m.t, v6, v7, v8]) rfl rfl rfl rfl a1 (hoth _ (by omega)) (by kernel_rfl) (Nat.le_of_ble_eq_true rfl) (Lw.memC_one hM) rfl ?_)
  simp only [Act.put, List.setIfInBounds_toArray, List.set_cons_zero, List.set_cons_succ]
  have f1 := a1.row #[.int .u64 m.e, .int .u64 m.f, .slice A xs.length c, v3, .int .u64 m.h, .int .u64 m.t, v6, v7, v8]
  have g1 := Below_row g0 #[.int .u64 m.e, .int .u64 m.f, .slice A xs.length c, v3, .int .u64 m.h, .int .u64 m.t, v6, v7, v8] (g := w.heap.size + 1) (by omega)
  generalize hW2 : W1.setRow (w.heap.size + 1) #[.int .u64 m.e, .int .u64 m.f, .slice A xs.length c, v3, .int .u64 m.h, .int .u64 m.t, v6, v7, v8] = W2 at f1 g1 ⊢
  clear hW2 dW hM mv mw
  have d1 := f1.cell
  repeat (first
    | ((with_reducible refine lst_free ?_ ?_ (fun K hK => ?_)); (focus with_reducible rfl); (focus (intro ht; refine fine_none ?_ ht; (focus (first | (with_reducible apply only_idle); (focus decide) | (with_reducible apply only_turn); (focus rfl); (focus rfl); (focus kernel_rfl) | exact only_calc rfl rfl rfl | exact only_check rfl rfl)))); go_simp; refine hK _ _ _ ?_; clear hK K)
    | ((with_reducible refine lst_off (i := ?_) (b := ?_) (d := ?_) ?_ ?_ ?_ ?_); rotate_left 3; (focus with_reducible rfl); (focus rfl); (focus (simp only [List.getElem?_toArray, List.getElem?_cons_succ, List.getElem?_cons_zero, Bool.not_true, Bool.not_false])); simp only [Act.put, List.setIfInBounds_toArray, List.set_cons_zero, List.set_cons_succ])
    | ((with_reducible refine lst_on (i := ?_) (b := ?_) (d := ?_) ?_ ?_ ?_ ?_ (fun K hK => ?_)); rotate_left 3; (focus with_reducible rfl); (focus rfl); (focus (simp only [List.getElem?_toArray, List.getElem?_cons_succ, List.getElem?_cons_zero])); (focus (intro ht; refine fine_none ?_ ht; (focus (first | (with_reducible apply only_idle); (focus decide) | (with_reducible apply only_turn); (focus rfl); (focus rfl); (focus kernel_rfl) | exact only_calc rfl rfl rfl | exact only_check rfl rfl)))); go_simp; refine hK _ _ _ ?_; clear hK K)
    | (with_reducible apply lst_nil)
    | ((fail_if_success (with_reducible refine lst_any ?_)); first
    | (with_reducible apply j_seq) | (with_reducible apply j_block) | (with_reducible apply j_ret) | (with_reducible apply j_skip) | (with_reducible apply j_exit) | (with_reducible apply j_label) | (with_reducible apply j_region_lit)
    | ((with_reducible refine j_true ?_ ?_); (focus rfl)) | ((with_reducible refine j_false ?_ ?_); (focus rfl))
    | (with_reducible show Then _ _ _ _ _ _; simp only [Then])
    | (with_reducible show InBlock _ _ _ _ _ _; simp only [InBlock, ↓reduceIte, Nat.reduceEqDiff])))
  have mv2 : ∀ {v xs}, Us w B v xs → Us W2 B v xs := fun h => h.below (g1.mono hB)
  have mw2 : ∀ {v xs}, Us w B' v xs → Us W2 B' v xs := fun h => h.below (g1.mono hB')
  have fin : ∀ W5, (∀ v xs, Us W2 B v xs → Us W5 W5.heap.size v xs) → (∀ xs', Us W2 B' (.slice A xs.length c) xs' → Us W5 W5.heap.size (.slice A xs.length c) xs') → MemC W5 W5.heap.size { m with li := xs } #[.int .u64 m.e, .int .u64 m.f, .slice A xs.length c, v3, .int .u64 m.h, .int .u64 m.t, v6, v7, v8] := fun W5 k1 k2 => ⟨_, _, _, _, _, rfl, k2 _ (mw2 hx), k1 _ _ (mv2 h3), k1 _ _ (mv2 h6), k1 _ _ (mv2 h7), k1 _ _ (mv2 h8)⟩
  exact body_run (.agg #[.int .u64 m.e, .int .u64 m.f, .slice A xs.length c, v3, .int .u64 m.h, .int .u64 m.t, v6, v7, v8]) rfl (by simp [results, go_sem, d1]) ⟨rfl, g1, _, rfl, fin W2 (fun _ _ h => h.more (Nat.le_trans hB g1.size)) (fun _ h => h.more (Nat.le_trans hB' g1.size)), fin, fun g ho hv => Off.set_ (k := 2) (v := .slice A xs.length c) (ho _ rfl) hv⟩

set_option maxHeartbeats 4000000 in
theorem with_4 {B B' : Nat} {m : Mem} {v vs : Value} {xs : List Int} (hm : MemV w B m v) (hx : Us w B' vs xs) (hB : B ≤ w.heap.size) (hB' : B' ≤ w.heap.size) : Jdo Try.prog X 38 #[v, .int .i64 4, vs] s w (WithPost s w B B' v vs { m with pi := xs }) := by
  refine Jdo.there fun ht => ?_
  have hoth : ∀ b, w.heap.size ≤ b → ¬ X.oth s b := fun b hb ho => by have := ht b ho; omega
  obtain ⟨cs, rfl, v2, v3, v6, v7, v8, rfl, h2, h3, h6, h7, h8⟩ := hm
  obtain ⟨A, c, rfl, _, _⟩ := hx.form
  have b0 := (Blk.new w 25 #[.int .u64 m.e, .int .u64 m.f, v2, v3, .int .u64 m.h, .int .u64 m.t, v6, v7, v8]).alloc (.cells #[.int .u64 0, .int .u64 0, .slice none 0 0, .slice none 0 0, .int .u64 0, .int .u64 0, .slice none 0 0, .slice none 0 0, .slice none 0 0] 25)
  have b1 := Blk.new1 w (.cells #[.int .u64 m.e, .int .u64 m.f, v2, v3, .int .u64 m.h, .int .u64 m.t, v6, v7, v8] 25) 25 #[.int .u64 0, .int .u64 0, .slice none 0 0, .slice none 0 0, .int .u64 0, .int .u64 0, .slice none 0 0, .slice none 0 0, .slice none 0 0]
  have hb0 := ((Below.refl w.heap.size w).alloc (Nat.le_refl _) (.cells #[.int .u64 m.e, .int .u64 m.f, v2, v3, .int .u64 m.h, .int .u64 m.t, v6, v7, v8] 25)).alloc (by simp) (.cells #[.int .u64 0, .int .u64 0, .slice none 0 0, .slice none 0 0, .int .u64 0, .int .u64 0, .slice none 0 0, .slice none 0 0, .slice none 0 0] 25)
  obtain ⟨W, hW⟩ : ∃ W, W = (w.alloc (.cells #[.int .u64 m.e, .int .u64 m.f, v2, v3, .int .u64 m.h, .int .u64 m.t, v6, v7, v8] 25)).alloc (.cells #[.int .u64 0, .int .u64 0, .slice none 0 0, .slice none 0 0, .int .u64 0, .int .u64 0, .slice none 0 0, .slice none 0 0, .slice none 0 0] 25) := ⟨_, rfl⟩
  rw [← hW] at b0 b1 hb0
  refine jdo_of Try.func38 rfl ?_
  simp only [Try.ntmps38, List.size_toArray, List.length_cons, List.length_nil, Nat.reduceAdd, Nat.reduceSub, Array.replicate_succ, Array.replicate_zero, List.push_toArray, List.append_toArray, List.nil_append, List.cons_append]
  repeat (first
    | ((with_reducible refine lst_free ?_ ?_ (fun K hK => ?_)); (focus with_reducible rfl); (focus (intro ht; refine fine_none ?_ ht; (focus (first | (with_reducible apply only_idle); (focus decide) | (with_reducible apply only_turn); (focus rfl); (focus rfl); (focus kernel_rfl) | exact only_calc rfl rfl rfl | exact only_check rfl rfl)))); go_simp; refine hK _ _ _ ?_; clear hK K)
    | ((with_reducible refine lst_off (i := ?_) (b := ?_) (d := ?_) ?_ ?_ ?_ ?_); rotate_left 3; (focus with_reducible rfl); (focus rfl); (focus (simp only [List.getElem?_toArray, List.getElem?_cons_succ, List.getElem?_cons_zero, Bool.not_true, Bool.not_false])); simp only [Act.put, List.setIfInBounds_toArray, List.set_cons_zero, List.set_cons_succ])
    | ((with_reducible refine lst_on (i := ?_) (b := ?_) (d := ?_) ?_ ?_ ?_ ?_ (fun K hK => ?_)); rotate_left 3; (focus with_reducible rfl); (focus rfl); (focus (simp only [List.getElem?_toArray, List.getElem?_cons_succ, List.getElem?_cons_zero])); (focus (intro ht; refine fine_none ?_ ht; (focus (first | (with_reducible apply only_idle); (focus decide) | (with_reducible apply only_turn); (focus rfl); (focus rfl); (focus kernel_rfl) | exact only_calc rfl rfl rfl | exact only_check rfl rfl)))); go_simp; refine hK _ _ _ ?_; clear hK K)
    | (with_reducible apply lst_nil)
    | ((fail_if_success (with_reducible refine lst_any ?_)); first
    | (with_reducible apply j_seq) | (with_reducible apply j_block) | (with_reducible apply j_ret) | (with_reducible apply j_skip) | (with_reducible apply j_exit) | (with_reducible apply j_label) | (with_reducible apply j_region_lit)
    | ((with_reducible refine j_true ?_ ?_); (focus rfl)) | ((with_reducible refine j_false ?_ ?_); (focus rfl))
    | (with_reducible show Then _ _ _ _ _ _; simp only [Then])
    | (with_reducible show InBlock _ _ _ _ _ _; simp only [InBlock, ↓reduceIte, Nat.reduceEqDiff])))
  rw [← hW]
  clear hW
  have dW := b0.cell
  repeat (first
    | ((with_reducible refine lst_free ?_ ?_ (fun K hK => ?_)); (focus with_reducible rfl); (focus (intro ht; refine fine_none ?_ ht; (focus (first | (with_reducible apply only_idle); (focus decide) | (with_reducible apply only_turn); (focus rfl); (focus rfl); (focus kernel_rfl) | exact only_calc rfl rfl rfl | exact only_check rfl rfl)))); go_simp; refine hK _ _ _ ?_; clear hK K)
    | ((with_reducible refine lst_off (i := ?_) (b := ?_) (d := ?_) ?_ ?_ ?_ ?_); rotate_left 3; (focus with_reducible rfl); (focus rfl); (focus (simp only [List.getElem?_toArray, List.getElem?_cons_succ, List.getElem?_cons_zero, Bool.not_true, Bool.not_false])); simp only [Act.put, List.setIfInBounds_toArray, List.set_cons_zero, List.set_cons_succ])
    | ((with_reducible refine lst_on (i := ?_) (b := ?_) (d := ?_) ?_ ?_ ?_ ?_ (fun K hK => ?_)); rotate_left 3; (focus with_reducible rfl); (focus rfl); (focus (simp only [List.getElem?_toArray, List.getElem?_cons_succ, List.getElem?_cons_zero])); (focus (intro ht; refine fine_none ?_ ht; (focus (first | (with_reducible apply only_idle); (focus decide) | (with_reducible apply only_turn); (focus rfl); (focus rfl); (focus kernel_rfl) | exact only_calc rfl rfl rfl | exact only_check rfl rfl)))); go_simp; refine hK _ _ _ ?_; clear hK K)
    | (with_reducible apply lst_nil)
    | ((fail_if_success (with_reducible refine lst_any ?_)); first
    | (with_reducible apply j_seq) | (with_reducible apply j_block) | (with_reducible apply j_ret) | (with_reducible apply j_skip) | (with_reducible apply j_exit) | (with_reducible apply j_label) | (with_reducible apply j_region_lit)
    | ((with_reducible refine j_true ?_ ?_); (focus rfl)) | ((with_reducible refine j_false ?_ ?_); (focus rfl))
    | (with_reducible show Then _ _ _ _ _ _; simp only [Then])
    | (with_reducible show InBlock _ _ _ _ _ _; simp only [InBlock, ↓reduceIte, Nat.reduceEqDiff])))
  refine lst_one (one_store (v := .slice A xs.length c) (cs' := #[.int .u64 m.e, .int .u64 m.f, v2, .slice A xs.length c, .int .u64 m.h, .int .u64 m.t, v6, v7, v8]) rfl rfl rfl rfl b0 (hoth _ (by omega)) (by kernel_rfl) (Nat.le_of_ble_eq_true rfl) (by simp [Value.cells, Value.oneCell']) rfl ?_)
  simp only [Act.put, List.setIfInBounds_toArray, List.set_cons_zero, List.set_cons_succ]
  have a0 := b0.row #[.int .u64 m.e, .int .u64 m.f, v2, .slice A xs.length c, .int .u64 m.h, .int .u64 m.t, v6, v7, v8]
  have a1 := b1.row_far (g' := w.heap.size) #[.int .u64 m.e, .int .u64 m.f, v2, .slice A xs.length c, .int .u64 m.h, .int .u64 m.t, v6, v7, v8] (by omega)
  have g0 := Below_row hb0 #[.int .u64 m.e, .int .u64 m.f, v2, .slice A xs.length c, .int .u64 m.h, .int .u64 m.t, v6, v7, v8] (g := w.heap.size) (Nat.le_refl _)
  generalize hW1 : W.setRow w.heap.size #[.int .u64 m.e, .int .u64 m.f, v2, .slice A xs.length c, .int .u64 m.h, .int .u64 m.t, v6, v7, v8] = W1 at a0 a1 g0 ⊢
  clear hW1 dW
  have dW := a0.cell
  repeat (first
    | ((with_reducible refine lst_free ?_ ?_ (fun K hK => ?_)); (focus with_reducible rfl); (focus (intro ht; refine fine_none ?_ ht; (focus (first | (with_reducible apply only_idle); (focus decide) | (with_reducible apply only_turn); (focus rfl); (focus rfl); (focus kernel_rfl) | exact only_calc rfl rfl rfl | exact only_check rfl rfl)))); go_simp; refine hK _ _ _ ?_; clear hK K)
    | ((with_reducible refine lst_off (i := ?_) (b := ?_) (d := ?_) ?_ ?_ ?_ ?_); rotate_left 3; (focus with_reducible rfl); (focus rfl); (focus (simp only [List.getElem?_toArray, List.getElem?_cons_succ, List.getElem?_cons_zero, Bool.not_true, Bool.not_false])); simp only [Act.put, List.setIfInBounds_toArray, List.set_cons_zero, List.set_cons_succ])
    | ((with_reducible refine lst_on (i := ?_) (b := ?_) (d := ?_) ?_ ?_ ?_ ?_ (fun K hK => ?_)); rotate_left 3; (focus with_reducible rfl); (focus rfl); (focus (simp only [List.getElem?_toArray, List.getElem?_cons_succ, List.getElem?_cons_zero])); (focus (intro ht; refine fine_none ?_ ht; (focus (first | (with_reducible apply only_idle); (focus decide) | (with_reducible apply only_turn); (focus rfl); (focus rfl); (focus kernel_rfl) | exact only_calc rfl rfl rfl | exact only_check rfl rfl)))); go_simp; refine hK _ _ _ ?_; clear hK K)
    | (with_reducible apply lst_nil)
    | ((fail_if_success (with_reducible refine lst_any ?_)); first
    | (with_reducible apply j_seq) | (with_reducible apply j_block) | (with_reducible apply j_ret) | (with_reducible apply j_skip) | (with_reducible apply j_exit) | (with_reducible apply j_label) | (with_reducible apply j_region_lit)
    | ((with_reducible refine j_true ?_ ?_); (focus rfl)) | ((with_reducible refine j_false ?_ ?_); (focus rfl))
    | (with_reducible show Then _ _ _ _ _ _; simp only [Then])
    | (with_reducible show InBlock _ _ _ _ _ _; simp only [InBlock, ↓reduceIte, Nat.reduceEqDiff])))
  have mv : ∀ {v xs}, Us w B v xs → Us W1 W1.heap.size v xs := fun h => (h.below (g0.mono hB)).more (Nat.le_trans hB g0.size)
  have mw : ∀ {v xs}, Us w B' v xs → Us W1 W1.heap.size v xs := fun h => (h.below (g0.mono hB')).more (Nat.le_trans hB' g0.size)
  have hM : MemC W1 W1.heap.size { m with pi := xs } #[.int .u64 m.e, .int .u64 m.f, v2, .slice A xs.length c, .int .u64 m.h, .int .u64 m.t, v6, v7, v8] := ⟨_, _, _, _, _, rfl, mv h2, mw hx, mv h6, mv h7, mv h8⟩
  refine lst_one (one_store (v := .agg #[.int .u64 m.e, .int .u64 m.f, v2, .slice A xs.length c, .int .u64 m.h, .int .u64 m.t, v6, v7, v8]) (cs' := #[.int .u64 m.e, .int .u64 m.f, v2, .slice A xs.length c, .int .u64 m.h, .int .u64 m.t, v6, v7, v8]) rfl rfl rfl rfl a1 (hoth _ (by omega)) (by kernel_rfl) (Nat.le_of_ble_eq_true rfl) (Lw.memC_one hM) rfl ?_)
  simp only [Act.put, List.setIfInBounds_toArray, List.set_cons_zero, List.set_cons_succ]
  have f1 := a1.row #[.int .u64 m.e, .int .u64 m.f, v2, .slice A xs.length c, .int .u64 m.h, .int .u64 m.t, v6, v7, v8]
  have g1 := Below_row g0 #[.int .u64 m.e, .int .u64 m.f, v2, .slice A xs.length c, .int .u64 m.h, .int .u64 m.t, v6, v7, v8] (g := w.heap.size + 1) (by omega)
  generalize hW2 : W1.setRow (w.heap.size + 1) #[.int .u64 m.e, .int .u64 m.f, v2, .slice A xs.length c, .int .u64 m.h, .int .u64 m.t, v6, v7, v8] = W2 at f1 g1 ⊢
  clear hW2 dW hM mv mw
  have d1 := f1.cell
  repeat (first
    | ((with_reducible refine lst_free ?_ ?_ (fun K hK => ?_)); (focus with_reducible rfl); (focus (intro ht; refine fine_none ?_ ht; (focus (first | (with_reducible apply only_idle); (focus decide) | (with_reducible apply only_turn); (focus rfl); (focus rfl); (focus kernel_rfl) | exact only_calc rfl rfl rfl | exact only_check rfl rfl)))); go_simp; refine hK _ _ _ ?_; clear hK K)
    | ((with_reducible refine lst_off (i := ?_) (b := ?_) (d := ?_) ?_ ?_ ?_ ?_); rotate_left 3; (focus with_reducible rfl); (focus rfl); (focus (simp only [List.getElem?_toArray, List.getElem?_cons_succ, List.getElem?_cons_zero, Bool.not_true, Bool.not_false])); simp only [Act.put, List.setIfInBounds_toArray, List.set_cons_zero, List.set_cons_succ])
    | ((with_reducible refine lst_on (i := ?_) (b := ?_) (d := ?_) ?_ ?_ ?_ ?_ (fun K hK => ?_)); rotate_left 3; (focus with_reducible rfl); (focus rfl); (focus (simp only [List.getElem?_toArray, List.getElem?_cons_succ, List.getElem?_cons_zero])); (focus (intro ht; refine fine_none ?_ ht; (focus (first | (with_reducible apply only_idle); (focus decide) | (with_reducible apply only_turn); (focus rfl); (focus rfl); (focus kernel_rfl) | exact only_calc rfl rfl rfl | exact only_check rfl rfl)))); go_simp; refine hK _ _ _ ?_; clear hK K)
    | (with_reducible apply lst_nil)
    | ((fail_if_success (with_reducible refine lst_any ?_)); first
    | (with_reducible apply j_seq) | (with_reducible apply j_block) | (with_reducible apply j_ret) | (with_reducible apply j_skip) | (with_reducible apply j_exit) | (with_reducible apply j_label) | (with_reducible apply j_region_lit)
    | ((with_reducible refine j_true ?_ ?_); (focus rfl)) | ((with_reducible refine j_false ?_ ?_); (focus rfl))
    | (with_reducible show Then _ _ _ _ _ _; simp only [Then])
    | (with_reducible show InBlock _ _ _ _ _ _; simp only [InBlock, ↓reduceIte, Nat.reduceEqDiff])))
  have mv2 : ∀ {v xs}, Us w B v xs → Us W2 B v xs := fun h => h.below (g1.mono hB)
  have mw2 : ∀ {v xs}, Us w B' v xs → Us W2 B' v xs := fun h => h.below (g1.mono hB')
  have fin : ∀ W5, (∀ v xs, Us W2 B v xs → Us W5 W5.heap.size v xs) → (∀ xs', Us W2 B' (.slice A xs.length c) xs' → Us W5 W5.heap.size (.slice A xs.length c) xs') → MemC W5 W5.heap.size { m with pi := xs } #[.int .u64 m.e, .int .u64 m.f, v2, .slice A xs.length c, .int .u64 m.h, .int .u64 m.t, v6, v7, v8] := fun W5 k1 k2 => ⟨_, _, _, _, _, rfl, k1 _ _ (mv2 h2), k2 _ (mw2 hx), k1 _ _ (mv2 h6), k1 _ _ (mv2 h7), k1 _ _ (mv2 h8)⟩
  exact body_run (.agg #[.int .u64 m.e, .int .u64 m.f, v2, .slice A xs.length c, .int .u64 m.h, .int .u64 m.t, v6, v7, v8]) rfl (by simp [results, go_sem, d1]) ⟨rfl, g1, _, rfl, fin W2 (fun _ _ h => h.more (Nat.le_trans hB g1.size)) (fun _ h => h.more (Nat.le_trans hB' g1.size)), fin, fun g ho hv => Off.set_ (k := 3) (v := .slice A xs.length c) (ho _ rfl) hv⟩

set_option maxHeartbeats 4000000 in
theorem with_5 {B B' : Nat} {m : Mem} {v vs : Value} {x : Int} (hm : MemV w B m v) (hx : Us w B' vs [x]) (hB : B ≤ w.heap.size) (hB' : B' ≤ w.heap.size) : Jdo Try.prog X 38 #[v, .int .i64 5, vs] s w (WithPost s w B B' v vs { m with h := x }) := by
  refine Jdo.there fun ht => ?_
  have hoth : ∀ b, w.heap.size ≤ b → ¬ X.oth s b := fun b hb ho => by have := ht b ho; omega
  obtain ⟨cs, rfl, v2, v3, v6, v7, v8, rfl, h2, h3, h6, h7, h8⟩ := hm
  obtain ⟨gx, ox, c, rfl, hgx, hcx⟩ := us_row hx (by simp)
  have hc0 := hcx 0 (by simp)
  simp only [Nat.add_zero, List.getElem_cons_zero] at hc0
  have b0 := (Blk.new w 25 #[.int .u64 m.e, .int .u64 m.f, v2, v3, .int .u64 m.h, .int .u64 m.t, v6, v7, v8]).alloc (.cells #[.int .u64 0, .int .u64 0, .slice none 0 0, .slice none 0 0, .int .u64 0, .int .u64 0, .slice none 0 0, .slice none 0 0, .slice none 0 0] 25)
  have b1 := Blk.new1 w (.cells #[.int .u64 m.e, .int .u64 m.f, v2, v3, .int .u64 m.h, .int .u64 m.t, v6, v7, v8] 25) 25 #[.int .u64 0, .int .u64 0, .slice none 0 0, .slice none 0 0, .int .u64 0, .int .u64 0, .slice none 0 0, .slice none 0 0, .slice none 0 0]
  have hb0 := ((Below.refl w.heap.size w).alloc (Nat.le_refl _) (.cells #[.int .u64 m.e, .int .u64 m.f, v2, v3, .int .u64 m.h, .int .u64 m.t, v6, v7, v8] 25)).alloc (by simp) (.cells #[.int .u64 0, .int .u64 0, .slice none 0 0, .slice none 0 0, .int .u64 0, .int .u64 0, .slice none 0 0, .slice none 0 0, .slice none 0 0] 25)
  obtain ⟨W, hW⟩ : ∃ W, W = (w.alloc (.cells #[.int .u64 m.e, .int .u64 m.f, v2, v3, .int .u64 m.h, .int .u64 m.t, v6, v7, v8] 25)).alloc (.cells #[.int .u64 0, .int .u64 0, .slice none 0 0, .slice none 0 0, .int .u64 0, .int .u64 0, .slice none 0 0, .slice none 0 0, .slice none 0 0] 25) := ⟨_, rfl⟩
  rw [← hW] at b0 b1 hb0
  have hc1 : W.cell? ⟨gx, ox, none⟩ = some (.int .u64 x) := (hb0.cell (p := ⟨gx, ox, none⟩) (Nat.lt_of_lt_of_le hgx hB')).trans hc0
  refine jdo_of Try.func38 rfl ?_
  simp only [Try.ntmps38, List.size_toArray, List.length_cons, List.length_nil, Nat.reduceAdd, Nat.reduceSub, Array.replicate_succ, Array.replicate_zero, List.push_toArray, List.append_toArray, List.nil_append, List.cons_append]
  repeat (first
    | ((with_reducible refine lst_free ?_ ?_ (fun K hK => ?_)); (focus with_reducible rfl); (focus (intro ht; refine fine_none ?_ ht; (focus (first | (with_reducible apply only_idle); (focus decide) | (with_reducible apply only_turn); (focus rfl); (focus rfl); (focus kernel_rfl) | exact only_calc rfl rfl rfl | exact only_check rfl rfl)))); go_simp; refine hK _ _ _ ?_; clear hK K)
    | ((with_reducible refine lst_off (i := ?_) (b := ?_) (d := ?_) ?_ ?_ ?_ ?_); rotate_left 3; (focus with_reducible rfl); (focus rfl); (focus (simp only [List.getElem?_toArray, List.getElem?_cons_succ, List.getElem?_cons_zero, Bool.not_true, Bool.not_false])); simp only [Act.put, List.setIfInBounds_toArray, List.set_cons_zero, List.set_cons_succ])
    | ((with_reducible refine lst_on (i := ?_) (b := ?_) (d := ?_) ?_ ?_ ?_ ?_ (fun K hK => ?_)); rotate_left 3; (focus with_reducible rfl); (focus rfl); (focus (simp only [List.getElem?_toArray, List.getElem?_cons_succ, List.getElem?_cons_zero])); (focus (intro ht; refine fine_none ?_ ht; (focus (first | (with_reducible apply only_idle); (focus decide) | (with_reducible apply only_turn); (focus rfl); (focus rfl); (focus kernel_rfl) | exact only_calc rfl rfl rfl | exact only_check rfl rfl)))); go_simp; refine hK _ _ _ ?_; clear hK K)
    | (with_reducible apply lst_nil)
    | ((fail_if_success (with_reducible refine lst_any ?_)); first
    | (with_reducible apply j_seq) | (with_reducible apply j_block) | (with_reducible apply j_ret) | (with_reducible apply j_skip) | (with_reducible apply j_exit) | (with_reducible apply j_label) | (with_reducible apply j_region_lit)
    | ((with_reducible refine j_true ?_ ?_); (focus rfl)) | ((with_reducible refine j_false ?_ ?_); (focus rfl))
    | (with_reducible show Then _ _ _ _ _ _; simp only [Then])
    | (with_reducible show InBlock _ _ _ _ _ _; simp only [InBlock, ↓reduceIte, Nat.reduceEqDiff])))
  rw [← hW]
  clear hW
  have dW := b0.cell
  repeat (first
    | ((with_reducible refine lst_free ?_ ?_ (fun K hK => ?_)); (focus with_reducible rfl); (focus (intro ht; refine fine_none ?_ ht; (focus (first | (with_reducible apply only_idle); (focus decide) | (with_reducible apply only_turn); (focus rfl); (focus rfl); (focus kernel_rfl) | exact only_calc rfl rfl rfl | exact only_check rfl rfl)))); go_simp; refine hK _ _ _ ?_; clear hK K)
    | ((with_reducible refine lst_off (i := ?_) (b := ?_) (d := ?_) ?_ ?_ ?_ ?_); rotate_left 3; (focus with_reducible rfl); (focus rfl); (focus (simp only [List.getElem?_toArray, List.getElem?_cons_succ, List.getElem?_cons_zero, Bool.not_true, Bool.not_false])); simp only [Act.put, List.setIfInBounds_toArray, List.set_cons_zero, List.set_cons_succ])
    | ((with_reducible refine lst_on (i := ?_) (b := ?_) (d := ?_) ?_ ?_ ?_ ?_ (fun K hK => ?_)); rotate_left 3; (focus with_reducible rfl); (focus rfl); (focus (simp only [List.getElem?_toArray, List.getElem?_cons_succ, List.getElem?_cons_zero])); (focus (intro ht; refine fine_none ?_ ht; (focus (first | (with_reducible apply only_idle); (focus decide) | (with_reducible apply only_turn); (focus rfl); (focus rfl); (focus kernel_rfl) | exact only_calc rfl rfl rfl | exact only_check rfl rfl)))); go_simp; refine hK _ _ _ ?_; clear hK K)
    | (with_reducible apply lst_nil)
    | ((fail_if_success (with_reducible refine lst_any ?_)); first
    | (with_reducible apply j_seq) | (with_reducible apply j_block) | (with_reducible apply j_ret) | (with_reducible apply j_skip) | (with_reducible apply j_exit) | (with_reducible apply j_label) | (with_reducible apply j_region_lit)
    | ((with_reducible refine j_true ?_ ?_); (focus rfl)) | ((with_reducible refine j_false ?_ ?_); (focus rfl))
    | (with_reducible show Then _ _ _ _ _ _; simp only [Then])
    | (with_reducible show InBlock _ _ _ _ _ _; simp only [InBlock, ↓reduceIte, Nat.reduceEqDiff])))
  refine lst_one (one_store (v := .int .u64 x) (cs' := #[.int .u64 m.e, .int .u64 m.f, v2, v3, .int .u64 x, .int .u64 m.t, v6, v7, v8]) rfl rfl rfl rfl b0 (hoth _ (by omega)) (by kernel_rfl) (Nat.le_of_ble_eq_true rfl) (by simp [Value.cells, Value.oneCell']) rfl ?_)
  simp only [Act.put, List.setIfInBounds_toArray, List.set_cons_zero, List.set_cons_succ]
  have a0 := b0.row #[.int .u64 m.e, .int .u64 m.f, v2, v3, .int .u64 x, .int .u64 m.t, v6, v7, v8]
  have a1 := b1.row_far (g' := w.heap.size) #[.int .u64 m.e, .int .u64 m.f, v2, v3, .int .u64 x, .int .u64 m.t, v6, v7, v8] (by omega)
  have g0 := Below_row hb0 #[.int .u64 m.e, .int .u64 m.f, v2, v3, .int .u64 x, .int .u64 m.t, v6, v7, v8] (g := w.heap.size) (Nat.le_refl _)
  generalize hW1 : W.setRow w.heap.size #[.int .u64 m.e, .int .u64 m.f, v2, v3, .int .u64 x, .int .u64 m.t, v6, v7, v8] = W1 at a0 a1 g0 ⊢
  clear hW1 dW
  have dW := a0.cell
  repeat (first
    | ((with_reducible refine lst_free ?_ ?_ (fun K hK => ?_)); (focus with_reducible rfl); (focus (intro ht; refine fine_none ?_ ht; (focus (first | (with_reducible apply only_idle); (focus decide) | (with_reducible apply only_turn); (focus rfl); (focus rfl); (focus kernel_rfl) | exact only_calc rfl rfl rfl | exact only_check rfl rfl)))); go_simp; refine hK _ _ _ ?_; clear hK K)
    | ((with_reducible refine lst_off (i := ?_) (b := ?_) (d := ?_) ?_ ?_ ?_ ?_); rotate_left 3; (focus with_reducible rfl); (focus rfl); (focus (simp only [List.getElem?_toArray, List.getElem?_cons_succ, List.getElem?_cons_zero, Bool.not_true, Bool.not_false])); simp only [Act.put, List.setIfInBounds_toArray, List.set_cons_zero, List.set_cons_succ])
    | ((with_reducible refine lst_on (i := ?_) (b := ?_) (d := ?_) ?_ ?_ ?_ ?_ (fun K hK => ?_)); rotate_left 3; (focus with_reducible rfl); (focus rfl); (focus (simp only [List.getElem?_toArray, List.getElem?_cons_succ, List.getElem?_cons_zero])); (focus (intro ht; refine fine_none ?_ ht; (focus (first | (with_reducible apply only_idle); (focus decide) | (with_reducible apply only_turn); (focus rfl); (focus rfl); (focus kernel_rfl) | exact only_calc rfl rfl rfl | exact only_check rfl rfl)))); go_simp; refine hK _ _ _ ?_; clear hK K)
    | (with_reducible apply lst_nil)
    | ((fail_if_success (with_reducible refine lst_any ?_)); first
    | (with_reducible apply j_seq) | (with_reducible apply j_block) | (with_reducible apply j_ret) | (with_reducible apply j_skip) | (with_reducible apply j_exit) | (with_reducible apply j_label) | (with_reducible apply j_region_lit)
    | ((with_reducible refine j_true ?_ ?_); (focus rfl)) | ((with_reducible refine j_false ?_ ?_); (focus rfl))
    | (with_reducible show Then _ _ _ _ _ _; simp only [Then])
    | (with_reducible show InBlock _ _ _ _ _ _; simp only [InBlock, ↓reduceIte, Nat.reduceEqDiff])))
  have mv : ∀ {v xs}, Us w B v xs → Us W1 W1.heap.size v xs := fun h => (h.below (g0.mono hB)).more (Nat.le_trans hB g0.size)
  have mw : ∀ {v xs}, Us w B' v xs → Us W1 W1.heap.size v xs := fun h => (h.below (g0.mono hB')).more (Nat.le_trans hB' g0.size)
  have hM : MemC W1 W1.heap.size { m with h := x } #[.int .u64 m.e, .int .u64 m.f, v2, v3, .int .u64 x, .int .u64 m.t, v6, v7, v8] := ⟨_, _, _, _, _, rfl, mv h2, mv h3, mv h6, mv h7, mv h8⟩
  refine lst_one (one_store (v := .agg #[.int .u64 m.e, .int .u64 m.f, v2, v3, .int .u64 x, .int .u64 m.t, v6, v7, v8]) (cs' := #[.int .u64 m.e, .int .u64 m.f, v2, v3, .int .u64 x, .int .u64 m.t, v6, v7, v8]) rfl rfl rfl rfl a1 (hoth _ (by omega)) (by kernel_rfl) (Nat.le_of_ble_eq_true rfl) (Lw.memC_one hM) rfl ?_)
  simp only [Act.put, List.setIfInBounds_toArray, List.set_cons_zero, List.set_cons_succ]
  have f1 := a1.row #[.int .u64 m.e, .int .u64 m.f, v2, v3, .int .u64 x, .int .u64 m.t, v6, v7, v8]
  have g1 := Below_row g0 #[.int .u64 m.e, .int .u64 m.f, v2, v3, .int .u64 x, .int .u64 m.t, v6, v7, v8] (g := w.heap.size + 1) (by omega)
  generalize hW2 : W1.setRow (w.heap.size + 1) #[.int .u64 m.e, .int .u64 m.f, v2, v3, .int .u64 x, .int .u64 m.t, v6, v7, v8] = W2 at f1 g1 ⊢
  clear hW2 dW hM mv mw
  have d1 := f1.cell
  repeat (first
    | ((with_reducible refine lst_free ?_ ?_ (fun K hK => ?_)); (focus with_reducible rfl); (focus (intro ht; refine fine_none ?_ ht; (focus (first | (with_reducible apply only_idle); (focus decide) | (with_reducible apply only_turn); (focus rfl); (focus rfl); (focus kernel_rfl) | exact only_calc rfl rfl rfl | exact only_check rfl rfl)))); go_simp; refine hK _ _ _ ?_; clear hK K)
    | ((with_reducible refine lst_off (i := ?_) (b := ?_) (d := ?_) ?_ ?_ ?_ ?_); rotate_left 3; (focus with_reducible rfl); (focus rfl); (focus (simp only [List.getElem?_toArray, List.getElem?_cons_succ, List.getElem?_cons_zero, Bool.not_true, Bool.not_false])); simp only [Act.put, List.setIfInBounds_toArray, List.set_cons_zero, List.set_cons_succ])
    | ((with_reducible refine lst_on (i := ?_) (b := ?_) (d := ?_) ?_ ?_ ?_ ?_ (fun K hK => ?_)); rotate_left 3; (focus with_reducible rfl); (focus rfl); (focus (simp only [List.getElem?_toArray, List.getElem?_cons_succ, List.getElem?_cons_zero])); (focus (intro ht; refine fine_none ?_ ht; (focus (first | (with_reducible apply only_idle); (focus decide) | (with_reducible apply only_turn); (focus rfl); (focus rfl); (focus kernel_rfl) | exact only_calc rfl rfl rfl | exact only_check rfl rfl)))); go_simp; refine hK _ _ _ ?_; clear hK K)
    | (with_reducible apply lst_nil)
    | ((fail_if_success (with_reducible refine lst_any ?_)); first
    | (with_reducible apply j_seq) | (with_reducible apply j_block) | (with_reducible apply j_ret) | (with_reducible apply j_skip) | (with_reducible apply j_exit) | (with_reducible apply j_label) | (with_reducible apply j_region_lit)
    | ((with_reducible refine j_true ?_ ?_); (focus rfl)) | ((with_reducible refine j_false ?_ ?_); (focus rfl))
    | (with_reducible show Then _ _ _ _ _ _; simp only [Then])
    | (with_reducible show InBlock _ _ _ _ _ _; simp only [InBlock, ↓reduceIte, Nat.reduceEqDiff])))
  have mv2 : ∀ {v xs}, Us w B v xs → Us W2 B v xs := fun h => h.below (g1.mono hB)
  have mw2 : ∀ {v xs}, Us w B' v xs → Us W2 B' v xs := fun h => h.below (g1.mono hB')
  have fin : ∀ W5, (∀ v xs, Us W2 B v xs → Us W5 W5.heap.size v xs) → (∀ xs', Us W2 B' (.slice (some ⟨gx, ox, none⟩) [x].length c) xs' → Us W5 W5.heap.size (.slice (some ⟨gx, ox, none⟩) [x].length c) xs') → MemC W5 W5.heap.size { m with h := x } #[.int .u64 m.e, .int .u64 m.f, v2, v3, .int .u64 x, .int .u64 m.t, v6, v7, v8] := fun W5 k1 k2 => ⟨_, _, _, _, _, rfl, k1 _ _ (mv2 h2), k1 _ _ (mv2 h3), k1 _ _ (mv2 h6), k1 _ _ (mv2 h7), k1 _ _ (mv2 h8)⟩
  exact body_run (.agg #[.int .u64 m.e, .int .u64 m.f, v2, v3, .int .u64 x, .int .u64 m.t, v6, v7, v8]) rfl (by simp [results, go_sem, d1]) ⟨rfl, g1, _, rfl, fin W2 (fun _ _ h => h.more (Nat.le_trans hB g1.size)) (fun _ h => h.more (Nat.le_trans hB' g1.size)), fin, fun g ho hv => Off.set_ (k := 4) (v := .int .u64 x) (ho _ rfl) (offS_int _ _ _)⟩

set_option maxHeartbeats 4000000 in
theorem with_6 {B B' : Nat} {m : Mem} {v vs : Value} {x : Int} (hm : MemV w B m v) (hx : Us w B' vs [x]) (hB : B ≤ w.heap.size) (hB' : B' ≤ w.heap.size) : Jdo Try.prog X 38 #[v, .int .i64 6, vs] s w (WithPost s w B B' v vs { m with t := x }) := by
  refine Jdo.there fun ht => ?_
  have hoth : ∀ b, w.heap.size ≤ b → ¬ X.oth s b := fun b hb ho => by have := ht b ho; omega
  obtain ⟨cs, rfl, v2, v3, v6, v7, v8, rfl, h2, h3, h6, h7, h8⟩ := hm
  obtain ⟨gx, ox, c, rfl, hgx, hcx⟩ := us_row hx (by simp)
  have hc0 := hcx 0 (by simp)
  simp only [Nat.add_zero, List.getElem_cons_zero] at hc0
  have b0 := (Blk.new w 25 #[.int .u64 m.e, .int .u64 m.f, v2, v3, .int .u64 m.h, .int .u64 m.t, v6, v7, v8]).alloc (.cells #[.int .u64 0, .int .u64 0, .slice none 0 0, .slice none 0 0, .int .u64 0, .int .u64 0, .slice none 0 0, .slice none 0 0, .slice none 0 0] 25)
  have b1 := Blk.new1 w (.cells #[.int .u64 m.e, .int .u64 m.f, v2, v3, .int .u64 m.h, .int .u64 m.t, v6, v7, v8] 25) 25 #[.int .u64 0, .int .u64 0, .slice none 0 0, .slice none 0 0, .int .u64 0, .int .u64 0, .slice none 0 0, .slice none 0 0, .slice none 0 0]
  have hb0 := ((Below.refl w.heap.size w).alloc (Nat.le_refl _) (.cells #[.int .u64 m.e, .int .u64 m.f, v2, v3, .int .u64 m.h, .int .u64 m.t, v6, v7, v8] 25)).alloc (by simp) (.cells #[.int .u64 0, .int .u64 0, .slice none 0 0, .slice none 0 0, .int .u64 0, .int .u64 0, .slice none 0 0, .slice none 0 0, .slice none 0 0] 25)
  obtain ⟨W, hW⟩ : ∃ W, W = (w.alloc (.cells #[.int .u64 m.e, .int .u64 m.f, v2, v3, .int .u64 m.h, .int .u64 m.t, v6, v7, v8] 25)).alloc (.cells #[.int .u64 0, .int .u64 0, .slice none 0 0, .slice none 0 0, .int .u64 0, .int .u64 0, .slice none 0 0, .slice none 0 0, .slice none 0 0] 25) := ⟨_, rfl⟩
  rw [← hW] at b0 b1 hb0
  have hc1 : W.cell? ⟨gx, ox, none⟩ = some (.int .u64 x) := (hb0.cell (p := ⟨gx, ox, none⟩) (Nat.lt_of_lt_of_le hgx hB')).trans hc0
  refine jdo_of Try.func38 rfl ?_
  simp only [Try.ntmps38, List.size_toArray, List.length_cons, List.length_nil, Nat.reduceAdd, Nat.reduceSub, Array.replicate_succ, Array.replicate_zero, List.push_toArray, List.append_toArray, List.nil_append, List.cons_append]
  repeat (first
    | ((with_reducible refine lst_free ?_ ?_ (fun K hK => ?_)); (focus with_reducible rfl); (focus (intro ht; refine fine_none ?_ ht; (focus (first | (with_reducible apply only_idle); (focus decide) | (with_reducible apply only_turn); (focus rfl); (focus rfl); (focus kernel_rfl) | exact only_calc rfl rfl rfl | exact only_check rfl rfl)))); go_simp; refine hK _ _ _ ?_; clear hK K)
    | ((with_reducible refine lst_off (i := ?_) (b := ?_) (d := ?_) ?_ ?_ ?_ ?_); rotate_left 3; (focus with_reducible rfl); (focus rfl); (focus (simp only [List.getElem?_toArray, List.getElem?_cons_succ, List.getElem?_cons_zero, Bool.not_true, Bool.not_false])); simp only [Act.put, List.setIfInBounds_toArray, List.set_cons_zero, List.set_cons_succ])
    | ((with_reducible refine lst_on (i := ?_) (b := ?_) (d := ?_) ?_ ?_ ?_ ?_ (fun K hK => ?_)); rotate_left 3; (focus with_reducible rfl); (focus rfl); (focus (simp only [List.getElem?_toArray, List.getElem?_cons_succ, List.getElem?_cons_zero])); (focus (intro ht; refine fine_none ?_ ht; (focus (first | (with_reducible apply only_idle); (focus decide) | (with_reducible apply only_turn); (focus rfl); (focus rfl); (focus kernel_rfl) | exact only_calc rfl rfl rfl | exact only_check rfl rfl)))); go_simp; refine hK _ _ _ ?_; clear hK K)
    | (with_reducible apply lst_nil)
    | ((fail_if_success (with_reducible refine lst_any ?_)); first
    | (with_reducible apply j_seq) | (with_reducible apply j_block) | (with_reducible apply j_ret) | (with_reducible apply j_skip) | (with_reducible apply j_exit) | (with_reducible apply j_label) | (with_reducible apply j_region_lit)
    | ((with_reducible refine j_true ?_ ?_); (focus rfl)) | ((with_reducible refine j_false ?_ ?_); (focus rfl))
    | (with_reducible show Then _ _ _ _ _ _; simp only [Then])
    | (with_reducible show InBlock _ _ _ _ _ _; simp only [InBlock, ↓reduceIte, Nat.reduceEqDiff])))
  rw [← hW]
  clear hW
  have dW := b0.cell
  repeat (first
    | ((with_reducible refine lst_free ?_ ?_ (fun K hK => ?_)); (focus with_reducible rfl); (focus (intro ht; refine fine_none ?_ ht; (focus (first | (with_reducible apply only_idle); (focus decide) | (with_reducible apply only_turn); (focus rfl); (focus rfl); (focus kernel_rfl) | exact only_calc rfl rfl rfl | exact only_check rfl rfl)))); go_simp; refine hK _ _ _ ?_; clear hK K)
    | ((with_reducible refine lst_off (i := ?_) (b := ?_) (d := ?_) ?_ ?_ ?_ ?_); rotate_left 3; (focus with_reducible rfl); (focus rfl); (focus (simp only [List.getElem?_toArray, List.getElem?_cons_succ, List.getElem?_cons_zero, Bool.not_true, Bool.not_false])); simp only [Act.put, List.setIfInBounds_toArray, List.set_cons_zero, List.set_cons_succ])
    | ((with_reducible refine lst_on (i := ?_) (b := ?_) (d := ?_) ?_ ?_ ?_ ?_ (fun K hK => ?_)); rotate_left 3; (focus with_reducible rfl); (focus rfl); (focus (simp only [List.getElem?_toArray, List.getElem?_cons_succ, List.getElem?_cons_zero])); (focus (intro ht; refine fine_none ?_ ht; (focus (first | (with_reducible apply only_idle); (focus decide) | (with_reducible apply only_turn); (focus rfl); (focus rfl); (focus kernel_rfl) | exact only_calc rfl rfl rfl | exact only_check rfl rfl)))); go_simp; refine hK _ _ _ ?_; clear hK K)
    | (with_reducible apply lst_nil)
    | ((fail_if_success (with_reducible refine lst_any ?_)); first
    | (with_reducible apply j_seq) | (with_reducible apply j_block) | (with_reducible apply j_ret) | (with_reducible apply j_skip) | (with_reducible apply j_exit) | (with_reducible apply j_label) | (with_reducible apply j_region_lit)
    | ((with_reducible refine j_true ?_ ?_); (focus rfl)) | ((with_reducible refine j_false ?_ ?_); (focus rfl))
    | (with_reducible show Then _ _ _ _ _ _; simp only [Then])
    | (with_reducible show InBlock _ _ _ _ _ _; simp only [InBlock, ↓reduceIte, Nat.reduceEqDiff])))
  refine lst_one (one_store (v := .int .u64 x) (cs' := #[.int .u64 m.e, .int .u64 m.f, v2, v3, .int .u64 m.h, .int .u64 x, v6, v7, v8]) rfl rfl rfl rfl b0 (hoth _ (by omega)) (by kernel_rfl) (Nat.le_of_ble_eq_true rfl) (by simp [Value.cells, Value.oneCell']) rfl ?_)
  simp only [Act.put, List.setIfInBounds_toArray, List.set_cons_zero, List.set_cons_succ]
  have a0 := b0.row #[.int .u64 m.e, .int .u64 m.f, v2, v3, .int .u64 m.h, .int .u64 x, v6, v7, v8]
  have a1 := b1.row_far (g' := w.heap.size) #[.int .u64 m.e, .int .u64 m.f, v2, v3, .int .u64 m.h, .int .u64 x, v6, v7, v8] (by omega)
  have g0 := Below_row hb0 #[.int .u64 m.e, .int .u64 m.f, v2, v3, .int .u64 m.h, .int .u64 x, v6, v7, v8] (g := w.heap.size) (Nat.le_refl _)
  generalize hW1 : W.setRow w.heap.size #[.int .u64 m.e, .int .u64 m.f, v2, v3, .int .u64 m.h, .int .u64 x, v6, v7, v8] = W1 at a0 a1 g0 ⊢
  clear hW1 dW
  have dW := a0.cell
  repeat (first
    | ((with_reducible refine lst_free ?_ ?_ (fun K hK => ?_)); (focus with_reducible rfl); (focus (intro ht; refine fine_none ?_ ht; (focus (first | (with_reducible apply only_idle); (focus decide) | (with_reducible apply only_turn); (focus rfl); (focus rfl); (focus kernel_rfl) | exact only_calc rfl rfl rfl | exact only_check rfl rfl)))); go_simp; refine hK _ _ _ ?_; clear hK K)
    | ((with_reducible refine lst_off (i := ?_) (b := ?_) (d := ?_) ?_ ?_ ?_ ?_); rotate_left 3; (focus with_reducible rfl); (focus rfl); (focus (simp only [List.getElem?_toArray, List.getElem?_cons_succ, List.getElem?_cons_zero, Bool.not_true, Bool.not_false])); simp only [Act.put, List.setIfInBounds_toArray, List.set_cons_zero, List.set_cons_succ])
    | ((with_reducible refine lst_on (i := ?_) (b := ?_) (d := ?_) ?_ ?_ ?_ ?_ (fun K hK => ?_)); rotate_left 3; (focus with_reducible rfl); (focus rfl); (focus (simp only [List.getElem?_toArray, List.getElem?_cons_succ, List.getElem?_cons_zero])); (focus (intro ht; refine fine_none ?_ ht; (focus (first | (with_reducible apply only_idle); (focus decide) | (with_reducible apply only_turn); (focus rfl); (focus rfl); (focus kernel_rfl) | exact only_calc rfl rfl rfl | exact only_check rfl rfl)))); go_simp; refine hK _ _ _ ?_; clear hK K)
    | (with_reducible apply lst_nil)
    | ((fail_if_success (with_reducible refine lst_any ?_)); first
    | (with_reducible apply j_seq) | (with_reducible apply j_block) | (with_reducible apply j_ret) | (with_reducible apply j_skip) | (with_reducible apply j_exit) | (with_reducible apply j_label) | (with_reducible apply j_region_lit)
    | ((with_reducible refine j_true ?_ ?_); (focus rfl)) | ((with_reducible refine j_false ?_ ?_); (focus rfl))
    | (with_reducible show Then _ _ _ _ _ _; simp only [Then])
    | (with_reducible show InBlock _ _ _ _ _ _; simp only [InBlock, ↓reduceIte, Nat.reduceEqDiff])))
  have mv : ∀ {v xs}, Us w B v xs → Us W1 W1.heap.size v xs := fun h => (h.below (g0.mono hB)).more (Nat.le_trans hB g0.size)
  have mw : ∀ {v xs}, Us w B' v xs → Us W1 W1.heap.size v xs := fun h => (h.below (g0.mono hB')).more (Nat.le_trans hB' g0.size)
  have hM : MemC W1 W1.heap.size { m with t := x } #[.int .u64 m.e, .int .u64 m.f, v2, v3, .int .u64 m.h, .int .u64 x, v6, v7, v8] := ⟨_, _, _, _, _, rfl, mv h2, mv h3, mv h6, mv h7, mv h8⟩
  refine lst_one (one_store (v := .agg #[.int .u64 m.e, .int .u64 m.f, v2, v3, .int .u64 m.h, .int .u64 x, v6, v7, v8]) (cs' := #[.int .u64 m.e, .int .u64 m.f, v2, v3, .int .u64 m.h, .int .u64 x, v6, v7, v8]) rfl rfl rfl rfl a1 (hoth _ (by omega)) (by kernel_rfl) (Nat.le_of_ble_eq_true rfl) (Lw.memC_one hM) rfl ?_)
  simp only [Act.put, List.setIfInBounds_toArray, List.set_cons_zero, List.set_cons_succ]
  have f1 := a1.row #[.int .u64 m.e, .int .u64 m.f, v2, v3, .int .u64 m.h, .int .u64 x, v6, v7, v8]
  have g1 := Below_row g0 #[.int .u64 m.e, .int .u64 m.f, v2, v3, .int .u64 m.h, .int .u64 x, v6, v7, v8] (g := w.heap.size + 1) (by omega)
  generalize hW2 : W1.setRow (w.heap.size + 1) #[.int .u64 m.e, .int .u64 m.f, v2, v3, .int .u64 m.h, .int .u64 x, v6, v7, v8] = W2 at f1 g1 ⊢
  clear hW2 dW hM mv mw
  have d1 := f1.cell
  repeat (first
    | ((with_reducible refine lst_free ?_ ?_ (fun K hK => ?_)); (focus with_reducible rfl); (focus (intro ht; refine fine_none ?_ ht; (focus (first | (with_reducible apply only_idle); (focus decide) | (with_reducible apply only_turn); (focus rfl); (focus rfl); (focus kernel_rfl) | exact only_calc rfl rfl rfl | exact only_check rfl rfl)))); go_simp; refine hK _ _ _ ?_; clear hK K)
    | ((with_reducible refine lst_off (i := ?_) (b := ?_) (d := ?_) ?_ ?_ ?_ ?_); rotate_left 3; (focus with_reducible rfl); (focus rfl); (focus (simp only [List.getElem?_toArray, List.getElem?_cons_succ, List.getElem?_cons_zero, Bool.not_true, Bool.not_false])); simp only [Act.put, List.setIfInBounds_toArray, List.set_cons_zero, List.set_cons_succ])
    | ((with_reducible refine lst_on (i := ?_) (b := ?_) (d := ?_) ?_ ?_ ?_ ?_ (fun K hK => ?_)); rotate_left 3; (focus with_reducible rfl); (focus rfl); (focus (simp only [List.getElem?_toArray, List.getElem?_cons_succ, List.getElem?_cons_zero])); (focus (intro ht; refine fine_none ?_ ht; (focus (first | (with_reducible apply only_idle); (focus decide) | (with_reducible apply only_turn); (focus rfl); (focus rfl); (focus kernel_rfl) | exact only_calc rfl rfl rfl | exact only_check rfl rfl)))); go_simp; refine hK _ _ _ ?_; clear hK K)
    | (with_reducible apply lst_nil)
    | ((fail_if_success (with_reducible refine lst_any ?_)); first
    | (with_reducible apply j_seq) | (with_reducible apply j_block) | (with_reducible apply j_ret) | (with_reducible apply j_skip) | (with_reducible apply j_exit) | (with_reducible apply j_label) | (with_reducible apply j_region_lit)
    | ((with_reducible refine j_true ?_ ?_); (focus rfl)) | ((with_reducible refine j_false ?_ ?_); (focus rfl))
    | (with_reducible show Then _ _ _ _ _ _; simp only [Then])
    | (with_reducible show InBlock _ _ _ _ _ _; simp only [InBlock, ↓reduceIte, Nat.reduceEqDiff])))
  have mv2 : ∀ {v xs}, Us w B v xs → Us W2 B v xs := fun h => h.below (g1.mono hB)
  have mw2 : ∀ {v xs}, Us w B' v xs → Us W2 B' v xs := fun h => h.below (g1.mono hB')
  have fin : ∀ W5, (∀ v xs, Us W2 B v xs → Us W5 W5.heap.size v xs) → (∀ xs', Us W2 B' (.slice (some ⟨gx, ox, none⟩) [x].length c) xs' → Us W5 W5.heap.size (.slice (some ⟨gx, ox, none⟩) [x].length c) xs') → MemC W5 W5.heap.size { m with t := x } #[.int .u64 m.e, .int .u64 m.f, v2, v3, .int .u64 m.h, .int .u64 x, v6, v7, v8] := fun W5 k1 k2 => ⟨_, _, _, _, _, rfl, k1 _ _ (mv2 h2), k1 _ _ (mv2 h3), k1 _ _ (mv2 h6), k1 _ _ (mv2 h7), k1 _ _ (mv2 h8)⟩
  exact body_run (.agg #[.int .u64 m.e, .int .u64 m.f, v2, v3, .int .u64 m.h, .int .u64 x, v6, v7, v8]) rfl (by simp [results, go_sem, d1]) ⟨rfl, g1, _, rfl, fin W2 (fun _ _ h => h.more (Nat.le_trans hB g1.size)) (fun _ h => h.more (Nat.le_trans hB' g1.size)), fin, fun g ho hv => Off.set_ (k := 5) (v := .int .u64 x) (ho _ rfl) (offS_int _ _ _)⟩

set_option maxHeartbeats 4000000 in
theorem with_7 {B B' : Nat} {m : Mem} {v vs : Value} {xs : List Int} (hm : MemV w B m v) (hx : Us w B' vs xs) (hB : B ≤ w.heap.size) (hB' : B' ≤ w.heap.size) : Jdo Try.prog X 38 #[v, .int .i64 7, vs] s w (WithPost s w B B' v vs { m with ln := xs }) := by
  refine Jdo.there fun ht => ?_
  have hoth : ∀ b, w.heap.size ≤ b → ¬ X.oth s b := fun b hb ho => by have := ht b ho; omega
  obtain ⟨cs, rfl, v2, v3, v6, v7, v8, rfl, h2, h3, h6, h7, h8⟩ := hm
  obtain ⟨A, c, rfl, _, _⟩ := hx.form
  have b0 := (Blk.new w 25 #[.int .u64 m.e, .int .u64 m.f, v2, v3, .int .u64 m.h, .int .u64 m.t, v6, v7, v8]).alloc (.cells #[.int .u64 0, .int .u64 0, .slice none 0 0, .slice none 0 0, .int .u64 0, .int .u64 0, .slice none 0 0, .slice none 0 0, .slice none 0 0] 25)
  have b1 := Blk.new1 w (.cells #[.int .u64 m.e, .int .u64 m.f, v2, v3, .int .u64 m.h, .int .u64 m.t, v6, v7, v8] 25) 25 #[.int .u64 0, .int .u64 0, .slice none 0 0, .slice none 0 0, .int .u64 0, .int .u64 0, .slice none 0 0, .slice none 0 0, .slice none 0 0]
  have hb0 := ((Below.refl w.heap.size w).alloc (Nat.le_refl _) (.cells #[.int .u64 m.e, .int .u64 m.f, v2, v3, .int .u64 m.h, .int .u64 m.t, v6, v7, v8] 25)).alloc (by simp) (.cells #[.int .u64 0, .int .u64 0, .slice none 0 0, .slice none 0 0, .int .u64 0, .int .u64 0, .slice none 0 0, .slice none 0 0, .slice none 0 0] 25)
  obtain ⟨W, hW⟩ : ∃ W, W = (w.alloc (.cells #[.int .u64 m.e, .int .u64 m.f, v2, v3, .int .u64 m.h, .int .u64 m.t, v6, v7, v8] 25)).alloc (.cells #[.int .u64 0, .int .u64 0, .slice none 0 0, .slice none 0 0, .int .u64 0, .int .u64 0, .slice none 0 0, .slice none 0 0, .slice none 0 0] 25) := ⟨_, rfl⟩
  rw [← hW] at b0 b1 hb0
  refine jdo_of Try.func38 rfl ?_
  simp only [Try.ntmps38, List.size_toArray, List.length_cons, List.length_nil, Nat.reduceAdd, Nat.reduceSub, Array.replicate_succ, Array.replicate_zero, List.push_toArray, List.append_toArray, List.nil_append, List.cons_append]
  repeat (first
    | ((with_reducible refine lst_free ?_ ?_ (fun K hK => ?_)); (focus with_reducible rfl); (focus (intro ht; refine fine_none ?_ ht; (focus (first | (with_reducible apply only_idle); (focus decide) | (with_reducible apply only_turn); (focus rfl); (focus rfl); (focus kernel_rfl) | exact only_calc rfl rfl rfl | exact only_check rfl rfl)))); go_simp; refine hK _ _ _ ?_; clear hK K)
    | ((with_reducible refine lst_off (i := ?_) (b := ?_) (d := ?_) ?_ ?_ ?_ ?_); rotate_left 3; (focus with_reducible rfl); (focus rfl); (focus (simp only [List.getElem?_toArray, List.getElem?_cons_succ, List.getElem?_cons_zero, Bool.not_true, Bool.not_false])); simp only [Act.put, List.setIfInBounds_toArray, List.set_cons_zero, List.set_cons_succ])
    | ((with_reducible refine lst_on (i := ?_) (b := ?_) (d := ?_) ?_ ?_ ?_ ?_ (fun K hK => ?_)); rotate_left 3; (focus with_reducible rfl); (focus rfl); (focus (simp only [List.getElem?_toArray, List.getElem?_cons_succ, List.getElem?_cons_zero])); (focus (intro ht; refine fine_none ?_ ht; (focus (first | (with_reducible apply only_idle); (focus decide) | (with_reducible apply only_turn); (focus rfl); (focus rfl); (focus kernel_rfl) | exact only_calc rfl rfl rfl | exact only_check rfl rfl)))); go_simp; refine hK _ _ _ ?_; clear hK K)
    | (with_reducible apply lst_nil)
    | ((fail_if_success (with_reducible refine lst_any ?_)); first
    | (with_reducible apply j_seq) | (with_reducible apply j_block) | (with_reducible apply j_ret) | (with_reducible apply j_skip) | (with_reducible apply j_exit) | (with_reducible apply j_label) | (with_reducible apply j_region_lit)
    | ((with_reducible refine j_true ?_ ?_); (focus rfl)) | ((with_reducible refine j_false ?_ ?_); (focus rfl))
    | (with_reducible show Then _ _ _ _ _ _; simp only [Then])
    | (with_reducible show InBlock _ _ _ _ _ _; simp only [InBlock, ↓reduceIte, Nat.reduceEqDiff])))
  rw [← hW]
  clear hW
  have dW := b0.cell
  repeat (first
    | ((with_reducible refine lst_free ?_ ?_ (fun K hK => ?_)); (focus with_reducible rfl); (focus (intro ht; refine fine_none ?_ ht; (focus (first | (with_reducible apply only_idle); (focus decide) | (with_reducible apply only_turn); (focus rfl); (focus rfl); (focus kernel_rfl) | exact only_calc rfl rfl rfl | exact only_check rfl rfl)))); go_simp; refine hK _ _ _ ?_; clear hK K)
    | ((with_reducible refine lst_off (i := ?_) (b := ?_) (d := ?_) ?_ ?_ ?_ ?_); rotate_left 3; (focus with_reducible rfl); (focus rfl); (focus (simp only [List.getElem?_toArray, List.getElem?_cons_succ, List.getElem?_cons_zero, Bool.not_true, Bool.not_false])); simp only [Act.put, List.setIfInBounds_toArray, List.set_cons_zero, List.set_cons_succ])
    | ((with_reducible refine lst_on (i := ?_) (b := ?_) (d := ?_) ?_ ?_ ?_ ?_ (fun K hK => ?_)); rotate_left 3; (focus with_reducible rfl); (focus rfl); (focus (simp only [List.getElem?_toArray, List.getElem?_cons_succ, List.getElem?_cons_zero])); (focus (intro ht; refine fine_none ?_ ht; (focus (first | (with_reducible apply only_idle); (focus decide) | (with_reducible apply only_turn); (focus rfl); (focus rfl); (focus kernel_rfl) | exact only_calc rfl rfl rfl | exact only_check rfl rfl)))); go_simp; refine hK _ _ _ ?_; clear hK K)
    | (with_reducible apply lst_nil)
    | ((fail_if_success (with_reducible refine lst_any ?_)); first
    | (with_reducible apply j_seq) | (with_reducible apply j_block) | (with_reducible apply j_ret) | (with_reducible apply j_skip) | (with_reducible apply j_exit) | (with_reducible apply j_label) | (with_reducible apply j_region_lit)
    | ((with_reducible refine j_true ?_ ?_); (focus rfl)) | ((with_reducible refine j_false ?_ ?_); (focus rfl))
    | (with_reducible show Then _ _ _ _ _ _; simp only [Then])
    | (with_reducible show InBlock _ _ _ _ _ _; simp only [InBlock, ↓reduceIte, Nat.reduceEqDiff])))
  refine lst_one (one_store (v := .slice A xs.length c) (cs' := #[.int .u64 m.e, .int .u64 m.f, v2, v3, .int .u64 m.h, .int .u64 m.t, .slice A xs.length c, v7, v8]) rfl rfl rfl rfl b0 (hoth _ (by omega)) (by kernel_rfl) (Nat.le_of_ble_eq_true rfl) (by simp [Value.cells, Value.oneCell']) rfl ?_)
  simp only [Act.put, List.setIfInBounds_toArray, List.set_cons_zero, List.set_cons_succ]
  have a0 := b0.row #[.int .u64 m.e, .int .u64 m.f, v2, v3, .int .u64 m.h, .int .u64 m.t, .slice A xs.length c, v7, v8]
  have a1 := b1.row_far (g' := w.heap.size) #[.int .u64 m.e, .int .u64 m.f, v2, v3, .int .u64 m.h, .int .u64 m.t, .slice A xs.length c, v7, v8] (by omega)
  have g0 := Below_row hb0 #[.int .u64 m.e, .int .u64 m.f, v2, v3, .int .u64 m.h, .int .u64 m.t, .slice A xs.length c, v7, v8] (g := w.heap.size) (Nat.le_refl _)
  generalize hW1 : W.setRow w.heap.size #[.int .u64 m.e, .int .u64 m.f, v2, v3, .int .u64 m.h, .int .u64 m.t, .slice A xs.length c, v7, v8] = W1 at a0 a1 g0 ⊢
  clear hW1 dW
  have dW := a0.cell
  repeat (first
    | ((with_reducible refine lst_free ?_ ?_ (fun K hK => ?_)); (focus with_reducible rfl); (focus (intro ht; refine fine_none ?_ ht; (focus (first | (with_reducible apply only_idle); (focus decide) | (with_reducible apply only_turn); (focus rfl); (focus rfl); (focus kernel_rfl) | exact only_calc rfl rfl rfl | exact only_check rfl rfl)))); go_simp; refine hK _ _ _ ?_; clear hK K)
    | ((with_reducible refine lst_off (i := ?_) (b := ?_) (d := ?_) ?_ ?_ ?_ ?_); rotate_left 3; (focus with_reducible rfl); (focus rfl); (focus (simp only [List.getElem?_toArray, List.getElem?_cons_succ, List.getElem?_cons_zero, Bool.not_true, Bool.not_false])); simp only [Act.put, List.setIfInBounds_toArray, List.set_cons_zero, List.set_cons_succ])
    | ((with_reducible refine lst_on (i := ?_) (b := ?_) (d := ?_) ?_ ?_ ?_ ?_ (fun K hK => ?_)); rotate_left 3; (focus with_reducible rfl); (focus rfl); (focus (simp only [List.getElem?_toArray, List.getElem?_cons_succ, List.getElem?_cons_zero])); (focus (intro ht; refine fine_none ?_ ht; (focus (first | (with_reducible apply only_idle); (focus decide) | (with_reducible apply only_turn); (focus rfl); (focus rfl); (focus kernel_rfl) | exact only_calc rfl rfl rfl | exact only_check rfl rfl)))); go_simp; refine hK _ _ _ ?_; clear hK K)
    | (with_reducible apply lst_nil)
    | ((fail_if_success (with_reducible refine lst_any ?_)); first
    | (with_reducible apply j_seq) | (with_reducible apply j_block) | (with_reducible apply j_ret) | (with_reducible apply j_skip) | (with_reducible apply j_exit) | (with_reducible apply j_label) | (with_reducible apply j_region_lit)
    | ((with_reducible refine j_true ?_ ?_); (focus rfl)) | ((with_reducible refine j_false ?_ ?_); (focus rfl))
    | (with_reducible show Then _ _ _ _ _ _; simp only [Then])
    | (with_reducible show InBlock _ _ _ _ _ _; simp only [InBlock, ↓reduceIte, Nat.reduceEqDiff])))
  have mv : ∀ {v xs}, Us w B v xs → Us W1 W1.heap.size v xs := fun h => (h.below (g0.mono hB)).more (Nat.le_trans hB g0.size)
  have mw : ∀ {v xs}, Us w B' v xs → Us W1 W1.heap.size v xs := fun h => (h.below (g0.mono hB')).more (Nat.le_trans hB' g0.size)
  have hM : MemC W1 W1.heap.size { m with ln := xs } #[.int .u64 m.e, .int .u64 m.f, v2, v3, .int .u64 m.h, .int .u64 m.t, .slice A xs.length c, v7, v8] := ⟨_, _, _, _, _, rfl, mv h2, mv h3, mw hx, mv h7, mv h8⟩
  refine lst_one (one_store (v := .agg #[.int .u64 m.e, .int .u64 m.f, v2, v3, .int .u64 m.h, .int .u64 m.t, .slice A xs.length c, v7, v8]) (cs' := #[.int .u64 m.e, .int .u64 m.f, v2, v3, .int .u64 m.h, .int .u64 m.t, .slice A xs.length c, v7, v8]) rfl rfl rfl rfl a1 (hoth _ (by omega)) (by kernel_rfl) (Nat.le_of_ble_eq_true rfl) (Lw.memC_one hM) rfl ?_)
  simp only [Act.put, List.setIfInBounds_toArray, List.set_cons_zero, List.set_cons_succ]
  have f1 := a1.row #[.int .u64 m.e, .int .u64 m.f, v2, v3, .int .u64 m.h, .int .u64 m.t, .slice A xs.length c, v7, v8]
  have g1 := Below_row g0 #[.int .u64 m.e, .int .u64 m.f, v2, v3, .int .u64 m.h, .int .u64 m.t, .slice A xs.length c, v7, v8] (g := w.heap.size + 1) (by omega)
  generalize hW2 : W1.setRow (w.heap.size + 1) #[.int .u64 m.e, .int .u64 m.f, v2, v3, .int .u64 m.h, .int .u64 m.t, .slice A xs.length c, v7, v8] = W2 at f1 g1 ⊢
  clear hW2 dW hM mv mw
  have d1 := f1.cell
  repeat (first
    | ((with_reducible refine lst_free ?_ ?_ (fun K hK => ?_)); (focus with_reducible rfl); (focus (intro ht; refine fine_none ?_ ht; (focus (first | (with_reducible apply only_idle); (focus decide) | (with_reducible apply only_turn); (focus rfl); (focus rfl); (focus kernel_rfl) | exact only_calc rfl rfl rfl | exact only_check rfl rfl)))); go_simp; refine hK _ _ _ ?_; clear hK K)
    | ((with_reducible refine lst_off (i := ?_) (b := ?_) (d := ?_) ?_ ?_ ?_ ?_); rotate_left 3; (focus with_reducible rfl); (focus rfl); (focus (simp only [List.getElem?_toArray, List.getElem?_cons_succ, List.getElem?_cons_zero, Bool.not_true, Bool.not_false])); simp only [Act.put, List.setIfInBounds_toArray, List.set_cons_zero, List.set_cons_succ])
    | ((with_reducible refine lst_on (i := ?_) (b := ?_) (d := ?_) ?_ ?_ ?_ ?_ (fun K hK => ?_)); rotate_left 3; (focus with_reducible rfl); (focus rfl); (focus (simp only [List.getElem?_toArray, List.getElem?_cons_succ, List.getElem?_cons_zero])); (focus (intro ht; refine fine_none ?_ ht; (focus (first | (with_reducible apply only_idle); (focus decide) | (with_reducible apply only_turn); (focus rfl); (focus rfl); (focus kernel_rfl) | exact only_calc rfl rfl rfl | exact only_check rfl rfl)))); go_simp; refine hK _ _ _ ?_; clear hK K)
    | (with_reducible apply lst_nil)
    | ((fail_if_success (with_reducible refine lst_any ?_)); first
    | (with_reducible apply j_seq) | (with_reducible apply j_block) | (with_reducible apply j_ret) | (with_reducible apply j_skip) | (with_reducible apply j_exit) | (with_reducible apply j_label) | (with_reducible apply j_region_lit)
    | ((with_reducible refine j_true ?_ ?_); (focus rfl)) | ((with_reducible refine j_false ?_ ?_); (focus rfl))
    | (with_reducible show Then _ _ _ _ _ _; simp only [Then])
    | (with_reducible show InBlock _ _ _ _ _ _; simp only [InBlock, ↓reduceIte, Nat.reduceEqDiff])))
  have mv2 : ∀ {v xs}, Us w B v xs → Us W2 B v xs := fun h => h.below (g1.mono hB)
  have mw2 : ∀ {v xs}, Us w B' v xs → Us W2 B' v xs := fun h => h.below (g1.mono hB')
  have fin : ∀ W5, (∀ v xs, Us W2 B v xs → Us W5 W5.heap.size v xs) → (∀ xs', Us W2 B' (.slice A xs.length c) xs' → Us W5 W5.heap.size (.slice A xs.length c) xs') → MemC W5 W5.heap.size { m with ln := xs } #[.int .u64 m.e, .int .u64 m.f, v2, v3, .int .u64 m.h, .int .u64 m.t, .slice A xs.length c, v7, v8] := fun W5 k1 k2 => ⟨_, _, _, _, _, rfl, k1 _ _ (mv2 h2), k1 _ _ (mv2 h3), k2 _ (mw2 hx), k1 _ _ (mv2 h7), k1 _ _ (mv2 h8)⟩
  exact body_run (.agg #[.int .u64 m.e, .int .u64 m.f, v2, v3, .int .u64 m.h, .int .u64 m.t, .slice A xs.length c, v7, v8]) rfl (by simp [results, go_sem, d1]) ⟨rfl, g1, _, rfl, fin W2 (fun _ _ h => h.more (Nat.le_trans hB g1.size)) (fun _ h => h.more (Nat.le_trans hB' g1.size)), fin, fun g ho hv => Off.set_ (k := 6) (v := .slice A xs.length c) (ho _ rfl) hv⟩

set_option maxHeartbeats 4000000 in
theorem with_8 {B B' : Nat} {m : Mem} {v vs : Value} {xs : List Int} (hm : MemV w B m v) (hx : Us w B' vs xs) (hB : B ≤ w.heap.size) (hB' : B' ≤ w.heap.size) : Jdo Try.prog X 38 #[v, .int .i64 8, vs] s w (WithPost s w B B' v vs { m with nx := xs }) := by
  refine Jdo.there fun ht => ?_
  have hoth : ∀ b, w.heap.size ≤ b → ¬ X.oth s b := fun b hb ho => by have := ht b ho; omega
  obtain ⟨cs, rfl, v2, v3, v6, v7, v8, rfl, h2, h3, h6, h7, h8⟩ := hm
  obtain ⟨A, c, rfl, _, _⟩ := hx.form
  have b0 := (Blk.new w 25 #[.int .u64 m.e, .int .u64 m.f, v2, v3, .int .u64 m.h, .int .u64 m.t, v6, v7, v8]).alloc (.cells #[.int .u64 0, .int .u64 0, .slice none 0 0, .slice none 0 0, .int .u64 0, .int .u64 0, .slice none 0 0, .slice none 0 0, .slice none 0 0] 25)
  have b1 := Blk.new1 w (.cells #[.int .u64 m.e, .int .u64 m.f, v2, v3, .int .u64 m.h, .int .u64 m.t, v6, v7, v8] 25) 25 #[.int .u64 0, .int .u64 0, .slice none 0 0, .slice none 0 0, .int .u64 0, .int .u64 0, .slice none 0 0, .slice none 0 0, .slice none 0 0]
  have hb0 := ((Below.refl w.heap.size w).alloc (Nat.le_refl _) (.cells #[.int .u64 m.e, .int .u64 m.f, v2, v3, .int .u64 m.h, .int .u64 m.t, v6, v7, v8] 25)).alloc (by simp) (.cells #[.int .u64 0, .int .u64 0, .slice none 0 0, .slice none 0 0, .int .u64 0, .int .u64 0, .slice none 0 0, .slice none 0 0, .slice none 0 0] 25)
  obtain ⟨W, hW⟩ : ∃ W, W = (w.alloc (.cells #[.int .u64 m.e, .int .u64 m.f, v2, v3, .int .u64 m.h, .int .u64 m.t, v6, v7, v8] 25)).alloc (.cells #[.int .u64 0, .int .u64 0, .slice none 0 0, .slice none 0 0, .int .u64 0, .int .u64 0, .slice none 0 0, .slice none 0 0, .slice none 0 0] 25) := ⟨_, rfl⟩
  rw [← hW] at b0 b1 hb0
  refine jdo_of Try.func38 rfl ?_
  simp only [Try.ntmps38, List.size_toArray, List.length_cons, List.length_nil, Nat.reduceAdd, Nat.reduceSub, Array.replicate_succ, Array.replicate_zero, List.push_toArray, List.append_toArray, List.nil_append, List.cons_append]
  repeat (first
    | ((with_reducible refine lst_free ?_ ?_ (fun K hK => ?_)); (focus with_reducible rfl); (focus (intro ht; refine fine_none ?_ ht; (focus (first | (with_reducible apply only_idle); (focus decide) | (with_reducible apply only_turn); (focus rfl); (focus rfl); (focus kernel_rfl) | exact only_calc rfl rfl rfl | exact only_check rfl rfl)))); go_simp; refine hK _ _ _ ?_; clear hK K)
    | ((with_reducible refine lst_off (i := ?_) (b := ?_) (d := ?_) ?_ ?_ ?_ ?_); rotate_left 3; (focus with_reducible rfl); (focus rfl); (focus (simp only [List.getElem?_toArray, List.getElem?_cons_succ, List.getElem?_cons_zero, Bool.not_true, Bool.not_false])); simp only [Act.put, List.setIfInBounds_toArray, List.set_cons_zero, List.set_cons_succ])
    | ((with_reducible refine lst_on (i := ?_) (b := ?_) (d := ?_) ?_ ?_ ?_ ?_ (fun K hK => ?_)); rotate_left 3; (focus with_reducible rfl); (focus rfl); (focus (simp only [List.getElem?_toArray, List.getElem?_cons_succ, List.getElem?_cons_zero])); (focus (intro ht; refine fine_none ?_ ht; (focus (first | (with_reducible apply only_idle); (focus decide) | (with_reducible apply only_turn); (focus rfl); (focus rfl); (focus kernel_rfl) | exact only_calc rfl rfl rfl | exact only_check rfl rfl)))); go_simp; refine hK _ _ _ ?_; clear hK K)
    | (with_reducible apply lst_nil)
    | ((fail_if_success (with_reducible refine lst_any ?_)); first
    | (with_reducible apply j_seq) | (with_reducible apply j_block) | (with_reducible apply j_ret) | (with_reducible apply j_skip) | (with_reducible apply j_exit) | (with_reducible apply j_label) | (with_reducible apply j_region_lit)
    | ((with_reducible refine j_true ?_ ?_); (focus rfl)) | ((with_reducible refine j_false ?_ ?_); (focus rfl))
    | (with_reducible show Then _ _ _ _ _ _; simp only [Then])
    | (with_reducible show InBlock _ _ _ _ _ _; simp only [InBlock, ↓reduceIte, Nat.reduceEqDiff])))
  rw [← hW]
  clear hW
  have dW := b0.cell
  repeat (first
    | ((with_reducible refine lst_free ?_ ?_ (fun K hK => ?_)); (focus with_reducible rfl); (focus (intro ht; refine fine_none ?_ ht; (focus (first | (with_reducible apply only_idle); (focus decide) | (with_reducible apply only_turn); (focus rfl); (focus rfl); (focus kernel_rfl) | exact only_calc rfl rfl rfl | exact only_check rfl rfl)))); go_simp; refine hK _ _ _ ?_; clear hK K)
    | ((with_reducible refine lst_off (i := ?_) (b := ?_) (d := ?_) ?_ ?_ ?_ ?_); rotate_left 3; (focus with_reducible rfl); (focus rfl); (focus (simp only [List.getElem?_toArray, List.getElem?_cons_succ, List.getElem?_cons_zero, Bool.not_true, Bool.not_false])); simp only [Act.put, List.setIfInBounds_toArray, List.set_cons_zero, List.set_cons_succ])
    | ((with_reducible refine lst_on (i := ?_) (b := ?_) (d := ?_) ?_ ?_ ?_ ?_ (fun K hK => ?_)); rotate_left 3; (focus with_reducible rfl); (focus rfl); (focus (simp only [List.getElem?_toArray, List.getElem?_cons_succ, List.getElem?_cons_zero])); (focus (intro ht; refine fine_none ?_ ht; (focus (first | (with_reducible apply only_idle); (focus decide) | (with_reducible apply only_turn); (focus rfl); (focus rfl); (focus kernel_rfl) | exact only_calc rfl rfl rfl | exact only_check rfl rfl)))); go_simp; refine hK _ _ _ ?_; clear hK K)
    | (with_reducible apply lst_nil)
    | ((fail_if_success (with_reducible refine lst_any ?_)); first
    | (with_reducible apply j_seq) | (with_reducible apply j_block) | (with_reducible apply j_ret) | (with_reducible apply j_skip) | (with_reducible apply j_exit) | (with_reducible apply j_label) | (with_reducible apply j_region_lit)
    | ((with_reducible refine j_true ?_ ?_); (focus rfl)) | ((with_reducible refine j_false ?_ ?_); (focus rfl))
    | (with_reducible show Then _ _ _ _ _ _; simp only [Then])
    | (with_reducible show InBlock _ _ _ _ _ _; simp only [InBlock, ↓reduceIte, Nat.reduceEqDiff])))
  refine lst_one (one_store (v := .slice A xs.length c) (cs' := #[.int .u64 m.e, .int .u64 m.f, v2, v3, .int .u64 m.h, .int .u64 m.t, v6, .slice A xs.length c, v8]) rfl rfl rfl rfl b0 (hoth _ (by omega)) (by kernel_rfl) (Nat.le_of_ble_eq_true rfl) (by simp [Value.cells, Value.oneCell']) rfl ?_)
  simp only [Act.put, List.setIfInBounds_toArray, List.set_cons_zero, List.set_cons_succ]
  have a0 := b0.row #[.int .u64 m.e, .int .u64 m.f, v2, v3, .int .u64 m.h, .int .u64 m.t, v6, .slice A xs.length c, v8]
  have a1 := b1.row_far (g' := w.heap.size) #[.int .u64 m.e, .int .u64 m.f, v2, v3, .int .u64 m.h, .int .u64 m.t, v6, .slice A xs.length c, v8] (by omega)
  have g0 := Below_row hb0 #[.int .u64 m.e, .int .u64 m.f, v2, v3, .int .u64 m.h, .int .u64 m.t, v6, .slice A xs.length c, v8] (g := w.heap.size) (Nat.le_refl _)
  generalize hW1 : W.setRow w.heap.size #[.int .u64 m.e, .int .u64 m.f, v2, v3, .int .u64 m.h, .int .u64 m.t, v6, .slice A xs.length c, v8] = W1 at a0 a1 g0 ⊢
  clear hW1 dW
  have dW := a0.cell
  repeat (first
    | ((with_reducible refine lst_free ?_ ?_ (fun K hK => ?_)); (focus with_reducible rfl); (focus (intro ht; refine fine_none ?_ ht; (focus (first | (with_reducible apply only_idle); (focus decide) | (with_reducible apply only_turn); (focus rfl); (focus rfl); (focus kernel_rfl) | exact only_calc rfl rfl rfl | exact only_check rfl rfl)))); go_simp; refine hK _ _ _ ?_; clear hK K)
    | ((with_reducible refine lst_off (i := ?_) (b := ?_) (d := ?_) ?_ ?_ ?_ ?_); rotate_left 3; (focus with_reducible rfl); (focus rfl); (focus (simp only [List.getElem?_toArray, List.getElem?_cons_succ, List.getElem?_cons_zero, Bool.not_true, Bool.not_false])); simp only [Act.put, List.setIfInBounds_toArray, List.set_cons_zero, List.set_cons_succ])
    | ((with_reducible refine lst_on (i := ?_) (b := ?_) (d := ?_) ?_ ?_ ?_ ?_ (fun K hK => ?_)); rotate_left 3; (focus with_reducible rfl); (focus rfl); (focus (simp only [List.getElem?_toArray, List.getElem?_cons_succ, List.getElem?_cons_zero])); (focus (intro ht; refine fine_none ?_ ht; (focus (first | (with_reducible apply only_idle); (focus decide) | (with_reducible apply only_turn); (focus rfl); (focus rfl); (focus kernel_rfl) | exact only_calc rfl rfl rfl | exact only_check rfl rfl)))); go_simp; refine hK _ _ _ ?_; clear hK K)
    | (with_reducible apply lst_nil)
    | ((fail_if_success (with_reducible refine lst_any ?_)); first
    | (with_reducible apply j_seq) | (with_reducible apply j_block) | (with_reducible apply j_ret) | (with_reducible apply j_skip) | (with_reducible apply j_exit) | (with_reducible apply j_label) | (with_reducible apply j_region_lit)
    | ((with_reducible refine j_true ?_ ?_); (focus rfl)) | ((with_reducible refine j_false ?_ ?_); (focus rfl))
    | (with_reducible show Then _ _ _ _ _ _; simp only [Then])
    | (with_reducible show InBlock _ _ _ _ _ _; simp only [InBlock, ↓reduceIte, Nat.reduceEqDiff])))
  have mv : ∀ {v xs}, Us w B v xs → Us W1 W1.heap.size v xs := fun h => (h.below (g0.mono hB)).more (Nat.le_trans hB g0.size)
  have mw : ∀ {v xs}, Us w B' v xs → Us W1 W1.heap.size v xs := fun h => (h.below (g0.mono hB')).more (Nat.le_trans hB' g0.size)
  have hM : MemC W1 W1.heap.size { m with nx := xs } #[.int .u64 m.e, .int .u64 m.f, v2, v3, .int .u64 m.h, .int .u64 m.t, v6, .slice A xs.length c, v8] := ⟨_, _, _, _, _, rfl, mv h2, mv h3, mv h6, mw hx, mv h8⟩
  refine lst_one (one_store (v := .agg #[.int .u64 m.e, .int .u64 m.f, v2, v3, .int .u64 m.h, .int .u64 m.t, v6, .slice A xs.length c, v8]) (cs' := #[.int .u64 m.e, .int .u64 m.f, v2, v3, .int .u64 m.h, .int .u64 m.t, v6, .slice A xs.length c, v8]) rfl rfl rfl rfl a1 (hoth _ (by omega)) (by kernel_rfl) (Nat.le_of_ble_eq_true rfl) (Lw.memC_one hM) rfl ?_)
  simp only [Act.put, List.setIfInBounds_toArray, List.set_cons_zero, List.set_cons_succ]
  have f1 := a1.row #[.int .u64 m.e, .int .u64 m.f, v2, v3, .int .u64 m.h, .int .u64 m.t, v6, .slice A xs.length c, v8]
  have g1 := Below_row g0 #[.int .u64 m.e, .int .u64 m.f, v2, v3, .int .u64 m.h, .int .u64 m.t, v6, .slice A xs.length c, v8] (g := w.heap.size + 1) (by omega)
  generalize hW2 : W1.setRow (w.heap.size + 1) #[.int .u64 m.e, .int .u64 m.f, v2, v3, .int .u64 m.h, .int .u64 m.t, v6, .slice A xs.length c, v8] = W2 at f1 g1 ⊢
  clear hW2 dW hM mv mw
  have d1 := f1.cell
  repeat (first
    | ((with_reducible refine lst_free ?_ ?_ (fun K hK => ?_)); (focus with_reducible rfl); (focus (intro ht; refine fine_none ?_ ht; (focus (first | (with_reducible apply only_idle); (focus decide) | (with_reducible apply only_turn); (focus rfl); (focus rfl); (focus kernel_rfl) | exact only_calc rfl rfl rfl | exact only_check rfl rfl)))); go_simp; refine hK _ _ _ ?_; clear hK K)
    | ((with_reducible refine lst_off (i := ?_) (b := ?_) (d := ?_) ?_ ?_ ?_ ?_); rotate_left 3; (focus with_reducible rfl); (focus rfl); (focus (simp only [List.getElem?_toArray, List.getElem?_cons_succ, List.getElem?_cons_zero, Bool.not_true, Bool.not_false])); simp only [Act.put, List.setIfInBounds_toArray, List.set_cons_zero, List.set_cons_succ])
    | ((with_reducible refine lst_on (i := ?_) (b := ?_) (d := ?_) ?_ ?_ ?_ ?_ (fun K hK => ?_)); rotate_left 3; (focus with_reducible rfl); (focus rfl); (focus (simp only [List.getElem?_toArray, List.getElem?_cons_succ, List.getElem?_cons_zero])); (focus (intro ht; refine fine_none ?_ ht; (focus (first | (with_reducible apply only_idle); (focus decide) | (with_reducible apply only_turn); (focus rfl); (focus rfl); (focus kernel_rfl) | exact only_calc rfl rfl rfl | exact only_check rfl rfl)))); go_simp; refine hK _ _ _ ?_; clear hK K)
    | (with_reducible apply lst_nil)
    | ((fail_if_success (with_reducible refine lst_any ?_)); first
    | (with_reducible apply j_seq) | (with_reducible apply j_block) | (with_reducible apply j_ret) | (with_reducible apply j_skip) | (with_reducible apply j_exit) | (with_reducible apply j_label) | (with_reducible apply j_region_lit)
    | ((with_reducible refine j_true ?_ ?_); (focus rfl)) | ((with_reducible refine j_false ?_ ?_); (focus rfl))
    | (with_reducible show Then _ _ _ _ _ _; simp only [Then])
    | (with_reducible show InBlock _ _ _ _ _ _; simp only [InBlock, ↓reduceIte, Nat.reduceEqDiff])))
  have mv2 : ∀ {v xs}, Us w B v xs → Us W2 B v xs := fun h => h.below (g1.mono hB)
  have mw2 : ∀ {v xs}, Us w B' v xs → Us W2 B' v xs := fun h => h.below (g1.mono hB')
  have fin : ∀ W5, (∀ v xs, Us W2 B v xs → Us W5 W5.heap.size v xs) → (∀ xs', Us W2 B' (.slice A xs.length c) xs' → Us W5 W5.heap.size (.slice A xs.length c) xs') → MemC W5 W5.heap.size { m with nx := xs } #[.int .u64 m.e, .int .u64 m.f, v2, v3, .int .u64 m.h, .int .u64 m.t, v6, .slice A xs.length c, v8] := fun W5 k1 k2 => ⟨_, _, _, _, _, rfl, k1 _ _ (mv2 h2), k1 _ _ (mv2 h3), k1 _ _ (mv2 h6), k2 _ (mw2 hx), k1 _ _ (mv2 h8)⟩
  exact body_run (.agg #[.int .u64 m.e, .int .u64 m.f, v2, v3, .int .u64 m.h, .int .u64 m.t, v6, .slice A xs.length c, v8]) rfl (by simp [results, go_sem, d1]) ⟨rfl, g1, _, rfl, fin W2 (fun _ _ h => h.more (Nat.le_trans hB g1.size)) (fun _ h => h.more (Nat.le_trans hB' g1.size)), fin, fun g ho hv => Off.set_ (k := 7) (v := .slice A xs.length c) (ho _ rfl) hv⟩

set_option maxHeartbeats 4000000 in
theorem with_9 {B B' : Nat} {m : Mem} {v vs : Value} {xs : List Int} (hm : MemV w B m v) (hx : Us w B' vs xs) (hB : B ≤ w.heap.size) (hB' : B' ≤ w.heap.size) : Jdo Try.prog X 38 #[v, .int .i64 9, vs] s w (WithPost s w B B' v vs { m with sl := xs }) := by
  refine Jdo.there fun ht => ?_
  have hoth : ∀ b, w.heap.size ≤ b → ¬ X.oth s b := fun b hb ho => by have := ht b ho; omega
  obtain ⟨cs, rfl, v2, v3, v6, v7, v8, rfl, h2, h3, h6, h7, h8⟩ := hm
  obtain ⟨A, c, rfl, _, _⟩ := hx.form
  have b0 := (Blk.new w 25 #[.int .u64 m.e, .int .u64 m.f, v2, v3, .int .u64 m.h, .int .u64 m.t, v6, v7, v8]).alloc (.cells #[.int .u64 0, .int .u64 0, .slice none 0 0, .slice none 0 0, .int .u64 0, .int .u64 0, .slice none 0 0, .slice none 0 0, .slice none 0 0] 25)
  have b1 := Blk.new1 w (.cells #[.int .u64 m.e, .int .u64 m.f, v2, v3, .int .u64 m.h, .int .u64 m.t, v6, v7, v8] 25) 25 #[.int .u64 0, .int .u64 0, .slice none 0 0, .slice none 0 0, .int .u64 0, .int .u64 0, .slice none 0 0, .slice none 0 0, .slice none 0 0]
  have hb0 := ((Below.refl w.heap.size w).alloc (Nat.le_refl _) (.cells #[.int .u64 m.e, .int .u64 m.f, v2, v3, .int .u64 m.h, .int .u64 m.t, v6, v7, v8] 25)).alloc (by simp) (.cells #[.int .u64 0, .int .u64 0, .slice none 0 0, .slice none 0 0, .int .u64 0, .int .u64 0, .slice none 0 0, .slice none 0 0, .slice none 0 0] 25)
  obtain ⟨W, hW⟩ : ∃ W, W = (w.alloc (.cells #[.int .u64 m.e, .int .u64 m.f, v2, v3, .int .u64 m.h, .int .u64 m.t, v6, v7, v8] 25)).alloc (.cells #[.int .u64 0, .int .u64 0, .slice none 0 0, .slice none 0 0, .int .u64 0, .int .u64 0, .slice none 0 0, .slice none 0 0, .slice none 0 0] 25) := ⟨_, rfl⟩
  rw [← hW] at b0 b1 hb0
  refine jdo_of Try.func38 rfl ?_
  simp only [Try.ntmps38, List.size_toArray, List.length_cons, List.length_nil, Nat.reduceAdd, Nat.reduceSub, Array.replicate_succ, Array.replicate_zero, List.push_toArray, List.append_toArray, List.nil_append, List.cons_append]
  repeat (first
    | ((with_reducible refine lst_free ?_ ?_ (fun K hK => ?_)); (focus with_reducible rfl); (focus (intro ht; refine fine_none ?_ ht; (focus (first | (with_reducible apply only_idle); (focus decide) | (with_reducible apply only_turn); (focus rfl); (focus rfl); (focus kernel_rfl) | exact only_calc rfl rfl rfl | exact only_check rfl rfl)))); go_simp; refine hK _ _ _ ?_; clear hK K)
    | ((with_reducible refine lst_off (i := ?_) (b := ?_) (d := ?_) ?_ ?_ ?_ ?_); rotate_left 3; (focus with_reducible rfl); (focus rfl); (focus (simp only [List.getElem?_toArray, List.getElem?_cons_succ, List.getElem?_cons_zero, Bool.not_true, Bool.not_false])); simp only [Act.put, List.setIfInBounds_toArray, List.set_cons_zero, List.set_cons_succ])
    | ((with_reducible refine lst_on (i := ?_) (b := ?_) (d := ?_) ?_ ?_ ?_ ?_ (fun K hK => ?_)); rotate_left 3; (focus with_reducible rfl); (focus rfl); (focus (simp only [List.getElem?_toArray, List.getElem?_cons_succ, List.getElem?_cons_zero])); (focus (intro ht; refine fine_none ?_ ht; (focus (first | (with_reducible apply only_idle); (focus decide) | (with_reducible apply only_turn); (focus rfl); (focus rfl); (focus kernel_rfl) | exact only_calc rfl rfl rfl | exact only_check rfl rfl)))); go_simp; refine hK _ _ _ ?_; clear hK K)
    | (with_reducible apply lst_nil)
    | ((fail_if_success (with_reducible refine lst_any ?_)); first
    | (with_reducible apply j_seq) | (with_reducible apply j_block) | (with_reducible apply j_ret) | (with_reducible apply j_skip) | (with_reducible apply j_exit) | (with_reducible apply j_label) | (with_reducible apply j_region_lit)
    | ((with_reducible refine j_true ?_ ?_); (focus rfl)) | ((with_reducible refine j_false ?_ ?_); (focus rfl))
    | (with_reducible show Then _ _ _ _ _ _; simp only [Then])
    | (with_reducible show InBlock _ _ _ _ _ _; simp only [InBlock, ↓reduceIte, Nat.reduceEqDiff])))
  rw [← hW]
  clear hW
  have dW := b0.cell
  repeat (first
    | ((with_reducible refine lst_free ?_ ?_ (fun K hK => ?_)); (focus with_reducible rfl); (focus (intro ht; refine fine_none ?_ ht; (focus (first | (with_reducible apply only_idle); (focus decide) | (with_reducible apply only_turn); (focus rfl); (focus rfl); (focus kernel_rfl) | exact only_calc rfl rfl rfl | exact only_check rfl rfl)))); go_simp; refine hK _ _ _ ?_; clear hK K)
    | ((with_reducible refine lst_off (i := ?_) (b := ?_) (d := ?_) ?_ ?_ ?_ ?_); rotate_left 3; (focus with_reducible rfl); (focus rfl); (focus (simp only [List.getElem?_toArray, List.getElem?_cons_succ, List.getElem?_cons_zero, Bool.not_true, Bool.not_false])); simp only [Act.put, List.setIfInBounds_toArray, List.set_cons_zero, List.set_cons_succ])
    | ((with_reducible refine lst_on (i := ?_) (b := ?_) (d := ?_) ?_ ?_ ?_ ?_ (fun K hK => ?_)); rotate_left 3; (focus with_reducible rfl); (focus rfl); (focus (simp only [List.getElem?_toArray, List.getElem?_cons_succ, List.getElem?_cons_zero])); (focus (intro ht; refine fine_none ?_ ht; (focus (first | (with_reducible apply only_idle); (focus decide) | (with_reducible apply only_turn); (focus rfl); (focus rfl); (focus kernel_rfl) | exact only_calc rfl rfl rfl | exact only_check rfl rfl)))); go_simp; refine hK _ _ _ ?_; clear hK K)
    | (with_reducible apply lst_nil)
    | ((fail_if_success (with_reducible refine lst_any ?_)); first
    | (with_reducible apply j_seq) | (with_reducible apply j_block) | (with_reducible apply j_ret) | (with_reducible apply j_skip) | (with_reducible apply j_exit) | (with_reducible apply j_label) | (with_reducible apply j_region_lit)
    | ((with_reducible refine j_true ?_ ?_); (focus rfl)) | ((with_reducible refine j_false ?_ ?_); (focus rfl))
    | (with_reducible show Then _ _ _ _ _ _; simp only [Then])
    | (with_reducible show InBlock _ _ _ _ _ _; simp only [InBlock, ↓reduceIte, Nat.reduceEqDiff])))
  refine lst_one (one_store (v := .slice A xs.length c) (cs' := #[.int .u64 m.e, .int .u64 m.f, v2, v3, .int .u64 m.h, .int .u64 m.t, v6, v7, .slice A xs.length c]) rfl rfl rfl rfl b0 (hoth _ (by omega)) (by kernel_rfl) (Nat.le_of_ble_eq_true rfl) (by simp [Value.cells, Value.oneCell']) rfl ?_)
  simp only [Act.put, List.setIfInBounds_toArray, List.set_cons_zero, List.set_cons_succ]
  have a0 := b0.row #[.int .u64 m.e, .int .u64 m.f, v2, v3, .int .u64 m.h, .int .u64 m.t, v6, v7, .slice A xs.length c]
  have a1 := b1.row_far (g' := w.heap.size) #[.int .u64 m.e, .int .u64 m.f, v2, v3, .int .u64 m.h, .int .u64 m.t, v6, v7, .slice A xs.length c] (by omega)
  have g0 := Below_row hb0 #[.int .u64 m.e, .int .u64 m.f, v2, v3, .int .u64 m.h, .int .u64 m.t, v6, v7, .slice A xs.length c] (g := w.heap.size) (Nat.le_refl _)
  generalize hW1 : W.setRow w.heap.size #[.int .u64 m.e, .int .u64 m.f, v2, v3, .int .u64 m.h, .int .u64 m.t, v6, v7, .slice A xs.length c] = W1 at a0 a1 g0 ⊢
  clear hW1 dW
  have dW := a0.cell
  repeat (first
    | ((with_reducible refine lst_free ?_ ?_ (fun K hK => ?_)); (focus with_reducible rfl); (focus (intro ht; refine fine_none ?_ ht; (focus (first | (with_reducible apply only_idle); (focus decide) | (with_reducible apply only_turn); (focus rfl); (focus rfl); (focus kernel_rfl) | exact only_calc rfl rfl rfl | exact only_check rfl rfl)))); go_simp; refine hK _ _ _ ?_; clear hK K)
    | ((with_reducible refine lst_off (i := ?_) (b := ?_) (d := ?_) ?_ ?_ ?_ ?_); rotate_left 3; (focus with_reducible rfl); (focus rfl); (focus (simp only [List.getElem?_toArray, List.getElem?_cons_succ, List.getElem?_cons_zero, Bool.not_true, Bool.not_false])); simp only [Act.put, List.setIfInBounds_toArray, List.set_cons_zero, List.set_cons_succ])
    | ((with_reducible refine lst_on (i := ?_) (b := ?_) (d := ?_) ?_ ?_ ?_ ?_ (fun K hK => ?_)); rotate_left 3; (focus with_reducible rfl); (focus rfl); (focus (simp only [List.getElem?_toArray, List.getElem?_cons_succ, List.getElem?_cons_zero])); (focus (intro ht; refine fine_none ?_ ht; (focus (first | (with_reducible apply only_idle); (focus decide) | (with_reducible apply only_turn); (focus rfl); (focus rfl); (focus kernel_rfl) | exact only_calc rfl rfl rfl | exact only_check rfl rfl)))); go_simp; refine hK _ _ _ ?_; clear hK K)
    | (with_reducible apply lst_nil)
    | ((fail_if_success (with_reducible refine lst_any ?_)); first
    | (with_reducible apply j_seq) | (with_reducible apply j_block) | (with_reducible apply j_ret) | (with_reducible apply j_skip) | (with_reducible apply j_exit) | (with_reducible apply j_label) | (with_reducible apply j_region_lit)
    | ((with_reducible refine j_true ?_ ?_); (focus rfl)) | ((with_reducible refine j_false ?_ ?_); (focus rfl))
    | (with_reducible show Then _ _ _ _ _ _; simp only [Then])
    | (with_reducible show InBlock _ _ _ _ _ _; simp only [InBlock, ↓reduceIte, Nat.reduceEqDiff])))
  have mv : ∀ {v xs}, Us w B v xs → Us W1 W1.heap.size v xs := fun h => (h.below (g0.mono hB)).more (Nat.le_trans hB g0.size)
  have mw : ∀ {v xs}, Us w B' v xs → Us W1 W1.heap.size v xs := fun h => (h.below (g0.mono hB')).more (Nat.le_trans hB' g0.size)
  have hM : MemC W1 W1.heap.size { m with sl := xs } #[.int .u64 m.e, .int .u64 m.f, v2, v3, .int .u64 m.h, .int .u64 m.t, v6, v7, .slice A xs.length c] := ⟨_, _, _, _, _, rfl, mv h2, mv h3, mv h6, mv h7, mw hx⟩
  refine lst_one (one_store (v := .agg #[.int .u64 m.e, .int .u64 m.f, v2, v3, .int .u64 m.h, .int .u64 m.t, v6, v7, .slice A xs.length c]) (cs' := #[.int .u64 m.e, .int .u64 m.f, v2, v3, .int .u64 m.h, .int .u64 m.t, v6, v7, .slice A xs.length c]) rfl rfl rfl rfl a1 (hoth _ (by omega)) (by kernel_rfl) (Nat.le_of_ble_eq_true rfl) (Lw.memC_one hM) rfl ?_)
  simp only [Act.put, List.setIfInBounds_toArray, List.set_cons_zero, List.set_cons_succ]
  have f1 := a1.row #[.int .u64 m.e, .int .u64 m.f, v2, v3, .int .u64 m.h, .int .u64 m.t, v6, v7, .slice A xs.length c]
  have g1 := Below_row g0 #[.int .u64 m.e, .int .u64 m.f, v2, v3, .int .u64 m.h, .int .u64 m.t, v6, v7, .slice A xs.length c] (g := w.heap.size + 1) (by omega)
  generalize hW2 : W1.setRow (w.heap.size + 1) #[.int .u64 m.e, .int .u64 m.f, v2, v3, .int .u64 m.h, .int .u64 m.t, v6, v7, .slice A xs.length c] = W2 at f1 g1 ⊢
  clear hW2 dW hM mv mw
  have d1 := f1.cell
  repeat (first
    | ((with_reducible refine lst_free ?_ ?_ (fun K hK => ?_)); (focus with_reducible rfl); (focus (intro ht; refine fine_none ?_ ht; (focus (first | (with_reducible apply only_idle); (focus decide) | (with_reducible apply only_turn); (focus rfl); (focus rfl); (focus kernel_rfl) | exact only_calc rfl rfl rfl | exact only_check rfl rfl)))); go_simp; refine hK _ _ _ ?_; clear hK K)
    | ((with_reducible refine lst_off (i := ?_) (b := ?_) (d := ?_) ?_ ?_ ?_ ?_); rotate_left 3; (focus with_reducible rfl); (focus rfl); (focus (simp only [List.getElem?_toArray, List.getElem?_cons_succ, List.getElem?_cons_zero, Bool.not_true, Bool.not_false])); simp only [Act.put, List.setIfInBounds_toArray, List.set_cons_zero, List.set_cons_succ])
    | ((with_reducible refine lst_on (i := ?_) (b := ?_) (d := ?_) ?_ ?_ ?_ ?_ (fun K hK => ?_)); rotate_left 3; (focus with_reducible rfl); (focus rfl); (focus (simp only [List.getElem?_toArray, List.getElem?_cons_succ, List.getElem?_cons_zero])); (focus (intro ht; refine fine_none ?_ ht; (focus (first | (with_reducible apply only_idle); (focus decide) | (with_reducible apply only_turn); (focus rfl); (focus rfl); (focus kernel_rfl) | exact only_calc rfl rfl rfl | exact only_check rfl rfl)))); go_simp; refine hK _ _ _ ?_; clear hK K)
    | (with_reducible apply lst_nil)
    | ((fail_if_success (with_reducible refine lst_any ?_)); first
    | (with_reducible apply j_seq) | (with_reducible apply j_block) | (with_reducible apply j_ret) | (with_reducible apply j_skip) | (with_reducible apply j_exit) | (with_reducible apply j_label) | (with_reducible apply j_region_lit)
    | ((with_reducible refine j_true ?_ ?_); (focus rfl)) | ((with_reducible refine j_false ?_ ?_); (focus rfl))
    | (with_reducible show Then _ _ _ _ _ _; simp only [Then])
    | (with_reducible show InBlock _ _ _ _ _ _; simp only [InBlock, ↓reduceIte, Nat.reduceEqDiff])))
  have mv2 : ∀ {v xs}, Us w B v xs → Us W2 B v xs := fun h => h.below (g1.mono hB)
  have mw2 : ∀ {v xs}, Us w B' v xs → Us W2 B' v xs := fun h => h.below (g1.mono hB')
  have fin : ∀ W5, (∀ v xs, Us W2 B v xs → Us W5 W5.heap.size v xs) → (∀ xs', Us W2 B' (.slice A xs.length c) xs' → Us W5 W5.heap.size (.slice A xs.length c) xs') → MemC W5 W5.heap.size { m with sl := xs } #[.int .u64 m.e, .int .u64 m.f, v2, v3, .int .u64 m.h, .int .u64 m.t, v6, v7, .slice A xs.length c] := fun W5 k1 k2 => ⟨_, _, _, _, _, rfl, k1 _ _ (mv2 h2), k1 _ _ (mv2 h3), k1 _ _ (mv2 h6), k1 _ _ (mv2 h7), k2 _ (mw2 hx)⟩
  exact body_run (.agg #[.int .u64 m.e, .int .u64 m.f, v2, v3, .int .u64 m.h, .int .u64 m.t, v6, v7, .slice A xs.length c]) rfl (by simp [results, go_sem, d1]) ⟨rfl, g1, _, rfl, fin W2 (fun _ _ h => h.more (Nat.le_trans hB g1.size)) (fun _ h => h.more (Nat.le_trans hB' g1.size)), fin, fun g ho hv => Off.set_ (k := 8) (v := .slice A xs.length c) (ho _ rfl) hv⟩

theorem with_ {B B' : Nat} {m : Mem} {v vs : Value} {a : Int} {xs : List Int} (hm : MemV w B m v) (hx : Us w B' vs xs) (hB : B ≤ w.heap.size) (hB' : B' ≤ w.heap.size) (hl : xs.length = (m.area a).length) (h0 : 0 < xs.length) :
    Jdo Try.prog X 38 #[v, .int .i64 a, vs] s w (WithPost s w B B' v vs (Mem.with_ m a xs)) := by
  have one : ∀ y : Int, xs.length = [y].length → ∃ x, xs = [x] := fun y hy => by
    match xs, hy with
    | [x], _ => exact ⟨x, rfl⟩
  have ha : a = 1 ∨ a = 2 ∨ a = 3 ∨ a = 4 ∨ a = 5 ∨ a = 6 ∨ a = 7 ∨ a = 8 ∨ a = 9 := by
    false_or_by_contra
    rename_i h
    simp only [not_or] at h
    have : (m.area a).length = 0 := by unfold Mem.area; simp [h]
    omega
  rcases ha with rfl | rfl | rfl | rfl | rfl | rfl | rfl | rfl | rfl
  · obtain ⟨x, rfl⟩ := one m.e hl
    exact with_1 hm hx hB hB'
  · obtain ⟨x, rfl⟩ := one m.f hl
    exact with_2 hm hx hB hB'
  · exact with_3 hm hx hB hB'
  · exact with_4 hm hx hB hB'
  · obtain ⟨x, rfl⟩ := one m.h hl
    exact with_5 hm hx hB hB'
  · obtain ⟨x, rfl⟩ := one m.t hl
    exact with_6 hm hx hB hB'
  · exact with_7 hm hx hB hB'
  · exact with_8 hm hx hB hB'
  · exact with_9 hm hx hB hB'
end
end Go.Proofs.Ytonhfgjofgbcdaa.Rf
