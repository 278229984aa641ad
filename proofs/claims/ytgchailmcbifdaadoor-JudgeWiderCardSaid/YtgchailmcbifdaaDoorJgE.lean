/- Package judge: a row without one of it; the rows that may be behind a Get. -/
import Derived.Test.YtgchailmcbifdaaDoorJgD
import Derived.Test.YtgchailmcbifdaaDoorJgP
namespace Go.Proofs.YtgchailmcbifdaaDoor.Jg
set_option linter.unusedSimpArgs false
set_option linter.unusedVariables false
set_option maxRecDepth 20000
open Go Go.Conc Go.RowKit Go.Proofs.YtgchailmcbifdaaDoor.Jay Go.Proofs.YtgchailmcbifdaaDoor.Pl
section
variable {γ : Type} {X : Turns γ} {s : γ} {w : World}
attribute [local go_sem] upon_value upon_skip

theorem Own.base {w : World} {B B' : Nat} {v : Value} {xs : List Int} (h : Own w B v xs) (hB : B' ≤ B) : Own w B' v xs := by
  obtain ⟨h1, ⟨h2, h3⟩ | ⟨g, cap, cur, h2, h3, h4⟩⟩ := h
  · exact ⟨h1, .inl ⟨h2, h3⟩⟩
  · exact ⟨h1, .inr ⟨g, cap, cur, h2, Nat.le_trans hB h3, h4⟩⟩
theorem Rw.below {w w' : World} {B : Nat} {v : Value} {xs : List Int} (h : Rw w B v xs) (hb : Below B w w') : Rw w' B v xs := Sl.below h hb
theorem Rw.more {w : World} {B B' : Nat} {v : Value} {xs : List Int} (h : Rw w B v xs) (hb : B ≤ B') : Rw w B' v xs := Sl.more h hb
theorem Rw.take {w : World} {B : Nat} {A : Option Addr} {n c : Nat} {xs : List Int} (h : Rw w B (.slice A n c) xs) {k : Nat} (hk : k ≤ n) : Rw w B (.slice A k c) (xs.take k) := by
  obtain ⟨h1, A', c', e, h2, h3, h4⟩ := h
  cases e
  refine ⟨by rw [R32_len]; omega, A, c, by rw [List.length_take, Nat.min_eq_left hk], by rw [List.length_take]; omega, h3, fun h5 => ?_⟩
  rw [List.length_take] at h5
  obtain ⟨b, o, e, hb, hc⟩ := h4 (by omega)
  refine ⟨b, o, e, hb, fun j u hu => hc j u ?_⟩
  unfold R32 at hu ⊢
  rw [List.map_take, List.getElem?_take] at hu
  split at hu
  · exact hu
  · cases hu
theorem Rw.drop {w : World} {B b o : Nat} {n c : Nat} {xs : List Int} (h : Rw w B (.slice (some ⟨b, o, none⟩) n c) xs) {k : Nat} (hk : k ≤ n) {A : Option Addr} (hA : k < n → A = some ⟨b, o + k, none⟩) : Rw w B (.slice A (n - k) (c - k)) (xs.drop k) := by
  obtain ⟨h1, A', c', e, h2, h3, h4⟩ := h
  cases e
  refine ⟨by rw [R32_len]; omega, A, c - k, by rw [List.length_drop], by rw [List.length_drop]; omega, by omega, fun h5 => ?_⟩
  rw [List.length_drop] at h5
  obtain ⟨b', o', e, hb, hc⟩ := h4 (by omega)
  cases e
  refine ⟨b, o + k, hA (by omega), hb, fun j u hu => ?_⟩
  rw [Nat.add_assoc]
  refine hc (k + j) u ?_
  unfold R32 at hu ⊢
  rw [List.map_drop, List.getElem?_drop] at hu
  exact hu

set_option maxHeartbeats 4000000 in
theorem without_ok {B : Nat} {v : Value} {xs : List Int} {k : Nat} (h : Rw w B v xs) (hB : B ≤ w.heap.size) (hk : k < xs.length) (hn : xs.length ≤ 400000) : Jdo Tryd.prog X 23 #[v, .int .i64 k] s w (OwnPost s w (without xs k)) := by
  refine Jdo.there fun ht => ?_
  obtain ⟨b, o, c, rfl, hb, hc1, hc2, hcell⟩ := Sl.row h (by omega)
  have wk : IntKind.i64.wrap ((k : Int) + 1) = ((k + 1 : Nat) : Int) := by simp [IntKind.wrap, IntKind.bits, IntKind.signed]; omega
  have k1 : k ≤ c := by omega
  have k2 : (k : Int) ≤ (c : Int) := by omega
  have k3 : k + 1 ≤ xs.length := by omega
  have k4 : (k : Int) + 1 ≤ (xs.length : Int) := by omega
  have k6 : (xs.length : Int) ≤ (c : Int) := by omega
  have k7 : (0 : Int) ≤ (k : Int) + 1 := by omega
  have k8 : ((k : Int) + 1).toNat = k + 1 := by omega
  have k9 : ¬ c = 0 := by omega
  by_cases kc : c = k + 1
  · subst kc
    have q1 : (k : Int) ≤ (k : Int) + 1 := by omega
    have q2 : k ≤ k + 1 := by omega
    have q3 : xs.length = k + 1 := by omega
    have q4 : ¬ (k + 1 = 0) := by omega
    have q5 : xs.length - (k + 1) = 0 := by omega
    have q6 : ¬ k = k + 1 := by omega
    clear k1 k2 k3 k4 k6 k9
    refine jdo_of Tryd.func23 rfl ?_
    simp only [Tryd.ntmps23, List.size_toArray, List.length_cons, List.length_nil, Nat.reduceAdd, Nat.reduceSub, Array.replicate_succ, Array.replicate_zero, List.push_toArray, List.append_toArray, List.nil_append, List.cons_append]
    repeat (first
      | ((with_reducible refine lst_free ?_ ?_ (fun K hK => ?_)); (focus with_reducible rfl); (focus (intro ht; refine fine_none ?_ ht; (focus (first | (with_reducible apply only_idle); (focus decide) | (with_reducible apply only_turn); (focus rfl); (focus rfl); (focus kernel_rfl) | exact only_calc rfl rfl rfl | exact only_check rfl rfl | exact only_cap rfl rfl | exact only_min rfl rfl rfl | exact only_max rfl rfl rfl)))); go_simp; refine hK _ _ _ ?_; clear hK K)
      | ((with_reducible refine lst_off (i := ?_) (b := ?_) (d := ?_) ?_ ?_ ?_ ?_); rotate_left 3; (focus with_reducible rfl); (focus rfl); (focus (simp only [List.getElem?_toArray, List.getElem?_cons_succ, List.getElem?_cons_zero, Bool.not_true, Bool.not_false])); simp only [Act.put, List.setIfInBounds_toArray, List.set_cons_zero, List.set_cons_succ])
      | ((with_reducible refine lst_on (i := ?_) (b := ?_) (d := ?_) ?_ ?_ ?_ ?_ (fun K hK => ?_)); rotate_left 3; (focus with_reducible rfl); (focus rfl); (focus (simp only [List.getElem?_toArray, List.getElem?_cons_succ, List.getElem?_cons_zero])); (focus (intro ht; refine fine_none ?_ ht; (focus (first | (with_reducible apply only_idle); (focus decide) | (with_reducible apply only_turn); (focus rfl); (focus rfl); (focus kernel_rfl) | exact only_calc rfl rfl rfl | exact only_check rfl rfl | exact only_cap rfl rfl | exact only_min rfl rfl rfl | exact only_max rfl rfl rfl)))); go_simp; refine hK _ _ _ ?_; clear hK K)
      | ((with_reducible refine lst_undef (i := ?_) (b := ?_) (d := ?_) ?_ ?_ ?_ ?_); rotate_left 3; (focus with_reducible rfl); (focus rfl); (focus (simp only [List.getElem?_toArray, List.getElem?_cons_succ, List.getElem?_cons_zero])); simp only [Act.put, List.setIfInBounds_toArray, List.set_cons_zero, List.set_cons_succ])
      | (with_reducible apply lst_nil)
      | ((fail_if_success (with_reducible refine lst_any ?_)); first
      | (with_reducible apply j_seq) | (with_reducible apply j_block) | (with_reducible apply j_ret) | (with_reducible apply j_skip) | (with_reducible apply j_exit) | (with_reducible apply j_label) | (with_reducible apply j_region_lit)
      | ((with_reducible refine j_true ?_ ?_); (focus rfl)) | ((with_reducible refine j_false ?_ ?_); (focus rfl))
      | (with_reducible show Then _ _ _ _ _ _; simp only [Then])
      | (with_reducible show InBlock _ _ _ _ _ _; simp only [InBlock, ↓reduceIte, Nat.reduceEqDiff])))
    refine j_region_dl [0, 0, 3, 0, 0, 16, 56, 127, 255, 511] [0, 1, 2, 3, 4, 5, 6, 7, 8, 9] (Below w.heap.size w) rfl (by decide +kernel) (by repeat (first | assumption | exact loose_body | (with_reducible apply loose_then) | (with_reducible apply loose_block) | (with_reducible apply loose_noGoto) | (with_reducible apply loose_jump))) ?_ ?_
    focus exact (Below.refl _ _).drew
    repeat (first
      | (with_reducible apply dl_nil)
      | ((with_reducible apply dl_skip); (focus rfl); (focus rfl); (focus (first | assumption | exact (Below.refl _ _).drew)); simp only [Act.put, List.setIfInBounds_toArray, List.set_cons_zero, List.set_cons_succ])
      | ((with_reducible apply dl_calm); (focus rfl); (focus rfl); (focus rfl); (focus (first | (with_reducible apply only_idle); (focus decide) | (with_reducible apply only_turn); (focus rfl); (focus rfl); (focus kernel_rfl) | exact only_calc rfl rfl rfl | exact only_check rfl rfl | exact only_cap rfl rfl | exact only_min rfl rfl rfl | exact only_max rfl rfl rfl)); (focus (intro wS hS; have hcS := fun p => Below.cell hS (p := p); go_simp; try rfl)); simp only [Act.put, List.setIfInBounds_toArray, List.set_cons_zero, List.set_cons_succ])
      | (with_reducible show Then _ _ _ _ _ _; simp only [Then])
      | (with_reducible show InBlock _ _ _ _ _ _; simp only [InBlock, ↓reduceIte, Nat.reduceEqDiff]))
    have r1 := h.take (k := k) (by omega)
    have r2 := h.drop (k := k + 1) (by omega) (A := some ⟨b, o, none⟩) (fun e => by omega)
    rw [q5, Nat.sub_self] at r2
    have len1 := List.length_take (i := k) (l := xs)
    have len2 := List.length_drop (i := k + 1) (l := xs)
    refine dl_act (o := ?_) ?_ ?_ ?_ ?_ (fun K hK => ?_)
    rotate_left 1
    focus rfl
    focus rfl
    focus rfl
    focus exact fun ht => fine_idle rfl ht
    go_simp
    refine hK _ _ _ ⟨Below w.heap.size w, ((Below.refl _ _).alloc (Nat.le_refl _) _).drew, fun _ => rfl, ?_⟩
    clear hK K
    have hb1 : Below w.heap.size w (w.alloc (.cells #[.slice (some ⟨b, o, none⟩) k (k + 1), .slice (some ⟨b, o, none⟩) 0 0] 38)).drew := ((Below.refl _ _).alloc (Nat.le_refl _) _).drew
    have hblk : Blk (w.alloc (.cells #[.slice (some ⟨b, o, none⟩) k (k + 1), .slice (some ⟨b, o, none⟩) 0 0] 38)).drew w.heap.size 38 #[.slice (some ⟨b, o, none⟩) k (k + 1), .slice (some ⟨b, o, none⟩) 0 0] := (Blk.new w _ _).drew
    generalize hW1 : (w.alloc (.cells #[.slice (some ⟨b, o, none⟩) k (k + 1), .slice (some ⟨b, o, none⟩) 0 0] 38)).drew = W1 at hb1 hblk ⊢
    refine dl_call (o := ?_) (args := ?_) (ats := ?_) _ ?_ ?_ ?_ ?_ Tryd.func29 ?_ rfl (concat2 hblk ((r1.below (hb1.mono hB)).more (Nat.le_trans hB hb1.size)) ((r2.below (hb1.mono hB)).more (Nat.le_trans hB hb1.size)) (by omega) (by omega)) ?_
    rotate_left 3
    focus rfl
    focus rfl
    focus rfl
    focus first | rfl | (go_simp; done) | (go_simp; rfl)
    focus rfl
    rintro s2 r W2 ⟨rfl, hb2, v2, rfl, own2⟩
    have hb3 := hb1.trans (hb2.mono hb1.size)
    refine ⟨_, hb3, fun _ => rfl, ?_⟩
    simp only [Act.put, List.setIfInBounds_toArray, List.set_cons_zero, List.set_cons_succ]
    repeat (first
      | (with_reducible apply dl_nil)
      | ((with_reducible apply dl_skip); (focus rfl); (focus rfl); (focus (first | assumption | exact (Below.refl _ _).drew)); simp only [Act.put, List.setIfInBounds_toArray, List.set_cons_zero, List.set_cons_succ])
      | ((with_reducible apply dl_calm); (focus rfl); (focus rfl); (focus rfl); (focus (first | (with_reducible apply only_idle); (focus decide) | (with_reducible apply only_turn); (focus rfl); (focus rfl); (focus kernel_rfl) | exact only_calc rfl rfl rfl | exact only_check rfl rfl | exact only_cap rfl rfl | exact only_min rfl rfl rfl | exact only_max rfl rfl rfl)); (focus (intro wS hS; have hcS := fun p => Below.cell hS (p := p); go_simp; try rfl)); simp only [Act.put, List.setIfInBounds_toArray, List.set_cons_zero, List.set_cons_succ])
      | (with_reducible show Then _ _ _ _ _ _; simp only [Then])
      | (with_reducible show InBlock _ _ _ _ _ _; simp only [InBlock, ↓reduceIte, Nat.reduceEqDiff]))
    repeat (first
      | ((with_reducible refine lst_free ?_ ?_ (fun K hK => ?_)); (focus with_reducible rfl); (focus (intro ht; refine fine_none ?_ ht; (focus (first | (with_reducible apply only_idle); (focus decide) | (with_reducible apply only_turn); (focus rfl); (focus rfl); (focus kernel_rfl) | exact only_calc rfl rfl rfl | exact only_check rfl rfl | exact only_cap rfl rfl | exact only_min rfl rfl rfl | exact only_max rfl rfl rfl)))); go_simp; refine hK _ _ _ ?_; clear hK K)
      | ((with_reducible refine lst_off (i := ?_) (b := ?_) (d := ?_) ?_ ?_ ?_ ?_); rotate_left 3; (focus with_reducible rfl); (focus rfl); (focus (simp only [List.getElem?_toArray, List.getElem?_cons_succ, List.getElem?_cons_zero, Bool.not_true, Bool.not_false])); simp only [Act.put, List.setIfInBounds_toArray, List.set_cons_zero, List.set_cons_succ])
      | ((with_reducible refine lst_on (i := ?_) (b := ?_) (d := ?_) ?_ ?_ ?_ ?_ (fun K hK => ?_)); rotate_left 3; (focus with_reducible rfl); (focus rfl); (focus (simp only [List.getElem?_toArray, List.getElem?_cons_succ, List.getElem?_cons_zero])); (focus (intro ht; refine fine_none ?_ ht; (focus (first | (with_reducible apply only_idle); (focus decide) | (with_reducible apply only_turn); (focus rfl); (focus rfl); (focus kernel_rfl) | exact only_calc rfl rfl rfl | exact only_check rfl rfl | exact only_cap rfl rfl | exact only_min rfl rfl rfl | exact only_max rfl rfl rfl)))); go_simp; refine hK _ _ _ ?_; clear hK K)
      | ((with_reducible refine lst_undef (i := ?_) (b := ?_) (d := ?_) ?_ ?_ ?_ ?_); rotate_left 3; (focus with_reducible rfl); (focus rfl); (focus (simp only [List.getElem?_toArray, List.getElem?_cons_succ, List.getElem?_cons_zero])); simp only [Act.put, List.setIfInBounds_toArray, List.set_cons_zero, List.set_cons_succ])
      | (with_reducible apply lst_nil)
      | ((fail_if_success (with_reducible refine lst_any ?_)); first
      | (with_reducible apply j_seq) | (with_reducible apply j_block) | (with_reducible apply j_ret) | (with_reducible apply j_skip) | (with_reducible apply j_exit) | (with_reducible apply j_label) | (with_reducible apply j_region_lit)
      | ((with_reducible refine j_true ?_ ?_); (focus rfl)) | ((with_reducible refine j_false ?_ ?_); (focus rfl))
      | (with_reducible show Then _ _ _ _ _ _; simp only [Then])
      | (with_reducible show InBlock _ _ _ _ _ _; simp only [InBlock, ↓reduceIte, Nat.reduceEqDiff])))
    exact body_ret1 rfl rfl ⟨rfl, hb3, v2, rfl, own2.base hb1.size⟩
  ·
    refine jdo_of Tryd.func23 rfl ?_
    simp only [Tryd.ntmps23, List.size_toArray, List.length_cons, List.length_nil, Nat.reduceAdd, Nat.reduceSub, Array.replicate_succ, Array.replicate_zero, List.push_toArray, List.append_toArray, List.nil_append, List.cons_append]
    repeat (first
      | ((with_reducible refine lst_free ?_ ?_ (fun K hK => ?_)); (focus with_reducible rfl); (focus (intro ht; refine fine_none ?_ ht; (focus (first | (with_reducible apply only_idle); (focus decide) | (with_reducible apply only_turn); (focus rfl); (focus rfl); (focus kernel_rfl) | exact only_calc rfl rfl rfl | exact only_check rfl rfl | exact only_cap rfl rfl | exact only_min rfl rfl rfl | exact only_max rfl rfl rfl)))); go_simp; refine hK _ _ _ ?_; clear hK K)
      | ((with_reducible refine lst_off (i := ?_) (b := ?_) (d := ?_) ?_ ?_ ?_ ?_); rotate_left 3; (focus with_reducible rfl); (focus rfl); (focus (simp only [List.getElem?_toArray, List.getElem?_cons_succ, List.getElem?_cons_zero, Bool.not_true, Bool.not_false])); simp only [Act.put, List.setIfInBounds_toArray, List.set_cons_zero, List.set_cons_succ])
      | ((with_reducible refine lst_on (i := ?_) (b := ?_) (d := ?_) ?_ ?_ ?_ ?_ (fun K hK => ?_)); rotate_left 3; (focus with_reducible rfl); (focus rfl); (focus (simp only [List.getElem?_toArray, List.getElem?_cons_succ, List.getElem?_cons_zero])); (focus (intro ht; refine fine_none ?_ ht; (focus (first | (with_reducible apply only_idle); (focus decide) | (with_reducible apply only_turn); (focus rfl); (focus rfl); (focus kernel_rfl) | exact only_calc rfl rfl rfl | exact only_check rfl rfl | exact only_cap rfl rfl | exact only_min rfl rfl rfl | exact only_max rfl rfl rfl)))); go_simp; refine hK _ _ _ ?_; clear hK K)
      | ((with_reducible refine lst_undef (i := ?_) (b := ?_) (d := ?_) ?_ ?_ ?_ ?_); rotate_left 3; (focus with_reducible rfl); (focus rfl); (focus (simp only [List.getElem?_toArray, List.getElem?_cons_succ, List.getElem?_cons_zero])); simp only [Act.put, List.setIfInBounds_toArray, List.set_cons_zero, List.set_cons_succ])
      | (with_reducible apply lst_nil)
      | ((fail_if_success (with_reducible refine lst_any ?_)); first
      | (with_reducible apply j_seq) | (with_reducible apply j_block) | (with_reducible apply j_ret) | (with_reducible apply j_skip) | (with_reducible apply j_exit) | (with_reducible apply j_label) | (with_reducible apply j_region_lit)
      | ((with_reducible refine j_true ?_ ?_); (focus rfl)) | ((with_reducible refine j_false ?_ ?_); (focus rfl))
      | (with_reducible show Then _ _ _ _ _ _; simp only [Then])
      | (with_reducible show InBlock _ _ _ _ _ _; simp only [InBlock, ↓reduceIte, Nat.reduceEqDiff])))
    refine j_region_dl [0, 0, 3, 0, 0, 16, 56, 127, 255, 511] [0, 1, 2, 3, 4, 5, 6, 7, 8, 9] (Below w.heap.size w) rfl (by decide +kernel) (by repeat (first | assumption | exact loose_body | (with_reducible apply loose_then) | (with_reducible apply loose_block) | (with_reducible apply loose_noGoto) | (with_reducible apply loose_jump))) ?_ ?_
    focus exact (Below.refl _ _).drew
    repeat (first
      | (with_reducible apply dl_nil)
      | ((with_reducible apply dl_skip); (focus rfl); (focus rfl); (focus (first | assumption | exact (Below.refl _ _).drew)); simp only [Act.put, List.setIfInBounds_toArray, List.set_cons_zero, List.set_cons_succ])
      | ((with_reducible apply dl_calm); (focus rfl); (focus rfl); (focus rfl); (focus (first | (with_reducible apply only_idle); (focus decide) | (with_reducible apply only_turn); (focus rfl); (focus rfl); (focus kernel_rfl) | exact only_calc rfl rfl rfl | exact only_check rfl rfl | exact only_cap rfl rfl | exact only_min rfl rfl rfl | exact only_max rfl rfl rfl)); (focus (intro wS hS; have hcS := fun p => Below.cell hS (p := p); go_simp; try rfl)); simp only [Act.put, List.setIfInBounds_toArray, List.set_cons_zero, List.set_cons_succ])
      | (with_reducible show Then _ _ _ _ _ _; simp only [Then])
      | (with_reducible show InBlock _ _ _ _ _ _; simp only [InBlock, ↓reduceIte, Nat.reduceEqDiff]))
    have r1 := h.take (k := k) (by omega)
    have r2 := h.drop (k := k + 1) (by omega) (A := some ⟨b, o + (k + 1), none⟩) (fun e => rfl)
    have len1 := List.length_take (i := k) (l := xs)
    have len2 := List.length_drop (i := k + 1) (l := xs)
    refine dl_act (o := ?_) ?_ ?_ ?_ ?_ (fun K hK => ?_)
    rotate_left 1
    focus rfl
    focus rfl
    focus rfl
    focus exact fun ht => fine_idle rfl ht
    go_simp
    refine hK _ _ _ ⟨Below w.heap.size w, ((Below.refl _ _).alloc (Nat.le_refl _) _).drew, fun _ => rfl, ?_⟩
    clear hK K
    have hb1 : Below w.heap.size w (w.alloc (.cells #[.slice (some ⟨b, o, none⟩) k c, .slice (some ⟨b, o + (k + 1), none⟩) (xs.length - (k + 1)) (c - (k + 1))] 38)).drew := ((Below.refl _ _).alloc (Nat.le_refl _) _).drew
    have hblk : Blk (w.alloc (.cells #[.slice (some ⟨b, o, none⟩) k c, .slice (some ⟨b, o + (k + 1), none⟩) (xs.length - (k + 1)) (c - (k + 1))] 38)).drew w.heap.size 38 #[.slice (some ⟨b, o, none⟩) k c, .slice (some ⟨b, o + (k + 1), none⟩) (xs.length - (k + 1)) (c - (k + 1))] := (Blk.new w _ _).drew
    generalize hW1 : (w.alloc (.cells #[.slice (some ⟨b, o, none⟩) k c, .slice (some ⟨b, o + (k + 1), none⟩) (xs.length - (k + 1)) (c - (k + 1))] 38)).drew = W1 at hb1 hblk ⊢
    refine dl_call (o := ?_) (args := ?_) (ats := ?_) _ ?_ ?_ ?_ ?_ Tryd.func29 ?_ rfl (concat2 hblk ((r1.below (hb1.mono hB)).more (Nat.le_trans hB hb1.size)) ((r2.below (hb1.mono hB)).more (Nat.le_trans hB hb1.size)) (by omega) (by omega)) ?_
    rotate_left 3
    focus rfl
    focus rfl
    focus rfl
    focus first | rfl | (go_simp; done) | (go_simp; rfl)
    focus rfl
    rintro s2 r W2 ⟨rfl, hb2, v2, rfl, own2⟩
    have hb3 := hb1.trans (hb2.mono hb1.size)
    refine ⟨_, hb3, fun _ => rfl, ?_⟩
    simp only [Act.put, List.setIfInBounds_toArray, List.set_cons_zero, List.set_cons_succ]
    repeat (first
      | (with_reducible apply dl_nil)
      | ((with_reducible apply dl_skip); (focus rfl); (focus rfl); (focus (first | assumption | exact (Below.refl _ _).drew)); simp only [Act.put, List.setIfInBounds_toArray, List.set_cons_zero, List.set_cons_succ])
      | ((with_reducible apply dl_calm); (focus rfl); (focus rfl); (focus rfl); (focus (first | (with_reducible apply only_idle); (focus decide) | (with_reducible apply only_turn); (focus rfl); (focus rfl); (focus kernel_rfl) | exact only_calc rfl rfl rfl | exact only_check rfl rfl | exact only_cap rfl rfl | exact only_min rfl rfl rfl | exact only_max rfl rfl rfl)); (focus (intro wS hS; have hcS := fun p => Below.cell hS (p := p); go_simp; try rfl)); simp only [Act.put, List.setIfInBounds_toArray, List.set_cons_zero, List.set_cons_succ])
      | (with_reducible show Then _ _ _ _ _ _; simp only [Then])
      | (with_reducible show InBlock _ _ _ _ _ _; simp only [InBlock, ↓reduceIte, Nat.reduceEqDiff]))
    repeat (first
      | ((with_reducible refine lst_free ?_ ?_ (fun K hK => ?_)); (focus with_reducible rfl); (focus (intro ht; refine fine_none ?_ ht; (focus (first | (with_reducible apply only_idle); (focus decide) | (with_reducible apply only_turn); (focus rfl); (focus rfl); (focus kernel_rfl) | exact only_calc rfl rfl rfl | exact only_check rfl rfl | exact only_cap rfl rfl | exact only_min rfl rfl rfl | exact only_max rfl rfl rfl)))); go_simp; refine hK _ _ _ ?_; clear hK K)
      | ((with_reducible refine lst_off (i := ?_) (b := ?_) (d := ?_) ?_ ?_ ?_ ?_); rotate_left 3; (focus with_reducible rfl); (focus rfl); (focus (simp only [List.getElem?_toArray, List.getElem?_cons_succ, List.getElem?_cons_zero, Bool.not_true, Bool.not_false])); simp only [Act.put, List.setIfInBounds_toArray, List.set_cons_zero, List.set_cons_succ])
      | ((with_reducible refine lst_on (i := ?_) (b := ?_) (d := ?_) ?_ ?_ ?_ ?_ (fun K hK => ?_)); rotate_left 3; (focus with_reducible rfl); (focus rfl); (focus (simp only [List.getElem?_toArray, List.getElem?_cons_succ, List.getElem?_cons_zero])); (focus (intro ht; refine fine_none ?_ ht; (focus (first | (with_reducible apply only_idle); (focus decide) | (with_reducible apply only_turn); (focus rfl); (focus rfl); (focus kernel_rfl) | exact only_calc rfl rfl rfl | exact only_check rfl rfl | exact only_cap rfl rfl | exact only_min rfl rfl rfl | exact only_max rfl rfl rfl)))); go_simp; refine hK _ _ _ ?_; clear hK K)
      | ((with_reducible refine lst_undef (i := ?_) (b := ?_) (d := ?_) ?_ ?_ ?_ ?_); rotate_left 3; (focus with_reducible rfl); (focus rfl); (focus (simp only [List.getElem?_toArray, List.getElem?_cons_succ, List.getElem?_cons_zero])); simp only [Act.put, List.setIfInBounds_toArray, List.set_cons_zero, List.set_cons_succ])
      | (with_reducible apply lst_nil)
      | ((fail_if_success (with_reducible refine lst_any ?_)); first
      | (with_reducible apply j_seq) | (with_reducible apply j_block) | (with_reducible apply j_ret) | (with_reducible apply j_skip) | (with_reducible apply j_exit) | (with_reducible apply j_label) | (with_reducible apply j_region_lit)
      | ((with_reducible refine j_true ?_ ?_); (focus rfl)) | ((with_reducible refine j_false ?_ ?_); (focus rfl))
      | (with_reducible show Then _ _ _ _ _ _; simp only [Then])
      | (with_reducible show InBlock _ _ _ _ _ _; simp only [InBlock, ↓reduceIte, Nat.reduceEqDiff])))
    exact body_ret1 rfl rfl ⟨rfl, hb3, v2, rfl, own2.base hb1.size⟩
end
end Go.Proofs.YtgchailmcbifdaaDoor.Jg
