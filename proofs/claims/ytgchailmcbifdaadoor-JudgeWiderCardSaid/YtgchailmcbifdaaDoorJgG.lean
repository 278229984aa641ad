/- Package judge: the rows that may be behind a call. -/
import Derived.Test.YtgchailmcbifdaaDoorJgF
namespace Go.Proofs.YtgchailmcbifdaaDoor.Jg
set_option linter.unusedSimpArgs false
set_option linter.unusedVariables false
set_option maxRecDepth 20000
open Go Go.Conc Go.RowKit Go.Proofs.YtgchailmcbifdaaDoor.Jay Go.Proofs.YtgchailmcbifdaaDoor.Pl
section
variable {γ : Type} {X : Turns γ} {s : γ} {w : World}
attribute [local go_sem] upon_value upon_skip

set_option maxHeartbeats 8000000 in
theorem behind_ok {k K T M : Int} {x : Cl} {v : Value} {xs : List Int} (h : Rw w w.heap.size v xs) (hn : xs.length ≤ 400000) (hK : 1 ≤ K ∧ K ≤ 64) (hk : (k == 2) = false) : Jdo Tryd.prog X 14 #[cfg k K T M, clV x, v] s w (RwsPost s w (behindL k K x xs)) := by
  refine Jdo.there fun ht => ?_
  have hoth : ∀ b, w.heap.size ≤ b → ¬ X.oth s b := fun b hb ho => by have := ht b ho; omega
  obtain ⟨A, c, rfl, hc1, hc2⟩ := h.form
  have hb2 : Below w.heap.size w ((w.alloc (.cells #[.int .i64 k, .int .i64 K, .int .i64 T, .int .i64 M] 23)).alloc (.cells #[.int .i64 (Cl.th x), .int .i64 (Cl.kind x), .int .u32 (Cl.val x), .int .i64 (Cl.fr x), .int .i64 (Cl.to x), .int .i64 (Cl.code x), .int .u32 (Cl.out x)] 32)) := (al_ ((al_ (Below.refl _ _) _)) _)
  unfold cfg clV
  cases e2 : (x.kind == 2)
  · have n2 : ¬ x.kind = 2 := by simpa using e2
    cases e3 : (x.kind == 3)
    · have n3 : ¬ x.kind = 3 := by simpa using e3
      cases e0 : (x.code == 0)
      · have n0 : ¬ x.code = 0 := by simpa using e0
        cases e4 : (x.code == 3)
        · cases e5 : (x.code == 4)
          · have n5 : ¬ x.code = 4 := by simpa using e5
            have hL : behindL k K x xs = [] := by unfold behindL; rw [if_neg n2, if_neg n3, if_neg n0, if_neg n5]
            rw [hL]
            clear n0 n2 n3 n5 hL
            refine jdo_of Tryd.func14 rfl ?_
            simp only [Tryd.ntmps14, List.size_toArray, List.length_cons, List.length_nil, Nat.reduceAdd, Nat.reduceSub, Array.replicate_succ, Array.replicate_zero, List.push_toArray, List.append_toArray, List.nil_append, List.cons_append]
            repeat (first
              | ((with_reducible refine lst_free ?_ ?_ (fun K hK => ?_)); (focus with_reducible rfl); (focus (intro ht; refine fine_none ?_ ht; (focus (first | (with_reducible apply only_idle); (focus decide) | (with_reducible apply only_turn); (focus rfl); (focus rfl); (focus kernel_rfl) | exact only_calc rfl rfl rfl | exact only_check rfl rfl | exact only_cap rfl rfl | exact only_min rfl rfl rfl | exact only_max rfl rfl rfl)))); go_simp; refine hK _ _ _ ?_; clear hK K)
              | ((with_reducible refine lst_off (i := ?_) (b := ?_) (d := ?_) ?_ ?_ ?_ ?_); rotate_left 3; (focus with_reducible rfl); (focus rfl); (focus (simp only [List.getElem?_toArray, List.getElem?_cons_succ, List.getElem?_cons_zero, Bool.not_true, Bool.not_false])); simp only [Act.put, List.setIfInBounds_toArray, List.set_cons_zero, List.set_cons_succ])
              | ((with_reducible refine lst_on (i := ?_) (b := ?_) (d := ?_) ?_ ?_ ?_ ?_ (fun K hK => ?_)); rotate_left 3; (focus with_reducible rfl); (focus rfl); (focus (simp only [List.getElem?_toArray, List.getElem?_cons_succ, List.getElem?_cons_zero])); (focus (intro ht; refine fine_none ?_ ht; (focus (first | (with_reducible apply only_idle); (focus decide) | (with_reducible apply only_turn); (focus rfl); (focus rfl); (focus kernel_rfl) | exact only_calc rfl rfl rfl | exact only_check rfl rfl | exact only_cap rfl rfl | exact only_min rfl rfl rfl | exact only_max rfl rfl rfl)))); go_simp; refine hK _ _ _ ?_; clear hK K)
              | ((with_reducible refine lst_undef (i := ?_) (b := ?_) (d := ?_) ?_ ?_ ?_ ?_); rotate_left 3; (focus with_reducible rfl); (focus rfl); (focus (simp only [List.getElem?_toArray, List.getElem?_cons_succ, List.getElem?_cons_zero])); simp only [Act.put, List.setIfInBounds_toArray, List.set_cons_zero, List.set_cons_succ])
              | (with_reducible apply lst_nil)
              | ((fail_if_success (with_reducible refine lst_any ?_)); first
              | (with_reducible apply j_seq) | (with_reducible apply j_block) | (with_reducible apply j_ret) | (with_reducible apply j_skip) | (with_reducible apply j_exit) | (with_reducible apply j_label) | (with_reducible apply j_region_lit)
              | ((with_reducible refine j_true ?_ ?_); (focus rfl)) | ((with_reducible refine j_false ?_ ?_); (focus rfl))
              | (with_reducible show Then _ _ _ _ _ _; simp only [Then])
              | (with_reducible show InBlock _ _ _ _ _ _; simp only [InBlock, ↓reduceIte, Nat.reduceEqDiff])))
            exact body_ret1 rfl rfl ⟨rfl, hb2, _, rfl, by exact Rws.nil _ _⟩
          · have n5 : x.code = 4 := by simpa using e5
            have hL : behindL k K x xs = [xs] := by unfold behindL; rw [if_neg n2, if_neg n3, if_neg n0, if_pos n5]
            rw [hL]
            clear n0 n2 n3 n5 hL
            refine jdo_of Tryd.func14 rfl ?_
            simp only [Tryd.ntmps14, List.size_toArray, List.length_cons, List.length_nil, Nat.reduceAdd, Nat.reduceSub, Array.replicate_succ, Array.replicate_zero, List.push_toArray, List.append_toArray, List.nil_append, List.cons_append]
            repeat (first
              | ((with_reducible refine lst_free ?_ ?_ (fun K hK => ?_)); (focus with_reducible rfl); (focus (intro ht; refine fine_none ?_ ht; (focus (first | (with_reducible apply only_idle); (focus decide) | (with_reducible apply only_turn); (focus rfl); (focus rfl); (focus kernel_rfl) | exact only_calc rfl rfl rfl | exact only_check rfl rfl | exact only_cap rfl rfl | exact only_min rfl rfl rfl | exact only_max rfl rfl rfl)))); go_simp; refine hK _ _ _ ?_; clear hK K)
              | ((with_reducible refine lst_off (i := ?_) (b := ?_) (d := ?_) ?_ ?_ ?_ ?_); rotate_left 3; (focus with_reducible rfl); (focus rfl); (focus (simp only [List.getElem?_toArray, List.getElem?_cons_succ, List.getElem?_cons_zero, Bool.not_true, Bool.not_false])); simp only [Act.put, List.setIfInBounds_toArray, List.set_cons_zero, List.set_cons_succ])
              | ((with_reducible refine lst_on (i := ?_) (b := ?_) (d := ?_) ?_ ?_ ?_ ?_ (fun K hK => ?_)); rotate_left 3; (focus with_reducible rfl); (focus rfl); (focus (simp only [List.getElem?_toArray, List.getElem?_cons_succ, List.getElem?_cons_zero])); (focus (intro ht; refine fine_none ?_ ht; (focus (first | (with_reducible apply only_idle); (focus decide) | (with_reducible apply only_turn); (focus rfl); (focus rfl); (focus kernel_rfl) | exact only_calc rfl rfl rfl | exact only_check rfl rfl | exact only_cap rfl rfl | exact only_min rfl rfl rfl | exact only_max rfl rfl rfl)))); go_simp; refine hK _ _ _ ?_; clear hK K)
              | ((with_reducible refine lst_undef (i := ?_) (b := ?_) (d := ?_) ?_ ?_ ?_ ?_); rotate_left 3; (focus with_reducible rfl); (focus rfl); (focus (simp only [List.getElem?_toArray, List.getElem?_cons_succ, List.getElem?_cons_zero])); simp only [Act.put, List.setIfInBounds_toArray, List.set_cons_zero, List.set_cons_succ])
              | (with_reducible apply lst_nil)
              | ((fail_if_success (with_reducible refine lst_any ?_)); first
              | (with_reducible apply j_seq) | (with_reducible apply j_block) | (with_reducible apply j_ret) | (with_reducible apply j_skip) | (with_reducible apply j_exit) | (with_reducible apply j_label) | (with_reducible apply j_region_lit)
              | ((with_reducible refine j_true ?_ ?_); (focus rfl)) | ((with_reducible refine j_false ?_ ?_); (focus rfl))
              | (with_reducible show Then _ _ _ _ _ _; simp only [Then])
              | (with_reducible show InBlock _ _ _ _ _ _; simp only [InBlock, ↓reduceIte, Nat.reduceEqDiff])))
            refine lst_one (one_append_row (.tmp 77) (.tmp 79) rfl rfl (B := w.heap.size) (rows := []) rfl (Rws.nil _ _) (fun g e => by cases e) rfl (Blk.new2 _ _ _ _ _) ((h.below ((al_ hb2 _))).more ((al_ hb2 _)).size) (fun _ b hb' e => by cases e) (by decide) ((al_ hb2 _)).size ?_)
            intro V' W6 hV6 gr6
            have hb6 : Below w.heap.size w W6 := ((al_ hb2 _)).grown gr6 ((al_ hb2 _)).size (fun b hb' => by cases hb')
            simp only [Act.put, List.setIfInBounds_toArray, List.set_cons_zero, List.set_cons_succ]
            repeat (first
              | ((with_reducible refine lst_free ?_ ?_ (fun K hK => ?_)); (focus with_reducible rfl); (focus (intro ht; refine fine_none ?_ ht; (focus (first | (with_reducible apply only_idle); (focus decide) | (with_reducible apply only_turn); (focus rfl); (focus rfl); (focus kernel_rfl) | exact only_calc rfl rfl rfl | exact only_check rfl rfl | exact only_cap rfl rfl | exact only_min rfl rfl rfl | exact only_max rfl rfl rfl)))); go_simp; refine hK _ _ _ ?_; clear hK K)
              | ((with_reducible refine lst_off (i := ?_) (b := ?_) (d := ?_) ?_ ?_ ?_ ?_); rotate_left 3; (focus with_reducible rfl); (focus rfl); (focus (simp only [List.getElem?_toArray, List.getElem?_cons_succ, List.getElem?_cons_zero, Bool.not_true, Bool.not_false])); simp only [Act.put, List.setIfInBounds_toArray, List.set_cons_zero, List.set_cons_succ])
              | ((with_reducible refine lst_on (i := ?_) (b := ?_) (d := ?_) ?_ ?_ ?_ ?_ (fun K hK => ?_)); rotate_left 3; (focus with_reducible rfl); (focus rfl); (focus (simp only [List.getElem?_toArray, List.getElem?_cons_succ, List.getElem?_cons_zero])); (focus (intro ht; refine fine_none ?_ ht; (focus (first | (with_reducible apply only_idle); (focus decide) | (with_reducible apply only_turn); (focus rfl); (focus rfl); (focus kernel_rfl) | exact only_calc rfl rfl rfl | exact only_check rfl rfl | exact only_cap rfl rfl | exact only_min rfl rfl rfl | exact only_max rfl rfl rfl)))); go_simp; refine hK _ _ _ ?_; clear hK K)
              | ((with_reducible refine lst_undef (i := ?_) (b := ?_) (d := ?_) ?_ ?_ ?_ ?_); rotate_left 3; (focus with_reducible rfl); (focus rfl); (focus (simp only [List.getElem?_toArray, List.getElem?_cons_succ, List.getElem?_cons_zero])); simp only [Act.put, List.setIfInBounds_toArray, List.set_cons_zero, List.set_cons_succ])
              | (with_reducible apply lst_nil)
              | ((fail_if_success (with_reducible refine lst_any ?_)); first
              | (with_reducible apply j_seq) | (with_reducible apply j_block) | (with_reducible apply j_ret) | (with_reducible apply j_skip) | (with_reducible apply j_exit) | (with_reducible apply j_label) | (with_reducible apply j_region_lit)
              | ((with_reducible refine j_true ?_ ?_); (focus rfl)) | ((with_reducible refine j_false ?_ ?_); (focus rfl))
              | (with_reducible show Then _ _ _ _ _ _; simp only [Then])
              | (with_reducible show InBlock _ _ _ _ _ _; simp only [InBlock, ↓reduceIte, Nat.reduceEqDiff])))
            exact body_ret1 rfl rfl ⟨rfl, hb6, V', rfl, by exact hV6⟩
        · have n4 : ¬ x.code = 4 := by have : x.code = 3 := by simpa using e4
                                       omega
          have hL : behindL k K x xs = [] := by unfold behindL; rw [if_neg n2, if_neg n3, if_neg n0, if_neg n4]
          rw [hL]
          clear n0 n2 n3 n4 hL
          refine jdo_of Tryd.func14 rfl ?_
          simp only [Tryd.ntmps14, List.size_toArray, List.length_cons, List.length_nil, Nat.reduceAdd, Nat.reduceSub, Array.replicate_succ, Array.replicate_zero, List.push_toArray, List.append_toArray, List.nil_append, List.cons_append]
          repeat (first
            | ((with_reducible refine lst_free ?_ ?_ (fun K hK => ?_)); (focus with_reducible rfl); (focus (intro ht; refine fine_none ?_ ht; (focus (first | (with_reducible apply only_idle); (focus decide) | (with_reducible apply only_turn); (focus rfl); (focus rfl); (focus kernel_rfl) | exact only_calc rfl rfl rfl | exact only_check rfl rfl | exact only_cap rfl rfl | exact only_min rfl rfl rfl | exact only_max rfl rfl rfl)))); go_simp; refine hK _ _ _ ?_; clear hK K)
            | ((with_reducible refine lst_off (i := ?_) (b := ?_) (d := ?_) ?_ ?_ ?_ ?_); rotate_left 3; (focus with_reducible rfl); (focus rfl); (focus (simp only [List.getElem?_toArray, List.getElem?_cons_succ, List.getElem?_cons_zero, Bool.not_true, Bool.not_false])); simp only [Act.put, List.setIfInBounds_toArray, List.set_cons_zero, List.set_cons_succ])
            | ((with_reducible refine lst_on (i := ?_) (b := ?_) (d := ?_) ?_ ?_ ?_ ?_ (fun K hK => ?_)); rotate_left 3; (focus with_reducible rfl); (focus rfl); (focus (simp only [List.getElem?_toArray, List.getElem?_cons_succ, List.getElem?_cons_zero])); (focus (intro ht; refine fine_none ?_ ht; (focus (first | (with_reducible apply only_idle); (focus decide) | (with_reducible apply only_turn); (focus rfl); (focus rfl); (focus kernel_rfl) | exact only_calc rfl rfl rfl | exact only_check rfl rfl | exact only_cap rfl rfl | exact only_min rfl rfl rfl | exact only_max rfl rfl rfl)))); go_simp; refine hK _ _ _ ?_; clear hK K)
            | ((with_reducible refine lst_undef (i := ?_) (b := ?_) (d := ?_) ?_ ?_ ?_ ?_); rotate_left 3; (focus with_reducible rfl); (focus rfl); (focus (simp only [List.getElem?_toArray, List.getElem?_cons_succ, List.getElem?_cons_zero])); simp only [Act.put, List.setIfInBounds_toArray, List.set_cons_zero, List.set_cons_succ])
            | (with_reducible apply lst_nil)
            | ((fail_if_success (with_reducible refine lst_any ?_)); first
            | (with_reducible apply j_seq) | (with_reducible apply j_block) | (with_reducible apply j_ret) | (with_reducible apply j_skip) | (with_reducible apply j_exit) | (with_reducible apply j_label) | (with_reducible apply j_region_lit)
            | ((with_reducible refine j_true ?_ ?_); (focus rfl)) | ((with_reducible refine j_false ?_ ?_); (focus rfl))
            | (with_reducible show Then _ _ _ _ _ _; simp only [Then])
            | (with_reducible show InBlock _ _ _ _ _ _; simp only [InBlock, ↓reduceIte, Nat.reduceEqDiff])))
          exact body_ret1 rfl rfl ⟨rfl, hb2, _, rfl, by exact Rws.nil _ _⟩
      · have n0 : x.code = 0 := by simpa using e0
        have hL : behindL k K x xs = [xs ++ [x.val]] := by unfold behindL; rw [if_neg n2, if_neg n3, if_pos n0]
        rw [hL]
        clear n0 n2 n3 hL
        refine jdo_of Tryd.func14 rfl ?_
        simp only [Tryd.ntmps14, List.size_toArray, List.length_cons, List.length_nil, Nat.reduceAdd, Nat.reduceSub, Array.replicate_succ, Array.replicate_zero, List.push_toArray, List.append_toArray, List.nil_append, List.cons_append]
        repeat (first
          | ((with_reducible refine lst_free ?_ ?_ (fun K hK => ?_)); (focus with_reducible rfl); (focus (intro ht; refine fine_none ?_ ht; (focus (first | (with_reducible apply only_idle); (focus decide) | (with_reducible apply only_turn); (focus rfl); (focus rfl); (focus kernel_rfl) | exact only_calc rfl rfl rfl | exact only_check rfl rfl | exact only_cap rfl rfl | exact only_min rfl rfl rfl | exact only_max rfl rfl rfl)))); go_simp; refine hK _ _ _ ?_; clear hK K)
          | ((with_reducible refine lst_off (i := ?_) (b := ?_) (d := ?_) ?_ ?_ ?_ ?_); rotate_left 3; (focus with_reducible rfl); (focus rfl); (focus (simp only [List.getElem?_toArray, List.getElem?_cons_succ, List.getElem?_cons_zero, Bool.not_true, Bool.not_false])); simp only [Act.put, List.setIfInBounds_toArray, List.set_cons_zero, List.set_cons_succ])
          | ((with_reducible refine lst_on (i := ?_) (b := ?_) (d := ?_) ?_ ?_ ?_ ?_ (fun K hK => ?_)); rotate_left 3; (focus with_reducible rfl); (focus rfl); (focus (simp only [List.getElem?_toArray, List.getElem?_cons_succ, List.getElem?_cons_zero])); (focus (intro ht; refine fine_none ?_ ht; (focus (first | (with_reducible apply only_idle); (focus decide) | (with_reducible apply only_turn); (focus rfl); (focus rfl); (focus kernel_rfl) | exact only_calc rfl rfl rfl | exact only_check rfl rfl | exact only_cap rfl rfl | exact only_min rfl rfl rfl | exact only_max rfl rfl rfl)))); go_simp; refine hK _ _ _ ?_; clear hK K)
          | ((with_reducible refine lst_undef (i := ?_) (b := ?_) (d := ?_) ?_ ?_ ?_ ?_); rotate_left 3; (focus with_reducible rfl); (focus rfl); (focus (simp only [List.getElem?_toArray, List.getElem?_cons_succ, List.getElem?_cons_zero])); simp only [Act.put, List.setIfInBounds_toArray, List.set_cons_zero, List.set_cons_succ])
          | (with_reducible apply lst_nil)
          | ((fail_if_success (with_reducible refine lst_any ?_)); first
          | (with_reducible apply j_seq) | (with_reducible apply j_block) | (with_reducible apply j_ret) | (with_reducible apply j_skip) | (with_reducible apply j_exit) | (with_reducible apply j_label) | (with_reducible apply j_region_lit)
          | ((with_reducible refine j_true ?_ ?_); (focus rfl)) | ((with_reducible refine j_false ?_ ?_); (focus rfl))
          | (with_reducible show Then _ _ _ _ _ _; simp only [Then])
          | (with_reducible show InBlock _ _ _ _ _ _; simp only [InBlock, ↓reduceIte, Nat.reduceEqDiff])))
        have bk := (Blk.new w 23 #[.int .i64 k, .int .i64 K, .int .i64 T, .int .i64 M]).alloc (.cells #[.int .i64 (Cl.th x), .int .i64 (Cl.kind x), .int .u32 (Cl.val x), .int .i64 (Cl.fr x), .int .i64 (Cl.to x), .int .i64 (Cl.code x), .int .u32 (Cl.out x)] 32)
        have bx := Blk.new1 w (.cells #[.int .i64 k, .int .i64 K, .int .i64 T, .int .i64 M] 23) 32 #[.int .i64 (Cl.th x), .int .i64 (Cl.kind x), .int .u32 (Cl.val x), .int .i64 (Cl.fr x), .int .i64 (Cl.to x), .int .i64 (Cl.code x), .int .u32 (Cl.out x)]
        generalize hW : (w.alloc (.cells #[.int .i64 k, .int .i64 K, .int .i64 T, .int .i64 M] 23)).alloc (.cells #[.int .i64 (Cl.th x), .int .i64 (Cl.kind x), .int .u32 (Cl.val x), .int .i64 (Cl.fr x), .int .i64 (Cl.to x), .int .i64 (Cl.code x), .int .u32 (Cl.out x)] 32) = W at bk bx hb2 ⊢
        have d3 := bk.cell
        have d4 := bx.cell
        have l3 := bk.lt
        have l4 := bx.lt
        refine j_region_dls [0, 0, 2, 0, 8, 24, 62, 126, 255, 511] [2, 5] [(2, [0, 1, 3, 4, 2, 5, 6, 7, 8, 9]), (5, [0, 1, 3, 4, 5, 2, 6, 7, 8, 9])] (Below W.heap.size W) rfl (by decide +kernel) (by repeat (first | assumption | exact loose_body | (with_reducible apply loose_then) | (with_reducible apply loose_block) | (with_reducible apply loose_noGoto) | (with_reducible apply loose_jump))) ?_ ?_
        focus exact (Below.refl _ _).drew
        intro p hp
        simp only [List.mem_cons, List.not_mem_nil, or_false] at hp
        rcases hp with rfl | rfl
        · repeat (first | (with_reducible apply dl_nil) | ((with_reducible apply dl_skip); (focus rfl); (focus rfl); (focus (first | assumption | exact (Below.refl _ _).drew)); simp only [Act.put, List.setIfInBounds_toArray, List.set_cons_zero, List.set_cons_succ]) | ((with_reducible apply dl_calm); (focus rfl); (focus rfl); (focus rfl); (focus (first | (with_reducible apply only_idle); (focus decide) | (with_reducible apply only_turn); (focus rfl); (focus rfl); (focus kernel_rfl) | exact only_calc rfl rfl rfl | exact only_check rfl rfl | exact only_cap rfl rfl | exact only_min rfl rfl rfl | exact only_max rfl rfl rfl)); (focus (intro wS hS; have hcS := fun p => Below.cell hS (p := p); go_simp; try rfl)); simp only [Act.put, List.setIfInBounds_toArray, List.set_cons_zero, List.set_cons_succ]) | (with_reducible show Then _ _ _ _ _ _; simp only [Then]) | (with_reducible show InBlock _ _ _ _ _ _; simp only [InBlock, ↓reduceIte, Nat.reduceEqDiff]))
          refine dl_call (o := ?_) (args := ?_) (ats := ?_) _ ?_ ?_ ?_ ?_ Tryd.func20 ?_ rfl (clone (B := w.heap.size) (h.below hb2.drew) hb2.drew.size (by omega)) ?_
          rotate_left 3
          focus rfl
          focus rfl
          focus rfl
          focus first | rfl | (go_simp; done) | (go_simp; rfl)
          focus rfl
          rintro s3 r W2 ⟨rfl, hb3, v2, rfl, own2⟩
          have hb4' : Below W.heap.size W W2 := (Below.refl _ _).drew.trans hb3
          refine ⟨_, hb4', fun _ => rfl, ?_⟩
          simp only [Act.put, List.setIfInBounds_toArray, List.set_cons_zero, List.set_cons_succ]
          refine dl_act (o := ?_) ?_ ?_ ?_ ?_ (fun K hK => ?_)
          rotate_left 1
          focus rfl
          focus rfl
          focus rfl
          focus exact fun ht => fine_idle rfl ht
          go_simp
          have hb4 := hb4'.alloc hb4'.size (.cells #[.int .u32 x.val] 30)
          refine hK _ _ _ ⟨_, hb4, fun _ => rfl, ?_⟩
          clear hK K
          have hg := Blk.new W2 30 #[.int .u32 x.val]
          have own3 : Own (W2.alloc (.cells #[.int .u32 x.val] 30)) W.heap.size v2 xs := own_alloc own2 _
          refine dl_do (o := ?_) ?_ ?_ ?_
          rotate_left 1
          focus rfl
          focus rfl
          refine one_append_any (.tmp 47) (.tmp 50) 38 rfl rfl W.heap.size 30 (.int .u32 0) 1 4 under_u32s info_u32 rfl (by decide) v2 xs.length (R32 xs) rfl own3 (fun b hb' => hoth b (Nat.le_trans hb2.size (own3.ge hb'))) _ ((W2.alloc (.cells #[.int .u32 x.val] 30))).heap.size 1 (R32 [x.val]) rfl (Sl.of_blk (n := 1) (size := 1) (c := 1) hg (by simp) (Nat.le_refl _) (by unfold maxLen; omega) hg.lt) (R32_one _) (by unfold maxLen; omega) (by omega) hb4.size ?_
          intro v4 W4 own4 gr4 hv4
          have own5 : Own W4 W.heap.size v4 (xs ++ [x.val]) := by unfold Own; rw [List.length_append, show R32 (xs ++ [x.val]) = R32 xs ++ R32 [x.val] from List.map_append]; exact own4
          have hb5 : Below W.heap.size W W4 := hb4.grown gr4 hb4.size (fun b hb' => own3.ge hb')
          refine ⟨_, hb5, fun _ => rfl, ?_⟩
          simp only [Act.put, List.setIfInBounds_toArray, List.set_cons_zero, List.set_cons_succ]
          obtain ⟨A4, c4, rfl, -, -⟩ := own5.rw.form
          have e5 : (xs ++ [x.val]).length = xs.length + 1 := by simp
          have r5 := own5.rw
          rw [e5] at r5
          refine dl_act (o := ?_) ?_ ?_ ?_ ?_ (fun K hK => ?_)
          rotate_left 1
          focus rfl
          focus rfl
          focus rfl
          focus exact fun ht => fine_idle rfl ht
          go_simp
          refine hK _ _ _ ⟨_, hb5.alloc hb5.size _, fun _ => rfl, ?_⟩
          clear hK K
          refine dl_do (o := ?_) ?_ ?_ ?_
          rotate_left 1
          focus rfl
          focus rfl
          refine one_append_row (.tmp 45) (.tmp 52) rfl rfl (B := w.heap.size) (rows := []) rfl (Rws.nil _ _) (fun g e => by cases e) rfl (Blk.new W4 _ _) ((r5.below ((al_ (Below.refl _ _) _))).more ((al_ (Below.refl _ _) _)).size) (fun _ b hb' e => by cases e) (by decide) (by have := hb5.size; have := hb2.size; simp; omega) ?_
          intro V' W6 hV6 gr6
          have hb6 : Below W.heap.size W W6 := (hb5.alloc hb5.size _).grown gr6 (by have := hb5.size; simp; omega) (fun b hb' => by cases hb')
          refine ⟨_, hb6, fun _ => rfl, ?_⟩
          simp only [Act.put, List.setIfInBounds_toArray, List.set_cons_zero, List.set_cons_succ]
          repeat (first
            | (with_reducible apply dl_nil)
            | ((with_reducible apply dl_skip); (focus rfl); (focus rfl); (focus (first | assumption | exact (Below.refl _ _).drew)); simp only [Act.put, List.setIfInBounds_toArray, List.set_cons_zero, List.set_cons_succ])
            | ((with_reducible apply dl_calm); (focus rfl); (focus rfl); (focus rfl); (focus (first | (with_reducible apply only_idle); (focus decide) | (with_reducible apply only_turn); (focus rfl); (focus rfl); (focus kernel_rfl) | exact only_calc rfl rfl rfl | exact only_check rfl rfl | exact only_cap rfl rfl | exact only_min rfl rfl rfl | exact only_max rfl rfl rfl)); (focus (intro wS hS; have hcS := fun p => Below.cell hS (p := p); go_simp; try rfl)); simp only [Act.put, List.setIfInBounds_toArray, List.set_cons_zero, List.set_cons_succ])
            | (with_reducible show Then _ _ _ _ _ _; simp only [Then])
            | (with_reducible show InBlock _ _ _ _ _ _; simp only [InBlock, ↓reduceIte, Nat.reduceEqDiff]))
          repeat (first
            | ((with_reducible refine lst_free ?_ ?_ (fun K hK => ?_)); (focus with_reducible rfl); (focus (intro ht; refine fine_none ?_ ht; (focus (first | (with_reducible apply only_idle); (focus decide) | (with_reducible apply only_turn); (focus rfl); (focus rfl); (focus kernel_rfl) | exact only_calc rfl rfl rfl | exact only_check rfl rfl | exact only_cap rfl rfl | exact only_min rfl rfl rfl | exact only_max rfl rfl rfl)))); go_simp; refine hK _ _ _ ?_; clear hK K)
            | ((with_reducible refine lst_off (i := ?_) (b := ?_) (d := ?_) ?_ ?_ ?_ ?_); rotate_left 3; (focus with_reducible rfl); (focus rfl); (focus (simp only [List.getElem?_toArray, List.getElem?_cons_succ, List.getElem?_cons_zero, Bool.not_true, Bool.not_false])); simp only [Act.put, List.setIfInBounds_toArray, List.set_cons_zero, List.set_cons_succ])
            | ((with_reducible refine lst_on (i := ?_) (b := ?_) (d := ?_) ?_ ?_ ?_ ?_ (fun K hK => ?_)); rotate_left 3; (focus with_reducible rfl); (focus rfl); (focus (simp only [List.getElem?_toArray, List.getElem?_cons_succ, List.getElem?_cons_zero])); (focus (intro ht; refine fine_none ?_ ht; (focus (first | (with_reducible apply only_idle); (focus decide) | (with_reducible apply only_turn); (focus rfl); (focus rfl); (focus kernel_rfl) | exact only_calc rfl rfl rfl | exact only_check rfl rfl | exact only_cap rfl rfl | exact only_min rfl rfl rfl | exact only_max rfl rfl rfl)))); go_simp; refine hK _ _ _ ?_; clear hK K)
            | ((with_reducible refine lst_undef (i := ?_) (b := ?_) (d := ?_) ?_ ?_ ?_ ?_); rotate_left 3; (focus with_reducible rfl); (focus rfl); (focus (simp only [List.getElem?_toArray, List.getElem?_cons_succ, List.getElem?_cons_zero])); simp only [Act.put, List.setIfInBounds_toArray, List.set_cons_zero, List.set_cons_succ])
            | (with_reducible apply lst_nil)
            | ((fail_if_success (with_reducible refine lst_any ?_)); first
            | (with_reducible apply j_seq) | (with_reducible apply j_block) | (with_reducible apply j_ret) | (with_reducible apply j_skip) | (with_reducible apply j_exit) | (with_reducible apply j_label) | (with_reducible apply j_region_lit)
            | ((with_reducible refine j_true ?_ ?_); (focus rfl)) | ((with_reducible refine j_false ?_ ?_); (focus rfl))
            | (with_reducible show Then _ _ _ _ _ _; simp only [Then])
            | (with_reducible show InBlock _ _ _ _ _ _; simp only [InBlock, ↓reduceIte, Nat.reduceEqDiff])))
          exact body_ret1 rfl rfl ⟨rfl, hb2.trans (hb6.mono hb2.size), V', rfl, by exact hV6⟩
        · repeat (first | (with_reducible apply dl_nil) | ((with_reducible apply dl_skip); (focus rfl); (focus rfl); (focus (first | assumption | exact (Below.refl _ _).drew)); simp only [Act.put, List.setIfInBounds_toArray, List.set_cons_zero, List.set_cons_succ]) | ((with_reducible apply dl_calm); (focus rfl); (focus rfl); (focus rfl); (focus (first | (with_reducible apply only_idle); (focus decide) | (with_reducible apply only_turn); (focus rfl); (focus rfl); (focus kernel_rfl) | exact only_calc rfl rfl rfl | exact only_check rfl rfl | exact only_cap rfl rfl | exact only_min rfl rfl rfl | exact only_max rfl rfl rfl)); (focus (intro wS hS; have hcS := fun p => Below.cell hS (p := p); go_simp; try rfl)); simp only [Act.put, List.setIfInBounds_toArray, List.set_cons_zero, List.set_cons_succ]) | (with_reducible show Then _ _ _ _ _ _; simp only [Then]) | (with_reducible show InBlock _ _ _ _ _ _; simp only [InBlock, ↓reduceIte, Nat.reduceEqDiff]))
          refine dl_act (o := ?_) ?_ ?_ ?_ ?_ (fun K hK => ?_)
          rotate_left 1
          focus rfl
          focus rfl
          focus rfl
          focus exact fun ht => fine_idle rfl ht
          go_simp
          have hb3' : Below W.heap.size W (W.alloc (.cells #[.int .u32 x.val] 30)).drew := ((al_ (Below.refl _ _) _)).drew
          refine hK _ _ _ ⟨_, hb3', fun _ => rfl, ?_⟩
          clear hK K
          have hg0 : Blk (W.alloc (.cells #[.int .u32 x.val] 30)).drew W.heap.size 30 #[.int .u32 x.val] := (Blk.new W _ _).drew
          generalize hW3 : (W.alloc (.cells #[.int .u32 x.val] 30)).drew = W3 at hb3' hg0 ⊢
          refine dl_call (o := ?_) (args := ?_) (ats := ?_) _ ?_ ?_ ?_ ?_ Tryd.func20 ?_ rfl (clone (B := w.heap.size) (h.below (hb2.trans (hb3'.mono hb2.size))) (hb2.trans (hb3'.mono hb2.size)).size (by omega)) ?_
          rotate_left 3
          focus rfl
          focus rfl
          focus rfl
          focus first | rfl | (go_simp; done) | (go_simp; rfl)
          focus rfl
          rintro s3 r W2 ⟨rfl, hb3, v2, rfl, own2⟩
          have hb4 : Below W.heap.size W W2 := hb3'.trans (hb3.mono hb3'.size)
          refine ⟨_, hb4, fun _ => rfl, ?_⟩
          simp only [Act.put, List.setIfInBounds_toArray, List.set_cons_zero, List.set_cons_succ]
          have hg := hg0.below hb3 hg0.lt
          have own3 : Own W2 W.heap.size v2 xs := own2.base hb3'.size
          refine dl_do (o := ?_) ?_ ?_ ?_
          rotate_left 1
          focus rfl
          focus rfl
          refine one_append_any (.tmp 47) (.tmp 50) 38 rfl rfl W.heap.size 30 (.int .u32 0) 1 4 under_u32s info_u32 rfl (by decide) v2 xs.length (R32 xs) rfl own3 (fun b hb' => hoth b (Nat.le_trans hb2.size (own3.ge hb'))) _ (W2).heap.size 1 (R32 [x.val]) rfl (Sl.of_blk (n := 1) (size := 1) (c := 1) hg (by simp) (Nat.le_refl _) (by unfold maxLen; omega) hg.lt) (R32_one _) (by unfold maxLen; omega) (by omega) hb4.size ?_
          intro v4 W4 own4 gr4 hv4
          have own5 : Own W4 W.heap.size v4 (xs ++ [x.val]) := by unfold Own; rw [List.length_append, show R32 (xs ++ [x.val]) = R32 xs ++ R32 [x.val] from List.map_append]; exact own4
          have hb5 : Below W.heap.size W W4 := hb4.grown gr4 hb4.size (fun b hb' => own3.ge hb')
          refine ⟨_, hb5, fun _ => rfl, ?_⟩
          simp only [Act.put, List.setIfInBounds_toArray, List.set_cons_zero, List.set_cons_succ]
          obtain ⟨A4, c4, rfl, -, -⟩ := own5.rw.form
          have e5 : (xs ++ [x.val]).length = xs.length + 1 := by simp
          have r5 := own5.rw
          rw [e5] at r5
          refine dl_act (o := ?_) ?_ ?_ ?_ ?_ (fun K hK => ?_)
          rotate_left 1
          focus rfl
          focus rfl
          focus rfl
          focus exact fun ht => fine_idle rfl ht
          go_simp
          refine hK _ _ _ ⟨_, hb5.alloc hb5.size _, fun _ => rfl, ?_⟩
          clear hK K
          refine dl_do (o := ?_) ?_ ?_ ?_
          rotate_left 1
          focus rfl
          focus rfl
          refine one_append_row (.tmp 45) (.tmp 52) rfl rfl (B := w.heap.size) (rows := []) rfl (Rws.nil _ _) (fun g e => by cases e) rfl (Blk.new W4 _ _) ((r5.below ((al_ (Below.refl _ _) _))).more ((al_ (Below.refl _ _) _)).size) (fun _ b hb' e => by cases e) (by decide) (by have := hb5.size; have := hb2.size; simp; omega) ?_
          intro V' W6 hV6 gr6
          have hb6 : Below W.heap.size W W6 := (hb5.alloc hb5.size _).grown gr6 (by have := hb5.size; simp; omega) (fun b hb' => by cases hb')
          refine ⟨_, hb6, fun _ => rfl, ?_⟩
          simp only [Act.put, List.setIfInBounds_toArray, List.set_cons_zero, List.set_cons_succ]
          repeat (first
            | (with_reducible apply dl_nil)
            | ((with_reducible apply dl_skip); (focus rfl); (focus rfl); (focus (first | assumption | exact (Below.refl _ _).drew)); simp only [Act.put, List.setIfInBounds_toArray, List.set_cons_zero, List.set_cons_succ])
            | ((with_reducible apply dl_calm); (focus rfl); (focus rfl); (focus rfl); (focus (first | (with_reducible apply only_idle); (focus decide) | (with_reducible apply only_turn); (focus rfl); (focus rfl); (focus kernel_rfl) | exact only_calc rfl rfl rfl | exact only_check rfl rfl | exact only_cap rfl rfl | exact only_min rfl rfl rfl | exact only_max rfl rfl rfl)); (focus (intro wS hS; have hcS := fun p => Below.cell hS (p := p); go_simp; try rfl)); simp only [Act.put, List.setIfInBounds_toArray, List.set_cons_zero, List.set_cons_succ])
            | (with_reducible show Then _ _ _ _ _ _; simp only [Then])
            | (with_reducible show InBlock _ _ _ _ _ _; simp only [InBlock, ↓reduceIte, Nat.reduceEqDiff]))
          repeat (first
            | ((with_reducible refine lst_free ?_ ?_ (fun K hK => ?_)); (focus with_reducible rfl); (focus (intro ht; refine fine_none ?_ ht; (focus (first | (with_reducible apply only_idle); (focus decide) | (with_reducible apply only_turn); (focus rfl); (focus rfl); (focus kernel_rfl) | exact only_calc rfl rfl rfl | exact only_check rfl rfl | exact only_cap rfl rfl | exact only_min rfl rfl rfl | exact only_max rfl rfl rfl)))); go_simp; refine hK _ _ _ ?_; clear hK K)
            | ((with_reducible refine lst_off (i := ?_) (b := ?_) (d := ?_) ?_ ?_ ?_ ?_); rotate_left 3; (focus with_reducible rfl); (focus rfl); (focus (simp only [List.getElem?_toArray, List.getElem?_cons_succ, List.getElem?_cons_zero, Bool.not_true, Bool.not_false])); simp only [Act.put, List.setIfInBounds_toArray, List.set_cons_zero, List.set_cons_succ])
            | ((with_reducible refine lst_on (i := ?_) (b := ?_) (d := ?_) ?_ ?_ ?_ ?_ (fun K hK => ?_)); rotate_left 3; (focus with_reducible rfl); (focus rfl); (focus (simp only [List.getElem?_toArray, List.getElem?_cons_succ, List.getElem?_cons_zero])); (focus (intro ht; refine fine_none ?_ ht; (focus (first | (with_reducible apply only_idle); (focus decide) | (with_reducible apply only_turn); (focus rfl); (focus rfl); (focus kernel_rfl) | exact only_calc rfl rfl rfl | exact only_check rfl rfl | exact only_cap rfl rfl | exact only_min rfl rfl rfl | exact only_max rfl rfl rfl)))); go_simp; refine hK _ _ _ ?_; clear hK K)
            | ((with_reducible refine lst_undef (i := ?_) (b := ?_) (d := ?_) ?_ ?_ ?_ ?_); rotate_left 3; (focus with_reducible rfl); (focus rfl); (focus (simp only [List.getElem?_toArray, List.getElem?_cons_succ, List.getElem?_cons_zero])); simp only [Act.put, List.setIfInBounds_toArray, List.set_cons_zero, List.set_cons_succ])
            | (with_reducible apply lst_nil)
            | ((fail_if_success (with_reducible refine lst_any ?_)); first
            | (with_reducible apply j_seq) | (with_reducible apply j_block) | (with_reducible apply j_ret) | (with_reducible apply j_skip) | (with_reducible apply j_exit) | (with_reducible apply j_label) | (with_reducible apply j_region_lit)
            | ((with_reducible refine j_true ?_ ?_); (focus rfl)) | ((with_reducible refine j_false ?_ ?_); (focus rfl))
            | (with_reducible show Then _ _ _ _ _ _; simp only [Then])
            | (with_reducible show InBlock _ _ _ _ _ _; simp only [InBlock, ↓reduceIte, Nat.reduceEqDiff])))
          exact body_ret1 rfl rfl ⟨rfl, hb2.trans (hb6.mono hb2.size), V', rfl, by exact hV6⟩
    · have n3 : x.kind = 3 := by simpa using e3
      cases e0 : (x.code == 0)
      · have n0 : ¬ x.code = 0 := by simpa using e0
        have hL : behindL k K x xs = [] := by unfold behindL; rw [if_neg n2, if_pos n3, if_neg n0]
        rw [hL]
        clear n0 n2 n3 hL
        refine jdo_of Tryd.func14 rfl ?_
        simp only [Tryd.ntmps14, List.size_toArray, List.length_cons, List.length_nil, Nat.reduceAdd, Nat.reduceSub, Array.replicate_succ, Array.replicate_zero, List.push_toArray, List.append_toArray, List.nil_append, List.cons_append]
        repeat (first
          | ((with_reducible refine lst_free ?_ ?_ (fun K hK => ?_)); (focus with_reducible rfl); (focus (intro ht; refine fine_none ?_ ht; (focus (first | (with_reducible apply only_idle); (focus decide) | (with_reducible apply only_turn); (focus rfl); (focus rfl); (focus kernel_rfl) | exact only_calc rfl rfl rfl | exact only_check rfl rfl | exact only_cap rfl rfl | exact only_min rfl rfl rfl | exact only_max rfl rfl rfl)))); go_simp; refine hK _ _ _ ?_; clear hK K)
          | ((with_reducible refine lst_off (i := ?_) (b := ?_) (d := ?_) ?_ ?_ ?_ ?_); rotate_left 3; (focus with_reducible rfl); (focus rfl); (focus (simp only [List.getElem?_toArray, List.getElem?_cons_succ, List.getElem?_cons_zero, Bool.not_true, Bool.not_false])); simp only [Act.put, List.setIfInBounds_toArray, List.set_cons_zero, List.set_cons_succ])
          | ((with_reducible refine lst_on (i := ?_) (b := ?_) (d := ?_) ?_ ?_ ?_ ?_ (fun K hK => ?_)); rotate_left 3; (focus with_reducible rfl); (focus rfl); (focus (simp only [List.getElem?_toArray, List.getElem?_cons_succ, List.getElem?_cons_zero])); (focus (intro ht; refine fine_none ?_ ht; (focus (first | (with_reducible apply only_idle); (focus decide) | (with_reducible apply only_turn); (focus rfl); (focus rfl); (focus kernel_rfl) | exact only_calc rfl rfl rfl | exact only_check rfl rfl | exact only_cap rfl rfl | exact only_min rfl rfl rfl | exact only_max rfl rfl rfl)))); go_simp; refine hK _ _ _ ?_; clear hK K)
          | ((with_reducible refine lst_undef (i := ?_) (b := ?_) (d := ?_) ?_ ?_ ?_ ?_); rotate_left 3; (focus with_reducible rfl); (focus rfl); (focus (simp only [List.getElem?_toArray, List.getElem?_cons_succ, List.getElem?_cons_zero])); simp only [Act.put, List.setIfInBounds_toArray, List.set_cons_zero, List.set_cons_succ])
          | (with_reducible apply lst_nil)
          | ((fail_if_success (with_reducible refine lst_any ?_)); first
          | (with_reducible apply j_seq) | (with_reducible apply j_block) | (with_reducible apply j_ret) | (with_reducible apply j_skip) | (with_reducible apply j_exit) | (with_reducible apply j_label) | (with_reducible apply j_region_lit)
          | ((with_reducible refine j_true ?_ ?_); (focus rfl)) | ((with_reducible refine j_false ?_ ?_); (focus rfl))
          | (with_reducible show Then _ _ _ _ _ _; simp only [Then])
          | (with_reducible show InBlock _ _ _ _ _ _; simp only [InBlock, ↓reduceIte, Nat.reduceEqDiff])))
        exact body_ret1 rfl rfl ⟨rfl, hb2, _, rfl, by exact Rws.nil _ _⟩
      · have n0 : x.code = 0 := by simpa using e0
        have hL : behindL k K x xs = [xs] := by unfold behindL; rw [if_neg n2, if_pos n3, if_pos n0]
        rw [hL]
        clear n0 n2 n3 hL
        refine jdo_of Tryd.func14 rfl ?_
        simp only [Tryd.ntmps14, List.size_toArray, List.length_cons, List.length_nil, Nat.reduceAdd, Nat.reduceSub, Array.replicate_succ, Array.replicate_zero, List.push_toArray, List.append_toArray, List.nil_append, List.cons_append]
        repeat (first
          | ((with_reducible refine lst_free ?_ ?_ (fun K hK => ?_)); (focus with_reducible rfl); (focus (intro ht; refine fine_none ?_ ht; (focus (first | (with_reducible apply only_idle); (focus decide) | (with_reducible apply only_turn); (focus rfl); (focus rfl); (focus kernel_rfl) | exact only_calc rfl rfl rfl | exact only_check rfl rfl | exact only_cap rfl rfl | exact only_min rfl rfl rfl | exact only_max rfl rfl rfl)))); go_simp; refine hK _ _ _ ?_; clear hK K)
          | ((with_reducible refine lst_off (i := ?_) (b := ?_) (d := ?_) ?_ ?_ ?_ ?_); rotate_left 3; (focus with_reducible rfl); (focus rfl); (focus (simp only [List.getElem?_toArray, List.getElem?_cons_succ, List.getElem?_cons_zero, Bool.not_true, Bool.not_false])); simp only [Act.put, List.setIfInBounds_toArray, List.set_cons_zero, List.set_cons_succ])
          | ((with_reducible refine lst_on (i := ?_) (b := ?_) (d := ?_) ?_ ?_ ?_ ?_ (fun K hK => ?_)); rotate_left 3; (focus with_reducible rfl); (focus rfl); (focus (simp only [List.getElem?_toArray, List.getElem?_cons_succ, List.getElem?_cons_zero])); (focus (intro ht; refine fine_none ?_ ht; (focus (first | (with_reducible apply only_idle); (focus decide) | (with_reducible apply only_turn); (focus rfl); (focus rfl); (focus kernel_rfl) | exact only_calc rfl rfl rfl | exact only_check rfl rfl | exact only_cap rfl rfl | exact only_min rfl rfl rfl | exact only_max rfl rfl rfl)))); go_simp; refine hK _ _ _ ?_; clear hK K)
          | ((with_reducible refine lst_undef (i := ?_) (b := ?_) (d := ?_) ?_ ?_ ?_ ?_); rotate_left 3; (focus with_reducible rfl); (focus rfl); (focus (simp only [List.getElem?_toArray, List.getElem?_cons_succ, List.getElem?_cons_zero])); simp only [Act.put, List.setIfInBounds_toArray, List.set_cons_zero, List.set_cons_succ])
          | (with_reducible apply lst_nil)
          | ((fail_if_success (with_reducible refine lst_any ?_)); first
          | (with_reducible apply j_seq) | (with_reducible apply j_block) | (with_reducible apply j_ret) | (with_reducible apply j_skip) | (with_reducible apply j_exit) | (with_reducible apply j_label) | (with_reducible apply j_region_lit)
          | ((with_reducible refine j_true ?_ ?_); (focus rfl)) | ((with_reducible refine j_false ?_ ?_); (focus rfl))
          | (with_reducible show Then _ _ _ _ _ _; simp only [Then])
          | (with_reducible show InBlock _ _ _ _ _ _; simp only [InBlock, ↓reduceIte, Nat.reduceEqDiff])))
        refine lst_one (one_append_row (.tmp 77) (.tmp 79) rfl rfl (B := w.heap.size) (rows := []) rfl (Rws.nil _ _) (fun g e => by cases e) rfl (Blk.new2 _ _ _ _ _) ((h.below ((al_ hb2 _))).more ((al_ hb2 _)).size) (fun _ b hb' e => by cases e) (by decide) ((al_ hb2 _)).size ?_)
        intro V' W6 hV6 gr6
        have hb6 : Below w.heap.size w W6 := ((al_ hb2 _)).grown gr6 ((al_ hb2 _)).size (fun b hb' => by cases hb')
        simp only [Act.put, List.setIfInBounds_toArray, List.set_cons_zero, List.set_cons_succ]
        repeat (first
          | ((with_reducible refine lst_free ?_ ?_ (fun K hK => ?_)); (focus with_reducible rfl); (focus (intro ht; refine fine_none ?_ ht; (focus (first | (with_reducible apply only_idle); (focus decide) | (with_reducible apply only_turn); (focus rfl); (focus rfl); (focus kernel_rfl) | exact only_calc rfl rfl rfl | exact only_check rfl rfl | exact only_cap rfl rfl | exact only_min rfl rfl rfl | exact only_max rfl rfl rfl)))); go_simp; refine hK _ _ _ ?_; clear hK K)
          | ((with_reducible refine lst_off (i := ?_) (b := ?_) (d := ?_) ?_ ?_ ?_ ?_); rotate_left 3; (focus with_reducible rfl); (focus rfl); (focus (simp only [List.getElem?_toArray, List.getElem?_cons_succ, List.getElem?_cons_zero, Bool.not_true, Bool.not_false])); simp only [Act.put, List.setIfInBounds_toArray, List.set_cons_zero, List.set_cons_succ])
          | ((with_reducible refine lst_on (i := ?_) (b := ?_) (d := ?_) ?_ ?_ ?_ ?_ (fun K hK => ?_)); rotate_left 3; (focus with_reducible rfl); (focus rfl); (focus (simp only [List.getElem?_toArray, List.getElem?_cons_succ, List.getElem?_cons_zero])); (focus (intro ht; refine fine_none ?_ ht; (focus (first | (with_reducible apply only_idle); (focus decide) | (with_reducible apply only_turn); (focus rfl); (focus rfl); (focus kernel_rfl) | exact only_calc rfl rfl rfl | exact only_check rfl rfl | exact only_cap rfl rfl | exact only_min rfl rfl rfl | exact only_max rfl rfl rfl)))); go_simp; refine hK _ _ _ ?_; clear hK K)
          | ((with_reducible refine lst_undef (i := ?_) (b := ?_) (d := ?_) ?_ ?_ ?_ ?_); rotate_left 3; (focus with_reducible rfl); (focus rfl); (focus (simp only [List.getElem?_toArray, List.getElem?_cons_succ, List.getElem?_cons_zero])); simp only [Act.put, List.setIfInBounds_toArray, List.set_cons_zero, List.set_cons_succ])
          | (with_reducible apply lst_nil)
          | ((fail_if_success (with_reducible refine lst_any ?_)); first
          | (with_reducible apply j_seq) | (with_reducible apply j_block) | (with_reducible apply j_ret) | (with_reducible apply j_skip) | (with_reducible apply j_exit) | (with_reducible apply j_label) | (with_reducible apply j_region_lit)
          | ((with_reducible refine j_true ?_ ?_); (focus rfl)) | ((with_reducible refine j_false ?_ ?_); (focus rfl))
          | (with_reducible show Then _ _ _ _ _ _; simp only [Then])
          | (with_reducible show InBlock _ _ _ _ _ _; simp only [InBlock, ↓reduceIte, Nat.reduceEqDiff])))
        exact body_ret1 rfl rfl ⟨rfl, hb6, V', rfl, by exact hV6⟩
  · have n2 : x.kind = 2 := by simpa using e2
    have hL : behindL k K x xs = gotL k K x xs := by unfold behindL; rw [if_pos n2]
    rw [hL]
    clear n2 hL
    refine jdo_of Tryd.func14 rfl ?_
    simp only [Tryd.ntmps14, List.size_toArray, List.length_cons, List.length_nil, Nat.reduceAdd, Nat.reduceSub, Array.replicate_succ, Array.replicate_zero, List.push_toArray, List.append_toArray, List.nil_append, List.cons_append]
    repeat (first
      | ((with_reducible refine lst_free ?_ ?_ (fun K hK => ?_)); (focus with_reducible rfl); (focus (intro ht; refine fine_none ?_ ht; (focus (first | (with_reducible apply only_idle); (focus decide) | (with_reducible apply only_turn); (focus rfl); (focus rfl); (focus kernel_rfl) | exact only_calc rfl rfl rfl | exact only_check rfl rfl | exact only_cap rfl rfl | exact only_min rfl rfl rfl | exact only_max rfl rfl rfl)))); go_simp; refine hK _ _ _ ?_; clear hK K)
      | ((with_reducible refine lst_off (i := ?_) (b := ?_) (d := ?_) ?_ ?_ ?_ ?_); rotate_left 3; (focus with_reducible rfl); (focus rfl); (focus (simp only [List.getElem?_toArray, List.getElem?_cons_succ, List.getElem?_cons_zero, Bool.not_true, Bool.not_false])); simp only [Act.put, List.setIfInBounds_toArray, List.set_cons_zero, List.set_cons_succ])
      | ((with_reducible refine lst_on (i := ?_) (b := ?_) (d := ?_) ?_ ?_ ?_ ?_ (fun K hK => ?_)); rotate_left 3; (focus with_reducible rfl); (focus rfl); (focus (simp only [List.getElem?_toArray, List.getElem?_cons_succ, List.getElem?_cons_zero])); (focus (intro ht; refine fine_none ?_ ht; (focus (first | (with_reducible apply only_idle); (focus decide) | (with_reducible apply only_turn); (focus rfl); (focus rfl); (focus kernel_rfl) | exact only_calc rfl rfl rfl | exact only_check rfl rfl | exact only_cap rfl rfl | exact only_min rfl rfl rfl | exact only_max rfl rfl rfl)))); go_simp; refine hK _ _ _ ?_; clear hK K)
      | ((with_reducible refine lst_undef (i := ?_) (b := ?_) (d := ?_) ?_ ?_ ?_ ?_); rotate_left 3; (focus with_reducible rfl); (focus rfl); (focus (simp only [List.getElem?_toArray, List.getElem?_cons_succ, List.getElem?_cons_zero])); simp only [Act.put, List.setIfInBounds_toArray, List.set_cons_zero, List.set_cons_succ])
      | (with_reducible apply lst_nil)
      | ((fail_if_success (with_reducible refine lst_any ?_)); first
      | (with_reducible apply j_seq) | (with_reducible apply j_block) | (with_reducible apply j_ret) | (with_reducible apply j_skip) | (with_reducible apply j_exit) | (with_reducible apply j_label) | (with_reducible apply j_region_lit)
      | ((with_reducible refine j_true ?_ ?_); (focus rfl)) | ((with_reducible refine j_false ?_ ?_); (focus rfl))
      | (with_reducible show Then _ _ _ _ _ _; simp only [Then])
      | (with_reducible show InBlock _ _ _ _ _ _; simp only [InBlock, ↓reduceIte, Nat.reduceEqDiff])))
    have bk := (Blk.new w 23 #[.int .i64 k, .int .i64 K, .int .i64 T, .int .i64 M]).alloc (.cells #[.int .i64 (Cl.th x), .int .i64 (Cl.kind x), .int .u32 (Cl.val x), .int .i64 (Cl.fr x), .int .i64 (Cl.to x), .int .i64 (Cl.code x), .int .u32 (Cl.out x)] 32)
    have bx := Blk.new1 w (.cells #[.int .i64 k, .int .i64 K, .int .i64 T, .int .i64 M] 23) 32 #[.int .i64 (Cl.th x), .int .i64 (Cl.kind x), .int .u32 (Cl.val x), .int .i64 (Cl.fr x), .int .i64 (Cl.to x), .int .i64 (Cl.code x), .int .u32 (Cl.out x)]
    have hg : Jdo Tryd.prog X 19 #[cfg k K T M, clV x, .slice A xs.length c] s ((w.alloc (.cells #[.int .i64 k, .int .i64 K, .int .i64 T, .int .i64 M] 23)).alloc (.cells #[.int .i64 (Cl.th x), .int .i64 (Cl.kind x), .int .u32 (Cl.val x), .int .i64 (Cl.fr x), .int .i64 (Cl.to x), .int .i64 (Cl.code x), .int .u32 (Cl.out x)] 32)) _ := got_ok (T := T) (M := M) ((h.below hb2).more hb2.size) hn hK
    unfold cfg clV at hg
    refine lst_call _ rfl ?_ ?_ Tryd.func19 ?_ rfl hg ?_
    focus rfl
    focus first | rfl | (go_simp; done) | (go_simp; rfl)
    focus rfl
    rintro s3 r W2 ⟨rfl, hb3, V, rfl, hV⟩
    simp only [Act.put, List.setIfInBounds_toArray, List.set_cons_zero, List.set_cons_succ]
    repeat (first
      | ((with_reducible refine lst_free ?_ ?_ (fun K hK => ?_)); (focus with_reducible rfl); (focus (intro ht; refine fine_none ?_ ht; (focus (first | (with_reducible apply only_idle); (focus decide) | (with_reducible apply only_turn); (focus rfl); (focus rfl); (focus kernel_rfl) | exact only_calc rfl rfl rfl | exact only_check rfl rfl | exact only_cap rfl rfl | exact only_min rfl rfl rfl | exact only_max rfl rfl rfl)))); go_simp; refine hK _ _ _ ?_; clear hK K)
      | ((with_reducible refine lst_off (i := ?_) (b := ?_) (d := ?_) ?_ ?_ ?_ ?_); rotate_left 3; (focus with_reducible rfl); (focus rfl); (focus (simp only [List.getElem?_toArray, List.getElem?_cons_succ, List.getElem?_cons_zero, Bool.not_true, Bool.not_false])); simp only [Act.put, List.setIfInBounds_toArray, List.set_cons_zero, List.set_cons_succ])
      | ((with_reducible refine lst_on (i := ?_) (b := ?_) (d := ?_) ?_ ?_ ?_ ?_ (fun K hK => ?_)); rotate_left 3; (focus with_reducible rfl); (focus rfl); (focus (simp only [List.getElem?_toArray, List.getElem?_cons_succ, List.getElem?_cons_zero])); (focus (intro ht; refine fine_none ?_ ht; (focus (first | (with_reducible apply only_idle); (focus decide) | (with_reducible apply only_turn); (focus rfl); (focus rfl); (focus kernel_rfl) | exact only_calc rfl rfl rfl | exact only_check rfl rfl | exact only_cap rfl rfl | exact only_min rfl rfl rfl | exact only_max rfl rfl rfl)))); go_simp; refine hK _ _ _ ?_; clear hK K)
      | ((with_reducible refine lst_undef (i := ?_) (b := ?_) (d := ?_) ?_ ?_ ?_ ?_); rotate_left 3; (focus with_reducible rfl); (focus rfl); (focus (simp only [List.getElem?_toArray, List.getElem?_cons_succ, List.getElem?_cons_zero])); simp only [Act.put, List.setIfInBounds_toArray, List.set_cons_zero, List.set_cons_succ])
      | (with_reducible apply lst_nil)
      | ((fail_if_success (with_reducible refine lst_any ?_)); first
      | (with_reducible apply j_seq) | (with_reducible apply j_block) | (with_reducible apply j_ret) | (with_reducible apply j_skip) | (with_reducible apply j_exit) | (with_reducible apply j_label) | (with_reducible apply j_region_lit)
      | ((with_reducible refine j_true ?_ ?_); (focus rfl)) | ((with_reducible refine j_false ?_ ?_); (focus rfl))
      | (with_reducible show Then _ _ _ _ _ _; simp only [Then])
      | (with_reducible show InBlock _ _ _ _ _ _; simp only [InBlock, ↓reduceIte, Nat.reduceEqDiff])))
    exact body_ret1 rfl rfl ⟨rfl, hb2.trans (hb3.mono hb2.size), V, rfl, by exact hV.base hb2.size⟩
end
end Go.Proofs.YtgchailmcbifdaaDoor.Jg
