/- Package judge: the search, whole. -/
import Derived.Test.YtgchailmcbifdaaDoorJgQ
namespace Go.Proofs.YtgchailmcbifdaaDoor.Jg
set_option linter.unusedSimpArgs false
set_option linter.unusedVariables false
set_option maxRecDepth 20000
open Go Go.Conc Go.RowKit Go.Proofs.YtgchailmcbifdaaDoor.Jay Go.Proofs.YtgchailmcbifdaaDoor.Pl
section
variable {γ : Type} {X : Turns γ} {s : γ} {w : World}
attribute [local go_sem] upon_value upon_skip

theorem under_map : Tryd.prog.underlying 36 = some (.map 9 4) := by kernel_rfl
theorem zero_bool (w : World) : (zeroValue 4).run Tryd.prog w = .ok (.bool false) w := by kernel_rfl

set_option maxHeartbeats 16000000 in
theorem try_step {H : Hd} (F : Fit H) (n : Nat) (ih : ∀ m, m < n → TrySt X H m) : TrySt X H n := by
  intro s w d row v ks hE hK hm hd hl hG hlen hr hI
  refine Jdo.there fun ht => ?_
  have hn8 : H.l.length ≤ 8 := F.n8
  have hd8 : d < 256 := Nat.lt_of_lt_of_le hd (Nat.le_trans (Nat.pow_le_pow_right (by decide) hn8) (by decide))
  obtain ⟨A, c, rfl, hc1, hc2⟩ := hr.form
  have da := hE.ba.cell
  have la := hE.ba.lt
  have hall := and_all hd8 F.a8
  cases hdone : decide (d &&& H.all = H.all)
  · rw [hdone] at hall
    have hnp : ¬ (d &&& H.all = H.all) := of_decide_eq_false hdone
    have hnp : Hid (¬ (d &&& H.all = H.all)) := hnp
    clear hdone
    refine jdo_of Tryd.func11 rfl ?_
    simp only [Tryd.ntmps11, List.size_toArray, List.length_cons, List.length_nil, Nat.reduceAdd, Nat.reduceSub, Array.replicate_succ, Array.replicate_zero, List.push_toArray, List.append_toArray, List.nil_append, List.cons_append]
    repeat (first
      | ((with_reducible refine lst_free ?_ ?_ (fun K hK => ?_)); (focus with_reducible rfl); (focus (intro ht; refine fine_none ?_ ht; (focus (first | (with_reducible apply only_idle); (focus decide) | (with_reducible apply only_turn); (focus rfl); (focus rfl); (focus kernel_rfl) | exact only_calc rfl rfl rfl | exact only_check rfl rfl | exact only_cap rfl rfl | exact only_min rfl rfl rfl | exact only_max rfl rfl rfl)))); go_simp; refine hK _ _ _ ?_; clear hK K)
      | ((with_reducible refine lst_off (i := ?_) (b := ?_) (d := ?_) ?_ ?_ ?_ ?_); rotate_left 3; (focus with_reducible rfl); (focus rfl); (focus (simp only [List.getElem?_toArray, List.getElem?_cons_succ, List.getElem?_cons_zero, Bool.not_true, Bool.not_false])); simp only [Act.put, List.setIfInBounds_toArray, List.set_cons_zero, List.set_cons_succ])
      | ((with_reducible refine lst_on (i := ?_) (b := ?_) (d := ?_) ?_ ?_ ?_ ?_ (fun K hK => ?_)); rotate_left 3; (focus with_reducible rfl); (focus rfl); (focus (simp only [List.getElem?_toArray, List.getElem?_cons_succ, List.getElem?_cons_zero])); (focus (intro ht; refine fine_none ?_ ht; (focus (first | (with_reducible apply only_idle); (focus decide) | (with_reducible apply only_turn); (focus rfl); (focus rfl); (focus kernel_rfl) | exact only_calc rfl rfl rfl | exact only_check rfl rfl | exact only_cap rfl rfl | exact only_min rfl rfl rfl | exact only_max rfl rfl rfl)))); go_simp; refine hK _ _ _ ?_; clear hK K)
      | ((with_reducible refine lst_undef (i := ?_) (b := ?_) (d := ?_) ?_ ?_ ?_ ?_); rotate_left 3; (focus with_reducible rfl); (focus rfl); (focus (simp only [List.getElem?_toArray, List.getElem?_cons_succ, List.getElem?_cons_zero])); simp only [Act.put, List.setIfInBounds_toArray, List.set_cons_zero, List.set_cons_succ])
      | (with_reducible apply lst_nil)
      | ((fail_if_success (with_reducible refine lst_any ?_)); first
      | (with_reducible apply j_seq) | (with_reducible apply j_block) | (with_reducible apply j_ret) | (with_reducible apply j_skip) | (with_reducible apply j_exit) | (with_reducible apply j_label) | (with_reducible apply j_region_lit)
      | ((with_reducible refine j_true ?_ ?_); (focus rfl)) | ((with_reducible refine j_false ?_ ?_); (focus rfl))
      | (with_reducible show Then _ _ _ _ _ _; simp only [Then])
      | (with_reducible show InBlock _ _ _ _ _ _; simp only [InBlock, ↓reduceIte, Nat.reduceEqDiff])))
    refine lst_call _ rfl ?_ ?_ Tryd.func12 ?_ rfl (key_ok (d := d) (xs := row) (by omega) hr (by omega) hG hE.tab) ?_
    focus rfl
    focus first | rfl | (go_simp; done) | (go_simp; rfl)
    focus rfl
    rintro s1 r w1 ⟨rfl, hb1, rfl⟩
    simp only [Act.put, List.setIfInBounds_toArray, List.set_cons_zero, List.set_cons_succ]
    have hk1 := Kp.of_below hK hb1
    have hK1 := hK.below hb1
    have hE1 := hE.keep hk1
    clear da la
    have dt := hE1.bt.cell
    have lt := hE1.bt.lt
    generalize hq : keyL d row = q
    repeat (first
      | ((with_reducible refine lst_free ?_ ?_ (fun K hK => ?_)); (focus with_reducible rfl); (focus (intro ht; refine fine_none ?_ ht; (focus (first | (with_reducible apply only_idle); (focus decide) | (with_reducible apply only_turn); (focus rfl); (focus rfl); (focus kernel_rfl) | exact only_calc rfl rfl rfl | exact only_check rfl rfl | exact only_cap rfl rfl | exact only_min rfl rfl rfl | exact only_max rfl rfl rfl)))); go_simp; refine hK _ _ _ ?_; clear hK K)
      | ((with_reducible refine lst_off (i := ?_) (b := ?_) (d := ?_) ?_ ?_ ?_ ?_); rotate_left 3; (focus with_reducible rfl); (focus rfl); (focus (simp only [List.getElem?_toArray, List.getElem?_cons_succ, List.getElem?_cons_zero, Bool.not_true, Bool.not_false])); simp only [Act.put, List.setIfInBounds_toArray, List.set_cons_zero, List.set_cons_succ])
      | ((with_reducible refine lst_on (i := ?_) (b := ?_) (d := ?_) ?_ ?_ ?_ ?_ (fun K hK => ?_)); rotate_left 3; (focus with_reducible rfl); (focus rfl); (focus (simp only [List.getElem?_toArray, List.getElem?_cons_succ, List.getElem?_cons_zero])); (focus (intro ht; refine fine_none ?_ ht; (focus (first | (with_reducible apply only_idle); (focus decide) | (with_reducible apply only_turn); (focus rfl); (focus rfl); (focus kernel_rfl) | exact only_calc rfl rfl rfl | exact only_check rfl rfl | exact only_cap rfl rfl | exact only_min rfl rfl rfl | exact only_max rfl rfl rfl)))); go_simp; refine hK _ _ _ ?_; clear hK K)
      | ((with_reducible refine lst_undef (i := ?_) (b := ?_) (d := ?_) ?_ ?_ ?_ ?_); rotate_left 3; (focus with_reducible rfl); (focus rfl); (focus (simp only [List.getElem?_toArray, List.getElem?_cons_succ, List.getElem?_cons_zero])); simp only [Act.put, List.setIfInBounds_toArray, List.set_cons_zero, List.set_cons_succ])
      | (with_reducible apply lst_nil)
      | ((fail_if_success (with_reducible refine lst_any ?_)); first
      | (with_reducible apply j_seq) | (with_reducible apply j_block) | (with_reducible apply j_ret) | (with_reducible apply j_skip) | (with_reducible apply j_exit) | (with_reducible apply j_label) | (with_reducible apply j_region_lit)
      | ((with_reducible refine j_true ?_ ?_); (focus rfl)) | ((with_reducible refine j_false ?_ ?_); (focus rfl))
      | (with_reducible show Then _ _ _ _ _ _; simp only [Then])
      | (with_reducible show InBlock _ _ _ _ _ _; simp only [InBlock, ↓reduceIte, Nat.reduceEqDiff])))
    refine lst_one (one_lookup (.tmp 23) (.tmp 24) 36 9 4 rfl rfl under_map under_string (zero_bool _) rfl rfl hK1 ?_)
    simp only [Act.put, List.setIfInBounds_toArray, List.set_cons_zero, List.set_cons_succ]
    by_cases hin : q ∈ ks
    · rw [decide_eq_true hin]
      repeat (first
        | ((with_reducible refine lst_free ?_ ?_ (fun K hK => ?_)); (focus with_reducible rfl); (focus (intro ht; refine fine_none ?_ ht; (focus (first | (with_reducible apply only_idle); (focus decide) | (with_reducible apply only_turn); (focus rfl); (focus rfl); (focus kernel_rfl) | exact only_calc rfl rfl rfl | exact only_check rfl rfl | exact only_cap rfl rfl | exact only_min rfl rfl rfl | exact only_max rfl rfl rfl)))); go_simp; refine hK _ _ _ ?_; clear hK K)
        | ((with_reducible refine lst_off (i := ?_) (b := ?_) (d := ?_) ?_ ?_ ?_ ?_); rotate_left 3; (focus with_reducible rfl); (focus rfl); (focus (simp only [List.getElem?_toArray, List.getElem?_cons_succ, List.getElem?_cons_zero, Bool.not_true, Bool.not_false])); simp only [Act.put, List.setIfInBounds_toArray, List.set_cons_zero, List.set_cons_succ])
        | ((with_reducible refine lst_on (i := ?_) (b := ?_) (d := ?_) ?_ ?_ ?_ ?_ (fun K hK => ?_)); rotate_left 3; (focus with_reducible rfl); (focus rfl); (focus (simp only [List.getElem?_toArray, List.getElem?_cons_succ, List.getElem?_cons_zero])); (focus (intro ht; refine fine_none ?_ ht; (focus (first | (with_reducible apply only_idle); (focus decide) | (with_reducible apply only_turn); (focus rfl); (focus rfl); (focus kernel_rfl) | exact only_calc rfl rfl rfl | exact only_check rfl rfl | exact only_cap rfl rfl | exact only_min rfl rfl rfl | exact only_max rfl rfl rfl)))); go_simp; refine hK _ _ _ ?_; clear hK K)
        | ((with_reducible refine lst_undef (i := ?_) (b := ?_) (d := ?_) ?_ ?_ ?_ ?_); rotate_left 3; (focus with_reducible rfl); (focus rfl); (focus (simp only [List.getElem?_toArray, List.getElem?_cons_succ, List.getElem?_cons_zero])); simp only [Act.put, List.setIfInBounds_toArray, List.set_cons_zero, List.set_cons_succ])
        | (with_reducible apply lst_nil)
        | ((fail_if_success (with_reducible refine lst_any ?_)); first
        | (with_reducible apply j_seq) | (with_reducible apply j_block) | (with_reducible apply j_ret) | (with_reducible apply j_skip) | (with_reducible apply j_exit) | (with_reducible apply j_label) | (with_reducible apply j_region_lit)
        | ((with_reducible refine j_true ?_ ?_); (focus rfl)) | ((with_reducible refine j_false ?_ ?_); (focus rfl))
        | (with_reducible show Then _ _ _ _ _ _; simp only [Then])
        | (with_reducible show InBlock _ _ _ _ _ _; simp only [InBlock, ↓reduceIte, Nat.reduceEqDiff])))
      have hno : ¬ H.path d row := hI d row hd8 hG (by omega) (by rw [hq]; exact hin)
      exact body_ret1 rfl rfl ⟨rfl, hk1, false, [], rfl, by rw [List.append_nil]; exact hK1, (fun h => by cases h), fun _ => ⟨hno, by rw [List.append_nil]; exact hI, fun q hq => by cases hq⟩⟩
    · rw [decide_eq_false hin]
      repeat (first
        | ((with_reducible refine lst_free ?_ ?_ (fun K hK => ?_)); (focus with_reducible rfl); (focus (intro ht; refine fine_none ?_ ht; (focus (first | (with_reducible apply only_idle); (focus decide) | (with_reducible apply only_turn); (focus rfl); (focus rfl); (focus kernel_rfl) | exact only_calc rfl rfl rfl | exact only_check rfl rfl | exact only_cap rfl rfl | exact only_min rfl rfl rfl | exact only_max rfl rfl rfl)))); go_simp; refine hK _ _ _ ?_; clear hK K)
        | ((with_reducible refine lst_off (i := ?_) (b := ?_) (d := ?_) ?_ ?_ ?_ ?_); rotate_left 3; (focus with_reducible rfl); (focus rfl); (focus (simp only [List.getElem?_toArray, List.getElem?_cons_succ, List.getElem?_cons_zero, Bool.not_true, Bool.not_false])); simp only [Act.put, List.setIfInBounds_toArray, List.set_cons_zero, List.set_cons_succ])
        | ((with_reducible refine lst_on (i := ?_) (b := ?_) (d := ?_) ?_ ?_ ?_ ?_ (fun K hK => ?_)); rotate_left 3; (focus with_reducible rfl); (focus rfl); (focus (simp only [List.getElem?_toArray, List.getElem?_cons_succ, List.getElem?_cons_zero])); (focus (intro ht; refine fine_none ?_ ht; (focus (first | (with_reducible apply only_idle); (focus decide) | (with_reducible apply only_turn); (focus rfl); (focus rfl); (focus kernel_rfl) | exact only_calc rfl rfl rfl | exact only_check rfl rfl | exact only_cap rfl rfl | exact only_min rfl rfl rfl | exact only_max rfl rfl rfl)))); go_simp; refine hK _ _ _ ?_; clear hK K)
        | ((with_reducible refine lst_undef (i := ?_) (b := ?_) (d := ?_) ?_ ?_ ?_ ?_); rotate_left 3; (focus with_reducible rfl); (focus rfl); (focus (simp only [List.getElem?_toArray, List.getElem?_cons_succ, List.getElem?_cons_zero])); simp only [Act.put, List.setIfInBounds_toArray, List.set_cons_zero, List.set_cons_succ])
        | (with_reducible apply lst_nil)
        | ((fail_if_success (with_reducible refine lst_any ?_)); first
        | (with_reducible apply j_seq) | (with_reducible apply j_block) | (with_reducible apply j_ret) | (with_reducible apply j_skip) | (with_reducible apply j_exit) | (with_reducible apply j_label) | (with_reducible apply j_region_lit)
        | ((with_reducible refine j_true ?_ ?_); (focus rfl)) | ((with_reducible refine j_false ?_ ?_); (focus rfl))
        | (with_reducible show Then _ _ _ _ _ _; simp only [Then])
        | (with_reducible show InBlock _ _ _ _ _ _; simp only [InBlock, ↓reduceIte, Nat.reduceEqDiff])))
      refine lst_one (one_mapput (.tmp 26) (.tmp 27) _ 36 9 4 rfl rfl under_map under_string rfl rfl rfl hK1 hin hm ?_)
      intro w2 hK2 hC2 hsz2
      simp only [Act.put, List.setIfInBounds_toArray, List.set_cons_zero, List.set_cons_succ]
      have hk2 : Kp H.gm w w2 := hk1.trans ⟨hC2, ⟨_, hK1⟩, _, hK2⟩
      have hE2 := hE.keep hk2
      clear dt lt
      have dl := hE2.bl.cell
      have ll := hE2.bl.lt
      obtain ⟨Al, cl, ev, -, -⟩ := Sl.form hE2.cl
      repeat (first
        | ((with_reducible refine lst_free ?_ ?_ (fun K hK => ?_)); (focus with_reducible rfl); (focus (intro ht; refine fine_none ?_ ht; (focus (first | (with_reducible apply only_idle); (focus decide) | (with_reducible apply only_turn); (focus rfl); (focus rfl); (focus kernel_rfl) | exact only_calc rfl rfl rfl | exact only_check rfl rfl | exact only_cap rfl rfl | exact only_min rfl rfl rfl | exact only_max rfl rfl rfl)))); go_simp; refine hK _ _ _ ?_; clear hK K)
        | ((with_reducible refine lst_off (i := ?_) (b := ?_) (d := ?_) ?_ ?_ ?_ ?_); rotate_left 3; (focus with_reducible rfl); (focus rfl); (focus (simp only [List.getElem?_toArray, List.getElem?_cons_succ, List.getElem?_cons_zero, Bool.not_true, Bool.not_false])); simp only [Act.put, List.setIfInBounds_toArray, List.set_cons_zero, List.set_cons_succ])
        | ((with_reducible refine lst_on (i := ?_) (b := ?_) (d := ?_) ?_ ?_ ?_ ?_ (fun K hK => ?_)); rotate_left 3; (focus with_reducible rfl); (focus rfl); (focus (simp only [List.getElem?_toArray, List.getElem?_cons_succ, List.getElem?_cons_zero])); (focus (intro ht; refine fine_none ?_ ht; (focus (first | (with_reducible apply only_idle); (focus decide) | (with_reducible apply only_turn); (focus rfl); (focus rfl); (focus kernel_rfl) | exact only_calc rfl rfl rfl | exact only_check rfl rfl | exact only_cap rfl rfl | exact only_min rfl rfl rfl | exact only_max rfl rfl rfl)))); go_simp; refine hK _ _ _ ?_; clear hK K)
        | ((with_reducible refine lst_undef (i := ?_) (b := ?_) (d := ?_) ?_ ?_ ?_ ?_); rotate_left 3; (focus with_reducible rfl); (focus rfl); (focus (simp only [List.getElem?_toArray, List.getElem?_cons_succ, List.getElem?_cons_zero])); simp only [Act.put, List.setIfInBounds_toArray, List.set_cons_zero, List.set_cons_succ])
        | (with_reducible apply lst_nil)
        | ((fail_if_success (with_reducible refine lst_any ?_)); first
        | (with_reducible apply j_seq) | (with_reducible apply j_block) | (with_reducible apply j_ret) | (with_reducible apply j_skip) | (with_reducible apply j_exit) | (with_reducible apply j_label) | (with_reducible apply j_region_lit)
        | ((with_reducible refine j_true ?_ ?_); (focus rfl)) | ((with_reducible refine j_false ?_ ?_); (focus rfl))
        | (with_reducible show Then _ _ _ _ _ _; simp only [Then])
        | (with_reducible show InBlock _ _ _ _ _ _; simp only [InBlock, ↓reduceIte, Nat.reduceEqDiff])))
      have hnpath : (∀ (j : Nat) (x : Cl) (nx : List Int), H.l[j]? = some x → d.testBit j = false → earlyB H.l d x = false → nx ∈ behindL H.k H.K x row → ¬ H.path (d ||| 2 ^ j) nx) → ¬ H.path d row := by
        intro hall2 hp
        cases hp with
        | done h => exact hnp h
        | step h1 h2 h3 h4 h5 => exact hall2 _ _ _ h1 h2 h3 h4 h5
      have hput := hI.put hd8 hG hl
      rw [hq] at hput
      refine try_loop (w := w2) (ks := ks ++ [q]) F ih hE2 hm (fun b hb => Nat.lt_of_lt_of_le (ht b hb) hk2.1.size) hd hl hG hlen ((hk2.rw hr (Nat.le_refl _)).more hk2.1.size)
        ⟨rfl, 0, [], ⟨.refl _ _, ⟨_, hK2⟩, _, hK2⟩, by rw [List.append_nil]; exact hK2, Nat.zero_le _, by rw [List.append_nil]; exact hput, (fun q hq => by cases hq), (fun j x nx h => absurd h (Nat.not_lt_zero _)), _, _, _, _, _, _, _, _, _, _, _, _, _, _, _, _, _, _, _, _, _, _, _, _, _, _, _, _, _, _, _, _, _, _, _, _, _, _, _, _, _, _, _, _, _, _, _, _, _, _, _, _, _, _, by rw [ev]; rfl⟩
        (fun W' ks' hk3 hT hex => ?_) (fun W' ks' hk3 hT hinv hfew hall2 => ?_)
      · obtain ⟨k, x, nx, h1, h2, h3, h4, h5⟩ := hex
        exact ⟨rfl, hk2.trans hk3, true, [q] ++ ks', rfl, by rw [← List.append_assoc]; exact hT, (fun _ => .step h1 h2 h3 h4 h5), (fun h => by cases h)⟩
      · refine ⟨rfl, hk2.trans hk3, false, [q] ++ ks', rfl, by rw [← List.append_assoc]; exact hT, (fun h => by cases h), fun _ => ⟨hnpath hall2, ?_, ?_⟩⟩
        · have := hI.done hd8 hG hl (ks' := ks') (by rw [hq]; exact hinv) hfew (hnpath hall2)
          rwa [hq, List.append_assoc] at this
        · intro q' hq'
          rcases List.mem_append.1 hq' with h1 | h1
          · rw [List.mem_singleton.1 h1]
            exact ⟨d, row, hq.symm, hd8, hG, by omega⟩
          · exact (hfew.mono (by omega)) q' h1
  · rw [hdone] at hall
    have hp : d &&& H.all = H.all := of_decide_eq_true hdone
    have hp : Hid (d &&& H.all = H.all) := hp
    clear hdone
    refine jdo_of Tryd.func11 rfl ?_
    simp only [Tryd.ntmps11, List.size_toArray, List.length_cons, List.length_nil, Nat.reduceAdd, Nat.reduceSub, Array.replicate_succ, Array.replicate_zero, List.push_toArray, List.append_toArray, List.nil_append, List.cons_append]
    repeat (first
      | ((with_reducible refine lst_free ?_ ?_ (fun K hK => ?_)); (focus with_reducible rfl); (focus (intro ht; refine fine_none ?_ ht; (focus (first | (with_reducible apply only_idle); (focus decide) | (with_reducible apply only_turn); (focus rfl); (focus rfl); (focus kernel_rfl) | exact only_calc rfl rfl rfl | exact only_check rfl rfl | exact only_cap rfl rfl | exact only_min rfl rfl rfl | exact only_max rfl rfl rfl)))); go_simp; refine hK _ _ _ ?_; clear hK K)
      | ((with_reducible refine lst_off (i := ?_) (b := ?_) (d := ?_) ?_ ?_ ?_ ?_); rotate_left 3; (focus with_reducible rfl); (focus rfl); (focus (simp only [List.getElem?_toArray, List.getElem?_cons_succ, List.getElem?_cons_zero, Bool.not_true, Bool.not_false])); simp only [Act.put, List.setIfInBounds_toArray, List.set_cons_zero, List.set_cons_succ])
      | ((with_reducible refine lst_on (i := ?_) (b := ?_) (d := ?_) ?_ ?_ ?_ ?_ (fun K hK => ?_)); rotate_left 3; (focus with_reducible rfl); (focus rfl); (focus (simp only [List.getElem?_toArray, List.getElem?_cons_succ, List.getElem?_cons_zero])); (focus (intro ht; refine fine_none ?_ ht; (focus (first | (with_reducible apply only_idle); (focus decide) | (with_reducible apply only_turn); (focus rfl); (focus rfl); (focus kernel_rfl) | exact only_calc rfl rfl rfl | exact only_check rfl rfl | exact only_cap rfl rfl | exact only_min rfl rfl rfl | exact only_max rfl rfl rfl)))); go_simp; refine hK _ _ _ ?_; clear hK K)
      | ((with_reducible refine lst_undef (i := ?_) (b := ?_) (d := ?_) ?_ ?_ ?_ ?_); rotate_left 3; (focus with_reducible rfl); (focus rfl); (focus (simp only [List.getElem?_toArray, List.getElem?_cons_succ, List.getElem?_cons_zero])); simp only [Act.put, List.setIfInBounds_toArray, List.set_cons_zero, List.set_cons_succ])
      | (with_reducible apply lst_nil)
      | ((fail_if_success (with_reducible refine lst_any ?_)); first
      | (with_reducible apply j_seq) | (with_reducible apply j_block) | (with_reducible apply j_ret) | (with_reducible apply j_skip) | (with_reducible apply j_exit) | (with_reducible apply j_label) | (with_reducible apply j_region_lit)
      | ((with_reducible refine j_true ?_ ?_); (focus rfl)) | ((with_reducible refine j_false ?_ ?_); (focus rfl))
      | (with_reducible show Then _ _ _ _ _ _; simp only [Then])
      | (with_reducible show InBlock _ _ _ _ _ _; simp only [InBlock, ↓reduceIte, Nat.reduceEqDiff])))
    exact body_ret1 rfl rfl ⟨rfl, ⟨.refl _ _, ⟨_, hK⟩, _, hK⟩, true, [], rfl, by rw [List.append_nil]; exact hK, (fun _ => .done hp), (fun h => by cases h)⟩
theorem try_all {H : Hd} (F : Fit H) : ∀ n, TrySt X H n := by
  intro n
  induction n using Nat.strongRecOn with
  | _ n ih => exact try_step F n ih
end
end Go.Proofs.YtgchailmcbifdaaDoor.Jg
