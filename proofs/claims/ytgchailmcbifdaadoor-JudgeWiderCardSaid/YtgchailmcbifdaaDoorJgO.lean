/- Package judge: the search, the rows behind one call. -/
import Derived.Test.YtgchailmcbifdaaDoorJgN
namespace Go.Proofs.YtgchailmcbifdaaDoor.Jg
set_option linter.unusedSimpArgs false
set_option linter.unusedVariables false
set_option maxRecDepth 20000
open Go Go.Conc Go.RowKit Go.Proofs.YtgchailmcbifdaaDoor.Jay Go.Proofs.YtgchailmcbifdaaDoor.Pl
section
variable {γ : Type} {X : Turns γ} {s : γ} {w : World}
attribute [local go_sem] upon_value upon_skip

def innerOf : Code → Code
  | .loop (.seq _ (.seq _ (.seq (.block _ (.seq _ (.seq _ (.seq _ (.block _ e))))) _))) => e
  | _ => .skip
/-- The cells that were there are kept. -/
def Cs (W W' : World) : Prop := ∀ p : Addr, p.block < W.heap.size → W'.cell? p = W.cell? p
def TryIn {γ : Type} (H : Hd) (n d i : Nat) (row : List Int) (A : Option Addr) (c : Nat) (rows : List (List Int)) (V : Value) (ks : List (List UInt8)) (s' : γ) (w : World) (s2 : γ) (a : Act) (W : World) : Prop := s2 = s' ∧ ∃ (j : Nat) (ks' : List (List UInt8)), Kp H.gm w W ∧ Tr W H.gm (ks ++ ks') ∧ j ≤ rows.length ∧ InvL H n (ks ++ ks') ∧ Few H n ks' ∧ (∀ j' nx, j' < j → rows[j']? = some nx → ¬ H.path (d ||| 2 ^ i) nx) ∧ Rws W w.heap.size V rows ∧
  (∃ v7 v8 v9 v10 v12 v13 v14 v15 v16 v17 v18 v19 v20 v21 v22 v23 v24 v25 v26 v27 v31 v32 v33 v34 v35 v36 v37 v38 v39 v40 v41 v42 v43 v44 v45 v46 v47 v48 v52 v53 v54 v55 v56 v57 v58 v59 v60 v61 v62 v63, a = { tmps := #[.int .i64 d, .slice A row.length c, .pointer (some ⟨H.ga, 0, none⟩), .pointer (some ⟨H.gt, 0, none⟩), .pointer (some ⟨H.gl, 0, none⟩), .pointer (some ⟨H.gc, 0, none⟩), .pointer (some ⟨H.gf, 0, none⟩), v7, v8, v9, v10, .int .i64 i, v12, v13, v14, v15, v16, v17, v18, v19, v20, v21, v22, v23, v24, v25, v26, v27, H.lv, .int .i64 H.l.length, .int .i64 i, v31, v32, v33, v34, v35, v36, v37, v38, v39, v40, v41, v42, v43, v44, v45, v46, v47, v48, V, .int .i64 rows.length, .int .i64 j, v52, v53, v54, v55, v56, v57, v58, v59, v60, v61, v62, v63], defers := [] })
def TryMu {γ : Type} (n : Nat) (_ : γ) (a : Act) (_ : World) : Nat := match a.tmps.getD 51 undef with
  | .int _ i => n - i.toNat
  | _ => 0
/-- What is left to a search behind one call. -/
def TryLeft {γ : Type} (H : Hd) (d : Nat) (row : List Int) (A : Option Addr) (c i : Nat) (s2 : γ) (a : Act) : Prop :=
  (∃ v7 v8 v9 v10 v11 v12 v13 v14 v15 v16 v17 v18 v19 v20 v21 v22 v23 v24 v25 v26 v27 v31 v32 v33 v34 v35 v36 v37 v38 v39 v40 v41 v42 v43 v44 v45 v46 v47 v48 v49 v50 v51 v52 v53 v54 v55 v56 v57 v58 v59 v60 v61 v62 v63, a = { tmps := #[.int .i64 d, .slice A row.length c, .pointer (some ⟨H.ga, 0, none⟩), .pointer (some ⟨H.gt, 0, none⟩), .pointer (some ⟨H.gl, 0, none⟩), .pointer (some ⟨H.gc, 0, none⟩), .pointer (some ⟨H.gf, 0, none⟩), v7, v8, v9, v10, v11, v12, v13, v14, v15, v16, v17, v18, v19, v20, v21, v22, v23, v24, v25, v26, v27, H.lv, .int .i64 H.l.length, .int .i64 i, v31, v32, v33, v34, v35, v36, v37, v38, v39, v40, v41, v42, v43, v44, v45, v46, v47, v48, v49, v50, v51, v52, v53, v54, v55, v56, v57, v58, v59, v60, v61, v62, v63], defers := [] })

set_option maxHeartbeats 16000000 in
theorem try_inner {H : Hd} (F : Fit H) {n d i : Nat} {row : List Int} {A : Option Addr} {c : Nat} {rows : List (List Int)} {V : Value} {ks : List (List UInt8)} (ih : ∀ m, m < n → TrySt X H m) (hE : Env H w) (hm : ¬ X.oth s H.gm) (hd : d < 2 ^ H.l.length) (hl : lev H.l.length d = n) (hi : i < H.l.length) (hbit : d.testBit i = false)
    (hlen : row.length + n ≤ H.l.length) (hrows : ∀ nx ∈ rows, Good nx ∧ nx.length ≤ row.length + 1) {a : Act} {W : World} (hI : TryIn H n d i row A c rows V ks s w s a W) {Q : γ → Exit → Act → World → Prop} (hQl : Loose Q)
    (hexit : ∀ a' W' ks', TryLeft H d row A c i s a' → Kp H.gm w W' → Tr W' H.gm (ks ++ ks') → InvL H n (ks ++ ks') → Few H n ks' → (∀ nx ∈ rows, ¬ H.path (d ||| 2 ^ i) nx) → Q s (.exit 2) a' W')
    (hret : ∀ a' W' ks' nx, a'.defers = [] → a'.tmps.getD 9 undef = .bool true → Kp H.gm w W' → Tr W' H.gm (ks ++ ks') → nx ∈ rows → H.path (d ||| 2 ^ i) nx → Q s .ret a' W') :
    Wp Tryd.prog X 11 (innerOf (loopIn (headOf 5 Tryd.f11.body))) Q s a W := by
  have hn8 : H.l.length ≤ 8 := F.n8
  have hd8 : d < 256 := Nat.lt_of_lt_of_le hd (Nat.le_trans (Nat.pow_le_pow_right (by decide) hn8) (by decide))
  have hlev := lev_set hi hbit
  have hd2 : d ||| 2 ^ i < 2 ^ H.l.length := set_lt hd hi
  have hor := or_bit hd8 (show i < 8 by omega)
  generalize hd' : d ||| 2 ^ i = d' at hor hlev hd2 hexit hret
  conv => arg 4; whnf
  refine j_loop (I := TryIn H n d i row A c rows V ks s w) (μ := TryMu rows.length) hI ?_
  clear hI W a
  rintro s2 a W ⟨rfl, j, ks', hk, hK, hj, hInv, hFew, hno, hV, v7, v8, v9, v10, v12, v13, v14, v15, v16, v17, v18, v19, v20, v21, v22, v23, v24, v25, v26, v27, v31, v32, v33, v34, v35, v36, v37, v38, v39, v40, v41, v42, v43, v44, v45, v46, v47, v48, v52, v53, v54, v55, v56, v57, v58, v59, v60, v61, v62, v63, rfl⟩
  by_cases hlt : j < rows.length
  · have c1 : decide ((j : Int) < (rows.length : Int)) = true := decide_eq_true (by omega)
    have c2 : decide (j < rows.length) = true := decide_eq_true hlt
    obtain ⟨vs, hvs, hown⟩ := hV.rd
    have hrj : rows[j]? = some rows[j] := List.getElem?_eq_getElem hlt
    obtain ⟨v, hv, hrw, -⟩ := hvs.2 j _ hrj
    obtain ⟨hG, hle⟩ := hrows _ (List.getElem_mem hlt)
    have hmem : rows[j] ∈ rows := List.getElem_mem hlt
    generalize rows[j] = nx at hrj hrw hG hle hmem
    rw [hvs.1] at hown
    obtain ⟨b, o, cV, rfl, hb, hcV, hcM, hcell⟩ := Sl.row (Sl.of_own hown) (by omega)
    have y0 := hcell j v hv
    obtain ⟨A2, c2', rfl, -, -⟩ := hrw.form
    have hidx : (0 : Int) ≤ (j : Int) ∧ (j : Int) < (rows.length : Int) := by omega
    clear hcell hvs hv hown
    have bf := hk.blk hE.bf
    have lf := bf.lt
    have df := bf.cell
    unfold Hd.clo at df
    have hw : IntKind.i64.wrap ((j : Int) + 1) = (j : Int) + 1 := by unfold maxLen at hcM; simp [IntKind.wrap, IntKind.bits, IntKind.signed]; omega
    repeat (first
      | ((with_reducible refine lst_free ?_ ?_ (fun K hK => ?_)); (focus with_reducible rfl); (focus (intro ht; refine fine_none ?_ ht; (focus (first | (with_reducible apply only_idle); (focus decide) | (with_reducible apply only_turn); (focus rfl); (focus rfl); (focus kernel_rfl) | exact only_calc rfl rfl rfl | exact only_check rfl rfl | exact only_cap rfl rfl | exact only_min rfl rfl rfl | exact only_max rfl rfl rfl)))); go_simp; refine hK _ _ _ ?_; clear hK K)
      | ((with_reducible refine lst_off (i := ?_) (b := ?_) (d := ?_) ?_ ?_ ?_ ?_); rotate_left 3; (focus with_reducible rfl); (focus rfl); (focus (simp only [List.getElem?_toArray, List.getElem?_cons_succ, List.getElem?_cons_zero, Bool.not_true, Bool.not_false])); simp only [Act.put, List.setIfInBounds_toArray, List.set_cons_zero, List.set_cons_succ])
      | ((with_reducible refine lst_on (i := ?_) (b := ?_) (d := ?_) ?_ ?_ ?_ ?_ (fun K hK => ?_)); rotate_left 3; (focus with_reducible rfl); (focus rfl); (focus (simp only [List.getElem?_toArray, List.getElem?_cons_succ, List.getElem?_cons_zero])); (focus (intro ht; refine fine_none ?_ ht; (focus (first | (with_reducible apply only_idle); (focus decide) | (with_reducible apply only_turn); (focus rfl); (focus rfl); (focus kernel_rfl) | exact only_calc rfl rfl rfl | exact only_check rfl rfl | exact only_cap rfl rfl | exact only_min rfl rfl rfl | exact only_max rfl rfl rfl)))); go_simp; refine hK _ _ _ ?_; clear hK K)
      | ((with_reducible refine lst_undef (i := ?_) (b := ?_) (d := ?_) ?_ ?_ ?_ ?_); rotate_left 3; (focus with_reducible rfl); (focus rfl); (focus (simp only [List.getElem?_toArray, List.getElem?_cons_succ, List.getElem?_cons_zero])); simp only [Act.put, List.setIfInBounds_toArray, List.set_cons_zero, List.set_cons_succ])
      | (with_reducible apply lst_nil)
      | ((fail_if_success (with_reducible refine lst_any ?_)); first
      | (with_reducible apply j_seq) | (with_reducible apply j_block) | (with_reducible apply j_ret) | (with_reducible apply j_skip) | (with_reducible apply j_exit) | (with_reducible apply j_label) | (with_reducible apply j_region_lit)
      | ((with_reducible refine j_true ?_ ?_); (focus rfl)) | ((with_reducible refine j_false ?_ ?_); (focus rfl))
      | (with_reducible show Then _ _ _ _ _ _; simp only [Then])
      | (with_reducible show InBlock _ _ _ _ _ _; simp only [InBlock, ↓reduceIte, Nat.reduceEqDiff])))
    refine j_region_dl [0, 0, 0, 4, 14, 0, 63] [0, 1, 2, 3, 4, 5, 6] (Cs W) rfl (by decide +kernel) (by repeat (first | assumption | exact loose_body | (with_reducible apply loose_then) | (with_reducible apply loose_block) | (with_reducible apply loose_noGoto) | (with_reducible apply loose_jump))) ?_ ?_
    focus exact fun p hp => rfl
    repeat (first
      | (with_reducible apply dl_nil)
      | ((with_reducible apply dl_calm); (focus rfl); (focus rfl); (focus rfl); (focus (first | (with_reducible apply only_idle); (focus decide) | (with_reducible apply only_turn); (focus rfl); (focus rfl); (focus kernel_rfl) | exact only_calc rfl rfl rfl | exact only_check rfl rfl | exact only_cap rfl rfl | exact only_min rfl rfl rfl | exact only_max rfl rfl rfl)); (focus (intro wS hS; have hcS : ∀ p : Addr, p.block < (World.heap W).size → wS.cell? p = World.cell? W p := hS; go_simp; try rfl)); simp only [Act.put, List.setIfInBounds_toArray, List.set_cons_zero, List.set_cons_succ])
      | (with_reducible show Then _ _ _ _ _ _; simp only [Then])
      | (with_reducible show InBlock _ _ _ _ _ _; simp only [InBlock, ↓reduceIte, Nat.reduceEqDiff]))
    have hk2 : Kp H.gm w W.drew := ⟨hk.1.drew, hk.2.1, hk.2.2⟩
    refine dl_do (o := ?_) ?_ ?_ ?_
    rotate_left 1
    focus rfl
    focus rfl
    refine one_callv (f := 11) (vals := #[.int .i64 d', .slice A2 nx.length c2', .pointer (some ⟨H.ga, 0, none⟩), .pointer (some ⟨H.gt, 0, none⟩), .pointer (some ⟨H.gl, 0, none⟩), .pointer (some ⟨H.gc, 0, none⟩), .pointer (some ⟨H.gf, 0, none⟩)]) rfl rfl rfl ?_ Tryd.func11 rfl rfl
      (Jdo.mono (ih (n - 1) (by omega) s2 W.drew d' nx (.slice A2 nx.length c2') (ks ++ ks') (hE.keep hk2) hK hm hd2 (by omega) hG (by omega) hrw (hInv.mono (by omega))) fun s' r w' hp => ?_)
    focus
      first | rfl | (go_simp; done) | (go_simp; rfl)
    obtain ⟨rfl, hk3, bb, ks2, rfl, hT2, hyes, hnot⟩ := hp
    have hk4 := hk2.trans hk3
    refine ⟨_, fun p hp => hk3.cell hp, fun _ => rfl, ?_⟩
    simp only [Act.put, List.setIfInBounds_toArray, List.set_cons_zero, List.set_cons_succ]
    clear y0 df bf
    cases bb
    · obtain ⟨hn1, hn2, hn3⟩ := hnot rfl
      clear hyes hnot
      repeat (first
        | (with_reducible apply dl_nil)
        | ((with_reducible apply dl_calm); (focus rfl); (focus rfl); (focus rfl); (focus (first | (with_reducible apply only_idle); (focus decide) | (with_reducible apply only_turn); (focus rfl); (focus rfl); (focus kernel_rfl) | exact only_calc rfl rfl rfl | exact only_check rfl rfl | exact only_cap rfl rfl | exact only_min rfl rfl rfl | exact only_max rfl rfl rfl)); (focus (intro wS hS; have hcS : ∀ p : Addr, p.block < (World.heap W).size → wS.cell? p = World.cell? W p := hS; go_simp; try rfl)); simp only [Act.put, List.setIfInBounds_toArray, List.set_cons_zero, List.set_cons_succ])
        | (with_reducible show Then _ _ _ _ _ _; simp only [Then])
        | (with_reducible show InBlock _ _ _ _ _ _; simp only [InBlock, ↓reduceIte, Nat.reduceEqDiff]))
      repeat (first
        | ((with_reducible refine lst_free ?_ ?_ (fun K hK => ?_)); (focus with_reducible rfl); (focus (intro ht; refine fine_none ?_ ht; (focus (first | (with_reducible apply only_idle); (focus decide) | (with_reducible apply only_turn); (focus rfl); (focus rfl); (focus kernel_rfl) | exact only_calc rfl rfl rfl | exact only_check rfl rfl | exact only_cap rfl rfl | exact only_min rfl rfl rfl | exact only_max rfl rfl rfl)))); go_simp; refine hK _ _ _ ?_; clear hK K)
        | ((with_reducible refine lst_off (i := ?_) (b := ?_) (d := ?_) ?_ ?_ ?_ ?_); rotate_left 3; (focus with_reducible rfl); (focus rfl); (focus (simp only [List.getElem?_toArray, List.getElem?_cons_succ, List.getElem?_cons_zero, Bool.not_true, Bool.not_false])); simp only [Act.put, List.setIfInBounds_toArray, List.set_cons_zero, List.set_cons_succ])
        | ((with_reducible refine lst_on (i := ?_) (b := ?_) (d := ?_) ?_ ?_ ?_ ?_ (fun K hK => ?_)); rotate_left 3; (focus with_reducible rfl); (focus rfl); (focus (simp only [List.getElem?_toArray, List.getElem?_cons_succ, List.getElem?_cons_zero])); (focus (intro ht; refine fine_none ?_ ht; (focus (first | (with_reducible apply only_idle); (focus decide) | (with_reducible apply only_turn); (focus rfl); (focus rfl); (focus kernel_rfl) | exact only_calc rfl rfl rfl | exact only_check rfl rfl | exact only_cap rfl rfl | exact only_min rfl rfl rfl | exact only_max rfl rfl rfl)))); go_simp; refine hK _ _ _ ?_; clear hK K)
        | ((with_reducible refine lst_undef (i := ?_) (b := ?_) (d := ?_) ?_ ?_ ?_ ?_); rotate_left 3; (focus with_reducible rfl); (focus rfl); (focus (simp only [List.getElem?_toArray, List.getElem?_cons_succ, List.getElem?_cons_zero])); simp only [Act.put, List.setIfInBounds_toArray, List.set_cons_zero, List.set_cons_succ])
        | (with_reducible apply lst_nil)
        | ((fail_if_success (with_reducible refine lst_any ?_)); first
        | (with_reducible apply j_seq) | (with_reducible apply j_block) | (with_reducible apply j_ret) | (with_reducible apply j_skip) | (with_reducible apply j_exit) | (with_reducible apply j_label) | (with_reducible apply j_region_lit)
        | ((with_reducible refine j_true ?_ ?_); (focus rfl)) | ((with_reducible refine j_false ?_ ?_); (focus rfl))
        | (with_reducible show Then _ _ _ _ _ _; simp only [Then])
        | (with_reducible show InBlock _ _ _ _ _ _; simp only [InBlock, ↓reduceIte, Nat.reduceEqDiff])))
      rw [List.append_assoc] at hT2 hn2
      refine ⟨⟨rfl, j + 1, ks' ++ ks2, hk4, hT2, by omega, hn2.mono (by omega), fun q hq => ?_, fun j' nx' h1 h2 => ?_, hk3.rws (show Rws W.drew _ _ _ from hV), _, _, _, _, _, _, _, _, _, _, _, _, _, _, _, _, _, _, _, _, _, _, _, _, _, _, _, _, _, _, _, _, _, _, _, _, _, _, _, _, _, _, _, _, _, _, _, _, _, _, rfl⟩, by show rows.length - ((j : Int) + 1).toNat < rows.length - ((j : Int)).toNat; omega⟩
      · rcases List.mem_append.1 hq with h1 | h1
        · exact hFew q h1
        · exact (hn3.mono (by omega)) q h1
      · rcases Nat.lt_or_eq_of_le (Nat.le_of_lt_succ h1) with h3 | rfl
        · exact hno j' nx' h3 h2
        · rw [hrj] at h2
          cases h2
          rw [hd']
          exact hn1
    · have hyes := hyes rfl
      repeat (first
        | (with_reducible apply dl_nil)
        | ((with_reducible apply dl_calm); (focus rfl); (focus rfl); (focus rfl); (focus (first | (with_reducible apply only_idle); (focus decide) | (with_reducible apply only_turn); (focus rfl); (focus rfl); (focus kernel_rfl) | exact only_calc rfl rfl rfl | exact only_check rfl rfl | exact only_cap rfl rfl | exact only_min rfl rfl rfl | exact only_max rfl rfl rfl)); (focus (intro wS hS; have hcS : ∀ p : Addr, p.block < (World.heap W).size → wS.cell? p = World.cell? W p := hS; go_simp; try rfl)); simp only [Act.put, List.setIfInBounds_toArray, List.set_cons_zero, List.set_cons_succ])
        | (with_reducible show Then _ _ _ _ _ _; simp only [Then])
        | (with_reducible show InBlock _ _ _ _ _ _; simp only [InBlock, ↓reduceIte, Nat.reduceEqDiff]))
      repeat (first
        | ((with_reducible refine lst_free ?_ ?_ (fun K hK => ?_)); (focus with_reducible rfl); (focus (intro ht; refine fine_none ?_ ht; (focus (first | (with_reducible apply only_idle); (focus decide) | (with_reducible apply only_turn); (focus rfl); (focus rfl); (focus kernel_rfl) | exact only_calc rfl rfl rfl | exact only_check rfl rfl | exact only_cap rfl rfl | exact only_min rfl rfl rfl | exact only_max rfl rfl rfl)))); go_simp; refine hK _ _ _ ?_; clear hK K)
        | ((with_reducible refine lst_off (i := ?_) (b := ?_) (d := ?_) ?_ ?_ ?_ ?_); rotate_left 3; (focus with_reducible rfl); (focus rfl); (focus (simp only [List.getElem?_toArray, List.getElem?_cons_succ, List.getElem?_cons_zero, Bool.not_true, Bool.not_false])); simp only [Act.put, List.setIfInBounds_toArray, List.set_cons_zero, List.set_cons_succ])
        | ((with_reducible refine lst_on (i := ?_) (b := ?_) (d := ?_) ?_ ?_ ?_ ?_ (fun K hK => ?_)); rotate_left 3; (focus with_reducible rfl); (focus rfl); (focus (simp only [List.getElem?_toArray, List.getElem?_cons_succ, List.getElem?_cons_zero])); (focus (intro ht; refine fine_none ?_ ht; (focus (first | (with_reducible apply only_idle); (focus decide) | (with_reducible apply only_turn); (focus rfl); (focus rfl); (focus kernel_rfl) | exact only_calc rfl rfl rfl | exact only_check rfl rfl | exact only_cap rfl rfl | exact only_min rfl rfl rfl | exact only_max rfl rfl rfl)))); go_simp; refine hK _ _ _ ?_; clear hK K)
        | ((with_reducible refine lst_undef (i := ?_) (b := ?_) (d := ?_) ?_ ?_ ?_ ?_); rotate_left 3; (focus with_reducible rfl); (focus rfl); (focus (simp only [List.getElem?_toArray, List.getElem?_cons_succ, List.getElem?_cons_zero])); simp only [Act.put, List.setIfInBounds_toArray, List.set_cons_zero, List.set_cons_succ])
        | (with_reducible apply lst_nil)
        | ((fail_if_success (with_reducible refine lst_any ?_)); first
        | (with_reducible apply j_seq) | (with_reducible apply j_block) | (with_reducible apply j_ret) | (with_reducible apply j_skip) | (with_reducible apply j_exit) | (with_reducible apply j_label) | (with_reducible apply j_region_lit)
        | ((with_reducible refine j_true ?_ ?_); (focus rfl)) | ((with_reducible refine j_false ?_ ?_); (focus rfl))
        | (with_reducible show Then _ _ _ _ _ _; simp only [Then])
        | (with_reducible show InBlock _ _ _ _ _ _; simp only [InBlock, ↓reduceIte, Nat.reduceEqDiff])))
      rw [List.append_assoc] at hT2
      exact hret _ _ _ nx rfl rfl hk4 hT2 hmem hyes
  · have c1 : decide ((j : Int) < (rows.length : Int)) = false := decide_eq_false (by omega)
    have c2 : decide (j < rows.length) = false := decide_eq_false hlt
    repeat (first
      | ((with_reducible refine lst_free ?_ ?_ (fun K hK => ?_)); (focus with_reducible rfl); (focus (intro ht; refine fine_none ?_ ht; (focus (first | (with_reducible apply only_idle); (focus decide) | (with_reducible apply only_turn); (focus rfl); (focus rfl); (focus kernel_rfl) | exact only_calc rfl rfl rfl | exact only_check rfl rfl | exact only_cap rfl rfl | exact only_min rfl rfl rfl | exact only_max rfl rfl rfl)))); go_simp; refine hK _ _ _ ?_; clear hK K)
      | ((with_reducible refine lst_off (i := ?_) (b := ?_) (d := ?_) ?_ ?_ ?_ ?_); rotate_left 3; (focus with_reducible rfl); (focus rfl); (focus (simp only [List.getElem?_toArray, List.getElem?_cons_succ, List.getElem?_cons_zero, Bool.not_true, Bool.not_false])); simp only [Act.put, List.setIfInBounds_toArray, List.set_cons_zero, List.set_cons_succ])
      | ((with_reducible refine lst_on (i := ?_) (b := ?_) (d := ?_) ?_ ?_ ?_ ?_ (fun K hK => ?_)); rotate_left 3; (focus with_reducible rfl); (focus rfl); (focus (simp only [List.getElem?_toArray, List.getElem?_cons_succ, List.getElem?_cons_zero])); (focus (intro ht; refine fine_none ?_ ht; (focus (first | (with_reducible apply only_idle); (focus decide) | (with_reducible apply only_turn); (focus rfl); (focus rfl); (focus kernel_rfl) | exact only_calc rfl rfl rfl | exact only_check rfl rfl | exact only_cap rfl rfl | exact only_min rfl rfl rfl | exact only_max rfl rfl rfl)))); go_simp; refine hK _ _ _ ?_; clear hK K)
      | ((with_reducible refine lst_undef (i := ?_) (b := ?_) (d := ?_) ?_ ?_ ?_ ?_); rotate_left 3; (focus with_reducible rfl); (focus rfl); (focus (simp only [List.getElem?_toArray, List.getElem?_cons_succ, List.getElem?_cons_zero])); simp only [Act.put, List.setIfInBounds_toArray, List.set_cons_zero, List.set_cons_succ])
      | (with_reducible apply lst_nil)
      | ((fail_if_success (with_reducible refine lst_any ?_)); first
      | (with_reducible apply j_seq) | (with_reducible apply j_block) | (with_reducible apply j_ret) | (with_reducible apply j_skip) | (with_reducible apply j_exit) | (with_reducible apply j_label) | (with_reducible apply j_region_lit)
      | ((with_reducible refine j_true ?_ ?_); (focus rfl)) | ((with_reducible refine j_false ?_ ?_); (focus rfl))
      | (with_reducible show Then _ _ _ _ _ _; simp only [Then])
      | (with_reducible show InBlock _ _ _ _ _ _; simp only [InBlock, ↓reduceIte, Nat.reduceEqDiff])))
    refine hexit _ W ks' ⟨_, _, _, _, _, _, _, _, _, _, _, _, _, _, _, _, _, _, _, _, _, _, _, _, _, _, _, _, _, _, _, _, _, _, _, _, _, _, _, _, _, _, _, _, _, _, _, _, _, _, _, _, _, _, rfl⟩ hk hK hInv hFew fun nx hnx => ?_
    obtain ⟨j', h1, h2⟩ := List.mem_iff_getElem.1 hnx
    rw [← hd']
    exact hno j' nx (by omega) (by rw [List.getElem?_eq_getElem h1, h2])
end
end Go.Proofs.YtgchailmcbifdaaDoor.Jg
