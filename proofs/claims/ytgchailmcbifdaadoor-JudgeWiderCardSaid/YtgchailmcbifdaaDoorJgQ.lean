/- Package judge: the search, over the calls. -/
import Derived.Test.YtgchailmcbifdaaDoorJgO
namespace Go.Proofs.YtgchailmcbifdaaDoor.Jg
set_option linter.unusedSimpArgs false
set_option linter.unusedVariables false
set_option maxRecDepth 20000
open Go Go.Conc Go.RowKit Go.Proofs.YtgchailmcbifdaaDoor.Jay Go.Proofs.YtgchailmcbifdaaDoor.Pl
section
variable {γ : Type} {X : Turns γ} {s : γ} {w : World}
attribute [local go_sem] upon_value upon_skip

def TryOut {γ : Type} (H : Hd) (n d : Nat) (row : List Int) (A : Option Addr) (c : Nat) (ks : List (List UInt8)) (s' : γ) (w : World) (s2 : γ) (a : Act) (W : World) : Prop := s2 = s' ∧ ∃ (i : Nat) (ks' : List (List UInt8)), Kp H.gm w W ∧ Tr W H.gm (ks ++ ks') ∧ i ≤ H.l.length ∧ InvL H n (ks ++ ks') ∧ Few H n ks' ∧
  (∀ (j : Nat) (x : Cl) (nx : List Int), j < i → H.l[j]? = some x → d.testBit j = false → earlyB H.l d x = false → nx ∈ behindL H.k H.K x row → ¬ H.path (d ||| 2 ^ j) nx) ∧ TryLeft H d row A c i s2 a
def OutMu {γ : Type} (n : Nat) (_ : γ) (a : Act) (_ : World) : Nat := match a.tmps.getD 30 undef with
  | .int _ i => n - i.toNat
  | _ => 0

set_option maxHeartbeats 16000000 in
theorem try_loop {H : Hd} (F : Fit H) {n d : Nat} {row : List Int} {A : Option Addr} {c : Nat} {ks : List (List UInt8)} (ih : ∀ m, m < n → TrySt X H m) (hE : Env H w) (hm : ¬ X.oth s H.gm) (ht : X.there s w) (hd : d < 2 ^ H.l.length) (hl : lev H.l.length d = n)
    (hG : Good row) (hlen : row.length + n ≤ H.l.length) (hr : Rw w w.heap.size (.slice A row.length c) row) {a : Act} {W : World} (hI : TryOut H n d row A c ks s w s a W) {Post : γ → Came → World → Prop}
    (hyes : ∀ W' ks', Kp H.gm w W' → Tr W' H.gm (ks ++ ks') → (∃ (k : Nat) (x : Cl) (nx : List Int), H.l[k]? = some x ∧ d.testBit k = false ∧ earlyB H.l d x = false ∧ nx ∈ behindL H.k H.K x row ∧ H.path (d ||| 2 ^ k) nx) → Post s (.back (.bool true)) W')
    (hnot : ∀ W' ks', Kp H.gm w W' → Tr W' H.gm (ks ++ ks') → InvL H n (ks ++ ks') → Few H n ks' → (∀ (j : Nat) (x : Cl) (nx : List Int), H.l[j]? = some x → d.testBit j = false → earlyB H.l d x = false → nx ∈ behindL H.k H.K x row → ¬ H.path (d ||| 2 ^ j) nx) → Post s (.back (.bool false)) W') :
    Wp Tryd.prog X 11 (loopIn (headOf 5 Tryd.f11.body)) (InBlock 0 (Then (Wp Tryd.prog X 11 (tailOf 6 Tryd.f11.body) (Body Tryd.prog Tryd.f11 Post)) (Body Tryd.prog Tryd.f11 Post))) s a W := by
  have hn8 : H.l.length ≤ 8 := F.n8
  have hd8 : d < 256 := Nat.lt_of_lt_of_le hd (Nat.le_trans (Nat.pow_le_pow_right (by decide) hn8) (by decide))
  have hoth : ∀ b, w.heap.size ≤ b → ¬ X.oth s b := fun b hb ho => by have := ht b ho; omega
  conv => arg 4; whnf
  conv in tailOf 6 _ => whnf
  refine j_loop (I := TryOut H n d row A c ks s w) (μ := OutMu H.l.length) hI ?_
  clear hI W a
  rintro s2 a W ⟨rfl, i, ks', hk, hK, hi, hInv, hFew, hno, v7, v8, v9, v10, v11, v12, v13, v14, v15, v16, v17, v18, v19, v20, v21, v22, v23, v24, v25, v26, v27, v31, v32, v33, v34, v35, v36, v37, v38, v39, v40, v41, v42, v43, v44, v45, v46, v47, v48, v49, v50, v51, v52, v53, v54, v55, v56, v57, v58, v59, v60, v61, v62, v63, rfl⟩
  by_cases hlt : i < H.l.length
  · have c1 : decide ((i : Int) < (H.l.length : Int)) = true := decide_eq_true (by omega)
    have c2 : decide (i < H.l.length) = true := decide_eq_true hlt
    have hE1 := hE.keep hk
    obtain ⟨b, o, cc, ev, hb, _, _, hat⟩ := Cls.at_ hE1.cl (by omega)
    have y0 : W.cell? ⟨b, o + i * 7, none⟩ = some (.int .i64 H.l[i].th) := hat i hlt 0 _ rfl
    have y1 : W.cell? ⟨b, o + i * 7 + 1, none⟩ = some (.int .i64 H.l[i].kind) := hat i hlt 1 _ rfl
    have y2 : W.cell? ⟨b, o + i * 7 + 2, none⟩ = some (.int .u32 H.l[i].val) := hat i hlt 2 _ rfl
    have y3 : W.cell? ⟨b, o + i * 7 + 3, none⟩ = some (.int .i64 H.l[i].fr) := hat i hlt 3 _ rfl
    have y4 : W.cell? ⟨b, o + i * 7 + 4, none⟩ = some (.int .i64 H.l[i].to) := hat i hlt 4 _ rfl
    have y5 : W.cell? ⟨b, o + i * 7 + 5, none⟩ = some (.int .i64 H.l[i].code) := hat i hlt 5 _ rfl
    have y6 : W.cell? ⟨b, o + i * 7 + 6, none⟩ = some (.int .u32 H.l[i].out) := hat i hlt 6 _ rfl
    have hidx : (0 : Int) ≤ (i : Int) ∧ (i : Int) < (H.l.length : Int) := by omega
    clear hat
    have hxi : H.l[i]? = some H.l[i] := List.getElem?_eq_getElem hlt
    have hxm : H.l[i] ∈ H.l := List.getElem_mem hlt
    generalize H.l[i] = y at y0 y1 y2 y3 y4 y5 y6 hxi hxm
    have hw : IntKind.i64.wrap ((i : Int) + 1) = (i : Int) + 1 := by simp [IntKind.wrap, IntKind.bits, IntKind.signed]; omega
    have hne : (bits .and .i64 (d : Int) (IntKind.i64.wrap (2 ^ i)) != 0) = d.testBit i := by
      unfold bne
      rw [land_bit hd8 (show i < 8 by omega), Bool.not_not]
    have nxt : (∀ (nx : List Int), d.testBit i = false → earlyB H.l d y = false → nx ∈ behindL H.k H.K y row → ¬ H.path (d ||| 2 ^ i) nx) → ∀ (j : Nat) (x : Cl) (nx : List Int), j < i + 1 → H.l[j]? = some x → d.testBit j = false → earlyB H.l d x = false → nx ∈ behindL H.k H.K x row → ¬ H.path (d ||| 2 ^ j) nx := by
      intro hh j x nx h1 h2 h3 h4 h5
      rcases Nat.lt_or_eq_of_le (Nat.le_of_lt_succ h1) with h6 | rfl
      · exact hno j x nx h6 h2 h3 h4 h5
      · rw [hxi] at h2
        cases h2
        exact hh nx h3 h4 h5
    have dl := hE1.bl.cell
    have ll := hE1.bl.lt
    have dc := hE1.bc.cell
    have lc := hE1.bc.lt
    repeat (first
      | ((with_reducible refine lst_free ?_ ?_ (fun K hK => ?_)); (focus with_reducible rfl); (focus (intro ht; refine fine_none ?_ ht; (focus (first | (with_reducible apply only_idle); (focus decide) | (with_reducible apply only_turn); (focus rfl); (focus rfl); (focus kernel_rfl) | exact only_calc rfl rfl rfl | exact only_check rfl rfl | exact only_cap rfl rfl | exact only_min rfl rfl rfl | exact only_max rfl rfl rfl)))); go_simp; refine hK _ _ _ ?_; clear hK K)
      | ((with_reducible refine lst_off (i := ?_) (b := ?_) (d := ?_) ?_ ?_ ?_ ?_); rotate_left 3; (focus with_reducible rfl); (focus rfl); (focus (simp only [List.getElem?_toArray, List.getElem?_cons_succ, List.getElem?_cons_zero, Bool.not_true, Bool.not_false])); simp only [Act.put, List.setIfInBounds_toArray, List.set_cons_zero, List.set_cons_succ])
      | ((with_reducible refine lst_on (i := ?_) (b := ?_) (d := ?_) ?_ ?_ ?_ ?_ (fun K hK => ?_)); rotate_left 3; (focus with_reducible rfl); (focus rfl); (focus (simp only [List.getElem?_toArray, List.getElem?_cons_succ, List.getElem?_cons_zero])); (focus (intro ht; refine fine_none ?_ ht; (focus (first | (with_reducible apply only_idle); (focus decide) | (with_reducible apply only_turn); (focus rfl); (focus rfl); (focus kernel_rfl) | exact only_calc rfl rfl rfl | exact only_check rfl rfl | exact only_cap rfl rfl | exact only_min rfl rfl rfl | exact only_max rfl rfl rfl)))); go_simp; refine hK _ _ _ ?_; clear hK K)
      | ((with_reducible refine lst_undef (i := ?_) (b := ?_) (d := ?_) ?_ ?_ ?_ ?_); rotate_left 3; (focus with_reducible rfl); (focus rfl); (focus (simp only [List.getElem?_toArray, List.getElem?_cons_succ, List.getElem?_cons_zero])); simp only [Act.put, List.setIfInBounds_toArray, List.set_cons_zero, List.set_cons_succ])
      | (with_reducible apply lst_nil)
      | ((fail_if_success (with_reducible refine lst_any ?_)); first
      | (with_reducible apply j_seq) | (with_reducible apply j_block) | (with_reducible apply j_ret) | (with_reducible apply j_skip) | (with_reducible apply j_exit) | (with_reducible apply j_label) | (with_reducible apply j_region_lit)
      | ((with_reducible refine j_true ?_ ?_); (focus rfl)) | ((with_reducible refine j_false ?_ ?_); (focus rfl))
      | (with_reducible show Then _ _ _ _ _ _; simp only [Then])
      | (with_reducible show InBlock _ _ _ _ _ _; simp only [InBlock, ↓reduceIte, Nat.reduceEqDiff])))
    refine lst_one (one_store (v := .agg #[.int .i64 (Cl.th y), .int .i64 (Cl.kind y), .int .u32 (Cl.val y), .int .i64 (Cl.fr y), .int .i64 (Cl.to y), .int .i64 (Cl.code y), .int .u32 (Cl.out y)]) (cs' := #[.int .i64 (Cl.th y), .int .i64 (Cl.kind y), .int .u32 (Cl.val y), .int .i64 (Cl.fr y), .int .i64 (Cl.to y), .int .i64 (Cl.code y), .int .u32 (Cl.out y)]) rfl rfl rfl rfl (Blk.new W _ _) (hoth _ hk.1.size) (by kernel_rfl) (Nat.le_of_ble_eq_true rfl) (by simp [Value.cells, Value.oneCell']) rfl ?_)
    simp only [Act.put, List.setIfInBounds_toArray, List.set_cons_zero, List.set_cons_succ]
    have bs := (Blk.new W 32 #[.int .i64 0, .int .i64 0, .int .u32 0, .int .i64 0, .int .i64 0, .int .i64 0, .int .u32 0]).row #[.int .i64 (Cl.th y), .int .i64 (Cl.kind y), .int .u32 (Cl.val y), .int .i64 (Cl.fr y), .int .i64 (Cl.to y), .int .i64 (Cl.code y), .int .u32 (Cl.out y)]
    have hb1 : Below (World.heap W).size W _ := Below_row ((Below.refl _ _).alloc (Nat.le_refl _) (.cells #[.int .i64 0, .int .i64 0, .int .u32 0, .int .i64 0, .int .i64 0, .int .i64 0, .int .u32 0] 32)) #[.int .i64 (Cl.th y), .int .i64 (Cl.kind y), .int .u32 (Cl.val y), .int .i64 (Cl.fr y), .int .i64 (Cl.to y), .int .i64 (Cl.code y), .int .u32 (Cl.out y)] (Nat.le_refl _)
    generalize hKW1 : (World.alloc W (.cells #[.int .i64 0, .int .i64 0, .int .u32 0, .int .i64 0, .int .i64 0, .int .i64 0, .int .u32 0] 32)).setRow (World.heap W).size #[.int .i64 (Cl.th y), .int .i64 (Cl.kind y), .int .u32 (Cl.val y), .int .i64 (Cl.fr y), .int .i64 (Cl.to y), .int .i64 (Cl.code y), .int .u32 (Cl.out y)] = W1 at bs hb1 ⊢
    clear hKW1
    clear y0 y1 y2 y3 y4 y5 y6 dl dc
    have hk1 := hk.trans (Kp.of_below hK hb1)
    have hK1 := hK.below hb1
    have hE2 := hE.keep hk1
    have dl := hE2.bl.cell
    have ll := hE2.bl.lt
    have dc := hE2.bc.cell
    have lc := hE2.bc.lt
    have ds := bs.cell
    have lbs := bs.lt
    cases hbit : d.testBit i
    · rw [hbit] at hne
      repeat (first
        | ((with_reducible refine lst_free ?_ ?_ (fun K hK => ?_)); (focus with_reducible rfl); (focus (intro ht; refine fine_none ?_ ht; (focus (first | (with_reducible apply only_idle); (focus decide) | (with_reducible apply only_turn); (focus rfl); (focus rfl); (focus kernel_rfl) | exact only_calc rfl rfl rfl | exact only_check rfl rfl | exact only_cap rfl rfl | exact only_min rfl rfl rfl | exact only_max rfl rfl rfl)))); go_simp; refine hK _ _ _ ?_; clear hK K)
        | ((with_reducible refine lst_off (i := ?_) (b := ?_) (d := ?_) ?_ ?_ ?_ ?_); rotate_left 3; (focus with_reducible rfl); (focus rfl); (focus (simp only [List.getElem?_toArray, List.getElem?_cons_succ, List.getElem?_cons_zero, Bool.not_true, Bool.not_false])); simp only [Act.put, List.setIfInBounds_toArray, List.set_cons_zero, List.set_cons_succ])
        | ((with_reducible refine lst_on (i := ?_) (b := ?_) (d := ?_) ?_ ?_ ?_ ?_ (fun K hK => ?_)); rotate_left 3; (focus with_reducible rfl); (focus rfl); (focus (simp only [List.getElem?_toArray, List.getElem?_cons_succ, List.getElem?_cons_zero])); (focus (intro ht; refine fine_none ?_ ht; (focus (first | (with_reducible apply only_idle); (focus decide) | (with_reducible apply only_turn); (focus rfl); (focus rfl); (focus kernel_rfl) | exact only_calc rfl rfl rfl | exact only_check rfl rfl | exact only_cap rfl rfl | exact only_min rfl rfl rfl | exact only_max rfl rfl rfl)))); go_simp; refine hK _ _ _ ?_; clear hK K)
        | ((with_reducible refine lst_undef (i := ?_) (b := ?_) (d := ?_) ?_ ?_ ?_ ?_); rotate_left 3; (focus with_reducible rfl); (focus rfl); (focus (simp only [List.getElem?_toArray, List.getElem?_cons_succ, List.getElem?_cons_zero])); simp only [Act.put, List.setIfInBounds_toArray, List.set_cons_zero, List.set_cons_succ])
        | (with_reducible apply lst_nil)
        | ((fail_if_success (with_reducible refine lst_any ?_)); first
        | (with_reducible apply j_seq) | (with_reducible apply j_block) | (with_reducible apply j_ret) | (with_reducible apply j_skip) | (with_reducible apply j_exit) | (with_reducible apply j_label) | (with_reducible apply j_region_lit)
        | ((with_reducible refine j_true ?_ ?_); (focus rfl)) | ((with_reducible refine j_false ?_ ?_); (focus rfl))
        | (with_reducible show Then _ _ _ _ _ _; simp only [Then])
        | (with_reducible show InBlock _ _ _ _ _ _; simp only [InBlock, ↓reduceIte, Nat.reduceEqDiff])))
      have hearly : Jdo Tryd.prog X 13 #[H.lv, .int .i64 d, clV y] s2 W1 _ := early (x := y) hE2.cl (Nat.le_refl _) hn8 hd8
      rw [ev] at hearly
      unfold clV at hearly
      refine lst_call _ rfl ?_ ?_ Tryd.func13 ?_ rfl hearly ?_
      focus rfl
      focus first | rfl | (go_simp; done) | (go_simp; rfl)
      focus rfl
      rintro s3 r W2 ⟨rfl, hb2, rfl⟩
      simp only [Act.put, List.setIfInBounds_toArray, List.set_cons_zero, List.set_cons_succ]
      have hk2 := hk1.trans (Kp.of_below hK1 hb2)
      have hK2 := hK1.below hb2
      have hE3 := hE.keep hk2
      clear dl dc ds
      cases hea : earlyB H.l d y
      · have bs2 := bs.below hb2 lbs
        have ds := bs2.cell
        have lbs2 := bs2.lt
        have dl := hE3.bl.cell
        have dc := hE3.bc.cell
        have lc2 := hE3.bc.lt
        repeat (first
          | ((with_reducible refine lst_free ?_ ?_ (fun K hK => ?_)); (focus with_reducible rfl); (focus (intro ht; refine fine_none ?_ ht; (focus (first | (with_reducible apply only_idle); (focus decide) | (with_reducible apply only_turn); (focus rfl); (focus rfl); (focus kernel_rfl) | exact only_calc rfl rfl rfl | exact only_check rfl rfl | exact only_cap rfl rfl | exact only_min rfl rfl rfl | exact only_max rfl rfl rfl)))); go_simp; refine hK _ _ _ ?_; clear hK K)
          | ((with_reducible refine lst_off (i := ?_) (b := ?_) (d := ?_) ?_ ?_ ?_ ?_); rotate_left 3; (focus with_reducible rfl); (focus rfl); (focus (simp only [List.getElem?_toArray, List.getElem?_cons_succ, List.getElem?_cons_zero, Bool.not_true, Bool.not_false])); simp only [Act.put, List.setIfInBounds_toArray, List.set_cons_zero, List.set_cons_succ])
          | ((with_reducible refine lst_on (i := ?_) (b := ?_) (d := ?_) ?_ ?_ ?_ ?_ (fun K hK => ?_)); rotate_left 3; (focus with_reducible rfl); (focus rfl); (focus (simp only [List.getElem?_toArray, List.getElem?_cons_succ, List.getElem?_cons_zero])); (focus (intro ht; refine fine_none ?_ ht; (focus (first | (with_reducible apply only_idle); (focus decide) | (with_reducible apply only_turn); (focus rfl); (focus rfl); (focus kernel_rfl) | exact only_calc rfl rfl rfl | exact only_check rfl rfl | exact only_cap rfl rfl | exact only_min rfl rfl rfl | exact only_max rfl rfl rfl)))); go_simp; refine hK _ _ _ ?_; clear hK K)
          | ((with_reducible refine lst_undef (i := ?_) (b := ?_) (d := ?_) ?_ ?_ ?_ ?_); rotate_left 3; (focus with_reducible rfl); (focus rfl); (focus (simp only [List.getElem?_toArray, List.getElem?_cons_succ, List.getElem?_cons_zero])); simp only [Act.put, List.setIfInBounds_toArray, List.set_cons_zero, List.set_cons_succ])
          | (with_reducible apply lst_nil)
          | ((fail_if_success (with_reducible refine lst_any ?_)); first
          | (with_reducible apply j_seq) | (with_reducible apply j_block) | (with_reducible apply j_ret) | (with_reducible apply j_skip) | (with_reducible apply j_exit) | (with_reducible apply j_label) | (with_reducible apply j_region_lit)
          | ((with_reducible refine j_true ?_ ?_); (focus rfl)) | ((with_reducible refine j_false ?_ ?_); (focus rfl))
          | (with_reducible show Then _ _ _ _ _ _; simp only [Then])
          | (with_reducible show InBlock _ _ _ _ _ _; simp only [InBlock, ↓reduceIte, Nat.reduceEqDiff])))
        have hbeh : Jdo Tryd.prog X 14 #[cfg H.k H.K H.T H.M, clV y, .slice A row.length c] s3 W2 _ := behind_ok (T := H.T) (M := H.M) (x := y) ((hk2.rw hr (Nat.le_refl _)).more hk2.1.size) (by omega) F.hK F.k2
        unfold cfg clV at hbeh
        refine lst_call _ rfl ?_ ?_ Tryd.func14 ?_ rfl hbeh ?_
        focus rfl
        focus first | rfl | (go_simp; done) | (go_simp; rfl)
        focus rfl
        rintro s4 r W3 ⟨rfl, hb3, V, rfl, hV⟩
        simp only [Act.put, List.setIfInBounds_toArray, List.set_cons_zero, List.set_cons_succ]
        have hk3 := hk2.trans (Kp.of_below hK2 hb3)
        have hK3 := hK2.below hb3
        have hV3 : Rws W3 w.heap.size V _ := hV.base hk2.1.size
        obtain ⟨vs, hvs, hown⟩ := hV3.rd
        rw [hvs.1] at hown
        obtain ⟨A3, c3, rfl, -, -⟩ := (Sl.of_own hown).form
        clear hvs hown hV hbeh hearly dl dc ds
        have hrows : ∀ nx ∈ behindL H.k H.K y row, Good nx ∧ nx.length ≤ row.length + 1 := fun nx hnx => ⟨behind_good (F.good y hxm) hG hnx, behind_len hnx⟩
        generalize hrs : behindL H.k H.K y row = rows at hV3 hrows ⊢
        repeat (first
          | ((with_reducible refine lst_free ?_ ?_ (fun K hK => ?_)); (focus with_reducible rfl); (focus (intro ht; refine fine_none ?_ ht; (focus (first | (with_reducible apply only_idle); (focus decide) | (with_reducible apply only_turn); (focus rfl); (focus rfl); (focus kernel_rfl) | exact only_calc rfl rfl rfl | exact only_check rfl rfl | exact only_cap rfl rfl | exact only_min rfl rfl rfl | exact only_max rfl rfl rfl)))); go_simp; refine hK _ _ _ ?_; clear hK K)
          | ((with_reducible refine lst_off (i := ?_) (b := ?_) (d := ?_) ?_ ?_ ?_ ?_); rotate_left 3; (focus with_reducible rfl); (focus rfl); (focus (simp only [List.getElem?_toArray, List.getElem?_cons_succ, List.getElem?_cons_zero, Bool.not_true, Bool.not_false])); simp only [Act.put, List.setIfInBounds_toArray, List.set_cons_zero, List.set_cons_succ])
          | ((with_reducible refine lst_on (i := ?_) (b := ?_) (d := ?_) ?_ ?_ ?_ ?_ (fun K hK => ?_)); rotate_left 3; (focus with_reducible rfl); (focus rfl); (focus (simp only [List.getElem?_toArray, List.getElem?_cons_succ, List.getElem?_cons_zero])); (focus (intro ht; refine fine_none ?_ ht; (focus (first | (with_reducible apply only_idle); (focus decide) | (with_reducible apply only_turn); (focus rfl); (focus rfl); (focus kernel_rfl) | exact only_calc rfl rfl rfl | exact only_check rfl rfl | exact only_cap rfl rfl | exact only_min rfl rfl rfl | exact only_max rfl rfl rfl)))); go_simp; refine hK _ _ _ ?_; clear hK K)
          | ((with_reducible refine lst_undef (i := ?_) (b := ?_) (d := ?_) ?_ ?_ ?_ ?_); rotate_left 3; (focus with_reducible rfl); (focus rfl); (focus (simp only [List.getElem?_toArray, List.getElem?_cons_succ, List.getElem?_cons_zero])); simp only [Act.put, List.setIfInBounds_toArray, List.set_cons_zero, List.set_cons_succ])
          | (with_reducible apply lst_nil)
          | ((fail_if_success (with_reducible refine lst_any ?_)); first
          | (with_reducible apply j_seq) | (with_reducible apply j_block) | (with_reducible apply j_ret) | (with_reducible apply j_skip) | (with_reducible apply j_exit) | (with_reducible apply j_label) | (with_reducible apply j_region_lit)
          | ((with_reducible refine j_true ?_ ?_); (focus rfl)) | ((with_reducible refine j_false ?_ ?_); (focus rfl))
          | (with_reducible show Then _ _ _ _ _ _; simp only [Then])
          | (with_reducible show InBlock _ _ _ _ _ _; simp only [InBlock, ↓reduceIte, Nat.reduceEqDiff])))
        refine try_inner (w := w) (rows := rows) F ih hE hm hd hl hlt hbit hlen hrows ⟨rfl, 0, ks', hk3, hK3, Nat.zero_le _, hInv, hFew, fun j' nx h => absurd h (Nat.not_lt_zero _), hV3, _, _, _, _, _, _, _, _, _, _, _, _, _, _, _, _, _, _, _, _, _, _, _, _, _, _, _, _, _, _, _, _, _, _, _, _, _, _, _, _, _, _, _, _, _, _, _, _, _, _, by rw [ev]; rfl⟩ ?_ ?_ ?_
        focus
          repeat (first | assumption | exact loose_body | (with_reducible apply loose_then) | (with_reducible apply loose_block) | (with_reducible apply loose_noGoto) | (with_reducible apply loose_jump))
        focus
          intro a' W' ks2 ha' hk4 hK4 hInv4 hFew4 hno4
          obtain ⟨v7, v8, v9, v10, v11, v12, v13, v14, v15, v16, v17, v18, v19, v20, v21, v22, v23, v24, v25, v26, v27, v31, v32, v33, v34, v35, v36, v37, v38, v39, v40, v41, v42, v43, v44, v45, v46, v47, v48, v49, v50, v51, v52, v53, v54, v55, v56, v57, v58, v59, v60, v61, v62, v63, rfl⟩ := ha'
          show InBlock _ _ _ _ _ _
          simp only [InBlock, ↓reduceIte, Nat.reduceEqDiff]
          repeat (first
            | ((with_reducible refine lst_free ?_ ?_ (fun K hK => ?_)); (focus with_reducible rfl); (focus (intro ht; refine fine_none ?_ ht; (focus (first | (with_reducible apply only_idle); (focus decide) | (with_reducible apply only_turn); (focus rfl); (focus rfl); (focus kernel_rfl) | exact only_calc rfl rfl rfl | exact only_check rfl rfl | exact only_cap rfl rfl | exact only_min rfl rfl rfl | exact only_max rfl rfl rfl)))); go_simp; refine hK _ _ _ ?_; clear hK K)
            | ((with_reducible refine lst_off (i := ?_) (b := ?_) (d := ?_) ?_ ?_ ?_ ?_); rotate_left 3; (focus with_reducible rfl); (focus rfl); (focus (simp only [List.getElem?_toArray, List.getElem?_cons_succ, List.getElem?_cons_zero, Bool.not_true, Bool.not_false])); simp only [Act.put, List.setIfInBounds_toArray, List.set_cons_zero, List.set_cons_succ])
            | ((with_reducible refine lst_on (i := ?_) (b := ?_) (d := ?_) ?_ ?_ ?_ ?_ (fun K hK => ?_)); rotate_left 3; (focus with_reducible rfl); (focus rfl); (focus (simp only [List.getElem?_toArray, List.getElem?_cons_succ, List.getElem?_cons_zero])); (focus (intro ht; refine fine_none ?_ ht; (focus (first | (with_reducible apply only_idle); (focus decide) | (with_reducible apply only_turn); (focus rfl); (focus rfl); (focus kernel_rfl) | exact only_calc rfl rfl rfl | exact only_check rfl rfl | exact only_cap rfl rfl | exact only_min rfl rfl rfl | exact only_max rfl rfl rfl)))); go_simp; refine hK _ _ _ ?_; clear hK K)
            | ((with_reducible refine lst_undef (i := ?_) (b := ?_) (d := ?_) ?_ ?_ ?_ ?_); rotate_left 3; (focus with_reducible rfl); (focus rfl); (focus (simp only [List.getElem?_toArray, List.getElem?_cons_succ, List.getElem?_cons_zero])); simp only [Act.put, List.setIfInBounds_toArray, List.set_cons_zero, List.set_cons_succ])
            | (with_reducible apply lst_nil)
            | ((fail_if_success (with_reducible refine lst_any ?_)); first
            | (with_reducible apply j_seq) | (with_reducible apply j_block) | (with_reducible apply j_ret) | (with_reducible apply j_skip) | (with_reducible apply j_exit) | (with_reducible apply j_label) | (with_reducible apply j_region_lit)
            | ((with_reducible refine j_true ?_ ?_); (focus rfl)) | ((with_reducible refine j_false ?_ ?_); (focus rfl))
            | (with_reducible show Then _ _ _ _ _ _; simp only [Then])
            | (with_reducible show InBlock _ _ _ _ _ _; simp only [InBlock, ↓reduceIte, Nat.reduceEqDiff])))
          refine ⟨⟨rfl, i + 1, ks2, hk4, hK4, by omega, hInv4, hFew4, nxt (fun nx h1 h2 h3 => hno4 nx (by rw [← hrs]; exact h3)), _, _, _, _, _, _, _, _, _, _, _, _, _, _, _, _, _, _, _, _, _, _, _, _, _, _, _, _, _, _, _, _, _, _, _, _, _, _, _, _, _, _, _, _, _, _, _, _, _, _, _, _, _, _, by first | rfl | (rw [ev]; rfl)⟩, by show H.l.length - ((i : Int) + 1).toNat < H.l.length - ((i : Int)).toNat; omega⟩
        focus
          intro a' W' ks2 nx hdf h9 hk4 hK4 hmem hpath
          show Body Tryd.prog Tryd.f11 Post s4 .ret a' W'
          exact body_ret1 rfl hdf (by rw [h9]; exact hyes W' ks2 hk4 hK4 ⟨i, y, nx, hxi, hbit, hea, by rw [hrs]; exact hmem, hpath⟩)
      · repeat (first | ((with_reducible refine lst_free ?_ ?_ (fun K hK => ?_)); (focus with_reducible rfl); (focus (intro ht; refine fine_none ?_ ht; (focus (first | (with_reducible apply only_idle); (focus decide) | (with_reducible apply only_turn); (focus rfl); (focus rfl); (focus kernel_rfl) | exact only_calc rfl rfl rfl | exact only_check rfl rfl | exact only_cap rfl rfl | exact only_min rfl rfl rfl | exact only_max rfl rfl rfl)))); go_simp; refine hK _ _ _ ?_; clear hK K) | ((with_reducible refine lst_off (i := ?_) (b := ?_) (d := ?_) ?_ ?_ ?_ ?_); rotate_left 3; (focus with_reducible rfl); (focus rfl); (focus (simp only [List.getElem?_toArray, List.getElem?_cons_succ, List.getElem?_cons_zero, Bool.not_true, Bool.not_false])); simp only [Act.put, List.setIfInBounds_toArray, List.set_cons_zero, List.set_cons_succ]) | ((with_reducible refine lst_on (i := ?_) (b := ?_) (d := ?_) ?_ ?_ ?_ ?_ (fun K hK => ?_)); rotate_left 3; (focus with_reducible rfl); (focus rfl); (focus (simp only [List.getElem?_toArray, List.getElem?_cons_succ, List.getElem?_cons_zero])); (focus (intro ht; refine fine_none ?_ ht; (focus (first | (with_reducible apply only_idle); (focus decide) | (with_reducible apply only_turn); (focus rfl); (focus rfl); (focus kernel_rfl) | exact only_calc rfl rfl rfl | exact only_check rfl rfl | exact only_cap rfl rfl | exact only_min rfl rfl rfl | exact only_max rfl rfl rfl)))); go_simp; refine hK _ _ _ ?_; clear hK K) | ((with_reducible refine lst_undef (i := ?_) (b := ?_) (d := ?_) ?_ ?_ ?_ ?_); rotate_left 3; (focus with_reducible rfl); (focus rfl); (focus (simp only [List.getElem?_toArray, List.getElem?_cons_succ, List.getElem?_cons_zero])); simp only [Act.put, List.setIfInBounds_toArray, List.set_cons_zero, List.set_cons_succ]) | (with_reducible apply lst_nil) | ((fail_if_success (with_reducible refine lst_any ?_)); first | (with_reducible apply j_seq) | (with_reducible apply j_block) | (with_reducible apply j_ret) | (with_reducible apply j_skip) | (with_reducible apply j_exit) | (with_reducible apply j_label) | (with_reducible apply j_region_lit) | ((with_reducible refine j_true ?_ ?_); (focus rfl)) | ((with_reducible refine j_false ?_ ?_); (focus rfl)) | (with_reducible show Then _ _ _ _ _ _; simp only [Then]) | (with_reducible show InBlock _ _ _ _ _ _; simp only [InBlock, ↓reduceIte, Nat.reduceEqDiff])))
        refine ⟨⟨rfl, i + 1, ks', hk2, hK2, by omega, hInv, hFew, nxt (fun nx _ h2 => by rw [hea] at h2; cases h2), _, _, _, _, _, _, _, _, _, _, _, _, _, _, _, _, _, _, _, _, _, _, _, _, _, _, _, _, _, _, _, _, _, _, _, _, _, _, _, _, _, _, _, _, _, _, _, _, _, _, _, _, _, _, by rw [ev]; rfl⟩, by show H.l.length - ((i : Int) + 1).toNat < H.l.length - ((i : Int)).toNat; omega⟩
    · rw [hbit] at hne
      repeat (first
        | ((with_reducible refine lst_free ?_ ?_ (fun K hK => ?_)); (focus with_reducible rfl); (focus (intro ht; refine fine_none ?_ ht; (focus (first | (with_reducible apply only_idle); (focus decide) | (with_reducible apply only_turn); (focus rfl); (focus rfl); (focus kernel_rfl) | exact only_calc rfl rfl rfl | exact only_check rfl rfl | exact only_cap rfl rfl | exact only_min rfl rfl rfl | exact only_max rfl rfl rfl)))); go_simp; refine hK _ _ _ ?_; clear hK K)
        | ((with_reducible refine lst_off (i := ?_) (b := ?_) (d := ?_) ?_ ?_ ?_ ?_); rotate_left 3; (focus with_reducible rfl); (focus rfl); (focus (simp only [List.getElem?_toArray, List.getElem?_cons_succ, List.getElem?_cons_zero, Bool.not_true, Bool.not_false])); simp only [Act.put, List.setIfInBounds_toArray, List.set_cons_zero, List.set_cons_succ])
        | ((with_reducible refine lst_on (i := ?_) (b := ?_) (d := ?_) ?_ ?_ ?_ ?_ (fun K hK => ?_)); rotate_left 3; (focus with_reducible rfl); (focus rfl); (focus (simp only [List.getElem?_toArray, List.getElem?_cons_succ, List.getElem?_cons_zero])); (focus (intro ht; refine fine_none ?_ ht; (focus (first | (with_reducible apply only_idle); (focus decide) | (with_reducible apply only_turn); (focus rfl); (focus rfl); (focus kernel_rfl) | exact only_calc rfl rfl rfl | exact only_check rfl rfl | exact only_cap rfl rfl | exact only_min rfl rfl rfl | exact only_max rfl rfl rfl)))); go_simp; refine hK _ _ _ ?_; clear hK K)
        | ((with_reducible refine lst_undef (i := ?_) (b := ?_) (d := ?_) ?_ ?_ ?_ ?_); rotate_left 3; (focus with_reducible rfl); (focus rfl); (focus (simp only [List.getElem?_toArray, List.getElem?_cons_succ, List.getElem?_cons_zero])); simp only [Act.put, List.setIfInBounds_toArray, List.set_cons_zero, List.set_cons_succ])
        | (with_reducible apply lst_nil)
        | ((fail_if_success (with_reducible refine lst_any ?_)); first
        | (with_reducible apply j_seq) | (with_reducible apply j_block) | (with_reducible apply j_ret) | (with_reducible apply j_skip) | (with_reducible apply j_exit) | (with_reducible apply j_label) | (with_reducible apply j_region_lit)
        | ((with_reducible refine j_true ?_ ?_); (focus rfl)) | ((with_reducible refine j_false ?_ ?_); (focus rfl))
        | (with_reducible show Then _ _ _ _ _ _; simp only [Then])
        | (with_reducible show InBlock _ _ _ _ _ _; simp only [InBlock, ↓reduceIte, Nat.reduceEqDiff])))
      refine ⟨⟨rfl, i + 1, ks', hk1, hK1, by omega, hInv, hFew, nxt (fun nx h1 => by rw [hbit] at h1; cases h1), _, _, _, _, _, _, _, _, _, _, _, _, _, _, _, _, _, _, _, _, _, _, _, _, _, _, _, _, _, _, _, _, _, _, _, _, _, _, _, _, _, _, _, _, _, _, _, _, _, _, _, _, _, _, by rw [ev]; rfl⟩, by show H.l.length - ((i : Int) + 1).toNat < H.l.length - ((i : Int)).toNat; omega⟩
  · have c1 : decide ((i : Int) < (H.l.length : Int)) = false := decide_eq_false (by omega)
    have c2 : decide (i < H.l.length) = false := decide_eq_false hlt
    repeat (first
      | ((with_reducible refine lst_free ?_ ?_ (fun K hK => ?_)); (focus with_reducible rfl); (focus (intro ht; refine fine_none ?_ ht; (focus (first | (with_reducible apply only_idle); (focus decide) | (with_reducible apply only_turn); (focus rfl); (focus rfl); (focus kernel_rfl) | exact only_calc rfl rfl rfl | exact only_check rfl rfl | exact only_cap rfl rfl | exact only_min rfl rfl rfl | exact only_max rfl rfl rfl)))); go_simp; refine hK _ _ _ ?_; clear hK K)
      | ((with_reducible refine lst_off (i := ?_) (b := ?_) (d := ?_) ?_ ?_ ?_ ?_); rotate_left 3; (focus with_reducible rfl); (focus rfl); (focus (simp only [List.getElem?_toArray, List.getElem?_cons_succ, List.getElem?_cons_zero, Bool.not_true, Bool.not_false])); simp only [Act.put, List.setIfInBounds_toArray, List.set_cons_zero, List.set_cons_succ])
      | ((with_reducible refine lst_on (i := ?_) (b := ?_) (d := ?_) ?_ ?_ ?_ ?_ (fun K hK => ?_)); rotate_left 3; (focus with_reducible rfl); (focus rfl); (focus (simp only [List.getElem?_toArray, List.getElem?_cons_succ, List.getElem?_cons_zero])); (focus (intro ht; refine fine_none ?_ ht; (focus (first | (with_reducible apply only_idle); (focus decide) | (with_reducible apply only_turn); (focus rfl); (focus rfl); (focus kernel_rfl) | exact only_calc rfl rfl rfl | exact only_check rfl rfl | exact only_cap rfl rfl | exact only_min rfl rfl rfl | exact only_max rfl rfl rfl)))); go_simp; refine hK _ _ _ ?_; clear hK K)
      | ((with_reducible refine lst_undef (i := ?_) (b := ?_) (d := ?_) ?_ ?_ ?_ ?_); rotate_left 3; (focus with_reducible rfl); (focus rfl); (focus (simp only [List.getElem?_toArray, List.getElem?_cons_succ, List.getElem?_cons_zero])); simp only [Act.put, List.setIfInBounds_toArray, List.set_cons_zero, List.set_cons_succ])
      | (with_reducible apply lst_nil)
      | ((fail_if_success (with_reducible refine lst_any ?_)); first
      | (with_reducible apply j_seq) | (with_reducible apply j_block) | (with_reducible apply j_ret) | (with_reducible apply j_skip) | (with_reducible apply j_exit) | (with_reducible apply j_label) | (with_reducible apply j_region_lit)
      | ((with_reducible refine j_true ?_ ?_); (focus rfl)) | ((with_reducible refine j_false ?_ ?_); (focus rfl))
      | (with_reducible show Then _ _ _ _ _ _; simp only [Then])
      | (with_reducible show InBlock _ _ _ _ _ _; simp only [InBlock, ↓reduceIte, Nat.reduceEqDiff])))
    refine body_ret1 rfl rfl ?_
    refine hnot W ks' hk hK hInv hFew fun j x nx h1 => hno j x nx ?_ h1
    have := (List.getElem?_eq_some_iff.1 h1).1
    omega
end
end Go.Proofs.YtgchailmcbifdaaDoor.Jg
