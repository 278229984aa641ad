/- shuntinglaw02.StoreApart, its last part: two accesses, in either order. -/
import Derived.Test.YtonhfgjofgbcdaaLawTwo
import Derived.Test.YtonhfgjofgbcdaaApartLaw
import Derived.Test.YtonhfgjofgbcdaaTail
namespace Go.Proofs.Ytonhfgjofgbcdaa.Lw
set_option linter.unusedSimpArgs false
set_option linter.unusedVariables false
set_option maxRecDepth 20000
open Go Go.Conc Go.RowKit Go.Proofs.Ytonhfgjofgbcdaa.Jay Go.Proofs.Ytonhfgjofgbcdaa.Pl
open Go.Proofs.Ytonhfgjofgbcdaa.St Go.Proofs.Ytonhfgjofgbcdaa.Rf Go.Proofs.Ytonhfgjofgbcdaa.Wd
section
variable {γ : Type} {X : Turns γ} {s : γ} {w : World}
attribute [local go_sem] upon_value upon_skip

/-- Words that are kept in a block of their own. -/
def Kept (W : World) (g B : Nat) (m : Mem) : Prop := ∃ cs, Blk W g 25 cs ∧ MemC W B m cs
theorem Kept.below {W W' : World} {g B N : Nat} {m : Mem} (h : Kept W g B m) (hb : Below N W W') (hg : g < N) (hB : B ≤ N) : Kept W' g B m := by
  obtain ⟨cs, h1, h2⟩ := h
  exact ⟨cs, h1.below hb hg, h2.below (hb.mono hB)⟩
theorem Kept.lt {W : World} {g B : Nat} {m : Mem} (h : Kept W g B m) : g < W.heap.size := by obtain ⟨_, h1, _⟩ := h; exact h1.lt

/-- What the law must come to. -/
def Yes {γ : Type} (s₀ : γ) (w₀ : World) (s' : γ) (r : Came) (w' : World) : Prop := s' = s₀ ∧ Below w₀.heap.size w₀ w' ∧ r = .back (.bool true)

set_option maxHeartbeats 16000000 in
theorem apart13 {w₀ W : World} {m A : Mem} {B n0 n1 n2 n8 B8 : Nat} {d ar at_ old new d' ar' at' old' new' : Int} (g0 : Below w₀.heap.size w₀ W) (hoth : ∀ b, w₀.heap.size ≤ b → ¬ X.oth s b)
    (k0 : Kept W n0 B m) (k1 : Blk W n1 27 (acc d ar at_ old new)) (k2 : Blk W n2 27 (acc d' ar' at' old' new')) (k8 : Kept W n8 B8 A) (hBW : B ≤ W.heap.size) (hB8 : B8 ≤ W.heap.size)
    (hA : A = (m.act d ar at_ old new).1) (hsm : m.small) (hne : ¬ (ar = ar' ∧ at_ = at')) (v0 v1 v2 v6 v7 v9 v10 v11 v12 v13 v14 v15 v16 v17 v18 v19 v20 v21 v22 v23 v24 v25 v26 v27 v28 v29 v30 v31 v32 v33 v34 v35 v36 v37 v38 v39 v40 v41 v42 v43 v44 v45 v46 v47 v48 v49 v50 v51 v52 v53 v54 v55 v56 v57 v58 v59 v60 v61 v62 v63 v64 v65 v66 v67 v68 v69 v70 v71 v72 v73 v74 v75 v76 v77 v78 v79 v80 v81 v82 v83 v84 v85 v86 v87 v88 v89 v90 v91 v92 v93 v94 v95 v96 v97 v98 v99 v100 v101 v102 v103 v104 v105 v106 v107 v108 v109 v110 v111 v112 v113 v114 v115 v116 v117 v118 v119 v120 v121 v122 v123 v124 v125 v126 v127 v128 v129 v130 v131 v132 v133 v134 v135 : Value) :
    Wp Try.prog X 3 (tailOf 9 Try.f3.body) (Body Try.prog Try.f3 (Yes s w₀)) s
      ({ tmps := (v0 :: v1 :: v2 :: .pointer (some ⟨n0, 0, none⟩) :: .pointer (some ⟨n1, 0, none⟩) :: .pointer (some ⟨n2, 0, none⟩) :: v6 :: v7 :: .pointer (some ⟨n8, 0, none⟩) :: v9 :: v10 :: v11 :: v12 :: v13 :: v14 :: v15 :: v16 :: v17 :: v18 :: v19 :: v20 :: v21 :: v22 :: v23 :: v24 :: v25 :: v26 :: v27 :: v28 :: v29 :: v30 :: v31 :: v32 :: v33 :: v34 :: v35 :: v36 :: v37 :: v38 :: v39 :: v40 :: v41 :: v42 :: v43 :: v44 :: v45 :: v46 :: v47 :: v48 :: v49 :: v50 :: v51 :: v52 :: v53 :: v54 :: v55 :: v56 :: v57 :: v58 :: v59 :: v60 :: v61 :: v62 :: v63 :: v64 :: v65 :: v66 :: v67 :: v68 :: v69 :: v70 :: v71 :: v72 :: v73 :: v74 :: v75 :: v76 :: v77 :: v78 :: v79 :: v80 :: v81 :: v82 :: v83 :: v84 :: v85 :: v86 :: v87 :: v88 :: v89 :: v90 :: v91 :: v92 :: v93 :: v94 :: v95 :: v96 :: v97 :: v98 :: v99 :: v100 :: v101 :: v102 :: v103 :: v104 :: v105 :: v106 :: v107 :: v108 :: v109 :: v110 :: v111 :: v112 :: v113 :: v114 :: v115 :: v116 :: v117 :: v118 :: v119 :: v120 :: v121 :: v122 :: v123 :: v124 :: v125 :: v126 :: v127 :: v128 :: v129 :: v130 :: v131 :: v132 :: v133 :: v134 :: v135 :: []).toArray, defers := [] }) W := by
  conv => arg 4; whnf
  have smA : A.small := hA ▸ small_act hsm _ _ _ _ _
  have l8 := k8.lt
  obtain ⟨cs8, kp, zp⟩ := k8
  have zp0 := zp
  obtain ⟨p2, p3, p6, p7, p8, rfl, _⟩ := zp
  have dp := kp.cell
  have e2 := k2.cell
  unfold acc at e2
  repeat (first
    | (with_reducible apply lst_nil)
    | ((with_reducible refine lst_unwanted ?_ ?_); (focus rfl); simp only [Act.put, List.setIfInBounds_toArray, List.set_cons_zero, List.set_cons_succ])
    | ((with_reducible refine lst_cons ?_ ?_ (fun K hK => ?_)); (focus rfl); (focus (intro ht; refine fine_none ?_ ht; (focus (first | (with_reducible apply only_idle); (focus decide) | (with_reducible apply only_turn); (focus rfl); (focus rfl); (focus kernel_rfl) | exact only_calc rfl rfl rfl | exact only_check rfl rfl)))); go_simp; refine hK _ _ _ ?_; clear hK K)
    | (with_reducible apply j_seq) | (with_reducible apply j_block) | (with_reducible apply j_ret) | (with_reducible apply j_skip) | (with_reducible apply j_exit) | (with_reducible apply j_label) | (with_reducible apply j_region_lit)
    | ((with_reducible refine j_true ?_ ?_); (focus rfl)) | ((with_reducible refine j_false ?_ ?_); (focus rfl))
    | (with_reducible show Then _ _ _ _ _ _; simp only [Then])
    | (with_reducible show InBlock _ _ _ _ _ _; simp only [InBlock, ↓reduceIte, Nat.reduceEqDiff]))
  refine lst_call _ rfl ?_ ?_ Try.func10 ?_ rfl (act (d := d') (ar := ar') (at_ := at') (old := old') (new := new') ⟨_, rfl, zp0⟩ hB8 smA) ?_
  focus rfl
  focus first | rfl | (go_simp; done) | (go_simp; rfl)
  focus rfl
  rintro s3 x W1 ⟨rfl, hb1, v1', rfl, hm1⟩
  have g1 := g0.trans (hb1.mono g0.size)
  have sx := small_act smA d' ar' at' old' new'
  generalize hX : A.act d' ar' at' old' new' = X1 at hm1 sx ⊢
  clear dp e2 kp zp0
  replace k0 := k0.below hb1 k0.lt hBW
  replace k1 := k1.below hb1 k1.lt
  replace k2 := k2.below hb1 k2.lt
  have hBW1 := Nat.le_trans hBW hb1.size
  simp only [Act.put, List.setIfInBounds_toArray, List.set_cons_zero, List.set_cons_succ]
  obtain ⟨csq, rfl, hcq⟩ := hm1
  have oneq := memC_one hcq
  have hc0q := hcq
  obtain ⟨q2, q3, q6, q7, q8, rfl, _⟩ := hcq
  repeat (first
    | (with_reducible apply lst_nil)
    | ((with_reducible refine lst_unwanted ?_ ?_); (focus rfl); simp only [Act.put, List.setIfInBounds_toArray, List.set_cons_zero, List.set_cons_succ])
    | ((with_reducible refine lst_cons ?_ ?_ (fun K hK => ?_)); (focus rfl); (focus (intro ht; refine fine_none ?_ ht; (focus (first | (with_reducible apply only_idle); (focus decide) | (with_reducible apply only_turn); (focus rfl); (focus rfl); (focus kernel_rfl) | exact only_calc rfl rfl rfl | exact only_check rfl rfl)))); go_simp; refine hK _ _ _ ?_; clear hK K)
    | (with_reducible apply j_seq) | (with_reducible apply j_block) | (with_reducible apply j_ret) | (with_reducible apply j_skip) | (with_reducible apply j_exit) | (with_reducible apply j_label) | (with_reducible apply j_region_lit)
    | ((with_reducible refine j_true ?_ ?_); (focus rfl)) | ((with_reducible refine j_false ?_ ?_); (focus rfl))
    | (with_reducible show Then _ _ _ _ _ _; simp only [Then])
    | (with_reducible show InBlock _ _ _ _ _ _; simp only [InBlock, ↓reduceIte, Nat.reduceEqDiff]))
  refine lst_one (one_store (v := .agg #[_, _, q2, q3, _, _, q6, q7, q8]) (cs' := #[_, _, q2, q3, _, _, q6, q7, q8]) rfl rfl rfl rfl (Blk.new W1 _ _) (hoth _ (Below.size g1)) (by kernel_rfl) (Nat.le_of_ble_eq_true rfl) oneq rfl ?_)
  simp only [Act.put, List.setIfInBounds_toArray, List.set_cons_zero, List.set_cons_succ]
  have kq := (Blk.new W1 25 #[.int .u64 0, .int .u64 0, .slice none 0 0, .slice none 0 0, .int .u64 0, .int .u64 0, .slice none 0 0, .slice none 0 0, .slice none 0 0]).row #[.int .u64 (Mem.e X1.1), .int .u64 (Mem.f X1.1), q2, q3, .int .u64 (Mem.h X1.1), .int .u64 (Mem.t X1.1), q6, q7, q8]
  have wq : Below (World.heap W1).size W1 _ := Below_row ((Below.refl _ _).alloc (Nat.le_refl _) (.cells #[.int .u64 0, .int .u64 0, .slice none 0 0, .slice none 0 0, .int .u64 0, .int .u64 0, .slice none 0 0, .slice none 0 0, .slice none 0 0] 25)) #[.int .u64 (Mem.e X1.1), .int .u64 (Mem.f X1.1), q2, q3, .int .u64 (Mem.h X1.1), .int .u64 (Mem.t X1.1), q6, q7, q8] (Nat.le_refl _)
  generalize hhq : (World.alloc W1 (.cells #[.int .u64 0, .int .u64 0, .slice none 0 0, .slice none 0 0, .int .u64 0, .int .u64 0, .slice none 0 0, .slice none 0 0, .slice none 0 0] 25)).setRow (World.heap W1).size #[.int .u64 (Mem.e X1.1), .int .u64 (Mem.f X1.1), q2, q3, .int .u64 (Mem.h X1.1), .int .u64 (Mem.t X1.1), q6, q7, q8] = W2 at kq wq ⊢
  clear hhq
  have Kq : Kept W2 (World.heap W1).size (World.heap W1).size X1.1 := ⟨_, kq, hc0q.below wq⟩
  have gq := (g1).trans (wq.mono (Below.size g1))
  clear oneq hc0q kq
  replace k0 := k0.below wq k0.lt hBW1
  replace k1 := k1.below wq k1.lt
  replace k2 := k2.below wq k2.lt
  have hBW2 := Nat.le_trans hBW1 wq.size
  have lk0 := k0.lt
  obtain ⟨cs0, kp, zp⟩ := k0
  have zp0 := zp
  obtain ⟨r2, r3, r6, r7, r8, rfl, _⟩ := zp
  have dp := kp.cell
  have e2 := k2.cell
  unfold acc at e2
  repeat (first
    | (with_reducible apply lst_nil)
    | ((with_reducible refine lst_unwanted ?_ ?_); (focus rfl); simp only [Act.put, List.setIfInBounds_toArray, List.set_cons_zero, List.set_cons_succ])
    | ((with_reducible refine lst_cons ?_ ?_ (fun K hK => ?_)); (focus rfl); (focus (intro ht; refine fine_none ?_ ht; (focus (first | (with_reducible apply only_idle); (focus decide) | (with_reducible apply only_turn); (focus rfl); (focus rfl); (focus kernel_rfl) | exact only_calc rfl rfl rfl | exact only_check rfl rfl)))); go_simp; refine hK _ _ _ ?_; clear hK K)
    | (with_reducible apply j_seq) | (with_reducible apply j_block) | (with_reducible apply j_ret) | (with_reducible apply j_skip) | (with_reducible apply j_exit) | (with_reducible apply j_label) | (with_reducible apply j_region_lit)
    | ((with_reducible refine j_true ?_ ?_); (focus rfl)) | ((with_reducible refine j_false ?_ ?_); (focus rfl))
    | (with_reducible show Then _ _ _ _ _ _; simp only [Then])
    | (with_reducible show InBlock _ _ _ _ _ _; simp only [InBlock, ↓reduceIte, Nat.reduceEqDiff]))
  refine lst_call _ rfl ?_ ?_ Try.func10 ?_ rfl (act (d := d') (ar := ar') (at_ := at') (old := old') (new := new') ⟨_, rfl, zp0⟩ hBW2 hsm) ?_
  focus rfl
  focus first | rfl | (go_simp; done) | (go_simp; rfl)
  focus rfl
  rintro s3 x W3 ⟨rfl, hb3, v3', rfl, hm3⟩
  have g3 := gq.trans (hb3.mono gq.size)
  have sp := small_act hsm d' ar' at' old' new'
  generalize hP : m.act d' ar' at' old' new' = P1 at hm3 sp ⊢
  clear dp e2 kp zp0
  replace k1 := k1.below hb3 k1.lt
  replace Kq := Kq.below hb3 Kq.lt wq.size
  have sq3 := Nat.le_trans wq.size hb3.size
  simp only [Act.put, List.setIfInBounds_toArray, List.set_cons_zero, List.set_cons_succ]
  obtain ⟨cst, rfl, hct⟩ := hm3
  have onet := memC_one hct
  have hc0t := hct
  obtain ⟨t2, t3, t6, t7, t8, rfl, _⟩ := hct
  repeat (first
    | (with_reducible apply lst_nil)
    | ((with_reducible refine lst_unwanted ?_ ?_); (focus rfl); simp only [Act.put, List.setIfInBounds_toArray, List.set_cons_zero, List.set_cons_succ])
    | ((with_reducible refine lst_cons ?_ ?_ (fun K hK => ?_)); (focus rfl); (focus (intro ht; refine fine_none ?_ ht; (focus (first | (with_reducible apply only_idle); (focus decide) | (with_reducible apply only_turn); (focus rfl); (focus rfl); (focus kernel_rfl) | exact only_calc rfl rfl rfl | exact only_check rfl rfl)))); go_simp; refine hK _ _ _ ?_; clear hK K)
    | (with_reducible apply j_seq) | (with_reducible apply j_block) | (with_reducible apply j_ret) | (with_reducible apply j_skip) | (with_reducible apply j_exit) | (with_reducible apply j_label) | (with_reducible apply j_region_lit)
    | ((with_reducible refine j_true ?_ ?_); (focus rfl)) | ((with_reducible refine j_false ?_ ?_); (focus rfl))
    | (with_reducible show Then _ _ _ _ _ _; simp only [Then])
    | (with_reducible show InBlock _ _ _ _ _ _; simp only [InBlock, ↓reduceIte, Nat.reduceEqDiff]))
  refine lst_one (one_store (v := .agg #[_, _, t2, t3, _, _, t6, t7, t8]) (cs' := #[_, _, t2, t3, _, _, t6, t7, t8]) rfl rfl rfl rfl (Blk.new W3 _ _) (hoth _ (Below.size g3)) (by kernel_rfl) (Nat.le_of_ble_eq_true rfl) onet rfl ?_)
  simp only [Act.put, List.setIfInBounds_toArray, List.set_cons_zero, List.set_cons_succ]
  have kt := (Blk.new W3 25 #[.int .u64 0, .int .u64 0, .slice none 0 0, .slice none 0 0, .int .u64 0, .int .u64 0, .slice none 0 0, .slice none 0 0, .slice none 0 0]).row #[.int .u64 (Mem.e P1.1), .int .u64 (Mem.f P1.1), t2, t3, .int .u64 (Mem.h P1.1), .int .u64 (Mem.t P1.1), t6, t7, t8]
  have wt : Below (World.heap W3).size W3 _ := Below_row ((Below.refl _ _).alloc (Nat.le_refl _) (.cells #[.int .u64 0, .int .u64 0, .slice none 0 0, .slice none 0 0, .int .u64 0, .int .u64 0, .slice none 0 0, .slice none 0 0, .slice none 0 0] 25)) #[.int .u64 (Mem.e P1.1), .int .u64 (Mem.f P1.1), t2, t3, .int .u64 (Mem.h P1.1), .int .u64 (Mem.t P1.1), t6, t7, t8] (Nat.le_refl _)
  generalize hht : (World.alloc W3 (.cells #[.int .u64 0, .int .u64 0, .slice none 0 0, .slice none 0 0, .int .u64 0, .int .u64 0, .slice none 0 0, .slice none 0 0, .slice none 0 0] 25)).setRow (World.heap W3).size #[.int .u64 (Mem.e P1.1), .int .u64 (Mem.f P1.1), t2, t3, .int .u64 (Mem.h P1.1), .int .u64 (Mem.t P1.1), t6, t7, t8] = W4 at kt wt ⊢
  clear hht
  have Kt : Kept W4 (World.heap W3).size (World.heap W3).size P1.1 := ⟨_, kt, hc0t.below wt⟩
  have gt := (g3).trans (wt.mono (Below.size g3))
  clear onet hc0t kt
  replace k1 := k1.below wt k1.lt
  replace Kq := Kq.below wt Kq.lt sq3
  have sq4 := Nat.le_trans sq3 wt.size
  have lkt := Kt.lt
  have Kt' := Kt
  obtain ⟨cst, kp, zp⟩ := Kt'
  have zp0 := zp
  obtain ⟨y2, y3, y6, y7, y8, rfl, _⟩ := zp
  have dp := kp.cell
  have e1 := k1.cell
  unfold acc at e1
  repeat (first
    | (with_reducible apply lst_nil)
    | ((with_reducible refine lst_unwanted ?_ ?_); (focus rfl); simp only [Act.put, List.setIfInBounds_toArray, List.set_cons_zero, List.set_cons_succ])
    | ((with_reducible refine lst_cons ?_ ?_ (fun K hK => ?_)); (focus rfl); (focus (intro ht; refine fine_none ?_ ht; (focus (first | (with_reducible apply only_idle); (focus decide) | (with_reducible apply only_turn); (focus rfl); (focus rfl); (focus kernel_rfl) | exact only_calc rfl rfl rfl | exact only_check rfl rfl)))); go_simp; refine hK _ _ _ ?_; clear hK K)
    | (with_reducible apply j_seq) | (with_reducible apply j_block) | (with_reducible apply j_ret) | (with_reducible apply j_skip) | (with_reducible apply j_exit) | (with_reducible apply j_label) | (with_reducible apply j_region_lit)
    | ((with_reducible refine j_true ?_ ?_); (focus rfl)) | ((with_reducible refine j_false ?_ ?_); (focus rfl))
    | (with_reducible show Then _ _ _ _ _ _; simp only [Then])
    | (with_reducible show InBlock _ _ _ _ _ _; simp only [InBlock, ↓reduceIte, Nat.reduceEqDiff]))
  refine lst_call _ rfl ?_ ?_ Try.func10 ?_ rfl (act (d := d) (ar := ar) (at_ := at_) (old := old) (new := new) ⟨_, rfl, zp0⟩ wt.size sp) ?_
  focus rfl
  focus first | rfl | (go_simp; done) | (go_simp; rfl)
  focus rfl
  rintro s3 x W5 ⟨rfl, hb5, v5', rfl, hm5⟩
  have g5 := gt.trans (hb5.mono gt.size)
  have sy := small_act sp d ar at_ old new
  generalize hY : P1.1.act d ar at_ old new = Y1 at hm5 sy ⊢
  clear dp e1 kp zp0
  replace Kq := Kq.below hb5 Kq.lt sq4
  have sq5 := Nat.le_trans sq4 hb5.size
  simp only [Act.put, List.setIfInBounds_toArray, List.set_cons_zero, List.set_cons_succ]
  obtain ⟨csu, rfl, hcu⟩ := hm5
  have oneu := memC_one hcu
  have hc0u := hcu
  obtain ⟨u2, u3, u6, u7, u8, rfl, _⟩ := hcu
  repeat (first
    | (with_reducible apply lst_nil)
    | ((with_reducible refine lst_unwanted ?_ ?_); (focus rfl); simp only [Act.put, List.setIfInBounds_toArray, List.set_cons_zero, List.set_cons_succ])
    | ((with_reducible refine lst_cons ?_ ?_ (fun K hK => ?_)); (focus rfl); (focus (intro ht; refine fine_none ?_ ht; (focus (first | (with_reducible apply only_idle); (focus decide) | (with_reducible apply only_turn); (focus rfl); (focus rfl); (focus kernel_rfl) | exact only_calc rfl rfl rfl | exact only_check rfl rfl)))); go_simp; refine hK _ _ _ ?_; clear hK K)
    | (with_reducible apply j_seq) | (with_reducible apply j_block) | (with_reducible apply j_ret) | (with_reducible apply j_skip) | (with_reducible apply j_exit) | (with_reducible apply j_label) | (with_reducible apply j_region_lit)
    | ((with_reducible refine j_true ?_ ?_); (focus rfl)) | ((with_reducible refine j_false ?_ ?_); (focus rfl))
    | (with_reducible show Then _ _ _ _ _ _; simp only [Then])
    | (with_reducible show InBlock _ _ _ _ _ _; simp only [InBlock, ↓reduceIte, Nat.reduceEqDiff]))
  refine lst_one (one_store (v := .agg #[_, _, u2, u3, _, _, u6, u7, u8]) (cs' := #[_, _, u2, u3, _, _, u6, u7, u8]) rfl rfl rfl rfl (Blk.new W5 _ _) (hoth _ (Below.size g5)) (by kernel_rfl) (Nat.le_of_ble_eq_true rfl) oneu rfl ?_)
  simp only [Act.put, List.setIfInBounds_toArray, List.set_cons_zero, List.set_cons_succ]
  have ku := (Blk.new W5 25 #[.int .u64 0, .int .u64 0, .slice none 0 0, .slice none 0 0, .int .u64 0, .int .u64 0, .slice none 0 0, .slice none 0 0, .slice none 0 0]).row #[.int .u64 (Mem.e Y1.1), .int .u64 (Mem.f Y1.1), u2, u3, .int .u64 (Mem.h Y1.1), .int .u64 (Mem.t Y1.1), u6, u7, u8]
  have wu : Below (World.heap W5).size W5 _ := Below_row ((Below.refl _ _).alloc (Nat.le_refl _) (.cells #[.int .u64 0, .int .u64 0, .slice none 0 0, .slice none 0 0, .int .u64 0, .int .u64 0, .slice none 0 0, .slice none 0 0, .slice none 0 0] 25)) #[.int .u64 (Mem.e Y1.1), .int .u64 (Mem.f Y1.1), u2, u3, .int .u64 (Mem.h Y1.1), .int .u64 (Mem.t Y1.1), u6, u7, u8] (Nat.le_refl _)
  generalize hhu : (World.alloc W5 (.cells #[.int .u64 0, .int .u64 0, .slice none 0 0, .slice none 0 0, .int .u64 0, .int .u64 0, .slice none 0 0, .slice none 0 0, .slice none 0 0] 25)).setRow (World.heap W5).size #[.int .u64 (Mem.e Y1.1), .int .u64 (Mem.f Y1.1), u2, u3, .int .u64 (Mem.h Y1.1), .int .u64 (Mem.t Y1.1), u6, u7, u8] = W6 at ku wu ⊢
  clear hhu
  have Ku : Kept W6 (World.heap W5).size (World.heap W5).size Y1.1 := ⟨_, ku, hc0u.below wu⟩
  have gu := (g5).trans (wu.mono (Below.size g5))
  clear oneu hc0u ku
  replace Kq := Kq.below wu Kq.lt sq5
  have lkq := Kq.lt
  have lku := Ku.lt
  obtain ⟨csq, kp, zp⟩ := Kq
  have zq0 := zp.more sq5
  obtain ⟨a2, a3, a6, a7, a8, rfl, _⟩ := zp
  obtain ⟨csu, kr, zr⟩ := Ku
  have zu0 := zr
  obtain ⟨b2, b3, b6, b7, b8, rfl, _⟩ := zr
  have dp := kp.cell
  have dr := kr.cell
  repeat (first
    | (with_reducible apply lst_nil)
    | ((with_reducible refine lst_unwanted ?_ ?_); (focus rfl); simp only [Act.put, List.setIfInBounds_toArray, List.set_cons_zero, List.set_cons_succ])
    | ((with_reducible refine lst_cons ?_ ?_ (fun K hK => ?_)); (focus rfl); (focus (intro ht; refine fine_none ?_ ht; (focus (first | (with_reducible apply only_idle); (focus decide) | (with_reducible apply only_turn); (focus rfl); (focus rfl); (focus kernel_rfl) | exact only_calc rfl rfl rfl | exact only_check rfl rfl)))); go_simp; refine hK _ _ _ ?_; clear hK K)
    | (with_reducible apply j_seq) | (with_reducible apply j_block) | (with_reducible apply j_ret) | (with_reducible apply j_skip) | (with_reducible apply j_exit) | (with_reducible apply j_label) | (with_reducible apply j_region_lit)
    | ((with_reducible refine j_true ?_ ?_); (focus rfl)) | ((with_reducible refine j_false ?_ ?_); (focus rfl))
    | (with_reducible show Then _ _ _ _ _ _; simp only [Then])
    | (with_reducible show InBlock _ _ _ _ _ _; simp only [InBlock, ↓reduceIte, Nat.reduceEqDiff]))
  refine lst_call _ rfl ?_ ?_ Try.func11 ?_ rfl (all (m := X1.1) (n := Y1.1) ⟨_, rfl, zq0⟩ ⟨_, rfl, zu0⟩ wu.size (few_of_small sx) (few_of_small sy)) ?_
  focus rfl
  focus first | rfl | (go_simp; done) | (go_simp; rfl)
  focus rfl
  have hsame : Mem.same X1.1 Y1.1 = true := by
    rw [Mem.same_iff, ← hX, ← hY, ← hP, hA]
    exact act_comm m d ar at_ old new d' ar' at' old' new' hne
  rw [hsame]
  rintro s3 x W7 ⟨rfl, hb7, rfl⟩
  simp only [Act.put, List.setIfInBounds_toArray, List.set_cons_zero, List.set_cons_succ]
  repeat (first
    | (with_reducible apply lst_nil)
    | ((with_reducible refine lst_unwanted ?_ ?_); (focus rfl); simp only [Act.put, List.setIfInBounds_toArray, List.set_cons_zero, List.set_cons_succ])
    | ((with_reducible refine lst_cons ?_ ?_ (fun K hK => ?_)); (focus rfl); (focus (intro ht; refine fine_none ?_ ht; (focus (first | (with_reducible apply only_idle); (focus decide) | (with_reducible apply only_turn); (focus rfl); (focus rfl); (focus kernel_rfl) | exact only_calc rfl rfl rfl | exact only_check rfl rfl)))); go_simp; refine hK _ _ _ ?_; clear hK K)
    | (with_reducible apply j_seq) | (with_reducible apply j_block) | (with_reducible apply j_ret) | (with_reducible apply j_skip) | (with_reducible apply j_exit) | (with_reducible apply j_label) | (with_reducible apply j_region_lit)
    | ((with_reducible refine j_true ?_ ?_); (focus rfl)) | ((with_reducible refine j_false ?_ ?_); (focus rfl))
    | (with_reducible show Then _ _ _ _ _ _; simp only [Then])
    | (with_reducible show InBlock _ _ _ _ _ _; simp only [InBlock, ↓reduceIte, Nat.reduceEqDiff]))
  exact body_ret1 rfl rfl ⟨rfl, gu.trans (hb7.mono gu.size), rfl⟩
end
end Go.Proofs.Ytonhfgjofgbcdaa.Lw
