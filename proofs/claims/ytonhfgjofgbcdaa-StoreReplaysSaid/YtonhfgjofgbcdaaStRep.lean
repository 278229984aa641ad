/- Package store: a replay, walked. -/
import Derived.Test.YtonhfgjofgbcdaaSteps
namespace Go.Proofs.Ytonhfgjofgbcdaa.Rp
set_option linter.unusedSimpArgs false
set_option linter.unusedVariables false
set_option maxRecDepth 20000
open Go Go.Conc Go.RowKit Go.Proofs.Ytonhfgjofgbcdaa.Jay Go.Proofs.Ytonhfgjofgbcdaa.Pl
open Go.Proofs.Ytonhfgjofgbcdaa.St Go.Proofs.Ytonhfgjofgbcdaa.Rf Go.Proofs.Ytonhfgjofgbcdaa.Wd Go.Proofs.Ytonhfgjofgbcdaa.Lw
section
variable {γ : Type} {X : Turns γ} {s : γ} {w : World}
attribute [local go_sem] upon_value upon_skip

/-- What a replay tells. -/
def RepPost (s : γ) (w : World) (R : Option Mem) (s' : γ) (r : Came) (w' : World) : Prop := s' = s ∧ Below w.heap.size w w' ∧ ∃ cs, MemC w' w'.heap.size (R.getD zeroM) cs ∧ r = .back (.tuple #[.agg cs, .int .i64 (if R.isSome = true then 0 else 1)])

def SRepIn (w : World) (B : Nat) (n0 gm L : Nat) (l : List Sp) (R : Option Mem) (sl : Value) (W : World) (i : Nat) (e : Int) : Prop :=
  Below n0 w W ∧ (∃ t cs, Blk W (n0 + 1) t cs ∧ t = 25 ∧ cs = #[.int .u64 0, .int .u64 0, .slice none 0 0, .slice none 0 0, .int .u64 0, .int .u64 0, .slice none 0 0, .slice none 0 0, .slice none 0 0]) ∧ n0 + 1 < gm ∧ (∃ m cs, Blk W gm 25 cs ∧ MemC W W.heap.size m cs ∧ Off gm cs ∧ Off (n0 + 1) cs ∧ m.small ∧ (e = 0 ∧ replay (l.drop i) m = R ∨ e = 1 ∧ R = none)) ∧ i ≤ L

def SRepInv {γ : Type} (s' : γ) (w : World) (B n0 gm L : Nat) (l : List Sp) (R : Option Mem) (sl : Value) (s2 : γ) (a : Act) (W : World) : Prop := s2 = s' ∧ ∃ (i : Nat) (e : Int), SRepIn w B n0 gm L l R sl W i e ∧
    (∃ v0 v1 v3 v5 v8 v9 v10 v11 v12 v13 v14 v15 v16 v17 v21 v22 v23 v24 v25 v26 v27 v28 v29 v30 v31 v32 v33 v34 v35 v36 v37 v38 v39 v40 v41 v42 v43 v44 v45 v46 v47 v48 v49 v50 v51 v52 v53, a = { tmps := #[v0, v1, .pointer (some ⟨n0, 0, none⟩), v3, .pointer (some ⟨n0 + 1, 0, none⟩), v5, .pointer (some ⟨gm, 0, none⟩), .int .i64 e, v8, v9, v10, v11, v12, v13, v14, v15, v16, v17, sl, .int .i64 L, .int .i64 i, v21, v22, v23, v24, v25, v26, v27, v28, v29, v30, v31, v32, v33, v34, v35, v36, v37, v38, v39, v40, v41, v42, v43, v44, v45, v46, v47, v48, v49, v50, v51, v52, v53], defers := [] })
def SRepMu {γ : Type} (L : Nat) (_ : γ) (a : Act) (_ : World) : Nat := match a.tmps.getD 20 undef with
  | .int _ n => L - n.toNat
  | _ => 0

set_option maxHeartbeats 16000000 in
theorem srep {B : Nat} {k K T M : Int} {v : Value} {l : List Sp} (hl : Sps w B v l) (hB : B ≤ w.heap.size) :
    Jdo Try.prog X 14 #[cfg k K T M, v] s w (RepPost s w (whole k K T M l)) := by
  refine Jdo.there fun ht => ?_
  have hoth : ∀ b, w.heap.size ≤ b → ¬ X.oth s b := fun b hb ho => by have := ht b ho; omega
  obtain ⟨A, cp, rfl, hlc, hcm⟩ := Sl.form hl
  unfold cfg
  have b0 := (Blk.new w 36 #[.int .i64 k, .int .i64 K, .int .i64 T, .int .i64 M]).alloc (.cells #[.int .u64 0, .int .u64 0, .slice none 0 0, .slice none 0 0, .int .u64 0, .int .u64 0, .slice none 0 0, .slice none 0 0, .slice none 0 0] 25)
  have b1 := Blk.new1 w (.cells #[.int .i64 k, .int .i64 K, .int .i64 T, .int .i64 M] 36) 25 #[.int .u64 0, .int .u64 0, .slice none 0 0, .slice none 0 0, .int .u64 0, .int .u64 0, .slice none 0 0, .slice none 0 0, .slice none 0 0]
  have hb0 := ((Below.refl w.heap.size w).alloc (Nat.le_refl _) (.cells #[.int .i64 k, .int .i64 K, .int .i64 T, .int .i64 M] 36)).alloc (by simp) (.cells #[.int .u64 0, .int .u64 0, .slice none 0 0, .slice none 0 0, .int .u64 0, .int .u64 0, .slice none 0 0, .slice none 0 0, .slice none 0 0] 25)
  obtain ⟨W0, hW0⟩ : ∃ W0, W0 = (w.alloc (.cells #[.int .i64 k, .int .i64 K, .int .i64 T, .int .i64 M] 36)).alloc (.cells #[.int .u64 0, .int .u64 0, .slice none 0 0, .slice none 0 0, .int .u64 0, .int .u64 0, .slice none 0 0, .slice none 0 0, .slice none 0 0] 25) := ⟨_, rfl⟩
  rw [← hW0] at b0 b1 hb0
  refine jdo_of Try.func14 rfl ?_
  simp only [Try.ntmps14, List.size_toArray, List.length_cons, List.length_nil, Nat.reduceAdd, Nat.reduceSub, Array.replicate_succ, Array.replicate_zero, List.push_toArray, List.append_toArray, List.nil_append, List.cons_append]
  repeat (first
    | ((with_reducible refine lst_free ?_ ?_ (fun K hK => ?_)); (focus with_reducible rfl); (focus (intro ht; refine fine_none ?_ ht; (focus (first | (with_reducible apply only_idle); (focus decide) | (with_reducible apply only_turn); (focus rfl); (focus rfl); (focus kernel_rfl) | exact only_calc rfl rfl rfl | exact only_check rfl rfl)))); go_simp; refine hK _ _ _ ?_; clear hK K)
    | ((with_reducible refine lst_off (i := ?_) (b := ?_) (d := ?_) ?_ ?_ ?_ ?_); rotate_left 3; (focus with_reducible rfl); (focus rfl); (focus (simp only [List.getElem?_toArray, List.getElem?_cons_succ, List.getElem?_cons_zero, Bool.not_true, Bool.not_false])); simp only [Act.put, List.setIfInBounds_toArray, List.set_cons_zero, List.set_cons_succ])
    | ((with_reducible refine lst_on (i := ?_) (b := ?_) (d := ?_) ?_ ?_ ?_ ?_ (fun K hK => ?_)); rotate_left 3; (focus with_reducible rfl); (focus rfl); (focus (simp only [List.getElem?_toArray, List.getElem?_cons_succ, List.getElem?_cons_zero])); (focus (intro ht; refine fine_none ?_ ht; (focus (first | (with_reducible apply only_idle); (focus decide) | (with_reducible apply only_turn); (focus rfl); (focus rfl); (focus kernel_rfl) | exact only_calc rfl rfl rfl | exact only_check rfl rfl)))); go_simp; refine hK _ _ _ ?_; clear hK K)
    | ((with_reducible refine lst_undef (i := ?_) (b := ?_) (d := ?_) ?_ ?_ ?_ ?_); rotate_left 3; (focus with_reducible rfl); (focus rfl); (focus (simp only [List.getElem?_toArray, List.getElem?_cons_succ, List.getElem?_cons_zero])); simp only [Act.put, List.setIfInBounds_toArray, List.set_cons_zero, List.set_cons_succ])
    | (with_reducible apply lst_nil)
    | ((fail_if_success (with_reducible refine lst_any ?_)); first
    | (with_reducible apply j_seq) | (with_reducible apply j_block) | (with_reducible apply j_ret) | (with_reducible apply j_skip) | (with_reducible apply j_exit) | (with_reducible apply j_label) | (with_reducible apply j_region_lit)
    | ((with_reducible refine j_true ?_ ?_); (focus rfl)) | ((with_reducible refine j_false ?_ ?_); (focus rfl))
    | (with_reducible show Then _ _ _ _ _ _; simp only [Then])
    | (with_reducible show InBlock _ _ _ _ _ _; simp only [InBlock, ↓reduceIte, Nat.reduceEqDiff])))
  rw [← hW0]
  clear hW0
  have d0 := b0.cell
  repeat (first
    | ((with_reducible refine lst_free ?_ ?_ (fun K hK => ?_)); (focus with_reducible rfl); (focus (intro ht; refine fine_none ?_ ht; (focus (first | (with_reducible apply only_idle); (focus decide) | (with_reducible apply only_turn); (focus rfl); (focus rfl); (focus kernel_rfl) | exact only_calc rfl rfl rfl | exact only_check rfl rfl)))); go_simp; refine hK _ _ _ ?_; clear hK K)
    | ((with_reducible refine lst_off (i := ?_) (b := ?_) (d := ?_) ?_ ?_ ?_ ?_); rotate_left 3; (focus with_reducible rfl); (focus rfl); (focus (simp only [List.getElem?_toArray, List.getElem?_cons_succ, List.getElem?_cons_zero, Bool.not_true, Bool.not_false])); simp only [Act.put, List.setIfInBounds_toArray, List.set_cons_zero, List.set_cons_succ])
    | ((with_reducible refine lst_on (i := ?_) (b := ?_) (d := ?_) ?_ ?_ ?_ ?_ (fun K hK => ?_)); rotate_left 3; (focus with_reducible rfl); (focus rfl); (focus (simp only [List.getElem?_toArray, List.getElem?_cons_succ, List.getElem?_cons_zero])); (focus (intro ht; refine fine_none ?_ ht; (focus (first | (with_reducible apply only_idle); (focus decide) | (with_reducible apply only_turn); (focus rfl); (focus rfl); (focus kernel_rfl) | exact only_calc rfl rfl rfl | exact only_check rfl rfl)))); go_simp; refine hK _ _ _ ?_; clear hK K)
    | ((with_reducible refine lst_undef (i := ?_) (b := ?_) (d := ?_) ?_ ?_ ?_ ?_); rotate_left 3; (focus with_reducible rfl); (focus rfl); (focus (simp only [List.getElem?_toArray, List.getElem?_cons_succ, List.getElem?_cons_zero])); simp only [Act.put, List.setIfInBounds_toArray, List.set_cons_zero, List.set_cons_succ])
    | (with_reducible apply lst_nil)
    | ((fail_if_success (with_reducible refine lst_any ?_)); first
    | (with_reducible apply j_seq) | (with_reducible apply j_block) | (with_reducible apply j_ret) | (with_reducible apply j_skip) | (with_reducible apply j_exit) | (with_reducible apply j_label) | (with_reducible apply j_region_lit)
    | ((with_reducible refine j_true ?_ ?_); (focus rfl)) | ((with_reducible refine j_false ?_ ?_); (focus rfl))
    | (with_reducible show Then _ _ _ _ _ _; simp only [Then])
    | (with_reducible show InBlock _ _ _ _ _ _; simp only [InBlock, ↓reduceIte, Nat.reduceEqDiff])))
  refine lst_call _ rfl ?_ ?_ Try.func13 ?_ rfl (new_any k K T M) ?_
  focus rfl
  focus first | rfl | (go_simp; done) | (go_simp; rfl)
  focus rfl
  rintro s1 x W1 ⟨rfl, hb1, cs1, rfl, hm1, hof1⟩
  have hoffr := hof1 (w.heap.size + 1) b1.lt
  clear hof1
  have g1 := hb0.trans (hb1.mono hb0.size)
  replace b1 := Blk.below b1 hb1 (Blk.lt b1)
  clear d0 b0
  have l1 := b1.lt
  have hms := small_first k K T M
  have hR : ((if mayB k K T M = true then (0 : Int) else 1) = 0 ∧ replay (l.drop 0) (firstM k K T M) = whole k K T M l ∨ (if mayB k K T M = true then (0 : Int) else 1) = 1 ∧ whole k K T M l = none) := by
    unfold firstM whole
    cases mayB k K T M with
    | true => exact .inl ⟨rfl, rfl⟩
    | false => exact .inr ⟨rfl, rfl⟩
  generalize (if mayB k K T M = true then (0 : Int) else 1) = e at hR ⊢
  generalize firstM k K T M = m1 at hm1 hR hms
  generalize whole k K T M l = R at hR ⊢
  have hm10 := hm1
  obtain ⟨p2, p3, p6, p7, p8, rfl, hus1⟩ := hm1
  clear hus1
  simp only [Act.put, List.setIfInBounds_toArray, List.set_cons_zero, List.set_cons_succ]
  repeat (first
    | ((with_reducible refine lst_free ?_ ?_ (fun K hK => ?_)); (focus with_reducible rfl); (focus (intro ht; refine fine_none ?_ ht; (focus (first | (with_reducible apply only_idle); (focus decide) | (with_reducible apply only_turn); (focus rfl); (focus rfl); (focus kernel_rfl) | exact only_calc rfl rfl rfl | exact only_check rfl rfl)))); go_simp; refine hK _ _ _ ?_; clear hK K)
    | ((with_reducible refine lst_off (i := ?_) (b := ?_) (d := ?_) ?_ ?_ ?_ ?_); rotate_left 3; (focus with_reducible rfl); (focus rfl); (focus (simp only [List.getElem?_toArray, List.getElem?_cons_succ, List.getElem?_cons_zero, Bool.not_true, Bool.not_false])); simp only [Act.put, List.setIfInBounds_toArray, List.set_cons_zero, List.set_cons_succ])
    | ((with_reducible refine lst_on (i := ?_) (b := ?_) (d := ?_) ?_ ?_ ?_ ?_ (fun K hK => ?_)); rotate_left 3; (focus with_reducible rfl); (focus rfl); (focus (simp only [List.getElem?_toArray, List.getElem?_cons_succ, List.getElem?_cons_zero])); (focus (intro ht; refine fine_none ?_ ht; (focus (first | (with_reducible apply only_idle); (focus decide) | (with_reducible apply only_turn); (focus rfl); (focus rfl); (focus kernel_rfl) | exact only_calc rfl rfl rfl | exact only_check rfl rfl)))); go_simp; refine hK _ _ _ ?_; clear hK K)
    | ((with_reducible refine lst_undef (i := ?_) (b := ?_) (d := ?_) ?_ ?_ ?_ ?_); rotate_left 3; (focus with_reducible rfl); (focus rfl); (focus (simp only [List.getElem?_toArray, List.getElem?_cons_succ, List.getElem?_cons_zero])); simp only [Act.put, List.setIfInBounds_toArray, List.set_cons_zero, List.set_cons_succ])
    | (with_reducible apply lst_nil)
    | ((fail_if_success (with_reducible refine lst_any ?_)); first
    | (with_reducible apply j_seq) | (with_reducible apply j_block) | (with_reducible apply j_ret) | (with_reducible apply j_skip) | (with_reducible apply j_exit) | (with_reducible apply j_label) | (with_reducible apply j_region_lit)
    | ((with_reducible refine j_true ?_ ?_); (focus rfl)) | ((with_reducible refine j_false ?_ ?_); (focus rfl))
    | (with_reducible show Then _ _ _ _ _ _; simp only [Then])
    | (with_reducible show InBlock _ _ _ _ _ _; simp only [InBlock, ↓reduceIte, Nat.reduceEqDiff])))
  refine lst_one (one_store (v := .agg #[.int .u64 m1.e, .int .u64 m1.f, p2, p3, .int .u64 m1.h, .int .u64 m1.t, p6, p7, p8]) (cs' := #[.int .u64 m1.e, .int .u64 m1.f, p2, p3, .int .u64 m1.h, .int .u64 m1.t, p6, p7, p8]) rfl rfl rfl rfl (Blk.new W1 _ _) (hoth _ (Below.size g1)) (by kernel_rfl) (Nat.le_of_ble_eq_true rfl) (memC_one hm10) rfl ?_)
  simp only [Act.put, List.setIfInBounds_toArray, List.set_cons_zero, List.set_cons_succ]
  have bm := (Blk.new W1 25 #[.int .u64 0, .int .u64 0, .slice none 0 0, .slice none 0 0, .int .u64 0, .int .u64 0, .slice none 0 0, .slice none 0 0, .slice none 0 0]).row #[.int .u64 m1.e, .int .u64 m1.f, p2, p3, .int .u64 m1.h, .int .u64 m1.t, p6, p7, p8]
  have hb2 : Below (World.heap W1).size W1 _ := Below_row ((Below.refl _ _).alloc (Nat.le_refl _) (.cells #[.int .u64 0, .int .u64 0, .slice none 0 0, .slice none 0 0, .int .u64 0, .int .u64 0, .slice none 0 0, .slice none 0 0, .slice none 0 0] 25)) #[.int .u64 m1.e, .int .u64 m1.f, p2, p3, .int .u64 m1.h, .int .u64 m1.t, p6, p7, p8] (Nat.le_refl _)
  generalize hW2 : (World.alloc W1 (.cells #[.int .u64 0, .int .u64 0, .slice none 0 0, .slice none 0 0, .int .u64 0, .int .u64 0, .slice none 0 0, .slice none 0 0, .slice none 0 0] 25)).setRow (World.heap W1).size #[.int .u64 m1.e, .int .u64 m1.f, p2, p3, .int .u64 m1.h, .int .u64 m1.t, p6, p7, p8] = W2 at bm hb2 ⊢
  clear hW2
  have hm2 := hm10.below hb2
  have hoff := off_of_memC hm10 (Nat.le_refl _)
  have g2 := g1.trans (hb2.mono g1.size)
  replace b1 := Blk.below b1 hb2 (Blk.lt b1)
  generalize hgm : W1.heap.size = gm at bm hoff l1 hm2 ⊢
  have hgm2 : gm < W2.heap.size := bm.lt
  clear hgm hb2 hm10
  repeat (first
    | ((with_reducible refine lst_free ?_ ?_ (fun K hK => ?_)); (focus with_reducible rfl); (focus (intro ht; refine fine_none ?_ ht; (focus (first | (with_reducible apply only_idle); (focus decide) | (with_reducible apply only_turn); (focus rfl); (focus rfl); (focus kernel_rfl) | exact only_calc rfl rfl rfl | exact only_check rfl rfl)))); go_simp; refine hK _ _ _ ?_; clear hK K)
    | ((with_reducible refine lst_off (i := ?_) (b := ?_) (d := ?_) ?_ ?_ ?_ ?_); rotate_left 3; (focus with_reducible rfl); (focus rfl); (focus (simp only [List.getElem?_toArray, List.getElem?_cons_succ, List.getElem?_cons_zero, Bool.not_true, Bool.not_false])); simp only [Act.put, List.setIfInBounds_toArray, List.set_cons_zero, List.set_cons_succ])
    | ((with_reducible refine lst_on (i := ?_) (b := ?_) (d := ?_) ?_ ?_ ?_ ?_ (fun K hK => ?_)); rotate_left 3; (focus with_reducible rfl); (focus rfl); (focus (simp only [List.getElem?_toArray, List.getElem?_cons_succ, List.getElem?_cons_zero])); (focus (intro ht; refine fine_none ?_ ht; (focus (first | (with_reducible apply only_idle); (focus decide) | (with_reducible apply only_turn); (focus rfl); (focus rfl); (focus kernel_rfl) | exact only_calc rfl rfl rfl | exact only_check rfl rfl)))); go_simp; refine hK _ _ _ ?_; clear hK K)
    | ((with_reducible refine lst_undef (i := ?_) (b := ?_) (d := ?_) ?_ ?_ ?_ ?_); rotate_left 3; (focus with_reducible rfl); (focus rfl); (focus (simp only [List.getElem?_toArray, List.getElem?_cons_succ, List.getElem?_cons_zero])); simp only [Act.put, List.setIfInBounds_toArray, List.set_cons_zero, List.set_cons_succ])
    | (with_reducible apply lst_nil)
    | ((fail_if_success (with_reducible refine lst_any ?_)); first
    | (with_reducible apply j_seq) | (with_reducible apply j_block) | (with_reducible apply j_ret) | (with_reducible apply j_skip) | (with_reducible apply j_exit) | (with_reducible apply j_label) | (with_reducible apply j_region_lit)
    | ((with_reducible refine j_true ?_ ?_); (focus rfl)) | ((with_reducible refine j_false ?_ ?_); (focus rfl))
    | (with_reducible show Then _ _ _ _ _ _; simp only [Then])
    | (with_reducible show InBlock _ _ _ _ _ _; simp only [InBlock, ↓reduceIte, Nat.reduceEqDiff])))
  refine j_loop (I := SRepInv s1 w B w.heap.size gm l.length l R (.slice A l.length cp)) (μ := SRepMu l.length) ?_ ?_
  focus exact ⟨rfl, 0, e, ⟨g2, ⟨_, _, b1, rfl, rfl⟩, l1, ⟨m1, _, bm, hm2.more (by omega), hoff, hoffr, hms, hR⟩, Nat.zero_le _⟩, _, _, _, _, _, _, _, _, _, _, _, _, _, _, _, _, _, _, _, _, _, _, _, _, _, _, _, _, _, _, _, _, _, _, _, _, _, _, _, _, _, _, _, _, _, _, _, rfl⟩
  clear hR b1 bm g2 hm2 hoff hoffr hms g1 hb1 hgm2 p2 p3 p6 p7 p8 m1 e
  rintro s2 a W ⟨rfl, i, e, ⟨hW, ⟨_, _, b1, rfl, rfl⟩, l1, ⟨m, cs, bm, hm, hoff, hoffr, hms, hR⟩, hi⟩, v0, v1, v3, v5, v8, v9, v10, v11, v12, v13, v14, v15, v16, v17, v21, v22, v23, v24, v25, v26, v27, v28, v29, v30, v31, v32, v33, v34, v35, v36, v37, v38, v39, v40, v41, v42, v43, v44, v45, v46, v47, v48, v49, v50, v51, v52, v53, rfl⟩
  have hm0 := hm
  obtain ⟨p2, p3, p6, p7, p8, rfl, hus1⟩ := hm
  clear hus1
  by_cases c : i < l.length
  · have c1 : decide ((i : Int) < (l.length : Int)) = true := decide_eq_true (by omega)
    have c2 : decide (i < l.length) = true := decide_eq_true c
    have hl' := hl.below (hW.mono hB)
    obtain ⟨b, o, cc, ev, hb, _, _, hat⟩ := Sps.at_ hl' (by omega)
    obtain ⟨rfl, rfl⟩ : A = some ⟨b, o, none⟩ ∧ cp = cc := by injection ev with e1 e2 e3; exact ⟨e1, e3⟩
    have y0 : W.cell? ⟨b, o + i * 8, none⟩ = some (.int .i64 l[i].th) := hat i c 0 _ rfl
    have y1 : W.cell? ⟨b, o + i * 8 + 1, none⟩ = some (.int .i64 l[i].d) := by rw [Nat.add_assoc]; exact hat i c 1 _ rfl
    have y2 : W.cell? ⟨b, o + i * 8 + 2, none⟩ = some (.int .i64 l[i].ar) := by rw [Nat.add_assoc]; exact hat i c 2 _ rfl
    have y3 : W.cell? ⟨b, o + i * 8 + 3, none⟩ = some (.int .i64 l[i].at_) := by rw [Nat.add_assoc]; exact hat i c 3 _ rfl
    have y4 : W.cell? ⟨b, o + i * 8 + 4, none⟩ = some (.int .u64 l[i].old) := by rw [Nat.add_assoc]; exact hat i c 4 _ rfl
    have y5 : W.cell? ⟨b, o + i * 8 + 5, none⟩ = some (.int .u64 l[i].new) := by rw [Nat.add_assoc]; exact hat i c 5 _ rfl
    have y6 : W.cell? ⟨b, o + i * 8 + 6, none⟩ = some (.int .u64 l[i].was) := by rw [Nat.add_assoc]; exact hat i c 6 _ rfl
    have y7 : W.cell? ⟨b, o + i * 8 + 7, none⟩ = some (.bool l[i].done) := by rw [Nat.add_assoc]; exact hat i c 7 _ rfl
    have hidx : (0 : Int) ≤ (i : Int) ∧ (i : Int) < (l.length : Int) := by omega
    clear hat
    have hrd := replay_drop c m
    have hxe : ∃ x, l[i] = x := ⟨_, rfl⟩
    obtain ⟨x, hxe⟩ := hxe
    rw [hxe] at y0 y1 y2 y3 y4 y5 y6 y7 hrd
    repeat (first
      | ((with_reducible refine lst_free ?_ ?_ (fun K hK => ?_)); (focus with_reducible rfl); (focus (intro ht; refine fine_none ?_ ht; (focus (first | (with_reducible apply only_idle); (focus decide) | (with_reducible apply only_turn); (focus rfl); (focus rfl); (focus kernel_rfl) | exact only_calc rfl rfl rfl | exact only_check rfl rfl)))); go_simp; refine hK _ _ _ ?_; clear hK K)
      | ((with_reducible refine lst_off (i := ?_) (b := ?_) (d := ?_) ?_ ?_ ?_ ?_); rotate_left 3; (focus with_reducible rfl); (focus rfl); (focus (simp only [List.getElem?_toArray, List.getElem?_cons_succ, List.getElem?_cons_zero, Bool.not_true, Bool.not_false])); simp only [Act.put, List.setIfInBounds_toArray, List.set_cons_zero, List.set_cons_succ])
      | ((with_reducible refine lst_on (i := ?_) (b := ?_) (d := ?_) ?_ ?_ ?_ ?_ (fun K hK => ?_)); rotate_left 3; (focus with_reducible rfl); (focus rfl); (focus (simp only [List.getElem?_toArray, List.getElem?_cons_succ, List.getElem?_cons_zero])); (focus (intro ht; refine fine_none ?_ ht; (focus (first | (with_reducible apply only_idle); (focus decide) | (with_reducible apply only_turn); (focus rfl); (focus rfl); (focus kernel_rfl) | exact only_calc rfl rfl rfl | exact only_check rfl rfl)))); go_simp; refine hK _ _ _ ?_; clear hK K)
      | ((with_reducible refine lst_undef (i := ?_) (b := ?_) (d := ?_) ?_ ?_ ?_ ?_); rotate_left 3; (focus with_reducible rfl); (focus rfl); (focus (simp only [List.getElem?_toArray, List.getElem?_cons_succ, List.getElem?_cons_zero])); simp only [Act.put, List.setIfInBounds_toArray, List.set_cons_zero, List.set_cons_succ])
      | (with_reducible apply lst_nil)
      | ((fail_if_success (with_reducible refine lst_any ?_)); first
      | (with_reducible apply j_seq) | (with_reducible apply j_block) | (with_reducible apply j_ret) | (with_reducible apply j_skip) | (with_reducible apply j_exit) | (with_reducible apply j_label) | (with_reducible apply j_region_lit)
      | ((with_reducible refine j_true ?_ ?_); (focus rfl)) | ((with_reducible refine j_false ?_ ?_); (focus rfl))
      | (with_reducible show Then _ _ _ _ _ _; simp only [Then])
      | (with_reducible show InBlock _ _ _ _ _ _; simp only [InBlock, ↓reduceIte, Nat.reduceEqDiff])))
    refine lst_one (one_store (v := .agg #[.int .i64 x.th, .int .i64 x.d, .int .i64 x.ar, .int .i64 x.at_, .int .u64 x.old, .int .u64 x.new, .int .u64 x.was, .bool x.done]) (cs' := #[.int .i64 x.th, .int .i64 x.d, .int .i64 x.ar, .int .i64 x.at_, .int .u64 x.old, .int .u64 x.new, .int .u64 x.was, .bool x.done]) rfl rfl rfl rfl (Blk.new W _ _) (hoth _ (Below.size hW)) (by kernel_rfl) (Nat.le_of_ble_eq_true rfl) (by simp [Value.cells, Value.oneCell']) rfl ?_)
    simp only [Act.put, List.setIfInBounds_toArray, List.set_cons_zero, List.set_cons_succ]
    have bs := (Blk.new W 63 #[.int .i64 0, .int .i64 0, .int .i64 0, .int .i64 0, .int .u64 0, .int .u64 0, .int .u64 0, .bool false]).row #[.int .i64 x.th, .int .i64 x.d, .int .i64 x.ar, .int .i64 x.at_, .int .u64 x.old, .int .u64 x.new, .int .u64 x.was, .bool x.done]
    have hb3 : Below W.heap.size W _ := Below_row ((Below.refl _ _).alloc (Nat.le_refl _) (.cells #[.int .i64 0, .int .i64 0, .int .i64 0, .int .i64 0, .int .u64 0, .int .u64 0, .int .u64 0, .bool false] 63)) #[.int .i64 x.th, .int .i64 x.d, .int .i64 x.ar, .int .i64 x.at_, .int .u64 x.old, .int .u64 x.new, .int .u64 x.was, .bool x.done] (Nat.le_refl _)
    generalize hW3 : (World.alloc W (.cells #[.int .i64 0, .int .i64 0, .int .i64 0, .int .i64 0, .int .u64 0, .int .u64 0, .int .u64 0, .bool false] 63)).setRow W.heap.size #[.int .i64 x.th, .int .i64 x.d, .int .i64 x.ar, .int .i64 x.at_, .int .u64 x.old, .int .u64 x.new, .int .u64 x.was, .bool x.done] = W3 at bs hb3 ⊢
    clear hW3 y0 y1 y2 y3 y4 y5 y6 y7
    replace b1 := Blk.below b1 hb3 (Blk.lt b1)
    replace bm := Blk.below bm hb3 (Blk.lt bm)
    have hm3 := (hm0.below hb3).more hb3.size
    have g3 := hW.trans (hb3.mono hW.size)
    clear hm0
    rcases hR with ⟨rfl, hR⟩ | ⟨rfl, rfl⟩
    · have dm := bm.cell
      have ds := bs.cell
      have lm := bm.lt
      repeat (first
        | ((with_reducible refine lst_free ?_ ?_ (fun K hK => ?_)); (focus with_reducible rfl); (focus (intro ht; refine fine_none ?_ ht; (focus (first | (with_reducible apply only_idle); (focus decide) | (with_reducible apply only_turn); (focus rfl); (focus rfl); (focus kernel_rfl) | exact only_calc rfl rfl rfl | exact only_check rfl rfl)))); go_simp; refine hK _ _ _ ?_; clear hK K)
        | ((with_reducible refine lst_off (i := ?_) (b := ?_) (d := ?_) ?_ ?_ ?_ ?_); rotate_left 3; (focus with_reducible rfl); (focus rfl); (focus (simp only [List.getElem?_toArray, List.getElem?_cons_succ, List.getElem?_cons_zero, Bool.not_true, Bool.not_false])); simp only [Act.put, List.setIfInBounds_toArray, List.set_cons_zero, List.set_cons_succ])
        | ((with_reducible refine lst_on (i := ?_) (b := ?_) (d := ?_) ?_ ?_ ?_ ?_ (fun K hK => ?_)); rotate_left 3; (focus with_reducible rfl); (focus rfl); (focus (simp only [List.getElem?_toArray, List.getElem?_cons_succ, List.getElem?_cons_zero])); (focus (intro ht; refine fine_none ?_ ht; (focus (first | (with_reducible apply only_idle); (focus decide) | (with_reducible apply only_turn); (focus rfl); (focus rfl); (focus kernel_rfl) | exact only_calc rfl rfl rfl | exact only_check rfl rfl)))); go_simp; refine hK _ _ _ ?_; clear hK K)
        | ((with_reducible refine lst_undef (i := ?_) (b := ?_) (d := ?_) ?_ ?_ ?_ ?_); rotate_left 3; (focus with_reducible rfl); (focus rfl); (focus (simp only [List.getElem?_toArray, List.getElem?_cons_succ, List.getElem?_cons_zero])); simp only [Act.put, List.setIfInBounds_toArray, List.set_cons_zero, List.set_cons_succ])
        | (with_reducible apply lst_nil)
        | ((fail_if_success (with_reducible refine lst_any ?_)); first
        | (with_reducible apply j_seq) | (with_reducible apply j_block) | (with_reducible apply j_ret) | (with_reducible apply j_skip) | (with_reducible apply j_exit) | (with_reducible apply j_label) | (with_reducible apply j_region_lit)
        | ((with_reducible refine j_true ?_ ?_); (focus rfl)) | ((with_reducible refine j_false ?_ ?_); (focus rfl))
        | (with_reducible show Then _ _ _ _ _ _; simp only [Then])
        | (with_reducible show InBlock _ _ _ _ _ _; simp only [InBlock, ↓reduceIte, Nat.reduceEqDiff])))
      refine lst_call _ rfl ?_ ?_ Try.func10 ?_ rfl (act2 (d := x.d) (ar := x.ar) (at_ := x.at_) (old := x.old) (new := x.new) hm3 (Nat.le_refl _) hms) ?_
      focus rfl
      focus first | rfl | (go_simp; done) | (go_simp; rfl)
      focus rfl
      rintro s3 z W4 ⟨rfl, hb4, cs4, rfl, hm4, hfar⟩
      have sm4 := small_act hms x.d x.ar x.at_ x.old x.new
      generalize hA : m.act x.d x.ar x.at_ x.old x.new = A1 at hm4 sm4 hrd ⊢
      have hoff4 := hfar gm lm hoff
      have hoffr4 := hfar (w.heap.size + 1) (by omega) hoffr
      have hm40 := hm4
      obtain ⟨q2, q3, q6, q7, q8, rfl, hus4⟩ := hm4
      clear hus4 dm ds hfar hm3
      replace b1 := Blk.below b1 hb4 (Blk.lt b1)
      replace bm := Blk.below bm hb4 (Blk.lt bm)
      replace bs := Blk.below bs hb4 (Blk.lt bs)
      have g4 := g3.trans (hb4.mono g3.size)
      have ds := bs.cell
      simp only [Act.put, List.setIfInBounds_toArray, List.set_cons_zero, List.set_cons_succ]
      repeat (first
        | ((with_reducible refine lst_free ?_ ?_ (fun K hK => ?_)); (focus with_reducible rfl); (focus (intro ht; refine fine_none ?_ ht; (focus (first | (with_reducible apply only_idle); (focus decide) | (with_reducible apply only_turn); (focus rfl); (focus rfl); (focus kernel_rfl) | exact only_calc rfl rfl rfl | exact only_check rfl rfl)))); go_simp; refine hK _ _ _ ?_; clear hK K)
        | ((with_reducible refine lst_off (i := ?_) (b := ?_) (d := ?_) ?_ ?_ ?_ ?_); rotate_left 3; (focus with_reducible rfl); (focus rfl); (focus (simp only [List.getElem?_toArray, List.getElem?_cons_succ, List.getElem?_cons_zero, Bool.not_true, Bool.not_false])); simp only [Act.put, List.setIfInBounds_toArray, List.set_cons_zero, List.set_cons_succ])
        | ((with_reducible refine lst_on (i := ?_) (b := ?_) (d := ?_) ?_ ?_ ?_ ?_ (fun K hK => ?_)); rotate_left 3; (focus with_reducible rfl); (focus rfl); (focus (simp only [List.getElem?_toArray, List.getElem?_cons_succ, List.getElem?_cons_zero])); (focus (intro ht; refine fine_none ?_ ht; (focus (first | (with_reducible apply only_idle); (focus decide) | (with_reducible apply only_turn); (focus rfl); (focus rfl); (focus kernel_rfl) | exact only_calc rfl rfl rfl | exact only_check rfl rfl)))); go_simp; refine hK _ _ _ ?_; clear hK K)
        | ((with_reducible refine lst_undef (i := ?_) (b := ?_) (d := ?_) ?_ ?_ ?_ ?_); rotate_left 3; (focus with_reducible rfl); (focus rfl); (focus (simp only [List.getElem?_toArray, List.getElem?_cons_succ, List.getElem?_cons_zero])); simp only [Act.put, List.setIfInBounds_toArray, List.set_cons_zero, List.set_cons_succ])
        | (with_reducible apply lst_nil)
        | ((fail_if_success (with_reducible refine lst_any ?_)); first
        | (with_reducible apply j_seq) | (with_reducible apply j_block) | (with_reducible apply j_ret) | (with_reducible apply j_skip) | (with_reducible apply j_exit) | (with_reducible apply j_label) | (with_reducible apply j_region_lit)
        | ((with_reducible refine j_true ?_ ?_); (focus rfl)) | ((with_reducible refine j_false ?_ ?_); (focus rfl))
        | (with_reducible show Then _ _ _ _ _ _; simp only [Then])
        | (with_reducible show InBlock _ _ _ _ _ _; simp only [InBlock, ↓reduceIte, Nat.reduceEqDiff])))
      refine lst_one (one_store (v := .agg #[.int .u64 A1.1.e, .int .u64 A1.1.f, q2, q3, .int .u64 A1.1.h, .int .u64 A1.1.t, q6, q7, q8]) (cs' := #[.int .u64 A1.1.e, .int .u64 A1.1.f, q2, q3, .int .u64 A1.1.h, .int .u64 A1.1.t, q6, q7, q8]) rfl rfl rfl rfl (Blk.new W4 _ _) (hoth _ (Below.size g4)) (by kernel_rfl) (Nat.le_of_ble_eq_true rfl) (memC_one hm40) rfl ?_)
      simp only [Act.put, List.setIfInBounds_toArray, List.set_cons_zero, List.set_cons_succ]
      have bk := (Blk.new W4 25 #[.int .u64 0, .int .u64 0, .slice none 0 0, .slice none 0 0, .int .u64 0, .int .u64 0, .slice none 0 0, .slice none 0 0, .slice none 0 0]).row #[.int .u64 A1.1.e, .int .u64 A1.1.f, q2, q3, .int .u64 A1.1.h, .int .u64 A1.1.t, q6, q7, q8]
      have hb5 : Below (World.heap W4).size W4 _ := Below_row ((Below.refl _ _).alloc (Nat.le_refl _) (.cells #[.int .u64 0, .int .u64 0, .slice none 0 0, .slice none 0 0, .int .u64 0, .int .u64 0, .slice none 0 0, .slice none 0 0, .slice none 0 0] 25)) #[.int .u64 A1.1.e, .int .u64 A1.1.f, q2, q3, .int .u64 A1.1.h, .int .u64 A1.1.t, q6, q7, q8] (Nat.le_refl _)
      generalize hW6 : (World.alloc W4 (.cells #[.int .u64 0, .int .u64 0, .slice none 0 0, .slice none 0 0, .int .u64 0, .int .u64 0, .slice none 0 0, .slice none 0 0, .slice none 0 0] 25)).setRow (World.heap W4).size #[.int .u64 A1.1.e, .int .u64 A1.1.f, q2, q3, .int .u64 A1.1.h, .int .u64 A1.1.t, q6, q7, q8] = W6 at bk hb5 ⊢
      clear hW6 ds
      replace b1 := Blk.below b1 hb5 (Blk.lt b1)
      replace bm := Blk.below bm hb5 (Blk.lt bm)
      replace bs := Blk.below bs hb5 (Blk.lt bs)
      have hm6 := (hm40.below hb5).more hb5.size
      have hoff6 := hoff4
      have g6 := g4.trans (hb5.mono g4.size)
      have dk := bk.cell
      have ds := bs.cell
      have hgk : gm < W4.heap.size := by have := hb4.size; omega
      clear hm40 hoff4 hoff hb5 g4 hb4 g3 hb3 bs bk
      rw [hR] at hrd
      have hwi : IntKind.i64.wrap ((i : Int) + 1) = (i : Int) + 1 := by
        have : maxLen = 9223372036854775807 := rfl
        simp [IntKind.wrap, IntKind.bits, IntKind.signed]; omega
      by_cases k1 : A1.2.1 = x.was
      · have r1 : (A1.2.1 != x.was) = false := by simpa using k1
        by_cases k2 : A1.2.2 = x.done
        · have r2 : (A1.2.2 != x.done) = false := by simpa using k2
          rw [if_pos ⟨k1, k2⟩] at hrd
          obtain ⟨bd, e1, e2⟩ : ∃ bd, A1.2.2 = bd ∧ x.done = bd := ⟨_, rfl, k2.symm⟩
          cases bd
          clear k1 k2
          all_goals
            repeat (first
              | ((with_reducible refine lst_free ?_ ?_ (fun K hK => ?_)); (focus with_reducible rfl); (focus (intro ht; refine fine_none ?_ ht; (focus (first | (with_reducible apply only_idle); (focus decide) | (with_reducible apply only_turn); (focus rfl); (focus rfl); (focus kernel_rfl) | exact only_calc rfl rfl rfl | exact only_check rfl rfl)))); go_simp; refine hK _ _ _ ?_; clear hK K)
              | ((with_reducible refine lst_off (i := ?_) (b := ?_) (d := ?_) ?_ ?_ ?_ ?_); rotate_left 3; (focus with_reducible rfl); (focus rfl); (focus (simp only [List.getElem?_toArray, List.getElem?_cons_succ, List.getElem?_cons_zero, Bool.not_true, Bool.not_false])); simp only [Act.put, List.setIfInBounds_toArray, List.set_cons_zero, List.set_cons_succ])
              | ((with_reducible refine lst_on (i := ?_) (b := ?_) (d := ?_) ?_ ?_ ?_ ?_ (fun K hK => ?_)); rotate_left 3; (focus with_reducible rfl); (focus rfl); (focus (simp only [List.getElem?_toArray, List.getElem?_cons_succ, List.getElem?_cons_zero])); (focus (intro ht; refine fine_none ?_ ht; (focus (first | (with_reducible apply only_idle); (focus decide) | (with_reducible apply only_turn); (focus rfl); (focus rfl); (focus kernel_rfl) | exact only_calc rfl rfl rfl | exact only_check rfl rfl)))); go_simp; refine hK _ _ _ ?_; clear hK K)
              | ((with_reducible refine lst_undef (i := ?_) (b := ?_) (d := ?_) ?_ ?_ ?_ ?_); rotate_left 3; (focus with_reducible rfl); (focus rfl); (focus (simp only [List.getElem?_toArray, List.getElem?_cons_succ, List.getElem?_cons_zero])); simp only [Act.put, List.setIfInBounds_toArray, List.set_cons_zero, List.set_cons_succ])
              | (with_reducible apply lst_nil)
              | ((fail_if_success (with_reducible refine lst_any ?_)); first
              | (with_reducible apply j_seq) | (with_reducible apply j_block) | (with_reducible apply j_ret) | (with_reducible apply j_skip) | (with_reducible apply j_exit) | (with_reducible apply j_label) | (with_reducible apply j_region_lit)
              | ((with_reducible refine j_true ?_ ?_); (focus rfl)) | ((with_reducible refine j_false ?_ ?_); (focus rfl))
              | (with_reducible show Then _ _ _ _ _ _; simp only [Then])
              | (with_reducible show InBlock _ _ _ _ _ _; simp only [InBlock, ↓reduceIte, Nat.reduceEqDiff])))
            refine lst_one (one_store (v := .agg #[.int .u64 A1.1.e, .int .u64 A1.1.f, q2, q3, .int .u64 A1.1.h, .int .u64 A1.1.t, q6, q7, q8]) (cs' := #[.int .u64 A1.1.e, .int .u64 A1.1.f, q2, q3, .int .u64 A1.1.h, .int .u64 A1.1.t, q6, q7, q8]) rfl rfl rfl rfl bm (hoth _ (by omega)) (by kernel_rfl) (Nat.le_of_ble_eq_true rfl) (memC_one hm6) rfl ?_)
            simp only [Act.put, List.setIfInBounds_toArray, List.set_cons_zero, List.set_cons_succ]
            have bm7 := bm.row #[.int .u64 A1.1.e, .int .u64 A1.1.f, q2, q3, .int .u64 A1.1.h, .int .u64 A1.1.t, q6, q7, q8]
            have b17 := b1.row_far (g' := gm) #[.int .u64 A1.1.e, .int .u64 A1.1.f, q2, q3, .int .u64 A1.1.h, .int .u64 A1.1.t, q6, q7, q8] (by omega)
            have hm7 := hm6.off (w5 := W6.setRow gm #[.int .u64 A1.1.e, .int .u64 A1.1.f, q2, q3, .int .u64 A1.1.h, .int .u64 A1.1.t, q6, q7, q8]) hoff6 (fun p _ hp => World.cell?_of_block (setRow_other W6 gm p.block _ hp))
            have g7 := Below_row g6 (g := gm) #[.int .u64 A1.1.e, .int .u64 A1.1.f, q2, q3, .int .u64 A1.1.h, .int .u64 A1.1.t, q6, q7, q8] (by omega)
            have hs7 : (W6.setRow gm #[.int .u64 A1.1.e, .int .u64 A1.1.f, q2, q3, .int .u64 A1.1.h, .int .u64 A1.1.t, q6, q7, q8]).heap.size = W6.heap.size := setRow_size _ _ _
            generalize hW7 : W6.setRow gm #[.int .u64 A1.1.e, .int .u64 A1.1.f, q2, q3, .int .u64 A1.1.h, .int .u64 A1.1.t, q6, q7, q8] = W7 at bm7 b17 hm7 g7 hs7 ⊢
            clear hW7 bm b1 dk
            repeat (first
              | ((with_reducible refine lst_free ?_ ?_ (fun K hK => ?_)); (focus with_reducible rfl); (focus (intro ht; refine fine_none ?_ ht; (focus (first | (with_reducible apply only_idle); (focus decide) | (with_reducible apply only_turn); (focus rfl); (focus rfl); (focus kernel_rfl) | exact only_calc rfl rfl rfl | exact only_check rfl rfl)))); go_simp; refine hK _ _ _ ?_; clear hK K)
              | ((with_reducible refine lst_off (i := ?_) (b := ?_) (d := ?_) ?_ ?_ ?_ ?_); rotate_left 3; (focus with_reducible rfl); (focus rfl); (focus (simp only [List.getElem?_toArray, List.getElem?_cons_succ, List.getElem?_cons_zero, Bool.not_true, Bool.not_false])); simp only [Act.put, List.setIfInBounds_toArray, List.set_cons_zero, List.set_cons_succ])
              | ((with_reducible refine lst_on (i := ?_) (b := ?_) (d := ?_) ?_ ?_ ?_ ?_ (fun K hK => ?_)); rotate_left 3; (focus with_reducible rfl); (focus rfl); (focus (simp only [List.getElem?_toArray, List.getElem?_cons_succ, List.getElem?_cons_zero])); (focus (intro ht; refine fine_none ?_ ht; (focus (first | (with_reducible apply only_idle); (focus decide) | (with_reducible apply only_turn); (focus rfl); (focus rfl); (focus kernel_rfl) | exact only_calc rfl rfl rfl | exact only_check rfl rfl)))); go_simp; refine hK _ _ _ ?_; clear hK K)
              | ((with_reducible refine lst_undef (i := ?_) (b := ?_) (d := ?_) ?_ ?_ ?_ ?_); rotate_left 3; (focus with_reducible rfl); (focus rfl); (focus (simp only [List.getElem?_toArray, List.getElem?_cons_succ, List.getElem?_cons_zero])); simp only [Act.put, List.setIfInBounds_toArray, List.set_cons_zero, List.set_cons_succ])
              | (with_reducible apply lst_nil)
              | ((fail_if_success (with_reducible refine lst_any ?_)); first
              | (with_reducible apply j_seq) | (with_reducible apply j_block) | (with_reducible apply j_ret) | (with_reducible apply j_skip) | (with_reducible apply j_exit) | (with_reducible apply j_label) | (with_reducible apply j_region_lit)
              | ((with_reducible refine j_true ?_ ?_); (focus rfl)) | ((with_reducible refine j_false ?_ ?_); (focus rfl))
              | (with_reducible show Then _ _ _ _ _ _; simp only [Then])
              | (with_reducible show InBlock _ _ _ _ _ _; simp only [InBlock, ↓reduceIte, Nat.reduceEqDiff])))
            exact ⟨⟨rfl, i + 1, 0, ⟨g7, ⟨_, _, b17, rfl, rfl⟩, l1, ⟨A1.1, _, bm7, hs7 ▸ hm7, hoff6, hoffr4, sm4, .inl ⟨rfl, hrd.symm⟩⟩, by omega⟩, _, _, _, _, _, _, _, _, _, _, _, _, _, _, _, _, _, _, _, _, _, _, _, _, _, _, _, _, _, _, _, _, _, _, _, _, _, _, _, _, _, _, _, _, _, _, _, rfl⟩, by show l.length - ((i : Int) + 1).toNat < l.length - ((i : Int)).toNat; omega⟩
        · have r2 : (A1.2.2 != x.done) = true := by simpa using k2
          rw [if_neg (fun h => k2 h.2)] at hrd
          obtain ⟨bd, e1, e2⟩ : ∃ bd, A1.2.2 = bd ∧ x.done = !bd := ⟨_, rfl, by revert k2; cases A1.2.2 <;> cases x.done <;> simp⟩
          cases bd
          all_goals simp only [Bool.not_false, Bool.not_true] at e2
          clear k1 k2
          all_goals
            repeat (first
              | ((with_reducible refine lst_free ?_ ?_ (fun K hK => ?_)); (focus with_reducible rfl); (focus (intro ht; refine fine_none ?_ ht; (focus (first | (with_reducible apply only_idle); (focus decide) | (with_reducible apply only_turn); (focus rfl); (focus rfl); (focus kernel_rfl) | exact only_calc rfl rfl rfl | exact only_check rfl rfl)))); go_simp; refine hK _ _ _ ?_; clear hK K)
              | ((with_reducible refine lst_off (i := ?_) (b := ?_) (d := ?_) ?_ ?_ ?_ ?_); rotate_left 3; (focus with_reducible rfl); (focus rfl); (focus (simp only [List.getElem?_toArray, List.getElem?_cons_succ, List.getElem?_cons_zero, Bool.not_true, Bool.not_false])); simp only [Act.put, List.setIfInBounds_toArray, List.set_cons_zero, List.set_cons_succ])
              | ((with_reducible refine lst_on (i := ?_) (b := ?_) (d := ?_) ?_ ?_ ?_ ?_ (fun K hK => ?_)); rotate_left 3; (focus with_reducible rfl); (focus rfl); (focus (simp only [List.getElem?_toArray, List.getElem?_cons_succ, List.getElem?_cons_zero])); (focus (intro ht; refine fine_none ?_ ht; (focus (first | (with_reducible apply only_idle); (focus decide) | (with_reducible apply only_turn); (focus rfl); (focus rfl); (focus kernel_rfl) | exact only_calc rfl rfl rfl | exact only_check rfl rfl)))); go_simp; refine hK _ _ _ ?_; clear hK K)
              | ((with_reducible refine lst_undef (i := ?_) (b := ?_) (d := ?_) ?_ ?_ ?_ ?_); rotate_left 3; (focus with_reducible rfl); (focus rfl); (focus (simp only [List.getElem?_toArray, List.getElem?_cons_succ, List.getElem?_cons_zero])); simp only [Act.put, List.setIfInBounds_toArray, List.set_cons_zero, List.set_cons_succ])
              | (with_reducible apply lst_nil)
              | ((fail_if_success (with_reducible refine lst_any ?_)); first
              | (with_reducible apply j_seq) | (with_reducible apply j_block) | (with_reducible apply j_ret) | (with_reducible apply j_skip) | (with_reducible apply j_exit) | (with_reducible apply j_label) | (with_reducible apply j_region_lit)
              | ((with_reducible refine j_true ?_ ?_); (focus rfl)) | ((with_reducible refine j_false ?_ ?_); (focus rfl))
              | (with_reducible show Then _ _ _ _ _ _; simp only [Then])
              | (with_reducible show InBlock _ _ _ _ _ _; simp only [InBlock, ↓reduceIte, Nat.reduceEqDiff])))
            refine lst_one (one_store (v := .agg #[.int .u64 A1.1.e, .int .u64 A1.1.f, q2, q3, .int .u64 A1.1.h, .int .u64 A1.1.t, q6, q7, q8]) (cs' := #[.int .u64 A1.1.e, .int .u64 A1.1.f, q2, q3, .int .u64 A1.1.h, .int .u64 A1.1.t, q6, q7, q8]) rfl rfl rfl rfl bm (hoth _ (by omega)) (by kernel_rfl) (Nat.le_of_ble_eq_true rfl) (memC_one hm6) rfl ?_)
            simp only [Act.put, List.setIfInBounds_toArray, List.set_cons_zero, List.set_cons_succ]
            have bm7 := bm.row #[.int .u64 A1.1.e, .int .u64 A1.1.f, q2, q3, .int .u64 A1.1.h, .int .u64 A1.1.t, q6, q7, q8]
            have b17 := b1.row_far (g' := gm) #[.int .u64 A1.1.e, .int .u64 A1.1.f, q2, q3, .int .u64 A1.1.h, .int .u64 A1.1.t, q6, q7, q8] (by omega)
            have hm7 := hm6.off (w5 := W6.setRow gm #[.int .u64 A1.1.e, .int .u64 A1.1.f, q2, q3, .int .u64 A1.1.h, .int .u64 A1.1.t, q6, q7, q8]) hoff6 (fun p _ hp => World.cell?_of_block (setRow_other W6 gm p.block _ hp))
            have g7 := Below_row g6 (g := gm) #[.int .u64 A1.1.e, .int .u64 A1.1.f, q2, q3, .int .u64 A1.1.h, .int .u64 A1.1.t, q6, q7, q8] (by omega)
            have hs7 : (W6.setRow gm #[.int .u64 A1.1.e, .int .u64 A1.1.f, q2, q3, .int .u64 A1.1.h, .int .u64 A1.1.t, q6, q7, q8]).heap.size = W6.heap.size := setRow_size _ _ _
            generalize hW7 : W6.setRow gm #[.int .u64 A1.1.e, .int .u64 A1.1.f, q2, q3, .int .u64 A1.1.h, .int .u64 A1.1.t, q6, q7, q8] = W7 at bm7 b17 hm7 g7 hs7 ⊢
            clear hW7 bm b1 dk
            repeat (first
              | ((with_reducible refine lst_free ?_ ?_ (fun K hK => ?_)); (focus with_reducible rfl); (focus (intro ht; refine fine_none ?_ ht; (focus (first | (with_reducible apply only_idle); (focus decide) | (with_reducible apply only_turn); (focus rfl); (focus rfl); (focus kernel_rfl) | exact only_calc rfl rfl rfl | exact only_check rfl rfl)))); go_simp; refine hK _ _ _ ?_; clear hK K)
              | ((with_reducible refine lst_off (i := ?_) (b := ?_) (d := ?_) ?_ ?_ ?_ ?_); rotate_left 3; (focus with_reducible rfl); (focus rfl); (focus (simp only [List.getElem?_toArray, List.getElem?_cons_succ, List.getElem?_cons_zero, Bool.not_true, Bool.not_false])); simp only [Act.put, List.setIfInBounds_toArray, List.set_cons_zero, List.set_cons_succ])
              | ((with_reducible refine lst_on (i := ?_) (b := ?_) (d := ?_) ?_ ?_ ?_ ?_ (fun K hK => ?_)); rotate_left 3; (focus with_reducible rfl); (focus rfl); (focus (simp only [List.getElem?_toArray, List.getElem?_cons_succ, List.getElem?_cons_zero])); (focus (intro ht; refine fine_none ?_ ht; (focus (first | (with_reducible apply only_idle); (focus decide) | (with_reducible apply only_turn); (focus rfl); (focus rfl); (focus kernel_rfl) | exact only_calc rfl rfl rfl | exact only_check rfl rfl)))); go_simp; refine hK _ _ _ ?_; clear hK K)
              | ((with_reducible refine lst_undef (i := ?_) (b := ?_) (d := ?_) ?_ ?_ ?_ ?_); rotate_left 3; (focus with_reducible rfl); (focus rfl); (focus (simp only [List.getElem?_toArray, List.getElem?_cons_succ, List.getElem?_cons_zero])); simp only [Act.put, List.setIfInBounds_toArray, List.set_cons_zero, List.set_cons_succ])
              | (with_reducible apply lst_nil)
              | ((fail_if_success (with_reducible refine lst_any ?_)); first
              | (with_reducible apply j_seq) | (with_reducible apply j_block) | (with_reducible apply j_ret) | (with_reducible apply j_skip) | (with_reducible apply j_exit) | (with_reducible apply j_label) | (with_reducible apply j_region_lit)
              | ((with_reducible refine j_true ?_ ?_); (focus rfl)) | ((with_reducible refine j_false ?_ ?_); (focus rfl))
              | (with_reducible show Then _ _ _ _ _ _; simp only [Then])
              | (with_reducible show InBlock _ _ _ _ _ _; simp only [InBlock, ↓reduceIte, Nat.reduceEqDiff])))
            exact ⟨⟨rfl, i + 1, 1, ⟨g7, ⟨_, _, b17, rfl, rfl⟩, l1, ⟨A1.1, _, bm7, hs7 ▸ hm7, hoff6, hoffr4, sm4, .inr ⟨rfl, hrd⟩⟩, by omega⟩, _, _, _, _, _, _, _, _, _, _, _, _, _, _, _, _, _, _, _, _, _, _, _, _, _, _, _, _, _, _, _, _, _, _, _, _, _, _, _, _, _, _, _, _, _, _, _, rfl⟩, by show l.length - ((i : Int) + 1).toNat < l.length - ((i : Int)).toNat; omega⟩
      · have r1 : (A1.2.1 != x.was) = true := by simpa using k1
        rw [if_neg (fun h => k1 h.1)] at hrd
        clear k1
        repeat (first
          | ((with_reducible refine lst_free ?_ ?_ (fun K hK => ?_)); (focus with_reducible rfl); (focus (intro ht; refine fine_none ?_ ht; (focus (first | (with_reducible apply only_idle); (focus decide) | (with_reducible apply only_turn); (focus rfl); (focus rfl); (focus kernel_rfl) | exact only_calc rfl rfl rfl | exact only_check rfl rfl)))); go_simp; refine hK _ _ _ ?_; clear hK K)
          | ((with_reducible refine lst_off (i := ?_) (b := ?_) (d := ?_) ?_ ?_ ?_ ?_); rotate_left 3; (focus with_reducible rfl); (focus rfl); (focus (simp only [List.getElem?_toArray, List.getElem?_cons_succ, List.getElem?_cons_zero, Bool.not_true, Bool.not_false])); simp only [Act.put, List.setIfInBounds_toArray, List.set_cons_zero, List.set_cons_succ])
          | ((with_reducible refine lst_on (i := ?_) (b := ?_) (d := ?_) ?_ ?_ ?_ ?_ (fun K hK => ?_)); rotate_left 3; (focus with_reducible rfl); (focus rfl); (focus (simp only [List.getElem?_toArray, List.getElem?_cons_succ, List.getElem?_cons_zero])); (focus (intro ht; refine fine_none ?_ ht; (focus (first | (with_reducible apply only_idle); (focus decide) | (with_reducible apply only_turn); (focus rfl); (focus rfl); (focus kernel_rfl) | exact only_calc rfl rfl rfl | exact only_check rfl rfl)))); go_simp; refine hK _ _ _ ?_; clear hK K)
          | ((with_reducible refine lst_undef (i := ?_) (b := ?_) (d := ?_) ?_ ?_ ?_ ?_); rotate_left 3; (focus with_reducible rfl); (focus rfl); (focus (simp only [List.getElem?_toArray, List.getElem?_cons_succ, List.getElem?_cons_zero])); simp only [Act.put, List.setIfInBounds_toArray, List.set_cons_zero, List.set_cons_succ])
          | (with_reducible apply lst_nil)
          | ((fail_if_success (with_reducible refine lst_any ?_)); first
          | (with_reducible apply j_seq) | (with_reducible apply j_block) | (with_reducible apply j_ret) | (with_reducible apply j_skip) | (with_reducible apply j_exit) | (with_reducible apply j_label) | (with_reducible apply j_region_lit)
          | ((with_reducible refine j_true ?_ ?_); (focus rfl)) | ((with_reducible refine j_false ?_ ?_); (focus rfl))
          | (with_reducible show Then _ _ _ _ _ _; simp only [Then])
          | (with_reducible show InBlock _ _ _ _ _ _; simp only [InBlock, ↓reduceIte, Nat.reduceEqDiff])))
        refine lst_one (one_store (v := .agg #[.int .u64 A1.1.e, .int .u64 A1.1.f, q2, q3, .int .u64 A1.1.h, .int .u64 A1.1.t, q6, q7, q8]) (cs' := #[.int .u64 A1.1.e, .int .u64 A1.1.f, q2, q3, .int .u64 A1.1.h, .int .u64 A1.1.t, q6, q7, q8]) rfl rfl rfl rfl bm (hoth _ (by omega)) (by kernel_rfl) (Nat.le_of_ble_eq_true rfl) (memC_one hm6) rfl ?_)
        simp only [Act.put, List.setIfInBounds_toArray, List.set_cons_zero, List.set_cons_succ]
        have bm7 := bm.row #[.int .u64 A1.1.e, .int .u64 A1.1.f, q2, q3, .int .u64 A1.1.h, .int .u64 A1.1.t, q6, q7, q8]
        have b17 := b1.row_far (g' := gm) #[.int .u64 A1.1.e, .int .u64 A1.1.f, q2, q3, .int .u64 A1.1.h, .int .u64 A1.1.t, q6, q7, q8] (by omega)
        have hm7 := hm6.off (w5 := W6.setRow gm #[.int .u64 A1.1.e, .int .u64 A1.1.f, q2, q3, .int .u64 A1.1.h, .int .u64 A1.1.t, q6, q7, q8]) hoff6 (fun p _ hp => World.cell?_of_block (setRow_other W6 gm p.block _ hp))
        have g7 := Below_row g6 (g := gm) #[.int .u64 A1.1.e, .int .u64 A1.1.f, q2, q3, .int .u64 A1.1.h, .int .u64 A1.1.t, q6, q7, q8] (by omega)
        have hs7 : (W6.setRow gm #[.int .u64 A1.1.e, .int .u64 A1.1.f, q2, q3, .int .u64 A1.1.h, .int .u64 A1.1.t, q6, q7, q8]).heap.size = W6.heap.size := setRow_size _ _ _
        generalize hW7 : W6.setRow gm #[.int .u64 A1.1.e, .int .u64 A1.1.f, q2, q3, .int .u64 A1.1.h, .int .u64 A1.1.t, q6, q7, q8] = W7 at bm7 b17 hm7 g7 hs7 ⊢
        clear hW7 bm b1 dk
        repeat (first
          | ((with_reducible refine lst_free ?_ ?_ (fun K hK => ?_)); (focus with_reducible rfl); (focus (intro ht; refine fine_none ?_ ht; (focus (first | (with_reducible apply only_idle); (focus decide) | (with_reducible apply only_turn); (focus rfl); (focus rfl); (focus kernel_rfl) | exact only_calc rfl rfl rfl | exact only_check rfl rfl)))); go_simp; refine hK _ _ _ ?_; clear hK K)
          | ((with_reducible refine lst_off (i := ?_) (b := ?_) (d := ?_) ?_ ?_ ?_ ?_); rotate_left 3; (focus with_reducible rfl); (focus rfl); (focus (simp only [List.getElem?_toArray, List.getElem?_cons_succ, List.getElem?_cons_zero, Bool.not_true, Bool.not_false])); simp only [Act.put, List.setIfInBounds_toArray, List.set_cons_zero, List.set_cons_succ])
          | ((with_reducible refine lst_on (i := ?_) (b := ?_) (d := ?_) ?_ ?_ ?_ ?_ (fun K hK => ?_)); rotate_left 3; (focus with_reducible rfl); (focus rfl); (focus (simp only [List.getElem?_toArray, List.getElem?_cons_succ, List.getElem?_cons_zero])); (focus (intro ht; refine fine_none ?_ ht; (focus (first | (with_reducible apply only_idle); (focus decide) | (with_reducible apply only_turn); (focus rfl); (focus rfl); (focus kernel_rfl) | exact only_calc rfl rfl rfl | exact only_check rfl rfl)))); go_simp; refine hK _ _ _ ?_; clear hK K)
          | ((with_reducible refine lst_undef (i := ?_) (b := ?_) (d := ?_) ?_ ?_ ?_ ?_); rotate_left 3; (focus with_reducible rfl); (focus rfl); (focus (simp only [List.getElem?_toArray, List.getElem?_cons_succ, List.getElem?_cons_zero])); simp only [Act.put, List.setIfInBounds_toArray, List.set_cons_zero, List.set_cons_succ])
          | (with_reducible apply lst_nil)
          | ((fail_if_success (with_reducible refine lst_any ?_)); first
          | (with_reducible apply j_seq) | (with_reducible apply j_block) | (with_reducible apply j_ret) | (with_reducible apply j_skip) | (with_reducible apply j_exit) | (with_reducible apply j_label) | (with_reducible apply j_region_lit)
          | ((with_reducible refine j_true ?_ ?_); (focus rfl)) | ((with_reducible refine j_false ?_ ?_); (focus rfl))
          | (with_reducible show Then _ _ _ _ _ _; simp only [Then])
          | (with_reducible show InBlock _ _ _ _ _ _; simp only [InBlock, ↓reduceIte, Nat.reduceEqDiff])))
        exact ⟨⟨rfl, i + 1, 1, ⟨g7, ⟨_, _, b17, rfl, rfl⟩, l1, ⟨A1.1, _, bm7, hs7 ▸ hm7, hoff6, hoffr4, sm4, .inr ⟨rfl, hrd⟩⟩, by omega⟩, _, _, _, _, _, _, _, _, _, _, _, _, _, _, _, _, _, _, _, _, _, _, _, _, _, _, _, _, _, _, _, _, _, _, _, _, _, _, _, _, _, _, _, _, _, _, _, rfl⟩, by show l.length - ((i : Int) + 1).toNat < l.length - ((i : Int)).toNat; omega⟩
    · skip
      repeat (first
        | ((with_reducible refine lst_free ?_ ?_ (fun K hK => ?_)); (focus with_reducible rfl); (focus (intro ht; refine fine_none ?_ ht; (focus (first | (with_reducible apply only_idle); (focus decide) | (with_reducible apply only_turn); (focus rfl); (focus rfl); (focus kernel_rfl) | exact only_calc rfl rfl rfl | exact only_check rfl rfl)))); go_simp; refine hK _ _ _ ?_; clear hK K)
        | ((with_reducible refine lst_off (i := ?_) (b := ?_) (d := ?_) ?_ ?_ ?_ ?_); rotate_left 3; (focus with_reducible rfl); (focus rfl); (focus (simp only [List.getElem?_toArray, List.getElem?_cons_succ, List.getElem?_cons_zero, Bool.not_true, Bool.not_false])); simp only [Act.put, List.setIfInBounds_toArray, List.set_cons_zero, List.set_cons_succ])
        | ((with_reducible refine lst_on (i := ?_) (b := ?_) (d := ?_) ?_ ?_ ?_ ?_ (fun K hK => ?_)); rotate_left 3; (focus with_reducible rfl); (focus rfl); (focus (simp only [List.getElem?_toArray, List.getElem?_cons_succ, List.getElem?_cons_zero])); (focus (intro ht; refine fine_none ?_ ht; (focus (first | (with_reducible apply only_idle); (focus decide) | (with_reducible apply only_turn); (focus rfl); (focus rfl); (focus kernel_rfl) | exact only_calc rfl rfl rfl | exact only_check rfl rfl)))); go_simp; refine hK _ _ _ ?_; clear hK K)
        | ((with_reducible refine lst_undef (i := ?_) (b := ?_) (d := ?_) ?_ ?_ ?_ ?_); rotate_left 3; (focus with_reducible rfl); (focus rfl); (focus (simp only [List.getElem?_toArray, List.getElem?_cons_succ, List.getElem?_cons_zero])); simp only [Act.put, List.setIfInBounds_toArray, List.set_cons_zero, List.set_cons_succ])
        | (with_reducible apply lst_nil)
        | ((fail_if_success (with_reducible refine lst_any ?_)); first
        | (with_reducible apply j_seq) | (with_reducible apply j_block) | (with_reducible apply j_ret) | (with_reducible apply j_skip) | (with_reducible apply j_exit) | (with_reducible apply j_label) | (with_reducible apply j_region_lit)
        | ((with_reducible refine j_true ?_ ?_); (focus rfl)) | ((with_reducible refine j_false ?_ ?_); (focus rfl))
        | (with_reducible show Then _ _ _ _ _ _; simp only [Then])
        | (with_reducible show InBlock _ _ _ _ _ _; simp only [InBlock, ↓reduceIte, Nat.reduceEqDiff])))
      refine lst_one (one_store (v := .agg #[.int .u64 0, .int .u64 0, .slice none 0 0, .slice none 0 0, .int .u64 0, .int .u64 0, .slice none 0 0, .slice none 0 0, .slice none 0 0]) (cs' := #[.int .u64 0, .int .u64 0, .slice none 0 0, .slice none 0 0, .int .u64 0, .int .u64 0, .slice none 0 0, .slice none 0 0, .slice none 0 0]) rfl rfl rfl rfl b1 (hoth _ (by omega)) (by kernel_rfl) (Nat.le_of_ble_eq_true rfl) (by simp [Value.cells, Value.oneCell']) rfl ?_)
      rw [setRow_self _ _ _ _ _ b1]
      simp only [Act.put, List.setIfInBounds_toArray, List.set_cons_zero, List.set_cons_succ]
      have d1 := b1.cell
      repeat (first
        | ((with_reducible refine lst_free ?_ ?_ (fun K hK => ?_)); (focus with_reducible rfl); (focus (intro ht; refine fine_none ?_ ht; (focus (first | (with_reducible apply only_idle); (focus decide) | (with_reducible apply only_turn); (focus rfl); (focus rfl); (focus kernel_rfl) | exact only_calc rfl rfl rfl | exact only_check rfl rfl)))); go_simp; refine hK _ _ _ ?_; clear hK K)
        | ((with_reducible refine lst_off (i := ?_) (b := ?_) (d := ?_) ?_ ?_ ?_ ?_); rotate_left 3; (focus with_reducible rfl); (focus rfl); (focus (simp only [List.getElem?_toArray, List.getElem?_cons_succ, List.getElem?_cons_zero, Bool.not_true, Bool.not_false])); simp only [Act.put, List.setIfInBounds_toArray, List.set_cons_zero, List.set_cons_succ])
        | ((with_reducible refine lst_on (i := ?_) (b := ?_) (d := ?_) ?_ ?_ ?_ ?_ (fun K hK => ?_)); rotate_left 3; (focus with_reducible rfl); (focus rfl); (focus (simp only [List.getElem?_toArray, List.getElem?_cons_succ, List.getElem?_cons_zero])); (focus (intro ht; refine fine_none ?_ ht; (focus (first | (with_reducible apply only_idle); (focus decide) | (with_reducible apply only_turn); (focus rfl); (focus rfl); (focus kernel_rfl) | exact only_calc rfl rfl rfl | exact only_check rfl rfl)))); go_simp; refine hK _ _ _ ?_; clear hK K)
        | ((with_reducible refine lst_undef (i := ?_) (b := ?_) (d := ?_) ?_ ?_ ?_ ?_); rotate_left 3; (focus with_reducible rfl); (focus rfl); (focus (simp only [List.getElem?_toArray, List.getElem?_cons_succ, List.getElem?_cons_zero])); simp only [Act.put, List.setIfInBounds_toArray, List.set_cons_zero, List.set_cons_succ])
        | (with_reducible apply lst_nil)
        | ((fail_if_success (with_reducible refine lst_any ?_)); first
        | (with_reducible apply j_seq) | (with_reducible apply j_block) | (with_reducible apply j_ret) | (with_reducible apply j_skip) | (with_reducible apply j_exit) | (with_reducible apply j_label) | (with_reducible apply j_region_lit)
        | ((with_reducible refine j_true ?_ ?_); (focus rfl)) | ((with_reducible refine j_false ?_ ?_); (focus rfl))
        | (with_reducible show Then _ _ _ _ _ _; simp only [Then])
        | (with_reducible show InBlock _ _ _ _ _ _; simp only [InBlock, ↓reduceIte, Nat.reduceEqDiff])))
      exact body_run (.tuple #[.agg #[.int .u64 0, .int .u64 0, .slice none 0 0, .slice none 0 0, .int .u64 0, .int .u64 0, .slice none 0 0, .slice none 0 0, .slice none 0 0], .int .i64 1]) rfl (by simp [results, go_sem, d1]) ⟨rfl, g3, _, memC_zero _ _, rfl⟩
  · have c1 : decide ((i : Int) < (l.length : Int)) = false := decide_eq_false (by omega)
    have c2 : decide (i < l.length) = false := decide_eq_false c
    have hie : l.drop i = [] := List.drop_eq_nil_of_le (by omega)
    rw [hie] at hR
    rcases hR with ⟨rfl, hR⟩ | ⟨rfl, rfl⟩
    · have hR' : R = some m := hR.symm
      subst hR'
      have dm := bm.cell
      have lm := bm.lt
      repeat (first
        | ((with_reducible refine lst_free ?_ ?_ (fun K hK => ?_)); (focus with_reducible rfl); (focus (intro ht; refine fine_none ?_ ht; (focus (first | (with_reducible apply only_idle); (focus decide) | (with_reducible apply only_turn); (focus rfl); (focus rfl); (focus kernel_rfl) | exact only_calc rfl rfl rfl | exact only_check rfl rfl)))); go_simp; refine hK _ _ _ ?_; clear hK K)
        | ((with_reducible refine lst_off (i := ?_) (b := ?_) (d := ?_) ?_ ?_ ?_ ?_); rotate_left 3; (focus with_reducible rfl); (focus rfl); (focus (simp only [List.getElem?_toArray, List.getElem?_cons_succ, List.getElem?_cons_zero, Bool.not_true, Bool.not_false])); simp only [Act.put, List.setIfInBounds_toArray, List.set_cons_zero, List.set_cons_succ])
        | ((with_reducible refine lst_on (i := ?_) (b := ?_) (d := ?_) ?_ ?_ ?_ ?_ (fun K hK => ?_)); rotate_left 3; (focus with_reducible rfl); (focus rfl); (focus (simp only [List.getElem?_toArray, List.getElem?_cons_succ, List.getElem?_cons_zero])); (focus (intro ht; refine fine_none ?_ ht; (focus (first | (with_reducible apply only_idle); (focus decide) | (with_reducible apply only_turn); (focus rfl); (focus rfl); (focus kernel_rfl) | exact only_calc rfl rfl rfl | exact only_check rfl rfl)))); go_simp; refine hK _ _ _ ?_; clear hK K)
        | ((with_reducible refine lst_undef (i := ?_) (b := ?_) (d := ?_) ?_ ?_ ?_ ?_); rotate_left 3; (focus with_reducible rfl); (focus rfl); (focus (simp only [List.getElem?_toArray, List.getElem?_cons_succ, List.getElem?_cons_zero])); simp only [Act.put, List.setIfInBounds_toArray, List.set_cons_zero, List.set_cons_succ])
        | (with_reducible apply lst_nil)
        | ((fail_if_success (with_reducible refine lst_any ?_)); first
        | (with_reducible apply j_seq) | (with_reducible apply j_block) | (with_reducible apply j_ret) | (with_reducible apply j_skip) | (with_reducible apply j_exit) | (with_reducible apply j_label) | (with_reducible apply j_region_lit)
        | ((with_reducible refine j_true ?_ ?_); (focus rfl)) | ((with_reducible refine j_false ?_ ?_); (focus rfl))
        | (with_reducible show Then _ _ _ _ _ _; simp only [Then])
        | (with_reducible show InBlock _ _ _ _ _ _; simp only [InBlock, ↓reduceIte, Nat.reduceEqDiff])))
      refine lst_one (one_store (v := .agg #[.int .u64 m.e, .int .u64 m.f, p2, p3, .int .u64 m.h, .int .u64 m.t, p6, p7, p8]) (cs' := #[.int .u64 m.e, .int .u64 m.f, p2, p3, .int .u64 m.h, .int .u64 m.t, p6, p7, p8]) rfl rfl rfl rfl b1 (hoth _ (by omega)) (by kernel_rfl) (Nat.le_of_ble_eq_true rfl) (memC_one hm0) rfl ?_)
      simp only [Act.put, List.setIfInBounds_toArray, List.set_cons_zero, List.set_cons_succ]
      have hm7 := hm0.off (w5 := W.setRow (w.heap.size + 1) #[.int .u64 m.e, .int .u64 m.f, p2, p3, .int .u64 m.h, .int .u64 m.t, p6, p7, p8]) hoffr (fun p _ hp => World.cell?_of_block (setRow_other W (w.heap.size + 1) p.block _ hp))
      have f1 := b1.row #[.int .u64 m.e, .int .u64 m.f, p2, p3, .int .u64 m.h, .int .u64 m.t, p6, p7, p8]
      have g7 := Below_row hW (g := w.heap.size + 1) #[.int .u64 m.e, .int .u64 m.f, p2, p3, .int .u64 m.h, .int .u64 m.t, p6, p7, p8] (by omega)
      have hs7 : (W.setRow (w.heap.size + 1) #[.int .u64 m.e, .int .u64 m.f, p2, p3, .int .u64 m.h, .int .u64 m.t, p6, p7, p8]).heap.size = W.heap.size := setRow_size _ _ _
      generalize hW7 : W.setRow (w.heap.size + 1) #[.int .u64 m.e, .int .u64 m.f, p2, p3, .int .u64 m.h, .int .u64 m.t, p6, p7, p8] = W7 at f1 hm7 g7 hs7 ⊢
      clear hW7 b1 bm dm
      have d1 := f1.cell
      repeat (first
        | ((with_reducible refine lst_free ?_ ?_ (fun K hK => ?_)); (focus with_reducible rfl); (focus (intro ht; refine fine_none ?_ ht; (focus (first | (with_reducible apply only_idle); (focus decide) | (with_reducible apply only_turn); (focus rfl); (focus rfl); (focus kernel_rfl) | exact only_calc rfl rfl rfl | exact only_check rfl rfl)))); go_simp; refine hK _ _ _ ?_; clear hK K)
        | ((with_reducible refine lst_off (i := ?_) (b := ?_) (d := ?_) ?_ ?_ ?_ ?_); rotate_left 3; (focus with_reducible rfl); (focus rfl); (focus (simp only [List.getElem?_toArray, List.getElem?_cons_succ, List.getElem?_cons_zero, Bool.not_true, Bool.not_false])); simp only [Act.put, List.setIfInBounds_toArray, List.set_cons_zero, List.set_cons_succ])
        | ((with_reducible refine lst_on (i := ?_) (b := ?_) (d := ?_) ?_ ?_ ?_ ?_ (fun K hK => ?_)); rotate_left 3; (focus with_reducible rfl); (focus rfl); (focus (simp only [List.getElem?_toArray, List.getElem?_cons_succ, List.getElem?_cons_zero])); (focus (intro ht; refine fine_none ?_ ht; (focus (first | (with_reducible apply only_idle); (focus decide) | (with_reducible apply only_turn); (focus rfl); (focus rfl); (focus kernel_rfl) | exact only_calc rfl rfl rfl | exact only_check rfl rfl)))); go_simp; refine hK _ _ _ ?_; clear hK K)
        | ((with_reducible refine lst_undef (i := ?_) (b := ?_) (d := ?_) ?_ ?_ ?_ ?_); rotate_left 3; (focus with_reducible rfl); (focus rfl); (focus (simp only [List.getElem?_toArray, List.getElem?_cons_succ, List.getElem?_cons_zero])); simp only [Act.put, List.setIfInBounds_toArray, List.set_cons_zero, List.set_cons_succ])
        | (with_reducible apply lst_nil)
        | ((fail_if_success (with_reducible refine lst_any ?_)); first
        | (with_reducible apply j_seq) | (with_reducible apply j_block) | (with_reducible apply j_ret) | (with_reducible apply j_skip) | (with_reducible apply j_exit) | (with_reducible apply j_label) | (with_reducible apply j_region_lit)
        | ((with_reducible refine j_true ?_ ?_); (focus rfl)) | ((with_reducible refine j_false ?_ ?_); (focus rfl))
        | (with_reducible show Then _ _ _ _ _ _; simp only [Then])
        | (with_reducible show InBlock _ _ _ _ _ _; simp only [InBlock, ↓reduceIte, Nat.reduceEqDiff])))
      exact body_run (.tuple #[.agg #[.int .u64 m.e, .int .u64 m.f, p2, p3, .int .u64 m.h, .int .u64 m.t, p6, p7, p8], .int .i64 0]) rfl (by simp [results, go_sem, d1]) ⟨rfl, g7, _, hs7 ▸ hm7, rfl⟩
    · skip
      repeat (first
        | ((with_reducible refine lst_free ?_ ?_ (fun K hK => ?_)); (focus with_reducible rfl); (focus (intro ht; refine fine_none ?_ ht; (focus (first | (with_reducible apply only_idle); (focus decide) | (with_reducible apply only_turn); (focus rfl); (focus rfl); (focus kernel_rfl) | exact only_calc rfl rfl rfl | exact only_check rfl rfl)))); go_simp; refine hK _ _ _ ?_; clear hK K)
        | ((with_reducible refine lst_off (i := ?_) (b := ?_) (d := ?_) ?_ ?_ ?_ ?_); rotate_left 3; (focus with_reducible rfl); (focus rfl); (focus (simp only [List.getElem?_toArray, List.getElem?_cons_succ, List.getElem?_cons_zero, Bool.not_true, Bool.not_false])); simp only [Act.put, List.setIfInBounds_toArray, List.set_cons_zero, List.set_cons_succ])
        | ((with_reducible refine lst_on (i := ?_) (b := ?_) (d := ?_) ?_ ?_ ?_ ?_ (fun K hK => ?_)); rotate_left 3; (focus with_reducible rfl); (focus rfl); (focus (simp only [List.getElem?_toArray, List.getElem?_cons_succ, List.getElem?_cons_zero])); (focus (intro ht; refine fine_none ?_ ht; (focus (first | (with_reducible apply only_idle); (focus decide) | (with_reducible apply only_turn); (focus rfl); (focus rfl); (focus kernel_rfl) | exact only_calc rfl rfl rfl | exact only_check rfl rfl)))); go_simp; refine hK _ _ _ ?_; clear hK K)
        | ((with_reducible refine lst_undef (i := ?_) (b := ?_) (d := ?_) ?_ ?_ ?_ ?_); rotate_left 3; (focus with_reducible rfl); (focus rfl); (focus (simp only [List.getElem?_toArray, List.getElem?_cons_succ, List.getElem?_cons_zero])); simp only [Act.put, List.setIfInBounds_toArray, List.set_cons_zero, List.set_cons_succ])
        | (with_reducible apply lst_nil)
        | ((fail_if_success (with_reducible refine lst_any ?_)); first
        | (with_reducible apply j_seq) | (with_reducible apply j_block) | (with_reducible apply j_ret) | (with_reducible apply j_skip) | (with_reducible apply j_exit) | (with_reducible apply j_label) | (with_reducible apply j_region_lit)
        | ((with_reducible refine j_true ?_ ?_); (focus rfl)) | ((with_reducible refine j_false ?_ ?_); (focus rfl))
        | (with_reducible show Then _ _ _ _ _ _; simp only [Then])
        | (with_reducible show InBlock _ _ _ _ _ _; simp only [InBlock, ↓reduceIte, Nat.reduceEqDiff])))
      refine lst_one (one_store (v := .agg #[.int .u64 0, .int .u64 0, .slice none 0 0, .slice none 0 0, .int .u64 0, .int .u64 0, .slice none 0 0, .slice none 0 0, .slice none 0 0]) (cs' := #[.int .u64 0, .int .u64 0, .slice none 0 0, .slice none 0 0, .int .u64 0, .int .u64 0, .slice none 0 0, .slice none 0 0, .slice none 0 0]) rfl rfl rfl rfl b1 (hoth _ (by omega)) (by kernel_rfl) (Nat.le_of_ble_eq_true rfl) (by simp [Value.cells, Value.oneCell']) rfl ?_)
      rw [setRow_self _ _ _ _ _ b1]
      simp only [Act.put, List.setIfInBounds_toArray, List.set_cons_zero, List.set_cons_succ]
      have d1 := b1.cell
      repeat (first
        | ((with_reducible refine lst_free ?_ ?_ (fun K hK => ?_)); (focus with_reducible rfl); (focus (intro ht; refine fine_none ?_ ht; (focus (first | (with_reducible apply only_idle); (focus decide) | (with_reducible apply only_turn); (focus rfl); (focus rfl); (focus kernel_rfl) | exact only_calc rfl rfl rfl | exact only_check rfl rfl)))); go_simp; refine hK _ _ _ ?_; clear hK K)
        | ((with_reducible refine lst_off (i := ?_) (b := ?_) (d := ?_) ?_ ?_ ?_ ?_); rotate_left 3; (focus with_reducible rfl); (focus rfl); (focus (simp only [List.getElem?_toArray, List.getElem?_cons_succ, List.getElem?_cons_zero, Bool.not_true, Bool.not_false])); simp only [Act.put, List.setIfInBounds_toArray, List.set_cons_zero, List.set_cons_succ])
        | ((with_reducible refine lst_on (i := ?_) (b := ?_) (d := ?_) ?_ ?_ ?_ ?_ (fun K hK => ?_)); rotate_left 3; (focus with_reducible rfl); (focus rfl); (focus (simp only [List.getElem?_toArray, List.getElem?_cons_succ, List.getElem?_cons_zero])); (focus (intro ht; refine fine_none ?_ ht; (focus (first | (with_reducible apply only_idle); (focus decide) | (with_reducible apply only_turn); (focus rfl); (focus rfl); (focus kernel_rfl) | exact only_calc rfl rfl rfl | exact only_check rfl rfl)))); go_simp; refine hK _ _ _ ?_; clear hK K)
        | ((with_reducible refine lst_undef (i := ?_) (b := ?_) (d := ?_) ?_ ?_ ?_ ?_); rotate_left 3; (focus with_reducible rfl); (focus rfl); (focus (simp only [List.getElem?_toArray, List.getElem?_cons_succ, List.getElem?_cons_zero])); simp only [Act.put, List.setIfInBounds_toArray, List.set_cons_zero, List.set_cons_succ])
        | (with_reducible apply lst_nil)
        | ((fail_if_success (with_reducible refine lst_any ?_)); first
        | (with_reducible apply j_seq) | (with_reducible apply j_block) | (with_reducible apply j_ret) | (with_reducible apply j_skip) | (with_reducible apply j_exit) | (with_reducible apply j_label) | (with_reducible apply j_region_lit)
        | ((with_reducible refine j_true ?_ ?_); (focus rfl)) | ((with_reducible refine j_false ?_ ?_); (focus rfl))
        | (with_reducible show Then _ _ _ _ _ _; simp only [Then])
        | (with_reducible show InBlock _ _ _ _ _ _; simp only [InBlock, ↓reduceIte, Nat.reduceEqDiff])))
      exact body_run (.tuple #[.agg #[.int .u64 0, .int .u64 0, .slice none 0 0, .slice none 0 0, .int .u64 0, .int .u64 0, .slice none 0 0, .slice none 0 0, .slice none 0 0], .int .i64 1]) rfl (by simp [results, go_sem, d1]) ⟨rfl, hW, _, memC_zero _ _, rfl⟩
end
end Go.Proofs.Ytonhfgjofgbcdaa.Rp
