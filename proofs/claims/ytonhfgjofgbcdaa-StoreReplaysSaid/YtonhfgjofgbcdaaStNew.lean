/- Package store: the words at first, walked. -/
import Derived.Test.YtonhfgjofgbcdaaStDo
import Derived.Test.YtonhfgjofgbcdaaGrow
import Derived.Test.YtonhfgjofgbcdaaWord
namespace Go.Proofs.Ytonhfgjofgbcdaa.St
set_option linter.unusedSimpArgs false
set_option linter.unusedVariables false
set_option maxRecDepth 20000
open Go Go.Conc Go.RowKit Go.Proofs.Ytonhfgjofgbcdaa.Jay Go.Proofs.Ytonhfgjofgbcdaa.Pl
open Go.Proofs.Ytonhfgjofgbcdaa.Wd
section
variable {γ : Type} {X : Turns γ} {s : γ} {w : World}
attribute [local go_sem] upon_value upon_skip

/-- The links at first: from 'first' to h each to the next. -/
def lk (first h M : Nat) : List Int := (List.range M).map fun i => if first ≤ i ∧ i < h then pk 0 (seg ((i : Int) + 1)) else 0
def zs (n : Nat) : List Int := List.replicate n 0
/-- The words at first. -/
def newMem (k : Int) (K T M : Nat) : Mem :=
  if k = 2 then ⟨0, 0, zs 3, zs T, 0, 0, zs M, zs M, zs (M * K)⟩
  else if k = 1 then ⟨0, pk 0 (seg 1), zs 3, zs T, pk 0 (seg 0), pk 0 (seg 0), lk 1 (M - 1) M, zs M, zs (M * K)⟩
  else ⟨0, pk 0 (seg 0), zs 3, zs T, 0, 0, lk 0 (M - 1) M, zs M, zs (M * K)⟩

theorem new_bad {k K T M : Int} (h : mayB k K T M = false) : Jdo Try.prog X 13 #[cfg k K T M] s w fun s' r w' => s' = s ∧ Below w.heap.size w w' ∧ r = .back (.tuple #[.agg #[.int .u64 0, .int .u64 0, .slice none 0 0, .slice none 0 0, .int .u64 0, .int .u64 0, .slice none 0 0, .slice none 0 0, .slice none 0 0], .int .i64 1]) := by
  refine Jdo.there fun ht => ?_
  have hoth : ∀ b, w.heap.size ≤ b → ¬ X.oth s b := fun b hb ho => by have := ht b ho; omega
  unfold cfg
  refine jdo_of Try.func13 rfl ?_
  simp only [Try.ntmps13, List.size_toArray, List.length_cons, List.length_nil, Nat.reduceAdd, Nat.reduceSub, Array.replicate_succ, Array.replicate_zero, List.push_toArray, List.append_toArray, List.nil_append, List.cons_append]
  repeat (first
    | (with_reducible apply lst_nil)
    | ((with_reducible refine lst_unwanted ?_ ?_); (focus rfl); simp only [Act.put, List.setIfInBounds_toArray, List.set_cons_zero, List.set_cons_succ])
    | ((with_reducible refine lst_cons ?_ ?_ (fun K hK => ?_)); (focus rfl); (focus (intro ht; refine fine_none ?_ ht; (focus (first | (with_reducible apply only_idle); (focus decide) | (with_reducible apply only_turn); (focus rfl); (focus rfl); (focus kernel_rfl) | exact only_calc rfl rfl rfl | exact only_check rfl rfl)))); go_simp; refine hK _ _ _ ?_; clear hK K)
    | (with_reducible apply j_seq) | (with_reducible apply j_block) | (with_reducible apply j_ret) | (with_reducible apply j_skip) | (with_reducible apply j_exit) | (with_reducible apply j_label) | (with_reducible apply j_region_lit)
    | ((with_reducible refine j_true ?_ ?_); (focus rfl)) | ((with_reducible refine j_false ?_ ?_); (focus rfl))
    | (with_reducible show Then _ _ _ _ _ _; simp only [Then])
    | (with_reducible show InBlock _ _ _ _ _ _; simp only [InBlock, ↓reduceIte, Nat.reduceEqDiff]))
  refine lst_call _ rfl ?_ ?_ Try.func15 ?_ rfl (may k K T M) ?_
  focus rfl
  focus first | rfl | (go_simp; done) | (go_simp; rfl)
  focus rfl
  rw [h]
  rintro s' r w' ⟨rfl, hb, rfl⟩
  simp only [Act.put, List.setIfInBounds_toArray, List.set_cons_zero, List.set_cons_succ]
  have b1 := (Blk.new1 w (.cells #[.int .i64 k, .int .i64 K, .int .i64 T, .int .i64 M] 36) 25 #[.int .u64 0, .int .u64 0, .slice none 0 0, .slice none 0 0, .int .u64 0, .int .u64 0, .slice none 0 0, .slice none 0 0, .slice none 0 0]).below hb (by simp)
  have hb0 := ((((Below.refl w.heap.size w).alloc (Nat.le_refl _) (.cells #[.int .i64 k, .int .i64 K, .int .i64 T, .int .i64 M] 36)).alloc (by simp) (.cells #[.int .u64 0, .int .u64 0, .slice none 0 0, .slice none 0 0, .int .u64 0, .int .u64 0, .slice none 0 0, .slice none 0 0, .slice none 0 0] 25))).trans (hb.mono (by simp; omega))
  repeat (first
    | (with_reducible apply lst_nil)
    | ((with_reducible refine lst_unwanted ?_ ?_); (focus rfl); simp only [Act.put, List.setIfInBounds_toArray, List.set_cons_zero, List.set_cons_succ])
    | ((with_reducible refine lst_cons ?_ ?_ (fun K hK => ?_)); (focus rfl); (focus (intro ht; refine fine_none ?_ ht; (focus (first | (with_reducible apply only_idle); (focus decide) | (with_reducible apply only_turn); (focus rfl); (focus rfl); (focus kernel_rfl) | exact only_calc rfl rfl rfl | exact only_check rfl rfl)))); go_simp; refine hK _ _ _ ?_; clear hK K)
    | (with_reducible apply j_seq) | (with_reducible apply j_block) | (with_reducible apply j_ret) | (with_reducible apply j_skip) | (with_reducible apply j_exit) | (with_reducible apply j_label) | (with_reducible apply j_region_lit)
    | ((with_reducible refine j_true ?_ ?_); (focus rfl)) | ((with_reducible refine j_false ?_ ?_); (focus rfl))
    | (with_reducible show Then _ _ _ _ _ _; simp only [Then])
    | (with_reducible show InBlock _ _ _ _ _ _; simp only [InBlock, ↓reduceIte, Nat.reduceEqDiff]))
  refine lst_one (one_store (v := .agg #[.int .u64 0, .int .u64 0, .slice none 0 0, .slice none 0 0, .int .u64 0, .int .u64 0, .slice none 0 0, .slice none 0 0, .slice none 0 0]) (cs' := #[.int .u64 0, .int .u64 0, .slice none 0 0, .slice none 0 0, .int .u64 0, .int .u64 0, .slice none 0 0, .slice none 0 0, .slice none 0 0]) rfl rfl rfl rfl b1 (hoth _ (by omega)) (by kernel_rfl) (Nat.le_of_ble_eq_true rfl) (by simp [Value.cells, Value.oneCell']) rfl ?_)
  rw [setRow_self _ _ _ _ _ b1]
  simp only [Act.put, List.setIfInBounds_toArray, List.set_cons_zero, List.set_cons_succ]
  have d1 := b1.cell
  repeat (first
    | (with_reducible apply lst_nil)
    | ((with_reducible refine lst_unwanted ?_ ?_); (focus rfl); simp only [Act.put, List.setIfInBounds_toArray, List.set_cons_zero, List.set_cons_succ])
    | ((with_reducible refine lst_cons ?_ ?_ (fun K hK => ?_)); (focus rfl); (focus (intro ht; refine fine_none ?_ ht; (focus (first | (with_reducible apply only_idle); (focus decide) | (with_reducible apply only_turn); (focus rfl); (focus rfl); (focus kernel_rfl) | exact only_calc rfl rfl rfl | exact only_check rfl rfl)))); go_simp; refine hK _ _ _ ?_; clear hK K)
    | (with_reducible apply j_seq) | (with_reducible apply j_block) | (with_reducible apply j_ret) | (with_reducible apply j_skip) | (with_reducible apply j_exit) | (with_reducible apply j_label) | (with_reducible apply j_region_lit)
    | ((with_reducible refine j_true ?_ ?_); (focus rfl)) | ((with_reducible refine j_false ?_ ?_); (focus rfl))
    | (with_reducible show Then _ _ _ _ _ _; simp only [Then])
    | (with_reducible show InBlock _ _ _ _ _ _; simp only [InBlock, ↓reduceIte, Nat.reduceEqDiff]))
  exact body_run (.tuple #[.agg #[.int .u64 0, .int .u64 0, .slice none 0 0, .slice none 0 0, .int .u64 0, .int .u64 0, .slice none 0 0, .slice none 0 0, .slice none 0 0], .int .i64 1]) rfl (by simp [results, go_sem, d1]) ⟨rfl, hb0, rfl⟩

theorem lk_start (f M : Nat) : lk f f M = zs M := by
  unfold lk zs
  apply List.ext_getElem
  · simp
  · intro i h1 h2
    simp
    intro h3 h4
    omega
theorem lk_step {f h M : Nat} (hf : f ≤ h) (hM : h < M) : (lk f h M).set h (pk 0 (seg ((h : Int) + 1))) = lk f (h + 1) M := by
  unfold lk
  apply List.ext_getElem
  · simp
  · intro i h1 h2
    rw [List.getElem_set]
    simp only [List.getElem_map, List.getElem_range]
    by_cases c : h = i
    · subst c
      rw [if_pos rfl, if_pos ⟨hf, by omega⟩]
    · rw [if_neg c]
      have : (f ≤ i ∧ i < h) ↔ (f ≤ i ∧ i < h + 1) := by omega
      simp only [this]
theorem lk_len (f h M : Nat) : (lk f h M).length = M := by simp [lk]

/-- What is known behind the makes. -/
structure Made (B : Nat) (w' W : World) (K T M : Nat) (g0 g3 g6 g9 g15 g17 : Nat) (links : List Int) : Prop where
  below : Below B w' W
  b0 : Blk W g0 22 (U (zs 3)).toArray
  b3 : Blk W g3 22 (U (zs T)).toArray
  b6 : Blk W g6 22 (U links).toArray
  b9 : Blk W g9 22 (U (zs M)).toArray
  b15 : Blk W g15 22 (U (zs (M * K))).toArray
  n6 : g6 ≠ g0 ∧ g6 ≠ g3 ∧ g6 ≠ g9 ∧ g6 ≠ g15 ∧ g6 ≠ g17 ∧ g0 ≠ g17 ∧ g3 ≠ g17 ∧ g9 ≠ g17 ∧ g15 ≠ g17
  ge : B ≤ g0 ∧ B ≤ g3 ∧ B ≤ g6 ∧ B ≤ g9 ∧ B ≤ g15 ∧ B ≤ g17
  len : links.length = M

section
variable {B : Nat} {w' W W' : World} {K T M g0 g3 g6 g9 g15 g17 : Nat} {links : List Int}
theorem Made.map (h : Made B w' W K T M g0 g3 g6 g9 g15 g17 links) (hb : Below B w' W') (f : ∀ g t cs, g ≠ g17 → B ≤ g → Blk W g t cs → Blk W' g t cs) : Made B w' W' K T M g0 g3 g6 g9 g15 g17 links :=
  ⟨hb, f _ _ _ h.n6.2.2.2.2.2.1 h.ge.1 h.b0, f _ _ _ h.n6.2.2.2.2.2.2.1 h.ge.2.1 h.b3, f _ _ _ h.n6.2.2.2.2.1 h.ge.2.2.1 h.b6, f _ _ _ h.n6.2.2.2.2.2.2.2.1 h.ge.2.2.2.1 h.b9, f _ _ _ h.n6.2.2.2.2.2.2.2.2 h.ge.2.2.2.2.1 h.b15, h.n6, h.ge, h.len⟩
theorem Made.row17 (h : Made B w' W K T M g0 g3 g6 g9 g15 g17 links) (cs : Array Value) : Made B w' (W.setRow g17 cs) K T M g0 g3 g6 g9 g15 g17 links :=
  h.map (Below_row h.below _ h.ge.2.2.2.2.2) fun _ _ _ hne _ hb => hb.row_far _ hne
theorem Made.drew (h : Made B w' W K T M g0 g3 g6 g9 g15 g17 links) : Made B w' W.drew K T M g0 g3 g6 g9 g15 g17 links := h.map h.below.drew fun _ _ _ _ _ hb => hb
theorem Made.alloc (h : Made B w' W K T M g0 g3 g6 g9 g15 g17 links) (o : Obj) (hB : B ≤ W.heap.size) : Made B w' (W.alloc o) K T M g0 g3 g6 g9 g15 g17 links := h.map (h.below.alloc hB o) fun _ _ _ _ _ hb => hb.alloc o
/-- A link is set. -/
theorem Made.link (h : Made B w' W K T M g0 g3 g6 g9 g15 g17 links) (i : Nat) (x : Int) : Made B w' (W.setCell ⟨g6, i, none⟩ (.int .u64 x)) K T M g0 g3 g6 g9 g15 g17 (links.set i x) := by
  refine ⟨h.below.setCell (p := ⟨g6, i, none⟩) h.ge.2.2.1 _, h.b0.far (p := ⟨g6, i, none⟩) (Ne.symm h.n6.1) _, h.b3.far (p := ⟨g6, i, none⟩) (Ne.symm h.n6.2.1) _, ?_, h.b9.far (p := ⟨g6, i, none⟩) (Ne.symm h.n6.2.2.1) _, h.b15.far (p := ⟨g6, i, none⟩) (Ne.symm h.n6.2.2.2.1) _, h.n6, h.ge, by rw [List.length_set]; exact h.len⟩
  have := h.b6.set_ i (.int .u64 x)
  rw [List.setIfInBounds_toArray] at this
  rwa [show (U links).set i (.int .u64 x) = U (links.set i x) from (List.map_set ..).symm] at this
/-- A block of the caller's is set: what was made stands. -/
theorem Made.last {B₀ b : Nat} {w₀ : World} (h : Made B w' W K T M g0 g3 g6 g9 g15 g17 links) (hb : Below B₀ w₀ W) (h0 : B₀ ≤ b) (hlt : b < B) (cs : Array Value) : Made B₀ w₀ (W.setRow b cs) K T M g0 g3 g6 g9 g15 g17 links := by
  have hg := h.ge
  exact ⟨Below_row hb _ h0, h.b0.row_far _ (by omega), h.b3.row_far _ (by omega), h.b6.row_far _ (by omega), h.b9.row_far _ (by omega), h.b15.row_far _ (by omega), h.n6, by omega, h.len⟩
theorem us_made {g n : Nat} {xs : List Int} {t : TypeId} (hb : Blk W g t (U xs).toArray) (hl : xs.length = n) (hn : n ≤ maxLen) (hB : g < B) : Us W B (.slice (some ⟨g, 0, none⟩) n n) xs := by
  subst hl
  exact us_of_row hb (Nat.le_refl _) hn (by rw [List.size_toArray, U_len]) (by rw [List.take_of_length_le]; rw [U_len]; exact Nat.le_refl _) hB
theorem Made.memC (h : Made B w' W K T M g0 g3 g6 g9 g15 g17 links) (hT : T ≤ 8) (hM : M ≤ 64) (hMK : M * K ≤ 4096) (e f hd tl : Int) :
    MemC W W.heap.size ⟨e, f, zs 3, zs T, hd, tl, links, zs M, zs (M * K)⟩ #[.int .u64 e, .int .u64 f, .slice (some ⟨g0, 0, none⟩) 3 3, .slice (some ⟨g3, 0, none⟩) T T, .int .u64 hd, .int .u64 tl, .slice (some ⟨g6, 0, none⟩) M M, .slice (some ⟨g9, 0, none⟩) M M, .slice (some ⟨g15, 0, none⟩) (M * K) (M * K)] := by
  have hm : maxLen = 9223372036854775807 := rfl
  exact ⟨_, _, _, _, _, rfl, us_made h.b0 (by simp [zs]) (by omega) h.b0.lt, us_made h.b3 (by simp [zs]) (by omega) h.b3.lt, us_made h.b6 h.len (by omega) h.b6.lt, us_made h.b9 (by simp [zs]) (by omega) h.b9.lt, us_made h.b15 (by simp [zs]) (by omega) h.b15.lt⟩
theorem Made.off (h : Made B w' W K T M g0 g3 g6 g9 g15 g17 links) {g n n' n'' n3 c c' c'' c3 : Nat} (hg : g < B) (e f hd tl : Int) {n4 c4 : Nat} :
    Off g #[.int .u64 e, .int .u64 f, .slice (some ⟨g0, 0, none⟩) n c, .slice (some ⟨g3, 0, none⟩) n' c', .int .u64 hd, .int .u64 tl, .slice (some ⟨g6, 0, none⟩) n'' c'', .slice (some ⟨g9, 0, none⟩) n3 c3, .slice (some ⟨g15, 0, none⟩) n4 c4] := by
  have hge := h.ge
  intro v hv
  simp only [List.mem_cons, List.not_mem_nil, or_false] at hv
  rcases hv with rfl | rfl | rfl | rfl | rfl | rfl | rfl | rfl | rfl
  · exact offS_int _ _ _
  · exact offS_int _ _ _
  · exact offS_new (by omega)
  · exact offS_new (by omega)
  · exact offS_int _ _ _
  · exact offS_int _ _ _
  · exact offS_new (by omega)
  · exact offS_new (by omega)
  · exact offS_new (by omega)
end

def NewMid {γ : Type} (s' : γ) (k : Int) (K T M n0 : Nat) (w' : World) (g0 g3 g6 g9 g15 g17 : Nat) (s2 : γ) (a : Act) (W3 : World) : Prop := s2 = s' ∧ ∃ (first : Nat) (hd : Int), (k = 1 ∧ first = 1 ∧ hd = pk 0 (seg 0) ∨ k = 3 ∧ first = 0 ∧ hd = 0) ∧ Made w'.heap.size w' W3 K T M g0 g3 g6 g9 g15 g17 (zs M) ∧ Blk W3 g17 25 #[.int .u64 (0), .int .u64 (0), .slice (some ⟨g0, 0, none⟩) 3 3, .slice (some ⟨g3, 0, none⟩) T T, .int .u64 (hd), .int .u64 (hd), .slice (some ⟨g6, 0, none⟩) M M, .slice (some ⟨g9, 0, none⟩) M M, .slice (some ⟨g15, 0, none⟩) (M * K) (M * K)] ∧
    (∃ v0 v6 v7 v8 v9 v10 v11 v12 v13 v14 v15 v16 v17 v18 v19 v20 v21 v22 v23 v24 v25 v26 v27 v28 v29 v30 v31 v32 v33 v34 v35 v36 v37 v38 v39 v40 v41 v42 v43 v44 v45 v46 v47 v48 v49 v50 v51 v52 v53 v54 v55 v56 v57, a = { tmps := #[v0, .pointer (some ⟨n0, 0, none⟩), .pointer (some ⟨n0 + 1, 0, none⟩), .int .i64 0, .pointer (some ⟨g17, 0, none⟩), .int .i64 first, v6, v7, v8, v9, v10, v11, v12, v13, v14, v15, v16, v17, v18, v19, v20, v21, v22, v23, v24, v25, v26, v27, v28, v29, v30, v31, v32, v33, v34, v35, v36, v37, v38, v39, v40, v41, v42, v43, v44, v45, v46, v47, v48, v49, v50, v51, v52, v53, v54, v55, v56, v57], defers := [] })

def NewInv {γ : Type} (s' : γ) (K T M n0 first : Nat) (hd : Int) (w' : World) (g0 g3 g6 g9 g15 g17 : Nat) (s2 : γ) (a : Act) (W : World) : Prop := s2 = s' ∧ ∃ h : Nat, first ≤ h ∧ h ≤ M - 1 ∧ Made w'.heap.size w' W K T M g0 g3 g6 g9 g15 g17 (lk first h M) ∧ Blk W g17 25 #[.int .u64 (0), .int .u64 ((pk 0 (seg (first : Int)))), .slice (some ⟨g0, 0, none⟩) 3 3, .slice (some ⟨g3, 0, none⟩) T T, .int .u64 (hd), .int .u64 (hd), .slice (some ⟨g6, 0, none⟩) M M, .slice (some ⟨g9, 0, none⟩) M M, .slice (some ⟨g15, 0, none⟩) (M * K) (M * K)] ∧
    (∃ v0 v5 v7 v8 v9 v10 v11 v12 v13 v14 v15 v16 v17 v18 v19 v20 v21 v22 v23 v24 v25 v26 v27 v28 v29 v30 v31 v32 v33 v34 v35 v36 v37 v38 v39 v40 v41 v42 v43 v44 v45 v46 v47 v48 v49 v50 v51 v52 v53 v54 v55 v56 v57, a = { tmps := #[v0, .pointer (some ⟨n0, 0, none⟩), .pointer (some ⟨n0 + 1, 0, none⟩), .int .i64 0, .pointer (some ⟨g17, 0, none⟩), v5, .int .i64 h, v7, v8, v9, v10, v11, v12, v13, v14, v15, v16, v17, v18, v19, v20, v21, v22, v23, v24, v25, v26, v27, v28, v29, v30, v31, v32, v33, v34, v35, v36, v37, v38, v39, v40, v41, v42, v43, v44, v45, v46, v47, v48, v49, v50, v51, v52, v53, v54, v55, v56, v57], defers := [] })
def NewMu {γ : Type} (M : Nat) (_ : γ) (a : Act) (_ : World) : Nat := match a.tmps.getD 6 undef with
  | .int _ n => M - n.toNat
  | _ => 0

set_option maxHeartbeats 8000000 in
theorem new_ok2 {k : Int} {K T M : Nat} (h : mayB k K T M = true) : Jdo Try.prog X 13 #[cfg k K T M] s w fun s' r w' => s' = s ∧ Below w.heap.size w w' ∧ ∃ cs, r = .back (.tuple #[.agg cs, .int .i64 0]) ∧ MemC w' w'.heap.size (newMem k K T M) cs ∧ ∀ g, g < w.heap.size → Off g cs := by
  refine Jdo.there fun ht => ?_
  have hoth : ∀ b, w.heap.size ≤ b → ¬ X.oth s b := fun b hb ho => by have := ht b ho; omega
  have hr : (k = 1 ∨ k = 2 ∨ k = 3) ∧ 1 ≤ K ∧ K ≤ 64 ∧ 1 ≤ T ∧ T ≤ 8 ∧ 2 ≤ M ∧ M ≤ 64 := by
    simp [mayB, inB] at h
    omega
  obtain ⟨hk, hK1, hK2, hT1, hT2, hM1, hM2⟩ := hr
  have hMK : M * K ≤ 4096 := Nat.mul_le_mul hM2 hK2
  have hwr : IntKind.i64.wrap ((M : Int) * (K : Int)) = ((M * K : Nat) : Int) := by
    rw [← Int.natCast_mul]
    generalize M * K = n at *
    simp [IntKind.wrap, IntKind.bits, IntKind.signed]
    omega
  unfold cfg
  refine jdo_of Try.func13 rfl ?_
  simp only [Try.ntmps13, List.size_toArray, List.length_cons, List.length_nil, Nat.reduceAdd, Nat.reduceSub, Array.replicate_succ, Array.replicate_zero, List.push_toArray, List.append_toArray, List.nil_append, List.cons_append]
  repeat (first
    | (with_reducible apply lst_nil)
    | ((with_reducible refine lst_unwanted ?_ ?_); (focus rfl); simp only [Act.put, List.setIfInBounds_toArray, List.set_cons_zero, List.set_cons_succ])
    | ((with_reducible refine lst_cons ?_ ?_ (fun K hK => ?_)); (focus rfl); (focus (intro ht; refine fine_none ?_ ht; (focus (first | (with_reducible apply only_idle); (focus decide) | (with_reducible apply only_turn); (focus rfl); (focus rfl); (focus kernel_rfl) | exact only_calc rfl rfl rfl | exact only_check rfl rfl)))); go_simp; refine hK _ _ _ ?_; clear hK K)
    | (with_reducible apply j_seq) | (with_reducible apply j_block) | (with_reducible apply j_ret) | (with_reducible apply j_skip) | (with_reducible apply j_exit) | (with_reducible apply j_label) | (with_reducible apply j_region_lit)
    | ((with_reducible refine j_true ?_ ?_); (focus rfl)) | ((with_reducible refine j_false ?_ ?_); (focus rfl))
    | (with_reducible show Then _ _ _ _ _ _; simp only [Then])
    | (with_reducible show InBlock _ _ _ _ _ _; simp only [InBlock, ↓reduceIte, Nat.reduceEqDiff]))
  refine lst_call _ rfl ?_ ?_ Try.func15 ?_ rfl (may k K T M) ?_
  focus rfl
  focus first | rfl | (go_simp; done) | (go_simp; rfl)
  focus rfl
  rw [h]
  rintro s' r w' ⟨rfl, hb, rfl⟩
  simp only [Act.put, List.setIfInBounds_toArray, List.set_cons_zero, List.set_cons_succ]
  have b0 := ((Blk.new w 36 #[.int .i64 k, .int .i64 K, .int .i64 T, .int .i64 M]).alloc (.cells #[.int .u64 0, .int .u64 0, .slice none 0 0, .slice none 0 0, .int .u64 0, .int .u64 0, .slice none 0 0, .slice none 0 0, .slice none 0 0] 25)).below hb (by simp; omega)
  have b1 := (Blk.new1 w (.cells #[.int .i64 k, .int .i64 K, .int .i64 T, .int .i64 M] 36) 25 #[.int .u64 0, .int .u64 0, .slice none 0 0, .slice none 0 0, .int .u64 0, .int .u64 0, .slice none 0 0, .slice none 0 0, .slice none 0 0]).below hb (by simp)
  have hb0 := ((((Below.refl w.heap.size w).alloc (Nat.le_refl _) (.cells #[.int .i64 k, .int .i64 K, .int .i64 T, .int .i64 M] 36)).alloc (by simp) (.cells #[.int .u64 0, .int .u64 0, .slice none 0 0, .slice none 0 0, .int .u64 0, .int .u64 0, .slice none 0 0, .slice none 0 0, .slice none 0 0] 25))).trans (hb.mono (by simp; omega))
  clear hb
  have l0 := b0.lt
  have l1 := b1.lt
  have d0 := b0.cell
  have hsz0 := hb0.size
  repeat (first
    | (with_reducible apply lst_nil)
    | ((with_reducible refine lst_unwanted ?_ ?_); (focus rfl); simp only [Act.put, List.setIfInBounds_toArray, List.set_cons_zero, List.set_cons_succ])
    | ((with_reducible refine lst_cons ?_ ?_ (fun K hK => ?_)); (focus rfl); (focus (intro ht; refine fine_none ?_ ht; (focus (first | (with_reducible apply only_idle); (focus decide) | (with_reducible apply only_turn); (focus rfl); (focus rfl); (focus kernel_rfl) | exact only_calc rfl rfl rfl | exact only_check rfl rfl)))); go_simp; refine hK _ _ _ ?_; clear hK K)
    | (with_reducible apply j_seq) | (with_reducible apply j_block) | (with_reducible apply j_ret) | (with_reducible apply j_skip) | (with_reducible apply j_exit) | (with_reducible apply j_label) | (with_reducible apply j_region_lit)
    | ((with_reducible refine j_true ?_ ?_); (focus rfl)) | ((with_reducible refine j_false ?_ ?_); (focus rfl))
    | (with_reducible show Then _ _ _ _ _ _; simp only [Then])
    | (with_reducible show InBlock _ _ _ _ _ _; simp only [InBlock, ↓reduceIte, Nat.reduceEqDiff]))
  refine j_region_dg [0, 0, 2, 6, 0, 16, 48, 0, 128, 384, 0, 1024, 0, 4096, 15360, 31744, 65535, 0, 262143] [1, 2, 4, 5, 7, 8, 10, 11, 12, 13, 14, 0, 3, 6, 9, 15, 16, 17, 18] (Below w'.heap.size w') rfl (by decide +kernel) ?_ ?_ ?_
  focus exact (Below.refl _ _).drew
  focus exact closed_below w'
  repeat (first
    | (with_reducible apply dg_nil)
    | ((with_reducible apply dg_calm); (focus rfl); (focus rfl); (focus rfl); (focus (first | (with_reducible apply only_idle); (focus decide) | (with_reducible apply only_turn); (focus rfl); (focus rfl); (focus kernel_rfl) | exact only_calc rfl rfl rfl | exact only_check rfl rfl)); (focus (intro wS hS; (try have hcS := fun p => Below.cell hS (p := p)); go_simp; try rfl)); simp only [Act.put, List.setIfInBounds_toArray, List.set_cons_zero, List.set_cons_succ]))
  with_reducible refine dg_make (o := ?_) (t := ?_) (l := ?_) (c := ?_) ?_ ?_ ?_ 22 (.int .u64 0) 8 ?_ info_u64 rfl .i64 .i64 3 ?_ ?_ (by omega) (by omega) (fun g0 hg0 => ?_)
  rotate_left 4
  focus rfl
  focus rfl
  focus rfl
  focus exact under_u64s
  focus rfl
  focus rfl
  simp only [Act.put, List.setIfInBounds_toArray, List.set_cons_zero, List.set_cons_succ]
  with_reducible refine dg_make (o := ?_) (t := ?_) (l := ?_) (c := ?_) ?_ ?_ ?_ 22 (.int .u64 0) 8 ?_ info_u64 rfl .i64 .i64 T ?_ ?_ (by omega) (by omega) (fun g3 hg3 => ?_)
  rotate_left 4
  focus rfl
  focus rfl
  focus rfl
  focus exact under_u64s
  focus rfl
  focus rfl
  simp only [Act.put, List.setIfInBounds_toArray, List.set_cons_zero, List.set_cons_succ]
  with_reducible refine dg_make (o := ?_) (t := ?_) (l := ?_) (c := ?_) ?_ ?_ ?_ 22 (.int .u64 0) 8 ?_ info_u64 rfl .i64 .i64 M ?_ ?_ (by omega) (by omega) (fun g6 hg6 => ?_)
  rotate_left 4
  focus rfl
  focus rfl
  focus rfl
  focus exact under_u64s
  focus rfl
  focus rfl
  simp only [Act.put, List.setIfInBounds_toArray, List.set_cons_zero, List.set_cons_succ]
  with_reducible refine dg_make (o := ?_) (t := ?_) (l := ?_) (c := ?_) ?_ ?_ ?_ 22 (.int .u64 0) 8 ?_ info_u64 rfl .i64 .i64 M ?_ ?_ (by omega) (by omega) (fun g9 hg9 => ?_)
  rotate_left 4
  focus rfl
  focus rfl
  focus rfl
  focus exact under_u64s
  focus rfl
  focus rfl
  simp only [Act.put, List.setIfInBounds_toArray, List.set_cons_zero, List.set_cons_succ]
  with_reducible refine dg_make (o := ?_) (t := ?_) (l := ?_) (c := ?_) ?_ ?_ ?_ 22 (.int .u64 0) 8 ?_ info_u64 rfl .i64 .i64 (M * K) ?_ ?_ (by omega) (by omega) (fun g15 hg15 => ?_)
  rotate_left 4
  focus rfl
  focus rfl
  focus rfl
  focus exact under_u64s
  focus (rw [Int.natCast_mul] <;> rfl)
  focus (rw [Int.natCast_mul] <;> rfl)
  simp only [Act.put, List.setIfInBounds_toArray, List.set_cons_zero, List.set_cons_succ]
  repeat (first
    | (with_reducible apply dg_nil)
    | ((with_reducible apply dg_calm); (focus rfl); (focus rfl); (focus rfl); (focus (first | (with_reducible apply only_idle); (focus decide) | (with_reducible apply only_turn); (focus rfl); (focus rfl); (focus kernel_rfl) | exact only_calc rfl rfl rfl | exact only_check rfl rfl)); (focus (intro wS hS; (try have hcS := fun p => Below.cell hS (p := p)); go_simp; try rfl)); simp only [Act.put, List.setIfInBounds_toArray, List.set_cons_zero, List.set_cons_succ]))
  with_reducible refine dg_lay (o := ?_) (fun n => .pointer (some ⟨n, 0, none⟩)) (.cells #[.int .u64 0, .int .u64 0, .slice none 0 0, .slice none 0 0, .int .u64 0, .int .u64 0, .slice none 0 0, .slice none 0 0, .slice none 0 0] 25) ?_ ?_ ?_ ?_ ?_ ?_ (fun g17 hg17 => ?_)
  rotate_left 1
  focus rfl
  focus rfl
  focus rfl
  focus rfl
  focus (first | (with_reducible apply only_idle); (focus decide) | (with_reducible apply only_turn); (focus rfl); (focus rfl); (focus kernel_rfl) | exact only_calc rfl rfl rfl | exact only_check rfl rfl)
  focus (intro wS; go_simp; try rfl)
  simp only [Act.put, List.setIfInBounds_toArray, List.set_cons_zero, List.set_cons_succ]
  refine dg_do rfl rfl rfl (fun W hW hNW => ?_)
  obtain ⟨⟨⟨⟨⟨⟨hWb, m0⟩, m3⟩, m6⟩, m9⟩, m15⟩, m17⟩ := hW
  have hge : w'.heap.size ≤ g0 ∧ w'.heap.size ≤ g3 ∧ w'.heap.size ≤ g6 ∧ w'.heap.size ≤ g9 ∧ w'.heap.size ≤ g15 ∧ w'.heap.size ≤ g17 := by
    simp only [WithN, not_or, Nat.not_lt] at hg0 hg3 hg6 hg9 hg15 hg17
    omega
  have hne : g6 ≠ g0 ∧ g6 ≠ g3 ∧ g6 ≠ g9 ∧ g6 ≠ g15 ∧ g6 ≠ g17 ∧ g0 ≠ g17 ∧ g3 ≠ g17 ∧ g9 ≠ g17 ∧ g15 ≠ g17 := by
    simp only [WithN, not_or, Nat.not_lt] at hg0 hg3 hg6 hg9 hg15 hg17
    omega
  refine one_store (v := .agg #[.int .u64 0, .int .u64 0, .slice (some ⟨g0, 0, none⟩) 3 3, .slice (some ⟨g3, 0, none⟩) T T, .int .u64 0, .int .u64 0, .slice (some ⟨g6, 0, none⟩) M M, .slice (some ⟨g9, 0, none⟩) M M, .slice (some ⟨g15, 0, none⟩) (M * K) (M * K)]) (cs' := #[.int .u64 0, .int .u64 0, .slice (some ⟨g0, 0, none⟩) 3 3, .slice (some ⟨g3, 0, none⟩) T T, .int .u64 0, .int .u64 0, .slice (some ⟨g6, 0, none⟩) M M, .slice (some ⟨g9, 0, none⟩) M M, .slice (some ⟨g15, 0, none⟩) (M * K) (M * K)]) rfl rfl rfl rfl m17 (hoth _ (by omega)) (by kernel_rfl) (Nat.le_of_ble_eq_true rfl) (by simp [Value.cells, Value.oneCell']) rfl ?_
  refine ⟨fun _ => False, fun W2 => Made w'.heap.size w' W2 K T M g0 g3 g6 g9 g15 g17 (zs M) ∧ Blk W2 g17 25 #[.int .u64 (0), .int .u64 (0), .slice (some ⟨g0, 0, none⟩) 3 3, .slice (some ⟨g3, 0, none⟩) T T, .int .u64 (0), .int .u64 (0), .slice (some ⟨g6, 0, none⟩) M M, .slice (some ⟨g9, 0, none⟩) M M, .slice (some ⟨g15, 0, none⟩) (M * K) (M * K)], ⟨?_, Blk.row (show Blk W g17 _ _ from m17) _⟩, ?_, fun _ h => h.elim, ?_⟩
  focus
    have hU : ∀ n, (List.replicate n (Value.int .u64 0)).toArray = (U (zs n)).toArray := fun n => by unfold U zs; rw [List.map_replicate]
    rw [hU] at m0 m3 m6 m9 m15
    exact Made.row17 ⟨hWb, m0, m3, m6, m9, m15, hne, hge, by simp [zs]⟩ _
  focus
    exact fun W2 o h => ⟨h.1.alloc o h.1.below.size, h.2.alloc o⟩
  simp only [Act.put, List.setIfInBounds_toArray, List.set_cons_zero, List.set_cons_succ]
  refine dg_nil (fun W2 hW2 _ => ?_)
  obtain ⟨hMade, c17⟩ := hW2
  clear hWb m0 m3 m6 m9 m15 m17 hNW W
  have e0 := (b0.below hMade.below l0).cell
  iterate 6 (first
    | (with_reducible apply j_seq) | (with_reducible apply j_block) | (with_reducible apply j_ret) | (with_reducible apply j_skip) | (with_reducible apply j_exit) | (with_reducible apply j_label) | (with_reducible apply j_region_lit) | (with_reducible apply lst_nil)
    | ((with_reducible refine lst_unwanted ?_ ?_); (focus rfl); simp only [Act.put, List.setIfInBounds_toArray, List.set_cons_zero, List.set_cons_succ])
    | ((with_reducible refine lst_cons ?_ ?_ (fun K hK => ?_)); (focus rfl); (focus (intro ht; refine fine_none ?_ ht; (focus (first | (with_reducible apply only_idle); (focus decide) | (with_reducible apply only_turn); (focus rfl); (focus rfl); (focus kernel_rfl) | exact only_calc rfl rfl rfl | exact only_check rfl rfl)))); go_simp; refine hK _ _ _ ?_; clear hK K)
    | ((with_reducible refine j_true ?_ ?_); (focus rfl)) | ((with_reducible refine j_false ?_ ?_); (focus rfl))
    | (with_reducible show Then _ _ _ _ _ _; simp only [Then])
    | (with_reducible show InBlock _ _ _ _ _ _; simp only [InBlock, ↓reduceIte, Nat.reduceEqDiff]))
  refine j_seq_mid (M := NewMid s' k K T M w.heap.size w' g0 g3 g6 g9 g15 g17) ?_ ?_
  focus
    rcases hk with rfl | rfl | rfl
    · have d17 := c17.cell
      repeat (first
        | (with_reducible apply lst_nil)
        | ((with_reducible refine lst_unwanted ?_ ?_); (focus rfl); simp only [Act.put, List.setIfInBounds_toArray, List.set_cons_zero, List.set_cons_succ])
        | ((with_reducible refine lst_cons ?_ ?_ (fun K hK => ?_)); (focus rfl); (focus (intro ht; refine fine_none ?_ ht; (focus (first | (with_reducible apply only_idle); (focus decide) | (with_reducible apply only_turn); (focus rfl); (focus rfl); (focus kernel_rfl) | exact only_calc rfl rfl rfl | exact only_check rfl rfl)))); go_simp; refine hK _ _ _ ?_; clear hK K)
        | (with_reducible apply j_seq) | (with_reducible apply j_block) | (with_reducible apply j_ret) | (with_reducible apply j_skip) | (with_reducible apply j_exit) | (with_reducible apply j_label) | (with_reducible apply j_region_lit)
        | ((with_reducible refine j_true ?_ ?_); (focus rfl)) | ((with_reducible refine j_false ?_ ?_); (focus rfl))
        | (with_reducible show Then _ _ _ _ _ _; simp only [Then])
        | (with_reducible show InBlock _ _ _ _ _ _; simp only [InBlock, ↓reduceIte, Nat.reduceEqDiff]))
      refine lst_call _ rfl ?_ ?_ Try.func26 ?_ rfl (ref (h := 0) u32_zero) ?_
      focus rfl
      focus first | rfl | (go_simp; done) | (go_simp; rfl)
      focus rfl
      rintro s3 x3 W3 ⟨rfl, rfl, rfl⟩
      simp only [Act.put, List.setIfInBounds_toArray, List.set_cons_zero, List.set_cons_succ]
      refine lst_call _ rfl ?_ ?_ Try.func26 ?_ rfl (ref (h := 0) u32_zero) ?_
      focus rfl
      focus first | rfl | (go_simp; done) | (go_simp; rfl)
      focus rfl
      rintro s3 x3 W3 ⟨rfl, rfl, rfl⟩
      simp only [Act.put, List.setIfInBounds_toArray, List.set_cons_zero, List.set_cons_succ]
      repeat (first
        | (with_reducible apply lst_nil)
        | ((with_reducible refine lst_unwanted ?_ ?_); (focus rfl); simp only [Act.put, List.setIfInBounds_toArray, List.set_cons_zero, List.set_cons_succ])
        | ((with_reducible refine lst_cons ?_ ?_ (fun K hK => ?_)); (focus rfl); (focus (intro ht; refine fine_none ?_ ht; (focus (first | (with_reducible apply only_idle); (focus decide) | (with_reducible apply only_turn); (focus rfl); (focus rfl); (focus kernel_rfl) | exact only_calc rfl rfl rfl | exact only_check rfl rfl)))); go_simp; refine hK _ _ _ ?_; clear hK K)
        | (with_reducible apply j_seq) | (with_reducible apply j_block) | (with_reducible apply j_ret) | (with_reducible apply j_skip) | (with_reducible apply j_exit) | (with_reducible apply j_label) | (with_reducible apply j_region_lit)
        | ((with_reducible refine j_true ?_ ?_); (focus rfl)) | ((with_reducible refine j_false ?_ ?_); (focus rfl))
        | (with_reducible show Then _ _ _ _ _ _; simp only [Then])
        | (with_reducible show InBlock _ _ _ _ _ _; simp only [InBlock, ↓reduceIte, Nat.reduceEqDiff]))
      refine lst_one (one_store (v := .int .u64 (pk 0 (seg 0))) (cs' := #[.int .u64 (0), .int .u64 (0), .slice (some ⟨g0, 0, none⟩) 3 3, .slice (some ⟨g3, 0, none⟩) T T, .int .u64 ((pk 0 (seg 0))), .int .u64 (0), .slice (some ⟨g6, 0, none⟩) M M, .slice (some ⟨g9, 0, none⟩) M M, .slice (some ⟨g15, 0, none⟩) (M * K) (M * K)]) rfl rfl rfl rfl c17 (hoth _ (by omega)) (by kernel_rfl) (Nat.le_of_ble_eq_true rfl) (by simp [Value.cells, Value.oneCell']) rfl ?_)
      simp only [Act.put, List.setIfInBounds_toArray, List.set_cons_zero, List.set_cons_succ]
      have hMade' := hMade.row17 #[.int .u64 (0), .int .u64 (0), .slice (some ⟨g0, 0, none⟩) 3 3, .slice (some ⟨g3, 0, none⟩) T T, .int .u64 ((pk 0 (seg 0))), .int .u64 (0), .slice (some ⟨g6, 0, none⟩) M M, .slice (some ⟨g9, 0, none⟩) M M, .slice (some ⟨g15, 0, none⟩) (M * K) (M * K)]
      have c17' := c17.row #[.int .u64 (0), .int .u64 (0), .slice (some ⟨g0, 0, none⟩) 3 3, .slice (some ⟨g3, 0, none⟩) T T, .int .u64 ((pk 0 (seg 0))), .int .u64 (0), .slice (some ⟨g6, 0, none⟩) M M, .slice (some ⟨g9, 0, none⟩) M M, .slice (some ⟨g15, 0, none⟩) (M * K) (M * K)]
      generalize hW4 : W3.setRow g17 #[.int .u64 (0), .int .u64 (0), .slice (some ⟨g0, 0, none⟩) 3 3, .slice (some ⟨g3, 0, none⟩) T T, .int .u64 ((pk 0 (seg 0))), .int .u64 (0), .slice (some ⟨g6, 0, none⟩) M M, .slice (some ⟨g9, 0, none⟩) M M, .slice (some ⟨g15, 0, none⟩) (M * K) (M * K)] = W4 at hMade' c17' ⊢
      repeat (first
        | (with_reducible apply lst_nil)
        | ((with_reducible refine lst_unwanted ?_ ?_); (focus rfl); simp only [Act.put, List.setIfInBounds_toArray, List.set_cons_zero, List.set_cons_succ])
        | ((with_reducible refine lst_cons ?_ ?_ (fun K hK => ?_)); (focus rfl); (focus (intro ht; refine fine_none ?_ ht; (focus (first | (with_reducible apply only_idle); (focus decide) | (with_reducible apply only_turn); (focus rfl); (focus rfl); (focus kernel_rfl) | exact only_calc rfl rfl rfl | exact only_check rfl rfl)))); go_simp; refine hK _ _ _ ?_; clear hK K)
        | (with_reducible apply j_seq) | (with_reducible apply j_block) | (with_reducible apply j_ret) | (with_reducible apply j_skip) | (with_reducible apply j_exit) | (with_reducible apply j_label) | (with_reducible apply j_region_lit)
        | ((with_reducible refine j_true ?_ ?_); (focus rfl)) | ((with_reducible refine j_false ?_ ?_); (focus rfl))
        | (with_reducible show Then _ _ _ _ _ _; simp only [Then])
        | (with_reducible show InBlock _ _ _ _ _ _; simp only [InBlock, ↓reduceIte, Nat.reduceEqDiff]))
      refine lst_one (one_store (v := .int .u64 (pk 0 (seg 0))) (cs' := #[.int .u64 (0), .int .u64 (0), .slice (some ⟨g0, 0, none⟩) 3 3, .slice (some ⟨g3, 0, none⟩) T T, .int .u64 ((pk 0 (seg 0))), .int .u64 ((pk 0 (seg 0))), .slice (some ⟨g6, 0, none⟩) M M, .slice (some ⟨g9, 0, none⟩) M M, .slice (some ⟨g15, 0, none⟩) (M * K) (M * K)]) rfl rfl rfl rfl c17' (hoth _ (by omega)) (by kernel_rfl) (Nat.le_of_ble_eq_true rfl) (by simp [Value.cells, Value.oneCell']) rfl ?_)
      simp only [Act.put, List.setIfInBounds_toArray, List.set_cons_zero, List.set_cons_succ]
      have hMade2 := hMade'.row17 #[.int .u64 (0), .int .u64 (0), .slice (some ⟨g0, 0, none⟩) 3 3, .slice (some ⟨g3, 0, none⟩) T T, .int .u64 ((pk 0 (seg 0))), .int .u64 ((pk 0 (seg 0))), .slice (some ⟨g6, 0, none⟩) M M, .slice (some ⟨g9, 0, none⟩) M M, .slice (some ⟨g15, 0, none⟩) (M * K) (M * K)]
      have c172 := c17'.row #[.int .u64 (0), .int .u64 (0), .slice (some ⟨g0, 0, none⟩) 3 3, .slice (some ⟨g3, 0, none⟩) T T, .int .u64 ((pk 0 (seg 0))), .int .u64 ((pk 0 (seg 0))), .slice (some ⟨g6, 0, none⟩) M M, .slice (some ⟨g9, 0, none⟩) M M, .slice (some ⟨g15, 0, none⟩) (M * K) (M * K)]
      generalize hW5 : W4.setRow g17 #[.int .u64 (0), .int .u64 (0), .slice (some ⟨g0, 0, none⟩) 3 3, .slice (some ⟨g3, 0, none⟩) T T, .int .u64 ((pk 0 (seg 0))), .int .u64 ((pk 0 (seg 0))), .slice (some ⟨g6, 0, none⟩) M M, .slice (some ⟨g9, 0, none⟩) M M, .slice (some ⟨g15, 0, none⟩) (M * K) (M * K)] = W5 at hMade2 c172 ⊢
      repeat (first
        | (with_reducible apply lst_nil)
        | ((with_reducible refine lst_unwanted ?_ ?_); (focus rfl); simp only [Act.put, List.setIfInBounds_toArray, List.set_cons_zero, List.set_cons_succ])
        | ((with_reducible refine lst_cons ?_ ?_ (fun K hK => ?_)); (focus rfl); (focus (intro ht; refine fine_none ?_ ht; (focus (first | (with_reducible apply only_idle); (focus decide) | (with_reducible apply only_turn); (focus rfl); (focus rfl); (focus kernel_rfl) | exact only_calc rfl rfl rfl | exact only_check rfl rfl)))); go_simp; refine hK _ _ _ ?_; clear hK K)
        | (with_reducible apply j_seq) | (with_reducible apply j_block) | (with_reducible apply j_ret) | (with_reducible apply j_skip) | (with_reducible apply j_exit) | (with_reducible apply j_label) | (with_reducible apply j_region_lit)
        | ((with_reducible refine j_true ?_ ?_); (focus rfl)) | ((with_reducible refine j_false ?_ ?_); (focus rfl))
        | (with_reducible show Then _ _ _ _ _ _; simp only [Then])
        | (with_reducible show InBlock _ _ _ _ _ _; simp only [InBlock, ↓reduceIte, Nat.reduceEqDiff]))
      exact ⟨rfl, 1, _, .inl ⟨rfl, rfl, rfl⟩, hMade2, c172, _, _, _, _, _, _, _, _, _, _, _, _, _, _, _, _, _, _, _, _, _, _, _, _, _, _, _, _, _, _, _, _, _, _, _, _, _, _, _, _, _, _, _, _, _, _, _, _, _, _, _, _, _, rfl⟩
    · have d17 := c17.cell
      repeat (first
        | (with_reducible apply lst_nil)
        | ((with_reducible refine lst_unwanted ?_ ?_); (focus rfl); simp only [Act.put, List.setIfInBounds_toArray, List.set_cons_zero, List.set_cons_succ])
        | ((with_reducible refine lst_cons ?_ ?_ (fun K hK => ?_)); (focus rfl); (focus (intro ht; refine fine_none ?_ ht; (focus (first | (with_reducible apply only_idle); (focus decide) | (with_reducible apply only_turn); (focus rfl); (focus rfl); (focus kernel_rfl) | exact only_calc rfl rfl rfl | exact only_check rfl rfl)))); go_simp; refine hK _ _ _ ?_; clear hK K)
        | (with_reducible apply j_seq) | (with_reducible apply j_block) | (with_reducible apply j_ret) | (with_reducible apply j_skip) | (with_reducible apply j_exit) | (with_reducible apply j_label) | (with_reducible apply j_region_lit)
        | ((with_reducible refine j_true ?_ ?_); (focus rfl)) | ((with_reducible refine j_false ?_ ?_); (focus rfl))
        | (with_reducible show Then _ _ _ _ _ _; simp only [Then])
        | (with_reducible show InBlock _ _ _ _ _ _; simp only [InBlock, ↓reduceIte, Nat.reduceEqDiff]))
      refine lst_one (one_store (v := .agg #[.int .u64 (0), .int .u64 (0), .slice (some ⟨g0, 0, none⟩) 3 3, .slice (some ⟨g3, 0, none⟩) T T, .int .u64 (0), .int .u64 (0), .slice (some ⟨g6, 0, none⟩) M M, .slice (some ⟨g9, 0, none⟩) M M, .slice (some ⟨g15, 0, none⟩) (M * K) (M * K)]) (cs' := #[.int .u64 (0), .int .u64 (0), .slice (some ⟨g0, 0, none⟩) 3 3, .slice (some ⟨g3, 0, none⟩) T T, .int .u64 (0), .int .u64 (0), .slice (some ⟨g6, 0, none⟩) M M, .slice (some ⟨g9, 0, none⟩) M M, .slice (some ⟨g15, 0, none⟩) (M * K) (M * K)]) rfl rfl rfl rfl (b1.below hMade.below l1) (hoth _ (by omega)) (by kernel_rfl) (Nat.le_of_ble_eq_true rfl) (by simp [Value.cells, Value.oneCell']) rfl ?_)
      simp only [Act.put, List.setIfInBounds_toArray, List.set_cons_zero, List.set_cons_succ]
      have hfin := hMade.last (hb0.trans (hMade.below.mono hsz0)) (show w.heap.size ≤ w.heap.size + 1 by omega) l1 #[.int .u64 (0), .int .u64 (0), .slice (some ⟨g0, 0, none⟩) 3 3, .slice (some ⟨g3, 0, none⟩) T T, .int .u64 (0), .int .u64 (0), .slice (some ⟨g6, 0, none⟩) M M, .slice (some ⟨g9, 0, none⟩) M M, .slice (some ⟨g15, 0, none⟩) (M * K) (M * K)]
      have f1 := (b1.below hMade.below l1).row #[.int .u64 (0), .int .u64 (0), .slice (some ⟨g0, 0, none⟩) 3 3, .slice (some ⟨g3, 0, none⟩) T T, .int .u64 (0), .int .u64 (0), .slice (some ⟨g6, 0, none⟩) M M, .slice (some ⟨g9, 0, none⟩) M M, .slice (some ⟨g15, 0, none⟩) (M * K) (M * K)]
      generalize hW3 : W2.setRow (w.heap.size + 1) #[.int .u64 (0), .int .u64 (0), .slice (some ⟨g0, 0, none⟩) 3 3, .slice (some ⟨g3, 0, none⟩) T T, .int .u64 (0), .int .u64 (0), .slice (some ⟨g6, 0, none⟩) M M, .slice (some ⟨g9, 0, none⟩) M M, .slice (some ⟨g15, 0, none⟩) (M * K) (M * K)] = W3 at hfin f1 ⊢
      have d1 := f1.cell
      repeat (first
        | (with_reducible apply lst_nil)
        | ((with_reducible refine lst_unwanted ?_ ?_); (focus rfl); simp only [Act.put, List.setIfInBounds_toArray, List.set_cons_zero, List.set_cons_succ])
        | ((with_reducible refine lst_cons ?_ ?_ (fun K hK => ?_)); (focus rfl); (focus (intro ht; refine fine_none ?_ ht; (focus (first | (with_reducible apply only_idle); (focus decide) | (with_reducible apply only_turn); (focus rfl); (focus rfl); (focus kernel_rfl) | exact only_calc rfl rfl rfl | exact only_check rfl rfl)))); go_simp; refine hK _ _ _ ?_; clear hK K)
        | (with_reducible apply j_seq) | (with_reducible apply j_block) | (with_reducible apply j_ret) | (with_reducible apply j_skip) | (with_reducible apply j_exit) | (with_reducible apply j_label) | (with_reducible apply j_region_lit)
        | ((with_reducible refine j_true ?_ ?_); (focus rfl)) | ((with_reducible refine j_false ?_ ?_); (focus rfl))
        | (with_reducible show Then _ _ _ _ _ _; simp only [Then])
        | (with_reducible show InBlock _ _ _ _ _ _; simp only [InBlock, ↓reduceIte, Nat.reduceEqDiff]))
      refine body_run (.tuple #[.agg #[.int .u64 (0), .int .u64 (0), .slice (some ⟨g0, 0, none⟩) 3 3, .slice (some ⟨g3, 0, none⟩) T T, .int .u64 (0), .int .u64 (0), .slice (some ⟨g6, 0, none⟩) M M, .slice (some ⟨g9, 0, none⟩) M M, .slice (some ⟨g15, 0, none⟩) (M * K) (M * K)], .int .i64 0]) rfl (by simp [results, go_sem, d1]) ⟨rfl, hfin.below, _, rfl, ?_, fun g hg => hfin.off hg _ _ _ _⟩
      exact hfin.memC hT2 hM2 hMK 0 0 0 0
    · repeat (first | (with_reducible apply lst_nil) | ((with_reducible refine lst_unwanted ?_ ?_); (focus rfl); simp only [Act.put, List.setIfInBounds_toArray, List.set_cons_zero, List.set_cons_succ]) | ((with_reducible refine lst_cons ?_ ?_ (fun K hK => ?_)); (focus rfl); (focus (intro ht; refine fine_none ?_ ht; (focus (first | (with_reducible apply only_idle); (focus decide) | (with_reducible apply only_turn); (focus rfl); (focus rfl); (focus kernel_rfl) | exact only_calc rfl rfl rfl | exact only_check rfl rfl)))); go_simp; refine hK _ _ _ ?_; clear hK K) | (with_reducible apply j_seq) | (with_reducible apply j_block) | (with_reducible apply j_ret) | (with_reducible apply j_skip) | (with_reducible apply j_exit) | (with_reducible apply j_label) | (with_reducible apply j_region_lit) | ((with_reducible refine j_true ?_ ?_); (focus rfl)) | ((with_reducible refine j_false ?_ ?_); (focus rfl)) | (with_reducible show Then _ _ _ _ _ _; simp only [Then]) | (with_reducible show InBlock _ _ _ _ _ _; simp only [InBlock, ↓reduceIte, Nat.reduceEqDiff]))
      exact ⟨rfl, 0, 0, .inr ⟨rfl, rfl, rfl⟩, hMade, c17, _, _, _, _, _, _, _, _, _, _, _, _, _, _, _, _, _, _, _, _, _, _, _, _, _, _, _, _, _, _, _, _, _, _, _, _, _, _, _, _, _, _, _, _, _, _, _, _, _, _, _, _, _, rfl⟩
  rintro s2 a W3 ⟨rfl, first, hd, hfirst, hMade2, c172, v0, v6, v7, v8, v9, v10, v11, v12, v13, v14, v15, v16, v17, v18, v19, v20, v21, v22, v23, v24, v25, v26, v27, v28, v29, v30, v31, v32, v33, v34, v35, v36, v37, v38, v39, v40, v41, v42, v43, v44, v45, v46, v47, v48, v49, v50, v51, v52, v53, v54, v55, v56, v57, rfl⟩
  clear hMade c17 e0
  have hf1 : first ≤ 1 := by omega
  have d17 := c172.cell
  repeat (first
    | (with_reducible apply lst_nil)
    | ((with_reducible refine lst_unwanted ?_ ?_); (focus rfl); simp only [Act.put, List.setIfInBounds_toArray, List.set_cons_zero, List.set_cons_succ])
    | ((with_reducible refine lst_cons ?_ ?_ (fun K hK => ?_)); (focus rfl); (focus (intro ht; refine fine_none ?_ ht; (focus (first | (with_reducible apply only_idle); (focus decide) | (with_reducible apply only_turn); (focus rfl); (focus rfl); (focus kernel_rfl) | exact only_calc rfl rfl rfl | exact only_check rfl rfl)))); go_simp; refine hK _ _ _ ?_; clear hK K)
    | (with_reducible apply j_seq) | (with_reducible apply j_block) | (with_reducible apply j_ret) | (with_reducible apply j_skip) | (with_reducible apply j_exit) | (with_reducible apply j_label) | (with_reducible apply j_region_lit)
    | ((with_reducible refine j_true ?_ ?_); (focus rfl)) | ((with_reducible refine j_false ?_ ?_); (focus rfl))
    | (with_reducible show Then _ _ _ _ _ _; simp only [Then])
    | (with_reducible show InBlock _ _ _ _ _ _; simp only [InBlock, ↓reduceIte, Nat.reduceEqDiff]))
  refine lst_call _ rfl ?_ ?_ Try.func26 ?_ rfl (ref (h := (first : Int)) u32_zero) ?_
  focus rfl
  focus first | rfl | (go_simp; done) | (go_simp; rfl)
  focus rfl
  rintro s3 x3 W4 ⟨rfl, rfl, rfl⟩
  simp only [Act.put, List.setIfInBounds_toArray, List.set_cons_zero, List.set_cons_succ]
  repeat (first
    | (with_reducible apply lst_nil)
    | ((with_reducible refine lst_unwanted ?_ ?_); (focus rfl); simp only [Act.put, List.setIfInBounds_toArray, List.set_cons_zero, List.set_cons_succ])
    | ((with_reducible refine lst_cons ?_ ?_ (fun K hK => ?_)); (focus rfl); (focus (intro ht; refine fine_none ?_ ht; (focus (first | (with_reducible apply only_idle); (focus decide) | (with_reducible apply only_turn); (focus rfl); (focus rfl); (focus kernel_rfl) | exact only_calc rfl rfl rfl | exact only_check rfl rfl)))); go_simp; refine hK _ _ _ ?_; clear hK K)
    | (with_reducible apply j_seq) | (with_reducible apply j_block) | (with_reducible apply j_ret) | (with_reducible apply j_skip) | (with_reducible apply j_exit) | (with_reducible apply j_label) | (with_reducible apply j_region_lit)
    | ((with_reducible refine j_true ?_ ?_); (focus rfl)) | ((with_reducible refine j_false ?_ ?_); (focus rfl))
    | (with_reducible show Then _ _ _ _ _ _; simp only [Then])
    | (with_reducible show InBlock _ _ _ _ _ _; simp only [InBlock, ↓reduceIte, Nat.reduceEqDiff]))
  refine lst_one (one_store (v := .int .u64 (pk 0 (seg (first : Int)))) (cs' := #[.int .u64 (0), .int .u64 ((pk 0 (seg (first : Int)))), .slice (some ⟨g0, 0, none⟩) 3 3, .slice (some ⟨g3, 0, none⟩) T T, .int .u64 (hd), .int .u64 (hd), .slice (some ⟨g6, 0, none⟩) M M, .slice (some ⟨g9, 0, none⟩) M M, .slice (some ⟨g15, 0, none⟩) (M * K) (M * K)]) rfl rfl rfl rfl c172 (hoth _ (by omega)) (by kernel_rfl) (Nat.le_of_ble_eq_true rfl) (by simp [Value.cells, Value.oneCell']) rfl ?_)
  simp only [Act.put, List.setIfInBounds_toArray, List.set_cons_zero, List.set_cons_succ]
  have hMade3 := hMade2.row17 #[.int .u64 (0), .int .u64 ((pk 0 (seg (first : Int)))), .slice (some ⟨g0, 0, none⟩) 3 3, .slice (some ⟨g3, 0, none⟩) T T, .int .u64 (hd), .int .u64 (hd), .slice (some ⟨g6, 0, none⟩) M M, .slice (some ⟨g9, 0, none⟩) M M, .slice (some ⟨g15, 0, none⟩) (M * K) (M * K)]
  have c173 := c172.row #[.int .u64 (0), .int .u64 ((pk 0 (seg (first : Int)))), .slice (some ⟨g0, 0, none⟩) 3 3, .slice (some ⟨g3, 0, none⟩) T T, .int .u64 (hd), .int .u64 (hd), .slice (some ⟨g6, 0, none⟩) M M, .slice (some ⟨g9, 0, none⟩) M M, .slice (some ⟨g15, 0, none⟩) (M * K) (M * K)]
  generalize hW5 : W4.setRow g17 #[.int .u64 (0), .int .u64 ((pk 0 (seg (first : Int)))), .slice (some ⟨g0, 0, none⟩) 3 3, .slice (some ⟨g3, 0, none⟩) T T, .int .u64 (hd), .int .u64 (hd), .slice (some ⟨g6, 0, none⟩) M M, .slice (some ⟨g9, 0, none⟩) M M, .slice (some ⟨g15, 0, none⟩) (M * K) (M * K)] = W5 at hMade3 c173 ⊢
  clear hMade2 c172 d17 hW5
  repeat (first
    | (with_reducible apply lst_nil)
    | ((with_reducible refine lst_unwanted ?_ ?_); (focus rfl); simp only [Act.put, List.setIfInBounds_toArray, List.set_cons_zero, List.set_cons_succ])
    | ((with_reducible refine lst_cons ?_ ?_ (fun K hK => ?_)); (focus rfl); (focus (intro ht; refine fine_none ?_ ht; (focus (first | (with_reducible apply only_idle); (focus decide) | (with_reducible apply only_turn); (focus rfl); (focus rfl); (focus kernel_rfl) | exact only_calc rfl rfl rfl | exact only_check rfl rfl)))); go_simp; refine hK _ _ _ ?_; clear hK K)
    | (with_reducible apply j_seq) | (with_reducible apply j_block) | (with_reducible apply j_ret) | (with_reducible apply j_skip) | (with_reducible apply j_exit) | (with_reducible apply j_label) | (with_reducible apply j_region_lit)
    | ((with_reducible refine j_true ?_ ?_); (focus rfl)) | ((with_reducible refine j_false ?_ ?_); (focus rfl))
    | (with_reducible show Then _ _ _ _ _ _; simp only [Then])
    | (with_reducible show InBlock _ _ _ _ _ _; simp only [InBlock, ↓reduceIte, Nat.reduceEqDiff]))
  refine j_loop (I := NewInv s3 K T M w.heap.size first hd w' g0 g3 g6 g9 g15 g17) (μ := NewMu M) ?_ ?_
  focus exact ⟨rfl, first, Nat.le_refl _, by omega, (lk_start first M).symm ▸ hMade3, c173, _, _, _, _, _, _, _, _, _, _, _, _, _, _, _, _, _, _, _, _, _, _, _, _, _, _, _, _, _, _, _, _, _, _, _, _, _, _, _, _, _, _, _, _, _, _, _, _, _, _, _, _, _, rfl⟩
  clear hMade3 c173
  rintro s2 a W ⟨rfl, h0, hh1, hh2, hM6, c17, v0, v5, v7, v8, v9, v10, v11, v12, v13, v14, v15, v16, v17, v18, v19, v20, v21, v22, v23, v24, v25, v26, v27, v28, v29, v30, v31, v32, v33, v34, v35, v36, v37, v38, v39, v40, v41, v42, v43, v44, v45, v46, v47, v48, v49, v50, v51, v52, v53, v54, v55, v56, v57, rfl⟩
  have d17 := c17.cell
  have e0 := (b0.below hM6.below l0).cell
  have hw1 : IntKind.i64.wrap ((M : Int) - 1) = (M : Int) - 1 := by simp [IntKind.wrap, IntKind.bits, IntKind.signed]; omega
  by_cases c : h0 < M - 1
  · have c1 : decide ((h0 : Int) < (M : Int) - 1) = true := decide_eq_true (by omega)
    have l17 := c17.lt
    have l6 := hM6.b6.lt
    have hgs := hM6.n6
    have hB := hM6.ge
    have hlk : h0 < (lk first h0 M).length := by rw [lk_len]; omega
    have hc6 : W.cell? ⟨g6, h0, none⟩ = some (.int .u64 ((lk first h0 M)[h0]'hlk)) := by
      rw [hM6.b6.cell, List.getElem?_toArray]
      unfold U
      rw [List.getElem?_map, List.getElem?_eq_getElem hlk]
      rfl
    have hf6 := hM6.b6.frozen h0
    have hin : (0 : Int) ≤ (h0 : Int) ∧ (h0 : Int) < (M : Int) := by omega
    have hin2 : h0 < M := by omega
    have hwh : IntKind.i64.wrap ((h0 : Int) + 1) = (h0 : Int) + 1 := by simp [IntKind.wrap, IntKind.bits, IntKind.signed]; omega
    repeat (first
      | (with_reducible apply lst_nil)
      | ((with_reducible refine lst_unwanted ?_ ?_); (focus rfl); simp only [Act.put, List.setIfInBounds_toArray, List.set_cons_zero, List.set_cons_succ])
      | ((with_reducible refine lst_cons ?_ ?_ (fun K hK => ?_)); (focus rfl); (focus (intro ht; refine fine_none ?_ ht; (focus (first | (with_reducible apply only_idle); (focus decide) | (with_reducible apply only_turn); (focus rfl); (focus rfl); (focus kernel_rfl) | exact only_calc rfl rfl rfl | exact only_check rfl rfl)))); go_simp; refine hK _ _ _ ?_; clear hK K)
      | (with_reducible apply j_seq) | (with_reducible apply j_block) | (with_reducible apply j_ret) | (with_reducible apply j_skip) | (with_reducible apply j_exit) | (with_reducible apply j_label) | (with_reducible apply j_region_lit)
      | ((with_reducible refine j_true ?_ ?_); (focus rfl)) | ((with_reducible refine j_false ?_ ?_); (focus rfl))
      | (with_reducible show Then _ _ _ _ _ _; simp only [Then])
      | (with_reducible show InBlock _ _ _ _ _ _; simp only [InBlock, ↓reduceIte, Nat.reduceEqDiff]))
    refine j_region_dl [0, 1, 0, 0, 8, 24, 63, 127] [0, 1, 2, 3, 4, 5, 6, 7] (Below W.heap.size W) rfl (by decide +kernel) (by repeat (first | exact loose_body | (with_reducible apply loose_then) | (with_reducible apply loose_block) | (with_reducible apply loose_noGoto) | (with_reducible apply loose_jump))) ?_ ?_
    focus exact (Below.refl _ _).drew
    repeat (first
      | (with_reducible apply dl_nil)
      | ((with_reducible apply dl_skip); (focus rfl); (focus rfl); (focus (first | assumption | exact (Below.refl _ _).drew)); simp only [Act.put, List.setIfInBounds_toArray, List.set_cons_zero, List.set_cons_succ])
      | ((with_reducible apply dl_calm); (focus rfl); (focus rfl); (focus rfl); (focus (first | (with_reducible apply only_idle); (focus decide) | (with_reducible apply only_turn); (focus rfl); (focus rfl); (focus kernel_rfl) | exact only_calc rfl rfl rfl | exact only_check rfl rfl)); (focus (intro wS hS; have hcS := fun p => Below.cell hS (p := p); go_simp; try rfl)); simp only [Act.put, List.setIfInBounds_toArray, List.set_cons_zero, List.set_cons_succ])
      | (with_reducible show Then _ _ _ _ _ _; simp only [Then])
      | (with_reducible show InBlock _ _ _ _ _ _; simp only [InBlock, ↓reduceIte, Nat.reduceEqDiff]))
    refine dl_call (o := ?_) (args := ?_) (ats := ?_) _ ?_ ?_ ?_ ?_ Try.func26 ?_ rfl (ref (h := (h0 : Int) + 1) u32_zero) ?_
    rotate_left 3
    focus rfl
    focus rfl
    focus rfl
    focus first | rfl | (go_simp; done) | (go_simp; rfl)
    focus rfl
    rintro s3 x3 W6 ⟨rfl, rfl, rfl⟩
    refine ⟨_, (Below.refl W.heap.size W).drew, fun _ => rfl, ?_⟩
    simp only [Act.put, List.setIfInBounds_toArray, List.set_cons_zero, List.set_cons_succ]
    repeat (first
      | (with_reducible apply dl_nil)
      | ((with_reducible apply dl_skip); (focus rfl); (focus rfl); (focus (first | assumption | exact (Below.refl _ _).drew)); simp only [Act.put, List.setIfInBounds_toArray, List.set_cons_zero, List.set_cons_succ])
      | ((with_reducible apply dl_calm); (focus rfl); (focus rfl); (focus rfl); (focus (first | (with_reducible apply only_idle); (focus decide) | (with_reducible apply only_turn); (focus rfl); (focus rfl); (focus kernel_rfl) | exact only_calc rfl rfl rfl | exact only_check rfl rfl)); (focus (intro wS hS; have hcS := fun p => Below.cell hS (p := p); go_simp; try rfl)); simp only [Act.put, List.setIfInBounds_toArray, List.set_cons_zero, List.set_cons_succ])
      | (with_reducible show Then _ _ _ _ _ _; simp only [Then])
      | (with_reducible show InBlock _ _ _ _ _ _; simp only [InBlock, ↓reduceIte, Nat.reduceEqDiff]))
    refine dl_act (o := ?_) ?_ ?_ ?_ ?_ (fun K hK => ?_)
    rotate_left 1
    focus rfl
    focus rfl
    focus rfl
    focus exact fun ht => fine_store rfl rfl (show W.drew.cell? _ = _ from hc6) (hoth _ (by first | omega | (dsimp only <;> omega))) ht
    go_simp
    refine hK _ _ _ ⟨fun _ => True, trivial, fun h => absurd h (by decide), ?_⟩
    clear hK K
    have hM7 := hM6.drew.link h0 (pk 0 (seg ((h0 : Int) + 1)))
    rw [lk_step (by omega) hin2] at hM7
    have c18 := c17.drew.far (p := ⟨g6, h0, none⟩) (Ne.symm hgs.2.2.2.2.1) (.int .u64 (pk 0 (seg ((h0 : Int) + 1))))
    refine dl_nil ?_
    repeat (first
      | (with_reducible apply lst_nil)
      | ((with_reducible refine lst_unwanted ?_ ?_); (focus rfl); simp only [Act.put, List.setIfInBounds_toArray, List.set_cons_zero, List.set_cons_succ])
      | ((with_reducible refine lst_cons ?_ ?_ (fun K hK => ?_)); (focus rfl); (focus (intro ht; refine fine_none ?_ ht; (focus (first | (with_reducible apply only_idle); (focus decide) | (with_reducible apply only_turn); (focus rfl); (focus rfl); (focus kernel_rfl) | exact only_calc rfl rfl rfl | exact only_check rfl rfl)))); go_simp; refine hK _ _ _ ?_; clear hK K)
      | (with_reducible apply j_seq) | (with_reducible apply j_block) | (with_reducible apply j_ret) | (with_reducible apply j_skip) | (with_reducible apply j_exit) | (with_reducible apply j_label) | (with_reducible apply j_region_lit)
      | ((with_reducible refine j_true ?_ ?_); (focus rfl)) | ((with_reducible refine j_false ?_ ?_); (focus rfl))
      | (with_reducible show Then _ _ _ _ _ _; simp only [Then])
      | (with_reducible show InBlock _ _ _ _ _ _; simp only [InBlock, ↓reduceIte, Nat.reduceEqDiff]))
    exact ⟨⟨rfl, h0 + 1, by omega, by omega, hM7, c18, _, _, _, _, _, _, _, _, _, _, _, _, _, _, _, _, _, _, _, _, _, _, _, _, _, _, _, _, _, _, _, _, _, _, _, _, _, _, _, _, _, _, _, _, _, _, _, _, _, _, _, _, _, rfl⟩, by show M - ((h0 : Int) + 1).toNat < M - ((h0 : Int)).toNat; omega⟩
  · have c1 : decide ((h0 : Int) < (M : Int) - 1) = false := decide_eq_false (by omega)
    have hh : h0 = M - 1 := by omega
    subst hh
    repeat (first
      | (with_reducible apply lst_nil)
      | ((with_reducible refine lst_unwanted ?_ ?_); (focus rfl); simp only [Act.put, List.setIfInBounds_toArray, List.set_cons_zero, List.set_cons_succ])
      | ((with_reducible refine lst_cons ?_ ?_ (fun K hK => ?_)); (focus rfl); (focus (intro ht; refine fine_none ?_ ht; (focus (first | (with_reducible apply only_idle); (focus decide) | (with_reducible apply only_turn); (focus rfl); (focus rfl); (focus kernel_rfl) | exact only_calc rfl rfl rfl | exact only_check rfl rfl)))); go_simp; refine hK _ _ _ ?_; clear hK K)
      | (with_reducible apply j_seq) | (with_reducible apply j_block) | (with_reducible apply j_ret) | (with_reducible apply j_skip) | (with_reducible apply j_exit) | (with_reducible apply j_label) | (with_reducible apply j_region_lit)
      | ((with_reducible refine j_true ?_ ?_); (focus rfl)) | ((with_reducible refine j_false ?_ ?_); (focus rfl))
      | (with_reducible show Then _ _ _ _ _ _; simp only [Then])
      | (with_reducible show InBlock _ _ _ _ _ _; simp only [InBlock, ↓reduceIte, Nat.reduceEqDiff]))
    refine lst_one (one_store (v := .agg #[.int .u64 (0), .int .u64 ((pk 0 (seg (first : Int)))), .slice (some ⟨g0, 0, none⟩) 3 3, .slice (some ⟨g3, 0, none⟩) T T, .int .u64 (hd), .int .u64 (hd), .slice (some ⟨g6, 0, none⟩) M M, .slice (some ⟨g9, 0, none⟩) M M, .slice (some ⟨g15, 0, none⟩) (M * K) (M * K)]) (cs' := #[.int .u64 (0), .int .u64 ((pk 0 (seg (first : Int)))), .slice (some ⟨g0, 0, none⟩) 3 3, .slice (some ⟨g3, 0, none⟩) T T, .int .u64 (hd), .int .u64 (hd), .slice (some ⟨g6, 0, none⟩) M M, .slice (some ⟨g9, 0, none⟩) M M, .slice (some ⟨g15, 0, none⟩) (M * K) (M * K)]) rfl rfl rfl rfl (b1.below hM6.below l1) (hoth _ (by omega)) (by kernel_rfl) (Nat.le_of_ble_eq_true rfl) (by simp [Value.cells, Value.oneCell']) rfl ?_)
    simp only [Act.put, List.setIfInBounds_toArray, List.set_cons_zero, List.set_cons_succ]
    have hfin := hM6.last (hb0.trans (hM6.below.mono hsz0)) (show w.heap.size ≤ w.heap.size + 1 by omega) l1 #[.int .u64 (0), .int .u64 ((pk 0 (seg (first : Int)))), .slice (some ⟨g0, 0, none⟩) 3 3, .slice (some ⟨g3, 0, none⟩) T T, .int .u64 (hd), .int .u64 (hd), .slice (some ⟨g6, 0, none⟩) M M, .slice (some ⟨g9, 0, none⟩) M M, .slice (some ⟨g15, 0, none⟩) (M * K) (M * K)]
    have f1 := (b1.below hM6.below l1).row #[.int .u64 (0), .int .u64 ((pk 0 (seg (first : Int)))), .slice (some ⟨g0, 0, none⟩) 3 3, .slice (some ⟨g3, 0, none⟩) T T, .int .u64 (hd), .int .u64 (hd), .slice (some ⟨g6, 0, none⟩) M M, .slice (some ⟨g9, 0, none⟩) M M, .slice (some ⟨g15, 0, none⟩) (M * K) (M * K)]
    generalize hW8 : W.setRow (w.heap.size + 1) #[.int .u64 (0), .int .u64 ((pk 0 (seg (first : Int)))), .slice (some ⟨g0, 0, none⟩) 3 3, .slice (some ⟨g3, 0, none⟩) T T, .int .u64 (hd), .int .u64 (hd), .slice (some ⟨g6, 0, none⟩) M M, .slice (some ⟨g9, 0, none⟩) M M, .slice (some ⟨g15, 0, none⟩) (M * K) (M * K)] = W8 at hfin f1 ⊢
    have d1 := f1.cell
    repeat (first
      | (with_reducible apply lst_nil)
      | ((with_reducible refine lst_unwanted ?_ ?_); (focus rfl); simp only [Act.put, List.setIfInBounds_toArray, List.set_cons_zero, List.set_cons_succ])
      | ((with_reducible refine lst_cons ?_ ?_ (fun K hK => ?_)); (focus rfl); (focus (intro ht; refine fine_none ?_ ht; (focus (first | (with_reducible apply only_idle); (focus decide) | (with_reducible apply only_turn); (focus rfl); (focus rfl); (focus kernel_rfl) | exact only_calc rfl rfl rfl | exact only_check rfl rfl)))); go_simp; refine hK _ _ _ ?_; clear hK K)
      | (with_reducible apply j_seq) | (with_reducible apply j_block) | (with_reducible apply j_ret) | (with_reducible apply j_skip) | (with_reducible apply j_exit) | (with_reducible apply j_label) | (with_reducible apply j_region_lit)
      | ((with_reducible refine j_true ?_ ?_); (focus rfl)) | ((with_reducible refine j_false ?_ ?_); (focus rfl))
      | (with_reducible show Then _ _ _ _ _ _; simp only [Then])
      | (with_reducible show InBlock _ _ _ _ _ _; simp only [InBlock, ↓reduceIte, Nat.reduceEqDiff]))
    refine body_run (.tuple #[.agg #[.int .u64 (0), .int .u64 ((pk 0 (seg (first : Int)))), .slice (some ⟨g0, 0, none⟩) 3 3, .slice (some ⟨g3, 0, none⟩) T T, .int .u64 (hd), .int .u64 (hd), .slice (some ⟨g6, 0, none⟩) M M, .slice (some ⟨g9, 0, none⟩) M M, .slice (some ⟨g15, 0, none⟩) (M * K) (M * K)], .int .i64 0]) rfl (by simp [results, go_sem, d1]) ⟨rfl, hfin.below, _, rfl, ?_, fun g hg => hfin.off hg _ _ _ _⟩
    have hnm : newMem k K T M = ⟨0, pk 0 (seg (first : Int)), zs 3, zs T, hd, hd, lk first (M - 1) M, zs M, zs (M * K)⟩ := by
      rcases hfirst with ⟨rfl, rfl, rfl⟩ | ⟨rfl, rfl, rfl⟩ <;> rfl
    rw [hnm]
    exact hfin.memC hT2 hM2 hMK _ _ _ _

theorem new_ok {k : Int} {K T M : Nat} (h : mayB k K T M = true) : Jdo Try.prog X 13 #[cfg k K T M] s w fun s' r w' => s' = s ∧ Below w.heap.size w w' ∧ ∃ v, r = .back (.tuple #[v, .int .i64 0]) ∧ MemV w' w'.heap.size (newMem k K T M) v :=
  (new_ok2 h).mono fun s' r w' ⟨h1, h2, cs, h3, h4, _⟩ => ⟨h1, h2, _, h3, cs, rfl, h4⟩
end
end Go.Proofs.Ytonhfgjofgbcdaa.St
