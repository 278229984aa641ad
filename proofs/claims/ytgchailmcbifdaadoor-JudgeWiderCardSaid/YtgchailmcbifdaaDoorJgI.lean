/- Package internal/strconv: how many digits a number has; its digits, written into a row. -/
import Derived.Test.YtgchailmcbifdaaDoorJgH
import Derived.Test.YtgchailmcbifdaaDoorJgRow
namespace Go.Proofs.YtgchailmcbifdaaDoor.Jg
set_option linter.unusedSimpArgs false
set_option linter.unusedVariables false
set_option maxRecDepth 20000
open Go Go.Conc Go.RowKit Go.Proofs.YtgchailmcbifdaaDoor.Jay Go.Proofs.YtgchailmcbifdaaDoor.Pl
section
variable {γ : Type} {X : Turns γ} {s : γ} {w : World}
attribute [local go_sem] upon_value upon_skip

/-- The table of the powers of ten. -/
def Tab (w : World) : Prop := 0 < w.heap.size ∧ ∀ i : Nat, i < 20 → w.cell? ⟨0, i, none⟩ = some (.int .u64 ((10 ^ i : Nat) : Int))
theorem Tab.below {w w' : World} {B : Nat} (h : Tab w) (hb : Below B w w') (hB : 0 < B) : Tab w' := ⟨Nat.lt_of_lt_of_le h.1 hb.size, fun i hi => by rw [← h.2 i hi]; exact hb.cell hB⟩
set_option maxHeartbeats 4000000 in
theorem numDigits_ok {u : Nat} (hu : u < 4294967296) (hT : Tab w) : Jdo Tryd.prog X 26 #[.int .u64 u] s w fun s' r w' => s' = s ∧ w' = w ∧ r = .back (.int .i64 (ndig u : Int)) := by
  have hl := len64_fact hu
  have hlo := low_le hu
  have d0 := hT.2 (low u) (by omega)
  have hi1 : (0 : Int) ≤ ((low u : Nat) : Int) ∧ ((low u : Nat) : Int) < 20 := by omega
  have hi2 : low u < 20 := by omega
  refine jdo_of Tryd.func26 rfl ?_
  simp only [Tryd.ntmps26, List.size_toArray, List.length_cons, List.length_nil, Nat.reduceAdd, Nat.reduceSub, Array.replicate_succ, Array.replicate_zero, List.push_toArray, List.append_toArray, List.nil_append, List.cons_append]
  repeat (first
    | ((with_reducible refine lst_free ?_ ?_ (fun K hK => ?_)); (focus with_reducible rfl); (focus (intro ht; refine fine_none ?_ ht; (focus (first | (with_reducible apply only_idle); (focus decide) | (with_reducible apply only_turn); (focus rfl); (focus rfl); (focus kernel_rfl) | exact only_calc rfl rfl rfl | exact only_check rfl rfl | exact only_cap rfl rfl | exact only_min rfl rfl rfl | exact only_max rfl rfl rfl)))); go_simp; refine hK _ _ _ ?_; clear hK K)
    | ((with_reducible refine lst_off (i := ?_) (b := ?_) (d := ?_) ?_ ?_ ?_ ?_); rotate_left 3; (focus with_reducible rfl); (focus rfl); (focus (simp only [List.getElem?_toArray, List.getElem?_cons_succ, List.getElem?_cons_zero, Bool.not_true, Bool.not_false])); simp only [Act.put, List.setIfInBounds_toArray, List.set_cons_zero, List.set_cons_succ])
    | ((with_reducible refine lst_on (i := ?_) (b := ?_) (d := ?_) ?_ ?_ ?_ ?_ (fun K hK => ?_)); rotate_left 3; (focus with_reducible rfl); (focus rfl); (focus (simp only [List.getElem?_toArray, List.getElem?_cons_succ, List.getElem?_cons_zero])); (focus (intro ht; refine fine_none ?_ ht; (focus (first | (with_reducible apply only_idle); (focus decide) | (with_reducible apply only_turn); (focus rfl); (focus rfl); (focus kernel_rfl) | exact only_calc rfl rfl rfl | exact only_check rfl rfl | exact only_cap rfl rfl | exact only_min rfl rfl rfl | exact only_max rfl rfl rfl)))); go_simp; refine hK _ _ _ ?_; clear hK K)
    | ((with_reducible refine lst_undef (i := ?_) (b := ?_) (d := ?_) ?_ ?_ ?_ ?_); rotate_left 3; (focus with_reducible rfl); (focus rfl); (focus (simp only [List.getElem?_toArray, List.getElem?_cons_succ, List.getElem?_cons_zero])); simp only [Act.put, List.setIfInBounds_toArray, List.set_cons_zero, List.set_cons_succ])
    | (with_reducible apply lst_nil)
    | ((fail_if_success (with_reducible refine lst_any ?_)); first
    | (with_reducible apply j_seq) | (with_reducible apply j_block) | (with_reducible apply j_ret) | (with_reducible apply j_skip) | (with_reducible apply j_exit) | (with_reducible apply j_label) | (with_reducible apply j_region_lit)
    | ((with_reducible refine j_true ?_ ?_); (focus rfl)) | ((with_reducible refine j_false ?_ ?_); (focus rfl))
    | (with_reducible show Then _ _ _ _ _ _; simp only [Then])
    | (with_reducible show InBlock _ _ _ _ _ _; simp only [InBlock, ↓reduceIte, Nat.reduceEqDiff])))
  refine lst_call _ rfl ?_ ?_ Tryd.func31 ?_ rfl (len64_ok hu) ?_
  focus rfl
  focus first | rfl | (go_simp; done) | (go_simp; rfl)
  focus rfl
  rintro s1 r w1 ⟨rfl, rfl, rfl⟩
  simp only [Act.put, List.setIfInBounds_toArray, List.set_cons_zero, List.set_cons_succ]
  repeat (first
    | ((with_reducible refine lst_free ?_ ?_ (fun K hK => ?_)); (focus with_reducible rfl); (focus (intro ht; refine fine_none ?_ ht; (focus (first | (with_reducible apply only_idle); (focus decide) | (with_reducible apply only_turn); (focus rfl); (focus rfl); (focus kernel_rfl) | exact only_calc rfl rfl rfl | exact only_check rfl rfl | exact only_cap rfl rfl | exact only_min rfl rfl rfl | exact only_max rfl rfl rfl)))); go_simp; refine hK _ _ _ ?_; clear hK K)
    | ((with_reducible refine lst_off (i := ?_) (b := ?_) (d := ?_) ?_ ?_ ?_ ?_); rotate_left 3; (focus with_reducible rfl); (focus rfl); (focus (simp only [List.getElem?_toArray, List.getElem?_cons_succ, List.getElem?_cons_zero, Bool.not_true, Bool.not_false])); simp only [Act.put, List.setIfInBounds_toArray, List.set_cons_zero, List.set_cons_succ])
    | ((with_reducible refine lst_on (i := ?_) (b := ?_) (d := ?_) ?_ ?_ ?_ ?_ (fun K hK => ?_)); rotate_left 3; (focus with_reducible rfl); (focus rfl); (focus (simp only [List.getElem?_toArray, List.getElem?_cons_succ, List.getElem?_cons_zero])); (focus (intro ht; refine fine_none ?_ ht; (focus (first | (with_reducible apply only_idle); (focus decide) | (with_reducible apply only_turn); (focus rfl); (focus rfl); (focus kernel_rfl) | exact only_calc rfl rfl rfl | exact only_check rfl rfl | exact only_cap rfl rfl | exact only_min rfl rfl rfl | exact only_max rfl rfl rfl)))); go_simp; refine hK _ _ _ ?_; clear hK K)
    | ((with_reducible refine lst_undef (i := ?_) (b := ?_) (d := ?_) ?_ ?_ ?_ ?_); rotate_left 3; (focus with_reducible rfl); (focus rfl); (focus (simp only [List.getElem?_toArray, List.getElem?_cons_succ, List.getElem?_cons_zero])); simp only [Act.put, List.setIfInBounds_toArray, List.set_cons_zero, List.set_cons_succ])
    | (with_reducible apply lst_nil)
    | ((fail_if_success (with_reducible refine lst_any ?_)); first
    | (with_reducible apply j_seq) | (with_reducible apply j_block) | (with_reducible apply j_ret) | (with_reducible apply j_skip) | (with_reducible apply j_exit) | (with_reducible apply j_label) | (with_reducible apply j_region_lit)
    | ((with_reducible refine j_true ?_ ?_); (focus rfl)) | ((with_reducible refine j_false ?_ ?_); (focus rfl))
    | (with_reducible show Then _ _ _ _ _ _; simp only [Then])
    | (with_reducible show InBlock _ _ _ _ _ _; simp only [InBlock, ↓reduceIte, Nat.reduceEqDiff])))
  refine lst_call _ rfl ?_ ?_ Tryd.func30 ?_ rfl (log10_ok (n := len64 u) (by omega)) ?_
  focus rfl
  focus first | rfl | (go_simp; done) | (go_simp; rfl)
  focus rfl
  rintro s1 r w1 ⟨rfl, rfl, rfl⟩
  simp only [Act.put, List.setIfInBounds_toArray, List.set_cons_zero, List.set_cons_succ]
  change Lst _ _ _ _ _ _ _ _ _
  rw [show len64 u * 78913 / 262144 = low u from rfl]
  have hnd : (ndig u : Int) = (low u : Int) + (if decide (10 ^ low u ≤ u) = true then 1 else 0) := by
    unfold ndig
    by_cases h : 10 ^ low u ≤ u
    · rw [if_pos h, if_pos (by simpa using h)]; omega
    · rw [if_neg h, if_neg (by simpa using h)]; omega
  generalize low u = lo at d0 hi1 hi2 hnd hlo ⊢
  generalize hp : 10 ^ lo = p at d0 hnd ⊢
  repeat (first
    | ((with_reducible refine lst_free ?_ ?_ (fun K hK => ?_)); (focus with_reducible rfl); (focus (intro ht; refine fine_none ?_ ht; (focus (first | (with_reducible apply only_idle); (focus decide) | (with_reducible apply only_turn); (focus rfl); (focus rfl); (focus kernel_rfl) | exact only_calc rfl rfl rfl | exact only_check rfl rfl | exact only_cap rfl rfl | exact only_min rfl rfl rfl | exact only_max rfl rfl rfl)))); go_simp; refine hK _ _ _ ?_; clear hK K)
    | ((with_reducible refine lst_off (i := ?_) (b := ?_) (d := ?_) ?_ ?_ ?_ ?_); rotate_left 3; (focus with_reducible rfl); (focus rfl); (focus (simp only [List.getElem?_toArray, List.getElem?_cons_succ, List.getElem?_cons_zero, Bool.not_true, Bool.not_false])); simp only [Act.put, List.setIfInBounds_toArray, List.set_cons_zero, List.set_cons_succ])
    | ((with_reducible refine lst_on (i := ?_) (b := ?_) (d := ?_) ?_ ?_ ?_ ?_ (fun K hK => ?_)); rotate_left 3; (focus with_reducible rfl); (focus rfl); (focus (simp only [List.getElem?_toArray, List.getElem?_cons_succ, List.getElem?_cons_zero])); (focus (intro ht; refine fine_none ?_ ht; (focus (first | (with_reducible apply only_idle); (focus decide) | (with_reducible apply only_turn); (focus rfl); (focus rfl); (focus kernel_rfl) | exact only_calc rfl rfl rfl | exact only_check rfl rfl | exact only_cap rfl rfl | exact only_min rfl rfl rfl | exact only_max rfl rfl rfl)))); go_simp; refine hK _ _ _ ?_; clear hK K)
    | ((with_reducible refine lst_undef (i := ?_) (b := ?_) (d := ?_) ?_ ?_ ?_ ?_); rotate_left 3; (focus with_reducible rfl); (focus rfl); (focus (simp only [List.getElem?_toArray, List.getElem?_cons_succ, List.getElem?_cons_zero])); simp only [Act.put, List.setIfInBounds_toArray, List.set_cons_zero, List.set_cons_succ])
    | (with_reducible apply lst_nil)
    | ((fail_if_success (with_reducible refine lst_any ?_)); first
    | (with_reducible apply j_seq) | (with_reducible apply j_block) | (with_reducible apply j_ret) | (with_reducible apply j_skip) | (with_reducible apply j_exit) | (with_reducible apply j_label) | (with_reducible apply j_region_lit)
    | ((with_reducible refine j_true ?_ ?_); (focus rfl)) | ((with_reducible refine j_false ?_ ?_); (focus rfl))
    | (with_reducible show Then _ _ _ _ _ _; simp only [Then])
    | (with_reducible show InBlock _ _ _ _ _ _; simp only [InBlock, ↓reduceIte, Nat.reduceEqDiff])))
  generalize hb : decide (p ≤ u) = b at hnd ⊢
  refine lst_call _ rfl ?_ ?_ Tryd.func32 ?_ rfl (bool2_ok (b := b)) ?_
  focus rfl
  focus first | rfl | (go_simp; done) | (go_simp; rfl)
  focus rfl
  rintro s1 r w1 ⟨rfl, rfl, rfl⟩
  simp only [Act.put, List.setIfInBounds_toArray, List.set_cons_zero, List.set_cons_succ]
  have q1 : IntKind.i64.wrap (lo : Int) = (lo : Int) := by simp [IntKind.wrap, IntKind.bits, IntKind.signed]; omega
  have q2 : IntKind.i64.wrap ((lo : Int) + 1) = (lo : Int) + 1 := by simp [IntKind.wrap, IntKind.bits, IntKind.signed]; omega
  cases b
  · repeat (first | ((with_reducible refine lst_free ?_ ?_ (fun K hK => ?_)); (focus with_reducible rfl); (focus (intro ht; refine fine_none ?_ ht; (focus (first | (with_reducible apply only_idle); (focus decide) | (with_reducible apply only_turn); (focus rfl); (focus rfl); (focus kernel_rfl) | exact only_calc rfl rfl rfl | exact only_check rfl rfl | exact only_cap rfl rfl | exact only_min rfl rfl rfl | exact only_max rfl rfl rfl)))); go_simp; refine hK _ _ _ ?_; clear hK K) | ((with_reducible refine lst_off (i := ?_) (b := ?_) (d := ?_) ?_ ?_ ?_ ?_); rotate_left 3; (focus with_reducible rfl); (focus rfl); (focus (simp only [List.getElem?_toArray, List.getElem?_cons_succ, List.getElem?_cons_zero, Bool.not_true, Bool.not_false])); simp only [Act.put, List.setIfInBounds_toArray, List.set_cons_zero, List.set_cons_succ]) | ((with_reducible refine lst_on (i := ?_) (b := ?_) (d := ?_) ?_ ?_ ?_ ?_ (fun K hK => ?_)); rotate_left 3; (focus with_reducible rfl); (focus rfl); (focus (simp only [List.getElem?_toArray, List.getElem?_cons_succ, List.getElem?_cons_zero])); (focus (intro ht; refine fine_none ?_ ht; (focus (first | (with_reducible apply only_idle); (focus decide) | (with_reducible apply only_turn); (focus rfl); (focus rfl); (focus kernel_rfl) | exact only_calc rfl rfl rfl | exact only_check rfl rfl | exact only_cap rfl rfl | exact only_min rfl rfl rfl | exact only_max rfl rfl rfl)))); go_simp; refine hK _ _ _ ?_; clear hK K) | ((with_reducible refine lst_undef (i := ?_) (b := ?_) (d := ?_) ?_ ?_ ?_ ?_); rotate_left 3; (focus with_reducible rfl); (focus rfl); (focus (simp only [List.getElem?_toArray, List.getElem?_cons_succ, List.getElem?_cons_zero])); simp only [Act.put, List.setIfInBounds_toArray, List.set_cons_zero, List.set_cons_succ]) | (with_reducible apply lst_nil) | ((fail_if_success (with_reducible refine lst_any ?_)); first | (with_reducible apply j_seq) | (with_reducible apply j_block) | (with_reducible apply j_ret) | (with_reducible apply j_skip) | (with_reducible apply j_exit) | (with_reducible apply j_label) | (with_reducible apply j_region_lit) | ((with_reducible refine j_true ?_ ?_); (focus rfl)) | ((with_reducible refine j_false ?_ ?_); (focus rfl)) | (with_reducible show Then _ _ _ _ _ _; simp only [Then]) | (with_reducible show InBlock _ _ _ _ _ _; simp only [InBlock, ↓reduceIte, Nat.reduceEqDiff])))
    exact body_ret1 rfl rfl ⟨rfl, rfl, by rw [hnd, if_neg (by decide), Int.add_zero]; rfl⟩
  · repeat (first | ((with_reducible refine lst_free ?_ ?_ (fun K hK => ?_)); (focus with_reducible rfl); (focus (intro ht; refine fine_none ?_ ht; (focus (first | (with_reducible apply only_idle); (focus decide) | (with_reducible apply only_turn); (focus rfl); (focus rfl); (focus kernel_rfl) | exact only_calc rfl rfl rfl | exact only_check rfl rfl | exact only_cap rfl rfl | exact only_min rfl rfl rfl | exact only_max rfl rfl rfl)))); go_simp; refine hK _ _ _ ?_; clear hK K) | ((with_reducible refine lst_off (i := ?_) (b := ?_) (d := ?_) ?_ ?_ ?_ ?_); rotate_left 3; (focus with_reducible rfl); (focus rfl); (focus (simp only [List.getElem?_toArray, List.getElem?_cons_succ, List.getElem?_cons_zero, Bool.not_true, Bool.not_false])); simp only [Act.put, List.setIfInBounds_toArray, List.set_cons_zero, List.set_cons_succ]) | ((with_reducible refine lst_on (i := ?_) (b := ?_) (d := ?_) ?_ ?_ ?_ ?_ (fun K hK => ?_)); rotate_left 3; (focus with_reducible rfl); (focus rfl); (focus (simp only [List.getElem?_toArray, List.getElem?_cons_succ, List.getElem?_cons_zero])); (focus (intro ht; refine fine_none ?_ ht; (focus (first | (with_reducible apply only_idle); (focus decide) | (with_reducible apply only_turn); (focus rfl); (focus rfl); (focus kernel_rfl) | exact only_calc rfl rfl rfl | exact only_check rfl rfl | exact only_cap rfl rfl | exact only_min rfl rfl rfl | exact only_max rfl rfl rfl)))); go_simp; refine hK _ _ _ ?_; clear hK K) | ((with_reducible refine lst_undef (i := ?_) (b := ?_) (d := ?_) ?_ ?_ ?_ ?_); rotate_left 3; (focus with_reducible rfl); (focus rfl); (focus (simp only [List.getElem?_toArray, List.getElem?_cons_succ, List.getElem?_cons_zero])); simp only [Act.put, List.setIfInBounds_toArray, List.set_cons_zero, List.set_cons_succ]) | (with_reducible apply lst_nil) | ((fail_if_success (with_reducible refine lst_any ?_)); first | (with_reducible apply j_seq) | (with_reducible apply j_block) | (with_reducible apply j_ret) | (with_reducible apply j_skip) | (with_reducible apply j_exit) | (with_reducible apply j_label) | (with_reducible apply j_region_lit) | ((with_reducible refine j_true ?_ ?_); (focus rfl)) | ((with_reducible refine j_false ?_ ?_); (focus rfl)) | (with_reducible show Then _ _ _ _ _ _; simp only [Then]) | (with_reducible show InBlock _ _ _ _ _ _; simp only [InBlock, ↓reduceIte, Nat.reduceEqDiff])))
    exact body_ret1 rfl rfl ⟨rfl, rfl, by rw [hnd, if_pos rfl]; rfl⟩

/-! ### formatBase10 -/

/-- The last digits are there, of the first n what is left is x. -/
def Fm (W : World) (g o t L u0 n x : Nat) : Prop := x < 10 ^ n ∧ n ≤ L ∧ ∃ cs, Blk W g t cs ∧ o + L ≤ cs.size ∧ ∃ rest, dig L u0 = dig n x ++ rest ∧ ∀ j b, rest[j]? = some b → cs[o + n + j]? = some (.int .u8 (b.toNat : Int))
theorem Fm.two {W : World} {g o t L u0 n x : Nat} (h : Fm W g o t L u0 (n + 2) x) : Fm ((W.setCell ⟨g, o + (n + 1), none⟩ (.int .u8 ((48 + x % 10 : Nat) : Int))).setCell ⟨g, o + n, none⟩ (.int .u8 ((48 + x / 10 % 10 : Nat) : Int))) g o t L u0 n (x / 100) := by
  obtain ⟨h1, h2, cs, hb, hs, rest, hr, hc⟩ := h
  refine ⟨by rw [Nat.pow_add] at h1; omega, by omega, _, (hb.set_ _ _).set_ _ _, by simpa using hs, [UInt8.ofNat (48 + x / 10 % 10), UInt8.ofNat (48 + x % 10)] ++ rest, ?_, ?_⟩
  · rw [hr, dig_split n 2 x, dig_two, List.append_assoc]
    have e1 : x % 10 ^ 2 / 10 % 10 = x / 10 % 10 := by omega
    have e2 : x % 10 ^ 2 % 10 = x % 10 := by omega
    rw [e1, e2]
  · intro j b hj
    rcases j with _ | _ | j
    · obtain rfl : UInt8.ofNat (48 + x / 10 % 10) = b := Option.some.inj hj
      rw [digit_nat]
      have : o + n < cs.size := by omega
      simp [this]
    · obtain rfl : UInt8.ofNat (48 + x % 10) = b := Option.some.inj hj
      rw [digit_nat]
      have : o + (n + 1) < cs.size := by omega
      rw [show o + n + (0 + 1) = o + (n + 1) by omega]
      simp [Array.getElem?_setIfInBounds, this]
    · have hj' : rest[j]? = some b := by simpa using hj
      have := hc j b hj'
      rw [show o + n + (j + 1 + 1) = o + (n + 2) + j by omega]
      rw [Array.getElem?_setIfInBounds_ne (by omega), Array.getElem?_setIfInBounds_ne (by omega)]
      exact this
theorem Fm.two2 {W : World} {g o t L u0 N x n1 n2 e1 e0 : Nat} (h : Fm W g o t L u0 N x) (hN : 2 ≤ N) (h1 : n1 = N - 1) (h2 : n2 = N - 2) (he1 : e1 = 48 + x % 10) (he0 : e0 = 48 + x / 10 % 10) :
    Fm ((W.setCell ⟨g, o + n1, none⟩ (.int .u8 (e1 : Int))).setCell ⟨g, o + n2, none⟩ (.int .u8 (e0 : Int))).drew g o t L u0 n2 (x / 100) := by
  subst h1 h2 he1 he0
  obtain ⟨m, rfl⟩ : ∃ m, N = m + 2 := ⟨N - 2, by omega⟩
  exact h.two
theorem Fm.one {W : World} {g o t L u0 x : Nat} (h : Fm W g o t L u0 1 x) : Fm (W.setCell ⟨g, o, none⟩ (.int .u8 ((48 + x : Nat) : Int))) g o t L u0 0 0 := by
  obtain ⟨h1, h2, cs, hb, hs, rest, hr, hc⟩ := h
  refine ⟨by decide, by omega, _, hb.set_ _ _, by simpa using hs, UInt8.ofNat (48 + x % 10) :: rest, ?_, ?_⟩
  · rw [hr, dig_one]; rfl
  · intro j b hj
    rcases j with _ | j
    · obtain rfl : UInt8.ofNat (48 + x % 10) = b := Option.some.inj hj
      rw [digit_nat]
      have : o < cs.size := by omega
      simp [this]
      omega
    · have hj' : rest[j]? = some b := by simpa using hj
      have := hc j b hj'
      rw [show o + 0 + (j + 1) = o + 1 + j by omega]
      rw [Array.getElem?_setIfInBounds_ne (by omega)]
      exact this


/-- A block of at least m cells. -/
def Bk (W : World) (g t m : Nat) : Prop := ∃ cs, Blk W g t cs ∧ m ≤ cs.size
theorem Bk.cell {W : World} {g t m : Nat} (h : Bk W g t m) {i : Nat} (hi : i < m) : ∃ v, W.cell? ⟨g, i, none⟩ = some v := by
  obtain ⟨cs, h1, h2⟩ := h
  exact ⟨cs[i], by rw [h1.cell]; exact Array.getElem?_eq_getElem _⟩
theorem Bk.frozen {W : World} {g t m : Nat} (h : Bk W g t m) (i : Nat) : W.frozen? ⟨g, i, none⟩ = false := by obtain ⟨cs, h1, _⟩ := h; exact h1.frozen i
theorem Bk.set {W : World} {g t m : Nat} (h : Bk W g t m) (i : Nat) (v : Value) : Bk (W.setCell ⟨g, i, none⟩ v) g t m := by
  obtain ⟨cs, h1, h2⟩ := h
  exact ⟨_, h1.set_ _ _, by simpa using h2⟩
theorem Fm.bk {W : World} {g o t L u0 n x : Nat} (h : Fm W g o t L u0 n x) : Bk W g t (o + L) := by obtain ⟨_, _, cs, h1, h2, _⟩ := h; exact ⟨cs, h1, h2⟩
/-- What a frame of formatBase10 holds: the row, what is left, how many digits are left. -/
def Fb (g o L c n x : Nat) (a : Act) : Prop := a.tmps.size = 167 ∧ a.defers = [] ∧ a.tmps.getD 0 undef = .slice (some ⟨g, o, none⟩) L c ∧ a.tmps.getD 1 undef = .int .u64 x ∧ a.tmps.getD 4 undef = .int .i64 n
set_option maxHeartbeats 8000000 in
theorem fb_round {g o t L c u0 n x : Nat} {a : Act} {W0 W : World} (hC : Chg (fun b => b = g) W0 W) (hg : ¬ X.oth s g) (hn : 8 ≤ n) (hL : L ≤ 24) (hx : x < 4294967296) (hF : Fm W g o t L u0 n x) (ha : Fb g o L c n x a) {Q : γ → Exit → Act → World → Prop} (hQl : Loose Q)
    (hQ : ∀ a' W', Fb g o L c (n - 8) (x / 100000000) a' → Fm W' g o t L u0 (n - 8) (x / 100000000) → Chg (fun b => b = g) W0 W' → Q s .normal a' W') :
    Wp Tryd.prog X 27 (match loopIn (headOf 1 Tryd.f27.body) with | .loop c => c | c => c) Q s a W := by
  conv => arg 4; whnf
  obtain ⟨hs, hd, h0, h1, h4⟩ := ha
  have e := lit_tmps hs hd
  generalize hf : (fun i => a.tmps.getD i undef) = f at e
  replace h0 : f 0 = .slice (some ⟨g, o, none⟩) L c := by rw [← hf]; exact h0
  replace h1 : f 1 = .int .u64 x := by rw [← hf]; exact h1
  replace h4 : f 4 = .int .i64 n := by rw [← hf]; exact h4
  clear hf hs hd
  subst e
  change Wp _ _ _ _ _ _ ⟨#[f 0, f 1, f 2, f 3, f 4, f 5, f 6, f 7, f 8, f 9, f 10, f 11, f 12, f 13, f 14, f 15, f 16, f 17, f 18, f 19, f 20, f 21, f 22, f 23, f 24, f 25, f 26, f 27, f 28, f 29, f 30, f 31, f 32, f 33, f 34, f 35, f 36, f 37, f 38, f 39, f 40, f 41, f 42, f 43, f 44, f 45, f 46, f 47, f 48, f 49, f 50, f 51, f 52, f 53, f 54, f 55, f 56, f 57, f 58, f 59, f 60, f 61, f 62, f 63, f 64, f 65, f 66, f 67, f 68, f 69, f 70, f 71, f 72, f 73, f 74, f 75, f 76, f 77, f 78, f 79, f 80, f 81, f 82, f 83, f 84, f 85, f 86, f 87, f 88, f 89, f 90, f 91, f 92, f 93, f 94, f 95, f 96, f 97, f 98, f 99, f 100, f 101, f 102, f 103, f 104, f 105, f 106, f 107, f 108, f 109, f 110, f 111, f 112, f 113, f 114, f 115, f 116, f 117, f 118, f 119, f 120, f 121, f 122, f 123, f 124, f 125, f 126, f 127, f 128, f 129, f 130, f 131, f 132, f 133, f 134, f 135, f 136, f 137, f 138, f 139, f 140, f 141, f 142, f 143, f 144, f 145, f 146, f 147, f 148, f 149, f 150, f 151, f 152, f 153, f 154, f 155, f 156, f 157, f 158, f 159, f 160, f 161, f 162, f 163, f 164, f 165, f 166], []⟩ _
  rw [h0, h1, h4]
  clear h0 h1 h4
  have c1 : decide ((8 : Int) ≤ (n : Int)) = true := decide_eq_true (by omega)
  obtain ⟨y, hy0, hy⟩ : ∃ y : Nat, (x : Int).tmod 100000000 = (y : Int) ∧ Hid (y = x % 100000000) := ⟨x % 100000000, by rw [Int.tmod_eq_emod_of_nonneg (by omega)]; omega, rfl⟩
  obtain ⟨z, hz0, hz⟩ : ∃ z : Nat, (x : Int).tdiv 100000000 = (z : Int) ∧ Hid (z = x / 100000000) := ⟨x / 100000000, by rw [Int.tdiv_eq_ediv_of_nonneg (by omega)]; omega, rfl⟩
  obtain ⟨p, hp0, hp⟩ : ∃ p : Nat, (y : Int).tdiv 10000 = (p : Int) ∧ Hid (p = y / 10000) := ⟨y / 10000, by rw [Int.tdiv_eq_ediv_of_nonneg (by omega)]; omega, rfl⟩
  obtain ⟨q, hq0, hq⟩ : ∃ q : Nat, (y : Int).tmod 10000 = (q : Int) ∧ Hid (q = y % 10000) := ⟨y % 10000, by rw [Int.tmod_eq_emod_of_nonneg (by omega)]; omega, rfl⟩
  obtain ⟨p1, hp10, hp1⟩ : ∃ p1 : Nat, (p : Int).tdiv 100 = (p1 : Int) ∧ Hid (p1 = p / 100) := ⟨p / 100, by rw [Int.tdiv_eq_ediv_of_nonneg (by omega)]; omega, rfl⟩
  obtain ⟨p0, hp00, hp0'⟩ : ∃ p0 : Nat, (p : Int).tmod 100 = (p0 : Int) ∧ Hid (p0 = p % 100) := ⟨p % 100, by rw [Int.tmod_eq_emod_of_nonneg (by omega)]; omega, rfl⟩
  obtain ⟨q1, hq10, hq1⟩ : ∃ q1 : Nat, (q : Int).tdiv 100 = (q1 : Int) ∧ Hid (q1 = q / 100) := ⟨q / 100, by rw [Int.tdiv_eq_ediv_of_nonneg (by omega)]; omega, rfl⟩
  obtain ⟨q0, hq00, hq0'⟩ : ∃ q0 : Nat, (q : Int).tmod 100 = (q0 : Int) ∧ Hid (q0 = q % 100) := ⟨q % 100, by rw [Int.tmod_eq_emod_of_nonneg (by omega)]; omega, rfl⟩
  unfold Hid at hy hz hp hq hp1 hp0' hq1 hq0'
  have wy : IntKind.u32.wrap (y : Int) = (y : Int) := by simp [IntKind.wrap, IntKind.bits, IntKind.signed]; omega
  have wz : IntKind.u64.wrap (z : Int) = (z : Int) := by simp [IntKind.wrap, IntKind.bits, IntKind.signed]; omega
  have wp : IntKind.u32.wrap (p : Int) = (p : Int) := by simp [IntKind.wrap, IntKind.bits, IntKind.signed]; omega
  have wq : IntKind.u32.wrap (q : Int) = (q : Int) := by simp [IntKind.wrap, IntKind.bits, IntKind.signed]; omega
  have wp1 : IntKind.u32.wrap (p1 : Int) = (p1 : Int) := by simp [IntKind.wrap, IntKind.bits, IntKind.signed]; omega
  have wq1 : IntKind.u32.wrap (q1 : Int) = (q1 : Int) := by simp [IntKind.wrap, IntKind.bits, IntKind.signed]; omega
  have l1 : p1 < 100 := by omega
  have l2 : p0 < 100 := by omega
  have l3 : q1 < 100 := by omega
  have l4 : q0 < 100 := by omega
  have fb : ∀ k : Nat, k < 100 → IntKind.u32.wrap ((k : Int) * 2) = (k : Int) * 2 ∧ IntKind.u32.wrap ((k : Int) * 2 + 1) = (k : Int) * 2 + 1 := fun k hk => by
    constructor <;> (simp [IntKind.wrap, IntKind.bits, IntKind.signed]; omega)
  obtain ⟨m1, m1'⟩ := fb p1 l1
  obtain ⟨m2, m2'⟩ := fb p0 l2
  obtain ⟨m3, m3'⟩ := fb q1 l3
  obtain ⟨m4, m4'⟩ := fb q0 l4
  clear fb
  change Hid (y = x % 100000000) at hy
  change Hid (z = x / 100000000) at hz
  change Hid (p = y / 10000) at hp
  change Hid (q = y % 10000) at hq
  change Hid (p1 = p / 100) at hp1
  change Hid (p0 = p % 100) at hp0'
  change Hid (q1 = q / 100) at hq1
  change Hid (q0 = q % 100) at hq0'
  have dg : ∀ k : Nat, ∃ e : Nat, Hid (e = 48 + k % 10) := fun k => ⟨_, rfl⟩
  have dh : ∀ k : Nat, ∃ e : Nat, Hid (e = 48 + k / 10 % 10) := fun k => ⟨_, rfl⟩
  obtain ⟨e1, he1⟩ := dg q0
  obtain ⟨e2, he2⟩ := dh q0
  obtain ⟨e3, he3⟩ := dg q1
  obtain ⟨e4, he4⟩ := dh q1
  obtain ⟨e5, he5⟩ := dg p0
  obtain ⟨e6, he6⟩ := dh p0
  obtain ⟨e7, he7⟩ := dg p1
  obtain ⟨e8, he8⟩ := dh p1
  clear dg dh
  have hnL : n ≤ L := hF.2.1
  obtain ⟨n1, wn1, b1, hn1⟩ : ∃ m : Nat, IntKind.i64.wrap ((n : Int) - 1) = (m : Int) ∧ m < L ∧ Hid (m = n - 1) := ⟨n - 1, by simp [IntKind.wrap, IntKind.bits, IntKind.signed]; omega, by omega, rfl⟩
  obtain ⟨n2, wn2, b2, hn2⟩ : ∃ m : Nat, IntKind.i64.wrap ((n : Int) - 2) = (m : Int) ∧ m < L ∧ Hid (m = n - 2) := ⟨n - 2, by simp [IntKind.wrap, IntKind.bits, IntKind.signed]; omega, by omega, rfl⟩
  obtain ⟨n3, wn3, b3, hn3⟩ : ∃ m : Nat, IntKind.i64.wrap ((n : Int) - 3) = (m : Int) ∧ m < L ∧ Hid (m = n - 3) := ⟨n - 3, by simp [IntKind.wrap, IntKind.bits, IntKind.signed]; omega, by omega, rfl⟩
  obtain ⟨n4, wn4, b4, hn4⟩ : ∃ m : Nat, IntKind.i64.wrap ((n : Int) - 4) = (m : Int) ∧ m < L ∧ Hid (m = n - 4) := ⟨n - 4, by simp [IntKind.wrap, IntKind.bits, IntKind.signed]; omega, by omega, rfl⟩
  obtain ⟨n5, wn5, b5, hn5⟩ : ∃ m : Nat, IntKind.i64.wrap ((n : Int) - 5) = (m : Int) ∧ m < L ∧ Hid (m = n - 5) := ⟨n - 5, by simp [IntKind.wrap, IntKind.bits, IntKind.signed]; omega, by omega, rfl⟩
  obtain ⟨n6, wn6, b6, hn6⟩ : ∃ m : Nat, IntKind.i64.wrap ((n : Int) - 6) = (m : Int) ∧ m < L ∧ Hid (m = n - 6) := ⟨n - 6, by simp [IntKind.wrap, IntKind.bits, IntKind.signed]; omega, by omega, rfl⟩
  obtain ⟨n7, wn7, b7, hn7⟩ : ∃ m : Nat, IntKind.i64.wrap ((n : Int) - 7) = (m : Int) ∧ m < L ∧ Hid (m = n - 7) := ⟨n - 7, by simp [IntKind.wrap, IntKind.bits, IntKind.signed]; omega, by omega, rfl⟩
  obtain ⟨n8, wn8, b8, hn8⟩ : ∃ m : Nat, IntKind.i64.wrap ((n : Int) - 8) = (m : Int) ∧ m < L ∧ Hid (m = n - 8) := ⟨n - 8, by simp [IntKind.wrap, IntKind.bits, IntKind.signed]; omega, by omega, rfl⟩
  have hB := hF.bk
  repeat (first
    | ((with_reducible refine lst_free ?_ ?_ (fun K hK => ?_)); (focus with_reducible rfl); (focus (intro ht; refine fine_none ?_ ht; (focus (first | (with_reducible apply only_idle); (focus decide) | (with_reducible apply only_turn); (focus rfl); (focus rfl); (focus kernel_rfl) | exact only_calc rfl rfl rfl | exact only_check rfl rfl | exact only_cap rfl rfl | exact only_min rfl rfl rfl | exact only_max rfl rfl rfl)))); go_simp; refine hK _ _ _ ?_; clear hK K)
    | ((with_reducible refine lst_off (i := ?_) (b := ?_) (d := ?_) ?_ ?_ ?_ ?_); rotate_left 3; (focus with_reducible rfl); (focus rfl); (focus (simp only [List.getElem?_toArray, List.getElem?_cons_succ, List.getElem?_cons_zero, Bool.not_true, Bool.not_false])); simp only [Act.put, List.setIfInBounds_toArray, List.set_cons_zero, List.set_cons_succ])
    | ((with_reducible refine lst_on (i := ?_) (b := ?_) (d := ?_) ?_ ?_ ?_ ?_ (fun K hK => ?_)); rotate_left 3; (focus with_reducible rfl); (focus rfl); (focus (simp only [List.getElem?_toArray, List.getElem?_cons_succ, List.getElem?_cons_zero])); (focus (intro ht; refine fine_none ?_ ht; (focus (first | (with_reducible apply only_idle); (focus decide) | (with_reducible apply only_turn); (focus rfl); (focus rfl); (focus kernel_rfl) | exact only_calc rfl rfl rfl | exact only_check rfl rfl | exact only_cap rfl rfl | exact only_min rfl rfl rfl | exact only_max rfl rfl rfl)))); go_simp; refine hK _ _ _ ?_; clear hK K)
    | ((with_reducible refine lst_undef (i := ?_) (b := ?_) (d := ?_) ?_ ?_ ?_ ?_); rotate_left 3; (focus with_reducible rfl); (focus rfl); (focus (simp only [List.getElem?_toArray, List.getElem?_cons_succ, List.getElem?_cons_zero])); simp only [Act.put, List.setIfInBounds_toArray, List.set_cons_zero, List.set_cons_succ])
    | (with_reducible apply lst_nil)
    | ((fail_if_success (with_reducible refine lst_any ?_)); first
    | (with_reducible apply j_seq) | (with_reducible apply j_block) | (with_reducible apply j_ret) | (with_reducible apply j_skip) | (with_reducible apply j_exit) | (with_reducible apply j_label) | (with_reducible apply j_region_lit)
    | ((with_reducible refine j_true ?_ ?_); (focus rfl)) | ((with_reducible refine j_false ?_ ?_); (focus rfl))
    | (with_reducible show Then _ _ _ _ _ _; simp only [Then])
    | (with_reducible show InBlock _ _ _ _ _ _; simp only [InBlock, ↓reduceIte, Nat.reduceEqDiff])))
  refine j_region_dl [0, 0, 2, 0, 0, 16, 0, 64, 192, 0, 512, 455, 2503, 8191, 16383] [0, 1, 2, 3, 4, 5, 6, 7, 8, 9, 10, 11, 12, 13, 14] (fun _ => True) rfl (by decide +kernel) (by repeat (first | assumption | exact loose_body | (with_reducible apply loose_then) | (with_reducible apply loose_block) | (with_reducible apply loose_noGoto) | (with_reducible apply loose_jump))) ?_ ?_
  focus trivial
  repeat (first
    | (with_reducible apply dl_nil)
    | ((with_reducible apply dl_skip); (focus rfl); (focus rfl); (focus trivial); simp only [Act.put, List.setIfInBounds_toArray, List.set_cons_zero, List.set_cons_succ])
    | ((with_reducible apply dl_calm); (focus rfl); (focus rfl); (focus rfl); (focus (first | (with_reducible apply only_idle); (focus decide) | (with_reducible apply only_turn); (focus rfl); (focus rfl); (focus kernel_rfl) | exact only_calc rfl rfl rfl | exact only_check rfl rfl | exact only_cap rfl rfl | exact only_min rfl rfl rfl | exact only_max rfl rfl rfl)); (focus (intro wS hS;  go_simp; try rfl)); simp only [Act.put, List.setIfInBounds_toArray, List.set_cons_zero, List.set_cons_succ])
    | (with_reducible show Then _ _ _ _ _ _; simp only [Then])
    | (with_reducible show InBlock _ _ _ _ _ _; simp only [InBlock, ↓reduceIte, Nat.reduceEqDiff]))
  refine dl_calm (o := ?_) (v := .int .u8 ((e1 : Nat) : Int)) ?_ ?_ ?_ ?_ ?_ ?_
  rotate_left 1
  focus rfl
  focus rfl
  focus rfl
  focus (first | (with_reducible apply only_idle); (focus decide) | (with_reducible apply only_turn); (focus rfl); (focus rfl); (focus kernel_rfl) | exact only_calc rfl rfl rfl | exact only_check rfl rfl | exact only_cap rfl rfl | exact only_min rfl rfl rfl | exact only_max rfl rfl rfl)
  focus exact fun wS _ => exec_smalls1 (y := (.tmp 49)) rfl (by kernel_rfl) rfl l4 he1
  simp only [Act.put, List.setIfInBounds_toArray, List.set_cons_zero, List.set_cons_succ]
  repeat (first
    | (with_reducible apply dl_nil)
    | ((with_reducible apply dl_skip); (focus rfl); (focus rfl); (focus trivial); simp only [Act.put, List.setIfInBounds_toArray, List.set_cons_zero, List.set_cons_succ])
    | ((with_reducible apply dl_calm); (focus rfl); (focus rfl); (focus rfl); (focus (first | (with_reducible apply only_idle); (focus decide) | (with_reducible apply only_turn); (focus rfl); (focus rfl); (focus kernel_rfl) | exact only_calc rfl rfl rfl | exact only_check rfl rfl | exact only_cap rfl rfl | exact only_min rfl rfl rfl | exact only_max rfl rfl rfl)); (focus (intro wS hS;  go_simp; try rfl)); simp only [Act.put, List.setIfInBounds_toArray, List.set_cons_zero, List.set_cons_succ])
    | (with_reducible show Then _ _ _ _ _ _; simp only [Then])
    | (with_reducible show InBlock _ _ _ _ _ _; simp only [InBlock, ↓reduceIte, Nat.reduceEqDiff]))
  refine dl_calm (o := ?_) (v := .int .u8 ((e2 : Nat) : Int)) ?_ ?_ ?_ ?_ ?_ ?_
  rotate_left 1
  focus rfl
  focus rfl
  focus rfl
  focus (first | (with_reducible apply only_idle); (focus decide) | (with_reducible apply only_turn); (focus rfl); (focus rfl); (focus kernel_rfl) | exact only_calc rfl rfl rfl | exact only_check rfl rfl | exact only_cap rfl rfl | exact only_min rfl rfl rfl | exact only_max rfl rfl rfl)
  focus exact fun wS _ => exec_smalls0 (y := (.tmp 51)) rfl (by kernel_rfl) rfl l4 he2
  simp only [Act.put, List.setIfInBounds_toArray, List.set_cons_zero, List.set_cons_succ]
  repeat (first
    | (with_reducible apply dl_nil)
    | ((with_reducible apply dl_skip); (focus rfl); (focus rfl); (focus trivial); simp only [Act.put, List.setIfInBounds_toArray, List.set_cons_zero, List.set_cons_succ])
    | ((with_reducible apply dl_calm); (focus rfl); (focus rfl); (focus rfl); (focus (first | (with_reducible apply only_idle); (focus decide) | (with_reducible apply only_turn); (focus rfl); (focus rfl); (focus kernel_rfl) | exact only_calc rfl rfl rfl | exact only_check rfl rfl | exact only_cap rfl rfl | exact only_min rfl rfl rfl | exact only_max rfl rfl rfl)); (focus (intro wS hS;  go_simp; try rfl)); simp only [Act.put, List.setIfInBounds_toArray, List.set_cons_zero, List.set_cons_succ])
    | (with_reducible show Then _ _ _ _ _ _; simp only [Then])
    | (with_reducible show InBlock _ _ _ _ _ _; simp only [InBlock, ↓reduceIte, Nat.reduceEqDiff]))
  obtain ⟨v1, k1⟩ := hB.cell (i := o + n1) (by omega)
  have z1 := hB.frozen (o + n1)
  refine dl_act (o := ?_) ?_ ?_ ?_ ?_ (fun K hK => ?_)
  rotate_left 1
  focus rfl
  focus rfl
  focus rfl
  focus exact fun ht => fine_store rfl rfl k1 hg ht
  go_simp
  refine hK _ _ _ ⟨fun _ => True, trivial, fun _ => rfl, ?_⟩
  clear hK K
  have hB1 := hB.set (o + n1) (.int .u8 (e1 : Int))
  obtain ⟨v2, k2⟩ := hB1.cell (i := o + n2) (by omega)
  clear k1 z1
  have z2 := hB1.frozen (o + n2)
  repeat (first
    | (with_reducible apply dl_nil)
    | ((with_reducible apply dl_skip); (focus rfl); (focus rfl); (focus trivial); simp only [Act.put, List.setIfInBounds_toArray, List.set_cons_zero, List.set_cons_succ])
    | ((with_reducible apply dl_calm); (focus rfl); (focus rfl); (focus rfl); (focus (first | (with_reducible apply only_idle); (focus decide) | (with_reducible apply only_turn); (focus rfl); (focus rfl); (focus kernel_rfl) | exact only_calc rfl rfl rfl | exact only_check rfl rfl | exact only_cap rfl rfl | exact only_min rfl rfl rfl | exact only_max rfl rfl rfl)); (focus (intro wS hS;  go_simp; try rfl)); simp only [Act.put, List.setIfInBounds_toArray, List.set_cons_zero, List.set_cons_succ])
    | (with_reducible show Then _ _ _ _ _ _; simp only [Then])
    | (with_reducible show InBlock _ _ _ _ _ _; simp only [InBlock, ↓reduceIte, Nat.reduceEqDiff]))
  refine dl_act (o := ?_) ?_ ?_ ?_ ?_ (fun K hK => ?_)
  rotate_left 1
  focus rfl
  focus rfl
  focus rfl
  focus exact fun ht => fine_store rfl rfl k2 hg ht
  go_simp
  refine hK _ _ _ ⟨fun _ => True, trivial, fun _ => rfl, ?_⟩
  clear hK K
  clear k2 z2
  repeat (first
    | (with_reducible apply dl_nil)
    | ((with_reducible apply dl_skip); (focus rfl); (focus rfl); (focus trivial); simp only [Act.put, List.setIfInBounds_toArray, List.set_cons_zero, List.set_cons_succ])
    | ((with_reducible apply dl_calm); (focus rfl); (focus rfl); (focus rfl); (focus (first | (with_reducible apply only_idle); (focus decide) | (with_reducible apply only_turn); (focus rfl); (focus rfl); (focus kernel_rfl) | exact only_calc rfl rfl rfl | exact only_check rfl rfl | exact only_cap rfl rfl | exact only_min rfl rfl rfl | exact only_max rfl rfl rfl)); (focus (intro wS hS;  go_simp; try rfl)); simp only [Act.put, List.setIfInBounds_toArray, List.set_cons_zero, List.set_cons_succ])
    | (with_reducible show Then _ _ _ _ _ _; simp only [Then])
    | (with_reducible show InBlock _ _ _ _ _ _; simp only [InBlock, ↓reduceIte, Nat.reduceEqDiff]))
  repeat (first
    | ((with_reducible refine lst_free ?_ ?_ (fun K hK => ?_)); (focus with_reducible rfl); (focus (intro ht; refine fine_none ?_ ht; (focus (first | (with_reducible apply only_idle); (focus decide) | (with_reducible apply only_turn); (focus rfl); (focus rfl); (focus kernel_rfl) | exact only_calc rfl rfl rfl | exact only_check rfl rfl | exact only_cap rfl rfl | exact only_min rfl rfl rfl | exact only_max rfl rfl rfl)))); go_simp; refine hK _ _ _ ?_; clear hK K)
    | ((with_reducible refine lst_off (i := ?_) (b := ?_) (d := ?_) ?_ ?_ ?_ ?_); rotate_left 3; (focus with_reducible rfl); (focus rfl); (focus (simp only [List.getElem?_toArray, List.getElem?_cons_succ, List.getElem?_cons_zero, Bool.not_true, Bool.not_false])); simp only [Act.put, List.setIfInBounds_toArray, List.set_cons_zero, List.set_cons_succ])
    | ((with_reducible refine lst_on (i := ?_) (b := ?_) (d := ?_) ?_ ?_ ?_ ?_ (fun K hK => ?_)); rotate_left 3; (focus with_reducible rfl); (focus rfl); (focus (simp only [List.getElem?_toArray, List.getElem?_cons_succ, List.getElem?_cons_zero])); (focus (intro ht; refine fine_none ?_ ht; (focus (first | (with_reducible apply only_idle); (focus decide) | (with_reducible apply only_turn); (focus rfl); (focus rfl); (focus kernel_rfl) | exact only_calc rfl rfl rfl | exact only_check rfl rfl | exact only_cap rfl rfl | exact only_min rfl rfl rfl | exact only_max rfl rfl rfl)))); go_simp; refine hK _ _ _ ?_; clear hK K)
    | ((with_reducible refine lst_undef (i := ?_) (b := ?_) (d := ?_) ?_ ?_ ?_ ?_); rotate_left 3; (focus with_reducible rfl); (focus rfl); (focus (simp only [List.getElem?_toArray, List.getElem?_cons_succ, List.getElem?_cons_zero])); simp only [Act.put, List.setIfInBounds_toArray, List.set_cons_zero, List.set_cons_succ])
    | (with_reducible apply lst_nil)
    | ((fail_if_success (with_reducible refine lst_any ?_)); first
    | (with_reducible apply j_seq) | (with_reducible apply j_block) | (with_reducible apply j_ret) | (with_reducible apply j_skip) | (with_reducible apply j_exit) | (with_reducible apply j_label) | (with_reducible apply j_region_lit)
    | ((with_reducible refine j_true ?_ ?_); (focus rfl)) | ((with_reducible refine j_false ?_ ?_); (focus rfl))
    | (with_reducible show Then _ _ _ _ _ _; simp only [Then])
    | (with_reducible show InBlock _ _ _ _ _ _; simp only [InBlock, ↓reduceIte, Nat.reduceEqDiff])))
  have hF' := hF.two2 (n1 := n1) (n2 := n2) (e1 := e1) (e0 := e2) (by unfold Hid at *; omega) (by unfold Hid at *; omega) (by unfold Hid at *; omega) (by unfold Hid at *; omega) (by unfold Hid at *; omega)
  have hC' := ((hC.set_ (p := ⟨g, o + n1, none⟩) rfl (.int .u8 (e1 : Int))).set_ (p := ⟨g, o + n2, none⟩) rfl (.int .u8 (e2 : Int))).drew
  generalize ((W.setCell ⟨g, o + n1, none⟩ (.int .u8 (e1 : Int))).setCell ⟨g, o + n2, none⟩ (.int .u8 (e2 : Int))).drew = W at hF' hC' ⊢
  clear hB hB1 hF hC
  have hF := hF'
  have hC := hC'
  clear hF' hC'
  have hB := hF.bk
  refine j_region_dl [0, 0, 2, 0, 0, 16, 0, 64, 192, 0, 512, 455, 2503, 8191, 16383] [0, 1, 2, 3, 4, 5, 6, 7, 8, 9, 10, 11, 12, 13, 14] (fun _ => True) rfl (by decide +kernel) (by repeat (first | assumption | exact loose_body | (with_reducible apply loose_then) | (with_reducible apply loose_block) | (with_reducible apply loose_noGoto) | (with_reducible apply loose_jump))) ?_ ?_
  focus trivial
  repeat (first
    | (with_reducible apply dl_nil)
    | ((with_reducible apply dl_skip); (focus rfl); (focus rfl); (focus trivial); simp only [Act.put, List.setIfInBounds_toArray, List.set_cons_zero, List.set_cons_succ])
    | ((with_reducible apply dl_calm); (focus rfl); (focus rfl); (focus rfl); (focus (first | (with_reducible apply only_idle); (focus decide) | (with_reducible apply only_turn); (focus rfl); (focus rfl); (focus kernel_rfl) | exact only_calc rfl rfl rfl | exact only_check rfl rfl | exact only_cap rfl rfl | exact only_min rfl rfl rfl | exact only_max rfl rfl rfl)); (focus (intro wS hS;  go_simp; try rfl)); simp only [Act.put, List.setIfInBounds_toArray, List.set_cons_zero, List.set_cons_succ])
    | (with_reducible show Then _ _ _ _ _ _; simp only [Then])
    | (with_reducible show InBlock _ _ _ _ _ _; simp only [InBlock, ↓reduceIte, Nat.reduceEqDiff]))
  refine dl_calm (o := ?_) (v := .int .u8 ((e3 : Nat) : Int)) ?_ ?_ ?_ ?_ ?_ ?_
  rotate_left 1
  focus rfl
  focus rfl
  focus rfl
  focus (first | (with_reducible apply only_idle); (focus decide) | (with_reducible apply only_turn); (focus rfl); (focus rfl); (focus kernel_rfl) | exact only_calc rfl rfl rfl | exact only_check rfl rfl | exact only_cap rfl rfl | exact only_min rfl rfl rfl | exact only_max rfl rfl rfl)
  focus exact fun wS _ => exec_smalls1 (y := (.tmp 62)) rfl (by kernel_rfl) rfl l3 he3
  simp only [Act.put, List.setIfInBounds_toArray, List.set_cons_zero, List.set_cons_succ]
  repeat (first
    | (with_reducible apply dl_nil)
    | ((with_reducible apply dl_skip); (focus rfl); (focus rfl); (focus trivial); simp only [Act.put, List.setIfInBounds_toArray, List.set_cons_zero, List.set_cons_succ])
    | ((with_reducible apply dl_calm); (focus rfl); (focus rfl); (focus rfl); (focus (first | (with_reducible apply only_idle); (focus decide) | (with_reducible apply only_turn); (focus rfl); (focus rfl); (focus kernel_rfl) | exact only_calc rfl rfl rfl | exact only_check rfl rfl | exact only_cap rfl rfl | exact only_min rfl rfl rfl | exact only_max rfl rfl rfl)); (focus (intro wS hS;  go_simp; try rfl)); simp only [Act.put, List.setIfInBounds_toArray, List.set_cons_zero, List.set_cons_succ])
    | (with_reducible show Then _ _ _ _ _ _; simp only [Then])
    | (with_reducible show InBlock _ _ _ _ _ _; simp only [InBlock, ↓reduceIte, Nat.reduceEqDiff]))
  refine dl_calm (o := ?_) (v := .int .u8 ((e4 : Nat) : Int)) ?_ ?_ ?_ ?_ ?_ ?_
  rotate_left 1
  focus rfl
  focus rfl
  focus rfl
  focus (first | (with_reducible apply only_idle); (focus decide) | (with_reducible apply only_turn); (focus rfl); (focus rfl); (focus kernel_rfl) | exact only_calc rfl rfl rfl | exact only_check rfl rfl | exact only_cap rfl rfl | exact only_min rfl rfl rfl | exact only_max rfl rfl rfl)
  focus exact fun wS _ => exec_smalls0 (y := (.tmp 64)) rfl (by kernel_rfl) rfl l3 he4
  simp only [Act.put, List.setIfInBounds_toArray, List.set_cons_zero, List.set_cons_succ]
  repeat (first
    | (with_reducible apply dl_nil)
    | ((with_reducible apply dl_skip); (focus rfl); (focus rfl); (focus trivial); simp only [Act.put, List.setIfInBounds_toArray, List.set_cons_zero, List.set_cons_succ])
    | ((with_reducible apply dl_calm); (focus rfl); (focus rfl); (focus rfl); (focus (first | (with_reducible apply only_idle); (focus decide) | (with_reducible apply only_turn); (focus rfl); (focus rfl); (focus kernel_rfl) | exact only_calc rfl rfl rfl | exact only_check rfl rfl | exact only_cap rfl rfl | exact only_min rfl rfl rfl | exact only_max rfl rfl rfl)); (focus (intro wS hS;  go_simp; try rfl)); simp only [Act.put, List.setIfInBounds_toArray, List.set_cons_zero, List.set_cons_succ])
    | (with_reducible show Then _ _ _ _ _ _; simp only [Then])
    | (with_reducible show InBlock _ _ _ _ _ _; simp only [InBlock, ↓reduceIte, Nat.reduceEqDiff]))
  obtain ⟨v1, k1⟩ := hB.cell (i := o + n3) (by omega)
  have z1 := hB.frozen (o + n3)
  refine dl_act (o := ?_) ?_ ?_ ?_ ?_ (fun K hK => ?_)
  rotate_left 1
  focus rfl
  focus rfl
  focus rfl
  focus exact fun ht => fine_store rfl rfl k1 hg ht
  go_simp
  refine hK _ _ _ ⟨fun _ => True, trivial, fun _ => rfl, ?_⟩
  clear hK K
  have hB1 := hB.set (o + n3) (.int .u8 (e3 : Int))
  obtain ⟨v2, k2⟩ := hB1.cell (i := o + n4) (by omega)
  clear k1 z1
  have z2 := hB1.frozen (o + n4)
  repeat (first
    | (with_reducible apply dl_nil)
    | ((with_reducible apply dl_skip); (focus rfl); (focus rfl); (focus trivial); simp only [Act.put, List.setIfInBounds_toArray, List.set_cons_zero, List.set_cons_succ])
    | ((with_reducible apply dl_calm); (focus rfl); (focus rfl); (focus rfl); (focus (first | (with_reducible apply only_idle); (focus decide) | (with_reducible apply only_turn); (focus rfl); (focus rfl); (focus kernel_rfl) | exact only_calc rfl rfl rfl | exact only_check rfl rfl | exact only_cap rfl rfl | exact only_min rfl rfl rfl | exact only_max rfl rfl rfl)); (focus (intro wS hS;  go_simp; try rfl)); simp only [Act.put, List.setIfInBounds_toArray, List.set_cons_zero, List.set_cons_succ])
    | (with_reducible show Then _ _ _ _ _ _; simp only [Then])
    | (with_reducible show InBlock _ _ _ _ _ _; simp only [InBlock, ↓reduceIte, Nat.reduceEqDiff]))
  refine dl_act (o := ?_) ?_ ?_ ?_ ?_ (fun K hK => ?_)
  rotate_left 1
  focus rfl
  focus rfl
  focus rfl
  focus exact fun ht => fine_store rfl rfl k2 hg ht
  go_simp
  refine hK _ _ _ ⟨fun _ => True, trivial, fun _ => rfl, ?_⟩
  clear hK K
  clear k2 z2
  repeat (first
    | (with_reducible apply dl_nil)
    | ((with_reducible apply dl_skip); (focus rfl); (focus rfl); (focus trivial); simp only [Act.put, List.setIfInBounds_toArray, List.set_cons_zero, List.set_cons_succ])
    | ((with_reducible apply dl_calm); (focus rfl); (focus rfl); (focus rfl); (focus (first | (with_reducible apply only_idle); (focus decide) | (with_reducible apply only_turn); (focus rfl); (focus rfl); (focus kernel_rfl) | exact only_calc rfl rfl rfl | exact only_check rfl rfl | exact only_cap rfl rfl | exact only_min rfl rfl rfl | exact only_max rfl rfl rfl)); (focus (intro wS hS;  go_simp; try rfl)); simp only [Act.put, List.setIfInBounds_toArray, List.set_cons_zero, List.set_cons_succ])
    | (with_reducible show Then _ _ _ _ _ _; simp only [Then])
    | (with_reducible show InBlock _ _ _ _ _ _; simp only [InBlock, ↓reduceIte, Nat.reduceEqDiff]))
  repeat (first
    | ((with_reducible refine lst_free ?_ ?_ (fun K hK => ?_)); (focus with_reducible rfl); (focus (intro ht; refine fine_none ?_ ht; (focus (first | (with_reducible apply only_idle); (focus decide) | (with_reducible apply only_turn); (focus rfl); (focus rfl); (focus kernel_rfl) | exact only_calc rfl rfl rfl | exact only_check rfl rfl | exact only_cap rfl rfl | exact only_min rfl rfl rfl | exact only_max rfl rfl rfl)))); go_simp; refine hK _ _ _ ?_; clear hK K)
    | ((with_reducible refine lst_off (i := ?_) (b := ?_) (d := ?_) ?_ ?_ ?_ ?_); rotate_left 3; (focus with_reducible rfl); (focus rfl); (focus (simp only [List.getElem?_toArray, List.getElem?_cons_succ, List.getElem?_cons_zero, Bool.not_true, Bool.not_false])); simp only [Act.put, List.setIfInBounds_toArray, List.set_cons_zero, List.set_cons_succ])
    | ((with_reducible refine lst_on (i := ?_) (b := ?_) (d := ?_) ?_ ?_ ?_ ?_ (fun K hK => ?_)); rotate_left 3; (focus with_reducible rfl); (focus rfl); (focus (simp only [List.getElem?_toArray, List.getElem?_cons_succ, List.getElem?_cons_zero])); (focus (intro ht; refine fine_none ?_ ht; (focus (first | (with_reducible apply only_idle); (focus decide) | (with_reducible apply only_turn); (focus rfl); (focus rfl); (focus kernel_rfl) | exact only_calc rfl rfl rfl | exact only_check rfl rfl | exact only_cap rfl rfl | exact only_min rfl rfl rfl | exact only_max rfl rfl rfl)))); go_simp; refine hK _ _ _ ?_; clear hK K)
    | ((with_reducible refine lst_undef (i := ?_) (b := ?_) (d := ?_) ?_ ?_ ?_ ?_); rotate_left 3; (focus with_reducible rfl); (focus rfl); (focus (simp only [List.getElem?_toArray, List.getElem?_cons_succ, List.getElem?_cons_zero])); simp only [Act.put, List.setIfInBounds_toArray, List.set_cons_zero, List.set_cons_succ])
    | (with_reducible apply lst_nil)
    | ((fail_if_success (with_reducible refine lst_any ?_)); first
    | (with_reducible apply j_seq) | (with_reducible apply j_block) | (with_reducible apply j_ret) | (with_reducible apply j_skip) | (with_reducible apply j_exit) | (with_reducible apply j_label) | (with_reducible apply j_region_lit)
    | ((with_reducible refine j_true ?_ ?_); (focus rfl)) | ((with_reducible refine j_false ?_ ?_); (focus rfl))
    | (with_reducible show Then _ _ _ _ _ _; simp only [Then])
    | (with_reducible show InBlock _ _ _ _ _ _; simp only [InBlock, ↓reduceIte, Nat.reduceEqDiff])))
  have hF' := hF.two2 (n1 := n3) (n2 := n4) (e1 := e3) (e0 := e4) (by unfold Hid at *; omega) (by unfold Hid at *; omega) (by unfold Hid at *; omega) (by unfold Hid at *; omega) (by unfold Hid at *; omega)
  have hC' := ((hC.set_ (p := ⟨g, o + n3, none⟩) rfl (.int .u8 (e3 : Int))).set_ (p := ⟨g, o + n4, none⟩) rfl (.int .u8 (e4 : Int))).drew
  generalize ((W.setCell ⟨g, o + n3, none⟩ (.int .u8 (e3 : Int))).setCell ⟨g, o + n4, none⟩ (.int .u8 (e4 : Int))).drew = W at hF' hC' ⊢
  clear hB hB1 hF hC
  have hF := hF'
  have hC := hC'
  clear hF' hC'
  have hB := hF.bk
  refine j_region_dl [0, 0, 2, 0, 0, 16, 0, 64, 192, 0, 512, 455, 2503, 8191, 16383] [0, 1, 2, 3, 4, 5, 6, 7, 8, 9, 10, 11, 12, 13, 14] (fun _ => True) rfl (by decide +kernel) (by repeat (first | assumption | exact loose_body | (with_reducible apply loose_then) | (with_reducible apply loose_block) | (with_reducible apply loose_noGoto) | (with_reducible apply loose_jump))) ?_ ?_
  focus trivial
  repeat (first
    | (with_reducible apply dl_nil)
    | ((with_reducible apply dl_skip); (focus rfl); (focus rfl); (focus trivial); simp only [Act.put, List.setIfInBounds_toArray, List.set_cons_zero, List.set_cons_succ])
    | ((with_reducible apply dl_calm); (focus rfl); (focus rfl); (focus rfl); (focus (first | (with_reducible apply only_idle); (focus decide) | (with_reducible apply only_turn); (focus rfl); (focus rfl); (focus kernel_rfl) | exact only_calc rfl rfl rfl | exact only_check rfl rfl | exact only_cap rfl rfl | exact only_min rfl rfl rfl | exact only_max rfl rfl rfl)); (focus (intro wS hS;  go_simp; try rfl)); simp only [Act.put, List.setIfInBounds_toArray, List.set_cons_zero, List.set_cons_succ])
    | (with_reducible show Then _ _ _ _ _ _; simp only [Then])
    | (with_reducible show InBlock _ _ _ _ _ _; simp only [InBlock, ↓reduceIte, Nat.reduceEqDiff]))
  refine dl_calm (o := ?_) (v := .int .u8 ((e5 : Nat) : Int)) ?_ ?_ ?_ ?_ ?_ ?_
  rotate_left 1
  focus rfl
  focus rfl
  focus rfl
  focus (first | (with_reducible apply only_idle); (focus decide) | (with_reducible apply only_turn); (focus rfl); (focus rfl); (focus kernel_rfl) | exact only_calc rfl rfl rfl | exact only_check rfl rfl | exact only_cap rfl rfl | exact only_min rfl rfl rfl | exact only_max rfl rfl rfl)
  focus exact fun wS _ => exec_smalls1 (y := (.tmp 75)) rfl (by kernel_rfl) rfl l2 he5
  simp only [Act.put, List.setIfInBounds_toArray, List.set_cons_zero, List.set_cons_succ]
  repeat (first
    | (with_reducible apply dl_nil)
    | ((with_reducible apply dl_skip); (focus rfl); (focus rfl); (focus trivial); simp only [Act.put, List.setIfInBounds_toArray, List.set_cons_zero, List.set_cons_succ])
    | ((with_reducible apply dl_calm); (focus rfl); (focus rfl); (focus rfl); (focus (first | (with_reducible apply only_idle); (focus decide) | (with_reducible apply only_turn); (focus rfl); (focus rfl); (focus kernel_rfl) | exact only_calc rfl rfl rfl | exact only_check rfl rfl | exact only_cap rfl rfl | exact only_min rfl rfl rfl | exact only_max rfl rfl rfl)); (focus (intro wS hS;  go_simp; try rfl)); simp only [Act.put, List.setIfInBounds_toArray, List.set_cons_zero, List.set_cons_succ])
    | (with_reducible show Then _ _ _ _ _ _; simp only [Then])
    | (with_reducible show InBlock _ _ _ _ _ _; simp only [InBlock, ↓reduceIte, Nat.reduceEqDiff]))
  refine dl_calm (o := ?_) (v := .int .u8 ((e6 : Nat) : Int)) ?_ ?_ ?_ ?_ ?_ ?_
  rotate_left 1
  focus rfl
  focus rfl
  focus rfl
  focus (first | (with_reducible apply only_idle); (focus decide) | (with_reducible apply only_turn); (focus rfl); (focus rfl); (focus kernel_rfl) | exact only_calc rfl rfl rfl | exact only_check rfl rfl | exact only_cap rfl rfl | exact only_min rfl rfl rfl | exact only_max rfl rfl rfl)
  focus exact fun wS _ => exec_smalls0 (y := (.tmp 77)) rfl (by kernel_rfl) rfl l2 he6
  simp only [Act.put, List.setIfInBounds_toArray, List.set_cons_zero, List.set_cons_succ]
  repeat (first
    | (with_reducible apply dl_nil)
    | ((with_reducible apply dl_skip); (focus rfl); (focus rfl); (focus trivial); simp only [Act.put, List.setIfInBounds_toArray, List.set_cons_zero, List.set_cons_succ])
    | ((with_reducible apply dl_calm); (focus rfl); (focus rfl); (focus rfl); (focus (first | (with_reducible apply only_idle); (focus decide) | (with_reducible apply only_turn); (focus rfl); (focus rfl); (focus kernel_rfl) | exact only_calc rfl rfl rfl | exact only_check rfl rfl | exact only_cap rfl rfl | exact only_min rfl rfl rfl | exact only_max rfl rfl rfl)); (focus (intro wS hS;  go_simp; try rfl)); simp only [Act.put, List.setIfInBounds_toArray, List.set_cons_zero, List.set_cons_succ])
    | (with_reducible show Then _ _ _ _ _ _; simp only [Then])
    | (with_reducible show InBlock _ _ _ _ _ _; simp only [InBlock, ↓reduceIte, Nat.reduceEqDiff]))
  obtain ⟨v1, k1⟩ := hB.cell (i := o + n5) (by omega)
  have z1 := hB.frozen (o + n5)
  refine dl_act (o := ?_) ?_ ?_ ?_ ?_ (fun K hK => ?_)
  rotate_left 1
  focus rfl
  focus rfl
  focus rfl
  focus exact fun ht => fine_store rfl rfl k1 hg ht
  go_simp
  refine hK _ _ _ ⟨fun _ => True, trivial, fun _ => rfl, ?_⟩
  clear hK K
  have hB1 := hB.set (o + n5) (.int .u8 (e5 : Int))
  obtain ⟨v2, k2⟩ := hB1.cell (i := o + n6) (by omega)
  clear k1 z1
  have z2 := hB1.frozen (o + n6)
  repeat (first
    | (with_reducible apply dl_nil)
    | ((with_reducible apply dl_skip); (focus rfl); (focus rfl); (focus trivial); simp only [Act.put, List.setIfInBounds_toArray, List.set_cons_zero, List.set_cons_succ])
    | ((with_reducible apply dl_calm); (focus rfl); (focus rfl); (focus rfl); (focus (first | (with_reducible apply only_idle); (focus decide) | (with_reducible apply only_turn); (focus rfl); (focus rfl); (focus kernel_rfl) | exact only_calc rfl rfl rfl | exact only_check rfl rfl | exact only_cap rfl rfl | exact only_min rfl rfl rfl | exact only_max rfl rfl rfl)); (focus (intro wS hS;  go_simp; try rfl)); simp only [Act.put, List.setIfInBounds_toArray, List.set_cons_zero, List.set_cons_succ])
    | (with_reducible show Then _ _ _ _ _ _; simp only [Then])
    | (with_reducible show InBlock _ _ _ _ _ _; simp only [InBlock, ↓reduceIte, Nat.reduceEqDiff]))
  refine dl_act (o := ?_) ?_ ?_ ?_ ?_ (fun K hK => ?_)
  rotate_left 1
  focus rfl
  focus rfl
  focus rfl
  focus exact fun ht => fine_store rfl rfl k2 hg ht
  go_simp
  refine hK _ _ _ ⟨fun _ => True, trivial, fun _ => rfl, ?_⟩
  clear hK K
  clear k2 z2
  repeat (first
    | (with_reducible apply dl_nil)
    | ((with_reducible apply dl_skip); (focus rfl); (focus rfl); (focus trivial); simp only [Act.put, List.setIfInBounds_toArray, List.set_cons_zero, List.set_cons_succ])
    | ((with_reducible apply dl_calm); (focus rfl); (focus rfl); (focus rfl); (focus (first | (with_reducible apply only_idle); (focus decide) | (with_reducible apply only_turn); (focus rfl); (focus rfl); (focus kernel_rfl) | exact only_calc rfl rfl rfl | exact only_check rfl rfl | exact only_cap rfl rfl | exact only_min rfl rfl rfl | exact only_max rfl rfl rfl)); (focus (intro wS hS;  go_simp; try rfl)); simp only [Act.put, List.setIfInBounds_toArray, List.set_cons_zero, List.set_cons_succ])
    | (with_reducible show Then _ _ _ _ _ _; simp only [Then])
    | (with_reducible show InBlock _ _ _ _ _ _; simp only [InBlock, ↓reduceIte, Nat.reduceEqDiff]))
  repeat (first
    | ((with_reducible refine lst_free ?_ ?_ (fun K hK => ?_)); (focus with_reducible rfl); (focus (intro ht; refine fine_none ?_ ht; (focus (first | (with_reducible apply only_idle); (focus decide) | (with_reducible apply only_turn); (focus rfl); (focus rfl); (focus kernel_rfl) | exact only_calc rfl rfl rfl | exact only_check rfl rfl | exact only_cap rfl rfl | exact only_min rfl rfl rfl | exact only_max rfl rfl rfl)))); go_simp; refine hK _ _ _ ?_; clear hK K)
    | ((with_reducible refine lst_off (i := ?_) (b := ?_) (d := ?_) ?_ ?_ ?_ ?_); rotate_left 3; (focus with_reducible rfl); (focus rfl); (focus (simp only [List.getElem?_toArray, List.getElem?_cons_succ, List.getElem?_cons_zero, Bool.not_true, Bool.not_false])); simp only [Act.put, List.setIfInBounds_toArray, List.set_cons_zero, List.set_cons_succ])
    | ((with_reducible refine lst_on (i := ?_) (b := ?_) (d := ?_) ?_ ?_ ?_ ?_ (fun K hK => ?_)); rotate_left 3; (focus with_reducible rfl); (focus rfl); (focus (simp only [List.getElem?_toArray, List.getElem?_cons_succ, List.getElem?_cons_zero])); (focus (intro ht; refine fine_none ?_ ht; (focus (first | (with_reducible apply only_idle); (focus decide) | (with_reducible apply only_turn); (focus rfl); (focus rfl); (focus kernel_rfl) | exact only_calc rfl rfl rfl | exact only_check rfl rfl | exact only_cap rfl rfl | exact only_min rfl rfl rfl | exact only_max rfl rfl rfl)))); go_simp; refine hK _ _ _ ?_; clear hK K)
    | ((with_reducible refine lst_undef (i := ?_) (b := ?_) (d := ?_) ?_ ?_ ?_ ?_); rotate_left 3; (focus with_reducible rfl); (focus rfl); (focus (simp only [List.getElem?_toArray, List.getElem?_cons_succ, List.getElem?_cons_zero])); simp only [Act.put, List.setIfInBounds_toArray, List.set_cons_zero, List.set_cons_succ])
    | (with_reducible apply lst_nil)
    | ((fail_if_success (with_reducible refine lst_any ?_)); first
    | (with_reducible apply j_seq) | (with_reducible apply j_block) | (with_reducible apply j_ret) | (with_reducible apply j_skip) | (with_reducible apply j_exit) | (with_reducible apply j_label) | (with_reducible apply j_region_lit)
    | ((with_reducible refine j_true ?_ ?_); (focus rfl)) | ((with_reducible refine j_false ?_ ?_); (focus rfl))
    | (with_reducible show Then _ _ _ _ _ _; simp only [Then])
    | (with_reducible show InBlock _ _ _ _ _ _; simp only [InBlock, ↓reduceIte, Nat.reduceEqDiff])))
  have hF' := hF.two2 (n1 := n5) (n2 := n6) (e1 := e5) (e0 := e6) (by unfold Hid at *; omega) (by unfold Hid at *; omega) (by unfold Hid at *; omega) (by unfold Hid at *; omega) (by unfold Hid at *; omega)
  have hC' := ((hC.set_ (p := ⟨g, o + n5, none⟩) rfl (.int .u8 (e5 : Int))).set_ (p := ⟨g, o + n6, none⟩) rfl (.int .u8 (e6 : Int))).drew
  generalize ((W.setCell ⟨g, o + n5, none⟩ (.int .u8 (e5 : Int))).setCell ⟨g, o + n6, none⟩ (.int .u8 (e6 : Int))).drew = W at hF' hC' ⊢
  clear hB hB1 hF hC
  have hF := hF'
  have hC := hC'
  clear hF' hC'
  have hB := hF.bk
  refine j_region_dl [0, 0, 2, 0, 0, 16, 0, 64, 192, 0, 512, 455, 2503, 8191, 16383] [0, 1, 2, 3, 4, 5, 6, 7, 8, 9, 10, 11, 12, 13, 14] (fun _ => True) rfl (by decide +kernel) (by repeat (first | assumption | exact loose_body | (with_reducible apply loose_then) | (with_reducible apply loose_block) | (with_reducible apply loose_noGoto) | (with_reducible apply loose_jump))) ?_ ?_
  focus trivial
  repeat (first
    | (with_reducible apply dl_nil)
    | ((with_reducible apply dl_skip); (focus rfl); (focus rfl); (focus trivial); simp only [Act.put, List.setIfInBounds_toArray, List.set_cons_zero, List.set_cons_succ])
    | ((with_reducible apply dl_calm); (focus rfl); (focus rfl); (focus rfl); (focus (first | (with_reducible apply only_idle); (focus decide) | (with_reducible apply only_turn); (focus rfl); (focus rfl); (focus kernel_rfl) | exact only_calc rfl rfl rfl | exact only_check rfl rfl | exact only_cap rfl rfl | exact only_min rfl rfl rfl | exact only_max rfl rfl rfl)); (focus (intro wS hS;  go_simp; try rfl)); simp only [Act.put, List.setIfInBounds_toArray, List.set_cons_zero, List.set_cons_succ])
    | (with_reducible show Then _ _ _ _ _ _; simp only [Then])
    | (with_reducible show InBlock _ _ _ _ _ _; simp only [InBlock, ↓reduceIte, Nat.reduceEqDiff]))
  refine dl_calm (o := ?_) (v := .int .u8 ((e7 : Nat) : Int)) ?_ ?_ ?_ ?_ ?_ ?_
  rotate_left 1
  focus rfl
  focus rfl
  focus rfl
  focus (first | (with_reducible apply only_idle); (focus decide) | (with_reducible apply only_turn); (focus rfl); (focus rfl); (focus kernel_rfl) | exact only_calc rfl rfl rfl | exact only_check rfl rfl | exact only_cap rfl rfl | exact only_min rfl rfl rfl | exact only_max rfl rfl rfl)
  focus exact fun wS _ => exec_smalls1 (y := (.tmp 88)) rfl (by kernel_rfl) rfl l1 he7
  simp only [Act.put, List.setIfInBounds_toArray, List.set_cons_zero, List.set_cons_succ]
  repeat (first
    | (with_reducible apply dl_nil)
    | ((with_reducible apply dl_skip); (focus rfl); (focus rfl); (focus trivial); simp only [Act.put, List.setIfInBounds_toArray, List.set_cons_zero, List.set_cons_succ])
    | ((with_reducible apply dl_calm); (focus rfl); (focus rfl); (focus rfl); (focus (first | (with_reducible apply only_idle); (focus decide) | (with_reducible apply only_turn); (focus rfl); (focus rfl); (focus kernel_rfl) | exact only_calc rfl rfl rfl | exact only_check rfl rfl | exact only_cap rfl rfl | exact only_min rfl rfl rfl | exact only_max rfl rfl rfl)); (focus (intro wS hS;  go_simp; try rfl)); simp only [Act.put, List.setIfInBounds_toArray, List.set_cons_zero, List.set_cons_succ])
    | (with_reducible show Then _ _ _ _ _ _; simp only [Then])
    | (with_reducible show InBlock _ _ _ _ _ _; simp only [InBlock, ↓reduceIte, Nat.reduceEqDiff]))
  refine dl_calm (o := ?_) (v := .int .u8 ((e8 : Nat) : Int)) ?_ ?_ ?_ ?_ ?_ ?_
  rotate_left 1
  focus rfl
  focus rfl
  focus rfl
  focus (first | (with_reducible apply only_idle); (focus decide) | (with_reducible apply only_turn); (focus rfl); (focus rfl); (focus kernel_rfl) | exact only_calc rfl rfl rfl | exact only_check rfl rfl | exact only_cap rfl rfl | exact only_min rfl rfl rfl | exact only_max rfl rfl rfl)
  focus exact fun wS _ => exec_smalls0 (y := (.tmp 90)) rfl (by kernel_rfl) rfl l1 he8
  simp only [Act.put, List.setIfInBounds_toArray, List.set_cons_zero, List.set_cons_succ]
  repeat (first
    | (with_reducible apply dl_nil)
    | ((with_reducible apply dl_skip); (focus rfl); (focus rfl); (focus trivial); simp only [Act.put, List.setIfInBounds_toArray, List.set_cons_zero, List.set_cons_succ])
    | ((with_reducible apply dl_calm); (focus rfl); (focus rfl); (focus rfl); (focus (first | (with_reducible apply only_idle); (focus decide) | (with_reducible apply only_turn); (focus rfl); (focus rfl); (focus kernel_rfl) | exact only_calc rfl rfl rfl | exact only_check rfl rfl | exact only_cap rfl rfl | exact only_min rfl rfl rfl | exact only_max rfl rfl rfl)); (focus (intro wS hS;  go_simp; try rfl)); simp only [Act.put, List.setIfInBounds_toArray, List.set_cons_zero, List.set_cons_succ])
    | (with_reducible show Then _ _ _ _ _ _; simp only [Then])
    | (with_reducible show InBlock _ _ _ _ _ _; simp only [InBlock, ↓reduceIte, Nat.reduceEqDiff]))
  obtain ⟨v1, k1⟩ := hB.cell (i := o + n7) (by omega)
  have z1 := hB.frozen (o + n7)
  refine dl_act (o := ?_) ?_ ?_ ?_ ?_ (fun K hK => ?_)
  rotate_left 1
  focus rfl
  focus rfl
  focus rfl
  focus exact fun ht => fine_store rfl rfl k1 hg ht
  go_simp
  refine hK _ _ _ ⟨fun _ => True, trivial, fun _ => rfl, ?_⟩
  clear hK K
  have hB1 := hB.set (o + n7) (.int .u8 (e7 : Int))
  obtain ⟨v2, k2⟩ := hB1.cell (i := o + n8) (by omega)
  clear k1 z1
  have z2 := hB1.frozen (o + n8)
  repeat (first
    | (with_reducible apply dl_nil)
    | ((with_reducible apply dl_skip); (focus rfl); (focus rfl); (focus trivial); simp only [Act.put, List.setIfInBounds_toArray, List.set_cons_zero, List.set_cons_succ])
    | ((with_reducible apply dl_calm); (focus rfl); (focus rfl); (focus rfl); (focus (first | (with_reducible apply only_idle); (focus decide) | (with_reducible apply only_turn); (focus rfl); (focus rfl); (focus kernel_rfl) | exact only_calc rfl rfl rfl | exact only_check rfl rfl | exact only_cap rfl rfl | exact only_min rfl rfl rfl | exact only_max rfl rfl rfl)); (focus (intro wS hS;  go_simp; try rfl)); simp only [Act.put, List.setIfInBounds_toArray, List.set_cons_zero, List.set_cons_succ])
    | (with_reducible show Then _ _ _ _ _ _; simp only [Then])
    | (with_reducible show InBlock _ _ _ _ _ _; simp only [InBlock, ↓reduceIte, Nat.reduceEqDiff]))
  refine dl_act (o := ?_) ?_ ?_ ?_ ?_ (fun K hK => ?_)
  rotate_left 1
  focus rfl
  focus rfl
  focus rfl
  focus exact fun ht => fine_store rfl rfl k2 hg ht
  go_simp
  refine hK _ _ _ ⟨fun _ => True, trivial, fun _ => rfl, ?_⟩
  clear hK K
  clear k2 z2
  repeat (first
    | (with_reducible apply dl_nil)
    | ((with_reducible apply dl_skip); (focus rfl); (focus rfl); (focus trivial); simp only [Act.put, List.setIfInBounds_toArray, List.set_cons_zero, List.set_cons_succ])
    | ((with_reducible apply dl_calm); (focus rfl); (focus rfl); (focus rfl); (focus (first | (with_reducible apply only_idle); (focus decide) | (with_reducible apply only_turn); (focus rfl); (focus rfl); (focus kernel_rfl) | exact only_calc rfl rfl rfl | exact only_check rfl rfl | exact only_cap rfl rfl | exact only_min rfl rfl rfl | exact only_max rfl rfl rfl)); (focus (intro wS hS;  go_simp; try rfl)); simp only [Act.put, List.setIfInBounds_toArray, List.set_cons_zero, List.set_cons_succ])
    | (with_reducible show Then _ _ _ _ _ _; simp only [Then])
    | (with_reducible show InBlock _ _ _ _ _ _; simp only [InBlock, ↓reduceIte, Nat.reduceEqDiff]))
  repeat (first
    | ((with_reducible refine lst_free ?_ ?_ (fun K hK => ?_)); (focus with_reducible rfl); (focus (intro ht; refine fine_none ?_ ht; (focus (first | (with_reducible apply only_idle); (focus decide) | (with_reducible apply only_turn); (focus rfl); (focus rfl); (focus kernel_rfl) | exact only_calc rfl rfl rfl | exact only_check rfl rfl | exact only_cap rfl rfl | exact only_min rfl rfl rfl | exact only_max rfl rfl rfl)))); go_simp; refine hK _ _ _ ?_; clear hK K)
    | ((with_reducible refine lst_off (i := ?_) (b := ?_) (d := ?_) ?_ ?_ ?_ ?_); rotate_left 3; (focus with_reducible rfl); (focus rfl); (focus (simp only [List.getElem?_toArray, List.getElem?_cons_succ, List.getElem?_cons_zero, Bool.not_true, Bool.not_false])); simp only [Act.put, List.setIfInBounds_toArray, List.set_cons_zero, List.set_cons_succ])
    | ((with_reducible refine lst_on (i := ?_) (b := ?_) (d := ?_) ?_ ?_ ?_ ?_ (fun K hK => ?_)); rotate_left 3; (focus with_reducible rfl); (focus rfl); (focus (simp only [List.getElem?_toArray, List.getElem?_cons_succ, List.getElem?_cons_zero])); (focus (intro ht; refine fine_none ?_ ht; (focus (first | (with_reducible apply only_idle); (focus decide) | (with_reducible apply only_turn); (focus rfl); (focus rfl); (focus kernel_rfl) | exact only_calc rfl rfl rfl | exact only_check rfl rfl | exact only_cap rfl rfl | exact only_min rfl rfl rfl | exact only_max rfl rfl rfl)))); go_simp; refine hK _ _ _ ?_; clear hK K)
    | ((with_reducible refine lst_undef (i := ?_) (b := ?_) (d := ?_) ?_ ?_ ?_ ?_); rotate_left 3; (focus with_reducible rfl); (focus rfl); (focus (simp only [List.getElem?_toArray, List.getElem?_cons_succ, List.getElem?_cons_zero])); simp only [Act.put, List.setIfInBounds_toArray, List.set_cons_zero, List.set_cons_succ])
    | (with_reducible apply lst_nil)
    | ((fail_if_success (with_reducible refine lst_any ?_)); first
    | (with_reducible apply j_seq) | (with_reducible apply j_block) | (with_reducible apply j_ret) | (with_reducible apply j_skip) | (with_reducible apply j_exit) | (with_reducible apply j_label) | (with_reducible apply j_region_lit)
    | ((with_reducible refine j_true ?_ ?_); (focus rfl)) | ((with_reducible refine j_false ?_ ?_); (focus rfl))
    | (with_reducible show Then _ _ _ _ _ _; simp only [Then])
    | (with_reducible show InBlock _ _ _ _ _ _; simp only [InBlock, ↓reduceIte, Nat.reduceEqDiff])))
  have hF' := hF.two2 (n1 := n7) (n2 := n8) (e1 := e7) (e0 := e8) (by unfold Hid at *; omega) (by unfold Hid at *; omega) (by unfold Hid at *; omega) (by unfold Hid at *; omega) (by unfold Hid at *; omega)
  have hC' := ((hC.set_ (p := ⟨g, o + n7, none⟩) rfl (.int .u8 (e7 : Int))).set_ (p := ⟨g, o + n8, none⟩) rfl (.int .u8 (e8 : Int))).drew
  generalize ((W.setCell ⟨g, o + n7, none⟩ (.int .u8 (e7 : Int))).setCell ⟨g, o + n8, none⟩ (.int .u8 (e8 : Int))).drew = W at hF' hC' ⊢
  clear hB hB1 hF hC
  have hF := hF'
  have hC := hC'
  clear hF' hC'
  have hB := hF.bk
  have e8' : n8 = n - 8 := hn8
  have ez : z = x / 100000000 := hz
  have ex : x / 100 / 100 / 100 / 100 = x / 100000000 := by omega
  exact hQ _ _ ⟨rfl, rfl, rfl, by rw [← ez]; rfl, by rw [← e8']; rfl⟩ (by rw [← e8', ← ex]; exact hF) hC
end
end Go.Proofs.YtgchailmcbifdaaDoor.Jg
