/- Steps, and what they are replayed to. -/
import Derived.Test.YtonhfgjofgbcdaaRfDo
import Derived.Test.YtonhfgjofgbcdaaRfNew2
namespace Go.Proofs.Ytonhfgjofgbcdaa.Rp
set_option linter.unusedSimpArgs false
set_option linter.unusedVariables false
set_option maxRecDepth 20000
open Go Go.Conc Go.RowKit Go.Proofs.Ytonhfgjofgbcdaa.Jay Go.Proofs.Ytonhfgjofgbcdaa.Pl
open Go.Proofs.Ytonhfgjofgbcdaa.St Go.Proofs.Ytonhfgjofgbcdaa.Rf Go.Proofs.Ytonhfgjofgbcdaa.Wd Go.Proofs.Ytonhfgjofgbcdaa.Lw
section
variable {γ : Type} {X : Turns γ} {s : γ} {w : World}
attribute [local go_sem] upon_value upon_skip

/-- A step. -/
structure Sp where
  (th d ar at_ old new was : Int) (done : Bool)
def Sp.cells (x : Sp) : List Value := [.int .i64 x.th, .int .i64 x.d, .int .i64 x.ar, .int .i64 x.at_, .int .u64 x.old, .int .u64 x.new, .int .u64 x.was, .bool x.done]
def Sps (w : World) (B : Nat) (v : Value) (l : List Sp) : Prop := Sl w B 8 v l.length (l.flatMap Sp.cells)

theorem flat_get (l : List Sp) (i j : Nat) (hi : i < l.length) (hj : j < 8) : (l.flatMap Sp.cells)[i * 8 + j]? = (l[i].cells)[j]? := by
  induction l generalizing i with
  | nil => simp at hi
  | cons x l ih =>
    rw [List.flatMap_cons]
    have hx : x.cells.length = 8 := rfl
    cases i with
    | zero =>
      rw [Nat.zero_mul, Nat.zero_add, List.getElem?_append_left (by omega)]
      rfl
    | succ i =>
      rw [List.getElem?_append_right (by omega), hx, show (i + 1) * 8 + j - 8 = i * 8 + j by omega]
      exact ih i (by simpa using hi)

theorem Sps.at_ {w : World} {B : Nat} {v : Value} {l : List Sp} (h : Sps w B v l) (hn : 0 < l.length) : ∃ b o c, v = .slice (some ⟨b, o, none⟩) l.length c ∧ b < B ∧ l.length ≤ c ∧ c ≤ maxLen ∧
    ∀ i (hi : i < l.length) j u, (l[i].cells)[j]? = some u → w.cell? ⟨b, o + (i * 8 + j), none⟩ = some u := by
  obtain ⟨b, o, c, hv, hb, hc, hm, hat⟩ := Sl.row h hn
  refine ⟨b, o, c, hv, hb, hc, hm, fun i hi j u hu => hat _ _ ?_⟩
  have hj : j < 8 := (List.getElem?_eq_some_iff.1 hu).1
  rw [flat_get l i j hi hj]
  exact hu

/-- The words that steps lead to; none: they don't fit. -/
def replay : List Sp → Mem → Option Mem
  | [], m => some m
  | x :: l, m => if (m.act x.d x.ar x.at_ x.old x.new).2.1 = x.was ∧ (m.act x.d x.ar x.at_ x.old x.new).2.2 = x.done then replay l (m.act x.d x.ar x.at_ x.old x.new).1 else none

theorem replay_drop {l : List Sp} {i : Nat} (hi : i < l.length) (m : Mem) : replay (l.drop i) m = if (m.act l[i].d l[i].ar l[i].at_ l[i].old l[i].new).2.1 = l[i].was ∧ (m.act l[i].d l[i].ar l[i].at_ l[i].old l[i].new).2.2 = l[i].done then replay (l.drop (i + 1)) (m.act l[i].d l[i].ar l[i].at_ l[i].old l[i].new).1 else none := by
  rw [List.drop_eq_getElem_cons hi]
  rfl

def zeroM : Mem := ⟨0, 0, [], [], 0, 0, [], [], []⟩
/-- The words at first, of a config that may be; else none. -/
def firstM (k K T M : Int) : Mem := if mayB k K T M = true then newMem k K.toNat T.toNat M.toNat else zeroM
def whole (k K T M : Int) (l : List Sp) : Option Mem := if mayB k K T M = true then replay l (newMem k K.toNat T.toNat M.toNat) else none

theorem memC_zero (w : World) (B : Nat) : MemC w B zeroM #[.int .u64 0, .int .u64 0, .slice none 0 0, .slice none 0 0, .int .u64 0, .int .u64 0, .slice none 0 0, .slice none 0 0, .slice none 0 0] := ⟨_, _, _, _, _, rfl, Sl.nil _ _ _, Sl.nil _ _ _, Sl.nil _ _ _, Sl.nil _ _ _, Sl.nil _ _ _⟩
theorem off_zero (g : Nat) : Off g #[.int .u64 0, .int .u64 0, .slice none 0 0, .slice none 0 0, .int .u64 0, .int .u64 0, .slice none 0 0, .slice none 0 0, .slice none 0 0] := off_of_memC (memC_zero { (default : World) with } 0) (Nat.zero_le _)

theorem mayB_nat {k K T M : Int} (h : mayB k K T M = true) : K = (K.toNat : Int) ∧ T = (T.toNat : Int) ∧ M = (M.toNat : Int) := by
  simp [mayB, inB] at h
  omega

theorem small_first (k K T M : Int) : (firstM k K T M).small := by
  unfold firstM
  split
  · rename_i h
    have h2 : 1 ≤ K ∧ K ≤ 64 ∧ 1 ≤ T ∧ T ≤ 8 ∧ 2 ≤ M ∧ M ≤ 64 := by simp [mayB, inB] at h; omega
    have hmk : M.toNat * K.toNat ≤ 64 * 64 := Nat.mul_le_mul (by omega) (by omega)
    unfold newMem Mem.small
    repeat' split
    all_goals simp only [zs, List.length_replicate, lk_len]; omega
  · exact ⟨by decide, by decide, by decide, by decide, by decide⟩

theorem new_any (k K T M : Int) : Jdo Try.prog X 13 #[cfg k K T M] s w fun s' r w' => s' = s ∧ Below w.heap.size w w' ∧ ∃ cs, r = .back (.tuple #[.agg cs, .int .i64 (if mayB k K T M = true then 0 else 1)]) ∧ MemC w' w'.heap.size (firstM k K T M) cs ∧ ∀ g, g < w.heap.size → Off g cs := by
  unfold firstM
  cases h : mayB k K T M with
  | false => exact (new_bad h).mono fun s' r w' ⟨h1, h2, h3⟩ => ⟨h1, h2, _, h3, memC_zero _ _, fun g _ => off_zero g⟩
  | true =>
    obtain ⟨e1, e2, e3⟩ := mayB_nat h
    rw [e1, e2, e3] at h ⊢
    simp only [Int.toNat_natCast]
    exact (new_ok2 h).mono fun s' r w' ⟨h1, h2, cs, h3, h4, h5⟩ => ⟨h1, h2, cs, by rw [h3]; rfl, h4, h5⟩

theorem rnew_any {k K T M : Int} (h : mayB k K T M = true) : Jdo Try.prog X 18 #[cfg k K T M] s w fun s' r w' => s' = s ∧ Below w.heap.size w w' ∧ ∃ cs, r = .back (.agg cs) ∧ MemC w' w'.heap.size (firstM k K T M) cs ∧ ∀ g, g < w.heap.size → Off g cs := by
  unfold firstM
  rw [if_pos h]
  obtain ⟨e1, e2, e3⟩ := mayB_nat h
  rw [e1, e2, e3] at h ⊢
  simp only [Int.toNat_natCast]
  exact rnew h
end
end Go.Proofs.Ytonhfgjofgbcdaa.Rp
