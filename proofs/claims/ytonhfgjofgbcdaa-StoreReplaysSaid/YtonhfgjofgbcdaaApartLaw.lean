/- The words, accesses, as plain lists: what was put is there; accesses to unlike words do the same in either order. -/
import Derived.Test.YtonhfgjofgbcdaaRfAll
namespace Go.Proofs.Ytonhfgjofgbcdaa.St
set_option linter.unusedSimpArgs false
set_option linter.unusedVariables false
set_option maxRecDepth 20000
open Go Go.Conc Go.RowKit Go.Proofs.Ytonhfgjofgbcdaa.Jay Go.Proofs.Ytonhfgjofgbcdaa.Pl
open Go.Proofs.Ytonhfgjofgbcdaa.Rf

theorem Mem.ext_area {m n : Mem} (h : ∀ a, m.area a = n.area a) : m = n := by
  rw [← Mem.same_iff]
  unfold Mem.same
  rw [List.all_eq_true]
  exact fun i _ => decide_eq_true (h _)

theorem area_put {m : Mem} {a : Int} {i : Nat} (x : Int) (h : i < (m.area a).length) (a' : Int) : (m.put a i x).area a' = if a' = a then (m.area a).set i x else m.area a' := by
  have one : ∀ y : Int, i < [y].length → ([y] : List Int).set i x = [x] := fun y hy => by
    have : i = 0 := by simpa using hy
    subst this
    rfl
  obtain ⟨e, f, li, pi, hd, t, ln, nx, sl⟩ := m
  by_cases hr : 1 ≤ a ∧ a ≤ 9
  · have ha : a = 1 ∨ a = 2 ∨ a = 3 ∨ a = 4 ∨ a = 5 ∨ a = 6 ∨ a = 7 ∨ a = 8 ∨ a = 9 := by omega
    rcases ha with rfl | rfl | rfl | rfl | rfl | rfl | rfl | rfl | rfl
    · by_cases ha' : a' = 1
      · subst ha'
        simp [Mem.put, Mem.area] at h ⊢
        try (subst h; rfl)
      · rw [if_neg ha']
        simp [Mem.put, Mem.area, ha']
    · by_cases ha' : a' = 2
      · subst ha'
        simp [Mem.put, Mem.area] at h ⊢
        try (subst h; rfl)
      · rw [if_neg ha']
        simp [Mem.put, Mem.area, ha']
    · by_cases ha' : a' = 3
      · subst ha'
        simp [Mem.put, Mem.area] at h ⊢
        try (subst h; rfl)
      · rw [if_neg ha']
        simp [Mem.put, Mem.area, ha']
    · by_cases ha' : a' = 4
      · subst ha'
        simp [Mem.put, Mem.area] at h ⊢
        try (subst h; rfl)
      · rw [if_neg ha']
        simp [Mem.put, Mem.area, ha']
    · by_cases ha' : a' = 5
      · subst ha'
        simp [Mem.put, Mem.area] at h ⊢
        try (subst h; rfl)
      · rw [if_neg ha']
        simp [Mem.put, Mem.area, ha']
    · by_cases ha' : a' = 6
      · subst ha'
        simp [Mem.put, Mem.area] at h ⊢
        try (subst h; rfl)
      · rw [if_neg ha']
        simp [Mem.put, Mem.area, ha']
    · by_cases ha' : a' = 7
      · subst ha'
        simp [Mem.put, Mem.area] at h ⊢
        try (subst h; rfl)
      · rw [if_neg ha']
        simp [Mem.put, Mem.area, ha']
    · by_cases ha' : a' = 8
      · subst ha'
        simp [Mem.put, Mem.area] at h ⊢
        try (subst h; rfl)
      · rw [if_neg ha']
        simp [Mem.put, Mem.area, ha']
    · by_cases ha' : a' = 9
      · subst ha'
        simp [Mem.put, Mem.area] at h ⊢
        try (subst h; rfl)
      · rw [if_neg ha']
        simp [Mem.put, Mem.area, ha']
  · exfalso
    unfold Mem.area at h
    repeat (rw [if_neg (by omega)] at h)
    simp at h

theorem put_comm {m : Mem} {a b : Int} {i j : Nat} (x y : Int) (hi : i < (m.area a).length) (hj : j < (m.area b).length) (hne : a ≠ b ∨ i ≠ j) : (m.put a i x).put b j y = (m.put b j y).put a i x := by
  have h1 : j < ((m.put a i x).area b).length := by rw [area_put x hi]; split <;> simp_all
  have h2 : i < ((m.put b j y).area a).length := by rw [area_put y hj]; split <;> simp_all
  refine Mem.ext_area fun c => ?_
  rw [area_put y h1, area_put x h2, area_put x hi, area_put y hj, area_put x hi, area_put y hj]
  by_cases hcb : c = b <;> by_cases hca : c = a
  · subst hcb
    subst hca
    simp only [if_true]
    exact List.set_comm _ _ (by rcases hne with h | h; exact absurd rfl h; exact h)
  · subst hcb
    simp [hca]
  · subst hca
    simp [hcb]
  · simp [hca, hcb]

/-- A word that is there. -/
theorem at_some {m : Mem} {a i x : Int} : m.at_ a i = some x ↔ 0 ≤ i ∧ (m.area a)[i.toNat]? = some x := by
  unfold Mem.at_
  split
  · simp [*]
  · simp; omega

theorem at_put {m : Mem} {a i w : Int} (x : Int) (h : m.at_ a i = some w) (b j : Int) : (m.put a i.toNat x).at_ b j = if b = a ∧ j = i then some x else m.at_ b j := by
  rw [at_some] at h
  have hlt : i.toNat < (m.area a).length := (List.getElem?_eq_some_iff.1 h.2).1
  unfold Mem.at_
  rw [area_put x hlt]
  by_cases hj : 0 ≤ j
  · simp only [if_pos hj]
    by_cases hb : b = a
    · subst hb
      simp only [if_true, true_and]
      rw [List.getElem?_set]
      by_cases hij : j = i
      · subst hij; simp [hlt]
      · have : ¬ i.toNat = j.toNat := by omega
        simp [this, hij]
    · simp [hb]
  · have : ¬ j = i := by omega
    simp [hj, this]

theorem small_put {m : Mem} (h : m.small) (a : Int) (i : Nat) (x : Int) : (m.put a i x).small := by
  unfold Mem.small at *
  unfold Mem.put
  repeat' split
  all_goals simpa using h
theorem small_act {m : Mem} (h : m.small) (d ar at_ old new : Int) : (m.act d ar at_ old new).1.small := by
  unfold Mem.act
  repeat' split
  all_goals first | exact h | exact small_put h _ _ _

/-- A look changes nothing, and puts nothing. -/
theorem act_read (m : Mem) (ar at_ old new : Int) : (m.act 1 ar at_ old new).1 = m ∧ (m.act 1 ar at_ old new).2.2 = false ∧ (m.act 1 ar at_ old new).2.1 = (m.at_ ar at_).getD 0 := by
  unfold Mem.act
  cases m.at_ ar at_ <;> simp [inB]

/-- What an access leaves, by cases. -/
theorem act_cases (m : Mem) (d ar at_ old new : Int) : ((m.act d ar at_ old new).1 = m ∧ (m.act d ar at_ old new).2.2 = false ∧ (inB d 1 3 = true → (m.act d ar at_ old new).2.1 = (m.at_ ar at_).getD 0)) ∨
    (∃ w, m.at_ ar at_ = some w ∧ (m.act d ar at_ old new).1 = m.put ar at_.toNat new ∧ (m.act d ar at_ old new).2.2 = true) := by
  unfold Mem.act
  cases h : m.at_ ar at_ with
  | none => left; simp
  | some w =>
    simp only []
    cases hd : inB d 1 3 with
    | false => left; simp
    | true =>
      simp only [Bool.true_eq_false, if_false]
      split
      · left; simp
      · right; exact ⟨w, rfl, rfl, rfl⟩

/-- What an access does hangs on the word at its place alone. -/
theorem act_alike {m n : Mem} {ar at_ : Int} (h : m.at_ ar at_ = n.at_ ar at_) (d old new : Int) : (m.act d ar at_ old new).2 = (n.act d ar at_ old new).2 := by
  unfold Mem.act
  rw [← h]
  cases m.at_ ar at_ with
  | none => rfl
  | some w => simp only []; split; rfl; split <;> rfl

/-- Is something put there? -/
def fires (o : Option Int) (d old : Int) : Bool := match o with
  | none => false
  | some w => inB d 1 3 && !(decide (d = 1) || decide (d = 3) && decide (w ≠ old))
theorem act_fires (m : Mem) (d ar at_ old new : Int) : (m.act d ar at_ old new).1 = if fires (m.at_ ar at_) d old = true then m.put ar at_.toNat new else m := by
  unfold Mem.act fires
  cases m.at_ ar at_ with
  | none => rfl
  | some w =>
    simp only []
    cases inB d 1 3 with
    | false => rfl
    | true =>
      simp only [Bool.true_eq_false, if_false, Bool.true_and]
      by_cases h : d = 1 ∨ d = 3 ∧ w ≠ old
      · rw [if_pos h]
        have : (!(decide (d = 1) || decide (d = 3) && decide (w ≠ old))) = false := by by_cases h1 : d = 1 <;> by_cases h2 : d = 3 <;> by_cases h3 : w = old <;> simp_all
        rw [this]
        rfl
      · rw [if_neg h]
        have : (!(decide (d = 1) || decide (d = 3) && decide (w ≠ old))) = true := by by_cases h1 : d = 1 <;> by_cases h2 : d = 3 <;> by_cases h3 : w = old <;> simp_all
        rw [this]
        rfl
theorem fires_some {o : Option Int} {d old : Int} (h : fires o d old = true) : ∃ w, o = some w := by
  cases o with
  | none => cases h
  | some w => exact ⟨w, rfl⟩

/-- ACCESSES TO UNLIKE WORDS do the same in either order. -/
theorem act_comm (m : Mem) (d ar at_ old new d' ar' at' old' new' : Int) (hne : ¬ (ar = ar' ∧ at_ = at')) :
    ((m.act d ar at_ old new).1.act d' ar' at' old' new').1 = ((m.act d' ar' at' old' new').1.act d ar at_ old new).1 := by
  rw [act_fires, act_fires, act_fires m d' ar' at' old' new', act_fires]
  by_cases h : fires (m.at_ ar at_) d old = true <;> by_cases h' : fires (m.at_ ar' at') d' old' = true
  · obtain ⟨w, hw⟩ := fires_some h
    obtain ⟨w', hw'⟩ := fires_some h'
    have e1 : (m.put ar at_.toNat new).at_ ar' at' = m.at_ ar' at' := by rw [at_put new hw, if_neg (fun e => hne ⟨e.1.symm, e.2.symm⟩)]
    have e2 : (m.put ar' at'.toNat new').at_ ar at_ = m.at_ ar at_ := by rw [at_put new' hw', if_neg (fun e => hne e)]
    rw [if_pos h, if_pos h', e1, e2, if_pos h, if_pos h']
    rw [at_some] at hw hw'
    refine put_comm _ _ (List.getElem?_eq_some_iff.1 hw.2).1 (List.getElem?_eq_some_iff.1 hw'.2).1 ?_
    by_cases ha : ar = ar'
    · right; have : at_ ≠ at' := fun e => hne ⟨ha, e⟩; omega
    · exact .inl ha
  · obtain ⟨w, hw⟩ := fires_some h
    have e1 : (m.put ar at_.toNat new).at_ ar' at' = m.at_ ar' at' := by rw [at_put new hw, if_neg (fun e => hne ⟨e.1.symm, e.2.symm⟩)]
    rw [if_pos h, if_neg h', e1, if_neg h', if_pos h]
  · obtain ⟨w', hw'⟩ := fires_some h'
    have e2 : (m.put ar' at'.toNat new').at_ ar at_ = m.at_ ar at_ := by rw [at_put new' hw', if_neg (fun e => hne e)]
    simp only [if_neg h, if_pos h', e2]
  · simp only [if_neg h, if_neg h']
end Go.Proofs.Ytonhfgjofgbcdaa.St
