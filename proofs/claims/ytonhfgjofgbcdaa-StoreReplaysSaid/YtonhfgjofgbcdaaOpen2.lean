/- Arguments opened: a list of steps, a config. -/
import Derived.Test.YtonhfgjofgbcdaaOpen
import Derived.Test.YtonhfgjofgbcdaaSteps
import Derived.Deep.Slices
namespace Go.Proofs.Ytonhfgjofgbcdaa.Op
open Go Go.Conc Go.RowKit Go.ChangeShapes Go.WideShapes Go.Proofs.Ytonhfgjofgbcdaa.Jay Go.Proofs.Ytonhfgjofgbcdaa.St Go.Proofs.Ytonhfgjofgbcdaa.Rp
set_option linter.unusedVariables false
set_option maxRecDepth 20000
section
variable {H : Type} {enc : TypeId × Value → H} {P : Program} {w : World} {base : Nat} {spare : Nat → Bool} {held : Bool}

/-- A struct's fields, each with its own cells. -/
theorem fields_of_trod {t : TypeId} {l : List (TypeId × Nat)} {n : Nat} {cs : List Value} {x : DataW H × List MemPlace} (hs : shape P t = some l) (h : DataW.trod enc P w base spare held n t cs = some x) :
    cs.length = P.cellsOf t ∧ ∀ ty o, (ty, o) ∈ l → ∃ n' x', DataW.trod enc P w base spare held n' ty ((cs.drop o).take (P.cellsOf ty)) = some x' := by
  obtain ⟨fs, hu, rfl⟩ := shape_some hs
  obtain ⟨xs, n', _, _, hlen, hxl, hat⟩ := DataW.trod_struct hu h
  refine ⟨hlen, fun ty o hl => ?_⟩
  rw [List.mem_map] at hl
  obtain ⟨f, hmem, he⟩ := hl
  obtain ⟨i, hi, rfl⟩ := List.getElem_of_mem hmem
  simp only [Prod.mk.injEq] at he
  have hi' : i < fs.size := by simpa using hi
  have hg := hat i (fs.toList[i]) (by simp [hi'])
  rw [he.1, he.2] at hg
  have hx : xs[i]? = some (xs[i]'(by omega)) := List.getElem?_eq_getElem (by omega)
  exact ⟨n', _, hg.trans hx⟩

theorem list_of {α : Type} {n : Nat} {p : Nat → α → Prop} (h : ∀ i, i < n → ∃ y, p i y) : ∃ l : List α, l.length = n ∧ ∀ i (hi : i < l.length), p i l[i] := by
  refine ⟨List.ofFn fun i : Fin n => Classical.choose (h i.1 i.2), List.length_ofFn, fun i hi => ?_⟩
  rw [List.getElem_ofFn]
  exact Classical.choose_spec (h i (by simpa using hi))
end

section
variable {H : Type} {enc : TypeId × Value → H} {w : World} {base : Nat} {spare : Nat → Bool} {held : Bool} {r : Reach} {b0 : Nat} {v : Value} {d : DataW H} {p : List MemPlace}
theorem shape_cfg : shape Try.prog 36 = some [(3, 0), (3, 1), (3, 2), (3, 3)] := by kernel_rfl
theorem size_cfg : Try.prog.cellsOf 36 = 4 := by kernel_rfl
theorem shape_step : shape Try.prog 63 = some [(3, 0), (27, 1), (22, 6), (4, 7)] := by kernel_rfl
theorem size_step : Try.prog.cellsOf 63 = 8 := by kernel_rfl
theorem und_bool : Try.prog.underlying 4 = some .bool := by kernel_rfl
theorem one_bool : Try.prog.cellsOf 4 = 1 := by kernel_rfl
theorem und_steps : Try.prog.underlying 37 = some (.slice 63) := by kernel_rfl

theorem open_cfg (hv : Value.okWide Try.prog w r b0 36 v) (h : DataW.Trod enc Try.prog w base spare held 36 v d p) : ∃ k K T M, v = cfg k K T M := by
  obtain ⟨cs, rfl, hsz, hat⟩ := open_struct shape_cfg hv h
  rw [size_cfg] at hsz
  obtain ⟨l⟩ := cs
  match l, hsz with
  | [c0, c1, c2, c3], _ =>
    obtain ⟨_, _, k0⟩ := hat _ _ c0 (.head _) one_int rfl
    obtain ⟨_, _, k1⟩ := hat _ _ c1 (.tail _ (.head _)) one_int rfl
    obtain ⟨_, _, k2⟩ := hat _ _ c2 (.tail _ (.tail _ (.head _))) one_int rfl
    obtain ⟨_, _, k3⟩ := hat _ _ c3 (.tail _ (.tail _ (.tail _ (.head _)))) one_int rfl
    obtain ⟨z0, rfl, _⟩ := word_of_trod und_int k0
    obtain ⟨z1, rfl, _⟩ := word_of_trod und_int k1
    obtain ⟨z2, rfl, _⟩ := word_of_trod und_int k2
    obtain ⟨z3, rfl, _⟩ := word_of_trod und_int k3
    exact ⟨z0, z1, z2, z3, rfl⟩

theorem acc_of_trod {n : Nat} {cs : List Value} {x : DataW H × List MemPlace} (h : DataW.trod enc Try.prog w base spare held n 27 cs = some x) :
    ∃ a0 a1 a2 a3 a4 : Int, cs = [.int .i64 a0, .int .i64 a1, .int .i64 a2, .int .u64 a3, .int .u64 a4] := by
  obtain ⟨hlen, hat⟩ := fields_of_trod shape_acc h
  rw [size_acc] at hlen
  match cs, hlen with
  | [c0, c1, c2, c3, c4], _ =>
    obtain ⟨_, _, k0⟩ := hat _ _ (.head _)
    obtain ⟨_, _, k1⟩ := hat _ _ (.tail _ (.head _))
    obtain ⟨_, _, k2⟩ := hat _ _ (.tail _ (.tail _ (.head _)))
    obtain ⟨_, _, k3⟩ := hat _ _ (.tail _ (.tail _ (.tail _ (.head _))))
    obtain ⟨_, _, k4⟩ := hat _ _ (.tail _ (.tail _ (.tail _ (.tail _ (.head _)))))
    rw [one_int] at k0 k1 k2
    rw [one_u64] at k3 k4
    obtain ⟨z0, rfl, _⟩ := word_of_trod und_int k0
    obtain ⟨z1, rfl, _⟩ := word_of_trod und_int k1
    obtain ⟨z2, rfl, _⟩ := word_of_trod und_int k2
    obtain ⟨z3, rfl, _⟩ := word_of_trod und_u64 k3
    obtain ⟨z4, rfl, _⟩ := word_of_trod und_u64 k4
    exact ⟨z0, z1, z2, z3, z4, rfl⟩

theorem step_of_trod {n : Nat} {cs : List Value} {x : DataW H × List MemPlace} (h : DataW.trod enc Try.prog w base spare held n 63 cs = some x) : ∃ y : Sp, cs = y.cells := by
  obtain ⟨hlen, hat⟩ := fields_of_trod shape_step h
  rw [size_step] at hlen
  match cs, hlen with
  | [c0, c1, c2, c3, c4, c5, c6, c7], _ =>
    obtain ⟨_, _, k0⟩ := hat _ _ (.head _)
    obtain ⟨_, _, k1⟩ := hat _ _ (.tail _ (.head _))
    obtain ⟨_, _, k2⟩ := hat _ _ (.tail _ (.tail _ (.head _)))
    obtain ⟨_, _, k3⟩ := hat _ _ (.tail _ (.tail _ (.tail _ (.head _))))
    rw [one_int] at k0
    rw [size_acc] at k1
    rw [one_u64] at k2
    rw [one_bool] at k3
    obtain ⟨z0, rfl, _⟩ := word_of_trod und_int k0
    obtain ⟨a0, a1, a2, a3, a4, e⟩ := acc_of_trod k1
    obtain ⟨z2, rfl, _⟩ := word_of_trod und_u64 k2
    obtain ⟨bb, e2, _⟩ := DataW.trod_bool und_bool k3
    simp only [List.drop_succ_cons, List.drop_zero, List.take_succ_cons, List.take_zero, List.cons.injEq, and_true] at e e2
    obtain ⟨rfl, rfl, rfl, rfl, rfl⟩ := e
    subst e2
    exact ⟨⟨z0, a0, a1, a2, a3, a4, z2, bb⟩, rfl⟩

theorem sps_of_trod {n : Nat} {c : Value} {x : DataW H × List MemPlace} (h : DataW.trod enc Try.prog w base (fun _ => true) held n 37 [c] = some x) : ∃ l, Sps w w.heap.size c l := by
  rcases Go.Deep.open_slice und_steps h with ⟨e1, _⟩ | ⟨a, len, cap, m, n', D, Pl, e1, hb, hl, hm, hmm, _, hat⟩
  · obtain rfl : c = .slice none 0 0 := by simpa using e1
    exact ⟨[], Sl.nil _ _ _⟩
  · obtain rfl : c = .slice (some a) len cap := by simpa using e1
    simp only [if_true] at hmm
    have each : ∀ i, i < len → ∃ y : Sp, w.cells? base (a.add (i * 8)) 8 = some y.cells := fun i hi => by
      obtain ⟨cs', hc, ht⟩ := hat i (by omega)
      rw [size_step] at hc
      obtain ⟨y, rfl⟩ := step_of_trod ht
      exact ⟨y, hc⟩
    obtain ⟨l, hlen, hla⟩ := list_of each
    have hfl : ∀ l : List Sp, (l.flatMap Sp.cells).length = l.length * 8 := fun l => by
      induction l with
      | nil => rfl
      | cons y l ih => rw [List.flatMap_cons, List.length_append, ih]; simp [Sp.cells]; omega
    refine ⟨l, hfl l, some a, cap, by rw [hlen], by omega, hm, fun hn => ?_⟩
    have c0 := (World.cells?_some (hla 0 hn)).2.2 0 (by omega)
    have c0' : w.cell? ((a.add (0 * 8)).add 0) = some (.int .i64 (l[0]).th) := c0
    have hsp := World.cell?_spot c0'
    have hblk := World.block_lt_of_cell? w _ c0'
    obtain ⟨b, o, sp⟩ := a
    have : sp = none := by simpa [Addr.add] using hsp
    subst this
    refine ⟨b, o, rfl, by simpa [Addr.add] using hblk, fun j u hu => ?_⟩
    have hj : j < l.length * 8 := by rw [← hfl l]; exact (List.getElem?_eq_some_iff.1 hu).1
    have hi : j / 8 < l.length := by omega
    have hje : j / 8 * 8 + j % 8 = j := by omega
    have hu' := flat_get l (j / 8) (j % 8) hi (by omega)
    rw [hje, hu] at hu'
    have hc := (World.cells?_some (hla (j / 8) hi)).2.2 (j % 8) (by omega)
    rw [← hu', Go.Deep.add_add, hje] at hc
    rw [← hc]
    unfold Addr.add
    by_cases h0 : j = 0
    · subst h0; simp
    · simp [h0]
end
end Go.Proofs.Ytonhfgjofgbcdaa.Op
