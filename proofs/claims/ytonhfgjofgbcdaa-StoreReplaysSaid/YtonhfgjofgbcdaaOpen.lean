/- Arguments opened: structs, lists of words. -/
import Derived.Test.YtonhfgjofgbcdaaTail
import Derived.Test.YtonhfgjofgbcdaaStFind
import Derived.Carry
import Derived.ChangeSlices
import Derived.WideShapes
namespace Go.Proofs.Ytonhfgjofgbcdaa.Op
open Go Go.Conc Go.RowKit Go.ChangeShapes Go.WideShapes Go.Proofs.Ytonhfgjofgbcdaa.Jay Go.Proofs.Ytonhfgjofgbcdaa.St
set_option linter.unusedVariables false
set_option maxRecDepth 20000

/-- A struct type's fields: their types and places. -/
def shape (P : Program) (t : TypeId) : Option (List (TypeId × Nat)) := match P.underlying t with | some (.struct fs) => some (fs.toList.map fun f => (f.type, f.offset)) | _ => none
theorem shape_some {P : Program} {t : TypeId} {l : List (TypeId × Nat)} (h : shape P t = some l) : ∃ fs, P.underlying t = some (.struct fs) ∧ l = fs.toList.map fun f => (f.type, f.offset) := by
  unfold shape at h
  split at h
  · exact ⟨_, ‹_›, (Option.some.inj h).symm⟩
  · cases h

section
variable {H : Type} {enc : TypeId × Value → H} {P : Program} {w : World} {base : Nat} {spare : Nat → Bool} {held : Bool}

/-- A struct that came in: its cells; each field of one cell reads by itself. -/
theorem open_struct {r : Reach} {b0 : Nat} {t : TypeId} {l : List (TypeId × Nat)} {v : Value} {d : DataW H} {p : List MemPlace} (hs : shape P t = some l) (hv : Value.okWide P w r b0 t v) (h : DataW.Trod enc P w base spare held t v d p) :
    ∃ cs : Array Value, v = .agg cs ∧ cs.size = P.cellsOf t ∧ ∀ ty o c, (ty, o) ∈ l → P.cellsOf ty = 1 → cs[o]? = some c → ∃ n x, DataW.trod enc P w base spare held n ty [c] = some x := by
  obtain ⟨fs, hu, rfl⟩ := shape_some hs
  obtain ⟨cs, rfl, hsz⟩ := okWide_struct hu hv
  refine ⟨cs, rfl, hsz, fun ty o c hl h1 hc => ?_⟩
  obtain ⟨fuel, hf⟩ := h
  obtain ⟨xs, n, _, _, _, hxl, hat⟩ := DataW.trod_struct hu hf
  rw [List.mem_map] at hl
  obtain ⟨f, hmem, he⟩ := hl
  obtain ⟨i, hi, rfl⟩ := List.getElem_of_mem hmem
  simp only [Prod.mk.injEq] at he
  have hi' : i < fs.size := by simpa using hi
  have hg := hat i (fs.toList[i]) (by simp [hi'])
  rw [he.1, he.2, h1] at hg
  have hcl : (Value.agg cs).cells.toList = cs.toList := rfl
  rw [hcl] at hg
  have ht : (cs.toList.drop o).take 1 = [c] := by
    have hc' : cs.toList[o]? = some c := by simpa using hc
    obtain ⟨ho, hoe⟩ := List.getElem?_eq_some_iff.1 hc'
    rw [List.drop_eq_getElem_cons ho, hoe]
    rfl
  rw [ht] at hg
  have hx : xs[i]? = some (xs[i]'(by omega)) := List.getElem?_eq_getElem (by omega)
  exact ⟨n, _, hg.trans hx⟩

theorem word_of_trod {k : IntKind} {t : TypeId} {n : Nat} {c : Value} {x : DataW H × List MemPlace} (ht : P.underlying t = some (.int k)) (h : DataW.trod enc P w base spare held n t [c] = some x) : ∃ z, c = .int k z ∧ (Lit.int k z).wf = true := by
  obtain ⟨z, e, _, hw⟩ := DataW.trod_int ht h
  exact ⟨z, by simpa using e, hw⟩

theorem us_of_trod {t e : TypeId} {n : Nat} {c : Value} {x : DataW H × List MemPlace} (ht : P.underlying t = some (.slice e)) (he : P.underlying e = some (.int .u64)) (h1 : P.cellsOf e = 1)
    (h : DataW.trod enc P w base (fun _ => true) held n t [c] = some x) : ∃ zs, Us w w.heap.size c zs := by
  rcases open_ints ht he h1 h with ⟨e1, _⟩ | ⟨a, len, cap, zs, e1, hb, hl, hm, hlen, _, hat, _⟩
  · obtain rfl : c = .slice none 0 0 := by simpa using e1
    exact ⟨[], Sl.nil _ _ _⟩
  · obtain rfl : c = .slice (some a) len cap := by simpa using e1
    simp only [if_true] at hlen
    have hzt : (zs.take len).length = len := by rw [List.length_take]; omega
    refine ⟨zs.take len, ?_, some a, cap, by rw [hzt], by omega, hm, fun hn => ?_⟩
    · simp [U]
    · rw [hzt] at hn
      have c0 := hat 0 (by omega)
      have hsp := World.cell?_spot c0
      have hblk : a.block < w.heap.size := by
        have := World.block_lt_of_cell? w _ c0
        simpa [Addr.add] using this
      obtain ⟨b, o, sp⟩ := a
      have : sp = none := by simpa [Addr.add] using hsp
      subst this
      refine ⟨b, o, rfl, hblk, fun j u hu => ?_⟩
      obtain ⟨hj, rfl⟩ := List.getElem?_eq_some_iff.1 hu
      have hj' : j < (zs.take len).length := by simpa [U] using hj
      rw [hzt] at hj'
      have := hat j (by omega)
      simp only [U, List.getElem_map, List.getElem_take]
      rw [List.getD_eq_getElem?_getD, List.getElem?_eq_getElem (by omega), Option.getD_some] at this
      rw [← this]
      unfold Addr.add
      by_cases h0 : j = 0
      · subst h0; simp
      · simp [h0]
end

section
variable {H : Type} {enc : TypeId × Value → H} {w : World} {base : Nat} {held : Bool} {r : Reach} {b0 : Nat} {v : Value} {d : DataW H} {p : List MemPlace}
theorem shape_mem : shape Try.prog 25 = some [(22, 0), (22, 1), (23, 2), (23, 3), (22, 4), (22, 5), (23, 6), (23, 7), (23, 8)] := by kernel_rfl
theorem shape_acc : shape Try.prog 27 = some [(3, 0), (3, 1), (3, 2), (22, 3), (22, 4)] := by kernel_rfl
theorem und_u64 : Try.prog.underlying 22 = some (.int .u64) := by kernel_rfl
theorem und_int : Try.prog.underlying 3 = some (.int .i64) := by kernel_rfl
theorem und_us : Try.prog.underlying 23 = some (.slice 22) := by kernel_rfl
theorem one_u64 : Try.prog.cellsOf 22 = 1 := by kernel_rfl
theorem one_int : Try.prog.cellsOf 3 = 1 := by kernel_rfl
theorem one_us : Try.prog.cellsOf 23 = 1 := by kernel_rfl
theorem size_mem : Try.prog.cellsOf 25 = 9 := by kernel_rfl
theorem size_acc : Try.prog.cellsOf 27 = 5 := by kernel_rfl

theorem open_mem (hv : Value.okWide Try.prog w r b0 25 v) (h : DataW.Trod enc Try.prog w base (fun _ => true) held 25 v d p) : ∃ m, MemV w w.heap.size m v := by
  obtain ⟨cs, rfl, hsz, hat⟩ := open_struct shape_mem hv h
  rw [size_mem] at hsz
  obtain ⟨l⟩ := cs
  match l, hsz with
  | [c0, c1, c2, c3, c4, c5, c6, c7, c8], _ =>
    obtain ⟨_, _, k0⟩ := hat _ _ c0 (.head _) one_u64 rfl
    obtain ⟨_, _, k1⟩ := hat _ _ c1 (.tail _ (.head _)) one_u64 rfl
    obtain ⟨_, _, k2⟩ := hat _ _ c2 (.tail _ (.tail _ (.head _))) one_us rfl
    obtain ⟨_, _, k3⟩ := hat _ _ c3 (.tail _ (.tail _ (.tail _ (.head _)))) one_us rfl
    obtain ⟨_, _, k4⟩ := hat _ _ c4 (.tail _ (.tail _ (.tail _ (.tail _ (.head _))))) one_u64 rfl
    obtain ⟨_, _, k5⟩ := hat _ _ c5 (.tail _ (.tail _ (.tail _ (.tail _ (.tail _ (.head _)))))) one_u64 rfl
    obtain ⟨_, _, k6⟩ := hat _ _ c6 (.tail _ (.tail _ (.tail _ (.tail _ (.tail _ (.tail _ (.head _))))))) one_us rfl
    obtain ⟨_, _, k7⟩ := hat _ _ c7 (.tail _ (.tail _ (.tail _ (.tail _ (.tail _ (.tail _ (.tail _ (.head _)))))))) one_us rfl
    obtain ⟨_, _, k8⟩ := hat _ _ c8 (.tail _ (.tail _ (.tail _ (.tail _ (.tail _ (.tail _ (.tail _ (.tail _ (.head _))))))))) one_us rfl
    obtain ⟨z0, rfl, _⟩ := word_of_trod und_u64 k0
    obtain ⟨z1, rfl, _⟩ := word_of_trod und_u64 k1
    obtain ⟨z4, rfl, _⟩ := word_of_trod und_u64 k4
    obtain ⟨z5, rfl, _⟩ := word_of_trod und_u64 k5
    obtain ⟨z2, h2⟩ := us_of_trod und_us und_u64 one_u64 k2
    obtain ⟨z3, h3⟩ := us_of_trod und_us und_u64 one_u64 k3
    obtain ⟨z6, h6⟩ := us_of_trod und_us und_u64 one_u64 k6
    obtain ⟨z7, h7⟩ := us_of_trod und_us und_u64 one_u64 k7
    obtain ⟨z8, h8⟩ := us_of_trod und_us und_u64 one_u64 k8
    exact ⟨⟨z0, z1, z2, z3, z4, z5, z6, z7, z8⟩, _, rfl, c2, c3, c6, c7, c8, rfl, h2, h3, h6, h7, h8⟩

theorem open_acc {spare : Nat → Bool} (hv : Value.okWide Try.prog w r b0 27 v) (h : DataW.Trod enc Try.prog w base spare held 27 v d p) : ∃ a0 a1 a2 a3 a4, v = .agg (acc a0 a1 a2 a3 a4) := by
  obtain ⟨cs, rfl, hsz, hat⟩ := open_struct shape_acc hv h
  rw [size_acc] at hsz
  obtain ⟨l⟩ := cs
  match l, hsz with
  | [c0, c1, c2, c3, c4], _ =>
    obtain ⟨_, _, k0⟩ := hat _ _ c0 (.head _) one_int rfl
    obtain ⟨_, _, k1⟩ := hat _ _ c1 (.tail _ (.head _)) one_int rfl
    obtain ⟨_, _, k2⟩ := hat _ _ c2 (.tail _ (.tail _ (.head _))) one_int rfl
    obtain ⟨_, _, k3⟩ := hat _ _ c3 (.tail _ (.tail _ (.tail _ (.head _)))) one_u64 rfl
    obtain ⟨_, _, k4⟩ := hat _ _ c4 (.tail _ (.tail _ (.tail _ (.tail _ (.head _))))) one_u64 rfl
    obtain ⟨z0, rfl, _⟩ := word_of_trod und_int k0
    obtain ⟨z1, rfl, _⟩ := word_of_trod und_int k1
    obtain ⟨z2, rfl, _⟩ := word_of_trod und_int k2
    obtain ⟨z3, rfl, _⟩ := word_of_trod und_u64 k3
    obtain ⟨z4, rfl, _⟩ := word_of_trod und_u64 k4
    exact ⟨z0, z1, z2, z3, z4, rfl⟩
end
end Go.Proofs.Ytonhfgjofgbcdaa.Op
