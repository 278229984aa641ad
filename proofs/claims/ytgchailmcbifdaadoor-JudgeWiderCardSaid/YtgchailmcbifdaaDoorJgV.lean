/- Arguments opened: a config, a list of calls; a listed table. -/
import Derived.Test.YtgchailmcbifdaaDoorJgU
import Derived.Carry
import Derived.ChangeSlices
import Derived.WideShapes
import Derived.Deep.Slices
import Derived.Lib.LaidTab
import Derived.Lib.LaidU8
namespace Go.Proofs.YtgchailmcbifdaaDoor.Jg
open Go Go.Conc Go.RowKit Go.ChangeShapes Go.WideShapes Go.Proofs.YtgchailmcbifdaaDoor.Jay
set_option linter.unusedVariables false
set_option maxRecDepth 20000

/-- A struct type's fields: their types and places. -/
def shape (P : Program) (t : TypeId) : Option (List (TypeId × Nat)) := match P.underlying t with | some (.struct fs) => some (fs.toList.map fun f => (f.type, f.offset)) | _ => none
theorem shape_some {P : Program} {t : TypeId} {l : List (TypeId × Nat)} (h : shape P t = some l) : ∃ fs, P.underlying t = some (.struct fs) ∧ l = fs.toList.map fun f => (f.type, f.offset) := by
  unfold shape at h
  split at h
  · exact ⟨_, ‹_›, (Option.some.inj h).symm⟩
  · cases h

section
variable {H : Type} {enc : TypeId × Value → H} {P : Program} {w : World} {base : Nat} {spare : Nat → Bool} {held : Bool}

/-- A struct that came in: its cells; each field of one cell reads by itself. -/
theorem open_struct {r : Reach} {b0 : Nat} {t : TypeId} {l : List (TypeId × Nat)} {v : Value} {d : DataW H} {p : List MemPlace} (hs : shape P t = some l) (hv : Value.okWide P w r b0 t v) (h : DataW.Trod enc P w base spare held t v d p) :
    ∃ cs : Array Value, v = .agg cs ∧ cs.size = P.cellsOf t ∧ ∀ ty o c, (ty, o) ∈ l → P.cellsOf ty = 1 → cs[o]? = some c → ∃ n x, DataW.trod enc P w base spare held n ty [c] = some x := by
  obtain ⟨fs, hu, rfl⟩ := shape_some hs
  obtain ⟨cs, rfl, hsz⟩ := okWide_struct hu hv
  refine ⟨cs, rfl, hsz, fun ty o c hl h1 hc => ?_⟩
  obtain ⟨fuel, hf⟩ := h
  obtain ⟨xs, n, _, _, _, hxl, hat⟩ := DataW.trod_struct hu hf
  rw [List.mem_map] at hl
  obtain ⟨f, hmem, he⟩ := hl
  obtain ⟨i, hi, rfl⟩ := List.getElem_of_mem hmem
  simp only [Prod.mk.injEq] at he
  have hi' : i < fs.size := by simpa using hi
  have hg := hat i (fs.toList[i]) (by simp [hi'])
  rw [he.1, he.2, h1] at hg
  have hcl : (Value.agg cs).cells.toList = cs.toList := rfl
  rw [hcl] at hg
  have ht : (cs.toList.drop o).take 1 = [c] := by
    have hc' : cs.toList[o]? = some c := by simpa using hc
    obtain ⟨ho, hoe⟩ := List.getElem?_eq_some_iff.1 hc'
    rw [List.drop_eq_getElem_cons ho, hoe]
    rfl
  rw [ht] at hg
  have hx : xs[i]? = some (xs[i]'(by omega)) := List.getElem?_eq_getElem (by omega)
  exact ⟨n, _, hg.trans hx⟩

theorem word_of_trod {k : IntKind} {t : TypeId} {n : Nat} {c : Value} {x : DataW H × List MemPlace} (ht : P.underlying t = some (.int k)) (h : DataW.trod enc P w base spare held n t [c] = some x) : ∃ z, c = .int k z ∧ (Lit.int k z).wf = true := by
  obtain ⟨z, e, _, hw⟩ := DataW.trod_int ht h
  exact ⟨z, by simpa using e, hw⟩

/-- A struct's fields, each with its own cells. -/
theorem fields_of_trod {t : TypeId} {l : List (TypeId × Nat)} {n : Nat} {cs : List Value} {x : DataW H × List MemPlace} (hs : shape P t = some l) (h : DataW.trod enc P w base spare held n t cs = some x) :
    cs.length = P.cellsOf t ∧ ∀ ty o, (ty, o) ∈ l → ∃ n' x', DataW.trod enc P w base spare held n' ty ((cs.drop o).take (P.cellsOf ty)) = some x' := by
  obtain ⟨fs, hu, rfl⟩ := shape_some hs
  obtain ⟨xs, n', _, _, hlen, hxl, hat⟩ := DataW.trod_struct hu h
  refine ⟨hlen, fun ty o hl => ?_⟩
  rw [List.mem_map] at hl
  obtain ⟨f, hmem, he⟩ := hl
  obtain ⟨i, hi, rfl⟩ := List.getElem_of_mem hmem
  simp only [Prod.mk.injEq] at he
  have hi' : i < fs.size := by simpa using hi
  have hg := hat i (fs.toList[i]) (by simp [hi'])
  rw [he.1, he.2] at hg
  have hx : xs[i]? = some (xs[i]'(by omega)) := List.getElem?_eq_getElem (by omega)
  exact ⟨n', _, hg.trans hx⟩

theorem list_of {α : Type} {n : Nat} {p : Nat → α → Prop} (h : ∀ i, i < n → ∃ y, p i y) : ∃ l : List α, l.length = n ∧ ∀ i (hi : i < l.length), p i l[i] := by
  refine ⟨List.ofFn fun i : Fin n => Classical.choose (h i.1 i.2), List.length_ofFn, fun i hi => ?_⟩
  rw [List.getElem_ofFn]
  exact Classical.choose_spec (h i (by simpa using hi))
end

section
variable {H : Type} {enc : TypeId × Value → H} {w : World} {base : Nat} {spare : Nat → Bool} {held : Bool} {r : Reach} {b0 : Nat} {v : Value} {d : DataW H} {p : List MemPlace}
theorem und_int : Tryd.prog.underlying 3 = some (.int .i64) := by kernel_rfl
theorem und_u32 : Tryd.prog.underlying 30 = some (.int .u32) := by kernel_rfl
theorem und_u8 : Tryd.prog.underlying 5 = some (.int .u8) := by kernel_rfl
theorem und_code : Tryd.prog.underlying 26 = some (.int .i64) := by kernel_rfl
theorem und_bool : Tryd.prog.underlying 4 = some .bool := by kernel_rfl
theorem one_int : Tryd.prog.cellsOf 3 = 1 := by kernel_rfl
theorem one_u32 : Tryd.prog.cellsOf 30 = 1 := by kernel_rfl
theorem one_code : Tryd.prog.cellsOf 26 = 1 := by kernel_rfl
theorem shape_cfg : shape Tryd.prog 23 = some [(3, 0), (3, 1), (3, 2), (3, 3)] := by kernel_rfl
theorem size_cfg : Tryd.prog.cellsOf 23 = 4 := by kernel_rfl
theorem shape_call : shape Tryd.prog 32 = some [(3, 0), (3, 1), (30, 2), (3, 3), (3, 4), (26, 5), (30, 6)] := by kernel_rfl
theorem size_call : Tryd.prog.cellsOf 32 = 7 := by kernel_rfl

theorem open_cfg (hv : Value.okWide Tryd.prog w r b0 23 v) (h : DataW.Trod enc Tryd.prog w base spare held 23 v d p) : ∃ k K T M, v = cfg k K T M := by
  obtain ⟨cs, rfl, hsz, hat⟩ := open_struct shape_cfg hv h
  rw [size_cfg] at hsz
  obtain ⟨l⟩ := cs
  match l, hsz with
  | [c0, c1, c2, c3], _ =>
    obtain ⟨_, _, k0⟩ := hat _ _ c0 (.head _) one_int rfl
    obtain ⟨_, _, k1⟩ := hat _ _ c1 (.tail _ (.head _)) one_int rfl
    obtain ⟨_, _, k2⟩ := hat _ _ c2 (.tail _ (.tail _ (.head _))) one_int rfl
    obtain ⟨_, _, k3⟩ := hat _ _ c3 (.tail _ (.tail _ (.tail _ (.head _)))) one_int rfl
    obtain ⟨z0, rfl, _⟩ := word_of_trod und_int k0
    obtain ⟨z1, rfl, _⟩ := word_of_trod und_int k1
    obtain ⟨z2, rfl, _⟩ := word_of_trod und_int k2
    obtain ⟨z3, rfl, _⟩ := word_of_trod und_int k3
    exact ⟨z0, z1, z2, z3, rfl⟩
theorem wf_u32 {z : Int} (h : (Lit.int .u32 z).wf = true) : 0 ≤ z ∧ z < 4294967296 := by
  simp [Lit.wf, IntKind.min, IntKind.max, IntKind.bits, IntKind.signed] at h
  omega
theorem wf_u8 {z : Int} (h : (Lit.int .u8 z).wf = true) : 0 ≤ z ∧ z < 256 := by
  simp [Lit.wf, IntKind.min, IntKind.max, IntKind.bits, IntKind.signed] at h
  omega
theorem call_of_trod {n : Nat} {cs : List Value} {x : DataW H × List MemPlace} (h : DataW.trod enc Tryd.prog w base spare held n 32 cs = some x) : ∃ y : Cl, cs = clC y ∧ 0 ≤ y.val ∧ y.val < 4294967296 := by
  obtain ⟨hlen, hat⟩ := fields_of_trod shape_call h
  rw [size_call] at hlen
  match cs, hlen with
  | [c0, c1, c2, c3, c4, c5, c6], _ =>
    obtain ⟨_, _, k0⟩ := hat _ _ (.head _)
    obtain ⟨_, _, k1⟩ := hat _ _ (.tail _ (.head _))
    obtain ⟨_, _, k2⟩ := hat _ _ (.tail _ (.tail _ (.head _)))
    obtain ⟨_, _, k3⟩ := hat _ _ (.tail _ (.tail _ (.tail _ (.head _))))
    obtain ⟨_, _, k4⟩ := hat _ _ (.tail _ (.tail _ (.tail _ (.tail _ (.head _)))))
    obtain ⟨_, _, k5⟩ := hat _ _ (.tail _ (.tail _ (.tail _ (.tail _ (.tail _ (.head _))))))
    obtain ⟨_, _, k6⟩ := hat _ _ (.tail _ (.tail _ (.tail _ (.tail _ (.tail _ (.tail _ (.head _)))))))
    rw [one_int] at k0 k1 k3 k4
    rw [one_u32] at k2 k6
    rw [one_code] at k5
    obtain ⟨z0, rfl, _⟩ := word_of_trod und_int k0
    obtain ⟨z1, rfl, _⟩ := word_of_trod und_int k1
    obtain ⟨z2, rfl, w2⟩ := word_of_trod und_u32 k2
    obtain ⟨z3, rfl, _⟩ := word_of_trod und_int k3
    obtain ⟨z4, rfl, _⟩ := word_of_trod und_int k4
    obtain ⟨z5, rfl, _⟩ := word_of_trod und_code k5
    obtain ⟨z6, rfl, _⟩ := word_of_trod und_u32 k6
    exact ⟨⟨z0, z1, z2, z3, z4, z5, z6⟩, rfl, wf_u32 w2⟩

theorem cls_of_trod {n : Nat} {c : Value} {x : DataW H × List MemPlace} (h : DataW.trod enc Tryd.prog w base (fun _ => true) held n 24 [c] = some x) : ∃ l, Cls w w.heap.size c l ∧ ∀ x ∈ l, 0 ≤ x.val ∧ x.val < 4294967296 := by
  rcases Go.Deep.open_slice under_calls h with ⟨e1, _⟩ | ⟨a, len, cap, m, n', D, Pl, e1, hb, hl, hm, hmm, _, hat⟩
  · obtain rfl : c = .slice none 0 0 := by simpa using e1
    exact ⟨[], Sl.nil _ _ _, fun x hx => by cases hx⟩
  · obtain rfl : c = .slice (some a) len cap := by simpa using e1
    simp only [if_true] at hmm
    have each : ∀ i, i < len → ∃ y : Cl, w.cells? base (a.add (i * 7)) 7 = some (clC y) ∧ 0 ≤ y.val ∧ y.val < 4294967296 := fun i hi => by
      obtain ⟨cs', hc, ht⟩ := hat i (by omega)
      rw [size_call] at hc
      obtain ⟨y, rfl, hy⟩ := call_of_trod ht
      exact ⟨y, hc, hy⟩
    obtain ⟨l, hlen, hla⟩ := list_of each
    have hfl : ∀ l : List Cl, (l.flatMap clC).length = l.length * 7 := fun l => by
      induction l with
      | nil => rfl
      | cons y l ih => rw [List.flatMap_cons, List.length_append, ih]; simp [clC]; omega
    refine ⟨l, ⟨hfl l, some a, cap, by rw [hlen], by omega, hm, fun hn => ?_⟩, fun y hy => ?_⟩
    · have c0 := (World.cells?_some (hla 0 hn).1).2.2 0 (by omega)
      have c0' : w.cell? ((a.add (0 * 7)).add 0) = some (.int .i64 (l[0]).th) := c0
      have hsp := World.cell?_spot c0'
      have hblk := World.block_lt_of_cell? w _ c0'
      obtain ⟨b, o, sp⟩ := a
      have : sp = none := by simpa [Addr.add] using hsp
      subst this
      refine ⟨b, o, rfl, by simpa [Addr.add] using hblk, fun j u hu => ?_⟩
      have hj : j < l.length * 7 := by rw [← hfl l]; exact (List.getElem?_eq_some_iff.1 hu).1
      have hi : j / 7 < l.length := by omega
      have hje : j / 7 * 7 + j % 7 = j := by omega
      have hlt : j % 7 < (clC l[j / 7]).length := by show j % 7 < 7; omega
      have hu' := flat7_at hi (j % 7) _ (List.getElem?_eq_getElem hlt)
      rw [hje, hu] at hu'
      have hc := (World.cells?_some (hla (j / 7) hi).1).2.2 (j % 7) (by omega)
      rw [List.getElem?_eq_getElem hlt, ← hu', Go.Deep.add_add, hje] at hc
      rw [← hc]
      unfold Addr.add
      by_cases h0 : j = 0
      · subst h0; simp
      · simp [h0]
    · obtain ⟨i, hi, rfl⟩ := List.getElem_of_mem hy
      exact (hla i hi).2
end

/-! ### The table of the powers of ten -/
theorem gPow : Tryd.prog.globalNamed "internal/strconv.uint64pow10" = some 0 := by kernel_rfl
theorem tPow : (Tryd.prog.globals[0]?).map (·.type) = some 60 := by kernel_rfl
theorem und_pow : Tryd.prog.underlying 60 = some (.array 20 47) := by kernel_rfl
theorem und_u64 : Tryd.prog.underlying 47 = some (.int .u64) := by kernel_rfl
theorem one_u64 : Tryd.prog.cellsOf 47 = 1 := by kernel_rfl
theorem size_pow : Tryd.prog.cellsOf 60 = 20 := by kernel_rfl
def pows : List Int := (List.range 20).map fun i => ((10 ^ i : Nat) : Int)
theorem tab_of_reads {W : World} (h : Go.Lib.VarReads Tryd.prog W "internal/strconv.uint64pow10" (Go.Lib.tabData .u64 pows)) : Tab W := by
  obtain ⟨g, t, cs, fuel, p, hg, ht, hv, hd⟩ := h
  obtain rfl := Option.some.inj (gPow.symm.trans hg)
  obtain rfl := Option.some.inj (tPow.symm.trans ht)
  have hcs := Go.Lib.cells_of_tab und_pow und_u64 one_u64 size_pow hd
  have hc : ∀ i : Nat, i < 20 → W.cell? ⟨0, i, none⟩ = some (.int .u64 ((10 ^ i : Nat) : Int)) := by
    intro i hi
    rw [World.var?_cell hg hv i, ← Array.getElem?_toList, hcs]
    unfold pows
    simp [hi]
  refine ⟨?_, hc⟩
  exact (cells_of_cell (hc 0 (by decide))).1
end Go.Proofs.YtgchailmcbifdaaDoor.Jg
