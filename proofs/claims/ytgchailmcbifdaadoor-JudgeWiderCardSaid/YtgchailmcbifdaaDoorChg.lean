/- What a walk may have changed: some blocks of the caller's, and new ones. No program in sight. -/
import Derived.Test.YtgchailmcbifdaaDoorRow
import Derived.Laws.AppendOwn
namespace Go.Proofs.YtgchailmcbifdaaDoor.Jay
open Go Go.Conc Go.RowKit

/-- Of the blocks that were there, at most those of S have changed. -/
structure Chg (S : Nat → Prop) (w w' : World) : Prop where
  os : w'.os = w.os
  tape : w'.tape = w.tape
  output : w'.output = w.output
  size : w.heap.size ≤ w'.heap.size
  block : ∀ k, k < w.heap.size → ¬ S k → w'.heap[k]? = w.heap[k]?

section
variable {S S' : Nat → Prop} {w w' w'' : World} {B : Nat}
theorem Chg.refl (S : Nat → Prop) (w : World) : Chg S w w := ⟨rfl, rfl, rfl, Nat.le_refl _, fun _ _ _ => rfl⟩
theorem Chg.trans (h : Chg S w w') (k : Chg S w' w'') : Chg S w w'' :=
  ⟨k.os.trans h.os, k.tape.trans h.tape, k.output.trans h.output, Nat.le_trans h.size k.size, fun i hi hs => (k.block i (Nat.lt_of_lt_of_le hi h.size) hs).trans (h.block i hi hs)⟩
theorem Chg.mono (h : Chg S w w') (hS : ∀ k, k < w.heap.size → S k → S' k) : Chg S' w w' := ⟨h.os, h.tape, h.output, h.size, fun k hk hn => h.block k hk fun hs => hn (hS k hk hs)⟩
theorem Chg.of_below (h : Below w.heap.size w w') : Chg S w w' := ⟨h.os, h.tape, h.output, h.size, fun k hk _ => h.block k hk⟩
theorem Chg.below (h : Chg S w w') (hS : ∀ k, S k → B ≤ k) (hB : B ≤ w.heap.size) : Below B w w' := ⟨h.os, h.tape, h.output, h.size, fun k hk => h.block k (by omega) fun hs => by have := hS k hs; omega⟩
theorem Chg.drew (h : Chg S w w') : Chg S w w'.drew := ⟨h.os, h.tape, h.output, h.size, h.block⟩
theorem Chg.alloc (h : Chg S w w') (o : Obj) : Chg S w (w'.alloc o) := h.trans (.of_below ((Below.refl _ _).alloc (Nat.le_refl _) o))
theorem Chg.set_ (h : Chg S w w') {p : Addr} (hp : S p.block) (v : Value) : Chg S w (w'.setCell p v) :=
  ⟨h.os, h.tape, h.output, by rw [size_setCell]; exact h.size, fun k hk hs => (Below.heap_setCell w' p v k (fun e => hs (e ▸ hp))).trans (h.block k hk hs)⟩
theorem Chg.row (h : Chg S w w') {g : Nat} (hg : S g) (cs : Array Value) : Chg S w (w'.setRow g cs) :=
  ⟨h.os, h.tape, h.output, by rw [setRow_size]; exact h.size, fun k hk hs => (setRow_other w' g k cs (fun e => hs (e ▸ hg))).trans (h.block k hk hs)⟩
theorem Chg.grown {row : Option Nat} (h : Chg S w w') (hg : w'.grownBy w'' row) (hr : ∀ k, row = some k → S k) : Chg S w w'' :=
  ⟨hg.os.trans h.os, hg.tape.trans h.tape, hg.output.trans h.output, Nat.le_trans h.size hg.size, fun k hk hs => (hg.block k (Nat.lt_of_lt_of_le hk h.size) (fun e => hs (hr k e.symm))).trans (h.block k hk hs)⟩
theorem Blk.chg {g : Nat} {t : TypeId} {cs : Array Value} (h : Blk w g t cs) (hc : Chg S w w') (hg : ¬ S g) : Blk w' g t cs := (hc.block g h.lt hg).trans h
theorem Chg.cell (h : Chg S w w') {p : Addr} (hp : p.block < w.heap.size) (hs : ¬ S p.block) : w'.cell? p = w.cell? p := World.cell?_of_block (h.block p.block hp hs)

/-! ### What a run owns, from world to world -/
variable {base size n : Nat} {e : TypeId} {v : Value} {xs : List Value}
theorem own_keep (h : w.ownsRow base e size v n xs) (hk : ∀ g, v.ownBlock = some g → g < w.heap.size → w'.heap[g]? = w.heap[g]?) : w'.ownsRow base e size v n xs := by
  obtain ⟨h1, h2 | ⟨g, cap, cur, rfl, hb, hg, h3, h4, h5, h6⟩⟩ := h
  · exact ⟨h1, .inl h2⟩
  · exact ⟨h1, .inr ⟨g, cap, cur, rfl, hb, (hk g rfl (Array.getElem?_eq_some_iff.1 hg).1).trans hg, h3, h4, h5, h6⟩⟩
theorem own_chg (h : w.ownsRow base e size v n xs) (hc : Chg S w w') (hn : ∀ g, v.ownBlock = some g → ¬ S g) : w'.ownsRow base e size v n xs := own_keep h fun g hg hl => hc.block g hl (hn g hg)
theorem own_row (h : w.ownsRow base e size v n xs) {g' : Nat} (cs : Array Value) (hn : ∀ g, v.ownBlock = some g → g ≠ g') : (w.setRow g' cs).ownsRow base e size v n xs := own_keep h fun g hg _ => setRow_other w g' g cs (hn g hg)
theorem own_drew (h : w.ownsRow base e size v n xs) : w.drew.ownsRow base e size v n xs := h
theorem own_alloc (h : w.ownsRow base e size v n xs) (o : Obj) : (w.alloc o).ownsRow base e size v n xs := own_keep h fun g _ hl => Below.heap_alloc w o g hl
theorem own_lt (h : w.ownsRow base e size v n xs) {g : Nat} (hg : v.ownBlock = some g) : g < w.heap.size := by
  obtain ⟨h1, ⟨rfl, _⟩ | ⟨g', cap, cur, rfl, hb, hg', _⟩⟩ := h
  · cases hg
  · have : g' = g := Option.some.inj hg
    subst this
    exact (Array.getElem?_eq_some_iff.1 hg').1
end
end Go.Proofs.YtgchailmcbifdaaDoor.Jay
