/- A guard that was skipped itself. No program in sight. -/
import Derived.Test.YtgchailmcbifdaaDoorTail
namespace Go.Proofs.YtgchailmcbifdaaDoor.Jay
open Go Go.Conc
section
variable {P : Program} {γ : Type} {X : Turns γ} {fn : FuncId} {Q : γ → Exit → Act → World → Prop} {s : γ} {a : Act} {w : World} {ops : Array Oper} {o : Oper} {rest : List Oper}
theorem wanted_undef {i : Nat} {b : Bool} {d : Nat} (hg : o.guard = some (i, b)) (hd : (ops[i]?).bind (·.dst) = some d) (ht : a.tmps[d]? = some undef) : Region.wanted o (yielded ops a.tmps) = false := by
  unfold Region.wanted
  rw [hg]
  simp only [yielded, hd, Option.bind_some, ht]
  rfl
theorem lst_undef {i : Nat} {b : Bool} {d : Nat} (hg : o.guard = some (i, b)) (hd : (ops[i]?).bind (·.dst) = some d) (ht : a.tmps[d]? = some undef) (h : Lst P X fn ops Q rest s (a.put o.dst undef) w) : Lst P X fn ops Q (o :: rest) s a w :=
  lst_unwanted (wanted_undef hg hd ht) h
theorem j_then_mid {x : Code} {K : γ → Act → World → Prop} (M : γ → Act → World → Prop) (hx : Wp P X fn x (Then M Q) s a w) (hy : ∀ s' a' w', M s' a' w' → K s' a' w') : Wp P X fn x (Then K Q) s a w :=
  hx.mono fun s' e a' w' q => by cases e <;> first | exact hy _ _ _ q | exact q
end
end Go.Proofs.YtgchailmcbifdaaDoor.Jay
