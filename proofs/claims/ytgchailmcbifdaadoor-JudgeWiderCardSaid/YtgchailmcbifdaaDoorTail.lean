/- A long body, cut: its right tails. No program in sight. -/
import Derived.Test.YtgchailmcbifdaaDoorDraw
namespace Go.Proofs.YtgchailmcbifdaaDoor.Jay
open Go Go.Conc

/-- The n-th right tail of a body. -/
def tailOf : Nat → Option Code → Code
  | 0, some c => c
  | n + 1, some (.seq _ b) => tailOf n (some b)
  | _, _ => .skip

/-- What stands ahead of the tail behind it. -/
def headOf : Nat → Option Code → Code
  | 0, some (.seq a _) => a
  | n + 1, some (.seq _ b) => headOf n (some b)
  | _, _ => .skip

section
variable {P : Program} {γ : Type} {X : Turns γ} {fn : FuncId} {Q : γ → Exit → Act → World → Prop} {s : γ} {a : Act} {w : World} {ops : Array Oper} {o : Oper} {rest : List Oper}
theorem wanted_free (h : o.guard = none) (y : Nat → Option Bool) : Region.wanted o y = true := by unfold Region.wanted; rw [h]
theorem wanted_at {i : Nat} {b c : Bool} {d : Nat} (hg : o.guard = some (i, b)) (hd : (ops[i]?).bind (·.dst) = some d) (ht : a.tmps[d]? = some (.bool c)) : Region.wanted o (yielded ops a.tmps) = (c == b) := by
  unfold Region.wanted
  rw [hg]
  simp only [yielded, hd, Option.bind_some, ht]
  cases c <;> cases b <;> rfl
theorem lst_any {l : List Oper} (h : Lst P X fn ops Q l s a w) : Lst P X fn ops Q l s a w := h
theorem lst_free (hg : o.guard = none) (hf : X.there s w → Fine P (X.oth s) fn o a w)
    (h : ∀ K : γ → Act → World → Prop, (∀ s a w, Lst P X fn ops Q rest s a w → K s a w) → Upon P X o a s K Q ((execOp a.eval o).run P w)) : Lst P X fn ops Q (o :: rest) s a w := lst_cons (wanted_free hg _) hf h
theorem lst_on {i : Nat} {b : Bool} {d : Nat} (hg : o.guard = some (i, b)) (hd : (ops[i]?).bind (·.dst) = some d) (ht : a.tmps[d]? = some (.bool b)) (hf : X.there s w → Fine P (X.oth s) fn o a w)
    (h : ∀ K : γ → Act → World → Prop, (∀ s a w, Lst P X fn ops Q rest s a w → K s a w) → Upon P X o a s K Q ((execOp a.eval o).run P w)) : Lst P X fn ops Q (o :: rest) s a w := lst_cons (by rw [wanted_at hg hd ht]; cases b <;> rfl) hf h
theorem lst_off {i : Nat} {b : Bool} {d : Nat} (hg : o.guard = some (i, b)) (hd : (ops[i]?).bind (·.dst) = some d) (ht : a.tmps[d]? = some (.bool (!b))) (h : Lst P X fn ops Q rest s (a.put o.dst undef) w) : Lst P X fn ops Q (o :: rest) s a w :=
  lst_unwanted (by rw [wanted_at hg hd ht]; cases b <;> rfl) h
end
end Go.Proofs.YtgchailmcbifdaaDoor.Jay
