/-  'StoreReplays': whatever the config and the steps: the law answers true, and each argument reads afterwards as before. No condition. -/
import Derived.Test.YtonhfgjofgbcdaaRows
import Derived.Test.YtonhfgjofgbcdaaOpen2
import Derived.Test.YtonhfgjofgbcdaaReplays2
import Derived.WalkKit
import Derived.ProofKit
import Derived.OpenShut
import Derived.ShutString
import Derived.ChangeOld
import Derived.Below
import Derived.SizedLaws
namespace Go.Proofs.Ytonhfgjofgbcdaa.storeReplays
open Go Go.Conc Go.ChangeShapes Go.WideShapes Go.ChangeAt Go.RowKit Go.Proofs.Ytonhfgjofgbcdaa.Jay Go.Proofs.Ytonhfgjofgbcdaa.Op Go.Proofs.Ytonhfgjofgbcdaa.Lw
set_option linter.unusedVariables false
set_option maxRecDepth 100000
theorem own : ownKnob Try.prog.godebug = none := by kernel_rfl
theorem laid : laidOutB Try.prog = true := by kernel_rfl
theorem rec_cfg : Try.prog.readableRec 36 = true := by kernel_rfl
theorem rec_steps : Try.prog.readableRec 37 = true := by kernel_rfl
theorem row_cfg : 36 < Try.prog.types.size := by decide +kernel
theorem row_steps : 37 < Try.prog.types.size := by decide +kernel

theorem called {W : World} {k K Tn Mn : Int} {v : Value} {l : List Rp.Sp} (hl : Rp.Sps W W.heap.size v l) :
    Calls Try.prog 4 #[St.cfg k K Tn Mn, v] W fun e W' => e = .returned (.bool true) ∧ Below W.heap.size W W' := by
  refine calls_of_j (fn := Try.f4) (c := tailOf 0 Try.f4.body) (Post := Yes () W) Try.func4 rfl (Rp.replays hl (Nat.le_refl _)) ?_ ?_
  · rintro v w' ⟨_, hb, hr⟩
    injection hr with hr
    exact ⟨by rw [hr], hb⟩
  · rintro ch w' ⟨_, _, hr⟩
    cases hr

theorem lifted (os : Os) (started : os.Started) (H : Type) (enc : TypeId × Value → H) :
    ReturnsInHanded {} Try.checked os 4 .any (Rows.storeReplaysSpec.pre6 enc Try.prog Try.f4 Rows.storeReplaysRow.domain false) (Rows.storeReplaysSpec.post enc Try.prog Try.f4 false true false false) := by
  refine returnsInHanded_of_change_sized (C := Try.checked) own started (by kernel_rfl) Try.func4
    (ChangeSpec.witness6 (enc := enc) (C := Try.checked) false ⟨#[], #[.agg #[.int .i64 0, .int .i64 0, .int .i64 0, .int .i64 0], .slice none 0 0], []⟩ 8 (by kernel_rfl) (by kernel_rfl) (by kernel_rfl) (by kernel_rfl)) ?_
  intro W base args ds gs before hval0 hW hcnd hsz0 _
  have hval : ∀ (j : Nat) t v, Try.f4.params[j]? = some t → args[j]? = some v → Value.okWide Try.prog W .any base t v := hval0
  have hW' := hW
  obtain ⟨p, q, hA0, hV, rfl, hfz, hnd⟩ := hW
  have hA : DataW.TrodAll enc Try.prog W 0 (fun _ => true) true Try.f4.params.toList args.toList ds p := hA0
  rw [Try.params4] at hA hval
  obtain ⟨v0, vs0, d0, ds0, p0, q0, hargs, rfl, rfl, h0, r0⟩ := trodAll_cons hA
  obtain ⟨v1, vs1, d1, ds1, p1, q1, rfl, rfl, rfl, h1, r1⟩ := trodAll_cons r0
  obtain ⟨rfl, rfl, rfl⟩ := trodAll_nil r1
  obtain rfl : args = #[v0, v1] := by cases args; simp_all
  obtain ⟨rfl, rfl⟩ := trodVars_none hV
  have hlt := DataW.TrodAll.lt hA
  obtain ⟨k, K, Tn, Mn, rfl⟩ := open_cfg (hval 0 36 v0 rfl rfl) h0
  obtain ⟨l, hl⟩ : ∃ l, Rp.Sps W W.heap.size v1 l := by
    obtain ⟨A, n, c, rfl⟩ := okWide_slice und_steps (hval 1 37 v1 rfl rfl)
    obtain ⟨fuel, hf⟩ := h1
    exact sps_of_trod hf
  clear hA0 hval0 hsz0
  refine (called hl).mono fun e W' ⟨he, bel⟩ => ?_
  subst he
  have k0 := Below.trod laid rec_cfg row_cfg h0 bel (fun x hx => hlt x (by simp [hx]))
  have k1 := Below.trod laid rec_steps row_steps h1 bel (fun x hx => hlt x (by simp [hx]))
  exact ⟨_, rfl, _, _, _, [], _, [], hW', trodAll_mk1 (shut_bool und_bool _), (trodAll_cons_mk k0 (trodAll_cons_mk k1 trodAll_mk0)), rfl, bel.frame _, fun h => by cases h⟩
theorem over : Rows.storeReplaysRow.holds Try.pinned (OpenSpec.ofChange Rows.storeReplaysSpec) :=
  OpenClaim.holds_of_wide 4 Try.f4 rfl rfl rfl rfl rfl rfl rfl ⟨rfl, rfl, rfl, rfl, rfl⟩ rfl rfl rfl rfl rfl (by kernel_rfl) Try.func4 (by kernel_rfl)
    (of_decide_eq_true (by kernel_rfl)) (by unfold Func.isWrapper; first | (rw [if_pos (by decide +kernel)]; kernel_rfl) | (rw [if_neg (by decide +kernel)]; exact ⟨rfl, rfl⟩))
    (fun os started H enc _ => lifted os started H enc)
theorem proved : Rows.StoreReplaysSaid := over
end Go.Proofs.Ytonhfgjofgbcdaa.storeReplays
namespace Go.Proofs.Ytonhfgjofgbcdaa
/-- The row, under a short name, for the claim. -/
theorem storeReplays_holds : Rows.StoreReplaysSaid := storeReplays.proved
end Go.Proofs.Ytonhfgjofgbcdaa
