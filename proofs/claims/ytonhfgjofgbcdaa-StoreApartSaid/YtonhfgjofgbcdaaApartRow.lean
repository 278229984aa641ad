/-  'StoreApart': whatever the memory and the two accesses: the law answers true, and each argument reads afterwards as before. No condition. -/
import Derived.Test.YtonhfgjofgbcdaaRows
import Derived.Test.YtonhfgjofgbcdaaOpen
import Derived.Test.YtonhfgjofgbcdaaApart
import Derived.WalkKit
import Derived.ProofKit
import Derived.OpenShut
import Derived.ShutString
import Derived.ChangeOld
import Derived.Below
import Derived.SizedLaws
namespace Go.Proofs.Ytonhfgjofgbcdaa.storeApart
open Go Go.Conc Go.ChangeShapes Go.WideShapes Go.ChangeAt Go.RowKit Go.Proofs.Ytonhfgjofgbcdaa.Jay Go.Proofs.Ytonhfgjofgbcdaa.Op Go.Proofs.Ytonhfgjofgbcdaa.Lw
set_option linter.unusedVariables false
set_option maxRecDepth 100000
theorem own : ownKnob Try.prog.godebug = none := by kernel_rfl
theorem laid : laidOutB Try.prog = true := by kernel_rfl
theorem rec_mem : Try.prog.readableRec 25 = true := by kernel_rfl
theorem rec_acc : Try.prog.readableRec 27 = true := by kernel_rfl
theorem row_mem : 25 < Try.prog.types.size := by decide +kernel
theorem row_acc : 27 < Try.prog.types.size := by decide +kernel
theorem und_bool : Try.prog.underlying 4 = some .bool := by kernel_rfl

theorem called {W : World} {m : St.Mem} {v : Value} {a0 a1 a2 a3 a4 b0 b1 b2 b3 b4 : Int} (hm : St.MemV W W.heap.size m v) :
    Calls Try.prog 3 #[v, .agg (St.acc a0 a1 a2 a3 a4), .agg (St.acc b0 b1 b2 b3 b4)] W fun e W' => e = .returned (.bool true) ∧ Below W.heap.size W W' := by
  refine calls_of_j (fn := Try.f3) (c := tailOf 0 Try.f3.body) (Post := Yes () W) Try.func3 rfl (apart hm (Nat.le_refl _)) ?_ ?_
  · rintro v w' ⟨_, hb, hr⟩
    injection hr with hr
    exact ⟨by rw [hr], hb⟩
  · rintro ch w' ⟨_, _, hr⟩
    cases hr

theorem lifted (os : Os) (started : os.Started) (H : Type) (enc : TypeId × Value → H) :
    ReturnsInHanded {} Try.checked os 3 .any (Rows.storeApartSpec.pre6 enc Try.prog Try.f3 Rows.storeApartRow.domain false) (Rows.storeApartSpec.post enc Try.prog Try.f3 false true false false) := by
  refine returnsInHanded_of_change_sized (C := Try.checked) own started (by kernel_rfl) Try.func3
    (ChangeSpec.witness6 (enc := enc) (C := Try.checked) false ⟨#[], #[.agg #[.int .u64 0, .int .u64 0, .slice none 0 0, .slice none 0 0, .int .u64 0, .int .u64 0, .slice none 0 0, .slice none 0 0, .slice none 0 0], .agg #[.int .i64 0, .int .i64 0, .int .i64 0, .int .u64 0, .int .u64 0], .agg #[.int .i64 0, .int .i64 0, .int .i64 0, .int .u64 0, .int .u64 0]], []⟩ 8 (by kernel_rfl) (by kernel_rfl) (by kernel_rfl) (by kernel_rfl)) ?_
  intro W base args ds gs before hval0 hW hcnd hsz0 _
  have hval : ∀ (j : Nat) t v, Try.f3.params[j]? = some t → args[j]? = some v → Value.okWide Try.prog W .any base t v := hval0
  have hW' := hW
  obtain ⟨p, q, hA0, hV, rfl, hfz, hnd⟩ := hW
  have hA : DataW.TrodAll enc Try.prog W 0 (fun _ => true) true Try.f3.params.toList args.toList ds p := hA0
  rw [Try.params3] at hA hval
  obtain ⟨v0, vs0, d0, ds0, p0, q0, hargs, rfl, rfl, h0, r0⟩ := trodAll_cons hA
  obtain ⟨v1, vs1, d1, ds1, p1, q1, rfl, rfl, rfl, h1, r1⟩ := trodAll_cons r0
  obtain ⟨v2, vs2, d2, ds2, p2, q2, rfl, rfl, rfl, h2, r2⟩ := trodAll_cons r1
  obtain ⟨rfl, rfl, rfl⟩ := trodAll_nil r2
  obtain rfl : args = #[v0, v1, v2] := by cases args; simp_all
  obtain ⟨rfl, rfl⟩ := trodVars_none hV
  have hlt := DataW.TrodAll.lt hA
  obtain ⟨m, hm⟩ := open_mem (hval 0 25 v0 rfl rfl) h0
  obtain ⟨a0, a1, a2, a3, a4, rfl⟩ := open_acc (hval 1 27 v1 rfl rfl) h1
  obtain ⟨b0, b1, b2, b3, b4, rfl⟩ := open_acc (hval 2 27 v2 rfl rfl) h2
  clear hA0 hval0 hsz0
  refine (called hm).mono fun e W' ⟨he, bel⟩ => ?_
  subst he
  have k0 := Below.trod laid rec_mem row_mem h0 bel (fun x hx => hlt x (by simp [hx]))
  have k1 := Below.trod laid rec_acc row_acc h1 bel (fun x hx => hlt x (by simp [hx]))
  have k2 := Below.trod laid rec_acc row_acc h2 bel (fun x hx => hlt x (by simp [hx]))
  exact ⟨_, rfl, _, _, _, [], _, [], hW', trodAll_mk1 (shut_bool und_bool _), (trodAll_cons_mk k0 (trodAll_cons_mk k1 (trodAll_cons_mk k2 trodAll_mk0))), rfl, bel.frame _, fun h => by cases h⟩
theorem over : Rows.storeApartRow.holds Try.pinned (OpenSpec.ofChange Rows.storeApartSpec) :=
  OpenClaim.holds_of_wide 3 Try.f3 rfl rfl rfl rfl rfl rfl rfl ⟨rfl, rfl, rfl, rfl, rfl⟩ rfl rfl rfl rfl rfl (by kernel_rfl) Try.func3 (by kernel_rfl)
    (of_decide_eq_true (by kernel_rfl)) (by unfold Func.isWrapper; first | (rw [if_pos (by decide +kernel)]; kernel_rfl) | (rw [if_neg (by decide +kernel)]; exact ⟨rfl, rfl⟩))
    (fun os started H enc _ => lifted os started H enc)
theorem proved : Rows.StoreApartSaid := over
end Go.Proofs.Ytonhfgjofgbcdaa.storeApart
namespace Go.Proofs.Ytonhfgjofgbcdaa
/-- The row, under a short name, for the claim. -/
theorem storeApart_holds : Rows.StoreApartSaid := storeApart.proved
end Go.Proofs.Ytonhfgjofgbcdaa
