/-  'JudgeWider': whatever the config, the history and the number: the law answers true, and each argument reads afterwards as before, where the three listed tables of Go's library read as its text lays them (which the card ties to that text). -/
import Derived.Test.YtgchailmcbifdaaDoorRows
import Derived.Test.YtgchailmcbifdaaDoorTie
import Derived.Test.YtgchailmcbifdaaDoorCards
import Derived.Test.YtgchailmcbifdaaDoorJgV
import Derived.WalkKit
import Derived.ProofKit
import Derived.LaidMore
import Derived.OpenShut
import Derived.Stop.Joined
import Derived.Below
import Derived.SevenTiedAt
namespace Go.Proofs.YtgchailmcbifdaaDoor.judgeWider
open Go Go.Conc Go.ChangeShapes Go.WideShapes Go.ChangeAt Go.RowKit Go.Proofs.YtgchailmcbifdaaDoor.Jay Go.Proofs.YtgchailmcbifdaaDoor.Jg
set_option linter.unusedVariables false
set_option maxRecDepth 100000
theorem own : ownKnob Tryd.prog.godebug = none := by kernel_rfl
theorem laidOut : laidOutB Tryd.prog = true := by kernel_rfl
theorem rec_cfg : Tryd.prog.readableRec 23 = true := by kernel_rfl
theorem rec_calls : Tryd.prog.readableRec 24 = true := by kernel_rfl
theorem rec_u8 : Tryd.prog.readableRec 5 = true := by kernel_rfl
theorem row_cfg : 23 < Tryd.prog.types.size := by decide +kernel
theorem row_calls : 24 < Tryd.prog.types.size := by decide +kernel
theorem row_u8 : 5 < Tryd.prog.types.size := by decide +kernel

theorem called {W : World} {k K T M m : Int} {v : Value} {l : List Cl} (hl : Cls W W.heap.size v l) (hgood : ∀ x ∈ l, 0 ≤ x.val ∧ x.val < 4294967296) (hT : Tab W) (hm : 0 ≤ m ∧ m < 256) :
    Calls Tryd.prog 3 #[cfg k K T M, v, .int .u8 m] W fun e W' => e = .returned (.bool true) ∧ Below W.heap.size W W' := by
  refine calls_of_j (fn := Tryd.f3) (c := tailOf 0 Tryd.f3.body) (Post := AwPost () W) Tryd.func3 rfl (law_wp hl hgood hT hm (fun _ h => h.elim)) ?_ ?_
  · rintro v w' ⟨_, hb, hr⟩
    injection hr with hr
    exact ⟨by rw [hr], hb⟩
  · rintro ch w' ⟨_, _, hr⟩
    cases hr

abbrev listed : List (String × DataW Unit) := [("math/bits.deBruijn32tab", Rows.laid_math_bits_deBruijn32tab), ("math/bits.deBruijn64tab", Rows.laid_math_bits_deBruijn64tab), ("internal/strconv.uint64pow10", Rows.laid_internal_strconv_uint64pow10)]
theorem tab_of_laid {W : World} (h : laidMetH Tryd.prog listed W) : Tab W := by
  rw [MakeChecks.laidMetH_plain _ _ _ (by kernel_rfl)] at h
  exact tab_of_reads (Go.Lib.laidMet.reads h (n := "internal/strconv.uint64pow10") (d := Go.Lib.tabData .u64 pows) (by simp [listed, show (Go.Lib.tabData .u64 pows : DataW Unit) = Rows.laid_internal_strconv_uint64pow10 from rfl]))
theorem door_met (os : Os) (args : Array Value) : laidMetH Tryd.prog listed ((World.doorLaid Tryd.prog 400 os).forCall (fun _ _ => 0) ⟨#[], args, []⟩).memory :=
  laidMetH_of_parts3 (fuel := 8) (laidMet_of_run' 8 (by kernel_rfl) (by kernel_rfl)) (by kernel_rfl) (by kernel_rfl)

theorem lifted (os : Os) (started : os.Started) (H : Type) (enc : TypeId × Value → H) :
    ReturnsInHanded {} Tryd.checked os 3 .any (fun w args => (Rows.judgeWiderSpec.pre enc Tryd.prog Tryd.f3 [] false w args ∧ laidMetH Tryd.prog listed w) ∧ sizedMet enc Tryd.prog Tryd.f3 (OpenSpec.ofChange Rows.judgeWiderSpec) false w args)
      (Rows.judgeWiderSpec.post enc Tryd.prog Tryd.f3 false true false false) := by
  refine returnsInHanded_of_change_and (C := Tryd.checked) (X := fun w _ => laidMetH Tryd.prog listed w) (fun _ _ _ hh h => h.of_heap hh) own started (by kernel_rfl) Tryd.func3
    (ChangeSpec.witness_shaped (enc := enc) (C := Tryd.checked) (os := os) (X := fun w _ => laidMetH Tryd.prog listed w) false (World.doorLaid Tryd.prog 400 os) #[.agg #[.int .i64 0, .int .i64 0, .int .i64 0, .int .i64 0], .slice none 0 0, .int .u8 0] 8 rfl (World.shaped_of_RefB (by kernel_rfl) (by kernel_rfl)) (by kernel_rfl) (by kernel_rfl) (by kernel_rfl) (door_met os _)) ?_
  intro W base args ds gs before hval0 hW _ _ hL _
  have hval : ∀ (j : Nat) t v, Tryd.f3.params[j]? = some t → args[j]? = some v → Value.okWide Tryd.prog W .any base t v := hval0
  have hW' := hW
  obtain ⟨p, q, hA0, hV, rfl, hfz, hnd⟩ := hW
  have hA : DataW.TrodAll enc Tryd.prog W 0 (fun _ => true) true Tryd.f3.params.toList args.toList ds p := hA0
  rw [Tryd.params3] at hA hval
  obtain ⟨v0, vs0, d0, ds0, p0, q0, hargs, rfl, rfl, h0, r0⟩ := trodAll_cons hA
  obtain ⟨v1, vs1, d1, ds1, p1, q1, rfl, rfl, rfl, h1, r1⟩ := trodAll_cons r0
  obtain ⟨v2, vs2, d2, ds2, p2, q2, rfl, rfl, rfl, h2, r2⟩ := trodAll_cons r1
  obtain ⟨rfl, rfl, rfl⟩ := trodAll_nil r2
  obtain rfl : args = #[v0, v1, v2] := by cases args; simp_all
  obtain ⟨rfl, rfl⟩ := trodVars_none hV
  have hlt := DataW.TrodAll.lt hA
  obtain ⟨k, K, Tn, Mn, rfl⟩ := open_cfg (hval 0 23 v0 rfl rfl) h0
  obtain ⟨l, hl, hgood⟩ : ∃ l, Cls W W.heap.size v1 l ∧ ∀ x ∈ l, 0 ≤ x.val ∧ x.val < 4294967296 := by
    obtain ⟨A, n, c, rfl⟩ := okWide_slice under_calls (hval 1 24 v1 rfl rfl)
    obtain ⟨fuel, hf⟩ := h1
    exact cls_of_trod hf
  obtain ⟨m, rfl, hm⟩ : ∃ m, v2 = .int .u8 m ∧ (0 ≤ m ∧ m < 256) := by
    obtain ⟨m, rfl⟩ := okWide_int und_u8 (hval 2 5 v2 rfl rfl)
    obtain ⟨fuel, hf⟩ := h2
    obtain ⟨z, e, w⟩ := word_of_trod und_u8 hf
    cases e
    exact ⟨m, rfl, wf_u8 w⟩
  have hT := tab_of_laid hL
  clear hA0 hval0
  refine (called hl hgood hT hm).mono fun e W' ⟨he, bel⟩ => ?_
  subst he
  have k0 := Below.trod laidOut rec_cfg row_cfg h0 bel (fun x hx => hlt x (by simp [hx]))
  have k1 := Below.trod laidOut rec_calls row_calls h1 bel (fun x hx => hlt x (by simp [hx]))
  have k2 := Below.trod laidOut rec_u8 row_u8 h2 bel (fun x hx => hlt x (by simp [hx]))
  exact ⟨_, rfl, _, _, _, [], _, [], hW', trodAll_mk1 (shut_bool und_bool _), (trodAll_cons_mk k0 (trodAll_cons_mk k1 (trodAll_cons_mk k2 trodAll_mk0))), rfl, bel.frame _, fun h => by cases h⟩
theorem over : Rows.judgeWiderRow.holds Tryd.pinned (OpenSpec.ofChange Rows.judgeWiderSpec) :=
  OpenClaim.holds_of_wide 3 Tryd.f3 rfl rfl rfl rfl rfl rfl rfl ⟨rfl, rfl, rfl, rfl, rfl⟩ rfl rfl rfl rfl rfl (by kernel_rfl) Tryd.func3 (by kernel_rfl)
    (of_decide_eq_true (by kernel_rfl)) (by unfold Func.isWrapper; first | (rw [if_pos (by decide +kernel)]; kernel_rfl) | (rw [if_neg (by decide +kernel)]; exact ⟨rfl, rfl⟩))
    (fun os started H enc _ => lifted os started H enc)
theorem proved : Rows.JudgeWiderSaid := over
theorem card : Rows.JudgeWiderCardSaid :=
  Claim7.holds_tied_plain_at .later [] [.data, .data, .data] true (true, "d162c04bd660da2ef9f42a3d3d440a211450166dea63e8b44881bc9568542258") false
    proved (fun _ h => by cases h) (by kernel_rfl) (fun _ h => by cases h) judgeWider_row_tie rfl ⟨rfl, rfl⟩ (by kernel_rfl) rfl
    (fun f fn hf hfn => by
      obtain rfl : f = 3 := Option.some.inj ((show Tryd.prog.funcNamed "shunting/shuntinglaw09.JudgeWider" = some 3 by kernel_rfl).symm.trans hf) |>.symm
      obtain rfl : fn = Tryd.f3 := (Option.some.inj (Tryd.func3.symm.trans hfn)).symm
      exact ⟨by kernel_rfl, fun j t ht => by
        rw [Tryd.params3] at ht
        have hm : t ∈ [23, 24, 5] := by simpa using Array.mem_of_getElem? ht
        have hall : ([23, 24, 5].all fun u => !Tryd.prog.wantsStandIn u) = true := by kernel_rfl
        exact (show Tryd.prog.wantsStandIn t = false by simpa using List.all_eq_true.1 hall t hm)⟩)
    (by kernel_rfl)
end Go.Proofs.YtgchailmcbifdaaDoor.judgeWider
namespace Go.Proofs.YtgchailmcbifdaaDoor
/-- The card, under a short name, for the claim. -/
theorem judgeWider_holds : Rows.JudgeWiderCardSaid := judgeWider.card
end Go.Proofs.YtgchailmcbifdaaDoor
