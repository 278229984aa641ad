/- The walk of 'WordOrder': the function returns true at all six numbers of their kinds, in every memory; no condition. Contracts of the functions that it calls: the printed ones of 'WordPacks'. -/
import Derived.Test.YtaicnfbldhcchaaPureWordPacks
namespace Go.Proofs.Ytaicnfbldhcchaa.Ord
open Go.RowKit Go.Proofs.Ytaicnfbldhcchaa.PWordPacks Go.Proofs.Ytaicnfbldhcchaa.Pure Go.Proofs.YtaicnfbldhcchaaW.PrintWords Go.Proofs.YtaicnfbldhcchaaW.PrintLast Go.Proofs.YtaicnfbldhcchaaW.PrintMore

theorem in16 {n : Int} (h : (Lit.int .u16 n).wf = true) : 0 ≤ n ∧ n ≤ 65535 := by
  simp [Lit.wf, IntKind.min, IntKind.max, IntKind.bits, IntKind.signed] at h; omega

/-- What the five words come to, and how they stand to one another. -/
theorem facts (a b x y h k : Int) (a0 : 0 ≤ a) (a1 : a ≤ 4294967295) (b0 : 0 ≤ b) (b1 : b ≤ 4294967295) (x0 : 0 ≤ x) (x1 : x ≤ 4294967295) (y0 : 0 ≤ y) (y1 : y ≤ 4294967295)
    (h0 : 0 ≤ h) (h1 : h ≤ 65535) (k0 : 0 ≤ k) (k1 : k ≤ 65535) :
    ∃ p q s r u v : Int, word_Pack.f a x = some p ∧ word_Pack.f b y = some q ∧ word_Slot.f a x = some s ∧ word_Bare.f a = some r ∧ word_Ref.f a h = some u ∧ word_Ref.f a k = some v ∧
      (a < b → decide (q ≤ p) = false) ∧ (a = b → decide (p < q) = decide (x < y)) ∧ ((s == r) = (x == 4294967295)) ∧ ((u == v) = (h == k)) ∧ (u != r) = true := by
  refine ⟨_, _, _, _, _, _, wp_pack a x a0 (by omega) x0 (by omega), wp_pack b y b0 (by omega) y0 (by omega), wp_slot a x a0 a1, wp_bare a a0 a1, wp_ref a h a0 a1, wp_ref a k a0 a1, ?_, ?_, ?_, ?_, ?_⟩
  · intro hab; rw [decide_eq_false_iff_not]; omega
  · intro hab; rw [decide_eq_decide]; omega
  · rw [Bool.eq_iff_iff, beq_iff_eq, beq_iff_eq]; omega
  · rw [Bool.eq_iff_iff, beq_iff_eq, beq_iff_eq]; omega
  · rw [bne_iff_ne]; omega

set_option maxHeartbeats 2000000 in
set_option maxRecDepth 100000 in
theorem order (a b x y h k : Int) (w : World) (wa : (Lit.int .u32 a).wf = true) (wb : (Lit.int .u32 b).wf = true) (wx : (Lit.int .u32 x).wf = true) (wy : (Lit.int .u32 y).wf = true) (wh : (Lit.int .u16 h).wf = true) (wk : (Lit.int .u16 k).wf = true) :
    Calls Try.prog 3 #[.int .u32 a, .int .u32 b, .int .u32 x, .int .u32 y, .int .u16 h, .int .u16 k] w fun e w' => e = .returned (.bool true) ∧ Below w.heap.size w w' := by
  have ⟨a0, a1⟩ := wp_in32 wa
  have ⟨b0, b1⟩ := wp_in32 wb
  have ⟨x0, x1⟩ := wp_in32 wx
  have ⟨y0, y1⟩ := wp_in32 wy
  have ⟨h0, h1⟩ := in16 wh
  have ⟨k0, k1⟩ := in16 wk
  obtain ⟨p, q, s, r, u, v, fp, fq, fs, fr, fu, fv, c1, c2, c3, c4, c5⟩ := facts a b x y h k a0 a1 b0 b1 x0 x1 y0 y1 h0 h1 k0 k1
  have Fp := Aside0.mk fp; have Fq := Aside0.mk fq; have Fs := Aside0.mk fs; have Fr := Aside0.mk fr; have Fu := Aside0.mk fu; have Fv := Aside0.mk fv
  clear fp fq fs fr fu fv
  refine Calls.mono (R := fun e w' => e = .returned (.bool true) ∧ Drawn0 w w') ?_ (fun e w' ⟨he, hd⟩ => ⟨he, hd.below⟩)
  have A : Aside0 (shuntinglaw01_awake.f = some true) := Aside0.mk wp_awake
  have C3 := Aside0.mk c3
  have C4 := Aside0.mk c4
  have C5 := Aside0.mk c5
  clear c3 c4 c5
  have W : Aside0 (wrap64 h = h) := Aside0.mk (by unfold wrap64; omega)
  have V : Aside0 (wrap64 k = k) := Aside0.mk (by unfold wrap64; omega)
  rcases Int.lt_trichotomy a b with hab | hab | hab
  · have d1 := decide_eq_true hab
    have d2 := c1 hab
    have d3 : (a == b) = false := beq_eq_false_iff_ne.mpr (by omega)
    clear c1 c2
    go_enter Try.func3, Try.ntmps3
    go_wp2_with fail
    refine (shuntinglaw01_awake.calls true _ A.out).mono ?_; rintro e w' ⟨rfl, ⟨nd, rfl⟩⟩
    go_wp2_with fail
    refine (word_Pack.calls a x p _ Fp.out).mono ?_; rintro e w' ⟨rfl, ⟨nd, rfl⟩⟩
    go_wp2_with fail
    refine (word_Pack.calls b y q _ Fq.out).mono ?_; rintro e w' ⟨rfl, ⟨nd, rfl⟩⟩
    go_wp2_with fail
    refine (word_Slot.calls a x s _ Fs.out).mono ?_; rintro e w' ⟨rfl, ⟨nd, rfl⟩⟩
    go_wp2_with fail
    refine (word_Bare.calls a r _ Fr.out).mono ?_; rintro e w' ⟨rfl, ⟨nd, rfl⟩⟩
    have t1 : ((s == r) == (x == 4294967295)) = true := by rw [C3.out]; simp
    go_wp2_with fail
    try simp only [W.out, V.out]
    refine (word_Ref.calls a h u _ Fu.out).mono ?_; rintro e w' ⟨rfl, ⟨nd, rfl⟩⟩
    go_wp2_with fail
    try simp only [W.out, V.out]
    refine (word_Ref.calls a k v _ Fv.out).mono ?_; rintro e w' ⟨rfl, ⟨nd, rfl⟩⟩
    have t2 : ((u == v) == (h == k)) = true := by rw [C4.out]; simp
    go_wp2_with fail
    try simp only [W.out, V.out]
    refine (word_Ref.calls a h u _ Fu.out).mono ?_; rintro e w' ⟨rfl, ⟨nd, rfl⟩⟩
    go_wp2_with fail
    refine (word_Bare.calls a r _ Fr.out).mono ?_; rintro e w' ⟨rfl, ⟨nd, rfl⟩⟩
    go_wp2_with fail
    go_ret
    exact ⟨by rw [C5.out]; rfl, by repeat (first | exact Drawn0.refl _ | apply Drawn0.step)⟩
  · have d1 : decide (a < b) = false := decide_eq_false (by omega)
    have D2 := Aside0.mk (c2 hab)
    have d3 : (a == b) = true := beq_iff_eq.mpr hab
    have d4 : (decide (p < q) == decide (x < y)) = true := by rw [D2.out]; simp
    clear c1 c2 hab
    go_enter Try.func3, Try.ntmps3
    go_wp2_with fail
    refine (shuntinglaw01_awake.calls true _ A.out).mono ?_; rintro e w' ⟨rfl, ⟨nd, rfl⟩⟩
    go_wp2_with fail
    refine (word_Pack.calls a x p _ Fp.out).mono ?_; rintro e w' ⟨rfl, ⟨nd, rfl⟩⟩
    go_wp2_with fail
    refine (word_Pack.calls b y q _ Fq.out).mono ?_; rintro e w' ⟨rfl, ⟨nd, rfl⟩⟩
    go_wp2_with fail
    refine (word_Slot.calls a x s _ Fs.out).mono ?_; rintro e w' ⟨rfl, ⟨nd, rfl⟩⟩
    go_wp2_with fail
    refine (word_Bare.calls a r _ Fr.out).mono ?_; rintro e w' ⟨rfl, ⟨nd, rfl⟩⟩
    have t1 : ((s == r) == (x == 4294967295)) = true := by rw [C3.out]; simp
    go_wp2_with fail
    try simp only [W.out, V.out]
    refine (word_Ref.calls a h u _ Fu.out).mono ?_; rintro e w' ⟨rfl, ⟨nd, rfl⟩⟩
    go_wp2_with fail
    try simp only [W.out, V.out]
    refine (word_Ref.calls a k v _ Fv.out).mono ?_; rintro e w' ⟨rfl, ⟨nd, rfl⟩⟩
    have t2 : ((u == v) == (h == k)) = true := by rw [C4.out]; simp
    go_wp2_with fail
    try simp only [W.out, V.out]
    refine (word_Ref.calls a h u _ Fu.out).mono ?_; rintro e w' ⟨rfl, ⟨nd, rfl⟩⟩
    go_wp2_with fail
    refine (word_Bare.calls a r _ Fr.out).mono ?_; rintro e w' ⟨rfl, ⟨nd, rfl⟩⟩
    go_wp2_with fail
    go_ret
    exact ⟨by rw [C5.out]; rfl, by repeat (first | exact Drawn0.refl _ | apply Drawn0.step)⟩
  · have d1 : decide (a < b) = false := decide_eq_false (by omega)
    have d3 : (a == b) = false := beq_eq_false_iff_ne.mpr (by omega)
    clear c1 c2
    go_enter Try.func3, Try.ntmps3
    go_wp2_with fail
    refine (shuntinglaw01_awake.calls true _ A.out).mono ?_; rintro e w' ⟨rfl, ⟨nd, rfl⟩⟩
    go_wp2_with fail
    refine (word_Pack.calls a x p _ Fp.out).mono ?_; rintro e w' ⟨rfl, ⟨nd, rfl⟩⟩
    go_wp2_with fail
    refine (word_Pack.calls b y q _ Fq.out).mono ?_; rintro e w' ⟨rfl, ⟨nd, rfl⟩⟩
    go_wp2_with fail
    refine (word_Slot.calls a x s _ Fs.out).mono ?_; rintro e w' ⟨rfl, ⟨nd, rfl⟩⟩
    go_wp2_with fail
    refine (word_Bare.calls a r _ Fr.out).mono ?_; rintro e w' ⟨rfl, ⟨nd, rfl⟩⟩
    have t1 : ((s == r) == (x == 4294967295)) = true := by rw [C3.out]; simp
    go_wp2_with fail
    try simp only [W.out, V.out]
    refine (word_Ref.calls a h u _ Fu.out).mono ?_; rintro e w' ⟨rfl, ⟨nd, rfl⟩⟩
    go_wp2_with fail
    try simp only [W.out, V.out]
    refine (word_Ref.calls a k v _ Fv.out).mono ?_; rintro e w' ⟨rfl, ⟨nd, rfl⟩⟩
    have t2 : ((u == v) == (h == k)) = true := by rw [C4.out]; simp
    go_wp2_with fail
    try simp only [W.out, V.out]
    refine (word_Ref.calls a h u _ Fu.out).mono ?_; rintro e w' ⟨rfl, ⟨nd, rfl⟩⟩
    go_wp2_with fail
    refine (word_Bare.calls a r _ Fr.out).mono ?_; rintro e w' ⟨rfl, ⟨nd, rfl⟩⟩
    go_wp2_with fail
    go_ret
    exact ⟨by rw [C5.out]; rfl, by repeat (first | exact Drawn0.refl _ | apply Drawn0.step)⟩
end Go.Proofs.Ytaicnfbldhcchaa.Ord
