-- PRINTED BY print.sh 35421559b90ae4d0a3588c463048766b98c2df88dd9212a6774a882060cdf62d: not written by this session
import Derived.Test.YtaicnfbldhcchaaPWordPacksx0
namespace Go.Proofs.Ytaicnfbldhcchaa.PWordPacks
open Go.RowKit Go.Proofs.YtaicnfbldhcchaaW.PrintWords Go.Proofs.YtaicnfbldhcchaaW.PrintLast Go.Proofs.YtaicnfbldhcchaaW.PrintMore
attribute [local go_sem] max2_int min2_int max_two min_two max_three min_three max_four min_four   -- for this text's walks alone
set_option linter.unusedVariables false
set_option linter.unusedSimpArgs false

/-! ### word_Pack: function 7 -/
def word_Pack.f (a0 : Int) (a1 : Int) : Option (Int) := some (Go.bits .or .u64 (IntKind.u64.wrap ((IntKind.u64.wrap (a0)) * 4294967296)) (IntKind.u64.wrap (a1)))
set_option maxHeartbeats 8000000 in
set_option maxRecDepth 100000 in
theorem word_Pack.calls (a0 : Int) (a1 : Int) (r : Int) (w : World) (h : word_Pack.f a0 a1 = some r) :
    Calls Try.prog 7 #[.int .u32 a0, .int .u32 a1] w fun e w' => e = .returned (.int .u64 r) ∧ Drawn0 w w' := by
  have H : (some (Go.bits .or .u64 (IntKind.u64.wrap ((IntKind.u64.wrap (a0)) * 4294967296)) (IntKind.u64.wrap (a1)))) = some r := h
  clear h
  obtain rfl := Option.some.inj H
  go_enter Try.func7, Try.ntmps7
  go_wp2
  go_ret
  exact ⟨by first | rfl | (simp; done) | (simp [*]; done), by repeat (first | exact Drawn0.refl _ | apply Drawn0.step)⟩

/-! ### word_Slot: function 8 -/
def word_Slot.f (a0 : Int) (a1 : Int) : Option (Int) := (word_Pack.f a0 ((a1 + 1) % 4294967296)).bind fun t101 => (some t101)
set_option maxHeartbeats 8000000 in
set_option maxRecDepth 100000 in
theorem word_Slot.calls (a0 : Int) (a1 : Int) (r : Int) (w : World) (h : word_Slot.f a0 a1 = some r) :
    Calls Try.prog 8 #[.int .u32 a0, .int .u32 a1] w fun e w' => e = .returned (.int .u64 r) ∧ Drawn0 w w' := by
  have H : ((word_Pack.f a0 ((a1 + 1) % 4294967296)).bind fun t101 => (some t101)) = some r := h
  clear h
  replace H := Option.bind_eq_some_iff.mp H
  obtain ⟨t101, A30, H⟩ := H
  replace H : (some t101) = some r := H
  have A3 := Aside0.mk A30
  clear A30
  obtain rfl := Option.some.inj H
  go_enter Try.func8, Try.ntmps8
  go_wp2_with (first | ((with_reducible refine gate_callee (f := 7) rfl ?_); refine goesL_ (some 8) rfl rfl Try.func7 (by kernel_rfl) rfl #[.int .u32 a0, .int .u32 ((a1 + 1) % 4294967296)] rfl (by (try simp only [List.map_toArray, List.map_cons, List.map_nil]); first | done | rfl | (simp only [List.length_drop, List.length_take]; rfl)) ?_; (with_reducible refine (word_Pack.calls a0 ((a1 + 1) % 4294967296) t101 _ A3.out).mono ?_); rintro e w' ⟨rfl, ⟨nd, rfl⟩⟩; refine ⟨_, rfl, ?_⟩))
  go_ret
  exact ⟨by first | rfl | (simp; done) | (simp [*]; done), by repeat (first | exact Drawn0.refl _ | apply Drawn0.step)⟩

/-! ### word_Bare: function 9 -/
def word_Bare.f (a0 : Int) : Option (Int) := (word_Pack.f a0 0).bind fun t102 => (some t102)
set_option maxHeartbeats 8000000 in
set_option maxRecDepth 100000 in
theorem word_Bare.calls (a0 : Int) (r : Int) (w : World) (h : word_Bare.f a0 = some r) :
    Calls Try.prog 9 #[.int .u32 a0] w fun e w' => e = .returned (.int .u64 r) ∧ Drawn0 w w' := by
  have H : ((word_Pack.f a0 0).bind fun t102 => (some t102)) = some r := h
  clear h
  replace H := Option.bind_eq_some_iff.mp H
  obtain ⟨t102, A20, H⟩ := H
  replace H : (some t102) = some r := H
  have A2 := Aside0.mk A20
  clear A20
  obtain rfl := Option.some.inj H
  go_enter Try.func9, Try.ntmps9
  go_wp2_with (first | ((with_reducible refine gate_callee (f := 7) rfl ?_); refine goesL_ (some 4) rfl rfl Try.func7 (by kernel_rfl) rfl #[.int .u32 a0, .int .u32 0] rfl (by (try simp only [List.map_toArray, List.map_cons, List.map_nil]); first | done | rfl | (simp only [List.length_drop, List.length_take]; rfl)) ?_; (with_reducible refine (word_Pack.calls a0 0 t102 _ A2.out).mono ?_); rintro e w' ⟨rfl, ⟨nd, rfl⟩⟩; refine ⟨_, rfl, ?_⟩))
  go_ret
  exact ⟨by first | rfl | (simp; done) | (simp [*]; done), by repeat (first | exact Drawn0.refl _ | apply Drawn0.step)⟩

/-! ### word_Ref: function 10 -/
def word_Ref.f (a0 : Int) (a1 : Int) : Option (Int) := (word_Pack.f a0 ((((a1) % 4294967296) + 1) % 4294967296)).bind fun t103 => (some t103)
set_option maxHeartbeats 8000000 in
set_option maxRecDepth 100000 in
theorem word_Ref.calls (a0 : Int) (a1 : Int) (r : Int) (w : World) (h : word_Ref.f a0 a1 = some r) :
    Calls Try.prog 10 #[.int .u32 a0, .int .i64 a1] w fun e w' => e = .returned (.int .u64 r) ∧ Drawn0 w w' := by
  have H : ((word_Pack.f a0 ((((a1) % 4294967296) + 1) % 4294967296)).bind fun t103 => (some t103)) = some r := h
  clear h
  replace H := Option.bind_eq_some_iff.mp H
  obtain ⟨t103, A30, H⟩ := H
  replace H : (some t103) = some r := H
  have A3 := Aside0.mk A30
  clear A30
  obtain rfl := Option.some.inj H
  go_enter Try.func10, Try.ntmps10
  go_wp2_with (first | ((with_reducible refine gate_callee (f := 7) rfl ?_); refine goesL_ (some 9) rfl rfl Try.func7 (by kernel_rfl) rfl #[.int .u32 a0, .int .u32 ((((a1) % 4294967296) + 1) % 4294967296)] rfl (by (try simp only [List.map_toArray, List.map_cons, List.map_nil]); first | done | rfl | (simp only [List.length_drop, List.length_take]; rfl)) ?_; (with_reducible refine (word_Pack.calls a0 ((((a1) % 4294967296) + 1) % 4294967296) t103 _ A3.out).mono ?_); rintro e w' ⟨rfl, ⟨nd, rfl⟩⟩; refine ⟨_, rfl, ?_⟩))
  go_ret
  exact ⟨by first | rfl | (simp; done) | (simp [*]; done), by repeat (first | exact Drawn0.refl _ | apply Drawn0.step)⟩

/-! ### word_half_uint64: function 20 -/
def word_half_uint64.f (a0 : Int) (a1 : Int) : Option (Int) := if 0 ≤ a1 then (some ((shr .u64 a0 a1) % 4294967296)) else (none)
set_option maxHeartbeats 8000000 in
set_option maxRecDepth 100000 in
theorem word_half_uint64.calls (a0 : Int) (a1 : Int) (r : Int) (w : World) (h : word_half_uint64.f a0 a1 = some r) :
    Calls Try.prog 20 #[.int .u64 a0, .int .i64 a1] w fun e w' => e = .returned (.int .u32 r) ∧ Drawn0 w w' := by
  have H : (if 0 ≤ a1 then (some ((shr .u64 a0 a1) % 4294967296)) else (none)) = some r := h
  clear h
  by_cases c3 : 0 ≤ a1
  · rw [if_pos c3] at H
    have c3b0 := eq_true c3
    have c3b1 : decide (0 ≤ a1) = true := decide_eq_true c3
    clear c3
    obtain ⟨ji4, hji4⟩ : ∃ j_ : Int, (shr .u64 a0 a1) = j_ := ⟨_, rfl⟩
    replace H : (some ((ji4) % 4294967296)) = some r := by first | (rw [hji4] at H; exact H) | (simp only [hji4] at H ⊢; exact H)
    have hji4_ : (a0 / 2 ^ min a1.toNat 64) = ji4 := hji4
    have hji4z : a1 ≤ 64 → (a0 / 2 ^ a1.toNat) = ji4 := shr_small hji4
    obtain rfl := Option.some.inj H
    go_enter Try.func20, Try.ntmps20
    go_wp2
    go_ret
    exact ⟨by first | rfl | (simp; done) | (simp only [← hji4] <;> (first | rfl | simp)) | (simp [*]; done), by repeat (first | exact Drawn0.refl _ | apply Drawn0.step)⟩
  · rw [if_neg c3] at H
    exact absurd H (by simp)

/-! ### word_Low: function 14 -/
def word_Low.f (a0 : Int) : Option (Int) := (word_half_uint64.f a0 0).bind fun t104 => (some t104)
set_option maxHeartbeats 8000000 in
set_option maxRecDepth 100000 in
theorem word_Low.calls (a0 : Int) (r : Int) (w : World) (h : word_Low.f a0 = some r) :
    Calls Try.prog 14 #[.int .u64 a0] w fun e w' => e = .returned (.int .u32 r) ∧ Drawn0 w w' := by
  have H : ((word_half_uint64.f a0 0).bind fun t104 => (some t104)) = some r := h
  clear h
  replace H := Option.bind_eq_some_iff.mp H
  obtain ⟨t104, A20, H⟩ := H
  replace H : (some t104) = some r := H
  have A2 := Aside0.mk A20
  clear A20
  obtain rfl := Option.some.inj H
  go_enter Try.func14, Try.ntmps14
  go_wp2_with (first | ((with_reducible refine gate_callee (f := 20) rfl ?_); refine goesL_ (some 4) rfl rfl Try.func20 (by kernel_rfl) rfl #[.int .u64 a0, .int .i64 0] rfl (by (try simp only [List.map_toArray, List.map_cons, List.map_nil]); first | done | rfl | (simp only [List.length_drop, List.length_take]; rfl)) ?_; (with_reducible refine (word_half_uint64.calls a0 0 t104 _ A2.out).mono ?_); rintro e w' ⟨rfl, ⟨nd, rfl⟩⟩; refine ⟨_, rfl, ?_⟩))
  go_ret
  exact ⟨by first | rfl | (simp; done) | (simp [*]; done), by repeat (first | exact Drawn0.refl _ | apply Drawn0.step)⟩

/-! ### word_Handle: function 18 -/
def word_Handle.f (a0 : Int) : Option (Int) := (word_Low.f a0).bind fun t105 => (some (wrap64 ((wrap64 (t105)) - 1)))
set_option maxHeartbeats 8000000 in
set_option maxRecDepth 100000 in
theorem word_Handle.calls (a0 : Int) (r : Int) (w : World) (h : word_Handle.f a0 = some r) :
    Calls Try.prog 18 #[.int .u64 a0] w fun e w' => e = .returned (.int .i64 r) ∧ Drawn0 w w' := by
  have H : ((word_Low.f a0).bind fun t105 => (some (wrap64 ((wrap64 (t105)) - 1)))) = some r := h
  clear h
  replace H := Option.bind_eq_some_iff.mp H
  obtain ⟨t105, A20, H⟩ := H
  replace H : (some (wrap64 ((wrap64 (t105)) - 1))) = some r := H
  have A2 := Aside0.mk A20
  clear A20
  obtain rfl := Option.some.inj H
  go_enter Try.func18, Try.ntmps18
  go_wp2_with (first | ((with_reducible refine gate_callee (f := 14) rfl ?_); refine goesL_ (some 4) rfl rfl Try.func14 (by kernel_rfl) rfl #[.int .u64 a0] rfl (by (try simp only [List.map_toArray, List.map_cons, List.map_nil]); first | done | rfl | (simp only [List.length_drop, List.length_take]; rfl)) ?_; (with_reducible refine (word_Low.calls a0 t105 _ A2.out).mono ?_); rintro e w' ⟨rfl, ⟨nd, rfl⟩⟩; refine ⟨_, rfl, ?_⟩))
  go_ret
  exact ⟨by first | rfl | (simp; done) | (simp [*]; done), by repeat (first | exact Drawn0.refl _ | apply Drawn0.step)⟩

/-! ### shuntinglaw01_awake: function 6 -/
def shuntinglaw01_awake.f  : Option (Bool) := (word_Slot.f 2 5).bind fun t106 => (if t106 = 8589934598 then ((word_Ref.f 3 4).bind fun t107 => ((word_Handle.f t107).bind fun t108 => (if t108 = 4 then ((word_Handle.f 0).bind fun t109 => (if t109 = (-1) then ((word_Bare.f 7).bind fun t110 => ((word_Low.f t110).bind fun t111 => (some (t111 == 0)))) else (some false))) else (some false)))) else (some false))
set_option maxHeartbeats 8000000 in
set_option maxRecDepth 100000 in
theorem shuntinglaw01_awake.calls  (r : Bool) (w : World) (h : shuntinglaw01_awake.f  = some r) :
    Calls Try.prog 6 #[] w fun e w' => e = .returned (.bool r) ∧ Drawn0 w w' := by
  have H : ((word_Slot.f 2 5).bind fun t106 => (if t106 = 8589934598 then ((word_Ref.f 3 4).bind fun t107 => ((word_Handle.f t107).bind fun t108 => (if t108 = 4 then ((word_Handle.f 0).bind fun t109 => (if t109 = (-1) then ((word_Bare.f 7).bind fun t110 => ((word_Low.f t110).bind fun t111 => (some (t111 == 0)))) else (some false))) else (some false)))) else (some false))) = some r := h
  clear h
  replace H := Option.bind_eq_some_iff.mp H
  obtain ⟨t106, A10, H⟩ := H
  replace H : (if t106 = 8589934598 then ((word_Ref.f 3 4).bind fun t107 => ((word_Handle.f t107).bind fun t108 => (if t108 = 4 then ((word_Handle.f 0).bind fun t109 => (if t109 = (-1) then ((word_Bare.f 7).bind fun t110 => ((word_Low.f t110).bind fun t111 => (some (t111 == 0)))) else (some false))) else (some false)))) else (some false)) = some r := H
  have A1 := Aside0.mk A10
  clear A10
  by_cases c2 : t106 = 8589934598
  · rw [if_pos c2] at H
    have c2b0 : (t106 == 8589934598) = true := beq_iff_eq.mpr c2
    have c2b1 : (t106 != 8589934598) = false := bne_eq_false_iff_eq.mpr c2
    clear c2
    replace H := Option.bind_eq_some_iff.mp H
    obtain ⟨t107, A30, H⟩ := H
    replace H : ((word_Handle.f t107).bind fun t108 => (if t108 = 4 then ((word_Handle.f 0).bind fun t109 => (if t109 = (-1) then ((word_Bare.f 7).bind fun t110 => ((word_Low.f t110).bind fun t111 => (some (t111 == 0)))) else (some false))) else (some false))) = some r := H
    have A3 := Aside0.mk A30
    clear A30
    replace H := Option.bind_eq_some_iff.mp H
    obtain ⟨t108, A40, H⟩ := H
    replace H : (if t108 = 4 then ((word_Handle.f 0).bind fun t109 => (if t109 = (-1) then ((word_Bare.f 7).bind fun t110 => ((word_Low.f t110).bind fun t111 => (some (t111 == 0)))) else (some false))) else (some false)) = some r := H
    have A4 := Aside0.mk A40
    clear A40
    by_cases c5 : t108 = 4
    · rw [if_pos c5] at H
      have c5b0 : (t108 == 4) = true := beq_iff_eq.mpr c5
      have c5b1 : (t108 != 4) = false := bne_eq_false_iff_eq.mpr c5
      clear c5
      replace H := Option.bind_eq_some_iff.mp H
      obtain ⟨t109, A60, H⟩ := H
      replace H : (if t109 = (-1) then ((word_Bare.f 7).bind fun t110 => ((word_Low.f t110).bind fun t111 => (some (t111 == 0)))) else (some false)) = some r := H
      have A6 := Aside0.mk A60
      clear A60
      by_cases c7 : t109 = (-1)
      · rw [if_pos c7] at H
        have c7b0 : (t109 == (-1)) = true := beq_iff_eq.mpr c7
        have c7b1 : (t109 != (-1)) = false := bne_eq_false_iff_eq.mpr c7
        clear c7
        replace H := Option.bind_eq_some_iff.mp H
        obtain ⟨t110, A80, H⟩ := H
        replace H : ((word_Low.f t110).bind fun t111 => (some (t111 == 0))) = some r := H
        have A8 := Aside0.mk A80
        clear A80
        replace H := Option.bind_eq_some_iff.mp H
        obtain ⟨t111, A90, H⟩ := H
        replace H : (some (t111 == 0)) = some r := H
        have A9 := Aside0.mk A90
        clear A90
        obtain rfl := Option.some.inj H
        go_enter Try.func6, Try.ntmps6
        go_wp2_with (first | ((with_reducible refine gate_callee (f := 8) rfl ?_); refine goesL_ (some 1) rfl rfl Try.func8 (by kernel_rfl) rfl #[.int .u32 2, .int .u32 5] rfl (by (try simp only [List.map_toArray, List.map_cons, List.map_nil]); first | done | rfl | (simp only [List.length_drop, List.length_take]; rfl)) ?_; (with_reducible refine (word_Slot.calls 2 5 t106 _ A1.out).mono ?_); rintro e w' ⟨rfl, ⟨nd, rfl⟩⟩; refine ⟨_, rfl, ?_⟩) | (go_at_call 10; (with_reducible refine (word_Ref.calls 3 4 t107 _ A3.out).mono ?_); rintro e w' ⟨rfl, ⟨nd, rfl⟩⟩) | (go_at_call 18; (with_reducible refine (word_Handle.calls t107 t108 _ A4.out).mono ?_); rintro e w' ⟨rfl, ⟨nd, rfl⟩⟩) | (go_at_call 18; (with_reducible refine (word_Handle.calls 0 t109 _ A6.out).mono ?_); rintro e w' ⟨rfl, ⟨nd, rfl⟩⟩) | (go_at_call 9; (with_reducible refine (word_Bare.calls 7 t110 _ A8.out).mono ?_); rintro e w' ⟨rfl, ⟨nd, rfl⟩⟩) | (go_at_call 14; (with_reducible refine (word_Low.calls t110 t111 _ A9.out).mono ?_); rintro e w' ⟨rfl, ⟨nd, rfl⟩⟩))
        go_ret
        exact ⟨by first | rfl | (simp; done) | (simp [*]; done), by repeat (first | exact Drawn0.refl _ | apply Drawn0.step)⟩
      · rw [if_neg c7] at H
        have c7b0 : (t109 == (-1)) = false := beq_eq_false_iff_ne.mpr c7
        have c7b1 : (t109 != (-1)) = true := bne_iff_ne.mpr c7
        obtain rfl := Option.some.inj H
        go_enter Try.func6, Try.ntmps6
        go_wp2_with (first | ((with_reducible refine gate_callee (f := 8) rfl ?_); refine goesL_ (some 1) rfl rfl Try.func8 (by kernel_rfl) rfl #[.int .u32 2, .int .u32 5] rfl (by (try simp only [List.map_toArray, List.map_cons, List.map_nil]); first | done | rfl | (simp only [List.length_drop, List.length_take]; rfl)) ?_; (with_reducible refine (word_Slot.calls 2 5 t106 _ A1.out).mono ?_); rintro e w' ⟨rfl, ⟨nd, rfl⟩⟩; refine ⟨_, rfl, ?_⟩) | (go_at_call 10; (with_reducible refine (word_Ref.calls 3 4 t107 _ A3.out).mono ?_); rintro e w' ⟨rfl, ⟨nd, rfl⟩⟩) | (go_at_call 18; (with_reducible refine (word_Handle.calls t107 t108 _ A4.out).mono ?_); rintro e w' ⟨rfl, ⟨nd, rfl⟩⟩) | (go_at_call 18; (with_reducible refine (word_Handle.calls 0 t109 _ A6.out).mono ?_); rintro e w' ⟨rfl, ⟨nd, rfl⟩⟩))
        go_ret
        exact ⟨by first | rfl | (simp; done) | (simp [*]; done), by repeat (first | exact Drawn0.refl _ | apply Drawn0.step)⟩
    · rw [if_neg c5] at H
      have c5b0 : (t108 == 4) = false := beq_eq_false_iff_ne.mpr c5
      have c5b1 : (t108 != 4) = true := bne_iff_ne.mpr c5
      obtain rfl := Option.some.inj H
      go_enter Try.func6, Try.ntmps6
      go_wp2_with (first | ((with_reducible refine gate_callee (f := 8) rfl ?_); refine goesL_ (some 1) rfl rfl Try.func8 (by kernel_rfl) rfl #[.int .u32 2, .int .u32 5] rfl (by (try simp only [List.map_toArray, List.map_cons, List.map_nil]); first | done | rfl | (simp only [List.length_drop, List.length_take]; rfl)) ?_; (with_reducible refine (word_Slot.calls 2 5 t106 _ A1.out).mono ?_); rintro e w' ⟨rfl, ⟨nd, rfl⟩⟩; refine ⟨_, rfl, ?_⟩) | (go_at_call 10; (with_reducible refine (word_Ref.calls 3 4 t107 _ A3.out).mono ?_); rintro e w' ⟨rfl, ⟨nd, rfl⟩⟩) | (go_at_call 18; (with_reducible refine (word_Handle.calls t107 t108 _ A4.out).mono ?_); rintro e w' ⟨rfl, ⟨nd, rfl⟩⟩))
      go_ret
      exact ⟨by first | rfl | (simp; done) | (simp [*]; done), by repeat (first | exact Drawn0.refl _ | apply Drawn0.step)⟩
  · rw [if_neg c2] at H
    have c2b0 : (t106 == 8589934598) = false := beq_eq_false_iff_ne.mpr c2
    have c2b1 : (t106 != 8589934598) = true := bne_iff_ne.mpr c2
    obtain rfl := Option.some.inj H
    go_enter Try.func6, Try.ntmps6
    go_wp2_with (first | ((with_reducible refine gate_callee (f := 8) rfl ?_); refine goesL_ (some 1) rfl rfl Try.func8 (by kernel_rfl) rfl #[.int .u32 2, .int .u32 5] rfl (by (try simp only [List.map_toArray, List.map_cons, List.map_nil]); first | done | rfl | (simp only [List.length_drop, List.length_take]; rfl)) ?_; (with_reducible refine (word_Slot.calls 2 5 t106 _ A1.out).mono ?_); rintro e w' ⟨rfl, ⟨nd, rfl⟩⟩; refine ⟨_, rfl, ?_⟩))
    go_ret
    exact ⟨by first | rfl | (simp; done) | (simp [*]; done), by repeat (first | exact Drawn0.refl _ | apply Drawn0.step)⟩

/-! ### shuntingref01_Pack: function 11 -/
def shuntingref01_Pack.f (a0 : Int) (a1 : Int) : Option (Int) := some (IntKind.u64.wrap ((IntKind.u64.wrap ((IntKind.u64.wrap (a0)) * 4294967296)) + (IntKind.u64.wrap (a1))))
set_option maxHeartbeats 8000000 in
set_option maxRecDepth 100000 in
theorem shuntingref01_Pack.calls (a0 : Int) (a1 : Int) (r : Int) (w : World) (h : shuntingref01_Pack.f a0 a1 = some r) :
    Calls Try.prog 11 #[.int .u32 a0, .int .u32 a1] w fun e w' => e = .returned (.int .u64 r) ∧ Drawn0 w w' := by
  have H : (some (IntKind.u64.wrap ((IntKind.u64.wrap ((IntKind.u64.wrap (a0)) * 4294967296)) + (IntKind.u64.wrap (a1))))) = some r := h
  clear h
  obtain rfl := Option.some.inj H
  go_enter Try.func11, Try.ntmps11
  go_wp2
  go_ret
  exact ⟨by first | rfl | (simp; done) | (simp [*]; done), by repeat (first | exact Drawn0.refl _ | apply Drawn0.step)⟩

/-! ### word_High: function 12 -/
def word_High.f (a0 : Int) : Option (Int) := (word_half_uint64.f a0 32).bind fun t112 => (some t112)
set_option maxHeartbeats 8000000 in
set_option maxRecDepth 100000 in
theorem word_High.calls (a0 : Int) (r : Int) (w : World) (h : word_High.f a0 = some r) :
    Calls Try.prog 12 #[.int .u64 a0] w fun e w' => e = .returned (.int .u32 r) ∧ Drawn0 w w' := by
  have H : ((word_half_uint64.f a0 32).bind fun t112 => (some t112)) = some r := h
  clear h
  replace H := Option.bind_eq_some_iff.mp H
  obtain ⟨t112, A20, H⟩ := H
  replace H : (some t112) = some r := H
  have A2 := Aside0.mk A20
  clear A20
  obtain rfl := Option.some.inj H
  go_enter Try.func12, Try.ntmps12
  go_wp2_with (first | ((with_reducible refine gate_callee (f := 20) rfl ?_); refine goesL_ (some 4) rfl rfl Try.func20 (by kernel_rfl) rfl #[.int .u64 a0, .int .i64 32] rfl (by (try simp only [List.map_toArray, List.map_cons, List.map_nil]); first | done | rfl | (simp only [List.length_drop, List.length_take]; rfl)) ?_; (with_reducible refine (word_half_uint64.calls a0 32 t112 _ A2.out).mono ?_); rintro e w' ⟨rfl, ⟨nd, rfl⟩⟩; refine ⟨_, rfl, ?_⟩))
  go_ret
  exact ⟨by first | rfl | (simp; done) | (simp [*]; done), by repeat (first | exact Drawn0.refl _ | apply Drawn0.step)⟩

/-! ### shuntingref01_High: function 13 -/
def shuntingref01_High.f (a0 : Int) : Option (Int) := some ((IntKind.u64.wrap (Int.tdiv a0 4294967296)) % 4294967296)
set_option maxHeartbeats 8000000 in
set_option maxRecDepth 100000 in
theorem shuntingref01_High.calls (a0 : Int) (r : Int) (w : World) (h : shuntingref01_High.f a0 = some r) :
    Calls Try.prog 13 #[.int .u64 a0] w fun e w' => e = .returned (.int .u32 r) ∧ Drawn0 w w' := by
  have H : (some ((IntKind.u64.wrap (Int.tdiv a0 4294967296)) % 4294967296)) = some r := h
  clear h
  obtain rfl := Option.some.inj H
  go_enter Try.func13, Try.ntmps13
  go_wp2
  go_ret
  exact ⟨by first | rfl | (simp; done) | (simp [*]; done), by repeat (first | exact Drawn0.refl _ | apply Drawn0.step)⟩

/-! ### shuntingref01_Low: function 15 -/
def shuntingref01_Low.f (a0 : Int) : Option (Int) := some ((Int.tmod a0 4294967296) % 4294967296)
set_option maxHeartbeats 8000000 in
set_option maxRecDepth 100000 in
theorem shuntingref01_Low.calls (a0 : Int) (r : Int) (w : World) (h : shuntingref01_Low.f a0 = some r) :
    Calls Try.prog 15 #[.int .u64 a0] w fun e w' => e = .returned (.int .u32 r) ∧ Drawn0 w w' := by
  have H : (some ((Int.tmod a0 4294967296) % 4294967296)) = some r := h
  clear h
  obtain rfl := Option.some.inj H
  go_enter Try.func15, Try.ntmps15
  go_wp2
  go_ret
  exact ⟨by first | rfl | (simp; done) | (simp [*]; done), by repeat (first | exact Drawn0.refl _ | apply Drawn0.step)⟩

/-! ### shuntingref01_More: function 21 -/
def shuntingref01_More.f (a0 : Int) : Option (Int) := some ((Int.tmod (IntKind.u64.wrap ((IntKind.u64.wrap (a0)) + 1)) 4294967296) % 4294967296)
set_option maxHeartbeats 8000000 in
set_option maxRecDepth 100000 in
theorem shuntingref01_More.calls (a0 : Int) (r : Int) (w : World) (h : shuntingref01_More.f a0 = some r) :
    Calls Try.prog 21 #[.int .u32 a0] w fun e w' => e = .returned (.int .u32 r) ∧ Drawn0 w w' := by
  have H : (some ((Int.tmod (IntKind.u64.wrap ((IntKind.u64.wrap (a0)) + 1)) 4294967296) % 4294967296)) = some r := h
  clear h
  obtain rfl := Option.some.inj H
  go_enter Try.func21, Try.ntmps21
  go_wp2
  go_ret
  exact ⟨by first | rfl | (simp; done) | (simp [*]; done), by repeat (first | exact Drawn0.refl _ | apply Drawn0.step)⟩

/-! ### shuntingref01_Slot: function 16 -/
def shuntingref01_Slot.f (a0 : Int) (a1 : Int) : Option (Int) := (shuntingref01_More.f a1).bind fun t113 => ((shuntingref01_Pack.f a0 t113).bind fun t114 => (some t114))
set_option maxHeartbeats 8000000 in
set_option maxRecDepth 100000 in
theorem shuntingref01_Slot.calls (a0 : Int) (a1 : Int) (r : Int) (w : World) (h : shuntingref01_Slot.f a0 a1 = some r) :
    Calls Try.prog 16 #[.int .u32 a0, .int .u32 a1] w fun e w' => e = .returned (.int .u64 r) ∧ Drawn0 w w' := by
  have H : ((shuntingref01_More.f a1).bind fun t113 => ((shuntingref01_Pack.f a0 t113).bind fun t114 => (some t114))) = some r := h
  clear h
  replace H := Option.bind_eq_some_iff.mp H
  obtain ⟨t113, A30, H⟩ := H
  replace H : ((shuntingref01_Pack.f a0 t113).bind fun t114 => (some t114)) = some r := H
  have A3 := Aside0.mk A30
  clear A30
  replace H := Option.bind_eq_some_iff.mp H
  obtain ⟨t114, A40, H⟩ := H
  replace H : (some t114) = some r := H
  have A4 := Aside0.mk A40
  clear A40
  obtain rfl := Option.some.inj H
  go_enter Try.func16, Try.ntmps16
  go_wp2_with (first | ((with_reducible refine gate_callee (f := 21) rfl ?_); refine goesL_ (some 7) rfl rfl Try.func21 (by kernel_rfl) rfl #[.int .u32 a1] rfl (by (try simp only [List.map_toArray, List.map_cons, List.map_nil]); first | done | rfl | (simp only [List.length_drop, List.length_take]; rfl)) ?_; (with_reducible refine (shuntingref01_More.calls a1 t113 _ A3.out).mono ?_); rintro e w' ⟨rfl, ⟨nd, rfl⟩⟩; refine ⟨_, rfl, ?_⟩) | ((with_reducible refine gate_callee (f := 11) rfl ?_); refine goesL_ (some 8) rfl rfl Try.func11 (by kernel_rfl) rfl #[.int .u32 a0, .int .u32 t113] rfl (by (try simp only [List.map_toArray, List.map_cons, List.map_nil]); first | done | rfl | (simp only [List.length_drop, List.length_take]; rfl)) ?_; (with_reducible refine (shuntingref01_Pack.calls a0 t113 t114 _ A4.out).mono ?_); rintro e w' ⟨rfl, ⟨nd, rfl⟩⟩; refine ⟨_, rfl, ?_⟩))
  go_ret
  exact ⟨by first | rfl | (simp; done) | (simp [*]; done), by repeat (first | exact Drawn0.refl _ | apply Drawn0.step)⟩

/-! ### shuntingref01_Ref: function 17 -/
def shuntingref01_Ref.f (a0 : Int) (a1 : Int) : Option (Int) := if (Int.tmod a1 4294967296) < 0 then ((shuntingref01_More.f ((wrap64 ((Int.tmod a1 4294967296) + 4294967296)) % 4294967296)).bind fun t115 => ((shuntingref01_Pack.f a0 t115).bind fun t116 => (some t116))) else ((shuntingref01_More.f ((Int.tmod a1 4294967296) % 4294967296)).bind fun t117 => ((shuntingref01_Pack.f a0 t117).bind fun t118 => (some t118)))
set_option maxHeartbeats 8000000 in
set_option maxRecDepth 100000 in
theorem shuntingref01_Ref.calls (a0 : Int) (a1 : Int) (r : Int) (w : World) (h : shuntingref01_Ref.f a0 a1 = some r) :
    Calls Try.prog 17 #[.int .u32 a0, .int .i64 a1] w fun e w' => e = .returned (.int .u64 r) ∧ Drawn0 w w' := by
  have H : (if (Int.tmod a1 4294967296) < 0 then ((shuntingref01_More.f ((wrap64 ((Int.tmod a1 4294967296) + 4294967296)) % 4294967296)).bind fun t115 => ((shuntingref01_Pack.f a0 t115).bind fun t116 => (some t116))) else ((shuntingref01_More.f ((Int.tmod a1 4294967296) % 4294967296)).bind fun t117 => ((shuntingref01_Pack.f a0 t117).bind fun t118 => (some t118)))) = some r := h
  clear h
  by_cases c3 : (Int.tmod a1 4294967296) < 0
  · rw [if_pos c3] at H
    have c3b0 : decide ((Int.tmod a1 4294967296) < 0) = true := decide_eq_true c3
    clear c3
    replace H := Option.bind_eq_some_iff.mp H
    obtain ⟨t115, A40, H⟩ := H
    replace H : ((shuntingref01_Pack.f a0 t115).bind fun t116 => (some t116)) = some r := H
    have A4 := Aside0.mk A40
    clear A40
    replace H := Option.bind_eq_some_iff.mp H
    obtain ⟨t116, A50, H⟩ := H
    replace H : (some t116) = some r := H
    have A5 := Aside0.mk A50
    clear A50
    obtain rfl := Option.some.inj H
    go_enter Try.func17, Try.ntmps17
    go_wp2_with (first | ((with_reducible refine gate_callee (f := 21) rfl ?_); refine goesL_ (some 15) rfl rfl Try.func21 (by kernel_rfl) rfl #[.int .u32 ((wrap64 ((Int.tmod a1 4294967296) + 4294967296)) % 4294967296)] rfl (by (try simp only [List.map_toArray, List.map_cons, List.map_nil]); first | done | rfl | (simp only [List.length_drop, List.length_take]; rfl)) ?_; (with_reducible refine (shuntingref01_More.calls ((wrap64 ((Int.tmod a1 4294967296) + 4294967296)) % 4294967296) t115 _ A4.out).mono ?_); rintro e w' ⟨rfl, ⟨nd, rfl⟩⟩; refine ⟨_, rfl, ?_⟩) | ((with_reducible refine gate_callee (f := 11) rfl ?_); refine goesL_ (some 16) rfl rfl Try.func11 (by kernel_rfl) rfl #[.int .u32 a0, .int .u32 t115] rfl (by (try simp only [List.map_toArray, List.map_cons, List.map_nil]); first | done | rfl | (simp only [List.length_drop, List.length_take]; rfl)) ?_; (with_reducible refine (shuntingref01_Pack.calls a0 t115 t116 _ A5.out).mono ?_); rintro e w' ⟨rfl, ⟨nd, rfl⟩⟩; refine ⟨_, rfl, ?_⟩))
    go_ret
    exact ⟨by first | rfl | (simp; done) | (simp [*]; done), by repeat (first | exact Drawn0.refl _ | apply Drawn0.step)⟩
  · rw [if_neg c3] at H
    have c3b0 : decide ((Int.tmod a1 4294967296) < 0) = false := decide_eq_false c3
    clear c3
    replace H := Option.bind_eq_some_iff.mp H
    obtain ⟨t117, A60, H⟩ := H
    replace H : ((shuntingref01_Pack.f a0 t117).bind fun t118 => (some t118)) = some r := H
    have A6 := Aside0.mk A60
    clear A60
    replace H := Option.bind_eq_some_iff.mp H
    obtain ⟨t118, A70, H⟩ := H
    replace H : (some t118) = some r := H
    have A7 := Aside0.mk A70
    clear A70
    obtain rfl := Option.some.inj H
    go_enter Try.func17, Try.ntmps17
    go_wp2_with (first | ((with_reducible refine gate_callee (f := 21) rfl ?_); refine goesL_ (some 15) rfl rfl Try.func21 (by kernel_rfl) rfl #[.int .u32 ((Int.tmod a1 4294967296) % 4294967296)] rfl (by (try simp only [List.map_toArray, List.map_cons, List.map_nil]); first | done | rfl | (simp only [List.length_drop, List.length_take]; rfl)) ?_; (with_reducible refine (shuntingref01_More.calls ((Int.tmod a1 4294967296) % 4294967296) t117 _ A6.out).mono ?_); rintro e w' ⟨rfl, ⟨nd, rfl⟩⟩; refine ⟨_, rfl, ?_⟩) | ((with_reducible refine gate_callee (f := 11) rfl ?_); refine goesL_ (some 16) rfl rfl Try.func11 (by kernel_rfl) rfl #[.int .u32 a0, .int .u32 t117] rfl (by (try simp only [List.map_toArray, List.map_cons, List.map_nil]); first | done | rfl | (simp only [List.length_drop, List.length_take]; rfl)) ?_; (with_reducible refine (shuntingref01_Pack.calls a0 t117 t118 _ A7.out).mono ?_); rintro e w' ⟨rfl, ⟨nd, rfl⟩⟩; refine ⟨_, rfl, ?_⟩))
    go_ret
    exact ⟨by first | rfl | (simp; done) | (simp [*]; done), by repeat (first | exact Drawn0.refl _ | apply Drawn0.step)⟩

/-! ### shuntingref01_Handle: function 19 -/
def shuntingref01_Handle.f (a0 : Int) : Option (Int) := some (wrap64 ((wrap64 (Int.tmod a0 4294967296)) - 1))
set_option maxHeartbeats 8000000 in
set_option maxRecDepth 100000 in
theorem shuntingref01_Handle.calls (a0 : Int) (r : Int) (w : World) (h : shuntingref01_Handle.f a0 = some r) :
    Calls Try.prog 19 #[.int .u64 a0] w fun e w' => e = .returned (.int .i64 r) ∧ Drawn0 w w' := by
  have H : (some (wrap64 ((wrap64 (Int.tmod a0 4294967296)) - 1))) = some r := h
  clear h
  obtain rfl := Option.some.inj H
  go_enter Try.func19, Try.ntmps19
  go_wp2
  go_ret
  exact ⟨by first | rfl | (simp; done) | (simp [*]; done), by repeat (first | exact Drawn0.refl _ | apply Drawn0.step)⟩

/-! ### shuntinglaw01_WordPacks: function 4 -/
def shuntinglaw01_WordPacks.f (a0 : Int) (a1 : Int) (a2 : Int) (a3 : Int) : Option (Bool) := (shuntinglaw01_awake.f).bind fun t119 => (if t119 = true then ((word_Pack.f a0 a1).bind fun t120 => ((shuntingref01_Pack.f a0 a1).bind fun t121 => (if t120 = t121 then ((word_High.f a2).bind fun t122 => ((shuntingref01_High.f a2).bind fun t123 => (if t122 = t123 then ((word_Low.f a2).bind fun t124 => ((shuntingref01_Low.f a2).bind fun t125 => (if t124 = t125 then ((word_Slot.f a0 a1).bind fun t126 => ((shuntingref01_Slot.f a0 a1).bind fun t127 => (if t126 = t127 then ((word_Bare.f a0).bind fun t128 => ((shuntingref01_Pack.f a0 0).bind fun t129 => (if t128 = t129 then ((word_Ref.f a0 a3).bind fun t130 => ((shuntingref01_Ref.f a0 a3).bind fun t131 => (if t130 = t131 then ((word_Handle.f a2).bind fun t132 => ((shuntingref01_Handle.f a2).bind fun t133 => (some (t132 == t133)))) else (some false)))) else (some false)))) else (some false)))) else (some false)))) else (some false)))) else (some false)))) else (some false))
set_option maxHeartbeats 8000000 in
set_option maxRecDepth 100000 in
theorem shuntinglaw01_WordPacks.calls (a0 : Int) (a1 : Int) (a2 : Int) (a3 : Int) (r : Bool) (w : World) (h : shuntinglaw01_WordPacks.f a0 a1 a2 a3 = some r) :
    Calls Try.prog 4 #[.int .u32 a0, .int .u32 a1, .int .u64 a2, .int .i64 a3] w fun e w' => e = .returned (.bool r) ∧ Drawn0 w w' := by
  have H : ((shuntinglaw01_awake.f).bind fun t119 => (if t119 = true then ((word_Pack.f a0 a1).bind fun t120 => ((shuntingref01_Pack.f a0 a1).bind fun t121 => (if t120 = t121 then ((word_High.f a2).bind fun t122 => ((shuntingref01_High.f a2).bind fun t123 => (if t122 = t123 then ((word_Low.f a2).bind fun t124 => ((shuntingref01_Low.f a2).bind fun t125 => (if t124 = t125 then ((word_Slot.f a0 a1).bind fun t126 => ((shuntingref01_Slot.f a0 a1).bind fun t127 => (if t126 = t127 then ((word_Bare.f a0).bind fun t128 => ((shuntingref01_Pack.f a0 0).bind fun t129 => (if t128 = t129 then ((word_Ref.f a0 a3).bind fun t130 => ((shuntingref01_Ref.f a0 a3).bind fun t131 => (if t130 = t131 then ((word_Handle.f a2).bind fun t132 => ((shuntingref01_Handle.f a2).bind fun t133 => (some (t132 == t133)))) else (some false)))) else (some false)))) else (some false)))) else (some false)))) else (some false)))) else (some false)))) else (some false))) = some r := h
  clear h
  replace H := Option.bind_eq_some_iff.mp H
  obtain ⟨t119, A50, H⟩ := H
  replace H : (if t119 = true then ((word_Pack.f a0 a1).bind fun t120 => ((shuntingref01_Pack.f a0 a1).bind fun t121 => (if t120 = t121 then ((word_High.f a2).bind fun t122 => ((shuntingref01_High.f a2).bind fun t123 => (if t122 = t123 then ((word_Low.f a2).bind fun t124 => ((shuntingref01_Low.f a2).bind fun t125 => (if t124 = t125 then ((word_Slot.f a0 a1).bind fun t126 => ((shuntingref01_Slot.f a0 a1).bind fun t127 => (if t126 = t127 then ((word_Bare.f a0).bind fun t128 => ((shuntingref01_Pack.f a0 0).bind fun t129 => (if t128 = t129 then ((word_Ref.f a0 a3).bind fun t130 => ((shuntingref01_Ref.f a0 a3).bind fun t131 => (if t130 = t131 then ((word_Handle.f a2).bind fun t132 => ((shuntingref01_Handle.f a2).bind fun t133 => (some (t132 == t133)))) else (some false)))) else (some false)))) else (some false)))) else (some false)))) else (some false)))) else (some false)))) else (some false)) = some r := H
  have A5 := Aside0.mk A50
  clear A50
  by_cases c6 : t119 = true
  · subst c6
    have H1 : ((word_Pack.f a0 a1).bind fun t120 => ((shuntingref01_Pack.f a0 a1).bind fun t121 => (if t120 = t121 then ((word_High.f a2).bind fun t122 => ((shuntingref01_High.f a2).bind fun t123 => (if t122 = t123 then ((word_Low.f a2).bind fun t124 => ((shuntingref01_Low.f a2).bind fun t125 => (if t124 = t125 then ((word_Slot.f a0 a1).bind fun t126 => ((shuntingref01_Slot.f a0 a1).bind fun t127 => (if t126 = t127 then ((word_Bare.f a0).bind fun t128 => ((shuntingref01_Pack.f a0 0).bind fun t129 => (if t128 = t129 then ((word_Ref.f a0 a3).bind fun t130 => ((shuntingref01_Ref.f a0 a3).bind fun t131 => (if t130 = t131 then ((word_Handle.f a2).bind fun t132 => ((shuntingref01_Handle.f a2).bind fun t133 => (some (t132 == t133)))) else (some false)))) else (some false)))) else (some false)))) else (some false)))) else (some false)))) else (some false)))) = some r := by rw [if_pos rfl] at H; exact H
    clear H
    have H := H1
    clear H1
    replace H := Option.bind_eq_some_iff.mp H
    obtain ⟨t120, A70, H⟩ := H
    replace H : ((shuntingref01_Pack.f a0 a1).bind fun t121 => (if t120 = t121 then ((word_High.f a2).bind fun t122 => ((shuntingref01_High.f a2).bind fun t123 => (if t122 = t123 then ((word_Low.f a2).bind fun t124 => ((shuntingref01_Low.f a2).bind fun t125 => (if t124 = t125 then ((word_Slot.f a0 a1).bind fun t126 => ((shuntingref01_Slot.f a0 a1).bind fun t127 => (if t126 = t127 then ((word_Bare.f a0).bind fun t128 => ((shuntingref01_Pack.f a0 0).bind fun t129 => (if t128 = t129 then ((word_Ref.f a0 a3).bind fun t130 => ((shuntingref01_Ref.f a0 a3).bind fun t131 => (if t130 = t131 then ((word_Handle.f a2).bind fun t132 => ((shuntingref01_Handle.f a2).bind fun t133 => (some (t132 == t133)))) else (some false)))) else (some false)))) else (some false)))) else (some false)))) else (some false)))) else (some false))) = some r := H
    have A7 := Aside0.mk A70
    clear A70
    replace H := Option.bind_eq_some_iff.mp H
    obtain ⟨t121, A80, H⟩ := H
    replace H : (if t120 = t121 then ((word_High.f a2).bind fun t122 => ((shuntingref01_High.f a2).bind fun t123 => (if t122 = t123 then ((word_Low.f a2).bind fun t124 => ((shuntingref01_Low.f a2).bind fun t125 => (if t124 = t125 then ((word_Slot.f a0 a1).bind fun t126 => ((shuntingref01_Slot.f a0 a1).bind fun t127 => (if t126 = t127 then ((word_Bare.f a0).bind fun t128 => ((shuntingref01_Pack.f a0 0).bind fun t129 => (if t128 = t129 then ((word_Ref.f a0 a3).bind fun t130 => ((shuntingref01_Ref.f a0 a3).bind fun t131 => (if t130 = t131 then ((word_Handle.f a2).bind fun t132 => ((shuntingref01_Handle.f a2).bind fun t133 => (some (t132 == t133)))) else (some false)))) else (some false)))) else (some false)))) else (some false)))) else (some false)))) else (some false)) = some r := H
    have A8 := Aside0.mk A80
    clear A80
    by_cases c9 : t120 = t121
    · rw [if_pos c9] at H
      have c9b0 : (t120 == t121) = true := beq_iff_eq.mpr c9
      have c9b1 : (t120 != t121) = false := bne_eq_false_iff_eq.mpr c9
      clear c9
      replace H := Option.bind_eq_some_iff.mp H
      obtain ⟨t122, A100, H⟩ := H
      replace H : ((shuntingref01_High.f a2).bind fun t123 => (if t122 = t123 then ((word_Low.f a2).bind fun t124 => ((shuntingref01_Low.f a2).bind fun t125 => (if t124 = t125 then ((word_Slot.f a0 a1).bind fun t126 => ((shuntingref01_Slot.f a0 a1).bind fun t127 => (if t126 = t127 then ((word_Bare.f a0).bind fun t128 => ((shuntingref01_Pack.f a0 0).bind fun t129 => (if t128 = t129 then ((word_Ref.f a0 a3).bind fun t130 => ((shuntingref01_Ref.f a0 a3).bind fun t131 => (if t130 = t131 then ((word_Handle.f a2).bind fun t132 => ((shuntingref01_Handle.f a2).bind fun t133 => (some (t132 == t133)))) else (some false)))) else (some false)))) else (some false)))) else (some false)))) else (some false))) = some r := H
      have A10 := Aside0.mk A100
      clear A100
      replace H := Option.bind_eq_some_iff.mp H
      obtain ⟨t123, A110, H⟩ := H
      replace H : (if t122 = t123 then ((word_Low.f a2).bind fun t124 => ((shuntingref01_Low.f a2).bind fun t125 => (if t124 = t125 then ((word_Slot.f a0 a1).bind fun t126 => ((shuntingref01_Slot.f a0 a1).bind fun t127 => (if t126 = t127 then ((word_Bare.f a0).bind fun t128 => ((shuntingref01_Pack.f a0 0).bind fun t129 => (if t128 = t129 then ((word_Ref.f a0 a3).bind fun t130 => ((shuntingref01_Ref.f a0 a3).bind fun t131 => (if t130 = t131 then ((word_Handle.f a2).bind fun t132 => ((shuntingref01_Handle.f a2).bind fun t133 => (some (t132 == t133)))) else (some false)))) else (some false)))) else (some false)))) else (some false)))) else (some false)) = some r := H
      have A11 := Aside0.mk A110
      clear A110
      by_cases c12 : t122 = t123
      · rw [if_pos c12] at H
        have c12b0 : (t122 == t123) = true := beq_iff_eq.mpr c12
        have c12b1 : (t122 != t123) = false := bne_eq_false_iff_eq.mpr c12
        clear c12
        replace H := Option.bind_eq_some_iff.mp H
        obtain ⟨t124, A130, H⟩ := H
        replace H : ((shuntingref01_Low.f a2).bind fun t125 => (if t124 = t125 then ((word_Slot.f a0 a1).bind fun t126 => ((shuntingref01_Slot.f a0 a1).bind fun t127 => (if t126 = t127 then ((word_Bare.f a0).bind fun t128 => ((shuntingref01_Pack.f a0 0).bind fun t129 => (if t128 = t129 then ((word_Ref.f a0 a3).bind fun t130 => ((shuntingref01_Ref.f a0 a3).bind fun t131 => (if t130 = t131 then ((word_Handle.f a2).bind fun t132 => ((shuntingref01_Handle.f a2).bind fun t133 => (some (t132 == t133)))) else (some false)))) else (some false)))) else (some false)))) else (some false))) = some r := H
        have A13 := Aside0.mk A130
        clear A130
        replace H := Option.bind_eq_some_iff.mp H
        obtain ⟨t125, A140, H⟩ := H
        replace H : (if t124 = t125 then ((word_Slot.f a0 a1).bind fun t126 => ((shuntingref01_Slot.f a0 a1).bind fun t127 => (if t126 = t127 then ((word_Bare.f a0).bind fun t128 => ((shuntingref01_Pack.f a0 0).bind fun t129 => (if t128 = t129 then ((word_Ref.f a0 a3).bind fun t130 => ((shuntingref01_Ref.f a0 a3).bind fun t131 => (if t130 = t131 then ((word_Handle.f a2).bind fun t132 => ((shuntingref01_Handle.f a2).bind fun t133 => (some (t132 == t133)))) else (some false)))) else (some false)))) else (some false)))) else (some false)) = some r := H
        have A14 := Aside0.mk A140
        clear A140
        by_cases c15 : t124 = t125
        · rw [if_pos c15] at H
          have c15b0 : (t124 == t125) = true := beq_iff_eq.mpr c15
          have c15b1 : (t124 != t125) = false := bne_eq_false_iff_eq.mpr c15
          clear c15
          replace H := Option.bind_eq_some_iff.mp H
          obtain ⟨t126, A160, H⟩ := H
          replace H : ((shuntingref01_Slot.f a0 a1).bind fun t127 => (if t126 = t127 then ((word_Bare.f a0).bind fun t128 => ((shuntingref01_Pack.f a0 0).bind fun t129 => (if t128 = t129 then ((word_Ref.f a0 a3).bind fun t130 => ((shuntingref01_Ref.f a0 a3).bind fun t131 => (if t130 = t131 then ((word_Handle.f a2).bind fun t132 => ((shuntingref01_Handle.f a2).bind fun t133 => (some (t132 == t133)))) else (some false)))) else (some false)))) else (some false))) = some r := H
          have A16 := Aside0.mk A160
          clear A160
          replace H := Option.bind_eq_some_iff.mp H
          obtain ⟨t127, A170, H⟩ := H
          replace H : (if t126 = t127 then ((word_Bare.f a0).bind fun t128 => ((shuntingref01_Pack.f a0 0).bind fun t129 => (if t128 = t129 then ((word_Ref.f a0 a3).bind fun t130 => ((shuntingref01_Ref.f a0 a3).bind fun t131 => (if t130 = t131 then ((word_Handle.f a2).bind fun t132 => ((shuntingref01_Handle.f a2).bind fun t133 => (some (t132 == t133)))) else (some false)))) else (some false)))) else (some false)) = some r := H
          have A17 := Aside0.mk A170
          clear A170
          by_cases c18 : t126 = t127
          · rw [if_pos c18] at H
            have c18b0 : (t126 == t127) = true := beq_iff_eq.mpr c18
            have c18b1 : (t126 != t127) = false := bne_eq_false_iff_eq.mpr c18
            clear c18
            replace H := Option.bind_eq_some_iff.mp H
            obtain ⟨t128, A190, H⟩ := H
            replace H : ((shuntingref01_Pack.f a0 0).bind fun t129 => (if t128 = t129 then ((word_Ref.f a0 a3).bind fun t130 => ((shuntingref01_Ref.f a0 a3).bind fun t131 => (if t130 = t131 then ((word_Handle.f a2).bind fun t132 => ((shuntingref01_Handle.f a2).bind fun t133 => (some (t132 == t133)))) else (some false)))) else (some false))) = some r := H
            have A19 := Aside0.mk A190
            clear A190
            replace H := Option.bind_eq_some_iff.mp H
            obtain ⟨t129, A200, H⟩ := H
            replace H : (if t128 = t129 then ((word_Ref.f a0 a3).bind fun t130 => ((shuntingref01_Ref.f a0 a3).bind fun t131 => (if t130 = t131 then ((word_Handle.f a2).bind fun t132 => ((shuntingref01_Handle.f a2).bind fun t133 => (some (t132 == t133)))) else (some false)))) else (some false)) = some r := H
            have A20 := Aside0.mk A200
            clear A200
            by_cases c21 : t128 = t129
            · rw [if_pos c21] at H
              have c21b0 : (t128 == t129) = true := beq_iff_eq.mpr c21
              have c21b1 : (t128 != t129) = false := bne_eq_false_iff_eq.mpr c21
              clear c21
              replace H := Option.bind_eq_some_iff.mp H
              obtain ⟨t130, A220, H⟩ := H
              replace H : ((shuntingref01_Ref.f a0 a3).bind fun t131 => (if t130 = t131 then ((word_Handle.f a2).bind fun t132 => ((shuntingref01_Handle.f a2).bind fun t133 => (some (t132 == t133)))) else (some false))) = some r := H
              have A22 := Aside0.mk A220
              clear A220
              replace H := Option.bind_eq_some_iff.mp H
              obtain ⟨t131, A230, H⟩ := H
              replace H : (if t130 = t131 then ((word_Handle.f a2).bind fun t132 => ((shuntingref01_Handle.f a2).bind fun t133 => (some (t132 == t133)))) else (some false)) = some r := H
              have A23 := Aside0.mk A230
              clear A230
              by_cases c24 : t130 = t131
              · rw [if_pos c24] at H
                have c24b0 : (t130 == t131) = true := beq_iff_eq.mpr c24
                have c24b1 : (t130 != t131) = false := bne_eq_false_iff_eq.mpr c24
                clear c24
                replace H := Option.bind_eq_some_iff.mp H
                obtain ⟨t132, A250, H⟩ := H
                replace H : ((shuntingref01_Handle.f a2).bind fun t133 => (some (t132 == t133))) = some r := H
                have A25 := Aside0.mk A250
                clear A250
                replace H := Option.bind_eq_some_iff.mp H
                obtain ⟨t133, A260, H⟩ := H
                replace H : (some (t132 == t133)) = some r := H
                have A26 := Aside0.mk A260
                clear A260
                obtain rfl := Option.some.inj H
                go_enter Try.func4, Try.ntmps4
                go_wp2_with (first | ((with_reducible refine gate_callee (f := 6) rfl ?_); refine goesL_ (some 9) rfl rfl Try.func6 (by kernel_rfl) rfl #[] rfl (by (try simp only [List.map_toArray, List.map_cons, List.map_nil]); first | done | rfl | (simp only [List.length_drop, List.length_take]; rfl)) ?_; (with_reducible refine (shuntinglaw01_awake.calls  true _ A5.out).mono ?_); rintro e w' ⟨rfl, ⟨nd, rfl⟩⟩; refine ⟨_, rfl, ?_⟩) | ((with_reducible refine gate_callee (f := 7) rfl ?_); refine goesL_ (some 13) rfl rfl Try.func7 (by kernel_rfl) rfl #[.int .u32 a0, .int .u32 a1] rfl (by (try simp only [List.map_toArray, List.map_cons, List.map_nil]); first | done | rfl | (simp only [List.length_drop, List.length_take]; rfl)) ?_; (with_reducible refine (word_Pack.calls a0 a1 t120 _ A7.out).mono ?_); rintro e w' ⟨rfl, ⟨nd, rfl⟩⟩; refine ⟨_, rfl, ?_⟩) | ((with_reducible refine gate_callee (f := 11) rfl ?_); refine goesL_ (some 16) rfl rfl Try.func11 (by kernel_rfl) rfl #[.int .u32 a0, .int .u32 a1] rfl (by (try simp only [List.map_toArray, List.map_cons, List.map_nil]); first | done | rfl | (simp only [List.length_drop, List.length_take]; rfl)) ?_; (with_reducible refine (shuntingref01_Pack.calls a0 a1 t121 _ A8.out).mono ?_); rintro e w' ⟨rfl, ⟨nd, rfl⟩⟩; refine ⟨_, rfl, ?_⟩) | (go_at_call 12; (with_reducible refine (word_High.calls a2 t122 _ A10.out).mono ?_); rintro e w' ⟨rfl, ⟨nd, rfl⟩⟩) | (go_at_call 13; (with_reducible refine (shuntingref01_High.calls a2 t123 _ A11.out).mono ?_); rintro e w' ⟨rfl, ⟨nd, rfl⟩⟩) | (go_at_call 14; (with_reducible refine (word_Low.calls a2 t124 _ A13.out).mono ?_); rintro e w' ⟨rfl, ⟨nd, rfl⟩⟩) | (go_at_call 15; (with_reducible refine (shuntingref01_Low.calls a2 t125 _ A14.out).mono ?_); rintro e w' ⟨rfl, ⟨nd, rfl⟩⟩) | (go_at_call 8; (with_reducible refine (word_Slot.calls a0 a1 t126 _ A16.out).mono ?_); rintro e w' ⟨rfl, ⟨nd, rfl⟩⟩) | (go_at_call 16; (with_reducible refine (shuntingref01_Slot.calls a0 a1 t127 _ A17.out).mono ?_); rintro e w' ⟨rfl, ⟨nd, rfl⟩⟩) | (go_at_call 9; (with_reducible refine (word_Bare.calls a0 t128 _ A19.out).mono ?_); rintro e w' ⟨rfl, ⟨nd, rfl⟩⟩) | (go_at_call 11; (with_reducible refine (shuntingref01_Pack.calls a0 0 t129 _ A20.out).mono ?_); rintro e w' ⟨rfl, ⟨nd, rfl⟩⟩) | (go_at_call 10; (with_reducible refine (word_Ref.calls a0 a3 t130 _ A22.out).mono ?_); rintro e w' ⟨rfl, ⟨nd, rfl⟩⟩) | (go_at_call 17; (with_reducible refine (shuntingref01_Ref.calls a0 a3 t131 _ A23.out).mono ?_); rintro e w' ⟨rfl, ⟨nd, rfl⟩⟩) | (go_at_call 18; (with_reducible refine (word_Handle.calls a2 t132 _ A25.out).mono ?_); rintro e w' ⟨rfl, ⟨nd, rfl⟩⟩) | (go_at_call 19; (with_reducible refine (shuntingref01_Handle.calls a2 t133 _ A26.out).mono ?_); rintro e w' ⟨rfl, ⟨nd, rfl⟩⟩))
                go_ret
                exact ⟨by first | rfl | (simp; done) | (simp [*]; done), by repeat (first | exact Drawn0.refl _ | apply Drawn0.step)⟩
              · rw [if_neg c24] at H
                have c24b0 : (t130 == t131) = false := beq_eq_false_iff_ne.mpr c24
                have c24b1 : (t130 != t131) = true := bne_iff_ne.mpr c24
                obtain rfl := Option.some.inj H
                go_enter Try.func4, Try.ntmps4
                go_wp2_with (first | ((with_reducible refine gate_callee (f := 6) rfl ?_); refine goesL_ (some 9) rfl rfl Try.func6 (by kernel_rfl) rfl #[] rfl (by (try simp only [List.map_toArray, List.map_cons, List.map_nil]); first | done | rfl | (simp only [List.length_drop, List.length_take]; rfl)) ?_; (with_reducible refine (shuntinglaw01_awake.calls  true _ A5.out).mono ?_); rintro e w' ⟨rfl, ⟨nd, rfl⟩⟩; refine ⟨_, rfl, ?_⟩) | ((with_reducible refine gate_callee (f := 7) rfl ?_); refine goesL_ (some 13) rfl rfl Try.func7 (by kernel_rfl) rfl #[.int .u32 a0, .int .u32 a1] rfl (by (try simp only [List.map_toArray, List.map_cons, List.map_nil]); first | done | rfl | (simp only [List.length_drop, List.length_take]; rfl)) ?_; (with_reducible refine (word_Pack.calls a0 a1 t120 _ A7.out).mono ?_); rintro e w' ⟨rfl, ⟨nd, rfl⟩⟩; refine ⟨_, rfl, ?_⟩) | ((with_reducible refine gate_callee (f := 11) rfl ?_); refine goesL_ (some 16) rfl rfl Try.func11 (by kernel_rfl) rfl #[.int .u32 a0, .int .u32 a1] rfl (by (try simp only [List.map_toArray, List.map_cons, List.map_nil]); first | done | rfl | (simp only [List.length_drop, List.length_take]; rfl)) ?_; (with_reducible refine (shuntingref01_Pack.calls a0 a1 t121 _ A8.out).mono ?_); rintro e w' ⟨rfl, ⟨nd, rfl⟩⟩; refine ⟨_, rfl, ?_⟩) | (go_at_call 12; (with_reducible refine (word_High.calls a2 t122 _ A10.out).mono ?_); rintro e w' ⟨rfl, ⟨nd, rfl⟩⟩) | (go_at_call 13; (with_reducible refine (shuntingref01_High.calls a2 t123 _ A11.out).mono ?_); rintro e w' ⟨rfl, ⟨nd, rfl⟩⟩) | (go_at_call 14; (with_reducible refine (word_Low.calls a2 t124 _ A13.out).mono ?_); rintro e w' ⟨rfl, ⟨nd, rfl⟩⟩) | (go_at_call 15; (with_reducible refine (shuntingref01_Low.calls a2 t125 _ A14.out).mono ?_); rintro e w' ⟨rfl, ⟨nd, rfl⟩⟩) | (go_at_call 8; (with_reducible refine (word_Slot.calls a0 a1 t126 _ A16.out).mono ?_); rintro e w' ⟨rfl, ⟨nd, rfl⟩⟩) | (go_at_call 16; (with_reducible refine (shuntingref01_Slot.calls a0 a1 t127 _ A17.out).mono ?_); rintro e w' ⟨rfl, ⟨nd, rfl⟩⟩) | (go_at_call 9; (with_reducible refine (word_Bare.calls a0 t128 _ A19.out).mono ?_); rintro e w' ⟨rfl, ⟨nd, rfl⟩⟩) | (go_at_call 11; (with_reducible refine (shuntingref01_Pack.calls a0 0 t129 _ A20.out).mono ?_); rintro e w' ⟨rfl, ⟨nd, rfl⟩⟩) | (go_at_call 10; (with_reducible refine (word_Ref.calls a0 a3 t130 _ A22.out).mono ?_); rintro e w' ⟨rfl, ⟨nd, rfl⟩⟩) | (go_at_call 17; (with_reducible refine (shuntingref01_Ref.calls a0 a3 t131 _ A23.out).mono ?_); rintro e w' ⟨rfl, ⟨nd, rfl⟩⟩))
                go_ret
                exact ⟨by first | rfl | (simp; done) | (simp [*]; done), by repeat (first | exact Drawn0.refl _ | apply Drawn0.step)⟩
            · rw [if_neg c21] at H
              have c21b0 : (t128 == t129) = false := beq_eq_false_iff_ne.mpr c21
              have c21b1 : (t128 != t129) = true := bne_iff_ne.mpr c21
              obtain rfl := Option.some.inj H
              go_enter Try.func4, Try.ntmps4
              go_wp2_with (first | ((with_reducible refine gate_callee (f := 6) rfl ?_); refine goesL_ (some 9) rfl rfl Try.func6 (by kernel_rfl) rfl #[] rfl (by (try simp only [List.map_toArray, List.map_cons, List.map_nil]); first | done | rfl | (simp only [List.length_drop, List.length_take]; rfl)) ?_; (with_reducible refine (shuntinglaw01_awake.calls  true _ A5.out).mono ?_); rintro e w' ⟨rfl, ⟨nd, rfl⟩⟩; refine ⟨_, rfl, ?_⟩) | ((with_reducible refine gate_callee (f := 7) rfl ?_); refine goesL_ (some 13) rfl rfl Try.func7 (by kernel_rfl) rfl #[.int .u32 a0, .int .u32 a1] rfl (by (try simp only [List.map_toArray, List.map_cons, List.map_nil]); first | done | rfl | (simp only [List.length_drop, List.length_take]; rfl)) ?_; (with_reducible refine (word_Pack.calls a0 a1 t120 _ A7.out).mono ?_); rintro e w' ⟨rfl, ⟨nd, rfl⟩⟩; refine ⟨_, rfl, ?_⟩) | ((with_reducible refine gate_callee (f := 11) rfl ?_); refine goesL_ (some 16) rfl rfl Try.func11 (by kernel_rfl) rfl #[.int .u32 a0, .int .u32 a1] rfl (by (try simp only [List.map_toArray, List.map_cons, List.map_nil]); first | done | rfl | (simp only [List.length_drop, List.length_take]; rfl)) ?_; (with_reducible refine (shuntingref01_Pack.calls a0 a1 t121 _ A8.out).mono ?_); rintro e w' ⟨rfl, ⟨nd, rfl⟩⟩; refine ⟨_, rfl, ?_⟩) | (go_at_call 12; (with_reducible refine (word_High.calls a2 t122 _ A10.out).mono ?_); rintro e w' ⟨rfl, ⟨nd, rfl⟩⟩) | (go_at_call 13; (with_reducible refine (shuntingref01_High.calls a2 t123 _ A11.out).mono ?_); rintro e w' ⟨rfl, ⟨nd, rfl⟩⟩) | (go_at_call 14; (with_reducible refine (word_Low.calls a2 t124 _ A13.out).mono ?_); rintro e w' ⟨rfl, ⟨nd, rfl⟩⟩) | (go_at_call 15; (with_reducible refine (shuntingref01_Low.calls a2 t125 _ A14.out).mono ?_); rintro e w' ⟨rfl, ⟨nd, rfl⟩⟩) | (go_at_call 8; (with_reducible refine (word_Slot.calls a0 a1 t126 _ A16.out).mono ?_); rintro e w' ⟨rfl, ⟨nd, rfl⟩⟩) | (go_at_call 16; (with_reducible refine (shuntingref01_Slot.calls a0 a1 t127 _ A17.out).mono ?_); rintro e w' ⟨rfl, ⟨nd, rfl⟩⟩) | (go_at_call 9; (with_reducible refine (word_Bare.calls a0 t128 _ A19.out).mono ?_); rintro e w' ⟨rfl, ⟨nd, rfl⟩⟩) | (go_at_call 11; (with_reducible refine (shuntingref01_Pack.calls a0 0 t129 _ A20.out).mono ?_); rintro e w' ⟨rfl, ⟨nd, rfl⟩⟩))
              go_ret
              exact ⟨by first | rfl | (simp; done) | (simp [*]; done), by repeat (first | exact Drawn0.refl _ | apply Drawn0.step)⟩
          · rw [if_neg c18] at H
            have c18b0 : (t126 == t127) = false := beq_eq_false_iff_ne.mpr c18
            have c18b1 : (t126 != t127) = true := bne_iff_ne.mpr c18
            obtain rfl := Option.some.inj H
            go_enter Try.func4, Try.ntmps4
            go_wp2_with (first | ((with_reducible refine gate_callee (f := 6) rfl ?_); refine goesL_ (some 9) rfl rfl Try.func6 (by kernel_rfl) rfl #[] rfl (by (try simp only [List.map_toArray, List.map_cons, List.map_nil]); first | done | rfl | (simp only [List.length_drop, List.length_take]; rfl)) ?_; (with_reducible refine (shuntinglaw01_awake.calls  true _ A5.out).mono ?_); rintro e w' ⟨rfl, ⟨nd, rfl⟩⟩; refine ⟨_, rfl, ?_⟩) | ((with_reducible refine gate_callee (f := 7) rfl ?_); refine goesL_ (some 13) rfl rfl Try.func7 (by kernel_rfl) rfl #[.int .u32 a0, .int .u32 a1] rfl (by (try simp only [List.map_toArray, List.map_cons, List.map_nil]); first | done | rfl | (simp only [List.length_drop, List.length_take]; rfl)) ?_; (with_reducible refine (word_Pack.calls a0 a1 t120 _ A7.out).mono ?_); rintro e w' ⟨rfl, ⟨nd, rfl⟩⟩; refine ⟨_, rfl, ?_⟩) | ((with_reducible refine gate_callee (f := 11) rfl ?_); refine goesL_ (some 16) rfl rfl Try.func11 (by kernel_rfl) rfl #[.int .u32 a0, .int .u32 a1] rfl (by (try simp only [List.map_toArray, List.map_cons, List.map_nil]); first | done | rfl | (simp only [List.length_drop, List.length_take]; rfl)) ?_; (with_reducible refine (shuntingref01_Pack.calls a0 a1 t121 _ A8.out).mono ?_); rintro e w' ⟨rfl, ⟨nd, rfl⟩⟩; refine ⟨_, rfl, ?_⟩) | (go_at_call 12; (with_reducible refine (word_High.calls a2 t122 _ A10.out).mono ?_); rintro e w' ⟨rfl, ⟨nd, rfl⟩⟩) | (go_at_call 13; (with_reducible refine (shuntingref01_High.calls a2 t123 _ A11.out).mono ?_); rintro e w' ⟨rfl, ⟨nd, rfl⟩⟩) | (go_at_call 14; (with_reducible refine (word_Low.calls a2 t124 _ A13.out).mono ?_); rintro e w' ⟨rfl, ⟨nd, rfl⟩⟩) | (go_at_call 15; (with_reducible refine (shuntingref01_Low.calls a2 t125 _ A14.out).mono ?_); rintro e w' ⟨rfl, ⟨nd, rfl⟩⟩) | (go_at_call 8; (with_reducible refine (word_Slot.calls a0 a1 t126 _ A16.out).mono ?_); rintro e w' ⟨rfl, ⟨nd, rfl⟩⟩) | (go_at_call 16; (with_reducible refine (shuntingref01_Slot.calls a0 a1 t127 _ A17.out).mono ?_); rintro e w' ⟨rfl, ⟨nd, rfl⟩⟩))
            go_ret
            exact ⟨by first | rfl | (simp; done) | (simp [*]; done), by repeat (first | exact Drawn0.refl _ | apply Drawn0.step)⟩
        · rw [if_neg c15] at H
          have c15b0 : (t124 == t125) = false := beq_eq_false_iff_ne.mpr c15
          have c15b1 : (t124 != t125) = true := bne_iff_ne.mpr c15
          obtain rfl := Option.some.inj H
          go_enter Try.func4, Try.ntmps4
          go_wp2_with (first | ((with_reducible refine gate_callee (f := 6) rfl ?_); refine goesL_ (some 9) rfl rfl Try.func6 (by kernel_rfl) rfl #[] rfl (by (try simp only [List.map_toArray, List.map_cons, List.map_nil]); first | done | rfl | (simp only [List.length_drop, List.length_take]; rfl)) ?_; (with_reducible refine (shuntinglaw01_awake.calls  true _ A5.out).mono ?_); rintro e w' ⟨rfl, ⟨nd, rfl⟩⟩; refine ⟨_, rfl, ?_⟩) | ((with_reducible refine gate_callee (f := 7) rfl ?_); refine goesL_ (some 13) rfl rfl Try.func7 (by kernel_rfl) rfl #[.int .u32 a0, .int .u32 a1] rfl (by (try simp only [List.map_toArray, List.map_cons, List.map_nil]); first | done | rfl | (simp only [List.length_drop, List.length_take]; rfl)) ?_; (with_reducible refine (word_Pack.calls a0 a1 t120 _ A7.out).mono ?_); rintro e w' ⟨rfl, ⟨nd, rfl⟩⟩; refine ⟨_, rfl, ?_⟩) | ((with_reducible refine gate_callee (f := 11) rfl ?_); refine goesL_ (some 16) rfl rfl Try.func11 (by kernel_rfl) rfl #[.int .u32 a0, .int .u32 a1] rfl (by (try simp only [List.map_toArray, List.map_cons, List.map_nil]); first | done | rfl | (simp only [List.length_drop, List.length_take]; rfl)) ?_; (with_reducible refine (shuntingref01_Pack.calls a0 a1 t121 _ A8.out).mono ?_); rintro e w' ⟨rfl, ⟨nd, rfl⟩⟩; refine ⟨_, rfl, ?_⟩) | (go_at_call 12; (with_reducible refine (word_High.calls a2 t122 _ A10.out).mono ?_); rintro e w' ⟨rfl, ⟨nd, rfl⟩⟩) | (go_at_call 13; (with_reducible refine (shuntingref01_High.calls a2 t123 _ A11.out).mono ?_); rintro e w' ⟨rfl, ⟨nd, rfl⟩⟩) | (go_at_call 14; (with_reducible refine (word_Low.calls a2 t124 _ A13.out).mono ?_); rintro e w' ⟨rfl, ⟨nd, rfl⟩⟩) | (go_at_call 15; (with_reducible refine (shuntingref01_Low.calls a2 t125 _ A14.out).mono ?_); rintro e w' ⟨rfl, ⟨nd, rfl⟩⟩))
          go_ret
          exact ⟨by first | rfl | (simp; done) | (simp [*]; done), by repeat (first | exact Drawn0.refl _ | apply Drawn0.step)⟩
      · rw [if_neg c12] at H
        have c12b0 : (t122 == t123) = false := beq_eq_false_iff_ne.mpr c12
        have c12b1 : (t122 != t123) = true := bne_iff_ne.mpr c12
        obtain rfl := Option.some.inj H
        go_enter Try.func4, Try.ntmps4
        go_wp2_with (first | ((with_reducible refine gate_callee (f := 6) rfl ?_); refine goesL_ (some 9) rfl rfl Try.func6 (by kernel_rfl) rfl #[] rfl (by (try simp only [List.map_toArray, List.map_cons, List.map_nil]); first | done | rfl | (simp only [List.length_drop, List.length_take]; rfl)) ?_; (with_reducible refine (shuntinglaw01_awake.calls  true _ A5.out).mono ?_); rintro e w' ⟨rfl, ⟨nd, rfl⟩⟩; refine ⟨_, rfl, ?_⟩) | ((with_reducible refine gate_callee (f := 7) rfl ?_); refine goesL_ (some 13) rfl rfl Try.func7 (by kernel_rfl) rfl #[.int .u32 a0, .int .u32 a1] rfl (by (try simp only [List.map_toArray, List.map_cons, List.map_nil]); first | done | rfl | (simp only [List.length_drop, List.length_take]; rfl)) ?_; (with_reducible refine (word_Pack.calls a0 a1 t120 _ A7.out).mono ?_); rintro e w' ⟨rfl, ⟨nd, rfl⟩⟩; refine ⟨_, rfl, ?_⟩) | ((with_reducible refine gate_callee (f := 11) rfl ?_); refine goesL_ (some 16) rfl rfl Try.func11 (by kernel_rfl) rfl #[.int .u32 a0, .int .u32 a1] rfl (by (try simp only [List.map_toArray, List.map_cons, List.map_nil]); first | done | rfl | (simp only [List.length_drop, List.length_take]; rfl)) ?_; (with_reducible refine (shuntingref01_Pack.calls a0 a1 t121 _ A8.out).mono ?_); rintro e w' ⟨rfl, ⟨nd, rfl⟩⟩; refine ⟨_, rfl, ?_⟩) | (go_at_call 12; (with_reducible refine (word_High.calls a2 t122 _ A10.out).mono ?_); rintro e w' ⟨rfl, ⟨nd, rfl⟩⟩) | (go_at_call 13; (with_reducible refine (shuntingref01_High.calls a2 t123 _ A11.out).mono ?_); rintro e w' ⟨rfl, ⟨nd, rfl⟩⟩))
        go_ret
        exact ⟨by first | rfl | (simp; done) | (simp [*]; done), by repeat (first | exact Drawn0.refl _ | apply Drawn0.step)⟩
    · rw [if_neg c9] at H
      have c9b0 : (t120 == t121) = false := beq_eq_false_iff_ne.mpr c9
      have c9b1 : (t120 != t121) = true := bne_iff_ne.mpr c9
      obtain rfl := Option.some.inj H
      go_enter Try.func4, Try.ntmps4
      go_wp2_with (first | ((with_reducible refine gate_callee (f := 6) rfl ?_); refine goesL_ (some 9) rfl rfl Try.func6 (by kernel_rfl) rfl #[] rfl (by (try simp only [List.map_toArray, List.map_cons, List.map_nil]); first | done | rfl | (simp only [List.length_drop, List.length_take]; rfl)) ?_; (with_reducible refine (shuntinglaw01_awake.calls  true _ A5.out).mono ?_); rintro e w' ⟨rfl, ⟨nd, rfl⟩⟩; refine ⟨_, rfl, ?_⟩) | ((with_reducible refine gate_callee (f := 7) rfl ?_); refine goesL_ (some 13) rfl rfl Try.func7 (by kernel_rfl) rfl #[.int .u32 a0, .int .u32 a1] rfl (by (try simp only [List.map_toArray, List.map_cons, List.map_nil]); first | done | rfl | (simp only [List.length_drop, List.length_take]; rfl)) ?_; (with_reducible refine (word_Pack.calls a0 a1 t120 _ A7.out).mono ?_); rintro e w' ⟨rfl, ⟨nd, rfl⟩⟩; refine ⟨_, rfl, ?_⟩) | ((with_reducible refine gate_callee (f := 11) rfl ?_); refine goesL_ (some 16) rfl rfl Try.func11 (by kernel_rfl) rfl #[.int .u32 a0, .int .u32 a1] rfl (by (try simp only [List.map_toArray, List.map_cons, List.map_nil]); first | done | rfl | (simp only [List.length_drop, List.length_take]; rfl)) ?_; (with_reducible refine (shuntingref01_Pack.calls a0 a1 t121 _ A8.out).mono ?_); rintro e w' ⟨rfl, ⟨nd, rfl⟩⟩; refine ⟨_, rfl, ?_⟩))
      go_ret
      exact ⟨by first | rfl | (simp; done) | (simp [*]; done), by repeat (first | exact Drawn0.refl _ | apply Drawn0.step)⟩
  · replace c6 := Bool.eq_false_iff.mpr c6
    subst c6
    have H1 : (some false) = some r := by rw [if_neg (show ¬ (false = true) by decide)] at H; exact H
    clear H
    have H := H1
    clear H1
    obtain rfl := Option.some.inj H
    go_enter Try.func4, Try.ntmps4
    go_wp2_with (first | ((with_reducible refine gate_callee (f := 6) rfl ?_); refine goesL_ (some 9) rfl rfl Try.func6 (by kernel_rfl) rfl #[] rfl (by (try simp only [List.map_toArray, List.map_cons, List.map_nil]); first | done | rfl | (simp only [List.length_drop, List.length_take]; rfl)) ?_; (with_reducible refine (shuntinglaw01_awake.calls  false _ A5.out).mono ?_); rintro e w' ⟨rfl, ⟨nd, rfl⟩⟩; refine ⟨_, rfl, ?_⟩))
    go_ret
    exact ⟨by first | rfl | (simp; done) | (simp [*]; done), by repeat (first | exact Drawn0.refl _ | apply Drawn0.step)⟩

/-- THE ONE PURE STATEMENT of shuntinglaw01_WordPacks: yours. -/
def shuntinglaw01_WordPacks.Pure : Prop := ∀ (a0 : Int) (a1 : Int) (a2 : Int) (a3 : Int), (Lit.int .u32 a0).wf = true → (Lit.int .u32 a1).wf = true → (Lit.int .u64 a2).wf = true → (Lit.int .i64 a3).wf = true → shuntinglaw01_WordPacks.f a0 a1 a2 a3 = some true
theorem shuntinglaw01_WordPacks.walk (P : shuntinglaw01_WordPacks.Pure) (a0 : Int) (a1 : Int) (a2 : Int) (a3 : Int) (w : World) (w0 : (Lit.int .u32 a0).wf = true) (w1 : (Lit.int .u32 a1).wf = true) (w2 : (Lit.int .u64 a2).wf = true) (w3 : (Lit.int .i64 a3).wf = true) :
    Calls Try.prog 4 #[.int .u32 a0, .int .u32 a1, .int .u64 a2, .int .i64 a3] w fun e w' => e = .returned (.bool true) ∧ Below w.heap.size w w' := by
  have h := P a0 a1 a2 a3 w0 w1 w2 w3
  refine (shuntinglaw01_WordPacks.calls a0 a1 a2 a3 true w h).mono ?_
  rintro e w' ⟨rfl, hd⟩
  exact ⟨rfl, hd.below⟩

end Go.Proofs.Ytaicnfbldhcchaa.PWordPacks
