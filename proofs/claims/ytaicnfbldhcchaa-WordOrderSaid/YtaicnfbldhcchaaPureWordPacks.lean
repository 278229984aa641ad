/- 'WordPacks': for all numbers and words, packing, unpacking, slots' words and references are as the document's definition (by dividing) says; the law answers true for every input, and each argument reads afterwards as before. No condition. -/
import Derived.Test.YtaicnfbldhcchaaPWordPacksx1
namespace Go.Proofs.Ytaicnfbldhcchaa.Pure
open Go.RowKit Go.Proofs.Ytaicnfbldhcchaa.PWordPacks Go.Proofs.YtaicnfbldhcchaaW.PrintWords Go.Proofs.YtaicnfbldhcchaaW.PrintLast

theorem wp_u64 (n : Int) : IntKind.u64.wrap n = n % 18446744073709551616 := by simp [IntKind.wrap, IntKind.bits, IntKind.signed]
theorem wp_wraps (n : Int) (h₀ : 0 ≤ n) (h₁ : n < 2 ^ 64) : IntKind.u64.wrap n = n := by rw [wp_u64]; omega
theorem wp_join (a b : Int) (ha : 0 ≤ a) (ha' : a < 4294967296) (hb : 0 ≤ b) (hb' : b < 4294967296) :
    Go.bits .or .u64 (IntKind.u64.wrap ((IntKind.u64.wrap a) * 4294967296)) (IntKind.u64.wrap b) = a * 4294967296 + b := by
  have h1 : IntKind.u64.wrap a = a := by rw [wp_u64]; omega
  have h2 : IntKind.u64.wrap (a * 4294967296) = a * 4294967296 := by rw [wp_u64]; omega
  have h3 : IntKind.u64.wrap b = b := by rw [wp_u64]; omega
  rw [h1, h2, h3]
  exact bits_join .u64 64 (by decide) wp_wraps 32 _ _ (by omega) (by omega) (by omega) hb (by omega) (by omega)
theorem wp_pack (a b : Int) (ha : 0 ≤ a) (ha' : a < 4294967296) (hb : 0 ≤ b) (hb' : b < 4294967296) : word_Pack.f a b = some (a * 4294967296 + b) := by
  unfold word_Pack.f; rw [wp_join a b ha ha' hb hb']
theorem wp_rpack (a b : Int) (ha : 0 ≤ a) (ha' : a < 4294967296) (hb : 0 ≤ b) (hb' : b < 4294967296) : shuntingref01_Pack.f a b = some (a * 4294967296 + b) := by
  unfold shuntingref01_Pack.f
  have h1 : IntKind.u64.wrap a = a := by rw [wp_u64]; omega
  have h2 : IntKind.u64.wrap (a * 4294967296) = a * 4294967296 := by rw [wp_u64]; omega
  have h3 : IntKind.u64.wrap b = b := by rw [wp_u64]; omega
  have h4 : IntKind.u64.wrap (a * 4294967296 + b) = a * 4294967296 + b := by rw [wp_u64]; omega
  rw [h1, h2, h3, h4]
theorem wp_half0 (w : Int) (_h : 0 ≤ w) (_h' : w ≤ 18446744073709551615) : word_half_uint64.f w 0 = some (w % 4294967296) := by
  unfold word_half_uint64.f; rw [if_pos (by omega)]
  have : shr .u64 w 0 = w := by unfold shr; simp
  rw [this]
theorem wp_half32 (w : Int) (h : 0 ≤ w) (h' : w ≤ 18446744073709551615) : word_half_uint64.f w 32 = some (w / 4294967296) := by
  unfold word_half_uint64.f; rw [if_pos (by omega)]
  have : shr .u64 w 32 = w / 4294967296 := by unfold shr; rfl
  rw [this]; congr 1; omega
theorem wp_low (w : Int) (h : 0 ≤ w) (h' : w ≤ 18446744073709551615) : word_Low.f w = some (w % 4294967296) := by
  unfold word_Low.f; rw [wp_half0 w h h']; rfl
theorem wp_high (w : Int) (h : 0 ≤ w) (h' : w ≤ 18446744073709551615) : word_High.f w = some (w / 4294967296) := by
  unfold word_High.f; rw [wp_half32 w h h']; rfl
theorem wp_rlow (w : Int) (h : 0 ≤ w) : shuntingref01_Low.f w = some (w % 4294967296) := by
  unfold shuntingref01_Low.f; rw [Int.tmod_eq_emod_of_nonneg h]; congr 1; omega
theorem wp_rhigh (w : Int) (h : 0 ≤ w) (h' : w ≤ 18446744073709551615) : shuntingref01_High.f w = some (w / 4294967296) := by
  unfold shuntingref01_High.f; rw [Int.tdiv_eq_ediv_of_nonneg h, wp_u64]; congr 1; omega
theorem wp_more (x : Int) (h : 0 ≤ x) (h' : x ≤ 4294967295) : shuntingref01_More.f x = some ((x + 1) % 4294967296) := by
  unfold shuntingref01_More.f
  have h1 : IntKind.u64.wrap x = x := by rw [wp_u64]; omega
  have h2 : IntKind.u64.wrap (x + 1) = x + 1 := by rw [wp_u64]; omega
  rw [h1, h2, Int.tmod_eq_emod_of_nonneg (by omega)]; congr 1; omega
theorem wp_slot (a b : Int) (ha : 0 ≤ a) (ha' : a ≤ 4294967295) : word_Slot.f a b = some (a * 4294967296 + (b + 1) % 4294967296) := by
  unfold word_Slot.f; rw [wp_pack a _ ha (by omega) (by omega) (by omega)]; rfl
theorem wp_rslot (a b : Int) (ha : 0 ≤ a) (ha' : a ≤ 4294967295) (hb : 0 ≤ b) (hb' : b ≤ 4294967295) : shuntingref01_Slot.f a b = some (a * 4294967296 + (b + 1) % 4294967296) := by
  unfold shuntingref01_Slot.f; rw [wp_more b hb hb']; simp only [Option.bind_some]; rw [wp_rpack a _ ha (by omega) (by omega) (by omega)]; rfl
theorem wp_bare (a : Int) (ha : 0 ≤ a) (ha' : a ≤ 4294967295) : word_Bare.f a = some (a * 4294967296) := by
  unfold word_Bare.f; rw [wp_pack a _ ha (by omega) (by omega) (by omega)]; simp
theorem wp_ref (a b : Int) (ha : 0 ≤ a) (ha' : a ≤ 4294967295) : word_Ref.f a b = some (a * 4294967296 + (b + 1) % 4294967296) := by
  unfold word_Ref.f; rw [wp_pack a _ ha (by omega) (by omega) (by omega)]; simp only [Option.bind_some]; congr 1; omega
theorem wp_rref (a b : Int) (ha : 0 ≤ a) (ha' : a ≤ 4294967295) : shuntingref01_Ref.f a b = some (a * 4294967296 + (b + 1) % 4294967296) := by
  unfold shuntingref01_Ref.f
  by_cases hn : Int.tmod b 4294967296 < 0
  · rw [if_pos hn]
    have hb : b < 0 := by
      by_cases h : 0 ≤ b
      · rw [Int.tmod_eq_emod_of_nonneg h] at hn; omega
      · omega
    have ht : Int.tmod b 4294967296 = -((-b) % 4294967296) := by
      have : b = -(-b) := by omega
      rw [this, Int.neg_tmod, Int.tmod_eq_emod_of_nonneg (by omega)]; simp
    have hw : wrap64 (Int.tmod b 4294967296 + 4294967296) = Int.tmod b 4294967296 + 4294967296 := by unfold wrap64; rw [ht]; omega
    rw [hw, wp_more _ (by omega) (by omega)]; simp only [Option.bind_some]
    rw [wp_rpack a _ ha (by omega) (by omega) (by omega)]; simp only [Option.bind_some]; rw [ht]; congr 1; omega
  · rw [if_neg hn, wp_more _ (by omega) (by omega)]; simp only [Option.bind_some]
    rw [wp_rpack a _ ha (by omega) (by omega) (by omega)]; simp only [Option.bind_some]; congr 1
    by_cases h : 0 ≤ b
    · rw [Int.tmod_eq_emod_of_nonneg h]; omega
    · have ht : Int.tmod b 4294967296 = -((-b) % 4294967296) := by
        have : b = -(-b) := by omega
        rw [this, Int.neg_tmod, Int.tmod_eq_emod_of_nonneg (by omega)]; simp
      rw [ht] at hn ⊢; omega
theorem wp_handle (w : Int) (h : 0 ≤ w) (h' : w ≤ 18446744073709551615) : word_Handle.f w = some (w % 4294967296 - 1) := by
  unfold word_Handle.f; rw [wp_low w h h']; simp only [Option.bind_some]
  congr 1; unfold wrap64; omega
theorem wp_rhandle (w : Int) (h : 0 ≤ w) : shuntingref01_Handle.f w = some (w % 4294967296 - 1) := by
  unfold shuntingref01_Handle.f; rw [Int.tmod_eq_emod_of_nonneg h]; congr 1; unfold wrap64; omega
theorem wp_awake : shuntinglaw01_awake.f = some true := by
  unfold shuntinglaw01_awake.f
  rw [wp_slot 2 5 (by omega) (by omega)]; simp only [Option.bind_some]; rw [if_pos (by omega)]
  rw [wp_ref 3 4 (by omega) (by omega)]; simp only [Option.bind_some]; rw [wp_handle _ (by omega) (by omega)]; simp only [Option.bind_some]; rw [if_pos (by omega)]
  rw [wp_handle _ (by omega) (by omega)]; simp only [Option.bind_some]; rw [if_pos (by omega)]
  rw [wp_bare _ (by omega) (by omega)]; simp only [Option.bind_some]; rw [wp_low _ (by omega) (by omega)]; simp only [Option.bind_some]; rfl

theorem wp_in32 {n : Int} (h : (Lit.int .u32 n).wf = true) : 0 ≤ n ∧ n ≤ 4294967295 := by
  simp [Lit.wf, IntKind.min, IntKind.max, IntKind.bits, IntKind.signed] at h; omega
theorem wp_in64 {n : Int} (h : (Lit.int .u64 n).wf = true) : 0 ≤ n ∧ n ≤ 18446744073709551615 := by
  simp [Lit.wf, IntKind.min, IntKind.max, IntKind.bits, IntKind.signed] at h; omega

theorem WordPacks : shuntinglaw01_WordPacks.Pure := by
  intro a b w h ha hb hw hh
  have ⟨a0, a1⟩ := wp_in32 ha
  have ⟨b0, b1⟩ := wp_in32 hb
  have ⟨w0, w1⟩ := wp_in64 hw
  unfold shuntinglaw01_WordPacks.f
  rw [wp_awake]; simp only [Option.bind_some, if_true]
  rw [wp_pack a b a0 (by omega) b0 (by omega), wp_rpack a b a0 (by omega) b0 (by omega)]; simp only [Option.bind_some, if_true]
  rw [wp_high w w0 w1, wp_rhigh w w0 w1]; simp only [Option.bind_some, if_true]
  rw [wp_low w w0 w1, wp_rlow w w0]; simp only [Option.bind_some, if_true]
  rw [wp_slot a b a0 a1, wp_rslot a b a0 a1 b0 b1]; simp only [Option.bind_some, if_true]
  rw [wp_bare a a0 a1, wp_rpack a 0 a0 (by omega) (by omega) (by omega)]; simp only [Option.bind_some, Int.add_zero, if_true]
  rw [wp_ref a h a0 a1, wp_rref a h a0 a1]; simp only [Option.bind_some, if_true]
  rw [wp_handle w w0 w1, wp_rhandle w w0]; simp only [Option.bind_some]
  simp

end Go.Proofs.Ytaicnfbldhcchaa.Pure
