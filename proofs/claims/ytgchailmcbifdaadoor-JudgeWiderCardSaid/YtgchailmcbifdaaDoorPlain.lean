/- Plain words for two numbers in one word: packing, its halves, references, slots' words; no program in sight. -/
import Derived.Laws.BitsLemmas
import Derived.RowKit
namespace Go.Proofs.YtgchailmcbifdaaDoor.Pl
open Go.RowKit

def pk (h l : Int) : Int := h * 4294967296 + l
def hi (w : Int) : Int := w / 4294967296
def lo (w : Int) : Int := w % 4294967296
def more (x : Int) : Int := (x + 1) % 4294967296
def hd (w : Int) : Int := w % 4294967296 - 1
def U32 (n : Int) : Prop := 0 ≤ n ∧ n ≤ 4294967295
def U64 (n : Int) : Prop := 0 ≤ n ∧ n ≤ 18446744073709551615
def I64 (n : Int) : Prop := -9223372036854775808 ≤ n ∧ n ≤ 9223372036854775807

theorem u64_wrap (n : Int) : IntKind.u64.wrap n = n % 18446744073709551616 := by simp [IntKind.wrap, IntKind.bits, IntKind.signed]
theorem u64_wraps (n : Int) (h₀ : 0 ≤ n) (h₁ : n < 2 ^ 64) : IntKind.u64.wrap n = n := by rw [u64_wrap]; omega
theorem u32_wrap (n : Int) : IntKind.u32.wrap n = n % 4294967296 := by simp [IntKind.wrap, IntKind.bits, IntKind.signed]
theorem u64_of_wf {n : Int} (h : (Lit.int .u64 n).wf = true) : U64 n := by
  simp [Lit.wf, IntKind.min, IntKind.max, IntKind.bits, IntKind.signed] at h; unfold U64; omega
theorem u32_of_wf {n : Int} (h : (Lit.int .u32 n).wf = true) : U32 n := by
  simp [Lit.wf, IntKind.min, IntKind.max, IntKind.bits, IntKind.signed] at h; unfold U32; omega
theorem i64_of_wf {n : Int} (h : (Lit.int .i64 n).wf = true) : I64 n := by
  simp [Lit.wf, IntKind.min, IntKind.max, IntKind.bits, IntKind.signed] at h; unfold I64; omega
theorem wf_u64 {n : Int} (h : U64 n) : (Lit.int .u64 n).wf = true := by
  unfold U64 at h; simp [Lit.wf, IntKind.min, IntKind.max, IntKind.bits, IntKind.signed]; omega
theorem wf_u32 {n : Int} (h : U32 n) : (Lit.int .u32 n).wf = true := by
  unfold U32 at h; simp [Lit.wf, IntKind.min, IntKind.max, IntKind.bits, IntKind.signed]; omega
theorem wf_i64 {n : Int} (h : I64 n) : (Lit.int .i64 n).wf = true := by
  unfold I64 at h; simp [Lit.wf, IntKind.min, IntKind.max, IntKind.bits, IntKind.signed]; omega

theorem pk_u64 {h l : Int} (a : U32 h) (b : U32 l) : U64 (pk h l) := by unfold U32 at a b; unfold U64 pk; omega
theorem hi_u32 {w : Int} (a : U64 w) : U32 (hi w) := by unfold U64 at a; unfold U32 hi; omega
theorem lo_u32 (w : Int) : U32 (lo w) := by unfold U32 lo; omega
theorem more_u32 (x : Int) : U32 (more x) := by unfold U32 more; omega
theorem u32_zero : U32 0 := by unfold U32; omega
theorem hi_pk {h l : Int} (a : U32 h) (b : U32 l) : hi (pk h l) = h := by unfold U32 at a b; unfold hi pk; omega
theorem lo_pk {h l : Int} (a : U32 h) (b : U32 l) : lo (pk h l) = l := by unfold U32 at a b; unfold lo pk; omega
theorem pk_hi_lo (w : Int) : pk (hi w) (lo w) = w := by unfold pk hi lo; omega

theorem or_pk {a b : Int} (ha : U32 a) (hb : U32 b) : Go.bits .or .u64 (IntKind.u64.wrap ((IntKind.u64.wrap a) * 4294967296)) (IntKind.u64.wrap b) = pk a b := by
  unfold U32 at ha hb
  have h1 : IntKind.u64.wrap a = a := by rw [u64_wrap]; omega
  have h2 : IntKind.u64.wrap (a * 4294967296) = a * 4294967296 := by rw [u64_wrap]; omega
  have h3 : IntKind.u64.wrap b = b := by rw [u64_wrap]; omega
  rw [h1, h2, h3]
  exact bits_join .u64 64 (by decide) u64_wraps 32 _ _ (by omega) (by omega) (by omega) hb.1 (by omega) (by omega)
end Go.Proofs.YtgchailmcbifdaaDoor.Pl
