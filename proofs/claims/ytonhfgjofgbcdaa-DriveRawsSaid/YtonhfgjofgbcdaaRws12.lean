/- A part of this claim's proof. -/
import Derived.Laws.BitsLemmas
import Derived.RowKit
set_option linter.unusedSimpArgs false
set_option linter.unusedVariables false
set_option maxRecDepth 20000
namespace Go.Proofs.Ytonhfgjofgbcdaa.Pl
open Go.RowKit
def pk (h l : Int) : Int:=h * 4294967296 + l
def hi (w : Int) : Int:=w / 4294967296
def lo (w : Int) : Int:=w % 4294967296
def more (x : Int) : Int:=(x + 1) % 4294967296
def hd (w : Int) : Int:=w % 4294967296 - 1
def U32 (n : Int) : Prop:=0 <= n /\ n <= 4294967295
theorem zjk (n : Int) : IntKind.u64.wrap n = n % 18446744073709551616:=by simp [IntKind.wrap,IntKind.bits,IntKind.signed]
theorem u64_wraps (n : Int) (h₀ : 0 <= n) (h₁ : n < 2 ^ 64) : IntKind.u64.wrap n = n:=by rw [zjk]; omega
theorem u32_wrap (n : Int) : IntKind.u32.wrap n = n % 4294967296:=by simp [IntKind.wrap,IntKind.bits,IntKind.signed]
theorem zdt : U32 0:=by unfold U32; omega
theorem or_pk {a b : Int} (ha : U32 a) (hb : U32 b) : Go.bits .or .u64 (IntKind.u64.wrap ((IntKind.u64.wrap a) * 4294967296)) (IntKind.u64.wrap b) = pk a b:=by
 unfold U32 at ha hb
 have h1 : IntKind.u64.wrap a = a:=by rw [zjk]; omega
 have h2 : IntKind.u64.wrap (a * 4294967296) = a * 4294967296:=by rw [zjk]; omega
 have h3 : IntKind.u64.wrap b = b:=by rw [zjk]; omega
 rw [h1,h2,h3]
 exact bits_join .u64 64 (by decide) u64_wraps 32 _ _ (by omega) (by omega) (by omega) hb.1 (by omega) (by omega)
end Go.Proofs.Ytonhfgjofgbcdaa.Pl
