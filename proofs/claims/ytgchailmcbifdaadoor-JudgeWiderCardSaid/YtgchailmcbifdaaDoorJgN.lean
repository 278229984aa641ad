/- Package judge: what a search holds in memory, and what it knows. -/
import Derived.Test.YtgchailmcbifdaaDoorJgM
import Derived.Test.YtgchailmcbifdaaDoorJgG
namespace Go.Proofs.YtgchailmcbifdaaDoor.Jg
set_option linter.unusedSimpArgs false
set_option linter.unusedVariables false
set_option maxRecDepth 20000
open Go Go.Conc Go.RowKit Go.Proofs.YtgchailmcbifdaaDoor.Jay Go.Proofs.YtgchailmcbifdaaDoor.Pl
section
variable {γ : Type} {X : Turns γ} {s : γ} {w w' : World}

theorem and_i64 {a b : Nat} (ha : a < 4294967296) (hb : b < 4294967296) : bits .and .i64 (a : Int) (b : Int) = ((a &&& b : Nat) : Int) := by
  have hx : a &&& b < 2 ^ 32 := Nat.and_lt_two_pow _ (by omega)
  have h1 : (BitVec.ofInt 64 (a : Int)).toNat = a := by
    rw [BitVec.ofInt_natCast, BitVec.toNat_ofNat]; exact Nat.mod_eq_of_lt (by omega)
  have h2 : (BitVec.ofInt 64 (b : Int)).toNat = b := by
    rw [BitVec.ofInt_natCast, BitVec.toNat_ofNat]; exact Nat.mod_eq_of_lt (by omega)
  show IntKind.i64.wrap ((BitVec.ofInt 64 (a : Int) &&& BitVec.ofInt 64 (b : Int)).toNat : Int) = _
  rw [BitVec.toNat_and, h1, h2, IntKind.wrap_i64]
  omega
theorem or_i64 {a b : Nat} (ha : a < 4294967296) (hb : b < 4294967296) : bits .or .i64 (a : Int) (b : Int) = ((a ||| b : Nat) : Int) := by
  have hx : a ||| b < 2 ^ 32 := Nat.or_lt_two_pow (by omega) (by omega)
  have h1 : (BitVec.ofInt 64 (a : Int)).toNat = a := by
    rw [BitVec.ofInt_natCast, BitVec.toNat_ofNat]; exact Nat.mod_eq_of_lt (by omega)
  have h2 : (BitVec.ofInt 64 (b : Int)).toNat = b := by
    rw [BitVec.ofInt_natCast, BitVec.toNat_ofNat]; exact Nat.mod_eq_of_lt (by omega)
  show IntKind.i64.wrap ((BitVec.ofInt 64 (a : Int) ||| BitVec.ofInt 64 (b : Int)).toNat : Int) = _
  rw [BitVec.toNat_or, h1, h2, IntKind.wrap_i64]
  omega
theorem or_bit {d i : Nat} (hd : d < 256) (hi : i < 8) : bits .or .i64 (d : Int) (IntKind.i64.wrap (2 ^ i)) = ((d ||| 2 ^ i : Nat) : Int) := by
  have h : (2 : Nat) ^ i < 4294967296 := Nat.lt_of_lt_of_le (Nat.pow_lt_pow_right (by decide) hi) (by decide)
  have e : IntKind.i64.wrap (2 ^ i) = ((2 ^ i : Nat) : Int) := by
    have h2 : ((2 : Int) ^ i) = ((2 ^ i : Nat) : Int) := by simp
    rw [h2, IntKind.wrap_i64]
    generalize (2 : Nat) ^ i = p at h
    omega
  rw [e, or_i64 (by omega) h]
theorem and_all {d a : Nat} (hd : d < 256) (ha : a < 256) : (bits .and .i64 (d : Int) (a : Int) == (a : Int)) = decide (d &&& a = a) := by
  rw [and_i64 (by omega) (by omega)]
  by_cases h : d &&& a = a
  · rw [h]; simp
  · rw [decide_eq_false h, beq_eq_false_iff_ne]
    intro e
    exact h (Int.natCast_inj.1 e)

/-! ### From world to world, but for the map -/

theorem tr_cell {g : Nat} {ks : List (List UInt8)} (h : Tr w g ks) (p : Addr) (hp : p.block = g) : w.cell? p = none := by
  obtain ⟨es, c, h, -⟩ := h
  subst hp
  unfold World.cell?
  rw [h]
/-- All but the map has stayed, and the map is still one. -/
def Kp (gm : Nat) (w w' : World) : Prop := Chg (fun b => b = gm) w w' ∧ (∃ ks, Tr w gm ks) ∧ ∃ ks, Tr w' gm ks
theorem Kp.cell {gm : Nat} (h : Kp gm w w') {p : Addr} (hp : p.block < w.heap.size) : w'.cell? p = w.cell? p := by
  obtain ⟨hc, ⟨ks, h1⟩, ks', h2⟩ := h
  by_cases e : p.block = gm
  · rw [tr_cell h1 p e, tr_cell h2 p e]
  · exact hc.cell hp e
theorem Kp.blk {gm g : Nat} {t : TypeId} {cs : Array Value} (h : Kp gm w w') (hb : Blk w g t cs) : Blk w' g t cs := by
  obtain ⟨hc, ⟨ks, es, c, h1, -⟩, -⟩ := h
  refine hb.chg hc fun e => ?_
  subst e
  unfold Blk at hb
  rw [hb] at h1
  cases h1
theorem Kp.sl {gm B size n : Nat} {v : Value} {xs : List Value} (h : Kp gm w w') (hs : Sl w B size v n xs) (hB : B ≤ w.heap.size) : Sl w' B size v n xs := hs.keep fun p hp => h.cell (by omega)
theorem Kp.rw {gm B : Nat} {v : Value} {xs : List Int} (h : Kp gm w w') (hs : Rw w B v xs) (hB : B ≤ w.heap.size) : Rw w' B v xs := h.sl hs hB
theorem Kp.rws {gm B : Nat} {V : Value} {rows : List (List Int)} (h : Kp gm w w') (hV : Rws w B V rows) : Rws w' B V rows := by
  obtain ⟨vs, h1, h2, h3⟩ := hV
  refine ⟨vs, own_keep h1 fun g hg hl => ?_, h2, fun i r hr => by obtain ⟨v, h4, h5, h6⟩ := h3 i r hr; exact ⟨v, h4, (h.rw h5 (Nat.le_refl _)).more h.1.size, h6⟩⟩
  obtain ⟨_, ⟨rfl, _⟩ | ⟨g', cap, cur, rfl, _, hg', _⟩⟩ := h1
  · cases hg
  · have : g' = g := Option.some.inj hg
    subst this
    exact (h.blk (show Blk w g' 38 cur from hg')).trans hg'.symm
theorem Kp.of_below {gm : Nat} {ks : List (List UInt8)} (h : Tr w gm ks) (hb : Below w.heap.size w w') : Kp gm w w' := ⟨.of_below hb, ⟨ks, h⟩, ks, h.below hb⟩
theorem Kp.trans {gm : Nat} {w'' : World} (h : Kp gm w w') (k : Kp gm w' w'') : Kp gm w w'' := ⟨h.1.trans k.1, h.2.1, k.2.2⟩
theorem Kp.tab {gm : Nat} (h : Kp gm w w') (hT : Tab w) : Tab w' := ⟨Nat.lt_of_lt_of_le hT.1 h.1.size, fun i hi => by rw [← hT.2 i hi]; exact h.cell hT.1⟩

/-! ### What a search has at hand -/

structure Hd where
  (k K T M : Int)
  l : List Cl
  (all ga gt gl gc gf gm : Nat)
  lv : Value
def Hd.clo (H : Hd) : Value := .func (.func 11) #[] #[.pointer (some ⟨H.ga, 0, none⟩), .pointer (some ⟨H.gt, 0, none⟩), .pointer (some ⟨H.gl, 0, none⟩), .pointer (some ⟨H.gc, 0, none⟩), .pointer (some ⟨H.gf, 0, none⟩)]
structure Env (H : Hd) (w : World) : Prop where
  ba : Blk w H.ga 3 #[.int .i64 H.all]
  bt : Blk w H.gt 36 #[.map (some H.gm)]
  bl : Blk w H.gl 24 #[H.lv]
  bc : Blk w H.gc 23 #[.int .i64 H.k, .int .i64 H.K, .int .i64 H.T, .int .i64 H.M]
  bf : Blk w H.gf 37 #[H.clo]
  cl : Cls w w.heap.size H.lv H.l
  tab : Tab w
theorem Env.keep {H : Hd} (h : Env H w) (hk : Kp H.gm w w') : Env H w' :=
  ⟨hk.blk h.ba, hk.blk h.bt, hk.blk h.bl, hk.blk h.bc, hk.blk h.bf, Sl.more (hk.sl h.cl (Nat.le_refl _)) hk.1.size, hk.tab h.tab⟩
/-- What does not change at all. -/
structure Fit (H : Hd) : Prop where
  n8 : H.l.length ≤ 8
  a8 : H.all < 256
  k2 : (H.k == 2) = false
  hK : 1 ≤ H.K ∧ H.K ≤ 64
  good : ∀ x ∈ H.l, 0 ≤ x.val ∧ x.val < 4294967296
abbrev Hd.path (H : Hd) (d : Nat) (row : List Int) : Prop := Path H.k H.K H.l H.all d row
/-- No state of fewer than n calls to do is among those tried that can come to an end. -/
def InvL (H : Hd) (n : Nat) (ks : List (List UInt8)) : Prop := ∀ d row, d < 256 → Good row → lev H.l.length d < n → keyL d row ∈ ks → ¬ H.path d row
/-- States of fewer than n calls to do, alone. -/
def Few (H : Hd) (n : Nat) (ks : List (List UInt8)) : Prop := ∀ q ∈ ks, ∃ d row, q = keyL d row ∧ d < 256 ∧ Good row ∧ lev H.l.length d < n
theorem InvL.mono {H : Hd} {n m : Nat} {ks : List (List UInt8)} (h : InvL H n ks) (hm : m ≤ n) : InvL H m ks := fun d row h1 h2 h3 => h d row h1 h2 (by omega)
theorem Few.mono {H : Hd} {n m : Nat} {ks : List (List UInt8)} (h : Few H n ks) (hm : n ≤ m) : Few H m ks := fun q hq => by obtain ⟨d, row, h1, h2, h3, h4⟩ := h q hq; exact ⟨d, row, h1, h2, h3, by omega⟩
/-- The state that is being tried is put down. -/
theorem InvL.put {H : Hd} {n d : Nat} {row : List Int} {ks : List (List UInt8)} (h : InvL H (n + 1) ks) (hd : d < 256) (hr : Good row) (hl : lev H.l.length d = n) : InvL H n (ks ++ [keyL d row]) := by
  intro d' row' h1 h2 h3 h4
  rcases List.mem_append.1 h4 with h5 | h5
  · exact h d' row' h1 h2 (by omega) h5
  · obtain ⟨rfl, rfl⟩ := keyL_inj (by omega) (by omega) h2 hr (List.mem_singleton.1 h5)
    omega
/-- All of it has been tried in vain. -/
theorem InvL.done {H : Hd} {n d : Nat} {row : List Int} {ks ks' : List (List UInt8)} (h : InvL H (n + 1) ks) (hd : d < 256) (hr : Good row) (hl : lev H.l.length d = n) (h2 : InvL H n (ks ++ [keyL d row] ++ ks')) (hf : Few H n ks') (hp : ¬ H.path d row) : InvL H (n + 1) (ks ++ [keyL d row] ++ ks') := by
  intro d' row' h1 h3 h4 h5
  rcases Nat.lt_or_eq_of_le (Nat.le_of_lt_succ h4) with h6 | h6
  · exact h2 d' row' h1 h3 h6 h5
  · rcases List.mem_append.1 h5 with h7 | h7
    · rcases List.mem_append.1 h7 with h8 | h8
      · exact h d' row' h1 h3 h4 h8
      · obtain ⟨rfl, rfl⟩ := keyL_inj (by omega) (by omega) h3 hr (List.mem_singleton.1 h8)
        exact hp
    · obtain ⟨d2, row2, e, h9, h10, h11⟩ := hf _ h7
      obtain ⟨rfl, rfl⟩ := keyL_inj (by omega) (by omega) h3 h10 e
      omega

/-- What a search comes to. -/
def TryPost {γ : Type} (H : Hd) (n d : Nat) (row : List Int) (ks : List (List UInt8)) (s : γ) (w : World) (s' : γ) (r : Came) (w' : World) : Prop := s' = s ∧ Kp H.gm w w' ∧ ∃ (b : Bool) (ks' : List (List UInt8)), r = .back (.bool b) ∧ Tr w' H.gm (ks ++ ks') ∧
  (b = true → H.path d row) ∧ (b = false → ¬ H.path d row ∧ InvL H (n + 1) (ks ++ ks') ∧ Few H (n + 1) ks')
def TrySt (X : Turns γ) (H : Hd) (n : Nat) : Prop := ∀ (s : γ) (w : World) (d : Nat) (row : List Int) (v : Value) (ks : List (List UInt8)), Env H w → Tr w H.gm ks → ¬ X.oth s H.gm → d < 2 ^ H.l.length → lev H.l.length d = n → Good row → row.length + n ≤ H.l.length → Rw w w.heap.size v row → InvL H (n + 1) ks →
  Jdo Tryd.prog X 11 #[.int .i64 d, v, .pointer (some ⟨H.ga, 0, none⟩), .pointer (some ⟨H.gt, 0, none⟩), .pointer (some ⟨H.gl, 0, none⟩), .pointer (some ⟨H.gc, 0, none⟩), .pointer (some ⟨H.gf, 0, none⟩)] s w (TryPost H n d row ks s w)
end
end Go.Proofs.YtgchailmcbifdaaDoor.Jg
