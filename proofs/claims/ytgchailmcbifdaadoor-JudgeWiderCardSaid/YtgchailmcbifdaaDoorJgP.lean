/- Decimal digits; the texts of a history's states, and that no two have the same; the ways through a history, wider segments have more. No program in sight. -/
import Derived.Test.YtgchailmcbifdaaDoorJgB
namespace Go.Proofs.YtgchailmcbifdaaDoor.Jg

/-! ### Decimal digits -/

def dig : Nat → Nat → List UInt8
  | 0, _ => []
  | n + 1, u => dig n (u / 10) ++ [UInt8.ofNat (48 + u % 10)]
def dec (l : List UInt8) : Nat := l.foldl (fun a b => a * 10 + (b.toNat - 48)) 0
theorem dig_len (n u : Nat) : (dig n u).length = n := by
  induction n generalizing u with
  | zero => rfl
  | succ n ih => simp [dig, ih]
theorem digit_nat (k : Nat) : (UInt8.ofNat (48 + k % 10)).toNat = 48 + k % 10 := by
  simp
  omega
theorem dec_dig (n u : Nat) (h : u < 10 ^ n) : dec (dig n u) = u := by
  induction n generalizing u with
  | zero => simp at h; subst h; rfl
  | succ n ih =>
    have h1 : u / 10 < 10 ^ n := by rw [Nat.pow_succ] at h; omega
    have h2 := ih (u / 10) h1
    unfold dec at h2 ⊢
    rw [dig, List.foldl_append, h2]
    simp only [List.foldl_cons, List.foldl_nil, digit_nat]
    omega
theorem dig_no (n u : Nat) : (32 : UInt8) ∉ dig n u := by
  induction n generalizing u with
  | zero => simp [dig]
  | succ n ih =>
    simp only [dig, List.mem_append, not_or, List.mem_singleton]
    refine ⟨ih _, fun h => ?_⟩
    have := congrArg UInt8.toNat h
    rw [digit_nat] at this
    change 32 = _ at this
    omega

theorem dig_split (m k x : Nat) : dig (m + k) x = dig m (x / 10 ^ k) ++ dig k (x % 10 ^ k) := by
  induction k generalizing x with
  | zero => simp [dig]
  | succ k ih =>
    rw [show m + (k + 1) = (m + k) + 1 from rfl, dig, dig, ih, List.append_assoc, Nat.div_div_eq_div_mul]
    have e1 : 10 * 10 ^ k = 10 ^ (k + 1) := by rw [Nat.pow_succ, Nat.mul_comm]
    have e2 : x % 10 ^ (k + 1) = x % 10 + 10 * (x / 10 % 10 ^ k) := by rw [← e1, Nat.mod_mul]
    rw [e1, e2]
    have e3 : (x % 10 + 10 * (x / 10 % 10 ^ k)) / 10 = x / 10 % 10 ^ k := by omega
    have e4 : (x % 10 + 10 * (x / 10 % 10 ^ k)) % 10 = x % 10 := by omega
    rw [e3, e4]
theorem dig_two (x : Nat) : dig 2 x = [UInt8.ofNat (48 + x / 10 % 10), UInt8.ofNat (48 + x % 10)] := rfl
theorem dig_one (x : Nat) : dig 1 x = [UInt8.ofNat (48 + x % 10)] := rfl

/-! ### How many digits there are -/

def len8 (u : Nat) : Nat := if u = 0 then 0 else u.log2 + 1
def len64 (u : Nat) : Nat :=
  if 65536 ≤ u then (if 256 ≤ u / 65536 then 24 + len8 (u / 65536 / 256) else 16 + len8 (u / 65536))
  else (if 256 ≤ u then 8 + len8 (u / 256) else len8 u)
def low (u : Nat) : Nat := len64 u * 78913 / 262144
def ndig (u : Nat) : Nat := low u + (if 10 ^ low u ≤ u then 1 else 0)
theorem len8_fact : ∀ u : Nat, u < 256 → u < 2 ^ len8 u ∧ (0 < u → 2 ^ (len8 u - 1) ≤ u ∧ 1 ≤ len8 u ∧ len8 u ≤ 8) := by decide +kernel
theorem len8_le {u : Nat} (h : u < 256) : len8 u ≤ 8 := by
  rcases Nat.eq_zero_or_pos u with rfl | h0
  · decide
  · exact ((len8_fact u h).2 h0).2.2
theorem len64_fact {u : Nat} (h : u < 4294967296) : u < 2 ^ len64 u ∧ len64 u ≤ 32 := by
  unfold len64
  by_cases h1 : 65536 ≤ u
  · rw [if_pos h1]
    by_cases h2 : 256 ≤ u / 65536
    · rw [if_pos h2]
      have h3 : u / 65536 / 256 < 256 := by omega
      have h4 := (len8_fact _ h3).1
      have h5 := len8_le h3
      refine ⟨?_, by omega⟩
      rw [Nat.pow_add]
      generalize 2 ^ len8 (u / 65536 / 256) = z at h4 ⊢
      omega
    · rw [if_neg h2]
      have h3 : u / 65536 < 256 := by omega
      have h4 := (len8_fact _ h3).1
      have h5 := len8_le h3
      refine ⟨?_, by omega⟩
      rw [Nat.pow_add]
      generalize 2 ^ len8 (u / 65536) = z at h4 ⊢
      omega
  · rw [if_neg h1]
    by_cases h2 : 256 ≤ u
    · rw [if_pos h2]
      have h3 : u / 256 < 256 := by omega
      have h4 := (len8_fact _ h3).1
      have h5 := len8_le h3
      refine ⟨?_, by omega⟩
      rw [Nat.pow_add]
      generalize 2 ^ len8 (u / 256) = z at h4 ⊢
      omega
    · rw [if_neg h2]
      have h3 : u < 256 := by omega
      exact ⟨(len8_fact _ h3).1, by have := len8_le h3; omega⟩
theorem pow_fact : ∀ n : Nat, n < 33 → 2 ^ n ≤ 10 ^ (n * 78913 / 262144 + 1) ∧ n * 78913 / 262144 ≤ 9 := by decide +kernel
theorem low_le {u : Nat} (h : u < 4294967296) : low u ≤ 9 := (pow_fact _ (by have := (len64_fact h).2; omega)).2
theorem ndig_fact {u : Nat} (h : u < 4294967296) : u < 10 ^ ndig u ∧ ndig u ≤ 10 := by
  have h1 := len64_fact h
  have h2 := pow_fact (len64 u) (by omega)
  have h3 := low_le h
  unfold ndig
  change 2 ^ len64 u ≤ 10 ^ (low u + 1) ∧ _ at h2
  split
  · exact ⟨by omega, by omega⟩
  · exact ⟨by rw [Nat.add_zero]; omega, by omega⟩
theorem ndig_pos {u : Nat} (h : u < 4294967296) (h0 : 100 ≤ u) : 3 ≤ ndig u := by
  have h1 := (ndig_fact h).1
  rcases Nat.lt_or_ge (ndig u) 3 with h2 | h2
  · have : 10 ^ ndig u ≤ 10 ^ 2 := Nat.pow_le_pow_right (by decide) (by omega)
    omega
  · exact h2

/-! ### The text of a number, the text of a state -/

def fmt (u : Nat) : List UInt8 := if u < 10 then dig 1 u else if u < 100 then dig 2 u else dig (ndig u) u
theorem dec_fmt {u : Nat} (h : u < 4294967296) : dec (fmt u) = u := by
  unfold fmt
  split
  · exact dec_dig 1 u (by omega)
  · split
    · exact dec_dig 2 u (by omega)
    · exact dec_dig _ u (ndig_fact h).1
theorem fmt_no (u : Nat) : (32 : UInt8) ∉ fmt u := by
  unfold fmt
  split
  · exact dig_no _ _
  · split <;> exact dig_no _ _
theorem fmt_inj {u v : Nat} (hu : u < 4294967296) (hv : v < 4294967296) (h : fmt u = fmt v) : u = v := by rw [← dec_fmt hu, ← dec_fmt hv, h]
theorem fmt_len {u : Nat} (h : u < 4294967296) : (fmt u).length ≤ 10 := by
  unfold fmt
  split
  · rw [dig_len]; decide
  · split
    · rw [dig_len]; decide
    · rw [dig_len]; exact (ndig_fact h).2

def tailK (row : List Int) : List UInt8 := row.flatMap fun v => 32 :: fmt v.toNat
def keyL (d : Nat) (row : List Int) : List UInt8 := fmt d ++ tailK row
def Good (row : List Int) : Prop := ∀ v ∈ row, 0 ≤ v ∧ v < 4294967296

theorem split_no {a b x y : List UInt8} (ha : (32 : UInt8) ∉ a) (hb : (32 : UInt8) ∉ b) (h : a ++ 32 :: x = b ++ 32 :: y) : a = b ∧ x = y := by
  induction a generalizing b with
  | nil =>
    cases b with
    | nil => simpa using h
    | cons c b => simp at h; exact absurd h.1 (fun e => hb (by simp [← e]))
  | cons c a ih =>
    cases b with
    | nil => simp at h; exact absurd h.1 (fun e => ha (by simp [e]))
    | cons e b =>
      simp only [List.cons_append, List.cons.injEq] at h
      obtain ⟨rfl, h⟩ := h
      obtain ⟨rfl, rfl⟩ := ih (fun m => ha (List.mem_cons_of_mem _ m)) (fun m => hb (List.mem_cons_of_mem _ m)) h
      exact ⟨rfl, rfl⟩
theorem end_no {a b y : List UInt8} (ha : (32 : UInt8) ∉ a) : a ≠ b ++ 32 :: y := by
  rintro rfl
  exact ha (by simp)
theorem keyL_inj {row row' : List Int} : ∀ {d d' : Nat}, d < 4294967296 → d' < 4294967296 → Good row → Good row' → keyL d row = keyL d' row' → d = d' ∧ row = row' := by
  induction row generalizing row' with
  | nil =>
    intro d d' hd hd' _ hr' h
    cases row' with
    | nil => simp [keyL, tailK] at h; exact ⟨fmt_inj hd hd' h, rfl⟩
    | cons v row' => exact absurd (show fmt d = fmt d' ++ 32 :: (fmt v.toNat ++ tailK row') by simpa [keyL, tailK] using h) (end_no (fmt_no d))
  | cons u row ih =>
    intro d d' hd hd' hr hr' h
    have hu := hr u (by simp)
    cases row' with
    | nil => exact absurd (show fmt d' = fmt d ++ 32 :: (fmt u.toNat ++ tailK row) by simpa [keyL, tailK] using h.symm) (end_no (fmt_no d'))
    | cons v row' =>
      have hv := hr' v (by simp)
      have h2 : fmt d ++ 32 :: keyL u.toNat row = fmt d' ++ 32 :: keyL v.toNat row' := by simpa [keyL, tailK] using h
      obtain ⟨e1, e2⟩ := split_no (fmt_no d) (fmt_no d') h2
      obtain ⟨e3, e4⟩ := ih (row' := row') (d := u.toNat) (d' := v.toNat) (by omega) (by omega) (fun w hw => hr w (by simp [hw])) (fun w hw => hr' w (by simp [hw])) e2
      exact ⟨fmt_inj hd hd' e1, by rw [e4, show u = v by omega]⟩

/-! ### What may be behind a call -/

def without (row : List Int) (k : Nat) : List Int := row.take k ++ row.drop (k + 1)
def gotA (kind K : Int) (n : Nat) : Nat := if kind = 3 then n - K.toNat else 0
def gotZ (kind K : Int) (n : Nat) : Nat := if kind = 3 then n else min K.toNat n
def gotP (x : Cl) (row : List Int) (k : Nat) : Bool := x.code == 0 && (!x.over || row[k]? == some x.out)
def gotL (kind K : Int) (x : Cl) (row : List Int) : List (List Int) :=
  if x.code = 2 then (if row = [] then [row] else [])
  else ((List.range' (gotA kind K row.length) (gotZ kind K row.length - gotA kind K row.length)).filter (gotP x row)).map (without row)
/-- Not for rings. -/
def behindL (kind K : Int) (x : Cl) (row : List Int) : List (List Int) :=
  if x.kind = 2 then gotL kind K x row
  else if x.kind = 3 then (if x.code = 0 then [row] else [])
  else if x.code = 0 then [row ++ [x.val]]
  else if x.code = 4 then [row] else []

theorem behind_wider {kind K K' : Int} (hK : K ≤ K') {x : Cl} {row nx : List Int} (h : nx ∈ behindL kind K x row) : nx ∈ behindL kind K' x row := by
  unfold behindL at h ⊢
  split
  · rename_i h2
    rw [if_pos h2] at h
    unfold gotL at h ⊢
    split
    · rename_i h3
      rwa [if_pos h3] at h
    · rename_i h3
      rw [if_neg h3] at h
      simp only [List.mem_map, List.mem_filter, List.mem_range'_1] at h ⊢
      obtain ⟨k, ⟨⟨h4, h5⟩, h6⟩, h7⟩ := h
      refine ⟨k, ⟨?_, h6⟩, h7⟩
      unfold gotA at h4 h5 ⊢
      unfold gotZ at h5 ⊢
      by_cases h8 : kind = 3
      · simp only [if_pos h8] at h4 h5 ⊢
        omega
      · simp only [if_neg h8] at h4 h5 ⊢
        omega
  · rename_i h2
    rwa [if_neg h2] at h
theorem without_len {row : List Int} {k : Nat} (h : k < row.length) : (without row k).length + 1 = row.length := by
  unfold without
  rw [List.length_append, List.length_take, List.length_drop]
  omega
theorem behind_mem {kind K : Int} {x : Cl} {row nx : List Int} (h : nx ∈ behindL kind K x row) : nx = row ∨ nx = row ++ [x.val] ∨ ∃ k, nx = without row k := by
  unfold behindL at h
  split at h
  · unfold gotL at h
    split at h
    · split at h
      · exact .inl (List.mem_singleton.1 h)
      · cases h
    · obtain ⟨k, -, rfl⟩ := List.mem_map.1 h
      exact .inr (.inr ⟨k, rfl⟩)
  · split at h
    · split at h
      · exact .inl (List.mem_singleton.1 h)
      · cases h
    · split at h
      · exact .inr (.inl (List.mem_singleton.1 h))
      · split at h
        · exact .inl (List.mem_singleton.1 h)
        · cases h
theorem behind_len {kind K : Int} {x : Cl} {row nx : List Int} (h : nx ∈ behindL kind K x row) : nx.length ≤ row.length + 1 := by
  rcases behind_mem h with rfl | rfl | ⟨k, rfl⟩
  · omega
  · simp
  · unfold without
    rw [List.length_append, List.length_take, List.length_drop]
    omega
theorem behind_good {kind K : Int} {x : Cl} {row nx : List Int} (hx : 0 ≤ x.val ∧ x.val < 4294967296) (hr : Good row) (h : nx ∈ behindL kind K x row) : Good nx := by
  rcases behind_mem h with rfl | rfl | ⟨k, rfl⟩
  · exact hr
  · intro v hv
    rcases List.mem_append.1 hv with h1 | h1
    · exact hr v h1
    · rw [List.mem_singleton.1 h1]; exact hx
  · intro v hv
    rcases List.mem_append.1 hv with h1 | h1
    · exact hr v (List.mem_of_mem_take h1)
    · exact hr v (List.mem_of_mem_drop h1)

/-! ### The ways through a history -/

def lev (n d : Nat) : Nat := (List.range n).countP fun i => !d.testBit i
theorem lev_succ (n d : Nat) : lev (n + 1) d = lev n d + (if d.testBit n then 0 else 1) := by
  unfold lev
  rw [List.range_succ, List.countP_append]
  congr 1
  cases h : d.testBit n <;> simp [h]
theorem bit_set (d k i : Nat) : (d ||| 2 ^ k).testBit i = (d.testBit i || decide (k = i)) := by rw [Nat.testBit_or, Nat.testBit_two_pow]
theorem lev_same {n d k : Nat} (h : n ≤ k) : lev n (d ||| 2 ^ k) = lev n d := by
  induction n with
  | zero => rfl
  | succ n ih =>
    rw [lev_succ, lev_succ, ih (by omega), bit_set, decide_eq_false (by omega), Bool.or_false]
theorem lev_set {n d k : Nat} (h : k < n) (hk : d.testBit k = false) : lev n (d ||| 2 ^ k) + 1 = lev n d := by
  induction n with
  | zero => omega
  | succ n ih =>
    rw [lev_succ, lev_succ, bit_set]
    rcases Nat.lt_or_eq_of_le (Nat.le_of_lt_succ h) with h1 | rfl
    · have := ih h1
      rw [decide_eq_false (by omega), Bool.or_false]
      omega
    · rw [lev_same (Nat.le_refl _), hk]
      simp
theorem lev_le (n d : Nat) : lev n d ≤ n := by
  have := List.countP_le_length (p := fun i => !d.testBit i) (l := List.range n)
  rwa [List.length_range] at this
theorem set_lt {d k n : Nat} (hd : d < 2 ^ n) (hk : k < n) : d ||| 2 ^ k < 2 ^ n := Nat.or_lt_two_pow hd (Nat.pow_lt_pow_right (by decide) hk)

/-- A history's way: calls done, the row. -/
inductive Path (kind K : Int) (l : List Cl) (all : Nat) : Nat → List Int → Prop
  | done {d : Nat} {row : List Int} : d &&& all = all → Path kind K l all d row
  | step {d k : Nat} {row nx : List Int} {x : Cl} : l[k]? = some x → d.testBit k = false → earlyB l d x = false → nx ∈ behindL kind K x row → Path kind K l all (d ||| 2 ^ k) nx → Path kind K l all d row
theorem Path.wider {kind K K' : Int} {l : List Cl} {all d : Nat} {row : List Int} (hK : K ≤ K') (h : Path kind K l all d row) : Path kind K' l all d row := by
  induction h with
  | done h => exact .done h
  | step h1 h2 h3 h4 _ ih => exact .step h1 h2 h3 (behind_wider hK h4) ih

def pathB (kind K : Int) (l : List Cl) (all : Nat) : Nat → Nat → List Int → Bool
  | 0, d, _ => d &&& all == all
  | n + 1, d, row => d &&& all == all || (List.range l.length).any fun k => match l[k]? with
    | some x => !d.testBit k && (!earlyB l d x && (behindL kind K x row).any fun nx => pathB kind K l all n (d ||| 2 ^ k) nx)
    | none => false
theorem pathB_sound {kind K : Int} {l : List Cl} {all : Nat} : ∀ {n d : Nat} {row : List Int}, pathB kind K l all n d row = true → Path kind K l all d row
  | 0, d, row, h => .done (by simpa [pathB] using h)
  | n + 1, d, row, h => by
    unfold pathB at h
    rcases Bool.or_eq_true_iff.1 h with h | h
    · exact .done (by simpa using h)
    · obtain ⟨k, hk, h⟩ := List.any_eq_true.1 h
      rw [List.getElem?_eq_getElem (List.mem_range.1 hk)] at h
      simp only [Bool.and_eq_true, Bool.not_eq_true', List.any_eq_true] at h
      obtain ⟨h1, h2, nx, h3, h4⟩ := h
      exact .step (List.getElem?_eq_getElem (List.mem_range.1 hk)) h1 h2 h3 (pathB_sound h4)
theorem pathB_full {kind K : Int} {l : List Cl} {all d : Nat} {row : List Int} (h : Path kind K l all d row) : ∀ {n : Nat}, lev l.length d ≤ n → pathB kind K l all n d row = true := by
  induction h with
  | done h => intro n _; cases n <;> simp [pathB, h]
  | step h1 h2 h3 h4 _ ih =>
    intro n hn
    have hk := (List.getElem?_eq_some_iff.1 h1).1
    have := lev_set hk h2
    cases n with
    | zero => omega
    | succ n =>
      unfold pathB
      refine Bool.or_eq_true_iff.2 (.inr (List.any_eq_true.2 ⟨_, List.mem_range.2 hk, ?_⟩))
      rw [h1]
      simp only [Bool.and_eq_true, Bool.not_eq_true', List.any_eq_true]
      exact ⟨h2, h3, _, h4, ih (by omega)⟩
end Go.Proofs.YtgchailmcbifdaaDoor.Jg
