/- Package store: the words as a whole, finding one, an access, walked. -/
import Derived.Test.YtonhfgjofgbcdaaSt
namespace Go.Proofs.Ytonhfgjofgbcdaa.St
set_option linter.unusedSimpArgs false
set_option linter.unusedVariables false
set_option maxRecDepth 20000
open Go Go.Conc Go.RowKit Go.Proofs.Ytonhfgjofgbcdaa.Jay Go.Proofs.Ytonhfgjofgbcdaa.Pl
section
variable {γ : Type} {X : Turns γ} {s : γ} {w : World}
attribute [local go_sem] upon_value upon_skip

/-! ### The words as a whole -/

structure Mem where
  (e f : Int) (li pi : List Int) (h t : Int) (ln nx sl : List Int)
  deriving DecidableEq

/-- An area's words. -/
def Mem.area (m : Mem) (a : Int) : List Int :=
  if a = 1 then [m.e] else if a = 2 then [m.f] else if a = 3 then m.li else if a = 4 then m.pi else if a = 5 then [m.h] else if a = 6 then [m.t] else if a = 7 then m.ln else if a = 8 then m.nx else if a = 9 then m.sl else []
/-- Another word in its place. -/
def Mem.put (m : Mem) (a : Int) (i : Nat) (x : Int) : Mem :=
  if a = 1 then { m with e := x } else if a = 2 then { m with f := x } else if a = 3 then { m with li := m.li.set i x } else if a = 4 then { m with pi := m.pi.set i x } else if a = 5 then { m with h := x } else if a = 6 then { m with t := x }
  else if a = 7 then { m with ln := m.ln.set i x } else if a = 8 then { m with nx := m.nx.set i x } else if a = 9 then { m with sl := m.sl.set i x } else m
/-- The word at a place; none: it isn't there. -/
def Mem.at_ (m : Mem) (a i : Int) : Option Int := if 0 ≤ i then (m.area a)[i.toNat]? else none

/-- Not too many. -/
def Mem.small (m : Mem) : Prop := m.li.length ≤ 1000000 ∧ m.pi.length ≤ 1000000 ∧ m.ln.length ≤ 1000000 ∧ m.nx.length ≤ 1000000 ∧ m.sl.length ≤ 1000000

/-- A list of words, as a value. -/
def Us (w : World) (B : Nat) (v : Value) (xs : List Int) : Prop := Sl w B 1 v xs.length (U xs)

/-- Nine cells that are these words. -/
def MemC (w : World) (B : Nat) (m : Mem) (cs : Array Value) : Prop :=
  ∃ v2 v3 v6 v7 v8, cs = #[.int .u64 m.e, .int .u64 m.f, v2, v3, .int .u64 m.h, .int .u64 m.t, v6, v7, v8] ∧ Us w B v2 m.li ∧ Us w B v3 m.pi ∧ Us w B v6 m.ln ∧ Us w B v7 m.nx ∧ Us w B v8 m.sl

def MemV (w : World) (B : Nat) (m : Mem) (v : Value) : Prop := ∃ cs, v = .agg cs ∧ MemC w B m cs

section
variable {w w' : World} {B B' : Nat} {m : Mem} {cs : Array Value}
theorem MemC.map (h : MemC w B m cs) (f : ∀ v xs, Us w B v xs → Us w' B' v xs) : MemC w' B' m cs := by
  obtain ⟨v2, v3, v6, v7, v8, h0, h2, h3, h6, h7, h8⟩ := h
  exact ⟨v2, v3, v6, v7, v8, h0, f _ _ h2, f _ _ h3, f _ _ h6, f _ _ h7, f _ _ h8⟩
theorem MemC.keep (h : MemC w B m cs) (hk : ∀ p : Addr, p.block < B → w'.cell? p = w.cell? p) : MemC w' B m cs := h.map fun _ _ u => Sl.keep u hk
theorem MemC.more (h : MemC w B m cs) (hB : B ≤ B') : MemC w B' m cs := h.map fun _ _ u => Sl.more u hB
theorem MemC.below (h : MemC w B m cs) (hb : Below B w w') : MemC w' B m cs := h.keep fun _ hp => hb.cell hp
end

/-- A row that was copied, with another word in it, or as it was. -/
theorem us_of_row {w : World} {g cap : Nat} {cur : Array Value} {xs : List Int} {t : TypeId} {B : Nat} (hb : Blk w g t cur) (h1 : xs.length ≤ cap) (h2 : cap ≤ maxLen) (h3 : cur.size = cap) (h4 : cur.toList.take xs.length = U xs) (hB : g < B) : Us w B (.slice (some ⟨g, 0, none⟩) xs.length cap) xs := by
  have := Sl.of_blk (size := 1) (n := xs.length) (c := cap) hb (by omega) h1 h2 hB
  rw [Nat.mul_one, h4] at this
  exact this
theorem us_set {w : World} {g cap i : Nat} {cur : Array Value} {xs : List Int} {t : TypeId} {B : Nat} {x : Int} (hb : Blk w g t cur) (h1 : xs.length ≤ cap) (h2 : cap ≤ maxLen) (h3 : cur.size = cap) (h4 : cur.toList.take xs.length = U xs) (hB : g < B) :
    Us (w.setCell ⟨g, i, none⟩ (.int .u64 x)) B (.slice (some ⟨g, 0, none⟩) xs.length cap) (xs.set i x) := by
  have h5 : (cur.setIfInBounds i (.int .u64 x)).toList.take xs.length = U (xs.set i x) := by
    rw [Array.toList_setIfInBounds, List.take_set, h4]
    exact (List.map_set ..).symm
  have := us_of_row (xs := xs.set i x) (hb.set_ i (.int .u64 x)) (by rw [List.length_set]; exact h1) h2 (by rw [Array.size_setIfInBounds]; exact h3) (by rw [List.length_set]; exact h5) hB
  rwa [List.length_set] at this

/-- A slice that lies off a block; cells whose slices do. -/
def OffS (g : Nat) (v : Value) : Prop := ∀ b o n c, v = .slice (some ⟨b, o, none⟩) n c → 0 < n → b ≠ g
def Off (g : Nat) (cs : Array Value) : Prop := ∀ v ∈ cs.toList, OffS g v
theorem Off.set_ {g k : Nat} {cs : Array Value} {v : Value} (h : Off g cs) (hv : OffS g v) : Off g (cs.setIfInBounds k v) := by
  intro u hu
  rw [Array.toList_setIfInBounds] at hu
  rcases List.mem_or_eq_of_mem_set hu with h1 | rfl
  · exact h u h1
  · exact hv
theorem offS_int (g : Nat) (k : IntKind) (x : Int) : OffS g (.int k x) := fun _ _ _ _ e => by cases e
theorem offS_new {g g' n c : Nat} (h : g' ≠ g) : OffS g (.slice (some ⟨g', 0, none⟩) n c) := fun b o n' c' e _ => by
  injection e with e1
  injection e1 with e1
  injection e1 with e1
  omega
theorem offS_of_us {w : World} {B g : Nat} {v : Value} {xs : List Int} (h : Us w B v xs) (hB : B ≤ g) : OffS g v := fun b o n c e hn => by
  obtain ⟨_, A, c', e', _, _, h4⟩ := h
  rw [e] at e'
  injection e' with e1 e2 e3
  obtain ⟨b', o', e4, hb, _⟩ := h4 (by omega)
  rw [← e1] at e4
  injection e4 with e4
  injection e4 with e4
  omega
theorem Us.off {w w5 : World} {B g : Nat} {v : Value} {xs : List Int} (h : Us w B v xs) (ho : OffS g v) (hk : ∀ p : Addr, p.block < B → p.block ≠ g → w5.cell? p = w.cell? p) : Us w5 B v xs := by
  obtain ⟨h1, A, c, rfl, h2, h3, h4⟩ := h
  refine ⟨h1, A, c, rfl, h2, h3, fun hn => ?_⟩
  obtain ⟨b, o, rfl, hb, hc⟩ := h4 hn
  exact ⟨b, o, rfl, hb, fun j u hu => (hk _ hb (ho _ _ _ _ rfl hn)).trans (hc j u hu)⟩
theorem off_of_memC {w : World} {B g : Nat} {m : Mem} {cs : Array Value} (h : MemC w B m cs) (hB : B ≤ g) : Off g cs := by
  obtain ⟨v2, v3, v6, v7, v8, rfl, h2, h3, h6, h7, h8⟩ := h
  intro v hv
  simp only [List.mem_cons, List.not_mem_nil, or_false] at hv
  rcases hv with rfl | rfl | rfl | rfl | rfl | rfl | rfl | rfl | rfl
  · exact offS_int _ _ _
  · exact offS_int _ _ _
  · exact offS_of_us h2 hB
  · exact offS_of_us h3 hB
  · exact offS_int _ _ _
  · exact offS_int _ _ _
  · exact offS_of_us h6 hB
  · exact offS_of_us h7 hB
  · exact offS_of_us h8 hB
theorem MemC.off {w w5 : World} {B g : Nat} {m : Mem} {cs : Array Value} (h : MemC w B m cs) (ho : Off g cs) (hk : ∀ p : Addr, p.block < B → p.block ≠ g → w5.cell? p = w.cell? p) : MemC w5 B m cs := by
  obtain ⟨v2, v3, v6, v7, v8, rfl, h2, h3, h6, h7, h8⟩ := h
  exact ⟨_, _, _, _, _, rfl, h2.off (ho _ (by simp)) hk, h3.off (ho _ (by simp)) hk, h6.off (ho _ (by simp)) hk, h7.off (ho _ (by simp)) hk, h8.off (ho _ (by simp)) hk⟩
/-- What is off a block of before stays off it. -/
def Far (w : World) (c0 c1 : Array Value) : Prop := ∀ g, g < w.heap.size → Off g c0 → Off g c1
theorem Far.refl (w : World) (c : Array Value) : Far w c c := fun _ _ h => h
theorem Far.int (w : World) (c : Array Value) (k : Nat) (x : Int) : Far w c (c.setIfInBounds k (.int .u64 x)) := fun _ _ h => h.set_ (offS_int _ _ _)
theorem Far.new {w : World} (c : Array Value) (k : Nat) {g n cap : Nat} (hg : w.heap.size ≤ g) : Far w c (c.setIfInBounds k (.slice (some ⟨g, 0, none⟩) n cap)) := fun g' hg' h => h.set_ (offS_new (by omega))

/-- What 'find' finds. -/
def Found (w w' : World) (gM : Nat) (tM : TypeId) (c0 : Array Value) (m : Mem) (ar at_ : Int) (was : Int) (r : Came) : Prop :=
  ∃ gp op tp cp, r = .back (.pointer (some ⟨gp, op, none⟩)) ∧ gM ≤ gp ∧ Blk w' gp tp cp ∧ cp[op]? = some (.int .u64 was) ∧ (∃ cM, Blk w' gM tM cM ∧ MemC w' w'.heap.size m cM ∧ Far w c0 cM) ∧
    (∀ x, ∃ cM, Blk (w'.setCell ⟨gp, op, none⟩ (.int .u64 x)) gM tM cM ∧ MemC (w'.setCell ⟨gp, op, none⟩ (.int .u64 x)) w'.heap.size (m.put ar at_.toNat x) cM ∧ Far w c0 cM) ∧
    Below gM w w'

def Finds (w w' : World) (gM : Nat) (tM : TypeId) (c0 : Array Value) (m : Mem) (ar at_ : Int) (r : Came) : Prop :=
  match m.at_ ar at_ with
  | some was => Found w w' gM tM c0 m ar at_ was r
  | none => r = .back (.pointer none) ∧ Below w.heap.size w w'

theorem finds_one {w : World} {gM B : Nat} {tM : TypeId} {cM : Array Value} {m : Mem} {ar at_ : Int} {k : Nat} {was : Int} {o : Obj} (hM : Blk w gM tM cM) (hm : MemC w B m cM) (hB : B ≤ gM) (hcell : cM[k]? = some (.int .u64 was)) (hat : ∀ i, m.at_ ar i = if i = 0 then some was else none)
    (hput : ∀ x, MemC w B (m.put ar 0 x) (cM.setIfInBounds k (.int .u64 x))) : Finds w (w.alloc o) gM tM cM m ar at_ (.back (if at_ = 0 then .pointer (some ⟨gM, k, none⟩) else .pointer none)) := by
  unfold Finds
  rw [hat]
  have hlt := hM.lt
  have hsz : (w.alloc o).heap.size = w.heap.size + 1 := Array.size_push ..
  by_cases c : at_ = 0
  · subst c
    rw [if_pos rfl]
    refine ⟨gM, k, tM, cM, rfl, Nat.le_refl _, hM.alloc _, hcell, ⟨cM, hM.alloc _, ?_, Far.refl _ _⟩, fun x => ⟨_, (hM.alloc _).set_ k _, ?_, Far.int _ _ _ _⟩, ((Below.refl _ _).alloc (Nat.le_of_lt hlt) _)⟩
    · exact (hm.keep fun p hp => World.cell?_alloc_lt w o p (by omega)).more (by omega)
    · exact ((hput x).keep fun p hp => (World.cell?_setCell_other _ _ _ _ (fun e => by subst e; exact absurd hp (by show ¬ gM < B; omega))).trans (World.cell?_alloc_lt w o p (by omega))).more (by omega)
  · rw [if_neg c, if_neg c]
    exact ⟨rfl, (Below.refl _ _).alloc (Nat.le_refl _) _⟩

/-- What the second way leaves, in the words of 'Finds'. -/
theorem finds_many {w w1 w' : World} {gM B k : Nat} {tM : TypeId} {cM : Array Value} {m : Mem} {ar at_ : Int} {xs : List Int} {r : Came} (hM : Blk w gM tM cM) (hB : B ≤ gM) (hw1 : Below w.heap.size w w1) (hat : ∀ i, m.at_ ar i = if 0 ≤ i then xs[i.toNat]? else none)
    (hsame : ∀ W B' v, (∀ v xs, Us w B v xs → Us W B' v xs) → Us W B' v xs → MemC W B' m (cM.setIfInBounds k v)) (hput : ∀ W B' v i x, (∀ v xs, Us w B v xs → Us W B' v xs) → Us W B' v (xs.set i x) → MemC W B' (m.put ar i x) (cM.setIfInBounds k v))
    (h : if 0 ≤ at_ ∧ at_ < xs.length then ∃ g cap cur, r = .back (.pointer (some ⟨g, at_.toNat, none⟩)) ∧ w1.heap.size ≤ g ∧ Blk w' g 22 cur ∧ xs.length ≤ cap ∧ cap ≤ maxLen ∧ cur.size = cap ∧ cur.toList.take xs.length = U xs ∧
          Blk w' gM tM (cM.setIfInBounds k (.slice (some ⟨g, 0, none⟩) xs.length cap)) ∧ Below gM w1 w'
      else r = .back (.pointer none) ∧ Below w1.heap.size w1 w') : Finds w w' gM tM cM m ar at_ r := by
  unfold Finds
  rw [hat]
  have hlt := hM.lt
  have hs1 := hw1.size
  by_cases c : 0 ≤ at_ ∧ at_ < xs.length
  · rw [if_pos c] at h
    obtain ⟨g, cap, cur, rfl, hg, hcur, h1, h2, h3, h4, hM', hold⟩ := h
    rw [if_pos c.1]
    have hlen : at_.toNat < xs.length := by omega
    rw [List.getElem?_eq_getElem hlen]
    have keep : ∀ p : Addr, p.block < B → w'.cell? p = w.cell? p := fun p hp => by
      exact World.cell?_of_block ((hold.block p.block (by omega)).trans (hw1.block p.block (by omega)))
    have hgl := hcur.lt
    have hsz := hold.size
    have hcell : cur[at_.toNat]? = some (.int .u64 xs[at_.toNat]) := by
      have h5 : (cur.toList.take xs.length)[at_.toNat]? = (U xs)[at_.toNat]? := by rw [h4]
      rw [List.getElem?_take, if_pos hlen, Array.getElem?_toList] at h5
      rw [h5]
      unfold U
      rw [List.getElem?_map, List.getElem?_eq_getElem hlen]
      rfl
    refine ⟨g, at_.toNat, _, cur, rfl, by omega, hcur, hcell, ⟨_, hM', ?_, Far.new _ _ (by omega)⟩, fun x => ⟨_, hM'.far (p := ⟨g, at_.toNat, none⟩) (show gM ≠ g by omega) _, ?_, Far.new _ _ (by omega)⟩, (hw1.mono (Nat.le_of_lt hlt)).trans hold⟩
    · exact hsame _ _ _ (fun v xs u => (Sl.keep u keep).more (by omega)) (us_of_row hcur h1 h2 h3 h4 hgl)
    · refine hput _ _ _ _ _ (fun v xs u => (Sl.keep u fun p hp => ?_).more (by omega)) (us_set hcur h1 h2 h3 h4 hgl)
      exact (World.cell?_setCell_other _ _ _ _ (fun e => by subst e; exact absurd hp (by show ¬ g < B; omega))).trans (keep p hp)
  · rw [if_neg c] at h
    have hnone : (if 0 ≤ at_ then xs[at_.toNat]? else none) = none := by
      split
      · exact List.getElem?_eq_none (by omega)
      · rfl
    rw [hnone]
    exact ⟨h.1, hw1.trans (h.2.mono hs1)⟩

set_option maxHeartbeats 4000000 in
theorem find_1 {gM B : Nat} {tM : TypeId} {cM : Array Value} {m : Mem} {d at_ old new : Int} (hM : Blk w gM tM cM) (hm : MemC w B m cM) (hB : B ≤ gM) (hsm : m.small) (hoth : ¬ X.oth s gM) :
    Jdo Try.prog X 23 #[.pointer (some ⟨gM, 0, none⟩), .agg (acc d 1 at_ old new)] s w fun s' r w' => s' = s ∧ Finds w w' gM tM cM m 1 at_ r := by
  unfold acc
  have hm0 := hm
  obtain ⟨v2, v3, v6, v7, v8, rfl, h2, h3, h6, h7, h8⟩ := hm
  have hlM := hM.lt
  refine jdo_of Try.func23 rfl ?_
  simp only [Try.ntmps23, List.size_toArray, List.length_cons, List.length_nil, Nat.reduceAdd, Nat.reduceSub, Array.replicate_succ, Array.replicate_zero, List.push_toArray, List.append_toArray, List.nil_append, List.cons_append]
  repeat (first
    | (with_reducible apply lst_nil)
    | ((with_reducible refine lst_unwanted ?_ ?_); (focus rfl); simp only [Act.put, List.setIfInBounds_toArray, List.set_cons_zero, List.set_cons_succ])
    | ((with_reducible refine lst_cons ?_ ?_ (fun K hK => ?_)); (focus rfl); (focus (intro ht; refine fine_none ?_ ht; (focus (first | (with_reducible apply only_idle); (focus decide) | (with_reducible apply only_turn); (focus rfl); (focus rfl); (focus kernel_rfl) | exact only_calc rfl rfl rfl | exact only_check rfl rfl)))); go_simp; refine hK _ _ _ ?_; clear hK K)
    | (with_reducible apply j_seq) | (with_reducible apply j_block) | (with_reducible apply j_ret) | (with_reducible apply j_skip) | (with_reducible apply j_exit) | (with_reducible apply j_label) | (with_reducible apply j_region_lit)
    | ((with_reducible refine j_true ?_ ?_); (focus rfl)) | ((with_reducible refine j_false ?_ ?_); (focus rfl))
    | (with_reducible show Then _ _ _ _ _ _; simp only [Then])
    | (with_reducible show InBlock _ _ _ _ _ _; simp only [InBlock, ↓reduceIte, Nat.reduceEqDiff]))
  refine lst_callv (first := ?_) (captured := ?_) _ rfl ?_ ?_ ?_ Try.func34 ?_ rfl (find1 (p := .pointer (some ⟨gM, 0, none⟩)) (d := d) (ar := 1) (at_ := at_) (old := old) (new := new) (Blk.new w _ _)) ?_
  rotate_left 2
  focus rfl
  focus rfl
  focus first | rfl | (go_simp; done) | (go_simp; rfl)
  focus rfl
  rintro s' r w' ⟨rfl, rfl, rfl⟩
  simp only [Act.put, List.setIfInBounds_toArray, List.set_cons_zero, List.set_cons_succ]
  repeat (first
    | (with_reducible apply lst_nil)
    | ((with_reducible refine lst_unwanted ?_ ?_); (focus rfl); simp only [Act.put, List.setIfInBounds_toArray, List.set_cons_zero, List.set_cons_succ])
    | ((with_reducible refine lst_cons ?_ ?_ (fun K hK => ?_)); (focus rfl); (focus (intro ht; refine fine_none ?_ ht; (focus (first | (with_reducible apply only_idle); (focus decide) | (with_reducible apply only_turn); (focus rfl); (focus rfl); (focus kernel_rfl) | exact only_calc rfl rfl rfl | exact only_check rfl rfl)))); go_simp; refine hK _ _ _ ?_; clear hK K)
    | (with_reducible apply j_seq) | (with_reducible apply j_block) | (with_reducible apply j_ret) | (with_reducible apply j_skip) | (with_reducible apply j_exit) | (with_reducible apply j_label) | (with_reducible apply j_region_lit)
    | ((with_reducible refine j_true ?_ ?_); (focus rfl)) | ((with_reducible refine j_false ?_ ?_); (focus rfl))
    | (with_reducible show Then _ _ _ _ _ _; simp only [Then])
    | (with_reducible show InBlock _ _ _ _ _ _; simp only [InBlock, ↓reduceIte, Nat.reduceEqDiff]))
  exact body_ret1 rfl rfl ⟨rfl, finds_one (ar := 1) (k := 0) (was := m.e) hM hm0 hB rfl (fun i => by
    unfold Mem.at_ Mem.area
    by_cases ci : i = 0
    · subst ci; rfl
    · rw [if_neg ci]
      split
      · simp; omega
      · rfl) fun x => ⟨v2, v3, v6, v7, v8, rfl, h2, h3, h6, h7, h8⟩⟩

set_option maxHeartbeats 4000000 in
theorem find_2 {gM B : Nat} {tM : TypeId} {cM : Array Value} {m : Mem} {d at_ old new : Int} (hM : Blk w gM tM cM) (hm : MemC w B m cM) (hB : B ≤ gM) (hsm : m.small) (hoth : ¬ X.oth s gM) :
    Jdo Try.prog X 23 #[.pointer (some ⟨gM, 0, none⟩), .agg (acc d 2 at_ old new)] s w fun s' r w' => s' = s ∧ Finds w w' gM tM cM m 2 at_ r := by
  unfold acc
  have hm0 := hm
  obtain ⟨v2, v3, v6, v7, v8, rfl, h2, h3, h6, h7, h8⟩ := hm
  have hlM := hM.lt
  refine jdo_of Try.func23 rfl ?_
  simp only [Try.ntmps23, List.size_toArray, List.length_cons, List.length_nil, Nat.reduceAdd, Nat.reduceSub, Array.replicate_succ, Array.replicate_zero, List.push_toArray, List.append_toArray, List.nil_append, List.cons_append]
  repeat (first
    | (with_reducible apply lst_nil)
    | ((with_reducible refine lst_unwanted ?_ ?_); (focus rfl); simp only [Act.put, List.setIfInBounds_toArray, List.set_cons_zero, List.set_cons_succ])
    | ((with_reducible refine lst_cons ?_ ?_ (fun K hK => ?_)); (focus rfl); (focus (intro ht; refine fine_none ?_ ht; (focus (first | (with_reducible apply only_idle); (focus decide) | (with_reducible apply only_turn); (focus rfl); (focus rfl); (focus kernel_rfl) | exact only_calc rfl rfl rfl | exact only_check rfl rfl)))); go_simp; refine hK _ _ _ ?_; clear hK K)
    | (with_reducible apply j_seq) | (with_reducible apply j_block) | (with_reducible apply j_ret) | (with_reducible apply j_skip) | (with_reducible apply j_exit) | (with_reducible apply j_label) | (with_reducible apply j_region_lit)
    | ((with_reducible refine j_true ?_ ?_); (focus rfl)) | ((with_reducible refine j_false ?_ ?_); (focus rfl))
    | (with_reducible show Then _ _ _ _ _ _; simp only [Then])
    | (with_reducible show InBlock _ _ _ _ _ _; simp only [InBlock, ↓reduceIte, Nat.reduceEqDiff]))
  refine lst_callv (first := ?_) (captured := ?_) _ rfl ?_ ?_ ?_ Try.func34 ?_ rfl (find1 (p := .pointer (some ⟨gM, 1, none⟩)) (d := d) (ar := 2) (at_ := at_) (old := old) (new := new) (Blk.new w _ _)) ?_
  rotate_left 2
  focus rfl
  focus rfl
  focus first | rfl | (go_simp; done) | (go_simp; rfl)
  focus rfl
  rintro s' r w' ⟨rfl, rfl, rfl⟩
  simp only [Act.put, List.setIfInBounds_toArray, List.set_cons_zero, List.set_cons_succ]
  repeat (first
    | (with_reducible apply lst_nil)
    | ((with_reducible refine lst_unwanted ?_ ?_); (focus rfl); simp only [Act.put, List.setIfInBounds_toArray, List.set_cons_zero, List.set_cons_succ])
    | ((with_reducible refine lst_cons ?_ ?_ (fun K hK => ?_)); (focus rfl); (focus (intro ht; refine fine_none ?_ ht; (focus (first | (with_reducible apply only_idle); (focus decide) | (with_reducible apply only_turn); (focus rfl); (focus rfl); (focus kernel_rfl) | exact only_calc rfl rfl rfl | exact only_check rfl rfl)))); go_simp; refine hK _ _ _ ?_; clear hK K)
    | (with_reducible apply j_seq) | (with_reducible apply j_block) | (with_reducible apply j_ret) | (with_reducible apply j_skip) | (with_reducible apply j_exit) | (with_reducible apply j_label) | (with_reducible apply j_region_lit)
    | ((with_reducible refine j_true ?_ ?_); (focus rfl)) | ((with_reducible refine j_false ?_ ?_); (focus rfl))
    | (with_reducible show Then _ _ _ _ _ _; simp only [Then])
    | (with_reducible show InBlock _ _ _ _ _ _; simp only [InBlock, ↓reduceIte, Nat.reduceEqDiff]))
  exact body_ret1 rfl rfl ⟨rfl, finds_one (ar := 2) (k := 1) (was := m.f) hM hm0 hB rfl (fun i => by
    unfold Mem.at_ Mem.area
    by_cases ci : i = 0
    · subst ci; rfl
    · rw [if_neg ci]
      split
      · simp; omega
      · rfl) fun x => ⟨v2, v3, v6, v7, v8, rfl, h2, h3, h6, h7, h8⟩⟩

set_option maxHeartbeats 4000000 in
theorem find_3 {gM B : Nat} {tM : TypeId} {cM : Array Value} {m : Mem} {d at_ old new : Int} (hM : Blk w gM tM cM) (hm : MemC w B m cM) (hB : B ≤ gM) (hsm : m.small) (hoth : ¬ X.oth s gM) :
    Jdo Try.prog X 23 #[.pointer (some ⟨gM, 0, none⟩), .agg (acc d 3 at_ old new)] s w fun s' r w' => s' = s ∧ Finds w w' gM tM cM m 3 at_ r := by
  unfold acc
  have hm0 := hm
  obtain ⟨v2, v3, v6, v7, v8, rfl, h2, h3, h6, h7, h8⟩ := hm
  have hlM := hM.lt
  refine jdo_of Try.func23 rfl ?_
  simp only [Try.ntmps23, List.size_toArray, List.length_cons, List.length_nil, Nat.reduceAdd, Nat.reduceSub, Array.replicate_succ, Array.replicate_zero, List.push_toArray, List.append_toArray, List.nil_append, List.cons_append]
  repeat (first
    | (with_reducible apply lst_nil)
    | ((with_reducible refine lst_unwanted ?_ ?_); (focus rfl); simp only [Act.put, List.setIfInBounds_toArray, List.set_cons_zero, List.set_cons_succ])
    | ((with_reducible refine lst_cons ?_ ?_ (fun K hK => ?_)); (focus rfl); (focus (intro ht; refine fine_none ?_ ht; (focus (first | (with_reducible apply only_idle); (focus decide) | (with_reducible apply only_turn); (focus rfl); (focus rfl); (focus kernel_rfl) | exact only_calc rfl rfl rfl | exact only_check rfl rfl)))); go_simp; refine hK _ _ _ ?_; clear hK K)
    | (with_reducible apply j_seq) | (with_reducible apply j_block) | (with_reducible apply j_ret) | (with_reducible apply j_skip) | (with_reducible apply j_exit) | (with_reducible apply j_label) | (with_reducible apply j_region_lit)
    | ((with_reducible refine j_true ?_ ?_); (focus rfl)) | ((with_reducible refine j_false ?_ ?_); (focus rfl))
    | (with_reducible show Then _ _ _ _ _ _; simp only [Then])
    | (with_reducible show InBlock _ _ _ _ _ _; simp only [InBlock, ↓reduceIte, Nat.reduceEqDiff]))
  refine lst_callv (first := ?_) (captured := ?_) _ rfl ?_ ?_ ?_ Try.func35 ?_ rfl (find2 (B := B) (kM := 2) (d := d) (ar := 3) (at_ := at_) (old := old) (new := new) (Blk.new w _ _) (hM.alloc _) rfl (Sl.alloc h2 (show B ≤ w.heap.size by omega) _) hB (show w.heap.size ≠ gM by omega) hsm.1 hoth) ?_
  rotate_left 2
  focus rfl
  focus rfl
  focus first | rfl | (go_simp; done) | (go_simp; rfl)
  focus rfl
  rintro s' r w' ⟨rfl, hr⟩
  obtain ⟨p, rfl⟩ : ∃ p, r = .back p := by
    split at hr
    · obtain ⟨g, cap, cur, hr, _⟩ := hr; exact ⟨_, hr⟩
    · exact ⟨_, hr.1⟩
  simp only [Act.put, List.setIfInBounds_toArray, List.set_cons_zero, List.set_cons_succ]
  repeat (first
    | (with_reducible apply lst_nil)
    | ((with_reducible refine lst_unwanted ?_ ?_); (focus rfl); simp only [Act.put, List.setIfInBounds_toArray, List.set_cons_zero, List.set_cons_succ])
    | ((with_reducible refine lst_cons ?_ ?_ (fun K hK => ?_)); (focus rfl); (focus (intro ht; refine fine_none ?_ ht; (focus (first | (with_reducible apply only_idle); (focus decide) | (with_reducible apply only_turn); (focus rfl); (focus rfl); (focus kernel_rfl) | exact only_calc rfl rfl rfl | exact only_check rfl rfl)))); go_simp; refine hK _ _ _ ?_; clear hK K)
    | (with_reducible apply j_seq) | (with_reducible apply j_block) | (with_reducible apply j_ret) | (with_reducible apply j_skip) | (with_reducible apply j_exit) | (with_reducible apply j_label) | (with_reducible apply j_region_lit)
    | ((with_reducible refine j_true ?_ ?_); (focus rfl)) | ((with_reducible refine j_false ?_ ?_); (focus rfl))
    | (with_reducible show Then _ _ _ _ _ _; simp only [Then])
    | (with_reducible show InBlock _ _ _ _ _ _; simp only [InBlock, ↓reduceIte, Nat.reduceEqDiff]))
  refine body_ret1 rfl rfl ⟨rfl, ?_⟩
  exact finds_many (m := m) (ar := 3) (at_ := at_) (xs := m.li) (k := 2) hM hB ((Below.refl _ _).alloc (Nat.le_refl _) _) (fun i => rfl) (fun W B' v f u => ⟨v, v3, v6, v7, v8, rfl, u, f _ _ h3, f _ _ h6, f _ _ h7, f _ _ h8⟩) (fun W B' v i x f u => ⟨v, v3, v6, v7, v8, rfl, u, f _ _ h3, f _ _ h6, f _ _ h7, f _ _ h8⟩) hr

set_option maxHeartbeats 4000000 in
theorem find_4 {gM B : Nat} {tM : TypeId} {cM : Array Value} {m : Mem} {d at_ old new : Int} (hM : Blk w gM tM cM) (hm : MemC w B m cM) (hB : B ≤ gM) (hsm : m.small) (hoth : ¬ X.oth s gM) :
    Jdo Try.prog X 23 #[.pointer (some ⟨gM, 0, none⟩), .agg (acc d 4 at_ old new)] s w fun s' r w' => s' = s ∧ Finds w w' gM tM cM m 4 at_ r := by
  unfold acc
  have hm0 := hm
  obtain ⟨v2, v3, v6, v7, v8, rfl, h2, h3, h6, h7, h8⟩ := hm
  have hlM := hM.lt
  refine jdo_of Try.func23 rfl ?_
  simp only [Try.ntmps23, List.size_toArray, List.length_cons, List.length_nil, Nat.reduceAdd, Nat.reduceSub, Array.replicate_succ, Array.replicate_zero, List.push_toArray, List.append_toArray, List.nil_append, List.cons_append]
  repeat (first
    | (with_reducible apply lst_nil)
    | ((with_reducible refine lst_unwanted ?_ ?_); (focus rfl); simp only [Act.put, List.setIfInBounds_toArray, List.set_cons_zero, List.set_cons_succ])
    | ((with_reducible refine lst_cons ?_ ?_ (fun K hK => ?_)); (focus rfl); (focus (intro ht; refine fine_none ?_ ht; (focus (first | (with_reducible apply only_idle); (focus decide) | (with_reducible apply only_turn); (focus rfl); (focus rfl); (focus kernel_rfl) | exact only_calc rfl rfl rfl | exact only_check rfl rfl)))); go_simp; refine hK _ _ _ ?_; clear hK K)
    | (with_reducible apply j_seq) | (with_reducible apply j_block) | (with_reducible apply j_ret) | (with_reducible apply j_skip) | (with_reducible apply j_exit) | (with_reducible apply j_label) | (with_reducible apply j_region_lit)
    | ((with_reducible refine j_true ?_ ?_); (focus rfl)) | ((with_reducible refine j_false ?_ ?_); (focus rfl))
    | (with_reducible show Then _ _ _ _ _ _; simp only [Then])
    | (with_reducible show InBlock _ _ _ _ _ _; simp only [InBlock, ↓reduceIte, Nat.reduceEqDiff]))
  refine lst_callv (first := ?_) (captured := ?_) _ rfl ?_ ?_ ?_ Try.func35 ?_ rfl (find2 (B := B) (kM := 3) (d := d) (ar := 4) (at_ := at_) (old := old) (new := new) (Blk.new w _ _) (hM.alloc _) rfl (Sl.alloc h3 (show B ≤ w.heap.size by omega) _) hB (show w.heap.size ≠ gM by omega) hsm.2.1 hoth) ?_
  rotate_left 2
  focus rfl
  focus rfl
  focus first | rfl | (go_simp; done) | (go_simp; rfl)
  focus rfl
  rintro s' r w' ⟨rfl, hr⟩
  obtain ⟨p, rfl⟩ : ∃ p, r = .back p := by
    split at hr
    · obtain ⟨g, cap, cur, hr, _⟩ := hr; exact ⟨_, hr⟩
    · exact ⟨_, hr.1⟩
  simp only [Act.put, List.setIfInBounds_toArray, List.set_cons_zero, List.set_cons_succ]
  repeat (first
    | (with_reducible apply lst_nil)
    | ((with_reducible refine lst_unwanted ?_ ?_); (focus rfl); simp only [Act.put, List.setIfInBounds_toArray, List.set_cons_zero, List.set_cons_succ])
    | ((with_reducible refine lst_cons ?_ ?_ (fun K hK => ?_)); (focus rfl); (focus (intro ht; refine fine_none ?_ ht; (focus (first | (with_reducible apply only_idle); (focus decide) | (with_reducible apply only_turn); (focus rfl); (focus rfl); (focus kernel_rfl) | exact only_calc rfl rfl rfl | exact only_check rfl rfl)))); go_simp; refine hK _ _ _ ?_; clear hK K)
    | (with_reducible apply j_seq) | (with_reducible apply j_block) | (with_reducible apply j_ret) | (with_reducible apply j_skip) | (with_reducible apply j_exit) | (with_reducible apply j_label) | (with_reducible apply j_region_lit)
    | ((with_reducible refine j_true ?_ ?_); (focus rfl)) | ((with_reducible refine j_false ?_ ?_); (focus rfl))
    | (with_reducible show Then _ _ _ _ _ _; simp only [Then])
    | (with_reducible show InBlock _ _ _ _ _ _; simp only [InBlock, ↓reduceIte, Nat.reduceEqDiff]))
  refine body_ret1 rfl rfl ⟨rfl, ?_⟩
  exact finds_many (m := m) (ar := 4) (at_ := at_) (xs := m.pi) (k := 3) hM hB ((Below.refl _ _).alloc (Nat.le_refl _) _) (fun i => rfl) (fun W B' v f u => ⟨v2, v, v6, v7, v8, rfl, f _ _ h2, u, f _ _ h6, f _ _ h7, f _ _ h8⟩) (fun W B' v i x f u => ⟨v2, v, v6, v7, v8, rfl, f _ _ h2, u, f _ _ h6, f _ _ h7, f _ _ h8⟩) hr

set_option maxHeartbeats 4000000 in
theorem find_5 {gM B : Nat} {tM : TypeId} {cM : Array Value} {m : Mem} {d at_ old new : Int} (hM : Blk w gM tM cM) (hm : MemC w B m cM) (hB : B ≤ gM) (hsm : m.small) (hoth : ¬ X.oth s gM) :
    Jdo Try.prog X 23 #[.pointer (some ⟨gM, 0, none⟩), .agg (acc d 5 at_ old new)] s w fun s' r w' => s' = s ∧ Finds w w' gM tM cM m 5 at_ r := by
  unfold acc
  have hm0 := hm
  obtain ⟨v2, v3, v6, v7, v8, rfl, h2, h3, h6, h7, h8⟩ := hm
  have hlM := hM.lt
  refine jdo_of Try.func23 rfl ?_
  simp only [Try.ntmps23, List.size_toArray, List.length_cons, List.length_nil, Nat.reduceAdd, Nat.reduceSub, Array.replicate_succ, Array.replicate_zero, List.push_toArray, List.append_toArray, List.nil_append, List.cons_append]
  repeat (first
    | (with_reducible apply lst_nil)
    | ((with_reducible refine lst_unwanted ?_ ?_); (focus rfl); simp only [Act.put, List.setIfInBounds_toArray, List.set_cons_zero, List.set_cons_succ])
    | ((with_reducible refine lst_cons ?_ ?_ (fun K hK => ?_)); (focus rfl); (focus (intro ht; refine fine_none ?_ ht; (focus (first | (with_reducible apply only_idle); (focus decide) | (with_reducible apply only_turn); (focus rfl); (focus rfl); (focus kernel_rfl) | exact only_calc rfl rfl rfl | exact only_check rfl rfl)))); go_simp; refine hK _ _ _ ?_; clear hK K)
    | (with_reducible apply j_seq) | (with_reducible apply j_block) | (with_reducible apply j_ret) | (with_reducible apply j_skip) | (with_reducible apply j_exit) | (with_reducible apply j_label) | (with_reducible apply j_region_lit)
    | ((with_reducible refine j_true ?_ ?_); (focus rfl)) | ((with_reducible refine j_false ?_ ?_); (focus rfl))
    | (with_reducible show Then _ _ _ _ _ _; simp only [Then])
    | (with_reducible show InBlock _ _ _ _ _ _; simp only [InBlock, ↓reduceIte, Nat.reduceEqDiff]))
  refine lst_callv (first := ?_) (captured := ?_) _ rfl ?_ ?_ ?_ Try.func34 ?_ rfl (find1 (p := .pointer (some ⟨gM, 4, none⟩)) (d := d) (ar := 5) (at_ := at_) (old := old) (new := new) (Blk.new w _ _)) ?_
  rotate_left 2
  focus rfl
  focus rfl
  focus first | rfl | (go_simp; done) | (go_simp; rfl)
  focus rfl
  rintro s' r w' ⟨rfl, rfl, rfl⟩
  simp only [Act.put, List.setIfInBounds_toArray, List.set_cons_zero, List.set_cons_succ]
  repeat (first
    | (with_reducible apply lst_nil)
    | ((with_reducible refine lst_unwanted ?_ ?_); (focus rfl); simp only [Act.put, List.setIfInBounds_toArray, List.set_cons_zero, List.set_cons_succ])
    | ((with_reducible refine lst_cons ?_ ?_ (fun K hK => ?_)); (focus rfl); (focus (intro ht; refine fine_none ?_ ht; (focus (first | (with_reducible apply only_idle); (focus decide) | (with_reducible apply only_turn); (focus rfl); (focus rfl); (focus kernel_rfl) | exact only_calc rfl rfl rfl | exact only_check rfl rfl)))); go_simp; refine hK _ _ _ ?_; clear hK K)
    | (with_reducible apply j_seq) | (with_reducible apply j_block) | (with_reducible apply j_ret) | (with_reducible apply j_skip) | (with_reducible apply j_exit) | (with_reducible apply j_label) | (with_reducible apply j_region_lit)
    | ((with_reducible refine j_true ?_ ?_); (focus rfl)) | ((with_reducible refine j_false ?_ ?_); (focus rfl))
    | (with_reducible show Then _ _ _ _ _ _; simp only [Then])
    | (with_reducible show InBlock _ _ _ _ _ _; simp only [InBlock, ↓reduceIte, Nat.reduceEqDiff]))
  exact body_ret1 rfl rfl ⟨rfl, finds_one (ar := 5) (k := 4) (was := m.h) hM hm0 hB rfl (fun i => by
    unfold Mem.at_ Mem.area
    by_cases ci : i = 0
    · subst ci; rfl
    · rw [if_neg ci]
      split
      · simp; omega
      · rfl) fun x => ⟨v2, v3, v6, v7, v8, rfl, h2, h3, h6, h7, h8⟩⟩

set_option maxHeartbeats 4000000 in
theorem find_6 {gM B : Nat} {tM : TypeId} {cM : Array Value} {m : Mem} {d at_ old new : Int} (hM : Blk w gM tM cM) (hm : MemC w B m cM) (hB : B ≤ gM) (hsm : m.small) (hoth : ¬ X.oth s gM) :
    Jdo Try.prog X 23 #[.pointer (some ⟨gM, 0, none⟩), .agg (acc d 6 at_ old new)] s w fun s' r w' => s' = s ∧ Finds w w' gM tM cM m 6 at_ r := by
  unfold acc
  have hm0 := hm
  obtain ⟨v2, v3, v6, v7, v8, rfl, h2, h3, h6, h7, h8⟩ := hm
  have hlM := hM.lt
  refine jdo_of Try.func23 rfl ?_
  simp only [Try.ntmps23, List.size_toArray, List.length_cons, List.length_nil, Nat.reduceAdd, Nat.reduceSub, Array.replicate_succ, Array.replicate_zero, List.push_toArray, List.append_toArray, List.nil_append, List.cons_append]
  repeat (first
    | (with_reducible apply lst_nil)
    | ((with_reducible refine lst_unwanted ?_ ?_); (focus rfl); simp only [Act.put, List.setIfInBounds_toArray, List.set_cons_zero, List.set_cons_succ])
    | ((with_reducible refine lst_cons ?_ ?_ (fun K hK => ?_)); (focus rfl); (focus (intro ht; refine fine_none ?_ ht; (focus (first | (with_reducible apply only_idle); (focus decide) | (with_reducible apply only_turn); (focus rfl); (focus rfl); (focus kernel_rfl) | exact only_calc rfl rfl rfl | exact only_check rfl rfl)))); go_simp; refine hK _ _ _ ?_; clear hK K)
    | (with_reducible apply j_seq) | (with_reducible apply j_block) | (with_reducible apply j_ret) | (with_reducible apply j_skip) | (with_reducible apply j_exit) | (with_reducible apply j_label) | (with_reducible apply j_region_lit)
    | ((with_reducible refine j_true ?_ ?_); (focus rfl)) | ((with_reducible refine j_false ?_ ?_); (focus rfl))
    | (with_reducible show Then _ _ _ _ _ _; simp only [Then])
    | (with_reducible show InBlock _ _ _ _ _ _; simp only [InBlock, ↓reduceIte, Nat.reduceEqDiff]))
  refine lst_callv (first := ?_) (captured := ?_) _ rfl ?_ ?_ ?_ Try.func34 ?_ rfl (find1 (p := .pointer (some ⟨gM, 5, none⟩)) (d := d) (ar := 6) (at_ := at_) (old := old) (new := new) (Blk.new w _ _)) ?_
  rotate_left 2
  focus rfl
  focus rfl
  focus first | rfl | (go_simp; done) | (go_simp; rfl)
  focus rfl
  rintro s' r w' ⟨rfl, rfl, rfl⟩
  simp only [Act.put, List.setIfInBounds_toArray, List.set_cons_zero, List.set_cons_succ]
  repeat (first
    | (with_reducible apply lst_nil)
    | ((with_reducible refine lst_unwanted ?_ ?_); (focus rfl); simp only [Act.put, List.setIfInBounds_toArray, List.set_cons_zero, List.set_cons_succ])
    | ((with_reducible refine lst_cons ?_ ?_ (fun K hK => ?_)); (focus rfl); (focus (intro ht; refine fine_none ?_ ht; (focus (first | (with_reducible apply only_idle); (focus decide) | (with_reducible apply only_turn); (focus rfl); (focus rfl); (focus kernel_rfl) | exact only_calc rfl rfl rfl | exact only_check rfl rfl)))); go_simp; refine hK _ _ _ ?_; clear hK K)
    | (with_reducible apply j_seq) | (with_reducible apply j_block) | (with_reducible apply j_ret) | (with_reducible apply j_skip) | (with_reducible apply j_exit) | (with_reducible apply j_label) | (with_reducible apply j_region_lit)
    | ((with_reducible refine j_true ?_ ?_); (focus rfl)) | ((with_reducible refine j_false ?_ ?_); (focus rfl))
    | (with_reducible show Then _ _ _ _ _ _; simp only [Then])
    | (with_reducible show InBlock _ _ _ _ _ _; simp only [InBlock, ↓reduceIte, Nat.reduceEqDiff]))
  exact body_ret1 rfl rfl ⟨rfl, finds_one (ar := 6) (k := 5) (was := m.t) hM hm0 hB rfl (fun i => by
    unfold Mem.at_ Mem.area
    by_cases ci : i = 0
    · subst ci; rfl
    · rw [if_neg ci]
      split
      · simp; omega
      · rfl) fun x => ⟨v2, v3, v6, v7, v8, rfl, h2, h3, h6, h7, h8⟩⟩

set_option maxHeartbeats 4000000 in
theorem find_7 {gM B : Nat} {tM : TypeId} {cM : Array Value} {m : Mem} {d at_ old new : Int} (hM : Blk w gM tM cM) (hm : MemC w B m cM) (hB : B ≤ gM) (hsm : m.small) (hoth : ¬ X.oth s gM) :
    Jdo Try.prog X 23 #[.pointer (some ⟨gM, 0, none⟩), .agg (acc d 7 at_ old new)] s w fun s' r w' => s' = s ∧ Finds w w' gM tM cM m 7 at_ r := by
  unfold acc
  have hm0 := hm
  obtain ⟨v2, v3, v6, v7, v8, rfl, h2, h3, h6, h7, h8⟩ := hm
  have hlM := hM.lt
  refine jdo_of Try.func23 rfl ?_
  simp only [Try.ntmps23, List.size_toArray, List.length_cons, List.length_nil, Nat.reduceAdd, Nat.reduceSub, Array.replicate_succ, Array.replicate_zero, List.push_toArray, List.append_toArray, List.nil_append, List.cons_append]
  repeat (first
    | (with_reducible apply lst_nil)
    | ((with_reducible refine lst_unwanted ?_ ?_); (focus rfl); simp only [Act.put, List.setIfInBounds_toArray, List.set_cons_zero, List.set_cons_succ])
    | ((with_reducible refine lst_cons ?_ ?_ (fun K hK => ?_)); (focus rfl); (focus (intro ht; refine fine_none ?_ ht; (focus (first | (with_reducible apply only_idle); (focus decide) | (with_reducible apply only_turn); (focus rfl); (focus rfl); (focus kernel_rfl) | exact only_calc rfl rfl rfl | exact only_check rfl rfl)))); go_simp; refine hK _ _ _ ?_; clear hK K)
    | (with_reducible apply j_seq) | (with_reducible apply j_block) | (with_reducible apply j_ret) | (with_reducible apply j_skip) | (with_reducible apply j_exit) | (with_reducible apply j_label) | (with_reducible apply j_region_lit)
    | ((with_reducible refine j_true ?_ ?_); (focus rfl)) | ((with_reducible refine j_false ?_ ?_); (focus rfl))
    | (with_reducible show Then _ _ _ _ _ _; simp only [Then])
    | (with_reducible show InBlock _ _ _ _ _ _; simp only [InBlock, ↓reduceIte, Nat.reduceEqDiff]))
  refine lst_callv (first := ?_) (captured := ?_) _ rfl ?_ ?_ ?_ Try.func35 ?_ rfl (find2 (B := B) (kM := 6) (d := d) (ar := 7) (at_ := at_) (old := old) (new := new) (Blk.new w _ _) (hM.alloc _) rfl (Sl.alloc h6 (show B ≤ w.heap.size by omega) _) hB (show w.heap.size ≠ gM by omega) hsm.2.2.1 hoth) ?_
  rotate_left 2
  focus rfl
  focus rfl
  focus first | rfl | (go_simp; done) | (go_simp; rfl)
  focus rfl
  rintro s' r w' ⟨rfl, hr⟩
  obtain ⟨p, rfl⟩ : ∃ p, r = .back p := by
    split at hr
    · obtain ⟨g, cap, cur, hr, _⟩ := hr; exact ⟨_, hr⟩
    · exact ⟨_, hr.1⟩
  simp only [Act.put, List.setIfInBounds_toArray, List.set_cons_zero, List.set_cons_succ]
  repeat (first
    | (with_reducible apply lst_nil)
    | ((with_reducible refine lst_unwanted ?_ ?_); (focus rfl); simp only [Act.put, List.setIfInBounds_toArray, List.set_cons_zero, List.set_cons_succ])
    | ((with_reducible refine lst_cons ?_ ?_ (fun K hK => ?_)); (focus rfl); (focus (intro ht; refine fine_none ?_ ht; (focus (first | (with_reducible apply only_idle); (focus decide) | (with_reducible apply only_turn); (focus rfl); (focus rfl); (focus kernel_rfl) | exact only_calc rfl rfl rfl | exact only_check rfl rfl)))); go_simp; refine hK _ _ _ ?_; clear hK K)
    | (with_reducible apply j_seq) | (with_reducible apply j_block) | (with_reducible apply j_ret) | (with_reducible apply j_skip) | (with_reducible apply j_exit) | (with_reducible apply j_label) | (with_reducible apply j_region_lit)
    | ((with_reducible refine j_true ?_ ?_); (focus rfl)) | ((with_reducible refine j_false ?_ ?_); (focus rfl))
    | (with_reducible show Then _ _ _ _ _ _; simp only [Then])
    | (with_reducible show InBlock _ _ _ _ _ _; simp only [InBlock, ↓reduceIte, Nat.reduceEqDiff]))
  refine body_ret1 rfl rfl ⟨rfl, ?_⟩
  exact finds_many (m := m) (ar := 7) (at_ := at_) (xs := m.ln) (k := 6) hM hB ((Below.refl _ _).alloc (Nat.le_refl _) _) (fun i => rfl) (fun W B' v f u => ⟨v2, v3, v, v7, v8, rfl, f _ _ h2, f _ _ h3, u, f _ _ h7, f _ _ h8⟩) (fun W B' v i x f u => ⟨v2, v3, v, v7, v8, rfl, f _ _ h2, f _ _ h3, u, f _ _ h7, f _ _ h8⟩) hr

set_option maxHeartbeats 4000000 in
theorem find_8 {gM B : Nat} {tM : TypeId} {cM : Array Value} {m : Mem} {d at_ old new : Int} (hM : Blk w gM tM cM) (hm : MemC w B m cM) (hB : B ≤ gM) (hsm : m.small) (hoth : ¬ X.oth s gM) :
    Jdo Try.prog X 23 #[.pointer (some ⟨gM, 0, none⟩), .agg (acc d 8 at_ old new)] s w fun s' r w' => s' = s ∧ Finds w w' gM tM cM m 8 at_ r := by
  unfold acc
  have hm0 := hm
  obtain ⟨v2, v3, v6, v7, v8, rfl, h2, h3, h6, h7, h8⟩ := hm
  have hlM := hM.lt
  refine jdo_of Try.func23 rfl ?_
  simp only [Try.ntmps23, List.size_toArray, List.length_cons, List.length_nil, Nat.reduceAdd, Nat.reduceSub, Array.replicate_succ, Array.replicate_zero, List.push_toArray, List.append_toArray, List.nil_append, List.cons_append]
  repeat (first
    | (with_reducible apply lst_nil)
    | ((with_reducible refine lst_unwanted ?_ ?_); (focus rfl); simp only [Act.put, List.setIfInBounds_toArray, List.set_cons_zero, List.set_cons_succ])
    | ((with_reducible refine lst_cons ?_ ?_ (fun K hK => ?_)); (focus rfl); (focus (intro ht; refine fine_none ?_ ht; (focus (first | (with_reducible apply only_idle); (focus decide) | (with_reducible apply only_turn); (focus rfl); (focus rfl); (focus kernel_rfl) | exact only_calc rfl rfl rfl | exact only_check rfl rfl)))); go_simp; refine hK _ _ _ ?_; clear hK K)
    | (with_reducible apply j_seq) | (with_reducible apply j_block) | (with_reducible apply j_ret) | (with_reducible apply j_skip) | (with_reducible apply j_exit) | (with_reducible apply j_label) | (with_reducible apply j_region_lit)
    | ((with_reducible refine j_true ?_ ?_); (focus rfl)) | ((with_reducible refine j_false ?_ ?_); (focus rfl))
    | (with_reducible show Then _ _ _ _ _ _; simp only [Then])
    | (with_reducible show InBlock _ _ _ _ _ _; simp only [InBlock, ↓reduceIte, Nat.reduceEqDiff]))
  refine lst_callv (first := ?_) (captured := ?_) _ rfl ?_ ?_ ?_ Try.func35 ?_ rfl (find2 (B := B) (kM := 7) (d := d) (ar := 8) (at_ := at_) (old := old) (new := new) (Blk.new w _ _) (hM.alloc _) rfl (Sl.alloc h7 (show B ≤ w.heap.size by omega) _) hB (show w.heap.size ≠ gM by omega) hsm.2.2.2.1 hoth) ?_
  rotate_left 2
  focus rfl
  focus rfl
  focus first | rfl | (go_simp; done) | (go_simp; rfl)
  focus rfl
  rintro s' r w' ⟨rfl, hr⟩
  obtain ⟨p, rfl⟩ : ∃ p, r = .back p := by
    split at hr
    · obtain ⟨g, cap, cur, hr, _⟩ := hr; exact ⟨_, hr⟩
    · exact ⟨_, hr.1⟩
  simp only [Act.put, List.setIfInBounds_toArray, List.set_cons_zero, List.set_cons_succ]
  repeat (first
    | (with_reducible apply lst_nil)
    | ((with_reducible refine lst_unwanted ?_ ?_); (focus rfl); simp only [Act.put, List.setIfInBounds_toArray, List.set_cons_zero, List.set_cons_succ])
    | ((with_reducible refine lst_cons ?_ ?_ (fun K hK => ?_)); (focus rfl); (focus (intro ht; refine fine_none ?_ ht; (focus (first | (with_reducible apply only_idle); (focus decide) | (with_reducible apply only_turn); (focus rfl); (focus rfl); (focus kernel_rfl) | exact only_calc rfl rfl rfl | exact only_check rfl rfl)))); go_simp; refine hK _ _ _ ?_; clear hK K)
    | (with_reducible apply j_seq) | (with_reducible apply j_block) | (with_reducible apply j_ret) | (with_reducible apply j_skip) | (with_reducible apply j_exit) | (with_reducible apply j_label) | (with_reducible apply j_region_lit)
    | ((with_reducible refine j_true ?_ ?_); (focus rfl)) | ((with_reducible refine j_false ?_ ?_); (focus rfl))
    | (with_reducible show Then _ _ _ _ _ _; simp only [Then])
    | (with_reducible show InBlock _ _ _ _ _ _; simp only [InBlock, ↓reduceIte, Nat.reduceEqDiff]))
  refine body_ret1 rfl rfl ⟨rfl, ?_⟩
  exact finds_many (m := m) (ar := 8) (at_ := at_) (xs := m.nx) (k := 7) hM hB ((Below.refl _ _).alloc (Nat.le_refl _) _) (fun i => rfl) (fun W B' v f u => ⟨v2, v3, v6, v, v8, rfl, f _ _ h2, f _ _ h3, f _ _ h6, u, f _ _ h8⟩) (fun W B' v i x f u => ⟨v2, v3, v6, v, v8, rfl, f _ _ h2, f _ _ h3, f _ _ h6, u, f _ _ h8⟩) hr

set_option maxHeartbeats 4000000 in
theorem find_9 {gM B : Nat} {tM : TypeId} {cM : Array Value} {m : Mem} {d at_ old new : Int} (hM : Blk w gM tM cM) (hm : MemC w B m cM) (hB : B ≤ gM) (hsm : m.small) (hoth : ¬ X.oth s gM) :
    Jdo Try.prog X 23 #[.pointer (some ⟨gM, 0, none⟩), .agg (acc d 9 at_ old new)] s w fun s' r w' => s' = s ∧ Finds w w' gM tM cM m 9 at_ r := by
  unfold acc
  have hm0 := hm
  obtain ⟨v2, v3, v6, v7, v8, rfl, h2, h3, h6, h7, h8⟩ := hm
  have hlM := hM.lt
  refine jdo_of Try.func23 rfl ?_
  simp only [Try.ntmps23, List.size_toArray, List.length_cons, List.length_nil, Nat.reduceAdd, Nat.reduceSub, Array.replicate_succ, Array.replicate_zero, List.push_toArray, List.append_toArray, List.nil_append, List.cons_append]
  repeat (first
    | (with_reducible apply lst_nil)
    | ((with_reducible refine lst_unwanted ?_ ?_); (focus rfl); simp only [Act.put, List.setIfInBounds_toArray, List.set_cons_zero, List.set_cons_succ])
    | ((with_reducible refine lst_cons ?_ ?_ (fun K hK => ?_)); (focus rfl); (focus (intro ht; refine fine_none ?_ ht; (focus (first | (with_reducible apply only_idle); (focus decide) | (with_reducible apply only_turn); (focus rfl); (focus rfl); (focus kernel_rfl) | exact only_calc rfl rfl rfl | exact only_check rfl rfl)))); go_simp; refine hK _ _ _ ?_; clear hK K)
    | (with_reducible apply j_seq) | (with_reducible apply j_block) | (with_reducible apply j_ret) | (with_reducible apply j_skip) | (with_reducible apply j_exit) | (with_reducible apply j_label) | (with_reducible apply j_region_lit)
    | ((with_reducible refine j_true ?_ ?_); (focus rfl)) | ((with_reducible refine j_false ?_ ?_); (focus rfl))
    | (with_reducible show Then _ _ _ _ _ _; simp only [Then])
    | (with_reducible show InBlock _ _ _ _ _ _; simp only [InBlock, ↓reduceIte, Nat.reduceEqDiff]))
  refine lst_callv (first := ?_) (captured := ?_) _ rfl ?_ ?_ ?_ Try.func35 ?_ rfl (find2 (B := B) (kM := 8) (d := d) (ar := 9) (at_ := at_) (old := old) (new := new) (Blk.new w _ _) (hM.alloc _) rfl (Sl.alloc h8 (show B ≤ w.heap.size by omega) _) hB (show w.heap.size ≠ gM by omega) hsm.2.2.2.2 hoth) ?_
  rotate_left 2
  focus rfl
  focus rfl
  focus first | rfl | (go_simp; done) | (go_simp; rfl)
  focus rfl
  rintro s' r w' ⟨rfl, hr⟩
  obtain ⟨p, rfl⟩ : ∃ p, r = .back p := by
    split at hr
    · obtain ⟨g, cap, cur, hr, _⟩ := hr; exact ⟨_, hr⟩
    · exact ⟨_, hr.1⟩
  simp only [Act.put, List.setIfInBounds_toArray, List.set_cons_zero, List.set_cons_succ]
  repeat (first
    | (with_reducible apply lst_nil)
    | ((with_reducible refine lst_unwanted ?_ ?_); (focus rfl); simp only [Act.put, List.setIfInBounds_toArray, List.set_cons_zero, List.set_cons_succ])
    | ((with_reducible refine lst_cons ?_ ?_ (fun K hK => ?_)); (focus rfl); (focus (intro ht; refine fine_none ?_ ht; (focus (first | (with_reducible apply only_idle); (focus decide) | (with_reducible apply only_turn); (focus rfl); (focus rfl); (focus kernel_rfl) | exact only_calc rfl rfl rfl | exact only_check rfl rfl)))); go_simp; refine hK _ _ _ ?_; clear hK K)
    | (with_reducible apply j_seq) | (with_reducible apply j_block) | (with_reducible apply j_ret) | (with_reducible apply j_skip) | (with_reducible apply j_exit) | (with_reducible apply j_label) | (with_reducible apply j_region_lit)
    | ((with_reducible refine j_true ?_ ?_); (focus rfl)) | ((with_reducible refine j_false ?_ ?_); (focus rfl))
    | (with_reducible show Then _ _ _ _ _ _; simp only [Then])
    | (with_reducible show InBlock _ _ _ _ _ _; simp only [InBlock, ↓reduceIte, Nat.reduceEqDiff]))
  refine body_ret1 rfl rfl ⟨rfl, ?_⟩
  exact finds_many (m := m) (ar := 9) (at_ := at_) (xs := m.sl) (k := 8) hM hB ((Below.refl _ _).alloc (Nat.le_refl _) _) (fun i => rfl) (fun W B' v f u => ⟨v2, v3, v6, v7, v, rfl, f _ _ h2, f _ _ h3, f _ _ h6, f _ _ h7, u⟩) (fun W B' v i x f u => ⟨v2, v3, v6, v7, v, rfl, f _ _ h2, f _ _ h3, f _ _ h6, f _ _ h7, u⟩) hr

set_option maxHeartbeats 4000000 in
theorem find_none {gM : Nat} {tM : TypeId} {cM : Array Value} {m : Mem} {d ar at_ old new : Int} (c : ∀ k : Int, 1 ≤ k → k ≤ 9 → ar ≠ k) :
    Jdo Try.prog X 23 #[.pointer (some ⟨gM, 0, none⟩), .agg (acc d ar at_ old new)] s w fun s' r w' => s' = s ∧ Finds w w' gM tM cM m ar at_ r := by
  unfold acc
  have c1 := c 1 (by decide) (by decide); have c2 := c 2 (by decide) (by decide); have c3 := c 3 (by decide) (by decide); have c4 := c 4 (by decide) (by decide); have c5 := c 5 (by decide) (by decide); have c6 := c 6 (by decide) (by decide); have c7 := c 7 (by decide) (by decide); have c8 := c 8 (by decide) (by decide); have c9 := c 9 (by decide) (by decide)
  clear c
  have hk : ∀ k : Int, k = 1 ∨ k = 2 ∨ k = 3 ∨ k = 4 ∨ k = 5 ∨ k = 6 ∨ k = 7 ∨ k = 8 ∨ k = 9 → (ar == k) = false := by
    rintro k hk
    simp only [beq_eq_false_iff_ne, ne_eq]
    omega
  have e1 := hk 1 (by decide); have e2 := hk 2 (by decide); have e3 := hk 3 (by decide); have e4 := hk 4 (by decide); have e5 := hk 5 (by decide); have e6 := hk 6 (by decide); have e7 := hk 7 (by decide); have e8 := hk 8 (by decide); have e9 := hk 9 (by decide)
  clear hk
  refine jdo_of Try.func23 rfl ?_
  simp only [Try.ntmps23, List.size_toArray, List.length_cons, List.length_nil, Nat.reduceAdd, Nat.reduceSub, Array.replicate_succ, Array.replicate_zero, List.push_toArray, List.append_toArray, List.nil_append, List.cons_append]
  repeat (first
    | (with_reducible apply lst_nil)
    | ((with_reducible refine lst_unwanted ?_ ?_); (focus rfl); simp only [Act.put, List.setIfInBounds_toArray, List.set_cons_zero, List.set_cons_succ])
    | ((with_reducible refine lst_cons ?_ ?_ (fun K hK => ?_)); (focus rfl); (focus (intro ht; refine fine_none ?_ ht; (focus (first | (with_reducible apply only_idle); (focus decide) | (with_reducible apply only_turn); (focus rfl); (focus rfl); (focus kernel_rfl) | exact only_calc rfl rfl rfl | exact only_check rfl rfl)))); go_simp; refine hK _ _ _ ?_; clear hK K)
    | (with_reducible apply j_seq) | (with_reducible apply j_block) | (with_reducible apply j_ret) | (with_reducible apply j_skip) | (with_reducible apply j_exit) | (with_reducible apply j_label) | (with_reducible apply j_region_lit)
    | ((with_reducible refine j_true ?_ ?_); (focus rfl)) | ((with_reducible refine j_false ?_ ?_); (focus rfl))
    | (with_reducible show Then _ _ _ _ _ _; simp only [Then])
    | (with_reducible show InBlock _ _ _ _ _ _; simp only [InBlock, ↓reduceIte, Nat.reduceEqDiff]))
  have hnone : m.at_ ar at_ = none := by
    unfold Mem.at_ Mem.area
    rw [if_neg c1, if_neg c2, if_neg c3, if_neg c4, if_neg c5, if_neg c6, if_neg c7, if_neg c8, if_neg c9]
    split <;> rfl
  refine body_ret1 rfl rfl ⟨rfl, ?_⟩
  unfold Finds
  rw [hnone]
  exact ⟨rfl, (Below.refl _ _).alloc (Nat.le_refl _) _⟩

theorem find {gM B : Nat} {tM : TypeId} {cM : Array Value} {m : Mem} {d ar at_ old new : Int} (hM : Blk w gM tM cM) (hm : MemC w B m cM) (hB : B ≤ gM) (hsm : m.small) (hoth : ¬ X.oth s gM) :
    Jdo Try.prog X 23 #[.pointer (some ⟨gM, 0, none⟩), .agg (acc d ar at_ old new)] s w fun s' r w' => s' = s ∧ Finds w w' gM tM cM m ar at_ r := by
  by_cases c1 : ar = 1
  · subst c1; exact find_1 hM hm hB hsm hoth
  by_cases c2 : ar = 2
  · subst c2; exact find_2 hM hm hB hsm hoth
  by_cases c3 : ar = 3
  · subst c3; exact find_3 hM hm hB hsm hoth
  by_cases c4 : ar = 4
  · subst c4; exact find_4 hM hm hB hsm hoth
  by_cases c5 : ar = 5
  · subst c5; exact find_5 hM hm hB hsm hoth
  by_cases c6 : ar = 6
  · subst c6; exact find_6 hM hm hB hsm hoth
  by_cases c7 : ar = 7
  · subst c7; exact find_7 hM hm hB hsm hoth
  by_cases c8 : ar = 8
  · subst c8; exact find_8 hM hm hB hsm hoth
  by_cases c9 : ar = 9
  · subst c9; exact find_9 hM hm hB hsm hoth
  exact find_none fun k h1 h2 => by omega
end
end Go.Proofs.Ytonhfgjofgbcdaa.St
