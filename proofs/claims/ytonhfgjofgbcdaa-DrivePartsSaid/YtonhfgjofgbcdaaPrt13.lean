/- The texts Steps, RfRep of this claim's proof; what is proved stands in the last one. -/
import Derived.Test.YtonhfgjofgbcdaaPrt11
import Derived.Test.YtonhfgjofgbcdaaPrt12
set_option linter.unusedSimpArgs false
set_option linter.unusedVariables false
namespace Go.Proofs.Ytonhfgjofgbcdaa.Rp
set_option linter.unusedSimpArgs false
set_option linter.unusedVariables false
set_option maxRecDepth 20000
open Go Go.Conc Go.RowKit Go.Proofs.Ytonhfgjofgbcdaa.Jay Go.Proofs.Ytonhfgjofgbcdaa.Pl
open Go.Proofs.Ytonhfgjofgbcdaa.St Go.Proofs.Ytonhfgjofgbcdaa.Rf Go.Proofs.Ytonhfgjofgbcdaa.Wd Go.Proofs.Ytonhfgjofgbcdaa.Lw
section
variable {γ : Type} {X : Turns γ} {s : γ} {w : World}
attribute [local go_sem] upon_value upon_skip
structure Sp where
  (th d ar at_ old new was : Int) (done : Bool)
def Sp.cells (x : Sp) : List Value := [.int .i64 x.th,.int .i64 x.d,.int .i64 x.ar,.int .i64 x.at_,.int .u64 x.old,.int .u64 x.new,.int .u64 x.was,.bool x.done]
def Sps (w : World) (B : Nat) (v : Value) (l : List Sp) : Prop := Sl w B 8 v l.length (l.flatMap Sp.cells)
theorem flat_get (l : List Sp) (i j : Nat) (hi : i < l.length) (hj : j < 8) : (l.flatMap Sp.cells)[i * 8 + j]? = (l[i].cells)[j]? := by
  induction l generalizing i with
  | nil => simp at hi
  | cons x l ih =>
    rw [List.flatMap_cons]
    have hx : x.cells.length = 8 := rfl
    cases i with
    | zero =>
      rw [Nat.zero_mul,Nat.zero_add,List.getElem?_append_left (by omega)]
      rfl
    | succ i =>
      rw [List.getElem?_append_right (by omega),hx,show (i + 1) * 8 + j - 8 = i * 8 + j by omega]
      exact ih i (by simpa using hi)
theorem Sps.at_ {w : World} {B : Nat} {v : Value} {l : List Sp} (h : Sps w B v l) (hn : 0 < l.length) : ∃ b o c,v = .slice (some ⟨b,o,none⟩) l.length c ∧ b < B ∧ l.length ≤ c ∧ c ≤ maxLen ∧
    ∀ i (hi : i < l.length) j u,(l[i].cells)[j]? = some u → w.cell? ⟨b,o + (i * 8 + j),none⟩ = some u := by
  obtain ⟨b,o,c,hv,hb,hc,hm,hat⟩ := Sl.row h hn
  refine ⟨b,o,c,hv,hb,hc,hm,fun i hi j u hu => hat _ _ ?_⟩
  have hj : j < 8 := (List.getElem?_eq_some_iff.1 hu).1
  rw [flat_get l i j hi hj]
  exact hu
def replay : List Sp → Mem → Option Mem
  | [],m => some m
  | x :: l,m => if (m.act x.d x.ar x.at_ x.old x.new).2.1 = x.was ∧ (m.act x.d x.ar x.at_ x.old x.new).2.2 = x.done then replay l (m.act x.d x.ar x.at_ x.old x.new).1 else none
theorem replay_drop {l : List Sp} {i : Nat} (hi : i < l.length) (m : Mem) : replay (l.drop i) m = if (m.act l[i].d l[i].ar l[i].at_ l[i].old l[i].new).2.1 = l[i].was ∧ (m.act l[i].d l[i].ar l[i].at_ l[i].old l[i].new).2.2 = l[i].done then replay (l.drop (i + 1)) (m.act l[i].d l[i].ar l[i].at_ l[i].old l[i].new).1 else none := by
  rw [List.drop_eq_getElem_cons hi]
  rfl
def zeroM : Mem := ⟨0,0,[],[],0,0,[],[],[]⟩
def firstM (k K T M : Int) : Mem := if mayB k K T M = true then newMem k K.toNat T.toNat M.toNat else zeroM
def whole (k K T M : Int) (l : List Sp) : Option Mem := if mayB k K T M = true then replay l (newMem k K.toNat T.toNat M.toNat) else none
theorem memC_zero (w : World) (B : Nat) : MemC w B zeroM #[.int .u64 0,.int .u64 0,.slice none 0 0,.slice none 0 0,.int .u64 0,.int .u64 0,.slice none 0 0,.slice none 0 0,.slice none 0 0] := ⟨_,_,_,_,_,rfl,Sl.nil _ _ _,Sl.nil _ _ _,Sl.nil _ _ _,Sl.nil _ _ _,Sl.nil _ _ _⟩
theorem off_zero (g : Nat) : Off g #[.int .u64 0,.int .u64 0,.slice none 0 0,.slice none 0 0,.int .u64 0,.int .u64 0,.slice none 0 0,.slice none 0 0,.slice none 0 0] := off_of_memC (memC_zero { (default : World) with } 0) (Nat.zero_le _)
theorem mayB_nat {k K T M : Int} (h : mayB k K T M = true) : K = (K.toNat : Int) ∧ T = (T.toNat : Int) ∧ M = (M.toNat : Int) := by
  simp [mayB,inB] at h
  omega
theorem small_first (k K T M : Int) : (firstM k K T M).small := by
  unfold firstM
  split
  · rename_i h
    have h2 : 1 ≤ K ∧ K ≤ 64 ∧ 1 ≤ T ∧ T ≤ 8 ∧ 2 ≤ M ∧ M ≤ 64 := by simp [mayB,inB] at h; omega
    have hmk : M.toNat * K.toNat ≤ 64 * 64 := Nat.mul_le_mul (by omega) (by omega)
    unfold newMem Mem.small
    repeat' split
    all_goals simp only [zs,List.length_replicate,lk_len]; omega
  · exact ⟨by decide,by decide,by decide,by decide,by decide⟩
theorem new_any (k K T M : Int) : Jdo Try.prog X 13 #[cfg k K T M] s w fun s' r w' => s' = s ∧ Below w.heap.size w w' ∧ ∃ cs,r = .back (.tuple #[.agg cs,.int .i64 (if mayB k K T M = true then 0 else 1)]) ∧ MemC w' w'.heap.size (firstM k K T M) cs ∧ ∀ g,g < w.heap.size → Off g cs := by
  unfold firstM
  cases h : mayB k K T M with
  | false => exact (new_bad h).mono fun s' r w' ⟨h1,h2,h3⟩ => ⟨h1,h2,_,h3,memC_zero _ _,fun g _ => off_zero g⟩
  | true =>
    obtain ⟨e1,e2,e3⟩ := mayB_nat h
    rw [e1,e2,e3] at h ⊢
    simp only [Int.toNat_natCast]
    exact (new_ok2 h).mono fun s' r w' ⟨h1,h2,cs,h3,h4,h5⟩ => ⟨h1,h2,cs,by rw [h3]; rfl,h4,h5⟩
theorem rnew_any {k K T M : Int} (h : mayB k K T M = true) : Jdo Try.prog X 18 #[cfg k K T M] s w fun s' r w' => s' = s ∧ Below w.heap.size w w' ∧ ∃ cs,r = .back (.agg cs) ∧ MemC w' w'.heap.size (firstM k K T M) cs ∧ ∀ g,g < w.heap.size → Off g cs := by
  unfold firstM
  rw [if_pos h]
  obtain ⟨e1,e2,e3⟩ := mayB_nat h
  rw [e1,e2,e3] at h ⊢
  simp only [Int.toNat_natCast]
  exact rnew h
end
end Go.Proofs.Ytonhfgjofgbcdaa.Rp
namespace Go.Proofs.Ytonhfgjofgbcdaa.Rp
set_option linter.unusedSimpArgs false
set_option linter.unusedVariables false
set_option maxRecDepth 20000
open Go Go.Conc Go.RowKit Go.Proofs.Ytonhfgjofgbcdaa.Jay Go.Proofs.Ytonhfgjofgbcdaa.Pl
open Go.Proofs.Ytonhfgjofgbcdaa.St Go.Proofs.Ytonhfgjofgbcdaa.Rf Go.Proofs.Ytonhfgjofgbcdaa.Wd Go.Proofs.Ytonhfgjofgbcdaa.Lw
section
variable {γ : Type} {X : Turns γ} {s : γ} {w : World}
attribute [local go_sem] upon_value upon_skip
def RRepPost (s : γ) (w : World) (R : Option Mem) (s' : γ) (r : Came) (w' : World) : Prop := s' = s ∧ Below w.heap.size w w' ∧ ∃ cs,MemC w' w'.heap.size (R.getD zeroM) cs ∧ r = .back (.tuple #[.agg cs,.bool R.isSome]) ∧ ∀ g,g < w.heap.size → Off g cs
def RRepIn (w : World) (n0 gm L : Nat) (l : List Sp) (R : Option Mem) (W : World) (i : Nat) : Prop :=
  Below n0 w W ∧ (∃ t cs,Blk W (n0 + 1) t cs ∧ t = 25 ∧ cs = #[.int .u64 0,.int .u64 0,.slice none 0 0,.slice none 0 0,.int .u64 0,.int .u64 0,.slice none 0 0,.slice none 0 0,.slice none 0 0]) ∧ n0 + 1 < gm ∧ (∃ m cs,Blk W gm 25 cs ∧ MemC W W.heap.size m cs ∧ Off gm cs ∧ (∀ g,g ≤ n0 + 1 → Off g cs) ∧ m.small ∧ replay (l.drop i) m = R) ∧ i ≤ L
def RRepInv {γ : Type} (s' : γ) (w : World) (n0 gm L : Nat) (l : List Sp) (R : Option Mem) (sl : Value) (s2 : γ) (a : Act) (W : World) : Prop := s2 = s' ∧ ∃ (i : Nat),RRepIn w n0 gm L l R W i ∧
    (∃ v0 v3 v5 v8 v9 v10 v11 v12 v13 v14 v15 v16 v17 v18 v19 v20 v21 v22 v23 v24 v25 v26 v27 v28 v29 v30 v31 v32 v33 v34 v35 v36 v37 v38 v39 v40 v41 v42 v43 v44 v45 v46 v47 v48 v49 v50 v51 v52,a = { tmps := #[v0,sl,.pointer (some ⟨n0,0,none⟩),v3,.pointer (some ⟨n0 + 1,0,none⟩),v5,.pointer (some ⟨gm,0,none⟩),.int .i64 i,v8,v9,v10,v11,v12,v13,v14,v15,v16,v17,v18,v19,v20,v21,v22,v23,v24,v25,v26,v27,v28,v29,v30,v31,v32,v33,v34,v35,v36,v37,v38,v39,v40,v41,v42,v43,v44,v45,v46,v47,v48,v49,v50,v51,v52],defers := [] })
def RRepMu {γ : Type} (L : Nat) (_ : γ) (a : Act) (_ : World) : Nat := match a.tmps.getD 7 undef with
  | .int _ n => L - n.toNat
  | _ => 0
def RRepMid {γ : Type} (s' : γ) (W : World) (n0 gm i : Nat) (cs : Array Value) (A : Mem × Int × Bool) (sl : Value) (s2 : γ) (a : Act) (W6 : World) : Prop := s2 = s' ∧ ∃ gk cs',Below W.heap.size W W6 ∧ W.heap.size ≤ gk ∧ Blk W6 gk 25 cs' ∧ MemC W6 W6.heap.size A.1 cs' ∧ Far W cs cs' ∧
    (∃ v0 v3 v5 v11 v12 v13 v14 v15 v16 v17 v18 v19 v20 v21 v22 v23 v24 v25 v26 v27 v28 v29 v30 v31 v32 v33 v34 v35 v36 v37 v38 v39 v40 v41 v42 v43 v44 v45 v46 v47 v48 v49 v50 v51 v52,a = { tmps := #[v0,sl,.pointer (some ⟨n0,0,none⟩),v3,.pointer (some ⟨n0 + 1,0,none⟩),v5,.pointer (some ⟨gm,0,none⟩),.int .i64 i,.pointer (some ⟨gk,0,none⟩),.int .u64 A.2.1,.bool A.2.2,v11,v12,v13,v14,v15,v16,v17,v18,v19,v20,v21,v22,v23,v24,v25,v26,v27,v28,v29,v30,v31,v32,v33,v34,v35,v36,v37,v38,v39,v40,v41,v42,v43,v44,v45,v46,v47,v48,v49,v50,v51,v52],defers := [] })
set_option maxHeartbeats 16000000 in
theorem rrep {B : Nat} {k K T M : Int} {v : Value} {l : List Sp} (hl : Sps w B v l) (hB : B ≤ w.heap.size) :
    Jdo Try.prog X 17 #[cfg k K T M,v] s w (RRepPost s w (whole k K T M l)) := by
  refine Jdo.there fun ht => ?_
  have hoth : ∀ b,w.heap.size ≤ b → ¬ X.oth s b := fun b hb ho => by have := ht b ho; omega
  obtain ⟨A,cp,rfl,hlc,hcm⟩ := Sl.form hl
  unfold cfg
  have b0 := (Blk.new w 36 #[.int .i64 k,.int .i64 K,.int .i64 T,.int .i64 M]).alloc (.cells #[.int .u64 0,.int .u64 0,.slice none 0 0,.slice none 0 0,.int .u64 0,.int .u64 0,.slice none 0 0,.slice none 0 0,.slice none 0 0] 25)
  have b1 := Blk.new1 w (.cells #[.int .i64 k,.int .i64 K,.int .i64 T,.int .i64 M] 36) 25 #[.int .u64 0,.int .u64 0,.slice none 0 0,.slice none 0 0,.int .u64 0,.int .u64 0,.slice none 0 0,.slice none 0 0,.slice none 0 0]
  have hb0 := ((Below.refl w.heap.size w).alloc (Nat.le_refl _) (.cells #[.int .i64 k,.int .i64 K,.int .i64 T,.int .i64 M] 36)).alloc (by simp) (.cells #[.int .u64 0,.int .u64 0,.slice none 0 0,.slice none 0 0,.int .u64 0,.int .u64 0,.slice none 0 0,.slice none 0 0,.slice none 0 0] 25)
  obtain ⟨W0,hW0⟩ : ∃ W0,W0 = (w.alloc (.cells #[.int .i64 k,.int .i64 K,.int .i64 T,.int .i64 M] 36)).alloc (.cells #[.int .u64 0,.int .u64 0,.slice none 0 0,.slice none 0 0,.int .u64 0,.int .u64 0,.slice none 0 0,.slice none 0 0,.slice none 0 0] 25) := ⟨_,rfl⟩
  rw [← hW0] at b0 b1 hb0
  refine jdo_of Try.func17 rfl ?_
  simp only [Try.ntmps17,List.size_toArray,List.length_cons,List.length_nil,Nat.reduceAdd,Nat.reduceSub,Array.replicate_succ,Array.replicate_zero,List.push_toArray,List.append_toArray,List.nil_append,List.cons_append]
  repeat (first | ((with_reducible refine lst_free ?_ ?_ (fun K hK => ?_)); (focus with_reducible rfl); (focus (intro ht; refine fine_none ?_ ht; (focus ((with_reducible apply only_idle); (focus decide))))); go_simp; refine hK _ _ _ ?_; clear hK K) | (with_reducible apply lst_nil) | ((fail_if_success (with_reducible refine lst_any ?_)); first | (with_reducible apply j_seq) | (with_reducible apply j_region_lit) | (with_reducible show Then _ _ _ _ _ _; simp only [Then])))
  rw [← hW0]
  clear hW0
  have d0 := b0.cell
  skip
  refine lst_call _ rfl ?_ ?_ Try.func16 ?_ rfl (rmay k K T M) ?_
  focus rfl
  focus first | rfl | (go_simp; done) | (go_simp; rfl)
  focus rfl
  rintro s1 x W1 ⟨rfl,hb1,rfl⟩
  have g1 := hb0.trans (hb1.mono hb0.size)
  replace b0 := Blk.below b0 hb1 (Blk.lt b0)
  replace b1 := Blk.below b1 hb1 (Blk.lt b1)
  clear d0 hb1 hb0
  have d0 := b0.cell
  simp only [Act.put,List.setIfInBounds_toArray,List.set_cons_zero,List.set_cons_succ]
  have hms := small_first k K T M
  have hR : mayB k K T M = true → replay (l.drop 0) (firstM k K T M) = whole k K T M l := fun h => by
    unfold firstM whole
    rw [if_pos h,if_pos h]
    rfl
  cases hmay : mayB k K T M with
  | false =>
    have hw : whole k K T M l = none := by unfold whole; rw [hmay]; rfl
    rw [hw]
    clear hw hR hms
    repeat (first | ((with_reducible refine lst_free ?_ ?_ (fun K hK => ?_)); (focus with_reducible rfl); (focus (intro ht; refine fine_none ?_ ht; (focus ((with_reducible apply only_idle); (focus decide))))); go_simp; refine hK _ _ _ ?_; clear hK K) | (with_reducible apply lst_nil) | ((fail_if_success (with_reducible refine lst_any ?_)); first | (with_reducible apply j_seq) | (with_reducible apply j_region_lit) | ((with_reducible refine j_true ?_ ?_); (focus rfl)) | (with_reducible show Then _ _ _ _ _ _; simp only [Then])))
    refine lst_one (one_store (v := .agg #[.int .u64 0,.int .u64 0,.slice none 0 0,.slice none 0 0,.int .u64 0,.int .u64 0,.slice none 0 0,.slice none 0 0,.slice none 0 0]) (cs' := #[.int .u64 0,.int .u64 0,.slice none 0 0,.slice none 0 0,.int .u64 0,.int .u64 0,.slice none 0 0,.slice none 0 0,.slice none 0 0]) rfl rfl rfl rfl b1 (hoth _ (by omega)) (by kernel_rfl) (Nat.le_of_ble_eq_true rfl) (by simp [Value.cells,Value.oneCell']) rfl ?_)
    rw [setRow_self _ _ _ _ _ b1]
    simp only [Act.put,List.setIfInBounds_toArray,List.set_cons_zero,List.set_cons_succ]
    have d1 := b1.cell
    repeat (first | ((with_reducible refine lst_free ?_ ?_ (fun K hK => ?_)); (focus with_reducible rfl); (focus (intro ht; refine fine_none ?_ ht; (focus ((with_reducible apply only_idle); (focus decide))))); go_simp; refine hK _ _ _ ?_; clear hK K) | (with_reducible apply lst_nil) | ((fail_if_success (with_reducible refine lst_any ?_)); first | (with_reducible apply j_ret) | (with_reducible show Then _ _ _ _ _ _; simp only [Then])))
    exact body_run (.tuple #[.agg #[.int .u64 0,.int .u64 0,.slice none 0 0,.slice none 0 0,.int .u64 0,.int .u64 0,.slice none 0 0,.slice none 0 0,.slice none 0 0],.bool false]) rfl (by simp [results,go_sem,d1]) ⟨rfl,g1,_,memC_zero _ _,rfl,fun g _ => off_zero g⟩
  | true =>
    replace hR := hR hmay
    repeat (first | ((with_reducible refine lst_free ?_ ?_ (fun K hK => ?_)); (focus with_reducible rfl); (focus (intro ht; refine fine_none ?_ ht; (focus ((with_reducible apply only_idle); (focus decide))))); go_simp; refine hK _ _ _ ?_; clear hK K) | (with_reducible apply lst_nil) | ((fail_if_success (with_reducible refine lst_any ?_)); first | (with_reducible apply j_seq) | (with_reducible apply j_skip) | (with_reducible apply j_region_lit) | ((with_reducible refine j_false ?_ ?_); (focus rfl)) | (with_reducible show Then _ _ _ _ _ _; simp only [Then])))
    refine lst_call _ rfl ?_ ?_ Try.func18 ?_ rfl (rnew_any hmay) ?_
    focus rfl
    focus first | rfl | (go_simp; done) | (go_simp; rfl)
    focus rfl
    rintro s1 x W2 ⟨rfl,hb2,cs1,rfl,hm1,hof1⟩
    have hoffr : ∀ g,g ≤ w.heap.size + 1 → Off g cs1 := fun g hg => hof1 g (Nat.lt_of_le_of_lt hg b1.lt)
    have g2 := g1.trans (hb2.mono g1.size)
    replace b1 := Blk.below b1 hb2 (Blk.lt b1)
    clear d0 b0 hof1 hmay hb2
    have l1 := b1.lt
    generalize firstM k K T M = m1 at hm1 hR hms
    generalize whole k K T M l = R at hR ⊢
    have hm10 := hm1
    obtain ⟨p2,p3,p6,p7,p8,rfl,hus1⟩ := hm1
    clear hus1
    simp only [Act.put,List.setIfInBounds_toArray,List.set_cons_zero,List.set_cons_succ]
    repeat (first | ((with_reducible refine lst_free ?_ ?_ (fun K hK => ?_)); (focus with_reducible rfl); (focus (intro ht; refine fine_none ?_ ht; (focus ((with_reducible apply only_idle); (focus decide))))); go_simp; refine hK _ _ _ ?_; clear hK K))
    refine lst_one (one_store (v := .agg #[.int .u64 m1.e,.int .u64 m1.f,p2,p3,.int .u64 m1.h,.int .u64 m1.t,p6,p7,p8]) (cs' := #[.int .u64 m1.e,.int .u64 m1.f,p2,p3,.int .u64 m1.h,.int .u64 m1.t,p6,p7,p8]) rfl rfl rfl rfl (Blk.new W2 _ _) (hoth _ (Below.size g2)) (by kernel_rfl) (Nat.le_of_ble_eq_true rfl) (memC_one hm10) rfl ?_)
    simp only [Act.put,List.setIfInBounds_toArray,List.set_cons_zero,List.set_cons_succ]
    have bm := (Blk.new W2 25 #[.int .u64 0,.int .u64 0,.slice none 0 0,.slice none 0 0,.int .u64 0,.int .u64 0,.slice none 0 0,.slice none 0 0,.slice none 0 0]).row #[.int .u64 m1.e,.int .u64 m1.f,p2,p3,.int .u64 m1.h,.int .u64 m1.t,p6,p7,p8]
    have hb2 : Below (World.heap W2).size W2 _ := Below_row ((Below.refl _ _).alloc (Nat.le_refl _) (.cells #[.int .u64 0,.int .u64 0,.slice none 0 0,.slice none 0 0,.int .u64 0,.int .u64 0,.slice none 0 0,.slice none 0 0,.slice none 0 0] 25)) #[.int .u64 m1.e,.int .u64 m1.f,p2,p3,.int .u64 m1.h,.int .u64 m1.t,p6,p7,p8] (Nat.le_refl _)
    generalize hW3 : (World.alloc W2 (.cells #[.int .u64 0,.int .u64 0,.slice none 0 0,.slice none 0 0,.int .u64 0,.int .u64 0,.slice none 0 0,.slice none 0 0,.slice none 0 0] 25)).setRow (World.heap W2).size #[.int .u64 m1.e,.int .u64 m1.f,p2,p3,.int .u64 m1.h,.int .u64 m1.t,p6,p7,p8] = W3 at bm hb2 ⊢
    clear hW3
    have hm2 := hm10.below hb2
    have hoff := off_of_memC hm10 (Nat.le_refl _)
    have g3 := g2.trans (hb2.mono g2.size)
    replace b1 := Blk.below b1 hb2 (Blk.lt b1)
    generalize hgm : W2.heap.size = gm at bm hoff l1 hm2 ⊢
    have hgm2 : gm < W3.heap.size := bm.lt
    clear hgm hb2 hm10
    repeat (first | ((with_reducible refine lst_free ?_ ?_ (fun K hK => ?_)); (focus with_reducible rfl); (focus (intro ht; refine fine_none ?_ ht; (focus ((with_reducible apply only_idle); (focus decide))))); go_simp; refine hK _ _ _ ?_; clear hK K) | (with_reducible apply lst_nil) | ((fail_if_success (with_reducible refine lst_any ?_)); first | (with_reducible apply j_seq) | (with_reducible apply j_block) | (with_reducible apply j_region_lit) | (with_reducible show Then _ _ _ _ _ _; simp only [Then])))
    refine j_loop (I := RRepInv s1 w w.heap.size gm l.length l R (.slice A l.length cp)) (μ := RRepMu l.length) ?_ ?_
    focus exact ⟨rfl,0,⟨g3,⟨_,_,b1,rfl,rfl⟩,l1,⟨m1,_,bm,hm2.more (by omega),hoff,hoffr,hms,hR⟩,Nat.zero_le _⟩,_,_,_,_,_,_,_,_,_,_,_,_,_,_,_,_,_,_,_,_,_,_,_,_,_,_,_,_,_,_,_,_,_,_,_,_,_,_,_,_,_,_,_,_,_,_,_,_,rfl⟩
    clear hR b1 bm g2 hm2 hoff hoffr hms g1 hgm2 p2 p3 p6 p7 p8 m1 g3
    rintro s2 a W ⟨rfl,i,⟨hW,⟨_,_,b1,rfl,rfl⟩,l1,⟨m,cs,bm,hm,hoff,hoffr,hms,hR⟩,hi⟩,v0,v3,v5,v8,v9,v10,v11,v12,v13,v14,v15,v16,v17,v18,v19,v20,v21,v22,v23,v24,v25,v26,v27,v28,v29,v30,v31,v32,v33,v34,v35,v36,v37,v38,v39,v40,v41,v42,v43,v44,v45,v46,v47,v48,v49,v50,v51,v52,rfl⟩
    have hm0 := hm
    obtain ⟨p2,p3,p6,p7,p8,rfl,hus1⟩ := hm
    clear hus1
    by_cases c : i < l.length
    · have c1 : decide ((i : Int) < (l.length : Int)) = true := decide_eq_true (by omega)
      have c2 : decide (i < l.length) = true := decide_eq_true c
      have hl' := hl.below (hW.mono hB)
      obtain ⟨b,o,cc,ev,hb,_,_,hat⟩ := Sps.at_ hl' (by omega)
      obtain ⟨rfl,rfl⟩ : A = some ⟨b,o,none⟩ ∧ cp = cc := by injection ev with e1 e2 e3; exact ⟨e1,e3⟩
      have y0 : W.cell? ⟨b,o + i * 8,none⟩ = some (.int .i64 l[i].th) := hat i c 0 _ rfl
      have y1 : W.cell? ⟨b,o + i * 8 + 1,none⟩ = some (.int .i64 l[i].d) := by rw [Nat.add_assoc]; exact hat i c 1 _ rfl
      have y2 : W.cell? ⟨b,o + i * 8 + 2,none⟩ = some (.int .i64 l[i].ar) := by rw [Nat.add_assoc]; exact hat i c 2 _ rfl
      have y3 : W.cell? ⟨b,o + i * 8 + 3,none⟩ = some (.int .i64 l[i].at_) := by rw [Nat.add_assoc]; exact hat i c 3 _ rfl
      have y4 : W.cell? ⟨b,o + i * 8 + 4,none⟩ = some (.int .u64 l[i].old) := by rw [Nat.add_assoc]; exact hat i c 4 _ rfl
      have y5 : W.cell? ⟨b,o + i * 8 + 5,none⟩ = some (.int .u64 l[i].new) := by rw [Nat.add_assoc]; exact hat i c 5 _ rfl
      have y6 : W.cell? ⟨b,o + i * 8 + 6,none⟩ = some (.int .u64 l[i].was) := by rw [Nat.add_assoc]; exact hat i c 6 _ rfl
      have y7 : W.cell? ⟨b,o + i * 8 + 7,none⟩ = some (.bool l[i].done) := by rw [Nat.add_assoc]; exact hat i c 7 _ rfl
      have hidx : (0 : Int) ≤ (i : Int) ∧ (i : Int) < (l.length : Int) := by omega
      have hbW : b < W.heap.size := by have := hW.size; omega
      clear hat
      have hrd := replay_drop c m
      have hxe : ∃ x,l[i] = x := ⟨_,rfl⟩
      obtain ⟨x,hxe⟩ := hxe
      rw [hxe] at y0 y1 y2 y3 y4 y5 y6 y7 hrd
      rw [hR] at hrd
      have sm4 := small_act hms x.d x.ar x.at_ x.old x.new
      have dm := bm.cell
      have lm := bm.lt
      repeat (first | ((with_reducible refine lst_free ?_ ?_ (fun K hK => ?_)); (focus with_reducible rfl); (focus (intro ht; refine fine_none ?_ ht; (focus (first | (with_reducible apply only_idle); (focus decide) | exact only_calc rfl rfl rfl)))); go_simp; refine hK _ _ _ ?_; clear hK K) | (with_reducible apply lst_nil) | ((fail_if_success (with_reducible refine lst_any ?_)); first | (with_reducible apply j_seq) | (with_reducible apply j_block) | (with_reducible apply j_skip) | (with_reducible apply j_region_lit) | ((with_reducible refine j_true ?_ ?_); (focus rfl)) | (with_reducible show Then _ _ _ _ _ _; simp only [Then])))
      refine j_then_mid (M := RRepMid s2 W w.heap.size gm i #[.int .u64 m.e,.int .u64 m.f,p2,p3,.int .u64 m.h,.int .u64 m.t,p6,p7,p8] (m.act x.d x.ar x.at_ x.old x.new) (.slice (some ⟨b,o,none⟩) l.length cp)) ?_ ?_
      focus
        refine j_region_dls [0,0,0,6,14,30,63,127,255,255,255,0,2559,7167,16383] [6,11] [(6,[0,1,2,3,4,5,6,7,8,9,10,11,12,13,14]),(11,[0,1,2,3,4,5,11,6,7,8,9,10,12,13,14])] (Below W.heap.size W) rfl (by decide +kernel) (by repeat (first | exact loose_body | (with_reducible apply loose_then) | (with_reducible apply loose_block))) ?_ ?_
        focus exact (Below.refl _ _).drew
        intro p hp
        simp only [List.mem_cons,List.not_mem_nil,or_false] at hp
        rcases hp with rfl | rfl
        · repeat (first | ((with_reducible apply dl_calm); (focus rfl); (focus rfl); (focus rfl); (focus ((with_reducible apply only_idle); (focus decide))); (focus (intro wS hS; have hcS := fun p => Below.cell hS (p := p); go_simp; try rfl)); simp only [Act.put,List.setIfInBounds_toArray,List.set_cons_zero,List.set_cons_succ]))
          have hmd : MemC W.drew W.drew.heap.size m #[.int .u64 m.e,.int .u64 m.f,p2,p3,.int .u64 m.h,.int .u64 m.t,p6,p7,p8] := hm0
          refine dl_call (o := ?_) (args := ?_) (ats := ?_) _ ?_ ?_ ?_ ?_ Try.func27 ?_ rfl (rdo (d := x.d) (ar := x.ar) (at_ := x.at_) (old := x.old) (new := x.new) hmd (Nat.le_refl _) hms) ?_
          rotate_left 3
          focus rfl
          focus rfl
          focus rfl
          focus first | rfl | (go_simp; done) | (go_simp; rfl)
          focus rfl
          rintro s3 z W4 ⟨rfl,hb4,cs4,rfl,hm4,hfar⟩
          generalize m.act x.d x.ar x.at_ x.old x.new = A1 at hm4 ⊢
          have hm40 := hm4
          obtain ⟨q2,q3,q6,q7,q8,rfl,hus4⟩ := hm4
          clear hus4 hmd
          have hbd : Below W.heap.size W W4 := ((Below.refl W.heap.size W).drew).trans hb4
          have hsz4 := hbd.size
          refine ⟨_,hbd,fun _ => rfl,?_⟩
          simp only [Act.put,List.setIfInBounds_toArray,List.set_cons_zero,List.set_cons_succ]
          repeat (first | ((with_reducible apply dl_calm); (focus rfl); (focus rfl); (focus rfl); (focus ((with_reducible apply only_idle); (focus decide))); (focus (intro wS hS; have hcS := fun p => Below.cell hS (p := p); go_simp; try rfl)); simp only [Act.put,List.setIfInBounds_toArray,List.set_cons_zero,List.set_cons_succ]))
          refine dl_act (o := ?_) ?_ ?_ ?_ ?_ (fun K hK => ?_)
          rotate_left 1
          focus rfl
          focus rfl
          focus rfl
          focus (intro ht; refine fine_none ?_ ht; (focus ((with_reducible apply only_idle); (focus decide))))
          go_simp
          refine hK _ _ _ ⟨_,hbd.alloc (Nat.le_trans (Nat.le_refl _) hsz4) _,fun _ => rfl,?_⟩
          clear hK K
          refine dl_do (o := ?_) ?_ ?_ ?_
          rotate_left 1
          focus rfl
          focus rfl
          refine one_store (v := .agg #[.int .u64 A1.1.e,.int .u64 A1.1.f,q2,q3,.int .u64 A1.1.h,.int .u64 A1.1.t,q6,q7,q8]) (cs' := #[.int .u64 A1.1.e,.int .u64 A1.1.f,q2,q3,.int .u64 A1.1.h,.int .u64 A1.1.t,q6,q7,q8]) rfl rfl rfl rfl (Blk.new W4 _ _) (hoth _ (by have := hW.size; omega)) (by kernel_rfl) (Nat.le_of_ble_eq_true rfl) (memC_one hm40) rfl ?_
          refine ⟨_,Below_row (hbd.alloc hsz4 (.cells #[.int .u64 0,.int .u64 0,.slice none 0 0,.slice none 0 0,.int .u64 0,.int .u64 0,.slice none 0 0,.slice none 0 0,.slice none 0 0] 25)) #[.int .u64 A1.1.e,.int .u64 A1.1.f,q2,q3,.int .u64 A1.1.h,.int .u64 A1.1.t,q6,q7,q8] hsz4,fun _ => rfl,?_⟩
          have bk := (Blk.new W4 25 #[.int .u64 0,.int .u64 0,.slice none 0 0,.slice none 0 0,.int .u64 0,.int .u64 0,.slice none 0 0,.slice none 0 0,.slice none 0 0]).row #[.int .u64 A1.1.e,.int .u64 A1.1.f,q2,q3,.int .u64 A1.1.h,.int .u64 A1.1.t,q6,q7,q8]
          have g6 := Below_row (hbd.alloc hsz4 (.cells #[.int .u64 0,.int .u64 0,.slice none 0 0,.slice none 0 0,.int .u64 0,.int .u64 0,.slice none 0 0,.slice none 0 0,.slice none 0 0] 25)) (g := W4.heap.size) #[.int .u64 A1.1.e,.int .u64 A1.1.f,q2,q3,.int .u64 A1.1.h,.int .u64 A1.1.t,q6,q7,q8] hsz4
          have hb5 : Below (World.heap W4).size W4 _ := Below_row ((Below.refl _ _).alloc (Nat.le_refl _) (.cells #[.int .u64 0,.int .u64 0,.slice none 0 0,.slice none 0 0,.int .u64 0,.int .u64 0,.slice none 0 0,.slice none 0 0,.slice none 0 0] 25)) #[.int .u64 A1.1.e,.int .u64 A1.1.f,q2,q3,.int .u64 A1.1.h,.int .u64 A1.1.t,q6,q7,q8] (Nat.le_refl _)
          generalize hW6 : (World.alloc W4 (.cells #[.int .u64 0,.int .u64 0,.slice none 0 0,.slice none 0 0,.int .u64 0,.int .u64 0,.slice none 0 0,.slice none 0 0,.slice none 0 0] 25)).setRow (World.heap W4).size #[.int .u64 A1.1.e,.int .u64 A1.1.f,q2,q3,.int .u64 A1.1.h,.int .u64 A1.1.t,q6,q7,q8] = W6 at bk hb5 g6 ⊢
          have hm6 := (hm40.below hb5).more hb5.size
          simp only [Act.put,List.setIfInBounds_toArray,List.set_cons_zero,List.set_cons_succ]
          repeat (first | (with_reducible apply dl_nil) | ((with_reducible apply dl_calm); (focus rfl); (focus rfl); (focus rfl); (focus ((with_reducible apply only_idle); (focus decide))); (focus (intro wS hS; have hcS := fun p => Below.cell hS (p := p); go_simp; try rfl)); simp only [Act.put,List.setIfInBounds_toArray,List.set_cons_zero,List.set_cons_succ]) | (with_reducible show Then _ _ _ _ _ _; simp only [Then]))
          exact ⟨rfl,_,_,g6,hsz4,bk,hm6,hfar,_,_,_,_,_,_,_,_,_,_,_,_,_,_,_,_,_,_,_,_,_,_,_,_,_,_,_,_,_,_,_,_,_,_,_,_,_,_,_,_,_,_,_,_,_,rfl⟩
        · skip
          repeat (first | ((with_reducible apply dl_calm); (focus rfl); (focus rfl); (focus rfl); (focus ((with_reducible apply only_idle); (focus decide))); (focus (intro wS hS; have hcS := fun p => Below.cell hS (p := p); go_simp; try rfl)); simp only [Act.put,List.setIfInBounds_toArray,List.set_cons_zero,List.set_cons_succ]))
          refine dl_act (o := ?_) ?_ ?_ ?_ ?_ (fun K hK => ?_)
          rotate_left 1
          focus rfl
          focus rfl
          focus rfl
          focus (intro ht; refine fine_none ?_ ht; (focus ((with_reducible apply only_idle); (focus decide))))
          go_simp
          have hb0' : Below W.heap.size W ((W.alloc (.cells #[.int .u64 0,.int .u64 0,.slice none 0 0,.slice none 0 0,.int .u64 0,.int .u64 0,.slice none 0 0,.slice none 0 0,.slice none 0 0] 25)).drew) := ((Below.refl W.heap.size W).alloc (Nat.le_refl _) _).drew
          have bk0 : Blk (W.alloc (.cells #[.int .u64 0,.int .u64 0,.slice none 0 0,.slice none 0 0,.int .u64 0,.int .u64 0,.slice none 0 0,.slice none 0 0,.slice none 0 0] 25)).drew W.heap.size 25 #[.int .u64 0,.int .u64 0,.slice none 0 0,.slice none 0 0,.int .u64 0,.int .u64 0,.slice none 0 0,.slice none 0 0,.slice none 0 0] := Blk.new W 25 #[.int .u64 0,.int .u64 0,.slice none 0 0,.slice none 0 0,.int .u64 0,.int .u64 0,.slice none 0 0,.slice none 0 0,.slice none 0 0]
          have hs0 : ((W.alloc (.cells #[.int .u64 0,.int .u64 0,.slice none 0 0,.slice none 0 0,.int .u64 0,.int .u64 0,.slice none 0 0,.slice none 0 0,.slice none 0 0] 25)).drew).heap.size = W.heap.size + 1 := size_alloc _ _
          have hmd := (hm0.below hb0').more hb0'.size
          refine hK _ _ _ ⟨_,hb0',fun _ => rfl,?_⟩
          clear hK K
          generalize hWa : (W.alloc (.cells #[.int .u64 0,.int .u64 0,.slice none 0 0,.slice none 0 0,.int .u64 0,.int .u64 0,.slice none 0 0,.slice none 0 0,.slice none 0 0] 25)).drew = Wa at hb0' bk0 hs0 hmd ⊢
          clear hWa
          refine dl_call (o := ?_) (args := ?_) (ats := ?_) _ ?_ ?_ ?_ ?_ Try.func27 ?_ rfl (rdo (d := x.d) (ar := x.ar) (at_ := x.at_) (old := x.old) (new := x.new) hmd (Nat.le_refl _) hms) ?_
          rotate_left 3
          focus rfl
          focus rfl
          focus rfl
          focus first | rfl | (go_simp; done) | (go_simp; rfl)
          focus rfl
          rintro s3 z W4 ⟨rfl,hb4,cs4,rfl,hm4,hfar⟩
          generalize m.act x.d x.ar x.at_ x.old x.new = A1 at hm4 ⊢
          have hm40 := hm4
          obtain ⟨q2,q3,q6,q7,q8,rfl,hus4⟩ := hm4
          clear hus4 hmd
          have hbd : Below W.heap.size W W4 := hb0'.trans (hb4.mono (by omega))
          have hsz4 := hbd.size
          have bk1 := bk0.below hb4 bk0.lt
          have hok := hfar W.heap.size (by omega) (off_of_memC hm0 (Nat.le_refl _))
          refine ⟨_,hbd,fun _ => rfl,?_⟩
          simp only [Act.put,List.setIfInBounds_toArray,List.set_cons_zero,List.set_cons_succ]
          repeat (first | ((with_reducible apply dl_calm); (focus rfl); (focus rfl); (focus rfl); (focus ((with_reducible apply only_idle); (focus decide))); (focus (intro wS hS; have hcS := fun p => Below.cell hS (p := p); go_simp; try rfl)); simp only [Act.put,List.setIfInBounds_toArray,List.set_cons_zero,List.set_cons_succ]))
          refine dl_do (o := ?_) ?_ ?_ ?_
          rotate_left 1
          focus rfl
          focus rfl
          refine one_store (v := .agg #[.int .u64 A1.1.e,.int .u64 A1.1.f,q2,q3,.int .u64 A1.1.h,.int .u64 A1.1.t,q6,q7,q8]) (cs' := #[.int .u64 A1.1.e,.int .u64 A1.1.f,q2,q3,.int .u64 A1.1.h,.int .u64 A1.1.t,q6,q7,q8]) rfl rfl rfl rfl bk1 (hoth _ (by have := hW.size; first | omega | (show w.heap.size ≤ W.heap.size; omega))) (by kernel_rfl) (Nat.le_of_ble_eq_true rfl) (memC_one hm40) rfl ?_
          have bk := bk1.row #[.int .u64 A1.1.e,.int .u64 A1.1.f,q2,q3,.int .u64 A1.1.h,.int .u64 A1.1.t,q6,q7,q8]
          have g6 := Below_row hbd (g := W.heap.size) #[.int .u64 A1.1.e,.int .u64 A1.1.f,q2,q3,.int .u64 A1.1.h,.int .u64 A1.1.t,q6,q7,q8] (Nat.le_refl _)
          refine ⟨_,g6,fun _ => rfl,?_⟩
          have hm6 := hm40.off (w5 := W4.setRow W.heap.size #[.int .u64 A1.1.e,.int .u64 A1.1.f,q2,q3,.int .u64 A1.1.h,.int .u64 A1.1.t,q6,q7,q8]) hok (fun p _ hp => World.cell?_of_block (setRow_other W4 W.heap.size p.block _ hp))
          have hs6 : (W4.setRow W.heap.size #[.int .u64 A1.1.e,.int .u64 A1.1.f,q2,q3,.int .u64 A1.1.h,.int .u64 A1.1.t,q6,q7,q8]).heap.size = W4.heap.size := setRow_size _ _ _
          rw [← hs6] at hm6
          generalize hW6 : W4.setRow W.heap.size #[.int .u64 A1.1.e,.int .u64 A1.1.f,q2,q3,.int .u64 A1.1.h,.int .u64 A1.1.t,q6,q7,q8] = W6 at bk hm6 g6 ⊢
          simp only [Act.put,List.setIfInBounds_toArray,List.set_cons_zero,List.set_cons_succ]
          repeat (first | (with_reducible apply dl_nil) | ((with_reducible apply dl_calm); (focus rfl); (focus rfl); (focus rfl); (focus ((with_reducible apply only_idle); (focus decide))); (focus (intro wS hS; have hcS := fun p => Below.cell hS (p := p); go_simp; try rfl)); simp only [Act.put,List.setIfInBounds_toArray,List.set_cons_zero,List.set_cons_succ]) | (with_reducible show Then _ _ _ _ _ _; simp only [Then]))
          exact ⟨rfl,_,_,g6,Nat.le_refl _,bk,hm6,fun g hg h => hfar g (by omega) h,_,_,_,_,_,_,_,_,_,_,_,_,_,_,_,_,_,_,_,_,_,_,_,_,_,_,_,_,_,_,_,_,_,_,_,_,_,_,_,_,_,_,_,_,_,rfl⟩
      · rintro s3 a W6 ⟨rfl,gk,cs6,hbw,hgk,bk,hm6,hfar,v0,v3,v5,v11,v12,v13,v14,v15,v16,v17,v18,v19,v20,v21,v22,v23,v24,v25,v26,v27,v28,v29,v30,v31,v32,v33,v34,v35,v36,v37,v38,v39,v40,v41,v42,v43,v44,v45,v46,v47,v48,v49,v50,v51,v52,rfl⟩
        generalize m.act x.d x.ar x.at_ x.old x.new = A1 at hm6 sm4 hrd ⊢
        have z6 := (hbw.cell (p := ⟨b,o + i * 8 + 6,none⟩) hbW).trans y6
        have z7 := (hbw.cell (p := ⟨b,o + i * 8 + 7,none⟩) hbW).trans y7
        have hoff6 := hfar gm lm hoff
        have hoffr6 : ∀ g,g ≤ w.heap.size + 1 → Off g cs6 := fun g hg => hfar g (by omega) (hoffr g hg)
        have g6 := hW.trans (hbw.mono hW.size)
        replace b1 := Blk.below b1 hbw (Blk.lt b1)
        replace bm := Blk.below bm hbw (Blk.lt bm)
        have hm60 := hm6
        obtain ⟨q2,q3,q6,q7,q8,rfl,hus6⟩ := hm6
        replace hm6 := hm60
        clear hus6 hm60 hfar y0 y1 y2 y3 y4 y5 y6 y7 dm hoff hoffr hm0 hR hxe hl'
        have dk := bk.cell
        have hwi : IntKind.i64.wrap ((i : Int) + 1) = (i : Int) + 1 := by
          have : maxLen = 9223372036854775807 := rfl
          simp [IntKind.wrap,IntKind.bits,IntKind.signed]; omega
        by_cases k1 : A1.2.1 = x.was
        · have r1 : (A1.2.1 != x.was) = false := by simpa using k1
          by_cases k2 : A1.2.2 = x.done
          · rw [if_pos ⟨k1,k2⟩] at hrd
            obtain ⟨bd,e1,e2⟩ : ∃ bd,A1.2.2 = bd ∧ x.done = bd := ⟨_,rfl,k2.symm⟩
            cases bd
            clear k1 k2
            all_goals
              repeat (first | ((with_reducible refine lst_free ?_ ?_ (fun K hK => ?_)); (focus with_reducible rfl); (focus (intro ht; refine fine_none ?_ ht; (focus ((with_reducible apply only_idle); (focus decide))))); go_simp; refine hK _ _ _ ?_; clear hK K) | ((with_reducible refine lst_on (i := ?_) (b := ?_) (d := ?_) ?_ ?_ ?_ ?_ (fun K hK => ?_)); rotate_left 3; (focus with_reducible rfl); (focus rfl); (focus (simp only [List.getElem?_toArray,List.getElem?_cons_succ,List.getElem?_cons_zero])); (focus (intro ht; refine fine_none ?_ ht; (focus ((with_reducible apply only_idle); (focus decide))))); go_simp; refine hK _ _ _ ?_; clear hK K) | (with_reducible apply lst_nil) | ((fail_if_success (with_reducible refine lst_any ?_)); first | (with_reducible apply j_seq) | (with_reducible apply j_skip) | (with_reducible apply j_region_lit) | ((with_reducible refine j_false ?_ ?_); (focus rfl)) | (with_reducible show Then _ _ _ _ _ _; simp only [Then])))
              refine lst_one (one_store (v := .agg #[.int .u64 A1.1.e,.int .u64 A1.1.f,q2,q3,.int .u64 A1.1.h,.int .u64 A1.1.t,q6,q7,q8]) (cs' := #[.int .u64 A1.1.e,.int .u64 A1.1.f,q2,q3,.int .u64 A1.1.h,.int .u64 A1.1.t,q6,q7,q8]) rfl rfl rfl rfl bm (hoth _ (by omega)) (by kernel_rfl) (Nat.le_of_ble_eq_true rfl) (memC_one hm6) rfl ?_)
              simp only [Act.put,List.setIfInBounds_toArray,List.set_cons_zero,List.set_cons_succ]
              have bm7 := bm.row #[.int .u64 A1.1.e,.int .u64 A1.1.f,q2,q3,.int .u64 A1.1.h,.int .u64 A1.1.t,q6,q7,q8]
              have b17 := b1.row_far (g' := gm) #[.int .u64 A1.1.e,.int .u64 A1.1.f,q2,q3,.int .u64 A1.1.h,.int .u64 A1.1.t,q6,q7,q8] (by omega)
              have hm7 := hm6.off (w5 := W6.setRow gm #[.int .u64 A1.1.e,.int .u64 A1.1.f,q2,q3,.int .u64 A1.1.h,.int .u64 A1.1.t,q6,q7,q8]) hoff6 (fun p _ hp => World.cell?_of_block (setRow_other W6 gm p.block _ hp))
              have g7 := Below_row g6 (g := gm) #[.int .u64 A1.1.e,.int .u64 A1.1.f,q2,q3,.int .u64 A1.1.h,.int .u64 A1.1.t,q6,q7,q8] (by omega)
              have hs7 : (W6.setRow gm #[.int .u64 A1.1.e,.int .u64 A1.1.f,q2,q3,.int .u64 A1.1.h,.int .u64 A1.1.t,q6,q7,q8]).heap.size = W6.heap.size := setRow_size _ _ _
              generalize hW7 : W6.setRow gm #[.int .u64 A1.1.e,.int .u64 A1.1.f,q2,q3,.int .u64 A1.1.h,.int .u64 A1.1.t,q6,q7,q8] = W7 at bm7 b17 hm7 g7 hs7 ⊢
              clear hW7 bm b1 dk z6 z7
              repeat (first | ((with_reducible refine lst_free ?_ ?_ (fun K hK => ?_)); (focus with_reducible rfl); (focus (intro ht; refine fine_none ?_ ht; (focus (first | (with_reducible apply only_idle); (focus decide) | exact only_calc rfl rfl rfl)))); go_simp; refine hK _ _ _ ?_; clear hK K) | (with_reducible apply lst_nil) | ((fail_if_success (with_reducible refine lst_any ?_)); first | (with_reducible apply j_region_lit) | (with_reducible show Then _ _ _ _ _ _; simp only [Then]) | (with_reducible show InBlock _ _ _ _ _ _; simp only [InBlock, ↓reduceIte,Nat.reduceEqDiff])))
              exact ⟨⟨rfl,i + 1,⟨g7,⟨_,_,b17,rfl,rfl⟩,l1,⟨A1.1,_,bm7,hs7 ▸ hm7,hoff6,hoffr6,sm4,hrd.symm⟩,by omega⟩,_,_,_,_,_,_,_,_,_,_,_,_,_,_,_,_,_,_,_,_,_,_,_,_,_,_,_,_,_,_,_,_,_,_,_,_,_,_,_,_,_,_,_,_,_,_,_,_,rfl⟩,by show l.length - ((i : Int) + 1).toNat < l.length - ((i : Int)).toNat; omega⟩
          · rw [if_neg (fun h => k2 h.2)] at hrd
            subst hrd
            obtain ⟨bd,e1,e2⟩ : ∃ bd,A1.2.2 = bd ∧ x.done = !bd := ⟨_,rfl,by revert k2; cases A1.2.2 <;> cases x.done <;> simp⟩
            cases bd
            all_goals simp only [Bool.not_false,Bool.not_true] at e2
            clear k1 k2
            all_goals
              repeat (first | ((with_reducible refine lst_free ?_ ?_ (fun K hK => ?_)); (focus with_reducible rfl); (focus (intro ht; refine fine_none ?_ ht; (focus ((with_reducible apply only_idle); (focus decide))))); go_simp; refine hK _ _ _ ?_; clear hK K) | ((with_reducible refine lst_on (i := ?_) (b := ?_) (d := ?_) ?_ ?_ ?_ ?_ (fun K hK => ?_)); rotate_left 3; (focus with_reducible rfl); (focus rfl); (focus (simp only [List.getElem?_toArray,List.getElem?_cons_succ,List.getElem?_cons_zero])); (focus (intro ht; refine fine_none ?_ ht; (focus ((with_reducible apply only_idle); (focus decide))))); go_simp; refine hK _ _ _ ?_; clear hK K) | (with_reducible apply lst_nil) | ((fail_if_success (with_reducible refine lst_any ?_)); first | (with_reducible apply j_seq) | (with_reducible apply j_region_lit) | ((with_reducible refine j_true ?_ ?_); (focus rfl)) | (with_reducible show Then _ _ _ _ _ _; simp only [Then])))
              refine lst_one (one_store (v := .agg #[.int .u64 0,.int .u64 0,.slice none 0 0,.slice none 0 0,.int .u64 0,.int .u64 0,.slice none 0 0,.slice none 0 0,.slice none 0 0]) (cs' := #[.int .u64 0,.int .u64 0,.slice none 0 0,.slice none 0 0,.int .u64 0,.int .u64 0,.slice none 0 0,.slice none 0 0,.slice none 0 0]) rfl rfl rfl rfl b1 (hoth _ (by omega)) (by kernel_rfl) (Nat.le_of_ble_eq_true rfl) (by simp [Value.cells,Value.oneCell']) rfl ?_)
              rw [setRow_self _ _ _ _ _ b1]
              simp only [Act.put,List.setIfInBounds_toArray,List.set_cons_zero,List.set_cons_succ]
              have d1 := b1.cell
              repeat (first | ((with_reducible refine lst_free ?_ ?_ (fun K hK => ?_)); (focus with_reducible rfl); (focus (intro ht; refine fine_none ?_ ht; (focus ((with_reducible apply only_idle); (focus decide))))); go_simp; refine hK _ _ _ ?_; clear hK K) | (with_reducible apply lst_nil) | ((fail_if_success (with_reducible refine lst_any ?_)); first | (with_reducible apply j_ret) | (with_reducible show Then _ _ _ _ _ _; simp only [Then]) | (with_reducible show InBlock _ _ _ _ _ _; simp only [InBlock, ↓reduceIte,Nat.reduceEqDiff])))
              exact body_run (.tuple #[.agg #[.int .u64 0,.int .u64 0,.slice none 0 0,.slice none 0 0,.int .u64 0,.int .u64 0,.slice none 0 0,.slice none 0 0,.slice none 0 0],.bool false]) rfl (by simp [results,go_sem,d1]) ⟨rfl,g6,_,memC_zero _ _,rfl,fun g _ => off_zero g⟩
        · have r1 : (A1.2.1 != x.was) = true := by simpa using k1
          rw [if_neg (fun h => k1 h.1)] at hrd
          subst hrd
          clear k1
          repeat (first | ((with_reducible refine lst_free ?_ ?_ (fun K hK => ?_)); (focus with_reducible rfl); (focus (intro ht; refine fine_none ?_ ht; (focus ((with_reducible apply only_idle); (focus decide))))); go_simp; refine hK _ _ _ ?_; clear hK K) | ((with_reducible refine lst_off (i := ?_) (b := ?_) (d := ?_) ?_ ?_ ?_ ?_); rotate_left 3; (focus with_reducible rfl); (focus rfl); (focus (simp only [List.getElem?_toArray,List.getElem?_cons_succ,List.getElem?_cons_zero,Bool.not_true,Bool.not_false])); simp only [Act.put,List.setIfInBounds_toArray,List.set_cons_zero,List.set_cons_succ]) | (with_reducible apply lst_nil) | ((fail_if_success (with_reducible refine lst_any ?_)); first | (with_reducible apply j_seq) | (with_reducible apply j_region_lit) | ((with_reducible refine j_true ?_ ?_); (focus rfl)) | (with_reducible show Then _ _ _ _ _ _; simp only [Then])))
          refine lst_one (one_store (v := .agg #[.int .u64 0,.int .u64 0,.slice none 0 0,.slice none 0 0,.int .u64 0,.int .u64 0,.slice none 0 0,.slice none 0 0,.slice none 0 0]) (cs' := #[.int .u64 0,.int .u64 0,.slice none 0 0,.slice none 0 0,.int .u64 0,.int .u64 0,.slice none 0 0,.slice none 0 0,.slice none 0 0]) rfl rfl rfl rfl b1 (hoth _ (by omega)) (by kernel_rfl) (Nat.le_of_ble_eq_true rfl) (by simp [Value.cells,Value.oneCell']) rfl ?_)
          rw [setRow_self _ _ _ _ _ b1]
          simp only [Act.put,List.setIfInBounds_toArray,List.set_cons_zero,List.set_cons_succ]
          have d1 := b1.cell
          repeat (first | ((with_reducible refine lst_free ?_ ?_ (fun K hK => ?_)); (focus with_reducible rfl); (focus (intro ht; refine fine_none ?_ ht; (focus ((with_reducible apply only_idle); (focus decide))))); go_simp; refine hK _ _ _ ?_; clear hK K) | (with_reducible apply lst_nil) | ((fail_if_success (with_reducible refine lst_any ?_)); first | (with_reducible apply j_ret) | (with_reducible show Then _ _ _ _ _ _; simp only [Then]) | (with_reducible show InBlock _ _ _ _ _ _; simp only [InBlock, ↓reduceIte,Nat.reduceEqDiff])))
          exact body_run (.tuple #[.agg #[.int .u64 0,.int .u64 0,.slice none 0 0,.slice none 0 0,.int .u64 0,.int .u64 0,.slice none 0 0,.slice none 0 0,.slice none 0 0],.bool false]) rfl (by simp [results,go_sem,d1]) ⟨rfl,g6,_,memC_zero _ _,rfl,fun g _ => off_zero g⟩
    · have c1 : decide ((i : Int) < (l.length : Int)) = false := decide_eq_false (by omega)
      have c2 : decide (i < l.length) = false := decide_eq_false c
      have hie : l.drop i = [] := List.drop_eq_nil_of_le (by omega)
      rw [hie] at hR
      have hR' : R = some m := hR.symm
      subst hR'
      have dm := bm.cell
      have lm := bm.lt
      repeat (first | ((with_reducible refine lst_free ?_ ?_ (fun K hK => ?_)); (focus with_reducible rfl); (focus (intro ht; refine fine_none ?_ ht; (focus (first | (with_reducible apply only_idle); (focus decide) | exact only_calc rfl rfl rfl)))); go_simp; refine hK _ _ _ ?_; clear hK K) | (with_reducible apply lst_nil) | ((fail_if_success (with_reducible refine lst_any ?_)); first | (with_reducible apply j_seq) | (with_reducible apply j_exit) | (with_reducible apply j_region_lit) | ((with_reducible refine j_false ?_ ?_); (focus rfl)) | (with_reducible show Then _ _ _ _ _ _; simp only [Then]) | (with_reducible show InBlock _ _ _ _ _ _; simp only [InBlock, ↓reduceIte,Nat.reduceEqDiff])))
      refine lst_one (one_store (v := .agg #[.int .u64 m.e,.int .u64 m.f,p2,p3,.int .u64 m.h,.int .u64 m.t,p6,p7,p8]) (cs' := #[.int .u64 m.e,.int .u64 m.f,p2,p3,.int .u64 m.h,.int .u64 m.t,p6,p7,p8]) rfl rfl rfl rfl b1 (hoth _ (by omega)) (by kernel_rfl) (Nat.le_of_ble_eq_true rfl) (memC_one hm0) rfl ?_)
      simp only [Act.put,List.setIfInBounds_toArray,List.set_cons_zero,List.set_cons_succ]
      have hm7 := hm0.off (w5 := W.setRow (w.heap.size + 1) #[.int .u64 m.e,.int .u64 m.f,p2,p3,.int .u64 m.h,.int .u64 m.t,p6,p7,p8]) (hoffr _ (Nat.le_refl _)) (fun p _ hp => World.cell?_of_block (setRow_other W (w.heap.size + 1) p.block _ hp))
      have f1 := b1.row #[.int .u64 m.e,.int .u64 m.f,p2,p3,.int .u64 m.h,.int .u64 m.t,p6,p7,p8]
      have g7 := Below_row hW (g := w.heap.size + 1) #[.int .u64 m.e,.int .u64 m.f,p2,p3,.int .u64 m.h,.int .u64 m.t,p6,p7,p8] (by omega)
      have hs7 : (W.setRow (w.heap.size + 1) #[.int .u64 m.e,.int .u64 m.f,p2,p3,.int .u64 m.h,.int .u64 m.t,p6,p7,p8]).heap.size = W.heap.size := setRow_size _ _ _
      generalize hW7 : W.setRow (w.heap.size + 1) #[.int .u64 m.e,.int .u64 m.f,p2,p3,.int .u64 m.h,.int .u64 m.t,p6,p7,p8] = W7 at f1 hm7 g7 hs7 ⊢
      clear hW7 b1 bm dm
      have d1 := f1.cell
      repeat (first | ((with_reducible refine lst_free ?_ ?_ (fun K hK => ?_)); (focus with_reducible rfl); (focus (intro ht; refine fine_none ?_ ht; (focus ((with_reducible apply only_idle); (focus decide))))); go_simp; refine hK _ _ _ ?_; clear hK K) | (with_reducible apply lst_nil) | ((fail_if_success (with_reducible refine lst_any ?_)); first | (with_reducible apply j_ret) | (with_reducible show Then _ _ _ _ _ _; simp only [Then])))
      exact body_run (.tuple #[.agg #[.int .u64 m.e,.int .u64 m.f,p2,p3,.int .u64 m.h,.int .u64 m.t,p6,p7,p8],.bool true]) rfl (by simp [results,go_sem,d1]) ⟨rfl,g7,_,hs7 ▸ hm7,rfl,fun g hg => hoffr g (by omega)⟩
end
end Go.Proofs.Ytonhfgjofgbcdaa.Rp
