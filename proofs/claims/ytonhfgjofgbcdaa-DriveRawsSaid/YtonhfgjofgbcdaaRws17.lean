/- A part of this claim's proof. -/
import Derived.Test.YtonhfgjofgbcdaaRws14
import Derived.Test.YtonhfgjofgbcdaaRws15
import Derived.Test.YtonhfgjofgbcdaaRws16
set_option linter.unusedSimpArgs false
set_option linter.unusedVariables false
set_option maxRecDepth 20000
namespace Go.Proofs.Ytonhfgjofgbcdaa.St
open Go Go.Conc Go.RowKit Jay Pl
open Wd
section
variable {γ : Type} {X : zad γ} {s : γ} {w : World}
attribute [local go_sem] upon_value upon_skip
def lk (first h M : Nat) : List Int:=(List.range M).map fun i=>if first <= i /\ i < h then pk 0 (seg ((i : Int) + 1)) else 0
def zs (n : Nat) : List Int:=List.replicate n 0
def zj7 (k : Int) (K T M : Nat) : Mem:=
 if k = 2 then ⟨0,0,zs 3,zs T,0,0,zs M,zs M,zs (M * K)⟩
 else if k = 1 then ⟨0,pk 0 (seg 1),zs 3,zs T,pk 0 (seg 0),pk 0 (seg 0),lk 1 (M - 1) M,zs M,zs (M * K)⟩
 else ⟨0,pk 0 (seg 0),zs 3,zs T,0,0,lk 0 (M - 1) M,zs M,zs (M * K)⟩
theorem new_bad {k K T M : Int} (h : zea k K T M = false) : Jdo Try.prog X 13 #[cfg k K T M] s w fun s' r w'=>s' = s /\ Below w.heap.size w w' /\ r = .back (.tuple #[.agg #[.int .u64 0,.int .u64 0,.slice none 0 0,.slice none 0 0,.int .u64 0,.int .u64 0,.slice none 0 0,.slice none 0 0,.slice none 0 0],.int .i64 1]):=by
 refine Jdo.there fun ht=>?_
 have hoth : ∀ b,w.heap.size <= b -> ¬ X.oth s b:=fun b hb ho=>by have:=ht b ho; omega
 unfold cfg
 refine zar Try.func13 rfl ?_
 simp only [Try.ntmps13]
 refine wk8 ?_
 refine wk1 ?_
 refine zbf _ rfl ?_ ?_ Try.func15 ?_ rfl (may k K T M) ?_
 focus rfl
 focus first | rfl | (go_simp; done) | (go_simp; rfl)
 focus rfl
 rw [h]
 rintro s' r w' ⟨rfl,hb,rfl⟩
 refine wk7 ?_
 have b1:=(Blk.new1 w (.cells #[.int .i64 k,.int .i64 K,.int .i64 T,.int .i64 M] 36) 25 #[.int .u64 0,.int .u64 0,.slice none 0 0,.slice none 0 0,.int .u64 0,.int .u64 0,.slice none 0 0,.slice none 0 0,.slice none 0 0]).below hb (by simp)
 have hb0:=((((Below.refl w.heap.size w).alloc (Nat.le_refl _) (.cells #[.int .i64 k,.int .i64 K,.int .i64 T,.int .i64 M] 36)).alloc (by simp) (.cells #[.int .u64 0,.int .u64 0,.slice none 0 0,.slice none 0 0,.int .u64 0,.int .u64 0,.slice none 0 0,.slice none 0 0,.slice none 0 0] 25))).trans (hb.mono (by simp; omega))
 refine wk1 ?_
 refine zaj (za7 (v:=.agg #[.int .u64 0,.int .u64 0,.slice none 0 0,.slice none 0 0,.int .u64 0,.int .u64 0,.slice none 0 0,.slice none 0 0,.slice none 0 0]) (cs':=#[.int .u64 0,.int .u64 0,.slice none 0 0,.slice none 0 0,.int .u64 0,.int .u64 0,.slice none 0 0,.slice none 0 0,.slice none 0 0]) rfl rfl rfl rfl b1 (hoth _ (by omega)) (by kernel_rfl) (Nat.le_of_ble_eq_true rfl) (by simp [Value.cells,Value.oneCell']) rfl ?_)
 rw [setRow_self _ _ _ _ _ b1]
 refine wk7 ?_
 have d1:=b1.cell
 refine wk1 ?_
 exact zb0 (.tuple #[.agg #[.int .u64 0,.int .u64 0,.slice none 0 0,.slice none 0 0,.int .u64 0,.int .u64 0,.slice none 0 0,.slice none 0 0,.slice none 0 0],.int .i64 1]) rfl (by simp [results,go_sem,d1]) ⟨rfl,hb0,rfl⟩
theorem lk_start (f M : Nat) : lk f f M = zs M:=by
 unfold lk zs
 apply List.ext_getElem
 ·simp
 ·intro i h1 h2
  simp
  intro h3 h4
  omega
theorem lk_step {f h M : Nat} (hf : f <= h) (hM : h < M) : (lk f h M).set h (pk 0 (seg ((h : Int) + 1))) = lk f (h + 1) M:=by
 unfold lk
 apply List.ext_getElem
 ·simp
 ·intro i h1 h2
  rw [List.getElem_set]
  simp only [List.getElem_map,List.getElem_range]
  by_cases c : h = i
  ·subst c
   rw [if_pos rfl,if_pos ⟨hf,by omega⟩]
  ·rw [if_neg c]
   have : (f <= i /\ i < h) ↔ (f <= i /\ i < h + 1):=by omega
   simp only [this]
theorem lk_len (f h M : Nat) : (lk f h M).length = M:=by simp [lk]
structure Made (B : Nat) (w' W : World) (K T M : Nat) (g0 g3 g6 g9 g15 g17 : Nat) (links : List Int) : Prop where
 below : Below B w' W
 b0 : Blk W g0 22 (U (zs 3)).toArray
 b3 : Blk W g3 22 (U (zs T)).toArray
 b6 : Blk W g6 22 (U links).toArray
 b9 : Blk W g9 22 (U (zs M)).toArray
 b15 : Blk W g15 22 (U (zs (M * K))).toArray
 n6 : g6 ≠ g0 /\ g6 ≠ g3 /\ g6 ≠ g9 /\ g6 ≠ g15 /\ g6 ≠ g17 /\ g0 ≠ g17 /\ g3 ≠ g17 /\ g9 ≠ g17 /\ g15 ≠ g17
 ge : B <= g0 /\ B <= g3 /\ B <= g6 /\ B <= g9 /\ B <= g15 /\ B <= g17
 len : links.length = M
section
variable {B : Nat} {w' W W' : World} {K T M g0 g3 g6 g9 g15 g17 : Nat} {links : List Int}
theorem Made.map (h : Made B w' W K T M g0 g3 g6 g9 g15 g17 links) (hb : Below B w' W') (f : ∀ g t cs,g ≠ g17 -> B <= g -> Blk W g t cs -> Blk W' g t cs) : Made B w' W' K T M g0 g3 g6 g9 g15 g17 links:=
 ⟨hb,f _ _ _ h.n6.2.2.2.2.2.1 h.ge.1 h.b0,f _ _ _ h.n6.2.2.2.2.2.2.1 h.ge.2.1 h.b3,f _ _ _ h.n6.2.2.2.2.1 h.ge.2.2.1 h.b6,f _ _ _ h.n6.2.2.2.2.2.2.2.1 h.ge.2.2.2.1 h.b9,f _ _ _ h.n6.2.2.2.2.2.2.2.2 h.ge.2.2.2.2.1 h.b15,h.n6,h.ge,h.len⟩
theorem Made.row17 (h : Made B w' W K T M g0 g3 g6 g9 g15 g17 links) (cs : Array Value) : Made B w' (W.setRow g17 cs) K T M g0 g3 g6 g9 g15 g17 links:=
 h.map (zaf h.below _ h.ge.2.2.2.2.2) fun _ _ _ hne _ hb=>hb.row_far _ hne
theorem Made.drew (h : Made B w' W K T M g0 g3 g6 g9 g15 g17 links) : Made B w' W.drew K T M g0 g3 g6 g9 g15 g17 links:=h.map h.below.drew fun _ _ _ _ _ hb=>hb
theorem Made.alloc (h : Made B w' W K T M g0 g3 g6 g9 g15 g17 links) (o : Obj) (hB : B <= W.heap.size) : Made B w' (W.alloc o) K T M g0 g3 g6 g9 g15 g17 links:=h.map (h.below.alloc hB o) fun _ _ _ _ _ hb=>hb.alloc o
theorem Made.link (h : Made B w' W K T M g0 g3 g6 g9 g15 g17 links) (i : Nat) (x : Int) : Made B w' (W.setCell ⟨g6,i,none⟩ (.int .u64 x)) K T M g0 g3 g6 g9 g15 g17 (links.set i x):=by
 refine ⟨h.below.setCell (p:=⟨g6,i,none⟩) h.ge.2.2.1 _,h.b0.far (p:=⟨g6,i,none⟩) (Ne.symm h.n6.1) _,h.b3.far (p:=⟨g6,i,none⟩) (Ne.symm h.n6.2.1) _,?_,h.b9.far (p:=⟨g6,i,none⟩) (Ne.symm h.n6.2.2.1) _,h.b15.far (p:=⟨g6,i,none⟩) (Ne.symm h.n6.2.2.2.1) _,h.n6,h.ge,by rw [List.length_set]; exact h.len⟩
 have:=h.b6.set_ i (.int .u64 x)
 rw [List.setIfInBounds_toArray] at this
 rwa [show (U links).set i (.int .u64 x) = U (links.set i x) from (List.map_set ..).symm] at this
theorem Made.last {B₀ b : Nat} {w₀ : World} (h : Made B w' W K T M g0 g3 g6 g9 g15 g17 links) (hb : Below B₀ w₀ W) (h0 : B₀ <= b) (hlt : b < B) (cs : Array Value) : Made B₀ w₀ (W.setRow b cs) K T M g0 g3 g6 g9 g15 g17 links:=by
 have hg:=h.ge
 exact ⟨zaf hb _ h0,h.b0.row_far _ (by omega),h.b3.row_far _ (by omega),h.b6.row_far _ (by omega),h.b9.row_far _ (by omega),h.b15.row_far _ (by omega),h.n6,by omega,h.len⟩
theorem zkg {g n : Nat} {xs : List Int} {t : TypeId} (hb : Blk W g t (U xs).toArray) (hl : xs.length = n) (hn : n <= maxLen) (hB : g < B) : Us W B (.slice (some ⟨g,0,none⟩) n n) xs:=by
 subst hl
 exact zdh hb (Nat.le_refl _) hn (by rw [List.size_toArray,U_len]) (by rw [List.take_of_length_le]; rw [U_len]; exact Nat.le_refl _) hB
theorem Made.memC (h : Made B w' W K T M g0 g3 g6 g9 g15 g17 links) (hT : T <= 8) (hM : M <= 64) (hMK : M * K <= 4096) (e f hd tl : Int) :
  zbb W W.heap.size ⟨e,f,zs 3,zs T,hd,tl,links,zs M,zs (M * K)⟩ #[.int .u64 e,.int .u64 f,.slice (some ⟨g0,0,none⟩) 3 3,.slice (some ⟨g3,0,none⟩) T T,.int .u64 hd,.int .u64 tl,.slice (some ⟨g6,0,none⟩) M M,.slice (some ⟨g9,0,none⟩) M M,.slice (some ⟨g15,0,none⟩) (M * K) (M * K)]:=by
 have hm : maxLen = 9223372036854775807:=rfl
 exact ⟨_,_,_,_,_,rfl,zkg h.b0 (by simp [zs]) (by omega) h.b0.lt,zkg h.b3 (by simp [zs]) (by omega) h.b3.lt,zkg h.b6 h.len (by omega) h.b6.lt,zkg h.b9 (by simp [zs]) (by omega) h.b9.lt,zkg h.b15 (by simp [zs]) (by omega) h.b15.lt⟩
theorem Made.off (h : Made B w' W K T M g0 g3 g6 g9 g15 g17 links) {g n n' n'' n3 c c' c'' c3 : Nat} (hg : g < B) (e f hd tl : Int) {n4 c4 : Nat} :
  Off g #[.int .u64 e,.int .u64 f,.slice (some ⟨g0,0,none⟩) n c,.slice (some ⟨g3,0,none⟩) n' c',.int .u64 hd,.int .u64 tl,.slice (some ⟨g6,0,none⟩) n'' c'',.slice (some ⟨g9,0,none⟩) n3 c3,.slice (some ⟨g15,0,none⟩) n4 c4]:=by
 have hge:=h.ge
 intro v hv
 simp only [List.mem_cons,List.not_mem_nil,or_false] at hv
 rcases hv with rfl | rfl | rfl | rfl | rfl | rfl | rfl | rfl | rfl
 ·exact zco _ _ _
 ·exact zco _ _ _
 ·exact zfi (by omega)
 ·exact zfi (by omega)
 ·exact zco _ _ _
 ·exact zco _ _ _
 ·exact zfi (by omega)
 ·exact zfi (by omega)
 ·exact zfi (by omega)
end
def NewMid {γ : Type} (s' : γ) (k : Int) (K T M n0 : Nat) (w' : World) (g0 g3 g6 g9 g15 g17 : Nat) (s2 : γ) (a : Act) (W3 : World) : Prop:=s2 = s' /\ ∃ (first : Nat) (hd : Int),(k = 1 /\ first = 1 /\ hd = pk 0 (seg 0) \/ k = 3 /\ first = 0 /\ hd = 0) /\ Made w'.heap.size w' W3 K T M g0 g3 g6 g9 g15 g17 (zs M) /\ Blk W3 g17 25 #[.int .u64 (0),.int .u64 (0),.slice (some ⟨g0,0,none⟩) 3 3,.slice (some ⟨g3,0,none⟩) T T,.int .u64 (hd),.int .u64 (hd),.slice (some ⟨g6,0,none⟩) M M,.slice (some ⟨g9,0,none⟩) M M,.slice (some ⟨g15,0,none⟩) (M * K) (M * K)] /\
  (∃ v0 v6 v7 v8 v9 v10 v11 v12 v13 v14 v15 v16 v17 v18 v19 v20 v21 v22 v23 v24 v25 v26 v27 v28 v29 v30 v31 v32 v33 v34 v35 v36 v37 v38 v39 v40 v41 v42 v43 v44 v45 v46 v47 v48 v49 v50 v51 v52 v53 v54 v55 v56 v57,a = { tmps:=#[v0,.pointer (some ⟨n0,0,none⟩),.pointer (some ⟨n0 + 1,0,none⟩),.int .i64 0,.pointer (some ⟨g17,0,none⟩),.int .i64 first,v6,v7,v8,v9,v10,v11,v12,v13,v14,v15,v16,v17,v18,v19,v20,v21,v22,v23,v24,v25,v26,v27,v28,v29,v30,v31,v32,v33,v34,v35,v36,v37,v38,v39,v40,v41,v42,v43,v44,v45,v46,v47,v48,v49,v50,v51,v52,v53,v54,v55,v56,v57],defers:=[] })
def NewInv {γ : Type} (s' : γ) (K T M n0 first : Nat) (hd : Int) (w' : World) (g0 g3 g6 g9 g15 g17 : Nat) (s2 : γ) (a : Act) (W : World) : Prop:=s2 = s' /\ ∃ h : Nat,first <= h /\ h <= M - 1 /\ Made w'.heap.size w' W K T M g0 g3 g6 g9 g15 g17 (lk first h M) /\ Blk W g17 25 #[.int .u64 (0),.int .u64 ((pk 0 (seg (first : Int)))),.slice (some ⟨g0,0,none⟩) 3 3,.slice (some ⟨g3,0,none⟩) T T,.int .u64 (hd),.int .u64 (hd),.slice (some ⟨g6,0,none⟩) M M,.slice (some ⟨g9,0,none⟩) M M,.slice (some ⟨g15,0,none⟩) (M * K) (M * K)] /\
  (∃ v0 v5 v7 v8 v9 v10 v11 v12 v13 v14 v15 v16 v17 v18 v19 v20 v21 v22 v23 v24 v25 v26 v27 v28 v29 v30 v31 v32 v33 v34 v35 v36 v37 v38 v39 v40 v41 v42 v43 v44 v45 v46 v47 v48 v49 v50 v51 v52 v53 v54 v55 v56 v57,a = { tmps:=#[v0,.pointer (some ⟨n0,0,none⟩),.pointer (some ⟨n0 + 1,0,none⟩),.int .i64 0,.pointer (some ⟨g17,0,none⟩),v5,.int .i64 h,v7,v8,v9,v10,v11,v12,v13,v14,v15,v16,v17,v18,v19,v20,v21,v22,v23,v24,v25,v26,v27,v28,v29,v30,v31,v32,v33,v34,v35,v36,v37,v38,v39,v40,v41,v42,v43,v44,v45,v46,v47,v48,v49,v50,v51,v52,v53,v54,v55,v56,v57],defers:=[] })
def NewMu {γ : Type} (M : Nat) (_ : γ) (a : Act) (_ : World) : Nat:=match a.tmps.getD 6 undef with
 | .int _ n=>M - n.toNat
 | _=>0
set_option maxHeartbeats 8000000 in
theorem new_ok2 {k : Int} {K T M : Nat} (h : zea k K T M = true) : Jdo Try.prog X 13 #[cfg k K T M] s w fun s' r w'=>s' = s /\ Below w.heap.size w w' /\ ∃ cs,r = .back (.tuple #[.agg cs,.int .i64 0]) /\ zbb w' w'.heap.size (zj7 k K T M) cs /\ ∀ g,g < w.heap.size -> Off g cs:=by
 refine Jdo.there fun ht=>?_
 have hoth : ∀ b,w.heap.size <= b -> ¬ X.oth s b:=fun b hb ho=>by have:=ht b ho; omega
 have hr : (k = 1 \/ k = 2 \/ k = 3) /\ 1 <= K /\ K <= 64 /\ 1 <= T /\ T <= 8 /\ 2 <= M /\ M <= 64:=by
  simp [zea,inB] at h
  omega
 obtain ⟨hk,hK1,hK2,hT1,hT2,hM1,hM2⟩:=hr
 have hMK : M * K <= 4096:=Nat.mul_le_mul hM2 hK2
 have hwr : IntKind.i64.wrap ((M : Int) * (K : Int)) = ((M * K : Nat) : Int):=by
  rw [<- Int.natCast_mul]
  generalize M * K = n at *
  simp [IntKind.wrap,IntKind.bits,IntKind.signed]
  omega
 unfold cfg
 refine zar Try.func13 rfl ?_
 simp only [Try.ntmps13]
 refine wk8 ?_
 refine wk1 ?_
 refine zbf _ rfl ?_ ?_ Try.func15 ?_ rfl (may k K T M) ?_
 focus rfl
 focus first | rfl | (go_simp; done) | (go_simp; rfl)
 focus rfl
 rw [h]
 rintro s' r w' ⟨rfl,hb,rfl⟩
 refine wk7 ?_
 have b0:=((Blk.new w 36 #[.int .i64 k,.int .i64 K,.int .i64 T,.int .i64 M]).alloc (.cells #[.int .u64 0,.int .u64 0,.slice none 0 0,.slice none 0 0,.int .u64 0,.int .u64 0,.slice none 0 0,.slice none 0 0,.slice none 0 0] 25)).below hb (by simp; omega)
 have b1:=(Blk.new1 w (.cells #[.int .i64 k,.int .i64 K,.int .i64 T,.int .i64 M] 36) 25 #[.int .u64 0,.int .u64 0,.slice none 0 0,.slice none 0 0,.int .u64 0,.int .u64 0,.slice none 0 0,.slice none 0 0,.slice none 0 0]).below hb (by simp)
 have hb0:=((((Below.refl w.heap.size w).alloc (Nat.le_refl _) (.cells #[.int .i64 k,.int .i64 K,.int .i64 T,.int .i64 M] 36)).alloc (by simp) (.cells #[.int .u64 0,.int .u64 0,.slice none 0 0,.slice none 0 0,.int .u64 0,.int .u64 0,.slice none 0 0,.slice none 0 0,.slice none 0 0] 25))).trans (hb.mono (by simp; omega))
 clear hb
 have l0:=b0.lt
 have l1:=b1.lt
 have d0:=b0.cell
 have hsz0:=hb0.size
 refine wk1 ?_
 refine zln [0,0,2,6,0,16,48,0,128,384,0,1024,0,4096,15360,31744,65535,0,262143] [1,2,4,5,7,8,10,11,12,13,14,0,3,6,9,15,16,17,18] (Below w'.heap.size w') rfl (by decide +kernel) ?_ ?_ ?_
 focus exact (Below.refl _ _).drew
 focus exact zja w'
 refine wk6 ?_
 with_reducible refine zf0 (o:=?_) (t:=?_) (l:=?_) (c:=?_) ?_ ?_ ?_ 22 (.int .u64 0) 8 ?_ zcw rfl .i64 .i64 3 ?_ ?_ (by omega) (by omega) (fun g0 hg0=>?_)
 rotate_left 4
 focus rfl
 focus rfl
 focus rfl
 focus exact zbv
 focus rfl
 focus rfl
 refine wk7 ?_
 with_reducible refine zf0 (o:=?_) (t:=?_) (l:=?_) (c:=?_) ?_ ?_ ?_ 22 (.int .u64 0) 8 ?_ zcw rfl .i64 .i64 T ?_ ?_ (by omega) (by omega) (fun g3 hg3=>?_)
 rotate_left 4
 focus rfl
 focus rfl
 focus rfl
 focus exact zbv
 focus rfl
 focus rfl
 refine wk7 ?_
 with_reducible refine zf0 (o:=?_) (t:=?_) (l:=?_) (c:=?_) ?_ ?_ ?_ 22 (.int .u64 0) 8 ?_ zcw rfl .i64 .i64 M ?_ ?_ (by omega) (by omega) (fun g6 hg6=>?_)
 rotate_left 4
 focus rfl
 focus rfl
 focus rfl
 focus exact zbv
 focus rfl
 focus rfl
 refine wk7 ?_
 with_reducible refine zf0 (o:=?_) (t:=?_) (l:=?_) (c:=?_) ?_ ?_ ?_ 22 (.int .u64 0) 8 ?_ zcw rfl .i64 .i64 M ?_ ?_ (by omega) (by omega) (fun g9 hg9=>?_)
 rotate_left 4
 focus rfl
 focus rfl
 focus rfl
 focus exact zbv
 focus rfl
 focus rfl
 refine wk7 ?_
 with_reducible refine zf0 (o:=?_) (t:=?_) (l:=?_) (c:=?_) ?_ ?_ ?_ 22 (.int .u64 0) 8 ?_ zcw rfl .i64 .i64 (M * K) ?_ ?_ (by omega) (by omega) (fun g15 hg15=>?_)
 rotate_left 4
 focus rfl
 focus rfl
 focus rfl
 focus exact zbv
 focus (rw [Int.natCast_mul] <;> rfl)
 focus (rw [Int.natCast_mul] <;> rfl)
 refine wk7 ?_
 refine wk6 ?_
 with_reducible refine dg_lay (o:=?_) (fun n=>.pointer (some ⟨n,0,none⟩)) (.cells #[.int .u64 0,.int .u64 0,.slice none 0 0,.slice none 0 0,.int .u64 0,.int .u64 0,.slice none 0 0,.slice none 0 0,.slice none 0 0] 25) ?_ ?_ ?_ ?_ ?_ ?_ (fun g17 hg17=>?_)
 rotate_left 1
 focus rfl
 focus rfl
 focus rfl
 focus rfl
 focus (first | (with_reducible apply zay); (focus decide) | (with_reducible apply zc4); (focus rfl); (focus rfl); (focus kernel_rfl) | exact zc5 rfl rfl rfl | exact zbp rfl rfl)
 focus (intro wS; go_simp; try rfl)
 refine wk7 ?_
 refine dg_do rfl rfl rfl (fun W hW hNW=>?_)
 obtain ⟨⟨⟨⟨⟨⟨hWb,m0⟩,m3⟩,m6⟩,m9⟩,m15⟩,m17⟩:=hW
 have hge : w'.heap.size <= g0 /\ w'.heap.size <= g3 /\ w'.heap.size <= g6 /\ w'.heap.size <= g9 /\ w'.heap.size <= g15 /\ w'.heap.size <= g17:=by
  simp only [zjj,not_or,Nat.not_lt] at hg0 hg3 hg6 hg9 hg15 hg17
  omega
 have hne : g6 ≠ g0 /\ g6 ≠ g3 /\ g6 ≠ g9 /\ g6 ≠ g15 /\ g6 ≠ g17 /\ g0 ≠ g17 /\ g3 ≠ g17 /\ g9 ≠ g17 /\ g15 ≠ g17:=by
  simp only [zjj,not_or,Nat.not_lt] at hg0 hg3 hg6 hg9 hg15 hg17
  omega
 refine za7 (v:=.agg #[.int .u64 0,.int .u64 0,.slice (some ⟨g0,0,none⟩) 3 3,.slice (some ⟨g3,0,none⟩) T T,.int .u64 0,.int .u64 0,.slice (some ⟨g6,0,none⟩) M M,.slice (some ⟨g9,0,none⟩) M M,.slice (some ⟨g15,0,none⟩) (M * K) (M * K)]) (cs':=#[.int .u64 0,.int .u64 0,.slice (some ⟨g0,0,none⟩) 3 3,.slice (some ⟨g3,0,none⟩) T T,.int .u64 0,.int .u64 0,.slice (some ⟨g6,0,none⟩) M M,.slice (some ⟨g9,0,none⟩) M M,.slice (some ⟨g15,0,none⟩) (M * K) (M * K)]) rfl rfl rfl rfl m17 (hoth _ (by omega)) (by kernel_rfl) (Nat.le_of_ble_eq_true rfl) (by simp [Value.cells,Value.oneCell']) rfl ?_
 refine ⟨fun _=>False,fun W2=>Made w'.heap.size w' W2 K T M g0 g3 g6 g9 g15 g17 (zs M) /\ Blk W2 g17 25 #[.int .u64 (0),.int .u64 (0),.slice (some ⟨g0,0,none⟩) 3 3,.slice (some ⟨g3,0,none⟩) T T,.int .u64 (0),.int .u64 (0),.slice (some ⟨g6,0,none⟩) M M,.slice (some ⟨g9,0,none⟩) M M,.slice (some ⟨g15,0,none⟩) (M * K) (M * K)],⟨?_,Blk.row (show Blk W g17 _ _ from m17) _⟩,?_,fun _ h=>h.elim,?_⟩
 focus
  have hU : ∀ n,(List.replicate n (Value.int .u64 0)).toArray = (U (zs n)).toArray:=fun n=>by unfold U zs; rw [List.map_replicate]
  rw [hU] at m0 m3 m6 m9 m15
  exact Made.row17 ⟨hWb,m0,m3,m6,m9,m15,hne,hge,by simp [zs]⟩ _
 focus
  exact fun W2 o h=>⟨h.1.alloc o h.1.below.size,h.2.alloc o⟩
 refine wk7 ?_
 refine dg_nil (fun W2 hW2 _=>?_)
 obtain ⟨hMade,c17⟩:=hW2
 clear hWb m0 m3 m6 m9 m15 m17 hNW W
 have e0:=(b0.below hMade.below l0).cell
 iterate 6 (first
  | (with_reducible apply zdz) | (with_reducible apply zlq) | (with_reducible apply j_ret) | (with_reducible apply j_skip) | (with_reducible apply j_exit) | (with_reducible apply zlo) | (with_reducible apply zdm) | (with_reducible apply zlk)
  | ((with_reducible refine zew ?_ ?_); (focus rfl); simp only [Act.put,List.setIfInBounds_toArray,List.set_cons_zero,List.set_cons_succ])
  | ((with_reducible refine zdy ?_ ?_ (fun K hK=>?_)); (focus rfl); (focus (intro ht; refine zb3 ?_ ht; (focus (first | (with_reducible apply zay); (focus decide) | (with_reducible apply zc4); (focus rfl); (focus rfl); (focus kernel_rfl) | exact zc5 rfl rfl rfl | exact zbp rfl rfl)))); go_simp; refine hK _ _ _ ?_; clear hK K)
  | ((with_reducible refine j_true ?_ ?_); (focus rfl)) | ((with_reducible refine zlp ?_ ?_); (focus rfl))
  | (with_reducible show Then _ _ _ _ _ _; simp only [Then])
  | (with_reducible show zct _ _ _ _ _ _; simp only [zct, ↓reduceIte,Nat.reduceEqDiff]))
 refine zlm (M:=NewMid s' k K T M w.heap.size w' g0 g3 g6 g9 g15 g17) ?_ ?_
 focus
  rcases hk with rfl | rfl | rfl
  ·have d17:=c17.cell
   refine wk1 ?_
   refine zbf _ rfl ?_ ?_ Try.func26 ?_ rfl (ref (h:=0) zdt) ?_
   focus rfl
   focus first | rfl | (go_simp; done) | (go_simp; rfl)
   focus rfl
   rintro s3 x3 W3 ⟨rfl,rfl,rfl⟩
   refine wk7 ?_
   refine zbf _ rfl ?_ ?_ Try.func26 ?_ rfl (ref (h:=0) zdt) ?_
   focus rfl
   focus first | rfl | (go_simp; done) | (go_simp; rfl)
   focus rfl
   rintro s3 x3 W3 ⟨rfl,rfl,rfl⟩
   refine wk7 ?_
   refine wk1 ?_
   refine zaj (za7 (v:=.int .u64 (pk 0 (seg 0))) (cs':=#[.int .u64 (0),.int .u64 (0),.slice (some ⟨g0,0,none⟩) 3 3,.slice (some ⟨g3,0,none⟩) T T,.int .u64 ((pk 0 (seg 0))),.int .u64 (0),.slice (some ⟨g6,0,none⟩) M M,.slice (some ⟨g9,0,none⟩) M M,.slice (some ⟨g15,0,none⟩) (M * K) (M * K)]) rfl rfl rfl rfl c17 (hoth _ (by omega)) (by kernel_rfl) (Nat.le_of_ble_eq_true rfl) (by simp [Value.cells,Value.oneCell']) rfl ?_)
   refine wk7 ?_
   have hMade':=hMade.row17 #[.int .u64 (0),.int .u64 (0),.slice (some ⟨g0,0,none⟩) 3 3,.slice (some ⟨g3,0,none⟩) T T,.int .u64 ((pk 0 (seg 0))),.int .u64 (0),.slice (some ⟨g6,0,none⟩) M M,.slice (some ⟨g9,0,none⟩) M M,.slice (some ⟨g15,0,none⟩) (M * K) (M * K)]
   have c17':=c17.row #[.int .u64 (0),.int .u64 (0),.slice (some ⟨g0,0,none⟩) 3 3,.slice (some ⟨g3,0,none⟩) T T,.int .u64 ((pk 0 (seg 0))),.int .u64 (0),.slice (some ⟨g6,0,none⟩) M M,.slice (some ⟨g9,0,none⟩) M M,.slice (some ⟨g15,0,none⟩) (M * K) (M * K)]
   generalize hW4 : W3.setRow g17 #[.int .u64 (0),.int .u64 (0),.slice (some ⟨g0,0,none⟩) 3 3,.slice (some ⟨g3,0,none⟩) T T,.int .u64 ((pk 0 (seg 0))),.int .u64 (0),.slice (some ⟨g6,0,none⟩) M M,.slice (some ⟨g9,0,none⟩) M M,.slice (some ⟨g15,0,none⟩) (M * K) (M * K)] = W4 at hMade' c17' ⊢
   refine wk1 ?_
   refine zaj (za7 (v:=.int .u64 (pk 0 (seg 0))) (cs':=#[.int .u64 (0),.int .u64 (0),.slice (some ⟨g0,0,none⟩) 3 3,.slice (some ⟨g3,0,none⟩) T T,.int .u64 ((pk 0 (seg 0))),.int .u64 ((pk 0 (seg 0))),.slice (some ⟨g6,0,none⟩) M M,.slice (some ⟨g9,0,none⟩) M M,.slice (some ⟨g15,0,none⟩) (M * K) (M * K)]) rfl rfl rfl rfl c17' (hoth _ (by omega)) (by kernel_rfl) (Nat.le_of_ble_eq_true rfl) (by simp [Value.cells,Value.oneCell']) rfl ?_)
   refine wk7 ?_
   have hMade2:=hMade'.row17 #[.int .u64 (0),.int .u64 (0),.slice (some ⟨g0,0,none⟩) 3 3,.slice (some ⟨g3,0,none⟩) T T,.int .u64 ((pk 0 (seg 0))),.int .u64 ((pk 0 (seg 0))),.slice (some ⟨g6,0,none⟩) M M,.slice (some ⟨g9,0,none⟩) M M,.slice (some ⟨g15,0,none⟩) (M * K) (M * K)]
   have c172:=c17'.row #[.int .u64 (0),.int .u64 (0),.slice (some ⟨g0,0,none⟩) 3 3,.slice (some ⟨g3,0,none⟩) T T,.int .u64 ((pk 0 (seg 0))),.int .u64 ((pk 0 (seg 0))),.slice (some ⟨g6,0,none⟩) M M,.slice (some ⟨g9,0,none⟩) M M,.slice (some ⟨g15,0,none⟩) (M * K) (M * K)]
   generalize hW5 : W4.setRow g17 #[.int .u64 (0),.int .u64 (0),.slice (some ⟨g0,0,none⟩) 3 3,.slice (some ⟨g3,0,none⟩) T T,.int .u64 ((pk 0 (seg 0))),.int .u64 ((pk 0 (seg 0))),.slice (some ⟨g6,0,none⟩) M M,.slice (some ⟨g9,0,none⟩) M M,.slice (some ⟨g15,0,none⟩) (M * K) (M * K)] = W5 at hMade2 c172 ⊢
   refine wk1 ?_
   exact ⟨rfl,1,_,.inl ⟨rfl,rfl,rfl⟩,hMade2,c172,_,_,_,_,_,_,_,_,_,_,_,_,_,_,_,_,_,_,_,_,_,_,_,_,_,_,_,_,_,_,_,_,_,_,_,_,_,_,_,_,_,_,_,_,_,_,_,_,_,_,_,_,_,rfl⟩
  ·have d17:=c17.cell
   refine wk1 ?_
   refine zaj (za7 (v:=.agg #[.int .u64 (0),.int .u64 (0),.slice (some ⟨g0,0,none⟩) 3 3,.slice (some ⟨g3,0,none⟩) T T,.int .u64 (0),.int .u64 (0),.slice (some ⟨g6,0,none⟩) M M,.slice (some ⟨g9,0,none⟩) M M,.slice (some ⟨g15,0,none⟩) (M * K) (M * K)]) (cs':=#[.int .u64 (0),.int .u64 (0),.slice (some ⟨g0,0,none⟩) 3 3,.slice (some ⟨g3,0,none⟩) T T,.int .u64 (0),.int .u64 (0),.slice (some ⟨g6,0,none⟩) M M,.slice (some ⟨g9,0,none⟩) M M,.slice (some ⟨g15,0,none⟩) (M * K) (M * K)]) rfl rfl rfl rfl (b1.below hMade.below l1) (hoth _ (by omega)) (by kernel_rfl) (Nat.le_of_ble_eq_true rfl) (by simp [Value.cells,Value.oneCell']) rfl ?_)
   refine wk7 ?_
   have hfin:=hMade.last (hb0.trans (hMade.below.mono hsz0)) (show w.heap.size <= w.heap.size + 1 by omega) l1 #[.int .u64 (0),.int .u64 (0),.slice (some ⟨g0,0,none⟩) 3 3,.slice (some ⟨g3,0,none⟩) T T,.int .u64 (0),.int .u64 (0),.slice (some ⟨g6,0,none⟩) M M,.slice (some ⟨g9,0,none⟩) M M,.slice (some ⟨g15,0,none⟩) (M * K) (M * K)]
   have f1:=(b1.below hMade.below l1).row #[.int .u64 (0),.int .u64 (0),.slice (some ⟨g0,0,none⟩) 3 3,.slice (some ⟨g3,0,none⟩) T T,.int .u64 (0),.int .u64 (0),.slice (some ⟨g6,0,none⟩) M M,.slice (some ⟨g9,0,none⟩) M M,.slice (some ⟨g15,0,none⟩) (M * K) (M * K)]
   generalize hW3 : W2.setRow (w.heap.size + 1) #[.int .u64 (0),.int .u64 (0),.slice (some ⟨g0,0,none⟩) 3 3,.slice (some ⟨g3,0,none⟩) T T,.int .u64 (0),.int .u64 (0),.slice (some ⟨g6,0,none⟩) M M,.slice (some ⟨g9,0,none⟩) M M,.slice (some ⟨g15,0,none⟩) (M * K) (M * K)] = W3 at hfin f1 ⊢
   have d1:=f1.cell
   refine wk1 ?_
   refine zb0 (.tuple #[.agg #[.int .u64 (0),.int .u64 (0),.slice (some ⟨g0,0,none⟩) 3 3,.slice (some ⟨g3,0,none⟩) T T,.int .u64 (0),.int .u64 (0),.slice (some ⟨g6,0,none⟩) M M,.slice (some ⟨g9,0,none⟩) M M,.slice (some ⟨g15,0,none⟩) (M * K) (M * K)],.int .i64 0]) rfl (by simp [results,go_sem,d1]) ⟨rfl,hfin.below,_,rfl,?_,fun g hg=>hfin.off hg _ _ _ _⟩
   exact hfin.memC hT2 hM2 hMK 0 0 0 0
  ·refine wk1 ?_
   exact ⟨rfl,0,0,.inr ⟨rfl,rfl,rfl⟩,hMade,c17,_,_,_,_,_,_,_,_,_,_,_,_,_,_,_,_,_,_,_,_,_,_,_,_,_,_,_,_,_,_,_,_,_,_,_,_,_,_,_,_,_,_,_,_,_,_,_,_,_,_,_,_,_,rfl⟩
 rintro s2 a W3 ⟨rfl,first,hd,hfirst,hMade2,c172,v0,v6,v7,v8,v9,v10,v11,v12,v13,v14,v15,v16,v17,v18,v19,v20,v21,v22,v23,v24,v25,v26,v27,v28,v29,v30,v31,v32,v33,v34,v35,v36,v37,v38,v39,v40,v41,v42,v43,v44,v45,v46,v47,v48,v49,v50,v51,v52,v53,v54,v55,v56,v57,rfl⟩
 clear hMade c17 e0
 have hf1 : first <= 1:=by omega
 have d17:=c172.cell
 refine wk1 ?_
 refine zbf _ rfl ?_ ?_ Try.func26 ?_ rfl (ref (h:=(first : Int)) zdt) ?_
 focus rfl
 focus first | rfl | (go_simp; done) | (go_simp; rfl)
 focus rfl
 rintro s3 x3 W4 ⟨rfl,rfl,rfl⟩
 refine wk7 ?_
 refine wk1 ?_
 refine zaj (za7 (v:=.int .u64 (pk 0 (seg (first : Int)))) (cs':=#[.int .u64 (0),.int .u64 ((pk 0 (seg (first : Int)))),.slice (some ⟨g0,0,none⟩) 3 3,.slice (some ⟨g3,0,none⟩) T T,.int .u64 (hd),.int .u64 (hd),.slice (some ⟨g6,0,none⟩) M M,.slice (some ⟨g9,0,none⟩) M M,.slice (some ⟨g15,0,none⟩) (M * K) (M * K)]) rfl rfl rfl rfl c172 (hoth _ (by omega)) (by kernel_rfl) (Nat.le_of_ble_eq_true rfl) (by simp [Value.cells,Value.oneCell']) rfl ?_)
 refine wk7 ?_
 have hMade3:=hMade2.row17 #[.int .u64 (0),.int .u64 ((pk 0 (seg (first : Int)))),.slice (some ⟨g0,0,none⟩) 3 3,.slice (some ⟨g3,0,none⟩) T T,.int .u64 (hd),.int .u64 (hd),.slice (some ⟨g6,0,none⟩) M M,.slice (some ⟨g9,0,none⟩) M M,.slice (some ⟨g15,0,none⟩) (M * K) (M * K)]
 have c173:=c172.row #[.int .u64 (0),.int .u64 ((pk 0 (seg (first : Int)))),.slice (some ⟨g0,0,none⟩) 3 3,.slice (some ⟨g3,0,none⟩) T T,.int .u64 (hd),.int .u64 (hd),.slice (some ⟨g6,0,none⟩) M M,.slice (some ⟨g9,0,none⟩) M M,.slice (some ⟨g15,0,none⟩) (M * K) (M * K)]
 generalize hW5 : W4.setRow g17 #[.int .u64 (0),.int .u64 ((pk 0 (seg (first : Int)))),.slice (some ⟨g0,0,none⟩) 3 3,.slice (some ⟨g3,0,none⟩) T T,.int .u64 (hd),.int .u64 (hd),.slice (some ⟨g6,0,none⟩) M M,.slice (some ⟨g9,0,none⟩) M M,.slice (some ⟨g15,0,none⟩) (M * K) (M * K)] = W5 at hMade3 c173 ⊢
 clear hMade2 c172 d17 hW5
 refine wk1 ?_
 refine j_loop (I:=NewInv s3 K T M w.heap.size first hd w' g0 g3 g6 g9 g15 g17) (μ:=NewMu M) ?_ ?_
 focus exact ⟨rfl,first,Nat.le_refl _,by omega,(lk_start first M).symm ▸ hMade3,c173,_,_,_,_,_,_,_,_,_,_,_,_,_,_,_,_,_,_,_,_,_,_,_,_,_,_,_,_,_,_,_,_,_,_,_,_,_,_,_,_,_,_,_,_,_,_,_,_,_,_,_,_,_,rfl⟩
 clear hMade3 c173
 rintro s2 a W ⟨rfl,h0,hh1,hh2,hM6,c17,v0,v5,v7,v8,v9,v10,v11,v12,v13,v14,v15,v16,v17,v18,v19,v20,v21,v22,v23,v24,v25,v26,v27,v28,v29,v30,v31,v32,v33,v34,v35,v36,v37,v38,v39,v40,v41,v42,v43,v44,v45,v46,v47,v48,v49,v50,v51,v52,v53,v54,v55,v56,v57,rfl⟩
 have d17:=c17.cell
 have e0:=(b0.below hM6.below l0).cell
 have hw1 : IntKind.i64.wrap ((M : Int) - 1) = (M : Int) - 1:=by simp [IntKind.wrap,IntKind.bits,IntKind.signed]; omega
 by_cases c : h0 < M - 1
 ·have c1 : decide ((h0 : Int) < (M : Int) - 1) = true:=decide_eq_true (by omega)
  have l17:=c17.lt
  have l6:=hM6.b6.lt
  have hgs:=hM6.n6
  have hB:=hM6.ge
  have hlk : h0 < (lk first h0 M).length:=by rw [lk_len]; omega
  have hc6 : W.cell? ⟨g6,h0,none⟩ = some (.int .u64 ((lk first h0 M)[h0]'hlk)):=by
   rw [hM6.b6.cell,List.getElem?_toArray]
   unfold U
   rw [List.getElem?_map,List.getElem?_eq_getElem hlk]
   rfl
  have hf6:=hM6.b6.frozen h0
  have hin : (0 : Int) <= (h0 : Int) /\ (h0 : Int) < (M : Int):=by omega
  have hin2 : h0 < M:=by omega
  have hwh : IntKind.i64.wrap ((h0 : Int) + 1) = (h0 : Int) + 1:=by simp [IntKind.wrap,IntKind.bits,IntKind.signed]; omega
  refine wk1 ?_
  refine zbe [0,1,0,0,8,24,63,127] [0,1,2,3,4,5,6,7] (Below W.heap.size W) rfl (by decide +kernel) (by exact wk5) ?_ ?_
  focus exact (Below.refl _ _).drew
  refine wk4 ?_
  refine zfl (o:=?_) (args:=?_) (ats:=?_) _ ?_ ?_ ?_ ?_ Try.func26 ?_ rfl (ref (h:=(h0 : Int) + 1) zdt) ?_
  rotate_left 3
  focus rfl
  focus rfl
  focus rfl
  focus first | rfl | (go_simp; done) | (go_simp; rfl)
  focus rfl
  rintro s3 x3 W6 ⟨rfl,rfl,rfl⟩
  refine ⟨_,(Below.refl W.heap.size W).drew,fun _=>rfl,?_⟩
  refine wk7 ?_
  refine wk4 ?_
  refine dl_act (o:=?_) ?_ ?_ ?_ ?_ (fun K hK=>?_)
  rotate_left 1
  focus rfl
  focus rfl
  focus rfl
  focus exact fun ht=>zcy rfl rfl (show W.drew.cell? _ = _ from hc6) (hoth _ (by first | omega | (dsimp only <;> omega))) ht
  go_simp
  refine hK _ _ _ ⟨fun _=>True,trivial,fun h=>absurd h (by decide +kernel),?_⟩
  clear hK K
  have hM7:=hM6.drew.link h0 (pk 0 (seg ((h0 : Int) + 1)))
  rw [lk_step (by omega) hin2] at hM7
  have c18:=c17.drew.far (p:=⟨g6,h0,none⟩) (Ne.symm hgs.2.2.2.2.1) (.int .u64 (pk 0 (seg ((h0 : Int) + 1))))
  refine dl_nil ?_
  refine wk1 ?_
  exact ⟨⟨rfl,h0 + 1,by omega,by omega,hM7,c18,_,_,_,_,_,_,_,_,_,_,_,_,_,_,_,_,_,_,_,_,_,_,_,_,_,_,_,_,_,_,_,_,_,_,_,_,_,_,_,_,_,_,_,_,_,_,_,_,_,_,_,_,_,rfl⟩,by show M - ((h0 : Int) + 1).toNat < M - ((h0 : Int)).toNat; omega⟩
 ·have c1 : decide ((h0 : Int) < (M : Int) - 1) = false:=decide_eq_false (by omega)
  have hh : h0 = M - 1:=by omega
  subst hh
  refine wk1 ?_
  refine zaj (za7 (v:=.agg #[.int .u64 (0),.int .u64 ((pk 0 (seg (first : Int)))),.slice (some ⟨g0,0,none⟩) 3 3,.slice (some ⟨g3,0,none⟩) T T,.int .u64 (hd),.int .u64 (hd),.slice (some ⟨g6,0,none⟩) M M,.slice (some ⟨g9,0,none⟩) M M,.slice (some ⟨g15,0,none⟩) (M * K) (M * K)]) (cs':=#[.int .u64 (0),.int .u64 ((pk 0 (seg (first : Int)))),.slice (some ⟨g0,0,none⟩) 3 3,.slice (some ⟨g3,0,none⟩) T T,.int .u64 (hd),.int .u64 (hd),.slice (some ⟨g6,0,none⟩) M M,.slice (some ⟨g9,0,none⟩) M M,.slice (some ⟨g15,0,none⟩) (M * K) (M * K)]) rfl rfl rfl rfl (b1.below hM6.below l1) (hoth _ (by omega)) (by kernel_rfl) (Nat.le_of_ble_eq_true rfl) (by simp [Value.cells,Value.oneCell']) rfl ?_)
  refine wk7 ?_
  have hfin:=hM6.last (hb0.trans (hM6.below.mono hsz0)) (show w.heap.size <= w.heap.size + 1 by omega) l1 #[.int .u64 (0),.int .u64 ((pk 0 (seg (first : Int)))),.slice (some ⟨g0,0,none⟩) 3 3,.slice (some ⟨g3,0,none⟩) T T,.int .u64 (hd),.int .u64 (hd),.slice (some ⟨g6,0,none⟩) M M,.slice (some ⟨g9,0,none⟩) M M,.slice (some ⟨g15,0,none⟩) (M * K) (M * K)]
  have f1:=(b1.below hM6.below l1).row #[.int .u64 (0),.int .u64 ((pk 0 (seg (first : Int)))),.slice (some ⟨g0,0,none⟩) 3 3,.slice (some ⟨g3,0,none⟩) T T,.int .u64 (hd),.int .u64 (hd),.slice (some ⟨g6,0,none⟩) M M,.slice (some ⟨g9,0,none⟩) M M,.slice (some ⟨g15,0,none⟩) (M * K) (M * K)]
  generalize hW8 : W.setRow (w.heap.size + 1) #[.int .u64 (0),.int .u64 ((pk 0 (seg (first : Int)))),.slice (some ⟨g0,0,none⟩) 3 3,.slice (some ⟨g3,0,none⟩) T T,.int .u64 (hd),.int .u64 (hd),.slice (some ⟨g6,0,none⟩) M M,.slice (some ⟨g9,0,none⟩) M M,.slice (some ⟨g15,0,none⟩) (M * K) (M * K)] = W8 at hfin f1 ⊢
  have d1:=f1.cell
  refine wk1 ?_
  refine zb0 (.tuple #[.agg #[.int .u64 (0),.int .u64 ((pk 0 (seg (first : Int)))),.slice (some ⟨g0,0,none⟩) 3 3,.slice (some ⟨g3,0,none⟩) T T,.int .u64 (hd),.int .u64 (hd),.slice (some ⟨g6,0,none⟩) M M,.slice (some ⟨g9,0,none⟩) M M,.slice (some ⟨g15,0,none⟩) (M * K) (M * K)],.int .i64 0]) rfl (by simp [results,go_sem,d1]) ⟨rfl,hfin.below,_,rfl,?_,fun g hg=>hfin.off hg _ _ _ _⟩
  have hnm : zj7 k K T M = ⟨0,pk 0 (seg (first : Int)),zs 3,zs T,hd,hd,lk first (M - 1) M,zs M,zs (M * K)⟩:=by
   rcases hfirst with ⟨rfl,rfl,rfl⟩ | ⟨rfl,rfl,rfl⟩ <;> rfl
  rw [hnm]
  exact hfin.memC hT2 hM2 hMK _ _ _ _
end
end Go.Proofs.Ytonhfgjofgbcdaa.St
namespace Go.Proofs.Ytonhfgjofgbcdaa.Rf
open Go Go.Conc Go.RowKit Jay Pl
open St
section
variable {γ : Type} {X : zad γ} {s : γ} {w : World}
attribute [local go_sem] upon_value upon_skip
def zd6 (s : γ) (w : World) (m : Mem) (a : Int) (s' : γ) (r : zf9) (w' : World) : Prop:=s' = s /\ Below w.heap.size w w' /\ ∃ v,r = .back v /\ Us w' w'.heap.size v (m.area a)
theorem area_1 {B : Nat} {m : Mem} {v : Value} (hm : zie w B m v) (hB : B <= w.heap.size) : Jdo Try.prog X 12 #[v,.int .i64 1] s w (zd6 s w m 1):=by
 obtain ⟨cs,rfl,v2,v3,v6,v7,v8,rfl,h2,h3,h6,h7,h8⟩:=hm
 refine zar Try.func12 rfl ?_
 simp only [Try.ntmps12]
 refine wk8 ?_
 refine wk1 ?_
 refine za6 rfl rfl ⟨rfl,((Below.refl _ _).alloc (Nat.le_refl _) _).alloc (by simp) _,_,rfl,?_⟩
 exact zdh (xs:=[m.e]) (cap:=1) (Blk.new1 w _ 22 #[.int .u64 m.e]) (Nat.le_refl _) (by unfold maxLen; omega) rfl rfl (by simp)
theorem area_2 {B : Nat} {m : Mem} {v : Value} (hm : zie w B m v) (hB : B <= w.heap.size) : Jdo Try.prog X 12 #[v,.int .i64 2] s w (zd6 s w m 2):=by
 obtain ⟨cs,rfl,v2,v3,v6,v7,v8,rfl,h2,h3,h6,h7,h8⟩:=hm
 refine zar Try.func12 rfl ?_
 simp only [Try.ntmps12]
 refine wk8 ?_
 refine wk1 ?_
 refine za6 rfl rfl ⟨rfl,((Below.refl _ _).alloc (Nat.le_refl _) _).alloc (by simp) _,_,rfl,?_⟩
 exact zdh (xs:=[m.f]) (cap:=1) (Blk.new1 w _ 22 #[.int .u64 m.f]) (Nat.le_refl _) (by unfold maxLen; omega) rfl rfl (by simp)
theorem area_3 {B : Nat} {m : Mem} {v : Value} (hm : zie w B m v) (hB : B <= w.heap.size) : Jdo Try.prog X 12 #[v,.int .i64 3] s w (zd6 s w m 3):=by
 obtain ⟨cs,rfl,v2,v3,v6,v7,v8,rfl,h2,h3,h6,h7,h8⟩:=hm
 refine zar Try.func12 rfl ?_
 simp only [Try.ntmps12]
 refine wk8 ?_
 refine wk1 ?_
 exact za6 rfl rfl ⟨rfl,(Below.refl _ _).alloc (Nat.le_refl _) _,_,rfl,Sl.more (Sl.alloc h2 hB _) (by simp <;> omega)⟩
theorem area_4 {B : Nat} {m : Mem} {v : Value} (hm : zie w B m v) (hB : B <= w.heap.size) : Jdo Try.prog X 12 #[v,.int .i64 4] s w (zd6 s w m 4):=by
 obtain ⟨cs,rfl,v2,v3,v6,v7,v8,rfl,h2,h3,h6,h7,h8⟩:=hm
 refine zar Try.func12 rfl ?_
 simp only [Try.ntmps12]
 refine wk8 ?_
 refine wk1 ?_
 exact za6 rfl rfl ⟨rfl,(Below.refl _ _).alloc (Nat.le_refl _) _,_,rfl,Sl.more (Sl.alloc h3 hB _) (by simp <;> omega)⟩
theorem area_5 {B : Nat} {m : Mem} {v : Value} (hm : zie w B m v) (hB : B <= w.heap.size) : Jdo Try.prog X 12 #[v,.int .i64 5] s w (zd6 s w m 5):=by
 obtain ⟨cs,rfl,v2,v3,v6,v7,v8,rfl,h2,h3,h6,h7,h8⟩:=hm
 refine zar Try.func12 rfl ?_
 simp only [Try.ntmps12]
 refine wk8 ?_
 refine wk1 ?_
 refine za6 rfl rfl ⟨rfl,((Below.refl _ _).alloc (Nat.le_refl _) _).alloc (by simp) _,_,rfl,?_⟩
 exact zdh (xs:=[m.h]) (cap:=1) (Blk.new1 w _ 22 #[.int .u64 m.h]) (Nat.le_refl _) (by unfold maxLen; omega) rfl rfl (by simp)
theorem area_6 {B : Nat} {m : Mem} {v : Value} (hm : zie w B m v) (hB : B <= w.heap.size) : Jdo Try.prog X 12 #[v,.int .i64 6] s w (zd6 s w m 6):=by
 obtain ⟨cs,rfl,v2,v3,v6,v7,v8,rfl,h2,h3,h6,h7,h8⟩:=hm
 refine zar Try.func12 rfl ?_
 simp only [Try.ntmps12]
 refine wk8 ?_
 refine wk1 ?_
 refine za6 rfl rfl ⟨rfl,((Below.refl _ _).alloc (Nat.le_refl _) _).alloc (by simp) _,_,rfl,?_⟩
 exact zdh (xs:=[m.t]) (cap:=1) (Blk.new1 w _ 22 #[.int .u64 m.t]) (Nat.le_refl _) (by unfold maxLen; omega) rfl rfl (by simp)
theorem area_7 {B : Nat} {m : Mem} {v : Value} (hm : zie w B m v) (hB : B <= w.heap.size) : Jdo Try.prog X 12 #[v,.int .i64 7] s w (zd6 s w m 7):=by
 obtain ⟨cs,rfl,v2,v3,v6,v7,v8,rfl,h2,h3,h6,h7,h8⟩:=hm
 refine zar Try.func12 rfl ?_
 simp only [Try.ntmps12]
 refine wk8 ?_
 refine wk1 ?_
 exact za6 rfl rfl ⟨rfl,(Below.refl _ _).alloc (Nat.le_refl _) _,_,rfl,Sl.more (Sl.alloc h6 hB _) (by simp <;> omega)⟩
theorem area_8 {B : Nat} {m : Mem} {v : Value} (hm : zie w B m v) (hB : B <= w.heap.size) : Jdo Try.prog X 12 #[v,.int .i64 8] s w (zd6 s w m 8):=by
 obtain ⟨cs,rfl,v2,v3,v6,v7,v8,rfl,h2,h3,h6,h7,h8⟩:=hm
 refine zar Try.func12 rfl ?_
 simp only [Try.ntmps12]
 refine wk8 ?_
 refine wk1 ?_
 exact za6 rfl rfl ⟨rfl,(Below.refl _ _).alloc (Nat.le_refl _) _,_,rfl,Sl.more (Sl.alloc h7 hB _) (by simp <;> omega)⟩
theorem area_9 {B : Nat} {m : Mem} {v : Value} (hm : zie w B m v) (hB : B <= w.heap.size) : Jdo Try.prog X 12 #[v,.int .i64 9] s w (zd6 s w m 9):=by
 obtain ⟨cs,rfl,v2,v3,v6,v7,v8,rfl,h2,h3,h6,h7,h8⟩:=hm
 refine zar Try.func12 rfl ?_
 simp only [Try.ntmps12]
 refine wk8 ?_
 refine wk1 ?_
 exact za6 rfl rfl ⟨rfl,(Below.refl _ _).alloc (Nat.le_refl _) _,_,rfl,Sl.more (Sl.alloc h8 hB _) (by simp <;> omega)⟩
theorem area_none {B : Nat} {m : Mem} {v : Value} {a : Int} (hm : zie w B m v) (hB : B <= w.heap.size) (c : ∀ k : Int,1 <= k -> k <= 9 -> a ≠ k) : Jdo Try.prog X 12 #[v,.int .i64 a] s w (zd6 s w m a):=by
 obtain ⟨cs,rfl,v2,v3,v6,v7,v8,rfl,h2,h3,h6,h7,h8⟩:=hm
 have c1:=c 1 (by decide) (by decide); have c2:=c 2 (by decide) (by decide); have c3:=c 3 (by decide) (by decide); have c4:=c 4 (by decide) (by decide); have c5:=c 5 (by decide) (by decide); have c6:=c 6 (by decide) (by decide); have c7:=c 7 (by decide) (by decide); have c8:=c 8 (by decide) (by decide); have c9:=c 9 (by decide) (by decide)
 clear c
 have hk : ∀ k : Int,k = 1 \/ k = 2 \/ k = 3 \/ k = 4 \/ k = 5 \/ k = 6 \/ k = 7 \/ k = 8 \/ k = 9 -> (a == k) = false:=by
  rintro k hk
  simp only [beq_eq_false_iff_ne,ne_eq]
  omega
 have e1:=hk 1 (by decide); have e2:=hk 2 (by decide); have e3:=hk 3 (by decide); have e4:=hk 4 (by decide); have e5:=hk 5 (by decide); have e6:=hk 6 (by decide); have e7:=hk 7 (by decide); have e8:=hk 8 (by decide); have e9:=hk 9 (by decide)
 clear hk
 refine zar Try.func12 rfl ?_
 simp only [Try.ntmps12]
 refine wk8 ?_
 refine wk1 ?_
 refine za6 rfl rfl ⟨rfl,(Below.refl _ _).alloc (Nat.le_refl _) _,_,rfl,?_⟩
 unfold Mem.area
 rw [if_neg c1,if_neg c2,if_neg c3,if_neg c4,if_neg c5,if_neg c6,if_neg c7,if_neg c8,if_neg c9]
 exact Sl.nil _ _ _
theorem area {B : Nat} {m : Mem} {v : Value} {a : Int} (hm : zie w B m v) (hB : B <= w.heap.size) : Jdo Try.prog X 12 #[v,.int .i64 a] s w (zd6 s w m a):=by
 by_cases c1 : a = 1
 ·subst c1; exact area_1 hm hB
 by_cases c2 : a = 2
 ·subst c2; exact area_2 hm hB
 by_cases c3 : a = 3
 ·subst c3; exact area_3 hm hB
 by_cases c4 : a = 4
 ·subst c4; exact area_4 hm hB
 by_cases c5 : a = 5
 ·subst c5; exact area_5 hm hB
 by_cases c6 : a = 6
 ·subst c6; exact area_6 hm hB
 by_cases c7 : a = 7
 ·subst c7; exact area_7 hm hB
 by_cases c8 : a = 8
 ·subst c8; exact area_8 hm hB
 by_cases c9 : a = 9
 ·subst c9; exact area_9 hm hB
 exact area_none hm hB fun k h1 h2=>by omega
end
end Go.Proofs.Ytonhfgjofgbcdaa.Rf
namespace Go.Proofs.Ytonhfgjofgbcdaa.Rf
open Go Go.Conc Go.RowKit Jay Pl
open St
section
variable {γ : Type} {X : zad γ} {s : γ} {w : World}
attribute [local go_sem] upon_value upon_skip
def SameInv {γ : Type} (s' : γ) (w : World) (va vb : Value) (xs ys : List Int) (s2 : γ) (a : Act) (W : World) : Prop:=s2 = s' /\ Below w.heap.size w W /\ ∃ i : Nat,i <= xs.length /\ xs.take i = ys.take i /\
 (∃ v2 v3 v4 v6 v7 v8 v9 v10 v11 v12 v13 v14 v15 v16 v17 v18 v19 v20 v21 v22 v23 v24 v25,a = { tmps:=#[va,vb,v2,v3,v4,.int .i64 i,v6,v7,v8,v9,v10,v11,v12,v13,v14,v15,v16,v17,v18,v19,v20,v21,v22,v23,v24,v25],defers:=[] })
def SameMu {γ : Type} (n : Nat) (_ : γ) (a : Act) (_ : World) : Nat:=match a.tmps.getD 5 undef with
 | .int _ i=>n - i.toNat
 | _=>0
theorem zkf {B : Nat} {v : Value} {xs : List Int} (h : Us w B v xs) (hn : 0 < xs.length) : ∃ b o c,v = .slice (some ⟨b,o,none⟩) xs.length c /\ b < B /\ ∀ (j : Nat) (hj : j < xs.length),w.cell? ⟨b,o + j,none⟩ = some (.int .u64 xs[j]):=by
 obtain ⟨b,o,c,hv,hb,_,_,hc⟩:=Sl.row h hn
 refine ⟨b,o,c,hv,hb,fun j hj=>hc j _ ?_⟩
 unfold U
 rw [List.getElem?_map,List.getElem?_eq_getElem hj]
 rfl
set_option maxHeartbeats 4000000 in
theorem same {B : Nat} {va vb : Value} {xs ys : List Int} (ha : Us w B va xs) (hb : Us w B vb ys) (hB : B <= w.heap.size) (hn : xs.length <= 1000000) (hn' : ys.length <= 1000000) : Jdo Try.prog X 25 #[va,vb] s w fun s' r w'=>s' = s /\ Below w.heap.size w w' /\ r = .back (.bool (decide (xs = ys))):=by
 obtain ⟨A,c,rfl,_,_⟩:=ha.form
 obtain ⟨A',c',rfl,_,_⟩:=hb.form
 by_cases hl : xs.length = ys.length
 ·have l1 : ((xs.length : Int) != (ys.length : Int)) = false:=by simp [hl]
  refine zar Try.func25 rfl ?_
  simp only [Try.ntmps25]
  refine wk8 ?_
  refine wk1 ?_
  refine j_loop (I:=SameInv s w (.slice A ys.length c) (.slice A' ys.length c') xs ys) (μ:=SameMu xs.length) ?_ ?_
  focus exact ⟨rfl,Below.refl _ _,0,Nat.zero_le _,rfl,_,_,_,_,_,_,_,_,_,_,_,_,_,_,_,_,_,_,_,_,_,_,_,rfl⟩
  rintro s2 a W ⟨rfl,hW,i,hi,htake,v2,v3,v4,v6,v7,v8,v9,v10,v11,v12,v13,v14,v15,v16,v17,v18,v19,v20,v21,v22,v23,v24,v25,rfl⟩
  by_cases hlt : i < xs.length
  ·have l2 : decide ((i : Int) < (ys.length : Int)) = true:=decide_eq_true (by omega)
   obtain ⟨b,o,k,hv,hbB,hc⟩:=zkf ha (by omega)
   obtain ⟨b',o',k',hv',hbB',hc'⟩:=zkf hb (by omega)
   cases hv
   cases hv'
   have hj' : i < ys.length:=by omega
   have f1 : W.cell? ⟨b,o + i,none⟩ = some (.int .u64 xs[i]):=(hW.cell (by dsimp only; omega)).trans (hc i hlt)
   have f2 : W.cell? ⟨b',o' + i,none⟩ = some (.int .u64 ys[i]):=(hW.cell (by dsimp only; omega)).trans (hc' i hj')
   have l3 : b < W.heap.size:=by have:=hW.size; omega
   have l4 : b' < W.heap.size:=by have:=hW.size; omega
   have l5 : (i : Int) < (xs.length : Int):=by omega
   have l6 : (i : Int) < (ys.length : Int):=by omega
   have hw : IntKind.i64.wrap ((i : Int) + 1) = (i : Int) + 1:=by simp [IntKind.wrap,IntKind.bits,IntKind.signed]; omega
   by_cases hxy : xs[i] = ys[i]
   ·have l7 : (xs[i] != ys[i]) = false:=by simpa using hxy
    refine wk1 ?_
    refine zbe [0,0,3,7,0,0,48,112,255] [0,1,2,3,4,5,6,7,8] (Below W.heap.size W) rfl (by decide +kernel) (by exact wk5) ?_ ?_
    focus exact (Below.refl _ _).drew
    refine wk4 ?_
    refine wk1 ?_
    refine ⟨⟨rfl,hW.drew,i + 1,by omega,?_,_,_,_,_,_,_,_,_,_,_,_,_,_,_,_,_,_,_,_,_,_,_,_,rfl⟩,by show xs.length - ((i : Int) + 1).toNat < xs.length - ((i : Int)).toNat; omega⟩
    rw [List.take_succ_eq_append_getElem hlt,List.take_succ_eq_append_getElem hj',htake,hxy]
   ·have l7 : (xs[i] != ys[i]) = true:=by simpa using hxy
    refine wk1 ?_
    refine zbe [0,0,3,7,0,0,48,112,255] [0,1,2,3,4,5,6,7,8] (Below W.heap.size W) rfl (by decide +kernel) (by exact wk5) ?_ ?_
    focus exact (Below.refl _ _).drew
    refine wk4 ?_
    refine wk1 ?_
    have hne : xs ≠ ys:=fun e=>hxy (by subst e; rfl)
    exact za6 rfl rfl ⟨rfl,hW.drew,by simp [hne]⟩
  ·have l2 : decide ((i : Int) < (ys.length : Int)) = false:=decide_eq_false (by omega)
   have l3 : ¬ i < ys.length:=by omega
   refine wk1 ?_
   have heq : xs = ys:=by
    rw [List.take_of_length_le (by omega),List.take_of_length_le (by omega)] at htake
    exact htake
   exact za6 rfl rfl ⟨rfl,hW,by simp [heq]⟩
 ·have l1 : ((xs.length : Int) != (ys.length : Int)) = true:=by simp; omega
  have hne : xs ≠ ys:=fun e=>hl (by rw [e])
  refine zar Try.func25 rfl ?_
  simp only [Try.ntmps25]
  refine wk8 ?_
  refine wk1 ?_
  exact za6 rfl rfl ⟨rfl,Below.refl _ _,by simp [hne]⟩
/-! ### All words -/
def Mem.same (m n : Mem) : Bool:=(List.range 9).all fun i=>decide (m.area ((i : Int) + 1) = n.area ((i : Int) + 1))
theorem Mem.same_iff (m n : Mem) : Mem.same m n = true ↔ m = n:=by
 constructor
 ·intro h
  obtain ⟨e,f,li,pi,hd,t,ln,nx,sl⟩:=m
  obtain ⟨e',f',li',pi',hd',t',ln',nx',sl'⟩:=n
  simp [Mem.same,List.range,List.range.loop,Mem.area] at h
  simp [h]
 ·rintro rfl
  simp [Mem.same]
theorem zgh {w w' : World} {B : Nat} {m : Mem} {v : Value} (h : zie w B m v) (hb : Below B w w') : zie w' B m v:=by
 obtain ⟨cs,hv,hc⟩:=h
 exact ⟨cs,hv,hc.below hb⟩
end
end Go.Proofs.Ytonhfgjofgbcdaa.Rf
namespace Go.Proofs.Ytonhfgjofgbcdaa.Rf
open Go Go.Conc Go.RowKit Jay Pl
open St
section
variable {γ : Type} {X : zad γ} {s : γ} {w : World}
attribute [local go_sem] upon_value upon_skip
def Mem.few (m : Mem) : Prop:=∀ a,(m.area a).length <= 1000000
theorem zdo {m : Mem} (h : m.small) : Mem.few m:=by
 intro a
 unfold Mem.small at h
 unfold Mem.area
 repeat' split
 all_goals first | omega | (simp only [List.length_cons,List.length_nil] <;> omega)
def AllInv {γ : Type} (s' : γ) (W0 : World) (n0 : Nat) (m n : Mem) (s2 : γ) (a : Act) (W : World) : Prop:=s2 = s' /\ Below W0.heap.size W0 W /\ ∃ i : Nat,i <= 9 /\ (∀ j : Nat,j < i -> m.area ((j : Int) + 1) = n.area ((j : Int) + 1)) /\
 (∃ v0 v1 v4 v6 v7 v8 v9 v10 v11 v12 v13 v14 v15 v16 v17,a = { tmps:=#[v0,v1,.pointer (some ⟨n0,0,none⟩),.pointer (some ⟨n0 + 1,0,none⟩),v4,.int .i64 ((i : Int) + 1),v6,v7,v8,v9,v10,v11,v12,v13,v14,v15,v16,v17],defers:=[] })
def AllMu {γ : Type} (_ : γ) (a : Act) (_ : World) : Nat:=match a.tmps.getD 5 undef with
 | .int _ i=>20 - i.toNat
 | _=>0
set_option maxHeartbeats 4000000 in
theorem all {B : Nat} {va vb : Value} {m n : Mem} (ha : zie w B m va) (hb : zie w B n vb) (hB : B <= w.heap.size) (hm : Mem.few m) (hn : Mem.few n) : Jdo Try.prog X 11 #[va,vb] s w fun s' r w'=>s' = s /\ Below w.heap.size w w' /\ r = .back (.bool (Mem.same m n)):=by
 have ha0:=ha
 have hb0:=hb
 obtain ⟨cs,rfl,v2,v3,v6,v7,v8,rfl,_⟩:=ha
 obtain ⟨cs',rfl,u2,u3,u6,u7,u8,rfl,_⟩:=hb
 obtain ⟨W0,hW0⟩ : ∃ W0,W0 = (w.alloc (.cells #[.int .u64 m.e,.int .u64 m.f,v2,v3,.int .u64 m.h,.int .u64 m.t,v6,v7,v8] 25)).alloc (.cells #[.int .u64 n.e,.int .u64 n.f,u2,u3,.int .u64 n.h,.int .u64 n.t,u6,u7,u8] 25):=⟨_,rfl⟩
 have b0 : Blk W0 w.heap.size _ _:=hW0 ▸ (Blk.new w _ _).alloc _
 have b1 : Blk W0 (w.heap.size + 1) _ _:=hW0 ▸ Blk.new1 w _ _ _
 have hbel : Below w.heap.size w W0:=hW0 ▸ ((Below.refl _ _).alloc (Nat.le_refl _) _).alloc (by simp) _
 have l0:=b0.lt
 have l1:=b1.lt
 refine zar Try.func11 rfl ?_
 simp only [Try.ntmps11]
 refine wk8 ?_
 refine wk1 ?_
 rw [<- hW0]
 refine j_loop (I:=AllInv s W0 w.heap.size m n) (μ:=AllMu) ?_ ?_
 focus exact ⟨rfl,Below.refl _ _,0,by omega,fun j hj=>by omega,_,_,_,_,_,_,_,_,_,_,_,_,_,_,_,rfl⟩
 rintro s2 a W ⟨rfl,hW,i,hi,hsame,v0,v1,v4,v6,v7,v8,v9,v10,v11,v12,v13,v14,v15,v16,v17,rfl⟩
 have hbW:=hbel.trans (hW.mono hbel.size)
 have d0:=(b0.below hW l0).cell
 have d1:=(b1.below hW l1).cell
 have l0' : w.heap.size < W.heap.size:=by have:=hW.size; omega
 have l1' : w.heap.size + 1 < W.heap.size:=by have:=hW.size; omega
 by_cases hlt : i < 9
 ·have c1 : decide ((i : Int) + 1 <= 9) = true:=decide_eq_true (by omega)
  have hw : IntKind.i64.wrap ((i : Int) + 1 + 1) = (i : Int) + 1 + 1:=by simp [IntKind.wrap,IntKind.bits,IntKind.signed]; omega
  by_cases heq : m.area ((i : Int) + 1) = n.area ((i : Int) + 1)
  ·refine wk1 ?_
   refine zbe [0,0,3,0,0,31,63,127] [0,1,3,4,2,5,6,7] (Below W.heap.size W) rfl (by decide +kernel) (by exact wk5) ?_ ?_
   focus exact (Below.refl _ _).drew
   refine wk4 ?_
   refine zfl (o:=?_) (args:=?_) (ats:=?_) _ ?_ ?_ ?_ ?_ Try.func12 ?_ rfl (area (a:=(i : Int) + 1) (zgh ha0 (hbW.mono hB).drew) (show B <= W.drew.heap.size from Nat.le_trans hB hbW.size)) ?_
   rotate_left 3
   focus rfl
   focus rfl
   focus rfl
   focus first | rfl | (go_simp; done) | (go_simp; rfl)
   focus rfl
   rintro s3 x3 W1 ⟨rfl,hb1,x,rfl,hx⟩
   have hS1 : Below W.heap.size W W1:=(Below.refl W.heap.size W).drew.trans hb1
   refine ⟨_,hS1,fun _=>rfl,?_⟩
   refine wk7 ?_
   refine wk4 ?_
   refine zfl (o:=?_) (args:=?_) (ats:=?_) _ ?_ ?_ ?_ ?_ Try.func12 ?_ rfl (area (a:=(i : Int) + 1) (zgh hb0 ((hbW.mono hB).trans (hS1.mono (Nat.le_trans hB hbW.size)))) (show B <= W1.heap.size from Nat.le_trans hB (Nat.le_trans hbW.size hS1.size))) ?_
   rotate_left 3
   focus rfl
   focus rfl
   focus rfl
   focus first | rfl | (go_simp; done) | (go_simp; rfl)
   focus rfl
   rintro s3 x3 W2 ⟨rfl,hb2,y,rfl,hy⟩
   have hS2 : Below W.heap.size W W2:=hS1.trans (hb2.mono hS1.size)
   refine ⟨_,hS2,fun _=>rfl,?_⟩
   refine wk7 ?_
   refine wk4 ?_
   refine zfl (o:=?_) (args:=?_) (ats:=?_) _ ?_ ?_ ?_ ?_ Try.func25 ?_ rfl (same (xs:=m.area ((i : Int) + 1)) (ys:=n.area ((i : Int) + 1)) ((Sl.below hx hb2).more hb2.size) hy (Nat.le_refl _) (hm _) (hn _)) ?_
   rotate_left 3
   focus rfl
   focus rfl
   focus rfl
   focus first | rfl | (go_simp; done) | (go_simp; rfl)
   focus rfl
   rintro s3 x3 W3 ⟨rfl,hb3,rfl⟩
   have hS3 : Below W.heap.size W W3:=hS2.trans (hb3.mono hS2.size)
   refine ⟨_,hS3,fun _=>rfl,?_⟩
   rw [decide_eq_true heq]
   refine wk7 ?_
   refine wk4 ?_
   refine wk1 ?_
   refine ⟨⟨rfl,hW.trans (hS3.mono hW.size),i + 1,by omega,?_,_,_,_,_,_,_,_,_,_,_,_,_,_,_,_,rfl⟩,by show 20 - ((i : Int) + 1 + 1).toNat < 20 - ((i : Int) + 1).toNat; omega⟩
   intro j hj
   by_cases hji : j = i
   ·subst hji; exact heq
   ·exact hsame j (by omega)
  ·refine wk1 ?_
   refine zbe [0,0,3,0,0,31,63,127] [0,1,3,4,2,5,6,7] (Below W.heap.size W) rfl (by decide +kernel) (by exact wk5) ?_ ?_
   focus exact (Below.refl _ _).drew
   refine wk4 ?_
   refine zfl (o:=?_) (args:=?_) (ats:=?_) _ ?_ ?_ ?_ ?_ Try.func12 ?_ rfl (area (a:=(i : Int) + 1) (zgh ha0 (hbW.mono hB).drew) (show B <= W.drew.heap.size from Nat.le_trans hB hbW.size)) ?_
   rotate_left 3
   focus rfl
   focus rfl
   focus rfl
   focus first | rfl | (go_simp; done) | (go_simp; rfl)
   focus rfl
   rintro s3 x3 W1 ⟨rfl,hb1,x,rfl,hx⟩
   have hS1 : Below W.heap.size W W1:=(Below.refl W.heap.size W).drew.trans hb1
   refine ⟨_,hS1,fun _=>rfl,?_⟩
   refine wk7 ?_
   refine wk4 ?_
   refine zfl (o:=?_) (args:=?_) (ats:=?_) _ ?_ ?_ ?_ ?_ Try.func12 ?_ rfl (area (a:=(i : Int) + 1) (zgh hb0 ((hbW.mono hB).trans (hS1.mono (Nat.le_trans hB hbW.size)))) (show B <= W1.heap.size from Nat.le_trans hB (Nat.le_trans hbW.size hS1.size))) ?_
   rotate_left 3
   focus rfl
   focus rfl
   focus rfl
   focus first | rfl | (go_simp; done) | (go_simp; rfl)
   focus rfl
   rintro s3 x3 W2 ⟨rfl,hb2,y,rfl,hy⟩
   have hS2 : Below W.heap.size W W2:=hS1.trans (hb2.mono hS1.size)
   refine ⟨_,hS2,fun _=>rfl,?_⟩
   refine wk7 ?_
   refine wk4 ?_
   refine zfl (o:=?_) (args:=?_) (ats:=?_) _ ?_ ?_ ?_ ?_ Try.func25 ?_ rfl (same (xs:=m.area ((i : Int) + 1)) (ys:=n.area ((i : Int) + 1)) ((Sl.below hx hb2).more hb2.size) hy (Nat.le_refl _) (hm _) (hn _)) ?_
   rotate_left 3
   focus rfl
   focus rfl
   focus rfl
   focus first | rfl | (go_simp; done) | (go_simp; rfl)
   focus rfl
   rintro s3 x3 W3 ⟨rfl,hb3,rfl⟩
   have hS3 : Below W.heap.size W W3:=hS2.trans (hb3.mono hS2.size)
   refine ⟨_,hS3,fun _=>rfl,?_⟩
   rw [decide_eq_false heq]
   refine wk7 ?_
   refine wk4 ?_
   refine wk1 ?_
   have hno : Mem.same m n = false:=by
    cases hc : Mem.same m n with
    | false=>rfl
    | true=>rw [Mem.same_iff] at hc; exact absurd (by rw [hc]) heq
   exact za6 rfl rfl ⟨rfl,hbW.trans (hS3.mono hbW.size),by rw [hno]; rfl⟩
 ·have c1 : decide ((i : Int) + 1 <= 9) = false:=decide_eq_false (by omega)
  refine wk1 ?_
  have hall : Mem.same m n = true:=by
   unfold Mem.same
   rw [List.all_eq_true]
   intro j hj
   rw [List.mem_range] at hj
   exact decide_eq_true (hsame j (by omega))
  exact za6 rfl rfl ⟨rfl,hbW,by rw [hall]; rfl⟩
/-! ### Short -/
def Mem.short (m : Mem) : Bool:=(List.range 9).all fun i=>decide ((m.area ((i : Int) + 1)).length <= 5000)
def ShortInv {γ : Type} (s' : γ) (W0 : World) (n0 : Nat) (m : Mem) (s2 : γ) (a : Act) (W : World) : Prop:=s2 = s' /\ Below W0.heap.size W0 W /\ ∃ i : Nat,i <= 9 /\ (∀ j : Nat,j < i -> (m.area ((j : Int) + 1)).length <= 5000) /\
 (∃ v0 v2 v4 v5 v6 v7 v8 v9 v10 v11 v12,a = { tmps:=#[v0,.pointer (some ⟨n0,0,none⟩),v2,.int .i64 ((i : Int) + 1),v4,v5,v6,v7,v8,v9,v10,v11,v12],defers:=[] })
def ShortMu {γ : Type} (_ : γ) (a : Act) (_ : World) : Nat:=match a.tmps.getD 3 undef with
 | .int _ i=>20 - i.toNat
 | _=>0
set_option maxHeartbeats 4000000 in
theorem short {B : Nat} {va : Value} {m : Mem} (ha : zie w B m va) (hB : B <= w.heap.size) : Jdo Try.prog X 9 #[va] s w fun s' r w'=>s' = s /\ Below w.heap.size w w' /\ r = .back (.bool (Mem.short m)):=by
 have ha0:=ha
 obtain ⟨cs,rfl,v2,v3,v6,v7,v8,rfl,_⟩:=ha
 obtain ⟨W0,hW0⟩ : ∃ W0,W0 = w.alloc (.cells #[.int .u64 m.e,.int .u64 m.f,v2,v3,.int .u64 m.h,.int .u64 m.t,v6,v7,v8] 25):=⟨_,rfl⟩
 have b0 : Blk W0 w.heap.size _ _:=hW0 ▸ Blk.new w _ _
 have hbel : Below w.heap.size w W0:=hW0 ▸ (Below.refl _ _).alloc (Nat.le_refl _) _
 have l0:=b0.lt
 refine zar Try.func9 rfl ?_
 simp only [Try.ntmps9]
 refine wk8 ?_
 refine wk1 ?_
 rw [<- hW0]
 refine j_loop (I:=ShortInv s W0 w.heap.size m) (μ:=ShortMu) ?_ ?_
 focus exact ⟨rfl,Below.refl _ _,0,by omega,fun j hj=>by omega,_,_,_,_,_,_,_,_,_,_,_,rfl⟩
 rintro s2 a W ⟨rfl,hW,i,hi,hshort,v0,v2,v4,v5,v6,v7,v8,v9,v10,v11,v12,rfl⟩
 have hbW:=hbel.trans (hW.mono hbel.size)
 have d0:=(b0.below hW l0).cell
 by_cases hlt : i < 9
 ·have c1 : decide ((i : Int) + 1 <= 9) = true:=decide_eq_true (by omega)
  have hw : IntKind.i64.wrap ((i : Int) + 1 + 1) = (i : Int) + 1 + 1:=by simp [IntKind.wrap,IntKind.bits,IntKind.signed]; omega
  refine wk1 ?_
  refine zbf _ rfl ?_ ?_ Try.func12 ?_ rfl (area (a:=(i : Int) + 1) (zgh ha0 (hbW.mono hB)) (Nat.le_trans hB hbW.size)) ?_
  focus rfl
  focus first | rfl | (go_simp; done) | (go_simp; rfl)
  focus rfl
  rintro s3 x3 W1 ⟨rfl,hb1,x,rfl,hx⟩
  refine wk7 ?_
  obtain ⟨A,c,rfl,_,_⟩:=hx.form
  by_cases hle : (m.area ((i : Int) + 1)).length <= 5000
  ·have c2 : decide (5000 < (((m.area ((i : Int) + 1)).length : Nat) : Int)) = false:=decide_eq_false (by omega)
   refine wk1 ?_
   refine ⟨⟨rfl,hW.trans (hb1.mono hW.size),i + 1,by omega,?_,_,_,_,_,_,_,_,_,_,_,_,rfl⟩,by show 20 - ((i : Int) + 1 + 1).toNat < 20 - ((i : Int) + 1).toNat; omega⟩
   intro j hj
   by_cases hji : j = i
   ·subst hji; exact hle
   ·exact hshort j (by omega)
  ·have c2 : decide (5000 < (((m.area ((i : Int) + 1)).length : Nat) : Int)) = true:=decide_eq_true (by omega)
   refine wk1 ?_
   have hno : Mem.short m = false:=by
    unfold Mem.short
    rw [List.all_eq_false]
    exact ⟨i,List.mem_range.2 hlt,by simp; omega⟩
   exact za6 rfl rfl ⟨rfl,hbW.trans (hb1.mono hbW.size),by rw [hno]; rfl⟩
 ·have c1 : decide ((i : Int) + 1 <= 9) = false:=decide_eq_false (by omega)
  refine wk1 ?_
  have hall : Mem.short m = true:=by
   unfold Mem.short
   rw [List.all_eq_true]
   intro j hj
   rw [List.mem_range] at hj
   exact decide_eq_true (hshort j (by omega))
  exact za6 rfl rfl ⟨rfl,hbW,by rw [hall]; rfl⟩
end
end Go.Proofs.Ytonhfgjofgbcdaa.Rf
