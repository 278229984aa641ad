/- A part of this claim's proof. -/
import Derived.Test.YtonhfgjofgbcdaaRws18
set_option linter.unusedSimpArgs false
set_option linter.unusedVariables false
set_option maxRecDepth 20000
namespace Go.Proofs.Ytonhfgjofgbcdaa.Rf
open Go Go.Conc Go.RowKit Jay Pl
open St Wd
section
variable {γ : Type} {X : zad γ} {s : γ} {w : World}
attribute [local go_sem] upon_value upon_skip
def RNewMid {γ : Type} (s' : γ) (k : Int) (K T M n0 : Nat) (w' : World) (g0 g3 g6 g9 g15 g17 : Nat) (s2 : γ) (a : Act) (W3 : World) : Prop:=s2 = s' /\ ∃ (first : Nat) (hd : Int),(k = 1 /\ first = 1 /\ hd = pk 0 (seg 0) \/ k = 3 /\ first = 0 /\ hd = 0) /\ Made w'.heap.size w' W3 K T M g0 g3 g6 g9 g15 g17 (zs M) /\ Blk W3 g17 25 #[.int .u64 (0),.int .u64 ((pk 0 (seg (first : Int)))),.slice (some ⟨g0,0,none⟩) 3 3,.slice (some ⟨g3,0,none⟩) T T,.int .u64 (hd),.int .u64 (hd),.slice (some ⟨g6,0,none⟩) M M,.slice (some ⟨g9,0,none⟩) M M,.slice (some ⟨g15,0,none⟩) (M * K) (M * K)] /\
  (∃ v0 v4 v5 v6 v7 v8 v9 v10 v11 v12 v13 v14 v15 v16 v17 v18 v19 v20 v21 v22 v23 v24 v25 v26 v27 v28 v29 v30 v31 v32 v33 v34 v35 v36 v37 v38 v39 v40 v41 v42 v43 v44 v45 v46 v47 v48 v49 v50 v51 v52 v53 v54 v55 v56 v57 v58 v59,a = { tmps:=#[v0,.pointer (some ⟨n0,0,none⟩),.pointer (some ⟨n0 + 1,0,none⟩),.pointer (some ⟨g17,0,none⟩),v4,v5,v6,v7,v8,v9,v10,v11,v12,v13,v14,v15,v16,v17,v18,v19,v20,v21,v22,v23,v24,v25,v26,v27,v28,v29,v30,v31,v32,v33,v34,v35,v36,v37,v38,v39,v40,v41,v42,v43,v44,v45,v46,v47,v48,v49,v50,v51,v52,v53,v54,v55,v56,v57,v58,v59],defers:=[] })
def RNewMid0 {γ : Type} (s' : γ) (k : Int) (K T M n0 : Nat) (w' : World) (g0 g3 g6 g9 g15 g17 : Nat) (s2 : γ) (a : Act) (W3 : World) : Prop:=s2 = s' /\ (k = 1 \/ k = 3) /\ Made w'.heap.size w' W3 K T M g0 g3 g6 g9 g15 g17 (zs M) /\ Blk W3 g17 25 #[.int .u64 (0),.int .u64 (0),.slice (some ⟨g0,0,none⟩) 3 3,.slice (some ⟨g3,0,none⟩) T T,.int .u64 (0),.int .u64 (0),.slice (some ⟨g6,0,none⟩) M M,.slice (some ⟨g9,0,none⟩) M M,.slice (some ⟨g15,0,none⟩) (M * K) (M * K)] /\
  (∃ v0 v4 v5 v6 v7 v8 v9 v10 v11 v12 v13 v14 v15 v16 v17 v18 v19 v20 v21 v22 v23 v24 v25 v26 v27 v28 v29 v30 v31 v32 v33 v34 v35 v36 v37 v38 v39 v40 v41 v42 v43 v44 v45 v46 v47 v48 v49 v50 v51 v52 v53 v54 v55 v56 v57 v58 v59,a = { tmps:=#[v0,.pointer (some ⟨n0,0,none⟩),.pointer (some ⟨n0 + 1,0,none⟩),.pointer (some ⟨g17,0,none⟩),v4,v5,v6,v7,v8,v9,v10,v11,v12,v13,v14,v15,v16,v17,v18,v19,v20,v21,v22,v23,v24,v25,v26,v27,v28,v29,v30,v31,v32,v33,v34,v35,v36,v37,v38,v39,v40,v41,v42,v43,v44,v45,v46,v47,v48,v49,v50,v51,v52,v53,v54,v55,v56,v57,v58,v59],defers:=[] })
def RNewInv {γ : Type} (s' : γ) (K T M n0 first : Nat) (hd : Int) (w' : World) (g0 g3 g6 g9 g15 g17 : Nat) (s2 : γ) (a : Act) (W : World) : Prop:=s2 = s' /\ ∃ h : Nat,h <= M - 1 /\ Made w'.heap.size w' W K T M g0 g3 g6 g9 g15 g17 (lk first h M) /\ Blk W g17 25 #[.int .u64 (0),.int .u64 ((pk 0 (seg (first : Int)))),.slice (some ⟨g0,0,none⟩) 3 3,.slice (some ⟨g3,0,none⟩) T T,.int .u64 (hd),.int .u64 (hd),.slice (some ⟨g6,0,none⟩) M M,.slice (some ⟨g9,0,none⟩) M M,.slice (some ⟨g15,0,none⟩) (M * K) (M * K)] /\
  (∃ v0 v5 v6 v7 v8 v9 v10 v11 v12 v13 v14 v15 v16 v17 v18 v19 v20 v21 v22 v23 v24 v25 v26 v27 v28 v29 v30 v31 v32 v33 v34 v35 v36 v37 v38 v39 v40 v41 v42 v43 v44 v45 v46 v47 v48 v49 v50 v51 v52 v53 v54 v55 v56 v57 v58 v59,a = { tmps:=#[v0,.pointer (some ⟨n0,0,none⟩),.pointer (some ⟨n0 + 1,0,none⟩),.pointer (some ⟨g17,0,none⟩),.int .i64 h,v5,v6,v7,v8,v9,v10,v11,v12,v13,v14,v15,v16,v17,v18,v19,v20,v21,v22,v23,v24,v25,v26,v27,v28,v29,v30,v31,v32,v33,v34,v35,v36,v37,v38,v39,v40,v41,v42,v43,v44,v45,v46,v47,v48,v49,v50,v51,v52,v53,v54,v55,v56,v57,v58,v59],defers:=[] })
def RNewMu {γ : Type} (M : Nat) (_ : γ) (a : Act) (_ : World) : Nat:=match a.tmps.getD 4 undef with
 | .int _ n=>M - n.toNat
 | _=>0
theorem lk_zero (f M : Nat) : lk f 0 M = zs M:=by
 unfold lk zs
 apply List.ext_getElem
 ·simp
 ·intro i h1 h2
  simp
theorem lk_one (M : Nat) : lk 1 1 M = lk 1 0 M:=by rw [lk_zero,lk_start]
set_option maxHeartbeats 8000000 in
theorem rnew {k : Int} {K T M : Nat} (h : zea k K T M = true) : Jdo Try.prog X 18 #[cfg k K T M] s w fun s' r w'=>s' = s /\ Below w.heap.size w w' /\ ∃ cs,r = .back (.agg cs) /\ zbb w' w'.heap.size (zj7 k K T M) cs /\ ∀ g,g < w.heap.size -> Off g cs:=by
 refine Jdo.there fun ht=>?_
 have hoth : ∀ b,w.heap.size <= b -> ¬ X.oth s b:=fun b hb ho=>by have:=ht b ho; omega
 have hr : (k = 1 \/ k = 2 \/ k = 3) /\ 1 <= K /\ K <= 64 /\ 1 <= T /\ T <= 8 /\ 2 <= M /\ M <= 64:=by
  simp [zea,inB] at h
  omega
 obtain ⟨hk,hK1,hK2,hT1,hT2,hM1,hM2⟩:=hr
 have hMK : M * K <= 4096:=Nat.mul_le_mul hM2 hK2
 have hwr : IntKind.i64.wrap ((M : Int) * (K : Int)) = ((M * K : Nat) : Int):=by
  rw [<- Int.natCast_mul]
  generalize M * K = n at *
  simp [IntKind.wrap,IntKind.bits,IntKind.signed]
  omega
 unfold cfg
 refine zar Try.func18 rfl ?_
 simp only [Try.ntmps18]
 refine wk8 ?_
 refine wk2 ?_
 have b0:=(Blk.new w 36 #[.int .i64 k,.int .i64 K,.int .i64 T,.int .i64 M]).alloc (.cells #[.int .u64 0,.int .u64 0,.slice none 0 0,.slice none 0 0,.int .u64 0,.int .u64 0,.slice none 0 0,.slice none 0 0,.slice none 0 0] 25)
 have b1:=Blk.new1 w (.cells #[.int .i64 k,.int .i64 K,.int .i64 T,.int .i64 M] 36) 25 #[.int .u64 0,.int .u64 0,.slice none 0 0,.slice none 0 0,.int .u64 0,.int .u64 0,.slice none 0 0,.slice none 0 0,.slice none 0 0]
 have hb0:=((Below.refl w.heap.size w).alloc (Nat.le_refl _) (.cells #[.int .i64 k,.int .i64 K,.int .i64 T,.int .i64 M] 36)).alloc (by simp) (.cells #[.int .u64 0,.int .u64 0,.slice none 0 0,.slice none 0 0,.int .u64 0,.int .u64 0,.slice none 0 0,.slice none 0 0,.slice none 0 0] 25)
 have l0:=b0.lt
 have l1:=b1.lt
 generalize hW' : (w.alloc (.cells #[.int .i64 k,.int .i64 K,.int .i64 T,.int .i64 M] 36)).alloc (.cells #[.int .u64 0,.int .u64 0,.slice none 0 0,.slice none 0 0,.int .u64 0,.int .u64 0,.slice none 0 0,.slice none 0 0,.slice none 0 0] 25) = w' at b0 b1 hb0 l0 l1 ⊢
 clear hW'
 have d0:=b0.cell
 have hsz0:=hb0.size
 refine zln [0,0,2,6,0,16,48,0,128,384,0,1024,0,4096,15360,31744,65535,0,262143] [1,2,4,5,7,8,10,11,12,13,14,0,3,6,9,15,16,17,18] (Below w'.heap.size w') rfl (by decide +kernel) ?_ ?_ ?_
 focus exact (Below.refl _ _).drew
 focus exact zja w'
 refine wk6 ?_
 with_reducible refine zf0 (o:=?_) (t:=?_) (l:=?_) (c:=?_) ?_ ?_ ?_ 22 (.int .u64 0) 8 ?_ zcw rfl .i64 .i64 3 ?_ ?_ (by omega) (by omega) (fun g0 hg0=>?_)
 rotate_left 4
 focus rfl
 focus rfl
 focus rfl
 focus exact zbv
 focus rfl
 focus rfl
 refine wk7 ?_
 with_reducible refine zf0 (o:=?_) (t:=?_) (l:=?_) (c:=?_) ?_ ?_ ?_ 22 (.int .u64 0) 8 ?_ zcw rfl .i64 .i64 T ?_ ?_ (by omega) (by omega) (fun g3 hg3=>?_)
 rotate_left 4
 focus rfl
 focus rfl
 focus rfl
 focus exact zbv
 focus rfl
 focus rfl
 refine wk7 ?_
 with_reducible refine zf0 (o:=?_) (t:=?_) (l:=?_) (c:=?_) ?_ ?_ ?_ 22 (.int .u64 0) 8 ?_ zcw rfl .i64 .i64 M ?_ ?_ (by omega) (by omega) (fun g6 hg6=>?_)
 rotate_left 4
 focus rfl
 focus rfl
 focus rfl
 focus exact zbv
 focus rfl
 focus rfl
 refine wk7 ?_
 with_reducible refine zf0 (o:=?_) (t:=?_) (l:=?_) (c:=?_) ?_ ?_ ?_ 22 (.int .u64 0) 8 ?_ zcw rfl .i64 .i64 M ?_ ?_ (by omega) (by omega) (fun g9 hg9=>?_)
 rotate_left 4
 focus rfl
 focus rfl
 focus rfl
 focus exact zbv
 focus rfl
 focus rfl
 refine wk7 ?_
 with_reducible refine zf0 (o:=?_) (t:=?_) (l:=?_) (c:=?_) ?_ ?_ ?_ 22 (.int .u64 0) 8 ?_ zcw rfl .i64 .i64 (M * K) ?_ ?_ (by omega) (by omega) (fun g15 hg15=>?_)
 rotate_left 4
 focus rfl
 focus rfl
 focus rfl
 focus exact zbv
 focus (rw [Int.natCast_mul] <;> rfl)
 focus (rw [Int.natCast_mul] <;> rfl)
 refine wk7 ?_
 refine wk6 ?_
 with_reducible refine dg_lay (o:=?_) (fun n=>.pointer (some ⟨n,0,none⟩)) (.cells #[.int .u64 0,.int .u64 0,.slice none 0 0,.slice none 0 0,.int .u64 0,.int .u64 0,.slice none 0 0,.slice none 0 0,.slice none 0 0] 25) ?_ ?_ ?_ ?_ ?_ ?_ (fun g17 hg17=>?_)
 rotate_left 1
 focus rfl
 focus rfl
 focus rfl
 focus rfl
 focus (first | (with_reducible apply zay); (focus decide) | (with_reducible apply zc4); (focus rfl); (focus rfl); (focus kernel_rfl) | exact zc5 rfl rfl rfl | exact zbp rfl rfl)
 focus (intro wS; go_simp; try rfl)
 refine wk7 ?_
 refine dg_do rfl rfl rfl (fun W hW hNW=>?_)
 obtain ⟨⟨⟨⟨⟨⟨hWb,m0⟩,m3⟩,m6⟩,m9⟩,m15⟩,m17⟩:=hW
 have hge : w'.heap.size <= g0 /\ w'.heap.size <= g3 /\ w'.heap.size <= g6 /\ w'.heap.size <= g9 /\ w'.heap.size <= g15 /\ w'.heap.size <= g17:=by
  simp only [zjj,not_or,Nat.not_lt] at hg0 hg3 hg6 hg9 hg15 hg17
  omega
 have hne : g6 ≠ g0 /\ g6 ≠ g3 /\ g6 ≠ g9 /\ g6 ≠ g15 /\ g6 ≠ g17 /\ g0 ≠ g17 /\ g3 ≠ g17 /\ g9 ≠ g17 /\ g15 ≠ g17:=by
  simp only [zjj,not_or,Nat.not_lt] at hg0 hg3 hg6 hg9 hg15 hg17
  omega
 refine za7 (v:=.agg #[.int .u64 0,.int .u64 0,.slice (some ⟨g0,0,none⟩) 3 3,.slice (some ⟨g3,0,none⟩) T T,.int .u64 0,.int .u64 0,.slice (some ⟨g6,0,none⟩) M M,.slice (some ⟨g9,0,none⟩) M M,.slice (some ⟨g15,0,none⟩) (M * K) (M * K)]) (cs':=#[.int .u64 0,.int .u64 0,.slice (some ⟨g0,0,none⟩) 3 3,.slice (some ⟨g3,0,none⟩) T T,.int .u64 0,.int .u64 0,.slice (some ⟨g6,0,none⟩) M M,.slice (some ⟨g9,0,none⟩) M M,.slice (some ⟨g15,0,none⟩) (M * K) (M * K)]) rfl rfl rfl rfl m17 (hoth _ (by omega)) (by kernel_rfl) (Nat.le_of_ble_eq_true rfl) (by simp [Value.cells,Value.oneCell']) rfl ?_
 refine ⟨fun _=>False,fun W2=>Made w'.heap.size w' W2 K T M g0 g3 g6 g9 g15 g17 (zs M) /\ Blk W2 g17 25 #[.int .u64 (0),.int .u64 (0),.slice (some ⟨g0,0,none⟩) 3 3,.slice (some ⟨g3,0,none⟩) T T,.int .u64 (0),.int .u64 (0),.slice (some ⟨g6,0,none⟩) M M,.slice (some ⟨g9,0,none⟩) M M,.slice (some ⟨g15,0,none⟩) (M * K) (M * K)],⟨?_,Blk.row (show Blk W g17 _ _ from m17) _⟩,?_,fun _ h=>h.elim,?_⟩
 focus
  have hU : ∀ n,(List.replicate n (Value.int .u64 0)).toArray = (U (zs n)).toArray:=fun n=>by unfold U zs; rw [List.map_replicate]
  rw [hU] at m0 m3 m6 m9 m15
  exact Made.row17 ⟨hWb,m0,m3,m6,m9,m15,hne,hge,by simp [zs]⟩ _
 focus
  exact fun W2 o h=>⟨h.1.alloc o h.1.below.size,h.2.alloc o⟩
 refine wk7 ?_
 refine dg_nil (fun W2 hW2 _=>?_)
 obtain ⟨hMade,c17⟩:=hW2
 clear hWb m0 m3 m6 m9 m15 m17 hNW W d0
 have e0:=(b0.below hMade.below l0).cell
 with_reducible show Then _ _ _ _ _ _
 simp only [Then]
 refine zlm (M:=RNewMid0 s k K T M w.heap.size w' g0 g3 g6 g9 g15 g17) ?_ ?_
 focus
  have d17:=c17.cell
  rcases hk with rfl | rfl | rfl
  ·refine wk2 ?_
   exact ⟨rfl,.inl rfl,hMade,c17,_,_,_,_,_,_,_,_,_,_,_,_,_,_,_,_,_,_,_,_,_,_,_,_,_,_,_,_,_,_,_,_,_,_,_,_,_,_,_,_,_,_,_,_,_,_,_,_,_,_,_,_,_,_,_,_,_,rfl⟩
  ·skip
   refine wk2 ?_
   refine zaj (za7 (v:=.agg #[.int .u64 (0),.int .u64 (0),.slice (some ⟨g0,0,none⟩) 3 3,.slice (some ⟨g3,0,none⟩) T T,.int .u64 (0),.int .u64 (0),.slice (some ⟨g6,0,none⟩) M M,.slice (some ⟨g9,0,none⟩) M M,.slice (some ⟨g15,0,none⟩) (M * K) (M * K)]) (cs':=#[.int .u64 (0),.int .u64 (0),.slice (some ⟨g0,0,none⟩) 3 3,.slice (some ⟨g3,0,none⟩) T T,.int .u64 (0),.int .u64 (0),.slice (some ⟨g6,0,none⟩) M M,.slice (some ⟨g9,0,none⟩) M M,.slice (some ⟨g15,0,none⟩) (M * K) (M * K)]) rfl rfl rfl rfl (b1.below hMade.below l1) (hoth _ (by omega)) (by kernel_rfl) (Nat.le_of_ble_eq_true rfl) (by simp [Value.cells,Value.oneCell']) rfl ?_)
   refine wk7 ?_
   have hfin:=hMade.last (hb0.trans (hMade.below.mono hsz0)) (show w.heap.size <= w.heap.size + 1 by omega) l1 #[.int .u64 (0),.int .u64 (0),.slice (some ⟨g0,0,none⟩) 3 3,.slice (some ⟨g3,0,none⟩) T T,.int .u64 (0),.int .u64 (0),.slice (some ⟨g6,0,none⟩) M M,.slice (some ⟨g9,0,none⟩) M M,.slice (some ⟨g15,0,none⟩) (M * K) (M * K)]
   have f1:=(b1.below hMade.below l1).row #[.int .u64 (0),.int .u64 (0),.slice (some ⟨g0,0,none⟩) 3 3,.slice (some ⟨g3,0,none⟩) T T,.int .u64 (0),.int .u64 (0),.slice (some ⟨g6,0,none⟩) M M,.slice (some ⟨g9,0,none⟩) M M,.slice (some ⟨g15,0,none⟩) (M * K) (M * K)]
   generalize hW3 : W2.setRow (w.heap.size + 1) #[.int .u64 (0),.int .u64 (0),.slice (some ⟨g0,0,none⟩) 3 3,.slice (some ⟨g3,0,none⟩) T T,.int .u64 (0),.int .u64 (0),.slice (some ⟨g6,0,none⟩) M M,.slice (some ⟨g9,0,none⟩) M M,.slice (some ⟨g15,0,none⟩) (M * K) (M * K)] = W3 at hfin f1 ⊢
   have d1:=f1.cell
   refine wk2 ?_
   refine zb0 (.agg #[.int .u64 (0),.int .u64 (0),.slice (some ⟨g0,0,none⟩) 3 3,.slice (some ⟨g3,0,none⟩) T T,.int .u64 (0),.int .u64 (0),.slice (some ⟨g6,0,none⟩) M M,.slice (some ⟨g9,0,none⟩) M M,.slice (some ⟨g15,0,none⟩) (M * K) (M * K)]) rfl (by simp [results,go_sem,d1]) ⟨rfl,hfin.below,_,rfl,?_,fun g hg=>hfin.off hg _ _ _ _⟩
   exact hfin.memC hT2 hM2 hMK 0 0 0 0
  ·skip
   refine wk2 ?_
   exact ⟨rfl,.inr rfl,hMade,c17,_,_,_,_,_,_,_,_,_,_,_,_,_,_,_,_,_,_,_,_,_,_,_,_,_,_,_,_,_,_,_,_,_,_,_,_,_,_,_,_,_,_,_,_,_,_,_,_,_,_,_,_,_,_,_,_,_,rfl⟩
 rintro s2 a W3 ⟨rfl,hk13,hMade2,c172,v0,v4,v5,v6,v7,v8,v9,v10,v11,v12,v13,v14,v15,v16,v17,v18,v19,v20,v21,v22,v23,v24,v25,v26,v27,v28,v29,v30,v31,v32,v33,v34,v35,v36,v37,v38,v39,v40,v41,v42,v43,v44,v45,v46,v47,v48,v49,v50,v51,v52,v53,v54,v55,v56,v57,v58,v59,rfl⟩
 clear hMade c17 e0
 have d17:=c172.cell
 with_reducible apply zdz
 refine wk2 ?_
 refine zbf _ rfl ?_ ?_ Try.func28 ?_ rfl (rref (h:=0) zdt (by omega) (by omega)) ?_
 focus rfl
 focus first | rfl | (go_simp; done) | (go_simp; rfl)
 focus rfl
 rintro s3 x3 W4 ⟨rfl,rfl,rfl⟩
 refine wk7 ?_
 have hge17:=hMade2.ge
 refine wk2 ?_
 refine zaj (za7 (v:=.int .u64 (pk 0 (seg 0))) (cs':=#[.int .u64 (0),.int .u64 ((pk 0 (seg 0))),.slice (some ⟨g0,0,none⟩) 3 3,.slice (some ⟨g3,0,none⟩) T T,.int .u64 (0),.int .u64 (0),.slice (some ⟨g6,0,none⟩) M M,.slice (some ⟨g9,0,none⟩) M M,.slice (some ⟨g15,0,none⟩) (M * K) (M * K)]) rfl rfl rfl rfl c172 (hoth _ (by omega)) (by kernel_rfl) (Nat.le_of_ble_eq_true rfl) (by simp [Value.cells,Value.oneCell']) rfl ?_)
 refine wk7 ?_
 have hMade3:=hMade2.row17 #[.int .u64 (0),.int .u64 ((pk 0 (seg 0))),.slice (some ⟨g0,0,none⟩) 3 3,.slice (some ⟨g3,0,none⟩) T T,.int .u64 (0),.int .u64 (0),.slice (some ⟨g6,0,none⟩) M M,.slice (some ⟨g9,0,none⟩) M M,.slice (some ⟨g15,0,none⟩) (M * K) (M * K)]
 have c173:=c172.row #[.int .u64 (0),.int .u64 ((pk 0 (seg 0))),.slice (some ⟨g0,0,none⟩) 3 3,.slice (some ⟨g3,0,none⟩) T T,.int .u64 (0),.int .u64 (0),.slice (some ⟨g6,0,none⟩) M M,.slice (some ⟨g9,0,none⟩) M M,.slice (some ⟨g15,0,none⟩) (M * K) (M * K)]
 generalize hW5 : World.setRow W4 g17 #[.int .u64 (0),.int .u64 ((pk 0 (seg 0))),.slice (some ⟨g0,0,none⟩) 3 3,.slice (some ⟨g3,0,none⟩) T T,.int .u64 (0),.int .u64 (0),.slice (some ⟨g6,0,none⟩) M M,.slice (some ⟨g9,0,none⟩) M M,.slice (some ⟨g15,0,none⟩) (M * K) (M * K)] = W5 at hMade3 c173 ⊢
 clear hW5 hMade2 c172
 clear d17
 iterate 2 (first
  | ((with_reducible refine zon ?_ ?_ (fun K hK=>?_)); (focus with_reducible rfl); (focus (intro ht; refine zb3 ?_ ht; (focus (first | (with_reducible apply zay); (focus decide) | (with_reducible apply zc4); (focus rfl); (focus rfl); (focus kernel_rfl) | exact zc5 rfl rfl rfl | exact zbp rfl rfl)))); go_simp; refine hK _ _ _ ?_; clear hK K)
  | ((with_reducible refine lst_off (i:=?_) (b:=?_) (d:=?_) ?_ ?_ ?_ ?_); rotate_left 3; (focus with_reducible rfl); (focus rfl); (focus (simp only [List.getElem?_toArray,List.getElem?_cons_succ,List.getElem?_cons_zero,Bool.not_true,Bool.not_false])); simp only [Act.put,List.setIfInBounds_toArray,List.set_cons_zero,List.set_cons_succ])
  | ((with_reducible refine lst_on (i:=?_) (b:=?_) (d:=?_) ?_ ?_ ?_ ?_ (fun K hK=>?_)); rotate_left 3; (focus with_reducible rfl); (focus rfl); (focus (simp only [List.getElem?_toArray,List.getElem?_cons_succ,List.getElem?_cons_zero])); (focus (intro ht; refine zb3 ?_ ht; (focus (first | (with_reducible apply zay); (focus decide) | (with_reducible apply zc4); (focus rfl); (focus rfl); (focus kernel_rfl) | exact zc5 rfl rfl rfl | exact zbp rfl rfl)))); go_simp; refine hK _ _ _ ?_; clear hK K)
  | (with_reducible apply zlk)
  | ((fail_if_success (with_reducible refine lst_any ?_)); first
  | (with_reducible apply zdz) | (with_reducible apply zlq) | (with_reducible apply j_ret) | (with_reducible apply j_skip) | (with_reducible apply j_exit) | (with_reducible apply zlo) | (with_reducible apply zdm)
  | ((with_reducible refine j_true ?_ ?_); (focus rfl)) | ((with_reducible refine zlp ?_ ?_); (focus rfl))
  | (with_reducible show Then _ _ _ _ _ _; simp only [Then])
  | (with_reducible show zct _ _ _ _ _ _; simp only [zct, ↓reduceIte,Nat.reduceEqDiff])))
 refine zlm (M:=RNewMid s3 k K T M w.heap.size w' g0 g3 g6 g9 g15 g17) ?_ ?_
 focus
  have e0:=(b0.below hMade3.below l0).cell
  have d17:=c173.cell
  rcases hk13 with rfl | rfl
  ·skip
   refine wk2 ?_
   refine zbf _ rfl ?_ ?_ Try.func28 ?_ rfl (rref (h:=0) zdt (by omega) (by omega)) ?_
   focus rfl
   focus first | rfl | (go_simp; done) | (go_simp; rfl)
   focus rfl
   rintro s3 x3 W6 ⟨rfl,rfl,rfl⟩
   refine wk7 ?_
   refine wk2 ?_
   refine zaj (za7 (v:=.int .u64 (pk 0 (seg 0))) (cs':=#[.int .u64 (0),.int .u64 ((pk 0 (seg 0))),.slice (some ⟨g0,0,none⟩) 3 3,.slice (some ⟨g3,0,none⟩) T T,.int .u64 ((pk 0 (seg 0))),.int .u64 (0),.slice (some ⟨g6,0,none⟩) M M,.slice (some ⟨g9,0,none⟩) M M,.slice (some ⟨g15,0,none⟩) (M * K) (M * K)]) rfl rfl rfl rfl c173 (hoth _ (by omega)) (by kernel_rfl) (Nat.le_of_ble_eq_true rfl) (by simp [Value.cells,Value.oneCell']) rfl ?_)
   refine wk7 ?_
   have hMade4:=hMade3.row17 #[.int .u64 (0),.int .u64 ((pk 0 (seg 0))),.slice (some ⟨g0,0,none⟩) 3 3,.slice (some ⟨g3,0,none⟩) T T,.int .u64 ((pk 0 (seg 0))),.int .u64 (0),.slice (some ⟨g6,0,none⟩) M M,.slice (some ⟨g9,0,none⟩) M M,.slice (some ⟨g15,0,none⟩) (M * K) (M * K)]
   have c174:=c173.row #[.int .u64 (0),.int .u64 ((pk 0 (seg 0))),.slice (some ⟨g0,0,none⟩) 3 3,.slice (some ⟨g3,0,none⟩) T T,.int .u64 ((pk 0 (seg 0))),.int .u64 (0),.slice (some ⟨g6,0,none⟩) M M,.slice (some ⟨g9,0,none⟩) M M,.slice (some ⟨g15,0,none⟩) (M * K) (M * K)]
   generalize hW7 : World.setRow W6 g17 #[.int .u64 (0),.int .u64 ((pk 0 (seg 0))),.slice (some ⟨g0,0,none⟩) 3 3,.slice (some ⟨g3,0,none⟩) T T,.int .u64 ((pk 0 (seg 0))),.int .u64 (0),.slice (some ⟨g6,0,none⟩) M M,.slice (some ⟨g9,0,none⟩) M M,.slice (some ⟨g15,0,none⟩) (M * K) (M * K)] = W7 at hMade4 c174 ⊢
   clear hW7 hMade3 c173
   clear d17
   have d17:=c174.cell
   refine wk2 ?_
   refine zaj (za7 (v:=.int .u64 (pk 0 (seg 0))) (cs':=#[.int .u64 (0),.int .u64 ((pk 0 (seg 0))),.slice (some ⟨g0,0,none⟩) 3 3,.slice (some ⟨g3,0,none⟩) T T,.int .u64 ((pk 0 (seg 0))),.int .u64 ((pk 0 (seg 0))),.slice (some ⟨g6,0,none⟩) M M,.slice (some ⟨g9,0,none⟩) M M,.slice (some ⟨g15,0,none⟩) (M * K) (M * K)]) rfl rfl rfl rfl c174 (hoth _ (by omega)) (by kernel_rfl) (Nat.le_of_ble_eq_true rfl) (by simp [Value.cells,Value.oneCell']) rfl ?_)
   refine wk7 ?_
   have hMade5:=hMade4.row17 #[.int .u64 (0),.int .u64 ((pk 0 (seg 0))),.slice (some ⟨g0,0,none⟩) 3 3,.slice (some ⟨g3,0,none⟩) T T,.int .u64 ((pk 0 (seg 0))),.int .u64 ((pk 0 (seg 0))),.slice (some ⟨g6,0,none⟩) M M,.slice (some ⟨g9,0,none⟩) M M,.slice (some ⟨g15,0,none⟩) (M * K) (M * K)]
   have c175:=c174.row #[.int .u64 (0),.int .u64 ((pk 0 (seg 0))),.slice (some ⟨g0,0,none⟩) 3 3,.slice (some ⟨g3,0,none⟩) T T,.int .u64 ((pk 0 (seg 0))),.int .u64 ((pk 0 (seg 0))),.slice (some ⟨g6,0,none⟩) M M,.slice (some ⟨g9,0,none⟩) M M,.slice (some ⟨g15,0,none⟩) (M * K) (M * K)]
   generalize hW8 : World.setRow W7 g17 #[.int .u64 (0),.int .u64 ((pk 0 (seg 0))),.slice (some ⟨g0,0,none⟩) 3 3,.slice (some ⟨g3,0,none⟩) T T,.int .u64 ((pk 0 (seg 0))),.int .u64 ((pk 0 (seg 0))),.slice (some ⟨g6,0,none⟩) M M,.slice (some ⟨g9,0,none⟩) M M,.slice (some ⟨g15,0,none⟩) (M * K) (M * K)] = W8 at hMade5 c175 ⊢
   clear hW8 hMade4 c174
   clear d17
   have d17:=c175.cell
   refine wk2 ?_
   refine zbf _ rfl ?_ ?_ Try.func28 ?_ rfl (rref (h:=1) zdt (by omega) (by omega)) ?_
   focus rfl
   focus first | rfl | (go_simp; done) | (go_simp; rfl)
   focus rfl
   rintro s3 x3 W9 ⟨rfl,rfl,rfl⟩
   refine wk7 ?_
   refine wk2 ?_
   refine zaj (za7 (v:=.int .u64 (pk 0 (seg 1))) (cs':=#[.int .u64 (0),.int .u64 ((pk 0 (seg 1))),.slice (some ⟨g0,0,none⟩) 3 3,.slice (some ⟨g3,0,none⟩) T T,.int .u64 ((pk 0 (seg 0))),.int .u64 ((pk 0 (seg 0))),.slice (some ⟨g6,0,none⟩) M M,.slice (some ⟨g9,0,none⟩) M M,.slice (some ⟨g15,0,none⟩) (M * K) (M * K)]) rfl rfl rfl rfl c175 (hoth _ (by omega)) (by kernel_rfl) (Nat.le_of_ble_eq_true rfl) (by simp [Value.cells,Value.oneCell']) rfl ?_)
   refine wk7 ?_
   have hMade6:=hMade5.row17 #[.int .u64 (0),.int .u64 ((pk 0 (seg 1))),.slice (some ⟨g0,0,none⟩) 3 3,.slice (some ⟨g3,0,none⟩) T T,.int .u64 ((pk 0 (seg 0))),.int .u64 ((pk 0 (seg 0))),.slice (some ⟨g6,0,none⟩) M M,.slice (some ⟨g9,0,none⟩) M M,.slice (some ⟨g15,0,none⟩) (M * K) (M * K)]
   have c176:=c175.row #[.int .u64 (0),.int .u64 ((pk 0 (seg 1))),.slice (some ⟨g0,0,none⟩) 3 3,.slice (some ⟨g3,0,none⟩) T T,.int .u64 ((pk 0 (seg 0))),.int .u64 ((pk 0 (seg 0))),.slice (some ⟨g6,0,none⟩) M M,.slice (some ⟨g9,0,none⟩) M M,.slice (some ⟨g15,0,none⟩) (M * K) (M * K)]
   generalize hW10 : World.setRow W9 g17 #[.int .u64 (0),.int .u64 ((pk 0 (seg 1))),.slice (some ⟨g0,0,none⟩) 3 3,.slice (some ⟨g3,0,none⟩) T T,.int .u64 ((pk 0 (seg 0))),.int .u64 ((pk 0 (seg 0))),.slice (some ⟨g6,0,none⟩) M M,.slice (some ⟨g9,0,none⟩) M M,.slice (some ⟨g15,0,none⟩) (M * K) (M * K)] = W10 at hMade6 c176 ⊢
   clear hW10 hMade5 c175
   refine wk2 ?_
   exact ⟨rfl,1,_,.inl ⟨rfl,rfl,rfl⟩,hMade6,c176,_,_,_,_,_,_,_,_,_,_,_,_,_,_,_,_,_,_,_,_,_,_,_,_,_,_,_,_,_,_,_,_,_,_,_,_,_,_,_,_,_,_,_,_,_,_,_,_,_,_,_,_,_,_,_,_,_,rfl⟩
  ·skip
   refine wk2 ?_
   exact ⟨rfl,0,0,.inr ⟨rfl,rfl,rfl⟩,hMade3,c173,_,_,_,_,_,_,_,_,_,_,_,_,_,_,_,_,_,_,_,_,_,_,_,_,_,_,_,_,_,_,_,_,_,_,_,_,_,_,_,_,_,_,_,_,_,_,_,_,_,_,_,_,_,_,_,_,_,rfl⟩
 clear hMade3 c173
 rintro s2 a W3 ⟨rfl,first,hd,hfirst,hMade2,c172,v0,v4,v5,v6,v7,v8,v9,v10,v11,v12,v13,v14,v15,v16,v17,v18,v19,v20,v21,v22,v23,v24,v25,v26,v27,v28,v29,v30,v31,v32,v33,v34,v35,v36,v37,v38,v39,v40,v41,v42,v43,v44,v45,v46,v47,v48,v49,v50,v51,v52,v53,v54,v55,v56,v57,v58,v59,rfl⟩
 have hf1 : first <= 1:=by omega
 with_reducible apply zdz
 with_reducible apply zdz
 refine wk2 ?_
 refine j_loop (I:=RNewInv s2 K T M w.heap.size first hd w' g0 g3 g6 g9 g15 g17) (μ:=RNewMu M) ?_ ?_
 focus exact ⟨rfl,0,by omega,(lk_zero first M).symm ▸ hMade2,c172,_,_,_,_,_,_,_,_,_,_,_,_,_,_,_,_,_,_,_,_,_,_,_,_,_,_,_,_,_,_,_,_,_,_,_,_,_,_,_,_,_,_,_,_,_,_,_,_,_,_,_,_,_,_,_,_,rfl⟩
 clear hMade2 c172
 rintro s3 a W ⟨rfl,h0,hh2,hM6,c17,v0,v5,v6,v7,v8,v9,v10,v11,v12,v13,v14,v15,v16,v17,v18,v19,v20,v21,v22,v23,v24,v25,v26,v27,v28,v29,v30,v31,v32,v33,v34,v35,v36,v37,v38,v39,v40,v41,v42,v43,v44,v45,v46,v47,v48,v49,v50,v51,v52,v53,v54,v55,v56,v57,v58,v59,rfl⟩
 have d17:=c17.cell
 have e0:=(b0.below hM6.below l0).cell
 have hw1 : IntKind.i64.wrap ((h0 : Int) + 1) = (h0 : Int) + 1:=by simp [IntKind.wrap,IntKind.bits,IntKind.signed]; omega
 by_cases c : h0 < M - 1
 ·have c1 : decide ((h0 : Int) + 1 < (M : Int)) = true:=decide_eq_true (by omega)
  by_cases hset : first <= h0
  ·have l17:=c17.lt
   have l6:=hM6.b6.lt
   have hgs:=hM6.n6
   have hB:=hM6.ge
   have hlk : h0 < (lk first h0 M).length:=by rw [lk_len]; omega
   have hc6 : W.cell? ⟨g6,h0,none⟩ = some (.int .u64 ((lk first h0 M)[h0]'hlk)):=by
    rw [hM6.b6.cell,List.getElem?_toArray]
    unfold U
    rw [List.getElem?_map,List.getElem?_eq_getElem hlk]
    rfl
   have hf6:=hM6.b6.frozen h0
   have hin : (0 : Int) <= (h0 : Int) /\ (h0 : Int) < (M : Int):=by omega
   have hin2 : h0 < M:=by omega
   by_cases h3 : 0 < h0
   ·have c3 : decide ((h0 : Int) > 0) = true:=decide_eq_true (by omega)
    refine wk2 ?_
    refine zbe [0,1,0,0,8,24,63,127] [0,1,2,3,4,5,6,7] (Below W.heap.size W) rfl (by decide +kernel) (by exact wk5) ?_ ?_
    focus exact (Below.refl _ _).drew
    refine wk4 ?_
    refine zfl (o:=?_) (args:=?_) (ats:=?_) _ ?_ ?_ ?_ ?_ Try.func28 ?_ rfl (rref (h:=(h0 : Int) + 1) zdt (by omega) (by omega)) ?_
    rotate_left 3
    focus rfl
    focus rfl
    focus rfl
    focus first | rfl | (go_simp; done) | (go_simp; rfl)
    focus rfl
    rintro s3 x3 W6 ⟨rfl,rfl,rfl⟩
    refine ⟨_,(Below.refl W.heap.size W).drew,fun _=>rfl,?_⟩
    refine wk7 ?_
    refine wk4 ?_
    refine dl_act (o:=?_) ?_ ?_ ?_ ?_ (fun K hK=>?_)
    rotate_left 1
    focus rfl
    focus rfl
    focus rfl
    focus exact fun ht=>zcy rfl rfl (show W.drew.cell? _ = _ from hc6) (hoth _ (by first | omega | (dsimp only <;> omega))) ht
    go_simp
    refine hK _ _ _ ⟨fun _=>True,trivial,fun h=>absurd h (by decide +kernel),?_⟩
    clear hK K
    have hM7:=hM6.drew.link h0 (pk 0 (seg ((h0 : Int) + 1)))
    rw [lk_step hset hin2] at hM7
    have c18:=c17.drew.far (p:=⟨g6,h0,none⟩) (Ne.symm hgs.2.2.2.2.1) (.int .u64 (pk 0 (seg ((h0 : Int) + 1))))
    refine dl_nil ?_
    refine wk2 ?_
    exact ⟨⟨rfl,h0 + 1,by omega,hM7,c18,_,_,_,_,_,_,_,_,_,_,_,_,_,_,_,_,_,_,_,_,_,_,_,_,_,_,_,_,_,_,_,_,_,_,_,_,_,_,_,_,_,_,_,_,_,_,_,_,_,_,_,_,_,_,_,_,rfl⟩,by show M - ((h0 : Int) + 1).toNat < M - ((h0 : Int)).toNat; omega⟩
   ·have c3 : decide ((h0 : Int) > 0) = false:=decide_eq_false (by omega)
    obtain ⟨rfl,rfl,rfl⟩ : k = 3 /\ first = 0 /\ hd = 0:=by
     rcases hfirst with ⟨rfl,rfl,rfl⟩ | h
     ·omega
     ·exact h
    refine wk2 ?_
    refine zbe [0,1,0,0,8,24,63,127] [0,1,2,3,4,5,6,7] (Below W.heap.size W) rfl (by decide +kernel) (by exact wk5) ?_ ?_
    focus exact (Below.refl _ _).drew
    refine wk4 ?_
    refine zfl (o:=?_) (args:=?_) (ats:=?_) _ ?_ ?_ ?_ ?_ Try.func28 ?_ rfl (rref (h:=(h0 : Int) + 1) zdt (by omega) (by omega)) ?_
    rotate_left 3
    focus rfl
    focus rfl
    focus rfl
    focus first | rfl | (go_simp; done) | (go_simp; rfl)
    focus rfl
    rintro s3 x3 W6 ⟨rfl,rfl,rfl⟩
    refine ⟨_,(Below.refl W.heap.size W).drew,fun _=>rfl,?_⟩
    refine wk7 ?_
    refine wk4 ?_
    refine dl_act (o:=?_) ?_ ?_ ?_ ?_ (fun K hK=>?_)
    rotate_left 1
    focus rfl
    focus rfl
    focus rfl
    focus exact fun ht=>zcy rfl rfl (show W.drew.cell? _ = _ from hc6) (hoth _ (by first | omega | (dsimp only <;> omega))) ht
    go_simp
    refine hK _ _ _ ⟨fun _=>True,trivial,fun h=>absurd h (by decide +kernel),?_⟩
    clear hK K
    have hM7:=hM6.drew.link h0 (pk 0 (seg ((h0 : Int) + 1)))
    rw [lk_step hset hin2] at hM7
    have c18:=c17.drew.far (p:=⟨g6,h0,none⟩) (Ne.symm hgs.2.2.2.2.1) (.int .u64 (pk 0 (seg ((h0 : Int) + 1))))
    refine dl_nil ?_
    refine wk2 ?_
    exact ⟨⟨rfl,h0 + 1,by omega,hM7,c18,_,_,_,_,_,_,_,_,_,_,_,_,_,_,_,_,_,_,_,_,_,_,_,_,_,_,_,_,_,_,_,_,_,_,_,_,_,_,_,_,_,_,_,_,_,_,_,_,_,_,_,_,_,_,_,_,rfl⟩,by show M - ((h0 : Int) + 1).toNat < M - ((h0 : Int)).toNat; omega⟩
  ·have c3 : decide ((h0 : Int) > 0) = false:=decide_eq_false (by omega)
   have hz : h0 = 0:=by omega
   obtain ⟨rfl,rfl,rfl⟩ : k = 1 /\ first = 1 /\ hd = pk 0 (seg 0):=by
    rcases hfirst with h | ⟨rfl,rfl,rfl⟩
    ·exact h
    ·omega
   have hM7 : Made w'.heap.size w' W K T M g0 g3 g6 g9 g15 g17 (lk 1 (h0 + 1) M):=by
    have e : lk 1 (h0 + 1) M = lk 1 h0 M:=by subst hz; exact lk_one M
    rw [e]; exact hM6
   have c4 : decide (0 < h0) = false:=decide_eq_false (by omega)
   clear hset hz hf1
   refine wk2 ?_
   exact ⟨⟨rfl,h0 + 1,by omega,hM7,c17,_,_,_,_,_,_,_,_,_,_,_,_,_,_,_,_,_,_,_,_,_,_,_,_,_,_,_,_,_,_,_,_,_,_,_,_,_,_,_,_,_,_,_,_,_,_,_,_,_,_,_,_,_,_,_,_,rfl⟩,by show M - ((h0 : Int) + 1).toNat < M - ((h0 : Int)).toNat; omega⟩
 ·have c1 : decide ((h0 : Int) + 1 < (M : Int)) = false:=decide_eq_false (by omega)
  have hh : h0 = M - 1:=by omega
  subst hh
  refine wk2 ?_
  refine zaj (za7 (v:=.agg #[.int .u64 (0),.int .u64 ((pk 0 (seg (first : Int)))),.slice (some ⟨g0,0,none⟩) 3 3,.slice (some ⟨g3,0,none⟩) T T,.int .u64 (hd),.int .u64 (hd),.slice (some ⟨g6,0,none⟩) M M,.slice (some ⟨g9,0,none⟩) M M,.slice (some ⟨g15,0,none⟩) (M * K) (M * K)]) (cs':=#[.int .u64 (0),.int .u64 ((pk 0 (seg (first : Int)))),.slice (some ⟨g0,0,none⟩) 3 3,.slice (some ⟨g3,0,none⟩) T T,.int .u64 (hd),.int .u64 (hd),.slice (some ⟨g6,0,none⟩) M M,.slice (some ⟨g9,0,none⟩) M M,.slice (some ⟨g15,0,none⟩) (M * K) (M * K)]) rfl rfl rfl rfl (b1.below hM6.below l1) (hoth _ (by omega)) (by kernel_rfl) (Nat.le_of_ble_eq_true rfl) (by simp [Value.cells,Value.oneCell']) rfl ?_)
  refine wk7 ?_
  have hfin:=hM6.last (hb0.trans (hM6.below.mono hsz0)) (show w.heap.size <= w.heap.size + 1 by omega) l1 #[.int .u64 (0),.int .u64 ((pk 0 (seg (first : Int)))),.slice (some ⟨g0,0,none⟩) 3 3,.slice (some ⟨g3,0,none⟩) T T,.int .u64 (hd),.int .u64 (hd),.slice (some ⟨g6,0,none⟩) M M,.slice (some ⟨g9,0,none⟩) M M,.slice (some ⟨g15,0,none⟩) (M * K) (M * K)]
  have f1:=(b1.below hM6.below l1).row #[.int .u64 (0),.int .u64 ((pk 0 (seg (first : Int)))),.slice (some ⟨g0,0,none⟩) 3 3,.slice (some ⟨g3,0,none⟩) T T,.int .u64 (hd),.int .u64 (hd),.slice (some ⟨g6,0,none⟩) M M,.slice (some ⟨g9,0,none⟩) M M,.slice (some ⟨g15,0,none⟩) (M * K) (M * K)]
  generalize hW8 : W.setRow (w.heap.size + 1) #[.int .u64 (0),.int .u64 ((pk 0 (seg (first : Int)))),.slice (some ⟨g0,0,none⟩) 3 3,.slice (some ⟨g3,0,none⟩) T T,.int .u64 (hd),.int .u64 (hd),.slice (some ⟨g6,0,none⟩) M M,.slice (some ⟨g9,0,none⟩) M M,.slice (some ⟨g15,0,none⟩) (M * K) (M * K)] = W8 at hfin f1 ⊢
  have d1:=f1.cell
  refine wk2 ?_
  refine zb0 (.agg #[.int .u64 (0),.int .u64 ((pk 0 (seg (first : Int)))),.slice (some ⟨g0,0,none⟩) 3 3,.slice (some ⟨g3,0,none⟩) T T,.int .u64 (hd),.int .u64 (hd),.slice (some ⟨g6,0,none⟩) M M,.slice (some ⟨g9,0,none⟩) M M,.slice (some ⟨g15,0,none⟩) (M * K) (M * K)]) rfl (by simp [results,go_sem,d1]) ⟨rfl,hfin.below,_,rfl,?_,fun g hg=>hfin.off hg _ _ _ _⟩
  have hnm : zj7 k K T M = ⟨0,pk 0 (seg (first : Int)),zs 3,zs T,hd,hd,lk first (M - 1) M,zs M,zs (M * K)⟩:=by
   rcases hfirst with ⟨rfl,rfl,rfl⟩ | ⟨rfl,rfl,rfl⟩ <;> rfl
  rw [hnm]
  exact hfin.memC hT2 hM2 hMK _ _ _ _
end
end Go.Proofs.Ytonhfgjofgbcdaa.Rf
