/- The texts DrPa2, DrPa3 of this claim's proof; what is proved stands in the last one. -/
import Derived.Test.YtonhfgjofgbcdaaPrt30
set_option linter.unusedSimpArgs false
set_option linter.unusedVariables false
namespace Go.Proofs.Ytonhfgjofgbcdaa.Dr
set_option linter.unusedSimpArgs false
set_option linter.unusedVariables false
set_option maxRecDepth 20000
open Go Go.Conc Go.RowKit Go.Proofs.Ytonhfgjofgbcdaa.Jay Go.Proofs.Ytonhfgjofgbcdaa.Pl
open Go.Proofs.Ytonhfgjofgbcdaa.St Go.Proofs.Ytonhfgjofgbcdaa.Sx Go.Proofs.Ytonhfgjofgbcdaa.Rf
set_option maxRecDepth 20000
set_option linter.unusedVariables false
set_option linter.unusedSimpArgs false
section
variable {γ : Type} {X : Turns γ} {Stop : γ → Frame → List Frame → World → Prop} {cs₀ : List Frame}
def Came1 (w : World) (k K T Mn : Int) (l : List (List Ac)) (picks : List (Int × Int)) (code : Int) (arr : Array Value) : Prop :=
  (Okw k K T Mn l picks ∧ code = 0 ∧ ∃ (vS vC : Value) (cE : Array Value),arr = #[vS,vC] ++ cE ∧ Rp.Sps w w.heap.size vS (rawRun k K T Mn l picks).steps ∧ Sl w w.heap.size 7 vC (callsOf (rawRun k K T Mn l picks).steps).length ((callsOf (rawRun k K T Mn l picks).steps).flatMap Rc.cells) ∧ MemC w w.heap.size (rawRun k K T Mn l picks).mem cE ∧ (rawRun k K T Mn l picks).mem.small) ∨
    (¬ Okw k K T Mn l picks ∧ code = 1 ∧ arr = zTr.toArray)
theorem came_of {s s' : γ} {W w : World} {k K T Mn : Int} {l : List (List Ac)} {picks : List (Int × Int)} {v : Value} (h : RawPost X s W k K T Mn l picks s' (.back v) w) : ∃ (code : Int) (arr : Array Value),v = .tuple #[.agg arr,.int .i64 code] ∧ Came1 w k K T Mn l picks code arr ∧ ∀ g,g < W.heap.size → Off g arr := by
  obtain ⟨_,_,⟨hok,vS,vC,cE,e,a1,a2,a3,a4,a5⟩ | ⟨hno,e⟩⟩ := h
  · cases e
    refine ⟨0,_,rfl,.inl ⟨hok,rfl,vS,vC,cE,rfl,a1,a2,a3,a4⟩,fun g hg u hu => ?_⟩
    obtain ⟨o1,o2,o3⟩ := a5 g hg
    rw [Array.toList_append] at hu
    rcases List.mem_append.1 hu with hu | hu
    · simp only [List.mem_cons,List.not_mem_nil,or_false] at hu
      rcases hu with rfl | rfl
      · exact o1
      · exact o2
    · exact o3 u hu
  · cases e
    refine ⟨1,_,rfl,.inr ⟨hno,rfl,rfl⟩,fun g _ u hu b o n c e => ?_⟩
    subst e
    simp [zTr] at hu
theorem Came1.chg {S : Nat → Prop} {w w' : World} {k K T Mn : Int} {l : List (List Ac)} {picks : List (Int × Int)} {code : Int} {arr : Array Value} (h : Came1 w k K T Mn l picks code arr) (hc : Chg S w w') (ho : ∀ g,S g → Off g arr) : Came1 w' k K T Mn l picks code arr := by
  rcases h with ⟨h1,h2,vS,vC,cE,rfl,a1,a2,a3,a4⟩ | h
  · refine .inl ⟨h1,h2,vS,vC,cE,rfl,(Sl.chg a1 (Nat.le_refl _) hc fun g hg => ho g hg _ (by simp)).more hc.size,(Sl.chg a2 (Nat.le_refl _) hc fun g hg => ho g hg _ (by simp)).more hc.size,(MemC.chg a3 (Nat.le_refl _) hc fun g hg u hu => ho g hg u (by simp [hu])).more hc.size,a4⟩
  · exact .inr h
theorem Came1.eleven {w : World} {k K T Mn : Int} {l : List (List Ac)} {picks : List (Int × Int)} {code : Int} {arr : Array Value} (h : Came1 w k K T Mn l picks code arr) : ∃ y0 y1 y2 y3 y4 y5 y6 y7 y8 y9 y10,arr = #[y0,y1,y2,y3,y4,y5,y6,y7,y8,y9,y10] ∧ ysA [y0,y1,y2,y3,y4,y5,y6,y7,y8,y9,y10] := by
  rcases h with ⟨h1,h2,vS,vC,cE,rfl,a1,a2,a3,a4⟩ | ⟨_,_,rfl⟩
  · obtain ⟨v2,v3,v6,v7,v8,rfl,b1,b2,b3,b4,b5,_⟩ := mem_cells a3
    obtain ⟨_,_,rfl,_⟩ := Sl.form a1
    obtain ⟨_,_,rfl,_⟩ := Sl.form a2
    exact ⟨_,_,_,_,_,_,_,_,_,_,_,rfl,rfl,rfl,rfl,rfl,b1,b2,rfl,rfl,b3,b4,b5,trivial⟩
  · exact ⟨_,_,_,_,_,_,_,_,_,_,_,rfl,rfl,rfl,rfl,rfl,rfl,rfl,rfl,rfl,rfl,rfl,rfl,trivial⟩
theorem paAfter {s : γ} {W w : World} {k K T Mn : Int} {l : List (List Ac)} {picks : List (Int × Int)} {j : Nat} {AP : Option Addr} {cP gA gC : Nat} {code code2 : Int} {arr arr2 : Array Value} {ρs : Env} {q0 qC qA : Seg} (hb : Below W.heap.size W w) (hth : X.there s w) (hbk : ∀ w',Below W.heap.size W w' → X.there s w' → EndsT Try.prog X Stop 7 cs₀ s (.bool true) w') (hpk : picks.length ≤ 1000)
    (h1 : Came1 w k K T Mn l (picks.take j) code arr) (h2 : Came1 w k K T Mn l picks code2 arr2) (hT : Blk w gA 52 arr) (hC : Blk w gC 36 #[.int .i64 k,.int .i64 K,.int .i64 T,.int .i64 Mn])
    (hq0 : q0.adr = AP ∧ q0.g < w.heap.size) (hqC : Whl qC gC) (hqA : Whl qA gA) (hsi : ρs.ints = [(picks.length : Int),(cP : Int),code]) (hsk : ρs.blks = [q0,qC,qA]) (hsp : ρs.perms = []) (hsl : ρs.xs.length = 123) (hsx : ρs.xs.getD 122 undef = .tuple #[.agg arr2,.int .i64 code2]) : Fr.reach Try.prog X Stop s cs₀ ρs pa4_p.frs w := by
  rcases h1 with ⟨hok,rfl,vS,vC,cE,rfl,a1,a2,a3,a4⟩ | ⟨hno,rfl,rfl⟩
  · rcases h2 with ⟨_,rfl,vS',vC',cF,rfl,b1,b2,b3,b4⟩ | ⟨hno,_⟩
    · obtain ⟨A1,c1,rfl,_,_⟩ := Sl.form a1
      obtain ⟨A2,c2,rfl,_,_⟩ := Sl.form b1
      rw [callsOf_len] at a2 b2
      obtain ⟨B1,d1,rfl,_,_⟩ := Sl.form a2
      obtain ⟨B2,d2,rfl,_,_⟩ := Sl.form b2
      obtain ⟨t1,t2⟩ := run_take (k := k) (K := K) (T := T) (Mn := Mn) l picks j
      exact paBoth hb hth hbk a1 a2 a3 a4 b1 b2 b3 t1 t2 (raw_law (k := k) (K := K) (T := T) (Mn := Mn) l (picks.take j) hok.1).1 hT hC hq0 hqC hqA hsi hsk hsp hsl hsx
    · exact absurd ((okw_take hpk j).1 hok) hno
  · rcases h2 with ⟨hok,_⟩ | ⟨_,rfl,rfl⟩
    · exact absurd ((okw_take hpk j).2 hok) hno
    · obtain ⟨g1,b1,o1,pre1,post1,cap1,ad1⟩ := qA
      obtain ⟨rfl,rfl,rfl,rfl⟩ : g1 = _ ∧ o1 = _ ∧ pre1 = _ ∧ post1 = _ := hqA
      obtain ⟨g2,b2,o2,pre2,post2,cap2,ad2⟩ := qC
      obtain ⟨rfl,rfl,rfl,rfl⟩ : g2 = _ ∧ o2 = _ ∧ pre2 = _ ∧ post2 = _ := hqC
      let ρ : Env := { ints := [(picks.length : Int),(cP : Int)],xs := ρs.xs,blks := [q0,⟨g2,b2,0,[],[],cap2,ad2⟩,⟨g1,b1,0,[],[],cap1,ad1⟩] }
      refine reach_conv (frs' := paN_in.frs) (ρ' := ρ) (conv_one (fr' := paN_in.frs.headD default) (fr := pa4_p.frs.headD default) rfl rfl hsp.symm ?_) ?_
      · show dens ρ (paN_in.frs.headD default).tmps = dens ρs (pa4_p.frs.headD default).tmps
        obtain ⟨si,sb,sx,sy,sk,sp⟩ := ρs
        dsimp only at hsi hsk hsx
        subst hsi hsk
        simp only [paN_in,pa4_p,List.headD_cons,dens,SV.den]
        rw [hsx]
        rfl
      have hr : Rep X s (ours ρ paN_in.heap) w ρ paN_in.heap paN_in.facts 0 w := by
        refine Rep.start hth (fun v hv => by cases hv) rfl ⟨⟨hq0.2,if_ro rfl cells_none,trivial,trivial,rfl⟩,⟨hC.lt,if_ro rfl cells_none,trivial,trivial,rfl⟩,⟨hT.lt,if_ro rfl (two_cells hT rfl rfl),trivial,trivial,rfl⟩,trivial⟩ ⟨⟨(fun e => nomatch e),(fun e => nomatch e),trivial⟩,⟨(fun e => nomatch e),trivial⟩,trivial,trivial⟩ (factsA_ok trivial) rfl
      refine sx_run 900 paN_run hr ⟨fun ρ1 w1 hx1 hr1 => ?_,trivial⟩
      have hb1 : Below w.heap.size w w1 := hr1.chg.below (fun k hk => absurd hk (ours_ro rfl k)) (Nat.le_refl _)
      exact sx_endE (v := _) paN_0_end rfl hr1.rep (hbk w1 (hb.trans (hb1.mono hb.size)) hr1.there)
theorem paFirst {s : γ} {W w : World} {k K T Mn : Int} {l : List (List Ac)} {picks : List (Int × Int)} {j : Nat} {AL AP : Option Addr} {cL cP gC : Nat} {ρs : Env} {q0 q1 qC : Seg} (hlm : l.length ≤ 5864062014805) (hbig : ∀ xs ∈ l,xs.length ≤ 8796093022207) (hpk : picks.length ≤ 1000) (hj : j ≤ picks.length)
    (hb : Below W.heap.size W w) (hth : X.there s w) (hback : ∀ s' v w',LawPost X s W s' (.back v) w' → X.there s' w' → EndsT Try.prog X Stop 7 cs₀ s' v w') (hL : Lls w w.heap.size (.slice AL l.length cL) l) (hP : Sl w w.heap.size 2 (.slice AP picks.length cP) picks.length (picks.flatMap pkC)) (hC : Blk w gC 36 #[.int .i64 k,.int .i64 K,.int .i64 T,.int .i64 Mn])
    (h0 : q0.adr = AL ∧ q0.g < w.heap.size) (h1 : q1.adr = AP ∧ q1.g < w.heap.size) (h2 : Whl qC gC) (hsi : ρs.ints = [(j : Int),(l.length : Int),(cL : Int),(picks.length : Int),(cP : Int)]) (hsb : ρs.bools = []) (hsl : ρs.xs.length = 123) (hsy : ρs.ys = []) (hsk : ρs.blks = [q0,q1,qC]) (hsp : ρs.perms = []) : Fr.reach Try.prog X Stop s cs₀ ρs pa2.frs w := by
  have hml : maxLen = 9223372036854775807 := rfl
  have hcP : picks.length ≤ cP := by obtain ⟨_,_,e,h1,h2⟩ := Sl.form hP; cases e; exact h1
  obtain ⟨g2,b2,o2,pre2,post2,cap2,ad2⟩ := qC
  obtain ⟨rfl,rfl,rfl,rfl⟩ : g2 = _ ∧ o2 = _ ∧ pre2 = _ ∧ post2 = _ := h2
  obtain ⟨si,sb,sx,sy,sk,sp⟩ := ρs
  dsimp only at hsi hsb hsl hsy hsk hsp
  subst hsi hsb hsy hsk hsp
  refine reach_grow (L := ⟨5,0,123,0,3⟩) (ai := [k,K,T,Mn]) (ab := []) (ax := []) (ay := []) (ak := []) (by simp [Env.lens,hsl]) (by kernel_rfl) ?_
  generalize hρ : Env.grow _ _ _ _ _ _ = ρ
  have hi0 : ρ.ints = [(j : Int),(l.length : Int),(cL : Int),(picks.length : Int),(cP : Int),k,K,T,Mn] := by rw [← hρ]; rfl
  have hx0 : ρ.xs.length = 123 := by rw [← hρ]; simpa [Env.grow] using hsl
  have hy0 : ρ.ys = [] := by rw [← hρ]; rfl
  have hbo0 : ρ.bools = [] := by rw [← hρ]; rfl
  have hk0 : ρ.blks = [q0,q1,⟨g2,b2,0,[],[],cap2,ad2⟩] := by rw [← hρ]; rfl
  have hr : Rep X s (ours ρ pa2.heap) w ρ pa2.heap pa2.facts 0 w := by
    refine Rep.start hth (by rw [hy0]; intro v hv; cases hv) (by rw [hk0]; rfl) ⟨⟨?_,if_ro rfl cells_none,trivial,trivial,rfl⟩,⟨?_,if_ro rfl cells_none,trivial,trivial,rfl⟩,⟨?_,if_ro rfl ?_,trivial,trivial,rfl⟩,trivial⟩ ⟨⟨(fun e => nomatch e),(fun e => nomatch e),trivial⟩,⟨(fun e => nomatch e),trivial⟩,trivial,trivial⟩ (factsA_ok ⟨?_,?_,trivial⟩) (by rw [← hρ]; rfl)
    all_goals subst hρ
    · exact h0.2
    · exact h1.2
    · exact hC.lt
    · exact cells_blk hC rfl rfl
    · exact decide_eq_true (by show (0 : Int) ≤ (j : Int); omega)
    · exact decide_eq_true (by show (j : Int) ≤ (((cP : Int)).toNat : Int); omega)
  clear hρ
  have hL0 : ρ.lens = ⟨9,0,123,0,3⟩ := by simp only [Env.lens,hi0,hbo0,hx0,hy0,hk0]; rfl
  have hlt : (picks.take j).length = j := by rw [List.length_take]; omega
  let Post : World → γ → Came → World → Prop := fun w1 => RawPost X s w1 k K T Mn l (picks.take j)
  have HJ : ∀ (args : List SV) (h1' : List HB) (ρ' : Env) (w' : World),args = pa3a_args → Ext ρ ρ' → Rep X s (ours ρ pa2.heap) w ρ' h1' pa2.facts 0 w' → Jdo Try.prog X 20 (dens ρ' args).toArray s w' (Post w') := by
    intro args h1' ρ' w' ha hx' hr'
    subst ha
    have hb' : Below w.heap.size w w' := hr'.chg.below (fun k hk => absurd hk (ours_ro rfl k)) (Nat.le_refl _)
    have hL1 : Lls w' w'.heap.size (.slice AL l.length cL) l := by
      obtain ⟨vs,a1,a2,a3⟩ := hL.below hb'
      exact ⟨vs,a1,a2.more hb'.size,fun i u hu => by obtain ⟨xs,b1,b2⟩ := a3 i u hu; exact ⟨xs,b1,Sl.more b2 hb'.size⟩⟩
    have hP1 : Sl w' w'.heap.size 2 (.slice AP (picks.take j).length cP) (picks.take j).length ((picks.take j).flatMap pkC) := by
      have := (Sl.below (sl_take pkC_len hP hj) hb').more hb'.size
      rwa [hlt] at this ⊢
    have hraw := raw_ok (X := X) (s := s) (k := k) (K := K) (T := T) (Mn := Mn) (picks := picks.take j) hL1 hP1 (Nat.lt_of_le_of_lt (Nat.zero_le _) (Nat.lt_of_lt_of_le hC.lt hb'.size)) hlm hbig
    rw [hlt] at hraw
    rwa [show (dens ρ' pa3a_args).toArray = #[cfg k K T Mn,.slice AL l.length cL,.slice AP j cP] by
      show #[Value.agg #[.int .i64 (ρ'.ints.getD 5 0),.int .i64 (ρ'.ints.getD 6 0),.int .i64 (ρ'.ints.getD 7 0),.int .i64 (ρ'.ints.getD 8 0)],.slice (ρ'.blks.getD 0 {}).adr (ρ'.ints.getD 1 0).toNat (ρ'.ints.getD 2 0).toNat,.slice (BA.den ρ' (.sh (.blk 1) (.lit 0) (.v 4) 2)) ((((ρ'.ints.getD 0 0).toNat : Nat) : Int) - 0).toNat ((((ρ'.ints.getD 4 0).toNat : Nat) : Int) - 0).toNat] = _
      rw [ba_zero]
      simp only [BA.den]
      rw [hx'.ints,hi0,hx'.blk (by rw [hk0]; exact Nat.zero_lt_succ _),hx'.blk (show 1 < ρ.blks.length by rw [hk0]; exact Nat.succ_lt_succ (Nat.zero_lt_succ _)),hk0]
      show #[Value.agg #[.int .i64 k,.int .i64 K,.int .i64 T,.int .i64 Mn],.slice q0.adr l.length cL,.slice q1.adr ((((j : Int).toNat : Nat) : Int) - 0).toNat ((((cP : Int).toNat : Nat) : Int) - 0).toNat] = _
      rw [toNat_sub,toNat_sub,h0.1,h1.1]
      rfl]
  have HB : ∀ (h1' : List HB) (n : Nat) (ρ' : Env) (w' : World),h1'.length = n → 3 ≤ n → heapOk ⟨9,0,123,0,n⟩ h1' = true → Ext ρ ρ' → Rep X s (ours ρ pa2.heap) w ρ' h1' pa2.facts 0 w' → ∀ s' v w'',Post w' s' (.back v) w'' → X.there s' w'' → ∃ (S' : Nat → Prop) (w₁ : World) (ai : List Int) (ab : List Bool) (ax ay : List Value),v = SV.den (ρ'.grow ai ab ax ay []) (.tup [.agg [.y 0,.y 1,.y 2,.y 3,.y 4,.y 5,.y 6,.y 7,.y 8,.y 9,.y 10],.int .i64 (.v 9)]) ∧ Rep X s' S' w₁ (ρ'.grow ai ab ax ay []) h1' pa2.facts 0 w'' ∧ ∀ ρ'' w3,Ext (ρ'.grow ai ab ax ay []) ρ'' → Rep X s' S' w₁ ρ'' pa4_in.heap pa4_in.facts 0 w3 → Fr.reach Try.prog X Stop s' cs₀ ρ'' pa4_in.frs w3 := by
    intro h1' n ρ' w' hn hn3 hok hx' hr' s' v w'' hp ht2
    obtain ⟨code,arr,ev,hcame,hoff⟩ := came_of hp
    obtain ⟨hb2,hoth,_⟩ := hp
    obtain ⟨y0,y1,y2,y3,y4,y5,y6,y7,y8,y9,y10,harr,hys⟩ := hcame.eleven
    have hlb' : ρ'.blks.length = n := hr'.len.trans hn
    have hi' : ρ'.ints = [(j : Int),(l.length : Int),(cL : Int),(picks.length : Int),(cP : Int),k,K,T,Mn] := hx'.ints.trans hi0
    have hy' : ρ'.ys = [] := hx'.ys.trans hy0
    have hL' : ρ'.lens = ⟨9,0,123,0,n⟩ := by
      simp only [Env.lens,hi',hx'.bools,hbo0,hx'.xs,hx0,hy',hlb']
      rfl
    have hb0 : Below w.heap.size w w' := hr'.chg.below (fun k hk => absurd hk (ours_ro rfl k)) (Nat.le_refl _)
    have hgi : (ρ'.grow [code] [] [] [y0,y1,y2,y3,y4,y5,y6,y7,y8,y9,y10] []).ints = [(j : Int),(l.length : Int),(cL : Int),(picks.length : Int),(cP : Int),k,K,T,Mn,code] := by simp only [Env.grow,hi']; rfl
    have hgy : (ρ'.grow [code] [] [] [y0,y1,y2,y3,y4,y5,y6,y7,y8,y9,y10] []).ys = [y0,y1,y2,y3,y4,y5,y6,y7,y8,y9,y10] := by simp only [Env.grow,hy']; rfl
    have hgx : (ρ'.grow [code] [] [] [y0,y1,y2,y3,y4,y5,y6,y7,y8,y9,y10] []).xs.length = 123 := by simp only [Env.grow,hx'.xs,List.append_nil]; exact hx0
    have hgb : (ρ'.grow [code] [] [] [y0,y1,y2,y3,y4,y5,y6,y7,y8,y9,y10] []).bools = [] := by simp only [Env.grow,hx'.bools,hbo0]; rfl
    have hgk : (ρ'.grow [code] [] [] [y0,y1,y2,y3,y4,y5,y6,y7,y8,y9,y10] []).blks = ρ'.blks := by simp only [Env.grow,List.append_nil]
    refine ⟨ours ρ' h1',w'',[code],[],[],[y0,y1,y2,y3,y4,y5,y6,y7,y8,y9,y10],?_,(hr'.foreign (F := fun _ => False) (Chg.of_below hb2) ht2 hoth (fun _ _ _ _ h => h)).grow_ hL' hok rfl _ _ _ _ (ysA_ok hys),fun ρ'' w3 hx'' hr'' => ?_⟩
    · generalize ρ'.grow _ _ _ _ _ = ρg at hgi hgy
      show _ = Value.tuple #[.agg #[ρg.ys.getD 0 .nilFunc,ρg.ys.getD 1 .nilFunc,ρg.ys.getD 2 .nilFunc,ρg.ys.getD 3 .nilFunc,ρg.ys.getD 4 .nilFunc,ρg.ys.getD 5 .nilFunc,ρg.ys.getD 6 .nilFunc,ρg.ys.getD 7 .nilFunc,ρg.ys.getD 8 .nilFunc,ρg.ys.getD 9 .nilFunc,ρg.ys.getD 10 .nilFunc],.int .i64 (ρg.ints.getD 9 0)]
      rw [hgi,hgy,ev,harr]
      rfl
    · generalize ρ'.grow _ _ _ _ _ = ρg at hgi hgy hgx hgb hgk hx''
      have hou1 : ∀ g,ours ρ' h1' g → w.heap.size ≤ g ∧ Off g arr := fun g hg => by
        obtain ⟨i,x,hx,hw,rfl⟩ := hg
        refine ⟨?_,hoff _ (hr'.bnd i (List.getElem?_eq_some_iff.1 hx).1)⟩
        rcases hr'.inS i x hx hw with h3 | h3
        · exact absurd h3 (ours_ro rfl _)
        · exact h3
      have hle2 : w.heap.size ≤ w''.heap.size := Nat.le_trans hb0.size hb2.size
      refine sx_run 900 pa4_run hr'' ⟨fun ρ4 w4 hx4 hr4 => ?_,trivial⟩
      have hb24 : Below w.heap.size w'' w4 := hr4.chg.below (fun g hg => (hou1 g hg).1) hle2
      have hb4 : Below w.heap.size w w4 := (hb0.trans (hb2.mono hb0.size)).trans hb24
      have hcame4 := hcame.chg hr4.chg fun g hg => (hou1 g hg).2
      have hi4 : ρ4.ints = [(j : Int),(l.length : Int),(cL : Int),(picks.length : Int),(cP : Int),k,K,T,Mn,code] := hx4.ints.trans (hx''.ints.trans hgi)
      have hy4 : ρ4.ys = [y0,y1,y2,y3,y4,y5,y6,y7,y8,y9,y10] := hx4.ys.trans (hx''.ys.trans hgy)
      have hl4 : ρ4.blks.length = 4 := hr4.len
      have hl'' : ρ''.blks.length = 4 := hr''.len
      have hk4 : ∀ i,i < 3 → ρ4.blks.getD i {} = ρ.blks.getD i {} := fun i hi => by
        rw [hx4.blk (by omega),hx''.blk (by rw [hgk]; omega),hgk,hx'.blk (by rw [hk0]; exact hi)]
      obtain ⟨wA,bA⟩ := laid_blk hr4 3 rfl rfl rfl rfl
      have bA' : Blk w4 (ρ4.blks.getD 3 {}).g 52 arr := by
        have h3 : Blk w4 (ρ4.blks.getD 3 {}).g 52 #[ρ4.ys.getD 0 .nilFunc,ρ4.ys.getD 1 .nilFunc,ρ4.ys.getD 2 .nilFunc,ρ4.ys.getD 3 .nilFunc,ρ4.ys.getD 4 .nilFunc,ρ4.ys.getD 5 .nilFunc,ρ4.ys.getD 6 .nilFunc,ρ4.ys.getD 7 .nilFunc,ρ4.ys.getD 8 .nilFunc,ρ4.ys.getD 9 .nilFunc,ρ4.ys.getD 10 .nilFunc] := bA
        rw [hy4] at h3
        rw [harr]
        exact h3
      show Fr.reach _ X Stop s' cs₀ ρ4 [pa4_fr] w4
      have hL4 : Lls w4 w4.heap.size (.slice AL l.length cL) l := by
        obtain ⟨vs,a1,a2,a3⟩ := hL.below hb4
        exact ⟨vs,a1,a2.more hb4.size,fun i u hu => by obtain ⟨xs,b1,b2⟩ := a3 i u hu; exact ⟨xs,b1,Sl.more b2 hb4.size⟩⟩
      have hraw := raw_ok (X := X) (s := s') (k := k) (K := K) (T := T) (Mn := Mn) (picks := picks) hL4 ((hP.below hb4).more hb4.size) (Nat.lt_of_le_of_lt (Nat.zero_le _) bA.lt) hlm hbig
      refine sx_call (fr := pa4_fr) (callers := []) (ht := rfl) pa4_at pa4_gd pa4_call pa4_fresh hr4 (Post := RawPost X s' w4 k K T Mn l picks) ?_ (fun s2 v2 w5 hp5 ht5 => ?_) (fun s' ch w' hp _ => by obtain ⟨_,_,⟨_,_,_,_,e,_⟩ | ⟨_,e⟩⟩ := hp <;> cases e)
      · rwa [show (dens ρ4 pa4_args).toArray = #[cfg k K T Mn,.slice AL l.length cL,.slice AP picks.length cP] by
          show #[Value.agg #[.int .i64 (ρ4.ints.getD 5 0),.int .i64 (ρ4.ints.getD 6 0),.int .i64 (ρ4.ints.getD 7 0),.int .i64 (ρ4.ints.getD 8 0)],.slice (ρ4.blks.getD 0 {}).adr (ρ4.ints.getD 1 0).toNat (ρ4.ints.getD 2 0).toNat,.slice (ρ4.blks.getD 1 {}).adr (ρ4.ints.getD 3 0).toNat (ρ4.ints.getD 4 0).toNat] = _
          rw [hi4,hk4 0 (by decide),hk4 1 (by decide),hk0]
          show #[cfg k K T Mn,.slice q0.adr l.length cL,.slice q1.adr picks.length cP] = _
          rw [h0.1,h1.1]]
      obtain ⟨code2,arr2,ev2,hcame2,_⟩ := came_of hp5
      obtain ⟨hb5,hoth5,_⟩ := hp5
      have hx4l : ρ4.xs.length = 123 := by rw [hx4.xs,hx''.xs]; exact hgx
      have hL5 : ρ4.lens = ⟨10,0,123,11,4⟩ := by
        have e : ρ4.bools = [] := hx4.bools.trans (hx''.bools.trans hgb)
        simp only [Env.lens,hi4,hy4,hl4,hx4l,e]
        rfl
      refine reach_res (ai := []) (ab := []) (ax := [v2]) (ay := []) (.x 123) hL5 (by kernel_rfl) ?_ ?_
      · show (ρ4.xs ++ [_]).getD 123 _ = _
        simp [List.getD_eq_getElem?_getD,List.getElem?_append_right,hx4l]
      rw [pa4_put]
      have hgx5 : (ρ4.grow [] [] [v2] [] []).xs.getD 123 undef = v2 := by
        show (ρ4.xs ++ [_]).getD 123 _ = _
        simp [List.getD_eq_getElem?_getD,List.getElem?_append_right,hx4l]
      have hgi5 : (ρ4.grow [] [] [v2] [] []).ints = [(j : Int),(l.length : Int),(cL : Int),(picks.length : Int),(cP : Int),k,K,T,Mn,code] := by simp only [Env.grow,List.append_nil]; exact hi4
      have hgk5 : ∀ i,(ρ4.grow [] [] [v2] [] []).blks.getD i {} = ρ4.blks.getD i {} := fun i => by simp only [Env.grow,List.append_nil]
      have hgp5 : (ρ4.grow [] [] [v2] [] []).perms = [] := (show ρ4.perms = [] from perms_nil hr4)
      generalize ρ4.grow _ _ _ _ _ = ρ5 at hgx5 hgi5 hgk5 hgp5 ⊢
      refine sx_frs (a := ⟨[pa4_frb],[],[],0⟩) pa4p_fits ?_
      have hb05 : Below w.heap.size w w5 := hb4.trans (hb5.mono hb4.size)
      refine paAfter (W := W) (cP := cP) (gA := (ρ4.blks.getD 3 {}).g) (gC := g2) (q0 := q1) (qC := ⟨g2,b2,0,[],[],cap2,ad2⟩) (qA := ρ4.blks.getD 3 {}) (hb.trans (hb05.mono hb.size)) ht5 (fun w' e1 e2 => hback s2 _ w' ⟨e1,fun i hi ho => hoth i (Nat.lt_of_lt_of_le hi (Nat.le_trans hb.size hb0.size)) (hoth5 i (Nat.lt_of_lt_of_le hi (Nat.le_trans hb.size hb4.size)) ho),rfl⟩ e2) hpk (hcame4.chg (S := fun _ => False) (Chg.of_below hb5) fun g hg => hg.elim) hcame2 (bA'.below hb5 bA'.lt) (hC.below hb05 hC.lt) ⟨h1.1,Nat.lt_of_lt_of_le h1.2 hb05.size⟩ ⟨rfl,rfl,rfl,rfl⟩ wA ?_ ?_ hgp5 ?_ ?_
      · show [ρ5.ints.getD 3 0,ρ5.ints.getD 4 0,ρ5.ints.getD 9 0] = _
        rw [hgi5]
        rfl
      · show [ρ5.blks.getD 1 {},ρ5.blks.getD 2 {},ρ5.blks.getD 3 {}] = _
        rw [hgk5,hgk5,hgk5,hk4 1 (by decide),hk4 2 (by decide),hk0]
        rfl
      · exact (dens_len _).trans rfl
      · show ρ5.xs.getD 123 undef = _
        rw [hgx5,ev2]
  show Fr.reach _ X Stop s cs₀ ρ [pa2.frs.headD default] w
  refine sx_two (fr := pa2.frs.headD default) (callers := []) (p := pa2_p) (k := (pa2.frs.headD default).todo.tail) pa2_kd [5,9] [(5,pa2_ordA),(9,pa2_ordB)] rfl pa2_code rfl pa2_ok hr ⟨?_,?_,trivial⟩
  · exact da_around (k := (pa2.frs.headD default).todo.tail) 900 (fun ρ' => (dens ρ' pa3a_args).toArray) (.tup [.agg [.y 0,.y 1,.y 2,.y 3,.y 4,.y 5,.y 6,.y 7,.y 8,.y 9,.y 10],.int .i64 (.v 9)]) pa3a1_grp pa3a2_grp (kd_acts [5] [] _) pa3a_at pa3a_kdi pa3a_gd pa3a_set (fun ρ' w hx => run_scall pa3a_call pa3a_fresh ρ' w) hr (L := ⟨9,0,123,0,3⟩) (by rw [hL0]; rfl) (by kernel_rfl) rfl (Post := fun _ => Post) (fun ρ' w1 hx' hr' => HJ _ _ ρ' w1 rfl hx' hr') (fun ρ' w1 hx' hr' => HB _ 3 ρ' w1 rfl (by decide) (by kernel_rfl) hx' hr') (fun ρ' w1 s' ch w' hp => by obtain ⟨_,_,⟨_,_,_,_,e,_⟩ | ⟨_,e⟩⟩ := hp <;> cases e)
  · exact da_around (k := (pa2.frs.headD default).todo.tail) 900 (fun ρ' => (dens ρ' pa3b_args).toArray) (.tup [.agg [.y 0,.y 1,.y 2,.y 3,.y 4,.y 5,.y 6,.y 7,.y 8,.y 9,.y 10],.int .i64 (.v 9)]) pa3b1_grp pa3b2_grp (kd_acts [5] [] _) pa3b_at pa3b_kdi pa3b_gd pa3b_set (fun ρ' w hx => run_scall pa3b_call pa3b_fresh ρ' w) hr (L := ⟨9,0,123,0,4⟩) (by rw [hL0]; rfl) (by kernel_rfl) rfl (Post := fun _ => Post) (fun ρ' w1 hx' hr' => HJ _ _ ρ' w1 rfl hx' hr') (fun ρ' w1 hx' hr' => HB _ 4 ρ' w1 rfl (by decide) (by kernel_rfl) hx' hr') (fun ρ' w1 s' ch w' hp => by obtain ⟨_,_,⟨_,_,_,_,e,_⟩ | ⟨_,e⟩⟩ := hp <;> cases e)
end
end Go.Proofs.Ytonhfgjofgbcdaa.Dr
namespace Go.Proofs.Ytonhfgjofgbcdaa.Dr
set_option linter.unusedSimpArgs false
set_option linter.unusedVariables false
set_option maxRecDepth 20000
open Go Go.Conc Go.RowKit Go.Proofs.Ytonhfgjofgbcdaa.Jay Go.Proofs.Ytonhfgjofgbcdaa.Pl
open Go.Proofs.Ytonhfgjofgbcdaa.St Go.Proofs.Ytonhfgjofgbcdaa.Sx Go.Proofs.Ytonhfgjofgbcdaa.Rf
set_option maxRecDepth 20000
set_option linter.unusedVariables false
set_option linter.unusedSimpArgs false
section
variable {γ : Type} {X : Turns γ} {Stop : γ → Frame → List Frame → World → Prop} {cs₀ : List Frame}
theorem paGuard {s : γ} {W : World} {k K T Mn : Int} {l : List (List Ac)} {picks : List (Int × Int)} {AL AP : Option Addr} {cL cP gC : Nat} (hlm : l.length ≤ 5864062014805) (hbig : ∀ xs ∈ l,xs.length ≤ 8796093022207) (hpl : picks.length ≤ maxLen) {cut : Int} (hcut : 0 ≤ cut ∧ cut < 65536)
    (hback : ∀ s' v w',LawPost X s W s' (.back v) w' → X.there s' w' → EndsT Try.prog X Stop 7 cs₀ s' v w') (m : Nat) :
    ∀ (i : Nat) (n : Int) (ρ : Env) (q0 q1 q2 : Seg) (w : World) (hL : Lls w w.heap.size (.slice AL l.length cL) l) (hP : Sl w w.heap.size 2 (.slice AP picks.length cP) picks.length (picks.flatMap pkC)) (hC : Blk w gC 36 #[.int .i64 k,.int .i64 K,.int .i64 T,.int .i64 Mn]) (hb : Below W.heap.size W w) (hth : X.there s w)
      (hd : Hd ρ [(i : Int),(l.length : Int),(cL : Int),(picks.length : Int),(cP : Int),n,cut] 121 [q0,q1,q2]) (hn : l.length - i = m) (h0 : q0.adr = AL ∧ (0 < l.length → q0.g = (segOf AL).g) ∧ q0.g < w.heap.size) (h1 : q1.adr = AP ∧ (0 < picks.length → q1.g = (segOf AP).g) ∧ q1.g < w.heap.size) (h2 : Whl q2 gC),Fr.reach Try.prog X Stop s cs₀ ρ pa1.frs w := by
  have hml : maxLen = 9223372036854775807 := rfl
  have hbk : ∀ w',Below W.heap.size W w' → X.there s w' → EndsT Try.prog X Stop 7 cs₀ s (.bool true) w' := fun w' h1 h2 => hback s _ w' ⟨h1,fun _ _ h => h,rfl⟩ h2
  induction m with
  | zero =>
    intro i n ρ q0 q1 q2 w hL hP hC hb hth hd hn h0 h1 h2
    obtain ⟨xs,hxs,rfl⟩ := hd.of
    obtain ⟨g2,b2,o2,pre2,post2,cap2,ad2⟩ := q2
    obtain ⟨rfl,rfl,rfl,rfl⟩ : g2 = _ ∧ o2 = _ ∧ pre2 = _ ∧ post2 = _ := h2
    generalize hρ0 : (⟨[(i : Int),(l.length : Int),(cL : Int),(picks.length : Int),(cP : Int),n,cut],[],xs,[],[q0,q1,⟨g2,b2,0,[],[],cap2,ad2⟩],[]⟩ : Env) = ρ0
    have hl0 : ρ0.lens = ⟨7,0,121,0,3⟩ := by rw [← hρ0]; simp [Env.lens,hxs]
    have hrem : ((IntKind.i64.wrap (((picks.length : Int).toNat : Int) + 1)) == 0) = false := by
      by_cases hp : picks.length < maxLen
      · rw [show ((picks.length : Int).toNat : Int) = (picks.length : Int) by omega,wrap_succ hp (Nat.le_refl _)]
        simp
        omega
      · rw [show ((picks.length : Int).toNat : Int) = 9223372036854775807 by omega]
        rfl
    have hr : Rep X s (ours ρ0 paD_in.heap) w ρ0 paD_in.heap paD_in.facts 0 w := by
      refine Rep.start hth (by rw [← hρ0]; intro v hv; cases hv) (by rw [← hρ0]; rfl) ⟨⟨?_,if_ro rfl cells_none,trivial,trivial,rfl⟩,⟨?_,if_ro rfl cells_none,trivial,trivial,rfl⟩,⟨?_,if_ro rfl cells_none,trivial,trivial,rfl⟩,trivial⟩ ⟨⟨(fun e => nomatch e),(fun e => nomatch e),trivial⟩,⟨(fun e => nomatch e),trivial⟩,trivial,trivial⟩ (factsA_ok ⟨?_,?_,trivial⟩) (by rw [← hρ0]; rfl)
      all_goals subst hρ0
      · exact h0.2.2
      · exact h1.2.2
      · exact hC.lt
      · exact decide_eq_false (by show ¬ (i : Int) < ((l.length : Int).toNat : Int); omega)
      · exact hrem
    refine sx_run 900 paD_run hr ⟨fun ρ1 w1 hx1 hr1 => ?_,fun ρ1 w1 hx1 hr1 => ?_,fun ρ1 w1 hx1 hr1 => ?_,trivial⟩
    · have hb1 : Below w.heap.size w w1 := hr1.chg.below (fun k hk => absurd hk (ours_ro rfl k)) (Nat.le_refl _)
      exact sx_endE (v := _) paD_0_end rfl hr1.rep (hbk w1 (hb.trans (hb1.mono hb.size)) hr1.there)
    · have hb1 : Below w.heap.size w w1 := hr1.chg.below (fun k hk => absurd hk (ours_ro rfl k)) (Nat.le_refl _)
      exact sx_endE (v := _) paD_1_end rfl hr1.rep (hbk w1 (hb.trans (hb1.mono hb.size)) hr1.there)
    · have hb1 : Below w.heap.size w w1 := hr1.chg.below (fun k hk => absurd hk (ours_ro rfl k)) (Nat.le_refl _)
      have hi1 : ρ1.ints = [(i : Int),(l.length : Int),(cL : Int),(picks.length : Int),(cP : Int),n,cut] := hx1.ints.trans (by rw [← hρ0])
      have hbl : ρ0.blks.length = 3 := by rw [← hρ0]; rfl
      have hk1 : ∀ j,j < 3 → ρ1.blks.getD j {} = ρ0.blks.getD j {} := fun j hj => hx1.blk (by omega)
      have hpk : picks.length ≤ 1000 := by
        have h : B.den ρ1 (.cmp .gtr (.tn (.v 3)) (.lit 1000)) = false := hr1.facts (.cmp .gtr (.tn (.v 3)) (.lit 1000),false) (List.mem_cons_self ..)
        have h2 : decide ((((ρ1.ints.getD 3 0).toNat : Nat) : Int) > 1000) = false := h
        rw [hi1] at h2
        have h3 : ¬ ((((picks.length : Int).toNat : Nat) : Int) > 1000) := of_decide_eq_false h2
        omega
      have hL1 : Lls w1 w1.heap.size (.slice AL l.length cL) l := by
        obtain ⟨vs,a1,a2,a3⟩ := hL.below hb1
        exact ⟨vs,a1,a2.more hb1.size,fun i u hu => by obtain ⟨xs,b1,b2⟩ := a3 i u hu; exact ⟨xs,b1,Sl.more b2 hb1.size⟩⟩
      obtain ⟨j,hj,hje⟩ : ∃ j : Nat,j ≤ picks.length ∧ Int.tmod (IntKind.i64.wrap cut) (IntKind.i64.wrap (((picks.length : Int).toNat : Int) + 1)) = (j : Int) := by
        refine ⟨(cut % ((picks.length : Int) + 1)).toNat,?_,?_⟩
        · have h1 := Int.emod_nonneg cut (show (picks.length : Int) + 1 ≠ 0 by omega)
          have h2 := Int.emod_lt_of_pos cut (show (0 : Int) < (picks.length : Int) + 1 by omega)
          omega
        · rw [show ((picks.length : Int).toNat : Int) = (picks.length : Int) by omega,wrap_succ (show picks.length < 1001 by omega) (by rw [hml]; decide),show IntKind.i64.wrap cut = cut by simp [IntKind.wrap,IntKind.bits,IntKind.signed]; omega]
          rw [Int.tmod_eq_emod_of_nonneg hcut.1]
          have h1 := Int.emod_nonneg cut (show (picks.length : Int) + 1 ≠ 0 by omega)
          rw [show (((picks.length + 1 : Nat) : Int)) = (picks.length : Int) + 1 by omega]
          omega
      refine sx_frs (a := ⟨paD_2.frs,[],[],0⟩) paDp_fits ?_
      refine paFirst (W := W) (q0 := q0) (q1 := q1) (qC := ⟨g2,b2,0,[],[],cap2,ad2⟩) hlm hbig hpk hj (hb.trans (hb1.mono hb.size)) hr1.there hback hL1 ((hP.below hb1).more hb1.size) (hC.below hb1 hC.lt) ⟨h0.1,Nat.lt_of_lt_of_le h0.2.2 hb1.size⟩ ⟨h1.1,Nat.lt_of_lt_of_le h1.2.2 hb1.size⟩ ⟨rfl,rfl,rfl,rfl⟩ ?_ rfl ?_ rfl ?_ (show ρ1.perms = [] from perms_nil hr1)
      · show [Int.tmod (IntKind.i64.wrap (ρ1.ints.getD 6 0)) (IntKind.i64.wrap ((((ρ1.ints.getD 3 0).toNat : Nat) : Int) + 1)),ρ1.ints.getD 1 0,ρ1.ints.getD 2 0,ρ1.ints.getD 3 0,ρ1.ints.getD 4 0] = _
        rw [hi1]
        show [Int.tmod (IntKind.i64.wrap cut) (IntKind.i64.wrap (((picks.length : Int).toNat : Int) + 1)),_,_,_,_] = _
        rw [hje]
        rfl
      · exact (dens_len _).trans rfl
      · show [ρ1.blks.getD 0 {},ρ1.blks.getD 1 {},ρ1.blks.getD 2 {}] = _
        rw [hk1 0 (by decide),hk1 1 (by decide),hk1 2 (by decide),← hρ0]
        rfl
  | succ m ih =>
    intro i n ρ q0 q1 q2 w hL hP hC hb hth hd hn h0 h1 h2
    have hi : i < l.length := by omega
    have hn1 : l.length - (i + 1) = m := by omega
    obtain ⟨xs,hxs,rfl⟩ := hd.of
    obtain ⟨g2,b2,o2,pre2,post2,cap2,ad2⟩ := q2
    obtain ⟨rfl,rfl,rfl,rfl⟩ : g2 = _ ∧ o2 = _ ∧ pre2 = _ ∧ post2 = _ := h2
    generalize hρ0 : (⟨[(i : Int),(l.length : Int),(cL : Int),(picks.length : Int),(cP : Int),n,cut],[],xs,[],[q0,q1,⟨g2,b2,0,[],[],cap2,ad2⟩],[]⟩ : Env) = ρ0
    have hl0 : ρ0.lens = ⟨7,0,121,0,3⟩ := by rw [← hρ0]; simp [Env.lens,hxs]
    by_cases hn4 : n ≤ 400
    · obtain ⟨bl,ol,cL',eL,hbl,_,_,hat⟩ := hL.at_ (by omega)
      cases eL
      obtain ⟨u,hu,hacs⟩ := hat i hi
      obtain ⟨At,ct,rfl,_,_⟩ := Sl.form hacs
      refine reach_reseg (b := 0) (q := ⟨bl,ol,ol + i * 1,[],[],q0.cap,none⟩) (by rw [← hρ0]; exact Nat.zero_lt_succ _) (by rw [← hρ0]; exact (h0.2.1 (by omega)).symm) (by rw [← hρ0]; exact h0.1.symm) (by rw [← hρ0]; rfl) (by kernel_rfl) ?_
      refine reach_grow (L := ⟨7,0,121,0,3⟩) (ai := [(l[i].length : Int),(ct : Int)]) (ab := []) (ax := []) (ay := []) (ak := [⟨g2,0,0,[],[],0,some At⟩]) (by rw [← hl0]; simp [Env.lens,Env.reseg]) (by kernel_rfl) ?_
      generalize hρ : Env.grow _ _ _ _ _ _ = ρ
      have hi0 : ρ.ints = [(i : Int),(l.length : Int),(cL : Int),(picks.length : Int),(cP : Int),n,cut,(l[i].length : Int),(ct : Int)] := by rw [← hρ,← hρ0]; rfl
      have hlen : ρ.blks.length = 4 := by rw [← hρ,← hρ0]; rfl
      have hr : Rep X s (ours ρ paC_in.heap) w ρ paC_in.heap paC_in.facts 0 w := by
        refine Rep.start hth (by rw [← hρ,← hρ0]; intro v hv; cases hv) hlen ⟨⟨?_,if_ro rfl ?_,⟨?_,?_⟩,trivial,rfl⟩,⟨?_,if_ro rfl cells_none,trivial,trivial,rfl⟩,⟨?_,if_ro rfl cells_none,trivial,trivial,rfl⟩,⟨?_,if_ro rfl cells_none,trivial,trivial,rfl⟩,trivial⟩ ⟨⟨(fun e => nomatch e),(fun e => nomatch e),(fun e => nomatch e),trivial⟩,⟨(fun e => nomatch e),(fun e => nomatch e),trivial⟩,⟨(fun e => nomatch e),trivial⟩,trivial,trivial⟩ (factsA_ok ⟨?_,?_,?_,trivial⟩) (by rw [← hρ,← hρ0]; rfl)
        all_goals subst hρ; subst hρ0
        · exact hbl
        · intro j u' hu'
          cases j with
          | zero =>
            cases hu'
            show w.cell? ⟨bl,ol + i * 1 + 0,none⟩ = _
            rw [Nat.mul_one,Nat.add_zero,hu]
            rfl
          | succ j => cases hu'
        · rfl
        · rfl
        · exact h1.2.2
        · exact hC.lt
        · exact hC.lt
        · exact decide_eq_true (by show (i : Int) < ((l.length : Int).toNat : Int); omega)
        · exact decide_eq_true (by show n ≤ 400; omega)
        · exact decide_eq_true (by show (0 : Int) ≤ (i : Int); omega)
      refine sx_run 900 paC_run hr ⟨fun ρ1 w1 hx1 hr1 => ?_,trivial⟩
      refine sx_head paC0_head hr1 fun ρ2 w2 hx2 hr2 => ?_
      have hx12 := hx1.trans hx2
      have hb2 : Below w.heap.size w w2 := hr2.chg.below (fun k hk => absurd hk (ours_ro rfl k)) (Nat.le_refl _)
      have hp2 : ρ2.perms = [] := perms_nil hr2
      have hL2 : Lls w2 w2.heap.size (.slice (some ⟨bl,ol,none⟩) l.length cL) l := by
        obtain ⟨vs,a1,a2,a3⟩ := hL.below hb2
        exact ⟨vs,a1,a2.more hb2.size,fun i u hu => by obtain ⟨xs,b1,b2⟩ := a3 i u hu; exact ⟨xs,b1,Sl.more b2 hb2.size⟩⟩
      refine ih (i + 1) (IntKind.i64.wrap (n + (((l[i].length : Int).toNat : Nat) : Int))) _ _ _ _ w2 hL2 ((hP.below hb2).more hb2.size) (hC.below hb2 hC.lt) (hb.trans (hb2.mono hb.size)) hr2.there ⟨?_,rfl,?_,rfl,rfl,hp2⟩ hn1 ?_ ?_ ?_
      · show [IntKind.i64.wrap (ρ2.ints.getD 0 0 + 1),ρ2.ints.getD 1 0,ρ2.ints.getD 2 0,ρ2.ints.getD 3 0,ρ2.ints.getD 4 0,IntKind.i64.wrap (ρ2.ints.getD 5 0 + (((ρ2.ints.getD 7 0).toNat : Nat) : Int)),ρ2.ints.getD 6 0] = _
        rw [hx12.ints,hi0]
        show [IntKind.i64.wrap ((i : Int) + 1),_,_,_,_,_,_] = _
        rw [wrap_succ hi (by omega)]
        rfl
      · exact (dens_len _).trans rfl
      · dsimp only
        rw [hx12.blk (by omega),← hρ,← hρ0]
        exact ⟨rfl,fun _ => rfl,Nat.lt_of_lt_of_le hbl hb2.size⟩
      · dsimp only
        rw [hx12.blk (by omega),← hρ,← hρ0]
        exact ⟨h1.1,h1.2.1,Nat.lt_of_lt_of_le h1.2.2 hb2.size⟩
      · dsimp only
        rw [hx12.blk (by omega),← hρ,← hρ0]
        exact ⟨rfl,rfl,rfl,rfl⟩
    · have hr : Rep X s (ours ρ0 paE_in.heap) w ρ0 paE_in.heap paE_in.facts 0 w := by
        refine Rep.start hth (by rw [← hρ0]; intro v hv; cases hv) (by rw [← hρ0]; rfl) ⟨⟨?_,if_ro rfl cells_none,trivial,trivial,rfl⟩,⟨?_,if_ro rfl cells_none,trivial,trivial,rfl⟩,⟨?_,if_ro rfl cells_none,trivial,trivial,rfl⟩,trivial⟩ ⟨⟨(fun e => nomatch e),(fun e => nomatch e),trivial⟩,⟨(fun e => nomatch e),trivial⟩,trivial,trivial⟩ (factsA_ok ⟨?_,?_,?_,trivial⟩) (by rw [← hρ0]; rfl)
        all_goals subst hρ0
        · exact h0.2.2
        · exact h1.2.2
        · exact hC.lt
        · exact decide_eq_true (by show n > 400; omega)
        · exact decide_eq_true (by show (i : Int) < ((l.length : Int).toNat : Int); omega)
        · exact decide_eq_false (by show ¬ n ≤ 400; omega)
      refine sx_run 900 paE_run hr ⟨fun ρ1 w1 hx1 hr1 => ?_,trivial⟩
      have hb1 : Below w.heap.size w w1 := hr1.chg.below (fun k hk => absurd hk (ours_ro rfl k)) (Nat.le_refl _)
      exact sx_endE (v := _) paE_0_end rfl hr1.rep (hbk w1 (hb.trans (hb1.mono hb.size)) hr1.there)
theorem parts03 {s : γ} {w : World} {k K T Mn : Int} {l : List (List Ac)} {picks : List (Int × Int)} {vL vP : Value} {cut : Int} (hL : Lls w w.heap.size vL l) (hP : Sl w w.heap.size 2 vP picks.length (picks.flatMap pkC)) (hlm : l.length ≤ 5864062014805) (hbig : ∀ xs ∈ l,xs.length ≤ 8796093022207) (hcut : 0 ≤ cut ∧ cut < 65536) :
    JdoT Try.prog X 7 #[cfg k K T Mn,vL,vP,.int .u16 cut] s w (fun s' v w' => LawPost X s w s' (.back v) w') := by
  obtain ⟨AP,cP,rfl,hp1,hp2⟩ := Sl.form hP
  obtain ⟨AL,cL,rfl,_,_⟩ : ∃ AL cL,vL = Value.slice AL l.length cL ∧ l.length ≤ cL ∧ cL ≤ maxLen := by
    obtain ⟨vs,_,h,_⟩ := hL
    exact Sl.form h
  let ρ : Env := { ints := [k,K,T,Mn,cut],xs := [.slice AL l.length cL,.slice AP picks.length cP] }
  refine sx_enterT (ρ := ρ) pa_fresh rfl fun Stop cs₀ hth hback => ?_
  have hr : Rep X s (ours ρ paA_in.heap) w ρ paA_in.heap paA_in.facts 0 w := Rep.start hth (fun v hv => by cases hv) rfl trivial trivial (factsA_ok trivial) rfl
  refine sx_run 900 paA_run hr ⟨fun ρ1 w1 hx1 hr1 => ?_,trivial⟩
  have hb1 : Below w.heap.size w w1 := hr1.chg.below (fun k hk => by obtain ⟨i,hb,hi,_⟩ := hk; cases hi) (Nat.le_refl _)
  show Fr.reach _ X Stop s cs₀ ρ1 [paA_fr] w1
  have hCp := hr1.rep.pl 0 _ rfl rfl rfl rfl
  have hCb := hr1.rep.blk 0 _ rfl rfl
  have hCo : (ρ1.blks.getD 0 {}).o = 0 := by rw [hCb.1,hCp.1]; rfl
  have hC1 : Blk w1 (ρ1.blks.getD 0 {}).g 36 #[.int .i64 k,.int .i64 K,.int .i64 T,.int .i64 Mn] := by
    have h1 := hCb.2
    unfold Seg.whole at h1
    rw [hCp.1,hCp.2,List.append_nil,List.nil_append] at h1
    have h2 : Blk w1 (ρ1.blks.getD 0 {}).g 36 #[.int .i64 (ρ1.ints.getD 0 0),.int .i64 (ρ1.ints.getD 1 0),.int .i64 (ρ1.ints.getD 2 0),.int .i64 (ρ1.ints.getD 3 0)] := h1
    rw [hx1.ints] at h2
    exact h2
  refine sx_call (fr := paA_fr) (callers := []) (ht := rfl) paA_at paA_gd paA_call paA_fresh hr1 (Post := fun s' r w' => Below w1.heap.size w1 w' ∧ (∀ k,k < w1.heap.size → X.oth s' k → X.oth s k) ∧ 0 < w'.heap.size ∧ r = .back (.bool true)) awake03 (fun s' v w2 hp ht2 => ?_) (fun s' ch w' hp _ => by obtain ⟨_,_,_,e⟩ := hp; cases e)
  obtain ⟨hb2,hoth,hpos,ev⟩ := hp
  cases ev
  refine reach_put (sv := .bool (.lit true)) rfl ?_
  rw [paA_put]
  have hb02 : Below w.heap.size w w2 := hb1.trans (hb2.mono hb1.size)
  have hL2 : Lls w2 w2.heap.size (.slice AL l.length cL) l := by
    obtain ⟨vs,a1,a2,a3⟩ := hL.below hb02
    exact ⟨vs,a1,a2.more hb02.size,fun i u hu => by obtain ⟨xs,b1,b2⟩ := a3 i u hu; exact ⟨xs,b1,Sl.more b2 hb02.size⟩⟩
  have hP2 : Sl w2 w2.heap.size 2 (.slice AP picks.length cP) picks.length (picks.flatMap pkC) := (hP.below hb02).more hb02.size
  have hC2 := hC1.below hb2 hC1.lt
  have hqC : Whl (ρ1.blks.getD 0 {}) (ρ1.blks.getD 0 {}).g := ⟨rfl,hCo,hCp⟩
  have hps : ρ1.perms = [] := perms_nil hr1
  have hi1 : ρ1.ints = [k,K,T,Mn,cut] := hx1.ints
  have hxs1 : ρ1.xs = [.slice AL l.length cL,.slice AP picks.length cP] := hx1.xs
  generalize hqe : ρ1.blks.getD 0 {} = qC at hC1 hC2 hqC hCo hCp hCb
  obtain ⟨q0,e0⟩ : ∃ q,q = segP AL l.length := ⟨_,rfl⟩
  obtain ⟨q1,e1⟩ : ∃ q,q = segP AP picks.length := ⟨_,rfl⟩
  have h0 : q0.adr = AL ∧ (0 < l.length → q0.g = (segOf AL).g) ∧ q0.g < w2.heap.size := by
    rw [e0]
    refine ⟨segP_adr _ _,fun h => segP_pos _ h,?_⟩
    obtain ⟨vs,_,h,_⟩ := hL2
    exact segP_lt h hpos
  have h1 : q1.adr = AP ∧ (0 < picks.length → q1.g = (segOf AP).g) ∧ q1.g < w2.heap.size := by
    rw [e1]
    exact ⟨segP_adr _ _,fun h => segP_pos _ h,segP_lt hP2 hpos⟩
  clear e0 e1
  let ρ' : Env := { ints := [0,(l.length : Int),(cL : Int),(picks.length : Int),(cP : Int),k,K,T,Mn,cut],xs := ρ1.xs,blks := [q0,q1,qC] }
  have hbk2 : ∀ s'' v w',LawPost X s' w2 s'' (.back v) w' → X.there s'' w' → EndsT Try.prog X Stop 7 cs₀ s'' v w' := fun s'' v w' ⟨a1,a2,a3⟩ ht => hback s'' v w' ⟨hb02.trans (a1.mono hb02.size),fun k hk ho => hoth k (Nat.lt_of_lt_of_le hk hb1.size) (a2 k (Nat.lt_of_lt_of_le hk hb02.size) ho),a3⟩ ht
  refine reach_conv (frs' := paB_in.frs) (ρ' := ρ') (conv_one (fr' := paB_in.frs.headD default) (fr := paA_frb) rfl rfl hps.symm ?_) ?_
  · show dens ρ' (paB_in.frs.headD default).tmps = dens ρ1 paA_frb.tmps
    have b0 : (ρ'.blks.getD 0 {}).adr = AL := h0.1
    have b1 : (ρ'.blks.getD 1 {}).adr = AP := h1.1
    simp only [paB_in,paA_frb,List.headD_cons,dens,SV.den,BA.den,CP.den,E.den,b0,b1,hi1,hxs1,hqe]
    rfl
  have hr2 : Rep X s' (ours ρ' paB_in.heap) w2 ρ' paB_in.heap paB_in.facts 0 w2 := by
    refine Rep.start ht2 (fun v hv => by cases hv) rfl ⟨⟨h0.2.2,if_ro rfl cells_none,trivial,trivial,rfl⟩,⟨h1.2.2,if_ro rfl cells_none,trivial,trivial,rfl⟩,⟨?_,if_ro rfl cells_none,trivial,trivial,rfl⟩,trivial⟩ ⟨⟨(fun e => nomatch e),(fun e => nomatch e),trivial⟩,⟨(fun e => nomatch e),trivial⟩,trivial,trivial⟩ (factsA_ok trivial) rfl
    exact hC2.lt
  refine sx_run 900 paB_run hr2 ⟨fun ρ3 w3 hx3 hr3 => ?_,trivial⟩
  refine sx_head paB0_head hr3 fun ρ4 w4 hx4 hr4 => ?_
  have hx24 := hx3.trans hx4
  have hb4 : Below w2.heap.size w2 w4 := hr4.chg.below (fun k hk => absurd hk (ours_ro rfl k)) (Nat.le_refl _)
  have hp4 : ρ4.perms = [] := perms_nil hr4
  have hL4 : Lls w4 w4.heap.size (.slice AL l.length cL) l := by
    obtain ⟨vs,a1,a2,a3⟩ := hL2.below hb4
    exact ⟨vs,a1,a2.more hb4.size,fun i u hu => by obtain ⟨xs,b1,b2⟩ := a3 i u hu; exact ⟨xs,b1,Sl.more b2 hb4.size⟩⟩
  refine paGuard (W := w2) hlm hbig (Nat.le_trans hp1 hp2) hcut hbk2 l.length 0 (((l.length : Int).toNat : Nat) : Int) _ _ _ _ w4 hL4 ((hP2.below hb4).more hb4.size) (hC2.below hb4 hC2.lt) hb4 hr4.there ⟨?_,rfl,?_,rfl,rfl,hp4⟩ (Nat.sub_zero _) ?_ ?_ ?_
  · show [0,ρ4.ints.getD 1 0,ρ4.ints.getD 2 0,ρ4.ints.getD 3 0,ρ4.ints.getD 4 0,(((ρ4.ints.getD 1 0).toNat : Nat) : Int),ρ4.ints.getD 9 0] = _
    rw [hx24.ints]
    rfl
  · exact (dens_len _).trans rfl
  · dsimp only
    rw [hx24.blk (show 0 < 3 by decide)]
    exact ⟨h0.1,h0.2.1,Nat.lt_of_lt_of_le h0.2.2 hb4.size⟩
  · dsimp only
    rw [hx24.blk (show 1 < 3 by decide)]
    exact ⟨h1.1,h1.2.1,Nat.lt_of_lt_of_le h1.2.2 hb4.size⟩
  · dsimp only
    rw [hx24.blk (show 2 < 3 by decide)]
    exact hqC
end
end Go.Proofs.Ytonhfgjofgbcdaa.Dr
