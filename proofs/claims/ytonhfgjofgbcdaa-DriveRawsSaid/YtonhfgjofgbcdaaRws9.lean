/- A part of this claim's proof. -/
import Derived.Test.YtonhfgjofgbcdaaRws8
import Derived.WideLaws
import Derived.Laws.StructEq
set_option linter.unusedSimpArgs false
set_option linter.unusedVariables false
set_option maxRecDepth 20000
namespace Go.Proofs.Ytonhfgjofgbcdaa.Sx
open Go Go.Conc Jay
section
section
variable {P : Program} {Y : Env} {h : List HB} {w : World}
theorem isPtr_ok {t : TypeId} (h : isPtr P t = true) : P.underlying t = some (.pointer (P.pointee t)):=by
 unfold isPtr at h
 split at h
 ·rename_i e hu
  rw [hu]
  simp [Program.pointee,hu]
 ·cases h
theorem zmz {t : TypeId} (h : isIface P t = true) : P.underlying t = some (.interface (P.methodsAt t)):=by
 unfold isIface at h
 split at h
 ·rename_i e hu
  rw [hu]
  simp [Program.methodsAt,hu]
 ·cases h
theorem isBool_ok {t : TypeId} (h : isBool P t = true) : P.underlying t = some .bool:=by
 unfold isBool at h
 split at h
 ·assumption
 ·cases h
def binS (op : BinOp) (t : TypeId) (x y : Operand) (a b : Value) : Sem Value:=do eqGuard op t x y a b; binOp op t a b
theorem zcp {op : BinOp} {t : TypeId} {x y : Operand} {a b v : Value} (hg : (eqGuard op t x y a b).run P w = .ok () w) (hb : (binOp op t a b).run P w = .ok v w) : (binS op t x y a b).run P w = .ok v w:=by
 simp only [binS,Sem.run_bind,hg,Result.andThen,hb]
theorem zby {op : BinOp} (ho : op = .eql \/ op = .neq) (t : TypeId) (x y : Operand) (a b : Value) {W : Nat -> Prop} : zax P W (binS op t x y a b):=za0 (zeq _ _ _ _ _ _) fun _=>zh8 _ ho _ _ _
theorem zic (op : BinOp) (t : TypeId) (x y : Operand) (k j : IntKind) (m n : Int) {W : Nat -> Prop} : zax P W (binS op t x y (.int k m) (.int j n)):=za0 (zeq _ _ _ _ _ _) fun _=>zh7 _ _ _ _ _ _
theorem zch (op : BinOp) (t : TypeId) (x y : Operand) (a b : Value) (w : World) (hn : a ≠ .nilIface) (ha : ∀ c,a ≠ .agg c) : (eqGuard op t x y a b).run P w = .ok () w:=by
 unfold eqGuard
 cases a <;> first | (exact absurd rfl hn) | (exact absurd rfl (ha _)) | skip
 all_goals (split <;> rfl)
theorem sbin_only {facts : List (B × Bool)} {op : BinOp} {t : TypeId} {x y : Operand} {a b v : SV} {lit : Bool} (hlt : lit = (isC x || isC y)) (hs : sbin P facts lit op t a b = some v) : zax P (fun _=>False) (binS op t x y (a.den Y) (b.den Y)):=by
  unfold sbin at hs
  split at hs
  · exact zic _ _ _ _ _ _ _ _
  all_goals first
    | (cases hs; done)
    | (split at hs
       · split at hs <;> first | (cases hs; done) | exact zby (.inl rfl) _ _ _ _ _ | exact zby (.inr rfl) _ _ _ _ _
       · cases hs)
theorem foldl_set : ∀ (vs : List Value) (n off : Nat) (cs : List Value),off + n + vs.length <= cs.length ->
  (vs.zipIdx n).foldl (fun (cs : Array Value) (p : Value × Nat)=>cs.setIfInBounds (off + p.2) p.1) cs.toArray = (cs.take (off + n) ++ vs ++ cs.drop (off + n + vs.length)).toArray
 | [],n,off,cs,h=>by simp
 | v :: vs,n,off,cs,h=>by
  simp only [List.length_cons] at h
  rw [List.zipIdx_cons,List.foldl_cons]
  simp only [List.setIfInBounds_toArray]
  rw [foldl_set vs (n + 1) off (cs.set (off + n) v) (by simp; omega)]
  congr 1
  have h1 : (cs.set (off + n) v).take (off + (n + 1)) = cs.take (off + n) ++ [v]:=by
   rw [<- Nat.add_assoc,List.take_add_one,List.getElem?_set_self (by omega),List.take_set_of_le (by omega)]
   rfl
  have h2 : (cs.set (off + n) v).drop (off + (n + 1) + vs.length) = cs.drop (off + n + (v :: vs).length):=by
   rw [List.drop_set_of_lt (by omega)]
   simp only [List.length_cons]
   congr 1
   omega
  rw [h1,h2]
  simp
theorem zjt (hy : ∀ v ∈ Y.ys,v.oneCell' = true) (place : Nat -> Option (Nat × Nat)) : ∀ (parts : List (Nat × SV)) (cells cs : List SV),sfill place cells parts = some cs -> Instr.fill place (za3 Y cells).toArray (parts.map fun x=>(x.1,x.2.den Y)) = some (za3 Y cs).toArray
 | [],cells,cs,h=>by
  simp only [sfill,Option.some.injEq] at h
  subst h
  rfl
 | (i,v) :: rest,cells,cs,h=>by
  simp only [sfill] at h
  simp only [List.map_cons,Instr.fill]
  split at h
  ·cases h
  ·rename_i off size hp
   split at h
   ·rename_i hc
    obtain ⟨h1,h2,h3⟩:=hc
    have hcell:=zli (Y:=Y) h3 hy
    have ih:=zjt hy place rest _ cs h
    simp only [hp,hcell]
    rw [if_neg (by simp [za8]; omega)]
    have hfold : (za3 Y v.cells).toArray.zipIdx.foldl (fun (cs : Array Value) (p : Value × Nat)=>cs.setIfInBounds (off + p.2) p.1) (za3 Y cells).toArray = (za3 Y (cells.take off ++ v.cells ++ cells.drop (off + v.cells.length))).toArray:=by
     have:=foldl_set (za3 Y v.cells) 0 off (za3 Y cells) (by rw [za8,za8]; omega)
     simp only [Nat.add_zero,za8] at this
     rw [zeb,zeb,zlt,zlv,<- this]
     simp
    rw [<- ih,<- hfold]
   ·cases h
theorem mkAnd_den (a b : B) : (mkAnd a b).den Y = (a.den Y && b.den Y):=by
 unfold mkAnd
 split <;> simp [B.den]
theorem sstr_ok : ∀ (n : Nat) {d : Nat} {t : TypeId} {xs ys : List SV} {b : B},n < d -> sstr P n t xs ys = some b -> (Op.equalIn d t (.agg (za3 Y xs).toArray) (.agg (za3 Y ys).toArray)).run P w = .ok (b.den Y) w
 | 0,d,t,xs,ys,b,_,h=>by cases h
 | n + 1,0,t,xs,ys,b,hd,h=>by omega
 | n + 1,d + 1,t,xs,ys,b,hd,h=>by
  have hd' : n < d:=by omega
  simp only [sstr] at h
  split at h
  ·rename_i fs hu
   split at h
   ·cases h
   ·rename_i hst
    have hf : P.fieldsOf t = fs:=by simp [Program.fieldsOf,hu]
    rw [run_equalIn_struct w d t _ _ (by rw [hf]; exact hu) (by simpa using hst),hf]
    revert h
    generalize fs.toList = l
    intro h
    induction l generalizing b with
    | nil=>cases h; rfl
    | cons f l ih=>
     simp only [sflds] at h
     simp only [Op.eqFields]
     split at h
     ·rename_i hn
      split at h
      ·rename_i a c ha hc
       split at h
       ·rename_i r s hr hs
        cases h
        have hv : (Op.equalIn d f.type (a.den Y) (c.den Y)).run P w = .ok (r.den Y) w:=by
         unfold seqV at hr
         split at hr
         ·split at hr
          ·rename_i hk
           subst hk
           split at hr
           ·rename_i k' hu'
            cases hr
            obtain ⟨m,rfl⟩ : ∃ m,d = m + 1:=⟨d - 1,by omega⟩
            simp only [SV.den]
            rw [run_equalIn_int w m _ _ k' _ _ hu',zgg]
            rfl
           ·cases hr
          ·cases hr
         ·split at hr
          ·rename_i hb
           cases hr
           obtain ⟨m,rfl⟩ : ∃ m,d = m + 1:=⟨d - 1,by omega⟩
           simp only [SV.den]
           rw [run_equalIn_bool' w m _ _ _ (isBool_ok hb),zol]
          ·cases hr
         ·simp only [SV.den]
          exact sstr_ok n hd' hr
         ·cases hr
        rw [if_pos hn]
        simp only [Sem.run_bind,zn8 ha,zn8 hc,hv,Result.andThen_ok]
        rw [mkAnd_den]
        cases hrd : r.den Y with
        | false=>rfl
        | true=>
         simp only [Bool.not_true,Bool.false_eq_true,if_false,Bool.true_and]
         exact ih _ hs
       ·cases h
      ·cases h
     ·rename_i hn
      rw [if_neg hn]
      exact ih _ h
  ·cases h
theorem sbin_ok {facts : List (B × Bool)} (hf : ∀ p ∈ facts,p.1.den Y = p.2) {op : BinOp} {t : TypeId} {x y : Operand} {a b v : SV} {lit : Bool} (hlt : lit = (isC x || isC y)) (hs : sbin P facts lit op t a b = some v) : (binS op t x y (a.den Y) (b.den Y)).run P w = .ok (v.den Y) w /\ zax P (fun _=>False) (binS op t x y (a.den Y) (b.den Y)):=by
 have hs0:=hs
 unfold sbin at hs
 split at hs
 ·exact ⟨zcp (zkx _ _ _ _ _ _ _ _ _) (sbin_int hf hs0),zic _ _ _ _ _ _ _ _⟩
 ·split at hs
  ·rename_i hb
   have hu:=isBool_ok hb
   split at hs
   ·cases hs
    exact ⟨zcp (zch _ _ _ _ _ _ _ (by simp [SV.den]) (by simp [SV.den])) (by simp only [SV.den,zol]; exact run_eql_bool w t _ _ hu),zby (.inl rfl) _ _ _ _ _⟩
   ·cases hs
    exact ⟨zcp (zch _ _ _ _ _ _ _ (by simp [SV.den]) (by simp [SV.den])) (by simp only [SV.den,zk7,zol]; exact run_neq_bool w t _ _ hu),zby (.inr rfl) _ _ _ _ _⟩
   ·cases hs
  ·cases hs
 ·split at hs
  ·rename_i hb
   have hu:=isPtr_ok hb
   split at hs
   ·cases hs
    exact ⟨zcp (zch _ _ _ _ _ _ _ (by simp [SV.den]) (by simp [SV.den])) (by simp only [SV.den]; rw [run_eql_pointer_nil w t _ hu]; rfl),zby (.inl rfl) _ _ _ _ _⟩
   ·cases hs
    exact ⟨zcp (zch _ _ _ _ _ _ _ (by simp [SV.den]) (by simp [SV.den])) (by simp only [SV.den]; rw [run_neq_pointer_nil w t _ hu]; rfl),zby (.inr rfl) _ _ _ _ _⟩
   ·cases hs
  ·cases hs
 ·split at hs
  ·rename_i hb
   have hu:=isPtr_ok hb
   split at hs
   ·cases hs
    exact ⟨zcp (zch _ _ _ _ _ _ _ (by simp [SV.den]) (by simp [SV.den])) (by simp only [SV.den]; rw [run_eql_pointer_nil w t _ hu]; rfl),zby (.inl rfl) _ _ _ _ _⟩
   ·cases hs
    exact ⟨zcp (zch _ _ _ _ _ _ _ (by simp [SV.den]) (by simp [SV.den])) (by simp only [SV.den]; rw [run_neq_pointer_nil w t _ hu]; rfl),zby (.inr rfl) _ _ _ _ _⟩
   ·cases hs
  ·cases hs
 ·split at hs
  ·rename_i hb
   simp only [Bool.and_eq_true] at hb
   obtain ⟨hlit,hb⟩:=hb
   rw [hlt] at hlit
   have hu:=zmz hb
   have hguard : ∀ op,(eqGuard op t x y .nilIface .nilIface).run P w = .ok () w:=fun op=>by
    unfold eqGuard
    cases x <;> cases y <;> first | (simp [isC] at hlit; done) | (cases op <;> rfl)
   split at hs
   ·cases hs
    exact ⟨zcp (hguard _) (by simp only [SV.den]; exact run_eql_nil_nil w t hu),zby (.inl rfl) _ _ _ _ _⟩
   ·cases hs
    exact ⟨zcp (hguard _) (by simp only [SV.den]; exact run_neq_nil_nil w t hu),zby (.inr rfl) _ _ _ _ _⟩
   ·cases hs
  ·cases hs
 ·split at hs
  ·rename_i hb
   have hu:=zmz hb
   split at hs
   ·cases hs
    exact ⟨zcp (zch _ _ _ _ _ _ _ (by simp [SV.den]) (by simp [SV.den])) (by simp only [SV.den]; exact run_eql_held_nil w t _ _ hu),zby (.inl rfl) _ _ _ _ _⟩
   ·cases hs
    exact ⟨zcp (zch _ _ _ _ _ _ _ (by simp [SV.den]) (by simp [SV.den])) (by simp only [SV.den]; exact run_neq_held_nil w t _ _ hu),zby (.inr rfl) _ _ _ _ _⟩
   ·cases hs
  ·cases hs
 ·split at hs
  ·rename_i hg
   split at hs
   ·obtain ⟨b,hb,rfl⟩:=Option.map_eq_some_iff.mp hs
    refine ⟨zcp (run_eqGuard_agg w _ _ _ _ _ _ hg) ?_,zby (.inl rfl) _ _ _ _ _⟩
    simp only [SV.den]
    rw [run_eql_struct,sstr_ok 8 (by decide) hb]
    rfl
   ·obtain ⟨b,hb,rfl⟩:=Option.map_eq_some_iff.mp hs
    refine ⟨zcp (run_eqGuard_agg w _ _ _ _ _ _ hg) ?_,zby (.inr rfl) _ _ _ _ _⟩
    simp only [SV.den]
    rw [run_neq_struct,sstr_ok 8 (by decide) hb]
    simp only [SV.den,zk7]
    rfl
   ·cases hs
  ·cases hs
 ·cases hs
def Yields (P : Program) (w : World) (a : Act) (o : Oper) (v : Value) : Prop:=(execOp a.eval o).run P w = .ok (.value v) w /\ zax P (fun _=>False) (execOp a.eval o)
theorem zbq {a : Act} {o : Oper} {v : Value} {s : Sem Value} (he : execOp a.eval o = (do pure (Next.value (<- s)) : Sem Next)) (hr : s.run P w = .ok v w) (ho : zax P (fun _=>False) s) : Yields P w a o v:=by
 unfold Yields
 rw [he]
 exact ⟨by simp only [Sem.run_bind,hr,Result.andThen,Sem.run_pure],zcr ho⟩
theorem run_bounds (len cap H L : Nat) (lo hi : Option Value) (hH : match hi with | none=>H = len | some v=>∀ c,(Instr.sliceBound v cap c).run P w = .ok H w) (hL : match lo with | none=>L = 0 | some v=>∀ c,(Instr.sliceBound v H c).run P w = .ok L w) :
  (Instr.sliceBounds true len cap lo hi none).run P w = .ok (L,H,cap) w:=by
 cases hi <;> cases lo <;> simp only at hH hL <;> first | (subst hH; simp [Instr.sliceBounds,hL]; done) | simp [Instr.sliceBounds,hH,hL]
theorem spure_ok (hr : HRep Y h w) {facts : List (B × Bool)} (hf : ∀ p ∈ facts,p.1.den Y = p.2) {tmps : List SV} {o : Oper} {v : SV} (hs : spure P h facts tmps o.op = some v) : Yields P w { tmps:=(za3 Y tmps).toArray,defers:=[] } o (v.den Y):=by
 obtain ⟨dst,op,type,pos,after,guard⟩:=o
 have he:=zcz (Y:=Y) tmps
 have hm:=sev_map (Y:=Y) tmps
 generalize ha : ({ tmps:=(za3 Y tmps).toArray,defers:=[] } : Act) = a at he hm ⊢
 clear ha
 dsimp only at hs
 cases op <;> simp only [spure] at hs <;> try (cases hs; done)
 case move x=>
  cases hs
  exact ⟨by rw [<- he]; rfl,zay rfl _⟩
 case assign x=>
  cases hs
  exact ⟨by rw [<- he]; rfl,zay rfl _⟩
 case pick c x y=>
  split at hs
  ·rename_i t hc
   have hc' : a.eval c = .bool (t.den Y):=by rw [he,hc]; rfl
   split at hs
   ·rename_i hl
    cases hs
    rw [zd3 hf t true hl] at hc'
    refine ⟨?_,zay rfl _⟩
    rw [<- he]
    simp [execOp,hc',asBool]
   ·rename_i hl
    cases hs
    rw [zd3 hf t false hl] at hc'
    refine ⟨?_,zay rfl _⟩
    rw [<- he]
    simp [execOp,hc',asBool]
   ·cases hs
  ·cases hs
 case call c=>
  obtain ⟨callee,args,ats⟩:=c
  cases callee with
  | value f=>simp at hs
  | invoke r n=>simp at hs
  | builtin bi=>
   cases bi <;> simp only at hs <;> first | (cases hs; done) | skip
   split at hs
   ·rename_i x t hx ht
    obtain rfl : args = #[x]:=Array.ext' hx
    obtain rfl : ats = #[t]:=Array.ext' ht
    have hex : ∀ u,a.eval x = u -> execOp a.eval { dst,op:=.call { callee:=.builtin .len,args:=#[x],argTypes:=#[t] },type,pos,after,guard } = (do pure (Next.value (<- Builtin.len_ #[t] type #[u])) : Sem Next):=by
     intro u hu
     unfold execOp
     simp only [resolve,List.map_toArray,List.map_cons,List.map_nil,hu]
     rfl
    split at hs
    ·rename_i b len cap el hxv hu
     cases hs
     have hxe : a.eval x = (SV.sl b len cap).den Y:=by rw [he,hxv]
     refine zbq (hex _ hxe) ?_ (zof _ _ _)
     simp [Builtin.len_,Sem.run_bind,run_underlying hu,Result.andThen,SV.den,zeu,goInt]
    ·rename_i hxv hu
     cases hs
     have hxe : a.eval x = .slice none 0 0:=by rw [he,hxv]; rfl
     refine zbq (hex _ hxe) ?_ (zof _ _ _)
     simp [Builtin.len_,Sem.run_bind,run_underlying hu,Result.andThen,SV.den,E.den,goInt]
    ·cases hs
   ·cases hs
 case slice t x lo hi mx=>
  split at hs
  ·rename_i ba len cap el hx hu
   split at hs
   ·rename_i ti hti
    split at hs
    ·rename_i h' l' hh hl
     split at hs
     ·rename_i hcond
      obtain ⟨hc1,hc2⟩:=hcond
      cases hs
      refine zbq (s:=Instr.sliceAt t (a.eval x) (lo.map a.eval) (hi.map a.eval) none) rfl ?_ (zj1 _ _ _ _ _)
      have hbound : ∀ (k : IntKind) (e : E) (y : Nat) (c : BoundsCode),0 <= e.den Y -> e.den Y <= (y : Int) -> (Instr.sliceBound (.int k (e.den Y)) y c).run P w = .ok (e.den Y).toNat w:=fun k e y c h1 h2=>by
       simp [Instr.sliceBound,asIntOf,h1,h2]
      have hrun:=run_bounds (P:=P) (w:=w) (len.den Y).toNat (cap.den Y).toNat (h'.den Y).toNat (l'.den Y).toNat (lo.map a.eval) (hi.map a.eval) (by
       cases hi with
       | none=>
        simp only [Option.some.injEq] at hh
        subst hh
        show (E.den Y (zm3 len)).toNat = _
        rw [zeu,Int.toNat_natCast]
       | some y=>
        simp only [Option.isNone_some,Bool.false_or,decide_eq_true_eq] at hc1 hh
        split at hh
        ·rename_i k e hy
         cases hh
         have h1:=zd3 hf _ _ hc1.1
         have h2:=zd3 hf _ _ hc1.2
         simp only [zgg,zlw,E.den,zeu] at h1 h2
         simp only [Option.map_some,he,hy,SV.den]
         exact fun c=>hbound k h' _ c (of_decide_eq_true h1) (of_decide_eq_true h2)
        ·cases hh) (by
       cases lo with
       | none=>
        simp only [Option.some.injEq] at hl
        subst hl
        rfl
       | some y=>
        simp only [Option.isNone_some,Bool.false_or,decide_eq_true_eq] at hc2 hl
        split at hl
        ·rename_i k e hy
         cases hl
         have h1:=zd3 hf _ _ hc2.1
         have h2:=zd3 hf _ _ hc2.2
         simp only [zgg,zlw,E.den,zeu] at h1 h2
         simp only [Option.map_some,he,hy,SV.den]
         exact fun c=>hbound k l' _ c (of_decide_eq_true h1) (of_decide_eq_true h2)
        ·cases hl)
      rw [he,hx]
      simp only [Instr.sliceAt,Sem.run_bind,run_underlying hu,Result.andThen,Instr.slice,SV.den,CP.den,BA.den,E.den,zeu,hrun,zfe hti,Sem.run_pure]
      rw [Int.toNat_sub,Int.toNat_sub]
     ·cases hs
    ·cases hs
   ·cases hs
  ·cases hs
 case indexAddr t x i=>
  split at hs
  ·rename_i b len cap k e el hx hi hu
   split at hs
   ·rename_i hb ti hbi hti
    split at hs
    ·rename_i hcond
     obtain ⟨h1,h2⟩:=hcond
     have h1':=zd3 hf _ _ h1
     have h2':=zd3 hf _ _ h2
     simp only [zgg,zlw,E.den,zeu] at h1' h2'
     split at hs
     ·rename_i f n hfoc
      split at hs
      ·rename_i hfn
       obtain ⟨rfl,rfl⟩:=hfn
       cases hs
       refine zbq (s:=Instr.indexAt t (a.eval x) (a.eval i)) rfl ?_ (zge _ _ _)
       rw [he,he,hx,hi]
       obtain ⟨hpre,had⟩:=hr.foc b hb f ti.size hbi hfoc
       simp only [Instr.indexAt,SV.den,BA.den,Seg.adr,had,asIntOf,Sem.run_bind,Sem.run_pure,Result.andThen,run_underlying hu]
       rw [if_pos ⟨of_decide_eq_true h1',of_decide_eq_true h2'⟩]
       simp only [Sem.run_bind,zfe hti,Result.andThen,Sem.run_pure,zlx,Nat.add_zero,hpre]
      ·split at hs
       ·rename_i x' y' _
        split at hs
        ·rename_i hxy
         obtain ⟨hx0,hxy,rfl⟩:=hxy
         cases hs
         refine zbq (s:=Instr.indexAt t (a.eval x) (a.eval i)) rfl ?_ (zge _ _ _)
         rw [he,he,hx,hi]
         obtain ⟨hpre,had⟩:=hr.foc b hb (.lit x') ti.size hbi hfoc
         simp only [Instr.indexAt,SV.den,BA.den,Seg.adr,had,asIntOf,Sem.run_bind,Sem.run_pure,Result.andThen,run_underlying hu]
         rw [if_pos ⟨of_decide_eq_true h1',of_decide_eq_true h2'⟩]
         simp only [Sem.run_bind,zfe hti,Result.andThen,Sem.run_pure,zlx,hpre,E.den]
         rw [show y'.toNat = x'.toNat + (y' - x').toNat by omega,Nat.add_mul,Nat.add_assoc]
        ·cases hs
       ·cases hs
     ·cases hs
    ·cases hs
   ·cases hs
  ·cases hs
 case load t x=>
  split at hs
  ·rename_i b o hx
   refine zbq (s:=Instr.loadAt t (a.eval x)) rfl ?_ (zlb _ _)
   rw [he,hx]
   exact sload_ok hr hs
  ·cases hs
 case nilCheck x=>
  have hx:=he x
  split at hs <;> first | (cases hs; done) | skip
  all_goals
   rename_i hq
   cases hs
   rw [hq] at hx
   refine ⟨?_,?_⟩
   ·simp only [execOp,hx,SV.den]
    rfl
   ·simp only [execOp,hx,SV.den]
    trivial
 case binOp op t x y u=>
  obtain ⟨h1,h2⟩:=sbin_ok hf (w:=w) (x:=x) (y:=y) (Y:=Y) rfl hs
  rw [<- he,<- he] at h1 h2
  exact zbq (s:=binS op t x y (a.eval x) (a.eval y)) rfl h1 h2
 case unOp op t x=>
  split at hs
  ·rename_i b hx
   cases hs
   refine zbq (s:=Op.unary .not (a.eval x)) rfl ?_ (zmr _ _)
   rw [he,hx]
   simp [SV.den,zk7,Op.unary]
  ·cases hs
 case convert src dst x=>
  split at hs
  ·rename_i k e k' k2 hx h1 h2
   cases hs
   have hx' : a.eval x = .int k (e.den Y):=by rw [he,hx]; rfl
   refine ⟨?_,zdq rfl hx' h2⟩
   simp [execOp,hx',convert,Sem.run_bind,run_underlying h1,run_underlying h2,Result.andThen,Conv.intToInt,SV.den,mkCv_den]
  ·cases hs
 case fieldAddr s x f=>
  split at hs
  ·rename_i b o t n hx hf
   split at hs
   ·rename_i i hi
    split at hs
    ·cases hs
    ·rename_i h0
     cases hs
     refine zbq (s:=Instr.fieldAt s (a.eval x) f) rfl ?_ (zj4 _ _ _)
     unfold zov at hf
     split at hf
     ·rename_i fs hu
      split at hf
      ·rename_i fd hfd
       cases hf
       rw [he,hx]
       simp [Instr.fieldAt,Sem.run_bind,run_underlying hu,Result.andThen,hfd,SV.den,Instr.sureAddr,fieldPlace,zfe hi,h0,zlx,Nat.add_assoc]
      ·cases hf
     ·cases hf
   ·cases hs
  ·cases hs
 case build t parts=>
  split at hs
  ·rename_i cs hb
   cases hs
   refine zbq (s:=Instr.build t (parts.map fun x=>(x.1,a.eval x.2))) rfl ?_ (zmu _ _)
   have hbuilt : P.built t ((parts.toList.map fun x=>(x.1,sev tmps x.2)).map fun x=>(x.1,x.2.den Y)) = some (za3 Y cs).toArray:=by
    unfold sbuilt at hb
    unfold Program.built
    split at hb
    ·rename_i it n e h1 h2
     simp only [h1,h2]
     split at hb
     ·rename_i z ie h3 h4
      simp only [h3,h4]
      have:=zjt (Y:=Y) hr.ys _ _ _ _ hb
      rw [zlu] at this
      exact this
     ·cases hb
    ·rename_i it fields h1 h2
     simp only [h1,h2]
     split at hb
     ·rename_i z places h3 h4
      simp only [h3,h4]
      have:=zjt (Y:=Y) hr.ys _ _ _ _ hb
      rw [zlu] at this
      exact this
     ·cases hb
    ·cases hb
   refine run_build w t _ _ ?_
   rw [<- hbuilt]
   congr 1
   simp [he]
  ·cases hs
 case field s x f=>
  split at hs
  ·rename_i l t n hx hf
   refine zbq (s:=Instr.field s (a.eval x) f) rfl ?_ (zmt _ _ _)
   unfold zov at hf
   split at hf
   ·rename_i fs hu
    split at hf
    ·rename_i fd hfd
     cases hf
     rw [he,hx]
     simp only [Instr.field,Sem.run_bind,run_underlying hu,Result.andThen,hfd,SV.den,asAgg,Sem.run_pure]
     exact zn8 hs
    ·cases hf
   ·cases hf
  ·cases hs
 case makeFunc fn first captured=>
  cases fn <;> simp only at hs <;> first | (cases hs; done) | skip
  cases hs
  refine zbq (s:=Instr.makeFunc (.func _) (first.map a.eval) (captured.map a.eval)) rfl ?_ trivial
  rw [hm,hm]
  rfl
 case makeInterface t x=>
  split at hs <;> first | (cases hs; done) | skip
  rename_i d hni hd
  cases hs
  refine zbq (s:=Instr.makeInterface t (a.eval x)) rfl ?_ (zep _ _)
  rw [he]
  simp only [Instr.makeInterface,Sem.run_bind,run_underlying hd,Result.andThen]
  cases d <;> first | rfl | (exact absurd rfl (hni _))
 case typeAssert x xt t ok=>
  cases ok <;> simp only at hs
  ·cases hs
  ·split at hs
   ·rename_i want hu
    refine zbq (s:=Instr.typeAssert (a.eval x) xt t true) rfl ?_ (zgc _ _ _ _)
    rw [he]
    split at hs
    ·rename_i hx
     rw [hx]
     split at hs
     ·rename_i z hz
      cases hs
      obtain ⟨j,hj,hz'⟩:=Option.map_eq_some_iff.1 hz
      simp [Instr.typeAssert,SV.den,za3,B.den,run_underlying hu,Result.andThen,zeroValue,typeInfo,hj,hz']
     ·cases hs
    ·rename_i d v hx
     rw [hx]
     split at hs
     ·rename_i hl
      cases hs
      exact run_typeAssert_hasB hu hl _ _ _
     ·rename_i hl
      split at hs
      ·rename_i z hz
       cases hs
       exact run_typeAssert_lacksB hu hl hz _ _ _
      ·cases hs
     ·cases hs
    ·cases hs
   ·cases hs
 case extract x i=>
  split at hs
  ·rename_i l hx
   refine zbq (s:=Instr.extract (a.eval x) i) rfl ?_ (zj5 _ _)
   rw [he,hx]
   simp only [Instr.extract,SV.den,List.getElem?_toArray,zgw,hs,Option.map_some]
   rfl
  ·cases hs
end
end
section
/-! ### New blocks don't change what the zez stand for -/
def Env.more (Y : Env) (l : List Seg) (m : List (List Nat)) : Env:={ Y with blks:=Y.blks ++ l,perms:=Y.perms ++ m }
def Ext (Y Y' : Env) : Prop:=∃ l m,Y' = Y.more l m
theorem Ext.refl (Y : Env) : Ext Y Y:=⟨[],[],by simp [Env.more]⟩
theorem Ext.trans {a b c : Env} (h : Ext a b) (k : Ext b c) : Ext a c:=by
 obtain ⟨l,l',rfl⟩:=h
 obtain ⟨m,m',rfl⟩:=k
 exact ⟨l ++ m,l' ++ m',by simp [Env.more]⟩
section
variable {Y : Env} {l : List Seg} {m₀ : List (List Nat)}
theorem zf8 (e : E) : E.den (Y.more l m₀) e = e.den Y:=by
 induction e with
 | lit n=>rfl
 | v i=>rfl
 | ar o k a b ha hb=>simp only [E.den,ha,hb]
 | cv k a ha=>simp only [E.den,ha]
 | tn a ha=>simp only [E.den,ha]
 | ad a b ha hb=>simp only [E.den,ha,hb]
 | su a b ha hb=>simp only [E.den,ha,hb]
theorem B_ext (b : B) : B.den (Y.more l m₀) b = b.den Y:=by
 induction b with
 | lit n=>rfl
 | v i=>rfl
 | cmp o a b=>simp only [B.den,zf8]
 | no a ha=>simp only [B.den,ha]
 | eq a b ha hb=>simp only [B.den,ha,hb]
 | and a b ha hb=>simp only [B.den,ha,hb]
theorem zb6 {α : Type} (l m : List α) (i : Nat) (d : α) (h : i < l.length) : (l ++ m).getD i d = l.getD i d:=by
 simp only [List.getD_eq_getElem?_getD]
 rw [List.getElem?_append_left h]
theorem zgk {α : Type} (l : List α) (g d : α) : (l ++ [g]).getD l.length d = g:=by
 simp [List.getD_eq_getElem?_getD]
theorem BA_ext (n : Nat) (hn : n <= Y.blks.length) : ∀ (a : BA),a.sc n = true -> a.den (Y.more l m₀) = a.den Y
 | .blk b,h=>by
  simp only [BA.sc,decide_eq_true_eq] at h
  simp only [BA.den,Env.more]
  rw [zb6 _ _ _ _ (by omega)]
 | .sh a x y k,h=>by
  simp only [BA.sc] at h
  simp only [BA.den,zf8,BA_ext n hn a h]
theorem CP_ext (n : Nat) (hn : n <= Y.blks.length) (c : CP) (h : c.sc n = true) : c.den (Y.more l m₀) = c.den Y:=by
 cases c with
 | e a=>simp only [CP.den,zf8]
 | of b k=>
  simp only [CP.sc,decide_eq_true_eq] at h
  simp only [CP.den,Env.more]
  rw [zb6 _ _ _ _ (by omega)]
theorem BA_perm (a : BA) : a.den (Y.more [] m₀) = a.den Y:=by
 induction a with
 | blk b=>simp only [BA.den,Env.more,List.append_nil]
 | sh a x y k ih=>simp only [BA.den,zf8,ih]
theorem CP_perm (c : CP) : c.den (Y.more [] m₀) = c.den Y:=by
 cases c with
 | e a=>simp only [CP.den,zf8]
 | of b k=>simp only [CP.den,Env.more,List.append_nil]
mutual
theorem SV_ext (n : Nat) (hn : n <= Y.blks.length) : ∀ (v : SV),v.sc n = true -> SV.den (Y.more l m₀) v = v.den Y
 | .int k e,_=>by simp only [SV.den,zf8]
 | .bool b,_=>by simp only [SV.den,B_ext]
 | .nilp,_=>rfl
 | .ptr b o,h=>by
  simp only [SV.sc,decide_eq_true_eq] at h
  simp only [SV.den,Env.more]
  rw [zb6 _ _ _ _ (by omega)]
 | .sl a x c,h=>by
  simp only [SV.sc,Bool.and_eq_true] at h
  simp only [SV.den,zf8,BA_ext n hn a h.1,CP_ext n hn c h.2]
 | .func f a c,h=>by
  simp only [SV.sc,Bool.and_eq_true] at h
  simp only [SV.den,zai n hn a h.1,zai n hn c h.2]
 | .iface t v,h=>by
  simp only [SV.sc] at h
  simp only [SV.den,SV_ext n hn v h]
 | .agg l,h=>by
  simp only [SV.sc] at h
  simp only [SV.den,zai n hn l h]
 | .tup l,h=>by
  simp only [SV.sc] at h
  simp only [SV.den,zai n hn l h]
 | .x i,_=>rfl
 | .y i,_=>rfl
 | .c v,_=>rfl
theorem zai (n : Nat) (hn : n <= Y.blks.length) : ∀ (m : List SV),scs n m = true -> za3 (Y.more l m₀) m = za3 Y m
 | [],_=>rfl
 | v :: m,h=>by
  simp only [scs,Bool.and_eq_true] at h
  simp only [za3,SV_ext n hn v h.1,zai n hn m h.2]
end
theorem zka {P : Program} {fn : FuncId} (k : List It) : k.map (It.den P (Y.more l []) fn) = k.map (It.den P Y fn):=by
 refine List.map_congr_left fun x _=>?_
 cases x <;> first | rfl | (simp only [It.den,Env.more,List.append_nil])
theorem zfj {P : Program} {fn : FuncId} (n : Nat) (hn : n <= Y.perms.length) : ∀ (k : List It),zjf n k = true -> k.map (It.den P (Y.more l m₀) fn) = k.map (It.den P Y fn)
 | [],_=>rfl
 | x :: k,h=>by
  cases x with
  | lin p ord rest j=>
   simp only [zjf,Bool.and_eq_true,decide_eq_true_eq] at h
   have ih:=zfj (P:=P) (fn:=fn) n hn k h.2
   have hj : (Y.more l m₀).perms.getD j [] = Y.perms.getD j []:=zb6 _ _ _ _ (by omega)
   simp only [List.map_cons,ih,It.den,hj]
  | code c=>simp only [zjf] at h; simp only [List.map_cons,zfj n hn k h]; rfl
  | inBlock id=>simp only [zjf] at h; simp only [List.map_cons,zfj n hn k h]; rfl
  | inLoop c=>simp only [zjf] at h; simp only [List.map_cons,zfj n hn k h]; rfl
  | inScope p=>simp only [zjf] at h; simp only [List.map_cons,zfj n hn k h]; rfl
  | inRegion p t=>simp only [zjf] at h; simp only [List.map_cons,zfj n hn k h]; rfl
theorem zgl {P : Program} (n : Nat) (hn : n <= Y.blks.length) : ∀ (m : List Fr),zm5 n m = true -> m.map (Fr.den P (Y.more l [])) = m.map (Fr.den P Y)
 | [],_=>rfl
 | f :: m,h=>by
  simp only [zm5,Bool.and_eq_true] at h
  simp only [List.map_cons,zgl n hn m h.2,Fr.den,Fr.act,zai n hn _ h.1,zka]
mutual
theorem SV_perm : ∀ (v : SV),SV.den (Y.more [] m₀) v = v.den Y
 | .int k e=>by simp only [SV.den,zf8]
 | .bool b=>by simp only [SV.den,B_ext]
 | .nilp=>rfl
 | .ptr b o=>by simp only [SV.den,Env.more,List.append_nil]
 | .sl a x c=>by simp only [SV.den,zf8,BA_perm,CP_perm]
 | .func f a c=>by simp only [SV.den,zcj a,zcj c]
 | .iface t v=>by simp only [SV.den,SV_perm v]
 | .agg l=>by simp only [SV.den,zcj l]
 | .tup l=>by simp only [SV.den,zcj l]
 | .x i=>rfl
 | .y i=>rfl
 | .c v=>rfl
theorem zcj : ∀ (m : List SV),za3 (Y.more [] m₀) m = za3 Y m
 | []=>rfl
 | v :: m=>by simp only [za3,SV_perm v,zcj m]
end
theorem zos {P : Program} (n : Nat) (hn : n <= Y.perms.length) : ∀ (m : List Fr),scTodo n m = true -> m.map (Fr.den P (Y.more [] m₀)) = m.map (Fr.den P Y)
 | [],_=>rfl
 | f :: m,h=>by
  simp only [scTodo,Bool.and_eq_true] at h
  simp only [List.map_cons,zos n hn m h.2,Fr.den,Fr.act,zcj,zfj n hn _ h.1]
theorem ze0 (n : Nat) (hn : n <= Y.blks.length) : ∀ (h : List HB),zcq n h = true -> ∀ (i : Nat) (hb : HB),h[i]? = some hb -> za3 (Y.more l m₀) hb.cs = za3 Y hb.cs
 | [],_,i,hb,hi=>by simp at hi
 | x :: h,hh,i,hb,hi=>by
  simp only [zcq,Bool.and_eq_true] at hh
  cases i with
  | zero=>simp at hi; subst hi; exact zai n hn _ hh.1.1
  | succ i=>exact ze0 n hn h hh.2 i hb (by simpa using hi)
end
section
variable {P : Program} {γ : Type} {X : zad γ} {Stop : γ -> Frame -> List Frame -> World -> Prop} {s : γ} {S : Nat -> Prop} {w₀ w : World} {Y : Env} {cs₀ : List Frame}
def zd9 (Y : Env) : Option Nat -> List Value
 | none=>[]
 | some b=>(Y.blks.getD b {}).pre
theorem apv_ext {Y : Env} {l : List Seg} {m₀ : List (List Nat)} (n : Nat) (hn : n <= Y.blks.length) (o : Option Nat) (cs : List SV) (h1 : scAp n (some (o,cs)) = true) : zd9 (Y.more l m₀) o ++ za3 (Y.more l m₀) cs = zd9 Y o ++ za3 Y cs:=by
 simp only [scAp,Bool.and_eq_true] at h1
 rw [zai n hn _ h1.2]
 cases o with
 | none=>rfl
 | some b=>
  have h2 : b < n:=by simpa using h1.1
  simp only [zd9]
  rw [show (Y.more l m₀).blks.getD b {} = Y.blks.getD b {} from zb6 _ _ _ _ (by omega)]
theorem ap_ext {Y : Env} {l : List Seg} {m₀ : List (List Nat)} (n : Nat) (hn : n <= Y.blks.length) : ∀ (h : List HB),zcq n h = true -> ∀ (i : Nat) (hb : HB) (o : Option Nat) (cs : List SV),h[i]? = some hb -> hb.ap = some (o,cs) -> zd9 (Y.more l m₀) o ++ za3 (Y.more l m₀) cs = zd9 Y o ++ za3 Y cs
 | [],_,i,hb,o,cs,hi,_=>by simp at hi
 | x :: h,hh,i,hb,o,cs,hi,ha=>by
  simp only [zcq,Bool.and_eq_true] at hh
  cases i with
  | zero=>
   simp at hi; subst hi
   have h1:=hh.1.2
   rw [ha] at h1
   exact apv_ext n hn o cs h1
  | succ i=>exact ap_ext n hn h hh.2 i hb o cs (by simpa using hi) ha
structure Rep (X : zad γ) (s : γ) (S : Nat -> Prop) (w₀ : World) (Y : Env) (h : List HB) (facts : List (B × Bool)) (np : Nat) (w : World) : Prop where
 there : X.there s w
 rep : HRep Y h w
 len : Y.blks.length = h.length
 nd : ∀ i j hi hb,h[i]? = some hi -> hi.live = true -> h[j]? = some hb -> hb.wr = true -> i ≠ j -> (Y.blks.getD i {}).g ≠ (Y.blks.getD j {}).g
 bnd : ∀ i,i < h.length -> (Y.blks.getD i {}).g < w.heap.size
 own : ∀ i hb,h[i]? = some hb -> hb.wr = true -> ¬ X.oth s (Y.blks.getD i {}).g
 chg : Chg S w₀ w
 inS : ∀ i hb,h[i]? = some hb -> hb.wr = true -> S (Y.blks.getD i {}).g \/ w₀.heap.size <= (Y.blks.getD i {}).g
 facts : ∀ p ∈ facts,p.1.den Y = p.2
 np : Y.perms.length = np
 aps : ∀ i hb o cs,h[i]? = some hb -> hb.ap = some (o,cs) -> (Y.blks.getD i {}).pre = zd9 Y o ++ za3 Y cs
def Fr.reach (P : Program) (X : zad γ) (Stop : γ -> Frame -> List Frame -> World -> Prop) (s : γ) (cs₀ : List Frame) (Y : Env) (frs : List Fr) (w : World) : Prop:=match frs with
 | []=>False
 | fr :: rest=>Jay.Reach P X Stop s (fr.den P Y) (rest.map (Fr.den P Y) ++ cs₀) w
theorem zau {fn : FuncId} {p : List Nat} {c : Code} (h : zbo P fn p = some c) : (CE.at_ p).den P fn = c:=by simp [CE.den,h]
theorem walk_L {c d e : Code} {p : List Nat} (h : walk c p = some d) (he : child 0 d = some e) : walk c (pL p) = some e:=by simp [pL,walk,h,he]
theorem right_add : ∀ (n : Nat) (c d e : Code),ze7 n c = some d -> ze7 1 d = some e -> ze7 (n + 1) c = some e
 | 0,c,d,e,h,he=>by simp [ze7] at h; subst h; exact he
 | n + 1,c,d,e,h,he=>by
  cases c <;> simp only [ze7] at h <;> first | (cases h; done) | (simp only [ze7]; exact right_add n _ d e h he)
theorem walk_R {c d e : Code} {p : List Nat} (h : walk c p = some d) (he : ze7 1 d = some e) : walk c (pR p) = some e:=by
 unfold pR
 split
 ·rename_i n r
  simp only [walk] at h ⊢
  cases hr : walk c r with
  | none=>rw [hr] at h; cases h
  | some x=>
   rw [hr] at h
   simp only [child] at h ⊢
   exact right_add (n + 1) x d e h he
 ·rename_i hne
  simp only [walk,h,child]
  exact he
theorem zfo {fn : FuncId} {p : List Nat} {d e : Code} (h : zbo P fn p = some d) (he : child 0 d = some e) : zbo P fn (pL p) = some e:=by
 unfold zbo at h ⊢
 cases hb : bodyOf P fn with
 | none=>rw [hb] at h; cases h
 | some c=>rw [hb] at h; exact walk_L h he
theorem zkb {fn : FuncId} {p : List Nat} {d e : Code} (h : zbo P fn p = some d) (he : ze7 1 d = some e) : zbo P fn (pR p) = some e:=by
 unfold zbo at h ⊢
 cases hb : bodyOf P fn with
 | none=>rw [hb] at h; cases h
 | some c=>rw [hb] at h; exact walk_R h he
theorem put_act (fr : Fr) (dst : Option Tmp) (v : SV) (todo : List It) : (fr.act Y).put dst (v.den Y) = (fr.put dst v todo).act Y:=by
 cases dst with
 | none=>rfl
 | some d=>
  simp only [Act.put,Fr.act,Fr.put,dens_set,List.setIfInBounds_toArray]
theorem zhg (fr : Fr) (dst : Option Tmp) (v : SV) (p : List Nat) (todo : List Nat) (k : List It) :
  (fr.put dst v (.inRegion p todo :: k)).den P Y = (base fr.fn).at ((fr.act Y).put dst (v.den Y)) (.inRegion (za1 P fr.fn p) todo :: k.map (It.den P Y fr.fn)):=by
 rw [put_act fr dst v (.inRegion p todo :: k)]
 cases dst <;> rfl
theorem zit (fr : Fr) (p : List Nat) (todo : List Nat) (k : List It) (ht : fr.todo = .inRegion p todo :: k) : fr.den P Y = (base fr.fn).at (fr.act Y) (.inRegion (za1 P fr.fn p) todo :: k.map (It.den P Y fr.fn)):=by
 unfold Fr.den
 rw [ht]
 rfl
theorem ze6 (fn : FuncId) (id : Nat) : ∀ (k k' : List It),sExit id k = some k' -> exitTo id (k.map (It.den P Y fn)) = some (k'.map (It.den P Y fn))
 | [],k',h=>by cases h
 | x :: k,k',h=>by
  cases x with
  | inBlock id'=>
   simp only [sExit] at h
   simp only [List.map_cons,It.den,exitTo]
   split at h
   ·rename_i he; rw [if_pos he]; cases h; rfl
   ·rename_i he; rw [if_neg he]; exact ze6 fn id k k' h
  | code c=>exact ze6 fn id k k' h
  | inLoop c=>exact ze6 fn id k k' h
  | inScope c=>exact ze6 fn id k k' h
  | inRegion p t=>exact ze6 fn id k k' h
  | lin p o r j=>exact ze6 fn id k k' h
theorem zkq (fn : FuncId) (l : Nat) : ∀ (c : Code) (p : List Nat),zbo P fn p = some c -> (findLabel c l) = (sFind l c p).map (CE.den P fn)
 | .seq a b,p,h=>by
  have ha:=zkq fn l a (pL p) (zfo h rfl)
  have hb:=zkq fn l b (pR p) (zkb h rfl)
  simp only [findLabel,sFind,ha]
  cases hs : sFind l a (pL p) with
  | none=>simp only [Option.map_none]; exact hb
  | some r=>simp only [Option.map_some,CE.den,zkb h rfl,Option.getD_some]
 | .label l',p,h=>by
  simp only [findLabel,sFind]
  split <;> rfl
 | .skip,p,h=>rfl
 | .region ..,p,h=>rfl
 | .cond ..,p,h=>rfl
 | .block ..,p,h=>rfl
 | .loop ..,p,h=>rfl
 | .rangeFunc ..,p,h=>rfl
 | .exit ..,p,h=>rfl
 | .scope ..,p,h=>rfl
 | .goto ..,p,h=>rfl
 | .ret,p,h=>rfl
 | .refuse ..,p,h=>rfl
theorem ze5 (fn : FuncId) (l : Nat) : ∀ (k k' : List It),sGoto P fn l k = some k' -> gotoIn l (k.map (It.den P Y fn)) = some (k'.map (It.den P Y fn))
 | [],k',h=>by cases h
 | x :: k,k',h=>by
  cases x with
  | inBlock id'=>exact ze5 fn l k k' h
  | code c=>exact ze5 fn l k k' h
  | inLoop c=>exact ze5 fn l k k' h
  | inRegion p t=>exact ze5 fn l k k' h
  | lin p o r j=>exact ze5 fn l k k' h
  | inScope p=>
   simp only [sGoto] at h
   split at h
   ·rename_i c hc
    have hf:=zkq fn l c p hc
    simp only [List.map_cons,It.den,gotoIn,hc,Option.getD_some,hf]
    split at h
    ·rename_i r hr
     cases h
     simp only [hr,Option.map_some,List.map_cons,It.den,hc,Option.getD_some]
    ·rename_i hr
     simp only [hr,Option.map_none]
     exact ze5 fn l k k' h
   ·cases h
/-! ### Results -/
theorem zhx {f : ResultVar -> Sem Value} : ∀ (l : List ResultVar) (vs : List Value),l.length = vs.length -> (∀ (i : Nat) (r : ResultVar) (v : Value),l[i]? = some r -> vs[i]? = some v -> (f r).run P w = .ok v w) -> (l.mapM f).run P w = .ok vs w
 | [],[],_,_=>rfl
 | r :: l,v :: vs,hl,h=>by
  have h0:=h 0 r v rfl rfl
  have ih:=zhx l vs (by simpa using hl) (fun i r v hr hv=>h (i + 1) r v (by simpa using hr) (by simpa using hv))
  simp only [List.mapM_cons,Sem.run_bind,h0,Result.andThen,ih,Sem.run_pure]
 | [],_ :: _,hl,_=>by simp at hl
 | _ :: _,[],hl,_=>by simp at hl
def resF (tmps : Array Value) (r : ResultVar) : Sem Value:=match r with
 | .tmp t=>pure (tmps.getD t undef)
 | .cell a t=>do loadVar t (<- asAddr (tmps.getD a undef))
theorem results_eq (fn : Func) (tmps : Array Value) : results fn tmps = (do let vs <- fn.results.mapM (resF tmps); pure (if h : vs.size = 1 then vs[0] else .tuple vs) : Sem Value):=rfl
theorem zil {h : List HB} (hr : HRep Y h w) (tmps : List SV) : ∀ (l : List ResultVar) (vs : List SV),zga P h tmps l = some vs -> l.length = vs.length /\ ∀ (i : Nat) (r : ResultVar) (v : Value),l[i]? = some r -> (za3 Y vs)[i]? = some v ->
  (resF (za3 Y tmps).toArray r).run P w = .ok v w
 | [],vs,hh=>by
  cases hh
  exact ⟨rfl,fun i r v hl=>by simp at hl⟩
 | .tmp t :: l,vs,hh=>by
  simp only [zga] at hh
  cases hq : zga P h tmps l with
  | none=>rw [hq] at hh; cases hh
  | some us=>
   rw [hq] at hh
   cases hh
   obtain ⟨h1,h2⟩:=zil hr tmps l us hq
   refine ⟨by simp [h1],fun i r v hl hv=>?_⟩
   cases i with
   | zero=>
    simp only [List.getElem?_cons_zero,Option.some.injEq,za3] at hl hv
    subst hl hv
    have:=zcz (Y:=Y) tmps (.tmp t)
    simp only [Act.eval,sev] at this
    simp only [resF,this,Sem.run_pure]
   | succ i=>exact h2 i r v (by simpa using hl) (by simpa [za3] using hv)
 | .cell a t :: l,vs,hh=>by
  simp only [zga] at hh
  split at hh
  ·rename_i b o hp
   split at hh
   ·rename_i v us hv hq
    cases hh
    obtain ⟨h1,h2⟩:=zil hr tmps l us hq
    refine ⟨by simp [h1],fun i r u hl hu=>?_⟩
    cases i with
    | zero=>
     simp only [List.getElem?_cons_zero,Option.some.injEq,za3] at hl hu
     subst hl hu
     have:=zcz (Y:=Y) tmps (.tmp a)
     simp only [Act.eval,sev,hp] at this
     simp only [resF,this,SV.den,asAddr,Sem.run_bind,Sem.run_pure,Result.andThen]
     exact sload_ok hr hv
    | succ i=>exact h2 i r u (by simpa using hl) (by simpa [za3] using hu)
   ·cases hh
  ·cases hh
theorem packed_den (l : List SV) : (packed l).den Y = if h : (za3 Y l).toArray.size = 1 then (za3 Y l).toArray[0] else .tuple (za3 Y l).toArray:=by
 match l with
 | []=>rfl
 | [v]=>rfl
 | a :: b :: l=>
  rw [dif_neg (by simp [za3])]
  rfl
theorem zjz {h : List HB} (hr : HRep Y h w) {fr : Fr} {v : SV} (hv : retOf P h fr = some v) : ∃ fn,P.funcs[fr.fn]? = some fn /\ (results fn (fr.act Y).tmps).run P w = .ok (v.den Y) w:=by
 unfold retOf at hv
 split at hv
 ·rename_i fn hf
  refine ⟨fn,hf,?_⟩
  cases hq : zga P h fr.tmps fn.results.toList with
  | none=>rw [hq] at hv; cases hv
  | some l=>
   rw [hq] at hv
   cases hv
   obtain ⟨h1,h2⟩:=zil hr fr.tmps fn.results.toList l hq
   have hrun:=zhx (P:=P) (w:=w) fn.results.toList (za3 Y l) (by rw [za8]; exact h1) h2
   rw [results_eq,Array.mapM_eq_mapM_toList]
   simp only [Sem.run_bind,map_eq_pure_bind,Fr.act,hrun,Result.andThen,Sem.run_pure,packed_den]
 ·cases hv
/-! ### The zji -/
theorem zhf {fn : FuncId} {a : Act} {k : List Item} {cs : List Frame} {ops : Array Oper} {i : Nat} {rest : List Nat} {o : Oper} {v : Value} {w' : World} (ho : ops[i]? = some o) (hw : Region.wanted o (yielded ops a.tmps) = true) (hf : ziw P (X.oth s) fn o a w)
  (hr : (execOp a.eval o).run P w = .ok (.value v) w') (h : Jay.Reach P X Stop s ((base fn).at (a.put o.dst v) (.inRegion ops rest :: k)) cs w') : Jay.Reach P X Stop s ((base fn).at a (.inRegion ops (i :: rest) :: k)) cs w:=by
 unfold ziw at hf
 rw [hr] at hf
 exact .step (fun _=>stepG_value ho hw (by simp [base]) hr) hf h
theorem reach_none {fn : FuncId} {a : Act} {k : List Item} {cs : List Frame} {ops : Array Oper} {i : Nat} {rest : List Nat} {o : Oper} {w' : World} (ho : ops[i]? = some o) (hw : Region.wanted o (yielded ops a.tmps) = true) (hf : ziw P (X.oth s) fn o a w)
  (hr : (execOp a.eval o).run P w = .ok .skip w') (h : Jay.Reach P X Stop s ((base fn).at (a.put o.dst undef) (.inRegion ops rest :: k)) cs w') : Jay.Reach P X Stop s ((base fn).at a (.inRegion ops (i :: rest) :: k)) cs w:=by
 unfold ziw at hf
 rw [hr] at hf
 exact .step (fun _=>stepG_none ho hw (by simp [base]) hr) hf h
theorem zey {facts : List (B × Bool)} (hf : ∀ p ∈ facts,p.1.den Y = p.2) (ops : Array Oper) (tmps : List SV) (o : Oper) :
  (guardOf facts ops tmps o = .yes -> Region.wanted o (yielded ops (za3 Y tmps).toArray) = true) /\ (guardOf facts ops tmps o = .no -> Region.wanted o (yielded ops (za3 Y tmps).toArray) = false):=by
 unfold guardOf Region.wanted
 cases o.guard with
 | none=>exact ⟨fun _=>rfl,fun h=>(nomatch h)⟩
 | some g=>
  obtain ⟨j,want⟩:=g
  simp only [yielded]
  cases (ops[j]?).bind (·.dst) with
  | none=>exact ⟨fun h=>(nomatch h),fun _=>rfl⟩
  | some d=>
   simp only [Option.bind_some,List.getElem?_toArray,zgw]
   cases tmps[d]? with
   | none=>exact ⟨fun h=>(nomatch h),fun _=>rfl⟩
   | some v=>
    simp only [Option.map_some]
    cases v
    case bool b=>
     simp only [SV.den]
     cases hl : b.look facts with
     | none=>exact ⟨fun h=>(nomatch h),fun h=>(nomatch h)⟩
     | some t=>
      have:=zd3 hf b t hl
      rw [this]
      by_cases htw : t = want
      ·subst htw; simp
      ·simp only [if_neg htw]
       refine ⟨fun h=>(nomatch h),fun _=>?_⟩
       cases t <;> cases want <;> first | rfl | exact absurd rfl htw
    case c u=>cases u <;> simp [SV.den]
    all_goals simp [SV.den]
end
end
end Go.Proofs.Ytonhfgjofgbcdaa.Sx
