/-  'DriveRaws': whatever the config, the accesses and the picks: the law answers true, and each argument reads afterwards as before. No condition. -/
import Derived.Test.YtonhfgjofgbcdaaRws37
import Derived.Test.YtonhfgjofgbcdaaRws40
import Derived.Test.YtonhfgjofgbcdaaRows
import Derived.ProofKit
import Derived.OpenShut
import Derived.ShutString
import Derived.ChangeOld
set_option linter.unusedSimpArgs false
set_option linter.unusedVariables false
set_option maxRecDepth 20000
namespace Go.Proofs.Ytonhfgjofgbcdaa.driveRaws
open Go Go.Conc Go.ChangeShapes Go.WideShapes Go.ChangeAt Go.RowKit Jay Op Lw Dr
set_option maxRecDepth 100000
theorem own : ownKnob Try.prog.godebug = none:=by kernel_rfl
theorem laid : laidOutB Try.prog = true:=by kernel_rfl
theorem rec_cfg : Try.prog.readableRec 36 = true:=by kernel_rfl
theorem rec_lls : Try.prog.readableRec 47 = true:=by kernel_rfl
theorem rec_picks : Try.prog.readableRec 48 = true:=by kernel_rfl
theorem row_cfg : 36 < Try.prog.types.size:=by decide +kernel
theorem row_lls : 47 < Try.prog.types.size:=by decide +kernel
theorem row_picks : 48 < Try.prog.types.size:=by decide +kernel
theorem called {W : World} {k K Tn Mn : Int} {vL vP : Value} {l : List (List Ac)} {picks : List (Int × Int)} (hL : Lls W W.heap.size vL l) (hP : Sl W W.heap.size 2 vP picks.length (picks.flatMap pkC)) (hlm : l.length <= 5864062014805) (hbig : ∀ xs ∈ l,xs.length <= 8796093022207) :
  Calls Try.prog 5 #[St.cfg k K Tn Mn,vL,vP] W fun e W'=>e = .returned (.bool true) /\ Below W.heap.size W W':=by
 refine Sx.calls_of_t (raws03 (X:=alone) (s:=()) hL hP hlm hbig) rfl ?_
 rintro v w' ⟨hb,_,hr⟩
 injection hr with hr
 exact ⟨by rw [hr],hb⟩
theorem lifted (os : Os) (started : os.Started) (H : Type) (enc : TypeId × Value -> H) :
  ReturnsInHanded {} Try.checked os 5 .any (Rows.driveRawsSpec.pre6 enc Try.prog Try.f5 Rows.driveRawsRow.domain false) (Rows.driveRawsSpec.post enc Try.prog Try.f5 false true false false):=by
 refine returnsInHanded_of_change_sized (C:=Try.checked) own started (by kernel_rfl) Try.func5
  (ChangeSpec.witness6 (enc:=enc) (C:=Try.checked) false ⟨#[], #[.agg #[.int .i64 0,.int .i64 0,.int .i64 0,.int .i64 0],.slice none 0 0,.slice none 0 0],[]⟩ 8 (by kernel_rfl) (by kernel_rfl) (by kernel_rfl) (by kernel_rfl)) ?_
 intro W base args ds gs before hval0 hW hcnd hsz0 _
 have hval : ∀ (j : Nat) t v,Try.f5.params[j]? = some t -> args[j]? = some v -> Value.okWide Try.prog W .any base t v:=hval0
 have hsz : (DataW.weightsEach Try.prog (Try.f5.params.toList ++ Rows.driveRawsSpec.plain.varTypes Try.prog) (ds ++ gs)).all (· <= reachBytes) = true:=hsz0
 have hW':=hW
 obtain ⟨p,q,hA0,hV,rfl,hfz,hnd⟩:=hW
 have hA : DataW.TrodAll enc Try.prog W 0 (fun _=>true) true Try.f5.params.toList args.toList ds p:=hA0
 rw [Try.params5] at hA hval hsz
 obtain ⟨v0,vs0,d0,ds0,p0,q0,hargs,rfl,rfl,h0,r0⟩:=trodAll_cons hA
 obtain ⟨v1,vs1,d1,ds1,p1,q1,rfl,rfl,rfl,h1,r1⟩:=trodAll_cons r0
 obtain ⟨v2,vs2,d2,ds2,p2,q2,rfl,rfl,rfl,h2,r2⟩:=trodAll_cons r1
 obtain ⟨rfl,rfl,rfl⟩:=trodAll_nil r2
 obtain rfl : args = #[v0,v1,v2]:=by cases args; simp_all
 obtain ⟨rfl,rfl⟩:=trodVars_none hV
 have hlt:=DataW.TrodAll.lt hA
 obtain ⟨k,K,Tn,Mn,rfl⟩:=open_cfg (hval 0 36 v0 rfl rfl) h0
 obtain ⟨l,hl,hlm,hbig⟩ : ∃ l,Lls W W.heap.size v1 l /\ l.length <= 5864062014805 /\ ∀ xs ∈ l,xs.length <= 8796093022207:=by
  obtain ⟨A,n,c,rfl⟩:=okWide_slice und_lls (hval 1 47 v1 rfl rfl)
  obtain ⟨fuel,hf⟩:=h1
  obtain ⟨l,hl,hB⟩:=lls_of_trod hf
  obtain ⟨b1,b2⟩:=hB reachBytes fun n hn=>by
   have:=List.all_eq_true.1 hsz n (DataW.weights_mem_each (j:=1) (t:=47) (d:=d1) rfl rfl n hn)
   simpa using this
  have hrb : reachBytes = 140737488351232:=rfl
  rw [hrb] at b1 b2
  exact ⟨l,hl,by omega,fun xs hx=>by have:=b2 xs hx; omega⟩
 obtain ⟨picks,hp⟩ : ∃ l : List (Int × Int),Sl W W.heap.size 2 v2 l.length (l.flatMap pkC):=by
  obtain ⟨A,n,c,rfl⟩:=okWide_slice und_picks (hval 2 48 v2 rfl rfl)
  obtain ⟨fuel,hf⟩:=h2
  exact pks_of_trod hf
 clear hA0 hval0 hsz0
 refine (called hl hp hlm hbig).mono fun e W' ⟨he,bel⟩=>?_
 subst he
 have k0:=Below.trod laid rec_cfg row_cfg h0 bel (fun x hx=>hlt x (by simp [hx]))
 have k1:=Below.trod laid rec_lls row_lls h1 bel (fun x hx=>hlt x (by simp [hx]))
 have k2:=Below.trod laid rec_picks row_picks h2 bel (fun x hx=>hlt x (by simp [hx]))
 exact ⟨_,rfl,_,_,_,[],_,[],hW',trodAll_mk1 (shut_bool und_bool _),(trodAll_cons_mk k0 (trodAll_cons_mk k1 (trodAll_cons_mk k2 trodAll_mk0))),rfl,bel.frame _,fun h=>by cases h⟩
theorem over : Rows.driveRawsRow.holds Try.pinned (OpenSpec.ofChange Rows.driveRawsSpec):=
 OpenClaim.holds_of_wide 5 Try.f5 rfl rfl rfl rfl rfl rfl rfl ⟨rfl,rfl,rfl,rfl,rfl⟩ rfl rfl rfl rfl rfl (by kernel_rfl) Try.func5 (by kernel_rfl)
  (of_decide_eq_true (by kernel_rfl)) (by unfold Func.isWrapper; first | (rw [if_pos (by decide +kernel)]; kernel_rfl) | (rw [if_neg (by decide +kernel)]; exact ⟨rfl,rfl⟩))
  (fun os started H enc _=>lifted os started H enc)
theorem proved : Rows.DriveRawsSaid:=over
end Go.Proofs.Ytonhfgjofgbcdaa.driveRaws
namespace Go.Proofs.Ytonhfgjofgbcdaa
theorem driveRaws_holds : Rows.DriveRawsSaid:=driveRaws.proved
end Go.Proofs.Ytonhfgjofgbcdaa
