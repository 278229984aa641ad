/- A part of this claim's proof. -/
import Derived.Test.YtonhfgjofgbcdaaRws33
set_option linter.unusedSimpArgs false
set_option linter.unusedVariables false
set_option maxRecDepth 20000
namespace Go.Proofs.Ytonhfgjofgbcdaa.Dr
open Go Go.Conc Go.RowKit Jay Pl
open Sx
noncomputable def yi3 : List SV:=[.int .i64 (.lit 0),.int .u32 (.lit 0),.int .i64 (.lit 0),.int .i64 (.lit 0),.int .i64 (.lit 0)]
noncomputable def yi1 : List SV:=[.int .u64 (.lit 0),.int .u64 (.lit 0)]
noncomputable def yhq : List SV:=yi3 ++ yi1 ++ yi1 ++ [.int .i64 (.lit 0),.c (.slice none 0 0),.bool (.lit false)] ++ yi1 ++ yi3 ++ [.int .i64 (.lit 0)] ++ yi1 ++ [.int .i64 (.lit 0),.int .u32 (.lit 0)]
noncomputable def yi2 : List SV:=[.c (.slice none 0 0),.c (.slice none 0 0)]
noncomputable def yhr : List SV:=yi2 ++ yi1 ++ yi2 ++ yi1 ++ yi2 ++ [.c (.slice none 0 0)]
noncomputable def yhw : List SV:=[.agg [Li 0,Li 1,Li 2,Li 3]]
noncomputable def yi7 : List SV:=yhw ++ yhw ++ [.agg [Lu 4,Lu 5,.y 0,.y 1,Lu 6,Lu 7,.y 2,.y 3,.y 4]]
noncomputable def yhs : List SV:=yi7 ++ [.agg [Li 0,Li 1,Li 2,Li 3,Lu 4,Lu 5,.y 0,.y 1,Lu 6,Lu 7,.y 2,.y 3,.y 4,.c (.slice none 0 0),.c (.slice none 0 0),.c (.slice none 0 0),.c (.slice none 0 0),.c (.slice none 0 0),.int .u64 (.lit 0),.int .u64 (.lit 0),.c (.slice none 0 0),.c (.slice none 0 0),.int .u64 (.lit 0),.int .u64 (.lit 0),.c (.slice none 0 0),.c (.slice none 0 0),.c (.slice none 0 0)],.ptr 1 0] ++ ur 35
noncomputable def yht : List SV:=[.agg [.int .i64 (.lit 0),.int .u32 (.lit 0),.int .i64 (.lit 0),.int .i64 (.lit 0),.int .i64 (.lit 0),.int .u64 (.lit 0),.int .u64 (.lit 0),.int .u64 (.lit 0),.int .u64 (.lit 0),.int .i64 (.lit 0),.c (.slice none 0 0),.bool (.lit false),.int .u64 (.lit 0),.int .u64 (.lit 0),.int .i64 (.lit 0),.int .u32 (.lit 0),.int .i64 (.lit 0),.int .i64 (.lit 0),.int .i64 (.lit 0),.int .i64 (.lit 0),.int .u64 (.lit 0),.int .u64 (.lit 0),.int .i64 (.lit 0),.int .u32 (.lit 0)]]
noncomputable def yi0 : List HB:=[⟨36,[Li 0,Li 1,Li 2,Li 3],true,none,none,none⟩]
noncomputable def yhu : List HB:=yi0 ++ [⟨91,[Li 0,Li 1,Li 2,Li 3,Lu 4,Lu 5,.y 0,.y 1,Lu 6,Lu 7,.y 2,.y 3,.y 4] ++ yi2 ++ [.c (.slice none 0 0)] ++ yhr,true,none,none,none⟩]
noncomputable def yhv : List Fr:=[⟨32,[.x 0,.ptr 0 0,.x 1,.ptr 1 0,Li 0] ++ xr 2 40,[.code (.at_ [0,0,1,0,2]),.inLoop (.at_ [0,0,1,0,2]),.inBlock 0,.code (.at_ [3])]⟩]
noncomputable def yhx : List HB:=[⟨36,[Li 1,Li 2,Li 3,Li 4],false,none,none,none⟩]
noncomputable def yi5 : List SV:=[.ptr 1 0,.ptr 1 0,.ptr 1 0]
noncomputable def yhy : List SV:=[.x 0,.ptr 0 0,.x 1,.ptr 1 0,.int .i64 (.ar .add .i64 (.v 0) (.lit 1))] ++ xr 2 5 ++ [Li 0,.ptr 0 2,Li 3,.bool (.cmp .lss (.v 0) (.v 3)),Li 0,.int .i64 (.ar .add .i64 (.v 0) (.lit 1))] ++ yi5 ++ [.ptr 1 13]
noncomputable def yhz : List SV:=[.y 0,.y 1,.y 2,.y 3,.y 4,.y 5,.y 6,.y 7,.y 8,.y 9,.y 10,.y 11,.y 12]
noncomputable def yi4 : List SV:=yhw ++ [.ptr 0 0,.nilp]
noncomputable def yi6 : List (B × Bool):=[((.cmp .lss (.v 0) (.v 3)),true)]
noncomputable def nw_args : List SV:=yhw
noncomputable def nw_fr : Fr:=⟨32,yhw ++ ur 44,[.code (.at_ [])]⟩
theorem nw_fresh : fresh Try.prog 32 nw_args = some nw_fr:=by kernel_rfl
noncomputable def nwA_in : St:=⟨[⟨32,yhw ++ ur 44,[.code (.at_ [])]⟩],[],[],0⟩
noncomputable def nwA_0 : St:=⟨[⟨32,yi4 ++ ur 42,[.code (.at_ [0,1]),.code (.at_ [2])]⟩],yi0,[],0⟩
theorem nwA_run : run Try.prog [] [18] true 900 nwA_in = [nwA_0]:=by kernel_rfl
noncomputable def nwA_kd (i : Nat) : Nat:=if [2].contains i then 1 else zh0 [] (za1 Try.prog 32 [0,1]) i
noncomputable def nwA_p : List Nat:=[0,1]
noncomputable def nwA_ord : List Nat:=[0,1,2,3,4,5]
theorem nwA_code : zbo Try.prog 32 [0,1] = some (.region 1 (za1 Try.prog 32 [0,1]) true):=by kernel_rfl
theorem nwA_ok : zbk Try.prog (za1 Try.prog 32 nwA_p) (zc0 (za1 Try.prog 32 nwA_p)) nwA_kd nwA_ord = true:=by kernel_rfl
noncomputable def nwS1_ti : List SV:=yi4 ++ ur 42
noncomputable def nwS1_hi : List HB:=yi0
noncomputable def zoi : List SV:=yi4 ++ [u,u] ++ yhw ++ yhw ++ ur 38
noncomputable def nwS1_ho : List HB:=yi0
theorem nwS1_grp : zd7 Try.prog (run Try.prog [] [18] true 900) nwA_0.facts 0 (za1 Try.prog 32 [0,1]) nwA_kd (fun i=>i == 2) nwA_0.frs.tail [0,1,2,3,4,5] nwS1_ti nwS1_hi = .halt [2,3,4,5] zoi nwS1_ho:=by kernel_rfl
noncomputable def nwS_op : Oper:=(za1 Try.prog 32 [0,1]).getD 2 default
theorem nwS_at : (za1 Try.prog 32 [0,1])[2]? = some nwS_op:=by kernel_rfl
theorem nwS_kdi : nwA_kd 2 = 1:=by kernel_rfl
theorem nwS_gd : guardOf [] (za1 Try.prog 32 [0,1]) zoi nwS_op = .yes:=by kernel_rfl
noncomputable def zk5 : List SV:=yhw
theorem nwS_call : zc1 Try.prog zoi nwS_op.op = some (18,zk5):=by kernel_rfl
theorem nwS_fresh : (fresh Try.prog 18 zk5).isSome = true:=by kernel_rfl
noncomputable def nwS2_ti : List SV:=yi4 ++ [u,u] ++ yi7 ++ ur 37
noncomputable def nwS2_hi : List HB:=yi0
noncomputable def nwS2_to : List SV:=yi4 ++ [.ptr 1 0,u] ++ yhs
noncomputable def nwS2_ho : List HB:=yhu
theorem nwS2_grp : zd7 Try.prog (run Try.prog [] [18] true 900) nwA_0.facts 0 (za1 Try.prog 32 [0,1]) nwA_kd (fun _=>false) nwA_0.frs.tail [3,4,5] nwS2_ti nwS2_hi = .done nwS2_to nwS2_ho:=by kernel_rfl
theorem nwS_set : zgp zoi nwS_op.dst (.agg [.int .u64 (.v 4),.int .u64 (.v 5),.y 0,.y 1,.int .u64 (.v 6),.int .u64 (.v 7),.y 2,.y 3,.y 4]) = nwS2_ti:=by kernel_rfl
noncomputable def nwB_in : St:=⟨[⟨32,yi4 ++ [.ptr 1 0,u] ++ yhs,[.code (.at_ [2])]⟩],yhu,[],0⟩
noncomputable def nwB_0 : St:=⟨[⟨32,yi4 ++ [.ptr 1 0,.int .i64 (.lit 0)] ++ yhs,[.code (.at_ [0,1,0,2]),.inBlock 0,.code (.at_ [3])]⟩],yhu,[],0⟩
theorem nwB_run : run Try.prog [] [18] true 900 nwB_in = [nwB_0]:=by kernel_rfl
noncomputable def nw1 : St:=⟨yhv,[],[],0⟩
noncomputable def zet : Sub:=⟨[(.lit 0)],[],[.agg [.int .i64 (.v 0),.int .i64 (.v 1),.int .i64 (.v 2),.int .i64 (.v 3)],.nilp,.agg [.int .i64 (.v 0),.int .i64 (.v 1),.int .i64 (.v 2),.int .i64 (.v 3)],.agg [.int .i64 (.v 0),.int .i64 (.v 1),.int .i64 (.v 2),.int .i64 (.v 3)],.agg [.int .u64 (.v 4),.int .u64 (.v 5),.y 0,.y 1,.int .u64 (.v 6),.int .u64 (.v 7),.y 2,.y 3,.y 4],.agg [.int .i64 (.v 0),.int .i64 (.v 1),.int .i64 (.v 2),.int .i64 (.v 3),.int .u64 (.v 4),.int .u64 (.v 5),.y 0,.y 1,.int .u64 (.v 6),.int .u64 (.v 7),.y 2,.y 3,.y 4,.c (.slice none 0 0),.c (.slice none 0 0),.c (.slice none 0 0),.c (.slice none 0 0),.c (.slice none 0 0),.int .u64 (.lit 0),.int .u64 (.lit 0),.c (.slice none 0 0),.c (.slice none 0 0),.int .u64 (.lit 0),.int .u64 (.lit 0),.c (.slice none 0 0),.c (.slice none 0 0),.c (.slice none 0 0)],.ptr 1 0,u,u,u,u,u,u,u,u,u,u,u,u,u,u,u,u,u,u,u,u,u,u,u,u,u,u,u,u,u,u,u,u,u,u,u],[],[0,1]⟩
theorem nwB0_head : zda Try.prog zet nwB_0 nw1:=⟨by kernel_rfl,by kernel_rfl⟩
noncomputable def nwC_in : St:=⟨yhv,yhx ++ [⟨91,yhz ++ yi2 ++ [.c (.slice none 0 0)] ++ yhr,true,none,none,none⟩],yi6,0⟩
noncomputable def nwC_0 : St:=⟨[⟨32,yhy ++ [.c (.slice none 0 0)] ++ yht ++ [.sl (.blk 2) (.lit 1) (.e (.lit 1)),.sl (.blk 3) (.lit 1) (.of 3 24),.ptr 1 0,.ptr 1 13] ++ yi5 ++ [.ptr 1 14,.c (.slice none 0 0),.sl (.blk 4) (.lit 1) (.e (.lit 1)),.sl (.blk 5) (.lit 1) (.of 5 1),.ptr 1 0,.ptr 1 14] ++ yi5 ++ [.ptr 1 15,.c (.slice none 0 0),.sl (.blk 6) (.lit 1) (.e (.lit 1)),.sl (.blk 7) (.lit 1) (.of 7 1),.ptr 1 0,.ptr 1 15,.x 41],[.inLoop (.at_ [0,0,1,0,2]),.inBlock 0,.code (.at_ [3])]⟩],yhx ++ [⟨91,yhz ++ [.sl (.blk 3) (.lit 1) (.of 3 24),.sl (.blk 5) (.lit 1) (.of 5 1),.sl (.blk 7) (.lit 1) (.of 7 1)] ++ yhr,true,none,none,none⟩,⟨94,yhq,true,some ((.lit 0),24),none,none⟩,⟨94,[],true,none,some ((.lit 1),24,1000001),some (none,yhq)⟩,⟨3,[.int .i64 (.lit (-1))],true,some ((.lit 0),1),none,none⟩,⟨3,[],true,none,some ((.lit 1),1,1000001),some (none,[.int .i64 (.lit (-1))])⟩,⟨3,[.int .i64 (.lit 0)],true,some ((.lit 0),1),none,none⟩,⟨3,[],true,none,some ((.lit 1),1,1000001),some (none,[.int .i64 (.lit 0)])⟩],yi6,0⟩
theorem nwC_run : run Try.prog [] [18] true 900 nwC_in = [nwC_0]:=by kernel_rfl
noncomputable def zes : Sub:=⟨[(.ar .add .i64 (.v 0) (.lit 1))],[],[.x 0,.x 1,.x 2,.x 3,.x 4,.x 5,.x 6,.int .i64 (.v 0),.ptr 0 2,.int .i64 (.v 3),.bool (.cmp .lss (.v 0) (.v 3)),.int .i64 (.v 0),.int .i64 (.ar .add .i64 (.v 0) (.lit 1)),.ptr 1 0,.ptr 1 0,.ptr 1 0,.ptr 1 13,.c (.slice none 0 0),.agg [.int .i64 (.lit 0),.int .u32 (.lit 0),.int .i64 (.lit 0),.int .i64 (.lit 0),.int .i64 (.lit 0),.int .u64 (.lit 0),.int .u64 (.lit 0),.int .u64 (.lit 0),.int .u64 (.lit 0),.int .i64 (.lit 0),.c (.slice none 0 0),.bool (.lit false),.int .u64 (.lit 0),.int .u64 (.lit 0),.int .i64 (.lit 0),.int .u32 (.lit 0),.int .i64 (.lit 0),.int .i64 (.lit 0),.int .i64 (.lit 0),.int .i64 (.lit 0),.int .u64 (.lit 0),.int .u64 (.lit 0),.int .i64 (.lit 0),.int .u32 (.lit 0)],.sl (.blk 2) (.lit 1) (.e (.lit 1)),.sl (.blk 3) (.lit 1) (.of 3 24),.ptr 1 0,.ptr 1 13,.ptr 1 0,.ptr 1 0,.ptr 1 0,.ptr 1 14,.c (.slice none 0 0),.sl (.blk 4) (.lit 1) (.e (.lit 1)),.sl (.blk 5) (.lit 1) (.of 5 1),.ptr 1 0,.ptr 1 14,.ptr 1 0,.ptr 1 0,.ptr 1 0,.ptr 1 15,.c (.slice none 0 0),.sl (.blk 6) (.lit 1) (.e (.lit 1)),.sl (.blk 7) (.lit 1) (.of 7 1),.ptr 1 0,.ptr 1 15,.x 41],[],[0,1]⟩
theorem nwC0_head : zda Try.prog zes nwC_0 nw1:=⟨by kernel_rfl,by kernel_rfl⟩
noncomputable def nwD_in : St:=⟨yhv,yhx ++ [⟨91,yhz ++ [.sl (.blk 2) (.v 0) (.of 2 24),.sl (.blk 3) (.v 0) (.of 3 1),.sl (.blk 4) (.v 0) (.of 4 1)] ++ yhr,true,none,none,none⟩,⟨94,[],true,none,some ((.v 0),24,1000),none⟩,⟨3,[],true,none,some ((.v 0),1,1000),none⟩,⟨3,[],true,none,some ((.v 0),1,1000),none⟩],yi6,0⟩
noncomputable def nwD_0 : St:=⟨[⟨32,yhy ++ [.sl (.blk 2) (.v 0) (.of 2 24)] ++ yht ++ [.sl (.blk 5) (.lit 1) (.e (.lit 1)),.sl (.blk 6) (.ad (.tn (.v 0)) (.lit 1)) (.of 6 24),.ptr 1 0,.ptr 1 13] ++ yi5 ++ [.ptr 1 14,.sl (.blk 3) (.v 0) (.of 3 1),.sl (.blk 7) (.lit 1) (.e (.lit 1)),.sl (.blk 8) (.ad (.tn (.v 0)) (.lit 1)) (.of 8 1),.ptr 1 0,.ptr 1 14] ++ yi5 ++ [.ptr 1 15,.sl (.blk 4) (.v 0) (.of 4 1),.sl (.blk 9) (.lit 1) (.e (.lit 1)),.sl (.blk 10) (.ad (.tn (.v 0)) (.lit 1)) (.of 10 1),.ptr 1 0,.ptr 1 15,.x 41],[.inLoop (.at_ [0,0,1,0,2]),.inBlock 0,.code (.at_ [3])]⟩],yhx ++ [⟨91,yhz ++ [.sl (.blk 6) (.ad (.tn (.v 0)) (.lit 1)) (.of 6 24),.sl (.blk 8) (.ad (.tn (.v 0)) (.lit 1)) (.of 8 1),.sl (.blk 10) (.ad (.tn (.v 0)) (.lit 1)) (.of 10 1)] ++ yhr,true,none,none,none⟩,⟨94,[],false,none,none,none⟩,⟨3,[],false,none,none,none⟩,⟨3,[],false,none,none,none⟩,⟨94,yhq,true,some ((.lit 0),24),none,none⟩,⟨94,[],true,none,some ((.ad (.tn (.v 0)) (.lit 1)),24,1001),some (some 2,yhq)⟩,⟨3,[.int .i64 (.lit (-1))],true,some ((.lit 0),1),none,none⟩,⟨3,[],true,none,some ((.ad (.tn (.v 0)) (.lit 1)),1,1001),some (some 3,[.int .i64 (.lit (-1))])⟩,⟨3,[.int .i64 (.lit 0)],true,some ((.lit 0),1),none,none⟩,⟨3,[],true,none,some ((.ad (.tn (.v 0)) (.lit 1)),1,1001),some (some 4,[.int .i64 (.lit 0)])⟩],yi6,0⟩
theorem nwD_run : run Try.prog [] [18] true 900 nwD_in = [nwD_0]:=by kernel_rfl
noncomputable def zer : Sub:=⟨[(.ar .add .i64 (.v 0) (.lit 1))],[],[.x 0,.x 1,.x 2,.x 3,.x 4,.x 5,.x 6,.int .i64 (.v 0),.ptr 0 2,.int .i64 (.v 3),.bool (.cmp .lss (.v 0) (.v 3)),.int .i64 (.v 0),.int .i64 (.ar .add .i64 (.v 0) (.lit 1)),.ptr 1 0,.ptr 1 0,.ptr 1 0,.ptr 1 13,.sl (.blk 2) (.v 0) (.of 2 24),.agg [.int .i64 (.lit 0),.int .u32 (.lit 0),.int .i64 (.lit 0),.int .i64 (.lit 0),.int .i64 (.lit 0),.int .u64 (.lit 0),.int .u64 (.lit 0),.int .u64 (.lit 0),.int .u64 (.lit 0),.int .i64 (.lit 0),.c (.slice none 0 0),.bool (.lit false),.int .u64 (.lit 0),.int .u64 (.lit 0),.int .i64 (.lit 0),.int .u32 (.lit 0),.int .i64 (.lit 0),.int .i64 (.lit 0),.int .i64 (.lit 0),.int .i64 (.lit 0),.int .u64 (.lit 0),.int .u64 (.lit 0),.int .i64 (.lit 0),.int .u32 (.lit 0)],.sl (.blk 5) (.lit 1) (.e (.lit 1)),.sl (.blk 6) (.ad (.tn (.v 0)) (.lit 1)) (.of 6 24),.ptr 1 0,.ptr 1 13,.ptr 1 0,.ptr 1 0,.ptr 1 0,.ptr 1 14,.sl (.blk 3) (.v 0) (.of 3 1),.sl (.blk 7) (.lit 1) (.e (.lit 1)),.sl (.blk 8) (.ad (.tn (.v 0)) (.lit 1)) (.of 8 1),.ptr 1 0,.ptr 1 14,.ptr 1 0,.ptr 1 0,.ptr 1 0,.ptr 1 15,.sl (.blk 4) (.v 0) (.of 4 1),.sl (.blk 9) (.lit 1) (.e (.lit 1)),.sl (.blk 10) (.ad (.tn (.v 0)) (.lit 1)) (.of 10 1),.ptr 1 0,.ptr 1 15,.x 41],[],[0,1]⟩
theorem nwD0_head : zda Try.prog zer nwD_0 nw1:=⟨by kernel_rfl,by kernel_rfl⟩
noncomputable def nwE_in : St:=⟨yhv,yhx ++ [⟨91,[],false,none,none,none⟩],[((.cmp .lss (.v 0) (.v 3)),false)],0⟩
noncomputable def nwE_0 : St:=⟨[⟨32,[.x 0,.ptr 0 0,.ptr 1 0,.ptr 1 0,Li 0] ++ xr 2 5 ++ [Li 0,.ptr 0 2,Li 3,.bool (.cmp .lss (.v 0) (.v 3))] ++ xr 11 30 ++ [.ptr 1 0],[.code (.at_ [4])]⟩],yhx ++ [⟨91,[],false,none,none,none⟩],[((.cmp .lss (.v 0) (.v 3)),false)],0⟩
theorem nwE_0_end : zc6 Try.prog nwE_0 = some (.ptr 1 0):=by kernel_rfl
theorem nwE_run : run Try.prog [] [18] true 900 nwE_in = [nwE_0]:=by kernel_rfl
end Go.Proofs.Ytonhfgjofgbcdaa.Dr
namespace Go.Proofs.Ytonhfgjofgbcdaa.Sx
open Go Go.Conc Go.RowKit Jay Pl
section
variable {P : Program} {γ : Type} {X : zad γ} {Stop : γ -> Frame -> List Frame -> World -> Prop} {s : γ} {S : Nat -> Prop} {w₀ w : World} {Y : Env} {cs₀ : List Frame} {facts : List (B × Bool)} {np : Nat}
theorem repB_grow {h : List HB} {L : zfa} (hL : Y.lens = L) (h1 : zdn L h = true) {ai : List Int} {ab : List Bool} {ax ay : List Value} (hw : zhl (Y.grow ai ab ax ay []) h w) : zhl Y h w:=by
 subst hL
 have hb : (Y.grow ai ab ax ay []).blks = Y.blks:=by simp [Env.grow]
 obtain ⟨hr,hbd⟩:=hw
 rw [hb] at hbd
 refine ⟨⟨fun v hv=>hr.ys v (by simp only [Env.grow]; exact List.mem_append_left _ hv),fun i x hi hw=>?_,fun i x j u hi hu=>?_,fun i x e n hi he=>?_,fun i x e n N hi he=>?_,?_⟩,hbd⟩
 ·have:=hr.blk i x hi hw
  rwa [hb,zb4 _ (zcv h h1 i x hi).1] at this
 ·have:=hr.cell i x j u hi (by rw [zb4 _ (zcv h h1 i x hi).1]; exact hu)
  rwa [hb] at this
 ·have h3:=(zcv h h1 i x hi).2.1
  rw [he] at h3
  have:=hr.foc i x e n hi he
  rwa [hb,zd5 _ h3] at this
 ·have h3:=(zcv h h1 i x hi).2.2
  rw [he] at h3
  have:=hr.row i x e n N hi he
  rwa [hb,zd5 _ h3.1] at this
 ·have:=hr.pl
  rwa [hb] at this
def callB (ops : Array Oper) (i : Nat) : Bool:=match ops[i]? with
 | some o=>match o.op with
  | .call { callee:=.value _,.. }=>true
  | _=>false
 | none=>true
theorem kd_new (acts qs : List Nat) (ops : Array Oper) (h : acts.all (callB ops) = true) : ∀ i o,ops[i]? = some o -> ((∃ t a x,o.op = .store t a x) \/ ∃ c : Call,o.op = .call { callee:=.builtin .append,args:=c.args,argTypes:=c.argTypes }) -> (if acts.contains i then 1 else zh0 qs ops i) = 2 \/ (if acts.contains i then 1 else zh0 qs ops i) = 3:=by
 intro i o ho hs
 split
 ·rename_i hc
  exfalso
  have:=List.all_eq_true.1 h i (by simpa using hc)
  unfold callB at this
  rw [ho] at this
  rcases hs with ⟨t,a,x,e⟩ | ⟨c,e⟩ <;> simp [e] at this
 ·have:=zcg [] qs ops i o ho hs
  simpa using this
theorem da_new {ops : Array Oper} {kd : Nat -> Nat} {fn : FuncId} {callers : List Fr} {k : List It} {qs stops : List FuncId} (n : Nat) {hl hl2 : Nat -> Bool} {ord rest : List Nat} {t0 t1 t2i t2 : List SV} {h0 h1 h2 : List HB} {i : Nat} {o : Oper} {f : FuncId} {L : zfa} (vals : Env -> Array Value) (res : SV) {Post : Env -> World -> γ -> zf9 -> World -> Prop}
  (hg1 : zd7 P (run P qs stops true n) facts np ops kd hl callers ord t0 h0 = .halt (i :: rest) t1 h1) (hg2 : zd7 P (run P qs stops true n) facts np ops kd hl2 callers rest t2i h1 = .done t2 h2)
  (hkd : ∀ i o,ops[i]? = some o -> ((∃ t a x,o.op = .store t a x) \/ ∃ c : Call,o.op = .call { callee:=.builtin .append,args:=c.args,argTypes:=c.argTypes }) -> kd i = 2 \/ kd i = 3) (ho : ops[i]? = some o) (hk : kd i = 1) (hgd : guardOf facts ops t1 o = .yes) (hset : zgp t1 o.dst res = t2i)
  (hrun : ∀ (Y' : Env) (w : World),Ext Y Y' -> (execOp (Act.eval { tmps:=(za3 Y' t1).toArray,defers:=[] }) o).run P w = .ok (.enter f (vals Y')) w /\ zax P (fun _=>False) (execOp (Act.eval { tmps:=(za3 Y' t1).toArray,defers:=[] }) o))
  (hrep : Rep X s S w₀ Y h0 facts np w) (hL : { Y.lens with nk:=h1.length } = L) (hokT : zdp L t1 = true) (hokC : zia L callers = true) (hokH : zdn L h1 = true)
  (hj : ∀ Y' w,Ext Y Y' -> Rep X s S w₀ Y' h1 facts np w -> Jdo P X f (vals Y') s w (Post Y' w))
  (hb : ∀ Y' w,Ext Y Y' -> Rep X s S w₀ Y' h1 facts np w -> ∀ s' v w',Post Y' w s' (.back v) w' -> X.there s' w' -> ∃ (S' : Nat -> Prop) (w₁ : World) (ai : List Int) (ab : List Bool) (ax ay : List Value),v = res.den (Y'.grow ai ab ax ay []) /\ Rep X s' S' w₁ (Y'.grow ai ab ax ay []) h1 facts np w' /\
   ∀ Y'' w'',Ext (Y'.grow ai ab ax ay []) Y'' -> Rep X s' S' w₁ Y'' h2 facts np w'' -> Fr.reach P X Stop s' cs₀ Y'' ({ fn:=fn,tmps:=t2,todo:=k } :: callers) w'')
  (hthrew : ∀ Y' w s' ch w',¬ Post Y' w s' (.threw ch) w') :
  Da P X fn ops kd (fun _ _ _ _=>False) (fun s a w=>Jay.Reach P X Stop s ((base fn).at a (k.map (It.den P Y fn))) (callers.map (Fr.den P Y) ++ cs₀) w) (fun _ _ _=>False) ord (zhl Y h0) (RepG X s S w₀ Y h0 facts np) { tmps:=(za3 Y t0).toArray,defers:=[] }:=by
 refine zgx n hl hg1 hkd hrep.facts hrep.np hrep.len fun l hcl=>?_
 have hext : Ext Y (Y.more l []):=⟨l,[],rfl⟩
 refine ⟨o,ho,?_⟩
 rw [if_neg (by omega)]
 refine .inl fun s' w hG=>?_
 obtain ⟨hss,hrep'⟩:=hG
 rw [hss]
 have hLl : (Y.more l []).lens = L:=by
  rw [lens_more,<- hL]
  have:=hrep'.len
  simp only [Env.more,List.length_append] at this
  rw [this]
 obtain ⟨hr,honly⟩:=hrun _ w hext
 unfold Jay.One
 rw [if_pos ((zey hrep'.facts ops t1 o).1 hgd)]
 refine ⟨fun ht=>zb3 honly ht,?_⟩
 rw [hr]
 refine Jdo.mono (Jdo.post_there (hj _ w hext hrep')) fun s2 r w2 hp=>?_
 cases r with
 | threw ch=>exact absurd hp.1 (hthrew _ _ _ _ _)
 | back v=>
  obtain ⟨S',w₁,ai,ab,ax,ay,rfl,hr2,K⟩:=hb _ w hext hrep' s2 v w2 hp.1 hp.2
  refine ⟨_,_,zd4 h1,⟨rfl,hr2⟩,.inl fun w' hw'=>repB_grow hLl hokH hw',?_⟩
  have e1 : za3 (Y.more l []) t1 = za3 ((Y.more l []).grow ai ab ax ay []) t1:=(zb4 t1 (by rw [hLl]; exact hokT)).symm
  rw [e1,zek,hset]
  have hcg : callers.map (Fr.den P ((Y.more l []).grow ai ab ax ay [])) = callers.map (Fr.den P (Y.more l [])):=zi9 callers (by rw [hLl]; exact hokC)
  refine zgx n hl2 hg2 hkd hr2.facts hr2.np hr2.len fun l2 hcl2 w3 hr3=>?_
  have:=K _ w3 ⟨l2,[],rfl⟩ hr3
  simp only [Fr.reach,Fr.den,Fr.act] at this
  have hit : k.map (It.den P (((Y.more l []).grow ai ab ax ay []).more l2 []) fn) = k.map (It.den P Y fn):=zlr (by simp [Env.more,Env.grow]) fn k
  rw [hit] at this
  have hcc : callers.map (Fr.den P (((Y.more l []).grow ai ab ax ay []).more l2 [])) = callers.map (Fr.den P Y):=(hcl2.trans hcg).trans hcl
  rw [hcc] at this
  exact this
/-! ### The last operation of a region -/
theorem lin_nil {ops : Array Oper} {kd : Nat -> Nat} {ord l : List Nat} (hchk : zbk P ops (zc0 ops) kd ord = true) (h : LinR ops (zc0 ops) ord [] l) : l = []:=by
 simp only [zbk,Bool.and_eq_true,List.all_eq_true,List.mem_range] at hchk
 obtain ⟨⟨⟨hall,hrange⟩,hpairs⟩,hns⟩:=hchk
 obtain ⟨listed,hsz,hdown,heq,hlin⟩:=h
 cases hlin with
 | nil _=>rfl
 | cons hready hlin'=>
  exfalso
  rename_i x l
  obtain ⟨hun,o,ho,hafter⟩:=mem_ready.1 hready
  have hlt : x < ops.size:=(Array.getElem?_eq_some_iff.1 ho).1
  have hltl : x < listed.size:=by omega
  have hmem : x ∈ ord:=by simpa using (hall x hlt).1
  have hun':=zgo hltl hun
  have hx : x ∈ ord.filter fun i=>!listed.getD i false:=by rw [List.mem_filter]; exact ⟨hmem,by simp only [hun',Bool.not_false]⟩
  rw [heq] at hx
  cases hx
theorem lin_one {ops : Array Oper} {kd : Nat -> Nat} {ord perm : List Nat} {i : Nat} (h1 : zmb ops ord [i] = true) (h2 : zbk P ops (zc0 ops) kd ord = true) : linOf ops ord [i] perm = [i]:=by
 obtain ⟨l,e,hl⟩:=zoo h2 (by simp) (zk9 h1 perm)
 rw [e,lin_nil h2 hl]
theorem reach_lin {fr : Fr} {callers : List Fr} {p ord : List Nat} {i j : Nat} {k : List It} {kd : Nat -> Nat} (ht : fr.todo = .lin p ord [i] j :: k) (h1 : zmb (za1 P fr.fn p) ord [i] = true) (h2 : zbk P (za1 P fr.fn p) (zc0 (za1 P fr.fn p)) kd ord = true)
  (hk : Fr.reach P X Stop s cs₀ Y ({ fr with todo:=.inRegion p [i] :: k } :: callers) w) : Fr.reach P X Stop s cs₀ Y (fr :: callers) w:=by
 obtain ⟨fn,tmps,todo⟩:=fr
 dsimp only at ht h1 h2
 subst ht
 refine Dr.zca ?_ hk
 simp only [List.map_cons,Fr.den,It.den,lin_one h1 h2]
 rfl
theorem conv_np {Y' : Env} {fr fr' : Fr} (hfn : fr'.fn = fr.fn) (htodo : fr'.todo.map (It.den P Y' fr'.fn) = fr.todo.map (It.den P Y fr.fn)) (ht : za3 Y' fr'.tmps = za3 Y fr.tmps) : [fr'].map (Fr.den P Y') = [fr].map (Fr.den P Y):=by
 simp only [List.map_cons,List.map_nil,Fr.den,Fr.act,ht,hfn] at htodo ⊢
 rw [htodo]
end
end Go.Proofs.Ytonhfgjofgbcdaa.Sx
namespace Go.Proofs.Ytonhfgjofgbcdaa.Dr
open Go Go.Conc Go.RowKit Jay Pl
open St Sx Rf
structure Np where
 (gB gR : Nat)
 (vO vC vA : Value)
 cE : Array Value
def Np.mine (p : Np) (g : Nat) : Prop:=g = p.gR \/ p.vO.ownBlock = some g \/ p.vC.ownBlock = some g \/ p.vA.ownBlock = some g
def f0V : List Value:=f99 0 0 ⟨0,0,0,0,0⟩
def nwV (k K T Mn : Int) (p : Np) : List Value:=[.int .i64 k,.int .i64 K,.int .i64 T,.int .i64 Mn] ++ p.cE.toList ++ [p.vO,p.vC,p.vA,.slice none 0 0,.slice none 0 0,.int .u64 0,.int .u64 0,.slice none 0 0,.slice none 0 0,.int .u64 0,.int .u64 0,.slice none 0 0,.slice none 0 0,.slice none 0 0]
structure Nw {γ : Type} (X : zad γ) (W : World) (s : γ) (w : World) (k K T Mn : Int) (m : Mem) (i : Nat) (p : Np) : Prop where
 B : Blk w p.gB 36 #[.int .i64 k,.int .i64 K,.int .i64 T,.int .i64 Mn]
 R : Blk w p.gR 91 (nwV k K T Mn p).toArray
 O : w.ownsRow 0 94 24 p.vO i (List.replicate i f0V).flatten
 C : w.ownsRow 0 3 1 p.vC i (isV (List.replicate i (-1)))
 A : w.ownsRow 0 3 1 p.vA i (nsV (List.replicate i 0))
 mem : zbb w w.heap.size m p.cE
 off : ∀ g,p.mine g -> Off g p.cE
 dis : ∀ g,p.mine g -> ¬ X.oth s g /\ g < w.heap.size /\ W.heap.size <= g
 nB : ∀ g,p.mine g -> p.gB ≠ g
 ne : (∀ g,p.vO.ownBlock = some g -> g ≠ p.gR /\ p.vC.ownBlock ≠ some g /\ p.vA.ownBlock ≠ some g) /\ (∀ g,p.vC.ownBlock = some g -> g ≠ p.gR /\ p.vA.ownBlock ≠ some g) /\ ∀ g,p.vA.ownBlock = some g -> g ≠ p.gR
 bel : Below W.heap.size W w
 nils : (p.vO = .slice none 0 0 /\ p.vC = .slice none 0 0 /\ p.vA = .slice none 0 0 /\ i = 0) \/ ∃ gO nO cO gC nC cC gA nA cA,p.vO = .slice (some ⟨gO,0,none⟩) nO cO /\ p.vC = .slice (some ⟨gC,0,none⟩) nC cC /\ p.vA = .slice (some ⟨gA,0,none⟩) nA cA
 far : ∀ g,g < W.heap.size -> Off g p.cE
end Go.Proofs.Ytonhfgjofgbcdaa.Dr
