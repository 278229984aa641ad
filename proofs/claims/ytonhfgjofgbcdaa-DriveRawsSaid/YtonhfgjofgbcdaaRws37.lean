/- A part of this claim's proof. -/
import Derived.Test.YtonhfgjofgbcdaaRws36
set_option linter.unusedSimpArgs false
set_option linter.unusedVariables false
set_option maxRecDepth 20000
namespace Go.Proofs.Ytonhfgjofgbcdaa.Dr
section
open Go Go.Conc Go.RowKit Jay Pl
open Sx
noncomputable def yk6 : List SV:=[.tup [.agg [.c (.slice none 0 0),.c (.slice none 0 0),.int .u64 (.lit 0),.int .u64 (.lit 0),.c (.slice none 0 0),.c (.slice none 0 0),.int .u64 (.lit 0),.int .u64 (.lit 0),.c (.slice none 0 0),.c (.slice none 0 0),.c (.slice none 0 0)],.bool (.lit false)]]
noncomputable def ykb : List SV:=[.agg [.c (.slice none 0 0),.c (.slice none 0 0),.int .u64 (.lit 0),.int .u64 (.lit 0),.c (.slice none 0 0),.c (.slice none 0 0),.int .u64 (.lit 0),.int .u64 (.lit 0),.c (.slice none 0 0),.c (.slice none 0 0),.c (.slice none 0 0)]]
noncomputable def ykr : List SV:=[.bool (.lit false),.bool (.lit false)]
noncomputable def ykh : List SV:=[.bool (.lit true),.bool (.lit true)]
noncomputable def yk1 : List SV:=[.agg [.int .u64 (.lit 0),.int .u64 (.lit 0),.c (.slice none 0 0),.c (.slice none 0 0),.int .u64 (.lit 0),.int .u64 (.lit 0),.c (.slice none 0 0),.c (.slice none 0 0),.c (.slice none 0 0)]]
noncomputable def yjp : List SV:=[.ptr 0 0,.int .i64 (.lit 1),.ptr 1 0,.bool (.lit false)] ++ xr 11 44 ++ yk6 ++ xr 56 3 ++ yk6 ++ ykb ++ ykr ++ [.bool (.lit true),.int .i64 (.lit 1)] ++ ykh ++ [.ptr 0 0,.c (.slice none 0 0),.int .i64 (.lit 0)] ++ ykh ++ [.bool (.lit true),.ptr 0 1,.c (.slice none 0 0),.int .i64 (.lit 0)] ++ ykh ++ [.bool (.lit true),.ptr 0 2] ++ yk1 ++ yk1
noncomputable def ykj : List SV:=[.tup [.agg [.sl (.blk 3) (.v 8) (.e (.v 9)),.sl (.blk 4) (.v 10) (.e (.v 11)),Lu 12,Lu 13,.y 5,.y 6,Lu 14,Lu 15,.y 7,.y 8,.y 9],.bool (.lit true)]]
noncomputable def ykn : List SV:=[.agg [.sl (.blk 3) (.v 8) (.e (.v 9)),.sl (.blk 4) (.v 10) (.e (.v 11)),Lu 12,Lu 13,.y 5,.y 6,Lu 14,Lu 15,.y 7,.y 8,.y 9]]
noncomputable def yk8 : List SV:=[.agg [.sl (.blk 1) (.v 0) (.e (.v 1)),.sl (.blk 2) (.v 2) (.e (.v 3)),Lu 4,Lu 5,.y 0,.y 1,Lu 6,Lu 7,.y 2,.y 3,.y 4]] ++ ykn
noncomputable def yjq : List SV:=[.ptr 0 0,.int .i64 (.lit 0),.ptr 5 0,.bool (.lit true)] ++ xr 11 44 ++ ykj ++ xr 56 3 ++ ykj ++ ykn ++ ykh ++ [.bool (.lit false)] ++ xr 63 20 ++ [.int .i64 (.lit 0)] ++ ykh ++ yk8
noncomputable def yjr : List SV:=[.sl (.blk 0) (.v 1) (.e (.v 2)),.sl (.blk 1) (.v 3) (.e (.v 4))]
noncomputable def yke : List SV:=[.x 0] ++ yjr ++ [.ptr 2 0]
noncomputable def yk7 : List SV:=[.tup [.agg [.c (.slice none 0 0),.c (.slice none 0 0),.int .u64 (.lit 0),.int .u64 (.lit 0),.c (.slice none 0 0),.c (.slice none 0 0),.int .u64 (.lit 0),.int .u64 (.lit 0),.c (.slice none 0 0),.c (.slice none 0 0),.c (.slice none 0 0)],.int .i64 (.lit 1)]]
noncomputable def ykd : List SV:=[.agg [Li 5,Li 6,Li 7,Li 8]] ++ yjr
noncomputable def yjs : List SV:=yke ++ xr 1 5 ++ [.ptr 3 0,.int .i64 (.lit 1)] ++ xr 8 39 ++ yk7 ++ xr 48 3 ++ yk7 ++ ykb ++ [.int .i64 (.lit 1),.x 53] ++ ykd
noncomputable def ykw : List SV:=xr 20 9 ++ [Li 5,.bool (.cmp .gtr (.v 5) (.lit 400)),.bool (.cmp .gtr (.v 5) (.lit 400))]
noncomputable def yk4 : List SV:=ykw ++ [Li 5,.bool (.cmp .leq (.v 5) (.lit 1000)),.bool (.cmp .leq (.v 5) (.lit 1000)),.bool (.cmp .leq (.v 5) (.lit 1000))]
noncomputable def ykl : List SV:=[.sl (.blk 1) (.v 3) (.e (.v 4)),.int .i64 (.tn (.v 3)),.bool (.cmp .gtr (.tn (.v 3)) (.lit 1000)),.bool (.cmp .gtr (.tn (.v 3)) (.lit 1000))]
noncomputable def yjt : List SV:=yk4 ++ ykl
noncomputable def yju : List SV:=xr 4 8 ++ [Li 0,.sl (.blk 0) (.v 1) (.e (.v 2)),.int .i64 (.tn (.v 1)),.bool (.cmp .lss (.v 0) (.tn (.v 1))),.bool (.cmp .lss (.v 0) (.tn (.v 1)))]
noncomputable def yka : List HB:=[⟨49,[],false,none,none,none⟩,⟨61,[],false,none,none,none⟩]
noncomputable def yjv : List HB:=yka ++ [⟨36,[Li 6,Li 7,Li 8,Li 9],false,none,none,none⟩]
noncomputable def ykz : List SV:=[.c (.slice none 0 0),.c (.slice none 0 0),.int .u64 (.lit 0),.int .u64 (.lit 0)]
noncomputable def yjw : List SV:=ykz ++ ykz ++ [.c (.slice none 0 0),.c (.slice none 0 0),.c (.slice none 0 0)]
noncomputable def yki : List SV:=[.tup [.agg [.sl (.blk 3) (.v 9) (.e (.v 10)),.sl (.blk 4) (.v 11) (.e (.v 12)),Lu 13,Lu 14,.y 0,.y 1,Lu 15,Lu 16,.y 2,.y 3,.y 4],.int .i64 (.lit 0)]]
noncomputable def yjx : List SV:=yke ++ xr 1 5 ++ [.ptr 5 0,.int .i64 (.lit 0)] ++ xr 8 39 ++ yki ++ xr 48 3 ++ yki ++ [.agg [.sl (.blk 3) (.v 9) (.e (.v 10)),.sl (.blk 4) (.v 11) (.e (.v 12)),Lu 13,Lu 14,.y 0,.y 1,Lu 15,Lu 16,.y 2,.y 3,.y 4],.int .i64 (.lit 0),.x 53] ++ ykd
noncomputable def yl1 : List SV:=[.bool (.cmp .leq (.tn (.v 3)) (.lit 20000))]
noncomputable def yjy : List SV:=[.sl (.blk 1) (.v 3) (.e (.v 4)),.int .i64 (.tn (.v 3))] ++ yl1 ++ yl1 ++ yl1
noncomputable def ykp : List HB:=[⟨63,[],false,none,none,none⟩,⟨65,[],false,none,none,none⟩]
noncomputable def yjz : List HB:=[⟨52,[.sl (.blk 1) (.v 0) (.e (.v 1)),.sl (.blk 2) (.v 2) (.e (.v 3)),Lu 4,Lu 5,.y 0,.y 1,Lu 6,Lu 7,.y 2,.y 3,.y 4],false,none,none,none⟩] ++ ykp ++ ykp ++ [⟨52,[.sl (.blk 3) (.v 8) (.e (.v 9)),.sl (.blk 4) (.v 10) (.e (.v 11)),Lu 12,Lu 13,.y 5,.y 6,Lu 14,Lu 15,.y 7,.y 8,.y 9],true,none,none,none⟩]
noncomputable def ykk : List SV:=[Li 5,Li 0] ++ yju ++ [u,u,.bool (.lit false)]
noncomputable def yk0 : List SV:=ykk ++ ykw ++ [u,u] ++ ykr ++ ykl
noncomputable def yk2 : List Fr:=[⟨5,yke ++ xr 1 3 ++ [Li 5,Li 0] ++ xr 4 84,[.code (.at_ [0,0,1,0,3]),.inLoop (.at_ [0,0,1,0,3]),.inBlock 0,.code (.at_ [4])]⟩]
noncomputable def yks : List (B × Bool):=[((.cmp .gtr (.v 5) (.lit 400)),true)]
noncomputable def yk3 : List (B × Bool):=yks ++ [((.cmp .lss (.v 0) (.tn (.v 1))),true),((.cmp .leq (.v 5) (.lit 400)),false)]
noncomputable def yk5 : List SV:=yju ++ [Li 5,.bool (.cmp .leq (.v 5) (.lit 400)),.bool (.cmp .leq (.v 5) (.lit 400))]
noncomputable def yk9 : List SV:=[.x 45,.agg [Li 6,Li 7,Li 8,Li 9]] ++ yjr ++ xr 49 39
noncomputable def ykc : List (B × Bool):=[((.cmp .gtr (.tn (.v 3)) (.lit 1000)),true),((.cmp .leq (.v 5) (.lit 1000)),false)]
noncomputable def ykf : List (B × Bool):=[((.cmp .lss (.v 0) (.tn (.v 1))),false)]
noncomputable def ykg : List HB:=[⟨49,[.sl (.blk 3) (.v 6) (.e (.v 7))],false,some ((.v 0),1),none,none⟩,⟨61,[],false,none,none,none⟩,⟨36,[],false,none,none,none⟩,⟨27,[],false,none,none,none⟩]
noncomputable def ykm : List SV:=[.agg [Li 0,Li 1,Li 2,Li 3],.x 0,.x 1]
noncomputable def yko : List HB:=[⟨52,yjw,false,none,none,none⟩,⟨52,yjw,true,none,none,none⟩]
noncomputable def ykq : List SV:=yke ++ [.x 1,.x 2,.bool (.lit true)]
noncomputable def ykt : List HB:=yka ++ [⟨36,[Li 5,Li 6,Li 7,Li 8],false,none,none,none⟩]
noncomputable def yku : List (B × Bool):=[((.cmp .lss (.v 0) (.tn (.v 1))),true),((.cmp .leq (.v 5) (.lit 400)),true),((.cmp .leq (.lit 0) (.v 0)),true)]
noncomputable def ykv : List (B × Bool):=[((.cmp .gtr (.tn (.v 3)) (.lit 1000)),true),((.cmp .gtr (.v 5) (.lit 400)),false)] ++ ykf
noncomputable def ykx : List (B × Bool):=[((.cmp .gtr (.tn (.v 3)) (.lit 1000)),false),((.cmp .leq (.v 5) (.lit 1000)),false)]
noncomputable def yky : List (B × Bool):=[((.cmp .leq (.tn (.v 3)) (.lit 20000)),false)]
noncomputable def yl0 : List (B × Bool):=[((.cmp .leq (.tn (.v 3)) (.lit 20000)),true)]
noncomputable def rs_args : List SV:=ykm
noncomputable def rs_fr : Fr:=⟨5,ykm ++ ur 90,[.code (.at_ [])]⟩
theorem rs_fresh : fresh Try.prog 5 rs_args = some rs_fr:=by kernel_rfl
noncomputable def rsA_in : St:=⟨[⟨5,ykm ++ ur 90,[.code (.at_ [])]⟩],[],[],0⟩
noncomputable def rsA_0 : St:=⟨[⟨5,ykm ++ [.ptr 0 0,u,u,.bool (.lit false)] ++ ur 86,[.inRegion [0,0,1] [0,1],.code (.at_ [1,0,1]),.code (.at_ [2])]⟩],[⟨36,[Li 0,Li 1,Li 2,Li 3],true,none,none,none⟩],[],0⟩
theorem rsA_run : run Try.prog [] [20,19,21,22,11] true 900 rsA_in = [rsA_0]:=by kernel_rfl
noncomputable def rsA_op : Oper:=(za1 Try.prog 5 [0,0,1]).getD 0 default
theorem rsA_at : (za1 Try.prog 5 [0,0,1])[0]? = some rsA_op:=by kernel_rfl
noncomputable def rsA_fr : Fr:=⟨5,ykm ++ [.ptr 0 0,u,u,.bool (.lit false)] ++ ur 86,[.inRegion [0,0,1] [0,1],.code (.at_ [1,0,1]),.code (.at_ [2])]⟩
theorem rsA_gd : guardOf rsA_0.facts (za1 Try.prog 5 [0,0,1]) rsA_fr.tmps rsA_op = .yes:=by kernel_rfl
noncomputable def rsA_args : List SV:=[]
theorem rsA_call : zc1 Try.prog rsA_fr.tmps rsA_op.op = some (19,rsA_args):=by kernel_rfl
theorem rsA_fresh : (fresh Try.prog 19 rsA_args).isSome = true:=by kernel_rfl
noncomputable def znq : Fr:=⟨5,[.agg [.int .i64 (.v 0),.int .i64 (.v 1),.int .i64 (.v 2),.int .i64 (.v 3)],.x 0,.x 1,.ptr 0 0,u,u,.bool (.lit false),u,u,u,u,u,u,.bool (.lit true),u,u,u,u,u,u,u,u,u,u,u,u,u,u,u,u,u,u,u,u,u,u,u,u,u,u,u,u,u,u,u,u,u,u,u,u,u,u,u,u,u,u,u,u,u,u,u,u,u,u,u,u,u,u,u,u,u,u,u,u,u,u,u,u,u,u,u,u,u,u,u,u,u,u,u,u,u,u,u],[.inRegion [0,0,1] [1],.code (.at_ [1,0,1]),.code (.at_ [2])]⟩
theorem rsA_put : Fr.put rsA_fr rsA_op.dst (.bool (.lit true)) ([.inRegion [0,0,1] [1],.code (.at_ [1,0,1]),.code (.at_ [2])]) = znq:=by kernel_rfl
noncomputable def ziz : St:=⟨[⟨5,[.agg [.int .i64 (.v 5),.int .i64 (.v 6),.int .i64 (.v 7),.int .i64 (.v 8)],.sl (.blk 0) (.v 1) (.e (.v 2)),.sl (.blk 1) (.v 3) (.e (.v 4)),.ptr 2 0,u,u,.bool (.lit false),u,u,u,u,u,u,.bool (.lit true),u,u,u,u,u,u,u,u,u,u,u,u,u,u,u,u,u,u,u,u,u,u,u,u,u,u,u,u,u,u,u,u,u,u,u,u,u,u,u,u,u,u,u,u,u,u,u,u,u,u,u,u,u,u,u,u,u,u,u,u,u,u,u,u,u,u,u,u,u,u,u,u,u,u,u,u,u,u,u],[.inRegion [0,0,1] [1],.code (.at_ [1,0,1]),.code (.at_ [2])]⟩],
 [⟨49,[],false,none,none,none⟩,
 ⟨61,[],false,none,none,none⟩,
 ⟨36,[],false,none,none,none⟩],
 [],
 0⟩
noncomputable def rsB_0 : St:=⟨[⟨5,ykd ++ [.ptr 2 0,u,u,.bool (.lit false),.int .i64 (.tn (.v 1)),.int .i64 (.lit 0)] ++ ur 4 ++ [.bool (.lit true),.bool (.lit false),.sl (.blk 0) (.v 1) (.e (.v 2)),.int .i64 (.tn (.v 1))] ++ ur 76,[.code (.at_ [0,1,0,3]),.inBlock 0,.code (.at_ [4])]⟩],yka ++ [⟨36,[],false,none,none,none⟩],[],0⟩
theorem rsB_run : run Try.prog [] [20,19,21,22,11] true 900 ziz = [rsB_0]:=by kernel_rfl
noncomputable def rs1 : St:=⟨yk2,[],[],0⟩
noncomputable def rsB0_sub : Sub:=⟨[(.lit 0),(.v 1),(.v 2),(.v 3),(.v 4),(.tn (.v 1))],[],[.agg [.int .i64 (.v 5),.int .i64 (.v 6),.int .i64 (.v 7),.int .i64 (.v 8)],u,u,.bool (.lit false),u,u,u,u,.bool (.lit true),.bool (.lit false),.sl (.blk 0) (.v 1) (.e (.v 2)),.int .i64 (.tn (.v 1)),u,u,u,u,u,u,u,u,u,u,u,u,u,u,u,u,u,u,u,u,u,u,u,u,u,u,u,u,u,u,u,u,u,u,u,u,u,u,u,u,u,u,u,u,u,u,u,u,u,u,u,u,u,u,u,u,u,u,u,u,u,u,u,u,u,u,u,u,u,u,u,u,u,u,u,u],[],[0,1,2]⟩
theorem rsB0_head : zda Try.prog rsB0_sub rsB_0 rs1:=⟨by kernel_rfl,by kernel_rfl⟩
noncomputable def rsC_in : St:=⟨yk2,ykg,yku,0⟩
noncomputable def rsC_0 : St:=⟨[⟨5,yke ++ xr 1 3 ++ [.int .i64 (.ar .add .i64 (.v 5) (.tn (.v 6))),.int .i64 (.ar .add .i64 (.v 0) (.lit 1))] ++ yk5 ++ [Li 0,.int .i64 (.ar .add .i64 (.v 0) (.lit 1)),Li 5,.sl (.blk 0) (.v 1) (.e (.v 2)),Li 0,.ptr 0 0,.sl (.blk 3) (.v 6) (.e (.v 7)),.int .i64 (.tn (.v 6)),.int .i64 (.ar .add .i64 (.v 5) (.tn (.v 6)))] ++ xr 29 59,[.inLoop (.at_ [0,0,1,0,3]),.inBlock 0,.code (.at_ [4])]⟩],ykg,yku,0⟩
theorem rsC_run : run Try.prog [] [20,19,21,22,11] true 900 rsC_in = [rsC_0]:=by kernel_rfl
noncomputable def rsC0_sub : Sub:=⟨[(.ar .add .i64 (.v 0) (.lit 1)),(.v 1),(.v 2),(.v 3),(.v 4),(.ar .add .i64 (.v 5) (.tn (.v 6)))],[],[.x 0,.x 1,.x 2,.x 3,.x 4,.x 5,.x 6,.x 7,.x 8,.x 9,.x 10,.x 11,.int .i64 (.v 0),.sl (.blk 0) (.v 1) (.e (.v 2)),.int .i64 (.tn (.v 1)),.bool (.cmp .lss (.v 0) (.tn (.v 1))),.bool (.cmp .lss (.v 0) (.tn (.v 1))),.int .i64 (.v 5),.bool (.cmp .leq (.v 5) (.lit 400)),.bool (.cmp .leq (.v 5) (.lit 400)),.int .i64 (.v 0),.int .i64 (.ar .add .i64 (.v 0) (.lit 1)),.int .i64 (.v 5),.sl (.blk 0) (.v 1) (.e (.v 2)),.int .i64 (.v 0),.ptr 0 0,.sl (.blk 3) (.v 6) (.e (.v 7)),.int .i64 (.tn (.v 6)),.int .i64 (.ar .add .i64 (.v 5) (.tn (.v 6))),.x 29,.x 30,.x 31,.x 32,.x 33,.x 34,.x 35,.x 36,.x 37,.x 38,.x 39,.x 40,.x 41,.x 42,.x 43,.x 44,.x 45,.x 46,.x 47,.x 48,.x 49,.x 50,.x 51,.x 52,.x 53,.x 54,.x 55,.x 56,.x 57,.x 58,.x 59,.x 60,.x 61,.x 62,.x 63,.x 64,.x 65,.x 66,.x 67,.x 68,.x 69,.x 70,.x 71,.x 72,.x 73,.x 74,.x 75,.x 76,.x 77,.x 78,.x 79,.x 80,.x 81,.x 82,.x 83,.x 84,.x 85,.x 86,.x 87],[],[0,1,2]⟩
theorem rsC0_head : zda Try.prog rsC0_sub rsC_0 rs1:=⟨by kernel_rfl,by kernel_rfl⟩
noncomputable def rsD_in : St:=⟨yk2,yjv,ykf,0⟩
noncomputable def rsD_0 : St:=⟨[⟨5,ykq ++ ykk ++ yk4 ++ ur 8 ++ [.bool (.lit true)] ++ xr 45 43,[.code (.at_ [1,0,1,0,4]),.code (.at_ [5])]⟩],yjv,[((.cmp .leq (.v 5) (.lit 1000)),true)] ++ yks ++ ykf,0⟩
theorem rsD_0_end : zc6 Try.prog rsD_0 = some (.bool (.lit true)):=by kernel_rfl
noncomputable def rsD_1 : St:=⟨[⟨5,ykq ++ ykk ++ yjt ++ yjy ++ xr 45 43,[.code (.at_ [1,0,1,0,4]),.code (.at_ [5])]⟩],yjv,yl0 ++ ykc ++ yks ++ ykf,0⟩
theorem rsD_1_end : zc6 Try.prog rsD_1 = some (.bool (.lit true)):=by kernel_rfl
noncomputable def rsD_2 : St:=⟨[⟨5,yke ++ xr 1 3 ++ ykk ++ yjt ++ yjy ++ yk9,[.inRegion [0,5] [3,4,5,6,7,8,9],.code (.at_ [6])]⟩],yjv,yky ++ ykc ++ yks ++ ykf,0⟩
noncomputable def rsD_3 : St:=⟨[⟨5,yke ++ xr 1 3 ++ ykk ++ yjt ++ ur 3 ++ ykr ++ yk9,[.inRegion [0,5] [3,4,5,6,7,8,9],.code (.at_ [6])]⟩],yjv,ykx ++ yks ++ ykf,0⟩
noncomputable def rsD_4 : St:=⟨[⟨5,ykq ++ yk0 ++ yjy ++ xr 45 43,[.code (.at_ [1,0,1,0,4]),.code (.at_ [5])]⟩],yjv,yl0 ++ ykv,0⟩
theorem rsD_4_end : zc6 Try.prog rsD_4 = some (.bool (.lit true)):=by kernel_rfl
noncomputable def rsD_5 : St:=⟨[⟨5,yke ++ xr 1 3 ++ yk0 ++ yjy ++ yk9,[.inRegion [0,5] [3,4,5,6,7,8,9],.code (.at_ [6])]⟩],yjv,yky ++ ykv,0⟩
noncomputable def rsD_6 : St:=⟨[⟨5,yke ++ xr 1 3 ++ yk0 ++ ur 3 ++ ykr ++ yk9,[.inRegion [0,5] [3,4,5,6,7,8,9],.code (.at_ [6])]⟩],yjv,[((.cmp .gtr (.tn (.v 3)) (.lit 1000)),false),((.cmp .gtr (.v 5) (.lit 400)),false)] ++ ykf,0⟩
theorem rsD_run : run Try.prog [] [20,19,21,22,11] true 900 rsD_in = [rsD_0,rsD_1,rsD_2,rsD_3,rsD_4,rsD_5,rsD_6]:=by kernel_rfl
noncomputable def rs2 : St:=⟨[⟨5,yke ++ xr 1 47 ++ ykd ++ xr 48 39,[.inRegion [0,5] [3,4,5,6,7,8,9],.code (.at_ [6])]⟩],ykt,[],0⟩
noncomputable def rsD_2p_sub : Sub:=⟨[(.lit 0),(.v 1),(.v 2),(.v 3),(.v 4),(.v 6),(.v 7),(.v 8),(.v 9)],[],[.x 0,.x 1,.x 2,.x 3,.int .i64 (.v 5),.int .i64 (.v 0),.x 4,.x 5,.x 6,.x 7,.x 8,.x 9,.x 10,.x 11,.int .i64 (.v 0),.sl (.blk 0) (.v 1) (.e (.v 2)),.int .i64 (.tn (.v 1)),.bool (.cmp .lss (.v 0) (.tn (.v 1))),.bool (.cmp .lss (.v 0) (.tn (.v 1))),u,u,.bool (.lit false),.x 20,.x 21,.x 22,.x 23,.x 24,.x 25,.x 26,.x 27,.x 28,.int .i64 (.v 5),.bool (.cmp .gtr (.v 5) (.lit 400)),.bool (.cmp .gtr (.v 5) (.lit 400)),.int .i64 (.v 5),.bool (.cmp .leq (.v 5) (.lit 1000)),.bool (.cmp .leq (.v 5) (.lit 1000)),.bool (.cmp .leq (.v 5) (.lit 1000)),.sl (.blk 1) (.v 3) (.e (.v 4)),.int .i64 (.tn (.v 3)),.bool (.cmp .gtr (.tn (.v 3)) (.lit 1000)),.bool (.cmp .gtr (.tn (.v 3)) (.lit 1000)),.sl (.blk 1) (.v 3) (.e (.v 4)),.int .i64 (.tn (.v 3)),.bool (.cmp .leq (.tn (.v 3)) (.lit 20000)),.bool (.cmp .leq (.tn (.v 3)) (.lit 20000)),.bool (.cmp .leq (.tn (.v 3)) (.lit 20000)),.x 45,.x 49,.x 50,.x 51,.x 52,.x 53,.x 54,.x 55,.x 56,.x 57,.x 58,.x 59,.x 60,.x 61,.x 62,.x 63,.x 64,.x 65,.x 66,.x 67,.x 68,.x 69,.x 70,.x 71,.x 72,.x 73,.x 74,.x 75,.x 76,.x 77,.x 78,.x 79,.x 80,.x 81,.x 82,.x 83,.x 84,.x 85,.x 86,.x 87],[],[0,1,2]⟩
theorem rsD_2p_fits : zfy rsD_2p_sub ⟨rsD_2.frs,[],[],0⟩ ⟨rs2.frs,[],[],0⟩:=⟨by kernel_rfl,by kernel_rfl⟩
noncomputable def rsD_3p_sub : Sub:=⟨[(.lit 0),(.v 1),(.v 2),(.v 3),(.v 4),(.v 6),(.v 7),(.v 8),(.v 9)],[],[.x 0,.x 1,.x 2,.x 3,.int .i64 (.v 5),.int .i64 (.v 0),.x 4,.x 5,.x 6,.x 7,.x 8,.x 9,.x 10,.x 11,.int .i64 (.v 0),.sl (.blk 0) (.v 1) (.e (.v 2)),.int .i64 (.tn (.v 1)),.bool (.cmp .lss (.v 0) (.tn (.v 1))),.bool (.cmp .lss (.v 0) (.tn (.v 1))),u,u,.bool (.lit false),.x 20,.x 21,.x 22,.x 23,.x 24,.x 25,.x 26,.x 27,.x 28,.int .i64 (.v 5),.bool (.cmp .gtr (.v 5) (.lit 400)),.bool (.cmp .gtr (.v 5) (.lit 400)),.int .i64 (.v 5),.bool (.cmp .leq (.v 5) (.lit 1000)),.bool (.cmp .leq (.v 5) (.lit 1000)),.bool (.cmp .leq (.v 5) (.lit 1000)),.sl (.blk 1) (.v 3) (.e (.v 4)),.int .i64 (.tn (.v 3)),.bool (.cmp .gtr (.tn (.v 3)) (.lit 1000)),.bool (.cmp .gtr (.tn (.v 3)) (.lit 1000)),u,u,u,.bool (.lit false),.bool (.lit false),.x 45,.x 49,.x 50,.x 51,.x 52,.x 53,.x 54,.x 55,.x 56,.x 57,.x 58,.x 59,.x 60,.x 61,.x 62,.x 63,.x 64,.x 65,.x 66,.x 67,.x 68,.x 69,.x 70,.x 71,.x 72,.x 73,.x 74,.x 75,.x 76,.x 77,.x 78,.x 79,.x 80,.x 81,.x 82,.x 83,.x 84,.x 85,.x 86,.x 87],[],[0,1,2]⟩
theorem rsD_3p_fits : zfy rsD_3p_sub ⟨rsD_3.frs,[],[],0⟩ ⟨rs2.frs,[],[],0⟩:=⟨by kernel_rfl,by kernel_rfl⟩
noncomputable def rsD_5p_sub : Sub:=⟨[(.lit 0),(.v 1),(.v 2),(.v 3),(.v 4),(.v 6),(.v 7),(.v 8),(.v 9)],[],[.x 0,.x 1,.x 2,.x 3,.int .i64 (.v 5),.int .i64 (.v 0),.x 4,.x 5,.x 6,.x 7,.x 8,.x 9,.x 10,.x 11,.int .i64 (.v 0),.sl (.blk 0) (.v 1) (.e (.v 2)),.int .i64 (.tn (.v 1)),.bool (.cmp .lss (.v 0) (.tn (.v 1))),.bool (.cmp .lss (.v 0) (.tn (.v 1))),u,u,.bool (.lit false),.x 20,.x 21,.x 22,.x 23,.x 24,.x 25,.x 26,.x 27,.x 28,.int .i64 (.v 5),.bool (.cmp .gtr (.v 5) (.lit 400)),.bool (.cmp .gtr (.v 5) (.lit 400)),u,u,.bool (.lit false),.bool (.lit false),.sl (.blk 1) (.v 3) (.e (.v 4)),.int .i64 (.tn (.v 3)),.bool (.cmp .gtr (.tn (.v 3)) (.lit 1000)),.bool (.cmp .gtr (.tn (.v 3)) (.lit 1000)),.sl (.blk 1) (.v 3) (.e (.v 4)),.int .i64 (.tn (.v 3)),.bool (.cmp .leq (.tn (.v 3)) (.lit 20000)),.bool (.cmp .leq (.tn (.v 3)) (.lit 20000)),.bool (.cmp .leq (.tn (.v 3)) (.lit 20000)),.x 45,.x 49,.x 50,.x 51,.x 52,.x 53,.x 54,.x 55,.x 56,.x 57,.x 58,.x 59,.x 60,.x 61,.x 62,.x 63,.x 64,.x 65,.x 66,.x 67,.x 68,.x 69,.x 70,.x 71,.x 72,.x 73,.x 74,.x 75,.x 76,.x 77,.x 78,.x 79,.x 80,.x 81,.x 82,.x 83,.x 84,.x 85,.x 86,.x 87],[],[0,1,2]⟩
theorem rsD_5p_fits : zfy rsD_5p_sub ⟨rsD_5.frs,[],[],0⟩ ⟨rs2.frs,[],[],0⟩:=⟨by kernel_rfl,by kernel_rfl⟩
noncomputable def rsD_6p_sub : Sub:=⟨[(.lit 0),(.v 1),(.v 2),(.v 3),(.v 4),(.v 6),(.v 7),(.v 8),(.v 9)],[],[.x 0,.x 1,.x 2,.x 3,.int .i64 (.v 5),.int .i64 (.v 0),.x 4,.x 5,.x 6,.x 7,.x 8,.x 9,.x 10,.x 11,.int .i64 (.v 0),.sl (.blk 0) (.v 1) (.e (.v 2)),.int .i64 (.tn (.v 1)),.bool (.cmp .lss (.v 0) (.tn (.v 1))),.bool (.cmp .lss (.v 0) (.tn (.v 1))),u,u,.bool (.lit false),.x 20,.x 21,.x 22,.x 23,.x 24,.x 25,.x 26,.x 27,.x 28,.int .i64 (.v 5),.bool (.cmp .gtr (.v 5) (.lit 400)),.bool (.cmp .gtr (.v 5) (.lit 400)),u,u,.bool (.lit false),.bool (.lit false),.sl (.blk 1) (.v 3) (.e (.v 4)),.int .i64 (.tn (.v 3)),.bool (.cmp .gtr (.tn (.v 3)) (.lit 1000)),.bool (.cmp .gtr (.tn (.v 3)) (.lit 1000)),u,u,u,.bool (.lit false),.bool (.lit false),.x 45,.x 49,.x 50,.x 51,.x 52,.x 53,.x 54,.x 55,.x 56,.x 57,.x 58,.x 59,.x 60,.x 61,.x 62,.x 63,.x 64,.x 65,.x 66,.x 67,.x 68,.x 69,.x 70,.x 71,.x 72,.x 73,.x 74,.x 75,.x 76,.x 77,.x 78,.x 79,.x 80,.x 81,.x 82,.x 83,.x 84,.x 85,.x 86,.x 87],[],[0,1,2]⟩
theorem rsD_6p_fits : zfy rsD_6p_sub ⟨rsD_6.frs,[],[],0⟩ ⟨rs2.frs,[],[],0⟩:=⟨by kernel_rfl,by kernel_rfl⟩
noncomputable def rsE_in : St:=⟨yk2,yjv,yk3,0⟩
noncomputable def rsE_0 : St:=⟨[⟨5,ykq ++ [Li 5,Li 0] ++ yk5 ++ yk4 ++ ur 8 ++ [.bool (.lit true)] ++ xr 45 43,[.code (.at_ [1,0,1,0,4]),.code (.at_ [5])]⟩],yjv,[((.cmp .leq (.v 5) (.lit 1000)),true)] ++ yk3,0⟩
theorem rsE_0_end : zc6 Try.prog rsE_0 = some (.bool (.lit true)):=by kernel_rfl
noncomputable def rsE_1 : St:=⟨[⟨5,ykq ++ [Li 5,Li 0] ++ yk5 ++ yjt ++ yjy ++ xr 45 43,[.code (.at_ [1,0,1,0,4]),.code (.at_ [5])]⟩],yjv,yl0 ++ ykc ++ yk3,0⟩
theorem rsE_1_end : zc6 Try.prog rsE_1 = some (.bool (.lit true)):=by kernel_rfl
noncomputable def rsE_2 : St:=⟨[⟨5,yke ++ xr 1 3 ++ [Li 5,Li 0] ++ yk5 ++ yjt ++ yjy ++ yk9,[.inRegion [0,5] [3,4,5,6,7,8,9],.code (.at_ [6])]⟩],yjv,yky ++ ykc ++ yk3,0⟩
noncomputable def rsE_3 : St:=⟨[⟨5,yke ++ xr 1 3 ++ [Li 5,Li 0] ++ yk5 ++ yjt ++ ur 3 ++ ykr ++ yk9,[.inRegion [0,5] [3,4,5,6,7,8,9],.code (.at_ [6])]⟩],yjv,ykx ++ yk3,0⟩
theorem rsE_run : run Try.prog [] [20,19,21,22,11] true 900 rsE_in = [rsE_0,rsE_1,rsE_2,rsE_3]:=by kernel_rfl
noncomputable def rsE_2p_sub : Sub:=⟨[(.lit 0),(.v 1),(.v 2),(.v 3),(.v 4),(.v 6),(.v 7),(.v 8),(.v 9)],[],[.x 0,.x 1,.x 2,.x 3,.int .i64 (.v 5),.int .i64 (.v 0),.x 4,.x 5,.x 6,.x 7,.x 8,.x 9,.x 10,.x 11,.int .i64 (.v 0),.sl (.blk 0) (.v 1) (.e (.v 2)),.int .i64 (.tn (.v 1)),.bool (.cmp .lss (.v 0) (.tn (.v 1))),.bool (.cmp .lss (.v 0) (.tn (.v 1))),.int .i64 (.v 5),.bool (.cmp .leq (.v 5) (.lit 400)),.bool (.cmp .leq (.v 5) (.lit 400)),.x 20,.x 21,.x 22,.x 23,.x 24,.x 25,.x 26,.x 27,.x 28,.int .i64 (.v 5),.bool (.cmp .gtr (.v 5) (.lit 400)),.bool (.cmp .gtr (.v 5) (.lit 400)),.int .i64 (.v 5),.bool (.cmp .leq (.v 5) (.lit 1000)),.bool (.cmp .leq (.v 5) (.lit 1000)),.bool (.cmp .leq (.v 5) (.lit 1000)),.sl (.blk 1) (.v 3) (.e (.v 4)),.int .i64 (.tn (.v 3)),.bool (.cmp .gtr (.tn (.v 3)) (.lit 1000)),.bool (.cmp .gtr (.tn (.v 3)) (.lit 1000)),.sl (.blk 1) (.v 3) (.e (.v 4)),.int .i64 (.tn (.v 3)),.bool (.cmp .leq (.tn (.v 3)) (.lit 20000)),.bool (.cmp .leq (.tn (.v 3)) (.lit 20000)),.bool (.cmp .leq (.tn (.v 3)) (.lit 20000)),.x 45,.x 49,.x 50,.x 51,.x 52,.x 53,.x 54,.x 55,.x 56,.x 57,.x 58,.x 59,.x 60,.x 61,.x 62,.x 63,.x 64,.x 65,.x 66,.x 67,.x 68,.x 69,.x 70,.x 71,.x 72,.x 73,.x 74,.x 75,.x 76,.x 77,.x 78,.x 79,.x 80,.x 81,.x 82,.x 83,.x 84,.x 85,.x 86,.x 87],[],[0,1,2]⟩
theorem rsE_2p_fits : zfy rsE_2p_sub ⟨rsE_2.frs,[],[],0⟩ ⟨rs2.frs,[],[],0⟩:=⟨by kernel_rfl,by kernel_rfl⟩
noncomputable def rsE_3p_sub : Sub:=⟨[(.lit 0),(.v 1),(.v 2),(.v 3),(.v 4),(.v 6),(.v 7),(.v 8),(.v 9)],[],[.x 0,.x 1,.x 2,.x 3,.int .i64 (.v 5),.int .i64 (.v 0),.x 4,.x 5,.x 6,.x 7,.x 8,.x 9,.x 10,.x 11,.int .i64 (.v 0),.sl (.blk 0) (.v 1) (.e (.v 2)),.int .i64 (.tn (.v 1)),.bool (.cmp .lss (.v 0) (.tn (.v 1))),.bool (.cmp .lss (.v 0) (.tn (.v 1))),.int .i64 (.v 5),.bool (.cmp .leq (.v 5) (.lit 400)),.bool (.cmp .leq (.v 5) (.lit 400)),.x 20,.x 21,.x 22,.x 23,.x 24,.x 25,.x 26,.x 27,.x 28,.int .i64 (.v 5),.bool (.cmp .gtr (.v 5) (.lit 400)),.bool (.cmp .gtr (.v 5) (.lit 400)),.int .i64 (.v 5),.bool (.cmp .leq (.v 5) (.lit 1000)),.bool (.cmp .leq (.v 5) (.lit 1000)),.bool (.cmp .leq (.v 5) (.lit 1000)),.sl (.blk 1) (.v 3) (.e (.v 4)),.int .i64 (.tn (.v 3)),.bool (.cmp .gtr (.tn (.v 3)) (.lit 1000)),.bool (.cmp .gtr (.tn (.v 3)) (.lit 1000)),u,u,u,.bool (.lit false),.bool (.lit false),.x 45,.x 49,.x 50,.x 51,.x 52,.x 53,.x 54,.x 55,.x 56,.x 57,.x 58,.x 59,.x 60,.x 61,.x 62,.x 63,.x 64,.x 65,.x 66,.x 67,.x 68,.x 69,.x 70,.x 71,.x 72,.x 73,.x 74,.x 75,.x 76,.x 77,.x 78,.x 79,.x 80,.x 81,.x 82,.x 83,.x 84,.x 85,.x 86,.x 87],[],[0,1,2]⟩
theorem rsE_3p_fits : zfy rsE_3p_sub ⟨rsE_3.frs,[],[],0⟩ ⟨rs2.frs,[],[],0⟩:=⟨by kernel_rfl,by kernel_rfl⟩
noncomputable def rs2_op : Oper:=(za1 Try.prog 5 [0,5]).getD 3 default
theorem rs2_at : (za1 Try.prog 5 [0,5])[3]? = some rs2_op:=by kernel_rfl
noncomputable def rs2_fr : Fr:=⟨5,yke ++ xr 1 47 ++ ykd ++ xr 48 39,[.inRegion [0,5] [3,4,5,6,7,8,9],.code (.at_ [6])]⟩
theorem rs2_gd : guardOf rs2.facts (za1 Try.prog 5 [0,5]) rs2_fr.tmps rs2_op = .yes:=by kernel_rfl
noncomputable def znr : List SV:=ykd
theorem rs2_call : zc1 Try.prog rs2_fr.tmps rs2_op.op = some (20,znr):=by kernel_rfl
theorem rs2_fresh : (fresh Try.prog 20 znr).isSome = true:=by kernel_rfl
noncomputable def rs2_frb : Fr:=⟨5,yke ++ xr 1 47 ++ ykd ++ [.x 87] ++ xr 49 38,[.inRegion [0,5] [4,5,6,7,8,9],.code (.at_ [6])]⟩
theorem rs2_put : Fr.put rs2_fr rs2_op.dst (.x 87) ([.inRegion [0,5] [4,5,6,7,8,9],.code (.at_ [6])]) = rs2_frb:=by kernel_rfl
noncomputable def rs2_p : St:=⟨[⟨5,[.x 0,.sl (.blk 0) (.v 1) (.e (.v 2)),.sl (.blk 1) (.v 3) (.e (.v 4)),.ptr 2 0,.x 1,.x 2,.x 3,.x 4,.x 5,.x 6,.x 7,.x 8,.x 9,.x 10,.x 11,.x 12,.x 13,.x 14,.x 15,.x 16,.x 17,.x 18,.x 19,.x 20,.x 21,.x 22,.x 23,.x 24,.x 25,.x 26,.x 27,.x 28,.x 29,.x 30,.x 31,.x 32,.x 33,.x 34,.x 35,.x 36,.x 37,.x 38,.x 39,.x 40,.x 41,.x 42,.x 43,.x 44,.x 45,.x 46,.x 47,.x 48,.x 49,.x 50,.x 89,.x 51,.x 52,.x 53,.x 54,.x 55,.x 56,.x 57,.x 58,.x 59,.x 60,.x 61,.x 62,.x 63,.x 64,.x 65,.x 66,.x 67,.x 68,.x 69,.x 70,.x 71,.x 72,.x 73,.x 74,.x 75,.x 76,.x 77,.x 78,.x 79,.x 80,.x 81,.x 82,.x 83,.x 84,.x 85,.x 86,.x 87,.x 88],[.inRegion [0,5] [4,5,6,7,8,9],.code (.at_ [6])]⟩],
 [],
 [],
 0⟩
noncomputable def zdu : Sub:=⟨[(.lit 0),(.v 1),(.v 2),(.v 3),(.v 4)],[],[.x 0,.x 1,.x 2,.x 3,.x 4,.x 5,.x 6,.x 7,.x 8,.x 9,.x 10,.x 11,.x 12,.x 13,.x 14,.x 15,.x 16,.x 17,.x 18,.x 19,.x 20,.x 21,.x 22,.x 23,.x 24,.x 25,.x 26,.x 27,.x 28,.x 29,.x 30,.x 31,.x 32,.x 33,.x 34,.x 35,.x 36,.x 37,.x 38,.x 39,.x 40,.x 41,.x 42,.x 43,.x 44,.x 45,.x 46,.x 47,.agg [.int .i64 (.v 5),.int .i64 (.v 6),.int .i64 (.v 7),.int .i64 (.v 8)],.sl (.blk 0) (.v 1) (.e (.v 2)),.sl (.blk 1) (.v 3) (.e (.v 4)),.x 49,.x 50,.x 51,.x 52,.x 53,.x 54,.x 55,.x 56,.x 57,.x 58,.x 59,.x 60,.x 61,.x 62,.x 63,.x 64,.x 65,.x 66,.x 67,.x 68,.x 69,.x 70,.x 71,.x 72,.x 73,.x 74,.x 75,.x 76,.x 77,.x 78,.x 79,.x 80,.x 81,.x 82,.x 83,.x 84,.x 85,.x 86,.x 87],[],[0,1,2]⟩
theorem rs2p_fits : zfy zdu ⟨[rs2_frb],[],[],0⟩ rs2_p:=⟨by kernel_rfl,by kernel_rfl⟩
noncomputable def zl2 : St:=⟨[⟨5,[.x 0,.sl (.blk 0) (.v 1) (.e (.v 2)),.sl (.blk 1) (.v 3) (.e (.v 4)),.ptr 2 0,.x 1,.x 2,.x 3,.x 4,.x 5,.x 6,.x 7,.x 8,.x 9,.x 10,.x 11,.x 12,.x 13,.x 14,.x 15,.x 16,.x 17,.x 18,.x 19,.x 20,.x 21,.x 22,.x 23,.x 24,.x 25,.x 26,.x 27,.x 28,.x 29,.x 30,.x 31,.x 32,.x 33,.x 34,.x 35,.x 36,.x 37,.x 38,.x 39,.x 40,.x 41,.x 42,.x 43,.x 44,.x 45,.x 46,.x 47,.x 48,.x 49,.x 50,.tup [.agg [.sl (.blk 3) (.v 9) (.e (.v 10)),.sl (.blk 4) (.v 11) (.e (.v 12)),.int .u64 (.v 13),.int .u64 (.v 14),.y 0,.y 1,.int .u64 (.v 15),.int .u64 (.v 16),.y 2,.y 3,.y 4],.int .i64 (.lit 0)],.x 51,.x 52,.x 53,.x 54,.x 55,.x 56,.x 57,.x 58,.x 59,.x 60,.x 61,.x 62,.x 63,.x 64,.x 65,.x 66,.x 67,.x 68,.x 69,.x 70,.x 71,.x 72,.x 73,.x 74,.x 75,.x 76,.x 77,.x 78,.x 79,.x 80,.x 81,.x 82,.x 83,.x 84,.x 85,.x 86,.x 87,.x 88],[.inRegion [0,5] [4,5,6,7,8,9],.code (.at_ [6])]⟩],
 [⟨49,[],false,none,none,none⟩,
 ⟨61,[],false,none,none,none⟩,
 ⟨36,[.int .i64 (.v 5),.int .i64 (.v 6),.int .i64 (.v 7),.int .i64 (.v 8)],false,none,none,none⟩,
 ⟨63,[],false,none,none,none⟩,
 ⟨65,[],false,none,none,none⟩],
 [],
 0⟩
noncomputable def rsG_0 : St:=⟨[⟨5,yjx ++ xr 57 32,[.inRegion [0,6] [3,4,5,6,7,8,9],.code (.at_ [7])]⟩],ykt ++ ykp ++ [⟨52,[.sl (.blk 3) (.v 9) (.e (.v 10)),.sl (.blk 4) (.v 11) (.e (.v 12)),Lu 13,Lu 14,.y 0,.y 1,Lu 15,Lu 16,.y 2,.y 3,.y 4],true,none,none,none⟩],[],0⟩
theorem rsG_run : run Try.prog [] [20,19,21,22,11] true 900 zl2 = [rsG_0]:=by kernel_rfl
noncomputable def zky : St:=⟨[⟨5,[.x 0,.sl (.blk 0) (.v 1) (.e (.v 2)),.sl (.blk 1) (.v 3) (.e (.v 4)),.ptr 2 0,.x 1,.x 2,.x 3,.x 4,.x 5,.x 6,.x 7,.x 8,.x 9,.x 10,.x 11,.x 12,.x 13,.x 14,.x 15,.x 16,.x 17,.x 18,.x 19,.x 20,.x 21,.x 22,.x 23,.x 24,.x 25,.x 26,.x 27,.x 28,.x 29,.x 30,.x 31,.x 32,.x 33,.x 34,.x 35,.x 36,.x 37,.x 38,.x 39,.x 40,.x 41,.x 42,.x 43,.x 44,.x 45,.x 46,.x 47,.x 48,.x 49,.x 50,.tup [.agg [.c (.slice none 0 0),.c (.slice none 0 0),.int .u64 (.lit 0),.int .u64 (.lit 0),.c (.slice none 0 0),.c (.slice none 0 0),.int .u64 (.lit 0),.int .u64 (.lit 0),.c (.slice none 0 0),.c (.slice none 0 0),.c (.slice none 0 0)],.int .i64 (.lit 1)],.x 51,.x 52,.x 53,.x 54,.x 55,.x 56,.x 57,.x 58,.x 59,.x 60,.x 61,.x 62,.x 63,.x 64,.x 65,.x 66,.x 67,.x 68,.x 69,.x 70,.x 71,.x 72,.x 73,.x 74,.x 75,.x 76,.x 77,.x 78,.x 79,.x 80,.x 81,.x 82,.x 83,.x 84,.x 85,.x 86,.x 87,.x 88],[.inRegion [0,5] [4,5,6,7,8,9],.code (.at_ [6])]⟩],
 [⟨49,[],false,none,none,none⟩,
 ⟨61,[],false,none,none,none⟩,
 ⟨36,[.int .i64 (.v 5),.int .i64 (.v 6),.int .i64 (.v 7),.int .i64 (.v 8)],false,none,none,none⟩],
 [],
 0⟩
noncomputable def rsN_0 : St:=⟨[⟨5,yjs ++ xr 57 32,[.inRegion [0,6] [3,4,5,6,7,8,9],.code (.at_ [7])]⟩],ykt ++ [⟨52,yjw,true,none,none,none⟩],[],0⟩
theorem rsN_run : run Try.prog [] [20,19,21,22,11] true 900 zky = [rsN_0]:=by kernel_rfl
noncomputable def zjy : Oper:=(za1 Try.prog 5 [0,6]).getD 3 default
theorem rsG_0_at : (za1 Try.prog 5 [0,6])[3]? = some zjy:=by kernel_rfl
noncomputable def zhz : Fr:=⟨5,yjx ++ xr 57 32,[.inRegion [0,6] [3,4,5,6,7,8,9],.code (.at_ [7])]⟩
theorem rsG_0_gd : guardOf rsG_0.facts (za1 Try.prog 5 [0,6]) zhz.tmps zjy = .yes:=by kernel_rfl
noncomputable def zik : List SV:=ykd
theorem rsG_0_call : zc1 Try.prog zhz.tmps zjy.op = some (21,zik):=by kernel_rfl
theorem rsG_0_fresh : (fresh Try.prog 21 zik).isSome = true:=by kernel_rfl
noncomputable def zl3 : Fr:=⟨5,yjx ++ [.x 90] ++ xr 58 31,[.inRegion [0,6] [4,5,6,7,8,9],.code (.at_ [7])]⟩
theorem rsG_0_put : Fr.put zhz zjy.dst (.x 90) ([.inRegion [0,6] [4,5,6,7,8,9],.code (.at_ [7])]) = zl3:=by kernel_rfl
noncomputable def znp : St:=⟨[⟨5,[.x 0,.x 1,.x 2,.x 3,.x 4,.x 5,.x 6,.x 7,.x 8,.ptr 0 0,.int .i64 (.lit 0),.x 9,.x 10,.x 11,.x 12,.x 13,.x 14,.x 15,.x 16,.x 17,.x 18,.x 19,.x 20,.x 21,.x 22,.x 23,.x 24,.x 25,.x 26,.x 27,.x 28,.x 29,.x 30,.x 31,.x 32,.x 33,.x 34,.x 35,.x 36,.x 37,.x 38,.x 39,.x 40,.x 41,.x 42,.x 43,.x 44,.x 45,.x 46,.x 47,.x 48,.x 49,.x 50,.x 51,.x 52,.x 53,.x 54,.x 55,.x 56,.x 57,.x 58,.x 90,.x 59,.x 60,.x 61,.x 62,.x 63,.x 64,.x 65,.x 66,.x 67,.x 68,.x 69,.x 70,.x 71,.x 72,.x 73,.x 74,.x 75,.x 76,.x 77,.x 78,.x 79,.x 80,.x 81,.x 82,.x 83,.x 84,.x 85,.x 86,.x 87,.x 88,.x 89],[.inRegion [0,6] [4,5,6,7,8,9],.code (.at_ [7])]⟩],
 [],
 [],
 0⟩
noncomputable def zcn : Sub:=⟨[],[],[.x 0,.sl (.blk 0) (.v 1) (.e (.v 2)),.sl (.blk 1) (.v 3) (.e (.v 4)),.ptr 2 0,.x 1,.x 2,.x 3,.x 4,.x 5,.x 8,.x 9,.x 10,.x 11,.x 12,.x 13,.x 14,.x 15,.x 16,.x 17,.x 18,.x 19,.x 20,.x 21,.x 22,.x 23,.x 24,.x 25,.x 26,.x 27,.x 28,.x 29,.x 30,.x 31,.x 32,.x 33,.x 34,.x 35,.x 36,.x 37,.x 38,.x 39,.x 40,.x 41,.x 42,.x 43,.x 44,.x 45,.x 46,.tup [.agg [.sl (.blk 3) (.v 9) (.e (.v 10)),.sl (.blk 4) (.v 11) (.e (.v 12)),.int .u64 (.v 13),.int .u64 (.v 14),.y 0,.y 1,.int .u64 (.v 15),.int .u64 (.v 16),.y 2,.y 3,.y 4],.int .i64 (.lit 0)],.x 48,.x 49,.x 50,.tup [.agg [.sl (.blk 3) (.v 9) (.e (.v 10)),.sl (.blk 4) (.v 11) (.e (.v 12)),.int .u64 (.v 13),.int .u64 (.v 14),.y 0,.y 1,.int .u64 (.v 15),.int .u64 (.v 16),.y 2,.y 3,.y 4],.int .i64 (.lit 0)],.agg [.sl (.blk 3) (.v 9) (.e (.v 10)),.sl (.blk 4) (.v 11) (.e (.v 12)),.int .u64 (.v 13),.int .u64 (.v 14),.y 0,.y 1,.int .u64 (.v 15),.int .u64 (.v 16),.y 2,.y 3,.y 4],.int .i64 (.lit 0),.x 53,.agg [.int .i64 (.v 5),.int .i64 (.v 6),.int .i64 (.v 7),.int .i64 (.v 8)],.sl (.blk 0) (.v 1) (.e (.v 2)),.sl (.blk 1) (.v 3) (.e (.v 4)),.x 58,.x 59,.x 60,.x 61,.x 62,.x 63,.x 64,.x 65,.x 66,.x 67,.x 68,.x 69,.x 70,.x 71,.x 72,.x 73,.x 74,.x 75,.x 76,.x 77,.x 78,.x 79,.x 80,.x 81,.x 82,.x 83,.x 84,.x 85,.x 86,.x 87,.x 88,.x 90],[],[5]⟩
theorem rsG_0p_fits : zfy zcn ⟨[zl3],[],[],0⟩ znp:=⟨by kernel_rfl,by kernel_rfl⟩
noncomputable def zjx : Oper:=(za1 Try.prog 5 [0,6]).getD 3 default
theorem rsN_0_at : (za1 Try.prog 5 [0,6])[3]? = some zjx:=by kernel_rfl
noncomputable def zhy : Fr:=⟨5,yjs ++ xr 57 32,[.inRegion [0,6] [3,4,5,6,7,8,9],.code (.at_ [7])]⟩
theorem rsN_0_gd : guardOf rsN_0.facts (za1 Try.prog 5 [0,6]) zhy.tmps zjx = .yes:=by kernel_rfl
noncomputable def zij : List SV:=ykd
theorem rsN_0_call : zc1 Try.prog zhy.tmps zjx.op = some (21,zij):=by kernel_rfl
theorem rsN_0_fresh : (fresh Try.prog 21 zij).isSome = true:=by kernel_rfl
noncomputable def zkz : Fr:=⟨5,yjs ++ [.x 90] ++ xr 58 31,[.inRegion [0,6] [4,5,6,7,8,9],.code (.at_ [7])]⟩
theorem rsN_0_put : Fr.put zhy zjx.dst (.x 90) ([.inRegion [0,6] [4,5,6,7,8,9],.code (.at_ [7])]) = zkz:=by kernel_rfl
noncomputable def znm : St:=⟨[⟨5,[.x 0,.x 1,.x 2,.x 3,.x 4,.x 5,.x 6,.x 7,.x 8,.ptr 0 0,.int .i64 (.lit 1),.x 9,.x 10,.x 11,.x 12,.x 13,.x 14,.x 15,.x 16,.x 17,.x 18,.x 19,.x 20,.x 21,.x 22,.x 23,.x 24,.x 25,.x 26,.x 27,.x 28,.x 29,.x 30,.x 31,.x 32,.x 33,.x 34,.x 35,.x 36,.x 37,.x 38,.x 39,.x 40,.x 41,.x 42,.x 43,.x 44,.x 45,.x 46,.x 47,.x 48,.x 49,.x 50,.x 51,.x 52,.x 53,.x 54,.x 55,.x 56,.x 57,.x 58,.x 90,.x 59,.x 60,.x 61,.x 62,.x 63,.x 64,.x 65,.x 66,.x 67,.x 68,.x 69,.x 70,.x 71,.x 72,.x 73,.x 74,.x 75,.x 76,.x 77,.x 78,.x 79,.x 80,.x 81,.x 82,.x 83,.x 84,.x 85,.x 86,.x 87,.x 88,.x 89],[.inRegion [0,6] [4,5,6,7,8,9],.code (.at_ [7])]⟩],
 [],
 [],
 0⟩
noncomputable def zcm : Sub:=⟨[],[],[.x 0,.sl (.blk 0) (.v 1) (.e (.v 2)),.sl (.blk 1) (.v 3) (.e (.v 4)),.ptr 2 0,.x 1,.x 2,.x 3,.x 4,.x 5,.x 8,.x 9,.x 10,.x 11,.x 12,.x 13,.x 14,.x 15,.x 16,.x 17,.x 18,.x 19,.x 20,.x 21,.x 22,.x 23,.x 24,.x 25,.x 26,.x 27,.x 28,.x 29,.x 30,.x 31,.x 32,.x 33,.x 34,.x 35,.x 36,.x 37,.x 38,.x 39,.x 40,.x 41,.x 42,.x 43,.x 44,.x 45,.x 46,.tup [.agg [.c (.slice none 0 0),.c (.slice none 0 0),.int .u64 (.lit 0),.int .u64 (.lit 0),.c (.slice none 0 0),.c (.slice none 0 0),.int .u64 (.lit 0),.int .u64 (.lit 0),.c (.slice none 0 0),.c (.slice none 0 0),.c (.slice none 0 0)],.int .i64 (.lit 1)],.x 48,.x 49,.x 50,.tup [.agg [.c (.slice none 0 0),.c (.slice none 0 0),.int .u64 (.lit 0),.int .u64 (.lit 0),.c (.slice none 0 0),.c (.slice none 0 0),.int .u64 (.lit 0),.int .u64 (.lit 0),.c (.slice none 0 0),.c (.slice none 0 0),.c (.slice none 0 0)],.int .i64 (.lit 1)],.agg [.c (.slice none 0 0),.c (.slice none 0 0),.int .u64 (.lit 0),.int .u64 (.lit 0),.c (.slice none 0 0),.c (.slice none 0 0),.int .u64 (.lit 0),.int .u64 (.lit 0),.c (.slice none 0 0),.c (.slice none 0 0),.c (.slice none 0 0)],.int .i64 (.lit 1),.x 53,.agg [.int .i64 (.v 5),.int .i64 (.v 6),.int .i64 (.v 7),.int .i64 (.v 8)],.sl (.blk 0) (.v 1) (.e (.v 2)),.sl (.blk 1) (.v 3) (.e (.v 4)),.x 58,.x 59,.x 60,.x 61,.x 62,.x 63,.x 64,.x 65,.x 66,.x 67,.x 68,.x 69,.x 70,.x 71,.x 72,.x 73,.x 74,.x 75,.x 76,.x 77,.x 78,.x 79,.x 80,.x 81,.x 82,.x 83,.x 84,.x 85,.x 86,.x 87,.x 88,.x 90],[],[3]⟩
theorem rsN_0p_fits : zfy zcm ⟨[zkz],[],[],0⟩ znm:=⟨by kernel_rfl,by kernel_rfl⟩
noncomputable def zl1 : St:=⟨[⟨5,[.x 0,.x 1,.x 2,.x 3,.x 4,.x 5,.x 6,.x 7,.x 8,.ptr 0 0,.int .i64 (.lit 0),.x 9,.x 10,.x 11,.x 12,.x 13,.x 14,.x 15,.x 16,.x 17,.x 18,.x 19,.x 20,.x 21,.x 22,.x 23,.x 24,.x 25,.x 26,.x 27,.x 28,.x 29,.x 30,.x 31,.x 32,.x 33,.x 34,.x 35,.x 36,.x 37,.x 38,.x 39,.x 40,.x 41,.x 42,.x 43,.x 44,.x 45,.x 46,.x 47,.x 48,.x 49,.x 50,.x 51,.x 52,.x 53,.x 54,.x 55,.x 56,.x 57,.x 58,.tup [.agg [.sl (.blk 3) (.v 8) (.e (.v 9)),.sl (.blk 4) (.v 10) (.e (.v 11)),.int .u64 (.v 12),.int .u64 (.v 13),.y 5,.y 6,.int .u64 (.v 14),.int .u64 (.v 15),.y 7,.y 8,.y 9],.bool (.lit true)],.x 59,.x 60,.x 61,.x 62,.x 63,.x 64,.x 65,.x 66,.x 67,.x 68,.x 69,.x 70,.x 71,.x 72,.x 73,.x 74,.x 75,.x 76,.x 77,.x 78,.x 79,.x 80,.x 81,.x 82,.x 83,.x 84,.x 85,.x 86,.x 87,.x 88,.x 89],[.inRegion [0,6] [4,5,6,7,8,9],.code (.at_ [7])]⟩],
 [⟨52,[.sl (.blk 1) (.v 0) (.e (.v 1)),.sl (.blk 2) (.v 2) (.e (.v 3)),.int .u64 (.v 4),.int .u64 (.v 5),.y 0,.y 1,.int .u64 (.v 6),.int .u64 (.v 7),.y 2,.y 3,.y 4],false,none,none,none⟩,
 ⟨63,[],false,none,none,none⟩,
 ⟨65,[],false,none,none,none⟩,
 ⟨63,[],false,none,none,none⟩,
 ⟨65,[],false,none,none,none⟩],
 [],
 0⟩
noncomputable def rsH_0 : St:=⟨[⟨5,xr 0 9 ++ yjq ++ [.x 88,.x 89],[.inRegion [0,8] [5,6,7],.code (.at_ [9])]⟩],yjz,[],0⟩
theorem rsH_run : run Try.prog [] [20,19,21,22,11] true 900 zl1 = [rsH_0]:=by kernel_rfl
noncomputable def rsH_op : Oper:=(za1 Try.prog 5 [0,8]).getD 5 default
theorem rsH_at : (za1 Try.prog 5 [0,8])[5]? = some rsH_op:=by kernel_rfl
noncomputable def rsH_fr : Fr:=⟨5,xr 0 9 ++ yjq ++ [.x 88,.x 89],[.inRegion [0,8] [5,6,7],.code (.at_ [9])]⟩
theorem rsH_gd : guardOf rsH_0.facts (za1 Try.prog 5 [0,8]) rsH_fr.tmps rsH_op = .yes:=by kernel_rfl
noncomputable def zno : List SV:=yk8
theorem rsH_call : zc1 Try.prog rsH_fr.tmps rsH_op.op = some (22,zno):=by kernel_rfl
theorem rsH_fresh : (fresh Try.prog 22 zno).isSome = true:=by kernel_rfl
noncomputable def rsH_frb : Fr:=⟨5,xr 0 9 ++ yjq ++ [.bool (.lit true),.x 89],[.inRegion [0,8] [6,7],.code (.at_ [9])]⟩
theorem rsH_put : Fr.put rsH_fr rsH_op.dst (.bool (.lit true)) ([.inRegion [0,8] [6,7],.code (.at_ [9])]) = rsH_frb:=by kernel_rfl
noncomputable def rsI_in : St:=⟨[⟨5,xr 0 9 ++ yjq ++ [.bool (.lit true),.x 89],[.inRegion [0,8] [6,7],.code (.at_ [9])]⟩],yjz,[],0⟩
noncomputable def rsI_0 : St:=⟨[⟨5,xr 0 6 ++ [.bool (.lit true),.x 7,.x 8] ++ yjq ++ ykh,[.code (.at_ [9])]⟩],yjz,[],0⟩
theorem rsI_0_end : zc6 Try.prog rsI_0 = some (.bool (.lit true)):=by kernel_rfl
theorem rsI_run : run Try.prog [] [20,19,21,22,11] true 900 rsI_in = [rsI_0]:=by kernel_rfl
noncomputable def zl0 : St:=⟨[⟨5,[.x 0,.x 1,.x 2,.x 3,.x 4,.x 5,.x 6,.x 7,.x 8,.ptr 0 0,.int .i64 (.lit 1),.x 9,.x 10,.x 11,.x 12,.x 13,.x 14,.x 15,.x 16,.x 17,.x 18,.x 19,.x 20,.x 21,.x 22,.x 23,.x 24,.x 25,.x 26,.x 27,.x 28,.x 29,.x 30,.x 31,.x 32,.x 33,.x 34,.x 35,.x 36,.x 37,.x 38,.x 39,.x 40,.x 41,.x 42,.x 43,.x 44,.x 45,.x 46,.x 47,.x 48,.x 49,.x 50,.x 51,.x 52,.x 53,.x 54,.x 55,.x 56,.x 57,.x 58,.tup [.agg [.c (.slice none 0 0),.c (.slice none 0 0),.int .u64 (.lit 0),.int .u64 (.lit 0),.c (.slice none 0 0),.c (.slice none 0 0),.int .u64 (.lit 0),.int .u64 (.lit 0),.c (.slice none 0 0),.c (.slice none 0 0),.c (.slice none 0 0)],.bool (.lit false)],.x 59,.x 60,.x 61,.x 62,.x 63,.x 64,.x 65,.x 66,.x 67,.x 68,.x 69,.x 70,.x 71,.x 72,.x 73,.x 74,.x 75,.x 76,.x 77,.x 78,.x 79,.x 80,.x 81,.x 82,.x 83,.x 84,.x 85,.x 86,.x 87,.x 88,.x 89],[.inRegion [0,6] [4,5,6,7,8,9],.code (.at_ [7])]⟩],
 [⟨52,[.c (.slice none 0 0),.c (.slice none 0 0),.int .u64 (.lit 0),.int .u64 (.lit 0),.c (.slice none 0 0),.c (.slice none 0 0),.int .u64 (.lit 0),.int .u64 (.lit 0),.c (.slice none 0 0),.c (.slice none 0 0),.c (.slice none 0 0)],false,none,none,none⟩],
 [],
 0⟩
noncomputable def rsM_0 : St:=⟨[⟨5,xr 0 9 ++ yjp ++ xr 81 9,[.inRegion [0,0,1,0,7] [18,19,20],.code (.at_ [1,0,1,0,7]),.code (.at_ [8])]⟩],yko,[],0⟩
theorem rsM_run : run Try.prog [] [20,19,21,22,11] true 900 zl0 = [rsM_0]:=by kernel_rfl
noncomputable def rsM_op : Oper:=(za1 Try.prog 5 [0,0,1,0,7]).getD 18 default
theorem rsM_at : (za1 Try.prog 5 [0,0,1,0,7])[18]? = some rsM_op:=by kernel_rfl
noncomputable def rsM_fr : Fr:=⟨5,xr 0 9 ++ yjp ++ xr 81 9,[.inRegion [0,0,1,0,7] [18,19,20],.code (.at_ [1,0,1,0,7]),.code (.at_ [8])]⟩
theorem rsM_gd : guardOf rsM_0.facts (za1 Try.prog 5 [0,0,1,0,7]) rsM_fr.tmps rsM_op = .yes:=by kernel_rfl
noncomputable def znn : List SV:=yk1 ++ yk1
theorem rsM_call : zc1 Try.prog rsM_fr.tmps rsM_op.op = some (11,znn):=by kernel_rfl
theorem rsM_fresh : (fresh Try.prog 11 znn).isSome = true:=by kernel_rfl
noncomputable def rsM_frb : Fr:=⟨5,xr 0 9 ++ yjp ++ [.bool (.lit true)] ++ xr 82 8,[.inRegion [0,0,1,0,7] [19,20],.code (.at_ [1,0,1,0,7]),.code (.at_ [8])]⟩
theorem rsM_put : Fr.put rsM_fr rsM_op.dst (.bool (.lit true)) ([.inRegion [0,0,1,0,7] [19,20],.code (.at_ [1,0,1,0,7]),.code (.at_ [8])]) = rsM_frb:=by kernel_rfl
noncomputable def rsL_in : St:=⟨[⟨5,xr 0 9 ++ yjp ++ [.bool (.lit true)] ++ xr 82 8,[.inRegion [0,0,1,0,7] [19,20],.code (.at_ [1,0,1,0,7]),.code (.at_ [8])]⟩],yko,[],0⟩
noncomputable def rsL_0 : St:=⟨[⟨5,xr 0 6 ++ [.bool (.lit true),.x 7,.x 8] ++ yjp ++ ykh ++ xr 83 7,[.code (.at_ [1,0,1,0,7]),.code (.at_ [8])]⟩],yko,[],0⟩
theorem rsL_0_end : zc6 Try.prog rsL_0 = some (.bool (.lit true)):=by kernel_rfl
theorem rsL_run : run Try.prog [] [20,19,21,22,11] true 900 rsL_in = [rsL_0]:=by kernel_rfl
end
section
open Go Go.Conc Go.RowKit Jay Pl
open St Sx Rf
theorem zkk : Rp.zeroM.small:=⟨by decide,by decide,by decide,by decide,by decide⟩
section
variable {γ : Type} {X : zad γ} {Stop : γ -> Frame -> List Frame -> World -> Prop} {cs₀ : List Frame} {s : γ}
theorem rs_same {W w : World} {R : Rw} {vS vC vS' vC' : Value} {cE cF : Array Value} {gA : Nat} {xs : List Value} {q0 : Seg} (hb : Below W.heap.size W w) (hth : X.there s w) (hbk : ∀ w',Below W.heap.size W w' -> X.there s w' -> zmd Try.prog X Stop 5 cs₀ s (.bool true) w')
  (hs1 : Rp.Sps w w.heap.size vS R.steps) (hk1 : Sl w w.heap.size 7 vC (zbi R.steps).length ((zbi R.steps).flatMap Rc.cells)) (hE : zbb w w.heap.size R.mem cE) (hsm : R.mem.small)
  (hs2 : Rp.Sps w w.heap.size vS' R.steps) (hk2 : Sl w w.heap.size 7 vC' (zbi R.steps).length ((zbi R.steps).flatMap Rc.cells)) (hF : zbb w w.heap.size R.mem cF)
  (hT : Blk w gA 52 (#[vS,vC] ++ cE)) (hq0 : Whl q0 gA) (hxs : xs.length = 91) (hx : xs.getD 90 undef = .tuple #[.agg (#[vS',vC'] ++ cF),.bool true]) :
  Fr.reach Try.prog X Stop s cs₀ ⟨[],[],xs,[],[q0],[]⟩ znp.frs w:=by
 obtain ⟨v2,v3,v6,v7,v8,hcE,hyE⟩:=ze2 hE
 obtain ⟨y2,y3,y6,y7,y8,hcF,hyF⟩:=ze2 hF
 obtain ⟨A1,c1,rfl,_,_⟩:=Sl.form hs1
 obtain ⟨A2,c2,rfl,_,_⟩:=Sl.form hs2
 rw [zck] at hk1 hk2
 obtain ⟨B1,d1,rfl,_,_⟩:=Sl.form hk1
 obtain ⟨B2,d2,rfl,_,_⟩:=Sl.form hk2
 obtain ⟨g0,b0,o0,pre0,post0,cap0,ad0⟩:=q0
 obtain ⟨rfl,rfl,rfl,rfl⟩ : g0 = _ /\ o0 = _ /\ pre0 = _ /\ post0 = _:=hq0
 obtain ⟨n,hn⟩ : ∃ n,n = R.steps.length:=⟨_,rfl⟩
 let Y : Env:=⟨[(n : Int),(c1 : Int),(n : Int),(d1 : Int),R.mem.e,R.mem.f,R.mem.h,R.mem.t,(n : Int),(c2 : Int),(n : Int),(d2 : Int),R.mem.e,R.mem.f,R.mem.h,R.mem.t],[],xs,[v2,v3,v6,v7,v8,y2,y3,y6,y7,y8],[⟨g0,b0,0,[],[],cap0,ad0⟩,⟨g0,0,0,[],[],0,some A1⟩,⟨g0,0,0,[],[],0,some B1⟩,⟨g0,0,0,[],[],0,some A2⟩,⟨g0,0,0,[],[],0,some B2⟩],[]⟩
 refine zca (frs':=zl1.frs) (Y':=Y) (zfn (fr':=zl1.frs.headD default) (fr:=znp.frs.headD default) rfl rfl rfl ?_) ?_
 ·simp only [Y,zl1,znp,List.headD_cons,za3,SV.den]
  rw [hx,hcF,hn]
  rfl
 have hlt:=hT.lt
 have hr : Rep X s (ours Y zl1.heap) w Y zl1.heap zl1.facts 0 w:=by
  refine Rep.start hth (zb9 (l:=Y.ys) ⟨hyE.1,hyE.2.1,hyE.2.2.1,hyE.2.2.2.1,hyE.2.2.2.2.1,hyF⟩) rfl ⟨⟨hlt,zb8 rfl ?_,trivial,trivial,rfl⟩,kn hlt,kn hlt,kn hlt,kn hlt,trivial⟩ (nd_ro rfl) (za5 trivial) rfl
  rw [hcE,<- hn] at hT
  exact zaz hT rfl rfl
 refine zaa 900 rsH_run hr ⟨fun Y1 w1 hx1 hr1=>?_,trivial⟩
 have hb1 : Below w.heap.size w w1:=hr1.chg.below (fun k hk=>absurd hk (zah rfl k)) (Nat.le_refl _)
 show Fr.reach _ X Stop s cs₀ Y1 [rsH_fr] w1
 have hm1 : ∀ {c : Array Value},zbb w w.heap.size R.mem c -> zbb w1 w1.heap.size R.mem c:=fun h=>(zbb.chg h (Nat.le_refl _) (Chg.of_below (S:=fun _=>False) hb1) fun g hg=>hg.elim).more hb1.size
 have hcall:=same03 (X:=X) (s:=s) (w:=w1) (S:=R.steps) (C:=zbi R.steps) (S1:=A1) (S2:=A2) (C1:=B1) (C2:=B2) (c1:=c1) (c2:=c2) (d1:=d1) (d2:=d2) (cE:=cE) (cF:=cF) (m:=R.mem) ((Sl.below hs1 hb1).more hb1.size) ((Sl.below hs2 hb1).more hb1.size) (by rw [zck]; exact (hk1.below hb1).more hb1.size) (by rw [zck]; exact (hk2.below hb1).more hb1.size) (hm1 hE) (hm1 hF) hsm (Nat.lt_of_le_of_lt (Nat.zero_le _) (Nat.lt_of_lt_of_le hlt hb1.size))
 rw [zck,<- hn] at hcall
 refine zc7 (fr:=rsH_fr) (callers:=[]) (ht:=rfl) rsH_at rsH_gd rsH_call rsH_fresh hr1 (Post:=fun s' r w'=>s' = s /\ Below w1.heap.size w1 w' /\ r = .back (.bool true)) ?_ (fun s' v w2 hp ht2=>?_) (fun s' ch w' hp _=>by obtain ⟨_,_,e⟩:=hp; cases e)
 ·rwa [show (za3 Y1 zno).toArray = #[.agg (#[.slice A1 n c1,.slice B1 n d1] ++ cE),.agg (#[.slice A2 n c2,.slice B2 n d2] ++ cF)] by
   have i1 : Y1.ints = Y.ints:=hx1.ints
   have y1 : Y1.ys = Y.ys:=hx1.ys
   have k1:=hx1.blk (show 1 < 5 by decide)
   have k2:=hx1.blk (show 2 < 5 by decide)
   have k3:=hx1.blk (show 3 < 5 by decide)
   have k4:=hx1.blk (show 4 < 5 by decide)
   rw [hcE,hcF]
   obtain ⟨gi,gb,gx,gy,gk,gp⟩:=Y1
   dsimp only at i1 y1 k1 k2 k3 k4
   subst i1 y1
   show #[Value.agg #[.slice (gk.getD 1 {}).adr _ _,.slice (gk.getD 2 {}).adr _ _,_,_,_,_,_,_,_,_,_],.agg #[.slice (gk.getD 3 {}).adr _ _,.slice (gk.getD 4 {}).adr _ _,_,_,_,_,_,_,_,_,_]] = _
   rw [k1,k2,k3,k4]
   rfl]
 obtain ⟨rfl,hb2,ev⟩:=hp
 cases ev
 refine zdk (sv:=.bool (.lit true)) rfl ?_
 rw [rsH_put]
 have hr2:=(hr1.below hb2).rebase
 refine zaa 900 rsI_run hr2 ⟨fun Y3 w3 hx3 hr3=>?_,trivial⟩
 have hb02 : Below w.heap.size w w2:=hb1.trans (hb2.mono hb1.size)
 have hb3 : Below w.heap.size w2 w3:=hr3.chg.below (fun g hg=>by
  obtain ⟨i,x,hx,hw,rfl⟩:=hg
  rcases hr1.inS i x hx hw with h1 | h1
  ·exact absurd h1 (zah rfl _)
  ·exact h1) hb02.size
 exact zhe (v:=_) rsI_0_end rfl hr3.rep (hbk w3 (hb.trans ((hb02.trans hb3).mono hb.size)) hr3.there)
theorem rs_bad {W w : World} {gA : Nat} {xs : List Value} {q0 : Seg} (hb : Below W.heap.size W w) (hth : X.there s w) (hbk : ∀ w',Below W.heap.size W w' -> X.there s w' -> zmd Try.prog X Stop 5 cs₀ s (.bool true) w')
  (hT : Blk w gA 52 zTr.toArray) (hq0 : Whl q0 gA) (hxs : xs.length = 91) (hx : xs.getD 90 undef = .tuple #[.agg zTr.toArray,.bool false]) :
  Fr.reach Try.prog X Stop s cs₀ ⟨[],[],xs,[],[q0],[]⟩ znm.frs w:=by
 obtain ⟨g0,b0,o0,pre0,post0,cap0,ad0⟩:=q0
 obtain ⟨rfl,rfl,rfl,rfl⟩ : g0 = _ /\ o0 = _ /\ pre0 = _ /\ post0 = _:=hq0
 let Y : Env:=⟨[],[],xs,[],[⟨g0,b0,0,[],[],cap0,ad0⟩],[]⟩
 refine zca (frs':=zl0.frs) (Y':=Y) (zfn (fr':=zl0.frs.headD default) (fr:=znm.frs.headD default) rfl rfl rfl ?_) ?_
 ·simp only [Y,zl0,znm,List.headD_cons,za3,SV.den]
  rw [hx]
  rfl
 have hr : Rep X s (ours Y zl0.heap) w Y zl0.heap zl0.facts 0 w:=Rep.start hth (fun v hv=>by cases hv) rfl ⟨⟨hT.lt,zb8 rfl (zaz hT rfl rfl),trivial,trivial,rfl⟩,trivial⟩ ⟨trivial,trivial⟩ (za5 trivial) rfl
 refine zaa 900 rsM_run hr ⟨fun Y1 w1 hx1 hr1=>?_,trivial⟩
 have hb1 : Below w.heap.size w w1:=hr1.chg.below (fun k hk=>absurd hk (zah rfl k)) (Nat.le_refl _)
 show Fr.reach _ X Stop s cs₀ Y1 [rsM_fr] w1
 have hcall:=Rf.all (X:=X) (s:=s) (w:=w1) (va:=.agg #[.int .u64 0,.int .u64 0,.slice none 0 0,.slice none 0 0,.int .u64 0,.int .u64 0,.slice none 0 0,.slice none 0 0,.slice none 0 0]) (vb:=.agg #[.int .u64 0,.int .u64 0,.slice none 0 0,.slice none 0 0,.int .u64 0,.int .u64 0,.slice none 0 0,.slice none 0 0,.slice none 0 0]) ⟨_,rfl,Rp.zi7 w1 w1.heap.size⟩ ⟨_,rfl,Rp.zi7 w1 w1.heap.size⟩ (Nat.le_refl _) (zdo zkk) (zdo zkk)
 refine zc7 (fr:=rsM_fr) (callers:=[]) (ht:=rfl) rsM_at rsM_gd rsM_call rsM_fresh hr1 (Post:=fun s' r w'=>s' = s /\ Below w1.heap.size w1 w' /\ r = .back (.bool (Mem.same Rp.zeroM Rp.zeroM))) ?_ (fun s' v w2 hp ht2=>?_) (fun s' ch w' hp _=>by obtain ⟨_,_,e⟩:=hp; cases e)
 ·rwa [show (za3 Y1 znn).toArray = #[.agg #[.int .u64 0,.int .u64 0,.slice none 0 0,.slice none 0 0,.int .u64 0,.int .u64 0,.slice none 0 0,.slice none 0 0,.slice none 0 0],.agg #[.int .u64 0,.int .u64 0,.slice none 0 0,.slice none 0 0,.int .u64 0,.int .u64 0,.slice none 0 0,.slice none 0 0,.slice none 0 0]] from rfl]
 obtain ⟨rfl,hb2,ev⟩:=hp
 rw [(Mem.same_iff Rp.zeroM Rp.zeroM).2 rfl] at ev
 cases ev
 refine zdk (sv:=.bool (.lit true)) rfl ?_
 rw [rsM_put]
 have hr2:=(hr1.below hb2).rebase
 refine zaa 900 rsL_run hr2 ⟨fun Y3 w3 hx3 hr3=>?_,trivial⟩
 have hb02 : Below w.heap.size w w2:=hb1.trans (hb2.mono hb1.size)
 have hb3 : Below w.heap.size w2 w3:=hr3.chg.below (fun g hg=>by
  obtain ⟨i,x,hx,hw,rfl⟩:=hg
  rcases hr1.inS i x hx hw with h1 | h1
  ·exact absurd h1 (zah rfl _)
  ·exact h1) hb02.size
 exact zhe (v:=_) rsL_0_end rfl hr3.rep (hbk w3 (hb.trans ((hb02.trans hb3).mono hb.size)) hr3.there)
end
end
section
open Go Go.Conc Go.RowKit Jay Pl
open St Sx Rf
section
variable {γ : Type} {X : zad γ} {Stop : γ -> Frame -> List Frame -> World -> Prop} {cs₀ : List Frame} {s : γ}
theorem rs_both {W w : World} {k K T Mn : Int} {l : List (List Ac)} {picks : List (Int × Int)} {AL AP : Option Addr} {cL cP gC : Nat} {v : Value} {xs : List Value} {q0 q1 q2 : Seg} (hlm : l.length <= maxLen) (hb : Below W.heap.size W w) (hth : X.there s w) (hbk : ∀ w',Below W.heap.size W w' -> X.there s w' -> zmd Try.prog X Stop 5 cs₀ s (.bool true) w')
  (hcase : (Okw k K T Mn l picks /\ ∃ (vS vC : Value) (cE : Array Value),v = .tuple #[.agg (#[vS,vC] ++ cE),.int .i64 0] /\ Rp.Sps w w.heap.size vS (zcf k K T Mn l picks).steps /\ Sl w w.heap.size 7 vC (zbi (zcf k K T Mn l picks).steps).length ((zbi (zcf k K T Mn l picks).steps).flatMap Rc.cells) /\ zbb w w.heap.size (zcf k K T Mn l picks).mem cE /\ (zcf k K T Mn l picks).mem.small) \/ (¬ Okw k K T Mn l picks /\ v = badV))
  (hL : Lls w w.heap.size (.slice AL l.length cL) l) (hP : Sl w w.heap.size 2 (.slice AP picks.length cP) picks.length (picks.flatMap pkC)) (hC : Blk w gC 36 #[.int .i64 k,.int .i64 K,.int .i64 T,.int .i64 Mn])
  (h0 : q0.adr = AL /\ q0.g < w.heap.size) (h1 : q1.adr = AP /\ q1.g < w.heap.size) (h2 : Whl q2 gC) (hxs : xs.length = 90) (hx : xs.getD 89 undef = v) :
  Fr.reach Try.prog X Stop s cs₀ ⟨[0,(l.length : Int),(cL : Int),(picks.length : Int),(cP : Int)],[],xs,[],[q0,q1,q2],[]⟩ rs2_p.frs w:=by
 obtain ⟨g2,b2,o2,pre2,post2,cap2,ad2⟩:=q2
 obtain ⟨rfl,rfl,rfl,rfl⟩ : g2 = _ /\ o2 = _ /\ pre2 = _ /\ post2 = _:=h2
 have hlt:=hC.lt
 have keepL : ∀ w',Below w.heap.size w w' -> Lls w' w'.heap.size (.slice AL l.length cL) l:=fun w' hb=>by
  obtain ⟨vs,a1,a2,a3⟩:=hL.below hb
  exact ⟨vs,a1,a2.more hb.size,fun i u hu=>by obtain ⟨xs,b1,b2⟩:=a3 i u hu; exact ⟨xs,b1,Sl.more b2 hb.size⟩⟩
 rcases hcase with ⟨hok,vS,vC,cE,rfl,hs1,hk1,hE,hsm⟩ | ⟨hno,rfl⟩
 ·obtain ⟨v2,v3,v6,v7,v8,hcE,hyE⟩:=ze2 hE
  obtain ⟨A1,c1,rfl,_,_⟩:=Sl.form hs1
  have hk0:=hk1
  rw [zck] at hk1
  obtain ⟨B1,d1,rfl,_,_⟩:=Sl.form hk1
  generalize hR : zcf k K T Mn l picks = R at hs1 hk1 hk0 hE hsm hcE hx
  let Y : Env:=⟨[0,(l.length : Int),(cL : Int),(picks.length : Int),(cP : Int),k,K,T,Mn,(R.steps.length : Int),(c1 : Int),(R.steps.length : Int),(d1 : Int),R.mem.e,R.mem.f,R.mem.h,R.mem.t],[],xs,[v2,v3,v6,v7,v8],[q0,q1,⟨g2,b2,0,[],[],cap2,ad2⟩,⟨g2,0,0,[],[],0,some A1⟩,⟨g2,0,0,[],[],0,some B1⟩],[]⟩
  refine zca (frs':=zl2.frs) (Y':=Y) (zfn (fr':=zl2.frs.headD default) (fr:=rs2_p.frs.headD default) rfl rfl rfl ?_) ?_
  ·simp only [Y,zl2,rs2_p,List.headD_cons,za3,SV.den]
   rw [hx,hcE]
   rfl
  have hr : Rep X s (ours Y zl2.heap) w Y zl2.heap zl2.facts 0 w:=Rep.start hth (zb9 hyE) rfl ⟨kn h0.2,kn h1.2,⟨hlt,zb8 rfl (zaz hC rfl rfl),trivial,trivial,rfl⟩,kn hlt,kn hlt,trivial⟩ (nd_ro rfl) (za5 trivial) rfl
  refine zaa 900 rsG_run hr ⟨fun Y1 w1 hx1 hr1=>?_,trivial⟩
  have hb1 : Below w.heap.size w w1:=hr1.chg.below (fun k hk=>absurd hk (zah rfl k)) (Nat.le_refl _)
  have hi1 : Y1.ints = Y.ints:=hx1.ints
  have hy1 : Y1.ys = Y.ys:=hx1.ys
  have hl1 : Y1.blks.length = 6:=hr1.len
  have hx1l : Y1.xs.length = 90:=by rw [hx1.xs]; exact hxs
  have hL1 : Y1.lens = ⟨17,0,90,5,6⟩:=by
   have e1 : Y1.bools = []:=hx1.bools
   simp only [Env.lens,hi1,hy1,hx1l,hl1,e1]
   rfl
  have k0:=hx1.blk (show 0 < 5 by decide)
  have k1:=hx1.blk (show 1 < 5 by decide)
  have k3:=hx1.blk (show 3 < 5 by decide)
  have k4:=hx1.blk (show 4 < 5 by decide)
  obtain ⟨wA,bA⟩:=zex hr1 5 rfl rfl rfl rfl
  have bA' : Blk w1 (Y1.blks.getD 5 {}).g 52 (#[.slice A1 R.steps.length c1,.slice B1 R.steps.length d1] ++ cE):=by
   rw [hcE]
   have hp5 : Y1.perms = Y1.perms:=rfl
   obtain ⟨gi,gb,gx,gy,gk,gp⟩:=Y1
   dsimp only at hi1 hy1 k3 k4
   subst hi1 hy1
   have h3 : Blk w1 (gk.getD 5 {}).g 52 #[.slice (gk.getD 3 {}).adr R.steps.length c1,.slice (gk.getD 4 {}).adr R.steps.length d1,.int .u64 R.mem.e,.int .u64 R.mem.f,v2,v3,.int .u64 R.mem.h,.int .u64 R.mem.t,v6,v7,v8]:=bA
   rw [k3,k4] at h3
   exact h3
  show Fr.reach _ X Stop s cs₀ Y1 [zhz] w1
  have hraw:=raw03 (X:=X) (s:=s) (k:=k) (K:=K) (T:=T) (Mn:=Mn) (keepL w1 hb1) ((hP.below hb1).more hb1.size) (Nat.lt_of_le_of_lt (Nat.zero_le _) (Nat.lt_of_lt_of_le hlt hb1.size)) hlm
  refine zc7 (fr:=zhz) (callers:=[]) (ht:=rfl) rsG_0_at rsG_0_gd rsG_0_call rsG_0_fresh hr1 (Post:=Raw3 X s w1 k K T Mn l picks) ?_ (fun s' v w2 hp ht2=>?_) (fun s' ch w' hp _=>by obtain ⟨_,_,⟨_,_,_,_,e,_⟩ | ⟨_,e⟩⟩:=hp <;> cases e)
  ·rwa [show (za3 Y1 zik).toArray = #[cfg k K T Mn,.slice AL l.length cL,.slice AP picks.length cP] by
    obtain ⟨gi,gb,gx,gy,gk,gp⟩:=Y1
    dsimp only at hi1 k0 k1
    subst hi1
    show #[cfg k K T Mn,Value.slice (gk.getD 0 {}).adr _ _,Value.slice (gk.getD 1 {}).adr _ _] = _
    rw [k0,k1]
    show #[cfg k K T Mn,Value.slice q0.adr _ _,Value.slice q1.adr _ _] = _
    rw [h0.1,h1.1]
    rfl]
  obtain ⟨rfl,hb2,hcase2⟩:=hp
  rcases hcase2 with ⟨_,vS',vC',cF,ev,hs2,hk2,hF,_⟩ | ⟨hno,_⟩
  ·cases ev
   rw [hR] at hs2 hk2 hF
   refine zc8 (ai:=[]) (ab:=[]) (ax:=[.tuple #[.agg (#[vS',vC'] ++ cF),.bool true]]) (ay:=[]) (.x 90) hL1 (by kernel_rfl) ?_ ?_
   ·show (Y1.xs ++ [_]).getD 90 _ = _
    simp [List.getD_eq_getElem?_getD,List.getElem?_append_right,hx1l]
   rw [rsG_0_put]
   refine zd8 (a:=⟨[zl3],[],[],0⟩) rsG_0p_fits ?_
   have z1 : (Y1.grow [] [] [.tuple #[.agg (#[vS',vC'] ++ cF),.bool true]] [] []).xs.getD 90 undef = .tuple #[.agg (#[vS',vC'] ++ cF),.bool true]:=by
    show (Y1.xs ++ [_]).getD 90 _ = _
    simp [List.getD_eq_getElem?_getD,List.getElem?_append_right,hx1l]
   have z3 : (Y1.grow [] [] [.tuple #[.agg (#[vS',vC'] ++ cF),.bool true]] [] []).blks = Y1.blks:=by simp only [Env.grow,List.append_nil]
   have z4 : (Y1.grow [] [] [.tuple #[.agg (#[vS',vC'] ++ cF),.bool true]] [] []).perms = []:=(show Y1.perms = [] from zae hr1)
   generalize Y1.grow _ _ _ _ _ = Y7 at z1 z3 z4
   have s1 : (zcn.env Y7).ints = []:=rfl
   have s2 : (zcn.env Y7).bools = []:=rfl
   have s3 : (zcn.env Y7).xs.length = 91:=(za8 _).trans rfl
   have s4 : (zcn.env Y7).ys = []:=rfl
   have s5 : (zcn.env Y7).blks = [Y1.blks.getD 5 {}]:=by
    show [Y7.blks.getD 5 {}] = _
    rw [z3]
   have s6 : (zcn.env Y7).perms = []:=z4
   have s7 : (zcn.env Y7).xs.getD 90 undef = .tuple #[.agg (#[vS',vC'] ++ cF),.bool true]:=z1
   generalize zcn.env Y7 = Ys at s1 s2 s3 s4 s5 s6 s7
   obtain ⟨ki,kb,kx,ky,kk,kp⟩:=Ys
   dsimp only at s1 s2 s3 s4 s5 s6 s7
   subst s1 s2 s4 s5 s6
   have hb02 : Below w.heap.size w w2:=hb1.trans (hb2.mono hb1.size)
   exact rs_same (W:=W) (R:=R) (gA:=(Y1.blks.getD 5 {}).g) (hb.trans (hb02.mono hb.size)) ht2 hbk ((Sl.below hs1 hb02).more hb02.size) ((hk0.below hb02).more hb02.size) ((zbb.chg hE (Nat.le_refl _) (Chg.of_below (S:=fun _=>False) hb02) fun g hg=>hg.elim).more hb02.size) hsm hs2 hk2 hF (bA'.below hb2 bA'.lt) wA s3 s7
  ·exact absurd hok hno
 ·let Y : Env:=⟨[0,(l.length : Int),(cL : Int),(picks.length : Int),(cP : Int),k,K,T,Mn],[],xs,[],[q0,q1,⟨g2,b2,0,[],[],cap2,ad2⟩],[]⟩
  refine zca (frs':=zky.frs) (Y':=Y) (zfn (fr':=zky.frs.headD default) (fr:=rs2_p.frs.headD default) rfl rfl rfl ?_) ?_
  ·simp only [Y,zky,rs2_p,List.headD_cons,za3,SV.den]
   rw [hx]
   rfl
  have hr : Rep X s (ours Y zky.heap) w Y zky.heap zky.facts 0 w:=Rep.start hth (fun v hv=>by cases hv) rfl ⟨kn h0.2,kn h1.2,⟨hlt,zb8 rfl (zaz hC rfl rfl),trivial,trivial,rfl⟩,trivial⟩ (nd_ro rfl) (za5 trivial) rfl
  refine zaa 900 rsN_run hr ⟨fun Y1 w1 hx1 hr1=>?_,trivial⟩
  have hb1 : Below w.heap.size w w1:=hr1.chg.below (fun k hk=>absurd hk (zah rfl k)) (Nat.le_refl _)
  have hi1 : Y1.ints = Y.ints:=hx1.ints
  have hl1 : Y1.blks.length = 4:=hr1.len
  have hx1l : Y1.xs.length = 90:=by rw [hx1.xs]; exact hxs
  have hL1 : Y1.lens = ⟨9,0,90,0,4⟩:=by
   have e1 : Y1.bools = []:=hx1.bools
   have e2 : Y1.ys = []:=hx1.ys
   simp only [Env.lens,hi1,e2,hx1l,hl1,e1]
   rfl
  have k0:=hx1.blk (show 0 < 3 by decide)
  have k1:=hx1.blk (show 1 < 3 by decide)
  obtain ⟨wA,bA⟩:=zex hr1 3 rfl rfl rfl rfl
  have bA' : Blk w1 (Y1.blks.getD 3 {}).g 52 zTr.toArray:=bA
  show Fr.reach _ X Stop s cs₀ Y1 [zhy] w1
  have hraw:=raw03 (X:=X) (s:=s) (k:=k) (K:=K) (T:=T) (Mn:=Mn) (keepL w1 hb1) ((hP.below hb1).more hb1.size) (Nat.lt_of_le_of_lt (Nat.zero_le _) (Nat.lt_of_lt_of_le hlt hb1.size)) hlm
  refine zc7 (fr:=zhy) (callers:=[]) (ht:=rfl) rsN_0_at rsN_0_gd rsN_0_call rsN_0_fresh hr1 (Post:=Raw3 X s w1 k K T Mn l picks) ?_ (fun s' v w2 hp ht2=>?_) (fun s' ch w' hp _=>by obtain ⟨_,_,⟨_,_,_,_,e,_⟩ | ⟨_,e⟩⟩:=hp <;> cases e)
  ·rwa [show (za3 Y1 zij).toArray = #[cfg k K T Mn,.slice AL l.length cL,.slice AP picks.length cP] by
    obtain ⟨gi,gb,gx,gy,gk,gp⟩:=Y1
    dsimp only at hi1 k0 k1
    subst hi1
    show #[cfg k K T Mn,Value.slice (gk.getD 0 {}).adr _ _,Value.slice (gk.getD 1 {}).adr _ _] = _
    rw [k0,k1]
    show #[cfg k K T Mn,Value.slice q0.adr _ _,Value.slice q1.adr _ _] = _
    rw [h0.1,h1.1]
    rfl]
  obtain ⟨rfl,hb2,hcase2⟩:=hp
  rcases hcase2 with ⟨hok,_⟩ | ⟨_,ev⟩
  ·exact absurd hok hno
  ·cases ev
   refine zc8 (ai:=[]) (ab:=[]) (ax:=[.tuple #[.agg zTr.toArray,.bool false]]) (ay:=[]) (.x 90) hL1 (by kernel_rfl) ?_ ?_
   ·show (Y1.xs ++ [_]).getD 90 _ = _
    simp [List.getD_eq_getElem?_getD,List.getElem?_append_right,hx1l]
   rw [rsN_0_put]
   refine zd8 (a:=⟨[zkz],[],[],0⟩) rsN_0p_fits ?_
   have z1 : (Y1.grow [] [] [.tuple #[.agg zTr.toArray,.bool false]] [] []).xs.getD 90 undef = .tuple #[.agg zTr.toArray,.bool false]:=by
    show (Y1.xs ++ [_]).getD 90 _ = _
    simp [List.getD_eq_getElem?_getD,List.getElem?_append_right,hx1l]
   have z3 : (Y1.grow [] [] [.tuple #[.agg zTr.toArray,.bool false]] [] []).blks = Y1.blks:=by simp only [Env.grow,List.append_nil]
   have z4 : (Y1.grow [] [] [.tuple #[.agg zTr.toArray,.bool false]] [] []).perms = []:=(show Y1.perms = [] from zae hr1)
   generalize Y1.grow _ _ _ _ _ = Y7 at z1 z3 z4
   have s1 : (zcm.env Y7).ints = []:=rfl
   have s2 : (zcm.env Y7).bools = []:=rfl
   have s3 : (zcm.env Y7).xs.length = 91:=(za8 _).trans rfl
   have s4 : (zcm.env Y7).ys = []:=rfl
   have s5 : (zcm.env Y7).blks = [Y1.blks.getD 3 {}]:=by
    show [Y7.blks.getD 3 {}] = _
    rw [z3]
   have s6 : (zcm.env Y7).perms = []:=z4
   have s7 : (zcm.env Y7).xs.getD 90 undef = .tuple #[.agg zTr.toArray,.bool false]:=z1
   generalize zcm.env Y7 = Ys at s1 s2 s3 s4 s5 s6 s7
   obtain ⟨ki,kb,kx,ky,kk,kp⟩:=Ys
   dsimp only at s1 s2 s3 s4 s5 s6 s7
   subst s1 s2 s4 s5 s6
   have hb02 : Below w.heap.size w w2:=hb1.trans (hb2.mono hb1.size)
   exact rs_bad (W:=W) (gA:=(Y1.blks.getD 3 {}).g) (hb.trans (hb02.mono hb.size)) ht2 hbk (bA'.below hb2 bA'.lt) wA s3 s7
theorem rs_call {W w : World} {k K T Mn : Int} {l : List (List Ac)} {picks : List (Int × Int)} {AL AP : Option Addr} {cL cP gC : Nat} {xs : List Value} {q0 q1 q2 : Seg} (hlm : l.length <= 5864062014805) (hbig : ∀ xs ∈ l,xs.length <= 8796093022207) (hb : Below W.heap.size W w) (hth : X.there s w) (hback : ∀ s' v w',zp1 X s W s' (.back v) w' -> X.there s' w' -> zmd Try.prog X Stop 5 cs₀ s' v w')
  (hL : Lls w w.heap.size (.slice AL l.length cL) l) (hP : Sl w w.heap.size 2 (.slice AP picks.length cP) picks.length (picks.flatMap pkC)) (hC : Blk w gC 36 #[.int .i64 k,.int .i64 K,.int .i64 T,.int .i64 Mn])
  (h0 : q0.adr = AL /\ q0.g < w.heap.size) (h1 : q1.adr = AP /\ q1.g < w.heap.size) (h2 : Whl q2 gC) (hxs : xs.length = 87) :
  Fr.reach Try.prog X Stop s cs₀ ⟨[0,(l.length : Int),(cL : Int),(picks.length : Int),(cP : Int),k,K,T,Mn],[],xs,[],[q0,q1,q2],[]⟩ rs2.frs w:=by
 have hml : maxLen = 9223372036854775807:=rfl
 have h2':=h2
 obtain ⟨g2,b2,o2,pre2,post2,cap2,ad2⟩:=q2
 obtain ⟨rfl,rfl,rfl,rfl⟩ : g2 = _ /\ o2 = _ /\ pre2 = _ /\ post2 = _:=h2
 generalize hY : (⟨[0,(l.length : Int),(cL : Int),(picks.length : Int),(cP : Int),k,K,T,Mn],[],xs,[],[q0,q1,⟨g2,b2,0,[],[],cap2,ad2⟩],[]⟩ : Env) = Y
 have hi : Y.ints = [0,(l.length : Int),(cL : Int),(picks.length : Int),(cP : Int),k,K,T,Mn]:=by rw [<- hY]
 have hx0 : Y.xs = xs:=by rw [<- hY]
 have hbk : Y.blks = [q0,q1,⟨g2,b2,0,[],[],cap2,ad2⟩]:=by rw [<- hY]
 have hr : Rep X s (ours Y rs2.heap) w Y rs2.heap rs2.facts 0 w:=by
  subst hY
  exact Rep.start hth (fun v hv=>by cases hv) rfl ⟨kn h0.2,kn h1.2,⟨hC.lt,zb8 rfl (zaz hC rfl rfl),trivial,trivial,rfl⟩,trivial⟩ (nd_ro rfl) (za5 trivial) rfl
 have hL1 : Y.lens = ⟨9,0,87,0,3⟩:=by rw [<- hY]; simp [Env.lens,hxs]
 have hperm : Y.perms = []:=by rw [<- hY]
 show Fr.reach _ X Stop s cs₀ Y [rs2_fr] w
 have hraw:=raw_ok (X:=X) (s:=s) (k:=k) (K:=K) (T:=T) (Mn:=Mn) (picks:=picks) hL hP (Nat.lt_of_le_of_lt (Nat.zero_le _) hC.lt) hlm hbig
 refine zc7 (fr:=rs2_fr) (callers:=[]) (ht:=rfl) rs2_at rs2_gd rs2_call rs2_fresh hr (Post:=ziv X s w k K T Mn l picks) ?_ (fun s' v w2 hp ht2=>?_) (fun s' ch w' hp _=>by obtain ⟨_,_,⟨_,_,_,_,e,_⟩ | ⟨_,e⟩⟩:=hp <;> cases e)
 ·rwa [show (za3 Y znr).toArray = #[cfg k K T Mn,.slice AL l.length cL,.slice AP picks.length cP] by
   subst hY
   rw [<- h0.1,<- h1.1]
   rfl]
 obtain ⟨hbel,hoth,hcase⟩:=hp
 refine zc8 (ai:=[]) (ab:=[]) (ax:=[v]) (ay:=[]) (.x 87) hL1 (by kernel_rfl) ?_ ?_
 ·show (Y.xs ++ [_]).getD 87 _ = _
  simp [List.getD_eq_getElem?_getD,List.getElem?_append_right,hx0,hxs]
 rw [rs2_put]
 refine zd8 (a:=⟨[rs2_frb],[],[],0⟩) rs2p_fits ?_
 have z1 : (Y.grow [] [] [v] [] []).xs.getD 87 undef = v:=by
  show (Y.xs ++ [_]).getD 87 _ = _
  simp [List.getD_eq_getElem?_getD,List.getElem?_append_right,hx0,hxs]
 have z2 : (Y.grow [] [] [v] [] []).ints = [0,(l.length : Int),(cL : Int),(picks.length : Int),(cP : Int),k,K,T,Mn]:=by simp only [Env.grow,List.append_nil]; exact hi
 have z3 : (Y.grow [] [] [v] [] []).blks = [q0,q1,⟨g2,b2,0,[],[],cap2,ad2⟩]:=by simp only [Env.grow,List.append_nil]; exact hbk
 have z4 : (Y.grow [] [] [v] [] []).perms = []:=hperm
 generalize Y.grow _ _ _ _ _ = Y7 at z1 z2 z3 z4
 have s1 : (zdu.env Y7).ints = [0,(l.length : Int),(cL : Int),(picks.length : Int),(cP : Int)]:=by
  show [0,Y7.ints.getD 1 0,Y7.ints.getD 2 0,Y7.ints.getD 3 0,Y7.ints.getD 4 0] = _
  rw [z2]
  rfl
 have s2 : (zdu.env Y7).bools = []:=rfl
 have s3 : (zdu.env Y7).xs.length = 90:=(za8 _).trans rfl
 have s4 : (zdu.env Y7).ys = []:=rfl
 have s5 : (zdu.env Y7).blks = [q0,q1,⟨g2,b2,0,[],[],cap2,ad2⟩]:=by
  show [Y7.blks.getD 0 {},Y7.blks.getD 1 {},Y7.blks.getD 2 {}] = _
  rw [z3]
  rfl
 have s6 : (zdu.env Y7).perms = []:=z4
 have s7 : (zdu.env Y7).xs.getD 89 undef = v:=z1
 generalize zdu.env Y7 = Ys at s1 s2 s3 s4 s5 s6 s7
 obtain ⟨ki,kb,kx,ky,kk,kp⟩:=Ys
 dsimp only at s1 s2 s3 s4 s5 s6 s7
 subst s1 s2 s4 s5 s6
 have hoth0 : ∀ k,k < W.heap.size -> X.oth s' k -> X.oth s k:=fun k hk ho=>hoth k (Nat.lt_of_lt_of_le hk hb.size) ho
 refine rs_both (s:=s') (W:=W) (k:=k) (K:=K) (T:=T) (Mn:=Mn) (by omega) (hb.trans (hbel.mono hb.size)) ht2 (fun w' a b=>hback s' _ w' ⟨a,hoth0,rfl⟩ b) ?_ ?_ ((hP.below hbel).more hbel.size) (hC.below hbel hC.lt) ⟨h0.1,Nat.lt_of_lt_of_le h0.2 hbel.size⟩ ⟨h1.1,Nat.lt_of_lt_of_le h1.2 hbel.size⟩ ⟨rfl,rfl,rfl,rfl⟩ s3 s7
 ·rcases hcase with ⟨hok,vS,vC,cE,e,a1,a2,a3,a4,_⟩ | ⟨hno,e⟩
  ·cases e
   exact .inl ⟨hok,vS,vC,cE,rfl,a1,a2,a3,a4⟩
  ·cases e
   exact .inr ⟨hno,rfl⟩
 ·obtain ⟨vs,a1,a2,a3⟩:=hL.below hbel
  exact ⟨vs,a1,a2.more hbel.size,fun i u hu=>by obtain ⟨xs,b1,b2⟩:=a3 i u hu; exact ⟨xs,b1,Sl.more b2 hbel.size⟩⟩
end
end
section
open Go Go.Conc Go.RowKit Jay Pl
open St Sx Rf
section
variable {γ : Type} {X : zad γ} {Stop : γ -> Frame -> List Frame -> World -> Prop} {cs₀ : List Frame}
theorem rsGuard {s : γ} {W : World} {k K T Mn : Int} {l : List (List Ac)} {picks : List (Int × Int)} {AL AP : Option Addr} {cL cP gC : Nat} (hlm : l.length <= 5864062014805) (hbig : ∀ xs ∈ l,xs.length <= 8796093022207)
  (hback : ∀ s' v w',zp1 X s W s' (.back v) w' -> X.there s' w' -> zmd Try.prog X Stop 5 cs₀ s' v w') (m : Nat) :
  ∀ (i : Nat) (n : Int) (Y : Env) (q0 q1 q2 : Seg) (w : World) (hL : Lls w w.heap.size (.slice AL l.length cL) l) (hP : Sl w w.heap.size 2 (.slice AP picks.length cP) picks.length (picks.flatMap pkC)) (hC : Blk w gC 36 #[.int .i64 k,.int .i64 K,.int .i64 T,.int .i64 Mn]) (hb : Below W.heap.size W w) (hth : X.there s w)
   (hd : Hd Y [(i : Int),(l.length : Int),(cL : Int),(picks.length : Int),(cP : Int),n] 88 [q0,q1,q2]) (hn : l.length - i = m) (h0 : q0.adr = AL /\ (0 < l.length -> q0.g = (ze4 AL).g) /\ q0.g < w.heap.size) (h1 : q1.adr = AP /\ (0 < picks.length -> q1.g = (ze4 AP).g) /\ q1.g < w.heap.size) (h2 : Whl q2 gC),Fr.reach Try.prog X Stop s cs₀ Y rs1.frs w:=by
 have hml : maxLen = 9223372036854775807:=rfl
 have hbk : ∀ w',Below W.heap.size W w' -> X.there s w' -> zmd Try.prog X Stop 5 cs₀ s (.bool true) w':=fun w' h1 h2=>hback s _ w' ⟨h1,fun _ _ h=>h,rfl⟩ h2
 have go : ∀ (w w1 : World) (q0 q1 q2 : Seg) (Ys : Env),Lls w w.heap.size (.slice AL l.length cL) l -> Sl w w.heap.size 2 (.slice AP picks.length cP) picks.length (picks.flatMap pkC) -> Blk w gC 36 #[.int .i64 k,.int .i64 K,.int .i64 T,.int .i64 Mn] -> Below W.heap.size W w -> (q0.adr = AL /\ q0.g < w.heap.size) -> (q1.adr = AP /\ q1.g < w.heap.size) -> Whl q2 gC ->
   Ys.ints = [0,(l.length : Int),(cL : Int),(picks.length : Int),(cP : Int),k,K,T,Mn] -> Ys.bools = [] -> Ys.xs.length = 87 -> Ys.ys = [] -> Ys.blks = [q0,q1,q2] -> Ys.perms = [] -> Below w.heap.size w w1 -> X.there s w1 -> Fr.reach Try.prog X Stop s cs₀ Ys rs2.frs w1:=by
  intro w w1 q0 q1 q2 Ys hL hP hC hb h0 h1 h2 s1 s2 s3 s4 s5 s6 hb1 ht1
  obtain ⟨ki,kb,kx,ky,kk,kp⟩:=Ys
  dsimp only at s1 s2 s3 s4 s5 s6
  subst s1 s2 s4 s5 s6
  refine rs_call (W:=W) hlm hbig (hb.trans (hb1.mono hb.size)) ht1 hback ?_ ((hP.below hb1).more hb1.size) (hC.below hb1 hC.lt) ⟨h0.1,Nat.lt_of_lt_of_le h0.2 hb1.size⟩ ⟨h1.1,Nat.lt_of_lt_of_le h1.2 hb1.size⟩ h2 s3
  obtain ⟨vs,a1,a2,a3⟩:=hL.below hb1
  exact ⟨vs,a1,a2.more hb1.size,fun i u hu=>by obtain ⟨xs,b1,b2⟩:=a3 i u hu; exact ⟨xs,b1,Sl.more b2 hb1.size⟩⟩
 induction m with
 | zero=>
  intro i n Y q0 q1 q2 w hL hP hC hb hth hd hn h0 h1 h2
  obtain ⟨xs,hxs,rfl⟩:=hd.of
  have go:=fun (Ys : Env) (w1 : World)=>go w w1 q0 q1 q2 Ys hL hP hC hb ⟨h0.1,h0.2.2⟩ ⟨h1.1,h1.2.2⟩ h2
  obtain ⟨g2,b2,o2,pre2,post2,cap2,ad2⟩:=q2
  obtain ⟨rfl,rfl,rfl,rfl⟩ : g2 = _ /\ o2 = _ /\ pre2 = _ /\ post2 = _:=h2
  generalize hY0 : (⟨[(i : Int),(l.length : Int),(cL : Int),(picks.length : Int),(cP : Int),n],[],xs,[],[q0,q1,⟨g2,b2,0,[],[],cap2,ad2⟩],[]⟩ : Env) = Y0
  have hl0 : Y0.lens = ⟨6,0,88,0,3⟩:=by rw [<- hY0]; simp [Env.lens,hxs]
  refine zak (L:=⟨6,0,88,0,3⟩) (ai:=[k,K,T,Mn]) (ab:=[]) (ax:=[]) (ay:=[]) (ak:=[]) hl0 (by kernel_rfl) ?_
  generalize hY : Env.grow _ _ _ _ _ _ = Y
  have hi0 : Y.ints = [(i : Int),(l.length : Int),(cL : Int),(picks.length : Int),(cP : Int),n,k,K,T,Mn]:=by rw [<- hY,<- hY0]; rfl
  have hbl : Y.blks = [q0,q1,⟨g2,b2,0,[],[],cap2,ad2⟩]:=by rw [<- hY,<- hY0]; rfl
  have hlen : Y.blks.length = 3:=by rw [hbl]; rfl
  have hr : Rep X s (ours Y rsD_in.heap) w Y rsD_in.heap rsD_in.facts 0 w:=by
   refine Rep.start hth (by rw [<- hY,<- hY0]; intro v hv; cases hv) hlen ⟨kn ?_,kn ?_,⟨?_,zb8 rfl ?_,trivial,trivial,rfl⟩,trivial⟩ (nd_ro rfl) (za5 ⟨?_,trivial⟩) (by rw [<- hY,<- hY0]; rfl)
   all_goals subst hY; subst hY0
   ·exact h0.2.2
   ·exact h1.2.2
   ·exact hC.lt
   ·exact zaz hC rfl rfl
   ·exact decide_eq_false (by show ¬ (i : Int) < ((l.length : Int).toNat : Int); omega)
  refine zaa 900 rsD_run hr ⟨fun Y1 w1 hx1 hr1=>?_,fun Y1 w1 hx1 hr1=>?_,fun Y1 w1 hx1 hr1=>?_,fun Y1 w1 hx1 hr1=>?_,fun Y1 w1 hx1 hr1=>?_,fun Y1 w1 hx1 hr1=>?_,fun Y1 w1 hx1 hr1=>?_,trivial⟩
  ·have hb1 : Below w.heap.size w w1:=hr1.chg.below (fun k hk=>absurd hk (zah rfl k)) (Nat.le_refl _)
   exact zhe (v:=_) rsD_0_end rfl hr1.rep (hbk w1 (hb.trans (hb1.mono hb.size)) hr1.there)
  ·have hb1 : Below w.heap.size w w1:=hr1.chg.below (fun k hk=>absurd hk (zah rfl k)) (Nat.le_refl _)
   exact zhe (v:=_) rsD_1_end rfl hr1.rep (hbk w1 (hb.trans (hb1.mono hb.size)) hr1.there)
  ·have hb1 : Below w.heap.size w w1:=hr1.chg.below (fun k hk=>absurd hk (zah rfl k)) (Nat.le_refl _)
   refine zd8 (a:=⟨rsD_2.frs,[],[],0⟩) rsD_2p_fits ?_
   refine go _ w1 ?_ rfl ((za8 _).trans rfl) rfl ?_ (show Y1.perms = [] from zae hr1) hb1 hr1.there
   ·show [0,Y1.ints.getD 1 0,Y1.ints.getD 2 0,Y1.ints.getD 3 0,Y1.ints.getD 4 0,Y1.ints.getD 6 0,Y1.ints.getD 7 0,Y1.ints.getD 8 0,Y1.ints.getD 9 0] = _
    rw [hx1.ints,hi0]
    rfl
   ·show [Y1.blks.getD 0 {},Y1.blks.getD 1 {},Y1.blks.getD 2 {}] = _
    rw [hx1.blk (by omega),hx1.blk (by omega),hx1.blk (by omega),hbl]
    rfl
  ·have hb1 : Below w.heap.size w w1:=hr1.chg.below (fun k hk=>absurd hk (zah rfl k)) (Nat.le_refl _)
   refine zd8 (a:=⟨rsD_3.frs,[],[],0⟩) rsD_3p_fits ?_
   refine go _ w1 ?_ rfl ((za8 _).trans rfl) rfl ?_ (show Y1.perms = [] from zae hr1) hb1 hr1.there
   ·show [0,Y1.ints.getD 1 0,Y1.ints.getD 2 0,Y1.ints.getD 3 0,Y1.ints.getD 4 0,Y1.ints.getD 6 0,Y1.ints.getD 7 0,Y1.ints.getD 8 0,Y1.ints.getD 9 0] = _
    rw [hx1.ints,hi0]
    rfl
   ·show [Y1.blks.getD 0 {},Y1.blks.getD 1 {},Y1.blks.getD 2 {}] = _
    rw [hx1.blk (by omega),hx1.blk (by omega),hx1.blk (by omega),hbl]
    rfl
  ·have hb1 : Below w.heap.size w w1:=hr1.chg.below (fun k hk=>absurd hk (zah rfl k)) (Nat.le_refl _)
   exact zhe (v:=_) rsD_4_end rfl hr1.rep (hbk w1 (hb.trans (hb1.mono hb.size)) hr1.there)
  ·have hb1 : Below w.heap.size w w1:=hr1.chg.below (fun k hk=>absurd hk (zah rfl k)) (Nat.le_refl _)
   refine zd8 (a:=⟨rsD_5.frs,[],[],0⟩) rsD_5p_fits ?_
   refine go _ w1 ?_ rfl ((za8 _).trans rfl) rfl ?_ (show Y1.perms = [] from zae hr1) hb1 hr1.there
   ·show [0,Y1.ints.getD 1 0,Y1.ints.getD 2 0,Y1.ints.getD 3 0,Y1.ints.getD 4 0,Y1.ints.getD 6 0,Y1.ints.getD 7 0,Y1.ints.getD 8 0,Y1.ints.getD 9 0] = _
    rw [hx1.ints,hi0]
    rfl
   ·show [Y1.blks.getD 0 {},Y1.blks.getD 1 {},Y1.blks.getD 2 {}] = _
    rw [hx1.blk (by omega),hx1.blk (by omega),hx1.blk (by omega),hbl]
    rfl
  ·have hb1 : Below w.heap.size w w1:=hr1.chg.below (fun k hk=>absurd hk (zah rfl k)) (Nat.le_refl _)
   refine zd8 (a:=⟨rsD_6.frs,[],[],0⟩) rsD_6p_fits ?_
   refine go _ w1 ?_ rfl ((za8 _).trans rfl) rfl ?_ (show Y1.perms = [] from zae hr1) hb1 hr1.there
   ·show [0,Y1.ints.getD 1 0,Y1.ints.getD 2 0,Y1.ints.getD 3 0,Y1.ints.getD 4 0,Y1.ints.getD 6 0,Y1.ints.getD 7 0,Y1.ints.getD 8 0,Y1.ints.getD 9 0] = _
    rw [hx1.ints,hi0]
    rfl
   ·show [Y1.blks.getD 0 {},Y1.blks.getD 1 {},Y1.blks.getD 2 {}] = _
    rw [hx1.blk (by omega),hx1.blk (by omega),hx1.blk (by omega),hbl]
    rfl
 | succ m ih=>
  intro i n Y q0 q1 q2 w hL hP hC hb hth hd hn h0 h1 h2
  have hi : i < l.length:=by omega
  have hn1 : l.length - (i + 1) = m:=by omega
  obtain ⟨xs,hxs,rfl⟩:=hd.of
  have go:=fun (Ys : Env) (w1 : World)=>go w w1 q0 q1 q2 Ys hL hP hC hb ⟨h0.1,h0.2.2⟩ ⟨h1.1,h1.2.2⟩ h2
  obtain ⟨g2,b2,o2,pre2,post2,cap2,ad2⟩:=q2
  obtain ⟨rfl,rfl,rfl,rfl⟩ : g2 = _ /\ o2 = _ /\ pre2 = _ /\ post2 = _:=h2
  generalize hY0 : (⟨[(i : Int),(l.length : Int),(cL : Int),(picks.length : Int),(cP : Int),n],[],xs,[],[q0,q1,⟨g2,b2,0,[],[],cap2,ad2⟩],[]⟩ : Env) = Y0
  have hl0 : Y0.lens = ⟨6,0,88,0,3⟩:=by rw [<- hY0]; simp [Env.lens,hxs]
  by_cases hn4 : n <= 400
  ·obtain ⟨bl,ol,cL',eL,hbl,_,_,hat⟩:=hL.at_ (by omega)
   cases eL
   obtain ⟨u,hu,hacs⟩:=hat i hi
   obtain ⟨At,ct,rfl,_,_⟩:=Sl.form hacs
   refine zbl (b:=0) (q:=⟨bl,ol,ol + i * 1,[],[],q0.cap,none⟩) (by rw [<- hY0]; exact Nat.zero_lt_succ _) (by rw [<- hY0]; exact (h0.2.1 (by omega)).symm) (by rw [<- hY0]; exact h0.1.symm) (by rw [<- hY0]; rfl) (by kernel_rfl) ?_
   refine zak (L:=⟨6,0,88,0,3⟩) (ai:=[(l[i].length : Int),(ct : Int)]) (ab:=[]) (ax:=[]) (ay:=[]) (ak:=[⟨g2,0,0,[],[],0,some At⟩]) (by rw [<- hl0]; simp [Env.lens,Env.reseg]) (by kernel_rfl) ?_
   generalize hY : Env.grow _ _ _ _ _ _ = Y
   have hi0 : Y.ints = [(i : Int),(l.length : Int),(cL : Int),(picks.length : Int),(cP : Int),n,(l[i].length : Int),(ct : Int)]:=by rw [<- hY,<- hY0]; rfl
   have hlen : Y.blks.length = 4:=by rw [<- hY,<- hY0]; rfl
   have hr : Rep X s (ours Y rsC_in.heap) w Y rsC_in.heap rsC_in.facts 0 w:=by
    refine Rep.start hth (by rw [<- hY,<- hY0]; intro v hv; cases hv) hlen ⟨⟨?_,zb8 rfl ?_,⟨?_,?_⟩,trivial,rfl⟩,kn ?_,kn ?_,kn ?_,trivial⟩ (nd_ro rfl) (za5 ⟨?_,?_,?_,trivial⟩) (by rw [<- hY,<- hY0]; rfl)
    all_goals subst hY; subst hY0
    ·exact hbl
    ·intro j u' hu'
     cases j with
     | zero=>
      cases hu'
      show w.cell? ⟨bl,ol + i * 1 + 0,none⟩ = _
      rw [Nat.mul_one,Nat.add_zero,hu]
      rfl
     | succ j=>cases hu'
    ·rfl
    ·rfl
    ·exact h1.2.2
    ·exact hC.lt
    ·exact hC.lt
    ·exact decide_eq_true (by show (i : Int) < ((l.length : Int).toNat : Int); omega)
    ·exact decide_eq_true (by show n <= 400; omega)
    ·exact decide_eq_true (by show (0 : Int) <= (i : Int); omega)
   refine zaa 900 rsC_run hr ⟨fun Y1 w1 hx1 hr1=>?_,trivial⟩
   refine zbh rsC0_head hr1 fun Y2 w2 hx2 hr2=>?_
   have hx12:=hx1.trans hx2
   have hb2 : Below w.heap.size w w2:=hr2.chg.below (fun k hk=>absurd hk (zah rfl k)) (Nat.le_refl _)
   have hp2 : Y2.perms = []:=zae hr2
   have hL2 : Lls w2 w2.heap.size (.slice (some ⟨bl,ol,none⟩) l.length cL) l:=by
    obtain ⟨vs,a1,a2,a3⟩:=hL.below hb2
    exact ⟨vs,a1,a2.more hb2.size,fun i u hu=>by obtain ⟨xs,b1,b2⟩:=a3 i u hu; exact ⟨xs,b1,Sl.more b2 hb2.size⟩⟩
   refine ih (i + 1) (IntKind.i64.wrap (n + (((l[i].length : Int).toNat : Nat) : Int))) _ _ _ _ w2 hL2 ((hP.below hb2).more hb2.size) (hC.below hb2 hC.lt) (hb.trans (hb2.mono hb.size)) hr2.there ⟨?_,rfl,?_,rfl,rfl,hp2⟩ hn1 ?_ ?_ ?_
   ·show [IntKind.i64.wrap (Y2.ints.getD 0 0 + 1),Y2.ints.getD 1 0,Y2.ints.getD 2 0,Y2.ints.getD 3 0,Y2.ints.getD 4 0,IntKind.i64.wrap (Y2.ints.getD 5 0 + (((Y2.ints.getD 6 0).toNat : Nat) : Int))] = _
    rw [hx12.ints,hi0]
    show [IntKind.i64.wrap ((i : Int) + 1),_,_,_,_,_] = _
    rw [zbr hi (by omega)]
    rfl
   ·exact (za8 _).trans rfl
   ·dsimp only
    rw [hx12.blk (by omega),<- hY,<- hY0]
    exact ⟨rfl,fun _=>rfl,Nat.lt_of_lt_of_le hbl hb2.size⟩
   ·dsimp only
    rw [hx12.blk (by omega),<- hY,<- hY0]
    exact ⟨h1.1,h1.2.1,Nat.lt_of_lt_of_le h1.2.2 hb2.size⟩
   ·dsimp only
    rw [hx12.blk (by omega),<- hY,<- hY0]
    exact ⟨rfl,rfl,rfl,rfl⟩
  ·refine zak (L:=⟨6,0,88,0,3⟩) (ai:=[k,K,T,Mn]) (ab:=[]) (ax:=[]) (ay:=[]) (ak:=[]) hl0 (by kernel_rfl) ?_
   generalize hY : Env.grow _ _ _ _ _ _ = Y
   have hi0 : Y.ints = [(i : Int),(l.length : Int),(cL : Int),(picks.length : Int),(cP : Int),n,k,K,T,Mn]:=by rw [<- hY,<- hY0]; rfl
   have hbl : Y.blks = [q0,q1,⟨g2,b2,0,[],[],cap2,ad2⟩]:=by rw [<- hY,<- hY0]; rfl
   have hlen : Y.blks.length = 3:=by rw [hbl]; rfl
   have hr : Rep X s (ours Y rsE_in.heap) w Y rsE_in.heap rsE_in.facts 0 w:=by
    refine Rep.start hth (by rw [<- hY,<- hY0]; intro v hv; cases hv) hlen ⟨kn ?_,kn ?_,⟨?_,zb8 rfl ?_,trivial,trivial,rfl⟩,trivial⟩ (nd_ro rfl) (za5 ⟨?_,?_,?_,trivial⟩) (by rw [<- hY,<- hY0]; rfl)
    all_goals subst hY; subst hY0
    ·exact h0.2.2
    ·exact h1.2.2
    ·exact hC.lt
    ·exact zaz hC rfl rfl
    ·exact decide_eq_true (by show n > 400; omega)
    ·exact decide_eq_true (by show (i : Int) < ((l.length : Int).toNat : Int); omega)
    ·exact decide_eq_false (by show ¬ n <= 400; omega)
   refine zaa 900 rsE_run hr ⟨fun Y1 w1 hx1 hr1=>?_,fun Y1 w1 hx1 hr1=>?_,fun Y1 w1 hx1 hr1=>?_,fun Y1 w1 hx1 hr1=>?_,trivial⟩
   ·have hb1 : Below w.heap.size w w1:=hr1.chg.below (fun k hk=>absurd hk (zah rfl k)) (Nat.le_refl _)
    exact zhe (v:=_) rsE_0_end rfl hr1.rep (hbk w1 (hb.trans (hb1.mono hb.size)) hr1.there)
   ·have hb1 : Below w.heap.size w w1:=hr1.chg.below (fun k hk=>absurd hk (zah rfl k)) (Nat.le_refl _)
    exact zhe (v:=_) rsE_1_end rfl hr1.rep (hbk w1 (hb.trans (hb1.mono hb.size)) hr1.there)
   ·have hb1 : Below w.heap.size w w1:=hr1.chg.below (fun k hk=>absurd hk (zah rfl k)) (Nat.le_refl _)
    refine zd8 (a:=⟨rsE_2.frs,[],[],0⟩) rsE_2p_fits ?_
    refine go _ w1 ?_ rfl ((za8 _).trans rfl) rfl ?_ (show Y1.perms = [] from zae hr1) hb1 hr1.there
    ·show [0,Y1.ints.getD 1 0,Y1.ints.getD 2 0,Y1.ints.getD 3 0,Y1.ints.getD 4 0,Y1.ints.getD 6 0,Y1.ints.getD 7 0,Y1.ints.getD 8 0,Y1.ints.getD 9 0] = _
     rw [hx1.ints,hi0]
     rfl
    ·show [Y1.blks.getD 0 {},Y1.blks.getD 1 {},Y1.blks.getD 2 {}] = _
     rw [hx1.blk (by omega),hx1.blk (by omega),hx1.blk (by omega),hbl]
     rfl
   ·have hb1 : Below w.heap.size w w1:=hr1.chg.below (fun k hk=>absurd hk (zah rfl k)) (Nat.le_refl _)
    refine zd8 (a:=⟨rsE_3.frs,[],[],0⟩) rsE_3p_fits ?_
    refine go _ w1 ?_ rfl ((za8 _).trans rfl) rfl ?_ (show Y1.perms = [] from zae hr1) hb1 hr1.there
    ·show [0,Y1.ints.getD 1 0,Y1.ints.getD 2 0,Y1.ints.getD 3 0,Y1.ints.getD 4 0,Y1.ints.getD 6 0,Y1.ints.getD 7 0,Y1.ints.getD 8 0,Y1.ints.getD 9 0] = _
     rw [hx1.ints,hi0]
     rfl
    ·show [Y1.blks.getD 0 {},Y1.blks.getD 1 {},Y1.blks.getD 2 {}] = _
     rw [hx1.blk (by omega),hx1.blk (by omega),hx1.blk (by omega),hbl]
     rfl
theorem raws03 {s : γ} {w : World} {k K T Mn : Int} {l : List (List Ac)} {picks : List (Int × Int)} {vL vP : Value} (hL : Lls w w.heap.size vL l) (hP : Sl w w.heap.size 2 vP picks.length (picks.flatMap pkC)) (hlm : l.length <= 5864062014805) (hbig : ∀ xs ∈ l,xs.length <= 8796093022207) :
  JdoT Try.prog X 5 #[cfg k K T Mn,vL,vP] s w (fun s' v w'=>zp1 X s w s' (.back v) w'):=by
 obtain ⟨AP,cP,rfl,hp1,hp2⟩:=Sl.form hP
 obtain ⟨AL,cL,rfl,_,_⟩ : ∃ AL cL,vL = Value.slice AL l.length cL /\ l.length <= cL /\ cL <= maxLen:=by
  obtain ⟨vs,_,h,_⟩:=hL
  exact Sl.form h
 let Y : Env:={ ints:=[k,K,T,Mn],xs:=[.slice AL l.length cL,.slice AP picks.length cP] }
 refine sx_enterT (Y:=Y) rs_fresh rfl fun Stop cs₀ hth hback=>?_
 have hr : Rep X s (ours Y rsA_in.heap) w Y rsA_in.heap rsA_in.facts 0 w:=Rep.start hth (fun v hv=>by cases hv) rfl trivial trivial (za5 trivial) rfl
 refine zaa 900 rsA_run hr ⟨fun Y1 w1 hx1 hr1=>?_,trivial⟩
 have hb1 : Below w.heap.size w w1:=hr1.chg.below (fun k hk=>by obtain ⟨i,hb,hi,_⟩:=hk; cases hi) (Nat.le_refl _)
 show Fr.reach _ X Stop s cs₀ Y1 [rsA_fr] w1
 have hCp:=hr1.rep.pl 0 _ rfl rfl rfl rfl
 have hCb:=hr1.rep.blk 0 _ rfl rfl
 have hCo : (Y1.blks.getD 0 {}).o = 0:=by rw [hCb.1,hCp.1]; rfl
 have hC1 : Blk w1 (Y1.blks.getD 0 {}).g 36 #[.int .i64 k,.int .i64 K,.int .i64 T,.int .i64 Mn]:=by
  have h1:=hCb.2
  unfold Seg.whole at h1
  rw [hCp.1,hCp.2,List.append_nil,List.nil_append] at h1
  have h2 : Blk w1 (Y1.blks.getD 0 {}).g 36 #[.int .i64 (Y1.ints.getD 0 0),.int .i64 (Y1.ints.getD 1 0),.int .i64 (Y1.ints.getD 2 0),.int .i64 (Y1.ints.getD 3 0)]:=h1
  rw [hx1.ints] at h2
  exact h2
 refine zc7 (fr:=rsA_fr) (callers:=[]) (ht:=rfl) rsA_at rsA_gd rsA_call rsA_fresh hr1 (Post:=fun s' r w'=>Below w1.heap.size w1 w' /\ (∀ k,k < w1.heap.size -> X.oth s' k -> X.oth s k) /\ 0 < w'.heap.size /\ r = .back (.bool true)) awake03 (fun s' v w2 hp ht2=>?_) (fun s' ch w' hp _=>by obtain ⟨_,_,_,e⟩:=hp; cases e)
 obtain ⟨hb2,hoth,hpos,ev⟩:=hp
 cases ev
 refine zdk (sv:=.bool (.lit true)) rfl ?_
 rw [rsA_put]
 have hb02 : Below w.heap.size w w2:=hb1.trans (hb2.mono hb1.size)
 have hL2 : Lls w2 w2.heap.size (.slice AL l.length cL) l:=by
  obtain ⟨vs,a1,a2,a3⟩:=hL.below hb02
  exact ⟨vs,a1,a2.more hb02.size,fun i u hu=>by obtain ⟨xs,b1,b2⟩:=a3 i u hu; exact ⟨xs,b1,Sl.more b2 hb02.size⟩⟩
 have hP2 : Sl w2 w2.heap.size 2 (.slice AP picks.length cP) picks.length (picks.flatMap pkC):=(hP.below hb02).more hb02.size
 have hC2:=hC1.below hb2 hC1.lt
 have hqC : Whl (Y1.blks.getD 0 {}) (Y1.blks.getD 0 {}).g:=⟨rfl,hCo,hCp⟩
 have hps : Y1.perms = []:=zae hr1
 have hi1 : Y1.ints = [k,K,T,Mn]:=hx1.ints
 have hxs1 : Y1.xs = [.slice AL l.length cL,.slice AP picks.length cP]:=hx1.xs
 generalize hqe : Y1.blks.getD 0 {} = qC at hC1 hC2 hqC hCo hCp hCb
 obtain ⟨q0,e0⟩ : ∃ q,q = segP AL l.length:=⟨_,rfl⟩
 obtain ⟨q1,e1⟩ : ∃ q,q = segP AP picks.length:=⟨_,rfl⟩
 have h0 : q0.adr = AL /\ (0 < l.length -> q0.g = (ze4 AL).g) /\ q0.g < w2.heap.size:=by
  rw [e0]
  refine ⟨zhs _ _,fun h=>zhr _ h,?_⟩
  obtain ⟨vs,_,h,_⟩:=hL2
  exact zkp h hpos
 have h1 : q1.adr = AP /\ (0 < picks.length -> q1.g = (ze4 AP).g) /\ q1.g < w2.heap.size:=by
  rw [e1]
  exact ⟨zhs _ _,fun h=>zhr _ h,zkp hP2 hpos⟩
 clear e0 e1
 let Y' : Env:={ ints:=[0,(l.length : Int),(cL : Int),(picks.length : Int),(cP : Int),k,K,T,Mn],xs:=Y1.xs,blks:=[q0,q1,qC] }
 have hbk2 : ∀ s'' v w',zp1 X s' w2 s'' (.back v) w' -> X.there s'' w' -> zmd Try.prog X Stop 5 cs₀ s'' v w':=fun s'' v w' ⟨a1,a2,a3⟩ ht=>hback s'' v w' ⟨hb02.trans (a1.mono hb02.size),fun k hk ho=>hoth k (Nat.lt_of_lt_of_le hk hb1.size) (a2 k (Nat.lt_of_lt_of_le hk hb02.size) ho),a3⟩ ht
 refine zca (frs':=ziz.frs) (Y':=Y') (zfn (fr':=ziz.frs.headD default) (fr:=znq) rfl rfl hps.symm ?_) ?_
 ·show za3 Y' (ziz.frs.headD default).tmps = za3 Y1 znq.tmps
  have b0 : (Y'.blks.getD 0 {}).adr = AL:=h0.1
  have b1 : (Y'.blks.getD 1 {}).adr = AP:=h1.1
  simp only [ziz,znq,List.headD_cons,za3,SV.den,BA.den,CP.den,E.den,b0,b1,hi1,hxs1,hqe]
  rfl
 have hr2 : Rep X s' (ours Y' ziz.heap) w2 Y' ziz.heap ziz.facts 0 w2:=by
  refine Rep.start ht2 (fun v hv=>by cases hv) rfl ⟨kn h0.2.2,kn h1.2.2,kn ?_,trivial⟩ (nd_ro rfl) (za5 trivial) rfl
  exact hC2.lt
 refine zaa 900 rsB_run hr2 ⟨fun Y3 w3 hx3 hr3=>?_,trivial⟩
 refine zbh rsB0_head hr3 fun Y4 w4 hx4 hr4=>?_
 have hx24:=hx3.trans hx4
 have hb4 : Below w2.heap.size w2 w4:=hr4.chg.below (fun k hk=>absurd hk (zah rfl k)) (Nat.le_refl _)
 have hp4 : Y4.perms = []:=zae hr4
 have hL4 : Lls w4 w4.heap.size (.slice AL l.length cL) l:=by
  obtain ⟨vs,a1,a2,a3⟩:=hL2.below hb4
  exact ⟨vs,a1,a2.more hb4.size,fun i u hu=>by obtain ⟨xs,b1,b2⟩:=a3 i u hu; exact ⟨xs,b1,Sl.more b2 hb4.size⟩⟩
 refine rsGuard (W:=w2) hlm hbig hbk2 l.length 0 (((l.length : Int).toNat : Nat) : Int) _ _ _ _ w4 hL4 ((hP2.below hb4).more hb4.size) (hC2.below hb4 hC2.lt) hb4 hr4.there ⟨?_,rfl,?_,rfl,rfl,hp4⟩ (Nat.sub_zero _) ?_ ?_ ?_
 ·show [0,Y4.ints.getD 1 0,Y4.ints.getD 2 0,Y4.ints.getD 3 0,Y4.ints.getD 4 0,(((Y4.ints.getD 1 0).toNat : Nat) : Int)] = _
  rw [hx24.ints]
  rfl
 ·exact (za8 _).trans rfl
 ·dsimp only
  rw [hx24.blk (show 0 < 3 by decide)]
  exact ⟨h0.1,h0.2.1,Nat.lt_of_lt_of_le h0.2.2 hb4.size⟩
 ·dsimp only
  rw [hx24.blk (show 1 < 3 by decide)]
  exact ⟨h1.1,h1.2.1,Nat.lt_of_lt_of_le h1.2.2 hb4.size⟩
 ·dsimp only
  rw [hx24.blk (show 2 < 3 by decide)]
  exact hqC
end
end
end Go.Proofs.Ytonhfgjofgbcdaa.Dr
