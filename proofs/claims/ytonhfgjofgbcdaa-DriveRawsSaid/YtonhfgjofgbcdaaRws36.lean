/- A part of this claim's proof. -/
import Derived.Test.YtonhfgjofgbcdaaRws35
set_option linter.unusedSimpArgs false
set_option linter.unusedVariables false
set_option maxRecDepth 20000
namespace Go.Proofs.Ytonhfgjofgbcdaa.Dr
section
open Go Go.Conc Go.RowKit Jay Pl
open Sx
noncomputable def yj3 : List SV:=[.sl (.blk 0) (.v 1) (.e (.v 2))]
noncomputable def yjb : List SV:=[.sl (.blk 1) (.v 3) (.e (.v 4))]
noncomputable def yi9 : List SV:=[.x 0] ++ yj3 ++ yjb ++ [.ptr 2 0,.x 1,.x 2,.ptr 3 0]
noncomputable def yja : List SV:=yi9 ++ xr 3 3 ++ [.ptr 4 0]
noncomputable def yj0 : List SV:=[Li 0] ++ yjb ++ [.int .i64 (.tn (.v 3)),.bool (.cmp .lss (.v 0) (.tn (.v 3)))]
noncomputable def yj7 : List SV:=yjb ++ [Li 0,.ptr 1 0,.ptr 1 0,Li 5,Li 5,.bool (.cmp .lss (.v 5) (.lit 0)),.bool (.cmp .lss (.v 5) (.lit 0))]
noncomputable def yjg : List SV:=[Li 5,.ptr 2 2,Li 9,.bool (.cmp .geq (.v 5) (.v 9)),.bool (.cmp .geq (.v 5) (.v 9))]
noncomputable def yjf : List SV:=[.ptr 4 0,.ptr 4 0,.ptr 4 15,.sl (.blk 5) (.v 11) (.e (.v 12)),Li 5,.ptr 5 0,Li 13]
noncomputable def yi8 : List SV:=yja ++ [Li 0,Li 5] ++ xr 7 28 ++ yj0 ++ [.x 39,.x 40] ++ yj7 ++ yjg ++ yjf ++ yj3 ++ [Li 5,.ptr 0 0,.sl (.blk 6) (.v 14) (.e (.v 15)),.int .i64 (.tn (.v 14)),.bool (.cmp .lss (.v 13) (.tn (.v 14)))]
noncomputable def yje : List SV:=xr 4 3 ++ [Li 0] ++ yj3 ++ [.int .i64 (.tn (.v 1)),.bool (.cmp .lss (.v 0) (.tn (.v 1)))]
noncomputable def yia : List SV:=[Li 5,Li 0] ++ yje ++ xr 11 14 ++ [.agg [Li 6,Li 7,Li 8,Li 9]] ++ yj3 ++ [.int .i64 (.tn (.v 1)),Li 5] ++ yjb
noncomputable def yib : List SV:=[.ptr 4 0,Li 5,.agg [.int .i64 (.lit 0),.int .u32 (.lit 0),.int .i64 (.lit 0),.int .i64 (.lit 0),.int .i64 (.lit 0),.int .u64 (.lit 0),.int .u64 (.lit 0),.int .u64 (.lit 0),.int .u64 (.lit 0),.int .i64 (.lit 0),.c (.slice none 0 0),.bool (.lit false),.int .u64 (.lit 0),.int .u64 (.lit 0),.int .i64 (.lit 0),.int .u32 (.lit 0),.int .i64 (.lit 0),.int .i64 (.lit 0),.int .i64 (.lit 0),.int .i64 (.lit 0),.int .u64 (.lit 0),.int .u64 (.lit 0),.int .i64 (.lit 0),.int .u32 (.lit 0)]]
noncomputable def yjn : List HB:=[⟨52,[],false,none,none,none⟩]
noncomputable def yj2 : List HB:=[⟨61,[Li 5,.int .u32 (.v 6)],false,some ((.v 0),2),none,none⟩,⟨36,[Li 7,Li 8,Li 9,Li 10],false,none,none,none⟩] ++ yjn
noncomputable def yiz : List SV:=[.y 4,.y 5,.y 6,.y 7,.y 8,.y 9,.y 10,.y 11,.y 12]
noncomputable def yjl : List SV:=[.y 0,.y 1,.y 2,.y 3] ++ yiz ++ [.y 13,.y 14]
noncomputable def yic : List HB:=[⟨49,[.sl (.blk 6) (.v 14) (.e (.v 15))],false,some ((.v 5),1),none,none⟩] ++ yj2 ++ [⟨91,yjl ++ [.sl (.blk 5) (.v 11) (.e (.v 12))],false,none,none,none⟩,⟨3,[Li 13],false,some ((.v 5),1),none,none⟩]
noncomputable def yik : List SV:=[.agg [.int .i64 (.lit 0),.int .u32 (.lit 0),.int .i64 (.lit 0),.int .i64 (.lit 0),.int .i64 (.lit 99),.int .u64 (.lit 0),.int .u64 (.lit 0),.int .u64 (.lit 0),.int .u64 (.lit 0),.int .i64 (.lit 0),.c (.slice none 0 0),.bool (.lit false),.int .u64 (.lit 0),.int .u64 (.lit 0),.int .i64 (.lit 0),.int .u32 (.lit 0),.int .i64 (.lit 0),Li 16,Li 17,Li 18,Lu 19,Lu 20,.int .i64 (.lit 0),.int .u32 (.lit 0)]]
noncomputable def yid : List SV:=yi8 ++ [.ptr 4 0,Li 5] ++ yj3 ++ [Li 5,.ptr 0 0,.sl (.blk 6) (.v 14) (.e (.v 15))] ++ yjf ++ [.ptr 6 0,.agg [Li 16,Li 17,Li 18,Lu 19,Lu 20]] ++ yik
noncomputable def yjm : List HB:=[⟨61,[],false,none,none,none⟩]
noncomputable def yie : List HB:=[⟨49,[],false,none,none,none⟩] ++ yjm
noncomputable def yjh : List SV:=[.agg [Li 0,Li 1,Li 2,Li 3]]
noncomputable def yit : List SV:=yjh ++ [Li 4,Li 5,.sl (.blk 0) (.v 6) (.e (.v 7))]
noncomputable def yif : List SV:=yit ++ [.ptr 1 0] ++ ur 3 ++ [.bool (.lit false)] ++ yjh
noncomputable def yis : List (B × Bool):=[((.cmp .lss (.v 0) (.tn (.v 3))),true),((.cmp .leq (.lit 0) (.v 0)),true)]
noncomputable def yjk : List (B × Bool):=yis ++ [((.cmp .lss (.v 5) (.lit 0)),false)]
noncomputable def yig : List (B × Bool):=yjk ++ [((.cmp .geq (.v 5) (.v 9)),false),((.cmp .leq (.lit 0) (.v 5)),true),((.cmp .lss (.v 5) (.tn (.v 11))),true),((.cmp .lss (.v 5) (.tn (.v 1))),true)]
noncomputable def yji : List SV:=[.c (.slice none 0 0),.c (.slice none 0 0),.int .u64 (.lit 0),.int .u64 (.lit 0)]
noncomputable def yih : List HB:=[⟨52,yji ++ yji ++ [.c (.slice none 0 0),.c (.slice none 0 0),.c (.slice none 0 0)],true,none,none,none⟩]
noncomputable def yii : List Fr:=[⟨21,yja ++ [Li 0] ++ xr 6 94,[.code (.at_ [0,0,1,0,5]),.inLoop (.at_ [0,0,1,0,5]),.inBlock 2,.code (.at_ [6])]⟩]
noncomputable def yij : List HB:=[⟨49,[],false,none,none,none⟩] ++ yj2 ++ [⟨91,[],false,none,none,none⟩]
noncomputable def yil : List HB:=[⟨49,[.sl (.blk 4) (.v 6) (.e (.v 7))],false,some ((.v 0),1),none,none⟩] ++ yjm ++ [⟨36,[],false,none,none,none⟩] ++ yjn ++ [⟨27,[],false,none,none,none⟩]
noncomputable def yj8 : List HB:=yie ++ [⟨36,[],false,none,none,none⟩]
noncomputable def yim : List HB:=yj8 ++ yjn ++ [⟨91,[],false,none,none,none⟩]
noncomputable def yin : List HB:=yjm ++ [⟨36,[Li 0,Li 1,Li 2,Li 3],true,none,none,none⟩]
noncomputable def yiw : List SV:=[.int .i64 (.ar .add .i64 (.v 0) (.lit 1))]
noncomputable def yio : List SV:=yja ++ yiw ++ [Li 5] ++ xr 7 28 ++ yj0 ++ [Li 0] ++ yiw ++ yj7
noncomputable def yjj : List SV:=yj3 ++ [Li 0,.ptr 0 0,.sl (.blk 4) (.v 6) (.e (.v 7)),.int .i64 (.tn (.v 6))]
noncomputable def yip : List SV:=yiw ++ yje ++ [Li 0] ++ yiw ++ yjj ++ [Li 5,.bool (.cmp .gtr (.tn (.v 6)) (.v 5))]
noncomputable def yiq : List SV:=[.bool (.v 0),.bool (.v 0),Li 4,.ptr 1 2,Li 2,.bool (.cmp .eql (.v 4) (.v 2)),.bool (.cmp .eql (.v 4) (.v 2)),.bool (.cmp .eql (.v 4) (.v 2))]
noncomputable def yir : List HB:=yie ++ [⟨36,[Li 6,Li 7,Li 8,Li 9],false,none,none,none⟩] ++ yjn
noncomputable def yiu : List SV:=yjh ++ [.sl (.blk 0) (.v 4) (.e (.v 5)),.sl (.blk 1) (.v 6) (.e (.v 7))]
noncomputable def yiv : List Fr:=[⟨21,yi9 ++ [.x 3,Li 5,Li 0] ++ xr 4 96,[.code (.at_ [0,0,1,0,2]),.inLoop (.at_ [0,0,1,0,2]),.inBlock 0,.code (.at_ [3])]⟩]
noncomputable def yix : List Fr:=[⟨21,yja ++ [Li 0] ++ xr 6 94,[.inRegion [0,3,0,0,1,0,0,1,0,5] [],.inBlock 3,.code (.at_ [2,0,0,1,0,5]),.inLoop (.at_ [0,0,1,0,5]),.inBlock 2,.code (.at_ [6])]⟩]
noncomputable def yiy : List Fr:=[⟨21,yja ++ [Li 0] ++ xr 6 94,[.inRegion [4,0,0,1,0,0,1,0,5] [],.inBlock 3,.code (.at_ [2,0,0,1,0,5]),.inLoop (.at_ [0,0,1,0,5]),.inBlock 2,.code (.at_ [6])]⟩]
noncomputable def yj1 : List SV:=yi9 ++ [.x 3] ++ yia ++ [.bool (.v 0),.bool (.no (.v 0)),.x 32,.agg [Li 6,Li 7,Li 8,Li 9]]
noncomputable def yj4 : List Fr:=[⟨21,yja ++ yiw ++ xr 6 33 ++ [Li 0] ++ yiw ++ xr 41 59,[.inLoop (.at_ [0,0,1,0,5]),.inBlock 2,.code (.at_ [6])]⟩]
noncomputable def yj5 : List (B × Bool):=[((.cmp .lss (.v 0) (.tn (.v 1))),true),((.cmp .leq (.lit 0) (.v 0)),true)]
noncomputable def yj6 : List SV:=[.bool (.cmp .leq (.v 5) (.lit 1000))]
noncomputable def yj9 : List Fr:=[⟨21,yi9 ++ [.x 3] ++ yia ++ [.bool (.v 0)] ++ xr 31 69,[.inRegion [0,0,3] [6],.code (.at_ [1,0,3]),.code (.at_ [4])]⟩]
noncomputable def yjc : List HB:=yic ++ [⟨27,[Li 16,Li 17,Li 18,Lu 19,Lu 20],false,some ((.v 13),5),none,none⟩]
noncomputable def yjd : List (B × Bool):=yig ++ [((.cmp .lss (.v 13) (.tn (.v 14))),true),((.cmp .leq (.lit 0) (.v 13)),true)]
noncomputable def yjo : List SV:=[.bool (.cmp .leq (.tn (.v 6)) (.lit 20000))]
noncomputable def rw_args : List SV:=yiu
noncomputable def rw_fr : Fr:=⟨21,yiu ++ ur 103,[.code (.at_ [])]⟩
theorem rw_fresh : fresh Try.prog 21 rw_args = some rw_fr:=by kernel_rfl
noncomputable def rwA_in : St:=⟨[⟨21,yiu ++ ur 103,[.code (.at_ [])]⟩],yie,[],0⟩
noncomputable def rwA_0 : St:=⟨[⟨21,yiu ++ [.ptr 2 0,u,u,.ptr 3 0,.bool (.lit false),.int .i64 (.lit 0),.int .i64 (.lit 0)] ++ ur 96,[.code (.at_ [0,1,0,2]),.inBlock 0,.code (.at_ [3])]⟩],yie ++ [⟨36,[Li 0,Li 1,Li 2,Li 3],true,none,none,none⟩] ++ yih,[],0⟩
theorem rwA_run : run Try.prog [] [31,32,33] true 900 rwA_in = [rwA_0]:=by kernel_rfl
noncomputable def rw1 : St:=⟨yiv,[],[],0⟩
noncomputable def zem : Sub:=⟨[(.lit 0),(.v 4),(.v 5),(.v 6),(.v 7),(.lit 0)],[],[.agg [.int .i64 (.v 0),.int .i64 (.v 1),.int .i64 (.v 2),.int .i64 (.v 3)],u,u,.bool (.lit false),u,u,u,u,u,u,u,u,u,u,u,u,u,u,u,u,u,u,u,u,u,u,u,u,u,u,u,u,u,u,u,u,u,u,u,u,u,u,u,u,u,u,u,u,u,u,u,u,u,u,u,u,u,u,u,u,u,u,u,u,u,u,u,u,u,u,u,u,u,u,u,u,u,u,u,u,u,u,u,u,u,u,u,u,u,u,u,u,u,u,u,u,u,u,u,u],[],[0,1,2,3]⟩
theorem rwA0_head : zda Try.prog zem rwA_0 rw1:=⟨by kernel_rfl,by kernel_rfl⟩
noncomputable def rwB_in : St:=⟨yiv,yil,yj5,0⟩
noncomputable def rwB_0 : St:=⟨[⟨21,yi9 ++ [.x 3,.int .i64 (.tn (.v 6))] ++ yip ++ yjj ++ xr 25 75,[.inLoop (.at_ [0,0,1,0,2]),.inBlock 0,.code (.at_ [3])]⟩],yil,[((.cmp .gtr (.tn (.v 6)) (.v 5)),true)] ++ yj5,0⟩
noncomputable def rwB_1 : St:=⟨[⟨21,yi9 ++ [.x 3,Li 5] ++ yip ++ xr 20 80,[.inLoop (.at_ [0,0,1,0,2]),.inBlock 0,.code (.at_ [3])]⟩],yil,[((.cmp .gtr (.tn (.v 6)) (.v 5)),false)] ++ yj5,0⟩
theorem rwB_run : run Try.prog [] [31,32,33] true 900 rwB_in = [rwB_0,rwB_1]:=by kernel_rfl
noncomputable def rwB0_sub : Sub:=⟨[(.ar .add .i64 (.v 0) (.lit 1)),(.v 1),(.v 2),(.v 3),(.v 4),(.tn (.v 6))],[],[.x 0,.x 1,.x 2,.x 3,.x 4,.x 5,.x 6,.int .i64 (.v 0),.sl (.blk 0) (.v 1) (.e (.v 2)),.int .i64 (.tn (.v 1)),.bool (.cmp .lss (.v 0) (.tn (.v 1))),.int .i64 (.v 0),.int .i64 (.ar .add .i64 (.v 0) (.lit 1)),.sl (.blk 0) (.v 1) (.e (.v 2)),.int .i64 (.v 0),.ptr 0 0,.sl (.blk 4) (.v 6) (.e (.v 7)),.int .i64 (.tn (.v 6)),.int .i64 (.v 5),.bool (.cmp .gtr (.tn (.v 6)) (.v 5)),.sl (.blk 0) (.v 1) (.e (.v 2)),.int .i64 (.v 0),.ptr 0 0,.sl (.blk 4) (.v 6) (.e (.v 7)),.int .i64 (.tn (.v 6)),.x 25,.x 26,.x 27,.x 28,.x 29,.x 30,.x 31,.x 32,.x 33,.x 34,.x 35,.x 36,.x 37,.x 38,.x 39,.x 40,.x 41,.x 42,.x 43,.x 44,.x 45,.x 46,.x 47,.x 48,.x 49,.x 50,.x 51,.x 52,.x 53,.x 54,.x 55,.x 56,.x 57,.x 58,.x 59,.x 60,.x 61,.x 62,.x 63,.x 64,.x 65,.x 66,.x 67,.x 68,.x 69,.x 70,.x 71,.x 72,.x 73,.x 74,.x 75,.x 76,.x 77,.x 78,.x 79,.x 80,.x 81,.x 82,.x 83,.x 84,.x 85,.x 86,.x 87,.x 88,.x 89,.x 90,.x 91,.x 92,.x 93,.x 94,.x 95,.x 96,.x 97,.x 98,.x 99],[],[0,1,2,3]⟩
theorem rwB0_head : zda Try.prog rwB0_sub rwB_0 rw1:=⟨by kernel_rfl,by kernel_rfl⟩
noncomputable def rwB1_sub : Sub:=⟨[(.ar .add .i64 (.v 0) (.lit 1)),(.v 1),(.v 2),(.v 3),(.v 4),(.v 5)],[],[.x 0,.x 1,.x 2,.x 3,.x 4,.x 5,.x 6,.int .i64 (.v 0),.sl (.blk 0) (.v 1) (.e (.v 2)),.int .i64 (.tn (.v 1)),.bool (.cmp .lss (.v 0) (.tn (.v 1))),.int .i64 (.v 0),.int .i64 (.ar .add .i64 (.v 0) (.lit 1)),.sl (.blk 0) (.v 1) (.e (.v 2)),.int .i64 (.v 0),.ptr 0 0,.sl (.blk 4) (.v 6) (.e (.v 7)),.int .i64 (.tn (.v 6)),.int .i64 (.v 5),.bool (.cmp .gtr (.tn (.v 6)) (.v 5)),.x 20,.x 21,.x 22,.x 23,.x 24,.x 25,.x 26,.x 27,.x 28,.x 29,.x 30,.x 31,.x 32,.x 33,.x 34,.x 35,.x 36,.x 37,.x 38,.x 39,.x 40,.x 41,.x 42,.x 43,.x 44,.x 45,.x 46,.x 47,.x 48,.x 49,.x 50,.x 51,.x 52,.x 53,.x 54,.x 55,.x 56,.x 57,.x 58,.x 59,.x 60,.x 61,.x 62,.x 63,.x 64,.x 65,.x 66,.x 67,.x 68,.x 69,.x 70,.x 71,.x 72,.x 73,.x 74,.x 75,.x 76,.x 77,.x 78,.x 79,.x 80,.x 81,.x 82,.x 83,.x 84,.x 85,.x 86,.x 87,.x 88,.x 89,.x 90,.x 91,.x 92,.x 93,.x 94,.x 95,.x 96,.x 97,.x 98,.x 99],[],[0,1,2,3]⟩
theorem rwB1_head : zda Try.prog rwB1_sub rwB_1 rw1:=⟨by kernel_rfl,by kernel_rfl⟩
noncomputable def rwC_in : St:=⟨yiv,yir,[((.cmp .lss (.v 0) (.tn (.v 1))),false)],0⟩
noncomputable def rwC_0 : St:=⟨[⟨21,yi9 ++ [.x 3] ++ yia ++ xr 30 70,[.inRegion [0,0,3] [5,6],.code (.at_ [1,0,3]),.code (.at_ [4])]⟩],yir,[((.cmp .lss (.v 0) (.tn (.v 1))),false)],0⟩
theorem rwC_run : run Try.prog [] [31,32,33] true 900 rwC_in = [rwC_0]:=by kernel_rfl
noncomputable def rwC_op : Oper:=(za1 Try.prog 21 [0,0,3]).getD 5 default
theorem rwC_at : (za1 Try.prog 21 [0,0,3])[5]? = some rwC_op:=by kernel_rfl
noncomputable def rwC_fr : Fr:=⟨21,yi9 ++ [.x 3] ++ yia ++ xr 30 70,[.inRegion [0,0,3] [5,6],.code (.at_ [1,0,3]),.code (.at_ [4])]⟩
theorem rwC_gd : guardOf rwC_0.facts (za1 Try.prog 21 [0,0,3]) rwC_fr.tmps rwC_op = .yes:=by kernel_rfl
noncomputable def znl : List SV:=[.agg [Li 6,Li 7,Li 8,Li 9],.int .i64 (.tn (.v 1)),Li 5] ++ yjb
theorem rwC_call : zc1 Try.prog rwC_fr.tmps rwC_op.op = some (31,znl):=by kernel_rfl
theorem rwC_fresh : (fresh Try.prog 31 znl).isSome = true:=by kernel_rfl
noncomputable def rwC_frb : Fr:=⟨21,yi9 ++ [.x 3] ++ yia ++ [.bool (.v 0)] ++ xr 31 69,[.inRegion [0,0,3] [6],.code (.at_ [1,0,3]),.code (.at_ [4])]⟩
theorem rwC_put : Fr.put rwC_fr rwC_op.dst (.bool (.v 0)) ([.inRegion [0,0,3] [6],.code (.at_ [1,0,3]),.code (.at_ [4])]) = rwC_frb:=by kernel_rfl
noncomputable def rwN_in : St:=⟨yj9,yj8 ++ yih,[((.v 0),false)],0⟩
noncomputable def rwN_0 : St:=⟨[⟨21,yi9 ++ [.bool (.lit false)] ++ yia ++ [.bool (.v 0),.bool (.no (.v 0)),.agg [.c (.slice none 0 0),.c (.slice none 0 0),.int .u64 (.lit 0),.int .u64 (.lit 0),.c (.slice none 0 0),.c (.slice none 0 0),.int .u64 (.lit 0),.int .u64 (.lit 0),.c (.slice none 0 0),.c (.slice none 0 0),.c (.slice none 0 0)]] ++ xr 33 67,[.code (.at_ [1,0,1,0,3]),.code (.at_ [4])]⟩],yj8 ++ yih,[((.v 0),false)],0⟩
theorem rwN_0_end : zc6 Try.prog rwN_0 = some (.tup [.agg [.c (.slice none 0 0),.c (.slice none 0 0),.int .u64 (.lit 0),.int .u64 (.lit 0),.c (.slice none 0 0),.c (.slice none 0 0),.int .u64 (.lit 0),.int .u64 (.lit 0),.c (.slice none 0 0),.c (.slice none 0 0),.c (.slice none 0 0)],.bool (.lit false)]):=by kernel_rfl
theorem rwN_run : run Try.prog [] [31,32,33] true 900 rwN_in = [rwN_0]:=by kernel_rfl
noncomputable def rwD_in : St:=⟨yj9,yir,[((.v 0),true)],0⟩
noncomputable def rwD_0 : St:=⟨[⟨21,yj1 ++ xr 34 66,[.inRegion [0,4] [1,2],.code (.at_ [5])]⟩],yir,[((.v 0),true)],0⟩
theorem rwD_run : run Try.prog [] [31,32,33] true 900 rwD_in = [rwD_0]:=by kernel_rfl
noncomputable def zjw : Oper:=(za1 Try.prog 21 [0,4]).getD 1 default
theorem rwD_0_at : (za1 Try.prog 21 [0,4])[1]? = some zjw:=by kernel_rfl
noncomputable def zhw : Fr:=⟨21,yj1 ++ xr 34 66,[.inRegion [0,4] [1,2],.code (.at_ [5])]⟩
theorem rwD_0_gd : guardOf rwD_0.facts (za1 Try.prog 21 [0,4]) zhw.tmps zjw = .yes:=by kernel_rfl
noncomputable def zii : List SV:=[.agg [Li 6,Li 7,Li 8,Li 9]]
theorem rwD_0_call : zc1 Try.prog zhw.tmps zjw.op = some (32,zii):=by kernel_rfl
theorem rwD_0_fresh : (fresh Try.prog 32 zii).isSome = true:=by kernel_rfl
noncomputable def zkv : Fr:=⟨21,yj1 ++ [.x 100] ++ xr 35 65,[.inRegion [0,4] [2],.code (.at_ [5])]⟩
theorem rwD_0_put : Fr.put zhw zjw.dst (.x 100) ([.inRegion [0,4] [2],.code (.at_ [5])]) = zkv:=by kernel_rfl
noncomputable def znk : St:=⟨[⟨21,[.x 0,.sl (.blk 0) (.v 1) (.e (.v 2)),.sl (.blk 1) (.v 3) (.e (.v 4)),.ptr 2 0,.x 1,.x 2,.ptr 3 0,.x 3,.x 4,.x 5,.x 6,.x 7,.x 8,.x 9,.x 10,.x 11,.x 12,.x 13,.x 14,.x 15,.x 16,.x 17,.x 18,.x 19,.x 20,.x 21,.x 22,.x 23,.x 24,.x 25,.x 26,.x 27,.x 28,.x 29,.x 30,.x 31,.x 32,.x 33,.x 34,.x 35,.x 101,.x 36,.x 37,.x 38,.x 39,.x 40,.x 41,.x 42,.x 43,.x 44,.x 45,.x 46,.x 47,.x 48,.x 49,.x 50,.x 51,.x 52,.x 53,.x 54,.x 55,.x 56,.x 57,.x 58,.x 59,.x 60,.x 61,.x 62,.x 63,.x 64,.x 65,.x 66,.x 67,.x 68,.x 69,.x 70,.x 71,.x 72,.x 73,.x 74,.x 75,.x 76,.x 77,.x 78,.x 79,.x 80,.x 81,.x 82,.x 83,.x 84,.x 85,.x 86,.x 87,.x 88,.x 89,.x 90,.x 91,.x 92,.x 93,.x 94,.x 95,.x 96,.x 97,.x 98,.x 99,.x 100],[.inRegion [0,4] [2],.code (.at_ [5])]⟩],
 [],
 [],
 0⟩
noncomputable def zcl : Sub:=⟨[(.lit 0),(.v 1),(.v 2),(.v 3),(.v 4)],[],[.x 0,.x 1,.x 2,.x 3,.int .i64 (.v 5),.int .i64 (.v 0),.x 4,.x 5,.x 6,.int .i64 (.v 0),.sl (.blk 0) (.v 1) (.e (.v 2)),.int .i64 (.tn (.v 1)),.bool (.cmp .lss (.v 0) (.tn (.v 1))),.x 11,.x 12,.x 13,.x 14,.x 15,.x 16,.x 17,.x 18,.x 19,.x 20,.x 21,.x 22,.x 23,.x 24,.agg [.int .i64 (.v 6),.int .i64 (.v 7),.int .i64 (.v 8),.int .i64 (.v 9)],.sl (.blk 0) (.v 1) (.e (.v 2)),.int .i64 (.tn (.v 1)),.int .i64 (.v 5),.sl (.blk 1) (.v 3) (.e (.v 4)),.bool (.v 0),.bool (.no (.v 0)),.x 32,.agg [.int .i64 (.v 6),.int .i64 (.v 7),.int .i64 (.v 8),.int .i64 (.v 9)],.x 35,.x 36,.x 37,.x 38,.x 39,.x 40,.x 41,.x 42,.x 43,.x 44,.x 45,.x 46,.x 47,.x 48,.x 49,.x 50,.x 51,.x 52,.x 53,.x 54,.x 55,.x 56,.x 57,.x 58,.x 59,.x 60,.x 61,.x 62,.x 63,.x 64,.x 65,.x 66,.x 67,.x 68,.x 69,.x 70,.x 71,.x 72,.x 73,.x 74,.x 75,.x 76,.x 77,.x 78,.x 79,.x 80,.x 81,.x 82,.x 83,.x 84,.x 85,.x 86,.x 87,.x 88,.x 89,.x 90,.x 91,.x 92,.x 93,.x 94,.x 95,.x 96,.x 97,.x 98,.x 99,.x 100],[],[0,1,2,3]⟩
theorem rwD_0p_fits : zfy zcl ⟨[zkv],[],[],0⟩ znk:=⟨by kernel_rfl,by kernel_rfl⟩
noncomputable def zku : St:=⟨[⟨21,[.x 0,.sl (.blk 0) (.v 1) (.e (.v 2)),.sl (.blk 1) (.v 3) (.e (.v 4)),.ptr 2 0,.x 1,.x 2,.ptr 3 0,.x 3,.x 4,.x 5,.x 6,.x 7,.x 8,.x 9,.x 10,.x 11,.x 12,.x 13,.x 14,.x 15,.x 16,.x 17,.x 18,.x 19,.x 20,.x 21,.x 22,.x 23,.x 24,.x 25,.x 26,.x 27,.x 28,.x 29,.x 30,.x 31,.x 32,.x 33,.x 34,.x 35,.ptr 4 0,.x 36,.x 37,.x 38,.x 39,.x 40,.x 41,.x 42,.x 43,.x 44,.x 45,.x 46,.x 47,.x 48,.x 49,.x 50,.x 51,.x 52,.x 53,.x 54,.x 55,.x 56,.x 57,.x 58,.x 59,.x 60,.x 61,.x 62,.x 63,.x 64,.x 65,.x 66,.x 67,.x 68,.x 69,.x 70,.x 71,.x 72,.x 73,.x 74,.x 75,.x 76,.x 77,.x 78,.x 79,.x 80,.x 81,.x 82,.x 83,.x 84,.x 85,.x 86,.x 87,.x 88,.x 89,.x 90,.x 91,.x 92,.x 93,.x 94,.x 95,.x 96,.x 97,.x 98,.x 99,.x 100],[.inRegion [0,4] [2],.code (.at_ [5])]⟩],
 [⟨49,[],false,none,none,none⟩,
 ⟨61,[],false,none,none,none⟩,
 ⟨36,[],false,none,none,none⟩,
 ⟨52,[],false,none,none,none⟩,
 ⟨91,[],false,none,none,none⟩],
 [],
 0⟩
noncomputable def rwE_0 : St:=⟨[⟨21,yja ++ [.int .i64 (.lit 0)] ++ xr 8 28 ++ [.ptr 4 0] ++ xr 36 65,[.code (.at_ [0,1,0,5]),.inBlock 2,.code (.at_ [6])]⟩],yim,[],0⟩
theorem rwE_run : run Try.prog [] [31,32,33] true 900 zku = [rwE_0]:=by kernel_rfl
noncomputable def rw2 : St:=⟨yii,[],[],0⟩
noncomputable def zel : Sub:=⟨[(.lit 0),(.v 1),(.v 2),(.v 3),(.v 4)],[],[.x 0,.x 1,.x 2,.x 3,.x 4,.x 5,.x 8,.x 9,.x 10,.x 11,.x 12,.x 13,.x 14,.x 15,.x 16,.x 17,.x 18,.x 19,.x 20,.x 21,.x 22,.x 23,.x 24,.x 25,.x 26,.x 27,.x 28,.x 29,.x 30,.x 31,.x 32,.x 33,.x 34,.x 35,.ptr 4 0,.x 36,.x 37,.x 38,.x 39,.x 40,.x 41,.x 42,.x 43,.x 44,.x 45,.x 46,.x 47,.x 48,.x 49,.x 50,.x 51,.x 52,.x 53,.x 54,.x 55,.x 56,.x 57,.x 58,.x 59,.x 60,.x 61,.x 62,.x 63,.x 64,.x 65,.x 66,.x 67,.x 68,.x 69,.x 70,.x 71,.x 72,.x 73,.x 74,.x 75,.x 76,.x 77,.x 78,.x 79,.x 80,.x 81,.x 82,.x 83,.x 84,.x 85,.x 86,.x 87,.x 88,.x 89,.x 90,.x 91,.x 92,.x 93,.x 94,.x 95,.x 96,.x 97,.x 98,.x 99,.x 100],[],[0,1,2,3,4]⟩
theorem rwE0_head : zda Try.prog zel rwE_0 rw2:=⟨by kernel_rfl,by kernel_rfl⟩
noncomputable def ziy : St:=⟨yii,yij,yis ++ [((.cmp .lss (.v 5) (.lit 0)),true)],0⟩
noncomputable def rwF_0 : St:=⟨[⟨21,yio ++ ur 4 ++ [.bool (.lit true)] ++ xr 54 46,[.inLoop (.at_ [0,0,1,0,5]),.inBlock 2,.code (.at_ [6])]⟩],yij,yis ++ [((.cmp .lss (.v 5) (.lit 0)),true)],0⟩
theorem rwF_run : run Try.prog [] [31,32,33] true 900 ziy = [rwF_0]:=by kernel_rfl
noncomputable def rwF0_sub : Sub:=⟨[(.ar .add .i64 (.v 0) (.lit 1)),(.v 1),(.v 2),(.v 3),(.v 4)],[],[.x 0,.x 1,.x 2,.x 3,.x 4,.x 5,.int .i64 (.v 5),.x 7,.x 8,.x 9,.x 10,.x 11,.x 12,.x 13,.x 14,.x 15,.x 16,.x 17,.x 18,.x 19,.x 20,.x 21,.x 22,.x 23,.x 24,.x 25,.x 26,.x 27,.x 28,.x 29,.x 30,.x 31,.x 32,.x 33,.x 34,.int .i64 (.v 0),.sl (.blk 1) (.v 3) (.e (.v 4)),.int .i64 (.tn (.v 3)),.bool (.cmp .lss (.v 0) (.tn (.v 3))),.int .i64 (.v 0),.int .i64 (.ar .add .i64 (.v 0) (.lit 1)),.sl (.blk 1) (.v 3) (.e (.v 4)),.int .i64 (.v 0),.ptr 1 0,.ptr 1 0,.int .i64 (.v 5),.int .i64 (.v 5),.bool (.cmp .lss (.v 5) (.lit 0)),.bool (.cmp .lss (.v 5) (.lit 0)),u,u,u,u,.bool (.lit true),.x 54,.x 55,.x 56,.x 57,.x 58,.x 59,.x 60,.x 61,.x 62,.x 63,.x 64,.x 65,.x 66,.x 67,.x 68,.x 69,.x 70,.x 71,.x 72,.x 73,.x 74,.x 75,.x 76,.x 77,.x 78,.x 79,.x 80,.x 81,.x 82,.x 83,.x 84,.x 85,.x 86,.x 87,.x 88,.x 89,.x 90,.x 91,.x 92,.x 93,.x 94,.x 95,.x 96,.x 97,.x 98,.x 99],[],[0,1,2,3,4]⟩
theorem rwF0_head : zda Try.prog rwF0_sub rwF_0 rw2:=⟨by kernel_rfl,by kernel_rfl⟩
noncomputable def rwG_in : St:=⟨yii,yij,yjk ++ [((.cmp .geq (.v 5) (.v 9)),true)],0⟩
noncomputable def rwG_0 : St:=⟨[⟨21,yio ++ yjg ++ xr 54 46,[.inLoop (.at_ [0,0,1,0,5]),.inBlock 2,.code (.at_ [6])]⟩],yij,yjk ++ [((.cmp .geq (.v 5) (.v 9)),true)],0⟩
theorem rwG_run : run Try.prog [] [31,32,33] true 900 rwG_in = [rwG_0]:=by kernel_rfl
noncomputable def rwG0_sub : Sub:=⟨[(.ar .add .i64 (.v 0) (.lit 1)),(.v 1),(.v 2),(.v 3),(.v 4)],[],[.x 0,.x 1,.x 2,.x 3,.x 4,.x 5,.int .i64 (.v 5),.x 7,.x 8,.x 9,.x 10,.x 11,.x 12,.x 13,.x 14,.x 15,.x 16,.x 17,.x 18,.x 19,.x 20,.x 21,.x 22,.x 23,.x 24,.x 25,.x 26,.x 27,.x 28,.x 29,.x 30,.x 31,.x 32,.x 33,.x 34,.int .i64 (.v 0),.sl (.blk 1) (.v 3) (.e (.v 4)),.int .i64 (.tn (.v 3)),.bool (.cmp .lss (.v 0) (.tn (.v 3))),.int .i64 (.v 0),.int .i64 (.ar .add .i64 (.v 0) (.lit 1)),.sl (.blk 1) (.v 3) (.e (.v 4)),.int .i64 (.v 0),.ptr 1 0,.ptr 1 0,.int .i64 (.v 5),.int .i64 (.v 5),.bool (.cmp .lss (.v 5) (.lit 0)),.bool (.cmp .lss (.v 5) (.lit 0)),.int .i64 (.v 5),.ptr 2 2,.int .i64 (.v 9),.bool (.cmp .geq (.v 5) (.v 9)),.bool (.cmp .geq (.v 5) (.v 9)),.x 54,.x 55,.x 56,.x 57,.x 58,.x 59,.x 60,.x 61,.x 62,.x 63,.x 64,.x 65,.x 66,.x 67,.x 68,.x 69,.x 70,.x 71,.x 72,.x 73,.x 74,.x 75,.x 76,.x 77,.x 78,.x 79,.x 80,.x 81,.x 82,.x 83,.x 84,.x 85,.x 86,.x 87,.x 88,.x 89,.x 90,.x 91,.x 92,.x 93,.x 94,.x 95,.x 96,.x 97,.x 98,.x 99],[],[0,1,2,3,4]⟩
theorem rwG0_head : zda Try.prog rwG0_sub rwG_0 rw2:=⟨by kernel_rfl,by kernel_rfl⟩
noncomputable def rwH_in : St:=⟨yii,yjc,yjd,0⟩
noncomputable def rwH_0 : St:=⟨[⟨21,yid ++ xr 83 17,[.lin [0,3,0,0,1,0,0,1,0,5] [0,1,2,3,4,5,6,7,8,9,10,11,12,13,14,15,16] [16] 0,.inBlock 3,.code (.at_ [2,0,0,1,0,5]),.inLoop (.at_ [0,0,1,0,5]),.inBlock 2,.code (.at_ [6])]⟩],yjc,yjd,1⟩
theorem rwH_run : run Try.prog [] [31,32,33] true 900 rwH_in = [rwH_0]:=by kernel_rfl
theorem rwH_lin : zmb (za1 Try.prog 21 [0,3,0,0,1,0,0,1,0,5]) [0,1,2,3,4,5,6,7,8,9,10,11,12,13,14,15,16] [16] = true:=by kernel_rfl
theorem rwH_lio : zbk Try.prog (za1 Try.prog 21 [0,3,0,0,1,0,0,1,0,5]) (zc0 (za1 Try.prog 21 [0,3,0,0,1,0,0,1,0,5])) (zh0 [] (za1 Try.prog 21 [0,3,0,0,1,0,0,1,0,5])) [0,1,2,3,4,5,6,7,8,9,10,11,12,13,14,15,16] = true:=by kernel_rfl
theorem rwH_lit : (rwH_0.frs.headD default).todo = .lin [0,3,0,0,1,0,0,1,0,5] [0,1,2,3,4,5,6,7,8,9,10,11,12,13,14,15,16] [16] 0 :: [.inBlock 3,.code (.at_ [2,0,0,1,0,5]),.inLoop (.at_ [0,0,1,0,5]),.inBlock 2,.code (.at_ [6])]:=by kernel_rfl
noncomputable def zjv : Oper:=(za1 Try.prog 21 [0,3,0,0,1,0,0,1,0,5]).getD 16 default
theorem rwH_0_at : (za1 Try.prog 21 [0,3,0,0,1,0,0,1,0,5])[16]? = some zjv:=by kernel_rfl
noncomputable def zhv : Fr:=⟨21,yid ++ xr 83 17,[.inRegion [0,3,0,0,1,0,0,1,0,5] [16],.inBlock 3,.code (.at_ [2,0,0,1,0,5]),.inLoop (.at_ [0,0,1,0,5]),.inBlock 2,.code (.at_ [6])]⟩
theorem rwH_0_gd : guardOf rwH_0.facts (za1 Try.prog 21 [0,3,0,0,1,0,0,1,0,5]) zhv.tmps zjv = .yes:=by kernel_rfl
noncomputable def zih : List SV:=[.ptr 4 0,Li 5] ++ yik ++ [.int .i64 (.lit 0),.int .u32 (.lit 0),.bool (.lit true)]
theorem rwH_0_call : zc1 Try.prog zhv.tmps zjv.op = some (33,zih):=by kernel_rfl
theorem rwH_0_fresh : (fresh Try.prog 33 zih).isSome = true:=by kernel_rfl
noncomputable def zks : Fr:=⟨21,yid ++ [.bool (.lit true)] ++ xr 84 16,[.inRegion [0,3,0,0,1,0,0,1,0,5] [],.inBlock 3,.code (.at_ [2,0,0,1,0,5]),.inLoop (.at_ [0,0,1,0,5]),.inBlock 2,.code (.at_ [6])]⟩
theorem rwH_0_put : Fr.put zhv zjv.dst (.bool (.lit true)) ([.inRegion [0,3,0,0,1,0,0,1,0,5] [],.inBlock 3,.code (.at_ [2,0,0,1,0,5]),.inLoop (.at_ [0,0,1,0,5]),.inBlock 2,.code (.at_ [6])]) = zks:=by kernel_rfl
noncomputable def rwHp : St:=⟨yix,[],[],0⟩
noncomputable def zfd : Sub:=⟨[(.v 0),(.v 1),(.v 2),(.v 3),(.v 4)],[],[.x 0,.x 1,.x 2,.x 3,.x 4,.x 5,.int .i64 (.v 5),.x 7,.x 8,.x 9,.x 10,.x 11,.x 12,.x 13,.x 14,.x 15,.x 16,.x 17,.x 18,.x 19,.x 20,.x 21,.x 22,.x 23,.x 24,.x 25,.x 26,.x 27,.x 28,.x 29,.x 30,.x 31,.x 32,.x 33,.x 34,.int .i64 (.v 0),.sl (.blk 1) (.v 3) (.e (.v 4)),.int .i64 (.tn (.v 3)),.bool (.cmp .lss (.v 0) (.tn (.v 3))),.x 39,.x 40,.sl (.blk 1) (.v 3) (.e (.v 4)),.int .i64 (.v 0),.ptr 1 0,.ptr 1 0,.int .i64 (.v 5),.int .i64 (.v 5),.bool (.cmp .lss (.v 5) (.lit 0)),.bool (.cmp .lss (.v 5) (.lit 0)),.int .i64 (.v 5),.ptr 2 2,.int .i64 (.v 9),.bool (.cmp .geq (.v 5) (.v 9)),.bool (.cmp .geq (.v 5) (.v 9)),.ptr 4 0,.ptr 4 0,.ptr 4 15,.sl (.blk 5) (.v 11) (.e (.v 12)),.int .i64 (.v 5),.ptr 5 0,.int .i64 (.v 13),.sl (.blk 0) (.v 1) (.e (.v 2)),.int .i64 (.v 5),.ptr 0 0,.sl (.blk 6) (.v 14) (.e (.v 15)),.int .i64 (.tn (.v 14)),.bool (.cmp .lss (.v 13) (.tn (.v 14))),.ptr 4 0,.int .i64 (.v 5),.sl (.blk 0) (.v 1) (.e (.v 2)),.int .i64 (.v 5),.ptr 0 0,.sl (.blk 6) (.v 14) (.e (.v 15)),.ptr 4 0,.ptr 4 0,.ptr 4 15,.sl (.blk 5) (.v 11) (.e (.v 12)),.int .i64 (.v 5),.ptr 5 0,.int .i64 (.v 13),.ptr 6 0,.agg [.int .i64 (.v 16),.int .i64 (.v 17),.int .i64 (.v 18),.int .u64 (.v 19),.int .u64 (.v 20)],.agg [.int .i64 (.lit 0),.int .u32 (.lit 0),.int .i64 (.lit 0),.int .i64 (.lit 0),.int .i64 (.lit 99),.int .u64 (.lit 0),.int .u64 (.lit 0),.int .u64 (.lit 0),.int .u64 (.lit 0),.int .i64 (.lit 0),.c (.slice none 0 0),.bool (.lit false),.int .u64 (.lit 0),.int .u64 (.lit 0),.int .i64 (.lit 0),.int .u32 (.lit 0),.int .i64 (.lit 0),.int .i64 (.v 16),.int .i64 (.v 17),.int .i64 (.v 18),.int .u64 (.v 19),.int .u64 (.v 20),.int .i64 (.lit 0),.int .u32 (.lit 0)],.bool (.lit true),.x 84,.x 85,.x 86,.x 87,.x 88,.x 89,.x 90,.x 91,.x 92,.x 93,.x 94,.x 95,.x 96,.x 97,.x 98,.x 99],[],[0,1,2,3,4]⟩
theorem rwHq_fits : zfy zfd ⟨[zks],[],[],0⟩ rwHp:=⟨by kernel_rfl,by kernel_rfl⟩
noncomputable def zkt : St:=⟨yix,yim,[],0⟩
noncomputable def rwHJ_0 : St:=⟨yj4,yim,[],0⟩
theorem rwHJ_run : run Try.prog [] [31,32,33] true 900 zkt = [rwHJ_0]:=by kernel_rfl
noncomputable def rwHJ0_sub : Sub:=⟨[(.ar .add .i64 (.v 0) (.lit 1)),(.v 1),(.v 2),(.v 3),(.v 4)],[],[.x 0,.x 1,.x 2,.x 3,.x 4,.x 5,.x 6,.x 7,.x 8,.x 9,.x 10,.x 11,.x 12,.x 13,.x 14,.x 15,.x 16,.x 17,.x 18,.x 19,.x 20,.x 21,.x 22,.x 23,.x 24,.x 25,.x 26,.x 27,.x 28,.x 29,.x 30,.x 31,.x 32,.x 33,.x 34,.x 35,.x 36,.x 37,.x 38,.int .i64 (.v 0),.int .i64 (.ar .add .i64 (.v 0) (.lit 1)),.x 41,.x 42,.x 43,.x 44,.x 45,.x 46,.x 47,.x 48,.x 49,.x 50,.x 51,.x 52,.x 53,.x 54,.x 55,.x 56,.x 57,.x 58,.x 59,.x 60,.x 61,.x 62,.x 63,.x 64,.x 65,.x 66,.x 67,.x 68,.x 69,.x 70,.x 71,.x 72,.x 73,.x 74,.x 75,.x 76,.x 77,.x 78,.x 79,.x 80,.x 81,.x 82,.x 83,.x 84,.x 85,.x 86,.x 87,.x 88,.x 89,.x 90,.x 91,.x 92,.x 93,.x 94,.x 95,.x 96,.x 97,.x 98,.x 99],[],[0,1,2,3,4]⟩
theorem rwHJ0_head : zda Try.prog rwHJ0_sub rwHJ_0 rw2:=⟨by kernel_rfl,by kernel_rfl⟩
noncomputable def rwI_in : St:=⟨yii,yic ++ [⟨27,[],false,none,none,none⟩],yig ++ [((.cmp .lss (.v 13) (.tn (.v 14))),false)],0⟩
noncomputable def rwI_0 : St:=⟨[⟨21,yi8 ++ xr 67 17 ++ yib ++ xr 87 13,[.inRegion [4,0,0,1,0,0,1,0,5] [3],.inBlock 3,.code (.at_ [2,0,0,1,0,5]),.inLoop (.at_ [0,0,1,0,5]),.inBlock 2,.code (.at_ [6])]⟩],yic ++ [⟨27,[],false,none,none,none⟩],yig ++ [((.cmp .lss (.v 13) (.tn (.v 14))),false)],0⟩
theorem rwI_run : run Try.prog [] [31,32,33] true 900 rwI_in = [rwI_0]:=by kernel_rfl
noncomputable def zju : Oper:=(za1 Try.prog 21 [4,0,0,1,0,0,1,0,5]).getD 3 default
theorem rwI_0_at : (za1 Try.prog 21 [4,0,0,1,0,0,1,0,5])[3]? = some zju:=by kernel_rfl
noncomputable def zhu : Fr:=⟨21,yi8 ++ xr 67 17 ++ yib ++ xr 87 13,[.inRegion [4,0,0,1,0,0,1,0,5] [3],.inBlock 3,.code (.at_ [2,0,0,1,0,5]),.inLoop (.at_ [0,0,1,0,5]),.inBlock 2,.code (.at_ [6])]⟩
theorem rwI_0_gd : guardOf rwI_0.facts (za1 Try.prog 21 [4,0,0,1,0,0,1,0,5]) zhu.tmps zju = .yes:=by kernel_rfl
noncomputable def zig : List SV:=yib ++ [.int .i64 (.lit 0),.int .u32 (.lit 0),.bool (.lit false)]
theorem rwI_0_call : zc1 Try.prog zhu.tmps zju.op = some (33,zig):=by kernel_rfl
theorem rwI_0_fresh : (fresh Try.prog 33 zig).isSome = true:=by kernel_rfl
noncomputable def zkr : Fr:=⟨21,yi8 ++ xr 67 17 ++ yib ++ [.bool (.lit false)] ++ xr 88 12,[.inRegion [4,0,0,1,0,0,1,0,5] [],.inBlock 3,.code (.at_ [2,0,0,1,0,5]),.inLoop (.at_ [0,0,1,0,5]),.inBlock 2,.code (.at_ [6])]⟩
theorem rwI_0_put : Fr.put zhu zju.dst (.bool (.lit false)) ([.inRegion [4,0,0,1,0,0,1,0,5] [],.inBlock 3,.code (.at_ [2,0,0,1,0,5]),.inLoop (.at_ [0,0,1,0,5]),.inBlock 2,.code (.at_ [6])]) = zkr:=by kernel_rfl
noncomputable def rwIp : St:=⟨yiy,[],[],0⟩
noncomputable def zfc : Sub:=⟨[(.v 0),(.v 1),(.v 2),(.v 3),(.v 4)],[],[.x 0,.x 1,.x 2,.x 3,.x 4,.x 5,.int .i64 (.v 5),.x 7,.x 8,.x 9,.x 10,.x 11,.x 12,.x 13,.x 14,.x 15,.x 16,.x 17,.x 18,.x 19,.x 20,.x 21,.x 22,.x 23,.x 24,.x 25,.x 26,.x 27,.x 28,.x 29,.x 30,.x 31,.x 32,.x 33,.x 34,.int .i64 (.v 0),.sl (.blk 1) (.v 3) (.e (.v 4)),.int .i64 (.tn (.v 3)),.bool (.cmp .lss (.v 0) (.tn (.v 3))),.x 39,.x 40,.sl (.blk 1) (.v 3) (.e (.v 4)),.int .i64 (.v 0),.ptr 1 0,.ptr 1 0,.int .i64 (.v 5),.int .i64 (.v 5),.bool (.cmp .lss (.v 5) (.lit 0)),.bool (.cmp .lss (.v 5) (.lit 0)),.int .i64 (.v 5),.ptr 2 2,.int .i64 (.v 9),.bool (.cmp .geq (.v 5) (.v 9)),.bool (.cmp .geq (.v 5) (.v 9)),.ptr 4 0,.ptr 4 0,.ptr 4 15,.sl (.blk 5) (.v 11) (.e (.v 12)),.int .i64 (.v 5),.ptr 5 0,.int .i64 (.v 13),.sl (.blk 0) (.v 1) (.e (.v 2)),.int .i64 (.v 5),.ptr 0 0,.sl (.blk 6) (.v 14) (.e (.v 15)),.int .i64 (.tn (.v 14)),.bool (.cmp .lss (.v 13) (.tn (.v 14))),.x 67,.x 68,.x 69,.x 70,.x 71,.x 72,.x 73,.x 74,.x 75,.x 76,.x 77,.x 78,.x 79,.x 80,.x 81,.x 82,.x 83,.ptr 4 0,.int .i64 (.v 5),.agg [.int .i64 (.lit 0),.int .u32 (.lit 0),.int .i64 (.lit 0),.int .i64 (.lit 0),.int .i64 (.lit 0),.int .u64 (.lit 0),.int .u64 (.lit 0),.int .u64 (.lit 0),.int .u64 (.lit 0),.int .i64 (.lit 0),.c (.slice none 0 0),.bool (.lit false),.int .u64 (.lit 0),.int .u64 (.lit 0),.int .i64 (.lit 0),.int .u32 (.lit 0),.int .i64 (.lit 0),.int .i64 (.lit 0),.int .i64 (.lit 0),.int .i64 (.lit 0),.int .u64 (.lit 0),.int .u64 (.lit 0),.int .i64 (.lit 0),.int .u32 (.lit 0)],.bool (.lit false),.x 88,.x 89,.x 90,.x 91,.x 92,.x 93,.x 94,.x 95,.x 96,.x 97,.x 98,.x 99],[],[0,1,2,3,4]⟩
theorem rwIq_fits : zfy zfc ⟨[zkr],[],[],0⟩ rwIp:=⟨by kernel_rfl,by kernel_rfl⟩
noncomputable def rwIJ_in : St:=⟨yiy,yim,[],0⟩
noncomputable def rwIJ_0 : St:=⟨yj4,yim,[],0⟩
theorem rwIJ_run : run Try.prog [] [31,32,33] true 900 rwIJ_in = [rwIJ_0]:=by kernel_rfl
noncomputable def rwIJ0_sub : Sub:=⟨[(.ar .add .i64 (.v 0) (.lit 1)),(.v 1),(.v 2),(.v 3),(.v 4)],[],[.x 0,.x 1,.x 2,.x 3,.x 4,.x 5,.x 6,.x 7,.x 8,.x 9,.x 10,.x 11,.x 12,.x 13,.x 14,.x 15,.x 16,.x 17,.x 18,.x 19,.x 20,.x 21,.x 22,.x 23,.x 24,.x 25,.x 26,.x 27,.x 28,.x 29,.x 30,.x 31,.x 32,.x 33,.x 34,.x 35,.x 36,.x 37,.x 38,.int .i64 (.v 0),.int .i64 (.ar .add .i64 (.v 0) (.lit 1)),.x 41,.x 42,.x 43,.x 44,.x 45,.x 46,.x 47,.x 48,.x 49,.x 50,.x 51,.x 52,.x 53,.x 54,.x 55,.x 56,.x 57,.x 58,.x 59,.x 60,.x 61,.x 62,.x 63,.x 64,.x 65,.x 66,.x 67,.x 68,.x 69,.x 70,.x 71,.x 72,.x 73,.x 74,.x 75,.x 76,.x 77,.x 78,.x 79,.x 80,.x 81,.x 82,.x 83,.x 84,.x 85,.x 86,.x 87,.x 88,.x 89,.x 90,.x 91,.x 92,.x 93,.x 94,.x 95,.x 96,.x 97,.x 98,.x 99],[],[0,1,2,3,4]⟩
theorem rwIJ0_head : zda Try.prog rwIJ0_sub rwIJ_0 rw2:=⟨by kernel_rfl,by kernel_rfl⟩
noncomputable def rwZ_in : St:=⟨yii,yj8 ++ yih ++ [⟨91,yjl ++ [.y 15,.y 16,.y 17,.y 18,.y 19,.y 20,.y 21,.y 22,.y 23,.y 24,.y 25,.y 26],true,none,none,none⟩],[((.cmp .lss (.v 0) (.tn (.v 3))),false)],0⟩
noncomputable def rwZ_0 : St:=⟨[⟨21,yi9 ++ [.bool (.lit true),.x 4,.x 5,.ptr 4 0,Li 0] ++ xr 6 29 ++ yj0 ++ xr 39 49 ++ [.ptr 4 0,.ptr 4 0,.ptr 4 0,.ptr 4 4,.agg [.y 4,.y 5,.y 6,.y 7,.y 8,.y 9,.y 10,.y 11,.y 12],.ptr 4 0,.ptr 4 16,.ptr 4 18,.ptr 4 0,.ptr 4 0,.ptr 4 16,.agg [.y 16,.y 17,.y 4,.y 5,.y 6,.y 7,.y 8,.y 9,.y 10,.y 11,.y 12]],[.code (.at_ [8])]⟩],yj8 ++ [⟨52,[.y 16,.y 17] ++ yiz,true,none,none,none⟩,⟨91,yjl ++ [.y 15,.y 16,.y 17] ++ yiz,true,none,none,none⟩],[((.cmp .lss (.v 0) (.tn (.v 3))),false)],0⟩
theorem rwZ_0_end : zc6 Try.prog rwZ_0 = some (.tup [.agg [.y 16,.y 17,.y 4,.y 5,.y 6,.y 7,.y 8,.y 9,.y 10,.y 11,.y 12],.bool (.lit true)]):=by kernel_rfl
theorem rwZ_run : run Try.prog [] [31,32,33] true 900 rwZ_in = [rwZ_0]:=by kernel_rfl
noncomputable def my_args : List SV:=yit
noncomputable def my_fr : Fr:=⟨31,yit ++ ur 22,[.code (.at_ [])]⟩
theorem my_fresh : fresh Try.prog 31 my_args = some my_fr:=by kernel_rfl
noncomputable def myA_in : St:=⟨[⟨31,yit ++ ur 22,[.code (.at_ [])]⟩],yjm,[],0⟩
noncomputable def myA_0 : St:=⟨[⟨31,yif ++ ur 16,[.inRegion [0,1] [1,2,3,4,5,6,7,8,9,10,11,12,13,14,15,16,17],.code (.at_ [2])]⟩],yin,[],0⟩
theorem myA_run : run Try.prog [] [16] true 900 myA_in = [myA_0]:=by kernel_rfl
noncomputable def myA_op : Oper:=(za1 Try.prog 31 [0,1]).getD 1 default
theorem myA_at : (za1 Try.prog 31 [0,1])[1]? = some myA_op:=by kernel_rfl
noncomputable def myA_fr : Fr:=⟨31,yif ++ ur 16,[.inRegion [0,1] [1,2,3,4,5,6,7,8,9,10,11,12,13,14,15,16,17],.code (.at_ [2])]⟩
theorem myA_gd : guardOf myA_0.facts (za1 Try.prog 31 [0,1]) myA_fr.tmps myA_op = .yes:=by kernel_rfl
noncomputable def zok : List SV:=yjh
theorem myA_call : zc1 Try.prog myA_fr.tmps myA_op.op = some (16,zok):=by kernel_rfl
theorem myA_fresh : (fresh Try.prog 16 zok).isSome = true:=by kernel_rfl
noncomputable def myA_frb : Fr:=⟨31,yif ++ [.bool (.v 0)] ++ ur 15,[.inRegion [0,1] [2,3,4,5,6,7,8,9,10,11,12,13,14,15,16,17],.code (.at_ [2])]⟩
theorem myA_put : Fr.put myA_fr myA_op.dst (.bool (.v 0)) ([.inRegion [0,1] [2,3,4,5,6,7,8,9,10,11,12,13,14,15,16,17],.code (.at_ [2])]) = myA_frb:=by kernel_rfl
noncomputable def myB_in : St:=⟨[⟨31,yif ++ [.bool (.v 0)] ++ ur 15,[.inRegion [0,1] [2,3,4,5,6,7,8,9,10,11,12,13,14,15,16,17],.code (.at_ [2])]⟩],yin,[],0⟩
noncomputable def myB_0 : St:=⟨[⟨31,yit ++ [.ptr 1 0] ++ ur 3 ++ yjo ++ yjh ++ yiq ++ [Li 5] ++ yj6 ++ yj6 ++ yj6 ++ [.sl (.blk 0) (.v 6) (.e (.v 7)),.int .i64 (.tn (.v 6))] ++ yjo ++ yjo,[.code (.at_ [2])]⟩],yin,[((.cmp .leq (.v 5) (.lit 1000)),true),((.cmp .eql (.v 4) (.v 2)),true),((.v 0),true)],0⟩
theorem myB_0_end : zc6 Try.prog myB_0 = some (.bool (.cmp .leq (.tn (.v 6)) (.lit 20000))):=by kernel_rfl
noncomputable def myB_1 : St:=⟨[⟨31,yif ++ yiq ++ [Li 5] ++ yj6 ++ yj6 ++ yj6 ++ ur 3 ++ [.bool (.lit false)],[.code (.at_ [2])]⟩],yin,[((.cmp .leq (.v 5) (.lit 1000)),false),((.cmp .eql (.v 4) (.v 2)),true),((.v 0),true)],0⟩
theorem myB_1_end : zc6 Try.prog myB_1 = some (.bool (.lit false)):=by kernel_rfl
noncomputable def myB_2 : St:=⟨[⟨31,yif ++ yiq ++ [u,u,.bool (.lit false),.bool (.lit false)] ++ ur 3 ++ [.bool (.lit false)],[.code (.at_ [2])]⟩],yin,[((.cmp .eql (.v 4) (.v 2)),false),((.v 0),true)],0⟩
theorem myB_2_end : zc6 Try.prog myB_2 = some (.bool (.lit false)):=by kernel_rfl
noncomputable def myB_3 : St:=⟨[⟨31,yif ++ [.bool (.v 0),.bool (.v 0)] ++ ur 4 ++ [.bool (.lit false),.bool (.lit false),u,u,.bool (.lit false),.bool (.lit false)] ++ ur 3 ++ [.bool (.lit false)],[.code (.at_ [2])]⟩],yin,[((.v 0),false)],0⟩
theorem myB_3_end : zc6 Try.prog myB_3 = some (.bool (.lit false)):=by kernel_rfl
theorem myB_run : run Try.prog [] [16] true 900 myB_in = [myB_0,myB_1,myB_2,myB_3]:=by kernel_rfl
end
section
open Go Go.Conc Go.RowKit Jay Pl
open St Sx Rf
section
variable {γ : Type} {X : zad γ} {s : γ} {w : World} {Stop : γ -> Frame -> List Frame -> World -> Prop} {c : Frame} {cs : List Frame}
def Raw3 (X : zad γ) (s : γ) (W : World) (k K T Mn : Int) (l : List (List Ac)) (picks : List (Int × Int)) (s' : γ) (r : zf9) (w' : World) : Prop:=
 s' = s /\ Below W.heap.size W w' /\ ((Okw k K T Mn l picks /\ ∃ (vS vC : Value) (cE : Array Value),r = .back (.tuple #[.agg (#[vS,vC] ++ cE),.bool true]) /\ Rp.Sps w' w'.heap.size vS (zcf k K T Mn l picks).steps /\ Sl w' w'.heap.size 7 vC (zbi (zcf k K T Mn l picks).steps).length ((zbi (zcf k K T Mn l picks).steps).flatMap Rc.cells) /\ zbb w' w'.heap.size (zcf k K T Mn l picks).mem cE /\ (zcf k K T Mn l picks).mem.small) \/
  (¬ Okw k K T Mn l picks /\ r = .back (.tuple #[.agg zTr.toArray,.bool false])))
theorem does_len {r : Rw} {t : Nat} {a : Ac} : (r.does t a).at_.length = r.at_.length /\ (r.does t a).steps.length = r.steps.length + 1:=by
 unfold Rw.does
 simp
theorem zk4 {g : Nat} {v : Value} (h : v.ownBlock ≠ some g) : OffS g v:=fun b o n c e _ hb=>by
 subst e
 subst hb
 exact h rfl
theorem run_cons {l : List (List Ac)} {r : Rw} {a : Int × Int} {rest : List (Int × Int)} : r.run l (a :: rest) = (r.pick l a.1).run l rest:=rfl
structure Rk (w : World) (k K T Mn : Int) (l : List (List Ac)) (picks : List (Int × Int)) (AL AP : Option Addr) (cL cP gC gT : Nat) : Prop where
 L : Lls w w.heap.size (.slice AL l.length cL) l
 P : Sl w w.heap.size 2 (.slice AP picks.length cP) picks.length (picks.flatMap pkC)
 C : Blk w gC 36 #[.int .i64 k,.int .i64 K,.int .i64 T,.int .i64 Mn]
 T : Blk w gT 52 zTr.toArray
theorem Rk.below {w w' : World} {k K T Mn : Int} {l : List (List Ac)} {picks : List (Int × Int)} {AL AP : Option Addr} {cL cP gC gT : Nat} (h : Rk w k K T Mn l picks AL AP cL cP gC gT) (hb : Below w.heap.size w w') : Rk w' k K T Mn l picks AL AP cL cP gC gT:=by
 obtain ⟨hL,hP,hC,hT⟩:=h
 refine ⟨?_,(hP.below hb).more hb.size,hC.below hb hC.lt,hT.below hb hT.lt⟩
 obtain ⟨vs,a1,a2,a3⟩:=hL.below hb
 exact ⟨vs,a1,a2.more hb.size,fun i u hu=>by obtain ⟨xs,b1,b2⟩:=a3 i u hu; exact ⟨xs,b1,Sl.more b2 hb.size⟩⟩
section
variable {W : World} {k K T Mn : Int} {l : List (List Ac)} {picks : List (Int × Int)} {AL AP : Option Addr} {cL cP gC gT n : Nat}
theorem rw_end {q : Q3} {r : Rw} {j : Nat} {xs : List Value} {q0 q1 q2 q3 q4 : Seg} {w₁ : World} (hk : Rk w k K T Mn l picks AL AP cL cP gC gT) (h : zkd X w₁ s w k K T Mn (R3.of r) q) (hth : X.there s w) (hT : ¬ X.oth s gT) (hTR : gT ≠ q.gR) (hWT : W.heap.size <= gT) (hWw : Below W.heap.size W w) (hW1 : W.heap.size <= w₁.heap.size) (hgT : gT < w₁.heap.size) (hoff : Off gT q.cE) (hTS : q.vS.ownBlock ≠ some gT) (hTK : q.vC.ownBlock ≠ some gT)
  (hj : ¬ (j : Int) < (picks.length : Int)) (hxs : xs.length = 100) (h0 : q0.g < w.heap.size) (h1 : q1.g < w.heap.size) (h2 : Whl q2 gC) (h3 : Whl q3 gT) (h4 : Whl q4 q.gR)
  (hback : ∀ v w',Below W.heap.size W w' -> (∃ (vS vC : Value) (cE : Array Value),v = .tuple #[.agg (#[vS,vC] ++ cE),.bool true] /\ Rp.Sps w' w'.heap.size vS r.steps /\ Sl w' w'.heap.size 7 vC (zbi r.steps).length ((zbi r.steps).flatMap Rc.cells) /\ zbb w' w'.heap.size r.mem cE /\ r.mem.small) -> X.there s w' -> Jay.Reach Try.prog X Stop s (c.finish v) cs w') :
  Fr.reach Try.prog X Stop s (c :: cs) ⟨[(j : Int),(l.length : Int),(cL : Int),(picks.length : Int),(cP : Int)],[],xs,[],[q0,q1,q2,q3,q4],[]⟩ rw2.frs w:=by
 obtain ⟨g2,b2,o2,pre2,post2,cap2,ad2⟩:=q2
 obtain ⟨rfl,rfl,rfl,rfl⟩ : g2 = _ /\ o2 = _ /\ pre2 = _ /\ post2 = _:=h2
 obtain ⟨g3,b3,o3,pre3,post3,cap3,ad3⟩:=q3
 obtain ⟨rfl,rfl,rfl,rfl⟩ : g3 = _ /\ o3 = _ /\ pre3 = _ /\ post3 = _:=h3
 obtain ⟨g4,b4,o4,pre4,post4,cap4,ad4⟩:=q4
 obtain ⟨rfl,rfl,rfl,rfl⟩ : g4 = _ /\ o4 = _ /\ pre4 = _ /\ post4 = _:=h4
 obtain ⟨v2,v3,v6,v7,v8,hcE,u2,u3,u6,u7,u8⟩:=h.mem
 have hR:=h.R
 unfold r3V at hR
 rw [hcE] at hR
 have oS : q.vS.oneCell' = true:=zcx h.S
 have oC : q.vC.oneCell' = true:=zcx h.K
 have dR:=h.dis q.gR (.inl rfl)
 refine zak (L:=⟨5,0,100,0,5⟩) (ai:=[]) (ab:=[]) (ax:=[]) (ay:=[.int .i64 k,.int .i64 K,.int .i64 T,.int .i64 Mn,.int .u64 r.mem.e,.int .u64 r.mem.f,v2,v3,.int .u64 r.mem.h,.int .u64 r.mem.t,v6,v7,v8,.slice (some ⟨q.gO,0,none⟩) r.at_.length q.cO,.slice (some ⟨q.gC,0,none⟩) r.at_.length q.cC,.slice (some ⟨q.gA,0,none⟩) r.at_.length q.cA,q.vS,q.vC,.int .u64 0,.int .u64 0,.slice none 0 0,.slice none 0 0,.int .u64 0,.int .u64 0,.slice none 0 0,.slice none 0 0,.slice none 0 0]) (ak:=[]) (by simp [Env.lens,hxs]) (by kernel_rfl) ?_
 generalize hY : Env.grow _ _ _ _ _ _ = Y
 have hy : Y.ys = [.int .i64 k,.int .i64 K,.int .i64 T,.int .i64 Mn,.int .u64 r.mem.e,.int .u64 r.mem.f,v2,v3,.int .u64 r.mem.h,.int .u64 r.mem.t,v6,v7,v8,.slice (some ⟨q.gO,0,none⟩) r.at_.length q.cO,.slice (some ⟨q.gC,0,none⟩) r.at_.length q.cC,.slice (some ⟨q.gA,0,none⟩) r.at_.length q.cA,q.vS,q.vC,.int .u64 0,.int .u64 0,.slice none 0 0,.slice none 0 0,.int .u64 0,.int .u64 0,.slice none 0 0,.slice none 0 0,.slice none 0 0]:=by rw [<- hY]; rfl
 have hbl : Y.blks = [q0,q1,⟨g2,b2,0,[],[],cap2,ad2⟩,⟨g3,b3,0,[],[],cap3,ad3⟩,⟨q.gR,b4,0,[],[],cap4,ad4⟩]:=by rw [<- hY]; rfl
 have hr : Rep X s (ours Y rwZ_in.heap) w Y rwZ_in.heap rwZ_in.facts 0 w:=by
  subst hY
  refine Rep.start hth (zb9 ⟨rfl,rfl,rfl,rfl,rfl,rfl,za2 u2,za2 u3,rfl,rfl,za2 u6,za2 u7,za2 u8,rfl,rfl,rfl,oS,oC,rfl,rfl,rfl,rfl,rfl,rfl,rfl,rfl,rfl,trivial⟩) rfl ⟨kn h0,kn h1,kn hk.C.lt,⟨hk.T.lt,zcc rfl ⟨hT,rfl,hk.T⟩,⟨rfl,rfl⟩,trivial,rfl⟩,⟨dR.2.1,zcc rfl ⟨dR.1,rfl,hR⟩,⟨rfl,rfl⟩,trivial,rfl⟩,trivial⟩ ⟨⟨(fun e=>nomatch e),(fun e=>nomatch e),(fun e=>nomatch e),(fun e=>nomatch e),trivial⟩,⟨(fun e=>nomatch e),(fun e=>nomatch e),(fun e=>nomatch e),trivial⟩,⟨(fun e=>nomatch e),(fun e=>nomatch e),trivial⟩,⟨(fun _=>hTR),trivial⟩,trivial,trivial⟩ (za5 ⟨?_,trivial⟩) rfl
  exact decide_eq_false (by show ¬ (j : Int) < ((picks.length : Int).toNat : Int); omega)
 have hours : ∀ g,ours Y rwZ_in.heap g -> g = g3 \/ g = q.gR:=zbz ⟨(fun e=>nomatch e),(fun e=>nomatch e),(fun e=>nomatch e),fun _=>.inl (by rw [hbl]; rfl),fun _=>.inr (by rw [hbl]; rfl),trivial⟩
 refine zaa 900 rwZ_run hr ⟨fun Y1 w1 hx1 hr1=>?_,trivial⟩
 have hc1:=hr1.chg
 refine zbx rwZ_0_end hr1.rep (hback _ w1 (hWw.trans (hc1.below (fun g hg=>?_) hWw.size)) ⟨q.vS,q.vC,q.cE,?_,?_,?_,?_,h.small⟩ hr1.there)
 ·rcases hours g hg with rfl | rfl
  ·exact hWT
  ·exact Nat.le_trans hW1 dR.2.2
 ·show Value.tuple #[.agg #[Y1.ys.getD 16 .nilFunc,Y1.ys.getD 17 .nilFunc,Y1.ys.getD 4 .nilFunc,Y1.ys.getD 5 .nilFunc,Y1.ys.getD 6 .nilFunc,Y1.ys.getD 7 .nilFunc,Y1.ys.getD 8 .nilFunc,Y1.ys.getD 9 .nilFunc,Y1.ys.getD 10 .nilFunc,Y1.ys.getD 11 .nilFunc,Y1.ys.getD 12 .nilFunc],.bool true] = _
  rw [hx1.ys,hy,hcE]
  rfl
 ·refine (Sl.chg (Sl.of_own h.S) (Nat.le_refl _) hc1 fun g hg=>?_).more hc1.size
  rcases hours g hg with rfl | rfl
  ·exact zk4 hTS
  ·exact zk4 fun e=>(h.ne.2.1 _ e).1 (by simp)
 ·refine (Sl.chg (Sl.of_own h.K) (Nat.le_refl _) hc1 fun g hg=>?_).more hc1.size
  rcases hours g hg with rfl | rfl
  ·exact zk4 hTK
  ·exact zk4 fun e=>(h.ne.2.2 _ e) (by simp)
 ·refine (zbb.chg h.mem (Nat.le_refl _) hc1 fun g hg=>?_).more hc1.size
  rcases hours g hg with rfl | rfl
  ·exact hoff
  ·exact h.off _ (.inl rfl)
end
end
end
section
open Go Go.Conc Go.RowKit Jay Pl
open St Sx Rf
section
variable {γ : Type} {X : zad γ} {s : γ} {Stop : γ -> Frame -> List Frame -> World -> Prop} {c : Frame} {cs : List Frame}
section
variable {W w₁ : World} {k K T Mn : Int} {l : List (List Ac)} {picks : List (Int × Int)} {AL AP : Option Addr} {cL cP gC gT : Nat}
def Nxt (X : zad γ) (s : γ) (Stop : γ -> Frame -> List Frame -> World -> Prop) (c : Frame) (cs : List Frame) (w₁ : World) (k K T Mn : Int) (l : List (List Ac)) (picks : List (Int × Int)) (AL AP : Option Addr) (cL cP gC gT : Nat) (j : Nat) (r : Rw) : Prop:=
 ∀ (q : Q3) (q0 q1 q2 q3 q4 : Seg) (xs : List Value) (w : World),zkd X w₁ s w k K T Mn (R3.of r) q -> X.there s w -> (q0.adr = AL /\ (0 < l.length -> q0.g = (ze4 AL).g) /\ q0.g < w.heap.size) -> (q1.adr = AP /\ (0 < picks.length -> q1.g = (ze4 AP).g) /\ q1.g < w.heap.size) -> Whl q2 gC -> Whl q3 gT -> Whl q4 q.gR -> xs.length = 100 ->
  Fr.reach Try.prog X Stop s (c :: cs) ⟨[(j : Int),(l.length : Int),(cL : Int),(picks.length : Int),(cP : Int)],[],xs,[],[q0,q1,q2,q3,q4],[]⟩ rw2.frs w
theorem rw_out (hk1 : Rk w₁ k K T Mn l picks AL AP cL cP gC gT) {j : Nat} (hj : j < picks.length) (hp : picks.length <= 20000) {r : Rw} (ho : picks[j].1 < 0 \/ T <= picks[j].1) (hnx : Nxt X s Stop c cs w₁ k K T Mn l picks AL AP cL cP gC gT (j + 1) r) : Nxt X s Stop c cs w₁ k K T Mn l picks AL AP cL cP gC gT j r:=by
 intro q q0 q1 q2 q3 q4 xs w h hth h0 h1 h2 h3 h4 hxs
 have hk:=hk1.below h.bel
 have hml : maxLen = 9223372036854775807:=rfl
 obtain ⟨g2,b2,o2,pre2,post2,cap2,ad2⟩:=q2
 obtain ⟨rfl,rfl,rfl,rfl⟩ : g2 = _ /\ o2 = _ /\ pre2 = _ /\ post2 = _:=h2
 obtain ⟨g3,b3,o3,pre3,post3,cap3,ad3⟩:=q3
 obtain ⟨rfl,rfl,rfl,rfl⟩ : g3 = _ /\ o3 = _ /\ pre3 = _ /\ post3 = _:=h3
 obtain ⟨g4,b4,o4,pre4,post4,cap4,ad4⟩:=q4
 obtain ⟨rfl,rfl,rfl,rfl⟩ : g4 = _ /\ o4 = _ /\ pre4 = _ /\ post4 = _:=h4
 obtain ⟨bP,oP,cP',eP,hbP,_,_,hatP⟩:=Sl.row hk.P (by omega)
 cases eP
 have cel:=zfp zo2 hatP hj
 generalize picks[j] = pk at ho cel
 generalize hY0 : (⟨[(j : Int),(l.length : Int),(cL : Int),(picks.length : Int),(cP : Int)],[],xs,[],[q0,q1,⟨g2,b2,0,[],[],cap2,ad2⟩,⟨g3,b3,0,[],[],cap3,ad3⟩,⟨q.gR,b4,0,[],[],cap4,ad4⟩],[]⟩ : Env) = Y0
 have hl0 : Y0.lens = ⟨5,0,100,0,5⟩:=by rw [<- hY0]; simp [Env.lens,hxs]
 refine zbl (b:=1) (q:=⟨bP,oP,oP + j * 2,[],[],q1.cap,none⟩) (by rw [<- hY0]; exact Nat.succ_lt_succ (Nat.zero_lt_succ _)) (by rw [<- hY0]; exact (h1.2.1 (by omega)).symm) (by rw [<- hY0]; exact h1.1.symm) (by rw [<- hY0]; rfl) (by kernel_rfl) ?_
 refine zak (L:=⟨5,0,100,0,5⟩) (ai:=[pk.1,pk.2,k,K,T,Mn]) (ab:=[]) (ax:=[]) (ay:=[]) (ak:=[]) (by rw [<- hl0]; simp [Env.lens,Env.reseg]) (by kernel_rfl) ?_
 generalize hY : Env.grow _ _ _ _ _ _ = Y
 have hi0 : Y.ints = [(j : Int),(l.length : Int),(cL : Int),(picks.length : Int),(cP : Int),pk.1,pk.2,k,K,T,Mn]:=by rw [<- hY,<- hY0]; rfl
 have hbl : Y.blks = [q0,⟨bP,oP,oP + j * 2,[],[],q1.cap,none⟩,⟨g2,b2,0,[],[],cap2,ad2⟩,⟨g3,b3,0,[],[],cap3,ad3⟩,⟨q.gR,b4,0,[],[],cap4,ad4⟩]:=by rw [<- hY,<- hY0]; rfl
 have hlen : Y.blks.length = 5:=by rw [hbl]; rfl
 have known : knownA X s w Y 0 ziy.heap /\ ndA Y 0 ziy.heap:=by
  subst hY; subst hY0
  refine ⟨⟨kn h0.2.2,⟨hbP,zb8 rfl cel,⟨rfl,rfl⟩,trivial,rfl⟩,⟨hk.C.lt,zb8 rfl (zaz hk.C rfl rfl),trivial,trivial,rfl⟩,kn hk.T.lt,kn h.R.lt,trivial⟩,(nd_ro rfl)⟩
 have f1 : (j : Int) < ((picks.length : Int).toNat : Int):=by omega
 have fin : ∀ (Y2 : Env) (w2 : World) (hh : List HB) (fa : List (B × Bool)) (xs' : List Value),Ext Y Y2 -> Rep X s (ours Y ziy.heap) w Y2 hh fa 0 w2 -> xs'.length = 100 -> Fr.reach Try.prog X Stop s (c :: cs) ⟨[IntKind.i64.wrap (Y2.ints.getD 0 0 + 1),Y2.ints.getD 1 0,Y2.ints.getD 2 0,Y2.ints.getD 3 0,Y2.ints.getD 4 0],[],xs',[],[Y2.blks.getD 0 {},Y2.blks.getD 1 {},Y2.blks.getD 2 {},Y2.blks.getD 3 {},Y2.blks.getD 4 {}],Y2.perms⟩ rw2.frs w2:=by
  intro Y2 w2 hh fa xs' hx2 hr2 hxs'
  have hb2 : Below w.heap.size w w2:=hr2.chg.below (fun k hk=>absurd hk (zah rfl k)) (Nat.le_refl _)
  rw [zae hr2,hx2.ints,hi0,hx2.blk (by omega),hx2.blk (by omega),hx2.blk (by omega),hx2.blk (by omega),hx2.blk (by omega),hbl]
  show Fr.reach _ X Stop s (c :: cs) ⟨[IntKind.i64.wrap ((j : Int) + 1),_,_,_,_],_,_,_,[q0,_,_,_,_],_⟩ _ _
  rw [zbr hj (by omega)]
  exact hnx q q0 _ _ _ _ xs' w2 (h.below hb2) hr2.there ⟨h0.1,h0.2.1,Nat.lt_of_lt_of_le h0.2.2 hb2.size⟩ ⟨rfl,fun _=>rfl,Nat.lt_of_lt_of_le hbP hb2.size⟩ ⟨rfl,rfl,rfl,rfl⟩ ⟨rfl,rfl,rfl,rfl⟩ ⟨rfl,rfl,rfl,rfl⟩ hxs'
 by_cases hneg : pk.1 < 0
 ·have hr : Rep X s (ours Y ziy.heap) w Y ziy.heap ziy.facts 0 w:=Rep.start hth (by rw [<- hY,<- hY0]; intro v hv; cases hv) hlen known.1 known.2 (za5 ⟨by show decide (Y.ints.getD 0 0 < ((Y.ints.getD 3 0).toNat : Int)) = true; rw [hi0]; exact decide_eq_true f1,by show decide ((0 : Int) <= Y.ints.getD 0 0) = true; rw [hi0]; exact decide_eq_true (by show (0 : Int) <= (j : Int); omega),by show decide (Y.ints.getD 5 0 < 0) = true; rw [hi0]; exact decide_eq_true hneg,trivial⟩) (by rw [<- hY,<- hY0]; rfl)
  refine zaa 900 rwF_run hr ⟨fun Y1 w1 hx1 hr1=>?_,trivial⟩
  refine zbh rwF0_head hr1 fun Y2 w2 hx2 hr2=>?_
  exact fin Y2 w2 _ _ _ (hx1.trans hx2) hr2 ((za8 _).trans rfl)
 ·have hr : Rep X s (ours Y ziy.heap) w Y rwG_in.heap rwG_in.facts 0 w:=Rep.start hth (by rw [<- hY,<- hY0]; intro v hv; cases hv) hlen known.1 known.2 (za5 ⟨by show decide (Y.ints.getD 0 0 < ((Y.ints.getD 3 0).toNat : Int)) = true; rw [hi0]; exact decide_eq_true f1,by show decide ((0 : Int) <= Y.ints.getD 0 0) = true; rw [hi0]; exact decide_eq_true (by show (0 : Int) <= (j : Int); omega),by show decide (Y.ints.getD 5 0 < 0) = false; rw [hi0]; exact decide_eq_false hneg,by show decide (Y.ints.getD 5 0 >= Y.ints.getD 9 0) = true; rw [hi0]; exact decide_eq_true (by show pk.1 >= T; omega),trivial⟩) (by rw [<- hY,<- hY0]; rfl)
  refine zaa 900 rwG_run hr ⟨fun Y1 w1 hx1 hr1=>?_,trivial⟩
  refine zbh rwG0_head hr1 fun Y2 w2 hx2 hr2=>?_
  exact fin Y2 w2 _ _ _ (hx1.trans hx2) hr2 ((za8 _).trans rfl)
end
end
end
section
open Go Go.Conc Go.RowKit Jay Pl
open St Sx Rf
section
variable {γ : Type} {X : zad γ} {s : γ} {Stop : γ -> Frame -> List Frame -> World -> Prop} {c : Frame} {cs : List Frame}
variable {W w₁ : World} {k K T Mn : Int} {l : List (List Ac)} {picks : List (Int × Int)} {AL AP : Option Addr} {cL cP gC gT : Nat}
theorem rw_back {j : Nat} (hj : j < picks.length) (hp : picks.length <= 20000) {r : Rw} (hk1 : Rk w₁ k K T Mn l picks AL AP cL cP gC gT) (hnx : Nxt X s Stop c cs w₁ k K T Mn l picks AL AP cL cP gC gT (j + 1) r)
  {q : Q3} {q0 q1 q2 q3 q4 : Seg} {xs : List Value} {w : World} (h : zkd X w₁ s w k K T Mn (R3.of r) q) (hth : X.there s w) (h0 : q0.adr = AL /\ (0 < l.length -> q0.g = (ze4 AL).g) /\ q0.g < w.heap.size) (h1 : q1.adr = AP /\ (0 < picks.length -> q1.g = (ze4 AP).g) /\ q1.g < w.heap.size) (h2 : Whl q2 gC) (h3 : Whl q3 gT) (h4 : Whl q4 q.gR) (hxs : xs.length = 100) :
  Fr.reach Try.prog X Stop s (c :: cs) ⟨[(j : Int),(l.length : Int),(cL : Int),(picks.length : Int),(cP : Int)],[],xs,[],[q0,q1,q2,q3,q4],[]⟩ rwHp.frs w /\ Fr.reach Try.prog X Stop s (c :: cs) ⟨[(j : Int),(l.length : Int),(cL : Int),(picks.length : Int),(cP : Int)],[],xs,[],[q0,q1,q2,q3,q4],[]⟩ rwIp.frs w:=by
 have hml : maxLen = 9223372036854775807:=rfl
 have hk:=hk1.below h.bel
 generalize hY : (⟨[(j : Int),(l.length : Int),(cL : Int),(picks.length : Int),(cP : Int)],[],xs,[],[q0,q1,q2,q3,q4],[]⟩ : Env) = Y
 have hi0 : Y.ints = [(j : Int),(l.length : Int),(cL : Int),(picks.length : Int),(cP : Int)]:=by rw [<- hY]
 have hbl : Y.blks = [q0,q1,q2,q3,q4]:=by rw [<- hY]
 have hlen : Y.blks.length = 5:=by rw [hbl]; rfl
 have l2 : q2.g < w.heap.size:=by rw [h2.1]; exact hk.C.lt
 have l3 : q3.g < w.heap.size:=by rw [h3.1]; exact hk.T.lt
 have l4 : q4.g < w.heap.size:=by rw [h4.1]; exact h.R.lt
 have hr : Rep X s (ours Y zkt.heap) w Y zkt.heap zkt.facts 0 w:=by
  subst hY
  exact Rep.start hth (fun v hv=>by cases hv) rfl ⟨kn h0.2.2,kn h1.2.2,kn l2,kn l3,kn l4,trivial⟩ (nd_ro rfl) (za5 trivial) rfl
 have fin : ∀ (Y2 : Env) (w2 : World) (hh : List HB) (fa : List (B × Bool)) (xs' : List Value),Ext Y Y2 -> Rep X s (ours Y zkt.heap) w Y2 hh fa 0 w2 -> xs'.length = 100 -> Fr.reach Try.prog X Stop s (c :: cs) ⟨[IntKind.i64.wrap (Y2.ints.getD 0 0 + 1),Y2.ints.getD 1 0,Y2.ints.getD 2 0,Y2.ints.getD 3 0,Y2.ints.getD 4 0],[],xs',[],[Y2.blks.getD 0 {},Y2.blks.getD 1 {},Y2.blks.getD 2 {},Y2.blks.getD 3 {},Y2.blks.getD 4 {}],Y2.perms⟩ rw2.frs w2:=by
  intro Y2 w2 hh fa xs' hx2 hr2 hxs'
  have hb2 : Below w.heap.size w w2:=hr2.chg.below (fun k hk=>absurd hk (zah rfl k)) (Nat.le_refl _)
  rw [zae hr2,hx2.ints,hi0,hx2.blk (by omega),hx2.blk (by omega),hx2.blk (by omega),hx2.blk (by omega),hx2.blk (by omega),hbl]
  show Fr.reach _ X Stop s (c :: cs) ⟨[IntKind.i64.wrap ((j : Int) + 1),_,_,_,_],_,_,_,[q0,q1,q2,q3,q4],_⟩ _ _
  rw [zbr hj (by omega)]
  exact hnx q _ _ _ _ _ xs' w2 (h.below hb2) hr2.there ⟨h0.1,h0.2.1,Nat.lt_of_lt_of_le h0.2.2 hb2.size⟩ ⟨h1.1,h1.2.1,Nat.lt_of_lt_of_le h1.2.2 hb2.size⟩ h2 h3 h4 hxs'
 constructor
 ·refine zaa 900 rwHJ_run hr ⟨fun Y1 w1 hx1 hr1=>?_,trivial⟩
  refine zbh rwHJ0_head hr1 fun Y2 w2 hx2 hr2=>?_
  exact fin Y2 w2 _ _ _ (hx1.trans hx2) hr2 ((za8 _).trans rfl)
 ·refine zaa 900 rwIJ_run hr ⟨fun Y1 w1 hx1 hr1=>?_,trivial⟩
  refine zbh rwIJ0_head hr1 fun Y2 w2 hx2 hr2=>?_
  exact fin Y2 w2 _ _ _ (hx1.trans hx2) hr2 ((za8 _).trans rfl)
theorem rw_in (hk1 : Rk w₁ k K T Mn l picks AL AP cL cP gC gT) (hM : IntKind.u64.wrap Mn ≠ 0) (hT : T = (l.length : Int)) (hlong : ∀ xs ∈ l,xs.length <= 1000) {j : Nat} (hj : j < picks.length) (hp : picks.length <= 20000) {r : Rw} (hat : r.at_.length = l.length) (hst : r.steps.length <= j) (ho : 0 <= picks[j].1 /\ picks[j].1 < T)
  (hnx : Nxt X s Stop c cs w₁ k K T Mn l picks AL AP cL cP gC gT (j + 1) (r.pick l picks[j].1)) : Nxt X s Stop c cs w₁ k K T Mn l picks AL AP cL cP gC gT j r:=by
 intro q q0 q1 q2 q3 q4 xs w h hth h0 h1 h2 h3 h4 hxs
 have hk:=hk1.below h.bel
 have hml : maxLen = 9223372036854775807:=rfl
 obtain ⟨bP,oP,cP',eP,hbP,_,_,hatP⟩:=Sl.row hk.P (by omega)
 cases eP
 have cel:=zfp zo2 hatP hj
 obtain ⟨t,ht⟩ : ∃ t : Nat,picks[j].1 = (t : Int):=⟨picks[j].1.toNat,by omega⟩
 have htl : t < l.length:=by omega
 obtain ⟨d,hdr⟩ : ∃ d,picks[j].2 = d:=⟨_,rfl⟩
 have hpkc : pkC picks[j] = [.int .i64 (t : Int),.int .u32 d]:=by unfold pkC; rw [ht,hdr]
 rw [hpkc] at cel
 obtain ⟨bl,ol,cL',eL,hbl,_,_,hatL⟩:=hk.L.at_ (by omega)
 cases eL
 obtain ⟨u,hu,hacs⟩:=hatL t htl
 obtain ⟨At,ct,rfl,_,_⟩:=Sl.form hacs
 have hta : t < r.at_.length:=by omega
 have htl1 : l[t].length <= 1000:=hlong _ (List.getElem_mem htl)
 have hm0 : r.at_[t]? = some (r.at_.getD t 0):=by rw [List.getD_eq_getElem?_getD,List.getElem?_eq_getElem hta]; rfl
 have hav : (nsV r.at_)[t]? = some (.int .i64 ((r.at_.getD t 0 : Nat) : Int)):=by unfold nsV; rw [List.getElem?_map,hm0]; rfl
 have hA:=h.A
 obtain ⟨m,hm⟩ : ∃ m,m = r.at_.getD t 0:=⟨_,rfl⟩
 rw [<- hm] at hav
 obtain ⟨v2,v3,v6,v7,v8,hcE,u2,u3,u6,u7,u8⟩:=h.mem
 have hR:=h.R
 unfold r3V at hR
 rw [hcE] at hR
 have dR:=h.dis q.gR (.inl rfl)
 have dA:=h.dis q.gA (.inr (.inr (.inr (.inl rfl))))
 have hnext : nextA l r picks[j].1 = l[t][m]?:=by
  unfold nextA
  rw [ht,if_neg (by omega),show ((t : Int)).toNat = t from rfl,hm0,List.getElem?_eq_getElem htl,<- hm]
 have h2':=h2
 have h3':=h3
 have h4':=h4
 obtain ⟨g2,b2,o2,pre2,post2,cap2,ad2⟩:=q2
 obtain ⟨rfl,rfl,rfl,rfl⟩ : g2 = _ /\ o2 = _ /\ pre2 = _ /\ post2 = _:=h2
 obtain ⟨g3,b3,o3,pre3,post3,cap3,ad3⟩:=q3
 obtain ⟨rfl,rfl,rfl,rfl⟩ : g3 = _ /\ o3 = _ /\ pre3 = _ /\ post3 = _:=h3
 obtain ⟨g4,b4,o4,pre4,post4,cap4,ad4⟩:=q4
 obtain ⟨rfl,rfl,rfl,rfl⟩ : g4 = _ /\ o4 = _ /\ pre4 = _ /\ post4 = _:=h4
 generalize hY0 : (⟨[(j : Int),(l.length : Int),(cL : Int),(picks.length : Int),(cP : Int)],[],xs,[],[q0,q1,⟨g2,b2,0,[],[],cap2,ad2⟩,⟨g3,b3,0,[],[],cap3,ad3⟩,⟨q.gR,b4,0,[],[],cap4,ad4⟩],[]⟩ : Env) = Y0
 have hl0 : Y0.lens = ⟨5,0,100,0,5⟩:=by rw [<- hY0]; simp [Env.lens,hxs]
 refine zbl (b:=1) (q:=⟨bP,oP,oP + j * 2,[],[],q1.cap,none⟩) (by rw [<- hY0]; exact Nat.succ_lt_succ (Nat.zero_lt_succ _)) (by rw [<- hY0]; exact (h1.2.1 (by omega)).symm) (by rw [<- hY0]; exact h1.1.symm) (by rw [<- hY0]; rfl) (by kernel_rfl) ?_
 refine zbl (b:=0) (q:=⟨bl,ol,ol + t * 1,[],[],q0.cap,none⟩) (by rw [<- hY0]; exact Nat.zero_lt_succ _) (by rw [<- hY0]; exact (h0.2.1 (by omega)).symm) (by rw [<- hY0]; exact h0.1.symm) (by rw [<- hY0]; rfl) (by kernel_rfl) ?_
 have hbl1 : bl < w₁.heap.size:=by
  obtain ⟨b',o',c',e,hb',_⟩:=hk1.L.at_ (by omega)
  cases e
  exact hb'
 have hbP1 : bP < w₁.heap.size:=by
  obtain ⟨b',o',c',e,hb',_⟩:=Sl.row hk1.P (by omega)
  cases e
  exact hb'
 have celR : ∀ i' u',([Value.int .i64 k,.int .i64 K,.int .i64 T,.int .i64 Mn,.int .u64 r.mem.e,.int .u64 r.mem.f,v2,v3,.int .u64 r.mem.h,.int .u64 r.mem.t,v6,v7,v8,.slice (some ⟨q.gO,0,none⟩) r.at_.length q.cO,.slice (some ⟨q.gC,0,none⟩) r.at_.length q.cC,.slice (some ⟨q.gA,0,none⟩) r.at_.length q.cA] : List Value)[i']? = some u' -> w.cell? ⟨q.gR,0 + i',none⟩ = some u':=fun i' u' hu'=>by
  have hj : i' < 16:=(List.getElem?_eq_some_iff.1 hu').1
  refine zaz hR rfl rfl i' u' ?_
  rw [<- hu']
  show ([Value.int .i64 k,.int .i64 K,.int .i64 T,.int .i64 Mn,.int .u64 r.mem.e,.int .u64 r.mem.f,v2,v3,.int .u64 r.mem.h,.int .u64 r.mem.t,v6,v7,v8,.slice (some ⟨q.gO,0,none⟩) r.at_.length q.cO,.slice (some ⟨q.gC,0,none⟩) r.at_.length q.cC,.slice (some ⟨q.gA,0,none⟩) r.at_.length q.cA] ++ _ : List Value)[i']? = _
  exact List.getElem?_append_left hj
 have celT : ∀ i' u',([Value.int .i64 (m : Int)] : List Value)[i']? = some u' -> w.cell? ⟨q.gA,t + i',none⟩ = some u':=fun i' u' hu'=>by
  have hj : i' < 1:=(List.getElem?_eq_some_iff.1 hu').1
  obtain rfl : i' = 0:=by omega
  cases hu'
  rw [Nat.add_zero,hA.cell (i:=t),List.getElem?_toArray]
  show (nsV r.at_ ++ q.pA)[t]? = _
  rw [List.getElem?_append_left (List.getElem?_eq_some_iff.1 hav).1]
  exact hav
 have decT : ∀ {p : Prop} [Decidable p],p -> decide p = true:=fun h=>decide_eq_true h
 have decF : ∀ {p : Prop} [Decidable p],¬ p -> decide p = false:=fun h=>decide_eq_false h
 have f1 : (j : Int) < ((picks.length : Int).toNat : Int):=by omega
 have f2 : (0 : Int) <= (j : Int):=by omega
 have f3 : ¬ (t : Int) < 0:=by omega
 have f4 : ¬ (t : Int) >= T:=by omega
 have f5 : (0 : Int) <= (t : Int):=by omega
 have f6 : (t : Int) < ((r.at_.length : Int).toNat : Int):=by omega
 have f7 : (t : Int) < ((l.length : Int).toNat : Int):=by omega
 by_cases hmore : m < l[t].length
 ·obtain ⟨ba,oa,ca,eA',hba,_,_,hatA⟩:=Sl.row hacs (by omega)
  cases eA'
  have celA:=zfp Ac.len hatA hmore
  have f8 : (m : Int) < ((l[t].length : Int).toNat : Int):=by omega
  have f9 : (0 : Int) <= (m : Int):=by omega
  have hmm : l[t][m]? = some l[t][m]:=List.getElem?_eq_getElem hmore
  generalize l[t][m] = a at hmm celA
  refine zak (L:=⟨5,0,100,0,5⟩) (ai:=[(t : Int),d,k,K,T,Mn,(r.at_.length : Int),(q.cA : Int),(m : Int),(l[t].length : Int),(ct : Int),a.d,a.ar,a.at_,a.old,a.new]) (ab:=[]) (ax:=[]) (ay:=[.int .i64 k,.int .i64 K,.int .i64 T,.int .i64 Mn,.int .u64 r.mem.e,.int .u64 r.mem.f,v2,v3,.int .u64 r.mem.h,.int .u64 r.mem.t,v6,v7,v8,.slice (some ⟨q.gO,0,none⟩) r.at_.length q.cO,.slice (some ⟨q.gC,0,none⟩) r.at_.length q.cC]) (ak:=[⟨q.gA,0,t,[],[],0,none⟩,⟨ba,oa,oa + m * 5,[],[],0,none⟩]) (by rw [<- hl0]; simp [Env.lens,Env.reseg]) (by kernel_rfl) ?_
  generalize hY : Env.grow _ _ _ _ _ _ = Y
  have hi0 : Y.ints = [(j : Int),(l.length : Int),(cL : Int),(picks.length : Int),(cP : Int),(t : Int),d,k,K,T,Mn,(r.at_.length : Int),(q.cA : Int),(m : Int),(l[t].length : Int),(ct : Int),a.d,a.ar,a.at_,a.old,a.new]:=by rw [<- hY,<- hY0]; rfl
  have hblk : Y.blks = [⟨bl,ol,ol + t * 1,[],[],q0.cap,none⟩,⟨bP,oP,oP + j * 2,[],[],q1.cap,none⟩,⟨g2,b2,0,[],[],cap2,ad2⟩,⟨g3,b3,0,[],[],cap3,ad3⟩,⟨q.gR,b4,0,[],[],cap4,ad4⟩,⟨q.gA,0,t,[],[],0,none⟩,⟨ba,oa,oa + m * 5,[],[],0,none⟩]:=by rw [<- hY,<- hY0]; rfl
  have hlen : Y.blks.length = 7:=by rw [hblk]; rfl
  have hr : Rep X s (ours Y rwH_in.heap) w Y rwH_in.heap rwH_in.facts 0 w:=by
   subst hY; subst hY0
   refine Rep.start hth (zb9 ⟨rfl,rfl,rfl,rfl,rfl,rfl,za2 u2,za2 u3,rfl,rfl,za2 u6,za2 u7,za2 u8,rfl,rfl,trivial⟩) rfl ⟨⟨hbl,zb8 rfl ?_,⟨rfl,rfl⟩,trivial,rfl⟩,⟨hbP,zb8 rfl cel,⟨rfl,rfl⟩,trivial,rfl⟩,⟨hk.C.lt,zb8 rfl (zaz hk.C rfl rfl),trivial,trivial,rfl⟩,kn hk.T.lt,⟨dR.2.1,zb8 rfl ?_,trivial,trivial,rfl⟩,⟨dA.2.1,zb8 rfl ?_,⟨?_,rfl⟩,trivial,rfl⟩,⟨hba,zb8 rfl celA,⟨rfl,rfl⟩,trivial,rfl⟩,trivial⟩ (nd_ro rfl) (za5 ⟨decT f1,decT f2,decF f3,decF f4,decT f5,decT f6,decT f7,decT f8,decT f9,trivial⟩) rfl
   ·intro i' u' hu'
    cases i' with
    | zero=>
     cases hu'
     show w.cell? ⟨bl,ol + t * 1 + 0,none⟩ = _
     rw [Nat.mul_one,Nat.add_zero,hu]
     rfl
    | succ i'=>cases hu'
   ·exact celR
   ·exact celT
   ·show t = 0 + (t : Int).toNat * 1
    simp
  refine zaa 900 rwH_run hr ⟨fun Y1 w1 hx1 hr1=>?_,trivial⟩
  have hb1 : Below w.heap.size w w1:=hr1.chg.below (fun k hk=>absurd hk (zah rfl k)) (Nat.le_refl _)
  have hq1:=h.below hb1
  show Fr.reach _ X Stop s (c :: cs) Y1 [rwH_0.frs.headD default] w1
  refine reach_lin rwH_lit rwH_lin rwH_lio ?_
  show Fr.reach _ X Stop s (c :: cs) Y1 [zhv] w1
  have hi1 : Y1.ints = Y.ints:=hx1.ints
  have hk1' : ∀ i,i < 7 -> Y1.blks.getD i {} = Y.blks.getD i {}:=fun i hi=>hx1.blk (by omega)
  have hargs : (za3 Y1 zih).toArray = #[.pointer (some ⟨q.gR,0,none⟩),.int .i64 t,.agg (f99 99 0 a).toArray,.int .i64 0,.int .u32 0,.bool true]:=by
   have e4:=hk1' 4 (by decide)
   rw [hblk] at e4
   rw [hi0] at hi1
   obtain ⟨gi,gb,gx,gy,gk,gp⟩:=Y1
   dsimp only at hi1 e4
   subst hi1
   show #[Value.pointer (some ⟨(gk.getD 4 {}).g,(gk.getD 4 {}).o + 0,none⟩),_,_,_,_,_] = _
   rw [e4]
   rfl
  have hstep:=step_ok (a:=a) hq1 hM hta (by rw [<- hm]; omega) (by omega)
  refine zc7 (fr:=zhv) (callers:=[]) (ht:=rfl) rwH_0_at rwH_0_gd rwH_0_call rwH_0_fresh hr1 (Post:=fun s' res w'=>s' = s /\ res = .back (.bool true) /\ ∃ q',q'.gR = q.gR /\ zkd X w₁ s w' k K T Mn (R3.of (r.does t a)) q') ?_ (fun s' v w2 hp' ht2=>?_) (fun s' ch w' hp' _=>by obtain ⟨_,e,_⟩:=hp'; cases e)
  ·rw [hargs]; exact hstep
  obtain ⟨rfl,ev,q',eq',hq'⟩:=hp'
  cases ev
  refine zdk (sv:=.bool (.lit true)) rfl ?_
  rw [rwH_0_put]
  refine zd8 (a:=⟨[zks],[],[],0⟩) rwHq_fits ?_
  have s1 : (zfd.env Y1).ints = [(j : Int),(l.length : Int),(cL : Int),(picks.length : Int),(cP : Int)]:=by
   show [Y1.ints.getD 0 0,Y1.ints.getD 1 0,Y1.ints.getD 2 0,Y1.ints.getD 3 0,Y1.ints.getD 4 0] = _
   rw [hi1,hi0]
   rfl
  have s2 : (zfd.env Y1).bools = []:=rfl
  have s3 : (zfd.env Y1).xs.length = 100:=(za8 _).trans rfl
  have s4 : (zfd.env Y1).ys = []:=rfl
  have s5 : (zfd.env Y1).blks = [⟨bl,ol,ol + t * 1,[],[],q0.cap,none⟩,⟨bP,oP,oP + j * 2,[],[],q1.cap,none⟩,⟨g2,b2,0,[],[],cap2,ad2⟩,⟨g3,b3,0,[],[],cap3,ad3⟩,⟨q.gR,b4,0,[],[],cap4,ad4⟩]:=by
   show [Y1.blks.getD 0 {},Y1.blks.getD 1 {},Y1.blks.getD 2 {},Y1.blks.getD 3 {},Y1.blks.getD 4 {}] = _
   rw [hk1' 0 (by decide),hk1' 1 (by decide),hk1' 2 (by decide),hk1' 3 (by decide),hk1' 4 (by decide),hblk]
   rfl
  generalize zfd.env Y1 = Ys at s1 s2 s3 s4 s5
  obtain ⟨gi,gb,gx,gy,gk,gp⟩:=Ys
  dsimp only at s1 s2 s3 s4 s5
  subst s1 s2 s4 s5
  refine Dr.zca (frs':=rwHp.frs) (Y':=⟨[(j : Int),(l.length : Int),(cL : Int),(picks.length : Int),(cP : Int)],[],gx,[],[⟨bl,ol,ol + t * 1,[],[],q0.cap,none⟩,⟨bP,oP,oP + j * 2,[],[],q1.cap,none⟩,⟨g2,b2,0,[],[],cap2,ad2⟩,⟨g3,b3,0,[],[],cap3,ad3⟩,⟨q.gR,b4,0,[],[],cap4,ad4⟩],[]⟩) (conv_np (fr':=rwHp.frs.headD default) (fr:=rwHp.frs.headD default) rfl rfl ?_) ?_
  ·exact (zai (l:=[]) (m₀:=gp) 5 (Nat.le_refl _) _ (by kernel_rfl)).symm
  have hsz : w₁.heap.size <= w2.heap.size:=hq'.bel.size
  have hpick : r.pick l picks[j].1 = r.does t a:=by
   unfold Rw.pick
   rw [hnext,hmm]
   rw [ht]
   rfl
  rw [hpick] at hnx
  exact (rw_back hj hp hk1 hnx hq' ht2 (q0:=⟨bl,ol,ol + t * 1,[],[],q0.cap,none⟩) (q1:=⟨bP,oP,oP + j * 2,[],[],q1.cap,none⟩) ⟨rfl,fun _=>rfl,Nat.lt_of_lt_of_le hbl1 hsz⟩ ⟨rfl,fun _=>rfl,Nat.lt_of_lt_of_le hbP1 hsz⟩ ⟨rfl,rfl,rfl,rfl⟩ ⟨rfl,rfl,rfl,rfl⟩ ⟨eq'.symm,rfl,rfl,rfl⟩ s3).1
 ·have f8 : ¬ (m : Int) < ((l[t].length : Int).toNat : Int):=by omega
  refine zak (L:=⟨5,0,100,0,5⟩) (ai:=[(t : Int),d,k,K,T,Mn,(r.at_.length : Int),(q.cA : Int),(m : Int),(l[t].length : Int),(ct : Int)]) (ab:=[]) (ax:=[]) (ay:=[.int .i64 k,.int .i64 K,.int .i64 T,.int .i64 Mn,.int .u64 r.mem.e,.int .u64 r.mem.f,v2,v3,.int .u64 r.mem.h,.int .u64 r.mem.t,v6,v7,v8,.slice (some ⟨q.gO,0,none⟩) r.at_.length q.cO,.slice (some ⟨q.gC,0,none⟩) r.at_.length q.cC]) (ak:=[⟨q.gA,0,t,[],[],0,none⟩,⟨q.gA,0,0,[],[],0,some At⟩]) (by rw [<- hl0]; simp [Env.lens,Env.reseg]) (by kernel_rfl) ?_
  generalize hY : Env.grow _ _ _ _ _ _ = Y
  have hi0 : Y.ints = [(j : Int),(l.length : Int),(cL : Int),(picks.length : Int),(cP : Int),(t : Int),d,k,K,T,Mn,(r.at_.length : Int),(q.cA : Int),(m : Int),(l[t].length : Int),(ct : Int)]:=by rw [<- hY,<- hY0]; rfl
  have hblk : Y.blks = [⟨bl,ol,ol + t * 1,[],[],q0.cap,none⟩,⟨bP,oP,oP + j * 2,[],[],q1.cap,none⟩,⟨g2,b2,0,[],[],cap2,ad2⟩,⟨g3,b3,0,[],[],cap3,ad3⟩,⟨q.gR,b4,0,[],[],cap4,ad4⟩,⟨q.gA,0,t,[],[],0,none⟩,⟨q.gA,0,0,[],[],0,some At⟩]:=by rw [<- hY,<- hY0]; rfl
  have hlen : Y.blks.length = 7:=by rw [hblk]; rfl
  have hr : Rep X s (ours Y rwI_in.heap) w Y rwI_in.heap rwI_in.facts 0 w:=by
   subst hY; subst hY0
   refine Rep.start hth (zb9 ⟨rfl,rfl,rfl,rfl,rfl,rfl,za2 u2,za2 u3,rfl,rfl,za2 u6,za2 u7,za2 u8,rfl,rfl,trivial⟩) rfl ⟨⟨hbl,zb8 rfl ?_,⟨rfl,rfl⟩,trivial,rfl⟩,⟨hbP,zb8 rfl cel,⟨rfl,rfl⟩,trivial,rfl⟩,⟨hk.C.lt,zb8 rfl (zaz hk.C rfl rfl),trivial,trivial,rfl⟩,kn hk.T.lt,⟨dR.2.1,zb8 rfl ?_,trivial,trivial,rfl⟩,⟨dA.2.1,zb8 rfl ?_,⟨?_,rfl⟩,trivial,rfl⟩,kn dA.2.1,trivial⟩ (nd_ro rfl) (za5 ⟨decT f1,decT f2,decF f3,decF f4,decT f5,decT f6,decT f7,decF f8,trivial⟩) rfl
   ·intro i' u' hu'
    cases i' with
    | zero=>
     cases hu'
     show w.cell? ⟨bl,ol + t * 1 + 0,none⟩ = _
     rw [Nat.mul_one,Nat.add_zero,hu]
     rfl
    | succ i'=>cases hu'
   ·exact celR
   ·exact celT
   ·show t = 0 + (t : Int).toNat * 1
    simp
  refine zaa 900 rwI_run hr ⟨fun Y1 w1 hx1 hr1=>?_,trivial⟩
  have hb1 : Below w.heap.size w w1:=hr1.chg.below (fun k hk=>absurd hk (zah rfl k)) (Nat.le_refl _)
  have hq1:=h.below hb1
  show Fr.reach _ X Stop s (c :: cs) Y1 [zhu] w1
  have hi1 : Y1.ints = Y.ints:=hx1.ints
  have hk1' : ∀ i,i < 7 -> Y1.blks.getD i {} = Y.blks.getD i {}:=fun i hi=>hx1.blk (by omega)
  have hargs : (za3 Y1 zig).toArray = #[.pointer (some ⟨q.gR,0,none⟩),.int .i64 t,.agg (f99 0 0 ⟨0,0,0,0,0⟩).toArray,.int .i64 0,.int .u32 0,.bool false]:=by
   have e4:=hk1' 4 (by decide)
   rw [hblk] at e4
   rw [hi0] at hi1
   obtain ⟨gi,gb,gx,gy,gk,gp⟩:=Y1
   dsimp only at hi1 e4
   subst hi1
   show #[Value.pointer (some ⟨(gk.getD 4 {}).g,(gk.getD 4 {}).o + 0,none⟩),_,_,_,_,_] = _
   rw [e4]
   rfl
  have hstep:=step_no hq1 hta
  refine zc7 (fr:=zhu) (callers:=[]) (ht:=rfl) rwI_0_at rwI_0_gd rwI_0_call rwI_0_fresh hr1 (Post:=fun s' res w'=>s' = s /\ res = .back (.bool false) /\ Below w1.heap.size w1 w') ?_ (fun s' v w2 hp' ht2=>?_) (fun s' ch w' hp' _=>by obtain ⟨_,e,_⟩:=hp'; cases e)
  ·rw [hargs]; exact hstep
  obtain ⟨rfl,ev,hb2⟩:=hp'
  cases ev
  have hq':=hq1.below hb2
  have eq' : q.gR = q.gR:=rfl
  refine zdk (sv:=.bool (.lit false)) rfl ?_
  rw [rwI_0_put]
  refine zd8 (a:=⟨[zkr],[],[],0⟩) rwIq_fits ?_
  have s1 : (zfc.env Y1).ints = [(j : Int),(l.length : Int),(cL : Int),(picks.length : Int),(cP : Int)]:=by
   show [Y1.ints.getD 0 0,Y1.ints.getD 1 0,Y1.ints.getD 2 0,Y1.ints.getD 3 0,Y1.ints.getD 4 0] = _
   rw [hi1,hi0]
   rfl
  have s2 : (zfc.env Y1).bools = []:=rfl
  have s3 : (zfc.env Y1).xs.length = 100:=(za8 _).trans rfl
  have s4 : (zfc.env Y1).ys = []:=rfl
  have s5 : (zfc.env Y1).blks = [⟨bl,ol,ol + t * 1,[],[],q0.cap,none⟩,⟨bP,oP,oP + j * 2,[],[],q1.cap,none⟩,⟨g2,b2,0,[],[],cap2,ad2⟩,⟨g3,b3,0,[],[],cap3,ad3⟩,⟨q.gR,b4,0,[],[],cap4,ad4⟩]:=by
   show [Y1.blks.getD 0 {},Y1.blks.getD 1 {},Y1.blks.getD 2 {},Y1.blks.getD 3 {},Y1.blks.getD 4 {}] = _
   rw [hk1' 0 (by decide),hk1' 1 (by decide),hk1' 2 (by decide),hk1' 3 (by decide),hk1' 4 (by decide),hblk]
   rfl
  generalize zfc.env Y1 = Ys at s1 s2 s3 s4 s5
  obtain ⟨gi,gb,gx,gy,gk,gp⟩:=Ys
  dsimp only at s1 s2 s3 s4 s5
  subst s1 s2 s4 s5
  refine Dr.zca (frs':=rwIp.frs) (Y':=⟨[(j : Int),(l.length : Int),(cL : Int),(picks.length : Int),(cP : Int)],[],gx,[],[⟨bl,ol,ol + t * 1,[],[],q0.cap,none⟩,⟨bP,oP,oP + j * 2,[],[],q1.cap,none⟩,⟨g2,b2,0,[],[],cap2,ad2⟩,⟨g3,b3,0,[],[],cap3,ad3⟩,⟨q.gR,b4,0,[],[],cap4,ad4⟩],[]⟩) (conv_np (fr':=rwIp.frs.headD default) (fr:=rwIp.frs.headD default) rfl rfl ?_) ?_
  ·exact (zai (l:=[]) (m₀:=gp) 5 (Nat.le_refl _) _ (by kernel_rfl)).symm
  have hsz : w₁.heap.size <= w2.heap.size:=hq'.bel.size
  have hpick : r.pick l picks[j].1 = r:=by
   unfold Rw.pick
   rw [hnext,List.getElem?_eq_none (Nat.le_of_not_lt hmore)]
  rw [hpick] at hnx
  exact (rw_back hj hp hk1 hnx hq' ht2 (q0:=⟨bl,ol,ol + t * 1,[],[],q0.cap,none⟩) (q1:=⟨bP,oP,oP + j * 2,[],[],q1.cap,none⟩) ⟨rfl,fun _=>rfl,Nat.lt_of_lt_of_le hbl1 hsz⟩ ⟨rfl,fun _=>rfl,Nat.lt_of_lt_of_le hbP1 hsz⟩ ⟨rfl,rfl,rfl,rfl⟩ ⟨rfl,rfl,rfl,rfl⟩ ⟨eq'.symm,rfl,rfl,rfl⟩ s3).2
end
end
section
open Go Go.Conc Go.RowKit Jay Pl
open St Sx Rf
section
variable {γ : Type} {X : zad γ} {s : γ}
theorem pick_len3 (l : List (List Ac)) (r : Rw) (t : Int) : (r.pick l t).at_.length = r.at_.length /\ (r.pick l t).steps.length <= r.steps.length + 1:=by
 unfold Rw.pick
 split
 ·rw [does_len.1,does_len.2]
  exact ⟨rfl,Nat.le_refl _⟩
 ·exact ⟨rfl,Nat.le_succ _⟩
theorem pick_out3 {l : List (List Ac)} {r : Rw} {t : Int} (h : t < 0 \/ (r.at_.length : Int) <= t) : r.pick l t = r:=by
 unfold Rw.pick nextA
 rcases h with h | h
 ·rw [if_pos h]
 ·split
  ·rename_i a e
   split at e
   ·cases e
   ·rw [List.getElem?_eq_none (by omega)] at e
    cases e
  ·rfl
section
variable {Stop : γ -> Frame -> List Frame -> World -> Prop} {c : Frame} {cs : List Frame} {W w₁ : World} {k K T Mn : Int} {l : List (List Ac)} {picks : List (Int × Int)} {AL AP : Option Addr} {cL cP gC gT : Nat}
theorem rw_picks (hk1 : Rk w₁ k K T Mn l picks AL AP cL cP gC gT) (hb1 : Below W.heap.size W w₁) (hgT : ¬ X.oth s gT /\ W.heap.size <= gT) (hM : IntKind.u64.wrap Mn ≠ 0) (hT : T = (l.length : Int)) (hlong : ∀ xs ∈ l,xs.length <= 1000) (hp : picks.length <= 20000) (hok : Okw k K T Mn l picks)
  (hback : ∀ v w',Raw3 X s W k K T Mn l picks s (.back v) w' -> X.there s w' -> Jay.Reach Try.prog X Stop s (c.finish v) cs w') (d : Nat) : ∀ (j : Nat) (r : Rw),picks.length - j = d -> j <= picks.length -> r.at_.length = l.length -> r.steps.length <= j -> r.run l (picks.drop j) = zcf k K T Mn l picks -> Nxt X s Stop c cs w₁ k K T Mn l picks AL AP cL cP gC gT j r:=by
 induction d with
 | zero=>
  intro j r hd hj hat hst hrun q q0 q1 q2 q3 q4 xs w h hth h0 h1 h2 h3 h4 hxs
  have hr : r = zcf k K T Mn l picks:=by
   rw [<- hrun,List.drop_eq_nil_of_le (by omega)]
   rfl
  have hk:=hk1.below h.bel
  have hTR : gT ≠ q.gR:=fun e=>by have:=(h.dis q.gR (.inl rfl)).2.2; have:=hk1.T.lt; omega
  refine rw_end (W:=W) hk h hth hgT.1 hTR hgT.2 (hb1.trans (h.bel.mono hb1.size)) hb1.size hk1.T.lt (h.far gT hk1.T.lt) (fun e=>?_) (fun e=>?_) (by omega) hxs h0.2.2 h1.2.2 h2 h3 h4 (fun v w' a1 a2 a3=>hback v w' ⟨rfl,a1,.inl ⟨hok,?_⟩⟩ a3)
  ·have:=(h.dis gT (.inr (.inr (.inr (.inr (.inl e)))))).2.2; have:=hk1.T.lt; omega
  ·have:=(h.dis gT (.inr (.inr (.inr (.inr (.inr e)))))).2.2; have:=hk1.T.lt; omega
  ·obtain ⟨vS,vC,cE,e,b1,b2,b3,b4⟩:=a2
   rw [hr] at b1 b2 b3 b4
   exact ⟨vS,vC,cE,by rw [e],b1,b2,b3,b4⟩
 | succ d ih=>
  intro j r hd hj hat hst hrun
  have hjl : j < picks.length:=by omega
  rw [List.drop_eq_getElem_cons hjl,run_cons] at hrun
  by_cases ho : picks[j].1 < 0 \/ T <= picks[j].1
  ·rw [pick_out3 (by rw [hat,<- hT]; exact ho)] at hrun
   exact rw_out hk1 hjl hp ho (ih (j + 1) r (by omega) (by omega) hat (by omega) hrun)
  ·have hpl:=pick_len3 l r picks[j].1
   exact rw_in hk1 hM hT hlong hjl hp hat hst (by omega) (ih (j + 1) (r.pick l picks[j].1) (by omega) (by omega) (by rw [hpl.1]; exact hat) (by omega) hrun)
end
def may3 (k K T Mn : Int) (n mx np : Nat) : Bool:=zea k K T Mn && decide ((n : Int) = T) && decide (mx <= 1000) && decide (np <= 20000)
theorem may03 {w : World} {k K T Mn : Int} {n mx np : Nat} {A : Option Addr} {cP : Nat} {q0 : Seg} (h0 : q0.adr = A /\ q0.g < w.heap.size) :
  Jdo Try.prog X 31 #[cfg k K T Mn,.int .i64 n,.int .i64 mx,.slice A np cP] s w (fun s' r w'=>s' = s /\ Below w.heap.size w w' /\ r = .back (.bool (may3 k K T Mn n mx np))):=by
 let Y : Env:={ ints:=[k,K,T,Mn,(n : Int),(mx : Int),(np : Int),(cP : Int)],blks:=[q0] }
 refine zbt (Y:=Y) my_fresh (by rw [<- h0.1]; rfl) fun Stop c cs hth hback _=>?_
 have hr : Rep X s (ours Y myA_in.heap) w Y myA_in.heap myA_in.facts 0 w:=Rep.start hth (fun v hv=>by cases hv) rfl ⟨kn h0.2,trivial⟩ ⟨trivial,trivial⟩ (za5 trivial) rfl
 refine zaa 900 myA_run hr ⟨fun Y1 w1 hx1 hr1=>?_,trivial⟩
 have hb1 : Below w.heap.size w w1:=hr1.chg.below (fun k hk=>absurd hk (zah rfl k)) (Nat.le_refl _)
 show Fr.reach _ X Stop s (c :: cs) Y1 [myA_fr] w1
 have hmay:=rmay (X:=X) (s:=s) (w:=w1) k K T Mn
 refine zc7 (fr:=myA_fr) (callers:=[]) (ht:=rfl) myA_at myA_gd myA_call myA_fresh hr1 (Post:=fun s' r w'=>s' = s /\ Below w1.heap.size w1 w' /\ r = .back (.bool (zea k K T Mn))) ?_ (fun s' v w2 hp ht2=>?_) (fun s' ch w' hp _=>by obtain ⟨_,_,e⟩:=hp; cases e)
 ·rwa [show (za3 Y1 zok).toArray = #[cfg k K T Mn] by
   have e : Y1.ints = Y.ints:=hx1.ints
   obtain ⟨gi,gb,gx,gy,gk,gp⟩:=Y1
   dsimp only at e
   subst e
   rfl]
 obtain ⟨rfl,hb2,ev⟩:=hp
 cases ev
 have hbl1 : Y1.blks.length = 2:=hr1.len
 have hL1 : Y1.lens = ⟨8,0,0,0,2⟩:=by simp only [Env.lens,hx1.ints,hx1.bools,hx1.xs,hx1.ys,hbl1]; rfl
 have hbo : Y1.bools = []:=hx1.bools
 refine zc8 (ai:=[]) (ab:=[zea k K T Mn]) (ax:=[]) (ay:=[]) (.bool (.v 0)) hL1 (by kernel_rfl) ?_ ?_
 ·show Value.bool ((Y1.bools ++ [zea k K T Mn]).getD 0 false) = _
  rw [hbo]
  rfl
 rw [myA_put]
 have hr2:=((hr1.below hb2).grow_ hL1 (by kernel_rfl) rfl [] [zea k K T Mn] [] [] (fun v hv=>by cases hv)).rebase
 have hgi : (Y1.grow [] [zea k K T Mn] [] [] []).ints = [k,K,T,Mn,(n : Int),(mx : Int),(np : Int),(cP : Int)]:=by simp only [Env.grow,List.append_nil]; exact hx1.ints
 have hgb : (Y1.grow [] [zea k K T Mn] [] [] []).bools = [zea k K T Mn]:=by simp only [Env.grow,hbo]; rfl
 have hgk : (Y1.grow [] [zea k K T Mn] [] [] []).blks = Y1.blks:=by simp only [Env.grow,List.append_nil]
 generalize Y1.grow _ _ _ _ _ = Yg at hr2 hgi hgb hgk
 have hb02 : Below w.heap.size w w2:=hb1.trans (hb2.mono hb1.size)
 have hbelow : ∀ w3,Chg (ours Yg myA_0.heap) w2 w3 -> Below w.heap.size w w3:=fun w3 hc=>hb02.trans (hc.below (fun g hg=>by
  obtain ⟨i,x,hx,hw,rfl⟩:=hg
  rw [hgk]
  rcases hr1.inS i x hx hw with h1 | h1
  ·exact absurd h1 (zah rfl _)
  ·exact h1) hb02.size)
 refine zaa 900 myB_run hr2 ⟨fun Y3 w3 hx3 hr3=>?_,fun Y3 w3 hx3 hr3=>?_,fun Y3 w3 hx3 hr3=>?_,fun Y3 w3 hx3 hr3=>?_,trivial⟩
 ·have i3 : Y3.ints = _:=hx3.ints.trans hgi
  have b3 : Y3.bools = _:=hx3.bools.trans hgb
  have g1 : decide (Y3.ints.getD 5 0 <= 1000) = true:=hr3.facts (.cmp .leq (.v 5) (.lit 1000),true) (by simp [myB_0])
  have g2 : (Y3.ints.getD 4 0 == Y3.ints.getD 2 0) = true:=hr3.facts (.cmp .eql (.v 4) (.v 2),true) (by simp [myB_0])
  have g3 : Y3.bools.getD 0 false = true:=hr3.facts (.v 0,true) (by simp [myB_0])
  rw [i3] at g1 g2
  rw [b3] at g3
  refine zbx myB_0_end hr3.rep (hback s' _ w3 ⟨rfl,hbelow w3 hr3.chg,?_⟩ hr3.there)
  show zf9.back (.bool (decide ((((Y3.ints.getD 6 0).toNat : Nat) : Int) <= 20000))) = _
  rw [i3]
  congr 2
  have g1 : (mx : Int) <= 1000:=of_decide_eq_true g1
  have g2 : (n : Int) = T:=eq_of_beq g2
  have g3 : zea k K T Mn = true:=g3
  unfold may3
  rw [g3,decide_eq_true g2,decide_eq_true (show mx <= 1000 by omega)]
  simp only [Bool.true_and]
  show decide (((np : Int).toNat : Int) <= 20000) = _
  simp
  omega
 ·have i3 : Y3.ints = _:=hx3.ints.trans hgi
  have g1 : decide (Y3.ints.getD 5 0 <= 1000) = false:=hr3.facts (.cmp .leq (.v 5) (.lit 1000),false) (by simp [myB_1])
  rw [i3] at g1
  have g1 : ¬ (mx : Int) <= 1000:=of_decide_eq_false g1
  refine zbx myB_1_end hr3.rep (hback s' _ w3 ⟨rfl,hbelow w3 hr3.chg,?_⟩ hr3.there)
  unfold may3
  rw [decide_eq_false (show ¬ mx <= 1000 by omega)]
  simp
  rfl
 ·have i3 : Y3.ints = _:=hx3.ints.trans hgi
  have g2 : (Y3.ints.getD 4 0 == Y3.ints.getD 2 0) = false:=hr3.facts (.cmp .eql (.v 4) (.v 2),false) (by simp [myB_2])
  rw [i3] at g2
  have g2 : ¬ (n : Int) = T:=ne_of_beq_false g2
  refine zbx myB_2_end hr3.rep (hback s' _ w3 ⟨rfl,hbelow w3 hr3.chg,?_⟩ hr3.there)
  unfold may3
  rw [decide_eq_false g2]
  simp
  rfl
 ·have b3 : Y3.bools = _:=hx3.bools.trans hgb
  have g3 : Y3.bools.getD 0 false = false:=hr3.facts (.v 0,false) (by simp [myB_3])
  rw [b3] at g3
  have g3 : zea k K T Mn = false:=g3
  refine zbx myB_3_end hr3.rep (hback s' _ w3 ⟨rfl,hbelow w3 hr3.chg,?_⟩ hr3.there)
  unfold may3
  rw [g3]
  rfl
end
end
section
open Go Go.Conc Go.RowKit Jay Pl
open St Sx Rf
section
variable {γ : Type} {X : zad γ} {s : γ}
def zm1 (l : List (List Ac)) (i mx : Nat) : Prop:=(∀ j (h : j < l.length),j < i -> l[j].length <= mx) /\ (mx = 0 \/ ∃ j, ∃ h : j < l.length,j < i /\ l[j].length = mx)
theorem longest_all {l : List (List Ac)} {mx : Nat} (h : zm1 l l.length mx) : mx <= 1000 ↔ ∀ xs ∈ l,xs.length <= 1000:=by
 constructor
 ·intro hm xs hx
  obtain ⟨j,hj,rfl⟩:=List.getElem_of_mem hx
  exact Nat.le_trans (h.1 j hj hj) hm
 ·intro ha
  rcases h.2 with rfl | ⟨j,hj,_,e⟩
  ·omega
  ·rw [<- e]
   exact ha _ (List.getElem_mem hj)
theorem longest_max {l : List (List Ac)} {i mx : Nat} (h : zm1 l i mx) (hi : i < l.length) : zm1 l (i + 1) (max mx l[i].length):=by
 refine ⟨fun j hj hji=>?_,?_⟩
 ·by_cases e : j = i
  ·subst e; exact Nat.le_max_right _ _
  ·exact Nat.le_trans (h.1 j hj (by omega)) (Nat.le_max_left _ _)
 ·by_cases hle : mx <= l[i].length
  ·refine .inr ⟨i,hi,Nat.lt_succ_self _,?_⟩
   omega
  ·rcases h.2 with rfl | ⟨j,hj,hji,e⟩
   ·omega
   ·exact .inr ⟨j,hj,by omega,by omega⟩
section
variable {Stop : γ -> Frame -> List Frame -> World -> Prop} {c : Frame} {cs : List Frame} {W : World} {k K T Mn : Int} {l : List (List Ac)} {picks : List (Int × Int)} {AL AP : Option Addr} {cL cP gC gT : Nat}
theorem rw_go {w : World} {q : Q3} {xs : List Value} {q0 q1 q2 q3 : Seg} {w₁ : World} (hk1 : Rk w₁ k K T Mn l picks AL AP cL cP gC gT) (hb1 : Below W.heap.size W w₁) (hgT : ¬ X.oth s gT /\ W.heap.size <= gT) (hok : Okw k K T Mn l picks) (h : zkd X w₁ s w k K T Mn (first3 k K T Mn T.toNat) q) (hth : X.there s w)
  (hback : ∀ v w',Raw3 X s W k K T Mn l picks s (.back v) w' -> X.there s w' -> Jay.Reach Try.prog X Stop s (c.finish v) cs w')
  (h0 : q0.adr = AL /\ (0 < l.length -> q0.g = (ze4 AL).g) /\ q0.g < w.heap.size) (h1 : q1.adr = AP /\ (0 < picks.length -> q1.g = (ze4 AP).g) /\ q1.g < w.heap.size) (h2 : Whl q2 gC) (h3 : Whl q3 gT) (hxs : xs.length = 102) (hx : xs.getD 101 undef = .pointer (some ⟨q.gR,0,none⟩)) :
  Fr.reach Try.prog X Stop s (c :: cs) ⟨[0,(l.length : Int),(cL : Int),(picks.length : Int),(cP : Int)],[],xs,[],[q0,q1,q2,q3],[]⟩ znk.frs w:=by
 obtain ⟨hT1,hT2,hT3,hM⟩:=zis hok.1
 have hk:=hk1.below h.bel
 let Y' : Env:=⟨[0,(l.length : Int),(cL : Int),(picks.length : Int),(cP : Int)],[],xs,[],[q0,q1,q2,q3,⟨q.gR,0,0,[],[],0,none⟩],[]⟩
 refine Dr.zca (frs':=zku.frs) (Y':=Y') (zfn (fr':=zku.frs.headD default) (fr:=znk.frs.headD default) rfl rfl rfl ?_) ?_
 ·simp only [Y',zku,znk,List.headD_cons,za3,SV.den]
  rw [hx]
  rfl
 have l2 : q2.g < w.heap.size:=by rw [h2.1]; exact hk.C.lt
 have l3 : q3.g < w.heap.size:=by rw [h3.1]; exact hk.T.lt
 have hr : Rep X s (ours Y' zku.heap) w Y' zku.heap zku.facts 0 w:=Rep.start hth (fun v hv=>by cases hv) rfl ⟨kn h0.2.2,kn h1.2.2,kn l2,kn l3,kn h.R.lt,trivial⟩ ⟨⟨(fun e=>nomatch e),(fun e=>nomatch e),(fun e=>nomatch e),(fun e=>nomatch e),trivial⟩,⟨(fun e=>nomatch e),(fun e=>nomatch e),(fun e=>nomatch e),trivial⟩,⟨(fun e=>nomatch e),(fun e=>nomatch e),trivial⟩,⟨(fun e=>nomatch e),trivial⟩,trivial,trivial⟩ (za5 trivial) rfl
 refine zaa 900 rwE_run hr ⟨fun Y1 w1 hx1 hr1=>?_,trivial⟩
 refine zbh rwE0_head hr1 fun Y2 w2 hx2 hr2=>?_
 have hx12:=hx1.trans hx2
 have hb2 : Below w.heap.size w w2:=hr2.chg.below (fun k hk=>absurd hk (zah rfl k)) (Nat.le_refl _)
 have hpk:=rw_picks hk1 hb1 hgT hM hok.2.1.symm hok.2.2.2 hok.2.2.1 hok hback picks.length 0 (Rw.first l (Rp.firstM k K T Mn)) (Nat.sub_zero _) (Nat.zero_le _) (by simp [Rw.first]) (Nat.zero_le _) rfl
 have hlen : T.toNat = l.length:=by have:=hok.2.1; omega
 have hq : zkd X w₁ s w2 k K T Mn (R3.of (Rw.first l (Rp.firstM k K T Mn))) q:=by
  have:=h.below hb2
  rw [hlen] at this
  exact this
 have s1 : (zel.env Y2).ints = [((0 : Nat) : Int),(l.length : Int),(cL : Int),(picks.length : Int),(cP : Int)]:=by
  show [0,Y2.ints.getD 1 0,Y2.ints.getD 2 0,Y2.ints.getD 3 0,Y2.ints.getD 4 0] = _
  rw [hx12.ints]
  rfl
 have s2 : (zel.env Y2).bools = []:=rfl
 have s3 : (zel.env Y2).xs.length = 100:=(za8 _).trans rfl
 have s4 : (zel.env Y2).ys = []:=rfl
 have s5 : (zel.env Y2).blks = [q0,q1,q2,q3,⟨q.gR,0,0,[],[],0,none⟩]:=by
  show [Y2.blks.getD 0 {},Y2.blks.getD 1 {},Y2.blks.getD 2 {},Y2.blks.getD 3 {},Y2.blks.getD 4 {}] = _
  rw [hx12.blk (show 0 < 5 by decide),hx12.blk (show 1 < 5 by decide),hx12.blk (show 2 < 5 by decide),hx12.blk (show 3 < 5 by decide),hx12.blk (show 4 < 5 by decide)]
  rfl
 have s6 : (zel.env Y2).perms = []:=(show Y2.perms = [] from zae hr2)
 generalize zel.env Y2 = Ys at s1 s2 s3 s4 s5 s6
 obtain ⟨gi,gb,gx,gy,gk,gp⟩:=Ys
 dsimp only at s1 s2 s3 s4 s5 s6
 subst s1 s2 s4 s5 s6
 exact hpk q q0 q1 q2 q3 _ gx w2 hq hr2.there ⟨h0.1,h0.2.1,Nat.lt_of_lt_of_le h0.2.2 hb2.size⟩ ⟨h1.1,h1.2.1,Nat.lt_of_lt_of_le h1.2.2 hb2.size⟩ h2 h3 ⟨rfl,rfl,rfl,rfl⟩ s3
theorem rw_may {w : World} {i mx : Nat} {xs : List Value} {q0 q1 q2 q3 : Seg} (hk : Rk w k K T Mn l picks AL AP cL cP gC gT) (hb : Below W.heap.size W w) (hgT : ¬ X.oth s gT /\ W.heap.size <= gT) (hmx : zm1 l l.length mx) (hi : ¬ i < l.length) (hth : X.there s w)
  (hback : ∀ v w',Raw3 X s W k K T Mn l picks s (.back v) w' -> X.there s w' -> Jay.Reach Try.prog X Stop s (c.finish v) cs w')
  (h0 : q0.adr = AL /\ (0 < l.length -> q0.g = (ze4 AL).g) /\ q0.g < w.heap.size) (h1 : q1.adr = AP /\ (0 < picks.length -> q1.g = (ze4 AP).g) /\ q1.g < w.heap.size) (h2 : Whl q2 gC) (h3 : Whl q3 gT) (hxs : xs.length = 100) :
  Fr.reach Try.prog X Stop s (c :: cs) ⟨[(i : Int),(l.length : Int),(cL : Int),(picks.length : Int),(cP : Int),(mx : Int)],[],xs,[],[q0,q1,q2,q3],[]⟩ rw1.frs w:=by
 have h2':=h2
 have h3':=h3
 obtain ⟨g2,b2,o2,pre2,post2,cap2,ad2⟩:=q2
 obtain ⟨rfl,rfl,rfl,rfl⟩ : g2 = _ /\ o2 = _ /\ pre2 = _ /\ post2 = _:=h2
 obtain ⟨g3,b3,o3,pre3,post3,cap3,ad3⟩:=q3
 obtain ⟨rfl,rfl,rfl,rfl⟩ : g3 = _ /\ o3 = _ /\ pre3 = _ /\ post3 = _:=h3
 refine zak (L:=⟨6,0,100,0,4⟩) (ai:=[k,K,T,Mn]) (ab:=[]) (ax:=[]) (ay:=[]) (ak:=[]) (by simp [Env.lens,hxs]) (by kernel_rfl) ?_
 generalize hY : Env.grow _ _ _ _ _ _ = Y
 have hi0 : Y.ints = [(i : Int),(l.length : Int),(cL : Int),(picks.length : Int),(cP : Int),(mx : Int),k,K,T,Mn]:=by rw [<- hY]; rfl
 have hbl : Y.blks = [q0,q1,⟨g2,b2,0,[],[],cap2,ad2⟩,⟨g3,b3,0,[],[],cap3,ad3⟩]:=by rw [<- hY]; rfl
 have hx0 : Y.xs.length = 100:=by rw [<- hY]; simp [Env.grow,hxs]
 have hbo0 : Y.bools = []:=by rw [<- hY]; rfl
 have hy0 : Y.ys = []:=by rw [<- hY]; rfl
 have hlen : Y.blks.length = 4:=by rw [hbl]; rfl
 have hr : Rep X s (ours Y rwC_in.heap) w Y rwC_in.heap rwC_in.facts 0 w:=by
  subst hY
  refine Rep.start hth (fun v hv=>by cases hv) rfl ⟨kn h0.2.2,kn h1.2.2,⟨hk.C.lt,zb8 rfl (zaz hk.C rfl rfl),trivial,trivial,rfl⟩,kn hk.T.lt,trivial⟩ ⟨⟨(fun e=>nomatch e),(fun e=>nomatch e),(fun e=>nomatch e),trivial⟩,⟨(fun e=>nomatch e),(fun e=>nomatch e),trivial⟩,⟨(fun e=>nomatch e),trivial⟩,trivial,trivial⟩ (za5 ⟨?_,trivial⟩) rfl
  exact decide_eq_false (by show ¬ (i : Int) < ((l.length : Int).toNat : Int); omega)
 refine zaa 900 rwC_run hr ⟨fun Y1 w1 hx1 hr1=>?_,trivial⟩
 have hb1 : Below w.heap.size w w1:=hr1.chg.below (fun k hk=>absurd hk (zah rfl k)) (Nat.le_refl _)
 have hi1 : Y1.ints = [(i : Int),(l.length : Int),(cL : Int),(picks.length : Int),(cP : Int),(mx : Int),k,K,T,Mn]:=hx1.ints.trans hi0
 have hk1 : ∀ j,j < 4 -> Y1.blks.getD j {} = Y.blks.getD j {}:=fun j hj=>hx1.blk (by omega)
 have hbl1 : Y1.blks.length = 4:=hr1.len
 show Fr.reach _ X Stop s (c :: cs) Y1 [rwC_fr] w1
 have hmay:=may03 (X:=X) (s:=s) (w:=w1) (k:=k) (K:=K) (T:=T) (Mn:=Mn) (n:=l.length) (mx:=mx) (np:=picks.length) (A:=AP) (cP:=cP) (q0:=q1) ⟨h1.1,Nat.lt_of_lt_of_le h1.2.2 hb1.size⟩
 refine zc7 (fr:=rwC_fr) (callers:=[]) (ht:=rfl) rwC_at rwC_gd rwC_call rwC_fresh hr1 (Post:=fun s' r w'=>s' = s /\ Below w1.heap.size w1 w' /\ r = .back (.bool (may3 k K T Mn l.length mx picks.length))) ?_ (fun s' v w2 hp ht2=>?_) (fun s' ch w' hp _=>by obtain ⟨_,_,e⟩:=hp; cases e)
 ·rwa [show (za3 Y1 znl).toArray = #[cfg k K T Mn,.int .i64 l.length,.int .i64 mx,.slice AP picks.length cP] by
   have e1:=hk1 1 (by decide)
   rw [hbl] at e1
   obtain ⟨gi,gb,gx,gy,gk,gp⟩:=Y1
   dsimp only at hi1 e1
   subst hi1
   show #[cfg k K T Mn,_,_,Value.slice (gk.getD 1 {}).adr _ _] = _
   rw [e1]
   show #[cfg k K T Mn,_,_,Value.slice q1.adr _ _] = _
   rw [h1.1]
   rfl]
 obtain ⟨rfl,hb2,ev⟩:=hp
 cases ev
 have hbo1 : Y1.bools = []:=hx1.bools.trans hbo0
 have hL1 : Y1.lens = ⟨10,0,100,0,4⟩:=by simp only [Env.lens,hi1,hbo1,hx1.xs,hx1.ys,hx0,hy0,hbl1]; rfl
 generalize hbv : may3 k K T Mn l.length mx picks.length = bv
 refine zc8 (ai:=[]) (ab:=[bv]) (ax:=[]) (ay:=[]) (.bool (.v 0)) hL1 (by kernel_rfl) ?_ ?_
 ·show Value.bool ((Y1.bools ++ [bv]).getD 0 false) = _
  rw [hbo1]
  rfl
 rw [rwC_put]
 have hgi : (Y1.grow [] [bv] [] [] []).ints = [(i : Int),(l.length : Int),(cL : Int),(picks.length : Int),(cP : Int),(mx : Int),k,K,T,Mn]:=by simp only [Env.grow,List.append_nil]; exact hi1
 have hgb : (Y1.grow [] [bv] [] [] []).bools = [bv]:=by simp only [Env.grow,hbo1]; rfl
 have hgx : (Y1.grow [] [bv] [] [] []).xs.length = 100:=by simp only [Env.grow,List.append_nil,hx1.xs]; exact hx0
 have hgy : (Y1.grow [] [bv] [] [] []).ys = []:=by simp only [Env.grow,List.append_nil,hx1.ys]; exact hy0
 have hgk : (Y1.grow [] [bv] [] [] []).blks = Y1.blks:=by simp only [Env.grow,List.append_nil]
 have hgp : (Y1.grow [] [bv] [] [] []).perms = []:=(show Y1.perms = [] from zae hr1)
 generalize Y1.grow _ _ _ _ _ = Yg at hgi hgb hgx hgy hgk hgp
 have hkg : ∀ j,j < 4 -> Yg.blks.getD j {} = Y.blks.getD j {}:=fun j hj=>by rw [hgk,hk1 j hj]
 have e0 : Yg.blks = [q0,q1,⟨g2,b2,0,[],[],cap2,ad2⟩,⟨g3,b3,0,[],[],cap3,ad3⟩]:=by
  have a0:=hkg 0 (by decide)
  have a1:=hkg 1 (by decide)
  have a2:=hkg 2 (by decide)
  have a3:=hkg 3 (by decide)
  have hl : Yg.blks.length = 4:=by rw [hgk]; exact hbl1
  rw [hbl] at a0 a1 a2 a3
  generalize Yg.blks = L at a0 a1 a2 a3 hl
  match L,hl with
  | [x0,x1,x2,x3],_=>
   obtain rfl : x0 = q0:=a0
   obtain rfl : x1 = q1:=a1
   obtain rfl : x2 = ⟨g2,b2,0,[],[],cap2,ad2⟩:=a2
   obtain rfl : x3 = ⟨g3,b3,0,[],[],cap3,ad3⟩:=a3
   rfl
 have hb02 : Below w.heap.size w w2:=hb1.trans (hb2.mono hb1.size)
 have hk2:=hk.below hb02
 have hW2 : Below W.heap.size W w2:=hb.trans (hb02.mono hb.size)
 have hiff : bv = true ↔ Okw k K T Mn l picks:=by
  rw [<- hbv]
  unfold may3 Okw
  simp only [Bool.and_eq_true,decide_eq_true_eq]
  rw [longest_all hmx]
  exact ⟨fun ⟨⟨⟨a,b⟩,c⟩,d⟩=>⟨a,b,d,c⟩,fun ⟨a,b,d,c⟩=>⟨⟨⟨a,b⟩,c⟩,d⟩⟩
 obtain ⟨gi,gb,gx,gy,gk,gp⟩:=Yg
 dsimp only at hgi hgb hgx hgy hgp e0
 subst hgi hgb hgy hgp e0
 cases hbb : bv with
 | false=>
  have hno : ¬ Okw k K T Mn l picks:=fun h=>by rw [hiff.2 h] at hbb; cases hbb
  generalize hY5 : (⟨_,_,gx,_,_,_⟩ : Env) = Y5
  have hb5 : Y5.blks = [q0,q1,⟨g2,b2,0,[],[],cap2,ad2⟩,⟨g3,b3,0,[],[],cap3,ad3⟩]:=by rw [<- hY5]
  have hr5 : Rep X s' (ours Y5 rwN_in.heap) w2 Y5 rwN_in.heap rwN_in.facts 0 w2:=by
   subst hY5
   exact Rep.start ht2 (fun v hv=>by cases hv) rfl ⟨kn (Nat.lt_of_lt_of_le h0.2.2 hb02.size),kn (Nat.lt_of_lt_of_le h1.2.2 hb02.size),kn hk2.C.lt,⟨hk2.T.lt,zcc rfl ⟨hgT.1,rfl,hk2.T⟩,⟨rfl,rfl⟩,trivial,rfl⟩,trivial⟩ ⟨⟨(fun e=>nomatch e),(fun e=>nomatch e),(fun e=>nomatch e),trivial⟩,⟨(fun e=>nomatch e),(fun e=>nomatch e),trivial⟩,⟨(fun e=>nomatch e),trivial⟩,trivial,trivial⟩ (za5 ⟨rfl,trivial⟩) rfl
  refine zaa 900 rwN_run hr5 ⟨fun Y6 w6 hx6 hr6=>?_,trivial⟩
  have hours : ∀ g,ours Y5 rwN_in.heap g -> g = g3:=zbz ⟨(fun e=>nomatch e),(fun e=>nomatch e),(fun e=>nomatch e),fun _=>by rw [hb5]; rfl,trivial⟩
  exact zbx rwN_0_end hr6.rep (hback _ w6 ⟨rfl,hW2.trans (hr6.chg.below (fun g hg=>by rw [hours g hg]; exact hgT.2) hW2.size),.inr ⟨hno,rfl⟩⟩ hr6.there)
 | true=>
  have hok : Okw k K T Mn l picks:=hiff.1 hbb
  obtain ⟨hT1,hT2,hT3,hM⟩:=zis hok.1
  generalize hY5 : (⟨_,_,gx,_,_,_⟩ : Env) = Y5
  have hb5 : Y5.blks = [q0,q1,⟨g2,b2,0,[],[],cap2,ad2⟩,⟨g3,b3,0,[],[],cap3,ad3⟩]:=by rw [<- hY5]
  have hi5 : Y5.ints = [(i : Int),(l.length : Int),(cL : Int),(picks.length : Int),(cP : Int),(mx : Int),k,K,T,Mn]:=by rw [<- hY5]
  have hr5 : Rep X s' (ours Y5 rwD_in.heap) w2 Y5 rwD_in.heap rwD_in.facts 0 w2:=by
   subst hY5
   exact Rep.start ht2 (fun v hv=>by cases hv) rfl ⟨kn (Nat.lt_of_lt_of_le h0.2.2 hb02.size),kn (Nat.lt_of_lt_of_le h1.2.2 hb02.size),⟨hk2.C.lt,zb8 rfl (zaz hk2.C rfl rfl),trivial,trivial,rfl⟩,kn hk2.T.lt,trivial⟩ ⟨⟨(fun e=>nomatch e),(fun e=>nomatch e),(fun e=>nomatch e),trivial⟩,⟨(fun e=>nomatch e),(fun e=>nomatch e),trivial⟩,⟨(fun e=>nomatch e),trivial⟩,trivial,trivial⟩ (za5 ⟨rfl,trivial⟩) rfl
  refine zaa 900 rwD_run hr5 ⟨fun Y6 w6 hx6 hr6=>?_,trivial⟩
  have hb6 : Below w2.heap.size w2 w6:=hr6.chg.below (fun k hk=>absurd hk (zah rfl k)) (Nat.le_refl _)
  have hi6 : Y6.ints = [(i : Int),(l.length : Int),(cL : Int),(picks.length : Int),(cP : Int),(mx : Int),k,K,T,Mn]:=hx6.ints.trans hi5
  have hl6 : Y6.blks.length = 4:=hr6.len
  have hx6l : Y6.xs.length = 100:=by rw [hx6.xs,<- hY5]; exact hgx
  have hk6 : ∀ j,j < 4 -> Y6.blks.getD j {} = Y5.blks.getD j {}:=fun j hj=>hx6.blk (by rw [hb5]; exact hj)
  show Fr.reach _ X Stop s' (c :: cs) Y6 [zhw] w6
  have hnew:=new03 (X:=X) (s:=s') (w:=w6) hok.1
  refine zc7 (fr:=zhw) (callers:=[]) (ht:=rfl) rwD_0_at rwD_0_gd rwD_0_call rwD_0_fresh hr6 (Post:=New3 X s' w6 k K T Mn T.toNat) ?_ (fun s'' v w7 hp7 ht7=>?_) (fun s' ch w' hp _=>by obtain ⟨_,_,e,_⟩:=hp; cases e)
  ·rwa [show (za3 Y6 zii).toArray = #[cfg k K T Mn] by
    obtain ⟨gi,gb,gx,gy,gk,gp⟩:=Y6
    dsimp only at hi6
    subst hi6
    rfl]
  obtain ⟨rfl,q,ev,hq⟩:=hp7
  cases ev
  have hL6 : Y6.lens = ⟨10,1,100,0,4⟩:=by
   have e1 : Y6.bools = [true]:=by rw [hx6.bools,<- hY5]
   have e2 : Y6.ys = []:=by rw [hx6.ys,<- hY5]
   simp only [Env.lens,hi6,e1,e2,hx6l,hl6]
   rfl
  refine zc8 (ai:=[]) (ab:=[]) (ax:=[.pointer (some ⟨q.gR,0,none⟩)]) (ay:=[]) (.x 100) hL6 (by kernel_rfl) ?_ ?_
  ·show (Y6.xs ++ [_]).getD 100 _ = _
   simp [List.getD_eq_getElem?_getD,List.getElem?_append_right,hx6l]
  rw [rwD_0_put]
  refine zd8 (a:=⟨[zkv],[],[],0⟩) rwD_0p_fits ?_
  have z1 : (Y6.grow [] [] [.pointer (some ⟨q.gR,0,none⟩)] [] []).xs.getD 100 undef = .pointer (some ⟨q.gR,0,none⟩):=by
   show (Y6.xs ++ [_]).getD 100 _ = _
   simp [List.getD_eq_getElem?_getD,List.getElem?_append_right,hx6l]
  have z2 : (Y6.grow [] [] [.pointer (some ⟨q.gR,0,none⟩)] [] []).ints = Y6.ints:=by simp only [Env.grow,List.append_nil]
  have z3 : (Y6.grow [] [] [.pointer (some ⟨q.gR,0,none⟩)] [] []).blks = Y6.blks:=by simp only [Env.grow,List.append_nil]
  have z4 : (Y6.grow [] [] [.pointer (some ⟨q.gR,0,none⟩)] [] []).perms = []:=(show Y6.perms = [] from zae hr6)
  generalize Y6.grow _ _ _ _ _ = Y7 at z1 z2 z3 z4
  have s1 : (zcl.env Y7).ints = [0,(l.length : Int),(cL : Int),(picks.length : Int),(cP : Int)]:=by
   show [0,Y7.ints.getD 1 0,Y7.ints.getD 2 0,Y7.ints.getD 3 0,Y7.ints.getD 4 0] = _
   rw [z2,hi6]
   rfl
  have s2 : (zcl.env Y7).bools = []:=rfl
  have s3 : (zcl.env Y7).xs.length = 102:=(za8 _).trans rfl
  have s4 : (zcl.env Y7).ys = []:=rfl
  have s5 : (zcl.env Y7).blks = [q0,q1,⟨g2,b2,0,[],[],cap2,ad2⟩,⟨g3,b3,0,[],[],cap3,ad3⟩]:=by
   show [Y7.blks.getD 0 {},Y7.blks.getD 1 {},Y7.blks.getD 2 {},Y7.blks.getD 3 {}] = _
   rw [z3,hk6 0 (by decide),hk6 1 (by decide),hk6 2 (by decide),hk6 3 (by decide),hb5]
   rfl
  have s6 : (zcl.env Y7).perms = []:=z4
  have s7 : (zcl.env Y7).xs.getD 101 undef = .pointer (some ⟨q.gR,0,none⟩):=by
   show Y7.xs.getD 100 undef = _
   exact z1
  generalize zcl.env Y7 = Ys at s1 s2 s3 s4 s5 s6 s7
  obtain ⟨ki,kb,kx,ky,kk,kp⟩:=Ys
  dsimp only at s1 s2 s3 s4 s5 s6 s7
  subst s1 s2 s4 s5 s6
  have hsz : w.heap.size <= w7.heap.size:=Nat.le_trans hb02.size (Nat.le_trans hb6.size hq.bel.size)
  exact rw_go (hk2.below hb6) (hW2.trans (hb6.mono hW2.size)) hgT hok hq ht7 hback ⟨h0.1,h0.2.1,Nat.lt_of_lt_of_le h0.2.2 hsz⟩ ⟨h1.1,h1.2.1,Nat.lt_of_lt_of_le h1.2.2 hsz⟩ ⟨rfl,rfl,rfl,rfl⟩ ⟨rfl,rfl,rfl,rfl⟩ s3 s7
end
end
end
section
open Go Go.Conc Go.RowKit Jay Pl
open St Sx Rf
section
variable {γ : Type} {X : zad γ} {s : γ}
section
variable {Stop : γ -> Frame -> List Frame -> World -> Prop} {c : Frame} {cs : List Frame} {W : World} {k K T Mn : Int} {l : List (List Ac)} {picks : List (Int × Int)} {AL AP : Option Addr} {cL cP gC gT : Nat}
theorem rw_most (hlm : l.length <= maxLen) (hgT : ¬ X.oth s gT /\ W.heap.size <= gT) (hback : ∀ v w',Raw3 X s W k K T Mn l picks s (.back v) w' -> X.there s w' -> Jay.Reach Try.prog X Stop s (c.finish v) cs w') (d : Nat) :
  ∀ (i mx : Nat) (xs : List Value) (q0 q1 q2 q3 : Seg) (w : World),l.length - i = d -> i <= l.length -> zm1 l i mx -> Rk w k K T Mn l picks AL AP cL cP gC gT -> Below W.heap.size W w -> X.there s w -> (q0.adr = AL /\ (0 < l.length -> q0.g = (ze4 AL).g) /\ q0.g < w.heap.size) -> (q1.adr = AP /\ (0 < picks.length -> q1.g = (ze4 AP).g) /\ q1.g < w.heap.size) -> Whl q2 gC -> Whl q3 gT -> xs.length = 100 ->
   Fr.reach Try.prog X Stop s (c :: cs) ⟨[(i : Int),(l.length : Int),(cL : Int),(picks.length : Int),(cP : Int),(mx : Int)],[],xs,[],[q0,q1,q2,q3],[]⟩ rw1.frs w:=by
 induction d with
 | zero=>
  intro i mx xs q0 q1 q2 q3 w hd hi hmx hk hb hth h0 h1 h2 h3 hxs
  obtain rfl : i = l.length:=by omega
  exact rw_may hk hb hgT hmx (Nat.lt_irrefl _) hth hback h0 h1 h2 h3 hxs
 | succ d ih=>
  intro i mx xs q0 q1 q2 q3 w hd hi hmx hk hb hth h0 h1 h2 h3 hxs
  have hil : i < l.length:=by omega
  have h2':=h2
  have h3':=h3
  obtain ⟨g2,b2,o2,pre2,post2,cap2,ad2⟩:=q2
  obtain ⟨rfl,rfl,rfl,rfl⟩ : g2 = _ /\ o2 = _ /\ pre2 = _ /\ post2 = _:=h2
  obtain ⟨g3,b3,o3,pre3,post3,cap3,ad3⟩:=q3
  obtain ⟨rfl,rfl,rfl,rfl⟩ : g3 = _ /\ o3 = _ /\ pre3 = _ /\ post3 = _:=h3
  obtain ⟨bl,ol,cL',eL,hbl,_,_,hat⟩:=hk.L.at_ (by omega)
  cases eL
  obtain ⟨u,hu,hacs⟩:=hat i hil
  obtain ⟨At,ct,rfl,_,_⟩:=Sl.form hacs
  generalize hY0 : (⟨[(i : Int),(l.length : Int),(cL : Int),(picks.length : Int),(cP : Int),(mx : Int)],[],xs,[],[q0,q1,⟨g2,b2,0,[],[],cap2,ad2⟩,⟨g3,b3,0,[],[],cap3,ad3⟩],[]⟩ : Env) = Y0
  have hl0 : Y0.lens = ⟨6,0,100,0,4⟩:=by rw [<- hY0]; simp [Env.lens,hxs]
  refine zbl (b:=0) (q:=⟨bl,ol,ol + i * 1,[],[],q0.cap,none⟩) (by rw [<- hY0]; exact Nat.zero_lt_succ _) (by rw [<- hY0]; exact (h0.2.1 (by omega)).symm) (by rw [<- hY0]; exact h0.1.symm) (by rw [<- hY0]; rfl) (by kernel_rfl) ?_
  refine zak (L:=⟨6,0,100,0,4⟩) (ai:=[(l[i].length : Int),(ct : Int)]) (ab:=[]) (ax:=[]) (ay:=[]) (ak:=[⟨g2,0,0,[],[],0,some At⟩]) (by rw [<- hl0]; simp [Env.lens,Env.reseg]) (by kernel_rfl) ?_
  generalize hY : Env.grow _ _ _ _ _ _ = Y
  have hi0 : Y.ints = [(i : Int),(l.length : Int),(cL : Int),(picks.length : Int),(cP : Int),(mx : Int),(l[i].length : Int),(ct : Int)]:=by rw [<- hY,<- hY0]; rfl
  have hblk : Y.blks = [⟨bl,ol,ol + i * 1,[],[],q0.cap,none⟩,q1,⟨g2,b2,0,[],[],cap2,ad2⟩,⟨g3,b3,0,[],[],cap3,ad3⟩,⟨g2,0,0,[],[],0,some At⟩]:=by rw [<- hY,<- hY0]; rfl
  have hlen : Y.blks.length = 5:=by rw [hblk]; rfl
  have hr : Rep X s (ours Y rwB_in.heap) w Y rwB_in.heap rwB_in.facts 0 w:=by
   subst hY; subst hY0
   refine Rep.start hth (fun v hv=>by cases hv) rfl ⟨⟨hbl,zb8 rfl ?_,⟨rfl,rfl⟩,trivial,rfl⟩,kn h1.2.2,kn hk.C.lt,kn hk.T.lt,kn hk.C.lt,trivial⟩ (nd_ro rfl) (za5 ⟨?_,?_,trivial⟩) rfl
   ·intro j u' hu'
    cases j with
    | zero=>
     cases hu'
     show w.cell? ⟨bl,ol + i * 1 + 0,none⟩ = _
     rw [Nat.mul_one,Nat.add_zero,hu]
     rfl
    | succ j=>cases hu'
   ·exact decide_eq_true (by show (i : Int) < ((l.length : Int).toNat : Int); omega)
   ·exact decide_eq_true (by show (0 : Int) <= (i : Int); omega)
  have fin : ∀ (mx' : Nat) (Y2 : Env) (w2 : World) (hh : List HB) (fa : List (B × Bool)) (xs' : List Value),mx' = max mx l[i].length -> Ext Y Y2 -> Rep X s (ours Y rwB_in.heap) w Y2 hh fa 0 w2 -> xs'.length = 100 -> Fr.reach Try.prog X Stop s (c :: cs) ⟨[IntKind.i64.wrap (Y2.ints.getD 0 0 + 1),Y2.ints.getD 1 0,Y2.ints.getD 2 0,Y2.ints.getD 3 0,Y2.ints.getD 4 0,(mx' : Int)],[],xs',[],[Y2.blks.getD 0 {},Y2.blks.getD 1 {},Y2.blks.getD 2 {},Y2.blks.getD 3 {}],Y2.perms⟩ rw1.frs w2:=by
   intro mx' Y2 w2 hh fa xs' hm hx2 hr2 hxs'
   have hb2 : Below w.heap.size w w2:=hr2.chg.below (fun k hk=>absurd hk (zah rfl k)) (Nat.le_refl _)
   rw [zae hr2,hx2.ints,hi0,hx2.blk (by omega),hx2.blk (by omega),hx2.blk (by omega),hx2.blk (by omega),hblk]
   show Fr.reach _ X Stop s (c :: cs) ⟨[IntKind.i64.wrap ((i : Int) + 1),_,_,_,_,_],_,_,_,[_,q1,_,_],_⟩ _ _
   rw [zbr hil hlm]
   exact ih (i + 1) mx' xs' _ _ _ _ w2 (by omega) hil (hm ▸ longest_max hmx hil) (hk.below hb2) (hb.trans (hb2.mono hb.size)) hr2.there ⟨rfl,fun _=>rfl,Nat.lt_of_lt_of_le hbl hb2.size⟩ ⟨h1.1,h1.2.1,Nat.lt_of_lt_of_le h1.2.2 hb2.size⟩ ⟨rfl,rfl,rfl,rfl⟩ ⟨rfl,rfl,rfl,rfl⟩ hxs'
  refine zaa 900 rwB_run hr ⟨fun Y1 w1 hx1 hr1=>?_,fun Y1 w1 hx1 hr1=>?_,trivial⟩
  ·refine zbh rwB0_head hr1 fun Y2 w2 hx2 hr2=>?_
   have hg : decide ((((Y1.ints.getD 6 0).toNat : Nat) : Int) > Y1.ints.getD 5 0) = true:=hr1.facts (.cmp .gtr (.tn (.v 6)) (.v 5),true) (by simp [rwB_0])
   rw [hx1.ints,hi0] at hg
   have hg : ((l[i].length : Int).toNat : Int) > (mx : Int):=of_decide_eq_true hg
   have e : ((((Y2.ints.getD 6 0).toNat : Nat) : Int)) = ((l[i].length : Nat) : Int):=by
    rw [(hx1.trans hx2).ints,hi0]
    rfl
   have:=fin l[i].length Y2 w2 _ _ _ (by omega) (hx1.trans hx2) hr2 ((za8 _).trans (show 100 = 100 from rfl) : (rwB0_sub.env Y2).xs.length = 100)
   rw [<- e] at this
   exact this
  ·refine zbh rwB1_head hr1 fun Y2 w2 hx2 hr2=>?_
   have hg : decide ((((Y1.ints.getD 6 0).toNat : Nat) : Int) > Y1.ints.getD 5 0) = false:=hr1.facts (.cmp .gtr (.tn (.v 6)) (.v 5),false) (by simp [rwB_1])
   rw [hx1.ints,hi0] at hg
   have hg : ¬ ((l[i].length : Int).toNat : Int) > (mx : Int):=of_decide_eq_false hg
   have e : Y2.ints.getD 5 0 = ((mx : Nat) : Int):=by
    rw [(hx1.trans hx2).ints,hi0]
    rfl
   have:=fin mx Y2 w2 _ _ _ (by omega) (hx1.trans hx2) hr2 ((za8 _).trans (show 100 = 100 from rfl) : (rwB1_sub.env Y2).xs.length = 100)
   rw [<- e] at this
   exact this
end
theorem raw03 {W : World} {k K T Mn : Int} {l : List (List Ac)} {picks : List (Int × Int)} {AL AP : Option Addr} {cL cP : Nat} (hL : Lls W W.heap.size (.slice AL l.length cL) l) (hP : Sl W W.heap.size 2 (.slice AP picks.length cP) picks.length (picks.flatMap pkC)) (hW : 0 < W.heap.size) (hlm : l.length <= maxLen) :
  Jdo Try.prog X 21 #[cfg k K T Mn,.slice AL l.length cL,.slice AP picks.length cP] s W (Raw3 X s W k K T Mn l picks):=by
 obtain ⟨q0,e0⟩ : ∃ q,q = segP AL l.length:=⟨_,rfl⟩
 obtain ⟨q1,e1⟩ : ∃ q,q = segP AP picks.length:=⟨_,rfl⟩
 have h0 : q0.adr = AL /\ (0 < l.length -> q0.g = (ze4 AL).g) /\ q0.g < W.heap.size:=by
  rw [e0]
  refine ⟨zhs _ _,fun h=>zhr _ h,?_⟩
  obtain ⟨vs,_,h,_⟩:=hL
  exact zkp h hW
 have h1 : q1.adr = AP /\ (0 < picks.length -> q1.g = (ze4 AP).g) /\ q1.g < W.heap.size:=by
  rw [e1]
  exact ⟨zhs _ _,fun h=>zhr _ h,zkp hP hW⟩
 clear e0 e1
 let Y : Env:={ ints:=[k,K,T,Mn,(l.length : Int),(cL : Int),(picks.length : Int),(cP : Int)],blks:=[q0,q1] }
 refine zbt (Y:=Y) rw_fresh (by rw [<- h0.1,<- h1.1]; rfl) fun Stop c cs hth hback _=>?_
 have hr : Rep X s (ours Y rwA_in.heap) W Y rwA_in.heap rwA_in.facts 0 W:=Rep.start hth (fun v hv=>by cases hv) rfl ⟨kn h0.2.2,kn h1.2.2,trivial⟩ (nd_ro rfl) (za5 trivial) rfl
 refine zaa 900 rwA_run hr ⟨fun Y1 w1 hx1 hr1=>?_,trivial⟩
 refine zbh rwA0_head hr1 fun Y2 w2 hx2 hr2=>?_
 have hx12:=hx1.trans hx2
 have hb2 : Below W.heap.size W w2:=hr2.chg.below (fun k hk=>absurd hk (zah rfl k)) (Nat.le_refl _)
 have hi2 : Y2.ints = [k,K,T,Mn,(l.length : Int),(cL : Int),(picks.length : Int),(cP : Int)]:=hx12.ints
 obtain ⟨wC,bC⟩:=zex hr2 2 rfl rfl rfl rfl
 obtain ⟨wT,bT⟩:=zex hr2 3 rfl rfl rfl rfl
 have hk : Rk w2 k K T Mn l picks AL AP cL cP (Y2.blks.getD 2 {}).g (Y2.blks.getD 3 {}).g:=by
  refine ⟨?_,(hP.below hb2).more hb2.size,?_,bT⟩
  ·obtain ⟨vs,a1,a2,a3⟩:=hL.below hb2
   exact ⟨vs,a1,a2.more hb2.size,fun i u hu=>by obtain ⟨xs,b1,b2⟩:=a3 i u hu; exact ⟨xs,b1,Sl.more b2 hb2.size⟩⟩
  ·have h3 : Blk w2 (Y2.blks.getD 2 {}).g 36 #[.int .i64 (Y2.ints.getD 0 0),.int .i64 (Y2.ints.getD 1 0),.int .i64 (Y2.ints.getD 2 0),.int .i64 (Y2.ints.getD 3 0)]:=bC
   rw [hi2] at h3
   exact h3
 have hgT : ¬ X.oth s (Y2.blks.getD 3 {}).g /\ W.heap.size <= (Y2.blks.getD 3 {}).g:=by
  refine ⟨hr2.own 3 _ rfl rfl,?_⟩
  rcases hr2.inS 3 _ rfl rfl with h | h
  ·exact absurd h (zah rfl _)
  ·exact h
 have s1 : (zem.env Y2).ints = [((0 : Nat) : Int),(l.length : Int),(cL : Int),(picks.length : Int),(cP : Int),((0 : Nat) : Int)]:=by
  show [0,Y2.ints.getD 4 0,Y2.ints.getD 5 0,Y2.ints.getD 6 0,Y2.ints.getD 7 0,0] = _
  rw [hi2]
  rfl
 have s2 : (zem.env Y2).bools = []:=rfl
 have s3 : (zem.env Y2).xs.length = 100:=(za8 _).trans rfl
 have s4 : (zem.env Y2).ys = []:=rfl
 have s5 : (zem.env Y2).blks = [q0,q1,Y2.blks.getD 2 {},Y2.blks.getD 3 {}]:=by
  show [Y2.blks.getD 0 {},Y2.blks.getD 1 {},Y2.blks.getD 2 {},Y2.blks.getD 3 {}] = _
  rw [hx12.blk (show 0 < 2 by decide),hx12.blk (show 1 < 2 by decide)]
  rfl
 have s6 : (zem.env Y2).perms = []:=(show Y2.perms = [] from zae hr2)
 generalize zem.env Y2 = Ys at s1 s2 s3 s4 s5 s6
 obtain ⟨ki,kb,kx,ky,kk,kp⟩:=Ys
 dsimp only at s1 s2 s3 s4 s5 s6
 subst s1 s2 s4 s5 s6
 exact rw_most hlm hgT (fun v w' a b=>hback s v w' a b) l.length 0 0 kx q0 q1 _ _ w2 (Nat.sub_zero _) (Nat.zero_le _) ⟨fun _ _ h=>absurd h (Nat.not_lt_zero _),.inl rfl⟩ hk hb2 hr2.there ⟨h0.1,h0.2.1,Nat.lt_of_lt_of_le h0.2.2 hb2.size⟩ ⟨h1.1,h1.2.1,Nat.lt_of_lt_of_le h1.2.2 hb2.size⟩ wC wT s3
end
end
end Go.Proofs.Ytonhfgjofgbcdaa.Dr
