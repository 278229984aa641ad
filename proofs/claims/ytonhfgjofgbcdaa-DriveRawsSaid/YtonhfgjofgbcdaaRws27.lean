/- A part of this claim's proof. -/
import Derived.Test.YtonhfgjofgbcdaaRws11
import Derived.Test.YtonhfgjofgbcdaaRws26
set_option linter.unusedSimpArgs false
set_option linter.unusedVariables false
set_option maxRecDepth 20000
namespace Go.Proofs.Ytonhfgjofgbcdaa.Dr
section
open Go Go.Conc Go.RowKit Jay Pl
open Sx
noncomputable def yda : List SV:=[.tup [.agg [Lu 8,Lu 9,.y 1,.y 2,Lu 10,Lu 11,.y 3,.y 4,.y 5],Li 12]]
noncomputable def ycv : List SV:=yda ++ [.agg [Li 0,Li 1,Li 2,Li 3]] ++ yda ++ [.agg [Lu 8,Lu 9,.y 1,.y 2,Lu 10,Lu 11,.y 3,.y 4,.y 5],Li 12,Li 12,.bool (.cmp .neq (.v 12) (.lit 0)),.bool (.cmp .neq (.v 12) (.lit 0))]
noncomputable def ydd : List SV:=ycv ++ [.sl (.blk 0) (.v 4) (.e (.v 5)),.int .i64 (.tn (.v 4)),.ptr 2 2,Li 2,.bool (.cmp .neq (.tn (.v 4)) (.v 2)),.bool (.cmp .neq (.tn (.v 4)) (.v 2)),.bool (.cmp .neq (.tn (.v 4)) (.v 2))]
noncomputable def ycn : List SV:=ydd ++ [.sl (.blk 1) (.v 6) (.e (.v 7)),.int .i64 (.tn (.v 6)),.bool (.cmp .gtr (.tn (.v 6)) (.lit 20000)),.bool (.cmp .gtr (.tn (.v 6)) (.lit 20000))]
noncomputable def yd4 : List HB:=[⟨61,[],false,none,none,none⟩]
noncomputable def ydo : List HB:=[⟨76,[],false,none,none,none⟩] ++ yd4
noncomputable def ydp : List SV:=[.c (.slice none 0 0),.c (.slice none 0 0)]
noncomputable def ycs : List HB:=[⟨52,ydp ++ [.int .u64 (.lit 0),.int .u64 (.lit 0)] ++ ydp ++ [.int .u64 (.lit 0),.int .u64 (.lit 0)] ++ ydp ++ [.c (.slice none 0 0)],true,none,none,none⟩]
noncomputable def ydb : List HB:=ydo ++ [⟨36,[Li 0,Li 1,Li 2,Li 3],true,none,none,none⟩] ++ ycs
noncomputable def yco : List HB:=ydb ++ [⟨25,[Lu 8,Lu 9,.y 1,.y 2,Lu 10,Lu 11,.y 3,.y 4,.y 5],true,none,none,none⟩]
noncomputable def yd5 : List SV:=[.agg [Li 0,Li 1,Li 2,Li 3],.sl (.blk 0) (.v 4) (.e (.v 5)),.sl (.blk 1) (.v 6) (.e (.v 7)),.y 0]
noncomputable def ycp : List SV:=yd5 ++ [.ptr 2 0] ++ ur 3 ++ [.ptr 3 0]
noncomputable def ycq : List SV:=[.sl (.blk 0) (.v 1) (.e (.v 2)),.int .i64 (.tn (.v 1))]
noncomputable def yd2 : List SV:=[.agg [Lu 8,Lu 9,.y 1,.y 2,Lu 10,Lu 11,.y 3,.y 4,.y 5],.agg [.c (.slice none 0 0),.c (.slice none 0 0),Lu 8,Lu 9,.y 1,.y 2,Lu 10,Lu 11,.y 3,.y 4,.y 5]]
noncomputable def ycr : List SV:=ycp ++ [.int .i64 (.lit 0),.ptr 4 0,Li 12,.ptr 6 0] ++ ur 8 ++ ycn ++ [u,.y 0,.ptr 2 2,Li 2,.sl (.blk 5) (.v 2) (.of 5 8)] ++ yd2 ++ [.agg [.y 0,.sl (.blk 5) (.v 2) (.of 5 8),.c (.slice none 0 0),.c (.slice none 0 0),Lu 8,Lu 9,.y 1,.y 2,Lu 10,Lu 11,.y 3,.y 4,.y 5],.ptr 6 0]
noncomputable def yct : List SV:=[.agg [.c (.slice none 0 0),.c (.slice none 0 0),.int .u64 (.lit 0),.int .u64 (.lit 0),.c (.slice none 0 0),.c (.slice none 0 0),.int .u64 (.lit 0),.int .u64 (.lit 0),.c (.slice none 0 0),.c (.slice none 0 0),.c (.slice none 0 0)]]
noncomputable def ydf : List SV:=[.x 0,.x 1,.sl (.blk 1) (.v 3) (.e (.v 4))] ++ xr 2 5 ++ [.ptr 3 0]
noncomputable def ycu : List Fr:=[⟨29,ydf ++ xr 7 3 ++ [.ptr 2 0] ++ xr 10 36 ++ ycq ++ [Li 0] ++ xr 46 50,[.code (.at_ [0,0,1,0,4]),.inLoop (.at_ [0,0,1,0,4]),.inBlock 0,.code (.at_ [5])]⟩]
noncomputable def ycw : List (B × Bool):=[((.cmp .lss (.v 0) (.tn (.v 1))),true),((.cmp .leq (.lit 0) (.v 0)),true)]
noncomputable def ycx : List HB:=[⟨105,[],false,none,none,none⟩,⟨52,[],false,none,none,none⟩]
noncomputable def yd7 : List SV:=xr 0 8 ++ [.ptr 2 0] ++ xr 8 3 ++ [.ptr 1 0]
noncomputable def ycy : List Fr:=[⟨29,yd7 ++ xr 11 69 ++ ycq ++ [Li 0] ++ xr 80 17,[.code (.at_ [0,0,1,0,6]),.inLoop (.at_ [0,0,1,0,6]),.inBlock 4,.code (.at_ [7])]⟩]
noncomputable def ycz : List HB:=yco ++ [⟨107,[],true,none,some ((.v 2),8,1000),none⟩,⟨105,[.y 0,.sl (.blk 5) (.v 2) (.of 5 8)] ++ ydp ++ [Lu 8,Lu 9,.y 1,.y 2,Lu 10,Lu 11,.y 3,.y 4,.y 5],true,none,none,none⟩]
noncomputable def ydc : List SV:=[.bool (.cmp .lss (.v 0) (.tn (.v 1)))]
noncomputable def yd0 : List SV:=yd7 ++ xr 11 3 ++ [.ptr 3 0] ++ xr 15 52 ++ ycq ++ [Li 0] ++ ydc ++ [.ptr 0 0,.agg [Li 3,.int .u32 (.v 4)],.ptr 1 0,.agg [Li 3,.int .u32 (.v 4)]]
noncomputable def yd1 : List Fr:=[⟨29,yd7 ++ xr 11 56 ++ ycq ++ [Li 0] ++ xr 67 30,[.code (.at_ [0,0,1,0,5]),.inLoop (.at_ [0,0,1,0,5]),.inBlock 2,.code (.at_ [6])]⟩]
noncomputable def yd3 : List SV:=[.y 2,.y 3,.y 4,.y 5,.y 6,.y 7,.y 8,.y 9,.y 10]
noncomputable def ydx : List (B × Bool):=[((.cmp .neq (.tn (.v 4)) (.v 2)),false),((.cmp .neq (.v 12) (.lit 0)),false)]
noncomputable def yd6 : List (B × Bool):=[((.cmp .gtr (.tn (.v 6)) (.lit 20000)),false)] ++ ydx
noncomputable def yd8 : List SV:=[.int .i64 (.ar .add .i64 (.v 0) (.lit 1))]
noncomputable def ydm : List SV:=[.sl (.blk 5) (.v 7) (.e (.v 8))]
noncomputable def ydj : List SV:=[.sl (.blk 4) (.v 5) (.e (.v 6))]
noncomputable def yd9 : List HB:=[⟨76,ydm,false,some ((.v 0),1),none,none⟩] ++ yd4 ++ [⟨105,[.y 0] ++ ydj ++ [.y 1] ++ yd3 ++ [.y 11],false,none,none,none⟩,⟨52,[],false,none,none,none⟩]
noncomputable def yde : List SV:=ycp ++ [.int .i64 (.lit 0)] ++ ur 12 ++ [.agg [Li 0,Li 1,Li 2,Li 3]]
noncomputable def ydg : List HB:=yd4 ++ [⟨105,[.y 0,.sl (.blk 3) (.v 3) (.e (.v 4)),.y 1] ++ yd3 ++ [.y 11],false,none,none,none⟩,⟨52,[],false,none,none,none⟩,⟨107,[],false,none,none,none⟩]
noncomputable def ydh : List SV:=ycp ++ [.int .i64 (.lit 0),.ptr 4 0,Li 12] ++ ur 9 ++ ycn
noncomputable def ydi : List (B × Bool):=[((.cmp .lss (.v 0) (.tn (.v 1))),false)]
noncomputable def ydk : List SV:=[.y 1,.y 2,.y 3,.y 4,.y 5,.y 6]
noncomputable def ydl : List SV:=[.tup [.c .nilIface,.bool (.lit false)],.c .nilIface,.bool (.lit false),.bool (.lit false),.x 90,.x 91] ++ yd8 ++ xr 93 4
noncomputable def ydn : List SV:=yd7 ++ xr 11 5 ++ [.ptr 3 0,.c .nilIface,.bool (.lit false)] ++ xr 19 61 ++ ycq ++ yd8 ++ ydc ++ [.ptr 0 0]
noncomputable def ydq : List HB:=[⟨107,[],false,none,none,none⟩,⟨105,[.y 0,.y 1] ++ yd3 ++ [.y 11,.y 12],false,none,none,none⟩]
noncomputable def ydr : List SV:=ycp ++ [.int .i64 (.lit 1),.ptr 4 0,Li 12] ++ ur 9
noncomputable def yds : List (B × Bool):=[((.cmp .gtr (.tn (.v 7)) (.lit 1000)),false)] ++ ycw ++ [((.cmp .lss (.v 0) (.tn (.v 5))),true)]
noncomputable def ydt : List HB:=[⟨76,ydj,false,some ((.v 0),1),none,none⟩] ++ yd4 ++ [⟨105,[],false,none,none,none⟩]
noncomputable def ydu : List SV:=[.y 13,.y 14,.y 15,.y 16,.y 17,.y 18,.y 19]
noncomputable def ydv : List HB:=[⟨107,[.y 0,.iface 82 (.y 7)] ++ ydk,false,some ((.v 0),8),none,none⟩] ++ ycx
noncomputable def ydw : List HB:=[⟨107,[.y 0,.c .nilIface] ++ ydk,false,some ((.v 0),8),none,none⟩] ++ ycx
noncomputable def ydy : List HB:=[⟨79,[],false,none,none,none⟩]
noncomputable def ydz : List HB:=[⟨61,[Li 3,.int .u32 (.v 4)],false,some ((.v 0),2),none,none⟩] ++ ycx
noncomputable def rn_args : List SV:=yd5
noncomputable def rn_fr : Fr:=⟨29,yd5 ++ ur 98,[.code (.at_ [])]⟩
theorem rn_fresh : fresh Try.prog 29 rn_args = some rn_fr:=by kernel_rfl
noncomputable def rnA_in : St:=⟨[⟨29,yd5 ++ ur 98,[.code (.at_ [])]⟩],ydo,[],0⟩
noncomputable def rnA_0 : St:=⟨[⟨29,yde ++ ur 79,[.inRegion [0,1] [1,2,3,4,5,6,7],.code (.at_ [2])]⟩],ydb,[],0⟩
theorem rnA_run : run Try.prog [] [13,41] true 900 rnA_in = [rnA_0]:=by kernel_rfl
noncomputable def rnA_op : Oper:=(za1 Try.prog 29 [0,1]).getD 1 default
theorem rnA_at : (za1 Try.prog 29 [0,1])[1]? = some rnA_op:=by kernel_rfl
noncomputable def rnA_fr : Fr:=⟨29,yde ++ ur 79,[.inRegion [0,1] [1,2,3,4,5,6,7],.code (.at_ [2])]⟩
theorem rnA_gd : guardOf rnA_0.facts (za1 Try.prog 29 [0,1]) rnA_fr.tmps rnA_op = .yes:=by kernel_rfl
noncomputable def znu : List SV:=[.agg [Li 0,Li 1,Li 2,Li 3]]
theorem rnA_call : zc1 Try.prog rnA_fr.tmps rnA_op.op = some (13,znu):=by kernel_rfl
theorem rnA_fresh : (fresh Try.prog 13 znu).isSome = true:=by kernel_rfl
noncomputable def rnA_frb : Fr:=⟨29,yde ++ yda ++ ur 78,[.inRegion [0,1] [2,3,4,5,6,7],.code (.at_ [2])]⟩
theorem rnA_put : Fr.put rnA_fr rnA_op.dst (.tup [.agg [.int .u64 (.v 8),.int .u64 (.v 9),.y 1,.y 2,.int .u64 (.v 10),.int .u64 (.v 11),.y 3,.y 4,.y 5],.int .i64 (.v 12)]) ([.inRegion [0,1] [2,3,4,5,6,7],.code (.at_ [2])]) = rnA_frb:=by kernel_rfl
noncomputable def rnB_in : St:=⟨[⟨29,yde ++ yda ++ ur 78,[.inRegion [0,1] [2,3,4,5,6,7],.code (.at_ [2])]⟩],ydb,[],0⟩
noncomputable def rnB_0 : St:=⟨[⟨29,ydr ++ ycv ++ ur 5 ++ [.bool (.lit true),.bool (.lit true)] ++ ur 3 ++ [.bool (.lit true)] ++ yct ++ ur 61,[.code (.at_ [1,0,1,0,2]),.code (.at_ [3])]⟩],yco,[((.cmp .neq (.v 12) (.lit 0)),true)],0⟩
theorem rnB_0_end : zc6 Try.prog rnB_0 = some (.tup [.agg [.c (.slice none 0 0),.c (.slice none 0 0),.int .u64 (.lit 0),.int .u64 (.lit 0),.c (.slice none 0 0),.c (.slice none 0 0),.int .u64 (.lit 0),.int .u64 (.lit 0),.c (.slice none 0 0),.c (.slice none 0 0),.c (.slice none 0 0)],.int .i64 (.lit 1)]):=by kernel_rfl
noncomputable def rnB_1 : St:=⟨[⟨29,ydr ++ ydd ++ ur 3 ++ [.bool (.lit true)] ++ yct ++ ur 61,[.code (.at_ [1,0,1,0,2]),.code (.at_ [3])]⟩],yco,[((.cmp .neq (.tn (.v 4)) (.v 2)),true),((.cmp .neq (.v 12) (.lit 0)),false)],0⟩
theorem rnB_1_end : zc6 Try.prog rnB_1 = some (.tup [.agg [.c (.slice none 0 0),.c (.slice none 0 0),.int .u64 (.lit 0),.int .u64 (.lit 0),.c (.slice none 0 0),.c (.slice none 0 0),.int .u64 (.lit 0),.int .u64 (.lit 0),.c (.slice none 0 0),.c (.slice none 0 0),.c (.slice none 0 0)],.int .i64 (.lit 1)]):=by kernel_rfl
noncomputable def rnB_2 : St:=⟨[⟨29,ydr ++ ycn ++ yct ++ ur 61,[.code (.at_ [1,0,1,0,2]),.code (.at_ [3])]⟩],yco,[((.cmp .gtr (.tn (.v 6)) (.lit 20000)),true)] ++ ydx,0⟩
theorem rnB_2_end : zc6 Try.prog rnB_2 = some (.tup [.agg [.c (.slice none 0 0),.c (.slice none 0 0),.int .u64 (.lit 0),.int .u64 (.lit 0),.c (.slice none 0 0),.c (.slice none 0 0),.int .u64 (.lit 0),.int .u64 (.lit 0),.c (.slice none 0 0),.c (.slice none 0 0),.c (.slice none 0 0)],.int .i64 (.lit 1)]):=by kernel_rfl
noncomputable def zm6 : St:=⟨[⟨29,ydh ++ ur 62,[.code (.at_ [0,3]),.code (.at_ [4])]⟩],yco,yd6,0⟩
theorem rnB_run : run Try.prog [] [13,41] true 900 rnB_in = [rnB_0,rnB_1,rnB_2,zm6]:=by kernel_rfl
noncomputable def rnC_p : List Nat:=[0,3]
noncomputable def rnC_ord : List Nat:=[0,1,2,4,5,3,6,7,8]
noncomputable def rnC_kd (j : Nat) : Nat:=if [3].contains j then 1 else zh0 [] (za1 Try.prog 29 [0,3]) j
theorem rnC_code : zbo Try.prog 29 [0,3] = some (.region 4 (za1 Try.prog 29 [0,3]) true):=by kernel_rfl
theorem rnC_ok : zbk Try.prog (za1 Try.prog 29 rnC_p) (zc0 (za1 Try.prog 29 rnC_p)) rnC_kd rnC_ord = true:=by kernel_rfl
theorem rnC_mk : mksOk [3] (za1 Try.prog 29 rnC_p) = true:=by kernel_rfl
noncomputable def rnC1_ti : List SV:=ydh ++ ur 62
noncomputable def rnC1_hi : List HB:=yco
noncomputable def znt : List SV:=ydh ++ [u,.y 0,.ptr 2 2,Li 2,u] ++ yd2 ++ ur 55
noncomputable def rnC1_ho : List HB:=yco
theorem rnC1_grp : zd7 Try.prog (run Try.prog [] [] true 900) zm6.facts 0 (za1 Try.prog 29 [0,3]) rnC_kd (fun i=>i == 3) zm6.frs.tail [0,1,2,4,5,3,6,7,8] rnC1_ti rnC1_hi = .halt [3,6,7,8] znt rnC1_ho:=by kernel_rfl
noncomputable def rnC_op : Oper:=(za1 Try.prog 29 [0,3]).getD 3 default
theorem rnC_at : (za1 Try.prog 29 [0,3])[3]? = some rnC_op:=by kernel_rfl
theorem rnC_kdi : rnC_kd 3 = 1:=by kernel_rfl
theorem rnC_gd : guardOf zm6.facts (za1 Try.prog 29 [0,3]) znt rnC_op = .yes:=by kernel_rfl
theorem rnC_smk : smk znt rnC_op.op = some (103,.int .i64 (.v 2),.int .i64 (.v 2)):=by kernel_rfl
theorem rnC_info : zj8 Try.prog 103 = some (107,8,88,[(.slice none 0 0),.nilIface,(.int .i64 0),(.int .i64 0),(.int .i64 0),(.int .u64 0),(.int .u64 0),(.int .i64 0)]):=by kernel_rfl
noncomputable def rnC2_ti : List SV:=ydh ++ [u,.y 0,.ptr 2 2,Li 2,.sl (.blk 5) (.v 2) (.of 5 8)] ++ yd2 ++ ur 55
noncomputable def rnC2_hi : List HB:=yco ++ [⟨107,[],true,none,some ((.v 2),8,1000),none⟩]
noncomputable def rnC2_to : List SV:=ycr ++ ur 53
noncomputable def rnC2_ho : List HB:=ycz
theorem rnC2_grp : zd7 Try.prog (run Try.prog [] [] true 900) zm6.facts 0 (za1 Try.prog 29 [0,3]) rnC_kd (fun _=>false) zm6.frs.tail [6,7,8] rnC2_ti rnC2_hi = .done rnC2_to rnC2_ho:=by kernel_rfl
theorem rnC_set : zgp znt rnC_op.dst (.sl (.blk 5) (.v 2) (.of 5 8)) = rnC2_ti:=by kernel_rfl
noncomputable def rnD_in : St:=⟨[⟨29,ycr ++ ur 53,[.code (.at_ [4])]⟩],ycz,yd6,0⟩
noncomputable def rnD_0 : St:=⟨[⟨29,ycr ++ [.sl (.blk 0) (.v 4) (.e (.v 5)),.int .i64 (.tn (.v 4)),.int .i64 (.lit 0)] ++ ur 50,[.code (.at_ [0,1,0,4]),.inBlock 0,.code (.at_ [5])]⟩],ycz,yd6,0⟩
theorem rnD_run : run Try.prog [] [13,41] true 900 rnD_in = [rnD_0]:=by kernel_rfl
noncomputable def rn1 : St:=⟨ycu,[],[],0⟩
noncomputable def rnE_sub : Sub:=⟨[(.lit 0),(.v 4),(.v 5),(.v 6),(.v 7)],[],[.agg [.int .i64 (.v 0),.int .i64 (.v 1),.int .i64 (.v 2),.int .i64 (.v 3)],.sl (.blk 0) (.v 4) (.e (.v 5)),.y 0,.ptr 2 0,u,u,u,.int .i64 (.lit 0),.ptr 4 0,.int .i64 (.v 12),u,u,u,u,u,u,u,u,.tup [.agg [.int .u64 (.v 8),.int .u64 (.v 9),.y 1,.y 2,.int .u64 (.v 10),.int .u64 (.v 11),.y 3,.y 4,.y 5],.int .i64 (.v 12)],.agg [.int .i64 (.v 0),.int .i64 (.v 1),.int .i64 (.v 2),.int .i64 (.v 3)],.tup [.agg [.int .u64 (.v 8),.int .u64 (.v 9),.y 1,.y 2,.int .u64 (.v 10),.int .u64 (.v 11),.y 3,.y 4,.y 5],.int .i64 (.v 12)],.agg [.int .u64 (.v 8),.int .u64 (.v 9),.y 1,.y 2,.int .u64 (.v 10),.int .u64 (.v 11),.y 3,.y 4,.y 5],.int .i64 (.v 12),.int .i64 (.v 12),.bool (.cmp .neq (.v 12) (.lit 0)),.bool (.cmp .neq (.v 12) (.lit 0)),.sl (.blk 0) (.v 4) (.e (.v 5)),.int .i64 (.tn (.v 4)),.ptr 2 2,.int .i64 (.v 2),.bool (.cmp .neq (.tn (.v 4)) (.v 2)),.bool (.cmp .neq (.tn (.v 4)) (.v 2)),.bool (.cmp .neq (.tn (.v 4)) (.v 2)),.sl (.blk 1) (.v 6) (.e (.v 7)),.int .i64 (.tn (.v 6)),.bool (.cmp .gtr (.tn (.v 6)) (.lit 20000)),.bool (.cmp .gtr (.tn (.v 6)) (.lit 20000)),u,.y 0,.ptr 2 2,.int .i64 (.v 2),.sl (.blk 5) (.v 2) (.of 5 8),.agg [.int .u64 (.v 8),.int .u64 (.v 9),.y 1,.y 2,.int .u64 (.v 10),.int .u64 (.v 11),.y 3,.y 4,.y 5],.agg [.c (.slice none 0 0),.c (.slice none 0 0),.int .u64 (.v 8),.int .u64 (.v 9),.y 1,.y 2,.int .u64 (.v 10),.int .u64 (.v 11),.y 3,.y 4,.y 5],.agg [.y 0,.sl (.blk 5) (.v 2) (.of 5 8),.c (.slice none 0 0),.c (.slice none 0 0),.int .u64 (.v 8),.int .u64 (.v 9),.y 1,.y 2,.int .u64 (.v 10),.int .u64 (.v 11),.y 3,.y 4,.y 5],.ptr 6 0,u,u,u,u,u,u,u,u,u,u,u,u,u,u,u,u,u,u,u,u,u,u,u,u,u,u,u,u,u,u,u,u,u,u,u,u,u,u,u,u,u,u,u,u,u,u,u,u,u,u],[],[0,1,6,3]⟩
theorem rnE_head : zda Try.prog rnE_sub rnD_0 rn1:=⟨by kernel_rfl,by kernel_rfl⟩
noncomputable def rnF_in : St:=⟨ycu,yd9 ++ [⟨107,[.y 12] ++ ydu,true,some ((.v 0),8),none,none⟩] ++ ydy,yds,0⟩
noncomputable def rnF_0 : St:=⟨[⟨29,ydf ++ xr 7 3 ++ [.ptr 2 0,Li 0] ++ ydm ++ xr 12 34 ++ ycq ++ yd8 ++ ydc ++ [Li 0,.ptr 0 0] ++ ydm ++ ydm ++ [.int .i64 (.tn (.v 7)),.bool (.cmp .gtr (.tn (.v 7)) (.lit 1000)),.x 53,.ptr 2 0,.ptr 2 0,.ptr 2 1] ++ ydj ++ [Li 0] ++ ydm ++ [.ptr 4 0,.ptr 4 0] ++ yd8 ++ xr 63 33,[.inLoop (.at_ [0,0,1,0,4]),.inBlock 0,.code (.at_ [5])]⟩],yd9 ++ [⟨107,ydm ++ ydu,true,some ((.v 0),8),none,none⟩] ++ ydy,yds,0⟩
theorem rnF_run : run Try.prog [] [13,41] true 900 rnF_in = [rnF_0]:=by kernel_rfl
noncomputable def rnF0_sub : Sub:=⟨[(.ar .add .i64 (.v 0) (.lit 1)),(.v 1),(.v 2),(.v 3),(.v 4)],[],[.x 0,.x 1,.x 2,.x 3,.x 4,.x 5,.x 6,.x 7,.x 8,.x 9,.int .i64 (.v 0),.sl (.blk 5) (.v 7) (.e (.v 8)),.x 12,.x 13,.x 14,.x 15,.x 16,.x 17,.x 18,.x 19,.x 20,.x 21,.x 22,.x 23,.x 24,.x 25,.x 26,.x 27,.x 28,.x 29,.x 30,.x 31,.x 32,.x 33,.x 34,.x 35,.x 36,.x 37,.x 38,.x 39,.x 40,.x 41,.x 42,.x 43,.x 44,.x 45,.bool (.cmp .lss (.v 0) (.tn (.v 1))),.int .i64 (.v 0),.ptr 0 0,.sl (.blk 5) (.v 7) (.e (.v 8)),.sl (.blk 5) (.v 7) (.e (.v 8)),.int .i64 (.tn (.v 7)),.bool (.cmp .gtr (.tn (.v 7)) (.lit 1000)),.x 53,.ptr 2 0,.ptr 2 0,.ptr 2 1,.sl (.blk 4) (.v 5) (.e (.v 6)),.int .i64 (.v 0),.sl (.blk 5) (.v 7) (.e (.v 8)),.ptr 4 0,.ptr 4 0,.int .i64 (.ar .add .i64 (.v 0) (.lit 1)),.x 63,.x 64,.x 65,.x 66,.x 67,.x 68,.x 69,.x 70,.x 71,.x 72,.x 73,.x 74,.x 75,.x 76,.x 77,.x 78,.x 79,.x 80,.x 81,.x 82,.x 83,.x 84,.x 85,.x 86,.x 87,.x 88,.x 89,.x 90,.x 91,.x 92,.x 93,.x 94,.x 95],[],[0,1,2,3]⟩
theorem rnF0_head : zda Try.prog rnF0_sub rnF_0 rn1:=⟨by kernel_rfl,by kernel_rfl⟩
noncomputable def rnG_in : St:=⟨ycu,ydt ++ [⟨52,[.y 0,.y 1] ++ yd3,true,none,none,none⟩] ++ ydy,[((.cmp .gtr (.tn (.v 5)) (.lit 1000)),true)] ++ ycw,0⟩
noncomputable def rnG_0 : St:=⟨[⟨29,ydf ++ [.int .i64 (.lit 1),.x 8,.x 9,.ptr 2 0,Li 0] ++ ydj ++ xr 12 34 ++ ycq ++ [Li 0] ++ ydc ++ [Li 0,.ptr 0 0] ++ ydj ++ ydj ++ [.int .i64 (.tn (.v 5)),.bool (.cmp .gtr (.tn (.v 5)) (.lit 1000))] ++ yct ++ xr 54 42,[.code (.at_ [1,0,1,0,1,0,0,2,0,0,1,0,4]),.code (.at_ [2,0,0,2,0,0,1,0,4]),.inBlock 1,.code (.at_ [3,0,0,1,0,4]),.inLoop (.at_ [0,0,1,0,4]),.inBlock 0,.code (.at_ [5])]⟩],ydt ++ ycs ++ ydy,[((.cmp .gtr (.tn (.v 5)) (.lit 1000)),true)] ++ ycw,0⟩
theorem rnG_0_end : zc6 Try.prog rnG_0 = some (.tup [.agg [.c (.slice none 0 0),.c (.slice none 0 0),.int .u64 (.lit 0),.int .u64 (.lit 0),.c (.slice none 0 0),.c (.slice none 0 0),.int .u64 (.lit 0),.int .u64 (.lit 0),.c (.slice none 0 0),.c (.slice none 0 0),.c (.slice none 0 0)],.int .i64 (.lit 1)]):=by kernel_rfl
theorem rnG_run : run Try.prog [] [13,41] true 900 rnG_in = [rnG_0]:=by kernel_rfl
noncomputable def rnH_in : St:=⟨ycu,ydo ++ ycx,ydi,0⟩
noncomputable def rnH_0 : St:=⟨[⟨29,ydf ++ xr 7 3 ++ [.ptr 2 0] ++ xr 10 36 ++ ycq ++ [Li 0] ++ ydc ++ xr 47 16 ++ [.sl (.blk 1) (.v 3) (.e (.v 4)),.int .i64 (.tn (.v 3)),.int .i64 (.lit 0)] ++ xr 66 30,[.code (.at_ [0,1,0,5]),.inBlock 2,.code (.at_ [6])]⟩],ydo ++ ycx,ydi,0⟩
theorem rnH_run : run Try.prog [] [13,41] true 900 rnH_in = [rnH_0]:=by kernel_rfl
noncomputable def rn2 : St:=⟨yd1,[],[],0⟩
noncomputable def rnI_sub : Sub:=⟨[(.lit 0),(.v 3),(.v 4)],[],[.x 0,.x 1,.sl (.blk 1) (.v 3) (.e (.v 4)),.x 2,.x 3,.x 4,.x 5,.x 6,.x 7,.x 8,.x 9,.x 10,.x 11,.x 12,.x 13,.x 14,.x 15,.x 16,.x 17,.x 18,.x 19,.x 20,.x 21,.x 22,.x 23,.x 24,.x 25,.x 26,.x 27,.x 28,.x 29,.x 30,.x 31,.x 32,.x 33,.x 34,.x 35,.x 36,.x 37,.x 38,.x 39,.x 40,.x 41,.x 42,.x 43,.x 44,.x 45,.sl (.blk 0) (.v 1) (.e (.v 2)),.int .i64 (.tn (.v 1)),.int .i64 (.v 0),.bool (.cmp .lss (.v 0) (.tn (.v 1))),.x 47,.x 48,.x 49,.x 50,.x 51,.x 52,.x 53,.x 54,.x 55,.x 56,.x 57,.x 58,.x 59,.x 60,.x 61,.x 62,.x 66,.x 67,.x 68,.x 69,.x 70,.x 71,.x 72,.x 73,.x 74,.x 75,.x 76,.x 77,.x 78,.x 79,.x 80,.x 81,.x 82,.x 83,.x 84,.x 85,.x 86,.x 87,.x 88,.x 89,.x 90,.x 91,.x 92,.x 93,.x 94,.x 95],[],[1,2,3]⟩
theorem rnI_head : zda Try.prog rnI_sub rnH_0 rn2:=⟨by kernel_rfl,by kernel_rfl⟩
noncomputable def rnJ_in : St:=⟨yd1,ydz,ycw,0⟩
noncomputable def rnJ_0 : St:=⟨[⟨29,yd0 ++ xr 72 25,[.inRegion [1,0,0,2,0,0,1,0,5] [2],.inBlock 3,.code (.at_ [3,0,0,1,0,5]),.inLoop (.at_ [0,0,1,0,5]),.inBlock 2,.code (.at_ [6])]⟩],ydz ++ [⟨61,[Li 3,.int .u32 (.v 4)],true,none,none,none⟩],ycw,0⟩
theorem rnJ_run : run Try.prog [] [13,41] true 900 rnJ_in = [rnJ_0]:=by kernel_rfl
noncomputable def rnJ_op : Oper:=(za1 Try.prog 29 [1,0,0,2,0,0,1,0,5]).getD 2 default
theorem rnJ_at : (za1 Try.prog 29 [1,0,0,2,0,0,1,0,5])[2]? = some rnJ_op:=by kernel_rfl
noncomputable def rnJ_fr : Fr:=⟨29,yd0 ++ xr 72 25,[.inRegion [1,0,0,2,0,0,1,0,5] [2],.inBlock 3,.code (.at_ [3,0,0,1,0,5]),.inLoop (.at_ [0,0,1,0,5]),.inBlock 2,.code (.at_ [6])]⟩
theorem rnJ_gd : guardOf rnJ_0.facts (za1 Try.prog 29 [1,0,0,2,0,0,1,0,5]) rnJ_fr.tmps rnJ_op = .yes:=by kernel_rfl
noncomputable def zns : List SV:=[.ptr 1 0,.agg [Li 3,.int .u32 (.v 4)]]
theorem rnJ_call : zc1 Try.prog rnJ_fr.tmps rnJ_op.op = some (41,zns):=by kernel_rfl
theorem rnJ_fresh : (fresh Try.prog 41 zns).isSome = true:=by kernel_rfl
noncomputable def rnJ_frb : Fr:=⟨29,yd0 ++ [.tup []] ++ xr 73 24,[.inRegion [1,0,0,2,0,0,1,0,5] [],.inBlock 3,.code (.at_ [3,0,0,1,0,5]),.inLoop (.at_ [0,0,1,0,5]),.inBlock 2,.code (.at_ [6])]⟩
theorem rnJ_put : Fr.put rnJ_fr rnJ_op.dst (.tup []) ([.inRegion [1,0,0,2,0,0,1,0,5] [],.inBlock 3,.code (.at_ [3,0,0,1,0,5]),.inLoop (.at_ [0,0,1,0,5]),.inBlock 2,.code (.at_ [6])]) = rnJ_frb:=by kernel_rfl
noncomputable def rnK_in : St:=⟨[⟨29,yd7 ++ xr 11 56 ++ ycq ++ [Li 0] ++ xr 67 30,[.inRegion [1,0,0,2,0,0,1,0,5] [],.inBlock 3,.code (.at_ [3,0,0,1,0,5]),.inLoop (.at_ [0,0,1,0,5]),.inBlock 2,.code (.at_ [6])]⟩],yd4 ++ ycx,[],0⟩
noncomputable def rnK_0 : St:=⟨[⟨29,yd7 ++ xr 11 56 ++ ycq ++ yd8 ++ xr 67 6 ++ yd8 ++ xr 74 23,[.inLoop (.at_ [0,0,1,0,5]),.inBlock 2,.code (.at_ [6])]⟩],yd4 ++ ycx,[],0⟩
theorem rnK_run : run Try.prog [] [13,41] true 900 rnK_in = [rnK_0]:=by kernel_rfl
noncomputable def zgr : Sub:=⟨[(.v 0),(.v 1),(.v 2)],[],[.x 0,.x 1,.x 2,.x 3,.x 4,.x 5,.x 6,.x 7,.x 8,.x 9,.x 10,.x 11,.x 12,.x 13,.ptr 3 0,.x 15,.x 16,.x 17,.x 18,.x 19,.x 20,.x 21,.x 22,.x 23,.x 24,.x 25,.x 26,.x 27,.x 28,.x 29,.x 30,.x 31,.x 32,.x 33,.x 34,.x 35,.x 36,.x 37,.x 38,.x 39,.x 40,.x 41,.x 42,.x 43,.x 44,.x 45,.x 46,.x 47,.x 48,.x 49,.x 50,.x 51,.x 52,.x 53,.x 54,.x 55,.x 56,.x 57,.x 58,.x 59,.x 60,.x 61,.x 62,.x 63,.x 64,.x 65,.x 66,.bool (.cmp .lss (.v 0) (.tn (.v 1))),.ptr 0 0,.agg [.int .i64 (.v 3),.int .u32 (.v 4)],.ptr 1 0,.agg [.int .i64 (.v 3),.int .u32 (.v 4)],.tup [],.x 73,.x 74,.x 75,.x 76,.x 77,.x 78,.x 79,.x 80,.x 81,.x 82,.x 83,.x 84,.x 85,.x 86,.x 87,.x 88,.x 89,.x 90,.x 91,.x 92,.x 93,.x 94,.x 95,.x 96],[],[0,1,2]⟩
theorem rnJp_fits : zfy zgr ⟨[rnJ_frb],[],[],0⟩ rnK_in:=⟨by kernel_rfl,by kernel_rfl⟩
noncomputable def rnK0_sub : Sub:=⟨[(.ar .add .i64 (.v 0) (.lit 1)),(.v 1),(.v 2)],[],[.x 0,.x 1,.x 2,.x 3,.x 4,.x 5,.x 6,.x 7,.x 8,.x 9,.x 10,.x 11,.x 12,.x 13,.x 14,.x 15,.x 16,.x 17,.x 18,.x 19,.x 20,.x 21,.x 22,.x 23,.x 24,.x 25,.x 26,.x 27,.x 28,.x 29,.x 30,.x 31,.x 32,.x 33,.x 34,.x 35,.x 36,.x 37,.x 38,.x 39,.x 40,.x 41,.x 42,.x 43,.x 44,.x 45,.x 46,.x 47,.x 48,.x 49,.x 50,.x 51,.x 52,.x 53,.x 54,.x 55,.x 56,.x 57,.x 58,.x 59,.x 60,.x 61,.x 62,.x 63,.x 64,.x 65,.x 66,.x 67,.x 68,.x 69,.x 70,.x 71,.x 72,.int .i64 (.ar .add .i64 (.v 0) (.lit 1)),.x 74,.x 75,.x 76,.x 77,.x 78,.x 79,.x 80,.x 81,.x 82,.x 83,.x 84,.x 85,.x 86,.x 87,.x 88,.x 89,.x 90,.x 91,.x 92,.x 93,.x 94,.x 95,.x 96],[],[0,1,2]⟩
theorem rnK0_head : zda Try.prog rnK0_sub rnK_0 rn2:=⟨by kernel_rfl,by kernel_rfl⟩
noncomputable def rnL_in : St:=⟨yd1,ydg,ydi,0⟩
noncomputable def rnL_0 : St:=⟨[⟨29,yd7 ++ xr 11 56 ++ ycq ++ [Li 0] ++ ydc ++ xr 68 6 ++ [.ptr 1 0,.ptr 1 0,.ptr 1 1,.sl (.blk 3) (.v 3) (.e (.v 4)),.int .i64 (.tn (.v 3)),.int .i64 (.lit 0)] ++ xr 80 17,[.code (.at_ [0,1,0,6]),.inBlock 4,.code (.at_ [7])]⟩],ydg,ydi,0⟩
theorem rnL_run : run Try.prog [] [13,41] true 900 rnL_in = [rnL_0]:=by kernel_rfl
noncomputable def rn3 : St:=⟨ycy,[],[],0⟩
noncomputable def rnL0_sub : Sub:=⟨[(.lit 0),(.v 3),(.v 4)],[],[.x 0,.x 1,.x 2,.x 3,.x 4,.x 5,.x 6,.x 7,.x 8,.x 9,.x 10,.x 11,.x 12,.x 13,.x 14,.x 15,.x 16,.x 17,.x 18,.x 19,.x 20,.x 21,.x 22,.x 23,.x 24,.x 25,.x 26,.x 27,.x 28,.x 29,.x 30,.x 31,.x 32,.x 33,.x 34,.x 35,.x 36,.x 37,.x 38,.x 39,.x 40,.x 41,.x 42,.x 43,.x 44,.x 45,.x 46,.x 47,.x 48,.x 49,.x 50,.x 51,.x 52,.x 53,.x 54,.x 55,.x 56,.x 57,.x 58,.x 59,.x 60,.x 61,.x 62,.x 63,.x 64,.x 65,.x 66,.sl (.blk 0) (.v 1) (.e (.v 2)),.int .i64 (.tn (.v 1)),.int .i64 (.v 0),.bool (.cmp .lss (.v 0) (.tn (.v 1))),.x 68,.x 69,.x 70,.x 71,.x 72,.x 73,.ptr 1 0,.ptr 1 0,.ptr 1 1,.x 80,.x 81,.x 82,.x 83,.x 84,.x 85,.x 86,.x 87,.x 88,.x 89,.x 90,.x 91,.x 92,.x 93,.x 94,.x 95,.x 96],[],[3,1,2]⟩
theorem rnL0_head : zda Try.prog rnL0_sub rnL_0 rn3:=⟨by kernel_rfl,by kernel_rfl⟩
noncomputable def rnM_in : St:=⟨ycy,ydw,ycw,0⟩
noncomputable def rnM_0 : St:=⟨[⟨29,ydn ++ [.agg [.y 0,.c .nilIface,.y 1,.y 2,.y 3,.y 4,.y 5,.y 6],.tup [.c .nilIface,.bool (.lit false)],.ptr 3 1,.c .nilIface] ++ ydl,[.inLoop (.at_ [0,0,1,0,6]),.inBlock 4,.code (.at_ [7])]⟩],ydw ++ [⟨107,[.y 0,.c .nilIface] ++ ydk,true,none,none,none⟩],ycw,0⟩
theorem rnM_run : run Try.prog [] [13,41] true 900 rnM_in = [rnM_0]:=by kernel_rfl
noncomputable def rnM0_sub : Sub:=⟨[(.ar .add .i64 (.v 0) (.lit 1)),(.v 1),(.v 2)],[],[.x 0,.x 1,.x 2,.x 3,.x 4,.x 5,.x 6,.x 7,.x 8,.x 9,.x 10,.x 11,.x 12,.x 13,.x 14,.x 15,.ptr 3 0,.c .nilIface,.bool (.lit false),.x 19,.x 20,.x 21,.x 22,.x 23,.x 24,.x 25,.x 26,.x 27,.x 28,.x 29,.x 30,.x 31,.x 32,.x 33,.x 34,.x 35,.x 36,.x 37,.x 38,.x 39,.x 40,.x 41,.x 42,.x 43,.x 44,.x 45,.x 46,.x 47,.x 48,.x 49,.x 50,.x 51,.x 52,.x 53,.x 54,.x 55,.x 56,.x 57,.x 58,.x 59,.x 60,.x 61,.x 62,.x 63,.x 64,.x 65,.x 66,.x 67,.x 68,.x 69,.x 70,.x 71,.x 72,.x 73,.x 74,.x 75,.x 76,.x 77,.x 78,.x 79,.bool (.cmp .lss (.v 0) (.tn (.v 1))),.ptr 0 0,.agg [.y 0,.c .nilIface,.y 1,.y 2,.y 3,.y 4,.y 5,.y 6],.tup [.c .nilIface,.bool (.lit false)],.ptr 3 1,.c .nilIface,.tup [.c .nilIface,.bool (.lit false)],.c .nilIface,.bool (.lit false),.bool (.lit false),.x 90,.x 91,.int .i64 (.ar .add .i64 (.v 0) (.lit 1)),.x 93,.x 94,.x 95,.x 96],[],[0,1,2]⟩
theorem rnM0_head : zda Try.prog rnM0_sub rnM_0 rn3:=⟨by kernel_rfl,by kernel_rfl⟩
noncomputable def rnN_in : St:=⟨ycy,ydv,ycw,0⟩
noncomputable def rnN_0 : St:=⟨[⟨29,ydn ++ [.agg [.y 0,.iface 82 (.y 7),.y 1,.y 2,.y 3,.y 4,.y 5,.y 6],.tup [.c .nilIface,.bool (.lit false)],.ptr 3 1,.iface 82 (.y 7)] ++ ydl,[.inLoop (.at_ [0,0,1,0,6]),.inBlock 4,.code (.at_ [7])]⟩],ydv ++ [⟨107,[.y 0,.iface 82 (.y 7)] ++ ydk,true,none,none,none⟩],ycw,0⟩
theorem rnN_run : run Try.prog [] [13,41] true 900 rnN_in = [rnN_0]:=by kernel_rfl
noncomputable def rnN0_sub : Sub:=⟨[(.ar .add .i64 (.v 0) (.lit 1)),(.v 1),(.v 2)],[],[.x 0,.x 1,.x 2,.x 3,.x 4,.x 5,.x 6,.x 7,.x 8,.x 9,.x 10,.x 11,.x 12,.x 13,.x 14,.x 15,.ptr 3 0,.c .nilIface,.bool (.lit false),.x 19,.x 20,.x 21,.x 22,.x 23,.x 24,.x 25,.x 26,.x 27,.x 28,.x 29,.x 30,.x 31,.x 32,.x 33,.x 34,.x 35,.x 36,.x 37,.x 38,.x 39,.x 40,.x 41,.x 42,.x 43,.x 44,.x 45,.x 46,.x 47,.x 48,.x 49,.x 50,.x 51,.x 52,.x 53,.x 54,.x 55,.x 56,.x 57,.x 58,.x 59,.x 60,.x 61,.x 62,.x 63,.x 64,.x 65,.x 66,.x 67,.x 68,.x 69,.x 70,.x 71,.x 72,.x 73,.x 74,.x 75,.x 76,.x 77,.x 78,.x 79,.bool (.cmp .lss (.v 0) (.tn (.v 1))),.ptr 0 0,.agg [.y 0,.iface 82 (.y 7),.y 1,.y 2,.y 3,.y 4,.y 5,.y 6],.tup [.c .nilIface,.bool (.lit false)],.ptr 3 1,.iface 82 (.y 7),.tup [.c .nilIface,.bool (.lit false)],.c .nilIface,.bool (.lit false),.bool (.lit false),.x 90,.x 91,.int .i64 (.ar .add .i64 (.v 0) (.lit 1)),.x 93,.x 94,.x 95,.x 96],[],[0,1,2]⟩
theorem rnN0_head : zda Try.prog rnN0_sub rnN_0 rn3:=⟨by kernel_rfl,by kernel_rfl⟩
noncomputable def rnO_in : St:=⟨ycy,ydq ++ [⟨52,ydu ++ [.y 20,.y 21,.y 22,.y 23],true,none,none,none⟩],ydi,0⟩
noncomputable def rnO_0 : St:=⟨[⟨29,xr 0 8 ++ [.ptr 2 0,.int .i64 (.lit 0),.x 9,.x 10,.ptr 1 0] ++ xr 11 69 ++ ycq ++ [Li 0] ++ ydc ++ xr 81 12 ++ [.ptr 1 0,.ptr 1 0,.ptr 1 2,.agg [.y 2,.y 3,.y 4,.y 5,.y 6,.y 7,.y 8,.y 9,.y 10,.y 11,.y 12]],[.code (.at_ [8])]⟩],ydq ++ [⟨52,yd3 ++ [.y 11,.y 12],true,none,none,none⟩],ydi,0⟩
theorem rnO_0_end : zc6 Try.prog rnO_0 = some (.tup [.agg [.y 2,.y 3,.y 4,.y 5,.y 6,.y 7,.y 8,.y 9,.y 10,.y 11,.y 12],.int .i64 (.lit 0)]):=by kernel_rfl
theorem rnO_run : run Try.prog [] [13,41] true 900 rnO_in = [rnO_0]:=by kernel_rfl
end
section
open Go Go.Conc Go.RowKit Jay Pl
open St Sx
def zTr : List Value:=[.slice none 0 0,.slice none 0 0,.int .u64 0,.int .u64 0,.slice none 0 0,.slice none 0 0,.int .u64 0,.int .u64 0,.slice none 0 0,.slice none 0 0,.slice none 0 0]
def outV (p : Ph) : Value:=.tuple #[.agg (#[p.vS,p.vC] ++ p.cE),.int .i64 0]
def badV : Value:=.tuple #[.agg zTr.toArray,.int .i64 1]
def Whl (q : Seg) (g : Nat) : Prop:=q.g = g /\ q.o = 0 /\ q.pre = [] /\ q.post = []
structure Hd (Y : Env) (ints : List Int) (nx : Nat) (blks : List Seg) : Prop where
 ints : Y.ints = ints
 bools : Y.bools = []
 xs : Y.xs.length = nx
 ys : Y.ys = []
 blks : Y.blks = blks
 perms : Y.perms = []
theorem Hd.of {Y : Env} {ints : List Int} {nx : Nat} {blks : List Seg} (h : Hd Y ints nx blks) : ∃ xs,xs.length = nx /\ Y = ⟨ints,[],xs,[],blks,[]⟩:=by
 obtain ⟨a,b,c,d,e,f⟩:=Y
 obtain ⟨h1,h2,h3,h4,h5,h6⟩:=h
 dsimp only at h1 h2 h3 h4 h5 h6
 subst h1 h2 h4 h5 h6
 exact ⟨c,h3,rfl⟩
theorem zbr {i n : Nat} (h : i < n) (hn : n <= maxLen) : IntKind.i64.wrap ((i : Int) + 1) = ((i + 1 : Nat) : Int):=by
 have hm : maxLen = 9223372036854775807:=rfl
 simp [IntKind.wrap,IntKind.bits,IntKind.signed]
 omega
theorem zae {γ : Type} {X : zad γ} {s : γ} {S : Nat -> Prop} {w₀ w : World} {Y : Env} {h : List HB} {facts : List (B × Bool)} (hr : Rep X s S w₀ Y h facts 0 w) : Y.perms = []:=List.eq_nil_of_length_eq_zero hr.np
section
variable {γ : Type} {X : zad γ} {s : γ} {w : World} {M : Type} {Z : Fam X M} {Stop : γ -> Frame -> List Frame -> World -> Prop} {c : Frame} {cs : List Frame}
theorem zcx {t : TypeId} {size n : Nat} {v : Value} {xs : List Value} (h : w.ownsRow 0 t size v n xs) : v.oneCell' = true:=by obtain ⟨A,c,e,_⟩:=Sl.form (Sl.of_own h); rw [e]; rfl
theorem za2 {v : Value} {B : Nat} {xs : List Int} (h : Us w B v xs) : v.oneCell' = true:=by obtain ⟨A,c,rfl,_⟩:=Sl.form h; rfl
theorem kept_ne {g : Nat} {t : TypeId} {arr : Array Value} {s₀ : γ} {w₀ : World} {F : Nat -> Prop} {R : Rr M} {p : Ph} (h : ze3 (Z.with_ g t arr) s₀ w₀ s F w R p) : g ≠ p.gR /\ g ≠ p.gT /\ p.vS.ownBlock ≠ some g /\ p.vC.ownBlock ≠ some g:=by
 obtain ⟨F1,hI,hF,hb,hng,ho⟩:=h.side.i
 have hg : F g:=(hF g).2 (.inr rfl)
 exact ⟨fun e=>(h.side.dis _ (.inl rfl)).1 (e ▸ hg),fun e=>(h.side.dis _ (.inr (.inl rfl))).1 (e ▸ hg),fun e=>(h.side.dis g (.inr (.inr (.inl e)))).1 hg,fun e=>(h.side.dis g (.inr (.inr (.inr (.inl e))))).1 hg⟩
theorem at3end {s₀ : γ} {w₀ : World} {F : Nat -> Prop} {R : Rr M} {p : Ph} {g : Nat} {Y : Env} {i len cap : Int} {q0 q1 q2 : Seg} (h : ze3 (Z.with_ g 52 zTr.toArray) s₀ w₀ s F w R p) (hth : X.there s w) (hd : Hd Y [i,len,cap] 97 [q0,q1,q2]) (hq0 : q0.g < w.heap.size) (h1 : Whl q1 p.gR) (h2 : Whl q2 g) (hlt : ¬ i < (len.toNat : Int))
  (hback : ∀ F' w' p',p'.vS = p.vS -> p'.vC = p.vC -> p'.cE = p.cE -> ze3 Z s₀ w₀ s F' w' R p' -> X.there s w' -> Jay.Reach Try.prog X Stop s (c.finish (outV p)) cs w') : Fr.reach Try.prog X Stop s (c :: cs) Y rn3.frs w:=by
 obtain ⟨xs,hxs,rfl⟩:=hd.of
 obtain ⟨g1,b1,o1,pre1,post1,cap1,ad1⟩:=q1
 obtain ⟨g2,b2,o2,pre2,post2,cap2,ad2⟩:=q2
 obtain ⟨rfl,rfl,rfl,rfl⟩ : g1 = _ /\ o1 = _ /\ pre1 = _ /\ post1 = _:=h1
 obtain ⟨rfl,rfl,rfl,rfl⟩ : g2 = _ /\ o2 = _ /\ pre2 = _ /\ post2 = _:=h2
 have hne:=kept_ne h
 obtain ⟨F1,hf,hb⟩:=h.free
 obtain ⟨v2,v3,v6,v7,v8,hcE,u2,u3,u6,u7,u8⟩:=h.side.mem
 have hcR:=h.core.r
 rw [hcE] at hcR
 have dG:=hf.side.dis g2 (.inr (.inr (.inr (.inr (List.mem_cons_self ..)))))
 refine zak (L:=⟨3,0,97,0,3⟩) (ai:=[]) (ab:=[]) (ax:=[]) (ay:=[fbV Z,.slice (some ⟨p.gT,0,none⟩) R.ths.length p.tcap,p.vS,p.vC,.int .u64 R.mem.e,.int .u64 R.mem.f,v2,v3,.int .u64 R.mem.h,.int .u64 R.mem.t,v6,v7,v8] ++ zTr) (ak:=[]) (by simp [Env.lens,hxs]) (by kernel_rfl) ?_
 generalize hY : Env.grow _ _ _ _ _ _ = Y
 have hys : Y.ys = [fbV Z,.slice (some ⟨p.gT,0,none⟩) R.ths.length p.tcap,p.vS,p.vC,.int .u64 R.mem.e,.int .u64 R.mem.f,v2,v3,.int .u64 R.mem.h,.int .u64 R.mem.t,v6,v7,v8] ++ zTr:=by rw [<- hY]; rfl
 have hr : Rep X s (ours Y rnO_in.heap) w Y rnO_in.heap rnO_in.facts 0 w:=by
  refine Rep.start hth ?_ (by rw [<- hY]; rfl) ⟨kn ?_,⟨?_,zb8 rfl ?_,trivial,trivial,rfl⟩,⟨?_,zcc rfl ⟨?_,?_,?_⟩,?_,trivial,rfl⟩,trivial⟩ ⟨⟨(fun e=>nomatch e),(fun e=>nomatch e),trivial⟩,⟨(fun _=>?_),trivial⟩,trivial,trivial⟩ (za5 ⟨?_,trivial⟩) (by rw [<- hY]; rfl)
  ·rw [hys]
   exact zb9 ⟨rfl,rfl,zcx h.core.s,zcx h.core.c,rfl,rfl,za2 u2,za2 u3,rfl,rfl,za2 u6,za2 u7,za2 u8,rfl,rfl,rfl,rfl,rfl,rfl,rfl,rfl,rfl,rfl,rfl,trivial⟩
  all_goals subst hY
  ·exact hq0
  ·exact (h.side.dis _ (.inl rfl)).2.2.1
  ·exact zaz hcR rfl rfl
  ·exact dG.2.2.1
  ·exact dG.2.1
  ·rfl
  ·exact hb
  ·exact ⟨rfl,rfl⟩
  ·exact hne.1.symm
  ·exact decide_eq_false hlt
 refine zaa 900 rnO_run hr ⟨fun Y' w' hx hr'=>?_,trivial⟩
 refine zbx (v:=_) rnO_0_end hr'.rep ?_
 have hch : Chg (fun k=>k = g2) w w':=hr'.chg.mono fun k _ hk=>by
  exact zbz (Y:=Y) (h:=rnO_in.heap) (Q:=fun k=>k = g2) ⟨(fun e=>nomatch e),(fun e=>nomatch e),(fun _=>by rw [<- hY]; rfl),trivial⟩ k hk
 have:=hback F1 w' { p with tmp:=[g2] } rfl rfl rfl (hf.set_ (List.mem_cons_self ..) hne hch hr'.there) hr'.there
 refine cast ?_ this
 congr 2
 rw [outV,hcE]
 have hy' : ∀ i,Y'.ys.getD i .nilFunc = Y.ys.getD i .nilFunc:=fun i=>by rw [hx.ys]
 rw [hys] at hy'
 show _ = Value.tuple #[.agg #[Y'.ys.getD 2 .nilFunc,Y'.ys.getD 3 .nilFunc,Y'.ys.getD 4 .nilFunc,Y'.ys.getD 5 .nilFunc,Y'.ys.getD 6 .nilFunc,Y'.ys.getD 7 .nilFunc,Y'.ys.getD 8 .nilFunc,Y'.ys.getD 9 .nilFunc,Y'.ys.getD 10 .nilFunc,Y'.ys.getD 11 .nilFunc,Y'.ys.getD 12 .nilFunc],.int .i64 0]
 simp only [hy']
 rfl
theorem at3 {s₀ : γ} {w₀ : World} {F : Nat -> Prop} {R : Rr M} {p : Ph} {g : Nat} (n : Nat) : ∀ (i : Nat) (Y : Env) (q0 q1 q2 : Seg) (w : World) (h : ze3 (Z.with_ g 52 zTr.toArray) s₀ w₀ s F w R p) (hth : X.there s w) (hd : Hd Y [(i : Int),(R.ths.length : Int),(p.tcap : Int)] 97 [q0,q1,q2]) (hn : R.ths.length - i = n) (hi : i <= R.ths.length)
  (h0 : q0.g = p.gT /\ q0.adr = some ⟨p.gT,0,none⟩) (h1 : Whl q1 p.gR) (h2 : Whl q2 g) (hback : ∀ F' w' p',p'.vS = p.vS -> p'.vC = p.vC -> p'.cE = p.cE -> ze3 Z s₀ w₀ s F' w' R p' -> X.there s w' -> Jay.Reach Try.prog X Stop s (c.finish (outV p)) cs w'),Fr.reach Try.prog X Stop s (c :: cs) Y rn3.frs w:=by
 induction n with
 | zero=>
  intro i Y q0 q1 q2 w h hth hd hn hi h0 h1 h2 hback
  exact at3end h hth hd (by rw [h0.1]; exact (h.side.dis _ (.inr (.inl rfl))).2.2.1) h1 h2 (by omega) hback
 | succ n ih=>
  intro i Y q0 q1 q2 w h hth hd hn hi' h0 h1 h2 hback
  have hi : i < R.ths.length:=by omega
  have htm : R.ths.length <= maxLen:=Nat.le_trans h.side.tle.1 h.side.tle.2
  obtain ⟨xs,hxs,rfl⟩:=hd.of
  obtain ⟨g1,b1,o1,pre1,post1,cap1,ad1⟩:=q1
  obtain ⟨g2,b2,o2,pre2,post2,cap2,ad2⟩:=q2
  obtain ⟨rfl,rfl,rfl,rfl⟩ : g1 = _ /\ o1 = _ /\ pre1 = _ /\ post1 = _:=h1
  obtain ⟨rfl,rfl,rfl,rfl⟩ : g2 = _ /\ o2 = _ /\ pre2 = _ /\ post2 = _:=h2
  have hgl : g2 < w.heap.size:=by obtain ⟨F1,hI,hF,hb,_⟩:=h.side.i; exact hb.lt
  have hy:=List.getElem?_eq_getElem hi
  generalize R.ths[i] = y at hy
  have hi2 : i < p.ths.length:=by rw [h.side.tlen]; exact hi
  have hx:=List.getElem?_eq_getElem hi2
  generalize p.ths[i] = x at hx
  have hrel:=h.side.rel i x y hx hy
  obtain ⟨lv,on,asks,call⟩:=x
  have hlv : lv.oneCell' = true:=by obtain ⟨A,c,e,_⟩:=Sl.form hrel.left; rw [show lv = _ from e]; rfl
  have hon' : on = onV p.vs y.on:=hrel.on
  cases hon : y.on with
  | none=>
   obtain rfl : on = .nilIface:=by rw [hon',hon]; rfl
   generalize hY0 : (⟨[(i : Int),(R.ths.length : Int),(p.tcap : Int)],[],xs,[],[q0,⟨p.gR,b1,0,[],[],cap1,ad1⟩,⟨g2,b2,0,[],[],cap2,ad2⟩],[]⟩ : Env) = Y0
   have hl0 : Y0.lens = ⟨3,0,97,0,3⟩:=by rw [<- hY0]; simp [Env.lens,hxs]
   refine zbl (b:=0) (q:=⟨p.gT,0,i * 8,[],[],q0.cap,none⟩) (by rw [<- hY0]; exact Nat.zero_lt_succ _) (by rw [<- hY0]; exact h0.1.symm) (by rw [<- hY0]; exact h0.2.symm) (by rw [<- hY0]; rfl) (by kernel_rfl) ?_
   refine zak (L:=⟨3,0,97,0,3⟩) (ai:=[]) (ab:=[]) (ax:=[]) (ay:=[lv,.int .i64 asks.d,.int .i64 asks.ar,.int .i64 asks.at_,.int .u64 asks.old,.int .u64 asks.new,.int .i64 call]) (ak:=[]) (by rw [<- hl0]; simp [Env.lens,Env.reseg]) (by kernel_rfl) ?_
   generalize hY : Env.grow _ _ _ _ _ _ = Y
   have hr : Rep X s (ours Y rnM_in.heap) w Y rnM_in.heap rnM_in.facts 0 w:=by
    refine Rep.start hth ?_ (by rw [<- hY,<- hY0]; rfl) ⟨⟨?_,zb8 rfl ?_,⟨?_,?_⟩,trivial,rfl⟩,kn ?_,kn ?_,trivial⟩ (nd_ro rfl) (za5 ⟨?_,?_,trivial⟩) (by rw [<- hY,<- hY0]; rfl)
    ·rw [<- hY,<- hY0]
     exact zb9 ⟨hlv,rfl,rfl,rfl,rfl,rfl,rfl,trivial⟩
    all_goals subst hY; subst hY0
    ·exact (h.side.dis _ (.inr (.inl rfl))).2.2.1
    ·exact zn6 h.core.t hx
    ·exact (Nat.zero_add _).symm
    ·rfl
    ·exact (h.side.dis _ (.inl rfl)).2.2.1
    ·exact hgl
    ·exact decide_eq_true (by show (i : Int) < ((R.ths.length : Int).toNat : Int); omega)
    ·exact decide_eq_true (by show (0 : Int) <= (i : Int); omega)
   refine zaa 900 rnM_run hr ⟨fun Y1 w1 hx1 hr1=>?_,trivial⟩
   refine zbh rnM0_head hr1 fun Y2 w2 hx2 hr2=>?_
   have hx12:=hx1.trans hx2
   have hb2 : Below w.heap.size w w2:=hr2.chg.below (fun k hk=>absurd hk (zah rfl k)) (Nat.le_refl _)
   refine ih (i + 1) _ _ _ _ w2 (h.below hb2 hr2.there) hr2.there ⟨?_,rfl,?_,rfl,rfl,(show Y2.perms = [] from zae hr2)⟩ (by omega) (by omega) ?_ ?_ ?_ hback
   ·show [IntKind.i64.wrap (Y2.ints.getD 0 0 + 1),Y2.ints.getD 1 0,Y2.ints.getD 2 0] = _
    rw [hx12.ints,<- hY,<- hY0]
    show [IntKind.i64.wrap ((i : Int) + 1),_,_] = _
    rw [zbr hi htm]
    rfl
   ·exact (za8 _).trans rfl
   ·dsimp only
    rw [hx12.blk (by rw [<- hY,<- hY0]; exact Nat.zero_lt_succ _),<- hY,<- hY0]
    exact ⟨rfl,rfl⟩
   ·dsimp only
    rw [hx12.blk (by rw [<- hY,<- hY0]; show 1 < 3; decide),<- hY,<- hY0]
    exact ⟨rfl,rfl,rfl,rfl⟩
   ·dsimp only
    rw [hx12.blk (by rw [<- hY,<- hY0]; show 2 < 3; decide),<- hY,<- hY0]
    exact ⟨rfl,rfl,rfl,rfl⟩
  | some k=>
   obtain ⟨v,hv,rfl⟩ : ∃ v : Value,v.oneCell' = true /\ on = .iface 82 v:=by
    refine ⟨p.vs.getD k .nilFunc,?_,by rw [hon',hon]; rfl⟩
    rw [List.getD_eq_getElem?_getD,List.getElem?_eq_getElem (by rw [h.side.vlen]; exact (hrel.onlt k hon).1)]
    exact h.side.vone _ (List.getElem_mem _)
   generalize hY0 : (⟨[(i : Int),(R.ths.length : Int),(p.tcap : Int)],[],xs,[],[q0,⟨p.gR,b1,0,[],[],cap1,ad1⟩,⟨g2,b2,0,[],[],cap2,ad2⟩],[]⟩ : Env) = Y0
   have hl0 : Y0.lens = ⟨3,0,97,0,3⟩:=by rw [<- hY0]; simp [Env.lens,hxs]
   refine zbl (b:=0) (q:=⟨p.gT,0,i * 8,[],[],q0.cap,none⟩) (by rw [<- hY0]; exact Nat.zero_lt_succ _) (by rw [<- hY0]; exact h0.1.symm) (by rw [<- hY0]; exact h0.2.symm) (by rw [<- hY0]; rfl) (by kernel_rfl) ?_
   refine zak (L:=⟨3,0,97,0,3⟩) (ai:=[]) (ab:=[]) (ax:=[]) (ay:=[lv,.int .i64 asks.d,.int .i64 asks.ar,.int .i64 asks.at_,.int .u64 asks.old,.int .u64 asks.new,.int .i64 call,v]) (ak:=[]) (by rw [<- hl0]; simp [Env.lens,Env.reseg]) (by kernel_rfl) ?_
   generalize hY : Env.grow _ _ _ _ _ _ = Y
   have hr : Rep X s (ours Y rnN_in.heap) w Y rnN_in.heap rnN_in.facts 0 w:=by
    refine Rep.start hth ?_ (by rw [<- hY,<- hY0]; rfl) ⟨⟨?_,zb8 rfl ?_,⟨?_,?_⟩,trivial,rfl⟩,kn ?_,kn ?_,trivial⟩ (nd_ro rfl) (za5 ⟨?_,?_,trivial⟩) (by rw [<- hY,<- hY0]; rfl)
    ·rw [<- hY,<- hY0]
     exact zb9 ⟨hlv,rfl,rfl,rfl,rfl,rfl,rfl,hv,trivial⟩
    all_goals subst hY; subst hY0
    ·exact (h.side.dis _ (.inr (.inl rfl))).2.2.1
    ·exact zn6 h.core.t hx
    ·exact (Nat.zero_add _).symm
    ·rfl
    ·exact (h.side.dis _ (.inl rfl)).2.2.1
    ·exact hgl
    ·exact decide_eq_true (by show (i : Int) < ((R.ths.length : Int).toNat : Int); omega)
    ·exact decide_eq_true (by show (0 : Int) <= (i : Int); omega)
   refine zaa 900 rnN_run hr ⟨fun Y1 w1 hx1 hr1=>?_,trivial⟩
   refine zbh rnN0_head hr1 fun Y2 w2 hx2 hr2=>?_
   have hx12:=hx1.trans hx2
   have hb2 : Below w.heap.size w w2:=hr2.chg.below (fun k hk=>absurd hk (zah rfl k)) (Nat.le_refl _)
   refine ih (i + 1) _ _ _ _ w2 (h.below hb2 hr2.there) hr2.there ⟨?_,rfl,?_,rfl,rfl,(show Y2.perms = [] from zae hr2)⟩ (by omega) (by omega) ?_ ?_ ?_ hback
   ·show [IntKind.i64.wrap (Y2.ints.getD 0 0 + 1),Y2.ints.getD 1 0,Y2.ints.getD 2 0] = _
    rw [hx12.ints,<- hY,<- hY0]
    show [IntKind.i64.wrap ((i : Int) + 1),_,_] = _
    rw [zbr hi htm]
    rfl
   ·exact (za8 _).trans rfl
   ·dsimp only
    rw [hx12.blk (by rw [<- hY,<- hY0]; exact Nat.zero_lt_succ _),<- hY,<- hY0]
    exact ⟨rfl,rfl⟩
   ·dsimp only
    rw [hx12.blk (by rw [<- hY,<- hY0]; show 1 < 3; decide),<- hY,<- hY0]
    exact ⟨rfl,rfl,rfl,rfl⟩
   ·dsimp only
    rw [hx12.blk (by rw [<- hY,<- hY0]; show 2 < 3; decide),<- hY,<- hY0]
    exact ⟨rfl,rfl,rfl,rfl⟩
end
end
section
open Go Go.Conc Go.RowKit Jay Pl
open St Sx
def ze4 : Option Addr -> Seg
 | some ⟨b,o,none⟩=>⟨b,o,o,[],[],0,none⟩
 | A=>⟨0,0,0,[],[],0,some A⟩
theorem segOf_adr (A : Option Addr) : (ze4 A).adr = A:=by
 unfold ze4
 split <;> rfl
def pkC (a : Int × Int) : List Value:=[.int .i64 a.1,.int .u32 a.2]
theorem zo2 (a : Int × Int) : (pkC a).length = 2:=rfl
section
variable {γ : Type} {X : zad γ} {M : Type} (Z : Fam X M)
def Rr.run (R : Rr M) (l : List (Int × Int)) : Rr M:=l.foldl (fun R a=>R.pick Z a.1 a.2) R
def zm0 : List (Int × Int) -> Rr M -> Prop
 | [],_=>True
 | a :: l,R=>(∀ (n : Nat) (y : Rt),R.ths[n]? = some y -> y.on = none -> y.left ≠ [] -> Z.pre R.ms n) /\ zm0 l (R.pick Z a.1 a.2)
theorem ended_len (R : Rr M) (t : Nat) (x : Rt) (m : M) (more : Bool) : (Rr.ended Z R t x m more).steps.length = R.steps.length /\ (Rr.ended Z R t x m more).calls.length = R.calls.length:=by
 unfold Rr.ended
 split
 ·exact ⟨rfl,rfl⟩
 ·refine ⟨rfl,?_⟩
  dsimp only
  split
  ·rw [List.length_set]
  ·rfl
theorem go_len (R : Rr M) (t i : Nat) (x : Rt) (m : M) : (Rr.go Z R t i x m).steps.length = R.steps.length + 1 /\ (Rr.go Z R t i x m).calls.length = R.calls.length:=by
 unfold Rr.go Rr.told
 have:=ended_len Z { (R.act t x) with ms:=(R.act t x).ms.set i (Z.next m (R.mem.act x.asks.d x.asks.ar x.asks.at_ x.asks.old x.asks.new).2.1 (R.mem.act x.asks.d x.asks.ar x.asks.at_ x.asks.old x.asks.new).2.2).1,ths:=(R.act t x).ths.set t { x with asks:=(Z.next m (R.mem.act x.asks.d x.asks.ar x.asks.at_ x.asks.old x.asks.new).2.1 (R.mem.act x.asks.d x.asks.ar x.asks.at_ x.asks.old x.asks.new).2.2).2.1 } } t { x with asks:=(Z.next m (R.mem.act x.asks.d x.asks.ar x.asks.at_ x.asks.old x.asks.new).2.1 (R.mem.act x.asks.d x.asks.ar x.asks.at_ x.asks.old x.asks.new).2.2).2.1 } (Z.next m (R.mem.act x.asks.d x.asks.ar x.asks.at_ x.asks.old x.asks.new).2.1 (R.mem.act x.asks.d x.asks.ar x.asks.at_ x.asks.old x.asks.new).2.2).1 (Z.next m (R.mem.act x.asks.d x.asks.ar x.asks.at_ x.asks.old x.asks.new).2.1 (R.mem.act x.asks.d x.asks.ar x.asks.at_ x.asks.old x.asks.new).2.2).2.2
 refine ⟨this.1.trans ?_,this.2⟩
 show (R.steps ++ [_]).length = _
 simp
theorem pick_len (R : Rr M) (t d : Int) : (R.pick Z t d).steps.length <= R.steps.length + 1 /\ (R.pick Z t d).calls.length <= R.calls.length + 1:=by
 have hb : ∀ t x o,(R.begin_ Z t x o d).steps.length = R.steps.length /\ (R.begin_ Z t x o d).calls.length = R.calls.length + 1:=fun t x o=>⟨rfl,by show (R.calls ++ [_]).length = _; simp⟩
 unfold Rr.pick
 split
 ·exact ⟨Nat.le_succ _,Nat.le_succ _⟩
 split
 ·exact ⟨Nat.le_succ _,Nat.le_succ _⟩
 split
 ·split
  ·have:=go_len Z R t.toNat ‹Nat› ‹Rt› ‹M›
   exact ⟨Nat.le_of_eq this.1,by rw [this.2]; exact Nat.le_succ _⟩
  ·exact ⟨Nat.le_succ _,Nat.le_succ _⟩
 split
 ·exact ⟨Nat.le_succ _,Nat.le_succ _⟩
 ·have h1:=hb t.toNat ‹Rt› ‹Int × Int›
  generalize R.begin_ Z t.toNat ‹Rt› ‹Int × Int› d = R1 at h1 ⊢
  dsimp only
  split
  ·rename_i y m _ _
   have:=go_len Z R1 t.toNat R.ms.length y m
   rw [this.1,this.2,h1.1,h1.2]
   exact ⟨Nat.le_refl _,Nat.le_refl _⟩
  ·rw [h1.1,h1.2]
   exact ⟨Nat.le_succ _,Nat.le_refl _⟩
end
section
variable {γ : Type} {X : zad γ} {M : Type} {Z : Fam X M} {Stop : γ -> Frame -> List Frame -> World -> Prop} {c : Frame} {cs : List Frame}
theorem at2end {s s₀ : γ} {w w₀ : World} {F : Nat -> Prop} {R : Rr M} {p : Ph} {g j np : Nat} {cP : Int} {Y : Env} {q0 q1 q2 : Seg} (h : ze3 (Z.with_ g 52 zTr.toArray) s₀ w₀ s F w R p) (hth : X.there s w) (hd : Hd Y [(j : Int),(np : Int),cP] 97 [q0,q1,q2]) (hj : ¬ j < np) (hq0 : q0.g < w.heap.size) (h1 : Whl q1 p.gR) (h2 : Whl q2 g)
  (hback : ∀ F' w' p',ze3 Z s₀ w₀ s F' w' R p' -> X.there s w' -> Jay.Reach Try.prog X Stop s (c.finish (outV p')) cs w') : Fr.reach Try.prog X Stop s (c :: cs) Y rn2.frs w:=by
 obtain ⟨xs,hxs,rfl⟩:=hd.of
 obtain ⟨g1,b1,o1,pre1,post1,cap1,ad1⟩:=q1
 obtain ⟨g2,b2,o2,pre2,post2,cap2,ad2⟩:=q2
 obtain ⟨rfl,rfl,rfl,rfl⟩ : g1 = _ /\ o1 = _ /\ pre1 = _ /\ post1 = _:=h1
 obtain ⟨rfl,rfl,rfl,rfl⟩ : g2 = _ /\ o2 = _ /\ pre2 = _ /\ post2 = _:=h2
 have hgl : g2 < w.heap.size:=by obtain ⟨F1,hI,hF,hb,_⟩:=h.side.i; exact hb.lt
 obtain ⟨v2,v3,v6,v7,v8,hcE,u2,u3,u6,u7,u8⟩:=h.side.mem
 have hcR:=h.core.r
 rw [hcE] at hcR
 generalize hY0 : (⟨[(j : Int),(np : Int),cP],[],xs,[],[q0,⟨p.gR,b1,0,[],[],cap1,ad1⟩,⟨g2,b2,0,[],[],cap2,ad2⟩],[]⟩ : Env) = Y0
 have hl0 : Y0.lens = ⟨3,0,97,0,3⟩:=by rw [<- hY0]; simp [Env.lens,hxs]
 refine zak (L:=⟨3,0,97,0,3⟩) (ai:=[(R.ths.length : Int),(p.tcap : Int)]) (ab:=[]) (ax:=[]) (ay:=[fbV Z,p.vS,p.vC,.int .u64 R.mem.e,.int .u64 R.mem.f,v2,v3,.int .u64 R.mem.h,.int .u64 R.mem.t,v6,v7,v8]) (ak:=[⟨p.gT,0,0,[],[],0,none⟩]) hl0 (by kernel_rfl) ?_
 generalize hY : Env.grow _ _ _ _ _ _ = Y
 have hr : Rep X s (ours Y rnL_in.heap) w Y rnL_in.heap rnL_in.facts 0 w:=by
  refine Rep.start hth ?_ (by rw [<- hY,<- hY0]; rfl) ⟨kn ?_,⟨?_,zb8 rfl ?_,trivial,trivial,rfl⟩,kn ?_,kn ?_,trivial⟩ (nd_ro rfl) (za5 ⟨?_,trivial⟩) (by rw [<- hY,<- hY0]; rfl)
  ·rw [<- hY,<- hY0]
   exact zb9 ⟨rfl,zcx h.core.s,zcx h.core.c,rfl,rfl,za2 u2,za2 u3,rfl,rfl,za2 u6,za2 u7,za2 u8,trivial⟩
  all_goals subst hY; subst hY0
  ·exact hq0
  ·exact (h.side.dis _ (.inl rfl)).2.2.1
  ·exact zaz hcR rfl rfl
  ·exact hgl
  ·exact (h.side.dis _ (.inr (.inl rfl))).2.2.1
  ·exact decide_eq_false (by show ¬ (j : Int) < ((np : Int).toNat : Int); omega)
 refine zaa 900 rnL_run hr ⟨fun Y1 w1 hx1 hr1=>?_,trivial⟩
 refine zbh rnL0_head hr1 fun Y2 w2 hx2 hr2=>?_
 have hx12:=hx1.trans hx2
 have hb2 : Below w.heap.size w w2:=hr2.chg.below (fun k hk=>absurd hk (zah rfl k)) (Nat.le_refl _)
 refine at3 (Z:=Z) R.ths.length 0 _ _ _ _ w2 (h.below hb2 hr2.there) hr2.there ⟨?_,rfl,?_,rfl,rfl,(show Y2.perms = [] from zae hr2)⟩ (Nat.sub_zero _) (Nat.zero_le _) ?_ ?_ ?_ (fun F' w' p' e1 e2 e3 hrw ht=>by
  have:=hback F' w' p' hrw ht
  rwa [show outV p = outV p' by unfold outV; rw [e1,e2,e3]])
 ·show [0,Y2.ints.getD 3 0,Y2.ints.getD 4 0] = _
  rw [hx12.ints,<- hY,<- hY0]
  rfl
 ·exact (za8 _).trans rfl
 ·dsimp only
  rw [hx12.blk (by rw [<- hY,<- hY0]; show 3 < 4; decide),<- hY,<- hY0]
  exact ⟨rfl,rfl⟩
 ·dsimp only
  rw [hx12.blk (by rw [<- hY,<- hY0]; show 1 < 4; decide),<- hY,<- hY0]
  exact ⟨rfl,rfl,rfl,rfl⟩
 ·dsimp only
  rw [hx12.blk (by rw [<- hY,<- hY0]; show 2 < 4; decide),<- hY,<- hY0]
  exact ⟨rfl,rfl,rfl,rfl⟩
theorem at2 {s₀ : γ} {w₀ : World} {g : Nat} {picks : List (Int × Int)} {A : Option Addr} {cP : Nat} (hP : Sl w₀ w₀.heap.size 2 (.slice A picks.length cP) picks.length (picks.flatMap pkC)) (rest : List (Int × Int)) :
  ∀ (j : Nat) (R : Rr M) (s : γ) (F : Nat -> Prop) (p : Ph) (Y : Env) (q0 q1 q2 : Seg) (w : World) (h : ze3 (Z.with_ g 52 zTr.toArray) s₀ w₀ s F w R p) (hth : X.there s w) (hd : Hd Y [(j : Int),(picks.length : Int),(cP : Int)] 97 [q0,q1,q2]) (hrest : picks.drop j = rest) (h0 : q0.adr = A /\ (0 < picks.length -> q0.g = (ze4 A).g) /\ q0.g < w.heap.size) (h1 : Whl q1 p.gR) (h2 : Whl q2 g)
   (hst : R.steps.length + rest.length <= 20000) (hca : R.calls.length + rest.length <= 20000) (hpre : zm0 Z rest R) (hback : ∀ s' F' w' p',ze3 Z s₀ w₀ s' F' w' (R.run Z rest) p' -> X.there s' w' -> Jay.Reach Try.prog X Stop s' (c.finish (outV p')) cs w'),Fr.reach Try.prog X Stop s (c :: cs) Y rn2.frs w:=by
 induction rest with
 | nil=>
  intro j R s F p Y q0 q1 q2 w h hth hd hrest h0 h1 h2 hst hca hpre hback
  have : picks.length <= j:=by
   have:=congrArg List.length hrest
   rw [List.length_drop,List.length_nil] at this
   omega
  exact at2end h hth hd (by omega) h0.2.2 h1 h2 fun F' w' p' hrw ht=>hback s F' w' p' hrw ht
 | cons a rest ih=>
  intro j R s F p Y q0 q1 q2 w h hth hd hrest h0 h1 h2 hst hca hpre hback
  have hj : j < picks.length:=by
   have:=congrArg List.length hrest
   rw [List.length_drop,List.length_cons] at this
   omega
  have ha : picks[j] = a /\ picks.drop (j + 1) = rest:=by
   rw [List.drop_eq_getElem_cons hj] at hrest
   exact List.cons.inj hrest
  obtain ⟨b,o,cap',eA,hb,_,hm,hat⟩:=Sl.row hP (by omega)
  cases eA
  obtain ⟨h01,h02,h03⟩:=h0
  have hg0 : q0.g = b:=h02 (by omega)
  have hlenm : picks.length <= maxLen:=by omega
  obtain ⟨xs,hxs,rfl⟩:=hd.of
  obtain ⟨g1,b1,o1,pre1,post1,cap1,ad1⟩:=q1
  obtain ⟨g2,b2,o2,pre2,post2,cap2,ad2⟩:=q2
  obtain ⟨rfl,rfl,rfl,rfl⟩ : g1 = _ /\ o1 = _ /\ pre1 = _ /\ post1 = _:=h1
  obtain ⟨rfl,rfl,rfl,rfl⟩ : g2 = _ /\ o2 = _ /\ pre2 = _ /\ post2 = _:=h2
  have hgl : g2 < w.heap.size:=by obtain ⟨F1,hI,hF,hb,_⟩:=h.side.i; exact hb.lt
  have hw0:=h.side.chg
  have hcell : ∀ i u,(pkC a)[i]? = some u -> w.cell? ⟨b,o + j * 2 + i,none⟩ = some u:=fun i u hu=>by
   have hi : i < 2:=(List.getElem?_eq_some_iff.1 hu).1
   rw [hw0.cell (p:=⟨b,o + j * 2 + i,none⟩) hb,Nat.add_assoc]
   refine hat _ _ ?_
   rw [zls zo2 picks j i hj hi,ha.1]
   exact hu
  generalize hY0 : (⟨[(j : Int),(picks.length : Int),(cP : Int)],[],xs,[],[q0,⟨p.gR,b1,0,[],[],cap1,ad1⟩,⟨g2,b2,0,[],[],cap2,ad2⟩],[]⟩ : Env) = Y0
  have hl0 : Y0.lens = ⟨3,0,97,0,3⟩:=by rw [<- hY0]; simp [Env.lens,hxs]
  refine zbl (b:=0) (q:=⟨b,o,o + j * 2,[],[],q0.cap,none⟩) (by rw [<- hY0]; exact Nat.zero_lt_succ _) (by rw [<- hY0]; exact hg0.symm) (by rw [<- hY0]; exact h01.symm) (by rw [<- hY0]; rfl) (by kernel_rfl) ?_
  refine zak (L:=⟨3,0,97,0,3⟩) (ai:=[a.1,a.2]) (ab:=[]) (ax:=[]) (ay:=[]) (ak:=[]) (by rw [<- hl0]; simp [Env.lens,Env.reseg]) (by kernel_rfl) ?_
  generalize hY : Env.grow _ _ _ _ _ _ = Y
  have hf1 : decide ((j : Int) < ((picks.length : Int).toNat : Int)) = true:=decide_eq_true (by omega)
  have hf2 : decide ((0 : Int) <= (j : Int)) = true:=decide_eq_true (by omega)
  have hr : Rep X s (ours Y rnJ_in.heap) w Y rnJ_in.heap rnJ_in.facts 0 w:=by
   refine Rep.start hth (by rw [<- hY,<- hY0]; intro v hv; cases hv) (by rw [<- hY,<- hY0]; rfl) ⟨⟨?_,zb8 rfl ?_,⟨?_,?_⟩,trivial,rfl⟩,kn ?_,kn ?_,trivial⟩ (nd_ro rfl) (za5 ⟨?_,?_,trivial⟩) (by rw [<- hY,<- hY0]; rfl)
   all_goals subst hY; subst hY0
   ·rw [hg0] at h03; exact h03
   ·exact hcell
   ·rfl
   ·rfl
   ·exact (h.side.dis _ (.inl rfl)).2.2.1
   ·exact hgl
   ·exact hf1
   ·exact hf2
  refine zaa 900 rnJ_run hr ⟨fun Y1 w1 hx1 hr1=>?_,trivial⟩
  have hb1 : Below w.heap.size w w1:=hr1.chg.below (fun k hk=>absurd hk (zah rfl k)) (Nat.le_refl _)
  have hi1 : Y1.ints = [(j : Int),(picks.length : Int),(cP : Int),a.1,a.2]:=by rw [hx1.ints,<- hY,<- hY0]; rfl
  have hk1 : ∀ i,i < 3 -> Y1.blks.getD i {} = Y.blks.getD i {}:=fun i hi=>hx1.blk (by rw [<- hY,<- hY0]; exact hi)
  show Fr.reach _ X Stop s (c :: cs) Y1 [rnJ_fr] w1
  have hrw1:=h.below hb1 hr1.there
  refine zc7 (fr:=rnJ_fr) (callers:=[]) (ht:=rfl) rnJ_at rnJ_gd rnJ_call rnJ_fresh hr1 (Post:=zjc (Z.with_ g2 52 zTr.toArray) s₀ w₀ R p.gR a.1 a.2) ?_ (fun s' v w' hp ht'=>?_) (fun s' ch w' hp _=>by obtain ⟨_,_,_,e,_⟩:=hp; cases e)
  ·have:=pick_ok hrw1 a.1 a.2 hpre.1 (by simp only [List.length_cons] at hst; omega) (by simp only [List.length_cons] at hca; omega)
   rwa [show (za3 Y1 zns).toArray = #[.pointer (some ⟨p.gR,0,none⟩),.agg #[.int .i64 a.1,.int .u32 a.2]] by
    show #[Value.pointer (some ⟨(Y1.blks.getD 1 {}).g,(Y1.blks.getD 1 {}).o + 0,none⟩),.agg #[.int .i64 (Y1.ints.getD 3 0),.int .u32 (Y1.ints.getD 4 0)]] = _
    rw [hi1,hk1 1 (by decide),<- hY,<- hY0]
    rfl]
  ·obtain ⟨F',p',egR,ev,hrw'⟩:=hp
   cases ev
   refine zdk (sv:=.tup []) rfl ?_
   rw [rnJ_put]
   have hgR':=(hrw'.side.dis _ (.inl rfl)).2.2.1
   have hgl' : g2 < w'.heap.size:=by obtain ⟨F1,hI,hF,hb,_⟩:=hrw'.side.i; exact hb.lt
   have hb' : b < w'.heap.size:=Nat.lt_of_lt_of_le hb hrw'.side.chg.size
   refine zd8 (a:=⟨[rnJ_frb],[],[],0⟩) rnJp_fits ?_
   have hki : (zgr.env Y1).ints = [(j : Int),(picks.length : Int),(cP : Int)]:=by
    show [Y1.ints.getD 0 0,Y1.ints.getD 1 0,Y1.ints.getD 2 0] = _
    rw [hi1]
    rfl
   have hkb : (zgr.env Y1).blks = [⟨b,o,o + j * 2,[],[],q0.cap,none⟩,⟨p.gR,b1,0,[],[],cap1,ad1⟩,⟨g2,b2,0,[],[],cap2,ad2⟩]:=by
    show [Y1.blks.getD 0 {},Y1.blks.getD 1 {},Y1.blks.getD 2 {}] = _
    rw [hk1 0 (by decide),hk1 1 (by decide),hk1 2 (by decide),<- hY,<- hY0]
    rfl
   have hky : (zgr.env Y1).ys = []:=rfl
   have hkp : (zgr.env Y1).perms = []:=(show Y1.perms = [] from zae hr1)
   generalize zgr.env Y1 = Yk at hki hkb hky hkp ⊢
   have hr' : Rep X s' (ours Yk rnK_in.heap) w' Yk rnK_in.heap rnK_in.facts 0 w':=by
    refine Rep.start ht' (by rw [hky]; intro v hv; cases hv) (by rw [hkb]; rfl) ⟨kn ?_,kn ?_,kn ?_,trivial⟩ (nd_ro rfl) (za5 trivial) (by rw [hkp]; rfl)
    ·rw [hkb]; exact hb'
    ·rw [hkb]; rw [egR] at hgR'; exact hgR'
    ·rw [hkb]; exact hgl'
   refine zaa 900 rnK_run hr' ⟨fun Y2 w2 hx2 hr2=>?_,trivial⟩
   refine zbh rnK0_head hr2 fun Y3 w3 hx3 hr3=>?_
   have hx23:=hx2.trans hx3
   have hl1 : Yk.blks.length = 3:=by rw [hkb]; rfl
   have hb3 : Below w'.heap.size w' w3:=hr3.chg.below (fun k hk=>absurd hk (zah rfl k)) (Nat.le_refl _)
   have hlen:=pick_len Z R a.1 a.2
   simp only [List.length_cons] at hst hca
   refine ih (j + 1) (R.pick Z a.1 a.2) s' F' p' _ _ _ _ w3 (hrw'.below hb3 hr3.there) hr3.there ⟨?_,rfl,?_,rfl,rfl,(show Y3.perms = [] from zae hr3)⟩ ha.2 ?_ ?_ ?_ (by omega) (by omega) hpre.2 hback
   ·show [IntKind.i64.wrap (Y3.ints.getD 0 0 + 1),Y3.ints.getD 1 0,Y3.ints.getD 2 0] = _
    rw [hx23.ints,hki]
    show [IntKind.i64.wrap ((j : Int) + 1),_,_] = _
    rw [zbr hj hlenm]
    rfl
   ·exact (za8 _).trans rfl
   ·dsimp only
    rw [hx23.blk (by omega),hkb]
    exact ⟨rfl,fun _=>rfl,Nat.lt_of_lt_of_le hb' hb3.size⟩
   ·dsimp only
    rw [hx23.blk (by omega),hkb]
    exact ⟨egR.symm,rfl,rfl,rfl⟩
   ·dsimp only
    rw [hx23.blk (by omega),hkb]
    exact ⟨rfl,rfl,rfl,rfl⟩
end
end
section
open Go Go.Conc Go.RowKit Jay Pl
open St Sx
def Ols (w : World) (B gl ol : Nat) (l : List (List (Int × Int))) (Q : Nat -> Prop) : Prop:=gl < B /\ ∀ (i : Nat) (hi : i < l.length), ∃ g o c,w.cell? ⟨gl,ol + i,none⟩ = some (.slice (some ⟨g,o,none⟩) l[i].length c) /\ g < B /\ Q g /\ Sl w B 2 (.slice (some ⟨g,o,none⟩) l[i].length c) l[i].length (l[i].flatMap opC)
theorem Ols.below {w w' : World} {B gl ol : Nat} {l : List (List (Int × Int))} {Q : Nat -> Prop} (h : Ols w B gl ol l Q) (hb : Below B w w') : Ols w' B gl ol l Q:=
 ⟨h.1,fun i hi=>by obtain ⟨g,o,c,h1,h2,h3,h4⟩:=h.2 i hi; exact ⟨g,o,c,(hb.cell (p:=⟨gl,ol + i,none⟩) h.1).trans h1,h2,h3,h4.below hb⟩⟩
def zix (l : List (Int × Int)) : Rt:=⟨l,none,⟨0,0,0,0,0⟩,0⟩
def Rr.fill {M : Type} (l : List (List (Int × Int))) (m : Mem) (k : Nat) : Rr M:=⟨(l.take k).map zix ++ List.replicate (l.length - k) (zix []),m,[],[],[]⟩
theorem fill_len {M : Type} (l : List (List (Int × Int))) (m : Mem) {k : Nat} (hk : k <= l.length) : (Rr.fill (M:=M) l m k).ths.length = l.length:=by
 show ((l.take k).map zix ++ List.replicate (l.length - k) (zix [])).length = _
 simp
 omega
theorem fill_at {M : Type} (l : List (List (Int × Int))) (m : Mem) {k : Nat} (hk : k < l.length) : (Rr.fill (M:=M) l m k).ths[k]? = some (zix []):=by
 show ((l.take k).map zix ++ List.replicate (l.length - k) (zix []))[k]? = _
 have e1 : ((l.take k).map zix).length = k:=by rw [List.length_map,List.length_take]; omega
 rw [List.getElem?_append_right (by omega),e1,Nat.sub_self,List.getElem?_replicate,if_pos (by omega)]
theorem fill_next {M : Type} (l : List (List (Int × Int))) (m : Mem) {k : Nat} (hk : k < l.length) : { Rr.fill (M:=M) l m k with ths:=(Rr.fill (M:=M) l m k).ths.set k (zix l[k]) } = Rr.fill l m (k + 1):=by
 have : ((l.take k).map zix ++ List.replicate (l.length - k) (zix [])).set k (zix l[k]) = (l.take (k + 1)).map zix ++ List.replicate (l.length - (k + 1)) (zix []):=by
  have e1 : (l.take k).length = k:=by rw [List.length_take]; omega
  rw [List.set_append_right _ _ (by rw [List.length_map,e1]; exact Nat.le_refl _),List.length_map,e1,Nat.sub_self,show l.length - k = (l.length - (k + 1)) + 1 by omega,List.replicate_succ,List.set_cons_zero,List.take_succ_eq_append_getElem hk,List.map_append,List.map_cons,List.map_nil,List.append_assoc]
  rfl
 show Rr.mk (((l.take k).map zix ++ List.replicate (l.length - k) (zix [])).set k (zix l[k])) m [] [] [] = _
 rw [this]
 rfl
section
variable {γ : Type} {X : zad γ} {M : Type} {Z : Fam X M} {Stop : γ -> Frame -> List Frame -> World -> Prop} {c : Frame} {cs : List Frame}
theorem ze3.give {s₀ s : γ} {w₀ w w' : World} {F : Nat -> Prop} {R : Rr M} {p : Ph} {i : Nat} {x : Th} {y : Rt} {v : Value} {l : List (Int × Int)} (h : ze3 Z s₀ w₀ s F w R p) (hx : p.ths[i]? = some x) (hy : R.ths[i]? = some y) (hc : Chg (fun k=>k = p.gT) w w') (ht : X.there s w') (hT : Blk w' p.gT 107 (Ths (p.ths.set i { x with left:=v })))
  (hl : Sl w w.heap.size 2 v l.length (l.flatMap opC)) (hf : ∃ g o c,v = .slice (some ⟨g,o,none⟩) l.length c /\ g < w.heap.size) (hoff : ∀ g,F g \/ p.mine g -> OffS g v) : ze3 Z s₀ w₀ s F w' { R with ths:=R.ths.set i { y with left:=l } } { p with ths:=p.ths.set i { x with left:=v } }:=by
 have hm : ∀ k,k < w.heap.size -> k = p.gT -> p.mine k:=fun k _ e=>.inr (.inl e)
 have hcm : Chg p.mine w w':=hc.mono hm
 have hs:=h.side.keep hcm ht
 have hr:=hs.rel i x y hx hy
 have hne:=h.side.ne
 refine ⟨⟨?_,hT,zo9 h.core.s hc fun g hg e=>(hne.2.1 g hg).2.1 e,zo9 h.core.c hc fun g hg e=>(hne.2.2 g hg).2 e⟩,hs.upd (calls':=R.calls) (Nat.le_refl _) ⟨hr.on,hr.onlt,hr.asks,hr.call,(Sl.chg hl (Nat.le_refl _) hcm fun g hg=>hoff g (.inr hg)).more hcm.size,?_,hoff⟩,h.nils⟩
 ·have:=h.core.r.chg hc hne.1
  rw [show (({ R with ths:=R.ths.set i { y with left:=l } } : Rr M)).ths.length = R.ths.length from List.length_set]
  exact this
 ·obtain ⟨g,o,c,e,hg⟩:=hf
  exact .inr ⟨g,o,c,e,Nat.lt_of_lt_of_le hg hcm.size⟩
structure Fresh (B : Nat) (p : Ph) : Prop where
 vS : p.vS = .slice none 0 0
 vC : p.vC = .slice none 0 0
 tmp : p.tmp = []
 gR : B <= p.gR
 gT : B <= p.gT
theorem Fresh.mine {B : Nat} {p : Ph} (h : Fresh B p) : ∀ g,p.mine g -> B <= g:=fun g hg=>by
 rcases hg with h1 | h1 | h1 | h1 | h1
 ·rw [h1]; exact h.gR
 ·rw [h1]; exact h.gT
 ·rw [h.vS] at h1; cases h1
 ·rw [h.vC] at h1; cases h1
 ·rw [h.tmp] at h1; cases h1
theorem at1bad {s s₀ : γ} {w w₀ w₁ : World} {F : Nat -> Prop} {R : Rr M} {p : Ph} {gr : Nat} {Y : Env} {q0 q1 q2 q3 : Seg} {i : Nat} {nl cl np cP : Int} {n c' g o gl ol : Nat} (h : ze3 (Z.with_ gr 52 zTr.toArray) s₀ w₀ s F w R p) (hth : X.there s w) (hd : Hd Y [(i : Int),nl,cl,np,cP] 96 [q0,q1,q2,q3]) (hi : (i : Int) < nl) (h0 : q0.g = gl /\ q0.adr = some ⟨gl,ol,none⟩) (hgl : gl < w.heap.size) (hglr : gl ≠ gr) (hq1 : q1.g < w.heap.size) (h2 : Whl q2 p.gR) (h3 : Whl q3 gr)
  (hcell : w.cell? ⟨gl,ol + i,none⟩ = some (.slice (some ⟨g,o,none⟩) n c')) (hg : g < w.heap.size) (hn : 1000 < n)
  (hb₁ : Below w₁.heap.size w₁ w) (hgr₁ : w₁.heap.size <= gr) (hback : ∀ w',Below w₁.heap.size w₁ w' -> X.there s w' -> Jay.Reach Try.prog X Stop s (c.finish badV) cs w') : Fr.reach Try.prog X Stop s (c :: cs) Y rn1.frs w:=by
 obtain ⟨xs,hxs,rfl⟩:=hd.of
 obtain ⟨g2,b2,o2,pre2,post2,cap2,ad2⟩:=q2
 obtain ⟨g3,b3,o3,pre3,post3,cap3,ad3⟩:=q3
 obtain ⟨rfl,rfl,rfl,rfl⟩ : g2 = _ /\ o2 = _ /\ pre2 = _ /\ post2 = _:=h2
 obtain ⟨rfl,rfl,rfl,rfl⟩ : g3 = _ /\ o3 = _ /\ pre3 = _ /\ post3 = _:=h3
 have hne:=kept_ne h
 obtain ⟨F1,hf,hb⟩:=h.free
 have dG:=hf.side.dis g3 (.inr (.inr (.inr (.inr (List.mem_cons_self ..)))))
 have hdR:=h.side.dis _ (.inl rfl)
 generalize hY0 : (⟨[(i : Int),nl,cl,np,cP],[],xs,[],[q0,q1,⟨p.gR,b2,0,[],[],cap2,ad2⟩,⟨g3,b3,0,[],[],cap3,ad3⟩],[]⟩ : Env) = Y0
 have hl0 : Y0.lens = ⟨5,0,96,0,4⟩:=by rw [<- hY0]; simp [Env.lens,hxs]
 refine zbl (b:=0) (q:=⟨gl,ol,ol + i * 1,[],[],q0.cap,none⟩) (by rw [<- hY0]; exact Nat.zero_lt_succ _) (by rw [<- hY0]; exact h0.1.symm) (by rw [<- hY0]; exact h0.2.symm) (by rw [<- hY0]; rfl) (by kernel_rfl) ?_
 refine zak (L:=⟨5,0,96,0,4⟩) (ai:=[(n : Int),(c' : Int)]) (ab:=[]) (ax:=[]) (ay:=zTr) (ak:=[⟨g,o,o,[],[],0,none⟩]) (by rw [<- hl0]; simp [Env.lens,Env.reseg]) (by kernel_rfl) ?_
 generalize hY : Env.grow _ _ _ _ _ _ = Y
 have hr : Rep X s (ours Y rnG_in.heap) w Y rnG_in.heap rnG_in.facts 0 w:=by
  refine Rep.start hth ?_ (by rw [<- hY,<- hY0]; rfl) ⟨⟨?_,zb8 rfl ?_,⟨?_,?_⟩,trivial,rfl⟩,kn ?_,kn ?_,⟨?_,zcc rfl ⟨?_,?_,?_⟩,?_,trivial,rfl⟩,kn ?_,trivial⟩ ⟨⟨(fun e=>nomatch e),(fun e=>nomatch e),(fun _=>?_),(fun e=>nomatch e),trivial⟩,⟨(fun e=>nomatch e),(fun e=>nomatch e),(fun e=>nomatch e),trivial⟩,⟨(fun e=>nomatch e),(fun e=>nomatch e),trivial⟩,⟨(fun e=>nomatch e),trivial⟩,trivial,trivial⟩ (za5 ⟨?_,?_,?_,trivial⟩) (by rw [<- hY,<- hY0]; rfl)
  ·rw [<- hY,<- hY0]
   exact zb9 ⟨rfl,rfl,rfl,rfl,rfl,rfl,rfl,rfl,rfl,rfl,rfl,trivial⟩
  all_goals subst hY; subst hY0
  ·exact hgl
  ·intro j u hu
   cases j with
   | zero=>
    cases hu
    show w.cell? ⟨gl,ol + i * 1 + 0,none⟩ = _
    rw [Nat.mul_one,Nat.add_zero,hcell]
    rfl
   | succ j=>cases hu
  ·rfl
  ·rfl
  ·exact hq1
  ·exact hdR.2.2.1
  ·exact dG.2.2.1
  ·exact dG.2.1
  ·rfl
  ·exact hb
  ·exact ⟨rfl,rfl⟩
  ·exact hg
  ·exact hglr
  ·exact decide_eq_true (by show ((n : Int).toNat : Int) > 1000; omega)
  ·exact decide_eq_true (by show (i : Int) < (nl.toNat : Int); omega)
  ·exact decide_eq_true (by show (0 : Int) <= (i : Int); omega)
 refine zaa 900 rnG_run hr ⟨fun Y' w' hx hr'=>?_,trivial⟩
 refine zbx (v:=_) rnG_0_end hr'.rep ?_
 have hch : Chg (fun k=>k = g3) w w':=hr'.chg.mono fun k _ hk=>by
  exact zbz (Y:=Y) (h:=rnG_in.heap) (Q:=fun k=>k = g3) ⟨(fun e=>nomatch e),(fun e=>nomatch e),(fun e=>nomatch e),(fun _=>by rw [<- hY,<- hY0]; rfl),(fun e=>nomatch e),trivial⟩ k hk
 exact hback w' (hb₁.trans (hch.below (fun k e=>e ▸ hgr₁) hb₁.size)) hr'.there
theorem at1 {s₀ s : γ} {w₀ w₁ : World} {F : Nat -> Prop} {gr gl ol cl : Nat} {lists : List (List (Int × Int))} {mem : Mem} {picks : List (Int × Int)} {A : Option Addr} {cP : Nat} (hP : Sl w₀ w₀.heap.size 2 (.slice A picks.length cP) picks.length (picks.flatMap pkC)) (hO : Ols w₁ w₁.heap.size gl ol lists (fun g=>¬ F g)) (hpl : picks.length <= 20000) (hm : lists.length <= maxLen) (hgr : w₁.heap.size <= gr)
  (hpre : (∀ l ∈ lists,l.length <= 1000) -> zm0 Z picks (Rr.fill lists mem lists.length)) (hbad : ∀ w',(∃ l ∈ lists,1000 < l.length) -> Below w₁.heap.size w₁ w' -> X.there s w' -> Jay.Reach Try.prog X Stop s (c.finish badV) cs w')
  (hback : (∀ l ∈ lists,l.length <= 1000) -> ∀ s' F' w' p',ze3 Z s₀ w₀ s' F' w' (Rr.run Z (Rr.fill lists mem lists.length) picks) p' -> X.there s' w' -> Jay.Reach Try.prog X Stop s' (c.finish (outV p')) cs w') (n : Nat) :
  ∀ (i : Nat) (p : Ph) (Y : Env) (q0 q1 q2 q3 : Seg) (w : World) (h : ze3 (Z.with_ gr 52 zTr.toArray) s₀ w₀ s F w (Rr.fill lists mem i) p) (hf : Fresh w₁.heap.size p) (hb : Below w₁.heap.size w₁ w) (hth : X.there s w) (hd : Hd Y [(i : Int),(lists.length : Int),(cl : Int),(picks.length : Int),(cP : Int)] 96 [q0,q1,q2,q3]) (hn : lists.length - i = n) (hi : i <= lists.length) (hso : ∀ j (hj : j < lists.length),j < i -> lists[j].length <= 1000)
   (h0 : q0.g = gl /\ q0.adr = some ⟨gl,ol,none⟩) (h1 : q1.adr = A /\ (0 < picks.length -> q1.g = (ze4 A).g) /\ q1.g < w.heap.size) (h2 : Whl q2 p.gR) (h3 : Whl q3 gr),Fr.reach Try.prog X Stop s (c :: cs) Y rn1.frs w:=by
 induction n with
 | zero=>
  intro i p Y q0 q1 q2 q3 w h hf hb hth hd hn hi hso h0 h1 h2 h3
  obtain rfl : i = lists.length:=by omega
  have hall : ∀ l ∈ lists,l.length <= 1000:=fun l hl=>by
   obtain ⟨j,hj,rfl⟩:=List.getElem_of_mem hl
   exact hso j hj hj
  obtain ⟨xs,hxs,rfl⟩:=hd.of
  obtain ⟨g2,b2,o2,pre2,post2,cap2,ad2⟩:=q2
  obtain ⟨g3,b3,o3,pre3,post3,cap3,ad3⟩:=q3
  obtain ⟨rfl,rfl,rfl,rfl⟩ : g2 = _ /\ o2 = _ /\ pre2 = _ /\ post2 = _:=h2
  obtain ⟨rfl,rfl,rfl,rfl⟩ : g3 = _ /\ o3 = _ /\ pre3 = _ /\ post3 = _:=h3
  have hgl3 : g3 < w.heap.size:=by obtain ⟨F1,hI,hF,hb,_⟩:=h.side.i; exact hb.lt
  generalize hY : (⟨[(lists.length : Int),(lists.length : Int),(cl : Int),(picks.length : Int),(cP : Int)],[],xs,[],[q0,q1,⟨p.gR,b2,0,[],[],cap2,ad2⟩,⟨g3,b3,0,[],[],cap3,ad3⟩],[]⟩ : Env) = Y
  have hr : Rep X s (ours Y rnH_in.heap) w Y rnH_in.heap rnH_in.facts 0 w:=by
   refine Rep.start hth (by rw [<- hY]; intro v hv; cases hv) (by rw [<- hY]; rfl) ⟨kn ?_,kn ?_,kn ?_,kn ?_,trivial⟩ (nd_ro rfl) (za5 ⟨?_,trivial⟩) (by rw [<- hY]; rfl)
   all_goals subst hY
   ·show q0.g < _
    rw [h0.1]; exact Nat.lt_of_lt_of_le hO.1 hb.size
   ·exact h1.2.2
   ·exact (h.side.dis _ (.inl rfl)).2.2.1
   ·exact hgl3
   ·exact decide_eq_false (by show ¬ (lists.length : Int) < ((lists.length : Int).toNat : Int); omega)
  refine zaa 900 rnH_run hr ⟨fun Y1 w1 hx1 hr1=>?_,trivial⟩
  refine zbh rnI_head hr1 fun Y2 w2 hx2 hr2=>?_
  have hx12:=hx1.trans hx2
  have hb2 : Below w.heap.size w w2:=hr2.chg.below (fun k hk=>absurd hk (zah rfl k)) (Nat.le_refl _)
  have hbl : Y.blks.length = 4:=by rw [<- hY]; rfl
  refine at2 (Z:=Z) hP picks 0 _ s F p _ _ _ _ w2 (h.below hb2 hr2.there) hr2.there ⟨?_,rfl,?_,rfl,rfl,(show Y2.perms = [] from zae hr2)⟩ rfl ?_ ?_ ?_ (by show 0 + _ <= _; omega) (by show 0 + _ <= _; omega) (hpre hall) (hback hall)
  ·show [0,Y2.ints.getD 3 0,Y2.ints.getD 4 0] = _
   rw [hx12.ints,<- hY]
   rfl
  ·exact (za8 _).trans rfl
  ·dsimp only
   rw [hx12.blk (by omega),<- hY]
   exact ⟨h1.1,h1.2.1,Nat.lt_of_lt_of_le h1.2.2 hb2.size⟩
  ·dsimp only
   rw [hx12.blk (by omega),<- hY]
   exact ⟨rfl,rfl,rfl,rfl⟩
  ·dsimp only
   rw [hx12.blk (by omega),<- hY]
   exact ⟨rfl,rfl,rfl,rfl⟩
 | succ n ih=>
  intro i p Y q0 q1 q2 q3 w h hf hb hth hd hn hi hso h0 h1 h2 h3
  have hil : i < lists.length:=by omega
  obtain ⟨g,o,c',hcell1,hg1,hQ,hsl1⟩:=hO.2 i hil
  have hgl1:=hO.1
  have hglw : gl < w.heap.size:=Nat.lt_of_lt_of_le hgl1 hb.size
  have hcell : w.cell? ⟨gl,ol + i,none⟩ = some (.slice (some ⟨g,o,none⟩) lists[i].length c'):=(hb.cell (p:=⟨gl,ol + i,none⟩) hgl1).trans hcell1
  have hgw : g < w.heap.size:=Nat.lt_of_lt_of_le hg1 hb.size
  by_cases hlong : 1000 < lists[i].length
  ·refine at1bad h hth hd (by omega) h0 hglw (by omega) h1.2.2 h2 h3 hcell hgw hlong hb hgr fun w' hw' ht'=>hbad w' ⟨_,List.getElem_mem hil,hlong⟩ hw' ht'
  ·obtain ⟨xs,hxs,rfl⟩:=hd.of
   obtain ⟨g2,b2,o2,pre2,post2,cap2,ad2⟩:=q2
   obtain ⟨g3,b3,o3,pre3,post3,cap3,ad3⟩:=q3
   obtain ⟨rfl,rfl,rfl,rfl⟩ : g2 = _ /\ o2 = _ /\ pre2 = _ /\ post2 = _:=h2
   obtain ⟨rfl,rfl,rfl,rfl⟩ : g3 = _ /\ o3 = _ /\ pre3 = _ /\ post3 = _:=h3
   have hgl3 : g3 < w.heap.size:=by obtain ⟨F1,hI,hF,hb,_⟩:=h.side.i; exact hb.lt
   obtain ⟨v2,v3,v6,v7,v8,hcE,u2,u3,u6,u7,u8⟩:=h.side.mem
   have hcR:=h.core.r
   rw [hcE,hf.vS,hf.vC,fill_len lists mem hi] at hcR
   have dT:=h.side.dis _ (.inr (.inl rfl))
   have dR:=h.side.dis _ (.inl rfl)
   have hy:=fill_at (M:=M) lists mem hil
   have hip : i < p.ths.length:=by rw [h.side.tlen,fill_len lists mem hi]; exact hil
   have hx:=List.getElem?_eq_getElem hip
   generalize p.ths[i] = x at hx
   have hrel:=h.side.rel i x _ hx hy
   have hlv : x.left.oneCell' = true:=by obtain ⟨A,c,e,_⟩:=Sl.form hrel.left; rw [show x.left = _ from e]; rfl
   have hon : x.on = .nilIface:=hrel.on
   generalize hY0 : (⟨[(i : Int),(lists.length : Int),(cl : Int),(picks.length : Int),(cP : Int)],[],xs,[],[q0,q1,⟨p.gR,b2,0,[],[],cap2,ad2⟩,⟨g3,b3,0,[],[],cap3,ad3⟩],[]⟩ : Env) = Y0
   have hl0 : Y0.lens = ⟨5,0,96,0,4⟩:=by rw [<- hY0]; simp [Env.lens,hxs]
   refine zbl (b:=0) (q:=⟨gl,ol,ol + i * 1,[],[],q0.cap,none⟩) (by rw [<- hY0]; exact Nat.zero_lt_succ _) (by rw [<- hY0]; exact h0.1.symm) (by rw [<- hY0]; exact h0.2.symm) (by rw [<- hY0]; rfl) (by kernel_rfl) ?_
   refine zak (L:=⟨5,0,96,0,4⟩) (ai:=[(lists.length : Int),(p.tcap : Int),(lists[i].length : Int),(c' : Int)]) (ab:=[]) (ax:=[]) (ay:=[fbV Z,.slice none 0 0,.slice none 0 0,.int .u64 mem.e,.int .u64 mem.f,v2,v3,.int .u64 mem.h,.int .u64 mem.t,v6,v7,v8,x.left,x.on,.int .i64 x.asks.d,.int .i64 x.asks.ar,.int .i64 x.asks.at_,.int .u64 x.asks.old,.int .u64 x.asks.new,.int .i64 x.call]) (ak:=[⟨p.gT,0,i * 8,(p.ths.take i).flatMap Th.cells,(p.ths.drop (i + 1)).flatMap Th.cells,0,none⟩,⟨g,o,o,[],[],0,none⟩]) (by rw [<- hl0]; simp [Env.lens,Env.reseg]) (by kernel_rfl) ?_
   generalize hY : Env.grow _ _ _ _ _ _ = Y
   have hkT : Blk w p.gT 107 ((⟨p.gT,0,i * 8,(p.ths.take i).flatMap Th.cells,(p.ths.drop (i + 1)).flatMap Th.cells,0,none⟩ : Seg).whole x.cells).toArray:=by
    have h2:=zf7 hx
    have h3:=h.core.t
    rw [show Ths p.ths = (Ths p.ths).toList.toArray from rfl,h2] at h3
    exact h3
   have hr : Rep X s (ours Y rnF_in.heap) w Y rnF_in.heap rnF_in.facts 0 w:=by
    refine Rep.start hth ?_ (by rw [<- hY,<- hY0]; rfl) ⟨⟨?_,zb8 rfl ?_,⟨?_,?_⟩,trivial,rfl⟩,kn ?_,⟨?_,zb8 rfl ?_,trivial,trivial,rfl⟩,kn ?_,⟨?_,zcc rfl ⟨?_,?_,?_⟩,⟨?_,?_⟩,trivial,rfl⟩,kn ?_,trivial⟩ ⟨⟨(fun e=>nomatch e),(fun e=>nomatch e),(fun e=>nomatch e),(fun _=>?_),(fun e=>nomatch e),trivial⟩,⟨(fun e=>nomatch e),(fun e=>nomatch e),(fun e=>nomatch e),(fun e=>nomatch e),trivial⟩,⟨(fun e=>nomatch e),(fun _=>?_),(fun e=>nomatch e),trivial⟩,⟨(fun e=>nomatch e),(fun e=>nomatch e),trivial⟩,⟨(fun e=>nomatch e),trivial⟩,trivial,trivial⟩ (za5 ⟨?_,?_,?_,?_,trivial⟩) (by rw [<- hY,<- hY0]; rfl)
    ·rw [<- hY,<- hY0]
     exact zb9 ⟨rfl,rfl,rfl,rfl,rfl,za2 u2,za2 u3,rfl,rfl,za2 u6,za2 u7,za2 u8,hlv,(by rw [hon]; rfl),rfl,rfl,rfl,rfl,rfl,rfl,trivial⟩
    all_goals subst hY; subst hY0
    ·exact hglw
    ·intro j u hu
     cases j with
     | zero=>
      cases hu
      show w.cell? ⟨gl,ol + i * 1 + 0,none⟩ = _
      rw [Nat.mul_one,Nat.add_zero,hcell]
      rfl
     | succ j=>cases hu
    ·rfl
    ·rfl
    ·exact h1.2.2
    ·exact dR.2.2.1
    ·exact zaz hcR rfl rfl
    ·exact hgl3
    ·exact dT.2.2.1
    ·exact dT.2.1
    ·exact (zlz (Nat.le_of_lt hip)).symm
    ·exact hkT
    ·exact (Nat.zero_add _).symm
    ·rfl
    ·exact hgw
    ·have:=hf.gT
     show gl ≠ p.gT
     omega
    ·exact h.side.ne.1
    ·exact decide_eq_false (by show ¬ ((lists[i].length : Int).toNat : Int) > 1000; omega)
    ·exact decide_eq_true (by show (i : Int) < ((lists.length : Int).toNat : Int); omega)
    ·exact decide_eq_true (by show (0 : Int) <= (i : Int); omega)
    ·exact decide_eq_true (by show (i : Int) < ((lists.length : Int).toNat : Int); omega)
   refine zaa 900 rnF_run hr ⟨fun Y1 w1 hx1 hr1=>?_,trivial⟩
   refine zbh rnF0_head hr1 fun Y2 w2 hx2 hr2=>?_
   have hx12:=hx1.trans hx2
   have hbl : Y.blks.length = 6:=by rw [<- hY,<- hY0]; rfl
   have hi2 : Y2.ints = [(i : Int),(lists.length : Int),(cl : Int),(picks.length : Int),(cP : Int),(lists.length : Int),(p.tcap : Int),(lists[i].length : Int),(c' : Int)]:=by rw [hx12.ints,<- hY,<- hY0]; rfl
   have hy2 : Y2.ys = Y.ys:=hx12.ys
   have hb2 : ∀ j,j < 6 -> Y2.blks.getD j {} = Y.blks.getD j {}:=fun j hj=>hx12.blk (by omega)
   have hch : Chg (fun k=>k = p.gT) w w2:=hr2.chg.mono fun k _ hk=>by
    exact zbz (Y:=Y) (h:=rnF_in.heap) (Q:=fun k=>k = p.gT) ⟨(fun e=>nomatch e),(fun e=>nomatch e),(fun e=>nomatch e),(fun e=>nomatch e),(fun _=>by rw [<- hY,<- hY0]; rfl),(fun e=>nomatch e),trivial⟩ k hk
   have hT2 : Blk w2 p.gT 107 (Ths (p.ths.set i { x with left:=.slice (some ⟨g,o,none⟩) lists[i].length c' })):=by
    have h4:=(hr2.rep.blk 4 _ rfl rfl).2
    rw [hb2 4 (by decide)] at h4
    have hd4 : za3 Y2 ((rnF_0.heap.getD 4 default).cs) = (({ x with left:=.slice (some ⟨g,o,none⟩) lists[i].length c' } : Th).cells):=by
     show [Value.slice ((Y2.blks.getD 5 {}).adr) (Y2.ints.getD 7 0).toNat (Y2.ints.getD 8 0).toNat,Y2.ys.getD 13 .nilFunc,Y2.ys.getD 14 .nilFunc,Y2.ys.getD 15 .nilFunc,Y2.ys.getD 16 .nilFunc,Y2.ys.getD 17 .nilFunc,Y2.ys.getD 18 .nilFunc,Y2.ys.getD 19 .nilFunc] = _
     rw [hi2,hy2,hb2 5 (by decide),<- hY,<- hY0]
     rfl
    have h5 : Blk w2 (Y.blks.getD 4 {}).g 107 ((Y.blks.getD 4 {}).whole (za3 Y2 ((rnF_0.heap.getD 4 default).cs))).toArray:=h4
    rw [hd4] at h5
    rw [<- hY,<- hY0] at h5
    have h6:=zly (x:={ x with left:=.slice (some ⟨g,o,none⟩) lists[i].length c' }) hip
    rw [show Ths (p.ths.set i { x with left:=.slice (some ⟨g,o,none⟩) lists[i].length c' }) = (Ths (p.ths.set i { x with left:=.slice (some ⟨g,o,none⟩) lists[i].length c' })).toList.toArray from rfl,<- h6]
    exact h5
   have hsl : Sl w w.heap.size 2 (.slice (some ⟨g,o,none⟩) lists[i].length c') lists[i].length (lists[i].flatMap opC):=(hsl1.below hb).more hb.size
   have hrw:=h.give hx hy hch hr2.there hT2 hsl ⟨g,o,c',rfl,hgw⟩ (fun k hk b' o' n' c'' e hn=>by
    cases e
    rcases hk with hk | hk
    ·exact fun e=>hQ (e ▸ hk)
    ·have:=hf.mine k hk
     omega)
   rw [show ({ Rr.fill (M:=M) lists mem i with ths:=(Rr.fill (M:=M) lists mem i).ths.set i { zix [] with left:=lists[i] } } : Rr M) = Rr.fill lists mem (i + 1) from fill_next lists mem hil] at hrw
   refine ih (i + 1) _ _ _ _ _ _ w2 hrw ⟨hf.vS,hf.vC,hf.tmp,hf.gR,hf.gT⟩ (hb.trans (hch.below (fun k e=>e ▸ hf.gT) hb.size)) hr2.there ⟨?_,rfl,?_,rfl,rfl,(show Y2.perms = [] from zae hr2)⟩ (by omega) hil (fun j hj hji=>?_) ?_ ?_ ?_ ?_
   ·show [IntKind.i64.wrap (Y2.ints.getD 0 0 + 1),Y2.ints.getD 1 0,Y2.ints.getD 2 0,Y2.ints.getD 3 0,Y2.ints.getD 4 0] = _
    rw [hi2]
    show [IntKind.i64.wrap ((i : Int) + 1),_,_,_,_] = _
    rw [zbr hil hm]
    rfl
   ·exact (za8 _).trans rfl
   ·by_cases e : j = i
    ·subst e; omega
    ·exact hso j hj (by omega)
   ·dsimp only
    rw [hb2 0 (by decide),<- hY,<- hY0]
    exact ⟨rfl,rfl⟩
   ·dsimp only
    rw [hb2 1 (by decide),<- hY,<- hY0]
    exact ⟨h1.1,h1.2.1,Nat.lt_of_lt_of_le h1.2.2 hch.size⟩
   ·dsimp only
    rw [hb2 2 (by decide),<- hY,<- hY0]
    exact ⟨rfl,rfl,rfl,rfl⟩
   ·dsimp only
    rw [hb2 3 (by decide),<- hY,<- hY0]
    exact ⟨rfl,rfl,rfl,rfl⟩
end
end
section
open Go Go.Conc Go.RowKit Jay Pl
open St Sx
def segP (A : Option Addr) (n : Nat) : Seg:=if n = 0 then ⟨0,0,0,[],[],0,some A⟩ else ze4 A
theorem zhs (A : Option Addr) (n : Nat) : (segP A n).adr = A:=by
 unfold segP
 split
 ·rfl
 ·exact segOf_adr A
theorem zhr (A : Option Addr) {n : Nat} (h : 0 < n) : (segP A n).g = (ze4 A).g:=by
 unfold segP
 rw [if_neg (by omega)]
theorem zkp {w : World} {B n c : Nat} {A : Option Addr} {sz : Nat} {xs : List Value} (h : Sl w B sz (.slice A n c) n xs) (hB : 0 < B) : (segP A n).g < B:=by
 unfold segP
 split
 ·exact hB
 ·obtain ⟨b,o,c',e,hb,_⟩:=Sl.row h (by omega)
  cases e
  exact hb
def Okr (k K T Mn : Int) (lists : List (List (Int × Int))) (picks : List (Int × Int)) : Prop:=zea k K T Mn = true /\ (lists.length : Int) = T /\ picks.length <= 20000 /\ ∀ l ∈ lists,l.length <= 1000
def zTh : List Value:=[.slice none 0 0,.nilIface,.int .i64 0,.int .i64 0,.int .i64 0,.int .u64 0,.int .u64 0,.int .i64 0]
theorem zTh_flat (n : Nat) : (List.replicate n zTh).flatten = (List.replicate n (⟨.slice none 0 0,.nilIface,⟨0,0,0,0,0⟩,0⟩ : Th)).flatMap Th.cells:=by
 induction n with
 | zero=>rfl
 | succ n ih=>rw [List.replicate_succ,List.replicate_succ,List.flatten_cons,List.flatMap_cons,ih]; rfl
section
variable {γ : Type} {X : zad γ} {M : Type} {Z : Fam X M}
theorem fill_zero (l : List (List (Int × Int))) (m : Mem) : (Rr.fill l m 0 : Rr M) = ⟨List.replicate l.length (zix []),m,[],[],[]⟩:=by
 unfold Rr.fill
 simp
theorem first_run {s₀ s : γ} {w₀ w : World} {F : Nat -> Prop} {lists : List (List (Int × Int))} {mem : Mem} {gR gT cap : Nat} {cE : Array Value} (hI : Z.I s F w []) (hr : Blk w gR 105 (#[fbV Z,.slice (some ⟨gT,0,none⟩) lists.length cap,.slice none 0 0,.slice none 0 0] ++ cE)) (ht : Blk w gT 107 (Ths (List.replicate lists.length ⟨.slice none 0 0,.nilIface,⟨0,0,0,0,0⟩,0⟩)))
  (hm : zbb w w.heap.size mem cE) (hs : mem.small) (hoff : ∀ g,F g \/ g = gR \/ g = gT -> Off g cE) (hfr : ∀ g,g < w₀.heap.size -> Off g cE) (hcap : lists.length <= cap /\ cap <= maxLen) (hd : ∀ g,g = gR \/ g = gT -> ¬ F g /\ ¬ X.oth s g /\ g < w.heap.size /\ w₀.heap.size <= g) (hne : gR ≠ gT) (hF : (∀ k,F k -> w₀.heap.size <= k) /\ Z.base <= w₀.heap.size) (ho : ∀ k,k < w₀.heap.size -> X.oth s k -> X.oth s₀ k) (hc : Below w₀.heap.size w₀ w) :
  ze3 Z s₀ w₀ s F w (Rr.fill lists mem 0) ⟨gR,gT,cap,.slice none 0 0,.slice none 0 0,cE,List.replicate lists.length ⟨.slice none 0 0,.nilIface,⟨0,0,0,0,0⟩,0⟩,[],[]⟩:=by
 rw [fill_zero]
 have hmine : ∀ g,Ph.mine ⟨gR,gT,cap,.slice none 0 0,.slice none 0 0,cE,List.replicate lists.length ⟨.slice none 0 0,.nilIface,⟨0,0,0,0,0⟩,0⟩,[],[]⟩ g -> g = gR \/ g = gT:=fun g hg=>by
  rcases hg with h1 | h1 | h1 | h1 | h1
  ·exact .inl h1
  ·exact .inr h1
  ·cases h1
  ·cases h1
  ·cases h1
 refine ⟨⟨?_,ht,⟨rfl,.inl ⟨rfl,rfl⟩⟩,⟨rfl,.inl ⟨rfl,rfl⟩⟩⟩,⟨hI,rfl,fun v hv=>(by cases hv),hm,hs,fun g hg=>hoff g (hg.imp id (hmine g)),?_,?_,fun i x y hx hy=>?_,fun g hg=>hd g (hmine g hg),⟨hne,fun g hg=>(by cases hg),fun g hg=>(by cases hg)⟩,hF,ho,hc,hfr⟩,.inl ⟨rfl,rfl,rfl,rfl⟩⟩
 ·rw [show (⟨List.replicate lists.length (zix []),mem,[],[],[]⟩ : Rr M).ths.length = lists.length from List.length_replicate]
  exact hr
 ·show (List.replicate _ _).length = (List.replicate _ _).length
  rw [List.length_replicate,List.length_replicate]
 ·show (List.replicate _ _).length <= _ /\ _
  rw [List.length_replicate]
  exact hcap
 ·have hx' : (List.replicate lists.length (⟨.slice none 0 0,.nilIface,⟨0,0,0,0,0⟩,0⟩ : Th))[i]? = some x:=hx
  have hy' : (List.replicate lists.length (zix []))[i]? = some y:=hy
  have e1 : x = ⟨.slice none 0 0,.nilIface,⟨0,0,0,0,0⟩,0⟩:=List.eq_of_mem_replicate (List.mem_of_getElem? hx')
  have e2 : y = zix []:=List.eq_of_mem_replicate (List.mem_of_getElem? hy')
  subst e1 e2
  exact ⟨rfl,fun k hk=>(by cases hk),rfl,rfl,Sl.nil _ _ _,.inl rfl,fun g _ b o n c e hn=>(by cases e)⟩
def RunPost (Z : Fam X M) (s₀ : γ) (w₀ : World) (s : γ) (w : World) (k K T Mn : Int) (lists : List (List (Int × Int))) (picks : List (Int × Int)) (s' : γ) (r : zf9) (w' : World) : Prop:=
 (Okr k K T Mn lists picks /\ ∃ F' p',r = .back (outV p') /\ ze3 Z s₀ w₀ s' F' w' (Rr.run Z (Rr.fill lists (Rp.firstM k K T Mn) lists.length) picks) p') \/ (¬ Okr k K T Mn lists picks /\ s' = s /\ Below w.heap.size w w' /\ r = .back badV)
set_option maxHeartbeats 1000000 in
theorem run_ok {s₀ s : γ} {w₀ w : World} {F : Nat -> Prop} {gl ol cl cP : Nat} {lists : List (List (Int × Int))} {picks : List (Int × Int)} {A : Option Addr} {k K T Mn : Int} (hI : Z.I s F w []) (hw : Below w₀.heap.size w₀ w) (hoth : ∀ k,k < w₀.heap.size -> X.oth s k -> X.oth s₀ k) (hFB : (∀ k,F k -> w₀.heap.size <= k) /\ Z.base <= w₀.heap.size) (hO : Ols w w.heap.size gl ol lists (fun g=>¬ F g))
  (hP : Sl w₀ w₀.heap.size 2 (.slice A picks.length cP) picks.length (picks.flatMap pkC)) (h0 : 0 < w₀.heap.size) (hm : lists.length <= maxLen) (hpre : Okr k K T Mn lists picks -> zm0 Z picks (Rr.fill lists (Rp.firstM k K T Mn) lists.length)) :
  Jdo Try.prog X 29 #[cfg k K T Mn,.slice (some ⟨gl,ol,none⟩) lists.length cl,.slice A picks.length cP,fbV Z] s w (RunPost Z s₀ w₀ s w k K T Mn lists picks):=by
 have hm' : maxLen = 9223372036854775807:=rfl
 obtain ⟨q1,hq1⟩ : ∃ q1,q1 = segP A picks.length:=⟨_,rfl⟩
 have hq1a : q1.adr = A:=by rw [hq1]; exact zhs _ _
 have hq1g : 0 < picks.length -> q1.g = (ze4 A).g:=fun h=>by rw [hq1]; exact zhr _ h
 have hq1l : q1.g < w.heap.size:=by rw [hq1]; exact Nat.lt_of_lt_of_le (zkp hP h0) hw.size
 clear hq1
 let Y : Env:={ ints:=[k,K,T,Mn,(lists.length : Int),(cl : Int),(picks.length : Int),(cP : Int)],ys:=[fbV Z],blks:=[⟨gl,ol,ol,[],[],0,none⟩,q1] }
 refine zbt (Y:=Y) rn_fresh ?_ fun Stop c cs hth hback _=>?_
 ·show #[Value.agg #[.int .i64 k,.int .i64 K,.int .i64 T,.int .i64 Mn],.slice (some ⟨gl,ol,none⟩) lists.length cl,.slice q1.adr picks.length cP,fbV Z] = _
  rw [hq1a]
  rfl
 have hr : Rep X s (ours Y rnA_in.heap) w Y rnA_in.heap rnA_in.facts 0 w:=Rep.start hth (zb9 ⟨rfl,trivial⟩) rfl ⟨kn hO.1,kn hq1l,trivial⟩ (nd_ro rfl) (za5 trivial) rfl
 refine zaa 900 rnA_run hr ⟨fun Y1 w1 hx1 hr1=>?_,trivial⟩
 have hb1 : Below w.heap.size w w1:=hr1.chg.below (fun k hk=>absurd hk (zah rfl k)) (Nat.le_refl _)
 have hi1 : Y1.ints = [k,K,T,Mn,(lists.length : Int),(cl : Int),(picks.length : Int),(cP : Int)]:=hx1.ints
 have hy1 : Y1.ys = [fbV Z]:=hx1.ys
 have hk1 : ∀ i,i < 2 -> Y1.blks.getD i {} = Y.blks.getD i {}:=fun i hi=>hx1.blk hi
 have hL1 : Y1.lens = ⟨8,0,0,1,4⟩:=by
  have h1 : Y1.blks.length = 4:=hr1.len
  simp only [Env.lens,hi1,hy1,hx1.bools,hx1.xs,h1]
  rfl
 show Fr.reach _ X Stop s (c :: cs) Y1 [rnA_fr] w1
 refine zc7 (fr:=rnA_fr) (callers:=[]) (ht:=rfl) rnA_at rnA_gd rnA_call rnA_fresh hr1 (Post:=fun s' r w'=>s' = s /\ Below w1.heap.size w1 w' /\ ∃ cs,r = .back (.tuple #[.agg cs,.int .i64 (if zea k K T Mn = true then 0 else 1)]) /\ zbb w' w'.heap.size (Rp.firstM k K T Mn) cs /\ ∀ g,g < w1.heap.size -> Off g cs) ?_ (fun s' v w2 hp ht2=>?_) (fun s' ch w' hp _=>by obtain ⟨_,_,_,e,_⟩:=hp; cases e)
 ·have:=Rp.new_any (X:=X) (s:=s) (w:=w1) k K T Mn
  rwa [show (za3 Y1 znu).toArray = #[cfg k K T Mn] by
   show #[Value.agg #[.int .i64 (Y1.ints.getD 0 0),.int .i64 (Y1.ints.getD 1 0),.int .i64 (Y1.ints.getD 2 0),.int .i64 (Y1.ints.getD 3 0)]] = _
   rw [hi1]
   rfl]
 ·obtain ⟨rfl,hbN,cE,ev,hmem,hoffN⟩:=hp
  cases ev
  have hmem0:=hmem
  obtain ⟨v2,v3,v6,v7,v8,hcE,u2,u3,u6,u7,u8⟩:=hmem
  obtain ⟨mem,hmm⟩ : ∃ m,m = Rp.firstM k K T Mn:=⟨_,rfl⟩
  rw [<- hmm] at hcE u2 u3 u6 u7 u8 hmem0
  have hsmall : mem.small:=by rw [hmm]; exact Rp.zkl k K T Mn
  obtain ⟨e,he⟩ : ∃ e : Int,e = if zea k K T Mn = true then 0 else 1:=⟨_,rfl⟩
  rw [<- he]
  refine zc8 (ai:=[mem.e,mem.f,mem.h,mem.t,e]) (ab:=[]) (ax:=[]) (ay:=[v2,v3,v6,v7,v8]) (.tup [.agg [.int .u64 (.v 8),.int .u64 (.v 9),.y 1,.y 2,.int .u64 (.v 10),.int .u64 (.v 11),.y 3,.y 4,.y 5],.int .i64 (.v 12)]) hL1 (by kernel_rfl) ?_ ?_
  ·have h1 : (Y1.grow [mem.e,mem.f,mem.h,mem.t,e] [] [] [v2,v3,v6,v7,v8] []).ints = [k,K,T,Mn,(lists.length : Int),(cl : Int),(picks.length : Int),(cP : Int),mem.e,mem.f,mem.h,mem.t,e]:=by simp only [Env.grow,hi1]; rfl
   have h2 : (Y1.grow [mem.e,mem.f,mem.h,mem.t,e] [] [] [v2,v3,v6,v7,v8] []).ys = [fbV Z,v2,v3,v6,v7,v8]:=by simp only [Env.grow,hy1]; rfl
   generalize Y1.grow _ _ _ _ _ = Yg at h1 h2
   show Value.tuple #[.agg #[.int .u64 (Yg.ints.getD 8 0),.int .u64 (Yg.ints.getD 9 0),Yg.ys.getD 1 .nilFunc,Yg.ys.getD 2 .nilFunc,.int .u64 (Yg.ints.getD 10 0),.int .u64 (Yg.ints.getD 11 0),Yg.ys.getD 3 .nilFunc,Yg.ys.getD 4 .nilFunc,Yg.ys.getD 5 .nilFunc],.int .i64 (Yg.ints.getD 12 0)] = _
   rw [h1,h2,hcE]
   rfl
  rw [rnA_put]
  have hr2:=((hr1.below hbN).grow_ hL1 (by kernel_rfl) (by kernel_rfl) [mem.e,mem.f,mem.h,mem.t,e] [] [] [v2,v3,v6,v7,v8] (zb9 ⟨za2 u2,za2 u3,za2 u6,za2 u7,za2 u8,trivial⟩)).rebase
  have hi2 : (Y1.grow [mem.e,mem.f,mem.h,mem.t,e] [] [] [v2,v3,v6,v7,v8] []).ints = [k,K,T,Mn,(lists.length : Int),(cl : Int),(picks.length : Int),(cP : Int),mem.e,mem.f,mem.h,mem.t,e]:=by simp only [Env.grow,hi1]; rfl
  have hy2 : (Y1.grow [mem.e,mem.f,mem.h,mem.t,e] [] [] [v2,v3,v6,v7,v8] []).ys = [fbV Z,v2,v3,v6,v7,v8]:=by simp only [Env.grow,hy1]; rfl
  have hk2 : (Y1.grow [mem.e,mem.f,mem.h,mem.t,e] [] [] [v2,v3,v6,v7,v8] []).blks = Y1.blks:=by simp only [Env.grow,List.append_nil]
  have hxx2 : (Y1.grow [mem.e,mem.f,mem.h,mem.t,e] [] [] [v2,v3,v6,v7,v8] []).xs = []:=by simp only [Env.grow,List.append_nil,hx1.xs]; rfl
  generalize Y1.grow _ _ _ _ _ = Y2 at hr2 hi2 hy2 hk2 hxx2
  have hb2 : Below w.heap.size w w2:=hb1.trans (hbN.mono hb1.size)
  have hwp : ∀ j hb,rnA_0.heap[j]? = some hb -> hb.wr = true -> w.heap.size <= (Y1.blks.getD j {}).g /\ (Y1.blks.getD j {}).g < w1.heap.size:=fun j hb hj hwr=>by
   refine ⟨?_,hr1.bnd j (List.getElem?_eq_some_iff.1 hj).1⟩
   rcases hr1.inS j hb hj hwr with h1 | h1
   ·exact absurd h1 (zah rfl _)
   ·exact h1
  have hours2 : ∀ k,ours Y2 rnB_in.heap k -> w.heap.size <= k:=fun k hk=>by
   obtain ⟨j,hb,hj,hwr,rfl⟩:=hk
   rw [hk2]
   exact (hwp j hb hj hwr).1
  have hBl : ∀ w',Chg (ours Y2 rnB_in.heap) w2 w' -> Below w.heap.size w w':=fun w' hc=>hb2.trans (hc.below hours2 hb2.size)
  refine zaa 900 rnB_run hr2 ⟨fun Y3 w3 hx3 hr3=>?_,fun Y3 w3 hx3 hr3=>?_,fun Y3 w3 hx3 hr3=>?_,fun Y3 w3 hx3 hr3=>?_,trivial⟩
  ·refine zbx (v:=_) rnB_0_end hr3.rep (hback s' _ w3 (.inr ⟨fun hok=>?_,rfl,hBl w3 hr3.chg,rfl⟩) hr3.there)
   have:=hr3.facts _ (List.Mem.head _)
   have h1 : ((Y3.ints.getD 12 0) != 0) = true:=this
   rw [hx3.ints,hi2] at h1
   have h2 : (e != 0) = true:=h1
   rw [he,if_pos hok.1] at h2
   exact absurd h2 (by decide)
  ·refine zbx (v:=_) rnB_1_end hr3.rep (hback s' _ w3 (.inr ⟨fun hok=>?_,rfl,hBl w3 hr3.chg,rfl⟩) hr3.there)
   have:=hr3.facts _ (List.Mem.head _)
   have h1 : ((((Y3.ints.getD 4 0).toNat : Int)) != Y3.ints.getD 2 0) = true:=this
   rw [hx3.ints,hi2] at h1
   have h2 : (((lists.length : Int).toNat : Int) != T) = true:=h1
   rw [<- hok.2.1] at h2
   simp at h2
  ·refine zbx (v:=_) rnB_2_end hr3.rep (hback s' _ w3 (.inr ⟨fun hok=>?_,rfl,hBl w3 hr3.chg,rfl⟩) hr3.there)
   have:=hr3.facts _ (List.Mem.head _)
   have h1 : decide ((((Y3.ints.getD 6 0).toNat : Int)) > 20000) = true:=this
   rw [hx3.ints,hi2] at h1
   have h2 : (((picks.length : Int).toNat : Int)) > 20000:=of_decide_eq_true h1
   have h3:=hok.2.2.1
   omega
  ·have f0 : decide ((((Y3.ints.getD 6 0).toNat : Int)) > 20000) = false:=hr3.facts _ (List.Mem.head _)
   have f1 : ((((Y3.ints.getD 4 0).toNat : Int)) != Y3.ints.getD 2 0) = false:=hr3.facts _ (List.Mem.tail _ (List.Mem.head _))
   have f2 : ((Y3.ints.getD 12 0) != 0) = false:=hr3.facts _ (List.Mem.tail _ (List.Mem.tail _ (List.Mem.head _)))
   have hi3 : Y3.ints = [k,K,T,Mn,(lists.length : Int),(cl : Int),(picks.length : Int),(cP : Int),mem.e,mem.f,mem.h,mem.t,e]:=hx3.ints.trans hi2
   have hy3 : Y3.ys = [fbV Z,v2,v3,v6,v7,v8]:=hx3.ys.trans hy2
   rw [hi3] at f0 f1 f2
   have hpl : picks.length <= 20000:=by
    have : ¬ ((((picks.length : Int)).toNat : Int)) > 20000:=of_decide_eq_false f0
    omega
   have hT : (lists.length : Int) = T:=by
    have : ((((lists.length : Int)).toNat : Int) != T) = false:=f1
    simpa using this
   have hmay : zea k K T Mn = true:=by
    have : (e != 0) = false:=f2
    have h3 : e = 0:=by simpa using this
    rw [he] at h3
    split at h3
    ·assumption
    ·cases h3
   have hl8 : lists.length <= 8:=by
    have h2 : 1 <= K /\ K <= 64 /\ 1 <= T /\ T <= 8 /\ 2 <= Mn /\ Mn <= 64:=by simp [zea,inB] at hmay; omega
    omega
   have hl2 : Y2.blks.length = 4:=by rw [hk2]; exact hr1.len
   have hk3 : ∀ j,j < 4 -> Y3.blks.getD j {} = Y1.blks.getD j {}:=fun j hj=>by rw [hx3.blk (by omega),hk2]
   have hS3 : Below w.heap.size w w3:=hb2.trans (hr3.chg.below hours2 hb2.size)
   have hw3 : ∀ j hb,zm6.heap[j]? = some hb -> hb.wr = true -> w.heap.size <= (Y3.blks.getD j {}).g /\ ((Y3.blks.getD j {}).g < w1.heap.size \/ w2.heap.size <= (Y3.blks.getD j {}).g):=fun j hb hj hwr=>by
    rcases hr3.inS j hb hj hwr with h1 | h1
    ·refine ⟨hours2 _ h1,.inl ?_⟩
     obtain ⟨i,x,hi,hxw,he⟩:=h1
     rw [<- he,hk2]
     exact (hwp i x hi hxw).2
    ·exact ⟨Nat.le_trans hb2.size h1,.inr h1⟩
   have hsz3:=hr3.chg.size
   have hch23 : Chg (fun k=>k < w1.heap.size \/ w2.heap.size <= k) w2 w3:=hr3.chg.mono fun k _ hk=>by
    obtain ⟨j,hb,hj,hwr,rfl⟩:=hk
    rw [hk2]
    exact .inl (hwp j hb hj hwr).2
   have hr3:=hr3.rebase
   refine zmf (fr:=zm6.frs.headD default) (callers:=[]) (p:=rnC_p) (k:=(zm6.frs.headD default).todo.tail) rnC_kd rnC_ord rfl rnC_code rfl rnC_ok hr3 ?_
   refine da_mk (k:=(zm6.frs.headD default).todo.tail) 900 rnC1_grp rnC2_grp (kd_mks rnC_mk) rnC_at rnC_kdi rnC_gd rnC_smk rnC_set rnC_info rfl ?_ ?_ rfl (by kernel_rfl) hr3 fun Y4 w4 hx4 hpre4 hr4=>?_
   ·show 0 <= Y3.ints.getD 2 0
    rw [hi3]
    show 0 <= T
    omega
   ·show (Y3.ints.getD 2 0).toNat <= 1000
    rw [hi3]
    show T.toNat <= 1000
    omega
   show Fr.reach _ X Stop s' (c :: cs) Y4 rnD_in.frs w4
   refine zaa 900 rnD_run hr4 ⟨fun Y5 w5 hx5 hr5=>?_,trivial⟩
   refine zbh rnE_head hr5 fun Y6 w6 hx6 hr6=>?_
   have hx36:=hx4.trans (hx5.trans hx6)
   have hx46:=hx5.trans hx6
   have hi6 : Y6.ints = [k,K,T,Mn,(lists.length : Int),(cl : Int),(picks.length : Int),(cP : Int),mem.e,mem.f,mem.h,mem.t,e]:=hx36.ints.trans hi3
   have hy6 : Y6.ys = [fbV Z,v2,v3,v6,v7,v8]:=hx36.ys.trans hy3
   have hl3 : Y3.blks.length = 5:=hr3.len
   have hk6 : ∀ j,j < 4 -> Y6.blks.getD j {} = Y1.blks.getD j {}:=fun j hj=>by rw [hx36.blk (by omega),hk3 j hj]
   have hl4 : Y4.blks.length = 7:=hr4.len
   have hp6 : (Y6.blks.getD 5 {}).pre = (List.replicate lists.length zTh).flatten /\ (Y6.blks.getD 5 {}).post = [] /\ (Y6.blks.getD 5 {}).cap = lists.length:=by
    rw [hx46.blk (by omega)]
    have:=hpre4
    rw [show (E.den Y3 (.v 2)).toNat = lists.length by show (Y3.ints.getD 2 0).toNat = _; rw [hi3]; show T.toNat = _; omega] at this
    exact this
   have hTr:=hr6.rep.row 5 _ _ _ _ rfl rfl
   have hTb:=(hr6.rep.blk 5 _ rfl rfl).2
   have hRb:=(hr6.rep.blk 6 _ rfl rfl).2
   have hRp:=hr6.rep.pl 6 _ rfl rfl rfl rfl
   have hRo:=(hr6.rep.blk 6 _ rfl rfl).1
   have hGb:=(hr6.rep.blk 3 _ rfl rfl).2
   have hGp:=hr6.rep.pl 3 _ rfl rfl rfl rfl
   have hGo:=(hr6.rep.blk 3 _ rfl rfl).1
   have hnew : ∀ j hb,rnD_0.heap[j]? = some hb -> hb.wr = true -> 5 <= j -> w3.heap.size <= (Y6.blks.getD j {}).g:=fun j hb hj hwr h5=>by
    rcases hr6.inS j hb hj hwr with h1 | h1
    ·obtain ⟨i,x,hi,hxw,he⟩:=h1
     have hi5 : i < 5:=(List.getElem?_eq_some_iff.1 hi).1
     have hxi : ∃ x',rnD_0.heap[i]? = some x' /\ x'.live = true:=by
      rcases i with _ | _ | _ | _ | _ | i
      ·cases hi; cases hxw
      ·cases hi; cases hxw
      ·exact ⟨_,rfl,rfl⟩
      ·exact ⟨_,rfl,rfl⟩
      ·exact ⟨_,rfl,rfl⟩
      ·omega
     obtain ⟨x',hx',hlv⟩:=hxi
     have:=hr6.nd i j x' hb hx' hlv hj hwr (by omega)
     rw [hx36.blk (by omega)] at this
     exact absurd he this
    ·exact h1
   have hgT:=hnew 5 _ rfl rfl (Nat.le_refl _)
   have hgR:=hnew 6 _ rfl rfl (by decide)
   have hg3:=hwp 3 ⟨52,_,true,none,none,none⟩ rfl rfl
   rw [<- hk6 3 (by decide)] at hg3
   have hsz6:=hr6.chg.size
   have hch36 : Chg (fun k=>k < w1.heap.size \/ w2.heap.size <= k) w3 w6:=hr6.chg.mono fun k _ hk=>by
    obtain ⟨j,hb,hj,hwr,rfl⟩:=hk
    exact (hw3 j hb hj hwr).2
   have hc6 : Below w.heap.size w w6:=hS3.trans (hr6.chg.below (fun k hk=>by
    obtain ⟨j,hb,hj,hwr,rfl⟩:=hk
    exact (hw3 j hb hj hwr).1) hS3.size)
   have hs1:=hb1.size
   have hs2:=hbN.size
   have hs0:=hw.size
   generalize hgRe : (Y6.blks.getD 6 {}).g = gR at *
   generalize hgTe : (Y6.blks.getD 5 {}).g = gT at *
   generalize hgre : (Y6.blks.getD 3 {}).g = gr at *
   have hFlt : ∀ k,F k -> k < w.heap.size:=fun k hk=>Z.bound hI k hk
   have hadT : (Y6.blks.getD 5 {}).adr = some ⟨gT,0,none⟩:=by
    unfold Seg.adr
    rw [hTr.2.2.2.2.2.2,hTr.1,hgTe]
   have hRb' : Blk w6 gR 105 (#[fbV Z,.slice (some ⟨gT,0,none⟩) lists.length lists.length,.slice none 0 0,.slice none 0 0] ++ cE):=by
    have h1 : Blk w6 gR 105 ((Y6.blks.getD 6 {}).whole (za3 Y6 ((rnD_0.heap.getD 6 default).cs))).toArray:=hRb
    have h2 : za3 Y6 ((rnD_0.heap.getD 6 default).cs) = [fbV Z,.slice (some ⟨gT,0,none⟩) lists.length lists.length,.slice none 0 0,.slice none 0 0] ++ cE.toList:=by
     show [Y6.ys.getD 0 .nilFunc,Value.slice (Y6.blks.getD 5 {}).adr (Y6.ints.getD 2 0).toNat (Y6.blks.getD 5 {}).cap,.slice none 0 0,.slice none 0 0,.int .u64 (Y6.ints.getD 8 0),.int .u64 (Y6.ints.getD 9 0),Y6.ys.getD 1 .nilFunc,Y6.ys.getD 2 .nilFunc,.int .u64 (Y6.ints.getD 10 0),.int .u64 (Y6.ints.getD 11 0),Y6.ys.getD 3 .nilFunc,Y6.ys.getD 4 .nilFunc,Y6.ys.getD 5 .nilFunc] = _
     rw [hi6,hy6,hadT,hp6.2.2,hcE]
     rw [show (List.getD [k,K,T,Mn,(lists.length : Int),(cl : Int),(picks.length : Int),(cP : Int),mem.e,mem.f,mem.h,mem.t,e] 2 0).toNat = lists.length by show T.toNat = _; omega]
     rfl
    rw [h2] at h1
    have h3 : (Y6.blks.getD 6 {}).whole ([fbV Z,.slice (some ⟨gT,0,none⟩) lists.length lists.length,.slice none 0 0,.slice none 0 0] ++ cE.toList) = [fbV Z,.slice (some ⟨gT,0,none⟩) lists.length lists.length,.slice none 0 0,.slice none 0 0] ++ cE.toList:=by
     unfold Seg.whole
     rw [hRp.1,hRp.2]
     simp
    rw [h3] at h1
    rw [show (#[fbV Z,.slice (some ⟨gT,0,none⟩) lists.length lists.length,.slice none 0 0,.slice none 0 0] ++ cE) = ([fbV Z,.slice (some ⟨gT,0,none⟩) lists.length lists.length,.slice none 0 0,.slice none 0 0] ++ cE.toList).toArray by apply Array.ext'; simp]
    exact h1
   have hTb' : Blk w6 gT 107 (Ths (List.replicate lists.length ⟨.slice none 0 0,.nilIface,⟨0,0,0,0,0⟩,0⟩)):=by
    have h1 : Blk w6 gT 107 ((Y6.blks.getD 5 {}).whole []).toArray:=hTb
    unfold Seg.whole at h1
    rw [hp6.1,hp6.2.1,List.append_nil,List.append_nil,zTh_flat] at h1
    exact h1
   have hGb' : Blk w6 gr 52 zTr.toArray:=by
    have h1 : Blk w6 gr 52 ((Y6.blks.getD 3 {}).whole zTr).toArray:=hGb
    unfold Seg.whole at h1
    rw [hGp.1,hGp.2,List.append_nil,List.nil_append] at h1
    exact h1
   have hmem6 : zbb w6 w6.heap.size mem cE:=(zbb.chg hmem0 (Nat.le_refl _) (hch23.trans (hch36.mono fun k _ hk=>hk)) fun g hg=>by
    rcases hg with h1 | h1
    ·exact hoffN g h1
    ·exact zbd hmem0 h1).more (by omega)
   have hok : (∀ l ∈ lists,l.length <= 1000) -> Okr k K T Mn lists picks:=fun hall=>⟨hmay,hT,hpl,hall⟩
   have hoR : ¬ X.oth s' gR:=hgRe ▸ hr6.own 6 _ rfl rfl
   have hoT : ¬ X.oth s' gT:=hgTe ▸ hr6.own 5 _ rfl rfl
   have hor : ¬ X.oth s' gr:=hgre ▸ hr6.own 3 ⟨52,_,true,none,none,none⟩ rfl rfl
   have hlR : gR < w6.heap.size:=hgRe ▸ hr6.bnd 6 (by decide)
   have hlT : gT < w6.heap.size:=hgTe ▸ hr6.bnd 5 (by decide)
   have hnRT : gR ≠ gT:=by
    have:=hr6.nd 6 5 _ _ rfl rfl rfl rfl (by decide)
    rwa [hgRe,hgTe] at this
   have hrw : ze3 (Z.with_ gr 52 zTr.toArray) s₀ w₀ s' (fun k=>F k \/ k = gr) w6 (Rr.fill lists mem 0) _:=first_run (Z:=Z.with_ gr 52 zTr.toArray) (gR:=gR) (gT:=gT) (cap:=lists.length) (cE:=cE)
    ⟨F,Z.keep hI (fun k hk=>hc6.block k (hk.elim (hFlt k) fun hk=>Nat.lt_of_lt_of_le hk (Nat.le_trans hFB.2 hw.size))) hc6.size hr6.there,fun k=>Iff.rfl,hGb',fun hk=>by have:=hFlt _ hk; omega,hor⟩ hRb' hTb' hmem6 hsmall (fun g hg=>by
     rcases hg with (h1 | rfl) | rfl | rfl
     ·exact hoffN g (by have:=hFlt _ h1; omega)
     ·exact hoffN g hg3.2
     ·exact zbd hmem0 (by omega)
     ·exact zbd hmem0 (by omega)) (fun g hg=>hoffN g (by have:=hw.size; have:=hb1.size; omega)) ⟨Nat.le_refl _,hm⟩ (fun g hg=>by
     rcases hg with rfl | rfl
     ·refine ⟨fun hk=>?_,hoR,hlR,by omega⟩
      rcases hk with hk | rfl
      ·have:=hFlt _ hk; omega
      ·omega
     ·refine ⟨fun hk=>?_,hoT,hlT,by omega⟩
      rcases hk with hk | rfl
      ·have:=hFlt _ hk; omega
      ·omega) hnRT ⟨fun k hk=>by
     rcases hk with hk | rfl
     ·exact hFB.1 k hk
     ·omega,hFB.2⟩ hoth (hw.trans (hc6.mono hw.size))
   refine at1 (Z:=Z) (s:=s') (F:=fun k=>F k \/ k = gr) (w₁:=w) (gr:=gr) (cl:=cl) (mem:=mem) (picks:=picks) hP ⟨hO.1,fun i hi=>by
     obtain ⟨g,o,c',a1,a2,a3,a4⟩:=hO.2 i hi
     exact ⟨g,o,c',a1,a2,fun hk=>hk.elim a3 (fun e=>by omega),a4⟩⟩ hpl hm hg3.1 (fun hall=>by rw [hmm]; exact hpre (hok hall)) (fun w' hex hb' ht'=>?_) (fun hall s'' F'' w' p' hrw' ht'=>hback s'' _ w' (.inl ⟨hok hall,F'',p',rfl,by rw [<- hmm]; exact hrw'⟩) ht') lists.length 0 _ _ _ _ _ _ w6 hrw ⟨rfl,rfl,rfl,by show w.heap.size <= gR; omega,by show w.heap.size <= gT; omega⟩ hc6 hr6.there ⟨?_,rfl,?_,rfl,rfl,(show Y6.perms = [] from zae hr6)⟩ (Nat.sub_zero _) (Nat.zero_le _) (fun j hj hj'=>absurd hj' (Nat.not_lt_zero _)) ?_ ?_ ?_ ?_
   ·obtain ⟨l,hl,hlong⟩:=hex
    exact hback s' _ w' (.inr ⟨fun hok=>by have:=hok.2.2.2 l hl; omega,rfl,hb',rfl⟩) ht'
   ·show [0,Y6.ints.getD 4 0,Y6.ints.getD 5 0,Y6.ints.getD 6 0,Y6.ints.getD 7 0] = _
    rw [hi6]
    rfl
   ·exact (za8 _).trans rfl
   ·dsimp only
    rw [hk6 0 (by decide),hk1 0 (by decide)]
    exact ⟨rfl,rfl⟩
   ·dsimp only
    rw [hk6 1 (by decide),hk1 1 (by decide)]
    exact ⟨hq1a,hq1g,Nat.lt_of_lt_of_le hq1l hc6.size⟩
   ·dsimp only
    exact ⟨hgRe,by rw [hRo,hRp.1]; rfl,hRp⟩
   ·dsimp only
    exact ⟨hgre,by rw [hGo,hGp.1]; rfl,hGp⟩
end
end
end Go.Proofs.Ytonhfgjofgbcdaa.Dr
