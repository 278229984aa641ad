/- A part of this claim's proof. -/
import Derived.Test.YtonhfgjofgbcdaaRws23
set_option linter.unusedSimpArgs false
set_option linter.unusedVariables false
set_option maxRecDepth 20000
namespace Go.Proofs.Ytonhfgjofgbcdaa.Dr
open Go Go.Conc Go.RowKit Jay Pl
open St Sx
noncomputable def yax : List SV:=[Li 0,.bool (.cmp .lss (.v 0) (.lit 0)),.bool (.cmp .lss (.v 0) (.lit 0))]
noncomputable def yc0 : List SV:=[.ptr 0 0,.ptr 0 0,.ptr 0 1]
noncomputable def yc9 : List SV:=[.int .i64 (.tn (.v 1)),.bool (.cmp .geq (.v 0) (.tn (.v 1))),.bool (.cmp .geq (.v 0) (.tn (.v 1)))]
noncomputable def ya6 : List SV:=yc9 ++ yc0
noncomputable def yb8 : List SV:=[.ptr 1 0,.ptr 1 0,.ptr 1 1]
noncomputable def ycg : List SV:=[Li 0,.ptr 1 0] ++ yb8 ++ [.x 2,.bool (.v 5),.bool (.v 6)] ++ xr 3 7 ++ [.bool (.lit false)]
noncomputable def ybj : List SV:=[.ptr 3 0] ++ yax ++ [.ptr 3 0,Li 0] ++ yc0 ++ [.x 0] ++ ya6 ++ [.x 1,.ptr 3 0] ++ ycg ++ [.ptr 3 0]
noncomputable def yb9 : List SV:=[Li 0,.ptr 1 0,.ptr 1 0,.ptr 1 2,.x 10,.x 11]
noncomputable def ybb : List SV:=[.tup [.agg [Lu 20,Lu 21,.y 8,.y 9,Lu 22,Lu 23,.y 10,.y 11,.y 12],Lu 24,.bool (.v 7)]]
noncomputable def ybi : List SV:=[.ptr 0 0,.ptr 0 0,.ptr 0 2]
noncomputable def yc4 : List SV:=[.agg [Lu 5,Lu 6,.y 1,.y 2,Lu 7,Lu 8,.y 3,.y 4,.y 5]]
noncomputable def yca : List SV:=[.agg [Li 11,Li 12,Li 13,Lu 14,Lu 15]]
noncomputable def yas : List SV:=[.ptr 0 0] ++ ybi ++ [.ptr 0 4] ++ yc4 ++ [.ptr 1 0,.ptr 1 0,.ptr 1 2] ++ yca
noncomputable def ya7 : List SV:=yb9 ++ ybb ++ yas ++ ybb ++ [.agg [Lu 20,Lu 21,.y 8,.y 9,Lu 22,Lu 23,.y 10,.y 11,.y 12],Lu 24,.bool (.v 7),.ptr 0 0,.ptr 0 2,.ptr 0 4]
noncomputable def yby : List SV:=[.agg [Li 0,Li 11,Li 12,Li 13,Lu 14,Lu 15,Lu 24,.bool (.v 7)]]
noncomputable def ya0 : List SV:=ybj ++ ya7 ++ [.ptr 4 6,.ptr 4 7,.ptr 0 0] ++ ybi ++ [.ptr 0 2,.x 20] ++ yby ++ [.x 21,.x 22,.ptr 0 0,.ptr 0 2,.ptr 0 2]
noncomputable def yav : List SV:=[.sl (.blk 1) (.v 1) (.e (.v 2))]
noncomputable def ybw : List SV:=[.ptr 1 0,.ptr 1 0,.ptr 1 0]
noncomputable def ycm : List SV:=[.sl (.blk 4) (.v 9) (.e (.v 10))]
noncomputable def yaq : List SV:=[.sl (.sh (.blk 4) (.lit 1) (.v 10) 2) (.su (.tn (.v 9)) (.lit 1)) (.e (.su (.tn (.v 10)) (.lit 1)))]
noncomputable def yc7 : List SV:=[.sl (.blk 2) (.v 4) (.of 2 7)]
noncomputable def yci : List SV:=[.sl (.blk 3) (.v 3) (.of 3 8)]
noncomputable def ya1 : List SV:=[.ptr 0 0,Li 0,.int .u32 (.v 19)] ++ ur 3 ++ [.bool (.lit false),.ptr 1 0,.ptr 6 0] ++ yc0 ++ yav ++ [Li 0] ++ ybw ++ [.ptr 1 0] ++ ycm ++ [.int .i64 (.tn (.v 9)),.bool (.cmp .eql (.tn (.v 9)) (.lit 0))] ++ ybw ++ ycm ++ [.ptr 4 0,.agg [Li 17,.int .u32 (.v 18)]] ++ ybw ++ [.ptr 1 0,.ptr 1 0] ++ ycm ++ yaq ++ ybi ++ [.ptr 0 3] ++ yc7 ++ [.int .i64 (.tn (.v 4))] ++ ybw ++ [.ptr 1 7,.ptr 0 0] ++ ybi ++ [.ptr 0 3] ++ yc7 ++ [Li 0,.ptr 6 0,Li 17,.ptr 6 1,.int .u32 (.v 18)] ++ ybi ++ [.ptr 0 2] ++ yci ++ [.int .i64 (.tn (.v 3)),.agg [Li 0,Li 17,.int .u32 (.v 18),.int .i64 (.tn (.v 3)),.int .i64 (.lit (-1)),.int .i64 (.lit 0),.int .u32 (.lit 0)],.sl (.blk 7) (.lit 1) (.e (.lit 1)),.sl (.blk 8) (.ad (.tn (.v 4)) (.lit 1)) (.of 8 7),.ptr 0 0,.ptr 0 2,.ptr 0 3]
noncomputable def ycc : List SV:=[.sl (.blk 2) (.v 9) (.e (.v 10))]
noncomputable def yar : List SV:=[.sl (.sh (.blk 2) (.lit 1) (.v 10) 2) (.su (.tn (.v 9)) (.lit 1)) (.e (.su (.tn (.v 10)) (.lit 1)))]
noncomputable def ya2 : List SV:=[.ptr 0 0,Li 0,.int .u32 (.v 19)] ++ ur 3 ++ [.bool (.lit false),.ptr 1 0,.ptr 4 0] ++ yc0 ++ yav ++ [Li 0] ++ ybw ++ [.ptr 1 0] ++ ycc ++ [.int .i64 (.tn (.v 9)),.bool (.cmp .eql (.tn (.v 9)) (.lit 0))] ++ ybw ++ ycc ++ [.ptr 2 0,.agg [Li 17,.int .u32 (.v 18)]] ++ ybw ++ [.ptr 1 0,.ptr 1 0] ++ ycc ++ yar ++ ybi ++ [.ptr 0 3,.c (.slice none 0 0),.int .i64 (.lit 0)] ++ ybw ++ [.ptr 1 7,.ptr 0 0] ++ ybi ++ [.ptr 0 3,.c (.slice none 0 0),Li 0,.ptr 4 0,Li 17,.ptr 4 1,.int .u32 (.v 18)] ++ ybi ++ [.ptr 0 2,.c (.slice none 0 0),.int .i64 (.lit 0),.agg [Li 0,Li 17,.int .u32 (.v 18),.int .i64 (.lit 0),.int .i64 (.lit (-1)),.int .i64 (.lit 0),.int .u32 (.lit 0)],.sl (.blk 5) (.lit 1) (.e (.lit 1)),.sl (.blk 6) (.lit 1) (.of 6 7),.ptr 0 0,.ptr 0 2,.ptr 0 3]
noncomputable def ybe : List HB:=[⟨63,[],true,none,some ((.v 3),8,1000000),none⟩]
noncomputable def ycf : List SV:=[Li 17,.int .u32 (.v 18)]
noncomputable def ybl : List HB:=[⟨79,ycf,false,some ((.lit 0),2),none,none⟩]
noncomputable def yb2 : List HB:=[⟨61,[Li 0,.int .u32 (.v 19)],true,none,none,none⟩]
noncomputable def ybs : List SV:=[.int .i64 (.lit (-1)),.int .i64 (.lit 0),.int .u32 (.lit 0)]
noncomputable def ya3 : List HB:=[⟨65,[],false,none,none,none⟩] ++ ybe ++ ybl ++ yb2 ++ [⟨79,ycf,true,none,none,none⟩,⟨65,[Li 0] ++ ycf ++ [.int .i64 (.tn (.v 3))] ++ ybs,true,some ((.lit 0),7),none,none⟩,⟨65,[],true,none,some ((.ad (.tn (.v 4)) (.lit 1)),7,1000001),some (some 2,[Li 0] ++ ycf ++ [.int .i64 (.tn (.v 3))] ++ ybs)⟩]
noncomputable def yau : List SV:=yc7 ++ [Lu 20,Lu 21,.y 8,.y 9,Lu 22,Lu 23,.y 10,.y 11,.y 12]
noncomputable def ybr : List HB:=[⟨105,[.y 0] ++ yav ++ [.sl (.blk 5) (.v 25) (.of 5 8)] ++ yau,true,none,none,none⟩]
noncomputable def yat : List SV:=[Li 11,Li 12,Li 13,Lu 14,Lu 15]
noncomputable def ycd : List HB:=[⟨65,[],true,none,some ((.v 4),7,1000001),none⟩]
noncomputable def yaa : List HB:=[⟨107,[.y 7,.iface 82 (.y 6)] ++ yat ++ [Li 16],true,some ((.v 0),8),none,none⟩] ++ ycd
noncomputable def yc6 : List SV:=[Li 0] ++ yat ++ [Lu 24,.bool (.v 7)]
noncomputable def yaf : List HB:=yb2 ++ [⟨63,yc6,true,none,none,none⟩]
noncomputable def ya4 : List HB:=ybr ++ yaa ++ yaf ++ [⟨63,[],true,none,some ((.v 25),8,1000001),none⟩]
noncomputable def ya5 : List HB:=ybl ++ yb2 ++ [⟨79,ycf,true,none,none,none⟩,⟨65,[Li 0] ++ ycf ++ [.int .i64 (.lit 0)] ++ ybs,true,some ((.lit 0),7),none,none⟩,⟨65,[],true,none,some ((.lit 1),7,1000001),some (none,[Li 0] ++ ycf ++ [.int .i64 (.lit 0)] ++ ybs)⟩]
noncomputable def yap : List (B × Bool):=[((.cmp .leq (.lit 0) (.v 0)),true),((.cmp .lss (.v 0) (.tn (.v 1))),true),((.cmp .lss (.v 0) (.lit 0)),false),((.cmp .geq (.v 0) (.tn (.v 1))),false)]
noncomputable def ya8 : List (B × Bool):=yap ++ [((.cmp .eql (.tn (.v 9)) (.lit 0)),false),((.cmp .lss (.lit 0) (.tn (.v 9))),true),((.cmp .leq (.lit 1) (.tn (.v 9))),true)]
noncomputable def yan : List SV:=[.ptr 0 0,.agg [Li 0,.int .u32 (.v 19)]]
noncomputable def yba : List SV:=yan ++ [u,.ptr 3 0,.ptr 1 0,.ptr 4 0]
noncomputable def ybz : List SV:=yb8 ++ [.iface 82 (.y 6),.ptr 4 6,Lu 24,.ptr 4 7,.bool (.v 7)]
noncomputable def yaz : List SV:=ybz ++ [.tup [.agg [Li 26,Li 27,Li 28,Lu 29,Lu 30],.bool (.v 8)]]
noncomputable def ybx : List SV:=ya0 ++ [.tup [.agg [Li 26,Li 27,Li 28,Lu 29,Lu 30],.bool (.v 8)]] ++ yaz ++ [.agg [Li 26,Li 27,Li 28,Lu 29,Lu 30],.bool (.v 8)]
noncomputable def ybd : List SV:=[.ptr 1 0,.agg [Li 26,Li 27,Li 28,Lu 29,Lu 30],.ptr 1 0,.ptr 1 2,.bool (.v 8)]
noncomputable def ya9 : List SV:=yba ++ [.ptr 6 0,.bool (.v 8),.ptr 2 0] ++ ybx ++ ybd ++ ybi ++ [.ptr 0 3] ++ yc7 ++ [.ptr 1 0,.ptr 1 0,.ptr 1 7,Li 16,.ptr 2 0,.ptr 2 0] ++ ybi ++ [.ptr 0 2,.sl (.blk 5) (.v 25) (.of 5 8),.int .i64 (.tn (.v 25)),.int .i64 (.ar .sub .i64 (.tn (.v 25)) (.lit 1)),.ptr 2 0,.ptr 2 4]
noncomputable def ycj : List SV:=yan ++ [u,.ptr 4 0,.ptr 1 0,.ptr 5 0] ++ ur 3 ++ [.ptr 4 0] ++ yax ++ [.ptr 4 0]
noncomputable def yab : List SV:=ycj ++ [Li 0] ++ yc0 ++ [.x 0] ++ ya6 ++ [.x 1,.ptr 4 0] ++ ycg ++ [.ptr 4 0]
noncomputable def yac : List SV:=yba ++ ur 3 ++ ybj
noncomputable def yad : List SV:=yba ++ [.ptr 6 0,.bool (.v 8),u] ++ ybx
noncomputable def ybh : List SV:=[Li 0] ++ yc0 ++ yav ++ ya6 ++ yav
noncomputable def ybc : List SV:=[Li 0,.ptr 1 0] ++ yb8 ++ [.c .nilIface,.bool (.lit true),.bool (.lit true),.ptr 0 0]
noncomputable def yae : List SV:=[.ptr 3 0] ++ yax ++ [.ptr 3 0] ++ ybh ++ [.ptr 3 0] ++ ybc ++ [.ptr 3 0,Li 0,.ptr 3 1,.int .u32 (.v 19)]
noncomputable def ybg : List SV:=[Lu 5,Lu 6,.y 1,.y 2,Lu 7,Lu 8,.y 3,.y 4,.y 5]
noncomputable def yb7 : List HB:=[⟨105,[.y 0] ++ yav ++ yci ++ yc7 ++ ybg,true,none,none,none⟩]
noncomputable def ybu : List SV:=[.int .u64 (.lit 0),.bool (.lit false)]
noncomputable def yag : List HB:=yb7 ++ yaa ++ ybe ++ yb2 ++ [⟨63,[Li 0] ++ yat ++ ybu,true,none,none,none⟩]
noncomputable def ycb : List SV:=[.ptr 5 0] ++ yax ++ [.ptr 5 0] ++ ybh ++ [.ptr 5 0] ++ ybc ++ [.ptr 5 0,Li 0,.ptr 5 1,.int .u32 (.v 19)]
noncomputable def yah : List Fr:=[⟨41,yan ++ [u,.ptr 5 0,.ptr 1 0] ++ ur 4 ++ ycb ++ ur 96,[.inRegion [0,0,3] [11,12,13],.code (.at_ [1,0,3]),.code (.at_ [4])]⟩]
noncomputable def yai : List HB:=[⟨105,[.y 0] ++ yav ++ yci ++ [.sl (.blk 8) (.ad (.tn (.v 4)) (.lit 1)) (.of 8 7)] ++ ybg,true,none,none,none⟩]
noncomputable def yc8 : List SV:=[Li 0,.agg [Li 17,.int .u32 (.v 18)],.int .u32 (.v 19)]
noncomputable def ybk : List SV:=[.ptr 1 0,.ptr 0 0,.ptr 0 0,.ptr 0 0,.y 0] ++ yc8
noncomputable def yaj : List SV:=ybk ++ [.iface 82 (.y 8)]
noncomputable def yc2 : List SV:=[.y 0] ++ yav ++ [.c (.slice none 0 0)]
noncomputable def yak : List HB:=[⟨105,yc2 ++ [.sl (.blk 6) (.lit 1) (.of 6 7)] ++ ybg,true,none,none,none⟩]
noncomputable def yal : List HB:=ybr ++ [⟨107,[.y 7,.iface 82 (.y 6),Li 26,Li 27,Li 28,Lu 29,Lu 30,Li 16],true,some ((.v 0),8),none,none⟩]
noncomputable def yam : List HB:=[⟨105,yc2 ++ yc7 ++ ybg,true,none,none,none⟩] ++ yaa ++ yb2 ++ [⟨63,[Li 0] ++ yat ++ ybu,true,none,none,none⟩]
noncomputable def yao : List HB:=[⟨105,[.y 0] ++ yav ++ [.y 13,.y 14] ++ ybg,false,none,none,none⟩]
noncomputable def ybp : List HB:=[⟨27,[Li 26,Li 27,Li 28,Lu 29,Lu 30],true,none,none,none⟩]
noncomputable def yaw : List HB:=yaf ++ [⟨63,[],true,none,some ((.v 25),8,1000001),none⟩] ++ ybp
noncomputable def yay : List SV:=yaj ++ [.ptr 1 0,.ptr 1 1,u,.ptr 1 0] ++ yb8 ++ [.iface 82 (.y 8)]
noncomputable def yb0 : List (B × Bool):=[((.cmp .leq (.lit 0) (.v 16)),true),((.cmp .lss (.v 16) (.tn (.v 4))),true)]
noncomputable def yb1 : List Fr:=[⟨41,yan ++ [u,.ptr 3 0,.ptr 1 0] ++ ur 4 ++ yae ++ ur 96,[.inRegion [0,0,3] [11,12,13],.code (.at_ [1,0,3]),.code (.at_ [4])]⟩]
noncomputable def yb3 : List HB:=yai ++ [⟨107,yaq ++ [.iface 82 (.y 8)] ++ yat ++ [.int .i64 (.tn (.v 4))],true,some ((.v 0),8),none,none⟩] ++ ya3
noncomputable def yb4 : List HB:=yai ++ [⟨107,yaq ++ [.c .nilIface] ++ yat ++ [.int .i64 (.tn (.v 4))],true,some ((.v 0),8),none,none⟩] ++ ya3
noncomputable def yb5 : List HB:=yak ++ [⟨107,yar ++ [.iface 82 (.y 8)] ++ yat ++ [.int .i64 (.lit 0)],true,some ((.v 0),8),none,none⟩] ++ ya5
noncomputable def yb6 : List HB:=yak ++ [⟨107,yar ++ [.c .nilIface] ++ yat ++ [.int .i64 (.lit 0)],true,some ((.v 0),8),none,none⟩] ++ ya5
noncomputable def ybf : List SV:=yay ++ [.tup [.agg [Li 20,Li 21,Li 22,Lu 23,Lu 24],.bool (.v 0)]] ++ ur 4
noncomputable def ybm : List Fr:=[⟨41,yan ++ ur 134,[.code (.at_ [])]⟩]
noncomputable def ych : List SV:=[Li 31,Li 32,.int .u32 (.v 33),Li 34,.int .i64 (.ar .sub .i64 (.tn (.v 25)) (.lit 1))]
noncomputable def ybn : List HB:=yal ++ [⟨65,ych ++ [Li 36,.int .u32 (.v 37)],true,some ((.v 16),7),none,none⟩] ++ yaw
noncomputable def ybo : List SV:=[Li 0,.ptr 1 0,.ptr 1 0,.ptr 1 2,.agg [Li 20,Li 21,Li 22,Lu 23,Lu 24],.agg [Li 0,Li 20,Li 21,Li 22,Lu 23,Lu 24,.int .u64 (.lit 0),.bool (.lit false)]] ++ ur 86
noncomputable def ybq : List HB:=yao ++ [⟨107,ycc ++ [.c .nilIface] ++ yat ++ [Li 16],false,some ((.v 0),8),none,none⟩,⟨79,[],false,some ((.lit 0),2),none,none⟩]
noncomputable def ybt : List SV:=ya9 ++ [u,.ptr 2 0,.ptr 2 0] ++ yb8 ++ [.iface 82 (.y 6)]
noncomputable def ybv : List HB:=ya4 ++ [⟨27,[.int .i64 (.lit 0),.int .i64 (.lit 0),.int .i64 (.lit 0),.int .u64 (.lit 0),.int .u64 (.lit 0)],true,none,none,none⟩]
noncomputable def yc1 : List HB:=[⟨105,[.y 0] ++ yav ++ yci ++ yau,true,none,none,none⟩] ++ yaa ++ ybe ++ yaf
noncomputable def yc3 : List HB:=yao ++ [⟨107,[],false,none,none,none⟩]
noncomputable def yc5 : List HB:=yao ++ [⟨107,[.c (.slice none 0 0),.c .nilIface] ++ yat ++ [Li 16],false,some ((.v 0),8),none,none⟩]
noncomputable def yce : List SV:=yaj ++ [.ptr 1 0,.ptr 1 1] ++ ur 11
noncomputable def yck : List SV:=[Li 20,Li 21,Li 22,Lu 23,Lu 24]
noncomputable def ycl : List (B × Bool):=[((.cmp .lss (.v 0) (.lit 0)),false),((.cmp .geq (.v 0) (.tn (.v 1))),true)]
noncomputable def pk_args : List SV:=yan
noncomputable def pk_fr : Fr:=⟨41,yan ++ ur 134,[.code (.at_ [])]⟩
theorem zgt : fresh Try.prog 41 pk_args = some pk_fr:=by kernel_rfl
noncomputable def pkA_in : St:=⟨ybm,yc3,[((.cmp .lss (.v 0) (.lit 0)),true)],0⟩
noncomputable def pkA_0 : St:=⟨[⟨41,yan ++ [u,.ptr 2 0] ++ ur 5 ++ [.ptr 2 0] ++ yax ++ ur 8 ++ [.bool (.lit true)] ++ ur 114,[.code (.at_ [0,1,0,1]),.code (.at_ [2])]⟩],yc3 ++ yb2,[((.cmp .lss (.v 0) (.lit 0)),true)],0⟩
theorem pkA_0_end : zc6 Try.prog pkA_0 = some (.tup []):=by kernel_rfl
theorem pkA_run : run Try.prog [] [10,84,85] true 900 pkA_in = [pkA_0]:=by kernel_rfl
noncomputable def pkB_in : St:=⟨ybm,yc3,ycl,0⟩
noncomputable def pkB_0 : St:=⟨[⟨41,yan ++ [u,.ptr 2 0] ++ ur 5 ++ [.ptr 2 0] ++ yax ++ [.ptr 2 0,Li 0] ++ yc0 ++ yav ++ yc9 ++ ur 114,[.code (.at_ [0,1,0,1]),.code (.at_ [2])]⟩],yc3 ++ yb2,ycl,0⟩
theorem pkB_0_end : zc6 Try.prog pkB_0 = some (.tup []):=by kernel_rfl
theorem pkB_run : run Try.prog [] [10,84,85] true 900 pkB_in = [pkB_0]:=by kernel_rfl
noncomputable def pkN_in : St:=⟨ybm,ybq,yap ++ [((.cmp .eql (.tn (.v 9)) (.lit 0)),true)],0⟩
noncomputable def pkN_0 : St:=⟨[⟨41,yan ++ [u,.ptr 3 0,.ptr 1 0] ++ ur 4 ++ yae ++ [.bool (.lit false),.bool (.lit true),.bool (.lit true)] ++ ur 93,[.code (.at_ [0,1,0,3]),.code (.at_ [4])]⟩],ybq ++ yb2,yap ++ [((.cmp .eql (.tn (.v 9)) (.lit 0)),true)],0⟩
theorem pkN_0_end : zc6 Try.prog pkN_0 = some (.tup []):=by kernel_rfl
theorem pkN_run : run Try.prog [] [10,84,85] true 900 pkN_in = [pkN_0]:=by kernel_rfl
noncomputable def pkM_in : St:=⟨ybm,yc5,yap,0⟩
noncomputable def pkM_0 : St:=⟨[⟨41,yan ++ [u,.ptr 2 0,.ptr 1 0] ++ ur 4 ++ [.ptr 2 0] ++ yax ++ [.ptr 2 0] ++ ybh ++ [.ptr 2 0] ++ ybc ++ [.ptr 2 0,Li 0,.ptr 2 1,.int .u32 (.v 19),.bool (.lit false),.bool (.lit true),.bool (.lit true)] ++ ur 93,[.code (.at_ [0,1,0,3]),.code (.at_ [4])]⟩],yc5 ++ yb2,yap,0⟩
theorem pkM_0_end : zc6 Try.prog pkM_0 = some (.tup []):=by kernel_rfl
theorem pkM_run : run Try.prog [] [10,84,85] true 900 pkM_in = [pkM_0]:=by kernel_rfl
noncomputable def zl9 : St:=⟨ybm,yb7 ++ yaa ++ ybe,yap,0⟩
noncomputable def pkO_0 : St:=⟨[⟨41,ycj ++ ybh ++ [.ptr 4 0,Li 0,.ptr 1 0] ++ yb8 ++ [.iface 82 (.y 6),.bool (.lit false),.bool (.lit false)] ++ ur 7 ++ [.bool (.lit false),.ptr 4 0,Li 0,.ptr 1 0,.ptr 1 0,.ptr 1 2] ++ yca ++ [.agg [Li 0,Li 11,Li 12,Li 13,Lu 14,Lu 15,.int .u64 (.lit 0),.bool (.lit false)]] ++ ur 86,[.code (.at_ [0,5]),.code (.at_ [6])]⟩],yag,yap,0⟩
theorem pkO_run : run Try.prog [] [10,84,85] true 900 zl9 = [pkO_0]:=by kernel_rfl
noncomputable def zl7 : St:=⟨ybm,yb7 ++ [⟨107,ycm ++ [.c .nilIface] ++ yat ++ [Li 16],true,some ((.v 0),8),none,none⟩,⟨65,[],true,none,some ((.v 4),7,1000000),none⟩] ++ ybe ++ ybl,ya8,0⟩
noncomputable def zl8 : St:=⟨[⟨44,ya1 ++ ur 22,[.code (.at_ [0,6]),.code (.at_ [7])]⟩] ++ yah,yb4,ya8,0⟩
theorem pkS_run : run Try.prog [] [10,84,85] true 900 zl7 = [zl8]:=by kernel_rfl
noncomputable def pkS_kd (i : Nat) : Nat:=if [8].contains i then 2 else zh0 [] (za1 Try.prog 44 [0,6]) i
noncomputable def pkS_p : List Nat:=[0,6]
noncomputable def pkS_ord : List Nat:=[0,1,2,3,4,5,6,7,8,9,10,11]
theorem pkS_code : zbo Try.prog 44 [0,6] = some (.region 7 (za1 Try.prog 44 [0,6]) true):=by kernel_rfl
theorem pkS_ok : zbk Try.prog (za1 Try.prog 44 pkS_p) (zc0 (za1 Try.prog 44 pkS_p)) pkS_kd pkS_ord = true:=by kernel_rfl
noncomputable def pkS1_ti : List SV:=ya1 ++ ur 22
noncomputable def pkS1_hi : List HB:=yb4
noncomputable def zo1 : List SV:=ya1 ++ ybk ++ ur 14
noncomputable def pkS1_ho : List HB:=yb4
theorem pkS1_grp : zd7 Try.prog (run Try.prog [] [10,84,85] true 900) zl8.facts 0 (za1 Try.prog 44 [0,6]) pkS_kd (fun i=>i == 8) zl8.frs.tail [0,1,2,3,4,5,6,7,8,9,10,11] pkS1_ti pkS1_hi = .halt [8,9,10,11] zo1 pkS1_ho:=by kernel_rfl
noncomputable def pkS_op : Oper:=(za1 Try.prog 44 [0,6]).getD 8 default
theorem pkS_at : (za1 Try.prog 44 [0,6])[8]? = some pkS_op:=by kernel_rfl
theorem pkS_kdi : pkS_kd 8 = 2:=by kernel_rfl
theorem pkS_gd : guardOf zl8.facts (za1 Try.prog 44 [0,6]) zo1 pkS_op = .yes:=by kernel_rfl
noncomputable def zk1 : List SV:=yc8
theorem pkS_call : callV zo1 pkS_op.op = some (.y 0,zk1):=by kernel_rfl
noncomputable def pkS2_ti : List SV:=ya1 ++ yaj ++ ur 13
noncomputable def pkS2_hi : List HB:=yb4
noncomputable def pkS2_to : List SV:=ya1 ++ yce
noncomputable def pkS2_ho : List HB:=yb3
theorem pkS2_grp : zd7 Try.prog (run Try.prog [] [10,84,85] true 900) zl8.facts 0 (za1 Try.prog 44 [0,6]) pkS_kd (fun _=>false) zl8.frs.tail [9,10,11] pkS2_ti pkS2_hi = .done pkS2_to pkS2_ho:=by kernel_rfl
theorem pkS_set : zgp zo1 pkS_op.dst (.iface 82 (.y 8)) = pkS2_ti:=by kernel_rfl
noncomputable def pkT_in : St:=⟨[⟨44,ya1 ++ yce,[.code (.at_ [7])]⟩] ++ yah,yb3,ya8,0⟩
noncomputable def pkT_0 : St:=⟨[⟨44,ya1 ++ yay ++ ur 5,[.inRegion [0,7] [5,6,7,8,9,10,11],.code (.at_ [8])]⟩] ++ yah,yb3,ya8,0⟩
theorem pkT_run : run Try.prog [] [10,84,85] true 900 pkT_in = [pkT_0]:=by kernel_rfl
noncomputable def pkT_op : Oper:=(za1 Try.prog 44 [0,7]).getD 5 default
theorem pkT_at : (za1 Try.prog 44 [0,7])[5]? = some pkT_op:=by kernel_rfl
noncomputable def pkT_fr : Fr:=⟨44,ya1 ++ yay ++ ur 5,[.inRegion [0,7] [5,6,7,8,9,10,11],.code (.at_ [8])]⟩
theorem pkT_gd : guardOf pkT_0.facts (za1 Try.prog 44 [0,7]) pkT_fr.tmps pkT_op = .yes:=by kernel_rfl
noncomputable def zo0 : List SV:=[.y 8] ++ ybu
theorem pkT_call : zc1 Try.prog pkT_fr.tmps pkT_op.op = some (84,zo0):=by kernel_rfl
theorem pkT_fresh : (fresh Try.prog 84 zo0).isSome = true:=by kernel_rfl
noncomputable def pkT_frb : Fr:=⟨44,ya1 ++ ybf,[.inRegion [0,7] [6,7,8,9,10,11],.code (.at_ [8])]⟩
theorem pkT_put : Fr.put pkT_fr pkT_op.dst (.tup [.agg [.int .i64 (.v 20),.int .i64 (.v 21),.int .i64 (.v 22),.int .u64 (.v 23),.int .u64 (.v 24)],.bool (.v 0)]) ([.inRegion [0,7] [6,7,8,9,10,11],.code (.at_ [8])]) = pkT_frb:=by kernel_rfl
noncomputable def pkU_in : St:=⟨[⟨44,ya1 ++ ybf,[.inRegion [0,7] [6,7,8,9,10,11],.code (.at_ [8])]⟩] ++ yah,yb3,ya8,0⟩
noncomputable def pkU_0 : St:=⟨[⟨41,yan ++ [u,.ptr 5 0,.ptr 1 0,.ptr 9 0] ++ ur 3 ++ ycb ++ [.bool (.lit true),.bool (.lit false),.bool (.lit false),.ptr 5 0] ++ ybo,[.code (.at_ [0,5]),.code (.at_ [6])]⟩],yai ++ [⟨107,yaq ++ [.iface 82 (.y 8)] ++ yck ++ [.int .i64 (.tn (.v 4))],true,some ((.v 0),8),none,none⟩] ++ ya3 ++ [⟨63,[Li 0] ++ yck ++ ybu,true,none,none,none⟩],ya8,0⟩
theorem pkU_run : run Try.prog [] [10,84,85] true 900 pkU_in = [pkU_0]:=by kernel_rfl
noncomputable def pk5 : St:=⟨[⟨41,yab ++ yb9 ++ ur 86,[.code (.at_ [0,5]),.code (.at_ [6])]⟩],yag,[],0⟩
noncomputable def pkO_sub : Sub:=⟨[(.v 0),(.v 1),(.v 2),(.v 3),(.v 4),(.v 5),(.v 6),(.v 7),(.v 8),(.lit 0),(.lit 0),(.v 11),(.v 12),(.v 13),(.v 14),(.v 15),(.v 16),(.lit 0),(.lit 0),(.v 19)],[(.lit false),(.lit false),(.lit false),(.lit false),(.lit false),(.lit false),(.lit false)],[.sl (.blk 1) (.v 1) (.e (.v 2)),.sl (.blk 1) (.v 1) (.e (.v 2)),.iface 82 (.y 6),u,u,u,u,u,u,u,.agg [.int .i64 (.v 11),.int .i64 (.v 12),.int .i64 (.v 13),.int .u64 (.v 14),.int .u64 (.v 15)],.agg [.int .i64 (.v 0),.int .i64 (.v 11),.int .i64 (.v 12),.int .i64 (.v 13),.int .u64 (.v 14),.int .u64 (.v 15),.int .u64 (.lit 0),.bool (.lit false)]],[.y 0,.y 1,.y 2,.y 3,.y 4,.y 5,.y 6,.y 7],[0,1,2,3,4,5]⟩
theorem pkO_sub_fits : Fits pkO_sub pkO_0 pk5:=⟨by kernel_rfl,by kernel_rfl,by kernel_rfl,by kernel_rfl⟩
noncomputable def pkU_sub : Sub:=⟨[(.v 0),(.v 1),(.v 2),(.v 3),(.ad (.tn (.v 4)) (.lit 1)),(.v 5),(.v 6),(.v 7),(.v 8),(.lit 0),(.lit 0),(.v 20),(.v 21),(.v 22),(.v 23),(.v 24),(.tn (.v 4)),(.lit 0),(.lit 0),(.v 19)],[(.lit false),(.lit false),(.lit false),(.lit false),(.lit false),(.lit true),(.lit true)],[.sl (.blk 1) (.v 1) (.e (.v 2)),.sl (.blk 1) (.v 1) (.e (.v 2)),.c .nilIface,.ptr 0 0,.ptr 5 0,.int .i64 (.v 0),.ptr 5 1,.int .u32 (.v 19),.bool (.lit true),.bool (.lit false),.agg [.int .i64 (.v 20),.int .i64 (.v 21),.int .i64 (.v 22),.int .u64 (.v 23),.int .u64 (.v 24)],.agg [.int .i64 (.v 0),.int .i64 (.v 20),.int .i64 (.v 21),.int .i64 (.v 22),.int .u64 (.v 23),.int .u64 (.v 24),.int .u64 (.lit 0),.bool (.lit false)]],[.y 0,.y 1,.y 2,.y 3,.y 4,.y 5,.y 8,.sl (.sh (.blk 4) (.lit 1) (.v 10) 2) (.su (.tn (.v 9)) (.lit 1)) (.e (.su (.tn (.v 10)) (.lit 1)))],[0,1,8,3,5,9]⟩
theorem pkU_sub_fits : Fits pkU_sub pkU_0 pk5:=⟨by kernel_rfl,by kernel_rfl,by kernel_rfl,by kernel_rfl⟩
noncomputable def pk5_kd (i : Nat) : Nat:=if [10].contains i then 2 else zh0 [] (za1 Try.prog 41 [0,5]) i
noncomputable def pk5_p : List Nat:=[0,5]
noncomputable def pk5_ord : List Nat:=[0,1,2,3,4,5,6,7,8,9,10,11,12,13,14,15,16,17,18,19,20,21,22]
theorem pk5_code : zbo Try.prog 41 [0,5] = some (.region 5 (za1 Try.prog 41 [0,5]) true):=by kernel_rfl
theorem pk5_ok : zbk Try.prog (za1 Try.prog 41 pk5_p) (zc0 (za1 Try.prog 41 pk5_p)) pk5_kd pk5_ord = true:=by kernel_rfl
noncomputable def pk51_ti : List SV:=yab ++ yb9 ++ ur 86
noncomputable def pk51_hi : List HB:=yag
noncomputable def zo3 : List SV:=yab ++ yb9 ++ [u] ++ yas ++ ur 75
noncomputable def zo4 : List HB:=yag
theorem pk51_grp : zd7 Try.prog (run Try.prog [] [10,84,85] true 900) pk5.facts 0 (za1 Try.prog 41 [0,5]) pk5_kd (fun i=>i == 10) pk5.frs.tail [0,1,2,3,4,5,6,7,8,9,10,11,12,13,14,15,16,17,18,19,20,21,22] pk51_ti pk51_hi = .halt [10,11,12,13,14,15,16,17,18,19,20,21,22] zo3 zo4:=by kernel_rfl
noncomputable def pk5_op : Oper:=(za1 Try.prog 41 [0,5]).getD 10 default
theorem pk5_at : (za1 Try.prog 41 [0,5])[10]? = some pk5_op:=by kernel_rfl
theorem pk5_kdi : pk5_kd 10 = 2:=by kernel_rfl
theorem pk5_gd : guardOf [] (za1 Try.prog 41 [0,5]) zo3 pk5_op = .yes:=by kernel_rfl
noncomputable def zgu : List SV:=yc4 ++ yca
theorem pk5_call : zc1 Try.prog zo3 pk5_op.op = some (10,zgu):=by kernel_rfl
theorem pk5_fresh : (fresh Try.prog 10 zgu).isSome = true:=by kernel_rfl
noncomputable def pk52_ti : List SV:=yab ++ yb9 ++ [u] ++ yas ++ ybb ++ ur 74
noncomputable def pk52_hi : List HB:=yag
noncomputable def pk52_to : List SV:=yab ++ ya7 ++ [.ptr 5 6,.ptr 5 7] ++ ur 66
noncomputable def pk52_ho : List HB:=yc1
theorem pk52_grp : zd7 Try.prog (run Try.prog [] [10,84,85] true 900) pk5.facts 0 (za1 Try.prog 41 [0,5]) pk5_kd (fun _=>false) pk5.frs.tail [11,12,13,14,15,16,17,18,19,20,21,22] pk52_ti pk52_hi = .done pk52_to pk52_ho:=by kernel_rfl
theorem pk5_set : zgp zo3 pk5_op.dst (.tup [.agg [.int .u64 (.v 20),.int .u64 (.v 21),.y 8,.y 9,.int .u64 (.v 22),.int .u64 (.v 23),.y 10,.y 11,.y 12],.int .u64 (.v 24),.bool (.v 7)]) = pk52_ti:=by kernel_rfl
noncomputable def pk6_in : St:=⟨[⟨41,yab ++ ya7 ++ [.ptr 5 6,.ptr 5 7] ++ ur 66,[.code (.at_ [6])]⟩],yc1,[],0⟩
noncomputable def pk6_0 : St:=⟨[⟨41,yab ++ ya7 ++ [.ptr 5 6,.ptr 5 7,.ptr 0 0] ++ ybi ++ [.ptr 0 2] ++ yci ++ yby ++ [.sl (.blk 6) (.lit 1) (.e (.lit 1)),.sl (.blk 7) (.ad (.tn (.v 3)) (.lit 1)) (.of 7 8),.ptr 0 0,.ptr 0 2,.ptr 0 2] ++ ur 54,[.code (.at_ [0,7]),.code (.at_ [8])]⟩],[⟨105,[.y 0] ++ yav ++ [.sl (.blk 7) (.ad (.tn (.v 3)) (.lit 1)) (.of 7 8)] ++ yau,true,none,none,none⟩] ++ yaa ++ [⟨63,[],false,none,none,none⟩] ++ yaf ++ [⟨63,yc6,true,some ((.lit 0),8),none,none⟩,⟨63,[],true,none,some ((.ad (.tn (.v 3)) (.lit 1)),8,1000001),some (some 3,yc6)⟩],[],0⟩
theorem pk6_run : run Try.prog [] [10,84,85] true 900 pk6_in = [pk6_0]:=by kernel_rfl
noncomputable def zl5 : St:=⟨ybm,[⟨105,yc2 ++ [.c (.slice none 0 0)] ++ ybg,true,none,none,none⟩,⟨107,ycc ++ [.c .nilIface] ++ yat ++ [Li 16],true,some ((.v 0),8),none,none⟩] ++ ybl,ya8,0⟩
noncomputable def zl6 : St:=⟨[⟨44,ya2 ++ ur 22,[.code (.at_ [0,6]),.code (.at_ [7])]⟩] ++ yb1,yb6,ya8,0⟩
theorem pnS_run : run Try.prog [] [10,84,85] true 900 zl5 = [zl6]:=by kernel_rfl
noncomputable def pnS_kd (i : Nat) : Nat:=if [8].contains i then 2 else zh0 [] (za1 Try.prog 44 [0,6]) i
noncomputable def pnS_p : List Nat:=[0,6]
noncomputable def pnS_ord : List Nat:=[0,1,2,3,4,5,6,7,8,9,10,11]
theorem pnS_code : zbo Try.prog 44 [0,6] = some (.region 7 (za1 Try.prog 44 [0,6]) true):=by kernel_rfl
theorem pnS_ok : zbk Try.prog (za1 Try.prog 44 pnS_p) (zc0 (za1 Try.prog 44 pnS_p)) pnS_kd pnS_ord = true:=by kernel_rfl
noncomputable def pnS1_ti : List SV:=ya2 ++ ur 22
noncomputable def pnS1_hi : List HB:=yb6
noncomputable def znx : List SV:=ya2 ++ ybk ++ ur 14
noncomputable def pnS1_ho : List HB:=yb6
theorem pnS1_grp : zd7 Try.prog (run Try.prog [] [10,84,85] true 900) zl6.facts 0 (za1 Try.prog 44 [0,6]) pnS_kd (fun i=>i == 8) zl6.frs.tail [0,1,2,3,4,5,6,7,8,9,10,11] pnS1_ti pnS1_hi = .halt [8,9,10,11] znx pnS1_ho:=by kernel_rfl
noncomputable def pnS_op : Oper:=(za1 Try.prog 44 [0,6]).getD 8 default
theorem pnS_at : (za1 Try.prog 44 [0,6])[8]? = some pnS_op:=by kernel_rfl
theorem pnS_kdi : pnS_kd 8 = 2:=by kernel_rfl
theorem pnS_gd : guardOf zl6.facts (za1 Try.prog 44 [0,6]) znx pnS_op = .yes:=by kernel_rfl
noncomputable def zk0 : List SV:=yc8
theorem pnS_call : callV znx pnS_op.op = some (.y 0,zk0):=by kernel_rfl
noncomputable def pnS2_ti : List SV:=ya2 ++ yaj ++ ur 13
noncomputable def pnS2_hi : List HB:=yb6
noncomputable def pnS2_to : List SV:=ya2 ++ yce
noncomputable def pnS2_ho : List HB:=yb5
theorem pnS2_grp : zd7 Try.prog (run Try.prog [] [10,84,85] true 900) zl6.facts 0 (za1 Try.prog 44 [0,6]) pnS_kd (fun _=>false) zl6.frs.tail [9,10,11] pnS2_ti pnS2_hi = .done pnS2_to pnS2_ho:=by kernel_rfl
theorem pnS_set : zgp znx pnS_op.dst (.iface 82 (.y 8)) = pnS2_ti:=by kernel_rfl
noncomputable def pnT_in : St:=⟨[⟨44,ya2 ++ yce,[.code (.at_ [7])]⟩] ++ yb1,yb5,ya8,0⟩
noncomputable def pnT_0 : St:=⟨[⟨44,ya2 ++ yay ++ ur 5,[.inRegion [0,7] [5,6,7,8,9,10,11],.code (.at_ [8])]⟩] ++ yb1,yb5,ya8,0⟩
theorem pnT_run : run Try.prog [] [10,84,85] true 900 pnT_in = [pnT_0]:=by kernel_rfl
noncomputable def pnT_op : Oper:=(za1 Try.prog 44 [0,7]).getD 5 default
theorem pnT_at : (za1 Try.prog 44 [0,7])[5]? = some pnT_op:=by kernel_rfl
noncomputable def pnT_fr : Fr:=⟨44,ya2 ++ yay ++ ur 5,[.inRegion [0,7] [5,6,7,8,9,10,11],.code (.at_ [8])]⟩
theorem pnT_gd : guardOf pnT_0.facts (za1 Try.prog 44 [0,7]) pnT_fr.tmps pnT_op = .yes:=by kernel_rfl
noncomputable def znw : List SV:=[.y 8] ++ ybu
theorem pnT_call : zc1 Try.prog pnT_fr.tmps pnT_op.op = some (84,znw):=by kernel_rfl
theorem pnT_fresh : (fresh Try.prog 84 znw).isSome = true:=by kernel_rfl
noncomputable def pnT_frb : Fr:=⟨44,ya2 ++ ybf,[.inRegion [0,7] [6,7,8,9,10,11],.code (.at_ [8])]⟩
theorem pnT_put : Fr.put pnT_fr pnT_op.dst (.tup [.agg [.int .i64 (.v 20),.int .i64 (.v 21),.int .i64 (.v 22),.int .u64 (.v 23),.int .u64 (.v 24)],.bool (.v 0)]) ([.inRegion [0,7] [6,7,8,9,10,11],.code (.at_ [8])]) = pnT_frb:=by kernel_rfl
noncomputable def pnU_in : St:=⟨[⟨44,ya2 ++ ybf,[.inRegion [0,7] [6,7,8,9,10,11],.code (.at_ [8])]⟩] ++ yb1,yb5,ya8,0⟩
noncomputable def pnU_0 : St:=⟨[⟨41,yan ++ [u,.ptr 3 0,.ptr 1 0,.ptr 7 0] ++ ur 3 ++ yae ++ [.bool (.lit true),.bool (.lit false),.bool (.lit false),.ptr 3 0] ++ ybo,[.code (.at_ [0,5]),.code (.at_ [6])]⟩],yak ++ [⟨107,yar ++ [.iface 82 (.y 8)] ++ yck ++ [.int .i64 (.lit 0)],true,some ((.v 0),8),none,none⟩] ++ ya5 ++ [⟨63,[Li 0] ++ yck ++ ybu,true,none,none,none⟩],ya8,0⟩
theorem pnU_run : run Try.prog [] [10,84,85] true 900 pnU_in = [pnU_0]:=by kernel_rfl
noncomputable def pn5 : St:=⟨[⟨41,yac ++ yb9 ++ ur 86,[.code (.at_ [0,5]),.code (.at_ [6])]⟩],yam,[],0⟩
noncomputable def pnU_sub : Sub:=⟨[(.v 0),(.v 1),(.v 2),(.lit 0),(.lit 1),(.v 5),(.v 6),(.v 7),(.v 8),(.lit 0),(.lit 0),(.v 20),(.v 21),(.v 22),(.v 23),(.v 24),(.lit 0),(.lit 0),(.lit 0),(.v 19)],[(.lit false),(.lit false),(.lit false),(.lit false),(.lit false),(.lit true),(.lit true)],[.sl (.blk 1) (.v 1) (.e (.v 2)),.sl (.blk 1) (.v 1) (.e (.v 2)),.c .nilIface,.ptr 0 0,.ptr 3 0,.int .i64 (.v 0),.ptr 3 1,.int .u32 (.v 19),.bool (.lit true),.bool (.lit false),.agg [.int .i64 (.v 20),.int .i64 (.v 21),.int .i64 (.v 22),.int .u64 (.v 23),.int .u64 (.v 24)],.agg [.int .i64 (.v 0),.int .i64 (.v 20),.int .i64 (.v 21),.int .i64 (.v 22),.int .u64 (.v 23),.int .u64 (.v 24),.int .u64 (.lit 0),.bool (.lit false)]],[.y 0,.y 1,.y 2,.y 3,.y 4,.y 5,.y 8,.sl (.sh (.blk 2) (.lit 1) (.v 10) 2) (.su (.tn (.v 9)) (.lit 1)) (.e (.su (.tn (.v 10)) (.lit 1)))],[0,1,6,3,7]⟩
theorem pnU_sub_fits : Fits pnU_sub pnU_0 pn5:=⟨by kernel_rfl,by kernel_rfl,by kernel_rfl,by kernel_rfl⟩
noncomputable def pn5_kd (i : Nat) : Nat:=if [10].contains i then 2 else zh0 [] (za1 Try.prog 41 [0,5]) i
noncomputable def pn5_p : List Nat:=[0,5]
noncomputable def pn5_ord : List Nat:=[0,1,2,3,4,5,6,7,8,9,10,11,12,13,14,15,16,17,18,19,20,21,22]
theorem pn5_code : zbo Try.prog 41 [0,5] = some (.region 5 (za1 Try.prog 41 [0,5]) true):=by kernel_rfl
theorem pn5_ok : zbk Try.prog (za1 Try.prog 41 pn5_p) (zc0 (za1 Try.prog 41 pn5_p)) pn5_kd pn5_ord = true:=by kernel_rfl
noncomputable def pn51_ti : List SV:=yac ++ yb9 ++ ur 86
noncomputable def pn51_hi : List HB:=yam
noncomputable def zny : List SV:=yac ++ yb9 ++ [u] ++ yas ++ ur 75
noncomputable def znz : List HB:=yam
theorem pn51_grp : zd7 Try.prog (run Try.prog [] [10,84,85] true 900) pn5.facts 0 (za1 Try.prog 41 [0,5]) pn5_kd (fun i=>i == 10) pn5.frs.tail [0,1,2,3,4,5,6,7,8,9,10,11,12,13,14,15,16,17,18,19,20,21,22] pn51_ti pn51_hi = .halt [10,11,12,13,14,15,16,17,18,19,20,21,22] zny znz:=by kernel_rfl
noncomputable def pn5_op : Oper:=(za1 Try.prog 41 [0,5]).getD 10 default
theorem pn5_at : (za1 Try.prog 41 [0,5])[10]? = some pn5_op:=by kernel_rfl
theorem pn5_kdi : pn5_kd 10 = 2:=by kernel_rfl
theorem pn5_gd : guardOf [] (za1 Try.prog 41 [0,5]) zny pn5_op = .yes:=by kernel_rfl
noncomputable def zgs : List SV:=yc4 ++ yca
theorem pn5_call : zc1 Try.prog zny pn5_op.op = some (10,zgs):=by kernel_rfl
theorem pn5_fresh : (fresh Try.prog 10 zgs).isSome = true:=by kernel_rfl
noncomputable def pn52_ti : List SV:=yac ++ yb9 ++ [u] ++ yas ++ ybb ++ ur 74
noncomputable def pn52_hi : List HB:=yam
noncomputable def pn52_to : List SV:=yac ++ ya7 ++ [.ptr 4 6,.ptr 4 7] ++ ur 66
noncomputable def pn52_ho : List HB:=[⟨105,yc2 ++ yau,true,none,none,none⟩] ++ yaa ++ yaf
theorem pn52_grp : zd7 Try.prog (run Try.prog [] [10,84,85] true 900) pn5.facts 0 (za1 Try.prog 41 [0,5]) pn5_kd (fun _=>false) pn5.frs.tail [11,12,13,14,15,16,17,18,19,20,21,22] pn52_ti pn52_hi = .done pn52_to pn52_ho:=by kernel_rfl
theorem pn5_set : zgp zny pn5_op.dst (.tup [.agg [.int .u64 (.v 20),.int .u64 (.v 21),.y 8,.y 9,.int .u64 (.v 22),.int .u64 (.v 23),.y 10,.y 11,.y 12],.int .u64 (.v 24),.bool (.v 7)]) = pn52_ti:=by kernel_rfl
noncomputable def pn6_in : St:=⟨[⟨41,yac ++ ya7 ++ [.ptr 4 6,.ptr 4 7] ++ ur 66,[.code (.at_ [6])]⟩],[⟨105,yc2 ++ yau,true,none,none,none⟩] ++ yaa ++ yaf,[],0⟩
noncomputable def pn6_0 : St:=⟨[⟨41,yac ++ ya7 ++ [.ptr 4 6,.ptr 4 7,.ptr 0 0] ++ ybi ++ [.ptr 0 2,.c (.slice none 0 0)] ++ yby ++ [.sl (.blk 5) (.lit 1) (.e (.lit 1)),.sl (.blk 6) (.lit 1) (.of 6 8),.ptr 0 0,.ptr 0 2,.ptr 0 2] ++ ur 54,[.code (.at_ [0,7]),.code (.at_ [8])]⟩],[⟨105,[.y 0] ++ yav ++ [.sl (.blk 6) (.lit 1) (.of 6 8)] ++ yau,true,none,none,none⟩] ++ yaa ++ yaf ++ [⟨63,yc6,true,some ((.lit 0),8),none,none⟩,⟨63,[],true,none,some ((.lit 1),8,1000001),some (none,yc6)⟩],[],0⟩
theorem pn6_run : run Try.prog [] [10,84,85] true 900 pn6_in = [pn6_0]:=by kernel_rfl
noncomputable def p6 : St:=⟨[⟨41,yba ++ ur 3 ++ ya0 ++ ur 54,[.code (.at_ [0,7]),.code (.at_ [8])]⟩],ya4,[],0⟩
noncomputable def pk6_sub : Sub:=⟨[(.v 0),(.v 1),(.v 2),(.lit 0),(.v 4),(.v 5),(.v 6),(.v 7),(.v 8),(.lit 0),(.lit 0),(.v 11),(.v 12),(.v 13),(.v 14),(.v 15),(.v 16),(.lit 0),(.lit 0),(.v 19),(.v 20),(.v 21),(.v 22),(.v 23),(.v 24),(.ad (.tn (.v 3)) (.lit 1))],[(.lit false),(.lit false),(.lit false),(.lit false),(.lit false),(.v 5),(.v 6),(.v 7)],[.x 0,.x 1,.x 2,.x 3,.x 4,.x 5,.x 6,.x 7,.x 8,.x 9,.x 10,.x 11,u,u,u,u,u,u,u,u,.sl (.blk 3) (.v 3) (.of 3 8),.sl (.blk 6) (.lit 1) (.e (.lit 1)),.sl (.blk 7) (.ad (.tn (.v 3)) (.lit 1)) (.of 7 8)],[.y 0,.y 1,.y 2,.y 3,.y 4,.y 5,.y 6,.y 7,.y 8,.y 9,.y 10,.y 11,.y 12],[0,1,2,4,5,7]⟩
theorem pk6_sub_fits : Fits pk6_sub pk6_0 p6:=⟨by kernel_rfl,by kernel_rfl,by kernel_rfl,by kernel_rfl⟩
noncomputable def pn6_sub : Sub:=⟨[(.v 0),(.v 1),(.v 2),(.lit 0),(.v 4),(.v 5),(.v 6),(.v 7),(.v 8),(.lit 0),(.lit 0),(.v 11),(.v 12),(.v 13),(.v 14),(.v 15),(.v 16),(.lit 0),(.lit 0),(.v 19),(.v 20),(.v 21),(.v 22),(.v 23),(.v 24),(.lit 1)],[(.lit false),(.lit false),(.lit false),(.lit false),(.lit false),(.v 5),(.v 6),(.v 7)],[.x 0,.x 1,.x 2,.x 3,.x 4,.x 5,.x 6,.x 7,.x 8,.x 9,.x 10,.x 11,u,u,u,u,u,u,u,u,.c (.slice none 0 0),.sl (.blk 5) (.lit 1) (.e (.lit 1)),.sl (.blk 6) (.lit 1) (.of 6 8)],[.y 0,.y 1,.y 2,.y 3,.y 4,.y 5,.y 6,.y 7,.y 8,.y 9,.y 10,.y 11,.y 12],[0,1,2,3,4,6]⟩
theorem pn6_sub_fits : Fits pn6_sub pn6_0 p6:=⟨by kernel_rfl,by kernel_rfl,by kernel_rfl,by kernel_rfl⟩
noncomputable def p6_kd (i : Nat) : Nat:=if [8].contains i then 2 else zh0 [] (za1 Try.prog 41 [0,7]) i
noncomputable def p6_p : List Nat:=[0,7]
noncomputable def p6_ordA : List Nat:=[0,1,2,3,4,5,6,7,8,9,10,11,12,13,14]
noncomputable def p6_ordB : List Nat:=[0,1,2,3,4,5,6,7,12,8,9,10,11,13,14]
theorem p6_code : zbo Try.prog 41 [0,7] = some (.region 7 (za1 Try.prog 41 [0,7]) true):=by kernel_rfl
theorem p6_ok : zcu Try.prog (za1 Try.prog 41 p6_p) (zc0 (za1 Try.prog 41 p6_p)) [8,12] p6_kd [(8,p6_ordA),(12,p6_ordB)] = true:=by kernel_rfl
noncomputable def p7a1_ti : List SV:=yba ++ ur 3 ++ ya0 ++ ur 54
noncomputable def p7a1_hi : List HB:=ya4
noncomputable def zo8 : List SV:=yba ++ ur 3 ++ ya0 ++ [u] ++ ybz ++ ur 45
noncomputable def p7a1_ho : List HB:=ya4
theorem p7a1_grp : zd7 Try.prog (run Try.prog [] [10,84,85] true 900) p6.facts 0 (za1 Try.prog 41 [0,7]) p6_kd (fun i=>i == 8) p6.frs.tail [0,1,2,3,4,5,6,7,8,9,10,11,12,13,14] p7a1_ti p7a1_hi = .halt [8,9,10,11,12,13,14] zo8 p7a1_ho:=by kernel_rfl
noncomputable def p7a_op : Oper:=(za1 Try.prog 41 [0,7]).getD 8 default
theorem p7a_at : (za1 Try.prog 41 [0,7])[8]? = some p7a_op:=by kernel_rfl
theorem p7a_kdi : p6_kd 8 = 2:=by kernel_rfl
theorem p7a_gd : guardOf [] (za1 Try.prog 41 [0,7]) zo8 p7a_op = .yes:=by kernel_rfl
noncomputable def zo7 : List SV:=[.y 6,Lu 24,.bool (.v 7)]
theorem p7a_call : zc1 Try.prog zo8 p7a_op.op = some (84,zo7):=by kernel_rfl
theorem p7a_fresh : (fresh Try.prog 84 zo7).isSome = true:=by kernel_rfl
noncomputable def p7a2_ti : List SV:=yba ++ ur 3 ++ ya0 ++ [u] ++ yaz ++ ur 44
noncomputable def p7a2_hi : List HB:=ya4
noncomputable def p7a2_to : List SV:=yad ++ ur 42
noncomputable def p7a2_ho : List HB:=ya4 ++ ybp
theorem p7a2_grp : zd7 Try.prog (run Try.prog [] [10,84,85] true 900) p6.facts 0 (za1 Try.prog 41 [0,7]) p6_kd (fun _=>false) p6.frs.tail [9,10,11,12,13,14] p7a2_ti p7a2_hi = .done p7a2_to p7a2_ho:=by kernel_rfl
theorem p7a_set : zgp zo8 p7a_op.dst (.tup [.agg [.int .i64 (.v 26),.int .i64 (.v 27),.int .i64 (.v 28),.int .u64 (.v 29),.int .u64 (.v 30)],.bool (.v 8)]) = p7a2_ti:=by kernel_rfl
noncomputable def p7b1_ti : List SV:=yba ++ ur 3 ++ ya0 ++ ur 54
noncomputable def p7b1_hi : List HB:=ya4
noncomputable def zo6 : List SV:=yba ++ [.ptr 6 0,u,u] ++ ya0 ++ [u] ++ ybz ++ ur 45
noncomputable def p7b1_ho : List HB:=ybv
theorem p7b1_grp : zd7 Try.prog (run Try.prog [] [10,84,85] true 900) p6.facts 0 (za1 Try.prog 41 [0,7]) p6_kd (fun i=>i == 8) p6.frs.tail [0,1,2,3,4,5,6,7,12,8,9,10,11,13,14] p7b1_ti p7b1_hi = .halt [8,9,10,11,13,14] zo6 p7b1_ho:=by kernel_rfl
noncomputable def p7b_op : Oper:=(za1 Try.prog 41 [0,7]).getD 8 default
theorem p7b_at : (za1 Try.prog 41 [0,7])[8]? = some p7b_op:=by kernel_rfl
theorem p7b_kdi : p6_kd 8 = 2:=by kernel_rfl
theorem p7b_gd : guardOf [] (za1 Try.prog 41 [0,7]) zo6 p7b_op = .yes:=by kernel_rfl
noncomputable def zo5 : List SV:=[.y 6,Lu 24,.bool (.v 7)]
theorem p7b_call : zc1 Try.prog zo6 p7b_op.op = some (84,zo5):=by kernel_rfl
theorem p7b_fresh : (fresh Try.prog 84 zo5).isSome = true:=by kernel_rfl
noncomputable def p7b2_ti : List SV:=yba ++ [.ptr 6 0,u,u] ++ ya0 ++ [u] ++ yaz ++ ur 44
noncomputable def p7b2_hi : List HB:=ybv
noncomputable def p7b2_to : List SV:=yad ++ ur 42
noncomputable def p7b2_ho : List HB:=ya4 ++ ybp
theorem p7b2_grp : zd7 Try.prog (run Try.prog [] [10,84,85] true 900) p6.facts 0 (za1 Try.prog 41 [0,7]) p6_kd (fun _=>false) p6.frs.tail [9,10,11,13,14] p7b2_ti p7b2_hi = .done p7b2_to p7b2_ho:=by kernel_rfl
theorem p7b_set : zgp zo6 p7b_op.dst (.tup [.agg [.int .i64 (.v 26),.int .i64 (.v 27),.int .i64 (.v 28),.int .u64 (.v 29),.int .u64 (.v 30)],.bool (.v 8)]) = p7b2_ti:=by kernel_rfl
noncomputable def zm7 : St:=⟨[⟨41,yad ++ ur 42,[.code (.at_ [8])]⟩],ya4 ++ ybp,yb0,0⟩
noncomputable def p8_0 : St:=⟨[⟨41,yad ++ ybd ++ ur 37,[.code (.at_ [0,1,0,9]),.code (.at_ [10])]⟩],yal ++ ycd ++ yaw,[((.v 8),true)] ++ yb0,0⟩
theorem p8_0_end : zc6 Try.prog p8_0 = some (.tup []):=by kernel_rfl
noncomputable def p8_1 : St:=⟨[⟨41,yad ++ ybd ++ ur 37,[.code (.at_ [0,10]),.code (.at_ [11])]⟩],yal ++ ycd ++ yaw,[((.v 8),false)] ++ yb0,0⟩
theorem p8_run : run Try.prog [] [10,84,85] true 900 zm7 = [p8_0,p8_1]:=by kernel_rfl
noncomputable def p9_in : St:=⟨[⟨41,yad ++ ybd ++ ur 37,[.code (.at_ [0,10]),.code (.at_ [11])]⟩],yal ++ [⟨65,[Li 31,Li 32,.int .u32 (.v 33),Li 34,Li 35,Li 36,.int .u32 (.v 37)],true,some ((.v 16),7),none,none⟩] ++ yaw,yb0,0⟩
noncomputable def p9_0 : St:=⟨[⟨41,ybt ++ ur 10,[.inRegion [0,12] [6,7,8,9,10,11,12,13,14,15],.code (.at_ [13])]⟩],ybn,yb0,0⟩
theorem p9_run : run Try.prog [] [10,84,85] true 900 p9_in = [p9_0]:=by kernel_rfl
noncomputable def p9_op : Oper:=(za1 Try.prog 41 [0,12]).getD 6 default
theorem p9_at : (za1 Try.prog 41 [0,12])[6]? = some p9_op:=by kernel_rfl
noncomputable def p9_fr : Fr:=⟨41,ybt ++ ur 10,[.inRegion [0,12] [6,7,8,9,10,11,12,13,14,15],.code (.at_ [13])]⟩
theorem p9_gd : guardOf p9_0.facts (za1 Try.prog 41 [0,12]) p9_fr.tmps p9_op = .yes:=by kernel_rfl
noncomputable def p9_args : List SV:=[.y 6]
theorem p9_call : zc1 Try.prog p9_fr.tmps p9_op.op = some (85,p9_args):=by kernel_rfl
theorem p9_fresh : (fresh Try.prog 85 p9_args).isSome = true:=by kernel_rfl
noncomputable def p9_frb : Fr:=⟨41,ybt ++ [.tup [Li 38,.int .u32 (.v 39)]] ++ ur 9,[.inRegion [0,12] [7,8,9,10,11,12,13,14,15],.code (.at_ [13])]⟩
theorem p9_put : Fr.put p9_fr p9_op.dst (.tup [.int .i64 (.v 38),.int .u32 (.v 39)]) ([.inRegion [0,12] [7,8,9,10,11,12,13,14,15],.code (.at_ [13])]) = p9_frb:=by kernel_rfl
noncomputable def pa_in : St:=⟨[⟨41,ybt ++ [.tup [Li 38,.int .u32 (.v 39)]] ++ ur 9,[.inRegion [0,12] [7,8,9,10,11,12,13,14,15],.code (.at_ [13])]⟩],ybn,yb0,0⟩
noncomputable def pa_0 : St:=⟨[⟨41,ya9 ++ [.tup [Li 38,.int .u32 (.v 39)],.ptr 2 0,.ptr 2 0] ++ yb8 ++ [.iface 82 (.y 6),.tup [Li 38,.int .u32 (.v 39)],Li 38,.int .u32 (.v 39),.ptr 2 0,.ptr 2 5,.ptr 2 0,.ptr 2 6] ++ yb8,[]⟩],ybr ++ [⟨107,[.y 7,.c .nilIface,Li 26,Li 27,Li 28,Lu 29,Lu 30,Li 16],true,some ((.v 0),8),none,none⟩,⟨65,ych ++ [Li 38,.int .u32 (.v 39)],true,some ((.v 16),7),none,none⟩] ++ yaw,yb0,0⟩
theorem pa_0_end : zc6 Try.prog pa_0 = some (.tup []):=by kernel_rfl
theorem pa_run : run Try.prog [] [10,84,85] true 900 pa_in = [pa_0]:=by kernel_rfl
end Go.Proofs.Ytonhfgjofgbcdaa.Dr
