/- A part of this claim's proof. -/
import Derived.Test.YtonhfgjofgbcdaaRws30
import Derived.Test.YtonhfgjofgbcdaaRws31
set_option linter.unusedSimpArgs false
set_option linter.unusedVariables false
set_option maxRecDepth 20000
namespace Go.Proofs.Ytonhfgjofgbcdaa.Dr
section
open Go Go.Conc Go.RowKit Jay Pl
open Sx
noncomputable def yfe : List SV:=[.agg [.int .i64 (.lit 0),.int .u32 (.lit 0),.int .i64 (.lit 0),.int .i64 (.lit 0),.int .i64 (.lit 99),.int .u64 (.lit 0),.int .u64 (.lit 0),.int .u64 (.lit 0),.int .u64 (.lit 0),.int .i64 (.lit 0),.c (.slice none 0 0),.bool (.lit false),.int .u64 (.lit 0),.int .u64 (.lit 0),.int .i64 (.lit 0),.int .u32 (.lit 0),.int .i64 (.lit 0),Li 1,Li 2,Li 3,Lu 4,Lu 5,.int .i64 (.lit 0),.int .u32 (.lit 0)]]
noncomputable def ygl : List SV:=[.sl (.blk 1) (.v 14) (.e (.v 15)),.sl (.blk 2) (.v 14) (.e (.v 16)),.sl (.blk 3) (.v 14) (.e (.v 17))]
noncomputable def yg2 : List SV:=[Li 6,Li 7,Li 8,Li 9,Lu 10,Lu 11,.y 0,.y 1,Lu 12,Lu 13,.y 2,.y 3,.y 4] ++ ygl
noncomputable def ygz : List SV:=[.sl (.blk 8) (.ad (.tn (.v 18)) (.lit 1)) (.of 8 7)]
noncomputable def ygb : List SV:=[.int .u64 (.lit 0),.int .u64 (.lit 0)]
noncomputable def yfp : List SV:=ygb ++ [.c (.slice none 0 0),.c (.slice none 0 0)] ++ ygb ++ [.c (.slice none 0 0),.c (.slice none 0 0),.c (.slice none 0 0)]
noncomputable def yfs : List SV:=[.int .i64 (.lit 0),.int .u32 (.lit 0)]
noncomputable def yh6 : List SV:=yfs ++ [.int .i64 (.lit 0)]
noncomputable def yfm : List SV:=ygb ++ ygb ++ [.int .i64 (.lit 0),.c (.slice none 0 0),.bool (.lit false)] ++ ygb ++ yh6
noncomputable def yfx : List SV:=yh6 ++ [.int .i64 (.lit 0),.int .i64 (.lit 99)] ++ yfm ++ [Li 1,Li 2,Li 3,Lu 4,Lu 5] ++ yfs
noncomputable def yh4 : List HB:=[⟨3,[.int .i64 (.ar .add .i64 (.v 19) (.lit 1))],true,some ((.v 0),1),none,none⟩]
noncomputable def ygi : List HB:=[⟨94,yfx,true,some ((.v 0),24),none,none⟩,⟨3,[.int .i64 (.tn (.v 18))],true,some ((.v 0),1),none,none⟩] ++ yh4
noncomputable def yg9 : List HB:=[⟨65,[],false,none,none,none⟩,⟨94,yfx,true,none,none,none⟩,⟨65,[Li 0] ++ yfs ++ [.int .i64 (.tn (.v 18)),.int .i64 (.lit (-1))] ++ yfs,true,some ((.lit 0),7),none,none⟩,⟨65,[],true,none,some ((.ad (.tn (.v 18)) (.lit 1)),7,1000001),some (some 5,[Li 0] ++ yfs ++ [.int .i64 (.tn (.v 18)),.int .i64 (.lit (-1))] ++ yfs)⟩]
noncomputable def yff : List HB:=[⟨91,yg2 ++ [.sl (.blk 4) (.v 18) (.of 4 8)] ++ ygz ++ yfp,true,none,none,none⟩] ++ ygi ++ [⟨63,[],true,none,some ((.v 18),8,1000000),none⟩] ++ yg9
noncomputable def yg5 : List HB:=[⟨94,yfx,true,some ((.v 0),24),none,none⟩,⟨3,[.int .i64 (.lit 0)],true,some ((.v 0),1),none,none⟩] ++ yh4 ++ [⟨94,yfx,true,none,none,none⟩,⟨65,[Li 0] ++ yh6 ++ [.int .i64 (.lit (-1))] ++ yfs,true,some ((.lit 0),7),none,none⟩,⟨65,[],true,none,some ((.lit 1),7,1000001),some (none,[Li 0] ++ yh6 ++ [.int .i64 (.lit (-1))] ++ yfs)⟩]
noncomputable def yfg : List HB:=[⟨91,yg2 ++ [.c (.slice none 0 0),.sl (.blk 6) (.lit 1) (.of 6 7)] ++ yfp,true,none,none,none⟩] ++ yg5
noncomputable def yh2 : List SV:=[.ptr 0 0,.ptr 0 0,.ptr 0 14]
noncomputable def ygj : List SV:=[.ptr 0 0,.ptr 0 0,.ptr 0 16]
noncomputable def yg4 : List SV:=yh2 ++ [.sl (.blk 2) (.v 14) (.e (.v 16)),Li 0,.ptr 2 0,.int .i64 (.lit (-1)),.bool (.lit true),.bool (.lit true),.bool (.lit false),.ptr 0 0,.ptr 0 0,.ptr 0 15,.sl (.blk 3) (.v 14) (.e (.v 17)),Li 0,.ptr 3 0,Li 19,.int .i64 (.ar .add .i64 (.v 19) (.lit 1)),.ptr 3 0,.ptr 0 0,.ptr 0 0,.ptr 0 13,.sl (.blk 1) (.v 14) (.e (.v 15)),Li 0] ++ yfe ++ [.ptr 1 0] ++ yh2 ++ [.sl (.blk 2) (.v 14) (.e (.v 16)),Li 0] ++ ygj ++ [.ptr 0 17]
noncomputable def yfh : List SV:=yg4 ++ [.sl (.blk 5) (.v 18) (.of 5 7),.int .i64 (.tn (.v 18)),.ptr 2 0,.ptr 0 0] ++ ygj ++ [.ptr 0 17,.sl (.blk 5) (.v 18) (.of 5 7),Li 0] ++ yfs ++ ygj ++ [.ptr 0 16,.sl (.blk 4) (.v 18) (.of 4 8),.int .i64 (.tn (.v 18)),.agg [Li 0,.int .i64 (.lit 0),.int .u32 (.lit 0),.int .i64 (.tn (.v 18)),.int .i64 (.lit (-1)),.int .i64 (.lit 0),.int .u32 (.lit 0)],.sl (.blk 7) (.lit 1) (.e (.lit 1))] ++ ygz ++ [.ptr 0 0,.ptr 0 16,.ptr 0 17]
noncomputable def yfi : List SV:=yg4 ++ [.c (.slice none 0 0),.int .i64 (.lit 0),.ptr 2 0,.ptr 0 0] ++ ygj ++ [.ptr 0 17,.c (.slice none 0 0),Li 0] ++ yfs ++ ygj ++ [.ptr 0 16,.c (.slice none 0 0),.int .i64 (.lit 0),.agg [Li 0,.int .i64 (.lit 0),.int .u32 (.lit 0),.int .i64 (.lit 0),.int .i64 (.lit (-1)),.int .i64 (.lit 0),.int .u32 (.lit 0)],.sl (.blk 5) (.lit 1) (.e (.lit 1)),.sl (.blk 6) (.lit 1) (.of 6 7),.ptr 0 0,.ptr 0 16,.ptr 0 17]
noncomputable def ygg : List HB:=[⟨91,[Li 15,Li 16,Li 17,Li 18,Lu 19,Lu 20,.y 0,.y 1,Lu 21,Lu 22,.y 2,.y 3,.y 4,.sl (.blk 1) (.v 2) (.e (.v 3)),.sl (.blk 2) (.v 2) (.e (.v 4)),.y 5,.sl (.blk 3) (.v 5) (.e (.v 6)),.sl (.blk 4) (.v 7) (.e (.v 8))] ++ yfp,true,none,none,none⟩]
noncomputable def yfj : List HB:=ygg ++ [⟨94,yh6 ++ [.int .i64 (.lit 0),.int .i64 (.lit 99)] ++ yfm ++ [Li 10,Li 11,Li 12,Lu 13,Lu 14] ++ yfs,true,some ((.v 0),24),none,none⟩,⟨3,[Li 9],true,some ((.v 0),1),none,none⟩,⟨63,[],false,none,none,none⟩,⟨65,[Li 23,Li 24,.int .u32 (.v 25),Li 26,Li 27,Li 28,.int .u32 (.v 29)],true,some ((.v 9),7),none,none⟩]
noncomputable def yg1 : List SV:=[.ptr 0 0,.ptr 0 0,.ptr 0 0,.agg [Li 6,Li 7,Li 8,Li 9],.ptr 0 0,.ptr 0 0,.ptr 0 13,.sl (.blk 1) (.v 14) (.e (.v 15)),Li 0,.ptr 1 0] ++ yfe
noncomputable def yfk : List SV:=yg1 ++ [.agg [Li 1,Li 2,Li 3,Lu 4,Lu 5]]
noncomputable def yfq : List SV:=[.agg [.int .i64 (.lit 0),.int .u32 (.lit 0),.int .i64 (.lit 0),.int .i64 (.lit 0),.int .i64 (.lit 99),.int .u64 (.lit 0),.int .u64 (.lit 0),.int .u64 (.lit 0),.int .u64 (.lit 0),.int .i64 (.lit 0),.c (.slice none 0 0),.bool (.lit false),.int .u64 (.lit 0),.int .u64 (.lit 0),.int .i64 (.lit 0),.int .u32 (.lit 0),.int .i64 (.lit 0),Li 10,Li 11,Li 12,Lu 13,Lu 14,.int .i64 (.lit 0),.int .u32 (.lit 0)],Lu 1,.bool (.v 0)]
noncomputable def ygd : List SV:=[.ptr 0 0,.ptr 0 0,.ptr 0 0,.agg [Li 15,Li 16,Li 17,Li 18],.ptr 0 0,.ptr 0 0,.ptr 0 13,.sl (.blk 1) (.v 2) (.e (.v 3)),Li 0,.ptr 1 0] ++ yfq
noncomputable def yg6 : List SV:=[.agg [.int .i64 (.lit 0),.int .u32 (.lit 0),.int .i64 (.lit 0),.int .i64 (.lit 0),.int .i64 (.lit 0),.int .u64 (.lit 0),.int .u64 (.lit 0),.int .u64 (.lit 0),.int .u64 (.lit 0),.int .i64 (.lit 0),.c (.slice none 0 0),.bool (.lit false),.int .u64 (.lit 0),.int .u64 (.lit 0),.int .i64 (.lit 0),.int .u32 (.lit 0),.int .i64 (.lit 0),Li 10,Li 11,Li 12,Lu 13,Lu 14,.int .i64 (.lit 0),.int .u32 (.v 30)]]
noncomputable def yfl : List SV:=ygd ++ yg6
noncomputable def yfn : List SV:=[.ptr 0 0,Li 0] ++ yfe ++ yfs ++ [.bool (.lit true)]
noncomputable def ygx : List SV:=[.tup [.agg [Lu 20,Lu 21,.y 29,.y 30,Lu 22,Lu 23,.y 31,.y 32,.y 33],Lu 24,.bool (.v 0)]]
noncomputable def yfu : List SV:=[.agg [Lu 10,Lu 11,.y 0,.y 1,Lu 12,Lu 13,.y 2,.y 3,.y 4],.agg [Li 1,Li 2,Li 3,Lu 4,Lu 5]]
noncomputable def yg3 : List SV:=[.ptr 0 0,.ptr 0 0,.ptr 0 4] ++ yfu ++ ygx
noncomputable def yfo : List SV:=yfk ++ ygx ++ yg3 ++ [.agg [Lu 20,Lu 21,.y 29,.y 30,Lu 22,Lu 23,.y 31,.y 32,.y 33],Lu 24,.bool (.v 0)]
noncomputable def yfr : List SV:=[.ptr 0 0,Li 0,.agg [.int .i64 (.lit 0),.int .u32 (.lit 0),.int .i64 (.lit 0),.int .i64 (.lit 0),.int .i64 (.lit 0),.int .u64 (.lit 0),.int .u64 (.lit 0),.int .u64 (.lit 0),.int .u64 (.lit 0),.int .i64 (.lit 0),.c (.slice none 0 0),.bool (.lit false),.int .u64 (.lit 0),.int .u64 (.lit 0),.int .i64 (.lit 0),.int .u32 (.lit 0),.int .i64 (.lit 0),.int .i64 (.lit 0),.int .i64 (.lit 0),.int .i64 (.lit 0),.int .u64 (.lit 0),.int .u64 (.lit 0),.int .i64 (.lit 0),.int .u32 (.lit 0)]] ++ yfs ++ [.bool (.lit false)]
noncomputable def yft : List HB:=[⟨27,[Li 1,Li 2,Li 3,Lu 4,Lu 5],true,none,none,none⟩]
noncomputable def yfv : List SV:=yfn ++ [u,u,.ptr 6 0] ++ ur 3 ++ [.bool (.lit false)]
noncomputable def yfw : List SV:=yfn ++ [u,u,.ptr 4 0] ++ ur 3 ++ [.bool (.lit false)]
noncomputable def yh3 : List (B × Bool):=[((.cmp .leq (.lit 0) (.v 0)),true)]
noncomputable def yfy : List (B × Bool):=yh3 ++ [((.cmp .lss (.v 0) (.tn (.v 14))),true)]
noncomputable def yfz : List SV:=[.int .i64 (.lit 0),.int .i64 (.lit 0),.int .i64 (.lit 0)]
noncomputable def ygt : List SV:=[Lu 20,Lu 21,.y 29,.y 30,Lu 22,Lu 23,.y 31,.y 32,.y 33]
noncomputable def yg0 : List HB:=yft ++ [⟨25,ygt,true,none,none,none⟩]
noncomputable def yg7 : List SV:=[.ptr 0 0,Li 0] ++ xr 0 13 ++ [Lu 1,.bool (.v 0)]
noncomputable def yg8 : List SV:=yfs ++ yfz ++ yfm ++ [Li 10,Li 11,Li 12,Lu 13,Lu 14,.int .i64 (.lit 0),.int .u32 (.v 30)]
noncomputable def yga : List HB:=[⟨94,[.y 5,.y 6,.y 7,.y 8,.y 9,.y 10,.y 11,.y 12,.y 13,.y 14,.y 15,.y 16,.y 17,.y 18,.y 19,.y 20,.y 21,.y 22,.y 23,.y 24,.y 25,.y 26,.y 27,.y 28],true,some ((.v 0),24),none,none⟩,⟨3,[.int .i64 (.lit (-1))],true,some ((.v 0),1),none,none⟩,⟨3,[Li 19],true,some ((.v 0),1),none,none⟩]
noncomputable def ygc : List (B × Bool):=yh3 ++ [((.cmp .lss (.v 0) (.tn (.v 2))),true),((.cmp .leq (.lit 0) (.v 9)),true),((.cmp .lss (.v 9) (.tn (.v 7))),true)]
noncomputable def yh0 : List SV:=yfv ++ [.ptr 9 0] ++ ur 5 ++ yfh
noncomputable def yge : List SV:=yh0 ++ yfk ++ ur 102
noncomputable def yh1 : List SV:=yfw ++ [.ptr 7 0] ++ ur 5 ++ yfi
noncomputable def ygf : List SV:=yh1 ++ yfk ++ ur 102
noncomputable def ygh : List HB:=[⟨91,[.y 0,.y 1,.y 2,.y 3,.y 4,.y 5,.y 6,.y 7,.y 8,.y 9,.y 10,.y 11,.y 12,.y 13,.sl (.blk 1) (.v 1) (.e (.v 2))],false,none,none,none⟩,⟨3,[.int .i64 (.lit (-1))],false,some ((.v 0),1),none,none⟩]
noncomputable def ygk : List SV:=yfv ++ [.ptr 9 0,.ptr 10 0,Lu 24,.bool (.v 0),u,u] ++ yfh ++ yfo
noncomputable def ygm : List SV:=yfw ++ [.ptr 7 0,.ptr 8 0,Lu 24,.bool (.v 0),u,u] ++ yfi ++ yfo
noncomputable def ygn : List SV:=yfk ++ [u,.ptr 0 0,.ptr 0 0,.ptr 0 4] ++ yfu ++ ur 96
noncomputable def ygo : List SV:=yg7 ++ [.ptr 5 0] ++ xr 14 102 ++ yfl ++ xr 130 58
noncomputable def ygp : List SV:=[Li 0,Li 1,Li 2,Li 3,Lu 4,Lu 5,Lu 24,.bool (.v 0)]
noncomputable def ygq : List SV:=[.ptr 0 0,.agg [Lu 20,Lu 21,.y 29,.y 30,Lu 22,Lu 23,.y 31,.y 32,.y 33],.ptr 0 0,.ptr 0 4,.ptr 0 0] ++ ygj ++ [.ptr 0 16]
noncomputable def ygr : List HB:=[⟨94,yfs ++ yfz ++ yfm ++ yfz ++ ygb ++ yfs,true,none,none,none⟩]
noncomputable def ygs : List SV:=[Li 0,.agg [Li 1,Li 2,Li 3,Lu 4,Lu 5],Lu 24,.bool (.v 0),.agg [Li 0,Li 1,Li 2,Li 3,Lu 4,Lu 5,Lu 24,.bool (.v 0)]]
noncomputable def ygu : List HB:=yft ++ [⟨25,yfp,true,none,none,none⟩]
noncomputable def ygv : List SV:=ygj ++ [.ptr 0 17,.sl (.blk 4) (.v 7) (.e (.v 8)),Li 9]
noncomputable def ygw : List HB:=[⟨27,yfz ++ ygb,true,none,none,none⟩]
noncomputable def ygy : List SV:=[.agg [Li 6,Li 7,Li 8,Li 9]] ++ yfe
noncomputable def yh5 : List HB:=[⟨94,yg8,true,none,none,none⟩]
noncomputable def s0_args : List SV:=yfr
noncomputable def s0_fr : Fr:=⟨33,yfr ++ ur 186,[.code (.at_ [])]⟩
theorem s0_fresh : fresh Try.prog 33 s0_args = some s0_fr:=by kernel_rfl
noncomputable def s0A_in : St:=⟨[⟨33,yfr ++ ur 186,[.code (.at_ [])]⟩],ygh,yh3 ++ [((.cmp .lss (.v 0) (.tn (.v 1))),true)],0⟩
noncomputable def s0A_0 : St:=⟨[⟨33,yfr ++ [u,u,.ptr 2 0] ++ ur 3 ++ [.bool (.lit false)] ++ ur 6 ++ yh2 ++ [.sl (.blk 1) (.v 1) (.e (.v 2)),Li 0,.ptr 1 0,.int .i64 (.lit (-1)),.bool (.lit true),.bool (.lit false),.bool (.lit true)] ++ ur 163,[.code (.at_ [1,0,1,0,0,1,0,1]),.code (.at_ [1,0,1,0,1]),.code (.at_ [2])]⟩],ygh ++ ygr,yh3 ++ [((.cmp .lss (.v 0) (.tn (.v 1))),true)],0⟩
theorem s0A_0_end : zc6 Try.prog s0A_0 = some (.bool (.lit false)):=by kernel_rfl
theorem s0A_run : run Try.prog [] [27,42,43] true 900 s0A_in = [s0A_0]:=by kernel_rfl
noncomputable def st_args : List SV:=yfn
noncomputable def st_fr : Fr:=⟨33,yfn ++ ur 186,[.code (.at_ [])]⟩
theorem st_fresh : fresh Try.prog 33 st_args = some st_fr:=by kernel_rfl
noncomputable def zg6 : St:=⟨[⟨33,yfn ++ ur 186,[.code (.at_ [])]⟩],[⟨91,yg2 ++ [.sl (.blk 4) (.v 18) (.of 4 8),.sl (.blk 5) (.v 18) (.of 5 7)] ++ yfp,true,none,none,none⟩] ++ yga ++ [⟨63,[],true,none,some ((.v 18),8,1000000),none⟩,⟨65,[],true,none,some ((.v 18),7,1000000),none⟩],yfy,0⟩
noncomputable def zfx : St:=⟨[⟨33,yfv ++ ur 6 ++ yfh ++ ur 114,[.code (.at_ [0,2]),.code (.at_ [3])]⟩],yff,yfy,0⟩
theorem skA_run : run Try.prog [] [27,42,43] true 900 zg6 = [zfx]:=by kernel_rfl
noncomputable def zej (i : Nat) : Nat:=if [11].contains i then 2 else zh0 [] (za1 Try.prog 33 [0,2]) i
noncomputable def skA_0_p : List Nat:=[0,2]
noncomputable def zmo : List Nat:=[0,1,2,3,4,5,6,7,8,9,10,11,12,13]
noncomputable def zmn : List Nat:=[0,1,2,3,4,5,6,7,8,9,10,12,11,13]
theorem skA_0_code : zbo Try.prog 33 [0,2] = some (.region 8 (za1 Try.prog 33 [0,2]) true):=by kernel_rfl
theorem skA_0_ok : zcu Try.prog (za1 Try.prog 33 skA_0_p) (zc0 (za1 Try.prog 33 skA_0_p)) [11,12] zej [(11,zmo),(12,zmn)] = true:=by kernel_rfl
noncomputable def skBa1_ti : List SV:=yfv ++ ur 6 ++ yfh ++ ur 114
noncomputable def skBa1_hi : List HB:=yff
noncomputable def zjs : List SV:=yfv ++ ur 6 ++ yfh ++ yg1 ++ ur 103
noncomputable def skBa1_ho : List HB:=yff
theorem skBa1_grp : zd7 Try.prog (run Try.prog [] [27,42,43] true 900) zfx.facts 0 (za1 Try.prog 33 [0,2]) zej (fun i=>i == 11) zfx.frs.tail [0,1,2,3,4,5,6,7,8,9,10,11,12,13] skBa1_ti skBa1_hi = .halt [11,12,13] zjs skBa1_ho:=by kernel_rfl
noncomputable def zng : Oper:=(za1 Try.prog 33 [0,2]).getD 11 default
theorem skBa_at : (za1 Try.prog 33 [0,2])[11]? = some zng:=by kernel_rfl
theorem skBa_kdi : zej 11 = 2:=by kernel_rfl
theorem skBa_gd : guardOf zfx.facts (za1 Try.prog 33 [0,2]) zjs zng = .yes:=by kernel_rfl
noncomputable def zg5 : List SV:=ygy
theorem skBa_call : zc1 Try.prog zjs zng.op = some (42,zg5):=by kernel_rfl
theorem skBa_fresh : (fresh Try.prog 42 zg5).isSome = true:=by kernel_rfl
noncomputable def skBa2_ti : List SV:=yfv ++ ur 6 ++ yfh ++ yfk ++ ur 102
noncomputable def skBa2_hi : List HB:=yff
noncomputable def skBa2_to : List SV:=yge
noncomputable def skBa2_ho : List HB:=yff ++ yft
theorem skBa2_grp : zd7 Try.prog (run Try.prog [] [27,42,43] true 900) zfx.facts 0 (za1 Try.prog 33 [0,2]) zej (fun _=>false) zfx.frs.tail [12,13] skBa2_ti skBa2_hi = .done skBa2_to skBa2_ho:=by kernel_rfl
theorem skBa_set : zgp zjs zng.dst (.agg [.int .i64 (.v 1),.int .i64 (.v 2),.int .i64 (.v 3),.int .u64 (.v 4),.int .u64 (.v 5)]) = skBa2_ti:=by kernel_rfl
noncomputable def skBb1_ti : List SV:=yfv ++ ur 6 ++ yfh ++ ur 114
noncomputable def skBb1_hi : List HB:=yff
noncomputable def zjr : List SV:=yh0 ++ yg1 ++ ur 103
noncomputable def skBb1_ho : List HB:=yff ++ ygw
theorem skBb1_grp : zd7 Try.prog (run Try.prog [] [27,42,43] true 900) zfx.facts 0 (za1 Try.prog 33 [0,2]) zej (fun i=>i == 11) zfx.frs.tail [0,1,2,3,4,5,6,7,8,9,10,12,11,13] skBb1_ti skBb1_hi = .halt [11,13] zjr skBb1_ho:=by kernel_rfl
noncomputable def znf : Oper:=(za1 Try.prog 33 [0,2]).getD 11 default
theorem skBb_at : (za1 Try.prog 33 [0,2])[11]? = some znf:=by kernel_rfl
theorem skBb_kdi : zej 11 = 2:=by kernel_rfl
theorem skBb_gd : guardOf zfx.facts (za1 Try.prog 33 [0,2]) zjr znf = .yes:=by kernel_rfl
noncomputable def zko : List SV:=ygy
theorem skBb_call : zc1 Try.prog zjr znf.op = some (42,zko):=by kernel_rfl
theorem skBb_fresh : (fresh Try.prog 42 zko).isSome = true:=by kernel_rfl
noncomputable def skBb2_ti : List SV:=yge
noncomputable def skBb2_hi : List HB:=yff ++ ygw
noncomputable def skBb2_to : List SV:=yge
noncomputable def skBb2_ho : List HB:=yff ++ yft
theorem skBb2_grp : zd7 Try.prog (run Try.prog [] [27,42,43] true 900) zfx.facts 0 (za1 Try.prog 33 [0,2]) zej (fun _=>false) zfx.frs.tail [13] skBb2_ti skBb2_hi = .done skBb2_to skBb2_ho:=by kernel_rfl
theorem skBb_set : zgp zjr znf.dst (.agg [.int .i64 (.v 1),.int .i64 (.v 2),.int .i64 (.v 3),.int .u64 (.v 4),.int .u64 (.v 5)]) = skBb2_ti:=by kernel_rfl
noncomputable def skC_in : St:=⟨[⟨33,yge,[.code (.at_ [3])]⟩],yff ++ yft,yfy,0⟩
noncomputable def zfw : St:=⟨[⟨33,yge,[.code (.at_ [0,3]),.code (.at_ [4])]⟩],yff ++ yft,yfy,0⟩
theorem skC_run : run Try.prog [] [27,42,43] true 900 skC_in = [zfw]:=by kernel_rfl
noncomputable def zei (i : Nat) : Nat:=if [5].contains i then 2 else zh0 [] (za1 Try.prog 33 [0,3]) i
noncomputable def skC_0_p : List Nat:=[0,3]
noncomputable def zmm : List Nat:=[0,1,2,3,4,5,6,7,8,9,10,11,12,13]
noncomputable def zml : List Nat:=[0,1,2,3,4,10,5,6,7,8,9,11,12,13]
theorem skC_0_code : zbo Try.prog 33 [0,3] = some (.region 9 (za1 Try.prog 33 [0,3]) true):=by kernel_rfl
theorem skC_0_ok : zcu Try.prog (za1 Try.prog 33 skC_0_p) (zc0 (za1 Try.prog 33 skC_0_p)) [5,10] zei [(5,zmm),(10,zml)] = true:=by kernel_rfl
noncomputable def skDa1_ti : List SV:=yge
noncomputable def skDa1_hi : List HB:=yff ++ yft
noncomputable def zjq : List SV:=yh0 ++ ygn
noncomputable def skDa1_ho : List HB:=yff ++ yft
theorem skDa1_grp : zd7 Try.prog (run Try.prog [] [27,42,43] true 900) zfw.facts 0 (za1 Try.prog 33 [0,3]) zei (fun i=>i == 5) zfw.frs.tail [0,1,2,3,4,5,6,7,8,9,10,11,12,13] skDa1_ti skDa1_hi = .halt [5,6,7,8,9,10,11,12,13] zjq skDa1_ho:=by kernel_rfl
noncomputable def zne : Oper:=(za1 Try.prog 33 [0,3]).getD 5 default
theorem skDa_at : (za1 Try.prog 33 [0,3])[5]? = some zne:=by kernel_rfl
theorem skDa_kdi : zei 5 = 2:=by kernel_rfl
theorem skDa_gd : guardOf zfw.facts (za1 Try.prog 33 [0,3]) zjq zne = .yes:=by kernel_rfl
noncomputable def zg4 : List SV:=yfu
theorem skDa_call : zc1 Try.prog zjq zne.op = some (27,zg4):=by kernel_rfl
theorem skDa_fresh : (fresh Try.prog 27 zg4).isSome = true:=by kernel_rfl
noncomputable def skDa2_ti : List SV:=yh0 ++ yfk ++ [u] ++ yg3 ++ ur 95
noncomputable def skDa2_hi : List HB:=yff ++ yft
noncomputable def skDa2_to : List SV:=ygk ++ ur 92
noncomputable def skDa2_ho : List HB:=yff ++ yg0
theorem skDa2_grp : zd7 Try.prog (run Try.prog [] [27,42,43] true 900) zfw.facts 0 (za1 Try.prog 33 [0,3]) zei (fun _=>false) zfw.frs.tail [6,7,8,9,10,11,12,13] skDa2_ti skDa2_hi = .done skDa2_to skDa2_ho:=by kernel_rfl
theorem skDa_set : zgp zjq zne.dst (.tup [.agg [.int .u64 (.v 20),.int .u64 (.v 21),.y 29,.y 30,.int .u64 (.v 22),.int .u64 (.v 23),.y 31,.y 32,.y 33],.int .u64 (.v 24),.bool (.v 0)]) = skDa2_ti:=by kernel_rfl
noncomputable def skDb1_ti : List SV:=yge
noncomputable def skDb1_hi : List HB:=yff ++ yft
noncomputable def zjp : List SV:=yfv ++ [.ptr 9 0,.ptr 10 0] ++ ur 4 ++ yfh ++ ygn
noncomputable def skDb1_ho : List HB:=yff ++ ygu
theorem skDb1_grp : zd7 Try.prog (run Try.prog [] [27,42,43] true 900) zfw.facts 0 (za1 Try.prog 33 [0,3]) zei (fun i=>i == 5) zfw.frs.tail [0,1,2,3,4,10,5,6,7,8,9,11,12,13] skDb1_ti skDb1_hi = .halt [5,6,7,8,9,11,12,13] zjp skDb1_ho:=by kernel_rfl
noncomputable def znd : Oper:=(za1 Try.prog 33 [0,3]).getD 5 default
theorem skDb_at : (za1 Try.prog 33 [0,3])[5]? = some znd:=by kernel_rfl
theorem skDb_kdi : zei 5 = 2:=by kernel_rfl
theorem skDb_gd : guardOf zfw.facts (za1 Try.prog 33 [0,3]) zjp znd = .yes:=by kernel_rfl
noncomputable def zkn : List SV:=yfu
theorem skDb_call : zc1 Try.prog zjp znd.op = some (27,zkn):=by kernel_rfl
theorem skDb_fresh : (fresh Try.prog 27 zkn).isSome = true:=by kernel_rfl
noncomputable def skDb2_ti : List SV:=yfv ++ [.ptr 9 0,.ptr 10 0] ++ ur 4 ++ yfh ++ yfk ++ [u] ++ yg3 ++ ur 95
noncomputable def skDb2_hi : List HB:=yff ++ ygu
noncomputable def skDb2_to : List SV:=ygk ++ ur 92
noncomputable def skDb2_ho : List HB:=yff ++ yg0
theorem skDb2_grp : zd7 Try.prog (run Try.prog [] [27,42,43] true 900) zfw.facts 0 (za1 Try.prog 33 [0,3]) zei (fun _=>false) zfw.frs.tail [6,7,8,9,11,12,13] skDb2_ti skDb2_hi = .done skDb2_to skDb2_ho:=by kernel_rfl
theorem skDb_set : zgp zjp znd.dst (.tup [.agg [.int .u64 (.v 20),.int .u64 (.v 21),.y 29,.y 30,.int .u64 (.v 22),.int .u64 (.v 23),.y 31,.y 32,.y 33],.int .u64 (.v 24),.bool (.v 0)]) = skDb2_ti:=by kernel_rfl
noncomputable def skE_in : St:=⟨[⟨33,ygk ++ ur 92,[.code (.at_ [4])]⟩],yff ++ yg0,yfy,0⟩
noncomputable def zje : St:=⟨[⟨33,ygk ++ ygq ++ [.sl (.blk 4) (.v 18) (.of 4 8)] ++ ygs ++ [.sl (.blk 11) (.lit 1) (.e (.lit 1)),.sl (.blk 12) (.ad (.tn (.v 18)) (.lit 1)) (.of 12 8),.ptr 0 0,.ptr 0 16,.ptr 0 16] ++ ur 72,[.code (.at_ [0,6]),.code (.at_ [7])]⟩],[⟨91,[Li 6,Li 7,Li 8,Li 9] ++ ygt ++ ygl ++ [.sl (.blk 12) (.ad (.tn (.v 18)) (.lit 1)) (.of 12 8)] ++ ygz ++ yfp,true,none,none,none⟩] ++ ygi ++ [⟨63,[],false,none,none,none⟩] ++ yg9 ++ yg0 ++ [⟨63,ygp,true,some ((.lit 0),8),none,none⟩,⟨63,[],true,none,some ((.ad (.tn (.v 18)) (.lit 1)),8,1000001),some (some 4,ygp)⟩],yfy,0⟩
theorem skE_run : run Try.prog [] [27,42,43] true 900 skE_in = [zje]:=by kernel_rfl
noncomputable def s2p : St:=⟨[⟨33,yg7 ++ xr 13 175,[.code (.at_ [0,6]),.code (.at_ [7])]⟩],[],[],0⟩
noncomputable def zeh : Sub:=⟨[(.v 0),(.v 24)],[(.v 0)],[.agg [.int .i64 (.lit 0),.int .u32 (.lit 0),.int .i64 (.lit 0),.int .i64 (.lit 0),.int .i64 (.lit 99),.int .u64 (.lit 0),.int .u64 (.lit 0),.int .u64 (.lit 0),.int .u64 (.lit 0),.int .i64 (.lit 0),.c (.slice none 0 0),.bool (.lit false),.int .u64 (.lit 0),.int .u64 (.lit 0),.int .i64 (.lit 0),.int .u32 (.lit 0),.int .i64 (.lit 0),.int .i64 (.v 1),.int .i64 (.v 2),.int .i64 (.v 3),.int .u64 (.v 4),.int .u64 (.v 5),.int .i64 (.lit 0),.int .u32 (.lit 0)],.int .i64 (.lit 0),.int .u32 (.lit 0),.bool (.lit true),u,u,.ptr 6 0,u,u,u,.bool (.lit false),.ptr 9 0,.ptr 10 0,u,u,.ptr 0 0,.ptr 0 0,.ptr 0 14,.sl (.blk 2) (.v 14) (.e (.v 16)),.int .i64 (.v 0),.ptr 2 0,.int .i64 (.lit (-1)),.bool (.lit true),.bool (.lit true),.bool (.lit false),.ptr 0 0,.ptr 0 0,.ptr 0 15,.sl (.blk 3) (.v 14) (.e (.v 17)),.int .i64 (.v 0),.ptr 3 0,.int .i64 (.v 19),.int .i64 (.ar .add .i64 (.v 19) (.lit 1)),.ptr 3 0,.ptr 0 0,.ptr 0 0,.ptr 0 13,.sl (.blk 1) (.v 14) (.e (.v 15)),.int .i64 (.v 0),.agg [.int .i64 (.lit 0),.int .u32 (.lit 0),.int .i64 (.lit 0),.int .i64 (.lit 0),.int .i64 (.lit 99),.int .u64 (.lit 0),.int .u64 (.lit 0),.int .u64 (.lit 0),.int .u64 (.lit 0),.int .i64 (.lit 0),.c (.slice none 0 0),.bool (.lit false),.int .u64 (.lit 0),.int .u64 (.lit 0),.int .i64 (.lit 0),.int .u32 (.lit 0),.int .i64 (.lit 0),.int .i64 (.v 1),.int .i64 (.v 2),.int .i64 (.v 3),.int .u64 (.v 4),.int .u64 (.v 5),.int .i64 (.lit 0),.int .u32 (.lit 0)],.ptr 1 0,.ptr 0 0,.ptr 0 0,.ptr 0 14,.sl (.blk 2) (.v 14) (.e (.v 16)),.int .i64 (.v 0),.ptr 0 0,.ptr 0 0,.ptr 0 16,.ptr 0 17,.sl (.blk 5) (.v 18) (.of 5 7),.int .i64 (.tn (.v 18)),.ptr 2 0,.ptr 0 0,.ptr 0 0,.ptr 0 0,.ptr 0 16,.ptr 0 17,.sl (.blk 5) (.v 18) (.of 5 7),.int .i64 (.v 0),.int .i64 (.lit 0),.int .u32 (.lit 0),.ptr 0 0,.ptr 0 0,.ptr 0 16,.ptr 0 16,.sl (.blk 4) (.v 18) (.of 4 8),.int .i64 (.tn (.v 18)),.agg [.int .i64 (.v 0),.int .i64 (.lit 0),.int .u32 (.lit 0),.int .i64 (.tn (.v 18)),.int .i64 (.lit (-1)),.int .i64 (.lit 0),.int .u32 (.lit 0)],.sl (.blk 7) (.lit 1) (.e (.lit 1)),.sl (.blk 8) (.ad (.tn (.v 18)) (.lit 1)) (.of 8 7),.ptr 0 0,.ptr 0 16,.ptr 0 17,.ptr 0 0,.ptr 0 0,.ptr 0 0,.agg [.int .i64 (.v 6),.int .i64 (.v 7),.int .i64 (.v 8),.int .i64 (.v 9)],.ptr 0 0,.ptr 0 0,.ptr 0 13,.sl (.blk 1) (.v 14) (.e (.v 15)),.int .i64 (.v 0),.ptr 1 0,.agg [.int .i64 (.lit 0),.int .u32 (.lit 0),.int .i64 (.lit 0),.int .i64 (.lit 0),.int .i64 (.lit 99),.int .u64 (.lit 0),.int .u64 (.lit 0),.int .u64 (.lit 0),.int .u64 (.lit 0),.int .i64 (.lit 0),.c (.slice none 0 0),.bool (.lit false),.int .u64 (.lit 0),.int .u64 (.lit 0),.int .i64 (.lit 0),.int .u32 (.lit 0),.int .i64 (.lit 0),.int .i64 (.v 1),.int .i64 (.v 2),.int .i64 (.v 3),.int .u64 (.v 4),.int .u64 (.v 5),.int .i64 (.lit 0),.int .u32 (.lit 0)],.agg [.int .i64 (.v 1),.int .i64 (.v 2),.int .i64 (.v 3),.int .u64 (.v 4),.int .u64 (.v 5)],.tup [.agg [.int .u64 (.v 20),.int .u64 (.v 21),.y 29,.y 30,.int .u64 (.v 22),.int .u64 (.v 23),.y 31,.y 32,.y 33],.int .u64 (.v 24),.bool (.v 0)],.ptr 0 0,.ptr 0 0,.ptr 0 4,.agg [.int .u64 (.v 10),.int .u64 (.v 11),.y 0,.y 1,.int .u64 (.v 12),.int .u64 (.v 13),.y 2,.y 3,.y 4],.agg [.int .i64 (.v 1),.int .i64 (.v 2),.int .i64 (.v 3),.int .u64 (.v 4),.int .u64 (.v 5)],.tup [.agg [.int .u64 (.v 20),.int .u64 (.v 21),.y 29,.y 30,.int .u64 (.v 22),.int .u64 (.v 23),.y 31,.y 32,.y 33],.int .u64 (.v 24),.bool (.v 0)],.agg [.int .u64 (.v 20),.int .u64 (.v 21),.y 29,.y 30,.int .u64 (.v 22),.int .u64 (.v 23),.y 31,.y 32,.y 33],.int .u64 (.v 24),.bool (.v 0),.ptr 0 0,.agg [.int .u64 (.v 20),.int .u64 (.v 21),.y 29,.y 30,.int .u64 (.v 22),.int .u64 (.v 23),.y 31,.y 32,.y 33],.ptr 0 0,.ptr 0 4,.ptr 0 0,.ptr 0 0,.ptr 0 0,.ptr 0 16,.ptr 0 16,.sl (.blk 4) (.v 18) (.of 4 8),.int .i64 (.v 0),.agg [.int .i64 (.v 1),.int .i64 (.v 2),.int .i64 (.v 3),.int .u64 (.v 4),.int .u64 (.v 5)],.int .u64 (.v 24),.bool (.v 0),.agg [.int .i64 (.v 0),.int .i64 (.v 1),.int .i64 (.v 2),.int .i64 (.v 3),.int .u64 (.v 4),.int .u64 (.v 5),.int .u64 (.v 24),.bool (.v 0)],.sl (.blk 11) (.lit 1) (.e (.lit 1)),.sl (.blk 12) (.ad (.tn (.v 18)) (.lit 1)) (.of 12 8),.ptr 0 0,.ptr 0 16,.ptr 0 16,u,u,u,u,u,u,u,u,u,u,u,u,u,u,u,u,u,u,u,u,u,u,u,u,u,u,u,u,u,u,u,u,u,u,u,u,u,u,u,u,u,u,u,u,u,u,u,u,u,u,u,u,u,u,u,u,u,u,u,u,u,u,u,u,u,u,u,u,u,u,u,u],[],[0]⟩
theorem skEp_fits : zfy zeh zje s2p:=⟨by kernel_rfl,by kernel_rfl⟩
noncomputable def zg3 : St:=⟨[⟨33,yfn ++ ur 186,[.code (.at_ [])]⟩],[⟨91,yg2 ++ [.c (.slice none 0 0),.c (.slice none 0 0)] ++ yfp,true,none,none,none⟩] ++ yga,yfy,0⟩
noncomputable def zfv : St:=⟨[⟨33,yfw ++ ur 6 ++ yfi ++ ur 114,[.code (.at_ [0,2]),.code (.at_ [3])]⟩],yfg,yfy,0⟩
theorem snA_run : run Try.prog [] [27,42,43] true 900 zg3 = [zfv]:=by kernel_rfl
noncomputable def zeg (i : Nat) : Nat:=if [11].contains i then 2 else zh0 [] (za1 Try.prog 33 [0,2]) i
noncomputable def snA_0_p : List Nat:=[0,2]
noncomputable def zmj : List Nat:=[0,1,2,3,4,5,6,7,8,9,10,11,12,13]
noncomputable def zmi : List Nat:=[0,1,2,3,4,5,6,7,8,9,10,12,11,13]
theorem snA_0_code : zbo Try.prog 33 [0,2] = some (.region 8 (za1 Try.prog 33 [0,2]) true):=by kernel_rfl
theorem snA_0_ok : zcu Try.prog (za1 Try.prog 33 snA_0_p) (zc0 (za1 Try.prog 33 snA_0_p)) [11,12] zeg [(11,zmj),(12,zmi)] = true:=by kernel_rfl
noncomputable def snBa1_ti : List SV:=yfw ++ ur 6 ++ yfi ++ ur 114
noncomputable def snBa1_hi : List HB:=yfg
noncomputable def zjo : List SV:=yfw ++ ur 6 ++ yfi ++ yg1 ++ ur 103
noncomputable def snBa1_ho : List HB:=yfg
theorem snBa1_grp : zd7 Try.prog (run Try.prog [] [27,42,43] true 900) zfv.facts 0 (za1 Try.prog 33 [0,2]) zeg (fun i=>i == 11) zfv.frs.tail [0,1,2,3,4,5,6,7,8,9,10,11,12,13] snBa1_ti snBa1_hi = .halt [11,12,13] zjo snBa1_ho:=by kernel_rfl
noncomputable def znc : Oper:=(za1 Try.prog 33 [0,2]).getD 11 default
theorem snBa_at : (za1 Try.prog 33 [0,2])[11]? = some znc:=by kernel_rfl
theorem snBa_kdi : zeg 11 = 2:=by kernel_rfl
theorem snBa_gd : guardOf zfv.facts (za1 Try.prog 33 [0,2]) zjo znc = .yes:=by kernel_rfl
noncomputable def zg2 : List SV:=ygy
theorem snBa_call : zc1 Try.prog zjo znc.op = some (42,zg2):=by kernel_rfl
theorem snBa_fresh : (fresh Try.prog 42 zg2).isSome = true:=by kernel_rfl
noncomputable def snBa2_ti : List SV:=yfw ++ ur 6 ++ yfi ++ yfk ++ ur 102
noncomputable def snBa2_hi : List HB:=yfg
noncomputable def snBa2_to : List SV:=ygf
noncomputable def snBa2_ho : List HB:=yfg ++ yft
theorem snBa2_grp : zd7 Try.prog (run Try.prog [] [27,42,43] true 900) zfv.facts 0 (za1 Try.prog 33 [0,2]) zeg (fun _=>false) zfv.frs.tail [12,13] snBa2_ti snBa2_hi = .done snBa2_to snBa2_ho:=by kernel_rfl
theorem snBa_set : zgp zjo znc.dst (.agg [.int .i64 (.v 1),.int .i64 (.v 2),.int .i64 (.v 3),.int .u64 (.v 4),.int .u64 (.v 5)]) = snBa2_ti:=by kernel_rfl
noncomputable def snBb1_ti : List SV:=yfw ++ ur 6 ++ yfi ++ ur 114
noncomputable def snBb1_hi : List HB:=yfg
noncomputable def zjn : List SV:=yh1 ++ yg1 ++ ur 103
noncomputable def snBb1_ho : List HB:=yfg ++ ygw
theorem snBb1_grp : zd7 Try.prog (run Try.prog [] [27,42,43] true 900) zfv.facts 0 (za1 Try.prog 33 [0,2]) zeg (fun i=>i == 11) zfv.frs.tail [0,1,2,3,4,5,6,7,8,9,10,12,11,13] snBb1_ti snBb1_hi = .halt [11,13] zjn snBb1_ho:=by kernel_rfl
noncomputable def znb : Oper:=(za1 Try.prog 33 [0,2]).getD 11 default
theorem snBb_at : (za1 Try.prog 33 [0,2])[11]? = some znb:=by kernel_rfl
theorem snBb_kdi : zeg 11 = 2:=by kernel_rfl
theorem snBb_gd : guardOf zfv.facts (za1 Try.prog 33 [0,2]) zjn znb = .yes:=by kernel_rfl
noncomputable def zkj : List SV:=ygy
theorem snBb_call : zc1 Try.prog zjn znb.op = some (42,zkj):=by kernel_rfl
theorem snBb_fresh : (fresh Try.prog 42 zkj).isSome = true:=by kernel_rfl
noncomputable def snBb2_ti : List SV:=ygf
noncomputable def snBb2_hi : List HB:=yfg ++ ygw
noncomputable def snBb2_to : List SV:=ygf
noncomputable def snBb2_ho : List HB:=yfg ++ yft
theorem snBb2_grp : zd7 Try.prog (run Try.prog [] [27,42,43] true 900) zfv.facts 0 (za1 Try.prog 33 [0,2]) zeg (fun _=>false) zfv.frs.tail [13] snBb2_ti snBb2_hi = .done snBb2_to snBb2_ho:=by kernel_rfl
theorem snBb_set : zgp zjn znb.dst (.agg [.int .i64 (.v 1),.int .i64 (.v 2),.int .i64 (.v 3),.int .u64 (.v 4),.int .u64 (.v 5)]) = snBb2_ti:=by kernel_rfl
noncomputable def snC_in : St:=⟨[⟨33,ygf,[.code (.at_ [3])]⟩],yfg ++ yft,yfy,0⟩
noncomputable def zfu : St:=⟨[⟨33,ygf,[.code (.at_ [0,3]),.code (.at_ [4])]⟩],yfg ++ yft,yfy,0⟩
theorem snC_run : run Try.prog [] [27,42,43] true 900 snC_in = [zfu]:=by kernel_rfl
noncomputable def zef (i : Nat) : Nat:=if [5].contains i then 2 else zh0 [] (za1 Try.prog 33 [0,3]) i
noncomputable def snC_0_p : List Nat:=[0,3]
noncomputable def zmh : List Nat:=[0,1,2,3,4,5,6,7,8,9,10,11,12,13]
noncomputable def zmg : List Nat:=[0,1,2,3,4,10,5,6,7,8,9,11,12,13]
theorem snC_0_code : zbo Try.prog 33 [0,3] = some (.region 9 (za1 Try.prog 33 [0,3]) true):=by kernel_rfl
theorem snC_0_ok : zcu Try.prog (za1 Try.prog 33 snC_0_p) (zc0 (za1 Try.prog 33 snC_0_p)) [5,10] zef [(5,zmh),(10,zmg)] = true:=by kernel_rfl
noncomputable def snDa1_ti : List SV:=ygf
noncomputable def snDa1_hi : List HB:=yfg ++ yft
noncomputable def zjm : List SV:=yh1 ++ ygn
noncomputable def snDa1_ho : List HB:=yfg ++ yft
theorem snDa1_grp : zd7 Try.prog (run Try.prog [] [27,42,43] true 900) zfu.facts 0 (za1 Try.prog 33 [0,3]) zef (fun i=>i == 5) zfu.frs.tail [0,1,2,3,4,5,6,7,8,9,10,11,12,13] snDa1_ti snDa1_hi = .halt [5,6,7,8,9,10,11,12,13] zjm snDa1_ho:=by kernel_rfl
noncomputable def zna : Oper:=(za1 Try.prog 33 [0,3]).getD 5 default
theorem snDa_at : (za1 Try.prog 33 [0,3])[5]? = some zna:=by kernel_rfl
theorem snDa_kdi : zef 5 = 2:=by kernel_rfl
theorem snDa_gd : guardOf zfu.facts (za1 Try.prog 33 [0,3]) zjm zna = .yes:=by kernel_rfl
noncomputable def zg1 : List SV:=yfu
theorem snDa_call : zc1 Try.prog zjm zna.op = some (27,zg1):=by kernel_rfl
theorem snDa_fresh : (fresh Try.prog 27 zg1).isSome = true:=by kernel_rfl
noncomputable def snDa2_ti : List SV:=yh1 ++ yfk ++ [u] ++ yg3 ++ ur 95
noncomputable def snDa2_hi : List HB:=yfg ++ yft
noncomputable def snDa2_to : List SV:=ygm ++ ur 92
noncomputable def snDa2_ho : List HB:=yfg ++ yg0
theorem snDa2_grp : zd7 Try.prog (run Try.prog [] [27,42,43] true 900) zfu.facts 0 (za1 Try.prog 33 [0,3]) zef (fun _=>false) zfu.frs.tail [6,7,8,9,10,11,12,13] snDa2_ti snDa2_hi = .done snDa2_to snDa2_ho:=by kernel_rfl
theorem snDa_set : zgp zjm zna.dst (.tup [.agg [.int .u64 (.v 20),.int .u64 (.v 21),.y 29,.y 30,.int .u64 (.v 22),.int .u64 (.v 23),.y 31,.y 32,.y 33],.int .u64 (.v 24),.bool (.v 0)]) = snDa2_ti:=by kernel_rfl
noncomputable def snDb1_ti : List SV:=ygf
noncomputable def snDb1_hi : List HB:=yfg ++ yft
noncomputable def zjl : List SV:=yfw ++ [.ptr 7 0,.ptr 8 0] ++ ur 4 ++ yfi ++ ygn
noncomputable def snDb1_ho : List HB:=yfg ++ ygu
theorem snDb1_grp : zd7 Try.prog (run Try.prog [] [27,42,43] true 900) zfu.facts 0 (za1 Try.prog 33 [0,3]) zef (fun i=>i == 5) zfu.frs.tail [0,1,2,3,4,10,5,6,7,8,9,11,12,13] snDb1_ti snDb1_hi = .halt [5,6,7,8,9,11,12,13] zjl snDb1_ho:=by kernel_rfl
noncomputable def zn9 : Oper:=(za1 Try.prog 33 [0,3]).getD 5 default
theorem snDb_at : (za1 Try.prog 33 [0,3])[5]? = some zn9:=by kernel_rfl
theorem snDb_kdi : zef 5 = 2:=by kernel_rfl
theorem snDb_gd : guardOf zfu.facts (za1 Try.prog 33 [0,3]) zjl zn9 = .yes:=by kernel_rfl
noncomputable def zki : List SV:=yfu
theorem snDb_call : zc1 Try.prog zjl zn9.op = some (27,zki):=by kernel_rfl
theorem snDb_fresh : (fresh Try.prog 27 zki).isSome = true:=by kernel_rfl
noncomputable def snDb2_ti : List SV:=yfw ++ [.ptr 7 0,.ptr 8 0] ++ ur 4 ++ yfi ++ yfk ++ [u] ++ yg3 ++ ur 95
noncomputable def snDb2_hi : List HB:=yfg ++ ygu
noncomputable def snDb2_to : List SV:=ygm ++ ur 92
noncomputable def snDb2_ho : List HB:=yfg ++ yg0
theorem snDb2_grp : zd7 Try.prog (run Try.prog [] [27,42,43] true 900) zfu.facts 0 (za1 Try.prog 33 [0,3]) zef (fun _=>false) zfu.frs.tail [6,7,8,9,11,12,13] snDb2_ti snDb2_hi = .done snDb2_to snDb2_ho:=by kernel_rfl
theorem snDb_set : zgp zjl zn9.dst (.tup [.agg [.int .u64 (.v 20),.int .u64 (.v 21),.y 29,.y 30,.int .u64 (.v 22),.int .u64 (.v 23),.y 31,.y 32,.y 33],.int .u64 (.v 24),.bool (.v 0)]) = snDb2_ti:=by kernel_rfl
noncomputable def snE_in : St:=⟨[⟨33,ygm ++ ur 92,[.code (.at_ [4])]⟩],yfg ++ yg0,yfy,0⟩
noncomputable def zjd : St:=⟨[⟨33,ygm ++ ygq ++ [.c (.slice none 0 0)] ++ ygs ++ [.sl (.blk 9) (.lit 1) (.e (.lit 1)),.sl (.blk 10) (.lit 1) (.of 10 8),.ptr 0 0,.ptr 0 16,.ptr 0 16] ++ ur 72,[.code (.at_ [0,6]),.code (.at_ [7])]⟩],[⟨91,[Li 6,Li 7,Li 8,Li 9] ++ ygt ++ ygl ++ [.sl (.blk 10) (.lit 1) (.of 10 8),.sl (.blk 6) (.lit 1) (.of 6 7)] ++ yfp,true,none,none,none⟩] ++ yg5 ++ yg0 ++ [⟨63,ygp,true,some ((.lit 0),8),none,none⟩,⟨63,[],true,none,some ((.lit 1),8,1000001),some (none,ygp)⟩],yfy,0⟩
theorem snE_run : run Try.prog [] [27,42,43] true 900 snE_in = [zjd]:=by kernel_rfl
noncomputable def zee : Sub:=⟨[(.v 0),(.v 24)],[(.v 0)],[.agg [.int .i64 (.lit 0),.int .u32 (.lit 0),.int .i64 (.lit 0),.int .i64 (.lit 0),.int .i64 (.lit 99),.int .u64 (.lit 0),.int .u64 (.lit 0),.int .u64 (.lit 0),.int .u64 (.lit 0),.int .i64 (.lit 0),.c (.slice none 0 0),.bool (.lit false),.int .u64 (.lit 0),.int .u64 (.lit 0),.int .i64 (.lit 0),.int .u32 (.lit 0),.int .i64 (.lit 0),.int .i64 (.v 1),.int .i64 (.v 2),.int .i64 (.v 3),.int .u64 (.v 4),.int .u64 (.v 5),.int .i64 (.lit 0),.int .u32 (.lit 0)],.int .i64 (.lit 0),.int .u32 (.lit 0),.bool (.lit true),u,u,.ptr 4 0,u,u,u,.bool (.lit false),.ptr 7 0,.ptr 8 0,u,u,.ptr 0 0,.ptr 0 0,.ptr 0 14,.sl (.blk 2) (.v 14) (.e (.v 16)),.int .i64 (.v 0),.ptr 2 0,.int .i64 (.lit (-1)),.bool (.lit true),.bool (.lit true),.bool (.lit false),.ptr 0 0,.ptr 0 0,.ptr 0 15,.sl (.blk 3) (.v 14) (.e (.v 17)),.int .i64 (.v 0),.ptr 3 0,.int .i64 (.v 19),.int .i64 (.ar .add .i64 (.v 19) (.lit 1)),.ptr 3 0,.ptr 0 0,.ptr 0 0,.ptr 0 13,.sl (.blk 1) (.v 14) (.e (.v 15)),.int .i64 (.v 0),.agg [.int .i64 (.lit 0),.int .u32 (.lit 0),.int .i64 (.lit 0),.int .i64 (.lit 0),.int .i64 (.lit 99),.int .u64 (.lit 0),.int .u64 (.lit 0),.int .u64 (.lit 0),.int .u64 (.lit 0),.int .i64 (.lit 0),.c (.slice none 0 0),.bool (.lit false),.int .u64 (.lit 0),.int .u64 (.lit 0),.int .i64 (.lit 0),.int .u32 (.lit 0),.int .i64 (.lit 0),.int .i64 (.v 1),.int .i64 (.v 2),.int .i64 (.v 3),.int .u64 (.v 4),.int .u64 (.v 5),.int .i64 (.lit 0),.int .u32 (.lit 0)],.ptr 1 0,.ptr 0 0,.ptr 0 0,.ptr 0 14,.sl (.blk 2) (.v 14) (.e (.v 16)),.int .i64 (.v 0),.ptr 0 0,.ptr 0 0,.ptr 0 16,.ptr 0 17,.c (.slice none 0 0),.int .i64 (.lit 0),.ptr 2 0,.ptr 0 0,.ptr 0 0,.ptr 0 0,.ptr 0 16,.ptr 0 17,.c (.slice none 0 0),.int .i64 (.v 0),.int .i64 (.lit 0),.int .u32 (.lit 0),.ptr 0 0,.ptr 0 0,.ptr 0 16,.ptr 0 16,.c (.slice none 0 0),.int .i64 (.lit 0),.agg [.int .i64 (.v 0),.int .i64 (.lit 0),.int .u32 (.lit 0),.int .i64 (.lit 0),.int .i64 (.lit (-1)),.int .i64 (.lit 0),.int .u32 (.lit 0)],.sl (.blk 5) (.lit 1) (.e (.lit 1)),.sl (.blk 6) (.lit 1) (.of 6 7),.ptr 0 0,.ptr 0 16,.ptr 0 17,.ptr 0 0,.ptr 0 0,.ptr 0 0,.agg [.int .i64 (.v 6),.int .i64 (.v 7),.int .i64 (.v 8),.int .i64 (.v 9)],.ptr 0 0,.ptr 0 0,.ptr 0 13,.sl (.blk 1) (.v 14) (.e (.v 15)),.int .i64 (.v 0),.ptr 1 0,.agg [.int .i64 (.lit 0),.int .u32 (.lit 0),.int .i64 (.lit 0),.int .i64 (.lit 0),.int .i64 (.lit 99),.int .u64 (.lit 0),.int .u64 (.lit 0),.int .u64 (.lit 0),.int .u64 (.lit 0),.int .i64 (.lit 0),.c (.slice none 0 0),.bool (.lit false),.int .u64 (.lit 0),.int .u64 (.lit 0),.int .i64 (.lit 0),.int .u32 (.lit 0),.int .i64 (.lit 0),.int .i64 (.v 1),.int .i64 (.v 2),.int .i64 (.v 3),.int .u64 (.v 4),.int .u64 (.v 5),.int .i64 (.lit 0),.int .u32 (.lit 0)],.agg [.int .i64 (.v 1),.int .i64 (.v 2),.int .i64 (.v 3),.int .u64 (.v 4),.int .u64 (.v 5)],.tup [.agg [.int .u64 (.v 20),.int .u64 (.v 21),.y 29,.y 30,.int .u64 (.v 22),.int .u64 (.v 23),.y 31,.y 32,.y 33],.int .u64 (.v 24),.bool (.v 0)],.ptr 0 0,.ptr 0 0,.ptr 0 4,.agg [.int .u64 (.v 10),.int .u64 (.v 11),.y 0,.y 1,.int .u64 (.v 12),.int .u64 (.v 13),.y 2,.y 3,.y 4],.agg [.int .i64 (.v 1),.int .i64 (.v 2),.int .i64 (.v 3),.int .u64 (.v 4),.int .u64 (.v 5)],.tup [.agg [.int .u64 (.v 20),.int .u64 (.v 21),.y 29,.y 30,.int .u64 (.v 22),.int .u64 (.v 23),.y 31,.y 32,.y 33],.int .u64 (.v 24),.bool (.v 0)],.agg [.int .u64 (.v 20),.int .u64 (.v 21),.y 29,.y 30,.int .u64 (.v 22),.int .u64 (.v 23),.y 31,.y 32,.y 33],.int .u64 (.v 24),.bool (.v 0),.ptr 0 0,.agg [.int .u64 (.v 20),.int .u64 (.v 21),.y 29,.y 30,.int .u64 (.v 22),.int .u64 (.v 23),.y 31,.y 32,.y 33],.ptr 0 0,.ptr 0 4,.ptr 0 0,.ptr 0 0,.ptr 0 0,.ptr 0 16,.ptr 0 16,.c (.slice none 0 0),.int .i64 (.v 0),.agg [.int .i64 (.v 1),.int .i64 (.v 2),.int .i64 (.v 3),.int .u64 (.v 4),.int .u64 (.v 5)],.int .u64 (.v 24),.bool (.v 0),.agg [.int .i64 (.v 0),.int .i64 (.v 1),.int .i64 (.v 2),.int .i64 (.v 3),.int .u64 (.v 4),.int .u64 (.v 5),.int .u64 (.v 24),.bool (.v 0)],.sl (.blk 9) (.lit 1) (.e (.lit 1)),.sl (.blk 10) (.lit 1) (.of 10 8),.ptr 0 0,.ptr 0 16,.ptr 0 16,u,u,u,u,u,u,u,u,u,u,u,u,u,u,u,u,u,u,u,u,u,u,u,u,u,u,u,u,u,u,u,u,u,u,u,u,u,u,u,u,u,u,u,u,u,u,u,u,u,u,u,u,u,u,u,u,u,u,u,u,u,u,u,u,u,u,u,u,u,u,u,u],[],[0]⟩
theorem snEp_fits : zfy zee zjd s2p:=⟨by kernel_rfl,by kernel_rfl⟩
noncomputable def s2 : St:=⟨[⟨33,yg7 ++ xr 13 175,[.code (.at_ [0,6]),.code (.at_ [7])]⟩],yfj,ygc,0⟩
noncomputable def s2_kd (i : Nat) : Nat:=if [13].contains i then 2 else zh0 [] (za1 Try.prog 33 [0,6]) i
noncomputable def s2_p : List Nat:=[0,6]
noncomputable def s2_ordA : List Nat:=[0,1,2,3,4,5,6,7,8,9,10,11,12,13,14,15]
noncomputable def s2_ordB : List Nat:=[0,1,2,3,4,5,6,7,8,9,10,11,12,14,13,15]
theorem s2_code : zbo Try.prog 33 [0,6] = some (.region 12 (za1 Try.prog 33 [0,6]) true):=by kernel_rfl
theorem s2_ok : zcu Try.prog (za1 Try.prog 33 s2_p) (zc0 (za1 Try.prog 33 s2_p)) [13,14] s2_kd [(13,s2_ordA),(14,s2_ordB)] = true:=by kernel_rfl
noncomputable def s3a1_ti : List SV:=yg7 ++ xr 13 175
noncomputable def s3a1_hi : List HB:=yfj
noncomputable def znj : List SV:=yg7 ++ xr 13 103 ++ ygd ++ xr 129 59
noncomputable def s3a1_ho : List HB:=yfj
theorem s3a1_grp : zd7 Try.prog (run Try.prog [] [27,42,43] true 900) s2.facts 0 (za1 Try.prog 33 [0,6]) s2_kd (fun i=>i == 13) s2.frs.tail [0,1,2,3,4,5,6,7,8,9,10,11,12,13,14,15] s3a1_ti s3a1_hi = .halt [13,14,15] znj s3a1_ho:=by kernel_rfl
noncomputable def s3a_op : Oper:=(za1 Try.prog 33 [0,6]).getD 13 default
theorem s3a_at : (za1 Try.prog 33 [0,6])[13]? = some s3a_op:=by kernel_rfl
theorem s3a_kdi : s2_kd 13 = 2:=by kernel_rfl
theorem s3a_gd : guardOf s2.facts (za1 Try.prog 33 [0,6]) znj s3a_op = .yes:=by kernel_rfl
noncomputable def zht : List SV:=[.agg [Li 15,Li 16,Li 17,Li 18]] ++ yfq
theorem s3a_call : zc1 Try.prog znj s3a_op.op = some (43,zht):=by kernel_rfl
theorem s3a_fresh : (fresh Try.prog 43 zht).isSome = true:=by kernel_rfl
noncomputable def s3a2_ti : List SV:=yg7 ++ xr 13 103 ++ yfl ++ xr 130 58
noncomputable def s3a2_hi : List HB:=yfj
noncomputable def s3a2_to : List SV:=ygo
noncomputable def s3a2_ho : List HB:=yfj ++ yh5
theorem s3a2_grp : zd7 Try.prog (run Try.prog [] [27,42,43] true 900) s2.facts 0 (za1 Try.prog 33 [0,6]) s2_kd (fun _=>false) s2.frs.tail [14,15] s3a2_ti s3a2_hi = .done s3a2_to s3a2_ho:=by kernel_rfl
theorem s3a_set : zgp znj s3a_op.dst (.agg [.int .i64 (.lit 0),.int .u32 (.lit 0),.int .i64 (.lit 0),.int .i64 (.lit 0),.int .i64 (.lit 0),.int .u64 (.lit 0),.int .u64 (.lit 0),.int .u64 (.lit 0),.int .u64 (.lit 0),.int .i64 (.lit 0),.c (.slice none 0 0),.bool (.lit false),.int .u64 (.lit 0),.int .u64 (.lit 0),.int .i64 (.lit 0),.int .u32 (.lit 0),.int .i64 (.lit 0),.int .i64 (.v 10),.int .i64 (.v 11),.int .i64 (.v 12),.int .u64 (.v 13),.int .u64 (.v 14),.int .i64 (.lit 0),.int .u32 (.v 30)]) = s3a2_ti:=by kernel_rfl
noncomputable def s3b1_ti : List SV:=yg7 ++ xr 13 175
noncomputable def s3b1_hi : List HB:=yfj
noncomputable def zni : List SV:=yg7 ++ [.ptr 5 0] ++ xr 14 102 ++ ygd ++ xr 129 59
noncomputable def s3b1_ho : List HB:=yfj ++ ygr
theorem s3b1_grp : zd7 Try.prog (run Try.prog [] [27,42,43] true 900) s2.facts 0 (za1 Try.prog 33 [0,6]) s2_kd (fun i=>i == 13) s2.frs.tail [0,1,2,3,4,5,6,7,8,9,10,11,12,14,13,15] s3b1_ti s3b1_hi = .halt [13,15] zni s3b1_ho:=by kernel_rfl
noncomputable def s3b_op : Oper:=(za1 Try.prog 33 [0,6]).getD 13 default
theorem s3b_at : (za1 Try.prog 33 [0,6])[13]? = some s3b_op:=by kernel_rfl
theorem s3b_kdi : s2_kd 13 = 2:=by kernel_rfl
theorem s3b_gd : guardOf s2.facts (za1 Try.prog 33 [0,6]) zni s3b_op = .yes:=by kernel_rfl
noncomputable def znh : List SV:=[.agg [Li 15,Li 16,Li 17,Li 18]] ++ yfq
theorem s3b_call : zc1 Try.prog zni s3b_op.op = some (43,znh):=by kernel_rfl
theorem s3b_fresh : (fresh Try.prog 43 znh).isSome = true:=by kernel_rfl
noncomputable def s3b2_ti : List SV:=ygo
noncomputable def s3b2_hi : List HB:=yfj ++ ygr
noncomputable def s3b2_to : List SV:=ygo
noncomputable def s3b2_ho : List HB:=yfj ++ yh5
theorem s3b2_grp : zd7 Try.prog (run Try.prog [] [27,42,43] true 900) s2.facts 0 (za1 Try.prog 33 [0,6]) s2_kd (fun _=>false) s2.frs.tail [15] s3b2_ti s3b2_hi = .done s3b2_to s3b2_ho:=by kernel_rfl
theorem s3b_set : zgp zni s3b_op.dst (.agg [.int .i64 (.lit 0),.int .u32 (.lit 0),.int .i64 (.lit 0),.int .i64 (.lit 0),.int .i64 (.lit 0),.int .u64 (.lit 0),.int .u64 (.lit 0),.int .u64 (.lit 0),.int .u64 (.lit 0),.int .i64 (.lit 0),.c (.slice none 0 0),.bool (.lit false),.int .u64 (.lit 0),.int .u64 (.lit 0),.int .i64 (.lit 0),.int .u32 (.lit 0),.int .i64 (.lit 0),.int .i64 (.v 10),.int .i64 (.v 11),.int .i64 (.v 12),.int .u64 (.v 13),.int .u64 (.v 14),.int .i64 (.lit 0),.int .u32 (.v 30)]) = s3b2_ti:=by kernel_rfl
noncomputable def s4_in : St:=⟨[⟨33,ygo,[.code (.at_ [7])]⟩],yfj ++ yh5,ygc,0⟩
noncomputable def s4_0 : St:=⟨[⟨33,[.ptr 0 0,Li 0] ++ xr 0 10 ++ [.bool (.lit true),.x 11,.x 12,Lu 1,.bool (.v 0),.ptr 5 0,Li 9] ++ xr 15 101 ++ yfl ++ [.ptr 0 0,.ptr 0 0,.ptr 0 13,.sl (.blk 1) (.v 2) (.e (.v 3)),Li 0] ++ yg6 ++ [.ptr 1 0,.ptr 5 4,.int .i64 (.lit 0),.bool (.lit true)] ++ yh2 ++ [.sl (.blk 2) (.v 2) (.e (.v 4)),Li 0,.ptr 2 0,Li 9] ++ ygv ++ ygj ++ [.ptr 0 16,.sl (.blk 3) (.v 5) (.e (.v 6)),.int .i64 (.tn (.v 5)),.int .i64 (.ar .sub .i64 (.tn (.v 5)) (.lit 1)),.ptr 4 0,.ptr 4 4] ++ ygv ++ [.ptr 5 22,.int .i64 (.lit 0),.ptr 4 0,.ptr 4 5] ++ ygv ++ [.ptr 5 23,.int .u32 (.v 30),.ptr 4 0,.ptr 4 6] ++ yh2 ++ [.sl (.blk 2) (.v 2) (.e (.v 4)),Li 0,.ptr 2 0],[.code (.at_ [10])]⟩],ygg ++ [⟨94,yg8,true,some ((.v 0),24),none,none⟩,⟨3,[.int .i64 (.lit (-1))],true,some ((.v 0),1),none,none⟩,⟨63,[],false,none,none,none⟩,⟨65,[Li 23,Li 24,.int .u32 (.v 25),Li 26,.int .i64 (.ar .sub .i64 (.tn (.v 5)) (.lit 1)),.int .i64 (.lit 0),.int .u32 (.v 30)],true,some ((.v 9),7),none,none⟩] ++ yh5,ygc,0⟩
theorem s4_0_end : zc6 Try.prog s4_0 = some (.bool (.lit true)):=by kernel_rfl
theorem s4_run : run Try.prog [] [27,42,43] true 900 s4_in = [s4_0]:=by kernel_rfl
end
section
open Go Go.Conc Go.RowKit Jay Pl
open St Sx Rf
section
variable {γ : Type} {X : zad γ} {s : γ} {w : World} {Stop : γ -> Frame -> List Frame -> World -> Prop} {c : Frame} {cs : List Frame}
theorem ze2 {w : World} {B : Nat} {m : Mem} {cs : Array Value} (h : zbb w B m cs) : ∃ v2 v3 v6 v7 v8,cs = #[.int .u64 m.e,.int .u64 m.f,v2,v3,.int .u64 m.h,.int .u64 m.t,v6,v7,v8] /\ ysA [v2,v3,v6,v7,v8]:=by
 obtain ⟨v2,v3,v6,v7,v8,h0,u2,u3,u6,u7,u8⟩:=h
 exact ⟨v2,v3,v6,v7,v8,h0,za2 u2,za2 u3,za2 u6,za2 u7,za2 u8,trivial⟩
theorem wrap_pred {n : Nat} (hn : n <= maxLen) : IntKind.i64.wrap (((n : Int).toNat : Int) - 1) = (n : Int) - 1:=by
 have hml : maxLen = 9223372036854775807:=rfl
 simp [IntKind.wrap,IntKind.signed,IntKind.bits]
 omega
theorem own_mk {t : TypeId} {size n cap g : Nat} {xs post : List Value} (hb : Blk w g t (xs ++ post).toArray) (h1 : xs.length = n * size) (h2 : n <= cap) (h3 : cap <= maxLen) (h4 : xs.length + post.length = cap * size) : w.ownsRow 0 t size (.slice (some ⟨g,0,none⟩) n cap) n xs:=by
 refine ⟨h1,.inr ⟨g,cap,_,rfl,Nat.zero_le _,hb,h2,h3,?_,?_⟩⟩
 ·simpa using h4
 ·rw [<- h1]; simp
theorem step_end {W : World} {k K T Mn : Int} {r : R3} {q : Q3} {t : Nat} {a : Ac} {was : Int} {done : Bool} {k' gS nS cS gK nK cK : Nat} {rc : Rc} {xs : List Value} {q0 : Seg} (h : zkd X W s w k K T Mn r q) (hth : X.there s w) (hM : IntKind.u64.wrap Mn ≠ 0) (ht : t < r.at_.length)
  (hf : q.fs[t]? = some (f99 99 0 a)) (hcl : r.cl[t]? = some (k' : Int)) (hk : r.calls[k']? = some rc) (eS : q.vS = .slice (some ⟨gS,0,none⟩) nS cS) (eK : q.vC = .slice (some ⟨gK,0,none⟩) nK cK) (hxs : xs.length = 188) (hq0 : Whl q0 q.gR)
  (hback : ∀ q' w',q'.gR = q.gR -> zkd X W s w' k K T Mn { r with cl:=r.cl.set t (-1),calls:=r.calls.set k' { rc with to:=(r.steps.length : Int) - 1,code:=0,out:=if done = true then 1 else 0 } } q' -> X.there s w' -> Jay.Reach Try.prog X Stop s (c.finish (.bool true)) cs w') :
  Fr.reach Try.prog X Stop s (c :: cs) ⟨[(t : Int),was],[done],xs,[],[q0],[]⟩ s2p.frs w:=by
 obtain ⟨g0,b0,o0,pre0,post0,cap0,ad0⟩:=q0
 obtain ⟨rfl,rfl,rfl,rfl⟩ : g0 = _ /\ o0 = _ /\ pre0 = _ /\ post0 = _:=hq0
 obtain ⟨v2,v3,v6,v7,v8,hcE,u2,u3,u6,u7,u8⟩:=h.mem
 have hR:=h.R
 unfold r3V at hR
 rw [hcE,eS,eK] at hR
 have htf : t < q.fs.length:=by rw [h.fl]; exact ht
 have htc : t < r.cl.length:=by rw [h.cl]; exact ht
 have hcv : (isV r.cl)[t]? = some (.int .i64 (k' : Int)):=by unfold isV; rw [List.getElem?_map,hcl]; rfl
 have hO:=h.O
 rw [zou hf] at hO
 have hC:=h.C
 rw [zhn hcv] at hC
 obtain ⟨pK,rfl,bK,lK,cK1,cK2,cK3⟩:=zcd h.K eK
 obtain ⟨pS,rfl,bS,lS,cS1,cS2,cS3⟩:=zcd h.S eS
 have hkl : k' < r.calls.length:=(List.getElem?_eq_some_iff.1 hk).1
 have bK0:=bK
 rw [List.append_nil,flat_cut Rc.cells r.calls k' rc hk] at bK
 have hpl : ((r.calls.take k').flatMap Rc.cells).length = k' * 7:=by rw [zde Rc.len,List.length_take]; congr 1; omega
 have hfl : (q.fs.take t).flatten.length = t * 24:=by
  rw [fl_len fun f hf=>(h.fc f (List.mem_of_mem_take hf)).1,List.length_take]
  congr 1
  omega
 have hil : ((isV r.cl).take t).length = t:=by rw [List.length_take]; unfold isV; rw [List.length_map]; omega
 have dR:=h.dis q.gR (.inl rfl)
 have dO:=h.dis q.gO (.inr (.inl rfl))
 have dC:=h.dis q.gC (.inr (.inr (.inl rfl)))
 have mS : q.mine gS:=.inr (.inr (.inr (.inr (.inl (by rw [eS]; rfl)))))
 have mK : q.mine gK:=.inr (.inr (.inr (.inr (.inr (by rw [eK]; rfl)))))
 have dS:=h.dis gS mS
 have dK:=h.dis gK mK
 obtain ⟨n1,n2,n3⟩:=h.ne
 have n2:=n2 gS (by rw [eS]; rfl)
 have n3:=n3 gK (by rw [eK]; rfl)
 have n4 : gK ≠ gS:=fun e=>n2.2 (by rw [eK,e]; rfl)
 simp only [List.nodup_cons,List.mem_cons,List.not_mem_nil,or_false,not_or,not_false_eq_true,List.nodup_nil,and_true] at n1 n2 n3
 obtain ⟨⟨nRO,nRC,nRA⟩,⟨nOC,nOA⟩,nCA⟩:=n1
 obtain ⟨⟨nSR,nSO,nSC,nSA⟩, -⟩:=n2
 obtain ⟨nKR,nKO,nKC,nKA⟩:=n3
 refine zak (L:=⟨2,1,188,0,1⟩) (ai:=[(r.at_.length : Int),(q.cO : Int),(q.cC : Int),(r.steps.length : Int),(cS : Int),(r.calls.length : Int),(cK : Int),(k' : Int),a.d,a.ar,a.at_,a.old,a.new,k,K,T,Mn,r.mem.e,r.mem.f,r.mem.h,r.mem.t,rc.th,rc.kind,rc.val,rc.frm,rc.to,rc.code,rc.out]) (ab:=[]) (ax:=[]) (ay:=[v2,v3,v6,v7,v8,.slice (some ⟨q.gA,0,none⟩) r.at_.length q.cA])
  (ak:=[⟨q.gO,0,t * 24,(q.fs.take t).flatten,(q.fs.drop (t + 1)).flatten ++ q.pO,0,none⟩,⟨q.gC,0,t,(isV r.cl).take t,(isV r.cl).drop (t + 1) ++ q.pC,0,none⟩,⟨q.gR,0,0,[],[],0,some (some ⟨gS,0,none⟩)⟩,⟨gK,0,k' * 7,(r.calls.take k').flatMap Rc.cells,(r.calls.drop (k' + 1)).flatMap Rc.cells ++ pK,cK,none⟩]) (by simp [Env.lens,hxs]) (by kernel_rfl) ?_
 generalize hY : Env.grow _ _ _ _ _ _ = Y
 have hi : Y.ints = [(t : Int),was,(r.at_.length : Int),(q.cO : Int),(q.cC : Int),(r.steps.length : Int),(cS : Int),(r.calls.length : Int),(cK : Int),(k' : Int),a.d,a.ar,a.at_,a.old,a.new,k,K,T,Mn,r.mem.e,r.mem.f,r.mem.h,r.mem.t,rc.th,rc.kind,rc.val,rc.frm,rc.to,rc.code,rc.out]:=by rw [<- hY]; rfl
 have hb : Y.bools = [done]:=by rw [<- hY]; rfl
 have hx : Y.xs = xs:=by rw [<- hY]; exact List.append_nil _
 have hy : Y.ys = [v2,v3,v6,v7,v8,.slice (some ⟨q.gA,0,none⟩) r.at_.length q.cA]:=by rw [<- hY]; rfl
 have hbl : Y.blks = [⟨q.gR,b0,0,[],[],cap0,ad0⟩,⟨q.gO,0,t * 24,(q.fs.take t).flatten,(q.fs.drop (t + 1)).flatten ++ q.pO,0,none⟩,⟨q.gC,0,t,(isV r.cl).take t,(isV r.cl).drop (t + 1) ++ q.pC,0,none⟩,⟨q.gR,0,0,[],[],0,some (some ⟨gS,0,none⟩)⟩,⟨gK,0,k' * 7,(r.calls.take k').flatMap Rc.cells,(r.calls.drop (k' + 1)).flatMap Rc.cells ++ pK,cK,none⟩]:=by rw [<- hY]; rfl
 have hp : Y.perms = []:=by rw [<- hY]; rfl
 clear hY
 have hL : Y.lens = ⟨30,1,188,6,5⟩:=by simp only [Env.lens,hi,hb,hx,hy,hbl,hxs]; rfl
 have hr : Rep X s (ours Y s2.heap) w Y s2.heap s2.facts 0 w:=by
  refine Rep.start hth (by rw [hy]; exact zb9 ⟨za2 u2,za2 u3,za2 u6,za2 u7,za2 u8,rfl,trivial⟩) (by rw [hbl]; rfl) ?_ ?_ (za5 ⟨?_,?_,?_,?_,trivial⟩) (by rw [hp]; rfl)
  ·obtain ⟨Yi,Yb,Yx,Yy,Yk,Yp⟩:=Y
   dsimp only at hi hb hx hy hbl hp
   subst hi hb hx hy hbl hp
   refine ⟨⟨dR.2.1,zcc rfl ⟨dR.1,rfl,?_⟩,⟨rfl,rfl⟩,trivial,rfl⟩,⟨dO.2.1,zcc rfl ⟨dO.1,hfl.symm,?_⟩,⟨(Nat.zero_add _).symm,rfl⟩,trivial,rfl⟩,⟨dC.2.1,zcc rfl ⟨dC.1,hil.symm,?_⟩,⟨?_,rfl⟩,trivial,rfl⟩,kn dR.2.1,⟨dK.2.1,zcc rfl ⟨dK.1,hpl.symm,?_⟩,⟨(Nat.zero_add _).symm,rfl⟩,trivial,rfl⟩,trivial⟩
   ·exact hR
   ·exact hO
   ·exact hC
   ·show t = 0 + (t : Int).toNat * 1
    simp
   ·have bK:=bK
    rw [List.append_assoc] at bK
    exact bK
  ·obtain ⟨Yi,Yb,Yx,Yy,Yk,Yp⟩:=Y
   dsimp only at hi hb hx hy hbl hp
   subst hi hb hx hy hbl hp
   exact ⟨⟨(fun _=>nRO),(fun _=>nRC),(fun e=>nomatch e),(fun _=>Ne.symm nKR),trivial⟩,⟨(fun _=>nOC),(fun e=>nomatch e),(fun _=>Ne.symm nKO),trivial⟩,⟨(fun e=>nomatch e),(fun _=>Ne.symm nKC),trivial⟩,⟨(fun e=>nomatch e),trivial⟩,trivial,trivial⟩
  ·show decide ((0 : Int) <= Y.ints.getD 0 0) = true
   rw [hi]
   exact decide_eq_true (by show (0 : Int) <= (t : Int); omega)
  ·show decide (Y.ints.getD 0 0 < ((Y.ints.getD 2 0).toNat : Int)) = true
   rw [hi]
   exact decide_eq_true (by show (t : Int) < ((r.at_.length : Int).toNat : Int); omega)
  ·show decide ((0 : Int) <= Y.ints.getD 9 0) = true
   rw [hi]
   exact decide_eq_true (by show (0 : Int) <= (k' : Int); omega)
  ·show decide (Y.ints.getD 9 0 < ((Y.ints.getD 7 0).toNat : Int)) = true
   rw [hi]
   exact decide_eq_true (by show (k' : Int) < ((r.calls.length : Int).toNat : Int); omega)
 have hours : ∀ g,ours Y s2.heap g -> g = q.gR \/ g = q.gO \/ g = q.gC \/ g = gK:=zbz ⟨fun _=>.inl (by rw [hbl]; rfl),fun _=>.inr (.inl (by rw [hbl]; rfl)),fun _=>.inr (.inr (.inl (by rw [hbl]; rfl))),(fun e=>nomatch e),fun _=>.inr (.inr (.inr (by rw [hbl]; rfl))),trivial⟩
 have hmine : ∀ g,ours Y s2.heap g -> q.mine g:=fun g hg=>by
  rcases hours g hg with rfl | rfl | rfl | rfl
  ·exact .inl rfl
  ·exact .inr (.inl rfl)
  ·exact .inr (.inr (.inl rfl))
  ·exact mK
 let out : Int:=if done = true then 1 else 0
 let Post : World -> γ -> zf9 -> World -> Prop:=fun w1 s' r w'=>s' = s /\ Below w1.heap.size w1 w' /\ r = .back (.agg (f99 0 out a).toArray)
 have HJ : ∀ (Y' : Env) (w' : World),Ext Y Y' -> Chg (ours Y s2.heap) w w' -> X.there s w' -> Jdo Try.prog X 43 (za3 Y' zht).toArray s w' (Post w'):=by
  intro Y' w' hx' _ _
  have:=tell99 (X:=X) (s:=s) (w:=w') (k:=k) (K:=K) (T:=T) (was:=was) (done:=done) a hM
  rwa [show (za3 Y' zht).toArray = #[cfg k K T Mn,.agg (f99 99 0 a).toArray,.int .u64 was,.bool done] by
   obtain ⟨l,m,rfl⟩:=hx'
   obtain ⟨Yi,Yb,Yx,Yy,Yk,Yp⟩:=Y
   dsimp only at hi hb
   subst hi hb
   rfl]
 have HB : ∀ (h1' : List HB) (n : Nat) (Y' : Env) (w' : World),h1'.length = n -> 5 <= n -> zdn ⟨30,1,188,6,n⟩ h1' = true -> Ext Y Y' -> Rep X s (ours Y s2.heap) w Y' h1' s2.facts 0 w' -> ∀ s' v w'',Post w' s' (.back v) w'' -> X.there s' w'' -> ∃ (S' : Nat -> Prop) (w₁ : World) (ai : List Int) (ab : List Bool) (ax ay : List Value),v = SV.den (Y'.grow ai ab ax ay []) (.agg [.int .i64 (.lit 0),.int .u32 (.lit 0),.int .i64 (.lit 0),.int .i64 (.lit 0),.int .i64 (.lit 0),.int .u64 (.lit 0),.int .u64 (.lit 0),.int .u64 (.lit 0),.int .u64 (.lit 0),.int .i64 (.lit 0),.c (.slice none 0 0),.bool (.lit false),.int .u64 (.lit 0),.int .u64 (.lit 0),.int .i64 (.lit 0),.int .u32 (.lit 0),.int .i64 (.lit 0),.int .i64 (.v 10),.int .i64 (.v 11),.int .i64 (.v 12),.int .u64 (.v 13),.int .u64 (.v 14),.int .i64 (.lit 0),.int .u32 (.v 30)]) /\ Rep X s' S' w₁ (Y'.grow ai ab ax ay []) h1' s2.facts 0 w'' /\ ∀ Y'' w3,Ext (Y'.grow ai ab ax ay []) Y'' -> Rep X s' S' w₁ Y'' s4_in.heap s4_in.facts 0 w3 -> Fr.reach Try.prog X Stop s' (c :: cs) Y'' s4_in.frs w3:=by
  intro h1' n Y' w' hn hn3 hok hx' hr' s' v w'' hp' ht2
  obtain ⟨rfl,hb2,ev⟩:=hp'
  cases ev
  have hlb' : Y'.blks.length = n:=hr'.len.trans hn
  have hL' : Y'.lens = ⟨30,1,188,6,n⟩:=by
   simp only [Env.lens,hx'.ints,hx'.bools,hx'.xs,hx'.ys,hi,hb,hx,hy,hlb',hxs]
   rfl
  have hgi : (Y'.grow [out] [] [] [] []).ints = Y.ints ++ [out]:=by simp only [Env.grow,hx'.ints]
  have hgk : (Y'.grow [out] [] [] [] []).blks = Y'.blks:=by simp only [Env.grow,List.append_nil]
  have hgy : (Y'.grow [out] [] [] [] []).ys = Y.ys:=by simp only [Env.grow,List.append_nil,hx'.ys]
  refine ⟨ours Y s2.heap,w,[out],[],[],[],?_,(hr'.below hb2).grow_ hL' hok rfl _ _ _ _ (fun v hv=>by cases hv),fun Y'' w3 hx'' hr''=>?_⟩
  ·generalize Y'.grow _ _ _ _ _ = Yg at hgi
   obtain ⟨gi,gb,gx,gy,gk,gp⟩:=Yg
   dsimp only at hgi
   rw [hi] at hgi
   subst hgi
   rfl
  refine zaa 900 s4_run hr'' ⟨fun Y4 w4 hx4 hr4=>?_,trivial⟩
  have hi4 : Y4.ints = Y.ints ++ [out]:=hx4.ints.trans (hx''.ints.trans hgi)
  have hy4 : Y4.ys = Y.ys:=hx4.ys.trans (hx''.ys.trans hgy)
  have hl'' : Y''.blks.length = 6:=hr''.len
  have hk4 : ∀ i,i < 5 -> Y4.blks.getD i {} = Y.blks.getD i {}:=fun i hi=>by
   rw [hx4.blk (by omega),hx''.blk (by rw [hgk]; omega),hgk,hx'.blk (by rw [hbl]; exact hi)]
  have hc4:=hr4.chg
  have hoff4 : ∀ g,g < w.heap.size -> g ≠ q.gR -> g ≠ q.gO -> g ≠ q.gC -> g ≠ gK -> w4.heap[g]? = w.heap[g]?:=fun g hg e1 e2 e3 e4=>hc4.block g hg fun ho=>by
   rcases hours g ho with h1 | h1 | h1 | h1
   ·exact e1 h1
   ·exact e2 h1
   ·exact e3 h1
   ·exact e4 h1
  let rc' : Rc:={ rc with to:=(r.steps.length : Int) - 1,code:=0,out:=out }
  refine zbx s4_0_end hr4.rep (hback { q with fs:=q.fs.set t (f99 0 out a) } w4 rfl ?_ hr4.there)
  have hrK : r.calls.set k' rc' = r.calls.set k' { rc with to:=(r.steps.length : Int) - 1,code:=0,out:=if done = true then 1 else 0 }:=rfl
  refine ⟨?_,?_,?_,?_,?_,?_,?_,?_,?_,(zbb.chg h.mem (Nat.le_refl _) hc4 fun g hg=>h.off g (hmine g hg)).more hc4.size,h.small,h.off,fun g hg=>let d:=h.dis g hg; ⟨d.1,Nat.lt_of_lt_of_le d.2.1 hc4.size,d.2.2⟩,h.ne,h.bel.trans (hc4.below (fun g hg=>(h.dis g (hmine g hg)).2.2) h.bel.size),?_,h.far⟩
  ·have h3:=(hr4.rep.blk 0 _ rfl rfl).2
   rw [hk4 0 (by decide),hbl] at h3
   have h4 : Blk w4 q.gR 91 (za3 Y4 ((s2.heap.headD default).cs)).toArray:=by
    refine Eq.trans h3 ?_
    simp only [Seg.whole,List.getD_cons_zero,List.nil_append,List.append_nil]
    rfl
   have e : za3 Y4 ((s2.heap.headD default).cs) = r3V k K T Mn r.at_.length q:=by
    unfold r3V
    rw [hcE,eS,eK]
    have k1:=hk4 1 (by decide)
    have k2:=hk4 2 (by decide)
    have k3:=hk4 3 (by decide)
    have k4:=hk4 4 (by decide)
    rw [hbl] at k1 k2 k3 k4
    show [Value.int .i64 (Y4.ints.getD 15 0),.int .i64 (Y4.ints.getD 16 0),.int .i64 (Y4.ints.getD 17 0),.int .i64 (Y4.ints.getD 18 0),.int .u64 (Y4.ints.getD 19 0),.int .u64 (Y4.ints.getD 20 0),Y4.ys.getD 0 .nilFunc,Y4.ys.getD 1 .nilFunc,.int .u64 (Y4.ints.getD 21 0),.int .u64 (Y4.ints.getD 22 0),Y4.ys.getD 2 .nilFunc,Y4.ys.getD 3 .nilFunc,Y4.ys.getD 4 .nilFunc,.slice (Y4.blks.getD 1 {}).adr (Y4.ints.getD 2 0).toNat (Y4.ints.getD 3 0).toNat,.slice (Y4.blks.getD 2 {}).adr (Y4.ints.getD 2 0).toNat (Y4.ints.getD 4 0).toNat,Y4.ys.getD 5 .nilFunc,.slice (Y4.blks.getD 3 {}).adr (Y4.ints.getD 5 0).toNat (Y4.ints.getD 6 0).toNat,.slice (Y4.blks.getD 4 {}).adr (Y4.ints.getD 7 0).toNat (Y4.ints.getD 8 0).toNat,.int .u64 0,.int .u64 0,.slice none 0 0,.slice none 0 0,.int .u64 0,.int .u64 0,.slice none 0 0,.slice none 0 0,.slice none 0 0] = _
    rw [k1,k2,k3,k4,hi4,hy4,hi,hy]
    rfl
   rw [e] at h4
   exact h4
  ·have h3:=(hr4.rep.blk 1 _ rfl rfl).2
   rw [hk4 1 (by decide),hbl] at h3
   have e : za3 Y4 ((s4_0.heap.getD 1 default).cs) = f99 0 out a:=by
    obtain ⟨gi,gb,gx,gy,gk,gp⟩:=Y4
    dsimp only at hi4
    rw [hi] at hi4
    subst hi4
    rfl
   refine Eq.trans h3 ?_
   show some (Obj.cells _ _ _) = some (Obj.cells _ _ _)
   congr 2
   show ((q.fs.take t).flatten ++ za3 Y4 ((s4_0.heap.getD 1 default).cs) ++ ((q.fs.drop (t + 1)).flatten ++ q.pO)).toArray = _
   rw [e,fl_set htf]
  ·have h3:=(hr4.rep.blk 2 _ rfl rfl).2
   rw [hk4 2 (by decide),hbl] at h3
   refine Eq.trans h3 ?_
   show some (Obj.cells _ _ _) = some (Obj.cells _ _ _)
   congr 2
   show ((isV r.cl).take t ++ [Value.int .i64 (-1)] ++ ((isV r.cl).drop (t + 1) ++ q.pC)).toArray = _
   rw [set_at (by unfold isV; rw [List.length_map]; exact htc)]
   unfold isV
   rw [List.map_set]
  ·exact (hoff4 q.gA (h.dis _ (.inr (.inr (.inr (.inl rfl))))).2.1 (Ne.symm nRA) (Ne.symm nOA) (Ne.symm nCA) (Ne.symm nKA)).trans h.A
  ·show (q.fs.set t _).length = _
   rw [List.length_set]; exact h.fl
  ·intro f hf'
   rcases List.mem_or_eq_of_mem_set hf' with h1 | rfl
   ·exact h.fc f h1
   ·exact ⟨rfl,zox⟩
  ·show (r.cl.set t (-1)).length = _
   rw [List.length_set]; exact h.cl
  ·exact zeo h.S fun g hg hl=>by
    rw [eS] at hg
    obtain rfl:=Option.some.inj hg
    exact hoff4 gS hl nSR nSO nSC (Ne.symm n4)
  ·have h3:=(hr4.rep.blk 4 _ rfl rfl).2
   rw [hk4 4 (by decide),hbl] at h3
   have e : za3 Y4 ((s4_0.heap.getD 4 default).cs) = rc'.cells:=by
    obtain ⟨gi,gb,gx,gy,gk,gp⟩:=Y4
    dsimp only at hi4
    rw [hi] at hi4
    subst hi4
    show [Value.int .i64 rc.th,.int .i64 rc.kind,.int .u32 rc.val,.int .i64 rc.frm,.int .i64 (IntKind.i64.wrap (((r.steps.length : Int).toNat : Int) - 1)),.int .i64 0,.int .u32 out] = _
    rw [wrap_pred (Nat.le_trans cS1 cS2)]
    rfl
   have h4 : Blk w4 gK 65 ((r.calls.set k' rc').flatMap Rc.cells ++ pK).toArray:=by
    refine Eq.trans h3 ?_
    show some (Obj.cells _ _ _) = some (Obj.cells _ _ _)
    congr 2
    show ((r.calls.take k').flatMap Rc.cells ++ za3 Y4 ((s4_0.heap.getD 4 default).cs) ++ ((r.calls.drop (k' + 1)).flatMap Rc.cells ++ pK)).toArray = _
    rw [e,zot Rc.cells r.calls k' rc' hkl]
    simp only [List.append_assoc]
   have hlen : ((r.calls.set k' rc').flatMap Rc.cells).length = r.calls.length * 7:=by rw [zde Rc.len,List.length_set]
   have:=own_mk h4 (by rw [hlen]) cK1 cK2 (by rw [hlen,<- lK]; exact cK3)
   show w4.ownsRow 0 _ 7 q.vC (r.calls.set k' rc').length _
   rw [eK,List.length_set]
   exact this
  ·rcases h.nils with ⟨e,_⟩ | h1
   ·rw [eS] at e; cases e
   ·exact .inr h1
 show Fr.reach _ X Stop s (c :: cs) Y [s2.frs.headD default] w
 refine zme (fr:=s2.frs.headD default) (callers:=[]) (p:=s2_p) (k:=(s2.frs.headD default).todo.tail) s2_kd [13,14] [(13,s2_ordA),(14,s2_ordB)] rfl s2_code rfl s2_ok hr ⟨?_,?_,trivial⟩
 ·exact zbm (k:=(s2.frs.headD default).todo.tail) 900 (fun Y'=>(za3 Y' zht).toArray) (.agg [.int .i64 (.lit 0),.int .u32 (.lit 0),.int .i64 (.lit 0),.int .i64 (.lit 0),.int .i64 (.lit 0),.int .u64 (.lit 0),.int .u64 (.lit 0),.int .u64 (.lit 0),.int .u64 (.lit 0),.int .i64 (.lit 0),.c (.slice none 0 0),.bool (.lit false),.int .u64 (.lit 0),.int .u64 (.lit 0),.int .i64 (.lit 0),.int .u32 (.lit 0),.int .i64 (.lit 0),.int .i64 (.v 10),.int .i64 (.v 11),.int .i64 (.v 12),.int .u64 (.v 13),.int .u64 (.v 14),.int .i64 (.lit 0),.int .u32 (.v 30)]) s3a1_grp s3a2_grp (zcg [13] [] _) s3a_at s3a_kdi s3a_gd s3a_set (fun Y' w hx=>zbs s3a_call s3a_fresh Y' w) hr (L:=⟨30,1,188,6,5⟩) (by rw [hL]; rfl) (by kernel_rfl) rfl (Post:=fun _=>Post) (fun Y' w1 hx' hr'=>HJ Y' w1 hx' hr'.chg hr'.there) (fun Y' w1 hx' hr'=>HB _ 5 Y' w1 rfl (by decide) (by kernel_rfl) hx' hr') (fun Y' w1 s' ch w' hp=>by obtain ⟨_,_,e⟩:=hp; cases e)
 ·exact zbm (k:=(s2.frs.headD default).todo.tail) 900 (fun Y'=>(za3 Y' znh).toArray) (.agg [.int .i64 (.lit 0),.int .u32 (.lit 0),.int .i64 (.lit 0),.int .i64 (.lit 0),.int .i64 (.lit 0),.int .u64 (.lit 0),.int .u64 (.lit 0),.int .u64 (.lit 0),.int .u64 (.lit 0),.int .i64 (.lit 0),.c (.slice none 0 0),.bool (.lit false),.int .u64 (.lit 0),.int .u64 (.lit 0),.int .i64 (.lit 0),.int .u32 (.lit 0),.int .i64 (.lit 0),.int .i64 (.v 10),.int .i64 (.v 11),.int .i64 (.v 12),.int .u64 (.v 13),.int .u64 (.v 14),.int .i64 (.lit 0),.int .u32 (.v 30)]) s3b1_grp s3b2_grp (zcg [13] [] _) s3b_at s3b_kdi s3b_gd s3b_set (fun Y' w hx=>zbs s3b_call s3b_fresh Y' w) hr (L:=⟨30,1,188,6,6⟩) (by rw [hL]; rfl) (by kernel_rfl) rfl (Post:=fun _=>Post) (fun Y' w1 hx' hr'=>HJ Y' w1 hx' hr'.chg hr'.there) (fun Y' w1 hx' hr'=>HB _ 6 Y' w1 rfl (by decide) (by kernel_rfl) hx' hr') (fun Y' w1 s' ch w' hp=>by obtain ⟨_,_,e⟩:=hp; cases e)
end
end
end Go.Proofs.Ytonhfgjofgbcdaa.Dr
