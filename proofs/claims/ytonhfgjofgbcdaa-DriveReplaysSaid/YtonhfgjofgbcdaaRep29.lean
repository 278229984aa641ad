/- The texts DrLrA, DrLr, DrLr2 of this claim's proof; what is proved stands in the last one. -/
import Derived.Test.YtonhfgjofgbcdaaRep13
import Derived.Test.YtonhfgjofgbcdaaRep20
import Derived.Test.YtonhfgjofgbcdaaRep22
import Derived.Test.YtonhfgjofgbcdaaRep28
set_option linter.unusedSimpArgs false
set_option linter.unusedVariables false
namespace Go.Proofs.Ytonhfgjofgbcdaa.Dr
set_option maxRecDepth 20000
open Go Go.Conc Go.RowKit Go.Proofs.Ytonhfgjofgbcdaa.Jay Go.Proofs.Ytonhfgjofgbcdaa.Pl
open Go.Proofs.Ytonhfgjofgbcdaa.Sx
set_option maxRecDepth 20000
noncomputable def yg2 : List SV := [.tup [.agg [Lu 2,Lu 3,.y 0,.y 1,Lu 4,Lu 5,.y 2,.y 3,.y 4],.bool (.lit true)]]
noncomputable def yft : List SV := [.agg [Lu 2,Lu 3,.y 0,.y 1,Lu 4,Lu 5,.y 2,.y 3,.y 4]]
noncomputable def yev : List SV := yg2 ++ xr 55 3 ++ yg2 ++ yft ++ [.bool (.lit true),.bool (.lit true),.bool (.lit false),.bool (.lit false)] ++ yft ++ [.ptr 1 2,.agg [Lu 10,Lu 11,.y 5,.y 6,Lu 12,Lu 13,.y 7,.y 8,.y 9]]
noncomputable def yfl : List SV := [.tup [.agg [.sl (.blk 2) (.v 2) (.e (.v 3)),.sl (.blk 3) (.v 4) (.e (.v 5)),Lu 6,Lu 7,.y 0,.y 1,Lu 8,Lu 9,.y 2,.y 3,.y 4],Li 10]]
noncomputable def yew : List SV := [.ptr 4 0,Li 10] ++ xr 9 32 ++ yfl ++ xr 42 3 ++ yfl ++ [.agg [.sl (.blk 2) (.v 2) (.e (.v 3)),.sl (.blk 3) (.v 4) (.e (.v 5)),Lu 6,Lu 7,.y 0,.y 1,Lu 8,Lu 9,.y 2,.y 3,.y 4],Li 10,Li 10,.bool (.cmp .neq (.v 10) (.lit 0))]
noncomputable def yf5 : List SV := xr 4 10 ++ [Li 0,.sl (.blk 0) (.v 1) (.e (.v 2)),.int .i64 (.tn (.v 1)),.bool (.cmp .lss (.v 0) (.tn (.v 1))),.bool (.cmp .lss (.v 0) (.tn (.v 1)))]
noncomputable def yfg : List SV := xr 22 9 ++ [Li 5,.bool (.cmp .gtr (.v 5) (.lit 400)),.bool (.cmp .gtr (.v 5) (.lit 400))]
noncomputable def yex : List SV := [Li 5,Li 0] ++ yf5 ++ [u,u,.bool (.lit false)] ++ yfg ++ [.sl (.blk 1) (.v 3) (.e (.v 4)),.int .i64 (.tn (.v 3)),.bool (.cmp .gtr (.tn (.v 3)) (.lit 1000)),.bool (.cmp .gtr (.tn (.v 3)) (.lit 1000))]
noncomputable def yey : List SV := [.sl (.blk 0) (.v 1) (.e (.v 2)),.sl (.blk 1) (.v 3) (.e (.v 4))]
noncomputable def yfz : List SV := [.sl (.blk 0) (.v 2) (.e (.v 3))]
noncomputable def yf6 : List SV := [.x 0,.x 1] ++ yfz ++ xr 2 6 ++ [.ptr 1 0] ++ xr 8 3
noncomputable def yez : List Fr := [⟨6,yf6 ++ [Li 1,Li 0] ++ xr 11 142,[.code (.at_ [0,0,0,0,0,1,0,0,1,0,10]),.inLoop (.at_ [0,0,0,0,0,1,0,0,1,0,10]),.inBlock 4,.code (.at_ [1,0,0,1,0,0,1,0,10]),.inBlock 3,.code (.at_ [2,0,0,1,0,10]),.inLoop (.at_ [0,0,1,0,10]),.inBlock 2,.code (.at_ [11])]⟩]
noncomputable def yfo : List HB := [⟨61,[],false,none,none,none⟩]
noncomputable def yfn : List HB := [⟨63,[],false,none,none,none⟩,⟨65,[],false,none,none,none⟩]
noncomputable def yf0 : List HB := yfo ++ [⟨52,[.sl (.blk 2) (.v 6) (.e (.v 7)),.sl (.blk 3) (.v 8) (.e (.v 9)),Lu 10,Lu 11,.y 5,.y 6,Lu 12,Lu 13,.y 7,.y 8,.y 9],false,none,none,none⟩] ++ yfn ++ [⟨25,[Lu 2,Lu 3,.y 0,.y 1,Lu 4,Lu 5,.y 2,.y 3,.y 4],true,none,none,none⟩]
noncomputable def yg0 : List SV := [.sl (.blk 2) (.v 4) (.e (.v 5))]
noncomputable def yfr : List SV := [.sl (.blk 3) (.v 6) (.e (.v 7))]
noncomputable def yf1 : List HB := [⟨61,[Li 8,.int .u32 (.v 9)],false,some ((.v 1),2),none,none⟩,⟨52,yg0 ++ yfr,false,none,none,none⟩,⟨63,[Li 10],false,some ((.v 0),8),none,none⟩]
noncomputable def yf2 : List HB := yfo ++ [⟨52,yg0 ++ yfr,false,none,none,none⟩] ++ yfn
noncomputable def yf3 : List Fr := [⟨6,[.x 0] ++ yey ++ [.ptr 2 0] ++ xr 1 3 ++ [Li 5,Li 0] ++ xr 4 148,[.code (.at_ [0,0,1,0,3]),.inLoop (.at_ [0,0,1,0,3]),.inBlock 0,.code (.at_ [4])]⟩]
noncomputable def yf4 : List (B × Bool) := [((.cmp .lss (.v 1) (.tn (.v 2))),true),((.cmp .leq (.lit 0) (.v 1)),true),((.cmp .lss (.v 0) (.tn (.v 4))),true),((.cmp .leq (.lit 0) (.v 0)),true)]
noncomputable def yg3 : List SV := [.x 0,.x 1,.sl (.blk 0) (.v 0) (.e (.v 1))]
noncomputable def yf7 : List SV := yg3 ++ xr 2 6 ++ [.ptr 1 0,.x 8,.ptr 4 0,.bool (.lit true)]
noncomputable def yf8 : List HB := [⟨49,[],false,none,none,none⟩] ++ yfo
noncomputable def yf9 : List SV := [Li 1] ++ yfz ++ [.int .i64 (.tn (.v 2)),.bool (.cmp .lss (.v 1) (.tn (.v 2))),.bool (.cmp .lss (.v 1) (.tn (.v 2)))] ++ yfz ++ [Li 1,.ptr 0 0,.ptr 0 0,Li 8,.ptr 1 0] ++ yg0 ++ [Li 0,.ptr 2 0,.ptr 2 0,Li 10,.bool (.cmp .neq (.v 8) (.v 10)),.bool (.cmp .neq (.v 8) (.v 10))]
noncomputable def yfa : List SV := yg3 ++ [.ptr 1 0] ++ xr 2 5 ++ yew ++ xr 49 5 ++ [.agg [Li 11,Li 12,Li 13,Li 14],.ptr 4 0,.sl (.blk 2) (.v 2) (.e (.v 3))]
noncomputable def yfb : List Fr := [⟨6,yf6 ++ [Li 1,Li 0] ++ xr 11 142,[.code (.at_ [0,0,1,0,10]),.inLoop (.at_ [0,0,1,0,10]),.inBlock 2,.code (.at_ [11])]⟩]
noncomputable def yfc : List HB := yfn ++ [⟨52,[.sl (.blk 2) (.v 2) (.e (.v 3)),.sl (.blk 3) (.v 4) (.e (.v 5)),Lu 6,Lu 7,.y 0,.y 1,Lu 8,Lu 9,.y 2,.y 3,.y 4],true,none,none,none⟩]
noncomputable def yfd : List (B × Bool) := [((.cmp .neq (.v 8) (.v 10)),false),((.cmp .eql (.v 1) (.tn (.v 2))),false),((.cmp .neq (.v 0) (.v 0)),false),((.cmp .neq (.v 10) (.v 10)),false),((.cmp .lss (.v 0) (.tn (.v 6))),true)] ++ yf4
noncomputable def yfw : List HB := [⟨36,[],false,none,none,none⟩]
noncomputable def yfe : List HB := [⟨49,yfr,false,some ((.v 0),1),none,none⟩] ++ yfo ++ yfw ++ [⟨27,[],false,none,none,none⟩]
noncomputable def yff : List (B × Bool) := [((.cmp .gtr (.tn (.v 6)) (.tn (.v 0))),false),((.cmp .neq (.tn (.v 8)) (.tn (.v 6))),false)]
noncomputable def yfh : List HB := yf8 ++ [⟨36,[Li 6,Li 7,Li 8,Li 9],false,none,none,none⟩]
noncomputable def yfi : List SV := [.x 0] ++ yey ++ [.ptr 2 0] ++ xr 1 3 ++ yex ++ [.x 38,.agg [Li 6,Li 7,Li 8,Li 9]] ++ yey
noncomputable def yfj : List SV := [Li 0,Li 0,.bool (.cmp .neq (.v 0) (.v 0)),.bool (.cmp .neq (.v 0) (.v 0)),.bool (.cmp .neq (.v 0) (.v 0)),.ptr 1 1] ++ yfr ++ [Li 0,.ptr 3 0]
noncomputable def yfk : List SV := [Li 1,Li 0] ++ xr 11 74 ++ [Li 0,.ptr 1 0] ++ yg0 ++ [.int .i64 (.tn (.v 4)),.bool (.cmp .lss (.v 0) (.tn (.v 4)))] ++ xr 90 63
noncomputable def yfm : List SV := [.agg [Li 0,Li 1,Li 2,Li 3],.x 0,.x 1]
noncomputable def yfp : List (B × Bool) := [((.cmp .gtr (.v 5) (.lit 400)),true),((.cmp .lss (.v 0) (.tn (.v 1))),true),((.cmp .leq (.v 5) (.lit 400)),false)]
noncomputable def yfq : List (B × Bool) := [((.cmp .lss (.v 0) (.tn (.v 1))),true),((.cmp .leq (.v 5) (.lit 400)),true),((.cmp .leq (.lit 0) (.v 0)),true)]
noncomputable def yfs : List HB := yf1 ++ [⟨65,[Li 10,.int .i64 (.lit 0),.int .u32 (.lit 0),Li 0,Li 0],false,some ((.v 0),7),none,none⟩]
noncomputable def yfu : List SV := [.int .i64 (.ar .add .i64 (.v 0) (.lit 1))]
noncomputable def yfv : List SV := [.int .i64 (.ar .add .i64 (.v 1) (.lit 1))]
noncomputable def yfx : List (B × Bool) := [((.cmp .lss (.v 0) (.tn (.v 1))),false)]
noncomputable def yfy : List SV := [.x 0] ++ yey ++ [.ptr 2 0,.x 1,.x 2,.bool (.lit true)]
noncomputable def yg1 : List SV := yf5 ++ [Li 5,.bool (.cmp .leq (.v 5) (.lit 400)),.bool (.cmp .leq (.v 5) (.lit 400))]
noncomputable def yg4 : List SV := [.bool (.cmp .gtr (.tn (.v 6)) (.tn (.v 0)))]
noncomputable def lr_args : List SV := yfm
noncomputable def lr_fr : Fr := ⟨6,yfm ++ ur 154,[.code (.at_ [])]⟩
theorem lr_fresh : fresh Try.prog 6 lr_args = some lr_fr := by kernel_rfl
noncomputable def lrA_in : St := ⟨[⟨6,yfm ++ ur 154,[.code (.at_ [])]⟩],[],[],0⟩
noncomputable def lrA_0 : St := ⟨[⟨6,yfm ++ [.ptr 0 0,u,u,.bool (.lit false)] ++ ur 150,[.inRegion [0,0,1] [0,1],.code (.at_ [1,0,1]),.code (.at_ [2])]⟩],[⟨36,[Li 0,Li 1,Li 2,Li 3],true,none,none,none⟩],[],0⟩
theorem lrA_run : run Try.prog [] [20,19,17,11] true 900 lrA_in = [lrA_0] := by kernel_rfl
noncomputable def lrA_op : Oper := (opsAt Try.prog 6 [0,0,1]).getD 0 default
theorem lrA_at : (opsAt Try.prog 6 [0,0,1])[0]? = some lrA_op := by kernel_rfl
noncomputable def lrA_fr : Fr := ⟨6,yfm ++ [.ptr 0 0,u,u,.bool (.lit false)] ++ ur 150,[.inRegion [0,0,1] [0,1],.code (.at_ [1,0,1]),.code (.at_ [2])]⟩
theorem lrA_gd : guardOf lrA_0.facts (opsAt Try.prog 6 [0,0,1]) lrA_fr.tmps lrA_op = .yes := by kernel_rfl
noncomputable def lrA_args : List SV := []
theorem lrA_call : scall Try.prog lrA_fr.tmps lrA_op.op = some (19,lrA_args) := by kernel_rfl
theorem lrA_fresh : (fresh Try.prog 19 lrA_args).isSome = true := by kernel_rfl
noncomputable def lrA_frb : Fr := ⟨6,[.agg [.int .i64 (.v 0),.int .i64 (.v 1),.int .i64 (.v 2),.int .i64 (.v 3)],.x 0,.x 1,.ptr 0 0,u,u,.bool (.lit false),u,u,u,u,u,u,u,u,.bool (.lit true),u,u,u,u,u,u,u,u,u,u,u,u,u,u,u,u,u,u,u,u,u,u,u,u,u,u,u,u,u,u,u,u,u,u,u,u,u,u,u,u,u,u,u,u,u,u,u,u,u,u,u,u,u,u,u,u,u,u,u,u,u,u,u,u,u,u,u,u,u,u,u,u,u,u,u,u,u,u,u,u,u,u,u,u,u,u,u,u,u,u,u,u,u,u,u,u,u,u,u,u,u,u,u,u,u,u,u,u,u,u,u,u,u,u,u,u,u,u,u,u,u,u,u,u,u,u,u,u,u,u,u,u,u,u,u,u,u,u,u,u,u],[.inRegion [0,0,1] [1],.code (.at_ [1,0,1]),.code (.at_ [2])]⟩
theorem lrA_put : Fr.put lrA_fr lrA_op.dst (.bool (.lit true)) ([.inRegion [0,0,1] [1],.code (.at_ [1,0,1]),.code (.at_ [2])]) = lrA_frb := by kernel_rfl
noncomputable def lrB_in : St := ⟨[⟨6,[.agg [.int .i64 (.v 5),.int .i64 (.v 6),.int .i64 (.v 7),.int .i64 (.v 8)],.sl (.blk 0) (.v 1) (.e (.v 2)),.sl (.blk 1) (.v 3) (.e (.v 4)),.ptr 2 0,u,u,.bool (.lit false),u,u,u,u,u,u,u,u,.bool (.lit true),u,u,u,u,u,u,u,u,u,u,u,u,u,u,u,u,u,u,u,u,u,u,u,u,u,u,u,u,u,u,u,u,u,u,u,u,u,u,u,u,u,u,u,u,u,u,u,u,u,u,u,u,u,u,u,u,u,u,u,u,u,u,u,u,u,u,u,u,u,u,u,u,u,u,u,u,u,u,u,u,u,u,u,u,u,u,u,u,u,u,u,u,u,u,u,u,u,u,u,u,u,u,u,u,u,u,u,u,u,u,u,u,u,u,u,u,u,u,u,u,u,u,u,u,u,u,u,u,u,u,u,u,u,u,u,u,u,u,u,u,u],[.inRegion [0,0,1] [1],.code (.at_ [1,0,1]),.code (.at_ [2])]⟩],
  [⟨49,[],false,none,none,none⟩,
  ⟨61,[],false,none,none,none⟩,
  ⟨36,[],false,none,none,none⟩],
  [],
  0⟩
noncomputable def lrB_0 : St := ⟨[⟨6,[.agg [Li 5,Li 6,Li 7,Li 8]] ++ yey ++ [.ptr 2 0,u,u,.bool (.lit false),.int .i64 (.tn (.v 1)),.int .i64 (.lit 0)] ++ ur 6 ++ [.bool (.lit true),.bool (.lit false),.sl (.blk 0) (.v 1) (.e (.v 2)),.int .i64 (.tn (.v 1))] ++ ur 138,[.code (.at_ [0,1,0,3]),.inBlock 0,.code (.at_ [4])]⟩],yf8 ++ yfw,[],0⟩
theorem lrB_run : run Try.prog [] [20,19,17,11] true 900 lrB_in = [lrB_0] := by kernel_rfl
noncomputable def lr1 : St := ⟨yf3,[],[],0⟩
noncomputable def lrB0_sub : Sub := ⟨[(.lit 0),(.v 1),(.v 2),(.v 3),(.v 4),(.tn (.v 1))],[],[.agg [.int .i64 (.v 5),.int .i64 (.v 6),.int .i64 (.v 7),.int .i64 (.v 8)],u,u,.bool (.lit false),u,u,u,u,u,u,.bool (.lit true),.bool (.lit false),.sl (.blk 0) (.v 1) (.e (.v 2)),.int .i64 (.tn (.v 1)),u,u,u,u,u,u,u,u,u,u,u,u,u,u,u,u,u,u,u,u,u,u,u,u,u,u,u,u,u,u,u,u,u,u,u,u,u,u,u,u,u,u,u,u,u,u,u,u,u,u,u,u,u,u,u,u,u,u,u,u,u,u,u,u,u,u,u,u,u,u,u,u,u,u,u,u,u,u,u,u,u,u,u,u,u,u,u,u,u,u,u,u,u,u,u,u,u,u,u,u,u,u,u,u,u,u,u,u,u,u,u,u,u,u,u,u,u,u,u,u,u,u,u,u,u,u,u,u,u,u,u,u,u,u,u,u,u,u],[],[0,1,2]⟩
theorem lrB0_head : HeadF Try.prog lrB0_sub lrB_0 lr1 := ⟨by kernel_rfl,by kernel_rfl⟩
noncomputable def lrC_in : St := ⟨yf3,yfe,yfq,0⟩
noncomputable def lrC_0 : St := ⟨[⟨6,[.x 0] ++ yey ++ [.ptr 2 0] ++ xr 1 3 ++ [.int .i64 (.ar .add .i64 (.v 5) (.tn (.v 6)))] ++ yfu ++ yg1 ++ [Li 0] ++ yfu ++ [Li 5,.sl (.blk 0) (.v 1) (.e (.v 2)),Li 0,.ptr 0 0] ++ yfr ++ [.int .i64 (.tn (.v 6)),.int .i64 (.ar .add .i64 (.v 5) (.tn (.v 6)))] ++ xr 31 121,[.inLoop (.at_ [0,0,1,0,3]),.inBlock 0,.code (.at_ [4])]⟩],yfe,yfq,0⟩
theorem lrC_run : run Try.prog [] [20,19,17,11] true 900 lrC_in = [lrC_0] := by kernel_rfl
noncomputable def lrC0_sub : Sub := ⟨[(.ar .add .i64 (.v 0) (.lit 1)),(.v 1),(.v 2),(.v 3),(.v 4),(.ar .add .i64 (.v 5) (.tn (.v 6)))],[],[.x 0,.x 1,.x 2,.x 3,.x 4,.x 5,.x 6,.x 7,.x 8,.x 9,.x 10,.x 11,.x 12,.x 13,.int .i64 (.v 0),.sl (.blk 0) (.v 1) (.e (.v 2)),.int .i64 (.tn (.v 1)),.bool (.cmp .lss (.v 0) (.tn (.v 1))),.bool (.cmp .lss (.v 0) (.tn (.v 1))),.int .i64 (.v 5),.bool (.cmp .leq (.v 5) (.lit 400)),.bool (.cmp .leq (.v 5) (.lit 400)),.int .i64 (.v 0),.int .i64 (.ar .add .i64 (.v 0) (.lit 1)),.int .i64 (.v 5),.sl (.blk 0) (.v 1) (.e (.v 2)),.int .i64 (.v 0),.ptr 0 0,.sl (.blk 3) (.v 6) (.e (.v 7)),.int .i64 (.tn (.v 6)),.int .i64 (.ar .add .i64 (.v 5) (.tn (.v 6))),.x 31,.x 32,.x 33,.x 34,.x 35,.x 36,.x 37,.x 38,.x 39,.x 40,.x 41,.x 42,.x 43,.x 44,.x 45,.x 46,.x 47,.x 48,.x 49,.x 50,.x 51,.x 52,.x 53,.x 54,.x 55,.x 56,.x 57,.x 58,.x 59,.x 60,.x 61,.x 62,.x 63,.x 64,.x 65,.x 66,.x 67,.x 68,.x 69,.x 70,.x 71,.x 72,.x 73,.x 74,.x 75,.x 76,.x 77,.x 78,.x 79,.x 80,.x 81,.x 82,.x 83,.x 84,.x 85,.x 86,.x 87,.x 88,.x 89,.x 90,.x 91,.x 92,.x 93,.x 94,.x 95,.x 96,.x 97,.x 98,.x 99,.x 100,.x 101,.x 102,.x 103,.x 104,.x 105,.x 106,.x 107,.x 108,.x 109,.x 110,.x 111,.x 112,.x 113,.x 114,.x 115,.x 116,.x 117,.x 118,.x 119,.x 120,.x 121,.x 122,.x 123,.x 124,.x 125,.x 126,.x 127,.x 128,.x 129,.x 130,.x 131,.x 132,.x 133,.x 134,.x 135,.x 136,.x 137,.x 138,.x 139,.x 140,.x 141,.x 142,.x 143,.x 144,.x 145,.x 146,.x 147,.x 148,.x 149,.x 150,.x 151],[],[0,1,2]⟩
theorem lrC0_head : HeadF Try.prog lrC0_sub lrC_0 lr1 := ⟨by kernel_rfl,by kernel_rfl⟩
noncomputable def lrE_in : St := ⟨yf3,yf8 ++ yfw,yfp,0⟩
noncomputable def lrE_0 : St := ⟨[⟨6,yfy ++ [Li 5,Li 0] ++ yg1 ++ yfg ++ ur 3 ++ [.bool (.lit true)] ++ xr 38 114,[.code (.at_ [1,0,1,0,4]),.code (.at_ [5])]⟩],yf8 ++ yfw,yfp,0⟩
theorem lrE_0_end : stEnd Try.prog lrE_0 = some (.bool (.lit true)) := by kernel_rfl
theorem lrE_run : run Try.prog [] [20,19,17,11] true 900 lrE_in = [lrE_0] := by kernel_rfl
noncomputable def lrD_in : St := ⟨yf3,yfh,yfx,0⟩
noncomputable def lrD_0 : St := ⟨[⟨6,yfy ++ [Li 5,Li 0] ++ yf5 ++ [u,u,.bool (.lit false)] ++ yfg ++ ur 3 ++ [.bool (.lit true)] ++ xr 38 114,[.code (.at_ [1,0,1,0,4]),.code (.at_ [5])]⟩],yfh,[((.cmp .gtr (.v 5) (.lit 400)),true)] ++ yfx,0⟩
theorem lrD_0_end : stEnd Try.prog lrD_0 = some (.bool (.lit true)) := by kernel_rfl
noncomputable def lrD_1 : St := ⟨[⟨6,yfy ++ yex ++ xr 38 114,[.code (.at_ [1,0,1,0,4]),.code (.at_ [5])]⟩],yfh,[((.cmp .gtr (.tn (.v 3)) (.lit 1000)),true),((.cmp .gtr (.v 5) (.lit 400)),false)] ++ yfx,0⟩
theorem lrD_1_end : stEnd Try.prog lrD_1 = some (.bool (.lit true)) := by kernel_rfl
noncomputable def lrD_2 : St := ⟨[⟨6,yfi ++ xr 42 110,[.inRegion [0,5] [3,4,5,6,7,8,9],.code (.at_ [6])]⟩],yfh,[((.cmp .gtr (.tn (.v 3)) (.lit 1000)),false),((.cmp .gtr (.v 5) (.lit 400)),false)] ++ yfx,0⟩
theorem lrD_run : run Try.prog [] [20,19,17,11] true 900 lrD_in = [lrD_0,lrD_1,lrD_2] := by kernel_rfl
noncomputable def lrD_op : Oper := (opsAt Try.prog 6 [0,5]).getD 3 default
theorem lrD_at : (opsAt Try.prog 6 [0,5])[3]? = some lrD_op := by kernel_rfl
noncomputable def lrD_fr : Fr := ⟨6,yfi ++ xr 42 110,[.inRegion [0,5] [3,4,5,6,7,8,9],.code (.at_ [6])]⟩
theorem lrD_gd : guardOf lrD_2.facts (opsAt Try.prog 6 [0,5]) lrD_fr.tmps lrD_op = .yes := by kernel_rfl
noncomputable def lrD_args : List SV := [.agg [Li 6,Li 7,Li 8,Li 9]] ++ yey
theorem lrD_call : scall Try.prog lrD_fr.tmps lrD_op.op = some (20,lrD_args) := by kernel_rfl
theorem lrD_fresh : (fresh Try.prog 20 lrD_args).isSome = true := by kernel_rfl
noncomputable def lrD_frb : Fr := ⟨6,yfi ++ [.x 152] ++ xr 43 109,[.inRegion [0,5] [4,5,6,7,8,9],.code (.at_ [6])]⟩
theorem lrD_put : Fr.put lrD_fr lrD_op.dst (.x 152) ([.inRegion [0,5] [4,5,6,7,8,9],.code (.at_ [6])]) = lrD_frb := by kernel_rfl
noncomputable def lrD_p : St := ⟨[⟨6,[.x 0,.x 1,.sl (.blk 0) (.v 0) (.e (.v 1)),.ptr 1 0,.x 2,.x 3,.x 4,.x 5,.x 6,.x 7,.x 8,.x 9,.x 10,.x 11,.x 12,.x 13,.x 14,.x 15,.x 16,.x 17,.x 18,.x 19,.x 20,.x 21,.x 22,.x 23,.x 24,.x 25,.x 26,.x 27,.x 28,.x 29,.x 30,.x 31,.x 32,.x 33,.x 34,.x 35,.x 36,.x 37,.x 38,.x 39,.x 40,.x 41,.x 42,.x 43,.x 44,.x 154,.x 45,.x 46,.x 47,.x 48,.x 49,.x 50,.x 51,.x 52,.x 53,.x 54,.x 55,.x 56,.x 57,.x 58,.x 59,.x 60,.x 61,.x 62,.x 63,.x 64,.x 65,.x 66,.x 67,.x 68,.x 69,.x 70,.x 71,.x 72,.x 73,.x 74,.x 75,.x 76,.x 77,.x 78,.x 79,.x 80,.x 81,.x 82,.x 83,.x 84,.x 85,.x 86,.x 87,.x 88,.x 89,.x 90,.x 91,.x 92,.x 93,.x 94,.x 95,.x 96,.x 97,.x 98,.x 99,.x 100,.x 101,.x 102,.x 103,.x 104,.x 105,.x 106,.x 107,.x 108,.x 109,.x 110,.x 111,.x 112,.x 113,.x 114,.x 115,.x 116,.x 117,.x 118,.x 119,.x 120,.x 121,.x 122,.x 123,.x 124,.x 125,.x 126,.x 127,.x 128,.x 129,.x 130,.x 131,.x 132,.x 133,.x 134,.x 135,.x 136,.x 137,.x 138,.x 139,.x 140,.x 141,.x 142,.x 143,.x 144,.x 145,.x 146,.x 147,.x 148,.x 149,.x 150,.x 151,.x 152,.x 153],[.inRegion [0,5] [4,5,6,7,8,9],.code (.at_ [6])]⟩],
  [],
  [],
  0⟩
noncomputable def lrDp_sub : Sub := ⟨[(.v 3),(.v 4)],[],[.x 0,.sl (.blk 0) (.v 1) (.e (.v 2)),.x 1,.x 2,.x 3,.int .i64 (.v 5),.int .i64 (.v 0),.x 4,.x 5,.x 6,.x 7,.x 8,.x 9,.x 10,.x 11,.x 12,.x 13,.int .i64 (.v 0),.sl (.blk 0) (.v 1) (.e (.v 2)),.int .i64 (.tn (.v 1)),.bool (.cmp .lss (.v 0) (.tn (.v 1))),.bool (.cmp .lss (.v 0) (.tn (.v 1))),u,u,.bool (.lit false),.x 22,.x 23,.x 24,.x 25,.x 26,.x 27,.x 28,.x 29,.x 30,.int .i64 (.v 5),.bool (.cmp .gtr (.v 5) (.lit 400)),.bool (.cmp .gtr (.v 5) (.lit 400)),.sl (.blk 1) (.v 3) (.e (.v 4)),.int .i64 (.tn (.v 3)),.bool (.cmp .gtr (.tn (.v 3)) (.lit 1000)),.bool (.cmp .gtr (.tn (.v 3)) (.lit 1000)),.x 38,.agg [.int .i64 (.v 6),.int .i64 (.v 7),.int .i64 (.v 8),.int .i64 (.v 9)],.sl (.blk 0) (.v 1) (.e (.v 2)),.sl (.blk 1) (.v 3) (.e (.v 4)),.x 43,.x 44,.x 45,.x 46,.x 47,.x 48,.x 49,.x 50,.x 51,.x 52,.x 53,.x 54,.x 55,.x 56,.x 57,.x 58,.x 59,.x 60,.x 61,.x 62,.x 63,.x 64,.x 65,.x 66,.x 67,.x 68,.x 69,.x 70,.x 71,.x 72,.x 73,.x 74,.x 75,.x 76,.x 77,.x 78,.x 79,.x 80,.x 81,.x 82,.x 83,.x 84,.x 85,.x 86,.x 87,.x 88,.x 89,.x 90,.x 91,.x 92,.x 93,.x 94,.x 95,.x 96,.x 97,.x 98,.x 99,.x 100,.x 101,.x 102,.x 103,.x 104,.x 105,.x 106,.x 107,.x 108,.x 109,.x 110,.x 111,.x 112,.x 113,.x 114,.x 115,.x 116,.x 117,.x 118,.x 119,.x 120,.x 121,.x 122,.x 123,.x 124,.x 125,.x 126,.x 127,.x 128,.x 129,.x 130,.x 131,.x 132,.x 133,.x 134,.x 135,.x 136,.x 137,.x 138,.x 139,.x 140,.x 141,.x 142,.x 143,.x 144,.x 145,.x 146,.x 147,.x 148,.x 149,.x 150,.x 151,.x 152],[],[1,2]⟩
theorem lrDp_fits : FitsF lrDp_sub ⟨[lrD_frb],[],[],0⟩ lrD_p := ⟨by kernel_rfl,by kernel_rfl⟩
noncomputable def lrF_in : St := ⟨[⟨6,[.x 0,.x 1,.sl (.blk 0) (.v 0) (.e (.v 1)),.ptr 1 0,.x 2,.x 3,.x 4,.x 5,.x 6,.x 7,.x 8,.x 9,.x 10,.x 11,.x 12,.x 13,.x 14,.x 15,.x 16,.x 17,.x 18,.x 19,.x 20,.x 21,.x 22,.x 23,.x 24,.x 25,.x 26,.x 27,.x 28,.x 29,.x 30,.x 31,.x 32,.x 33,.x 34,.x 35,.x 36,.x 37,.x 38,.x 39,.x 40,.x 41,.x 42,.x 43,.x 44,.tup [.agg [.sl (.blk 2) (.v 2) (.e (.v 3)),.sl (.blk 3) (.v 4) (.e (.v 5)),.int .u64 (.v 6),.int .u64 (.v 7),.y 0,.y 1,.int .u64 (.v 8),.int .u64 (.v 9),.y 2,.y 3,.y 4],.int .i64 (.v 10)],.x 45,.x 46,.x 47,.x 48,.x 49,.x 50,.x 51,.x 52,.x 53,.x 54,.x 55,.x 56,.x 57,.x 58,.x 59,.x 60,.x 61,.x 62,.x 63,.x 64,.x 65,.x 66,.x 67,.x 68,.x 69,.x 70,.x 71,.x 72,.x 73,.x 74,.x 75,.x 76,.x 77,.x 78,.x 79,.x 80,.x 81,.x 82,.x 83,.x 84,.x 85,.x 86,.x 87,.x 88,.x 89,.x 90,.x 91,.x 92,.x 93,.x 94,.x 95,.x 96,.x 97,.x 98,.x 99,.x 100,.x 101,.x 102,.x 103,.x 104,.x 105,.x 106,.x 107,.x 108,.x 109,.x 110,.x 111,.x 112,.x 113,.x 114,.x 115,.x 116,.x 117,.x 118,.x 119,.x 120,.x 121,.x 122,.x 123,.x 124,.x 125,.x 126,.x 127,.x 128,.x 129,.x 130,.x 131,.x 132,.x 133,.x 134,.x 135,.x 136,.x 137,.x 138,.x 139,.x 140,.x 141,.x 142,.x 143,.x 144,.x 145,.x 146,.x 147,.x 148,.x 149,.x 150,.x 151,.x 152,.x 153],[.inRegion [0,5] [4,5,6,7,8,9],.code (.at_ [6])]⟩],
  [⟨61,[],false,none,none,none⟩,
  ⟨36,[],false,none,none,none⟩,
  ⟨63,[],false,none,none,none⟩,
  ⟨65,[],false,none,none,none⟩],
  [((.cmp .neq (.v 10) (.lit 0)),true)],
  0⟩
noncomputable def lrF_0 : St := ⟨[⟨6,yg3 ++ [.ptr 1 0,.x 2,.x 3,.bool (.cmp .eql (.tn (.v 2)) (.lit 0)),.x 5,.x 6] ++ yew ++ [.ptr 4 0,.sl (.blk 2) (.v 2) (.e (.v 3)),.int .i64 (.tn (.v 2)),.bool (.cmp .eql (.tn (.v 2)) (.lit 0))] ++ xr 53 101,[.code (.at_ [1,0,1,0,6]),.code (.at_ [7])]⟩],yfo ++ yfw ++ yfc,[((.cmp .neq (.v 10) (.lit 0)),true)],0⟩
theorem lrF_0_end : stEnd Try.prog lrF_0 = some (.bool (.cmp .eql (.tn (.v 2)) (.lit 0))) := by kernel_rfl
theorem lrF_run : run Try.prog [] [20,19,17,11] true 900 lrF_in = [lrF_0] := by kernel_rfl
noncomputable def lrG_in : St := ⟨[⟨6,[.x 0,.x 1,.sl (.blk 0) (.v 0) (.e (.v 1)),.ptr 1 0,.x 2,.x 3,.x 4,.x 5,.x 6,.x 7,.x 8,.x 9,.x 10,.x 11,.x 12,.x 13,.x 14,.x 15,.x 16,.x 17,.x 18,.x 19,.x 20,.x 21,.x 22,.x 23,.x 24,.x 25,.x 26,.x 27,.x 28,.x 29,.x 30,.x 31,.x 32,.x 33,.x 34,.x 35,.x 36,.x 37,.x 38,.x 39,.x 40,.x 41,.x 42,.x 43,.x 44,.tup [.agg [.sl (.blk 2) (.v 2) (.e (.v 3)),.sl (.blk 3) (.v 4) (.e (.v 5)),.int .u64 (.v 6),.int .u64 (.v 7),.y 0,.y 1,.int .u64 (.v 8),.int .u64 (.v 9),.y 2,.y 3,.y 4],.int .i64 (.v 10)],.x 45,.x 46,.x 47,.x 48,.x 49,.x 50,.x 51,.x 52,.x 53,.x 54,.x 55,.x 56,.x 57,.x 58,.x 59,.x 60,.x 61,.x 62,.x 63,.x 64,.x 65,.x 66,.x 67,.x 68,.x 69,.x 70,.x 71,.x 72,.x 73,.x 74,.x 75,.x 76,.x 77,.x 78,.x 79,.x 80,.x 81,.x 82,.x 83,.x 84,.x 85,.x 86,.x 87,.x 88,.x 89,.x 90,.x 91,.x 92,.x 93,.x 94,.x 95,.x 96,.x 97,.x 98,.x 99,.x 100,.x 101,.x 102,.x 103,.x 104,.x 105,.x 106,.x 107,.x 108,.x 109,.x 110,.x 111,.x 112,.x 113,.x 114,.x 115,.x 116,.x 117,.x 118,.x 119,.x 120,.x 121,.x 122,.x 123,.x 124,.x 125,.x 126,.x 127,.x 128,.x 129,.x 130,.x 131,.x 132,.x 133,.x 134,.x 135,.x 136,.x 137,.x 138,.x 139,.x 140,.x 141,.x 142,.x 143,.x 144,.x 145,.x 146,.x 147,.x 148,.x 149,.x 150,.x 151,.x 152,.x 153],[.inRegion [0,5] [4,5,6,7,8,9],.code (.at_ [6])]⟩],
  [⟨61,[],false,none,none,none⟩,
  ⟨36,[.int .i64 (.v 11),.int .i64 (.v 12),.int .i64 (.v 13),.int .i64 (.v 14)],false,none,none,none⟩,
  ⟨63,[],false,none,none,none⟩,
  ⟨65,[],false,none,none,none⟩],
  [((.cmp .neq (.v 10) (.lit 0)),false)],
  0⟩
noncomputable def lrG_0 : St := ⟨[⟨6,yfa ++ xr 57 97,[.inRegion [0,7] [3,4,5,6,7,8,9],.code (.at_ [8])]⟩],yfo ++ [⟨36,[Li 11,Li 12,Li 13,Li 14],false,none,none,none⟩] ++ yfc,[((.cmp .neq (.v 10) (.lit 0)),false)],0⟩
theorem lrG_run : run Try.prog [] [20,19,17,11] true 900 lrG_in = [lrG_0] := by kernel_rfl
noncomputable def lrG_op : Oper := (opsAt Try.prog 6 [0,7]).getD 3 default
theorem lrG_at : (opsAt Try.prog 6 [0,7])[3]? = some lrG_op := by kernel_rfl
noncomputable def lrG_fr : Fr := ⟨6,yfa ++ xr 57 97,[.inRegion [0,7] [3,4,5,6,7,8,9],.code (.at_ [8])]⟩
theorem lrG_gd : guardOf lrG_0.facts (opsAt Try.prog 6 [0,7]) lrG_fr.tmps lrG_op = .yes := by kernel_rfl
noncomputable def lrG_args : List SV := [.agg [Li 11,Li 12,Li 13,Li 14],.sl (.blk 2) (.v 2) (.e (.v 3))]
theorem lrG_call : scall Try.prog lrG_fr.tmps lrG_op.op = some (17,lrG_args) := by kernel_rfl
theorem lrG_fresh : (fresh Try.prog 17 lrG_args).isSome = true := by kernel_rfl
noncomputable def lrG_frb : Fr := ⟨6,yfa ++ [.x 155] ++ xr 58 96,[.inRegion [0,7] [4,5,6,7,8,9],.code (.at_ [8])]⟩
theorem lrG_put : Fr.put lrG_fr lrG_op.dst (.x 155) ([.inRegion [0,7] [4,5,6,7,8,9],.code (.at_ [8])]) = lrG_frb := by kernel_rfl
noncomputable def lrG_p : St := ⟨[⟨6,[.x 0,.x 1,.sl (.blk 0) (.v 0) (.e (.v 1)),.x 2,.x 3,.x 4,.x 5,.x 6,.x 7,.ptr 1 0,.x 8,.x 9,.x 10,.x 11,.x 12,.x 13,.x 14,.x 15,.x 16,.x 17,.x 18,.x 19,.x 20,.x 21,.x 22,.x 23,.x 24,.x 25,.x 26,.x 27,.x 28,.x 29,.x 30,.x 31,.x 32,.x 33,.x 34,.x 35,.x 36,.x 37,.x 38,.x 39,.x 40,.x 41,.x 42,.x 43,.x 44,.x 45,.x 46,.x 47,.x 48,.x 49,.x 50,.x 51,.x 52,.x 53,.x 54,.x 55,.x 56,.x 57,.x 154,.x 58,.x 59,.x 60,.x 61,.x 62,.x 63,.x 64,.x 65,.x 66,.x 67,.x 68,.x 69,.x 70,.x 71,.x 72,.x 73,.x 74,.x 75,.x 76,.x 77,.x 78,.x 79,.x 80,.x 81,.x 82,.x 83,.x 84,.x 85,.x 86,.x 87,.x 88,.x 89,.x 90,.x 91,.x 92,.x 93,.x 94,.x 95,.x 96,.x 97,.x 98,.x 99,.x 100,.x 101,.x 102,.x 103,.x 104,.x 105,.x 106,.x 107,.x 108,.x 109,.x 110,.x 111,.x 112,.x 113,.x 114,.x 115,.x 116,.x 117,.x 118,.x 119,.x 120,.x 121,.x 122,.x 123,.x 124,.x 125,.x 126,.x 127,.x 128,.x 129,.x 130,.x 131,.x 132,.x 133,.x 134,.x 135,.x 136,.x 137,.x 138,.x 139,.x 140,.x 141,.x 142,.x 143,.x 144,.x 145,.x 146,.x 147,.x 148,.x 149,.x 150,.x 151,.x 152,.x 153],[.inRegion [0,7] [4,5,6,7,8,9],.code (.at_ [8])]⟩],
  [],
  [],
  0⟩
noncomputable def lrGp_sub : Sub := ⟨[(.v 0),(.v 1)],[],[.x 0,.x 1,.ptr 1 0,.x 2,.x 3,.x 4,.x 5,.x 6,.int .i64 (.v 10),.x 9,.x 10,.x 11,.x 12,.x 13,.x 14,.x 15,.x 16,.x 17,.x 18,.x 19,.x 20,.x 21,.x 22,.x 23,.x 24,.x 25,.x 26,.x 27,.x 28,.x 29,.x 30,.x 31,.x 32,.x 33,.x 34,.x 35,.x 36,.x 37,.x 38,.x 39,.x 40,.tup [.agg [.sl (.blk 2) (.v 2) (.e (.v 3)),.sl (.blk 3) (.v 4) (.e (.v 5)),.int .u64 (.v 6),.int .u64 (.v 7),.y 0,.y 1,.int .u64 (.v 8),.int .u64 (.v 9),.y 2,.y 3,.y 4],.int .i64 (.v 10)],.x 42,.x 43,.x 44,.tup [.agg [.sl (.blk 2) (.v 2) (.e (.v 3)),.sl (.blk 3) (.v 4) (.e (.v 5)),.int .u64 (.v 6),.int .u64 (.v 7),.y 0,.y 1,.int .u64 (.v 8),.int .u64 (.v 9),.y 2,.y 3,.y 4],.int .i64 (.v 10)],.agg [.sl (.blk 2) (.v 2) (.e (.v 3)),.sl (.blk 3) (.v 4) (.e (.v 5)),.int .u64 (.v 6),.int .u64 (.v 7),.y 0,.y 1,.int .u64 (.v 8),.int .u64 (.v 9),.y 2,.y 3,.y 4],.int .i64 (.v 10),.int .i64 (.v 10),.bool (.cmp .neq (.v 10) (.lit 0)),.x 49,.x 50,.x 51,.x 52,.x 53,.agg [.int .i64 (.v 11),.int .i64 (.v 12),.int .i64 (.v 13),.int .i64 (.v 14)],.ptr 4 0,.sl (.blk 2) (.v 2) (.e (.v 3)),.x 58,.x 59,.x 60,.x 61,.x 62,.x 63,.x 64,.x 65,.x 66,.x 67,.x 68,.x 69,.x 70,.x 71,.x 72,.x 73,.x 74,.x 75,.x 76,.x 77,.x 78,.x 79,.x 80,.x 81,.x 82,.x 83,.x 84,.x 85,.x 86,.x 87,.x 88,.x 89,.x 90,.x 91,.x 92,.x 93,.x 94,.x 95,.x 96,.x 97,.x 98,.x 99,.x 100,.x 101,.x 102,.x 103,.x 104,.x 105,.x 106,.x 107,.x 108,.x 109,.x 110,.x 111,.x 112,.x 113,.x 114,.x 115,.x 116,.x 117,.x 118,.x 119,.x 120,.x 121,.x 122,.x 123,.x 124,.x 125,.x 126,.x 127,.x 128,.x 129,.x 130,.x 131,.x 132,.x 133,.x 134,.x 135,.x 136,.x 137,.x 138,.x 139,.x 140,.x 141,.x 142,.x 143,.x 144,.x 145,.x 146,.x 147,.x 148,.x 149,.x 150,.x 151,.x 152,.x 153,.x 155],[],[0,4]⟩
theorem lrGp_fits : FitsF lrGp_sub ⟨[lrG_frb],[],[],0⟩ lrG_p := ⟨by kernel_rfl,by kernel_rfl⟩
noncomputable def lrH_in : St := ⟨[⟨6,[.x 0,.x 1,.sl (.blk 0) (.v 0) (.e (.v 1)),.x 2,.x 3,.x 4,.x 5,.x 6,.x 7,.ptr 1 0,.x 8,.x 9,.x 10,.x 11,.x 12,.x 13,.x 14,.x 15,.x 16,.x 17,.x 18,.x 19,.x 20,.x 21,.x 22,.x 23,.x 24,.x 25,.x 26,.x 27,.x 28,.x 29,.x 30,.x 31,.x 32,.x 33,.x 34,.x 35,.x 36,.x 37,.x 38,.x 39,.x 40,.x 41,.x 42,.x 43,.x 44,.x 45,.x 46,.x 47,.x 48,.x 49,.x 50,.x 51,.x 52,.x 53,.x 54,.x 55,.x 56,.x 57,.tup [.agg [.int .u64 (.v 2),.int .u64 (.v 3),.y 0,.y 1,.int .u64 (.v 4),.int .u64 (.v 5),.y 2,.y 3,.y 4],.bool (.lit true)],.x 58,.x 59,.x 60,.x 61,.x 62,.x 63,.x 64,.x 65,.x 66,.x 67,.x 68,.x 69,.x 70,.x 71,.x 72,.x 73,.x 74,.x 75,.x 76,.x 77,.x 78,.x 79,.x 80,.x 81,.x 82,.x 83,.x 84,.x 85,.x 86,.x 87,.x 88,.x 89,.x 90,.x 91,.x 92,.x 93,.x 94,.x 95,.x 96,.x 97,.x 98,.x 99,.x 100,.x 101,.x 102,.x 103,.x 104,.x 105,.x 106,.x 107,.x 108,.x 109,.x 110,.x 111,.x 112,.x 113,.x 114,.x 115,.x 116,.x 117,.x 118,.x 119,.x 120,.x 121,.x 122,.x 123,.x 124,.x 125,.x 126,.x 127,.x 128,.x 129,.x 130,.x 131,.x 132,.x 133,.x 134,.x 135,.x 136,.x 137,.x 138,.x 139,.x 140,.x 141,.x 142,.x 143,.x 144,.x 145,.x 146,.x 147,.x 148,.x 149,.x 150,.x 151,.x 152,.x 153],[.inRegion [0,7] [4,5,6,7,8,9],.code (.at_ [8])]⟩],
  [⟨61,[],false,none,none,none⟩,
  ⟨52,[.sl (.blk 2) (.v 6) (.e (.v 7)),.sl (.blk 3) (.v 8) (.e (.v 9)),.int .u64 (.v 10),.int .u64 (.v 11),.y 5,.y 6,.int .u64 (.v 12),.int .u64 (.v 13),.y 7,.y 8,.y 9],false,none,none,none⟩,
  ⟨63,[],false,none,none,none⟩,
  ⟨65,[],false,none,none,none⟩],
  [((.cmp .gtr (.tn (.v 6)) (.tn (.v 0))),false),((.cmp .neq (.tn (.v 8)) (.tn (.v 6))),false)],
  0⟩
noncomputable def lrH_0 : St := ⟨[⟨6,yf7 ++ xr 11 43 ++ yev ++ xr 66 88,[.inRegion [0,0,8] [6,7,8,9,10,11,12,13,14,15,16,17,18,19,20,21,22,23,24,25],.code (.at_ [1,0,8]),.code (.at_ [9])]⟩],yf0,yff,0⟩
theorem lrH_run : run Try.prog [] [20,19,17,11] true 900 lrH_in = [lrH_0] := by kernel_rfl
noncomputable def lrH_op : Oper := (opsAt Try.prog 6 [0,0,8]).getD 6 default
theorem lrH_at : (opsAt Try.prog 6 [0,0,8])[6]? = some lrH_op := by kernel_rfl
noncomputable def lrH_fr : Fr := ⟨6,yf7 ++ xr 11 43 ++ yev ++ xr 66 88,[.inRegion [0,0,8] [6,7,8,9,10,11,12,13,14,15,16,17,18,19,20,21,22,23,24,25],.code (.at_ [1,0,8]),.code (.at_ [9])]⟩
theorem lrH_gd : guardOf lrH_0.facts (opsAt Try.prog 6 [0,0,8]) lrH_fr.tmps lrH_op = .yes := by kernel_rfl
noncomputable def lrH_args : List SV := yft ++ [.agg [Lu 10,Lu 11,.y 5,.y 6,Lu 12,Lu 13,.y 7,.y 8,.y 9]]
theorem lrH_call : scall Try.prog lrH_fr.tmps lrH_op.op = some (11,lrH_args) := by kernel_rfl
theorem lrH_fresh : (fresh Try.prog 11 lrH_args).isSome = true := by kernel_rfl
noncomputable def lrH_frb : Fr := ⟨6,yf7 ++ xr 11 43 ++ yev ++ [.bool (.lit true)] ++ xr 67 87,[.inRegion [0,0,8] [7,8,9,10,11,12,13,14,15,16,17,18,19,20,21,22,23,24,25],.code (.at_ [1,0,8]),.code (.at_ [9])]⟩
theorem lrH_put : Fr.put lrH_fr lrH_op.dst (.bool (.lit true)) ([.inRegion [0,0,8] [7,8,9,10,11,12,13,14,15,16,17,18,19,20,21,22,23,24,25],.code (.at_ [1,0,8]),.code (.at_ [9])]) = lrH_frb := by kernel_rfl
noncomputable def lrI_in : St := ⟨[⟨6,yf7 ++ xr 11 43 ++ yev ++ [.bool (.lit true)] ++ xr 67 87,[.inRegion [0,0,8] [7,8,9,10,11,12,13,14,15,16,17,18,19,20,21,22,23,24,25],.code (.at_ [1,0,8]),.code (.at_ [9])]⟩],yf0,yff,0⟩
noncomputable def lrI_0 : St := ⟨[⟨6,yf7 ++ [.int .i64 (.lit 0),.int .i64 (.lit 0)] ++ xr 13 41 ++ yev ++ [.bool (.lit true),.bool (.lit false),.bool (.lit false),.bool (.lit false),.ptr 1 0,.sl (.blk 2) (.v 6) (.e (.v 7)),.int .i64 (.tn (.v 6)),.sl (.blk 0) (.v 0) (.e (.v 1)),.int .i64 (.tn (.v 0))] ++ yg4 ++ yg4 ++ yg4 ++ [.ptr 1 1,.sl (.blk 3) (.v 8) (.e (.v 9)),.int .i64 (.tn (.v 8)),.ptr 1 0,.sl (.blk 2) (.v 6) (.e (.v 7)),.int .i64 (.tn (.v 6)),.bool (.cmp .neq (.tn (.v 8)) (.tn (.v 6))),.bool (.cmp .neq (.tn (.v 8)) (.tn (.v 6)))] ++ xr 86 68,[.code (.at_ [0,1,0,10]),.inBlock 2,.code (.at_ [11])]⟩],yf0,yff,0⟩
theorem lrI_run : run Try.prog [] [20,19,17,11] true 900 lrI_in = [lrI_0] := by kernel_rfl
noncomputable def lr2 : St := ⟨yfb,[],[],0⟩
noncomputable def lrI0_sub : Sub := ⟨[(.lit 0),(.lit 0),(.v 0),(.v 1)],[],[.x 0,.x 1,.x 2,.x 3,.x 4,.x 5,.x 6,.x 7,.x 8,.ptr 4 0,.bool (.lit true),.x 13,.x 14,.x 15,.x 16,.x 17,.x 18,.x 19,.x 20,.x 21,.x 22,.x 23,.x 24,.x 25,.x 26,.x 27,.x 28,.x 29,.x 30,.x 31,.x 32,.x 33,.x 34,.x 35,.x 36,.x 37,.x 38,.x 39,.x 40,.x 41,.x 42,.x 43,.x 44,.x 45,.x 46,.x 47,.x 48,.x 49,.x 50,.x 51,.x 52,.x 53,.tup [.agg [.int .u64 (.v 2),.int .u64 (.v 3),.y 0,.y 1,.int .u64 (.v 4),.int .u64 (.v 5),.y 2,.y 3,.y 4],.bool (.lit true)],.x 55,.x 56,.x 57,.tup [.agg [.int .u64 (.v 2),.int .u64 (.v 3),.y 0,.y 1,.int .u64 (.v 4),.int .u64 (.v 5),.y 2,.y 3,.y 4],.bool (.lit true)],.agg [.int .u64 (.v 2),.int .u64 (.v 3),.y 0,.y 1,.int .u64 (.v 4),.int .u64 (.v 5),.y 2,.y 3,.y 4],.bool (.lit true),.bool (.lit true),.bool (.lit false),.bool (.lit false),.agg [.int .u64 (.v 2),.int .u64 (.v 3),.y 0,.y 1,.int .u64 (.v 4),.int .u64 (.v 5),.y 2,.y 3,.y 4],.ptr 1 2,.agg [.int .u64 (.v 10),.int .u64 (.v 11),.y 5,.y 6,.int .u64 (.v 12),.int .u64 (.v 13),.y 7,.y 8,.y 9],.bool (.lit true),.bool (.lit false),.bool (.lit false),.bool (.lit false),.ptr 1 0,.sl (.blk 2) (.v 6) (.e (.v 7)),.int .i64 (.tn (.v 6)),.sl (.blk 0) (.v 0) (.e (.v 1)),.int .i64 (.tn (.v 0)),.bool (.cmp .gtr (.tn (.v 6)) (.tn (.v 0))),.bool (.cmp .gtr (.tn (.v 6)) (.tn (.v 0))),.bool (.cmp .gtr (.tn (.v 6)) (.tn (.v 0))),.ptr 1 1,.sl (.blk 3) (.v 8) (.e (.v 9)),.int .i64 (.tn (.v 8)),.ptr 1 0,.sl (.blk 2) (.v 6) (.e (.v 7)),.int .i64 (.tn (.v 6)),.bool (.cmp .neq (.tn (.v 8)) (.tn (.v 6))),.bool (.cmp .neq (.tn (.v 8)) (.tn (.v 6))),.x 86,.x 87,.x 88,.x 89,.x 90,.x 91,.x 92,.x 93,.x 94,.x 95,.x 96,.x 97,.x 98,.x 99,.x 100,.x 101,.x 102,.x 103,.x 104,.x 105,.x 106,.x 107,.x 108,.x 109,.x 110,.x 111,.x 112,.x 113,.x 114,.x 115,.x 116,.x 117,.x 118,.x 119,.x 120,.x 121,.x 122,.x 123,.x 124,.x 125,.x 126,.x 127,.x 128,.x 129,.x 130,.x 131,.x 132,.x 133,.x 134,.x 135,.x 136,.x 137,.x 138,.x 139,.x 140,.x 141,.x 142,.x 143,.x 144,.x 145,.x 146,.x 147,.x 148,.x 149,.x 150,.x 151,.x 152,.x 153],[],[0,1]⟩
theorem lrI0_head : HeadF Try.prog lrI0_sub lrI_0 lr2 := ⟨by kernel_rfl,by kernel_rfl⟩
noncomputable def lrJ_in : St := ⟨yfb,yf2,[((.cmp .lss (.v 0) (.tn (.v 4))),true)],0⟩
noncomputable def lrJ_0 : St := ⟨[⟨6,yf6 ++ yfk,[.code (.at_ [0,0,0,0,1,0,0,1,0,10]),.inBlock 4,.code (.at_ [1,0,0,1,0,0,1,0,10]),.inBlock 3,.code (.at_ [2,0,0,1,0,10]),.inLoop (.at_ [0,0,1,0,10]),.inBlock 2,.code (.at_ [11])]⟩],yf2,[((.cmp .lss (.v 0) (.tn (.v 4))),true)],0⟩
theorem lrJ_run : run Try.prog [] [20,19,17,11] true 900 lrJ_in = [lrJ_0] := by kernel_rfl
noncomputable def lr3 : St := ⟨yez,[],[],0⟩
noncomputable def lrJ0_sub : Sub := ⟨[(.v 0),(.v 1),(.v 2),(.v 3)],[],[.x 0,.x 1,.x 2,.x 3,.x 4,.x 5,.x 6,.x 7,.x 8,.x 9,.x 10,.x 11,.x 12,.x 13,.x 14,.x 15,.x 16,.x 17,.x 18,.x 19,.x 20,.x 21,.x 22,.x 23,.x 24,.x 25,.x 26,.x 27,.x 28,.x 29,.x 30,.x 31,.x 32,.x 33,.x 34,.x 35,.x 36,.x 37,.x 38,.x 39,.x 40,.x 41,.x 42,.x 43,.x 44,.x 45,.x 46,.x 47,.x 48,.x 49,.x 50,.x 51,.x 52,.x 53,.x 54,.x 55,.x 56,.x 57,.x 58,.x 59,.x 60,.x 61,.x 62,.x 63,.x 64,.x 65,.x 66,.x 67,.x 68,.x 69,.x 70,.x 71,.x 72,.x 73,.x 74,.x 75,.x 76,.x 77,.x 78,.x 79,.x 80,.x 81,.x 82,.x 83,.x 84,.int .i64 (.v 0),.ptr 1 0,.sl (.blk 2) (.v 4) (.e (.v 5)),.int .i64 (.tn (.v 4)),.bool (.cmp .lss (.v 0) (.tn (.v 4))),.x 90,.x 91,.x 92,.x 93,.x 94,.x 95,.x 96,.x 97,.x 98,.x 99,.x 100,.x 101,.x 102,.x 103,.x 104,.x 105,.x 106,.x 107,.x 108,.x 109,.x 110,.x 111,.x 112,.x 113,.x 114,.x 115,.x 116,.x 117,.x 118,.x 119,.x 120,.x 121,.x 122,.x 123,.x 124,.x 125,.x 126,.x 127,.x 128,.x 129,.x 130,.x 131,.x 132,.x 133,.x 134,.x 135,.x 136,.x 137,.x 138,.x 139,.x 140,.x 141,.x 142,.x 143,.x 144,.x 145,.x 146,.x 147,.x 148,.x 149,.x 150,.x 151,.x 152],[],[0,1]⟩
theorem lrJ0_head : HeadF Try.prog lrJ0_sub lrJ_0 lr3 := ⟨by kernel_rfl,by kernel_rfl⟩
noncomputable def lrK_in : St := ⟨yfb,yf2,[((.cmp .lss (.v 0) (.tn (.v 4))),false)],0⟩
noncomputable def lrK_0 : St := ⟨[⟨6,[.x 0,.x 1] ++ yfz ++ xr 2 3 ++ [.bool (.lit true),.x 6,.x 7,.ptr 1 0] ++ xr 8 3 ++ yfk,[.code (.at_ [12])]⟩],yf2,[((.cmp .lss (.v 0) (.tn (.v 4))),false)],0⟩
theorem lrK_0_end : stEnd Try.prog lrK_0 = some (.bool (.lit true)) := by kernel_rfl
theorem lrK_run : run Try.prog [] [20,19,17,11] true 900 lrK_in = [lrK_0] := by kernel_rfl
noncomputable def lrL_in : St := ⟨yez,yf1 ++ [⟨65,[],false,none,none,none⟩],[((.cmp .neq (.v 8) (.v 10)),true)] ++ yf4,0⟩
noncomputable def lrL_0 : St := ⟨[⟨6,yf6 ++ yfv ++ [Li 0] ++ xr 11 81 ++ yf9 ++ [Li 1] ++ yfv ++ xr 112 41,[.inLoop (.at_ [0,0,0,0,0,1,0,0,1,0,10]),.inBlock 4,.code (.at_ [1,0,0,1,0,0,1,0,10]),.inBlock 3,.code (.at_ [2,0,0,1,0,10]),.inLoop (.at_ [0,0,1,0,10]),.inBlock 2,.code (.at_ [11])]⟩],yf1 ++ [⟨65,[],false,none,none,none⟩],[((.cmp .neq (.v 8) (.v 10)),true)] ++ yf4,0⟩
theorem lrL_run : run Try.prog [] [20,19,17,11] true 900 lrL_in = [lrL_0] := by kernel_rfl
noncomputable def lrL0_sub : Sub := ⟨[(.v 0),(.ar .add .i64 (.v 1) (.lit 1)),(.v 2),(.v 3)],[],[.x 0,.x 1,.x 2,.x 3,.x 4,.x 5,.x 6,.x 7,.x 8,.x 9,.x 10,.x 11,.x 12,.x 13,.x 14,.x 15,.x 16,.x 17,.x 18,.x 19,.x 20,.x 21,.x 22,.x 23,.x 24,.x 25,.x 26,.x 27,.x 28,.x 29,.x 30,.x 31,.x 32,.x 33,.x 34,.x 35,.x 36,.x 37,.x 38,.x 39,.x 40,.x 41,.x 42,.x 43,.x 44,.x 45,.x 46,.x 47,.x 48,.x 49,.x 50,.x 51,.x 52,.x 53,.x 54,.x 55,.x 56,.x 57,.x 58,.x 59,.x 60,.x 61,.x 62,.x 63,.x 64,.x 65,.x 66,.x 67,.x 68,.x 69,.x 70,.x 71,.x 72,.x 73,.x 74,.x 75,.x 76,.x 77,.x 78,.x 79,.x 80,.x 81,.x 82,.x 83,.x 84,.x 85,.x 86,.x 87,.x 88,.x 89,.x 90,.x 91,.int .i64 (.v 1),.sl (.blk 0) (.v 2) (.e (.v 3)),.int .i64 (.tn (.v 2)),.bool (.cmp .lss (.v 1) (.tn (.v 2))),.bool (.cmp .lss (.v 1) (.tn (.v 2))),.sl (.blk 0) (.v 2) (.e (.v 3)),.int .i64 (.v 1),.ptr 0 0,.ptr 0 0,.int .i64 (.v 8),.ptr 1 0,.sl (.blk 2) (.v 4) (.e (.v 5)),.int .i64 (.v 0),.ptr 2 0,.ptr 2 0,.int .i64 (.v 10),.bool (.cmp .neq (.v 8) (.v 10)),.bool (.cmp .neq (.v 8) (.v 10)),.int .i64 (.v 1),.int .i64 (.ar .add .i64 (.v 1) (.lit 1)),.x 112,.x 113,.x 114,.x 115,.x 116,.x 117,.x 118,.x 119,.x 120,.x 121,.x 122,.x 123,.x 124,.x 125,.x 126,.x 127,.x 128,.x 129,.x 130,.x 131,.x 132,.x 133,.x 134,.x 135,.x 136,.x 137,.x 138,.x 139,.x 140,.x 141,.x 142,.x 143,.x 144,.x 145,.x 146,.x 147,.x 148,.x 149,.x 150,.x 151,.x 152],[],[0,1]⟩
theorem lrL0_head : HeadF Try.prog lrL0_sub lrL_0 lr3 := ⟨by kernel_rfl,by kernel_rfl⟩
noncomputable def lrM_in : St := ⟨yez,yfs,yfd,0⟩
noncomputable def lrM_0 : St := ⟨[⟨6,yf6 ++ yfv ++ yfu ++ xr 11 79 ++ [Li 0] ++ yfu ++ yf9 ++ [.x 110,.x 111,Li 1] ++ yfz ++ [.int .i64 (.tn (.v 2)),.bool (.cmp .eql (.v 1) (.tn (.v 2))),.bool (.cmp .eql (.v 1) (.tn (.v 2))),.ptr 1 1] ++ yfr ++ [Li 0,.ptr 3 0,.ptr 3 3] ++ yfj ++ [.ptr 3 4] ++ yfj ++ [.ptr 3 0,Li 10,.ptr 1 0] ++ yg0 ++ [Li 0,.ptr 2 0,.ptr 2 0,Li 10,.bool (.cmp .neq (.v 10) (.v 10)),.bool (.cmp .neq (.v 10) (.v 10)),Li 1] ++ yfv,[.inLoop (.at_ [0,0,1,0,10]),.inBlock 2,.code (.at_ [11])]⟩],yfs,yfd,0⟩
theorem lrM_run : run Try.prog [] [20,19,17,11] true 900 lrM_in = [lrM_0] := by kernel_rfl
noncomputable def lrM0_sub : Sub := ⟨[(.ar .add .i64 (.v 0) (.lit 1)),(.ar .add .i64 (.v 1) (.lit 1)),(.v 2),(.v 3)],[],[.x 0,.x 1,.x 2,.x 3,.x 4,.x 5,.x 6,.x 7,.x 8,.x 9,.x 10,.x 11,.x 12,.x 13,.x 14,.x 15,.x 16,.x 17,.x 18,.x 19,.x 20,.x 21,.x 22,.x 23,.x 24,.x 25,.x 26,.x 27,.x 28,.x 29,.x 30,.x 31,.x 32,.x 33,.x 34,.x 35,.x 36,.x 37,.x 38,.x 39,.x 40,.x 41,.x 42,.x 43,.x 44,.x 45,.x 46,.x 47,.x 48,.x 49,.x 50,.x 51,.x 52,.x 53,.x 54,.x 55,.x 56,.x 57,.x 58,.x 59,.x 60,.x 61,.x 62,.x 63,.x 64,.x 65,.x 66,.x 67,.x 68,.x 69,.x 70,.x 71,.x 72,.x 73,.x 74,.x 75,.x 76,.x 77,.x 78,.x 79,.x 80,.x 81,.x 82,.x 83,.x 84,.x 85,.x 86,.x 87,.x 88,.x 89,.int .i64 (.v 0),.int .i64 (.ar .add .i64 (.v 0) (.lit 1)),.int .i64 (.v 1),.sl (.blk 0) (.v 2) (.e (.v 3)),.int .i64 (.tn (.v 2)),.bool (.cmp .lss (.v 1) (.tn (.v 2))),.bool (.cmp .lss (.v 1) (.tn (.v 2))),.sl (.blk 0) (.v 2) (.e (.v 3)),.int .i64 (.v 1),.ptr 0 0,.ptr 0 0,.int .i64 (.v 8),.ptr 1 0,.sl (.blk 2) (.v 4) (.e (.v 5)),.int .i64 (.v 0),.ptr 2 0,.ptr 2 0,.int .i64 (.v 10),.bool (.cmp .neq (.v 8) (.v 10)),.bool (.cmp .neq (.v 8) (.v 10)),.x 110,.x 111,.int .i64 (.v 1),.sl (.blk 0) (.v 2) (.e (.v 3)),.int .i64 (.tn (.v 2)),.bool (.cmp .eql (.v 1) (.tn (.v 2))),.bool (.cmp .eql (.v 1) (.tn (.v 2))),.ptr 1 1,.sl (.blk 3) (.v 6) (.e (.v 7)),.int .i64 (.v 0),.ptr 3 0,.ptr 3 3,.int .i64 (.v 0),.int .i64 (.v 0),.bool (.cmp .neq (.v 0) (.v 0)),.bool (.cmp .neq (.v 0) (.v 0)),.bool (.cmp .neq (.v 0) (.v 0)),.ptr 1 1,.sl (.blk 3) (.v 6) (.e (.v 7)),.int .i64 (.v 0),.ptr 3 0,.ptr 3 4,.int .i64 (.v 0),.int .i64 (.v 0),.bool (.cmp .neq (.v 0) (.v 0)),.bool (.cmp .neq (.v 0) (.v 0)),.bool (.cmp .neq (.v 0) (.v 0)),.ptr 1 1,.sl (.blk 3) (.v 6) (.e (.v 7)),.int .i64 (.v 0),.ptr 3 0,.ptr 3 0,.int .i64 (.v 10),.ptr 1 0,.sl (.blk 2) (.v 4) (.e (.v 5)),.int .i64 (.v 0),.ptr 2 0,.ptr 2 0,.int .i64 (.v 10),.bool (.cmp .neq (.v 10) (.v 10)),.bool (.cmp .neq (.v 10) (.v 10)),.int .i64 (.v 1),.int .i64 (.ar .add .i64 (.v 1) (.lit 1))],[],[0,1]⟩
theorem lrM0_head : HeadF Try.prog lrM0_sub lrM_0 lr2 := ⟨by kernel_rfl,by kernel_rfl⟩
end Go.Proofs.Ytonhfgjofgbcdaa.Dr
namespace Go.Proofs.Ytonhfgjofgbcdaa.Dr
set_option maxRecDepth 20000
open Go Go.Conc Go.RowKit Go.Proofs.Ytonhfgjofgbcdaa.Jay Go.Proofs.Ytonhfgjofgbcdaa.Pl
open Go.Proofs.Ytonhfgjofgbcdaa.St Go.Proofs.Ytonhfgjofgbcdaa.Sx
set_option maxRecDepth 20000
section
variable {γ : Type} {X : Turns γ} {Stop : γ → Frame → List Frame → World → Prop} {cs₀ : List Frame}
structure LrM (w : World) (gT : Nat) (AS AC AP : Option Addr) (cS cC cP : Nat) (steps : List Rp.Sp) (picks : List (Int × Int)) : Prop where
  T : ∃ t arr,Blk w gT t arr ∧ arr[0]? = some (Value.slice AS steps.length cS) ∧ arr[1]? = some (Value.slice AC steps.length cC)
  S : Rp.Sps w w.heap.size (.slice AS steps.length cS) steps
  C : Sl w w.heap.size 7 (.slice AC steps.length cC) steps.length ((callsOf steps).flatMap Rc.cells)
  P : Sl w w.heap.size 2 (.slice AP picks.length cP) picks.length (picks.flatMap pkC)
theorem LrM.below {w w' : World} {gT : Nat} {AS AC AP : Option Addr} {cS cC cP : Nat} {steps : List Rp.Sp} {picks : List (Int × Int)} (h : LrM w gT AS AC AP cS cC cP steps picks) (hb : Below w.heap.size w w') : LrM w' gT AS AC AP cS cC cP steps picks := by
  obtain ⟨⟨t,arr,h1,h2,h3⟩,h4,h5,h6⟩ := h
  exact ⟨⟨t,arr,h1.below hb h1.lt,h2,h3⟩,(Sl.below h4 hb).more hb.size,(h5.below hb).more hb.size,(h6.below hb).more hb.size⟩
theorem lrLoops {s : γ} {gT : Nat} {AS AC AP : Option Addr} {cS cC cP : Nat} {steps : List Rp.Sp} {picks : List (Int × Int)} (hsm : steps.length ≤ maxLen) (hpm : picks.length ≤ maxLen) {W : World} (hback : ∀ w',Below W.heap.size W w' → X.there s w' → EndsT Try.prog X Stop 6 cs₀ s (.bool true) w') (n : Nat) :
    (∀ (i k : Nat) (ρ : Env) (q0 q1 : Seg) (w : World) (hm : LrM w gT AS AC AP cS cC cP steps picks) (hb : Below W.heap.size W w) (hth : X.there s w) (hd : Hd ρ [(i : Int),(k : Int),(picks.length : Int),(cP : Int)] 153 [q0,q1]) (hn : 2 * ((steps.length - i) + (picks.length - k)) + 1 ≤ n) (h0 : q0.adr = AP ∧ (0 < picks.length → q0.g = (segOf AP).g) ∧ q0.g < w.heap.size) (h1 : Whl q1 gT) (hsub : ((steps.drop i).map (·.th)).Sublist ((picks.drop k).map (·.1))),Fr.reach Try.prog X Stop s cs₀ ρ lr2.frs w) ∧
    (∀ (i k : Nat) (ρ : Env) (q0 q1 : Seg) (w : World) (hm : LrM w gT AS AC AP cS cC cP steps picks) (hb : Below W.heap.size W w) (hth : X.there s w) (hd : Hd ρ [(i : Int),(k : Int),(picks.length : Int),(cP : Int)] 153 [q0,q1]) (hn : 2 * ((steps.length - i) + (picks.length - k)) ≤ n) (hi : i < steps.length) (h0 : q0.adr = AP ∧ (0 < picks.length → q0.g = (segOf AP).g) ∧ q0.g < w.heap.size) (h1 : Whl q1 gT) (hsub : ((steps.drop i).map (·.th)).Sublist ((picks.drop k).map (·.1))),Fr.reach Try.prog X Stop s cs₀ ρ lr3.frs w) := by
  induction n with
  | zero => exact ⟨fun i k ρ q0 q1 w hm hb hth hd hn => by omega,fun i k ρ q0 q1 w hm hb hth hd hn hi => by omega⟩
  | succ n ih =>
    refine ⟨fun i k ρ q0 q1 w hm hb hth hd hn h0 h1 hsub => ?_,fun i k ρ q0 q1 w hm hb hth hd hn hi h0 h1 hsub => ?_⟩
    · -- the outer head
      obtain ⟨xs,hxs,rfl⟩ := hd.of
      obtain ⟨g1,b1,o1,pre1,post1,cap1,ad1⟩ := q1
      obtain ⟨rfl,rfl,rfl,rfl⟩ : g1 = _ ∧ o1 = _ ∧ pre1 = _ ∧ post1 = _ := h1
      obtain ⟨⟨tT,arr,hT,hT0,hT1⟩,hS,hC,hP⟩ := hm
      have hm : LrM w g1 AS AC AP cS cC cP steps picks := ⟨⟨tT,arr,hT,hT0,hT1⟩,hS,hC,hP⟩
      generalize hρ0 : (⟨[(i : Int),(k : Int),(picks.length : Int),(cP : Int)],[],xs,[],[q0,⟨g1,b1,0,[],[],cap1,ad1⟩],[]⟩ : Env) = ρ0
      have hl0 : ρ0.lens = ⟨4,0,153,0,2⟩ := by rw [← hρ0]; simp [Env.lens,hxs]
      refine reach_grow (L := ⟨4,0,153,0,2⟩) (ai := [(steps.length : Int),(cS : Int),(steps.length : Int),(cC : Int)]) (ab := []) (ax := []) (ay := []) (ak := [⟨g1,0,0,[],[],0,some AS⟩,⟨g1,0,0,[],[],0,some AC⟩]) hl0 (by kernel_rfl) ?_
      generalize hρ : Env.grow _ _ _ _ _ _ = ρ
      have hk : knownA X s w ρ 0 lrJ_in.heap := by
        refine ⟨⟨?_,if_ro rfl cells_none,trivial,trivial,rfl⟩,⟨?_,if_ro rfl ?_,trivial,trivial,rfl⟩,⟨?_,if_ro rfl cells_none,trivial,trivial,rfl⟩,⟨?_,if_ro rfl cells_none,trivial,trivial,rfl⟩,trivial⟩
        all_goals subst hρ; subst hρ0
        · exact h0.2.2
        · exact hT.lt
        · exact two_cells hT hT0 hT1
        · exact hT.lt
        · exact hT.lt
      have hnd : ndA ρ 0 lrJ_in.heap := ⟨⟨(fun e => nomatch e),(fun e => nomatch e),(fun e => nomatch e),trivial⟩,⟨(fun e => nomatch e),(fun e => nomatch e),trivial⟩,⟨(fun e => nomatch e),trivial⟩,trivial,trivial⟩
      have hys : ∀ v ∈ ρ.ys,v.oneCell' = true := by rw [← hρ,← hρ0]; intro v hv; cases hv
      have hlen : ρ.blks.length = 4 := by rw [← hρ,← hρ0]; rfl
      have hp : ρ.perms.length = 0 := by rw [← hρ,← hρ0]; rfl
      have hi0 : ρ.ints = [(i : Int),(k : Int),(picks.length : Int),(cP : Int),(steps.length : Int),(cS : Int),(steps.length : Int),(cC : Int)] := by rw [← hρ,← hρ0]; rfl
      by_cases hi : i < steps.length
      · refine sx_run 900 lrJ_run (Rep.start hth hys hlen hk hnd (factsA_ok ⟨?_,trivial⟩) hp) ⟨fun ρ1 w1 hx1 hr1 => ?_,trivial⟩
        · show decide (ρ.ints.getD 0 0 < ((ρ.ints.getD 4 0).toNat : Int)) = true
          rw [hi0]
          exact decide_eq_true (by show (i : Int) < ((steps.length : Int).toNat : Int); omega)
        refine sx_head lrJ0_head hr1 fun ρ2 w2 hx2 hr2 => ?_
        have hx12 := hx1.trans hx2
        have hb2 : Below w.heap.size w w2 := hr2.chg.below (fun k hk => absurd hk (ours_ro rfl k)) (Nat.le_refl _)
        have hp2 : ρ2.perms = [] := perms_nil hr2
        refine ih.2 i k _ _ _ w2 (hm.below hb2) (hb.trans (hb2.mono hb.size)) hr2.there ⟨?_,rfl,?_,rfl,rfl,hp2⟩ (by omega) hi ?_ ?_ hsub
        · show [ρ2.ints.getD 0 0,ρ2.ints.getD 1 0,ρ2.ints.getD 2 0,ρ2.ints.getD 3 0] = _
          rw [hx12.ints,hi0]
          rfl
        · exact (dens_len _).trans rfl
        · dsimp only
          rw [hx12.blk (by omega),← hρ,← hρ0]
          exact ⟨h0.1,h0.2.1,Nat.lt_of_lt_of_le h0.2.2 hb2.size⟩
        · dsimp only
          rw [hx12.blk (by omega),← hρ,← hρ0]
          exact ⟨rfl,rfl,rfl,rfl⟩
      · refine sx_run 900 lrK_run (Rep.start hth hys hlen hk hnd (factsA_ok ⟨?_,trivial⟩) hp) ⟨fun ρ1 w1 hx1 hr1 => ?_,trivial⟩
        · show decide (ρ.ints.getD 0 0 < ((ρ.ints.getD 4 0).toNat : Int)) = false
          rw [hi0]
          exact decide_eq_false (by show ¬ (i : Int) < ((steps.length : Int).toNat : Int); omega)
        have hb1 : Below w.heap.size w w1 := hr1.chg.below (fun k hk => absurd hk (ours_ro rfl k)) (Nat.le_refl _)
        exact sx_endE (v := _) lrK_0_end rfl hr1.rep (hback w1 (hb.trans (hb1.mono hb.size)) hr1.there)
    · -- the inner head
      have hkp : k < picks.length := by
        apply Nat.lt_of_not_le
        intro hle
        rw [List.drop_eq_nil_of_le hle,List.drop_eq_getElem_cons hi] at hsub
        cases hsub
      obtain ⟨xs,hxs,rfl⟩ := hd.of
      obtain ⟨g1,b1,o1,pre1,post1,cap1,ad1⟩ := q1
      obtain ⟨rfl,rfl,rfl,rfl⟩ : g1 = _ ∧ o1 = _ ∧ pre1 = _ ∧ post1 = _ := h1
      obtain ⟨⟨tT,arr,hT,hT0,hT1⟩,hS,hC,hP⟩ := hm
      have hm : LrM w g1 AS AC AP cS cC cP steps picks := ⟨⟨tT,arr,hT,hT0,hT1⟩,hS,hC,hP⟩
      obtain ⟨bS,oS,cS',eS,hbS,_,_,hatS⟩ := Sl.row hS (by omega)
      obtain ⟨bC,oC,cC',eC,hbC,_,_,hatC⟩ := Sl.row hC (by omega)
      obtain ⟨bP,oP,cP',eP,hbP,_,_,hatP⟩ := Sl.row hP (by omega)
      cases eS
      cases eC
      cases eP
      have cellS : ∀ j u,[Value.int .i64 steps[i].th][j]? = some u → w.cell? ⟨bS,oS + i * 8 + j,none⟩ = some u := fun j u hu => by
        rcases j with _ | j
        · cases hu
          rw [Nat.add_assoc]
          refine hatS _ _ ?_
          rw [Rp.flat_get steps i 0 hi (by decide)]
          rfl
        · cases hu
      have cellP : ∀ j u,[Value.int .i64 picks[k].1,.int .u32 picks[k].2][j]? = some u → w.cell? ⟨bP,oP + k * 2 + j,none⟩ = some u := fun j u hu => by
        have hj : j < 2 := (List.getElem?_eq_some_iff.1 hu).1
        rw [Nat.add_assoc]
        refine hatP _ _ ?_
        rw [flat_at pkC_len picks k j hkp hj]
        exact hu
      have cellC : ∀ j u,[Value.int .i64 steps[i].th,.int .i64 0,.int .u32 0,.int .i64 (i : Int),.int .i64 (i : Int)][j]? = some u → w.cell? ⟨bC,oC + i * 7 + j,none⟩ = some u := fun j u hu => by
        have hj : j < 5 := (List.getElem?_eq_some_iff.1 hu).1
        rw [Nat.add_assoc]
        refine hatC _ _ ?_
        have hic : i < (callsOf steps).length := by rw [callsOf_len]; exact hi
        rw [flat_at Rc.len (callsOf steps) i j hic (by omega)]
        have hce := callsOf_at steps i hi
        rw [List.getElem?_eq_getElem hic] at hce
        rw [Option.some.inj hce]
        rcases j with _ | _ | _ | _ | _ | j
        · exact hu
        · exact hu
        · exact hu
        · exact hu
        · exact hu
        · omega
      rw [List.drop_eq_getElem_cons hi,List.drop_eq_getElem_cons hkp,List.map_cons,List.map_cons] at hsub
      generalize hρ0 : (⟨[(i : Int),(k : Int),(picks.length : Int),(cP : Int)],[],xs,[],[q0,⟨g1,b1,0,[],[],cap1,ad1⟩],[]⟩ : Env) = ρ0
      have hl0 : ρ0.lens = ⟨4,0,153,0,2⟩ := by rw [← hρ0]; simp [Env.lens,hxs]
      have hg0 : q0.g = bP := h0.2.1 (by omega)
      refine reach_reseg (b := 0) (q := ⟨bP,oP,oP + k * 2,[],[],q0.cap,none⟩) (by rw [← hρ0]; exact Nat.zero_lt_succ _) (by rw [← hρ0]; exact hg0.symm) (by rw [← hρ0]; exact h0.1.symm) (by rw [← hρ0]; rfl) (by kernel_rfl) ?_
      refine reach_grow (L := ⟨4,0,153,0,2⟩) (ai := [(steps.length : Int),(cS : Int),(steps.length : Int),(cC : Int),picks[k].1,picks[k].2,steps[i].th]) (ab := []) (ax := []) (ay := []) (ak := [⟨bS,oS,oS + i * 8,[],[],0,none⟩,⟨bC,oC,oC + i * 7,[],[],0,none⟩]) (by rw [← hl0]; simp [Env.lens,Env.reseg]) (by kernel_rfl) ?_
      generalize hρ : Env.grow _ _ _ _ _ _ = ρ
      have hys : ∀ v ∈ ρ.ys,v.oneCell' = true := by rw [← hρ,← hρ0]; intro v hv; cases hv
      have hlen : ρ.blks.length = 4 := by rw [← hρ,← hρ0]; rfl
      have hp : ρ.perms.length = 0 := by rw [← hρ,← hρ0]; rfl
      have hi0 : ρ.ints = [(i : Int),(k : Int),(picks.length : Int),(cP : Int),(steps.length : Int),(cS : Int),(steps.length : Int),(cC : Int),picks[k].1,picks[k].2,steps[i].th] := by rw [← hρ,← hρ0]; rfl
      have f1 : decide (ρ.ints.getD 1 0 < ((ρ.ints.getD 2 0).toNat : Int)) = true := by
        rw [hi0]
        exact decide_eq_true (by show (k : Int) < ((picks.length : Int).toNat : Int); omega)
      have f2 : decide ((0 : Int) ≤ ρ.ints.getD 1 0) = true := by
        rw [hi0]
        exact decide_eq_true (by show (0 : Int) ≤ (k : Int); omega)
      have f3 : decide (ρ.ints.getD 0 0 < ((ρ.ints.getD 4 0).toNat : Int)) = true := by
        rw [hi0]
        exact decide_eq_true (by show (i : Int) < ((steps.length : Int).toNat : Int); omega)
      have f4 : decide ((0 : Int) ≤ ρ.ints.getD 0 0) = true := by
        rw [hi0]
        exact decide_eq_true (by show (0 : Int) ≤ (i : Int); omega)
      have f5 : decide (ρ.ints.getD 0 0 < ((ρ.ints.getD 6 0).toNat : Int)) = true := by
        rw [hi0]
        exact decide_eq_true (by show (i : Int) < ((steps.length : Int).toNat : Int); omega)
      by_cases he : picks[k].1 = steps[i].th
      · -- the pick is found
        have hkn : knownA X s w ρ 0 lrM_in.heap := by
          refine ⟨⟨?_,if_ro rfl ?_,⟨?_,?_⟩,trivial,rfl⟩,⟨?_,if_ro rfl ?_,trivial,trivial,rfl⟩,⟨?_,if_ro rfl ?_,⟨?_,?_⟩,trivial,rfl⟩,⟨?_,if_ro rfl ?_,⟨?_,?_⟩,trivial,rfl⟩,trivial⟩
          all_goals subst hρ; subst hρ0
          · exact hbP
          · exact cellP
          · rfl
          · rfl
          · exact hT.lt
          · exact two_cells hT hT0 hT1
          · exact hbS
          · exact cellS
          · rfl
          · rfl
          · exact hbC
          · exact cellC
          · rfl
          · rfl
        have hnd : ndA ρ 0 lrM_in.heap := ⟨⟨(fun e => nomatch e),(fun e => nomatch e),(fun e => nomatch e),trivial⟩,⟨(fun e => nomatch e),(fun e => nomatch e),trivial⟩,⟨(fun e => nomatch e),trivial⟩,trivial,trivial⟩
        refine sx_run 900 lrM_run (Rep.start hth hys hlen hkn hnd (factsA_ok ⟨?_,?_,?_,?_,f5,f1,f2,f3,f4,trivial⟩) hp) ⟨fun ρ1 w1 hx1 hr1 => ?_,trivial⟩
        · show (ρ.ints.getD 8 0 != ρ.ints.getD 10 0) = false
          rw [hi0]
          show (picks[k].1 != steps[i].th) = false
          rw [he]
          simp
        · show (ρ.ints.getD 1 0 == ((ρ.ints.getD 2 0).toNat : Int)) = false
          rw [hi0]
          show ((k : Int) == ((picks.length : Int).toNat : Int)) = false
          simp
          omega
        · show (ρ.ints.getD 0 0 != ρ.ints.getD 0 0) = false
          simp
        · show (ρ.ints.getD 10 0 != ρ.ints.getD 10 0) = false
          simp
        refine sx_head lrM0_head hr1 fun ρ2 w2 hx2 hr2 => ?_
        have hx12 := hx1.trans hx2
        have hb2 : Below w.heap.size w w2 := hr2.chg.below (fun k hk => absurd hk (ours_ro rfl k)) (Nat.le_refl _)
        have hp2 : ρ2.perms = [] := perms_nil hr2
        refine ih.1 (i + 1) (k + 1) _ _ _ w2 (hm.below hb2) (hb.trans (hb2.mono hb.size)) hr2.there ⟨?_,rfl,?_,rfl,rfl,hp2⟩ (by omega) ?_ ?_ ?_
        · show [IntKind.i64.wrap (ρ2.ints.getD 0 0 + 1),IntKind.i64.wrap (ρ2.ints.getD 1 0 + 1),ρ2.ints.getD 2 0,ρ2.ints.getD 3 0] = _
          rw [hx12.ints,hi0]
          show [IntKind.i64.wrap ((i : Int) + 1),IntKind.i64.wrap ((k : Int) + 1),_,_] = _
          rw [wrap_succ hi hsm,wrap_succ hkp hpm]
          rfl
        · exact (dens_len _).trans rfl
        · dsimp only
          rw [hx12.blk (by omega),← hρ,← hρ0]
          exact ⟨rfl,fun _ => rfl,Nat.lt_of_lt_of_le hbP hb2.size⟩
        · dsimp only
          rw [hx12.blk (by omega),← hρ,← hρ0]
          exact ⟨rfl,rfl,rfl,rfl⟩
        · rw [he] at hsub
          exact List.cons_sublist_cons.1 hsub
      · have hkn : knownA X s w ρ 0 lrL_in.heap := by
          refine ⟨⟨?_,if_ro rfl ?_,⟨?_,?_⟩,trivial,rfl⟩,⟨?_,if_ro rfl ?_,trivial,trivial,rfl⟩,⟨?_,if_ro rfl ?_,⟨?_,?_⟩,trivial,rfl⟩,⟨?_,if_ro rfl cells_none,trivial,trivial,rfl⟩,trivial⟩
          all_goals subst hρ; subst hρ0
          · exact hbP
          · exact cellP
          · rfl
          · rfl
          · exact hT.lt
          · exact two_cells hT hT0 hT1
          · exact hbS
          · exact cellS
          · rfl
          · rfl
          · exact hbC
        have hnd : ndA ρ 0 lrL_in.heap := ⟨⟨(fun e => nomatch e),(fun e => nomatch e),(fun e => nomatch e),trivial⟩,⟨(fun e => nomatch e),(fun e => nomatch e),trivial⟩,⟨(fun e => nomatch e),trivial⟩,trivial,trivial⟩
        refine sx_run 900 lrL_run (Rep.start hth hys hlen hkn hnd (factsA_ok ⟨?_,f1,f2,f3,f4,trivial⟩) hp) ⟨fun ρ1 w1 hx1 hr1 => ?_,trivial⟩
        · show (ρ.ints.getD 8 0 != ρ.ints.getD 10 0) = true
          rw [hi0]
          show (picks[k].1 != steps[i].th) = true
          simpa using he
        refine sx_head lrL0_head hr1 fun ρ2 w2 hx2 hr2 => ?_
        have hx12 := hx1.trans hx2
        have hb2 : Below w.heap.size w w2 := hr2.chg.below (fun k hk => absurd hk (ours_ro rfl k)) (Nat.le_refl _)
        have hp2 : ρ2.perms = [] := perms_nil hr2
        refine ih.2 i (k + 1) _ _ _ w2 (hm.below hb2) (hb.trans (hb2.mono hb.size)) hr2.there ⟨?_,rfl,?_,rfl,rfl,hp2⟩ (by omega) hi ?_ ?_ ?_
        · show [ρ2.ints.getD 0 0,IntKind.i64.wrap (ρ2.ints.getD 1 0 + 1),ρ2.ints.getD 2 0,ρ2.ints.getD 3 0] = _
          rw [hx12.ints,hi0]
          show [_,IntKind.i64.wrap ((k : Int) + 1),_,_] = _
          rw [wrap_succ hkp hpm]
          rfl
        · exact (dens_len _).trans rfl
        · dsimp only
          rw [hx12.blk (by omega),← hρ,← hρ0]
          exact ⟨rfl,fun _ => rfl,Nat.lt_of_lt_of_le hbP hb2.size⟩
        · dsimp only
          rw [hx12.blk (by omega),← hρ,← hρ0]
          exact ⟨rfl,rfl,rfl,rfl⟩
        · rw [List.drop_eq_getElem_cons hi,List.map_cons]
          rcases List.sublist_cons_iff.1 hsub with h | ⟨r,e,_⟩
          · exact h
          · exact absurd (List.cons.inj e).1.symm he
end
end Go.Proofs.Ytonhfgjofgbcdaa.Dr
namespace Go.Proofs.Ytonhfgjofgbcdaa.Dr
set_option maxRecDepth 20000
open Go Go.Conc Go.RowKit Go.Proofs.Ytonhfgjofgbcdaa.Jay Go.Proofs.Ytonhfgjofgbcdaa.Pl
open Go.Proofs.Ytonhfgjofgbcdaa.St Go.Proofs.Ytonhfgjofgbcdaa.Sx Go.Proofs.Ytonhfgjofgbcdaa.Rf
set_option maxRecDepth 20000
section
variable {γ : Type} {X : Turns γ} {Stop : γ → Frame → List Frame → World → Prop} {cs₀ : List Frame}
theorem lrSame {s : γ} {W w : World} {R : Rw} {picks : List (Int × Int)} {AS AC AP : Option Addr} {cS cC cP gT : Nat} {cE cR : Array Value} {ρs : Env} {qT : Seg} {q0 : Seg} (hb : Below W.heap.size W w) (hth : X.there s w) (hbk : ∀ w',Below W.heap.size W w' → X.there s w' → EndsT Try.prog X Stop 6 cs₀ s (.bool true) w')
    (hS : Rp.Sps w w.heap.size (.slice AS R.steps.length cS) R.steps) (hC : Sl w w.heap.size 7 (.slice AC R.steps.length cC) R.steps.length ((callsOf R.steps).flatMap Rc.cells)) (hE : MemC w w.heap.size R.mem cE) (hR : MemC w w.heap.size R.mem cR) (hsm : R.mem.small) (hP : Sl w w.heap.size 2 (.slice AP picks.length cP) picks.length (picks.flatMap pkC)) (hT : Blk w gT 52 (#[.slice AS R.steps.length cS,.slice AC R.steps.length cC] ++ cE)) (hsub : (R.steps.map (·.th)).Sublist (picks.map (·.1))) (hpl : picks.length ≤ maxLen)
    (hq0 : q0.adr = AP ∧ (0 < picks.length → q0.g = (segOf AP).g) ∧ q0.g < w.heap.size) (hqT : Whl qT gT) (hsi : ρs.ints = [(picks.length : Int),(cP : Int)]) (hsk : ρs.blks = [q0,qT]) (hsp : ρs.perms = []) (hsx : ρs.xs.getD 154 undef = .tuple #[.agg cR,.bool true]) : Fr.reach Try.prog X Stop s cs₀ ρs lrG_p.frs w := by
  have hle : R.steps.length ≤ picks.length := by
    have := hsub.length_le
    simpa using this
  obtain ⟨v2,v3,v6,v7,v8,hcE,u2,u3,u6,u7,u8⟩ := hE
  obtain ⟨y2,y3,y6,y7,y8,hcR,z2,z3,z6,z7,z8⟩ := hR
  obtain ⟨g1,b1,o1,pre1,post1,cap1,ad1⟩ := qT
  obtain ⟨rfl,rfl,rfl,rfl⟩ : g1 = _ ∧ o1 = _ ∧ pre1 = _ ∧ post1 = _ := hqT
  have hE : MemC w w.heap.size R.mem cE := ⟨v2,v3,v6,v7,v8,hcE,u2,u3,u6,u7,u8⟩
  have hR : MemC w w.heap.size R.mem cR := ⟨y2,y3,y6,y7,y8,hcR,z2,z3,z6,z7,z8⟩
  let ρ : Env := { ints := [(picks.length : Int),(cP : Int),R.mem.e,R.mem.f,R.mem.h,R.mem.t,(R.steps.length : Int),(cS : Int),(R.steps.length : Int),(cC : Int),R.mem.e,R.mem.f,R.mem.h,R.mem.t],xs := ρs.xs,ys := [y2,y3,y6,y7,y8,v2,v3,v6,v7,v8],blks := [q0,⟨g1,b1,0,[],[],cap1,ad1⟩,⟨g1,0,0,[],[],0,some AS⟩,⟨g1,0,0,[],[],0,some AC⟩] }
  refine reach_conv (frs' := lrH_in.frs) (ρ' := ρ) (conv_one (fr' := lrH_in.frs.headD default) (fr := lrG_p.frs.headD default) rfl rfl hsp.symm ?_) ?_
  · rw [hcR] at hsx
    show dens ρ (lrH_in.frs.headD default).tmps = dens ρs (lrG_p.frs.headD default).tmps
    obtain ⟨si,sb,sx,sy,sk,sp⟩ := ρs
    dsimp only at hsi hsk hsx
    subst hsi hsk
    simp only [lrH_in,lrG_p,List.headD_cons,dens,SV.den]
    rw [hsx]
    rfl
  have hr : Rep X s (ours ρ lrH_in.heap) w ρ lrH_in.heap lrH_in.facts 0 w := by
    refine Rep.start hth (ysA_ok ⟨one_of_us z2,one_of_us z3,one_of_us z6,one_of_us z7,one_of_us z8,one_of_us u2,one_of_us u3,one_of_us u6,one_of_us u7,one_of_us u8,trivial⟩) rfl ⟨⟨hq0.2.2,if_ro rfl cells_none,trivial,trivial,rfl⟩,⟨hT.lt,if_ro rfl (cells_blk (by rw [hcE] at hT; exact hT) rfl rfl),trivial,trivial,rfl⟩,⟨hT.lt,if_ro rfl cells_none,trivial,trivial,rfl⟩,⟨hT.lt,if_ro rfl cells_none,trivial,trivial,rfl⟩,trivial⟩ ⟨⟨(fun e => nomatch e),(fun e => nomatch e),(fun e => nomatch e),trivial⟩,⟨(fun e => nomatch e),(fun e => nomatch e),trivial⟩,⟨(fun e => nomatch e),trivial⟩,trivial,trivial⟩ (factsA_ok ⟨decide_eq_false ?_,?_,trivial⟩) rfl
    · show ¬ (((R.steps.length : Int).toNat : Int)) > (((picks.length : Int)).toNat : Int)
      omega
    · show ((((R.steps.length : Int).toNat : Int)) != (((R.steps.length : Int)).toNat : Int)) = false
      simp
  refine sx_run 900 lrH_run hr ⟨fun ρ1 w1 hx1 hr1 => ?_,trivial⟩
  have hb1 : Below w.heap.size w w1 := hr1.chg.below (fun k hk => absurd hk (ours_ro rfl k)) (Nat.le_refl _)
  show Fr.reach _ X Stop s cs₀ ρ1 [lrH_fr] w1
  have hmE : MemC w1 w1.heap.size R.mem cE := (MemC.chg hE (Nat.le_refl _) (Chg.of_below (S := fun _ => False) hb1) fun g hg => hg.elim).more hb1.size
  have hmR : MemC w1 w1.heap.size R.mem cR := (MemC.chg hR (Nat.le_refl _) (Chg.of_below (S := fun _ => False) hb1) fun g hg => hg.elim).more hb1.size
  have hsame := Rf.all (X := X) (s := s) (w := w1) (va := .agg cR) (vb := .agg cE) ⟨_,rfl,hmR⟩ ⟨_,rfl,hmE⟩ (Nat.le_refl _) (Rf.few_of_small hsm) (Rf.few_of_small hsm)
  refine sx_call (fr := lrH_fr) (callers := []) (ht := rfl) lrH_at lrH_gd lrH_call lrH_fresh hr1 (Post := fun s' r w' => s' = s ∧ Below w1.heap.size w1 w' ∧ r = .back (.bool (Mem.same R.mem R.mem))) ?_ (fun s' v w2 hp ht2 => ?_) (fun s' ch w' hp _ => by obtain ⟨_,_,e⟩ := hp; cases e)
  · rwa [show (dens ρ1 lrH_args).toArray = #[.agg cR,.agg cE] by
      have e1 : dens ρ1 lrH_args = dens ρ lrH_args := by
        show [Value.agg #[.int .u64 (ρ1.ints.getD 2 0),.int .u64 (ρ1.ints.getD 3 0),ρ1.ys.getD 0 .nilFunc,ρ1.ys.getD 1 .nilFunc,.int .u64 (ρ1.ints.getD 4 0),.int .u64 (ρ1.ints.getD 5 0),ρ1.ys.getD 2 .nilFunc,ρ1.ys.getD 3 .nilFunc,ρ1.ys.getD 4 .nilFunc],.agg #[.int .u64 (ρ1.ints.getD 10 0),.int .u64 (ρ1.ints.getD 11 0),ρ1.ys.getD 5 .nilFunc,ρ1.ys.getD 6 .nilFunc,.int .u64 (ρ1.ints.getD 12 0),.int .u64 (ρ1.ints.getD 13 0),ρ1.ys.getD 7 .nilFunc,ρ1.ys.getD 8 .nilFunc,ρ1.ys.getD 9 .nilFunc]] = _
        rw [hx1.ints,hx1.ys]
        rfl
      rw [e1,hcE,hcR]
      rfl]
  obtain ⟨rfl,hb2,ev⟩ := hp
  rw [(Mem.same_iff R.mem R.mem).2 rfl] at ev
  cases ev
  refine reach_put (sv := .bool (.lit true)) rfl ?_
  rw [lrH_put]
  have hr2 := hr1.below hb2
  refine sx_run 900 lrI_run hr2 ⟨fun ρ3 w3 hx3 hr3 => ?_,trivial⟩
  refine sx_head lrI0_head hr3 fun ρ4 w4 hx4 hr4 => ?_
  have hx14 := hx3.trans hx4
  have hx04 := hx1.trans hx14
  have hb4 : Below w.heap.size w w4 := hr4.chg.below (fun k hk => absurd hk (ours_ro rfl k)) (Nat.le_refl _)
  have hp4 : ρ4.perms = [] := perms_nil hr4
  have hml : R.steps.length ≤ maxLen := by omega
  have hm : LrM w g1 AS AC AP cS cC cP R.steps picks := ⟨⟨_,_,hT,by rw [hcE]; rfl,by rw [hcE]; rfl⟩,hS,hC,hP⟩
  refine (lrLoops hml hpl (W := W) hbk (2 * (R.steps.length + picks.length) + 1)).1 0 0 _ _ _ w4 (hm.below hb4) (hb.trans (hb4.mono hb.size)) hr4.there ⟨?_,rfl,?_,rfl,rfl,hp4⟩ (by omega) ?_ ?_ hsub
  · show [0,0,ρ4.ints.getD 0 0,ρ4.ints.getD 1 0] = _
    rw [hx04.ints]
    rfl
  · exact (dens_len _).trans rfl
  · dsimp only
    rw [hx04.blk (show 0 < 4 by decide)]
    exact ⟨hq0.1,hq0.2.1,Nat.lt_of_lt_of_le hq0.2.2 hb4.size⟩
  · dsimp only
    rw [hx04.blk (show 1 < 4 by decide)]
    exact ⟨rfl,rfl,rfl,rfl⟩
theorem lrBack {s : γ} {W w : World} {k K T Mn : Int} {l : List (List Ac)} {picks : List (Int × Int)} {AP : Option Addr} {cP gC : Nat} {v : Value} {w₁ : World} {ρs : Env} {q0 qC : Seg} (hb : Below W.heap.size W w) (hth : X.there s w) (hbk : ∀ w',Below W.heap.size W w' → X.there s w' → EndsT Try.prog X Stop 6 cs₀ s (.bool true) w')
    (hcase : (Okw k K T Mn l picks ∧ ∃ (vS vC : Value) (cE : Array Value),v = .tuple #[.agg (#[vS,vC] ++ cE),.int .i64 0] ∧ Rp.Sps w w.heap.size vS (rawRun k K T Mn l picks).steps ∧ Sl w w.heap.size 7 vC (callsOf (rawRun k K T Mn l picks).steps).length ((callsOf (rawRun k K T Mn l picks).steps).flatMap Rc.cells) ∧ MemC w w.heap.size (rawRun k K T Mn l picks).mem cE ∧ (rawRun k K T Mn l picks).mem.small) ∨ (¬ Okw k K T Mn l picks ∧ v = badV))
    (hP : Sl w w.heap.size 2 (.slice AP picks.length cP) picks.length (picks.flatMap pkC)) (hpl : picks.length ≤ maxLen) (hC : Blk w gC 36 #[.int .i64 k,.int .i64 K,.int .i64 T,.int .i64 Mn])
    (hq0 : q0.adr = AP ∧ (0 < picks.length → q0.g = (segOf AP).g) ∧ q0.g < w.heap.size) (hqC : Whl qC gC) (hsi : ρs.ints = [(picks.length : Int),(cP : Int)]) (hsk : ρs.blks = [q0,qC]) (hsp : ρs.perms = []) (hsl : ρs.xs.length = 155) (hsx : ρs.xs.getD 154 undef = v) : Fr.reach Try.prog X Stop s cs₀ ρs lrD_p.frs w := by
  obtain ⟨g1,b1,o1,pre1,post1,cap1,ad1⟩ := qC
  obtain ⟨rfl,rfl,rfl,rfl⟩ : g1 = _ ∧ o1 = _ ∧ pre1 = _ ∧ post1 = _ := hqC
  rcases hcase with ⟨hok,vS,vC,cE,rfl,hS,hCa,hM,hsm⟩ | ⟨_,rfl⟩
  · obtain ⟨AS,cS,rfl,_,_⟩ := Sl.form hS
    rw [callsOf_len] at hCa
    obtain ⟨AC,cC,rfl,_,_⟩ := Sl.form hCa
    have hlaw := raw_law (k := k) (K := K) (T := T) (Mn := Mn) l picks hok.1
    generalize rawRun k K T Mn l picks = R at *
    obtain ⟨v2,v3,v6,v7,v8,hcE,u2,u3,u6,u7,u8⟩ := hM
    have hM : MemC w w.heap.size R.mem cE := ⟨v2,v3,v6,v7,v8,hcE,u2,u3,u6,u7,u8⟩
    let ρ : Env := { ints := [(picks.length : Int),(cP : Int),(R.steps.length : Int),(cS : Int),(R.steps.length : Int),(cC : Int),R.mem.e,R.mem.f,R.mem.h,R.mem.t,0,k,K,T,Mn],xs := ρs.xs,ys := [v2,v3,v6,v7,v8],blks := [q0,⟨g1,b1,0,[],[],cap1,ad1⟩,⟨g1,0,0,[],[],0,some AS⟩,⟨g1,0,0,[],[],0,some AC⟩] }
    refine reach_conv (frs' := lrG_in.frs) (ρ' := ρ) (conv_one (fr' := lrG_in.frs.headD default) (fr := lrD_p.frs.headD default) rfl rfl hsp.symm ?_) ?_
    · rw [hcE] at hsx
      show dens ρ (lrG_in.frs.headD default).tmps = dens ρs (lrD_p.frs.headD default).tmps
      obtain ⟨si,sb,sx,sy,sk,sp⟩ := ρs
      dsimp only at hsi hsk hsx
      subst hsi hsk
      simp only [lrG_in,lrD_p,List.headD_cons,dens,SV.den]
      rw [hsx]
      rfl
    have hr : Rep X s (ours ρ lrG_in.heap) w ρ lrG_in.heap lrG_in.facts 0 w := by
      refine Rep.start hth (ysA_ok ⟨one_of_us u2,one_of_us u3,one_of_us u6,one_of_us u7,one_of_us u8,trivial⟩) rfl ⟨⟨hq0.2.2,if_ro rfl cells_none,trivial,trivial,rfl⟩,⟨hC.lt,if_ro rfl (cells_blk hC rfl rfl),trivial,trivial,rfl⟩,⟨hC.lt,if_ro rfl cells_none,trivial,trivial,rfl⟩,⟨hC.lt,if_ro rfl cells_none,trivial,trivial,rfl⟩,trivial⟩ ⟨⟨(fun e => nomatch e),(fun e => nomatch e),(fun e => nomatch e),trivial⟩,⟨(fun e => nomatch e),(fun e => nomatch e),trivial⟩,⟨(fun e => nomatch e),trivial⟩,trivial,trivial⟩ (factsA_ok ⟨rfl,trivial⟩) rfl
    refine sx_run 900 lrG_run hr ⟨fun ρ1 w1 hx1 hr1 => ?_,trivial⟩
    have hb1 : Below w.heap.size w w1 := hr1.chg.below (fun k hk => absurd hk (ours_ro rfl k)) (Nat.le_refl _)
    show Fr.reach _ X Stop s cs₀ ρ1 [lrG_fr] w1
    have hS1 : Rp.Sps w1 w1.heap.size (.slice AS R.steps.length cS) R.steps := (Sl.below hS hb1).more hb1.size
    have hrep := Rp.rrep (X := X) (s := s) (w := w1) (k := k) (K := K) (T := T) (M := Mn) hS1 (Nat.le_refl _)
    have hTp := hr1.rep.pl 4 _ rfl rfl rfl rfl
    have hTb := hr1.rep.blk 4 _ rfl rfl
    have hTo : (ρ1.blks.getD 4 {}).o = 0 := by rw [hTb.1,hTp.1]; rfl
    have hTlt := hr1.bnd 4 (by decide)
    have hT1 : Blk w1 (ρ1.blks.getD 4 {}).g 52 (#[.slice AS R.steps.length cS,.slice AC R.steps.length cC] ++ cE) := by
      have h1 := hTb.2
      unfold Seg.whole at h1
      rw [hTp.1,hTp.2,List.append_nil,List.nil_append] at h1
      have e1 : dens ρ1 ((lrG_0.heap.getD 4 default).cs) = dens ρ ((lrG_0.heap.getD 4 default).cs) := by
        show [Value.slice (ρ1.blks.getD 2 {}).adr (ρ1.ints.getD 2 0).toNat (ρ1.ints.getD 3 0).toNat,.slice (ρ1.blks.getD 3 {}).adr (ρ1.ints.getD 4 0).toNat (ρ1.ints.getD 5 0).toNat,.int .u64 (ρ1.ints.getD 6 0),.int .u64 (ρ1.ints.getD 7 0),ρ1.ys.getD 0 .nilFunc,ρ1.ys.getD 1 .nilFunc,.int .u64 (ρ1.ints.getD 8 0),.int .u64 (ρ1.ints.getD 9 0),ρ1.ys.getD 2 .nilFunc,ρ1.ys.getD 3 .nilFunc,ρ1.ys.getD 4 .nilFunc] = _
        rw [hx1.ints,hx1.ys,hx1.blk (show 2 < 4 by decide),hx1.blk (show 3 < 4 by decide)]
        rfl
      have h2 : Blk w1 (ρ1.blks.getD 4 {}).g 52 (dens ρ1 ((lrG_0.heap.getD 4 default).cs)).toArray := h1
      rw [e1] at h2
      rw [hcE]
      exact h2
    have hL1 : ρ1.lens = ⟨15,0,155,5,5⟩ := by
      have h1 : ρ1.blks.length = 5 := hr1.len
      simp only [Env.lens,h1,hx1.ints,hx1.bools,hx1.xs,hx1.ys]
      show Lens.mk 15 0 ρs.xs.length 5 5 = _
      rw [hsl]
    refine sx_call (fr := lrG_fr) (callers := []) (ht := rfl) lrG_at lrG_gd lrG_call lrG_fresh hr1 (Post := Rp.RRepPost s w1 (Rp.whole k K T Mn R.steps)) ?_ (fun s' u w2 hp ht2 => ?_) (fun s' ch w' hp _ => by obtain ⟨_,_,_,_,e⟩ := hp; cases e)
    · rwa [show (dens ρ1 lrG_args).toArray = #[cfg k K T Mn,.slice AS R.steps.length cS] by
        show #[Value.agg #[.int .i64 (ρ1.ints.getD 11 0),.int .i64 (ρ1.ints.getD 12 0),.int .i64 (ρ1.ints.getD 13 0),.int .i64 (ρ1.ints.getD 14 0)],.slice (ρ1.blks.getD 2 {}).adr (ρ1.ints.getD 2 0).toNat (ρ1.ints.getD 3 0).toNat] = _
        rw [hx1.ints,hx1.blk (show 2 < 4 by decide)]
        rfl]
    · obtain ⟨hs',hb2,cR,hMR,ev⟩ := hp
      subst hs'
      cases ev
      rw [hlaw.1] at hMR ⊢
      simp only [Option.getD_some,Option.isSome_some] at hMR ⊢
      refine reach_res (ai := []) (ab := []) (ax := [.tuple #[.agg cR,.bool true]]) (ay := []) (.x 155) hL1 (by kernel_rfl) ?_ ?_
      · show (ρ1.xs ++ [_]).getD 155 _ = _
        have : ρ1.xs.length = 155 := congrArg Lens.nx hL1
        simp [List.getD_eq_getElem?_getD,List.getElem?_append_right,this]
      rw [lrG_put]
      have hgx : (ρ1.grow [] [] [.tuple #[.agg cR,.bool true]] [] []).xs.getD 155 undef = .tuple #[.agg cR,.bool true] := by
        show (ρ1.xs ++ [_]).getD 155 _ = _
        have : ρ1.xs.length = 155 := congrArg Lens.nx hL1
        simp [List.getD_eq_getElem?_getD,List.getElem?_append_right,this]
      have hgi : (ρ1.grow [] [] [.tuple #[.agg cR,.bool true]] [] []).ints = ρ.ints := by simp only [Env.grow,List.append_nil]; exact hx1.ints
      have hgk : ∀ i,i < 5 → (ρ1.grow [] [] [.tuple #[.agg cR,.bool true]] [] []).blks.getD i {} = ρ1.blks.getD i {} := fun i hi => by simp only [Env.grow,List.append_nil]
      have hgp : (ρ1.grow [] [] [.tuple #[.agg cR,.bool true]] [] []).perms = [] := (show ρ1.perms = [] from perms_nil hr1)
      generalize ρ1.grow _ _ _ _ _ = ρg at hgx hgi hgk hgp ⊢
      refine sx_frs (a := ⟨[lrG_frb],[],[],0⟩) lrGp_fits ?_
      have hb02 : Below w.heap.size w w2 := hb1.trans (hb2.mono hb1.size)
      have ht4 : Whl (ρ1.blks.getD 4 {}) (ρ1.blks.getD 4 {}).g := ⟨rfl,hTo,hTp⟩
      refine lrSame (gT := (ρ1.blks.getD 4 {}).g) (qT := ρ1.blks.getD 4 {}) (q0 := q0) (cR := cR) (hb.trans (hb02.mono hb.size)) ht2 hbk ((Sl.below hS hb02).more hb02.size) ((hCa.below hb02).more hb02.size) ((MemC.chg hM (Nat.le_refl _) (Chg.of_below (S := fun _ => False) hb02) fun g hg => hg.elim).more hb02.size) hMR hsm ((hP.below hb02).more hb02.size) (hT1.below hb2 hTlt) hlaw.2 hpl ⟨hq0.1,hq0.2.1,Nat.lt_of_lt_of_le hq0.2.2 hb02.size⟩ ht4 ?_ ?_ hgp ?_
      · show [ρg.ints.getD 0 0,ρg.ints.getD 1 0] = _
        rw [hgi]
        rfl
      · show [ρg.blks.getD 0 {},ρg.blks.getD 4 {}] = _
        rw [hgk 0 (by decide),hgk 4 (by decide),hx1.blk (show 0 < 4 by decide)]
        rfl
      · show ρg.xs.getD 155 undef = _
        exact hgx
  · let ρ : Env := { ints := [(picks.length : Int),(cP : Int),0,0,0,0,0,0,0,0,1],xs := ρs.xs,ys := [.slice none 0 0,.slice none 0 0,.slice none 0 0,.slice none 0 0,.slice none 0 0],blks := [q0,⟨g1,b1,0,[],[],cap1,ad1⟩,⟨g1,0,0,[],[],0,some none⟩,⟨g1,0,0,[],[],0,some none⟩] }
    refine reach_conv (frs' := lrF_in.frs) (ρ' := ρ) (conv_one (fr' := lrF_in.frs.headD default) (fr := lrD_p.frs.headD default) rfl rfl hsp.symm ?_) ?_
    · show dens ρ (lrF_in.frs.headD default).tmps = dens ρs (lrD_p.frs.headD default).tmps
      obtain ⟨si,sb,sx,sy,sk,sp⟩ := ρs
      dsimp only at hsi hsk hsx
      subst hsi hsk
      simp only [lrF_in,lrD_p,List.headD_cons,dens,SV.den]
      rw [hsx]
      rfl
    have hr : Rep X s (ours ρ lrF_in.heap) w ρ lrF_in.heap lrF_in.facts 0 w := by
      refine Rep.start hth (ysA_ok ⟨rfl,rfl,rfl,rfl,rfl,trivial⟩) rfl ⟨⟨hq0.2.2,if_ro rfl cells_none,trivial,trivial,rfl⟩,⟨hC.lt,if_ro rfl cells_none,trivial,trivial,rfl⟩,⟨hC.lt,if_ro rfl cells_none,trivial,trivial,rfl⟩,⟨hC.lt,if_ro rfl cells_none,trivial,trivial,rfl⟩,trivial⟩ ⟨⟨(fun e => nomatch e),(fun e => nomatch e),(fun e => nomatch e),trivial⟩,⟨(fun e => nomatch e),(fun e => nomatch e),trivial⟩,⟨(fun e => nomatch e),trivial⟩,trivial,trivial⟩ (factsA_ok ⟨rfl,trivial⟩) rfl
    refine sx_run 900 lrF_run hr ⟨fun ρ1 w1 hx1 hr1 => ?_,trivial⟩
    have hb1 : Below w.heap.size w w1 := hr1.chg.below (fun k hk => absurd hk (ours_ro rfl k)) (Nat.le_refl _)
    refine sx_endE (v := _) lrF_0_end rfl hr1.rep ?_
    have := hbk w1 (hb.trans (hb1.mono hb.size)) hr1.there
    have e : (SV.den ρ1 (.bool (.cmp .eql (.tn (.v 2)) (.lit 0)))) = .bool true := by
      show Value.bool ((((ρ1.ints.getD 2 0).toNat : Nat) : Int) == 0) = _
      rw [hx1.ints]
      rfl
    rw [e]
    exact this
theorem lrGuard {s : γ} {W : World} {k K T Mn : Int} {l : List (List Ac)} {picks : List (Int × Int)} {AL AP : Option Addr} {cL cP gC : Nat} (hlm : l.length ≤ 5864062014805) (hbig : ∀ xs ∈ l,xs.length ≤ 8796093022207) (hpl : picks.length ≤ maxLen)
    (hback : ∀ s' v w',LawPost X s W s' (.back v) w' → X.there s' w' → EndsT Try.prog X Stop 6 cs₀ s' v w') (m : Nat) :
    ∀ (i : Nat) (n : Int) (ρ : Env) (q0 q1 q2 : Seg) (w : World) (hL : Lls w w.heap.size (.slice AL l.length cL) l) (hP : Sl w w.heap.size 2 (.slice AP picks.length cP) picks.length (picks.flatMap pkC)) (hC : Blk w gC 36 #[.int .i64 k,.int .i64 K,.int .i64 T,.int .i64 Mn]) (hb : Below W.heap.size W w) (hth : X.there s w)
      (hd : Hd ρ [(i : Int),(l.length : Int),(cL : Int),(picks.length : Int),(cP : Int),n] 152 [q0,q1,q2]) (hn : l.length - i = m) (h0 : q0.adr = AL ∧ (0 < l.length → q0.g = (segOf AL).g) ∧ q0.g < w.heap.size) (h1 : q1.adr = AP ∧ (0 < picks.length → q1.g = (segOf AP).g) ∧ q1.g < w.heap.size) (h2 : Whl q2 gC),Fr.reach Try.prog X Stop s cs₀ ρ lr1.frs w := by
  have hml : maxLen = 9223372036854775807 := rfl
  have hbk : ∀ w',Below W.heap.size W w' → X.there s w' → EndsT Try.prog X Stop 6 cs₀ s (.bool true) w' := fun w' h1 h2 => hback s _ w' ⟨h1,fun _ _ h => h,rfl⟩ h2
  induction m with
  | zero =>
    intro i n ρ q0 q1 q2 w hL hP hC hb hth hd hn h0 h1 h2
    obtain ⟨xs,hxs,rfl⟩ := hd.of
    obtain ⟨g2,b2,o2,pre2,post2,cap2,ad2⟩ := q2
    obtain ⟨rfl,rfl,rfl,rfl⟩ : g2 = _ ∧ o2 = _ ∧ pre2 = _ ∧ post2 = _ := h2
    generalize hρ0 : (⟨[(i : Int),(l.length : Int),(cL : Int),(picks.length : Int),(cP : Int),n],[],xs,[],[q0,q1,⟨g2,b2,0,[],[],cap2,ad2⟩],[]⟩ : Env) = ρ0
    have hl0 : ρ0.lens = ⟨6,0,152,0,3⟩ := by rw [← hρ0]; simp [Env.lens,hxs]
    refine reach_grow (L := ⟨6,0,152,0,3⟩) (ai := [k,K,T,Mn]) (ab := []) (ax := []) (ay := []) (ak := []) hl0 (by kernel_rfl) ?_
    generalize hρ : Env.grow _ _ _ _ _ _ = ρ
    have hi0 : ρ.ints = [(i : Int),(l.length : Int),(cL : Int),(picks.length : Int),(cP : Int),n,k,K,T,Mn] := by rw [← hρ,← hρ0]; rfl
    have hr : Rep X s (ours ρ lrD_in.heap) w ρ lrD_in.heap lrD_in.facts 0 w := by
      refine Rep.start hth (by rw [← hρ,← hρ0]; intro v hv; cases hv) (by rw [← hρ,← hρ0]; rfl) ⟨⟨?_,if_ro rfl cells_none,trivial,trivial,rfl⟩,⟨?_,if_ro rfl cells_none,trivial,trivial,rfl⟩,⟨?_,if_ro rfl ?_,trivial,trivial,rfl⟩,trivial⟩ ⟨⟨(fun e => nomatch e),(fun e => nomatch e),trivial⟩,⟨(fun e => nomatch e),trivial⟩,trivial,trivial⟩ (factsA_ok ⟨?_,trivial⟩) (by rw [← hρ,← hρ0]; rfl)
      all_goals subst hρ; subst hρ0
      · exact h0.2.2
      · exact h1.2.2
      · exact hC.lt
      · exact cells_blk hC rfl rfl
      · exact decide_eq_false (by show ¬ (i : Int) < ((l.length : Int).toNat : Int); omega)
    refine sx_run 900 lrD_run hr ⟨fun ρ1 w1 hx1 hr1 => ?_,fun ρ1 w1 hx1 hr1 => ?_,fun ρ1 w1 hx1 hr1 => ?_,trivial⟩
    · have hb1 : Below w.heap.size w w1 := hr1.chg.below (fun k hk => absurd hk (ours_ro rfl k)) (Nat.le_refl _)
      exact sx_endE (v := _) lrD_0_end rfl hr1.rep (hbk w1 (hb.trans (hb1.mono hb.size)) hr1.there)
    · have hb1 : Below w.heap.size w w1 := hr1.chg.below (fun k hk => absurd hk (ours_ro rfl k)) (Nat.le_refl _)
      exact sx_endE (v := _) lrD_1_end rfl hr1.rep (hbk w1 (hb.trans (hb1.mono hb.size)) hr1.there)
    · have hb1 : Below w.heap.size w w1 := hr1.chg.below (fun k hk => absurd hk (ours_ro rfl k)) (Nat.le_refl _)
      have hi1 : ρ1.ints = [(i : Int),(l.length : Int),(cL : Int),(picks.length : Int),(cP : Int),n,k,K,T,Mn] := hx1.ints.trans hi0
      have hbl : ρ.blks.length = 3 := by rw [← hρ,← hρ0]; rfl
      have hk1 : ∀ j,j < 3 → ρ1.blks.getD j {} = ρ.blks.getD j {} := fun j hj => hx1.blk (by omega)
      show Fr.reach _ X Stop s cs₀ ρ1 [lrD_fr] w1
      have hL1 : Lls w1 w1.heap.size (.slice AL l.length cL) l := by
        obtain ⟨vs,a1,a2,a3⟩ := hL.below hb1
        exact ⟨vs,a1,a2.more hb1.size,fun i u hu => by obtain ⟨xs,b1,b2⟩ := a3 i u hu; exact ⟨xs,b1,Sl.more b2 hb1.size⟩⟩
      have hP1 : Sl w1 w1.heap.size 2 (.slice AP picks.length cP) picks.length (picks.flatMap pkC) := (hP.below hb1).more hb1.size
      have hW1 : 0 < w1.heap.size := by have := hb1.size; have := hC.lt; omega
      have hraw := raw_ok (X := X) (s := s) (k := k) (K := K) (T := T) (Mn := Mn) (picks := picks) hL1 hP1 hW1 hlm hbig
      refine sx_call (fr := lrD_fr) (callers := []) (ht := rfl) lrD_at lrD_gd lrD_call lrD_fresh hr1 (Post := RawPost X s w1 k K T Mn l picks) ?_ (fun s' v w2 hp ht2 => ?_) (fun s' ch w' hp _ => by obtain ⟨_,_,⟨_,_,_,_,e,_⟩ | ⟨_,e⟩⟩ := hp <;> cases e)
      · rwa [show (dens ρ1 lrD_args).toArray = #[cfg k K T Mn,.slice AL l.length cL,.slice AP picks.length cP] by
          show #[Value.agg #[.int .i64 (ρ1.ints.getD 6 0),.int .i64 (ρ1.ints.getD 7 0),.int .i64 (ρ1.ints.getD 8 0),.int .i64 (ρ1.ints.getD 9 0)],.slice (ρ1.blks.getD 0 {}).adr (ρ1.ints.getD 1 0).toNat (ρ1.ints.getD 2 0).toNat,.slice (ρ1.blks.getD 1 {}).adr (ρ1.ints.getD 3 0).toNat (ρ1.ints.getD 4 0).toNat] = _
          rw [hi1,hk1 0 (by decide),hk1 1 (by decide),← hρ,← hρ0]
          show #[cfg k K T Mn,.slice q0.adr l.length cL,.slice q1.adr picks.length cP] = _
          rw [h0.1,h1.1]]
      · obtain ⟨hbel,hoth,hcase⟩ := hp
        have hL1' : ρ1.lens = ⟨10,0,152,0,3⟩ := by
          have h1 : ρ1.blks.length = 3 := hr1.len
          have h2 : ρ1.xs.length = 152 := by rw [hx1.xs,← hρ,← hρ0]; simp [Env.grow,hxs]
          have h3 : ρ1.ys = [] := by rw [hx1.ys,← hρ,← hρ0]; rfl
          have h4 : ρ1.bools = [] := by rw [hx1.bools,← hρ,← hρ0]; rfl
          simp only [Env.lens,hi1,h1,h2,h3,h4]
          rfl
        refine reach_res (ai := []) (ab := []) (ax := [v]) (ay := []) (.x 152) hL1' (by kernel_rfl) ?_ ?_
        · show (ρ1.xs ++ [_]).getD 152 _ = _
          have : ρ1.xs.length = 152 := congrArg Lens.nx hL1'
          simp [List.getD_eq_getElem?_getD,List.getElem?_append_right,this]
        rw [lrD_put]
        have hgx : (ρ1.grow [] [] [v] [] []).xs.getD 152 undef = v := by
          show (ρ1.xs ++ [_]).getD 152 _ = _
          have : ρ1.xs.length = 152 := congrArg Lens.nx hL1'
          simp [List.getD_eq_getElem?_getD,List.getElem?_append_right,this]
        have hgi : (ρ1.grow [] [] [v] [] []).ints = [(i : Int),(l.length : Int),(cL : Int),(picks.length : Int),(cP : Int),n,k,K,T,Mn] := by simp only [Env.grow,List.append_nil]; exact hi1
        have hgk : ∀ i,i < 3 → (ρ1.grow [] [] [v] [] []).blks.getD i {} = ρ.blks.getD i {} := fun i hi => by simp only [Env.grow,List.append_nil]; exact hk1 i hi
        have hgp : (ρ1.grow [] [] [v] [] []).perms = [] := (show ρ1.perms = [] from perms_nil hr1)
        generalize ρ1.grow _ _ _ _ _ = ρg at hgx hgi hgk hgp ⊢
        refine sx_frs (a := ⟨[lrD_frb],[],[],0⟩) lrDp_fits ?_
        have hb02 : Below w.heap.size w w2 := hb1.trans (hbel.mono hb1.size)
        have hoth0 : ∀ k,k < W.heap.size → X.oth s' k → X.oth s k := fun k hk ho => hoth k (by have := hb.size; have := hb1.size; omega) ho
        refine lrBack (s := s') (W := W) (k := k) (K := K) (T := T) (Mn := Mn) (l := l) (q0 := q1) (qC := ⟨g2,b2,0,[],[],cap2,ad2⟩) (v := v) (w₁ := w) (hb.trans (hb02.mono hb.size)) ht2 (fun w' h1 h2 => hback s' _ w' ⟨h1,hoth0,rfl⟩ h2) ?_ ((hP.below hb02).more hb02.size) hpl (hC.below hb02 hC.lt) ⟨h1.1,h1.2.1,Nat.lt_of_lt_of_le h1.2.2 hb02.size⟩ ⟨rfl,rfl,rfl,rfl⟩ ?_ ?_ hgp ?_ ?_
        · rcases hcase with ⟨hok,vS,vC,cE,e,a⟩ | ⟨hno,e⟩
          · cases e
            exact .inl ⟨hok,vS,vC,cE,rfl,a⟩
          · cases e
            exact .inr ⟨hno,rfl⟩
        · show [ρg.ints.getD 3 0,ρg.ints.getD 4 0] = _
          rw [hgi]
          rfl
        · show [ρg.blks.getD 1 {},ρg.blks.getD 2 {}] = _
          rw [hgk 1 (by decide),hgk 2 (by decide),← hρ,← hρ0]
          rfl
        · exact (dens_len _).trans rfl
        · show ρg.xs.getD 152 undef = _
          exact hgx
  | succ m ih =>
    intro i n ρ q0 q1 q2 w hL hP hC hb hth hd hn h0 h1 h2
    have hi : i < l.length := by omega
    have hn1 : l.length - (i + 1) = m := by omega
    obtain ⟨xs,hxs,rfl⟩ := hd.of
    obtain ⟨g2,b2,o2,pre2,post2,cap2,ad2⟩ := q2
    obtain ⟨rfl,rfl,rfl,rfl⟩ : g2 = _ ∧ o2 = _ ∧ pre2 = _ ∧ post2 = _ := h2
    generalize hρ0 : (⟨[(i : Int),(l.length : Int),(cL : Int),(picks.length : Int),(cP : Int),n],[],xs,[],[q0,q1,⟨g2,b2,0,[],[],cap2,ad2⟩],[]⟩ : Env) = ρ0
    have hl0 : ρ0.lens = ⟨6,0,152,0,3⟩ := by rw [← hρ0]; simp [Env.lens,hxs]
    by_cases hn4 : n ≤ 400
    · obtain ⟨bl,ol,cL',eL,hbl,_,_,hat⟩ := hL.at_ (by omega)
      cases eL
      obtain ⟨u,hu,hacs⟩ := hat i hi
      obtain ⟨At,ct,rfl,_,_⟩ := Sl.form hacs
      refine reach_reseg (b := 0) (q := ⟨bl,ol,ol + i * 1,[],[],q0.cap,none⟩) (by rw [← hρ0]; exact Nat.zero_lt_succ _) (by rw [← hρ0]; exact (h0.2.1 (by omega)).symm) (by rw [← hρ0]; exact h0.1.symm) (by rw [← hρ0]; rfl) (by kernel_rfl) ?_
      refine reach_grow (L := ⟨6,0,152,0,3⟩) (ai := [(l[i].length : Int),(ct : Int)]) (ab := []) (ax := []) (ay := []) (ak := [⟨g2,0,0,[],[],0,some At⟩]) (by rw [← hl0]; simp [Env.lens,Env.reseg]) (by kernel_rfl) ?_
      generalize hρ : Env.grow _ _ _ _ _ _ = ρ
      have hi0 : ρ.ints = [(i : Int),(l.length : Int),(cL : Int),(picks.length : Int),(cP : Int),n,(l[i].length : Int),(ct : Int)] := by rw [← hρ,← hρ0]; rfl
      have hlen : ρ.blks.length = 4 := by rw [← hρ,← hρ0]; rfl
      have hr : Rep X s (ours ρ lrC_in.heap) w ρ lrC_in.heap lrC_in.facts 0 w := by
        refine Rep.start hth (by rw [← hρ,← hρ0]; intro v hv; cases hv) hlen ⟨⟨?_,if_ro rfl ?_,⟨?_,?_⟩,trivial,rfl⟩,⟨?_,if_ro rfl cells_none,trivial,trivial,rfl⟩,⟨?_,if_ro rfl cells_none,trivial,trivial,rfl⟩,⟨?_,if_ro rfl cells_none,trivial,trivial,rfl⟩,trivial⟩ ⟨⟨(fun e => nomatch e),(fun e => nomatch e),(fun e => nomatch e),trivial⟩,⟨(fun e => nomatch e),(fun e => nomatch e),trivial⟩,⟨(fun e => nomatch e),trivial⟩,trivial,trivial⟩ (factsA_ok ⟨?_,?_,?_,trivial⟩) (by rw [← hρ,← hρ0]; rfl)
        all_goals subst hρ; subst hρ0
        · exact hbl
        · intro j u' hu'
          cases j with
          | zero =>
            cases hu'
            show w.cell? ⟨bl,ol + i * 1 + 0,none⟩ = _
            rw [Nat.mul_one,Nat.add_zero,hu]
            rfl
          | succ j => cases hu'
        · rfl
        · rfl
        · exact h1.2.2
        · exact hC.lt
        · exact hC.lt
        · exact decide_eq_true (by show (i : Int) < ((l.length : Int).toNat : Int); omega)
        · exact decide_eq_true (by show n ≤ 400; omega)
        · exact decide_eq_true (by show (0 : Int) ≤ (i : Int); omega)
      refine sx_run 900 lrC_run hr ⟨fun ρ1 w1 hx1 hr1 => ?_,trivial⟩
      refine sx_head lrC0_head hr1 fun ρ2 w2 hx2 hr2 => ?_
      have hx12 := hx1.trans hx2
      have hb2 : Below w.heap.size w w2 := hr2.chg.below (fun k hk => absurd hk (ours_ro rfl k)) (Nat.le_refl _)
      have hp2 : ρ2.perms = [] := perms_nil hr2
      have hL2 : Lls w2 w2.heap.size (.slice (some ⟨bl,ol,none⟩) l.length cL) l := by
        obtain ⟨vs,a1,a2,a3⟩ := hL.below hb2
        exact ⟨vs,a1,a2.more hb2.size,fun i u hu => by obtain ⟨xs,b1,b2⟩ := a3 i u hu; exact ⟨xs,b1,Sl.more b2 hb2.size⟩⟩
      refine ih (i + 1) (IntKind.i64.wrap (n + (((l[i].length : Int).toNat : Nat) : Int))) _ _ _ _ w2 hL2 ((hP.below hb2).more hb2.size) (hC.below hb2 hC.lt) (hb.trans (hb2.mono hb.size)) hr2.there ⟨?_,rfl,?_,rfl,rfl,hp2⟩ hn1 ?_ ?_ ?_
      · show [IntKind.i64.wrap (ρ2.ints.getD 0 0 + 1),ρ2.ints.getD 1 0,ρ2.ints.getD 2 0,ρ2.ints.getD 3 0,ρ2.ints.getD 4 0,IntKind.i64.wrap (ρ2.ints.getD 5 0 + (((ρ2.ints.getD 6 0).toNat : Nat) : Int))] = _
        rw [hx12.ints,hi0]
        show [IntKind.i64.wrap ((i : Int) + 1),_,_,_,_,_] = _
        rw [wrap_succ hi (by omega)]
        rfl
      · exact (dens_len _).trans rfl
      · dsimp only
        rw [hx12.blk (by omega),← hρ,← hρ0]
        exact ⟨rfl,fun _ => rfl,Nat.lt_of_lt_of_le hbl hb2.size⟩
      · dsimp only
        rw [hx12.blk (by omega),← hρ,← hρ0]
        exact ⟨h1.1,h1.2.1,Nat.lt_of_lt_of_le h1.2.2 hb2.size⟩
      · dsimp only
        rw [hx12.blk (by omega),← hρ,← hρ0]
        exact ⟨rfl,rfl,rfl,rfl⟩
    · have hr : Rep X s (ours ρ0 lrE_in.heap) w ρ0 lrE_in.heap lrE_in.facts 0 w := by
        refine Rep.start hth (by rw [← hρ0]; intro v hv; cases hv) (by rw [← hρ0]; rfl) ⟨⟨?_,if_ro rfl cells_none,trivial,trivial,rfl⟩,⟨?_,if_ro rfl cells_none,trivial,trivial,rfl⟩,⟨?_,if_ro rfl cells_none,trivial,trivial,rfl⟩,trivial⟩ ⟨⟨(fun e => nomatch e),(fun e => nomatch e),trivial⟩,⟨(fun e => nomatch e),trivial⟩,trivial,trivial⟩ (factsA_ok ⟨?_,?_,?_,trivial⟩) (by rw [← hρ0]; rfl)
        all_goals subst hρ0
        · exact h0.2.2
        · exact h1.2.2
        · exact hC.lt
        · exact decide_eq_true (by show n > 400; omega)
        · exact decide_eq_true (by show (i : Int) < ((l.length : Int).toNat : Int); omega)
        · exact decide_eq_false (by show ¬ n ≤ 400; omega)
      refine sx_run 900 lrE_run hr ⟨fun ρ1 w1 hx1 hr1 => ?_,trivial⟩
      have hb1 : Below w.heap.size w w1 := hr1.chg.below (fun k hk => absurd hk (ours_ro rfl k)) (Nat.le_refl _)
      exact sx_endE (v := _) lrE_0_end rfl hr1.rep (hbk w1 (hb.trans (hb1.mono hb.size)) hr1.there)
theorem replays03 {s : γ} {w : World} {k K T Mn : Int} {l : List (List Ac)} {picks : List (Int × Int)} {vL vP : Value} (hL : Lls w w.heap.size vL l) (hP : Sl w w.heap.size 2 vP picks.length (picks.flatMap pkC)) (hlm : l.length ≤ 5864062014805) (hbig : ∀ xs ∈ l,xs.length ≤ 8796093022207) :
    JdoT Try.prog X 6 #[cfg k K T Mn,vL,vP] s w (fun s' v w' => LawPost X s w s' (.back v) w') := by
  obtain ⟨AP,cP,rfl,hp1,hp2⟩ := Sl.form hP
  obtain ⟨AL,cL,rfl,_,_⟩ : ∃ AL cL,vL = Value.slice AL l.length cL ∧ l.length ≤ cL ∧ cL ≤ maxLen := by
    obtain ⟨vs,_,h,_⟩ := hL
    exact Sl.form h
  let ρ : Env := { ints := [k,K,T,Mn],xs := [.slice AL l.length cL,.slice AP picks.length cP] }
  refine sx_enterT (ρ := ρ) lr_fresh rfl fun Stop cs₀ hth hback => ?_
  have hr : Rep X s (ours ρ lrA_in.heap) w ρ lrA_in.heap lrA_in.facts 0 w := Rep.start hth (fun v hv => by cases hv) rfl trivial trivial (factsA_ok trivial) rfl
  refine sx_run 900 lrA_run hr ⟨fun ρ1 w1 hx1 hr1 => ?_,trivial⟩
  have hb1 : Below w.heap.size w w1 := hr1.chg.below (fun k hk => by obtain ⟨i,hb,hi,_⟩ := hk; cases hi) (Nat.le_refl _)
  show Fr.reach _ X Stop s cs₀ ρ1 [lrA_fr] w1
  have hCp := hr1.rep.pl 0 _ rfl rfl rfl rfl
  have hCb := hr1.rep.blk 0 _ rfl rfl
  have hCo : (ρ1.blks.getD 0 {}).o = 0 := by rw [hCb.1,hCp.1]; rfl
  have hC1 : Blk w1 (ρ1.blks.getD 0 {}).g 36 #[.int .i64 k,.int .i64 K,.int .i64 T,.int .i64 Mn] := by
    have h1 := hCb.2
    unfold Seg.whole at h1
    rw [hCp.1,hCp.2,List.append_nil,List.nil_append] at h1
    have h2 : Blk w1 (ρ1.blks.getD 0 {}).g 36 #[.int .i64 (ρ1.ints.getD 0 0),.int .i64 (ρ1.ints.getD 1 0),.int .i64 (ρ1.ints.getD 2 0),.int .i64 (ρ1.ints.getD 3 0)] := h1
    rw [hx1.ints] at h2
    exact h2
  refine sx_call (fr := lrA_fr) (callers := []) (ht := rfl) lrA_at lrA_gd lrA_call lrA_fresh hr1 (Post := fun s' r w' => Below w1.heap.size w1 w' ∧ (∀ k,k < w1.heap.size → X.oth s' k → X.oth s k) ∧ 0 < w'.heap.size ∧ r = .back (.bool true)) awake03 (fun s' v w2 hp ht2 => ?_) (fun s' ch w' hp _ => by obtain ⟨_,_,_,e⟩ := hp; cases e)
  obtain ⟨hb2,hoth,hpos,ev⟩ := hp
  cases ev
  refine reach_put (sv := .bool (.lit true)) rfl ?_
  rw [lrA_put]
  have hb02 : Below w.heap.size w w2 := hb1.trans (hb2.mono hb1.size)
  have hL2 : Lls w2 w2.heap.size (.slice AL l.length cL) l := by
    obtain ⟨vs,a1,a2,a3⟩ := hL.below hb02
    exact ⟨vs,a1,a2.more hb02.size,fun i u hu => by obtain ⟨xs,b1,b2⟩ := a3 i u hu; exact ⟨xs,b1,Sl.more b2 hb02.size⟩⟩
  have hP2 : Sl w2 w2.heap.size 2 (.slice AP picks.length cP) picks.length (picks.flatMap pkC) := (hP.below hb02).more hb02.size
  have hC2 := hC1.below hb2 hC1.lt
  have hqC : Whl (ρ1.blks.getD 0 {}) (ρ1.blks.getD 0 {}).g := ⟨rfl,hCo,hCp⟩
  have hps : ρ1.perms = [] := perms_nil hr1
  have hi1 : ρ1.ints = [k,K,T,Mn] := hx1.ints
  have hxs1 : ρ1.xs = [.slice AL l.length cL,.slice AP picks.length cP] := hx1.xs
  generalize hqe : ρ1.blks.getD 0 {} = qC at hC1 hC2 hqC hCo hCp hCb
  obtain ⟨q0,e0⟩ : ∃ q,q = segP AL l.length := ⟨_,rfl⟩
  obtain ⟨q1,e1⟩ : ∃ q,q = segP AP picks.length := ⟨_,rfl⟩
  have h0 : q0.adr = AL ∧ (0 < l.length → q0.g = (segOf AL).g) ∧ q0.g < w2.heap.size := by
    rw [e0]
    refine ⟨segP_adr _ _,fun h => segP_pos _ h,?_⟩
    obtain ⟨vs,_,h,_⟩ := hL2
    exact segP_lt h hpos
  have h1 : q1.adr = AP ∧ (0 < picks.length → q1.g = (segOf AP).g) ∧ q1.g < w2.heap.size := by
    rw [e1]
    exact ⟨segP_adr _ _,fun h => segP_pos _ h,segP_lt hP2 hpos⟩
  clear e0 e1
  let ρ' : Env := { ints := [0,(l.length : Int),(cL : Int),(picks.length : Int),(cP : Int),k,K,T,Mn],xs := ρ1.xs,blks := [q0,q1,qC] }
  have hbk2 : ∀ s'' v w',LawPost X s' w2 s'' (.back v) w' → X.there s'' w' → EndsT Try.prog X Stop 6 cs₀ s'' v w' := fun s'' v w' ⟨a1,a2,a3⟩ ht => hback s'' v w' ⟨hb02.trans (a1.mono hb02.size),fun k hk ho => hoth k (Nat.lt_of_lt_of_le hk hb1.size) (a2 k (Nat.lt_of_lt_of_le hk hb02.size) ho),a3⟩ ht
  refine reach_conv (frs' := lrB_in.frs) (ρ' := ρ') (conv_one (fr' := lrB_in.frs.headD default) (fr := lrA_frb) rfl rfl hps.symm ?_) ?_
  · show dens ρ' (lrB_in.frs.headD default).tmps = dens ρ1 lrA_frb.tmps
    have b0 : (ρ'.blks.getD 0 {}).adr = AL := h0.1
    have b1 : (ρ'.blks.getD 1 {}).adr = AP := h1.1
    simp only [lrB_in,lrA_frb,List.headD_cons,dens,SV.den,BA.den,CP.den,E.den,b0,b1,hi1,hxs1,hqe]
    rfl
  have hr2 : Rep X s' (ours ρ' lrB_in.heap) w2 ρ' lrB_in.heap lrB_in.facts 0 w2 := by
    refine Rep.start ht2 (fun v hv => by cases hv) rfl ⟨⟨h0.2.2,if_ro rfl cells_none,trivial,trivial,rfl⟩,⟨h1.2.2,if_ro rfl cells_none,trivial,trivial,rfl⟩,⟨?_,if_ro rfl cells_none,trivial,trivial,rfl⟩,trivial⟩ ⟨⟨(fun e => nomatch e),(fun e => nomatch e),trivial⟩,⟨(fun e => nomatch e),trivial⟩,trivial,trivial⟩ (factsA_ok trivial) rfl
    exact hC2.lt
  refine sx_run 900 lrB_run hr2 ⟨fun ρ3 w3 hx3 hr3 => ?_,trivial⟩
  refine sx_head lrB0_head hr3 fun ρ4 w4 hx4 hr4 => ?_
  have hx24 := hx3.trans hx4
  have hb4 : Below w2.heap.size w2 w4 := hr4.chg.below (fun k hk => absurd hk (ours_ro rfl k)) (Nat.le_refl _)
  have hp4 : ρ4.perms = [] := perms_nil hr4
  have hL4 : Lls w4 w4.heap.size (.slice AL l.length cL) l := by
    obtain ⟨vs,a1,a2,a3⟩ := hL2.below hb4
    exact ⟨vs,a1,a2.more hb4.size,fun i u hu => by obtain ⟨xs,b1,b2⟩ := a3 i u hu; exact ⟨xs,b1,Sl.more b2 hb4.size⟩⟩
  refine lrGuard (W := w2) hlm hbig (Nat.le_trans hp1 hp2) hbk2 l.length 0 (((l.length : Int).toNat : Nat) : Int) _ _ _ _ w4 hL4 ((hP2.below hb4).more hb4.size) (hC2.below hb4 hC2.lt) hb4 hr4.there ⟨?_,rfl,?_,rfl,rfl,hp4⟩ (Nat.sub_zero _) ?_ ?_ ?_
  · show [0,ρ4.ints.getD 1 0,ρ4.ints.getD 2 0,ρ4.ints.getD 3 0,ρ4.ints.getD 4 0,(((ρ4.ints.getD 1 0).toNat : Nat) : Int)] = _
    rw [hx24.ints]
    rfl
  · exact (dens_len _).trans rfl
  · dsimp only
    rw [hx24.blk (show 0 < 3 by decide)]
    exact ⟨h0.1,h0.2.1,Nat.lt_of_lt_of_le h0.2.2 hb4.size⟩
  · dsimp only
    rw [hx24.blk (show 1 < 3 by decide)]
    exact ⟨h1.1,h1.2.1,Nat.lt_of_lt_of_le h1.2.2 hb4.size⟩
  · dsimp only
    rw [hx24.blk (show 2 < 3 by decide)]
    exact hqC
end
end Go.Proofs.Ytonhfgjofgbcdaa.Dr
