/- A part of this claim's proof. -/
import Derived.Test.YtonhfgjofgbcdaaRws29
set_option linter.unusedSimpArgs false
set_option linter.unusedVariables false
set_option maxRecDepth 20000
namespace Go.Proofs.Ytonhfgjofgbcdaa.Dr
section
open Go Go.Conc Go.RowKit Jay Pl
open Sx
noncomputable def yh9 : List SV:=[.agg [.sl (.blk 0) (.v 0) (.e (.v 1)),.sl (.blk 1) (.v 2) (.e (.v 3)),Lu 4,Lu 5,.y 0,.y 1,Lu 6,Lu 7,.y 2,.y 3,.y 4],.agg [.sl (.blk 2) (.v 8) (.e (.v 9)),.sl (.blk 3) (.v 10) (.e (.v 11)),Lu 12,Lu 13,.y 5,.y 6,Lu 14,Lu 15,.y 7,.y 8,.y 9]]
noncomputable def yho : List SV:=[.bool (.cmp .neq (.tn (.v 2)) (.tn (.v 10)))]
noncomputable def yhb : List SV:=[u,.ptr 4 0,.sl (.blk 0) (.v 0) (.e (.v 1)),.int .i64 (.tn (.v 0)),.ptr 5 0,.sl (.blk 2) (.v 8) (.e (.v 9)),.int .i64 (.tn (.v 8)),.bool (.cmp .neq (.tn (.v 0)) (.tn (.v 8))),.bool (.cmp .neq (.tn (.v 0)) (.tn (.v 8))),.ptr 4 1,.sl (.blk 1) (.v 2) (.e (.v 3)),.int .i64 (.tn (.v 2)),.ptr 5 1,.sl (.blk 3) (.v 10) (.e (.v 11)),.int .i64 (.tn (.v 10))] ++ yho ++ yho ++ yho ++ [.ptr 4 2,.agg [Lu 4,Lu 5,.y 0,.y 1,Lu 6,Lu 7,.y 2,.y 3,.y 4],.ptr 5 2,.agg [Lu 12,Lu 13,.y 5,.y 6,Lu 14,Lu 15,.y 7,.y 8,.y 9]]
noncomputable def yh7 : List SV:=yh9 ++ [.ptr 4 0,.ptr 5 0,.bool (.lit false),u] ++ yhb
noncomputable def yh8 : List HB:=[⟨52,[.sl (.blk 2) (.v 1) (.e (.v 2)),.sl (.blk 3) (.v 3) (.e (.v 4))],false,none,none,none⟩,⟨52,[.sl (.blk 4) (.v 5) (.e (.v 6)),.sl (.blk 5) (.v 7) (.e (.v 8))],false,none,none,none⟩]
noncomputable def yha : List HB:=[⟨63,[],false,none,none,none⟩,⟨65,[],false,none,none,none⟩,⟨63,[],false,none,none,none⟩,⟨65,[],false,none,none,none⟩]
noncomputable def yhc : List HB:=yha ++ [⟨52,[.sl (.blk 0) (.v 0) (.e (.v 1)),.sl (.blk 1) (.v 2) (.e (.v 3)),Lu 4,Lu 5,.y 0,.y 1,Lu 6,Lu 7,.y 2,.y 3,.y 4],true,none,none,none⟩,⟨52,[.sl (.blk 2) (.v 8) (.e (.v 9)),.sl (.blk 3) (.v 10) (.e (.v 11)),Lu 12,Lu 13,.y 5,.y 6,Lu 14,Lu 15,.y 7,.y 8,.y 9],true,none,none,none⟩]
noncomputable def yhd : List HB:=[⟨63,[],false,none,none,none⟩,⟨65,[Li 9,Li 10,.int .u32 (.v 11),Li 12,Li 13,Li 14,.int .u32 (.v 15)],false,some ((.v 0),7),none,none⟩]
noncomputable def yhe : List HB:=[⟨63,[Li 9,Li 10,Li 11,Li 12,Lu 13,Lu 14,Lu 15,.bool (.v 0)],false,some ((.v 0),8),none,none⟩,⟨65,[],false,none,none,none⟩]
noncomputable def yhf : List (B × Bool):=[((.and (.cmp .eql (.v 9) (.v 9)) (.and (.and (.cmp .eql (.v 10) (.v 10)) (.and (.cmp .eql (.v 11) (.v 11)) (.and (.cmp .eql (.v 12) (.v 12)) (.and (.cmp .eql (.v 13) (.v 13)) (.cmp .eql (.v 14) (.v 14)))))) (.and (.cmp .eql (.v 15) (.v 15)) (.eq (.v 0) (.v 0))))),true),((.cmp .lss (.v 0) (.tn (.v 1))),true),((.cmp .lss (.v 0) (.tn (.v 5))),true),((.cmp .leq (.lit 0) (.v 0)),true)]
noncomputable def yhg : List (B × Bool):=[((.and (.cmp .eql (.v 9) (.v 9)) (.and (.cmp .eql (.v 10) (.v 10)) (.and (.cmp .eql (.v 11) (.v 11)) (.and (.cmp .eql (.v 12) (.v 12)) (.and (.cmp .eql (.v 13) (.v 13)) (.and (.cmp .eql (.v 14) (.v 14)) (.cmp .eql (.v 15) (.v 15)))))))),true),((.cmp .lss (.v 0) (.tn (.v 3))),true),((.cmp .lss (.v 0) (.tn (.v 7))),true),((.cmp .leq (.lit 0) (.v 0)),true)]
noncomputable def yhl : List SV:=[.x 0,.x 1,.ptr 0 0,.ptr 1 0,.x 2]
noncomputable def yhh : List Fr:=[⟨22,yhl ++ [.x 3,Li 0] ++ xr 4 60,[.code (.at_ [0,0,1,0,3]),.inLoop (.at_ [0,0,1,0,3]),.inBlock 2,.code (.at_ [4])]⟩]
noncomputable def yhi : List Fr:=[⟨22,yhl ++ [Li 0] ++ xr 3 61,[.code (.at_ [0,0,1,0,2]),.inLoop (.at_ [0,0,1,0,2]),.inBlock 0,.code (.at_ [3])]⟩]
noncomputable def yhj : List (B × Bool):=[((.cmp .neq (.tn (.v 2)) (.tn (.v 10))),false),((.cmp .neq (.tn (.v 0)) (.tn (.v 8))),false)]
noncomputable def yhk : List SV:=xr 4 42 ++ [Li 0,.ptr 0 1,.sl (.blk 3) (.v 3) (.e (.v 4)),.int .i64 (.tn (.v 3)),.bool (.cmp .lss (.v 0) (.tn (.v 3)))]
noncomputable def yhm : List SV:=[Li 0,.ptr 0 0,.sl (.blk 2) (.v 1) (.e (.v 2)),.int .i64 (.tn (.v 1)),.bool (.cmp .lss (.v 0) (.tn (.v 1)))]
noncomputable def yhn : List SV:=[.int .i64 (.ar .add .i64 (.v 0) (.lit 1))]
noncomputable def yhp : List SV:=[.agg [Li 9,Li 10,.int .u32 (.v 11),Li 12,Li 13,Li 14,.int .u32 (.v 15)]]
noncomputable def sm_args : List SV:=yh9
noncomputable def sm_fr : Fr:=⟨22,yh9 ++ ur 65,[.code (.at_ [])]⟩
theorem sm_fresh : fresh Try.prog 22 sm_args = some sm_fr:=by kernel_rfl
noncomputable def smA_in : St:=⟨[⟨22,yh9 ++ ur 65,[.code (.at_ [])]⟩],yha,yhj,0⟩
noncomputable def smA_0 : St:=⟨[⟨22,yh7 ++ ur 39,[.inRegion [0,0,1] [21,22,23],.code (.at_ [1,0,1]),.code (.at_ [2])]⟩],yhc,yhj,0⟩
theorem smA_run : run Try.prog [] [11] true 900 smA_in = [smA_0]:=by kernel_rfl
noncomputable def smA_op : Oper:=(za1 Try.prog 22 [0,0,1]).getD 21 default
theorem smA_at : (za1 Try.prog 22 [0,0,1])[21]? = some smA_op:=by kernel_rfl
noncomputable def smA_fr : Fr:=⟨22,yh7 ++ ur 39,[.inRegion [0,0,1] [21,22,23],.code (.at_ [1,0,1]),.code (.at_ [2])]⟩
theorem smA_gd : guardOf smA_0.facts (za1 Try.prog 22 [0,0,1]) smA_fr.tmps smA_op = .yes:=by kernel_rfl
noncomputable def zhp : List SV:=[.agg [Lu 4,Lu 5,.y 0,.y 1,Lu 6,Lu 7,.y 2,.y 3,.y 4],.agg [Lu 12,Lu 13,.y 5,.y 6,Lu 14,Lu 15,.y 7,.y 8,.y 9]]
theorem smA_call : zc1 Try.prog smA_fr.tmps smA_op.op = some (11,zhp):=by kernel_rfl
theorem smA_fresh : (fresh Try.prog 11 zhp).isSome = true:=by kernel_rfl
noncomputable def smA_frb : Fr:=⟨22,yh7 ++ [.bool (.lit true)] ++ ur 38,[.inRegion [0,0,1] [22,23],.code (.at_ [1,0,1]),.code (.at_ [2])]⟩
theorem smA_put : Fr.put smA_fr smA_op.dst (.bool (.lit true)) ([.inRegion [0,0,1] [22,23],.code (.at_ [1,0,1]),.code (.at_ [2])]) = smA_frb:=by kernel_rfl
noncomputable def smB_in : St:=⟨[⟨22,yh7 ++ [.bool (.lit true)] ++ ur 38,[.inRegion [0,0,1] [22,23],.code (.at_ [1,0,1]),.code (.at_ [2])]⟩],yhc,yhj,0⟩
noncomputable def smB_0 : St:=⟨[⟨22,yh9 ++ [.ptr 4 0,.ptr 5 0,.bool (.lit false),.int .i64 (.lit 0)] ++ yhb ++ [.bool (.lit true),.bool (.lit false),.bool (.lit false)] ++ ur 36,[.code (.at_ [0,1,0,2]),.inBlock 0,.code (.at_ [3])]⟩],yhc,yhj,0⟩
theorem smB_run : run Try.prog [] [11] true 900 smB_in = [smB_0]:=by kernel_rfl
noncomputable def sm1 : St:=⟨yhi,[],[],0⟩
noncomputable def smB0_sub : Sub:=⟨[(.lit 0)],[],[.agg [.sl (.blk 0) (.v 0) (.e (.v 1)),.sl (.blk 1) (.v 2) (.e (.v 3)),.int .u64 (.v 4),.int .u64 (.v 5),.y 0,.y 1,.int .u64 (.v 6),.int .u64 (.v 7),.y 2,.y 3,.y 4],.agg [.sl (.blk 2) (.v 8) (.e (.v 9)),.sl (.blk 3) (.v 10) (.e (.v 11)),.int .u64 (.v 12),.int .u64 (.v 13),.y 5,.y 6,.int .u64 (.v 14),.int .u64 (.v 15),.y 7,.y 8,.y 9],.bool (.lit false),u,.ptr 4 0,.sl (.blk 0) (.v 0) (.e (.v 1)),.int .i64 (.tn (.v 0)),.ptr 5 0,.sl (.blk 2) (.v 8) (.e (.v 9)),.int .i64 (.tn (.v 8)),.bool (.cmp .neq (.tn (.v 0)) (.tn (.v 8))),.bool (.cmp .neq (.tn (.v 0)) (.tn (.v 8))),.ptr 4 1,.sl (.blk 1) (.v 2) (.e (.v 3)),.int .i64 (.tn (.v 2)),.ptr 5 1,.sl (.blk 3) (.v 10) (.e (.v 11)),.int .i64 (.tn (.v 10)),.bool (.cmp .neq (.tn (.v 2)) (.tn (.v 10))),.bool (.cmp .neq (.tn (.v 2)) (.tn (.v 10))),.bool (.cmp .neq (.tn (.v 2)) (.tn (.v 10))),.ptr 4 2,.agg [.int .u64 (.v 4),.int .u64 (.v 5),.y 0,.y 1,.int .u64 (.v 6),.int .u64 (.v 7),.y 2,.y 3,.y 4],.ptr 5 2,.agg [.int .u64 (.v 12),.int .u64 (.v 13),.y 5,.y 6,.int .u64 (.v 14),.int .u64 (.v 15),.y 7,.y 8,.y 9],.bool (.lit true),.bool (.lit false),.bool (.lit false),u,u,u,u,u,u,u,u,u,u,u,u,u,u,u,u,u,u,u,u,u,u,u,u,u,u,u,u,u,u,u,u,u,u,u,u],[],[4,5]⟩
theorem smB0_head : zda Try.prog smB0_sub smB_0 sm1:=⟨by kernel_rfl,by kernel_rfl⟩
noncomputable def smC_in : St:=⟨yhi,yh8 ++ yhe ++ yhe,yhf,0⟩
noncomputable def smC_0 : St:=⟨[⟨22,yhl ++ yhn ++ xr 3 25 ++ yhm ++ [Li 0] ++ yhn ++ [.ptr 0 0,.sl (.blk 2) (.v 1) (.e (.v 2)),Li 0,.ptr 2 0,.agg [Li 9,Li 10,Li 11,Li 12,Lu 13,Lu 14,Lu 15,.bool (.v 0)],.ptr 1 0,.sl (.blk 4) (.v 5) (.e (.v 6)),Li 0,.ptr 4 0,.agg [Li 9,Li 10,Li 11,Li 12,Lu 13,Lu 14,Lu 15,.bool (.v 0)],.bool (.no (.and (.cmp .eql (.v 9) (.v 9)) (.and (.and (.cmp .eql (.v 10) (.v 10)) (.and (.cmp .eql (.v 11) (.v 11)) (.and (.cmp .eql (.v 12) (.v 12)) (.and (.cmp .eql (.v 13) (.v 13)) (.cmp .eql (.v 14) (.v 14)))))) (.and (.cmp .eql (.v 15) (.v 15)) (.eq (.v 0) (.v 0))))))] ++ xr 46 18,[.inLoop (.at_ [0,0,1,0,2]),.inBlock 0,.code (.at_ [3])]⟩],yh8 ++ yhe ++ yhe,yhf,0⟩
theorem smC_run : run Try.prog [] [11] true 900 smC_in = [smC_0]:=by kernel_rfl
noncomputable def smC0_sub : Sub:=⟨[(.ar .add .i64 (.v 0) (.lit 1))],[],[.x 0,.x 1,.x 2,.x 3,.x 4,.x 5,.x 6,.x 7,.x 8,.x 9,.x 10,.x 11,.x 12,.x 13,.x 14,.x 15,.x 16,.x 17,.x 18,.x 19,.x 20,.x 21,.x 22,.x 23,.x 24,.x 25,.x 26,.x 27,.int .i64 (.v 0),.ptr 0 0,.sl (.blk 2) (.v 1) (.e (.v 2)),.int .i64 (.tn (.v 1)),.bool (.cmp .lss (.v 0) (.tn (.v 1))),.int .i64 (.v 0),.int .i64 (.ar .add .i64 (.v 0) (.lit 1)),.ptr 0 0,.sl (.blk 2) (.v 1) (.e (.v 2)),.int .i64 (.v 0),.ptr 2 0,.agg [.int .i64 (.v 9),.int .i64 (.v 10),.int .i64 (.v 11),.int .i64 (.v 12),.int .u64 (.v 13),.int .u64 (.v 14),.int .u64 (.v 15),.bool (.v 0)],.ptr 1 0,.sl (.blk 4) (.v 5) (.e (.v 6)),.int .i64 (.v 0),.ptr 4 0,.agg [.int .i64 (.v 9),.int .i64 (.v 10),.int .i64 (.v 11),.int .i64 (.v 12),.int .u64 (.v 13),.int .u64 (.v 14),.int .u64 (.v 15),.bool (.v 0)],.bool (.no (.and (.cmp .eql (.v 9) (.v 9)) (.and (.and (.cmp .eql (.v 10) (.v 10)) (.and (.cmp .eql (.v 11) (.v 11)) (.and (.cmp .eql (.v 12) (.v 12)) (.and (.cmp .eql (.v 13) (.v 13)) (.cmp .eql (.v 14) (.v 14)))))) (.and (.cmp .eql (.v 15) (.v 15)) (.eq (.v 0) (.v 0)))))),.x 46,.x 47,.x 48,.x 49,.x 50,.x 51,.x 52,.x 53,.x 54,.x 55,.x 56,.x 57,.x 58,.x 59,.x 60,.x 61,.x 62,.x 63],[],[0,1]⟩
theorem smC0_head : zda Try.prog smC0_sub smC_0 sm1:=⟨by kernel_rfl,by kernel_rfl⟩
noncomputable def smD_in : St:=⟨yhi,yh8 ++ yha,[((.cmp .lss (.v 0) (.tn (.v 1))),false)],0⟩
noncomputable def smD_0 : St:=⟨[⟨22,yhl ++ [Li 0,.int .i64 (.lit 0)] ++ xr 4 24 ++ yhm ++ xr 33 31,[.code (.at_ [0,1,0,3]),.inBlock 2,.code (.at_ [4])]⟩],yh8 ++ yha,[((.cmp .lss (.v 0) (.tn (.v 1))),false)],0⟩
theorem smD_run : run Try.prog [] [11] true 900 smD_in = [smD_0]:=by kernel_rfl
noncomputable def sm2 : St:=⟨yhh,[],[],0⟩
noncomputable def smD0_sub : Sub:=⟨[(.lit 0)],[],[.x 0,.x 1,.x 2,.int .i64 (.v 0),.x 4,.x 5,.x 6,.x 7,.x 8,.x 9,.x 10,.x 11,.x 12,.x 13,.x 14,.x 15,.x 16,.x 17,.x 18,.x 19,.x 20,.x 21,.x 22,.x 23,.x 24,.x 25,.x 26,.x 27,.int .i64 (.v 0),.ptr 0 0,.sl (.blk 2) (.v 1) (.e (.v 2)),.int .i64 (.tn (.v 1)),.bool (.cmp .lss (.v 0) (.tn (.v 1))),.x 33,.x 34,.x 35,.x 36,.x 37,.x 38,.x 39,.x 40,.x 41,.x 42,.x 43,.x 44,.x 45,.x 46,.x 47,.x 48,.x 49,.x 50,.x 51,.x 52,.x 53,.x 54,.x 55,.x 56,.x 57,.x 58,.x 59,.x 60,.x 61,.x 62,.x 63],[],[0,1]⟩
theorem smD0_head : zda Try.prog smD0_sub smD_0 sm2:=⟨by kernel_rfl,by kernel_rfl⟩
noncomputable def smE_in : St:=⟨yhh,yh8 ++ yhd ++ yhd,yhg,0⟩
noncomputable def smE_0 : St:=⟨[⟨22,yhl ++ [.x 3] ++ yhn ++ yhk ++ [Li 0] ++ yhn ++ [.ptr 0 1,.sl (.blk 3) (.v 3) (.e (.v 4)),Li 0,.ptr 3 0] ++ yhp ++ [.ptr 1 1,.sl (.blk 5) (.v 7) (.e (.v 8)),Li 0,.ptr 5 0] ++ yhp ++ [.bool (.no (.and (.cmp .eql (.v 9) (.v 9)) (.and (.cmp .eql (.v 10) (.v 10)) (.and (.cmp .eql (.v 11) (.v 11)) (.and (.cmp .eql (.v 12) (.v 12)) (.and (.cmp .eql (.v 13) (.v 13)) (.and (.cmp .eql (.v 14) (.v 14)) (.cmp .eql (.v 15) (.v 15)))))))))],[.inLoop (.at_ [0,0,1,0,3]),.inBlock 2,.code (.at_ [4])]⟩],yh8 ++ yhd ++ yhd,yhg,0⟩
theorem smE_run : run Try.prog [] [11] true 900 smE_in = [smE_0]:=by kernel_rfl
noncomputable def smE0_sub : Sub:=⟨[(.ar .add .i64 (.v 0) (.lit 1))],[],[.x 0,.x 1,.x 2,.x 3,.x 4,.x 5,.x 6,.x 7,.x 8,.x 9,.x 10,.x 11,.x 12,.x 13,.x 14,.x 15,.x 16,.x 17,.x 18,.x 19,.x 20,.x 21,.x 22,.x 23,.x 24,.x 25,.x 26,.x 27,.x 28,.x 29,.x 30,.x 31,.x 32,.x 33,.x 34,.x 35,.x 36,.x 37,.x 38,.x 39,.x 40,.x 41,.x 42,.x 43,.x 44,.x 45,.int .i64 (.v 0),.ptr 0 1,.sl (.blk 3) (.v 3) (.e (.v 4)),.int .i64 (.tn (.v 3)),.bool (.cmp .lss (.v 0) (.tn (.v 3))),.int .i64 (.v 0),.int .i64 (.ar .add .i64 (.v 0) (.lit 1)),.ptr 0 1,.sl (.blk 3) (.v 3) (.e (.v 4)),.int .i64 (.v 0),.ptr 3 0,.agg [.int .i64 (.v 9),.int .i64 (.v 10),.int .u32 (.v 11),.int .i64 (.v 12),.int .i64 (.v 13),.int .i64 (.v 14),.int .u32 (.v 15)],.ptr 1 1,.sl (.blk 5) (.v 7) (.e (.v 8)),.int .i64 (.v 0),.ptr 5 0,.agg [.int .i64 (.v 9),.int .i64 (.v 10),.int .u32 (.v 11),.int .i64 (.v 12),.int .i64 (.v 13),.int .i64 (.v 14),.int .u32 (.v 15)],.bool (.no (.and (.cmp .eql (.v 9) (.v 9)) (.and (.cmp .eql (.v 10) (.v 10)) (.and (.cmp .eql (.v 11) (.v 11)) (.and (.cmp .eql (.v 12) (.v 12)) (.and (.cmp .eql (.v 13) (.v 13)) (.and (.cmp .eql (.v 14) (.v 14)) (.cmp .eql (.v 15) (.v 15)))))))))],[],[0,1]⟩
theorem smE0_head : zda Try.prog smE0_sub smE_0 sm2:=⟨by kernel_rfl,by kernel_rfl⟩
noncomputable def smF_in : St:=⟨yhh,yh8 ++ yha,[((.cmp .lss (.v 0) (.tn (.v 3))),false)],0⟩
noncomputable def smF_0 : St:=⟨[⟨22,[.x 0,.x 1,.ptr 0 0,.ptr 1 0,.bool (.lit true),.x 3,Li 0] ++ yhk ++ xr 51 13,[.code (.at_ [5])]⟩],yh8 ++ yha,[((.cmp .lss (.v 0) (.tn (.v 3))),false)],0⟩
theorem smF_0_end : zc6 Try.prog smF_0 = some (.bool (.lit true)):=by kernel_rfl
theorem smF_run : run Try.prog [] [11] true 900 smF_in = [smF_0]:=by kernel_rfl
end
section
open Go Go.Conc Go.RowKit Jay Pl
open St Sx Rf
section
variable {γ : Type} {X : zad γ} {Stop : γ -> Frame -> List Frame -> World -> Prop} {cs₀ : List Frame}
structure SmM (w : World) (gA gB : Nat) (S1 S2 C1 C2 : Option Addr) (c1 c2 d1 d2 : Nat) (S : List Rp.Sp) (C : List Rc) : Prop where
 T1 : ∃ t arr,Blk w gA t arr /\ arr[0]? = some (Value.slice S1 S.length c1) /\ arr[1]? = some (Value.slice C1 C.length d1)
 T2 : ∃ t arr,Blk w gB t arr /\ arr[0]? = some (Value.slice S2 S.length c2) /\ arr[1]? = some (Value.slice C2 C.length d2)
 s1 : Rp.Sps w w.heap.size (.slice S1 S.length c1) S
 s2 : Rp.Sps w w.heap.size (.slice S2 S.length c2) S
 k1 : Sl w w.heap.size 7 (.slice C1 C.length d1) C.length (C.flatMap Rc.cells)
 k2 : Sl w w.heap.size 7 (.slice C2 C.length d2) C.length (C.flatMap Rc.cells)
theorem SmM.below {w w' : World} {gA gB : Nat} {S1 S2 C1 C2 : Option Addr} {c1 c2 d1 d2 : Nat} {S : List Rp.Sp} {C : List Rc} (h : SmM w gA gB S1 S2 C1 C2 c1 c2 d1 d2 S C) (hb : Below w.heap.size w w') : SmM w' gA gB S1 S2 C1 C2 c1 c2 d1 d2 S C:=by
 obtain ⟨⟨t,arr,h1,h2,h3⟩,⟨t',arr',h1',h2',h3'⟩,h4,h5,h6,h7⟩:=h
 exact ⟨⟨t,arr,h1.below hb h1.lt,h2,h3⟩,⟨t',arr',h1'.below hb h1'.lt,h2',h3'⟩,(Sl.below h4 hb).more hb.size,(Sl.below h5 hb).more hb.size,(h6.below hb).more hb.size,(h7.below hb).more hb.size⟩
theorem zfp {α : Type} {f : α -> List Value} {n : Nat} (hf : ∀ x,(f x).length = n) {w : World} {b o : Nat} {l : List α} (hat : ∀ j u,(l.flatMap f)[j]? = some u -> w.cell? ⟨b,o + j,none⟩ = some u) {i : Nat} (hi : i < l.length) : ∀ j u,(f l[i])[j]? = some u -> w.cell? ⟨b,o + i * n + j,none⟩ = some u:=fun j u hu=>by
 have hj : j < n:=by rw [<- hf l[i]]; exact (List.getElem?_eq_some_iff.1 hu).1
 rw [Nat.add_assoc]
 refine hat _ _ ?_
 rw [zls hf l i j hi hj]
 exact hu
section
variable {s : γ} {gA gB : Nat} {S1 S2 C1 C2 : Option Addr} {c1 c2 d1 d2 : Nat} {S : List Rp.Sp} {C : List Rc} {W : World} {c : Frame} {cs : List Frame}
theorem smCalls (hback : ∀ w',Below W.heap.size W w' -> X.there s w' -> Jay.Reach Try.prog X Stop s (c.finish (.bool true)) cs w') (hcm : C.length <= maxLen) : ∀ (m i : Nat) (Y : Env) (q0 q1 : Seg) (w : World),C.length - i = m -> SmM w gA gB S1 S2 C1 C2 c1 c2 d1 d2 S C -> Below W.heap.size W w -> X.there s w -> Hd Y [(i : Int)] 64 [q0,q1] -> Whl q0 gA -> Whl q1 gB -> Fr.reach Try.prog X Stop s (c :: cs) Y sm2.frs w:=by
 intro m
 induction m with
 | zero=>
  intro i Y q0 q1 w hn hm hb hth hd h0 h1
  obtain ⟨xs,hxs,rfl⟩:=hd.of
  obtain ⟨g0,b0,o0,pre0,post0,cap0,ad0⟩:=q0
  obtain ⟨rfl,rfl,rfl,rfl⟩ : g0 = _ /\ o0 = _ /\ pre0 = _ /\ post0 = _:=h0
  obtain ⟨g1,b1,o1,pre1,post1,cap1,ad1⟩:=q1
  obtain ⟨rfl,rfl,rfl,rfl⟩ : g1 = _ /\ o1 = _ /\ pre1 = _ /\ post1 = _:=h1
  obtain ⟨⟨t,arr,hT,hT0,hT1⟩,⟨t',arr',hU,hU0,hU1⟩,hs1,hs2,hk1,hk2⟩:=hm
  generalize hY0 : (⟨[(i : Int)],[],xs,[],[⟨g0,b0,0,[],[],cap0,ad0⟩,⟨g1,b1,0,[],[],cap1,ad1⟩],[]⟩ : Env) = Y0
  have hl0 : Y0.lens = ⟨1,0,64,0,2⟩:=by rw [<- hY0]; simp [Env.lens,hxs]
  refine zak (L:=⟨1,0,64,0,2⟩) (ai:=[(S.length : Int),(c1 : Int),(C.length : Int),(d1 : Int),(S.length : Int),(c2 : Int),(C.length : Int),(d2 : Int)]) (ab:=[]) (ax:=[]) (ay:=[]) (ak:=[⟨g0,0,0,[],[],0,some S1⟩,⟨g0,0,0,[],[],0,some C1⟩,⟨g0,0,0,[],[],0,some S2⟩,⟨g0,0,0,[],[],0,some C2⟩]) hl0 (by kernel_rfl) ?_
  generalize hY : Env.grow _ _ _ _ _ _ = Y
  have hi0 : Y.ints = [(i : Int),(S.length : Int),(c1 : Int),(C.length : Int),(d1 : Int),(S.length : Int),(c2 : Int),(C.length : Int),(d2 : Int)]:=by rw [<- hY,<- hY0]; rfl
  have hbl : Y.blks.length = 6:=by rw [<- hY,<- hY0]; rfl
  refine zaa 900 smF_run (Rep.start hth (by rw [<- hY,<- hY0]; intro v hv; cases hv) (by rw [<- hY,<- hY0]; rfl) ⟨⟨?_,zb8 rfl ?_,trivial,trivial,rfl⟩,⟨?_,zb8 rfl ?_,trivial,trivial,rfl⟩,kn ?_,kn ?_,kn ?_,kn ?_,trivial⟩ (nd_ro rfl) (za5 ⟨?_,trivial⟩) (by rw [<- hY,<- hY0]; rfl)) ⟨fun Y1 w1 hx1 hr1=>?_,trivial⟩
  all_goals try (subst hY; subst hY0)
  ·exact hT.lt
  ·exact zdi hT hT0 hT1
  ·exact hU.lt
  ·exact zdi hU hU0 hU1
  ·exact hT.lt
  ·exact hT.lt
  ·exact hT.lt
  ·exact hT.lt
  ·exact decide_eq_false (by show ¬ (i : Int) < ((C.length : Int).toNat : Int); omega)
  ·have hb1 : Below w.heap.size w w1:=hr1.chg.below (fun k hk=>absurd hk (zah rfl k)) (Nat.le_refl _)
   exact zbx (v:=_) smF_0_end hr1.rep (hback w1 (hb.trans (hb1.mono hb.size)) hr1.there)
 | succ m ih=>
  intro i Y q0 q1 w hn hm hb hth hd h0 h1
  have hi : i < C.length:=by omega
  have h0':=h0
  have h1':=h1
  obtain ⟨xs,hxs,rfl⟩:=hd.of
  obtain ⟨g0,b0,o0,pre0,post0,cap0,ad0⟩:=q0
  obtain ⟨rfl,rfl,rfl,rfl⟩ : g0 = _ /\ o0 = _ /\ pre0 = _ /\ post0 = _:=h0
  obtain ⟨g1,b1,o1,pre1,post1,cap1,ad1⟩:=q1
  obtain ⟨rfl,rfl,rfl,rfl⟩ : g1 = _ /\ o1 = _ /\ pre1 = _ /\ post1 = _:=h1
  have hm0:=hm
  obtain ⟨⟨t,arr,hT,hT0,hT1⟩,⟨t',arr',hU,hU0,hU1⟩,hs1,hs2,hk1,hk2⟩:=hm
  obtain ⟨e1,o1,f1,E1,he1,_,_,hat1⟩:=Sl.row hk1 (by omega)
  obtain ⟨e2,o2,f2,E2,he2,_,_,hat2⟩:=Sl.row hk2 (by omega)
  cases E1
  cases E2
  have cel1:=zfp Rc.len hat1 hi
  have cel2:=zfp Rc.len hat2 hi
  generalize C[i] = x at cel1 cel2
  generalize hY0 : (⟨[(i : Int)],[],xs,[],[⟨g0,b0,0,[],[],cap0,ad0⟩,⟨g1,b1,0,[],[],cap1,ad1⟩],[]⟩ : Env) = Y0
  have hl0 : Y0.lens = ⟨1,0,64,0,2⟩:=by rw [<- hY0]; simp [Env.lens,hxs]
  refine zak (L:=⟨1,0,64,0,2⟩) (ai:=[(S.length : Int),(c1 : Int),(C.length : Int),(d1 : Int),(S.length : Int),(c2 : Int),(C.length : Int),(d2 : Int),x.th,x.kind,x.val,x.frm,x.to,x.code,x.out]) (ab:=[]) (ax:=[]) (ay:=[]) (ak:=[⟨g0,0,0,[],[],0,some S1⟩,⟨e1,o1,o1 + i * 7,[],[],0,none⟩,⟨g0,0,0,[],[],0,some S2⟩,⟨e2,o2,o2 + i * 7,[],[],0,none⟩]) hl0 (by kernel_rfl) ?_
  generalize hY : Env.grow _ _ _ _ _ _ = Y
  have hi0 : Y.ints = [(i : Int),(S.length : Int),(c1 : Int),(C.length : Int),(d1 : Int),(S.length : Int),(c2 : Int),(C.length : Int),(d2 : Int),x.th,x.kind,x.val,x.frm,x.to,x.code,x.out]:=by rw [<- hY,<- hY0]; rfl
  have hbl : Y.blks.length = 6:=by rw [<- hY,<- hY0]; rfl
  have hr : Rep X s (ours Y smE_in.heap) w Y smE_in.heap smE_in.facts 0 w:=by
   refine Rep.start hth (by rw [<- hY,<- hY0]; intro v hv; cases hv) (by rw [<- hY,<- hY0]; rfl) ⟨⟨?_,zb8 rfl ?_,trivial,trivial,rfl⟩,⟨?_,zb8 rfl ?_,trivial,trivial,rfl⟩,kn ?_,⟨?_,zb8 rfl ?_,⟨?_,?_⟩,trivial,rfl⟩,kn ?_,⟨?_,zb8 rfl ?_,⟨?_,?_⟩,trivial,rfl⟩,trivial⟩ (nd_ro rfl) (za5 ⟨?_,?_,?_,?_,trivial⟩) (by rw [<- hY,<- hY0]; rfl)
   all_goals subst hY; subst hY0
   ·exact hT.lt
   ·exact zdi hT hT0 hT1
   ·exact hU.lt
   ·exact zdi hU hU0 hU1
   ·exact hT.lt
   ·exact he1
   ·exact cel1
   ·rfl
   ·rfl
   ·exact hT.lt
   ·exact he2
   ·exact cel2
   ·rfl
   ·rfl
   ·simp [B.den,zlw]
   ·exact decide_eq_true (by show (i : Int) < ((C.length : Int).toNat : Int); omega)
   ·exact decide_eq_true (by show (i : Int) < ((C.length : Int).toNat : Int); omega)
   ·exact decide_eq_true (by show (0 : Int) <= (i : Int); omega)
  refine zaa 900 smE_run hr ⟨fun Y1 w1 hx1 hr1=>?_,trivial⟩
  refine zbh smE0_head hr1 fun Y2 w2 hx2 hr2=>?_
  have hx12:=hx1.trans hx2
  have hb2 : Below w.heap.size w w2:=hr2.chg.below (fun k hk=>absurd hk (zah rfl k)) (Nat.le_refl _)
  have hp2 : Y2.perms = []:=zae hr2
  refine ih (i + 1) _ _ _ w2 (by omega) (hm0.below hb2) (hb.trans (hb2.mono hb.size)) hr2.there ⟨?_,rfl,?_,rfl,rfl,hp2⟩ ?_ ?_
  ·show [IntKind.i64.wrap (Y2.ints.getD 0 0 + 1)] = _
   rw [hx12.ints,hi0]
   show [IntKind.i64.wrap ((i : Int) + 1)] = _
   rw [zbr hi hcm]
  ·exact (za8 _).trans rfl
  ·dsimp only
   rw [hx12.blk (by omega),<- hY,<- hY0]
   exact ⟨rfl,rfl,rfl,rfl⟩
  ·dsimp only
   rw [hx12.blk (by omega),<- hY,<- hY0]
   exact ⟨rfl,rfl,rfl,rfl⟩
theorem smSteps (hback : ∀ w',Below W.heap.size W w' -> X.there s w' -> Jay.Reach Try.prog X Stop s (c.finish (.bool true)) cs w') (hsm : S.length <= maxLen) (hcm : C.length <= maxLen) : ∀ (m i : Nat) (Y : Env) (q0 q1 : Seg) (w : World),S.length - i = m -> SmM w gA gB S1 S2 C1 C2 c1 c2 d1 d2 S C -> Below W.heap.size W w -> X.there s w -> Hd Y [(i : Int)] 64 [q0,q1] -> Whl q0 gA -> Whl q1 gB -> Fr.reach Try.prog X Stop s (c :: cs) Y sm1.frs w:=by
 intro m
 induction m with
 | zero=>
  intro i Y q0 q1 w hn hm hb hth hd h0 h1
  obtain ⟨xs,hxs,rfl⟩:=hd.of
  obtain ⟨g0,b0,o0,pre0,post0,cap0,ad0⟩:=q0
  obtain ⟨rfl,rfl,rfl,rfl⟩ : g0 = _ /\ o0 = _ /\ pre0 = _ /\ post0 = _:=h0
  obtain ⟨g1,b1,o1,pre1,post1,cap1,ad1⟩:=q1
  obtain ⟨rfl,rfl,rfl,rfl⟩ : g1 = _ /\ o1 = _ /\ pre1 = _ /\ post1 = _:=h1
  have hm0:=hm
  obtain ⟨⟨t,arr,hT,hT0,hT1⟩,⟨t',arr',hU,hU0,hU1⟩,hs1,hs2,hk1,hk2⟩:=hm
  generalize hY0 : (⟨[(i : Int)],[],xs,[],[⟨g0,b0,0,[],[],cap0,ad0⟩,⟨g1,b1,0,[],[],cap1,ad1⟩],[]⟩ : Env) = Y0
  have hl0 : Y0.lens = ⟨1,0,64,0,2⟩:=by rw [<- hY0]; simp [Env.lens,hxs]
  refine zak (L:=⟨1,0,64,0,2⟩) (ai:=[(S.length : Int),(c1 : Int),(C.length : Int),(d1 : Int),(S.length : Int),(c2 : Int),(C.length : Int),(d2 : Int)]) (ab:=[]) (ax:=[]) (ay:=[]) (ak:=[⟨g0,0,0,[],[],0,some S1⟩,⟨g0,0,0,[],[],0,some C1⟩,⟨g0,0,0,[],[],0,some S2⟩,⟨g0,0,0,[],[],0,some C2⟩]) hl0 (by kernel_rfl) ?_
  generalize hY : Env.grow _ _ _ _ _ _ = Y
  have hi0 : Y.ints = [(i : Int),(S.length : Int),(c1 : Int),(C.length : Int),(d1 : Int),(S.length : Int),(c2 : Int),(C.length : Int),(d2 : Int)]:=by rw [<- hY,<- hY0]; rfl
  have hbl : Y.blks.length = 6:=by rw [<- hY,<- hY0]; rfl
  have hr : Rep X s (ours Y smD_in.heap) w Y smD_in.heap smD_in.facts 0 w:=by
   refine Rep.start hth (by rw [<- hY,<- hY0]; intro v hv; cases hv) (by rw [<- hY,<- hY0]; rfl) ⟨⟨?_,zb8 rfl ?_,trivial,trivial,rfl⟩,⟨?_,zb8 rfl ?_,trivial,trivial,rfl⟩,kn ?_,kn ?_,kn ?_,kn ?_,trivial⟩ (nd_ro rfl) (za5 ⟨?_,trivial⟩) (by rw [<- hY,<- hY0]; rfl)
   all_goals subst hY; subst hY0
   ·exact hT.lt
   ·exact zdi hT hT0 hT1
   ·exact hU.lt
   ·exact zdi hU hU0 hU1
   ·exact hT.lt
   ·exact hT.lt
   ·exact hT.lt
   ·exact hT.lt
   ·exact decide_eq_false (by show ¬ (i : Int) < ((S.length : Int).toNat : Int); omega)
  refine zaa 900 smD_run hr ⟨fun Y1 w1 hx1 hr1=>?_,trivial⟩
  refine zbh smD0_head hr1 fun Y2 w2 hx2 hr2=>?_
  have hx12:=hx1.trans hx2
  have hb2 : Below w.heap.size w w2:=hr2.chg.below (fun k hk=>absurd hk (zah rfl k)) (Nat.le_refl _)
  have hp2 : Y2.perms = []:=zae hr2
  refine smCalls hback hcm C.length 0 _ _ _ w2 (Nat.sub_zero _) (hm0.below hb2) (hb.trans (hb2.mono hb.size)) hr2.there ⟨rfl,rfl,?_,rfl,rfl,hp2⟩ ?_ ?_
  ·exact (za8 _).trans rfl
  ·dsimp only
   rw [hx12.blk (by omega),<- hY,<- hY0]
   exact ⟨rfl,rfl,rfl,rfl⟩
  ·dsimp only
   rw [hx12.blk (by omega),<- hY,<- hY0]
   exact ⟨rfl,rfl,rfl,rfl⟩
 | succ m ih=>
  intro i Y q0 q1 w hn hm hb hth hd h0 h1
  have hi : i < S.length:=by omega
  obtain ⟨xs,hxs,rfl⟩:=hd.of
  obtain ⟨g0,b0,o0,pre0,post0,cap0,ad0⟩:=q0
  obtain ⟨rfl,rfl,rfl,rfl⟩ : g0 = _ /\ o0 = _ /\ pre0 = _ /\ post0 = _:=h0
  obtain ⟨g1,b1,o1,pre1,post1,cap1,ad1⟩:=q1
  obtain ⟨rfl,rfl,rfl,rfl⟩ : g1 = _ /\ o1 = _ /\ pre1 = _ /\ post1 = _:=h1
  have hm0:=hm
  obtain ⟨⟨t,arr,hT,hT0,hT1⟩,⟨t',arr',hU,hU0,hU1⟩,hs1,hs2,hk1,hk2⟩:=hm
  obtain ⟨e1,o1,f1,E1,he1,_,_,hat1⟩:=Sl.row hs1 (by omega)
  obtain ⟨e2,o2,f2,E2,he2,_,_,hat2⟩:=Sl.row hs2 (by omega)
  cases E1
  cases E2
  have cel1:=zfp Sp_len hat1 hi
  have cel2:=zfp Sp_len hat2 hi
  generalize S[i] = x at cel1 cel2
  generalize hY0 : (⟨[(i : Int)],[],xs,[],[⟨g0,b0,0,[],[],cap0,ad0⟩,⟨g1,b1,0,[],[],cap1,ad1⟩],[]⟩ : Env) = Y0
  have hl0 : Y0.lens = ⟨1,0,64,0,2⟩:=by rw [<- hY0]; simp [Env.lens,hxs]
  refine zak (L:=⟨1,0,64,0,2⟩) (ai:=[(S.length : Int),(c1 : Int),(C.length : Int),(d1 : Int),(S.length : Int),(c2 : Int),(C.length : Int),(d2 : Int),x.th,x.d,x.ar,x.at_,x.old,x.new,x.was]) (ab:=[x.done]) (ax:=[]) (ay:=[]) (ak:=[⟨e1,o1,o1 + i * 8,[],[],0,none⟩,⟨g0,0,0,[],[],0,some C1⟩,⟨e2,o2,o2 + i * 8,[],[],0,none⟩,⟨g0,0,0,[],[],0,some C2⟩]) hl0 (by kernel_rfl) ?_
  generalize hY : Env.grow _ _ _ _ _ _ = Y
  have hi0 : Y.ints = [(i : Int),(S.length : Int),(c1 : Int),(C.length : Int),(d1 : Int),(S.length : Int),(c2 : Int),(C.length : Int),(d2 : Int),x.th,x.d,x.ar,x.at_,x.old,x.new,x.was]:=by rw [<- hY,<- hY0]; rfl
  have hbl : Y.blks.length = 6:=by rw [<- hY,<- hY0]; rfl
  have hr : Rep X s (ours Y smC_in.heap) w Y smC_in.heap smC_in.facts 0 w:=by
   refine Rep.start hth (by rw [<- hY,<- hY0]; intro v hv; cases hv) (by rw [<- hY,<- hY0]; rfl) ⟨⟨?_,zb8 rfl ?_,trivial,trivial,rfl⟩,⟨?_,zb8 rfl ?_,trivial,trivial,rfl⟩,⟨?_,zb8 rfl ?_,⟨?_,?_⟩,trivial,rfl⟩,kn ?_,⟨?_,zb8 rfl ?_,⟨?_,?_⟩,trivial,rfl⟩,kn ?_,trivial⟩ (nd_ro rfl) (za5 ⟨?_,?_,?_,?_,trivial⟩) (by rw [<- hY,<- hY0]; rfl)
   all_goals subst hY; subst hY0
   ·exact hT.lt
   ·exact zdi hT hT0 hT1
   ·exact hU.lt
   ·exact zdi hU hU0 hU1
   ·exact he1
   ·exact cel1
   ·rfl
   ·rfl
   ·exact hT.lt
   ·exact he2
   ·exact cel2
   ·rfl
   ·rfl
   ·exact hT.lt
   ·simp [B.den,zlw]
   ·exact decide_eq_true (by show (i : Int) < ((S.length : Int).toNat : Int); omega)
   ·exact decide_eq_true (by show (i : Int) < ((S.length : Int).toNat : Int); omega)
   ·exact decide_eq_true (by show (0 : Int) <= (i : Int); omega)
  refine zaa 900 smC_run hr ⟨fun Y1 w1 hx1 hr1=>?_,trivial⟩
  refine zbh smC0_head hr1 fun Y2 w2 hx2 hr2=>?_
  have hx12:=hx1.trans hx2
  have hb2 : Below w.heap.size w w2:=hr2.chg.below (fun k hk=>absurd hk (zah rfl k)) (Nat.le_refl _)
  have hp2 : Y2.perms = []:=zae hr2
  refine ih (i + 1) _ _ _ w2 (by omega) (hm0.below hb2) (hb.trans (hb2.mono hb.size)) hr2.there ⟨?_,rfl,?_,rfl,rfl,hp2⟩ ?_ ?_
  ·show [IntKind.i64.wrap (Y2.ints.getD 0 0 + 1)] = _
   rw [hx12.ints,hi0]
   show [IntKind.i64.wrap ((i : Int) + 1)] = _
   rw [zbr hi hsm]
  ·exact (za8 _).trans rfl
  ·dsimp only
   rw [hx12.blk (by omega),<- hY,<- hY0]
   exact ⟨rfl,rfl,rfl,rfl⟩
  ·dsimp only
   rw [hx12.blk (by omega),<- hY,<- hY0]
   exact ⟨rfl,rfl,rfl,rfl⟩
end
theorem zex {s : γ} {S : Nat -> Prop} {w₀ w : World} {Y : Env} {h : List HB} {facts : List (B × Bool)} {np : Nat} (hr : Rep X s S w₀ Y h facts np w) (i : Nat) {hb : HB} (hi : h[i]? = some hb) (hw : hb.wr = true) (hf : hb.foc = none) (hrow : hb.row = none) : Whl (Y.blks.getD i {}) (Y.blks.getD i {}).g /\ Blk w (Y.blks.getD i {}).g hb.t (za3 Y hb.cs).toArray:=by
 have hp:=hr.rep.pl i _ hi hw hf hrow
 have hb':=hr.rep.blk i _ hi hw
 refine ⟨⟨rfl,by rw [hb'.1,hp.1]; rfl,hp⟩,?_⟩
 have h1:=hb'.2
 unfold Seg.whole at h1
 rwa [hp.1,hp.2,List.append_nil,List.nil_append] at h1
theorem same03 {s : γ} {w : World} {S1 S2 C1 C2 : Option Addr} {c1 c2 d1 d2 : Nat} {S : List Rp.Sp} {C : List Rc} {m : Mem} {cE cF : Array Value} (hs1 : Rp.Sps w w.heap.size (.slice S1 S.length c1) S) (hs2 : Rp.Sps w w.heap.size (.slice S2 S.length c2) S) (hk1 : Sl w w.heap.size 7 (.slice C1 C.length d1) C.length (C.flatMap Rc.cells)) (hk2 : Sl w w.heap.size 7 (.slice C2 C.length d2) C.length (C.flatMap Rc.cells)) (hE : zbb w w.heap.size m cE) (hF : zbb w w.heap.size m cF) (hsm : m.small) (hW : 0 < w.heap.size) :
  Jdo Try.prog X 22 #[.agg (#[.slice S1 S.length c1,.slice C1 C.length d1] ++ cE),.agg (#[.slice S2 S.length c2,.slice C2 C.length d2] ++ cF)] s w fun s' r w'=>s' = s /\ Below w.heap.size w w' /\ r = .back (.bool true):=by
 have hE0:=hE
 have hF0:=hF
 have hSl : S.length <= maxLen:=by obtain ⟨_,c,e,h1,h2⟩:=Sl.form hs1; omega
 have hCl : C.length <= maxLen:=by obtain ⟨_,c,e,h1,h2⟩:=Sl.form hk1; omega
 obtain ⟨v2,v3,v6,v7,v8,hcE,u2,u3,u6,u7,u8⟩:=hE
 obtain ⟨y2,y3,y6,y7,y8,hcF,z2,z3,z6,z7,z8⟩:=hF
 let Y : Env:={ ints:=[(S.length : Int),(c1 : Int),(C.length : Int),(d1 : Int),m.e,m.f,m.h,m.t,(S.length : Int),(c2 : Int),(C.length : Int),(d2 : Int),m.e,m.f,m.h,m.t],ys:=[v2,v3,v6,v7,v8,y2,y3,y6,y7,y8],blks:=[⟨0,0,0,[],[],0,some S1⟩,⟨0,0,0,[],[],0,some C1⟩,⟨0,0,0,[],[],0,some S2⟩,⟨0,0,0,[],[],0,some C2⟩] }
 refine zbt (Y:=Y) sm_fresh (by rw [hcE,hcF]; rfl) fun Stop c cs hth hback _=>?_
 have hr : Rep X s (ours Y smA_in.heap) w Y smA_in.heap smA_in.facts 0 w:=by
  refine Rep.start hth (zb9 ⟨za2 u2,za2 u3,za2 u6,za2 u7,za2 u8,za2 z2,za2 z3,za2 z6,za2 z7,za2 z8,trivial⟩) rfl ⟨kn hW,kn hW,kn hW,kn hW,trivial⟩ (nd_ro rfl) (za5 ⟨?_,?_,trivial⟩) rfl
  ·show ((((C.length : Int)).toNat : Int) != (((C.length : Int)).toNat : Int)) = false
   simp
  ·show ((((S.length : Int)).toNat : Int) != (((S.length : Int)).toNat : Int)) = false
   simp
 refine zaa 900 smA_run hr ⟨fun Y1 w1 hx1 hr1=>?_,trivial⟩
 have hb1 : Below w.heap.size w w1:=hr1.chg.below (fun k hk=>absurd hk (zah rfl k)) (Nat.le_refl _)
 show Fr.reach _ X Stop s (c :: cs) Y1 [smA_fr] w1
 have hmE : zbb w1 w1.heap.size m cE:=(zbb.chg hE0 (Nat.le_refl _) (Chg.of_below (S:=fun _=>False) hb1) fun g hg=>hg.elim).more hb1.size
 have hmF : zbb w1 w1.heap.size m cF:=(zbb.chg hF0 (Nat.le_refl _) (Chg.of_below (S:=fun _=>False) hb1) fun g hg=>hg.elim).more hb1.size
 have hsame:=Rf.all (X:=X) (s:=s) (w:=w1) (va:=.agg cE) (vb:=.agg cF) ⟨_,rfl,hmE⟩ ⟨_,rfl,hmF⟩ (Nat.le_refl _) (Rf.zdo hsm) (Rf.zdo hsm)
 refine zc7 (fr:=smA_fr) (callers:=[]) (ht:=rfl) smA_at smA_gd smA_call smA_fresh hr1 (Post:=fun s' r w'=>s' = s /\ Below w1.heap.size w1 w' /\ r = .back (.bool (Mem.same m m))) ?_ (fun s' v w2 hp ht2=>?_) (fun s' ch w' hp _=>by obtain ⟨_,_,e⟩:=hp; cases e)
 ·rwa [show (za3 Y1 zhp).toArray = #[.agg cE,.agg cF] by
   have e1 : za3 Y1 zhp = za3 Y zhp:=by
    show [Value.agg #[.int .u64 (Y1.ints.getD 4 0),.int .u64 (Y1.ints.getD 5 0),Y1.ys.getD 0 .nilFunc,Y1.ys.getD 1 .nilFunc,.int .u64 (Y1.ints.getD 6 0),.int .u64 (Y1.ints.getD 7 0),Y1.ys.getD 2 .nilFunc,Y1.ys.getD 3 .nilFunc,Y1.ys.getD 4 .nilFunc],.agg #[.int .u64 (Y1.ints.getD 12 0),.int .u64 (Y1.ints.getD 13 0),Y1.ys.getD 5 .nilFunc,Y1.ys.getD 6 .nilFunc,.int .u64 (Y1.ints.getD 14 0),.int .u64 (Y1.ints.getD 15 0),Y1.ys.getD 7 .nilFunc,Y1.ys.getD 8 .nilFunc,Y1.ys.getD 9 .nilFunc]] = _
    rw [hx1.ints,hx1.ys]
    rfl
   rw [e1,hcE,hcF]
   rfl]
 obtain ⟨rfl,hb2,ev⟩:=hp
 rw [(Mem.same_iff m m).2 rfl] at ev
 cases ev
 refine zdk (sv:=.bool (.lit true)) rfl ?_
 rw [smA_put]
 have hr2:=hr1.below hb2
 refine zaa 900 smB_run hr2 ⟨fun Y3 w3 hx3 hr3=>?_,trivial⟩
 refine zbh smB0_head hr3 fun Y4 w4 hx4 hr4=>?_
 have hx34:=hx3.trans hx4
 have hx04:=hx1.trans hx34
 have hb4 : Below w.heap.size w w4:=hr4.chg.below (fun k hk=>absurd hk (zah rfl k)) (Nat.le_refl _)
 have hp4 : Y4.perms = []:=zae hr4
 obtain ⟨wA,bA⟩:=zex hr4 4 rfl rfl rfl rfl
 obtain ⟨wB,bB⟩:=zex hr4 5 rfl rfl rfl rfl
 have hm : SmM w4 (Y4.blks.getD 4 {}).g (Y4.blks.getD 5 {}).g S1 S2 C1 C2 c1 c2 d1 d2 S C:=by
  refine ⟨⟨_,_,bA,?_,?_⟩,⟨_,_,bB,?_,?_⟩,(Sl.below hs1 hb4).more hb4.size,(Sl.below hs2 hb4).more hb4.size,(hk1.below hb4).more hb4.size,(hk2.below hb4).more hb4.size⟩
  ·show some (Value.slice (Y4.blks.getD 0 {}).adr (Y4.ints.getD 0 0).toNat (Y4.ints.getD 1 0).toNat) = _
   rw [hx04.ints,hx04.blk (show 0 < 4 by decide)]
   rfl
  ·show some (Value.slice (Y4.blks.getD 1 {}).adr (Y4.ints.getD 2 0).toNat (Y4.ints.getD 3 0).toNat) = _
   rw [hx04.ints,hx04.blk (show 1 < 4 by decide)]
   rfl
  ·show some (Value.slice (Y4.blks.getD 2 {}).adr (Y4.ints.getD 8 0).toNat (Y4.ints.getD 9 0).toNat) = _
   rw [hx04.ints,hx04.blk (show 2 < 4 by decide)]
   rfl
  ·show some (Value.slice (Y4.blks.getD 3 {}).adr (Y4.ints.getD 10 0).toNat (Y4.ints.getD 11 0).toNat) = _
   rw [hx04.ints,hx04.blk (show 3 < 4 by decide)]
   rfl
 refine smSteps (W:=w) (fun w' h1 h2=>hback s' _ w' ⟨rfl,h1,rfl⟩ h2) hSl hCl S.length 0 _ _ _ w4 (Nat.sub_zero _) hm hb4 hr4.there ⟨rfl,rfl,?_,rfl,rfl,hp4⟩ wA wB
 exact (za8 _).trans rfl
end
end
end Go.Proofs.Ytonhfgjofgbcdaa.Dr
