/- The texts DrPaL, DrPaA, DrPa of this claim's proof; what is proved stands in the last one. -/
import Derived.Test.YtonhfgjofgbcdaaPrt13
import Derived.Test.YtonhfgjofgbcdaaPrt20
import Derived.Test.YtonhfgjofgbcdaaPrt22
import Derived.Test.YtonhfgjofgbcdaaPrt28
import Derived.Test.YtonhfgjofgbcdaaPrt29
set_option linter.unusedSimpArgs false
set_option linter.unusedVariables false
namespace Go.Proofs.Ytonhfgjofgbcdaa.Dr
set_option linter.unusedSimpArgs false
set_option linter.unusedVariables false
set_option maxRecDepth 20000
open Go Go.Conc Go.RowKit Go.Proofs.Ytonhfgjofgbcdaa.Jay Go.Proofs.Ytonhfgjofgbcdaa.Pl
open Go.Proofs.Ytonhfgjofgbcdaa.St Go.Proofs.Ytonhfgjofgbcdaa.Sx
set_option linter.unusedVariables false
set_option linter.unusedSimpArgs false
theorem pick_more (l : List (List Ac)) (r : Rw) (t : Int) : ∃ m,(r.pick l t).steps = r.steps ++ m := by
  unfold Rw.pick
  split
  · exact ⟨_,rfl⟩
  · exact ⟨[],(List.append_nil _).symm⟩
theorem run_more (l : List (List Ac)) (picks : List (Int × Int)) : ∀ r : Rw, ∃ m,(r.run l picks).steps = r.steps ++ m := by
  induction picks with
  | nil => exact fun r => ⟨[],(List.append_nil _).symm⟩
  | cons a picks ih =>
    intro r
    obtain ⟨m,hm⟩ := pick_more l r a.1
    obtain ⟨m',hm'⟩ := ih (r.pick l a.1)
    refine ⟨m ++ m',?_⟩
    show ((r.pick l a.1).run l picks).steps = _
    rw [hm',hm,List.append_assoc]
theorem run_take {k K T Mn : Int} (l : List (List Ac)) (picks : List (Int × Int)) (j : Nat) : (rawRun k K T Mn l (picks.take j)).steps.length ≤ (rawRun k K T Mn l picks).steps.length ∧ (rawRun k K T Mn l picks).steps.take (rawRun k K T Mn l (picks.take j)).steps.length = (rawRun k K T Mn l (picks.take j)).steps := by
  have e : rawRun k K T Mn l picks = (rawRun k K T Mn l (picks.take j)).run l (picks.drop j) := by
    unfold rawRun Rw.run
    rw [← List.foldl_append,List.take_append_drop]
  obtain ⟨m,hm⟩ := run_more l (picks.drop j) (rawRun k K T Mn l (picks.take j))
  rw [e,hm]
  simp
theorem callsOf_take (l : List Rp.Sp) (n : Nat) : (callsOf l).take n = callsOf (l.take n) := by
  apply List.ext_getElem?
  intro i
  unfold callsOf
  simp only [List.getElem?_take,List.getElem?_map,List.getElem?_zipIdx]
  split <;> simp
theorem okw_take {k K T Mn : Int} {l : List (List Ac)} {picks : List (Int × Int)} (hp : picks.length ≤ 1000) (j : Nat) : Okw k K T Mn l (picks.take j) ↔ Okw k K T Mn l picks := by
  unfold Okw
  have h1 : (picks.take j).length ≤ picks.length := by rw [List.length_take]; omega
  constructor
  · rintro ⟨a,b,c,d⟩
    exact ⟨a,b,by omega,d⟩
  · rintro ⟨a,b,c,d⟩
    exact ⟨a,b,by omega,d⟩
theorem flatMap_take {α : Type} {f : α → List Value} {n : Nat} (hf : ∀ x,(f x).length = n) : ∀ (l : List α) (k : Nat),(l.flatMap f).take (k * n) = (l.take k).flatMap f
  | [],k => by simp
  | x :: l,0 => by simp
  | x :: l,k + 1 => by
    rw [List.flatMap_cons,List.take_succ_cons,List.flatMap_cons,← flatMap_take hf l k,show (k + 1) * n = (f x).length + k * n by rw [hf,Nat.add_mul,Nat.one_mul,Nat.add_comm],List.take_length_add_append]
theorem sl_take {w : World} {B n : Nat} {α : Type} {f : α → List Value} (hf : ∀ x,(f x).length = n) {A : Option Addr} {c : Nat} {l : List α} (h : Sl w B n (.slice A l.length c) l.length (l.flatMap f)) {k : Nat} (hk : k ≤ l.length) : Sl w B n (.slice A k c) (l.take k).length ((l.take k).flatMap f) := by
  obtain ⟨h1,A',c',e,h3,h4,h5⟩ := h
  cases e
  have hl : (l.take k).length = k := by rw [List.length_take]; omega
  refine ⟨?_,A,c,by rw [hl],by omega,h4,fun hpos => ?_⟩
  · rw [← flatMap_take hf l k,List.length_take,hl,h1]
    exact Nat.min_eq_left (Nat.mul_le_mul_right _ hk)
  · obtain ⟨b,o,e1,e2,e3⟩ := h5 (by omega)
    refine ⟨b,o,e1,e2,fun j u hu => e3 j u ?_⟩
    rw [← flatMap_take hf l k,List.getElem?_take] at hu
    split at hu
    · exact hu
    · cases hu
theorem addr_zero (A : Option Addr) (n : Nat) : (A.map fun a => a.add (0 * n)) = A := by
  cases A with
  | none => rfl
  | some a => simp [Addr.add]
theorem ba_zero {ρ : Env} (b : BA) (m : E) (n : Nat) : (BA.sh b (.lit 0) m n).den ρ = b.den ρ := by
  simp only [BA.den]
  split
  · rfl
  · exact addr_zero _ _
end Go.Proofs.Ytonhfgjofgbcdaa.Dr
namespace Go.Proofs.Ytonhfgjofgbcdaa.Dr
set_option linter.unusedSimpArgs false
set_option linter.unusedVariables false
set_option maxRecDepth 20000
open Go Go.Conc Go.RowKit Go.Proofs.Ytonhfgjofgbcdaa.Jay Go.Proofs.Ytonhfgjofgbcdaa.Pl
open Go.Proofs.Ytonhfgjofgbcdaa.Sx
set_option maxRecDepth 20000
noncomputable def yfs : List SV := [.tup [.agg [.sl (.blk 5) (.v 14) (.e (.v 15)),.sl (.blk 6) (.v 16) (.e (.v 17)),Lu 18,Lu 19,.y 5,.y 6,Lu 20,Lu 21,.y 7,.y 8,.y 9],.int .i64 (.lit 0)]]
noncomputable def yg4 : List SV := [.bool (.lit false),.bool (.lit false)]
noncomputable def yga : List SV := [.bool (.cmp .gtr (.tn (.v 6)) (.tn (.v 14)))]
noncomputable def yev : List SV := yfs ++ xr 59 3 ++ yfs ++ [.agg [.sl (.blk 5) (.v 14) (.e (.v 15)),.sl (.blk 6) (.v 16) (.e (.v 17)),Lu 18,Lu 19,.y 5,.y 6,Lu 20,Lu 21,.y 7,.y 8,.y 9],.int .i64 (.lit 0),.int .i64 (.lit 0),.int .i64 (.lit 0)] ++ yg4 ++ [.ptr 2 0,.sl (.blk 3) (.v 6) (.e (.v 7)),.int .i64 (.tn (.v 6)),.ptr 7 0,.sl (.blk 5) (.v 14) (.e (.v 15)),.int .i64 (.tn (.v 14))] ++ yga ++ yga ++ yga ++ [.ptr 2 1,.sl (.blk 4) (.v 8) (.e (.v 9)),.int .i64 (.tn (.v 8)),.ptr 7 1,.sl (.blk 6) (.v 16) (.e (.v 17)),.int .i64 (.tn (.v 16)),.bool (.cmp .gtr (.tn (.v 8)) (.tn (.v 16))),.bool (.cmp .gtr (.tn (.v 8)) (.tn (.v 16))),.int .i64 (.lit 0),.bool (.lit false)]
noncomputable def yg5 : List SV := [.tup [.agg [Lu 22,Lu 23,.y 10,.y 11,Lu 24,Lu 25,.y 12,.y 13,.y 14],.bool (.lit true)]]
noncomputable def yg8 : List SV := [.agg [Li 2,Li 3,Li 4,Li 5]]
noncomputable def yfh : List SV := [.sl (.sh (.blk 5) (.lit 0) (.v 15) 8) (.su (.tn (.v 6)) (.lit 0)) (.e (.su (.tn (.v 15)) (.lit 0)))]
noncomputable def yf7 : List SV := [.ptr 7 0,.sl (.blk 5) (.v 14) (.e (.v 15)),.ptr 2 0,.sl (.blk 3) (.v 6) (.e (.v 7)),.int .i64 (.tn (.v 6))] ++ yfh
noncomputable def yez : List SV := yg8 ++ yf7 ++ yg5
noncomputable def yf6 : List SV := yev ++ xr 87 4 ++ yg5 ++ yez ++ [.agg [Lu 22,Lu 23,.y 10,.y 11,Lu 24,Lu 25,.y 12,.y 13,.y 14],.bool (.lit true)]
noncomputable def yg3 : List SV := [.sl (.sh (.blk 6) (.lit 0) (.v 17) 7) (.su (.tn (.v 8)) (.lit 0)) (.e (.su (.tn (.v 17)) (.lit 0)))]
noncomputable def yfa : List SV := [.agg [.sl (.sh (.blk 5) (.lit 0) (.v 15) 8) (.su (.tn (.v 6)) (.lit 0)) (.e (.su (.tn (.v 15)) (.lit 0))),.sl (.sh (.blk 6) (.lit 0) (.v 17) 7) (.su (.tn (.v 8)) (.lit 0)) (.e (.su (.tn (.v 17)) (.lit 0))),Lu 22,Lu 23,.y 10,.y 11,Lu 24,Lu 25,.y 12,.y 13,.y 14]]
noncomputable def yfw : List SV := [.agg [.sl (.blk 3) (.v 6) (.e (.v 7)),.sl (.blk 4) (.v 8) (.e (.v 9)),Lu 10,Lu 11,.y 0,.y 1,Lu 12,Lu 13,.y 2,.y 3,.y 4]] ++ yfa
noncomputable def yew : List SV := [.ptr 2 0,.int .i64 (.lit 0),.ptr 7 0,.int .i64 (.lit 0),.ptr 8 0,.bool (.lit true),.ptr 9 0] ++ xr 15 43 ++ yf6 ++ yf7 ++ [.ptr 7 1,.sl (.blk 6) (.v 16) (.e (.v 17)),.ptr 2 1,.sl (.blk 4) (.v 8) (.e (.v 9)),.int .i64 (.tn (.v 8))] ++ yg3 ++ [.agg [Lu 22,Lu 23,.y 10,.y 11,Lu 24,Lu 25,.y 12,.y 13,.y 14]] ++ yfa ++ [.bool (.lit true),.bool (.lit true)] ++ yfw
noncomputable def yex : List HB := [⟨61,[],false,none,none,none⟩,⟨36,[Li 2,Li 3,Li 4,Li 5],false,none,none,none⟩,⟨52,[.sl (.blk 3) (.v 6) (.e (.v 7)),.sl (.blk 4) (.v 8) (.e (.v 9)),Lu 10,Lu 11,.y 0,.y 1,Lu 12,Lu 13,.y 2,.y 3,.y 4],false,none,none,none⟩,⟨63,[],false,none,none,none⟩,⟨65,[],false,none,none,none⟩,⟨63,[],false,none,none,none⟩,⟨65,[],false,none,none,none⟩,⟨52,[.sl (.blk 5) (.v 14) (.e (.v 15)),.sl (.blk 6) (.v 16) (.e (.v 17)),Lu 18,Lu 19,.y 5,.y 6,Lu 20,Lu 21,.y 7,.y 8,.y 9],true,none,none,none⟩]
noncomputable def yg0 : List SV := [.sl (.blk 0) (.v 1) (.e (.v 2))]
noncomputable def yf0 : List SV := yg0 ++ [.sl (.blk 1) (.v 3) (.e (.v 4))]
noncomputable def yfj : List SV := [.x 0] ++ yf0 ++ [.x 1,.ptr 2 0] ++ xr 2 6 ++ [Li 0]
noncomputable def yfl : List SV := [.tup [.agg [.y 0,.y 1,.y 2,.y 3,.y 4,.y 5,.y 6,.y 7,.y 8,.y 9,.y 10],Li 9]]
noncomputable def yft : List SV := [.agg [Li 5,Li 6,Li 7,Li 8]] ++ yf0
noncomputable def yfp : List SV := [.sl (.sh (.blk 1) (.lit 0) (.v 4) 2) (.su (.tn (.v 0)) (.lit 0)) (.e (.su (.tn (.v 4)) (.lit 0)))]
noncomputable def yf9 : List SV := yft ++ [Li 0] ++ yfp
noncomputable def yey : List SV := yfj ++ [.ptr 3 0,Li 9] ++ xr 10 39 ++ yfl ++ yf9 ++ yfl ++ [.agg [.y 0,.y 1,.y 2,.y 3,.y 4,.y 5,.y 6,.y 7,.y 8,.y 9,.y 10],Li 9]
noncomputable def yf1 : List HB := [⟨49,[],false,none,none,none⟩,⟨61,[],false,none,none,none⟩,⟨36,[Li 5,Li 6,Li 7,Li 8],false,none,none,none⟩]
noncomputable def yfe : List SV := [.x 0,.x 1,.sl (.blk 0) (.v 0) (.e (.v 1)),.x 2,.ptr 1 0]
noncomputable def yf2 : List SV := yfe ++ xr 3 7 ++ [.ptr 2 0,.int .i64 (.lit 0),.ptr 7 0,.int .i64 (.lit 0)]
noncomputable def yf3 : List (B × Bool) := [((.cmp .gtr (.tn (.v 6)) (.tn (.v 14))),false),((.cmp .gtr (.tn (.v 8)) (.tn (.v 16))),false),((.cmp .leq (.lit 0) (.tn (.v 6))),true),((.cmp .leq (.tn (.v 6)) (.tn (.v 15))),true),((.cmp .leq (.lit 0) (.tn (.v 8))),true),((.cmp .leq (.tn (.v 8)) (.tn (.v 17))),true)]
noncomputable def yfg : List HB := yex ++ [⟨25,[Lu 22,Lu 23,.y 10,.y 11,Lu 24,Lu 25,.y 12,.y 13,.y 14],true,none,none,none⟩]
noncomputable def yf4 : List HB := yfg ++ [⟨52,yfh ++ yg3 ++ [Lu 22,Lu 23,.y 10,.y 11,Lu 24,Lu 25,.y 12,.y 13,.y 14],true,none,none,none⟩]
noncomputable def yfr : List SV := [.c (.slice none 0 0),.c (.slice none 0 0)]
noncomputable def yf5 : List SV := [.int .u64 (.lit 0),.int .u64 (.lit 0)] ++ yfr ++ [.int .u64 (.lit 0),.int .u64 (.lit 0)] ++ yfr ++ [.c (.slice none 0 0)]
noncomputable def yfn : List HB := [⟨61,[],false,none,none,none⟩,⟨36,[],false,none,none,none⟩]
noncomputable def yf8 : List HB := [⟨49,[],false,none,none,none⟩] ++ yfn
noncomputable def yg2 : List SV := [.x 0] ++ yf0 ++ [.int .u16 (.v 6),.ptr 2 0]
noncomputable def yfb : List Fr := [⟨7,yg2 ++ xr 1 4 ++ [Li 5,Li 0] ++ xr 5 116,[.code (.at_ [0,0,1,0,3]),.inLoop (.at_ [0,0,1,0,3]),.inBlock 0,.code (.at_ [4])]⟩]
noncomputable def yfc : List SV := [Li 0] ++ yg0 ++ [.int .i64 (.tn (.v 1)),.bool (.cmp .lss (.v 0) (.tn (.v 1))),.bool (.cmp .lss (.v 0) (.tn (.v 1)))]
noncomputable def yfd : List (B × Bool) := [((.cmp .lss (.v 0) (.tn (.v 1))),false),((.cmp .eql (.ar .add .i64 (.tn (.v 3)) (.lit 1)) (.lit 0)),false)]
noncomputable def yff : List HB := yf1 ++ [⟨52,[.y 0,.y 1,.y 2,.y 3,.y 4,.y 5,.y 6,.y 7,.y 8,.y 9,.y 10],true,none,none,none⟩]
noncomputable def yfq : List SV := xr 25 9 ++ [Li 5,.bool (.cmp .gtr (.v 5) (.lit 400)),.bool (.cmp .gtr (.v 5) (.lit 400))]
noncomputable def yfi : List SV := yfc ++ [u,u,.bool (.lit false)] ++ yfq ++ [.sl (.blk 1) (.v 3) (.e (.v 4)),.int .i64 (.tn (.v 3)),.bool (.cmp .gtr (.tn (.v 3)) (.lit 1000)),.bool (.cmp .gtr (.tn (.v 3)) (.lit 1000))]
noncomputable def yfk : List SV := [.tup [.agg [.c (.slice none 0 0),.c (.slice none 0 0),.int .u64 (.lit 0),.int .u64 (.lit 0),.c (.slice none 0 0),.c (.slice none 0 0),.int .u64 (.lit 0),.int .u64 (.lit 0),.c (.slice none 0 0),.c (.slice none 0 0),.c (.slice none 0 0)],.int .i64 (.lit 1)]]
noncomputable def yfm : List SV := [.agg [Li 0,Li 1,Li 2,Li 3],.x 0,.x 1,.int .u16 (.v 4)]
noncomputable def yfo : List SV := yg2 ++ xr 1 3 ++ [.bool (.lit true),Li 5,Li 0] ++ xr 5 12
noncomputable def yfu : List (B × Bool) := [((.cmp .leq (.lit 0) (.v 0)),true),((.cmp .leq (.v 0) (.tn (.v 4))),true)]
noncomputable def yfv : List SV := yf2 ++ [.ptr 8 0,.bool (.lit true)] ++ xr 14 44 ++ yf6 ++ xr 102 20
noncomputable def yfx : List SV := [.c (.slice none 0 0),.int .i64 (.lit 0)]
noncomputable def yfy : List HB := [⟨49,[.sl (.blk 3) (.v 7) (.e (.v 8))],false,some ((.v 0),1),none,none⟩] ++ yfn ++ [⟨27,[],false,none,none,none⟩]
noncomputable def yfz : List (B × Bool) := [((.cmp .gtr (.v 5) (.lit 400)),true),((.cmp .lss (.v 0) (.tn (.v 1))),true),((.cmp .leq (.v 5) (.lit 400)),false)]
noncomputable def yg1 : List (B × Bool) := [((.cmp .lss (.v 0) (.tn (.v 1))),true),((.cmp .leq (.v 5) (.lit 400)),true),((.cmp .leq (.lit 0) (.v 0)),true)]
noncomputable def yg6 : List SV := yf2 ++ xr 12 46 ++ yev
noncomputable def yg7 : List SV := yfc ++ [Li 5,.bool (.cmp .leq (.v 5) (.lit 400)),.bool (.cmp .leq (.v 5) (.lit 400))]
noncomputable def yg9 : List SV := [.int .i64 (.ar .rem .i64 (.cv .i64 (.v 6)) (.ar .add .i64 (.tn (.v 3)) (.lit 1)))]
noncomputable def pa_args : List SV := yfm
noncomputable def pa_fr : Fr := ⟨7,yfm ++ ur 123,[.code (.at_ [])]⟩
theorem pa_fresh : fresh Try.prog 7 pa_args = some pa_fr := by kernel_rfl
noncomputable def paA_in : St := ⟨[⟨7,yfm ++ ur 123,[.code (.at_ [])]⟩],[],[],0⟩
noncomputable def paA_0 : St := ⟨[⟨7,yfm ++ [.ptr 0 0] ++ ur 3 ++ [.bool (.lit false)] ++ ur 118,[.inRegion [0,0,1] [0,1],.code (.at_ [1,0,1]),.code (.at_ [2])]⟩],[⟨36,[Li 0,Li 1,Li 2,Li 3],true,none,none,none⟩],[],0⟩
theorem paA_run : run Try.prog [] [20,19,17,22] true 900 paA_in = [paA_0] := by kernel_rfl
noncomputable def paA_op : Oper := (opsAt Try.prog 7 [0,0,1]).getD 0 default
theorem paA_at : (opsAt Try.prog 7 [0,0,1])[0]? = some paA_op := by kernel_rfl
noncomputable def paA_fr : Fr := ⟨7,yfm ++ [.ptr 0 0] ++ ur 3 ++ [.bool (.lit false)] ++ ur 118,[.inRegion [0,0,1] [0,1],.code (.at_ [1,0,1]),.code (.at_ [2])]⟩
theorem paA_gd : guardOf paA_0.facts (opsAt Try.prog 7 [0,0,1]) paA_fr.tmps paA_op = .yes := by kernel_rfl
noncomputable def paA_args : List SV := []
theorem paA_call : scall Try.prog paA_fr.tmps paA_op.op = some (19,paA_args) := by kernel_rfl
theorem paA_fresh : (fresh Try.prog 19 paA_args).isSome = true := by kernel_rfl
noncomputable def paA_frb : Fr := ⟨7,[.agg [.int .i64 (.v 0),.int .i64 (.v 1),.int .i64 (.v 2),.int .i64 (.v 3)],.x 0,.x 1,.int .u16 (.v 4),.ptr 0 0,u,u,u,.bool (.lit false),u,u,u,u,u,u,u,u,u,u,.bool (.lit true),u,u,u,u,u,u,u,u,u,u,u,u,u,u,u,u,u,u,u,u,u,u,u,u,u,u,u,u,u,u,u,u,u,u,u,u,u,u,u,u,u,u,u,u,u,u,u,u,u,u,u,u,u,u,u,u,u,u,u,u,u,u,u,u,u,u,u,u,u,u,u,u,u,u,u,u,u,u,u,u,u,u,u,u,u,u,u,u,u,u,u,u,u,u,u,u,u,u,u,u,u,u,u,u,u,u,u],[.inRegion [0,0,1] [1],.code (.at_ [1,0,1]),.code (.at_ [2])]⟩
theorem paA_put : Fr.put paA_fr paA_op.dst (.bool (.lit true)) ([.inRegion [0,0,1] [1],.code (.at_ [1,0,1]),.code (.at_ [2])]) = paA_frb := by kernel_rfl
noncomputable def paB_in : St := ⟨[⟨7,[.agg [.int .i64 (.v 5),.int .i64 (.v 6),.int .i64 (.v 7),.int .i64 (.v 8)],.sl (.blk 0) (.v 1) (.e (.v 2)),.sl (.blk 1) (.v 3) (.e (.v 4)),.int .u16 (.v 9),.ptr 2 0,u,u,u,.bool (.lit false),u,u,u,u,u,u,u,u,u,u,.bool (.lit true),u,u,u,u,u,u,u,u,u,u,u,u,u,u,u,u,u,u,u,u,u,u,u,u,u,u,u,u,u,u,u,u,u,u,u,u,u,u,u,u,u,u,u,u,u,u,u,u,u,u,u,u,u,u,u,u,u,u,u,u,u,u,u,u,u,u,u,u,u,u,u,u,u,u,u,u,u,u,u,u,u,u,u,u,u,u,u,u,u,u,u,u,u,u,u,u,u,u,u,u,u,u,u,u,u,u,u],[.inRegion [0,0,1] [1],.code (.at_ [1,0,1]),.code (.at_ [2])]⟩],
  [⟨49,[],false,none,none,none⟩,
  ⟨61,[],false,none,none,none⟩,
  ⟨36,[],false,none,none,none⟩],
  [],
  0⟩
noncomputable def paB_0 : St := ⟨[⟨7,yft ++ [.int .u16 (.v 9),.ptr 2 0] ++ ur 3 ++ [.bool (.lit false),.int .i64 (.tn (.v 1)),.int .i64 (.lit 0)] ++ ur 8 ++ [.bool (.lit true),.bool (.lit false)] ++ yg0 ++ [.int .i64 (.tn (.v 1))] ++ ur 104,[.code (.at_ [0,1,0,3]),.inBlock 0,.code (.at_ [4])]⟩],yf8,[],0⟩
theorem paB_run : run Try.prog [] [20,19,17,22] true 900 paB_in = [paB_0] := by kernel_rfl
noncomputable def pa1 : St := ⟨yfb,[],[],0⟩
noncomputable def paB0_sub : Sub := ⟨[(.lit 0),(.v 1),(.v 2),(.v 3),(.v 4),(.tn (.v 1)),(.v 9)],[],[.agg [.int .i64 (.v 5),.int .i64 (.v 6),.int .i64 (.v 7),.int .i64 (.v 8)],u,u,u,.bool (.lit false),u,u,u,u,u,u,u,u,.bool (.lit true),.bool (.lit false),.sl (.blk 0) (.v 1) (.e (.v 2)),.int .i64 (.tn (.v 1)),u,u,u,u,u,u,u,u,u,u,u,u,u,u,u,u,u,u,u,u,u,u,u,u,u,u,u,u,u,u,u,u,u,u,u,u,u,u,u,u,u,u,u,u,u,u,u,u,u,u,u,u,u,u,u,u,u,u,u,u,u,u,u,u,u,u,u,u,u,u,u,u,u,u,u,u,u,u,u,u,u,u,u,u,u,u,u,u,u,u,u,u,u,u,u,u,u,u,u,u,u,u,u,u],[],[0,1,2]⟩
theorem paB0_head : HeadF Try.prog paB0_sub paB_0 pa1 := ⟨by kernel_rfl,by kernel_rfl⟩
noncomputable def paC_in : St := ⟨yfb,yfy,yg1,0⟩
noncomputable def paC_0 : St := ⟨[⟨7,yg2 ++ xr 1 4 ++ [.int .i64 (.ar .add .i64 (.v 5) (.tn (.v 7))),.int .i64 (.ar .add .i64 (.v 0) (.lit 1))] ++ xr 5 12 ++ yg7 ++ [Li 0,.int .i64 (.ar .add .i64 (.v 0) (.lit 1)),Li 5] ++ yg0 ++ [Li 0,.ptr 0 0,.sl (.blk 3) (.v 7) (.e (.v 8)),.int .i64 (.tn (.v 7)),.int .i64 (.ar .add .i64 (.v 5) (.tn (.v 7)))] ++ xr 34 87,[.inLoop (.at_ [0,0,1,0,3]),.inBlock 0,.code (.at_ [4])]⟩],yfy,yg1,0⟩
theorem paC_run : run Try.prog [] [20,19,17,22] true 900 paC_in = [paC_0] := by kernel_rfl
noncomputable def paC0_sub : Sub := ⟨[(.ar .add .i64 (.v 0) (.lit 1)),(.v 1),(.v 2),(.v 3),(.v 4),(.ar .add .i64 (.v 5) (.tn (.v 7))),(.v 6)],[],[.x 0,.x 1,.x 2,.x 3,.x 4,.x 5,.x 6,.x 7,.x 8,.x 9,.x 10,.x 11,.x 12,.x 13,.x 14,.x 15,.x 16,.int .i64 (.v 0),.sl (.blk 0) (.v 1) (.e (.v 2)),.int .i64 (.tn (.v 1)),.bool (.cmp .lss (.v 0) (.tn (.v 1))),.bool (.cmp .lss (.v 0) (.tn (.v 1))),.int .i64 (.v 5),.bool (.cmp .leq (.v 5) (.lit 400)),.bool (.cmp .leq (.v 5) (.lit 400)),.int .i64 (.v 0),.int .i64 (.ar .add .i64 (.v 0) (.lit 1)),.int .i64 (.v 5),.sl (.blk 0) (.v 1) (.e (.v 2)),.int .i64 (.v 0),.ptr 0 0,.sl (.blk 3) (.v 7) (.e (.v 8)),.int .i64 (.tn (.v 7)),.int .i64 (.ar .add .i64 (.v 5) (.tn (.v 7))),.x 34,.x 35,.x 36,.x 37,.x 38,.x 39,.x 40,.x 41,.x 42,.x 43,.x 44,.x 45,.x 46,.x 47,.x 48,.x 49,.x 50,.x 51,.x 52,.x 53,.x 54,.x 55,.x 56,.x 57,.x 58,.x 59,.x 60,.x 61,.x 62,.x 63,.x 64,.x 65,.x 66,.x 67,.x 68,.x 69,.x 70,.x 71,.x 72,.x 73,.x 74,.x 75,.x 76,.x 77,.x 78,.x 79,.x 80,.x 81,.x 82,.x 83,.x 84,.x 85,.x 86,.x 87,.x 88,.x 89,.x 90,.x 91,.x 92,.x 93,.x 94,.x 95,.x 96,.x 97,.x 98,.x 99,.x 100,.x 101,.x 102,.x 103,.x 104,.x 105,.x 106,.x 107,.x 108,.x 109,.x 110,.x 111,.x 112,.x 113,.x 114,.x 115,.x 116,.x 117,.x 118,.x 119,.x 120],[],[0,1,2]⟩
theorem paC0_head : HeadF Try.prog paC0_sub paC_0 pa1 := ⟨by kernel_rfl,by kernel_rfl⟩
noncomputable def paE_in : St := ⟨yfb,yf8,yfz,0⟩
noncomputable def paE_0 : St := ⟨[⟨7,yfo ++ yg7 ++ yfq ++ ur 3 ++ [.bool (.lit true)] ++ xr 41 80,[.code (.at_ [1,0,1,0,4]),.code (.at_ [5])]⟩],yf8,yfz,0⟩
theorem paE_0_end : stEnd Try.prog paE_0 = some (.bool (.lit true)) := by kernel_rfl
theorem paE_run : run Try.prog [] [20,19,17,22] true 900 paE_in = [paE_0] := by kernel_rfl
noncomputable def paD_in : St := ⟨yfb,yf8,yfd,0⟩
noncomputable def paD_0 : St := ⟨[⟨7,yfo ++ yfc ++ [u,u,.bool (.lit false)] ++ yfq ++ ur 3 ++ [.bool (.lit true)] ++ xr 41 80,[.code (.at_ [1,0,1,0,4]),.code (.at_ [5])]⟩],yf8,[((.cmp .gtr (.v 5) (.lit 400)),true)] ++ yfd,0⟩
theorem paD_0_end : stEnd Try.prog paD_0 = some (.bool (.lit true)) := by kernel_rfl
noncomputable def paD_1 : St := ⟨[⟨7,yfo ++ yfi ++ xr 41 80,[.code (.at_ [1,0,1,0,4]),.code (.at_ [5])]⟩],yf8,[((.cmp .gtr (.tn (.v 3)) (.lit 1000)),true),((.cmp .gtr (.v 5) (.lit 400)),false)] ++ yfd,0⟩
theorem paD_1_end : stEnd Try.prog paD_1 = some (.bool (.lit true)) := by kernel_rfl
noncomputable def paD_2 : St := ⟨[⟨7,yg2 ++ xr 1 4 ++ [Li 5,Li 0] ++ yg9 ++ xr 6 11 ++ yfi ++ [.int .u16 (.v 6),.int .i64 (.cv .i64 (.v 6)),.sl (.blk 1) (.v 3) (.e (.v 4)),.int .i64 (.tn (.v 3)),.int .i64 (.ar .add .i64 (.tn (.v 3)) (.lit 1))] ++ yg9 ++ xr 47 74,[.code (.at_ [0,6]),.code (.at_ [7])]⟩],yf8,[((.cmp .gtr (.tn (.v 3)) (.lit 1000)),false),((.cmp .gtr (.v 5) (.lit 400)),false)] ++ yfd,0⟩
theorem paD_run : run Try.prog [] [20,19,17,22] true 900 paD_in = [paD_0,paD_1,paD_2] := by kernel_rfl
noncomputable def pa2 : St := ⟨[⟨7,yfj ++ xr 8 115,[.code (.at_ [0,6]),.code (.at_ [7])]⟩],yf1,yfu,0⟩
noncomputable def paDp_sub : Sub := ⟨[(.ar .rem .i64 (.cv .i64 (.v 6)) (.ar .add .i64 (.tn (.v 3)) (.lit 1))),(.v 1),(.v 2),(.v 3),(.v 4)],[],[.x 0,.int .u16 (.v 6),.x 1,.x 2,.x 3,.x 4,.int .i64 (.v 5),.int .i64 (.v 0),.x 6,.x 7,.x 8,.x 9,.x 10,.x 11,.x 12,.x 13,.x 14,.x 15,.x 16,.int .i64 (.v 0),.sl (.blk 0) (.v 1) (.e (.v 2)),.int .i64 (.tn (.v 1)),.bool (.cmp .lss (.v 0) (.tn (.v 1))),.bool (.cmp .lss (.v 0) (.tn (.v 1))),u,u,.bool (.lit false),.x 25,.x 26,.x 27,.x 28,.x 29,.x 30,.x 31,.x 32,.x 33,.int .i64 (.v 5),.bool (.cmp .gtr (.v 5) (.lit 400)),.bool (.cmp .gtr (.v 5) (.lit 400)),.sl (.blk 1) (.v 3) (.e (.v 4)),.int .i64 (.tn (.v 3)),.bool (.cmp .gtr (.tn (.v 3)) (.lit 1000)),.bool (.cmp .gtr (.tn (.v 3)) (.lit 1000)),.int .u16 (.v 6),.int .i64 (.cv .i64 (.v 6)),.sl (.blk 1) (.v 3) (.e (.v 4)),.int .i64 (.tn (.v 3)),.int .i64 (.ar .add .i64 (.tn (.v 3)) (.lit 1)),.int .i64 (.ar .rem .i64 (.cv .i64 (.v 6)) (.ar .add .i64 (.tn (.v 3)) (.lit 1))),.x 47,.x 48,.x 49,.x 50,.x 51,.x 52,.x 53,.x 54,.x 55,.x 56,.x 57,.x 58,.x 59,.x 60,.x 61,.x 62,.x 63,.x 64,.x 65,.x 66,.x 67,.x 68,.x 69,.x 70,.x 71,.x 72,.x 73,.x 74,.x 75,.x 76,.x 77,.x 78,.x 79,.x 80,.x 81,.x 82,.x 83,.x 84,.x 85,.x 86,.x 87,.x 88,.x 89,.x 90,.x 91,.x 92,.x 93,.x 94,.x 95,.x 96,.x 97,.x 98,.x 99,.x 100,.x 101,.x 102,.x 103,.x 104,.x 105,.x 106,.x 107,.x 108,.x 109,.x 110,.x 111,.x 112,.x 113,.x 114,.x 115,.x 116,.x 117,.x 118,.x 119,.x 120],[],[0,1,2]⟩
theorem paDp_fits : FitsF paDp_sub ⟨paD_2.frs,[],[],0⟩ ⟨pa2.frs,[],[],0⟩ := ⟨by kernel_rfl,by kernel_rfl⟩
noncomputable def pa2_kd (i : Nat) : Nat := if [5].contains i then 2 else kdAt [] (opsAt Try.prog 7 [0,6]) i
noncomputable def pa2_p : List Nat := [0,6]
noncomputable def pa2_ordA : List Nat := [0,1,2,3,4,5,6,7,8,9,10,11]
noncomputable def pa2_ordB : List Nat := [0,1,2,3,4,9,5,6,7,8,10,11]
theorem pa2_code : codeAt Try.prog 7 [0,6] = some (.region 11 (opsAt Try.prog 7 [0,6]) true) := by kernel_rfl
theorem pa2_ok : okOrdersV Try.prog (opsAt Try.prog 7 pa2_p) (masks (opsAt Try.prog 7 pa2_p)) [5,9] pa2_kd [(5,pa2_ordA),(9,pa2_ordB)] = true := by kernel_rfl
noncomputable def pa3a1_ti : List SV := yfj ++ xr 8 115
noncomputable def pa3a1_hi : List HB := yf1
noncomputable def pa3a1_to : List SV := yfj ++ xr 8 42 ++ yf9 ++ xr 55 68
noncomputable def pa3a1_ho : List HB := yf1
theorem pa3a1_grp : sgrp Try.prog (run Try.prog [] [20,19,17,22] true 900) pa2.facts 0 (opsAt Try.prog 7 [0,6]) pa2_kd (fun i => i == 5) pa2.frs.tail [0,1,2,3,4,5,6,7,8,9,10,11] pa3a1_ti pa3a1_hi = .halt [5,6,7,8,9,10,11] pa3a1_to pa3a1_ho := by kernel_rfl
noncomputable def pa3a_op : Oper := (opsAt Try.prog 7 [0,6]).getD 5 default
theorem pa3a_at : (opsAt Try.prog 7 [0,6])[5]? = some pa3a_op := by kernel_rfl
theorem pa3a_kdi : pa2_kd 5 = 2 := by kernel_rfl
theorem pa3a_gd : guardOf pa2.facts (opsAt Try.prog 7 [0,6]) pa3a1_to pa3a_op = .yes := by kernel_rfl
noncomputable def pa3a_args : List SV := [.agg [Li 5,Li 6,Li 7,Li 8]] ++ yg0 ++ yfp
theorem pa3a_call : scall Try.prog pa3a1_to pa3a_op.op = some (20,pa3a_args) := by kernel_rfl
theorem pa3a_fresh : (fresh Try.prog 20 pa3a_args).isSome = true := by kernel_rfl
noncomputable def pa3a2_ti : List SV := yfj ++ xr 8 42 ++ yf9 ++ yfl ++ xr 56 67
noncomputable def pa3a2_hi : List HB := yf1
noncomputable def pa3a2_to : List SV := yey ++ xr 58 65
noncomputable def pa3a2_ho : List HB := yff
theorem pa3a2_grp : sgrp Try.prog (run Try.prog [] [20,19,17,22] true 900) pa2.facts 0 (opsAt Try.prog 7 [0,6]) pa2_kd (fun _ => false) pa2.frs.tail [6,7,8,9,10,11] pa3a2_ti pa3a2_hi = .done pa3a2_to pa3a2_ho := by kernel_rfl
theorem pa3a_set : setD pa3a1_to pa3a_op.dst (.tup [.agg [.y 0,.y 1,.y 2,.y 3,.y 4,.y 5,.y 6,.y 7,.y 8,.y 9,.y 10],.int .i64 (.v 9)]) = pa3a2_ti := by kernel_rfl
noncomputable def pa3b1_ti : List SV := yfj ++ xr 8 115
noncomputable def pa3b1_hi : List HB := yf1
noncomputable def pa3b1_to : List SV := yfj ++ [.ptr 3 0] ++ xr 9 41 ++ yf9 ++ xr 55 68
noncomputable def pa3b1_ho : List HB := yf1 ++ [⟨52,yfr ++ yf5,true,none,none,none⟩]
theorem pa3b1_grp : sgrp Try.prog (run Try.prog [] [20,19,17,22] true 900) pa2.facts 0 (opsAt Try.prog 7 [0,6]) pa2_kd (fun i => i == 5) pa2.frs.tail [0,1,2,3,4,9,5,6,7,8,10,11] pa3b1_ti pa3b1_hi = .halt [5,6,7,8,10,11] pa3b1_to pa3b1_ho := by kernel_rfl
noncomputable def pa3b_op : Oper := (opsAt Try.prog 7 [0,6]).getD 5 default
theorem pa3b_at : (opsAt Try.prog 7 [0,6])[5]? = some pa3b_op := by kernel_rfl
theorem pa3b_kdi : pa2_kd 5 = 2 := by kernel_rfl
theorem pa3b_gd : guardOf pa2.facts (opsAt Try.prog 7 [0,6]) pa3b1_to pa3b_op = .yes := by kernel_rfl
noncomputable def pa3b_args : List SV := [.agg [Li 5,Li 6,Li 7,Li 8]] ++ yg0 ++ yfp
theorem pa3b_call : scall Try.prog pa3b1_to pa3b_op.op = some (20,pa3b_args) := by kernel_rfl
theorem pa3b_fresh : (fresh Try.prog 20 pa3b_args).isSome = true := by kernel_rfl
noncomputable def pa3b2_ti : List SV := yfj ++ [.ptr 3 0] ++ xr 9 41 ++ yf9 ++ yfl ++ xr 56 67
noncomputable def pa3b2_hi : List HB := yf1 ++ [⟨52,yfr ++ yf5,true,none,none,none⟩]
noncomputable def pa3b2_to : List SV := yey ++ xr 58 65
noncomputable def pa3b2_ho : List HB := yff
theorem pa3b2_grp : sgrp Try.prog (run Try.prog [] [20,19,17,22] true 900) pa2.facts 0 (opsAt Try.prog 7 [0,6]) pa2_kd (fun _ => false) pa2.frs.tail [6,7,8,10,11] pa3b2_ti pa3b2_hi = .done pa3b2_to pa3b2_ho := by kernel_rfl
theorem pa3b_set : setD pa3b1_to pa3b_op.dst (.tup [.agg [.y 0,.y 1,.y 2,.y 3,.y 4,.y 5,.y 6,.y 7,.y 8,.y 9,.y 10],.int .i64 (.v 9)]) = pa3b2_ti := by kernel_rfl
noncomputable def pa4_in : St := ⟨[⟨7,yey ++ xr 58 65,[.code (.at_ [7])]⟩],yff,yfu,0⟩
noncomputable def pa4_0 : St := ⟨[⟨7,yey ++ [.x 58] ++ yft ++ xr 62 61,[.inRegion [0,7] [3,4,5,6,7,8,9],.code (.at_ [8])]⟩],yff,yfu,0⟩
theorem pa4_run : run Try.prog [] [20,19,17,22] true 900 pa4_in = [pa4_0] := by kernel_rfl
noncomputable def pa4_op : Oper := (opsAt Try.prog 7 [0,7]).getD 3 default
theorem pa4_at : (opsAt Try.prog 7 [0,7])[3]? = some pa4_op := by kernel_rfl
noncomputable def pa4_fr : Fr := ⟨7,yey ++ [.x 58] ++ yft ++ xr 62 61,[.inRegion [0,7] [3,4,5,6,7,8,9],.code (.at_ [8])]⟩
theorem pa4_gd : guardOf pa4_0.facts (opsAt Try.prog 7 [0,7]) pa4_fr.tmps pa4_op = .yes := by kernel_rfl
noncomputable def pa4_args : List SV := yft
theorem pa4_call : scall Try.prog pa4_fr.tmps pa4_op.op = some (20,pa4_args) := by kernel_rfl
theorem pa4_fresh : (fresh Try.prog 20 pa4_args).isSome = true := by kernel_rfl
noncomputable def pa4_frb : Fr := ⟨7,yey ++ [.x 58] ++ yft ++ [.x 123] ++ xr 63 60,[.inRegion [0,7] [4,5,6,7,8,9],.code (.at_ [8])]⟩
theorem pa4_put : Fr.put pa4_fr pa4_op.dst (.x 123) ([.inRegion [0,7] [4,5,6,7,8,9],.code (.at_ [8])]) = pa4_frb := by kernel_rfl
noncomputable def pa4_p : St := ⟨[⟨7,[.x 0,.x 1,.sl (.blk 0) (.v 0) (.e (.v 1)),.x 2,.ptr 1 0,.x 3,.x 4,.x 5,.x 6,.x 7,.x 8,.x 9,.ptr 2 0,.int .i64 (.v 2),.x 10,.x 11,.x 12,.x 13,.x 14,.x 15,.x 16,.x 17,.x 18,.x 19,.x 20,.x 21,.x 22,.x 23,.x 24,.x 25,.x 26,.x 27,.x 28,.x 29,.x 30,.x 31,.x 32,.x 33,.x 34,.x 35,.x 36,.x 37,.x 38,.x 39,.x 40,.x 41,.x 42,.x 43,.x 44,.x 45,.x 46,.x 47,.x 48,.x 49,.x 50,.x 51,.x 52,.x 53,.x 54,.x 55,.x 56,.x 57,.x 58,.x 59,.x 60,.x 61,.x 122,.x 62,.x 63,.x 64,.x 65,.x 66,.x 67,.x 68,.x 69,.x 70,.x 71,.x 72,.x 73,.x 74,.x 75,.x 76,.x 77,.x 78,.x 79,.x 80,.x 81,.x 82,.x 83,.x 84,.x 85,.x 86,.x 87,.x 88,.x 89,.x 90,.x 91,.x 92,.x 93,.x 94,.x 95,.x 96,.x 97,.x 98,.x 99,.x 100,.x 101,.x 102,.x 103,.x 104,.x 105,.x 106,.x 107,.x 108,.x 109,.x 110,.x 111,.x 112,.x 113,.x 114,.x 115,.x 116,.x 117,.x 118,.x 119,.x 120,.x 121],[.inRegion [0,7] [4,5,6,7,8,9],.code (.at_ [8])]⟩],
  [],
  [],
  0⟩
noncomputable def pa4p_sub : Sub := ⟨[(.v 3),(.v 4),(.v 9)],[],[.x 0,.sl (.blk 0) (.v 1) (.e (.v 2)),.x 1,.x 2,.x 3,.x 4,.x 5,.x 6,.x 7,.int .i64 (.v 0),.x 10,.x 11,.x 12,.x 13,.x 14,.x 15,.x 16,.x 17,.x 18,.x 19,.x 20,.x 21,.x 22,.x 23,.x 24,.x 25,.x 26,.x 27,.x 28,.x 29,.x 30,.x 31,.x 32,.x 33,.x 34,.x 35,.x 36,.x 37,.x 38,.x 39,.x 40,.x 41,.x 42,.x 43,.x 44,.x 45,.x 46,.x 47,.x 48,.tup [.agg [.y 0,.y 1,.y 2,.y 3,.y 4,.y 5,.y 6,.y 7,.y 8,.y 9,.y 10],.int .i64 (.v 9)],.agg [.int .i64 (.v 5),.int .i64 (.v 6),.int .i64 (.v 7),.int .i64 (.v 8)],.sl (.blk 0) (.v 1) (.e (.v 2)),.sl (.blk 1) (.v 3) (.e (.v 4)),.int .i64 (.v 0),.sl (.sh (.blk 1) (.lit 0) (.v 4) 2) (.su (.tn (.v 0)) (.lit 0)) (.e (.su (.tn (.v 4)) (.lit 0))),.tup [.agg [.y 0,.y 1,.y 2,.y 3,.y 4,.y 5,.y 6,.y 7,.y 8,.y 9,.y 10],.int .i64 (.v 9)],.agg [.y 0,.y 1,.y 2,.y 3,.y 4,.y 5,.y 6,.y 7,.y 8,.y 9,.y 10],.int .i64 (.v 9),.x 58,.agg [.int .i64 (.v 5),.int .i64 (.v 6),.int .i64 (.v 7),.int .i64 (.v 8)],.sl (.blk 0) (.v 1) (.e (.v 2)),.sl (.blk 1) (.v 3) (.e (.v 4)),.x 63,.x 64,.x 65,.x 66,.x 67,.x 68,.x 69,.x 70,.x 71,.x 72,.x 73,.x 74,.x 75,.x 76,.x 77,.x 78,.x 79,.x 80,.x 81,.x 82,.x 83,.x 84,.x 85,.x 86,.x 87,.x 88,.x 89,.x 90,.x 91,.x 92,.x 93,.x 94,.x 95,.x 96,.x 97,.x 98,.x 99,.x 100,.x 101,.x 102,.x 103,.x 104,.x 105,.x 106,.x 107,.x 108,.x 109,.x 110,.x 111,.x 112,.x 113,.x 114,.x 115,.x 116,.x 117,.x 118,.x 119,.x 120,.x 121,.x 122,.x 123],[],[1,2,3]⟩
theorem pa4p_fits : FitsF pa4p_sub ⟨[pa4_frb],[],[],0⟩ pa4_p := ⟨by kernel_rfl,by kernel_rfl⟩
noncomputable def paN_in : St := ⟨[⟨7,[.x 0,.x 1,.sl (.blk 0) (.v 0) (.e (.v 1)),.x 2,.ptr 1 0,.x 3,.x 4,.x 5,.x 6,.x 7,.x 8,.x 9,.ptr 2 0,.int .i64 (.lit 1),.x 10,.x 11,.x 12,.x 13,.x 14,.x 15,.x 16,.x 17,.x 18,.x 19,.x 20,.x 21,.x 22,.x 23,.x 24,.x 25,.x 26,.x 27,.x 28,.x 29,.x 30,.x 31,.x 32,.x 33,.x 34,.x 35,.x 36,.x 37,.x 38,.x 39,.x 40,.x 41,.x 42,.x 43,.x 44,.x 45,.x 46,.x 47,.x 48,.x 49,.x 50,.x 51,.x 52,.x 53,.x 54,.x 55,.x 56,.x 57,.x 58,.x 59,.x 60,.x 61,.tup [.agg [.c (.slice none 0 0),.c (.slice none 0 0),.int .u64 (.lit 0),.int .u64 (.lit 0),.c (.slice none 0 0),.c (.slice none 0 0),.int .u64 (.lit 0),.int .u64 (.lit 0),.c (.slice none 0 0),.c (.slice none 0 0),.c (.slice none 0 0)],.int .i64 (.lit 1)],.x 62,.x 63,.x 64,.x 65,.x 66,.x 67,.x 68,.x 69,.x 70,.x 71,.x 72,.x 73,.x 74,.x 75,.x 76,.x 77,.x 78,.x 79,.x 80,.x 81,.x 82,.x 83,.x 84,.x 85,.x 86,.x 87,.x 88,.x 89,.x 90,.x 91,.x 92,.x 93,.x 94,.x 95,.x 96,.x 97,.x 98,.x 99,.x 100,.x 101,.x 102,.x 103,.x 104,.x 105,.x 106,.x 107,.x 108,.x 109,.x 110,.x 111,.x 112,.x 113,.x 114,.x 115,.x 116,.x 117,.x 118,.x 119,.x 120,.x 121],[.inRegion [0,7] [4,5,6,7,8,9],.code (.at_ [8])]⟩],
  [⟨61,[],false,none,none,none⟩,
  ⟨36,[],false,none,none,none⟩,
  ⟨52,[.c (.slice none 0 0),.c (.slice none 0 0)],false,none,none,none⟩],
  [],
  0⟩
noncomputable def paN_0 : St := ⟨[⟨7,yfe ++ xr 3 3 ++ [.bool (.lit true)] ++ xr 7 3 ++ [.ptr 2 0,.int .i64 (.lit 1),.ptr 3 0,.int .i64 (.lit 1)] ++ xr 12 46 ++ yfk ++ xr 59 3 ++ yfk ++ [.agg [.c (.slice none 0 0),.c (.slice none 0 0),.int .u64 (.lit 0),.int .u64 (.lit 0),.c (.slice none 0 0),.c (.slice none 0 0),.int .u64 (.lit 0),.int .u64 (.lit 0),.c (.slice none 0 0),.c (.slice none 0 0),.c (.slice none 0 0)],.int .i64 (.lit 1),.int .i64 (.lit 1),.int .i64 (.lit 1)] ++ yg4 ++ [.ptr 2 0] ++ yfx ++ [.ptr 3 0] ++ yfx ++ yg4 ++ [.bool (.lit false),.ptr 2 1] ++ yfx ++ [.ptr 3 1] ++ yfx ++ yg4 ++ [.int .i64 (.lit 1),.bool (.lit true),.ptr 2 0] ++ yfx ++ [.bool (.lit true)] ++ xr 91 31,[.code (.at_ [1,0,1,0,9]),.code (.at_ [10])]⟩],yfn ++ [⟨52,yfr,false,none,none,none⟩,⟨52,yfr ++ yf5,true,none,none,none⟩],[],0⟩
theorem paN_0_end : stEnd Try.prog paN_0 = some (.bool (.lit true)) := by kernel_rfl
theorem paN_run : run Try.prog [] [20,19,17,22] true 900 paN_in = [paN_0] := by kernel_rfl
noncomputable def paG_in : St := ⟨[⟨7,[.x 0,.x 1,.sl (.blk 0) (.v 0) (.e (.v 1)),.x 2,.ptr 1 0,.x 3,.x 4,.x 5,.x 6,.x 7,.x 8,.x 9,.ptr 2 0,.int .i64 (.lit 0),.x 10,.x 11,.x 12,.x 13,.x 14,.x 15,.x 16,.x 17,.x 18,.x 19,.x 20,.x 21,.x 22,.x 23,.x 24,.x 25,.x 26,.x 27,.x 28,.x 29,.x 30,.x 31,.x 32,.x 33,.x 34,.x 35,.x 36,.x 37,.x 38,.x 39,.x 40,.x 41,.x 42,.x 43,.x 44,.x 45,.x 46,.x 47,.x 48,.x 49,.x 50,.x 51,.x 52,.x 53,.x 54,.x 55,.x 56,.x 57,.x 58,.x 59,.x 60,.x 61,.tup [.agg [.sl (.blk 5) (.v 14) (.e (.v 15)),.sl (.blk 6) (.v 16) (.e (.v 17)),.int .u64 (.v 18),.int .u64 (.v 19),.y 5,.y 6,.int .u64 (.v 20),.int .u64 (.v 21),.y 7,.y 8,.y 9],.int .i64 (.lit 0)],.x 62,.x 63,.x 64,.x 65,.x 66,.x 67,.x 68,.x 69,.x 70,.x 71,.x 72,.x 73,.x 74,.x 75,.x 76,.x 77,.x 78,.x 79,.x 80,.x 81,.x 82,.x 83,.x 84,.x 85,.x 86,.x 87,.x 88,.x 89,.x 90,.x 91,.x 92,.x 93,.x 94,.x 95,.x 96,.x 97,.x 98,.x 99,.x 100,.x 101,.x 102,.x 103,.x 104,.x 105,.x 106,.x 107,.x 108,.x 109,.x 110,.x 111,.x 112,.x 113,.x 114,.x 115,.x 116,.x 117,.x 118,.x 119,.x 120,.x 121],[.inRegion [0,7] [4,5,6,7,8,9],.code (.at_ [8])]⟩],
  [⟨61,[],false,none,none,none⟩,
  ⟨36,[.int .i64 (.v 2),.int .i64 (.v 3),.int .i64 (.v 4),.int .i64 (.v 5)],false,none,none,none⟩,
  ⟨52,[.sl (.blk 3) (.v 6) (.e (.v 7)),.sl (.blk 4) (.v 8) (.e (.v 9)),.int .u64 (.v 10),.int .u64 (.v 11),.y 0,.y 1,.int .u64 (.v 12),.int .u64 (.v 13),.y 2,.y 3,.y 4],false,none,none,none⟩,
  ⟨63,[],false,none,none,none⟩,
  ⟨65,[],false,none,none,none⟩,
  ⟨63,[],false,none,none,none⟩,
  ⟨65,[],false,none,none,none⟩],
  [((.cmp .gtr (.tn (.v 6)) (.tn (.v 14))),false),((.cmp .gtr (.tn (.v 8)) (.tn (.v 16))),false),((.cmp .leq (.lit 0) (.tn (.v 6))),true),((.cmp .leq (.tn (.v 6)) (.tn (.v 15))),true),((.cmp .leq (.lit 0) (.tn (.v 8))),true),((.cmp .leq (.tn (.v 8)) (.tn (.v 17))),true)],
  0⟩
noncomputable def paG_0 : St := ⟨[⟨7,yg6 ++ xr 87 35,[.code (.at_ [0,10]),.code (.at_ [11])]⟩],yex,yf3,0⟩
theorem paG_run : run Try.prog [] [20,19,17,22] true 900 paG_in = [paG_0] := by kernel_rfl
noncomputable def paG_0_kd (i : Nat) : Nat := if [7].contains i then 2 else kdAt [] (opsAt Try.prog 7 [0,10]) i
noncomputable def paG_0_p : List Nat := [0,10]
noncomputable def paG_0_ordA : List Nat := [0,1,2,3,4,5,6,7,8,9,10,11,12,13]
noncomputable def paG_0_ordB : List Nat := [0,1,2,3,4,5,6,11,7,8,9,10,12,13]
theorem paG_0_code : codeAt Try.prog 7 [0,10] = some (.region 17 (opsAt Try.prog 7 [0,10]) true) := by kernel_rfl
theorem paG_0_ok : okOrdersV Try.prog (opsAt Try.prog 7 paG_0_p) (masks (opsAt Try.prog 7 paG_0_p)) [7,11] paG_0_kd [(7,paG_0_ordA),(11,paG_0_ordB)] = true := by kernel_rfl
noncomputable def paHa1_ti : List SV := yg6 ++ xr 87 35
noncomputable def paHa1_hi : List HB := yex
noncomputable def paHa1_to : List SV := yg6 ++ xr 87 5 ++ yg8 ++ yf7 ++ xr 99 23
noncomputable def paHa1_ho : List HB := yex
theorem paHa1_grp : sgrp Try.prog (run Try.prog [] [20,19,17,22] true 900) paG_0.facts 0 (opsAt Try.prog 7 [0,10]) paG_0_kd (fun i => i == 7) paG_0.frs.tail [0,1,2,3,4,5,6,7,8,9,10,11,12,13] paHa1_ti paHa1_hi = .halt [7,8,9,10,11,12,13] paHa1_to paHa1_ho := by kernel_rfl
noncomputable def paHa_op : Oper := (opsAt Try.prog 7 [0,10]).getD 7 default
theorem paHa_at : (opsAt Try.prog 7 [0,10])[7]? = some paHa_op := by kernel_rfl
theorem paHa_kdi : paG_0_kd 7 = 2 := by kernel_rfl
theorem paHa_gd : guardOf paG_0.facts (opsAt Try.prog 7 [0,10]) paHa1_to paHa_op = .yes := by kernel_rfl
noncomputable def paHa_args : List SV := yg8 ++ yfh
theorem paHa_call : scall Try.prog paHa1_to paHa_op.op = some (17,paHa_args) := by kernel_rfl
theorem paHa_fresh : (fresh Try.prog 17 paHa_args).isSome = true := by kernel_rfl
noncomputable def paHa2_ti : List SV := yg6 ++ xr 87 5 ++ yez ++ xr 100 22
noncomputable def paHa2_hi : List HB := yex
noncomputable def paHa2_to : List SV := yfv
noncomputable def paHa2_ho : List HB := yfg
theorem paHa2_grp : sgrp Try.prog (run Try.prog [] [20,19,17,22] true 900) paG_0.facts 0 (opsAt Try.prog 7 [0,10]) paG_0_kd (fun _ => false) paG_0.frs.tail [8,9,10,11,12,13] paHa2_ti paHa2_hi = .done paHa2_to paHa2_ho := by kernel_rfl
theorem paHa_set : setD paHa1_to paHa_op.dst (.tup [.agg [.int .u64 (.v 22),.int .u64 (.v 23),.y 10,.y 11,.int .u64 (.v 24),.int .u64 (.v 25),.y 12,.y 13,.y 14],.bool (.lit true)]) = paHa2_ti := by kernel_rfl
noncomputable def paHb1_ti : List SV := yg6 ++ xr 87 35
noncomputable def paHb1_hi : List HB := yex
noncomputable def paHb1_to : List SV := yf2 ++ [.ptr 8 0] ++ xr 13 45 ++ yev ++ xr 87 5 ++ yg8 ++ yf7 ++ xr 99 23
noncomputable def paHb1_ho : List HB := yex ++ [⟨25,yf5,true,none,none,none⟩]
theorem paHb1_grp : sgrp Try.prog (run Try.prog [] [20,19,17,22] true 900) paG_0.facts 0 (opsAt Try.prog 7 [0,10]) paG_0_kd (fun i => i == 7) paG_0.frs.tail [0,1,2,3,4,5,6,11,7,8,9,10,12,13] paHb1_ti paHb1_hi = .halt [7,8,9,10,12,13] paHb1_to paHb1_ho := by kernel_rfl
noncomputable def paHb_op : Oper := (opsAt Try.prog 7 [0,10]).getD 7 default
theorem paHb_at : (opsAt Try.prog 7 [0,10])[7]? = some paHb_op := by kernel_rfl
theorem paHb_kdi : paG_0_kd 7 = 2 := by kernel_rfl
theorem paHb_gd : guardOf paG_0.facts (opsAt Try.prog 7 [0,10]) paHb1_to paHb_op = .yes := by kernel_rfl
noncomputable def paHb_args : List SV := yg8 ++ yfh
theorem paHb_call : scall Try.prog paHb1_to paHb_op.op = some (17,paHb_args) := by kernel_rfl
theorem paHb_fresh : (fresh Try.prog 17 paHb_args).isSome = true := by kernel_rfl
noncomputable def paHb2_ti : List SV := yf2 ++ [.ptr 8 0] ++ xr 13 45 ++ yev ++ xr 87 5 ++ yez ++ xr 100 22
noncomputable def paHb2_hi : List HB := yex ++ [⟨25,yf5,true,none,none,none⟩]
noncomputable def paHb2_to : List SV := yfv
noncomputable def paHb2_ho : List HB := yfg
theorem paHb2_grp : sgrp Try.prog (run Try.prog [] [20,19,17,22] true 900) paG_0.facts 0 (opsAt Try.prog 7 [0,10]) paG_0_kd (fun _ => false) paG_0.frs.tail [8,9,10,12,13] paHb2_ti paHb2_hi = .done paHb2_to paHb2_ho := by kernel_rfl
theorem paHb_set : setD paHb1_to paHb_op.dst (.tup [.agg [.int .u64 (.v 22),.int .u64 (.v 23),.y 10,.y 11,.int .u64 (.v 24),.int .u64 (.v 25),.y 12,.y 13,.y 14],.bool (.lit true)]) = paHb2_ti := by kernel_rfl
noncomputable def paK_in : St := ⟨[⟨7,yfv,[.code (.at_ [11])]⟩],yfg,yf3,0⟩
noncomputable def paK_0 : St := ⟨[⟨7,yfe ++ xr 3 7 ++ yew ++ [.x 120,.x 121],[.inRegion [0,12] [4,5,6],.code (.at_ [13])]⟩],yf4,yf3,0⟩
theorem paK_run : run Try.prog [] [20,19,17,22] true 900 paK_in = [paK_0] := by kernel_rfl
noncomputable def paK_op : Oper := (opsAt Try.prog 7 [0,12]).getD 4 default
theorem paK_at : (opsAt Try.prog 7 [0,12])[4]? = some paK_op := by kernel_rfl
noncomputable def paK_fr : Fr := ⟨7,yfe ++ xr 3 7 ++ yew ++ [.x 120,.x 121],[.inRegion [0,12] [4,5,6],.code (.at_ [13])]⟩
theorem paK_gd : guardOf paK_0.facts (opsAt Try.prog 7 [0,12]) paK_fr.tmps paK_op = .yes := by kernel_rfl
noncomputable def paK_args : List SV := yfw
theorem paK_call : scall Try.prog paK_fr.tmps paK_op.op = some (22,paK_args) := by kernel_rfl
theorem paK_fresh : (fresh Try.prog 22 paK_args).isSome = true := by kernel_rfl
noncomputable def paK_frb : Fr := ⟨7,yfe ++ xr 3 7 ++ yew ++ [.bool (.lit true),.x 121],[.inRegion [0,12] [5,6],.code (.at_ [13])]⟩
theorem paK_put : Fr.put paK_fr paK_op.dst (.bool (.lit true)) ([.inRegion [0,12] [5,6],.code (.at_ [13])]) = paK_frb := by kernel_rfl
noncomputable def paL_in : St := ⟨[⟨7,yfe ++ xr 3 7 ++ yew ++ [.bool (.lit true),.x 121],[.inRegion [0,12] [5,6],.code (.at_ [13])]⟩],yf4,yf3,0⟩
noncomputable def paL_0 : St := ⟨[⟨7,yfe ++ xr 3 3 ++ [.bool (.lit true)] ++ xr 7 3 ++ yew ++ [.bool (.lit true),.bool (.lit true)],[.code (.at_ [13])]⟩],yf4,yf3,0⟩
theorem paL_0_end : stEnd Try.prog paL_0 = some (.bool (.lit true)) := by kernel_rfl
theorem paL_run : run Try.prog [] [20,19,17,22] true 900 paL_in = [paL_0] := by kernel_rfl
end Go.Proofs.Ytonhfgjofgbcdaa.Dr
namespace Go.Proofs.Ytonhfgjofgbcdaa.Dr
set_option linter.unusedSimpArgs false
set_option linter.unusedVariables false
set_option maxRecDepth 20000
open Go Go.Conc Go.RowKit Go.Proofs.Ytonhfgjofgbcdaa.Jay Go.Proofs.Ytonhfgjofgbcdaa.Pl
open Go.Proofs.Ytonhfgjofgbcdaa.St Go.Proofs.Ytonhfgjofgbcdaa.Sx Go.Proofs.Ytonhfgjofgbcdaa.Rf
set_option maxRecDepth 20000
set_option linter.unusedVariables false
set_option linter.unusedSimpArgs false
section
variable {γ : Type} {X : Turns γ} {Stop : γ → Frame → List Frame → World → Prop} {cs₀ : List Frame}
theorem toNat_sub (n : Nat) : ((((n : Int).toNat : Nat) : Int) - 0).toNat = n := by simp
theorem mem_cells {w : World} {B : Nat} {m : Mem} {cs : Array Value} (h : MemC w B m cs) : ∃ v2 v3 v6 v7 v8,cs = #[.int .u64 m.e,.int .u64 m.f,v2,v3,.int .u64 m.h,.int .u64 m.t,v6,v7,v8] ∧ ysA [v2,v3,v6,v7,v8] := by
  obtain ⟨v2,v3,v6,v7,v8,h0,u2,u3,u6,u7,u8⟩ := h
  exact ⟨v2,v3,v6,v7,v8,h0,one_of_us u2,one_of_us u3,one_of_us u6,one_of_us u7,one_of_us u8,trivial⟩
theorem paBoth {s : γ} {W w : World} {k K T Mn : Int} {R1 R : Rw} {np : Nat} {A1 B1 A2 B2 AP : Option Addr} {c1 d1 c2 d2 cP gA gC : Nat} {cE cF : Array Value} {ρs : Env} {q0 qC qA : Seg} (hb : Below W.heap.size W w) (hth : X.there s w) (hbk : ∀ w',Below W.heap.size W w' → X.there s w' → EndsT Try.prog X Stop 7 cs₀ s (.bool true) w')
    (hs1 : Rp.Sps w w.heap.size (.slice A1 R1.steps.length c1) R1.steps) (hk1 : Sl w w.heap.size 7 (.slice B1 R1.steps.length d1) R1.steps.length ((callsOf R1.steps).flatMap Rc.cells)) (hE : MemC w w.heap.size R1.mem cE) (hsm : R1.mem.small)
    (hs2 : Rp.Sps w w.heap.size (.slice A2 R.steps.length c2) R.steps) (hk2 : Sl w w.heap.size 7 (.slice B2 R.steps.length d2) R.steps.length ((callsOf R.steps).flatMap Rc.cells)) (hF : MemC w w.heap.size R.mem cF)
    (hle : R1.steps.length ≤ R.steps.length) (htk : R.steps.take R1.steps.length = R1.steps) (hlaw : Rp.whole k K T Mn R1.steps = some R1.mem)
    (hT : Blk w gA 52 (#[.slice A1 R1.steps.length c1,.slice B1 R1.steps.length d1] ++ cE)) (hC : Blk w gC 36 #[.int .i64 k,.int .i64 K,.int .i64 T,.int .i64 Mn])
    (hq0 : q0.adr = AP ∧ q0.g < w.heap.size) (hqC : Whl qC gC) (hqA : Whl qA gA) (hsi : ρs.ints = [(np : Int),(cP : Int),0]) (hsk : ρs.blks = [q0,qC,qA]) (hsp : ρs.perms = []) (hsl : ρs.xs.length = 123) (hsx : ρs.xs.getD 122 undef = .tuple #[.agg (#[.slice A2 R.steps.length c2,.slice B2 R.steps.length d2] ++ cF),.int .i64 0]) : Fr.reach Try.prog X Stop s cs₀ ρs pa4_p.frs w := by
  have hml : maxLen = 9223372036854775807 := rfl
  have hE0 := hE
  obtain ⟨v2,v3,v6,v7,v8,hcE,hyE⟩ := mem_cells hE
  obtain ⟨y2,y3,y6,y7,y8,hcF,hyF⟩ := mem_cells hF
  obtain ⟨g1,b1,o1,pre1,post1,cap1,ad1⟩ := qC
  obtain ⟨rfl,rfl,rfl,rfl⟩ : g1 = _ ∧ o1 = _ ∧ pre1 = _ ∧ post1 = _ := hqC
  obtain ⟨g2,b2,o2,pre2,post2,cap2,ad2⟩ := qA
  obtain ⟨rfl,rfl,rfl,rfl⟩ : g2 = _ ∧ o2 = _ ∧ pre2 = _ ∧ post2 = _ := hqA
  have hcap1 : R.steps.length ≤ c2 ∧ c2 ≤ maxLen := by obtain ⟨_,_,e,h1,h2⟩ := Sl.form hs2; cases e; exact ⟨h1,h2⟩
  have hcap2 : R.steps.length ≤ d2 ∧ d2 ≤ maxLen := by obtain ⟨_,_,e,h1,h2⟩ := Sl.form hk2; cases e; exact ⟨h1,h2⟩
  have hs3 : Rp.Sps w w.heap.size (.slice A2 R1.steps.length c2) R1.steps := by
    have h := sl_take Sp_len hs2 hle
    rw [htk] at h
    exact h
  have hk3 : Sl w w.heap.size 7 (.slice B2 (callsOf R1.steps).length d2) (callsOf R1.steps).length ((callsOf R1.steps).flatMap Rc.cells) := by
    have h := sl_take (l := callsOf R.steps) (k := R1.steps.length) Rc.len (by rw [callsOf_len]; exact hk2) (by rw [callsOf_len]; exact hle)
    rw [callsOf_take,htk] at h
    rw [show (callsOf R1.steps).length = R1.steps.length from callsOf_len _] at h ⊢
    exact h
  have hk4 : Sl w w.heap.size 7 (.slice B1 (callsOf R1.steps).length d1) (callsOf R1.steps).length ((callsOf R1.steps).flatMap Rc.cells) := by
    rw [callsOf_len]
    exact hk1
  obtain ⟨n1,hn1⟩ : ∃ n,n = R1.steps.length := ⟨_,rfl⟩
  obtain ⟨n2,hn2⟩ : ∃ n,n = R.steps.length := ⟨_,rfl⟩
  have hs3o := hs3
  rw [← hn1] at hT hle hs3
  rw [← hn2] at hle hsx hcap1 hcap2
  let ρ : Env := { ints := [(np : Int),(cP : Int),k,K,T,Mn,(n1 : Int),(c1 : Int),(n1 : Int),(d1 : Int),R1.mem.e,R1.mem.f,R1.mem.h,R1.mem.t,(n2 : Int),(c2 : Int),(n2 : Int),(d2 : Int),R.mem.e,R.mem.f,R.mem.h,R.mem.t],xs := ρs.xs,ys := [v2,v3,v6,v7,v8,y2,y3,y6,y7,y8],blks := [q0,⟨g1,b1,0,[],[],cap1,ad1⟩,⟨g2,b2,0,[],[],cap2,ad2⟩,⟨g1,0,0,[],[],0,some A1⟩,⟨g1,0,0,[],[],0,some B1⟩,⟨g1,0,0,[],[],0,some A2⟩,⟨g1,0,0,[],[],0,some B2⟩] }
  refine reach_conv (frs' := paG_in.frs) (ρ' := ρ) (conv_one (fr' := paG_in.frs.headD default) (fr := pa4_p.frs.headD default) rfl rfl hsp.symm ?_) ?_
  · rw [hcF] at hsx
    show dens ρ (paG_in.frs.headD default).tmps = dens ρs (pa4_p.frs.headD default).tmps
    obtain ⟨si,sb,sx,sy,sk,sp⟩ := ρs
    dsimp only at hsi hsk hsx
    subst hsi hsk
    simp only [paG_in,pa4_p,List.headD_cons,dens,SV.den]
    rw [hsx]
    rfl
  have hr : Rep X s (ours ρ paG_in.heap) w ρ paG_in.heap paG_in.facts 0 w := by
    refine Rep.start hth (ysA_ok ⟨hyE.1,hyE.2.1,hyE.2.2.1,hyE.2.2.2.1,hyE.2.2.2.2.1,hyF⟩) rfl ⟨⟨hq0.2,if_ro rfl cells_none,trivial,trivial,rfl⟩,⟨hC.lt,if_ro rfl (cells_blk hC rfl rfl),trivial,trivial,rfl⟩,⟨hT.lt,if_ro rfl (cells_blk (by rw [hcE] at hT; exact hT) rfl rfl),trivial,trivial,rfl⟩,⟨hC.lt,if_ro rfl cells_none,trivial,trivial,rfl⟩,⟨hC.lt,if_ro rfl cells_none,trivial,trivial,rfl⟩,⟨hC.lt,if_ro rfl cells_none,trivial,trivial,rfl⟩,⟨hC.lt,if_ro rfl cells_none,trivial,trivial,rfl⟩,trivial⟩ ⟨⟨(fun e => nomatch e),(fun e => nomatch e),(fun e => nomatch e),(fun e => nomatch e),(fun e => nomatch e),(fun e => nomatch e),trivial⟩,⟨(fun e => nomatch e),(fun e => nomatch e),(fun e => nomatch e),(fun e => nomatch e),(fun e => nomatch e),trivial⟩,⟨(fun e => nomatch e),(fun e => nomatch e),(fun e => nomatch e),(fun e => nomatch e),trivial⟩,⟨(fun e => nomatch e),(fun e => nomatch e),(fun e => nomatch e),trivial⟩,⟨(fun e => nomatch e),(fun e => nomatch e),trivial⟩,⟨(fun e => nomatch e),trivial⟩,trivial,trivial⟩ (factsA_ok ⟨?_,?_,?_,?_,?_,?_,trivial⟩) rfl
    · exact decide_eq_false (by show ¬ (((n1 : Int).toNat : Int)) > (((n2 : Int)).toNat : Int); omega)
    · exact decide_eq_false (by show ¬ (((n1 : Int).toNat : Int)) > (((n2 : Int)).toNat : Int); omega)
    · exact decide_eq_true (by show (0 : Int) ≤ (((n1 : Int).toNat : Int)); omega)
    · exact decide_eq_true (by show (((n1 : Int).toNat : Int)) ≤ (((c2 : Int)).toNat : Int); omega)
    · exact decide_eq_true (by show (0 : Int) ≤ (((n1 : Int).toNat : Int)); omega)
    · exact decide_eq_true (by show (((n1 : Int).toNat : Int)) ≤ (((d2 : Int)).toNat : Int); omega)
  have KK : ∀ (S' : Nat → Prop) (w₁ : World) (ρ2 : Env) (w2 : World) (cR : Array Value),Rep X s S' w₁ ρ2 paK_in.heap paK_in.facts 0 w2 → Below w.heap.size w w2 → MemC w2 w2.heap.size R1.mem cR → (∃ z2 z3 z6 z7 z8,cR = #[.int .u64 R1.mem.e,.int .u64 R1.mem.f,z2,z3,.int .u64 R1.mem.h,.int .u64 R1.mem.t,z6,z7,z8] ∧ ρ2.ys = ρ.ys ++ [z2,z3,z6,z7,z8]) → ρ2.ints = ρ.ints ++ [R1.mem.e,R1.mem.f,R1.mem.h,R1.mem.t] → (∀ j,j < 7 → ρ2.blks.getD j {} = ρ.blks.getD j {}) → (∀ g,ours ρ2 paK_in.heap g → w.heap.size ≤ g ∧ Off g cR) → Fr.reach Try.prog X Stop s cs₀ ρ2 paK_in.frs w2 := by
    intro S' w₁ ρ2 w2 cR hr2 hbl hMR hcR hi2 hk2' hou
    obtain ⟨z2,z3,z6,z7,z8,hcR,hy2⟩ := hcR
    refine sx_run 900 paK_run hr2.rebase ⟨fun ρ3 w3 hx3 hr3 => ?_,trivial⟩
    show Fr.reach _ X Stop s cs₀ ρ3 [paK_fr] w3
    have hb23 : Below w.heap.size w2 w3 := hr3.chg.below (fun g hg => (hou g hg).1) hbl.size
    have hb3 : Below w.heap.size w w3 := hbl.trans hb23
    have hW3 : 0 < w3.heap.size := Nat.lt_of_le_of_lt (Nat.zero_le _) (Nat.lt_of_lt_of_le hC.lt hb3.size)
    have hm3 : MemC w3 w3.heap.size R1.mem cR := (MemC.chg hMR (Nat.le_refl _) hr3.chg fun g hg => (hou g hg).2).more hr3.chg.size
    have hm1 : MemC w3 w3.heap.size R1.mem cE := (MemC.chg hE0 (Nat.le_refl _) (Chg.of_below (S := fun _ => False) hb3) fun g hg => hg.elim).more hb3.size
    have hsame := same03 (X := X) (s := s) (w := w3) (S := R1.steps) (C := callsOf R1.steps) (S1 := A1) (S2 := A2) (c1 := c1) (c2 := c2) ((Sl.below hs1 hb3).more hb3.size) ((Sl.below hs3o hb3).more hb3.size) ((hk4.below hb3).more hb3.size) ((hk3.below hb3).more hb3.size) hm1 hm3 hsm hW3
    rw [callsOf_len,← hn1] at hsame
    refine sx_call (fr := paK_fr) (callers := []) (ht := rfl) paK_at paK_gd paK_call paK_fresh hr3 (Post := fun s' r w' => s' = s ∧ Below w3.heap.size w3 w' ∧ r = .back (.bool true)) ?_ (fun s' v w4 hp ht4 => ?_) (fun s' ch w' hp _ => by obtain ⟨_,_,e⟩ := hp; cases e)
    · rwa [show (dens ρ3 paK_args).toArray = #[.agg (#[.slice A1 n1 c1,.slice B1 n1 d1] ++ cE),.agg (#[.slice A2 n1 c2,.slice B2 n1 d2] ++ cR)] by
        have hi3 : ρ3.ints = ρ.ints ++ [R1.mem.e,R1.mem.f,R1.mem.h,R1.mem.t] := hx3.ints.trans hi2
        have hy3 : ρ3.ys = ρ.ys ++ [z2,z3,z6,z7,z8] := hx3.ys.trans hy2
        have hk3' : ∀ j,j < 7 → ρ3.blks.getD j {} = ρ.blks.getD j {} := fun j hj => by
          have h9 : ρ2.blks.length = 9 := hr2.len
          rw [hx3.blk (by omega),hk2' j hj]
        show #[Value.agg #[.slice (ρ3.blks.getD 3 {}).adr (ρ3.ints.getD 6 0).toNat (ρ3.ints.getD 7 0).toNat,.slice (ρ3.blks.getD 4 {}).adr (ρ3.ints.getD 8 0).toNat (ρ3.ints.getD 9 0).toNat,.int .u64 (ρ3.ints.getD 10 0),.int .u64 (ρ3.ints.getD 11 0),ρ3.ys.getD 0 .nilFunc,ρ3.ys.getD 1 .nilFunc,.int .u64 (ρ3.ints.getD 12 0),.int .u64 (ρ3.ints.getD 13 0),ρ3.ys.getD 2 .nilFunc,ρ3.ys.getD 3 .nilFunc,ρ3.ys.getD 4 .nilFunc],
          .agg #[.slice (BA.den ρ3 (.sh (.blk 5) (.lit 0) (.v 15) 8)) ((((ρ3.ints.getD 6 0).toNat : Nat) : Int) - 0).toNat ((((ρ3.ints.getD 15 0).toNat : Nat) : Int) - 0).toNat,.slice (BA.den ρ3 (.sh (.blk 6) (.lit 0) (.v 17) 7)) ((((ρ3.ints.getD 8 0).toNat : Nat) : Int) - 0).toNat ((((ρ3.ints.getD 17 0).toNat : Nat) : Int) - 0).toNat,.int .u64 (ρ3.ints.getD 22 0),.int .u64 (ρ3.ints.getD 23 0),ρ3.ys.getD 10 .nilFunc,ρ3.ys.getD 11 .nilFunc,.int .u64 (ρ3.ints.getD 24 0),.int .u64 (ρ3.ints.getD 25 0),ρ3.ys.getD 12 .nilFunc,ρ3.ys.getD 13 .nilFunc,ρ3.ys.getD 14 .nilFunc]] = _
        rw [ba_zero,ba_zero]
        simp only [BA.den]
        rw [hi3,hy3,hk3' 3 (by decide),hk3' 4 (by decide),hk3' 5 (by decide),hk3' 6 (by decide),hcE,hcR]
        show #[Value.agg #[.slice A1 n1 c1,.slice B1 n1 d1,.int .u64 R1.mem.e,.int .u64 R1.mem.f,v2,v3,.int .u64 R1.mem.h,.int .u64 R1.mem.t,v6,v7,v8],.agg #[.slice A2 ((((n1 : Int).toNat : Nat) : Int) - 0).toNat ((((c2 : Int).toNat : Nat) : Int) - 0).toNat,.slice B2 ((((n1 : Int).toNat : Nat) : Int) - 0).toNat ((((d2 : Int).toNat : Nat) : Int) - 0).toNat,.int .u64 R1.mem.e,.int .u64 R1.mem.f,z2,z3,.int .u64 R1.mem.h,.int .u64 R1.mem.t,z6,z7,z8]] = _
        rw [toNat_sub,toNat_sub,toNat_sub]
        rfl]
    obtain ⟨rfl,hb4,ev⟩ := hp
    cases ev
    refine reach_put (sv := .bool (.lit true)) rfl ?_
    rw [paK_put]
    have hr4 := (hr3.below hb4).rebase
    refine sx_run 900 paL_run hr4 ⟨fun ρ5 w5 hx5 hr5 => ?_,trivial⟩
    have hb5 : Below w.heap.size w4 w5 := hr5.chg.below (fun g hg => by
      obtain ⟨i,x,hx,hw,rfl⟩ := hg
      rcases hr3.inS i x hx hw with h1 | h1
      · exact (hou _ h1).1
      · exact Nat.le_trans hbl.size h1) (Nat.le_trans hb3.size hb4.size)
    exact sx_endE (v := _) paL_0_end rfl hr5.rep (hbk w5 (hb.trans ((hb3.trans ((hb4.mono hb3.size).trans hb5)).mono hb.size)) hr5.there)
  refine sx_run 900 paG_run hr ⟨fun ρ1 w1 hx1 hr1 => ?_,trivial⟩
  have hb1 : Below w.heap.size w w1 := hr1.chg.below (fun k hk => absurd hk (ours_ro rfl k)) (Nat.le_refl _)
  have hlb1 : ρ1.blks.length = 8 := hr1.len
  have hL1 : ρ1.lens = ⟨22,0,123,10,8⟩ := by
    simp only [Env.lens,hlb1,hx1.ints,hx1.bools,hx1.xs,hx1.ys]
    show Lens.mk 22 0 ρs.xs.length 10 8 = _
    rw [hsl]
  let Post : World → γ → Came → World → Prop := fun w1 => Rp.RRepPost s w1 (some R1.mem)
  have HJ : ∀ (args : List SV) (h1 : List HB) (ρ' : Env) (w' : World),args = paHa_args → Ext ρ1 ρ' → Rep X s (ours ρ paG_in.heap) w ρ' h1 paG_0.facts 0 w' → Jdo Try.prog X 17 (dens ρ' args).toArray s w' (Post w') := by
    intro args h1 ρ' w' ha hx' hr'
    subst ha
    have hb' : Below w.heap.size w w' := hr'.chg.below (fun k hk => absurd hk (ours_ro rfl k)) (Nat.le_refl _)
    have hrep := Rp.rrep (X := X) (s := s) (w := w') (k := k) (K := K) (T := T) (M := Mn) (l := R1.steps) ((Sl.below hs3o hb').more hb'.size) (Nat.le_refl _)
    rw [hlaw,← hn1] at hrep
    rwa [show (dens ρ' paHa_args).toArray = #[cfg k K T Mn,.slice A2 n1 c2] by
      show #[Value.agg #[.int .i64 (ρ'.ints.getD 2 0),.int .i64 (ρ'.ints.getD 3 0),.int .i64 (ρ'.ints.getD 4 0),.int .i64 (ρ'.ints.getD 5 0)],.slice (BA.den ρ' (.sh (.blk 5) (.lit 0) (.v 15) 8)) ((((ρ'.ints.getD 6 0).toNat : Nat) : Int) - 0).toNat ((((ρ'.ints.getD 15 0).toNat : Nat) : Int) - 0).toNat] = _
      rw [ba_zero]
      simp only [BA.den]
      rw [hx'.ints,hx1.ints,hx'.blk (by omega),hx1.blk (show 5 < 7 by decide)]
      show #[Value.agg #[.int .i64 k,.int .i64 K,.int .i64 T,.int .i64 Mn],.slice A2 ((((n1 : Int).toNat : Nat) : Int) - 0).toNat ((((c2 : Int).toNat : Nat) : Int) - 0).toNat] = _
      rw [toNat_sub,toNat_sub]
      rfl]
  have HB : ∀ (h1 : List HB) (n : Nat) (ρ' : Env) (w' : World),h1.length = n → 8 ≤ n → heapOk ⟨22,0,123,10,n⟩ h1 = true → Ext ρ1 ρ' → Rep X s (ours ρ paG_in.heap) w ρ' h1 paG_0.facts 0 w' → ∀ s' v w'',Post w' s' (.back v) w'' → X.there s' w'' → ∃ (S' : Nat → Prop) (w₁ : World) (ai : List Int) (ab : List Bool) (ax ay : List Value),v = SV.den (ρ'.grow ai ab ax ay []) (.tup [.agg [.int .u64 (.v 22),.int .u64 (.v 23),.y 10,.y 11,.int .u64 (.v 24),.int .u64 (.v 25),.y 12,.y 13,.y 14],.bool (.lit true)]) ∧ Rep X s' S' w₁ (ρ'.grow ai ab ax ay []) h1 paG_0.facts 0 w'' ∧ ∀ ρ'' w3,Ext (ρ'.grow ai ab ax ay []) ρ'' → Rep X s' S' w₁ ρ'' paK_in.heap paK_in.facts 0 w3 → Fr.reach Try.prog X Stop s' cs₀ ρ'' paK_in.frs w3 := by
    intro h1 n ρ' w' hn hn8 hok hx' hr' s' v w'' hp ht2
    obtain ⟨rfl,hb2,cR,hMR,ev,hoff⟩ := hp
    cases ev
    have hlb' : ρ'.blks.length = n := hr'.len.trans hn
    have hL' : ρ'.lens = ⟨22,0,123,10,n⟩ := by
      have h1 : ρ1.ints.length = 22 := congrArg Lens.ni hL1
      have h2 : ρ1.bools.length = 0 := congrArg Lens.nb hL1
      have h3 : ρ1.xs.length = 123 := congrArg Lens.nx hL1
      have h4 : ρ1.ys.length = 10 := congrArg Lens.ny hL1
      simp only [Env.lens,hx'.ints,hx'.bools,hx'.xs,hx'.ys,hlb',h1,h2,h3,h4]
    have hMR0 : MemC w'' w''.heap.size R1.mem cR := hMR
    obtain ⟨z2,z3,z6,z7,z8,hcR,hyR⟩ := mem_cells hMR0
    have hi' : ρ'.ints = ρ.ints := hx'.ints.trans hx1.ints
    have hy' : ρ'.ys = ρ.ys := hx'.ys.trans hx1.ys
    have hb0 : Below w.heap.size w w' := hr'.chg.below (fun k hk => absurd hk (ours_ro rfl k)) (Nat.le_refl _)
    refine ⟨ours ρ' h1,w'',[R1.mem.e,R1.mem.f,R1.mem.h,R1.mem.t],[],[],[z2,z3,z6,z7,z8],?_,(hr'.below hb2).rebase.grow_ hL' hok rfl _ _ _ _ (ysA_ok hyR),fun ρ'' w3 hx'' hr'' => ?_⟩
    · have h1 : (ρ'.grow [R1.mem.e,R1.mem.f,R1.mem.h,R1.mem.t] [] [] [z2,z3,z6,z7,z8] []).ints = ρ.ints ++ [R1.mem.e,R1.mem.f,R1.mem.h,R1.mem.t] := by simp only [Env.grow,hi']
      have h2 : (ρ'.grow [R1.mem.e,R1.mem.f,R1.mem.h,R1.mem.t] [] [] [z2,z3,z6,z7,z8] []).ys = ρ.ys ++ [z2,z3,z6,z7,z8] := by simp only [Env.grow,hy']
      generalize ρ'.grow _ _ _ _ _ = ρg at h1 h2
      show _ = Value.tuple #[.agg #[.int .u64 (ρg.ints.getD 22 0),.int .u64 (ρg.ints.getD 23 0),ρg.ys.getD 10 .nilFunc,ρg.ys.getD 11 .nilFunc,.int .u64 (ρg.ints.getD 24 0),.int .u64 (ρg.ints.getD 25 0),ρg.ys.getD 12 .nilFunc,ρg.ys.getD 13 .nilFunc,ρg.ys.getD 14 .nilFunc],.bool true]
      rw [h1,h2,hcR]
      rfl
    · have hou1 : ∀ g,ours ρ' h1 g → w.heap.size ≤ g ∧ Off g cR := fun g hg => by
        obtain ⟨i,x,hx,hw,rfl⟩ := hg
        refine ⟨?_,hoff _ (hr'.bnd i (List.getElem?_eq_some_iff.1 hx).1)⟩
        rcases hr'.inS i x hx hw with h3 | h3
        · exact absurd h3 (ours_ro rfl _)
        · exact h3
      have hle2 : w.heap.size ≤ w''.heap.size := Nat.le_trans hb0.size hb2.size
      refine KK _ _ ρ'' w3 cR hr'' ((hb0.trans (hb2.mono hb0.size)).trans (hr''.chg.below (fun g hg => (hou1 g hg).1) hle2)) ((MemC.chg hMR0 (Nat.le_refl _) hr''.chg fun g hg => (hou1 g hg).2).more hr''.chg.size) ⟨z2,z3,z6,z7,z8,hcR,?_⟩ ?_ (fun j hj => ?_) (fun g hg => ?_)
      · rw [hx''.ys]
        simp only [Env.grow,hy']
      · rw [hx''.ints]
        simp only [Env.grow,hi']
      · rw [hx''.blk (by simp [Env.grow]; omega)]
        show (ρ'.blks ++ []).getD j {} = _
        rw [List.append_nil,hx'.blk (by omega),hx1.blk (show j < 7 from hj)]
      · obtain ⟨i,x,hx,hw,rfl⟩ := hg
        rcases hr''.inS i x hx hw with h3 | h3
        · exact hou1 _ h3
        · exact ⟨Nat.le_trans hle2 h3,off_of_memC hMR0 h3⟩
  show Fr.reach _ X Stop s cs₀ ρ1 [paG_0.frs.headD default] w1
  refine sx_two (fr := paG_0.frs.headD default) (callers := []) (p := paG_0_p) (k := (paG_0.frs.headD default).todo.tail) paG_0_kd [7,11] [(7,paG_0_ordA),(11,paG_0_ordB)] rfl paG_0_code rfl paG_0_ok hr1 ⟨?_,?_,trivial⟩
  · exact da_around (k := (paG_0.frs.headD default).todo.tail) 900 (fun ρ' => (dens ρ' paHa_args).toArray) (.tup [.agg [.int .u64 (.v 22),.int .u64 (.v 23),.y 10,.y 11,.int .u64 (.v 24),.int .u64 (.v 25),.y 12,.y 13,.y 14],.bool (.lit true)]) paHa1_grp paHa2_grp (kd_acts [7] [] _) paHa_at paHa_kdi paHa_gd paHa_set (fun ρ' w hx => run_scall paHa_call paHa_fresh ρ' w) hr1 (L := ⟨22,0,123,10,8⟩) (by rw [hL1]; rfl) (by kernel_rfl) rfl (Post := fun _ => Post) (fun ρ' w1 hx' hr' => HJ _ _ ρ' w1 rfl hx' hr') (fun ρ' w1 hx' hr' => HB _ 8 ρ' w1 rfl (by decide) (by kernel_rfl) hx' hr') (fun ρ' w1 s' ch w' hp => by obtain ⟨_,_,_,_,e,_⟩ := hp; cases e)
  · exact da_around (k := (paG_0.frs.headD default).todo.tail) 900 (fun ρ' => (dens ρ' paHb_args).toArray) (.tup [.agg [.int .u64 (.v 22),.int .u64 (.v 23),.y 10,.y 11,.int .u64 (.v 24),.int .u64 (.v 25),.y 12,.y 13,.y 14],.bool (.lit true)]) paHb1_grp paHb2_grp (kd_acts [7] [] _) paHb_at paHb_kdi paHb_gd paHb_set (fun ρ' w hx => run_scall paHb_call paHb_fresh ρ' w) hr1 (L := ⟨22,0,123,10,9⟩) (by rw [hL1]; rfl) (by kernel_rfl) rfl (Post := fun _ => Post) (fun ρ' w1 hx' hr' => HJ _ _ ρ' w1 rfl hx' hr') (fun ρ' w1 hx' hr' => HB _ 9 ρ' w1 rfl (by decide) (by kernel_rfl) hx' hr') (fun ρ' w1 s' ch w' hp => by obtain ⟨_,_,_,_,e,_⟩ := hp; cases e)
end
end Go.Proofs.Ytonhfgjofgbcdaa.Dr
