/- CompactTwice: a chunk that was cleared is cleared again by doing nothing, and is not the worst one: the law returns true for every input. No condition. -/
import Derived.Test.YtbigkioechkngaaGreatR27
set_option maxRecDepth 100000
set_option maxHeartbeats 8000000
namespace Go.Proofs.YtbigkioechkngaaGreat.compactTwice
open Go.Stop Go.ChangeShapes Go.WideShapes Go.ChangeAt Go.RowKit
theorem walk (W:World) (p:cm) (u:PV) (n:Int) (h:br W p u) (h1 : -9223372036854775808≤n) (h2:n≤9223372036854775807) :
 Calls Tryz.prog 7 #[eY p u,.int .i64 n] W fun e W'=>e=.returned (.bool true)∧Bw W W':=LL p u n ⟨h1,h2⟩ W h
theorem contract (H:Type) (enc:TypeId×Value→H) (W:World) (base:Nat) (args:Array Value) (ds gs:List (DataW H)) (before:List MemPlace)
 (hval:∀(j:Nat) t v,Tryz.f7.params[j]?=some t→args[j]?=some v→Value.okWide Tryz.prog W .any base t v)
 (hW:DataW.Whole enc Tryz.prog Tryz.f7.params.toList Rows.compactTwiceSpec.vars false W args.toList ds gs before) :
 Calls Tryz.prog 7 args W fun e W'=>∃v,e=.returned v∧Rows.compactTwiceSpec.post enc Tryz.prog Tryz.f7 false true false false W args v W':=by
 have hW':=hW;obtain ⟨p,q,hA0,hV,rfl,rB,rG⟩:=hW;have hA:DataW.TrodAll enc Tryz.prog W 0 (fun _=>true) true Tryz.f7.params.toList args.toList ds p:=hA0;rw[Tryz.params7] at hA hval;obtain ⟨v0,vs0,d0,ds0,p0,q0,apQ,rfl,rfl,h0,r0⟩:=trodAll_cons hA;obtain ⟨v1,vs1,d1,ds1,p1,q1,rfl,rfl,rfl,h1,r1⟩:=trodAll_cons r0;obtain ⟨rfl,rfl,rfl⟩:=trodAll_nil r1;obtain rfl:args = #[v0,v1]:=by cases args;simp_all
 obtain ⟨rfl,rfl⟩:=trodVars_none hV;obtain ⟨a0,u0,rfl,ha0⟩:=LR (hval 0 30 v0 rfl rfl) h0;obtain ⟨a1,rfl,rfl,rfl,wa1⟩:=open_int Tryz.underlying3 (hval 1 3 v1 rfl rfl) h1;clear hA0;simp only[List.append_nil] at hW';refine (walk W a0 u0 a1 ha0 (Bv wa1).1 (Bv wa1).2).mono fun e W' ⟨he,hg⟩=>?_;subst he;exact ⟨_,rfl,TJ laidOut (by rw[Tryz.params7];intro t ht;simp only[List.mem_cons,List.not_mem_nil,or_false] at ht;rcases ht with rfl|rfl <;> exact ⟨by kernel_rfl,of_decide_eq_true (by kernel_rfl)⟩) rfl (show Tryz.f7.resultTypes = #[4] by kernel_rfl) Tryz.underlying4 hW' hg rfl⟩
theorem reads (os:Os) {H:Type} (enc:TypeId×Value→H):∃places,DataW.whole enc Tryz.prog ((DR os).forCall (fun _ _=>0) ⟨#[],(#[.agg #[.slice none 0 0,.slice none 0 0,.int .i64 0,.slice none 0 0,.bool false,.int .i64 0,.int .i64 0,.int .i64 0,.slice none 0 0,.slice none 0 0],.int .i64 0]:Array Value),[]⟩).memory Tryz.f7.params.toList Rows.compactTwiceSpec.vars false (#[.agg #[.slice none 0 0,.slice none 0 0,.int .i64 0,.slice none 0 0,.bool false,.int .i64 0,.int .i64 0,.int .i64 0,.slice none 0 0,.slice none 0 0],.int .i64 0]:Array Value).toList 8=some ([.agg [.agg [.nil,.nil,.lit (.int .i64 0),.nil,.lit (.bool false)],.lit (.int .i64 0),.lit (.int .i64 0),.lit (.int .i64 0),.nil,.nil],.lit (.int .i64 0)],[],places):=
 ⟨[],by kernel_rfl⟩
theorem lifted (os:Os) (started:os.Started) (H:Type) (enc:TypeId×Value→H) (F:Stop.Interp) :
 ReturnsInHanded {} Tryz.checked os 7 .any ((OpenSpec.ofChange Rows.compactTwiceSpec).preRow enc Tryz.prog Tryz.f7 Rows.compactTwiceRow.domain false Rows.compactTwiceRow.laid) (((OpenSpec.ofChange Rows.compactTwiceSpec).at F).post enc Tryz.prog Tryz.f7 false true false false):=by
 obtain ⟨places,hx⟩:=reads os enc;refine returnsInHanded_of_row (C:=Tryz.checked) (s:=OpenSpec.ofChange Rows.compactTwiceSpec) own started (by kernel_rfl) Tryz.func7
  (witness_row_at (enc:=enc) (C:=Tryz.checked) false (DR os) #[.agg #[.slice none 0 0,.slice none 0 0,.int .i64 0,.slice none 0 0,.bool false,.int .i64 0,.int .i64 0,.int .i64 0,.slice none 0 0,.slice none 0 0],.int .i64 0] rfl (by kernel_rfl) (by kernel_rfl) (by kernel_rfl)
   (OpenSpec.preRow_of_cond 8 hx (by kernel_rfl) (fun k hk=>by cases hk) (by kernel_rfl) (TM _))) ?_
 intro W base args ds gs before hval hW _ _ _ _ _ _;exact contract H enc W base args ds gs before hval hW
theorem said:Rows.CompactTwiceSaid:=
 OpenClaim.holds_of_cond 7 Tryz.f7 rfl rfl rfl rfl rfl rfl rfl ⟨rfl,rfl,rfl,rfl,rfl⟩ rfl rfl rfl rfl rfl (by kernel_rfl) Tryz.func7 (by kernel_rfl)
  (of_decide_eq_true (by kernel_rfl)) (by unfold Func.isWrapper;first|(rw[if_pos (by decide +kernel)];kernel_rfl)|(rw[if_neg (by decide +kernel)];exact ⟨rfl,rfl⟩))
  (fun os started H enc _ F=>by rw[OpenClaim.pre_eq_preRow];exact lifted os started H enc F)
end Go.Proofs.YtbigkioechkngaaGreat.compactTwice
