/-
  BrokerRight: for every input that holds together at most 1048576 values and letters the law BrokerRight returns true, and each argument reads afterwards as it did. No further condition. By an AI agent.
-/
import Derived.Test.YtkhakgbnfapifaaGreatDoorW23
import Derived.Deep.DeepHandedRow
import Derived.Lib.LaidTab
import Derived.Test.YtkhakgbnfapifaaGreatDoorCards
import Derived.Test.YtkhakgbnfapifaaGreatDoorTie
set_option linter.unusedSimpArgs false
set_option linter.unusedVariables false
namespace Go.Proofs.YtkhakgbnfapifaaGreatDoor.clBrokerRight
open Go Go.Sx Go.ChangeShapes Go.WideShapes Go.ChangeAt Go.RowKit
open Go.ChangeMaps (open_string shut_string)
set_option maxRecDepth 100000
theorem bulkAll_eq {H:Type}:∀l:List (DataW H),Rows.uptoBulkAll l=(l.map Rows.uptoBulk).sum
  | []=>by simp[Rows.uptoBulkAll]
  | d::l=>by simp[Rows.uptoBulkAll,bulkAll_eq l]
theorem bulkOK {H:Type}:Bulk (Rows.uptoBulk (H:=H)):=by
  refine⟨fun l=>?_,fun l r=>?_,fun s=>?_,fun d=>?_⟩
  . rw[Rows.uptoBulk,bulkAll_eq];omega
  . rw[Rows.uptoBulk,bulkAll_eq];omega
  . rw[Rows.uptoBulk];omega
  . cases d with
    | lit l=>cases l<;>simp[Rows.uptoBulk]
    | _=>simp[Rows.uptoBulk]
theorem own:ownKnob Tryz.prog.godebug=none:=by kernel_rfl
theorem contract (H:Type) (enc:TypeId×Value->H) (W:World) (base:Nat) (args:Array Value) (ds gs:List (DataW H)) (before:List MemPlace) (hval:∀(j:Nat) t v,Tryz.f8.params[j]?=some t->args[j]?=some v->Value.okWide Tryz.prog W .any base t v) (hW:DataW.Whole enc Tryz.prog Tryz.f8.params.toList Rows.brokerRightSpec.vars false W args.toList ds gs before) (hk:Rows.uptoSmall H (ds++gs)=true) : Calls Tryz.prog 8 args W fun e W'=>∃v,e=.returned v/\Rows.brokerRightSpec.post enc Tryz.prog Tryz.f8 false true false false W args v W':=by
  have hW':=hW;obtain⟨p,q,hA0,hV,rfl,hfz,hnd⟩:=hW;have hA:DataW.TrodAll enc Tryz.prog W 0 (fun _=>true) true Tryz.f8.params.toList args.toList ds p:=hA0;rw[Tryz.params8]at hA hval;obtain⟨v0,vs0,d0,ds0,p0,q0,hargs,rfl,rfl,t0,r0⟩:=trodAll_cons hA;obtain⟨v1,vs1,d1,ds1,p1,q1,rfl,rfl,rfl,t1,r1⟩:=trodAll_cons r0;obtain⟨v2,vs2,d2,ds2,p2,q2,rfl,rfl,rfl,t2,r2⟩:=trodAll_cons r1;obtain⟨v3,vs3,d3,ds3,p3,q3,rfl,rfl,rfl,t3,r3⟩:=trodAll_cons r2;obtain⟨v4,vs4,d4,ds4,p4,q4,rfl,rfl,rfl,t4,r4⟩:=trodAll_cons r3;obtain⟨rfl,rfl,rfl⟩:=trodAll_nil r4;obtain rfl:args=#[v0,v1,v2,v3,v4]:=by cases args;simp_all
  obtain⟨rfl,rfl⟩:=trodVars_none hV;obtain⟨cs0,n0,rfl,u0⟩:=Z7h (by kernel_rfl:Zat Tryz.prog 27=true) (hval 0 27 v0 rfl rfl) t0;have lv0:=Z7f bulkOK 8 (by kernel_rfl:Z37 Tryz.prog 8 27=some [(22,.oth),(23,.oth),(24,.oth),(25,.oth),(3,.int .i64)]) u0;replace lv0:Lv _ _ _ _ _ _ _ (Rows.uptoBulk d0):=lv0;obtain⟨⟨⟨a1⟩⟩,rfl,rfl,rfl,w1⟩:=open_string Tryz.underlying9 (hval 1 9 v1 rfl rfl) t1;obtain⟨cs2,n2,rfl,u2⟩:=Z7h (by kernel_rfl:Zat Tryz.prog 31=true) (hval 2 31 v2 rfl rfl) t2;have lv2:=Z7f bulkOK 8 (by kernel_rfl:Z37 Tryz.prog 8 31=some [(3,.int .i64),(4,.bool),(4,.bool),(4,.bool),(4,.bool),(3,.int .i64),(3,.int .i64),(3,.int .i64),(3,.int .i64),(9,.str),(9,.str),(9,.str),(28,.oth),(29,.oth)]) u2;replace lv2:Lv _ _ _ _ _ _ _ (Rows.uptoBulk d2):=lv2;obtain⟨a3,rfl,rfl,rfl,w3⟩:=open_int Tryz.underlying3 (hval 3 3 v3 rfl rfl) t3;have h3:-9223372036854775808<=a3/\a3<=9223372036854775807:=by simpa [Lit.wf,IntKind.min,IntKind.max,IntKind.signed,IntKind.bits]using w3
  obtain⟨cs4,n4,rfl,u4⟩:=Z7h (by kernel_rfl:Zat Tryz.prog 50=true) (hval 4 50 v4 rfl rfl) t4;have lv4:=Z7f bulkOK 8 (by kernel_rfl:Z37 Tryz.prog 8 50=some [(3,.int .i64),(3,.int .i64),(3,.int .i64),(9,.str),(48,.oth),(9,.str)]) u4;replace lv4:Lv _ _ _ _ _ _ _ (Rows.uptoBulk d4):=lv4;clear hA0;have hb:=of_decide_eq_true hk;simp only[List.cons_append,List.nil_append,Rows.uptoBulkAll,Rows.uptoBulk]at hb;obtain⟨x0,e0,ox0,rx0,sm0⟩:=Z18z bulkOK lv0 (by omega);obtain⟨p2,va2,vc2,e2,-,ra2,rc2,z2,y2⟩:=Z18r bulkOK (by kernel_rfl) (by kernel_rfl) (by kernel_rfl) (by kernel_rfl) (by kernel_rfl) (by kernel_rfl) lv2;have sp2:SmallP p2:=⟨by omega,by omega,by omega,by omega,by omega,fun a ha=>by have:=y2 a ha;omega⟩
  obtain⟨m4,mv4,e4,rm4,z4⟩:=Z18t bulkOK (by kernel_rfl) (by kernel_rfl) (by kernel_rfl) lv4;rw[e0,e2,e4]at hW' ⊢;refine(Ziu W x0 a1 p2 va2 vc2 a3 m4 mv4 rx0 ra2 rc2 rm4 ox0 sm0 (by omega) sp2 (by omega) (by omega) (by omega)).mono fun e W' ⟨he,hg⟩=>?_;subst he;exact⟨_,rfl,Z11n [9,3,4,27,22,106,23,90,88,24,63,61,172,25,68,31,28,88,29,50,48,127] hW' rfl (by kernel_rfl) Tryz.underlying4 (fun _=>⟨rfl,rfl,rfl⟩) (by kernel_rfl) (by kernel_rfl) (by kernel_rfl) (by kernel_rfl) (by kernel_rfl) (by rw[Tryz.params8];kernel_rfl) hg⟩
noncomputable def lay1:Obj->Obj
  | .cells _ t frozen=>.cells (Go.Pinned.utf8FirstZ.map fun (n:Nat)=>Value.int .u8 (n:Int)).toArray t frozen
  | o=>o
noncomputable def lay2:Obj->Obj
  | .cells _ t frozen=>.cells (([128,191,160,191,128,159,144,191,128,143]++List.replicate 22 0).map fun (n:Nat)=>Value.int .u8 (n:Int)).toArray t frozen
  | o=>o
noncomputable def laidWorld (os:Os):World :=
  { World.holding Tryz.prog os ⟨#[],#[],[]⟩ with heap:=((World.holding Tryz.prog os ⟨#[],#[],[]⟩).heap.modify 1 lay1).modify 2 lay2 }
theorem laid_met (os:Os):laidMet Tryz.prog Rows.brokerRightUptoRow.laid ((laidWorld os).forCall (fun _ _=>0) ⟨#[],#[.agg #[.slice none 0 0,.slice none 0 0,.slice none 0 0,.slice none 0 0,.int .i64 0],.string ⟨#[]⟩,.agg #[.int .i64 0,.bool false,.bool false,.bool false,.bool false,.int .i64 0,.int .i64 0,.int .i64 0,.int .i64 0,.string ⟨#[]⟩,.string ⟨#[]⟩,.string ⟨#[]⟩,.slice none 0 0,.slice none 0 0],.int .i64 0,.agg #[.int .i64 0,.int .i64 0,.int .i64 0,.string ⟨#[]⟩,.slice none 0 0,.string ⟨#[]⟩]],[]⟩).memory :=
  laidMet_of_run' 8 (by kernel_rfl) (by kernel_rfl)
theorem witReads (os:Os) {H:Type} (enc:TypeId×Value->H):∃places,DataW.whole enc Tryz.prog ((laidWorld os).forCall (fun _ _=>0) ⟨#[],#[.agg #[.slice none 0 0,.slice none 0 0,.slice none 0 0,.slice none 0 0,.int .i64 0],.string ⟨#[]⟩,.agg #[.int .i64 0,.bool false,.bool false,.bool false,.bool false,.int .i64 0,.int .i64 0,.int .i64 0,.int .i64 0,.string ⟨#[]⟩,.string ⟨#[]⟩,.string ⟨#[]⟩,.slice none 0 0,.slice none 0 0],.int .i64 0,.agg #[.int .i64 0,.int .i64 0,.int .i64 0,.string ⟨#[]⟩,.slice none 0 0,.string ⟨#[]⟩]],[]⟩).memory Tryz.f8.params.toList Rows.brokerRightSpec.vars false (#[.agg #[.slice none 0 0,.slice none 0 0,.slice none 0 0,.slice none 0 0,.int .i64 0],.string ⟨#[]⟩,.agg #[.int .i64 0,.bool false,.bool false,.bool false,.bool false,.int .i64 0,.int .i64 0,.int .i64 0,.int .i64 0,.string ⟨#[]⟩,.string ⟨#[]⟩,.string ⟨#[]⟩,.slice none 0 0,.slice none 0 0],.int .i64 0,.agg #[.int .i64 0,.int .i64 0,.int .i64 0,.string ⟨#[]⟩,.slice none 0 0,.string ⟨#[]⟩]]:Array Value).toList 8=some ([.agg [.nil,.nil,.nil,.nil,.lit (.int .i64 0)],.lit (.string []),.agg [.lit (.int .i64 0),.lit (.bool false),.lit (.bool false),.lit (.bool false),.lit (.bool false),.lit (.int .i64 0),.lit (.int .i64 0),.lit (.int .i64 0),.lit (.int .i64 0),.lit (.string []),.lit (.string []),.lit (.string []),.nil,.nil],.lit (.int .i64 0),.agg [.lit (.int .i64 0),.lit (.int .i64 0),.lit (.int .i64 0),.lit (.string []),.nil,.lit (.string [])]],[],places) :=
  ⟨[],by kernel_rfl⟩
set_option maxRecDepth 100000 in
theorem lifted (os:Os) (started:os.Started) (H:Type) (enc:TypeId×Value->H) (F:Stop.Interp) : ReturnsInHanded {} Tryz.checked os 8 .any ((Rows.OpenSpec.upto Rows.brokerRightSpec).preRow enc Tryz.prog Tryz.f8 Rows.brokerRightUptoRow.domain false Rows.brokerRightUptoRow.laid) (((Rows.OpenSpec.upto Rows.brokerRightSpec).at F).post enc Tryz.prog Tryz.f8 false true false false):=by
  obtain⟨places,hx⟩:=witReads os enc;refine returnsInHanded_of_row (C:=Tryz.checked) (s:=Rows.OpenSpec.upto Rows.brokerRightSpec) own started (by kernel_rfl) Tryz.func8
    (witness_row_at (enc:=enc) (C:=Tryz.checked) false (laidWorld os) #[.agg #[.slice none 0 0,.slice none 0 0,.slice none 0 0,.slice none 0 0,.int .i64 0],.string ⟨#[]⟩,.agg #[.int .i64 0,.bool false,.bool false,.bool false,.bool false,.int .i64 0,.int .i64 0,.int .i64 0,.int .i64 0,.string ⟨#[]⟩,.string ⟨#[]⟩,.string ⟨#[]⟩,.slice none 0 0,.slice none 0 0],.int .i64 0,.agg #[.int .i64 0,.int .i64 0,.int .i64 0,.string ⟨#[]⟩,.slice none 0 0,.string ⟨#[]⟩]] rfl (by kernel_rfl) (by kernel_rfl) (by kernel_rfl)
      (OpenSpec.preRow_of_cond 8 hx (by kernel_rfl) (fun k hk=>by cases hk;kernel_rfl) (by kernel_rfl) (laid_met os))) ?_
  intro W base args ds gs before hval hW _ hcond _ _ _ _;exact contract H enc W base args ds gs before hval hW (hcond _ rfl)
theorem and_t {a b:Bool} (h1:a=true) (h2:b=true):(a && b)=true:=by rw[h1,h2];rfl
set_option maxRecDepth 100000 in
set_option maxHeartbeats 20000000 in
theorem joined:joinedFacts Tryz.pinned.checked.prog 8 Tryz.f8 (Rows.OpenSpec.upto Rows.brokerRightSpec).bare Rows.brokerRightUptoRow=true:=by
  unfold joinedFacts;repeat' with_reducible refine and_t ?_ ?_
  all_goals (as_aux_lemma=>kernel_rfl)
theorem over:Rows.BrokerRightUptoSaid :=
  OpenClaim.holds_of_cond 8 Tryz.f8 rfl rfl rfl rfl rfl rfl rfl ⟨rfl,rfl,rfl,rfl,rfl⟩ rfl rfl rfl rfl rfl (by kernel_rfl) Tryz.func8 joined
    (of_decide_eq_true (by kernel_rfl)) (by unfold Func.isWrapper;first|(rw[if_pos (by decide +kernel)];kernel_rfl)|(rw[if_neg (by decide +kernel)];exact⟨rfl,rfl⟩))
    (fun os started H enc _ F=>by rw[OpenClaim.pre_eq_preRow];exact lifted os started H enc F)
theorem plain (f:FuncId) (fn:Func) (hf:Tryz.pinned.checked.prog.funcNamed Tryz.f8.name=some f) (hfn:Tryz.pinned.checked.prog.funcs[f]?=some fn) : false=Tryz.pinned.checked.prog.looks []/\∀(j:Nat) t,fn.params[j]?=some t->Tryz.pinned.checked.prog.wantsStandIn t=false:=by
  obtain rfl:f=8:=Option.some.inj ((show Tryz.prog.funcNamed Tryz.f8.name=some 8 by kernel_rfl).symm.trans hf) |>.symm;obtain rfl:fn=Tryz.f8:=(Option.some.inj (Tryz.func8.symm.trans hfn)).symm;refine⟨by kernel_rfl,fun j t ht=>?_⟩;have hall:(Tryz.f8.params.toList).all (fun t=>!Tryz.prog.wantsStandIn t)=true:=by rw[Tryz.params8];kernel_rfl
  have h2:Tryz.prog.wantsStandIn t=false:=by simpa using List.all_eq_true.1 hall t (Array.mem_toList_iff.2 (Array.mem_of_getElem? ht))
  exact h2
theorem card:Rows.BrokerRightUptoCardSaid :=
  Claim7.holds_tied_plain_at .later [] _ _ _ _ over (fun _ h=>by cases h) (by kernel_rfl) (fun _ h=>by cases h) brokerRightUpto_row_tie rfl ⟨rfl,rfl⟩ (by kernel_rfl) rfl plain (by kernel_rfl)
end Go.Proofs.YtkhakgbnfapifaaGreatDoor.clBrokerRight
namespace Go.Proofs.YtkhakgbnfapifaaGreatDoor
theorem brokerRight_proved:Rows.BrokerRightUptoCardSaid:=clBrokerRight.card
end Go.Proofs.YtkhakgbnfapifaaGreatDoor
