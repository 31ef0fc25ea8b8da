/-
  WorldSteps: for every input that holds together at most 1048576 values and letters the law WorldSteps returns true, and each argument reads afterwards as it did. No further condition. By an AI agent.
-/
import Derived.Deep.DeepHandedRow
import Derived.Lib.LaidTab
import Derived.Test.YtimapehenhbloaaGreatDoorH36
import Derived.Test.YtimapehenhbloaaGreatDoorCards
import Derived.Test.YtimapehenhbloaaGreatDoorTie
set_option linter.all false
namespace Go.Proofs.YtimapehenhbloaaGreatDoor.clWorldSteps
open Go.Proofs.Y Go Go.Sx Go.ChangeShapes Go.WideShapes Go.ChangeAt Go.RowKit
open Go.ChangeMaps (open_string shut_string)
set_option maxRecDepth 100000
theorem bulkAll_eq{H:Type}:∀l:List (DataW H),Rows.uptoBulkAll l=(l.map Rows.uptoBulk).sum
 | []=>by simp[Rows.uptoBulkAll]
 | d::l=>by simp[Rows.uptoBulkAll,bulkAll_eq l]
theorem bulkOK{H:Type}:Bulk (Rows.uptoBulk (H:=H)):=by
 refine⟨λl=>?_,λl r=>?_,λs=>?_,λd=>?_⟩
 ·rw[Rows.uptoBulk,bulkAll_eq];omega
 ·rw[Rows.uptoBulk,bulkAll_eq];omega
 ·rw[Rows.uptoBulk];omega
 ·cases d with
  | lit l=>cases l<;>simp[Rows.uptoBulk]
  | _=>simp[Rows.uptoBulk]
theorem own:ownKnob Tryz.prog.godebug=none:=by kernel_rfl
theorem contract(H:Type)(enc:TypeId×Value->H)(W:World)(base:Nat)(args:Array Value)(ds gs:List (DataW H))(before:List MemPlace) (hval:∀(j:Nat) t v,Tryz.f3.params[j]?=some t->args[j]?=some v->Value.okWide Tryz.prog W .any base t v) (hW:DataW.Whole enc Tryz.prog Tryz.f3.params.toList Rows.worldStepsSpec.vars false W args.toList ds gs before) (hk:Rows.uptoSmall H (ds++gs)=true) : Calls Tryz.prog 3 args W λe W'=>∃v,e=.returned v/\Rows.worldStepsSpec.post enc Tryz.prog Tryz.f3 false true false false W args v W':=by
 have hW':=hW;obtain⟨p,q,hA0,hV,rfl,hfz,hnd⟩:=hW;have hA:DataW.TrodAll enc Tryz.prog W 0 (λ_=>true) true Tryz.f3.params.toList args.toList ds p:=hA0;rw[Tryz.params3]at hA hval;obtain⟨v0,vs0,d0,ds0,p0,q0,hargs,rfl,rfl,t0,r0⟩:=trodAll_cons hA;obtain⟨v1,vs1,d1,ds1,p1,q1,rfl,rfl,rfl,t1,r1⟩:=trodAll_cons r0;obtain⟨v2,vs2,d2,ds2,p2,q2,rfl,rfl,rfl,t2,r2⟩:=trodAll_cons r1;obtain⟨rfl,rfl,rfl⟩:=trodAll_nil r2;obtain rfl:args=#[v0,v1,v2]:=by cases args;simp_all
 obtain⟨rfl,rfl⟩:=trodVars_none hV;obtain⟨cs0,n0,rfl,u0⟩:=Zh5 (by kernel_rfl:Zih Tryz.prog 27=true) (hval 0 27 v0 rfl rfl) t0;have lv0:=Zf6 bulkOK 8 (by kernel_rfl:Z5d Tryz.prog 8 27=some [(22,.oth),(23,.oth),(24,.oth),(25,.oth),(3,.int .i64)]) u0;replace lv0:Lv _ _ _ _ _ _ _ (Rows.uptoBulk d0):=lv0;obtain⟨n1,u1⟩:=Z10w (by kernel_rfl:Tryz.prog.underlying 28=some (.slice 49)) (hval 1 28 v1 rfl rfl) t1;obtain⟨rows1,bs1,rd1,bl1,lv1,bk1⟩:=Za9 bulkOK (f:=8) (by kernel_rfl:Tryz.prog.underlying 28=some (.slice 49)) (by kernel_rfl:Z5d Tryz.prog 8 49=some [(9,.str),(9,.str)]) (by kernel_rfl) (by decide) u1;replace bk1:bs1.sum+1<=Rows.uptoBulk d1:=bk1;have rl1:=Zgm bulkOK (by decide) bl1 lv1;obtain⟨cs2,n2,rfl,u2⟩:=Zh5 (by kernel_rfl:Zih Tryz.prog 30=true) (hval 2 30 v2 rfl rfl) t2;have lv2:=Zf6 bulkOK 8 (by kernel_rfl:Z5d Tryz.prog 8 30=some [(9,.str),(3,.int .i64),(9,.str)]) u2;replace lv2:Lv _ _ _ _ _ _ _ (Rows.uptoBulk d2):=lv2;clear hA0;have hb:=of_decide_eq_true hk;simp only[List.cons_append,List.nil_append,Rows.uptoBulkAll,Rows.uptoBulk]at hb;obtain⟨x0,e0,ox0,rx0,sm0⟩:=Z1ji bulkOK lv0 (by omega);obtain⟨l1,rfl,hl1,hn1⟩:=Z1gr bulkOK bl1 lv1;obtain⟨e2,ec2,z2⟩:=Z1jj bulkOK lv2;have ee2:Value.agg cs2.toArray=evV e2:=by rw[ec2];rfl
 rw[e0,ee2]at hW'⊢;refine(Zb (Ztf W x0 v1 l1 e2 rx0 rd1 ox0 sm0 (λa ha=>by have:=hl1 a ha;omega) (by omega) (by omega) (by omega)) (by rw[rd1.sc1])).mono λe W' ⟨he,hg⟩=>?_;subst he;exact⟨_,rfl,Z1bh [9,3,4,28,49,27,22,111,23,65,63,24,58,56,122,25,68,30] hW' rfl (by kernel_rfl) Tryz.underlying4 (λ_=>⟨rfl,rfl,rfl⟩) (by kernel_rfl) (by kernel_rfl) (by kernel_rfl) (by kernel_rfl) (by kernel_rfl) (by rw[Tryz.params3];kernel_rfl) hg⟩
noncomputable def lay1:Obj->Obj
 | .cells _ t frozen=>.cells (Go.Pinned.utf8FirstZ.map λ(n:Nat)=>Value.int .u8 (n:Int)).toArray t frozen
 | o=>o
noncomputable def lay2:Obj->Obj
 | .cells _ t frozen=>.cells (([128,191,160,191,128,159,144,191,128,143]++List.replicate 22 0).map λ(n:Nat)=>Value.int .u8 (n:Int)).toArray t frozen
 | o=>o
noncomputable def laidWorld(os:Os):World :=
 { World.holding Tryz.prog os ⟨#[],#[],[]⟩with heap:=((World.holding Tryz.prog os ⟨#[],#[],[]⟩).heap.modify 1 lay1).modify 2 lay2 }
theorem laid_met(os:Os):laidMet Tryz.prog Rows.worldStepsUptoRow.laid ((laidWorld os).forCall (λ_ _=>0) ⟨#[],#[.agg #[.slice none 0 0,.slice none 0 0,.slice none 0 0,.slice none 0 0,.int .i64 0],.slice none 0 0,.agg #[.string ⟨#[]⟩,.int .i64 0,.string ⟨#[]⟩]],[]⟩).memory :=
 laidMet_of_run' 8 (by kernel_rfl) (by kernel_rfl)
theorem witReads(os:Os){H:Type}(enc:TypeId×Value->H):∃places,DataW.whole enc Tryz.prog ((laidWorld os).forCall (λ_ _=>0) ⟨#[],#[.agg #[.slice none 0 0,.slice none 0 0,.slice none 0 0,.slice none 0 0,.int .i64 0],.slice none 0 0,.agg #[.string ⟨#[]⟩,.int .i64 0,.string ⟨#[]⟩]],[]⟩).memory Tryz.f3.params.toList Rows.worldStepsSpec.vars false (#[.agg #[.slice none 0 0,.slice none 0 0,.slice none 0 0,.slice none 0 0,.int .i64 0],.slice none 0 0,.agg #[.string ⟨#[]⟩,.int .i64 0,.string ⟨#[]⟩]]:Array Value).toList 8=some ([.agg [.nil,.nil,.nil,.nil,.lit (.int .i64 0)],.nil,.agg [.lit (.string []),.lit (.int .i64 0),.lit (.string [])]],[],places) :=
 ⟨[],by kernel_rfl⟩
set_option maxRecDepth 100000 in
theorem lifted(os:Os)(started:os.Started)(H:Type)(enc:TypeId×Value->H)(F:Stop.Interp) : ReturnsInHanded {} Tryz.checked os 3 .any ((Rows.OpenSpec.upto Rows.worldStepsSpec).preRow enc Tryz.prog Tryz.f3 Rows.worldStepsUptoRow.domain false Rows.worldStepsUptoRow.laid) (((Rows.OpenSpec.upto Rows.worldStepsSpec).at F).post enc Tryz.prog Tryz.f3 false true false false):=by
  obtain⟨places,hx⟩:=witReads os enc;refine returnsInHanded_of_row (C:=Tryz.checked) (s:=Rows.OpenSpec.upto Rows.worldStepsSpec) own started (by kernel_rfl) Tryz.func3
    (witness_row_at (enc:=enc) (C:=Tryz.checked) false (laidWorld os) #[.agg #[.slice none 0 0,.slice none 0 0,.slice none 0 0,.slice none 0 0,.int .i64 0],.slice none 0 0,.agg #[.string ⟨#[]⟩,.int .i64 0,.string ⟨#[]⟩]] rfl (by kernel_rfl) (by kernel_rfl) (by kernel_rfl)
      (OpenSpec.preRow_of_cond 8 hx (by kernel_rfl) (λk hk=>by cases hk;kernel_rfl) (by kernel_rfl) (laid_met os))) ?_
  intro W base args ds gs before hval hW _ hcond _ _ _ _;exact contract H enc W base args ds gs before hval hW (hcond _ rfl)
theorem and_t{a b:Bool}(h1:a=true)(h2:b=true):(a && b)=true:=by rw[h1,h2];rfl
set_option maxRecDepth 100000 in
set_option maxHeartbeats 20000000 in
theorem joined:joinedFacts Tryz.pinned.checked.prog 3 Tryz.f3 (Rows.OpenSpec.upto Rows.worldStepsSpec).bare Rows.worldStepsUptoRow=true:=by
 unfold joinedFacts;repeat' with_reducible refine and_t ?_ ?_
 all_goals (as_aux_lemma=>kernel_rfl)
theorem over:Rows.WorldStepsUptoSaid :=
 OpenClaim.holds_of_cond 3 Tryz.f3 rfl rfl rfl rfl rfl rfl rfl ⟨rfl,rfl,rfl,rfl,rfl⟩ rfl rfl rfl rfl rfl (by kernel_rfl) Tryz.func3 joined
  (of_decide_eq_true (by kernel_rfl)) (by unfold Func.isWrapper;first|(rw[if_pos (by decide +kernel)];kernel_rfl)|(rw[if_neg (by decide +kernel)];exact⟨rfl,rfl⟩))
  (λos started H enc _ F=>by rw[OpenClaim.pre_eq_preRow];exact lifted os started H enc F)
theorem plain(f:FuncId)(fn:Func)(hf:Tryz.pinned.checked.prog.funcNamed Tryz.f3.name=some f)(hfn:Tryz.pinned.checked.prog.funcs[f]?=some fn) : false=Tryz.pinned.checked.prog.looks []/\∀(j:Nat) t,fn.params[j]?=some t->Tryz.pinned.checked.prog.wantsStandIn t=false:=by
 obtain rfl:f=3:=Option.some.inj ((show Tryz.prog.funcNamed Tryz.f3.name=some 3 by kernel_rfl).symm.trans hf) |>.symm;obtain rfl:fn=Tryz.f3:=(Option.some.inj (Tryz.func3.symm.trans hfn)).symm;refine⟨by kernel_rfl,λj t ht=>?_⟩;have hall:(Tryz.f3.params.toList).all (λt=>!Tryz.prog.wantsStandIn t)=true:=by rw[Tryz.params3];kernel_rfl
 have h2:Tryz.prog.wantsStandIn t=false:=by simpa using List.all_eq_true.1 hall t (Array.mem_toList_iff.2 (Array.mem_of_getElem? ht))
 exact h2
theorem card:Rows.WorldStepsUptoCardSaid :=
 Claim7.holds_tied_plain_at .later [] _ _ _ _ over (λ_ h=>by cases h) (by kernel_rfl) (λ_ h=>by cases h) worldStepsUpto_row_tie rfl ⟨rfl,rfl⟩ (by kernel_rfl) rfl plain (by kernel_rfl)
end Go.Proofs.YtimapehenhbloaaGreatDoor.clWorldSteps
namespace Go.Proofs.YtimapehenhbloaaGreatDoor
theorem worldSteps_proved:Rows.WorldStepsUptoCardSaid:=clWorldSteps.card
end Go.Proofs.YtimapehenhbloaaGreatDoor
