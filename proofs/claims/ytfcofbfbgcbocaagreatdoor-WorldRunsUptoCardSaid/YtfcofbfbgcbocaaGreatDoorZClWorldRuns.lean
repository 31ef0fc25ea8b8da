/-
  WorldRuns: for every input that holds together at most 1048576 values and letters the law WorldRuns returns true, and each argument reads afterwards as it did. No further condition. By an AI agent.
-/
import Derived.Test.YtfcofbfbgcbocaaGreatDoorR25
import Derived.Deep.DeepHandedRow
import Derived.Lib.LaidTab
import Derived.Test.YtfcofbfbgcbocaaGreatDoorCards
import Derived.Test.YtfcofbfbgcbocaaGreatDoorTie
set_option linter.all false
namespace Go.Proofs.YtfcofbfbgcbocaaGreatDoor.clWorldRuns
open Go.Proofs.Y Go Go.Sx Go.ChangeShapes Go.WideShapes Go.ChangeAt Go.RowKit
open Go.ChangeMaps (open_string shut_string)
set_option maxRecDepth 100000
theorem bulkAll_eq{H:Type}:∀l:List (DataW H),Rows.uptoBulkAll l=(l.map Rows.uptoBulk).sum
 | []=>by simp[Rows.uptoBulkAll]
 | d::l=>by simp[Rows.uptoBulkAll,bulkAll_eq l]
theorem bulkOK{H:Type}:Bulk (Rows.uptoBulk (H:=H)):=by
 refine⟨λl=>?_,λl r=>?_,λs=>?_,λd=>?_⟩
 ·rw[Rows.uptoBulk,bulkAll_eq];omega
 ·rw[Rows.uptoBulk,bulkAll_eq];omega
 ·rw[Rows.uptoBulk];omega
 ·cases d with
  | lit l=>cases l<;>simp[Rows.uptoBulk]
  | _=>simp[Rows.uptoBulk]
theorem own:ownKnob Tryz.prog.godebug=none:=by kernel_rfl
theorem contract(H:Type)(enc:TypeId×Value->H)(W:World)(base:Nat)(args:Array Value)(ds gs:List (DataW H))(before:List MemPlace) (hval:∀(j:Nat) t v,Tryz.f4.params[j]?=some t->args[j]?=some v->Value.okWide Tryz.prog W .any base t v) (hW:DataW.Whole enc Tryz.prog Tryz.f4.params.toList Rows.worldRunsSpec.vars false W args.toList ds gs before) (hk:Rows.uptoSmall H (ds++gs)=true) : Calls Tryz.prog 4 args W λe W'=>∃v,e=.returned v/\Rows.worldRunsSpec.post enc Tryz.prog Tryz.f4 false true false false W args v W':=by
 have hW':=hW;obtain⟨p,q,hA0,hV,rfl,hfz,hnd⟩:=hW;have hA:DataW.TrodAll enc Tryz.prog W 0 (λ_=>true) true Tryz.f4.params.toList args.toList ds p:=hA0;rw[Tryz.params4]at hA hval;obtain⟨v0,vs0,d0,ds0,p0,q0,hargs,rfl,rfl,t0,r0⟩:=trodAll_cons hA;obtain⟨v1,vs1,d1,ds1,p1,q1,rfl,rfl,rfl,t1,r1⟩:=trodAll_cons r0;obtain⟨rfl,rfl,rfl⟩:=trodAll_nil r1;obtain rfl:args=#[v0,v1]:=by cases args;simp_all
 obtain⟨rfl,rfl⟩:=trodVars_none hV;obtain⟨cs0,n0,rfl,u0⟩:=Zoo (by kernel_rfl:Zlv Tryz.prog 27=true) (hval 0 27 v0 rfl rfl) t0;have lv0:=Zhj bulkOK 8 (by kernel_rfl:Z59 Tryz.prog 8 27=some [(22,.oth),(23,.oth),(24,.oth),(25,.oth),(3,.int .i64)]) u0;replace lv0:Lv _ _ _ _ _ _ _ (Rows.uptoBulk d0):=lv0;obtain⟨n1,u1⟩:=Zwg (by kernel_rfl:Tryz.prog.underlying 53=some (.slice 29)) (hval 1 53 v1 rfl rfl) t1;obtain⟨rows1,bs1,rd1,bl1,lv1,bk1⟩:=Z7y bulkOK (f:=8) (by kernel_rfl:Tryz.prog.underlying 53=some (.slice 29)) (by kernel_rfl:Z59 Tryz.prog 8 29=some [(9,.str),(3,.int .i64),(9,.str)]) (by kernel_rfl) (by decide) u1;replace bk1:bs1.sum+1<=Rows.uptoBulk d1:=bk1;have rl1:=Zdc bulkOK (by decide) bl1 lv1;clear hA0;have hb:=of_decide_eq_true hk;simp only[List.cons_append,List.nil_append,Rows.uptoBulkAll,Rows.uptoBulk]at hb;obtain⟨x0,e0,ox0,rx0,sm0⟩:=Z1eo bulkOK lv0 (by omega);obtain⟨l1,rfl,hl1⟩:=Z1bx bulkOK bl1 lv1;rw[List.length_map]at rl1;rw[e0]at hW'⊢;refine(Z1 (Zqv W x0 v1 l1 rx0 rd1 ox0 sm0 (λe he=>by have:=(hl1 e he).1;omega) (λe he=>by have:=(hl1 e he).2;omega) (by omega)) (by rw[rd1.sc1])).mono λe W' ⟨he,hg⟩=>?_;subst he;exact⟨_,rfl,Z16p [9,3,4,53,29,27,22,95,23,107,105,24,50,48,148,25,97] hW' rfl (by kernel_rfl) Tryz.underlying4 (λ_=>⟨rfl,rfl,rfl⟩) (by kernel_rfl) (by kernel_rfl) (by kernel_rfl) (by kernel_rfl) (by kernel_rfl) (by rw[Tryz.params4];kernel_rfl) hg⟩
noncomputable def lay1:Obj->Obj
 | .cells _ t frozen=>.cells (Go.Pinned.utf8FirstZ.map λ(n:Nat)=>Value.int .u8 (n:Int)).toArray t frozen
 | o=>o
noncomputable def lay2:Obj->Obj
 | .cells _ t frozen=>.cells (([128,191,160,191,128,159,144,191,128,143]++List.replicate 22 0).map λ(n:Nat)=>Value.int .u8 (n:Int)).toArray t frozen
 | o=>o
noncomputable def laidWorld(os:Os):World :=
 { World.holding Tryz.prog os ⟨#[],#[],[]⟩with heap:=((World.holding Tryz.prog os ⟨#[],#[],[]⟩).heap.modify 1 lay1).modify 2 lay2 }
theorem laid_met(os:Os):laidMet Tryz.prog Rows.worldRunsUptoRow.laid ((laidWorld os).forCall (λ_ _=>0) ⟨#[],#[.agg #[.slice none 0 0,.slice none 0 0,.slice none 0 0,.slice none 0 0,.int .i64 0],.slice none 0 0],[]⟩).memory :=
 laidMet_of_run' 8 (by kernel_rfl) (by kernel_rfl)
theorem witReads(os:Os){H:Type}(enc:TypeId×Value->H):∃places,DataW.whole enc Tryz.prog ((laidWorld os).forCall (λ_ _=>0) ⟨#[],#[.agg #[.slice none 0 0,.slice none 0 0,.slice none 0 0,.slice none 0 0,.int .i64 0],.slice none 0 0],[]⟩).memory Tryz.f4.params.toList Rows.worldRunsSpec.vars false (#[.agg #[.slice none 0 0,.slice none 0 0,.slice none 0 0,.slice none 0 0,.int .i64 0],.slice none 0 0]:Array Value).toList 8=some ([.agg [.nil,.nil,.nil,.nil,.lit (.int .i64 0)],.nil],[],places) :=
 ⟨[],by kernel_rfl⟩
set_option maxRecDepth 100000 in
theorem lifted(os:Os)(started:os.Started)(H:Type)(enc:TypeId×Value->H)(F:Stop.Interp) : ReturnsInHanded {} Tryz.checked os 4 .any ((Rows.OpenSpec.upto Rows.worldRunsSpec).preRow enc Tryz.prog Tryz.f4 Rows.worldRunsUptoRow.domain false Rows.worldRunsUptoRow.laid) (((Rows.OpenSpec.upto Rows.worldRunsSpec).at F).post enc Tryz.prog Tryz.f4 false true false false):=by
  obtain⟨places,hx⟩:=witReads os enc;refine returnsInHanded_of_row (C:=Tryz.checked) (s:=Rows.OpenSpec.upto Rows.worldRunsSpec) own started (by kernel_rfl) Tryz.func4
    (witness_row_at (enc:=enc) (C:=Tryz.checked) false (laidWorld os) #[.agg #[.slice none 0 0,.slice none 0 0,.slice none 0 0,.slice none 0 0,.int .i64 0],.slice none 0 0] rfl (by kernel_rfl) (by kernel_rfl) (by kernel_rfl)
      (OpenSpec.preRow_of_cond 8 hx (by kernel_rfl) (λk hk=>by cases hk;kernel_rfl) (by kernel_rfl) (laid_met os))) ?_
  intro W base args ds gs before hval hW _ hcond _ _ _ _;exact contract H enc W base args ds gs before hval hW (hcond _ rfl)
theorem and_t{a b:Bool}(h1:a=true)(h2:b=true):(a && b)=true:=by rw[h1,h2];rfl
set_option maxRecDepth 100000 in
set_option maxHeartbeats 20000000 in
theorem joined:joinedFacts Tryz.pinned.checked.prog 4 Tryz.f4 (Rows.OpenSpec.upto Rows.worldRunsSpec).bare Rows.worldRunsUptoRow=true:=by
 unfold joinedFacts;repeat' with_reducible refine and_t ?_ ?_
 all_goals (as_aux_lemma=>kernel_rfl)
theorem over:Rows.WorldRunsUptoSaid :=
 OpenClaim.holds_of_cond 4 Tryz.f4 rfl rfl rfl rfl rfl rfl rfl ⟨rfl,rfl,rfl,rfl,rfl⟩ rfl rfl rfl rfl rfl (by kernel_rfl) Tryz.func4 joined
  (of_decide_eq_true (by kernel_rfl)) (by unfold Func.isWrapper;first|(rw[if_pos (by decide +kernel)];kernel_rfl)|(rw[if_neg (by decide +kernel)];exact⟨rfl,rfl⟩))
  (λos started H enc _ F=>by rw[OpenClaim.pre_eq_preRow];exact lifted os started H enc F)
theorem plain(f:FuncId)(fn:Func)(hf:Tryz.pinned.checked.prog.funcNamed Tryz.f4.name=some f)(hfn:Tryz.pinned.checked.prog.funcs[f]?=some fn) : false=Tryz.pinned.checked.prog.looks []/\∀(j:Nat) t,fn.params[j]?=some t->Tryz.pinned.checked.prog.wantsStandIn t=false:=by
 obtain rfl:f=4:=Option.some.inj ((show Tryz.prog.funcNamed Tryz.f4.name=some 4 by kernel_rfl).symm.trans hf) |>.symm;obtain rfl:fn=Tryz.f4:=(Option.some.inj (Tryz.func4.symm.trans hfn)).symm;refine⟨by kernel_rfl,λj t ht=>?_⟩;have hall:(Tryz.f4.params.toList).all (λt=>!Tryz.prog.wantsStandIn t)=true:=by rw[Tryz.params4];kernel_rfl
 have h2:Tryz.prog.wantsStandIn t=false:=by simpa using List.all_eq_true.1 hall t (Array.mem_toList_iff.2 (Array.mem_of_getElem? ht))
 exact h2
theorem card:Rows.WorldRunsUptoCardSaid :=
 Claim7.holds_tied_plain_at .later [] _ _ _ _ over (λ_ h=>by cases h) (by kernel_rfl) (λ_ h=>by cases h) worldRunsUpto_row_tie rfl ⟨rfl,rfl⟩ (by kernel_rfl) rfl plain (by kernel_rfl)
end Go.Proofs.YtfcofbfbgcbocaaGreatDoor.clWorldRuns
namespace Go.Proofs.YtfcofbfbgcbocaaGreatDoor
theorem worldRuns_proved:Rows.WorldRunsUptoCardSaid:=clWorldRuns.card
end Go.Proofs.YtfcofbfbgcbocaaGreatDoor
