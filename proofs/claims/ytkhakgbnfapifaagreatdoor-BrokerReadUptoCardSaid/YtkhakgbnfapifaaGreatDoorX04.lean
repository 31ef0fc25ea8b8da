/-
  Texts of mine, one behind the other. By an AI agent.
-/
import Derived.Test.YtkhakgbnfapifaaGreatDoorX03
import Derived.Deep.RegionHeld3
import Derived.Still
set_option linter.unusedSimpArgs false
set_option linter.unusedVariables false
set_option maxHeartbeats 20000000
namespace Go.Sx
open Go
variable {C:Cx} {E:Env}
def Zeh (C:Cx) (inl:InlF):Prop:=∀{f:Nat} {args:List SV} {st:St} {k:SV->St->Tree} {t:Tree} {ρ:List V} {a:Act} {w:World} {L:List LC} {Q:Ending->World->Prop},
  inl f args st k=some t->Inv C st ρ a w->st.d=L.length ->
  (∀r st' ρ' L' a' w',L <+: L'->st'.d=L'.length->ρ <+: ρ'->(k r st').goal C ρ' L'->Inv C st' ρ' a' w'->r.isVal=true->Q (.returned (r.ev ρ')) w') ->
  t.goal C ρ L->Zcy C.P f=true/\Calls C.P f (args.map (SV.ev ρ)).toArray w Q
theorem SV.rel_val {ρ:List V} {s:SV} (h:s.isVal=true):s.rel ρ (s.ev ρ):=by cases s<;>simp[SV.isVal]at h<;>rfl
theorem Zlj (hE:EnvOK C.P E) {inl:InlF} (hI:Zeh C inl) {st:St} {ρ:List V} {a:Act} {w:World} {L:List LC} {ops:List Oper} {o:Oper} {k:St->Tree} {K:Act->World->Prop} {Q:Exit->Act->World->Prop} (hi:Inv C st ρ a w) (hdL:st.d=L.length) (hk:∀st' ρ' L' a' w',L <+: L'->st'.d=L'.length->ρ <+: ρ'->(k st').goal C ρ' L'->Inv C st' ρ' a' w'->K a' w') (hg:(Zuz E inl ops o st k).goal C ρ L) : if Region.wanted o (yielded ops.toArray a.tmps)=true then o.wp C.P a w K Q else K (a.put o.dst undef) w:=by
  have hput:∀(st:St) (s:SV),(st.put o.dst s).d=st.d:=by intro st s;cases ho':o.dst<;>rfl
  have hk1:∀st' ρ' a' w',st'.d=st.d->ρ <+: ρ'->(k st').goal C ρ' L->Inv C st' ρ' a' w'->K a' w':=fun st' ρ' a' w' hd=>hk st' ρ' L a' w' List.prefix_rfl (hd.trans hdL);unfold Zuz at hg;split at hg
  . exact hg.elim
  . rename_i G hgd;rw[Zg7 hi hgd];have hGb:=Zv4 hi hgd;split at hg
    . rename_i hGf;subst hGf;simp only[X.ev,V.toB_b,Bool.false_eq_true,if_false];exact hk1 _ _ _ _ (by exact hput _ _) List.prefix_rfl hg (hi.put _ rfl)
    . split at hg
      . rename_i t hrow;split at hrow
        . rename_i hGt;subst hGt;simp only[X.ev,V.toB_b,if_true];split at hrow
          . rename_i h2;simp only[Option.some.injEq]at hrow;subst hrow;exact Zqa hE hi hk1 h2 hg
          . exact Zvb hE hi hk1 hrow hg
        . cases hrow
      split at hg
      . rename_i ns c hv;obtain⟨hn,hg⟩:=Z47 hg;by_cases hG:(G.ev ρ).toB=true
        . rw[if_pos hG];unfold Oper.wp;rw[Zv5 hE hi hG hv (hn hG)];simp only[Oper.upon];refine hk1 _ _ _ _ (by exact hput _ _) List.prefix_rfl hg (hi.put _ ?_);split
          . rfl
          . exact⟨fun _=>rfl,(fun h=>by rw[hG]at h;cases h)⟩
        . rw[if_neg hG];have hG':(G.ev ρ).toB=false:=by simpa using hG
          refine hk1 _ _ _ _ (by exact hput _ _) List.prefix_rfl hg (hi.put _ ?_);split
          . rename_i h;subst h;simp[X.ev]at hG
          . exact⟨(fun h=>by rw[hG']at h;cases h),fun _=>rfl⟩
      . split at hg
        . rename_i c hop;split at hg
          . rename_i f args hc;split at hg
            . rename_i t hin;split at hin
              . rename_i hGt;subst hGt;simp only[X.ev,V.toB_b,if_true];obtain⟨hf,hcalls⟩:=hI (Q:=fun e w'=>∃v,e=.returned v/\K (a.put o.dst v) w') hin hi hdL (fun r st' ρ' L' a' w' hL hd' hp hg' hi' hv=>⟨_,rfl,hk (St.put { st with n:=st'.n,d:=st'.d,hp:=st'.hp } o.dst r) ρ' L' _ w' hL ((hput _ _).trans hd') hp hg' ((hi.back hi' hp).put _ (SV.rel_val hv))⟩) hg;unfold Oper.wp;rw[Z94 hi rfl hop hc hf];simp only[Oper.upon];refine hcalls.mono ?_;rintro e w1 ⟨v,rfl,hK⟩;exact hK
              . cases hin
            . exact Zq4 hE hi hGb hop hc hk1 hg
          . exact hg.elim
        . split at hg
          . rename_i h;subst h;simp only[X.ev,V.toB_b,if_true];exact Zv7 hE hi hk1 hg
          . exact hg.elim
theorem Zk1 {E:Env} {o:Oper} {st:St} {t:Nat} {x:X} {ks:List Kd} (h:Zq0 E o st=some (t,x,ks)):st.slot t=.cv (false,[.val x])/\x.bd st.n=true:=by
  unfold Zq0 at h;split at h
  . split at h
    . split at h
      . split at h
        . split at h
          . rename_i h1 _ _ _ h2;simp only[Option.some.injEq,Prod.mk.injEq]at h;obtain⟨rfl,rfl,rfl⟩:=h;exact⟨by assumption,h2.2⟩
          . cases h
        . cases h
      . cases h
    . cases h
  . cases h
theorem Zc6 (hE:EnvOK C.P E) {inl:InlF} (hI:Zeh C inl) {st:St} {ρ:List V} {a:Act} {w:World} {L:List LC} {ops:List Oper} {o:Oper} {k:St->Tree} {K:Act->World->Prop} {Q:Exit->Act->World->Prop} (hi:Inv C st ρ a w) (hdL:st.d=L.length) (hk:∀st' ρ' L' a' w',L <+: L'->st'.d=L'.length->ρ <+: ρ'->(k st').goal C ρ' L'->Inv C st' ρ' a' w'->K a' w') (hg:(Znj E inl ops o st k).goal C ρ L) : if Region.wanted o (yielded ops.toArray a.tmps)=true then o.wp C.P a w K Q else K (a.put o.dst undef) w:=by
  unfold Znj at hg;split at hg
  . rename_i t x ks hx;split at hx
    . obtain⟨hs,hb⟩:=Zk1 hx;simp only[Tree.goal]at hg;obtain⟨rows,h1,h2⟩:=hg;have hi1:=ext0 hi (n:=st.n+1) [x.ev ρ] (by simp) (by simp);obtain⟨hr1,hr2⟩:=h1 w hi1.rel;have hl1:(ρ++[x.ev ρ]).length=st.n+1:=by simp[hi.len]
      have e0:(ρ++[x.ev ρ]).getD st.n (.i 0)=x.ev ρ:=Zj hi.len _;have e1:(ρ++[x.ev ρ]++[V.r rows]).getD st.n (.i 0)=x.ev ρ:=by
        have:st.n<(ρ++[x.ev ρ]).length:=by omega
        rw[qy1,List.getElem?_append_left this,<- qy1,e0]
      have e2:(ρ++[x.ev ρ]++[V.r rows]).getD (st.n+1) (.i 0)=.r rows:=Zj (st:={ st with n:=st.n+1 }) hl1 (.r rows);rw[e0]at hr1 hr2;have hi2:=hi1.bindEnt hi1.rel hi1.bdh (.r rows) (.rd st.n ks (.var (st.n+1))) (by simp[Ent.bd,X.bd];omega)
        (by simp only[Ent.holds,e1,X.ev,e2,V.toR_r];exact hr1)
        (fun hw=>Bool.noConfusion hw)
        (fun e' he' hw k' hk1 hk2=>by simp only[Ent.fp,e1,X.ev,e2,V.toR_r]at hk1;have hw':e'.wr=true:=hw.resolve_left (fun h=>Bool.noConfusion h);exact hr2 hk1.1 k' hk1.2 e' he' hw' hk2)
      have hv:a.tmps.getD t undef=sc1 (x.ev ρ).toV:=by have:=hi.fr t;rw[hs]at this;exact this
      have hi3:=hi2.over t (s:=Z89 st.n) (by rw[hv];simp only[SV.rel,Z89,SV.ev,CV.ev,Sc.ev,X.ev,e1]);exact Zlj hE hI hi3 (by exact hdL) (fun st' ρ' L' a' w' hL hd hp=>hk st' ρ' L' a' w' hL hd (((List.prefix_append ρ _).trans (List.prefix_append _ _)).trans hp)) h2
    . cases hx
  . exact Zlj hE hI hi hdL hk hg
theorem Zlk (hE:EnvOK C.P E) {inl:InlF} (hI:Zeh C inl) {st:St} {ρ:List V} {a:Act} {w:World} {L:List LC} {ops:List Oper} {o:Oper} {k:St->Tree} {K:Act->World->Prop} {Q:Exit->Act->World->Prop} (hi:Inv C st ρ a w) (hdL:st.d=L.length) (hk:∀st' ρ' L' a' w',L <+: L'->st'.d=L'.length->ρ <+: ρ'->(k st').goal C ρ' L'->Inv C st' ρ' a' w'->K a' w') (hg:(Zv0 E inl ops o st k).goal C ρ L) : if Region.wanted o (yielded ops.toArray a.tmps)=true then o.wp C.P a w K Q else K (a.put o.dst undef) w:=by
  unfold Zv0 at hg;split at hg
  . rename_i x hx;obtain⟨h1,h2⟩:=hg;cases hb:(x.ev ρ).toB with
    | true=>exact Zc6 hE hI (hi.asm hb) ((St.asm_d _ _ _).trans hdL) hk (h1 ((X.P_iff ρ x).2 hb))
    | false=>exact Zc6 hE hI (hi.asm hb) ((St.asm_d _ _ _).trans hdL) hk (h2 (fun hp=>by rw[(X.P_iff ρ x).1 hp]at hb;cases hb))
  . exact Zc6 hE hI hi hdL hk hg
theorem Zll (hE:EnvOK C.P E) {inl:InlF} (hI:Zeh C inl) {st:St} {ρ:List V} {a:Act} {w:World} {L:List LC} {ops:List Oper} {o:Oper} {k:St->Tree} {K:Act->World->Prop} {Q:Exit->Act->World->Prop} (hi:Inv C st ρ a w) (hdL:st.d=L.length) (hk:∀st' ρ' L' a' w',L <+: L'->st'.d=L'.length->ρ <+: ρ'->(k st').goal C ρ' L'->Inv C st' ρ' a' w'->K a' w') (hg:(Zv1 E inl ops o st k).goal C ρ L) : if Region.wanted o (yielded ops.toArray a.tmps)=true then o.wp C.P a w K Q else K (a.put o.dst undef) w:=by
  unfold Zv1 at hg;split at hg
  . rename_i x hx;obtain⟨h1,h2⟩:=hg;cases hb:(x.ev ρ).toB with
    | true=>exact Zlk hE hI (hi.asm hb) ((St.asm_d _ _ _).trans hdL) hk (h1 ((X.P_iff ρ x).2 hb))
    | false=>exact Zlk hE hI (hi.asm hb) ((St.asm_d _ _ _).trans hdL) hk (h2 (fun hp=>by rw[(X.P_iff ρ x).1 hp]at hb;cases hb))
  . exact Zc6 hE hI hi hdL hk hg
theorem Zeu {ρ:List V} {a:Act} {w:World}:∀(vs:List Nat) {cur:St},Inv C cur ρ a w->Inv C { cur with hp:=Zq2 cur.hp vs } ρ a w
  | [],_,h=>h
  | v::vs,cur,h=>Zeu vs (cur:={ cur with hp:=Z6m cur.hp v }) ⟨h.len,h.size,h.fr,h.bdf,Zg8 h.bdh,h.defers,Z3k h.rel⟩
theorem Zqb (hE:EnvOK C.P E) {inl:InlF} (hI:Zeh C inl) {st:St} {ρ:List V} {a:Act} {w:World} {L:List LC} {ops:List Oper} {o:Oper} {k:St->Tree} {K:Act->World->Prop} {Q:Exit->Act->World->Prop} (hi:Inv C st ρ a w) (hdL:st.d=L.length) (hk:∀st' ρ' L' a' w',L <+: L'->st'.d=L'.length->ρ <+: ρ'->(k st').goal C ρ' L'->Inv C st' ρ' a' w'->K a' w') (hg:(exOp E inl ops o st k).goal C ρ L) : if Region.wanted o (yielded ops.toArray a.tmps)=true then o.wp C.P a w K Q else K (a.put o.dst undef) w:=by
  unfold exOp at hg;split at hg
  . rename_i t e ks hn;have hn':∃ei,st.slot t=.cv (false,[.nils])/\E.T.get e=some ei/\ks=ei.ks:=by
      unfold Zxv at hn;split at hn
      . split at hn
        . split at hn
          . rename_i h1 h2;simp only[Option.map_eq_some_iff,Prod.mk.injEq]at hn;obtain⟨ei,h3,rfl,rfl,rfl⟩:=hn;have h4:∀{x:Operand} {t:Nat},Zlc st x=true->some x=some (Operand.tmp t)->st.slot t=.cv (false,[.nils]):=fun {x t} h5 h6=>by
              cases h6;simp only[Zlc]at h5;split at h5
              . assumption
              . cases h5
            refine⟨ei,?_,h3,rfl⟩;split at h1
            . exact h4 (by assumption) h1
            . split at h1
              . exact h4 (by assumption) h1
              . cases h1
          . cases hn
        . cases hn
      . cases hn
    obtain⟨ei,hs,hei,rfl⟩:=hn';have hi2:=hi.bindEnt hi.rel hi.bdh (.v (.slice none 0 0)) (.row st.n e ei.ks .nilR) (by simp[Ent.bd,X.bd])
      (by simp only[Ent.holds,Zj hi.len,V.toV_v,X.ev,V.toR_r];exact⟨by simp,World.ownsRow_nil _ _ _ _⟩)
      (fun _ k hk=>by simp only[Ent.fp,Zj hi.len,V.toV_v,Z2,Value.ownBlock]at hk;cases hk)
      (fun _ _ _ k hk _=>by simp only[Ent.fp,Zj hi.len,V.toV_v,Z2,Value.ownBlock]at hk;cases hk)
    have hv:a.tmps.getD t undef=.slice none 0 0:=by have:=hi.fr t;rw[hs]at this;exact this
    have hi3:=hi2.over t (s:=Z89 st.n) (by rw[hv];exact Z49 hi.len rfl);exact Zll hE hI hi3 (by exact hdL) (fun st' ρ' L' a' w' hL hd hp=>hk st' ρ' L' a' w' hL hd ((List.prefix_append ρ _).trans hp)) hg
  . exact Zll hE hI (Zeu _ hi) hdL hk hg
theorem Zvc (hE:EnvOK C.P E) {inl:InlF} (hI:Zeh C inl) {ops:List Oper} {Q:Exit->Act->World->Prop}:∀(rest:List Oper) {st:St} {ρ:List V} {L:List LC} {a:Act} {w:World} {k:St->Tree}, Inv C st ρ a w->st.d=L.length->(∀st' ρ' L' a' w',L <+: L'->st'.d=L'.length->ρ <+: ρ'->(k st').goal C ρ' L'->Inv C st' ρ' a' w'->Q .normal a' w')->(Zv2 E inl ops rest st k).goal C ρ L->wpList C.P ops.toArray Q rest a w:=by
  intro rest;induction rest with
  | nil=>intro st ρ L a w k hi hdL hk hg;exact hk _ _ _ _ _ List.prefix_rfl hdL List.prefix_rfl hg hi
  | cons o rest ih =>
    intro st ρ L a w k hi hdL hk hg;refine wpList_step fun K hK=>?_;exact Zqb hE hI hi hdL (fun st' ρ' L' a' w' hL hd hp hg' hi'=>hK _ _ (ih hi' hd (fun st'' ρ'' L'' a'' w'' hL' hd' hp'=>hk _ _ _ _ _ (hL.trans hL') hd' (hp.trans hp')) hg')) hg
section any
variable {P:Program} {ops:Array Oper} {md:Region.Mode} {Q:Exit->Act->World->Prop} {S:World->Prop} {T:Array Bool->World->Prop}
def Z96 (P:Program) (md:Region.Mode) (ops:Array Oper) (Q:Exit->Act->World->Prop) (T:Array Bool->World->Prop):Nat->Array Bool->Act->World->Prop
  | 0,listed,a,w=>∀w1,Mod [] w w1->Region.ready md ops listed=[]/\Q .normal a w1
  | fuel+1,listed,a,w=>∀w1,Mod [] w w1 ->
    (Region.ready md ops listed=[]->Q .normal a w1) /\
    ∀i∈Region.ready md ops listed,wpOp P ops Q i (fun a' w'=>T (listed.setIfInBounds i true) w'/\Z96 P md ops Q T fuel (listed.setIfInBounds i true) a' w') a w1
theorem Zev:∀(fuel:Nat) (listed:Array Bool) (a:Act) (w:World),Z96 P md ops Q T fuel listed a w->wpAny P md ops Q fuel listed a w
  | 0,_,_,w,h=>h w (Mod.refl _ _)
  | fuel+1,_,_,w,h=>⟨(h w (Mod.refl _ _)).1,fun i hi=>wpOp_mono (fun a w h=>Zev fuel _ a w h.2) ((h w (Mod.refl _ _)).2 i hi)⟩
theorem Z96.more {fuel:Nat} {listed:Array Bool} {a:Act} {w w1:World} (h:Z96 P md ops Q T fuel listed a w) (hm:Mod [] w w1):Z96 P md ops Q T fuel listed a w1:=by
  cases fuel with
  | zero=>exact fun w2 h2=>h w2 (hm.trans h2 (by simp))
  | succ fuel=>exact fun w2 h2=>h w2 (hm.trans h2 (by simp))
def Z97 (md:Region.Mode) (ops:Array Oper) (listed:Array Bool):Prop :=
  ∀(j:Nat) (oj:Oper),ops[j]?=some oj->listed.getD j false=true->∀e∈oj.after,Region.binds md e=true->listed.getD e.on false=true
theorem Z97.ready {listed:Array Bool} {j:Nat} (h:Z97 md ops listed) (hj:j∈Region.ready md ops listed):Z97 md ops (listed.setIfInBounds j true):=by
  intro k ok hk hl e he hb;refine getD_set_true ?_;by_cases hjk:j=k
  . subst hjk;obtain⟨-,oj,hoj,hall⟩:=mem_ready.1 hj;rw[hoj]at hk;cases hk;exact hall e he hb
  . rw[getD_set_ne false hjk]at hl;exact h k ok hk hl e he hb
def Z1m (P:Program) (ops:Array Oper) (S:World->Prop) (o:Oper) (v:Value) (a:Act):Prop :=
  (Region.wanted o (yielded ops a.tmps)=true/\∀w,S w->(execOp a.eval o).run P w=.ok (.value v) w \/
    ∃f args,(execOp a.eval o).run P w=.ok (.enter f args) w/\Calls P f args w fun e w1=>e=.returned v/\Mod [] w w1)\/(Region.wanted o (yielded ops a.tmps)=false/\v=undef)
theorem Z1m.of_same {o:Oper} {v:Value} {a a':Act} (hy:Z1m P ops S o v a) (he:execOp a'.eval o=execOp a.eval o) (hw:Region.wanted o (yielded ops a'.tmps)=Region.wanted o (yielded ops a.tmps)):Z1m P ops S o v a':=by unfold Z1m at *;rw[he,hw];exact hy
theorem Z1m.wpOp {i:Nat} {o:Oper} {v:Value} {a:Act} {w:World} (hi:ops[i]?=some o) (hy:Z1m P ops S o v a) (hS:S w) {K:Act->World->Prop} (h:∀w1,Mod [] w w1->K (a.put o.dst v) w1):wpOp P ops Q i K a w:=by
  unfold Go.wpOp;simp only[hi];rcases hy with ⟨hw,hv⟩|⟨hw,rfl⟩
  . simp only[hw,if_true];left;unfold Oper.wp;rcases hv w hS with h1|⟨f,args,h1,h2⟩
    . rw[h1];exact h w (Mod.refl _ _)
    . rw[h1];simp only[Oper.upon];refine h2.mono ?_;rintro e w1 ⟨rfl,hm⟩;exact h w1 hm
  . simp only[hw,Bool.false_eq_true,if_false];exact h w (Mod.refl _ _)
theorem Zvd {j:Nat} {oi oj:Oper} {v:Value} (hj:ops[j]?=some oj) (hap:oi.apart ops oj=true) (hsi:∀cs b,oi.op≠.select cs b) (hsj:∀cs b,oj.op≠.select cs b) (hnp:∀c a w,¬Q (.panic c) a w) {K:Act->World->Prop} {a:Act} {w:World} (hy:Z1m P ops S oi v a) (h:wpOp P ops Q j K (a.put oi.dst v) w) : wpOp P ops Q j (fun a' w'=>Z1m P ops S oi v a'/\K (a'.put oi.dst v) w') a w:=by
  obtain⟨h1,h2,h3⟩:=Oper.apart_spec hap;have keep:∀(a:Act),Z1m P ops S oi v a->∀u,Z1m P ops S oi v (a.put oj.dst u):=fun a hy u =>
    hy.of_same (execOp_put oi hsi a oj.dst u h3) (wanted_put oi a oj.dst u h3)
  have keepd:∀(a:Act) (d:Deferred),Z1m P ops S oi v a->Z1m P ops S oi v { a with defers:=d::a.defers }:=fun a d hy=>hy;unfold wpOp at *;simp only[hj]at *;rw[wanted_put oj a oi.dst v h1]at h;split
  . rename_i hw;simp only[hw,if_true]at h;rcases h with h|⟨h,hl⟩
    . left;unfold Oper.wp at *;rw[execOp_put oj hsj a oi.dst v h1]at h;generalize (execOp a.eval oj).run P w=r at *
      cases r with
      | ok n w' =>
        cases n<;>simp only[Oper.upon]at h ⊢
        case value u=>exact⟨keep a hy u,by rw[<- Act.put_comm a v u h2];exact h⟩
        case skip=>exact⟨keep a hy _,by rw[<- Act.put_comm a v undef h2];exact h⟩
        case defer d =>
          refine⟨keep _ (keepd a d hy) _,?_⟩;rw[<- Act.put_comm _ v undef h2,<- Act.put_defers];exact h
        case enter f args =>
          refine h.mono fun e w'' he=>?_;cases e with
          | returned u=>exact⟨keep a hy u,by rw[<- Act.put_comm a v u h2];exact he⟩
          | panicked c=>exact(hnp _ _ _ he).elim
          | outgrown=>exact he
        case row r args=>exact h.mono fun u w'' he=>⟨keep a hy u,by rw[<- Act.put_comm a v u h2];exact he⟩
      | halt x w'=>cases x<;>simp only[Oper.upon]at h ⊢;exact(hnp _ _ _ h).elim
    . right;refine⟨?_,hl⟩;unfold Oper.asks at *;rw[execOp_put oj hsj a oi.dst v h1]at h;exact h
  . rename_i hw;simp only[hw]at h;exact⟨keep a hy _,by rw[<- Act.put_comm a v undef h2];exact h⟩
theorem Zba {i:Nat} {oi:Oper} {v:Value} (hi:ops[i]?=some oi) (hsel:∀(j:Nat) (o:Oper) cs b,ops[j]?=some o->o.op≠.select cs b) (hnp:∀c a w,¬Q (.panic c) a w) (hTi:∀listed w,T (listed.setIfInBounds i true) w↔T listed w) (hTm:∀listed w w1,T listed w->Mod [] w w1->T listed w1) (hTS:∀listed w,Z97 md ops listed->listed.getD i true=false->T listed w->S w) : ∀(fuel:Nat) (listed:Array Bool) (a:Act) (w:World),Z97 md ops listed -> (∀j oj,ops[j]?=some oj->j≠i->listed.getD j true=false->(∀e∈oj.after,Region.binds md e=true->e.on≠i)->oi.apart ops oj=true) -> i∈Region.ready md ops listed->Z1m P ops S oi v a->T listed w -> Z96 P md ops Q T fuel (listed.setIfInBounds i true) (a.put oi.dst v) w->Z96 P md ops Q T (fuel+1) listed a w:=by
  intro fuel;induction fuel with
  | zero =>
    intro listed a w hcl _ hr hy hT0 H w1 hm;have hT:=hTm _ _ _ hT0 hm;refine⟨fun h=>(by rw[h]at hr;cases hr),fun j hj=>?_⟩;by_cases hji:j=i
    . subst hji;exact hy.wpOp hi (hTS _ _ hcl (mem_ready.1 hr).1 hT) fun w2 hm2=>⟨(hTi _ _).2 (hTm _ _ _ hT hm2),H.more (hm.trans hm2 (by simp))⟩
    . have:=ready_mono hj hji;rw[(H w1 hm).1]at this;cases this
  | succ fuel ih =>
    intro listed a w hcl hfree hr hy hT0 H w1 hm;have hT:=hTm _ _ _ hT0 hm;refine⟨fun h=>(by rw[h]at hr;cases hr),fun j hj=>?_⟩;by_cases hji:j=i
    . subst hji;exact hy.wpOp hi (hTS _ _ hcl (mem_ready.1 hr).1 hT) fun w2 hm2=>⟨(hTi _ _).2 (hTm _ _ _ hT hm2),H.more (hm.trans hm2 (by simp))⟩
    . have h1:=(H w1 hm).2 j (ready_mono hj hji);obtain⟨hjun,oj,hoj,hall⟩:=mem_ready.1 hj;have hnot:∀e∈oj.after,Region.binds md e=true->e.on≠i:=fun e he hb heq=>by
        have h1:=hall e he hb;have h0:=(mem_ready.1 hr).1;rw[heq]at h1;rcases Nat.lt_or_ge i listed.size with h' | h'
        . simp[h']at h0 h1;rw[h0]at h1;cases h1
        . simp[Array.getElem?_eq_none h']at h1
      have h2:=Zvd hoj (hfree j oj hoj hji hjun hnot) (fun cs b=>hsel i oi cs b hi) (fun cs b=>hsel j oj cs b hoj) hnp hy h1;have hfree':∀k ok,ops[k]?=some ok->k≠i->(listed.setIfInBounds j true).getD k true=false ->
          (∀e∈ok.after,Region.binds md e=true->e.on≠i)->oi.apart ops ok=true:=fun k ok hk hki hun hno=>by
        refine hfree k ok hk hki ?_ hno;by_cases hjk:j=k
        . subst hjk;exact hjun
        . rw[getD_set_ne true hjk]at hun;exact hun
      have hr':i∈Region.ready md ops (listed.setIfInBounds j true):=ready_mono hr (Ne.symm hji);refine wpOp_mono (fun a' w' h3=>?_) h2;have hT':T (listed.setIfInBounds j true) w':=by have:=h3.2.1;rw[Array.setIfInBounds_comm _ _ (Ne.symm hji)]at this;exact(hTi _ _).1 this
      refine⟨hT',ih (listed.setIfInBounds j true) a' w' (hcl.ready hj) hfree' hr' h3.1 hT' ?_⟩;rw[Array.setIfInBounds_comm _ _ hji];exact h3.2.2
end any
def Zz1 (st:St):Op->Option SV
  | .move (.tmp t)=>match st.slot t with | .tup l=>some (.tup l)|_=>none
  | .extract (.tmp t) i=>match st.slot t with | .tup l=>(l[i]?).map SV.cv|_=>none
  | _=>none
def Zk2 (E:Env) (ops:List Oper) (keep:List Ent) (st:St) (i:Nat):Option (Option Tmp×X×List X×SV):=do
  let o <- ops[i]?
  let G <- Z5y ops o st
  if G=.B false then some (o.dst,G,[],.tup []) else
    match (if G=.B true then Zz1 st o.op else none) with
    | some s=>some (o.dst,G,[],s)
    | none=>do
      let (ns,c) <- Zng E { st with hp:=keep } G o.op
      some (o.dst,G,ns,if G=.B true then .cv c else .gd G c)
def Zk3:List Tree->Tree
  | []=>.stuck "none"
  | [t]=>t
  | t::l=>.both t (Zk3 l)
def Z98 (ops:Array Oper) (i:Nat):Nat->Nat->Bool
  | 0,_=>false
  | n+1,j=>match ops[j]? with
    | some o=>o.after.any fun e=>Region.binds .any e && (e.on == i || Z98 ops i n e.on)
    | none=>false
def Zy (ops:List Oper) (keep soft:List Ent) (tch:List Nat) (i:Nat):List Ent :=
  if tch.all (Z98 ops.toArray i ops.length)=true then keep++soft else keep
def Z99 (E:Env) (ops:List Oper) (st:St) (i:Nat):Option (Option Tmp×X×Nat×List SV×SV×Nat):=do
  let o <- ops[i]?
  let G <- Z5y ops o st
  match o.op with
  | .call c=>do
    let (f,args) <- Z93 st G c
    let (res,n1,es) <- Zht E.T E.tups (E.ownF f) o.type st.n
    if (!(G == .B false) && E.fs.contains f && !(E.inl.any fun p=>p.1 == f) && es.isEmpty && (Zjq (args.flatMap SV.ptrs)).isEmpty && (Zps E f st.hp [] args).isEmpty && G.bd st.n)=true then some (o.dst,G,f,args,res,n1) else none
  | _=>none
def Zew (G:X):SV->SV
  | .cv c=>if G=.B true then .cv c else .gd G c
  | r=>if G=.B true then r else .dead
def Zd0 (E:Env) (inl:InlF) (ops:List Oper) (cl:Bool) (keep soft:List Ent) (tch:List Nat):Nat->Array Bool->St->(St->Tree)->Tree
  | 0,listed,st,k=>if Region.ready .any ops.toArray listed=[] then k st else .stuck "an open order fuel"
  | fuel+1,listed,st,k =>
    match Region.ready .any ops.toArray listed with
    | []=>k st
    | rs=>match rs.find? fun i=>!tch.contains i && ((Zk2 E ops (Zy ops keep soft tch i) st i).isSome && Region.free .any ops.toArray listed i) with
      | some i=>match Zk2 E ops (Zy ops keep soft tch i) st i with
        | some (d,G,ns,s)=>Z7z G ns (Zd0 E inl ops cl keep soft tch fuel (listed.setIfInBounds i true) (st.put d s) k)
        | none=>.stuck "an open order"
      | none=>match (if (cl && decide (1<rs.length))=true then rs.find? fun i=>!tch.contains i && ((Z99 E ops st i).isSome && Region.free .any ops.toArray listed i) else none) with
        | some i=>match Z99 E ops st i with
          | some (d,G,f,args,res,n1)=>.callP G f args (forMem (args.any SV.mem) (Zy ops keep soft tch i)) res (n1 - st.n)
              (Zd0 E inl ops cl keep soft tch fuel (listed.setIfInBounds i true) (St.put { st with n:=n1 } d (Zew G res)) k)
          | none=>.stuck "an open order"
        | none=>Zk3 (rs.map fun i=>match ops[i]? with
          | some o=>exOp E inl ops o st fun st'=>if (keep.all (fun e=>st'.hp.contains e) && (tch.any (fun t=>t == i || listed.getD t false) || soft.all (fun e=>st'.hp.contains e)))=true then Zd0 E inl ops cl keep soft tch fuel (listed.setIfInBounds i true) st' k else .stuck "an open order what is kept"
          | none=>.stuck "an open order")
def Zve (ops:List Oper):List Nat:=ops.filterMap fun o=>match o.op with | .load ..=>o.dst|_=>none
def Zz2 (ops:List Oper) (st:St):List Nat :=
  ((Z5e ops []).filterMap fun t=>match st.slot t with | .cv (false,[.ptr v _])=>some v|_=>none) ++
    (if (Z5e ops []).any (fun t=>(Zve ops).contains t)=true then st.hp.filterMap fun | .cells _ _ [.ptr ..]=>none | .cells v _ _=>some v|_=>none else [])
def Zc7 (E:Env) (ops:List Oper) (st:St):List Nat :=
  if (E.joins.any fun j=>j.1 == 10 && j.2.2 == ops.length)=true then ((Z5e ops []).filterMap fun t=>match st.slot t with | .cv (false,[.ptr v _])=>some v|_=>none) else Zz2 ops st
def Zvf (ops:List Oper):List Nat:=(List.range ops.length).filter fun i=>match ops[i]? with
  | some o=>match o.op with
    | .store .. | .slice ..=>true
    | .call c=>match c.callee with
      | .builtin b=>match b with | .append | .clear | .copy=>true|_=>false
      | _=>true
    | _=>false
  | none=>false
def Znp (E:Env) (st:St) (o:Oper):Bool:=match o.op with
  | .call c=>match c.callee with
    | .value (.func f)=>E.fs.contains f && !(E.inl.any fun p=>p.1 == f) && !(E.take.contains f) && (match Zht E.T E.tups (E.ownF f) o.type st.n with|some (_,_,es)=>es.isEmpty|none=>false) &&
        c.args.toList.all fun x=>match x with | .tmp t=>(SV.ptrs (st.slot t)).isEmpty|_=>true
    | _=>false
  | _=>false
def Zc8 (E:Env) (inl:InlF) (cl:Bool) (ops:List Oper) (st:St) (k:St->Tree):Tree :=
  let M:=Zc7 E ops st
  let keep:=st.hp.filter fun | .cells v _ _=>!(M.contains v) | .row ..=>false|_=>true
  let soft:=st.hp.filter fun | .cells v _ _=>M.contains v | .row ..=>true|_=>false
  let tch:=if soft.isEmpty=true then [] else (Zvf ops).filter fun i=>!(cl && (match ops[i]? with|some o=>Znp E st o|none=>false))
  if Region.noSelect ops.toArray=true then Zd0 E inl ops cl keep soft tch ops.length (Array.replicate ops.length false) st k else .stuck "a select"
section
variable {C:Cx} {E:Env}
theorem Zex {ρ:List V} {L:List LC}:∀{l:List Tree},(Zk3 l).goal C ρ L->∀t∈l,t.goal C ρ L
  | [],h=>h.elim
  | [t],h=>by intro u hu;simp at hu;subst hu;exact h
  | t::u::l,h=>by
    intro x hx;obtain⟨h1,h2⟩:=h;rcases List.mem_cons.1 hx with rfl|hx
    . exact h1
    . exact Zex h2 x hx
theorem Zd1 {ops:Array Oper} {i:Nat} {listed:Array Bool} (hc:Z97 .any ops listed):∀(n j:Nat),Z98 ops i n j=true->listed.getD j false=true->listed.getD i false=true
  | 0,_,h,_=>by cases h
  | n+1,j,h,hl=>by
    simp only[Z98]at h;split at h
    . rename_i o ho;have h:∃(k:Nat) (hk:k<o.after.size),Region.binds .any o.after[k]=true/\(o.after[k].on=i\/Z98 ops i n o.after[k].on=true):=by simpa using h
      obtain⟨k,hk,h1,h2⟩:=h;have h3:=hc j o ho hl _ (Array.getElem_mem hk) h1;rcases h2 with h4|h4
      . rw[<- h4];exact h3
      . exact Zd1 hc n _ h4 h3
    . cases h
def Z6n (ρ0:List V) (keep soft:List Ent) (tch:List Nat) (listed:Array Bool) (w:World):Prop :=
  Hold ρ0 keep w/\((∀t∈tch,listed.getD t false=false)->Hold ρ0 soft w)
theorem Z6n.iff {ρ0:List V} {keep soft:List Ent} {tch:List Nat} {i:Nat} (hi:¬i∈tch) (listed:Array Bool) (w:World):Z6n ρ0 keep soft tch (listed.setIfInBounds i true) w↔Z6n ρ0 keep soft tch listed w:=by have e:∀t∈tch,(listed.setIfInBounds i true).getD t false=listed.getD t false:=fun t ht=>getD_set_ne false (fun h=>hi (h▸ht));exact⟨fun h=>⟨h.1,fun h2=>h.2 fun t ht=>by rw[e t ht];exact h2 t ht⟩,fun h=>⟨h.1,fun h2=>h.2 fun t ht=>by rw[<- e t ht];exact h2 t ht⟩⟩
theorem Z6n.still {ρ0:List V} {ops:List Oper} {keep soft:List Ent} {tch:List Nat} {i:Nat} {listed:Array Bool} {w:World} (hc:Z97 .any ops.toArray listed) (hu:listed.getD i true=false) (h:Z6n ρ0 keep soft tch listed w):Hold ρ0 (Zy ops keep soft tch i) w:=by
  unfold Zy;split
  . rename_i hall;have hu':listed.getD i false=false:=by
      rcases Nat.lt_or_ge i listed.size with h' | h'
      . simp[h']at hu ⊢;exact hu
      . simp[Array.getElem?_eq_none h']at hu
    have h2:=h.2 fun t ht=>by
      cases hl:listed.getD t false with
      | false=>rfl
      | true =>
        have:=Zd1 hc _ _ (List.all_eq_true.1 hall t ht) hl;rw[hu']at this;cases this
    intro e he;rcases qy13.1 he with he|he
    . exact h.1 e he
    . exact h2 e he
  . exact h.1
theorem Zvg {st:St} {ρ:List V} {a:Act} {w0:World} (hi:Inv C st ρ a w0) {o:Oper} {s:SV} (h:Zz1 st o.op=some s):∃v,(∀w,(execOp a.eval o).run C.P w=.ok (.value v) w)/\s.rel ρ v:=by
  unfold Zz1 at h;split at h
  . rename_i t hop;have hrel:=hi.fr t;split at h
    . rename_i l hs;simp only[Option.some.injEq]at h;subst h;rw[hs]at hrel;exact⟨a.eval (.tmp t),fun w=>by unfold execOp;simp only[hop,Sem.run_pure],hrel⟩
    . cases h
  . rename_i t i hop;have hrel:=hi.fr t;split at h
    . rename_i l hs;simp only[Option.map_eq_some_iff]at h;obtain⟨c,hc,rfl⟩:=h;rw[hs]at hrel;have hrel:a.eval (.tmp t)=.tuple (l.map (CV.ev ρ)).toArray:=hrel;refine⟨CV.ev ρ c,fun w=>?_,rfl⟩;unfold execOp;simp only[hop,hrel,Instr.extract,List.getElem?_toArray,List.getElem?_map,hc,Option.map_some];simp only[go_sem,Sem.run_bind,Sem.run_pure,Result.andThen_ok]
    . cases h
  . cases h
theorem Zlm (st:St) (h:List Ent) (G:X):∀l:List Operand,Zcx { st with hp:=h } G l=Zcx st G l
  | []=>rfl
  | x::l=>by simp only[Zcx,Zlm st h G l];rfl
theorem Zqc (st:St) (h:List Ent) (G:X) (c:Call):Z93 { st with hp:=h } G c=Z93 st G c:=by unfold Z93;simp only[Zlm st h G];rfl
theorem Hold.more {ρ0:List V} {l:List Ent} {w w1:World} (h:Hold ρ0 l w) (hm:Mod [] w w1):Hold ρ0 l w1:=fun e he =>
  Ent.stable (h e he) fun k hk=>hm.block k (Ent.bound (h e he) hk) (by simp)
theorem Zga (ops:List Oper) (keep soft:List Ent) (tch:List Nat) (i:Nat):(Zy ops keep soft tch i).Sublist (keep++soft):=by
  unfold Zy;split
  . exact List.Sublist.refl _
  . exact List.sublist_append_left _ _
theorem Zqd (hE:EnvOK C.P E) {inl:InlF} (hI:Zeh C inl) {ops:List Oper} {cl:Bool} {keep soft:List Ent} {tch:List Nat} {ρ0:List V} {Q:Exit->Act->World->Prop} (hkb:keep.all (Ent.bd ρ0.length)=true) (hsb:soft.all (Ent.bd ρ0.length)=true) (hown:∀e∈keep++soft,e.wr=true->∀k,e.fp ρ0 k->C.B.w0.heap.size<=k\/k∈C.B.fp) (hsep:Z2s ρ0 (keep++soft)) (hsel:Region.noSelect ops.toArray=true) (hnp:∀c a w,¬Q (.panic c) a w):∀(fuel:Nat) (listed:Array Bool) {st:St} {ρ:List V} {L:List LC} {a:Act} {w:World} {k:St->Tree},Z97 .any ops.toArray listed->Inv C st ρ a w->st.d=L.length->ρ0 <+: ρ->Z6n ρ0 keep soft tch listed w -> (∀st' ρ' L' a' w',L <+: L'->st'.d=L'.length->ρ <+: ρ'->(k st').goal C ρ' L'->Inv C st' ρ' a' w'->Q .normal a' w')->(Zd0 E inl ops cl keep soft tch fuel listed st k).goal C ρ L -> Z96 C.P .any ops.toArray Q (fun l w=>Z6n ρ0 keep soft tch l w/\Mod C.B.fp C.B.w0 w) fuel listed a w:=by
  have hputd:∀(st:St) (d:Option Tmp) (s:SV),(st.put d s).d=st.d:=by intro st d s;cases d<;>rfl
  have hagk:∀l:List Ent,l.all (Ent.bd ρ0.length)=true->∀ρ,ρ0 <+: ρ->∀w,Hold ρ0 l w↔Hold ρ l w:=by rintro l hlb ρ ⟨t,rfl⟩ w;have hb:=List.all_eq_true.1 hlb;exact⟨fun h e he=>(Ent.holds_bd (Zt.app ρ0 t) e (hb e he) w).1 (h e he),fun h e he=>(Ent.holds_bd (Zt.app ρ0 t) e (hb e he) w).2 (h e he)⟩
  have hstb:∀i,(Zy ops keep soft tch i).all (Ent.bd ρ0.length)=true:=by
    intro i;unfold Zy;split
    . rw[List.all_append,hkb,hsb];rfl
    . exact hkb
  have hsm:∀{l:Array Bool} {w w1:World},Z6n ρ0 keep soft tch l w->Mod [] w w1->Z6n ρ0 keep soft tch l w1:=fun h hm=>⟨h.1.more hm,fun h2=>(h.2 h2).more hm⟩
  have hTm:∀(l:Array Bool) (w w1:World),(Z6n ρ0 keep soft tch l w/\Mod C.B.fp C.B.w0 w)->Mod [] w w1->Z6n ρ0 keep soft tch l w1/\Mod C.B.fp C.B.w0 w1:=fun l w w1 h hm=>⟨hsm h.1 hm,h.2.trans hm (by simp)⟩
  have hrel0:∀(i:Nat) (ρ:List V) (w:World),ρ0 <+: ρ->Hold ρ0 (Zy ops keep soft tch i) w->Mod C.B.fp C.B.w0 w->Rel C.B ρ (Zy ops keep soft tch i) w:=by rintro i ρ w ⟨t,rfl⟩ hh hm;have hs:=Zga ops keep soft tch i;exact Rel.ext (ρ:=ρ0) ⟨hm,hh,fun e he=>hown e (hs.subset he),hsep.sublist hs⟩ (Zt.app ρ0 t) (hstb i)
  intro fuel;induction fuel with
  | zero =>
    intro listed st ρ L a w k hcl hi0 hdL hp hS hk hg w1 hm;have hi:=hi0.world (hi0.rel.step hm (by simp) (by simp));simp only[Zd0]at hg;split at hg
    . rename_i hr;exact⟨hr,hk _ _ _ _ _ List.prefix_rfl hdL List.prefix_rfl hg hi⟩
    . exact hg.elim
  | succ fuel ih =>
    intro listed st ρ L a w k hcl hi hdL hp hS hk hg;simp only[Zd0]at hg;split at hg
    . rename_i hr;intro w1 hm;have hi:=hi.world (hi.rel.step hm (by simp) (by simp));exact⟨fun _=>hk _ _ _ _ _ List.prefix_rfl hdL List.prefix_rfl hg hi,fun i hi'=>by rw[hr]at hi';cases hi'⟩
    . rename_i rs hne;split at hg
      . rename_i i hfind;have hmem:=List.mem_of_find?_eq_some hfind;have hprop:=List.find?_some hfind;simp only[Bool.and_eq_true,Bool.not_eq_true']at hprop;have hnt:¬i∈tch:=fun h=>by
          have:=hprop.1;rw[List.contains_iff_mem.2 h]at this;cases this
        split at hg
        . rename_i d G ns s hl;obtain⟨hn,hg⟩:=Z47 hg;unfold Zk2 at hl;simp only[Option.bind_eq_bind,Option.bind_eq_some_iff]at hl;obtain⟨o,ho,G',hgd,hl⟩:=hl;have hoa:ops.toArray[i]?=some o:=by simpa using ho
          have hwant:=Zg7 hi hgd;have hcase:(∃v,Z1m C.P ops.toArray (Hold ρ0 (Zy ops keep soft tch i)) o v a/\s.rel ρ v)/\d=o.dst:=by
            split at hl
            . rename_i hGf;simp only[Option.some.injEq,Prod.mk.injEq]at hl;obtain⟨rfl,rfl,rfl,rfl⟩:=hl;subst hGf;exact⟨⟨undef,.inr ⟨by rw[hwant];rfl,rfl⟩,rfl⟩,rfl⟩
            . split at hl
              . rename_i s' hs';simp only[Option.some.injEq,Prod.mk.injEq]at hl;obtain⟨rfl,rfl,rfl,rfl⟩:=hl;split at hs'
                . rename_i hGt;subst hGt;obtain⟨v,hv1,hv2⟩:=Zvg hi hs';exact⟨⟨v,.inl ⟨by rw[hwant];rfl,fun w' _=>.inl (hv1 w')⟩,hv2⟩,rfl⟩
                . cases hs'
              simp only[Option.bind_eq_some_iff,Option.some.injEq,Prod.mk.injEq]at hl;obtain⟨⟨ns',c⟩,hv,rfl,rfl,rfl,rfl⟩:=hl;refine⟨?_,rfl⟩;cases hG:(G'.ev ρ).toB with
              | true =>
                refine⟨CV.ev ρ c,.inl ⟨by rw[hwant,hG],fun w' hS'=>.inl (Zle hE hi ((hagk _ (hstb i) ρ hp w').1 hS') hG hv (hn hG))⟩,?_⟩;split
                . rfl
                . exact⟨fun _=>rfl,(fun h=>by rw[hG]at h;cases h)⟩
              | false =>
                refine⟨undef,.inr ⟨by rw[hwant,hG],rfl⟩,?_⟩;split
                . rename_i h;subst h;simp[X.ev]at hG
                . exact⟨(fun h=>by rw[hG]at h;cases h),fun _=>rfl⟩
          obtain⟨⟨v,hy,hrel⟩,rfl⟩:=hcase;refine Zba hoa (Region.noSelect_spec hsel) hnp (fun l w=>by rw[Z6n.iff hnt l w]) hTm (fun l w h1 h2 h3=>h3.1.still h1 h2) fuel listed a w hcl (Region.free_spec hoa hprop.2.2) hmem hy ⟨hS,hi.rel.mod⟩ ?_;exact ih _ (hcl.ready hmem) (hi.put _ hrel) ((hputd _ _ _).trans hdL) hp ((Z6n.iff hnt listed w).2 hS) hk hg
        . exact hg.elim
      . split at hg
        . rename_i i hfind;have hfind:(Region.ready .any ops.toArray listed).find? (fun i=>!tch.contains i && ((Z99 E ops st i).isSome && Region.free .any ops.toArray listed i))=some i:=by
            split at hfind
            . exact hfind
            . cases hfind
          have hmem:=List.mem_of_find?_eq_some hfind;have hprop:=List.find?_some hfind;simp only[Bool.and_eq_true,Bool.not_eq_true']at hprop;have hnt:¬i∈tch:=fun h=>by have:=hprop.1;rw[List.contains_iff_mem.2 h]at this;cases this
          split at hg
          . rename_i d G f args res n1 hl;obtain⟨vs,hvl,hcall,hg⟩:=hg;unfold Z99 at hl;simp only[Option.bind_eq_bind,Option.bind_eq_some_iff]at hl;obtain⟨o,ho,G',hgd,hl⟩:=hl;have hoa:ops.toArray[i]?=some o:=by simpa using ho
            split at hl
            . rename_i c hop;simp only[Option.bind_eq_some_iff]at hl;obtain⟨⟨f',args'⟩,hc,⟨res',n1',es⟩,hres,hl⟩:=hl;simp only[Option.ite_none_right_eq_some,Option.some.injEq,Prod.mk.injEq,Bool.and_eq_true,Bool.not_eq_true']at hl;obtain⟨⟨⟨⟨⟨⟨⟨hGf,hfs⟩,hinl⟩,hes⟩,hpt⟩,hgo⟩,hGb⟩,rfl,rfl,rfl,rfl,rfl,rfl⟩:=hl;obtain⟨hle,-⟩:=Zlf hres;have hf:Zcy C.P f'=true:=hE.fs f' (by simpa using hfs);have hwant:=Zg7 hi hgd;have hi1:=ext0 hi (n:=n1') vs hvl hle;have hGe:G'.ev (ρ++vs)=G'.ev ρ:=(X.ev_bd (by rw[<- hi.len];exact Zt.app ρ vs) G' hGb).symm;have hcase:∃v,Z1m C.P ops.toArray (fun w=>Hold ρ0 (Zy ops keep soft tch i) w/\Mod C.B.fp C.B.w0 w) o v a/\(Zew G' res').rel (ρ++vs) v:=by
                cases hG:(G'.ev ρ).toB with
                | true =>
                  refine⟨res'.ev (ρ++vs),.inl ⟨by rw[hwant,hG],fun w' hS'=>.inr ⟨f',(args'.map (SV.ev ρ)).toArray,?_,?_⟩⟩,?_⟩
                  . have hbst:(Zy ops keep soft tch i).all (Ent.bd st.n)=true:=List.all_eq_true.2 fun e he=>Ent.bd_mono (by rw[<- hi.len];exact hp.length_le) e (List.all_eq_true.1 (hstb i) e he);have hi':Inv C { st with hp:=Zy ops keep soft tch i } ρ a w':=hi.heap hbst (hrel0 i ρ w' hp hS'.1 hS'.2);exact Z94 (st:={ st with hp:=Zy ops keep soft tch i }) hi' hG hop (by rw[Zqc];exact hc) hf
                  . exact hcall ((X.P_iff ρ G').2 hG) w' ((hrel0 i ρ w' hp hS'.1 hS'.2).forMem _)
                  . rcases Z48 hres with ⟨x,rfl⟩|⟨x,rfl⟩
                    . simp only[Zew];split
                      . rfl
                      . exact⟨fun _=>rfl,fun h=>by rw[hGe,hG]at h;cases h⟩
                    . simp only[Zew];split
                      . rfl
                      . trivial
                | false =>
                  have hGn:¬G'=.B true:=by rintro rfl;simp[X.ev]at hG
                  refine⟨undef,.inr ⟨by rw[hwant,hG],rfl⟩,?_⟩;rcases Z48 hres with ⟨x,rfl⟩|⟨x,rfl⟩
                  . simp only[Zew,if_neg hGn];exact⟨(fun h=>by rw[hGe,hG]at h;cases h),fun _=>rfl⟩
                  . simp only[Zew,if_neg hGn];trivial
              obtain⟨v,hy,hrel⟩:=hcase;refine Zba hoa (Region.noSelect_spec hsel) hnp (fun l w=>by rw[Z6n.iff hnt l w]) hTm (fun l w h1 h2 h3=>⟨h3.1.still h1 h2,h3.2⟩) fuel listed a w hcl (Region.free_spec hoa hprop.2.2) hmem hy ⟨hS,hi.rel.mod⟩ ?_;exact ih _ (hcl.ready hmem) (hi1.put _ hrel) ((hputd _ _ _).trans hdL) (hp.trans (List.prefix_append ρ vs)) ((Z6n.iff hnt listed w).2 hS)
                (fun st'' ρ'' L'' a'' w'' hL' hd' hp''=>hk _ _ _ _ _ hL' hd' ((List.prefix_append ρ vs).trans hp'')) hg
            . cases hl
          . exact hg.elim
        . have hall:=Zex hg;intro w1 hm1;have hi:=hi.world (hi.rel.step hm1 (by simp) (by simp));have hS:=hsm hS hm1;refine⟨fun h=>(hne h).elim,fun j hj=>?_⟩;have hg:=hall _ (List.mem_map_of_mem hj);split at hg
          . rename_i o ho;have hoa:ops.toArray[j]?=some o:=by simpa using ho
            have:=Zqb (ops:=ops) (K:=fun a' w'=>(Z6n ρ0 keep soft tch (listed.setIfInBounds j true) w'/\Mod C.B.fp C.B.w0 w')/\Z96 C.P .any ops.toArray Q (fun l w=>Z6n ρ0 keep soft tch l w/\Mod C.B.fp C.B.w0 w) fuel (listed.setIfInBounds j true) a' w') (Q:=Q) hE hI hi hdL (fun st' ρ' L' a' w' hL hd hp' hg' hi'=>by
              split at hg'
              . rename_i hkeep;simp only[Bool.and_eq_true,Bool.or_eq_true]at hkeep;have hS':Z6n ρ0 keep soft tch (listed.setIfInBounds j true) w':=by
                  refine⟨(hagk _ hkb ρ' (hp.trans hp') w').2 fun e he=>hi'.rel.holds e (by simpa using List.all_eq_true.1 hkeep.1 e he),fun hun=>?_⟩;rcases hkeep.2 with h|h
                  . obtain⟨t,ht,h⟩:=List.any_eq_true.1 h;have hun:=hun t ht;simp only[Bool.or_eq_true,beq_iff_eq]at h;rcases h with rfl|h
                    . have hlt:t<listed.size:=by
                        have h0:=(mem_ready.1 hj).1;rcases Nat.lt_or_ge t listed.size with h' | h'
                        . exact h'
                        . simp[Array.getElem?_eq_none h']at h0
                      simp[hlt]at hun
                    . rw[getD_set_true h]at hun;cases hun
                  . exact(hagk _ hsb ρ' (hp.trans hp') w').2 fun e he=>hi'.rel.holds e (by simpa using List.all_eq_true.1 h e he)
                exact⟨⟨hS',hi'.rel.mod⟩,ih _ (hcl.ready hj) hi' hd (hp.trans hp') hS' (fun st'' ρ'' L'' a'' w'' hL' hd' hp''=>hk _ _ _ _ _ (hL.trans hL') hd' (hp'.trans hp'')) hg'⟩
              . exact hg'.elim) hg
            unfold wpOp;simp only[hoa];split
            . rename_i hw;rw[if_pos hw]at this;exact .inl this
            . rename_i hw;rw[if_neg hw]at this;exact this
          . exact hg.elim
theorem Zk4 (hE:EnvOK C.P E) {inl:InlF} (hI:Zeh C inl) {cl:Bool} {L:List LC} {id:Nat} {ops:Array Oper} {Q:Exit->Act->World->Prop} {st:St} {ρ:List V} {a:Act} {w:World} {k:St->Tree} (hi:Inv C st ρ a w) (hdL:st.d=L.length) (hk:∀st' ρ' L' a' w',L <+: L'->st'.d=L'.length->ρ <+: ρ'->(k st').goal C ρ' L'->Inv C st' ρ' a' w'->Q .normal a' w') (hg:(Zc8 E inl cl ops.toList st k).goal C ρ L):(Code.region id ops true).wp C.P Q a w:=by
  unfold Zc8 at hg;simp only[]at hg;split at hg
  . rename_i hsel;refine wp_region_noPanic (wp_region_any hE.mixed ?_);have hi':Inv C st ρ a w.drew:=hi.world hi.rel.drew;have hcl:Z97 .any ops (Array.replicate ops.toList.length false):=fun j oj hj hl=>by
      exfalso;rcases Nat.lt_or_ge j ops.size with h' | h'
      . simp[h']at hl
      . simp[Array.getElem?_eq_none h']at hj
    have hall:=List.all_eq_true.1 hi.bdh;have hperm:((st.hp.filter fun | .cells v _ _=>!((Zc7 E ops.toList st).contains v) | .row ..=>false|_=>true)++(st.hp.filter fun | .cells v _ _=>(Zc7 E ops.toList st).contains v | .row ..=>true|_=>false)).Perm st.hp:=by have:=List.filter_append_perm (fun e:Ent=>match e with | .cells v _ _=>!((Zc7 E ops.toList st).contains v) | .row ..=>false|_=>true) st.hp;refine List.Perm.trans (List.Perm.append_left _ ?_) this;refine List.Perm.of_eq (List.filter_congr fun e _=>?_);cases e<;>simp
    have hrel:=hi'.rel.perm hperm.symm;have:=Zqd (Q:=NoPanic Q) (ρ0:=ρ) hE hI ?_ ?_ hrel.own hrel.sep hsel (fun c a w h=>h) ops.toList.length (Array.replicate ops.toList.length false) (by simpa using hcl) hi' hdL List.prefix_rfl ?_ (fun st' ρ' L' a' w' hL hd hp hg' hi''=>NoPanic.normal (hk st' ρ' L' a' w' hL hd hp hg' hi'')) hg
    . exact Zev _ _ _ _ (by simpa using this)
    . refine List.all_eq_true.2 fun e he=>?_;rw[hi.len];exact hall e (List.mem_filter.1 he).1
    . refine List.all_eq_true.2 fun e he=>?_;rw[hi.len];exact hall e (List.mem_filter.1 he).1
    . exact⟨fun e he=>hi'.rel.holds e (List.mem_filter.1 he).1,fun _ e he=>hi'.rel.holds e (List.mem_filter.1 he).1⟩
  . exact hg.elim
end
end Go.Sx
namespace Go.Sx
open Go
variable {C:Cx} {E:Env}
inductive EX|normal|exit (id:Nat)|ret
  deriving DecidableEq,Repr,Inhabited
def EX.to:EX->Exit | .normal=>.normal | .exit id=>.exit id | .ret=>.ret
def Z9a:Code->List Nat
  | .region _ ops _=>ops.toList.filterMap (·.dst)
  | .seq a b=>Z9a a++Z9a b
  | .cond _ a b=>Z9a a++Z9a b
  | .block _ c=>Z9a c
  | .loop c=>Z9a c
  | _=>[]
def Zd2:Code->List Oper
  | .region _ ops _=>ops.toList
  | .seq a b=>Zd2 a++Zd2 b
  | .cond _ a b=>Zd2 a++Zd2 b
  | .block _ c=>Zd2 c
  | .loop c=>Zd2 c
  | _=>[]
structure Hd where
  n:Nat
  inits:List X
  sub:List (Nat×Nat)
  rows:List Ent
  ro:Bool:=false
  deriving Inhabited
def Zqe (T:Tab) (hp:List Ent) (ty:Option Nat) (h:Hd):Sc->Sc×Hd
  | .int k x=>(.int k (.var h.n),{ h with n:=h.n+1,inits:=h.inits++[x] })
  | .bool x=>(.bool (.var h.n),{ h with n:=h.n+1,inits:=h.inits++[x] })
  | .str x=>(.str (.var h.n),{ h with n:=h.n+1,inits:=h.inits++[x] })
  | .val (.var v)=>match Zo hp v with
    | some (_,r)=>(.val (.var h.n),{ h with n:=h.n+2,inits:=h.inits++[.var v,r],sub:=(v,h.n)::h.sub })
    | none=>(.val (.var h.n),{ h with n:=h.n+1,inits:=h.inits++[.var v] })
  | .val x=>(.val (.var h.n),{ h with n:=h.n+1,inits:=h.inits++[x] })
  | .nilp=>(.val (.var h.n),{ h with n:=h.n+1,inits:=h.inits++[.nilP] })
  | .nils=>match ty with
    | some e=>match T.get e with
      | some ei=>(.val (.var h.n),{ h with n:=h.n+2,inits:=h.inits++[.nilS,.nilR],rows:=h.rows++[if h.ro=true then .rd h.n ei.ks (.var (h.n+1)) else .row h.n e ei.ks (.var (h.n+1))] })
      | none=>(.nils,h)
    | none=>(.nils,h)
  | s=>(s,h)
def Zln (T:Tab) (hp:List Ent):List (Option Nat)->Hd->List Sc->List Sc×Hd
  | _,h,[]=>([],h)
  | tys,h,s::ss =>
    let ty:=match tys with|t::_=>t | []=>none
    let (a,h1):=Zqe T hp ty h s;let (b,h2):=Zln T hp tys.tail h1 ss;(a::b,h2)
def Zhy (T:Tab) (hp:List Ent) (fixed:List Nat):List (Option Nat)->Hd->List Sc->List Sc×Hd
  | _,h,[]=>([],h)
  | tys,h,s::ss =>
    let ty:=match tys with|t::_=>t | []=>none
    let keep:=match s with | .val (.var v)=>fixed.contains v|_=>false
    let (a,h1):=if keep=true then (s,h) else Zqe T hp ty h s
    let (b,h2):=Zhy T hp fixed tys.tail h1 ss
    (a::b,h2)
def Zvh (T:Tab) (ops:List Oper):List Nat:=ops.filterMap fun o=>match o.op with
  | .call c=>match c.callee,c.argTypes.toList with
    | .builtin .append,t::_=>match T.tag t with|some (.slice e)=>some e|_=>none
    | _,_=>none
  | _=>none
def Zz3 (T:Tab) (ops:List Oper) (j:Nat):List (Option Nat) :=
  let ap:=Zvh T ops
  if ap.isEmpty then [] else
  match ops.find? (fun o=>o.dst == some j && (T.get o.type).isSome) with
  | some o=>(Znf T 6 o.type).map fun x=>match x with|some e=>if ap.contains e then some e else none|none=>none
  | none=>[]
def Zey (T:Tab) (ops:List Oper) (hp:List Ent) (W:List Nat):Nat->Hd->List SV->List SV×Hd
  | _,h,[]=>([],h)
  | j,h,s::ss =>
    let (a,h1):=if W.contains j then (match s with | .cv (g,cs)=>let (cs',h'):=Zln T hp (Zz3 T ops j) h cs;(SV.cv (g,cs'),h')|_=>(.dead,h)) else (s,h)
    let (b,h2):=Zey T ops hp W (j+1) h1 ss
    (a::b,h2)
def Zhz (T:Tab) (hp0:List Ent) (fixed M:List Nat):Hd->List Ent->List Ent×Hd
  | h,[]=>([],h)
  | h,e::es =>
    let (a,h1):=match e with
      | .cells v ty cs=>if M.contains v then (let (cs',h'):=Zhy T hp0 fixed (Znf T 6 ty) h cs;(Ent.cells v ty cs',h')) else (e,h)
      | .st v=>if M.contains v then (.st h.n,{ h with n:=h.n+1,inits:=h.inits++[.var v] }) else (.st v,h)
      | .row v ty ks r=>if M.contains v && !(h.sub.any fun p=>p.1 == v) then (.row v ty ks (.var h.n),{ h with n:=h.n+1,inits:=h.inits++[r] }) else (e,h)
      | e=>(e,h)
    let (b,h2):=Zhz T hp0 fixed M h1 es
    (a::b,h2)
def Z11v (h:Hd):Ent->Ent
  | .row v ty ks r=>(match h.sub.find? fun p=>p.1 == v with|some p=>.row p.2 ty ks (.var (p.2+1))|none=>.row v ty ks r)
  | .rd v ks r=>(match h.sub.find? fun p=>p.1 == v with|some p=>.rd p.2 ks (.var (p.2+1))|none=>.rd v ks r)
  | e=>e
def Z149 (v:Nat):SV->Bool
  | .cv c=>c.2.any fun s=>match s with | .val (.var u)=>u == v|_=>false
  | _=>false
def Znq (st:St) (t:Nat):List Nat:=match st.slot t with
  | .fn _ first caps=>(first++caps).flatMap fun s=>match s with
    | .ptr v _=>(match st.hp.find? fun e=>match e with | .cells u _ _=>u == v|_=>false with
      | some (.cells _ _ [.ptr u _])=>[u]
      | _=>[v])
    | _=>[]
  | _=>[]
def Znr (ops:List Oper) (st:St) (t:Nat):List Nat:=ops.flatMap fun o=>match o.dst,o.op with
  | some d,.load _ (.tmp q)=>if d == t then (match st.slot q with
    | .cv (false,[.ptr v _])=>(match st.hp.find? fun e=>match e with | .cells u _ _=>u == v|_=>false with
      | some (.cells _ _ [.ptr u _])=>[u]
      | _=>[])
    | _=>[]) else []
  | _,_=>[]
def Zi0 (T:Tab) (body:Code) (st:St) (ps:List Nat:=[]) (ro:Bool:=false):St×List X :=
  let W:=Z9a body
  let roots:=Z5e (Zd2 body) []
  let M:=(roots.filterMap fun t=>match st.slot t with | .cv (false,[.ptr v _])=>some v | .cv (false,[.val (.var v)])=>some v|_=>none)++roots.flatMap (Znq st)++roots.flatMap (Znr (Zd2 body) st)
  let (fr,h1):=Zey T (Zd2 body) st.hp W 0 { n:=st.n,inits:=[],sub:=[],rows:=[] } st.fr
  let fixed:=(List.range st.fr.length).filterMap fun j=>if W.contains j=true || (!ps.isEmpty && !((Zd2 body).any fun o=>o.op.operands.toList.any fun x=>match x with | .tmp i=>i == j|_=>false)) then none else (match st.slot j with | .cv (false,[.val (.var u)])=>some u|_=>none)
  let (hp,h2):=Zhz T st.hp fixed (ps++M) { h1 with ro:=ro } st.hp
  let olds:=st.hp.filter fun e=>match e with | .rd v _ _=>(h2.sub.any fun p=>p.1 == v) && fr.any (Z149 v)|_=>false
  let fr:=if ps.isEmpty=true then fr else fr.map fun s=>match s with | .tup _=>.dead|s=>s
  ({ n:=h2.n,d:=st.d,fr:=fr,hp:=hp.map (Z11v h2)++h2.rows++olds },h2.inits)
def atX (n0:Nat) (xs:List X) (f:Nat):Option X:=if n0<=f then xs[f - n0]? else none
def fitX (n0:Nat) (xs:List X) (h c:X):Bool :=
  (h.bd n0 && h == c) || (match h with | .var f=>atX n0 xs f == some c|_=>false)
def Zz4 (n0:Nat) (xs:List X):Sc->Sc->Bool
  | .int k x,.int k' y=>k == k' && fitX n0 xs x y
  | .bool x,.bool y=>fitX n0 xs x y
  | .str x,.str y=>fitX n0 xs x y
  | .val x,.val y=>fitX n0 xs x y
  | .val x,.nilp=>fitX n0 xs x .nilP
  | .val x,.ptr v off=>fitX n0 xs x (.ptrX v off)
  | .val x,.nils=>fitX n0 xs x .nilS
  | .ptr v off,.ptr v' off'=>off == off' && fitX n0 xs (.var v) (.var v')
  | h,c=>h.bd n0 && h == c
def Zez (n0:Nat) (xs:List X):List Sc->List Sc->Bool
  | [],[]=>true
  | h::hs,c::cs=>Zz4 n0 xs h c && Zez n0 xs hs cs
  | _,_=>false
def Zns (n0:Nat) (xs:List X):SV->SV->Bool
  | .dead,_=>true
  | .cv (g,hs),.cv (g',cs)=>g == g' && Zez n0 xs hs cs
  | h,c=>h.bd n0 && h == c
def Zqf (n0:Nat) (xs:List X):List SV->List SV->Bool
  | [],[]=>true
  | h::hs,c::cs=>Zns n0 xs h c && Zqf n0 xs hs cs
  | _,_=>false
def Zlo (n0:Nat) (xs:List X):Ent->Ent->Bool
  | .cells v ty hs,.cells v' ty' cs=>fitX n0 xs (.var v) (.var v') && ty == ty' && Zez n0 xs hs cs
  | .row v ty ks r,.row v' ty' ks' r'=>fitX n0 xs (.var v) (.var v') && ty == ty' && ks == ks' && fitX n0 xs r r'
  | .rd v ks r,.rd v' ks' r'=>fitX n0 xs (.var v) (.var v') && ks == ks' && fitX n0 xs r r'
  | .st v,.st v'=>(decide (v<n0) && v == v') || atX n0 xs v == some (.var v')
  | _,_=>false
def Zd3 (p:Ent->Bool):List Ent->Option (Ent×List Ent)
  | []=>none
  | c::cs=>if p c then some (c,cs) else match Zd3 p cs with|some (d,ds)=>some (d,c::ds)|none=>none
def Zqg (n0:Nat) (xs:List X):Ent->Bool
  | .row v _ _ r=>(match atX n0 xs v with|some .nilS=>true|_=>false) && fitX n0 xs r .nilR
  | .rd v _ r=>(match atX n0 xs v with|some .nilS=>true|_=>false) && fitX n0 xs r .nilR
  | _=>false
def Znt (n0:Nat) (xs:List X):List Ent->List Ent->Bool
  | [],_=>true
  | h::hs,cs=>match Zd3 (Zlo n0 xs h) cs with
    | some (c,cs')=>if c.wr=true then Znt n0 xs hs cs' else Znt n0 xs hs cs
    | none=>Zqg n0 xs h && Znt n0 xs hs cs
def fits (n0:Nat) (xs:List X) (head cur:St):Bool :=
  head.n == n0+xs.length && xs.all (X.bd cur.n) && Zqf n0 xs head.fr cur.fr && Znt n0 xs head.hp cur.hp && head.fr.all (SV.bd head.n) && head.hp.all (Ent.bd head.n)
def Zqh (n0:Nat) (xs:List X) (head cur:St):String :=
  "a loops back: slots " ++ toString ((List.range head.fr.length).filter fun j=>!(Zns n0 xs (head.slot j) (cur.slot j))) ++ " entries " ++ toString ((List.range head.hp.length).filter fun j=>match head.hp[j]? with|some e=>!(cur.hp.any (Zlo n0 xs e))|none=>false)
def getX (n0 m:Nat) (acc:List (Nat×X)) (h c:X):List (Nat×X) :=
  match h with | .var f=>if n0<=f/\f<n0+m then (f,c)::acc else acc|_=>acc
def Z14a (n0 m:Nat) (acc:List (Nat×X)):Sc->Sc->List (Nat×X)
  | .int _ x,.int _ y | .bool x,.bool y | .str x,.str y | .val x,.val y=>getX n0 m acc x y
  | .val x,.nilp=>getX n0 m acc x .nilP
  | .val x,.ptr v off=>getX n0 m acc x (.ptrX v off)
  | .val x,.nils=>getX n0 m acc x .nilS
  | .ptr v _,.ptr v' _=>getX n0 m acc (.var v) (.var v')
  | _,_=>acc
def Zqi (n0 m:Nat) (acc:List (Nat×X)):List Sc->List Sc->List (Nat×X)
  | h::hs,c::cs=>Zqi n0 m (Z14a n0 m acc h c) hs cs
  | _,_=>acc
def Zz5 (n0 m:Nat) (acc:List (Nat×X)):List SV->List SV->List (Nat×X)
  | .cv (_,h)::hs,.cv (_,c)::cs=>Zz5 n0 m (Zqi n0 m acc h c) hs cs
  | _::hs,_::cs=>Zz5 n0 m acc hs cs
  | _,_=>acc
def Zd4 (n0 m:Nat) (acc:List (Nat×X)) (cur:List Ent):List Ent->List (Nat×X)
  | []=>acc
  | .cells v _ hs::es=>Zd4 n0 m (match (if v<n0 then some (v,X.var v) else acc.find? fun p=>p.1 == v) with
      | some (_,.var v')=>(match Zk cur v' with|some (_,cs)=>Zqi n0 m acc hs cs|none=>acc)
      | _=>acc) cur es
  | .row f _ _ r::es | .rd f _ r::es=>Zd4 n0 m (match (if f<n0 then some (f,X.var f) else acc.find? fun p=>p.1 == f) with
      | some (_,.var v')=>(match Zo cur v' with|some (_,r')=>getX n0 m acc r r' | none=>acc)
      | some (_,.nilS)=>getX n0 m acc r .nilR
      | _=>acc) cur es
  | .st f::es=>Zd4 n0 m (if n0<=f/\f<n0+m then (match cur.find? (fun e=>match e with | .st _=>true|_=>false) with|some (.st v)=>(f,X.var v)::acc|_=>acc) else acc) cur es
def Z1c (n0:Nat) (head cur:St):List X :=
  let m:=head.n - n0
  let acc:=Zz5 n0 m [] head.fr cur.fr
  let acc:=Zd4 n0 m acc cur.hp head.hp
  let acc:=Zd4 n0 m acc cur.hp head.hp
  (List.range m).map fun i=>match acc.find? fun p=>p.1 == n0+i with|some p=>p.2|none=>.I 0
def Zz6 (n0:Nat) (xs:List X) (hp:List Ent):List Nat:=hp.filterMap fun e=>match e with
  | .rd f _ _=>(match (if f<n0 then some (.var f) else atX n0 xs f) with|some (.var v)=>some v|_=>none)
  | _=>none
def Zqj:List Ent->List Nat->List Ent
  | hp,[]=>hp
  | hp,v::vs=>Zqj (Z6m hp v) vs
def Zi1 (n0:Nat) (xs:List X) (head cur:St):St:={ cur with hp:=Zqj cur.hp (Zz6 n0 xs head.hp) }
def Z11w (T:Tab) (ops:List Oper):List Nat:=ops.filterMap fun o=>match o.op with
  | .slice t _ (some _) none none=>match T.tag t with|some (.slice e)=>some e|_=>none
  | _=>none
def Zz7 (hp:List Ent) (e:Nat):Sc->Bool
  | .val (.var u)=>hp.any fun x=>match x with | .row v ty _ _=>u == v && ty == e|_=>false
  | _=>false
def peel (T:Tab) (c:Code) (st:St):Bool :=
  let ct:=Z11w T (Zd2 c)
  !ct.isEmpty && st.hp.any fun x=>match x with
    | .cells _ ty cs =>
      let l:=(Znf T 6 ty).zip cs
      let m:=l.filter fun p=>match p.1 with|some e=>ct.contains e|none=>false
      decide (2<=m.length) && m.all fun p=>match p.1 with|some e=>Zz7 st.hp e p.2|none=>false
    | _=>false
def Z11x:SV->Bool
  | .cv c=>c.2.any fun s=>match s with | .ptr ..=>true | .eptr ..=>true|_=>false
  | _=>false
def Zbk (W D:List Nat):Nat->List SV->List SV
  | _,[]=>[]
  | j,s::ss=>(if (D.contains j || (W.contains j && Z11x s))=true then .dead else s)::Zbk W D (j+1) ss
def Zlp:Nat->List SV->List Nat
  | _,[]=>[]
  | j,s::ss=>match s with | .dead=>j::Zlp (j+1) ss|_=>Zlp (j+1) ss
def Zgb (c:Code) (old st:St):St:={ st with fr:=Zbk (Z9a c) (Zlp 0 old.fr) 0 st.fr }
theorem Z9b (W D:List Nat):∀(j:Nat) (l:List SV),(Zbk W D j l).length=l.length
  | _,[]=>rfl
  | j,s::ss=>by simp[Zbk,Z9b W D (j+1) ss]
theorem Zi2 (W D:List Nat):∀(j:Nat) (l:List SV) (i:Nat),(Zbk W D j l).getD i .dead=l.getD i .dead\/(Zbk W D j l).getD i .dead=.dead
  | _,[],_=>.inl rfl
  | j,s::ss,0=>by
    simp only[Zbk,List.getD_cons_zero];split
    . exact .inr rfl
    . exact .inl rfl
  | j,s::ss,i+1=>by simp only[Zbk,List.getD_cons_succ];exact Zi2 W D (j+1) ss i
theorem Zi3 (W D:List Nat):∀(j:Nat) (l:List SV) (s:SV),s∈Zbk W D j l->s∈l\/s=.dead
  | _,[],s,h=>.inl h
  | j,t::ss,s,h=>by
    simp only[Zbk]at h;rcases List.mem_cons.1 h with rfl|h
    . split
      . exact .inr rfl
      . exact .inl (qy8 ..)
    . rcases Zi3 W D (j+1) ss s h with h|h
      . exact .inl (qy10 _ h)
      . exact .inr h
theorem Zi4 {ρ:List V} {a:Act} {w:World} {W D:List Nat} {st:St} (h:Inv C st ρ a w):Inv C { st with fr:=Zbk W D 0 st.fr } ρ a w:=by
  refine⟨h.len,(Z9b _ _ _ _).trans h.size,fun j=>?_,fun s hs=>?_,h.bdh,h.defers,h.rel⟩
  . have hj:=h.fr j;unfold St.slot at hj ⊢;rcases Zi2 W D 0 st.fr j with h1|h1
    . simp only;rw[h1];exact hj
    . simp only;rw[h1];trivial
  . rcases Zi3 _ _ _ _ _ hs with h1|rfl
    . exact h.bdf s h1
    . rfl
theorem Zk5 {ρ:List V} {a:Act} {w:World} {c:Code} {old st:St} (h:Inv C st ρ a w):Inv C (Zgb c old st) ρ a w:=Zi4 h
def Zz8 (D:List Nat) (st:St):St:={ st with fr:=Zbk [] D 0 st.fr }
theorem Zvi {ρ:List V} {a:Act} {w:World} {D:List Nat} {st:St} (h:Inv C st ρ a w):Inv C (Zz8 D st) ρ a w:=Zi4 h
def Z2b:Tree->Option St
  | .leaf st=>some st
  | .ite _ t e=>match Z2b t with|some s=>some s|none=>Z2b e
  | .both t e=>match Z2b t with|some s=>some s|none=>Z2b e
  | .need _ t | .bindN t | .bindV t | .bindO t | .bindF _ t | .letV _ t=>Z2b t
  | .callP _ _ _ _ _ _ t=>Z2b t
  | .callM _ _ _ _ _ _ _ _ _ t=>Z2b t
  | .openR _ _ _ t=>Z2b t
  | .pack _ t=>Z2b t
  | _=>none
def Z61:Tree->List St
  | .leaf st=>[st]
  | .ite _ t e | .both t e | .join _ t e=>Z61 t++Z61 e
  | .need _ t | .bindN t | .bindV t | .bindO t | .bindF _ t | .letV _ t | .loop _ t=>Z61 t
  | .callP _ _ _ _ _ _ t=>Z61 t
  | .callM _ _ _ _ _ _ _ _ _ t=>Z61 t
  | .openR _ _ _ t=>Z61 t
  | .pack _ t=>Z61 t
  | _=>[]
def Zxw (n:Nat) (tb:List (List X)) (xs:List X):X×List (List X) :=
  match tb.findIdx? fun t=>t == xs with
  | some i=>(.var (n+i),tb)
  | none=>(.var (n+tb.length),tb++[xs])
def Z11y (n:Nat) (tb:List (List X)) (x:X) (l:List X):X×List (List X):=if (l.all fun y=>y == x)=true then (x,tb) else Zxw n tb (x::l)
def Zqk:Sc->Bool | .val _ | .nils | .nilp | .ptr ..=>true|_=>false
def Sc.toX:Sc->X
  | .int _ x | .bool x | .str x | .val x=>x
  | .nils=>.nilS | .nilp=>.nilP | .ptr v off=>.ptrX v off
  | _=>.I 0
def Z11z (n:Nat) (tb:List (List X)) (a:Sc) (l:List Sc):Option (Sc×List (List X)) :=
  if (l.all fun b=>b == a)=true then some (a,tb) else
  let (x,tb'):=Zxw n tb ((a::l).map Sc.toX)
  match a with
  | .int k _=>if (l.all fun b=>match b with | .int k' _=>k == k' | _=>false)=true then some (.int k x,tb') else none
  | .bool _=>if (l.all fun b=>match b with | .bool _=>true|_=>false)=true then some (.bool x,tb') else none
  | .str _=>if (l.all fun b=>match b with | .str _=>true|_=>false)=true then some (.str x,tb') else none
  | a=>if (Zqk a && l.all Zqk)=true then some (.val x,tb') else none
def Zk6 (n:Nat):List (List X)->List Sc->List (List Sc)->Option (List Sc×List (List X))
  | tb,[],_=>some ([],tb)
  | tb,a::as,l=>do
    let (x,tb) <- Z11z n tb a (l.filterMap List.head?)
    let (xs,tb) <- Zk6 n tb as (l.map List.tail)
    some (x::xs,tb)
def Z120 (n:Nat) (tb:List (List X)) (a:SV) (l:List SV):SV×List (List X) :=
  if (l.all fun b=>b == a)=true then (a,tb) else
  match a with
  | .cv (g,cs)=>if (l.all fun b=>match b with | .cv (g',cs')=>g == g' && cs.length == cs'.length|_=>false)=true then
      (match Zk6 n tb cs (l.map fun b=>match b with | .cv c=>c.2|_=>[]) with|some (cs',tb)=>(.cv (g,cs'),tb)|none=>(.dead,tb)) else (.dead,tb)
  | _=>(.dead,tb)
def Zxx (n:Nat) (s:St) (l:List St):Nat->Nat->List (List X)->List SV×List (List X)
  | _,0,tb=>([],tb)
  | j,k+1,tb =>
    let (a,tb):=Z120 n tb (s.slot j) (l.map fun t=>t.slot j)
    let (as,tb):=Zxx n s l (j+1) k tb
    (a::as,tb)
def Z14b (hp:List Ent) (v ty:Nat) (ks:List Kd):Option X:=hp.findSome? fun e=>match e with | .row v' ty' ks' r=>if v' == v && ty' == ty && ks' == ks then some r else none|_=>none
def Zxy (n:Nat) (l:List St):List Ent->List (List X)->List Ent×List (List X)
  | [],tb=>([],tb)
  | e::es,tb =>
    let (o,tb):Option Ent×List (List X):=if (l.all fun t=>t.hp.contains e)=true then (some e,tb) else
      match e with
      | .cells v ty cs =>
        let cs2:=l.filterMap fun t=>t.hp.findSome? fun e=>match e with | .cells v' ty' cs'=>if v' == v && ty' == ty && cs'.length == cs.length then some cs' else none|_=>none
        if cs2.length == l.length then (match Zk6 n tb cs cs2 with|some (cs',tb)=>(some (.cells v ty cs'),tb)|none=>(none,tb)) else (none,tb)
      | .row v ty ks r =>
        let rs:=l.filterMap fun t=>Z14b t.hp v ty ks
        if rs.length == l.length then (let (x,tb):=Z11y n tb r rs;(some (.row v ty ks x),tb)) else (none,tb)
      | _=>(none,tb)
    let (es,tb):=Zxy n l es tb
    match o with|some e=>(e::es,tb)|none=>(es,tb)
def Z14c (st:St):X->Option (Option (Bool×Nat×List Kd×X))
  | .nilS=>some none
  | .var u=>(st.hp.findSome? fun e=>match e with
    | .row v ty ks r=>if v == u then some (true,ty,ks,r) else none
    | .rd v ks r=>if v == u then some (false,0,ks,r) else none
    | _=>none).map some
  | _=>none
def Zlq (n:Nat) (l:List St):Nat->List (List X)->List (List X)->List Ent×List (List X)
  | _,[],tb=>([],tb)
  | i,xs::todo,tb =>
    let qs:=(xs.zip l).filterMap fun p=>Z14c p.2 p.1
    let (o,tb):Option Ent×List (List X):=if qs.length == l.length then (match qs.filterMap id with
      | []=>(none,tb)
      | (w,ty,ks,r)::rest =>
        if (rest.all fun q=>q.2.2.1 == ks)=true then
          let rs:=qs.map fun q=>match q with|some (_,_,_,r)=>r|none=>.nilR
          let (x,tb):=Z11y n tb (rs.headD r) rs.tail
          if ((w,ty,ks,r)::rest).all (fun q=>q.1 && q.2.1 == ty)=true then (some (.row (n+i) ty ks x),tb) else (some (.rd (n+i) ks x),tb)
        else (none,tb)) else (none,tb)
    let (es,tb):=Zlq n l (i+1) todo tb
    match o with|some e=>(e::es,tb)|none=>(es,tb)
def Zql (v:Nat):Sc->Bool | .val (.var u)=>u == v | .ptr u _=>u == v|_=>false
def Zz9 (v:Nat) (fr:List SV) (hp:List Ent):Bool:=(fr.any fun s=>match s with | .cv (_,cs)=>cs.any (Zql v)|_=>false) || hp.any fun e=>match e with | .cells _ _ cs=>cs.any (Zql v)|_=>false
def Zza (n0:Nat) (fr:List SV) (hp:List Ent):Ent->Bool
  | .cells v _ _ | .row v _ _ _ | .rd v _ _=>decide (v<n0) || Zz9 v fr hp
  | _=>true
def Zvj (n:Nat) (tb:List (List X)) (hp2:List Ent):Ent->Bool
  | .row v _ _ _=>!(hp2.any fun e=>match e with | .row f _ _ _=>(tb.getD (f - n) []).any (fun x=>match x with | .var u=>u == v|_=>false)|_=>false)
  | _=>true
def Zxz (n0:Nat):List St->Option St
  | []=>none
  | s::l =>
    let n:=l.foldl (fun a t=>Nat.max a t.n) s.n
    let (fr,tb):=Zxx n s l 0 s.fr.length []
    let (hp,tb):=Zxy n l s.hp tb
    let (hp2,tb):=Zlq n (s::l) 0 tb tb
    let hp:=hp.filter (Zvj n tb hp2)
    some { s with n:=n+tb.length,fr:=fr,hp:=(hp2++hp).filter (Zza n0 fr (hp2++hp)) }
def genX (n0 n:Nat) (x:X):X×Nat:=if x.bd n0=true then (x,n) else match x with | .var f=>(.var f,n)|_=>(.var n,n+1)
def Z14d (n0 n:Nat):Sc->Sc×Nat
  | .int k x=>let (y,m):=genX n0 n x;(.int k y,m)
  | .bool x=>let (y,m):=genX n0 n x;(.bool y,m)
  | .str x=>let (y,m):=genX n0 n x;(.str y,m)
  | .val x=>let (y,m):=genX n0 n x;(.val y,m)
  | s=>(s,n)
def Zqm (n0:Nat):Nat->List Sc->List Sc×Nat
  | n,[]=>([],n)
  | n,s::ss=>let (a,n1):=Z14d n0 n s;let (b,n2):=Zqm n0 n1 ss;(a::b,n2)
def Zlr (n0:Nat):Nat->List SV->List SV×Nat
  | n,[]=>([],n)
  | n,s::ss =>
    let (a,n1):=match s with
      | .cv (g,cs)=>let (cs',n'):=Zqm n0 n cs;(SV.cv (g,cs'),n')
      | .fn f x y=>if SV.bd n0 (.fn f x y)=true then (.fn f x y,n) else (.dead,n)
      | _=>(.dead,n)
    let (b,n2):=Zlr n0 n1 ss
    (a::b,n2)
def Zqn (n0:Nat):Nat->List Ent->List Ent×Nat
  | n,[]=>([],n)
  | n,e::es =>
    let (a,n1):=match e with
      | .cells v ty cs=>let (cs',n'):=Zqm n0 n cs;(Ent.cells v ty cs',n')
      | .row v ty ks r=>let (r',n'):=genX n0 n r;(.row v ty ks r',n')
      | .rd v ks r=>let (r',n'):=genX n0 n r;(.rd v ks r',n')
      | e=>(e,n)
    let (b,n2):=Zqn n0 n1 es
    (a::b,n2)
def Zzb (n0:Nat) (st:St):St :=
  let (fr,n1):=Zlr n0 st.n st.fr
  let (hp,n2):=Zqn n0 n1 st.hp
  { st with n:=n2,fr:=fr,hp:=hp }
def Z1v:Code->Option (Nat×Nat)
  | .region id ops _=>some (id,ops.size)
  | .seq a b=>match Z1v a with|some r=>some r|none=>Z1v b
  | .cond _ a b=>match Z1v a with|some r=>some r|none=>Z1v b
  | .block _ c=>Z1v c
  | .loop c=>Z1v c
  | _=>none
def Zvk (js:List (Nat×Nat×Nat)):Code->Bool
  | .region id ops _=>js.contains (0,id,ops.size) || js.contains (9,id,ops.size)
  | .cond c a b=>match Z1v (.cond c a b) with|some (i,n)=>js.contains (1,i,n) || js.contains (5,i,n)|none=>false
  | .block _ c=>match Z1v c with|some (i,n)=>js.contains (2,i,n) || js.contains (6,i,n)|none=>false
  | _=>false
def Zvl (js:List (Nat×Nat×Nat)):Code->Bool
  | .region id ops _=>js.contains (9,id,ops.size)
  | .cond c a b=>match Z1v (.cond c a b) with|some (i,n)=>js.contains (5,i,n)|none=>false
  | .block _ c=>match Z1v c with|some (i,n)=>js.contains (6,i,n)|none=>false
  | _=>false
def Zf0 (js:List (Nat×Nat×Nat)) (id:Nat) (ops:Array Oper):Bool:=js.contains (4,id,ops.size)
def Z14e (E:Env) (inl:InlF) (st:St):Code->Option St
  | .region _ ops false=>(Zxz st.n (Z61 (Zv2 E inl ops.toList ops.toList st .leaf))).map (Zzb st.n)
  | .region id ops true=>(Z2b (Zc8 E inl (Zf0 E.joins id ops) ops.toList st .leaf)).map (Zzb st.n)
  | c=>some (Zi0 E.T c st).1
def Zzc (js:List (Nat×Nat×Nat)) (c:Code):Bool:=match Z1v c with|some (i,n)=>js.contains (12,i,n)|none=>false
def Zi5 (st:St):St:={ st with n:=st.n+1,hp:=.st st.n::st.hp }
def Zgc (p:Bool) (st:St) (f:St->Tree):Tree:=if p=true then .pack st.hp (f (Zi5 st)) else f st
def Znu (E:Env) (inl:InlF) (c:Code) (st:St) (k:EX->St->Tree) (f:St->(EX->St->Tree)->Tree):Tree :=
  if Zvk E.joins c=true then
    match (if Zvl E.joins c=true then (Zxz st.n (Z61 (f st fun e st=>match e with | .normal=>.leaf st|_=>.stuck "no way"))).map (Zzb st.n) else Z14e E inl st c) with
    | none=>.stuck "a join's head"
    | some hd0=>let hd:=if Zzc E.joins c=true then Zi5 hd0 else hd0
      .join (hd.n - st.n)
      (f { st with d:=st.d+1 } fun e cur=>match e with
        | .normal=>Zgc (Zzc E.joins c) cur fun cur=>if fits st.n (Z1c st.n hd cur) hd (Zi1 st.n (Z1c st.n hd cur) hd cur)=true then .jump st.d (Z1c st.n hd cur) else .stuck "a join"
        | e=>k e cur)
      (k .normal { hd with d:=st.d })
  else f st k
def Zls (js:List (Nat×Nat×Nat)) (c:Code):Bool:=match Z1v c with|some (i,n)=>js.contains (8,i,n)|none=>false
def Z31 (js:List (Nat×Nat×Nat)) (c:Code):Bool:=match Z1v c with|some (i,n)=>js.contains (3,i,n)|none=>false
def Zlt (p:Bool) (st:St):List Nat:=if p=true then [st.n - 1] else []
def Znv (js:List (Nat×Nat×Nat)) (c:Code):Bool:=match Z1v c with|some (i,n)=>js.contains (7,i,n)|none=>false
def Zqo (js:List (Nat×Nat×Nat)):Bool:=js.any fun j=>j.1 == 7
def Zgd (D:List Nat) (f:St->(EX->St->Tree)->Tree):Nat->St->(EX->St->Tree)->Tree
  | 0,_,_=>.stuck "Z12m"
  | n+1,st,k=>f st fun e cur=>match e with | .normal=>Zgd D f n (Zz8 D cur) k|e=>k e cur
def ex (E:Env) (inl:InlF):Code->St->(EX->St->Tree)->Tree
  | .skip,st,k=>k .normal st
  | .seq a b,st,k=>ex E inl a st fun e st=>match e with | .normal=>ex E inl b st k|e=>k e st
  | .cond c a b,st,k=>Znu E inl (.cond c a b) st k fun st k=>match st.rd (.B true) c with
    | some (false,[.bool (.B true)])=>ex E inl a st k
    | some (false,[.bool (.B false)])=>ex E inl b st k
    | some (false,[.bool x])=>match (if Zqo E.joins=true then clB x else none) with
      | some true=>ex E inl a st k
      | some false=>ex E inl b st k
      | none=>.ite x (ex E inl a st k) (ex E inl b st k)
    | _=>.stuck "a test"
  | .block id c,st,k=>Znu E inl (.block id c) st k fun st k=>ex E inl c st fun e st=>match e with | .exit i=>if i=id then k .normal st else k (.exit i) st|e=>k e st
  | .exit id,st,k=>k (.exit id) st
  | .ret,st,k=>k .ret st
  | .region id ops false,st,k=>Znu E inl (.region id ops false) st k fun st k=>Zv2 E inl ops.toList ops.toList st (k .normal)
  | .region id ops true,st,k=>Znu E inl (.region id ops true) st k fun st k=>Zc8 E inl (Zf0 E.joins id ops) ops.toList st (k .normal)
  | .loop c,st,k =>
    if Znv E.joins c=true then Zgd (Zlp 0 st.fr) (fun st k=>ex E inl c st k) 40 st k
    else if peel E.T c st=true then
      ex E inl c st fun e st0=>match e with
        | .normal=>Zgc (Z31 E.joins c) (Zgb c st st0) fun st =>
          let hd:=Zi0 E.T c st (Zlt (Z31 E.joins c) st) (Zls E.joins c)
          if fits st.n hd.2 hd.1 st=true then
            .loop hd.2 (ex E inl c { hd.1 with d:=st.d+1 } fun e cur=>match e with
              | .normal=>Zgc (Z31 E.joins c) cur fun cur=>if fits st.n (Z1c st.n hd.1 cur) hd.1 (Zi1 st.n (Z1c st.n hd.1 cur) hd.1 cur)=true then .back st.d (Z1c st.n hd.1 cur) else .stuck (Zqh st.n (Z1c st.n hd.1 cur) hd.1 cur)
              | e=>k e cur)
          else .stuck "a loops head"
        | e=>k e st0
    else
    Zgc (Z31 E.joins c) st fun st =>
    let hd:=Zi0 E.T c st (Zlt (Z31 E.joins c) st) (Zls E.joins c)
    if fits st.n hd.2 hd.1 st=true then
      .loop hd.2 (ex E inl c { hd.1 with d:=st.d+1 } fun e cur=>match e with
        | .normal=>Zgc (Z31 E.joins c) cur fun cur=>if fits st.n (Z1c st.n hd.1 cur) hd.1 (Zi1 st.n (Z1c st.n hd.1 cur) hd.1 cur)=true then .back st.d (Z1c st.n hd.1 cur) else .stuck (Zqh st.n (Z1c st.n hd.1 cur) hd.1 cur)
        | e=>k e cur)
    else .stuck "a loops head"
  | _,_,_=>.stuck "code"
variable {C:Cx} {E:Env}
section fit
variable {n0:Nat} {xs:List X} {ρ ρc:List V} {w:World}
def Z2p (ρ ρc:List V) (xs:List X):List V:=ρ++xs.map (X.ev ρc)
theorem Zlu {f:Nat} {x:X} (hl:ρ.length=n0) (h:atX n0 xs f=some x):(Z2p ρ ρc xs).getD f (.i 0)=x.ev ρc:=by unfold atX at h;simp only[Option.ite_none_right_eq_some]at h;obtain⟨h1,h2⟩:=h;subst hl;simp[Z2p,qy1,List.getElem?_append_right h1,h2]
theorem Z3l (hl:ρ.length=n0) (ha:Zt n0 ρ ρc):Zt n0 (Z2p ρ ρc xs) ρc:=by subst hl;exact(Zt.app ρ _).symm.trans ha
theorem Z28 (hl:ρ.length=n0) (ha:Zt n0 ρ ρc) {h c:X} (hf:fitX n0 xs h c=true):h.ev (Z2p ρ ρc xs)=c.ev ρc:=by
  unfold fitX at hf;simp only[Bool.or_eq_true,Bool.and_eq_true,beq_iff_eq]at hf;rcases hf with ⟨hb,rfl⟩|hf
  . exact X.ev_bd (Z3l hl ha) h hb
  . split at hf
    . rename_i f;simp only[beq_iff_eq]at hf;simp only[X.ev];exact Zlu hl hf
    . cases hf
theorem Zvm (hl:ρ.length=n0) (ha:Zt n0 ρ ρc) {h c:Sc} (hf:Zz4 n0 xs h c=true):h.ev (Z2p ρ ρc xs)=c.ev ρc:=by
  unfold Zz4 at hf;split at hf
  . simp only[Bool.and_eq_true,beq_iff_eq]at hf;obtain⟨rfl,hf⟩:=hf;simp only[Sc.ev,Z28 hl ha hf]
  . simp only[Sc.ev,Z28 hl ha hf]
  . simp only[Sc.ev,Z28 hl ha hf]
  . simp only[Sc.ev,Z28 hl ha hf]
  . simp only[Sc.ev,Z28 hl ha hf];rfl
  . simp only[Sc.ev,Z28 hl ha hf];rfl
  . simp only[Sc.ev,Z28 hl ha hf];rfl
  . simp only[Bool.and_eq_true,beq_iff_eq]at hf;obtain⟨rfl,hf⟩:=hf;have:=Z28 hl ha hf;simp only[X.ev]at this;simp only[Sc.ev,this]
  . simp only[Bool.and_eq_true,beq_iff_eq]at hf;obtain⟨hb,rfl⟩:=hf;exact Sc.ev_bd (Z3l hl ha) _ hb
theorem Zi6 (hl:ρ.length=n0) (ha:Zt n0 ρ ρc):∀{hs cs:List Sc},Zez n0 xs hs cs=true->hs.map (Sc.ev (Z2p ρ ρc xs))=cs.map (Sc.ev ρc):=by
  intro hs;induction hs with
  | nil=>intro cs h;cases cs<;>simp[Zez]at h;rfl
  | cons a hs ih =>
    intro cs h;cases cs<;>simp[Zez]at h;simp[Zvm hl ha h.1,ih h.2]
theorem CV.ev_of_map {ρ ρ':List V} {g:Bool} {hs cs:List Sc} (h:hs.map (Sc.ev ρ)=cs.map (Sc.ev ρ')):CV.ev ρ (g,hs)=CV.ev ρ' (g,cs):=by
  cases g
  . match hs,cs,h with
    | [],[],_=>rfl
    | [a],[b],h=>simpa [CV.ev]using h
    | _::_::_,_::_::_,_=>rfl
    | [],_::_,h=>simp at h
    | _::_,[],h=>simp at h
    | [_],_::_::_,h=>simp at h
    | _::_::_,[_],h=>simp at h
  . simp[CV.ev,h]
theorem Zvn (hl:ρ.length=n0) (ha:Zt n0 ρ ρc) {h c:SV} (hf:Zns n0 xs h c=true) {x:Value} (hr:c.rel ρc x):h.rel (Z2p ρ ρc xs) x:=by
  unfold Zns at hf;split at hf
  . trivial
  . simp only[Bool.and_eq_true,beq_iff_eq]at hf;obtain⟨rfl,hf⟩:=hf;exact(show x=_ from hr).trans (CV.ev_of_map (Zi6 hl ha hf)).symm
  . simp only[Bool.and_eq_true,beq_iff_eq]at hf;obtain⟨hb,rfl⟩:=hf;exact SV.rel_bd (Z3l hl ha).symm _ hb x hr
theorem Zvo:∀{hs cs:List SV},Zqf n0 xs hs cs=true->hs.length=cs.length/\∀j,Zns n0 xs (hs.getD j .dead) (cs.getD j .dead)=true:=by
  intro hs;induction hs with
  | nil=>intro cs h;cases cs<;>simp[Zqf]at h;exact⟨rfl,fun j=>by simp[Zns]⟩
  | cons a hs ih =>
    intro cs h;cases cs<;>simp[Zqf]at h;obtain⟨h1,h2⟩:=ih h.2;refine⟨by simp[h1],fun j=>?_⟩;cases j
    . simpa using h.1
    . simpa [qy1]using h2 _
theorem Zqp (hl:ρ.length=n0) (ha:Zt n0 ρ ρc) {h c:Ent} (hf:Zlo n0 xs h c=true) : h.wr=c.wr/\(∀w,h.holds (Z2p ρ ρc xs) w↔c.holds ρc w)/\∀k,h.fp (Z2p ρ ρc xs) k↔c.fp ρc k:=by
  have hag:=Z3l (xs:=xs) hl ha;unfold Zlo at hf;split at hf
  . simp only[Bool.and_eq_true,beq_iff_eq]at hf;obtain⟨⟨hv,rfl⟩,hf⟩:=hf;have hv:=Z28 hl ha hv;simp only[X.ev]at hv;exact⟨rfl,fun w=>by simp only[Ent.holds,hv,Zi6 hl ha hf],fun k=>by simp only[Ent.fp,hv]⟩
  . simp only[Bool.and_eq_true,beq_iff_eq]at hf;obtain⟨⟨⟨hv,rfl⟩,rfl⟩,hf⟩:=hf;have hv:=Z28 hl ha hv;simp only[X.ev]at hv;exact⟨rfl,fun w=>by simp only[Ent.holds,hv,Z28 hl ha hf],fun k=>by simp only[Ent.fp,hv]⟩
  . simp only[Bool.and_eq_true,beq_iff_eq]at hf;obtain⟨⟨hv,rfl⟩,hf⟩:=hf;have hv:=Z28 hl ha hv;simp only[X.ev]at hv;exact⟨rfl,fun w=>by simp only[Ent.holds,hv,Z28 hl ha hf],fun k=>by simp only[Ent.fp,hv,Z28 hl ha hf]⟩
  . simp only[Bool.or_eq_true,Bool.and_eq_true,beq_iff_eq,decide_eq_true_eq]at hf;rcases hf with ⟨hv,rfl⟩|hf
    . exact⟨rfl,fun w=>by simp only[Ent.holds,hag _ hv],fun k=>by simp only[Ent.fp,hag _ hv]⟩
    . have hv:=Zlu (ρc:=ρc) hl hf;simp only[X.ev]at hv;exact⟨rfl,fun w=>by simp only[Ent.holds,hv],fun k=>by simp only[Ent.fp,hv]⟩
  . cases hf
theorem Znw {p:Ent->Bool}:∀{cs cs':List Ent} {c:Ent},Zd3 p cs=some (c,cs')->p c=true/\cs.Perm (c::cs'):=by
  intro cs;induction cs with
  | nil=>intro cs' c h;simp[Zd3]at h
  | cons x cs ih =>
    intro cs' c h;simp only[Zd3]at h;split at h
    . rename_i hp;simp at h;obtain⟨rfl,rfl⟩:=h;exact⟨hp,List.Perm.refl _⟩
    . split at h
      . rename_i d ds hd;simp at h;obtain⟨rfl,rfl⟩:=h;obtain⟨h1,h2⟩:=ih hd;exact⟨h1,(h2.cons x).trans (List.Perm.swap _ _ _)⟩
      . cases h
theorem Zqq (hl:ρ.length=n0) (ha:Zt n0 ρ ρc) {h:Ent} (hn:Zqg n0 xs h=true):(∀w,h.holds (Z2p ρ ρc xs) w)/\∀k,¬h.fp (Z2p ρ ρc xs) k:=by
  unfold Zqg at hn;split at hn
  . rename_i v ty ks r;simp only[Bool.and_eq_true]at hn;obtain⟨h1,h2⟩:=hn;split at h1
    . rename_i hx;have e1:=Zlu (ρc:=ρc) hl hx;have e2:=Z28 hl ha h2;simp only[X.ev]at e1 e2;refine⟨fun w=>?_,fun k hk=>?_⟩
      . simp only[Ent.holds,e1,e2,V.toV_v,V.toR_r];exact⟨by simp,World.ownsRow_nil _ _ _ _⟩
      . simp only[Ent.fp,e1,V.toV_v,Z2,Value.ownBlock]at hk;cases hk
    . cases h1
  . rename_i v ks r;simp only[Bool.and_eq_true]at hn;obtain⟨h1,h2⟩:=hn;split at h1
    . rename_i hx;have e1:=Zlu (ρc:=ρc) hl hx;have e2:=Z28 hl ha h2;simp only[X.ev]at e1 e2;refine⟨fun w=>?_,fun k hk=>?_⟩
      . simp only[Ent.holds,e1,e2,V.toV_v,V.toR_r];exact⟨by simp,none,0,rfl,⟨fun _=>rfl,Nat.le_refl _⟩,fun h=>absurd rfl h⟩
      . simp only[Ent.fp,e2,V.toR_r]at hk;exact hk.1 rfl
    . cases h1
  . cases hn
theorem Zvp {B:Base} (hl:ρ.length=n0) (ha:Zt n0 ρ ρc):∀{hs cs:List Ent},Znt n0 xs hs cs=true->Rel B ρc cs w -> Rel B (Z2p ρ ρc xs) hs w/\∀h∈hs,(∃c∈cs,h.wr=c.wr/\∀k,h.fp (Z2p ρ ρc xs) k↔c.fp ρc k)\/∀k,¬h.fp (Z2p ρ ρc xs) k:=by
  intro hs;induction hs with
  | nil=>intro cs hf hr;exact⟨⟨hr.mod,fun e he=>by simp at he,fun e he=>by simp at he,List.Pairwise.nil⟩,fun e he=>by simp at he⟩
  | cons h hs ih =>
    intro cs hf hr;simp only[Znt]at hf;split at hf
    . rename_i c cs' hto;obtain⟨hfe,hperm⟩:=Znw hto;have hr1:=hr.perm hperm;have hr':=hr1.sublist (List.sublist_cons_self c cs');obtain⟨h1,h2,h3⟩:=Zqp hl ha hfe;have hcm:c∈cs:=hperm.symm.subset (qy8 ..);split at hf
      case isFalse hcw =>
        obtain⟨i1,i2⟩:=ih hf hr;refine⟨i1.cons ((h2 w).2 (hr.holds c hcm)) (fun hw=>absurd (h1.symm.trans hw) hcw) (fun e' he' hw k hk hk'=>?_),fun e he=>?_⟩
        . have hw':e'.wr=true:=by
            rcases hw with hw|hw
            . exact absurd (h1.symm.trans hw) hcw
            . exact hw
          rcases i2 e' he' with ⟨c',hc',hcw',hf'⟩|hno
          . refine hr.disj hcm hc' (fun e=>?_) (.inr (hcw'.symm.trans hw')) ((h3 k).1 hk) ((hf' k).1 hk');subst e;exact hcw (hcw'.symm.trans hw')
          . exact hno k hk'
        . rcases List.mem_cons.1 he with rfl|he
          . exact .inl ⟨c,hcm,h1,h3⟩
          . exact i2 e he
      case isTrue hcw =>
      obtain⟨i1,i2⟩:=ih hf hr';have hsep:=hr1.sep;unfold Z2s at hsep;rw[List.pairwise_cons]at hsep;refine⟨i1.cons ((h2 w).2 (hr1.holds c (qy8 ..))) (fun hw k hk=>hr1.own c (qy8 ..) (by rw[<- h1];exact hw) k ((h3 k).1 hk)) (fun e' he' hw k hk hk'=>?_),fun e he=>?_⟩
      . rcases i2 e' he' with ⟨c',hc',hw',hf'⟩|hno
        . exact hsep.1 c' hc' (by rw[<- h1,<- hw'];exact hw) k ((h3 k).1 hk) ((hf' k).1 hk')
        . exact hno k hk'
      . rcases List.mem_cons.1 he with rfl|he
        . exact .inl ⟨c,hperm.symm.subset (qy8 ..),h1,h3⟩
        . rcases i2 e he with ⟨c',hc',r⟩|hno
          . exact .inl ⟨c',hperm.symm.subset (qy10 _ hc'),r⟩
          . exact .inr hno
    . simp only[Bool.and_eq_true]at hf;obtain⟨hn,hf⟩:=hf;obtain⟨n1,n2⟩:=Zqq hl ha hn;obtain⟨i1,i2⟩:=ih hf hr;refine⟨i1.cons (n1 w) (fun _ k hk=>absurd hk (n2 k)) (fun _ _ _ k hk _=>n2 k hk),fun e he=>?_⟩;rcases List.mem_cons.1 he with rfl|he
      . exact .inr n2
      . exact i2 e he
theorem Zf1 {ρ:List V} {a:Act}:∀(vs:List Nat) {cur:St},Inv C cur ρ a w->Inv C { cur with hp:=Zqj cur.hp vs } ρ a w
  | [],_,h=>h
  | v::vs,cur,h=>Zf1 vs (cur:={ cur with hp:=Z6m cur.hp v }) ⟨h.len,h.size,h.fr,h.bdf,Zg8 h.bdh,h.defers,Z3k h.rel⟩
theorem Zi7 {ρ:List V} {head cur:St} {a:Act} (h:Inv C cur ρ a w):Inv C (Zi1 n0 xs head cur) ρ a w:=Zf1 _ h
theorem Zk7 {head cur:St} {a:Act} (hl:ρ.length=n0) (ha:Zt n0 ρ ρc) (hf:fits n0 xs head cur=true) (hi:Inv C cur ρc a w):Inv C head (ρ++xs.map (X.ev ρc)) a w:=by unfold fits at hf;simp only[Bool.and_eq_true,beq_iff_eq]at hf;obtain⟨⟨⟨⟨⟨h1,h2⟩,h3⟩,h4⟩,h5⟩,h6⟩:=hf;obtain⟨f1,f2⟩:=Zvo h3;exact⟨by simp[hl,h1],by rw[f1];exact hi.size,fun j=>Zvn hl ha (f2 j) (hi.fr j),List.all_eq_true.1 h5,h6,hi.defers,(Zvp hl ha h4 hi.rel).1⟩
end fit
def Zd5 (P:Program) (c:Code) (Q:Exit->Act->World->Prop) (a:Act) (w:World):Prop :=
  ∀b k cs,∃e a' w',Q e a' w'/\Arrives P (lone (b.at a (.code c::.inLoop c::k)) cs w) b k cs e a' w'
theorem Zae {P:Program} {Q:Exit->Act->World->Prop} {a:Act} {w:World} {c:Code} (h:Zd5 P c Q a w):(Code.loop c).wp P Q a w:=by intro b k cs;obtain⟨e,a',w',hq,harr⟩:=h b k cs;exact⟨e,a',w',hq,.of_steps (.one step_loop) harr⟩
theorem Zbb {P:Program} {Q:Exit->Act->World->Prop} {a:Act} {w:World} {c:Code} (h:c.wp P (Exit.then (fun a' w'=>Zd5 P c Q a' w') Q) a w):Zd5 P c Q a w:=by
  intro b k cs;obtain⟨e,a₁,w₁,hq,harr⟩:=h b (.inLoop c::k) cs;cases e with
  | normal =>
    obtain⟨e₂,a₂,w₂,hq₂,harr₂⟩:=(show Zd5 P c Q a₁ w₁ from hq) b k cs;exact⟨e₂,a₂,w₂,hq₂,.of_steps (Steps.trans harr (.one step_inLoop)) harr₂⟩
  | exit id=>exact⟨_,a₁,w₁,hq,.pass (x:=.inLoop c) rfl (fun _ _=>.inl (by simp)) harr⟩
  | goto l=>exact⟨_,a₁,w₁,hq,.pass (x:=.inLoop c) rfl (fun _ _=>.inl (by simp)) harr⟩
  | ret=>exact⟨_,a₁,w₁,hq,.pass (x:=.inLoop c) rfl (fun _ _=>.inl (by simp)) harr⟩
  | panic ch=>exact⟨_,a₁,w₁,hq,.pass (x:=.inLoop c) rfl (fun _ _=>.inl (by simp)) harr⟩
  | outgrown=>exact⟨_,a₁,w₁,hq,.pass (x:=.inLoop c) rfl (fun _ _=>.inl (by simp)) harr⟩
theorem Zvq {P:Program} {Q:Exit->Act->World->Prop} {a:Act} {w:World} {c:Code} (I:Nat->Act->World->Prop) (h₀:∃n,I n a w) (round:∀n a w,I n a w->c.wp P (Exit.then (fun a' w'=>∃m,m<n/\I m a' w') Q) a w):Zd5 P c Q a w:=by
  obtain⟨n,hI⟩:=h₀;induction n using Nat.strongRecOn generalizing a w with
  | _ n ih =>
    intro b k cs;obtain⟨e,a₁,w₁,hq,harr⟩:=round n a w hI b (.inLoop c::k) cs;cases e with
    | normal =>
      obtain⟨m,hlt,hI₁⟩:=hq;obtain⟨e₂,a₂,w₂,hq₂,harr₂⟩:=ih m hlt hI₁ b k cs;exact⟨e₂,a₂,w₂,hq₂,.of_steps (Steps.trans harr (.one step_inLoop)) harr₂⟩
    | exit id=>exact⟨_,a₁,w₁,hq,.pass (x:=.inLoop c) rfl (fun _ _=>.inl (by simp)) harr⟩
    | goto l=>exact⟨_,a₁,w₁,hq,.pass (x:=.inLoop c) rfl (fun _ _=>.inl (by simp)) harr⟩
    | ret=>exact⟨_,a₁,w₁,hq,.pass (x:=.inLoop c) rfl (fun _ _=>.inl (by simp)) harr⟩
    | panic ch=>exact⟨_,a₁,w₁,hq,.pass (x:=.inLoop c) rfl (fun _ _=>.inl (by simp)) harr⟩
    | outgrown=>exact⟨_,a₁,w₁,hq,.pass (x:=.inLoop c) rfl (fun _ _=>.inl (by simp)) harr⟩
theorem Zf2 {α:Type} {l l':List α} (h:l <+: l') {d:Nat} {x:α} (hx:l[d]?=some x):l'[d]?=some x:=by obtain⟨t,rfl⟩:=h;rw[List.getElem?_append_left (List.getElem?_eq_some_iff.1 hx).1];exact hx
theorem Zge {p:Bool} {st:St} {f:St->Tree} {ρ:List V} {L:List LC} {a:Act} {w:World} (hg:(Zgc p st f).goal C ρ L) (hi:Inv C st ρ a w) : ∃st' ρ',ρ <+: ρ'/\st'.d=st.d/\Inv C st' ρ' a w/\(f st').goal C ρ' L:=by
  unfold Zgc at hg;split at hg
  . obtain⟨A,h1,h2,h3⟩:=hg;have hag:Zt st.n ρ (ρ++[.a A]):=by rw[<- hi.len];exact Zt.app ρ _
    have hbh:=List.all_eq_true.1 hi.bdh;have hi1:=ext0 hi (n:=st.n+1) [.a A] (by simp) (by omega);have hget:(ρ++[V.a A]).getD st.n (.i 0)=.a A:=by simp[qy1,<- hi.len]
    refine⟨Zi5 st,ρ++[.a A],List.prefix_append _ _,rfl,⟨hi1.len,hi1.size,hi1.fr,hi1.bdf,?_,hi1.defers,?_⟩,h3⟩
    . have:=hi1.bdh;simp only[Zi5,List.all_cons,Bool.and_eq_true,Ent.bd,decide_eq_true_eq];exact⟨by omega,this⟩
    . refine hi1.rel.cons (by simp only[Ent.holds,hget];exact h1 w hi.rel) (fun h=>by cases h) (fun e' he' hw k hk hk'=>?_);have hw':e'.wr=true:=by
        rcases hw with hw|hw
        . cases hw
        . exact hw
      simp only[Ent.fp,hget]at hk;obtain⟨e0,he0,hw0,hk0⟩:=h2 k hk;refine hi1.rel.disj he0 he' (fun e=>?_) (.inr hw') ((Ent.fp_bd hag e0 (hbh e0 he0) k).1 hk0) hk';subst e;rw[hw0]at hw';cases hw'
  . exact⟨st,ρ,List.prefix_rfl,rfl,hi,hg⟩
theorem Zc9 {inl:InlF} {c:Code} {f:St->(EX->St->Tree)->Tree} (hf:∀{st:St} {k:EX->St->Tree} {Q:Exit->Act->World->Prop} {ρ:List V} {L:List LC} {a:Act} {w:World}, (∀e st' ρ' L' a' w',L <+: L'->st'.d=L'.length->ρ <+: ρ'->(k e st').goal C ρ' L'->Inv C st' ρ' a' w'->Q e.to a' w') -> st.d=L.length->(f st k).goal C ρ L->Inv C st ρ a w->c.wp C.P Q a w) {st:St} {k:EX->St->Tree} {Q:Exit->Act->World->Prop} {ρ:List V} {L:List LC} {a:Act} {w:World} (hk:∀e st' ρ' L' a' w',L <+: L'->st'.d=L'.length->ρ <+: ρ'->(k e st').goal C ρ' L'->Inv C st' ρ' a' w'->Q e.to a' w') (hd:st.d=L.length) (hg:(Znu E inl c st k f).goal C ρ L) (hi:Inv C st ρ a w):c.wp C.P Q a w:=by
  unfold Znu at hg;split at hg
  . split at hg
    . exact hg.elim
    rename_i hj _ jd0 hhj;simp only[]at hg;generalize (if Zzc E.joins c=true then Zi5 jd0 else jd0)=jd at hg
    simp only[Tree.goal]at hg;obtain⟨I,h1,h2⟩:=hg;refine hf (st:={ st with d:=st.d+1 }) (fun e st' ρ' L' a' w' hL hd' hp hg' hi'=>?_) (by simp[hd]) h1 ⟨hi.len,hi.size,hi.fr,hi.bdf,hi.bdh,hi.defers,hi.rel⟩;have hL0:L <+: L':=(List.prefix_append L _).trans hL;cases e with
    | normal =>
      simp only[]at hg';obtain⟨st'',ρ'',hp'',hdd'',hi'',hg'⟩:=Zge hg' hi';clear hi';have hi':=hi'';have hp:=hp.trans hp'';split at hg'
      . rename_i hfb;have hget:L'[st.d]?=some ⟨I,fun _=>0,[]⟩:=by
          refine Zf2 hL ?_;rw[hd];simp
        simp only[Tree.goal,hget]at hg';obtain⟨t,rfl⟩:=hp;have hv:=Zk7 hi.len (by rw[<- hi.len];exact Zt.app ρ t) hfb (Zi7 hi');have hlen:(Z1c st.n jd st'').length=jd.n - st.n:=by simp[Z1c]
        refine hk .normal { jd with d:=st.d } _ L _ _ List.prefix_rfl hd (List.prefix_append ρ _) (h2 _ (by rw[qy3,hlen]) hg') ?_;exact⟨hv.len,hv.size,hv.fr,hv.bdf,hv.bdh,hv.defers,hv.rel⟩
      . exact hg'.elim
    | exit id=>exact hk (.exit id) _ _ _ _ _ hL0 hd' hp hg' hi'
    | ret=>exact hk .ret _ _ _ _ _ hL0 hd' hp hg' hi'
  . exact hf hk hd hg hi
theorem Z121 (hE:EnvOK C.P E) {inl:InlF} (hI:Zeh C inl):∀(c:Code) {st:St} {k:EX->St->Tree} {Q:Exit->Act->World->Prop} {ρ:List V} {L:List LC} {a:Act} {w:World}, (∀e st' ρ' L' a' w',L <+: L'->st'.d=L'.length->ρ <+: ρ'->(k e st').goal C ρ' L'->Inv C st' ρ' a' w'->Q e.to a' w') -> st.d=L.length->(ex E inl c st k).goal C ρ L->Inv C st ρ a w->c.wp C.P Q a w:=by
  intro c;induction c with
  | skip=>intro st k Q ρ L a w hk hd hg hi;exact wp_skip (hk .normal _ _ _ _ _ List.prefix_rfl hd List.prefix_rfl hg hi)
  | exit id=>intro st k Q ρ L a w hk hd hg hi;exact wp_exit (hk (.exit id) _ _ _ _ _ List.prefix_rfl hd List.prefix_rfl hg hi)
  | ret=>intro st k Q ρ L a w hk hd hg hi;exact wp_ret (hk .ret _ _ _ _ _ List.prefix_rfl hd List.prefix_rfl hg hi)
  | region id ops draw =>
    intro st k Q ρ L a w hk hd hg hi;cases draw with
    | true =>
      refine Zc9 (c:=.region id ops true) (fun {st k Q ρ L a w} hk hd hg hi=>?_) hk hd (by simpa only[ex]using hg) hi;exact Zk4 hE hI hi hd (fun st' ρ' L' a' w' hL hd' hp hg' hi'=>hk .normal _ _ _ _ _ hL hd' hp hg' hi') hg
    | false =>
      refine Zc9 (c:=.region id ops false) (fun {st k Q ρ L a w} hk hd hg hi=>?_) hk hd (by simpa only[ex]using hg) hi;have:=Zvc (Q:=Q) hE hI ops.toList hi hd (fun st' ρ' L' a' w' hL hd' hp hg' hi'=>hk .normal _ _ _ _ _ hL hd' hp hg' hi') hg;exact wp_region_list (by simpa using this)
  | seq x y ihx ihy =>
    intro st k Q ρ L a w hk hd hg hi;simp only[ex]at hg;refine wp_seq (ihx (fun e st' ρ' L' a' w' hL hd' hp hg' hi'=>?_) hd hg hi);cases e with
    | normal=>exact ihy (fun e st'' ρ'' L'' a'' w'' hL' hd'' hp'=>hk e _ _ _ _ _ (hL.trans hL') hd'' (hp.trans hp')) hd' hg' hi'
    | exit id=>exact hk (.exit id) _ _ _ _ _ hL hd' hp hg' hi'
    | ret=>exact hk .ret _ _ _ _ _ hL hd' hp hg' hi'
  | cond c x y ihx ihy =>
    intro st k Q ρ L a w hk hd hg hi;refine Zc9 (c:=.cond c x y) (fun {st k Q ρ L a w} hk hd hg hi=>?_) hk hd (by simpa only[ex]using hg) hi;split at hg
    . rename_i hc;exact wp_cond_true (hi.rd_ok rfl hc) (ihx hk hd hg hi)
    . rename_i hc;exact wp_cond_false (hi.rd_ok rfl hc) (ihy hk hd hg hi)
    . rename_i b _ _ hc;have hcl:∀{v:Bool},(if Zqo E.joins=true then clB b else none)=some v->(b.ev ρ).toB=v:=fun {v} h=>by
        split at h
        . exact Z11s h
        . cases h
      split at hg
      . rename_i hx;refine wp_cond_split (hi.rd_ok rfl hc) (fun ht=>ihx hk hd hg hi) (fun hf=>?_);have:=hcl hx;rw[hf]at this;cases this
      . rename_i hx;refine wp_cond_split (hi.rd_ok rfl hc) (fun ht=>?_) (fun hf=>ihy hk hd hg hi);have:=hcl hx;rw[ht]at this;cases this
      . obtain⟨h1,h2⟩:=hg;refine wp_cond_split (hi.rd_ok rfl hc) (fun ht=>ihx hk hd (h1 ((X.P_iff _ _).2 ht)) hi) (fun hf=>ihy hk hd (h2 (fun hp=>?_)) hi);rw[(X.P_iff _ _).1 hp]at hf;cases hf
    . exact hg.elim
  | block id c ih =>
    intro st k Q ρ L a w hk hd hg hi;refine Zc9 (c:=.block id c) (fun {st k Q ρ L a w} hk hd hg hi=>?_) hk hd (by simpa only[ex]using hg) hi;refine wp_block (ih (fun e st' ρ' L' a' w' hL hd' hp hg' hi'=>?_) hd hg hi);cases e with
    | normal=>exact hk .normal _ _ _ _ _ hL hd' hp hg' hi'
    | ret=>exact hk .ret _ _ _ _ _ hL hd' hp hg' hi'
    | exit i =>
      simp only[EX.to,Exit.inBlock];simp only[]at hg';by_cases hid:i=id
      . rw[if_pos hid]at hg' ⊢;exact hk .normal _ _ _ _ _ hL hd' hp hg' hi'
      . rw[if_neg hid]at hg' ⊢;exact hk (.exit i) _ _ _ _ _ hL hd' hp hg' hi'
  | loop c ih =>
    intro st k Q ρ L a w hk hd hg hi;have walk:∀{st:St} {ρ:List V} {L:List LC} {a:Act} {w:World},(∀e st' ρ' L' a' w',L <+: L'->st'.d=L'.length->ρ <+: ρ'->(k e st').goal C ρ' L'->Inv C st' ρ' a' w'->Q e.to a' w')->st.d=L.length ->
        Tree.goal C (Zgc (Z31 E.joins c) st fun st=>let hd:=Zi0 E.T c st (Zlt (Z31 E.joins c) st) (Zls E.joins c)
          if fits st.n hd.2 hd.1 st=true then
            .loop hd.2 (ex E inl c { hd.1 with d:=st.d+1 } fun e cur=>match e with
              | .normal=>Zgc (Z31 E.joins c) cur fun cur=>if fits st.n (Z1c st.n hd.1 cur) hd.1 (Zi1 st.n (Z1c st.n hd.1 cur) hd.1 cur)=true then .back st.d (Z1c st.n hd.1 cur) else .stuck (Zqh st.n (Z1c st.n hd.1 cur) hd.1 cur)
              | e=>k e cur)
          else .stuck "a loops head") ρ L->Inv C st ρ a w->Zd5 C.P c Q a w:=by
      intro st0 ρ0 L a w hk0 hd0 hg0 hi0;obtain⟨st,ρ,hpre,hdd,hi,hg⟩:=Zge hg0 hi0;have hd:st.d=L.length:=hdd.trans hd0;have hk:∀e st' ρ' L' a' w',L <+: L'->st'.d=L'.length->ρ <+: ρ'->(k e st').goal C ρ' L'->Inv C st' ρ' a' w'->Q e.to a' w':=fun e st' ρ' L' a' w' hL hd' hp=>hk0 e st' ρ' L' a' w' hL hd' (hpre.trans hp);simp only[]at hg;generalize Zi0 E.T c st (Zlt (Z31 E.joins c) st) (Zls E.joins c)=HD at hg
      split at hg
      . rename_i hfit;simp only[Tree.goal]at hg;obtain⟨I,μ,hI0,hround⟩:=hg;have hag0:Zt st.n ρ ρ:=fun _ _=>rfl;refine Zvq (fun n a' w'=>∃vs,vs.length=HD.2.length/\I vs/\μ vs=n/\Inv C { HD.1 with d:=st.d+1 } (ρ++vs) a' w') ⟨_,_,by simp,hI0,rfl,?_⟩ ?_
        . have:=Zk7 hi.len hag0 hfit hi;exact⟨this.len,this.size,this.fr,this.bdf,this.bdh,this.defers,this.rel⟩
        . rintro n a' w' ⟨vs,hvl,hI,rfl,hi'⟩;refine ih (fun e st' ρ' L' a'' w'' hL hd' hp hg' hi''=>?_) (by simp[hd]) (hround vs hvl hI) hi';have hL0:L <+: L':=(List.prefix_append L _).trans hL;have hp0:ρ <+: ρ':=(List.prefix_append ρ _).trans hp;cases e with
          | normal =>
            simp only[]at hg';obtain⟨st'',ρ'',hp'',hdd'',hi3,hg'⟩:=Zge hg' hi'';have hp0:ρ <+: ρ'':=hp0.trans hp'';split at hg'
            . rename_i hfb;have hget:L'[st.d]?=some ⟨I,μ,vs⟩:=by
                refine Zf2 hL ?_;rw[hd];simp
              simp only[Tree.goal,hget]at hg';obtain⟨g1,g2⟩:=hg';refine⟨_,g2,_,?_,g1,rfl,?_⟩
              . unfold fits at hfit hfb;simp only[Bool.and_eq_true,beq_iff_eq]at hfit hfb;simp;omega
              . obtain⟨t,rfl⟩:=hp0;have:=Zk7 hi.len (by rw[<- hi.len];exact Zt.app ρ t) hfb (Zi7 hi3);exact⟨this.len,this.size,this.fr,this.bdf,this.bdh,this.defers,this.rel⟩
            . exact hg'.elim
          | exit id=>exact hk (.exit id) _ _ _ _ _ hL0 hd' hp0 hg' hi''
          | ret=>exact hk .ret _ _ _ _ _ hL0 hd' hp0 hg' hi''
      . exact hg.elim
    simp only[ex]at hg;split at hg
    . have key:∀(D:List Nat) (n:Nat) {st:St} {ρ:List V} {L:List LC} {a:Act} {w:World},(∀e st' ρ' L' a' w',L <+: L'->st'.d=L'.length->ρ <+: ρ'->(k e st').goal C ρ' L'->Inv C st' ρ' a' w'->Q e.to a' w')->st.d=L.length ->
          Tree.goal C (Zgd D (fun st k=>ex E inl c st k) n st k) ρ L->Inv C st ρ a w->Zd5 C.P c Q a w:=by
        intro D n;induction n with
        | zero=>intro st ρ L a w hk hd hg hi;exact hg.elim
        | succ n ihn =>
          intro st ρ L a w hk hd hg hi;simp only[Zgd]at hg;refine Zbb (ih (fun e st' ρ' L' a' w' hL hd' hp hg' hi'=>?_) hd hg hi);have hk':∀e st'' ρ'' L'' a'' w'',L' <+: L''->st''.d=L''.length->ρ' <+: ρ''->(k e st'').goal C ρ'' L''->Inv C st'' ρ'' a'' w''->Q e.to a'' w'' :=
            fun e st'' ρ'' L'' a'' w'' hL' hd'' hp'=>hk e _ _ _ _ _ (hL.trans hL') hd'' (hp.trans hp')
          cases e with
          | normal=>exact ihn (st:=Zz8 D st') hk' hd' hg' (Zvi hi')
          | exit id=>exact hk (.exit id) _ _ _ _ _ hL hd' hp hg' hi'
          | ret=>exact hk .ret _ _ _ _ _ hL hd' hp hg' hi'
      exact Zae (key _ 40 hk hd hg hi)
    split at hg
    . refine Zae (Zbb (ih (fun e st' ρ' L' a' w' hL hd' hp hg' hi'=>?_) hd hg hi));have hk':∀e st'' ρ'' L'' a'' w'',L' <+: L''->st''.d=L''.length->ρ' <+: ρ''->(k e st'').goal C ρ'' L''->Inv C st'' ρ'' a'' w''->Q e.to a'' w'' :=
        fun e st'' ρ'' L'' a'' w'' hL' hd'' hp'=>hk e _ _ _ _ _ (hL.trans hL') hd'' (hp.trans hp')
      cases e with
      | normal=>exact walk (st:=Zgb c st st') hk' hd' hg' (Zk5 hi')
      | exit id=>exact hk (.exit id) _ _ _ _ _ hL hd' hp hg' hi'
      | ret=>exact hk .ret _ _ _ _ _ hL hd' hp hg' hi'
    . exact Zae (walk hk hd hg hi)
  | rangeFunc f params assign body=>intro st k Q ρ L a w hk hd hg hi;exact hg.elim
  | scope c=>intro st k Q ρ L a w hk hd hg hi;exact hg.elim
  | label l=>intro st k Q ρ L a w hk hd hg hi;exact hg.elim
  | goto l=>intro st k Q ρ L a w hk hd hg hi;exact hg.elim
  | refuse s=>intro st k Q ρ L a w hk hd hg hi;exact hg.elim
def Zi8 (E:Env) (st:St):ResultVar->Option CV
  | .tmp t=>match st.slot t with | .cv c=>some c|_=>none
  | .cell a t=>match st.slot a with
    | .cv (false,[.ptr v off])=>match loadAt E.T st.hp t (.ptr v off) with|some ([],c)=>some c|_=>none
    | _=>none
def Zbc (E:Env) (st:St):List ResultVar->Option (List CV)
  | []=>some []
  | r::rs=>do let c <- Zi8 E st r;let cs <- Zbc E st rs;some (c::cs)
def Zk8 (E:Env) (rs:List ResultVar) (keep:Bool) (st:St):Tree :=
  match Zbc E st rs with
  | some [c]=>.ret (.cv c) (forMem (keep || SV.mem (.cv c)) st.hp)
  | some cs=>.ret (.tup cs) (forMem (keep || SV.mem (.tup cs)) st.hp)
  | none=>.stuck "results"
def inlN (E:Env):Nat->InlF
  | 0=>fun _ _ _ _=>none
  | m+1=>fun f args st k=>match E.inl.find? fun p=>p.1 == f with
    | none=>none
    | some (_,fn)=>match fn.body with
      | none=>none
      | some c=>if (E.fs.contains f && args.all (fun s=>s.bd st.n && s.isVal))=true then
          some (ex E (inlN E m) c { n:=st.n,d:=st.d,fr:=args++List.replicate (fn.ntmps - args.length) .dead,hp:=st.hp } fun e st'=>match e with
            | .exit _=>.stuck "an exit of no block"
            | _=>match Zbc E st' fn.results.toList with
              | some [c]=>k (.cv c) st'
              | some cs=>k (.tup cs) st'
              | none=>.stuck "results")
        else none
def Zy0 (E:Env) (ntmps:Nat) (rs:List ResultVar) (c:Code) (n:Nat) (args:List SV) (hp:List Ent):Tree :=
  ex E (inlN E 8) c { n:=n,d:=0,fr:=args++List.replicate (ntmps - args.length) .dead,hp:=hp } fun e st=>match e with
    | .exit _=>.stuck "an exit of no block"
    | _=>Zk8 E rs (hp.any Ent.wr) st
theorem Zqr (hE:EnvOK C.P E) {st:St} {ρ:List V} {a:Act} {w:World} (hi:Inv C st ρ a w) {r:ResultVar} {c:CV} (h:Zi8 E st r=some c) (G:ResultVar->Sem Value) (h1:∀t,G (.tmp t)=pure (a.tmps.getD t undef)) (h2:∀x t,G (.cell x t)=(do loadVar t (<- asAddr (a.tmps.getD x undef)))):(G r).run C.P w=.ok (CV.ev ρ c) w:=by
  cases r with
  | tmp t =>
    simp only[Zi8]at h;have hrel:=hi.fr t;split at h
    . rename_i c' hs;simp at h;subst h;rw[hs]at hrel;have hrel:a.tmps.getD t undef=CV.ev ρ c':=hrel;rw[h1,hrel,Sem.run_pure]
    . cases h
  | cell x t =>
    simp only[Zi8]at h;have hrel:=hi.fr x;split at h
    . rename_i v off hs;rw[hs]at hrel;have hrel:a.tmps.getD x undef=.pointer (some ⟨(ρ.getD v (.i 0)).toN,off,none⟩):=hrel;split at h
      . rename_i c' hl;simp at h;subst h;have:=Zhq hE.tab hi.rel.holds hl (fun _ h=>by simp at h);simp only[Instr.loadAt,Instr.sureAddr,Sc.ev,Sem.run_bind,Sem.run_pure,Result.andThen_ok]at this;rw[h2,hrel];simp only[asAddr,Sem.run_bind,Sem.run_pure,Result.andThen_ok];exact this
      . cases h
    . cases h
theorem Znx {st:St}:∀{rs:List ResultVar} {cs:List CV},Zbc E st rs=some cs->cs.length=rs.length/\∀(n:Nat) r c,rs[n]?=some r->cs[n]?=some c->Zi8 E st r=some c:=by
  intro rs;induction rs with
  | nil=>intro cs h;simp[Zbc]at h;subst h;simp
  | cons r rs ih =>
    intro cs h;simp only[Zbc,Option.bind_eq_bind,Option.bind_eq_some_iff,Option.some.injEq]at h;obtain⟨c,hc,cs',hcs,rfl⟩:=h;obtain⟨i1,i2⟩:=ih hcs;refine⟨by simp[i1],fun n x y hx hy=>?_⟩;cases n
    . simp at hx hy;subst hx hy;exact hc
    . exact i2 _ x y (by simpa using hx) (by simpa using hy)
theorem Z7g (hE:EnvOK C.P E) {st:St} {ρ:List V} {a:Act} {w:World} (hi:Inv C st ρ a w) {fn:Func} {cs:List CV} (h:Zbc E st fn.results.toList=some cs) : (results fn a.tmps).run C.P w=.ok (match cs with | [c]=>CV.ev ρ c|cs=>.tuple (cs.map (CV.ev ρ)).toArray) w:=by
  obtain⟨r1,r2⟩:=Znx h;have key:∀G:ResultVar->Sem Value,(∀t,G (.tmp t)=pure (a.tmps.getD t undef))->(∀x t,G (.cell x t)=(do loadVar t (<- asAddr (a.tmps.getD x undef)))) ->
      (fn.results.mapM G).run C.P w=.ok (cs.map (CV.ev ρ)).toArray w:=by
    intro G h1 h2;have e:=Zl5 (P:=C.P) G w fn.results.toList (cs.map (CV.ev ρ)) (by simpa using r1) (fun n x y hx hy=>by simp only[List.getElem?_map,Option.map_eq_some_iff]at hy;obtain⟨c,hc,rfl⟩:=hy;exact Zqr hE hi (r2 n x c hx hc) G h1 h2)
    obtain⟨l,hl⟩:∃l,fn.results=⟨l⟩:=⟨fn.results.toList,rfl⟩
    rw[hl]at e ⊢;rw[List.mapM_toArray];simp[go_sem,e]
  unfold results;rw[Sem.run_bind,key _ (fun _=>rfl) (fun _ _=>rfl)];simp only[Result.andThen_ok,Sem.run_pure]
  match cs with
  | []=>rfl
  | [c]=>rfl
  | _::_::_=>simp
theorem Inv.begin {fn:Func} {args:List SV} {ρ:List V} {hp:List Ent} {w:World} {n d:Nat} (hn:ρ.length=n) (hrel:Rel C.B ρ hp w) (hbh:hp.all (Ent.bd n)=true) (hba:args.all (fun s=>s.bd n && s.isVal)=true) {a:Act} (ht:a.tmps=(args.map (SV.ev ρ)).toArray++Array.replicate (fn.ntmps - (args.map (SV.ev ρ)).toArray.size) undef) (hd:a.defers=[]) : Inv C { n:=n,d:=d,fr:=args++List.replicate (fn.ntmps - args.length) .dead,hp:=hp } ρ a w:=by
  have hba:=List.all_eq_true.1 hba;refine⟨hn,?_,fun j=>?_,fun s hs=>?_,hbh,hd,hrel⟩
  . rw[ht];simp
  . rw[ht];simp only[St.slot,qy1,Array.getD_eq_getD_getElem?];by_cases hj:j<args.length
    . rw[List.getElem?_append_left hj,Array.getElem?_append_left (by simpa using hj)];simp only[List.getElem?_toArray,List.getElem?_map,qy7 hj,Option.map_some,Option.getD_some];have:=hba _ (List.getElem_mem hj);simp only[Bool.and_eq_true]at this;exact SV.rel_of_ev rfl this.2
    . rw[List.getElem?_append_right (by omega)];cases hr:(List.replicate (fn.ntmps - args.length) SV.dead)[j - args.length]? with
      | none=>trivial
      | some s =>
        have:=qy6 hr;simp at this;rw[this.2];trivial
  . rcases qy13.1 hs with hs|hs
    . have:=hba s hs;simp only[Bool.and_eq_true]at this;exact this.1
    . simp at hs;rw[hs.2];rfl
theorem Zzd (hE:EnvOK C.P E):∀m,Zeh C (inlN E m):=by
  intro m;induction m with
  | zero=>intro f args st k t ρ a w L Q h;cases h
  | succ m ih =>
    intro f args st k t ρ a w L Q h hi hd hk hg;simp only[inlN]at h;split at h
    . cases h
    . rename_i q fn hfind;have hfn:=hE.inl _ (List.mem_of_find?_eq_some hfind);have hqf:=List.find?_some hfind;simp only[beq_iff_eq]at hqf;subst hqf;split at h
      . cases h
      . rename_i c hb;simp only[Option.ite_none_right_eq_some,Option.some.injEq,Bool.and_eq_true]at h;obtain⟨⟨hfs,hba⟩,rfl⟩:=h;refine⟨hE.fs _ (by simpa using hfs),calls_of_wp hfn hb ?_⟩;refine Z121 (L:=L) (inl:=inlN E m) hE ih c ?_ (by exact hd) hg (Inv.begin (fn:=fn) hi.len hi.rel hi.bdh hba rfl rfl);intro e st' ρ' L' a' w' hL hd' hp hg hi';have key:(match Zbc E st' fn.results.toList with
              | some [c]=>k (.cv c) st'
              | some cs=>k (.tup cs) st'
              | none=>.stuck "results" : Tree).goal C ρ' L'->a'.defers=[]/\∃v,(results fn a'.tmps).run C.P w'=.ok v w'/\Q (.returned v) w':=by
          intro hg;refine⟨hi'.defers,?_⟩;split at hg
          . rename_i c hr;exact⟨_,Z7g hE hi' hr,hk _ _ _ _ _ _ hL hd' hp hg hi' rfl⟩
          . rename_i cs hne hr;refine⟨_,Z7g hE hi' hr,?_⟩;have:=hk _ _ _ _ _ _ hL hd' hp hg hi' rfl
            match cs,hne,this with
            | [],_,this=>exact this
            | [c],hne,_=>exact(hne c rfl).elim
            | _::_::_,_,this=>exact this
          . exact hg.elim
        cases e with
        | normal=>exact key hg
        | ret=>exact key hg
        | exit id=>exact hg.elim
theorem Z122 (hE:EnvOK C.P E) {f:FuncId} {fn:Func} {c:Code} {args:List SV} {ρ:List V} {hp:List Ent} {w:World} (hf:C.P.funcs[f]?=some fn) (hb:fn.body=some c) (hrel:Rel C.B ρ hp w) (hbh:hp.all (Ent.bd ρ.length)=true) (hba:args.all (fun s=>s.bd ρ.length && s.isVal)=true) (h:(Zy0 E fn.ntmps fn.results.toList c ρ.length args hp).goal C ρ []):Calls C.P f (args.map (SV.ev ρ)).toArray w C.R:=by
  refine calls_of_wp hf hb ?_;refine Z121 (L:=[]) (inl:=inlN E 8) hE (Zzd hE 8) c ?_ rfl h (Inv.begin (fn:=fn) rfl hrel hbh hba rfl rfl);intro e st' ρ' L' a' w' _ _ _ hg hi;have key:(Zk8 E fn.results.toList (hp.any Ent.wr) st').goal C ρ' L'->a'.defers=[]/\∃v,(results fn a'.tmps).run C.P w'=.ok v w'/\C.R (.returned v) w':=by
    intro hg;refine⟨hi.defers,?_⟩;unfold Zk8 at hg;split at hg
    . rename_i c hr;exact⟨_,Z7g hE hi hr,hg w' (hi.rel.forMem _)⟩
    . rename_i cs hne hr;refine⟨_,Z7g hE hi hr,?_⟩;have:=hg w' (hi.rel.forMem _)
      match cs,hne,this with
      | [],_,this=>exact this
      | [c],hne,_=>exact(hne c rfl).elim
      | _::_::_,_,this=>exact this
    . exact hg.elim
  cases e with
  | normal=>exact key hg
  | ret=>exact key hg
  | exit id=>exact hg.elim
end Go.Sx
