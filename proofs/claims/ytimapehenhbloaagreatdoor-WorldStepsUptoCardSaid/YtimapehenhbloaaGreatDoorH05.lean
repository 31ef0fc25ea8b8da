/- By an AI agent. -/
import Derived.Test.YtimapehenhbloaaGreatDoorH04
import Derived.Deep.RegionHeld3
import Derived.Still
set_option linter.all false
set_option maxHeartbeats 20000000
set_option maxRecDepth 100000
open Bool renaming false→ϐ,true→ϑ,and_eq_true→Ϝ,not_eq_true'→Ϣ,false_eq_true→Ϫ,noConfusion→ϫ,or_eq_true→ϭ
open List renaming prefix_rfl→ϒ,all_eq_true→ϔ,prefix_append→Ϙ,mem_filter→Ϟ,mem_of_find?_eq_some→Ϡ,range→Ϧ,contains_iff_mem→Ϩ,find?_some→Ϭ,mem_cons→Ϯ,Perm→ϯ
open Option renaming some→ϓ,none→ϕ,bind_eq_some_iff→ϗ,some→Ϛ,map_eq_some_iff→Ϥ,bind_eq_bind→ϩ
open Go renaming World→ϖ
open Array renaming getElem?_eq_none→ϙ,setIfInBounds_comm→ϣ,replicate→ϧ
open Nat renaming lt_or_ge→ϥ
namespace Go.Sx
open Go
variable {C:Cx} {E:Env}
def Zld(C:Cx)(inl:InlF):Prop:=∀{f:Nat} {args:List SV} {st:St} {k:SV->St->Tree} {t:Tree} {J:List V} {a:Act} {w:ϖ} {L:List LC} {Q:Ending->ϖ->Prop},
 inl f args st k=ϓ t->Inv C st J a w->st.d=L.length ->
 (∀r st' J' L' a' w',L <+: L'->st'.d=L'.length->J <+: J'->(k r st').goal C J' L'->Inv C st' J' a' w'->r.isVal=ϑ->Q (.returned (r.ev J')) w') ->
 t.goal C J L->Zip C.P f=ϑ/\Calls C.P f (args.map (SV.ev J)).toArray w Q
variable{J:List V}
def SV.rel_val{s:SV}(h:s.isVal=ϑ):s.rel J (s.ev J):=by cases s<;>simp[SV.isVal]at h<;>rfl
variable{inl:InlF}{st:St}{a:Act}{w:ϖ}{o:Oper}{K:Act->ϖ->Prop}
def Zw3(hE:EnvOK C.P E)(hI:Zld C inl){L:List LC}{ops:List Oper}{k:St->Tree}{Q:Exit->Act->ϖ->Prop}(hi:Inv C st J a w)(hdL:st.d=L.length)(hk:∀st' J' L' a' w',L <+: L'->st'.d=L'.length->J <+: J'->(k st').goal C J' L'->Inv C st' J' a' w'->K a' w')(hg:(Z17l E inl ops o st k).goal C J L): if Region.wanted o (yielded ops.toArray a.tmps)=ϑ then o.wp C.P a w K Q else K (a.put o.dst undef) w:=by
 have hput:∀(st:St) (s:SV),(st.put o.dst s).d=st.d:=by intro st s;cases ho':o.dst<;>rfl
 have hk1:∀st' J' a' w',st'.d=st.d->J <+: J'->(k st').goal C J' L->Inv C st' J' a' w'->K a' w':=λst' J' a' w' hd=>hk st' J' L a' w' ϒ (hd.trans hdL);unfold Z17l at hg;split at hg
 ·exact hg.elim
 rename_i G hgd;rw[Zny hi hgd];have hGb:=Z17q hi hgd;split at hg
 ·rename_i hGf;subst hGf;simp only[X.ev,V.toB_b,Ϫ,if_false];exact hk1 _ _ _ _ (by exact hput _ _) ϒ hg (hi.put _ rfl)
 split at hg
 ·rename_i t hrow;split at hrow
  ·rename_i hGt;subst hGt;simp only[X.ev,V.toB_b,if_true];split at hrow
   ·rename_i h2;simp only[Ϛ.injEq]at hrow;subst hrow;exact Z11x hE hi hk1 h2 hg
   exact Z17x hE hi hk1 hrow hg
  cases hrow
 split at hg
 ·rename_i ns c hv;obtain⟨hn,hg⟩:=Z66 hg;by_cases hG:(G.ev J).toB=ϑ
  ·rw[ϝ hG];unfold Oper.wp;rw[Z17r hE hi hG hv (hn hG)];refine hk1 _ _ _ _ (by exact hput _ _) ϒ hg (hi.put _ ?_);split
   ·rfl
   exact⟨λ_=>rfl,(λh=>by rw[hG]at h;cases h)⟩
  rw[ϛ hG];have hG':(G.ev J).toB=ϐ:=by simpa using hG
  refine hk1 _ _ _ _ (by exact hput _ _) ϒ hg (hi.put _ ?_);split
  ·rename_i h;subst h;simp[X.ev]at hG
  exact⟨(λh=>by rw[hG']at h;cases h),λ_=>rfl⟩
 split at hg
 ·rename_i c hop;split at hg
  ·rename_i f args hc;split at hg
   ·rename_i t hin;split at hin
    ·rename_i hGt;subst hGt;simp only[X.ev,V.toB_b,if_true];obtain⟨hf,hcalls⟩:=hI (Q:=λe w'=>∃v,e=.returned v/\K (a.put o.dst v) w') hin hi hdL (λr st' J' L' a' w' hL hd' hp hg' hi' hv=>⟨_,rfl,hk (St.put { st with n:=st'.n,d:=st'.d,hp:=st'.hp } o.dst r) J' L' _ w' hL ((hput _ _).trans hd') hp hg' ((hi.back hi' hp).put _ (SV.rel_val hv))⟩) hg;unfold Oper.wp;rw[Zay hi rfl hop hc hf];simp only[Oper.upon];refine hcalls.mono ?_;rintro e w1 ⟨v,rfl,hK⟩;exact hK
    cases hin
   exact Z11r hE hi hGb hop hc hk1 hg
  exact hg.elim
 split at hg
 ·rename_i h;subst h;simp only[X.ev,V.toB_b,if_true];exact Z17t hE hi hk1 hg
 exact hg.elim
def Ztu{E:Env}{t:Nat}{x:X}{ks:List Kd}(h:Z11p E o st=ϓ (t,x,ks)):st.slot t=.cv (ϐ,[.val x])/\x.bd st.n=ϑ:=by
 unfold Z11p at h;split at h
 ·split at h
  ·split at h
   ·split at h
    ·rename_i h1 _ _ _ h2;simp only[Ϛ.injEq]at h;obtain⟨rfl,rfl,rfl⟩:=h;exact⟨O5,h2.2⟩
    cases h
   cases h
  cases h
 cases h
def Zht(hE:EnvOK C.P E)(hI:Zld C inl){L:List LC}{ops:List Oper}{k:St->Tree}{Q:Exit->Act->ϖ->Prop}(hi:Inv C st J a w)(hdL:st.d=L.length)(hk:∀st' J' L' a' w',L <+: L'->st'.d=L'.length->J <+: J'->(k st').goal C J' L'->Inv C st' J' a' w'->K a' w')(hg:(Zz0 E inl ops o st k).goal C J L): if Region.wanted o (yielded ops.toArray a.tmps)=ϑ then o.wp C.P a w K Q else K (a.put o.dst undef) w:=by
  unfold Zz0 at hg;split at hg
  . rename_i t x ks hx;split at hx
    . obtain⟨hs,hb⟩:=Ztu hx;obtain⟨rows,h1,h2⟩:=hg;have hi1:=ext0 hi (n:=st.n+1) [x.ev J] O1 O1;obtain⟨hr1,hr2⟩:=h1 w hi1.rel;have hl1:(J++[x.ev J]).length=st.n+1:=by simp[hi.len]
      have e0:(J++[x.ev J]).getD st.n (.i 0)=x.ev J:=Zr hi.len _;have e1:(J++[x.ev J]++[V.r rows]).getD st.n (.i 0)=x.ev J:=by have:st.n<(J++[x.ev J]).length:=O;rw[qy1,List.getElem?_append_left this,<- qy1,e0]
      have e2:=Zr (st:={ st with n:=st.n+1 }) hl1 (.r rows);rw[e0]at hr1 hr2;have hi2:=hi1.bindEnt hi1.rel hi1.bdh (.r rows) (.rd st.n ks (.var (st.n+1))) (by simp[Ent.bd,X.bd];omega)
        (by simp only[Ent.holds,e1,X.ev,e2,V.toR_r];exact hr1)
        (ϫ)
        (λe' he' hw k' hk1 hk2=>by simp only[Ent.fp,e1,X.ev,e2,V.toR_r]at hk1;have hw':=hw.resolve_left (ϫ);exact hr2 hk1.1 k' hk1.2 e' he' hw' hk2)
      have hv:a.tmps.getD t undef=sc1 (x.ev J).toV:=by have:=hi.fr t;rw[hs]at this;exact this
      have hi3:=hi2.over t (s:=Zci st.n) (by rw[hv];simp only[SV.rel,Zci,SV.ev,CV.ev,Sc.ev,X.ev,e1]);exact Zw3 hE hI hi3 (by exact hdL) (λst' J' L' a' w' hL hd hp=>hk st' J' L' a' w' hL hd (((Ϙ J _).trans (Ϙ _ _)).trans hp)) h2
    cases hx
  exact Zw3 hE hI hi hdL hk hg
def Zw4(hE:EnvOK C.P E)(hI:Zld C inl){L:List LC}{ops:List Oper}{k:St->Tree}{Q:Exit->Act->ϖ->Prop}(hi:Inv C st J a w)(hdL:st.d=L.length)(hk:∀st' J' L' a' w',L <+: L'->st'.d=L'.length->J <+: J'->(k st').goal C J' L'->Inv C st' J' a' w'->K a' w')(hg:(Z17m E inl ops o st k).goal C J L): if Region.wanted o (yielded ops.toArray a.tmps)=ϑ then o.wp C.P a w K Q else K (a.put o.dst undef) w:=by
 unfold Z17m at hg;split at hg
 ·rename_i x hx;obtain⟨h1,h2⟩:=hg;cases hb:(x.ev J).toB with
  | true=>exact Zht hE hI (hi.asm hb) ((St.asm_d _ _ _).trans hdL) hk (h1 ((X.P_iff J x).2 hb))
  | false=>exact Zht hE hI (hi.asm hb) ((St.asm_d _ _ _).trans hdL) hk (h2 (λhp=>by rw[(X.P_iff J x).1 hp]at hb;cases hb))
 exact Zht hE hI hi hdL hk hg
def Zw5(hE:EnvOK C.P E)(hI:Zld C inl){L:List LC}{ops:List Oper}{k:St->Tree}{Q:Exit->Act->ϖ->Prop}(hi:Inv C st J a w)(hdL:st.d=L.length)(hk:∀st' J' L' a' w',L <+: L'->st'.d=L'.length->J <+: J'->(k st').goal C J' L'->Inv C st' J' a' w'->K a' w')(hg:(Z17n E inl ops o st k).goal C J L): if Region.wanted o (yielded ops.toArray a.tmps)=ϑ then o.wp C.P a w K Q else K (a.put o.dst undef) w:=by
 unfold Z17n at hg;split at hg
 ·rename_i x hx;obtain⟨h1,h2⟩:=hg;cases hb:(x.ev J).toB with
  | true=>exact Zw4 hE hI (hi.asm hb) ((St.asm_d _ _ _).trans hdL) hk (h1 ((X.P_iff J x).2 hb))
  | false=>exact Zw4 hE hI (hi.asm hb) ((St.asm_d _ _ _).trans hdL) hk (h2 (λhp=>by rw[(X.P_iff J x).1 hp]at hb;cases hb))
 exact Zht hE hI hi hdL hk hg
def Zf9{J:List V}{a:Act}{w:ϖ}:∀(vs:List Nat) {cur:St},Inv C cur J a w->Inv C { cur with hp:=Zvw cur.hp vs } J a w
 | [],_,h=>h
 | v::vs,cur,h=>Zf9 vs (cur:={ cur with hp:=Zag cur.hp v }) ⟨h.len,h.size,h.fr,h.bdf,Znz h.bdh,h.defers,Z5f h.rel⟩
def Z11y(hE:EnvOK C.P E)(hI:Zld C inl){L:List LC}{ops:List Oper}{k:St->Tree}{Q:Exit->Act->ϖ->Prop}(hi:Inv C st J a w)(hdL:st.d=L.length)(hk:∀st' J' L' a' w',L <+: L'->st'.d=L'.length->J <+: J'->(k st').goal C J' L'->Inv C st' J' a' w'->K a' w')(hg:(exOp E inl ops o st k).goal C J L): if Region.wanted o (yielded ops.toArray a.tmps)=ϑ then o.wp C.P a w K Q else K (a.put o.dst undef) w:=by
 unfold exOp at hg;split at hg
 ·rename_i t e ks hn;have hn':∃ei,st.slot t=.cv (ϐ,[.nils])/\E.T.get e=ϓ ei/\ks=ei.ks:=by
   unfold Z1bm at hn;split at hn
   ·split at hn
    ·split at hn
     ·rename_i h1 h2;simp only[Ϥ]at hn;obtain⟨ei,h3,rfl,rfl,rfl⟩:=hn;have h4:∀{x:Operand} {t:Nat},Zvv st x=ϑ->ϓ x=ϓ (Operand.tmp t)->st.slot t=.cv (ϐ,[.nils]):=λ{x t} h5 h6=>by
       cases h6;simp only[Zvv]at h5;split at h5
       ·assumption
       cases h5
      refine⟨ei,?_,h3,rfl⟩;split at h1
      ·exact h4 O5 h1
      split at h1
      ·exact h4 O5 h1
      cases h1
     cases hn
    cases hn
   cases hn
  obtain⟨ei,hs,hei,rfl⟩:=hn';have hi2:=hi.bindEnt hi.rel hi.bdh (.v (.slice ϕ 0 0)) (.row st.n e ei.ks .nilR) (by simp[Ent.bd,X.bd])
   (by simp only[Ent.holds,Zr hi.len,V.toV_v,X.ev,V.toR_r];exact⟨O1,World.ownsRow_nil _ _ _ _⟩)
   (λ_ k hk=>by simp only[Ent.fp,Zr hi.len,V.toV_v,Z1,Value.ownBlock]at hk;cases hk)
   (λ_ _ _ k hk _=>by simp only[Ent.fp,Zr hi.len,V.toV_v,Z1,Value.ownBlock]at hk;cases hk)
  have hv:a.tmps.getD t undef=.slice ϕ 0 0:=by have:=hi.fr t;rw[hs]at this;exact this
  have hi3:=hi2.over t (by rw[hv];exact Z68 hi.len rfl);exact Zw5 hE hI hi3 (by exact hdL) (λst' J' L' a' w' hL hd hp=>hk st' J' L' a' w' hL hd ((Ϙ J _).trans hp)) hg
 exact Zw5 hE hI (Zf9 _ hi) hdL hk hg
def Z17y(hE:EnvOK C.P E)(hI:Zld C inl){ops:List Oper}{Q:Exit->Act->ϖ->Prop}:∀(rest:List Oper) {st:St} {J:List V} {L:List LC} {a:Act} {w:ϖ} {k:St->Tree}, Inv C st J a w->st.d=L.length->(∀st' J' L' a' w',L <+: L'->st'.d=L'.length->J <+: J'->(k st').goal C J' L'->Inv C st' J' a' w'->Q .normal a' w')->(Z17o E inl ops rest st k).goal C J L->wpList C.P ops.toArray Q rest a w:=by
 intro rest;induction rest with
 | nil=>intro st J L a w k hi hdL hk hg;exact hk _ _ _ _ _ ϒ hdL ϒ hg hi
 | cons o rest ih =>
  intro st J L a w k hi hdL hk hg;refine wpList_step λK hK=>?_;exact Z11y hE hI hi hdL (λst' J' L' a' w' hL hd hp hg' hi'=>hK _ _ (ih hi' hd (λst'' J'' L'' a'' w'' hL' hd' hp'=>hk _ _ _ _ _ (hL.trans hL') hd' (hp.trans hp')) hg')) hg
section any
variable {P:Program} {ops:Array Oper} {md:Region.Mode} {Q:Exit->Act->ϖ->Prop} {S:ϖ->Prop} {T:Array Bool->ϖ->Prop}
def Zdh(P:Program)(md:Region.Mode)(ops:Array Oper)(Q:Exit->Act->ϖ->Prop)(T:Array Bool->ϖ->Prop):Nat->Array Bool->Act->ϖ->Prop
 | 0,listed,a,w=>∀w1,Mod [] w w1->Region.ready md ops listed=[]/\Q .normal a w1
 | fuel+1,listed,a,w=>∀w1,Mod [] w w1 ->
  (Region.ready md ops listed=[]->Q .normal a w1) /\
  ∀i∈Region.ready md ops listed,wpOp P ops Q i (λa' w'=>T (listed.setIfInBounds i ϑ) w'/\Zdh P md ops Q T fuel (listed.setIfInBounds i ϑ) a' w') a w1
def Zm3:∀(fuel:Nat) (listed:Array Bool) (a:Act) (w:ϖ),Zdh P md ops Q T fuel listed a w->wpAny P md ops Q fuel listed a w
 | 0,_,_,w,h=>h w (Mod.refl _ _)
 | fuel+1,_,_,w,h=>⟨(h w (Mod.refl _ _)).1,λi hi=>wpOp_mono (λa w h=>Zm3 fuel _ a w h.2) ((h w (Mod.refl _ _)).2 i hi)⟩
def Zdh.more{fuel:Nat}{listed:Array Bool}{w1:ϖ}(h:Zdh P md ops Q T fuel listed a w)(hm:Mod [] w w1):Zdh P md ops Q T fuel listed a w1:=by
 cases fuel with
 | zero=>exact λw2 h2=>h w2 (hm.trans h2 O1)
 | succ fuel=>exact λw2 h2=>h w2 (hm.trans h2 O1)
def Zdi(md:Region.Mode)(ops:Array Oper)(listed:Array Bool):Prop :=
 ∀(j:Nat) (oj:Oper),ops[j]?=ϓ oj->listed.getD j ϐ=ϑ->∀e∈oj.after,Region.binds md e=ϑ->listed.getD e.on ϐ=ϑ
def Zdi.ready{listed:Array Bool}{j:Nat}(h:Zdi md ops listed)(hj:j∈Region.ready md ops listed):Zdi md ops (listed.setIfInBounds j ϑ):=by
 intro k ok hk hl e he hb;refine getD_set_true ?_;by_cases hjk:j=k
 ·subst hjk;obtain⟨-,oj,hoj,hall⟩:=mem_ready.1 hj;rw[hoj]at hk;cases hk;exact hall e he hb
 rw[getD_set_ne ϐ hjk]at hl;exact h k ok hk hl e he hb
def Z2p(P:Program)(ops:Array Oper)(S:ϖ->Prop)(o:Oper)(v:Value)(a:Act):Prop :=
  (Region.wanted o (yielded ops a.tmps)=ϑ/\∀w,S w->(execOp a.eval o).run P w=.ok (.value v) w \/
    ∃f args,(execOp a.eval o).run P w=.ok (.enter f args) w/\Calls P f args w λe w1=>e=.returned v/\Mod [] w w1)\/(Region.wanted o (yielded ops a.tmps)=ϐ/\v=undef)
variable{v:Value}
def Z2p.of_same{a':Act}(hy:Z2p P ops S o v a)(he:execOp a'.eval o=execOp a.eval o)(hw:Region.wanted o (yielded ops a'.tmps)=Region.wanted o (yielded ops a.tmps)):Z2p P ops S o v a':=by unfold Z2p at *;rw[he,hw];exact hy
variable{i:Nat}
def Z2p.wpOp(hi:ops[i]?=ϓ o)(hy:Z2p P ops S o v a)(hS:S w)(h:∀w1,Mod [] w w1->K (a.put o.dst v) w1):wpOp P ops Q i K a w:=by
 unfold Go.wpOp;simp only[hi];rcases hy with⟨hw,hv⟩|⟨hw,rfl⟩
 ·simp only[hw,if_true];left;unfold Oper.wp;rcases hv w hS with h1|⟨f,args,h1,h2⟩
  ·rw[h1];exact h w (Mod.refl _ _)
  ·rw[h1];simp only[Oper.upon];refine h2.mono ?_;rintro e w1 ⟨rfl,hm⟩;exact h w1 hm
 ·simp only[hw,Ϫ,if_false];exact h w (Mod.refl _ _)
def Z17z{j:Nat}{oi oj:Oper}(hj:ops[j]?=ϓ oj)(hap:oi.apart ops oj=ϑ)(hsi:∀cs b,oi.op≠.select cs b)(hsj:∀cs b,oj.op≠.select cs b)(hnp:∀c a w,¬Q (.panic c) a w)(hy:Z2p P ops S oi v a)(h:wpOp P ops Q j K (a.put oi.dst v) w): wpOp P ops Q j (λa' w'=>Z2p P ops S oi v a'/\K (a'.put oi.dst v) w') a w:=by
 obtain⟨h1,h2,h3⟩:=Oper.apart_spec hap;have keep:∀(a:Act),Z2p P ops S oi v a->∀u,Z2p P ops S oi v (a.put oj.dst u):=λa hy u =>
  hy.of_same (execOp_put oi hsi a oj.dst u h3) (wanted_put oi a oj.dst u h3)
 have keepd:∀(a:Act) (d:Deferred),Z2p P ops S oi v a->Z2p P ops S oi v { a with defers:=d::a.defers }:=λa d hy=>hy;unfold wpOp at *;simp only[hj]at *;rw[wanted_put oj a oi.dst v h1]at h;split
 ·rename_i hw;simp only[hw]at h;rcases h with h|⟨h,hl⟩
  ·left;unfold Oper.wp at *;rw[execOp_put oj hsj a oi.dst v h1]at h;generalize (execOp a.eval oj).run P w=r at *;cases r with
   | ok n w' =>
    cases n<;>simp only[Oper.upon]at h⊢
    case value u=>exact⟨keep a hy u,by rw[<- Act.put_comm a v u h2];exact h⟩
    case skip=>exact⟨keep a hy _,by rw[<- Act.put_comm a v undef h2];exact h⟩
    case defer d =>
     refine⟨keep _ (keepd a d hy) _,?_⟩;rw[<- Act.put_comm _ v undef h2,<- Act.put_defers];exact h
    case enter f args =>
     refine h.mono λe w'' he=>?_;cases e with
     | returned u=>exact⟨keep a hy u,by rw[<- Act.put_comm a v u h2];exact he⟩
     | panicked c=>exact(hnp _ _ _ he).elim
     | outgrown=>exact he
    case row r args=>exact h.mono λu w'' he=>⟨keep a hy u,by rw[<- Act.put_comm a v u h2];exact he⟩
   | halt x w'=>cases x<;>simp only[Oper.upon]at h⊢;exact(hnp _ _ _ h).elim
  right;refine⟨?_,hl⟩;unfold Oper.asks at *;rw[execOp_put oj hsj a oi.dst v h1]at h;exact h
 rename_i hw;simp only[hw]at h;exact⟨keep a hy _,by rw[<- Act.put_comm a v undef h2];exact h⟩
def Zgr{oi:Oper}(hi:ops[i]?=ϓ oi)(hsel:∀(j:Nat) (o:Oper) cs b,ops[j]?=ϓ o->o.op≠.select cs b)(hnp:∀c a w,¬Q (.panic c) a w)(hTi:∀listed w,T (listed.setIfInBounds i ϑ) w↔T listed w)(hTm:∀listed w w1,T listed w->Mod [] w w1->T listed w1)(hTS:∀listed w,Zdi md ops listed->listed.getD i ϑ=ϐ->T listed w->S w): ∀(fuel:Nat) (listed:Array Bool) (a:Act) (w:ϖ),Zdi md ops listed -> (∀j oj,ops[j]?=ϓ oj->j≠i->listed.getD j ϑ=ϐ->(∀e∈oj.after,Region.binds md e=ϑ->e.on≠i)->oi.apart ops oj=ϑ) -> i∈Region.ready md ops listed->Z2p P ops S oi v a->T listed w -> Zdh P md ops Q T fuel (listed.setIfInBounds i ϑ) (a.put oi.dst v) w->Zdh P md ops Q T (fuel+1) listed a w:=by
 intro fuel;induction fuel with
 | zero =>
  intro listed a w hcl _ hr hy hT0 H w1 hm;have hT:=hTm _ _ _ hT0 hm;refine⟨λh=>(by rw[h]at hr;cases hr),λj hj=>?_⟩;by_cases hji:j=i
  ·subst hji;exact hy.wpOp hi (hTS _ _ hcl (mem_ready.1 hr).1 hT) λw2 hm2=>⟨(hTi _ _).2 (hTm _ _ _ hT hm2),H.more (hm.trans hm2 O1)⟩
  have:=ready_mono hj hji;rw[(H w1 hm).1]at this;cases this
 | succ fuel ih =>
  intro listed a w hcl hfree hr hy hT0 H w1 hm;have hT:=hTm _ _ _ hT0 hm;refine⟨λh=>(by rw[h]at hr;cases hr),λj hj=>?_⟩;by_cases hji:j=i
  ·subst hji;exact hy.wpOp hi (hTS _ _ hcl (mem_ready.1 hr).1 hT) λw2 hm2=>⟨(hTi _ _).2 (hTm _ _ _ hT hm2),H.more (hm.trans hm2 O1)⟩
  have h1:=(H w1 hm).2 j (ready_mono hj hji);obtain⟨hjun,oj,hoj,hall⟩:=mem_ready.1 hj;have hnot:∀e∈oj.after,Region.binds md e=ϑ->e.on≠i:=λe he hb heq=>by
   have h1:=hall e he hb;have h0:=(mem_ready.1 hr).1;rw[heq]at h1;rcases ϥ i listed.size with h' | h'
   ·simp[h']at h0 h1;rw[h0]at h1;cases h1
   simp[ϙ h']at h1
  have h2:=Z17z hoj (hfree j oj hoj hji hjun hnot) (λcs b=>hsel i oi cs b hi) (λcs b=>hsel j oj cs b hoj) hnp hy h1;have hfree':∀k ok,ops[k]?=ϓ ok->k≠i->(listed.setIfInBounds j ϑ).getD k ϑ=ϐ ->
    (∀e∈ok.after,Region.binds md e=ϑ->e.on≠i)->oi.apart ops ok=ϑ:=λk ok hk hki hun hno=>by
   refine hfree k ok hk hki ?_ hno;by_cases hjk:j=k
   ·subst hjk;exact hjun
   rw[getD_set_ne ϑ hjk]at hun;exact hun
  have hr':=ready_mono hr (Ne.symm hji);refine wpOp_mono (λa' w' h3=>?_) h2;have hT':T (listed.setIfInBounds j ϑ) w':=by have:=h3.2.1;rw[ϣ _ _ (Ne.symm hji)]at this;exact(hTi _ _).1 this
  refine⟨hT',ih (listed.setIfInBounds j ϑ) a' w' (hcl.ready hj) hfree' hr' h3.1 hT' ?_⟩;rw[ϣ _ _ hji];exact h3.2.2
end any
def Z1d9(st:St):Op->Option SV
 | .move (.tmp t)=>match st.slot t with | .tup l=>ϓ (.tup l)|_=>ϕ
 | .extract (.tmp t) i=>match st.slot t with | .tup l=>(l[i]?).map SV.cv|_=>ϕ
 | _=>ϕ
def Ztv(E:Env)(ops:List Oper)(keep:List Ent)(st:St)(i:Nat):Option (Option Tmp×X×List X×SV):=do
 let o <- ops[i]?
 let G <- Z94 ops o st
 if G=.B ϐ then ϓ (o.dst,G,[],.tup [])else
  match (if G=.B ϑ then Z1d9 st o.op else ϕ)with
  | some s=>ϓ (o.dst,G,[],s)
  | none=>do
   let (ns,c) <- Zyx E { st with hp:=keep } G o.op
   ϓ (o.dst,G,ns,if G=.B ϑ then .cv c else .gd G c)
def Ztw:List Tree->Tree
 | []=>.stuck "ϕ"
 | [t]=>t
 | t::l=>.both t (Ztw l)
def Zdj(ops:Array Oper)(i:Nat):Nat->Nat->Bool
 | 0,_=>ϐ
 | n+1,j=>match ops[j]? with
  | some o=>o.after.any λe=>Region.binds .any e && (e.on == i || Zdj ops i n e.on)
  | none=>ϐ
def Z1j(ops:List Oper)(keep soft:List Ent)(tch:List Nat)(i:Nat):List Ent :=
 if tch.all (Zdj ops.toArray i ops.length)=ϑ then keep++soft else keep
def Zdk(E:Env)(ops:List Oper)(st:St)(i:Nat):Option (Option Tmp×X×Nat×List SV×SV×Nat):=do
 let o <- ops[i]?
 let G <- Z94 ops o st
 match o.op with
 | .call c=>do
  let (f,args) <- Zdf st G c
  let (res,n1,es) <- Zqm E.T E.tups (E.ownF f) o.type st.n
  if(!(G == .B ϐ) && E.fs.contains f && !(E.inl.any λp=>p.1 == f) && es.isEmpty && (Ztk (args.flatMap SV.ptrs)).isEmpty && (Z11e E f st.hp [] args).isEmpty && G.bd st.n)=ϑ then ϓ (o.dst,G,f,args,res,n1)else ϕ
 | _=>ϕ
def Zm4(G:X):SV->SV
 | .cv c=>if G=.B ϑ then .cv c else .gd G c
 | r=>if G=.B ϑ then r else .dead
def Zir(E:Env)(inl:InlF)(ops:List Oper)(cl:Bool)(keep soft:List Ent)(tch:List Nat):Nat->Array Bool->St->(St->Tree)->Tree
 | 0,listed,st,k=>if Region.ready .any ops.toArray listed=[]then k st else .stuck "an open order fuel"
 | fuel+1,listed,st,k =>
  match Region.ready .any ops.toArray listed with
  | []=>k st
  | rs=>match rs.find? λi=>!tch.contains i && ((Ztv E ops (Z1j ops keep soft tch i) st i).isSome && Region.free .any ops.toArray listed i)with
   | some i=>match Ztv E ops (Z1j ops keep soft tch i) st i with
    | some (d,G,ns,s)=>Zc5 G ns (Zir E inl ops cl keep soft tch fuel (listed.setIfInBounds i ϑ) (st.put d s) k)
    | none=>.stuck "an open order"
   | none=>match (if(cl && decide (1<rs.length))=ϑ then rs.find? λi=>!tch.contains i && ((Zdk E ops st i).isSome && Region.free .any ops.toArray listed i)else ϕ)with
    | some i=>match Zdk E ops st i with
     | some (d,G,f,args,res,n1)=>.callP G f args (forMem (args.any SV.mem) (Z1j ops keep soft tch i)) res (n1 - st.n)
       (Zir E inl ops cl keep soft tch fuel (listed.setIfInBounds i ϑ) (St.put { st with n:=n1 } d (Zm4 G res)) k)
     | none=>.stuck "an open order"
    | none=>Ztw (rs.map λi=>match ops[i]? with
     | some o=>exOp E inl ops o st λst'=>if(keep.all (λe=>st'.hp.contains e) && (tch.any (λt=>t == i || listed.getD t ϐ) || soft.all (λe=>st'.hp.contains e)))=ϑ then Zir E inl ops cl keep soft tch fuel (listed.setIfInBounds i ϑ) st' k else .stuck "an open order what is kept"
     | none=>.stuck "an open order")
def Z180(ops:List Oper):List Nat:=ops.filterMap λo=>match o.op with | .load ..=>o.dst|_=>ϕ
def Z1da(ops:List Oper)(st:St):List Nat :=
 ((Z8e ops []).filterMap λt=>match st.slot t with | .cv (ϐ,[.ptr v _])=>ϓ v|_=>ϕ) ++
  (if(Z8e ops []).any (λt=>(Z180 ops).contains t)=ϑ then st.hp.filterMap fun | .cells _ _ [.ptr ..]=>ϕ | .cells v _ _=>ϓ v|_=>ϕ else[])
def Zhu(E:Env)(ops:List Oper)(st:St):List Nat :=
 if(E.joins.any λj=>j.1 == 10 && j.2.2 == ops.length)=ϑ then((Z8e ops []).filterMap λt=>match st.slot t with | .cv (ϐ,[.ptr v _])=>ϓ v|_=>ϕ)else Z1da ops st
def Z181(ops:List Oper):List Nat:=(Ϧ ops.length).filter λi=>match ops[i]? with
 | some o=>match o.op with
  | .store .. | .slice ..=>ϑ
  | .call c=>match c.callee with
   | .builtin b=>match b with | .append | .clear | .copy=>ϑ|_=>ϐ
   | _=>ϑ
  | _=>ϐ
 | none=>ϐ
def Zz6(E:Env)(st:St)(o:Oper):Bool:=match o.op with
 | .call c=>match c.callee with
  | .value (.func f)=>E.fs.contains f && !(E.inl.any λp=>p.1 == f) && !(E.take.contains f) && (match Zqm E.T E.tups (E.ownF f) o.type st.n with|some (_,_,es)=>es.isEmpty|none=>ϐ) &&
    c.args.toList.all λx=>match x with | .tmp t=>(SV.ptrs (st.slot t)).isEmpty|_=>ϑ
  | _=>ϐ
 | _=>ϐ
def Z1gx(E:Env)(ops:List Oper)(i:Nat):Bool:=(E.joins.any λj=>j.1 == 16) && match ops[i]? with
 | some o=>(match o.op with | .slice t ..=>(match E.T.tag t with|some (.slice _)=>ϐ|some _=>ϑ|none=>ϐ)|_=>ϐ)
 | none=>ϐ
def Zhv(E:Env)(inl:InlF)(cl:Bool)(ops:List Oper)(st:St)(k:St->Tree):Tree :=
 let M:=Zhu E ops st
 let keep:=st.hp.filter fun | .cells v _ _=>!(M.contains v) | .row ..=>ϐ|_=>ϑ
 let soft:=st.hp.filter fun | .cells v _ _=>M.contains v | .row ..=>ϑ|_=>ϐ
 let tch:=if soft.isEmpty=ϑ then[]else(Z181 ops).filter λi=>!(cl && (match ops[i]? with|some o=>Zz6 E st o|none=>ϐ)) && !(Z1gx E ops i)
 if Region.noSelect ops.toArray=ϑ then Zir E inl ops cl keep soft tch ops.length (ϧ ops.length ϐ) st k else .stuck "a select"
section
variable {C:Cx} {E:Env}
def Zm5{J:List V}{L:List LC}:∀{l:List Tree},(Ztw l).goal C J L->∀t∈l,t.goal C J L
 | [],h=>h.elim
 | [t],h=>by intro u hu;simp at hu;subst hu;exact h
 | t::u::l,h=>by
  intro x hx;obtain⟨h1,h2⟩:=h;rcases Ϯ.1 hx with rfl|hx
  ·exact h1
  exact Zm5 h2 x hx
def Zis{ops:Array Oper}{i:Nat}{listed:Array Bool}(hc:Zdi .any ops listed):∀(n j:Nat),Zdj ops i n j=ϑ->listed.getD j ϐ=ϑ->listed.getD i ϐ=ϑ
 | 0,_,h,_=>by cases h
 | n+1,j,h,hl=>by
  simp only[Zdj]at h;split at h
  ·rename_i o ho;have h:∃(k:Nat) (hk:k<o.after.size),Region.binds .any o.after[k]=ϑ/\(o.after[k].on=i\/Zdj ops i n o.after[k].on=ϑ):=by simpa using h
   obtain⟨k,hk,h1,h2⟩:=h;have h3:=hc j o ho hl _ (Array.getElem_mem hk) h1;rcases h2 with h4|h4
   ·rw[<- h4];exact h3
   exact Zis hc n _ h4 h3
  cases h
def Zah(J0:List V)(keep soft:List Ent)(tch:List Nat)(listed:Array Bool)(w:ϖ):Prop :=
 Hold J0 keep w/\((∀t∈tch,listed.getD t ϐ=ϐ)->Hold J0 soft w)
variable{J0:List V}{keep soft:List Ent}{tch:List Nat}{i:Nat}
def Zah.iff(hi:¬i∈tch)(listed:Array Bool)(w:ϖ):Zah J0 keep soft tch (listed.setIfInBounds i ϑ) w↔Zah J0 keep soft tch listed w:=by have e:∀t∈tch,(listed.setIfInBounds i ϑ).getD t ϐ=listed.getD t ϐ:=λt ht=>getD_set_ne ϐ (λh=>hi (h▸ht));exact⟨λh=>⟨h.1,λh2=>h.2 λt ht=>by rw[e t ht];exact h2 t ht⟩,λh=>⟨h.1,λh2=>h.2 λt ht=>by rw[<- e t ht];exact h2 t ht⟩⟩
def Zah.still{ops:List Oper}{listed:Array Bool}(hc:Zdi .any ops.toArray listed)(hu:listed.getD i ϑ=ϐ)(h:Zah J0 keep soft tch listed w):Hold J0 (Z1j ops keep soft tch i) w:=by
 unfold Z1j;split
 ·rename_i hall;have hu':listed.getD i ϐ=ϐ:=by
   rcases ϥ i listed.size with h' | h'
   ·simp[h']at hu⊢;exact hu
   simp[ϙ h']at hu
  have h2:=h.2 λt ht=>by
   cases hl:listed.getD t ϐ with
   | false=>rfl
   | true =>
    have:=Zis hc _ _ (ϔ.1 hall t ht) hl;rw[hu']at this;cases this
  intro e he;rcases qy13.1 he with he|he
  ·exact h.1 e he
  exact h2 e he
 exact h.1
def Z182{w0:ϖ}(hi:Inv C st J a w0){s:SV}(h:Z1d9 st o.op=ϓ s):∃v,(∀w,(execOp a.eval o).run C.P w=.ok (.value v) w)/\s.rel J v:=by
 unfold Z1d9 at h;split at h
 ·rename_i t hop;have hrel:=hi.fr t;split at h
  ·rename_i l hs;simp only[Ϛ.injEq]at h;subst h;rw[hs]at hrel;exact⟨a.eval (.tmp t),λw=>by unfold execOp;simp only[hop,Sem.run_pure],hrel⟩
  cases h
 ·rename_i t i hop;have hrel:=hi.fr t;split at h
  ·rename_i l hs;simp only[Ϥ]at h;obtain⟨c,hc,rfl⟩:=h;rw[hs]at hrel;have hrel:a.eval (.tmp t)=.tuple (l.map (CV.ev J)).toArray:=hrel;refine⟨CV.ev J c,λw=>?_,rfl⟩;unfold execOp;simp only[hop,hrel,Instr.extract,List.getElem?_toArray,List.getElem?_map,hc,Option.map_some];simp only[go_sem,Sem.run_bind,Sem.run_pure,Result.andThen_ok]
  cases h
 cases h
def Zw6(st:St)(h:List Ent)(G:X):∀l:List Operand,Zio { st with hp:=h } G l=Zio st G l
 | []=>rfl
 | x::l=>by simp only[Zio,Zw6 st h G l];rfl
def Z11z(st:St)(h:List Ent)(G:X)(c:Call):Zdf { st with hp:=h } G c=Zdf st G c:=by unfold Zdf;simp only[Zw6 st h G];rfl
def Hold.more{l:List Ent}{w1:ϖ}(h:Hold J0 l w)(hm:Mod [] w w1):Hold J0 l w1:=λe he =>
 Ent.stable (h e he) λk hk=>hm.block k (Ent.bound (h e he) hk) O1
def Zo1(ops:List Oper)(keep soft:List Ent)(tch:List Nat)(i:Nat):(Z1j ops keep soft tch i).Sublist (keep++soft):=by
 unfold Z1j;split
 ·exact List.Sublist.refl _
 exact List.sublist_append_left _ _
def Z120(hE:EnvOK C.P E)(hI:Zld C inl){ops:List Oper}{cl:Bool}{Q:Exit->Act->ϖ->Prop}(hkb:keep.all (Ent.bd J0.length)=ϑ)(hsb:soft.all (Ent.bd J0.length)=ϑ)(hown:∀e∈keep++soft,e.wr=ϑ->∀k,e.fp J0 k->C.B.w0.heap.size<=k\/k∈C.B.fp)(hsep:Zt J0 (keep++soft))(hsel:Region.noSelect ops.toArray=ϑ)(hnp:∀c a w,¬Q (.panic c) a w):∀(fuel:Nat) (listed:Array Bool) {st:St} {J:List V} {L:List LC} {a:Act} {w:ϖ} {k:St->Tree},Zdi .any ops.toArray listed->Inv C st J a w->st.d=L.length->J0 <+: J->Zah J0 keep soft tch listed w -> (∀st' J' L' a' w',L <+: L'->st'.d=L'.length->J <+: J'->(k st').goal C J' L'->Inv C st' J' a' w'->Q .normal a' w')->(Zir E inl ops cl keep soft tch fuel listed st k).goal C J L -> Zdh C.P .any ops.toArray Q (λl w=>Zah J0 keep soft tch l w/\Mod C.B.fp C.B.w0 w) fuel listed a w:=by
 have hputd:∀(st:St) (d:Option Tmp) (s:SV),(st.put d s).d=st.d:=by intro st d s;cases d<;>rfl
 have hagk:∀l:List Ent,l.all (Ent.bd J0.length)=ϑ->∀J,J0 <+: J->∀w,Hold J0 l w↔Hold J l w:=by rintro l hlb J ⟨t,rfl⟩ w;have hb:=ϔ.1 hlb;exact⟨λh e he=>(Ent.holds_bd (Z18.app J0 t) e (hb e he) w).1 (h e he),λh e he=>(Ent.holds_bd (Z18.app J0 t) e (hb e he) w).2 (h e he)⟩
 have hstb:∀i,(Z1j ops keep soft tch i).all (Ent.bd J0.length)=ϑ:=by
  intro i;unfold Z1j;split
  ·rw[List.all_append,hkb,hsb];rfl
  exact hkb
 have hsm:∀{l:Array Bool} {w w1:ϖ},Zah J0 keep soft tch l w->Mod [] w w1->Zah J0 keep soft tch l w1:=λh hm=>⟨h.1.more hm,λh2=>(h.2 h2).more hm⟩
 have hTm:∀(l:Array Bool) (w w1:ϖ),(Zah J0 keep soft tch l w/\Mod C.B.fp C.B.w0 w)->Mod [] w w1->Zah J0 keep soft tch l w1/\Mod C.B.fp C.B.w0 w1:=λl w w1 h hm=>⟨hsm h.1 hm,h.2.trans hm O1⟩
 have hrel0:∀(i:Nat) (J:List V) (w:ϖ),J0 <+: J->Hold J0 (Z1j ops keep soft tch i) w->Mod C.B.fp C.B.w0 w->Rel C.B J (Z1j ops keep soft tch i) w:=by rintro i J w ⟨t,rfl⟩ hh hm;have hs:=Zo1 ops keep soft tch i;exact Rel.ext ⟨hm,hh,λe he=>hown e (hs.subset he),hsep.sublist hs⟩ (Z18.app J0 t) (hstb i)
 intro fuel;induction fuel with
 | zero =>
  intro listed st J L a w k hcl hi0 hdL hp hS hk hg w1 hm;have hi:=hi0.world (hi0.rel.step hm O1 O1);simp only[Zir]at hg;split at hg
  ·rename_i hr;exact⟨hr,hk _ _ _ _ _ ϒ hdL ϒ hg hi⟩
  exact hg.elim
 | succ fuel ih =>
  intro listed st J L a w k hcl hi hdL hp hS hk hg;simp only[Zir]at hg;split at hg
  ·rename_i hr;intro w1 hm;have hi:=hi.world (hi.rel.step hm O1 O1);exact⟨λ_=>hk _ _ _ _ _ ϒ hdL ϒ hg hi,λi hi'=>by rw[hr]at hi';cases hi'⟩
  rename_i rs hne;split at hg
  ·rename_i i hfind;have hmem:=Ϡ hfind;have hprop:=Ϭ hfind;simp only[Ϝ,Ϣ]at hprop;have hnt:¬i∈tch:=λh=>by
    have:=hprop.1;rw[Ϩ.2 h]at this;cases this
   split at hg
   ·rename_i d G ns s hl;obtain⟨hn,hg⟩:=Z66 hg;unfold Ztv at hl;simp only[ϩ,ϗ]at hl;obtain⟨o,ho,G',hgd,hl⟩:=hl;have hoa:ops.toArray[i]?=ϓ o:=by simpa using ho
    have hwant:=Zny hi hgd;have hcase:(∃v,Z2p C.P ops.toArray (Hold J0 (Z1j ops keep soft tch i)) o v a/\s.rel J v)/\d=o.dst:=by
     split at hl
     ·rename_i hGf;simp only[Ϛ.injEq,Prod.mk.injEq]at hl;obtain⟨rfl,rfl,rfl,rfl⟩:=hl;subst hGf;exact⟨⟨undef,.inr ⟨by rw[hwant];rfl,rfl⟩,rfl⟩,rfl⟩
     split at hl
     ·rename_i s' hs';simp only[Ϛ.injEq,Prod.mk.injEq]at hl;obtain⟨rfl,rfl,rfl,rfl⟩:=hl;split at hs'
      ·rename_i hGt;subst hGt;obtain⟨v,hv1,hv2⟩:=Z182 hi hs';exact⟨⟨v,.inl ⟨by rw[hwant];rfl,λw' _=>.inl (hv1 w')⟩,hv2⟩,rfl⟩
      cases hs'
     simp only[ϗ,Ϛ.injEq,Prod.mk.injEq]at hl;obtain⟨⟨ns',c⟩,hv,rfl,rfl,rfl,rfl⟩:=hl;refine⟨?_,rfl⟩;cases hG:(G'.ev J).toB with
     | true =>
      refine⟨CV.ev J c,.inl ⟨by rw[hwant,hG],λw' hS'=>.inl (Zvy hE hi ((hagk _ (hstb i) J hp w').1 hS') hG hv (hn hG))⟩,?_⟩;split
      ·rfl
      exact⟨λ_=>rfl,(λh=>by rw[hG]at h;cases h)⟩
     | false =>
      refine⟨undef,.inr ⟨by rw[hwant,hG],rfl⟩,?_⟩;split
      ·rename_i h;subst h;simp[X.ev]at hG
      exact⟨(λh=>by rw[hG]at h;cases h),λ_=>rfl⟩
    obtain⟨⟨v,hy,hrel⟩,rfl⟩:=hcase;refine Zgr hoa (Region.noSelect_spec hsel) hnp (λl w=>by rw[Zah.iff hnt l w]) hTm (λl w h1 h2 h3=>h3.1.still h1 h2) fuel listed a w hcl (Region.free_spec hoa hprop.2.2) hmem hy ⟨hS,hi.rel.mod⟩ ?_;exact ih _ (hcl.ready hmem) (hi.put _ hrel) ((hputd _ _ _).trans hdL) hp ((Zah.iff hnt listed w).2 hS) hk hg
   exact hg.elim
  split at hg
  ·rename_i i hfind;have hfind:(Region.ready .any ops.toArray listed).find? (λi=>!tch.contains i && ((Zdk E ops st i).isSome && Region.free .any ops.toArray listed i))=ϓ i:=by
    split at hfind
    ·exact hfind
    cases hfind
   have hmem:=Ϡ hfind;have hprop:=Ϭ hfind;simp only[Ϝ,Ϣ]at hprop;have hnt:¬i∈tch:=λh=>by have:=hprop.1;rw[Ϩ.2 h]at this;cases this
   split at hg
   ·rename_i d G f args res n1 hl;obtain⟨vs,hvl,hcall,hg⟩:=hg;unfold Zdk at hl;simp only[ϩ,ϗ]at hl;obtain⟨o,ho,G',hgd,hl⟩:=hl;have hoa:ops.toArray[i]?=ϓ o:=by simpa using ho
    split at hl
    ·rename_i c hop;simp only[ϗ]at hl;obtain⟨⟨f',args'⟩,hc,⟨res',n1',es⟩,hres,hl⟩:=hl;simp only[Option.ite_none_right_eq_some,Ϛ.injEq,Prod.mk.injEq,Ϝ,Ϣ]at hl;obtain⟨⟨⟨⟨⟨⟨⟨hGf,hfs⟩,hinl⟩,hes⟩,hpt⟩,hgo⟩,hGb⟩,rfl,rfl,rfl,rfl,rfl,rfl⟩:=hl;obtain⟨hle,-⟩:=Zvz hres;have hf:Zip C.P f'=ϑ:=hE.fs f' (by simpa using hfs);have hwant:=Zny hi hgd;have hi1:=ext0 hi vs hvl hle;have hGe:G'.ev (J++vs)=G'.ev J:=(X.ev_bd (by rw[<- hi.len];exact Z18.app J vs) G' hGb).symm;have hcase:∃v,Z2p C.P ops.toArray (λw=>Hold J0 (Z1j ops keep soft tch i) w/\Mod C.B.fp C.B.w0 w) o v a/\(Zm4 G' res').rel (J++vs) v:=by
      cases hG:(G'.ev J).toB with
      | true =>
       refine⟨res'.ev (J++vs),.inl ⟨by rw[hwant,hG],λw' hS'=>.inr ⟨f',(args'.map (SV.ev J)).toArray,by have hbst:(Z1j ops keep soft tch i).all (Ent.bd st.n)=ϑ:=ϔ.2 λe he=>Ent.bd_mono (by rw[<- hi.len];exact hp.length_le) e (ϔ.1 (hstb i) e he);have hi':Inv C { st with hp:=Z1j ops keep soft tch i } J a w':=hi.heap hbst (hrel0 i J w' hp hS'.1 hS'.2);exact Zay (st:={ st with hp:=Z1j ops keep soft tch i }) hi' hG hop (by rw[Z11z];exact hc) hf,hcall ((X.P_iff J G').2 hG) w' ((hrel0 i J w' hp hS'.1 hS'.2).forMem _)⟩⟩,?_⟩;rcases Z67 hres with⟨x,rfl⟩|⟨x,rfl⟩
       ·simp only[Zm4];split
        ·rfl
        exact⟨λ_=>rfl,λh=>by rw[hGe,hG]at h;cases h⟩
       simp only[Zm4];split
       ·rfl
       trivial
      | false =>
       have hGn:¬G'=.B ϑ:=by rintro rfl;simp[X.ev]at hG
       refine⟨undef,.inr ⟨by rw[hwant,hG],rfl⟩,?_⟩;rcases Z67 hres with⟨x,rfl⟩|⟨x,rfl⟩
       ·simp only[Zm4,ϛ hGn];exact⟨(λh=>by rw[hGe,hG]at h;cases h),λ_=>rfl⟩
       simp only[Zm4,ϛ hGn];trivial
     obtain⟨v,hy,hrel⟩:=hcase;refine Zgr hoa (Region.noSelect_spec hsel) hnp (λl w=>by rw[Zah.iff hnt l w]) hTm (λl w h1 h2 h3=>⟨h3.1.still h1 h2,h3.2⟩) fuel listed a w hcl (Region.free_spec hoa hprop.2.2) hmem hy ⟨hS,hi.rel.mod⟩ ?_;exact ih _ (hcl.ready hmem) (hi1.put _ hrel) ((hputd _ _ _).trans hdL) (hp.trans (Ϙ J vs)) ((Zah.iff hnt listed w).2 hS)
      (λst'' J'' L'' a'' w'' hL' hd' hp''=>hk _ _ _ _ _ hL' hd' ((Ϙ J vs).trans hp'')) hg
    cases hl
   exact hg.elim
  have hall:=Zm5 hg;intro w1 hm1;have hi:=hi.world (hi.rel.step hm1 O1 O1);have hS:=hsm hS hm1;refine⟨λh=>(hne h).elim,λj hj=>?_⟩;have hg:=hall _ (List.mem_map_of_mem hj);split at hg
  ·rename_i o ho;have hoa:ops.toArray[j]?=ϓ o:=by simpa using ho
   have:=Z11y (ops:=ops) (K:=λa' w'=>(Zah J0 keep soft tch (listed.setIfInBounds j ϑ) w'/\Mod C.B.fp C.B.w0 w')/\Zdh C.P .any ops.toArray Q (λl w=>Zah J0 keep soft tch l w/\Mod C.B.fp C.B.w0 w) fuel (listed.setIfInBounds j ϑ) a' w') (Q:=Q) hE hI hi hdL (λst' J' L' a' w' hL hd hp' hg' hi'=>by
    split at hg'
    ·rename_i hkeep;simp only[Ϝ,ϭ]at hkeep;have hS':Zah J0 keep soft tch (listed.setIfInBounds j ϑ) w':=by
      refine⟨(hagk _ hkb J' (hp.trans hp') w').2 λe he=>hi'.rel.holds e (by simpa using ϔ.1 hkeep.1 e he),λhun=>?_⟩;rcases hkeep.2 with h|h
      ·obtain⟨t,ht,h⟩:=List.any_eq_true.1 h;have hun:=hun t ht;simp only[ϭ,beq_iff_eq]at h;rcases h with rfl|h
       ·have hlt:t<listed.size:=by
         have h0:=(mem_ready.1 hj).1;rcases ϥ t listed.size with h' | h'
         ·exact h'
         simp[ϙ h']at h0
        simp[hlt]at hun
       rw[getD_set_true h]at hun;cases hun
      exact(hagk _ hsb J' (hp.trans hp') w').2 λe he=>hi'.rel.holds e (by simpa using ϔ.1 h e he)
     exact⟨⟨hS',hi'.rel.mod⟩,ih _ (hcl.ready hj) hi' hd (hp.trans hp') hS' (λst'' J'' L'' a'' w'' hL' hd' hp''=>hk _ _ _ _ _ (hL.trans hL') hd' (hp'.trans hp'')) hg'⟩
    exact hg'.elim) hg
   unfold wpOp;simp only[hoa];split
   ·rename_i hw;rw[ϝ hw]at this;exact .inl this
   rename_i hw;rw[ϛ hw]at this;exact this
  exact hg.elim
def Ztx(hE:EnvOK C.P E)(hI:Zld C inl){cl:Bool}{L:List LC}{id:Nat}{ops:Array Oper}{Q:Exit->Act->ϖ->Prop}{k:St->Tree}(hi:Inv C st J a w)(hdL:st.d=L.length)(hk:∀st' J' L' a' w',L <+: L'->st'.d=L'.length->J <+: J'->(k st').goal C J' L'->Inv C st' J' a' w'->Q .normal a' w')(hg:(Zhv E inl cl ops.toList st k).goal C J L):(Code.region id ops ϑ).wp C.P Q a w:=by
 unfold Zhv at hg;split at hg
 ·rename_i hsel;refine wp_region_noPanic (wp_region_any hE.mixed ?_);have hi':=hi.world hi.rel.drew;have hcl:Zdi .any ops (ϧ ops.toList.length ϐ):=λj oj hj hl=>by
   exfalso;rcases ϥ j ops.size with h' | h'
   ·simp[h']at hl
   simp[ϙ h']at hj
  have hall:=ϔ.1 hi.bdh;have hperm:((st.hp.filter fun | .cells v _ _=>!((Zhu E ops.toList st).contains v) | .row ..=>ϐ|_=>ϑ)++(st.hp.filter fun | .cells v _ _=>(Zhu E ops.toList st).contains v | .row ..=>ϑ|_=>ϐ)).Perm st.hp:=by have:=List.filter_append_perm (λe:Ent=>match e with | .cells v _ _=>!((Zhu E ops.toList st).contains v) | .row ..=>ϐ|_=>ϑ) st.hp;refine ϯ.trans (ϯ.append_left _ ?_) this;refine ϯ.of_eq (List.filter_congr λe _=>?_);cases e<;>simp
  have hrel:=hi'.rel.perm hperm.symm;have:=Z120 (Q:=NoPanic Q) (J0:=J) hE hI ?_ ?_ hrel.own hrel.sep hsel (λc a w h=>h) ops.toList.length (ϧ ops.toList.length ϐ) (by simpa using hcl) hi' hdL ϒ ?_ (λst' J' L' a' w' hL hd hp hg' hi''=>NoPanic.normal (hk st' J' L' a' w' hL hd hp hg' hi'')) hg
  ·exact Zm3 _ _ _ _ (by simpa using this)
  ·refine ϔ.2 λe he=>?_;rw[hi.len];exact hall e (Ϟ.1 he).1
  ·refine ϔ.2 λe he=>?_;rw[hi.len];exact hall e (Ϟ.1 he).1
  exact⟨λe he=>hi'.rel.holds e (Ϟ.1 he).1,λ_ e he=>hi'.rel.holds e (Ϟ.1 he).1⟩
 exact hg.elim
end
variable {C:Cx} {E:Env}
inductive EX|normal|exit (id:Nat)|ret
 deriving DecidableEq,Repr,Inhabited
def EX.to:EX->Exit | .normal=>.normal | .exit id=>.exit id | .ret=>.ret
def Zdl:Code->List Nat
 | .region _ ops _=>ops.toList.filterMap (·.dst)
 | .seq a b=>Zdl a++Zdl b
 | .cond _ a b=>Zdl a++Zdl b
 | .block _ c=>Zdl c
 | .loop c=>Zdl c
 | _=>[]
def Zit:Code->List Oper
 | .region _ ops _=>ops.toList
 | .seq a b=>Zit a++Zit b
 | .cond _ a b=>Zit a++Zit b
 | .block _ c=>Zit c
 | .loop c=>Zit c
 | _=>[]
structure Hd where
 n:Nat
 inits:List X
 sub:List (Nat×Nat)
 rows:List Ent
 ro:Nat->Bool:=λ_=>ϐ
 deriving Inhabited
def Z121(T:Tab)(hp:List Ent)(ty:Option Nat)(h:Hd):Sc->Sc×Hd
 | .int k x=>(.int k (.var h.n),{ h with n:=h.n+1,inits:=h.inits++[x] })
 | .bool x=>(.bool (.var h.n),{ h with n:=h.n+1,inits:=h.inits++[x] })
 | .str x=>(.str (.var h.n),{ h with n:=h.n+1,inits:=h.inits++[x] })
 | .val (.var v)=>match Z19 hp v with
  | some (_,r)=>(.val (.var h.n),{ h with n:=h.n+2,inits:=h.inits++[.var v,r],sub:=(v,h.n)::h.sub })
  | none=>(.val (.var h.n),{ h with n:=h.n+1,inits:=h.inits++[.var v] })
 | .val x=>(.val (.var h.n),{ h with n:=h.n+1,inits:=h.inits++[x] })
 | .nilp=>(.val (.var h.n),{ h with n:=h.n+1,inits:=h.inits++[.nilP] })
 | .nils=>match ty with
  | some e=>match T.get e with
   | some ei=>(.val (.var h.n),{ h with n:=h.n+2,inits:=h.inits++[.nilS,.nilR],rows:=h.rows++[if h.ro e=ϑ then .rd h.n ei.ks (.var (h.n+1))else .row h.n e ei.ks (.var (h.n+1))] })
   | none=>(.nils,h)
  | none=>(.nils,h)
 | s=>(s,h)
def Zw7(T:Tab)(hp:List Ent):List (Option Nat)->Hd->List Sc->List Sc×Hd
 | _,h,[]=>([],h)
 | tys,h,s::ss =>
  let ty:=match tys with|t::_=>t | []=>ϕ
  let (a,h1):=Z121 T hp ty h s;let (b,h2):=Zw7 T hp tys.tail h1 ss;(a::b,h2)
def Zqr(T:Tab)(hp:List Ent)(fixed:List Nat):List (Option Nat)->Hd->List Sc->List Sc×Hd
 | _,h,[]=>([],h)
 | tys,h,s::ss =>
  let ty:=match tys with|t::_=>t | []=>ϕ
  let keep:=match s with | .val (.var v)=>fixed.contains v|_=>ϐ
  let (a,h1):=if keep=ϑ then(s,h)else Z121 T hp ty h s
  let (b,h2):=Zqr T hp fixed tys.tail h1 ss
  (a::b,h2)
def Z183(T:Tab)(ops:List Oper):List Nat:=ops.filterMap λo=>match o.op with
 | .call c=>match c.callee,c.argTypes.toList with
  | .builtin .append,t::_=>match T.tag t with|some (.slice e)=>ϓ e|_=>ϕ
  | _,_=>ϕ
 | _=>ϕ
def Z1db(T:Tab)(ops:List Oper)(j:Nat):List (Option Nat) :=
 let ap:=Z183 T ops
 if ap.isEmpty then[]else
 match ops.find? (λo=>o.dst == ϓ j && (T.get o.type).isSome)with
 | some o=>(Zyw T 6 o.type).map λx=>match x with|some e=>if ap.contains e then ϓ e else ϕ|none=>ϕ
 | none=>[]
def Zm6(T:Tab)(ops:List Oper)(hp:List Ent)(W:List Nat):Nat->Hd->List SV->List SV×Hd
 | _,h,[]=>([],h)
 | j,h,s::ss =>
  let (a,h1):=if W.contains j then(match s with | .cv (g,cs)=>let (cs',h'):=Zw7 T hp (Z1db T ops j) h cs;(SV.cv (g,cs'),h')|_=>(.dead,h))else(s,h)
  let (b,h2):=Zm6 T ops hp W (j+1) h1 ss
  (a::b,h2)
def Zqs(T:Tab)(hp0:List Ent)(fixed M:List Nat):Hd->List Ent->List Ent×Hd
 | h,[]=>([],h)
 | h,e::es =>
  let (a,h1):=match e with
   | .cells v ty cs=>if M.contains v then(let (cs',h'):=Zqr T hp0 fixed (Zyw T 6 ty) h cs;(Ent.cells v ty cs',h'))else(e,h)
   | .st v=>if M.contains v then(.st h.n,{ h with n:=h.n+1,inits:=h.inits++[.var v] })else(.st v,h)
   | .row v ty ks r=>if M.contains v && !(h.sub.any λp=>p.1 == v)then(.row v ty ks (.var h.n),{ h with n:=h.n+1,inits:=h.inits++[r] })else(e,h)
   | e=>(e,h)
  let (b,h2):=Zqs T hp0 fixed M h1 es
  (a::b,h2)
def Z1gy(h:Hd):Ent->Ent
 | .row v ty ks r=>(match h.sub.find? λp=>p.1 == v with|some p=>.row p.2 ty ks (.var (p.2+1))|none=>.row v ty ks r)
 | .rd v ks r=>(match h.sub.find? λp=>p.1 == v with|some p=>.rd p.2 ks (.var (p.2+1))|none=>.rd v ks r)
 | e=>e
def Z1jl(v:Nat):SV->Bool
 | .cv c=>c.2.any λs=>match s with | .val (.var u)=>u == v|_=>ϐ
 | _=>ϐ
def Zz7(st:St)(t:Nat):List Nat:=match st.slot t with
 | .fn _ first caps=>(first++caps).flatMap λs=>match s with
  | .ptr v _=>(match st.hp.find? λe=>match e with | .cells u _ _=>u == v|_=>ϐ with
   | some (.cells _ _ [.ptr u _])=>[u]
   | _=>[v])
  | _=>[]
 | _=>[]
def Zz8(ops:List Oper)(st:St)(t:Nat):List Nat:=ops.flatMap λo=>match o.dst,o.op with
 | some d,.load _ (.tmp q)=>if d == t then(match st.slot q with
  | .cv (ϐ,[.ptr v _])=>(match st.hp.find? λe=>match e with | .cells u _ _=>u == v|_=>ϐ with
   | some (.cells _ _ [.ptr u _])=>[u]
   | _=>[])
  | _=>[])else[]
 | _,_=>[]
def Zqt(T:Tab)(body:Code)(st:St)(ps:List Nat:=[])(ro:Nat->Bool:=λ_=>ϐ):St×List X :=
 let W:=Zdl body
 let roots:=Z8e (Zit body) []
 let M:=(roots.filterMap λt=>match st.slot t with | .cv (ϐ,[.ptr v _])=>ϓ v | .cv (ϐ,[.val (.var v)])=>ϓ v|_=>ϕ)++roots.flatMap (Zz7 st)++roots.flatMap (Zz8 (Zit body) st)
 let (fr,h1):=Zm6 T (Zit body) st.hp W 0 { n:=st.n,inits:=[],sub:=[],rows:=[] } st.fr
 let fixed:=(Ϧ st.fr.length).filterMap λj=>if W.contains j=ϑ || (!ps.isEmpty && !((Zit body).any λo=>o.op.operands.toList.any λx=>match x with | .tmp i=>i == j|_=>ϐ))then ϕ else(match st.slot j with | .cv (ϐ,[.val (.var u)])=>ϓ u|_=>ϕ)
 let (hp,h2):=Zqs T st.hp fixed (ps++M) { h1 with ro:=ro } st.hp
 let olds:=st.hp.filter λe=>match e with | .rd v _ _=>(h2.sub.any λp=>p.1 == v) && fr.any (Z1jl v)|_=>ϐ
 let fr:=if ps.isEmpty=ϑ then fr else fr.map λs=>match s with | .tup _=>.dead|s=>s
 ({ n:=h2.n,d:=st.d,fr:=fr,hp:=hp.map (Z1gy h2)++h2.rows++olds },h2.inits)
variable(n0:Nat)
def atX(xs:List X)(f:Nat):Option X:=if n0<=f then xs[f - n0]? else ϕ
def fitX(xs:List X)(h c:X):Bool :=
 (h.bd n0 && h == c) || (match h with | .var f=>atX n0 xs f == ϓ c|_=>ϐ)
def Z1dc(xs:List X):Sc->Sc->Bool
 | .int k x,.int k' y=>k == k' && fitX n0 xs x y
 | .bool x,.bool y=>fitX n0 xs x y
 | .str x,.str y=>fitX n0 xs x y
 | .val x,.val y=>fitX n0 xs x y
 | .val x,.nilp=>fitX n0 xs x .nilP
 | .val x,.ptr v off=>fitX n0 xs x (.ptrX v off)
 | .val x,.nils=>fitX n0 xs x .nilS
 | .ptr v off,.ptr v' off'=>off == off' && fitX n0 xs (.var v) (.var v')
 | h,c=>h.bd n0 && h == c
def Zm7(n0:Nat)(xs:List X):List Sc->List Sc->Bool
 | [],[]=>ϑ
 | h::hs,c::cs=>Z1dc n0 xs h c && Zm7 n0 xs hs cs
 | _,_=>ϐ
def Zz9(xs:List X):SV->SV->Bool
 | .dead,_=>ϑ
 | .cv (g,hs),.cv (g',cs)=>g == g' && Zm7 n0 xs hs cs
 | h,c=>h.bd n0 && h == c
def Z122(n0:Nat)(xs:List X):List SV->List SV->Bool
 | [],[]=>ϑ
 | h::hs,c::cs=>Zz9 n0 xs h c && Z122 n0 xs hs cs
 | _,_=>ϐ
def Zw8(xs:List X):Ent->Ent->Bool
 | .cells v ty hs,.cells v' ty' cs=>fitX n0 xs (.var v) (.var v') && ty == ty' && Zm7 n0 xs hs cs
 | .row v ty ks r,.row v' ty' ks' r'=>fitX n0 xs (.var v) (.var v') && ty == ty' && ks == ks' && fitX n0 xs r r'
 | .rd v ks r,.rd v' ks' r'=>fitX n0 xs (.var v) (.var v') && ks == ks' && fitX n0 xs r r'
 | .st v,.st v'=>(decide (v<n0) && v == v') || atX n0 xs v == ϓ (.var v')
 | _,_=>ϐ
def Ziu(p:Ent->Bool):List Ent->Option (Ent×List Ent)
 | []=>ϕ
 | c::cs=>if p c then ϓ (c,cs)else match Ziu p cs with|some (d,ds)=>ϓ (d,c::ds)|none=>ϕ
def Z123(xs:List X):Ent->Bool
 | .row v _ _ r=>(match atX n0 xs v with|some .nilS=>ϑ|_=>ϐ) && fitX n0 xs r .nilR
 | .rd v _ r=>(match atX n0 xs v with|some .nilS=>ϑ|_=>ϐ) && fitX n0 xs r .nilR
 | _=>ϐ
def Zza(n0:Nat)(xs:List X):List Ent->List Ent->Bool
 | [],_=>ϑ
 | h::hs,cs=>match Ziu (Zw8 n0 xs h) cs with
  | some (c,cs')=>if c.wr=ϑ then Zza n0 xs hs cs' else Zza n0 xs hs cs
  | none=>Z123 n0 xs h && Zza n0 xs hs cs
def fits(xs:List X)(head cur:St):Bool :=
 head.n == n0+xs.length && xs.all (X.bd cur.n) && Z122 n0 xs head.fr cur.fr && Zza n0 xs head.hp cur.hp && head.fr.all (SV.bd head.n) && head.hp.all (Ent.bd head.n)
def Z124(xs:List X)(head cur:St):String :=
 "a loops back: slots " ++ toString ((Ϧ head.fr.length).filter λj=>!(Zz9 n0 xs (head.slot j) (cur.slot j))) ++ " entries " ++ toString ((Ϧ head.hp.length).filter λj=>match head.hp[j]? with|some e=>!(cur.hp.any (Zw8 n0 xs e))|none=>ϐ)
def getX(m:Nat)(acc:List (Nat×X))(h c:X):List (Nat×X) :=
 match h with | .var f=>if n0<=f/\f<n0+m then(f,c)::acc else acc|_=>acc
def Z1jm(m:Nat)(acc:List (Nat×X)):Sc->Sc->List (Nat×X)
 | .int _ x,.int _ y | .bool x,.bool y | .str x,.str y | .val x,.val y=>getX n0 m acc x y
 | .val x,.nilp=>getX n0 m acc x .nilP
 | .val x,.ptr v off=>getX n0 m acc x (.ptrX v off)
 | .val x,.nils=>getX n0 m acc x .nilS
 | .ptr v _,.ptr v' _=>getX n0 m acc (.var v) (.var v')
 | _,_=>acc
def Z125(n0 m:Nat)(acc:List (Nat×X)):List Sc->List Sc->List (Nat×X)
 | h::hs,c::cs=>Z125 n0 m (Z1jm n0 m acc h c) hs cs
 | _,_=>acc
def Z1dd(n0 m:Nat)(acc:List (Nat×X)):List SV->List SV->List (Nat×X)
 | .cv (_,h)::hs,.cv (_,c)::cs=>Z1dd n0 m (Z125 n0 m acc h c) hs cs
 | _::hs,_::cs=>Z1dd n0 m acc hs cs
 | _,_=>acc
def Ziv(n0 m:Nat)(acc:List (Nat×X))(cur:List Ent):List Ent->List (Nat×X)
 | []=>acc
 | .cells v _ hs::es=>Ziv n0 m (match (if v<n0 then ϓ (v,X.var v)else acc.find? λp=>p.1 == v)with
   | some (_,.var v')=>(match Zz cur v' with|some (_,cs)=>Z125 n0 m acc hs cs|none=>acc)
   | _=>acc) cur es
 | .row f _ _ r::es | .rd f _ r::es=>Ziv n0 m (match (if f<n0 then ϓ (f,X.var f)else acc.find? λp=>p.1 == f)with
   | some (_,.var v')=>(match Z19 cur v' with|some (_,r')=>getX n0 m acc r r' | none=>acc)
   | some (_,.nilS)=>getX n0 m acc r .nilR
   | _=>acc) cur es
 | .st f::es=>Ziv n0 m (if n0<=f/\f<n0+m then(match cur.find? (λe=>match e with | .st _=>ϑ|_=>ϐ)with|some (.st v)=>(f,X.var v)::acc|_=>acc)else acc) cur es
def Z26(head cur:St):List X :=
 let m:=head.n - n0
 let acc:=Z1dd n0 m [] head.fr cur.fr
 let acc:=Ziv n0 m acc cur.hp head.hp
 let acc:=Ziv n0 m acc cur.hp head.hp
 (Ϧ m).map λi=>match acc.find? λp=>p.1 == n0+i with|some p=>p.2|none=>.I 0
def Z1de(xs:List X)(hp:List Ent):List Nat:=hp.filterMap λe=>match e with
 | .rd f _ _=>(match (if f<n0 then ϓ (.var f)else atX n0 xs f)with|some (.var v)=>ϓ v|_=>ϕ)
 | _=>ϕ
def Zqu:List Ent->List Nat->List Ent
 | hp,[]=>hp
 | hp,v::vs=>Zqu (Zag hp v) vs
def Zqv(xs:List X)(head cur:St):St:={ cur with hp:=Zqu cur.hp (Z1de n0 xs head.hp) }
def Z1gz(T:Tab)(ops:List Oper):List Nat:=ops.filterMap λo=>match o.op with
 | .slice t _ (ϓ _) ϕ ϕ=>match T.tag t with|some (.slice e)=>ϓ e|_=>ϕ
 | _=>ϕ
variable(hp:List Ent)
def Z1df(e:Nat):Sc->Bool
 | .val (.var u)=>hp.any λx=>match x with | .row v ty _ _=>u == v && ty == e|_=>ϐ
 | _=>ϐ
def peel(T:Tab)(c:Code)(st:St):Bool :=
 let ct:=Z1gz T (Zit c)
 !ct.isEmpty && st.hp.any λx=>match x with
  | .cells _ ty cs =>
   let l:=(Zyw T 6 ty).zip cs
   let m:=l.filter λp=>match p.1 with|some e=>ct.contains e|none=>ϐ
   decide (2<=m.length) && m.all λp=>match p.1 with|some e=>Z1df st.hp e p.2|none=>ϐ
  | _=>ϐ
def Z1h0:SV->Bool
 | .cv c=>c.2.any λs=>match s with | .ptr ..=>ϑ | .eptr ..=>ϑ|_=>ϐ
 | _=>ϐ
def Zh7(W D:List Nat):Nat->List SV->List SV
 | _,[]=>[]
 | j,s::ss=>(if(D.contains j || (W.contains j && Z1h0 s))=ϑ then .dead else s)::Zh7 W D (j+1) ss
def Zw9:Nat->List SV->List Nat
 | _,[]=>[]
 | j,s::ss=>match s with | .dead=>j::Zw9 (j+1) ss|_=>Zw9 (j+1) ss
def Zo2(c:Code)(old st:St):St:={ st with fr:=Zh7 (Zdl c) (Zw9 0 old.fr) 0 st.fr }
def Zaz(W D:List Nat):∀(j:Nat) (l:List SV),(Zh7 W D j l).length=l.length
 | _,[]=>rfl
 | j,s::ss=>by simp[Zh7,Zaz W D (j+1) ss]
def Zqw(W D:List Nat):∀(j:Nat) (l:List SV) (i:Nat),(Zh7 W D j l).getD i .dead=l.getD i .dead\/(Zh7 W D j l).getD i .dead=.dead
 | _,[],_=>.inl rfl
 | j,s::ss,0=>by
  simp only[Zh7];split
  ·exact .inr rfl
  exact .inl rfl
 | j,s::ss,i+1=>by simp only[List.getD_cons_succ];exact Zqw W D (j+1) ss i
def Zqx(W D:List Nat):∀(j:Nat) (l:List SV) (s:SV),s∈Zh7 W D j l->s∈l\/s=.dead
 | _,[],s,h=>.inl h
 | j,t::ss,s,h=>by
  rcases Ϯ.1 h with rfl|h
  ·split
   ·exact .inr rfl
   exact .inl (qy8 ..)
  rcases Zqx W D (j+1) ss s h with h|h
  ·exact .inl (qy10 _ h)
  exact .inr h
def Zqy{W D:List Nat}(h:Inv C st J a w):Inv C { st with fr:=Zh7 W D 0 st.fr } J a w:=by
 refine⟨h.len,(Zaz _ _ _ _).trans h.size,λj=>?_,λs hs=>?_,h.bdh,h.defers,h.rel⟩
 ·have hj:=h.fr j;unfold St.slot at hj⊢;rcases Zqw W D 0 st.fr j with h1|h1
  ·rw[h1];exact hj
  rw[h1];trivial
 rcases Zqx _ _ _ _ _ hs with h1|rfl
 ·exact h.bdf s h1
 rfl
def Zty{c:Code}{old:St}(h:Inv C st J a w):Inv C (Zo2 c old st) J a w:=Zqy h
def Z1dg(D:List Nat)(st:St):St:={ st with fr:=Zh7 [] D 0 st.fr }
def Z184{D:List Nat}(h:Inv C st J a w):Inv C (Z1dg D st) J a w:=Zqy h
def Z3b:Tree->Option St
 | .leaf st=>ϓ st
 | .ite _ t e=>match Z3b t with|some s=>ϓ s|none=>Z3b e
 | .both t e=>match Z3b t with|some s=>ϓ s|none=>Z3b e
 | .need _ t | .bindN t | .bindV t | .bindO t | .bindF _ t | .letV _ t=>Z3b t
 | .callP _ _ _ _ _ _ t=>Z3b t
 | .callM _ _ _ _ _ _ _ _ _ t=>Z3b t
 | .callR _ _ _ _ t=>Z3b t
 | .openR _ _ _ t=>Z3b t
 | .pack _ t=>Z3b t
 | _=>ϕ
def Z7s:Tree->List St
 | .leaf st=>[st]
 | .ite _ t e | .both t e | .join _ t e=>Z7s t++Z7s e
 | .need _ t | .bindN t | .bindV t | .bindO t | .bindF _ t | .letV _ t | .loop _ t=>Z7s t
 | .callP _ _ _ _ _ _ t=>Z7s t
 | .callM _ _ _ _ _ _ _ _ _ t=>Z7s t
 | .callR _ _ _ _ t=>Z7s t
 | .openR _ _ _ t=>Z7s t
 | .pack _ t=>Z7s t
 | _=>[]
variable(n:Nat)
def Z1bn(tb:List (List X))(xs:List X):X×List (List X) :=
 match tb.findIdx? λt=>t == xs with
 | some i=>(.var (n+i),tb)
 | none=>(.var (n+tb.length),tb++[xs])
def Z1h1(tb:List (List X))(x:X)(l:List X):X×List (List X):=if(l.all λy=>y == x)=ϑ then(x,tb)else Z1bn n tb (x::l)
def Z126:Sc->Bool | .val _ | .nils | .nilp | .ptr ..=>ϑ|_=>ϐ
def Sc.toX:Sc->X
 | .int _ x | .bool x | .str x | .val x=>x
 | .nils=>.nilS | .nilp=>.nilP | .ptr v off=>.ptrX v off
 | _=>.I 0
def Z1h2(tb:List (List X))(a:Sc)(l:List Sc):Option (Sc×List (List X)) :=
 if(l.all λb=>b == a)=ϑ then ϓ (a,tb)else
 let (x,tb'):=Z1bn n tb ((a::l).map Sc.toX)
 match a with
 | .int k _=>if(l.all λb=>match b with | .int k' _=>k == k' | _=>ϐ)=ϑ then ϓ (.int k x,tb')else ϕ
 | .bool _=>if(l.all λb=>match b with | .bool _=>ϑ|_=>ϐ)=ϑ then ϓ (.bool x,tb')else ϕ
 | .str _=>if(l.all λb=>match b with | .str _=>ϑ|_=>ϐ)=ϑ then ϓ (.str x,tb')else ϕ
 | a=>if(Z126 a && l.all Z126)=ϑ then ϓ (.val x,tb')else ϕ
def Ztz(n:Nat):List (List X)->List Sc->List (List Sc)->Option (List Sc×List (List X))
 | tb,[],_=>ϓ ([],tb)
 | tb,a::as,l=>do
  let (x,tb) <- Z1h2 n tb a (l.filterMap List.head?)
  let (xs,tb) <- Ztz n tb as (l.map List.tail)
  ϓ (x::xs,tb)
def Z1h3(tb:List (List X))(a:SV)(l:List SV):SV×List (List X) :=
 if(l.all λb=>b == a)=ϑ then(a,tb)else
 match a with
 | .cv (g,cs)=>if(l.all λb=>match b with | .cv (g',cs')=>g == g' && cs.length == cs'.length|_=>ϐ)=ϑ then
   (match Ztz n tb cs (l.map λb=>match b with | .cv c=>c.2|_=>[])with|some (cs',tb)=>(.cv (g,cs'),tb)|none=>(.dead,tb))else(.dead,tb)
 | _=>(.dead,tb)
def Z1bo(n:Nat)(s:St)(l:List St):Nat->Nat->List (List X)->List SV×List (List X)
 | _,0,tb=>([],tb)
 | j,k+1,tb =>
  let (a,tb):=Z1h3 n tb (s.slot j) (l.map λt=>t.slot j)
  let (as,tb):=Z1bo n s l (j+1) k tb
  (a::as,tb)
def Z1jn(v ty:Nat)(ks:List Kd):Option X:=hp.findSome? λe=>match e with | .row v' ty' ks' r=>if v' == v && ty' == ty && ks' == ks then ϓ r else ϕ|_=>ϕ
def Z1bp(n:Nat)(l:List St):List Ent->List (List X)->List Ent×List (List X)
 | [],tb=>([],tb)
 | e::es,tb =>
  let (o,tb):Option Ent×List (List X):=if(l.all λt=>t.hp.contains e)=ϑ then(ϓ e,tb)else
   match e with
   | .cells v ty cs =>
    let cs2:=l.filterMap λt=>t.hp.findSome? λe=>match e with | .cells v' ty' cs'=>if v' == v && ty' == ty && cs'.length == cs.length then ϓ cs' else ϕ|_=>ϕ
    if cs2.length == l.length then(match Ztz n tb cs cs2 with|some (cs',tb)=>(ϓ (.cells v ty cs'),tb)|none=>(ϕ,tb))else(ϕ,tb)
   | .row v ty ks r =>
    let rs:=l.filterMap λt=>Z1jn t.hp v ty ks
    if rs.length == l.length then(let (x,tb):=Z1h1 n tb r rs;(ϓ (.row v ty ks x),tb))else(ϕ,tb)
   | _=>(ϕ,tb)
  let (es,tb):=Z1bp n l es tb
  match o with|some e=>(e::es,tb)|none=>(es,tb)
def Z1jo(st:St):X->Option (Option (Bool×Nat×List Kd×X))
 | .nilS=>ϓ ϕ
 | .var u=>(st.hp.findSome? λe=>match e with
  | .row v ty ks r=>if v == u then ϓ (ϑ,ty,ks,r)else ϕ
  | .rd v ks r=>if v == u then ϓ (ϐ,0,ks,r)else ϕ
  | _=>ϕ).map ϓ
 | _=>ϕ
def Zwa(n:Nat)(l:List St):Nat->List (List X)->List (List X)->List Ent×List (List X)
 | _,[],tb=>([],tb)
 | i,xs::todo,tb =>
  let qs:=(xs.zip l).filterMap λp=>Z1jo p.2 p.1
  let (o,tb):Option Ent×List (List X):=if qs.length == l.length then(match qs.filterMap id with
   | []=>(ϕ,tb)
   | (w,ty,ks,r)::rest =>
    if(rest.all λq=>q.2.2.1 == ks)=ϑ then
     let rs:=qs.map λq=>match q with|some (_,_,_,r)=>r|none=>.nilR
     let (x,tb):=Z1h1 n tb (rs.headD r) rs.tail
     if((w,ty,ks,r)::rest).all (λq=>q.1 && q.2.1 == ty)=ϑ then(ϓ (.row (n+i) ty ks x),tb)else(ϓ (.rd (n+i) ks x),tb)
    else(ϕ,tb))else(ϕ,tb)
  let (es,tb):=Zwa n l (i+1) todo tb
  match o with|some e=>(e::es,tb)|none=>(es,tb)
def Z127(v:Nat):Sc->Bool | .val (.var u)=>u == v | .ptr u _=>u == v|_=>ϐ
def Z1dh(v:Nat)(fr:List SV)(hp:List Ent):Bool:=(fr.any λs=>match s with | .cv (_,cs)=>cs.any (Z127 v)|_=>ϐ) || hp.any λe=>match e with | .cells _ _ cs=>cs.any (Z127 v)|_=>ϐ
def Z1di(fr:List SV)(hp:List Ent):Ent->Bool
 | .cells v _ _ | .row v _ _ _ | .rd v _ _=>decide (v<n0) || Z1dh v fr hp
 | _=>ϑ
def Z185(tb:List (List X))(hp2:List Ent):Ent->Bool
 | .row v _ _ _=>!(hp2.any λe=>match e with | .row f _ _ _=>(tb.getD (f - n) []).any (λx=>match x with | .var u=>u == v|_=>ϐ)|_=>ϐ)
 | _=>ϑ
def Z1bq:List St->Option St
 | []=>ϕ
 | s::l =>
  let n:=l.foldl (λa t=>Nat.max a t.n) s.n
  let (fr,tb):=Z1bo n s l 0 s.fr.length []
  let (hp,tb):=Z1bp n l s.hp tb
  let (hp2,tb):=Zwa n (s::l) 0 tb tb
  let hp:=hp.filter (Z185 n tb hp2)
  ϓ { s with n:=n+tb.length,fr:=fr,hp:=(hp2++hp).filter (Z1di n0 fr (hp2++hp)) }
def genX(n:Nat)(x:X):X×Nat:=if x.bd n0=ϑ then(x,n)else match x with | .var f=>(.var f,n)|_=>(.var n,n+1)
def Z1jp(n:Nat):Sc->Sc×Nat
 | .int k x=>let (y,m):=genX n0 n x;(.int k y,m)
 | .bool x=>let (y,m):=genX n0 n x;(.bool y,m)
 | .str x=>let (y,m):=genX n0 n x;(.str y,m)
 | .val x=>let (y,m):=genX n0 n x;(.val y,m)
 | s=>(s,n)
def Z128(n0:Nat):Nat->List Sc->List Sc×Nat
 | n,[]=>([],n)
 | n,s::ss=>let (a,n1):=Z1jp n0 n s;let (b,n2):=Z128 n0 n1 ss;(a::b,n2)
def Zwb(n0:Nat):Nat->List SV->List SV×Nat
 | n,[]=>([],n)
 | n,s::ss =>
  let (a,n1):=match s with
   | .cv (g,cs)=>let (cs',n'):=Z128 n0 n cs;(SV.cv (g,cs'),n')
   | .fn f x y=>if SV.bd n0 (.fn f x y)=ϑ then(.fn f x y,n)else(.dead,n)
   | _=>(.dead,n)
  let (b,n2):=Zwb n0 n1 ss
  (a::b,n2)
def Z129(n0:Nat):Nat->List Ent->List Ent×Nat
 | n,[]=>([],n)
 | n,e::es =>
  let (a,n1):=match e with
   | .cells v ty cs=>let (cs',n'):=Z128 n0 n cs;(Ent.cells v ty cs',n')
   | .row v ty ks r=>let (r',n'):=genX n0 n r;(.row v ty ks r',n')
   | .rd v ks r=>let (r',n'):=genX n0 n r;(.rd v ks r',n')
   | e=>(e,n)
  let (b,n2):=Z129 n0 n1 es
  (a::b,n2)
def Z1dj(st:St):St :=
 let (fr,n1):=Zwb n0 st.n st.fr
 let (hp,n2):=Z129 n0 n1 st.hp
 { st with n:=n2,fr:=fr,hp:=hp }
def Z2q:Code->Option (Nat×Nat)
 | .region id ops _=>ϓ (id,ops.size)
 | .seq a b=>match Z2q a with|some r=>ϓ r|none=>Z2q b
 | .cond _ a b=>match Z2q a with|some r=>ϓ r|none=>Z2q b
 | .block _ c=>Z2q c
 | .loop c=>Z2q c
 | _=>ϕ
def Z186(js:List (Nat×Nat×Nat)):Code->Bool
 | .region id ops _=>js.contains (0,id,ops.size) || js.contains (9,id,ops.size)
 | .cond c a b=>match Z2q (.cond c a b)with|some (i,n)=>js.contains (1,i,n) || js.contains (5,i,n)|none=>ϐ
 | .block _ c=>match Z2q c with|some (i,n)=>js.contains (2,i,n) || js.contains (6,i,n)|none=>ϐ
 | _=>ϐ
def Z187(js:List (Nat×Nat×Nat)):Code->Bool
 | .region id ops _=>js.contains (9,id,ops.size)
 | .cond c a b=>match Z2q (.cond c a b)with|some (i,n)=>js.contains (5,i,n)|none=>ϐ
 | .block _ c=>match Z2q c with|some (i,n)=>js.contains (6,i,n)|none=>ϐ
 | _=>ϐ
def Zm8(js:List (Nat×Nat×Nat))(id:Nat)(ops:Array Oper):Bool:=js.contains (4,id,ops.size)
def Z1jq(E:Env)(inl:InlF)(st:St):Code->Option St
 | .region _ ops ϐ=>(Z1bq st.n (Z7s (Z17o E inl ops.toList ops.toList st .leaf))).map (Z1dj st.n)
 | .region id ops ϑ=>(Z3b (Zhv E inl (Zm8 E.joins id ops) ops.toList st .leaf)).map (Z1dj st.n)
 | c=>ϓ (Zqt E.T c st).1
def Z1dk(js:List (Nat×Nat×Nat))(c:Code):Bool:=match Z2q c with|some (i,n)=>js.contains (12,i,n)|none=>ϐ
def Zqz(st:St):St:={ st with n:=st.n+1,hp:=.st st.n::st.hp }
def Z1h4:List Nat:=hp.flatMap λe=>match e with | .row _ _ _ r=>Znx r|_=>[]
def Z12a(js:List (Nat×Nat×Nat))(st:St):St:=if(js.any λj=>j.1 == 13)=ϑ then { st with hp:=Zvw st.hp (Z1h4 st.hp) }else st
def Z1dl(ro:List Nat)(hp:List Ent):List Nat:=hp.flatMap λe=>match e with
 | .cells _ t cs=>cs.filterMap λs=>match s with
  | .val (.var u)=>if hp.any (λx=>match x with | .row v ty _ _=>v == u && ro.contains (1000000+t*1000+ty)|_=>ϐ)=ϑ then ϓ u else ϕ
  | _=>ϕ
 | _=>[]
def Ziw(E:Env)(c:Code)(st:St):St:=match Z2q c with
 | some (i,n)=>if E.joins.contains (14,i,n)=ϑ then { st with hp:=Zqu st.hp (Z1dl E.ro st.hp) }else if E.joins.contains (15,i,n)=ϑ then { st with hp:=Zqu st.hp (st.hp.filterMap λe=>match e with | .row v _ _ _=>ϓ v|_=>ϕ) }else st
 | none=>st
def Zo3(p:Bool)(st:St)(f:St->Tree):Tree:=if p=ϑ then .pack st.hp (f (Zqz st))else f st
def Zzb(E:Env)(inl:InlF)(c:Code)(st:St)(k:EX->St->Tree)(f:St->(EX->St->Tree)->Tree):Tree :=
  if Z186 E.joins c=ϑ then
    match (if Z187 E.joins c=ϑ then(Z1bq st.n (Z7s (f st λe st=>match e with | .normal=>.leaf st|_=>.stuck "no way"))).map (Z1dj st.n)else Z1jq E inl st c)with
    | none=>.stuck "a join's head"
    | some hd0=>let hd:=if Z1dk E.joins c=ϑ then Zqz hd0 else hd0
      .join (hd.n - st.n)
      (f { st with d:=st.d+1 } λe cur=>match e with
        | .normal=>Zo3 (Z1dk E.joins c) cur λcur=>if fits st.n (Z26 st.n hd cur) hd (Zqv st.n (Z26 st.n hd cur) hd cur)=ϑ then .jump st.d (Z26 st.n hd cur)else .stuck "a join"
        | e=>k e cur)
      (k .normal { hd with d:=st.d })
  else f st k
def Zwc(js:List (Nat×Nat×Nat))(c:Code)(e:Nat):Bool:=match Z2q c with|some (i,n)=>js.contains (8,i,n) || js.contains (17,i,e)|none=>ϐ
def Z4u(js:List (Nat×Nat×Nat))(c:Code):Bool:=match Z2q c with|some (i,n)=>js.contains (3,i,n)|none=>ϐ
def Zwd(p:Bool)(st:St):List Nat:=if p=ϑ then[st.n - 1]else[]
def Zzc(js:List (Nat×Nat×Nat))(c:Code):Bool:=match Z2q c with|some (i,n)=>js.contains (7,i,n)|none=>ϐ
def Z12b(js:List (Nat×Nat×Nat)):Bool:=js.any λj=>j.1 == 7
def Zo4(D:List Nat)(f:St->(EX->St->Tree)->Tree):Nat->St->(EX->St->Tree)->Tree
 | 0,_,_=>.stuck "Zw"
 | n+1,st,k=>f st λe cur=>match e with | .normal=>Zo4 D f n (Z1dg D cur) k|e=>k e cur
def ex(E:Env)(inl:InlF):Code->St->(EX->St->Tree)->Tree
 | .skip,st,k=>k .normal st
 | .seq a b,st,k=>ex E inl a st λe st=>match e with | .normal=>ex E inl b st k|e=>k e st
 | .cond c a b,st,k=>Zzb E inl (.cond c a b) st k λst k=>match st.rd (.B ϑ) c with
  | some (ϐ,[.bool (.B ϑ)])=>ex E inl a st k
  | some (ϐ,[.bool (.B ϐ)])=>ex E inl b st k
  | some (ϐ,[.bool x])=>match (if Z12b E.joins=ϑ then clB x else ϕ)with
   | some ϑ=>ex E inl a st k
   | some ϐ=>ex E inl b st k
   | none=>.ite x (ex E inl a st k) (ex E inl b st k)
  | _=>.stuck "a test"
 | .block id c,st,k=>Zzb E inl (.block id c) st k λst k=>ex E inl c st λe st=>match e with | .exit i=>if i=id then k .normal st else k (.exit i) st|e=>k e st
 | .exit id,st,k=>k (.exit id) st
 | .ret,st,k=>k .ret st
 | .region id ops ϐ,st,k=>Zzb E inl (.region id ops ϐ) st k λst k=>Z17o E inl ops.toList ops.toList st (k .normal)
 | .region id ops ϑ,st,k=>Zzb E inl (.region id ops ϑ) st k λst k=>Zhv E inl (Zm8 E.joins id ops) ops.toList st (k .normal)
 | .loop c,st,k =>
  if Zzc E.joins c=ϑ then Zo4 (Zw9 0 st.fr) (λst k=>ex E inl c st k) 40 st k
  else if peel E.T c st=ϑ then
   ex E inl c st λe st0=>match e with
    | .normal=>Zo3 (Z4u E.joins c) (Ziw E c (Zo2 c st st0)) λst =>
     let hd:=Zqt E.T c st (Zwd (Z4u E.joins c) st) (Zwc E.joins c)
     if fits st.n hd.2 hd.1 st=ϑ then
      .loop hd.2 (ex E inl c { hd.1 with d:=st.d+1 } λe cur=>match e with
       | .normal=>Zo3 (Z4u E.joins c) (Z12a E.joins cur) λcur=>if fits st.n (Z26 st.n hd.1 cur) hd.1 (Zqv st.n (Z26 st.n hd.1 cur) hd.1 cur)=ϑ then .back st.d (Z26 st.n hd.1 cur)else .stuck (Z124 st.n (Z26 st.n hd.1 cur) hd.1 cur)
       | e=>k e cur)
     else .stuck "a loops head"
    | e=>k e st0
  else
  Zo3 (Z4u E.joins c) (Ziw E c st) λst =>
  let hd:=Zqt E.T c st (Zwd (Z4u E.joins c) st) (Zwc E.joins c)
  if fits st.n hd.2 hd.1 st=ϑ then
   .loop hd.2 (ex E inl c { hd.1 with d:=st.d+1 } λe cur=>match e with
    | .normal=>Zo3 (Z4u E.joins c) (Z12a E.joins cur) λcur=>if fits st.n (Z26 st.n hd.1 cur) hd.1 (Zqv st.n (Z26 st.n hd.1 cur) hd.1 cur)=ϑ then .back st.d (Z26 st.n hd.1 cur)else .stuck (Z124 st.n (Z26 st.n hd.1 cur) hd.1 cur)
    | e=>k e cur)
  else .stuck "a loops head"
 | _,_,_=>.stuck "code"
