/- By an AI agent. -/
import Derived.Test.YtonpnhfekobmdaaGreatDoorB03
import Derived.Deep.RegionHeld3
import Derived.Still
set_option linter.all false
set_option maxHeartbeats 20000000
namespace Go.Sx
open Go
variable {C:Cx} {E:Env}
def Zb7(C:Cx)(inl:InlF):Prop:=∀{f:Nat} {args:List SV} {st:St} {k:SV->St->Tree} {t:Tree} {J:List V} {a:Act} {w:World} {L:List LC} {Q:Ending->World->Prop},
 inl f args st k=some t->Inv C st J a w->st.d=L.length ->
 (∀r st' J' L' a' w',L <+: L'->st'.d=L'.length->J <+: J'->(k r st').goal C J' L'->Inv C st' J' a' w'->r.isVal=true->Q (.returned (r.ev J')) w') ->
 t.goal C J L->Z9u C.P f=true/\Calls C.P f (args.map (SV.ev J)).toArray w Q
theorem SV.rel_val{J:List V}{s:SV}(h:s.isVal=true):s.rel J (s.ev J):=by cases s<;>simp[SV.isVal]at h<;>rfl
theorem Zh7(hE:EnvOK C.P E){inl:InlF}(hI:Zb7 C inl){st:St}{J:List V}{a:Act}{w:World}{L:List LC}{ops:List Oper}{o:Oper}{k:St->Tree}{K:Act->World->Prop}{Q:Exit->Act->World->Prop} (hi:Inv C st J a w) (hdL:st.d=L.length) (hk:∀st' J' L' a' w',L <+: L'->st'.d=L'.length->J <+: J'->(k st').goal C J' L'->Inv C st' J' a' w'->K a' w') (hg:(Zoc E inl ops o st k).goal C J L) : if Region.wanted o (yielded ops.toArray a.tmps)=true then o.wp C.P a w K Q else K (a.put o.dst undef) w:=by
 have hput:∀(st:St) (s:SV),(st.put o.dst s).d=st.d:=by intro st s;cases ho':o.dst<;>rfl
 have hk1:∀st' J' a' w',st'.d=st.d->J <+: J'->(k st').goal C J' L->Inv C st' J' a' w'->K a' w':=λst' J' a' w' hd=>hk st' J' L a' w' List.prefix_rfl (hd.trans hdL);unfold Zoc at hg;split at hg
 ·exact hg.elim
 ·rename_i G hgd;rw[Zcg hi hgd];have hGb:=Zoh hi hgd;split at hg
  ·rename_i hGf;subst hGf;simp only[X.ev,V.toB_b,Bool.false_eq_true,if_false];exact hk1 _ _ _ _ (by exact hput _ _) List.prefix_rfl hg (hi.put _ rfl)
  ·split at hg
   ·rename_i t hrow;split at hrow
    ·rename_i hGt;subst hGt;simp only[X.ev,V.toB_b,if_true];split at hrow
     ·rename_i h2;simp only[Option.some.injEq]at hrow;subst hrow;exact Zla hE hi hk1 h2 hg
     ·exact Zoo hE hi hk1 hrow hg
    ·cases hrow
   split at hg
   ·rename_i ns c hv;obtain⟨hn,hg⟩:=Z2z hg;by_cases hG:(G.ev J).toB=true
    ·rw[if_pos hG];unfold Oper.wp;rw[Zoi hE hi hG hv (hn hG)];simp only[Oper.upon];refine hk1 _ _ _ _ (by exact hput _ _) List.prefix_rfl hg (hi.put _ ?_);split
     ·rfl
     ·exact⟨λ_=>rfl,(λh=>by rw[hG]at h;cases h)⟩
    ·rw[if_neg hG];have hG':(G.ev J).toB=false:=by simpa using hG
     refine hk1 _ _ _ _ (by exact hput _ _) List.prefix_rfl hg (hi.put _ ?_);split
     ·rename_i h;subst h;simp[X.ev]at hG
     ·exact⟨(λh=>by rw[hG']at h;cases h),λ_=>rfl⟩
   ·split at hg
    ·rename_i c hop;split at hg
     ·rename_i f args hc;split at hg
      ·rename_i t hin;split at hin
       ·rename_i hGt;subst hGt;simp only[X.ev,V.toB_b,if_true];obtain⟨hf,hcalls⟩:=hI (Q:=λe w'=>∃v,e=.returned v/\K (a.put o.dst v) w') hin hi hdL (λr st' J' L' a' w' hL hd' hp hg' hi' hv=>⟨_,rfl,hk (St.put { st with n:=st'.n,d:=st'.d,hp:=st'.hp } o.dst r) J' L' _ w' hL ((hput _ _).trans hd') hp hg' ((hi.back hi' hp).put _ (SV.rel_val hv))⟩) hg;unfold Oper.wp;rw[Z5c hi rfl hop hc hf];simp only[Oper.upon];refine hcalls.mono ?_;rintro e w1 ⟨v,rfl,hK⟩;exact hK
       ·cases hin
      ·exact Zl4 hE hi hGb hop hc hk1 hg
     ·exact hg.elim
    ·split at hg
     ·rename_i h;subst h;simp only[X.ev,V.toB_b,if_true];exact Zok hE hi hk1 hg
     ·exact hg.elim
theorem Zfv{E:Env}{o:Oper}{st:St}{t:Nat}{x:X}{ks:List Kd}(h:Zl1 E o st=some (t,x,ks)):st.slot t=.cv (false,[.val x])/\x.bd st.n=true:=by
 unfold Zl1 at h;split at h
 ·split at h
  ·split at h
   ·split at h
    ·rename_i h1 _ _ _ h2;simp only[Option.some.injEq,Prod.mk.injEq]at h;obtain⟨rfl,rfl,rfl⟩:=h;exact⟨by assumption,h2.2⟩
    ·cases h
   ·cases h
  ·cases h
 ·cases h
theorem Z98(hE:EnvOK C.P E){inl:InlF}(hI:Zb7 C inl){st:St}{J:List V}{a:Act}{w:World}{L:List LC}{ops:List Oper}{o:Oper}{k:St->Tree}{K:Act->World->Prop}{Q:Exit->Act->World->Prop} (hi:Inv C st J a w) (hdL:st.d=L.length) (hk:∀st' J' L' a' w',L <+: L'->st'.d=L'.length->J <+: J'->(k st').goal C J' L'->Inv C st' J' a' w'->K a' w') (hg:(Zj1 E inl ops o st k).goal C J L) : if Region.wanted o (yielded ops.toArray a.tmps)=true then o.wp C.P a w K Q else K (a.put o.dst undef) w:=by
  unfold Zj1 at hg;split at hg
  . rename_i t x ks hx;split at hx
    . obtain⟨hs,hb⟩:=Zfv hx;simp only[Tree.goal]at hg;obtain⟨rows,h1,h2⟩:=hg;have hi1:=ext0 hi (n:=st.n+1) [x.ev J] (by simp) (by simp);obtain⟨hr1,hr2⟩:=h1 w hi1.rel;have hl1:(J++[x.ev J]).length=st.n+1:=by simp[hi.len]
      have e0:(J++[x.ev J]).getD st.n (.i 0)=x.ev J:=Zg hi.len _;have e1:(J++[x.ev J]++[V.r rows]).getD st.n (.i 0)=x.ev J:=by
        have:st.n<(J++[x.ev J]).length:=by omega
        rw[qy1,List.getElem?_append_left this,<- qy1,e0]
      have e2:(J++[x.ev J]++[V.r rows]).getD (st.n+1) (.i 0)=.r rows:=Zg (st:={ st with n:=st.n+1 }) hl1 (.r rows);rw[e0]at hr1 hr2;have hi2:=hi1.bindEnt hi1.rel hi1.bdh (.r rows) (.rd st.n ks (.var (st.n+1))) (by simp[Ent.bd,X.bd];omega)
        (by simp only[Ent.holds,e1,X.ev,e2,V.toR_r];exact hr1)
        (λhw=>Bool.noConfusion hw)
        (λe' he' hw k' hk1 hk2=>by simp only[Ent.fp,e1,X.ev,e2,V.toR_r]at hk1;have hw':e'.wr=true:=hw.resolve_left (λh=>Bool.noConfusion h);exact hr2 hk1.1 k' hk1.2 e' he' hw' hk2)
      have hv:a.tmps.getD t undef=sc1 (x.ev J).toV:=by have:=hi.fr t;rw[hs]at this;exact this
      have hi3:=hi2.over t (s:=Z6a st.n) (by rw[hv];simp only[SV.rel,Z6a,SV.ev,CV.ev,Sc.ev,X.ev,e1]);exact Zh7 hE hI hi3 (by exact hdL) (λst' J' L' a' w' hL hd hp=>hk st' J' L' a' w' hL hd (((List.prefix_append J _).trans (List.prefix_append _ _)).trans hp)) h2
    . cases hx
  . exact Zh7 hE hI hi hdL hk hg
theorem Zh8(hE:EnvOK C.P E){inl:InlF}(hI:Zb7 C inl){st:St}{J:List V}{a:Act}{w:World}{L:List LC}{ops:List Oper}{o:Oper}{k:St->Tree}{K:Act->World->Prop}{Q:Exit->Act->World->Prop} (hi:Inv C st J a w) (hdL:st.d=L.length) (hk:∀st' J' L' a' w',L <+: L'->st'.d=L'.length->J <+: J'->(k st').goal C J' L'->Inv C st' J' a' w'->K a' w') (hg:(Zod E inl ops o st k).goal C J L) : if Region.wanted o (yielded ops.toArray a.tmps)=true then o.wp C.P a w K Q else K (a.put o.dst undef) w:=by
 unfold Zod at hg;split at hg
 ·rename_i x hx;obtain⟨h1,h2⟩:=hg;cases hb:(x.ev J).toB with
  | true=>exact Z98 hE hI (hi.asm hb) ((St.asm_d _ _ _).trans hdL) hk (h1 ((X.P_iff J x).2 hb))
  | false=>exact Z98 hE hI (hi.asm hb) ((St.asm_d _ _ _).trans hdL) hk (h2 (λhp=>by rw[(X.P_iff J x).1 hp]at hb;cases hb))
 ·exact Z98 hE hI hi hdL hk hg
theorem Zh9(hE:EnvOK C.P E){inl:InlF}(hI:Zb7 C inl){st:St}{J:List V}{a:Act}{w:World}{L:List LC}{ops:List Oper}{o:Oper}{k:St->Tree}{K:Act->World->Prop}{Q:Exit->Act->World->Prop} (hi:Inv C st J a w) (hdL:st.d=L.length) (hk:∀st' J' L' a' w',L <+: L'->st'.d=L'.length->J <+: J'->(k st').goal C J' L'->Inv C st' J' a' w'->K a' w') (hg:(Zoe E inl ops o st k).goal C J L) : if Region.wanted o (yielded ops.toArray a.tmps)=true then o.wp C.P a w K Q else K (a.put o.dst undef) w:=by
 unfold Zoe at hg;split at hg
 ·rename_i x hx;obtain⟨h1,h2⟩:=hg;cases hb:(x.ev J).toB with
  | true=>exact Zh8 hE hI (hi.asm hb) ((St.asm_d _ _ _).trans hdL) hk (h1 ((X.P_iff J x).2 hb))
  | false=>exact Zh8 hE hI (hi.asm hb) ((St.asm_d _ _ _).trans hdL) hk (h2 (λhp=>by rw[(X.P_iff J x).1 hp]at hb;cases hb))
 ·exact Z98 hE hI hi hdL hk hg
theorem Z7q{J:List V}{a:Act}{w:World}:∀(vs:List Nat) {cur:St},Inv C cur J a w->Inv C { cur with hp:=Zh0 cur.hp vs } J a w
 | [],_,h=>h
 | v::vs,cur,h=>Z7q vs (cur:={ cur with hp:=Z52 cur.hp v }) ⟨h.len,h.size,h.fr,h.bdf,Zci h.bdh,h.defers,Zch h.rel⟩
theorem Zlb(hE:EnvOK C.P E){inl:InlF}(hI:Zb7 C inl){st:St}{J:List V}{a:Act}{w:World}{L:List LC}{ops:List Oper}{o:Oper}{k:St->Tree}{K:Act->World->Prop}{Q:Exit->Act->World->Prop} (hi:Inv C st J a w) (hdL:st.d=L.length) (hk:∀st' J' L' a' w',L <+: L'->st'.d=L'.length->J <+: J'->(k st').goal C J' L'->Inv C st' J' a' w'->K a' w') (hg:(exOp E inl ops o st k).goal C J L) : if Region.wanted o (yielded ops.toArray a.tmps)=true then o.wp C.P a w K Q else K (a.put o.dst undef) w:=by
 unfold exOp at hg;split at hg
 ·rename_i t e ks hn;have hn':∃ei,st.slot t=.cv (false,[.nils])/\E.T.get e=some ei/\ks=ei.ks:=by
   unfold Zqi at hn;split at hn
   ·split at hn
    ·split at hn
     ·rename_i h1 h2;simp only[Option.map_eq_some_iff,Prod.mk.injEq]at hn;obtain⟨ei,h3,rfl,rfl,rfl⟩:=hn;have h4:∀{x:Operand} {t:Nat},Zgz st x=true->some x=some (Operand.tmp t)->st.slot t=.cv (false,[.nils]):=λ{x t} h5 h6=>by
       cases h6;simp only[Zgz]at h5;split at h5
       ·assumption
       ·cases h5
      refine⟨ei,?_,h3,rfl⟩;split at h1
      ·exact h4 (by assumption) h1
      ·split at h1
       ·exact h4 (by assumption) h1
       ·cases h1
     ·cases hn
    ·cases hn
   ·cases hn
  obtain⟨ei,hs,hei,rfl⟩:=hn';have hi2:=hi.bindEnt hi.rel hi.bdh (.v (.slice none 0 0)) (.row st.n e ei.ks .nilR) (by simp[Ent.bd,X.bd])
   (by simp only[Ent.holds,Zg hi.len,V.toV_v,X.ev,V.toR_r];exact⟨by simp,World.ownsRow_nil _ _ _ _⟩)
   (λ_ k hk=>by simp only[Ent.fp,Zg hi.len,V.toV_v,Z3,Value.ownBlock]at hk;cases hk)
   (λ_ _ _ k hk _=>by simp only[Ent.fp,Zg hi.len,V.toV_v,Z3,Value.ownBlock]at hk;cases hk)
  have hv:a.tmps.getD t undef=.slice none 0 0:=by have:=hi.fr t;rw[hs]at this;exact this
  have hi3:=hi2.over t (s:=Z6a st.n) (by rw[hv];exact Z31 hi.len rfl);exact Zh9 hE hI hi3 (by exact hdL) (λst' J' L' a' w' hL hd hp=>hk st' J' L' a' w' hL hd ((List.prefix_append J _).trans hp)) hg
 ·exact Zh9 hE hI (Z7q _ hi) hdL hk hg
theorem Zop(hE:EnvOK C.P E){inl:InlF}(hI:Zb7 C inl){ops:List Oper}{Q:Exit->Act->World->Prop}:∀(rest:List Oper) {st:St} {J:List V} {L:List LC} {a:Act} {w:World} {k:St->Tree}, Inv C st J a w->st.d=L.length->(∀st' J' L' a' w',L <+: L'->st'.d=L'.length->J <+: J'->(k st').goal C J' L'->Inv C st' J' a' w'->Q .normal a' w')->(Zof E inl ops rest st k).goal C J L->wpList C.P ops.toArray Q rest a w:=by
 intro rest;induction rest with
 | nil=>intro st J L a w k hi hdL hk hg;exact hk _ _ _ _ _ List.prefix_rfl hdL List.prefix_rfl hg hi
 | cons o rest ih =>
  intro st J L a w k hi hdL hk hg;refine wpList_step λK hK=>?_;exact Zlb hE hI hi hdL (λst' J' L' a' w' hL hd hp hg' hi'=>hK _ _ (ih hi' hd (λst'' J'' L'' a'' w'' hL' hd' hp'=>hk _ _ _ _ _ (hL.trans hL') hd' (hp.trans hp')) hg')) hg
section any
variable {P:Program} {ops:Array Oper} {md:Region.Mode} {Q:Exit->Act->World->Prop} {S:World->Prop} {T:Array Bool->World->Prop}
def Z6v(P:Program)(md:Region.Mode)(ops:Array Oper)(Q:Exit->Act->World->Prop)(T:Array Bool->World->Prop):Nat->Array Bool->Act->World->Prop
 | 0,listed,a,w=>∀w1,Mod [] w w1->Region.ready md ops listed=[]/\Q .normal a w1
 | fuel+1,listed,a,w=>∀w1,Mod [] w w1 ->
  (Region.ready md ops listed=[]->Q .normal a w1) /\
  ∀i∈Region.ready md ops listed,wpOp P ops Q i (λa' w'=>T (listed.setIfInBounds i true) w'/\Z6v P md ops Q T fuel (listed.setIfInBounds i true) a' w') a w1
theorem Zbk:∀(fuel:Nat) (listed:Array Bool) (a:Act) (w:World),Z6v P md ops Q T fuel listed a w->wpAny P md ops Q fuel listed a w
 | 0,_,_,w,h=>h w (Mod.refl _ _)
 | fuel+1,_,_,w,h=>⟨(h w (Mod.refl _ _)).1,λi hi=>wpOp_mono (λa w h=>Zbk fuel _ a w h.2) ((h w (Mod.refl _ _)).2 i hi)⟩
theorem Z6v.more{fuel:Nat}{listed:Array Bool}{a:Act}{w w1:World}(h:Z6v P md ops Q T fuel listed a w)(hm:Mod [] w w1):Z6v P md ops Q T fuel listed a w1:=by
 cases fuel with
 | zero=>exact λw2 h2=>h w2 (hm.trans h2 (by simp))
 | succ fuel=>exact λw2 h2=>h w2 (hm.trans h2 (by simp))
def Z6w(md:Region.Mode)(ops:Array Oper)(listed:Array Bool):Prop :=
 ∀(j:Nat) (oj:Oper),ops[j]?=some oj->listed.getD j false=true->∀e∈oj.after,Region.binds md e=true->listed.getD e.on false=true
theorem Z6w.ready{listed:Array Bool}{j:Nat}(h:Z6w md ops listed)(hj:j∈Region.ready md ops listed):Z6w md ops (listed.setIfInBounds j true):=by
 intro k ok hk hl e he hb;refine getD_set_true ?_;by_cases hjk:j=k
 ·subst hjk;obtain⟨-,oj,hoj,hall⟩:=mem_ready.1 hj;rw[hoj]at hk;cases hk;exact hall e he hb
 ·rw[getD_set_ne false hjk]at hl;exact h k ok hk hl e he hb
def Z1f(P:Program)(ops:Array Oper)(S:World->Prop)(o:Oper)(v:Value)(a:Act):Prop :=
  (Region.wanted o (yielded ops a.tmps)=true/\∀w,S w->(execOp a.eval o).run P w=.ok (.value v) w \/
    ∃f args,(execOp a.eval o).run P w=.ok (.enter f args) w/\Calls P f args w λe w1=>e=.returned v/\Mod [] w w1)\/(Region.wanted o (yielded ops a.tmps)=false/\v=undef)
theorem Z1f.of_same{o:Oper}{v:Value}{a a':Act}(hy:Z1f P ops S o v a)(he:execOp a'.eval o=execOp a.eval o) (hw:Region.wanted o (yielded ops a'.tmps)=Region.wanted o (yielded ops a.tmps)):Z1f P ops S o v a':=by unfold Z1f at *;rw[he,hw];exact hy
theorem Z1f.wpOp{i:Nat}{o:Oper}{v:Value}{a:Act}{w:World}(hi:ops[i]?=some o)(hy:Z1f P ops S o v a)(hS:S w){K:Act->World->Prop}(h:∀w1,Mod [] w w1->K (a.put o.dst v) w1):wpOp P ops Q i K a w:=by
 unfold Go.wpOp;simp only[hi];rcases hy with⟨hw,hv⟩|⟨hw,rfl⟩
 ·simp only[hw,if_true];left;unfold Oper.wp;rcases hv w hS with h1|⟨f,args,h1,h2⟩
  ·rw[h1];exact h w (Mod.refl _ _)
  ·rw[h1];simp only[Oper.upon];refine h2.mono ?_;rintro e w1 ⟨rfl,hm⟩;exact h w1 hm
 ·simp only[hw,Bool.false_eq_true,if_false];exact h w (Mod.refl _ _)
theorem Zoq{j:Nat}{oi oj:Oper}{v:Value}(hj:ops[j]?=some oj)(hap:oi.apart ops oj=true)(hsi:∀cs b,oi.op≠.select cs b)(hsj:∀cs b,oj.op≠.select cs b) (hnp:∀c a w,¬Q (.panic c) a w) {K:Act->World->Prop} {a:Act} {w:World} (hy:Z1f P ops S oi v a) (h:wpOp P ops Q j K (a.put oi.dst v) w) : wpOp P ops Q j (λa' w'=>Z1f P ops S oi v a'/\K (a'.put oi.dst v) w') a w:=by
 obtain⟨h1,h2,h3⟩:=Oper.apart_spec hap;have keep:∀(a:Act),Z1f P ops S oi v a->∀u,Z1f P ops S oi v (a.put oj.dst u):=λa hy u =>
  hy.of_same (execOp_put oi hsi a oj.dst u h3) (wanted_put oi a oj.dst u h3)
 have keepd:∀(a:Act) (d:Deferred),Z1f P ops S oi v a->Z1f P ops S oi v { a with defers:=d::a.defers }:=λa d hy=>hy;unfold wpOp at *;simp only[hj]at *;rw[wanted_put oj a oi.dst v h1]at h;split
 ·rename_i hw;simp only[hw,if_true]at h;rcases h with h|⟨h,hl⟩
  ·left;unfold Oper.wp at *;rw[execOp_put oj hsj a oi.dst v h1]at h;generalize (execOp a.eval oj).run P w=r at *
   cases r with
   | ok n w' =>
    cases n<;>simp only[Oper.upon]at h⊢
    case value u=>exact⟨keep a hy u,by rw[<- Act.put_comm a v u h2];exact h⟩
    case skip=>exact⟨keep a hy _,by rw[<- Act.put_comm a v undef h2];exact h⟩
    case defer d =>
     refine⟨keep _ (keepd a d hy) _,?_⟩;rw[<- Act.put_comm _ v undef h2,<- Act.put_defers];exact h
    case enter f args =>
     refine h.mono λe w'' he=>?_;cases e with
     | returned u=>exact⟨keep a hy u,by rw[<- Act.put_comm a v u h2];exact he⟩
     | panicked c=>exact(hnp _ _ _ he).elim
     | outgrown=>exact he
    case row r args=>exact h.mono λu w'' he=>⟨keep a hy u,by rw[<- Act.put_comm a v u h2];exact he⟩
   | halt x w'=>cases x<;>simp only[Oper.upon]at h⊢;exact(hnp _ _ _ h).elim
  ·right;refine⟨?_,hl⟩;unfold Oper.asks at *;rw[execOp_put oj hsj a oi.dst v h1]at h;exact h
 ·rename_i hw;simp only[hw]at h;exact⟨keep a hy _,by rw[<- Act.put_comm a v undef h2];exact h⟩
theorem Z8p{i:Nat}{oi:Oper}{v:Value}(hi:ops[i]?=some oi)(hsel:∀(j:Nat) (o:Oper) cs b,ops[j]?=some o->o.op≠.select cs b)(hnp:∀c a w,¬Q (.panic c) a w) (hTi:∀listed w,T (listed.setIfInBounds i true) w↔T listed w) (hTm:∀listed w w1,T listed w->Mod [] w w1->T listed w1) (hTS:∀listed w,Z6w md ops listed->listed.getD i true=false->T listed w->S w) : ∀(fuel:Nat) (listed:Array Bool) (a:Act) (w:World),Z6w md ops listed -> (∀j oj,ops[j]?=some oj->j≠i->listed.getD j true=false->(∀e∈oj.after,Region.binds md e=true->e.on≠i)->oi.apart ops oj=true) -> i∈Region.ready md ops listed->Z1f P ops S oi v a->T listed w -> Z6v P md ops Q T fuel (listed.setIfInBounds i true) (a.put oi.dst v) w->Z6v P md ops Q T (fuel+1) listed a w:=by
 intro fuel;induction fuel with
 | zero =>
  intro listed a w hcl _ hr hy hT0 H w1 hm;have hT:=hTm _ _ _ hT0 hm;refine⟨λh=>(by rw[h]at hr;cases hr),λj hj=>?_⟩;by_cases hji:j=i
  ·subst hji;exact hy.wpOp hi (hTS _ _ hcl (mem_ready.1 hr).1 hT) λw2 hm2=>⟨(hTi _ _).2 (hTm _ _ _ hT hm2),H.more (hm.trans hm2 (by simp))⟩
  ·have:=ready_mono hj hji;rw[(H w1 hm).1]at this;cases this
 | succ fuel ih =>
  intro listed a w hcl hfree hr hy hT0 H w1 hm;have hT:=hTm _ _ _ hT0 hm;refine⟨λh=>(by rw[h]at hr;cases hr),λj hj=>?_⟩;by_cases hji:j=i
  ·subst hji;exact hy.wpOp hi (hTS _ _ hcl (mem_ready.1 hr).1 hT) λw2 hm2=>⟨(hTi _ _).2 (hTm _ _ _ hT hm2),H.more (hm.trans hm2 (by simp))⟩
  ·have h1:=(H w1 hm).2 j (ready_mono hj hji);obtain⟨hjun,oj,hoj,hall⟩:=mem_ready.1 hj;have hnot:∀e∈oj.after,Region.binds md e=true->e.on≠i:=λe he hb heq=>by
    have h1:=hall e he hb;have h0:=(mem_ready.1 hr).1;rw[heq]at h1;rcases Nat.lt_or_ge i listed.size with h' | h'
    ·simp[h']at h0 h1;rw[h0]at h1;cases h1
    ·simp[Array.getElem?_eq_none h']at h1
   have h2:=Zoq hoj (hfree j oj hoj hji hjun hnot) (λcs b=>hsel i oi cs b hi) (λcs b=>hsel j oj cs b hoj) hnp hy h1;have hfree':∀k ok,ops[k]?=some ok->k≠i->(listed.setIfInBounds j true).getD k true=false ->
     (∀e∈ok.after,Region.binds md e=true->e.on≠i)->oi.apart ops ok=true:=λk ok hk hki hun hno=>by
    refine hfree k ok hk hki ?_ hno;by_cases hjk:j=k
    ·subst hjk;exact hjun
    ·rw[getD_set_ne true hjk]at hun;exact hun
   have hr':i∈Region.ready md ops (listed.setIfInBounds j true):=ready_mono hr (Ne.symm hji);refine wpOp_mono (λa' w' h3=>?_) h2;have hT':T (listed.setIfInBounds j true) w':=by have:=h3.2.1;rw[Array.setIfInBounds_comm _ _ (Ne.symm hji)]at this;exact(hTi _ _).1 this
   refine⟨hT',ih (listed.setIfInBounds j true) a' w' (hcl.ready hj) hfree' hr' h3.1 hT' ?_⟩;rw[Array.setIfInBounds_comm _ _ hji];exact h3.2.2
end any
def Zrk(st:St):Op->Option SV
 | .move (.tmp t)=>match st.slot t with | .tup l=>some (.tup l)|_=>none
 | .extract (.tmp t) i=>match st.slot t with | .tup l=>(l[i]?).map SV.cv|_=>none
 | _=>none
def Zfw(E:Env)(ops:List Oper)(keep:List Ent)(st:St)(i:Nat):Option (Option Tmp×X×List X×SV):=do
 let o <- ops[i]?
 let G <- Z4h ops o st
 if G=.B false then some (o.dst,G,[],.tup [])else
  match (if G=.B true then Zrk st o.op else none)with
  | some s=>some (o.dst,G,[],s)
  | none=>do
   let (ns,c) <- Ziy E { st with hp:=keep } G o.op
   some (o.dst,G,ns,if G=.B true then .cv c else .gd G c)
def Zfx:List Tree->Tree
 | []=>.stuck "none"
 | [t]=>t
 | t::l=>.both t (Zfx l)
def Z6x(ops:Array Oper)(i:Nat):Nat->Nat->Bool
 | 0,_=>false
 | n+1,j=>match ops[j]? with
  | some o=>o.after.any λe=>Region.binds .any e && (e.on == i || Z6x ops i n e.on)
  | none=>false
def Zz(ops:List Oper)(keep soft:List Ent)(tch:List Nat)(i:Nat):List Ent :=
 if tch.all (Z6x ops.toArray i ops.length)=true then keep++soft else keep
def Z6y(E:Env)(ops:List Oper)(st:St)(i:Nat):Option (Option Tmp×X×Nat×List SV×SV×Nat):=do
 let o <- ops[i]?
 let G <- Z4h ops o st
 match o.op with
 | .call c=>do
  let (f,args) <- Z6t st G c
  let (res,n1,es) <- Zds E.T E.tups (E.ownF f) o.type st.n
  if(!(G == .B false) && E.fs.contains f && !(E.inl.any λp=>p.1 == f) && es.isEmpty && (Zfl (args.flatMap SV.ptrs)).isEmpty && (Zkq E f st.hp [] args).isEmpty && G.bd st.n)=true then some (o.dst,G,f,args,res,n1)else none
 | _=>none
def Zbl(G:X):SV->SV
 | .cv c=>if G=.B true then .cv c else .gd G c
 | r=>if G=.B true then r else .dead
def Z9w(E:Env)(inl:InlF)(ops:List Oper)(cl:Bool)(keep soft:List Ent)(tch:List Nat):Nat->Array Bool->St->(St->Tree)->Tree
 | 0,listed,st,k=>if Region.ready .any ops.toArray listed=[]then k st else .stuck "an open order fuel"
 | fuel+1,listed,st,k =>
  match Region.ready .any ops.toArray listed with
  | []=>k st
  | rs=>match rs.find? λi=>!tch.contains i && ((Zfw E ops (Zz ops keep soft tch i) st i).isSome && Region.free .any ops.toArray listed i)with
   | some i=>match Zfw E ops (Zz ops keep soft tch i) st i with
    | some (d,G,ns,s)=>Z63 G ns (Z9w E inl ops cl keep soft tch fuel (listed.setIfInBounds i true) (st.put d s) k)
    | none=>.stuck "an open order"
   | none=>match (if(cl && decide (1<rs.length))=true then rs.find? λi=>!tch.contains i && ((Z6y E ops st i).isSome && Region.free .any ops.toArray listed i)else none)with
    | some i=>match Z6y E ops st i with
     | some (d,G,f,args,res,n1)=>.callP G f args (forMem (args.any SV.mem) (Zz ops keep soft tch i)) res (n1 - st.n)
       (Z9w E inl ops cl keep soft tch fuel (listed.setIfInBounds i true) (St.put { st with n:=n1 } d (Zbl G res)) k)
     | none=>.stuck "an open order"
    | none=>Zfx (rs.map λi=>match ops[i]? with
     | some o=>exOp E inl ops o st λst'=>if(keep.all (λe=>st'.hp.contains e) && (tch.any (λt=>t == i || listed.getD t false) || soft.all (λe=>st'.hp.contains e)))=true then Z9w E inl ops cl keep soft tch fuel (listed.setIfInBounds i true) st' k else .stuck "an open order what is kept"
     | none=>.stuck "an open order")
def Zor(ops:List Oper):List Nat:=ops.filterMap λo=>match o.op with | .load ..=>o.dst|_=>none
def Zrl(ops:List Oper)(st:St):List Nat :=
 ((Z43 ops []).filterMap λt=>match st.slot t with | .cv (false,[.ptr v _])=>some v|_=>none) ++
  (if(Z43 ops []).any (λt=>(Zor ops).contains t)=true then st.hp.filterMap fun | .cells _ _ [.ptr ..]=>none | .cells v _ _=>some v|_=>none else[])
def Z99(E:Env)(ops:List Oper)(st:St):List Nat :=
 if(E.joins.any λj=>j.1 == 10 && j.2.2 == ops.length)=true then((Z43 ops []).filterMap λt=>match st.slot t with | .cv (false,[.ptr v _])=>some v|_=>none)else Zrl ops st
def Zos(ops:List Oper):List Nat:=(List.range ops.length).filter λi=>match ops[i]? with
 | some o=>match o.op with
  | .store .. | .slice ..=>true
  | .call c=>match c.callee with
   | .builtin b=>match b with | .append | .clear | .copy=>true|_=>false
   | _=>true
  | _=>false
 | none=>false
def Zj7(E:Env)(st:St)(o:Oper):Bool:=match o.op with
 | .call c=>match c.callee with
  | .value (.func f)=>E.fs.contains f && !(E.inl.any λp=>p.1 == f) && !(E.take.contains f) && (match Zds E.T E.tups (E.ownF f) o.type st.n with|some (_,_,es)=>es.isEmpty|none=>false) &&
    c.args.toList.all λx=>match x with | .tmp t=>(SV.ptrs (st.slot t)).isEmpty|_=>true
  | _=>false
 | _=>false
def Ztc(E:Env)(ops:List Oper)(i:Nat):Bool:=(E.joins.any λj=>j.1 == 16) && match ops[i]? with
 | some o=>(match o.op with | .slice t ..=>(match E.T.tag t with|some (.slice _)=>false|some _=>true|none=>false)|_=>false)
 | none=>false
def Z9a(E:Env)(inl:InlF)(cl:Bool)(ops:List Oper)(st:St)(k:St->Tree):Tree :=
 let M:=Z99 E ops st
 let keep:=st.hp.filter fun | .cells v _ _=>!(M.contains v) | .row ..=>false|_=>true
 let soft:=st.hp.filter fun | .cells v _ _=>M.contains v | .row ..=>true|_=>false
 let tch:=if soft.isEmpty=true then[]else(Zos ops).filter λi=>!(cl && (match ops[i]? with|some o=>Zj7 E st o|none=>false)) && !(Ztc E ops i)
 if Region.noSelect ops.toArray=true then Z9w E inl ops cl keep soft tch ops.length (Array.replicate ops.length false) st k else .stuck "a select"
section
variable {C:Cx} {E:Env}
theorem Zbm{J:List V}{L:List LC}:∀{l:List Tree},(Zfx l).goal C J L->∀t∈l,t.goal C J L
 | [],h=>h.elim
 | [t],h=>by intro u hu;simp at hu;subst hu;exact h
 | t::u::l,h=>by
  intro x hx;obtain⟨h1,h2⟩:=h;rcases List.mem_cons.1 hx with rfl|hx
  ·exact h1
  ·exact Zbm h2 x hx
theorem Z9x{ops:Array Oper}{i:Nat}{listed:Array Bool}(hc:Z6w .any ops listed):∀(n j:Nat),Z6x ops i n j=true->listed.getD j false=true->listed.getD i false=true
 | 0,_,h,_=>by cases h
 | n+1,j,h,hl=>by
  simp only[Z6x]at h;split at h
  ·rename_i o ho;have h:∃(k:Nat) (hk:k<o.after.size),Region.binds .any o.after[k]=true/\(o.after[k].on=i\/Z6x ops i n o.after[k].on=true):=by simpa using h
   obtain⟨k,hk,h1,h2⟩:=h;have h3:=hc j o ho hl _ (Array.getElem_mem hk) h1;rcases h2 with h4|h4
   ·rw[<- h4];exact h3
   ·exact Z9x hc n _ h4 h3
  ·cases h
def Z53(J0:List V)(keep soft:List Ent)(tch:List Nat)(listed:Array Bool)(w:World):Prop :=
 Hold J0 keep w/\((∀t∈tch,listed.getD t false=false)->Hold J0 soft w)
theorem Z53.iff{J0:List V}{keep soft:List Ent}{tch:List Nat}{i:Nat}(hi:¬i∈tch)(listed:Array Bool)(w:World):Z53 J0 keep soft tch (listed.setIfInBounds i true) w↔Z53 J0 keep soft tch listed w:=by have e:∀t∈tch,(listed.setIfInBounds i true).getD t false=listed.getD t false:=λt ht=>getD_set_ne false (λh=>hi (h▸ht));exact⟨λh=>⟨h.1,λh2=>h.2 λt ht=>by rw[e t ht];exact h2 t ht⟩,λh=>⟨h.1,λh2=>h.2 λt ht=>by rw[<- e t ht];exact h2 t ht⟩⟩
theorem Z53.still{J0:List V}{ops:List Oper}{keep soft:List Ent}{tch:List Nat}{i:Nat}{listed:Array Bool}{w:World}(hc:Z6w .any ops.toArray listed)(hu:listed.getD i true=false)(h:Z53 J0 keep soft tch listed w):Hold J0 (Zz ops keep soft tch i) w:=by
 unfold Zz;split
 ·rename_i hall;have hu':listed.getD i false=false:=by
   rcases Nat.lt_or_ge i listed.size with h' | h'
   ·simp[h']at hu⊢;exact hu
   ·simp[Array.getElem?_eq_none h']at hu
  have h2:=h.2 λt ht=>by
   cases hl:listed.getD t false with
   | false=>rfl
   | true =>
    have:=Z9x hc _ _ (List.all_eq_true.1 hall t ht) hl;rw[hu']at this;cases this
  intro e he;rcases qy13.1 he with he|he
  ·exact h.1 e he
  ·exact h2 e he
 ·exact h.1
theorem Zot{st:St}{J:List V}{a:Act}{w0:World}(hi:Inv C st J a w0){o:Oper}{s:SV}(h:Zrk st o.op=some s):∃v,(∀w,(execOp a.eval o).run C.P w=.ok (.value v) w)/\s.rel J v:=by
 unfold Zrk at h;split at h
 ·rename_i t hop;have hrel:=hi.fr t;split at h
  ·rename_i l hs;simp only[Option.some.injEq]at h;subst h;rw[hs]at hrel;exact⟨a.eval (.tmp t),λw=>by unfold execOp;simp only[hop,Sem.run_pure],hrel⟩
  ·cases h
 ·rename_i t i hop;have hrel:=hi.fr t;split at h
  ·rename_i l hs;simp only[Option.map_eq_some_iff]at h;obtain⟨c,hc,rfl⟩:=h;rw[hs]at hrel;have hrel:a.eval (.tmp t)=.tuple (l.map (CV.ev J)).toArray:=hrel;refine⟨CV.ev J c,λw=>?_,rfl⟩;unfold execOp;simp only[hop,hrel,Instr.extract,List.getElem?_toArray,List.getElem?_map,hc,Option.map_some];simp only[go_sem,Sem.run_bind,Sem.run_pure,Result.andThen_ok]
  ·cases h
 ·cases h
theorem Zha(st:St)(h:List Ent)(G:X):∀l:List Operand,Z9t { st with hp:=h } G l=Z9t st G l
 | []=>rfl
 | x::l=>by simp only[Z9t,Zha st h G l];rfl
theorem Zlc(st:St)(h:List Ent)(G:X)(c:Call):Z6t { st with hp:=h } G c=Z6t st G c:=by unfold Z6t;simp only[Zha st h G];rfl
theorem Hold.more{J0:List V}{l:List Ent}{w w1:World}(h:Hold J0 l w)(hm:Mod [] w w1):Hold J0 l w1:=λe he =>
 Ent.stable (h e he) λk hk=>hm.block k (Ent.bound (h e he) hk) (by simp)
theorem Zck(ops:List Oper)(keep soft:List Ent)(tch:List Nat)(i:Nat):(Zz ops keep soft tch i).Sublist (keep++soft):=by
 unfold Zz;split
 ·exact List.Sublist.refl _
 ·exact List.sublist_append_left _ _
theorem Zld(hE:EnvOK C.P E){inl:InlF}(hI:Zb7 C inl){ops:List Oper}{cl:Bool}{keep soft:List Ent}{tch:List Nat}{J0:List V}{Q:Exit->Act->World->Prop}(hkb:keep.all (Ent.bd J0.length)=true)(hsb:soft.all (Ent.bd J0.length)=true) (hown:∀e∈keep++soft,e.wr=true->∀k,e.fp J0 k->C.B.w0.heap.size<=k\/k∈C.B.fp) (hsep:Zv J0 (keep++soft)) (hsel:Region.noSelect ops.toArray=true) (hnp:∀c a w,¬Q (.panic c) a w):∀(fuel:Nat) (listed:Array Bool) {st:St} {J:List V} {L:List LC} {a:Act} {w:World} {k:St->Tree},Z6w .any ops.toArray listed->Inv C st J a w->st.d=L.length->J0 <+: J->Z53 J0 keep soft tch listed w -> (∀st' J' L' a' w',L <+: L'->st'.d=L'.length->J <+: J'->(k st').goal C J' L'->Inv C st' J' a' w'->Q .normal a' w')->(Z9w E inl ops cl keep soft tch fuel listed st k).goal C J L -> Z6v C.P .any ops.toArray Q (λl w=>Z53 J0 keep soft tch l w/\Mod C.B.fp C.B.w0 w) fuel listed a w:=by
 have hputd:∀(st:St) (d:Option Tmp) (s:SV),(st.put d s).d=st.d:=by intro st d s;cases d<;>rfl
 have hagk:∀l:List Ent,l.all (Ent.bd J0.length)=true->∀J,J0 <+: J->∀w,Hold J0 l w↔Hold J l w:=by rintro l hlb J ⟨t,rfl⟩ w;have hb:=List.all_eq_true.1 hlb;exact⟨λh e he=>(Ent.holds_bd (Z11.app J0 t) e (hb e he) w).1 (h e he),λh e he=>(Ent.holds_bd (Z11.app J0 t) e (hb e he) w).2 (h e he)⟩
 have hstb:∀i,(Zz ops keep soft tch i).all (Ent.bd J0.length)=true:=by
  intro i;unfold Zz;split
  ·rw[List.all_append,hkb,hsb];rfl
  ·exact hkb
 have hsm:∀{l:Array Bool} {w w1:World},Z53 J0 keep soft tch l w->Mod [] w w1->Z53 J0 keep soft tch l w1:=λh hm=>⟨h.1.more hm,λh2=>(h.2 h2).more hm⟩
 have hTm:∀(l:Array Bool) (w w1:World),(Z53 J0 keep soft tch l w/\Mod C.B.fp C.B.w0 w)->Mod [] w w1->Z53 J0 keep soft tch l w1/\Mod C.B.fp C.B.w0 w1:=λl w w1 h hm=>⟨hsm h.1 hm,h.2.trans hm (by simp)⟩
 have hrel0:∀(i:Nat) (J:List V) (w:World),J0 <+: J->Hold J0 (Zz ops keep soft tch i) w->Mod C.B.fp C.B.w0 w->Rel C.B J (Zz ops keep soft tch i) w:=by rintro i J w ⟨t,rfl⟩ hh hm;have hs:=Zck ops keep soft tch i;exact Rel.ext (J:=J0) ⟨hm,hh,λe he=>hown e (hs.subset he),hsep.sublist hs⟩ (Z11.app J0 t) (hstb i)
 intro fuel;induction fuel with
 | zero =>
  intro listed st J L a w k hcl hi0 hdL hp hS hk hg w1 hm;have hi:=hi0.world (hi0.rel.step hm (by simp) (by simp));simp only[Z9w]at hg;split at hg
  ·rename_i hr;exact⟨hr,hk _ _ _ _ _ List.prefix_rfl hdL List.prefix_rfl hg hi⟩
  ·exact hg.elim
 | succ fuel ih =>
  intro listed st J L a w k hcl hi hdL hp hS hk hg;simp only[Z9w]at hg;split at hg
  ·rename_i hr;intro w1 hm;have hi:=hi.world (hi.rel.step hm (by simp) (by simp));exact⟨λ_=>hk _ _ _ _ _ List.prefix_rfl hdL List.prefix_rfl hg hi,λi hi'=>by rw[hr]at hi';cases hi'⟩
  ·rename_i rs hne;split at hg
   ·rename_i i hfind;have hmem:=List.mem_of_find?_eq_some hfind;have hprop:=List.find?_some hfind;simp only[Bool.and_eq_true,Bool.not_eq_true']at hprop;have hnt:¬i∈tch:=λh=>by
     have:=hprop.1;rw[List.contains_iff_mem.2 h]at this;cases this
    split at hg
    ·rename_i d G ns s hl;obtain⟨hn,hg⟩:=Z2z hg;unfold Zfw at hl;simp only[Option.bind_eq_bind,Option.bind_eq_some_iff]at hl;obtain⟨o,ho,G',hgd,hl⟩:=hl;have hoa:ops.toArray[i]?=some o:=by simpa using ho
     have hwant:=Zcg hi hgd;have hcase:(∃v,Z1f C.P ops.toArray (Hold J0 (Zz ops keep soft tch i)) o v a/\s.rel J v)/\d=o.dst:=by
      split at hl
      ·rename_i hGf;simp only[Option.some.injEq,Prod.mk.injEq]at hl;obtain⟨rfl,rfl,rfl,rfl⟩:=hl;subst hGf;exact⟨⟨undef,.inr ⟨by rw[hwant];rfl,rfl⟩,rfl⟩,rfl⟩
      ·split at hl
       ·rename_i s' hs';simp only[Option.some.injEq,Prod.mk.injEq]at hl;obtain⟨rfl,rfl,rfl,rfl⟩:=hl;split at hs'
        ·rename_i hGt;subst hGt;obtain⟨v,hv1,hv2⟩:=Zot hi hs';exact⟨⟨v,.inl ⟨by rw[hwant];rfl,λw' _=>.inl (hv1 w')⟩,hv2⟩,rfl⟩
        ·cases hs'
       simp only[Option.bind_eq_some_iff,Option.some.injEq,Prod.mk.injEq]at hl;obtain⟨⟨ns',c⟩,hv,rfl,rfl,rfl,rfl⟩:=hl;refine⟨?_,rfl⟩;cases hG:(G'.ev J).toB with
       | true =>
        refine⟨CV.ev J c,.inl ⟨by rw[hwant,hG],λw' hS'=>.inl (Zh2 hE hi ((hagk _ (hstb i) J hp w').1 hS') hG hv (hn hG))⟩,?_⟩;split
        ·rfl
        ·exact⟨λ_=>rfl,(λh=>by rw[hG]at h;cases h)⟩
       | false =>
        refine⟨undef,.inr ⟨by rw[hwant,hG],rfl⟩,?_⟩;split
        ·rename_i h;subst h;simp[X.ev]at hG
        ·exact⟨(λh=>by rw[hG]at h;cases h),λ_=>rfl⟩
     obtain⟨⟨v,hy,hrel⟩,rfl⟩:=hcase;refine Z8p hoa (Region.noSelect_spec hsel) hnp (λl w=>by rw[Z53.iff hnt l w]) hTm (λl w h1 h2 h3=>h3.1.still h1 h2) fuel listed a w hcl (Region.free_spec hoa hprop.2.2) hmem hy ⟨hS,hi.rel.mod⟩ ?_;exact ih _ (hcl.ready hmem) (hi.put _ hrel) ((hputd _ _ _).trans hdL) hp ((Z53.iff hnt listed w).2 hS) hk hg
    ·exact hg.elim
   ·split at hg
    ·rename_i i hfind;have hfind:(Region.ready .any ops.toArray listed).find? (λi=>!tch.contains i && ((Z6y E ops st i).isSome && Region.free .any ops.toArray listed i))=some i:=by
      split at hfind
      ·exact hfind
      ·cases hfind
     have hmem:=List.mem_of_find?_eq_some hfind;have hprop:=List.find?_some hfind;simp only[Bool.and_eq_true,Bool.not_eq_true']at hprop;have hnt:¬i∈tch:=λh=>by have:=hprop.1;rw[List.contains_iff_mem.2 h]at this;cases this
     split at hg
     ·rename_i d G f args res n1 hl;obtain⟨vs,hvl,hcall,hg⟩:=hg;unfold Z6y at hl;simp only[Option.bind_eq_bind,Option.bind_eq_some_iff]at hl;obtain⟨o,ho,G',hgd,hl⟩:=hl;have hoa:ops.toArray[i]?=some o:=by simpa using ho
      split at hl
      ·rename_i c hop;simp only[Option.bind_eq_some_iff]at hl;obtain⟨⟨f',args'⟩,hc,⟨res',n1',es⟩,hres,hl⟩:=hl;simp only[Option.ite_none_right_eq_some,Option.some.injEq,Prod.mk.injEq,Bool.and_eq_true,Bool.not_eq_true']at hl;obtain⟨⟨⟨⟨⟨⟨⟨hGf,hfs⟩,hinl⟩,hes⟩,hpt⟩,hgo⟩,hGb⟩,rfl,rfl,rfl,rfl,rfl,rfl⟩:=hl;obtain⟨hle,-⟩:=Zh3 hres;have hf:Z9u C.P f'=true:=hE.fs f' (by simpa using hfs);have hwant:=Zcg hi hgd;have hi1:=ext0 hi (n:=n1') vs hvl hle;have hGe:G'.ev (J++vs)=G'.ev J:=(X.ev_bd (by rw[<- hi.len];exact Z11.app J vs) G' hGb).symm;have hcase:∃v,Z1f C.P ops.toArray (λw=>Hold J0 (Zz ops keep soft tch i) w/\Mod C.B.fp C.B.w0 w) o v a/\(Zbl G' res').rel (J++vs) v:=by
        cases hG:(G'.ev J).toB with
        | true =>
         refine⟨res'.ev (J++vs),.inl ⟨by rw[hwant,hG],λw' hS'=>.inr ⟨f',(args'.map (SV.ev J)).toArray,?_,?_⟩⟩,?_⟩
         ·have hbst:(Zz ops keep soft tch i).all (Ent.bd st.n)=true:=List.all_eq_true.2 λe he=>Ent.bd_mono (by rw[<- hi.len];exact hp.length_le) e (List.all_eq_true.1 (hstb i) e he);have hi':Inv C { st with hp:=Zz ops keep soft tch i } J a w':=hi.heap hbst (hrel0 i J w' hp hS'.1 hS'.2);exact Z5c (st:={ st with hp:=Zz ops keep soft tch i }) hi' hG hop (by rw[Zlc];exact hc) hf
         ·exact hcall ((X.P_iff J G').2 hG) w' ((hrel0 i J w' hp hS'.1 hS'.2).forMem _)
         ·rcases Z30 hres with⟨x,rfl⟩|⟨x,rfl⟩
          ·simp only[Zbl];split
           ·rfl
           ·exact⟨λ_=>rfl,λh=>by rw[hGe,hG]at h;cases h⟩
          ·simp only[Zbl];split
           ·rfl
           ·trivial
        | false =>
         have hGn:¬G'=.B true:=by rintro rfl;simp[X.ev]at hG
         refine⟨undef,.inr ⟨by rw[hwant,hG],rfl⟩,?_⟩;rcases Z30 hres with⟨x,rfl⟩|⟨x,rfl⟩
         ·simp only[Zbl,if_neg hGn];exact⟨(λh=>by rw[hGe,hG]at h;cases h),λ_=>rfl⟩
         ·simp only[Zbl,if_neg hGn];trivial
       obtain⟨v,hy,hrel⟩:=hcase;refine Z8p hoa (Region.noSelect_spec hsel) hnp (λl w=>by rw[Z53.iff hnt l w]) hTm (λl w h1 h2 h3=>⟨h3.1.still h1 h2,h3.2⟩) fuel listed a w hcl (Region.free_spec hoa hprop.2.2) hmem hy ⟨hS,hi.rel.mod⟩ ?_;exact ih _ (hcl.ready hmem) (hi1.put _ hrel) ((hputd _ _ _).trans hdL) (hp.trans (List.prefix_append J vs)) ((Z53.iff hnt listed w).2 hS)
        (λst'' J'' L'' a'' w'' hL' hd' hp''=>hk _ _ _ _ _ hL' hd' ((List.prefix_append J vs).trans hp'')) hg
      ·cases hl
     ·exact hg.elim
    ·have hall:=Zbm hg;intro w1 hm1;have hi:=hi.world (hi.rel.step hm1 (by simp) (by simp));have hS:=hsm hS hm1;refine⟨λh=>(hne h).elim,λj hj=>?_⟩;have hg:=hall _ (List.mem_map_of_mem hj);split at hg
     ·rename_i o ho;have hoa:ops.toArray[j]?=some o:=by simpa using ho
      have:=Zlb (ops:=ops) (K:=λa' w'=>(Z53 J0 keep soft tch (listed.setIfInBounds j true) w'/\Mod C.B.fp C.B.w0 w')/\Z6v C.P .any ops.toArray Q (λl w=>Z53 J0 keep soft tch l w/\Mod C.B.fp C.B.w0 w) fuel (listed.setIfInBounds j true) a' w') (Q:=Q) hE hI hi hdL (λst' J' L' a' w' hL hd hp' hg' hi'=>by
       split at hg'
       ·rename_i hkeep;simp only[Bool.and_eq_true,Bool.or_eq_true]at hkeep;have hS':Z53 J0 keep soft tch (listed.setIfInBounds j true) w':=by
         refine⟨(hagk _ hkb J' (hp.trans hp') w').2 λe he=>hi'.rel.holds e (by simpa using List.all_eq_true.1 hkeep.1 e he),λhun=>?_⟩;rcases hkeep.2 with h|h
         ·obtain⟨t,ht,h⟩:=List.any_eq_true.1 h;have hun:=hun t ht;simp only[Bool.or_eq_true,beq_iff_eq]at h;rcases h with rfl|h
          ·have hlt:t<listed.size:=by
            have h0:=(mem_ready.1 hj).1;rcases Nat.lt_or_ge t listed.size with h' | h'
            ·exact h'
            ·simp[Array.getElem?_eq_none h']at h0
           simp[hlt]at hun
          ·rw[getD_set_true h]at hun;cases hun
         ·exact(hagk _ hsb J' (hp.trans hp') w').2 λe he=>hi'.rel.holds e (by simpa using List.all_eq_true.1 h e he)
        exact⟨⟨hS',hi'.rel.mod⟩,ih _ (hcl.ready hj) hi' hd (hp.trans hp') hS' (λst'' J'' L'' a'' w'' hL' hd' hp''=>hk _ _ _ _ _ (hL.trans hL') hd' (hp'.trans hp'')) hg'⟩
       ·exact hg'.elim) hg
      unfold wpOp;simp only[hoa];split
      ·rename_i hw;rw[if_pos hw]at this;exact .inl this
      ·rename_i hw;rw[if_neg hw]at this;exact this
     ·exact hg.elim
theorem Zfy(hE:EnvOK C.P E){inl:InlF}(hI:Zb7 C inl){cl:Bool}{L:List LC}{id:Nat}{ops:Array Oper}{Q:Exit->Act->World->Prop}{st:St}{J:List V}{a:Act}{w:World}{k:St->Tree}(hi:Inv C st J a w)(hdL:st.d=L.length) (hk:∀st' J' L' a' w',L <+: L'->st'.d=L'.length->J <+: J'->(k st').goal C J' L'->Inv C st' J' a' w'->Q .normal a' w') (hg:(Z9a E inl cl ops.toList st k).goal C J L):(Code.region id ops true).wp C.P Q a w:=by
 unfold Z9a at hg;simp only[]at hg;split at hg
 ·rename_i hsel;refine wp_region_noPanic (wp_region_any hE.mixed ?_);have hi':Inv C st J a w.drew:=hi.world hi.rel.drew;have hcl:Z6w .any ops (Array.replicate ops.toList.length false):=λj oj hj hl=>by
   exfalso;rcases Nat.lt_or_ge j ops.size with h' | h'
   ·simp[h']at hl
   ·simp[Array.getElem?_eq_none h']at hj
  have hall:=List.all_eq_true.1 hi.bdh;have hperm:((st.hp.filter fun | .cells v _ _=>!((Z99 E ops.toList st).contains v) | .row ..=>false|_=>true)++(st.hp.filter fun | .cells v _ _=>(Z99 E ops.toList st).contains v | .row ..=>true|_=>false)).Perm st.hp:=by have:=List.filter_append_perm (λe:Ent=>match e with | .cells v _ _=>!((Z99 E ops.toList st).contains v) | .row ..=>false|_=>true) st.hp;refine List.Perm.trans (List.Perm.append_left _ ?_) this;refine List.Perm.of_eq (List.filter_congr λe _=>?_);cases e<;>simp
  have hrel:=hi'.rel.perm hperm.symm;have:=Zld (Q:=NoPanic Q) (J0:=J) hE hI ?_ ?_ hrel.own hrel.sep hsel (λc a w h=>h) ops.toList.length (Array.replicate ops.toList.length false) (by simpa using hcl) hi' hdL List.prefix_rfl ?_ (λst' J' L' a' w' hL hd hp hg' hi''=>NoPanic.normal (hk st' J' L' a' w' hL hd hp hg' hi'')) hg
  ·exact Zbk _ _ _ _ (by simpa using this)
  ·refine List.all_eq_true.2 λe he=>?_;rw[hi.len];exact hall e (List.mem_filter.1 he).1
  ·refine List.all_eq_true.2 λe he=>?_;rw[hi.len];exact hall e (List.mem_filter.1 he).1
  ·exact⟨λe he=>hi'.rel.holds e (List.mem_filter.1 he).1,λ_ e he=>hi'.rel.holds e (List.mem_filter.1 he).1⟩
 ·exact hg.elim
end
end Go.Sx
namespace Go.Sx
open Go
variable {C:Cx} {E:Env}
inductive EX|normal|exit (id:Nat)|ret
 deriving DecidableEq,Repr,Inhabited
def EX.to:EX->Exit | .normal=>.normal | .exit id=>.exit id | .ret=>.ret
def Z6z:Code->List Nat
 | .region _ ops _=>ops.toList.filterMap (·.dst)
 | .seq a b=>Z6z a++Z6z b
 | .cond _ a b=>Z6z a++Z6z b
 | .block _ c=>Z6z c
 | .loop c=>Z6z c
 | _=>[]
def Z9y:Code->List Oper
 | .region _ ops _=>ops.toList
 | .seq a b=>Z9y a++Z9y b
 | .cond _ a b=>Z9y a++Z9y b
 | .block _ c=>Z9y c
 | .loop c=>Z9y c
 | _=>[]
structure Hd where
 n:Nat
 inits:List X
 sub:List (Nat×Nat)
 rows:List Ent
 ro:Nat->Bool:=λ_=>false
 deriving Inhabited
def Zle(T:Tab)(hp:List Ent)(ty:Option Nat)(h:Hd):Sc->Sc×Hd
 | .int k x=>(.int k (.var h.n),{ h with n:=h.n+1,inits:=h.inits++[x] })
 | .bool x=>(.bool (.var h.n),{ h with n:=h.n+1,inits:=h.inits++[x] })
 | .str x=>(.str (.var h.n),{ h with n:=h.n+1,inits:=h.inits++[x] })
 | .val (.var v)=>match Zq hp v with
  | some (_,r)=>(.val (.var h.n),{ h with n:=h.n+2,inits:=h.inits++[.var v,r],sub:=(v,h.n)::h.sub })
  | none=>(.val (.var h.n),{ h with n:=h.n+1,inits:=h.inits++[.var v] })
 | .val x=>(.val (.var h.n),{ h with n:=h.n+1,inits:=h.inits++[x] })
 | .nilp=>(.val (.var h.n),{ h with n:=h.n+1,inits:=h.inits++[.nilP] })
 | .nils=>match ty with
  | some e=>match T.get e with
   | some ei=>(.val (.var h.n),{ h with n:=h.n+2,inits:=h.inits++[.nilS,.nilR],rows:=h.rows++[if h.ro e=true then .rd h.n ei.ks (.var (h.n+1))else .row h.n e ei.ks (.var (h.n+1))] })
   | none=>(.nils,h)
  | none=>(.nils,h)
 | s=>(s,h)
def Zhb(T:Tab)(hp:List Ent):List (Option Nat)->Hd->List Sc->List Sc×Hd
 | _,h,[]=>([],h)
 | tys,h,s::ss =>
  let ty:=match tys with|t::_=>t | []=>none
  let (a,h1):=Zle T hp ty h s;let (b,h2):=Zhb T hp tys.tail h1 ss;(a::b,h2)
def Zdy(T:Tab)(hp:List Ent)(fixed:List Nat):List (Option Nat)->Hd->List Sc->List Sc×Hd
 | _,h,[]=>([],h)
 | tys,h,s::ss =>
  let ty:=match tys with|t::_=>t | []=>none
  let keep:=match s with | .val (.var v)=>fixed.contains v|_=>false
  let (a,h1):=if keep=true then(s,h)else Zle T hp ty h s
  let (b,h2):=Zdy T hp fixed tys.tail h1 ss
  (a::b,h2)
def Zou(T:Tab)(ops:List Oper):List Nat:=ops.filterMap λo=>match o.op with
 | .call c=>match c.callee,c.argTypes.toList with
  | .builtin .append,t::_=>match T.tag t with|some (.slice e)=>some e|_=>none
  | _,_=>none
 | _=>none
def Zrm(T:Tab)(ops:List Oper)(j:Nat):List (Option Nat) :=
 let ap:=Zou T ops
 if ap.isEmpty then[]else
 match ops.find? (λo=>o.dst == some j && (T.get o.type).isSome)with
 | some o=>(Zix T 6 o.type).map λx=>match x with|some e=>if ap.contains e then some e else none|none=>none
 | none=>[]
def Zbn(T:Tab)(ops:List Oper)(hp:List Ent)(W:List Nat):Nat->Hd->List SV->List SV×Hd
 | _,h,[]=>([],h)
 | j,h,s::ss =>
  let (a,h1):=if W.contains j then(match s with | .cv (g,cs)=>let (cs',h'):=Zhb T hp (Zrm T ops j) h cs;(SV.cv (g,cs'),h')|_=>(.dead,h))else(s,h)
  let (b,h2):=Zbn T ops hp W (j+1) h1 ss
  (a::b,h2)
def Zdz(T:Tab)(hp0:List Ent)(fixed M:List Nat):Hd->List Ent->List Ent×Hd
 | h,[]=>([],h)
 | h,e::es =>
  let (a,h1):=match e with
   | .cells v ty cs=>if M.contains v then(let (cs',h'):=Zdy T hp0 fixed (Zix T 6 ty) h cs;(Ent.cells v ty cs',h'))else(e,h)
   | .st v=>if M.contains v then(.st h.n,{ h with n:=h.n+1,inits:=h.inits++[.var v] })else(.st v,h)
   | .row v ty ks r=>if M.contains v && !(h.sub.any λp=>p.1 == v)then(.row v ty ks (.var h.n),{ h with n:=h.n+1,inits:=h.inits++[r] })else(e,h)
   | e=>(e,h)
  let (b,h2):=Zdz T hp0 fixed M h1 es
  (a::b,h2)
def Ztd(h:Hd):Ent->Ent
 | .row v ty ks r=>(match h.sub.find? λp=>p.1 == v with|some p=>.row p.2 ty ks (.var (p.2+1))|none=>.row v ty ks r)
 | .rd v ks r=>(match h.sub.find? λp=>p.1 == v with|some p=>.rd p.2 ks (.var (p.2+1))|none=>.rd v ks r)
 | e=>e
def Zuf(v:Nat):SV->Bool
 | .cv c=>c.2.any λs=>match s with | .val (.var u)=>u == v|_=>false
 | _=>false
def Zj8(st:St)(t:Nat):List Nat:=match st.slot t with
 | .fn _ first caps=>(first++caps).flatMap λs=>match s with
  | .ptr v _=>(match st.hp.find? λe=>match e with | .cells u _ _=>u == v|_=>false with
   | some (.cells _ _ [.ptr u _])=>[u]
   | _=>[v])
  | _=>[]
 | _=>[]
def Zj9(ops:List Oper)(st:St)(t:Nat):List Nat:=ops.flatMap λo=>match o.dst,o.op with
 | some d,.load _ (.tmp q)=>if d == t then(match st.slot q with
  | .cv (false,[.ptr v _])=>(match st.hp.find? λe=>match e with | .cells u _ _=>u == v|_=>false with
   | some (.cells _ _ [.ptr u _])=>[u]
   | _=>[])
  | _=>[])else[]
 | _,_=>[]
def Ze0(T:Tab)(body:Code)(st:St)(ps:List Nat:=[])(ro:Nat->Bool:=λ_=>false):St×List X :=
 let W:=Z6z body
 let roots:=Z43 (Z9y body) []
 let M:=(roots.filterMap λt=>match st.slot t with | .cv (false,[.ptr v _])=>some v | .cv (false,[.val (.var v)])=>some v|_=>none)++roots.flatMap (Zj8 st)++roots.flatMap (Zj9 (Z9y body) st)
 let (fr,h1):=Zbn T (Z9y body) st.hp W 0 { n:=st.n,inits:=[],sub:=[],rows:=[] } st.fr
 let fixed:=(List.range st.fr.length).filterMap λj=>if W.contains j=true || (!ps.isEmpty && !((Z9y body).any λo=>o.op.operands.toList.any λx=>match x with | .tmp i=>i == j|_=>false))then none else(match st.slot j with | .cv (false,[.val (.var u)])=>some u|_=>none)
 let (hp,h2):=Zdz T st.hp fixed (ps++M) { h1 with ro:=ro } st.hp
 let olds:=st.hp.filter λe=>match e with | .rd v _ _=>(h2.sub.any λp=>p.1 == v) && fr.any (Zuf v)|_=>false
 let fr:=if ps.isEmpty=true then fr else fr.map λs=>match s with | .tup _=>.dead|s=>s
 ({ n:=h2.n,d:=st.d,fr:=fr,hp:=hp.map (Ztd h2)++h2.rows++olds },h2.inits)
def atX(n0:Nat)(xs:List X)(f:Nat):Option X:=if n0<=f then xs[f - n0]? else none
def fitX(n0:Nat)(xs:List X)(h c:X):Bool :=
 (h.bd n0 && h == c) || (match h with | .var f=>atX n0 xs f == some c|_=>false)
def Zrn(n0:Nat)(xs:List X):Sc->Sc->Bool
 | .int k x,.int k' y=>k == k' && fitX n0 xs x y
 | .bool x,.bool y=>fitX n0 xs x y
 | .str x,.str y=>fitX n0 xs x y
 | .val x,.val y=>fitX n0 xs x y
 | .val x,.nilp=>fitX n0 xs x .nilP
 | .val x,.ptr v off=>fitX n0 xs x (.ptrX v off)
 | .val x,.nils=>fitX n0 xs x .nilS
 | .ptr v off,.ptr v' off'=>off == off' && fitX n0 xs (.var v) (.var v')
 | h,c=>h.bd n0 && h == c
def Zbo(n0:Nat)(xs:List X):List Sc->List Sc->Bool
 | [],[]=>true
 | h::hs,c::cs=>Zrn n0 xs h c && Zbo n0 xs hs cs
 | _,_=>false
def Zja(n0:Nat)(xs:List X):SV->SV->Bool
 | .dead,_=>true
 | .cv (g,hs),.cv (g',cs)=>g == g' && Zbo n0 xs hs cs
 | h,c=>h.bd n0 && h == c
def Zlf(n0:Nat)(xs:List X):List SV->List SV->Bool
 | [],[]=>true
 | h::hs,c::cs=>Zja n0 xs h c && Zlf n0 xs hs cs
 | _,_=>false
def Zhc(n0:Nat)(xs:List X):Ent->Ent->Bool
 | .cells v ty hs,.cells v' ty' cs=>fitX n0 xs (.var v) (.var v') && ty == ty' && Zbo n0 xs hs cs
 | .row v ty ks r,.row v' ty' ks' r'=>fitX n0 xs (.var v) (.var v') && ty == ty' && ks == ks' && fitX n0 xs r r'
 | .rd v ks r,.rd v' ks' r'=>fitX n0 xs (.var v) (.var v') && ks == ks' && fitX n0 xs r r'
 | .st v,.st v'=>(decide (v<n0) && v == v') || atX n0 xs v == some (.var v')
 | _,_=>false
def Z9z(p:Ent->Bool):List Ent->Option (Ent×List Ent)
 | []=>none
 | c::cs=>if p c then some (c,cs)else match Z9z p cs with|some (d,ds)=>some (d,c::ds)|none=>none
def Zlg(n0:Nat)(xs:List X):Ent->Bool
 | .row v _ _ r=>(match atX n0 xs v with|some .nilS=>true|_=>false) && fitX n0 xs r .nilR
 | .rd v _ r=>(match atX n0 xs v with|some .nilS=>true|_=>false) && fitX n0 xs r .nilR
 | _=>false
def Zjb(n0:Nat)(xs:List X):List Ent->List Ent->Bool
 | [],_=>true
 | h::hs,cs=>match Z9z (Zhc n0 xs h) cs with
  | some (c,cs')=>if c.wr=true then Zjb n0 xs hs cs' else Zjb n0 xs hs cs
  | none=>Zlg n0 xs h && Zjb n0 xs hs cs
def fits(n0:Nat)(xs:List X)(head cur:St):Bool :=
 head.n == n0+xs.length && xs.all (X.bd cur.n) && Zlf n0 xs head.fr cur.fr && Zjb n0 xs head.hp cur.hp && head.fr.all (SV.bd head.n) && head.hp.all (Ent.bd head.n)
def Zlh(n0:Nat)(xs:List X)(head cur:St):String :=
 "a loops back: slots " ++ toString ((List.range head.fr.length).filter λj=>!(Zja n0 xs (head.slot j) (cur.slot j))) ++ " entries " ++ toString ((List.range head.hp.length).filter λj=>match head.hp[j]? with|some e=>!(cur.hp.any (Zhc n0 xs e))|none=>false)
def getX(n0 m:Nat)(acc:List (Nat×X))(h c:X):List (Nat×X) :=
 match h with | .var f=>if n0<=f/\f<n0+m then(f,c)::acc else acc|_=>acc
def Zug(n0 m:Nat)(acc:List (Nat×X)):Sc->Sc->List (Nat×X)
 | .int _ x,.int _ y | .bool x,.bool y | .str x,.str y | .val x,.val y=>getX n0 m acc x y
 | .val x,.nilp=>getX n0 m acc x .nilP
 | .val x,.ptr v off=>getX n0 m acc x (.ptrX v off)
 | .val x,.nils=>getX n0 m acc x .nilS
 | .ptr v _,.ptr v' _=>getX n0 m acc (.var v) (.var v')
 | _,_=>acc
def Zli(n0 m:Nat)(acc:List (Nat×X)):List Sc->List Sc->List (Nat×X)
 | h::hs,c::cs=>Zli n0 m (Zug n0 m acc h c) hs cs
 | _,_=>acc
def Zro(n0 m:Nat)(acc:List (Nat×X)):List SV->List SV->List (Nat×X)
 | .cv (_,h)::hs,.cv (_,c)::cs=>Zro n0 m (Zli n0 m acc h c) hs cs
 | _::hs,_::cs=>Zro n0 m acc hs cs
 | _,_=>acc
def Za0(n0 m:Nat)(acc:List (Nat×X))(cur:List Ent):List Ent->List (Nat×X)
 | []=>acc
 | .cells v _ hs::es=>Za0 n0 m (match (if v<n0 then some (v,X.var v)else acc.find? λp=>p.1 == v)with
   | some (_,.var v')=>(match Zm cur v' with|some (_,cs)=>Zli n0 m acc hs cs|none=>acc)
   | _=>acc) cur es
 | .row f _ _ r::es | .rd f _ r::es=>Za0 n0 m (match (if f<n0 then some (f,X.var f)else acc.find? λp=>p.1 == f)with
   | some (_,.var v')=>(match Zq cur v' with|some (_,r')=>getX n0 m acc r r' | none=>acc)
   | some (_,.nilS)=>getX n0 m acc r .nilR
   | _=>acc) cur es
 | .st f::es=>Za0 n0 m (if n0<=f/\f<n0+m then(match cur.find? (λe=>match e with | .st _=>true|_=>false)with|some (.st v)=>(f,X.var v)::acc|_=>acc)else acc) cur es
def Z19(n0:Nat)(head cur:St):List X :=
 let m:=head.n - n0
 let acc:=Zro n0 m [] head.fr cur.fr
 let acc:=Za0 n0 m acc cur.hp head.hp
 let acc:=Za0 n0 m acc cur.hp head.hp
 (List.range m).map λi=>match acc.find? λp=>p.1 == n0+i with|some p=>p.2|none=>.I 0
def Zte(n0:Nat)(xs:List X)(hp:List Ent):List Nat:=hp.filterMap λe=>match e with
 | .rd f _ _=>(match (if f<n0 then some (.var f)else atX n0 xs f)with|some (.var v)=>some v|_=>none)
 | _=>none
def Ze1:List Ent->List Nat->List Ent
 | hp,[]=>hp
 | hp,v::vs=>Ze1 (Z52 hp v) vs
def Ze2(n0:Nat)(xs:List X)(head cur:St):St:={ cur with hp:=Ze1 cur.hp (Zte n0 xs head.hp) }
def Ztf(T:Tab)(ops:List Oper):List Nat:=ops.filterMap λo=>match o.op with
 | .slice t _ (some _) none none=>match T.tag t with|some (.slice e)=>some e|_=>none
 | _=>none
def Zrp(hp:List Ent)(e:Nat):Sc->Bool
 | .val (.var u)=>hp.any λx=>match x with | .row v ty _ _=>u == v && ty == e|_=>false
 | _=>false
def peel(T:Tab)(c:Code)(st:St):Bool :=
 let ct:=Ztf T (Z9y c)
 !ct.isEmpty && st.hp.any λx=>match x with
  | .cells _ ty cs =>
   let l:=(Zix T 6 ty).zip cs
   let m:=l.filter λp=>match p.1 with|some e=>ct.contains e|none=>false
   decide (2<=m.length) && m.all λp=>match p.1 with|some e=>Zrp st.hp e p.2|none=>false
  | _=>false
def Ztg:SV->Bool
 | .cv c=>c.2.any λs=>match s with | .ptr ..=>true | .eptr ..=>true|_=>false
 | _=>false
def Z8w(W D:List Nat):Nat->List SV->List SV
 | _,[]=>[]
 | j,s::ss=>(if(D.contains j || (W.contains j && Ztg s))=true then .dead else s)::Z8w W D (j+1) ss
def Zhd:Nat->List SV->List Nat
 | _,[]=>[]
 | j,s::ss=>match s with | .dead=>j::Zhd (j+1) ss|_=>Zhd (j+1) ss
def Zcl(c:Code)(old st:St):St:={ st with fr:=Z8w (Z6z c) (Zhd 0 old.fr) 0 st.fr }
theorem Z70(W D:List Nat):∀(j:Nat) (l:List SV),(Z8w W D j l).length=l.length
 | _,[]=>rfl
 | j,s::ss=>by simp[Z8w,Z70 W D (j+1) ss]
theorem Ze3(W D:List Nat):∀(j:Nat) (l:List SV) (i:Nat),(Z8w W D j l).getD i .dead=l.getD i .dead\/(Z8w W D j l).getD i .dead=.dead
 | _,[],_=>.inl rfl
 | j,s::ss,0=>by
  simp only[Z8w,List.getD_cons_zero];split
  ·exact .inr rfl
  ·exact .inl rfl
 | j,s::ss,i+1=>by simp only[Z8w,List.getD_cons_succ];exact Ze3 W D (j+1) ss i
theorem Ze4(W D:List Nat):∀(j:Nat) (l:List SV) (s:SV),s∈Z8w W D j l->s∈l\/s=.dead
 | _,[],s,h=>.inl h
 | j,t::ss,s,h=>by
  simp only[Z8w]at h;rcases List.mem_cons.1 h with rfl|h
  ·split
   ·exact .inr rfl
   ·exact .inl (qy8 ..)
  ·rcases Ze4 W D (j+1) ss s h with h|h
   ·exact .inl (qy10 _ h)
   ·exact .inr h
theorem Ze5{J:List V}{a:Act}{w:World}{W D:List Nat}{st:St}(h:Inv C st J a w):Inv C { st with fr:=Z8w W D 0 st.fr } J a w:=by
 refine⟨h.len,(Z70 _ _ _ _).trans h.size,λj=>?_,λs hs=>?_,h.bdh,h.defers,h.rel⟩
 ·have hj:=h.fr j;unfold St.slot at hj⊢;rcases Ze3 W D 0 st.fr j with h1|h1
  ·simp only;rw[h1];exact hj
  ·simp only;rw[h1];trivial
 ·rcases Ze4 _ _ _ _ _ hs with h1|rfl
  ·exact h.bdf s h1
  ·rfl
theorem Zfz{J:List V}{a:Act}{w:World}{c:Code}{old st:St}(h:Inv C st J a w):Inv C (Zcl c old st) J a w:=Ze5 h
def Zrq(D:List Nat)(st:St):St:={ st with fr:=Z8w [] D 0 st.fr }
theorem Zov{J:List V}{a:Act}{w:World}{D:List Nat}{st:St}(h:Inv C st J a w):Inv C (Zrq D st) J a w:=Ze5 h
def Z1k:Tree->Option St
 | .leaf st=>some st
 | .ite _ t e=>match Z1k t with|some s=>some s|none=>Z1k e
 | .both t e=>match Z1k t with|some s=>some s|none=>Z1k e
 | .need _ t | .bindN t | .bindV t | .bindO t | .bindF _ t | .letV _ t=>Z1k t
 | .callP _ _ _ _ _ _ t=>Z1k t
 | .callM _ _ _ _ _ _ _ _ _ t=>Z1k t
 | .callR _ _ _ _ t=>Z1k t
 | .openR _ _ _ t=>Z1k t
 | .pack _ t=>Z1k t
 | _=>none
def Z3s:Tree->List St
 | .leaf st=>[st]
 | .ite _ t e | .both t e | .join _ t e=>Z3s t++Z3s e
 | .need _ t | .bindN t | .bindV t | .bindO t | .bindF _ t | .letV _ t | .loop _ t=>Z3s t
 | .callP _ _ _ _ _ _ t=>Z3s t
 | .callM _ _ _ _ _ _ _ _ _ t=>Z3s t
 | .callR _ _ _ _ t=>Z3s t
 | .openR _ _ _ t=>Z3s t
 | .pack _ t=>Z3s t
 | _=>[]
def Zqj(n:Nat)(tb:List (List X))(xs:List X):X×List (List X) :=
 match tb.findIdx? λt=>t == xs with
 | some i=>(.var (n+i),tb)
 | none=>(.var (n+tb.length),tb++[xs])
def Zth(n:Nat)(tb:List (List X))(x:X)(l:List X):X×List (List X):=if(l.all λy=>y == x)=true then(x,tb)else Zqj n tb (x::l)
def Zlj:Sc->Bool | .val _ | .nils | .nilp | .ptr ..=>true|_=>false
def Sc.toX:Sc->X
 | .int _ x | .bool x | .str x | .val x=>x
 | .nils=>.nilS | .nilp=>.nilP | .ptr v off=>.ptrX v off
 | _=>.I 0
def Zti(n:Nat)(tb:List (List X))(a:Sc)(l:List Sc):Option (Sc×List (List X)) :=
 if(l.all λb=>b == a)=true then some (a,tb)else
 let (x,tb'):=Zqj n tb ((a::l).map Sc.toX)
 match a with
 | .int k _=>if(l.all λb=>match b with | .int k' _=>k == k' | _=>false)=true then some (.int k x,tb')else none
 | .bool _=>if(l.all λb=>match b with | .bool _=>true|_=>false)=true then some (.bool x,tb')else none
 | .str _=>if(l.all λb=>match b with | .str _=>true|_=>false)=true then some (.str x,tb')else none
 | a=>if(Zlj a && l.all Zlj)=true then some (.val x,tb')else none
def Zg0(n:Nat):List (List X)->List Sc->List (List Sc)->Option (List Sc×List (List X))
 | tb,[],_=>some ([],tb)
 | tb,a::as,l=>do
  let (x,tb) <- Zti n tb a (l.filterMap List.head?)
  let (xs,tb) <- Zg0 n tb as (l.map List.tail)
  some (x::xs,tb)
def Ztj(n:Nat)(tb:List (List X))(a:SV)(l:List SV):SV×List (List X) :=
 if(l.all λb=>b == a)=true then(a,tb)else
 match a with
 | .cv (g,cs)=>if(l.all λb=>match b with | .cv (g',cs')=>g == g' && cs.length == cs'.length|_=>false)=true then
   (match Zg0 n tb cs (l.map λb=>match b with | .cv c=>c.2|_=>[])with|some (cs',tb)=>(.cv (g,cs'),tb)|none=>(.dead,tb))else(.dead,tb)
 | _=>(.dead,tb)
def Zqk(n:Nat)(s:St)(l:List St):Nat->Nat->List (List X)->List SV×List (List X)
 | _,0,tb=>([],tb)
 | j,k+1,tb =>
  let (a,tb):=Ztj n tb (s.slot j) (l.map λt=>t.slot j)
  let (as,tb):=Zqk n s l (j+1) k tb
  (a::as,tb)
def Zuh(hp:List Ent)(v ty:Nat)(ks:List Kd):Option X:=hp.findSome? λe=>match e with | .row v' ty' ks' r=>if v' == v && ty' == ty && ks' == ks then some r else none|_=>none
def Zql(n:Nat)(l:List St):List Ent->List (List X)->List Ent×List (List X)
 | [],tb=>([],tb)
 | e::es,tb =>
  let (o,tb):Option Ent×List (List X):=if(l.all λt=>t.hp.contains e)=true then(some e,tb)else
   match e with
   | .cells v ty cs =>
    let cs2:=l.filterMap λt=>t.hp.findSome? λe=>match e with | .cells v' ty' cs'=>if v' == v && ty' == ty && cs'.length == cs.length then some cs' else none|_=>none
    if cs2.length == l.length then(match Zg0 n tb cs cs2 with|some (cs',tb)=>(some (.cells v ty cs'),tb)|none=>(none,tb))else(none,tb)
   | .row v ty ks r =>
    let rs:=l.filterMap λt=>Zuh t.hp v ty ks
    if rs.length == l.length then(let (x,tb):=Zth n tb r rs;(some (.row v ty ks x),tb))else(none,tb)
   | _=>(none,tb)
  let (es,tb):=Zql n l es tb
  match o with|some e=>(e::es,tb)|none=>(es,tb)
def Zui(st:St):X->Option (Option (Bool×Nat×List Kd×X))
 | .nilS=>some none
 | .var u=>(st.hp.findSome? λe=>match e with
  | .row v ty ks r=>if v == u then some (true,ty,ks,r)else none
  | .rd v ks r=>if v == u then some (false,0,ks,r)else none
  | _=>none).map some
 | _=>none
def Zhe(n:Nat)(l:List St):Nat->List (List X)->List (List X)->List Ent×List (List X)
 | _,[],tb=>([],tb)
 | i,xs::todo,tb =>
  let qs:=(xs.zip l).filterMap λp=>Zui p.2 p.1
  let (o,tb):Option Ent×List (List X):=if qs.length == l.length then(match qs.filterMap id with
   | []=>(none,tb)
   | (w,ty,ks,r)::rest =>
    if(rest.all λq=>q.2.2.1 == ks)=true then
     let rs:=qs.map λq=>match q with|some (_,_,_,r)=>r|none=>.nilR
     let (x,tb):=Zth n tb (rs.headD r) rs.tail
     if((w,ty,ks,r)::rest).all (λq=>q.1 && q.2.1 == ty)=true then(some (.row (n+i) ty ks x),tb)else(some (.rd (n+i) ks x),tb)
    else(none,tb))else(none,tb)
  let (es,tb):=Zhe n l (i+1) todo tb
  match o with|some e=>(e::es,tb)|none=>(es,tb)
def Zlk(v:Nat):Sc->Bool | .val (.var u)=>u == v | .ptr u _=>u == v|_=>false
def Zrr(v:Nat)(fr:List SV)(hp:List Ent):Bool:=(fr.any λs=>match s with | .cv (_,cs)=>cs.any (Zlk v)|_=>false) || hp.any λe=>match e with | .cells _ _ cs=>cs.any (Zlk v)|_=>false
def Zrs(n0:Nat)(fr:List SV)(hp:List Ent):Ent->Bool
 | .cells v _ _ | .row v _ _ _ | .rd v _ _=>decide (v<n0) || Zrr v fr hp
 | _=>true
def Zow(n:Nat)(tb:List (List X))(hp2:List Ent):Ent->Bool
 | .row v _ _ _=>!(hp2.any λe=>match e with | .row f _ _ _=>(tb.getD (f - n) []).any (λx=>match x with | .var u=>u == v|_=>false)|_=>false)
 | _=>true
def Zqm(n0:Nat):List St->Option St
 | []=>none
 | s::l =>
  let n:=l.foldl (λa t=>Nat.max a t.n) s.n
  let (fr,tb):=Zqk n s l 0 s.fr.length []
  let (hp,tb):=Zql n l s.hp tb
  let (hp2,tb):=Zhe n (s::l) 0 tb tb
  let hp:=hp.filter (Zow n tb hp2)
  some { s with n:=n+tb.length,fr:=fr,hp:=(hp2++hp).filter (Zrs n0 fr (hp2++hp)) }
def genX(n0 n:Nat)(x:X):X×Nat:=if x.bd n0=true then(x,n)else match x with | .var f=>(.var f,n)|_=>(.var n,n+1)
def Zuj(n0 n:Nat):Sc->Sc×Nat
 | .int k x=>let (y,m):=genX n0 n x;(.int k y,m)
 | .bool x=>let (y,m):=genX n0 n x;(.bool y,m)
 | .str x=>let (y,m):=genX n0 n x;(.str y,m)
 | .val x=>let (y,m):=genX n0 n x;(.val y,m)
 | s=>(s,n)
def Zll(n0:Nat):Nat->List Sc->List Sc×Nat
 | n,[]=>([],n)
 | n,s::ss=>let (a,n1):=Zuj n0 n s;let (b,n2):=Zll n0 n1 ss;(a::b,n2)
def Zhf(n0:Nat):Nat->List SV->List SV×Nat
 | n,[]=>([],n)
 | n,s::ss =>
  let (a,n1):=match s with
   | .cv (g,cs)=>let (cs',n'):=Zll n0 n cs;(SV.cv (g,cs'),n')
   | .fn f x y=>if SV.bd n0 (.fn f x y)=true then(.fn f x y,n)else(.dead,n)
   | _=>(.dead,n)
  let (b,n2):=Zhf n0 n1 ss
  (a::b,n2)
def Zlm(n0:Nat):Nat->List Ent->List Ent×Nat
 | n,[]=>([],n)
 | n,e::es =>
  let (a,n1):=match e with
   | .cells v ty cs=>let (cs',n'):=Zll n0 n cs;(Ent.cells v ty cs',n')
   | .row v ty ks r=>let (r',n'):=genX n0 n r;(.row v ty ks r',n')
   | .rd v ks r=>let (r',n'):=genX n0 n r;(.rd v ks r',n')
   | e=>(e,n)
  let (b,n2):=Zlm n0 n1 es
  (a::b,n2)
def Zrt(n0:Nat)(st:St):St :=
 let (fr,n1):=Zhf n0 st.n st.fr
 let (hp,n2):=Zlm n0 n1 st.hp
 { st with n:=n2,fr:=fr,hp:=hp }
def Z1g:Code->Option (Nat×Nat)
 | .region id ops _=>some (id,ops.size)
 | .seq a b=>match Z1g a with|some r=>some r|none=>Z1g b
 | .cond _ a b=>match Z1g a with|some r=>some r|none=>Z1g b
 | .block _ c=>Z1g c
 | .loop c=>Z1g c
 | _=>none
def Zox(js:List (Nat×Nat×Nat)):Code->Bool
 | .region id ops _=>js.contains (0,id,ops.size) || js.contains (9,id,ops.size)
 | .cond c a b=>match Z1g (.cond c a b)with|some (i,n)=>js.contains (1,i,n) || js.contains (5,i,n)|none=>false
 | .block _ c=>match Z1g c with|some (i,n)=>js.contains (2,i,n) || js.contains (6,i,n)|none=>false
 | _=>false
def Zoy(js:List (Nat×Nat×Nat)):Code->Bool
 | .region id ops _=>js.contains (9,id,ops.size)
 | .cond c a b=>match Z1g (.cond c a b)with|some (i,n)=>js.contains (5,i,n)|none=>false
 | .block _ c=>match Z1g c with|some (i,n)=>js.contains (6,i,n)|none=>false
 | _=>false
def Zbp(js:List (Nat×Nat×Nat))(id:Nat)(ops:Array Oper):Bool:=js.contains (4,id,ops.size)
def Zuk(E:Env)(inl:InlF)(st:St):Code->Option St
 | .region _ ops false=>(Zqm st.n (Z3s (Zof E inl ops.toList ops.toList st .leaf))).map (Zrt st.n)
 | .region id ops true=>(Z1k (Z9a E inl (Zbp E.joins id ops) ops.toList st .leaf)).map (Zrt st.n)
 | c=>some (Ze0 E.T c st).1
def Zru(js:List (Nat×Nat×Nat))(c:Code):Bool:=match Z1g c with|some (i,n)=>js.contains (12,i,n)|none=>false
def Ze6(st:St):St:={ st with n:=st.n+1,hp:=.st st.n::st.hp }
def Ze7:X->List Nat
 | .consV (.var u) b=>u::Ze7 b
 | .consV _ b=>Ze7 b
 | .consI _ _ b=>Ze7 b
 | .consB _ b=>Ze7 b
 | .consS _ b=>Ze7 b
 | .snocR a b=>Ze7 a++Ze7 b
 | _=>[]
def Ztk(hp:List Ent):List Nat:=hp.flatMap λe=>match e with | .row _ _ _ r=>Ze7 r|_=>[]
def Zln(js:List (Nat×Nat×Nat))(st:St):St:=if(js.any λj=>j.1 == 13)=true then { st with hp:=Zh0 st.hp (Ztk st.hp) }else st
def Zrv(ro:List Nat)(hp:List Ent):List Nat:=hp.flatMap λe=>match e with
 | .cells _ t cs=>cs.filterMap λs=>match s with
  | .val (.var u)=>if hp.any (λx=>match x with | .row v ty _ _=>v == u && ro.contains (1000000+t*1000+ty)|_=>false)=true then some u else none
  | _=>none
 | _=>[]
def Za1(E:Env)(c:Code)(st:St):St:=match Z1g c with
 | some (i,n)=>if E.joins.contains (14,i,n)=true then { st with hp:=Ze1 st.hp (Zrv E.ro st.hp) }else if E.joins.contains (15,i,n)=true then { st with hp:=Ze1 st.hp (st.hp.filterMap λe=>match e with | .row v _ _ _=>some v|_=>none) }else st
 | none=>st
def Zcm(p:Bool)(st:St)(f:St->Tree):Tree:=if p=true then .pack st.hp (f (Ze6 st))else f st
def Zjc(E:Env)(inl:InlF)(c:Code)(st:St)(k:EX->St->Tree)(f:St->(EX->St->Tree)->Tree):Tree :=
  if Zox E.joins c=true then
    match (if Zoy E.joins c=true then(Zqm st.n (Z3s (f st λe st=>match e with | .normal=>.leaf st|_=>.stuck "no way"))).map (Zrt st.n)else Zuk E inl st c)with
    | none=>.stuck "a join's head"
    | some hd0=>let hd:=if Zru E.joins c=true then Ze6 hd0 else hd0
      .join (hd.n - st.n)
      (f { st with d:=st.d+1 } λe cur=>match e with
        | .normal=>Zcm (Zru E.joins c) cur λcur=>if fits st.n (Z19 st.n hd cur) hd (Ze2 st.n (Z19 st.n hd cur) hd cur)=true then .jump st.d (Z19 st.n hd cur)else .stuck "a join"
        | e=>k e cur)
      (k .normal { hd with d:=st.d })
  else f st k
def Zhg(js:List (Nat×Nat×Nat))(c:Code)(e:Nat):Bool:=match Z1g c with|some (i,n)=>js.contains (8,i,n) || js.contains (17,i,e)|none=>false
def Z2b(js:List (Nat×Nat×Nat))(c:Code):Bool:=match Z1g c with|some (i,n)=>js.contains (3,i,n)|none=>false
def Zhh(p:Bool)(st:St):List Nat:=if p=true then[st.n - 1]else[]
def Zjd(js:List (Nat×Nat×Nat))(c:Code):Bool:=match Z1g c with|some (i,n)=>js.contains (7,i,n)|none=>false
def Zlo(js:List (Nat×Nat×Nat)):Bool:=js.any λj=>j.1 == 7
def Zcn(D:List Nat)(f:St->(EX->St->Tree)->Tree):Nat->St->(EX->St->Tree)->Tree
 | 0,_,_=>.stuck "Zf"
 | n+1,st,k=>f st λe cur=>match e with | .normal=>Zcn D f n (Zrq D cur) k|e=>k e cur
def ex(E:Env)(inl:InlF):Code->St->(EX->St->Tree)->Tree
 | .skip,st,k=>k .normal st
 | .seq a b,st,k=>ex E inl a st λe st=>match e with | .normal=>ex E inl b st k|e=>k e st
 | .cond c a b,st,k=>Zjc E inl (.cond c a b) st k λst k=>match st.rd (.B true) c with
  | some (false,[.bool (.B true)])=>ex E inl a st k
  | some (false,[.bool (.B false)])=>ex E inl b st k
  | some (false,[.bool x])=>match (if Zlo E.joins=true then clB x else none)with
   | some true=>ex E inl a st k
   | some false=>ex E inl b st k
   | none=>.ite x (ex E inl a st k) (ex E inl b st k)
  | _=>.stuck "a test"
 | .block id c,st,k=>Zjc E inl (.block id c) st k λst k=>ex E inl c st λe st=>match e with | .exit i=>if i=id then k .normal st else k (.exit i) st|e=>k e st
 | .exit id,st,k=>k (.exit id) st
 | .ret,st,k=>k .ret st
 | .region id ops false,st,k=>Zjc E inl (.region id ops false) st k λst k=>Zof E inl ops.toList ops.toList st (k .normal)
 | .region id ops true,st,k=>Zjc E inl (.region id ops true) st k λst k=>Z9a E inl (Zbp E.joins id ops) ops.toList st (k .normal)
 | .loop c,st,k =>
  if Zjd E.joins c=true then Zcn (Zhd 0 st.fr) (λst k=>ex E inl c st k) 40 st k
  else if peel E.T c st=true then
   ex E inl c st λe st0=>match e with
    | .normal=>Zcm (Z2b E.joins c) (Za1 E c (Zcl c st st0)) λst =>
     let hd:=Ze0 E.T c st (Zhh (Z2b E.joins c) st) (Zhg E.joins c)
     if fits st.n hd.2 hd.1 st=true then
      .loop hd.2 (ex E inl c { hd.1 with d:=st.d+1 } λe cur=>match e with
       | .normal=>Zcm (Z2b E.joins c) (Zln E.joins cur) λcur=>if fits st.n (Z19 st.n hd.1 cur) hd.1 (Ze2 st.n (Z19 st.n hd.1 cur) hd.1 cur)=true then .back st.d (Z19 st.n hd.1 cur)else .stuck (Zlh st.n (Z19 st.n hd.1 cur) hd.1 cur)
       | e=>k e cur)
     else .stuck "a loops head"
    | e=>k e st0
  else
  Zcm (Z2b E.joins c) (Za1 E c st) λst =>
  let hd:=Ze0 E.T c st (Zhh (Z2b E.joins c) st) (Zhg E.joins c)
  if fits st.n hd.2 hd.1 st=true then
   .loop hd.2 (ex E inl c { hd.1 with d:=st.d+1 } λe cur=>match e with
    | .normal=>Zcm (Z2b E.joins c) (Zln E.joins cur) λcur=>if fits st.n (Z19 st.n hd.1 cur) hd.1 (Ze2 st.n (Z19 st.n hd.1 cur) hd.1 cur)=true then .back st.d (Z19 st.n hd.1 cur)else .stuck (Zlh st.n (Z19 st.n hd.1 cur) hd.1 cur)
    | e=>k e cur)
  else .stuck "a loops head"
 | _,_,_=>.stuck "code"
variable {C:Cx} {E:Env}
section fit
variable {n0:Nat} {xs:List X} {J Jc:List V} {w:World}
def Z22(J Jc:List V)(xs:List X):List V:=J++xs.map (X.ev Jc)
theorem Zhi{f:Nat}{x:X}(hl:J.length=n0)(h:atX n0 xs f=some x):(Z22 J Jc xs).getD f (.i 0)=x.ev Jc:=by unfold atX at h;simp only[Option.ite_none_right_eq_some]at h;obtain⟨h1,h2⟩:=h;subst hl;simp[Z22,qy1,List.getElem?_append_right h1,h2]
theorem Z2i(hl:J.length=n0)(ha:Z11 n0 J Jc):Z11 n0 (Z22 J Jc xs) Jc:=by subst hl;exact(Z11.app J _).symm.trans ha
theorem Z1q(hl:J.length=n0)(ha:Z11 n0 J Jc){h c:X}(hf:fitX n0 xs h c=true):h.ev (Z22 J Jc xs)=c.ev Jc:=by
 unfold fitX at hf;simp only[Bool.or_eq_true,Bool.and_eq_true,beq_iff_eq]at hf;rcases hf with⟨hb,rfl⟩|hf
 ·exact X.ev_bd (Z2i hl ha) h hb
 ·split at hf
  ·rename_i f;simp only[beq_iff_eq]at hf;simp only[X.ev];exact Zhi hl hf
  ·cases hf
theorem Zoz(hl:J.length=n0)(ha:Z11 n0 J Jc){h c:Sc}(hf:Zrn n0 xs h c=true):h.ev (Z22 J Jc xs)=c.ev Jc:=by
 unfold Zrn at hf;split at hf
 ·simp only[Bool.and_eq_true,beq_iff_eq]at hf;obtain⟨rfl,hf⟩:=hf;simp only[Sc.ev,Z1q hl ha hf]
 ·simp only[Sc.ev,Z1q hl ha hf]
 ·simp only[Sc.ev,Z1q hl ha hf]
 ·simp only[Sc.ev,Z1q hl ha hf]
 ·simp only[Sc.ev,Z1q hl ha hf];rfl
 ·simp only[Sc.ev,Z1q hl ha hf];rfl
 ·simp only[Sc.ev,Z1q hl ha hf];rfl
 ·simp only[Bool.and_eq_true,beq_iff_eq]at hf;obtain⟨rfl,hf⟩:=hf;have:=Z1q hl ha hf;simp only[X.ev]at this;simp only[Sc.ev,this]
 ·simp only[Bool.and_eq_true,beq_iff_eq]at hf;obtain⟨hb,rfl⟩:=hf;exact Sc.ev_bd (Z2i hl ha) _ hb
theorem Ze8(hl:J.length=n0)(ha:Z11 n0 J Jc):∀{hs cs:List Sc},Zbo n0 xs hs cs=true->hs.map (Sc.ev (Z22 J Jc xs))=cs.map (Sc.ev Jc):=by
 intro hs;induction hs with
 | nil=>intro cs h;cases cs<;>simp[Zbo]at h;rfl
 | cons a hs ih =>
  intro cs h;cases cs<;>simp[Zbo]at h;simp[Zoz hl ha h.1,ih h.2]
theorem CV.ev_of_map{J J':List V}{g:Bool}{hs cs:List Sc}(h:hs.map (Sc.ev J)=cs.map (Sc.ev J')):CV.ev J (g,hs)=CV.ev J' (g,cs):=by
 cases g
 ·match hs,cs,h with
  | [],[],_=>rfl
  | [a],[b],h=>simpa[CV.ev]using h
  | _::_::_,_::_::_,_=>rfl
  | [],_::_,h=>simp at h
  | _::_,[],h=>simp at h
  | [_],_::_::_,h=>simp at h
  | _::_::_,[_],h=>simp at h
 ·simp[CV.ev,h]
theorem Zp0(hl:J.length=n0)(ha:Z11 n0 J Jc){h c:SV}(hf:Zja n0 xs h c=true){x:Value}(hr:c.rel Jc x):h.rel (Z22 J Jc xs) x:=by
 unfold Zja at hf;split at hf
 ·trivial
 ·simp only[Bool.and_eq_true,beq_iff_eq]at hf;obtain⟨rfl,hf⟩:=hf;exact(show x=_ from hr).trans (CV.ev_of_map (Ze8 hl ha hf)).symm
 ·simp only[Bool.and_eq_true,beq_iff_eq]at hf;obtain⟨hb,rfl⟩:=hf;exact SV.rel_bd (Z2i hl ha).symm _ hb x hr
theorem Zp1:∀{hs cs:List SV},Zlf n0 xs hs cs=true->hs.length=cs.length/\∀j,Zja n0 xs (hs.getD j .dead) (cs.getD j .dead)=true:=by
 intro hs;induction hs with
 | nil=>intro cs h;cases cs<;>simp[Zlf]at h;exact⟨rfl,λj=>by simp[Zja]⟩
 | cons a hs ih =>
  intro cs h;cases cs<;>simp[Zlf]at h;obtain⟨h1,h2⟩:=ih h.2;refine⟨by simp[h1],λj=>?_⟩;cases j
  ·simpa using h.1
  ·simpa[qy1]using h2 _
theorem Zlp(hl:J.length=n0)(ha:Z11 n0 J Jc){h c:Ent}(hf:Zhc n0 xs h c=true) : h.wr=c.wr/\(∀w,h.holds (Z22 J Jc xs) w↔c.holds Jc w)/\∀k,h.fp (Z22 J Jc xs) k↔c.fp Jc k:=by
 have hag:=Z2i (xs:=xs) hl ha;unfold Zhc at hf;split at hf
 ·simp only[Bool.and_eq_true,beq_iff_eq]at hf;obtain⟨⟨hv,rfl⟩,hf⟩:=hf;have hv:=Z1q hl ha hv;simp only[X.ev]at hv;exact⟨rfl,λw=>by simp only[Ent.holds,hv,Ze8 hl ha hf],λk=>by simp only[Ent.fp,hv]⟩
 ·simp only[Bool.and_eq_true,beq_iff_eq]at hf;obtain⟨⟨⟨hv,rfl⟩,rfl⟩,hf⟩:=hf;have hv:=Z1q hl ha hv;simp only[X.ev]at hv;exact⟨rfl,λw=>by simp only[Ent.holds,hv,Z1q hl ha hf],λk=>by simp only[Ent.fp,hv]⟩
 ·simp only[Bool.and_eq_true,beq_iff_eq]at hf;obtain⟨⟨hv,rfl⟩,hf⟩:=hf;have hv:=Z1q hl ha hv;simp only[X.ev]at hv;exact⟨rfl,λw=>by simp only[Ent.holds,hv,Z1q hl ha hf],λk=>by simp only[Ent.fp,hv,Z1q hl ha hf]⟩
 ·simp only[Bool.or_eq_true,Bool.and_eq_true,beq_iff_eq,decide_eq_true_eq]at hf;rcases hf with⟨hv,rfl⟩|hf
  ·exact⟨rfl,λw=>by simp only[Ent.holds,hag _ hv],λk=>by simp only[Ent.fp,hag _ hv]⟩
  ·have hv:=Zhi (Jc:=Jc) hl hf;simp only[X.ev]at hv;exact⟨rfl,λw=>by simp only[Ent.holds,hv],λk=>by simp only[Ent.fp,hv]⟩
 ·cases hf
theorem Zje{p:Ent->Bool}:∀{cs cs':List Ent} {c:Ent},Z9z p cs=some (c,cs')->p c=true/\cs.Perm (c::cs'):=by
 intro cs;induction cs with
 | nil=>intro cs' c h;simp[Z9z]at h
 | cons x cs ih =>
  intro cs' c h;simp only[Z9z]at h;split at h
  ·rename_i hp;simp at h;obtain⟨rfl,rfl⟩:=h;exact⟨hp,List.Perm.refl _⟩
  ·split at h
   ·rename_i d ds hd;simp at h;obtain⟨rfl,rfl⟩:=h;obtain⟨h1,h2⟩:=ih hd;exact⟨h1,(h2.cons x).trans (List.Perm.swap _ _ _)⟩
   ·cases h
theorem Zlq(hl:J.length=n0)(ha:Z11 n0 J Jc){h:Ent}(hn:Zlg n0 xs h=true):(∀w,h.holds (Z22 J Jc xs) w)/\∀k,¬h.fp (Z22 J Jc xs) k:=by
 unfold Zlg at hn;split at hn
 ·rename_i v ty ks r;simp only[Bool.and_eq_true]at hn;obtain⟨h1,h2⟩:=hn;split at h1
  ·rename_i hx;have e1:=Zhi (Jc:=Jc) hl hx;have e2:=Z1q hl ha h2;simp only[X.ev]at e1 e2;refine⟨λw=>?_,λk hk=>?_⟩
   ·simp only[Ent.holds,e1,e2,V.toV_v,V.toR_r];exact⟨by simp,World.ownsRow_nil _ _ _ _⟩
   ·simp only[Ent.fp,e1,V.toV_v,Z3,Value.ownBlock]at hk;cases hk
  ·cases h1
 ·rename_i v ks r;simp only[Bool.and_eq_true]at hn;obtain⟨h1,h2⟩:=hn;split at h1
  ·rename_i hx;have e1:=Zhi (Jc:=Jc) hl hx;have e2:=Z1q hl ha h2;simp only[X.ev]at e1 e2;refine⟨λw=>?_,λk hk=>?_⟩
   ·simp only[Ent.holds,e1,e2,V.toV_v,V.toR_r];exact⟨by simp,none,0,rfl,⟨λ_=>rfl,Nat.le_refl _⟩,λh=>absurd rfl h⟩
   ·simp only[Ent.fp,e2,V.toR_r]at hk;exact hk.1 rfl
  ·cases h1
 ·cases hn
theorem Zp2{B:Base}(hl:J.length=n0)(ha:Z11 n0 J Jc):∀{hs cs:List Ent},Zjb n0 xs hs cs=true->Rel B Jc cs w -> Rel B (Z22 J Jc xs) hs w/\∀h∈hs,(∃c∈cs,h.wr=c.wr/\∀k,h.fp (Z22 J Jc xs) k↔c.fp Jc k)\/∀k,¬h.fp (Z22 J Jc xs) k:=by
 intro hs;induction hs with
 | nil=>intro cs hf hr;exact⟨⟨hr.mod,λe he=>by simp at he,λe he=>by simp at he,List.Pairwise.nil⟩,λe he=>by simp at he⟩
 | cons h hs ih =>
  intro cs hf hr;simp only[Zjb]at hf;split at hf
  ·rename_i c cs' hto;obtain⟨hfe,hperm⟩:=Zje hto;have hr1:=hr.perm hperm;have hr':=hr1.sublist (List.sublist_cons_self c cs');obtain⟨h1,h2,h3⟩:=Zlp hl ha hfe;have hcm:c∈cs:=hperm.symm.subset (qy8 ..);split at hf
   case isFalse hcw =>
    obtain⟨i1,i2⟩:=ih hf hr;refine⟨i1.cons ((h2 w).2 (hr.holds c hcm)) (λhw=>absurd (h1.symm.trans hw) hcw) (λe' he' hw k hk hk'=>?_),λe he=>?_⟩
    ·have hw':e'.wr=true:=by
      rcases hw with hw|hw
      ·exact absurd (h1.symm.trans hw) hcw
      ·exact hw
     rcases i2 e' he' with⟨c',hc',hcw',hf'⟩|hno
     ·refine hr.disj hcm hc' (λe=>?_) (.inr (hcw'.symm.trans hw')) ((h3 k).1 hk) ((hf' k).1 hk');subst e;exact hcw (hcw'.symm.trans hw')
     ·exact hno k hk'
    ·rcases List.mem_cons.1 he with rfl|he
     ·exact .inl ⟨c,hcm,h1,h3⟩
     ·exact i2 e he
   case isTrue hcw =>
   obtain⟨i1,i2⟩:=ih hf hr';have hsep:=hr1.sep;unfold Zv at hsep;rw[List.pairwise_cons]at hsep;refine⟨i1.cons ((h2 w).2 (hr1.holds c (qy8 ..))) (λhw k hk=>hr1.own c (qy8 ..) (by rw[<- h1];exact hw) k ((h3 k).1 hk)) (λe' he' hw k hk hk'=>?_),λe he=>?_⟩
   ·rcases i2 e' he' with⟨c',hc',hw',hf'⟩|hno
    ·exact hsep.1 c' hc' (by rw[<- h1,<- hw'];exact hw) k ((h3 k).1 hk) ((hf' k).1 hk')
    ·exact hno k hk'
   ·rcases List.mem_cons.1 he with rfl|he
    ·exact .inl ⟨c,hperm.symm.subset (qy8 ..),h1,h3⟩
    ·rcases i2 e he with⟨c',hc',r⟩|hno
     ·exact .inl ⟨c',hperm.symm.subset (qy10 _ hc'),r⟩
     ·exact .inr hno
  ·simp only[Bool.and_eq_true]at hf;obtain⟨hn,hf⟩:=hf;obtain⟨n1,n2⟩:=Zlq hl ha hn;obtain⟨i1,i2⟩:=ih hf hr;refine⟨i1.cons (n1 w) (λ_ k hk=>absurd hk (n2 k)) (λ_ _ _ k hk _=>n2 k hk),λe he=>?_⟩;rcases List.mem_cons.1 he with rfl|he
   ·exact .inr n2
   ·exact i2 e he
theorem Z5o{J:List V}{a:Act}:∀(vs:List Nat) {cur:St},Inv C cur J a w->Inv C { cur with hp:=Ze1 cur.hp vs } J a w
 | [],_,h=>h
 | v::vs,cur,h=>Z5o vs (cur:={ cur with hp:=Z52 cur.hp v }) ⟨h.len,h.size,h.fr,h.bdf,Zci h.bdh,h.defers,Zch h.rel⟩
theorem Ze9{J:List V}{head cur:St}{a:Act}(h:Inv C cur J a w):Inv C (Ze2 n0 xs head cur) J a w:=Z5o _ h
theorem Zlr{E:Env}{c:Code}{st:St}{J:List V}{a:Act}(h:Inv C st J a w):Inv C (Za1 E c st) J a w:=by
 unfold Za1;split
 ·split
  ·exact Z5o _ h
  ·split
   ·exact Z5o _ h
   ·exact h
 ·exact h
theorem Zp3(E:Env)(c:Code)(st:St):(Za1 E c st).d=st.d:=by
 unfold Za1;split
 ·split
  ·rfl
  ·split<;>rfl
 ·rfl
theorem Zg1{head cur:St}{a:Act}(hl:J.length=n0)(ha:Z11 n0 J Jc)(hf:fits n0 xs head cur=true)(hi:Inv C cur Jc a w):Inv C head (J++xs.map (X.ev Jc)) a w:=by unfold fits at hf;simp only[Bool.and_eq_true,beq_iff_eq]at hf;obtain⟨⟨⟨⟨⟨h1,h2⟩,h3⟩,h4⟩,h5⟩,h6⟩:=hf;obtain⟨f1,f2⟩:=Zp1 h3;exact⟨by simp[hl,h1],by rw[f1];exact hi.size,λj=>Zp0 hl ha (f2 j) (hi.fr j),List.all_eq_true.1 h5,h6,hi.defers,(Zp2 hl ha h4 hi.rel).1⟩
end fit
def Za2(P:Program)(c:Code)(Q:Exit->Act->World->Prop)(a:Act)(w:World):Prop :=
 ∀b k cs,∃e a' w',Q e a' w'/\Arrives P (lone (b.at a (.code c::.inLoop c::k)) cs w) b k cs e a' w'
theorem Z7r{P:Program}{Q:Exit->Act->World->Prop}{a:Act}{w:World}{c:Code}(h:Za2 P c Q a w):(Code.loop c).wp P Q a w:=by intro b k cs;obtain⟨e,a',w',hq,harr⟩:=h b k cs;exact⟨e,a',w',hq,.of_steps (.one step_loop) harr⟩
theorem Z8q{P:Program}{Q:Exit->Act->World->Prop}{a:Act}{w:World}{c:Code}(h:c.wp P (Exit.then (λa' w'=>Za2 P c Q a' w') Q) a w):Za2 P c Q a w:=by
 intro b k cs;obtain⟨e,a₁,w₁,hq,harr⟩:=h b (.inLoop c::k) cs;cases e with
 | normal =>
  obtain⟨e₂,a₂,w₂,hq₂,harr₂⟩:=(show Za2 P c Q a₁ w₁ from hq) b k cs;exact⟨e₂,a₂,w₂,hq₂,.of_steps (Steps.trans harr (.one step_inLoop)) harr₂⟩
 | exit id=>exact⟨_,a₁,w₁,hq,.pass (x:=.inLoop c) rfl (λ_ _=>.inl (by simp)) harr⟩
 | goto l=>exact⟨_,a₁,w₁,hq,.pass (x:=.inLoop c) rfl (λ_ _=>.inl (by simp)) harr⟩
 | ret=>exact⟨_,a₁,w₁,hq,.pass (x:=.inLoop c) rfl (λ_ _=>.inl (by simp)) harr⟩
 | panic ch=>exact⟨_,a₁,w₁,hq,.pass (x:=.inLoop c) rfl (λ_ _=>.inl (by simp)) harr⟩
 | outgrown=>exact⟨_,a₁,w₁,hq,.pass (x:=.inLoop c) rfl (λ_ _=>.inl (by simp)) harr⟩
theorem Zp4{P:Program}{Q:Exit->Act->World->Prop}{a:Act}{w:World}{c:Code}(I:Nat->Act->World->Prop)(h₀:∃n,I n a w) (round:∀n a w,I n a w->c.wp P (Exit.then (λa' w'=>∃m,m<n/\I m a' w') Q) a w):Za2 P c Q a w:=by
 obtain⟨n,hI⟩:=h₀;induction n using Nat.strongRecOn generalizing a w with
 | _ n ih =>
  intro b k cs;obtain⟨e,a₁,w₁,hq,harr⟩:=round n a w hI b (.inLoop c::k) cs;cases e with
  | normal =>
   obtain⟨m,hlt,hI₁⟩:=hq;obtain⟨e₂,a₂,w₂,hq₂,harr₂⟩:=ih m hlt hI₁ b k cs;exact⟨e₂,a₂,w₂,hq₂,.of_steps (Steps.trans harr (.one step_inLoop)) harr₂⟩
  | exit id=>exact⟨_,a₁,w₁,hq,.pass (x:=.inLoop c) rfl (λ_ _=>.inl (by simp)) harr⟩
  | goto l=>exact⟨_,a₁,w₁,hq,.pass (x:=.inLoop c) rfl (λ_ _=>.inl (by simp)) harr⟩
  | ret=>exact⟨_,a₁,w₁,hq,.pass (x:=.inLoop c) rfl (λ_ _=>.inl (by simp)) harr⟩
  | panic ch=>exact⟨_,a₁,w₁,hq,.pass (x:=.inLoop c) rfl (λ_ _=>.inl (by simp)) harr⟩
  | outgrown=>exact⟨_,a₁,w₁,hq,.pass (x:=.inLoop c) rfl (λ_ _=>.inl (by simp)) harr⟩
theorem Zbq{α:Type}{l l':List α}(h:l <+: l'){d:Nat}{x:α}(hx:l[d]?=some x):l'[d]?=some x:=by obtain⟨t,rfl⟩:=h;rw[List.getElem?_append_left (List.getElem?_eq_some_iff.1 hx).1];exact hx
theorem Zp5{js:List (Nat×Nat×Nat)}{st:St}{J:List V}{a:Act}{w:World}(hi:Inv C st J a w):Inv C (Zln js st) J a w:=by
 unfold Zln;split
 ·exact Z7q _ hi
 ·exact hi
theorem Zco{p:Bool}{st:St}{f:St->Tree}{J:List V}{L:List LC}{a:Act}{w:World}(hg:(Zcm p st f).goal C J L)(hi:Inv C st J a w) : ∃st' J',J <+: J'/\st'.d=st.d/\Inv C st' J' a w/\(f st').goal C J' L:=by
 unfold Zcm at hg;split at hg
 ·obtain⟨A,h1,h2,h3⟩:=hg;have hag:Z11 st.n J (J++[.a A]):=by rw[<- hi.len];exact Z11.app J _
  have hbh:=List.all_eq_true.1 hi.bdh;have hi1:=ext0 hi (n:=st.n+1) [.a A] (by simp) (by omega);have hget:(J++[V.a A]).getD st.n (.i 0)=.a A:=by simp[qy1,<- hi.len]
  refine⟨Ze6 st,J++[.a A],List.prefix_append _ _,rfl,⟨hi1.len,hi1.size,hi1.fr,hi1.bdf,?_,hi1.defers,?_⟩,h3⟩
  ·have:=hi1.bdh;simp only[Ze6,List.all_cons,Bool.and_eq_true,Ent.bd,decide_eq_true_eq];exact⟨by omega,this⟩
  ·refine hi1.rel.cons (by simp only[Ent.holds,hget];exact h1 w hi.rel) (λh=>by cases h) (λe' he' hw k hk hk'=>?_);have hw':e'.wr=true:=by
    rcases hw with hw|hw
    ·cases hw
    ·exact hw
   simp only[Ent.fp,hget]at hk;obtain⟨e0,he0,hw0,hk0⟩:=h2 k hk;refine hi1.rel.disj he0 he' (λe=>?_) (.inr hw') ((Ent.fp_bd hag e0 (hbh e0 he0) k).1 hk0) hk';subst e;rw[hw0]at hw';cases hw'
 ·exact⟨st,J,List.prefix_rfl,rfl,hi,hg⟩
theorem Z9b{inl:InlF}{c:Code}{f:St->(EX->St->Tree)->Tree} (hf:∀{st:St} {k:EX->St->Tree} {Q:Exit->Act->World->Prop} {J:List V} {L:List LC} {a:Act} {w:World}, (∀e st' J' L' a' w',L <+: L'->st'.d=L'.length->J <+: J'->(k e st').goal C J' L'->Inv C st' J' a' w'->Q e.to a' w') -> st.d=L.length->(f st k).goal C J L->Inv C st J a w->c.wp C.P Q a w) {st:St} {k:EX->St->Tree} {Q:Exit->Act->World->Prop} {J:List V} {L:List LC} {a:Act} {w:World} (hk:∀e st' J' L' a' w',L <+: L'->st'.d=L'.length->J <+: J'->(k e st').goal C J' L'->Inv C st' J' a' w'->Q e.to a' w') (hd:st.d=L.length) (hg:(Zjc E inl c st k f).goal C J L) (hi:Inv C st J a w):c.wp C.P Q a w:=by
  unfold Zjc at hg;split at hg
  . split at hg
    . exact hg.elim
    rename_i hj _ jd0 hhj;simp only[]at hg;generalize (if Zru E.joins c=true then Ze6 jd0 else jd0)=jd at hg
    simp only[Tree.goal]at hg;obtain⟨I,h1,h2⟩:=hg;refine hf (st:={ st with d:=st.d+1 }) (λe st' J' L' a' w' hL hd' hp hg' hi'=>?_) (by simp[hd]) h1 ⟨hi.len,hi.size,hi.fr,hi.bdf,hi.bdh,hi.defers,hi.rel⟩;have hL0:L <+: L':=(List.prefix_append L _).trans hL;cases e with
    | normal =>
      simp only[]at hg';obtain⟨st'',J'',hp'',hdd'',hi'',hg'⟩:=Zco hg' hi';clear hi';have hi':=hi'';have hp:=hp.trans hp'';split at hg'
      . rename_i hfb;have hget:L'[st.d]?=some ⟨I,λ_=>0,[]⟩:=by
          refine Zbq hL ?_;rw[hd];simp
        simp only[Tree.goal,hget]at hg';obtain⟨t,rfl⟩:=hp;have hv:=Zg1 hi.len (by rw[<- hi.len];exact Z11.app J t) hfb (Ze9 hi');have hlen:(Z19 st.n jd st'').length=jd.n - st.n:=by simp[Z19]
        refine hk .normal { jd with d:=st.d } _ L _ _ List.prefix_rfl hd (List.prefix_append J _) (h2 _ (by rw[qy3,hlen]) hg') ?_;exact⟨hv.len,hv.size,hv.fr,hv.bdf,hv.bdh,hv.defers,hv.rel⟩
      . exact hg'.elim
    | exit id=>exact hk (.exit id) _ _ _ _ _ hL0 hd' hp hg' hi'
    | ret=>exact hk .ret _ _ _ _ _ hL0 hd' hp hg' hi'
  . exact hf hk hd hg hi
theorem Ztl(hE:EnvOK C.P E){inl:InlF}(hI:Zb7 C inl):∀(c:Code) {st:St} {k:EX->St->Tree} {Q:Exit->Act->World->Prop} {J:List V} {L:List LC} {a:Act} {w:World}, (∀e st' J' L' a' w',L <+: L'->st'.d=L'.length->J <+: J'->(k e st').goal C J' L'->Inv C st' J' a' w'->Q e.to a' w') -> st.d=L.length->(ex E inl c st k).goal C J L->Inv C st J a w->c.wp C.P Q a w:=by
 intro c;induction c with
 | skip=>intro st k Q J L a w hk hd hg hi;exact wp_skip (hk .normal _ _ _ _ _ List.prefix_rfl hd List.prefix_rfl hg hi)
 | exit id=>intro st k Q J L a w hk hd hg hi;exact wp_exit (hk (.exit id) _ _ _ _ _ List.prefix_rfl hd List.prefix_rfl hg hi)
 | ret=>intro st k Q J L a w hk hd hg hi;exact wp_ret (hk .ret _ _ _ _ _ List.prefix_rfl hd List.prefix_rfl hg hi)
 | region id ops draw =>
  intro st k Q J L a w hk hd hg hi;cases draw with
  | true =>
   refine Z9b (c:=.region id ops true) (λ{st k Q J L a w} hk hd hg hi=>?_) hk hd (by simpa only[ex]using hg) hi;exact Zfy hE hI hi hd (λst' J' L' a' w' hL hd' hp hg' hi'=>hk .normal _ _ _ _ _ hL hd' hp hg' hi') hg
  | false =>
   refine Z9b (c:=.region id ops false) (λ{st k Q J L a w} hk hd hg hi=>?_) hk hd (by simpa only[ex]using hg) hi;have:=Zop (Q:=Q) hE hI ops.toList hi hd (λst' J' L' a' w' hL hd' hp hg' hi'=>hk .normal _ _ _ _ _ hL hd' hp hg' hi') hg;exact wp_region_list (by simpa using this)
 | seq x y ihx ihy =>
  intro st k Q J L a w hk hd hg hi;simp only[ex]at hg;refine wp_seq (ihx (λe st' J' L' a' w' hL hd' hp hg' hi'=>?_) hd hg hi);cases e with
  | normal=>exact ihy (λe st'' J'' L'' a'' w'' hL' hd'' hp'=>hk e _ _ _ _ _ (hL.trans hL') hd'' (hp.trans hp')) hd' hg' hi'
  | exit id=>exact hk (.exit id) _ _ _ _ _ hL hd' hp hg' hi'
  | ret=>exact hk .ret _ _ _ _ _ hL hd' hp hg' hi'
 | cond c x y ihx ihy =>
  intro st k Q J L a w hk hd hg hi;refine Z9b (c:=.cond c x y) (λ{st k Q J L a w} hk hd hg hi=>?_) hk hd (by simpa only[ex]using hg) hi;split at hg
  ·rename_i hc;exact wp_cond_true (hi.rd_ok rfl hc) (ihx hk hd hg hi)
  ·rename_i hc;exact wp_cond_false (hi.rd_ok rfl hc) (ihy hk hd hg hi)
  ·rename_i b _ _ hc;have hcl:∀{v:Bool},(if Zlo E.joins=true then clB b else none)=some v->(b.ev J).toB=v:=λ{v} h=>by
    split at h
    ·exact Zt9 h
    ·cases h
   split at hg
   ·rename_i hx;refine wp_cond_split (hi.rd_ok rfl hc) (λht=>ihx hk hd hg hi) (λhf=>?_);have:=hcl hx;rw[hf]at this;cases this
   ·rename_i hx;refine wp_cond_split (hi.rd_ok rfl hc) (λht=>?_) (λhf=>ihy hk hd hg hi);have:=hcl hx;rw[ht]at this;cases this
   ·obtain⟨h1,h2⟩:=hg;refine wp_cond_split (hi.rd_ok rfl hc) (λht=>ihx hk hd (h1 ((X.P_iff _ _).2 ht)) hi) (λhf=>ihy hk hd (h2 (λhp=>?_)) hi);rw[(X.P_iff _ _).1 hp]at hf;cases hf
  ·exact hg.elim
 | block id c ih =>
  intro st k Q J L a w hk hd hg hi;refine Z9b (c:=.block id c) (λ{st k Q J L a w} hk hd hg hi=>?_) hk hd (by simpa only[ex]using hg) hi;refine wp_block (ih (λe st' J' L' a' w' hL hd' hp hg' hi'=>?_) hd hg hi);cases e with
  | normal=>exact hk .normal _ _ _ _ _ hL hd' hp hg' hi'
  | ret=>exact hk .ret _ _ _ _ _ hL hd' hp hg' hi'
  | exit i =>
   simp only[EX.to,Exit.inBlock];simp only[]at hg';by_cases hid:i=id
   ·rw[if_pos hid]at hg'⊢;exact hk .normal _ _ _ _ _ hL hd' hp hg' hi'
   ·rw[if_neg hid]at hg'⊢;exact hk (.exit i) _ _ _ _ _ hL hd' hp hg' hi'
 | loop c ih =>
  intro st k Q J L a w hk hd hg hi;have walk:∀{st:St} {J:List V} {L:List LC} {a:Act} {w:World},(∀e st' J' L' a' w',L <+: L'->st'.d=L'.length->J <+: J'->(k e st').goal C J' L'->Inv C st' J' a' w'->Q e.to a' w')->st.d=L.length ->
    Tree.goal C (Zcm (Z2b E.joins c) (Za1 E c st) λst=>let hd:=Ze0 E.T c st (Zhh (Z2b E.joins c) st) (Zhg E.joins c)
     if fits st.n hd.2 hd.1 st=true then
      .loop hd.2 (ex E inl c { hd.1 with d:=st.d+1 } λe cur=>match e with
       | .normal=>Zcm (Z2b E.joins c) (Zln E.joins cur) λcur=>if fits st.n (Z19 st.n hd.1 cur) hd.1 (Ze2 st.n (Z19 st.n hd.1 cur) hd.1 cur)=true then .back st.d (Z19 st.n hd.1 cur)else .stuck (Zlh st.n (Z19 st.n hd.1 cur) hd.1 cur)
       | e=>k e cur)
     else .stuck "a loops head") J L->Inv C st J a w->Za2 C.P c Q a w:=by
   intro st0 J0 L a w hk0 hd0 hg0 hi0;obtain⟨st,J,hpre,hdd,hi,hg⟩:=Zco hg0 (Zlr hi0);have hd:st.d=L.length:=(hdd.trans (Zp3 ..)).trans hd0;have hk:∀e st' J' L' a' w',L <+: L'->st'.d=L'.length->J <+: J'->(k e st').goal C J' L'->Inv C st' J' a' w'->Q e.to a' w':=λe st' J' L' a' w' hL hd' hp=>hk0 e st' J' L' a' w' hL hd' (hpre.trans hp);simp only[]at hg;generalize Ze0 E.T c st (Zhh (Z2b E.joins c) st) (Zhg E.joins c)=HD at hg
   split at hg
   ·rename_i hfit;simp only[Tree.goal]at hg;obtain⟨I,μ,hI0,hround⟩:=hg;have hag0:Z11 st.n J J:=λ_ _=>rfl;refine Zp4 (λn a' w'=>∃vs,vs.length=HD.2.length/\I vs/\μ vs=n/\Inv C { HD.1 with d:=st.d+1 } (J++vs) a' w') ⟨_,_,by simp,hI0,rfl,?_⟩ ?_
    ·have:=Zg1 hi.len hag0 hfit hi;exact⟨this.len,this.size,this.fr,this.bdf,this.bdh,this.defers,this.rel⟩
    ·rintro n a' w' ⟨vs,hvl,hI,rfl,hi'⟩;refine ih (λe st' J' L' a'' w'' hL hd' hp hg' hi''=>?_) (by simp[hd]) (hround vs hvl hI) hi';have hL0:L <+: L':=(List.prefix_append L _).trans hL;have hp0:J <+: J':=(List.prefix_append J _).trans hp;cases e with
     | normal =>
      simp only[]at hg';obtain⟨st'',J'',hp'',hdd'',hi3,hg'⟩:=Zco hg' (Zp5 hi'');have hp0:J <+: J'':=hp0.trans hp'';split at hg'
      ·rename_i hfb;have hget:L'[st.d]?=some ⟨I,μ,vs⟩:=by
        refine Zbq hL ?_;rw[hd];simp
       simp only[Tree.goal,hget]at hg';obtain⟨g1,g2⟩:=hg';refine⟨_,g2,_,?_,g1,rfl,?_⟩
       ·unfold fits at hfit hfb;simp only[Bool.and_eq_true,beq_iff_eq]at hfit hfb;simp;omega
       ·obtain⟨t,rfl⟩:=hp0;have:=Zg1 hi.len (by rw[<- hi.len];exact Z11.app J t) hfb (Ze9 hi3);exact⟨this.len,this.size,this.fr,this.bdf,this.bdh,this.defers,this.rel⟩
      ·exact hg'.elim
     | exit id=>exact hk (.exit id) _ _ _ _ _ hL0 hd' hp0 hg' hi''
     | ret=>exact hk .ret _ _ _ _ _ hL0 hd' hp0 hg' hi''
   ·exact hg.elim
  simp only[ex]at hg;split at hg
  ·have key:∀(D:List Nat) (n:Nat) {st:St} {J:List V} {L:List LC} {a:Act} {w:World},(∀e st' J' L' a' w',L <+: L'->st'.d=L'.length->J <+: J'->(k e st').goal C J' L'->Inv C st' J' a' w'->Q e.to a' w')->st.d=L.length ->
     Tree.goal C (Zcn D (λst k=>ex E inl c st k) n st k) J L->Inv C st J a w->Za2 C.P c Q a w:=by
    intro D n;induction n with
    | zero=>intro st J L a w hk hd hg hi;exact hg.elim
    | succ n ihn =>
     intro st J L a w hk hd hg hi;simp only[Zcn]at hg;refine Z8q (ih (λe st' J' L' a' w' hL hd' hp hg' hi'=>?_) hd hg hi);have hk':∀e st'' J'' L'' a'' w'',L' <+: L''->st''.d=L''.length->J' <+: J''->(k e st'').goal C J'' L''->Inv C st'' J'' a'' w''->Q e.to a'' w'' :=
      λe st'' J'' L'' a'' w'' hL' hd'' hp'=>hk e _ _ _ _ _ (hL.trans hL') hd'' (hp.trans hp')
     cases e with
     | normal=>exact ihn (st:=Zrq D st') hk' hd' hg' (Zov hi')
     | exit id=>exact hk (.exit id) _ _ _ _ _ hL hd' hp hg' hi'
     | ret=>exact hk .ret _ _ _ _ _ hL hd' hp hg' hi'
   exact Z7r (key _ 40 hk hd hg hi)
  split at hg
  ·refine Z7r (Z8q (ih (λe st' J' L' a' w' hL hd' hp hg' hi'=>?_) hd hg hi));have hk':∀e st'' J'' L'' a'' w'',L' <+: L''->st''.d=L''.length->J' <+: J''->(k e st'').goal C J'' L''->Inv C st'' J'' a'' w''->Q e.to a'' w'' :=
    λe st'' J'' L'' a'' w'' hL' hd'' hp'=>hk e _ _ _ _ _ (hL.trans hL') hd'' (hp.trans hp')
   cases e with
   | normal=>exact walk (st:=Zcl c st st') hk' hd' hg' (Zfz hi')
   | exit id=>exact hk (.exit id) _ _ _ _ _ hL hd' hp hg' hi'
   | ret=>exact hk .ret _ _ _ _ _ hL hd' hp hg' hi'
  ·exact Z7r (walk hk hd hg hi)
 | rangeFunc f params assign body=>intro st k Q J L a w hk hd hg hi;exact hg.elim
 | scope c=>intro st k Q J L a w hk hd hg hi;exact hg.elim
 | label l=>intro st k Q J L a w hk hd hg hi;exact hg.elim
 | goto l=>intro st k Q J L a w hk hd hg hi;exact hg.elim
 | refuse s=>intro st k Q J L a w hk hd hg hi;exact hg.elim
def Zea(E:Env)(st:St):ResultVar->Option CV
 | .tmp t=>match st.slot t with | .cv c=>some c|_=>none
 | .cell a t=>match st.slot a with
  | .cv (false,[.ptr v off])=>match loadAt E.T st.hp t (.ptr v off)with|some ([],c)=>some c|_=>none
  | _=>none
def Z8r(E:Env)(st:St):List ResultVar->Option (List CV)
 | []=>some []
 | r::rs=>do let c <- Zea E st r;let cs <- Z8r E st rs;some (c::cs)
def Zg2(E:Env)(rs:List ResultVar)(keep:Bool)(st:St):Tree :=
 match Z8r E st rs with
 | some [c]=>.ret (.cv c) (forMem (keep || SV.mem (.cv c)) st.hp)
 | some cs=>.ret (.tup cs) (forMem (keep || SV.mem (.tup cs)) st.hp)
 | none=>.stuck "results"
def inlN(E:Env):Nat->InlF
 | 0=>λ_ _ _ _=>none
 | m+1=>λf args st k=>match E.inl.find? λp=>p.1 == f with
  | none=>none
  | some (_,fn)=>match fn.body with
   | none=>none
   | some c=>if(E.fs.contains f && args.all (λs=>s.bd st.n && s.isVal))=true then
     some (ex E (inlN E m) c { n:=st.n,d:=st.d,fr:=args++List.replicate (fn.ntmps - args.length) .dead,hp:=st.hp } λe st'=>match e with
      | .exit _=>.stuck "an exit of no block"
      | _=>match Z8r E st' fn.results.toList with
       | some [c]=>k (.cv c) st'
       | some cs=>k (.tup cs) st'
       | none=>.stuck "results")
    else none
def Zqn(E:Env)(ntmps:Nat)(rs:List ResultVar)(c:Code)(n:Nat)(args:List SV)(hp:List Ent):Tree :=
 ex E (inlN E 8) c { n:=n,d:=0,fr:=args++List.replicate (ntmps - args.length) .dead,hp:=hp } λe st=>match e with
  | .exit _=>.stuck "an exit of no block"
  | _=>Zg2 E rs (hp.any Ent.wr) st
theorem Zls(hE:EnvOK C.P E){st:St}{J:List V}{a:Act}{w:World}(hi:Inv C st J a w){r:ResultVar}{c:CV}(h:Zea E st r=some c) (G:ResultVar->Sem Value) (h1:∀t,G (.tmp t)=pure (a.tmps.getD t undef)) (h2:∀x t,G (.cell x t)=(do loadVar t (<- asAddr (a.tmps.getD x undef)))):(G r).run C.P w=.ok (CV.ev J c) w:=by
 cases r with
 | tmp t =>
  simp only[Zea]at h;have hrel:=hi.fr t;split at h
  ·rename_i c' hs;simp at h;subst h;rw[hs]at hrel;have hrel:a.tmps.getD t undef=CV.ev J c':=hrel;rw[h1,hrel,Sem.run_pure]
  ·cases h
 | cell x t =>
  simp only[Zea]at h;have hrel:=hi.fr x;split at h
  ·rename_i v off hs;rw[hs]at hrel;have hrel:a.tmps.getD x undef=.pointer (some ⟨(J.getD v (.i 0)).toN,off,none⟩):=hrel;split at h
   ·rename_i c' hl;simp at h;subst h;have:=Zdp hE.tab hi.rel.holds hl (λ_ h=>by simp at h);simp only[Instr.loadAt,Instr.sureAddr,Sc.ev,Sem.run_bind,Sem.run_pure,Result.andThen_ok]at this;rw[h2,hrel];simp only[asAddr,Sem.run_bind,Sem.run_pure,Result.andThen_ok];exact this
   ·cases h
  ·cases h
theorem Zjf{st:St}:∀{rs:List ResultVar} {cs:List CV},Z8r E st rs=some cs->cs.length=rs.length/\∀(n:Nat) r c,rs[n]?=some r->cs[n]?=some c->Zea E st r=some c:=by
 intro rs;induction rs with
 | nil=>intro cs h;simp[Z8r]at h;subst h;simp
 | cons r rs ih =>
  intro cs h;simp only[Z8r,Option.bind_eq_bind,Option.bind_eq_some_iff,Option.some.injEq]at h;obtain⟨c,hc,cs',hcs,rfl⟩:=h;obtain⟨i1,i2⟩:=ih hcs;refine⟨by simp[i1],λn x y hx hy=>?_⟩;cases n
  ·simp at hx hy;subst hx hy;exact hc
  ·exact i2 _ x y (by simpa using hx) (by simpa using hy)
theorem Z5p(hE:EnvOK C.P E){st:St}{J:List V}{a:Act}{w:World}(hi:Inv C st J a w){fn:Func}{cs:List CV}(h:Z8r E st fn.results.toList=some cs) : (results fn a.tmps).run C.P w=.ok (match cs with | [c]=>CV.ev J c|cs=>.tuple (cs.map (CV.ev J)).toArray) w:=by
 obtain⟨r1,r2⟩:=Zjf h;have key:∀G:ResultVar->Sem Value,(∀t,G (.tmp t)=pure (a.tmps.getD t undef))->(∀x t,G (.cell x t)=(do loadVar t (<- asAddr (a.tmps.getD x undef)))) ->
   (fn.results.mapM G).run C.P w=.ok (cs.map (CV.ev J)).toArray w:=by
  intro G h1 h2;have e:=Zgr (P:=C.P) G w fn.results.toList (cs.map (CV.ev J)) (by simpa using r1) (λn x y hx hy=>by simp only[List.getElem?_map,Option.map_eq_some_iff]at hy;obtain⟨c,hc,rfl⟩:=hy;exact Zls hE hi (r2 n x c hx hc) G h1 h2)
  obtain⟨l,hl⟩:∃l,fn.results=⟨l⟩:=⟨fn.results.toList,rfl⟩
  rw[hl]at e⊢;rw[List.mapM_toArray];simp[go_sem,e]
 unfold results;rw[Sem.run_bind,key _ (λ_=>rfl) (λ_ _=>rfl)];simp only[Result.andThen_ok,Sem.run_pure]
 match cs with
 | []=>rfl
 | [c]=>rfl
 | _::_::_=>simp
theorem Inv.begin{fn:Func}{args:List SV}{J:List V}{hp:List Ent}{w:World}{n d:Nat}(hn:J.length=n)(hrel:Rel C.B J hp w)(hbh:hp.all (Ent.bd n)=true)(hba:args.all (λs=>s.bd n && s.isVal)=true){a:Act} (ht:a.tmps=(args.map (SV.ev J)).toArray++Array.replicate (fn.ntmps - (args.map (SV.ev J)).toArray.size) undef) (hd:a.defers=[]) : Inv C { n:=n,d:=d,fr:=args++List.replicate (fn.ntmps - args.length) .dead,hp:=hp } J a w:=by
 have hba:=List.all_eq_true.1 hba;refine⟨hn,?_,λj=>?_,λs hs=>?_,hbh,hd,hrel⟩
 ·rw[ht];simp
 ·rw[ht];simp only[St.slot,qy1,Array.getD_eq_getD_getElem?];by_cases hj:j<args.length
  ·rw[List.getElem?_append_left hj,Array.getElem?_append_left (by simpa using hj)];simp only[List.getElem?_toArray,List.getElem?_map,qy7 hj,Option.map_some,Option.getD_some];have:=hba _ (List.getElem_mem hj);simp only[Bool.and_eq_true]at this;exact SV.rel_of_ev rfl this.2
  ·rw[List.getElem?_append_right (by omega)];cases hr:(List.replicate (fn.ntmps - args.length) SV.dead)[j - args.length]? with
   | none=>trivial
   | some s =>
    have:=qy6 hr;simp at this;rw[this.2];trivial
 ·rcases qy13.1 hs with hs|hs
  ·have:=hba s hs;simp only[Bool.and_eq_true]at this;exact this.1
  ·simp at hs;rw[hs.2];rfl
theorem Zrw(hE:EnvOK C.P E):∀m,Zb7 C (inlN E m):=by
 intro m;induction m with
 | zero=>intro f args st k t J a w L Q h;cases h
 | succ m ih =>
  intro f args st k t J a w L Q h hi hd hk hg;simp only[inlN]at h;split at h
  ·cases h
  ·rename_i q fn hfind;have hfn:=hE.inl _ (List.mem_of_find?_eq_some hfind);have hqf:=List.find?_some hfind;simp only[beq_iff_eq]at hqf;subst hqf;split at h
   ·cases h
   ·rename_i c hb;simp only[Option.ite_none_right_eq_some,Option.some.injEq,Bool.and_eq_true]at h;obtain⟨⟨hfs,hba⟩,rfl⟩:=h;refine⟨hE.fs _ (by simpa using hfs),calls_of_wp hfn hb ?_⟩;refine Ztl (L:=L) (inl:=inlN E m) hE ih c ?_ (by exact hd) hg (Inv.begin (fn:=fn) hi.len hi.rel hi.bdh hba rfl rfl);intro e st' J' L' a' w' hL hd' hp hg hi';have key:(match Z8r E st' fn.results.toList with
       | some [c]=>k (.cv c) st'
       | some cs=>k (.tup cs) st'
       | none=>.stuck "results" : Tree).goal C J' L'->a'.defers=[]/\∃v,(results fn a'.tmps).run C.P w'=.ok v w'/\Q (.returned v) w':=by
     intro hg;refine⟨hi'.defers,?_⟩;split at hg
     ·rename_i c hr;exact⟨_,Z5p hE hi' hr,hk _ _ _ _ _ _ hL hd' hp hg hi' rfl⟩
     ·rename_i cs hne hr;refine⟨_,Z5p hE hi' hr,?_⟩;have:=hk _ _ _ _ _ _ hL hd' hp hg hi' rfl
      match cs,hne,this with
      | [],_,this=>exact this
      | [c],hne,_=>exact(hne c rfl).elim
      | _::_::_,_,this=>exact this
     ·exact hg.elim
    cases e with
    | normal=>exact key hg
    | ret=>exact key hg
    | exit id=>exact hg.elim
theorem Ztm(hE:EnvOK C.P E){f:FuncId}{fn:Func}{c:Code}{args:List SV}{J:List V}{hp:List Ent}{w:World}(hf:C.P.funcs[f]?=some fn)(hb:fn.body=some c) (hrel:Rel C.B J hp w) (hbh:hp.all (Ent.bd J.length)=true) (hba:args.all (λs=>s.bd J.length && s.isVal)=true) (h:(Zqn E fn.ntmps fn.results.toList c J.length args hp).goal C J []):Calls C.P f (args.map (SV.ev J)).toArray w C.R:=by
 refine calls_of_wp hf hb ?_;refine Ztl (L:=[]) (inl:=inlN E 8) hE (Zrw hE 8) c ?_ rfl h (Inv.begin (fn:=fn) rfl hrel hbh hba rfl rfl);intro e st' J' L' a' w' _ _ _ hg hi;have key:(Zg2 E fn.results.toList (hp.any Ent.wr) st').goal C J' L'->a'.defers=[]/\∃v,(results fn a'.tmps).run C.P w'=.ok v w'/\C.R (.returned v) w':=by
  intro hg;refine⟨hi.defers,?_⟩;unfold Zg2 at hg;split at hg
  ·rename_i c hr;exact⟨_,Z5p hE hi hr,hg w' (hi.rel.forMem _)⟩
  ·rename_i cs hne hr;refine⟨_,Z5p hE hi hr,?_⟩;have:=hg w' (hi.rel.forMem _)
   match cs,hne,this with
   | [],_,this=>exact this
   | [c],hne,_=>exact(hne c rfl).elim
   | _::_::_,_,this=>exact this
  ·exact hg.elim
 cases e with
 | normal=>exact key hg
 | ret=>exact key hg
 | exit id=>exact hg.elim
