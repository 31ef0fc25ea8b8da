/- By an AI agent. -/
import Derived.Test.YtimapehenhbloaaGreatDoorH03
set_option linter.all false
set_option maxHeartbeats 20000000
set_option maxRecDepth 100000
open Option renaming ite_none_right_eq_some→ϐ,some→ϔ,some→ϙ,none→Ϭ,map_none→ϯ,map_eq_some_iff→ϻ
open List renaming take_append_drop→ϑ,take_append_of_le_length→ϒ,all_eq_true→ϕ,mem_of_mem_take→ϖ,replicate→Ϙ,eq_of_mem_replicate→Ϛ,drop_append_of_le_length→Ϝ,drop_length_add_append→Ϡ,prefix_append→Ϣ,mem_map→ϣ,flatten_append→Ϥ,take_of_length_le→Ϧ,take_length_add_append→ϧ,flatten_cons→Ϩ,getElem?_eq_some_iff→Ϫ,prefix_rfl→Ϯ,getElem?_append_right→ϱ,take_take→ϲ,getElem?_append_left→ϳ,mem_or_eq_of_mem_set→Ϸ,take_length→ϸ,length_take→Ϲ,flatten_eq_nil_iff→Ϻ,getElem?_eq_none→β,getElem_toArray→γ,mem_of_mem_drop→δ,map_cons→ζ,size_toArray→η,pairwise_map→θ,append_assoc→μ,getElem?_map→ν,getElem_map→ξ,mem_flatten→π,map_toArray→υ,Pairwise→ω
open Bool renaming and_eq_true→ϓ,true→ϩ,false→Γ
open Nat renaming mul_le_mul_right→ϗ,succ_mul→ϥ,le_refl→ϫ,zero_add→ϰ,mul_le_mul_left→ε,zero_le→φ,min_eq_left→χ,zero_mul→Δ,sub_self→Θ,add_mul→Ξ
open Array renaming length_toList→Ϟ,ext'→ψ
open Go renaming Value→ϭ
namespace Go.Sx
open Go
variable {C:Cx} {st:St} {J:List V} {a:Act} {w:World} {E:Env} {L:List LC}
variable{w':World}
def Inv.bindEnt(hi:Inv C st J a w){hp':List Ent}(hr:Rel C.B J hp' w')(hb:hp'.all (Ent.bd st.n)=ϩ)(v:V)(e:Ent)(heb:e.bd (st.n+1)=ϩ)(hh:e.holds (J++[v]) w')(ho:e.wr=ϩ->∀k,e.fp (J++[v]) k->C.B.w0.heap.size<=k\/k∈C.B.fp)(hd:∀e'∈hp',(e.wr=ϩ\/e'.wr=ϩ)->∀k,e.fp (J++[v]) k->e'.fp J k->False):Inv C { st with n:=st.n+1,hp:=e::hp' } (J++[v]) a w':=by
 have hi1:=ext0 (hi.heap hb hr) (n:=st.n+1) [v] O1 O1;have hag:Z18 st.n J (J++[v]):=by rw[<- hi.len];exact Z18.app J _
 exact⟨hi1.len,hi1.size,hi1.fr,hi1.bdf,(by simp only[List.all_cons,ϓ];exact⟨heb,hi1.bdh⟩),hi1.defers,hi1.rel.cons hh ho λe' he' hw k hk hk'=>hd e' he' hw k hk ((Ent.fp_bd hag e' (ϕ.1 hb e' he') k).2 hk')⟩
def Zr(hl:J.length=st.n)(v:V):(J++[v]).getD st.n (.i 0)=v:=by rw[<- hl];simp
variable{v:ϭ}
def Z68(hl:J.length=st.n)(h1:v.oneCell'=ϩ):(Zci st.n).rel (J++[.v v]) v:=by simp only[SV.rel,Zci,SV.ev,CV.ev,Sc.ev,X.ev,Zr hl,V.toV_v,Z1bi v h1]
variable{n e:Nat}{ks:List Kd}{r:X}
def Inv.ownNew{st2:St}(hi2:Inv C st2 (J++[.v v]) a w')(hl:J.length=n)(hm:Ent.row n e ks r∈st2.hp):∀k,Z1 v k->C.B.w0.heap.size<=k\/k∈C.B.fp:=λk hk =>
  hi2.rel.own _ hm rfl k (by
    have e:(J++[V.v v]).getD n (.i 0)=.v v:=by rw[<- hl];simp
    simp only[Ent.fp,e];exact hk)
def Zm1(hl:J.length=st.n)(v:V){x:X}(hx:x.bd st.n=ϩ):x.ev (J++[v])=x.ev J :=
 (X.ev_bd (by rw[<- hl];exact Z18.app J _) x hx).symm
def Zto:∀{cs:List Sc} {x:X},rowX cs=ϙ x->(x.ev J).toL=cs.map (Sc.ev J):=by
 intro cs;induction cs with
 | nil=>intro x h;simp[rowX]at h;subst h;rfl
 | cons s cs ih =>
  intro x h;cases s<;>simp only[rowX,ϻ]at h;all_goals first
   | (obtain⟨r,hr,rfl⟩:=h;simp[X.ev,Sc.ev,ih hr])
   | cases h
def Zcj:∀{ks:List Kd} {cs:List Sc},Z7j ks cs=ϩ->rowOk ks (cs.map (Sc.ev J)):=by
 intro ks;induction ks with
 | nil=>intro cs h;cases cs<;>simp[Z7j]at h;trivial
 | cons k ks ih =>
  intro cs h;cases cs with
  | nil=>simp[Z7j]at h
  | cons s cs =>
   simp only[Z7j,ϓ]at h;refine⟨?_,ih h.2⟩;have h1:=h.1;have hone:=Sc.ev_one J s;cases k<;>cases s<;>simp only[Z11l,Bool.false_eq_true,beq_iff_eq]at h1<;>simp only[Kd.ok]<;>first
    | exact hone
    | (subst h1;exact⟨_,rfl⟩)
    | exact⟨_,rfl⟩
def Z17u:∀{n:Nat} {cs:List Sc} {r:X},Z11m ks n cs=ϙ r->cs.length=n*ks.length -> (r.ev J).toR.flatten=cs.map (Sc.ev J)/\(r.ev J).toR.length=n/\∀row∈(r.ev J).toR,rowOk ks row:=by
 intro n;induction n with
 | zero=>intro cs r h hl;simp[Z11m]at h;subst h;simp at hl;subst hl;simp[X.ev]
 | succ n ih =>
  intro cs r h hl;simp only[Z11m,Option.bind_eq_bind,Option.bind_eq_some_iff]at h;obtain⟨r0,h0,x,hx,h⟩:=h;simp only[ϐ,ϔ.injEq]at h;obtain⟨hk,rfl⟩:=h;have hl':(n+1)*ks.length=n*ks.length+ks.length:=ϥ n ks.length;obtain⟨i1,i2,i3⟩:=ih h0 O3;have htake:(cs.drop (n*ks.length)).take ks.length=cs.drop (n*ks.length):=Ϧ O3;rw[htake]at hx hk;have hrow:=Zto (J:=J) hx;simp only[X.ev,V.toR_r];refine⟨by rw[Ϥ,i1,hrow];simp[<- List.map_append,ϑ],by simp[i2],λrow hrw=>?_⟩;rcases qy13.1 hrw with h|h
  ·exact i3 row h
  simp only[qy12]at h;rw[h,hrow];exact Zcj hk
variable(zs:List Sc)
def Z69(n:Nat):(reps zs n).length=n*zs.length:=by
 induction n with
 | zero=>simp[reps]
 | succ n ih=>simp[reps,ih,ϥ]
def Z17v(n j:Nat)(hj:j<n*zs.length):(reps zs n)[j]?=zs[j % zs.length]?:=by
 induction n with
 | zero=>simp at hj
 | succ n ih =>
  simp only[reps];by_cases h:j<n*zs.length
  ·rw[ϳ (by rw[Z69];exact h),ih h]
  rw[ϱ (by rw[Z69];omega),Z69];have hm:j % zs.length=j - n*zs.length:=by rw[ϥ]at hj;have e:j=(j - n*zs.length)+n*zs.length:=O;rw[e,Nat.add_mul_mod_self_right,Nat.mod_eq_of_lt O];omega
  rw[hm]
variable{len:Nat}
def Zw1{z:Array ϭ}{zs:List Sc}(hz:z=(zs.map (Sc.ev J)).toArray)(hpos:0<zs.length): (Array.range (len*zs.length)).map (λi=>z[i % z.size]!)=((reps zs len).map (Sc.ev J)).toArray:=by
 subst hz;apply Array.ext
 ·simp[Z69]
 intro i h1 h2;simp only[Array.size_map,Array.size_range]at h1;have hm:i % zs.length<zs.length:=Nat.mod_lt _ hpos;have:=Z17v zs len i h1;simp only[Array.getElem_map,Array.getElem_range,η,qy3,γ,ξ];rw[getElem!_pos _ _ (by simpa using hm)];simp only[γ,ξ];congr 1;have h3:i<(reps zs len).length:=by rw[Z69];exact h1
 rw[qy7 h3,qy7 hm]at this;simpa using this.symm
variable{P:Program}{t:Nat}{inf:TypeInfo}{z:ϭ}
def Zlc{zs cs:List Sc}{parts:Array (Nat×ϭ)}(hd:P.underlying t=ϙ (.slice e))(hi:P.info? e=ϙ inf)(hz:inf.zero=ϙ z)(hz0:z.cells=(zs.map (Sc.ev J)).toArray)(hs:inf.size=zs.length)(hsm:len*zs.length<=16777216)(hpos:0<zs.length)(hfill:Instr.fill (λi=>ϙ (i*zs.length,zs.length)) ((reps zs len).map (Sc.ev J)).toArray parts.toList=ϙ (cs.map (Sc.ev J)).toArray): (Instr.buildSlice t len parts).run P w=.ok (.slice (ϙ ⟨w.heap.size,0,Ϭ⟩) len len) (w.alloc (.cells (cs.map (Sc.ev J)).toArray e)):=by
 have e1:(zeroValue e).run P w=.ok z w:=by simp[go_sem,zeroValue,typeInfo,hi,hz]
 have e2:=run_underlying hd w;have e3:(sizeOf e).run P w=.ok zs.length w:=by simp[go_sem,sizeOf,typeInfo,hi,hs]
 have hle:¬len*zs.length > 2 ^ 24:=O;unfold Instr.buildSlice;rw[Sem.run_bind,e2];simp only[Result.andThen_ok];rw[Sem.run_bind,e3];simp only[Result.andThen_ok,hle,if_false];by_cases h0:len*zs.length=0
 ·have hl0:len=0:=by rcases Nat.mul_eq_zero.1 h0 with h|h<;>omega
  subst hl0;simp only[Δ,if_true]at *;simp only[reps,List.map_nil]at hfill;simp[go_sem,hfill,newRow]
 simp only[h0,if_false];rw[Sem.run_bind,e1];simp only[Result.andThen_ok];rw[Sem.run_bind,Sem.run_pure];simp only[Result.andThen_ok];rw[Zw1 hz0 hpos,hfill];simp[go_sem,newRow]
def Inv.newRow(hi:Inv C st J a w){cs:Array ϭ}(hb:r.bd st.n=ϩ)(hf:(r.ev J).toR.flatten=cs.toList)(hl:(r.ev J).toR.length=len)(hk:∀row∈(r.ev J).toR,rowOk ks row)(hlen:len<=maxLen): Inv C { st with n:=st.n+1,hp:=.row st.n e ks r::st.hp } (J++[.v (.slice (ϙ ⟨w.heap.size,0,Ϭ⟩) len len)]) a (w.alloc (.cells cs e)):=by
 have hfl:=Zk (λr hr=>(hk r hr).length);have hcs:cs.size=len*ks.length:=by rw[<- Ϟ,<- hf,hfl,hl]
 refine hi.bindEnt (hi.rel.alloc _) hi.bdh _ _ (by simp only[Ent.bd,ϓ,ϡ];exact⟨O,X.bd_mono O _ hb⟩) ?_ (by intro _ k hk';simp only[Ent.fp,Zr hi.len,V.toV_v,Z1,Value.ownBlock,ϔ.injEq]at hk';subst hk';exact .inl hi.rel.mod.size) (by intro e' he' _ k hk' hk2;simp only[Ent.fp,Zr hi.len,V.toV_v,Z1,Value.ownBlock,ϔ.injEq]at hk';have:=Ent.bound (hi.rel.holds e' he') hk2;omega);simp only[Ent.holds,Zr hi.len,V.toV_v,Zm1 hi.len _ hb];refine⟨hk,by rw[hfl],.inr ⟨w.heap.size,len,cs,by rw[hl],φ _,?_,by rw[hl];exact ϫ _,hlen,hcs,by rw[hl,<- hcs,hf,<- Ϟ,ϸ]⟩⟩
 show(w.heap.push _)[w.heap.size]?=_
 simp
variable{hp:List Ent}
def Z5f{B:Base}{v:Nat}(h:Rel B J hp w):Rel B J (Zag hp v) w:=by
 have key:∀e:Ent,∀e':Ent,e'=(match e with | .row u ty ks r=>if u=v then Ent.rd u ks r else .row u ty ks r|e=>e) ->
   (e'.wr=ϩ->e.wr=ϩ)/\(∀k,e'.fp J k->e.fp J k)/\(∀w,e.holds J w->e'.holds J w):=by
  intro e e' he';cases e with
  | row u ty ks r =>
   simp only[]at he';split at he'
   ·subst he';exact⟨(λh=>by cases h),λk hk=>hk.2,λw=>owns.reads⟩
   subst he';exact⟨id,λk=>id,λw=>id⟩
  | _=>subst he';exact⟨id,λk=>id,λw=>id⟩
 refine⟨h.mod,λe he=>(by simp only[Zag,ϣ]at he;obtain⟨x,hx,he⟩:=he;exact(key x e he.symm).2.2 w (h.holds x hx)),λe he hw k hk=>(by simp only[Zag,ϣ]at he;obtain⟨x,hx,he⟩:=he;obtain⟨h1,h2,-⟩:=key x e he.symm;exact h.own x hx (h1 hw) k (h2 k hk)),by unfold Zt Zag;rw[θ];refine ω.imp_of_mem (λ{x y} _ _ hxy=>?_) h.sep;obtain⟨h1,h2,-⟩:=key x _ rfl;obtain⟨h1',h2',-⟩:=key y _ rfl;intro hw k ha hb;exact hxy (hw.imp h1 h1') k (h2 k ha) (h2' k hb)⟩
def Znz{v:Nat}(h:hp.all (Ent.bd n)=ϩ):(Zag hp v).all (Ent.bd n)=ϩ:=by
 refine ϕ.2 λe he=>?_;simp only[Zag,ϣ]at he;obtain⟨x,hx,he⟩:=he;have:=ϕ.1 h x hx;cases x with
 | row u ty ks r=>simp only[]at he;split at he<;>subst he<;>exact this
 | _=>subst he;exact this
def Z17w(r y:X):((Ztl r y).ev J).toR=(r.ev J).toR++(y.ev J).toR:=by unfold Ztl;split<;>simp[X.ev]
def Zw2{y:X}(h1:r.bd n=ϩ)(h2:y.bd n=ϩ):(Ztl r y).bd n=ϩ:=by
 unfold Ztl;split
 ·simp only[X.bd,ϓ]at h2⊢;exact⟨h1,h2.2⟩
 simp only[X.bd,ϓ];exact⟨h1,h2⟩
variable{ty:Nat}
def Zm2{u:ϭ}{rv ru:List (List ϭ)}{bytes:Nat}(hd:P.underlying t=ϙ (.slice e))(hi:P.info? e=ϙ inf)(hz:inf.zero=ϙ z)(hs:inf.size=ks.length)(hzs:z.cells.size=ks.length)(hby:inf.bytes=bytes)(hpos:0<ks.length)(hv:owns w v e ks rv)(hu:reads w u ks ru)(hb:(rv.length+ru.length)*bytes<=140737488355328)(hb0:0<bytes): ∃v' w',(Builtin.append_ #[t,t] ty #[v,u]).run P w=.ok v' w'/\owns w' v' e ks (rv++ru)/\w.grownBy w' v.ownBlock/\(∀k,Z1 v' k->Z1 v k\/w.heap.size<=k):=by
 obtain⟨hk1,ho⟩:=hv;obtain⟨hk2,ua,uc,rfl,hun,hur⟩:=hu;have hsum:rv.length+ru.length<=maxLen:=by unfold maxLen;have:(rv.length+ru.length)*1<=(rv.length+ru.length)*bytes:=ε _ hb0;omega
 have hfl:=Zk (λr hr=>(hk2 r hr).length);have hone:∀x∈ru.flatten,x.oneCell'=ϩ:=by intro x hx;obtain⟨row,hr,hx⟩:=π.1 hx;exact(hk2 row hr).one x hx
 have hrows:∀r∈rv++ru,rowOk ks r:=λr hr=>by rcases qy13.1 hr with h|h;exact hk1 r h;exact hk2 r h
 cases ua with
 | none =>
  have hr0:ru=[]:=by
   cases hc:ru with
   | nil=>rfl
   | cons x l=>obtain⟨ad,h,_⟩:=hur (by rw[hc];simp);cases h
  subst hr0;have:=hun.1 rfl;refine⟨v,w,run_append_owned_none w 0 t ty e inf ks.length hd hi v _ _ ho,⟨by simpa using hk1,by simpa using ho⟩,⟨rfl,rfl,rfl,ϫ _,λ_ _ _=>rfl⟩,λk hk=>.inl hk⟩
 | some ad =>
  have hnews:∀j x,ru.flatten[j]?=ϙ x->w.cell? (ad.add j)=ϙ x:=by
   intro j x hx;have hne:ru≠[]:=λe=>by subst e;simp at hx
   obtain⟨ad',h,h3⟩:=hur hne;simp at h;subst h;exact h3 j x hx
  rcases ho.2 with⟨rfl,hn⟩|⟨g,cap,cur,rfl,hb',hg,hnc,hcm,hcs,htake⟩
  ·have hnil:rv=[]:=List.eq_nil_of_length_eq_zero hn;subst hnil;obtain⟨v',w',h1,h2,h3,-⟩:=run_append_own w w.heap.size t ty e inf z ks.length bytes hd hi hz hs hby hzs hpos (.slice Ϭ 0 0) 0 [] (World.ownsRow_nil _ _ _ _) ad ru.length uc ru.flatten hfl hnews hone (by simpa using hsum) (by simpa using hb) (ϫ _);refine⟨v',w',h1,⟨hrows,?_⟩,h3,λk hk=>.inr (h2.lt k hk).1⟩;simp only[List.nil_append,ϰ]at h2⊢;exact⟨h2.1,h2.2.imp id λ⟨g,cap,cur,a1,a2,a3⟩=>⟨g,cap,cur,a1,φ _,a3⟩⟩
  by_cases hroom:rv.length+ru.length<=cap
  ·obtain⟨w',h1,h2,h3⟩:=run_append_fits w 0 t ty e inf ks.length hd hi hs g rv.length cap rv.flatten ho ad ru.length uc ru.flatten hfl hnews hone hroom;refine⟨_,w',h1,⟨hrows,?_⟩,h3,λk hk=>.inl hk⟩;simpa using h2
  have hold:∀j x,rv.flatten[j]?=ϙ x->w.cell? ((⟨g,0,Ϭ⟩:Addr).add j)=ϙ x:=λj x hx=>ho.cells rfl j x hx;obtain⟨v',w',h1,h2,h3⟩:=run_append_arg_grows (w:=w) t ty e inf z ks.length bytes hd hi hz hs hby hzs hpos ⟨g,0,Ϭ⟩ rv.length cap rv.flatten ho.1 hold ad ru.length uc ru.flatten hfl hnews O hsum hb;refine⟨v',w',h1,⟨hrows,?_⟩,⟨h3.os,h3.tape,h3.output,h3.size,λk hk _=>h3.block k hk O1⟩,λk hk=>.inr (h2.lt k hk).1⟩;simp only[Ϥ,qy11];exact⟨h2.1,h2.2.imp id λ⟨g,cap,cur,a1,a2,a3⟩=>⟨g,cap,cur,a1,φ _,a3⟩⟩
def Z4p(hp:List Ent)(v:Nat):(Z96 hp v).Sublist hp:=List.filter_sublist
variable{o:Oper}{K:Act->World->Prop}{Q:Exit->Act->World->Prop}
def Z11t(hE:EnvOK C.P E){c:Call}{x y:Operand}{v u:Nat}{ei:TI}{ry:X}{k:St->Tree}(hi:Inv C st J a w)(hk:∀st' J' a' w',st'.d=st.d->J <+: J'->(k st').goal C J' L->Inv C st' J' a' w'->K a' w')(hop:o.op=.call c)(hcal:c.callee=.builtin .append)(hargs:c.args.toList=[x,y])(htys:c.argTypes.toList=[t,t])(ht:E.T.tag t=ϙ (.slice e))(hx:st.rd (.B ϩ) x=ϙ (Γ,[.val (.var v)]))(hy:st.rd (.B ϩ) y=ϙ (Γ,[.val (.var u)]))(hei:E.T.get e=ϙ ei)(hrow:Zch st.hp v=ϙ (e,ei.ks,r))(hru:Z19 st.hp u=ϙ (ei.ks,ry))(hpos:0<ei.ks.length)(hb0:0<ei.bytes)(hrb:r.bd st.n=ϩ)(hryb:ry.bd st.n=ϩ)(hn:((r.ev J).toR.length:Int)+(ry.ev J).toR.length<=140737488355328 / (ei.bytes:Int))(hg:∀v',(∀k,Z1 v' k->C.B.w0.heap.size<=k\/k∈C.B.fp)->(k (St.put { st with n:=st.n+1,hp:=.row st.n e ei.ks (Ztl r ry)::Z96 st.hp v } o.dst (Zci st.n))).goal C (J++[.v v']) L):o.wp C.P a w K Q:=by
  obtain⟨callee,args,argTypes⟩:=c;obtain⟨args⟩:=args;obtain⟨argTypes⟩:=argTypes;simp only[]at hcal hargs htys;subst hcal hargs htys;obtain⟨d,hd,htag⟩:=hE.tab.tag ht;have:=Z2w htag;subst this;obtain⟨d',inf,z,hd',hinf,hsz,hby,hz,hzc,hzb,hzl,-⟩:=(hE.tab.get hei).ok;have hzs:z.cells.size=ei.ks.length:=by rw[<- Ϟ,hzc,<- hzl];simp
  have hx:=hi.rd_ok rfl hx;have hy:=hi.rd_ok rfl hy;simp only[CV.ev,Sc.ev,X.ev]at hx hy;have hmem:=Z8f hrow;have hown:owns w (J.getD v (.i 0)).toV e ei.ks (r.ev J).toR:=hi.rel.holds _ hmem;have hrd:=Z4o hi.rel.holds hru;have ho1:sc1 (J.getD v (.i 0)).toV=(J.getD v (.i 0)).toV:=by obtain⟨_,_,_,hv,_⟩:=hown.reads;rw[hv];rfl
  have ho2:sc1 (J.getD u (.i 0)).toV=(J.getD u (.i 0)).toV:=by obtain⟨_,_,_,hv,_⟩:=hrd;rw[hv];rfl
  rw[ho1]at hx;rw[ho2]at hy;have hbound:((r.ev J).toR.length+(ry.ev J).toR.length)*ei.bytes<=140737488355328:=by
    have h1:(((r.ev J).toR.length+(ry.ev J).toR.length:Nat))*(ei.bytes:Int)<=140737488355328:=by have h2:=Int.mul_le_mul_of_nonneg_right hn (show(0:Int)<=ei.bytes by omega);have h3:=Int.ediv_mul_le (140737488355328:Int) (show(ei.bytes:Int)≠0 by omega);rw[Int.natCast_add];omega
    rw[<- Int.natCast_mul]at h1;omega
  obtain⟨v',w',hrun,hown',hgr,hfr⟩:=Zm2 (ty:=o.type) hd hinf hz hsz hzs hby hpos hown hrd hbound hb0;unfold Oper.wp execOp;simp only[hop];have e1:(do let d <- resolve a.eval { callee:=.builtin .append,args:=⟨[x,y]⟩,argTypes:=⟨[t,t]⟩ } o.type;invoke d.target d.args:Sem Next).run C.P w=.ok (.value v') w':=by
    have e0:((⟨[x,y]⟩:Array Operand).map a.eval)=#[(J.getD v (.i 0)).toV,(J.getD u (.i 0)).toV]:=by rw[<- hx,<- hy];exact υ ..
    have e2:(builtin .append ⟨[t,t]⟩ o.type ((⟨[x,y]⟩:Array Operand).map fun | .const _=>ϩ|_=>Γ) #[(J.getD v (.i 0)).toV,(J.getD u (.i 0)).toV]).run C.P w=.ok (.value v') w':=by simp only[builtin,Sem.run_bind,hrun,Result.andThen_ok,Sem.run_pure]
    simp only[resolve,e0,Sem.run_bind,Sem.run_pure,Result.andThen_ok,invoke];exact e2
  rw[e1];simp only[Oper.upon];have hone:v'.oneCell'=ϩ:=by obtain⟨_,_,_,hv,_⟩:=hown'.reads;rw[hv];rfl
  have hdisj:∀e'∈Z96 st.hp v,∀k,Z1 (J.getD v (.i 0)).toV k->¬e'.fp J k:=by intro e' he' k hk hk';have he:=(Z4p st.hp v).subset he';refine hi.rel.disj hmem he (λh=>?_) (.inl rfl) hk hk';subst h;simp[Z96]at he'
  have hsub:=hi.rel.sublist (Z4p st.hp v);have hrel:Rel C.B J (Z96 st.hp v) w':=by
    have hm:Mod (match (J.getD v (.i 0)).toV.ownBlock with|some g=>[g] | none=>[]) w w':=Mod.of_grown hgr λk hk=>by rw[hk];exact .inl O1
    refine hsub.step hm (λk hk=>?_) (λe' he' k hk=>?_)
    . cases hb:(J.getD v (.i 0)).toV.ownBlock with
      | none=>rw[hb]at hk;simp at hk
      | some g =>
        rw[hb]at hk;simp at hk;subst hk;exact hi.rel.own _ hmem rfl _ hb
    cases hb:(J.getD v (.i 0)).toV.ownBlock with
    | none=>rw[hb]at hk;simp at hk
    | some g =>
      rw[hb]at hk;simp at hk;subst hk;exact hdisj e' he' _ hb
  have hi2:=hi.bindEnt hrel (ϕ.2 λe' he'=>ϕ.1 hi.bdh e' ((Z4p st.hp v).subset he')) (.v v') (.row st.n e ei.ks (Ztl r ry))
    (by simp only[Ent.bd,ϓ,ϡ];exact⟨O,X.bd_mono O _ (Zw2 hrb hryb)⟩)
    (by simp only[Ent.holds,Zr hi.len,V.toV_v,Zm1 hi.len _ (Zw2 hrb hryb),Z17w];exact hown')
    (λ_ k hk=>by
      simp only[Ent.fp,Zr hi.len,V.toV_v]at hk;rcases hfr k hk with h|h
      . exact hi.rel.own _ hmem rfl k h
      exact .inl (Nat.le_trans hi.rel.mod.size h))
    (λe' he' _ k hk hk'=>by
      simp only[Ent.fp,Zr hi.len,V.toV_v]at hk;rcases hfr k hk with h|h
      . exact hdisj e' he' k h hk'
      have:=Ent.bound (hsub.holds e' he') hk';omega)
  exact hk _ _ _ _ (by cases o.dst<;>rfl) (Ϣ J _) (hg v' (hi2.ownNew hi.len (qy8 ..))) (hi2.put _ (Z68 hi.len hone))
variable{rows:List (List ϭ)}
def Zz2{lo hi:Option ϭ}{l h:Int}(hd:P.underlying t=ϙ (.slice e))(hi':P.info? e=ϙ inf)(hs:inf.size=ks.length)(hv:reads w v ks rows)(hlo:∀x,lo=ϙ x->∃k,x=.int k l)(hhi:∀x,hi=ϙ x->∃k,x=.int k h)(h1:lo=Ϭ->l=0)(h2:hi=Ϭ->h=rows.length)(hl:0<=l)(hlh:l<=h)(hh:h<=rows.length): ∃v',(Instr.sliceAt t v lo hi Ϭ).run P w=.ok v' w/\reads w v' ks ((rows.take h.toNat).drop l.toNat)/\∀k,Z1 v' k->Z1 v k:=by
 obtain⟨hk,va,cap,rfl,⟨hnone,hc⟩,hrow⟩:=hv;obtain⟨n,rfl⟩:=Int.eq_ofNat_of_zero_le hl;obtain⟨m,rfl⟩:=Int.eq_ofNat_of_zero_le (show 0<=h by omega);have a1:n<=m:=O;have a2:m<=rows.length:=O;have hrun:(Instr.sliceAt t (.slice va rows.length cap) lo hi Ϭ).run P w=.ok (.slice (if cap=n then va else va.map (·.add (n*ks.length))) (m - n) (cap - n)) w:=by
  have b1:m<=cap:=O;cases lo<;>cases hi
  ·have:=h1 rfl;have:=h2 rfl;obtain rfl:n=0:=O;obtain rfl:m=rows.length:=O;simp[Instr.sliceAt,Instr.slice,Instr.sliceBounds,go_sem,run_underlying hd,sizeOf,typeInfo,hi',add_zero']
  ·obtain⟨k,rfl⟩:=hhi _ rfl;have:=h1 rfl;obtain rfl:n=0:=O;simp[Instr.sliceAt,Instr.slice,Instr.sliceBounds,Instr.sliceBound,asIntOf,go_sem,run_underlying hd,sizeOf,typeInfo,hi',b1,add_zero']
  ·obtain⟨k,rfl⟩:=hlo _ rfl;have:=h2 rfl;obtain rfl:m=rows.length:=O;simp[Instr.sliceAt,Instr.slice,Instr.sliceBounds,Instr.sliceBound,asIntOf,go_sem,run_underlying hd,sizeOf,typeInfo,hi',hs,a1]
  obtain⟨k,rfl⟩:=hlo _ rfl;obtain⟨k',rfl⟩:=hhi _ rfl;simp[Instr.sliceAt,Instr.slice,Instr.sliceBounds,Instr.sliceBound,asIntOf,go_sem,run_underlying hd,sizeOf,typeInfo,hi',hs,b1,a1]
 have hlen:((rows.take m).drop n).length=m - n:=O3;refine⟨_,hrun,⟨λr hr=>hk r (ϖ (δ hr)),if cap=n then va else va.map (·.add (n*ks.length)),cap - n,by simp only[qy4,hlen],⟨?_,by simp only[qy4,hlen];omega⟩,?_⟩,?_⟩
 ·intro hn;split at hn
  ·have:=hnone hn;omega
  cases va with
  | none=>have:=hnone rfl;omega
  | some ad=>cases hn
 ·intro hne;simp only[qy4]at hne⊢;have hlt:n<m:=by
   have:=hne;have:=List.length_pos_iff.2 this;omega
  obtain⟨ad,rfl,h3⟩:=hrow (λe=>by subst e;simp at a2;omega);rw[ϛ O];refine⟨ad.add (n*ks.length),rfl,λj u hu=>?_⟩;rw[Zhr];refine h3 _ _ ?_;have hl2:=Zk (λr hr=>(hk r hr).length);have e1:rows.flatten=(rows.take n).flatten++((rows.take m).drop n).flatten++(rows.drop m).flatten:=by
   rw[<- Ϥ,<- Ϥ];congr 1;rw[<- ϑ m rows];conv=>lhs;rw[ϑ]
   have:rows.take m=rows.take n++(rows.take m).drop n:=by
    conv=>lhs;rw[<- ϑ n (rows.take m)]
    rw[ϲ,χ a1]
   simp only[ϑ];rw[<- this,ϑ]
  have e2:(rows.take n).flatten.length=n*ks.length:=by rw[Zk (λr hr=>(hk r (ϖ hr)).length)];rw[Ϲ,χ O]
  rw[e1,μ,ϱ O,e2,Nat.add_sub_cancel_left];rw[ϳ (Ϫ.1 hu).1];exact hu
 intro k hk';unfold Z1 at *;split at hk'
 ·cases va with
  | none=>cases hk'
  | some ad=>exact hk'
 cases va with
 | none=>cases hk'
 | some ad=>simpa[Value.ownBlock,Addr.add_block]using hk'
def Zz3{b:ByteArray}:(b.data.toList.map λx=>[Value.int .u8 (x.toNat:Int)]).flatten=b.data.toList.map λx=>Value.int .u8 (x.toNat:Int):=by
 induction b.data.toList with
 | nil=>rfl
 | cons x l ih=>simp[ih]
variable{cap:Nat}
def Zz4(hi:Inv C st J a w){s:X}(hb:s.bd st.n=ϩ)(hcap:(s.ev J).toS.length<=cap)(hw:w'=w.drew): Inv C { st with n:=st.n+1,hp:=.rd st.n [.int .u8] (.rOf s)::st.hp } (J++[.v (.slice (ϙ ⟨w.heap.size,0,Ϭ⟩) (s.ev J).toS.length cap)]) a
   (w'.alloc (.cells (bytesRow ⟨(s.ev J).toS.toArray⟩ cap) e ((bytesRow ⟨(s.ev J).toS.toArray⟩ cap).size,(bytesRow ⟨(s.ev J).toS.toArray⟩ cap).size+1))):=by
 subst hw;have hl:=Zm1 hi.len (.v (.slice (ϙ ⟨w.heap.size,0,Ϭ⟩) (s.ev J).toS.length cap)) hb;refine hi.bindEnt (hi.rel.drew.alloc _) hi.bdh _ _ (by simp only[Ent.bd,X.bd,ϓ,ϡ];exact⟨O,X.bd_mono O _ hb⟩) ?_ (by intro h;cases h) (by intro e' he' _ k hk' hk2;simp only[Ent.fp,Zr hi.len,V.toV_v,Z1,Value.ownBlock,ϔ.injEq]at hk';have:=hk'.2;have:=Ent.bound (hi.rel.holds e' he') hk2;omega);simp only[Ent.holds,Zr hi.len,V.toV_v,X.ev,hl,V.toR_r];refine⟨(by intro r hr;simp only[ϣ]at hr;obtain⟨x,-,rfl⟩:=hr;exact⟨⟨_,rfl⟩,trivial⟩),ϙ ⟨w.heap.size,0,Ϭ⟩,cap,O1,⟨(λh=>by cases h),by simpa using hcap⟩,λ_=>⟨_,rfl,?_⟩⟩;intro j u hu;have e1:=Zz3 (b:=⟨(s.ev J).toS.toArray⟩);rw[e1]at hu;rw[Zly];have hg:(w.drew.alloc (.cells (bytesRow ⟨(s.ev J).toS.toArray⟩ cap) e ((bytesRow ⟨(s.ev J).toS.toArray⟩ cap).size,(bytesRow ⟨(s.ev J).toS.toArray⟩ cap).size+1))).heap[w.heap.size]?=ϙ (.cells (bytesRow ⟨(s.ev J).toS.toArray⟩ cap) e ((bytesRow ⟨(s.ev J).toS.toArray⟩ cap).size,(bytesRow ⟨(s.ev J).toS.toArray⟩ cap).size+1)):=by
  show(w.heap.push _)[w.heap.size]?=_
  simp
 rw[cell_of_row _ _ _ _ _ _ hg];have hj:=(Ϫ.1 hu).1;simp only[bytesRow,ϰ];rw[Array.getElem?_append_left (by simpa using hj)];simpa using hu
def Zz5(ns:List Int):∀(l:By),ns.foldl (λ(r:ByteArray) (n:Int)=>r.push (UInt8.ofNat n.toNat)) ⟨l.toArray⟩=⟨(l++ns.map λn=>UInt8.ofNat n.toNat).toArray⟩:=by
 induction ns with
 | nil=>intro l;simp
 | cons n ns ih =>
  intro l;simp only[List.foldl_cons];have:(⟨l.toArray⟩:ByteArray).push (UInt8.ofNat n.toNat)=⟨(l++[UInt8.ofNat n.toNat]).toArray⟩:=by simp[ByteArray.push]
  rw[this,ih];simp
def Zqp{src dst:Nat}(hs:P.underlying src=ϙ (.slice e))(he:P.underlying e=ϙ (.int .u8))(hd:P.underlying dst=ϙ .string)(hv:reads w v [.int .u8] rows): (convert src dst v).run P w=.ok (.string ⟨(rows.map λr=>UInt8.ofNat (Value.gI (r.getD 0 undef)).toNat).toArray⟩) w:=by
 obtain⟨hk,va,cap,rfl,-,hrow⟩:=hv;have hr:∀r∈rows,∃n,r=[.int .u8 n]:=by
  intro r hr;have:=hk r hr
  match r,this with
  | [x],h=>obtain⟨⟨n,hn⟩,-⟩:=h;exact⟨n,by rw[hn]⟩
 have hfl:rows.flatten=(rows.map λr=>Value.gI (r.getD 0 undef)).map (Value.int .u8):=by
  clear hrow hk;induction rows with
  | nil=>rfl
  | cons r rows ih =>
   obtain⟨n,rfl⟩:=hr r (qy8 ..);simp[ih λr h=>hr r (qy10 _ h),Value.gI]
 rw[run_convert_bytes_string w src dst e va _ cap hs he hd];cases va with
 | none =>
  have:rows=[]:=by
   cases hc:rows with
   | nil=>rfl
   | cons x l=>obtain⟨ad,h,_⟩:=hrow (by rw[hc];simp);cases h
  subst this;simp[Conv.bytesToString,go_sem];rfl
 | some ad =>
  have hload:(loadCells ad rows.length).run P w=.ok ((rows.map λr=>Value.gI (r.getD 0 undef)).map (Value.int .u8)).toArray w:=by
   have hlen:rows.flatten.length=rows.length:=by rw[hfl];simp
   have:=Z92 (P:=P) w ad rows.length 0 rows.flatten #[] hlen (λj u hu=>by
    have hne:rows≠[]:=λe=>by subst e;simp at hu
    obtain⟨ad',h,h3⟩:=hrow hne;simp at h;subst h;simpa using h3 j u hu)
   unfold loadCells;rw[this,hfl];simp
  rw[run_bytesToString w ad _ cap _ hload];have:=Zz5 (rows.map λr=>Value.gI (r.getD 0 undef)) [];rw[show(ByteArray.empty)=⟨([]).toArray⟩ from rfl,this];simp
def Zdg{B:Base}{v:Nat}{r':X}(h:Rel B J hp w)(hm:Ent.row v e ks r∈hp)(hgr:w.grownBy w' (J.getD v (.i 0)).toV.ownBlock)(hb:∀e' ks' r0,Ent.row v e' ks' r0∈hp->(Ent.row v e' ks' r').holds J w'):Rel B J (setRow hp v r') w':=by
 have hown:=h.own _ hm rfl;have hfree:∀x∈hp,(∀e' ks' r0,x≠.row v e' ks' r0)->∀k,Z1 (J.getD v (.i 0)).toV k->¬x.fp J k:=λx hx hne k hk hk'=>h.disj hm hx (λe=>hne _ _ _ e.symm) (.inl rfl) hk hk';have key:∀x∈hp,∀x',x'=Zf8 v r' x->x'.wr=x.wr/\(∀k,x'.fp J k↔x.fp J k)/\x'.holds J w':=by
  intro x hx x' hx';have hst:(∀e' ks' r0,x≠.row v e' ks' r0)->x.holds J w':=λhne=>Ent.stable (h.holds x hx) λk hk =>
   hgr.block k (Ent.bound (h.holds x hx) hk) (λe=>hfree x hx hne k e.symm hk)
  cases x with
  | row u e0 ks0 r0 =>
   simp only[Zf8]at hx';split at hx'
   ·rename_i hu;subst hu;subst hx';exact⟨rfl,λk=>Iff.rfl,hb _ _ _ hx⟩
   rename_i hu;subst hx';exact⟨rfl,λk=>Iff.rfl,hst λ_ _ _ h=>by simp at h;exact hu h.1⟩
  | _=>subst hx';exact⟨rfl,λk=>Iff.rfl,hst λ_ _ _ h=>by cases h⟩
 refine⟨h.mod.trans (Mod.of_grown (fp:=match (J.getD v (.i 0)).toV.ownBlock with|some g=>[g] | none=>[]) hgr λk hk=>by rw[hk];exact .inl O1) (λk hk=>?_),λx hx=>(by simp only[setRow,ϣ]at hx;obtain⟨y,hy,hx⟩:=hx;exact(key y hy x hx.symm).2.2),λx hx hw k hk=>(by simp only[setRow,ϣ]at hx;obtain⟨y,hy,hx⟩:=hx;obtain⟨h1,h2,-⟩:=key y hy x hx.symm;exact h.own y hy (by rw[<- h1];exact hw) k ((h2 k).1 hk)),by unfold Zt setRow;rw[θ];refine ω.imp_of_mem (λ{x y} hx hy hxy=>?_) h.sep;obtain⟨h1,h2,-⟩:=key x hx _ rfl;obtain⟨h1',h2',-⟩:=key y hy _ rfl;intro hw k ha hb;exact hxy (by rw[<- h1,<- h1'];exact hw) k ((h2 k).1 ha) ((h2' k).1 hb)⟩;cases hb':(J.getD v (.i 0)).toV.ownBlock with
 | none=>rw[hb']at hk;simp at hk
 | some g =>
  rw[hb']at hk;simp at hk;subst hk;exact(hown _ hb').symm
def Zqq{v:Nat}{r':X}(h:hp.all (Ent.bd n)=ϩ)(hr:r'.bd n=ϩ):(setRow hp v r').all (Ent.bd n)=ϩ:=by
 refine ϕ.2 λe he=>?_;simp only[setRow,ϣ]at he;obtain⟨x,hx,he⟩:=he;have:=ϕ.1 h x hx;cases x with
 | row u ty ks r =>
  simp only[Zf8]at he;split at he<;>subst he
  ·simp only[Ent.bd,ϓ]at this⊢;exact⟨this.1,hr⟩
  exact this
 | _=>subst he;exact this
def Ztp{cur row:List ϭ}{off N:Nat}(h:off+row.length<=N)(h2:N<=cur.length): (cur.take off++row++cur.drop (off+row.length)).take N=(cur.take N).take off++row++(cur.take N).drop (off+row.length):=by
 obtain⟨a,b,rfl,hb⟩:∃a b,cur=a++b/\a.length=N:=⟨cur.take N,cur.drop N,(ϑ N cur).symm,O3⟩
 subst hb;have e1:(a++b).take off=a.take off:=by rw[ϒ O]
 have e2:(a++b).drop (off+row.length)=a.drop (off+row.length)++b:=by rw[Ϝ h]
 have e3:(a++b).take a.length=a:=O1;rw[e1,e2,e3,<- μ];have e4:(a.take off++row++a.drop (off+row.length)).length=a.length:=O3;rw[ϒ O,Ϧ O]
def Z11u{cur rowi csv:List ϭ}{off c:Nat}(h1:(cur.drop off).take len=rowi)(h2:rowi.length=len)(h3:c+csv.length<=len)(h4:off+len<=cur.length): cur.take (off+c)++csv++cur.drop (off+c+csv.length)=cur.take off++Zgo c csv rowi++cur.drop (off+len):=by
 obtain⟨a,b,rfl,ha⟩:∃a b,cur=a++(rowi++b)/\a.length=off:=by refine⟨cur.take off,cur.drop (off+len),?_,O3⟩;rw[<- h1,show cur.drop (off+len)=(cur.drop off).drop len by rw[List.drop_drop],ϑ,ϑ]
 subst ha h2;simp only[Zgo];rw[ϧ,ϒ (show c<=rowi.length by omega),Nat.add_assoc,Ϡ,Ϝ h3,ϒ (ϫ _),ϸ,Ϡ,Ϝ (ϫ _),List.drop_length];simp
def Ztq:∀{rows:List (List ϭ)} {i:Nat},(∀r∈rows,r.length=n)->i<rows.length->(rows.flatten.drop (i*n)).take n=rows.getD i []:=by
 intro rows;induction rows with
 | nil=>intro i _ h;simp at h
 | cons r rows ih =>
  intro i hr hi;have h1:=hr r (qy8 ..);cases i with
  | zero=>simp only[Ϩ,Δ,List.drop_zero,List.getD_cons_zero];rw[ϒ O,Ϧ O]
  | succ i =>
   simp only[Ϩ];rw[show(i+1)*n=r.length+i*n by rw[ϥ,h1];omega,Ϡ];exact ih (λr h=>hr r (qy10 _ h)) (by simpa using hi)
def Zo0{i:X}(h:rowOk ks ((r.ev J).toR.getD (i.ev J).toI.toNat [])):(Z25 r i 0 ks).map (Sc.ev J)=(r.ev J).toR.getD (i.ev J).toI.toNat []:=by
 apply List.ext_getElem?;intro j;by_cases hj:j<ks.length
 ·obtain⟨v,hv,hk⟩:=h.get (qy7 hj);have e:((r.ev J).toR.getD (i.ev J).toI.toNat []).getD j undef=v:=by rw[qy1,hv];rfl
  have:=Z93 r i ks 0 j ks[j] (qy7 hj) (by rw[ϰ,e];exact hk);rw[ν,this,ϰ,e,hv]
 rw[β (by simp[Z42];omega),β (by rw[h.length];omega)]
def Ztr:∀{rows:List (List ϭ)} {i:Nat} {row:List ϭ},(∀r∈rows,r.length=n)->i<rows.length->row.length=n -> (rows.set i row).flatten=rows.flatten.take (i*n)++row++rows.flatten.drop (i*n+n):=by
 intro rows;induction rows with
 | nil=>intro i row _ h;simp at h
 | cons r rows ih =>
  intro i row hr hi hrow;have h1:=hr r (qy8 ..);cases i with
  | zero =>
   simp only[Ϩ];rw[Ϝ O,List.drop_of_length_le O];simp
  | succ i =>
   simp only[List.set_cons_succ,Ϩ];rw[ih (λr h=>hr r (qy10 _ h)) (by simpa using hi) hrow];have e1:(i+1)*n=r.length+i*n:=by rw[ϥ,h1];omega
   rw[e1,ϧ,show r.length+i*n+n=r.length+(i*n+n) by omega,Ϡ];simp
def Z17x(hE:EnvOK C.P E){k:St->Tree}{t:Tree}(hi:Inv C st J a w)(hk:∀st' J' a' w',st'.d=st.d->J <+: J'->(k st').goal C J' L->Inv C st' J' a' w'->K a' w')(hr:Z1d4 E o st k=ϙ t)(hg:t.goal C J L):o.wp C.P a w K Q:=by
  have hput:∀(st:St) (s:SV),(st.put o.dst s).d=st.d:=by intro st s;cases ho':o.dst<;>rfl
  have hTT:(X.ev J (.B ϩ)).toB=ϩ:=rfl;have nil_ok:∀{e:Nat} {ei:TI},E.T.get e=ϙ ei->(Tree.letV .nilS (k (St.put { st with n:=st.n+1,hp:=.row st.n e ei.ks .nilR::st.hp } o.dst (Zci st.n)))).goal C J L->K (a.put o.dst (.slice Ϭ 0 0)) w:=by
    intro e ei hei hg;have hi2:=hi.bindEnt hi.rel hi.bdh (.v (.slice Ϭ 0 0)) (.row st.n e ei.ks .nilR) (by simp[Ent.bd,X.bd])
      (by simp only[Ent.holds,Zr hi.len,V.toV_v,X.ev,V.toR_r];exact⟨O1,World.ownsRow_nil _ _ _ _⟩)
      (λ_ k hk=>by simp only[Ent.fp,Zr hi.len,V.toV_v,Z1,Value.ownBlock]at hk;cases hk)
      (λ_ _ _ k hk _=>by simp only[Ent.fp,Zr hi.len,V.toV_v,Z1,Value.ownBlock]at hk;cases hk)
    exact hk _ _ _ _ (by exact hput _ _) (Ϣ J _) hg (hi2.put _ (Z68 hi.len rfl))
  unfold Z1d4 at hr;split at hr
  . rename_i hop;split at hr
    . split at hr<;>simp only[ϔ.injEq,reduceCtorEq]at hr;rename_i ei hei;subst hr;unfold Oper.wp execOp;simp only[hop,Sem.run_pure,Oper.upon,Act.eval];exact nil_ok hei hg
    cases hr
  . rename_i hop;split at hr
    . split at hr<;>simp only[ϔ.injEq,reduceCtorEq]at hr;rename_i ei hei;subst hr;unfold Oper.wp execOp;simp only[hop,Sem.run_pure,Oper.upon,Act.eval];exact nil_ok hei hg
    cases hr
  .
    rename_i t' len parts hop;split at hr
    . rename_i e ht;split at hr
      . rename_i ei ps hei hps;split at hr
        . rename_i cs hcs;split at hr
          . rename_i r hrx;simp only[ϐ,ϔ.injEq]at hr;obtain⟨⟨hrb,hsm,hpos,hcl⟩,rfl⟩:=hr;obtain⟨d,hd,htag⟩:=hE.tab.tag ht;have:=Z2w htag;subst this;obtain⟨d',inf,z,hd',hinf,hsz,hby,hz,hzc,hzb,hzl,-⟩:=(hE.tab.get hei).ok;have hz0:z.cells=(ei.zs.map (Sc.ev J)).toArray:=by
              apply ψ;rw[hzc,Z4e (J':=J) (λk hk=>O) _ hzb]
            have hparts:parts.map (λ(p:Nat×Operand)=>(p.1,a.eval p.2))=(ps.map λp=>(p.1,CV.ev J p.2)).toArray:=by have:=Zlz (λx c hx=>hi.rd_ok hTT hx) _ _ hps;apply ψ;simpa using this
            have hfill:=Z118 (J:=J) (fl:=(List.range len).map λi=>(i*ei.ks.length,e,ei.ks.length,ei.agg)) (place:=λi=>ϙ (i*ei.ks.length,ei.ks.length)) (λn p hp=>by simp only[ν,ϻ]at hp;obtain⟨i,hi',rfl⟩:=hp;have:=(Ϫ.1 hi').2;simp at this;subst this;rfl) ps _ cs hcs;have hrun:=Zlc (w:=w) (t:=t') (len:=len) (parts:=(ps.map λp=>(p.1,CV.ev J p.2)).toArray) hd hinf hz hz0 (by rw[hsz,hzl]) (by rw[hzl];exact hsm) (by rw[hzl];exact hpos) (by rw[hzl];exact hfill);obtain⟨r1,r2,r3⟩:=Z17u (J:=J) hrx hcl;have hlm:len<=maxLen:=by unfold maxLen;have:len*1<=len*ei.ks.length:=ε _ hpos;omega
            have hi2:=hi.newRow (w:=w) (e:=e) (cs:=(cs.map (Sc.ev J)).toArray) hrb (by simpa using r1) r2 r3 hlm;unfold Oper.wp execOp;simp only[hop,hparts,Sem.run_bind,hrun,Result.andThen_ok,Sem.run_pure,Oper.upon];exact hk _ _ _ _ (by exact hput _ _) (Ϣ J _) (hg _ (hi2.ownNew hi.len (qy8 ..))) (hi2.put _ (Z68 hi.len rfl))
          cases hr
        cases hr
      cases hr
    cases hr
  .
    rename_i src dst x hop;split at hr
    . rename_i e s hs hd hx;split at hr
      . rename_i he;simp only[ϐ,ϔ.injEq]at hr;obtain⟨hb,rfl⟩:=hr;obtain⟨d1,hd1,ht1⟩:=hE.tab.tag hs;have:=Zcg ht1;subst this;obtain⟨d2,hd2,ht2⟩:=hE.tab.tag hd;have:=Z2w ht2;subst this;obtain⟨d3,hd3,ht3⟩:=hE.tab.tag he;have:=Znw ht3;subst this;have hx:=hi.rd_ok hTT hx;simp only[CV.ev,Sc.ev]at hx;have hrun:=run_bytes_of_string (P:=C.P) w src dst e ⟨(s.ev J).toS.toArray⟩ hd1 hd2 hd3;have hcap:(s.ev J).toS.length<=grownCap w (⟨(s.ev J).toS.toArray⟩:ByteArray).size 0 e:=by
          have:=grownCap_ge w (⟨(s.ev J).toS.toArray⟩:ByteArray).size 0 e;rw[Znt]at this⊢;exact this
        have hi2:=Zz4 hi (e:=e) hb hcap (w':=w.drew) rfl;unfold Oper.wp execOp;simp only[hop,hx,Sem.run_bind,hrun,Result.andThen_ok,Sem.run_pure,Oper.upon];rw[Znt]at hi2⊢;exact hk _ _ _ _ (by exact hput _ _) (Ϣ J _) (hg _) (hi2.put _ (Z68 hi.len rfl))
      cases hr
    . rename_i e v hs hd hx;split at hr
      . rename_i r he hf;simp only[ϔ.injEq]at hr;subst hr;obtain⟨d1,hd1,ht1⟩:=hE.tab.tag hs;have:=Z2w ht1;subst this;obtain⟨d2,hd2,ht2⟩:=hE.tab.tag hd;have:=Zcg ht2;subst this;obtain⟨d3,hd3,ht3⟩:=hE.tab.tag he;have:=Znw ht3;subst this;have hx:=hi.rd_ok hTT hx;simp only[CV.ev,Sc.ev,X.ev]at hx;have hrd:=Z4o hi.rel.holds hf;have ho2:sc1 (J.getD v (.i 0)).toV=(J.getD v (.i 0)).toV:=by
          obtain⟨_,_,_,hv,_⟩:=hrd;rw[hv];rfl
        rw[ho2]at hx;have hrun:=Zqp (P:=C.P) hd1 hd3 hd2 hrd;unfold Oper.wp execOp;simp only[hop,hx,Sem.run_bind,hrun,Result.andThen_ok,Sem.run_pure,Oper.upon];exact hk _ _ _ _ (by exact hput _ _) Ϯ hg (hi.put _ rfl)
      cases hr
    cases hr
  .
    rename_i t' x lo hi' hop;split at hr
    . rename_i e v ht hx;split at hr
      . rename_i ei ks r hei hf;split at hr
        . rename_i l h hl hh;simp only[ϐ,ϔ.injEq]at hr;obtain⟨⟨hks,hlb,hhb,hrb⟩,rfl⟩:=hr;obtain⟨hn,hg⟩:=Z66 hg;obtain⟨n1,n23⟩:=(hn hTT).app;obtain⟨n2,n3⟩:=n23.app;obtain⟨d,hd,htag⟩:=hE.tab.tag ht;have:=Z2w htag;subst this;obtain⟨d',inf,z,hd',hinf,hsz,-⟩:=(hE.tab.get hei).ok;obtain⟨l1,l2⟩:=Zbf (J:=J) (e:=a.eval) (λx c hx=>hi.rd_ok hTT hx) hl;obtain⟨u1,u2⟩:=Zbf (J:=J) (e:=a.eval) (λx c hx=>hi.rd_ok hTT hx) hh;have hx:=hi.rd_ok hTT hx;simp only[CV.ev,Sc.ev,X.ev]at hx;have hrd:=Z4o hi.rel.holds hf;have ho2:sc1 (J.getD v (.i 0)).toV=(J.getD v (.i 0)).toV:=by
            obtain⟨_,_,_,hv,_⟩:=hrd;rw[hv];rfl
          rw[ho2]at hx;obtain⟨v',hrun,hrd',hbl⟩:=Zz2 (P:=C.P) (w:=w) hd hinf (by rw[hsz,hks]) hrd l1 u1 (λh=>by rw[l2 h];rfl) (λh=>by rw[u2 h];rfl) (Z1i n1) (Z65 n2) (Z65 n3);have hlg:=Z5f (v:=v) hi.rel;have hone:v'.oneCell'=ϩ:=by obtain⟨_,_,_,hv,_⟩:=hrd';rw[hv];rfl
          have hrb':(X.dropR (.takeR r h) l).bd st.n=ϩ:=by simp[X.bd,hrb,hhb,hlb]
          have hi2:=hi.bindEnt hlg (Znz hi.bdh) (.v v') (.rd st.n ks (.dropR (.takeR r h) l))
            (by simp only[Ent.bd,ϓ,ϡ];exact⟨O,X.bd_mono O _ hrb'⟩)
            (by simp only[Ent.holds,Zr hi.len,V.toV_v,Zm1 hi.len _ hrb'];exact hrd')
            (λh=>by cases h)
            (λe' he' hw k hk hk'=>by
              simp only[Ent.fp,Zr hi.len,V.toV_v]at hk;obtain⟨hne,hbk⟩:=hk;have hw':e'.wr=ϩ:=by rcases hw with h|h;cases h;exact h
              rw[Zm1 hi.len _ hrb']at hne;have hne0:(r.ev J).toR.flatten≠[]:=by
                intro h0;apply hne;simp only[X.ev,V.toR_r];have hall:∀x∈(r.ev J).toR,x=[]:=λx hx=>by have:=Ϻ.1 h0 x hx;exact this
                exact Ϻ.2 λx hx=>hall x (ϖ (δ hx))
              have hbv:=hbl k hbk;have hsrc:∃s∈Zag st.hp v,s.wr=Γ/\s.fp J k:=by
                clear hk hrun hrd';have key:∀(hp:List Ent),Z19 hp v=ϙ (ks,r)->∃s∈Zag hp v,s.wr=Γ/\s.fp J k:=by
                  intro hp;induction hp with
                  | nil=>intro h;simp[Z19]at h
                  | cons y hp ih =>
                    intro h;cases y with
                    | row u ty ks' r' =>
                      simp only[Z19]at h;split at h
                      . rename_i hu;subst hu;simp at h;obtain⟨rfl,rfl⟩:=h;exact⟨.rd u ks' r',by simp[Zag],rfl,hne0,hbv⟩
                      obtain⟨s,hs,r⟩:=ih h;exact⟨s,by simp only[Zag,ζ]at hs⊢;exact qy10 _ hs,r⟩
                    | rd u ks' r' =>
                      simp only[Z19]at h;split at h
                      . rename_i hu;subst hu;simp at h;obtain⟨rfl,rfl⟩:=h;exact⟨.rd u ks' r',by simp[Zag],rfl,hne0,hbv⟩
                      obtain⟨s,hs,r⟩:=ih h;exact⟨s,by simp only[Zag,ζ]at hs⊢;exact qy10 _ hs,r⟩
                    | _=>simp only[Z19]at h;obtain⟨s,hs,r⟩:=ih h;exact⟨s,by simp only[Zag,ζ]at hs⊢;exact qy10 _ hs,r⟩
                exact key _ hf
              obtain⟨s,hs,hsw,hsk⟩:=hsrc;exact hlg.disj hs he' (λe=>by rw[<- e,hsw]at hw';cases hw') (.inr hw') hsk hk')
          unfold Oper.wp execOp;simp only[hop,hx,Sem.run_bind,ϯ,hrun,Result.andThen_ok,Sem.run_pure,Oper.upon];exact hk _ _ _ _ (by exact hput _ _) (Ϣ J _) (hg v' hbl) (hi2.put _ (Z68 hi.len hone))
        cases hr
      cases hr
    cases hr
  .
    rename_i c hop;split at hr
    . rename_i x y t1 t2 hcal hargs htys;split at hr
      . rename_i e v u ht hx hy;split at hr
        . rename_i ei e' ks r ks' ry hei hrow hru;simp only[ϐ,ϔ.injEq]at hr;obtain⟨⟨rfl,rfl,rfl,rfl,hpos,hb0,hrb,hryb⟩,rfl⟩:=hr;simp only[Tree.goal,X.P,X.ev,V.toI_i]at hg;exact Z11t hE hi hk hop hcal hargs htys ht hx hy hei hrow hru hpos hb0 hrb hryb hg.1 hg.2
        cases hr
      cases hr
    cases hr
  .
    rename_i t' ad x hop;split at hr
    . rename_i v esz i c g cs ti had hx hti;split at hr
      . rename_i e ks r hrow;split at hr
        . rename_i rx hrx;simp only[ϐ,ϔ.injEq]at hr;obtain⟨⟨rfl,hcle,htl,hcpos,hg1,hpos,hkf,hrb,hib,hrxb⟩,rfl⟩:=hr;obtain⟨hn,hg⟩:=Z66 hg;obtain⟨n1,n2⟩:=(hn hTT).app;have n1:=Z1i n1;have n2:(i.ev J).toI<(r.ev J).toR.length:=of_decide_eq_true (n2 _ (qy12.2 rfl));have hx:=hi.rd_ok hTT hx;have had:=hi.rd_ok hTT had;have hmem:=Z8f hrow;have hown:owns w (J.getD v (.i 0)).toV e ks (r.ev J).toR:=hi.rel.holds _ hmem;have hrX:=Zto (J:=J) hrx;have hkF:=Zcj (J:=J) hkf;obtain⟨d',inf,z,hd',hinf,hsz,-⟩:=(hE.tab.get hti).ok;have hown':=hown;obtain⟨hk1,ho1,ho2⟩:=hown';rcases ho2 with⟨hv,hl0⟩|⟨gb,cap,cur,hv,hb',hgb,hnc,hcm,hcs,htake⟩
          . omega
          have hrl:∀row∈(r.ev J).toR,row.length=ks.length:=λrow hr=>(hk1 row hr).length;have hin:(i.ev J).toI.toNat<(r.ev J).toR.length:=O;have hoff:(i.ev J).toI.toNat*ks.length+ks.length<=cur.size:=by rw[hcs,<- ϥ];exact ϗ _ O
          have hN:(i.ev J).toI.toNat*ks.length+ks.length<=(r.ev J).toR.length*ks.length:=by rw[<- ϥ];exact ϗ _ O
          have hcl':cur.toList.length=cur.size:=Ϟ;have hle:(r.ev J).toR.length*ks.length<=cur.size:=by rw[hcs];exact ϗ _ hnc
          have hrowi:(cur.toList.drop ((i.ev J).toI.toNat*ks.length)).take ks.length=(r.ev J).toR.getD (i.ev J).toI.toNat []:=by rw[<- Ztq hrl hin,<- htake];rw[List.drop_take,ϲ];congr 1;omega
          have hrok:rowOk ks ((r.ev J).toR.getD (i.ev J).toI.toNat []):=by rw[qy1,qy7 hin];exact hk1 _ (List.getElem_mem hin)
          have hful:(Zgo c cs (Z25 r i 0 ks)).map (Sc.ev J)=Zgo c (cs.map (Sc.ev J)) ((r.ev J).toR.getD (i.ev J).toI.toNat []):=by rw[<- Zo0 hrok];simp[Zgo]
          generalize hF:(Zgo c cs (Z25 r i 0 ks)).map (Sc.ev J)=full at hful hkF hrX
          have hfl:full.length=ks.length:=hkF.length;have hcells:=Zhs (J:=J) hg1;have hcz:(CV.ev J (g,cs)).cells.size=inf.size:=by rw[<- Ϟ,hcells,hsz];simp;omega
          have hst:=run_storeCells_at (P:=C.P) gb ((i.ev J).toI.toNat*ks.length+c) e ((CV.ev J (g,cs)).cells.toList) 0 cur w hgb (by rw[hcells];simp;omega) (by rw[hcells];intro x hx;simp only[ϣ]at hx;obtain⟨s,-,rfl⟩:=hx;exact Sc.ev_one J s);have e2:=Zgp (P:=C.P) (w:=w) (t:=t') (ad:=⟨gb,(i.ev J).toI.toNat*ks.length+c,Ϭ⟩) hinf rfl hcz;have hadv:a.eval ad=.pointer (ϙ ⟨gb,(i.ev J).toI.toNat*ks.length+c,Ϭ⟩):=by rw[had];simp only[CV.ev,Sc.ev,hv,Zly,ϰ]
          have e3:(Instr.sureAddr (.pointer (ϙ ⟨gb,(i.ev J).toI.toNat*ks.length+c,Ϭ⟩))).run C.P w=.ok ⟨gb,(i.ev J).toI.toNat*ks.length+c,Ϭ⟩ w:=by simp[Instr.sureAddr,go_sem]
          have hspl:=Z11u (cur:=cur.toList) (csv:=cs.map (Sc.ev J)) (c:=c) hrowi (hrok.length) (by simpa using hcle) (by rw[hcl'];exact hoff);rw[<- hful,qy3]at hspl;have hsto:(Instr.storeAt t' (a.eval ad) (a.eval x)).run C.P w=.ok () (w.setRow gb (cur.toList.take ((i.ev J).toI.toNat*ks.length)++full++cur.toList.drop ((i.ev J).toI.toNat*ks.length+ks.length)).toArray):=by unfold Instr.storeAt;rw[hadv,Sem.run_bind,e3];simp only[Result.andThen_ok];rw[hx,e2,hst,hcells,<- hspl];simp
          have hbk:(J.getD v (.i 0)).toV.ownBlock=ϙ gb:=by rw[hv];rfl
          have hnew:owns (w.setRow gb (cur.toList.take ((i.ev J).toI.toNat*ks.length)++full++cur.toList.drop ((i.ev J).toI.toNat*ks.length+ks.length)).toArray) (J.getD v (.i 0)).toV e ks ((r.ev J).toR.set (i.ev J).toI.toNat full):=by
            refine⟨λrow hr=>?_,?_,.inr ⟨gb,cap,_,by rw[hv];simp,hb',setRow_heap w gb _ _ e (0,0) hgb,by simpa using hnc,hcm,by simp[hfl];omega,by simp only[List.length_set];have hts:=Ztp (cur:=cur.toList) (row:=full) (off:=(i.ev J).toI.toNat*ks.length) (N:=(r.ev J).toR.length*ks.length) (by simpa[hfl]using hN) (by rw[hcl'];exact hle);simp only[hfl]at hts;rw[Ztr hrl O hfl,<- htake,hts]⟩⟩
            . rcases Ϸ hr with h|h
              . exact hk1 row h
              rw[h];exact hkF
            rw[Zk (n:=ks.length)];intro row hr;rcases Ϸ hr with h|h
            . exact hrl row h
            rw[h];exact hfl
          have hgr:w.grownBy (w.setRow gb (cur.toList.take ((i.ev J).toI.toNat*ks.length)++full++cur.toList.drop ((i.ev J).toI.toNat*ks.length+ks.length)).toArray) (J.getD v (.i 0)).toV.ownBlock:=by rw[hbk];exact⟨rfl,rfl,rfl,O1,λk _ hne=>setRow_other w gb k _ (λe=>hne (by rw[e]))⟩
          have hrel:=Zdg (r':=.setR r i rx) hi.rel hmem hgr (λe' ks' r0 hm'=>by
            have:Ent.row v e' ks' r0=Ent.row v e ks r:=by
              by_cases h:Ent.row v e' ks' r0=Ent.row v e ks r
              . exact h
              exact(hi.rel.disj hm' hmem h (.inl rfl) hbk hbk).elim
            simp only[Ent.row.injEq,true_and]at this;obtain⟨rfl,rfl,rfl⟩:=this;simp only[Ent.holds,X.ev,V.toR_r,hrX];exact hnew)
          have hi2:=hi.heap (Zqq hi.bdh (by simp[X.bd,hrb,hib,hrxb])) hrel;unfold Oper.wp execOp;simp only[hop,Sem.run_bind,hsto,Result.andThen_ok,Sem.run_pure,Oper.upon];exact hk _ _ _ _ (by exact hput _ _) Ϯ hg (hi2.put _ rfl)
        cases hr
      cases hr
    cases hr
  cases hr
section
variable {C:Cx} {E:Env} {st:St} {J:List V} {L:List LC} {a:Act} {w:World}
def Zts{k:Nat}{va:Option Addr}{lo:Option ϭ}{l:Int}(hd:P.underlying t=ϙ (.slice e))(hi':P.info? e=ϙ inf)(hs:inf.size=k)(hlo:∀x,lo=ϙ x->∃kk,x=.int kk l)(h1:lo=Ϭ->l=0)(hl:l=(n:Int))(hn:n<=len)(hc:len<=cap): (Instr.sliceAt t (.slice va len cap) lo Ϭ Ϭ).run P w=.ok (Zaa k n (.slice va len cap)) w:=by
 subst hl;cases lo with
 | none =>
  have:=h1 rfl;obtain rfl:n=0:=O;simp[Instr.sliceAt,Instr.slice,go_sem,run_underlying hd,sizeOf,typeInfo,hi',add_zero',Zaa]
 | some x =>
  obtain⟨kk,rfl⟩:=hlo _ rfl;simp[Instr.sliceAt,Instr.slice,Instr.sliceBounds,Instr.sliceBound,asIntOf,go_sem,run_underlying hd,sizeOf,typeInfo,hi',hs,hn,Zaa]
def Ztt{m:Nat}{kk:IntKind}{va:Option Addr}(hd:P.underlying t=ϙ (.slice e))(hi':P.info? e=ϙ inf)(hm:m<=cap)(hnil:va=Ϭ->cap=0): (Instr.sliceAt t (.slice va len cap) Ϭ (ϙ (.int kk (m:Int))) Ϭ).run P w=.ok (.slice va m cap) w:=by
 have e1:(if cap=0 then va else va.map (·.add 0))=va:=by
  split
  ·rfl
  cases va<;>simp[add_zero']
 simp[Instr.sliceAt,Instr.slice,go_sem,run_underlying hd,sizeOf,typeInfo,hi',hm,add_zero']
def Z11v(n:Nat):(reps zs n).map (Sc.ev J)=(Ϙ n (zs.map (Sc.ev J))).flatten:=by
 induction n with
 | zero=>simp[reps]
 | succ n ih=>simp[reps,ih,List.replicate_succ']
def Zgq(h:∀r∈rows,r.length=n)(i:Nat):rows.flatten.take (i*n)=(rows.take i).flatten:=by
 induction rows generalizing i with
 | nil=>simp
 | cons r rows ih =>
  have hr:=h r (qy8 ..);cases i with
  | zero=>simp
  | succ i =>
   rw[Ϩ,ϥ,Nat.add_comm,<- hr,ϧ,hr,ih (λx hx=>h x (qy10 _ hx))];simp
def Z11w{k l:Nat}{zs:List Sc}{gb:Nat}{cur:Array ϭ}(hd:P.underlying t=ϙ (.slice e))(hi:P.info? e=ϙ inf)(hz:inf.zero=ϙ z)(hz0:z.cells=(zs.map (Sc.ev J)).toArray)(hk:zs.length=k)(hpos:0<k)(hg:w.heap[gb]?=ϙ (.cells cur e (0,0)))(hl:l<len)(hc:len<=cap)(hcs:cur.size=cap*k): (Builtin.clear_ #[t] ty #[Zaa k l (.slice (ϙ ⟨gb,0,Ϭ⟩) len cap)]).run P w=.ok (.tuple #[]) (w.setRow gb (cur.toList.take (l*k)++(Ϙ (len - l) (zs.map (Sc.ev J))).flatten++cur.toList.drop (len*k)).toArray):=by
  have e1:∀w,(zeroValue e).run P w=.ok z w:=λw=>by simp[go_sem,zeroValue,typeInfo,hi,hz]
  have hsub:Zaa k l (.slice (ϙ ⟨gb,0,Ϭ⟩) len cap)=.slice (ϙ ⟨gb,l*k,Ϭ⟩) (len - l) (cap - l):=by simp only[Zaa];rw[ϛ O];simp[Zly]
  rw[hsub];obtain⟨m,hm⟩:∃m,len - l=m+1:=⟨len - l - 1,O⟩
  have hzc:(Builtin.zeroCells z.cells (len - l)).toList=(Ϙ (len - l) (zs.map (Sc.ev J))).flatten:=by
    unfold Builtin.zeroCells;rw[<- Z11v];have hsz:z.cells.size=zs.length:=by rw[hz0];simp
    have:=Zw1 (len:=len - l) hz0 O;rw[show(len - l)*z.cells.size=(len - l)*zs.length by rw[hsz],this]
  have hlen:((Ϙ (len - l) (zs.map (Sc.ev J))).flatten).length=(len - l)*k:=by
    rw[Zk (n:=k)]
    . simp
    intro r hr;rw[Ϛ hr];simpa using hk
  have hle:len*k<=cap*k:=ϗ _ hc;have hsum:l*k+(len - l)*k=len*k:=by rw[<- Ξ];congr 1;omega
  have hst:=run_storeCells_at (P:=P) gb (l*k) e ((Ϙ (len - l) (zs.map (Sc.ev J))).flatten) 0 cur w hg (by rw[hlen];omega) (by intro v hv;obtain⟨r,hr,hv⟩:=π.1 hv;rw[Ϛ hr]at hv;simp only[ϣ]at hv;obtain⟨s,-,rfl⟩:=hv;exact Sc.ev_one J s);rw[hlen,Nat.add_zero,hsum]at hst;rw[hm]at hzc hst⊢;simp only[Builtin.clear_,List.getElem?_toArray,List.getElem?_cons_zero];rw[Sem.run_bind,run_underlying hd];simp only[Result.andThen_ok];rw[Sem.run_bind,e1];simp only[Result.andThen_ok];rw[Sem.run_bind,hzc,hst];simp[Sem.run_pure]
def Zc6(hd:P.underlying t=ϙ (.slice e))(hv:(∃n c,v=.slice Ϭ n c)\/∃va c,v=.slice va 0 c):(Builtin.clear_ #[t] ty #[v]).run P w=.ok (.tuple #[]) w:=by
 rcases hv with⟨n,c,rfl⟩|⟨va,c,rfl⟩
 ·simp[Builtin.clear_,run_underlying hd]
 cases va<;>simp[Builtin.clear_,run_underlying hd]
def Z11x(hE:EnvOK C.P E){ops:List Oper}{k:St->Tree}{t:Tree}(hi:Inv C st J a w)(hk:∀st' J' a' w',st'.d=st.d->J <+: J'->(k st').goal C J' L->Inv C st' J' a' w'->K a' w')(hr:Z11n E ops o st k=ϙ t)(hg:t.goal C J L):o.wp C.P a w K Q:=by
  have hput:∀(st:St) (s:SV),(st.put o.dst s).d=st.d:=by intro st s;cases ho':o.dst<;>rfl
  have hTT:(X.ev J (.B ϩ)).toB=ϩ:=rfl;unfold Z11n at hr;split at hr
  .
    rename_i t' x lo hop;split at hr
    . rename_i e v ht hx;split at hr
      . rename_i ei e' ks r l hei hrow hl;simp only[ϐ,ϔ.injEq]at hr;obtain⟨⟨-,rfl,rfl,hvn,hlb⟩,rfl⟩:=hr;obtain⟨hn,hg⟩:=Z66 hg;obtain⟨n1,n2⟩:=(hn hTT).app;obtain⟨d,hd,htag⟩:=hE.tab.tag ht;have:=Z2w htag;subst this;obtain⟨d',inf,z,hd',hinf,hsz,-⟩:=(hE.tab.get hei).ok;obtain⟨l1,l2⟩:=Zbf (e:=a.eval) (λx c hx=>hi.rd_ok hTT hx) hl;have hx:=hi.rd_ok hTT hx;simp only[CV.ev,Sc.ev,X.ev]at hx;have hown:owns w (J.getD v (.i 0)).toV e' ei.ks (r.ev J).toR:=hi.rel.holds _ (Z8f hrow);obtain⟨hrk,va,cap,hv,⟨hnone,hc⟩,-⟩:=hown.reads;rw[hv]at hx;have n1:=Z1i n1;have n2:=Z65 n2;simp only[X.ev,V.toI_i]at n2;have hrun:=Zts (w:=w) (va:=va) (len:=(r.ev J).toR.length) (cap:=cap) (n:=(l.ev J).toI.toNat) hd hinf hsz l1 (λh=>by rw[l2 h];rfl) O O hc;unfold Oper.wp execOp;have hx':a.eval x=.slice va (r.ev J).toR.length cap:=hx;simp only[hop,hx',ϯ,Sem.run_bind,hrun,Result.andThen_ok,Sem.run_pure,Oper.upon];refine hk _ _ _ _ (by exact hput _ _) Ϯ hg (hi.put _ ?_)
        show Zaa _ _ _=CV.ev J (Γ,[Sc.val (X.subS ei.ks.length (X.var v) l)])
        simp only[CV.ev,Sc.ev,X.ev,V.toV_v,hv,Zaa];rfl
      cases hr
    cases hr
  .
    rename_i t' x hi' hop;split at hr
    . rename_i e v ht hx;split at hr
      . rename_i ei e' ks r h hei hrow hh;simp only[ϐ,ϔ.injEq]at hr;obtain⟨⟨rfl,rfl,hhb,hrb,-⟩,rfl⟩:=hr;obtain⟨hn,hg⟩:=Z66 hg;obtain⟨n1,n2⟩:=(hn hTT).app;obtain⟨d,hd,htag⟩:=hE.tab.tag ht;have:=Z2w htag;subst this;obtain⟨d',inf,z,hd',hinf,hsz,-⟩:=(hE.tab.get hei).ok;obtain⟨u1,-⟩:=Zbf (e:=a.eval) (λx c hx=>hi.rd_ok hTT hx) hh;have hx:=hi.rd_ok hTT hx;simp only[CV.ev,Sc.ev,X.ev]at hx;have hmem:=Z8f hrow;have hown:owns w (J.getD v (.i 0)).toV e' ei.ks (r.ev J).toR:=hi.rel.holds _ hmem;obtain⟨hrk,va,cap,hv,⟨hnone,hc⟩,-⟩:=hown.reads;rw[hv]at hx;have n1:=Z1i n1;have n2:=Z65 n2;simp only[X.ev,V.toI_i]at n2;obtain⟨kk,hkk⟩:=u1 _ rfl;obtain⟨m,hm⟩:∃m:Nat,(h.ev J).toI=m:=⟨(h.ev J).toI.toNat,O⟩
        rw[hm]at hkk n2;have hrun:=Ztt (P:=C.P) (w:=w) (va:=va) (len:=(r.ev J).toR.length) (cap:=cap) (m:=m) (kk:=kk) hd hinf O hnone;have hx':a.eval x=.slice va (r.ev J).toR.length cap:=hx;have hrb':(X.takeR r h).bd st.n=ϩ:=by simp[X.bd,hrb,hhb]
        have hbk:∀q,Z1 (.slice va m cap) q↔Z1 (J.getD v (.i 0)).toV q:=λq=>by rw[hv];cases va<;>rfl
        have hnew:owns w (.slice va m cap) e' ei.ks ((r.ev J).toR.take m):=by
          obtain⟨h1,h2,h3⟩:=hown;have hrl:∀row∈(r.ev J).toR,row.length=ei.ks.length:=λrow hr=>(h1 row hr).length;refine⟨λrow hr=>h1 row (ϖ hr),by rw[Zk (n:=ei.ks.length) (λrow hr=>hrl row (ϖ hr))],?_⟩;rcases h3 with⟨h3,h4⟩|⟨g,cap',cur,h3,hb,hgb,hnc,hcm,hcs,htk⟩
          . left;rw[hv]at h3;simp only[Value.slice.injEq]at h3;obtain⟨rfl,h5,rfl⟩:=h3;have:m=0:=O;subst this;simp
          right;rw[hv]at h3;simp only[Value.slice.injEq]at h3;obtain⟨rfl,h5,rfl⟩:=h3;have hml:((r.ev J).toR.take m).length=m:=by rw[Ϲ];omega
          refine⟨g,cap,cur,by rw[hml],hb,hgb,by rw[hml];omega,hcm,hcs,?_⟩;rw[hml,<- Zgq hrl,<- htk,ϲ];congr 1;have:=ϗ ei.ks.length (show m<=(r.ev J).toR.length by omega);omega
        have hsub:=hi.rel.sublist (Z4p st.hp v);have hdisj:∀e'∈Z96 st.hp v,∀k,Z1 (J.getD v (.i 0)).toV k->¬e'.fp J k:=by intro e' he' k hk hk';have he:=(Z4p st.hp v).subset he';refine hi.rel.disj hmem he (λh=>?_) (.inl rfl) hk hk';subst h;simp[Z96]at he'
        have hi2:=hi.bindEnt hsub (ϕ.2 λe' he'=>ϕ.1 hi.bdh e' ((Z4p st.hp v).subset he')) (.v (.slice va m cap)) (.row st.n e' ei.ks (.takeR r h))
          (by simp only[Ent.bd,ϓ,ϡ];exact⟨O,X.bd_mono O _ hrb'⟩)
          (by simp only[Ent.holds,Zr hi.len,V.toV_v];rw[Zm1 hi.len _ hrb'];simp only[X.ev,V.toR_r,hm,qy4];exact hnew)
          (λ_ k hk=>by simp only[Ent.fp,Zr hi.len,V.toV_v]at hk;exact hi.rel.own _ hmem rfl _ ((hbk k).1 hk))
          (λe' he' _ k hk hk'=>by simp only[Ent.fp,Zr hi.len,V.toV_v]at hk;exact hdisj e' he' k ((hbk k).1 hk) hk')
        unfold Oper.wp execOp;have hkk':(ϙ hi').map a.eval=ϙ (.int kk (m:Int)):=by simpa using hkk
        simp only[hop,hx',ϯ,hkk',Sem.run_bind,hrun,Result.andThen_ok,Sem.run_pure,Oper.upon];exact hk _ _ _ _ (by exact hput _ _) (Ϣ J _) (hg _ (hi2.ownNew hi.len (qy8 ..))) (hi2.put _ (Z68 hi.len rfl))
      cases hr
    cases hr
  .
    rename_i c hop;split at hr
    . rename_i y t' hcal hargs htys;split at hr
      . rename_i e n0 v l ht hy;split at hr
        . rename_i ei e' ks r hei hrow;split at hr
          . rename_i zx hzx;simp only[ϐ,ϔ.injEq]at hr;obtain⟨⟨rfl,rfl,rfl,hpos,hlb,hrb,hzb,hkf⟩,rfl⟩:=hr;obtain⟨callee,args,argTypes⟩:=c;obtain⟨args⟩:=args;obtain⟨argTypes⟩:=argTypes;simp only[]at hcal hargs htys;subst hcal hargs htys;obtain⟨hn,hg⟩:=Z66 hg;obtain⟨n1,n2⟩:=(hn hTT).app;obtain⟨d,hd,htag⟩:=hE.tab.tag ht;have:=Z2w htag;subst this;obtain⟨d',inf,z,hd',hinf,hsz,hby,hz,hzc,hzbd,hzl,-⟩:=(hE.tab.get hei).ok;have hz0:z.cells=(ei.zs.map (Sc.ev J)).toArray:=by
              apply ψ;rw[hzc,Z4e (J:=[]) (J':=J) (n:=0) (λk hk=>O) _ hzbd]
            have hy:=hi.rd_ok hTT hy;have hmem:=Z8f hrow;have hown:owns w (J.getD v (.i 0)).toV e' ei.ks (r.ev J).toR:=hi.rel.holds _ hmem;obtain⟨-,va,cap,hv,⟨hnone,hc⟩,-⟩:=hown.reads;simp only[CV.ev,Sc.ev,X.ev,V.toV_v,hv]at hy;have n1:=Z1i n1;have n2:=Z65 n2;simp only[X.ev,V.toI_i]at n2;obtain⟨m,hm⟩:∃m:Nat,(l.ev J).toI=m:=⟨(l.ev J).toI.toNat,O⟩
            rw[hm]at hy n2;simp only[qy4]at hy;have hy':a.eval y=Zaa ei.ks.length m (.slice va (r.ev J).toR.length cap):=hy;have hrX:=Zto (J:=J) hzx;have hkF:=Zcj (J:=J) hkf;have hzlen:ei.zs.length=ei.ks.length:=by have:=hkF.length;simpa using this
            have fin:∀w',(Builtin.clear_ #[t'] o.type #[a.eval y]).run C.P w=.ok (.tuple #[]) w'->Rel C.B J (setRow st.hp v (.clrR r l zx)) w'->o.wp C.P a w K Q:=λw' hrun hrel=>by
              have hi2:=hi.heap (Zqq hi.bdh (by simp[X.bd,hrb,hlb,hzb])) hrel;unfold Oper.wp execOp;simp only[hop];have e1:(do let d <- resolve a.eval { callee:=.builtin .clear,args:=⟨[y]⟩,argTypes:=⟨[t']⟩ } o.type;invoke d.target d.args:Sem Next).run C.P w=.ok (.value (.tuple #[])) w':=by
                have e0:((⟨[y]⟩:Array Operand).map a.eval)=#[a.eval y]:=υ ..;have e2:(builtin .clear ⟨[t']⟩ o.type ((⟨[y]⟩:Array Operand).map fun | .const _=>ϩ|_=>Γ) #[a.eval y]).run C.P w=.ok (.value (.tuple #[])) w':=by simp only[builtin,Sem.run_bind,hrun,Result.andThen_ok,Sem.run_pure]
                simp only[resolve,e0,Sem.run_bind,Sem.run_pure,Result.andThen_ok,invoke];exact e2
              rw[e1];simp only[Oper.upon];exact hk _ _ _ _ (by exact hput _ _) Ϯ hg (hi2.put _ rfl)
            have hown':=hown;obtain⟨hk1,ho1,ho2⟩:=hown';have hrl:∀row∈(r.ev J).toR,row.length=ei.ks.length:=λrow hr=>(hk1 row hr).length;have hev:∀ks' e' w',(Ent.row v e' ks' (.clrR r l zx)).holds J w'=owns w' (J.getD v (.i 0)).toV e' ks' ((r.ev J).toR.take m++Ϙ ((r.ev J).toR.length - m) (ei.zs.map (Sc.ev J))):=λks' e' w'=>by simp only[Ent.holds,X.ev,V.toR_r,hm,qy4,hrX]
            rcases ho2 with⟨hv0,hl0⟩|⟨gb,cap',cur,hv0,hb',hgb,hnc,hcm,hcs,htake⟩
            . rw[hv]at hv0;simp only[Value.slice.injEq]at hv0;obtain⟨rfl,-,rfl⟩:=hv0;have hr0:(r.ev J).toR=[]:=List.length_eq_zero_iff.1 hl0;refine fin w (Zc6 hd (.inl (by rw[hy'];simp only[Zaa,ϯ,ite_self];exact⟨_,_,rfl⟩))) (Zdg hi.rel hmem ⟨rfl,rfl,rfl,ϫ _,λ_ _ _=>rfl⟩ λe2 ks' r0 hm'=>?_)
              . rw[hev,hv,hr0];have h00:([]:List (List ϭ)).take m++Ϙ (([]:List (List ϭ)).length - m) (ei.zs.map (Sc.ev J))=[]:=O1;rw[h00];exact⟨O1,World.ownsRow_nil _ _ _ _⟩
            rw[hv]at hv0;simp only[Value.slice.injEq]at hv0;obtain⟨rfl,-,rfl⟩:=hv0;have hbk:(J.getD v (.i 0)).toV.ownBlock=ϙ gb:=by rw[hv];rfl
            have huniq:∀e2 ks' r0,Ent.row v e2 ks' r0∈st.hp->Ent.row v e2 ks' r0=Ent.row v e' ei.ks r:=λe2 ks' r0 hm'=>by
              by_cases h:Ent.row v e2 ks' r0=Ent.row v e' ei.ks r
              . exact h
              exact(hi.rel.disj hm' hmem h (.inl rfl) hbk hbk).elim
            by_cases hlt:m<(r.ev J).toR.length
            . have hrun:=Z11w (J:=J) (w:=w) (P:=C.P) (ty:=o.type) (k:=ei.ks.length) (l:=m) hd hinf hz hz0 hzlen hpos hgb hlt hc hcs;rw[<- hy']at hrun;have hzfl:((Ϙ ((r.ev J).toR.length - m) (ei.zs.map (Sc.ev J))).flatten).length=((r.ev J).toR.length - m)*ei.ks.length:=by
                rw[Zk (n:=ei.ks.length)]
                . simp
                intro row hr;rw[Ϛ hr];simpa using hzlen
              have hcl':cur.toList.length=cur.size:=Ϟ;have hle:(r.ev J).toR.length*ei.ks.length<=cur.size:=by rw[hcs];exact ϗ _ hnc
              have hsum:m*ei.ks.length+((r.ev J).toR.length - m)*ei.ks.length=(r.ev J).toR.length*ei.ks.length:=by rw[<- Ξ];congr 1;omega
              have hml:(cur.toList.take (m*ei.ks.length)).length=m*ei.ks.length:=by rw[Ϲ,hcl'];omega
              have hrowl:((r.ev J).toR.take m++Ϙ ((r.ev J).toR.length - m) (ei.zs.map (Sc.ev J))).length=(r.ev J).toR.length:=O3;have hgr:w.grownBy (w.setRow gb (cur.toList.take (m*ei.ks.length)++(Ϙ ((r.ev J).toR.length - m) (ei.zs.map (Sc.ev J))).flatten++cur.toList.drop ((r.ev J).toR.length*ei.ks.length)).toArray) (J.getD v (.i 0)).toV.ownBlock:=by rw[hbk];exact⟨rfl,rfl,rfl,O1,λk _ hne=>setRow_other w gb k _ (λe=>hne (by rw[e]))⟩
              refine fin _ hrun (Zdg hi.rel hmem hgr λe2 ks' r0 hm'=>?_);have hu:=huniq e2 ks' r0 hm';simp only[Ent.row.injEq,true_and]at hu;obtain⟨rfl,rfl,rfl⟩:=hu;rw[hev,hv];refine⟨λrow hr=>?_,?_,.inr ⟨gb,cap,_,by rw[hrowl],hb',setRow_heap w gb _ _ _ (0,0) hgb,by rw[hrowl];exact hnc,hcm,by simp only[η,qy11,hml,hzfl,List.length_drop,hcl'];omega,?_⟩⟩
              . rcases qy13.1 hr with h|h
                . exact hk1 row (ϖ h)
                rw[Ϛ h];exact hkF
              . rw[Zk (n:=ei.ks.length)];intro row hr;rcases qy13.1 hr with h|h
                . exact hrl row (ϖ h)
                rw[Ϛ h];simpa using hzlen
              rw[hrowl,List.toList_toArray,ϒ (by rw[qy11,hml,hzfl];omega),Ϧ (by rw[qy11,hml,hzfl];omega)];rw[Ϥ,<- Zgq hrl,<- htake,ϲ];congr 2;have:=ϗ ei.ks.length (Nat.le_of_lt hlt);omega
            have hme:m=(r.ev J).toR.length:=O;subst hme;exact fin w (Zc6 hd (.inr (by rw[hy'];simp only[Zaa,Θ];exact⟨_,_,rfl⟩))) (Zdg hi.rel hmem ⟨rfl,rfl,rfl,ϫ _,λ_ _ _=>rfl⟩ λe2 ks' r0 hm'=>by have hu:=huniq e2 ks' r0 hm';simp only[Ent.row.injEq,true_and]at hu;obtain⟨rfl,rfl,rfl⟩:=hu;rw[hev,ϸ,Θ,List.replicate_zero,List.append_nil];exact hown)
          cases hr
        cases hr
      cases hr
    cases hr
  cases hr
end
