/- By an AI agent. -/
import Derived.Test.YtonpnhfekobmdaaGreatDoorB02
set_option linter.all false
set_option maxHeartbeats 20000000
namespace Go.Sx
open Go
variable {C:Cx} {st:St} {J:List V} {a:Act} {w:World} {E:Env} {L:List LC}
theorem Inv.bindEnt(hi:Inv C st J a w){hp':List Ent}{w':World}(hr:Rel C.B J hp' w')(hb:hp'.all (Ent.bd st.n)=true)(v:V)(e:Ent)(heb:e.bd (st.n+1)=true) (hh:e.holds (J++[v]) w') (ho:e.wr=true->∀k,e.fp (J++[v]) k->C.B.w0.heap.size<=k\/k∈C.B.fp) (hd:∀e'∈hp',(e.wr=true\/e'.wr=true)->∀k,e.fp (J++[v]) k->e'.fp J k->False):Inv C { st with n:=st.n+1,hp:=e::hp' } (J++[v]) a w':=by
 have hi1:=ext0 (hi.heap hb hr) (n:=st.n+1) [v] (by simp) (by simp);have hag:Z11 st.n J (J++[v]):=by rw[<- hi.len];exact Z11.app J _
 refine⟨hi1.len,hi1.size,hi1.fr,hi1.bdf,?_,hi1.defers,hi1.rel.cons hh ho λe' he' hw k hk hk'=>?_⟩
 ·simp only[List.all_cons,Bool.and_eq_true];exact⟨heb,hi1.bdh⟩
 ·exact hd e' he' hw k hk ((Ent.fp_bd hag e' (List.all_eq_true.1 hb e' he') k).2 hk')
theorem Zg(hl:J.length=st.n)(v:V):(J++[v]).getD st.n (.i 0)=v:=by rw[<- hl];simp[qy1]
theorem Z31(hl:J.length=st.n){v:Value}(h1:v.oneCell'=true):(Z6a st.n).rel (J++[.v v]) v:=by simp only[SV.rel,Z6a,SV.ev,CV.ev,Sc.ev,X.ev,Zg hl,V.toV_v,Zqf v h1]
theorem Inv.ownNew{st2:St}{n e:Nat}{ks:List Kd}{r:X}{v:Value}{w':World}(hi2:Inv C st2 (J++[.v v]) a w')(hl:J.length=n)(hm:Ent.row n e ks r∈st2.hp):∀k,Z3 v k->C.B.w0.heap.size<=k\/k∈C.B.fp:=λk hk =>
  hi2.rel.own _ hm rfl k (by
    have e:(J++[V.v v]).getD n (.i 0)=.v v:=by rw[<- hl];simp[qy1]
    simp only[Ent.fp,e,V.toV_v];exact hk)
theorem Zbi(hl:J.length=st.n)(v:V){x:X}(hx:x.bd st.n=true):x.ev (J++[v])=x.ev J :=
 (X.ev_bd (by rw[<- hl];exact Z11.app J _) x hx).symm
theorem Zfp:∀{cs:List Sc} {x:X},rowX cs=some x->(x.ev J).toL=cs.map (Sc.ev J):=by
 intro cs;induction cs with
 | nil=>intro x h;simp[rowX]at h;subst h;rfl
 | cons s cs ih =>
  intro x h;cases s<;>simp only[rowX,Option.map_eq_some_iff,reduceCtorEq]at h;all_goals first
   | (obtain⟨r,hr,rfl⟩:=h;simp[X.ev,Sc.ev,ih hr])
   | cases h
theorem Z6b:∀{ks:List Kd} {cs:List Sc},Z3l ks cs=true->rowOk ks (cs.map (Sc.ev J)):=by
 intro ks;induction ks with
 | nil=>intro cs h;cases cs<;>simp[Z3l]at h;trivial
 | cons k ks ih =>
  intro cs h;cases cs with
  | nil=>simp[Z3l]at h
  | cons s cs =>
   simp only[Z3l,Bool.and_eq_true]at h;refine⟨?_,ih h.2⟩;have h1:=h.1;have hone:=Sc.ev_one J s;cases k<;>cases s<;>simp only[Zkx,Bool.false_eq_true,beq_iff_eq]at h1<;>simp only[Kd.ok]<;>first
    | exact hone
    | (subst h1;exact⟨_,rfl⟩)
    | exact⟨_,rfl⟩
theorem Zol{ks:List Kd}:∀{n:Nat} {cs:List Sc} {r:X},Zky ks n cs=some r->cs.length=n*ks.length -> (r.ev J).toR.flatten=cs.map (Sc.ev J)/\(r.ev J).toR.length=n/\∀row∈(r.ev J).toR,rowOk ks row:=by
 intro n;induction n with
 | zero=>intro cs r h hl;simp[Zky]at h;subst h;simp at hl;subst hl;simp[X.ev]
 | succ n ih =>
  intro cs r h hl;simp only[Zky,Option.bind_eq_bind,Option.bind_eq_some_iff]at h;obtain⟨r0,h0,x,hx,h⟩:=h;simp only[Option.ite_none_right_eq_some,Option.some.injEq]at h;obtain⟨hk,rfl⟩:=h;have hl':(n+1)*ks.length=n*ks.length+ks.length:=Nat.succ_mul n ks.length;obtain⟨i1,i2,i3⟩:=ih h0 (by simp;omega);have htake:(cs.drop (n*ks.length)).take ks.length=cs.drop (n*ks.length):=List.take_of_length_le (by simp;omega);rw[htake]at hx hk;have hrow:=Zfp (J:=J) hx;simp only[X.ev,V.toR_r];refine⟨?_,by simp[i2],λrow hrw=>?_⟩
  ·rw[List.flatten_append,i1,hrow];simp[<- List.map_append,List.take_append_drop]
  ·rcases qy13.1 hrw with h|h
   ·exact i3 row h
   ·simp only[qy12]at h;rw[h,hrow];exact Z6b hk
theorem Z32(zs:List Sc)(n:Nat):(reps zs n).length=n*zs.length:=by
 induction n with
 | zero=>simp[reps]
 | succ n ih=>simp[reps,ih,Nat.succ_mul]
theorem Zom(zs:List Sc)(n j:Nat)(hj:j<n*zs.length):(reps zs n)[j]?=zs[j % zs.length]?:=by
 induction n with
 | zero=>simp at hj
 | succ n ih =>
  simp only[reps];by_cases h:j<n*zs.length
  ·rw[List.getElem?_append_left (by rw[Z32];exact h),ih h]
  ·rw[List.getElem?_append_right (by rw[Z32];omega),Z32];have hm:j % zs.length=j - n*zs.length:=by
    rw[Nat.succ_mul]at hj;have e:j=(j - n*zs.length)+n*zs.length:=by omega
    rw[e,Nat.add_mul_mod_self_right,Nat.mod_eq_of_lt (by omega)];omega
   rw[hm]
theorem Zh5{z:Array Value}{zs:List Sc}{len:Nat}(hz:z=(zs.map (Sc.ev J)).toArray)(hpos:0<zs.length) : (Array.range (len*zs.length)).map (λi=>z[i % z.size]!)=((reps zs len).map (Sc.ev J)).toArray:=by
 subst hz;apply Array.ext
 ·simp[Z32]
 ·intro i h1 h2;simp only[Array.size_map,Array.size_range]at h1;have hm:i % zs.length<zs.length:=Nat.mod_lt _ hpos;have:=Zom zs len i h1;simp only[Array.getElem_map,Array.getElem_range,List.size_toArray,qy3,List.getElem_toArray,List.getElem_map];rw[getElem!_pos _ _ (by simpa using hm)];simp only[List.getElem_toArray,List.getElem_map];congr 1
  have h3:i<(reps zs len).length:=by rw[Z32];exact h1
  rw[qy7 h3,qy7 hm]at this;simpa using this.symm
theorem Zb6{P:Program}{t e len:Nat}{inf:TypeInfo}{z:Value}{zs cs:List Sc}{parts:Array (Nat×Value)}(hd:P.underlying t=some (.slice e))(hi:P.info? e=some inf)(hz:inf.zero=some z) (hz0:z.cells=(zs.map (Sc.ev J)).toArray) (hs:inf.size=zs.length) (hsm:len*zs.length<=16777216) (hpos:0<zs.length) (hfill:Instr.fill (λi=>some (i*zs.length,zs.length)) ((reps zs len).map (Sc.ev J)).toArray parts.toList=some (cs.map (Sc.ev J)).toArray) : (Instr.buildSlice t len parts).run P w=.ok (.slice (some ⟨w.heap.size,0,none⟩) len len) (w.alloc (.cells (cs.map (Sc.ev J)).toArray e)):=by
 have e1:(zeroValue e).run P w=.ok z w:=by simp[go_sem,zeroValue,typeInfo,hi,hz]
 have e2:=run_underlying hd w;have e3:(sizeOf e).run P w=.ok zs.length w:=by simp[go_sem,sizeOf,typeInfo,hi,hs]
 have hle:¬len*zs.length > 2 ^ 24:=by omega
 unfold Instr.buildSlice;rw[Sem.run_bind,e2];simp only[Result.andThen_ok];rw[Sem.run_bind,e3];simp only[Result.andThen_ok,hle,if_false];by_cases h0:len*zs.length=0
 ·have hl0:len=0:=by rcases Nat.mul_eq_zero.1 h0 with h|h<;>omega
  subst hl0;simp only[Nat.zero_mul,if_true]at *;simp only[reps,List.map_nil]at hfill;simp[go_sem,hfill,newRow]
 ·simp only[h0,if_false];rw[Sem.run_bind,e1];simp only[Result.andThen_ok];rw[Sem.run_bind,Sem.run_pure];simp only[Result.andThen_ok];rw[Zh5 hz0 hpos,hfill];simp[go_sem,newRow]
theorem Inv.newRow(hi:Inv C st J a w){e:Nat}{ks:List Kd}{r:X}{cs:Array Value}{len:Nat}(hb:r.bd st.n=true)(hf:(r.ev J).toR.flatten=cs.toList)(hl:(r.ev J).toR.length=len) (hk:∀row∈(r.ev J).toR,rowOk ks row) (hlen:len<=maxLen) : Inv C { st with n:=st.n+1,hp:=.row st.n e ks r::st.hp } (J++[.v (.slice (some ⟨w.heap.size,0,none⟩) len len)]) a (w.alloc (.cells cs e)):=by
 have hfl:=Zj (n:=ks.length) (λr hr=>(hk r hr).length);have hcs:cs.size=len*ks.length:=by rw[<- Array.length_toList,<- hf,hfl,hl]
 refine hi.bindEnt (hi.rel.alloc _) hi.bdh _ _ ?_ ?_ ?_ ?_
 ·simp only[Ent.bd,Bool.and_eq_true,decide_eq_true_eq];exact⟨by omega,X.bd_mono (by omega) _ hb⟩
 ·simp only[Ent.holds,Zg hi.len,V.toV_v,Zbi hi.len _ hb];refine⟨hk,by rw[hfl],.inr ⟨w.heap.size,len,cs,by rw[hl],Nat.zero_le _,?_,by rw[hl];exact Nat.le_refl _,hlen,hcs,?_⟩⟩
  ·show(w.heap.push _)[w.heap.size]?=_
   simp
  ·rw[hl,<- hcs,hf,<- Array.length_toList,List.take_length]
 ·intro _ k hk';simp only[Ent.fp,Zg hi.len,V.toV_v,Z3,Value.ownBlock,Option.some.injEq]at hk';subst hk';exact .inl hi.rel.mod.size
 ·intro e' he' _ k hk' hk2;simp only[Ent.fp,Zg hi.len,V.toV_v,Z3,Value.ownBlock,Option.some.injEq]at hk';subst hk';have:=Ent.bound (hi.rel.holds e' he') hk2;omega
theorem Zch{B:Base}{hp:List Ent}{v:Nat}(h:Rel B J hp w):Rel B J (Z52 hp v) w:=by
 have key:∀e:Ent,∀e':Ent,e'=(match e with | .row u ty ks r=>if u=v then Ent.rd u ks r else .row u ty ks r|e=>e) ->
   (e'.wr=true->e.wr=true)/\(∀k,e'.fp J k->e.fp J k)/\(∀w,e.holds J w->e'.holds J w):=by
  intro e e' he';cases e with
  | row u ty ks r =>
   simp only[]at he';split at he'
   ·subst he';exact⟨(λh=>by cases h),λk hk=>hk.2,λw hw=>owns.reads hw⟩
   ·subst he';exact⟨id,λk=>id,λw=>id⟩
  | _=>simp only[]at he';subst he';exact⟨id,λk=>id,λw=>id⟩
 refine⟨h.mod,λe he=>?_,λe he hw k hk=>?_,?_⟩
 ·simp only[Z52,List.mem_map]at he;obtain⟨x,hx,he⟩:=he;exact(key x e he.symm).2.2 w (h.holds x hx)
 ·simp only[Z52,List.mem_map]at he;obtain⟨x,hx,he⟩:=he;obtain⟨h1,h2,-⟩:=key x e he.symm;exact h.own x hx (h1 hw) k (h2 k hk)
 ·unfold Zv Z52;rw[List.pairwise_map];refine List.Pairwise.imp_of_mem (λ{x y} _ _ hxy=>?_) h.sep;obtain⟨h1,h2,-⟩:=key x _ rfl;obtain⟨h1',h2',-⟩:=key y _ rfl;intro hw k ha hb;exact hxy (hw.imp h1 h1') k (h2 k ha) (h2' k hb)
theorem Zci{hp:List Ent}{n v:Nat}(h:hp.all (Ent.bd n)=true):(Z52 hp v).all (Ent.bd n)=true:=by
 refine List.all_eq_true.2 λe he=>?_;simp only[Z52,List.mem_map]at he;obtain⟨x,hx,he⟩:=he;have:=List.all_eq_true.1 h x hx;cases x with
 | row u ty ks r=>simp only[]at he;split at he<;>subst he<;>exact this
 | _=>simp only[]at he;subst he;exact this
theorem Zon(r y:X):((Zfm r y).ev J).toR=(r.ev J).toR++(y.ev J).toR:=by unfold Zfm;split<;>simp[X.ev]
theorem Zh6{n:Nat}{r y:X}(h1:r.bd n=true)(h2:y.bd n=true):(Zfm r y).bd n=true:=by
 unfold Zfm;split
 ·simp only[X.bd,Bool.and_eq_true]at h2⊢;exact⟨h1,h2.2⟩
 ·simp only[X.bd,Bool.and_eq_true];exact⟨h1,h2⟩
theorem Zbj{P:Program}{t ty e:Nat}{inf:TypeInfo}{z:Value}{ks:List Kd}{v u:Value}{rv ru:List (List Value)}{bytes:Nat}(hd:P.underlying t=some (.slice e))(hi:P.info? e=some inf)(hz:inf.zero=some z) (hs:inf.size=ks.length) (hzs:z.cells.size=ks.length) (hby:inf.bytes=bytes) (hpos:0<ks.length) (hv:owns w v e ks rv) (hu:reads w u ks ru) (hb:(rv.length+ru.length)*bytes<=140737488355328) (hb0:0<bytes) : ∃v' w',(Builtin.append_ #[t,t] ty #[v,u]).run P w=.ok v' w'/\owns w' v' e ks (rv++ru)/\w.grownBy w' v.ownBlock/\(∀k,Z3 v' k->Z3 v k\/w.heap.size<=k):=by
 obtain⟨hk1,ho⟩:=hv;obtain⟨hk2,ua,uc,rfl,hun,hur⟩:=hu;have hsum:rv.length+ru.length<=maxLen:=by unfold maxLen;have:(rv.length+ru.length)*1<=(rv.length+ru.length)*bytes:=Nat.mul_le_mul_left _ hb0;omega
 have hfl:=Zj (n:=ks.length) (λr hr=>(hk2 r hr).length);have hone:∀x∈ru.flatten,x.oneCell'=true:=by intro x hx;obtain⟨row,hr,hx⟩:=List.mem_flatten.1 hx;exact(hk2 row hr).one x hx
 have hrows:∀r∈rv++ru,rowOk ks r:=λr hr=>by rcases qy13.1 hr with h|h;exact hk1 r h;exact hk2 r h
 cases ua with
 | none =>
  have hr0:ru=[]:=by
   cases hc:ru with
   | nil=>rfl
   | cons x l=>obtain⟨ad,h,_⟩:=hur (by rw[hc];simp);cases h
  subst hr0;have:=hun.1 rfl;subst this;refine⟨v,w,run_append_owned_none w 0 t ty e inf ks.length hd hi v _ _ ho,⟨by simpa using hk1,by simpa using ho⟩,⟨rfl,rfl,rfl,Nat.le_refl _,λ_ _ _=>rfl⟩,λk hk=>.inl hk⟩
 | some ad =>
  have hnews:∀j x,ru.flatten[j]?=some x->w.cell? (ad.add j)=some x:=by
   intro j x hx;have hne:ru≠[]:=λe=>by subst e;simp at hx
   obtain⟨ad',h,h3⟩:=hur hne;simp at h;subst h;exact h3 j x hx
  rcases ho.2 with⟨rfl,hn⟩|⟨g,cap,cur,rfl,hb',hg,hnc,hcm,hcs,htake⟩
  ·have hnil:rv=[]:=List.eq_nil_of_length_eq_zero hn;subst hnil;obtain⟨v',w',h1,h2,h3,-⟩:=run_append_own w w.heap.size t ty e inf z ks.length bytes hd hi hz hs hby hzs hpos (.slice none 0 0) 0 [] (World.ownsRow_nil _ _ _ _) ad ru.length uc ru.flatten hfl hnews hone (by simpa using hsum) (by simpa using hb) (Nat.le_refl _);refine⟨v',w',h1,⟨hrows,?_⟩,h3,λk hk=>.inr (h2.lt k hk).1⟩;simp only[List.nil_append,Nat.zero_add]at h2⊢;exact⟨h2.1,h2.2.imp id λ⟨g,cap,cur,a1,a2,a3⟩=>⟨g,cap,cur,a1,Nat.zero_le _,a3⟩⟩
  ·by_cases hroom:rv.length+ru.length<=cap
   ·obtain⟨w',h1,h2,h3⟩:=run_append_fits w 0 t ty e inf ks.length hd hi hs g rv.length cap rv.flatten ho ad ru.length uc ru.flatten hfl hnews hone hroom;refine⟨_,w',h1,⟨hrows,?_⟩,h3,λk hk=>.inl hk⟩;simpa using h2
   ·have hold:∀j x,rv.flatten[j]?=some x->w.cell? ((⟨g,0,none⟩:Addr).add j)=some x:=λj x hx=>ho.cells rfl j x hx;obtain⟨v',w',h1,h2,h3⟩:=run_append_arg_grows (w:=w) t ty e inf z ks.length bytes hd hi hz hs hby hzs hpos ⟨g,0,none⟩ rv.length cap rv.flatten ho.1 hold ad ru.length uc ru.flatten hfl hnews (by omega) hsum hb;refine⟨v',w',h1,⟨hrows,?_⟩,⟨h3.os,h3.tape,h3.output,h3.size,λk hk _=>h3.block k hk (by simp)⟩,λk hk=>.inr (h2.lt k hk).1⟩;simp only[List.flatten_append,qy11];exact⟨h2.1,h2.2.imp id λ⟨g,cap,cur,a1,a2,a3⟩=>⟨g,cap,cur,a1,Nat.zero_le _,a3⟩⟩
theorem Z28(hp:List Ent)(v:Nat):(Z4j hp v).Sublist hp:=List.filter_sublist
theorem Zl6(hE:EnvOK C.P E){o:Oper}{c:Call}{x y:Operand}{t e v u:Nat}{ei:TI}{r ry:X}{k:St->Tree}{K:Act->World->Prop}{Q:Exit->Act->World->Prop}(hi:Inv C st J a w) (hk:∀st' J' a' w',st'.d=st.d->J <+: J'->(k st').goal C J' L->Inv C st' J' a' w'->K a' w') (hop:o.op=.call c) (hcal:c.callee=.builtin .append) (hargs:c.args.toList=[x,y]) (htys:c.argTypes.toList=[t,t]) (ht:E.T.tag t=some (.slice e)) (hx:st.rd (.B true) x=some (false,[.val (.var v)])) (hy:st.rd (.B true) y=some (false,[.val (.var u)])) (hei:E.T.get e=some ei) (hrow:Z69 st.hp v=some (e,ei.ks,r)) (hru:Zq st.hp u=some (ei.ks,ry)) (hpos:0<ei.ks.length) (hb0:0<ei.bytes) (hrb:r.bd st.n=true) (hryb:ry.bd st.n=true) (hn:((r.ev J).toR.length:Int)+(ry.ev J).toR.length<=140737488355328 / (ei.bytes:Int)) (hg:∀v',(∀k,Z3 v' k->C.B.w0.heap.size<=k\/k∈C.B.fp)->(k (St.put { st with n:=st.n+1,hp:=.row st.n e ei.ks (Zfm r ry)::Z4j st.hp v } o.dst (Z6a st.n))).goal C (J++[.v v']) L):o.wp C.P a w K Q:=by
  obtain⟨callee,args,argTypes⟩:=c;obtain⟨args⟩:=args;obtain⟨argTypes⟩:=argTypes;simp only[]at hcal hargs htys;subst hcal hargs htys;obtain⟨d,hd,htag⟩:=hE.tab.tag ht;have:=Z1i htag;subst this;obtain⟨d',inf,z,hd',hinf,hsz,hby,hz,hzc,hzb,hzl,-⟩:=(hE.tab.get hei).ok;have hzs:z.cells.size=ei.ks.length:=by rw[<- Array.length_toList,hzc,<- hzl];simp
  have hx:=hi.rd_ok rfl hx;have hy:=hi.rd_ok rfl hy;simp only[CV.ev,Sc.ev,X.ev]at hx hy;have hmem:=Z44 hrow;have hown:owns w (J.getD v (.i 0)).toV e ei.ks (r.ev J).toR:=hi.rel.holds _ hmem;have hrd:=Z27 hi.rel.holds hru;have ho1:sc1 (J.getD v (.i 0)).toV=(J.getD v (.i 0)).toV:=by obtain⟨_,_,_,hv,_⟩:=hown.reads;rw[hv];rfl
  have ho2:sc1 (J.getD u (.i 0)).toV=(J.getD u (.i 0)).toV:=by obtain⟨_,_,_,hv,_⟩:=hrd;rw[hv];rfl
  rw[ho1]at hx;rw[ho2]at hy;have hbound:((r.ev J).toR.length+(ry.ev J).toR.length)*ei.bytes<=140737488355328:=by
    have h1:(((r.ev J).toR.length+(ry.ev J).toR.length:Nat):Int)*(ei.bytes:Int)<=140737488355328:=by have h2:=Int.mul_le_mul_of_nonneg_right hn (show(0:Int)<=ei.bytes by omega);have h3:=Int.ediv_mul_le (140737488355328:Int) (show(ei.bytes:Int)≠0 by omega);rw[Int.natCast_add];omega
    rw[<- Int.natCast_mul]at h1;omega
  obtain⟨v',w',hrun,hown',hgr,hfr⟩:=Zbj (P:=C.P) (ty:=o.type) hd hinf hz hsz hzs hby hpos hown hrd hbound hb0;unfold Oper.wp execOp;simp only[hop];have e1:(do let d <- resolve a.eval { callee:=.builtin .append,args:=⟨[x,y]⟩,argTypes:=⟨[t,t]⟩ } o.type;invoke d.target d.args:Sem Next).run C.P w=.ok (.value v') w':=by
    have e0:((⟨[x,y]⟩:Array Operand).map a.eval)=#[(J.getD v (.i 0)).toV,(J.getD u (.i 0)).toV]:=by rw[<- hx,<- hy];exact List.map_toArray ..
    have e2:(builtin .append ⟨[t,t]⟩ o.type ((⟨[x,y]⟩:Array Operand).map fun | .const _=>true|_=>false) #[(J.getD v (.i 0)).toV,(J.getD u (.i 0)).toV]).run C.P w=.ok (.value v') w':=by simp only[builtin,Sem.run_bind,hrun,Result.andThen_ok,Sem.run_pure]
    simp only[resolve,e0,Sem.run_bind,Sem.run_pure,Result.andThen_ok,invoke];exact e2
  rw[e1];simp only[Oper.upon];have hone:v'.oneCell'=true:=by obtain⟨_,_,_,hv,_⟩:=hown'.reads;rw[hv];rfl
  have hdisj:∀e'∈Z4j st.hp v,∀k,Z3 (J.getD v (.i 0)).toV k->¬e'.fp J k:=by intro e' he' k hk hk';have he:=(Z28 st.hp v).subset he';refine hi.rel.disj hmem he (λh=>?_) (.inl rfl) hk hk';subst h;simp[Z4j]at he'
  have hsub:=hi.rel.sublist (Z28 st.hp v);have hrel:Rel C.B J (Z4j st.hp v) w':=by
    have hm:Mod (match (J.getD v (.i 0)).toV.ownBlock with|some g=>[g] | none=>[]) w w':=Mod.of_grown hgr λk hk=>by rw[hk];exact .inl (by simp)
    refine hsub.step hm (λk hk=>?_) (λe' he' k hk=>?_)
    . cases hb:(J.getD v (.i 0)).toV.ownBlock with
      | none=>rw[hb]at hk;simp at hk
      | some g =>
        rw[hb]at hk;simp at hk;subst hk;exact hi.rel.own _ hmem rfl _ hb
    . cases hb:(J.getD v (.i 0)).toV.ownBlock with
      | none=>rw[hb]at hk;simp at hk
      | some g =>
        rw[hb]at hk;simp at hk;subst hk;exact hdisj e' he' _ hb
  have hi2:=hi.bindEnt hrel (List.all_eq_true.2 λe' he'=>List.all_eq_true.1 hi.bdh e' ((Z28 st.hp v).subset he')) (.v v') (.row st.n e ei.ks (Zfm r ry))
    (by simp only[Ent.bd,Bool.and_eq_true,decide_eq_true_eq];exact⟨by omega,X.bd_mono (by omega) _ (Zh6 hrb hryb)⟩)
    (by simp only[Ent.holds,Zg hi.len,V.toV_v,Zbi hi.len _ (Zh6 hrb hryb),Zon];exact hown')
    (λ_ k hk=>by
      simp only[Ent.fp,Zg hi.len,V.toV_v]at hk;rcases hfr k hk with h|h
      . exact hi.rel.own _ hmem rfl k h
      . exact .inl (Nat.le_trans hi.rel.mod.size h))
    (λe' he' _ k hk hk'=>by
      simp only[Ent.fp,Zg hi.len,V.toV_v]at hk;rcases hfr k hk with h|h
      . exact hdisj e' he' k h hk'
      . have:=Ent.bound (hsub.holds e' he') hk';omega)
  exact hk _ _ _ _ (by cases o.dst<;>rfl) (List.prefix_append J _) (hg v' (hi2.ownNew hi.len (qy8 ..))) (hi2.put _ (Z31 hi.len hone))
theorem Zj3{P:Program}{t e:Nat}{inf:TypeInfo}{ks:List Kd}{rows:List (List Value)}{v:Value}{lo hi:Option Value}{l h:Int}(hd:P.underlying t=some (.slice e))(hi':P.info? e=some inf)(hs:inf.size=ks.length) (hv:reads w v ks rows) (hlo:∀x,lo=some x->∃k,x=.int k l) (hhi:∀x,hi=some x->∃k,x=.int k h) (h1:lo=none->l=0) (h2:hi=none->h=rows.length) (hl:0<=l) (hlh:l<=h) (hh:h<=rows.length) : ∃v',(Instr.sliceAt t v lo hi none).run P w=.ok v' w/\reads w v' ks ((rows.take h.toNat).drop l.toNat)/\∀k,Z3 v' k->Z3 v k:=by
 obtain⟨hk,va,cap,rfl,⟨hnone,hc⟩,hrow⟩:=hv;obtain⟨n,rfl⟩:=Int.eq_ofNat_of_zero_le hl;obtain⟨m,rfl⟩:=Int.eq_ofNat_of_zero_le (show 0<=h by omega);have a1:n<=m:=by omega
 have a2:m<=rows.length:=by omega
 have hrun:(Instr.sliceAt t (.slice va rows.length cap) lo hi none).run P w=.ok (.slice (if cap=n then va else va.map (·.add (n*ks.length))) (m - n) (cap - n)) w:=by
  have b1:m<=cap:=by omega
  cases lo<;>cases hi
  ·have:=h1 rfl;have:=h2 rfl;obtain rfl:n=0:=by omega
   obtain rfl:m=rows.length:=by omega
   simp[Instr.sliceAt,Instr.slice,Instr.sliceBounds,go_sem,run_underlying hd,sizeOf,typeInfo,hi',Z41]
  ·obtain⟨k,rfl⟩:=hhi _ rfl;have:=h1 rfl;obtain rfl:n=0:=by omega
   simp[Instr.sliceAt,Instr.slice,Instr.sliceBounds,Instr.sliceBound,asIntOf,go_sem,run_underlying hd,sizeOf,typeInfo,hi',b1,Z41]
  ·obtain⟨k,rfl⟩:=hlo _ rfl;have:=h2 rfl;obtain rfl:m=rows.length:=by omega
   simp[Instr.sliceAt,Instr.slice,Instr.sliceBounds,Instr.sliceBound,asIntOf,go_sem,run_underlying hd,sizeOf,typeInfo,hi',hs,a1]
  ·obtain⟨k,rfl⟩:=hlo _ rfl;obtain⟨k',rfl⟩:=hhi _ rfl;simp[Instr.sliceAt,Instr.slice,Instr.sliceBounds,Instr.sliceBound,asIntOf,go_sem,run_underlying hd,sizeOf,typeInfo,hi',hs,b1,a1]
 have hlen:((rows.take m).drop n).length=m - n:=by simp;omega
 refine⟨_,hrun,⟨λr hr=>hk r (List.mem_of_mem_take (List.mem_of_mem_drop hr)),if cap=n then va else va.map (·.add (n*ks.length)),cap - n,?_,⟨?_,?_⟩,?_⟩,?_⟩
 ·simp only[qy4,hlen]
 ·intro hn;split at hn
  ·have:=hnone hn;omega
  ·cases va with
   | none=>have:=hnone rfl;omega
   | some ad=>cases hn
 ·simp only[qy4,hlen];omega
 ·intro hne;simp only[qy4]at hne⊢;have hlt:n<m:=by
   have:(rows.take m).drop n≠[]:=hne;have:=List.length_pos_iff.2 this;omega
  obtain⟨ad,rfl,h3⟩:=hrow (λe=>by subst e;simp at a2;omega);rw[if_neg (by omega)];refine⟨ad.add (n*ks.length),rfl,λj u hu=>?_⟩;rw[Z96];refine h3 _ _ ?_;have hl2:=Zj (n:=ks.length) (λr hr=>(hk r hr).length);have e1:rows.flatten=(rows.take n).flatten++((rows.take m).drop n).flatten++(rows.drop m).flatten:=by
   rw[<- List.flatten_append,<- List.flatten_append];congr 1
   rw[<- List.take_append_drop m rows];conv=>lhs;rw[List.take_append_drop]
   have:rows.take m=rows.take n++(rows.take m).drop n:=by
    conv=>lhs;rw[<- List.take_append_drop n (rows.take m)]
    rw[List.take_take,Nat.min_eq_left a1]
   simp only[List.take_append_drop];rw[<- this,List.take_append_drop]
  have e2:(rows.take n).flatten.length=n*ks.length:=by rw[Zj (λr hr=>(hk r (List.mem_of_mem_take hr)).length)];rw[List.length_take,Nat.min_eq_left (by omega)]
  rw[e1,List.append_assoc,List.getElem?_append_right (by omega),e2,Nat.add_sub_cancel_left];rw[List.getElem?_append_left (List.getElem?_eq_some_iff.1 hu).1];exact hu
 ·intro k hk';unfold Z3 at *;split at hk'
  ·cases va with
   | none=>cases hk'
   | some ad=>exact hk'
  ·cases va with
   | none=>cases hk'
   | some ad=>simpa[Value.ownBlock,Addr.add_block]using hk'
theorem Zj4{b:ByteArray}:(b.data.toList.map λx=>[Value.int .u8 (x.toNat:Int)]).flatten=b.data.toList.map λx=>Value.int .u8 (x.toNat:Int):=by
 induction b.data.toList with
 | nil=>rfl
 | cons x l ih=>simp[ih]
theorem Zj5(hi:Inv C st J a w){e:Nat}{s:X}(hb:s.bd st.n=true){cap:Nat}(hcap:(s.ev J).toS.length<=cap){w':World}(hw:w'=w.drew) : Inv C { st with n:=st.n+1,hp:=.rd st.n [.int .u8] (.rOf s)::st.hp } (J++[.v (.slice (some ⟨w.heap.size,0,none⟩) (s.ev J).toS.length cap)]) a
   (w'.alloc (.cells (bytesRow ⟨(s.ev J).toS.toArray⟩ cap) e ((bytesRow ⟨(s.ev J).toS.toArray⟩ cap).size,(bytesRow ⟨(s.ev J).toS.toArray⟩ cap).size+1))):=by
 subst hw;have hl:=Zbi hi.len (.v (.slice (some ⟨w.heap.size,0,none⟩) (s.ev J).toS.length cap)) hb;refine hi.bindEnt (hi.rel.drew.alloc _) hi.bdh _ _ ?_ ?_ ?_ ?_
 ·simp only[Ent.bd,X.bd,Bool.and_eq_true,decide_eq_true_eq];exact⟨by omega,X.bd_mono (by omega) _ hb⟩
 ·simp only[Ent.holds,Zg hi.len,V.toV_v,X.ev,hl,V.toR_r];refine⟨?_,some ⟨w.heap.size,0,none⟩,cap,by simp,⟨(λh=>by cases h),by simpa using hcap⟩,λ_=>⟨_,rfl,?_⟩⟩
  ·intro r hr;simp only[List.mem_map]at hr;obtain⟨x,-,rfl⟩:=hr;exact⟨⟨_,rfl⟩,trivial⟩
  ·intro j u hu;have e1:=Zj4 (b:=⟨(s.ev J).toS.toArray⟩);simp only[List.toList_toArray]at e1;rw[e1]at hu;rw[Zbf];have hg:(w.drew.alloc (.cells (bytesRow ⟨(s.ev J).toS.toArray⟩ cap) e ((bytesRow ⟨(s.ev J).toS.toArray⟩ cap).size,(bytesRow ⟨(s.ev J).toS.toArray⟩ cap).size+1))).heap[w.heap.size]?=some (.cells (bytesRow ⟨(s.ev J).toS.toArray⟩ cap) e ((bytesRow ⟨(s.ev J).toS.toArray⟩ cap).size,(bytesRow ⟨(s.ev J).toS.toArray⟩ cap).size+1)):=by
    show(w.heap.push _)[w.heap.size]?=_
    simp
   rw[cell_of_row _ _ _ _ _ _ hg];have hj:=(List.getElem?_eq_some_iff.1 hu).1;simp only[qy3]at hj;simp only[bytesRow,Nat.zero_add];rw[Array.getElem?_append_left (by simpa using hj)];simpa using hu
 ·intro h;cases h
 ·intro e' he' _ k hk' hk2;simp only[Ent.fp,Zg hi.len,V.toV_v,Z3,Value.ownBlock,Option.some.injEq]at hk';have:=hk'.2;subst this;have:=Ent.bound (hi.rel.holds e' he') hk2;omega
theorem Zj6(ns:List Int):∀(l:List UInt8),ns.foldl (λ(r:ByteArray) (n:Int)=>r.push (UInt8.ofNat n.toNat)) ⟨l.toArray⟩=⟨(l++ns.map λn=>UInt8.ofNat n.toNat).toArray⟩:=by
 induction ns with
 | nil=>intro l;simp
 | cons n ns ih =>
  intro l;simp only[List.foldl_cons];have:(⟨l.toArray⟩:ByteArray).push (UInt8.ofNat n.toNat)=⟨(l++[UInt8.ofNat n.toNat]).toArray⟩:=by simp[ByteArray.push]
  rw[this,ih];simp
theorem Zdw{P:Program}{src dst e:Nat}{v:Value}{rows:List (List Value)}(hs:P.underlying src=some (.slice e))(he:P.underlying e=some (.int .u8))(hd:P.underlying dst=some .string)(hv:reads w v [.int .u8] rows) : (convert src dst v).run P w=.ok (.string ⟨(rows.map λr=>UInt8.ofNat (Value.gI (r.getD 0 undef)).toNat).toArray⟩) w:=by
 obtain⟨hk,va,cap,rfl,-,hrow⟩:=hv;have hr:∀r∈rows,∃n,r=[.int .u8 n]:=by
  intro r hr;have:=hk r hr
  match r,this with
  | [x],h=>obtain⟨⟨n,hn⟩,-⟩:=h;exact⟨n,by rw[hn]⟩
 have hfl:rows.flatten=(rows.map λr=>Value.gI (r.getD 0 undef)).map (Value.int .u8):=by
  clear hrow hk;induction rows with
  | nil=>rfl
  | cons r rows ih =>
   obtain⟨n,rfl⟩:=hr r (qy8 ..);simp[ih λr h=>hr r (qy10 _ h),Value.gI]
 rw[run_convert_bytes_string w src dst e va _ cap hs he hd];cases va with
 | none =>
  have:rows=[]:=by
   cases hc:rows with
   | nil=>rfl
   | cons x l=>obtain⟨ad,h,_⟩:=hrow (by rw[hc];simp);cases h
  subst this;simp[Conv.bytesToString,go_sem];rfl
 | some ad =>
  have hload:(loadCells ad rows.length).run P w=.ok ((rows.map λr=>Value.gI (r.getD 0 undef)).map (Value.int .u8)).toArray w:=by
   have hlen:rows.flatten.length=rows.length:=by rw[hfl];simp
   have:=Z4f (P:=P) w ad rows.length 0 rows.flatten #[] hlen (λj u hu=>by
    have hne:rows≠[]:=λe=>by subst e;simp at hu
    obtain⟨ad',h,h3⟩:=hrow hne;simp at h;subst h;simpa using h3 j u hu)
   unfold loadCells;rw[this,hfl];simp
  rw[run_bytesToString w ad _ cap _ hload];have:=Zj6 (rows.map λr=>Value.gI (r.getD 0 undef)) [];rw[show(ByteArray.empty:ByteArray)=⟨([]:List UInt8).toArray⟩ from rfl,this];simp
theorem Z6u{B:Base}{hp:List Ent}{v e:Nat}{ks:List Kd}{r r':X}{w':World}(h:Rel B J hp w)(hm:Ent.row v e ks r∈hp)(hgr:w.grownBy w' (J.getD v (.i 0)).toV.ownBlock) (hb:∀e' ks' r0,Ent.row v e' ks' r0∈hp->(Ent.row v e' ks' r').holds J w'):Rel B J (setRow hp v r') w':=by
 have hown:=h.own _ hm rfl;have hfree:∀x∈hp,(∀e' ks' r0,x≠.row v e' ks' r0)->∀k,Z3 (J.getD v (.i 0)).toV k->¬x.fp J k:=λx hx hne k hk hk'=>h.disj hm hx (λe=>hne _ _ _ e.symm) (.inl rfl) hk hk';have key:∀x∈hp,∀x',x'=Z7p v r' x->x'.wr=x.wr/\(∀k,x'.fp J k↔x.fp J k)/\x'.holds J w':=by
  intro x hx x' hx';have hst:(∀e' ks' r0,x≠.row v e' ks' r0)->x.holds J w':=λhne=>Ent.stable (h.holds x hx) λk hk =>
   hgr.block k (Ent.bound (h.holds x hx) hk) (λe=>hfree x hx hne k e.symm hk)
  cases x with
  | row u e0 ks0 r0 =>
   simp only[Z7p]at hx';split at hx'
   ·rename_i hu;subst hu;subst hx';exact⟨rfl,λk=>Iff.rfl,hb _ _ _ hx⟩
   ·rename_i hu;subst hx';exact⟨rfl,λk=>Iff.rfl,hst λ_ _ _ h=>by simp at h;exact hu h.1⟩
  | _=>simp only[Z7p]at hx';subst hx';exact⟨rfl,λk=>Iff.rfl,hst λ_ _ _ h=>by cases h⟩
 refine⟨h.mod.trans (Mod.of_grown (fp:=match (J.getD v (.i 0)).toV.ownBlock with|some g=>[g] | none=>[]) hgr λk hk=>by rw[hk];exact .inl (by simp)) (λk hk=>?_),λx hx=>?_,λx hx hw k hk=>?_,?_⟩
 ·cases hb':(J.getD v (.i 0)).toV.ownBlock with
  | none=>rw[hb']at hk;simp at hk
  | some g =>
   rw[hb']at hk;simp at hk;subst hk;exact(hown _ hb').symm
 ·simp only[setRow,List.mem_map]at hx;obtain⟨y,hy,hx⟩:=hx;exact(key y hy x hx.symm).2.2
 ·simp only[setRow,List.mem_map]at hx;obtain⟨y,hy,hx⟩:=hx;obtain⟨h1,h2,-⟩:=key y hy x hx.symm;exact h.own y hy (by rw[<- h1];exact hw) k ((h2 k).1 hk)
 ·unfold Zv setRow;rw[List.pairwise_map];refine List.Pairwise.imp_of_mem (λ{x y} hx hy hxy=>?_) h.sep;obtain⟨h1,h2,-⟩:=key x hx _ rfl;obtain⟨h1',h2',-⟩:=key y hy _ rfl;intro hw k ha hb;exact hxy (by rw[<- h1,<- h1'];exact hw) k ((h2 k).1 ha) ((h2' k).1 hb)
theorem Zdx{hp:List Ent}{n v:Nat}{r':X}(h:hp.all (Ent.bd n)=true)(hr:r'.bd n=true):(setRow hp v r').all (Ent.bd n)=true:=by
 refine List.all_eq_true.2 λe he=>?_;simp only[setRow,List.mem_map]at he;obtain⟨x,hx,he⟩:=he;have:=List.all_eq_true.1 h x hx;cases x with
 | row u ty ks r =>
  simp only[Z7p]at he;split at he<;>subst he
  ·simp only[Ent.bd,Bool.and_eq_true]at this⊢;exact⟨this.1,hr⟩
  ·exact this
 | _=>simp only[Z7p]at he;subst he;exact this
theorem Zfq{cur row:List Value}{off N:Nat}(h:off+row.length<=N)(h2:N<=cur.length) : (cur.take off++row++cur.drop (off+row.length)).take N=(cur.take N).take off++row++(cur.take N).drop (off+row.length):=by
 obtain⟨a,b,rfl,hb⟩:∃a b,cur=a++b/\a.length=N:=⟨cur.take N,cur.drop N,(List.take_append_drop N cur).symm,by simp;omega⟩
 subst hb;have e1:(a++b).take off=a.take off:=by rw[List.take_append_of_le_length (by omega)]
 have e2:(a++b).drop (off+row.length)=a.drop (off+row.length)++b:=by rw[List.drop_append_of_le_length h]
 have e3:(a++b).take a.length=a:=by simp
 rw[e1,e2,e3,<- List.append_assoc];have e4:(a.take off++row++a.drop (off+row.length)).length=a.length:=by simp;omega
 rw[List.take_append_of_le_length (by omega),List.take_of_length_le (by omega)]
theorem Zl7{cur rowi csv:List Value}{off c len:Nat}(h1:(cur.drop off).take len=rowi)(h2:rowi.length=len)(h3:c+csv.length<=len)(h4:off+len<=cur.length) : cur.take (off+c)++csv++cur.drop (off+c+csv.length)=cur.take off++Z8m c csv rowi++cur.drop (off+len):=by
 obtain⟨a,b,rfl,ha⟩:∃a b,cur=a++(rowi++b)/\a.length=off:=by refine⟨cur.take off,cur.drop (off+len),?_,by simp;omega⟩;rw[<- h1,show cur.drop (off+len)=(cur.drop off).drop len by rw[List.drop_drop],List.take_append_drop,List.take_append_drop]
 subst ha h2;simp only[Z8m];rw[List.take_length_add_append,List.take_append_of_le_length (show c<=rowi.length by omega),Nat.add_assoc,List.drop_length_add_append,List.drop_append_of_le_length h3,List.take_append_of_le_length (Nat.le_refl _),List.take_length,List.drop_length_add_append,List.drop_append_of_le_length (Nat.le_refl _),List.drop_length];simp
theorem Zfr{n:Nat}:∀{rows:List (List Value)} {i:Nat},(∀r∈rows,r.length=n)->i<rows.length->(rows.flatten.drop (i*n)).take n=rows.getD i []:=by
 intro rows;induction rows with
 | nil=>intro i _ h;simp at h
 | cons r rows ih =>
  intro i hr hi;have h1:=hr r (qy8 ..);cases i with
  | zero=>simp only[List.flatten_cons,Nat.zero_mul,List.drop_zero,List.getD_cons_zero];rw[List.take_append_of_le_length (by omega),List.take_of_length_le (by omega)]
  | succ i =>
   simp only[List.flatten_cons,List.getD_cons_succ];rw[show(i+1)*n=r.length+i*n by rw[Nat.succ_mul,h1];omega,List.drop_length_add_append];exact ih (λr h=>hr r (qy10 _ h)) (by simpa using hi)
theorem Zcj{r i:X}{ks:List Kd}(h:rowOk ks ((r.ev J).toR.getD (i.ev J).toI.toNat [])):(Z18 r i 0 ks).map (Sc.ev J)=(r.ev J).toR.getD (i.ev J).toI.toNat []:=by
 apply List.ext_getElem?;intro j;by_cases hj:j<ks.length
 ·obtain⟨v,hv,hk⟩:=h.get (qy7 hj);have e:((r.ev J).toR.getD (i.ev J).toI.toNat []).getD j undef=v:=by rw[qy1,hv];rfl
  have:=Z4g (J:=J) r i ks 0 j ks[j] (qy7 hj) (by rw[Nat.zero_add,e];exact hk);rw[List.getElem?_map,this,Nat.zero_add,e,hv]
 ·rw[List.getElem?_eq_none (by simp[Z1w];omega),List.getElem?_eq_none (by rw[h.length];omega)]
theorem Zfs{n:Nat}:∀{rows:List (List Value)} {i:Nat} {row:List Value},(∀r∈rows,r.length=n)->i<rows.length->row.length=n -> (rows.set i row).flatten=rows.flatten.take (i*n)++row++rows.flatten.drop (i*n+n):=by
 intro rows;induction rows with
 | nil=>intro i row _ h;simp at h
 | cons r rows ih =>
  intro i row hr hi hrow;have h1:=hr r (qy8 ..);cases i with
  | zero =>
   simp only[List.set_cons_zero,List.flatten_cons,Nat.zero_mul,List.take_zero,List.nil_append,Nat.zero_add];rw[List.drop_append_of_le_length (by omega),List.drop_of_length_le (by omega)];simp
  | succ i =>
   simp only[List.set_cons_succ,List.flatten_cons];rw[ih (λr h=>hr r (qy10 _ h)) (by simpa using hi) hrow];have e1:(i+1)*n=r.length+i*n:=by rw[Nat.succ_mul,h1];omega
   rw[e1,List.take_length_add_append,show r.length+i*n+n=r.length+(i*n+n) by omega,List.drop_length_add_append];simp
theorem Zoo(hE:EnvOK C.P E){o:Oper}{k:St->Tree}{t:Tree}{K:Act->World->Prop}{Q:Exit->Act->World->Prop} (hi:Inv C st J a w) (hk:∀st' J' a' w',st'.d=st.d->J <+: J'->(k st').goal C J' L->Inv C st' J' a' w'->K a' w') (hr:Zrf E o st k=some t) (hg:t.goal C J L):o.wp C.P a w K Q:=by
  have hput:∀(st:St) (s:SV),(st.put o.dst s).d=st.d:=by intro st s;cases ho':o.dst<;>rfl
  have hTT:(X.ev J (.B true)).toB=true:=rfl;have nil_ok:∀{e:Nat} {ei:TI},E.T.get e=some ei->(Tree.letV .nilS (k (St.put { st with n:=st.n+1,hp:=.row st.n e ei.ks .nilR::st.hp } o.dst (Z6a st.n)))).goal C J L->K (a.put o.dst (.slice none 0 0)) w:=by
    intro e ei hei hg;have hi2:=hi.bindEnt hi.rel hi.bdh (.v (.slice none 0 0)) (.row st.n e ei.ks .nilR) (by simp[Ent.bd,X.bd])
      (by simp only[Ent.holds,Zg hi.len,V.toV_v,X.ev,V.toR_r];exact⟨by simp,World.ownsRow_nil _ _ _ _⟩)
      (λ_ k hk=>by simp only[Ent.fp,Zg hi.len,V.toV_v,Z3,Value.ownBlock]at hk;cases hk)
      (λ_ _ _ k hk _=>by simp only[Ent.fp,Zg hi.len,V.toV_v,Z3,Value.ownBlock]at hk;cases hk)
    exact hk _ _ _ _ (by exact hput _ _) (List.prefix_append J _) hg (hi2.put _ (Z31 hi.len rfl))
  unfold Zrf at hr;split at hr
  . rename_i hop;split at hr
    . split at hr<;>simp only[Option.some.injEq,reduceCtorEq]at hr;rename_i ei hei;subst hr;unfold Oper.wp execOp;simp only[hop,Sem.run_pure,Oper.upon,Act.eval];exact nil_ok hei hg
    . cases hr
  . rename_i hop;split at hr
    . split at hr<;>simp only[Option.some.injEq,reduceCtorEq]at hr;rename_i ei hei;subst hr;unfold Oper.wp execOp;simp only[hop,Sem.run_pure,Oper.upon,Act.eval];exact nil_ok hei hg
    . cases hr
  .
    rename_i t' len parts hop;split at hr
    . rename_i e ht;split at hr
      . rename_i ei ps hei hps;split at hr
        . rename_i cs hcs;split at hr
          . rename_i r hrx;simp only[Option.ite_none_right_eq_some,Option.some.injEq]at hr;obtain⟨⟨hrb,hsm,hpos,hcl⟩,rfl⟩:=hr;obtain⟨d,hd,htag⟩:=hE.tab.tag ht;have:=Z1i htag;subst this;obtain⟨d',inf,z,hd',hinf,hsz,hby,hz,hzc,hzb,hzl,-⟩:=(hE.tab.get hei).ok;have hz0:z.cells=(ei.zs.map (Sc.ev J)).toArray:=by
              apply Array.ext';rw[hzc,Z21 (J:=[]) (J':=J) (n:=0) (λk hk=>by omega) _ hzb]
            have hparts:parts.map (λ(p:Nat×Operand)=>(p.1,a.eval p.2))=(ps.map λp=>(p.1,CV.ev J p.2)).toArray:=by have:=Zbg (J:=J) (λx c hx=>hi.rd_ok hTT hx) _ _ hps;apply Array.ext';simpa using this
            have hfill:=Zkk (J:=J) (fl:=(List.range len).map λi=>(i*ei.ks.length,e,ei.ks.length,ei.agg)) (place:=λi=>some (i*ei.ks.length,ei.ks.length)) (λn p hp=>by simp only[List.getElem?_map,Option.map_eq_some_iff]at hp;obtain⟨i,hi',rfl⟩:=hp;have:=(List.getElem?_eq_some_iff.1 hi').2;simp at this;subst this;rfl) ps _ cs hcs
            have hrun:=Zb6 (w:=w) (P:=C.P) (t:=t') (len:=len) (parts:=(ps.map λp=>(p.1,CV.ev J p.2)).toArray) hd hinf hz hz0 (by rw[hsz,hzl]) (by rw[hzl];exact hsm) (by rw[hzl];exact hpos) (by rw[hzl];exact hfill);obtain⟨r1,r2,r3⟩:=Zol (J:=J) hrx hcl;have hlm:len<=maxLen:=by unfold maxLen;have:len*1<=len*ei.ks.length:=Nat.mul_le_mul_left _ hpos;omega
            have hi2:=hi.newRow (w:=w) (e:=e) (cs:=(cs.map (Sc.ev J)).toArray) hrb (by simpa using r1) r2 r3 hlm;unfold Oper.wp execOp;simp only[hop,hparts,Sem.run_bind,hrun,Result.andThen_ok,Sem.run_pure,Oper.upon];exact hk _ _ _ _ (by exact hput _ _) (List.prefix_append J _) (hg _ (hi2.ownNew hi.len (qy8 ..))) (hi2.put _ (Z31 hi.len rfl))
          . cases hr
        . cases hr
      . cases hr
    . cases hr
  .
    rename_i src dst x hop;split at hr
    . rename_i e s hs hd hx;split at hr
      . rename_i he;simp only[Option.ite_none_right_eq_some,Option.some.injEq]at hr;obtain⟨hb,rfl⟩:=hr;obtain⟨d1,hd1,ht1⟩:=hE.tab.tag hs;have:=Z68 ht1;subst this;obtain⟨d2,hd2,ht2⟩:=hE.tab.tag hd;have:=Z1i ht2;subst this;obtain⟨d3,hd3,ht3⟩:=hE.tab.tag he;have:=Zcf ht3;subst this;have hx:=hi.rd_ok hTT hx;simp only[CV.ev,Sc.ev]at hx;have hrun:=run_bytes_of_string (P:=C.P) w src dst e ⟨(s.ev J).toS.toArray⟩ hd1 hd2 hd3;have hcap:(s.ev J).toS.length<=grownCap w (⟨(s.ev J).toS.toArray⟩:ByteArray).size 0 e:=by
          have:=grownCap_ge w (⟨(s.ev J).toS.toArray⟩:ByteArray).size 0 e;rw[Zcc]at this⊢;exact this
        have hi2:=Zj5 hi (e:=e) hb hcap (w':=w.drew) rfl;unfold Oper.wp execOp;simp only[hop,hx,Sem.run_bind,hrun,Result.andThen_ok,Sem.run_pure,Oper.upon];rw[Zcc]at hi2⊢;exact hk _ _ _ _ (by exact hput _ _) (List.prefix_append J _) (hg _) (hi2.put _ (Z31 hi.len rfl))
      . cases hr
    . rename_i e v hs hd hx;split at hr
      . rename_i r he hf;simp only[Option.some.injEq]at hr;subst hr;obtain⟨d1,hd1,ht1⟩:=hE.tab.tag hs;have:=Z1i ht1;subst this;obtain⟨d2,hd2,ht2⟩:=hE.tab.tag hd;have:=Z68 ht2;subst this;obtain⟨d3,hd3,ht3⟩:=hE.tab.tag he;have:=Zcf ht3;subst this;have hx:=hi.rd_ok hTT hx;simp only[CV.ev,Sc.ev,X.ev]at hx;have hrd:=Z27 hi.rel.holds hf;have ho2:sc1 (J.getD v (.i 0)).toV=(J.getD v (.i 0)).toV:=by
          obtain⟨_,_,_,hv,_⟩:=hrd;rw[hv];rfl
        rw[ho2]at hx;have hrun:=Zdw (P:=C.P) hd1 hd3 hd2 hrd;unfold Oper.wp execOp;simp only[hop,hx,Sem.run_bind,hrun,Result.andThen_ok,Sem.run_pure,Oper.upon];exact hk _ _ _ _ (by exact hput _ _) List.prefix_rfl hg (hi.put _ rfl)
      . cases hr
    . cases hr
  .
    rename_i t' x lo hi' hop;split at hr
    . rename_i e v ht hx;split at hr
      . rename_i ei ks r hei hf;split at hr
        . rename_i l h hl hh;simp only[Option.ite_none_right_eq_some,Option.some.injEq]at hr;obtain⟨⟨hks,hlb,hhb,hrb⟩,rfl⟩:=hr;obtain⟨hn,hg⟩:=Z2z hg;obtain⟨n1,n23⟩:=(hn hTT).app;obtain⟨n2,n3⟩:=n23.app;obtain⟨d,hd,htag⟩:=hE.tab.tag ht;have:=Z1i htag;subst this;obtain⟨d',inf,z,hd',hinf,hsz,-⟩:=(hE.tab.get hei).ok;obtain⟨l1,l2⟩:=Z5l (J:=J) (e:=a.eval) (λx c hx=>hi.rd_ok hTT hx) hl;obtain⟨u1,u2⟩:=Z5l (J:=J) (e:=a.eval) (λx c hx=>hi.rd_ok hTT hx) hh;have hx:=hi.rd_ok hTT hx;simp only[CV.ev,Sc.ev,X.ev]at hx;have hrd:=Z27 hi.rel.holds hf;have ho2:sc1 (J.getD v (.i 0)).toV=(J.getD v (.i 0)).toV:=by
            obtain⟨_,_,_,hv,_⟩:=hrd;rw[hv];rfl
          rw[ho2]at hx;obtain⟨v',hrun,hrd',hbl⟩:=Zj3 (P:=C.P) (w:=w) hd hinf (by rw[hsz,hks]) hrd l1 u1 (λh=>by rw[l2 h];rfl) (λh=>by rw[u2 h];rfl) (Zy n1) (Z2y n2) (Z2y n3);have hlg:=Zch (v:=v) hi.rel;have hone:v'.oneCell'=true:=by obtain⟨_,_,_,hv,_⟩:=hrd';rw[hv];rfl
          have hrb':(X.dropR (.takeR r h) l).bd st.n=true:=by simp[X.bd,hrb,hhb,hlb]
          have hi2:=hi.bindEnt hlg (Zci hi.bdh) (.v v') (.rd st.n ks (.dropR (.takeR r h) l))
            (by simp only[Ent.bd,Bool.and_eq_true,decide_eq_true_eq];exact⟨by omega,X.bd_mono (by omega) _ hrb'⟩)
            (by simp only[Ent.holds,Zg hi.len,V.toV_v,Zbi hi.len _ hrb'];exact hrd')
            (λh=>by cases h)
            (λe' he' hw k hk hk'=>by
              simp only[Ent.fp,Zg hi.len,V.toV_v]at hk;obtain⟨hne,hbk⟩:=hk;have hw':e'.wr=true:=by rcases hw with h|h;cases h;exact h
              rw[Zbi hi.len _ hrb']at hne;have hne0:(r.ev J).toR.flatten≠[]:=by
                intro h0;apply hne;simp only[X.ev,V.toR_r];have hall:∀x∈(r.ev J).toR,x=[]:=λx hx=>by have:=List.flatten_eq_nil_iff.1 h0 x hx;exact this
                exact List.flatten_eq_nil_iff.2 λx hx=>hall x (List.mem_of_mem_take (List.mem_of_mem_drop hx))
              have hbv:=hbl k hbk;have hsrc:∃s∈Z52 st.hp v,s.wr=false/\s.fp J k:=by
                clear hk hrun hrd';have key:∀(hp:List Ent),Zq hp v=some (ks,r)->∃s∈Z52 hp v,s.wr=false/\s.fp J k:=by
                  intro hp;induction hp with
                  | nil=>intro h;simp[Zq]at h
                  | cons y hp ih =>
                    intro h;cases y with
                    | row u ty ks' r' =>
                      simp only[Zq]at h;split at h
                      . rename_i hu;subst hu;simp at h;obtain⟨rfl,rfl⟩:=h;exact⟨.rd u ks' r',by simp[Z52],rfl,hne0,hbv⟩
                      . obtain⟨s,hs,r⟩:=ih h;exact⟨s,by simp only[Z52,List.map_cons]at hs⊢;exact qy10 _ hs,r⟩
                    | rd u ks' r' =>
                      simp only[Zq]at h;split at h
                      . rename_i hu;subst hu;simp at h;obtain⟨rfl,rfl⟩:=h;exact⟨.rd u ks' r',by simp[Z52],rfl,hne0,hbv⟩
                      . obtain⟨s,hs,r⟩:=ih h;exact⟨s,by simp only[Z52,List.map_cons]at hs⊢;exact qy10 _ hs,r⟩
                    | _=>simp only[Zq]at h;obtain⟨s,hs,r⟩:=ih h;exact⟨s,by simp only[Z52,List.map_cons]at hs⊢;exact qy10 _ hs,r⟩
                exact key _ hf
              obtain⟨s,hs,hsw,hsk⟩:=hsrc;exact hlg.disj hs he' (λe=>by rw[<- e,hsw]at hw';cases hw') (.inr hw') hsk hk')
          unfold Oper.wp execOp;simp only[hop,hx,Sem.run_bind,Option.map_none,hrun,Result.andThen_ok,Sem.run_pure,Oper.upon];exact hk _ _ _ _ (by exact hput _ _) (List.prefix_append J _) (hg v' hbl) (hi2.put _ (Z31 hi.len hone))
        . cases hr
      . cases hr
    . cases hr
  .
    rename_i c hop;split at hr
    . rename_i x y t1 t2 hcal hargs htys;split at hr
      . rename_i e v u ht hx hy;split at hr
        . rename_i ei e' ks r ks' ry hei hrow hru;simp only[Option.ite_none_right_eq_some,Option.some.injEq]at hr;obtain⟨⟨rfl,rfl,rfl,rfl,hpos,hb0,hrb,hryb⟩,rfl⟩:=hr;simp only[Tree.goal,X.P,X.ev,V.toI_i]at hg;exact Zl6 hE hi hk hop hcal hargs htys ht hx hy hei hrow hru hpos hb0 hrb hryb hg.1 hg.2
        . cases hr
      . cases hr
    . cases hr
  .
    rename_i t' ad x hop;split at hr
    . rename_i v esz i c g cs ti had hx hti;split at hr
      . rename_i e ks r hrow;split at hr
        . rename_i rx hrx;simp only[Option.ite_none_right_eq_some,Option.some.injEq]at hr;obtain⟨⟨rfl,hcle,htl,hcpos,hg1,hpos,hkf,hrb,hib,hrxb⟩,rfl⟩:=hr;obtain⟨hn,hg⟩:=Z2z hg;obtain⟨n1,n2⟩:=(hn hTT).app;have n1:=Zy n1;have n2:(i.ev J).toI<(r.ev J).toR.length:=of_decide_eq_true (n2 _ (qy12.2 rfl));have hx:=hi.rd_ok hTT hx;have had:=hi.rd_ok hTT had;have hmem:=Z44 hrow;have hown:owns w (J.getD v (.i 0)).toV e ks (r.ev J).toR:=hi.rel.holds _ hmem;have hrX:=Zfp (J:=J) hrx;have hkF:=Z6b (J:=J) hkf;obtain⟨d',inf,z,hd',hinf,hsz,-⟩:=(hE.tab.get hti).ok;have hown':=hown;obtain⟨hk1,ho1,ho2⟩:=hown';rcases ho2 with⟨hv,hl0⟩|⟨gb,cap,cur,hv,hb',hgb,hnc,hcm,hcs,htake⟩
          . omega
          . have hrl:∀row∈(r.ev J).toR,row.length=ks.length:=λrow hr=>(hk1 row hr).length;have hin:(i.ev J).toI.toNat<(r.ev J).toR.length:=by omega
            have hoff:(i.ev J).toI.toNat*ks.length+ks.length<=cur.size:=by rw[hcs,<- Nat.succ_mul];exact Nat.mul_le_mul_right _ (by omega)
            have hN:(i.ev J).toI.toNat*ks.length+ks.length<=(r.ev J).toR.length*ks.length:=by rw[<- Nat.succ_mul];exact Nat.mul_le_mul_right _ (by omega)
            have hcl':cur.toList.length=cur.size:=Array.length_toList;have hle:(r.ev J).toR.length*ks.length<=cur.size:=by rw[hcs];exact Nat.mul_le_mul_right _ hnc
            have hrowi:(cur.toList.drop ((i.ev J).toI.toNat*ks.length)).take ks.length=(r.ev J).toR.getD (i.ev J).toI.toNat []:=by
              rw[<- Zfr hrl hin,<- htake];rw[List.drop_take,List.take_take];congr 1
              omega
            have hrok:rowOk ks ((r.ev J).toR.getD (i.ev J).toI.toNat []):=by rw[qy1,qy7 hin];exact hk1 _ (List.getElem_mem hin)
            have hful:(Z8m c cs (Z18 r i 0 ks)).map (Sc.ev J)=Z8m c (cs.map (Sc.ev J)) ((r.ev J).toR.getD (i.ev J).toI.toNat []):=by rw[<- Zcj hrok];simp[Z8m]
            generalize hF:(Z8m c cs (Z18 r i 0 ks)).map (Sc.ev J)=full at hful hkF hrX
            have hfl:full.length=ks.length:=hkF.length;have hcells:=Z97 (J:=J) hg1;have hcz:(CV.ev J (g,cs)).cells.size=inf.size:=by rw[<- Array.length_toList,hcells,hsz];simp;omega
            have hst:=run_storeCells_at (P:=C.P) gb ((i.ev J).toI.toNat*ks.length+c) e ((CV.ev J (g,cs)).cells.toList) 0 cur w hgb (by rw[hcells];simp;omega) (by rw[hcells];intro x hx;simp only[List.mem_map]at hx;obtain⟨s,-,rfl⟩:=hx;exact Sc.ev_one J s)
            have e2:=Z8n (P:=C.P) (w:=w) (t:=t') (ad:=⟨gb,(i.ev J).toI.toNat*ks.length+c,none⟩) hinf rfl hcz;have hadv:a.eval ad=.pointer (some ⟨gb,(i.ev J).toI.toNat*ks.length+c,none⟩):=by rw[had];simp only[CV.ev,Sc.ev,hv,Zbf,Nat.zero_add]
            have e3:(Instr.sureAddr (.pointer (some ⟨gb,(i.ev J).toI.toNat*ks.length+c,none⟩))).run C.P w=.ok ⟨gb,(i.ev J).toI.toNat*ks.length+c,none⟩ w:=by simp[Instr.sureAddr,go_sem]
            have hspl:=Zl7 (cur:=cur.toList) (csv:=cs.map (Sc.ev J)) (c:=c) hrowi (hrok.length) (by simpa using hcle) (by rw[hcl'];exact hoff);rw[<- hful,qy3]at hspl;have hsto:(Instr.storeAt t' (a.eval ad) (a.eval x)).run C.P w=.ok () (w.setRow gb (cur.toList.take ((i.ev J).toI.toNat*ks.length)++full++cur.toList.drop ((i.ev J).toI.toNat*ks.length+ks.length)).toArray):=by unfold Instr.storeAt;rw[hadv,Sem.run_bind,e3];simp only[Result.andThen_ok];rw[hx,e2,hst,hcells,<- hspl];simp
            have hbk:(J.getD v (.i 0)).toV.ownBlock=some gb:=by rw[hv];rfl
            have hnew:owns (w.setRow gb (cur.toList.take ((i.ev J).toI.toNat*ks.length)++full++cur.toList.drop ((i.ev J).toI.toNat*ks.length+ks.length)).toArray) (J.getD v (.i 0)).toV e ks ((r.ev J).toR.set (i.ev J).toI.toNat full):=by
              refine⟨λrow hr=>?_,?_,.inr ⟨gb,cap,_,by rw[hv];simp,hb',setRow_heap w gb _ _ e (0,0) hgb,by simpa using hnc,hcm,?_,?_⟩⟩
              . rcases List.mem_or_eq_of_mem_set hr with h|h
                . exact hk1 row h
                . rw[h];exact hkF
              . rw[Zj (n:=ks.length)];intro row hr;rcases List.mem_or_eq_of_mem_set hr with h|h
                . exact hrl row h
                . rw[h];exact hfl
              . simp[hfl];omega
              . simp only[List.length_set];have hts:=Zfq (cur:=cur.toList) (row:=full) (off:=(i.ev J).toI.toNat*ks.length) (N:=(r.ev J).toR.length*ks.length) (by simpa[hfl]using hN) (by rw[hcl'];exact hle);simp only[hfl]at hts;rw[Zfs hrl (by omega) hfl,<- htake,hts]
            have hgr:w.grownBy (w.setRow gb (cur.toList.take ((i.ev J).toI.toNat*ks.length)++full++cur.toList.drop ((i.ev J).toI.toNat*ks.length+ks.length)).toArray) (J.getD v (.i 0)).toV.ownBlock:=by rw[hbk];exact⟨rfl,rfl,rfl,by simp,λk _ hne=>setRow_other w gb k _ (λe=>hne (by rw[e]))⟩
            have hrel:=Z6u (r':=.setR r i rx) hi.rel hmem hgr (λe' ks' r0 hm'=>by
              have:Ent.row v e' ks' r0=Ent.row v e ks r:=by
                by_cases h:Ent.row v e' ks' r0=Ent.row v e ks r
                . exact h
                . exact(hi.rel.disj hm' hmem h (.inl rfl) hbk hbk).elim
              simp only[Ent.row.injEq,true_and]at this;obtain⟨rfl,rfl,rfl⟩:=this;simp only[Ent.holds,X.ev,V.toR_r,hrX];exact hnew)
            have hi2:=hi.heap (Zdx hi.bdh (by simp[X.bd,hrb,hib,hrxb])) hrel;unfold Oper.wp execOp;simp only[hop,Sem.run_bind,hsto,Result.andThen_ok,Sem.run_pure,Oper.upon];exact hk _ _ _ _ (by exact hput _ _) List.prefix_rfl hg (hi2.put _ rfl)
        . cases hr
      . cases hr
    . cases hr
  . cases hr
section
variable {C:Cx} {E:Env} {st:St} {J:List V} {L:List LC} {a:Act} {w:World}
theorem Zft{P:Program}{t e k len cap n:Nat}{inf:TypeInfo}{va:Option Addr}{lo:Option Value}{l:Int}(hd:P.underlying t=some (.slice e))(hi':P.info? e=some inf)(hs:inf.size=k) (hlo:∀x,lo=some x->∃kk,x=.int kk l) (h1:lo=none->l=0) (hl:l=(n:Int)) (hn:n<=len) (hc:len<=cap) : (Instr.sliceAt t (.slice va len cap) lo none none).run P w=.ok (Z4z k n (.slice va len cap)) w:=by
 subst hl;cases lo with
 | none =>
  have:=h1 rfl;obtain rfl:n=0:=by omega
  simp[Instr.sliceAt,Instr.slice,Instr.sliceBounds,go_sem,run_underlying hd,sizeOf,typeInfo,hi',Z41,Z4z]
 | some x =>
  obtain⟨kk,rfl⟩:=hlo _ rfl;simp[Instr.sliceAt,Instr.slice,Instr.sliceBounds,Instr.sliceBound,asIntOf,go_sem,run_underlying hd,sizeOf,typeInfo,hi',hs,hn,Z4z]
theorem Zfu{P:Program}{t e len cap m:Nat}{kk:IntKind}{inf:TypeInfo}{va:Option Addr}(hd:P.underlying t=some (.slice e))(hi':P.info? e=some inf) (hm:m<=cap) (hnil:va=none->cap=0) : (Instr.sliceAt t (.slice va len cap) none (some (.int kk (m:Int))) none).run P w=.ok (.slice va m cap) w:=by
 have e1:(if cap=0 then va else va.map (·.add 0))=va:=by
  split
  ·rfl
  ·cases va<;>simp[Z41]
 simp[Instr.sliceAt,Instr.slice,Instr.sliceBounds,Instr.sliceBound,asIntOf,go_sem,run_underlying hd,sizeOf,typeInfo,hi',hm,Z41]
theorem Zl8(zs:List Sc)(n:Nat):(reps zs n).map (Sc.ev J)=(List.replicate n (zs.map (Sc.ev J))).flatten:=by
 induction n with
 | zero=>simp[reps]
 | succ n ih=>simp[reps,ih,List.replicate_succ',List.flatten_append]
theorem Z8o{n:Nat}{rows:List (List Value)}(h:∀r∈rows,r.length=n)(i:Nat):rows.flatten.take (i*n)=(rows.take i).flatten:=by
 induction rows generalizing i with
 | nil=>simp
 | cons r rows ih =>
  have hr:=h r (qy8 ..);cases i with
  | zero=>simp
  | succ i =>
   rw[List.flatten_cons,Nat.succ_mul,Nat.add_comm,<- hr,List.take_length_add_append,hr,ih (λx hx=>h x (qy10 _ hx))];simp
theorem Zl9{P:Program}{t e ty k l:Nat}{inf:TypeInfo}{z:Value}{zs:List Sc}{gb len cap:Nat}{cur:Array Value}(hd:P.underlying t=some (.slice e))(hi:P.info? e=some inf)(hz:inf.zero=some z) (hz0:z.cells=(zs.map (Sc.ev J)).toArray) (hk:zs.length=k) (hpos:0<k) (hg:w.heap[gb]?=some (.cells cur e (0,0))) (hl:l<len) (hc:len<=cap) (hcs:cur.size=cap*k) : (Builtin.clear_ #[t] ty #[Z4z k l (.slice (some ⟨gb,0,none⟩) len cap)]).run P w=.ok (.tuple #[]) (w.setRow gb (cur.toList.take (l*k)++(List.replicate (len - l) (zs.map (Sc.ev J))).flatten++cur.toList.drop (len*k)).toArray):=by
  have e1:∀w,(zeroValue e).run P w=.ok z w:=λw=>by simp[go_sem,zeroValue,typeInfo,hi,hz]
  have hsub:Z4z k l (.slice (some ⟨gb,0,none⟩) len cap)=.slice (some ⟨gb,l*k,none⟩) (len - l) (cap - l):=by simp only[Z4z];rw[if_neg (by omega)];simp[Zbf]
  rw[hsub];obtain⟨m,hm⟩:∃m,len - l=m+1:=⟨len - l - 1,by omega⟩
  have hzc:(Builtin.zeroCells z.cells (len - l)).toList=(List.replicate (len - l) (zs.map (Sc.ev J))).flatten:=by
    unfold Builtin.zeroCells;rw[<- Zl8];have hsz:z.cells.size=zs.length:=by rw[hz0];simp
    have:=Zh5 (J:=J) (len:=len - l) hz0 (by omega);rw[show(len - l)*z.cells.size=(len - l)*zs.length by rw[hsz],this]
  have hlen:((List.replicate (len - l) (zs.map (Sc.ev J))).flatten).length=(len - l)*k:=by
    rw[Zj (n:=k)]
    . simp
    . intro r hr;rw[List.eq_of_mem_replicate hr];simpa using hk
  have hle:len*k<=cap*k:=Nat.mul_le_mul_right _ hc;have hsum:l*k+(len - l)*k=len*k:=by rw[<- Nat.add_mul];congr 1;omega
  have hst:=run_storeCells_at (P:=P) gb (l*k) e ((List.replicate (len - l) (zs.map (Sc.ev J))).flatten) 0 cur w hg (by rw[hlen];omega) (by intro v hv;obtain⟨r,hr,hv⟩:=List.mem_flatten.1 hv;rw[List.eq_of_mem_replicate hr]at hv;simp only[List.mem_map]at hv;obtain⟨s,-,rfl⟩:=hv;exact Sc.ev_one J s)
  rw[hlen,Nat.add_zero,hsum]at hst;rw[hm]at hzc hst⊢;simp only[Builtin.clear_,List.getElem?_toArray,List.getElem?_cons_zero];rw[Sem.run_bind,run_underlying hd];simp only[Result.andThen_ok];rw[Sem.run_bind,e1];simp only[Result.andThen_ok];rw[Sem.run_bind,hzc,hst];simp[Sem.run_pure]
theorem Z64{P:Program}{t e ty:Nat}{v:Value}(hd:P.underlying t=some (.slice e))(hv:(∃n c,v=.slice none n c)\/∃va c,v=.slice va 0 c):(Builtin.clear_ #[t] ty #[v]).run P w=.ok (.tuple #[]) w:=by
 rcases hv with⟨n,c,rfl⟩|⟨va,c,rfl⟩
 ·simp[Builtin.clear_,run_underlying hd]
 ·cases va<;>simp[Builtin.clear_,run_underlying hd]
theorem Zla(hE:EnvOK C.P E){ops:List Oper}{o:Oper}{k:St->Tree}{t:Tree}{K:Act->World->Prop}{Q:Exit->Act->World->Prop} (hi:Inv C st J a w) (hk:∀st' J' a' w',st'.d=st.d->J <+: J'->(k st').goal C J' L->Inv C st' J' a' w'->K a' w') (hr:Zkz E ops o st k=some t) (hg:t.goal C J L):o.wp C.P a w K Q:=by
  have hput:∀(st:St) (s:SV),(st.put o.dst s).d=st.d:=by intro st s;cases ho':o.dst<;>rfl
  have hTT:(X.ev J (.B true)).toB=true:=rfl;unfold Zkz at hr;split at hr
  .
    rename_i t' x lo hop;split at hr
    . rename_i e v ht hx;split at hr
      . rename_i ei e' ks r l hei hrow hl;simp only[Option.ite_none_right_eq_some,Option.some.injEq]at hr;obtain⟨⟨-,rfl,rfl,hvn,hlb⟩,rfl⟩:=hr;obtain⟨hn,hg⟩:=Z2z hg;obtain⟨n1,n2⟩:=(hn hTT).app;obtain⟨d,hd,htag⟩:=hE.tab.tag ht;have:=Z1i htag;subst this;obtain⟨d',inf,z,hd',hinf,hsz,-⟩:=(hE.tab.get hei).ok;obtain⟨l1,l2⟩:=Z5l (J:=J) (e:=a.eval) (λx c hx=>hi.rd_ok hTT hx) hl;have hx:=hi.rd_ok hTT hx;simp only[CV.ev,Sc.ev,X.ev]at hx;have hown:owns w (J.getD v (.i 0)).toV e' ei.ks (r.ev J).toR:=hi.rel.holds _ (Z44 hrow);obtain⟨hrk,va,cap,hv,⟨hnone,hc⟩,-⟩:=hown.reads;rw[hv]at hx;have n1:=Zy n1;have n2:=Z2y n2;simp only[X.ev,V.toI_i]at n2;have hrun:=Zft (P:=C.P) (w:=w) (va:=va) (len:=(r.ev J).toR.length) (cap:=cap) (n:=(l.ev J).toI.toNat) (k:=ei.ks.length) hd hinf hsz l1 (λh=>by rw[l2 h];rfl) (by omega) (by omega) hc;unfold Oper.wp execOp;have hx':a.eval x=.slice va (r.ev J).toR.length cap:=hx;simp only[hop,hx',Option.map_none,Sem.run_bind,hrun,Result.andThen_ok,Sem.run_pure,Oper.upon];refine hk _ _ _ _ (by exact hput _ _) List.prefix_rfl hg (hi.put _ ?_)
        show Z4z _ _ _=CV.ev J (false,[Sc.val (X.subS ei.ks.length (X.var v) l)])
        simp only[CV.ev,Sc.ev,X.ev,V.toV_v,hv,Z4z];rfl
      . cases hr
    . cases hr
  .
    rename_i t' x hi' hop;split at hr
    . rename_i e v ht hx;split at hr
      . rename_i ei e' ks r h hei hrow hh;simp only[Option.ite_none_right_eq_some,Option.some.injEq]at hr;obtain⟨⟨rfl,rfl,hhb,hrb,-⟩,rfl⟩:=hr;obtain⟨hn,hg⟩:=Z2z hg;obtain⟨n1,n2⟩:=(hn hTT).app;obtain⟨d,hd,htag⟩:=hE.tab.tag ht;have:=Z1i htag;subst this;obtain⟨d',inf,z,hd',hinf,hsz,-⟩:=(hE.tab.get hei).ok;obtain⟨u1,-⟩:=Z5l (J:=J) (e:=a.eval) (λx c hx=>hi.rd_ok hTT hx) hh;have hx:=hi.rd_ok hTT hx;simp only[CV.ev,Sc.ev,X.ev]at hx;have hmem:=Z44 hrow;have hown:owns w (J.getD v (.i 0)).toV e' ei.ks (r.ev J).toR:=hi.rel.holds _ hmem;obtain⟨hrk,va,cap,hv,⟨hnone,hc⟩,-⟩:=hown.reads;rw[hv]at hx;have n1:=Zy n1;have n2:=Z2y n2;simp only[X.ev,V.toI_i]at n2;obtain⟨kk,hkk⟩:=u1 _ rfl;obtain⟨m,hm⟩:∃m:Nat,(h.ev J).toI=m:=⟨(h.ev J).toI.toNat,by omega⟩
        rw[hm]at hkk n2;have hrun:=Zfu (P:=C.P) (w:=w) (va:=va) (len:=(r.ev J).toR.length) (cap:=cap) (m:=m) (kk:=kk) hd hinf (by omega) hnone;have hx':a.eval x=.slice va (r.ev J).toR.length cap:=hx;have hrb':(X.takeR r h).bd st.n=true:=by simp[X.bd,hrb,hhb]
        have hbk:∀q,Z3 (.slice va m cap) q↔Z3 (J.getD v (.i 0)).toV q:=λq=>by rw[hv];cases va<;>rfl
        have hnew:owns w (.slice va m cap) e' ei.ks ((r.ev J).toR.take m):=by
          obtain⟨h1,h2,h3⟩:=hown;have hrl:∀row∈(r.ev J).toR,row.length=ei.ks.length:=λrow hr=>(h1 row hr).length;refine⟨λrow hr=>h1 row (List.mem_of_mem_take hr),?_,?_⟩
          . rw[Zj (n:=ei.ks.length) (λrow hr=>hrl row (List.mem_of_mem_take hr))]
          . rcases h3 with⟨h3,h4⟩|⟨g,cap',cur,h3,hb,hgb,hnc,hcm,hcs,htk⟩
            . left;rw[hv]at h3;simp only[Value.slice.injEq]at h3;obtain⟨rfl,h5,rfl⟩:=h3;have:m=0:=by omega
              subst this;simp
            . right;rw[hv]at h3;simp only[Value.slice.injEq]at h3;obtain⟨rfl,h5,rfl⟩:=h3;have hml:((r.ev J).toR.take m).length=m:=by rw[List.length_take];omega
              refine⟨g,cap,cur,by rw[hml],hb,hgb,by rw[hml];omega,hcm,hcs,?_⟩;rw[hml,<- Z8o hrl,<- htk,List.take_take];congr 1
              have:=Nat.mul_le_mul_right ei.ks.length (show m<=(r.ev J).toR.length by omega);omega
        have hsub:=hi.rel.sublist (Z28 st.hp v);have hdisj:∀e'∈Z4j st.hp v,∀k,Z3 (J.getD v (.i 0)).toV k->¬e'.fp J k:=by intro e' he' k hk hk';have he:=(Z28 st.hp v).subset he';refine hi.rel.disj hmem he (λh=>?_) (.inl rfl) hk hk';subst h;simp[Z4j]at he'
        have hi2:=hi.bindEnt hsub (List.all_eq_true.2 λe' he'=>List.all_eq_true.1 hi.bdh e' ((Z28 st.hp v).subset he')) (.v (.slice va m cap)) (.row st.n e' ei.ks (.takeR r h))
          (by simp only[Ent.bd,Bool.and_eq_true,decide_eq_true_eq];exact⟨by omega,X.bd_mono (by omega) _ hrb'⟩)
          (by simp only[Ent.holds,Zg hi.len,V.toV_v];rw[Zbi hi.len _ hrb'];simp only[X.ev,V.toR_r,hm,qy4];exact hnew)
          (λ_ k hk=>by simp only[Ent.fp,Zg hi.len,V.toV_v]at hk;exact hi.rel.own _ hmem rfl _ ((hbk k).1 hk))
          (λe' he' _ k hk hk'=>by simp only[Ent.fp,Zg hi.len,V.toV_v]at hk;exact hdisj e' he' k ((hbk k).1 hk) hk')
        unfold Oper.wp execOp;have hkk':(some hi').map a.eval=some (.int kk (m:Int)):=by simpa using hkk
        simp only[hop,hx',Option.map_none,hkk',Sem.run_bind,hrun,Result.andThen_ok,Sem.run_pure,Oper.upon];exact hk _ _ _ _ (by exact hput _ _) (List.prefix_append J _) (hg _ (hi2.ownNew hi.len (qy8 ..))) (hi2.put _ (Z31 hi.len rfl))
      . cases hr
    . cases hr
  .
    rename_i c hop;split at hr
    . rename_i y t' hcal hargs htys;split at hr
      . rename_i e n0 v l ht hy;split at hr
        . rename_i ei e' ks r hei hrow;split at hr
          . rename_i zx hzx;simp only[Option.ite_none_right_eq_some,Option.some.injEq]at hr;obtain⟨⟨rfl,rfl,rfl,hpos,hlb,hrb,hzb,hkf⟩,rfl⟩:=hr;obtain⟨callee,args,argTypes⟩:=c;obtain⟨args⟩:=args;obtain⟨argTypes⟩:=argTypes;simp only[]at hcal hargs htys;subst hcal hargs htys;obtain⟨hn,hg⟩:=Z2z hg;obtain⟨n1,n2⟩:=(hn hTT).app;obtain⟨d,hd,htag⟩:=hE.tab.tag ht;have:=Z1i htag;subst this;obtain⟨d',inf,z,hd',hinf,hsz,hby,hz,hzc,hzbd,hzl,-⟩:=(hE.tab.get hei).ok;have hz0:z.cells=(ei.zs.map (Sc.ev J)).toArray:=by
              apply Array.ext';rw[hzc,Z21 (J:=[]) (J':=J) (n:=0) (λk hk=>by omega) _ hzbd]
            have hy:=hi.rd_ok hTT hy;have hmem:=Z44 hrow;have hown:owns w (J.getD v (.i 0)).toV e' ei.ks (r.ev J).toR:=hi.rel.holds _ hmem;obtain⟨-,va,cap,hv,⟨hnone,hc⟩,-⟩:=hown.reads;simp only[CV.ev,Sc.ev,X.ev,V.toV_v,hv]at hy;have n1:=Zy n1;have n2:=Z2y n2;simp only[X.ev,V.toI_i]at n2;obtain⟨m,hm⟩:∃m:Nat,(l.ev J).toI=m:=⟨(l.ev J).toI.toNat,by omega⟩
            rw[hm]at hy n2;simp only[qy4]at hy;have hy':a.eval y=Z4z ei.ks.length m (.slice va (r.ev J).toR.length cap):=hy;have hrX:=Zfp (J:=J) hzx;have hkF:=Z6b (J:=J) hkf;have hzlen:ei.zs.length=ei.ks.length:=by have:=hkF.length;simpa using this
            have fin:∀w',(Builtin.clear_ #[t'] o.type #[a.eval y]).run C.P w=.ok (.tuple #[]) w'->Rel C.B J (setRow st.hp v (.clrR r l zx)) w'->o.wp C.P a w K Q:=λw' hrun hrel=>by
              have hi2:=hi.heap (Zdx hi.bdh (by simp[X.bd,hrb,hlb,hzb])) hrel;unfold Oper.wp execOp;simp only[hop];have e1:(do let d <- resolve a.eval { callee:=.builtin .clear,args:=⟨[y]⟩,argTypes:=⟨[t']⟩ } o.type;invoke d.target d.args:Sem Next).run C.P w=.ok (.value (.tuple #[])) w':=by
                have e0:((⟨[y]⟩:Array Operand).map a.eval)=#[a.eval y]:=List.map_toArray ..;have e2:(builtin .clear ⟨[t']⟩ o.type ((⟨[y]⟩:Array Operand).map fun | .const _=>true|_=>false) #[a.eval y]).run C.P w=.ok (.value (.tuple #[])) w':=by simp only[builtin,Sem.run_bind,hrun,Result.andThen_ok,Sem.run_pure]
                simp only[resolve,e0,Sem.run_bind,Sem.run_pure,Result.andThen_ok,invoke];exact e2
              rw[e1];simp only[Oper.upon];exact hk _ _ _ _ (by exact hput _ _) List.prefix_rfl hg (hi2.put _ rfl)
            have hown':=hown;obtain⟨hk1,ho1,ho2⟩:=hown';have hrl:∀row∈(r.ev J).toR,row.length=ei.ks.length:=λrow hr=>(hk1 row hr).length;have hev:∀ks' e' w',(Ent.row v e' ks' (.clrR r l zx)).holds J w'=owns w' (J.getD v (.i 0)).toV e' ks' ((r.ev J).toR.take m++List.replicate ((r.ev J).toR.length - m) (ei.zs.map (Sc.ev J))):=λks' e' w'=>by simp only[Ent.holds,X.ev,V.toR_r,hm,qy4,hrX]
            rcases ho2 with⟨hv0,hl0⟩|⟨gb,cap',cur,hv0,hb',hgb,hnc,hcm,hcs,htake⟩
            . rw[hv]at hv0;simp only[Value.slice.injEq]at hv0;obtain⟨rfl,-,rfl⟩:=hv0;have hr0:(r.ev J).toR=[]:=List.length_eq_zero_iff.1 hl0;refine fin w (Z64 hd (.inl ?_)) (Z6u hi.rel hmem ⟨rfl,rfl,rfl,Nat.le_refl _,λ_ _ _=>rfl⟩ λe2 ks' r0 hm'=>?_)
              . rw[hy'];simp only[Z4z,Option.map_none,ite_self];exact⟨_,_,rfl⟩
              . rw[hev,hv,hr0];have h00:([]:List (List Value)).take m++List.replicate (([]:List (List Value)).length - m) (ei.zs.map (Sc.ev J))=[]:=by simp
                rw[h00];exact⟨by simp,World.ownsRow_nil _ _ _ _⟩
            . rw[hv]at hv0;simp only[Value.slice.injEq]at hv0;obtain⟨rfl,-,rfl⟩:=hv0;have hbk:(J.getD v (.i 0)).toV.ownBlock=some gb:=by rw[hv];rfl
              have huniq:∀e2 ks' r0,Ent.row v e2 ks' r0∈st.hp->Ent.row v e2 ks' r0=Ent.row v e' ei.ks r:=λe2 ks' r0 hm'=>by
                by_cases h:Ent.row v e2 ks' r0=Ent.row v e' ei.ks r
                . exact h
                . exact(hi.rel.disj hm' hmem h (.inl rfl) hbk hbk).elim
              by_cases hlt:m<(r.ev J).toR.length
              . have hrun:=Zl9 (J:=J) (w:=w) (P:=C.P) (ty:=o.type) (k:=ei.ks.length) (l:=m) hd hinf hz hz0 hzlen hpos hgb hlt hc hcs;rw[<- hy']at hrun;have hzfl:((List.replicate ((r.ev J).toR.length - m) (ei.zs.map (Sc.ev J))).flatten).length=((r.ev J).toR.length - m)*ei.ks.length:=by
                  rw[Zj (n:=ei.ks.length)]
                  . simp
                  . intro row hr;rw[List.eq_of_mem_replicate hr];simpa using hzlen
                have hcl':cur.toList.length=cur.size:=Array.length_toList;have hle:(r.ev J).toR.length*ei.ks.length<=cur.size:=by rw[hcs];exact Nat.mul_le_mul_right _ hnc
                have hsum:m*ei.ks.length+((r.ev J).toR.length - m)*ei.ks.length=(r.ev J).toR.length*ei.ks.length:=by rw[<- Nat.add_mul];congr 1;omega
                have hml:(cur.toList.take (m*ei.ks.length)).length=m*ei.ks.length:=by rw[List.length_take,hcl'];omega
                have hrowl:((r.ev J).toR.take m++List.replicate ((r.ev J).toR.length - m) (ei.zs.map (Sc.ev J))).length=(r.ev J).toR.length:=by simp;omega
                have hgr:w.grownBy (w.setRow gb (cur.toList.take (m*ei.ks.length)++(List.replicate ((r.ev J).toR.length - m) (ei.zs.map (Sc.ev J))).flatten++cur.toList.drop ((r.ev J).toR.length*ei.ks.length)).toArray) (J.getD v (.i 0)).toV.ownBlock:=by rw[hbk];exact⟨rfl,rfl,rfl,by simp,λk _ hne=>setRow_other w gb k _ (λe=>hne (by rw[e]))⟩
                refine fin _ hrun (Z6u hi.rel hmem hgr λe2 ks' r0 hm'=>?_);have hu:=huniq e2 ks' r0 hm';simp only[Ent.row.injEq,true_and]at hu;obtain⟨rfl,rfl,rfl⟩:=hu;rw[hev,hv];refine⟨λrow hr=>?_,?_,.inr ⟨gb,cap,_,by rw[hrowl],hb',setRow_heap w gb _ _ _ (0,0) hgb,by rw[hrowl];exact hnc,hcm,?_,?_⟩⟩
                . rcases qy13.1 hr with h|h
                  . exact hk1 row (List.mem_of_mem_take h)
                  . rw[List.eq_of_mem_replicate h];exact hkF
                . rw[Zj (n:=ei.ks.length)];intro row hr;rcases qy13.1 hr with h|h
                  . exact hrl row (List.mem_of_mem_take h)
                  . rw[List.eq_of_mem_replicate h];simpa using hzlen
                . simp only[List.size_toArray,qy11,hml,hzfl,List.length_drop,hcl'];omega
                . rw[hrowl,List.toList_toArray,List.take_append_of_le_length (by rw[qy11,hml,hzfl];omega),List.take_of_length_le (by rw[qy11,hml,hzfl];omega)];rw[List.flatten_append,<- Z8o hrl,<- htake,List.take_take];congr 2
                  have:=Nat.mul_le_mul_right ei.ks.length (Nat.le_of_lt hlt);omega
              . have hme:m=(r.ev J).toR.length:=by omega
                subst hme;refine fin w (Z64 hd (.inr ?_)) (Z6u hi.rel hmem ⟨rfl,rfl,rfl,Nat.le_refl _,λ_ _ _=>rfl⟩ λe2 ks' r0 hm'=>?_)
                . rw[hy'];simp only[Z4z,Nat.sub_self];exact⟨_,_,rfl⟩
                . have hu:=huniq e2 ks' r0 hm';simp only[Ent.row.injEq,true_and]at hu;obtain⟨rfl,rfl,rfl⟩:=hu;rw[hev,List.take_length,Nat.sub_self,List.replicate_zero,List.append_nil];exact hown
          . cases hr
        . cases hr
      . cases hr
    . cases hr
  . cases hr
end
