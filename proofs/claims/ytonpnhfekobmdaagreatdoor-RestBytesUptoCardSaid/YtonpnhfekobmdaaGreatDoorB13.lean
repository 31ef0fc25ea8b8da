/- By an AI agent. -/
import Derived.Test.YtonpnhfekobmdaaGreatDoorB11
import Derived.Test.YtonpnhfekobmdaaGreatDoorB12
import Derived.Laws.OwnMore
import Derived.Lib.Overlaps
import Derived.Shelf.Spec.SlicesInsert
import Derived.Lib.AppendZerosOnto
set_option linter.all false
set_option maxHeartbeats 20000000
namespace Go.Proofs.Y
open Go.Sx
def Zty(l:List (Value×Nat×List Kd×List (List Value))):Asrt where
 holds w:=∀t∈l,owns w t.1 t.2.1 t.2.2.1 t.2.2.2
 fp k:=∃t∈l,Z3 t.1 k
 stable:=λw w' h hh t ht=>(hh t ht).stable λk hk=>h k ⟨t,ht,hk⟩
 bound:=λw hh k ⟨t,ht,hk⟩=>Ent.bound (J:=[.v t.1,.r t.2.2.2]) (e:=.row 0 t.2.1 t.2.2.1 (.var 1)) (hh t ht) hk
def pkO(t:Z24):List (Value×Nat×List Kd×List (List Value)):=[(t.2.1,69,[.str,.int .i64],t.1.asks.map encA),(t.2.2,3,[.int .i64],t.1.codes.map Za)]
def pksO(l:List Z24):Asrt:=Zty (l.flatMap pkO)
theorem Zd8{q:Pkt}{x y:Value}{w:World}(h1:owns w x 69 [.str,.int .i64] (q.asks.map encA))(h2:owns w y 3 [.int .i64] (q.codes.map Za)):(pksO [(q,x,y)]).holds w:=λt ht=>by
 simp only[List.flatMap_cons,List.flatMap_nil,List.append_nil,pkO,List.mem_cons,List.not_mem_nil,or_false]at ht;rcases ht with rfl|rfl
 ·exact h1
 ·exact h2
theorem Zd9{l:List Z24}{w:World}(h:(pksO l).holds w){t:Z24}(ht:t∈l):owns w t.2.1 69 [.str,.int .i64] (t.1.asks.map encA)/\owns w t.2.2 3 [.int .i64] (t.1.codes.map Za) :=
 ⟨h (t.2.1,69,[.str,.int .i64],t.1.asks.map encA) (List.mem_flatMap.2 ⟨t,ht,by simp[pkO]⟩),h (t.2.2,3,[.int .i64],t.1.codes.map Za) (List.mem_flatMap.2 ⟨t,ht,by simp[pkO]⟩)⟩
theorem Zpk(w:World):(pksO []).holds w:=λt ht=>by cases ht
theorem Zeu(k:Nat):¬(pksO []).fp k:=λ⟨t,ht,_⟩=>by cases ht
theorem Zpl{a b:List Z24}{w:World}(h1:(pksO a).holds w)(h2:(pksO b).holds w):(pksO (a++b)).holds w:=λt ht=>by rw[List.flatMap_append,qy13]at ht;exact ht.elim (h1 t) (h2 t)
theorem Zms{a b:List Z24}{k:Nat}(h:(pksO (a++b)).fp k):(pksO a).fp k\/(pksO b).fp k:=by obtain⟨t,ht,hk⟩:=h;rw[List.flatMap_append,qy13]at ht;exact ht.elim (λh=>.inl ⟨t,h,hk⟩) (λh=>.inr ⟨t,h,hk⟩)
theorem Z3b{q:Pkt}{x y:Value}{k:Nat}(h:(pksO [(q,x,y)]).fp k):Z3 x k\/Z3 y k:=by
 obtain⟨t,ht,hk⟩:=h;simp only[List.flatMap_cons,List.flatMap_nil,List.append_nil,pkO,List.mem_cons,List.not_mem_nil,or_false]at ht;rcases ht with rfl|rfl
 ·exact .inl hk
 ·exact .inr hk
theorem Zsr(w:World)(s:List UInt8)(hs:s.length<=60000000):Calls Tryz.prog 46 #[.string ⟨s.toArray⟩] w λe w'=>∃x y,e=.returned (.tuple #[pV (Z14 s).1 x y,.int .i64 (Z14 s).2.1,.int .i64 (Z14 s).2.2])/\Zd4 w w' (Z14 s).1 x y:=by
 refine Z1 (Z4 (J:=[.s s]) (sxE_ok.joins _) Tryz.func46 Z94 rfl rfl rfl ?_) rfl;simp only[QQ,Nat.reduceAdd];intro b1;refine⟨[.i (Z25 s).1,.i (Z25 s).2],rfl,λ_ w' _=>Zqx w' s (by omega),?_⟩;simp only[QQ,Nat.reduceAdd];refine⟨λh w' hr=>⟨nilV,nilV,?_⟩,λh=>?_⟩
 ·rw[Z14,if_pos h];exact⟨rfl,Z1z hr.mod 0⟩
 have hz:=Zd7 (qy9.1 h);rw[Z14,if_neg h];refine⟨by omega,by omega,?_⟩;have hlt:(s.take (Z25 s).1.toNat).length<=60000000:=by rw[List.length_take];omega
 intro w1 hr;refine(Zc1 w1 (s.take (Z25 s).1.toNat) hlt).mono ?_;generalize decD (s.take (Z25 s).1.toNat)=r
 obtain⟨q,er⟩:=r;rintro e w2 ⟨x,y,rfl,m,ox,oy,fx,fy⟩;refine⟨[.i q.kind,.b q.dup,.b q.retain,.b q.clean,.b q.session,.i q.qos,.i q.id,.i q.keep,.i q.code,.s q.client,.s q.topic,.s q.payload,.v x,.r (q.asks.map encA),.v y,.r (q.codes.map Za),.i er,.a (pksO [(q,x,y)])],rfl,rfl,m,qy5 _,qy2.2 ⟨⟨ox.reads,λk hk=>.inl (fx k hk.2)⟩,qy2.2 ⟨⟨oy.reads,λk hk=>.inl (fy k hk.2)⟩,qy2.2 ⟨⟨Zd8 ox oy,λk hk=>.inl ((Z3b hk).elim (fx k) (fy k))⟩,qy5 _⟩⟩⟩,Zp (by simp[Ent.wr]),?_⟩;simp only[QQ,Nat.reduceAdd];have hw:=hr.mod.size;clear m hr;intro b2;exact λw' hr=>⟨x,y,rfl,hr.mod,(Zd9 (hr.at_ 3 rfl:(pksO [(q,x,y)]).holds w') (qy12.2 rfl)).1,(Zd9 (hr.at_ 3 rfl:(pksO [(q,x,y)]).holds w') (qy12.2 rfl)).2,λk hk=>Nat.le_trans hw (fx k hk),λk hk=>Nat.le_trans hw (fy k hk)⟩
def Zmt(w w':World)(x:Value)(l:List Z24):Prop:=Mod [] w w'/\owns w' x 29 KP (l.map Z3a)/\(pksO l).holds w'/\(∀k,Z3 x k->w.heap.size<=k)/\∀k,(pksO l).fp k->w.heap.size<=k
theorem Zss(w:World)(r s:List UInt8)(hs:r.length+s.length<=60000000):Calls Tryz.prog 12 #[.string ⟨r.toArray⟩,.string ⟨s.toArray⟩] w λe w'=>∃(x:Value) (l:List Z24),e=.returned (.tuple #[sc1 x,.string ⟨(feed (r++s)).2.1.toArray⟩,.int .i64 (feed (r++s)).2.2])/\l.map (·.1)=(feed (r++s)).1/\Zmt w w' x l:=by
 refine Z1 (Z5 (J:=[.s r,.s s]) (sxE_ok.joins _) Tryz.func12 Z93 rfl rfl (Rel.start w _) rfl rfl ?_) rfl;simp only[QQ,Nat.reduceAdd];refine⟨by omega,?_⟩;refine⟨pksO [],λw _=>Zpk w,λk hk=>absurd hk (Zeu k),?_⟩;refine⟨λvs=>∃(l:List Z24) (s':List UInt8) (x:Value),vs=[.v nilV,.r [],.s [],.i 0,.s s',.v x,.r (l.map Z3a),.a (pksO l)]/\Z40 (s'.length+1) s' (l.map (·.1))=feed (r++s)/\l.length+s'.length<=(r++s).length/\∀k,(pksO l).fp k->w.heap.size<=k,
  λvs=>(vs.getD 4 (.i 0)).toS.length,⟨[],r++s,nilV,rfl,rfl,by simp,λk hk=>absurd hk (Zeu k)⟩,?_⟩
 rintro _ - ⟨l,s',x,rfl,hf,hlen,hfr⟩;rw[qy11]at hlen;simp only[QQ,Nat.reduceAdd];intro w1 hr;refine(Zsr w1 s' (by omega)).mono ?_;have hstep:=@Z8e s' (l.map (·.1));have hbd:=@Z7g s';have hend:(Z14 s').2.2≠0->feed (r++s)=if(Z14 s').2.2=8 then(l.map (·.1),s',0)else(l.map (·.1),[],(Z14 s').2.2):=λh=>by rw[<- hf,Z40,if_neg h]
 generalize Z14 s'=t at hstep hbd hend
 obtain⟨q,n,er⟩:=t;rintro e w2 ⟨px,py,rfl,m,ox,oy,fx,fy⟩;refine⟨[.i q.kind,.b q.dup,.b q.retain,.b q.clean,.b q.session,.i q.qos,.i q.id,.i q.keep,.i q.code,.s q.client,.s q.topic,.s q.payload,.v px,.r (q.asks.map encA),.v py,.r (q.codes.map Za),.i n,.i er,.a (pksO [(q,px,py)])],rfl,rfl,m,qy5 _,qy2.2 ⟨⟨ox.reads,λk hk=>.inl (fx k hk.2)⟩,qy2.2 ⟨⟨oy.reads,λk hk=>.inl (fy k hk.2)⟩,qy2.2 ⟨⟨Zd8 ox oy,λk hk=>.inl ((Z3b hk).elim (fx k) (fy k))⟩,qy5 _⟩⟩⟩,Zp (by simp[Ent.wr]),?_⟩;have hw:=hr.mod.size;simp only[QQ,Nat.reduceAdd];clear m hr;intro b1;refine⟨λh0=>?_,λh0=>⟨λh8 w' hr=>?_,λh8 w' hr=>?_⟩⟩
 ·have hb:=hbd h0;simp only at hb;intro z1;refine⟨by simp only[qy3,List.length_nil,qy11,List.length_cons];omega,λz2=>⟨by omega,by omega,?_⟩⟩;refine⟨pksO (l++[(q,px,py)]),λw' hr=>Zpl (hr.at_ 6 rfl) (hr.at_ 5 rfl),λk hk=>?_,⟨l++[(q,px,py)],s'.drop n.toNat,z2,?_,?_,?_,λk hk=>?_⟩,?_⟩
  ·rcases Zms hk with h|h
   ·exact(qE 6 rfl rfl h)
   ·exact(qE 5 rfl rfl h)
  ·rw[ox.reads.sc1,oy.reads.sc1];simp[Z3a]
  ·rw[List.map_append];rw[<- hf];exact(hstep h0).symm
  ·rw[qy11,List.length_drop,qy11,List.length_cons,List.length_nil];omega
  ·rcases Zms hk with h|h
   ·exact hfr k h
   ·exact Nat.le_trans hw ((Z3b h).elim (fx k) (fy k))
  ·show(List.drop n.toNat (List.take (s'.length:Int).toNat s')).length<s'.length
   rw[qy4,List.take_length,List.length_drop];omega
 ·rw[hend h0,if_pos h8];exact⟨x,l,rfl,rfl,hr.mod,hr.at_ 5 rfl,hr.at_ 4 rfl,λk hk=>(hr.own _ (qy6 (i:=5) rfl) rfl k hk).resolve_right (by simp),hfr⟩
 ·rw[hend h0,if_neg h8];exact⟨x,l,rfl,rfl,hr.mod,hr.at_ 5 rfl,hr.at_ 4 rfl,λk hk=>(hr.own _ (qy6 (i:=5) rfl) rfl k hk).resolve_right (by simp),hfr⟩
abbrev Opt:=Int×List UInt8
def encO(o:Opt):List Value:=[.int .i64 o.1,.string ⟨o.2.toArray⟩]
abbrev oD:Opt:=(0,[])
theorem Zc(os:List Opt)(i:Nat):Value.gI (((os.map encO).getD i []).getD 0 undef)=(os.getD i oD).1:=by simp only[qy1,List.getElem?_map];cases os[i]?<;>rfl
theorem Zd(os:List Opt)(i:Nat):Value.gS (((os.map encO).getD i []).getD 1 undef)=(os.getD i oD).2:=by simp only[qy1,List.getElem?_map];cases os[i]?<;>simp[encO,Value.gS,undef]
theorem Zpm(os:List Opt)(i:Nat)(h:i<os.length):os.drop i=os.getD i oD::os.drop (i+1):=by rw[List.drop_eq_getElem_cons h,qy1,qy7 h];rfl
structure Msg where
 kind:Int
 code:Int
 id:Int
 tok:List UInt8
 opts:List Opt
 pay:List UInt8
abbrev mNil:Msg:=⟨0,0,0,[],[],[]⟩
def mV(m:Msg)(v:Value):Value:=.agg #[.int .i64 m.kind,.int .i64 m.code,.int .i64 m.id,.string ⟨m.tok.toArray⟩,v,.string ⟨m.pay.toArray⟩]
abbrev Z12(w:World)(v:Value)(os:List Opt):Prop:=reads w v [.int .i64,.str] (os.map encO)
def optE:Int->List Opt->Int
 | _,[]=>0
 | was,o::l=>if 0<=o.1/\o.1<=65535 then(if o.1<was then 4 else if 60<(o.2.length:Int)then 2 else optE o.1 l)else 3
def chk(m:Msg):Int :=
 if 0<=m.kind/\m.kind<=3 then
  if 0<=m.code/\m.code<=255/\0<=m.id/\m.id<=65535 then
   if 8<(m.tok.length:Int)\/12<(m.opts.length:Int)\/200<(m.pay.length:Int)then 2
   else if optE 0 m.opts≠0 then optE 0 m.opts
   else if m.code=0/\(m.tok≠[]\/m.pay≠[]\/m.opts≠[])then 1 else 0
  else 3
 else 7
theorem Zi9{m:Msg}(h:¬(0<=m.kind/\m.kind<=3)):chk m=7:=if_neg h
theorem Zar{m:Msg}(h:0<=m.kind/\m.kind<=3)(h1:¬(0<=m.code/\m.code<=255/\0<=m.id/\m.id<=65535)):chk m=3:=by rw[chk,if_pos h,if_neg h1]
theorem Zia{m:Msg}(h:0<=m.kind/\m.kind<=3)(h1:0<=m.code/\m.code<=255/\0<=m.id/\m.id<=65535)(h2:8<(m.tok.length:Int)\/12<(m.opts.length:Int)\/200<(m.pay.length:Int)):chk m=2:=by rw[chk,if_pos h,if_pos h1,if_pos h2]
theorem Zib{m:Msg}(h:0<=m.kind/\m.kind<=3)(h1:0<=m.code/\m.code<=255/\0<=m.id/\m.id<=65535)(h2:¬(8<(m.tok.length:Int)\/12<(m.opts.length:Int)\/200<(m.pay.length:Int))) : chk m=if optE 0 m.opts≠0 then optE 0 m.opts else if m.code=0/\(m.tok≠[]\/m.pay≠[]\/m.opts≠[])then 1 else 0:=by rw[chk,if_pos h,if_pos h1,if_neg h2]
theorem Zas{m:Msg}:chk m=0↔(0<=m.kind/\m.kind<=3)/\(0<=m.code/\m.code<=255/\0<=m.id/\m.id<=65535)/\(m.tok.length<=8/\m.opts.length<=12/\m.pay.length<=200)/\optE 0 m.opts=0/\(m.code=0->m.tok=[]/\m.pay=[]/\m.opts=[]):=by
 unfold chk;constructor
 ·intro h;split at h
  ·split at h
   ·split at h
    ·exact absurd h (by decide)
    ·split at h
     ·contradiction
     ·split at h
      ·exact absurd h (by decide)
      ·rename_i h1 h2 h3 h4 h5;exact⟨h1,h2,by omega,qy9.1 h4,λh6=>⟨Classical.byContradiction λh7=>h5 ⟨h6,.inl h7⟩,Classical.byContradiction λh7=>h5 ⟨h6,.inr (.inl h7)⟩,Classical.byContradiction λh7=>h5 ⟨h6,.inr (.inr h7)⟩⟩⟩
   ·exact absurd h (by decide)
  ·exact absurd h (by decide)
 ·rintro⟨h1,h2,h3,h4,h5⟩;rw[if_pos h1,if_pos h2,if_neg (by omega),if_neg (λh=>h h4),if_neg];rintro⟨h6,h7⟩;obtain⟨a,b,c⟩:=h5 h6;rcases h7 with h|h|h
  ·exact h a
  ·exact h b
  ·exact h c
theorem Z9h(w:World)(n a b:Int):Calls Tryz.prog 60 #[.int .i64 n,.int .i64 a,.int .i64 b] w λe w'=>e=.returned (.bool (decide (a<=n/\n<=b)))/\Mod [] w w':=by refine Z1 (Z4 (J:=[.i n,.i a,.i b]) sxE_ok Tryz.func60 Z6f rfl rfl rfl ?_) rfl;simp only[QQ,Nat.reduceAdd];exact λw' hr=>⟨by simp,hr.mod⟩
theorem Zmu(w:World)(v:Value)(os:List Opt)(hv:Z12 w v os)(hl:os.length<1099511627776):Calls Tryz.prog 61 #[sc1 v] w λe w'=>e=.returned (.int .i64 (optE 0 os))/\Mod [] w w':=by
 refine Z1 (Z5 (J:=[.v v,.r (os.map encO)]) sxE_ok Tryz.func61 Z5x rfl rfl (Rel.start2 (by simp[Ent.holds,Ent.wr,hv,X.ev])) rfl rfl ?_) rfl;simp only[QQ,Nat.reduceAdd,qy3];refine⟨λvs=>∃(i:Nat) (x:V) (was:Int),vs=[x,.i was,.i i]/\i<=os.length/\optE was (os.drop i)=optE 0 os,λvs=>(os.length - (vs.getD 2 (.i 0)).toI).toNat,⟨0,_,0,rfl,by omega,rfl⟩,?_⟩;rintro _ - ⟨i,x,was,rfl,hi,hg⟩;simp only[QQ,Nat.reduceAdd,qy3,qy4,Zc,Zd];refine⟨λh1=>?_,λh1 w' hr=>⟨?_,hr.mod⟩⟩
 ·rw[Zpm os i (by omega)]at hg;generalize os.getD i oD=o at hg⊢
  (repeat refine⟨by omega,?_⟩)
  intro b;refine⟨[.b (decide (0<=o.1/\o.1<=65535))],rfl,λ_ w' _=>Z9h w' _ _ _,?_⟩;simp only[QQ,Nat.reduceAdd,decide_eq_true_eq];simp only[optE]at hg;refine⟨λh2 w' hr=>⟨by rw[<- hg,if_neg h2],hr.mod⟩,λh2=>?_⟩;rw[if_pos (qy9.1 h2)]at hg;refine⟨λh3 w' hr=>⟨by rw[<- hg,if_pos h3],hr.mod⟩,λh3=>?_⟩;rw[if_neg h3]at hg;refine⟨λh4 w' hr=>⟨by rw[<- hg,if_pos h4],hr.mod⟩,λh4=>?_⟩;rw[if_neg h4]at hg;exact⟨by omega,by omega,⟨i+1,_,o.1,rfl,by omega,hg⟩,by omega⟩
 ·have:i=os.length:=by omega
  subst this;rw[List.drop_length]at hg;rw[<- hg];rfl
theorem Z6l(w:World)(m:Msg)(v:Value)(hv:Z12 w v m.opts)(hl:m.opts.length<1099511627776)(ht:m.tok.length<1099511627776)(hp:m.pay.length<1099511627776) : Calls Tryz.prog 26 #[mV m (sc1 v)] w λe w'=>e=.returned (.int .i64 (chk m))/\Mod [] w w':=by
 refine Z1 (Z5 (J:=[.i m.kind,.i m.code,.i m.id,.s m.tok,.v v,.r (m.opts.map encO),.s m.pay]) sxE_ok Tryz.func26 Z77 rfl rfl (Rel.start2 (by simp[Ent.holds,Ent.wr,hv,X.ev])) rfl rfl ?_) rfl;simp only[QQ,Nat.reduceAdd,qy3];intro b;refine⟨[.b (decide (0<=m.kind/\m.kind<=3))],rfl,λ_ w' _=>Z9h w' _ _ _,?_⟩;simp only[QQ,Nat.reduceAdd,decide_eq_true_eq,qy3];refine⟨λh w' hr=>⟨by rw[Zi9 h],hr.mod⟩,λh=>?_⟩;replace h:=qy9.1 h;refine⟨[.b (decide (0<=m.code/\m.code<=255))],rfl,λ_ w' _=>Z9h w' _ _ _,?_⟩;simp only[QQ,Nat.reduceAdd,decide_eq_true_eq,qy3];refine⟨[.b (decide (0<=m.id/\m.id<=65535))],rfl,λ_ w' _=>Z9h w' _ _ _,?_⟩;simp only[QQ,Nat.reduceAdd,decide_eq_true_eq,qy3];refine⟨λh1 w' hr=>⟨by rw[Zar h (by omega)],hr.mod⟩,λh1=>?_⟩;refine⟨λh2 w' hr=>⟨by rw[Zia h (by omega) (by omega)],hr.mod⟩,λh2=>?_⟩;rw[Zib h (by omega) (by omega)];refine⟨[.i (optE 0 m.opts)],rfl,λ_ w' hr=>Zmu w' v m.opts (hr.at_ 1 rfl) hl,?_⟩;simp only[QQ,Nat.reduceAdd,decide_eq_true_eq,qy3];refine⟨λh3 w' hr=>⟨by rw[if_pos h3],hr.mod⟩,λh3=>?_⟩;rw[if_neg h3];refine⟨by omega,λh4 w' hr=>⟨?_,hr.mod⟩,λh4 w' hr=>⟨?_,hr.mod⟩⟩
 ·rw[if_pos];rcases h4 with⟨h5,h6⟩|⟨h5,h6⟩
  ·refine⟨h5,?_⟩;simp only[List.append_eq_nil_iff]at h6;by_cases h7:m.tok=[]
   ·exact .inr (.inl λh8=>h6 ⟨h7,h8⟩)
   ·exact .inl h7
  ·exact⟨h5,.inr (.inr (by intro h8;rw[h8]at h6;simp at h6))⟩
 ·rw[if_neg];rintro⟨h5,h6⟩;apply h4;rcases h6 with h6|h6|h6
  ·exact .inl ⟨h5,λh=>h6 (List.append_eq_nil_iff.1 h).1⟩
  ·exact .inl ⟨h5,λh=>h6 (List.append_eq_nil_iff.1 h).2⟩
  ·exact .inr ⟨h5,by have:=List.length_pos_iff.2 h6;omega⟩
theorem Z66(w:World)(m:Msg)(v:Value)(hv:Z12 w v m.opts)(hl:m.opts.length<1099511627776) : Calls Tryz.prog 38 #[mV m (sc1 v)] w λe w'=>e=.returned (.int .i64 (chk m))/\Mod [] w w':=by
 refine Z1 (Z5 (J:=[.i m.kind,.i m.code,.i m.id,.s m.tok,.v v,.r (m.opts.map encO),.s m.pay]) sxE_ok Tryz.func38 Z2e rfl rfl (Rel.start2 (by simp[Ent.holds,Ent.wr,hv,X.ev])) rfl rfl ?_) rfl;simp only[QQ,Nat.reduceAdd,qy3];intro b;refine⟨λh w' hr=>⟨by rw[Zi9 h],hr.mod⟩,λh=>?_⟩;refine⟨λh1 w' hr=>⟨by rw[Zar (by omega) (by omega)],hr.mod⟩,λh1=>?_⟩;refine⟨λh2 w' hr=>⟨by rw[Zar (by omega) (by omega)],hr.mod⟩,λh2=>?_⟩;refine⟨λh3 w' hr=>⟨by rw[Zia (by omega) (by omega) (by omega)],hr.mod⟩,λh3=>?_⟩;rw[Zib (by omega) (by omega) (by omega)];refine⟨λvs=>∃(i:Nat) (x:V) (was:Int),vs=[x,.i i]/\i<=m.opts.length/\optE was (m.opts.drop i)=optE 0 m.opts/\(i=0/\was=0\/0<i/\was=(m.opts.getD (i - 1) oD).1),λvs=>(m.opts.length - (vs.getD 1 (.i 0)).toI).toNat,⟨0,_,0,rfl,by omega,rfl,.inl ⟨rfl,rfl⟩⟩,?_⟩;rintro _ - ⟨i,x,was,rfl,hi,hg,hw⟩;simp only[QQ,Nat.reduceAdd,qy3,qy4,Zc,Zd];refine⟨λh4=>?_,λh4=>?_⟩
 ·rw[Zpm m.opts i (by omega)]at hg;have e1:((i:Int) - 1).toNat=i - 1:=by omega
  rw[e1];have hw':i+1≠0/\(m.opts.getD i oD).1=(m.opts.getD (i+1 - 1) oD).1:=by simp
  generalize m.opts.getD i oD=o at hg hw'⊢
  (repeat refine⟨by omega,?_⟩)
  intro b;simp only[optE]at hg;refine⟨λh5 w' hr=>⟨by rw[if_neg h5]at hg;rw[<- hg];rfl,hr.mod⟩,λh5=>?_⟩;rw[if_pos (qy9.1 h5)]at hg
  (repeat refine⟨by omega,?_⟩)
  refine⟨λh6 w' hr=>⟨?_,hr.mod⟩,λh6=>?_⟩
  ·rw[if_pos (by omega)]at hg;rw[<- hg];rfl
  rw[if_neg (by omega)]at hg;refine⟨λh7 w' hr=>⟨by rw[if_pos h7]at hg;rw[<- hg];rfl,hr.mod⟩,λh7=>?_⟩;rw[if_neg h7]at hg;exact⟨by omega,by omega,⟨i+1,_,o.1,rfl,by omega,hg,.inr ⟨by omega,hw'.2⟩⟩,by omega⟩
 ·have:i=m.opts.length:=by omega
  subst this;rw[List.drop_length]at hg;have hg:optE 0 m.opts=0:=by rw[<- hg];rfl
  rw[if_neg (λh=>h hg)];have e2:(m.code=0/\(m.tok≠[]\/m.pay≠[]\/m.opts≠[]))↔(m.code=0/\((¬m.tok=[]\/¬m.pay=[])\/0<(m.opts.length:Int))):=by
   have:m.opts≠[]↔0<(m.opts.length:Int):=by rw[ne_eq,<- List.length_eq_zero_iff];omega
   rw[this,or_assoc]
  refine⟨λh5 w' hr=>⟨?_,hr.mod⟩,λh5 w' hr=>⟨?_,hr.mod⟩⟩
  ·rw[if_pos (e2.2 h5)]
  ·rw[if_neg (λh=>h5 (e2.1 h))]
def Z4w(n:Int):Int×List UInt8:=if 269<=n then(14,numB 2 (n - 269))else if 13<=n then(13,numB 1 (n - 13))else(n,[])
theorem Z9i{n:Int}(h:0<=n):0<=(Z4w n).1/\(Z4w n).1<=14/\(Z4w n).2.length<=2:=by
 unfold Z4w;split
 ·simp[Z8]
 ·split
  ·simp[Z8]
  ·simp;omega
theorem Zqy(w:World)(n:Int)(h0:0<=n)(h1:n<=4611686018427387904):Calls Tryz.prog 131 #[.int .i64 n] w λe w'=>e=.returned (.tuple #[.int .i64 (Z4w n).1,.string ⟨(Z4w n).2.toArray⟩])/\Mod [] w w':=by
 refine Z1 (Z4 (J:=[.i n]) sxE_ok Tryz.func131 Z7z rfl rfl rfl ?_) rfl;simp only[QQ,Nat.reduceAdd];refine⟨λh w' hr=>⟨?_,hr.mod⟩,λh=>⟨λh2=>⟨by omega,by omega,[.s (numB 1 (n - 13))],rfl,λ_ w' _=>Z3y w' (n - 13) 1 (by omega) (by omega) (by omega),?_⟩,λh2=>⟨by omega,by omega,[.s (numB 2 (n - 269))],rfl,λ_ w' _=>Z3y w' (n - 269) 2 (by omega) (by omega) (by omega),?_⟩⟩⟩
 ·rw[Z4w,if_neg (by omega),if_neg (by omega)]
 ·simp only[QQ,Nat.reduceAdd];exact λw' hr=>⟨by rw[Z4w,if_neg (by omega),if_pos (by omega)],hr.mod⟩
 ·simp only[QQ,Nat.reduceAdd];exact λw' hr=>⟨by rw[Z4w,if_pos (by omega)],hr.mod⟩
def optB(was:Int)(o:Opt):List UInt8:=numB 1 (16*(Z4w (o.1 - was)).1+(Z4w o.2.length).1)++(Z4w (o.1 - was)).2++(Z4w o.2.length).2++o.2
def Zjv:Int->List Opt->List UInt8
 | _,[]=>[]
 | was,o::l=>optB was o++Zjv o.1 l
def msgB(m:Msg):List UInt8:=numB 1 (64+16*m.kind+m.tok.length)++numB 1 m.code++numB 2 m.id++m.tok++Zjv 0 m.opts++(if m.pay=[]then[]else 255::m.pay)
theorem Zev{was:Int}{o:Opt}{l:List Opt}:optE was (o::l)=0↔(0<=o.1/\o.1<=65535)/\was<=o.1/\o.2.length<=60/\optE o.1 l=0:=by
 simp only[optE];constructor
 ·intro h;split at h
  ·split at h
   ·exact absurd h (by decide)
   ·split at h
    ·exact absurd h (by decide)
    ·exact⟨by assumption,by omega,by omega,h⟩
  ·exact absurd h (by decide)
 ·rintro⟨h1,h2,h3,h4⟩;rw[if_pos h1,if_neg (by omega),if_neg (by omega),h4]
theorem Zpn{was:Int}{o:Opt}(h:was<=o.1)(h2:o.2.length<=60):(optB was o).length<=65:=by have h3:=Z9i (n:=o.1 - was) (by omega);have h4:=Z9i (n:=(o.2.length:Int)) (by omega);simp only[optB,qy11,Z8];omega
theorem or16(a b:Int)(h:0<=a/\a<=14)(h2:0<=b/\b<=14):Zw .or .i64 (IntKind.i64.wrap (a*2 ^ (Nat.min (Int.toNat 4) IntKind.i64.bits))) b=16*a+b:=by
 have:∀x y:Fin 16,Zw .or .i64 (IntKind.i64.wrap ((x.val:Int)*2 ^ (Nat.min (Int.toNat 4) IntKind.i64.bits))) (y.val:Int)=16*(x.val:Int)+y.val:=by decide +kernel
 have:=this ⟨a.toNat,by omega⟩ ⟨b.toNat,by omega⟩;simpa only[Int.toNat_of_nonneg h.1,Int.toNat_of_nonneg h2.1]using this
theorem or64(a b:Int)(h:0<=a/\a<=3)(h2:0<=b/\b<=8):Zw .or .i64 (Zw .or .i64 64 (IntKind.i64.wrap (a*2 ^ (Nat.min (Int.toNat 4) IntKind.i64.bits)))) b=64+16*a+b:=by
 have:∀(x:Fin 4) (y:Fin 16),Zw .or .i64 (Zw .or .i64 64 (IntKind.i64.wrap ((x.val:Int)*2 ^ (Nat.min (Int.toNat 4) IntKind.i64.bits)))) (y.val:Int)=64+16*(x.val:Int)+y.val:=by decide +kernel
 have:=this ⟨a.toNat,by omega⟩ ⟨b.toNat,by omega⟩;simpa only[Int.toNat_of_nonneg h.1,Int.toNat_of_nonneg h2.1]using this
theorem Zst(w:World)(o:Opt)(was:Int)(h:0<=was/\was<=o.1/\o.1<=65535)(h2:o.2.length<=60):Calls Tryz.prog 105 #[.agg #[.int .i64 o.1,.string ⟨o.2.toArray⟩],.int .i64 was] w λe w'=>e=.returned (.string ⟨(optB was o).toArray⟩)/\Mod [] w w':=by
 refine Z1 (Z4 (J:=[.i o.1,.s o.2,.i was]) sxE_ok Tryz.func105 Z74 rfl rfl rfl ?_) rfl;simp only[QQ,Nat.reduceAdd];intro b;refine⟨by omega,by omega,[.i (Z4w (o.1 - was)).1,.s (Z4w (o.1 - was)).2],rfl,λ_ w' _=>Zqy w' _ (by omega) (by omega),?_⟩;simp only[QQ,Nat.reduceAdd];refine⟨[.i (Z4w o.2.length).1,.s (Z4w o.2.length).2],rfl,λ_ w' _=>Zqy w' _ (by omega) (by omega),?_⟩;simp only[QQ,Nat.reduceAdd];have h3:=Z9i (n:=o.1 - was) (by omega);have h4:=Z9i (n:=(o.2.length:Int)) (by omega);rw[or16 _ _ (by omega) (by omega)];refine⟨[.s (numB 1 (16*(Z4w (o.1 - was)).1+(Z4w o.2.length).1))],rfl,λ_ w' _=>Z3y w' _ 1 (by omega) (by omega) (by omega),?_⟩;simp only[QQ,Nat.reduceAdd,qy11,Z8]
 (repeat refine⟨by omega,?_⟩)
 exact λw' hr=>⟨rfl,hr.mod⟩
theorem Zpo(os:List Opt)(i:Nat)(h:i<os.length):os.take (i+1)=os.take i++[os.getD i oD]:=by rw[List.take_add_one,qy1,qy7 h];rfl
set_option maxRecDepth 10000 in
theorem Zjw(w:World)(m:Msg)(v:Value)(hv:Z12 w v m.opts)(hc:chk m=0) : Calls Tryz.prog 59 #[mV m (sc1 v)] w λe w'=>e=.returned (.string ⟨(msgB m).toArray⟩)/\Mod [] w w':=by
 obtain⟨hk,hr,hl,ho,-⟩:=Zas.1 hc;refine Z1 (Z5 (J:=[.i m.kind,.i m.code,.i m.id,.s m.tok,.v v,.r (m.opts.map encO),.s m.pay]) (sxE_ok.joins _) Tryz.func59 Z71 rfl rfl (Rel.start2 (by simp[Ent.holds,Ent.wr,hv,X.ev])) rfl rfl ?_) rfl;simp only[QQ,Nat.reduceAdd,qy3];intro b;rw[or64 _ _ (by omega) (by omega)];refine⟨[.s (numB 1 (64+16*m.kind+m.tok.length))],rfl,λ_ w' _=>Z3y w' _ 1 (by omega) (by omega) (by omega),?_⟩;simp only[QQ,Nat.reduceAdd];refine⟨[.s (numB 1 m.code)],rfl,λ_ w' _=>Z3y w' _ 1 (by omega) (by omega) (by omega),?_⟩;simp only[QQ,Nat.reduceAdd,qy11,Z8]
 (repeat refine⟨by omega,?_⟩)
 refine⟨[.s (numB 2 m.id)],rfl,λ_ w' _=>Z3y w' _ 2 (by omega) (by omega) (by omega),?_⟩;simp only[QQ,Nat.reduceAdd,qy11,Z8,qy3]
 (repeat refine⟨by omega,?_⟩)
 refine⟨λvs=>∃(i:Nat) (acc:List UInt8) (was:Int),vs=[.s acc,.i was,.i i]/\i<=m.opts.length/\0<=was/\optE was (m.opts.drop i)=0/\acc.length<=100+100*i /\
   acc++Zjv was (m.opts.drop i)=numB 1 (64+16*m.kind+m.tok.length)++numB 1 m.code++numB 2 m.id++m.tok++Zjv 0 m.opts,λvs=>(m.opts.length - (vs.getD 2 (.i 0)).toI).toNat,⟨0,_,0,rfl,by omega,by omega,ho,by simp only[qy11,Z8];omega,rfl⟩,?_⟩
 rintro _ - ⟨i,acc,was,rfl,hi,hw,hg,hal,hacc⟩;simp only[QQ,Nat.reduceAdd,qy3,qy4,Zc,Zd];refine⟨λh1=>?_,λh1=>?_⟩
 ·rw[Zpm m.opts i (by omega)]at hg hacc;generalize m.opts.getD i oD=o at hg hacc⊢
  obtain⟨g1,g2,g3,g4⟩:=Zev.1 hg
  (repeat refine⟨by omega,?_⟩)
  intro b;refine⟨[.s (optB was o)],rfl,λ_ w' _=>Zst w' o was (by omega) g3,?_⟩;simp only[QQ,Nat.reduceAdd];have:=Zpn g2 g3;refine⟨by omega,by omega,by omega,⟨i+1,_,o.1,rfl,by omega,by omega,g4,by simp only[qy11];omega,?_⟩,by omega⟩;rw[<- hacc,Zjv];simp
 ·have:i=m.opts.length:=by omega
  subst this;rw[List.drop_length,Zjv,List.append_nil]at hacc;refine⟨λh2=>⟨by simp;omega,by simp;omega,λw' hr=>⟨?_,hr.mod⟩⟩,λh2 w' hr=>⟨?_,hr.mod⟩⟩
  ·rw[msgB,<- hacc,if_neg h2]
  ·rw[msgB,<- hacc,if_pos (qy9.1 h2),List.append_nil]
def encR(m:Msg):List UInt8×Int:=if chk m=0 then(msgB m,0)else([],chk m)
theorem Zpp(w:World)(m:Msg)(v:Value)(hv:Z12 w v m.opts)(hl:m.opts.length<1099511627776)(ht:m.tok.length<1099511627776)(hp:m.pay.length<1099511627776) : Calls Tryz.prog 24 #[mV m (sc1 v)] w λe w'=>e=.returned (.tuple #[.string ⟨(encR m).1.toArray⟩,.int .i64 (encR m).2])/\Mod [] w w':=by refine Z1 (Z5 (J:=[.i m.kind,.i m.code,.i m.id,.s m.tok,.v v,.r (m.opts.map encO),.s m.pay]) sxE_ok Tryz.func24 Z6h rfl rfl (Rel.start2 (by simp[Ent.holds,Ent.wr,hv,X.ev])) rfl rfl ?_) rfl;simp only[QQ,Nat.reduceAdd,qy3];intro b;refine⟨[.i (chk m)],rfl,λ_ w' hr=>Z6l w' m v (hr.at_ 1 rfl) hl ht hp,?_⟩;simp only[QQ,Nat.reduceAdd,qy3];refine⟨λh w' hr=>⟨by rw[encR,if_neg h],hr.mod⟩,λh=>?_⟩;have h:=qy9.1 h;refine⟨[.s (msgB m)],rfl,λ_ w' hr=>Zjw w' m v (hr.at_ 1 rfl) h,?_⟩;simp only[QQ,Nat.reduceAdd];exact λw' hr=>⟨by rw[encR,if_pos h],hr.mod⟩
def Z3p(n:Nat)(v:Value)(os:List Opt):Prop:=∀k,(os.map encO).flatten≠[]/\Z3 v k->n<=k
theorem Z3p.mono{n m:Nat}{v:Value}{os:List Opt}(h:Z3p n v os)(hm:m<=n):Z3p m v os:=λk hk=>Nat.le_trans hm (h k hk)
theorem Zc3(n:Nat)(v:Value):Z3p n v []:=λk hk=>absurd rfl hk.1
theorem Z4x(w:World)(m n:Msg)(u v:Value)(hu:Z12 w u m.opts)(hv:Z12 w v n.opts)(hl:m.opts.length<1099511627776):Calls Tryz.prog 14 #[mV m (sc1 u),mV n (sc1 v)] w λe w'=>e=.returned (.bool (decide (m.kind=n.kind/\m.code=n.code/\m.id=n.id/\m.tok=n.tok/\m.pay=n.pay/\m.opts=n.opts)))/\Mod [] w w':=by
 refine Z1 (Z5 (J:=[.i m.kind,.i m.code,.i m.id,.s m.tok,.v u,.r (m.opts.map encO),.s m.pay,.i n.kind,.i n.code,.i n.id,.s n.tok,.v v,.r (n.opts.map encO),.s n.pay]) sxE_ok Tryz.func14 Z2n rfl rfl (Rel.start2 (by simp[Ent.holds,Ent.wr,hu,hv,X.ev])) rfl rfl ?_) rfl;simp only[QQ,Nat.reduceAdd,qy3];intro b1 b2;refine⟨λh w' hr=>⟨?_,hr.mod⟩,λh=>?_⟩
 ·rw[decide_eq_false];rintro⟨h1,h2,h3,h4,h5,h6⟩;rcases h with((((h|h)|h)|h)|h)|h
  ·exact h h1
  ·exact h h2
  ·exact h h3
  ·exact h h4
  ·exact h h5
  ·exact h (by rw[h6])
 ·simp only[not_or,qy9]at h;obtain⟨⟨⟨⟨⟨h1,h2⟩,h3⟩,h4⟩,h5⟩,h6⟩:=h;have hlen:m.opts.length=n.opts.length:=by omega
  refine⟨λvs=>∃(i:Nat) (x:V),vs=[x,.i i]/\i<=m.opts.length/\∀j,j<i->m.opts.getD j oD=n.opts.getD j oD,λvs=>(m.opts.length - (vs.getD 1 (.i 0)).toI).toNat,⟨0,_,rfl,by omega,λj hj=>by omega⟩,?_⟩;rintro _ - ⟨i,x,rfl,hi,hall⟩;simp only[QQ,Nat.reduceAdd,qy3,qy4,Zc,Zd];refine⟨λh7=>⟨by omega,by omega,λh8 w' hr=>⟨?_,hr.mod⟩,λh8=>⟨by omega,by omega,⟨i+1,x,rfl,by omega,λj hj=>?_⟩,by omega⟩⟩,λh7 w' hr=>⟨?_,hr.mod⟩⟩
  ·rw[decide_eq_false];rintro⟨-,-,-,-,-,h9⟩;rw[h9]at h8;exact h8 ⟨rfl,rfl⟩
  ·by_cases hji:j=i
   ·subst hji;have:=qy9.1 h8;exact Prod.ext this.1 this.2
   ·exact hall j (by omega)
  ·rw[decide_eq_true];refine⟨h1,h2,h3,h4,h5,List.ext_getElem? λj=>?_⟩;by_cases hj:j<m.opts.length
   ·have:=hall j (by omega);rw[qy1,qy1,qy7 hj,qy7 (by omega)]at this;rw[qy7 hj,qy7 (by omega)];simpa using this
   ·rw[List.getElem?_eq_none (by omega),List.getElem?_eq_none (by omega)]
def mGet:Msg:=⟨0,1,258,[116],[(6,[]),(11,[97]),(11,[98])],[]⟩
theorem Z5j(w:World):Calls Tryz.prog 25 #[] w λe w'=>∃v,e=.returned (mV mGet (sc1 v))/\Z12 w' v mGet.opts/\Z3p w.heap.size v mGet.opts/\Mod [] w w':=by
 refine Z1 (Z4 (J:=[]) sxE_ok Tryz.func25 Z5z rfl rfl rfl ?_) rfl;simp only[QQ,Nat.reduceAdd];intro b v w' hr;refine⟨v,rfl,owns.reads (hr.at_ 0 rfl),λk hk=>?_,hr.mod⟩;rcases hr.own _ (qy8 ..) rfl k hk.2 with h|h
 ·exact h
 ·simp at h
def rdC(w:World)(b:Nat)(s:List UInt8)(sh:Bool):Prop:=w.heap[b]?=some (.cells #[.string ⟨s.toArray⟩,.bool sh] 84 (0,0))
abbrev ptrB(b:Nat):Value:=.pointer (some ⟨b,0,none⟩)
theorem Zda{w:World}{J:List V}{e:Ent}{b:Nat}(h:e.holds J w)(hf:∀k,e.fp J k->k=b):Rel ⟨[b],w⟩ J [e] w :=
 ⟨Mod.refl _ _,qy2.2 ⟨h,qy5 _⟩,qy2.2 ⟨λ_ k hk=>.inr (by rw[hf k hk];exact qy12.2 rfl),qy5 _⟩,List.pairwise_singleton _ _⟩
def Z1n(n:Int)(s:List UInt8)(sh:Bool):List UInt8×List UInt8×Bool:=if(s.length:Int)<n then([],[],true)else(s.take n.toNat,s.drop n.toNat,sh)
theorem Zc4(w:World)(b:Nat)(s:List UInt8)(sh:Bool)(n:Int)(h0:0<=n)(hc:rdC w b s sh):Calls Tryz.prog 44 #[ptrB b,.int .i64 n] w λe w'=>e=.returned (.string ⟨(Z1n n s sh).1.toArray⟩)/\rdC w' b (Z1n n s sh).2.1 (Z1n n s sh).2.2/\Mod [b] w w':=by
 refine Z1 (Z5 (J:=[.n b,.s s,.b sh,.i n]) sxE_ok Tryz.func44 Z46 rfl rfl (Zda (b:=b) hc (λk hk=>hk)) rfl rfl ?_) rfl;simp only[QQ,Nat.reduceAdd];refine⟨λh w' hr=>?_,λh=>⟨h0,by omega,λw' hr=>?_⟩⟩
 ·rw[Z1n,if_pos h];exact⟨rfl,hr.at_ 0 rfl,hr.mod⟩
 ·rw[Z1n,if_neg h];have:=hr.at_ 0 rfl;simp only[Ent.holds,QQ,Nat.reduceAdd,qy4,List.take_length]at this;exact⟨by simp,this,hr.mod⟩
def numM(k:Nat)(s:List UInt8)(sh:Bool):Int×List UInt8×Bool:=if s.length<k then(0,[],true)else((beN (s.take k) 0:Nat),s.drop k,sh)
theorem Z8f{k:Nat}(s:List UInt8)(sh:Bool)(h:k<=2):0<=(numM k s sh).1/\(numM k s sh).1<65536/\(k=1->(numM k s sh).1<256):=by
 unfold numM;split
 ·simp
 ·have h1:=Zhm (s.take k) 0;have h2:pw (s.take k).length<=pw 2:=Z87 (by simp;omega);have h3:pw 2=65536:=rfl;refine⟨by simp,by simp only;omega,λh4=>?_⟩;subst h4;have h2:pw (s.take 1).length<=pw 1:=Z87 (by simp;omega);have h3:pw 1=256:=rfl;simp only;omega
theorem Z2q(w:World)(b:Nat)(s:List UInt8)(sh:Bool)(k:Nat)(hk:1<=k/\k<=2)(hs:s.length<1099511627776)(hc:rdC w b s sh):Calls Tryz.prog 43 #[ptrB b,.int .i64 k] w λe w'=>e=.returned (.int .i64 (numM k s sh).1)/\rdC w' b (numM k s sh).2.1 (numM k s sh).2.2/\Mod [b] w w':=by
 refine Z1 (Z5 (J:=[.n b,.s s,.b sh,.i k]) sxE_ok Tryz.func43 Z3i rfl rfl (Zda (b:=b) hc (λk hk=>hk)) rfl rfl ?_) rfl;simp only[QQ,Nat.reduceAdd];intro w1 hr;refine(Zc4 w1 b s sh k (by omega) (hr.at_ 0 rfl)).mono ?_;rintro e w2 ⟨rfl,c1,c2⟩;refine⟨[.s (Z1n k s sh).1,.s (Z1n k s sh).2.1,.b (Z1n k s sh).2.2],rfl,rfl,c2,qy2.2 ⟨c1,qy5 _⟩,qy5 _,Z7,?_⟩;simp only[QQ,Nat.reduceAdd];have hl:(Z1n k s sh).1.length<=s.length:=by
  unfold Z1n;split
  ·simp
  ·simp;omega
 refine⟨[.i (getR (Z1n k s sh).1 0 k).1,.i (getR (Z1n k s sh).1 0 k).2],rfl,λ_ w' _=>Zcs w' _ 0 k (by omega),?_⟩;simp only[QQ,Nat.reduceAdd];intro w3 hr3;have e1:(getR (Z1n k s sh).1 0 k).1=(numM k s sh).1/\(Z1n k s sh).2=(numM k s sh).2:=by
  unfold Z1n numM;by_cases h:s.length<k
  ·rw[if_pos (by omega),if_pos h,Z1m (by omega) (by simp) (by simp;omega)];exact⟨rfl,rfl⟩
  ·rw[if_neg (by omega),if_neg h,Z4r (by omega) (by simp) (by simp;omega)];simp only[Int.toNat_zero,List.drop_zero,qy4,List.take_take,Nat.min_self,and_self]
 rw[e1.1,<- e1.2];exact⟨rfl,hr3.at_ 0 rfl,hr3.mod⟩
def Z2r(n:Int)(s:List UInt8)(sh:Bool):Int×List UInt8×Bool :=
 if n=13 then(13+(numM 1 s sh).1,(numM 1 s sh).2)else if n=14 then(269+(numM 2 s sh).1,(numM 2 s sh).2)else if n=15 then(15,s,true)else(n,s,sh)
theorem Zdb{n:Int}(s:List UInt8)(sh:Bool)(h:0<=n/\n<=15):0<=(Z2r n s sh).1/\(Z2r n s sh).1<65805:=by
 have h1:=Z8f (k:=1) s sh (by omega);have h2:=Z8f (k:=2) s sh (by omega);unfold Z2r;split
 ·simp only;omega
 ·split
  ·simp only;omega
  ·split<;>simp only<;>omega
theorem Zmv(w:World)(b:Nat)(s:List UInt8)(sh:Bool)(n:Int)(hn:0<=n/\n<=15)(hs:s.length<1099511627776)(hc:rdC w b s sh):Calls Tryz.prog 88 #[ptrB b,.int .i64 n] w λe w'=>e=.returned (.int .i64 (Z2r n s sh).1)/\rdC w' b (Z2r n s sh).2.1 (Z2r n s sh).2.2/\Mod [b] w w':=by
 refine Z1 (Z5 (J:=[.n b,.s s,.b sh,.i n]) sxE_ok Tryz.func88 Z45 rfl rfl (Zda (b:=b) hc (λk hk=>hk)) rfl rfl ?_) rfl;simp only[QQ,Nat.reduceAdd];refine⟨λh w1 hr=>?_,λh=>⟨λh2 w1 hr=>?_,λh2=>⟨λh3 w' hr=>?_,λh3 w' hr=>?_⟩⟩⟩
 ·refine(Z2q w1 b s sh 1 (by omega) hs (hr.at_ 0 rfl)).mono ?_;rintro e w2 ⟨rfl,c1,c2⟩;refine⟨[.i (numM 1 s sh).1,.s (numM 1 s sh).2.1,.b (numM 1 s sh).2.2],rfl,rfl,c2,qy2.2 ⟨c1,qy5 _⟩,qy5 _,Z7,?_⟩;simp only[QQ,Nat.reduceAdd];have:=Z8f (k:=1) s sh (by omega);refine⟨by omega,by omega,λw3 hr3=>?_⟩;rw[Z2r,if_pos h];exact⟨rfl,hr3.at_ 0 rfl,hr3.mod⟩
 ·refine(Z2q w1 b s sh 2 (by omega) hs (hr.at_ 0 rfl)).mono ?_;rintro e w2 ⟨rfl,c1,c2⟩;refine⟨[.i (numM 2 s sh).1,.s (numM 2 s sh).2.1,.b (numM 2 s sh).2.2],rfl,rfl,c2,qy2.2 ⟨c1,qy5 _⟩,qy5 _,Z7,?_⟩;simp only[QQ,Nat.reduceAdd];have:=Z8f (k:=2) s sh (by omega);refine⟨by omega,by omega,λw3 hr3=>?_⟩;rw[Z2r,if_neg h,if_pos h2];exact⟨rfl,hr3.at_ 0 rfl,hr3.mod⟩
 ·rw[Z2r,if_neg h,if_neg h2,if_pos h3];exact⟨by rw[h3],hr.at_ 0 rfl,hr.mod⟩
 ·rw[Z2r,if_neg h,if_neg h2,if_neg h3];exact⟨rfl,hr.at_ 0 rfl,hr.mod⟩
def Z4y(n:Int)(s:List UInt8):Option (Int×List UInt8) :=
 if n<13 then some (n,s)else if n=15 then none
 else if n=14 then(if s.length<2 then none else some (269+(beN (s.take 2) 0:Nat),s.drop 2))
 else(if s.length<1 then none else some (13+(beN (s.take 1) 0:Nat),s.drop 1))
theorem Zdc{n:Int}(hn:n<=15)(s:List UInt8):match Z4y n s with|some (v,l)=>Z2r n s false=(v,l,false)|none=>(Z2r n s false).2.2=true:=by
 unfold Z4y;by_cases h1:n<13
 ·rw[if_pos h1];simp only[Z2r];rw[if_neg (by omega),if_neg (by omega),if_neg (by omega)]
 ·rw[if_neg h1];by_cases h2:n=15
  ·rw[if_pos h2];simp only[Z2r];rw[if_neg (by omega),if_neg (by omega),if_pos h2]
  ·rw[if_neg h2];by_cases h3:n=14
   ·rw[if_pos h3];by_cases h4:s.length<2
    ·rw[if_pos h4];simp only[Z2r];rw[if_neg (by omega),if_pos h3,numM,if_pos h4]
    ·rw[if_neg h4];simp only[Z2r];rw[if_neg (by omega),if_pos h3,numM,if_neg h4]
   ·rw[if_neg h3];by_cases h4:s.length<1
    ·rw[if_pos h4];simp only[Z2r];rw[if_pos (by omega),numM,if_pos h4]
    ·rw[if_neg h4];simp only[Z2r];rw[if_pos (by omega),numM,if_neg h4]
theorem Zc5(k:Nat)(s:List UInt8):(numM k s true).2.2=true:=by unfold numM;split<;>rfl
theorem Z3c(k:Int)(s:List UInt8):(Z1n k s true).2.2=true:=by unfold Z1n;split<;>rfl
theorem Zgc(k:Int)(s:List UInt8):(Z2r k s true).2.2=true:=by
 unfold Z2r;split
 ·exact Zc5 _ _
 ·split
  ·exact Zc5 _ _
  ·split<;>rfl
theorem Z3q(k:Nat)(s:List UInt8)(sh:Bool):(numM k s sh).2.1.length<=s.length:=by unfold numM;split<;>simp
theorem Zat(k:Int)(s:List UInt8)(sh:Bool):(Z1n k s sh).2.1.length<=s.length/\(Z1n k s sh).1.length<=s.length:=by unfold Z1n;split<;>simp;omega
theorem Z7h(k:Int)(s:List UInt8)(sh:Bool):(Z2r k s sh).2.1.length<=s.length:=by
 unfold Z2r;split
 ·exact Z3q _ _ _
 ·split
  ·exact Z3q _ _ _
  ·split<;>simp
def Z3j(was:Int)(c:UInt8)(l:List UInt8):Option (Opt×List UInt8) :=
 match Z4y ((c.toNat / 16:Nat):Int) l with
 | none=>none
 | some p=>match Z4y ((c.toNat % 16:Nat):Int) p.2 with
  | none=>none
  | some q=>if(q.2.length:Int)<q.1 then none else some ((was+p.1,q.2.take q.1.toNat),q.2.drop q.1.toNat)
def Z6m(acc:List Opt):Option (List Opt×List UInt8)->Option (List Opt×List UInt8)
 | none=>none
 | some p=>some (acc++p.1,p.2)
def Z49:Nat->Int->List UInt8->Option (List Opt×List UInt8)
 | 0,_,s=>if s=[]then some ([],[])else none
 | f+1,was,s=>match s with
  | []=>some ([],[])
  | c::l=>if c=255 then some ([],c::l)else match Z3j was c l with
   | none=>none
   | some p=>Z6m [p.1] (Z49 f p.1.1 p.2)
theorem Zew(f:Nat)(was:Int):Z49 f was []=some ([],[]):=by cases f<;>rfl
theorem Zc6(f:Nat)(was:Int)(l:List UInt8):Z49 (f+1) was (255::l)=some ([],255::l):=rfl
theorem Z7i{f:Nat}{was:Int}{c:UInt8}{l:List UInt8}(hc:c≠255)(h:Z3j was c l=none):Z49 (f+1) was (c::l)=none:=by
 show(if c=255 then _ else match Z3j was c l with|none=>none|some p=>Z6m [p.1] (Z49 f p.1.1 p.2))=_
 rw[if_neg hc,h]
theorem Zc7{f:Nat}{was:Int}{c:UInt8}{l:List UInt8}(hc:c≠255){o:Opt}{r:List UInt8}(h:Z3j was c l=some (o,r)):Z49 (f+1) was (c::l)=Z6m [o] (Z49 f o.1 r):=by
 show(if c=255 then _ else match Z3j was c l with|none=>none|some p=>Z6m [p.1] (Z49 f p.1.1 p.2))=_
 rw[if_neg hc,h]
theorem Zau(a b:List Opt)(x:Option (List Opt×List UInt8)):Z6m a (Z6m b x)=Z6m (a++b) x:=by cases x<;>simp[Z6m]
theorem Zex(x:Option (List Opt×List UInt8)):Z6m [] x=x:=by cases x<;>rfl
theorem Zsu(x:Nat)(h:x<256):((x:Int)).fdiv (2 ^ (Nat.min (Int.toNat 4) IntKind.i64.bits))=((x / 16:Nat):Int):=by
 have:∀x:Fin 256,((x.val:Int)).fdiv (2 ^ (Nat.min (Int.toNat 4) IntKind.i64.bits))=((x.val / 16:Nat):Int):=by decide +kernel
 exact this ⟨x,h⟩
theorem Ztz(x:Nat)(h:x<256):((x:Int)).fdiv (2 ^ (Nat.min (Int.toNat 6) IntKind.i64.bits))=((x / 64:Nat):Int):=by
 have:∀x:Fin 256,((x.val:Int)).fdiv (2 ^ (Nat.min (Int.toNat 6) IntKind.i64.bits))=((x.val / 64:Nat):Int):=by decide +kernel
 exact this ⟨x,h⟩
theorem Zmw(x:Nat)(h:x<256):Zw .and .i64 (x:Int) 15=((x % 16:Nat):Int):=by
 have:∀x:Fin 256,Zw .and .i64 (x.val:Int) 15=((x.val % 16:Nat):Int):=by decide +kernel
 exact this ⟨x,h⟩
theorem Zu0(x:Nat)(h:x<256):Zw .and .i64 ((x / 16:Nat):Int) 3=((x / 16 % 4:Nat):Int):=by
 have:∀x:Fin 256,Zw .and .i64 ((x.val / 16:Nat):Int) 3=((x.val / 16 % 4:Nat):Int):=by decide +kernel
 exact this ⟨x,h⟩
theorem Zey(w:World):Z12 w (.slice none 0 0) []:=⟨by simp,none,0,rfl,⟨λ_=>rfl,Nat.le_refl _⟩,λh=>absurd rfl h⟩
theorem Zic(c:UInt8)(l:List UInt8):numM 1 (c::l) false=((c.toNat:Int),l,false):=by simp[numM,beN]
set_option maxRecDepth 10000 in
theorem Zav(w:World)(b:Nat)(s:List UInt8)(sh:Bool)(hs:s.length<1099511627776)(hsh:sh=true->s=[])(hc:rdC w b s sh):Calls Tryz.prog 45 #[ptrB b] w λe w'=>∃v os s' sh',e=.returned (sc1 v)/\owns w' v 74 [.int .i64,.str] (os.map encO)/\(∀k,Z3 v k->w.heap.size<=k)/\rdC w' b s' sh'/\Mod [b] w w'/\os.length+s'.length<=s.length /\ (sh'=true/\(if sh then none else Z49 s.length 0 s)=none\/sh'=false/\(if sh then none else Z49 s.length 0 s)=some (os,s')):=by
 refine Z1 (Z5 (J:=[.n b,.s s,.b sh]) sxE_ok Tryz.func45 Z36 rfl rfl (Zda (b:=b) hc (λk hk=>hk)) rfl rfl ?_) rfl;generalize hT:(if sh then none else Z49 s.length 0 s)=T
 simp only[QQ,Nat.reduceAdd];refine⟨λvs=>∃(v:Value) (acc:List Opt) (was:Int) (s':List UInt8) (sh':Bool),vs=[.v v,.r (acc.map encO),.i was,.s s',.b sh']/\0<=was/\was<=70000*acc.length/\acc.length+s'.length<=s.length /\
   (sh'=true/\T=none\/sh'=false/\∃f,s'.length<=f/\Z6m acc (Z49 f was s')=T),λvs=>(vs.getD 3 (.i 0)).toS.length,⟨_,[],0,s,sh,rfl,by omega,by simp,by simp,?_⟩,?_⟩
 ·cases sh with
  | true=>exact .inl ⟨rfl,hT.symm⟩
  | false=>exact .inr ⟨rfl,s.length,Nat.le_refl _,by rw[Zex];exact hT⟩
 rintro _ - ⟨v,acc,was,s',sh',rfl,hw0,hw1,hal,hinv⟩;simp only[QQ,Nat.reduceAdd,qy3];refine⟨?_,λh=>?_,λh=>?_⟩
 ·rcases s' with _|⟨c,l⟩
  ·exact .inl λh=>h.1 rfl
  ·exact .inr (by simp only[List.length_cons];omega)
 ·obtain⟨⟨h1,h2⟩,h3⟩:=h;obtain⟨hs0,f,hf,hT'⟩:=hinv.resolve_left λh=>h2 h.1;subst hs0;rcases s' with _|⟨c,l⟩
  ·exact absurd rfl h1
  have hc255:c≠255:=λh=>h3 (by rw[h];rfl);obtain⟨g,rfl⟩:∃g,f=g+1:=⟨f - 1,by simp at hf;omega⟩
  simp only[List.length_cons]at hf hal;have hcb:=Z60 c;intro w1 hr;refine(Z2q w1 b (c::l) false 1 (by omega) (by simp;omega) (hr.at_ 2 rfl)).mono ?_;rintro e w2 ⟨rfl,c1,c2⟩;rw[Zic]at c1;refine⟨[.i c.toNat,.s l,.b false],rfl,by rw[Zic];rfl,c2,qy2.2 ⟨c1,qy5 _⟩,qy5 _,Z7,?_⟩;simp only[QQ,Nat.reduceAdd];rw[Zsu _ hcb];intro w3 hr3;refine(Zmv w3 b l false _ (by omega) (by omega) (hr3.at_ 2 rfl)).mono ?_;rintro e w4 ⟨rfl,c3,c4⟩;have b1:=Zdb (n:=((c.toNat / 16:Nat):Int)) l false (by omega);have l1:=Z7h ((c.toNat / 16:Nat):Int) l false;have q1:=Zdc (n:=((c.toNat / 16:Nat):Int)) (by omega) l;generalize Z2r ((c.toNat / 16:Nat):Int) l false=H1 at c3 b1 l1 q1⊢
  refine⟨[.i H1.1,.s H1.2.1,.b H1.2.2],rfl,rfl,c4,qy2.2 ⟨c3,qy5 _⟩,qy5 _,Z7,?_⟩;simp only[QQ,Nat.reduceAdd];rw[Zmw _ hcb];refine⟨by omega,by omega,?_⟩;intro w5 hr5;refine(Zmv w5 b H1.2.1 H1.2.2 _ (by omega) (by omega) (hr5.at_ 2 rfl)).mono ?_;rintro e w6 ⟨rfl,c5,c6⟩;have b2:=Zdb (n:=((c.toNat % 16:Nat):Int)) H1.2.1 H1.2.2 (by omega);have l2:=Z7h ((c.toNat % 16:Nat):Int) H1.2.1 H1.2.2;have q2:=Zdc (n:=((c.toNat % 16:Nat):Int)) (by omega) H1.2.1;have t2:=Zgc ((c.toNat % 16:Nat):Int) H1.2.1;generalize hH2:Z2r ((c.toNat % 16:Nat):Int) H1.2.1 H1.2.2=H2 at c5 b2 l2⊢
  refine⟨[.i H2.1,.s H2.2.1,.b H2.2.2],rfl,rfl,c6,qy2.2 ⟨c5,qy5 _⟩,qy5 _,Z7,?_⟩;simp only[QQ,Nat.reduceAdd];intro w7 hr7;refine(Zc4 w7 b H2.2.1 H2.2.2 H2.1 (by omega) (hr7.at_ 2 rfl)).mono ?_;rintro e w8 ⟨rfl,c7,c8⟩;have l3:=Zat H2.1 H2.2.1 H2.2.2;have t3:=Z3c H2.1 H2.2.1;generalize hT4:Z1n H2.1 H2.2.1 H2.2.2=T4 at c7 l3⊢
  refine⟨[.s T4.1,.s T4.2.1,.b T4.2.2],rfl,rfl,c8,qy2.2 ⟨c7,qy5 _⟩,qy5 _,Z7,?_⟩;simp only[QQ,Nat.reduceAdd,qy3];intro v1;refine⟨by omega,λv2=>⟨⟨v2,acc++[(was+H1.1,T4.1)],was+H1.1,T4.2.1,T4.2.2,by simp[encO],by omega,by simp;omega,by simp;omega,?_⟩,by omega⟩⟩;have key:match Z3j was c l with|none=>T4.2.2=true|some p=>T4.2.2=false/\(was+H1.1,T4.1)=p.1/\T4.2.1=p.2:=by
   unfold Z3j;cases hq1:Z4y ((c.toNat / 16:Nat):Int) l with
   | none =>
    rw[hq1]at q1;simp only at q1⊢;rw[<- hT4,<- hH2,q1,t2];exact Z3c _ _
   | some p =>
    obtain⟨more,r1⟩:=p;rw[hq1]at q1;simp only at q1⊢;rw[q1]at hH2 q2 l1;simp only at hH2 q2 l1;cases hq2:Z4y ((c.toNat % 16:Nat):Int) r1 with
    | none =>
     rw[hq2]at q2;simp only at q2⊢;rw[<- hT4,<- hH2,q2];exact Z3c _ _
    | some p =>
     obtain⟨long,r2⟩:=p;rw[hq2]at q2;simp only at q2⊢;rw[q2]at hH2;rw[<- hT4,<- hH2,q1];simp only[Z1n];by_cases hlo:(r2.length:Int)<long
     ·rw[if_pos hlo,if_pos hlo]
     ·rw[if_neg hlo,if_neg hlo];exact⟨rfl,rfl,rfl⟩
  cases hst:Z3j was c l with
  | none =>
   rw[hst]at key;rw[Z7i hc255 hst]at hT';exact .inl ⟨key,hT'.symm⟩
  | some p =>
   obtain⟨o,r⟩:=p;rw[hst]at key;obtain⟨k1,k2,k3⟩:=key;simp only at k2 k3;rw[Zc7 hc255 hst,Zau]at hT';have ho:was+H1.1=o.1:=by rw[<- k2]
   refine .inr ⟨k1,g,by omega,?_⟩;rw[k2,k3,ho,hT']
 ·intro w1 hr;have hr0:=hr.at_ 0 rfl;have hr2:=hr.at_ 2 rfl;refine⟨v,acc,s',sh',rfl,hr0,λk hk=>?_,hr2,hr.mod,hal,?_⟩
  ·rcases hr.own _ (qy8 ..) rfl k hk with h4|h4
   ·exact h4
   ·have h5:k=b:=by simpa using h4
    exact absurd h5 (λh5=>(List.pairwise_cons.1 hr.sep).1 _ (qy10 _ (qy8 ..)) (.inl rfl) k hk (by simp only[Ent.fp,QQ,Nat.reduceAdd];exact h5))
  ·rcases hinv with h4|⟨h4,f,hf,h5⟩
   ·exact .inl h4
   ·refine .inr ⟨h4,?_⟩;rcases s' with _|⟨c,l⟩
    ·rw[<- h5,Zew];simp[Z6m]
    ·have h6:c=255:=by
      refine Classical.byContradiction λh7=>h ⟨⟨by simp,by simp[h4]⟩,?_⟩;intro h8;apply h7;simpa using h8
     obtain⟨g,rfl⟩:∃g,f=g+1:=⟨f - 1,by simp at hf;omega⟩
     subst h6;rw[<- h5,Zc6];simp[Z6m]
theorem Zjx(w:World)(b:Nat)(s:List UInt8)(sh:Bool)(hs:s.length<1099511627776)(hsh:sh=true->s=[])(hc:rdC w b s sh):Calls Tryz.prog 45 #[ptrB b] w λe w'=>∃v os s' sh',e=.returned (sc1 v)/\Z12 w' v os/\Z3p w.heap.size v os/\rdC w' b s' sh'/\Mod [b] w w'/\os.length+s'.length<=s.length /\ (sh'=true/\(if sh then none else Z49 s.length 0 s)=none\/sh'=false/\(if sh then none else Z49 s.length 0 s)=some (os,s')) :=
 (Zav w b s sh hs hsh hc).mono λe w' ⟨v,os,s',sh',h1,h2,h3,h4⟩=>⟨v,os,s',sh',h1,h2.reads,λk hk=>h3 k hk.2,h4⟩
def chkd(m:Msg):Msg×Int:=if chk m=0 then(m,0)else(mNil,chk m)
def finM(m:Msg):List UInt8->Msg×Int
 | []=>chkd m
 | _::p=>if p=[]then(mNil,1)else chkd { m with pay:=p }
def dec(s:List UInt8):Msg×Int :=
 if s.length<4 then(mNil,1)else
 if ¬((s.getD 0 0).toNat / 64=1)\/8<(s.getD 0 0).toNat % 16\/s.length<4+(s.getD 0 0).toNat % 16 then(mNil,1)else
 match Z49 (s.drop (4+(s.getD 0 0).toNat % 16)).length 0 (s.drop (4+(s.getD 0 0).toNat % 16))with
 | none=>(mNil,1)
 | some (os,r)=>finM ⟨((s.getD 0 0).toNat / 16 % 4:Nat),(s.getD 1 0).toNat,((256*(s.getD 2 0).toNat+(s.getD 3 0).toNat:Nat)),(s.drop 4).take ((s.getD 0 0).toNat % 16),os,[]⟩ r
def Zmx(w w':World)(e:Ending)(r:Msg×Int):Prop:=∃v,e=.returned (.tuple #[mV r.1 (sc1 v),.int .i64 r.2])/\Z12 w' v r.1.opts/\Z3p w.heap.size v r.1.opts/\Mod [] w w'
theorem Z16{w w':World}(n:Int)(h:Mod [] w w'):Zmx w w' (.returned (.tuple #[mV mNil (.slice none 0 0),.int .i64 n])) (mNil,n) :=
 ⟨.slice none 0 0,rfl,Zey w',Zc3 _ _,h⟩
theorem Zmy(s:List UInt8):let r1:=numM 1 s false;let r2:=numM 1 r1.2.1 r1.2.2;let r3:=numM 2 r2.2.1 r2.2.2
  (s.length<4/\r3.2.1=[]/\r3.2.2=true\/4<=s.length/\r1.1=(s.getD 0 0).toNat/\r2.1=(s.getD 1 0).toNat/\r3.1=((256*(s.getD 2 0).toNat+(s.getD 3 0).toNat:Nat))/\r3.2.1=s.drop 4/\r3.2.2=false):=by
 rcases s with _|⟨a,_|⟨b,_|⟨c,_|⟨d,l⟩⟩⟩⟩
 ·left;simp[numM]
 ·left;simp[numM]
 ·left;simp[numM]
 ·left;simp[numM]
 ·right;have e:¬(l.length+1+1<2):=by omega
  simp[numM,beN,e]
theorem Z8g{m:Msg}(h:chk m=0):chkd m=(m,0):=if_pos h
theorem Z8h{m:Msg}(h:¬chk m=0):chkd m=(mNil,chk m):=if_neg h
theorem Z3r{s:List UInt8}(h:4<=s.length)(h1:(¬((s.getD 0 0).toNat / 64=1)\/8<(s.getD 0 0).toNat % 16\/s.length<4+(s.getD 0 0).toNat % 16)\/Z49 (s.drop (4+(s.getD 0 0).toNat % 16)).length 0 (s.drop (4+(s.getD 0 0).toNat % 16))=none):dec s=(mNil,1):=by
 unfold dec;rw[if_neg (by omega)];rcases h1 with h1|h1
 ·rw[if_pos h1]
 ·split
  ·rfl
  ·rw[h1]
theorem Zdd{s:List UInt8}(h:4<=s.length)(h1:¬(¬((s.getD 0 0).toNat / 64=1)\/8<(s.getD 0 0).toNat % 16\/s.length<4+(s.getD 0 0).toNat % 16)){os:List Opt}{r:List UInt8}(h2:Z49 (s.drop (4+(s.getD 0 0).toNat % 16)).length 0 (s.drop (4+(s.getD 0 0).toNat % 16))=some (os,r)) : dec s=finM ⟨((s.getD 0 0).toNat / 16 % 4:Nat),(s.getD 1 0).toNat,((256*(s.getD 2 0).toNat+(s.getD 3 0).toNat:Nat)),(s.drop 4).take ((s.getD 0 0).toNat % 16),os,[]⟩ r:=by unfold dec;rw[if_neg (by omega),if_neg h1,h2]
theorem Zmz{was:Int}{c:UInt8}{l:List UInt8}{o:Opt}{r:List UInt8}(h:Z3j was c l=some (o,r)):o.2.length+r.length<=l.length/\was<=o.1/\o.1<=was+65805:=by
 have hcb:=Z60 c;unfold Z3j at h;have p1:=Zdc (n:=((c.toNat / 16:Nat):Int)) (by omega) l;have q1:=Z7h ((c.toNat / 16:Nat):Int) l false;have b1:=Zdb (n:=((c.toNat / 16:Nat):Int)) l false (by omega);cases hq1:Z4y ((c.toNat / 16:Nat):Int) l with
 | none=>rw[hq1]at h;cases h
 | some p =>
  rw[hq1]at h p1;simp only at h p1;rw[p1]at q1 b1;have p2:=Zdc (n:=((c.toNat % 16:Nat):Int)) (by omega) p.2;have q2:=Z7h ((c.toNat % 16:Nat):Int) p.2 false;cases hq2:Z4y ((c.toNat % 16:Nat):Int) p.2 with
  | none=>rw[hq2]at h;cases h
  | some q =>
   rw[hq2]at h p2;simp only at h p2;rw[p2]at q2;split at h
   ·cases h
   ·simp only[Option.some.injEq,Prod.mk.injEq]at h;obtain⟨rfl,rfl⟩:=h;simp only[List.length_take,List.length_drop]at *;omega
set_option maxRecDepth 10000 in
theorem Zpq(w:World)(s:List UInt8)(hs:s.length<1099511627776):Calls Tryz.prog 11 #[.string ⟨s.toArray⟩] w λe w'=>Zmx w w' e (dec s):=by
  refine Z1 (Z4 (J:=[.s s]) sxE_ok Tryz.func11 Z6g rfl rfl rfl ?_) rfl;simp only[QQ,Nat.reduceAdd];intro b1 b;have hh:=Zmy s;generalize hR1:numM 1 s false=R1 at hh
  generalize hR2:numM 1 R1.2.1 R1.2.2=R2 at hh
  generalize hR3:numM 2 R2.2.1 R2.2.2=R3 at hh
  simp only[hR1,hR2,hR3]at hh;have hb1:0<=R1.1/\R1.1<256:=by have:=Z8f (k:=1) s false (by omega);rw[hR1]at this;omega
  have hl1:R1.2.1.length<=s.length:=by rw[<- hR1];exact Z3q _ _ _
  have hl2:R2.2.1.length<=R1.2.1.length:=by rw[<- hR2];exact Z3q _ _ _
  have hl3:R3.2.1.length<=R2.2.1.length:=by rw[<- hR3];exact Z3q _ _ _
  obtain⟨x,hx⟩:∃x:Nat,R1.1=x:=⟨R1.1.toNat,by omega⟩
  have hxb:x<256:=by omega
  intro w1 hr;refine(Z2q w1 b s false 1 (by omega) hs (hr.at_ 0 rfl)).mono ?_;rintro e w2 ⟨rfl,c1,c2⟩;rw[hR1]at c1;refine⟨[.i R1.1,.s R1.2.1,.b R1.2.2],rfl,by rw[hR1];rfl,c2,qy2.2 ⟨c1,qy5 _⟩,qy5 _,Z7,?_⟩;simp only[QQ,Nat.reduceAdd];intro w1 hr;refine(Z2q w1 b R1.2.1 R1.2.2 1 (by omega) (by omega) (hr.at_ 0 rfl)).mono ?_;rintro e w2 ⟨rfl,c1,c2⟩;rw[hR2]at c1;refine⟨[.i R2.1,.s R2.2.1,.b R2.2.2],rfl,by rw[hR2];rfl,c2,qy2.2 ⟨c1,qy5 _⟩,qy5 _,Z7,?_⟩;simp only[QQ,Nat.reduceAdd];intro b9;intro w1 hr;refine(Z2q w1 b R2.2.1 R2.2.2 2 (by omega) (by omega) (hr.at_ 1 rfl)).mono ?_;rintro e w2 ⟨rfl,c1,c2⟩;rw[hR3]at c1;refine⟨[.i R3.1,.s R3.2.1,.b R3.2.2],rfl,by rw[hR3];rfl,c2,qy2.2 ⟨c1,qy5 _⟩,qy5 _,Z7,?_⟩;simp only[QQ,Nat.reduceAdd];rw[hx,Zmw x hxb];intro w1 hr;refine(Zc4 w1 b R3.2.1 R3.2.2 ((x % 16:Nat):Int) (by omega) (hr.at_ 1 rfl)).mono ?_;rintro e w2 ⟨rfl,c1,c2⟩;generalize hT4:Z1n ((x % 16:Nat):Int) R3.2.1 R3.2.2=T4 at c1⊢
  have hl4:T4.2.1.length<=s.length/\T4.1.length<=s.length:=by have:=Zat ((x % 16:Nat):Int) R3.2.1 R3.2.2;rw[hT4]at this;omega
  have hsh4:T4.2.2=true->T4.2.1=[]:=by
    rcases hh with⟨_,h5,h6⟩|⟨h5,_,_,_,_,h6⟩
    . rw[h5,h6]at hT4;subst hT4;intro _;unfold Z1n;split<;>simp
    . rw[h6]at hT4;subst hT4;unfold Z1n;split
      . intro _;rfl
      . intro h;cases h
  refine⟨[.s T4.1,.s T4.2.1,.b T4.2.2],rfl,rfl,c2,qy2.2 ⟨c1,qy5 _⟩,qy5 _,Z7,?_⟩;simp only[QQ,Nat.reduceAdd];intro w1 hr;refine(Zjx w1 b T4.2.1 T4.2.2 (by omega) hsh4 (hr.at_ 1 rfl)).mono ?_;rintro e w2 ⟨v,os,s',sh',rfl,hrd,hfr,c1,c2,hlo,hT⟩;have hfr1:Z3p w.heap.size v os:=hfr.mono hr.mod.size;refine⟨[.v v,.r (os.map encO),.s s',.b sh'],rfl,rfl,c2,qy2.2 ⟨c1,qy5 _⟩,qy2.2 ⟨⟨hrd,λk hk=>.inl (hfr k hk)⟩,qy5 _⟩,Z6,?_⟩;have hfin:((sh'=true\/¬(x / 64=1)\/8<T4.1.length)->dec s=(mNil,1))/\(¬(sh'=true\/¬(x / 64=1)\/8<T4.1.length)->dec s=finM ⟨((x / 16 % 4:Nat):Int),R2.1,R3.1,T4.1,os,[]⟩ s'):=by
    rcases hh with⟨h4,h5,h6⟩|⟨h4,h5,h6,h7,h8,h9⟩
    . have hsh:T4.2.2=true:=by rw[h6]at hT4;rw[<- hT4];exact Z3c _ _
      rw[hsh,if_pos rfl]at hT;have hs':sh'=true:=by
        rcases hT with hT|hT
        . exact hT.1
        . exact absurd hT.2 (by simp)
      exact⟨λ_=>by rw[dec,if_pos h4],λh=>absurd (.inl hs') h⟩
    . have hx0:(s.getD 0 0).toNat=x:=by rw[hx]at h5;omega
      rw[h8,h9,Z1n,List.length_drop]at hT4;by_cases hn:s.length<4+x % 16
      . rw[if_pos (by omega)]at hT4;subst hT4;simp only[if_true]at hT;have hs':sh'=true:=by
          rcases hT with hT|hT
          . exact hT.1
          . exact absurd hT.2 (by simp)
        exact⟨λ_=>Z3r h4 (.inl (by rw[hx0];exact .inr (.inr hn))),λh=>absurd (.inl hs') h⟩
      . rw[if_neg (by omega)]at hT4;subst hT4;simp only[qy4,List.drop_drop,Bool.false_eq_true,if_false]at hT⊢;have hlen:(List.take (x % 16) (List.drop 4 s)).length=x % 16:=by simp;omega
        rw[hlen];have hcond:∀y:Prop,(¬(x / 64=1)\/8<x % 16->y)->(¬((s.getD 0 0).toNat / 64=1)\/8<(s.getD 0 0).toNat % 16\/s.length<4+(s.getD 0 0).toNat % 16)->y:=λy hy h=>by
          rw[hx0]at h;rcases h with h|h|h
          . exact hy (.inl h)
          . exact hy (.inr h)
          . exact absurd h hn
        refine⟨λh=>?_,λh=>?_⟩
        . by_cases hb:¬(x / 64=1)\/8<x % 16
          . refine Z3r h4 (.inl ?_);rw[hx0];rcases hb with hb|hb
            . exact .inl hb
            . exact .inr (.inl hb)
          . have hs':=h.resolve_right hb;refine Z3r h4 (.inr ?_);rw[hx0];rcases hT with hT|hT
            . exact hT.2
            . rw[hs']at hT;exact absurd hT.1 (by decide)
        . rcases hT with hT|hT
          . exact absurd (.inl hT.1) h
          . have:=Zdd h4 (λh2=>hcond _ id h2 |> λh3=>h (.inr h3)) (by rw[hx0];exact hT.2);rw[this,hx0,h6,h7]
  clear hT hh hT4 hR1 hR2 hR3;simp only[QQ,Nat.reduceAdd,qy3];rw[Zsu x hxb,Zu0 x hxb,Ztz x hxb];refine⟨λh1=>?_,λh1=>?_⟩
  . obtain⟨c,p,rfl⟩:∃c p,s'=c::p:=by
      rcases s' with _|⟨c,p⟩
      . exact absurd rfl h1
      . exact⟨c,p,rfl⟩
    intro w1 hr;refine(Zc4 w1 b (c::p) sh' 1 (by omega) (hr.at_ 2 rfl)).mono ?_;rintro e w2 ⟨rfl,c1,c2⟩;have e5:Z1n 1 (c::p) sh'=([c],p,sh'):=by rw[Z1n,if_neg (by simp only[List.length_cons];omega)];rfl
    rw[e5]at c1;refine⟨[.s [c],.s p,.b sh'],rfl,by rw[e5];rfl,c2,qy2.2 ⟨c1,qy5 _⟩,qy5 _,Z7,?_⟩;simp only[QQ,Nat.reduceAdd,qy3];refine⟨λh2 w' hr=>?_,λh2=>?_⟩
    . have:dec s=(mNil,1):=by
        by_cases h3:sh'=true\/¬(x / 64=1)\/8<T4.1.length
        . exact hfin.1 h3
        . rw[hfin.2 h3];have:p=[]:=by
            rcases h2 with((h2|h2)|h2)|h2
            . exact absurd (.inl h2) h3
            . exact h2
            . exact absurd (.inr (.inl (by omega))) h3
            . exact absurd (.inr (.inr (by omega))) h3
          rw[this];rfl
      rw[this];exact Z16 1 hr.mod
    . have hd:dec s=chkd ⟨((x / 16 % 4:Nat):Int),R2.1,R3.1,T4.1,os,p⟩:=by
        rw[hfin.2 (λh3=>h2 (by
          rcases h3 with h3|h3|h3
          . exact .inl (.inl (.inl h3))
          . exact .inl (.inr (by omega))
          . exact .inr (by omega)))]
        simp only[finM];rw[if_neg (λh3=>h2 (.inl (.inl (.inr h3))))]
      refine⟨[.i (chk ⟨((x / 16 % 4:Nat):Int),R2.1,R3.1,T4.1,os,p⟩)],rfl,λ_ w' hr=>Z6l w' ⟨((x / 16 % 4:Nat):Int),R2.1,R3.1,T4.1,os,p⟩ v (hr.at_ 0 rfl) ?_ ?_ ?_,?_⟩
      . simp only[List.length_cons]at hlo⊢;omega
      . simp only;omega
      . simp only[List.length_cons]at hlo⊢;omega
      simp only[QQ,Nat.reduceAdd,qy3];refine⟨λh3 w' hr=>?_,λh3 w' hr=>?_⟩
      . rw[hd,Z8h h3];exact Z16 _ hr.mod
      . rw[hd,Z8g (qy9.1 h3)];exact⟨v,rfl,hr.at_ 0 rfl,hfr1,hr.mod⟩
  . have hs':=qy9.1 h1;subst hs';refine⟨λh2 w' hr=>?_,λh2=>?_⟩
    . rw[hfin.1 (by
        rcases h2 with(h2|h2)|h2
        . exact .inl h2
        . exact .inr (.inl (by omega))
        . exact .inr (.inr (by omega)))]
      exact Z16 1 hr.mod
    . have hd:dec s=chkd ⟨((x / 16 % 4:Nat):Int),R2.1,R3.1,T4.1,os,[]⟩:=hfin.2 (λh3=>h2 (by
          rcases h3 with h3|h3|h3
          . exact .inl (.inl h3)
          . exact .inl (.inr (by omega))
          . exact .inr (by omega)))
      refine⟨[.i (chk ⟨((x / 16 % 4:Nat):Int),R2.1,R3.1,T4.1,os,[]⟩)],rfl,λ_ w' hr=>Z6l w' ⟨((x / 16 % 4:Nat):Int),R2.1,R3.1,T4.1,os,[]⟩ v (hr.at_ 0 rfl) ?_ ?_ ?_,?_⟩
      . simp only[List.length_nil]at hlo⊢;omega
      . simp only;omega
      . simp
      simp only[QQ,Nat.reduceAdd,qy3];refine⟨λh3 w' hr=>?_,λh3 w' hr=>?_⟩
      . rw[hd,Z8h h3];exact Z16 _ hr.mod
      . rw[hd,Z8g (qy9.1 h3)];exact⟨v,rfl,hr.at_ 0 rfl,hfr1,hr.mod⟩
theorem Zid:chk mGet=0:=by decide
theorem Zjy:msgB mGet=[65,1,1,2,116,96,81,97,1,98]:=by decide +kernel
theorem Zpr:dec [65,1,1,2,116,96,81,97,1,98]=(mGet,0):=by rfl
def optO(v:Value)(os:List Opt):Asrt:=Zty [(v,74,[.int .i64,.str],os.map encO)]
theorem Zde{v:Value}{os:List Opt}{w:World}(h:owns w v 74 [.int .i64,.str] (os.map encO)):(optO v os).holds w:=λt ht=>by rw[qy12.1 ht];exact h
theorem Zaw{v:Value}{os:List Opt}{w:World}(h:(optO v os).holds w):owns w v 74 [.int .i64,.str] (os.map encO):=h _ (qy12.2 rfl)
theorem Zdf{v:Value}{os:List Opt}{k:Nat}(h:(optO v os).fp k):Z3 v k:=by obtain⟨t,ht,hk⟩:=h;rw[qy12.1 ht]at hk;exact hk
def Zu1(w w':World)(e:Ending)(r:Msg×Int):Prop:=∃v,e=.returned (.tuple #[mV r.1 (sc1 v),.int .i64 r.2])/\owns w' v 74 [.int .i64,.str] (r.1.opts.map encO)/\(∀k,Z3 v k->w.heap.size<=k)/\Mod [] w w'
theorem Z7j{w w':World}(n:Int)(h:Mod [] w w'):Zu1 w w' (.returned (.tuple #[mV mNil (.slice none 0 0),.int .i64 n])) (mNil,n) :=
 ⟨.slice none 0 0,rfl,Z5s _ _ _,(λk hk=>by cases hk),h⟩
set_option maxRecDepth 10000 in
theorem Zn0(w:World)(s:List UInt8)(hs:s.length<1099511627776):Calls Tryz.prog 11 #[.string ⟨s.toArray⟩] w λe w'=>Zu1 w w' e (dec s):=by
  refine Z1 (Z4 (J:=[.s s]) (sxE_ok.joins _) Tryz.func11 Z62 rfl rfl rfl ?_) rfl;simp only[QQ,Nat.reduceAdd];intro b1 b;have hh:=Zmy s;generalize hR1:numM 1 s false=R1 at hh
  generalize hR2:numM 1 R1.2.1 R1.2.2=R2 at hh
  generalize hR3:numM 2 R2.2.1 R2.2.2=R3 at hh
  simp only[hR1,hR2,hR3]at hh;have hb1:0<=R1.1/\R1.1<256:=by have:=Z8f (k:=1) s false (by omega);rw[hR1]at this;omega
  have hl1:R1.2.1.length<=s.length:=by rw[<- hR1];exact Z3q _ _ _
  have hl2:R2.2.1.length<=R1.2.1.length:=by rw[<- hR2];exact Z3q _ _ _
  have hl3:R3.2.1.length<=R2.2.1.length:=by rw[<- hR3];exact Z3q _ _ _
  obtain⟨x,hx⟩:∃x:Nat,R1.1=x:=⟨R1.1.toNat,by omega⟩
  have hxb:x<256:=by omega
  intro w1 hr;refine(Z2q w1 b s false 1 (by omega) hs (hr.at_ 0 rfl)).mono ?_;rintro e w2 ⟨rfl,c1,c2⟩;rw[hR1]at c1;refine⟨[.i R1.1,.s R1.2.1,.b R1.2.2],rfl,by rw[hR1];rfl,c2,qy2.2 ⟨c1,qy5 _⟩,qy5 _,Z7,?_⟩;simp only[QQ,Nat.reduceAdd];intro w1 hr;refine(Z2q w1 b R1.2.1 R1.2.2 1 (by omega) (by omega) (hr.at_ 0 rfl)).mono ?_;rintro e w2 ⟨rfl,c1,c2⟩;rw[hR2]at c1;refine⟨[.i R2.1,.s R2.2.1,.b R2.2.2],rfl,by rw[hR2];rfl,c2,qy2.2 ⟨c1,qy5 _⟩,qy5 _,Z7,?_⟩;simp only[QQ,Nat.reduceAdd];intro b9;intro w1 hr;refine(Z2q w1 b R2.2.1 R2.2.2 2 (by omega) (by omega) (hr.at_ 1 rfl)).mono ?_;rintro e w2 ⟨rfl,c1,c2⟩;rw[hR3]at c1;refine⟨[.i R3.1,.s R3.2.1,.b R3.2.2],rfl,by rw[hR3];rfl,c2,qy2.2 ⟨c1,qy5 _⟩,qy5 _,Z7,?_⟩;simp only[QQ,Nat.reduceAdd];rw[hx,Zmw x hxb];intro w1 hr;refine(Zc4 w1 b R3.2.1 R3.2.2 ((x % 16:Nat):Int) (by omega) (hr.at_ 1 rfl)).mono ?_;rintro e w2 ⟨rfl,c1,c2⟩;generalize hT4:Z1n ((x % 16:Nat):Int) R3.2.1 R3.2.2=T4 at c1⊢
  have hl4:T4.2.1.length<=s.length/\T4.1.length<=s.length:=by have:=Zat ((x % 16:Nat):Int) R3.2.1 R3.2.2;rw[hT4]at this;omega
  have hsh4:T4.2.2=true->T4.2.1=[]:=by
    rcases hh with⟨_,h5,h6⟩|⟨h5,_,_,_,_,h6⟩
    . rw[h5,h6]at hT4;subst hT4;intro _;unfold Z1n;split<;>simp
    . rw[h6]at hT4;subst hT4;unfold Z1n;split
      . intro _;rfl
      . intro h;cases h
  refine⟨[.s T4.1,.s T4.2.1,.b T4.2.2],rfl,rfl,c2,qy2.2 ⟨c1,qy5 _⟩,qy5 _,Z7,?_⟩;simp only[QQ,Nat.reduceAdd];intro w1 hr;refine(Zav w1 b T4.2.1 T4.2.2 (by omega) hsh4 (hr.at_ 1 rfl)).mono ?_;rintro e w2 ⟨v,os,s',sh',rfl,hrd,hfr,c1,c2,hlo,hT⟩;have hfr1:∀k,Z3 v k->w.heap.size<=k:=λk hk=>Nat.le_trans hr.mod.size (hfr k hk);refine⟨[.v v,.r (os.map encO),.s s',.b sh',.a (optO v os)],rfl,rfl,c2,qy2.2 ⟨c1,qy5 _⟩,qy2.2 ⟨⟨hrd.reads,λk hk=>.inl (hfr k hk.2)⟩,qy2.2 ⟨⟨Zde hrd,λk hk=>.inl (hfr k (Zdf hk))⟩,qy5 _⟩⟩,Zp (by simp[Ent.wr]),?_⟩;have hfin:((sh'=true\/¬(x / 64=1)\/8<T4.1.length)->dec s=(mNil,1))/\(¬(sh'=true\/¬(x / 64=1)\/8<T4.1.length)->dec s=finM ⟨((x / 16 % 4:Nat):Int),R2.1,R3.1,T4.1,os,[]⟩ s'):=by
    rcases hh with⟨h4,h5,h6⟩|⟨h4,h5,h6,h7,h8,h9⟩
    . have hsh:T4.2.2=true:=by rw[h6]at hT4;rw[<- hT4];exact Z3c _ _
      rw[hsh,if_pos rfl]at hT;have hs':sh'=true:=by
        rcases hT with hT|hT
        . exact hT.1
        . exact absurd hT.2 (by simp)
      exact⟨λ_=>by rw[dec,if_pos h4],λh=>absurd (.inl hs') h⟩
    . have hx0:(s.getD 0 0).toNat=x:=by rw[hx]at h5;omega
      rw[h8,h9,Z1n,List.length_drop]at hT4;by_cases hn:s.length<4+x % 16
      . rw[if_pos (by omega)]at hT4;subst hT4;simp only[if_true]at hT;have hs':sh'=true:=by
          rcases hT with hT|hT
          . exact hT.1
          . exact absurd hT.2 (by simp)
        exact⟨λ_=>Z3r h4 (.inl (by rw[hx0];exact .inr (.inr hn))),λh=>absurd (.inl hs') h⟩
      . rw[if_neg (by omega)]at hT4;subst hT4;simp only[qy4,List.drop_drop,Bool.false_eq_true,if_false]at hT⊢;have hlen:(List.take (x % 16) (List.drop 4 s)).length=x % 16:=by simp;omega
        rw[hlen];have hcond:∀y:Prop,(¬(x / 64=1)\/8<x % 16->y)->(¬((s.getD 0 0).toNat / 64=1)\/8<(s.getD 0 0).toNat % 16\/s.length<4+(s.getD 0 0).toNat % 16)->y:=λy hy h=>by
          rw[hx0]at h;rcases h with h|h|h
          . exact hy (.inl h)
          . exact hy (.inr h)
          . exact absurd h hn
        refine⟨λh=>?_,λh=>?_⟩
        . by_cases hb:¬(x / 64=1)\/8<x % 16
          . refine Z3r h4 (.inl ?_);rw[hx0];rcases hb with hb|hb
            . exact .inl hb
            . exact .inr (.inl hb)
          . have hs':=h.resolve_right hb;refine Z3r h4 (.inr ?_);rw[hx0];rcases hT with hT|hT
            . exact hT.2
            . rw[hs']at hT;exact absurd hT.1 (by decide)
        . rcases hT with hT|hT
          . exact absurd (.inl hT.1) h
          . have:=Zdd h4 (λh2=>hcond _ id h2 |> λh3=>h (.inr h3)) (by rw[hx0];exact hT.2);rw[this,hx0,h6,h7]
  clear hT hh hT4 hR1 hR2 hR3;simp only[QQ,Nat.reduceAdd,qy3];rw[Zsu x hxb,Zu0 x hxb,Ztz x hxb];refine⟨λh1=>?_,λh1=>?_⟩
  . obtain⟨c,p,rfl⟩:∃c p,s'=c::p:=by
      rcases s' with _|⟨c,p⟩
      . exact absurd rfl h1
      . exact⟨c,p,rfl⟩
    intro w1 hr;refine(Zc4 w1 b (c::p) sh' 1 (by omega) (hr.at_ 3 rfl)).mono ?_;rintro e w2 ⟨rfl,c1,c2⟩;have e5:Z1n 1 (c::p) sh'=([c],p,sh'):=by rw[Z1n,if_neg (by simp only[List.length_cons];omega)];rfl
    rw[e5]at c1;refine⟨[.s [c],.s p,.b sh'],rfl,by rw[e5];rfl,c2,qy2.2 ⟨c1,qy5 _⟩,qy5 _,Z7,?_⟩;simp only[QQ,Nat.reduceAdd,qy3];refine⟨λh2 w' hr=>?_,λh2=>?_⟩
    . have:dec s=(mNil,1):=by
        by_cases h3:sh'=true\/¬(x / 64=1)\/8<T4.1.length
        . exact hfin.1 h3
        . rw[hfin.2 h3];have:p=[]:=by
            rcases h2 with((h2|h2)|h2)|h2
            . exact absurd (.inl h2) h3
            . exact h2
            . exact absurd (.inr (.inl (by omega))) h3
            . exact absurd (.inr (.inr (by omega))) h3
          rw[this];rfl
      rw[this];exact Z7j 1 hr.mod
    . have hd:dec s=chkd ⟨((x / 16 % 4:Nat):Int),R2.1,R3.1,T4.1,os,p⟩:=by
        rw[hfin.2 (λh3=>h2 (by
          rcases h3 with h3|h3|h3
          . exact .inl (.inl (.inl h3))
          . exact .inl (.inr (by omega))
          . exact .inr (by omega)))]
        simp only[finM];rw[if_neg (λh3=>h2 (.inl (.inl (.inr h3))))]
      refine⟨[.i (chk ⟨((x / 16 % 4:Nat):Int),R2.1,R3.1,T4.1,os,p⟩)],rfl,λ_ w' hr=>Z6l w' ⟨((x / 16 % 4:Nat):Int),R2.1,R3.1,T4.1,os,p⟩ v (hr.at_ 0 rfl) ?_ ?_ ?_,?_⟩
      . simp only[List.length_cons]at hlo⊢;omega
      . simp only;omega
      . simp only[List.length_cons]at hlo⊢;omega
      simp only[QQ,Nat.reduceAdd,qy3];refine⟨λh3 w' hr=>?_,λh3 w' hr=>?_⟩
      . rw[hd,Z8h h3];exact Z7j _ hr.mod
      . rw[hd,Z8g (qy9.1 h3)];exact⟨v,rfl,Zaw (hr.at_ 1 rfl),hfr1,hr.mod⟩
  . have hs':=qy9.1 h1;subst hs';refine⟨λh2 w' hr=>?_,λh2=>?_⟩
    . rw[hfin.1 (by
        rcases h2 with(h2|h2)|h2
        . exact .inl h2
        . exact .inr (.inl (by omega))
        . exact .inr (.inr (by omega)))]
      exact Z7j 1 hr.mod
    . have hd:dec s=chkd ⟨((x / 16 % 4:Nat):Int),R2.1,R3.1,T4.1,os,[]⟩:=hfin.2 (λh3=>h2 (by
          rcases h3 with h3|h3|h3
          . exact .inl (.inl h3)
          . exact .inl (.inr (by omega))
          . exact .inr (by omega)))
      refine⟨[.i (chk ⟨((x / 16 % 4:Nat):Int),R2.1,R3.1,T4.1,os,[]⟩)],rfl,λ_ w' hr=>Z6l w' ⟨((x / 16 % 4:Nat):Int),R2.1,R3.1,T4.1,os,[]⟩ v (hr.at_ 0 rfl) ?_ ?_ ?_,?_⟩
      . simp only[List.length_nil]at hlo⊢;omega
      . simp only;omega
      . simp
      simp only[QQ,Nat.reduceAdd,qy3];refine⟨λh3 w' hr=>?_,λh3 w' hr=>?_⟩
      . rw[hd,Z8h h3];exact Z7j _ hr.mod
      . rw[hd,Z8g (qy9.1 h3)];exact⟨v,rfl,Zaw (hr.at_ 1 rfl),hfr1,hr.mod⟩
open Go Go.RowKit Go.Lib
def ModS(S:Nat->Prop)(w w':World):Prop:=∃ks,(∀k∈ks,S k)/\Mod ks w w'
theorem Zc8(w:World)(o:Obj):(w.alloc o).heap[w.heap.size]?=some o:=by show(w.heap.push o)[w.heap.size]?=some o;simp
theorem Zez{w:World}{b:Nat}{cs:Array Value}{t:TypeId}(h:w.heap[b]?=some (.cells cs t (0,0)))(j:Nat):w.cell? ⟨b,j,none⟩=cs[j]?:=by simp[World.cell?,h]
theorem Zsv{w:World}{b:Nat}{o:Obj}(h:w.heap[b]?=some o):b<w.heap.size:=by refine Classical.byContradiction λhn=>?_;rw[Array.getElem?_eq_none (by omega)]at h;cases h
set_option maxRecDepth 100000 in
theorem Zgd(w:World)(k c i:Int)(t p:List UInt8)(g cap n:Nat)(xs:List Value)(ho:w.ownsRow 0 74 2 (.slice (some ⟨g,0,none⟩) n cap) n xs) : Calls Tryz.prog 20 #[.agg #[.int .i64 k,.int .i64 c,.int .i64 i,.string ⟨t.toArray⟩,.slice (some ⟨g,0,none⟩) n cap,.string ⟨p.toArray⟩]] w λe w'=>e=.returned (.tuple #[])/\Mod [g] w w':=by
 have hg:g<w.heap.size:=(ho.lt g rfl).2;have hn:n<=maxLen:=by
  rcases ho.2 with⟨h,-⟩|⟨g',cap',cur,h,-,-,h1,h2,-⟩
  ·cases h
  ·cases h;omega
 go_enter Tryz.func20,Tryz.ntmps20
 go_wp2
 go_loopw [2] (λx wr=>∃(j:Nat) (ys:List Value),j<=n/\x=.int .i64 j/\wr.heap[w.heap.size]?=some (.cells #[.int .i64 k,.int .i64 c,.int .i64 i,.string ⟨t.toArray⟩,.slice (some ⟨g,0,none⟩) n cap,.string ⟨p.toArray⟩] 24 (0,0))/\wr.ownsRow 0 74 2 (.slice (some ⟨g,0,none⟩) n cap) n ys/\Mod [g] w wr)
  (λx _=>n - (Go.RowKit.intOf x).toNat)
 case atStart =>
  exact⟨0,xs,Nat.zero_le _,rfl,Zc8 w _,ho.alloc _,rfl,rfl,rfl,by simp,λq hq _=>Below.heap_alloc w _ q hq⟩
 case round =>
  obtain⟨j,ys,hj,rfl,hb,hown,hm⟩:=hrel;have hc4:wr.cell? ⟨w.heap.size,4,none⟩=_:=Zez hb 4;by_cases hlt:j<n
  ·obtain⟨u,hu⟩:∃u,wr.cell? ⟨g,j*2,none⟩=some u:=by
    rw[hown.cellAt (j*2) (by omega)];exact⟨_,qy7 (by rw[hown.1];omega)⟩
   have hf:=hown.frozenAt (j*2);go_wp2
   obtain⟨o2,g2⟩:=hown.stored (j*2) (.int .i64 (-7));have hj1:wrap64 ((j:Int)+1)=((j+1:Nat):Int):=by unfold maxLen at hn;unfold wrap64;omega
   rw[hj1];refine⟨⟨j+1,_,hlt,rfl,?_,o2,hm.trans (fp':=[g]) ⟨g2.os,g2.tape,g2.output,g2.size,λq hq hn=>g2.block q hq (λe=>hn (by cases e;simp))⟩ (λq hq=>.inl hq)⟩,?_⟩
   ·rw[g2.block _ (by have:=hm.size;exact Zsv hb) (λe=>by cases e;omega)];exact hb
   ·simp[Go.RowKit.intOf];omega
  ·go_wp2
   go_end0
   exact⟨rfl,hm⟩
theorem Zge{wr:World}{e sz:Nat}{v:Value}{n:Nat}{xs:List Value}(h:wr.ownsRow 0 e sz v n xs)(b o:Nat)(u:Value) : ∃ys,(wr.setCell ⟨b,o,none⟩ u).ownsRow 0 e sz v n ys/\∀j,(v.ownBlock≠some b\/j≠o)->ys[j]?=xs[j]?:=by
 have h0:=h;rcases h.2 with⟨rfl,rfl⟩|⟨g,cap,cur,rfl,-,hg,r⟩
 ·exact⟨xs,⟨h.1,.inl ⟨rfl,rfl⟩⟩,λ_ _=>rfl⟩
 ·by_cases hb:g=b
  ·subst hb;refine⟨_,(h.stored o u).1,λj hj=>?_⟩;rcases hj with hj|hj
   ·exact absurd rfl hj
   ·rw[List.getElem?_set_ne (λe=>hj e.symm)]
  ·refine⟨xs,⟨h0.1,.inr ⟨g,cap,cur,rfl,Nat.zero_le _,?_,r⟩⟩,λ_ _=>rfl⟩;rw[heap_setCell_other wr ⟨b,o,none⟩ g u hb];exact hg
theorem Zsw{KS:List Nat}{w wr:World}(h:Mod KS w wr){b:Nat}(hb:b∈KS)(o:Nat)(u:Value):Mod KS w (wr.setCell ⟨b,o,none⟩ u) :=
 ⟨h.os,h.tape,h.output,by simpa using h.size,λk hk hn=>by rw[heap_setCell_other wr ⟨b,o,none⟩ k u (λe=>hn (by rw[e];exact hb))];exact h.block k hk hn⟩
abbrev dX:Value×Value:=(.slice none 0 0,.slice none 0 0)
def SpI(KS:List Nat)(g cap n:Nat)(X:List (Value×Value))(w wr:World):Prop :=
 (∃xs,wr.ownsRow 0 29 14 (.slice (some ⟨g,0,none⟩) n cap) n xs/\∀i,i<n->xs[i*14+12]?=some (X.getD i dX).1/\xs[i*14+13]?=some (X.getD i dX).2) /\
 (∀i,i<n->(∃m zs,wr.ownsRow 0 69 2 (X.getD i dX).1 m zs)/\∃m zs,wr.ownsRow 0 3 1 (X.getD i dX).2 m zs)/\Mod KS w wr
theorem SpI.set{KS:List Nat}{g cap n:Nat}{X:List (Value×Value)}{w wr:World}(h:SpI KS g cap n X w wr){b o:Nat}(hb:b∈KS)(hg:b≠g\/∃i,o=i*14)(u:Value):SpI KS g cap n X w (wr.setCell ⟨b,o,none⟩ u):=by
 obtain⟨⟨xs,h1,h2⟩,h3,h4⟩:=h;obtain⟨ys,e1,e2⟩:=Zge h1 b o u;refine⟨⟨ys,e1,λi hi=>?_⟩,λi hi=>?_,Zsw h4 hb o u⟩
 ·have hne:∀c,c<14->c≠0->((Value.slice (some ⟨g,0,none⟩) n cap).ownBlock≠some b\/i*14+c≠o):=λc hc hc0=>by
   rcases hg with hg|⟨i',rfl⟩
   ·exact .inl (λe=>hg (by cases e;rfl))
   ·exact .inr (by omega)
  rw[e2 _ (hne 12 (by omega) (by omega)),e2 _ (hne 13 (by omega) (by omega))];exact h2 i hi
 ·obtain⟨⟨m,zs,a1⟩,m',zs',a2⟩:=h3 i hi;obtain⟨q,q1,-⟩:=Zge a1 b o u;obtain⟨q',q2,-⟩:=Zge a2 b o u;exact⟨⟨m,q,q1⟩,m',q',q2⟩
def lenS:Value->Nat
 | .slice _ n _=>n
 | _=>0
theorem Zf0{w:World}{e sz m:Nat}{v:Value}{zs:List Value}(h:w.ownsRow 0 e sz v m zs):∃a n cap,v=.slice a n cap/\n<=maxLen/\(0<n->∃g,a=some ⟨g,0,none⟩):=by
 rcases h.2 with⟨h,-⟩|⟨g,cap,cur,rfl,-,-,h1,h2,-⟩
 ·exact⟨_,_,_,h,Nat.zero_le _,λh=>absurd h (Nat.lt_irrefl _)⟩
 ·exact⟨_,_,_,rfl,Nat.le_trans h1 h2,λ_=>⟨g,rfl⟩⟩
set_option maxRecDepth 100000 in
theorem Zgf(w:World)(KS:List Nat)(g cap n:Nat)(X:List (Value×Value))(hn:n<=maxLen)(hS:SpI KS g cap n X w w)(hg:g∈KS) (hk:∀i,i<n->(∀k,Z3 (X.getD i dX).1 k->k∈KS/\k≠g)/\∀k,Z3 (X.getD i dX).2 k->k∈KS/\k≠g) : Calls Tryz.prog 19 #[.slice (some ⟨g,0,none⟩) n cap] w λe w'=>e=.returned (.tuple #[])/\Mod KS w w':=by
 go_enter Tryz.func19,Tryz.ntmps19
 go_wp2
 go_loopw [2] (λx wr=>∃i:Nat,i<=n/\x=.int .i64 i/\SpI KS g cap n X w wr) (λx _=>n - (Go.RowKit.intOf x).toNat)
 case atStart=>exact⟨0,Nat.zero_le _,rfl,hS⟩
 case round =>
  obtain⟨i,hi,rfl,hI⟩:=hrel;by_cases hlt:i<n
  ·obtain⟨hk1,hk2⟩:=hk i hlt;have hi1:wrap64 ((i:Int)+1)=((i+1:Nat):Int):=by unfold maxLen at hn;unfold wrap64;omega
   go_wp2
   go_loopw [3] (λx wr=>∃k:Nat,k<=lenS (X.getD i dX).1/\x=.int .i64 k/\SpI KS g cap n X w wr) (λx wr=>lenS (X.getD i dX).1 - (Go.RowKit.intOf x).toNat)
   case atStart=>exact⟨0,Nat.zero_le _,rfl,hI⟩
   case round =>
    obtain⟨k,hk0,rfl,hI⟩:=hrel;have hI':=hI;obtain⟨⟨xs,ho,hx⟩,hz,hm⟩:=hI';have c1:=ho.cellAt (i*14+12) (by omega);rw[(hx i hlt).1]at c1;obtain⟨⟨m,zs,hz1⟩,-⟩:=hz i hlt;obtain⟨ax,mx,cx,e,hmx,hax⟩:=Zf0 hz1;rw[e]at c1 hk0 hk1 hz1⊢;simp only[lenS]at hk0⊢;by_cases hkm:k<mx
    ·obtain⟨gx,rfl⟩:=hax (by omega);obtain⟨hgx,hgg⟩:=hk1 gx rfl;obtain⟨rfl⟩:mx=m:=by rcases hz1.2 with⟨h,-⟩|⟨_,_,_,h,-⟩<;>cases h;rfl
     obtain⟨u,hu⟩:∃u,wr.cell? ⟨gx,k*2,none⟩=some u:=by rw[hz1.cellAt (k*2) (by omega)];exact⟨_,qy7 (by rw[hz1.1];omega)⟩
     have hf:=hz1.frozenAt (k*2);go_wp2
     have hk1:wrap64 ((k:Int)+1)=((k+1:Nat):Int):=by unfold maxLen at hmx;unfold wrap64;omega
     rw[hk1];refine⟨⟨k+1,hkm,rfl,hI.set hgx (.inl hgg) _⟩,?_⟩;simp[Go.RowKit.intOf];omega
    ·clear hz1 hz hx ho hm e hax;go_wp2
     clear c1 hk1 hk0 hkm hmx;go_loopw [4] (λx wr=>∃k:Nat,k<=lenS (X.getD i dX).2/\x=.int .i64 k/\SpI KS g cap n X w wr) (λx wr=>lenS (X.getD i dX).2 - (Go.RowKit.intOf x).toNat)
     case atStart=>exact⟨0,Nat.zero_le _,rfl,hI⟩
     case round =>
      obtain⟨k,hk0,rfl,hI⟩:=hrel;have hI':=hI;obtain⟨⟨xs,ho,hx⟩,hz,hm⟩:=hI';have c1:=ho.cellAt (i*14+13) (by omega);rw[(hx i hlt).2]at c1;obtain⟨-,m,zs,hz1⟩:=hz i hlt;obtain⟨ax,mx,cx,e,hmx,hax⟩:=Zf0 hz1;rw[e]at c1 hk0 hk2 hz1⊢;simp only[lenS]at hk0⊢;by_cases hkm:k<mx
      ·obtain⟨gx,rfl⟩:=hax (by omega);obtain⟨hgx,hgg⟩:=hk2 gx rfl;obtain⟨rfl⟩:mx=m:=by rcases hz1.2 with⟨h,-⟩|⟨_,_,_,h,-⟩<;>cases h;rfl
       obtain⟨u,hu⟩:∃u,wr.cell? ⟨gx,k,none⟩=some u:=by rw[hz1.cellAt k (by omega)];exact⟨_,qy7 (by rw[hz1.1];omega)⟩
       have hf:=hz1.frozenAt k;go_wp2
       have hk1:wrap64 ((k:Int)+1)=((k+1:Nat):Int):=by unfold maxLen at hmx;unfold wrap64;omega
       rw[hk1];refine⟨⟨k+1,hkm,rfl,hI.set hgx (.inl hgg) _⟩,?_⟩;simp[Go.RowKit.intOf];omega
      ·obtain⟨u,hu⟩:∃u,wr.cell? ⟨g,i*14,none⟩=some u:=by
        rw[ho.cellAt (i*14) (by omega)];exact⟨_,qy7 (by rw[ho.1];omega)⟩
       have hf:=ho.frozenAt (i*14);clear hz1 hz hx ho hm e hax;go_wp2
       rw[hi1];refine⟨⟨i+1,hlt,rfl,hI.set hg (.inr ⟨i,rfl⟩) _⟩,?_⟩;simp[Go.RowKit.intOf];omega
  ·go_wp2
   go_end0
   exact⟨rfl,hI.2.2⟩
set_option maxRecDepth 100000 in
theorem Zjz(w:World):Calls Tryz.prog 19 #[.slice none 0 0] w λe w'=>e=.returned (.tuple #[])/\w'=w:=by
 go_enter Tryz.func19,Tryz.ntmps19
 go_wp2
 refine wp_loop_rounds 1 ?_;rw[rounds_succ];go_wp2
 go_end0
 exact⟨rfl,rfl⟩
set_option maxRecDepth 100000 in
theorem Zk0(w:World)(k c i:Int)(t p:List UInt8) : Calls Tryz.prog 20 #[.agg #[.int .i64 k,.int .i64 c,.int .i64 i,.string ⟨t.toArray⟩,.slice none 0 0,.string ⟨p.toArray⟩]] w λe w'=>e=.returned (.tuple #[])/\Mod [] w w':=by
 go_enter Tryz.func20,Tryz.ntmps20
 go_wp2
 have c1:(w.alloc (.cells #[.int .i64 k,.int .i64 c,.int .i64 i,.string ⟨t.toArray⟩,.slice none 0 0,.string ⟨p.toArray⟩] 24)).cell? ⟨w.heap.size,4,none⟩=some (.slice none 0 0):=by rw[Zez (Zc8 w _)];rfl
 refine wp_loop_rounds 1 ?_;rw[rounds_succ];go_wp2
 go_end0
 exact⟨rfl,rfl,rfl,rfl,by simp,λq hq _=>Below.heap_alloc w _ q hq⟩
theorem Z9j(w:World)(m:Msg)(v:Value)(h:owns w v 74 [.int .i64,.str] (m.opts.map encO)) : Calls Tryz.prog 20 #[mV m (sc1 v)] w λe w'=>e=.returned (.tuple #[])/\ModS (Z3 v) w w':=by
 rw[h.reads.sc1];obtain⟨-,ho⟩:=h;rcases ho.2 with⟨rfl,hn⟩|⟨g,cap,cur,rfl,-,-,-,-,-,-⟩
 ·refine(Zk0 w _ _ _ _ _).mono ?_;rintro e w' ⟨rfl,h⟩;exact⟨rfl,[],by simp,h⟩
 ·refine(Zgd w _ _ _ _ _ g cap _ _ ho).mono ?_;rintro e w' ⟨rfl,h⟩;exact⟨rfl,[g],λk hk=>by rw[qy12.1 hk];rfl,h⟩
theorem Zf1{w:World}{e e' sz sz' m m':Nat}{v v':Value}{zs zs':List Value}(h:w.ownsRow 0 e sz v m zs)(h':w.ownsRow 0 e' sz' v' m' zs')(hne:e≠e'){k:Nat}(hk:Z3 v k):¬Z3 v' k:=by
 intro hk';rcases h.2 with⟨rfl,-⟩|⟨g,cap,cur,rfl,-,hg,-⟩
 ·cases hk
 rcases h'.2 with⟨rfl,-⟩|⟨g',cap',cur',rfl,-,hg',-⟩
 ·cases hk'
 cases hk;cases hk';rw[hg]at hg';cases hg';exact hne rfl
theorem Zie(w:World)(v:Value)(l:List Z24)(h1:owns w v 29 KP (l.map Z3a))(h2:(pksO l).holds w) : Calls Tryz.prog 19 #[sc1 v] w λe w'=>e=.returned (.tuple #[])/\ModS (λk=>Z3 v k\/(pksO l).fp k) w w':=by
 rw[h1.reads.sc1];obtain⟨hrw,ho⟩:=h1;rw[qy3]at ho;have hfl:∀r∈l.map Z3a,r.length=14:=λr hr=>by obtain⟨t,-,rfl⟩:=List.mem_map.1 hr;rfl
 have hX:∀i,(hi:i<l.length)->(l.map (·.2)).getD i dX=l[i].2:=λi hi=>by rw[qy1,List.getElem?_map,qy7 hi];rfl
 rcases ho.2 with⟨rfl,hn⟩|⟨g,cap,cur,rfl,-,hg,hnc,hcm,-,-⟩
 ·refine(Zjz w).mono ?_;rintro e w' ⟨rfl,rfl⟩;exact⟨rfl,[],by simp,Mod.refl _ _⟩
 ·have hkk:∀i,(hi:i<l.length)->∀k,Z3 l[i].2.1 k\/Z3 l[i].2.2 k->k∈g::l.flatMap (λt=>t.2.1.ownBlock.toList++t.2.2.ownBlock.toList):=λi hi k hk =>
   qy10 _ (List.mem_flatMap.2 ⟨l[i],List.getElem_mem _,by rcases hk with hk|hk<;>simp[show _=some k from hk]⟩)
  refine(Zgf w (g::l.flatMap λt=>t.2.1.ownBlock.toList++t.2.2.ownBlock.toList) g cap l.length (l.map (·.2)) (by omega) ⟨⟨_,ho,λi hi=>?_⟩,λi hi=>?_,Mod.refl _ _⟩ (by simp) λi hi=>?_).mono ?_
  ·rw[hX i hi,Z4d hfl (by omega),Z4d hfl (by omega),List.getElem?_map,qy7 hi];exact⟨rfl,rfl⟩
  ·rw[hX i hi];obtain⟨a,b⟩:=Zd9 h2 (List.getElem_mem hi);exact⟨⟨_,_,a.2⟩,_,_,b.2⟩
  ·rw[hX i hi];obtain⟨a,b⟩:=Zd9 h2 (List.getElem_mem hi);exact⟨λk hk=>⟨hkk i hi k (.inl hk),λe=>Zf1 a.2 ho (by decide) hk (by rw[e];rfl)⟩,λk hk=>⟨hkk i hi k (.inr hk),λe=>Zf1 b.2 ho (by decide) hk (by rw[e];rfl)⟩⟩
  ·rintro e w' ⟨rfl,h⟩;refine⟨rfl,_,λk hk=>?_,h⟩;rcases List.mem_cons.1 hk with rfl|hk
   ·exact .inl rfl
   ·obtain⟨t,ht,hk⟩:=List.mem_flatMap.1 hk;rw[qy13,Option.mem_toList,Option.mem_toList]at hk;refine .inr ?_;rcases hk with hk|hk
    ·exact⟨(t.2.1,69,[.str,.int .i64],t.1.asks.map encA),List.mem_flatMap.2 ⟨t,ht,by simp[pkO]⟩,hk⟩
    ·exact⟨(t.2.2,3,[.int .i64],t.1.codes.map Za),List.mem_flatMap.2 ⟨t,ht,by simp[pkO]⟩,hk⟩
def Z4a:List (List UInt8)->List UInt8
 | []=>[]
 | [x]=>x
 | x::y::xs=>x++47::Z4a (y::xs)
theorem Zn1{s:List UInt8}{f:Bool}:chkT s f=0↔s≠[]/\(s.length<=60/\(lev s).length<=6)/\Z1t s=true/\badL f (lev s)=false:=by
 unfold chkT;by_cases h1:s=[]
 ·rw[if_pos h1];simp[h1]
 ·rw[if_neg h1];by_cases h2:60<(s.length:Int)\/6<((lev s).length:Int)
  ·rw[if_pos h2];refine⟨λh=>absurd h (by decide),λh=>by omega⟩
  ·rw[if_neg h2];by_cases h3:Z1t s=true
   ·rw[if_pos h3];cases h4:badL f (lev s)
    ·exact⟨λ_=>⟨h1,by omega,h3,rfl⟩,λ_=>rfl⟩
    ·exact⟨λh=>absurd h (by decide),λh=>absurd h.2.2.2 (by simp)⟩
   ·rw[if_neg h3];exact⟨λh=>absurd h (by decide),λh=>absurd h.2.2.1 h3⟩
def noN(n:Int)(os:List Opt):List Opt:=os.filter λo=>decide (o.1≠n)
def upTo(n:Int)(os:List Opt):List Opt:=os.takeWhile λo=>decide (o.1<=n)
def past(n:Int)(os:List Opt):List Opt:=os.dropWhile λo=>decide (o.1<=n)
def Z5k(os:List Opt)(n:Int)(vs:List (List UInt8)):List Opt:=upTo n (noN n os)++vs.map (λv=>(n,v))++past n (noN n os)
theorem Zn2(n:Int)(os:List Opt):upTo n os++past n os=os:=List.takeWhile_append_dropWhile
theorem Zu2{n:Int}{os:List Opt}(h:∀o∈os,o.1≠n):noN n os=os:=by rw[noN,List.filter_eq_self];simpa using h
def Zl(n:Int)(os:List Opt):List (List UInt8):=(os.filter λo=>decide (o.1=n)).map (·.2)
theorem Zf2{n:Int}{os:List Opt}(h:∀o∈os,o.1≠n):Zl n os=[]:=by rw[Zl,List.map_eq_nil_iff,List.filter_eq_nil_iff];simpa using h
theorem Zif(n:Int)(a b:List Opt):Zl n (a++b)=Zl n a++Zl n b:=by simp[Zl]
theorem Zdg{n:Int}:∀{l:List Opt} {k:Nat},k<=l.length->(∀j,j<k->(l.getD j oD).1<=n)->(k<l.length->n<(l.getD k oD).1)->l.take k=upTo n l/\l.drop k=past n l
 | [],k,hk,_,_=>by simp[upTo,past]
 | o::l,0,_,_,h2=>by
  have h:=h2 (by simp);simp only[List.getD_cons_zero]at h;have:¬o.1<=n:=by omega
  simp[upTo,past,List.takeWhile_cons,List.dropWhile_cons,this]
 | o::l,k+1,hk,h1,h2=>by have h:=h1 0 (by omega);simp only[List.getD_cons_zero]at h;obtain⟨e1,e2⟩:=Zdg (n:=n) (l:=l) (k:=k) (by simpa using hk) (λj hj=>by have:=h1 (j+1) (by omega);simpa using this) (λhj=>by have:=h2 (by simpa using hj);simpa using this);simp only[upTo,past]at e1 e2⊢;simp[List.takeWhile_cons,List.dropWhile_cons,h,e1,e2]
def Zbb(v:List UInt8):Int×Int:=if 3<(v.length:Int)then(0,1)else((beN v 0:Nat),0)
def Zax(n:Int)(os:List Opt):Int×Int:=match Zl n os with | []=>(0,5)|v::_=>Zbb v
def Z26(n:Int):List UInt8:=(numB 3 n).dropWhile λc=>c == 0
def Z2s(m:Msg)(n:Int):Int×Int:=if chk m=0 then Zax n m.opts else(0,chk m)
def Z95(os:List Opt):List UInt8×Int :=
 if Zl 11 os=[]then([],5)
 else if chkT (Z4a (Zl 11 os)) false=0 then
  (if(Zl 11 os).any (λv=>v.any λc=>c == 47)=true then([],1)else(Z4a (Zl 11 os),0))
 else([],chkT (Z4a (Zl 11 os)) false)
def Zgg(m:Msg):List UInt8×Int:=if chk m=0 then Z95 m.opts else([],chk m)
def outR(m:Msg):Msg×Int:=if chk m=0 then(m,0)else(mNil,chk m)
def Z6n(m:Msg)(n:Int)(vs:List (List UInt8)):Msg:={ m with opts:=Z5k m.opts n vs }
def Z1b(m:Msg)(t:List UInt8):Msg×Int:=if chk m=0 then(if chkT t false=0 then outR (Z6n m 11 (lev t))else(mNil,chkT t false))else(mNil,chk m)
def Zb(m:Msg)(n x:Int):Msg×Int:=if chk m=0 then(if 0<=x/\x<=16777215 then outR (Z6n m n [Z26 x])else(mNil,3))else(mNil,chk m)
abbrev Bk:=Int×Bool×Int
def blkE(b:Bk):Int:=if(0<=b.2.2/\b.2.2<=6)/\0<=b.1/\b.1<=1048575 then 0 else 3
def blkN(b:Bk):Int:=16*b.1+b.2.2+(if b.2.1=true then 8 else 0)
def nBlk(n:Int):Bk:=(n / 16,decide (n / 8 % 2=1),n % 8)
def Z67(m:Msg):Bk×Int:=if(Z2s m 23).2=0 then(if blkE (nBlk (Z2s m 23).1)=0 then(nBlk (Z2s m 23).1,0)else((0,false,0),blkE (nBlk (Z2s m 23).1)))else((0,false,0),(Z2s m 23).2)
def Ze(m:Msg)(b:Bk):Msg×Int:=if chk m=0 then(if blkE b=0 then Zb m 23 (blkN b)else(mNil,blkE b))else(mNil,chk m)
end Go.Proofs.Y
namespace Go.Sx
open Go
theorem Z2t{P:Program}(w:World)(dT sT ty elem:TypeId)(sz:Nat)(g o dLen dCap:Nat)(a:Addr)(sLen sCap:Nat)(cur:Array Value)(t:TypeId)(cs:List Value)(q:Nat)(hq:min sLen dLen=q) (hu:P.underlying dT=some (.slice elem)) (hs:(P.info? elem).map (·.size)=some sz) (hg:w.heap[g]?=some (.cells cur t (0,0))) (hn:cs.length=q*sz) (hsrc:∀j v,cs[j]?=some v->w.cell? (a.add j)=some v) (hfit:o+cs.length<=cur.size) (h1:∀v∈cs,v.oneCell'=true) : (Builtin.copy_ #[dT,sT] ty #[.slice (some ⟨g,o,none⟩) dLen dCap,.slice (some a) sLen sCap]).run P w = .ok (goInt q) (w.setRow g (cur.toList.take o++cs++cur.toList.drop (o+cs.length)).toArray):=by
 have hq':Nat.min sLen dLen=q:=hq;have hl:=run_loadCells_list (P:=P) w a cs hsrc;have hst:=run_storeCells_at P g o t cs 0 cur w hg (by simpa using hfit) h1;cases hr:P.info? elem with
 | none=>simp[hr]at hs
 | some i =>
  have hi:i.size=sz:=by simpa[hr]using hs
  simp[Builtin.copy_,run_underlying hu,Builtin.lenOf,Builtin.firstCells,sizeOf,typeInfo,hr,hi,hq',<- hn,hl,hst]
theorem Zsx{α:Type}(cur cs vs:List α)(a b d:Nat)(h1:a+vs.length=b)(h2:b+cs.length=d)(h3:d<=cur.length) : (cur.take b++cs++cur.drop (b+cs.length)).take a++vs++(cur.take b++cs++cur.drop (b+cs.length)).drop (a+vs.length)=cur.take a++vs++cs++cur.drop d:=by
 subst h1 h2;have e1:(cur.take (a+vs.length)++cs++cur.drop (a+vs.length+cs.length)).take a=cur.take a:=by rw[List.append_assoc,List.take_append_of_le_length (by simp;omega),List.take_take,Nat.min_eq_left (by omega)]
 have e2:(cur.take (a+vs.length)++cs++cur.drop (a+vs.length+cs.length)).drop (a+vs.length)=cs++cur.drop (a+vs.length+cs.length):=by
  have hl:(cur.take (a+vs.length)).length=a+vs.length:=by simp;omega
  rw[List.append_assoc,List.drop_append_of_le_length (by omega),List.drop_eq_nil_of_le (by omega),List.nil_append]
 rw[e1,e2];simp
theorem Zsy{α:Type}(hd vs cs rest:List α)(a:Nat)(h:hd.length+vs.length=a) : (hd++vs++rest).take a++cs++(hd++vs++rest).drop (a+cs.length)=hd++vs++cs++(hd++vs++rest).drop (a+cs.length):=by subst h;rw[List.take_append_of_le_length (by simp),List.take_of_length_le (by simp)]
theorem Zbc(z:Array Value)(n:Nat):(Builtin.zeroCells z n).size=n*z.size:=by simp[Builtin.zeroCells,Nat.mul_comm]
theorem Z7k{n:Nat}:∀{R:List (List Value)} (i:Nat),(∀r∈R,r.length=n)->R.flatten.take (i*n)=(R.take i).flatten
 | [],i,_=>by simp
 | r::R,0,_=>by simp
 | r::R,i+1,h=>by
  have h1:=h r (by simp);have ih:=Z7k (R:=R) i (λx hx=>h x (by simp[hx]));rw[List.flatten_cons,List.take_succ_cons,List.flatten_cons,<- ih,List.take_append,List.take_of_length_le (by rw[h1,Nat.succ_mul];omega)];congr 2
  rw[h1,Nat.succ_mul];omega
theorem Z7l{n:Nat}:∀{R:List (List Value)} (i:Nat),(∀r∈R,r.length=n)->R.flatten.drop (i*n)=(R.drop i).flatten
 | [],i,_=>by simp
 | r::R,0,_=>by simp
 | r::R,i+1,h=>by
  have h1:=h r (by simp);have ih:=Z7l (R:=R) i (λx hx=>h x (by simp[hx]));rw[List.flatten_cons,List.drop_succ_cons,<- ih,List.drop_append,List.drop_eq_nil_of_le (by rw[h1,Nat.succ_mul];omega),List.nil_append];congr 1
  rw[h1,Nat.succ_mul];omega
theorem Zig{ks:List Kd}{R:List (List Value)}(h:∀r∈R,rowOk ks r):∀x∈R.flatten,x.oneCell'=true:=by intro x hx;obtain⟨row,hr,hx⟩:=List.mem_flatten.1 hx;exact(h row hr).one x hx
theorem Zk1(w:World)(r:Option Nat):w.grownBy w r:=⟨rfl,rfl,rfl,Nat.le_refl _,λ_ _ _=>rfl⟩
def Zqz(w w':World)(s v':Value)(ty:Nat)(ks:List Kd)(R:List (List Value)):Prop :=
 owns w' v' ty ks R/\(∀k,Z3 v' k->Z3 s k\/w.heap.size<=k)/\w.grownBy w' s.ownBlock
open Go.Shelf Go.RowKit Go.Lib
theorem Zu3{P:Program}{τ σ K:Nat}(hu:P.underlying σ=some (.slice τ))(hsz:(P.info? τ).map (·.size)=some K)(w:World)(g n c i vb m vc:Nat)(cs vs:List Value)(cur vcur cur2:Array Value)(hi:i<n)(hm:0<m)(hroom:n+m<=c)(hc63:c<=9223372036854775807)(hvb:vb≠g) (hg:w.heap[g]?=some (.cells cur τ (0,0))) (hcs:cur.size=c*K) (hv:w.heap[vb]?=some (.cells vcur τ (0,0))) (hvl:m*K<=vcur.size) (e1:cs=(cur.toList.drop (i*K)).take ((n - i)*K)) (e2:vs=vcur.toList.take (m*K)) (h1c:∀v∈cs,v.oneCell'=true) (h1v:∀v∈vs,v.oneCell'=true) (e3:cur2.toList=cur.toList.take (i*K)++vs++cs++cur.toList.drop ((n+m)*K)) : ∃cur1:Array Value, (∀ty dc sc,(Builtin.copy_ #[σ,σ] ty #[.slice (some ⟨g,(i+m)*K,none⟩) (n+m - (i+m)) dc,.slice (some ⟨g,i*K,none⟩) (n+m - i) sc]).run P w.drew=.ok (goInt ((n - i:Nat):Int)) (w.drew.setRow g cur1)) /\ (∀(W:World),W.heap=(w.drew.setRow g cur1).heap->∀ty dc,(Builtin.copy_ #[σ,σ] ty #[.slice (some ⟨g,i*K,none⟩) (n+m - i) dc,.slice (some ⟨vb,0,none⟩) m vc]).run P W=.ok (goInt m) (W.setRow g cur2)):=by
 have p1:=Nat.add_mul n m K;have p2:=Nat.add_mul i m K;have p3:=Nat.sub_mul n i K;have p4:(n+m)*K<=c*K:=Nat.mul_le_mul_right _ hroom;have p5:i*K<=n*K:=Nat.mul_le_mul_right _ (Nat.le_of_lt hi);have hcl:cs.length=(n - i)*K:=by rw[e1];simp;omega
 have hvl2:vs.length=m*K:=by rw[e2];simp;omega
 have hgd:w.drew.heap[g]?=some (.cells cur τ (0,0)):=hg;have hcp1:∀ty dc sc,(Builtin.copy_ #[σ,σ] ty #[.slice (some ⟨g,(i+m)*K,none⟩) (n+m - (i+m)) dc,.slice (some ⟨g,i*K,none⟩) (n+m - i) sc]).run P w.drew=.ok (goInt ((n - i:Nat):Int)) (w.drew.setRow g (cur.toList.take ((i+m)*K)++cs++cur.toList.drop ((i+m)*K+cs.length)).toArray):=λty dc sc =>
  Z2t (P:=P) w.drew σ σ ty τ K g ((i+m)*K) (n+m - (i+m)) dc ⟨g,i*K,none⟩ (n+m - i) sc cur τ cs (n - i) (by omega) hu hsz hgd hcl (λj v hj=>by
   rw[e1,List.getElem?_take]at hj;split at hj
   ·rw[Addr.add_lit];simp only[World.cell?,hgd];simpa using hj
   ·cases hj) (by rw[hcl];omega) h1c
 obtain⟨cur1,hcur1⟩:∃cur1:Array Value,cur1=(cur.toList.take ((i+m)*K)++cs++cur.toList.drop ((i+m)*K+cs.length)).toArray:=⟨_,rfl⟩
 rw[<- hcur1]at hcp1;have hs1:cur1.size=cur.size:=by rw[hcur1];simp only[List.size_toArray,qy11,List.length_take,List.length_drop,Array.length_toList,hcl];omega
 have hcp2:∀(W:World),W.heap=(w.drew.setRow g cur1).heap->∀ty dc,(Builtin.copy_ #[σ,σ] ty #[.slice (some ⟨g,i*K,none⟩) (n+m - i) dc,.slice (some ⟨vb,0,none⟩) m vc]).run P W=.ok (goInt m) (W.setRow g cur2):=λW hW ty dc=>by
  have hgW:W.heap[g]?=some (.cells cur1 τ (0,0)):=by rw[hW];exact setRow_heap _ _ _ _ _ _ hgd
  have hvW:W.heap[vb]?=some (.cells vcur τ (0,0)):=by rw[hW,setRow_other _ _ _ _ hvb];exact hv
  have:=Z2t (P:=P) W σ σ ty τ K g (i*K) (n+m - i) dc ⟨vb,0,none⟩ m vc cur1 τ vs m (by omega) hu hsz hgW hvl2 (λj v hj=>by
   rw[e2,List.getElem?_take]at hj;split at hj
   ·rw[Addr.add_lit];simp only[World.cell?,hvW,Nat.zero_add];simpa using hj
   ·cases hj) (by rw[hvl2,hs1];omega) h1v
  rw[this];congr 2
  apply Array.toList_inj.1;rw[e3,hcur1];simp only[List.toList_toArray];rw[Zsx cur.toList cs vs (i*K) ((i+m)*K) ((n+m)*K) (by rw[hvl2];omega) (by rw[hcl];omega) (by simp;omega)]
 exact⟨cur1,hcp1,hcp2⟩
theorem Zun{P:Program}{τ σ ι K BY:Nat}(hu:P.underlying σ=some (.slice τ))(hui:P.underlying ι=some (.int .i64)){i0:TypeInfo}{z:Value}(hi0:P.info? τ=some i0)(hk:i0.size=K)(hby:i0.bytes=BY)(hB:1<=BY)(hK0:0<K)(hz:i0.zero=some z)(hzs:z.cells.size=K)(w:World)(g n c i vb m vc:Nat)(hd cs vs:List Value)(cur vcur:Array Value)(hi:i<n)(hm:0<m)(hnc:n<=c)(hroom:c<n+m)(hbig:(n+m)*BY<=140737488355328) (hg:w.heap[g]?=some (.cells cur τ (0,0))) (hcs:cur.size=c*K) (hv:w.heap[vb]?=some (.cells vcur τ (0,0))) (hvl:m*K<=vcur.size) (e0:hd=cur.toList.take (i*K)) (e1:cs=(cur.toList.drop (i*K)).take ((n - i)*K)) (e2:vs=vcur.toList.take (m*K)) (h1c:∀v∈cs,v.oneCell'=true) (h1v:∀v∈vs,v.oneCell'=true) : ∃(G:Nat) (ROW cur2 cur3:Array Value),n+m<=G/\G<=maxLen /\ (∀ty,(Builtin.append_ #[σ,ι] ty #[.slice (some ⟨g,0,none⟩) i c,.int .i64 ((n:Int)+(m:Int) - (i:Int))]).run P w=.ok (.slice (some ⟨w.heap.size,0,none⟩) (n+m) G) (w.drew.alloc (.cells ROW τ))) /\ (∀(W:World),W.heap=(w.drew.alloc (.cells ROW τ)).heap->∀ty dc,(Builtin.copy_ #[σ,σ] ty #[.slice (some ⟨w.heap.size,i*K,none⟩) (n+m - i) dc,.slice (some ⟨vb,0,none⟩) m vc]).run P W=.ok (goInt m) (W.setRow w.heap.size cur2)) /\ (∀(W:World),W.heap=((w.drew.alloc (.cells ROW τ)).setRow w.heap.size cur2).heap->∀ty dc sc,(Builtin.copy_ #[σ,σ] ty #[.slice (some ⟨w.heap.size,(i+m)*K,none⟩) (n+m - (i+m)) dc,.slice (some ⟨g,i*K,none⟩) (n - i) sc]).run P W=.ok (goInt ((n - i:Nat):Int)) (W.setRow w.heap.size cur3)) /\ cur3.size=G*K/\cur3.toList.take ((n+m)*K)=hd++vs++cs /\ (∀W:World,W.heap=((w.drew.alloc (.cells ROW τ)).setRow w.heap.size cur2).heap->W.os=w.os->W.tape=w.tape->W.output=w.output->(W.setRow w.heap.size cur3).heap[w.heap.size]?=some (.cells cur3 τ (0,0))/\w.grownBy (W.setRow w.heap.size cur3) none):=by
 have hsz:(P.info? τ).map (·.size)=some K:=by rw[hi0];exact congrArg some hk
 have p1:=Nat.add_mul n m K;have p2:=Nat.add_mul i m K;have p3:=Nat.sub_mul n i K;have p4:n*K<=c*K:=Nat.mul_le_mul_right _ hnc;have p6:(n+m)*1<=(n+m)*BY:=Nat.mul_le_mul_left _ hB;have p7:=Nat.sub_mul (n+m) i K;have p0:(n+m - i)*BY<=(n+m)*BY:=Nat.mul_le_mul_right _ (by omega);have p5:i*K<=n*K:=Nat.mul_le_mul_right _ (Nat.le_of_lt hi);have hbw:g<w.heap.size:=(Array.getElem?_eq_some_iff.1 hg).1;have hvw:vb<w.heap.size:=(Array.getElem?_eq_some_iff.1 hv).1;have hkk:(n:Int)+(m:Int) - (i:Int)=((n+m - i:Nat):Int):=by omega
 have hik:i+(n+m - i)=n+m:=by omega
 have hgd:w.drew.heap[g]?=some (.cells cur τ (0,0)):=hg;have hhl:hd.length=i*K:=by rw[e0];simp;omega
 have hold:(Builtin.firstCells i0.size i (.slice (some ⟨g,0,none⟩) i c)).run P w.drew=.ok hd.toArray w.drew:=by
  rw[hk];exact run_firstCells_some w.drew K i ⟨g,0,none⟩ i c hd hhl (λj v hj=>by
   rw[Addr.add_lit];rw[e0,List.getElem?_take]at hj;split at hj
   ·simp only[World.cell?,hgd,Nat.zero_add];simpa using hj
   ·cases hj)
 have hrz:∀ty,(Builtin.append_ #[σ,ι] ty #[.slice (some ⟨g,0,none⟩) i c,.int .i64 ((n:Int)+(m:Int) - (i:Int))]).run P w =
   .ok (.slice (some ⟨w.heap.size,0,none⟩) (n+m) (grownCap w (n+m) c τ)) (w.drew.alloc (.cells (hd.toArray++Builtin.zeroCells z.cells (n+m - i)++Builtin.zeroCells z.cells (grownCap w (n+m) c τ - (n+m))) τ)):=λty=>by
  have h:=Lib.run_append_grow_zeros w σ ι ty τ i0 z .i64 .i64 hu hui hi0 hz (some ⟨g,0,none⟩) i c hd hold (n+m - i) (by omega) (by rw[hk];exact hK0) (by omega) (by omega) (by rw[hby];omega) (by rw[hby,hik];exact growslice_fits hroom hbig);rw[hik]at h;rw[hkk];exact h
 obtain⟨G,hG⟩:∃G,G=grownCap w (n+m) c τ:=⟨_,rfl⟩
 obtain⟨ROW,hROW⟩:∃ROW:Array Value,ROW=hd.toArray++Builtin.zeroCells z.cells (n+m - i)++Builtin.zeroCells z.cells (G - (n+m)):=⟨_,rfl⟩
 rw[<- hG]at hrz;rw[<- hROW]at hrz;have hGn:n+m<=G:=by rw[hG];exact grownCap_ge w _ _ _
 have hG63:G<=maxLen:=by have:=grownCap_le_maxLen w (n+m) c τ (by unfold maxLen;omega);rw[<- hG]at this;exact this
 have hG63':G<=9223372036854775807:=hG63;have p8:=Nat.sub_mul G (n+m) K;have p9:(n+m)*K<=G*K:=Nat.mul_le_mul_right _ hGn;have hRl:ROW.size=G*K:=by rw[hROW];simp only[Array.size_append,List.size_toArray,Zbc,hzs,hhl];omega
 have hRt:ROW.toList.take (i*K)=hd:=by rw[hROW];simp only[Array.toList_append,List.toList_toArray,List.append_assoc];rw[List.take_append_of_le_length (by omega),List.take_of_length_le (by omega)]
 have hcl:cs.length=(n - i)*K:=by rw[e1];simp;omega
 have hvl2:vs.length=m*K:=by rw[e2];simp;omega
 obtain⟨W1,hW1⟩:∃W1,W1=w.drew.alloc (.cells ROW τ):=⟨_,rfl⟩
 rw[<- hW1]at hrz;have hN:W1.heap[w.heap.size]?=some (.cells ROW τ (0,0)):=by rw[hW1];exact heap_alloc_new w.drew _
 have hO:∀k,k<w.heap.size->W1.heap[k]?=w.heap[k]?:=λk hk=>by rw[hW1];exact heap_alloc_old w.drew _ hk
 obtain⟨cur2,hcur2⟩:∃cur2:Array Value,cur2=(ROW.toList.take (i*K)++vs++ROW.toList.drop (i*K+vs.length)).toArray:=⟨_,rfl⟩
 obtain⟨cur3,hcur3⟩:∃cur3:Array Value,cur3=(cur2.toList.take ((i+m)*K)++cs++cur2.toList.drop ((i+m)*K+cs.length)).toArray:=⟨_,rfl⟩
 have hs2:cur2.size=ROW.size:=by rw[hcur2];simp only[List.size_toArray,qy11,List.length_take,List.length_drop,Array.length_toList,hvl2];omega
 have hs3:cur3.size=ROW.size:=by rw[hcur3];simp only[List.size_toArray,qy11,List.length_take,List.length_drop,Array.length_toList,hcl,hs2];omega
 have ht3:cur3.toList.take ((n+m)*K)=hd++vs++cs:=by rw[hcur3,hcur2];simp only[List.toList_toArray];rw[hRt,Zsy hd vs cs _ ((i+m)*K) (by omega)];rw[List.take_append_of_le_length (by simp only[qy11];omega),List.take_of_length_le (by simp only[qy11];omega)]
 have hcpA:∀(W:World),W.heap=W1.heap->∀ty dc,(Builtin.copy_ #[σ,σ] ty #[.slice (some ⟨w.heap.size,i*K,none⟩) (n+m - i) dc,.slice (some ⟨vb,0,none⟩) m vc]).run P W=.ok (goInt m) (W.setRow w.heap.size cur2):=λW hW ty dc=>by
  rw[hcur2];exact Z2t (P:=P) W σ σ ty τ K w.heap.size (i*K) (n+m - i) dc ⟨vb,0,none⟩ m vc ROW τ vs m (by omega) hu hsz (by rw[hW];exact hN) hvl2 (λj v hj=>by
   rw[e2,List.getElem?_take]at hj;split at hj
   ·rw[Addr.add_lit];simp only[World.cell?,hW,hO vb hvw,hv,Nat.zero_add];simpa using hj
   ·cases hj) (by rw[hvl2,hRl];omega) h1v
 have hcpB:∀(W:World),W.heap=(W1.setRow w.heap.size cur2).heap->∀ty dc sc,(Builtin.copy_ #[σ,σ] ty #[.slice (some ⟨w.heap.size,(i+m)*K,none⟩) (n+m - (i+m)) dc,.slice (some ⟨g,i*K,none⟩) (n - i) sc]).run P W=.ok (goInt ((n - i:Nat):Int)) (W.setRow w.heap.size cur3):=λW hW ty dc sc=>by
  rw[hcur3];exact Z2t (P:=P) W σ σ ty τ K w.heap.size ((i+m)*K) (n+m - (i+m)) dc ⟨g,i*K,none⟩ (n - i) sc cur2 τ cs (n - i) (by omega) hu hsz (by rw[hW];exact setRow_heap _ _ _ _ _ _ hN) hcl (λj v hj=>by
   rw[e1,List.getElem?_take]at hj;split at hj
   ·rw[Addr.add_lit];simp only[World.cell?,hW,setRow_other _ _ _ _ (Nat.ne_of_lt hbw),hO g hbw,hg];simpa using hj
   ·cases hj) (by rw[hcl,hs2,hRl];omega) h1c
 subst hW1;refine⟨G,ROW,cur2,cur3,hGn,hG63,hrz,hcpA,hcpB,by rw[hs3,hRl],ht3,λW hW ho ht hou=>⟨setRow_heap _ _ _ _ _ _ (by rw[hW];exact setRow_heap _ _ _ _ _ _ hN),ho,ht,hou,?_,λk hk _=>?_⟩⟩
 ·rw[setRow_size,hW,setRow_size];exact Nat.le_of_lt (by show w.heap.size<(w.heap.push _).size;rw[Array.size_push];omega)
 ·rw[setRow_other _ _ _ _ (by omega),hW,setRow_other _ _ _ _ (by omega)];exact hO k hk
def Zn3(P:Program)(f:FuncId):Prop:=∀(w:World) (b:Option Addr) (n c i:Nat) (vb:Option Addr) (vc:Nat),i<=n->n<=c->(b=none->c=0) ->
  Calls P f #[.slice b n c,.int .i64 i,.slice vb 0 vc] w λe w'=>e=.returned (.slice b n c)/\w'=w
def Zr0(P:Program)(f:FuncId)(σ:Nat):Prop:=∀(w:World) (b:Option Addr) (n c:Nat) (vb:Option Addr) (m vc:Nat),0<m->n<=c->(b=none->c=0)->∀(v':Value) (w':World),
  (∀ty,(Builtin.append_ #[σ,σ] ty #[.slice b n c,.slice vb m vc]).run P w=.ok v' w') ->
  Calls P f #[.slice b n c,.int .i64 n,.slice vb m vc] w λe w1=>e=.returned v'/\w1=w'
def Zih(P:Program)(f ov:FuncId)(σ K:Nat):Prop:=∀(w:World) (g n c i vb m vc:Nat) (cur1 cur2:Array Value),i<n->0<m->n+m<=c->c<=9223372036854775807 ->
  (∀o lb cb,(callFunc ov #[.slice (some ⟨vb,0,none⟩) m vc,.slice (some ⟨g,o,none⟩) lb cb]).run P w=.ok (.value (.bool false)) w) ->
  (∀ty dc sc,(Builtin.copy_ #[σ,σ] ty #[.slice (some ⟨g,(i+m)*K,none⟩) (n+m - (i+m)) dc,.slice (some ⟨g,i*K,none⟩) (n+m - i) sc]).run P w.drew=.ok (goInt ((n - i:Nat):Int)) (w.drew.setRow g cur1)) ->
  (∀(W:World),W.heap=(w.drew.setRow g cur1).heap->∀ty dc,(Builtin.copy_ #[σ,σ] ty #[.slice (some ⟨g,i*K,none⟩) (n+m - i) dc,.slice (some ⟨vb,0,none⟩) m vc]).run P W=.ok (goInt m) (W.setRow g cur2)) ->
  Calls P f #[.slice (some ⟨g,0,none⟩) n c,.int .i64 i,.slice (some ⟨vb,0,none⟩) m vc] w λe w'=>e=.returned (.slice (some ⟨g,0,none⟩) (n+m) c)/\w'=w.drew.setRow g cur2
def Zn4(P:Program)(f:FuncId)(τ σ ι K:Nat):Prop:=∀(w:World) (g n c i vb m vc G:Nat) (ROW cur2 cur3:Array Value),i<n->0<m->n<=c->c<n+m->n+m<=G->G<=9223372036854775807 ->
  (∀ty,(Builtin.append_ #[σ,ι] ty #[.slice (some ⟨g,0,none⟩) i c,.int .i64 ((n:Int)+(m:Int) - (i:Int))]).run P w=.ok (.slice (some ⟨w.heap.size,0,none⟩) (n+m) G) (w.drew.alloc (.cells ROW τ))) ->
  (∀(W:World),W.heap=(w.drew.alloc (.cells ROW τ)).heap->∀ty dc,(Builtin.copy_ #[σ,σ] ty #[.slice (some ⟨w.heap.size,i*K,none⟩) (n+m - i) dc,.slice (some ⟨vb,0,none⟩) m vc]).run P W=.ok (goInt m) (W.setRow w.heap.size cur2)) ->
  (∀(W:World),W.heap=((w.drew.alloc (.cells ROW τ)).setRow w.heap.size cur2).heap->∀ty dc sc,(Builtin.copy_ #[σ,σ] ty #[.slice (some ⟨w.heap.size,(i+m)*K,none⟩) (n+m - (i+m)) dc,.slice (some ⟨g,i*K,none⟩) (n - i) sc]).run P W=.ok (goInt ((n - i:Nat):Int)) (W.setRow w.heap.size cur3)) ->
  ∀Q:Ending->World->Prop,
  (∀W:World,W.heap=((w.drew.alloc (.cells ROW τ)).setRow w.heap.size cur2).heap->W.os=w.os->W.tape=w.tape->W.output=w.output->Q (.returned (.slice (some ⟨w.heap.size,0,none⟩) (n+m) G)) (W.setRow w.heap.size cur3)) ->
  Calls P f #[.slice (some ⟨g,0,none⟩) n c,.int .i64 i,.slice (some ⟨vb,0,none⟩) m vc] w Q
theorem insN{n i m:Nat}(hi:i<n)(hm:0<m)(hc:n+m<=9223372036854775807):¬((m:Int)=0)/\¬((i:Int)=(n:Int))/\IntKind.i64.wrap ((i:Int)+(m:Int))=(i:Int)+(m:Int)/\IntKind.i64.wrap ((n:Int)+(m:Int))=(n:Int)+(m:Int)/\(0:Int)<=(i:Int)+(m:Int)/\i<=n/\((i:Int)+(m:Int)).toNat=i+m/\((n:Int)+(m:Int)).toNat=n+m/\(i:Int)<=(n:Int)+(m:Int)/\(i:Int)<=(n:Int):=by refine⟨?_,?_,by rw[IntKind.wrap_i64];omega,by rw[IntKind.wrap_i64];omega,?_,?_,?_,?_,?_,?_⟩<;>omega
theorem Zsz{P:Program}{f ov:FuncId}{τ σ ι bt K BY:Nat}{ks:List Kd}(hu:P.underlying σ=some (.slice τ))(hui:P.underlying ι=some (.int .i64))(hI:(P.info? τ).map (λi=>(i.size,i.bytes,i.zero.map (·.cells.size)))=some (K,BY,some K))(hK:K=ks.length)(hK0:0<K)(hB:0<BY) (hOV:∀args w,(callFunc ov args).run P w=((Extern.SlicesOverlaps.overlaps #[σ,σ] #[bt] args).run P w).andThen λv w'=>.ok (.value v) w') (h1:Zn3 P f) (h2:Zr0 P f σ) (h3:Zih P f ov σ K) (h4:Zn4 P f τ σ ι K) (w:World) (s v:Value) (i:Nat) (R V:List (List Value)) (hs:owns w s τ ks R) (hv:owns w v τ ks V) (hne:∀k,Z3 s k->Z3 v k->False) (hi:i<=R.length) (hb:(R.length+V.length)*BY<=140737488355328) : Calls P f #[s,.int .i64 i,v] w λe w'=>∃v',e=.returned v'/\Zqz w w' s v' τ ks (R.take i++V++R.drop i):=by
 subst hK;obtain⟨inf,hinf,hI⟩:=Option.map_eq_some_iff.1 hI;have hk:inf.size=ks.length:=congrArg (·.1) hI;have hby:inf.bytes=BY:=congrArg (·.2.1) hI;obtain⟨z,hz,hzs⟩:=Option.map_eq_some_iff.1 (congrArg (·.2.2) hI);have hsz:(P.info? τ).map (·.size)=some ks.length:=by rw[hinf];exact congrArg some hk
 have hs':=hs;have hv':=hv;obtain⟨hk1,hl1,ho⟩:=hs;obtain⟨hk2,hl2,hov⟩:=hv;have hrl1:∀r∈R,r.length=ks.length:=λr hr=>(hk1 r hr).length;have hrl2:∀r∈V,r.length=ks.length:=λr hr=>(hk2 r hr).length;have hbase:∀{v:Value} {n:Nat} {xs:List Value},((v=.slice none 0 0/\n=0)\/∃g cap cur,v=.slice (some ⟨g,0,none⟩) n cap/\0<=g/\w.heap[g]?=some (.cells cur τ (0,0))/\n<=cap/\cap<=maxLen/\cur.size=cap*ks.length/\cur.toList.take (n*ks.length)=xs)->∃b c,v=.slice b n c/\n<=c/\(b=none->c=0):=by
  intro v n xs h;rcases h with⟨rfl,rfl⟩|⟨g,cap,cur,rfl,-,-,h,-⟩
  ·exact⟨none,0,rfl,Nat.le_refl _,λ_=>rfl⟩
  ·exact⟨some ⟨g,0,none⟩,cap,rfl,h,λh=>by cases h⟩
 by_cases hV:V=[]
 ·subst hV;obtain⟨b,c,rfl,hc1,hc2⟩:=hbase ho;obtain⟨vb,vc,rfl,-,-⟩:=hbase hov;refine(h1 w b R.length c i vb vc hi hc1 hc2).mono ?_;rintro e w' ⟨rfl,rfl⟩;exact⟨_,rfl,by simpa using hs',λk hk=>.inl hk,Zk1 _ _⟩
 have hVl:0<V.length:=List.length_pos_iff.2 hV;by_cases hin:i=R.length
 ·subst hin;obtain⟨b,c,rfl,hc1,hc2⟩:=hbase ho;obtain⟨vb,vc,rfl,-,-⟩:=hbase hov;obtain⟨v',w',e1,e2,e3,e4⟩:=Zbj (ks:=ks) (ty:=σ) hu hinf hz hk hzs hby hK0 hs' hv'.reads hb hB;have hrun:∀ty,(Builtin.append_ #[σ,σ] ty #[.slice b R.length c,.slice vb V.length vc]).run P w=.ok v' w':=λty=>e1;refine(h2 w b R.length c vb V.length vc hVl hc1 hc2 v' w' hrun).mono ?_;rintro e w1 ⟨rfl,rfl⟩;exact⟨_,rfl,by simpa using e2,e4,e3⟩
 have hin:i<R.length:=by omega
 rcases ho with⟨-,hn⟩|⟨g,c,cur,rfl,-,hg,hnc,hcm,hcs,htk⟩
 ·omega
 rcases hov with⟨-,hn⟩|⟨vb,vc,vcur,rfl,-,hvg,hvn,-,hvs,hvt⟩
 ·omega
 replace hcs:cur.size=c*ks.length:=hcs;replace hvs:vcur.size=vc*ks.length:=hvs;replace htk:cur.toList.take (R.length*ks.length)=R.flatten:=htk;replace hvt:vcur.toList.take (V.length*ks.length)=V.flatten:=hvt;replace hl1:R.flatten.length=R.length*ks.length:=hl1;have hcl2:cur.toList.length=c*ks.length:=by rw[Array.length_toList];exact hcs
 replace hl2:V.flatten.length=V.length*ks.length:=hl2;have hvb:vb≠g:=λe=>hne g rfl (by rw[<- e];rfl);have t1:cur.toList.take (i*ks.length)=(R.take i).flatten:=by rw[<- Z7k i hrl1,<- htk,List.take_take,Nat.min_eq_left (Nat.mul_le_mul_right _ hi)]
 have t2:(cur.toList.drop (i*ks.length)).take ((R.length - i)*ks.length)=(R.drop i).flatten:=by rw[<- Z7l i hrl1,<- htk,List.drop_take,Nat.sub_mul]
 have o1:∀x∈(R.drop i).flatten,x.oneCell'=true:=Zig λr hr=>hk1 r (List.mem_of_mem_drop hr);have o2:∀x∈V.flatten,x.oneCell'=true:=Zig hk2;have hrows:∀r∈R.take i++V++R.drop i,rowOk ks r:=by
  intro r hr;simp only[qy13]at hr;rcases hr with(hr|hr)|hr
  ·exact hk1 r (List.mem_of_mem_take hr)
  ·exact hk2 r hr
  ·exact hk1 r (List.mem_of_mem_drop hr)
 have hlen:(R.take i++V++R.drop i).length=R.length+V.length:=by simp;omega
 have hfl:(R.take i++V++R.drop i).flatten.length=(R.length+V.length)*ks.length:=by have:=Zj (n:=ks.length) (λr hr=>(hrows r hr).length);rw[hlen]at this;exact this
 by_cases hroom:R.length+V.length<=c
 ·have p4:=Nat.mul_le_mul_right ks.length hroom;obtain⟨cur2,hcur2⟩:∃cur2:Array Value,cur2=(cur.toList.take (i*ks.length)++V.flatten++(R.drop i).flatten++cur.toList.drop ((R.length+V.length)*ks.length)).toArray:=⟨_,rfl⟩
  obtain⟨cur1,c1,c2⟩:=Zu3 hu hsz w g R.length c i vb V.length vc (R.drop i).flatten V.flatten cur vcur cur2 hin hVl hroom hcm hvb hg hcs hvg (by rw[hvs];exact Nat.mul_le_mul_right _ hvn) t2.symm hvt.symm o1 o2 (by rw[hcur2]);refine(h3 w g R.length c i vb V.length vc cur1 cur2 hin hVl hroom hcm (λo lb cb=>by rw[hOV,Lib.run_overlaps_apart w σ bt τ hu ks.length (λw=>by simp[sizeOf,typeInfo,hinf,hk]) ⟨vb,0,none⟩ ⟨g,o,none⟩ V.length vc lb cb hvb τ τ vcur.size cur.size (by simp[World.shape?,hvg]) (by simp[World.shape?,hg]) (by rw[hcs];exact Nat.pos_iff_ne_zero.1 (Nat.mul_pos (by omega) hK0)) (by simp[World.frozen?,hvg]) (by simp[World.frozen?,hvg])];rfl) c1 c2).mono ?_
  rintro e w' ⟨rfl,rfl⟩;have hgd:w.drew.heap[g]?=some (.cells cur τ (0,0)):=hg;refine⟨_,rfl,⟨hrows,?_,.inr ⟨g,c,cur2,by rw[hlen],Nat.zero_le _,setRow_heap _ _ _ _ _ _ hgd,by omega,hcm,?_,?_⟩⟩,λk hk=>.inl hk,rfl,rfl,rfl,by rw[setRow_size];exact Nat.le_refl _,λk hk hkr=>setRow_other _ _ _ _ (λe=>hkr (by rw[e];rfl))⟩
  ·rw[hfl,hlen]
  ·show cur2.size=c*ks.length
   rw[hcur2];have:(cur.toList.take (i*ks.length)++V.flatten++(R.drop i).flatten).length=(R.length+V.length)*ks.length:=by rw[t1,<- hfl];simp[List.flatten_append]
   rw[List.size_toArray,qy11,this,List.length_drop,hcl2];omega
  ·have:cur.toList.take (i*ks.length)++V.flatten++(R.drop i).flatten=(R.take i++V++R.drop i).flatten:=by
    rw[t1];simp[List.flatten_append]
   show cur2.toList.take (_*ks.length)=_
   rw[hcur2,List.toList_toArray,this,hlen,List.take_append_of_le_length (by omega),List.take_of_length_le (by omega)]
 ·obtain⟨G,ROW,cur2,cur3,a1,a2,a3,a4,a5,q3,q4,a6⟩:=Zun hu hui hinf hk hby hB hK0 hz hzs w g R.length c i vb V.length vc (R.take i).flatten (R.drop i).flatten V.flatten cur vcur hin hVl hnc (by omega) hb hg hcs hvg (by rw[hvs];exact Nat.mul_le_mul_right _ hvn) t1.symm t2.symm hvt.symm o1 o2;refine h4 w g R.length c i vb V.length vc G ROW cur2 cur3 hin hVl hnc (by omega) a1 a2 a3 a4 a5 _ λW hW ho ht hou=>?_;obtain⟨q5,q6⟩:=a6 W hW ho ht hou;refine⟨_,rfl,⟨hrows,?_,.inr ⟨w.heap.size,G,cur3,by rw[hlen],Nat.zero_le _,q5,by omega,a2,q3,?_⟩⟩,λk hk=>.inr ?_,q6.os,q6.tape,q6.output,q6.size,λk hk _=>q6.block k hk (by simp)⟩
  ·rw[hfl,hlen]
  ·rw[hlen]
   show cur3.toList.take ((R.length+V.length)*ks.length)=_
   rw[q4];simp[List.flatten_append]
  ·have:w.heap.size=k:=Option.some.inj hk;omega
end Go.Sx
namespace Go.Proofs.Y
open Go Go.Sx Go.Shelf Go.RowKit Go.Lib
set_option maxRecDepth 100000 in
theorem Zn5:Zn3 Tryz.prog 98:=by
 intro w b n c i vb vc hi hc hb;go_enter Tryz.func98,Tryz.ntmps98
 go_wp2
 all_goals (go_ret;exact⟨rfl,rfl⟩)
set_option maxRecDepth 100000 in
theorem Zps:Zr0 Tryz.prog 98 22:=by
 intro w b n c vb m vc hm hc hb v' w' hrun;have hz1:¬((m:Int)=0):=by omega
 go_enter Tryz.func98,Tryz.ntmps98
 go_wp2_with (at_builtin;refine Lib.wpList_append_run _ rfl _ _ _ _ rfl _ _ rfl rfl _ _ (hrun _) ?_)
 all_goals (go_ret;exact⟨rfl,rfl⟩)
set_option maxRecDepth 100000 in
theorem Zk2:Zih Tryz.prog 98 121 22 2:=by
 intro w g n c i vb m vc cur1 cur2 hi hm hroom hc63 hov hcp1 hcp2;obtain⟨hz1,hz2,hw1,hw2,hb1,hin,htn,htn2,hb3,-⟩:=insN hi hm (by omega);have hb2:¬(c=i+m):=by omega
 have hb4:¬(c=i):=by omega
 have mixed:Tryz.prog.follows Departure.mixedOrders=true:=by kernel_rfl
 go_enter Tryz.func98,Tryz.ntmps98
 go_wp2_with (simp only[hov])
 go_region_law_o (refine step_copy_runI rfl _ _ 22 22 rfl _ _ (by simp[Act.eval,Act.put]) (by simp[Act.eval,Act.put]) (hcp1 _ _ _) ?_)
 go_wp2_with (at_builtin;refine wpList_copy_runI _ rfl _ _ 22 22 rfl _ _ rfl rfl (hcp2 _ rfl _ _) ?_)
 go_ret
 first|exact⟨rfl,rfl⟩|exact⟨rfl,by rw[setRow_setRow]⟩
set_option maxRecDepth 100000 in
theorem Zn6:Zn4 Tryz.prog 98 74 22 3 2:=by
  intro w g n c i vb m vc G ROW cur2 cur3 hi hm hnc hroom hGn hG63 hrz hcpA hcpB Q hfin;obtain⟨hz1,hz2,hw1,-,hb1,hin,htn,-,-,hb3⟩:=insN hi hm (by omega);have hz3:(c:Int)<(n:Int)+(m:Int):=by omega
  have hGi:¬(G=i):=by omega
  have hGim:¬(G=i+m):=by omega
  have hci:¬(c=i):=by omega
  have mixed:Tryz.prog.follows Departure.mixedOrders=true:=by kernel_rfl
  have hE1:((w.alloc (.cells ROW 74)).drew).heap=(w.drew.alloc (.cells ROW 74)).heap:=rfl;have hF1:(((w.alloc (.cells ROW 74)).drew.setRow w.heap.size cur2).drew).heap=((w.drew.alloc (.cells ROW 74)).setRow w.heap.size cur2).heap:=rfl;go_enter Tryz.func98,Tryz.ntmps98
  go_wp2_with (first
    | (at_builtin;refine Lib.wpList_append_run _ rfl _ _ _ _ rfl _ _ rfl rfl _ _ (hrz _) ?_)
    | (at_builtin;refine wpList_copy_runI _ rfl _ _ 22 22 rfl _ _ rfl rfl (hcpA _ hE1 _ _) ?_)
    | (at_builtin;refine wpList_copy_runI _ rfl _ _ 22 22 rfl _ _ rfl rfl (hcpB _ hF1 _ _ _) ?_))
  go_region_law_o (refine step_copy_runI rfl _ _ 22 22 rfl (.slice (some ⟨w.heap.size,(i+m)*2,none⟩) (n+m - (i+m)) (G - (i+m))) (.slice (some ⟨g,i*2,none⟩) (n - i) (c - i)) (by simp[Act.eval,Act.put]) (by simp[Act.eval,Act.put]) (hcpB _ hF1 3 (G - (i+m)) (c - i)) ?_)
  go_wp2
  exact hfin _ rfl rfl rfl rfl
theorem Zn7(w:World)(s v:Value)(i:Nat)(R V:List (List Value))(hs:owns w s 74 [.int .i64,.str] R)(hv:owns w v 74 [.int .i64,.str] V)(hne:∀k,Z3 s k->Z3 v k->False)(hi:i<=R.length)(hb:(R.length+V.length)*24<=140737488355328) : Calls Tryz.prog 98 #[s,.int .i64 i,v] w λe w'=>∃v',e=.returned v'/\Zqz w w' s v' 74 [.int .i64,.str] (R.take i++V++R.drop i) :=
 Zsz (K:=2) Tryz.underlying22 Tryz.underlying3 (by kernel_rfl) rfl (by decide) (by decide) (λargs w=>run_callFunc_extern Tryz.func121 (by kernel_rfl) (by kernel_rfl) (by kernel_rfl) (e:=Extern.SlicesOverlaps.overlaps #[22,22] #[4]) (by kernel_rfl) args w) Zn5 Zps Zk2 Zn6 w s v i R V hs hv hne hi hb
