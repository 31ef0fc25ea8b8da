/- By an AI agent. -/
import Derived.Test.YtimapehenhbloaaGreatDoorH20
import Derived.Lib.Overlaps
import Derived.Shelf.Spec.SlicesInsert
import Derived.Lib.AppendZerosOnto
set_option linter.all false
set_option maxHeartbeats 20000000
set_option maxRecDepth 100000
open Nat renaming reduceAdd→ra
open List renaming nil_append→ϐ,map_append→ϒ,length_nil→ϖ,length_cons→ϗ,take_length→Ϙ,take_append_of_le_length→ϙ,filter_append→Ϛ,pairwise_cons→Ϝ,take_of_length_le→Ϡ,mem_append_right→Ϥ,length_take→Ϧ,take_succ_cons→Ϩ,take_add_one→ϩ,getElem?_map→Ϫ,flatten_cons→ϫ,filter_cons→ϭ,drop_eq_nil_of_le→ϯ,append_nil→ϱ,length_filter_le→ϲ,mem_append_left→ϳ,mem_iff_getElem→Ϸ,filter_eq_self→ϸ,mem_cons→Ϲ,append_assoc→β,drop_length→δ,filter_nil→ε,drop_drop→η,take_take→θ,map_drop→μ,take→ν,cons→ξ
open Go renaming Value→ϑ,World→ϣ,Calls→ϧ
open Bool renaming true→ϓ,false→ϔ,noConfusion→ϥ,and_eq_true→γ,or_eq_true→ζ
open Go.Proofs.Tryz renaming prog→ϕ
open Nat renaming le_refl→Ϟ,le_trans→Ϯ,succ_mul→ϰ,lt_trichotomy→ϻ,lt_trans→π
open Option renaming mem_toList→Ϣ,none→Ϭ,some→Ϻ
namespace Go.Proofs.Y
open Go.Sx
abbrev Pk:=Bool×Int×Int×By×By
def encP(p:Pk):List ϑ:=[.int .i64 3,.bool p.1,.bool ϔ,.bool ϔ,.bool ϔ,.int .i64 p.2.1,.int .i64 p.2.2.1,.int .i64 0,.int .i64 0,.string ⟨([]:By).toArray⟩,.string ⟨p.2.2.2.1.toArray⟩,.string ⟨p.2.2.2.2.toArray⟩,.slice Ϭ 0 0,.slice Ϭ 0 0]
abbrev kP:List Kd:=[.int .i64,.bool,.bool,.bool,.bool,.int .i64,.int .i64,.int .i64,.int .i64,.str,.str,.str,.oth,.oth]
abbrev Z12v(w:ϣ)(v:ϑ)(l:List Pk):Prop:=reads w v kP (l.map encP)
variable(w:ϣ)
def Z6(ks:List Kd):reads w (.slice Ϭ 0 0) ks []:=⟨O1,Ϭ,0,rfl,⟨λ_=>rfl,Ϟ _⟩,ϟ rfl⟩
abbrev Z1dz(w:ϣ)(v:ϑ)(l:List Fl):Prop:=owns w v 122 kF (l.map encF)
def Z1z(v:ϑ)(l:List Fl)(hv:Zi w v l)(hl:l.length<1000000000):ϧ ϕ 119 #[sc1 v] w λe w'=>∃v',e=.returned (sc1 v')/\Z1dz w' v' l/\(∀k,Z1 v' k->w.heap.size<=k)/\Mod [] w w':=by
 refine Wr (J:=[.v v,.r (l.map encF)]) Z3c ?_;simp only[QR,ra,ϐ];refine⟨λh w' hr=>?_,λh v1=>⟨O,λv2 w' hr=>?_⟩⟩
 ·have hn:=List.map_eq_nil_iff.1 (Z61 h hv);subst hn;refine⟨_,rfl,hr.at_ 0 rfl,λk hk=>?_,hr.mod⟩;rcases hr.own _ (qy8 ..) rfl k hk with h|h
  ·exact h
  simp at h
 refine⟨v2,rfl,hr.at_ 0 rfl,λk hk=>?_,hr.mod⟩;rcases hr.own _ (qy8 ..) rfl k hk with h|h
 ·exact h
 simp at h
def s0:Ses:=⟨[],ϔ,ϔ,[],[],0⟩
def nx_N(n:Int):Int:=n % 65535+1
def used(fl:List Fl)(n:Int):Bool:=fl.any (idIs n)
def Z2n(fl:List Fl)(n:Int):Int:=if used fl n=ϓ then(if used fl (nx_N n)=ϓ then nx_N (nx_N n)else nx_N n)else n
def Zlj{n:Int}(h:1<=n/\n<=65535):(1<=nx_N n/\nx_N n<=65535)/\nx_N n≠n/\nx_N (nx_N n)≠n/\nx_N (nx_N n)≠nx_N n:=by unfold nx_N;omega
def Z18q{n:Int}(h:1<=n/\n<=65535):nx_N n=if 65535<n+1 then 1 else n+1:=by unfold nx_N;split<;>omega
def Z1bw{fl:List Fl}{a b c:Int}(hl:fl.length<3)(ha:used fl a=ϓ)(hb:used fl b=ϓ)(hc:used fl c=ϓ)(h1:a≠b)(h2:a≠c)(h3:b≠c):False:=by
 match fl,hl with
 | [],_=>simp[used]at ha
 | [x],_=>simp[used,idIs]at ha hb;omega
 | [x,y],_=>simp[used,idIs]at ha hb hc;omega
 | _::_::_::_,hl=>simp at hl;omega
def Z12w{fl:List Fl}{n:Int}(hl:fl.length<3)(h:1<=n/\n<=65535):used fl (Z2n fl n)=ϔ:=by
 obtain⟨-,h1,h2,h3⟩:=Zlj h;unfold Z2n;split
 ·rename_i u1;split
  ·rename_i u2;cases u3:used fl (nx_N (nx_N n))with
   | false=>rfl
   | true=>exact(Z1bw hl u1 u2 u3 (Ne.symm h1) (Ne.symm h2) (Ne.symm h3)).elim
  rename_i u2;simpa using u2
 rename_i u1;simpa using u1
def Zom{fl:List Fl}{n:Int}(h:1<=n/\n<=65535):1<=Z2n fl n/\Z2n fl n<=65535:=by
 obtain⟨h1,-⟩:=Zlj h;unfold Z2n;split
 ·split
  ·exact(Zlj h1).1
  exact h1
 exact h
def flyR(on:Bool):List Fl->List Fl->Int->List Pk->List Fl×List Fl×Int×List Pk
 | fl,[],next,out=>(fl,[],next,out)
 | fl,f::q,next,out =>
  if on=ϓ/\fl.length<3 then flyR on (fl++[(Z2n fl next,f.2.1,f.2.2)]) q (nx_N (Z2n fl next)) (out++[(ϔ,1,Z2n fl next,f.2.1,f.2.2)])
  else(fl,f::q,next,out)
variable{next:Int}
def Zji{on:Bool}{fl qu:List Fl}{out:List Pk}(h:¬((on=ϓ/\0<qu.length)/\fl.length<3)):flyR on fl qu next out=(fl,qu,next,out):=by
 cases qu with
 | nil=>rfl
 | cons f q =>
  rw[flyR,ϛ];intro h2;exact h ⟨⟨h2.1,O1⟩,h2.2⟩
def Zra{on:Bool}{fl qu:List Fl}{out:List Pk}(h:(on=ϓ/\0<qu.length)/\fl.length<3): flyR on fl qu next out=flyR on (fl++[(Z2n fl next,(qu.getD 0 fD).2.1,(qu.getD 0 fD).2.2)]) (qu.drop 1) (nx_N (Z2n fl next)) (out++[(ϔ,1,Z2n fl next,(qu.getD 0 fD).2.1,(qu.getD 0 fD).2.2)]):=by
 cases qu with
 | nil=>simp at h
 | cons f q =>
  rw[flyR,ϝ ⟨h.1.1,h.2⟩];rfl
def Zzl(on:Bool):∀(qu fl:List Fl) (next:Int) (out:List Pk),(flyR on fl qu next out).1.length<=fl.length+qu.length/\(flyR on fl qu next out).2.1.length<=qu.length/\(flyR on fl qu next out).2.2.2.length<=out.length+qu.length:=by
 intro qu;induction qu with
 | nil=>intro fl next out;simp[flyR]
 | cons f q ih =>
  intro fl next out
  rw[flyR];split
  ·obtain⟨h1,h2,h3⟩:=ih (fl++[(Z2n fl next,f.2.1,f.2.2)]) (nx_N (Z2n fl next)) (out++[(ϔ,1,Z2n fl next,f.2.1,f.2.2)]);simp only[qy11,ϗ,ϖ]at h1 h2 h3⊢;omega
  simp
def Z6j(n:Nat)(s:Ses)(u v x:ϑ)(l:List Fl):Prop :=
 ∀k,(l.map encF).flatten≠[]/\Z1 x k->n<=k\/((s.fl.map encF).flatten≠[]/\Z1 u k)\/((s.qu.map encF).flatten≠[]/\Z1 v k)
variable{n:Nat}{s:Ses}{u v x:ϑ}
def Zrb:Z6j n s u v x []:=λk hk=>ϟ rfl hk.1
def gotS(w':ϣ)(s:Ses)(u v:ϑ)(e:Ending)(r:Ses):Prop :=
 ∃u' v',e=.returned (sesV r u' v')/\Zi w' u' r.fl/\Zi w' v' r.qu/\Z6j w.heap.size s u v u' r.fl/\Z6j w.heap.size s u v v' r.qu/\Mod [] w w'
def goR(s:Ses):Ses:={ s with on:=ϔ,fl:=if s.clean=ϓ then[]else s.fl,qu:=if s.clean=ϓ then[]else s.qu }
def Z1hc(s:Ses)(u v:ϑ)(hu:Zi w u s.fl)(hv:Zi w v s.qu):ϧ ϕ 89 #[sesV s u v] w λe w'=>gotS w w' s u v e (goR s):=by
 refine Wr (J:=[.s s.cl,.b s.on,.b s.clean,.v u,.r (s.fl.map encF),.v v,.r (s.qu.map encF),.i s.next]) Zb0 ?_;simp only[QR,ra];intro b1 b2;refine⟨λh w' hr=>?_,λh w' hr=>?_⟩
 ·have e:goR s=⟨s.cl,ϔ,s.clean,[],[],s.next⟩:=by simp[goR,h]
  rw[e];exact⟨.slice Ϭ 0 0,.slice Ϭ 0 0,rfl,Z6 _ _,Z6 _ _,Zrb,Zrb,hr.mod⟩
 have e:goR s=⟨s.cl,ϔ,s.clean,s.fl,s.qu,s.next⟩:=by simp[goR,h]
 rw[e];exact⟨u,v,rfl,hr.at_ 2 rfl,hr.at_ 3 rfl,λk hk=>.inr (.inl hk),λk hk=>.inr (.inr hk),hr.mod⟩
def Zon(next id:Int)(ag:Bool):Nat:=if ag=ϓ then(if id=next then 3 else if id=nx_N next then 2 else 1)else 0
def Zu6(fl:List Fl)(next id:Int):Prop:=id=next\/(id=nx_N next/\used fl next=ϓ)\/(id=nx_N (nx_N next)/\used fl next=ϓ/\used fl (nx_N next)=ϓ)
variable{id:Int}
def Zwo{fl:List Fl}(h:1<=next/\next<=65535)(ha:Zu6 fl next id):1<=id/\id<=65535:=by
 obtain⟨h1,-⟩:=Zlj h;rcases ha with rfl|⟨rfl,-⟩|⟨rfl,-⟩
 ·exact h
 ·exact h1
 exact(Zlj h1).1
def Zbl{fl:List Fl}(hl:fl.length<3)(h:1<=next/\next<=65535)(ha:Zu6 fl next id)(hu:used fl id=ϓ):Zu6 fl next (nx_N id)/\Zon next (nx_N id) ϓ<Zon next id ϓ:=by
 obtain⟨h1,h2,h3,h4⟩:=Zlj h;rcases ha with rfl|⟨rfl,u1⟩|⟨rfl,u1,u2⟩
 ·exact⟨.inr (.inl ⟨rfl,hu⟩),by simp[Zon,h2]⟩
 ·exact⟨.inr (.inr ⟨rfl,u1,hu⟩),by simp[Zon,h2,h3,h4]⟩
 exact(Z1bw hl u1 u2 hu (Ne.symm h2) (Ne.symm h3) (Ne.symm h4)).elim
def Zfs{fl:List Fl}(ha:Zu6 fl next id)(hu:used fl id=ϔ):id=Z2n fl next:=by
 rcases ha with rfl|⟨rfl,u1⟩|⟨rfl,u1,u2⟩
 ·simp[Z2n,hu]
 ·simp[Z2n,hu,u1]
 simp[Z2n,u1,u2]
def flyS(s:Ses):Ses×List Pk:=(⟨s.cl,s.on,s.clean,(flyR s.on s.fl s.qu s.next []).1,(flyR s.on s.fl s.qu s.next []).2.1,(flyR s.on s.fl s.qu s.next []).2.2.1⟩,(flyR s.on s.fl s.qu s.next []).2.2.2)
def Z18r(w':ϣ)(s:Ses)(u v:ϑ)(e:Ending)(r:Ses)(out:List Pk):Prop :=
 ∃u' v' x,e=.returned (.tuple #[sesV r u' v',sc1 x])/\Zi w' u' r.fl/\Zi w' v' r.qu/\Z12v w' x out/\Z6j w.heap.size s u v u' r.fl/\Z6j w.heap.size s u v v' r.qu/\(∀k,Z1 x k->w.heap.size<=k)/\Mod [] w w'
def Zjj{l:List Fl}(h:∀k,Z1 x k->n<=k):Z6j n s u v x l:=λk hk=>.inl (h k hk.2)
def Zmf{y:ϑ}{l:List Fl}(h:Z6j n s u v x l)(hb:∀k,Z1 y k->Z1 x k)(i:Nat):Z6j n s u v y (l.drop i):=λk hk=>h k ⟨λh0=>hk.1 (by rw[List.flatten_eq_nil_iff]at h0⊢;intro a ha;rw[μ]at ha;exact h0 a (List.mem_of_mem_drop ha)),hb k hk.2⟩
def flyI(n:Nat)(s:Ses)(u v:ϑ)(vs:List V):Prop :=
 ∃(x u' v':ϑ) (out:List Pk) (fl qu:List Fl) (next:Int),vs=[.v x,.r (out.map encP),.s s.cl,.b s.on,.b s.clean,.v u',.r (fl.map encF),.v v',.r (qu.map encF),.i next] /\
  flyR s.on fl qu next out=flyR s.on s.fl s.qu s.next []/\(1<=next/\next<=65535)/\qu.length<=s.qu.length/\fl.length+qu.length<=s.fl.length+s.qu.length/\out.length+qu.length<=s.qu.length /\
  Z6j n s u v u' fl/\Z6j n s u v v' qu/\(∀k,Z1 x k->n<=k)
variable{v':ϑ}
def Zrc{x' u':ϑ}{out:List Pk}{fl qu:List Fl}{vs:List V}(hg:flyR s.on fl qu next out=flyR s.on s.fl s.qu s.next [])(hn:1<=next/\next<=65535)(hq:qu.length<=s.qu.length)(hf:fl.length+qu.length<=s.fl.length+s.qu.length)(ho:out.length+qu.length<=s.qu.length)(hc:(s.on=ϓ/\0<(qu.length:Int))/\(fl.length:Int)<3)(hid:id=Z2n fl next){R1 R2 R3:List (List ϑ)}{n1:Int}(hvs:vs=[.v x',.r R1,.s s.cl,.b s.on,.b s.clean,.v u',.r R2,.v v',.r R3,.i n1])(e1:R1=(out++[(ϔ,1,id,(qu.getD 0 fD).2.1,(qu.getD 0 fD).2.2)]).map encP)(e2:R2=(fl++[(id,(qu.getD 0 fD).2.1,(qu.getD 0 fD).2.2)]).map encF)(e3:R3=(qu.drop 1).map encF)(e4:n1=nx_N id)(p1:∀k,Z1 u' k->n<=k)(p2:Z6j n s u v v' (qu.drop 1))(p3:∀k,Z1 x' k->n<=k):flyI n s u v vs:=by subst hid e1 e2 e3 e4;have hs:=Zra (on:=s.on) (fl:=fl) (qu:=qu) (next:=next) (out:=out) ⟨⟨hc.1.1,O⟩,O⟩;refine⟨x',u',v',_,_,_,_,hvs,hs.symm.trans hg,(Zlj (Zom hn)).1,O3,O3,O3,Zjj p1,p2,p3⟩
variable{i:Nat}
def Zrd{fl:List Fl}(hi:i<fl.length):(fl.take (i+1)).any (idIs id)=((fl.take i).any (idIs id) || decide ((fl.getD i fD).1=id)):=Ze3 (idIs id) fl i hi
def Z18s(qu:List Fl):List.drop (Int.toNat 1) (ν qu.length (List.map encF qu))=(qu.drop 1).map encF:=by rw[Ϡ O1,μ];rfl
def Zu7(s:Ses)(u v:ϑ)(hu:Zi w u s.fl)(hv:Zi w v s.qu)(hn:1<=s.next/\s.next<=65535)(hl1:s.fl.length<1000000)(hl2:s.qu.length<1000000):ϧ ϕ 139 #[sesV s u v] w λe w'=>Z18r w w' s u v e (flyS s).1 (flyS s).2:=by
  refine Wr (J:=[.s s.cl,.b s.on,.b s.clean,.v u,.r (s.fl.map encF),.v v,.r (s.qu.map encF),.i s.next]) Zan ?_;simp only[QR,ra];intro b1 b2;refine⟨flyI w.heap.size s u v,λvs=>(vs.getD 8 (.i 0)).toR.length,⟨_,_,_,[],_,_,_,rfl,rfl,hn,Ϟ _,Ϟ _,O1,λk hk=>.inr (.inl hk),λk hk=>.inr (.inr hk),λk hk=>by simp[Z1,Value.ownBlock]at hk⟩,?_⟩;rintro _ - ⟨x,u',v',out,fl,qu,next,rfl,hg,hnx,hq,hf,ho,p1,p2,p3⟩;simp only[QR,ra,gF0,gF1,gF2];refine⟨λhc=>?_,λhc w' hr=>?_⟩
  . intro b3;refine⟨λvs=>∃(id:Int) (ag:Bool),vs=[.i id,.b ag]/\(1<=id/\id<=65535)/\(ag=ϓ->Zu6 fl next id)/\(ag=ϔ->id=Z2n fl next),λvs=>Zon next (vs.getD 0 (.i 0)).toI (vs.getD 1 (.i 0)).toB,⟨next,ϓ,rfl,hnx,λ_=>.inl rfl,ϥ⟩,?_⟩;rintro _ - ⟨id,ag,rfl,hid,ha,hna⟩;simp only[QR,ra,gF0,gF1,gF2];refine⟨λhag=>?_,λhag=>?_⟩
    . subst hag;have ha:=ha rfl;refine⟨λvs=>∃(i:Nat),vs=[.b ((fl.take i).any (idIs id)),.i i]/\i<=fl.length,λvs=>fl.length - (vs.getD 1 (.i 0)).toI.toNat,⟨0,O1,O⟩,?_⟩;rintro _ - ⟨i,rfl,hi⟩;simp only[QR,ra,gF0,gF1,gF2];refine⟨λh1=>⟨O,λh2=>(by refine⟨O,O,⟨i+1,?_,O⟩,O⟩;rw[Zrd O,decide_eq_true h2,Bool.or_true];rfl),λh2=>by refine⟨O,O,⟨i+1,?_,O⟩,O⟩;rw[Zrd O,decide_eq_false h2,Bool.or_false];rfl⟩,λh1=>?_⟩
      . have hil:i=fl.length:=O;subst hil;rw[Ϙ];refine⟨λh2=>⟨O,O,?_,?_⟩,λh2=>?_⟩
        . intro h3;obtain⟨n1,n2⟩:=Zbl O hnx ha h2;have e:nx_N id=1:=by rw[Z18q hid,ϝ h3]
          rw[e]at n1 n2;exact⟨⟨1,ϓ,by rw[h2],O,λ_=>n1,ϥ⟩,by rw[h2];exact n2⟩
        . intro h3;obtain⟨n1,n2⟩:=Zbl O hnx ha h2;have e:nx_N id=id+1:=by rw[Z18q hid,ϛ h3]
          rw[e]at n1 n2;exact⟨⟨id+1,ϓ,by rw[h2],O,λ_=>n1,ϥ⟩,by rw[h2];exact n2⟩
        have h2:fl.any (idIs id)=ϔ:=by simpa using h2
        refine⟨⟨id,ϔ,by rw[h2],hid,ϥ,λ_=>Zfs ha h2⟩,?_⟩;rw[h2];have:0<Zon next id ϓ:=by unfold Zon;simp only[if_true];split<;>(try split)<;>omega
        exact this
    have hid2:=hna (by simpa using hag);refine⟨O,O,λh3=>?_,λh3=>?_⟩
    . have e:1=nx_N id:=by rw[Z18q hid,ϝ h3]
      (repeat (first|(refine⟨by((try simp only[qy3,qy4,gF0,gF1,gF2,qy11,ϐ,ϗ,ϖ]);omega),?_⟩)|(refine⟨Zrc hg hnx hq hf ho hc hid2 rfl (by simp[encP,ϒ]) (by simp[encF,ϒ]) (Z18s qu) e (λk hk=>(by simpa using(by assumption:∀k,Z1 _ k->w.heap.size<=k\/k∈([])) k hk)) (Zmf p2 O5 1) (λk hk=>(by simpa using(by assumption:∀k,Z1 _ k->w.heap.size<=k\/k∈([])) k hk)),by(simp<;>omega)⟩)|(refine⟨?_,?_⟩)|(intro _ _)))
    have e:id+1=nx_N id:=by rw[Z18q hid,ϛ h3]
    (repeat (first|(refine⟨by((try simp only[qy3,qy4,gF0,gF1,gF2,qy11,ϐ,ϗ,ϖ]);omega),?_⟩)|(refine⟨Zrc hg hnx hq hf ho hc hid2 rfl (by simp[encP,ϒ]) (by simp[encF,ϒ]) (Z18s qu) e (λk hk=>(by simpa using(by assumption:∀k,Z1 _ k->w.heap.size<=k\/k∈([])) k hk)) (Zmf p2 O5 1) (λk hk=>(by simpa using(by assumption:∀k,Z1 _ k->w.heap.size<=k\/k∈([])) k hk)),by(simp<;>omega)⟩)|(refine⟨?_,?_⟩)|(intro _ _)))
  have e:flyR s.on s.fl s.qu s.next []=(fl,qu,next,out):=by rw[<- hg];exact Zji (λh=>hc ⟨⟨h.1.1,O⟩,O⟩)
  exact⟨u',v',x,by simp only[flyS,e];rfl,by simp only[flyS,e];exact hr.at_ 4 rfl,by simp only[flyS,e];exact hr.at_ 5 rfl,by simp only[flyS,e];exact(hr.at_ 0 rfl).reads,by simp only[flyS,e];exact p1,by simp only[flyS,e];exact p2,p3,hr.mod⟩
variable{J:List V}
def Zoo{es:List Ent}(h:∀e∈es,e.wr=ϔ):Zt J es :=
 List.Pairwise.imp_of_mem (λ{a b} ha hb _ hw=>by rcases hw with hw|hw;rw[h a ha]at hw;cases hw;rw[h b hb]at hw;cases hw) (List.pairwise_of_forall (λ_ _=>trivial))
def pk0(n p:By):Pk:=(ϔ,0,0,n,p)
def pk1(f:Fl):Pk:=(ϓ,1,f.1,f.2.1,f.2.2)
def Zop(s:Ses)(n p:By)(q:Int):Ses×List Pk :=
 if q=0 then(s,if s.on=ϓ then[pk0 n p]else[])
 else if((¬s.on=ϓ)/\s.clean=ϓ)\/(s.qu.length:Int)=6 then(s,[])else flyS { s with qu:=s.qu++[(0,n,p)] }
def Z3u(l:List Fl)(id:Int):List Fl:=l.filter λf=>!(idIs id f)
def Z4l(s:Ses)(id:Int):Ses×List Pk:=flyS { s with fl:=Z3u s.fl id }
def Zcu(s:Ses):Ses×List Pk:=((flyS { s with on:=ϓ }).1,s.fl.map pk1++(flyS { s with on:=ϓ }).2)
def Zjk:Z6j n s u v u s.fl:=λk hk=>.inr (.inl hk)
def Zjl:Z6j n s u v v s.qu:=λk hk=>.inr (.inr hk)
variable{g:List Nat}{k:Nat}
def Z14(hi:i∈g)(h:Z1 (J.getD i (.i 0)).toV k):k∈Zq J g:=List.mem_flatMap.2 ⟨i,hi,by rw[h];simp⟩
variable{m:Nat}
def Zjm{t:Ses}{u1 v1:ϑ}{l:List Fl}(h:Z6j m t u1 v1 x l)(hnm:n<=m)(hu:Z6j n s u v u1 t.fl)(hv:Z6j n s u v v1 t.qu):Z6j n s u v x l:=λk hk=>by
 rcases h k hk with h1|h1|h1
 ·exact .inl (Ϯ hnm h1)
 ·exact hu k h1
 exact hv k h1
def Z18t(s:Ses)(u v:ϑ)(n p:By)(q:Int)(hu:Zi w u s.fl)(hv:Zi w v s.qu)(hn:1<=s.next/\s.next<=65535)(hl1:s.fl.length<100000)(hl2:s.qu.length<100000):ϧ ϕ 131 #[sesV s u v,.string ⟨n.toArray⟩,.string ⟨p.toArray⟩,.int .i64 q] w λe w'=>Z18r w w' s u v e (Zop s n p q).1 (Zop s n p q).2:=by
 refine Wr (J:=[.s s.cl,.b s.on,.b s.clean,.v u,.r (s.fl.map encF),.v v,.r (s.qu.map encF),.i s.next,.s n,.s p,.i q]) Z9g ?_;simp only[QR,ra,gF0,gF1,gF2,ϐ];intro b1 b2;refine⟨λh0=>⟨λh1 v1 o1 w' hr=>(by rw[Zop,ϝ h0,ϝ h1];exact⟨u,v,v1,rfl,hr.at_ 4 rfl,hr.at_ 5 rfl,(hr.at_ 0 rfl).reads,Zjk,Zjl,by simpa using o1,hr.mod⟩),λh1 w' hr=>by rw[Zop,ϝ h0,ϛ h1];exact⟨u,v,_,rfl,hr.at_ 4 rfl,hr.at_ 5 rfl,Z6 _ _,Zjk,Zjl,λk hk=>by simp[Z1,Value.ownBlock]at hk,hr.mod⟩⟩,λh0=>⟨λh1 w' hr=>(by rw[Zop,ϛ h0,ϝ h1];exact⟨u,v,_,rfl,hr.at_ 4 rfl,hr.at_ 5 rfl,Z6 _ _,Zjk,Zjl,λk hk=>by simp[Z1,Value.ownBlock]at hk,hr.mod⟩),λh1 v1 o1=>⟨O,λv2 o2 v3 o3=>⟨O,λv4 o4 w1 hr=>?_⟩⟩⟩⟩;rw[Zop,ϛ h0,ϛ h1];generalize hr2:flyS { s with qu:=s.qu++[(0,n,p)] }=rr;obtain⟨r,out⟩:=rr;have hv4:Zi w1 v4 (s.qu++[(0,n,p)]):=by have h4:=(hr.at_ 0 rfl).reads;simp only[QR,ra,ϐ]at h4;rw[Zi,ϒ];exact h4
 have hc:=Zu7 w1 { s with qu:=s.qu++[(0,n,p)] } u v4 (hr.at_ 5 rfl) hv4 hn O3 O3;rw[hr2]at hc;refine hc.mono ?_;rintro e w2 ⟨u',v',x,rfl,g1,g2,g3,g4,g5,g6,gm⟩;have src:∀(y:ϑ) (l:List Fl),Z6j w1.heap.size { s with qu:=s.qu++[(0,n,p)] } u v4 y l->Z6j w.heap.size s u v y l:=λy l h=>Zjm h hr.mod.size Zjk (Zjj λk hk=>by simpa using o4 k hk);refine⟨[.s r.cl,.b r.on,.b r.clean,.v u',.r (r.fl.map encF),.v v',.r (r.qu.map encF),.i r.next,.v x,.r (out.map encP)],rfl,rfl,gm.mono O1,qy5 _,qy2.2 ⟨⟨g1,λk hk=>?_⟩,qy2.2 ⟨⟨g2,λk hk=>?_⟩,qy2.2 ⟨⟨g3,λk hk=>.inl (g6 k hk.2)⟩,qy5 _⟩⟩⟩,Zoo (by simp[Ent.wr]),by simp only[QR,ra];intro w3 hr3;exact⟨u',v',x,rfl,hr3.at_ 0 rfl,hr3.at_ 1 rfl,hr3.at_ 2 rfl,src _ _ g4,src _ _ g5,λk hk=>Ϯ hr.mod.size (g6 k hk),hr3.mod⟩⟩
 ·rcases g4 k hk with h2|h2|h2
  ·exact .inl h2
  ·exact .inr (.inl ⟨rfl,_,qy6 (i:=5) rfl,rfl,h2⟩)
  exact .inr (.inr (Z14 (qy12.2 rfl) h2.2))
 rcases g5 k hk with h2|h2|h2
 ·exact .inl h2
 ·exact .inr (.inl ⟨rfl,_,qy6 (i:=5) rfl,rfl,h2⟩)
 exact .inr (.inr (Z14 (qy12.2 rfl) h2.2))
def Zzm(s:Ses)(u v:ϑ)(q:Int)(hu:Zi w u s.fl)(hv:Zi w v s.qu)(hn:1<=s.next/\s.next<=65535)(hl1:s.fl.length<100000)(hl2:s.qu.length<100000):ϧ ϕ 83 #[sesV s u v,.int .i64 q] w λe w'=>Z18r w w' s u v e (Z4l s q).1 (Z4l s q).2:=by
 refine Wr (J:=[.s s.cl,.b s.on,.b s.clean,.v u,.r (s.fl.map encF),.v v,.r (s.qu.map encF),.i s.next,.i q]) Z7t ?_;simp only[QR,ra,gF0,gF1,gF2,ϐ];intro b1 b2;refine⟨λvs=>∃(i:Nat) (x:ϑ),vs=[.v x,.r ((Z3u (s.fl.take i) q).map encF),.i i]/\i<=s.fl.length/\∀k,Z1 x k->w.heap.size<=k,λvs=>s.fl.length - (vs.getD 2 (.i 0)).toI.toNat,⟨0,_,by simp[Z3u];rfl,O,λk hk=>by simp[Z1,Value.ownBlock]at hk⟩,?_⟩;rintro _ - ⟨i,x,rfl,hi,hx⟩;have hlen:(Z3u (s.fl.take i) q).length<=i:=Ϯ (ϲ _ _) O3;simp only[QR,ra,gF0,gF1,gF2,ϐ];refine⟨λh1=>⟨O,⟨λh2 v1 o1=>⟨O,λv2 o2=>⟨O,O,⟨i+1,v2,?_,O,by simpa using o2⟩,O⟩⟩,λh2=>⟨O,O,⟨i+1,x,?_,O,hx⟩,O⟩⟩⟩,λh1 w1 hr=>?_⟩
 ·have:Z3u (s.fl.take (i+1)) q=Z3u (s.fl.take i) q++[s.fl.getD i fD]:=by
   rw[Zok _ i O,Z3u,Ϛ];simp only[Z3u,ϭ,ε,idIs,decide_eq_false h2];rfl
  rw[this];simp[encF]
 ·have:Z3u (s.fl.take (i+1)) q=Z3u (s.fl.take i) q:=by
   rw[Zok _ i O,Z3u,Ϛ];simp only[Z3u,ϭ,ε,idIs,decide_eq_true (qy9.1 h2)];simp
  rw[this];rfl
 have hil:i=s.fl.length:=O;subst hil;rw[Ϙ]at hlen hr;rw[Z4l];generalize hr2:flyS { s with fl:=Z3u s.fl q }=rr;obtain⟨r,out⟩:=rr;have hv4:=(hr.at_ 0 rfl).reads;have hc:=Zu7 w1 { s with fl:=Z3u s.fl q } x v hv4 (hr.at_ 5 rfl) hn O3 O3;rw[hr2]at hc;refine hc.mono ?_;rintro e w2 ⟨u',v',y,rfl,g1,g2,g3,g4,g5,g6,gm⟩;have src:∀(y:ϑ) (l:List Fl),Z6j w1.heap.size { s with fl:=Z3u s.fl q } x v y l->Z6j w.heap.size s u v y l:=λy l h=>Zjm h hr.mod.size (Zjj hx) Zjl;refine⟨[.s r.cl,.b r.on,.b r.clean,.v u',.r (r.fl.map encF),.v v',.r (r.qu.map encF),.i r.next,.v y,.r (out.map encP)],rfl,rfl,gm.mono O1,qy5 _,qy2.2 ⟨⟨g1,λk hk=>?_⟩,qy2.2 ⟨⟨g2,λk hk=>?_⟩,qy2.2 ⟨⟨g3,λk hk=>.inl (g6 k hk.2)⟩,qy5 _⟩⟩⟩,Zoo (by simp[Ent.wr]),by simp only[QR,ra];intro w3 hr3;exact⟨u',v',y,rfl,hr3.at_ 0 rfl,hr3.at_ 1 rfl,hr3.at_ 2 rfl,src _ _ g4,src _ _ g5,λk hk=>Ϯ hr.mod.size (g6 k hk),hr3.mod⟩⟩
 ·rcases g4 k hk with h2|h2|h2
  ·exact .inl h2
  ·exact .inr (.inr (Z14 (qy12.2 rfl) h2.2))
  exact .inr (.inl ⟨rfl,_,qy6 (i:=5) rfl,rfl,h2⟩)
 rcases g5 k hk with h2|h2|h2
 ·exact .inl h2
 ·exact .inr (.inr (Z14 (qy12.2 rfl) h2.2))
 exact .inr (.inl ⟨rfl,_,qy6 (i:=5) rfl,rfl,h2⟩)
def Zwp(s:Ses):(flyS s).2.length<=s.qu.length:=by have:=(Zzl s.on s.qu s.fl s.next []).2.2;simp only[ϖ,Nat.zero_add]at this;exact this
def Z18u(s:Ses)(u v:ϑ)(hu:Zi w u s.fl)(hv:Zi w v s.qu)(hn:1<=s.next/\s.next<=65535)(hl1:s.fl.length<100000)(hl2:s.qu.length<100000):ϧ ϕ 138 #[sesV s u v] w λe w'=>Z18r w w' s u v e (Zcu s).1 (Zcu s).2:=by
 refine Wr (J:=[.s s.cl,.b s.on,.b s.clean,.v u,.r (s.fl.map encF),.v v,.r (s.qu.map encF),.i s.next]) Z97 ?_;simp only[QR,ra,gF0,gF1,gF2,ϐ];intro b1 b2;refine⟨λvs=>∃(i:Nat) (x:ϑ),vs=[.v x,.r (((s.fl.take i).map pk1).map encP),.i i]/\i<=s.fl.length/\∀k,Z1 x k->w.heap.size<=k,λvs=>s.fl.length - (vs.getD 2 (.i 0)).toI.toNat,⟨0,_,by simp;rfl,O,λk hk=>by simp[Z1,Value.ownBlock]at hk⟩,?_⟩;rintro _ - ⟨i,x,rfl,hi,hx⟩;simp only[QR,ra,gF0,gF1,gF2,ϐ];refine⟨λh1=>⟨O,λb3 v1 o1=>⟨by simp only[ϗ,ϖ,Ϧ];omega,λv2 o2=>⟨O,O,⟨i+1,v2,by rw[Zok _ i O];simp[encP,pk1],O,λk hk=>by simpa using o2 k hk⟩,O⟩⟩⟩,λh1 w1 hr=>?_⟩;have hil:i=s.fl.length:=O;subst hil;rw[Ϙ]at hr;rw[Zcu];have ho:=Zwp { s with on:=ϓ };generalize hr2:flyS { s with on:=ϓ }=rr at ho;obtain⟨r,out⟩:=rr;have hc:=Zu7 w1 { s with on:=ϓ } u v (hr.at_ 4 rfl) (hr.at_ 5 rfl) hn O3 O3;rw[hr2]at hc;refine hc.mono ?_;rintro e w2 ⟨u',v',y,rfl,g1,g2,g3,g4,g5,g6,gm⟩;have src:∀(y:ϑ) (l:List Fl),Z6j w1.heap.size { s with on:=ϓ } u v y l->Z6j w.heap.size s u v y l:=λy l h=>Zjm h hr.mod.size Zjk Zjl;refine⟨[.s r.cl,.b r.on,.b r.clean,.v u',.r (r.fl.map encF),.v v',.r (r.qu.map encF),.i r.next,.v y,.r (out.map encP)],rfl,rfl,gm.mono O1,qy5 _,qy2.2 ⟨⟨g1,λk hk=>?_⟩,qy2.2 ⟨⟨g2,λk hk=>?_⟩,qy2.2 ⟨⟨g3,λk hk=>.inl (g6 k hk.2)⟩,qy5 _⟩⟩⟩,Zoo (by simp[Ent.wr]),?_⟩
 ·rcases g4 k hk with h2|h2|h2
  ·exact .inl h2
  ·exact .inr (.inl ⟨rfl,_,qy6 (i:=4) rfl,rfl,h2⟩)
  exact .inr (.inl ⟨rfl,_,qy6 (i:=5) rfl,rfl,h2⟩)
 ·rcases g5 k hk with h2|h2|h2
  ·exact .inl h2
  ·exact .inr (.inl ⟨rfl,_,qy6 (i:=4) rfl,rfl,h2⟩)
  exact .inr (.inl ⟨rfl,_,qy6 (i:=5) rfl,rfl,h2⟩)
 simp only[QR,ra,gF0,gF1,gF2];refine λb4=>⟨by simp only[Ϧ]at ho⊢;omega,λv3 o3 w3 hr3=>?_⟩
 have h0:=(hr3.at_ 0 rfl).reads;exact⟨u',v',v3,rfl,hr3.at_ 2 rfl,hr3.at_ 3 rfl,by simpa[ϒ,X.ev,Z12v]using h0,src _ _ g4,src _ _ g5,λk hk=>by simpa using o3 k hk,hr3.mod⟩
def sndA(k:Nat)(s:Ses)(u v x:ϑ)(out:List Pk):List V:=[.n k,.s s.cl,.b s.on,.b s.clean,.v u,.r (s.fl.map encF),.v v,.r (s.qu.map encF),.i s.next,.v x,.r (out.map encP)]
abbrev sndC:Ent:=.cells 0 275 [.str (.var 1),.bool (.var 2),.bool (.var 3),.val (.var 4),.val (.var 6),.int .i64 (.var 8),.val (.var 9)]
abbrev sndH:List Ent:=[.row 4 122 kF (.var 5),.row 6 122 kF (.var 7),.row 9 85 kP (.var 10),sndC]
def flyG(s:Ses)(out:List Pk):Ses×List Pk:=(⟨s.cl,s.on,s.clean,(flyR s.on s.fl s.qu s.next out).1,(flyR s.on s.fl s.qu s.next out).2.1,(flyR s.on s.fl s.qu s.next out).2.2.1⟩,(flyR s.on s.fl s.qu s.next out).2.2.2)
def flyJ(s:Ses)(o0:List Pk)(vs:List V):Prop :=
 ∃(x u' v':ϑ) (out:List Pk) (fl qu:List Fl) (next:Int),vs=[.s s.cl,.b s.on,.b s.clean,.v u',.r (fl.map encF),.v v',.r (qu.map encF),.i next,.v x,.r (out.map encP)] /\
  flyR s.on fl qu next out=flyR s.on s.fl s.qu s.next o0/\(1<=next/\next<=65535)/\qu.length<=s.qu.length/\fl.length+qu.length<=s.fl.length+s.qu.length/\out.length+qu.length<=o0.length+s.qu.length
def Zre{x' u':ϑ}{o0 out:List Pk}{fl qu:List Fl}{vs:List V}(hg:flyR s.on fl qu next out=flyR s.on s.fl s.qu s.next o0)(hn:1<=next/\next<=65535)(hq:qu.length<=s.qu.length)(hf:fl.length+qu.length<=s.fl.length+s.qu.length)(ho:out.length+qu.length<=o0.length+s.qu.length)(hc:(s.on=ϓ/\0<(qu.length:Int))/\(fl.length:Int)<3)(hid:id=Z2n fl next){R1 R2 R3:List (List ϑ)}{n1:Int}(hvs:vs=[.s s.cl,.b s.on,.b s.clean,.v u',.r R2,.v v',.r R3,.i n1,.v x',.r R1])(e1:R1=(out++[(ϔ,1,id,(qu.getD 0 fD).2.1,(qu.getD 0 fD).2.2)]).map encP)(e2:R2=(fl++[(id,(qu.getD 0 fD).2.1,(qu.getD 0 fD).2.2)]).map encF)(e3:R3=(qu.drop 1).map encF)(e4:n1=nx_N id):flyJ s o0 vs:=by subst hid e1 e2 e3 e4;have hs:=Zra (on:=s.on) (fl:=fl) (qu:=qu) (next:=next) (out:=out) ⟨⟨hc.1.1,O⟩,O⟩;exact⟨x',u',v',_,_,_,_,hvs,hs.symm.trans hg,(Zlj (Zom hn)).1,O3,O3,O3⟩
def Z1jt(B:Base)(w:ϣ)(k:Nat)(s:Ses)(u v x:ϑ)(o0:List Pk)(hrel:Rel B (sndA k s u v x o0) sndH w)(hn:1<=s.next/\s.next<=65535)(hl1:s.fl.length<100000)(hl2:s.qu.length<100000)(hl3:o0.length<100000): ϧ ϕ 255 #[.pointer (Ϻ ⟨k,0,Ϭ⟩)] w λe w'=>e=.returned (.tuple #[])/\∃u' v' x',Rel B (sndA k (flyG s o0).1 u' v' x' (flyG s o0).2) sndH w':=by
  refine Wu (B:=B) Z9j hrel ?_;simp only[sndA];simp only[QR,ra,gF0,gF1,gF2];have hg:flyR s.on s.fl s.qu s.next o0=flyR s.on s.fl s.qu s.next o0:=rfl;have hnx:=hn;have hq:s.qu.length<=s.qu.length:=Ϟ _;have hf:s.fl.length+s.qu.length<=s.fl.length+s.qu.length:=Ϟ _;have ho:o0.length+s.qu.length<=o0.length+s.qu.length:=Ϟ _;refine⟨λhc=>?_,λhc w1 hr=>?_⟩
  . intro b3;refine⟨λvs=>∃(id:Int),vs=[.i id]/\Zu6 s.fl s.next id,λvs=>Zon s.next (vs.getD 0 (.i 0)).toI ϓ,⟨s.next,rfl,.inl rfl⟩,?_⟩;rintro _ - ⟨id,rfl,ha⟩;have hid:=Zwo hnx ha;simp only[QR,ra,gF0,gF1,gF2];refine⟨[.b (s.fl.any (idIs id))],rfl,λ_ w' hr=>Z12u w' u s.fl id (hr.at_ 1 rfl).reads O,?_⟩;simp only[QR,ra,gF0,gF1,gF2];refine⟨λhu=>?_,λhu=>?_⟩
    . obtain⟨n1,n2⟩:=Zbl O hnx ha hu;exact⟨O,⟨_,rfl,n1⟩,n2⟩
    have hid2:=Zfs ha (by simpa[used]using hu)
    (repeat (first|(refine⟨by((try simp only[qy3,qy4,gF0,gF1,gF2,qy11,ϐ,ϗ,ϖ]);omega),?_⟩)|(intro _)))
    refine⟨flyJ s o0,λvs=>(vs.getD 6 (.i 0)).toR.length,Zre hg hnx hq hf ho hc hid2 rfl (by simp[encP,ϒ]) (by simp[encF,ϒ]) (Z18s _) rfl,?_⟩;rintro _ - ⟨x,u',v',out,fl,qu,next,rfl,hg,hnx,hq,hf,ho⟩;simp only[QR,ra,gF0,gF1,gF2];refine⟨λhc=>?_,λhc w1 hr=>?_⟩
    . intro b3;refine⟨λvs=>∃(id:Int),vs=[.i id]/\Zu6 fl next id,λvs=>Zon next (vs.getD 0 (.i 0)).toI ϓ,⟨next,rfl,.inl rfl⟩,?_⟩;rintro _ - ⟨id,rfl,ha⟩;have hid:=Zwo hnx ha;simp only[QR,ra,gF0,gF1,gF2];refine⟨[.b (fl.any (idIs id))],rfl,λ_ w' hr=>Z12u w' u' fl id (hr.at_ 4 rfl).reads O,?_⟩;simp only[QR,ra,gF0,gF1,gF2];refine⟨λhu=>?_,λhu=>?_⟩
      . obtain⟨n1,n2⟩:=Zbl O hnx ha hu;exact⟨O,⟨_,rfl,n1⟩,n2⟩
      have hid2:=Zfs ha (by simpa[used]using hu)
      (repeat (first|(refine⟨by((try simp only[qy3,qy4,gF0,gF1,gF2,qy11,ϐ,ϗ,ϖ]);omega),?_⟩)|(intro _)))
      exact⟨Zre hg hnx hq hf ho hc hid2 rfl (by simp[encP,ϒ]) (by simp[encF,ϒ]) (Z18s _) rfl,O3⟩
    refine(Z1z w1 v' qu (hr.at_ 5 rfl) O).mono ?_;rintro e w2 ⟨v2,rfl,g1,g2,gm⟩;refine⟨[.v v2,.r (qu.map encF)],rfl,rfl,gm,qy5 _,qy2.2 ⟨⟨g1,λk hk=>.inl (g2 k hk)⟩,qy5 _⟩,Z2,?_⟩;intro w3 hr3;have e:flyR s.on s.fl s.qu s.next o0=(fl,qu,next,out):=by rw[<- hg];exact Zji (λh=>hc ⟨⟨h.1.1,O⟩,O⟩)
    simp only[flyG,e];exact⟨trivial,u',v2,x,(hr3.pick [4,0,1,9] U).conv rfl⟩
  refine(Z1z w1 v s.qu (hr.at_ 1 rfl).reads O).mono ?_;rintro e w2 ⟨v2,rfl,g1,g2,gm⟩;refine⟨[.v v2,.r (s.qu.map encF)],rfl,rfl,gm,qy5 _,qy2.2 ⟨⟨g1,λk hk=>.inl (g2 k hk)⟩,qy5 _⟩,Z2,?_⟩;intro w3 hr3;have e:flyR s.on s.fl s.qu s.next o0=(s.fl,s.qu,s.next,o0):=by rw[<- hg];exact Zji (λh=>hc ⟨⟨h.1.1,O⟩,O⟩)
  simp only[flyG,e];exact⟨trivial,u,v2,x,(hr3.pick [1,0,3,4] U).conv rfl⟩
def Z1e0(n:Nat)(u v x y:ϑ):Prop:=∀k,Z1 y k->n<=k\/Z1 u k\/Z1 v k\/Z1 x k
def Zmg(u v:ϑ):Prop:=∀k,Z1 u k->Z1 v k->False
def Z9p{a b c ta tb tc:Nat}{ka kb kc:List Kd}{ra rb rc:X}(h1:Zmg (J.getD a (.i 0)).toV (J.getD b (.i 0)).toV)(h2:Zmg (J.getD a (.i 0)).toV (J.getD c (.i 0)).toV)(h3:Zmg (J.getD b (.i 0)).toV (J.getD c (.i 0)).toV): Zt J [.row a ta ka ra,.row b tb kb rb,.row c tc kc rc]:=by
 refine Ϝ.2 ⟨λe he _ k hk hk'=>?_,Ϝ.2 ⟨λe he _ k hk hk'=>by rw[qy12.1 he]at hk';exact h3 k hk hk',List.pairwise_singleton _ _⟩⟩;rcases Ϲ.1 he with rfl|he
 ·exact h1 k hk hk'
 rw[qy12.1 he]at hk';exact h2 k hk hk'
def Zhz{B:Base}{w:ϣ}{o0:List Pk}(hrel:Rel B (sndA k s u v x o0) sndH w)(hn:1<=s.next/\s.next<=65535)(hl1:s.fl.length<100000)(hl2:s.qu.length<100000)(hl3:o0.length<100000): ϧ ϕ 255 #[.pointer (Ϻ ⟨k,0,Ϭ⟩)] w λe w'=>e=.returned (.tuple #[])/\∃u' v' x',w'.heap[k]?=Ϻ (.cells #[.string ⟨s.cl.toArray⟩,.bool s.on,.bool s.clean,sc1 u',sc1 v',.int .i64 (flyG s o0).1.next,sc1 x'] 275 (0,0)) /\ Z1dz w' u' (flyG s o0).1.fl/\Z1dz w' v' (flyG s o0).1.qu/\owns w' x' 85 kP ((flyG s o0).2.map encP)/\Z1e0 w.heap.size u v x u'/\Z1e0 w.heap.size u v x v'/\Z1e0 w.heap.size u v x x' /\ Zmg u' v'/\Zmg u' x'/\Zmg v' x'/\Mod (k::(u.ownBlock.toList++(v.ownBlock.toList++x.ownBlock.toList))) w w':=by
 refine(Z1jt _ w k s u v x o0 hrel.base hn hl1 hl2 hl3).mono ?_;rintro e w' ⟨he,u',v',x',hr⟩;have hfp:∀j,j∈Zh (sndA k s u v x o0) sndH->j=k\/Z1 u j\/Z1 v j\/Z1 x j:=by
  intro j hj;simp only[Zh,sndA,sndH,sndC,List.flatMap_cons,List.flatMap_nil,Ent.fpl,QQ,Nat.reduceAdd,ϱ,qy13,qy12,Ϣ,List.getD_nil]at hj;simp only[Z1];rcases hj with h|h|h|h
  ·exact .inr (.inl h)
  ·exact .inr (.inr (.inl h))
  ·exact .inr (.inr (.inr h))
  exact .inl h
 have hnew:∀(i:Nat) (e:Ent),sndH[i]?=Ϻ e->i<3->e.wr=ϓ->∀j,e.fp (sndA k (flyG s o0).1 u' v' x' (flyG s o0).2) j->w.heap.size<=j\/Z1 u j\/Z1 v j\/Z1 x j:=by
  intro i e hi hlt hwr j hj;rcases hr.own e (qy6 hi) hwr j hj with h|h
  ·exact .inl h
  rcases hfp j h with rfl|h
  ·exfalso;exact hr.sep.disj (j:=3) hi rfl O (.inl hwr) hj rfl
  exact .inr h
 refine⟨he,u',v',x',hr.at_ 3 rfl,hr.at_ 0 rfl,hr.at_ 1 rfl,hr.at_ 2 rfl,λj hj=>hnew 0 _ rfl O rfl j hj,λj hj=>hnew 1 _ rfl O rfl j hj,λj hj=>hnew 2 _ rfl O rfl j hj,
  λj h1 h2=>hr.sep.disj (i:=0) (j:=1) rfl rfl O (.inl rfl) h1 h2,λj h1 h2=>hr.sep.disj (i:=0) (j:=2) rfl rfl O (.inl rfl) (k:=j) h1 h2,λj h1 h2=>hr.sep.disj (i:=1) (j:=2) rfl rfl O (.inl rfl) (k:=j) h1 h2,hr.mod.mono λj hj=>.inl ?_⟩
 rcases hfp j hj with rfl|h|h|h
 ·exact qy8 ..
 ·exact qy10 _ (ϳ _ (Ϣ.2 h))
 ·exact qy10 _ (Ϥ _ (ϳ _ (Ϣ.2 h)))
 exact qy10 _ (Ϥ _ (Ϥ _ (Ϣ.2 h)))
def Z5p:∀k,Z1 (.slice Ϭ 0 0) k->k∈Zq J g:=λk hk=>by simp[Z1,Value.ownBlock]at hk
variable{j:Nat}
def Zhh{p:Prop}(hi:i∈g)(hj:j∈g)(hx:∀k,Z1 x k->k∈Zq J g)(h:n<=k\/Z1 (J.getD i (.i 0)).toV k\/Z1 (J.getD j (.i 0)).toV k\/Z1 x k):n<=k\/p\/k∈Zq J g:=by
 rcases h with h|h|h|h
 ·exact .inl h
 ·exact .inr (.inr (Z14 hi h))
 ·exact .inr (.inr (Z14 hj h))
 exact .inr (.inr (hx k h))
def newV(n:Nat)(u:ϑ):Prop:=∀k,Z1 u k->n<=k
def Z2r(n:Nat):newV n (.slice Ϭ 0 0):=λk hk=>by simp[Z1,Value.ownBlock]at hk
def gotN(w':ϣ)(e:Ending)(r:Ses)(out:List Pk):Prop :=
 ∃u' v' x,e=.returned (.tuple #[sesV r u' v',sc1 x])/\Zi w' u' r.fl/\Zi w' v' r.qu/\Z12v w' x out/\newV w.heap.size u'/\newV w.heap.size v'/\newV w.heap.size x/\Mod [] w w'
def Z32(s:Ses)(n p:By)(q:Int):Ses×List Pk :=
 if q=0/\s.on=ϓ then(s,[pk0 n p])
 else if(q=1/\(s.on=ϓ\/¬s.clean=ϓ))/\(s.qu.length:Int)<6 then flyS { s with qu:=s.qu++[(0,n,p)] }else(s,[])
def Z12x(s:Ses)(u v:ϑ)(n p:By)(q:Int)(hu:Zi w u s.fl)(hv:Zi w v s.qu)(hn:1<=s.next/\s.next<=65535)(hl1:s.fl.length<10000)(hl2:s.qu.length<10000):ϧ ϕ 246 #[sesV s u v,.string ⟨n.toArray⟩,.string ⟨p.toArray⟩,.int .i64 q] w λe w'=>gotN w w' e (Z32 s n p q).1 (Z32 s n p q).2:=by
 refine Wr (J:=[.s s.cl,.b s.on,.b s.clean,.v u,.r (s.fl.map encF),.v v,.r (s.qu.map encF),.i s.next,.s n,.s p,.i q]) Zhb ?_;simp only[QR,ra,gF0,gF1,gF2,ϐ];intro b1 b2 b3 b4 b5;refine Z8q ?_;intro w1 hr1;refine(Z1z w1 u s.fl (hr1.at_ 6 rfl) O).mono ?_;rintro e w2 ⟨u1,rfl,a1,f1,m1⟩;refine⟨[.v u1,.r (s.fl.map encF)],rfl,rfl,m1,qy5 _,qy2.2 ⟨⟨a1,λk hk=>.inl (f1 k hk)⟩,qy5 _⟩,Z2,?_⟩;intro w3 hr3;refine(Z1z w3 v s.qu (hr3.at_ 8 rfl) O).mono ?_;rintro e w4 ⟨v1,rfl,a2,f2,m2⟩;refine⟨[.v v1,.r (s.qu.map encF)],rfl,rfl,m2,qy5 _,qy2.2 ⟨⟨a2,λk hk=>.inl (f2 k hk)⟩,qy5 _⟩,Z2,?_⟩;intro b6;simp only[QR,ra,gF0,gF1,gF2,ϐ];refine⟨λh1 v2=>⟨O,λv3 w5 hr=>by rw[Z32,ϝ h1];exact⟨u1,v1,v3,rfl,(hr.at_ 4 rfl).reads,(hr.at_ 3 rfl).reads,(hr.at_ 0 rfl).reads,hr.fresh 4 rfl,hr.fresh 3 rfl,hr.fresh 0 rfl,hr.mod⟩⟩,λh1=>⟨λh2 v2=>⟨O,λv3 w5 hr=>?_⟩,λh2 w5 hr=>by rw[Z32,ϛ h1,ϛ h2];exact⟨u1,v1,_,rfl,(hr.at_ 2 rfl).reads,(hr.at_ 1 rfl).reads,Z6 _ _,hr.fresh 2 rfl,hr.fresh 1 rfl,Z2r _,hr.mod⟩⟩⟩;rw[Z32,ϛ h1,ϝ h2];refine(Zhz (s:={ s with qu:=s.qu++[(0,n,p)] }) (o0:=[]) ((hr.pick [3,0,7,2] U).conv (by simp only[sndA,ϒ];rfl)) hn O3 O3 O1).mono ?_;rintro e w6 ⟨rfl,u',v',x',g1,g2,g3,g4,g5,g6,g7,g8,g9,g10,gm⟩;refine⟨[.s s.cl,.b s.on,.b s.clean,.v u',.r ((flyS { s with qu:=s.qu++[(0,n,p)] }).1.fl.map encF),.v v',.r ((flyS { s with qu:=s.qu++[(0,n,p)] }).1.qu.map encF),.i (flyS { s with qu:=s.qu++[(0,n,p)] }).1.next,.v x',.r ((flyS { s with qu:=s.qu++[(0,n,p)] }).2.map encP)],rfl,rfl,?_,qy2.2 ⟨g1,qy5 _⟩,
  qy2.2 ⟨⟨g2,λk hk=>Zhh (qy8 ..) (qy10 _ (qy8 ..)) Z5p <| g5 k hk⟩,qy2.2 ⟨⟨g3,λk hk=>Zhh (qy8 ..) (qy10 _ (qy8 ..)) Z5p <| g6 k hk⟩,qy2.2 ⟨⟨g4,λk hk=>Zhh (qy8 ..) (qy10 _ (qy8 ..)) Z5p <| g7 k hk⟩,qy5 _⟩⟩⟩,Z9p g8 g9 g10,?_⟩
 ·exact gm.mono λk hk=>.inl (by simpa[Zn,Zq,Value.ownBlock]using hk)
 intro w7 hr7;exact⟨u',v',x',rfl,(hr7.at_ 0 rfl).reads,(hr7.at_ 1 rfl).reads,(hr7.at_ 2 rfl).reads,hr7.fresh 0 rfl,hr7.fresh 1 rfl,hr7.fresh 2 rfl,hr7.mod⟩
def Z18v(on:Bool):∀(qu fl:List Fl) (next:Int) (o0:List Pk),flyR on fl qu next o0=((flyR on fl qu next []).1,(flyR on fl qu next []).2.1,(flyR on fl qu next []).2.2.1,o0++(flyR on fl qu next []).2.2.2):=by
 intro qu;induction qu with
 | nil=>intro fl next o0;simp[flyR]
 | cons f q ih =>
  intro fl next o0
  rw[flyR,flyR];split
  ·rw[ih _ _ (o0++_),ih _ _ ([]++_)];simp
  simp
def Z18w(s:Ses)(o0:List Pk):flyG s o0=((flyS s).1,o0++(flyS s).2):=by simp only[flyG,flyS];rw[Z18v]
def Z1hd(s:Ses)(u v:ϑ)(hu:Zi w u s.fl)(hv:Zi w v s.qu)(hn:1<=s.next/\s.next<=65535)(hl1:s.fl.length<10000)(hl2:s.qu.length<10000):ϧ ϕ 251 #[sesV s u v] w λe w'=>gotN w w' e (Zcu s).1 (Zcu s).2:=by
 refine Wr (J:=[.s s.cl,.b s.on,.b s.clean,.v u,.r (s.fl.map encF),.v v,.r (s.qu.map encF),.i s.next]) Zfl ?_;simp only[QR,ra,gF0,gF1,gF2,ϐ];intro b1 b2 b3 b4 b5;refine Z8q ?_;intro w1 hr1;refine(Z1z w1 u s.fl (hr1.at_ 6 rfl) O).mono ?_;rintro e w2 ⟨u1,rfl,a1,f1,m1⟩;refine⟨[.v u1,.r (s.fl.map encF)],rfl,rfl,m1,qy5 _,qy2.2 ⟨⟨a1,λk hk=>.inl (f1 k hk)⟩,qy5 _⟩,Z2,?_⟩;intro w3 hr3;refine(Z1z w3 v s.qu (hr3.at_ 8 rfl) O).mono ?_;rintro e w4 ⟨v1,rfl,a2,f2,m2⟩;refine⟨[.v v1,.r (s.qu.map encF)],rfl,rfl,m2,qy5 _,qy2.2 ⟨⟨a2,λk hk=>.inl (f2 k hk)⟩,qy5 _⟩,Z2,?_⟩;intro b6;simp only[QR,ra,gF0,gF1,gF2,ϐ];refine⟨λvs=>∃(i:Nat) (x:ϑ),vs=[.i i,.s s.cl,.b ϓ,.b s.clean,.v v1,.r (s.qu.map encF),.i s.next,.v x,.r (((s.fl.take i).map pk1).map encP)]/\i<=s.fl.length,λvs=>s.fl.length - (vs.getD 0 (.i 0)).toI.toNat,⟨0,_,by simp;rfl,O⟩,?_⟩;rintro _ - ⟨i,x,rfl,hi⟩;simp only[QR,ra,gF0,gF1,gF2,ϐ];refine⟨λh1=>⟨O,λb7 b8 v2=>⟨by simp only[Ϧ];omega,λv3=>⟨O,O,⟨i+1,v3,by rw[Zok _ i O];simp[encP,pk1],O⟩,O⟩⟩⟩,λh1 w5 hr=>?_⟩;have hil:i=s.fl.length:=O;subst hil;rw[Ϙ]at hr;refine(Zhz (s:={ s with on:=ϓ }) (o0:=s.fl.map pk1) ((hr.pick [2,1,11,0] U).conv rfl) hn O3 O3 O3).mono ?_;rintro e w6 ⟨rfl,u',v',x',g1,g2,g3,g4,g5,g6,g7,g8,g9,g10,gm⟩;rw[Z18w]at g1 g2 g3 g4;refine⟨[.s s.cl,.b ϓ,.b s.clean,.v u',.r ((flyS { s with on:=ϓ }).1.fl.map encF),.v v',.r ((flyS { s with on:=ϓ }).1.qu.map encF),.i (flyS { s with on:=ϓ }).1.next,.v x',.r ((s.fl.map pk1++(flyS { s with on:=ϓ }).2).map encP)],rfl,rfl,?_,qy2.2 ⟨g1,qy5 _⟩,
  qy2.2 ⟨⟨g2,λk hk=>Zhh (qy8 ..) (qy10 _ (qy8 ..)) (λk hk=>Z14 (qy10 _ (qy10 _ (qy8 ..))) hk) <| g5 k hk⟩,qy2.2 ⟨⟨g3,λk hk=>Zhh (qy8 ..) (qy10 _ (qy8 ..)) (λk hk=>Z14 (qy10 _ (qy10 _ (qy8 ..))) hk) <| g6 k hk⟩,qy2.2 ⟨⟨g4,λk hk=>Zhh (qy8 ..) (qy10 _ (qy8 ..)) (λk hk=>Z14 (qy10 _ (qy10 _ (qy8 ..))) hk) <| g7 k hk⟩,qy5 _⟩⟩⟩,Z9p g8 g9 g10,?_⟩
 ·exact gm.mono λk hk=>.inl (by simpa[Zn,Zq,Value.ownBlock]using hk)
 intro w7 hr7;exact⟨u',v',x',rfl,(hr7.at_ 0 rfl).reads,(hr7.at_ 1 rfl).reads,(hr7.at_ 2 rfl).reads,hr7.fresh 0 rfl,hr7.fresh 1 rfl,hr7.fresh 2 rfl,hr7.mod⟩
def Zmh(l:List Fl)(id:Int)(i:Nat)(h:i<l.length):Z3u (l.take (i+1)) id=Z3u (l.take i) id++(if(l.getD i fD).1=id then[]else[l.getD i fD]):=by
 rw[Zok l i h,Z3u,Ϛ];simp only[Z3u,ϭ,idIs];by_cases h1:(l.getD i fD).1=id
 ·rw[ϝ h1,decide_eq_true h1];simp
 rw[ϛ h1,decide_eq_false h1];simp
def Zrf{l:List Fl}(h:l.any (idIs id)=ϔ):Z3u l id=l:=by rw[Z3u,ϸ];intro x hx;rw[List.any_eq_false]at h;have:=h x hx;simpa using this
def Zoq{R l:List Fl}(h:R.drop j=l.drop j):R.getD j fD=l.getD j fD:=by have e:∀q:List Fl,q.getD j fD=(q.drop j).getD 0 fD:=λq=>O1;rw[e R,e l,h]
def Z18x(R:List Fl)(m:Nat)(x:Fl):(R.map encF).set m [Value.int .i64 x.1,.string ⟨x.2.1.toArray⟩,.string ⟨x.2.2.toArray⟩]=(R.set m x).map encF:=by rw[List.map_set];rfl
def Z12y{R:List Fl}{x:Fl}(h:m<R.length):(R.set m x).take (m+1)=R.take m++[x]:=by rw[List.take_set,Zok R m h,List.set_append_right _ _ O3];have:m - (R.take m).length=0:=O3;rw[this];rfl
def Z12z{R:List Fl}{x:Fl}(h:m<j):(R.set m x).drop j=R.drop j:=by rw[List.drop_set,ϝ h]
def Z1bx(s:Ses)(u v:ϑ)(q:Int)(hu:Zi w u s.fl)(hv:Zi w v s.qu)(hn:1<=s.next/\s.next<=65535)(hl1:s.fl.length<10000)(hl2:s.qu.length<10000):ϧ ϕ 215 #[sesV s u v,.int .i64 q] w λe w'=>gotN w w' e (Z4l s q).1 (Z4l s q).2:=by
 refine Wr (J:=[.s s.cl,.b s.on,.b s.clean,.v u,.r (s.fl.map encF),.v v,.r (s.qu.map encF),.i s.next,.i q]) Zfb ?_;simp only[QR,ra,gF0,gF1,gF2,ϐ];intro b0 b1 b2 b3 b4 b5;refine Z8q ?_;intro w1 hr1;refine(Z1z w1 u s.fl (hr1.at_ 7 rfl) O).mono ?_;rintro e w2 ⟨u1,rfl,a1,f1,m1⟩;refine⟨[.v u1,.r (s.fl.map encF)],rfl,rfl,m1,qy5 _,qy2.2 ⟨⟨a1,λk hk=>.inl (f1 k hk)⟩,qy5 _⟩,Z2,?_⟩;intro w3 hr3;refine(Z1z w3 v s.qu (hr3.at_ 9 rfl) O).mono ?_;rintro e w4 ⟨v1,rfl,a2,f2,m2⟩;refine⟨[.v v1,.r (s.qu.map encF)],rfl,rfl,m2,qy5 _,qy2.2 ⟨⟨a2,λk hk=>.inl (f2 k hk)⟩,qy5 _⟩,Z2,?_⟩;intro b6;simp only[QR,ra,gF0,gF1,gF2,ϐ];refine⟨λvs=>∃(i:Nat) (x:V),vs=[x,.i i,.i q]/\i<=s.fl.length/\(s.fl.take i).any (idIs q)=ϔ,λvs=>s.fl.length - (vs.getD 1 (.i 0)).toI.toNat,⟨0,_,rfl,O,O1⟩,?_⟩;rintro _ - ⟨i,x,rfl,hi,hno⟩;simp only[QR,ra,gF0,gF1,gF2,ϐ];refine⟨λh1=>⟨O,λb7=>⟨λh2=>⟨λh3=>ϟ h3 O,λh3=>⟨O,O,?_⟩⟩,λh2=>by refine⟨O,O,⟨i+1,x,rfl,O,?_⟩,O⟩;rw[Ze3 _ _ i O,hno,Bool.false_or];simp only[idIs,decide_eq_false_iff_not];exact h2⟩⟩,λh1 w5 hr=>?_⟩
 ·refine⟨λvs=>∃(m j:Nat) (R:List Fl),vs=[.i m,.i j,.r (R.map encF),.i q]/\R.length=s.fl.length/\m<j/\j<=s.fl.length/\R.take m=Z3u (s.fl.take j) q/\R.drop j=s.fl.drop j,λvs=>s.fl.length - (vs.getD 1 (.i 0)).toI.toNat,⟨i,i+1,s.fl,rfl,rfl,O,O,by rw[Zmh _ _ i O,ϝ h2,ϱ,Zrf hno],rfl⟩,?_⟩
  ·rintro _ - ⟨m,j,R,rfl,hRl,hmj,hj,htk,hdr⟩;simp only[QR,ra,gF0,gF1,gF2,ϐ];refine⟨λh4=>⟨O,λb8 b9=>?_⟩,λh4=>?_⟩
   ·have hsn:=Zmh s.fl q j O;have hRj:=Zoq hdr;have hdr1:R.drop (j+1)=s.fl.drop (j+1):=by rw[<- η,<- η,hdr]
    rw[hRj];refine⟨λh5=>?_,λh5=>by rw[ϝ (qy9.1 h5),ϱ]at hsn;exact⟨O,O,⟨m,j+1,R,rfl,hRl,O,O,by rw[htk,hsn],hdr1⟩,O⟩⟩;rw[ϛ h5]at hsn;exact⟨O,O,O,O,O,O,⟨m+1,j+1,R.set m (s.fl.getD j fD),by rw[Z18x];rfl,by simpa using hRl,O,O,by rw[Z12y O,htk,hsn],by rw[Z12z O,hdr1]⟩,O⟩
   have:j=s.fl.length:=O;subst this;rw[Ϙ]at htk;refine⟨O,O,by simp only[qy11,Ϧ,qy3,List.length_replicate];omega,λv9 w5 hr=>?_⟩;have e1:(ν m (ν m (R.map encF)++List.replicate (R.length - m) [Value.int .i64 0,.string ⟨[].toArray⟩,.string ⟨[].toArray⟩]))=(Z3u s.fl q).map encF:=by rw[ϙ O3,θ,Nat.min_self,<- List.map_take,htk]
   have hll:(Z3u s.fl q).length<=s.fl.length:=ϲ _ _;refine(Zhz (s:={ s with fl:=Z3u s.fl q }) (o0:=[]) ((hr.pick [0,4,8,3] U).conv (by simp only[sndA,<- e1,<- qy3 (f:=encF)];rfl)) hn O3 O3 O1).mono ?_;rintro e w6 ⟨rfl,u',v',x',g1,g2,g3,g4,g5,g6,g7,g8,g9,g10,gm⟩;refine⟨[.s s.cl,.b s.on,.b s.clean,.v u',.r ((Z4l s q).1.fl.map encF),.v v',.r ((Z4l s q).1.qu.map encF),.i (Z4l s q).1.next,.v x',.r ((Z4l s q).2.map encP)],rfl,rfl,gm.mono λk hk=>.inl (by simpa[Zn,Zq,Value.ownBlock]using hk),qy2.2 ⟨g1,qy5 _⟩,qy2.2 ⟨⟨g2,λk hk=>Zhh (qy8 ..) (qy10 _ (qy8 ..)) Z5p <| g5 k hk⟩,qy2.2 ⟨⟨g3,λk hk=>Zhh (qy8 ..) (qy10 _ (qy8 ..)) Z5p <| g6 k hk⟩,qy2.2 ⟨⟨g4,λk hk=>Zhh (qy8 ..) (qy10 _ (qy8 ..)) Z5p <| g7 k hk⟩,qy5 _⟩⟩⟩,Z9p g8 g9 g10,?_⟩;intro w7 hr7;exact⟨u',v',x',rfl,(hr7.at_ 0 rfl).reads,(hr7.at_ 1 rfl).reads,(hr7.at_ 2 rfl).reads,hr7.fresh 0 rfl,hr7.fresh 1 rfl,hr7.fresh 2 rfl,hr7.mod⟩
 have:i=s.fl.length:=O;subst this;rw[Ϙ]at hno;have e1:=Zrf hno;refine(Zhz (s:={ s with fl:=Z3u s.fl q }) (o0:=[]) ((hr.pick [3,2,7,1] U).conv (by simp only[sndA,e1];rfl)) hn (by simp only[e1];omega) O3 O1).mono ?_;rintro e w6 ⟨rfl,u',v',x',g1,g2,g3,g4,g5,g6,g7,g8,g9,g10,gm⟩;refine⟨[.s s.cl,.b s.on,.b s.clean,.v u',.r ((Z4l s q).1.fl.map encF),.v v',.r ((Z4l s q).1.qu.map encF),.i (Z4l s q).1.next,.v x',.r ((Z4l s q).2.map encP)],rfl,rfl,gm.mono λk hk=>.inl (by simpa[Zn,Zq,Value.ownBlock]using hk),qy2.2 ⟨g1,qy5 _⟩,qy2.2 ⟨⟨g2,λk hk=>Zhh (qy8 ..) (qy10 _ (qy8 ..)) Z5p <| g5 k hk⟩,qy2.2 ⟨⟨g3,λk hk=>Zhh (qy8 ..) (qy10 _ (qy8 ..)) Z5p <| g6 k hk⟩,qy2.2 ⟨⟨g4,λk hk=>Zhh (qy8 ..) (qy10 _ (qy8 ..)) Z5p <| g7 k hk⟩,qy5 _⟩⟩⟩,Z9p g8 g9 g10,?_⟩;intro w7 hr7;exact⟨u',v',x',rfl,(hr7.at_ 0 rfl).reads,(hr7.at_ 1 rfl).reads,(hr7.at_ 2 rfl).reads,hr7.fresh 0 rfl,hr7.fresh 1 rfl,hr7.fresh 2 rfl,hr7.mod⟩
def Z1e1(h:chkS s=0):(1<=s.next/\s.next<=65535)/\s.fl.length<=3/\s.qu.length<=6:=by
 unfold chkS at h;split at h
 ·split at h
  ·exact ϟ h U
  split at h
  ·split at h
   ·exact⟨O5,O,O⟩
   exact ϟ h U
  exact ϟ h O5
 exact ϟ h U
def Z1he(w':ϣ)(e:Ending)(r:Ses):Prop :=
 ∃u' v',e=.returned (sesV r u' v')/\Zi w' u' r.fl/\Zi w' v' r.qu/\newV w.heap.size u'/\newV w.heap.size v'/\Mod [] w w'
def Z1ju(s:Ses)(u v:ϑ)(hu:Zi w u s.fl)(hv:Zi w v s.qu)(hl1:s.fl.length<10000)(hl2:s.qu.length<10000):ϧ ϕ 219 #[sesV s u v] w λe w'=>Z1he w w' e (goR s):=by
 refine Wr (J:=[.s s.cl,.b s.on,.b s.clean,.v u,.r (s.fl.map encF),.v v,.r (s.qu.map encF),.i s.next]) Zhc ?_;simp only[QR,ra,gF0,gF1,gF2,ϐ];intro b1 b2 b3 b4 b5;refine Z8q ?_;intro w1 hr1;refine(Z1z w1 u s.fl (hr1.at_ 5 rfl) O).mono ?_;rintro e w2 ⟨u1,rfl,a1,f1,m1⟩;refine⟨[.v u1,.r (s.fl.map encF)],rfl,rfl,m1,qy5 _,qy2.2 ⟨⟨a1,λk hk=>.inl (f1 k hk)⟩,qy5 _⟩,Z2,?_⟩;intro w3 hr3;refine(Z1z w3 v s.qu (hr3.at_ 7 rfl) O).mono ?_;rintro e w4 ⟨v1,rfl,a2,f2,m2⟩;refine⟨[.v v1,.r (s.qu.map encF)],rfl,rfl,m2,qy5 _,qy2.2 ⟨⟨a2,λk hk=>.inl (f2 k hk)⟩,qy5 _⟩,Z2,?_⟩;intro b6;simp only[QR,ra,gF0,gF1,gF2,ϐ];refine⟨λh1 w5 hr=>?_,λh1 w5 hr=>?_⟩
 ·have e:goR s=⟨s.cl,ϔ,s.clean,[],[],s.next⟩:=by simp[goR,h1]
  rw[e];exact⟨.slice Ϭ 0 0,.slice Ϭ 0 0,rfl,Z6 _ _,Z6 _ _,Z2r _,Z2r _,hr.mod⟩
 have e:goR s=⟨s.cl,ϔ,s.clean,s.fl,s.qu,s.next⟩:=by simp[goR,h1]
 rw[e];exact⟨u1,v1,rfl,(hr.at_ 2 rfl).reads,(hr.at_ 1 rfl).reads,hr.fresh 2 rfl,hr.fresh 1 rfl,hr.mod⟩
abbrev Z5:By->By->Bool:=Op.bytesLess
def Ze5(a:By):Z5 a []=ϔ:=by cases a<;>rfl
def Zs:∀a:By,Z5 a a=ϔ
 | []=>rfl
 | a::x=>by simp[Op.bytesLess,Zs x]
def Zf:∀{a b c:By},Z5 a b=ϓ->Z5 b c=ϓ->Z5 a c=ϓ
 | _,[],_,h,_=>by rw[Ze5]at h;cases h
 | _,_::_,[],_,h=>by rw[Ze5]at h;cases h
 | [],_::_,_::_,_,_=>rfl
 | a::x,b::y,c::z,h1,h2=>by
  simp only[Op.bytesLess,ζ,ϡ,γ,beq_iff_eq]at h1 h2⊢;rcases h1 with h1|⟨rfl,h1⟩
  ·rcases h2 with h2|⟨rfl,h2⟩
   ·exact .inl (UInt8.lt_trans h1 h2)
   exact .inl h1
  rcases h2 with h2|⟨rfl,h2⟩
  ·exact .inl h2
  exact .inr ⟨rfl,Zf h1 h2⟩
def Ze6:∀{a b:By},Z5 a b=ϔ->Z5 b a=ϔ->a=b
 | [],[],_,_=>rfl
 | [],_::_,h,_=>by cases h
 | _::_,[],_,h=>by cases h
 | a::x,b::y,h1,h2=>by
  simp only[Op.bytesLess,Bool.or_eq_false_iff,decide_eq_false_iff_not,Bool.and_eq_false_iff]at h1 h2;have hab:a=b:=by
   rcases ϻ a.toNat b.toNat with h|h|h
   ·exact ϟ (UInt8.lt_iff_toNat_lt.2 h) h1.1
   ·exact UInt8.toNat_inj.1 h
   exact ϟ (UInt8.lt_iff_toNat_lt.2 h) h2.1
  subst hab;rw[Ze6 (h1.2.resolve_left O1) (h2.2.resolve_left O1)]
variable{a b:By}
def Z1h(h:Z5 a b=ϓ):Z5 b a=ϔ:=by
 cases h2:Z5 b a with
 | false=>rfl
 | true=>have:=Zf h h2;rw[Zs]at this;cases this
def Z7k(h:Z5 a b=ϓ):a≠b:=by rintro rfl;rw[Zs]at h;cases h
def Z15:Z5 a b=ϔ↔(Z5 b a=ϓ\/b=a):=by
 constructor
 ·intro h;cases h2:Z5 b a with
  | true=>exact .inl rfl
  | false=>exact .inr (Ze6 h2 h)
 rintro(h|rfl)
 ·exact Z1h h
 exact Zs _
def Z2x(a b:By):Int:=if Z5 a b=ϓ then -1 else if a=b then 0 else 1
def Zjn:∀a b:By,Go.Lib.compareBytes a b=Z2x a b
 | [],[]=>rfl
 | [],_::_=>rfl
 | a::x,[]=>by simp[Z2x,Go.Lib.compareBytes,Ze5]
 | a::x,b::y=>by
  have ih:=Zjn x y;rw[Go.Lib.compareBytes,ih];unfold Z2x;simp only[Op.bytesLess,ζ,ϡ,γ,beq_iff_eq,ξ.injEq];by_cases h1:a<b
  ·simp[h1]
  by_cases h2:b<a
  ·have hne:a≠b:=by rintro rfl;exact h1 h2
   simp[h1,h2,hne]
  have hab:a=b:=by
   rcases ϻ a.toNat b.toNat with h|h|h
   ·exact ϟ (UInt8.lt_iff_toNat_lt.2 h) h1
   ·exact UInt8.toNat_inj.1 h
   exact ϟ (UInt8.lt_iff_toNat_lt.2 h) h2
  subst hab;simp[UInt8.lt_irrefl]
def Z6k:Z2x a b<0↔Z5 a b=ϓ:=by
 unfold Z2x;split
 ·simp[*]
 rename_i h;have h:Z5 a b=ϔ:=by simpa using h
 split<;>simp[h]
def Z3h:Z2x a b=0↔a=b:=by
 unfold Z2x;split
 ·rename_i h;simp only[show ¬((-1:Int)=0) by decide,false_iff];exact Z7k h
 split<;>simp[*]
def Z29(a b:By):ϧ ϕ 114 #[.string ⟨a.toArray⟩,.string ⟨b.toArray⟩] w λe w'=>e=.returned (.int .i64 (Z2x a b))/\Mod [] w w':=by refine(Any.strings_Compare Tryz.lays106 ⟨a.toArray⟩ ⟨b.toArray⟩ w).mono ?_;rintro e w' ⟨rfl,rfl⟩;rw[Zjn];exact⟨rfl,Mod.refl _ _⟩
def Z18y(h:a.take i=b.take i)(hi:i<a.length)(hj:i<b.length)(hne:¬a.getD i 0=b.getD i 0):Z5 a b=decide (a.getD i 0<b.getD i 0):=by
 induction i generalizing a b with
 | zero =>
  match a,b,hi,hj with
  | x::a,y::b,_,_ =>
   simp only[List.getD_cons_zero]at hne;simp[Op.bytesLess,hne]
 | succ i ih =>
  match a,b,hi,hj with
  | x::a,y::b,hi,hj =>
   simp only[Ϩ,ξ.injEq]at h;obtain⟨rfl,h⟩:=h;have:=ih h (by simpa using hi) (by simpa using hj) hne
   show(decide (x<x) || (x == x && Z5 a b))=_
   rw[this];simp[UInt8.lt_irrefl]
def Z130(h:a.take i=b.take i)(hi:i<=a.length)(hj:i<=b.length)(he:i=a.length\/i=b.length):Z5 a b=decide (a.length<b.length):=by
 induction i generalizing a b with
 | zero =>
  match a,b with
  | [],[]=>rfl
  | [],_::_=>rfl
  | _::_,[]=>simp[Ze5]
  | _::_,_::_=>simp at he
 | succ i ih =>
  match a,b,hi,hj with
  | x::a,y::b,hi,hj =>
   simp only[Ϩ,ξ.injEq]at h;obtain⟨rfl,h⟩:=h;have:=ih h (by simpa using hi) (by simpa using hj) (by simpa using he);simp[Op.bytesLess];simpa using this
def Z1e2(h:a.take i=b.take i)(hi:i<a.length)(hj:i<b.length)(he:a.getD i 0=b.getD i 0):a.take (i+1)=b.take (i+1):=by rw[ϩ,ϩ,h];simp only[qy1,qy7 hi,qy7 hj,Option.getD_some]at he;rw[qy7 hi,qy7 hj,he]
def Z1q(a b:By)(ha:a.length<1099511627776):ϧ ϕ 21 #[.string ⟨a.toArray⟩,.string ⟨b.toArray⟩] w λe w'=>e=.returned (.bool (Z5 a b))/\Mod [] w w':=by refine Wp (J:=[.s a,.s b]) Z81 ?_;simp only[QR];refine⟨λvs=>∃(i:Nat) (x:V),vs=[x,.i i]/\i<=a.length/\i<=b.length/\a.take i=b.take i,λvs=>a.length - (vs.getD 1 (.i 0)).toI.toNat,⟨0,_,rfl,O,O,rfl⟩,?_⟩;rintro _ - ⟨i,x,rfl,hi,hj,ht⟩;simp only[QR];exact⟨λh1=>⟨O,λh2 w' hr=>⟨by rw[Z18y ht O O (λe=>h2 (by rw[e]))];simp[UInt8.lt_iff_toNat_lt],hr.mod⟩,λh2=>⟨O,O,⟨i+1,x,rfl,O,O,Z1e2 ht O O (by have h3:=qy9.1 h2;exact UInt8.toNat_inj.1 (by exact_mod_cast h3))⟩,O⟩⟩,λh1 w' hr=>⟨by rw[Z130 ht hi hj O];simp,hr.mod⟩⟩
abbrev Kp:=By×By×Int
def encK(k:Kp):List ϑ:=[.string ⟨k.1.toArray⟩,.string ⟨k.2.1.toArray⟩,.int .i64 k.2.2]
abbrev kD:Kp:=([],[],0)
abbrev kK:List Kd:=[.str,.str,.int .i64]
def gK0(l:List Kp)(i:Nat):Value.gS (((l.map encK).getD i []).getD 0 undef)=(l.getD i kD).1:=by simp only[qy1,Ϫ];cases l[i]?<;>simp[encK,Value.gS,undef]
def gK1(l:List Kp)(i:Nat):Value.gS (((l.map encK).getD i []).getD 1 undef)=(l.getD i kD).2.1:=by simp only[qy1,Ϫ];cases l[i]?<;>simp[encK,Value.gS,undef]
def gK2(l:List Kp)(i:Nat):Value.gI (((l.map encK).getD i []).getD 2 undef)=(l.getD i kD).2.2:=by simp only[qy1,Ϫ];cases l[i]?<;>rfl
abbrev Z1r(w:ϣ)(v:ϑ)(l:List Kp):Prop:=reads w v kK (l.map encK)
abbrev Zrg(w:ϣ)(v:ϑ)(l:List Kp):Prop:=owns w v 111 kK (l.map encK)
def Zrh(l:List Kp)(i:Nat)(h:i<l.length):l.drop i=l.getD i kD::l.drop (i+1):=by rw[List.drop_eq_getElem_cons h,qy1,qy7 h];rfl
def Zri(l:List Kp)(i:Nat)(h:i<l.length):l.take (i+1)=l.take i++[l.getD i kD]:=by rw[ϩ,qy1,qy7 h];rfl
def Zb5(l:List Kp):Prop:=∀x∈l,x.1.length<4294967281
def Z8r{l:List Kp}(h:Zb5 l)(i:Nat):(l.getD i kD).1.length<4294967281:=by
 by_cases hi:i<l.length
 ·rw[qy1,qy7 hi];exact h _ (List.getElem_mem hi)
 rw[qy1,List.getElem?_eq_none O];decide
def Zhi:Option By->List Kp->Int
 | _,[]=>0
 | p,k::l=>if chkT k.1 ϔ≠0 then chkT k.1 ϔ else if k.2.1=[]then 1 else if 200<(k.2.1.length:Int)then 2 else if k.2.2<1\/16777215<k.2.2 then 3
  else if(p.any λt=>!(Z5 t k.1))=ϓ then 4 else Zhi (Ϻ k.1) l
def chkK(l:List Kp):Int:=if 16<(l.length:Int)then 2 else Zhi Ϭ l
def Zzn(l:List Kp)(i:Nat):Option By:=if i=0 then Ϭ else Ϻ (l.getD (i - 1) kD).1
def Z131(l:List Kp)(i:Nat):((Zzn l i).any λt=>!(Z5 t (l.getD i kD).1))=ϓ↔(0<(i:Int)/\(Z5 (l.getD i kD).1 (l.getD (i - 1) kD).1=ϓ\/(l.getD i kD).1=(l.getD (i - 1) kD).1)):=by
 unfold Zzn;by_cases h:i=0
 ·simp[h]
 rw[ϛ h];simp only[Option.any_some,Bool.not_eq_true'];rw[Z15];exact⟨λh2=>⟨O,h2⟩,λh2=>h2.2⟩
def Zmi{l:List Kp}(h:i<l.length):Zhi (Zzn l i) (l.drop i)=if chkT (l.getD i kD).1 ϔ≠0 then chkT (l.getD i kD).1 ϔ else if(l.getD i kD).2.1=[]then 1 else if 200<((l.getD i kD).2.1.length:Int)then 2 else if(l.getD i kD).2.2<1\/16777215<(l.getD i kD).2.2 then 3
  else if 0<(i:Int)/\(Z5 (l.getD i kD).1 (l.getD (i - 1) kD).1=ϓ\/(l.getD i kD).1=(l.getD (i - 1) kD).1)then 4 else Zhi (Zzn l (i+1)) (l.drop (i+1)):=by
 rw[Zrh l i h,Zhi];simp only[Z131];rfl
def Z18z(v:ϑ)(l:List Kp)(hv:Z1r w v l)(hs:Zb5 l)(hl:l.length<1000000000):ϧ ϕ 40 #[sc1 v] w λe w'=>e=.returned (.int .i64 (chkK l))/\Mod [] w w':=by
 refine Wr (J:=[.v v,.r (l.map encK)]) Zj2 ?_;simp only[QR,ra,gK0,gK1,gK2];refine⟨λh w' hr=>⟨by rw[chkK,ϝ h],hr.mod⟩,λh=>?_⟩;rw[chkK,ϛ h];refine⟨λvs=>∃(i:Nat) (x:V),vs=[x,.i i]/\i<=l.length/\Zhi (Zzn l i) (l.drop i)=Zhi Ϭ l,λvs=>l.length - (vs.getD 1 (.i 0)).toI.toNat,⟨0,_,rfl,O,rfl⟩,?_⟩;rintro _ - ⟨i,x,rfl,hi,hg⟩;simp only[QR,ra,gK0,gK1,gK2];have hi1:((i:Int) - 1).toNat=i - 1:=O;try rw[hi1]
 refine⟨λh1=>⟨O,λb=>?_⟩,λh1 w' hr=>⟨?_,hr.mod⟩⟩
 ·rw[Zmi O]at hg;refine⟨[.i (chkT (l.getD i kD).1 ϔ)],rfl,λ_ w' _=>Zr6 w' _ (Z8r hs i),?_⟩;simp only[QR,ra,gK0,gK1,gK2];try rw[hi1]
  exact⟨λh2 w' hr=>⟨by rw[ϝ h2]at hg;rw[<- hg],hr.mod⟩,λh2=>⟨λh3 w' hr=>⟨by rw[ϛ h2,ϝ h3]at hg;rw[<- hg],hr.mod⟩,λh3=>⟨λh4 w' hr=>⟨by rw[ϛ h2,ϛ h3,ϝ h4]at hg;rw[<- hg],hr.mod⟩,λh4=>⟨λh5 w' hr=>⟨by rw[ϛ h2,ϛ h3,ϛ h4,ϝ h5]at hg;rw[<- hg],hr.mod⟩,λh5=>⟨O,O,O,O,λh6 w' hr=>⟨by rw[ϛ h2,ϛ h3,ϛ h4,ϛ h5,ϝ h6]at hg;rw[<- hg],hr.mod⟩,λh6=>⟨O,O,⟨i+1,x,rfl,O,by rw[ϛ h2,ϛ h3,ϛ h4,ϛ h5,ϛ h6]at hg;exact hg⟩,O⟩⟩⟩⟩⟩⟩
 have:i=l.length:=O;subst this;rw[δ]at hg;rw[<- hg];rfl
def Zu8(v:ϑ)(l:List Kp)(hv:Z1r w v l)(hs:Zb5 l)(hl:l.length<1000000000):ϧ ϕ 18 #[sc1 v] w λe w'=>e=.returned (.int .i64 (chkK l))/\Mod [] w w':=by
 refine Wr (J:=[.v v,.r (l.map encK)]) Z6z ?_;simp only[QR,ra,gK0,gK1,gK2];refine⟨λh w' hr=>⟨by rw[chkK,ϝ h],hr.mod⟩,λh=>?_⟩;rw[chkK,ϛ h];refine⟨λvs=>∃(i:Nat) (x:V),vs=[x,.i i]/\i<=l.length/\Zhi (Zzn l i) (l.drop i)=Zhi Ϭ l,λvs=>l.length - (vs.getD 1 (.i 0)).toI.toNat,⟨0,_,rfl,O,rfl⟩,?_⟩;rintro _ - ⟨i,x,rfl,hi,hg⟩;simp only[QR,ra,gK0,gK1,gK2];have hi1:((i:Int) - 1).toNat=i - 1:=O;try rw[hi1]
 refine⟨λh1=>⟨O,?_⟩,λh1 w' hr=>⟨?_,hr.mod⟩⟩
 ·rw[Zmi O]at hg;refine⟨[.i (chkT (l.getD i kD).1 ϔ)],rfl,λ_ w' _=>Z3f w' _ ϔ (Z8r hs i),?_⟩;simp only[QR,ra,gK0,gK1,gK2];try rw[hi1]
  refine⟨λh2 w' hr=>⟨by rw[ϝ h2]at hg;rw[<- hg],hr.mod⟩,λh2=>⟨λh3 w' hr=>⟨by rw[ϛ h2,ϝ h3]at hg;rw[<- hg],hr.mod⟩,λh3=>⟨λh4 w' hr=>⟨by rw[ϛ h2,ϛ h3,ϝ h4]at hg;rw[<- hg],hr.mod⟩,λh4=>⟨λh5 w' hr=>⟨by rw[ϛ h2,ϛ h3,ϛ h4,ϝ O]at hg;rw[<- hg],hr.mod⟩,λh5=>⟨O,O,O,O,?_⟩⟩⟩⟩⟩;rw[ϛ h2,ϛ h3,ϛ h4,ϛ O]at hg;refine⟨[.b (Z5 (l.getD (i - 1) kD).1 (l.getD i kD).1)],rfl,λ_ w' _=>Z1q w' _ _ (π (Z8r hs (i - 1)) U),?_⟩;simp only[QR,ra,gK0,gK1,gK2];exact⟨λh6 w' hr=>⟨(by rw[ϝ ⟨h6.1,Z15.1 (by simpa using h6.2)⟩]at hg;rw[<- hg]),hr.mod⟩,λh6=>⟨O,O,⟨i+1,x,rfl,O,by rw[ϛ (λh7=>h6 ⟨h7.1,by simpa using Z15.2 h7.2⟩)]at hg;exact hg⟩,O⟩⟩
 have:i=l.length:=O;subst this;rw[δ]at hg;rw[<- hg];rfl
def okK(k:Kp):Prop:=chkT k.1 ϔ=0/\k.2.1≠[]/\¬200<(k.2.1.length:Int)/\1<=k.2.2/\k.2.2<=16777215
def Z9q(l:List Kp):Prop:=l.Pairwise λa b=>Z5 a.1 b.1=ϓ
def Ze7:∀(l:List Kp) (p:Option By),Zhi p l=0↔(∀k∈l,okK k)/\Z9q l/\∀t,p=Ϻ t->∀k∈l,Z5 t k.1=ϓ
 | [],p=>by simp[Zhi,Z9q]
 | k::l,p=>by
  rw[Zhi];constructor
  ·intro h;split at h
   ·exact ϟ h O5
   rename_i h1;split at h
   ·exact ϟ h U
   rename_i h2;split at h
   ·exact ϟ h U
   rename_i h3;split at h
   ·exact ϟ h U
   rename_i h4;split at h
   ·exact ϟ h U
   rename_i h5;obtain⟨i1,i2,i3⟩:=(Ze7 l (Ϻ k.1)).1 h;refine⟨λx hx=>?_,Ϝ.2 ⟨i3 _ rfl,i2⟩,λt ht x hx=>?_⟩
   ·rcases Ϲ.1 hx with rfl|hx
    ·exact⟨qy9.1 h1,h2,h3,O,O⟩
    exact i1 x hx
   subst ht;have h6:Z5 t k.1=ϓ:=by simpa using h5
   rcases Ϲ.1 hx with rfl|hx
   ·exact h6
   exact Zf h6 (i3 _ rfl x hx)
  rintro⟨i1,i2,i3⟩;obtain⟨j1,j2⟩:=Ϝ.1 i2;obtain⟨o1,o2,o3,o4,o5⟩:=i1 k (qy8 ..);rw[ϛ (by simpa using o1),ϛ o2,ϛ o3,ϛ O,ϛ]
  ·exact(Ze7 l (Ϻ k.1)).2 ⟨λx hx=>i1 x (qy10 _ hx),j2,λt ht x hx=>by cases ht;exact j1 x hx⟩
  cases p with
  | none=>simp
  | some t=>simpa using i3 t rfl k (qy8 ..)
def Z11{l:List Kp}:chkK l=0↔l.length<=16/\(∀k∈l,okK k)/\Z9q l:=by
 unfold chkK;constructor
 ·intro h;split at h
  ·exact ϟ h U
  obtain⟨a,b,-⟩:=(Ze7 l Ϭ).1 h;exact⟨O,a,b⟩
 rintro⟨a,b,c⟩;rw[ϛ O];exact(Ze7 l Ϭ).2 ⟨b,c,λt ht=>by cases ht⟩
def Zi0{l:List Kp}(h:Z9q l)(hij:i<j)(hj:j<l.length):Z5 (l.getD i kD).1 (l.getD j kD).1=ϓ:=by rw[Z9q,List.pairwise_iff_getElem]at h;have:=h i j O hj hij;simpa[qy7 hj,qy7 (π hij hj)]using this
def idx(l:List Kp)(n:By):Nat:=(l.filter λk=>Z5 k.1 n).length
def Zwq{l:List Kp}{n:By}(hi:i<=l.length)(h1:∀j,j<i->Z5 (l.getD j kD).1 n=ϓ)(h2:∀j,i<=j->j<l.length->Z5 (l.getD j kD).1 n=ϔ):i=idx l n:=by
 have e:=(List.take_append_drop i l).symm;have f1:(l.take i).filter (λk=>Z5 k.1 n)=l.take i:=by
  rw[ϸ];intro x hx;obtain⟨j,hj,rfl⟩:=Ϸ.1 hx;have hj':j<i:=by simp at hj;omega
  have:=h1 j hj';rw[List.getElem_take];simpa[qy7 (show j<l.length by omega)]using this
 have f2:(l.drop i).filter (λk=>Z5 k.1 n)=[]:=by
  rw[List.filter_eq_nil_iff];intro x hx;obtain⟨j,hj,rfl⟩:=Ϸ.1 hx;have hj':i+j<l.length:=by simp at hj;omega
  have:=h2 (i+j) O hj';rw[List.getElem_drop];simpa[qy7 hj']using this
 rw[idx,e,Ϛ,f1,f2];simp;omega
def hasK(l:List Kp)(n:By):Bool:=decide (idx l n<l.length/\(l.getD (idx l n) kD).1=n)
def half(i j:Nat)(h:i+j<4000000000):Int.fdiv (IntKind.u64.wrap ((i:Int)+j)) (2 ^ (Nat.min (Int.toNat 1) IntKind.u64.bits))=(((i+j) / 2:Nat):Int):=by have e:(2:Int) ^ (Nat.min (Int.toNat 1) IntKind.u64.bits)=2:=U;rw[e,IntKind.wrap_u64,Int.emod_eq_of_lt O O,Int.fdiv_eq_ediv_of_nonneg _ U];omega
def Z132(v:ϑ)(l:List Kp)(n:By)(hv:Z1r w v l)(hs:Z9q l)(hl:l.length<1000000000):ϧ ϕ 54 #[sc1 v,.string ⟨n.toArray⟩] w λe w'=>e=.returned (.tuple #[.int .i64 (idx l n),.bool (hasK l n)])/\Mod [] w w':=by
 refine Wr (J:=[.v v,.r (l.map encK),.s n]) Zle ?_;simp only[QR,ra,gK0,gK1,gK2];refine⟨λvs=>∃(i j:Nat),vs=[.i i,.i j]/\i<=j/\j<=l.length/\(∀k,k<i->Z5 (l.getD k kD).1 n=ϓ)/\(∀k,j<=k->k<l.length->Z5 (l.getD k kD).1 n=ϔ),λvs=>(vs.getD 1 (.i 0)).toI.toNat - (vs.getD 0 (.i 0)).toI.toNat,⟨0,l.length,rfl,O,O,λk hk=>O,λk h1 h2=>O⟩,?_⟩;rintro _ - ⟨i,j,rfl,hij,hj,hA,hB⟩;simp only[QR,ra,gK0,gK1,gK2];refine⟨λh1=>?_,λh1=>?_⟩
 ·rw[half i j O];obtain⟨h,hh⟩:∃h,h=(i+j) / 2:=⟨_,rfl⟩
  rw[<- hh];have hh1:i<=h/\h<j:=O;simp only[qy4,gK0];refine⟨O,O,O,O,O,O,λb=>?_⟩;refine⟨[.i (Z2x (l.getD h kD).1 n)],rfl,λ_ w' _=>Z29 w' _ _,?_⟩;simp only[QR,ra,gK0,gK1,gK2];rw[Z6k];refine⟨λh2=>⟨O,O,⟨h+1,j,rfl,O,hj,λk hk=>?_,hB⟩,O⟩,λh2=>⟨⟨i,h,rfl,O,O,hA,λk hk1 hk2=>?_⟩,O⟩⟩
  ·by_cases hkh:k=h
   ·rw[hkh];exact h2
   exact Zf (Zi0 hs O O) h2
  have h3:Z5 (l.getD h kD).1 n=ϔ:=by simpa using h2
  by_cases hkh:k=h
  ·rw[hkh];exact h3
  cases h4:Z5 (l.getD k kD).1 n with
  | false=>rfl
  | true =>
   have:=Zf (Zi0 hs (i:=h) O hk2) h4;rw[h3]at this;cases this
 have hie:i=j:=O;subst hie;have e:=Zwq hj hA hB;refine⟨λh2=>⟨O,λb=>?_⟩,λh2 w' hr=>⟨?_,hr.mod⟩⟩
 ·refine⟨[.i (Z2x (l.getD i kD).1 n)],rfl,λ_ w' _=>Z29 w' _ _,?_⟩;simp only[QR,ra,gK0,gK1,gK2];intro w' hr;refine⟨?_,hr.mod⟩;rw[hasK,<- e];simp only[Z3h];congr 4;simp;intro _;omega
 rw[hasK,<- e];have:¬i<l.length:=O;simp[this]
end Go.Proofs.Y
namespace Go.Sx
open Go
variable{P:Program}(w:ϣ)
def Z5q(dT sT ty elem:TypeId)(sz:Nat)(g o dLen dCap:Nat)(a:Addr)(sLen sCap:Nat)(cur:Array ϑ)(t:TypeId)(cs:List ϑ)(q:Nat)(hq:min sLen dLen=q)(hu:P.underlying dT=Ϻ (.slice elem))(hs:(P.info? elem).map (·.size)=Ϻ sz)(hg:w.heap[g]?=Ϻ (.cells cur t (0,0)))(hn:cs.length=q*sz)(hsrc:∀j v,cs[j]?=Ϻ v->w.cell? (a.add j)=Ϻ v)(hfit:o+cs.length<=cur.size)(h1:∀v∈cs,v.oneCell'=ϓ): (Builtin.copy_ #[dT,sT] ty #[.slice (Ϻ ⟨g,o,Ϭ⟩) dLen dCap,.slice (Ϻ a) sLen sCap]).run P w = .ok (goInt q) (w.setRow g (cur.toList.take o++cs++cur.toList.drop (o+cs.length)).toArray):=by
 have hq':=hq;have hl:=run_loadCells_list (P:=P) w a cs hsrc;have hst:=run_storeCells_at P g o t cs 0 cur w hg (by simpa using hfit) h1;cases hr:P.info? elem with
 | none=>simp[hr]at hs
 | some i =>
  have hi:i.size=sz:=by simpa[hr]using hs
  simp[Builtin.copy_,run_underlying hu,Builtin.lenOf,Builtin.firstCells,sizeOf,typeInfo,hr,hi,hq',<- hn,hl,hst]
def Z1e3{α:Type}(cur cs vs:List α)(a b d:Nat)(h1:a+vs.length=b)(h2:b+cs.length=d)(h3:d<=cur.length): (cur.take b++cs++cur.drop (b+cs.length)).take a++vs++(cur.take b++cs++cur.drop (b+cs.length)).drop (a+vs.length)=cur.take a++vs++cs++cur.drop d:=by
 subst h1 h2;have e1:(cur.take (a+vs.length)++cs++cur.drop (a+vs.length+cs.length)).take a=cur.take a:=by rw[β,ϙ O3,θ,Nat.min_eq_left O]
 have e2:(cur.take (a+vs.length)++cs++cur.drop (a+vs.length+cs.length)).drop (a+vs.length)=cs++cur.drop (a+vs.length+cs.length):=by have hl:(cur.take (a+vs.length)).length=a+vs.length:=O3;rw[β,List.drop_append_of_le_length O,ϯ O,ϐ]
 rw[e1,e2];simp
def Z1e4{α:Type}(hd vs cs rest:List α)(a:Nat)(h:hd.length+vs.length=a): (hd++vs++rest).take a++cs++(hd++vs++rest).drop (a+cs.length)=hd++vs++cs++(hd++vs++rest).drop (a+cs.length):=by subst h;rw[ϙ O1,Ϡ O1]
def Zc7(z:Array ϑ)(n:Nat):(Builtin.zeroCells z n).size=n*z.size:=by simp[Builtin.zeroCells]
def Z9r{n:Nat}:∀{R:List (List ϑ)} (i:Nat),(∀r∈R,r.length=n)->R.flatten.take (i*n)=(R.take i).flatten
 | [],i,_=>O1
 | r::R,0,_=>O1
 | r::R,i+1,h=>by have h1:=h r O1;have ih:=Z9r (R:=R) i (λx hx=>h x (by simp[hx]));rw[ϫ,Ϩ,ϫ,<- ih,List.take_append,Ϡ (by rw[h1,ϰ];omega)];congr 2;rw[h1,ϰ];omega
def Z9s{n:Nat}:∀{R:List (List ϑ)} (i:Nat),(∀r∈R,r.length=n)->R.flatten.drop (i*n)=(R.drop i).flatten
 | [],i,_=>O1
 | r::R,0,_=>O1
 | r::R,i+1,h=>by have h1:=h r O1;have ih:=Z9s (R:=R) i (λx hx=>h x (by simp[hx]));rw[ϫ,List.drop_succ_cons,<- ih,List.drop_append,ϯ (by rw[h1,ϰ];omega),ϐ];congr 1;rw[h1,ϰ];omega
def Zor{ks:List Kd}{R:List (List ϑ)}(h:∀r∈R,rowOk ks r):∀x∈R.flatten,x.oneCell'=ϓ:=by intro x hx;obtain⟨row,hr,hx⟩:=List.mem_flatten.1 hx;exact(h row hr).one x hx
def Zzo(r:Option Nat):w.grownBy w r:=⟨rfl,rfl,rfl,Ϟ _,λ_ _ _=>rfl⟩
def Zc8(w':ϣ)(s v':ϑ)(ty:Nat)(ks:List Kd)(R:List (List ϑ)):Prop :=
 owns w' v' ty ks R/\(∀k,Z1 v' k->Z1 s k\/w.heap.size<=k)/\w.grownBy w' s.ownBlock
variable{n:Nat}
def Zos{z:Array ϑ}(hz:0<z.size)(h:∀v∈z.toList,v.oneCell'=ϓ):∀v∈(Builtin.zeroCells z n).toList,v.oneCell'=ϓ:=by intro v hv;simp only[Builtin.zeroCells,Array.toList_map,List.mem_map]at hv;obtain⟨i,-,rfl⟩:=hv;have hlt:i % z.size<z.size:=Nat.mod_lt _ hz;rw[getElem!_pos z _ hlt];exact h _ (Array.getElem_mem_toList hlt)
def Z22{ops:Array Oper}{o:Oper}{a:Act}{w:ϣ}{K:Act->ϣ->Prop}{Q:Exit->Act->ϣ->Prop}{E:Prop}(hg:o.guard=Ϭ)(d x:Operand)(dT sT:TypeId)(hop:o.op=Op.call { callee:=Callee.builtin Builtin.append,args:=#[d,x],argTypes:=#[dT,sT] })
  (v u:ϑ) (hd:a.eval d=v) (hx:a.eval x=u) {v':ϑ} {w':ϣ} (hr:(Builtin.append_ #[dT,sT] o.type #[v,u]).run P w=.ok v' w') (hK:K (a.put o.dst v') w') :
  if Region.wanted o (yielded ops a.tmps)=ϓ then Oper.wp P o a w K Q else E:=by
 have hw:Region.wanted o (yielded ops a.tmps)=ϓ:=by simp[Region.wanted,hg]
 rw[ϝ hw];unfold Oper.wp;simp[execOp,hop,resolve,invoke,builtin,hd,hx,hr,Result.andThen];exact hK
variable{v':ϑ}
def Z1t{ops:Array Oper}{rest:List Oper}{o:Oper}{a:Act}{Q:Exit->Act->ϣ->Prop}(hgd:o.guard=Ϭ)(d:Operand)(t:TypeId)(ho:o.op=.call { callee:=.builtin .clear,args:=#[d],argTypes:=#[t] })(v:ϑ)(hd:a.eval d=v){w':ϣ}
  (hr:(Builtin.clear_ #[t] o.type #[v]).run P w=.ok v' w') (h:wpList P ops Q rest (a.put o.dst v') w'):wpList P ops Q (o::rest) a w :=
 wpList_plain hgd λ_ hK=>by unfold Oper.wp execOp;simp only[ho,resolve,invoke,builtin,Sem.run_bind,Sem.run_pure,Result.andThen_ok,List.map_toArray,List.map_cons,List.map_nil,hd,hr];exact hK _ _ h
