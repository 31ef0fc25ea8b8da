/-
  Texts of mine, one behind the other. By an AI agent.
-/
import Derived.Test.YtkhakgbnfapifaaGreatDoorW17
import Derived.Test.YtkhakgbnfapifaaGreatDoorW14
import Derived.Test.YtkhakgbnfapifaaGreatDoorW11
import Derived.Test.YtkhakgbnfapifaaGreatDoorW09
import Derived.Test.YtkhakgbnfapifaaGreatDoorW12
set_option linter.unusedSimpArgs false
set_option linter.unusedVariables false
set_option maxHeartbeats 20000000
namespace Go.Proofs.YtkhakgbnfapifaaGreatDoor
open Go.Sx
def Zx6 (s:Snt):Prop:=(s.client=[]/\chk s.msg=0/\s.pk=pD_Q 0)\/(¬s.client=[]/\chkP s.pk=0/\s.msg=mNil/\s.peer=0)
def Z1t (l:List Snt):Prop:=∀s∈l,Zx6 s
theorem Z1t.nil:Z1t []:=fun s hs=>absurd hs (by simp)
theorem Z1t.app {a b:List Snt} (ha:Z1t a) (hb:Z1t b):Z1t (a++b):=fun s hs=>(qy13.1 hs).elim (ha s) (hb s)
theorem Z1t.one {s:Snt} (h:Zx6 s):Z1t [s]:=fun x hx=>by rw[qy12.1 hx];exact h
theorem Z19o {c:List UInt8} (h:Zm c=true):¬c=[]:=by rintro rfl;exact absurd h (by decide)
theorem Z7e {c:List UInt8} {p:Pkt} (hc:Zm c=true) (hp:chkP p=0):Zx6 (toC c p):=.inr ⟨Z19o hc,hp,rfl,rfl⟩
theorem Zes {n:Int} {m:Msg} (hm:chk m=0):Zx6 (toP n m):=.inl ⟨rfl,hm,rfl⟩
def pkOk (k:Pk):Prop:=flE (0,k.2.2.2.1,k.2.2.2.2)=0/\((k.2.1=0/\k.1=false/\k.2.2.1=0)\/(k.2.1=1/\1<=k.2.2.1/\k.2.2.1<=65535))
theorem Z12f {p:Pkt} (hk:p.kind=3) (h0:p.clean=false/\p.session=false/\p.keep=0/\p.code=0/\p.client=[]/\p.asks=[]/\p.codes=[]) (hf:flE (0,p.topic,p.payload)=0) (hq:(p.qos=0/\p.dup=false/\p.id=0)\/(p.qos=1/\1<=p.id/\p.id<=65535)):chkP p=0:=by
 have hc:chkT p.topic false=0/\¬200<(p.payload.length:Int):=by
  unfold flE at hf;split at hf
  ·rename_i h1;split at hf
   ·exact absurd hf (by decide)
   ·exact⟨h1,by assumption⟩
  ·exact absurd hf (by assumption)
 have hp:pubE p=0:=by
  unfold pubE;rw[if_pos hc.1,if_neg hc.2];rcases hq with ⟨h1,h2,h3⟩|⟨h1,h2⟩
  ·rw[if_pos (by omega),if_neg (by rintro⟨-,h4|h4⟩;(· rw[h2]at h4;cases h4);(· exact h4 h3))]
  ·rw[if_pos (by omega),if_neg (by omega)]
 unfold chkP;have hb:Z1r p=pD_Q p.kind:=by obtain⟨a,b,c,d,e,f,g⟩:=h0;unfold Z1r;rw[if_neg (by omega),if_neg (by omega),if_pos hk];cases p;simp_all
 rw[if_pos (by rw[hk];decide),if_pos (by rw[Z89,hb];exact decide_eq_true rfl),if_neg (by rintro⟨-,h⟩;exact h hp),if_neg,Z21,if_neg (by omega),if_neg (by omega),if_pos hk,hp];rintro⟨h1,h2⟩;have h1:=of_decide_eq_true h1;rcases hq with ⟨h3,-⟩|⟨h3,h4⟩
 ·omega
 ·exact h2 h4
theorem Z15r {k:Pk} (h:pkOk k):chkP (pkOf k)=0:=Z12f rfl ⟨rfl,rfl,rfl,rfl,rfl,rfl,rfl⟩ h.1 h.2
theorem Zmq {c:List UInt8} {l:List Pk} (hc:Zm c=true) (h:∀k∈l,pkOk k):Z1t (l.map fun k=>toC c (pkOf k)):=fun s hs=>by obtain⟨k,hk,rfl⟩:=List.mem_map.1 hs;exact Z7e hc (Z15r (h k hk))
theorem Zil (on:Bool):∀(qu fl:List Fl) (next:Int) (out:List Pk),(∀f∈qu,flE f=0)->(1<=next/\next<=65535)->(∀k∈out,pkOk k)->∀k∈(flyR on fl qu next out).2.2.2,pkOk k
 | [],fl,next,out,_,_,h=>by simpa [flyR]using h
 | f::q,fl,next,out,hq,hn,h=>by
  rw[flyR];split
  ·have hid:=Zlv (fl:=fl) hn;refine Zil on q _ _ _ (fun x hx=>hq x (qy10 _ hx)) (Zhm hid).1 fun k hk=>?_;rcases qy13.1 hk with hk|hk
   ·exact h k hk
   ·rw[qy12.1 hk];exact⟨hq f (qy8 ..),.inr ⟨rfl,hid⟩⟩
  ·exact h
theorem Z15s {s:Ses} {n p:List UInt8} {q:Int} (h:SesOk s) (hp:flE (0,n,p)=0):∀k∈(Z2s s n p q).2,pkOk k:=by
 unfold Z2s;split
 ·intro k hk;rw[qy12.1 hk];exact⟨hp,.inl ⟨rfl,rfl,rfl⟩⟩
 ·split
  ·refine Zil _ _ _ _ _ (fun f hf=>?_) h.next (by simp);rcases qy13.1 hf with hf|hf
   ·exact(h.qu f hf).1
   ·rw[qy12.1 hf];exact hp
  ·simp
theorem Z15t {s:Ses} (h:SesOk s):∀k∈(Zfa s).2,pkOk k:=by
 intro k hk;rcases qy13.1 hk with hk|hk
 ·obtain⟨f,hf,rfl⟩:=List.mem_map.1 hk;have:=h.fl.each f hf;exact⟨this.1,.inr ⟨rfl,this.2⟩⟩
 ·exact Zil true s.qu s.fl s.next [] (fun f hf=>(h.qu f hf).1) h.next (by simp) k hk
theorem Z15u {s:Ses} {id:Int} (h:SesOk s):∀k∈(Z4r s id).2,pkOk k:=Zil s.on s.qu (Z77 s.fl id) s.next [] (fun f hf=>(h.qu f hf).1) h.next (by simp)
theorem Zko {m:Msg} (hk:0<=m.kind/\m.kind<=3) (hc:1<=m.code/\m.code<=255) (hi:0<=m.id/\m.id<=65535) (ht:m.tok.length<=8) (hp:m.pay.length<=200) (ho:m.opts=[]\/∃v:List UInt8,v.length<=60/\m.opts=[(6,v)]):chk m=0:=by
 refine Z79.2 ⟨hk,⟨by omega,by omega,hi.1,hi.2⟩,⟨ht,?_,hp⟩,?_,fun h=>by omega⟩
 ·rcases ho with h|⟨v,-,h⟩<;>rw[h]<;>simp
 ·rcases ho with h|⟨v,hv,h⟩
  ·rw[h];rfl
  ·rw[h]
   show (if (0:Int)<=6/\(6:Int)<=65535 then (if (6:Int)<0 then 4 else if 60<(v.length:Int) then 2 else optE 6 []) else 3)=0
   rw[if_pos (by decide),if_neg (by decide),if_neg (by omega)];rfl
theorem Zx7 {m:Msg} {n:Int} (h:m.opts=[]):(putM m n).opts=[(6,Z2b n)]:=by simp[putM,h,Z109,noN,upTo,past]
theorem Z119 {n:Int}:(Z2b n).length<=3:=by
 have h1:(Z2b n).length<=(numB 3 n).length:=by unfold Z2b;exact(List.dropWhile_suffix _).length_le
 have h2:(numB 3 n).length=3:=by simp[numB]
 omega
theorem Zpf {m:Msg} {n:Int} (hk:0<=m.kind/\m.kind<=3) (hc:1<=m.code/\m.code<=255) (hi:0<=m.id/\m.id<=65535) (ht:m.tok.length<=8) (hp:m.pay.length<=200) (ho:m.opts=[]):chk (putM m n)=0 :=
 Zko (m:=putM m n) hk hc hi ht hp (.inr ⟨_,by have:=@Z119 n;omega,Zx7 ho⟩)
theorem Z12g {l:List Wat} (h:Z1e l=0) {w:Wat} (hw:w∈l):w.2.1.length<=8/\(0<=w.2.2.2/\w.2.2.2<=16777215):=by
 obtain⟨h1,h2⟩:=(Z11.1 h).2.1 w hw;refine⟨?_,h2⟩;unfold Z6m at h1;split at h1
 ·split at h1
  ·exact absurd h1 (by decide)
  ·omega
 ·exact absurd h1 (by decide)
theorem Z186 {n p:List UInt8} (hf:flE (0,n,p)=0):p.length<=200:=by
 unfold flE at hf;split at hf
 ·split at hf
  ·exact absurd hf (by decide)
  ·rename_i h1;simp only at h1;omega
 ·exact absurd hf (by assumption)
theorem Zgt {n p:List UInt8} {q:Int} (hp:flE (0,n,p)=0):∀(rs:List Rd) {t:Tel},BOk t->(∀r∈rs,hasS t.sess r.1=true)->Z1t t.out->Z1t (rs.foldl (Z1s n p q) t).out
 | [],t,_,_,ho=>ho
 | r::rs,t,h,hr,ho=>by obtain⟨a,b,c⟩:=Zoz (q:=q) h hp (hr r (qy8 ..));have h0:=hr r (qy8 ..);have hs:=Zak h h0;refine Zgt hp rs a (fun x hx=>by rw[Zej h.sort b];exact hr x (qy10 _ hx)) (ho.app (Zmq ?_ (Z15s hs hp)));have:=hs.cl;rw[(Z7b h0).2]at this;exact this
theorem Zgu {p:List UInt8} (hp:p.length<=200):∀(l:List Wat) {t:Tel},0<=t.next/\t.next<=65535->(∀w∈l,w.2.1.length<=8)->Z1t t.out->Z1t (l.foldl (Z6x p) t).out
 | [],t,_,_,ho=>ho
 | w::l,t,h,hl,ho=>Zgu hp l (Zek _ h.1) (fun x hx=>hl x (qy10 _ hx)) (ho.app (.one (Zes (Zpf (by simp) (by simp) h (hl w (qy8 ..)) hp rfl))))
theorem Zkp {t:Tel} {n p:List UInt8} {q:Int} (h:BOk t) (hp:flE (0,n,p)=0) (ho:Z1t t.out):Z1t (Z83 n p q t).out:=by obtain⟨a,b,c,d1,d2,d3,d4⟩:=Zal (q:=q) hp (rdOf n t.wants) h (Z6h h n);refine Zgu (Z186 hp) _ a.next (fun w hw=>?_) (Zgt hp _ h (Z6h h n) ho);unfold Z4f at hw;obtain⟨x,hx,rfl⟩:=List.mem_map.1 hw;have:=(Z12g a.wat (List.mem_filter.1 hx).1).1;unfold Z76;split<;>exact this
theorem Zgv:∀(l:List Wat) {t:Tel},0<=t.next/\t.next<=65535->(∀w∈l,w.2.1.length<=8)->Z1t t.out->Z1t (l.foldl Zag t).out
 | [],t,_,_,ho=>ho
 | w::l,t,h,hl,ho=>Zgv l (Zek _ h.1) (fun x hx=>hl x (qy10 _ hx)) (ho.app (.one (Zes (Zko (by simp) (by simp) h (hl w (qy8 ..)) (by simp) (.inl rfl)))))
theorem Zet {t:Tel} {n p:List UInt8} (h:BOk t) (ho:Z1t t.out):Z1t (Z25 n p t).1.out:=by
 unfold Z25;split
 ·exact ho
 split
 ·exact ho
 ·exact Zgv _ (t:={ t with kept:=(rawK t.kept n p).1 }) h.next (fun w hw=>(Z12g h.wat (List.mem_filter.1 hw).1).1) ho
theorem Z11a {k:Kp} (h:okK k):flE (0,k.1,k.2.1)=0:=by rw[flE,if_pos h.1,if_neg h.2.2.1]
theorem Zpg {c:List UInt8} (hc:Zm c=true) {kept:List Kp} (h:chkK kept=0):∀(l:List Ak) (m:List Int),Z1t (Z3m c kept l m)
 | [],_=>by simp only[Z3m];exact .nil
 | _::_,[]=>by simp only[Z3m];exact .nil
 | a::l,q::m=>by
  rw[Z3m];refine Z1t.app ?_ (Zpg hc h l m);unfold Zm9;split
  ·exact .nil
  ·intro s hs;obtain⟨k,hk,rfl⟩:=List.mem_map.1 hs;exact Z7e hc (Z12f rfl ⟨rfl,rfl,rfl,rfl,rfl,rfl,rfl⟩ (Z11a ((Z1c.1 h).2.1 k (List.mem_filter.1 hk).1)) (.inl ⟨rfl,rfl,rfl⟩))
theorem Zgw {c:List UInt8}:∀(l:List Ak) {x:List Wt×List Int},Zgm l->(∀q∈x.2,q=0\/q=1\/q=128)->(∀q∈(l.foldl (Z30 c) x).2,q=0\/q=1\/q=128)/\(l.foldl (Z30 c) x).2.length=x.2.length+l.length
 | [],x,_,h=>⟨h,rfl⟩
 | a::l,x,hl,h=>by
  have ha:=(hl a (qy8 ..)).2;have h1:(∀q∈(Z30 c x a).2,q=0\/q=1\/q=128)/\(Z30 c x a).2.length=x.2.length+1:=by
   unfold Z30;split
   ·refine⟨fun q hq=>?_,by simp⟩;rcases qy13.1 hq with hq|hq
    ·exact h q hq
    ·rw[qy12.1 hq];omega
   ·refine⟨fun q hq=>?_,by simp⟩;rcases qy13.1 hq with hq|hq
    ·exact h q hq
    ·rw[qy12.1 hq];omega
  obtain⟨h2,h3⟩:=Zgw (c:=c) l (fun y hy=>hl y (qy10 _ hy)) h1.1;refine⟨h2,?_⟩;rw[List.foldl_cons,h3,h1.2,List.length_cons];omega
theorem Zmr {p:Pkt} (h1:Z58 p.kind=true) (h2:Z1r p=pD_Q p.kind) (h3:¬p.kind=3) (h4:1<=p.id/\p.id<=65535):chkP p=Z21 p:=by unfold chkP;rw[if_pos h1,if_pos (show Z89 (Z1r p)=true by rw[Z89,h2];exact decide_eq_true rfl),if_neg (fun h=>h3 h.1),if_neg (fun h=>h.2 h4)]
theorem Z187 {k id:Int} (hk:k=4\/k=11) (h:1<=id/\id<=65535):chkP { pD_Q k with id:=id }=0:=by
 rcases hk with rfl|rfl
 ·exact(Zmr (p:={ pD_Q 4 with id:=id }) (show Z58 4=true by decide) rfl (show ¬(4:Int)=3 by decide) h).trans rfl
 ·exact(Zmr (p:={ pD_Q 11 with id:=id }) (show Z58 11=true by decide) rfl (show ¬(11:Int)=3 by decide) h).trans rfl
theorem Zx8 {id:Int} {cs:List Int} (h:1<=id/\id<=65535) (hn:1<=cs.length/\cs.length<=5) (hc:∀q∈cs,q=0\/q=1\/q=128):chkP { pD_Q 9 with id:=id,codes:=cs }=0:=by
 rw[Zmr (p:={ pD_Q 9 with id:=id,codes:=cs }) (show Z58 9=true by decide) rfl (show ¬(9:Int)=3 by decide) h]
 show Zby { pD_Q 9 with id:=id,codes:=cs }=0
 have hcnt:Z3p cs.length=0:=by unfold Z3p;rw[if_neg (by omega),if_neg (by omega)]
 unfold Zby;rw[if_pos hcnt,if_neg];simp only[Bool.not_eq_true,List.any_eq_false];intro q hq;rcases hc q hq with rfl|rfl|rfl<;>decide
theorem Zgx {code:Int} {s:Bool} (h:(code=3/\s=false)\/code=0):chkP { pD_Q 2 with code:=code,session:=s }=0:=by
 rcases h with ⟨rfl,rfl⟩|rfl
 ·decide
 ·cases s<;>decide
theorem Zms {t:Tel} (h:BOk t) {c:List UInt8} (hc:Zm c=true) {p:Pkt} (hp:chkP p=0) (ho:Z1t t.out):Z1t (Z1f c p t).out:=by
 unfold Z1f;split
 ·exact ho
 rename_i h1;split
 ·unfold Z3j;split
  ·exact ho
  split
  ·exact ho.app (.one (Z7e hc (Zgx (.inl ⟨rfl,rfl⟩))))
  ·obtain⟨a,b⟩:=Zie h hc p.clean;exact(ho.app (.one (Z7e hc (Zgx (.inr rfl))))).app (Zmq hc (Z15t a))
 rename_i h2;have h3:hasS t.sess c=true/\(t.sess.getD (idxS t.sess c) s0).on=true:=⟨Classical.byContradiction fun h4=>h1 ⟨h2,.inl h4⟩,Classical.byContradiction fun h4=>h1 ⟨h2,.inr h4⟩⟩
 obtain⟨p1,p2,p3,-⟩:=Zep hp;split
 ·rename_i h4;obtain⟨q1,q2,q3,q4,hf⟩:=Zwf (p2 h4);obtain⟨t1,e1,k1,o1⟩:∃t1:Tel,t1=(if p.qos=1 then { t with out:=t.out++[toC c { pD_Q 4 with id:=p.id }] } else t)/\BOk t1/\Z1t t1.out:=by
   refine⟨_,rfl,?_⟩;split
   ·rename_i h5;exact⟨h.out _,ho.app (.one (Z7e hc (Z187 (.inl rfl) (p3 (decide_eq_true (.inl ⟨h4,h5⟩))))))⟩
   ·exact⟨h,ho⟩
  obtain⟨t2,e2,k2,o2⟩:∃t2:Tel,t2=(if p.retain=true then (Z25 p.topic p.payload t1).1 else t1)/\BOk t2/\Z1t t2.out:=by
   refine⟨_,rfl,?_⟩;split
   ·exact⟨(Z54 k1 q1).1,Zet k1 o1⟩
   ·exact⟨k1,o1⟩
  have e:Z3y c p t=Z83 p.topic p.payload p.qos t2:=by rw[e2,e1];rfl
  rw[e];exact Zkp k2 hf o2
 split
 ·exact ho.app (Zmq hc (Z15u (Zak h h3.1)))
 split
 ·rename_i h4;obtain⟨a,b1,b2⟩:=Zp5 hp h4;obtain⟨c1,c2⟩:=Zgw (c:=c) p.asks (x:=(t.wants,[])) a (by simp);simp only[List.length_nil,Nat.zero_add]at c2;exact(ho.app (.one (Z7e hc (Zx8 (p3 (decide_eq_true (by omega))) (by rw[c2];exact⟨b1,b2⟩) c1)))).app (Zpg hc h.kept _ _)
 split
 ·exact ho.app (.one (Z7e hc (Z187 (.inr rfl) (p3 (decide_eq_true (by omega))))))
 split
 ·exact ho.app (.one (Z7e hc (by decide)))
 split
 ·rw[(Zcy h c).2];exact ho
 ·exact ho
theorem Zkq {m a:Msg} (hm:chk m=0) {next:Int} (hn:0<=next/\next<=65535) (ha:a=Z4h m next):(0<=a.kind/\a.kind<=3)/\(0<=a.id/\a.id<=65535)/\a.tok.length<=8/\a.pay=[]/\a.opts=[]/\a.code=133:=by
 obtain⟨-,m1,m2,-⟩:=Z79.1 hm;subst ha;unfold Z4h;split
 ·exact⟨by simp,hn,m2.1,rfl,rfl,rfl⟩
 ·exact⟨by simp,⟨m1.2.2.1,m1.2.2.2⟩,m2.1,rfl,rfl,rfl⟩
theorem Z11b {t:Tel} (h:BOk t) {name:List UInt8} (hk:hasK t.kept name=true):(t.kept.getD (idx t.kept name) kD).2.1.length<=200:=by
 obtain⟨h1,h2⟩:=of_decide_eq_true hk;have hm:t.kept.getD (idx t.kept name) kD∈t.kept:=by rw[qy1,qy7 h1];exact List.getElem_mem h1
 have:=((Z1c.1 h.kept).2.1 _ hm).2.2.1;omega
theorem Z15v {t:Tel} (h:BOk t) {n:Int} {m a:Msg} (hm:chk m=0) {next:Int} (hn:0<=next/\next<=65535) (ha:a=Z4h m next) (ho:Z1t t.out):Z1t (doB n m a t).1.out/\chk (doB n m a t).2=0:=by
 obtain⟨a1,a2,a3,a4,a5,a6⟩:=Zkq hm hn ha;have hcode:∀code:Int,1<=code/\code<=255->chk { a with code:=code }=0:=fun code hc=>Zko (m:={ a with code:=code }) a1 hc a2 a3 (by simp[a4]) (.inl a5);unfold doB;split
 ·exact⟨ho,hcode _ (by decide)⟩
 rename_i h1;have hp:=Zeq (qy9.1 h1);split
 ·unfold getB;split
  ·exact⟨ho,hcode _ (by decide)⟩
  rename_i h0;have hk:=Z11b h (qy9.1 h0);have hb:chk { a with code:=69,pay:=(t.kept.getD (idx t.kept (Z1p m.opts).1) kD).2.1 }=0:=Zko (m:={ a with code:=69,pay:=(t.kept.getD (idx t.kept (Z1p m.opts).1) kD).2.1 }) a1 (show (1:Int)<=69/\(69:Int)<=255 by decide) a2 a3 hk (.inl a5);simp only;split
  ·split
   ·exact⟨ho,Zpf (m:={ a with code:=69,pay:=(t.kept.getD (idx t.kept (Z1p m.opts).1) kD).2.1 }) a1 (show (1:Int)<=69/\(69:Int)<=255 by decide) a2 a3 hk a5⟩
   ·exact⟨ho,hb⟩
  ·split
   ·exact⟨ho,hb⟩
   ·exact⟨ho,hb⟩
 split
 ·split
  ·have k1:=(Z54 (p:=m.pay) h hp).1;have hf:flE (0,(Z1p m.opts).1,m.pay)=0:=by
    have:=(Z79.1 hm).2.2.1.2.2;rw[flE,if_pos hp,if_neg (by simp only;omega)]
   exact⟨Zkp k1 hf (Zet h ho),hcode _ (by decide)⟩
  ·exact⟨ho,hcode _ (by decide)⟩
 split
 ·exact⟨Zet h ho,hcode _ (by decide)⟩
 ·refine⟨ho,?_⟩;have:=hcode 133 (by decide);rwa [show ({ a with code:=133 }:Msg)=a from by rw[<- a6]]at this
theorem Zkr {t:Tel} (h:BOk t) {n:Int} {m:Msg} (hm:chk m=0) (ho:Z1t t.out):Z1t (Z50 n m t).out:=by
 have h':BOk { t with next:=if m.kind=1 then nx_Z t.next else t.next,out:=t.out++[toP n (Z4h m t.next)] }:=by
  refine⟨h.kept,h.wants,h.ns,h.ses,h.sort,h.wat,h.has,h.kpt,?_⟩
  show 0<=(if m.kind=1 then nx_Z t.next else t.next)/\(if m.kind=1 then nx_Z t.next else t.next)<=65535
  split
  ·exact Zek _ h.next.1
  ·exact h.next
 have hc:chk (Z4h m t.next)=0:=by obtain⟨a1,a2,a3,a4,a5,a6⟩:=Zkq hm h.next rfl;exact Zko a1 (by omega) a2 a3 (by rw[a4];simp) (.inl a5)
 obtain⟨a,b⟩:=Z15v (n:=n) h' hm h.next rfl (ho.app (.one (Zes hc)));intro s hs;rcases List.mem_or_eq_of_mem_set hs with hs|rfl
 ·exact a s hs
 ·exact Zes b
theorem Zks {t:Tel} (h:BOk t) {n:Int} {m:Msg} (hm:chk m=0) (ho:Z1t t.out):Z1t (Z1d n m t).out:=by
 unfold Z1d;split
 ·rename_i h1;obtain⟨-,m1,-⟩:=Z79.1 hm;refine ho.app (.one (Zes (Z79.2 ⟨by simp,⟨by simp,by simp,m1.2.2⟩,by simp,rfl,fun _=>⟨rfl,rfl,rfl⟩⟩)))
 split
 ·exact Zkr h hm ho
 ·exact ho
theorem Z15w (k:Int) (h:0<=k/\k<=15):IntKind.i64.wrap (k*2 ^ (Nat.min (Int.toNat 4) IntKind.i64.bits))=16*k:=by
  have:∀x:Fin 16,IntKind.i64.wrap ((x.val:Int)*2 ^ (Nat.min (Int.toNat 4) IntKind.i64.bits))=16*(x.val:Int):=by decide +kernel
  have:=this ⟨k.toNat,by omega⟩;simpa only[Int.toNat_of_nonneg h.1]using this
theorem Zx9 (k:Int) (h:k=8\/k=10):Z14 .or .i64 (16*k) 2=16*k+2:=by rcases h with rfl|rfl<;>decide +kernel
theorem Z15x (q:Int) (h:0<=q/\q<=3) (d r:Bool):Z14 .or .i64 (16*3) (Z14 .or .i64 (Z14 .or .i64 (bit d 8) (IntKind.i64.wrap (q*2 ^ (Nat.min (Int.toNat 1) IntKind.i64.bits)))) (bit r 1))=16*3+(bit d 8+2*q+bit r 1):=by
  have:∀(x:Fin 4) (d r:Bool),Z14 .or .i64 (16*3) (Z14 .or .i64 (Z14 .or .i64 (bit d 8) (IntKind.i64.wrap ((x.val:Int)*2 ^ (Nat.min (Int.toNat 1) IntKind.i64.bits)))) (bit r 1))=16*3+(bit d 8+2*(x.val:Int)+bit r 1):=by decide +kernel
  have:=this ⟨q.toNat,by omega⟩ d r;simpa only[Int.toNat_of_nonneg h.1]using this
section
variable (w:World) (p:Pkt) (u v:Value)
theorem Z11c (hu:Z36 w u p.asks) (hv:Z2h w v p.codes) (hk:0<=p.kind/\p.kind<=15) (hq:0<=p.qos/\p.qos<=3):Calls Tryz.prog 250 #[pV p u v] w fun e w'=>e=.returned (.int .i64 (Z1o p))/\Mod [] w w':=by
  refine Z1 (Z4 (ρ:=[.i p.kind,.b p.dup,.b p.retain,.b p.clean,.b p.session,.i p.qos,.i p.id,.i p.keep,.i p.code,.s p.client,.s p.topic,.s p.payload,.v u,.r (p.asks.map encA),.v v,.r (p.codes.map Zg)]) sxE_ok Tryz.func250 Zb6 rfl rfl (Rel.start2 (by simp[Ent.holds,Ent.wr,hu,hv,X.ev])) rfl rfl ?_) rfl;simp only[Tree.goal,X.P,X.ev,SV.ev,CV.ev,Sc.ev,qz,QA,QB,QL,QM];rw[Z15w _ hk];intro b;have pub:p.kind=3->∀d r:Int,d=bit p.dup 8->r=bit p.retain 1->Value.int .i64 (Z14 .or .i64 (16*p.kind) (Z14 .or .i64 (Z14 .or .i64 d (IntKind.i64.wrap (p.qos*2 ^ (Nat.min (Int.toNat 1) IntKind.i64.bits)))) r))=.int .i64 (Z1o p):=fun h d r hd hr=>by rw[hd,hr,h,Z15x _ hq,Z1o,if_pos h,h]
  have d1:p.dup=true->(8:Int)=bit p.dup 8:=fun h=>by simp[bit,h]
  have d0:¬p.dup=true->(0:Int)=bit p.dup 8:=fun h=>by simp[bit,h]
  have r1:p.retain=true->(1:Int)=bit p.retain 1:=fun h=>by simp[bit,h]
  have r0:¬p.retain=true->(0:Int)=bit p.retain 1:=fun h=>by simp[bit,h]
  refine⟨fun h=>?_,fun h=>⟨fun h1 w' hr=>⟨?_,hr.mod⟩,fun h1=>⟨fun h2 w' hr=>⟨?_,hr.mod⟩,fun h2 w' hr=>⟨?_,hr.mod⟩⟩⟩⟩
  . have pub:=pub h;repeat' (first|(intro _)|(apply And.intro))
    all_goals (first|exact Rel.mod ‹_› | exact congrArg _ (pub _ _ (d1 ‹_›) (r1 ‹_›))|exact congrArg _ (pub _ _ (d1 ‹_›) (r0 ‹_›))|exact congrArg _ (pub _ _ (d0 ‹_›) (r1 ‹_›))|exact congrArg _ (pub _ _ (d0 ‹_›) (r0 ‹_›)))
  . rw[Zx9 _ (.inl h1),Z1o,if_neg h,if_pos (.inl h1)]
  . rw[Zx9 _ (.inr h2),Z1o,if_neg h,if_pos (.inr h2)]
  . rw[Z1o,if_neg h,if_neg (by omega),Int.add_zero]
theorem Zxa {p:Pkt} (hk:0<=p.kind/\p.kind<=15) (hq:0<=p.qos/\p.qos<=3):0<=Z1o p/\Z1o p<1000:=by
  unfold Z1o bit;split
  . split<;>split<;>omega
  . split<;>omega
theorem Zim (hu:Z36 w u p.asks) (hv:Z2h w v p.codes) (hB:ByteP p):Calls Tryz.prog 194 #[pV p u v] w fun e w'=>e=.returned (.string ⟨(Z1b p).toArray⟩)/\Mod [] w w':=by
  refine Z1 (Zjh (ρ:=[.i p.kind,.b p.dup,.b p.retain,.b p.clean,.b p.session,.i p.qos,.i p.id,.i p.keep,.i p.code,.s p.client,.s p.topic,.s p.payload,.v u,.r (p.asks.map encA),.v v,.r (p.codes.map Zg)]) sxE_ok Tryz.func194 Zbc rfl rfl (Rel.start2 (by simp[Ent.holds,Ent.wr,hu,hv,X.ev])) rfl rfl ?_) rfl;have hb:=hB.body;have hf:=Zxa hB.kind hB.qos;simp only[Tree.goal,X.P,X.ev,SV.ev,CV.ev,Sc.ev,qz,QA,QB,QC,QE,QF,QL,QM];intro bc bw w1 hr;refine(Z152 w1 bw p u v (.pointer none) (.slice none 0 0) (hr.at_ 2 rfl) (hr.at_ 3 rfl) hB ⟨hr.at_ 0 rfl,.inl rfl,⟨by simp[byW],World.ownsRow_nil _ _ _ _⟩⟩
    (fun k hk=>⟨fun e=>Zn.disj hr.sep (i:=2) (j:=0) rfl rfl (by decide) (.inr rfl) (k:=k) hk e,fun hb=>by cases hb⟩)
    (fun k hk=>⟨fun e=>Zn.disj hr.sep (i:=3) (j:=0) rfl rfl (by decide) (.inr rfl) (k:=k) hk e,fun hb=>by cases hb⟩)).mono ?_
  rintro e w2 ⟨rfl,p1,q1,s1,m1,f1⟩;refine⟨[.v p1,.v q1,.r (byW _)],rfl,rfl,m1,qy2.2 ⟨s1.cells,qy5 _⟩,qy2.2 ⟨⟨s1.own,fun z hz=>.inl ((f1 z hz).resolve_right (by simp[Value.ownBlock]))⟩,qy5 _⟩,Z3,?_⟩;simp only[qz,QL,QM];refine⟨[.i (Z1o p)],rfl,fun _ w' hr=>Z11c w' p u v (hr.at_ 3 rfl) (hr.at_ 4 rfl) hB.kind hB.qos,?_⟩;simp only[qz,QA,QL,QM];refine⟨[.s (numB 1 (Z1o p))],rfl,fun _ w' _=>Z57 w' _ 1 (by omega) (by omega) (by omega),?_⟩;simp only[qz,QC,QL,QM];intro w3 hr;have hq1:=s1.own.reads.sc1;have hc:=hr.at_ 1 rfl;simp only[Ent.holds,X.ev,Sc.ev,qz,QE,QF,s1.ok.sc1,hq1]at hc;have hlen:(byW (Z28 p)).length=(Z28 p).length:=by simp[byW]
  refine(Z14v 262 bw p1 q1 [] (byW (Z28 p)) w3 hc (hr.at_ 0 rfl)).mono ?_;rintro e w4 ⟨rfl,rfl⟩;rw[hlen];have cells1:=hr.at_ 1 rfl;have own1:=hr.at_ 0 rfl;refine⟨[.i ((Z28 p).length:Nat),.v p1,.v q1,.r (byW (Z28 p))],rfl,rfl,Mod.refl _ _,qy2.2 ⟨cells1,qy5 _⟩,qy2.2 ⟨⟨own1,fun z hz=>.inr (.inr ?_)⟩,qy5 _⟩,Z3,?_⟩
  . have hz:q1.ownBlock=some z:=hz;simp only[Z10,List.flatMap_cons,List.flatMap_nil,List.append_nil,qz,QE];rw[hz];simp
  simp only[qz,QA,QL,QM];refine⟨[.s (lngB 3 (Z28 p).length)],rfl,fun _ w' _=>Zm0 w' 3 _ (by omega) (by show _<268435456;exact hb),?_⟩;simp only[qz,QC,QL,QM,qy11,Zb];have hll:(lngB 3 (Z28 p).length).length<=4:=Zoa 3 _;refine⟨by omega,?_⟩;intro w5 hr;have hc:=hr.at_ 1 rfl;simp only[Ent.holds,X.ev,Sc.ev,qz,QE,QF,s1.ok.sc1,hq1]at hc;refine(Zrd 262 bw p1 q1 [] (Z28 p) w5 hc (hr.at_ 0 rfl)).mono ?_;rintro e w6 ⟨rfl,hm⟩;have hjq:bw ∉ q1.ownBlock.toList:=fun hmem=>by
    have h9:q1.ownBlock=some bw:=by simpa using hmem
    exact s1.ne (show Z2 q1 bw from h9) rfl
  refine⟨[.s (Z28 p),.v p1,.v q1],rfl,rfl,?_,?_,fun z hz=>absurd hz List.not_mem_nil,Zd,?_⟩
  . refine hm.mono fun z hz=>.inl ?_;simp only[Zu,Z10,List.map_cons,List.map_nil,List.flatMap_cons,List.flatMap_nil,List.append_nil,qz,QE,QF,QL,QM];exact qy10 _ hz
  . refine qy2.2 ⟨?_,qy5 _⟩;simp only[Ent.holds,X.ev,Sc.ev,qz,QE,QF,s1.ok.sc1,hq1];rw[hm.block bw (Array.getElem?_eq_some_iff.1 hc).1 hjq];exact hc
  . simp only[qz,QC];exact⟨by omega,fun w' hr=>⟨by rw[Z1b],hr.mod⟩⟩
theorem Z15y {p:Pkt} (h:chkP p=0) (hs:SmallP p):ByteP p:=by obtain⟨hf,hl⟩:=Zi1 h;have hk:=hf.kind;simp only[Z58,decide_eq_true_eq]at hk;have hq:=hf.qos;have hi:=hf.id;have hke:=hf.keep;have hc:=hf.code;exact⟨by omega,by omega,by omega,by omega,by omega,fun a ha=>by have:=hf.asks a ha;omega,fun c hc=>by have:=hf.codes c hc;omega,hs,by omega⟩
theorem Zxb (hu:Z36 w u p.asks) (hv:Z2h w v p.codes) (hs:SmallP p):Calls Tryz.prog 113 #[pV p u v] w fun e w'=>e=.returned (.tuple #[.string ⟨(if chkP p=0 then Z1b p else []).toArray⟩,.int .i64 (chkP p)])/\Mod [] w w':=by refine Z1 (Z4 (ρ:=[.i p.kind,.b p.dup,.b p.retain,.b p.clean,.b p.session,.i p.qos,.i p.id,.i p.keep,.i p.code,.s p.client,.s p.topic,.s p.payload,.v u,.r (p.asks.map encA),.v v,.r (p.codes.map Zg)]) sxE_ok Tryz.func113 Z9m rfl rfl (Rel.start2 (by simp[Ent.holds,Ent.wr,hu,hv,X.ev])) rfl rfl ?_) rfl;simp only[Tree.goal,X.P,X.ev,SV.ev,CV.ev,Sc.ev,qz,QA,QB,QC,QE,QL,QM];intro bc;refine⟨[.i (chkP p)],rfl,fun _ w' hr=>Z7r w' p u v (hr.at_ 1 rfl) (hr.at_ 2 rfl) hs,?_⟩;simp only[qz,QA,QL,QM];refine⟨fun h w' hr=>⟨by rw[if_neg h],hr.mod⟩,fun h=>?_⟩;have h:=qy9.1 h;refine⟨[.s (Z1b p)],rfl,fun _ w' hr=>Zim w' p u v (hr.at_ 1 rfl) (hr.at_ 2 rfl) (Z15y h hs),?_⟩;simp only[qz,QC];exact fun w' hr=>⟨by rw[if_pos h,h],hr.mod⟩
end
section
variable (w:World) (p q:Pkt) (u v x y:Value)
theorem Z15z {a b:List Ak} (hl:a.length=b.length) (h:∀i,i<a.length->a.getD i aD=b.getD i aD):a=b:=by refine List.ext_getElem hl fun i h1 h2=>?_;have:=h i h1;rw[qy1,qy1,qy7 h1,qy7 h2]at this;exact this
theorem Z11d {a b:List Int} (hl:a.length=b.length) (h:∀i,i<a.length->a.getD i 0=b.getD i 0):a=b:=by refine List.ext_getElem hl fun i h1 h2=>?_;have:=h i h1;rw[qy1,qy1,qy7 h1,qy7 h2]at this;exact this
theorem Z8d (hu:Z36 w u p.asks) (hv:Z2h w v p.codes) (hx:Z36 w x q.asks) (hy:Z2h w y q.codes) (hs:SmallP p) : Calls Tryz.prog 24 #[pV p u v,pV q x y] w fun e w'=>e=.returned (.bool (decide (p=q)))/\Mod [] w w':=by
  refine Z1 (Z4 (ρ:=[.i p.kind,.b p.dup,.b p.retain,.b p.clean,.b p.session,.i p.qos,.i p.id,.i p.keep,.i p.code,.s p.client,.s p.topic,.s p.payload,.v u,.r (p.asks.map encA),.v v,.r (p.codes.map Zg),.i q.kind,.b q.dup,.b q.retain,.b q.clean,.b q.session,.i q.qos,.i q.id,.i q.keep,.i q.code,.s q.client,.s q.topic,.s q.payload,.v x,.r (q.asks.map encA),.v y,.r (q.codes.map Zg)]) sxE_ok Tryz.func24 Z4d rfl rfl (Rel.start2 (by simp[Ent.holds,Ent.wr,hu,hv,hx,hy,X.ev])) rfl rfl ?_) rfl;have h4:=hs.asks;have h5:=hs.codes;simp only[Tree.goal,X.P,X.ev,SV.ev,CV.ev,Sc.ev,qz,QA,QB,QC,QD,QH,QI,QJ,QK,QL,QM,Nat.reduceAdd,qy3];intro b1 b2;refine⟨fun h w' hr=>⟨?_,hr.mod⟩,fun h=>?_⟩
  . have:¬p=q:=fun e=>by subst e;simp at h
    simp[this]
  simp only[not_or,qy9]at h;obtain⟨⟨⟨⟨⟨⟨⟨⟨⟨⟨⟨⟨⟨e1,e2⟩,e3⟩,e4⟩,e5⟩,e6⟩,e7⟩,e8⟩,e9⟩,e10⟩,e11⟩,e12⟩,e13⟩,e14⟩:=h;refine⟨fun vs=>∃(i:Nat) (b:V),vs=[b,.i i]/\i<=p.asks.length/\∀j,j<i->p.asks.getD j aD=q.asks.getD j aD,fun vs=>p.asks.length - (vs.getD 1 (.i 0)).toI.toNat,⟨0,_,rfl,by omega,by omega⟩,?_⟩;rintro _ - ⟨i,vb,rfl,hi,hg⟩;simp only[qz,QA,QL,QM,qy4,gA0,gA1];refine⟨fun h2=>⟨by omega,by omega,fun h3 w' hr=>⟨?_,hr.mod⟩,fun h3=>⟨by omega,by omega,⟨i+1,vb,rfl,by omega,fun j hj=>?_⟩,by omega⟩⟩,fun h2=>?_⟩
  . have:¬p=q:=fun e=>h3 (by subst e;exact⟨rfl,rfl⟩);simp[this]
  . by_cases hji:j=i
    . subst hji;have h3:=qy9.1 h3;exact Prod.ext h3.1 h3.2
    . exact hg j (by omega)
  have ea:=Z15z (a:=p.asks) (b:=q.asks) (by omega) (fun j hj=>hg j (by omega));refine⟨fun vs=>∃(i:Nat) (b:V),vs=[b,.i i]/\i<=p.codes.length/\∀j,j<i->p.codes.getD j 0=q.codes.getD j 0,fun vs=>p.codes.length - (vs.getD 1 (.i 0)).toI.toNat,⟨0,_,rfl,by omega,by omega⟩,?_⟩;rintro _ - ⟨k,vc,rfl,hk,hgk⟩;simp only[qz,QA,qy4,gI0];refine⟨fun h3=>⟨by omega,by omega,fun h4 w' hr=>⟨?_,hr.mod⟩,fun h4=>⟨by omega,by omega,⟨k+1,vc,rfl,by omega,fun j hj=>?_⟩,by omega⟩⟩,fun h3 w' hr=>⟨?_,hr.mod⟩⟩
  . have:¬p=q:=fun e=>h4 (by subst e;rfl);simp[this]
  . by_cases hjk:j=k
    . subst hjk;exact qy9.1 h4
    . exact hgk j (by omega)
  . have ec:=Z11d (a:=p.codes) (b:=q.codes) (by omega) (fun j hj=>hgk j (by omega));have:p=q:=by
      cases p;cases q;simp only at *;simp_all
    simp[this]
end
end Go.Proofs.YtkhakgbnfapifaaGreatDoor
namespace Go.Proofs.YtkhakgbnfapifaaGreatDoor
open Go.Sx
end Go.Proofs.YtkhakgbnfapifaaGreatDoor
namespace Go.Proofs.YtkhakgbnfapifaaGreatDoor
open Go.Sx
end Go.Proofs.YtkhakgbnfapifaaGreatDoor
namespace Go.Proofs.YtkhakgbnfapifaaGreatDoor
open Go Go.Sx
end Go.Proofs.YtkhakgbnfapifaaGreatDoor
namespace Go.Proofs.YtkhakgbnfapifaaGreatDoor
open Go Go.Sx
end Go.Proofs.YtkhakgbnfapifaaGreatDoor
