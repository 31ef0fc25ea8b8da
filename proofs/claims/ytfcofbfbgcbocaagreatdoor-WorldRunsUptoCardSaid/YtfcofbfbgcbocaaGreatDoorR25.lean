/- By an AI agent. -/
import Derived.Test.YtfcofbfbgcbocaaGreatDoorR23
import Derived.Test.YtfcofbfbgcbocaaGreatDoorR24
import Derived.ProofKit
import Derived.OpenShut
import Derived.JoinedCond
import Derived.ChangeStays
set_option linter.all false
set_option maxHeartbeats 20000000
namespace Go.Proofs.Y
open Go Go.Sx
abbrev pbC(p:Pkt):List V:=[.i p.kind,.b p.dup,.b p.retain,.b p.clean,.b p.session,.i p.qos,.i p.id,.i p.keep,.i p.code,.s p.client,.s p.topic,.s p.payload,.v (.slice none 0 0),.r [],.v (.slice none 0 0),.r []]
abbrev bg1:Tel×List Rst:=(smT,[(annC,[50,9,0,3])])
abbrev bg2:Tel:=Zy annC pubP smT
theorem Zlt{y:TelX}(h:y.tel=smT):y.bare.tel=smT:=by rw[Z7v,h];rfl
theorem st_1(w:World)(y:TelX)(hx:RdX w y.bare)(ht:y.tel=smT):Calls Tryz.prog 9 #[bkV y,sc1 (.slice none 0 0),evV ev1] w λq w'=>Zlo w w' q 0 bg1:=by have hb:=Zlt ht;have hc:=Zu1 w y.bare (.slice none 0 0) [] ev1 hx (Z9 _ _) rfl (by rw[hb];exact Zls) (λa ha=>by cases ha) (by decide) (by decide) (by decide);rw[hb,show stpE smT [] ev1=0 by rw[Zqr (Z1z.1 Zdb) (Z7r.1 rfl)];exact Zom.1,resW,if_pos rfl,beg1]at hc;exact hc
theorem st_2(w:World)(y:TelX)(rv:Value)(hx:RdX w y.bare)(hr:Zte w rv [(annC,[50,9,0,3])])(ht:y.tel=smT):Calls Tryz.prog 9 #[bkV y,sc1 rv,evV ev2] w λq w'=>Zlo w w' q 0 (bg2,[]):=by have hb:=Zlt ht;have hc:=Zu1 w y.bare rv [(annC,[50,9,0,3])] ev2 hx hr rfl (by rw[hb];exact Zls) (λa ha=>by rw[qy12.1 ha];decide) (by show 1<1000000;decide) (by decide) (by decide);rw[hb,show stpE smT [(annC,[50,9,0,3])] ev2=0 by rw[Zqr (Z1z.1 Zdb) (Z7r.1 Zom.2.2)];exact Zom.2.1,resW,if_pos rfl,beg2]at hc;exact hc
theorem rn_1(w:World)(y:TelX)(lv:Value)(hx:RdX w y.bare)(hl:Zqf w lv [ev1,ev2])(ht:y.tel=smT):Calls Tryz.prog 17 #[bkV y,sc1 lv] w λq w'=>Zqo w w' q 0 { bg2 with out:=[] } [[],bg2.out]:=by
 have hb:=Zlt ht;have h2:∀e∈[ev1,ev2],Z1t e=0/\e.client.length<1099511627776/\e.bytes.length<=30000000:=λe he=>by
  rcases List.mem_cons.1 he with rfl|he
  ·exact⟨Zom.1,by decide,by decide⟩
  ·rw[qy12.1 he];exact⟨Zom.2.1,by decide,by decide⟩
 have hc:=Z1eh w y.bare lv [ev1,ev2] hx hl rfl (by rw[hb];exact Zls) (λe he=>(h2 e he).2.1) (λe he=>(h2 e he).2.2) (by show 2<1000000000;decide);have hr1:runW feed dec [ev1] (smT,[])=bg1:=beg1 smT;have hr2:runW feed dec [ev1,ev2] (smT,[])=(bg2,[]):=by
  show Z8s ev2 ({ (Z8s ev1 (smT,[])).1 with out:=[] },(Z8s ev1 (smT,[])).2)=_
  rw[beg1];exact beg2 smT
 have hr3:Zqs [ev1,ev2] (smT,[])=[[],bg2.out]:=by
  show[(runW feed dec [ev1] (smT,[])).1.out,(runW feed dec [ev1,ev2] (smT,[])).1.out]=_
  rw[hr1,hr2];rfl
 rw[hb,show runE smT [ev1,ev2]=0 by rw[runE,if_neg (qy9.2 Zdb),if_neg (by decide)];exact Zlq.2 λe he=>(h2 e he).1,if_pos rfl,if_pos rfl,hr3,show runF [ev1,ev2] (smT,[])=(bg2,[]) from hr2]at hc;exact hc
theorem Zqu(w:World)(zs:List SesX)(L:List AllX)(i:Nat)(yv:Value)(b:List SntX)(sy:List SesX)(hR:(runA zs L).holds w)(hb:reads w yv kSn (b.map Z1r))(hn:(Z6 sy b).holds w)(hi:i<L.length)(he:(L.getD i alD).1.map (·.1)=b.map (·.1))(hk:Z1q (b.map (·.1)))(hl:b.length<1000000000) : Calls Tryz.prog 19 #[sc1 (((L.map Zog).getD i []).getD 0 undef),sc1 yv] w λe w'=>e=.returned (.bool true)/\Mod [] w w':=by have hA:=Z1bf (Z2i.1 hR).2 (Z1fl hi);have hc:=Zwe w (L.getD i alD).2 yv (L.getD i alD).1 b [] sy hA.1 hb hA.2 hn (Z12g (by rw[he];exact hk)) (by have:=congrArg List.length he;rw[qy3,qy3]at this;omega);rw[Zha.2 he]at hc;refine Z1 hc ?_;rw[Z1fk hi];simp only[Zog,List.getD_cons_zero,Z1p]
set_option maxRecDepth 4000 in
theorem Zon(w:World):Calls Tryz.prog 6 #[] w λe w'=>e=.returned (.bool true)/\Mod [] w w':=by
 refine Z1 (Z7 (J:=[]) (sxE_ok.joins _) Tryz.func6 Z58 rfl rfl rfl ?_) rfl;simp only[QQ,Nat.reduceAdd,qy3,qy4];intro w1 hr1;refine(Z1fh w1).mono ?_;rintro r w2 ⟨rfl,m1⟩;refine⟨pbC pubP,rfl,rfl,m1,qy5 _,qy2.2 ⟨⟨Z9 w2 _,λk hk=>absurd rfl hk.1⟩,qy2.2 ⟨⟨Z9 w2 _,λk hk=>absurd rfl hk.1⟩,qy5 _⟩⟩,Z7w (by simp[Ent.wr]),?_⟩;clear m1 hr1;refine⟨[.s (if chkP pubP=0 then Z6j pubP else[]),.i (chkP pubP)],rfl,λ_ w' hr=>Z11j w' pubP nilV nilV (Z92 _) (Zcw _) Zw4,?_⟩;simp only[QQ,Nat.reduceAdd,qy3,qy4,Zqi,if_true,Zw3];refine⟨λh=>absurd h (by decide),λ_=>?_⟩;refine⟨λvs=>∃(y z:TelX) (r:List Rst) (rv:Value) (b:Nat),vs=[.v y.kv,.r (y.kept.map encK),.v y.wv,.r (y.wants.map Zb),.v y.sv,.r (y.sx.map Zg),.v y.av,.r (y.wat.map Z8),.i y.next,.a (Z6 z.sx z.ox)]++(spV z r rv 0++[.n b])/\(z.tel,r)=bg1,⟨by decide,?_,?_⟩,?_⟩
 ·intro w3 hr;refine(Zhc hr 18 (Zag w3) rfl).mono ?_;rintro q w4 ⟨y,ty,-,-,rfl,m1,m3,m4⟩;refine⟨smV y,rfl,rfl,m1,qy5 _,m3,m4,?_⟩;clear hr m1 m3 m4;refine⟨?_,?_⟩
  ·intro w3 hr;refine(Zhd hr 28 (st_1 w3 y ⟨hr.at_ 0 rfl,hr.at_ 1 rfl,hr.at_ 2 rfl,Z1c (y:=y) (hr.at_ 4 rfl),hr.at_ 3 rfl⟩ ty) rfl).mono ?_;rintro q w4 ⟨z,r,rv,hz,-,rfl,m1,m3,m4⟩;exact⟨spV z r rv 0,rfl,rfl,m1,qy5 _,m3,m4,λb=>⟨y,z,r,rv,b,rfl,hz⟩⟩
  ·intro b w3 hr;refine(Zhd hr 29 (st_1 w3 y ⟨hr.at_ 1 rfl,hr.at_ 2 rfl,hr.at_ 3 rfl,Z1c (y:=y) (hr.at_ 5 rfl),hr.at_ 4 rfl⟩ ty) rfl).mono ?_;rintro q w4 ⟨z,r,rv,hz,-,rfl,m1,m3,m4⟩;exact⟨spV z r rv 0,rfl,rfl,m1,qy5 _,m3,m4,y,z,r,rv,b,rfl,hz⟩
 ·intro b;intro w3 hr;refine(Zhc hr 19 (Zag w3) rfl).mono ?_;rintro q w4 ⟨y,ty,-,-,rfl,m1,m3,m4⟩;refine⟨smV y,rfl,rfl,m1,qy5 _,m3,m4,?_⟩;clear hr m1 m3 m4;intro w3 hr;refine(Zhd hr 29 (st_1 w3 y ⟨hr.at_ 0 rfl,hr.at_ 1 rfl,hr.at_ 2 rfl,Z1c (y:=y) (hr.at_ 4 rfl),hr.at_ 3 rfl⟩ ty) rfl).mono ?_;rintro q w4 ⟨z,r,rv,hz,-,rfl,m1,m3,m4⟩;exact⟨spV z r rv 0,rfl,rfl,m1,qy5 _,m3,m4,y,z,r,rv,b,rfl,hz⟩
 rintro _ - ⟨y1,y,r2,rv2,b2,rfl,hy⟩;obtain⟨ty,hr2⟩:=Prod.mk.inj hy;subst hr2;refine⟨λvs=>∃(z:TelX) (r:List Rst) (rv:Value) (b:Nat),vs=spV z r rv 0++[.n b]/\(z.tel,r)=(bg2,[]),⟨by decide,?_,?_⟩,?_⟩
 ·intro w3 hr;refine(Zhd hr 44 (st_2 w3 y rv2 ⟨hr.at_ 1 rfl,hr.at_ 2 rfl,hr.at_ 3 rfl,Z1c (y:=y) (hr.at_ 7 rfl),hr.at_ 4 rfl⟩ (hr.at_ 5 rfl) ty) rfl).mono ?_;rintro q w4 ⟨z,r,rv,hz,-,rfl,m1,m3,m4⟩;exact⟨spV z r rv 0,rfl,rfl,m1,qy5 _,m3,m4,λb=>⟨z,r,rv,b,rfl,hz⟩⟩
 ·intro b w3 hr;refine(Zhd hr 45 (st_2 w3 y rv2 ⟨hr.at_ 2 rfl,hr.at_ 3 rfl,hr.at_ 4 rfl,Z1c (y:=y) (hr.at_ 8 rfl),hr.at_ 5 rfl⟩ (hr.at_ 6 rfl) ty) rfl).mono ?_;rintro q w4 ⟨z,r,rv,hz,-,rfl,m1,m3,m4⟩;exact⟨spV z r rv 0,rfl,rfl,m1,qy5 _,m3,m4,z,r,rv,b,rfl,hz⟩
 rintro _ - ⟨y3,r3,rv3,b3,rfl,hy3⟩;obtain⟨t3,hr3⟩:=Prod.mk.inj hy3;subst hr3;refine⟨λvs=>∃(y z:TelX) (L:List AllX) (av ev:Value) (b:Nat),vs=[.v y.kv,.r (y.kept.map encK),.v y.wv,.r (y.wants.map Zb),.v y.sv,.r (y.sx.map Zg),.v y.av,.r (y.wat.map Z8),.i y.next,.a (runA z.sx L),.v ev]++(rnV z L av 0++[.n b])/\z.tel={ bg2 with out:=[] }/\L.map (λt=>t.1.map (·.1))=[[],bg2.out]/\z.ox=[],⟨by decide,?_,?_,?_⟩,?_⟩
 ·intro w3 hr;refine(Zhc hr 60 (Zag w3) rfl).mono ?_;rintro q w4 ⟨y,ty,-,-,rfl,m1,m3,m4⟩;refine⟨smV y,rfl,rfl,m1,qy5 _,m3,m4,?_⟩;clear hr m1 m3 m4;refine⟨?_,?_⟩
  ·intro ev;refine⟨?_,?_⟩
   ·intro w3 hr;refine(Zc5 hr 71 (rn_1 w3 y ev ⟨hr.at_ 1 rfl,hr.at_ 2 rfl,hr.at_ 3 rfl,Z1c (y:=y) (hr.at_ 5 rfl),hr.at_ 4 rfl⟩ (owns.reads (hr.at_ 0 rfl)) ty) rfl).mono ?_;rintro q w4 ⟨z,L,av,tz,tL,oz,rfl,m1,m3,m4⟩;exact⟨rnV z L av 0,rfl,rfl,m1,qy5 _,m3,m4,λb=>⟨y,z,L,av,ev,b,rfl,tz,tL,oz⟩⟩
   ·intro b;intro w3 hr;refine(Zc5 hr 72 (rn_1 w3 y ev ⟨hr.at_ 2 rfl,hr.at_ 3 rfl,hr.at_ 4 rfl,Z1c (y:=y) (hr.at_ 6 rfl),hr.at_ 5 rfl⟩ (owns.reads (hr.at_ 1 rfl)) ty) rfl).mono ?_;rintro q w4 ⟨z,L,av,tz,tL,oz,rfl,m1,m3,m4⟩;exact⟨rnV z L av 0,rfl,rfl,m1,qy5 _,m3,m4,y,z,L,av,ev,b,rfl,tz,tL,oz⟩
  ·intro b ev;intro w3 hr;refine(Zc5 hr 72 (rn_1 w3 y ev ⟨hr.at_ 2 rfl,hr.at_ 3 rfl,hr.at_ 4 rfl,Z1c (y:=y) (hr.at_ 6 rfl),hr.at_ 5 rfl⟩ (owns.reads (hr.at_ 0 rfl)) ty) rfl).mono ?_;rintro q w4 ⟨z,L,av,tz,tL,oz,rfl,m1,m3,m4⟩;exact⟨rnV z L av 0,rfl,rfl,m1,qy5 _,m3,m4,y,z,L,av,ev,b,rfl,tz,tL,oz⟩
 ·intro ev;refine⟨?_,?_⟩
  ·intro w3 hr;refine(Zhc hr 61 (Zag w3) rfl).mono ?_;rintro q w4 ⟨y,ty,-,-,rfl,m1,m3,m4⟩;refine⟨smV y,rfl,rfl,m1,qy5 _,m3,m4,?_⟩;clear hr m1 m3 m4;refine⟨?_,?_⟩
   ·intro w3 hr;refine(Zc5 hr 71 (rn_1 w3 y ev ⟨hr.at_ 0 rfl,hr.at_ 1 rfl,hr.at_ 2 rfl,Z1c (y:=y) (hr.at_ 4 rfl),hr.at_ 3 rfl⟩ (owns.reads (hr.at_ 5 rfl)) ty) rfl).mono ?_;rintro q w4 ⟨z,L,av,tz,tL,oz,rfl,m1,m3,m4⟩;exact⟨rnV z L av 0,rfl,rfl,m1,qy5 _,m3,m4,λb=>⟨y,z,L,av,ev,b,rfl,tz,tL,oz⟩⟩
   ·intro b;intro w3 hr;refine(Zc5 hr 72 (rn_1 w3 y ev ⟨hr.at_ 1 rfl,hr.at_ 2 rfl,hr.at_ 3 rfl,Z1c (y:=y) (hr.at_ 5 rfl),hr.at_ 4 rfl⟩ (owns.reads (hr.at_ 6 rfl)) ty) rfl).mono ?_;rintro q w4 ⟨z,L,av,tz,tL,oz,rfl,m1,m3,m4⟩;exact⟨rnV z L av 0,rfl,rfl,m1,qy5 _,m3,m4,y,z,L,av,ev,b,rfl,tz,tL,oz⟩
  ·intro b;intro w3 hr;refine(Zhc hr 62 (Zag w3) rfl).mono ?_;rintro q w4 ⟨y,ty,-,-,rfl,m1,m3,m4⟩;refine⟨smV y,rfl,rfl,m1,qy5 _,m3,m4,?_⟩;clear hr m1 m3 m4;intro w3 hr;refine(Zc5 hr 72 (rn_1 w3 y ev ⟨hr.at_ 0 rfl,hr.at_ 1 rfl,hr.at_ 2 rfl,Z1c (y:=y) (hr.at_ 4 rfl),hr.at_ 3 rfl⟩ (owns.reads (hr.at_ 6 rfl)) ty) rfl).mono ?_;rintro q w4 ⟨z,L,av,tz,tL,oz,rfl,m1,m3,m4⟩;exact⟨rnV z L av 0,rfl,rfl,m1,qy5 _,m3,m4,y,z,L,av,ev,b,rfl,tz,tL,oz⟩
 ·intro b;refine⟨?_,?_⟩
  ·intro w3 hr;refine(Zhc hr 61 (Zag w3) rfl).mono ?_;rintro q w4 ⟨y,ty,-,-,rfl,m1,m3,m4⟩;refine⟨smV y,rfl,rfl,m1,qy5 _,m3,m4,?_⟩;clear hr m1 m3 m4;intro ev;intro w3 hr;refine(Zc5 hr 72 (rn_1 w3 y ev ⟨hr.at_ 1 rfl,hr.at_ 2 rfl,hr.at_ 3 rfl,Z1c (y:=y) (hr.at_ 5 rfl),hr.at_ 4 rfl⟩ (owns.reads (hr.at_ 0 rfl)) ty) rfl).mono ?_;rintro q w4 ⟨z,L,av,tz,tL,oz,rfl,m1,m3,m4⟩;exact⟨rnV z L av 0,rfl,rfl,m1,qy5 _,m3,m4,y,z,L,av,ev,b,rfl,tz,tL,oz⟩
  ·intro ev;intro w3 hr;refine(Zhc hr 62 (Zag w3) rfl).mono ?_;rintro q w4 ⟨y,ty,-,-,rfl,m1,m3,m4⟩;refine⟨smV y,rfl,rfl,m1,qy5 _,m3,m4,?_⟩;clear hr m1 m3 m4;intro w3 hr;refine(Zc5 hr 72 (rn_1 w3 y ev ⟨hr.at_ 0 rfl,hr.at_ 1 rfl,hr.at_ 2 rfl,Z1c (y:=y) (hr.at_ 4 rfl),hr.at_ 3 rfl⟩ (owns.reads (hr.at_ 5 rfl)) ty) rfl).mono ?_;rintro q w4 ⟨z,L,av,tz,tL,oz,rfl,m1,m3,m4⟩;exact⟨rnV z L av 0,rfl,rfl,m1,qy5 _,m3,m4,y,z,L,av,ev,b,rfl,tz,tL,oz⟩
 rintro _ - ⟨y4,z,L,av,ev,b4,rfl,tz,tL,oz⟩;simp only[QQ,Nat.reduceAdd,qy3,qy4];have hB3:BOk bg2:=(Z94 (Z1z.1 Zdb) (by decide) Zqi).1;have hl2:L.length=2:=by have:=congrArg List.length tL;simpa using this
 have e1:y.ox=[]:=List.map_eq_nil_iff.1 (show y.ox.map (·.1)=[] from congrArg Tel.out ty);have e3:y3.ox.length=3:=by have h1:=congrArg (λt:Tel=>t.out.length) t3;simp only[TelX.tel,qy3]at h1;rw[h1];exact Z1bo
 have s3:SmlT y3.bare.tel:=.of (by rw[Z7v,t3];exact hB3.out []);have o3:Z1q (y3.ox.map (·.1)):=by have h1:=congrArg Tel.out t3;rw[show y3.ox.map (·.1)=y3.tel.out from rfl,t3];exact Zgx (Z1z.1 Zdb) (by decide) Zqi .nil
 refine⟨[.b true],rfl,λ_ w' hr=>?_,?_⟩
 ·have hc:=Zdp w' y3.bare z ⟨hr.at_ 14 rfl,hr.at_ 15 rfl,hr.at_ 16 rfl,Z1c (y:=y3) (hr.at_ 20 rfl),hr.at_ 17 rfl⟩ ⟨hr.at_ 1 rfl,hr.at_ 2 rfl,hr.at_ 3 rfl,by rw[oz];exact(Z2i.1 (hr.at_ 6 rfl:(runA z.sx L).holds w')).1,hr.at_ 4 rfl⟩ s3.b.keptL s3.b.wantsL s3.b.watL (by have:=s3.b.sessL;omega) s3.f;rw[show Zoj y3.bare.tel z.tel=true from Zok.2 (by rw[Z7v,t3,tz])]at hc;exact hc
 simp only[QQ,Nat.reduceAdd,qy3,qy4,e1,e3,hl2];have hL1:(L.getD 1 alD).1.map (·.1)=bg2.out:=by have h1:=congrArg (λl:List (List Snt)=>l.getD 1 []) tL;simp only[List.getD_cons_succ,List.getD_cons_zero]at h1;rw[<- h1,qy1,qy1,List.getElem?_map,qy7 (by omega)];rfl
 refine⟨.inr (by decide),[.b true],rfl,λ_ w' hr=>?_,?_⟩
 ·have e9:y3.ox.map (·.1)=bg2.out:=congrArg Tel.out t3;exact Z1 (Zqu w' z.sx L 1 y3.ov y3.ox y3.sx (hr.at_ 6 rfl) (hr.at_ 19 rfl) (hr.at_ 20 rfl) (by omega) (hL1.trans e9.symm) o3 (by omega)) rfl
 simp only[QQ,Nat.reduceAdd,qy3,qy4,e1,e3,hl2];exact λw' hr=>⟨by simp,hr.mod⟩
def CbI(x:TelX)(e0:Int)(e:Int)(i:Nat):Prop:=i<=x.sx.length/\(¬e0=0->e=e0)/\(e0=0->(e=0->Zd1 (prvS x.sx i) ((x.sx.drop i).map (·.1))=Zd1 none (x.sx.map (·.1)))/\(¬e=0->Zd1 none (x.sx.map (·.1))=e))
theorem Z12o{x:TelX}(h1:chkK x.kept=0)(h2:Zi x.wants=0)(h3:¬Z5g x.tel.sess=0):chkB x.tel=Z5g x.tel.sess:=by rw[chkB,if_neg (qy9.2 (show chkK x.tel.kept=0 from h1)),if_neg (qy9.2 (show Zi x.tel.wants=0 from h2)),if_pos h3]
theorem Zlu{x:TelX}(h1:chkK x.kept=0)(h2:Zi x.wants=0)(h3:Z5g x.tel.sess=0):chkB x.tel=if ¬Z10 x.wat=0 then Z10 x.wat else if Z16 x.tel=true then 4 else if x.next<0\/65535<x.next then 3 else 0:=by rw[chkB,if_neg (qy9.2 (show chkK x.tel.kept=0 from h1)),if_neg (qy9.2 (show Zi x.tel.wants=0 from h2)),if_neg (qy9.2 h3)];rfl
theorem CbI.out{x:TelX}{e0 e:Int}{i:Nat}(h:CbI x e0 e i)(hb:¬e0=0->chkB x.tel=e0)(hz:e0=0->chkK x.kept=0/\Zi x.wants=0/\¬6<(x.sx.length:Int))(he:¬e=0):chkB x.tel=e:=by
 by_cases h0:e0=0
 ·obtain⟨h1,h2,h3⟩:=hz h0;have h4:=(h.2.2 h0).2 he;have h5:Z5g x.tel.sess=e:=by rw[Z5g,if_neg (by rw[show x.tel.sess=x.sx.map (·.1) from rfl,qy3];exact h3)];exact h4
  rw[Z12o h1 h2 (by rw[h5];exact he),h5]
 ·rw[hb h0,h.2.1 h0]
theorem CbI.ok{x:TelX}{e0:Int}{i:Nat}(h:CbI x e0 0 i)(hz:e0=0->chkK x.kept=0/\Zi x.wants=0/\¬6<(x.sx.length:Int))(hi:i=x.sx.length):chkK x.kept=0/\Zi x.wants=0/\Z5g x.tel.sess=0:=by have h0:e0=0:=Classical.byContradiction λh0=>h0 (h.2.1 h0).symm;obtain⟨h1,h2,h3⟩:=hz h0;refine⟨h1,h2,?_⟩;have h4:=(h.2.2 h0).1 rfl;rw[hi,List.drop_length]at h4;rw[Z5g,if_neg (by rw[show x.tel.sess=x.sx.map (·.1) from rfl,qy3];exact h3)];exact h4.symm
theorem CbI.next{x:TelX}{e0:Int}{i:Nat}(h:CbI x e0 0 i)(hi:i<x.sx.length) : (¬chkS (x.sx.getD i sxD).1=0->CbI x e0 (chkS (x.sx.getD i sxD).1) (i+1)) /\ (chkS (x.sx.getD i sxD).1=0->0<(i:Int)->¬Za (x.sx.getD (i - 1) sxD).1.cl (x.sx.getD i sxD).1.cl=true->CbI x e0 4 (i+1)) /\ (chkS (x.sx.getD i sxD).1=0->(0<(i:Int)->Za (x.sx.getD (i - 1) sxD).1.cl (x.sx.getD i sxD).1.cl=true)->CbI x e0 0 (i+1)):=by
 have hq:Za (x.sx.getD (i - 1) sxD).1.cl (x.sx.getD i sxD).1.cl=false↔(Za (x.sx.getD i sxD).1.cl (x.sx.getD (i - 1) sxD).1.cl=true\/(x.sx.getD i sxD).1.cl=(x.sx.getD (i - 1) sxD).1.cl):=Z3z;have h0:e0=0:=Classical.byContradiction λh0=>h0 (h.2.1 h0).symm;have h4:=(h.2.2 h0).1 rfl;rw[Zj6 hi]at h4;refine⟨λa=>⟨by omega,λb=>absurd h0 b,λ_=>⟨λc=>absurd c a,λ_=>?_⟩⟩,λa b c=>⟨by omega,λd=>absurd h0 d,λ_=>⟨λd=>absurd d (by decide),λ_=>?_⟩⟩,λa b=>⟨by omega,λc=>absurd h0 c,λ_=>⟨λ_=>?_,λc=>absurd rfl c⟩⟩⟩
 ·rw[if_pos a]at h4;exact h4.symm
 ·rw[if_neg (qy9.2 a),if_pos ⟨b,hq.1 (Bool.eq_false_iff.2 c)⟩]at h4;exact h4.symm
 ·rw[if_neg (qy9.2 a),if_neg (λ⟨c,d⟩=>by have:=hq.2 d;rw[b c]at this;cases this)]at h4;exact h4
theorem Zhz(w:World)(x:TelX)(hx:RdX w x)(ho:x.ox=[])(hs:SmlB x) : Calls Tryz.prog 18 #[bkV x] w λe w'=>e=.returned (.int .i64 (chkB x.tel))/\Mod [] w w':=by
  refine Z1 (Z3 (J:=bkA x) sxE_ok Tryz.func18 Z4l rfl rfl hx.rel rfl rfl ?_) rfl;simp only[QQ,Nat.reduceAdd,qy3,qy4];have hsx:x.tel.sess=x.sx.map (·.1):=rfl;have hal:=hs.watL;have hsl:=hs.sessL;have hwl:=hs.wantsL;intro b10;refine⟨[.i (chkK x.kept)],rfl,λ_ w' hr=>Zpi w' x.kv x.kept (hr.at_ 1 rfl) hs.kept hs.keptL,?_⟩;simp only[QQ,Nat.reduceAdd,qy3,qy4];refine⟨λh1=>?_,λh1=>?_⟩
  . refine⟨[.i (Zi x.wants)],rfl,λ_ w' hr=>Zoi w' x.wv x.wants (hr.at_ 2 rfl) hs.wants hs.wantsL,?_⟩;simp only[QQ,Nat.reduceAdd,qy3,qy4];refine⟨λh2=>?_,λh2=>?_⟩
    . have hb:¬(2:Int)=0->chkB x.tel=2:=λ_=>by have:Z5g x.tel.sess=2:=by { rw[Z5g,if_pos (by rw[hsx,qy3];exact h2.2)] };rw[Z12o h1 h2.1 (by rw[this];decide),this]
      have hz:(2:Int)=0->chkK x.kept=0/\Zi x.wants=0/\¬6<(x.sx.length:Int):=λh=>absurd h (by decide);refine⟨λvs=>∃(e:Int) (i:Nat),vs=[.i e,.i i]/\CbI x (2) e i,λvs=>x.sx.length - (vs.getD 1 (.i 0)).toI.toNat,⟨_,0,rfl,Nat.zero_le _,λ_=>rfl,λ_=>⟨λ_=>rfl,λh=>absurd (by assumption) h⟩⟩,?_⟩;rintro _ - ⟨e,i,rfl,hg⟩;have hi:=hg.1;simp only[QQ,Nat.reduceAdd,qy3,qy4,gSx0];have hi1:((i:Int) - 1).toNat=i - 1:=by omega
      try rw[hi1]
      refine⟨λh3=>⟨by omega,?_⟩,λh3=>⟨λh4=>?_,λh4 w' hr=>⟨by rw[hg.out hb hz h4],hr.mod⟩⟩⟩
      . have hi':i<x.sx.length:=by omega
        have he:e=0:=h3.2;subst he;obtain⟨n1,n2,n3⟩:=hg.next hi';have hrow:=Zbt hi';obtain⟨s1,s2,s3,s4,s5⟩:=hs.sess _ (Z7i hi');refine⟨[.i (chkS (x.sx.getD i sxD).1)],rfl,λ_ w' hr=>?_,?_⟩
        . have hn:=Zz (by rw[<- ho];exact hr.at_ 4 rfl:(Z6 x.sx []).holds w') (Z7i hi');refine Z1 (Z64 w' (x.sx.getD i sxD).1 (x.sx.getD i sxD).2.1 (x.sx.getD i sxD).2.2 hn.1 hn.2 s1 s2 s3 s4 s5) ?_;simp only[QQ,Nat.reduceAdd,qy3,qy4,hrow,Zg,List.getD_cons_zero,List.getD_cons_succ,Value.gI,Value.gB,Value.gS,Z1p,sesV]
        simp only[QQ,Nat.reduceAdd,qy3,qy4,gSx0];try rw[hi1]
        refine⟨by omega,by omega,by omega,by omega,[.b (Za (x.sx.getD (i - 1) sxD).1.cl (x.sx.getD i sxD).1.cl)],rfl,λhgd w' _=>Z42 w' _ _ (by
          have h8:i - 1<x.sx.length:=by omega
          exact(hs.sess _ (Z7i h8)).2.2.2.2),?_⟩
        simp only[QQ,Nat.reduceAdd,qy3,qy4];refine⟨λh5=>⟨by omega,by omega,⟨4,i+1,rfl,n2 h5.1.1 h5.1.2 h5.2⟩,by omega⟩,λh5=>⟨by omega,by omega,⟨_,i+1,rfl,?_⟩,by omega⟩⟩;by_cases h6:chkS (x.sx.getD i sxD).1=0
        . rw[h6];exact n3 h6 λh7=>Classical.byContradiction λh8=>h5 ⟨⟨h6,h7⟩,h8⟩
        . exact n1 h6
      have he:e=0:=h4;subst he;obtain⟨k1,k2,k3⟩:=hg.ok hz (by omega);rw[Zlu k1 k2 k3];refine⟨[.i (Z10 x.wat)],rfl,λ_ w' hr=>Z63 w' x.av x.wat (hr.at_ 5 rfl) hs.wat (by omega),?_⟩;simp only[QQ,Nat.reduceAdd,qy3,qy4];refine⟨λh5 w' hr=>⟨by rw[if_pos h5],hr.mod⟩,λh5=>?_⟩;rw[if_neg h5];refine⟨λvs=>∃(y:V) (i:Nat),vs=[y,.i i]/\i<=x.wants.length/\∀j,j<i->hasS x.tel.sess (x.wants.getD j wD_V).1=true,λvs=>x.wants.length - (vs.getD 1 (.i 0)).toI.toNat,⟨_,0,rfl,by omega,λj hj=>by omega⟩,?_⟩;rintro _ - ⟨y0,i,rfl,hi,hall⟩;simp only[QQ,Nat.reduceAdd,qy3,qy4,Z23];refine⟨λh6=>⟨by omega,?_⟩,λh6=>?_⟩
      . refine⟨[.i (atS x.tel.sess (x.wants.getD i wD_V).1)],rfl,λ_ w' hr=>Zaf w' x.sv x.sx _ (hr.at_ 3 rfl) (Z6q.1 k3).2.2 (by have:=hs.sessL;omega),?_⟩;simp only[QQ,Nat.reduceAdd,qy3,qy4];refine⟨λh7 w' hr=>⟨?_,hr.mod⟩,λh7=>⟨by omega,by omega,⟨_,i+1,rfl,by omega,λj hj=>?_⟩,by omega⟩⟩
        . have h8:¬hasS x.tel.sess (x.wants.getD i wD_V).1=true:=λh=>by rw[atS,if_pos h]at h7;omega
          have:Z16 x.tel=true:=by rw[Z16,Bool.or_eq_true];exact .inl (Z5w wD_V (l:=x.wants) (i:=i) (by omega) (by simpa using h8))
          rw[if_pos this]
        . by_cases hij:j=i
          . subst hij;exact Classical.byContradiction λh=>h7 (by rw[atS,if_neg h];decide)
          . exact hall j (by omega)
      have hie:i=x.wants.length:=by omega
      subst hie;have ha1:(x.tel.wants.any λw=>!hasS x.tel.sess w.1)=false:=Zdn wD_V λj hj=>by rw[show hasS x.tel.sess (x.tel.wants.getD j wD_V).1=true from hall j hj];rfl
      refine⟨λvs=>∃(y:V) (i:Nat),vs=[y,.i i]/\i<=x.wat.length/\∀j,j<i->hasK x.kept (x.wat.getD j wD_K).2.2.1=true,λvs=>x.wat.length - (vs.getD 1 (.i 0)).toI.toNat,⟨_,0,rfl,by omega,λj hj=>by omega⟩,?_⟩;rintro _ - ⟨y1,i,rfl,hi1,hall1⟩;simp only[QQ,Nat.reduceAdd,qy3,qy4,Z22];refine⟨λh6=>⟨by omega,?_⟩,λh6=>?_⟩
      . refine⟨[.i (if hasK x.kept (x.wat.getD i wD_K).2.2.1=true then(idx x.kept (x.wat.getD i wD_K).2.2.1:Int)else -1)],rfl,λ_ w' hr=>Zki w' x.kv x.kept _ (hr.at_ 1 rfl) (Z17.1 k1).2.2 hs.keptL,?_⟩;simp only[QQ,Nat.reduceAdd,qy3,qy4];refine⟨λh7 w' hr=>⟨?_,hr.mod⟩,λh7=>⟨by omega,by omega,⟨_,i+1,rfl,by omega,λj hj=>?_⟩,by omega⟩⟩
        . have h8:¬hasK x.kept (x.wat.getD i wD_K).2.2.1=true:=λh=>by rw[if_pos h]at h7;omega
          have:Z16 x.tel=true:=by rw[Z16,Bool.or_eq_true];exact .inr (Z5w wD_K (l:=x.wat) (i:=i) (by omega) (by rw[show hasK x.tel.kept (x.wat.getD i wD_K).2.2.1=false from Bool.eq_false_iff.2 h8];rfl))
          rw[if_pos this]
        . by_cases hij:j=i
          . subst hij;exact Classical.byContradiction λh=>h7 (by rw[if_neg h];decide)
          . exact hall1 j (by omega)
      have hie:i=x.wat.length:=by omega
      subst hie;have ha2:(x.tel.wat.any λw=>!hasK x.tel.kept w.2.2.1)=false:=Zdn wD_K λj hj=>by rw[show hasK x.tel.kept (x.tel.wat.getD j wD_K).2.2.1=true from hall1 j hj];rfl
      have hst:¬Z16 x.tel=true:=by rw[Z16,ha1,ha2];decide
      rw[if_neg hst];refine⟨λh7 w' hr=>⟨by rw[if_pos (by omega)],hr.mod⟩,λh7 w' hr=>⟨by rw[if_neg (by omega)],hr.mod⟩⟩
    . have hb:¬(Zi x.wants:Int)=0->chkB x.tel=Zi x.wants:=λh=>by rw[chkB,if_neg (qy9.2 (show chkK x.tel.kept=0 from h1)),if_pos (show ¬Zi x.tel.wants=0 from h)];rfl
      have hz:(Zi x.wants:Int)=0->chkK x.kept=0/\Zi x.wants=0/\¬6<(x.sx.length:Int):=λh=>⟨h1,h,λh3=>h2 ⟨h,h3⟩⟩
      refine⟨λvs=>∃(e:Int) (i:Nat),vs=[.i e,.i i]/\CbI x (Zi x.wants) e i,λvs=>x.sx.length - (vs.getD 1 (.i 0)).toI.toNat,⟨_,0,rfl,Nat.zero_le _,λ_=>rfl,λ_=>⟨λ_=>rfl,λh=>absurd (by assumption) h⟩⟩,?_⟩;rintro _ - ⟨e,i,rfl,hg⟩;have hi:=hg.1;simp only[QQ,Nat.reduceAdd,qy3,qy4,gSx0];have hi1:((i:Int) - 1).toNat=i - 1:=by omega
      try rw[hi1]
      refine⟨λh3=>⟨by omega,?_⟩,λh3=>⟨λh4=>?_,λh4 w' hr=>⟨by rw[hg.out hb hz h4],hr.mod⟩⟩⟩
      . have hi':i<x.sx.length:=by omega
        have he:e=0:=h3.2;subst he;obtain⟨n1,n2,n3⟩:=hg.next hi';have hrow:=Zbt hi';obtain⟨s1,s2,s3,s4,s5⟩:=hs.sess _ (Z7i hi');refine⟨[.i (chkS (x.sx.getD i sxD).1)],rfl,λ_ w' hr=>?_,?_⟩
        . have hn:=Zz (by rw[<- ho];exact hr.at_ 4 rfl:(Z6 x.sx []).holds w') (Z7i hi');refine Z1 (Z64 w' (x.sx.getD i sxD).1 (x.sx.getD i sxD).2.1 (x.sx.getD i sxD).2.2 hn.1 hn.2 s1 s2 s3 s4 s5) ?_;simp only[QQ,Nat.reduceAdd,qy3,qy4,hrow,Zg,List.getD_cons_zero,List.getD_cons_succ,Value.gI,Value.gB,Value.gS,Z1p,sesV]
        simp only[QQ,Nat.reduceAdd,qy3,qy4,gSx0];try rw[hi1]
        refine⟨by omega,by omega,by omega,by omega,[.b (Za (x.sx.getD (i - 1) sxD).1.cl (x.sx.getD i sxD).1.cl)],rfl,λhgd w' _=>Z42 w' _ _ (by
          have h8:i - 1<x.sx.length:=by omega
          exact(hs.sess _ (Z7i h8)).2.2.2.2),?_⟩
        simp only[QQ,Nat.reduceAdd,qy3,qy4];refine⟨λh5=>⟨by omega,by omega,⟨4,i+1,rfl,n2 h5.1.1 h5.1.2 h5.2⟩,by omega⟩,λh5=>⟨by omega,by omega,⟨_,i+1,rfl,?_⟩,by omega⟩⟩;by_cases h6:chkS (x.sx.getD i sxD).1=0
        . rw[h6];exact n3 h6 λh7=>Classical.byContradiction λh8=>h5 ⟨⟨h6,h7⟩,h8⟩
        . exact n1 h6
      have he:e=0:=h4;subst he;obtain⟨k1,k2,k3⟩:=hg.ok hz (by omega);rw[Zlu k1 k2 k3];refine⟨[.i (Z10 x.wat)],rfl,λ_ w' hr=>Z63 w' x.av x.wat (hr.at_ 5 rfl) hs.wat (by omega),?_⟩;simp only[QQ,Nat.reduceAdd,qy3,qy4];refine⟨λh5 w' hr=>⟨by rw[if_pos h5],hr.mod⟩,λh5=>?_⟩;rw[if_neg h5];refine⟨λvs=>∃(y:V) (i:Nat),vs=[y,.i i]/\i<=x.wants.length/\∀j,j<i->hasS x.tel.sess (x.wants.getD j wD_V).1=true,λvs=>x.wants.length - (vs.getD 1 (.i 0)).toI.toNat,⟨_,0,rfl,by omega,λj hj=>by omega⟩,?_⟩;rintro _ - ⟨y0,i,rfl,hi,hall⟩;simp only[QQ,Nat.reduceAdd,qy3,qy4,Z23];refine⟨λh6=>⟨by omega,?_⟩,λh6=>?_⟩
      . refine⟨[.i (atS x.tel.sess (x.wants.getD i wD_V).1)],rfl,λ_ w' hr=>Zaf w' x.sv x.sx _ (hr.at_ 3 rfl) (Z6q.1 k3).2.2 (by have:=hs.sessL;omega),?_⟩;simp only[QQ,Nat.reduceAdd,qy3,qy4];refine⟨λh7 w' hr=>⟨?_,hr.mod⟩,λh7=>⟨by omega,by omega,⟨_,i+1,rfl,by omega,λj hj=>?_⟩,by omega⟩⟩
        . have h8:¬hasS x.tel.sess (x.wants.getD i wD_V).1=true:=λh=>by rw[atS,if_pos h]at h7;omega
          have:Z16 x.tel=true:=by rw[Z16,Bool.or_eq_true];exact .inl (Z5w wD_V (l:=x.wants) (i:=i) (by omega) (by simpa using h8))
          rw[if_pos this]
        . by_cases hij:j=i
          . subst hij;exact Classical.byContradiction λh=>h7 (by rw[atS,if_neg h];decide)
          . exact hall j (by omega)
      have hie:i=x.wants.length:=by omega
      subst hie;have ha1:(x.tel.wants.any λw=>!hasS x.tel.sess w.1)=false:=Zdn wD_V λj hj=>by rw[show hasS x.tel.sess (x.tel.wants.getD j wD_V).1=true from hall j hj];rfl
      refine⟨λvs=>∃(y:V) (i:Nat),vs=[y,.i i]/\i<=x.wat.length/\∀j,j<i->hasK x.kept (x.wat.getD j wD_K).2.2.1=true,λvs=>x.wat.length - (vs.getD 1 (.i 0)).toI.toNat,⟨_,0,rfl,by omega,λj hj=>by omega⟩,?_⟩;rintro _ - ⟨y1,i,rfl,hi1,hall1⟩;simp only[QQ,Nat.reduceAdd,qy3,qy4,Z22];refine⟨λh6=>⟨by omega,?_⟩,λh6=>?_⟩
      . refine⟨[.i (if hasK x.kept (x.wat.getD i wD_K).2.2.1=true then(idx x.kept (x.wat.getD i wD_K).2.2.1:Int)else -1)],rfl,λ_ w' hr=>Zki w' x.kv x.kept _ (hr.at_ 1 rfl) (Z17.1 k1).2.2 hs.keptL,?_⟩;simp only[QQ,Nat.reduceAdd,qy3,qy4];refine⟨λh7 w' hr=>⟨?_,hr.mod⟩,λh7=>⟨by omega,by omega,⟨_,i+1,rfl,by omega,λj hj=>?_⟩,by omega⟩⟩
        . have h8:¬hasK x.kept (x.wat.getD i wD_K).2.2.1=true:=λh=>by rw[if_pos h]at h7;omega
          have:Z16 x.tel=true:=by rw[Z16,Bool.or_eq_true];exact .inr (Z5w wD_K (l:=x.wat) (i:=i) (by omega) (by rw[show hasK x.tel.kept (x.wat.getD i wD_K).2.2.1=false from Bool.eq_false_iff.2 h8];rfl))
          rw[if_pos this]
        . by_cases hij:j=i
          . subst hij;exact Classical.byContradiction λh=>h7 (by rw[if_neg h];decide)
          . exact hall1 j (by omega)
      have hie:i=x.wat.length:=by omega
      subst hie;have ha2:(x.tel.wat.any λw=>!hasK x.tel.kept w.2.2.1)=false:=Zdn wD_K λj hj=>by rw[show hasK x.tel.kept (x.tel.wat.getD j wD_K).2.2.1=true from hall1 j hj];rfl
      have hst:¬Z16 x.tel=true:=by rw[Z16,ha1,ha2];decide
      rw[if_neg hst];refine⟨λh7 w' hr=>⟨by rw[if_pos (by omega)],hr.mod⟩,λh7 w' hr=>⟨by rw[if_neg (by omega)],hr.mod⟩⟩
  . have hb:¬(chkK x.kept:Int)=0->chkB x.tel=chkK x.kept:=λh=>by rw[chkB,if_pos (show ¬chkK x.tel.kept=0 from h)];rfl
    have hz:(chkK x.kept:Int)=0->chkK x.kept=0/\Zi x.wants=0/\¬6<(x.sx.length:Int):=λh=>absurd h h1;refine⟨λvs=>∃(e:Int) (i:Nat),vs=[.i e,.i i]/\CbI x (chkK x.kept) e i,λvs=>x.sx.length - (vs.getD 1 (.i 0)).toI.toNat,⟨_,0,rfl,Nat.zero_le _,λ_=>rfl,λ_=>⟨λ_=>rfl,λh=>absurd (by assumption) h⟩⟩,?_⟩;rintro _ - ⟨e,i,rfl,hg⟩;have hi:=hg.1;simp only[QQ,Nat.reduceAdd,qy3,qy4,gSx0];have hi1:((i:Int) - 1).toNat=i - 1:=by omega
    try rw[hi1]
    refine⟨λh3=>⟨by omega,?_⟩,λh3=>⟨λh4=>?_,λh4 w' hr=>⟨by rw[hg.out hb hz h4],hr.mod⟩⟩⟩
    . have hi':i<x.sx.length:=by omega
      have he:e=0:=h3.2;subst he;obtain⟨n1,n2,n3⟩:=hg.next hi';have hrow:=Zbt hi';obtain⟨s1,s2,s3,s4,s5⟩:=hs.sess _ (Z7i hi');refine⟨[.i (chkS (x.sx.getD i sxD).1)],rfl,λ_ w' hr=>?_,?_⟩
      . have hn:=Zz (by rw[<- ho];exact hr.at_ 4 rfl:(Z6 x.sx []).holds w') (Z7i hi');refine Z1 (Z64 w' (x.sx.getD i sxD).1 (x.sx.getD i sxD).2.1 (x.sx.getD i sxD).2.2 hn.1 hn.2 s1 s2 s3 s4 s5) ?_;simp only[QQ,Nat.reduceAdd,qy3,qy4,hrow,Zg,List.getD_cons_zero,List.getD_cons_succ,Value.gI,Value.gB,Value.gS,Z1p,sesV]
      simp only[QQ,Nat.reduceAdd,qy3,qy4,gSx0];try rw[hi1]
      refine⟨by omega,by omega,by omega,by omega,[.b (Za (x.sx.getD (i - 1) sxD).1.cl (x.sx.getD i sxD).1.cl)],rfl,λhgd w' _=>Z42 w' _ _ (by
        have h8:i - 1<x.sx.length:=by omega
        exact(hs.sess _ (Z7i h8)).2.2.2.2),?_⟩
      simp only[QQ,Nat.reduceAdd,qy3,qy4];refine⟨λh5=>⟨by omega,by omega,⟨4,i+1,rfl,n2 h5.1.1 h5.1.2 h5.2⟩,by omega⟩,λh5=>⟨by omega,by omega,⟨_,i+1,rfl,?_⟩,by omega⟩⟩;by_cases h6:chkS (x.sx.getD i sxD).1=0
      . rw[h6];exact n3 h6 λh7=>Classical.byContradiction λh8=>h5 ⟨⟨h6,h7⟩,h8⟩
      . exact n1 h6
    have he:e=0:=h4;subst he;obtain⟨k1,k2,k3⟩:=hg.ok hz (by omega);rw[Zlu k1 k2 k3];refine⟨[.i (Z10 x.wat)],rfl,λ_ w' hr=>Z63 w' x.av x.wat (hr.at_ 5 rfl) hs.wat (by omega),?_⟩;simp only[QQ,Nat.reduceAdd,qy3,qy4];refine⟨λh5 w' hr=>⟨by rw[if_pos h5],hr.mod⟩,λh5=>?_⟩;rw[if_neg h5];refine⟨λvs=>∃(y:V) (i:Nat),vs=[y,.i i]/\i<=x.wants.length/\∀j,j<i->hasS x.tel.sess (x.wants.getD j wD_V).1=true,λvs=>x.wants.length - (vs.getD 1 (.i 0)).toI.toNat,⟨_,0,rfl,by omega,λj hj=>by omega⟩,?_⟩;rintro _ - ⟨y0,i,rfl,hi,hall⟩;simp only[QQ,Nat.reduceAdd,qy3,qy4,Z23];refine⟨λh6=>⟨by omega,?_⟩,λh6=>?_⟩
    . refine⟨[.i (atS x.tel.sess (x.wants.getD i wD_V).1)],rfl,λ_ w' hr=>Zaf w' x.sv x.sx _ (hr.at_ 3 rfl) (Z6q.1 k3).2.2 (by have:=hs.sessL;omega),?_⟩;simp only[QQ,Nat.reduceAdd,qy3,qy4];refine⟨λh7 w' hr=>⟨?_,hr.mod⟩,λh7=>⟨by omega,by omega,⟨_,i+1,rfl,by omega,λj hj=>?_⟩,by omega⟩⟩
      . have h8:¬hasS x.tel.sess (x.wants.getD i wD_V).1=true:=λh=>by rw[atS,if_pos h]at h7;omega
        have:Z16 x.tel=true:=by rw[Z16,Bool.or_eq_true];exact .inl (Z5w wD_V (l:=x.wants) (i:=i) (by omega) (by simpa using h8))
        rw[if_pos this]
      . by_cases hij:j=i
        . subst hij;exact Classical.byContradiction λh=>h7 (by rw[atS,if_neg h];decide)
        . exact hall j (by omega)
    have hie:i=x.wants.length:=by omega
    subst hie;have ha1:(x.tel.wants.any λw=>!hasS x.tel.sess w.1)=false:=Zdn wD_V λj hj=>by rw[show hasS x.tel.sess (x.tel.wants.getD j wD_V).1=true from hall j hj];rfl
    refine⟨λvs=>∃(y:V) (i:Nat),vs=[y,.i i]/\i<=x.wat.length/\∀j,j<i->hasK x.kept (x.wat.getD j wD_K).2.2.1=true,λvs=>x.wat.length - (vs.getD 1 (.i 0)).toI.toNat,⟨_,0,rfl,by omega,λj hj=>by omega⟩,?_⟩;rintro _ - ⟨y1,i,rfl,hi1,hall1⟩;simp only[QQ,Nat.reduceAdd,qy3,qy4,Z22];refine⟨λh6=>⟨by omega,?_⟩,λh6=>?_⟩
    . refine⟨[.i (if hasK x.kept (x.wat.getD i wD_K).2.2.1=true then(idx x.kept (x.wat.getD i wD_K).2.2.1:Int)else -1)],rfl,λ_ w' hr=>Zki w' x.kv x.kept _ (hr.at_ 1 rfl) (Z17.1 k1).2.2 hs.keptL,?_⟩;simp only[QQ,Nat.reduceAdd,qy3,qy4];refine⟨λh7 w' hr=>⟨?_,hr.mod⟩,λh7=>⟨by omega,by omega,⟨_,i+1,rfl,by omega,λj hj=>?_⟩,by omega⟩⟩
      . have h8:¬hasK x.kept (x.wat.getD i wD_K).2.2.1=true:=λh=>by rw[if_pos h]at h7;omega
        have:Z16 x.tel=true:=by rw[Z16,Bool.or_eq_true];exact .inr (Z5w wD_K (l:=x.wat) (i:=i) (by omega) (by rw[show hasK x.tel.kept (x.wat.getD i wD_K).2.2.1=false from Bool.eq_false_iff.2 h8];rfl))
        rw[if_pos this]
      . by_cases hij:j=i
        . subst hij;exact Classical.byContradiction λh=>h7 (by rw[if_neg h];decide)
        . exact hall1 j (by omega)
    have hie:i=x.wat.length:=by omega
    subst hie;have ha2:(x.tel.wat.any λw=>!hasK x.tel.kept w.2.2.1)=false:=Zdn wD_K λj hj=>by rw[show hasK x.tel.kept (x.tel.wat.getD j wD_K).2.2.1=true from hall1 j hj];rfl
    have hst:¬Z16 x.tel=true:=by rw[Z16,ha1,ha2];decide
    rw[if_neg hst];refine⟨λh7 w' hr=>⟨by rw[if_pos (by omega)],hr.mod⟩,λh7 w' hr=>⟨by rw[if_neg (by omega)],hr.mod⟩⟩
theorem Z12p{l:List Evt}:∀{i:Nat},i<=l.length->(∀e∈l.take i,Z1t e=0)->evsE l=evsE (l.drop i)
  | 0,_,_=>rfl
  | i+1,hi,h=>by
    rw[Z12p (i:=i) (by omega) (λe he=>h e (by rw[List.take_add_one];exact List.mem_append_left _ he)),Zhg (show i<l.length by omega),if_neg]
    refine qy9.2 (h _ ?_);rw[List.take_add_one,qy7 (show i<l.length by omega),qy1,qy7 (show i<l.length by omega)];exact List.mem_append_right _ (by simp)
theorem Z1bq{l:List Evt}{i:Nat}(hi:i<l.length)(h:∀e∈l.take i,Z1t e=0)(h1:Z1t (l.getD i evD)=0):∀e∈l.take (i+1),Z1t e=0:=λe he=>by
 rw[List.take_add_one,qy7 hi]at he;rcases qy13.1 he with he|he
 ·exact h e he
 ·rw[qy1,qy7 hi]at h1;have:e=l[i]:=by simpa using he
  rw[this];exact h1
theorem Z1br{l:List Evt}{x:Tel×List Rst}{L:List AllX}{i:Nat}(hi:i<l.length)(h:L.map (λt=>t.1.map (·.1))=Zqs l x):L.length=l.length/\(L.getD i alD).1.map (·.1)=(runF (l.take (i+1)) x).1.out:=by
 have h1:L.length=l.length:=by have:=congrArg List.length h;rw[qy3,Zh0]at this;exact this
 refine⟨h1,?_⟩;have h2:=congrArg (λl:List (List Snt)=>l[i]?) h;simp only[List.getElem?_map,Zqs,Zle,List.getElem?_range hi,Option.map_some]at h2;rw[qy7 (show i<L.length by omega)]at h2;rw[qy1,qy7 (show i<L.length by omega)];exact Option.some.inj h2
set_option maxRecDepth 4000 in
theorem Zqv(w:World)(x:TelX)(lv:Value)(l:List Evt)(hx:RdX w x)(hl:Zqf w lv l)(ho:x.ox=[])(hs:SmlT x.tel)(hcl:∀e∈l,e.client.length<1099511627776)(hbl:∀e∈l,e.bytes.length<=2000000)(hll:l.length<1000000000) : Calls Tryz.prog 4 #[bkV x,sc1 lv] w λq w'=>q=.returned (.bool true)/\Mod [] w w':=by
 have hr0:Rel ⟨[],w⟩ (bkA x++[.v lv,.r (l.map Ze8)]) (bkH++[.rd 10 kEv (.var 11)]) w:=Rel.start2 (qy2.2 ⟨⟨hx.kept,rfl⟩,qy2.2 ⟨⟨hx.want,rfl⟩,qy2.2 ⟨⟨hx.sess,rfl⟩,qy2.2 ⟨⟨hx.nest,rfl⟩,qy2.2 ⟨⟨hx.wat,rfl⟩,qy2.2 ⟨⟨hl,rfl⟩,qy5 _⟩⟩⟩⟩⟩⟩);refine Z1 (Z3 (J:=bkA x++[.v lv,.r (l.map Ze8)]) (sxE_ok.joins _) Tryz.func4 Z5n rfl rfl hr0 rfl rfl ?_) rfl;simp only[QQ,Nat.reduceAdd,qy3,qy4];intro b12 w1 hr1;have hq:=Z1eh w1 x lv l ⟨hr1.at_ 1 rfl,hr1.at_ 2 rfl,hr1.at_ 3 rfl,hr1.at_ 4 rfl,hr1.at_ 5 rfl⟩ (hr1.at_ 6 rfl) ho hs hcl (λe he=>by have:=hbl e he;omega) hll;have hE:=Zu2 x.tel l;obtain⟨E,hEE⟩:∃E,E=runE x.tel l:=⟨_,rfl⟩
 rw[<- hEE]at hE hq;refine(Zc5 hr1 13 hq rfl).mono ?_;rintro q w2 ⟨z,L,av,tz,tL,oz,rfl,m1,m3,m4⟩;refine⟨rnV z L av E,rfl,rfl,m1,qy5 _,m3,m4,?_⟩;clear m1 m3 m4 hr1 hq;have hLn:¬E=0->L=[]:=λh=>by rw[if_neg h]at tL;exact List.map_eq_nil_iff.1 tL
 have hLy:E=0->L.map (λt=>t.1.map (·.1))=Zqs l (x.tel,[]):=λh=>by rw[if_pos h]at tL;exact tL
 have hzy:E=0->z.tel={ (runF l (x.tel,[])).1 with out:=[] }:=λh=>by rw[if_pos h]at tz;exact tz
 clear tL tz;intro b26;simp only[QQ,Nat.reduceAdd,qy3,qy4];refine⟨[.b true],rfl,λ_ w' _=>Zon w',?_⟩;simp only[QQ,Nat.reduceAdd,qy3,qy4];refine⟨λh=>absurd h (by simp),λ_=>?_⟩;refine⟨[.i (chkB x.tel)],rfl,λ_ w' hr=>Zhz w' x ⟨hr.at_ 8 rfl,hr.at_ 9 rfl,hr.at_ 10 rfl,hr.at_ 11 rfl,hr.at_ 12 rfl⟩ ho hs.b,?_⟩;simp only[QQ,Nat.reduceAdd,qy3,qy4];obtain⟨n1,hn1⟩:∃n1,n1=if chkB x.tel=0/\60<(l.length:Int)then 2 else chkB x.tel:=⟨_,rfl⟩
 rw[<- hn1]at hE;refine⟨λvs=>vs=[.i n1],⟨λh=>by rw[hn1,if_pos h],λh=>by rw[hn1,if_neg h]⟩,?_⟩;rintro _ - rfl;simp only[QQ,Nat.reduceAdd,qy3,qy4];refine⟨λh w3 hr3=>?_,λh=>?_⟩
 ·rw[if_pos h]at hE;rw[hLn (by rw[hE];exact h),hE];exact⟨by simp,hr3.mod⟩
 rw[if_neg h]at hE;have h:=qy9.1 h;have hB0:chkB x.tel=0/\¬60<(l.length:Int):=by
  by_cases h1:chkB x.tel=0/\60<(l.length:Int)
  ·rw[hn1,if_pos h1]at h;exact absurd h (by decide)
  ·rw[hn1,if_neg h1]at h;exact⟨h,λh2=>h1 ⟨h,h2⟩⟩
 have hB:=Z1z.1 hB0.1;clear hn1 hEE;refine⟨Z6 x.sx x.ox,λw hr=>hr.at_ 12 rfl,λj hj=>(qE 12 rfl rfl hj),?_⟩;refine⟨λvs=>∃(i:Nat) (y:TelX) (r:List Rst) (rv:Value) (u:V),vs=[u,.v rv,.r (r.map Z5l),.i i,.a (Z6 y.sx y.ox),.v y.kv,.r (y.kept.map encK),.v y.wv,.r (y.wants.map Zb),.v y.sv,.r (y.sx.map Zg),.v y.av,.r (y.wat.map Z8),.i y.next]/\i<=l.length/\(y.bare.tel,r)=({ (runF (l.take i) (x.tel,[])).1 with out:=[] },(runF (l.take i) (x.tel,[])).2)/\∀e∈l.take i,Z1t e=0,
  λvs=>l.length - (vs.getD 3 (.i 0)).toI.toNat,⟨0,x,[],.slice none 0 0,_,rfl,Nat.zero_le _,by rw[Z7v];rfl,λe he=>by simp at he⟩,?_⟩
 rintro _ - ⟨i,y,r,rv,u,rfl,hi,hty,hall⟩;obtain⟨hy1,hy2⟩:=Prod.mk.inj hty;have hrun:=Zqt (l.take i) (x:=(x.tel,[])) hall hB (Z7r.1 rfl);have hrln:=Zlr (l.take i) (x.tel,[]);rw[<- hy2,List.length_take]at hrln;have hby:BOk y.bare.tel:=by rw[hy1];exact hrun.1.out []
 have hry:ROk r:=by rw[hy2];exact hrun.2
 simp only[QQ,Nat.reduceAdd,qy3,qy4,gEv0,gEv1,gEv2];refine⟨λh1=>?_,λh1=>?_⟩
 ·have hi':i<l.length:=by omega
  have hm:l.getD i evD∈l:=by rw[qy1,qy7 hi'];exact List.getElem_mem hi'
  have hrs:=Zh1 (fd:=feed) (dm:=dec) hi' (x.tel,[]);have hone:oneW feed dec (runW feed dec (l.take i) (x.tel,[])) (l.getD i evD)=Z8s (l.getD i evD) (y.bare.tel,r):=by rw[hy1,hy2];rfl
  rw[hone]at hrs;have hEi:E=if ¬Z1t (l.getD i evD)=0 then Z1t (l.getD i evD)else evsE (l.drop (i+1)):=by rw[hE,Z12p hi hall,Zhg hi']
  have hse:=Zqr (e:=l.getD i evD) hby hry;have hsy:=SmlT.of hby;have hrs2:∀a∈r,a.1.length<1099511627776:=λa ha=>by have:=(hry.each a ha).1;unfold Zd at this;rw[Bool.and_eq_true,decide_eq_true_eq]at this;omega
  have hcm:=hcl _ hm;have hbm:=hbl _ hm;have hrl:r.length<1000000:=by simp only[List.length_nil]at hrln;omega
  have K:∀(z2:TelX) (r2:List Rst),(z2.tel,r2)=resW (Z1t (l.getD i evD)) (Z8s (l.getD i evD) (y.bare.tel,r))->(¬Z1t (l.getD i evD)=0->E=Z1t (l.getD i evD)/\L=[])/\(Z1t (l.getD i evD)=0->(z2.tel,r2)=runF (l.take (i+1)) (x.tel,[])/\(∀e∈l.take (i+1),Z1t e=0)/\Z1q (z2.ox.map (·.1))/\z2.ox.length<1000000000/\(E=0->i<L.length/\(L.getD i alD).1.map (·.1)=z2.ox.map (·.1))):=λz2 r2 hz2=>by
   refine⟨λh3=>?_,λh3=>?_⟩
   ·rw[if_pos h3]at hEi;exact⟨hEi,hLn (by rw[hEi];exact h3)⟩
   ·rw[resW,if_pos h3]at hz2;have hzr:(z2.tel,r2)=runF (l.take (i+1)) (x.tel,[]):=hz2.trans hrs.symm;have hallS:=Z1bq hi' hall h3;have hso:=Z12l (l.take (i+1)) (x:=(x.tel,[])) hallS hB (Z7r.1 rfl) (i:=i) (by rw[List.length_take];omega);rw[List.take_take,Nat.min_self,<- hzr,show(List.take (i+1) l).getD i evD=l.getD i evD by rw[qy1,qy1,List.getElem?_take,if_pos (Nat.lt_succ_self i)]]at hso;have h7:z2.tel.out.length=z2.ox.length:=by simp[TelX.tel]
    have h8:=hso.2;simp only at h8;refine⟨hzr,hallS,hso.1,by omega,λhg=>?_⟩;obtain⟨hl1,hl2⟩:=Z1br hi' (hLy hg);exact⟨by omega,by rw[hl2,<- hzr];rfl⟩
  refine⟨by omega,?_,?_⟩
  ·intro w3 hr3;have hq:=Zu1 w3 y.bare rv r (l.getD i evD) ⟨hr3.at_ 10 rfl,hr3.at_ 11 rfl,hr3.at_ 12 rfl,Z1c (y:=y) (hr3.at_ 0 rfl),hr3.at_ 14 rfl⟩ (hr3.at_ 1 rfl) rfl hsy hrs2 hrl hcm (by omega);rw[hse]at hq;refine(Zhd hr3 46 hq rfl).mono ?_;rintro q w4 ⟨z2,r2,rw2,hz2,-,rfl,m1,m3,m4⟩;refine⟨spV z2 r2 rw2 (Z1t (l.getD i evD)),rfl,rfl,m1,qy5 _,m3,m4,?_⟩;clear m1 m3 m4 hr3 hq;obtain⟨K1,K2⟩:=K z2 r2 hz2;intro b61;simp only[QQ,Nat.reduceAdd,qy3,qy4];refine⟨λh3 w5 hr5=>⟨by simp[K1 h3],hr5.mod⟩,λh3=>?_⟩;obtain⟨k1,k2,k3,k4,k5⟩:=K2 (qy9.1 h3);refine⟨by omega,[.b true],rfl,λhg w' hr=>Zqu w' z.sx L i z2.ov z2.ox z2.sx (hr.at_ 16 rfl) (hr.at_ 6 rfl) (hr.at_ 7 rfl) (k5 hg.1).1 (k5 hg.1).2 k3 k4,?_⟩;simp only[QQ,Nat.reduceAdd,qy3,qy4];refine⟨λh4=>?_,λh4=>⟨by omega,by omega,Z6 z2.sx z2.ox,λw hr=>hr.at_ 7 rfl,λj hj=>(qE 7 rfl rfl hj),⟨i+1,z2,r2,rw2,u,rfl,by omega,by rw[Z7v,<- k1],k2⟩,by omega⟩⟩;have:=(k5 h4.1).1;exact h4.2.elim (λh5=>absurd h5 (by omega)) (λh5=>absurd trivial h5)
  ·intro b46 w3 hr3;have hq:=Zu1 w3 y.bare rv r (l.getD i evD) ⟨hr3.at_ 11 rfl,hr3.at_ 12 rfl,hr3.at_ 13 rfl,Z1c (y:=y) (hr3.at_ 1 rfl),hr3.at_ 15 rfl⟩ (hr3.at_ 2 rfl) rfl hsy hrs2 hrl hcm (by omega);rw[hse]at hq;refine(Zhd hr3 47 hq rfl).mono ?_;rintro q w4 ⟨z2,r2,rw2,hz2,-,rfl,m1,m3,m4⟩;refine⟨spV z2 r2 rw2 (Z1t (l.getD i evD)),rfl,rfl,m1,qy5 _,m3,m4,?_⟩;clear m1 m3 m4 hr3 hq;obtain⟨K1,K2⟩:=K z2 r2 hz2;simp only[QQ,Nat.reduceAdd,qy3,qy4];refine⟨λh3 w5 hr5=>⟨by simp[K1 h3],hr5.mod⟩,λh3=>?_⟩;obtain⟨k1,k2,k3,k4,k5⟩:=K2 (qy9.1 h3);refine⟨by omega,[.b true],rfl,λhg w' hr=>Zqu w' z.sx L i z2.ov z2.ox z2.sx (hr.at_ 16 rfl) (hr.at_ 5 rfl) (hr.at_ 6 rfl) (k5 hg.1).1 (k5 hg.1).2 k3 k4,?_⟩;simp only[QQ,Nat.reduceAdd,qy3,qy4];refine⟨λh4=>?_,λh4=>⟨by omega,by omega,Z6 z2.sx z2.ox,λw hr=>hr.at_ 6 rfl,λj hj=>(qE 6 rfl rfl hj),⟨i+1,z2,r2,rw2,u,rfl,by omega,by rw[Z7v,<- k1],k2⟩,by omega⟩⟩;have:=(k5 h4.1).1;exact h4.2.elim (λh5=>absurd h5 (by omega)) (λh5=>absurd trivial h5)
 ·obtain rfl:i=l.length:=by omega
  rw[List.take_length]at hy1 hall hrun;have hE0:E=0:=by rw[hE];exact Zlq.2 hall
  have hzt:=hzy hE0;have hLl:L.length=l.length:=by have:=congrArg List.length (hLy hE0);rw[qy3,Zh0]at this;exact this
  have sz:SmlT z.tel:=by rw[hzt];exact .of (hrun.1.out [])
  refine⟨[.b true],rfl,λ_ w' hr=>?_,?_⟩
  ·have hc:=Zdp w' z y.bare ⟨hr.at_ 3 rfl,hr.at_ 4 rfl,hr.at_ 5 rfl,by rw[oz];exact(Z2i.1 (hr.at_ 8 rfl:(runA z.sx L).holds w')).1,hr.at_ 6 rfl⟩ ⟨hr.at_ 10 rfl,hr.at_ 11 rfl,hr.at_ 12 rfl,Z1c (y:=y) (hr.at_ 0 rfl),hr.at_ 14 rfl⟩ sz.b.keptL sz.b.wantsL sz.b.watL (by have:=sz.b.sessL;omega) sz.f;rw[show Zoj z.tel y.bare.tel=true from Zok.2 (by rw[hzt,hy1])]at hc;exact hc
  simp only[QQ,Nat.reduceAdd,qy3,qy4];exact λw' hr=>⟨by simp[hE0,hLl],hr.mod⟩
end Go.Proofs.Y
namespace Go.Sx
open Go Go.ChangeShapes Go.WideShapes Go.ChangeAt Go.RowKit
section
variable {H:Type} {enc:TypeId×Value->H} {P:Program}
def Z1ei(P:Program)(ts:List TypeId):Bool:=ts.all λt=>match P.underlying t with|some (.slice e)=>decide (0<P.cellsOf e)|_=>true
def Z12q(P:Program)(ts:List TypeId):Bool:=ts.all λt=>match P.underlying t with
 | some (.slice e)=>ts.contains e
 | some (.pointer e)=>ts.contains e
 | some (.array _ e)=>ts.contains e
 | some (.map _ e)=>ts.contains e
 | some (.struct fs)=>fs.toList.all λf=>ts.contains f.type
 | _=>true
theorem Z1bs(hl:laidOutB P=true)(hm:mapsRowed P=true){ts:List TypeId}(hc:Z12q P ts=true)(hs:ts.all (λt=>decide (t<P.types.size))=true):Kids P (·∈ts):=by
 have K:=kids_rows hl hm;have hs':∀t∈ts,t<P.types.size:=λt ht=>by simpa using List.all_eq_true.1 hs t ht
 have hc':=λt ht=>List.all_eq_true.1 hc t ht;refine⟨λ{t e} ht hu=>?_,λ{t e} ht hu=>?_,λ{t e n} ht hu=>⟨?_,(K.array (hs' t ht) hu).2⟩,λ{t fs} ht hu=>⟨?_,(K.struct (hs' t ht) hu).2⟩,λ{t k e} ht hu=>?_⟩
 ·have:=hc' t ht;rw[hu]at this;simpa using this
 ·have:=hc' t ht;rw[hu]at this;simpa using this
 ·have:=hc' t ht;rw[hu]at this;simpa using this
 ·have:=hc' t ht;rw[hu]at this;simp only[List.all_eq_true]at this;exact λf hf=>by simpa using this f hf
 ·have:=hc' t ht;rw[hu]at this;simpa using this
theorem Zhh{w w':World}{p:MemPlace}(h:w'.heap[p.block]?=w.heap[p.block]?):w.sameAt w' p:=by
 cases p with
 | cell b off=>exact World.cell?_of_block h
 | map b=>exact h
theorem Zc6{w w':World}{sp:Nat->Bool}{T:TypeId->Prop}(K:Kids P T)(hsz:∀{t e:TypeId},T t->P.underlying t=some (.slice e)->0<P.cellsOf e) : ∀{ts:List TypeId} {vs:List Value} {ds:List (DataW H)} {ps:List MemPlace},(∀t∈ts,T t)->DataW.TrodAll enc P w 0 (λ_=>true) true ts vs ds ps -> (∀p∈ps,w.sameAt w' p)->(∀p∈ps,sp p.block=true)->DataW.TrodAll enc P w' 0 sp true ts vs ds ps
 | [],_,_,_,_,h,_,_=>by obtain⟨rfl,rfl,rfl⟩:=trodAll_nil h;exact trodAll_mk0
 | t::ts,_,_,_,ht,h,hs,hp=>by
  obtain⟨v,vs1,d,ds1,a,b,rfl,rfl,rfl,h1,h2⟩:=trodAll_cons h;obtain⟨n,h1⟩:=h1;exact⟨a,b,⟨n,DataW.trod_stays K hsz (λh=>by cases h) (ht t (qy8 ..)) h1 (λp hp'=>hs p (List.mem_append_left _ hp')) (λp hp'=>hp p (List.mem_append_left _ hp'))⟩,
   Zc6 K hsz (λu hu=>ht u (qy10 _ hu)) h2 (λp hp'=>hs p (List.mem_append_right _ hp')) (λp hp'=>hp p (List.mem_append_right _ hp')),rfl⟩
theorem Z16p{f:Func}{s:ChangeSpec}{fresh handsOn again:Bool}{W W':World}{args:Array Value}{ds gs:List (DataW H)}{before:List MemPlace}{tb:TypeId}(ts:List TypeId) (hW:DataW.Whole enc P f.params.toList s.vars false W args.toList ds gs before) (hv:s.vars=[]) (hr:f.resultTypes=#[tb]) (htb:P.underlying tb=some .bool) (hfn:gs=[]->(s.fn H ds).results=[.lit (.bool true)]/\(s.fn H ds).args=ds/\(s.fn H ds).vars=[]) (hl:laidOutB P=true) (hm:mapsRowed P=true) (hc:Z12q P ts=true) (hs:ts.all (λt=>decide (t<P.types.size))=true) (hz:Z1ei P ts=true) (hp:f.params.toList.all ts.contains=true) (h:Mod [] W W'):s.post enc P f false fresh handsOn again W args (.bool true) W':=by
 have hW':=hW;have hlt:=hW.lt;obtain⟨p,q,hA,hV,rfl,hfz,hn⟩:=hW;rw[hv]at hV;obtain⟨rfl,rfl⟩:=trodVars_none hV;obtain⟨f1,f2,f3⟩:=hfn rfl;have K:=Z1bs hl hm hc hs;have hsz:∀{t e:TypeId},t∈ts->P.underlying t=some (.slice e)->0<P.cellsOf e:=λ{t e} ht hu=>by have:=List.all_eq_true.1 hz t ht;rw[hu]at this;simpa using this
 have hT:∀t∈f.params.toList,t∈ts:=λt ht=>by simpa using List.all_eq_true.1 hp t ht
 have hblk:∀k,k<W.heap.size->W'.heap[k]?=W.heap[k]?:=λk hk=>h.block k hk (by simp);have hsame:∀x∈p,W.sameAt W' x:=λx hx=>Zhh (hblk _ (hlt x (by simpa using hx)));have hargs:∀sp:Nat->Bool,(∀x∈p,sp x.block=true)->DataW.TrodAll enc P W' 0 sp true f.params.toList args.toList (s.fn H (ds++[])).args p:=λsp hsp=>by rw[List.append_nil,f2];exact Zc6 K hsz hT hA hsame hsp
 have hres:∀(b:Nat) (sp:Nat->Bool) (hd:Bool),DataW.TrodAll enc P W' b sp hd f.resultTypes.toList ((Value.bool true).resultList f.resultTypes.size) (s.fn H (ds++[])).results []:=λb sp hd=>by rw[List.append_nil,f1,hr];exact trodAll_cons_mk (shut_bool htb _) trodAll_mk0
 have hvars:∀sp:Nat->Bool,DataW.TrodVars enc P W' sp s.vars (s.fn H (ds++[])).vars []:=λsp=>by rw[List.append_nil,f3,hv];rfl
 have hold:∀x∈p,(λb=>decide (b<W.heap.size)) x.block=true:=λx hx=>by simpa using hlt x (by simpa using hx)
 refine⟨ds,[],p++[],[],p,[],hW',hres _ _ _,hargs _ hold,hvars _,⟨h.os,h.output,λi hi=>?_⟩,λ_=>⟨?_,[.lit (.bool true)]++ds,[],([]++p)++[],⟨[]++p,[],trodAll_append (by have:=hargs (λ_=>true) (λ_ _=>rfl);rw[List.append_nil,f2]at this;exact this) (by have:=hres 0 (λ_=>true) true;rw[List.append_nil,f1]at this;exact this),by rw[hv];rfl,rfl,?_,by simp⟩,?_⟩⟩
 ·have e:=hblk i hi;rw[e];cases W.heap[i]? with
  | none=>rfl
  | some o=>cases o<;>simp
 ·exact ok_one hr rfl (okWide_bool_mk htb _)
 ·intro b off hb;have hb:MemPlace.cell b off∈p:=by simpa using hb
  have hlt':=hlt _ (show MemPlace.cell b off∈p++[] by simpa using hb);have:=hfz b off (by simpa using hb);simp only[World.frozen?,hblk b hlt']at this⊢;exact this
 ·intro x hx _;simpa using hx
end
section
variable {H:Type} {enc:TypeId×Value->H} {P:Program} {w:World} {sp:Nat->Bool}
structure Bulk(B:DataW H->Nat):Prop where
 agg:∀l:List (DataW H),(l.map B).sum<=B (.agg l)
 slice:∀l r:List (DataW H),(l.map B).sum+1<=B (.slice l r)
 str:∀s:List UInt8,s.length+1<=B (.lit (.string s))
 one:∀d:DataW H,1<=B d
def Zhi(P:Program)(g:TypeId->Option (List (TypeId×Kd))):List Field->Nat->Option (List (TypeId×Kd))
 | [],_=>some []
 | f::fs,off=>do
  let l <- g f.type
  let r <- Zhi P g fs (off+l.length)
  if f.offset=off/\P.cellsOf f.type=l.length then some (l++r)else none
def Z59(P:Program):Nat->TypeId->Option (List (TypeId×Kd))
 | 0,_=>none
 | f+1,t=>match P.underlying t with
  | some .bool=>some [(t,.bool)]
  | some (.int k)=>some [(t,.int k)]
  | some .string=>some [(t,.str)]
  | some (.slice _)=>some [(t,.oth)]
  | some (.struct fs)=>match Zhi P (Z59 P f) fs.toList 0 with
   | some l=>if P.cellsOf t=l.length then some l else none
   | none=>none
  | _=>none
def Z5x(enc:TypeId×Value->H)(P:Program)(w:World)(sp:Nat->Bool)(B:DataW H->Nat)(l:TypeId×Kd)(c:Value)(b:Nat):Prop :=
 l.2.ok c/\∃n d ps,DataW.trod enc P w 0 sp true n l.1 [c]=some (d,ps)/\B d<=b
inductive Lv (enc:TypeId×Value->H) (P:Program) (w:World) (sp:Nat->Bool) (B:DataW H->Nat):List (TypeId×Kd)->List Value->Nat->Prop
 | nil (b:Nat):Lv enc P w sp B [] [] b
 | cons {l:TypeId×Kd} {ls:List (TypeId×Kd)} {c:Value} {cs:List Value} {b1 b2 b:Nat}:Z5x enc P w sp B l c b1->Lv enc P w sp B ls cs b2->b1+b2<=b->Lv enc P w sp B (l::ls) (c::cs) b
variable {B:DataW H->Nat}
theorem Lv.mono{ls:List (TypeId×Kd)}{cs:List Value}{b b':Nat}(h:Lv enc P w sp B ls cs b)(hb:b<=b'):Lv enc P w sp B ls cs b':=by
 cases h with
 | nil=>exact .nil _
 | cons h1 h2 h3=>exact .cons h1 h2 (by omega)
theorem Lv.append{l2:List (TypeId×Kd)}{c2:List Value}{b2:Nat}(h':Lv enc P w sp B l2 c2 b2):∀{l1:List (TypeId×Kd)} {c1:List Value} {b1:Nat},Lv enc P w sp B l1 c1 b1->Lv enc P w sp B (l1++l2) (c1++c2) (b1+b2):=by
 intro l1 c1 b1 h;induction h with
 | nil b=>exact h'.mono (by omega)
 | cons h1 h2 h3 ih=>exact .cons h1 ih (by omega)
theorem Lv.rowOk{ls:List (TypeId×Kd)}{cs:List Value}{b:Nat}(h:Lv enc P w sp B ls cs b):rowOk (ls.map (·.2)) cs:=by
 induction h with
 | nil=>trivial
 | cons h1 h2 h3 ih=>exact⟨h1.1,ih⟩
theorem Zjl{g:TypeId->Option (List (TypeId×Kd))}{cs:List Value}{n:Nat}(hg:∀t l cs x,g t=some l->DataW.trod enc P w 0 sp true n t cs=some x->Lv enc P w sp B l cs (B x.1)) : ∀{fs:List Field} {xs:List (DataW H×List MemPlace)} {off:Nat} {l:List (TypeId×Kd)},Zhi P g fs off=some l->xs.length=fs.length -> (∀(i:Nat) (f:Field),fs[i]?=some f->DataW.trod enc P w 0 sp true n f.type ((cs.drop f.offset).take (P.cellsOf f.type))=xs[i]?)->off+l.length<=cs.length -> Lv enc P w sp B l ((cs.drop off).take l.length) ((xs.map λx=>B x.1).sum)
 | [],[],off,l,h,_,_,_=>by simp[Zhi]at h;subst h;simp;exact .nil _
 | f::fs,[],off,l,h,hl,_,_=>by simp at hl
 | [],x::xs,off,l,h,hl,_,_=>by simp at hl
 | f::fs,x::xs,off,l,h,hl,hx,hc=>by
  simp only[Zhi,Option.bind_eq_bind,Option.bind_eq_some_iff,Option.ite_none_right_eq_some,Option.some.injEq]at h;obtain⟨l1,h1,l2,h2,⟨ho,hcs⟩,rfl⟩:=h;have hx0:=hx 0 f rfl;simp only[List.getElem?_cons_zero]at hx0;rw[ho,hcs]at hx0;have i1:=hg _ _ _ _ h1 hx0;simp only[qy11]at hc;have i2:=Zjl hg (xs:=xs) h2 (by simpa using hl) (λi f' hf=>by have:=hx (i+1) f' (by simpa using hf);simpa using this) (by omega);have e:(cs.drop off).take (l1++l2).length=(cs.drop off).take l1.length++(cs.drop (off+l1.length)).take l2.length:=by rw[qy11,<- List.drop_drop,List.take_add]
  rw[e];exact i2.append i1
theorem Zhj(hB:Bulk B):∀(f:Nat) {t:TypeId} {l:List (TypeId×Kd)} {n:Nat} {cs:List Value} {x:DataW H×List MemPlace},Z59 P f t=some l->DataW.trod enc P w 0 sp true n t cs=some x->Lv enc P w sp B l cs (B x.1)
 | 0,t,l,n,cs,x,h,_=>by simp[Z59]at h
 | f+1,t,l,n,cs,x,h,hx=>by
  simp only[Z59]at h;have one:∀(k:Kd) (c:Value),cs=[c]->k.ok c->Lv enc P w sp B [(t,k)] cs (B x.1):=λk c hc hk=>by subst hc;exact .cons ⟨hk,n,x.1,x.2,hx,Nat.le_refl _⟩ (.nil 0) (by omega)
  split at h
  ·rename_i hu;simp at h;subst h;obtain⟨b,rfl,-⟩:=DataW.trod_bool hu hx;exact one _ _ rfl ⟨b,rfl⟩
  ·rename_i k hu;simp at h;subst h;obtain⟨m,rfl,-⟩:=DataW.trod_int hu hx;exact one _ _ rfl ⟨m,rfl⟩
  ·rename_i hu;simp at h;subst h;obtain⟨⟨⟨s⟩⟩,rfl,-⟩:=DataW.trod_string hu hx;exact one _ _ rfl ⟨s,rfl⟩
  ·rename_i e hu;simp at h;subst h;rcases DataW.trod_slice hu hx with⟨rfl,-⟩|⟨a,len,cap,elems,rest,m,-,rfl,-⟩
   ·exact one _ _ rfl rfl
   ·exact one _ _ rfl rfl
  ·rename_i fs hu;split at h
   ·rename_i l' hl;split at h
    ·rename_i hc;simp at h;subst h;obtain⟨xs,m,rfl,rfl,hcl,hxl,hf⟩:=DataW.trod_struct hu hx;have:=Zjl (cs:=cs) (λt l cs x=>Zhj hB f (t:=t) (l:=l) (n:=m) (cs:=cs) (x:=x)) hl (by simpa using hxl) (λi f hi=>hf i f (by simpa using hi)) (by omega);rw[List.drop_zero,List.take_of_length_le (by omega)]at this;refine this.mono ?_;have:=hB.agg (xs.map (·.1));rw[List.map_map]at this;exact this
    ·cases h
   ·cases h
  ·cases h
theorem Z7y(hB:Bulk B){f n:Nat}{t e:TypeId}{ls:List (TypeId×Kd)}{v:Value}{x:DataW H×List MemPlace}(hu:P.underlying t=some (.slice e))(hl:Z59 P f e=some ls)(hc:P.cellsOf e=ls.length)(hpos:0<ls.length) (hx:DataW.trod enc P w 0 sp true n t [v]=some x) : ∃(rows:List (List Value)) (bs:List Nat),reads w v (ls.map (·.2)) rows/\bs.length=rows.length/\(∀(i:Nat) r b,rows[i]?=some r->bs[i]?=some b->Lv enc P w sp B ls r b)/\bs.sum+1<=B x.1:=by
 rcases DataW.trod_slice hu hx with⟨hv,rfl⟩|⟨a,len,cap,elems,rest,m,-,hv,rfl,-,hlc,hcm,hel,hget,-⟩
 ·simp only[List.cons.injEq,and_true]at hv;subst hv;exact⟨[],[],⟨by simp,none,0,rfl,⟨λ_=>rfl,by simp⟩,by simp⟩,rfl,by simp,by simpa using hB.one _⟩
 ·simp only[List.cons.injEq,and_true]at hv;subst hv;rw[hc]at hget;have hrow:∀i,i<len->∃r y,w.cells? 0 (a.add (i*ls.length)) ls.length=some r/\elems[i]?=some y/\DataW.trod enc P w 0 sp true m e r=some y:=λi hi=>by
   have h1:=hget i hi;have h2:elems[i]?=some (elems[i]'(by omega)):=qy7 (by omega);rw[h2,Option.bind_eq_some_iff]at h1;obtain⟨r,h3,h4⟩:=h1;exact⟨r,_,h3,h2,h4⟩
  let rows:=(List.range len).map λi=>(w.cells? 0 (a.add (i*ls.length)) ls.length).getD []
  have hrl:rows.length=len:=by simp[rows]
  have hri:∀i,i<len->∃r y,rows[i]?=some r/\w.cells? 0 (a.add (i*ls.length)) ls.length=some r/\elems[i]?=some y/\Lv enc P w sp B ls r (B y.1):=λi hi=>by obtain⟨r,y,h1,h2,h3⟩:=hrow i hi;exact⟨r,y,by simp[rows,List.getElem?_range hi,h1],h1,h2,Zhj hB f hl h3⟩
  have hlen:∀r∈rows,r.length=(ls.map (·.2)).length/\rowOk (ls.map (·.2)) r:=λr hr=>by obtain⟨i,hi,hri'⟩:=List.getElem_of_mem hr;obtain⟨r',y,h1,h2,h3,h4⟩:=hri i (by omega);rw[qy7 hi,hri']at h1;simp at h1;subst h1;exact⟨h4.rowOk.length,h4.rowOk⟩
  refine⟨rows,elems.map λy=>B y.1,⟨λr hr=>(hlen r hr).2,some a,cap,by rw[hrl],⟨(λh=>by cases h),by omega⟩,λhne=>⟨a,rfl,λj u hj=>?_⟩⟩,by simp[hrl,hel],λi r b hr hb=>?_,?_⟩
  ·have hL:(ls.map (·.2)).length=ls.length:=by simp
   have hfl:=Zf (λr hr=>(hlen r hr).1);have hjl:j<rows.length*ls.length:=by have:=(List.getElem?_eq_some_iff.1 hj).1;rw[hfl,hL]at this;exact this
   have hi:j / ls.length<len:=by rw[<- hrl];exact Nat.div_lt_of_lt_mul (by rw[Nat.mul_comm];exact hjl)
   obtain⟨r,y,h1,h2,h3,h4⟩:=hri _ hi;have hk:=Nat.mod_lt j hpos;have hjj:j=j / ls.length*ls.length+j % ls.length:=by rw[Nat.mul_comm];exact(Nat.div_add_mod j _).symm
   have:=Z9m (λr hr=>by rw[<- hL];exact(hlen r hr).1) (i:=j / ls.length) (c:=j % ls.length) hk;rw[<- hjj,hj,h1]at this;obtain⟨c1,c2⟩:=World.cells?_some h2;have c3:=c2.2 _ hk;rw[Zeb,<- hjj]at c3;rw[c3];exact this.symm
  ·obtain⟨r',y,h1,h2,h3,h4⟩:=hri i (by rw[<- hrl];exact(List.getElem?_eq_some_iff.1 hr).1);rw[h1]at hr;simp at hr;subst hr;rw[List.getElem?_map,h3]at hb;simp at hb;subst hb;exact h4
  ·have:=hB.slice (elems.map (·.1)) (rest.map (·.1));rw[List.map_map]at this;exact this
theorem Zwg{r:Reach}{b0 base:Nat}{held:Bool}{t e:TypeId}{v:Value}{d:DataW H}{ps:List MemPlace}(ht:P.underlying t=some (.slice e))(hval:Value.okWide P w r b0 t v)(hd:DataW.Trod enc P w base sp held t v d ps) : ∃n,DataW.trod enc P w base sp held n t [v]=some (d,ps):=by
 obtain⟨n,hd⟩:=hd;refine⟨n,?_⟩;have:v.cells.toList=[v]:=by simp only[Value.okWide,ht,Cell.okWide]at hval;cases v<;>first|rfl|(simp[Cell.ok]at hval)
 rw[<- this];exact hd
theorem Zqw{r:Reach}{b0 base:Nat}{held:Bool}{t:TypeId}{fs:Array Field}{v:Value}{d:DataW H}{ps:List MemPlace}(ht:P.underlying t=some (.struct fs))(hval:Value.okWide P w r b0 t v)(hd:DataW.Trod enc P w base sp held t v d ps) : ∃(cs:List Value) (n:Nat),v=.agg cs.toArray/\DataW.trod enc P w base sp held n t cs=some (d,ps):=by obtain⟨n,hd⟩:=hd;simp only[Value.okWide,ht]at hval;obtain⟨cs,rfl,-⟩:=hval;exact⟨cs.toList,n,by simp,by simpa[Value.cells]using hd⟩
theorem Z17t{α:Type}{g:α->Nat}:∀{rows:List α} {bs:List Nat},bs.length=rows.length->(∀(i:Nat) r b,rows[i]?=some r->bs[i]?=some b->g r<=b)->(rows.map g).sum<=bs.sum
 | [],[],_,_=>by simp
 | r::rows,b::bs,hl,h=>by have h0:=h 0 r b rfl rfl;have:=Z17t (rows:=rows) (bs:=bs) (by simpa using hl) (λi r' b' hr hb=>h (i+1) r' b' (by simpa using hr) (by simpa using hb));simp only[List.map_cons,List.sum_cons];omega
 | [],_::_,hl,_=>by simp at hl
 | _::_,[],hl,_=>by simp at hl
theorem Zdc(hB:Bulk B){ls:List (TypeId×Kd)}(h0:ls≠[]){rows:List (List Value)}{bs:List Nat}(hl:bs.length=rows.length)(h:∀(i:Nat) r b,rows[i]?=some r->bs[i]?=some b->Lv enc P w sp B ls r b):rows.length<=bs.sum:=by
 have:=Z17t (g:=λ_:List Value=>1) hl (λi r b hr hb=>by
  cases h i r b hr hb with
  | nil b=>exact absurd rfl h0
  | cons h1 h2 h3=>obtain⟨-,n,d,q,-,h5⟩:=h1;have:=hB.one d;omega)
 have e:(rows.map λ_=>1).sum=rows.length:=by
  clear hl h this;induction rows with
  | nil=>rfl
  | cons r rows ih=>simp only[List.map_cons,List.sum_cons,List.length_cons,ih];omega
 omega
theorem Z5x.str(hB:Bulk B){t:TypeId}(ht:P.underlying t=some .string){s:List UInt8}{b:Nat}(h:Z5x enc P w sp B (t,.str) (.string ⟨s.toArray⟩) b):s.length+1<=b:=by obtain⟨-,n,d,ps,h1,h2⟩:=h;obtain⟨s',h3,h4⟩:=DataW.trod_string ht h1;simp only[List.cons.injEq,Value.string.injEq,and_true]at h3;subst h3;simp only[Prod.mk.injEq]at h4;obtain⟨⟨rfl,-⟩,-⟩:=h4;have:=hB.str s;omega
end
end Go.Sx
namespace Go.Proofs.Y
open Go Go.Sx Go.ChangeShapes Go.WideShapes Go.ChangeAt Go.RowKit
section
variable {H:Type} {enc:TypeId×Value->H} {w:World} {sp:Nat->Bool} {B:DataW H->Nat}
def Zlv(P:Program)(t:TypeId):Bool:=match P.underlying t with|some (.struct _)=>true|_=>false
theorem Zoo{P:Program}{r:Reach}{b0 base:Nat}{held:Bool}{t:TypeId}{v:Value}{d:DataW H}{ps:List MemPlace}(ht:Zlv P t=true)(hval:Value.okWide P w r b0 t v)(hd:DataW.Trod enc P w base sp held t v d ps) : ∃(cs:List Value) (n:Nat),v=.agg cs.toArray/\DataW.trod enc P w base sp held n t cs=some (d,ps):=by
 unfold Zlv at ht;split at ht
 ·exact Zqw (by assumption) hval hd
 ·cases ht
theorem Z1fp(hB:Bulk B){cs:List Value}{b:Nat}(h:Lv enc Tryz.prog w sp B [(3,.int .i64),(9,.str),(9,.str)] cs b):∃o:Fl,cs=encF o/\o.2.1.length+o.2.2.length+1<=b:=by
 cases h with
 | cons c1 h e1 =>
 cases h with
 | cons c2 h e2 =>
 cases h with
 | cons c3 h e3 =>
 cases h;obtain⟨p,rfl⟩:=c1.1;obtain⟨t,rfl⟩:=c2.1;obtain⟨n,rfl⟩:=c3.1;have q2:=Z5x.str hB Tryz.underlying9 c2;have q3:=Z5x.str hB Tryz.underlying9 c3;exact⟨(p,t,n),rfl,by simp only;omega⟩
theorem rwG{α:Type}{f:α->List Value}{P:α->Nat->Prop}{Q:List Value->Nat->Prop}(one:∀{r b},Q r b->∃o,r=f o/\P o b)(mo:∀{o b c},P o b->b<=c->P o c):∀{rows:List (List Value)} {bs:List Nat},bs.length=rows.length->(∀(i:Nat) r b,rows[i]?=some r->bs[i]?=some b->Q r b)->∃l:List α,rows=l.map f/\∀x∈l,P x bs.sum:=by
 intro rows;induction rows with
 | nil=>exact λ_ _=>⟨[],rfl,by simp⟩
 | cons r rows ih =>
  intro bs hl h
  match bs,hl with
  | b::bs,hl =>
   obtain⟨l,e,hb⟩:=ih (bs:=bs) (by simpa using hl) (λi r' b' h1 h2=>h (i+1) r' b' (by simpa using h1) (by simpa using h2));obtain⟨o,rfl,hob⟩:=one (h 0 r b rfl rfl);refine⟨o::l,by rw[e];rfl,λx hx=>?_⟩;rw[List.sum_cons];rcases List.mem_cons.1 hx with rfl|hx
   ·exact mo hob (by omega)
   ·exact mo (hb x hx) (by omega)
theorem Z17u(hB:Bulk B){rows:List (List Value)}{bs:List Nat}(hl:bs.length=rows.length)(h:∀(i:Nat) r b,rows[i]?=some r->bs[i]?=some b->Lv enc Tryz.prog w sp B [(3,.int .i64),(9,.str),(9,.str)] r b):∃l:List Fl,rows=l.map encF/\∀x∈l,x.2.1.length<=bs.sum:=rwG (P:=λx b=>x.2.1.length<=b) (λh=>let⟨o,e,h⟩:=Z1fp hB h;⟨o,e,by omega⟩) (λh g=>by omega) hl h
theorem Z1ej(hB:Bulk B)(h1:Tryz.prog.underlying 48=some (.slice 148))(h2:Z59 Tryz.prog 8 148=some [(3,.int .i64),(9,.str),(9,.str)])(h3:Tryz.prog.cellsOf 148=3){cs:List Value}{b:Nat} (h:Lv enc Tryz.prog w (λ_=>true) B [(9,.str),(4,.bool),(4,.bool),(48,.oth),(48,.oth),(3,.int .i64)] cs b) : ∃(s:Ses) (u v:Value),Value.agg cs.toArray=sesV s u v/\Zu w u s.fl/\Zu w v s.qu/\s.cl.length+s.fl.length+s.qu.length<=b/\(∀x∈s.fl,x.2.1.length<=b)/\(∀x∈s.qu,x.2.1.length<=b):=by
 cases h with
 | cons c1 h e1 =>
 cases h with
 | cons c2 h e2 =>
 cases h with
 | cons c3 h e3 =>
 cases h with
 | cons c4 h e4 =>
 cases h with
 | cons c5 h e5 =>
 cases h with
 | cons c6 h e6 =>
 cases h;obtain⟨k,rfl⟩:=c1.1;obtain⟨c,rfl⟩:=c2.1;obtain⟨j,rfl⟩:=c3.1;obtain⟨p,rfl⟩:=c6.1;have q1:=Z5x.str hB Tryz.underlying9 c1;obtain⟨-,n,d,ps,hx,hb⟩:=c4;obtain⟨rows,bs,rd,bl,lv,bk⟩:=Z7y hB (f:=8) h1 h2 h3 (by decide) hx;have rl:=Zdc hB (by decide) bl lv;obtain⟨l,rfl,hs⟩:=Z17u hB bl lv;obtain⟨-,n',d',ps',hx',hb'⟩:=c5;obtain⟨rows',bs',rd',bl',lv',bk'⟩:=Z7y hB (f:=8) h1 h2 h3 (by decide) hx';have rl':=Zdc hB (by decide) bl' lv';obtain⟨l',rfl,hs'⟩:=Z17u hB bl' lv';rw[qy3]at rl rl';simp only at bk bk';exact⟨⟨k,c,j,l,l',p⟩,_,_,by rw[sesV,rd.sc1,rd'.sc1],rd,rd',by simp only;omega,λx hx=>by have:=hs x hx;omega,λx hx=>by have:=hs' x hx;omega⟩
theorem Z1bt(hB:Bulk B){cs:List Value}{b:Nat}(h:Lv enc Tryz.prog w sp B [(9,.str),(9,.str),(3,.int .i64)] cs b):∃o:Kp,cs=encK o/\o.1.length+o.2.1.length+1<=b:=by
 cases h with
 | cons c1 h e1 =>
 cases h with
 | cons c2 h e2 =>
 cases h with
 | cons c3 h e3 =>
 cases h;obtain⟨p,rfl⟩:=c1.1;obtain⟨t,rfl⟩:=c2.1;obtain⟨n,rfl⟩:=c3.1;have q1:=Z5x.str hB Tryz.underlying9 c1;have q2:=Z5x.str hB Tryz.underlying9 c2;exact⟨(p,t,n),rfl,by simp only;omega⟩
theorem Z1ek(hB:Bulk B){rows:List (List Value)}{bs:List Nat}(hl:bs.length=rows.length)(h:∀(i:Nat) r b,rows[i]?=some r->bs[i]?=some b->Lv enc Tryz.prog w sp B [(9,.str),(9,.str),(3,.int .i64)] r b):∃l:List Kp,rows=l.map encK/\∀x∈l,x.1.length<=bs.sum:=rwG (P:=λx b=>x.1.length<=b) (λh=>let⟨o,e,h⟩:=Z1bt hB h;⟨o,e,by omega⟩) (λh g=>by omega) hl h
theorem Z1bu(hB:Bulk B){cs:List Value}{b:Nat}(h:Lv enc Tryz.prog w sp B [(9,.str),(9,.str),(3,.int .i64)] cs b):∃o:Wt,cs=Zb o/\o.1.length+o.2.1.length+1<=b:=by
 cases h with
 | cons c1 h e1 =>
 cases h with
 | cons c2 h e2 =>
 cases h with
 | cons c3 h e3 =>
 cases h;obtain⟨p,rfl⟩:=c1.1;obtain⟨t,rfl⟩:=c2.1;obtain⟨n,rfl⟩:=c3.1;have q1:=Z5x.str hB Tryz.underlying9 c1;have q2:=Z5x.str hB Tryz.underlying9 c2;exact⟨(p,t,n),rfl,by simp only;omega⟩
theorem Z1el(hB:Bulk B){rows:List (List Value)}{bs:List Nat}(hl:bs.length=rows.length)(h:∀(i:Nat) r b,rows[i]?=some r->bs[i]?=some b->Lv enc Tryz.prog w sp B [(9,.str),(9,.str),(3,.int .i64)] r b):∃l:List Wt,rows=l.map Zb/\∀x∈l,x.1.length<=bs.sum/\x.2.1.length<=bs.sum:=rwG (P:=λx b=>x.1.length<=b/\x.2.1.length<=b) (λh=>let⟨o,e,h⟩:=Z1bu hB h;⟨o,e,by omega⟩) (λh g=>by omega) hl h
theorem Z1em(hB:Bulk B){cs:List Value}{b:Nat}(h:Lv enc Tryz.prog w sp B [(3,.int .i64),(9,.str),(9,.str),(3,.int .i64)] cs b):∃o:Wat,cs=Z8 o/\o.2.1.length+o.2.2.1.length+2<=b:=by
 cases h with
 | cons c1 h e1 =>
 cases h with
 | cons c2 h e2 =>
 cases h with
 | cons c3 h e3 =>
 cases h with
 | cons c4 h e4 =>
 cases h;obtain⟨p,rfl⟩:=c1.1;obtain⟨t,rfl⟩:=c2.1;obtain⟨n,rfl⟩:=c3.1;obtain⟨k,rfl⟩:=c4.1;have q2:=Z5x.str hB Tryz.underlying9 c2;have q3:=Z5x.str hB Tryz.underlying9 c3;exact⟨(p,t,n,k),rfl,by simp only;omega⟩
theorem Z1en(hB:Bulk B){rows:List (List Value)}{bs:List Nat}(hl:bs.length=rows.length)(h:∀(i:Nat) r b,rows[i]?=some r->bs[i]?=some b->Lv enc Tryz.prog w sp B [(3,.int .i64),(9,.str),(9,.str),(3,.int .i64)] r b):∃l:List Wat,rows=l.map Z8/\∀x∈l,x.2.2.1.length<=bs.sum:=rwG (P:=λx b=>x.2.2.1.length<=b) (λh=>let⟨o,e,h⟩:=Z1em hB h;⟨o,e,by omega⟩) (λh g=>by omega) hl h
end
theorem tyk1:Tryz.prog.underlying 22=some (.slice 95):=by kernel_rfl
theorem tyk2:Z59 Tryz.prog 8 95=some [(9,.str),(9,.str),(3,.int .i64)]:=by kernel_rfl
theorem tyk3:Tryz.prog.cellsOf 95=3:=by kernel_rfl
theorem tyw1:Tryz.prog.underlying 23=some (.slice 107):=by kernel_rfl
theorem tyw2:Z59 Tryz.prog 8 107=some [(9,.str),(9,.str),(3,.int .i64)]:=by kernel_rfl
theorem tyw3:Tryz.prog.cellsOf 107=3:=by kernel_rfl
theorem tys1:Tryz.prog.underlying 24=some (.slice 50):=by kernel_rfl
theorem tys2:Z59 Tryz.prog 8 50=some [(9,.str),(4,.bool),(4,.bool),(48,.oth),(48,.oth),(3,.int .i64)]:=by kernel_rfl
theorem tys3:Tryz.prog.cellsOf 50=6:=by kernel_rfl
theorem tyf1:Tryz.prog.underlying 48=some (.slice 148):=by kernel_rfl
theorem tyf2:Z59 Tryz.prog 8 148=some [(3,.int .i64),(9,.str),(9,.str)]:=by kernel_rfl
theorem tyf3:Tryz.prog.cellsOf 148=3:=by kernel_rfl
theorem tya1:Tryz.prog.underlying 25=some (.slice 97):=by kernel_rfl
theorem tya2:Z59 Tryz.prog 8 97=some [(3,.int .i64),(9,.str),(9,.str),(3,.int .i64)]:=by kernel_rfl
theorem tya3:Tryz.prog.cellsOf 97=4:=by kernel_rfl
section
variable {H:Type} {enc:TypeId×Value->H} {w:World} {B:DataW H->Nat}
theorem Z1bv(hB:Bulk B){P:Program}{sp:Nat->Bool}{ls:List (TypeId×Kd)}{cs:List Value}{b:Nat}(h:Lv enc P w sp B ls cs b):ls.length<=b:=by
 induction h with
 | nil b=>exact Nat.zero_le _
 | cons h1 h2 h3 ih =>
  obtain⟨-,n,d,ps,-,h5⟩:=h1;have:=hB.one d;rw[List.length_cons];omega
theorem Z1bw(hB:Bulk B):∀{rows:List (List Value)} {bs:List Nat},bs.length=rows.length->(∀(i:Nat) r b,rows[i]?=some r->bs[i]?=some b->Lv enc Tryz.prog w (λ_=>true) B [(9,.str),(4,.bool),(4,.bool),(48,.oth),(48,.oth),(3,.int .i64)] r b) -> ∃l:List SesX,rows=l.map Zg/\(Z6 l []).holds w/\(∀t∈l,t.1.cl.length+t.1.fl.length+t.1.qu.length<=bs.sum/\(∀x∈t.1.fl,x.2.1.length<=bs.sum)/\∀x∈t.1.qu,x.2.1.length<=bs.sum)/\6*l.length<=bs.sum:=by
 intro rows;induction rows with
 | nil=>exact λ_ _=>⟨[],rfl,Z7q w,by simp,by simp⟩
 | cons r rows ih =>
  intro bs hl h
  match bs,hl with
  | b::bs,hl =>
   obtain⟨l,e,hp,hb,hn⟩:=ih (bs:=bs) (by simpa using hl) (λi r' b' h1 h2=>h (i+1) r' b' (by simpa using h1) (by simpa using h2));have hlv:=h 0 r b rfl rfl;have hle:=Z1bv hB hlv;obtain⟨s,u,v,e2,ru,rv,z1,z2,z3⟩:=Z1ej hB tyf1 tyf2 tyf3 hlv;have e3:r=Zg (s,u,v):=by have e4:=Value.agg.inj e2;have e5:=congrArg Array.toList e4;exact e5
   refine⟨(s,u,v)::l,by rw[e,e3];rfl,?_,?_,?_⟩
   ·refine Z19 (l:=l) (o:=[]) (λt ht=>?_) (λt ht=>.inl ht) hp;rcases List.mem_cons.1 ht with rfl|ht
    ·exact .inr ⟨ru,rv⟩
    ·exact .inl ht
   ·intro t ht;rw[List.sum_cons];rcases List.mem_cons.1 ht with rfl|ht
    ·exact⟨by simp only;omega,λx hx=>by have:=z2 x hx;omega,λx hx=>by have:=z3 x hx;omega⟩
    ·obtain⟨q1,q2,q3⟩:=hb t ht;exact⟨by omega,λx hx=>by have:=q2 x hx;omega,λx hx=>by have:=q3 x hx;omega⟩
   ·simp only[List.length_cons,List.length_nil]at hle;rw[List.sum_cons,List.length_cons];omega
theorem Z1eo(hB:Bulk B){cs:List Value}{b:Nat}(h:Lv enc Tryz.prog w (λ_=>true) B [(22,.oth),(23,.oth),(24,.oth),(25,.oth),(3,.int .i64)] cs b)(hb:b<=4000000) : ∃x:TelX,Value.agg cs.toArray=bkV x/\x.ox=[]/\RdX w x/\SmlT x.tel:=by
 cases h with
 | cons c1 h e1 =>
 cases h with
 | cons c2 h e2 =>
 cases h with
 | cons c3 h e3 =>
 cases h with
 | cons c4 h e4 =>
 cases h with
 | cons c5 h e5 =>
 cases h;obtain⟨n,rfl⟩:=c5.1;obtain⟨-,n1,d1,ps1,hx1,hb1⟩:=c1;obtain⟨rows1,bs1,rd1,bl1,lv1,bk1⟩:=Z7y hB (f:=8) tyk1 tyk2 tyk3 (by decide) hx1;have rl1:=Zdc hB (by decide) bl1 lv1;obtain⟨l1,rfl,s1⟩:=Z1ek hB bl1 lv1;obtain⟨-,n2,d2,ps2,hx2,hb2⟩:=c2;obtain⟨rows2,bs2,rd2,bl2,lv2,bk2⟩:=Z7y hB (f:=8) tyw1 tyw2 tyw3 (by decide) hx2;have rl2:=Zdc hB (by decide) bl2 lv2;obtain⟨l2,rfl,s2⟩:=Z1el hB bl2 lv2;obtain⟨-,n3,d3,ps3,hx3,hb3⟩:=c3;obtain⟨rows3,bs3,rd3,bl3,lv3,bk3⟩:=Z7y hB (f:=8) tys1 tys2 tys3 (by decide) hx3;obtain⟨l3,rfl,p3,s3,k3⟩:=Z1bw hB bl3 lv3;obtain⟨-,n4,d4,ps4,hx4,hb4⟩:=c4;obtain⟨rows4,bs4,rd4,bl4,lv4,bk4⟩:=Z7y hB (f:=8) tya1 tya2 tya3 (by decide) hx4;have rl4:=Zdc hB (by decide) bl4 lv4;obtain⟨l4,rfl,s4⟩:=Z1en hB bl4 lv4;rw[qy3]at rl1 rl2 rl4;simp only at bk1 bk2 bk3 bk4;refine⟨⟨l1,l2,l3,l4,n,[],_,_,_,_,.slice none 0 0⟩,by rw[bkV,rd1.sc1,rd2.sc1,rd3.sc1,rd4.sc1],rfl,⟨rd1,rd2,rd3,p3,rd4⟩,?_⟩;refine⟨λx hx=>by have:=s1 x hx;omega,by show l1.length<_;omega,λx hx=>?_,by show l2.length<_;omega,λs hs=>?_,?_,λx hx=>?_,by show l4.length<_;omega⟩
 ·have:=s2 x hx;exact⟨by omega,by omega⟩
 ·obtain⟨t,ht,rfl⟩:=List.mem_map.1 hs;obtain⟨q1,q2,q3⟩:=s3 t ht;exact⟨λx hx=>by have:=q2 x hx;omega,λx hx=>by have:=q3 x hx;omega,by omega,by omega,by omega⟩
 ·show(l3.map (·.1)).length<_
  rw[qy3];omega
 ·have:=s4 x hx;omega
end
section
variable {H:Type} {enc:TypeId×Value->H} {w:World} {sp:Nat->Bool} {B:DataW H->Nat}
theorem Z1ep(hB:Bulk B){cs:List Value}{b:Nat}(h:Lv enc Tryz.prog w sp B [(9,.str),(3,.int .i64),(9,.str)] cs b):∃o:Evt,cs=Ze8 o/\o.client.length+o.bytes.length+1<=b:=by
 cases h with
 | cons c1 h e1 =>
 cases h with
 | cons c2 h e2 =>
 cases h with
 | cons c3 h e3 =>
 cases h;obtain⟨p,rfl⟩:=c1.1;obtain⟨n,rfl⟩:=c2.1;obtain⟨t,rfl⟩:=c3.1;have q1:=Z5x.str hB Tryz.underlying9 c1;have q2:=Z5x.str hB Tryz.underlying9 c3;exact⟨⟨p,n,t⟩,rfl,by simp only;omega⟩
theorem Z1bx(hB:Bulk B){rows:List (List Value)}{bs:List Nat}(hl:bs.length=rows.length)(h:∀(i:Nat) r b,rows[i]?=some r->bs[i]?=some b->Lv enc Tryz.prog w sp B [(9,.str),(3,.int .i64),(9,.str)] r b):∃l:List Evt,rows=l.map Ze8/\∀x∈l,x.client.length<=bs.sum/\x.bytes.length<=bs.sum:=rwG (P:=λx b=>x.client.length<=b/\x.bytes.length<=b) (λh=>let⟨o,e,h⟩:=Z1ep hB h;⟨o,e,by omega⟩) (λh g=>by omega) hl h
end
