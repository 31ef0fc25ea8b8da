/- By an AI agent. -/
import Derived.Test.YtfcofbfbgcbocaaGreatDoorP23
import Derived.Test.YtfcofbfbgcbocaaGreatDoorP24
import Derived.ProofKit
import Derived.OpenShut
import Derived.JoinedCond
import Derived.ChangeStays
set_option linter.all false
set_option maxHeartbeats 20000000
namespace Go.Proofs.Y
open Go Go.Sx
abbrev pbC(p:Pkt):List V:=[.i p.kind,.b p.dup,.b p.retain,.b p.clean,.b p.session,.i p.qos,.i p.id,.i p.keep,.i p.code,.s p.client,.s p.topic,.s p.payload,.v (.slice none 0 0),.r [],.v (.slice none 0 0),.r []]
abbrev bg1:Tel×List Rst:=(smT,[(annC,[50,9,0,3])])
abbrev bg2:Tel:=Zs annC pubP smT
theorem Zkw{y:TelX}(h:y.tel=smT):y.bare.tel=smT:=by rw[Zdy,h];rfl
theorem st_1(w:World)(y:TelX)(hx:RdX w y.bare)(ht:y.tel=smT):Calls Tryz.prog 9 #[bkV y,sc1 (.slice none 0 0),evV ev1] w λq w'=>Zkt w w' q 0 bg1:=by have hb:=Zkw ht;have hc:=Z171 w y.bare (.slice none 0 0) [] ev1 hx (Z9 _ _) rfl (by rw[hb];exact Zkv) (λa ha=>by cases ha) (by decide) (by decide) (by decide);rw[hb,show stpE smT [] ev1=0 by rw[Z11s (Z26.1 Zci) (Z8l.1 rfl)];exact Znp.1,resW,if_pos rfl,beg1]at hc;exact hc
theorem st_2(w:World)(y:TelX)(rv:Value)(hx:RdX w y.bare)(hr:Zsh w rv [(annC,[50,9,0,3])])(ht:y.tel=smT):Calls Tryz.prog 9 #[bkV y,sc1 rv,evV ev2] w λq w'=>Zkt w w' q 0 (bg2,[]):=by have hb:=Zkw ht;have hc:=Z171 w y.bare rv [(annC,[50,9,0,3])] ev2 hx hr rfl (by rw[hb];exact Zkv) (λa ha=>by rw[qy12.1 ha];decide) (by show 1<1000000;decide) (by decide) (by decide);rw[hb,show stpE smT [(annC,[50,9,0,3])] ev2=0 by rw[Z11s (Z26.1 Zci) (Z8l.1 Znp.2.2)];exact Znp.2.1,resW,if_pos rfl,beg2]at hc;exact hc
theorem rn_1(w:World)(y:TelX)(lv:Value)(hx:RdX w y.bare)(hl:Z10i w lv [ev1,ev2])(ht:y.tel=smT):Calls Tryz.prog 17 #[bkV y,sc1 lv] w λq w'=>Zpq w w' q 0 { bg2 with out:=[] } [[],bg2.out]:=by
 have hb:=Zkw ht;have h2:∀e∈[ev1,ev2],Z37 e=0/\e.client.length<1099511627776/\e.bytes.length<=30000000:=λe he=>by
  rcases List.mem_cons.1 he with rfl|he
  ·exact⟨Znp.1,by decide,by decide⟩
  ·rw[qy12.1 he];exact⟨Znp.2.1,by decide,by decide⟩
 have hc:=Z11v w y.bare lv [ev1,ev2] hx hl rfl (by rw[hb];exact Zkv) (λe he=>(h2 e he).2.1) (λe he=>(h2 e he).2.2) (by show 2<1000000000;decide);have hr1:runW feed dec [ev1] (smT,[])=bg1:=beg1 smT;have hr2:runW feed dec [ev1,ev2] (smT,[])=(bg2,[]):=by
  show Z7r ev2 ({ (Z7r ev1 (smT,[])).1 with out:=[] },(Z7r ev1 (smT,[])).2)=_
  rw[beg1];exact beg2 smT
 have hr3:Zpu [ev1,ev2] (smT,[])=[[],bg2.out]:=by
  show[(runW feed dec [ev1] (smT,[])).1.out,(runW feed dec [ev1,ev2] (smT,[])).1.out]=_
  rw[hr1,hr2];rfl
 rw[hb,show runE smT [ev1,ev2]=0 by rw[runE,if_neg (qy9.2 Zci),if_neg (by decide)];exact Zpt.2 λe he=>(h2 e he).1,if_pos rfl,if_pos rfl,hr3,show runF [ev1,ev2] (smT,[])=(bg2,[]) from hr2]at hc;exact hc
theorem Z11w(w:World)(zs:List SesX)(L:List AllX)(i:Nat)(yv:Value)(b:List SntX)(sy:List SesX)(hR:(runA zs L).holds w)(hb:reads w yv kSn (b.map Z1f))(hn:(Z6 sy b).holds w)(hi:i<L.length)(he:(L.getD i alD).1.map (·.1)=b.map (·.1))(hk:Z1o (b.map (·.1)))(hl:b.length<1000000000) : Calls Tryz.prog 19 #[sc1 (((L.map Zh4).getD i []).getD 0 undef),sc1 yv] w λe w'=>e=.returned (.bool true)/\Mod [] w w':=by have hA:=Zga (Z17.1 hR).2 (Z1aq hi);have hc:=Zvg w (L.getD i alD).2 yv (L.getD i alD).1 b [] sy hA.1 hb hA.2 hn (Z11m (by rw[he];exact hk)) (by have:=congrArg List.length he;rw[qy3,qy3]at this;omega);rw[Zgc.2 he]at hc;refine Z2 hc ?_;rw[Z1ap hi];simp only[Zh4,List.getD_cons_zero,Z25]
set_option maxRecDepth 4000 in
theorem Znq(w:World):Calls Tryz.prog 6 #[] w λe w'=>e=.returned (.bool true)/\Mod [] w w':=by
 refine Z2 (Z7 (J:=[]) (sxE_ok.joins _) Tryz.func6 Z4z rfl rfl rfl ?_) rfl;simp only[QQ,Nat.reduceAdd,qy3,qy4];intro w1 hr1;refine(Z15g w1).mono ?_;rintro r w2 ⟨rfl,m1⟩;refine⟨pbC pubP,rfl,rfl,m1,qy5 _,qy2.2 ⟨⟨Z9 w2 _,λk hk=>absurd rfl hk.1⟩,qy2.2 ⟨⟨Z9 w2 _,λk hk=>absurd rfl hk.1⟩,qy5 _⟩⟩,Z78 (by simp[Ent.wr]),?_⟩;clear m1 hr1;refine⟨[.s (if chkP pubP=0 then Z5e pubP else[]),.i (chkP pubP)],rfl,λ_ w' hr=>Zn2 w' pubP nilV nilV (Z20 _) (Z2f _) Zij,?_⟩;simp only[QQ,Nat.reduceAdd,qy3,qy4,Zkl,if_true,Zii];refine⟨λh=>absurd h (by decide),λ_=>?_⟩;refine⟨λvs=>∃(y z:TelX) (r:List Rst) (rv:Value) (b:Nat),vs=[.v y.kv,.r (y.kept.map encK),.v y.wv,.r (y.wants.map Za),.v y.sv,.r (y.sx.map Zh),.v y.av,.r (y.wat.map Z8),.i y.next,.a (Z6 z.sx z.ox)]++(spV z r rv 0++[.n b])/\(z.tel,r)=bg1,⟨by decide,?_,?_⟩,?_⟩
 ·intro w3 hr;refine(Zge hr 18 (Z9u w3) rfl).mono ?_;rintro q w4 ⟨y,ty,-,-,rfl,m1,m3,m4⟩;refine⟨smV y,rfl,rfl,m1,qy5 _,m3,m4,?_⟩;clear hr m1 m3 m4;refine⟨?_,?_⟩
  ·intro w3 hr;refine(Znm hr 28 (st_1 w3 y ⟨hr.at_ 0 rfl,hr.at_ 1 rfl,hr.at_ 2 rfl,Z1s (y:=y) (hr.at_ 4 rfl),hr.at_ 3 rfl⟩ ty) rfl).mono ?_;rintro q w4 ⟨z,r,rv,hz,-,rfl,m1,m3,m4⟩;exact⟨spV z r rv 0,rfl,rfl,m1,qy5 _,m3,m4,λb=>⟨y,z,r,rv,b,rfl,hz⟩⟩
  ·intro b w3 hr;refine(Znm hr 29 (st_1 w3 y ⟨hr.at_ 1 rfl,hr.at_ 2 rfl,hr.at_ 3 rfl,Z1s (y:=y) (hr.at_ 5 rfl),hr.at_ 4 rfl⟩ ty) rfl).mono ?_;rintro q w4 ⟨z,r,rv,hz,-,rfl,m1,m3,m4⟩;exact⟨spV z r rv 0,rfl,rfl,m1,qy5 _,m3,m4,y,z,r,rv,b,rfl,hz⟩
 ·intro b;intro w3 hr;refine(Zge hr 19 (Z9u w3) rfl).mono ?_;rintro q w4 ⟨y,ty,-,-,rfl,m1,m3,m4⟩;refine⟨smV y,rfl,rfl,m1,qy5 _,m3,m4,?_⟩;clear hr m1 m3 m4;intro w3 hr;refine(Znm hr 29 (st_1 w3 y ⟨hr.at_ 0 rfl,hr.at_ 1 rfl,hr.at_ 2 rfl,Z1s (y:=y) (hr.at_ 4 rfl),hr.at_ 3 rfl⟩ ty) rfl).mono ?_;rintro q w4 ⟨z,r,rv,hz,-,rfl,m1,m3,m4⟩;exact⟨spV z r rv 0,rfl,rfl,m1,qy5 _,m3,m4,y,z,r,rv,b,rfl,hz⟩
 rintro _ - ⟨y1,y,r2,rv2,b2,rfl,hy⟩;obtain⟨ty,hr2⟩:=Prod.mk.inj hy;subst hr2;refine⟨λvs=>∃(z:TelX) (r:List Rst) (rv:Value) (b:Nat),vs=spV z r rv 0++[.n b]/\(z.tel,r)=(bg2,[]),⟨by decide,?_,?_⟩,?_⟩
 ·intro w3 hr;refine(Znm hr 44 (st_2 w3 y rv2 ⟨hr.at_ 1 rfl,hr.at_ 2 rfl,hr.at_ 3 rfl,Z1s (y:=y) (hr.at_ 7 rfl),hr.at_ 4 rfl⟩ (hr.at_ 5 rfl) ty) rfl).mono ?_;rintro q w4 ⟨z,r,rv,hz,-,rfl,m1,m3,m4⟩;exact⟨spV z r rv 0,rfl,rfl,m1,qy5 _,m3,m4,λb=>⟨z,r,rv,b,rfl,hz⟩⟩
 ·intro b w3 hr;refine(Znm hr 45 (st_2 w3 y rv2 ⟨hr.at_ 2 rfl,hr.at_ 3 rfl,hr.at_ 4 rfl,Z1s (y:=y) (hr.at_ 8 rfl),hr.at_ 5 rfl⟩ (hr.at_ 6 rfl) ty) rfl).mono ?_;rintro q w4 ⟨z,r,rv,hz,-,rfl,m1,m3,m4⟩;exact⟨spV z r rv 0,rfl,rfl,m1,qy5 _,m3,m4,z,r,rv,b,rfl,hz⟩
 rintro _ - ⟨y3,r3,rv3,b3,rfl,hy3⟩;obtain⟨t3,hr3⟩:=Prod.mk.inj hy3;subst hr3;refine⟨λvs=>∃(y z:TelX) (L:List AllX) (av ev:Value) (b:Nat),vs=[.v y.kv,.r (y.kept.map encK),.v y.wv,.r (y.wants.map Za),.v y.sv,.r (y.sx.map Zh),.v y.av,.r (y.wat.map Z8),.i y.next,.a (runA z.sx L),.v ev]++(rnV z L av 0++[.n b])/\z.tel={ bg2 with out:=[] }/\L.map (λt=>t.1.map (·.1))=[[],bg2.out]/\z.ox=[],⟨by decide,?_,?_,?_⟩,?_⟩
 ·intro w3 hr;refine(Zge hr 60 (Z9u w3) rfl).mono ?_;rintro q w4 ⟨y,ty,-,-,rfl,m1,m3,m4⟩;refine⟨smV y,rfl,rfl,m1,qy5 _,m3,m4,?_⟩;clear hr m1 m3 m4;refine⟨?_,?_⟩
  ·intro ev;refine⟨?_,?_⟩
   ·intro w3 hr;refine(Z7g hr 71 (rn_1 w3 y ev ⟨hr.at_ 1 rfl,hr.at_ 2 rfl,hr.at_ 3 rfl,Z1s (y:=y) (hr.at_ 5 rfl),hr.at_ 4 rfl⟩ (owns.reads (hr.at_ 0 rfl)) ty) rfl).mono ?_;rintro q w4 ⟨z,L,av,tz,tL,oz,rfl,m1,m3,m4⟩;exact⟨rnV z L av 0,rfl,rfl,m1,qy5 _,m3,m4,λb=>⟨y,z,L,av,ev,b,rfl,tz,tL,oz⟩⟩
   ·intro b;intro w3 hr;refine(Z7g hr 72 (rn_1 w3 y ev ⟨hr.at_ 2 rfl,hr.at_ 3 rfl,hr.at_ 4 rfl,Z1s (y:=y) (hr.at_ 6 rfl),hr.at_ 5 rfl⟩ (owns.reads (hr.at_ 1 rfl)) ty) rfl).mono ?_;rintro q w4 ⟨z,L,av,tz,tL,oz,rfl,m1,m3,m4⟩;exact⟨rnV z L av 0,rfl,rfl,m1,qy5 _,m3,m4,y,z,L,av,ev,b,rfl,tz,tL,oz⟩
  ·intro b ev;intro w3 hr;refine(Z7g hr 72 (rn_1 w3 y ev ⟨hr.at_ 2 rfl,hr.at_ 3 rfl,hr.at_ 4 rfl,Z1s (y:=y) (hr.at_ 6 rfl),hr.at_ 5 rfl⟩ (owns.reads (hr.at_ 0 rfl)) ty) rfl).mono ?_;rintro q w4 ⟨z,L,av,tz,tL,oz,rfl,m1,m3,m4⟩;exact⟨rnV z L av 0,rfl,rfl,m1,qy5 _,m3,m4,y,z,L,av,ev,b,rfl,tz,tL,oz⟩
 ·intro ev;refine⟨?_,?_⟩
  ·intro w3 hr;refine(Zge hr 61 (Z9u w3) rfl).mono ?_;rintro q w4 ⟨y,ty,-,-,rfl,m1,m3,m4⟩;refine⟨smV y,rfl,rfl,m1,qy5 _,m3,m4,?_⟩;clear hr m1 m3 m4;refine⟨?_,?_⟩
   ·intro w3 hr;refine(Z7g hr 71 (rn_1 w3 y ev ⟨hr.at_ 0 rfl,hr.at_ 1 rfl,hr.at_ 2 rfl,Z1s (y:=y) (hr.at_ 4 rfl),hr.at_ 3 rfl⟩ (owns.reads (hr.at_ 5 rfl)) ty) rfl).mono ?_;rintro q w4 ⟨z,L,av,tz,tL,oz,rfl,m1,m3,m4⟩;exact⟨rnV z L av 0,rfl,rfl,m1,qy5 _,m3,m4,λb=>⟨y,z,L,av,ev,b,rfl,tz,tL,oz⟩⟩
   ·intro b;intro w3 hr;refine(Z7g hr 72 (rn_1 w3 y ev ⟨hr.at_ 1 rfl,hr.at_ 2 rfl,hr.at_ 3 rfl,Z1s (y:=y) (hr.at_ 5 rfl),hr.at_ 4 rfl⟩ (owns.reads (hr.at_ 6 rfl)) ty) rfl).mono ?_;rintro q w4 ⟨z,L,av,tz,tL,oz,rfl,m1,m3,m4⟩;exact⟨rnV z L av 0,rfl,rfl,m1,qy5 _,m3,m4,y,z,L,av,ev,b,rfl,tz,tL,oz⟩
  ·intro b;intro w3 hr;refine(Zge hr 62 (Z9u w3) rfl).mono ?_;rintro q w4 ⟨y,ty,-,-,rfl,m1,m3,m4⟩;refine⟨smV y,rfl,rfl,m1,qy5 _,m3,m4,?_⟩;clear hr m1 m3 m4;intro w3 hr;refine(Z7g hr 72 (rn_1 w3 y ev ⟨hr.at_ 0 rfl,hr.at_ 1 rfl,hr.at_ 2 rfl,Z1s (y:=y) (hr.at_ 4 rfl),hr.at_ 3 rfl⟩ (owns.reads (hr.at_ 6 rfl)) ty) rfl).mono ?_;rintro q w4 ⟨z,L,av,tz,tL,oz,rfl,m1,m3,m4⟩;exact⟨rnV z L av 0,rfl,rfl,m1,qy5 _,m3,m4,y,z,L,av,ev,b,rfl,tz,tL,oz⟩
 ·intro b;refine⟨?_,?_⟩
  ·intro w3 hr;refine(Zge hr 61 (Z9u w3) rfl).mono ?_;rintro q w4 ⟨y,ty,-,-,rfl,m1,m3,m4⟩;refine⟨smV y,rfl,rfl,m1,qy5 _,m3,m4,?_⟩;clear hr m1 m3 m4;intro ev;intro w3 hr;refine(Z7g hr 72 (rn_1 w3 y ev ⟨hr.at_ 1 rfl,hr.at_ 2 rfl,hr.at_ 3 rfl,Z1s (y:=y) (hr.at_ 5 rfl),hr.at_ 4 rfl⟩ (owns.reads (hr.at_ 0 rfl)) ty) rfl).mono ?_;rintro q w4 ⟨z,L,av,tz,tL,oz,rfl,m1,m3,m4⟩;exact⟨rnV z L av 0,rfl,rfl,m1,qy5 _,m3,m4,y,z,L,av,ev,b,rfl,tz,tL,oz⟩
  ·intro ev;intro w3 hr;refine(Zge hr 62 (Z9u w3) rfl).mono ?_;rintro q w4 ⟨y,ty,-,-,rfl,m1,m3,m4⟩;refine⟨smV y,rfl,rfl,m1,qy5 _,m3,m4,?_⟩;clear hr m1 m3 m4;intro w3 hr;refine(Z7g hr 72 (rn_1 w3 y ev ⟨hr.at_ 0 rfl,hr.at_ 1 rfl,hr.at_ 2 rfl,Z1s (y:=y) (hr.at_ 4 rfl),hr.at_ 3 rfl⟩ (owns.reads (hr.at_ 5 rfl)) ty) rfl).mono ?_;rintro q w4 ⟨z,L,av,tz,tL,oz,rfl,m1,m3,m4⟩;exact⟨rnV z L av 0,rfl,rfl,m1,qy5 _,m3,m4,y,z,L,av,ev,b,rfl,tz,tL,oz⟩
 rintro _ - ⟨y4,z,L,av,ev,b4,rfl,tz,tL,oz⟩;simp only[QQ,Nat.reduceAdd,qy3,qy4];have hB3:BOk bg2:=(Z8j (Z26.1 Zci) (by decide) Zkl).1;have hl2:L.length=2:=by have:=congrArg List.length tL;simpa using this
 have e1:y.ox=[]:=List.map_eq_nil_iff.1 (show y.ox.map (·.1)=[] from congrArg Tel.out ty);have e3:y3.ox.length=3:=by have h1:=congrArg (λt:Tel=>t.out.length) t3;simp only[TelX.tel,qy3]at h1;rw[h1];exact Z1ay
 have s3:SmlT y3.bare.tel:=.of (by rw[Zdy,t3];exact hB3.out []);have o3:Z1o (y3.ox.map (·.1)):=by have h1:=congrArg Tel.out t3;rw[show y3.ox.map (·.1)=y3.tel.out from rfl,t3];exact Zfy (Z26.1 Zci) (by decide) Zkl .nil
 refine⟨[.b true],rfl,λ_ w' hr=>?_,?_⟩
 ·have hc:=Zcw w' y3.bare z ⟨hr.at_ 14 rfl,hr.at_ 15 rfl,hr.at_ 16 rfl,Z1s (y:=y3) (hr.at_ 20 rfl),hr.at_ 17 rfl⟩ ⟨hr.at_ 1 rfl,hr.at_ 2 rfl,hr.at_ 3 rfl,by rw[oz];exact(Z17.1 (hr.at_ 6 rfl:(runA z.sx L).holds w')).1,hr.at_ 4 rfl⟩ s3.b.keptL s3.b.wantsL s3.b.watL (by have:=s3.b.sessL;omega) s3.f;rw[show Znk y3.bare.tel z.tel=true from Znl.2 (by rw[Zdy,t3,tz])]at hc;exact hc
 simp only[QQ,Nat.reduceAdd,qy3,qy4,e1,e3,hl2];have hL1:(L.getD 1 alD).1.map (·.1)=bg2.out:=by have h1:=congrArg (λl:List (List Snt)=>l.getD 1 []) tL;simp only[List.getD_cons_succ,List.getD_cons_zero]at h1;rw[<- h1,qy1,qy1,List.getElem?_map,qy7 (by omega)];rfl
 refine⟨.inr (by decide),[.b true],rfl,λ_ w' hr=>?_,?_⟩
 ·have e9:y3.ox.map (·.1)=bg2.out:=congrArg Tel.out t3;exact Z2 (Z11w w' z.sx L 1 y3.ov y3.ox y3.sx (hr.at_ 6 rfl) (hr.at_ 19 rfl) (hr.at_ 20 rfl) (by omega) (hL1.trans e9.symm) o3 (by omega)) rfl
 simp only[QQ,Nat.reduceAdd,qy3,qy4,e1,e3,hl2];exact λw' hr=>⟨by simp,hr.mod⟩
theorem Z1b0(t:Tel)(c s a b:List UInt8):runE t [⟨c,0,a⟩,⟨c,0,b⟩]=runE t [⟨c,0,s⟩]:=by have e1:Z37 ⟨c,0,a⟩=Z37 ⟨c,0,s⟩:=rfl;have e2:Z37 ⟨c,0,b⟩=Z37 ⟨c,0,s⟩:=rfl;unfold runE;simp only[evsE,e1,e2,List.length_cons,List.length_nil];by_cases h:Z37 ⟨c,0,s⟩=0<;>simp[h]
theorem Z1b1{L:List AllX}{a:List Snt}(h:L.map (λt=>t.1.map (·.1))=[a]):L.length=1/\(L.getD 0 alD).1.map (·.1)=a:=by
 match L,h with
 | [t],h=>exact⟨rfl,by simpa using h⟩
theorem Z1b2{L:List AllX}{a b:List Snt}(h:L.map (λt=>t.1.map (·.1))=[a,b]):L.length=2/\(L.getD 0 alD).1.map (·.1)=a/\(L.getD 1 alD).1.map (·.1)=b:=by
 match L,h with
 | [t,u],h=>exact⟨rfl,by simp at h;exact h.1,by simp at h;exact h.2⟩
set_option maxRecDepth 4000 in
theorem Zkx(w:World)(x:TelX)(c s:List UInt8)(cut:Int)(hx:RdX w x)(ho:x.ox=[])(hs:SmlT x.tel)(hc:c.length<1099511627776)(hl:s.length<=2000000)(hcut:-9223372036854775808<=cut/\cut<=9223372036854775807) : Calls Tryz.prog 5 #[bkV x,.string ⟨c.toArray⟩,.string ⟨s.toArray⟩,.int .i64 cut] w λq w'=>q=.returned (.bool true)/\Mod [] w w':=by
  have hr0:Rel ⟨[],w⟩ (bkA x++[.s c,.s s,.i cut]) bkH w:=Rel.start2 (qy2.2 ⟨⟨hx.kept,rfl⟩,qy2.2 ⟨⟨hx.want,rfl⟩,qy2.2 ⟨⟨hx.sess,rfl⟩,qy2.2 ⟨⟨hx.nest,rfl⟩,qy2.2 ⟨⟨hx.wat,rfl⟩,qy5 _⟩⟩⟩⟩⟩);refine Z2 (Z3 (J:=bkA x++[.s c,.s s,.i cut]) (sxE_ok.joins _) Tryz.func5 Z4b rfl rfl hr0 rfl rfl ?_) rfl;simp only[QQ,Nat.reduceAdd,qy3,qy4];intro b13;refine⟨[.b true],rfl,λ_ w' _=>Znq w',?_⟩;simp only[QQ,Nat.reduceAdd,qy3,qy4];refine⟨[.b true],rfl,λ_ w' _=>Znn w',?_⟩;simp only[QQ,Nat.reduceAdd,qy3,qy4];refine⟨λh=>absurd h (by simp),λ_=>?_⟩;intro w1 hr1;refine(Zss w1 [] s (by simp;omega)).mono ?_;rw[List.nil_append];rintro q w2 ⟨lv,l,rfl,hlF,m1,rX,pX,fX,fP⟩;refine⟨[.v lv,.r (l.map Z6c),.s (feed s).2.1,.i (feed s).2.2,.a (Z1n l)],rfl,rfl,m1,qy5 _,qy2.2 ⟨⟨rX,λk hk=>.inl (fX k hk.2)⟩,qy2.2 ⟨⟨pX,λk hk=>.inl (fP k hk)⟩,qy5 _⟩⟩,Z2d (by simp[Ent.wr]),?_⟩;clear m1 rX pX fX fP hr1 hlF;simp only[QQ,Nat.reduceAdd,qy3,qy4];refine⟨λh w3 hr3=>⟨by trivial,hr3.mod⟩,λh=>?_⟩;have hF0:(feed s).2.2=0:=Classical.byContradiction λh1=>h (.inl (.inl h1));have hc0:0<=cut:=by omega
  have hc1:cut<=s.length:=by omega
  obtain⟨n,rfl⟩:∃n:Nat,cut=n:=⟨cut.toNat,by omega⟩
  clear h;intro ev1 w3 hr3;have hcl1:∀e∈[(⟨c,0,s⟩:Evt)],e.client.length<1099511627776:=λe he=>by rw[qy12.1 he];exact hc
  have hbl1:∀e∈[(⟨c,0,s⟩:Evt)],e.bytes.length<=30000000:=λe he=>by rw[qy12.1 he];show s.length<=_;omega
  have hcl2:∀e∈([⟨c,0,s.take n⟩,⟨c,0,(s.take s.length).drop n⟩]:List Evt),e.client.length<1099511627776:=λe he=>by
    rcases List.mem_cons.1 he with rfl|he
    . exact hc
    . rw[qy12.1 he];exact hc
  have hbl2:∀e∈([⟨c,0,s.take n⟩,⟨c,0,(s.take s.length).drop n⟩]:List Evt),e.bytes.length<=30000000:=λe he=>by
    rcases List.mem_cons.1 he with rfl|he
    . show(s.take n).length<=_;rw[List.length_take];omega
    . rw[qy12.1 he];show((s.take s.length).drop n).length<=_;rw[List.length_drop,List.length_take];omega
  have hq:=Z11v w3 x ev1 [⟨c,0,s⟩] ⟨hr3.at_ 4 rfl,hr3.at_ 5 rfl,hr3.at_ 6 rfl,hr3.at_ 7 rfl,hr3.at_ 8 rfl⟩ (owns.reads (hr3.at_ 0 rfl)) ho hs hcl1 hbl1 (by show 1<1000000000;decide);have hE2:=Z1b0 x.tel c s (s.take n) ((s.take s.length).drop n);have hEo:=@Zpv x.tel [⟨c,0,s⟩];have hEo2:=@Zpv x.tel [⟨c,0,s.take n⟩,⟨c,0,(s.take s.length).drop n⟩];obtain⟨E,hEE⟩:∃E,E=runE x.tel [⟨c,0,s⟩]:=⟨_,rfl⟩
  rw[<- hEE]at hq hE2 hEo;rw[hE2]at hEo2;clear hEE;refine(Z7g hr3 22 hq rfl).mono ?_;rintro q w4 ⟨z1,L1,av1,tz1,tL1,oz1,rfl,m1,m3,m4⟩;refine⟨rnV z1 L1 av1 E,rfl,rfl,m1,qy5 _,m3,m4,?_⟩;clear m1 m3 m4 hr3 hq;intro b35;refine⟨λvs=>∃(z2:TelX) (L2:List AllX) (av2 ev2:Value) (b:Nat),vs=[.v ev2]++(rnV z2 L2 av2 E++[.n b])/\z2.tel=(if E=0 then { (runF [⟨c,0,s.take n⟩,⟨c,0,(s.take s.length).drop n⟩] (x.tel,[])).1 with out:=[] }else telN)/\L2.map (λt=>t.1.map (·.1))=(if E=0 then Zpu [⟨c,0,s.take n⟩,⟨c,0,(s.take s.length).drop n⟩] (x.tel,[])else[])/\z2.ox=[],⟨by omega,by omega,?_,?_⟩,?_⟩
  . intro ev;refine⟨?_,?_⟩
    . intro w5 hr5;have hq:=Z11v w5 x ev [⟨c,0,s.take n⟩,⟨c,0,(s.take s.length).drop n⟩] ⟨hr5.at_ 12 rfl,hr5.at_ 13 rfl,hr5.at_ 14 rfl,hr5.at_ 15 rfl,hr5.at_ 16 rfl⟩ (owns.reads (hr5.at_ 0 rfl)) ho hs hcl2 hbl2 (by show 2<1000000000;decide);rw[hE2]at hq;refine(Z7g hr5 37 hq rfl).mono ?_;rintro q w6 ⟨z2,L2,av2,tz2,tL2,oz2,rfl,m1,m3,m4⟩;refine⟨rnV z2 L2 av2 E,rfl,rfl,m1,qy5 _,m3,m4,?_⟩;intro b;exact⟨z2,L2,av2,ev,b,rfl,tz2,tL2,oz2⟩
    . intro b w5 hr5;have hq:=Z11v w5 x ev [⟨c,0,s.take n⟩,⟨c,0,(s.take s.length).drop n⟩] ⟨hr5.at_ 13 rfl,hr5.at_ 14 rfl,hr5.at_ 15 rfl,hr5.at_ 16 rfl,hr5.at_ 17 rfl⟩ (owns.reads (hr5.at_ 1 rfl)) ho hs hcl2 hbl2 (by show 2<1000000000;decide);rw[hE2]at hq;refine(Z7g hr5 38 hq rfl).mono ?_;rintro q w6 ⟨z2,L2,av2,tz2,tL2,oz2,rfl,m1,m3,m4⟩;exact⟨rnV z2 L2 av2 E,rfl,rfl,m1,qy5 _,m3,m4,z2,L2,av2,ev,b,rfl,tz2,tL2,oz2⟩
  . intro b ev w5 hr5;have hq:=Z11v w5 x ev [⟨c,0,s.take n⟩,⟨c,0,(s.take s.length).drop n⟩] ⟨hr5.at_ 13 rfl,hr5.at_ 14 rfl,hr5.at_ 15 rfl,hr5.at_ 16 rfl,hr5.at_ 17 rfl⟩ (owns.reads (hr5.at_ 0 rfl)) ho hs hcl2 hbl2 (by show 2<1000000000;decide);rw[hE2]at hq;refine(Z7g hr5 38 hq rfl).mono ?_;rintro q w6 ⟨z2,L2,av2,tz2,tL2,oz2,rfl,m1,m3,m4⟩;exact⟨rnV z2 L2 av2 E,rfl,rfl,m1,qy5 _,m3,m4,z2,L2,av2,ev,b,rfl,tz2,tL2,oz2⟩
  rintro _ - ⟨z2,L2,av2,ev2,b2,rfl,tz2,tL2,oz2⟩;simp only[QQ,Nat.reduceAdd,qy3,qy4];refine⟨λh3 w5 hr5=>⟨by simp,hr5.mod⟩,λh3=>?_⟩;have hcn:¬c=[]:=λh=>h3 (.inl h);have hE0:E=0:=Classical.byContradiction λh=>h3 (.inr h);subst hE0;rw[if_pos rfl]at tz1 tL1 tz2 tL2;obtain⟨hB,-,ha1⟩:=hEo rfl;have ha2:=(hEo2 rfl).2.2;have hps:=Zpj (fd:=feed) (dm:=dec) (λa t=>Znc t _ a (Nat.le_refl _)) c (s.take n) (s.drop n) hcn x.tel (by rw[List.take_append_drop];exact hF0);rw[List.take_append_drop]at hps;simp only[List.take_length]at tz2 tL2 ha2;obtain⟨R,hR⟩:∃R,R=Z7r ⟨c,0,s⟩ ({ x.tel with out:=[] },[]):=⟨_,rfl⟩
  obtain⟨Y,hY⟩:∃Y,Y=Z7r ⟨c,0,s.take n⟩ ({ x.tel with out:=[] },[]):=⟨_,rfl⟩
  obtain⟨Z,hZ⟩:∃Z,Z=Z7r ⟨c,0,s.drop n⟩ ({ Y.1 with out:=[] },Y.2):=⟨_,rfl⟩
  have hp1:{ R.1 with out:=([]:List Snt) }={ Z.1 with out:=[] }/\R.1.out=Y.1.out++Z.1.out:=by rw[hZ,hY,hR];exact hps
  have f1:runF [⟨c,0,s⟩] (x.tel,[])=R:=hR.symm;have f2:runF [⟨c,0,s.take n⟩,⟨c,0,s.drop n⟩] (x.tel,[])=Z:=by rw[hZ,hY];rfl
  have f3:Zpu [⟨c,0,s⟩] (x.tel,[])=[R.1.out]:=by rw[hR];rfl
  have f4:Zpu [⟨c,0,s.take n⟩,⟨c,0,s.drop n⟩] (x.tel,[])=[Y.1.out,Z.1.out]:=by rw[hZ,hY];rfl
  rw[f1]at tz1;rw[f2]at tz2;rw[f3]at tL1;rw[f4]at tL2;have oR:=Z15m (ha1 _ (qy8 ..)) (x:=({ x.tel with out:=[] },[])) (hB.out []) (Z8l.1 rfl);rw[<- hR]at oR;have hRl:R.1.out.length<=200*(s.length+601):=Nat.le_trans oR.2.2.1 (Nat.le_of_eq (Nat.zero_add _));have hRo:Z1o R.1.out:=oR.2.2.2 .nil;have hBR:BOk { R.1 with out:=[] }:=oR.1.out [];clear hps hR hY hZ f1 f2 f3 f4 ha1 ha2 oR hEo hEo2 hE2;obtain⟨hl1,hA1⟩:=Z1b1 tL1;obtain⟨hl2,hA2,hA3⟩:=Z1b2 tL2;have sz:SmlT z1.tel:=by rw[tz1];exact .of hBR
  have lYZ:Y.1.out.length+Z.1.out.length<=200*(s.length+601):=by rw[<- qy11,<- hp1.2];exact hRl
  have l2a:(L2.getD 0 alD).1.length=Y.1.out.length:=by rw[<- hA2,qy3]
  have l2b:(L2.getD 1 alD).1.length=Z.1.out.length:=by rw[<- hA3,qy3]
  have l1a:(L1.getD 0 alD).1.length=R.1.out.length:=by rw[<- hA1,qy3]
  refine⟨[.b true],rfl,λ_ w' hr=>?_,?_⟩
  . have hc:=Zcw w' z1 z2 ⟨hr.at_ 9 rfl,hr.at_ 10 rfl,hr.at_ 11 rfl,by rw[oz1];exact(Z17.1 (hr.at_ 14 rfl:(runA z1.sx L1).holds w')).1,hr.at_ 12 rfl⟩ ⟨hr.at_ 1 rfl,hr.at_ 2 rfl,hr.at_ 3 rfl,by rw[oz2];exact(Z17.1 (hr.at_ 6 rfl:(runA z2.sx L2).holds w')).1,hr.at_ 4 rfl⟩ sz.b.keptL sz.b.wantsL sz.b.watL (by have:=sz.b.sessL;omega) sz.f;rw[show Znk z1.tel z2.tel=true from Znl.2 (by rw[tz1,tz2,hp1.1])]at hc;exact hc
  simp only[QQ,Nat.reduceAdd,qy3,qy4,hl1,hl2];refine⟨.inr (by decide),.inr (by decide),.inr (by decide),λ_=>?_,λh4=>absurd ⟨⟨⟨trivial,by decide⟩,by decide⟩,trivial⟩ h4⟩;have r20:=Z1ap (l:=L2) (i:=0) (by omega);have r21:=Z1ap (l:=L2) (i:=1) (by omega);have m20:=Z1aq (l:=L2) (i:=0) (by omega);have m21:=Z1aq (l:=L2) (i:=1) (by omega);intro v52;refine⟨(L2.getD 0 alD).1.map Z1f,λw' hr=>?_,?_⟩
  . have hA:=Zga (Z17.1 (hr.at_ 7 rfl:(runA z2.sx L2).holds w')).2 m20;have hv:(((L2.map Zh4).getD (0:Int).toNat []).getD 0 undef)=(L2.getD 0 alD).2:=by rw[show(0:Int).toNat=0 from rfl,r20];exact hA.1.sc1
    refine⟨by rw[hv];exact hA.1,λhne k hk e he hw hf=>?_⟩;have hk':Z1 (L2.getD 0 alD).2 k:=by rw[<- hv];exact hk
    exact hr.disj (qy6 (i:=7) rfl) he (λh=>by subst h;cases hw) (.inr hw) (Z4y.2 (.inr ⟨_,List.mem_flatMap.2 ⟨_,m20,qy8 ..⟩,hne,hk'⟩)) hf
  simp only[QQ,Nat.reduceAdd,qy3,qy4];refine⟨by(first|omega|(simp only[qy11,qy3,List.length_cons,List.length_nil];omega)),λv55=>?_⟩;refine⟨(L2.getD 1 alD).1.map Z1f,λw' hr=>?_,?_⟩
  . have hA:=Zga (Z17.1 (hr.at_ 8 rfl:(runA z2.sx L2).holds w')).2 m21;have hv:(((L2.map Zh4).getD (1:Int).toNat []).getD 0 undef)=(L2.getD 1 alD).2:=by rw[show(1:Int).toNat=1 from rfl,r21];exact hA.1.sc1
    refine⟨by rw[hv];exact hA.1,λhne k hk e he hw hf=>?_⟩;have hk':Z1 (L2.getD 1 alD).2 k:=by rw[<- hv];exact hk
    exact hr.disj (qy6 (i:=8) rfl) he (λh=>by subst h;cases hw) (.inr hw) (Z4y.2 (.inr ⟨_,List.mem_flatMap.2 ⟨_,m21,qy8 ..⟩,hne,hk'⟩)) hf
  simp only[QQ,Nat.reduceAdd,qy3,qy4];refine⟨by(first|omega|(simp only[qy11,qy3,List.length_cons,List.length_nil];omega)),λv58=>?_⟩;refine⟨[.b true],rfl,λ_ w' hr=>?_,?_⟩
  . have hC:=Z17.1 (hr.at_ 9 rfl:(runA z2.sx L2).holds w');have hv:reads w' v58 kSn (((L2.getD 0 alD).1++(L2.getD 1 alD).1).map Z1f):=by rw[List.map_append];exact owns.reads (hr.at_ 0 rfl)
    have he:(L1.getD 0 alD).1.map (·.1)=((L2.getD 0 alD).1++(L2.getD 1 alD).1).map (·.1):=by rw[hA1,List.map_append,hA2,hA3];exact hp1.2
    exact Z2 (Z11w w' z1.sx L1 0 v58 ((L2.getD 0 alD).1++(L2.getD 1 alD).1) [] (hr.at_ 17 rfl) hv (Z15r (Zga hC.2 m20).2 (Zga hC.2 m21).2) (by omega) he (by rw[<- he,hA1];exact hRo) (by rw[qy11];omega)) rfl
  simp only[QQ,Nat.reduceAdd,qy3,qy4];exact λw' hr=>⟨by trivial,hr.mod⟩
end Go.Proofs.Y
namespace Go.Sx
open Go Go.ChangeShapes Go.WideShapes Go.ChangeAt Go.RowKit
section
variable {H:Type} {enc:TypeId×Value->H} {P:Program}
def Z1dq(P:Program)(ts:List TypeId):Bool:=ts.all λt=>match P.underlying t with|some (.slice e)=>decide (0<P.cellsOf e)|_=>true
def Z11x(P:Program)(ts:List TypeId):Bool:=ts.all λt=>match P.underlying t with
 | some (.slice e)=>ts.contains e
 | some (.pointer e)=>ts.contains e
 | some (.array _ e)=>ts.contains e
 | some (.map _ e)=>ts.contains e
 | some (.struct fs)=>fs.toList.all λf=>ts.contains f.type
 | _=>true
theorem Z1b3(hl:laidOutB P=true)(hm:mapsRowed P=true){ts:List TypeId}(hc:Z11x P ts=true)(hs:ts.all (λt=>decide (t<P.types.size))=true):Kids P (·∈ts):=by
 have K:=kids_rows hl hm;have hs':∀t∈ts,t<P.types.size:=λt ht=>by simpa using List.all_eq_true.1 hs t ht
 have hc':=λt ht=>List.all_eq_true.1 hc t ht;refine⟨λ{t e} ht hu=>?_,λ{t e} ht hu=>?_,λ{t e n} ht hu=>⟨?_,(K.array (hs' t ht) hu).2⟩,λ{t fs} ht hu=>⟨?_,(K.struct (hs' t ht) hu).2⟩,λ{t k e} ht hu=>?_⟩
 ·have:=hc' t ht;rw[hu]at this;simpa using this
 ·have:=hc' t ht;rw[hu]at this;simpa using this
 ·have:=hc' t ht;rw[hu]at this;simpa using this
 ·have:=hc' t ht;rw[hu]at this;simp only[List.all_eq_true]at this;exact λf hf=>by simpa using this f hf
 ·have:=hc' t ht;rw[hu]at this;simpa using this
theorem Zgh{w w':World}{p:MemPlace}(h:w'.heap[p.block]?=w.heap[p.block]?):w.sameAt w' p:=by
 cases p with
 | cell b off=>exact World.cell?_of_block h
 | map b=>exact h
theorem Zbe{w w':World}{sp:Nat->Bool}{T:TypeId->Prop}(K:Kids P T)(hsz:∀{t e:TypeId},T t->P.underlying t=some (.slice e)->0<P.cellsOf e) : ∀{ts:List TypeId} {vs:List Value} {ds:List (DataW H)} {ps:List MemPlace},(∀t∈ts,T t)->DataW.TrodAll enc P w 0 (λ_=>true) true ts vs ds ps -> (∀p∈ps,w.sameAt w' p)->(∀p∈ps,sp p.block=true)->DataW.TrodAll enc P w' 0 sp true ts vs ds ps
 | [],_,_,_,_,h,_,_=>by obtain⟨rfl,rfl,rfl⟩:=trodAll_nil h;exact trodAll_mk0
 | t::ts,_,_,_,ht,h,hs,hp=>by
  obtain⟨v,vs1,d,ds1,a,b,rfl,rfl,rfl,h1,h2⟩:=trodAll_cons h;obtain⟨n,h1⟩:=h1;exact⟨a,b,⟨n,DataW.trod_stays K hsz (λh=>by cases h) (ht t (qy8 ..)) h1 (λp hp'=>hs p (List.mem_append_left _ hp')) (λp hp'=>hp p (List.mem_append_left _ hp'))⟩,
   Zbe K hsz (λu hu=>ht u (qy10 _ hu)) h2 (λp hp'=>hs p (List.mem_append_right _ hp')) (λp hp'=>hp p (List.mem_append_right _ hp')),rfl⟩
theorem Z15x{f:Func}{s:ChangeSpec}{fresh handsOn again:Bool}{W W':World}{args:Array Value}{ds gs:List (DataW H)}{before:List MemPlace}{tb:TypeId}(ts:List TypeId) (hW:DataW.Whole enc P f.params.toList s.vars false W args.toList ds gs before) (hv:s.vars=[]) (hr:f.resultTypes=#[tb]) (htb:P.underlying tb=some .bool) (hfn:gs=[]->(s.fn H ds).results=[.lit (.bool true)]/\(s.fn H ds).args=ds/\(s.fn H ds).vars=[]) (hl:laidOutB P=true) (hm:mapsRowed P=true) (hc:Z11x P ts=true) (hs:ts.all (λt=>decide (t<P.types.size))=true) (hz:Z1dq P ts=true) (hp:f.params.toList.all ts.contains=true) (h:Mod [] W W'):s.post enc P f false fresh handsOn again W args (.bool true) W':=by
 have hW':=hW;have hlt:=hW.lt;obtain⟨p,q,hA,hV,rfl,hfz,hn⟩:=hW;rw[hv]at hV;obtain⟨rfl,rfl⟩:=trodVars_none hV;obtain⟨f1,f2,f3⟩:=hfn rfl;have K:=Z1b3 hl hm hc hs;have hsz:∀{t e:TypeId},t∈ts->P.underlying t=some (.slice e)->0<P.cellsOf e:=λ{t e} ht hu=>by have:=List.all_eq_true.1 hz t ht;rw[hu]at this;simpa using this
 have hT:∀t∈f.params.toList,t∈ts:=λt ht=>by simpa using List.all_eq_true.1 hp t ht
 have hblk:∀k,k<W.heap.size->W'.heap[k]?=W.heap[k]?:=λk hk=>h.block k hk (by simp);have hsame:∀x∈p,W.sameAt W' x:=λx hx=>Zgh (hblk _ (hlt x (by simpa using hx)));have hargs:∀sp:Nat->Bool,(∀x∈p,sp x.block=true)->DataW.TrodAll enc P W' 0 sp true f.params.toList args.toList (s.fn H (ds++[])).args p:=λsp hsp=>by rw[List.append_nil,f2];exact Zbe K hsz hT hA hsame hsp
 have hres:∀(b:Nat) (sp:Nat->Bool) (hd:Bool),DataW.TrodAll enc P W' b sp hd f.resultTypes.toList ((Value.bool true).resultList f.resultTypes.size) (s.fn H (ds++[])).results []:=λb sp hd=>by rw[List.append_nil,f1,hr];exact trodAll_cons_mk (shut_bool htb _) trodAll_mk0
 have hvars:∀sp:Nat->Bool,DataW.TrodVars enc P W' sp s.vars (s.fn H (ds++[])).vars []:=λsp=>by rw[List.append_nil,f3,hv];rfl
 have hold:∀x∈p,(λb=>decide (b<W.heap.size)) x.block=true:=λx hx=>by simpa using hlt x (by simpa using hx)
 refine⟨ds,[],p++[],[],p,[],hW',hres _ _ _,hargs _ hold,hvars _,⟨h.os,h.output,λi hi=>?_⟩,λ_=>⟨?_,[.lit (.bool true)]++ds,[],([]++p)++[],⟨[]++p,[],trodAll_append (by have:=hargs (λ_=>true) (λ_ _=>rfl);rw[List.append_nil,f2]at this;exact this) (by have:=hres 0 (λ_=>true) true;rw[List.append_nil,f1]at this;exact this),by rw[hv];rfl,rfl,?_,by simp⟩,?_⟩⟩
 ·have e:=hblk i hi;rw[e];cases W.heap[i]? with
  | none=>rfl
  | some o=>cases o<;>simp
 ·exact ok_one hr rfl (okWide_bool_mk htb _)
 ·intro b off hb;have hb:MemPlace.cell b off∈p:=by simpa using hb
  have hlt':=hlt _ (show MemPlace.cell b off∈p++[] by simpa using hb);have:=hfz b off (by simpa using hb);simp only[World.frozen?,hblk b hlt']at this⊢;exact this
 ·intro x hx _;simpa using hx
end
end Go.Sx
namespace Go.Sx
open Go Go.ChangeShapes Go.WideShapes Go.ChangeAt Go.RowKit
section
variable {H:Type} {enc:TypeId×Value->H} {P:Program} {w:World} {sp:Nat->Bool}
structure Bulk(B:DataW H->Nat):Prop where
 agg:∀l:List (DataW H),(l.map B).sum<=B (.agg l)
 slice:∀l r:List (DataW H),(l.map B).sum+1<=B (.slice l r)
 str:∀s:List UInt8,s.length+1<=B (.lit (.string s))
 one:∀d:DataW H,1<=B d
def Zgi(P:Program)(g:TypeId->Option (List (TypeId×Kd))):List Field->Nat->Option (List (TypeId×Kd))
 | [],_=>some []
 | f::fs,off=>do
  let l <- g f.type
  let r <- Zgi P g fs (off+l.length)
  if f.offset=off/\P.cellsOf f.type=l.length then some (l++r)else none
def Z5j(P:Program):Nat->TypeId->Option (List (TypeId×Kd))
 | 0,_=>none
 | f+1,t=>match P.underlying t with
  | some .bool=>some [(t,.bool)]
  | some (.int k)=>some [(t,.int k)]
  | some .string=>some [(t,.str)]
  | some (.slice _)=>some [(t,.oth)]
  | some (.struct fs)=>match Zgi P (Z5j P f) fs.toList 0 with
   | some l=>if P.cellsOf t=l.length then some l else none
   | none=>none
  | _=>none
def Z7h(enc:TypeId×Value->H)(P:Program)(w:World)(sp:Nat->Bool)(B:DataW H->Nat)(l:TypeId×Kd)(c:Value)(b:Nat):Prop :=
 l.2.ok c/\∃n d ps,DataW.trod enc P w 0 sp true n l.1 [c]=some (d,ps)/\B d<=b
inductive Lv (enc:TypeId×Value->H) (P:Program) (w:World) (sp:Nat->Bool) (B:DataW H->Nat):List (TypeId×Kd)->List Value->Nat->Prop
 | nil (b:Nat):Lv enc P w sp B [] [] b
 | cons {l:TypeId×Kd} {ls:List (TypeId×Kd)} {c:Value} {cs:List Value} {b1 b2 b:Nat}:Z7h enc P w sp B l c b1->Lv enc P w sp B ls cs b2->b1+b2<=b->Lv enc P w sp B (l::ls) (c::cs) b
variable {B:DataW H->Nat}
theorem Lv.mono{ls:List (TypeId×Kd)}{cs:List Value}{b b':Nat}(h:Lv enc P w sp B ls cs b)(hb:b<=b'):Lv enc P w sp B ls cs b':=by
 cases h with
 | nil=>exact .nil _
 | cons h1 h2 h3=>exact .cons h1 h2 (by omega)
theorem Lv.append{l2:List (TypeId×Kd)}{c2:List Value}{b2:Nat}(h':Lv enc P w sp B l2 c2 b2):∀{l1:List (TypeId×Kd)} {c1:List Value} {b1:Nat},Lv enc P w sp B l1 c1 b1->Lv enc P w sp B (l1++l2) (c1++c2) (b1+b2):=by
 intro l1 c1 b1 h;induction h with
 | nil b=>exact h'.mono (by omega)
 | cons h1 h2 h3 ih=>exact .cons h1 ih (by omega)
theorem Lv.rowOk{ls:List (TypeId×Kd)}{cs:List Value}{b:Nat}(h:Lv enc P w sp B ls cs b):rowOk (ls.map (·.2)) cs:=by
 induction h with
 | nil=>trivial
 | cons h1 h2 h3 ih=>exact⟨h1.1,ih⟩
theorem Zis{g:TypeId->Option (List (TypeId×Kd))}{cs:List Value}{n:Nat}(hg:∀t l cs x,g t=some l->DataW.trod enc P w 0 sp true n t cs=some x->Lv enc P w sp B l cs (B x.1)) : ∀{fs:List Field} {xs:List (DataW H×List MemPlace)} {off:Nat} {l:List (TypeId×Kd)},Zgi P g fs off=some l->xs.length=fs.length -> (∀(i:Nat) (f:Field),fs[i]?=some f->DataW.trod enc P w 0 sp true n f.type ((cs.drop f.offset).take (P.cellsOf f.type))=xs[i]?)->off+l.length<=cs.length -> Lv enc P w sp B l ((cs.drop off).take l.length) ((xs.map λx=>B x.1).sum)
 | [],[],off,l,h,_,_,_=>by simp[Zgi]at h;subst h;simp;exact .nil _
 | f::fs,[],off,l,h,hl,_,_=>by simp at hl
 | [],x::xs,off,l,h,hl,_,_=>by simp at hl
 | f::fs,x::xs,off,l,h,hl,hx,hc=>by
  simp only[Zgi,Option.bind_eq_bind,Option.bind_eq_some_iff,Option.ite_none_right_eq_some,Option.some.injEq]at h;obtain⟨l1,h1,l2,h2,⟨ho,hcs⟩,rfl⟩:=h;have hx0:=hx 0 f rfl;simp only[List.getElem?_cons_zero]at hx0;rw[ho,hcs]at hx0;have i1:=hg _ _ _ _ h1 hx0;simp only[qy11]at hc;have i2:=Zis hg (xs:=xs) h2 (by simpa using hl) (λi f' hf=>by have:=hx (i+1) f' (by simpa using hf);simpa using this) (by omega);have e:(cs.drop off).take (l1++l2).length=(cs.drop off).take l1.length++(cs.drop (off+l1.length)).take l2.length:=by rw[qy11,<- List.drop_drop,List.take_add]
  rw[e];exact i2.append i1
theorem Zgj(hB:Bulk B):∀(f:Nat) {t:TypeId} {l:List (TypeId×Kd)} {n:Nat} {cs:List Value} {x:DataW H×List MemPlace},Z5j P f t=some l->DataW.trod enc P w 0 sp true n t cs=some x->Lv enc P w sp B l cs (B x.1)
 | 0,t,l,n,cs,x,h,_=>by simp[Z5j]at h
 | f+1,t,l,n,cs,x,h,hx=>by
  simp only[Z5j]at h;have one:∀(k:Kd) (c:Value),cs=[c]->k.ok c->Lv enc P w sp B [(t,k)] cs (B x.1):=λk c hc hk=>by subst hc;exact .cons ⟨hk,n,x.1,x.2,hx,Nat.le_refl _⟩ (.nil 0) (by omega)
  split at h
  ·rename_i hu;simp at h;subst h;obtain⟨b,rfl,-⟩:=DataW.trod_bool hu hx;exact one _ _ rfl ⟨b,rfl⟩
  ·rename_i k hu;simp at h;subst h;obtain⟨m,rfl,-⟩:=DataW.trod_int hu hx;exact one _ _ rfl ⟨m,rfl⟩
  ·rename_i hu;simp at h;subst h;obtain⟨⟨⟨s⟩⟩,rfl,-⟩:=DataW.trod_string hu hx;exact one _ _ rfl ⟨s,rfl⟩
  ·rename_i e hu;simp at h;subst h;rcases DataW.trod_slice hu hx with⟨rfl,-⟩|⟨a,len,cap,elems,rest,m,-,rfl,-⟩
   ·exact one _ _ rfl rfl
   ·exact one _ _ rfl rfl
  ·rename_i fs hu;split at h
   ·rename_i l' hl;split at h
    ·rename_i hc;simp at h;subst h;obtain⟨xs,m,rfl,rfl,hcl,hxl,hf⟩:=DataW.trod_struct hu hx;have:=Zis (cs:=cs) (λt l cs x=>Zgj hB f (t:=t) (l:=l) (n:=m) (cs:=cs) (x:=x)) hl (by simpa using hxl) (λi f hi=>hf i f (by simpa using hi)) (by omega);rw[List.drop_zero,List.take_of_length_le (by omega)]at this;refine this.mono ?_;have:=hB.agg (xs.map (·.1));rw[List.map_map]at this;exact this
    ·cases h
   ·cases h
  ·cases h
theorem Z8p(hB:Bulk B){f n:Nat}{t e:TypeId}{ls:List (TypeId×Kd)}{v:Value}{x:DataW H×List MemPlace}(hu:P.underlying t=some (.slice e))(hl:Z5j P f e=some ls)(hc:P.cellsOf e=ls.length)(hpos:0<ls.length) (hx:DataW.trod enc P w 0 sp true n t [v]=some x) : ∃(rows:List (List Value)) (bs:List Nat),reads w v (ls.map (·.2)) rows/\bs.length=rows.length/\(∀(i:Nat) r b,rows[i]?=some r->bs[i]?=some b->Lv enc P w sp B ls r b)/\bs.sum+1<=B x.1:=by
 rcases DataW.trod_slice hu hx with⟨hv,rfl⟩|⟨a,len,cap,elems,rest,m,-,hv,rfl,-,hlc,hcm,hel,hget,-⟩
 ·simp only[List.cons.injEq,and_true]at hv;subst hv;exact⟨[],[],⟨by simp,none,0,rfl,⟨λ_=>rfl,by simp⟩,by simp⟩,rfl,by simp,by simpa using hB.one _⟩
 ·simp only[List.cons.injEq,and_true]at hv;subst hv;rw[hc]at hget;have hrow:∀i,i<len->∃r y,w.cells? 0 (a.add (i*ls.length)) ls.length=some r/\elems[i]?=some y/\DataW.trod enc P w 0 sp true m e r=some y:=λi hi=>by
   have h1:=hget i hi;have h2:elems[i]?=some (elems[i]'(by omega)):=qy7 (by omega);rw[h2,Option.bind_eq_some_iff]at h1;obtain⟨r,h3,h4⟩:=h1;exact⟨r,_,h3,h2,h4⟩
  let rows:=(List.range len).map λi=>(w.cells? 0 (a.add (i*ls.length)) ls.length).getD []
  have hrl:rows.length=len:=by simp[rows]
  have hri:∀i,i<len->∃r y,rows[i]?=some r/\w.cells? 0 (a.add (i*ls.length)) ls.length=some r/\elems[i]?=some y/\Lv enc P w sp B ls r (B y.1):=λi hi=>by obtain⟨r,y,h1,h2,h3⟩:=hrow i hi;exact⟨r,y,by simp[rows,List.getElem?_range hi,h1],h1,h2,Zgj hB f hl h3⟩
  have hlen:∀r∈rows,r.length=(ls.map (·.2)).length/\rowOk (ls.map (·.2)) r:=λr hr=>by obtain⟨i,hi,hri'⟩:=List.getElem_of_mem hr;obtain⟨r',y,h1,h2,h3,h4⟩:=hri i (by omega);rw[qy7 hi,hri']at h1;simp at h1;subst h1;exact⟨h4.rowOk.length,h4.rowOk⟩
  refine⟨rows,elems.map λy=>B y.1,⟨λr hr=>(hlen r hr).2,some a,cap,by rw[hrl],⟨(λh=>by cases h),by omega⟩,λhne=>⟨a,rfl,λj u hj=>?_⟩⟩,by simp[hrl,hel],λi r b hr hb=>?_,?_⟩
  ·have hL:(ls.map (·.2)).length=ls.length:=by simp
   have hfl:=Zf (λr hr=>(hlen r hr).1);have hjl:j<rows.length*ls.length:=by have:=(List.getElem?_eq_some_iff.1 hj).1;rw[hfl,hL]at this;exact this
   have hi:j / ls.length<len:=by rw[<- hrl];exact Nat.div_lt_of_lt_mul (by rw[Nat.mul_comm];exact hjl)
   obtain⟨r,y,h1,h2,h3,h4⟩:=hri _ hi;have hk:=Nat.mod_lt j hpos;have hjj:j=j / ls.length*ls.length+j % ls.length:=by rw[Nat.mul_comm];exact(Nat.div_add_mod j _).symm
   have:=Z94 (λr hr=>by rw[<- hL];exact(hlen r hr).1) (i:=j / ls.length) (c:=j % ls.length) hk;rw[<- hjj,hj,h1]at this;obtain⟨c1,c2⟩:=World.cells?_some h2;have c3:=c2.2 _ hk;rw[Zde,<- hjj]at c3;rw[c3];exact this.symm
  ·obtain⟨r',y,h1,h2,h3,h4⟩:=hri i (by rw[<- hrl];exact(List.getElem?_eq_some_iff.1 hr).1);rw[h1]at hr;simp at hr;subst hr;rw[List.getElem?_map,h3]at hb;simp at hb;subst hb;exact h4
  ·have:=hB.slice (elems.map (·.1)) (rest.map (·.1));rw[List.map_map]at this;exact this
theorem Zpw{r:Reach}{b0 base:Nat}{held:Bool}{t:TypeId}{fs:Array Field}{v:Value}{d:DataW H}{ps:List MemPlace}(ht:P.underlying t=some (.struct fs))(hval:Value.okWide P w r b0 t v)(hd:DataW.Trod enc P w base sp held t v d ps) : ∃(cs:List Value) (n:Nat),v=.agg cs.toArray/\DataW.trod enc P w base sp held n t cs=some (d,ps):=by obtain⟨n,hd⟩:=hd;simp only[Value.okWide,ht]at hval;obtain⟨cs,rfl,-⟩:=hval;exact⟨cs.toList,n,by simp,by simpa[Value.cells]using hd⟩
theorem Z172{α:Type}{g:α->Nat}:∀{rows:List α} {bs:List Nat},bs.length=rows.length->(∀(i:Nat) r b,rows[i]?=some r->bs[i]?=some b->g r<=b)->(rows.map g).sum<=bs.sum
 | [],[],_,_=>by simp
 | r::rows,b::bs,hl,h=>by have h0:=h 0 r b rfl rfl;have:=Z172 (rows:=rows) (bs:=bs) (by simpa using hl) (λi r' b' hr hb=>h (i+1) r' b' (by simpa using hr) (by simpa using hb));simp only[List.map_cons,List.sum_cons];omega
 | [],_::_,hl,_=>by simp at hl
 | _::_,[],hl,_=>by simp at hl
theorem Zgk(hB:Bulk B){ls:List (TypeId×Kd)}(h0:ls≠[]){rows:List (List Value)}{bs:List Nat}(hl:bs.length=rows.length)(h:∀(i:Nat) r b,rows[i]?=some r->bs[i]?=some b->Lv enc P w sp B ls r b):rows.length<=bs.sum:=by
 have:=Z172 (g:=λ_:List Value=>1) hl (λi r b hr hb=>by
  cases h i r b hr hb with
  | nil b=>exact absurd rfl h0
  | cons h1 h2 h3=>obtain⟨-,n,d,q,-,h5⟩:=h1;have:=hB.one d;omega)
 have e:(rows.map λ_=>1).sum=rows.length:=by
  clear hl h this;induction rows with
  | nil=>rfl
  | cons r rows ih=>simp only[List.map_cons,List.sum_cons,List.length_cons,ih];omega
 omega
theorem Z7h.str(hB:Bulk B){t:TypeId}(ht:P.underlying t=some .string){s:List UInt8}{b:Nat}(h:Z7h enc P w sp B (t,.str) (.string ⟨s.toArray⟩) b):s.length+1<=b:=by obtain⟨-,n,d,ps,h1,h2⟩:=h;obtain⟨s',h3,h4⟩:=DataW.trod_string ht h1;simp only[List.cons.injEq,Value.string.injEq,and_true]at h3;subst h3;simp only[Prod.mk.injEq]at h4;obtain⟨⟨rfl,-⟩,-⟩:=h4;have:=hB.str s;omega
end
end Go.Sx
namespace Go.Proofs.Y
open Go Go.Sx Go.ChangeShapes Go.WideShapes Go.ChangeAt Go.RowKit
section
variable {H:Type} {enc:TypeId×Value->H} {w:World} {sp:Nat->Bool} {B:DataW H->Nat}
def Zky(P:Program)(t:TypeId):Bool:=match P.underlying t with|some (.struct _)=>true|_=>false
theorem Znr{P:Program}{r:Reach}{b0 base:Nat}{held:Bool}{t:TypeId}{v:Value}{d:DataW H}{ps:List MemPlace}(ht:Zky P t=true)(hval:Value.okWide P w r b0 t v)(hd:DataW.Trod enc P w base sp held t v d ps) : ∃(cs:List Value) (n:Nat),v=.agg cs.toArray/\DataW.trod enc P w base sp held n t cs=some (d,ps):=by
 unfold Zky at ht;split at ht
 ·exact Zpw (by assumption) hval hd
 ·cases ht
end
end Go.Proofs.Y
namespace Go.Proofs.Y
open Go Go.Sx Go.ChangeShapes Go.WideShapes Go.ChangeAt Go.RowKit
section
variable {H:Type} {enc:TypeId×Value->H} {w:World} {sp:Nat->Bool} {B:DataW H->Nat}
end
end Go.Proofs.Y
namespace Go.Proofs.Y
open Go Go.Sx Go.ChangeShapes Go.WideShapes Go.ChangeAt Go.RowKit
section
variable {H:Type} {enc:TypeId×Value->H} {w:World} {sp:Nat->Bool} {B:DataW H->Nat}
theorem Z1et(hB:Bulk B){cs:List Value}{b:Nat}(h:Lv enc Tryz.prog w sp B [(3,.int .i64),(9,.str),(9,.str)] cs b):∃o:Fl,cs=encF o/\o.2.1.length+o.2.2.length+1<=b:=by
 cases h with
 | cons c1 h e1 =>
 cases h with
 | cons c2 h e2 =>
 cases h with
 | cons c3 h e3 =>
 cases h;obtain⟨p,rfl⟩:=c1.1;obtain⟨t,rfl⟩:=c2.1;obtain⟨n,rfl⟩:=c3.1;have q2:=Z7h.str hB Tryz.underlying9 c2;have q3:=Z7h.str hB Tryz.underlying9 c3;exact⟨(p,t,n),rfl,by simp only;omega⟩
theorem Z173(hB:Bulk B):∀{rows:List (List Value)} {bs:List Nat},bs.length=rows.length->(∀(i:Nat) r b,rows[i]?=some r->bs[i]?=some b->Lv enc Tryz.prog w sp B [(3,.int .i64),(9,.str),(9,.str)] r b) -> ∃l:List Fl,rows=l.map encF/\∀x∈l,x.2.1.length<=bs.sum:=by
 intro rows;induction rows with
 | nil=>exact λ_ _=>⟨[],rfl,by simp⟩
 | cons r rows ih =>
  intro bs hl h
  match bs,hl with
  | b::bs,hl =>
   obtain⟨l,e,hb⟩:=ih (bs:=bs) (by simpa using hl) (λi r' b' h1 h2=>h (i+1) r' b' (by simpa using h1) (by simpa using h2));obtain⟨o,rfl,hob⟩:=Z1et hB (h 0 r b rfl rfl);refine⟨o::l,by rw[e];rfl,?_⟩;intro x hx;rw[List.sum_cons];rcases List.mem_cons.1 hx with rfl|hx
   ·omega
   ·have:=hb x hx;omega
theorem Z1dr(hB:Bulk B)(h1:Tryz.prog.underlying 48=some (.slice 148))(h2:Z5j Tryz.prog 8 148=some [(3,.int .i64),(9,.str),(9,.str)])(h3:Tryz.prog.cellsOf 148=3){cs:List Value}{b:Nat} (h:Lv enc Tryz.prog w (λ_=>true) B [(9,.str),(4,.bool),(4,.bool),(48,.oth),(48,.oth),(3,.int .i64)] cs b) : ∃(s:Ses) (u v:Value),Value.agg cs.toArray=sesV s u v/\Zx w u s.fl/\Zx w v s.qu/\s.cl.length+s.fl.length+s.qu.length<=b/\(∀x∈s.fl,x.2.1.length<=b)/\(∀x∈s.qu,x.2.1.length<=b):=by
 cases h with
 | cons c1 h e1 =>
 cases h with
 | cons c2 h e2 =>
 cases h with
 | cons c3 h e3 =>
 cases h with
 | cons c4 h e4 =>
 cases h with
 | cons c5 h e5 =>
 cases h with
 | cons c6 h e6 =>
 cases h;obtain⟨k,rfl⟩:=c1.1;obtain⟨c,rfl⟩:=c2.1;obtain⟨j,rfl⟩:=c3.1;obtain⟨p,rfl⟩:=c6.1;have q1:=Z7h.str hB Tryz.underlying9 c1;obtain⟨-,n,d,ps,hx,hb⟩:=c4;obtain⟨rows,bs,rd,bl,lv,bk⟩:=Z8p hB (f:=8) h1 h2 h3 (by decide) hx;have rl:=Zgk hB (by decide) bl lv;obtain⟨l,rfl,hs⟩:=Z173 hB bl lv;obtain⟨-,n',d',ps',hx',hb'⟩:=c5;obtain⟨rows',bs',rd',bl',lv',bk'⟩:=Z8p hB (f:=8) h1 h2 h3 (by decide) hx';have rl':=Zgk hB (by decide) bl' lv';obtain⟨l',rfl,hs'⟩:=Z173 hB bl' lv';rw[qy3]at rl rl';simp only at bk bk';exact⟨⟨k,c,j,l,l',p⟩,_,_,by rw[sesV,rd.sc1,rd'.sc1],rd,rd',by simp only;omega,λx hx=>by have:=hs x hx;omega,λx hx=>by have:=hs' x hx;omega⟩
end
end Go.Proofs.Y
namespace Go.Proofs.Y
open Go Go.Sx Go.ChangeShapes Go.WideShapes Go.ChangeAt Go.RowKit
section
variable {H:Type} {enc:TypeId×Value->H} {w:World} {sp:Nat->Bool} {B:DataW H->Nat}
theorem Z1b4(hB:Bulk B){cs:List Value}{b:Nat}(h:Lv enc Tryz.prog w sp B [(9,.str),(9,.str),(3,.int .i64)] cs b):∃o:Kp,cs=encK o/\o.1.length+o.2.1.length+1<=b:=by
 cases h with
 | cons c1 h e1 =>
 cases h with
 | cons c2 h e2 =>
 cases h with
 | cons c3 h e3 =>
 cases h;obtain⟨p,rfl⟩:=c1.1;obtain⟨t,rfl⟩:=c2.1;obtain⟨n,rfl⟩:=c3.1;have q1:=Z7h.str hB Tryz.underlying9 c1;have q2:=Z7h.str hB Tryz.underlying9 c2;exact⟨(p,t,n),rfl,by simp only;omega⟩
theorem Z1ds(hB:Bulk B):∀{rows:List (List Value)} {bs:List Nat},bs.length=rows.length->(∀(i:Nat) r b,rows[i]?=some r->bs[i]?=some b->Lv enc Tryz.prog w sp B [(9,.str),(9,.str),(3,.int .i64)] r b) -> ∃l:List Kp,rows=l.map encK/\∀x∈l,x.1.length<=bs.sum:=by
 intro rows;induction rows with
 | nil=>exact λ_ _=>⟨[],rfl,by simp⟩
 | cons r rows ih =>
  intro bs hl h
  match bs,hl with
  | b::bs,hl =>
   obtain⟨l,e,hb⟩:=ih (bs:=bs) (by simpa using hl) (λi r' b' h1 h2=>h (i+1) r' b' (by simpa using h1) (by simpa using h2));obtain⟨o,rfl,hob⟩:=Z1b4 hB (h 0 r b rfl rfl);refine⟨o::l,by rw[e];rfl,?_⟩;intro x hx;rw[List.sum_cons];rcases List.mem_cons.1 hx with rfl|hx
   ·omega
   ·have:=hb x hx;omega
end
end Go.Proofs.Y
namespace Go.Proofs.Y
open Go Go.Sx Go.ChangeShapes Go.WideShapes Go.ChangeAt Go.RowKit
section
variable {H:Type} {enc:TypeId×Value->H} {w:World} {sp:Nat->Bool} {B:DataW H->Nat}
theorem Z1b5(hB:Bulk B){cs:List Value}{b:Nat}(h:Lv enc Tryz.prog w sp B [(9,.str),(9,.str),(3,.int .i64)] cs b):∃o:Wt,cs=Za o/\o.1.length+o.2.1.length+1<=b:=by
 cases h with
 | cons c1 h e1 =>
 cases h with
 | cons c2 h e2 =>
 cases h with
 | cons c3 h e3 =>
 cases h;obtain⟨p,rfl⟩:=c1.1;obtain⟨t,rfl⟩:=c2.1;obtain⟨n,rfl⟩:=c3.1;have q1:=Z7h.str hB Tryz.underlying9 c1;have q2:=Z7h.str hB Tryz.underlying9 c2;exact⟨(p,t,n),rfl,by simp only;omega⟩
theorem Z1dt(hB:Bulk B):∀{rows:List (List Value)} {bs:List Nat},bs.length=rows.length->(∀(i:Nat) r b,rows[i]?=some r->bs[i]?=some b->Lv enc Tryz.prog w sp B [(9,.str),(9,.str),(3,.int .i64)] r b) -> ∃l:List Wt,rows=l.map Za/\∀x∈l,x.1.length<=bs.sum/\x.2.1.length<=bs.sum:=by
 intro rows;induction rows with
 | nil=>exact λ_ _=>⟨[],rfl,by simp⟩
 | cons r rows ih =>
  intro bs hl h
  match bs,hl with
  | b::bs,hl =>
   obtain⟨l,e,hb⟩:=ih (bs:=bs) (by simpa using hl) (λi r' b' h1 h2=>h (i+1) r' b' (by simpa using h1) (by simpa using h2));obtain⟨o,rfl,hob⟩:=Z1b5 hB (h 0 r b rfl rfl);refine⟨o::l,by rw[e];rfl,?_⟩;intro x hx;rw[List.sum_cons];rcases List.mem_cons.1 hx with rfl|hx
   ·omega
   ·have:=hb x hx;omega
end
end Go.Proofs.Y
namespace Go.Proofs.Y
open Go Go.Sx Go.ChangeShapes Go.WideShapes Go.ChangeAt Go.RowKit
section
variable {H:Type} {enc:TypeId×Value->H} {w:World} {sp:Nat->Bool} {B:DataW H->Nat}
theorem Z1du(hB:Bulk B){cs:List Value}{b:Nat}(h:Lv enc Tryz.prog w sp B [(3,.int .i64),(9,.str),(9,.str),(3,.int .i64)] cs b):∃o:Wat,cs=Z8 o/\o.2.1.length+o.2.2.1.length+2<=b:=by
 cases h with
 | cons c1 h e1 =>
 cases h with
 | cons c2 h e2 =>
 cases h with
 | cons c3 h e3 =>
 cases h with
 | cons c4 h e4 =>
 cases h;obtain⟨p,rfl⟩:=c1.1;obtain⟨t,rfl⟩:=c2.1;obtain⟨n,rfl⟩:=c3.1;obtain⟨k,rfl⟩:=c4.1;have q2:=Z7h.str hB Tryz.underlying9 c2;have q3:=Z7h.str hB Tryz.underlying9 c3;exact⟨(p,t,n,k),rfl,by simp only;omega⟩
theorem Z1dv(hB:Bulk B):∀{rows:List (List Value)} {bs:List Nat},bs.length=rows.length->(∀(i:Nat) r b,rows[i]?=some r->bs[i]?=some b->Lv enc Tryz.prog w sp B [(3,.int .i64),(9,.str),(9,.str),(3,.int .i64)] r b) -> ∃l:List Wat,rows=l.map Z8/\∀x∈l,x.2.2.1.length<=bs.sum:=by
 intro rows;induction rows with
 | nil=>exact λ_ _=>⟨[],rfl,by simp⟩
 | cons r rows ih =>
  intro bs hl h
  match bs,hl with
  | b::bs,hl =>
   obtain⟨l,e,hb⟩:=ih (bs:=bs) (by simpa using hl) (λi r' b' h1 h2=>h (i+1) r' b' (by simpa using h1) (by simpa using h2));obtain⟨o,rfl,hob⟩:=Z1du hB (h 0 r b rfl rfl);refine⟨o::l,by rw[e];rfl,?_⟩;intro x hx;rw[List.sum_cons];rcases List.mem_cons.1 hx with rfl|hx
   ·omega
   ·have:=hb x hx;omega
end
end Go.Proofs.Y
namespace Go.Proofs.Y
open Go Go.Sx Go.ChangeShapes Go.WideShapes Go.ChangeAt Go.RowKit
theorem tyk1:Tryz.prog.underlying 22=some (.slice 95):=by kernel_rfl
theorem tyk2:Z5j Tryz.prog 8 95=some [(9,.str),(9,.str),(3,.int .i64)]:=by kernel_rfl
theorem tyk3:Tryz.prog.cellsOf 95=3:=by kernel_rfl
theorem tyw1:Tryz.prog.underlying 23=some (.slice 107):=by kernel_rfl
theorem tyw2:Z5j Tryz.prog 8 107=some [(9,.str),(9,.str),(3,.int .i64)]:=by kernel_rfl
theorem tyw3:Tryz.prog.cellsOf 107=3:=by kernel_rfl
theorem tys1:Tryz.prog.underlying 24=some (.slice 50):=by kernel_rfl
theorem tys2:Z5j Tryz.prog 8 50=some [(9,.str),(4,.bool),(4,.bool),(48,.oth),(48,.oth),(3,.int .i64)]:=by kernel_rfl
theorem tys3:Tryz.prog.cellsOf 50=6:=by kernel_rfl
theorem tyf1:Tryz.prog.underlying 48=some (.slice 148):=by kernel_rfl
theorem tyf2:Z5j Tryz.prog 8 148=some [(3,.int .i64),(9,.str),(9,.str)]:=by kernel_rfl
theorem tyf3:Tryz.prog.cellsOf 148=3:=by kernel_rfl
theorem tya1:Tryz.prog.underlying 25=some (.slice 97):=by kernel_rfl
theorem tya2:Z5j Tryz.prog 8 97=some [(3,.int .i64),(9,.str),(9,.str),(3,.int .i64)]:=by kernel_rfl
theorem tya3:Tryz.prog.cellsOf 97=4:=by kernel_rfl
section
variable {H:Type} {enc:TypeId×Value->H} {w:World} {B:DataW H->Nat}
theorem Z1b6(hB:Bulk B){P:Program}{sp:Nat->Bool}{ls:List (TypeId×Kd)}{cs:List Value}{b:Nat}(h:Lv enc P w sp B ls cs b):ls.length<=b:=by
 induction h with
 | nil b=>exact Nat.zero_le _
 | cons h1 h2 h3 ih =>
  obtain⟨-,n,d,ps,-,h5⟩:=h1;have:=hB.one d;rw[List.length_cons];omega
theorem Z1b7(hB:Bulk B):∀{rows:List (List Value)} {bs:List Nat},bs.length=rows.length->(∀(i:Nat) r b,rows[i]?=some r->bs[i]?=some b->Lv enc Tryz.prog w (λ_=>true) B [(9,.str),(4,.bool),(4,.bool),(48,.oth),(48,.oth),(3,.int .i64)] r b) -> ∃l:List SesX,rows=l.map Zh/\(Z6 l []).holds w/\(∀t∈l,t.1.cl.length+t.1.fl.length+t.1.qu.length<=bs.sum/\(∀x∈t.1.fl,x.2.1.length<=bs.sum)/\∀x∈t.1.qu,x.2.1.length<=bs.sum)/\6*l.length<=bs.sum:=by
 intro rows;induction rows with
 | nil=>exact λ_ _=>⟨[],rfl,Z73 w,by simp,by simp⟩
 | cons r rows ih =>
  intro bs hl h
  match bs,hl with
  | b::bs,hl =>
   obtain⟨l,e,hp,hb,hn⟩:=ih (bs:=bs) (by simpa using hl) (λi r' b' h1 h2=>h (i+1) r' b' (by simpa using h1) (by simpa using h2));have hlv:=h 0 r b rfl rfl;have hle:=Z1b6 hB hlv;obtain⟨s,u,v,e2,ru,rv,z1,z2,z3⟩:=Z1dr hB tyf1 tyf2 tyf3 hlv;have e3:r=Zh (s,u,v):=by have e4:=Value.agg.inj e2;have e5:=congrArg Array.toList e4;exact e5
   refine⟨(s,u,v)::l,by rw[e,e3];rfl,?_,?_,?_⟩
   ·refine Zz (l:=l) (o:=[]) (λt ht=>?_) (λt ht=>.inl ht) hp;rcases List.mem_cons.1 ht with rfl|ht
    ·exact .inr ⟨ru,rv⟩
    ·exact .inl ht
   ·intro t ht;rw[List.sum_cons];rcases List.mem_cons.1 ht with rfl|ht
    ·exact⟨by simp only;omega,λx hx=>by have:=z2 x hx;omega,λx hx=>by have:=z3 x hx;omega⟩
    ·obtain⟨q1,q2,q3⟩:=hb t ht;exact⟨by omega,λx hx=>by have:=q2 x hx;omega,λx hx=>by have:=q3 x hx;omega⟩
   ·simp only[List.length_cons,List.length_nil]at hle;rw[List.sum_cons,List.length_cons];omega
theorem Z1dw(hB:Bulk B){cs:List Value}{b:Nat}(h:Lv enc Tryz.prog w (λ_=>true) B [(22,.oth),(23,.oth),(24,.oth),(25,.oth),(3,.int .i64)] cs b)(hb:b<=4000000) : ∃x:TelX,Value.agg cs.toArray=bkV x/\x.ox=[]/\RdX w x/\SmlT x.tel:=by
 cases h with
 | cons c1 h e1 =>
 cases h with
 | cons c2 h e2 =>
 cases h with
 | cons c3 h e3 =>
 cases h with
 | cons c4 h e4 =>
 cases h with
 | cons c5 h e5 =>
 cases h;obtain⟨n,rfl⟩:=c5.1;obtain⟨-,n1,d1,ps1,hx1,hb1⟩:=c1;obtain⟨rows1,bs1,rd1,bl1,lv1,bk1⟩:=Z8p hB (f:=8) tyk1 tyk2 tyk3 (by decide) hx1;have rl1:=Zgk hB (by decide) bl1 lv1;obtain⟨l1,rfl,s1⟩:=Z1ds hB bl1 lv1;obtain⟨-,n2,d2,ps2,hx2,hb2⟩:=c2;obtain⟨rows2,bs2,rd2,bl2,lv2,bk2⟩:=Z8p hB (f:=8) tyw1 tyw2 tyw3 (by decide) hx2;have rl2:=Zgk hB (by decide) bl2 lv2;obtain⟨l2,rfl,s2⟩:=Z1dt hB bl2 lv2;obtain⟨-,n3,d3,ps3,hx3,hb3⟩:=c3;obtain⟨rows3,bs3,rd3,bl3,lv3,bk3⟩:=Z8p hB (f:=8) tys1 tys2 tys3 (by decide) hx3;obtain⟨l3,rfl,p3,s3,k3⟩:=Z1b7 hB bl3 lv3;obtain⟨-,n4,d4,ps4,hx4,hb4⟩:=c4;obtain⟨rows4,bs4,rd4,bl4,lv4,bk4⟩:=Z8p hB (f:=8) tya1 tya2 tya3 (by decide) hx4;have rl4:=Zgk hB (by decide) bl4 lv4;obtain⟨l4,rfl,s4⟩:=Z1dv hB bl4 lv4;rw[qy3]at rl1 rl2 rl4;simp only at bk1 bk2 bk3 bk4;refine⟨⟨l1,l2,l3,l4,n,[],_,_,_,_,.slice none 0 0⟩,by rw[bkV,rd1.sc1,rd2.sc1,rd3.sc1,rd4.sc1],rfl,⟨rd1,rd2,rd3,p3,rd4⟩,?_⟩;refine⟨λx hx=>by have:=s1 x hx;omega,by show l1.length<_;omega,λx hx=>?_,by show l2.length<_;omega,λs hs=>?_,?_,λx hx=>?_,by show l4.length<_;omega⟩
 ·have:=s2 x hx;exact⟨by omega,by omega⟩
 ·obtain⟨t,ht,rfl⟩:=List.mem_map.1 hs;obtain⟨q1,q2,q3⟩:=s3 t ht;exact⟨λx hx=>by have:=q2 x hx;omega,λx hx=>by have:=q3 x hx;omega,by omega,by omega,by omega⟩
 ·show(l3.map (·.1)).length<_
  rw[qy3];omega
 ·have:=s4 x hx;omega
end
