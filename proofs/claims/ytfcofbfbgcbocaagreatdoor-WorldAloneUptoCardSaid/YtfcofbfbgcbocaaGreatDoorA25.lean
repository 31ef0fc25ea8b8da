/- By an AI agent. -/
import Derived.Test.YtfcofbfbgcbocaaGreatDoorA23
import Derived.Test.YtfcofbfbgcbocaaGreatDoorA24
import Derived.Test.YtfcofbfbgcbocaaGreatDoorA16
import Derived.Test.YtfcofbfbgcbocaaGreatDoorA01
import Derived.WalkKit
import Derived.ProofKit
import Derived.OpenShut
import Derived.JoinedCond
import Derived.ChangeStays
import Derived.Test.YtfcofbfbgcbocaaGreatDoorA05
import Derived.Test.YtfcofbfbgcbocaaGreatDoorA11
import Derived.Test.YtfcofbfbgcbocaaGreatDoorA09
import Derived.Test.YtfcofbfbgcbocaaGreatDoorA10
set_option linter.all false
set_option maxHeartbeats 20000000
namespace Go.Proofs.Y
open Go Go.Sx
abbrev pbC(p:Pkt):List V:=[.i p.kind,.b p.dup,.b p.retain,.b p.clean,.b p.session,.i p.qos,.i p.id,.i p.keep,.i p.code,.s p.client,.s p.topic,.s p.payload,.v (.slice none 0 0),.r [],.v (.slice none 0 0),.r []]
abbrev bg1:Tel×List Rst:=(smT,[(annC,[50,9,0,3])])
abbrev bg2:Tel:=Zw annC pubP smT
theorem Zl8{y:TelX}(h:y.tel=smT):y.bare.tel=smT:=by rw[Z8o,h];rfl
theorem st_1(w:World)(y:TelX)(hx:RdX w y.bare)(ht:y.tel=smT):Calls Tryz.prog 9 #[bkV y,sc1 (.slice none 0 0),evV ev1] w λq w'=>Zl4 w w' q 0 bg1:=by have hb:=Zl8 ht;have hc:=Z126 w y.bare (.slice none 0 0) [] ev1 hx (Z9 _ _) rfl (by rw[hb];exact Zl7) (λa ha=>by cases ha) (by decide) (by decide) (by decide);rw[hb,show stpE smT [] ev1=0 by rw[Z122 (Z26.1 Zcv) (Zbi.1 rfl)];exact Zo2.1,resW,if_pos rfl,beg1]at hc;exact hc
theorem st_2(w:World)(y:TelX)(rv:Value)(hx:RdX w y.bare)(hr:Zsq w rv [(annC,[50,9,0,3])])(ht:y.tel=smT):Calls Tryz.prog 9 #[bkV y,sc1 rv,evV ev2] w λq w'=>Zl4 w w' q 0 (bg2,[]):=by have hb:=Zl8 ht;have hc:=Z126 w y.bare rv [(annC,[50,9,0,3])] ev2 hx hr rfl (by rw[hb];exact Zl7) (λa ha=>by rw[qy12.1 ha];decide) (by show 1<1000000;decide) (by decide) (by decide);rw[hb,show stpE smT [(annC,[50,9,0,3])] ev2=0 by rw[Z122 (Z26.1 Zcv) (Zbi.1 Zo2.2.2)];exact Zo2.2.1,resW,if_pos rfl,beg2]at hc;exact hc
theorem rn_1(w:World)(y:TelX)(lv:Value)(hx:RdX w y.bare)(hl:Z10s w lv [ev1,ev2])(ht:y.tel=smT):Calls Tryz.prog 17 #[bkV y,sc1 lv] w λq w'=>Zq6 w w' q 0 { bg2 with out:=[] } [[],bg2.out]:=by
  have hb:=Zl8 ht;have h2:∀e∈[ev1,ev2],Z40 e=0/\e.client.length<1099511627776/\e.bytes.length<=30000000:=λe he=>by
    rcases List.mem_cons.1 he with rfl|he
    . exact⟨Zo2.1,by decide,by decide⟩
    . rw[qy12.1 he];exact⟨Zo2.2.1,by decide,by decide⟩
  have hc:=Z1f9 w y.bare lv [ev1,ev2] hx hl rfl (by rw[hb];exact Zl7) (λe he=>(h2 e he).2.1) (λe he=>(h2 e he).2.2) (by show 2<1000000000;decide);have hr1:runW feed dec [ev1] (smT,[])=bg1:=beg1 smT;have hr2:runW feed dec [ev1,ev2] (smT,[])=(bg2,[]):=by
    show Zbn ev2 ({ (Zbn ev1 (smT,[])).1 with out:=[] },(Zbn ev1 (smT,[])).2)=_
    rw[beg1];exact beg2 smT
  have hr3:Z168 [ev1,ev2] (smT,[])=[[],bg2.out]:=by
    show[(runW feed dec [ev1] (smT,[])).1.out,(runW feed dec [ev1,ev2] (smT,[])).1.out]=_
    rw[hr1,hr2];rfl
  rw[hb,show runE smT [ev1,ev2]=0 by rw[runE,if_neg (qy9.2 Zcv),if_neg (by decide)];exact Zq9.2 λe he=>(h2 e he).1,if_pos rfl,if_pos rfl,hr3,show runF [ev1,ev2] (smT,[])=(bg2,[]) from hr2]at hc;exact hc
set_option maxRecDepth 4000 in
theorem Zo3(w:World):Calls Tryz.prog 6 #[] w λe w'=>e=.returned (.bool true)/\Mod [] w w':=by
  refine Z2 (Z7 (J:=[]) (sxE_ok.joins _) Tryz.func6 Z53 rfl rfl rfl ?_) rfl;simp only[QQ,Nat.reduceAdd,qy3,qy4];intro w1 hr1;refine(Z15v w1).mono ?_;rintro r w2 ⟨rfl,m1⟩;refine⟨pbC pubP,rfl,rfl,m1,qy5 _,qy2.2 ⟨⟨Z9 w2 _,λk hk=>absurd rfl hk.1⟩,qy2.2 ⟨⟨Z9 w2 _,λk hk=>absurd rfl hk.1⟩,qy5 _⟩⟩,Z7c (by simp[Ent.wr]),?_⟩;clear m1 hr1;refine⟨[.s (if chkP pubP=0 then Z5j pubP else[]),.i (chkP pubP)],rfl,λ_ w' hr=>Zng w' pubP nilV nilV (Z21 _) (Z2g _) Zix,?_⟩;simp only[QQ,Nat.reduceAdd,qy3,qy4,Zkw,if_true,Ziw];refine⟨λh=>absurd h (by decide),λ_=>?_⟩;refine⟨λvs=>∃(y z:TelX) (r:List Rst) (rv:Value) (b:Nat),vs=[.v y.kv,.r (y.kept.map encK),.v y.wv,.r (y.wants.map Za),.v y.sv,.r (y.sx.map Zh),.v y.av,.r (y.wat.map Z8),.i y.next,.a (Z6 z.sx z.ox)]++(spV z r rv 0++[.n b])/\(z.tel,r)=bg1,⟨by decide,?_,?_⟩,?_⟩
  . intro w3 hr;refine(Zgt hr 18 (Z9v w3) rfl).mono ?_;rintro q w4 ⟨y,ty,-,-,rfl,m1,m3,m4⟩;refine⟨smV y,rfl,rfl,m1,qy5 _,m3,m4,?_⟩;clear hr m1 m3 m4;refine⟨?_,?_⟩
    . intro w3 hr;refine(Zj2 hr 28 (st_1 w3 y ⟨(by first|exact hr.at_ 0 rfl|exact hr.at_ 1 rfl|exact hr.at_ 2 rfl|exact hr.at_ 3 rfl|exact hr.at_ 4 rfl|exact hr.at_ 5 rfl|exact hr.at_ 6 rfl|exact hr.at_ 7 rfl|exact hr.at_ 8 rfl),(by first|exact hr.at_ 0 rfl|exact hr.at_ 1 rfl|exact hr.at_ 2 rfl|exact hr.at_ 3 rfl|exact hr.at_ 4 rfl|exact hr.at_ 5 rfl|exact hr.at_ 6 rfl|exact hr.at_ 7 rfl|exact hr.at_ 8 rfl),(by first|exact hr.at_ 0 rfl|exact hr.at_ 1 rfl|exact hr.at_ 2 rfl|exact hr.at_ 3 rfl|exact hr.at_ 4 rfl|exact hr.at_ 5 rfl|exact hr.at_ 6 rfl|exact hr.at_ 7 rfl|exact hr.at_ 8 rfl),Z1o (y:=y) (by first|exact hr.at_ 0 rfl|exact hr.at_ 1 rfl|exact hr.at_ 2 rfl|exact hr.at_ 3 rfl|exact hr.at_ 4 rfl|exact hr.at_ 5 rfl|exact hr.at_ 6 rfl|exact hr.at_ 7 rfl|exact hr.at_ 8 rfl),(by first|exact hr.at_ 0 rfl|exact hr.at_ 1 rfl|exact hr.at_ 2 rfl|exact hr.at_ 3 rfl|exact hr.at_ 4 rfl|exact hr.at_ 5 rfl|exact hr.at_ 6 rfl|exact hr.at_ 7 rfl|exact hr.at_ 8 rfl)⟩ ty) rfl).mono ?_;rintro q w4 ⟨z,r,rv,hz,-,rfl,m1,m3,m4⟩;refine⟨spV z r rv 0,rfl,rfl,m1,qy5 _,m3,m4,?_⟩;intro b;exact⟨y,z,r,rv,b,rfl,hz⟩
    . intro b w3 hr;refine(Zj2 hr 29 (st_1 w3 y ⟨(by first|exact hr.at_ 0 rfl|exact hr.at_ 1 rfl|exact hr.at_ 2 rfl|exact hr.at_ 3 rfl|exact hr.at_ 4 rfl|exact hr.at_ 5 rfl|exact hr.at_ 6 rfl|exact hr.at_ 7 rfl|exact hr.at_ 8 rfl),(by first|exact hr.at_ 0 rfl|exact hr.at_ 1 rfl|exact hr.at_ 2 rfl|exact hr.at_ 3 rfl|exact hr.at_ 4 rfl|exact hr.at_ 5 rfl|exact hr.at_ 6 rfl|exact hr.at_ 7 rfl|exact hr.at_ 8 rfl),(by first|exact hr.at_ 0 rfl|exact hr.at_ 1 rfl|exact hr.at_ 2 rfl|exact hr.at_ 3 rfl|exact hr.at_ 4 rfl|exact hr.at_ 5 rfl|exact hr.at_ 6 rfl|exact hr.at_ 7 rfl|exact hr.at_ 8 rfl),Z1o (y:=y) (by first|exact hr.at_ 0 rfl|exact hr.at_ 1 rfl|exact hr.at_ 2 rfl|exact hr.at_ 3 rfl|exact hr.at_ 4 rfl|exact hr.at_ 5 rfl|exact hr.at_ 6 rfl|exact hr.at_ 7 rfl|exact hr.at_ 8 rfl),(by first|exact hr.at_ 0 rfl|exact hr.at_ 1 rfl|exact hr.at_ 2 rfl|exact hr.at_ 3 rfl|exact hr.at_ 4 rfl|exact hr.at_ 5 rfl|exact hr.at_ 6 rfl|exact hr.at_ 7 rfl|exact hr.at_ 8 rfl)⟩ ty) rfl).mono ?_;rintro q w4 ⟨z,r,rv,hz,-,rfl,m1,m3,m4⟩;refine⟨spV z r rv 0,rfl,rfl,m1,qy5 _,m3,m4,?_⟩;exact⟨y,z,r,rv,b,rfl,hz⟩
  . intro b w3 hr;refine(Zgt hr 19 (Z9v w3) rfl).mono ?_;rintro q w4 ⟨y,ty,-,-,rfl,m1,m3,m4⟩;refine⟨smV y,rfl,rfl,m1,qy5 _,m3,m4,?_⟩;clear hr m1 m3 m4;intro w3 hr;refine(Zj2 hr 29 (st_1 w3 y ⟨(by first|exact hr.at_ 0 rfl|exact hr.at_ 1 rfl|exact hr.at_ 2 rfl|exact hr.at_ 3 rfl|exact hr.at_ 4 rfl|exact hr.at_ 5 rfl|exact hr.at_ 6 rfl|exact hr.at_ 7 rfl|exact hr.at_ 8 rfl),(by first|exact hr.at_ 0 rfl|exact hr.at_ 1 rfl|exact hr.at_ 2 rfl|exact hr.at_ 3 rfl|exact hr.at_ 4 rfl|exact hr.at_ 5 rfl|exact hr.at_ 6 rfl|exact hr.at_ 7 rfl|exact hr.at_ 8 rfl),(by first|exact hr.at_ 0 rfl|exact hr.at_ 1 rfl|exact hr.at_ 2 rfl|exact hr.at_ 3 rfl|exact hr.at_ 4 rfl|exact hr.at_ 5 rfl|exact hr.at_ 6 rfl|exact hr.at_ 7 rfl|exact hr.at_ 8 rfl),Z1o (y:=y) (by first|exact hr.at_ 0 rfl|exact hr.at_ 1 rfl|exact hr.at_ 2 rfl|exact hr.at_ 3 rfl|exact hr.at_ 4 rfl|exact hr.at_ 5 rfl|exact hr.at_ 6 rfl|exact hr.at_ 7 rfl|exact hr.at_ 8 rfl),(by first|exact hr.at_ 0 rfl|exact hr.at_ 1 rfl|exact hr.at_ 2 rfl|exact hr.at_ 3 rfl|exact hr.at_ 4 rfl|exact hr.at_ 5 rfl|exact hr.at_ 6 rfl|exact hr.at_ 7 rfl|exact hr.at_ 8 rfl)⟩ ty) rfl).mono ?_;rintro q w4 ⟨z,r,rv,hz,-,rfl,m1,m3,m4⟩;refine⟨spV z r rv 0,rfl,rfl,m1,qy5 _,m3,m4,?_⟩;exact⟨y,z,r,rv,b,rfl,hz⟩
  rintro _ - ⟨y1,y,r2,rv2,b2,rfl,hy⟩;obtain⟨ty,hr2⟩:=Prod.mk.inj hy;subst hr2;refine⟨λvs=>∃(z:TelX) (r:List Rst) (rv:Value) (b:Nat),vs=spV z r rv 0++[.n b]/\(z.tel,r)=(bg2,[]),⟨by decide,?_,?_⟩,?_⟩
  . intro w3 hr;refine(Zj2 hr 44 (st_2 w3 y rv2 ⟨(by first|exact hr.at_ 0 rfl|exact hr.at_ 1 rfl|exact hr.at_ 2 rfl|exact hr.at_ 3 rfl|exact hr.at_ 4 rfl|exact hr.at_ 5 rfl|exact hr.at_ 6 rfl|exact hr.at_ 7 rfl|exact hr.at_ 8 rfl),(by first|exact hr.at_ 0 rfl|exact hr.at_ 1 rfl|exact hr.at_ 2 rfl|exact hr.at_ 3 rfl|exact hr.at_ 4 rfl|exact hr.at_ 5 rfl|exact hr.at_ 6 rfl|exact hr.at_ 7 rfl|exact hr.at_ 8 rfl),(by first|exact hr.at_ 0 rfl|exact hr.at_ 1 rfl|exact hr.at_ 2 rfl|exact hr.at_ 3 rfl|exact hr.at_ 4 rfl|exact hr.at_ 5 rfl|exact hr.at_ 6 rfl|exact hr.at_ 7 rfl|exact hr.at_ 8 rfl),Z1o (y:=y) (by first|exact hr.at_ 0 rfl|exact hr.at_ 1 rfl|exact hr.at_ 2 rfl|exact hr.at_ 3 rfl|exact hr.at_ 4 rfl|exact hr.at_ 5 rfl|exact hr.at_ 6 rfl|exact hr.at_ 7 rfl|exact hr.at_ 8 rfl),(by first|exact hr.at_ 0 rfl|exact hr.at_ 1 rfl|exact hr.at_ 2 rfl|exact hr.at_ 3 rfl|exact hr.at_ 4 rfl|exact hr.at_ 5 rfl|exact hr.at_ 6 rfl|exact hr.at_ 7 rfl|exact hr.at_ 8 rfl)⟩ (by first|exact hr.at_ 0 rfl|exact hr.at_ 1 rfl|exact hr.at_ 2 rfl|exact hr.at_ 3 rfl|exact hr.at_ 4 rfl|exact hr.at_ 5 rfl|exact hr.at_ 6 rfl|exact hr.at_ 7 rfl|exact hr.at_ 8 rfl) ty) rfl).mono ?_;rintro q w4 ⟨z,r,rv,hz,-,rfl,m1,m3,m4⟩;refine⟨spV z r rv 0,rfl,rfl,m1,qy5 _,m3,m4,?_⟩;intro b;exact⟨z,r,rv,b,rfl,hz⟩
  . intro b w3 hr;refine(Zj2 hr 45 (st_2 w3 y rv2 ⟨(by first|exact hr.at_ 0 rfl|exact hr.at_ 1 rfl|exact hr.at_ 2 rfl|exact hr.at_ 3 rfl|exact hr.at_ 4 rfl|exact hr.at_ 5 rfl|exact hr.at_ 6 rfl|exact hr.at_ 7 rfl|exact hr.at_ 8 rfl),(by first|exact hr.at_ 0 rfl|exact hr.at_ 1 rfl|exact hr.at_ 2 rfl|exact hr.at_ 3 rfl|exact hr.at_ 4 rfl|exact hr.at_ 5 rfl|exact hr.at_ 6 rfl|exact hr.at_ 7 rfl|exact hr.at_ 8 rfl),(by first|exact hr.at_ 0 rfl|exact hr.at_ 1 rfl|exact hr.at_ 2 rfl|exact hr.at_ 3 rfl|exact hr.at_ 4 rfl|exact hr.at_ 5 rfl|exact hr.at_ 6 rfl|exact hr.at_ 7 rfl|exact hr.at_ 8 rfl),Z1o (y:=y) (by first|exact hr.at_ 0 rfl|exact hr.at_ 1 rfl|exact hr.at_ 2 rfl|exact hr.at_ 3 rfl|exact hr.at_ 4 rfl|exact hr.at_ 5 rfl|exact hr.at_ 6 rfl|exact hr.at_ 7 rfl|exact hr.at_ 8 rfl),(by first|exact hr.at_ 0 rfl|exact hr.at_ 1 rfl|exact hr.at_ 2 rfl|exact hr.at_ 3 rfl|exact hr.at_ 4 rfl|exact hr.at_ 5 rfl|exact hr.at_ 6 rfl|exact hr.at_ 7 rfl|exact hr.at_ 8 rfl)⟩ (by first|exact hr.at_ 0 rfl|exact hr.at_ 1 rfl|exact hr.at_ 2 rfl|exact hr.at_ 3 rfl|exact hr.at_ 4 rfl|exact hr.at_ 5 rfl|exact hr.at_ 6 rfl|exact hr.at_ 7 rfl|exact hr.at_ 8 rfl) ty) rfl).mono ?_;rintro q w4 ⟨z,r,rv,hz,-,rfl,m1,m3,m4⟩;refine⟨spV z r rv 0,rfl,rfl,m1,qy5 _,m3,m4,?_⟩;exact⟨z,r,rv,b,rfl,hz⟩
  rintro _ - ⟨y3,r3,rv3,b3,rfl,hy3⟩;obtain⟨t3,hr3⟩:=Prod.mk.inj hy3;subst hr3;refine⟨λvs=>∃(y z:TelX) (L:List AllX) (av ev:Value) (b:Nat),vs=[.v y.kv,.r (y.kept.map encK),.v y.wv,.r (y.wants.map Za),.v y.sv,.r (y.sx.map Zh),.v y.av,.r (y.wat.map Z8),.i y.next,.a (runA z.sx L),.v ev]++(rnV z L av 0++[.n b])/\z.tel={ bg2 with out:=[] }/\L.map (λt=>t.1.map (·.1))=[[],bg2.out]/\z.ox=[],⟨by decide,?_,?_,?_⟩,?_⟩
  . intro w3 hr;refine(Zgt hr 60 (Z9v w3) rfl).mono ?_;rintro q w4 ⟨y,ty,-,-,rfl,m1,m3,m4⟩;refine⟨smV y,rfl,rfl,m1,qy5 _,m3,m4,?_⟩;clear hr m1 m3 m4;refine⟨?_,?_⟩
    . intro ev;refine⟨?_,?_⟩
      . intro w3 hr;refine(Zd9 hr 71 (rn_1 w3 y ev ⟨(by first|exact hr.at_ 0 rfl|exact hr.at_ 1 rfl|exact hr.at_ 2 rfl|exact hr.at_ 3 rfl|exact hr.at_ 4 rfl|exact hr.at_ 5 rfl|exact hr.at_ 6 rfl|exact hr.at_ 7 rfl|exact hr.at_ 8 rfl),(by first|exact hr.at_ 0 rfl|exact hr.at_ 1 rfl|exact hr.at_ 2 rfl|exact hr.at_ 3 rfl|exact hr.at_ 4 rfl|exact hr.at_ 5 rfl|exact hr.at_ 6 rfl|exact hr.at_ 7 rfl|exact hr.at_ 8 rfl),(by first|exact hr.at_ 0 rfl|exact hr.at_ 1 rfl|exact hr.at_ 2 rfl|exact hr.at_ 3 rfl|exact hr.at_ 4 rfl|exact hr.at_ 5 rfl|exact hr.at_ 6 rfl|exact hr.at_ 7 rfl|exact hr.at_ 8 rfl),Z1o (y:=y) (by first|exact hr.at_ 0 rfl|exact hr.at_ 1 rfl|exact hr.at_ 2 rfl|exact hr.at_ 3 rfl|exact hr.at_ 4 rfl|exact hr.at_ 5 rfl|exact hr.at_ 6 rfl|exact hr.at_ 7 rfl|exact hr.at_ 8 rfl),(by first|exact hr.at_ 0 rfl|exact hr.at_ 1 rfl|exact hr.at_ 2 rfl|exact hr.at_ 3 rfl|exact hr.at_ 4 rfl|exact hr.at_ 5 rfl|exact hr.at_ 6 rfl|exact hr.at_ 7 rfl|exact hr.at_ 8 rfl)⟩ (by first|exact owns.reads (hr.at_ 0 rfl)|exact owns.reads (hr.at_ 1 rfl)|exact owns.reads (hr.at_ 5 rfl)|exact owns.reads (hr.at_ 6 rfl)) ty) rfl).mono ?_;rintro q w4 ⟨z,L,av,tz,tL,oz,rfl,m1,m3,m4⟩;refine⟨rnV z L av 0,rfl,rfl,m1,qy5 _,m3,m4,?_⟩;intro b;exact⟨y,z,L,av,ev,b,rfl,tz,tL,oz⟩
      . intro b;intro w3 hr;refine(Zd9 hr 72 (rn_1 w3 y ev ⟨(by first|exact hr.at_ 0 rfl|exact hr.at_ 1 rfl|exact hr.at_ 2 rfl|exact hr.at_ 3 rfl|exact hr.at_ 4 rfl|exact hr.at_ 5 rfl|exact hr.at_ 6 rfl|exact hr.at_ 7 rfl|exact hr.at_ 8 rfl),(by first|exact hr.at_ 0 rfl|exact hr.at_ 1 rfl|exact hr.at_ 2 rfl|exact hr.at_ 3 rfl|exact hr.at_ 4 rfl|exact hr.at_ 5 rfl|exact hr.at_ 6 rfl|exact hr.at_ 7 rfl|exact hr.at_ 8 rfl),(by first|exact hr.at_ 0 rfl|exact hr.at_ 1 rfl|exact hr.at_ 2 rfl|exact hr.at_ 3 rfl|exact hr.at_ 4 rfl|exact hr.at_ 5 rfl|exact hr.at_ 6 rfl|exact hr.at_ 7 rfl|exact hr.at_ 8 rfl),Z1o (y:=y) (by first|exact hr.at_ 0 rfl|exact hr.at_ 1 rfl|exact hr.at_ 2 rfl|exact hr.at_ 3 rfl|exact hr.at_ 4 rfl|exact hr.at_ 5 rfl|exact hr.at_ 6 rfl|exact hr.at_ 7 rfl|exact hr.at_ 8 rfl),(by first|exact hr.at_ 0 rfl|exact hr.at_ 1 rfl|exact hr.at_ 2 rfl|exact hr.at_ 3 rfl|exact hr.at_ 4 rfl|exact hr.at_ 5 rfl|exact hr.at_ 6 rfl|exact hr.at_ 7 rfl|exact hr.at_ 8 rfl)⟩ (by first|exact owns.reads (hr.at_ 0 rfl)|exact owns.reads (hr.at_ 1 rfl)|exact owns.reads (hr.at_ 5 rfl)|exact owns.reads (hr.at_ 6 rfl)) ty) rfl).mono ?_;rintro q w4 ⟨z,L,av,tz,tL,oz,rfl,m1,m3,m4⟩;refine⟨rnV z L av 0,rfl,rfl,m1,qy5 _,m3,m4,?_⟩;exact⟨y,z,L,av,ev,b,rfl,tz,tL,oz⟩
    . intro b ev;intro w3 hr;refine(Zd9 hr 72 (rn_1 w3 y ev ⟨(by first|exact hr.at_ 0 rfl|exact hr.at_ 1 rfl|exact hr.at_ 2 rfl|exact hr.at_ 3 rfl|exact hr.at_ 4 rfl|exact hr.at_ 5 rfl|exact hr.at_ 6 rfl|exact hr.at_ 7 rfl|exact hr.at_ 8 rfl),(by first|exact hr.at_ 0 rfl|exact hr.at_ 1 rfl|exact hr.at_ 2 rfl|exact hr.at_ 3 rfl|exact hr.at_ 4 rfl|exact hr.at_ 5 rfl|exact hr.at_ 6 rfl|exact hr.at_ 7 rfl|exact hr.at_ 8 rfl),(by first|exact hr.at_ 0 rfl|exact hr.at_ 1 rfl|exact hr.at_ 2 rfl|exact hr.at_ 3 rfl|exact hr.at_ 4 rfl|exact hr.at_ 5 rfl|exact hr.at_ 6 rfl|exact hr.at_ 7 rfl|exact hr.at_ 8 rfl),Z1o (y:=y) (by first|exact hr.at_ 0 rfl|exact hr.at_ 1 rfl|exact hr.at_ 2 rfl|exact hr.at_ 3 rfl|exact hr.at_ 4 rfl|exact hr.at_ 5 rfl|exact hr.at_ 6 rfl|exact hr.at_ 7 rfl|exact hr.at_ 8 rfl),(by first|exact hr.at_ 0 rfl|exact hr.at_ 1 rfl|exact hr.at_ 2 rfl|exact hr.at_ 3 rfl|exact hr.at_ 4 rfl|exact hr.at_ 5 rfl|exact hr.at_ 6 rfl|exact hr.at_ 7 rfl|exact hr.at_ 8 rfl)⟩ (by first|exact owns.reads (hr.at_ 0 rfl)|exact owns.reads (hr.at_ 1 rfl)|exact owns.reads (hr.at_ 5 rfl)|exact owns.reads (hr.at_ 6 rfl)) ty) rfl).mono ?_;rintro q w4 ⟨z,L,av,tz,tL,oz,rfl,m1,m3,m4⟩;refine⟨rnV z L av 0,rfl,rfl,m1,qy5 _,m3,m4,?_⟩;exact⟨y,z,L,av,ev,b,rfl,tz,tL,oz⟩
  . intro ev;refine⟨?_,?_⟩
    . intro w3 hr;refine(Zgt hr 61 (Z9v w3) rfl).mono ?_;rintro q w4 ⟨y,ty,-,-,rfl,m1,m3,m4⟩;refine⟨smV y,rfl,rfl,m1,qy5 _,m3,m4,?_⟩;clear hr m1 m3 m4;refine⟨?_,?_⟩
      . intro w3 hr;refine(Zd9 hr 71 (rn_1 w3 y ev ⟨(by first|exact hr.at_ 0 rfl|exact hr.at_ 1 rfl|exact hr.at_ 2 rfl|exact hr.at_ 3 rfl|exact hr.at_ 4 rfl|exact hr.at_ 5 rfl|exact hr.at_ 6 rfl|exact hr.at_ 7 rfl|exact hr.at_ 8 rfl),(by first|exact hr.at_ 0 rfl|exact hr.at_ 1 rfl|exact hr.at_ 2 rfl|exact hr.at_ 3 rfl|exact hr.at_ 4 rfl|exact hr.at_ 5 rfl|exact hr.at_ 6 rfl|exact hr.at_ 7 rfl|exact hr.at_ 8 rfl),(by first|exact hr.at_ 0 rfl|exact hr.at_ 1 rfl|exact hr.at_ 2 rfl|exact hr.at_ 3 rfl|exact hr.at_ 4 rfl|exact hr.at_ 5 rfl|exact hr.at_ 6 rfl|exact hr.at_ 7 rfl|exact hr.at_ 8 rfl),Z1o (y:=y) (by first|exact hr.at_ 0 rfl|exact hr.at_ 1 rfl|exact hr.at_ 2 rfl|exact hr.at_ 3 rfl|exact hr.at_ 4 rfl|exact hr.at_ 5 rfl|exact hr.at_ 6 rfl|exact hr.at_ 7 rfl|exact hr.at_ 8 rfl),(by first|exact hr.at_ 0 rfl|exact hr.at_ 1 rfl|exact hr.at_ 2 rfl|exact hr.at_ 3 rfl|exact hr.at_ 4 rfl|exact hr.at_ 5 rfl|exact hr.at_ 6 rfl|exact hr.at_ 7 rfl|exact hr.at_ 8 rfl)⟩ (by first|exact owns.reads (hr.at_ 0 rfl)|exact owns.reads (hr.at_ 1 rfl)|exact owns.reads (hr.at_ 5 rfl)|exact owns.reads (hr.at_ 6 rfl)) ty) rfl).mono ?_;rintro q w4 ⟨z,L,av,tz,tL,oz,rfl,m1,m3,m4⟩;refine⟨rnV z L av 0,rfl,rfl,m1,qy5 _,m3,m4,?_⟩;intro b;exact⟨y,z,L,av,ev,b,rfl,tz,tL,oz⟩
      . intro b;intro w3 hr;refine(Zd9 hr 72 (rn_1 w3 y ev ⟨(by first|exact hr.at_ 0 rfl|exact hr.at_ 1 rfl|exact hr.at_ 2 rfl|exact hr.at_ 3 rfl|exact hr.at_ 4 rfl|exact hr.at_ 5 rfl|exact hr.at_ 6 rfl|exact hr.at_ 7 rfl|exact hr.at_ 8 rfl),(by first|exact hr.at_ 0 rfl|exact hr.at_ 1 rfl|exact hr.at_ 2 rfl|exact hr.at_ 3 rfl|exact hr.at_ 4 rfl|exact hr.at_ 5 rfl|exact hr.at_ 6 rfl|exact hr.at_ 7 rfl|exact hr.at_ 8 rfl),(by first|exact hr.at_ 0 rfl|exact hr.at_ 1 rfl|exact hr.at_ 2 rfl|exact hr.at_ 3 rfl|exact hr.at_ 4 rfl|exact hr.at_ 5 rfl|exact hr.at_ 6 rfl|exact hr.at_ 7 rfl|exact hr.at_ 8 rfl),Z1o (y:=y) (by first|exact hr.at_ 0 rfl|exact hr.at_ 1 rfl|exact hr.at_ 2 rfl|exact hr.at_ 3 rfl|exact hr.at_ 4 rfl|exact hr.at_ 5 rfl|exact hr.at_ 6 rfl|exact hr.at_ 7 rfl|exact hr.at_ 8 rfl),(by first|exact hr.at_ 0 rfl|exact hr.at_ 1 rfl|exact hr.at_ 2 rfl|exact hr.at_ 3 rfl|exact hr.at_ 4 rfl|exact hr.at_ 5 rfl|exact hr.at_ 6 rfl|exact hr.at_ 7 rfl|exact hr.at_ 8 rfl)⟩ (by first|exact owns.reads (hr.at_ 0 rfl)|exact owns.reads (hr.at_ 1 rfl)|exact owns.reads (hr.at_ 5 rfl)|exact owns.reads (hr.at_ 6 rfl)) ty) rfl).mono ?_;rintro q w4 ⟨z,L,av,tz,tL,oz,rfl,m1,m3,m4⟩;refine⟨rnV z L av 0,rfl,rfl,m1,qy5 _,m3,m4,?_⟩;exact⟨y,z,L,av,ev,b,rfl,tz,tL,oz⟩
    . intro b;intro w3 hr;refine(Zgt hr 62 (Z9v w3) rfl).mono ?_;rintro q w4 ⟨y,ty,-,-,rfl,m1,m3,m4⟩;refine⟨smV y,rfl,rfl,m1,qy5 _,m3,m4,?_⟩;clear hr m1 m3 m4;intro w3 hr;refine(Zd9 hr 72 (rn_1 w3 y ev ⟨(by first|exact hr.at_ 0 rfl|exact hr.at_ 1 rfl|exact hr.at_ 2 rfl|exact hr.at_ 3 rfl|exact hr.at_ 4 rfl|exact hr.at_ 5 rfl|exact hr.at_ 6 rfl|exact hr.at_ 7 rfl|exact hr.at_ 8 rfl),(by first|exact hr.at_ 0 rfl|exact hr.at_ 1 rfl|exact hr.at_ 2 rfl|exact hr.at_ 3 rfl|exact hr.at_ 4 rfl|exact hr.at_ 5 rfl|exact hr.at_ 6 rfl|exact hr.at_ 7 rfl|exact hr.at_ 8 rfl),(by first|exact hr.at_ 0 rfl|exact hr.at_ 1 rfl|exact hr.at_ 2 rfl|exact hr.at_ 3 rfl|exact hr.at_ 4 rfl|exact hr.at_ 5 rfl|exact hr.at_ 6 rfl|exact hr.at_ 7 rfl|exact hr.at_ 8 rfl),Z1o (y:=y) (by first|exact hr.at_ 0 rfl|exact hr.at_ 1 rfl|exact hr.at_ 2 rfl|exact hr.at_ 3 rfl|exact hr.at_ 4 rfl|exact hr.at_ 5 rfl|exact hr.at_ 6 rfl|exact hr.at_ 7 rfl|exact hr.at_ 8 rfl),(by first|exact hr.at_ 0 rfl|exact hr.at_ 1 rfl|exact hr.at_ 2 rfl|exact hr.at_ 3 rfl|exact hr.at_ 4 rfl|exact hr.at_ 5 rfl|exact hr.at_ 6 rfl|exact hr.at_ 7 rfl|exact hr.at_ 8 rfl)⟩ (by first|exact owns.reads (hr.at_ 0 rfl)|exact owns.reads (hr.at_ 1 rfl)|exact owns.reads (hr.at_ 5 rfl)|exact owns.reads (hr.at_ 6 rfl)) ty) rfl).mono ?_;rintro q w4 ⟨z,L,av,tz,tL,oz,rfl,m1,m3,m4⟩;refine⟨rnV z L av 0,rfl,rfl,m1,qy5 _,m3,m4,?_⟩;exact⟨y,z,L,av,ev,b,rfl,tz,tL,oz⟩
  . intro b;refine⟨?_,?_⟩
    . intro w3 hr;refine(Zgt hr 61 (Z9v w3) rfl).mono ?_;rintro q w4 ⟨y,ty,-,-,rfl,m1,m3,m4⟩;refine⟨smV y,rfl,rfl,m1,qy5 _,m3,m4,?_⟩;clear hr m1 m3 m4;intro ev;intro w3 hr;refine(Zd9 hr 72 (rn_1 w3 y ev ⟨(by first|exact hr.at_ 0 rfl|exact hr.at_ 1 rfl|exact hr.at_ 2 rfl|exact hr.at_ 3 rfl|exact hr.at_ 4 rfl|exact hr.at_ 5 rfl|exact hr.at_ 6 rfl|exact hr.at_ 7 rfl|exact hr.at_ 8 rfl),(by first|exact hr.at_ 0 rfl|exact hr.at_ 1 rfl|exact hr.at_ 2 rfl|exact hr.at_ 3 rfl|exact hr.at_ 4 rfl|exact hr.at_ 5 rfl|exact hr.at_ 6 rfl|exact hr.at_ 7 rfl|exact hr.at_ 8 rfl),(by first|exact hr.at_ 0 rfl|exact hr.at_ 1 rfl|exact hr.at_ 2 rfl|exact hr.at_ 3 rfl|exact hr.at_ 4 rfl|exact hr.at_ 5 rfl|exact hr.at_ 6 rfl|exact hr.at_ 7 rfl|exact hr.at_ 8 rfl),Z1o (y:=y) (by first|exact hr.at_ 0 rfl|exact hr.at_ 1 rfl|exact hr.at_ 2 rfl|exact hr.at_ 3 rfl|exact hr.at_ 4 rfl|exact hr.at_ 5 rfl|exact hr.at_ 6 rfl|exact hr.at_ 7 rfl|exact hr.at_ 8 rfl),(by first|exact hr.at_ 0 rfl|exact hr.at_ 1 rfl|exact hr.at_ 2 rfl|exact hr.at_ 3 rfl|exact hr.at_ 4 rfl|exact hr.at_ 5 rfl|exact hr.at_ 6 rfl|exact hr.at_ 7 rfl|exact hr.at_ 8 rfl)⟩ (by first|exact owns.reads (hr.at_ 0 rfl)|exact owns.reads (hr.at_ 1 rfl)|exact owns.reads (hr.at_ 5 rfl)|exact owns.reads (hr.at_ 6 rfl)) ty) rfl).mono ?_;rintro q w4 ⟨z,L,av,tz,tL,oz,rfl,m1,m3,m4⟩;refine⟨rnV z L av 0,rfl,rfl,m1,qy5 _,m3,m4,?_⟩;exact⟨y,z,L,av,ev,b,rfl,tz,tL,oz⟩
    . intro ev;intro w3 hr;refine(Zgt hr 62 (Z9v w3) rfl).mono ?_;rintro q w4 ⟨y,ty,-,-,rfl,m1,m3,m4⟩;refine⟨smV y,rfl,rfl,m1,qy5 _,m3,m4,?_⟩;clear hr m1 m3 m4;intro w3 hr;refine(Zd9 hr 72 (rn_1 w3 y ev ⟨(by first|exact hr.at_ 0 rfl|exact hr.at_ 1 rfl|exact hr.at_ 2 rfl|exact hr.at_ 3 rfl|exact hr.at_ 4 rfl|exact hr.at_ 5 rfl|exact hr.at_ 6 rfl|exact hr.at_ 7 rfl|exact hr.at_ 8 rfl),(by first|exact hr.at_ 0 rfl|exact hr.at_ 1 rfl|exact hr.at_ 2 rfl|exact hr.at_ 3 rfl|exact hr.at_ 4 rfl|exact hr.at_ 5 rfl|exact hr.at_ 6 rfl|exact hr.at_ 7 rfl|exact hr.at_ 8 rfl),(by first|exact hr.at_ 0 rfl|exact hr.at_ 1 rfl|exact hr.at_ 2 rfl|exact hr.at_ 3 rfl|exact hr.at_ 4 rfl|exact hr.at_ 5 rfl|exact hr.at_ 6 rfl|exact hr.at_ 7 rfl|exact hr.at_ 8 rfl),Z1o (y:=y) (by first|exact hr.at_ 0 rfl|exact hr.at_ 1 rfl|exact hr.at_ 2 rfl|exact hr.at_ 3 rfl|exact hr.at_ 4 rfl|exact hr.at_ 5 rfl|exact hr.at_ 6 rfl|exact hr.at_ 7 rfl|exact hr.at_ 8 rfl),(by first|exact hr.at_ 0 rfl|exact hr.at_ 1 rfl|exact hr.at_ 2 rfl|exact hr.at_ 3 rfl|exact hr.at_ 4 rfl|exact hr.at_ 5 rfl|exact hr.at_ 6 rfl|exact hr.at_ 7 rfl|exact hr.at_ 8 rfl)⟩ (by first|exact owns.reads (hr.at_ 0 rfl)|exact owns.reads (hr.at_ 1 rfl)|exact owns.reads (hr.at_ 5 rfl)|exact owns.reads (hr.at_ 6 rfl)) ty) rfl).mono ?_;rintro q w4 ⟨z,L,av,tz,tL,oz,rfl,m1,m3,m4⟩;refine⟨rnV z L av 0,rfl,rfl,m1,qy5 _,m3,m4,?_⟩;exact⟨y,z,L,av,ev,b,rfl,tz,tL,oz⟩
  rintro _ - ⟨y4,z,L,av,ev,b4,rfl,tz,tL,oz⟩;simp only[QQ,Nat.reduceAdd,qy3,qy4];have hB3:BOk bg2:=(Z8k (Z26.1 Zcv) (by decide) Zkw).1;have hl2:L.length=2:=by have:=congrArg List.length tL;simpa using this
  have e1:y.ox=[]:=List.map_eq_nil_iff.1 (show y.ox.map (·.1)=[] from congrArg Tel.out ty);have e3:y3.ox.length=3:=by have h1:=congrArg (λt:Tel=>t.out.length) t3;simp only[TelX.tel,qy3]at h1;rw[h1];exact Z124
  have s3:SmlT y3.bare.tel:=.of (by rw[Z8o,t3];exact hB3.out []);have o3:Z20 (y3.ox.map (·.1)):=by have h1:=congrArg Tel.out t3;rw[show y3.ox.map (·.1)=y3.tel.out from rfl,t3];exact Zgf (Z26.1 Zcv) (by decide) Zkw .nil
  refine⟨[.b true],rfl,λ_ w' hr=>?_,?_⟩
  . have hc:=Zd8 w' y3.bare z ⟨hr.at_ 14 rfl,hr.at_ 15 rfl,hr.at_ 16 rfl,Z1o (y:=y3) (hr.at_ 20 rfl),hr.at_ 17 rfl⟩ ⟨hr.at_ 1 rfl,hr.at_ 2 rfl,hr.at_ 3 rfl,by rw[oz];exact(Z37.1 (hr.at_ 6 rfl:(runA z.sx L).holds w')).1,hr.at_ 4 rfl⟩ s3.b.keptL s3.b.wantsL s3.b.watL (by have:=s3.b.sessL;omega) s3.f;rw[show Zl2 y3.bare.tel z.tel=true from Znz.2 (by rw[Z8o,t3,tz])]at hc;exact hc
  simp only[QQ,Nat.reduceAdd,qy3,qy4,e1,e3,hl2];have hL1:(L.getD 1 alD).1.map (·.1)=bg2.out:=by have h1:=congrArg (λl:List (List Snt)=>l.getD 1 []) tL;simp only[List.getD_cons_succ,List.getD_cons_zero]at h1;rw[<- h1,qy1,qy1,List.getElem?_map,qy7 (by omega)];rfl
  have hrow:=Z1f4 (l:=L) (i:=1) (by omega);have hmem:=Z1f5 (l:=L) (i:=1) (by omega);refine⟨.inr (by decide),[.b true],rfl,λ_ w' hr=>?_,?_⟩
  . have hA:=Z1b7 (Z37.1 (hr.at_ 6 rfl:(runA z.sx L).holds w')).2 hmem;have hc:=Zvq w' (L.getD 1 alD).2 y3.ov (L.getD 1 alD).1 y3.ox [] y3.sx hA.1 (hr.at_ 19 rfl) hA.2 (hr.at_ 20 rfl) (Z11w (by rw[hL1,<- show y3.ox.map (·.1)=bg2.out from congrArg Tel.out t3];exact o3)) (by
      have:=congrArg List.length hL1;rw[qy3,Z124]at this;omega)
    rw[Zgr.2 (show(L.getD 1 alD).1.map (·.1)=y3.ox.map (·.1) from hL1.trans (congrArg Tel.out t3).symm)]at hc;refine Z2 hc ?_;rw[show(1:Int).toNat=1 from rfl,hrow];simp only[Zq3,List.getD_cons_zero,Z1x]
  simp only[QQ,Nat.reduceAdd,qy3,qy4,e1,e3,hl2];exact λw' hr=>⟨by simp,hr.mod⟩
end Go.Proofs.Y
namespace Go.Proofs.Y
open Go.Sx
theorem Z16b{l:List Ses}(h:Z3e l){a b:Ses}(ha:a∈l)(hb:b∈l)(e:a.cl=b.cl):a=b:=by
 obtain⟨i,hi,rfl⟩:=List.mem_iff_getElem.1 ha;obtain⟨j,hj,rfl⟩:=List.mem_iff_getElem.1 hb;rw[Z3e,List.pairwise_iff_getElem]at h;rcases Nat.lt_trichotomy i j with hij|rfl|hij
 ·have:=h i j hi hj hij;rw[e,Zr]at this;cases this
 ·rfl
 ·have:=h j i hj hi hij;rw[e,Zr]at this;cases this
theorem Ztj{l:List Ses}(h:Z3e l){s:Ses}(hs:s∈l):hasS l s.cl=true/\l.getD (idxS l s.cl) s0=s:=by have h1:hasS l s.cl=true:=(Z3t h).2 (List.mem_map.2 ⟨s,hs,rfl⟩);obtain⟨h2,h3⟩:=Z4x h1;exact⟨h1,Z16b h (Zkd h2) hs h3⟩
theorem Zvt{t:Tel}(h:Z3e t.sess)(c:List UInt8):(Z1k c t).kept=t.kept/\(Z1k c t).wat=t.wat/\(Z1k c t).out=t.out/\Z3e (Z1k c t).sess /\ (hasS (Z1k c t).sess c=true->((Z1k c t).sess.getD (idxS (Z1k c t).sess c) s0).on=false\/¬hasS t.sess c=true) /\ ∀s∈t.sess,¬s.cl=c->hasS (Z1k c t).sess s.cl=true/\(Z1k c t).sess.getD (idxS (Z1k c t).sess s.cl) s0=s:=by
 by_cases h1:hasS t.sess c=true
 ·obtain⟨hi,hc⟩:=Z4x h1;by_cases h2:(goR (t.sess.getD (idxS t.sess c) s0)).clean=true
  ·have e:Z1k c t=Zmp c { t with sess:=t.sess.take (idxS t.sess c)++t.sess.drop (idxS t.sess c+1) }:=by rw[Z1k,if_pos h1,if_pos h2]
   have hd:t.sess.drop (idxS t.sess c)=t.sess.getD (idxS t.sess c) s0::t.sess.drop (idxS t.sess c+1):=by rw[List.drop_eq_getElem_cons hi,qy1,qy7 hi];rfl
   have hsub:(t.sess.take (idxS t.sess c)++t.sess.drop (idxS t.sess c+1)).Sublist t.sess:=by
    conv=>rhs;rw[<- List.take_append_drop (idxS t.sess c) t.sess]
    refine List.Sublist.append (List.Sublist.refl _) ?_;rw[hd];exact List.sublist_cons_self _ _
   have hs2:Z3e (t.sess.take (idxS t.sess c)++t.sess.drop (idxS t.sess c+1)):=h.sublist hsub;have es:(Z1k c t).sess=t.sess.take (idxS t.sess c)++t.sess.drop (idxS t.sess c+1):=by rw[e];rfl
   rw[es];refine⟨by rw[e];rfl,by rw[e];rfl,by rw[e];rfl,hs2,λh3=>?_,λs hs hn=>Ztj hs2 ?_⟩
   ·exfalso;obtain⟨s,hs,hsc⟩:=List.mem_map.1 ((Z3t hs2).1 h3);have hp:=h;rw[Z3e,<- List.take_append_drop (idxS t.sess c) t.sess,hd,List.pairwise_append]at hp;obtain⟨-,p2,p3⟩:=hp;rcases qy13.1 hs with hs|hs
    ·have:=p3 s hs _ (qy8 ..);rw[hc,hsc,Zr]at this;cases this
    ·have:=(List.pairwise_cons.1 p2).1 s hs;rw[hc,hsc,Zr]at this;cases this
   ·have hs':=hs;rw[<- List.take_append_drop (idxS t.sess c) t.sess,hd]at hs';rcases qy13.1 hs' with hs' | hs'
    ·exact List.mem_append_left _ hs'
    ·rcases List.mem_cons.1 hs' with rfl|hs'
     ·exact absurd hc hn
     ·exact List.mem_append_right _ hs'
  ·have e:Z1k c t={ t with sess:=t.sess.set (idxS t.sess c) (goR (t.sess.getD (idxS t.sess c) s0)) }:=by rw[Z1k,if_pos h1,if_neg h2]
   have ec:clsS (t.sess.set (idxS t.sess c) (goR (t.sess.getD (idxS t.sess c) s0)))=clsS t.sess:=Zg2 rfl;have hs2:=Zke h ec;have es:(Z1k c t).sess=t.sess.set (idxS t.sess c) (goR (t.sess.getD (idxS t.sess c) s0)):=by rw[e]
   rw[es];refine⟨by rw[e],by rw[e],by rw[e],hs2,λ_=>.inl ?_,λs hs hn=>Ztj hs2 ?_⟩
   ·rw[Z1a7 ec,qy1,List.getElem?_set,if_pos rfl,if_pos hi];rfl
   ·obtain⟨j,hj,rfl⟩:=List.mem_iff_getElem.1 hs;have hji:¬idxS t.sess c=j:=λe=>by
     subst e;rw[qy1,qy7 hi]at hc;exact hn hc
    refine List.mem_iff_getElem.2 ⟨j,by simpa using hj,?_⟩;rw[List.getElem_set,if_neg hji]
 ·have e:Z1k c t=t:=by rw[Z1k,if_neg h1]
  rw[e];exact⟨rfl,rfl,rfl,h,λh2=>absurd h2 h1,λs hs _=>Ztj h hs⟩
theorem Zo4{fd:List UInt8->List Pkt×List UInt8×Int}{dm:List UInt8->Msg×Int}{c s:List UInt8}(hc:¬c=[])(t:Tel)(h1:¬(fd s).2.2=0)(h2:(fd s).1=[])(h3:(fd s).2.1=[]) : Z6d fd dm ⟨c,0,s⟩ (t,[])=(Z1k c t,[]):=by
 have k0:takW [] c=([],[]):=by simp[takW,hasR]
 rw[Z6d,if_neg hc,Z88];simp only[k0,List.nil_append];rw[if_pos h1,h2,h3];simp[Zcq]
theorem Zvu{fd:List UInt8->List Pkt×List UInt8×Int}{dm:List UInt8->Msg×Int}{n:Int}{s:List UInt8}(x:Tel×List Rst)(h1:¬(dm s).2=0):Z6d fd dm ⟨[],n,s⟩ x=x:=by rw[Z6d,if_pos rfl,Zpx,if_neg h1]
abbrev decV(s:List UInt8)(v:Value):List V:=[.i (dec s).1.kind,.i (dec s).1.code,.i (dec s).1.id,.s (dec s).1.tok,.v v,.r ((dec s).1.opts.map encO),.s (dec s).1.pay,.i (dec s).2]
abbrev getV(v:Value):List V:=[.i mGet.kind,.i mGet.code,.i mGet.id,.s mGet.tok,.v v,.r (mGet.opts.map encO),.s mGet.pay]
theorem Z1e2:encR mGet=([65,1,1,2,116,96,81,97,1,98],0):=by rw[encR,if_pos Zte,Zvs]
set_option maxRecDepth 10000 in
theorem Zhh(w:World):Calls Tryz.prog 8 #[] w λe w'=>e=.returned (.bool true)/\Mod [] w w':=by
 refine Z2 (Z7 (J:=[]) sxE_ok Tryz.func8 Z3y rfl rfl rfl ?_) rfl;simp only[QQ,Nat.reduceAdd];intro w1 hr;refine(Zpe w1).mono ?_;rintro e w2 ⟨v1,rfl,r1,f1,m1⟩;refine⟨getV v1,rfl,rfl,m1,qy5 _,qy2.2 ⟨⟨r1,λk hk=>.inl (f1 k hk)⟩,qy5 _⟩,Z4,?_⟩;simp only[QQ,Nat.reduceAdd,getV];refine⟨[.s (encR mGet).1,.i (encR mGet).2],rfl,λ_ w' hr=>Z14o w' mGet v1 (hr.at_ 0 rfl) (by decide) (by decide) (by decide),?_⟩;simp only[QQ,Nat.reduceAdd,Z1e2];intro w3 hr3;refine(Zl5 w3 [65,1,1,2,116,96,81,97,1,98] (by decide)).mono ?_;rintro e w4 ⟨v2,rfl,r1,f1,m1⟩;refine⟨decV [65,1,1,2,116,96,81,97,1,98] v2,rfl,rfl,m1,qy5 _,qy2.2 ⟨⟨r1,λk hk=>.inl (f1 k hk)⟩,qy5 _⟩,Z4,?_⟩;simp only[QQ,Nat.reduceAdd,decV,Z167];intro b;refine⟨λ_=>?_,λh=>absurd ⟨trivial,trivial⟩ h⟩;intro w5 hr5;refine(Zpe w5).mono ?_;rintro e w6 ⟨v3,rfl,r1,f1,m1⟩;refine⟨getV v3,rfl,rfl,m1,qy5 _,qy2.2 ⟨⟨r1,λk hk=>.inl (f1 k hk)⟩,qy5 _⟩,Z4,?_⟩;simp only[QQ,Nat.reduceAdd,getV];refine⟨[.i (chk mGet)],rfl,λ_ w' hr=>Zfp w' mGet v3 (hr.at_ 0 rfl) (by decide) (by decide) (by decide),?_⟩;simp only[QQ,Nat.reduceAdd,Zte];have both1:∀{p:Prop},p->p/\p:=λh=>⟨h,h⟩
 try refine both1 ?_
 refine⟨λ_=>?_,λh=>absurd ⟨trivial,trivial⟩ h⟩;intro w7 hr7;refine(Zpe w7).mono ?_;rintro e w8 ⟨v4,rfl,r1,f1,m1⟩;refine⟨getV v4,rfl,rfl,m1,qy5 _,qy2.2 ⟨⟨r1,λk hk=>.inl (f1 k hk)⟩,qy5 _⟩,Z4,?_⟩;simp only[QQ,Nat.reduceAdd,getV];refine⟨[.b true],rfl,λ_ w' hr=>Zb6 w' mGet mGet v2 v4 (hr.at_ 3 rfl) (hr.at_ 0 rfl) (by decide),?_⟩;simp only[QQ,Nat.reduceAdd];exact λw' hr=>⟨by trivial,hr.mod⟩
open Go
theorem Z128{t:Tel}(c:List UInt8):(Z1k c t).sess.length<=t.sess.length:=by
 unfold Z1k;split
 ·split
  ·show(List.length (t.sess.take _++t.sess.drop _))<=_
   simp only[qy11,List.length_take,List.length_drop];omega
  ·simp
 ·exact Nat.le_refl _
theorem Zo5(w:World)(x:TelX)(e:Evt)(hx:RdX w x)(ho:x.ox=[])(hs:SmlT x.tel)(hc:e.client.length<1099511627776)(hl:e.bytes.length<=2000000) : Calls Tryz.prog 3 #[bkV x,evV e] w λq w'=>q=.returned (.bool true)/\Mod [] w w':=by
 have hr0:Rel ⟨[],w⟩ (bkA x++[.s e.client,.i e.peer,.s e.bytes]) bkH w:=Rel.start2 (qy2.2 ⟨⟨hx.kept,rfl⟩,qy2.2 ⟨⟨hx.want,rfl⟩,qy2.2 ⟨⟨hx.sess,rfl⟩,qy2.2 ⟨⟨hx.nest,rfl⟩,qy2.2 ⟨⟨hx.wat,rfl⟩,qy5 _⟩⟩⟩⟩⟩);refine Z2 (Z3 (J:=bkA x++[.s e.client,.i e.peer,.s e.bytes]) sxE_ok Tryz.func3 Z52 rfl rfl hr0 rfl rfl ?_) rfl;simp only[QQ,Nat.reduceAdd,qy3,qy4];intro b13 b14;refine⟨[.b true],rfl,λ_ w' _=>Zo3 w',?_⟩;simp only[QQ,Nat.reduceAdd,qy3,qy4];refine⟨[.b true],rfl,λ_ w' _=>Zo0 w',?_⟩;simp only[QQ,Nat.reduceAdd,qy3,qy4];refine⟨[.b true],rfl,λ_ w' _=>Zhh w',?_⟩;simp only[QQ,Nat.reduceAdd,qy3,qy4];refine⟨λh=>absurd h (by simp),λ_=>?_⟩;intro w1 hr1;have hq:=Z126 w1 x (.slice none 0 0) [] e ⟨hr1.at_ 2 rfl,hr1.at_ 3 rfl,hr1.at_ 4 rfl,hr1.at_ 5 rfl,hr1.at_ 6 rfl⟩ (Z9 _ _) ho hs (λa ha=>by cases ha) (by decide) hc (by omega);have hE:=@Z123 x.tel [] e;generalize stpE x.tel [] e=E at hq hE
 refine(Zj2 hr1 18 hq rfl).mono ?_;rintro q w2 ⟨y,r,rv,hy,-,rfl,m1,m3,m4⟩;refine⟨spV y r rv E,rfl,rfl,m1,qy5 _,m3,m4,?_⟩;clear m1 m3 m4 hr1 hq;intro b33;simp only[QQ,Nat.reduceAdd,qy3,qy4];have hyl:y.tel.out.length=y.ox.length:=by simp[TelX.tel]
 refine⟨λh w3 hr3=>?_,λh=>?_⟩
 ·rw[resW,if_neg h]at hy;have h1:=congrArg (λt:Tel×List Rst=>t.1.out.length) hy;simp only at h1;rw[hyl]at h1;have h2:y.ox.length=0:=h1;exact⟨by simp[h2],hr3.mod⟩
 have h:E=0:=qy9.1 h;obtain⟨hB,hR,hev⟩:=hE h;rw[resW,if_pos h]at hy;have hxo:x.tel.out=[]:=by simp[TelX.tel,ho]
 refine⟨λh0=>?_,λh0=>?_⟩
 ·intro w3 hr3;refine(Zl5 w3 e.bytes (by omega)).mono ?_;obtain⟨D,hD⟩:∃D,D=dec e.bytes:=⟨_,rfl⟩
  rw[<- hD];have hal:¬D.2=0->y.tel=x.tel:=λh3=>by
   have h4:=Zvu (fd:=feed) (dm:=dec) (n:=e.peer) (s:=e.bytes) (x.tel,[]) (by rw[<- hD];exact h3);have h5:Zbn e (x.tel,[])=(x.tel,[]):=by rw[show Zbn e (x.tel,[])=Z6d feed dec ⟨[],e.peer,e.bytes⟩ (x.tel,[]) by cases e;simp only at h0;subst h0;rfl];exact h4
   rw[h5]at hy;exact(Prod.mk.inj hy).1
  obtain⟨m,er⟩:=D;simp only at hal;rintro q w4 ⟨mv,rfl,rm,fm,mm⟩;refine⟨[.i m.kind,.i m.code,.i m.id,.s m.tok,.v mv,.r (m.opts.map encO),.s m.pay,.i er],rfl,rfl,mm,qy5 _,qy2.2 ⟨⟨rm,λk hk=>.inl (fm k hk)⟩,qy5 _⟩,Z4,?_⟩;clear mm rm fm hr3;intro b42;simp only[QQ,Nat.reduceAdd,qy3,qy4];refine⟨[.b (Zl2 y.bare.tel x.tel)],rfl,λhg w' hr=>?_,?_⟩
  ·have hyt:=hal hg.1;have sm:SmlT y.bare.tel:=by rw[Z8o,hyt];exact .of (hB.out [])
   exact Zd8 w' y.bare x ⟨hr.at_ 3 rfl,hr.at_ 4 rfl,hr.at_ 5 rfl,Z1o (y:=y) (hr.at_ 9 rfl),hr.at_ 6 rfl⟩ ⟨hr.at_ 12 rfl,hr.at_ 13 rfl,hr.at_ 14 rfl,hr.at_ 15 rfl,hr.at_ 16 rfl⟩ sm.b.keptL sm.b.wantsL sm.b.watL (by have:=sm.b.sessL;omega) sm.f
  simp only[QQ,Nat.reduceAdd,qy3,qy4];intro w5 hr5;refine⟨?_,hr5.mod⟩;by_cases h3:er=0
  ·simp[h3]
  ·have hyt:=hal h3;have h4:y.ox.length=0:=by rw[<- hyl,hyt,hxo];rfl
   have h5:Zl2 y.bare.tel x.tel=true:=Znz.2 (by rw[Z8o,hyt]);simp[h4,h5]
 ·intro w3 hr3;refine(Zt2 w3 [] e.bytes (by simp;omega)).mono ?_;rw[List.nil_append];obtain⟨F,hF⟩:∃F,F=feed e.bytes:=⟨_,rfl⟩
  have hff:=(Zct _ e.bytes (Nat.le_refl _)).2.2.1;rw[<- hF]at hff⊢;rintro q w4 ⟨lv,l,rfl,hlF,m1,rX,pX,fX,fP⟩;refine⟨[.v lv,.r (l.map Z6e),.s F.2.1,.i F.2.2,.a (Z1p l)],rfl,rfl,m1,qy5 _,qy2.2 ⟨⟨rX,λk hk=>.inl (fX k hk.2)⟩,qy2.2 ⟨⟨pX,λk hk=>.inl (fP k hk)⟩,qy5 _⟩⟩,Z2f (by simp[Ent.wr]),?_⟩;clear m1 rX pX fX fP hr3;simp only[QQ,Nat.reduceAdd,qy3,qy4];refine⟨λh3 w5 hr5=>⟨by trivial,hr5.mod⟩,λh3=>?_⟩;have h4:¬F.2.2=0:=λh=>h3 (.inl h);have h5:F.1=[]:=by
   have:l.length=0:=by omega
   rw[<- hlF,List.length_eq_zero_iff.1 this];rfl
  have hst:=Zo4 (fd:=feed) (dm:=dec) (c:=e.client) (s:=e.bytes) h0 x.tel (by rw[<- hF];exact h4) (by rw[<- hF];exact h5) (by rw[<- hF];exact hff h4);have hpe:e.peer=0:=by
   rcases Zee.1 hev with h|h
   ·exact absurd h.1 h0
   ·exact h.2.2
  rw[show Zbn e (x.tel,[])=(Z1k e.client x.tel,[]) by rw[<- hst];cases e;simp only at hpe;subst hpe;rfl]at hy;obtain⟨hyt,hyr⟩:=Prod.mk.inj hy;subst hyr;obtain⟨g1,g2,g3,g4,g5,g6⟩:=Zvt hB.sort e.client;have e1:y.ox.length=0:=by rw[<- hyl,hyt,g3,hxo];rfl
  rw[<- hyt]at g1 g2 g4 g5 g6;have e2:y.kept=x.kept:=g1;have e3:y.wat=x.wat:=g2;have hn6:y.sx.length<=6:=by have h1:=hB.ns;have h2:=Z128 (t:=x.tel) e.client;rw[<- hyt]at h2;simp only[TelX.tel,qy3]at h1 h2;omega
  have hx6:x.sx.length<=6:=by have h1:=hB.ns;simp only[TelX.tel,qy3]at h1;exact h1
  have hk16:=(Z1j.1 hB.kept).1;have hw12:=(Z10.1 hB.wat).1;simp only[TelX.tel]at hk16 hw12;simp only[QQ,Nat.reduceAdd,qy3,qy4,e1];refine⟨[.b (decide (y.kept=x.kept))],rfl,λ_ w' hr=>Zi6 w' y.kv x.kv _ _ (hr.at_ 3 rfl) (hr.at_ 12 rfl) (by rw[e2];omega),?_⟩;simp only[QQ,Nat.reduceAdd,qy3,qy4,e1];refine⟨[.b (decide (y.wat=x.wat))],rfl,λ_ w' hr=>Zao w' y.av x.av _ _ (hr.at_ 6 rfl) (hr.at_ 16 rfl) (by rw[e3];omega),?_⟩;simp only[QQ,Nat.reduceAdd,qy3,qy4,e1];refine⟨λh=>absurd h (by simp[e2,e3]),λ_=>?_⟩;refine⟨λvs=>∃(i:Nat) (u:V),vs=[u,.i i]/\i<=x.sx.length,λvs=>x.sx.length - (vs.getD 1 (.i 0)).toI.toNat,⟨0,_,rfl,Nat.zero_le _⟩,?_⟩;rintro _ - ⟨i,u,rfl,hi⟩;simp only[QQ,Nat.reduceAdd,qy3,qy4,gSx0];refine⟨λh6=>?_,λh6 w' hr=>⟨by trivial,hr.mod⟩⟩;have hi':i<x.sx.length:=by omega
  have hmm:=Zdo hi';have hms:(x.sx.getD i sxD).1∈x.tel.sess:=List.mem_map_of_mem hmm;refine⟨by omega,[.i (atS y.tel.sess (x.sx.getD i sxD).1.cl)],rfl,λ_ w' hr=>Zq5 w' y.sv y.sx _ (hr.at_ 5 rfl) g4 (by omega),?_⟩;simp only[QQ,Nat.reduceAdd,qy3,qy4,gSx0];refine⟨λh7=>?_,λh7=>?_⟩
  ·have hh:=(Ztj hB.sort hms).1;rw[h7]at hh;by_cases hy1:hasS y.tel.sess e.client=true
   ·obtain⟨hlt,hse⟩:=Zn1 hy1;have hoff:(y.sx.getD (idxS y.tel.sess e.client) sxD).1.on=false:=by
     rcases g5 hy1 with h|h
     ·rw[hse];exact h
     ·exact absurd hh h
    rw[h7,atS,if_pos hy1];simp only[qy4];rw[Zb9 hlt];simp only[Zh,List.getD_cons_succ,List.getD_cons_zero,Value.gB,hoff];exact⟨by omega,by omega,λh=>absurd h.2 (by simp),λ_=>⟨by omega,by omega,⟨i+1,u,rfl,by omega⟩,by omega⟩⟩
   ·rw[h7,atS,if_neg hy1];exact⟨by omega,by omega,λh=>absurd h.1 (by decide),λ_=>⟨by omega,by omega,⟨i+1,u,rfl,by omega⟩,by omega⟩⟩
  ·obtain⟨hy1,hy2⟩:=g6 _ hms h7;obtain⟨hlt,hse⟩:=Zn1 hy1;rw[hy2]at hse;rw[atS,if_pos hy1];simp only[qy4];rw[Zb9 hlt,Zb9 hi'];have hm2:=Zdo hlt;have sfx:=hs.f _ hmm;refine⟨by omega,by omega,[.b true],rfl,λ_ w' hr=>?_,?_⟩
   ·have n1:=Zz (hr.at_ 9 rfl:(Z6 y.sx y.ox).holds w') hm2;have n2:=Zz (hr.at_ 15 rfl:(Z6 x.sx x.ox).holds w') hmm;have hq:=Zat w' (y.sx.getD (idxS y.tel.sess (x.sx.getD i sxD).1.cl) sxD).1 (x.sx.getD i sxD).1 _ _ _ _ n1.1 n1.2 n2.1 n2.2 (by rw[hse];exact sfx.1) (by rw[hse];exact sfx.2);rw[decide_eq_true hse]at hq;refine Z2 hq ?_;simp only[QQ,Nat.reduceAdd,qy3,qy4,Zh,List.getD_cons_zero,List.getD_cons_succ,Value.gI,Value.gB,Value.gS,Z1x,sesV]
   simp only[QQ,Nat.reduceAdd,qy3,qy4];exact⟨λh=>absurd h (by simp),λ_=>⟨by omega,by omega,⟨i+1,u,rfl,by omega⟩,by omega⟩⟩
end Go.Proofs.Y
namespace Go.Sx
open Go Go.ChangeShapes Go.WideShapes Go.ChangeAt Go.RowKit
section
variable {H:Type} {enc:TypeId×Value->H} {P:Program}
def Z1e3(P:Program)(ts:List TypeId):Bool:=ts.all λt=>match P.underlying t with|some (.slice e)=>decide (0<P.cellsOf e)|_=>true
def Z129(P:Program)(ts:List TypeId):Bool:=ts.all λt=>match P.underlying t with
 | some (.slice e)=>ts.contains e
 | some (.pointer e)=>ts.contains e
 | some (.array _ e)=>ts.contains e
 | some (.map _ e)=>ts.contains e
 | some (.struct fs)=>fs.toList.all λf=>ts.contains f.type
 | _=>true
theorem Z1bg(hl:laidOutB P=true)(hm:mapsRowed P=true){ts:List TypeId}(hc:Z129 P ts=true)(hs:ts.all (λt=>decide (t<P.types.size))=true):Kids P (·∈ts):=by
 have K:=kids_rows hl hm;have hs':∀t∈ts,t<P.types.size:=λt ht=>by simpa using List.all_eq_true.1 hs t ht
 have hc':=λt ht=>List.all_eq_true.1 hc t ht;refine⟨λ{t e} ht hu=>?_,λ{t e} ht hu=>?_,λ{t e n} ht hu=>⟨?_,(K.array (hs' t ht) hu).2⟩,λ{t fs} ht hu=>⟨?_,(K.struct (hs' t ht) hu).2⟩,λ{t k e} ht hu=>?_⟩
 ·have:=hc' t ht;rw[hu]at this;simpa using this
 ·have:=hc' t ht;rw[hu]at this;simpa using this
 ·have:=hc' t ht;rw[hu]at this;simpa using this
 ·have:=hc' t ht;rw[hu]at this;simp only[List.all_eq_true]at this;exact λf hf=>by simpa using this f hf
 ·have:=hc' t ht;rw[hu]at this;simpa using this
theorem Zgw{w w':World}{p:MemPlace}(h:w'.heap[p.block]?=w.heap[p.block]?):w.sameAt w' p:=by
 cases p with
 | cell b off=>exact World.cell?_of_block h
 | map b=>exact h
theorem Zbo{w w':World}{sp:Nat->Bool}{T:TypeId->Prop}(K:Kids P T)(hsz:∀{t e:TypeId},T t->P.underlying t=some (.slice e)->0<P.cellsOf e) : ∀{ts:List TypeId} {vs:List Value} {ds:List (DataW H)} {ps:List MemPlace},(∀t∈ts,T t)->DataW.TrodAll enc P w 0 (λ_=>true) true ts vs ds ps -> (∀p∈ps,w.sameAt w' p)->(∀p∈ps,sp p.block=true)->DataW.TrodAll enc P w' 0 sp true ts vs ds ps
 | [],_,_,_,_,h,_,_=>by obtain⟨rfl,rfl,rfl⟩:=trodAll_nil h;exact trodAll_mk0
 | t::ts,_,_,_,ht,h,hs,hp=>by
  obtain⟨v,vs1,d,ds1,a,b,rfl,rfl,rfl,h1,h2⟩:=trodAll_cons h;obtain⟨n,h1⟩:=h1;exact⟨a,b,⟨n,DataW.trod_stays K hsz (λh=>by cases h) (ht t (qy8 ..)) h1 (λp hp'=>hs p (List.mem_append_left _ hp')) (λp hp'=>hp p (List.mem_append_left _ hp'))⟩,
   Zbo K hsz (λu hu=>ht u (qy10 _ hu)) h2 (λp hp'=>hs p (List.mem_append_right _ hp')) (λp hp'=>hp p (List.mem_append_right _ hp')),rfl⟩
theorem Z16c{f:Func}{s:ChangeSpec}{fresh handsOn again:Bool}{W W':World}{args:Array Value}{ds gs:List (DataW H)}{before:List MemPlace}{tb:TypeId}(ts:List TypeId) (hW:DataW.Whole enc P f.params.toList s.vars false W args.toList ds gs before) (hv:s.vars=[]) (hr:f.resultTypes=#[tb]) (htb:P.underlying tb=some .bool) (hfn:gs=[]->(s.fn H ds).results=[.lit (.bool true)]/\(s.fn H ds).args=ds/\(s.fn H ds).vars=[]) (hl:laidOutB P=true) (hm:mapsRowed P=true) (hc:Z129 P ts=true) (hs:ts.all (λt=>decide (t<P.types.size))=true) (hz:Z1e3 P ts=true) (hp:f.params.toList.all ts.contains=true) (h:Mod [] W W'):s.post enc P f false fresh handsOn again W args (.bool true) W':=by
 have hW':=hW;have hlt:=hW.lt;obtain⟨p,q,hA,hV,rfl,hfz,hn⟩:=hW;rw[hv]at hV;obtain⟨rfl,rfl⟩:=trodVars_none hV;obtain⟨f1,f2,f3⟩:=hfn rfl;have K:=Z1bg hl hm hc hs;have hsz:∀{t e:TypeId},t∈ts->P.underlying t=some (.slice e)->0<P.cellsOf e:=λ{t e} ht hu=>by have:=List.all_eq_true.1 hz t ht;rw[hu]at this;simpa using this
 have hT:∀t∈f.params.toList,t∈ts:=λt ht=>by simpa using List.all_eq_true.1 hp t ht
 have hblk:∀k,k<W.heap.size->W'.heap[k]?=W.heap[k]?:=λk hk=>h.block k hk (by simp);have hsame:∀x∈p,W.sameAt W' x:=λx hx=>Zgw (hblk _ (hlt x (by simpa using hx)));have hargs:∀sp:Nat->Bool,(∀x∈p,sp x.block=true)->DataW.TrodAll enc P W' 0 sp true f.params.toList args.toList (s.fn H (ds++[])).args p:=λsp hsp=>by rw[List.append_nil,f2];exact Zbo K hsz hT hA hsame hsp
 have hres:∀(b:Nat) (sp:Nat->Bool) (hd:Bool),DataW.TrodAll enc P W' b sp hd f.resultTypes.toList ((Value.bool true).resultList f.resultTypes.size) (s.fn H (ds++[])).results []:=λb sp hd=>by rw[List.append_nil,f1,hr];exact trodAll_cons_mk (shut_bool htb _) trodAll_mk0
 have hvars:∀sp:Nat->Bool,DataW.TrodVars enc P W' sp s.vars (s.fn H (ds++[])).vars []:=λsp=>by rw[List.append_nil,f3,hv];rfl
 have hold:∀x∈p,(λb=>decide (b<W.heap.size)) x.block=true:=λx hx=>by simpa using hlt x (by simpa using hx)
 refine⟨ds,[],p++[],[],p,[],hW',hres _ _ _,hargs _ hold,hvars _,⟨h.os,h.output,λi hi=>?_⟩,λ_=>⟨?_,[.lit (.bool true)]++ds,[],([]++p)++[],⟨[]++p,[],trodAll_append (by have:=hargs (λ_=>true) (λ_ _=>rfl);rw[List.append_nil,f2]at this;exact this) (by have:=hres 0 (λ_=>true) true;rw[List.append_nil,f1]at this;exact this),by rw[hv];rfl,rfl,?_,by simp⟩,?_⟩⟩
 ·have e:=hblk i hi;rw[e];cases W.heap[i]? with
  | none=>rfl
  | some o=>cases o<;>simp
 ·exact ok_one hr rfl (okWide_bool_mk htb _)
 ·intro b off hb;have hb:MemPlace.cell b off∈p:=by simpa using hb
  have hlt':=hlt _ (show MemPlace.cell b off∈p++[] by simpa using hb);have:=hfz b off (by simpa using hb);simp only[World.frozen?,hblk b hlt']at this⊢;exact this
 ·intro x hx _;simpa using hx
end
end Go.Sx
namespace Go.Sx
open Go Go.ChangeShapes Go.WideShapes Go.ChangeAt Go.RowKit
section
variable {H:Type} {enc:TypeId×Value->H} {P:Program} {w:World} {sp:Nat->Bool}
structure Bulk(B:DataW H->Nat):Prop where
 agg:∀l:List (DataW H),(l.map B).sum<=B (.agg l)
 slice:∀l r:List (DataW H),(l.map B).sum+1<=B (.slice l r)
 str:∀s:List UInt8,s.length+1<=B (.lit (.string s))
 one:∀d:DataW H,1<=B d
def Zgx(P:Program)(g:TypeId->Option (List (TypeId×Kd))):List Field->Nat->Option (List (TypeId×Kd))
 | [],_=>some []
 | f::fs,off=>do
  let l <- g f.type
  let r <- Zgx P g fs (off+l.length)
  if f.offset=off/\P.cellsOf f.type=l.length then some (l++r)else none
def Z54(P:Program):Nat->TypeId->Option (List (TypeId×Kd))
 | 0,_=>none
 | f+1,t=>match P.underlying t with
  | some .bool=>some [(t,.bool)]
  | some (.int k)=>some [(t,.int k)]
  | some .string=>some [(t,.str)]
  | some (.slice _)=>some [(t,.oth)]
  | some (.struct fs)=>match Zgx P (Z54 P f) fs.toList 0 with
   | some l=>if P.cellsOf t=l.length then some l else none
   | none=>none
  | _=>none
def Z5m(enc:TypeId×Value->H)(P:Program)(w:World)(sp:Nat->Bool)(B:DataW H->Nat)(l:TypeId×Kd)(c:Value)(b:Nat):Prop :=
 l.2.ok c/\∃n d ps,DataW.trod enc P w 0 sp true n l.1 [c]=some (d,ps)/\B d<=b
inductive Lv (enc:TypeId×Value->H) (P:Program) (w:World) (sp:Nat->Bool) (B:DataW H->Nat):List (TypeId×Kd)->List Value->Nat->Prop
 | nil (b:Nat):Lv enc P w sp B [] [] b
 | cons {l:TypeId×Kd} {ls:List (TypeId×Kd)} {c:Value} {cs:List Value} {b1 b2 b:Nat}:Z5m enc P w sp B l c b1->Lv enc P w sp B ls cs b2->b1+b2<=b->Lv enc P w sp B (l::ls) (c::cs) b
variable {B:DataW H->Nat}
theorem Lv.mono{ls:List (TypeId×Kd)}{cs:List Value}{b b':Nat}(h:Lv enc P w sp B ls cs b)(hb:b<=b'):Lv enc P w sp B ls cs b':=by
 cases h with
 | nil=>exact .nil _
 | cons h1 h2 h3=>exact .cons h1 h2 (by omega)
theorem Lv.append{l2:List (TypeId×Kd)}{c2:List Value}{b2:Nat}(h':Lv enc P w sp B l2 c2 b2):∀{l1:List (TypeId×Kd)} {c1:List Value} {b1:Nat},Lv enc P w sp B l1 c1 b1->Lv enc P w sp B (l1++l2) (c1++c2) (b1+b2):=by
 intro l1 c1 b1 h;induction h with
 | nil b=>exact h'.mono (by omega)
 | cons h1 h2 h3 ih=>exact .cons h1 ih (by omega)
theorem Lv.rowOk{ls:List (TypeId×Kd)}{cs:List Value}{b:Nat}(h:Lv enc P w sp B ls cs b):rowOk (ls.map (·.2)) cs:=by
 induction h with
 | nil=>trivial
 | cons h1 h2 h3 ih=>exact⟨h1.1,ih⟩
theorem Zj6{g:TypeId->Option (List (TypeId×Kd))}{cs:List Value}{n:Nat}(hg:∀t l cs x,g t=some l->DataW.trod enc P w 0 sp true n t cs=some x->Lv enc P w sp B l cs (B x.1)) : ∀{fs:List Field} {xs:List (DataW H×List MemPlace)} {off:Nat} {l:List (TypeId×Kd)},Zgx P g fs off=some l->xs.length=fs.length -> (∀(i:Nat) (f:Field),fs[i]?=some f->DataW.trod enc P w 0 sp true n f.type ((cs.drop f.offset).take (P.cellsOf f.type))=xs[i]?)->off+l.length<=cs.length -> Lv enc P w sp B l ((cs.drop off).take l.length) ((xs.map λx=>B x.1).sum)
 | [],[],off,l,h,_,_,_=>by simp[Zgx]at h;subst h;simp;exact .nil _
 | f::fs,[],off,l,h,hl,_,_=>by simp at hl
 | [],x::xs,off,l,h,hl,_,_=>by simp at hl
 | f::fs,x::xs,off,l,h,hl,hx,hc=>by
  simp only[Zgx,Option.bind_eq_bind,Option.bind_eq_some_iff,Option.ite_none_right_eq_some,Option.some.injEq]at h;obtain⟨l1,h1,l2,h2,⟨ho,hcs⟩,rfl⟩:=h;have hx0:=hx 0 f rfl;simp only[List.getElem?_cons_zero]at hx0;rw[ho,hcs]at hx0;have i1:=hg _ _ _ _ h1 hx0;simp only[qy11]at hc;have i2:=Zj6 hg (xs:=xs) h2 (by simpa using hl) (λi f' hf=>by have:=hx (i+1) f' (by simpa using hf);simpa using this) (by omega);have e:(cs.drop off).take (l1++l2).length=(cs.drop off).take l1.length++(cs.drop (off+l1.length)).take l2.length:=by rw[qy11,<- List.drop_drop,List.take_add]
  rw[e];exact i2.append i1
theorem Zbp(hB:Bulk B):∀(f:Nat) {t:TypeId} {l:List (TypeId×Kd)} {n:Nat} {cs:List Value} {x:DataW H×List MemPlace},Z54 P f t=some l->DataW.trod enc P w 0 sp true n t cs=some x->Lv enc P w sp B l cs (B x.1)
 | 0,t,l,n,cs,x,h,_=>by simp[Z54]at h
 | f+1,t,l,n,cs,x,h,hx=>by
  simp only[Z54]at h;have one:∀(k:Kd) (c:Value),cs=[c]->k.ok c->Lv enc P w sp B [(t,k)] cs (B x.1):=λk c hc hk=>by subst hc;exact .cons ⟨hk,n,x.1,x.2,hx,Nat.le_refl _⟩ (.nil 0) (by omega)
  split at h
  ·rename_i hu;simp at h;subst h;obtain⟨b,rfl,-⟩:=DataW.trod_bool hu hx;exact one _ _ rfl ⟨b,rfl⟩
  ·rename_i k hu;simp at h;subst h;obtain⟨m,rfl,-⟩:=DataW.trod_int hu hx;exact one _ _ rfl ⟨m,rfl⟩
  ·rename_i hu;simp at h;subst h;obtain⟨⟨⟨s⟩⟩,rfl,-⟩:=DataW.trod_string hu hx;exact one _ _ rfl ⟨s,rfl⟩
  ·rename_i e hu;simp at h;subst h;rcases DataW.trod_slice hu hx with⟨rfl,-⟩|⟨a,len,cap,elems,rest,m,-,rfl,-⟩
   ·exact one _ _ rfl rfl
   ·exact one _ _ rfl rfl
  ·rename_i fs hu;split at h
   ·rename_i l' hl;split at h
    ·rename_i hc;simp at h;subst h;obtain⟨xs,m,rfl,rfl,hcl,hxl,hf⟩:=DataW.trod_struct hu hx;have:=Zj6 (cs:=cs) (λt l cs x=>Zbp hB f (t:=t) (l:=l) (n:=m) (cs:=cs) (x:=x)) hl (by simpa using hxl) (λi f hi=>hf i f (by simpa using hi)) (by omega);rw[List.drop_zero,List.take_of_length_le (by omega)]at this;refine this.mono ?_;have:=hB.agg (xs.map (·.1));rw[List.map_map]at this;exact this
    ·cases h
   ·cases h
  ·cases h
theorem Z8p(hB:Bulk B){f n:Nat}{t e:TypeId}{ls:List (TypeId×Kd)}{v:Value}{x:DataW H×List MemPlace}(hu:P.underlying t=some (.slice e))(hl:Z54 P f e=some ls)(hc:P.cellsOf e=ls.length)(hpos:0<ls.length) (hx:DataW.trod enc P w 0 sp true n t [v]=some x) : ∃(rows:List (List Value)) (bs:List Nat),reads w v (ls.map (·.2)) rows/\bs.length=rows.length/\(∀(i:Nat) r b,rows[i]?=some r->bs[i]?=some b->Lv enc P w sp B ls r b)/\bs.sum+1<=B x.1:=by
 rcases DataW.trod_slice hu hx with⟨hv,rfl⟩|⟨a,len,cap,elems,rest,m,-,hv,rfl,-,hlc,hcm,hel,hget,-⟩
 ·simp only[List.cons.injEq,and_true]at hv;subst hv;exact⟨[],[],⟨by simp,none,0,rfl,⟨λ_=>rfl,by simp⟩,by simp⟩,rfl,by simp,by simpa using hB.one _⟩
 ·simp only[List.cons.injEq,and_true]at hv;subst hv;rw[hc]at hget;have hrow:∀i,i<len->∃r y,w.cells? 0 (a.add (i*ls.length)) ls.length=some r/\elems[i]?=some y/\DataW.trod enc P w 0 sp true m e r=some y:=λi hi=>by
   have h1:=hget i hi;have h2:elems[i]?=some (elems[i]'(by omega)):=qy7 (by omega);rw[h2,Option.bind_eq_some_iff]at h1;obtain⟨r,h3,h4⟩:=h1;exact⟨r,_,h3,h2,h4⟩
  let rows:=(List.range len).map λi=>(w.cells? 0 (a.add (i*ls.length)) ls.length).getD []
  have hrl:rows.length=len:=by simp[rows]
  have hri:∀i,i<len->∃r y,rows[i]?=some r/\w.cells? 0 (a.add (i*ls.length)) ls.length=some r/\elems[i]?=some y/\Lv enc P w sp B ls r (B y.1):=λi hi=>by obtain⟨r,y,h1,h2,h3⟩:=hrow i hi;exact⟨r,y,by simp[rows,List.getElem?_range hi,h1],h1,h2,Zbp hB f hl h3⟩
  have hlen:∀r∈rows,r.length=(ls.map (·.2)).length/\rowOk (ls.map (·.2)) r:=λr hr=>by obtain⟨i,hi,hri'⟩:=List.getElem_of_mem hr;obtain⟨r',y,h1,h2,h3,h4⟩:=hri i (by omega);rw[qy7 hi,hri']at h1;simp at h1;subst h1;exact⟨h4.rowOk.length,h4.rowOk⟩
  refine⟨rows,elems.map λy=>B y.1,⟨λr hr=>(hlen r hr).2,some a,cap,by rw[hrl],⟨(λh=>by cases h),by omega⟩,λhne=>⟨a,rfl,λj u hj=>?_⟩⟩,by simp[hrl,hel],λi r b hr hb=>?_,?_⟩
  ·have hL:(ls.map (·.2)).length=ls.length:=by simp
   have hfl:=Zf (λr hr=>(hlen r hr).1);have hjl:j<rows.length*ls.length:=by have:=(List.getElem?_eq_some_iff.1 hj).1;rw[hfl,hL]at this;exact this
   have hi:j / ls.length<len:=by rw[<- hrl];exact Nat.div_lt_of_lt_mul (by rw[Nat.mul_comm];exact hjl)
   obtain⟨r,y,h1,h2,h3,h4⟩:=hri _ hi;have hk:=Nat.mod_lt j hpos;have hjj:j=j / ls.length*ls.length+j % ls.length:=by rw[Nat.mul_comm];exact(Nat.div_add_mod j _).symm
   have:=Z94 (λr hr=>by rw[<- hL];exact(hlen r hr).1) (i:=j / ls.length) (c:=j % ls.length) hk;rw[<- hjj,hj,h1]at this;obtain⟨c1,c2⟩:=World.cells?_some h2;have c3:=c2.2 _ hk;rw[Zdt,<- hjj]at c3;rw[c3];exact this.symm
  ·obtain⟨r',y,h1,h2,h3,h4⟩:=hri i (by rw[<- hrl];exact(List.getElem?_eq_some_iff.1 hr).1);rw[h1]at hr;simp at hr;subst hr;rw[List.getElem?_map,h3]at hb;simp at hb;subst hb;exact h4
  ·have:=hB.slice (elems.map (·.1)) (rest.map (·.1));rw[List.map_map]at this;exact this
theorem Zqa{r:Reach}{b0 base:Nat}{held:Bool}{t:TypeId}{fs:Array Field}{v:Value}{d:DataW H}{ps:List MemPlace}(ht:P.underlying t=some (.struct fs))(hval:Value.okWide P w r b0 t v)(hd:DataW.Trod enc P w base sp held t v d ps) : ∃(cs:List Value) (n:Nat),v=.agg cs.toArray/\DataW.trod enc P w base sp held n t cs=some (d,ps):=by obtain⟨n,hd⟩:=hd;simp only[Value.okWide,ht]at hval;obtain⟨cs,rfl,-⟩:=hval;exact⟨cs.toList,n,by simp,by simpa[Value.cells]using hd⟩
theorem Z17h{α:Type}{g:α->Nat}:∀{rows:List α} {bs:List Nat},bs.length=rows.length->(∀(i:Nat) r b,rows[i]?=some r->bs[i]?=some b->g r<=b)->(rows.map g).sum<=bs.sum
 | [],[],_,_=>by simp
 | r::rows,b::bs,hl,h=>by have h0:=h 0 r b rfl rfl;have:=Z17h (rows:=rows) (bs:=bs) (by simpa using hl) (λi r' b' hr hb=>h (i+1) r' b' (by simpa using hr) (by simpa using hb));simp only[List.map_cons,List.sum_cons];omega
 | [],_::_,hl,_=>by simp at hl
 | _::_,[],hl,_=>by simp at hl
theorem Zgy(hB:Bulk B){ls:List (TypeId×Kd)}(h0:ls≠[]){rows:List (List Value)}{bs:List Nat}(hl:bs.length=rows.length)(h:∀(i:Nat) r b,rows[i]?=some r->bs[i]?=some b->Lv enc P w sp B ls r b):rows.length<=bs.sum:=by
 have:=Z17h (g:=λ_:List Value=>1) hl (λi r b hr hb=>by
  cases h i r b hr hb with
  | nil b=>exact absurd rfl h0
  | cons h1 h2 h3=>obtain⟨-,n,d,q,-,h5⟩:=h1;have:=hB.one d;omega)
 have e:(rows.map λ_=>1).sum=rows.length:=by
  clear hl h this;induction rows with
  | nil=>rfl
  | cons r rows ih=>simp only[List.map_cons,List.sum_cons,List.length_cons,ih];omega
 omega
theorem Z5m.str(hB:Bulk B){t:TypeId}(ht:P.underlying t=some .string){s:List UInt8}{b:Nat}(h:Z5m enc P w sp B (t,.str) (.string ⟨s.toArray⟩) b):s.length+1<=b:=by obtain⟨-,n,d,ps,h1,h2⟩:=h;obtain⟨s',h3,h4⟩:=DataW.trod_string ht h1;simp only[List.cons.injEq,Value.string.injEq,and_true]at h3;subst h3;simp only[Prod.mk.injEq]at h4;obtain⟨⟨rfl,-⟩,-⟩:=h4;have:=hB.str s;omega
end
end Go.Sx
namespace Go.Proofs.Y
open Go Go.Sx Go.ChangeShapes Go.WideShapes Go.ChangeAt Go.RowKit
section
variable {H:Type} {enc:TypeId×Value->H} {w:World} {sp:Nat->Bool} {B:DataW H->Nat}
def Zef(P:Program)(t:TypeId):Bool:=match P.underlying t with|some (.struct _)=>true|_=>false
theorem Zda{P:Program}{r:Reach}{b0 base:Nat}{held:Bool}{t:TypeId}{v:Value}{d:DataW H}{ps:List MemPlace}(ht:Zef P t=true)(hval:Value.okWide P w r b0 t v)(hd:DataW.Trod enc P w base sp held t v d ps) : ∃(cs:List Value) (n:Nat),v=.agg cs.toArray/\DataW.trod enc P w base sp held n t cs=some (d,ps):=by
 unfold Zef at ht;split at ht
 ·exact Zqa (by assumption) hval hd
 ·cases ht
end
end Go.Proofs.Y
namespace Go.Proofs.Y
open Go Go.Sx Go.ChangeShapes Go.WideShapes Go.ChangeAt Go.RowKit
section
variable {H:Type} {enc:TypeId×Value->H} {w:World} {sp:Nat->Bool} {B:DataW H->Nat}
end
end Go.Proofs.Y
namespace Go.Proofs.Y
open Go Go.Sx Go.ChangeShapes Go.WideShapes Go.ChangeAt Go.RowKit
section
variable {H:Type} {enc:TypeId×Value->H} {w:World} {sp:Nat->Bool} {B:DataW H->Nat}
theorem Z1fa(hB:Bulk B){cs:List Value}{b:Nat}(h:Lv enc Tryz.prog w sp B [(3,.int .i64),(9,.str),(9,.str)] cs b):∃o:Fl,cs=encF o/\o.2.1.length+o.2.2.length+1<=b:=by
 cases h with
 | cons c1 h e1 =>
 cases h with
 | cons c2 h e2 =>
 cases h with
 | cons c3 h e3 =>
 cases h;obtain⟨p,rfl⟩:=c1.1;obtain⟨t,rfl⟩:=c2.1;obtain⟨n,rfl⟩:=c3.1;have q2:=Z5m.str hB Tryz.underlying9 c2;have q3:=Z5m.str hB Tryz.underlying9 c3;exact⟨(p,t,n),rfl,by simp only;omega⟩
theorem Z17i(hB:Bulk B):∀{rows:List (List Value)} {bs:List Nat},bs.length=rows.length->(∀(i:Nat) r b,rows[i]?=some r->bs[i]?=some b->Lv enc Tryz.prog w sp B [(3,.int .i64),(9,.str),(9,.str)] r b) -> ∃l:List Fl,rows=l.map encF/\∀x∈l,x.2.1.length<=bs.sum:=by
 intro rows;induction rows with
 | nil=>exact λ_ _=>⟨[],rfl,by simp⟩
 | cons r rows ih =>
  intro bs hl h
  match bs,hl with
  | b::bs,hl =>
   obtain⟨l,e,hb⟩:=ih (bs:=bs) (by simpa using hl) (λi r' b' h1 h2=>h (i+1) r' b' (by simpa using h1) (by simpa using h2));obtain⟨o,rfl,hob⟩:=Z1fa hB (h 0 r b rfl rfl);refine⟨o::l,by rw[e];rfl,?_⟩;intro x hx;rw[List.sum_cons];rcases List.mem_cons.1 hx with rfl|hx
   ·omega
   ·have:=hb x hx;omega
theorem Z1e4(hB:Bulk B)(h1:Tryz.prog.underlying 48=some (.slice 148))(h2:Z54 Tryz.prog 8 148=some [(3,.int .i64),(9,.str),(9,.str)])(h3:Tryz.prog.cellsOf 148=3){cs:List Value}{b:Nat} (h:Lv enc Tryz.prog w (λ_=>true) B [(9,.str),(4,.bool),(4,.bool),(48,.oth),(48,.oth),(3,.int .i64)] cs b) : ∃(s:Ses) (u v:Value),Value.agg cs.toArray=sesV s u v/\Zx w u s.fl/\Zx w v s.qu/\s.cl.length+s.fl.length+s.qu.length<=b/\(∀x∈s.fl,x.2.1.length<=b)/\(∀x∈s.qu,x.2.1.length<=b):=by
 cases h with
 | cons c1 h e1 =>
 cases h with
 | cons c2 h e2 =>
 cases h with
 | cons c3 h e3 =>
 cases h with
 | cons c4 h e4 =>
 cases h with
 | cons c5 h e5 =>
 cases h with
 | cons c6 h e6 =>
 cases h;obtain⟨k,rfl⟩:=c1.1;obtain⟨c,rfl⟩:=c2.1;obtain⟨j,rfl⟩:=c3.1;obtain⟨p,rfl⟩:=c6.1;have q1:=Z5m.str hB Tryz.underlying9 c1;obtain⟨-,n,d,ps,hx,hb⟩:=c4;obtain⟨rows,bs,rd,bl,lv,bk⟩:=Z8p hB (f:=8) h1 h2 h3 (by decide) hx;have rl:=Zgy hB (by decide) bl lv;obtain⟨l,rfl,hs⟩:=Z17i hB bl lv;obtain⟨-,n',d',ps',hx',hb'⟩:=c5;obtain⟨rows',bs',rd',bl',lv',bk'⟩:=Z8p hB (f:=8) h1 h2 h3 (by decide) hx';have rl':=Zgy hB (by decide) bl' lv';obtain⟨l',rfl,hs'⟩:=Z17i hB bl' lv';rw[qy3]at rl rl';simp only at bk bk';exact⟨⟨k,c,j,l,l',p⟩,_,_,by rw[sesV,rd.sc1,rd'.sc1],rd,rd',by simp only;omega,λx hx=>by have:=hs x hx;omega,λx hx=>by have:=hs' x hx;omega⟩
end
end Go.Proofs.Y
namespace Go.Proofs.Y
open Go Go.Sx Go.ChangeShapes Go.WideShapes Go.ChangeAt Go.RowKit
section
variable {H:Type} {enc:TypeId×Value->H} {w:World} {sp:Nat->Bool} {B:DataW H->Nat}
theorem Z1bh(hB:Bulk B){cs:List Value}{b:Nat}(h:Lv enc Tryz.prog w sp B [(9,.str),(9,.str),(3,.int .i64)] cs b):∃o:Kp,cs=encK o/\o.1.length+o.2.1.length+1<=b:=by
 cases h with
 | cons c1 h e1 =>
 cases h with
 | cons c2 h e2 =>
 cases h with
 | cons c3 h e3 =>
 cases h;obtain⟨p,rfl⟩:=c1.1;obtain⟨t,rfl⟩:=c2.1;obtain⟨n,rfl⟩:=c3.1;have q1:=Z5m.str hB Tryz.underlying9 c1;have q2:=Z5m.str hB Tryz.underlying9 c2;exact⟨(p,t,n),rfl,by simp only;omega⟩
theorem Z1e5(hB:Bulk B):∀{rows:List (List Value)} {bs:List Nat},bs.length=rows.length->(∀(i:Nat) r b,rows[i]?=some r->bs[i]?=some b->Lv enc Tryz.prog w sp B [(9,.str),(9,.str),(3,.int .i64)] r b) -> ∃l:List Kp,rows=l.map encK/\∀x∈l,x.1.length<=bs.sum:=by
 intro rows;induction rows with
 | nil=>exact λ_ _=>⟨[],rfl,by simp⟩
 | cons r rows ih =>
  intro bs hl h
  match bs,hl with
  | b::bs,hl =>
   obtain⟨l,e,hb⟩:=ih (bs:=bs) (by simpa using hl) (λi r' b' h1 h2=>h (i+1) r' b' (by simpa using h1) (by simpa using h2));obtain⟨o,rfl,hob⟩:=Z1bh hB (h 0 r b rfl rfl);refine⟨o::l,by rw[e];rfl,?_⟩;intro x hx;rw[List.sum_cons];rcases List.mem_cons.1 hx with rfl|hx
   ·omega
   ·have:=hb x hx;omega
end
end Go.Proofs.Y
namespace Go.Proofs.Y
open Go Go.Sx Go.ChangeShapes Go.WideShapes Go.ChangeAt Go.RowKit
section
variable {H:Type} {enc:TypeId×Value->H} {w:World} {sp:Nat->Bool} {B:DataW H->Nat}
theorem Z1bi(hB:Bulk B){cs:List Value}{b:Nat}(h:Lv enc Tryz.prog w sp B [(9,.str),(9,.str),(3,.int .i64)] cs b):∃o:Wt,cs=Za o/\o.1.length+o.2.1.length+1<=b:=by
 cases h with
 | cons c1 h e1 =>
 cases h with
 | cons c2 h e2 =>
 cases h with
 | cons c3 h e3 =>
 cases h;obtain⟨p,rfl⟩:=c1.1;obtain⟨t,rfl⟩:=c2.1;obtain⟨n,rfl⟩:=c3.1;have q1:=Z5m.str hB Tryz.underlying9 c1;have q2:=Z5m.str hB Tryz.underlying9 c2;exact⟨(p,t,n),rfl,by simp only;omega⟩
theorem Z1e6(hB:Bulk B):∀{rows:List (List Value)} {bs:List Nat},bs.length=rows.length->(∀(i:Nat) r b,rows[i]?=some r->bs[i]?=some b->Lv enc Tryz.prog w sp B [(9,.str),(9,.str),(3,.int .i64)] r b) -> ∃l:List Wt,rows=l.map Za/\∀x∈l,x.1.length<=bs.sum/\x.2.1.length<=bs.sum:=by
 intro rows;induction rows with
 | nil=>exact λ_ _=>⟨[],rfl,by simp⟩
 | cons r rows ih =>
  intro bs hl h
  match bs,hl with
  | b::bs,hl =>
   obtain⟨l,e,hb⟩:=ih (bs:=bs) (by simpa using hl) (λi r' b' h1 h2=>h (i+1) r' b' (by simpa using h1) (by simpa using h2));obtain⟨o,rfl,hob⟩:=Z1bi hB (h 0 r b rfl rfl);refine⟨o::l,by rw[e];rfl,?_⟩;intro x hx;rw[List.sum_cons];rcases List.mem_cons.1 hx with rfl|hx
   ·omega
   ·have:=hb x hx;omega
end
end Go.Proofs.Y
namespace Go.Proofs.Y
open Go Go.Sx Go.ChangeShapes Go.WideShapes Go.ChangeAt Go.RowKit
section
variable {H:Type} {enc:TypeId×Value->H} {w:World} {sp:Nat->Bool} {B:DataW H->Nat}
theorem Z1e7(hB:Bulk B){cs:List Value}{b:Nat}(h:Lv enc Tryz.prog w sp B [(3,.int .i64),(9,.str),(9,.str),(3,.int .i64)] cs b):∃o:Wat,cs=Z8 o/\o.2.1.length+o.2.2.1.length+2<=b:=by
 cases h with
 | cons c1 h e1 =>
 cases h with
 | cons c2 h e2 =>
 cases h with
 | cons c3 h e3 =>
 cases h with
 | cons c4 h e4 =>
 cases h;obtain⟨p,rfl⟩:=c1.1;obtain⟨t,rfl⟩:=c2.1;obtain⟨n,rfl⟩:=c3.1;obtain⟨k,rfl⟩:=c4.1;have q2:=Z5m.str hB Tryz.underlying9 c2;have q3:=Z5m.str hB Tryz.underlying9 c3;exact⟨(p,t,n,k),rfl,by simp only;omega⟩
theorem Z1e8(hB:Bulk B):∀{rows:List (List Value)} {bs:List Nat},bs.length=rows.length->(∀(i:Nat) r b,rows[i]?=some r->bs[i]?=some b->Lv enc Tryz.prog w sp B [(3,.int .i64),(9,.str),(9,.str),(3,.int .i64)] r b) -> ∃l:List Wat,rows=l.map Z8/\∀x∈l,x.2.2.1.length<=bs.sum:=by
 intro rows;induction rows with
 | nil=>exact λ_ _=>⟨[],rfl,by simp⟩
 | cons r rows ih =>
  intro bs hl h
  match bs,hl with
  | b::bs,hl =>
   obtain⟨l,e,hb⟩:=ih (bs:=bs) (by simpa using hl) (λi r' b' h1 h2=>h (i+1) r' b' (by simpa using h1) (by simpa using h2));obtain⟨o,rfl,hob⟩:=Z1e7 hB (h 0 r b rfl rfl);refine⟨o::l,by rw[e];rfl,?_⟩;intro x hx;rw[List.sum_cons];rcases List.mem_cons.1 hx with rfl|hx
   ·omega
   ·have:=hb x hx;omega
end
end Go.Proofs.Y
namespace Go.Proofs.Y
open Go Go.Sx Go.ChangeShapes Go.WideShapes Go.ChangeAt Go.RowKit
theorem tyk1:Tryz.prog.underlying 22=some (.slice 95):=by kernel_rfl
theorem tyk2:Z54 Tryz.prog 8 95=some [(9,.str),(9,.str),(3,.int .i64)]:=by kernel_rfl
theorem tyk3:Tryz.prog.cellsOf 95=3:=by kernel_rfl
theorem tyw1:Tryz.prog.underlying 23=some (.slice 107):=by kernel_rfl
theorem tyw2:Z54 Tryz.prog 8 107=some [(9,.str),(9,.str),(3,.int .i64)]:=by kernel_rfl
theorem tyw3:Tryz.prog.cellsOf 107=3:=by kernel_rfl
theorem tys1:Tryz.prog.underlying 24=some (.slice 50):=by kernel_rfl
theorem tys2:Z54 Tryz.prog 8 50=some [(9,.str),(4,.bool),(4,.bool),(48,.oth),(48,.oth),(3,.int .i64)]:=by kernel_rfl
theorem tys3:Tryz.prog.cellsOf 50=6:=by kernel_rfl
theorem tyf1:Tryz.prog.underlying 48=some (.slice 148):=by kernel_rfl
theorem tyf2:Z54 Tryz.prog 8 148=some [(3,.int .i64),(9,.str),(9,.str)]:=by kernel_rfl
theorem tyf3:Tryz.prog.cellsOf 148=3:=by kernel_rfl
theorem tya1:Tryz.prog.underlying 25=some (.slice 97):=by kernel_rfl
theorem tya2:Z54 Tryz.prog 8 97=some [(3,.int .i64),(9,.str),(9,.str),(3,.int .i64)]:=by kernel_rfl
theorem tya3:Tryz.prog.cellsOf 97=4:=by kernel_rfl
section
variable {H:Type} {enc:TypeId×Value->H} {w:World} {B:DataW H->Nat}
theorem Z1bj(hB:Bulk B){P:Program}{sp:Nat->Bool}{ls:List (TypeId×Kd)}{cs:List Value}{b:Nat}(h:Lv enc P w sp B ls cs b):ls.length<=b:=by
 induction h with
 | nil b=>exact Nat.zero_le _
 | cons h1 h2 h3 ih =>
  obtain⟨-,n,d,ps,-,h5⟩:=h1;have:=hB.one d;rw[List.length_cons];omega
theorem Z1bk(hB:Bulk B):∀{rows:List (List Value)} {bs:List Nat},bs.length=rows.length->(∀(i:Nat) r b,rows[i]?=some r->bs[i]?=some b->Lv enc Tryz.prog w (λ_=>true) B [(9,.str),(4,.bool),(4,.bool),(48,.oth),(48,.oth),(3,.int .i64)] r b) -> ∃l:List SesX,rows=l.map Zh/\(Z6 l []).holds w/\(∀t∈l,t.1.cl.length+t.1.fl.length+t.1.qu.length<=bs.sum/\(∀x∈t.1.fl,x.2.1.length<=bs.sum)/\∀x∈t.1.qu,x.2.1.length<=bs.sum)/\6*l.length<=bs.sum:=by
 intro rows;induction rows with
 | nil=>exact λ_ _=>⟨[],rfl,Z77 w,by simp,by simp⟩
 | cons r rows ih =>
  intro bs hl h
  match bs,hl with
  | b::bs,hl =>
   obtain⟨l,e,hp,hb,hn⟩:=ih (bs:=bs) (by simpa using hl) (λi r' b' h1 h2=>h (i+1) r' b' (by simpa using h1) (by simpa using h2));have hlv:=h 0 r b rfl rfl;have hle:=Z1bj hB hlv;obtain⟨s,u,v,e2,ru,rv,z1,z2,z3⟩:=Z1e4 hB tyf1 tyf2 tyf3 hlv;have e3:r=Zh (s,u,v):=by have e4:=Value.agg.inj e2;have e5:=congrArg Array.toList e4;exact e5
   refine⟨(s,u,v)::l,by rw[e,e3];rfl,?_,?_,?_⟩
   ·refine Z16 (l:=l) (o:=[]) (λt ht=>?_) (λt ht=>.inl ht) hp;rcases List.mem_cons.1 ht with rfl|ht
    ·exact .inr ⟨ru,rv⟩
    ·exact .inl ht
   ·intro t ht;rw[List.sum_cons];rcases List.mem_cons.1 ht with rfl|ht
    ·exact⟨by simp only;omega,λx hx=>by have:=z2 x hx;omega,λx hx=>by have:=z3 x hx;omega⟩
    ·obtain⟨q1,q2,q3⟩:=hb t ht;exact⟨by omega,λx hx=>by have:=q2 x hx;omega,λx hx=>by have:=q3 x hx;omega⟩
   ·simp only[List.length_cons,List.length_nil]at hle;rw[List.sum_cons,List.length_cons];omega
theorem Z1e9(hB:Bulk B){cs:List Value}{b:Nat}(h:Lv enc Tryz.prog w (λ_=>true) B [(22,.oth),(23,.oth),(24,.oth),(25,.oth),(3,.int .i64)] cs b)(hb:b<=4000000) : ∃x:TelX,Value.agg cs.toArray=bkV x/\x.ox=[]/\RdX w x/\SmlT x.tel:=by
 cases h with
 | cons c1 h e1 =>
 cases h with
 | cons c2 h e2 =>
 cases h with
 | cons c3 h e3 =>
 cases h with
 | cons c4 h e4 =>
 cases h with
 | cons c5 h e5 =>
 cases h;obtain⟨n,rfl⟩:=c5.1;obtain⟨-,n1,d1,ps1,hx1,hb1⟩:=c1;obtain⟨rows1,bs1,rd1,bl1,lv1,bk1⟩:=Z8p hB (f:=8) tyk1 tyk2 tyk3 (by decide) hx1;have rl1:=Zgy hB (by decide) bl1 lv1;obtain⟨l1,rfl,s1⟩:=Z1e5 hB bl1 lv1;obtain⟨-,n2,d2,ps2,hx2,hb2⟩:=c2;obtain⟨rows2,bs2,rd2,bl2,lv2,bk2⟩:=Z8p hB (f:=8) tyw1 tyw2 tyw3 (by decide) hx2;have rl2:=Zgy hB (by decide) bl2 lv2;obtain⟨l2,rfl,s2⟩:=Z1e6 hB bl2 lv2;obtain⟨-,n3,d3,ps3,hx3,hb3⟩:=c3;obtain⟨rows3,bs3,rd3,bl3,lv3,bk3⟩:=Z8p hB (f:=8) tys1 tys2 tys3 (by decide) hx3;obtain⟨l3,rfl,p3,s3,k3⟩:=Z1bk hB bl3 lv3;obtain⟨-,n4,d4,ps4,hx4,hb4⟩:=c4;obtain⟨rows4,bs4,rd4,bl4,lv4,bk4⟩:=Z8p hB (f:=8) tya1 tya2 tya3 (by decide) hx4;have rl4:=Zgy hB (by decide) bl4 lv4;obtain⟨l4,rfl,s4⟩:=Z1e8 hB bl4 lv4;rw[qy3]at rl1 rl2 rl4;simp only at bk1 bk2 bk3 bk4;refine⟨⟨l1,l2,l3,l4,n,[],_,_,_,_,.slice none 0 0⟩,by rw[bkV,rd1.sc1,rd2.sc1,rd3.sc1,rd4.sc1],rfl,⟨rd1,rd2,rd3,p3,rd4⟩,?_⟩;refine⟨λx hx=>by have:=s1 x hx;omega,by show l1.length<_;omega,λx hx=>?_,by show l2.length<_;omega,λs hs=>?_,?_,λx hx=>?_,by show l4.length<_;omega⟩
 ·have:=s2 x hx;exact⟨by omega,by omega⟩
 ·obtain⟨t,ht,rfl⟩:=List.mem_map.1 hs;obtain⟨q1,q2,q3⟩:=s3 t ht;exact⟨λx hx=>by have:=q2 x hx;omega,λx hx=>by have:=q3 x hx;omega,by omega,by omega,by omega⟩
 ·show(l3.map (·.1)).length<_
  rw[qy3];omega
 ·have:=s4 x hx;omega
end
end Go.Proofs.Y
namespace Go.Proofs.Y
open Go Go.Sx Go.ChangeShapes Go.WideShapes Go.ChangeAt Go.RowKit
section
variable {H:Type} {enc:TypeId×Value->H} {w:World} {sp:Nat->Bool} {B:DataW H->Nat}
theorem Z1ea(hB:Bulk B){cs:List Value}{b:Nat}(h:Lv enc Tryz.prog w sp B [(9,.str),(3,.int .i64),(9,.str)] cs b):∃o:Evt,cs=Zkq o/\o.client.length+o.bytes.length+1<=b:=by
 cases h with
 | cons c1 h e1 =>
 cases h with
 | cons c2 h e2 =>
 cases h with
 | cons c3 h e3 =>
 cases h;obtain⟨p,rfl⟩:=c1.1;obtain⟨n,rfl⟩:=c2.1;obtain⟨t,rfl⟩:=c3.1;have q1:=Z5m.str hB Tryz.underlying9 c1;have q2:=Z5m.str hB Tryz.underlying9 c3;exact⟨⟨p,n,t⟩,rfl,by simp only;omega⟩
end
