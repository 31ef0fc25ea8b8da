/-
  Texts of mine, one behind the other. By an AI agent.
-/
import Derived.Test.YtkhakgbnfapifaaGreatDoorX15
import Derived.Test.YtkhakgbnfapifaaGreatDoorX11
import Derived.Test.YtkhakgbnfapifaaGreatDoorX10
import Derived.Test.YtkhakgbnfapifaaGreatDoorX06
set_option linter.unusedSimpArgs false
set_option linter.unusedVariables false
set_option maxHeartbeats 20000000
namespace Go.Proofs.YtkhakgbnfapifaaGreatDoor
open Go Go.Sx
theorem Zfx {rs:List Rd} {i:Nat} {f:Tel->Rd->Tel} {t:Tel} (h:i<rs.length):(rs.take (i+1)).foldl f t=f ((rs.take i).foldl f t) (rs.getD i yD):=by rw[Z14l rs i h,List.foldl_append];rfl
theorem Z7b {ρ:List V} {u v x:Nat} {ks ks' ks'':List Kd} {r r' r'':X}:Z2s ρ [.rd u ks r,.rd v ks' r',.rd x ks'' r'']:=by
 refine List.pairwise_cons.2 ⟨fun e he=>?_,List.pairwise_cons.2 ⟨fun e he=>?_,List.pairwise_singleton _ _⟩⟩
 ·rintro(h|h)
  ·cases h
  ·rcases List.mem_cons.1 he with rfl|he
   ·cases h
   ·rw[qy12.1 he]at h;cases h
 ·rintro(h|h)
  ·cases h
  ·rw[qy12.1 he]at h;cases h
abbrev optX (s:Snt) (v:Value):SntX:=(s,.slice none 0 0,.slice none 0 0,v)
theorem Zyg (q b:Int):(if b<q then b else q)=min q b:=by split<;>omega
set_option maxRecDepth 2000 in
theorem Zjc (w:World) (k:Nat) (x:TelX) (n p:List UInt8) (q:Int) (hr:Rel ⟨Zr (tlA k x) tlH,w⟩ (tlA k x++[.s n,.s p,.i q]) tlH w) (hb:BOk x.tel) (ho:x.ox.length<100000) (hsm:Z2i x.wants) (hp:flE (0,n,p)=0) (hq:0<=q/\q<=1) : Calls Tryz.prog 172 #[.pointer (some ⟨k,0,none⟩),.string ⟨n.toArray⟩,.string ⟨p.toArray⟩,.int .i64 q] w fun e w'=>e=.returned (.tuple #[])/\Z78 w w' k x (fun _=>False) (Za3 n p q x.tel):=by
 refine Z1 (Z3 (ρ:=tlA k x++[.s n,.s p,.i q]) (sxE_ok.joins _) Tryz.func172 Z6b rfl rfl hr rfl rfl ?_) rfl;simp only[Tree.goal,X.P,X.ev,SV.ev,CV.ev,Sc.ev,qz,QA,QB,QC,QD,QE,QF,QG,QH,QI,QJ,QK,QL,QM,Nat.reduceAdd,qy3,qy4,gY0,gY1];have hn60:n.length<=60:=by
  have h1:chkT n false=0:=by
   unfold flE at hp;split at hp
   ·assumption
   ·exact absurd hp (by assumption)
  exact(Z73.1 h1).2.1.1
 intro w1 hr1;refine(c_Of w1 x.wv x.wants n (hr1.at_ 1 rfl) hsm (by omega) hb.wants).mono ?_;rintro e w2 ⟨v0,rfl,a1,a2,am⟩;obtain⟨rs,hrs⟩:∃rs,rs=rdOf n x.wants:=⟨_,rfl⟩
 rw[<- hrs]at a1;have hrl:rs.length<=20:=by rw[hrs];exact Zyd n hb.wants
 have hrd:∀r∈rs,hasS x.tel.sess r.1=true:=by rw[hrs];exact Ze7 hb n
 refine⟨[.v v0,.r (rs.map encY)],rfl,rfl,am,qy5 _,qy2.2 ⟨⟨a1.reads,fun k hk=>.inl (a2 k hk.2)⟩,qy5 _⟩,Z4,?_⟩;clear hr1 a1 a2 am hr;simp only[Tree.goal,X.P,X.ev,SV.ev,CV.ev,Sc.ev,qz,QA,QB,QC,QD,QE,QF,QG,QH,QI,QJ,QK,QL,QM,Nat.reduceAdd,qy3,qy4,gY0,gY1];refine⟨Z6 x.sx x.ox,fun w hr=>hr.at_ 6 rfl,fun j hj=>⟨_,qy6 (i:=6) rfl,rfl,hj⟩,?_⟩;refine⟨fun vs=>∃(i:Nat) (y:TelX),vs=[.i i,.a (Z6 y.sx y.ox),.v y.kv,.r (y.kept.map encK),.v y.wv,.r (y.wants.map Zb),.v y.sv,.r (y.sx.map Zh),.v y.av,.r (y.wat.map Z8),.i y.next,.v y.ov,.r (y.ox.map Z1q)]/\i<=rs.length/\y.tel=(rs.take i).foldl (Z23 n p q) x.tel/\Grew w.heap.size (fun _=>False) x y,
  fun vs=>(rs.length - (vs.getD 0 (.i 0)).toI).toNat,⟨0,x,rfl,by omega,rfl,.refl _ _ _⟩,?_⟩
 rintro _ - ⟨i,y,rfl,hi,htel,hg⟩;simp only[Tree.goal,X.P,X.ev,SV.ev,CV.ev,Sc.ev,qz,QA,QB,QC,QD,QE,QF,QG,QH,QI,QJ,QK,QL,QM,Nat.reduceAdd,qy3,qy4,gY0,gY1];obtain⟨k1,k2,k3,k4,k5,k6,k7⟩:=Ze6 (q:=q) hp (rs.take i) hb (fun r hr=>hrd r (List.mem_of_mem_take hr));rw[<- htel]at k1 k2 k3 k4 k5 k6 k7;have hol:y.ox.length<=x.ox.length+140:=by
  have h1:y.tel.out.length=y.ox.length:=by simp[TelX.tel]
  have h2:x.tel.out.length=x.ox.length:=by simp[TelX.tel]
  have h3:(rs.take i).length<=20:=by simp;omega
  omega
 refine⟨fun h1=>?_,fun h1=>?_⟩
 ·have hi':i<rs.length:=by omega
  have hmem:rs.getD i yD∈rs:=memY rs i hi';have hh0:hasS y.tel.sess (rs.getD i yD).1=true:=by rw[Zks hb.sort k2];exact hrd _ hmem
  obtain⟨hlt,hse⟩:=Zoz hh0;have hok:SesOk (y.sx.getD (idxS y.tel.sess (rs.getD i yD).1) sxD).1:=by rw[hse];exact Zfr k1 hh0
  have hqr:0<=(rs.getD i yD).2/\(rs.getD i yD).2<=1:=by obtain⟨z,hz,-,-,e⟩:=Zms (n:=n) hb.wants (y:=rs.getD i yD) (by show rs.getD i yD∈rdOf n x.wants;rw[<- hrs];exact hmem);have:=(Zmc hb.wants z hz).2.2;omega
  refine⟨by omega,fun b1=>⟨[.i (idxS y.tel.sess (rs.getD i yD).1),.b (hasS y.tel.sess (rs.getD i yD).1)],rfl,fun _ w' hr=>Ze1 w' y.sv y.sx (rs.getD i yD).1 (hr.at_ 5 rfl).reads k1.sort (by have:=k1.ns;rw[Z2j,qy3]at this;omega),?_⟩⟩;generalize hix:idxS y.tel.sess (rs.getD i yD).1=ix at hlt hse hok
  simp only[Tree.goal,X.P,X.ev,SV.ev,CV.ev,Sc.ev,qz,QA,QB,QC,QD,QE,QF,QG,QH,QI,QJ,QK,QL,QM,Nat.reduceAdd,qy3,qy4,gY0,gY1];have hrow:=Z7x hlt;simp only[hrow,Zh,List.getD_cons_zero,List.getD_cons_succ,Value.gI,Value.gB,Value.gS,Z1x];have hS0:(y.sx.getD ix sxD)=(y.sx.getD ix sxD):=rfl;generalize hss:y.sx.getD ix sxD=ss at hok hse
  obtain⟨s,s',s''⟩:=ss;simp only at hok hse ⊢;obtain⟨S,hS⟩:∃S,S=Z2t s n p (min q (rs.getD i yD).2):=⟨_,rfl⟩
  have hcl':S.1.cl=s.cl/\S.1.on=s.on/\S.1.clean=s.clean:=by rw[hS];exact⟨Ztc _ _ _ _,(Ztd _ _ _ _).1,(Ztd _ _ _ _).2⟩
  have hS7:S.2.length<=7:=by rw[hS];exact Zfs n p _ hok.nq
  have hT2:∀u1 u2:Value,Z23 n p q y.tel (rs.getD i yD)={ (TelX.tel { y with sx:=y.sx.set ix (S.1,u1,u2) }) with out:=(TelX.tel { y with sx:=y.sx.set ix (S.1,u1,u2) }).out++(S.2.map pkN).map fun t=>toC (rs.getD i yD).1 t.1 }:=fun u1 u2=>by rw[Zkv,Z23,hix,<- hse,<- hS];simp only[TelX.tel,List.map_set]
  refine⟨by omega,by omega,?_,?_⟩
  ·intro w1 hr1;have hs0:=Zq (hr1.at_ 1 rfl:(Z6 y.sx y.ox).holds w1) (Z5p hlt);rw[hss]at hs0;obtain⟨hs1,hs2⟩:=hs0;rw[Zyg];refine(Z1 (Zrb w1 s s' s'' n p (min q (rs.getD i yD).2) hs1 hs2 hok.next (by have:=hok.nf;omega) (by have:=hok.nq;omega)) rfl).mono ?_;rw[<- hS];rintro e w2 ⟨u1,u2,u3,rfl,g1,g2,g3,g4,g5,g6,gm⟩;refine⟨[.s s.cl,.b s.on,.b s.clean,.v u1,.r (S.1.fl.map encF),.v u2,.r (S.1.qu.map encF),.i S.1.next,.v u3,.r ((S.2.map pkN).map Z3g)],rfl,?_,gm,qy5 _,qy2.2 ⟨⟨g1,fun k hk=>.inl (g4 k hk.2)⟩,qy2.2 ⟨⟨g2,fun k hk=>.inl (g5 k hk.2)⟩,qy2.2 ⟨⟨by show reads w2 u3 kP ((S.2.map pkN).map Z3g);rw[Za6];exact g3,fun k hk=>.inl (g6 k hk.2)⟩,qy5 _⟩⟩⟩,Z7b ..,?_⟩
   ·simp only[Tree.goal,X.P,X.ev,SV.ev,CV.ev,Sc.ev,qz,QA,QB,QC,QD,QE,QF,QG,QH,QI,QJ,QK,QL,QM,Nat.reduceAdd,sesV,hcl'.1,hcl'.2.1,hcl'.2.2]
   have hnw:w.heap.size<=w1.heap.size:=hr1.mod.size;clear hr1;simp only[Tree.goal,X.P,X.ev,SV.ev,CV.ev,Sc.ev,qz,QA,QB,QC,QD,QE,QF,QG,QH,QI,QJ,QK,QL,QM,Nat.reduceAdd,qy3,qy4];intro b2;intro w3 hr3;have hsz3:w.heap.size<=w3.heap.size:=hr3.mod.size;have hA3:(Z6 (y.sx.set ix (S.1,u1,u2)) y.ox).holds w3:=Za8 (hr3.at_ 5 rfl) (hr3.at_ 1 rfl) (hr3.at_ 2 rfl);have hf3:∀j,(Z6 (y.sx.set ix (S.1,u1,u2)) y.ox).fp j->(Z6 y.sx y.ox).fp j\/((S.1.fl.map encF).flatten≠[]/\Z2 u1 j)\/((S.1.qu.map encF).flatten≠[]/\Z2 u2 j):=fun j hj=>(Z5s hj).elim (fun h=>.inl h) (fun h=>.inr h);refine(Z2r (k:=k) (x:={ y with sx:=y.sx.set ix (S.1,u1,u2) }) (F:=(Zu (S.2.map pkN)).fp) (pre:=[]) hr3 46 0 [25,27,30]
    (Z1a w3 k { y with sx:=y.sx.set ix (S.1,u1,u2) } (rs.getD i yD).1 u3 (S.2.map pkN) (Z6j hr3 (by rfl) k { y with sx:=y.sx.set ix (S.1,u1,u2) } (Zu (S.2.map pkN)) _ _ hA3 (fun j hj=>?_) (Za7 _ _) (fun j hj=>absurd hj Z6k) [9,10,11,12,13,1,15,5,0] (by decide) rfl (Zp rfl (Zp rfl (Zp (Z4i rfl ?_) rfl)))) (by rw[qy3];omega) (by show y.ox.length<1000000;omega))
    rfl rfl (Nat.succ_pos _) rfl (fun j hj=>?_)).mono ?_
   ·rcases hf3 j hj with h|h|h
    ·exact⟨_,qy6 (i:=5) rfl,rfl,h⟩
    ·exact⟨_,qy6 (i:=1) rfl,rfl,h⟩
    ·exact⟨_,qy6 (i:=2) rfl,rfl,h⟩
   ·simp only[Tree.goal,X.P,X.ev,SV.ev,CV.ev,Sc.ev,qz,QA,QB,QC,QD,QE,QF,QG,QH,QI,QJ,QK,QL,QM,Nat.reduceAdd,qy3,qy4];rw[<- Z4j];simp only[hcl'.1,hcl'.2.1,hcl'.2.2]
   ·rcases hj with hj|hj|hj|hj
    ·exact⟨_,qy6 (i:=7) rfl,rfl,hj⟩
    ·exact⟨_,qy6 (i:=8) rfl,rfl,hj⟩
    ·rcases hf3 j hj with h|h|h
     ·exact⟨_,qy6 (i:=5) rfl,rfl,h⟩
     ·exact⟨_,qy6 (i:=1) rfl,rfl,h⟩
     ·exact⟨_,qy6 (i:=2) rfl,rfl,h⟩
    ·exact absurd hj Z6k
   rintro e w4 ⟨y2,hy2,hsz4,hgr,rfl,m1,m2,m3,m4⟩;refine⟨tlV y2,rfl,rfl,m1,m2,m3,m4,?_⟩;simp only[Tree.goal,X.P,X.ev,SV.ev,CV.ev,Sc.ev,qz,QA,QB,QC,QD,QE,QF,QG,QH,QI,QJ,QK,QL,QM,Nat.reduceAdd,qy3,qy4];refine⟨by omega,by omega,Z6 y2.sx y2.ox,fun w hr=>hr.at_ 5 rfl,fun j hj=>⟨_,qy6 (i:=5) rfl,rfl,hj⟩,⟨i+1,y2,rfl,by omega,?_,?_⟩,by omega⟩
   ·rw[hy2,<- hT2 u1 u2,htel,Zfx (f:=Z23 n p q) hi']
   ·exact(Zco hg hnw (fun j h=>g4 j h) (fun j h=>g5 j h)).trans hgr hsz3 (fun j h=>absurd h Z6k)
  ·intro b2;intro w1 hr1;have hs0:=Zq (hr1.at_ 2 rfl:(Z6 y.sx y.ox).holds w1) (Z5p hlt);rw[hss]at hs0;obtain⟨hs1,hs2⟩:=hs0;rw[Zyg];refine(Z1 (Zrb w1 s s' s'' n p (min q (rs.getD i yD).2) hs1 hs2 hok.next (by have:=hok.nf;omega) (by have:=hok.nq;omega)) rfl).mono ?_;rw[<- hS];rintro e w2 ⟨u1,u2,u3,rfl,g1,g2,g3,g4,g5,g6,gm⟩;refine⟨[.s s.cl,.b s.on,.b s.clean,.v u1,.r (S.1.fl.map encF),.v u2,.r (S.1.qu.map encF),.i S.1.next,.v u3,.r ((S.2.map pkN).map Z3g)],rfl,?_,gm,qy5 _,qy2.2 ⟨⟨g1,fun k hk=>.inl (g4 k hk.2)⟩,qy2.2 ⟨⟨g2,fun k hk=>.inl (g5 k hk.2)⟩,qy2.2 ⟨⟨by show reads w2 u3 kP ((S.2.map pkN).map Z3g);rw[Za6];exact g3,fun k hk=>.inl (g6 k hk.2)⟩,qy5 _⟩⟩⟩,Z7b ..,?_⟩
   ·simp only[Tree.goal,X.P,X.ev,SV.ev,CV.ev,Sc.ev,qz,QA,QB,QC,QD,QE,QF,QG,QH,QI,QJ,QK,QL,QM,Nat.reduceAdd,sesV,hcl'.1,hcl'.2.1,hcl'.2.2]
   have hnw:w.heap.size<=w1.heap.size:=hr1.mod.size;clear hr1;simp only[Tree.goal,X.P,X.ev,SV.ev,CV.ev,Sc.ev,qz,QA,QB,QC,QD,QE,QF,QG,QH,QI,QJ,QK,QL,QM,Nat.reduceAdd,qy3,qy4];intro w3 hr3;have hsz3:w.heap.size<=w3.heap.size:=hr3.mod.size;have hA3:(Z6 (y.sx.set ix (S.1,u1,u2)) y.ox).holds w3:=Za8 (hr3.at_ 5 rfl) (hr3.at_ 0 rfl) (hr3.at_ 1 rfl);have hf3:∀j,(Z6 (y.sx.set ix (S.1,u1,u2)) y.ox).fp j->(Z6 y.sx y.ox).fp j\/((S.1.fl.map encF).flatten≠[]/\Z2 u1 j)\/((S.1.qu.map encF).flatten≠[]/\Z2 u2 j):=fun j hj=>(Z5s hj).elim (fun h=>.inl h) (fun h=>.inr h);refine(Z2r (k:=k) (x:={ y with sx:=y.sx.set ix (S.1,u1,u2) }) (F:=(Zu (S.2.map pkN)).fp) (pre:=[]) hr3 46 0 [25,27,30]
    (Z1a w3 k { y with sx:=y.sx.set ix (S.1,u1,u2) } (rs.getD i yD).1 u3 (S.2.map pkN) (Z6j hr3 (by rfl) k { y with sx:=y.sx.set ix (S.1,u1,u2) } (Zu (S.2.map pkN)) _ _ hA3 (fun j hj=>?_) (Za7 _ _) (fun j hj=>absurd hj Z6k) [9,10,11,12,13,1,15,4,0] (by decide) rfl (Zp rfl (Zp rfl (Zp (Z4i rfl ?_) rfl)))) (by rw[qy3];omega) (by show y.ox.length<1000000;omega))
    rfl rfl (Nat.succ_pos _) rfl (fun j hj=>?_)).mono ?_
   ·rcases hf3 j hj with h|h|h
    ·exact⟨_,qy6 (i:=5) rfl,rfl,h⟩
    ·exact⟨_,qy6 (i:=0) rfl,rfl,h⟩
    ·exact⟨_,qy6 (i:=1) rfl,rfl,h⟩
   ·simp only[Tree.goal,X.P,X.ev,SV.ev,CV.ev,Sc.ev,qz,QA,QB,QC,QD,QE,QF,QG,QH,QI,QJ,QK,QL,QM,Nat.reduceAdd,qy3,qy4];rw[<- Z4j];simp only[hcl'.1,hcl'.2.1,hcl'.2.2]
   ·rcases hj with hj|hj|hj|hj
    ·exact⟨_,qy6 (i:=7) rfl,rfl,hj⟩
    ·exact⟨_,qy6 (i:=8) rfl,rfl,hj⟩
    ·rcases hf3 j hj with h|h|h
     ·exact⟨_,qy6 (i:=5) rfl,rfl,h⟩
     ·exact⟨_,qy6 (i:=0) rfl,rfl,h⟩
     ·exact⟨_,qy6 (i:=1) rfl,rfl,h⟩
    ·exact absurd hj Z6k
   rintro e w4 ⟨y2,hy2,hsz4,hgr,rfl,m1,m2,m3,m4⟩;refine⟨tlV y2,rfl,rfl,m1,m2,m3,m4,?_⟩;simp only[Tree.goal,X.P,X.ev,SV.ev,CV.ev,Sc.ev,qz,QA,QB,QC,QD,QE,QF,QG,QH,QI,QJ,QK,QL,QM,Nat.reduceAdd,qy3,qy4];refine⟨by omega,by omega,Z6 y2.sx y2.ox,fun w hr=>hr.at_ 5 rfl,fun j hj=>⟨_,qy6 (i:=5) rfl,rfl,hj⟩,⟨i+1,y2,rfl,by omega,?_,?_⟩,by omega⟩
   ·rw[hy2,<- hT2 u1 u2,htel,Zfx (f:=Z23 n p q) hi']
   ·exact(Zco hg hnw (fun j h=>g4 j h) (fun j h=>g5 j h)).trans hgr hsz3 (fun j h=>absurd h Z6k)
 ·have hil:i=rs.length:=by omega
  subst hil;rw[List.take_length]at htel;have hT1:y.tel=Z6i n p q x.tel:=by rw[htel,hrs];rfl
  have hwn:=watN k1.wat;have hw12:y.wat.length<=12:=(Z19.1 k1.wat).1;intro w1 hr1;refine(Zzq w1 y.av y.wat n (hr1.at_ 5 rfl).reads (by omega) hwn).mono ?_;rintro e w2 ⟨v1,v2,rfl,g1,g2,g3,g4,g5,gm⟩;have hnw:w.heap.size<=w1.heap.size:=hr1.mod.size;obtain⟨W,hW⟩:∃W,W=Z2y n y.wat:=⟨_,rfl⟩
  obtain⟨Z,hZ⟩:∃Z,Z=Z4z n y.wat:=⟨_,rfl⟩
  rw[<- hW]at g1;rw[<- hZ]at g2;refine⟨[.v v1,.r (W.map Z8),.v v2,.r (Z.map Z8)],rfl,rfl,gm,qy5 _,qy2.2 ⟨⟨g1,fun k hk=>.inl (g3 k hk)⟩,qy2.2 ⟨⟨g2,fun k hk=>.inl (g4 k hk)⟩,qy5 _⟩⟩,List.pairwise_cons.2 ⟨fun e he _ k h1 h2=>by rw[qy12.1 he]at h2;exact g5 k h1 h2,List.pairwise_singleton _ _⟩,?_⟩;have hZ12:Z.length<=12:=by rw[hZ];exact Ze8 n k1.wat
  have hZn:∀z∈Z,0<=z.2.2.2/\z.2.2.2<=16777215:=fun z hz=>by
   rw[hZ,Z4z]at hz;obtain⟨z0,hz0,rfl⟩:=List.mem_map.1 hz;have:=hwn z0 (List.mem_filter.1 hz0).1;unfold Z7w;split
   ·show 0<=(if 16777215<z0.2.2.2+1 then 0 else z0.2.2.2+1)/\(if 16777215<z0.2.2.2+1 then 0 else z0.2.2.2+1)<=16777215
    split<;>omega
   ·exact this
  clear hr1 g1 g2 g3 g4 g5 gm;obtain⟨T0,hT0⟩:∃T0:Tel,T0=⟨y.kept,y.wants,y.sx.map (·.1),W,y.next,y.ox.map (·.1)⟩:=⟨_,rfl⟩
  have hTB:Za3 n p q x.tel=Z.foldl (Z77 p) T0:=by rw[Za3,<- hT1,hZ,hT0,hW];rfl
  have hn0:0<=T0.next/\T0.next<=65535:=by rw[hT0];exact k1.next
  refine⟨Z6 y.sx y.ox,fun w hr=>hr.at_ 2 rfl,fun j hj=>⟨_,qy6 (i:=2) rfl,rfl,hj⟩,?_⟩;refine⟨fun vs=>∃(i:Nat) (z:TelX),vs=[.i i,.a (Z6 z.sx z.ox),.v z.kv,.r (z.kept.map encK),.v z.wv,.r (z.wants.map Zb),.v z.sv,.r (z.sx.map Zh),.v z.av,.r (z.wat.map Z8),.i z.next,.v z.ov,.r (z.ox.map Z1q)]/\i<=Z.length/\z.tel=(Z.take i).foldl (Z77 p) T0/\Grew w.heap.size (fun _=>False) x z,
   fun vs=>(Z.length - (vs.getD 0 (.i 0)).toI).toNat,⟨0,{ y with wat:=W,av:=v1 },rfl,by omega,by rw[hT0];rfl,⟨hg.kept,hg.want,hg.nest⟩⟩,?_⟩
  rintro _ - ⟨j,z,rfl,hj,hzt,hgz⟩;simp only[Tree.goal,X.P,X.ev,SV.ev,CV.ev,Sc.ev,qz,QA,QB,QC,QD,QE,QF,QG,QH,QI,QJ,QK,QL,QM,Nat.reduceAdd,qy3,qy4,Z35,Z36,Z1s,gW3];obtain⟨q1,q2,q3,q4,q5,q6⟩:=Zte p (Z.take j) T0 hn0;rw[<- hzt]at q1 q2 q3 q4 q5 q6;have hzl:z.ox.length<=x.ox.length+152:=by
   have h1:z.tel.out.length=z.ox.length:=by simp[TelX.tel]
   have h2:T0.out.length=y.ox.length:=by rw[hT0];simp
   have h3:(Z.take j).length<=12:=by simp;omega
   omega
  have hzn:0<=z.next/\z.next<=65535:=q5;refine⟨fun h1=>?_,fun h1 w3 hr=>⟨by trivial,z,?_,?_,hgz⟩⟩
  ·have hj':j<Z.length:=by omega
   have hnum:=hZn (Z.getD j wD_K) (by rw[qy1,qy7 hj'];exact List.getElem_mem hj');refine⟨by omega,fun b1=>?_⟩;refine⟨fun vs=>∃b:Nat,vs=[.n b],⟨⟨by omega,by omega,fun b=>⟨b,rfl⟩⟩,fun b=>⟨by omega,by omega,⟨b,rfl⟩⟩⟩,?_⟩;rintro _ - ⟨b2,rfl⟩;simp only[Tree.goal,X.P,X.ev,SV.ev,CV.ev,Sc.ev,qz,QA,QB,QC,QD,QE,QF,QG,QH,QI,QJ,QK,QL,QM,Nat.reduceAdd,qy3,qy4,Z35,Z36,Z1s,gW3];rw[Ztn _ hzn];obtain⟨m0,hm0⟩:∃m0:Msg,m0=⟨1,69,z.next,(Z.getD j wD_K).2.1,[],p⟩:=⟨_,rfl⟩
   obtain⟨m1,hm1⟩:∃m1:Msg,m1=putM m0 (Z.getD j wD_K).2.2.2:=⟨_,rfl⟩
   refine⟨fun vs=>∃v' u':Value,vs=[.i 0,.i 0,.i 0,.i 0,.i 1,.i 69,.i z.next,.s (Z.getD j wD_K).2.1,.v v',.r (m1.opts.map encO),.s p,.i 0,.i 0,.v u',.r ((z.ox++[optX (toP (Z.getD j wD_K).1 m1) v']).map Z1q)]/\∀k,Z2 v' k->w.heap.size<=k,?_,?_⟩
   ·refine⟨fun b3 b4=>⟨?_,?_⟩,fun b3 b4=>⟨?_,?_⟩⟩
    ·refine⟨[.s (Z1l (Z.getD j wD_K).2.2.2)],rfl,fun _ w' _=>Z8j w' _ hnum,?_⟩;simp only[Tree.goal,X.P,X.ev,SV.ev,CV.ev,Sc.ev,qz,QA,QB,QC,QD,QE,QF,QG,QH,QI,QJ,QK,QL,QM,Nat.reduceAdd,qy3,qy4,Z35,Z36,Z1s,gW3];intro v5;intro w4 hr4;have hn4:=hr4.mod.size;refine(Z1 (Z76 w4 ⟨1,69,z.next,(Z.getD j wD_K).2.1,[],p⟩ (.slice none 0 0) v5 6 [Z1l (Z.getD j wD_K).2.2.2] (Z9 _ _) (hr4.at_ 0 rfl).reads (show 0<1000000000 by decide) (show 1<1000000000 by decide)) rfl).mono ?_;rintro e w5 ⟨v',rfl,a1,a2,am⟩;refine⟨[.i 1,.i 69,.i z.next,.s (Z.getD j wD_K).2.1,.v v',.r (m1.opts.map encO),.s p],rfl,rfl,am,qy5 _,qy2.2 ⟨⟨by rw[hm1,hm0];exact a1,fun k hk=>.inl (a2 k hk.2)⟩,qy5 _⟩,Z4,?_⟩;intro b6 v6;refine⟨by first|omega|(simp only[qy11,qy3,List.length_cons,List.length_nil];omega),fun v7=>⟨v',v7,?_,fun k hk=>Nat.le_trans hn4 (a2 k hk)⟩⟩;(simp only[List.map_append,List.map_cons,List.map_nil];rw[hm1,hm0];rfl)
    ·refine⟨[.s (Z1l (Z.getD j wD_K).2.2.2)],rfl,fun _ w' _=>Z8j w' _ hnum,?_⟩;simp only[Tree.goal,X.P,X.ev,SV.ev,CV.ev,Sc.ev,qz,QA,QB,QC,QD,QE,QF,QG,QH,QI,QJ,QK,QL,QM,Nat.reduceAdd,qy3,qy4,Z35,Z36,Z1s,gW3];refine⟨?_,?_⟩
     ·intro v5;intro w4 hr4;have hn4:=hr4.mod.size;refine(Z1 (Z76 w4 ⟨1,69,z.next,(Z.getD j wD_K).2.1,[],p⟩ (.slice none 0 0) v5 6 [Z1l (Z.getD j wD_K).2.2.2] (Z9 _ _) (hr4.at_ 0 rfl).reads (show 0<1000000000 by decide) (show 1<1000000000 by decide)) rfl).mono ?_;rintro e w5 ⟨v',rfl,a1,a2,am⟩;refine⟨[.i 1,.i 69,.i z.next,.s (Z.getD j wD_K).2.1,.v v',.r (m1.opts.map encO),.s p],rfl,rfl,am,qy5 _,qy2.2 ⟨⟨by rw[hm1,hm0];exact a1,fun k hk=>.inl (a2 k hk.2)⟩,qy5 _⟩,Z4,?_⟩;intro b6 v6;refine⟨by first|omega|(simp only[qy11,qy3,List.length_cons,List.length_nil];omega),fun v7=>⟨v',v7,?_,fun k hk=>Nat.le_trans hn4 (a2 k hk)⟩⟩;(simp only[List.map_append,List.map_cons,List.map_nil];rw[hm1,hm0];rfl)
     ·intro v5;intro w4 hr4;have hn4:=hr4.mod.size;refine(Z1 (Z76 w4 ⟨1,69,z.next,(Z.getD j wD_K).2.1,[],p⟩ (.slice none 0 0) v5 6 [Z1l (Z.getD j wD_K).2.2.2] (Z9 _ _) (hr4.at_ 0 rfl).reads (show 0<1000000000 by decide) (show 1<1000000000 by decide)) rfl).mono ?_;rintro e w5 ⟨v',rfl,a1,a2,am⟩;refine⟨[.i 1,.i 69,.i z.next,.s (Z.getD j wD_K).2.1,.v v',.r (m1.opts.map encO),.s p],rfl,rfl,am,qy5 _,qy2.2 ⟨⟨by rw[hm1,hm0];exact a1,fun k hk=>.inl (a2 k hk.2)⟩,qy5 _⟩,Z4,?_⟩;intro b6 v6;refine⟨by first|omega|(simp only[qy11,qy3,List.length_cons,List.length_nil];omega),fun v7=>⟨v',v7,?_,fun k hk=>Nat.le_trans hn4 (a2 k hk)⟩⟩;(simp only[List.map_append,List.map_cons,List.map_nil];rw[hm1,hm0];rfl)
    ·refine⟨[.s (Z1l (Z.getD j wD_K).2.2.2)],rfl,fun _ w' _=>Z8j w' _ hnum,?_⟩;simp only[Tree.goal,X.P,X.ev,SV.ev,CV.ev,Sc.ev,qz,QA,QB,QC,QD,QE,QF,QG,QH,QI,QJ,QK,QL,QM,Nat.reduceAdd,qy3,qy4,Z35,Z36,Z1s,gW3];intro v5;intro w4 hr4;have hn4:=hr4.mod.size;refine(Z1 (Z76 w4 ⟨1,69,z.next,(Z.getD j wD_K).2.1,[],p⟩ (.slice none 0 0) v5 6 [Z1l (Z.getD j wD_K).2.2.2] (Z9 _ _) (hr4.at_ 0 rfl).reads (show 0<1000000000 by decide) (show 1<1000000000 by decide)) rfl).mono ?_;rintro e w5 ⟨v',rfl,a1,a2,am⟩;refine⟨[.i 1,.i 69,.i z.next,.s (Z.getD j wD_K).2.1,.v v',.r (m1.opts.map encO),.s p],rfl,rfl,am,qy5 _,qy2.2 ⟨⟨by rw[hm1,hm0];exact a1,fun k hk=>.inl (a2 k hk.2)⟩,qy5 _⟩,Z4,?_⟩;intro b6 v6;refine⟨by first|omega|(simp only[qy11,qy3,List.length_cons,List.length_nil];omega),fun v7=>⟨v',v7,?_,fun k hk=>Nat.le_trans hn4 (a2 k hk)⟩⟩;(simp only[List.map_append,List.map_cons,List.map_nil];rw[hm1,hm0];rfl)
    ·refine⟨[.s (Z1l (Z.getD j wD_K).2.2.2)],rfl,fun _ w' _=>Z8j w' _ hnum,?_⟩;simp only[Tree.goal,X.P,X.ev,SV.ev,CV.ev,Sc.ev,qz,QA,QB,QC,QD,QE,QF,QG,QH,QI,QJ,QK,QL,QM,Nat.reduceAdd,qy3,qy4,Z35,Z36,Z1s,gW3];refine⟨?_,?_⟩
     ·intro v5;intro w4 hr4;have hn4:=hr4.mod.size;refine(Z1 (Z76 w4 ⟨1,69,z.next,(Z.getD j wD_K).2.1,[],p⟩ (.slice none 0 0) v5 6 [Z1l (Z.getD j wD_K).2.2.2] (Z9 _ _) (hr4.at_ 0 rfl).reads (show 0<1000000000 by decide) (show 1<1000000000 by decide)) rfl).mono ?_;rintro e w5 ⟨v',rfl,a1,a2,am⟩;refine⟨[.i 1,.i 69,.i z.next,.s (Z.getD j wD_K).2.1,.v v',.r (m1.opts.map encO),.s p],rfl,rfl,am,qy5 _,qy2.2 ⟨⟨by rw[hm1,hm0];exact a1,fun k hk=>.inl (a2 k hk.2)⟩,qy5 _⟩,Z4,?_⟩;intro b6 v6;refine⟨by first|omega|(simp only[qy11,qy3,List.length_cons,List.length_nil];omega),fun v7=>⟨v',v7,?_,fun k hk=>Nat.le_trans hn4 (a2 k hk)⟩⟩;(simp only[List.map_append,List.map_cons,List.map_nil];rw[hm1,hm0];rfl)
     ·intro v5;intro w4 hr4;have hn4:=hr4.mod.size;refine(Z1 (Z76 w4 ⟨1,69,z.next,(Z.getD j wD_K).2.1,[],p⟩ (.slice none 0 0) v5 6 [Z1l (Z.getD j wD_K).2.2.2] (Z9 _ _) (hr4.at_ 0 rfl).reads (show 0<1000000000 by decide) (show 1<1000000000 by decide)) rfl).mono ?_;rintro e w5 ⟨v',rfl,a1,a2,am⟩;refine⟨[.i 1,.i 69,.i z.next,.s (Z.getD j wD_K).2.1,.v v',.r (m1.opts.map encO),.s p],rfl,rfl,am,qy5 _,qy2.2 ⟨⟨by rw[hm1,hm0];exact a1,fun k hk=>.inl (a2 k hk.2)⟩,qy5 _⟩,Z4,?_⟩;intro b6 v6;refine⟨by first|omega|(simp only[qy11,qy3,List.length_cons,List.length_nil];omega),fun v7=>⟨v',v7,?_,fun k hk=>Nat.le_trans hn4 (a2 k hk)⟩⟩;(simp only[List.map_append,List.map_cons,List.map_nil];rw[hm1,hm0];rfl)
   rintro _ - ⟨v',u',rfl,hv'⟩;simp only[Tree.goal,X.P,X.ev,SV.ev,CV.ev,Sc.ev,qz,QA,QB,QC,QD,QE,QF,QG,QH,QI,QJ,QK,QL,QM,Nat.reduceAdd,qy3,qy4,Z35,Z36,Z1s,gW3];have hstep:(Z.take (j+1)).foldl (Z77 p) T0=Z77 p ((Z.take j).foldl (Z77 p) T0) (Z.getD j wD_K):=by rw[Zox wD_K Z j hj',List.foldl_append];rfl
   refine⟨by omega,by omega,Z6 z.sx (z.ox++[optX (toP (Z.getD j wD_K).1 m1) v']),fun w4 hr=>?_,fun i hi=>?_,⟨j+1,{ z with next:=nx_Z z.next,ox:=z.ox++[optX (toP (Z.getD j wD_K).1 m1) v'],ov:=u' },rfl,by omega,?_,?_⟩,by omega⟩
   ·refine Z1j (l:=z.sx) (o:=z.ox) (fun t ht=>.inl ht) (fun t ht=>?_) (hr.at_ 4 rfl);rcases qy13.1 ht with ht|ht
    ·exact .inl ht
    ·rw[qy12.1 ht];exact .inr ⟨Z9 _ _,Z9 _ _,hr.at_ 1 rfl⟩
   ·rcases Zi.1 hi with h5|⟨t,ht,hk⟩
    ·exact⟨_,qy6 (i:=4) rfl,rfl,Zi.2 (.inl h5)⟩
    ·rcases qy13.1 ht with ht|ht
     ·exact⟨_,qy6 (i:=4) rfl,rfl,Zi.2 (.inr ⟨t,ht,hk⟩)⟩
     ·rw[qy12.1 ht]at hk;rcases hk with hk|hk|hk
      ·exact absurd rfl hk.1
      ·exact absurd rfl hk.1
      ·exact⟨_,qy6 (i:=1) rfl,rfl,hk⟩
   ·rw[hstep,<- hzt,hm1,hm0];simp only[TelX.tel,Z77,List.map_append,List.map_cons,List.map_nil]
   ·refine⟨hgz.kept,hgz.want,fun i hi=>?_⟩;rcases Zi.1 hi with h5|⟨t,ht,hk⟩
    ·exact hgz.nest i (Zi.2 (.inl h5))
    ·rcases qy13.1 ht with ht|ht
     ·exact hgz.nest i (Zi.2 (.inr ⟨t,ht,hk⟩))
     ·rw[qy12.1 ht]at hk;rcases hk with hk|hk|hk
      ·exact absurd rfl hk.1
      ·exact absurd rfl hk.1
      ·exact .inl (hv' i hk.2)
  ·have hje:j=Z.length:=by omega
   rw[hje,List.take_length]at hzt;rw[hTB,hzt]
  ·exact(hr.pick [5,6,7,1,9,0,11] (by decide)).conv rfl
end Go.Proofs.YtkhakgbnfapifaaGreatDoor
namespace Go.Proofs.YtkhakgbnfapifaaGreatDoor
open Go Go.Sx Go.Shelf Go.RowKit Go.Lib
set_option maxRecDepth 100000 in
theorem Zto (w:World) (b:Option Addr) (n c i:Nat) (vb:Option Addr) (vc:Nat) (hi:i<=n) (hc:n<=c) (hb:b=none->c=0) : Calls Tryz.prog 209 #[.slice b n c,.int .i64 i,.slice vb 0 vc] w fun e w'=>e=.returned (.slice b n c)/\w'=w:=by
  go_enter Tryz.func209,Tryz.ntmps209
  go_wp2
  all_goals (go_ret;exact⟨rfl,rfl⟩)
set_option maxRecDepth 100000 in
theorem Zxj (w:World) (b:Option Addr) (n c:Nat) (vb:Option Addr) (m vc:Nat) (hm:0<m) (hc:n<=c) (hb:b=none->c=0) (v':Value) (w':World) (hrun:∀ty,(Builtin.append_ #[24,24] ty #[.slice b n c,.slice vb m vc]).run Tryz.prog w=.ok v' w') : Calls Tryz.prog 209 #[.slice b n c,.int .i64 n,.slice vb m vc] w fun e w1=>e=.returned v'/\w1=w':=by
  have hz1:¬((m:Int)=0):=by omega
  go_enter Tryz.func209,Tryz.ntmps209
  go_wp2_with (at_builtin;refine Lib.wpList_append_run _ rfl _ _ _ _ rfl _ _ rfl rfl _ _ (hrun _) ?_)
  all_goals (go_ret;exact⟨rfl,rfl⟩)
set_option maxRecDepth 100000 in
theorem Zp0 (w:World) (g n c i vb m vc:Nat) (cs vs:List Value) (cur vcur cur2:Array Value) (hi:i<n) (hm:0<m) (hroom:n+m<=c) (hc63:c<=9223372036854775807) (hvb:vb≠g) (hg:w.heap[g]?=some (.cells cur 63 (0,0))) (hcs:cur.size=c*6) (hv:w.heap[vb]?=some (.cells vcur 63 (0,0))) (hvl:m*6<=vcur.size) (e1:cs=(cur.toList.drop (i*6)).take ((n - i)*6)) (e2:vs=vcur.toList.take (m*6)) (h1c:∀v∈cs,v.oneCell'=true) (h1v:∀v∈vs,v.oneCell'=true) (e3:cur2.toList=cur.toList.take (i*6)++vs++cs++cur.toList.drop ((n+m)*6)) : Calls Tryz.prog 209 #[.slice (some ⟨g,0,none⟩) n c,.int .i64 i,.slice (some ⟨vb,0,none⟩) m vc] w fun e w'=>e=.returned (.slice (some ⟨g,0,none⟩) (n+m) c)/\w'=w.drew.setRow g cur2:=by
  have hz1:¬((m:Int)=0):=by omega
  have hz2:¬((i:Int)=(n:Int)):=by omega
  have hw1:IntKind.i64.wrap ((i:Int)+(m:Int))=(i:Int)+(m:Int):=by rw[IntKind.wrap_i64];omega
  have hw2:IntKind.i64.wrap ((n:Int)+(m:Int))=(n:Int)+(m:Int):=by rw[IntKind.wrap_i64];omega
  have hb1:(0:Int)<=(i:Int)+(m:Int):=by omega
  have hin:i<=n:=by omega
  have htn:((i:Int)+(m:Int)).toNat=i+m:=by omega
  have htn2:((n:Int)+(m:Int)).toNat=n+m:=by omega
  have hb2:¬(c=i+m):=by omega
  have hb3:(i:Int)<=(n:Int)+(m:Int):=by omega
  have hb4:¬(c=i):=by omega
  have hsz:(Tryz.prog.info? 63).map (·.size)=some 6:=by kernel_rfl
  have hso:∀w,(Go.sizeOf 63).run Tryz.prog w=.ok 6 w:=fun w=>by
    cases hq:Tryz.prog.info? 63 with
    | none=>rw[hq]at hsz;simp at hsz
    | some i=>rw[hq]at hsz;simp at hsz;simp[sizeOf,typeInfo,hq,hsz]
  have hu:=Tryz.underlying24;have hov:∀o lb cb,(callFunc 269 #[.slice (some ⟨vb,0,none⟩) m vc,.slice (some ⟨g,o,none⟩) lb cb]).run Tryz.prog w=.ok (.value (.bool false)) w:=fun o lb cb=>by
    rw[run_callFunc_extern Tryz.func269 (by kernel_rfl) (by kernel_rfl) (by kernel_rfl) (e:=Extern.SlicesOverlaps.overlaps #[24,24] #[4]) (by kernel_rfl),
      Lib.run_overlaps_apart w 24 4 63 hu 6 hso ⟨vb,0,none⟩ ⟨g,o,none⟩ m vc lb cb hvb 63 63 vcur.size cur.size (by simp[World.shape?,hv]) (by simp[World.shape?,hg]) (by omega) (by simp[World.frozen?,hv]) (by simp[World.frozen?,hv])]
    rfl
  have hcl:cs.length=(n - i)*6:=by rw[e1];simp;omega
  have hvl2:vs.length=m*6:=by rw[e2];simp;omega
  have hgd:w.drew.heap[g]?=some (.cells cur 63 (0,0)):=hg;have hcp1:∀ty dc sc,(Builtin.copy_ #[24,24] ty #[.slice (some ⟨g,(i+m)*6,none⟩) (n+m - (i+m)) dc,.slice (some ⟨g,i*6,none⟩) (n+m - i) sc]).run Tryz.prog w.drew=.ok (goInt ((n - i:Nat):Int)) (w.drew.setRow g (cur.toList.take ((i+m)*6)++cs++cur.toList.drop ((i+m)*6+cs.length)).toArray):=fun ty dc sc =>
    Zc (P:=Tryz.prog) w.drew 24 24 ty 63 6 g ((i+m)*6) (n+m - (i+m)) dc ⟨g,i*6,none⟩ (n+m - i) sc cur 63 cs (n - i) (by omega) hu hsz hgd hcl (fun j v hj=>by
      rw[e1,List.getElem?_take]at hj;split at hj
      . rw[Addr.add_lit];simp only[World.cell?,hgd];simpa using hj
      . cases hj) (by rw[hcl];omega) h1c
  obtain⟨cur1,hcur1⟩:∃cur1:Array Value,cur1=(cur.toList.take ((i+m)*6)++cs++cur.toList.drop ((i+m)*6+cs.length)).toArray:=⟨_,rfl⟩
  rw[<- hcur1]at hcp1;have hs1:cur1.size=cur.size:=by rw[hcur1];simp only[List.size_toArray,qy11,List.length_take,List.length_drop,Array.length_toList,hcl];omega
  have hcp2:∀(W:World),W.heap=(w.drew.setRow g cur1).heap->∀ty dc,(Builtin.copy_ #[24,24] ty #[.slice (some ⟨g,i*6,none⟩) (n+m - i) dc,.slice (some ⟨vb,0,none⟩) m vc]).run Tryz.prog W=.ok (goInt m) (W.setRow g cur2):=fun W hW ty dc=>by
    have hgW:W.heap[g]?=some (.cells cur1 63 (0,0)):=by rw[hW];exact setRow_heap _ _ _ _ _ _ hgd
    have hvW:W.heap[vb]?=some (.cells vcur 63 (0,0)):=by rw[hW,setRow_other _ _ _ _ hvb];exact hv
    have:=Zc (P:=Tryz.prog) W 24 24 ty 63 6 g (i*6) (n+m - i) dc ⟨vb,0,none⟩ m vc cur1 63 vs m (by omega) hu hsz hgW hvl2 (fun j v hj=>by
      rw[e2,List.getElem?_take]at hj;split at hj
      . rw[Addr.add_lit];simp only[World.cell?,hvW,Nat.zero_add];simpa using hj
      . cases hj) (by rw[hvl2,hs1];omega) h1v
    rw[this];congr 2
    apply Array.toList_inj.1;rw[e3,hcur1];simp only[List.toList_toArray];rw[Zgv cur.toList cs vs (i*6) ((i+m)*6) ((n+m)*6) (by rw[hvl2];omega) (by rw[hcl];omega) (by simp;omega)]
  have mixed:Tryz.prog.follows Departure.mixedOrders=true:=by kernel_rfl
  go_enter Tryz.func209,Tryz.ntmps209
  go_wp2_with (simp only[hov])
  go_region_law_o (refine step_copy_runI rfl _ _ 24 24 rfl _ _ (by simp[Act.eval,Act.put]) (by simp[Act.eval,Act.put]) (hcp1 _ _ _) ?_)
  go_wp2_with (at_builtin;refine wpList_copy_runI _ rfl _ _ 24 24 rfl _ _ rfl rfl (hcp2 _ rfl _ _) ?_)
  go_ret
  first|exact⟨rfl,rfl⟩|exact⟨rfl,by rw[setRow_setRow]⟩
set_option maxRecDepth 100000 in
theorem Ztp (w:World) (g n c i vb m vc:Nat) (hd cs vs:List Value) (cur vcur:Array Value) (hi:i<n) (hm:0<m) (hnc:n<=c) (hroom:c<n+m) (hbig:(n+m)*80<=140737488355328) (hg:w.heap[g]?=some (.cells cur 63 (0,0))) (hcs:cur.size=c*6) (hv:w.heap[vb]?=some (.cells vcur 63 (0,0))) (hvl:m*6<=vcur.size) (e0:hd=cur.toList.take (i*6)) (e1:cs=(cur.toList.drop (i*6)).take ((n - i)*6)) (e2:vs=vcur.toList.take (m*6)) (h1c:∀v∈cs,v.oneCell'=true) (h1v:∀v∈vs,v.oneCell'=true) : Calls Tryz.prog 209 #[.slice (some ⟨g,0,none⟩) n c,.int .i64 i,.slice (some ⟨vb,0,none⟩) m vc] w fun e w'=>∃(G:Nat) (cur3:Array Value),e=.returned (.slice (some ⟨w.heap.size,0,none⟩) (n+m) G)/\n+m<=G/\G<=maxLen/\cur3.size=G*6/\cur3.toList.take ((n+m)*6)=hd++vs++cs /\ w'.heap[w.heap.size]?=some (.cells cur3 63 (0,0))/\w.grownBy w' none:=by
  have hz1:¬((m:Int)=0):=by omega
  have hz2:¬((i:Int)=(n:Int)):=by omega
  have hz3:(c:Int)<(n:Int)+(m:Int):=by omega
  have hw1:IntKind.i64.wrap ((i:Int)+(m:Int))=(i:Int)+(m:Int):=by rw[IntKind.wrap_i64];omega
  have hb1:(0:Int)<=(i:Int)+(m:Int):=by omega
  have hin:i<=n:=by omega
  have htn:((i:Int)+(m:Int)).toNat=i+m:=by omega
  have hb3:(i:Int)<=(n:Int):=by omega
  have hu:=Tryz.underlying24;have hsz:(Tryz.prog.info? 63).map (·.size)=some 6:=by kernel_rfl
  obtain⟨i0,hi0⟩:∃i0,Tryz.prog.info? 63=some i0:=by
    cases hq:Tryz.prog.info? 63 with
    | none=>rw[hq]at hsz;simp at hsz
    | some i=>exact⟨i,rfl⟩
  have hk:i0.size=6:=by rw[hi0]at hsz;simpa using hsz
  have hby:i0.bytes=80:=by
    have:(Tryz.prog.info? 63).map (·.bytes)=some 80:=by kernel_rfl
    rw[hi0]at this;simpa using this
  obtain⟨z,hz,hzs⟩:∃z,i0.zero=some z/\z.cells.size=6:=by
    have:(Tryz.prog.info? 63).bind (fun i=>i.zero.map (fun z=>z.cells.size))=some 6:=by kernel_rfl
    rw[hi0]at this;simp only[Option.bind_some,Option.map_eq_some_iff]at this;exact this
  have hbw:g<w.heap.size:=(Array.getElem?_eq_some_iff.1 hg).1;have hvw:vb<w.heap.size:=(Array.getElem?_eq_some_iff.1 hv).1;have hkk:(n:Int)+(m:Int) - (i:Int)=((n+m - i:Nat):Int):=by omega
  have hik:i+(n+m - i)=n+m:=by omega
  have hgd:w.drew.heap[g]?=some (.cells cur 63 (0,0)):=hg;have hhl:hd.length=i*6:=by rw[e0];simp;omega
  have hold:(Builtin.firstCells i0.size i (.slice (some ⟨g,0,none⟩) i c)).run Tryz.prog w.drew=.ok hd.toArray w.drew:=by
    rw[hk];exact run_firstCells_some w.drew 6 i ⟨g,0,none⟩ i c hd hhl (fun j v hj=>by
      rw[Addr.add_lit];rw[e0,List.getElem?_take]at hj;split at hj
      . simp only[World.cell?,hgd,Nat.zero_add];simpa using hj
      . cases hj)
  have hrz:∀ty,(Builtin.append_ #[24,3] ty #[.slice (some ⟨g,0,none⟩) i c,.int .i64 ((n:Int)+(m:Int) - (i:Int))]).run Tryz.prog w =
      .ok (.slice (some ⟨w.heap.size,0,none⟩) (n+m) (grownCap w (n+m) c 63)) (w.drew.alloc (.cells (hd.toArray++Builtin.zeroCells z.cells (n+m - i)++Builtin.zeroCells z.cells (grownCap w (n+m) c 63 - (n+m))) 63)):=fun ty=>by
    have h:=Lib.run_append_grow_zeros w 24 3 ty 63 i0 z .i64 .i64 hu Tryz.underlying3 hi0 hz (some ⟨g,0,none⟩) i c hd hold (n+m - i) (by omega) (by omega) (by omega) (by omega) (by rw[hby];omega) (by rw[hby,hik];exact growslice_fits hroom hbig);rw[hik]at h;rw[hkk];exact h
  obtain⟨G,hG⟩:∃G,G=grownCap w (n+m) c 63:=⟨_,rfl⟩
  obtain⟨ROW,hROW⟩:∃ROW:Array Value,ROW=hd.toArray++Builtin.zeroCells z.cells (n+m - i)++Builtin.zeroCells z.cells (G - (n+m)):=⟨_,rfl⟩
  rw[<- hG]at hrz;rw[<- hROW]at hrz;have hGn:n+m<=G:=by rw[hG];exact grownCap_ge w _ _ _
  have hG63:G<=maxLen:=by have:=grownCap_le_maxLen w (n+m) c 63 (by unfold maxLen;omega);rw[<- hG]at this;exact this
  have hG63':G<=9223372036854775807:=hG63;have hRl:ROW.size=G*6:=by rw[hROW];simp only[Array.size_append,List.size_toArray,Z1t,hzs,hhl];omega
  have hRt:ROW.toList.take (i*6)=hd:=by rw[hROW];simp only[Array.toList_append,List.toList_toArray,List.append_assoc];rw[List.take_append_of_le_length (by omega),List.take_of_length_le (by omega)]
  have hcl:cs.length=(n - i)*6:=by rw[e1];simp;omega
  have hvl2:vs.length=m*6:=by rw[e2];simp;omega
  obtain⟨W1,hW1⟩:∃W1,W1=w.drew.alloc (.cells ROW 63):=⟨_,rfl⟩
  rw[<- hW1]at hrz;have hN:W1.heap[w.heap.size]?=some (.cells ROW 63 (0,0)):=by rw[hW1];exact heap_alloc_new w.drew _
  have hO:∀k,k<w.heap.size->W1.heap[k]?=w.heap[k]?:=fun k hk=>by rw[hW1];exact heap_alloc_old w.drew _ hk
  obtain⟨cur2,hcur2⟩:∃cur2:Array Value,cur2=(ROW.toList.take (i*6)++vs++ROW.toList.drop (i*6+vs.length)).toArray:=⟨_,rfl⟩
  obtain⟨cur3,hcur3⟩:∃cur3:Array Value,cur3=(cur2.toList.take ((i+m)*6)++cs++cur2.toList.drop ((i+m)*6+cs.length)).toArray:=⟨_,rfl⟩
  have hs2:cur2.size=ROW.size:=by rw[hcur2];simp only[List.size_toArray,qy11,List.length_take,List.length_drop,Array.length_toList,hvl2];omega
  have hs3:cur3.size=ROW.size:=by rw[hcur3];simp only[List.size_toArray,qy11,List.length_take,List.length_drop,Array.length_toList,hcl,hs2];omega
  have ht3:cur3.toList.take ((n+m)*6)=hd++vs++cs:=by rw[hcur3,hcur2];simp only[List.toList_toArray];rw[hRt,Zgw hd vs cs _ ((i+m)*6) (by omega)];rw[List.take_append_of_le_length (by simp only[qy11];omega),List.take_of_length_le (by simp only[qy11];omega)]
  have hcpA:∀(W:World),W.heap=W1.heap->∀ty dc,(Builtin.copy_ #[24,24] ty #[.slice (some ⟨w.heap.size,i*6,none⟩) (n+m - i) dc,.slice (some ⟨vb,0,none⟩) m vc]).run Tryz.prog W=.ok (goInt m) (W.setRow w.heap.size cur2):=fun W hW ty dc=>by
    rw[hcur2];exact Zc (P:=Tryz.prog) W 24 24 ty 63 6 w.heap.size (i*6) (n+m - i) dc ⟨vb,0,none⟩ m vc ROW 63 vs m (by omega) hu hsz (by rw[hW];exact hN) hvl2 (fun j v hj=>by
      rw[e2,List.getElem?_take]at hj;split at hj
      . rw[Addr.add_lit];simp only[World.cell?,hW,hO vb hvw,hv,Nat.zero_add];simpa using hj
      . cases hj) (by rw[hvl2,hRl];omega) h1v
  have hcpB:∀(W:World),W.heap=(W1.setRow w.heap.size cur2).heap->∀ty dc sc,(Builtin.copy_ #[24,24] ty #[.slice (some ⟨w.heap.size,(i+m)*6,none⟩) (n+m - (i+m)) dc,.slice (some ⟨g,i*6,none⟩) (n - i) sc]).run Tryz.prog W=.ok (goInt ((n - i:Nat):Int)) (W.setRow w.heap.size cur3):=fun W hW ty dc sc=>by
    rw[hcur3];exact Zc (P:=Tryz.prog) W 24 24 ty 63 6 w.heap.size ((i+m)*6) (n+m - (i+m)) dc ⟨g,i*6,none⟩ (n - i) sc cur2 63 cs (n - i) (by omega) hu hsz (by rw[hW];exact setRow_heap _ _ _ _ _ _ hN) hcl (fun j v hj=>by
      rw[e1,List.getElem?_take]at hj;split at hj
      . rw[Addr.add_lit];simp only[World.cell?,hW,setRow_other _ _ _ _ (Nat.ne_of_lt hbw),hO g hbw,hg];simpa using hj
      . cases hj) (by rw[hcl,hs2,hRl];omega) h1c
  have hGi:¬(G=i):=by omega
  have hGim:¬(G=i+m):=by omega
  have hci:¬(c=i):=by omega
  have hfin:∀W:World,W.heap=(W1.setRow w.heap.size cur2).heap->W.os=w.os->W.tape=w.tape->W.output=w.output->∃(G':Nat) (cur4:Array Value),Ending.returned (.slice (some ⟨w.heap.size,0,none⟩) (n+m) G)=.returned (.slice (some ⟨w.heap.size,0,none⟩) (n+m) G')/\n+m<=G'/\G'<=maxLen/\cur4.size=G'*6/\cur4.toList.take ((n+m)*6)=hd++vs++cs /\
      (W.setRow w.heap.size cur3).heap[w.heap.size]?=some (.cells cur4 63 (0,0))/\w.grownBy (W.setRow w.heap.size cur3) none:=by
    intro W hW ho ht hou;refine⟨G,cur3,rfl,hGn,hG63,by rw[hs3,hRl],ht3,setRow_heap _ _ _ _ _ _ (by rw[hW];exact setRow_heap _ _ _ _ _ _ hN),⟨ho,ht,hou,?_,fun k hk _=>?_⟩⟩
    . rw[setRow_size,hW,setRow_size,hW1];exact Nat.le_of_lt (by show w.heap.size<(w.heap.push _).size;rw[Array.size_push];omega)
    . rw[setRow_other _ _ _ _ (by omega),hW,setRow_other _ _ _ _ (by omega)];exact hO k hk
  subst hW1;have mixed:Tryz.prog.follows Departure.mixedOrders=true:=by kernel_rfl
  have hE1:((w.alloc (.cells ROW 63)).drew).heap=(w.drew.alloc (.cells ROW 63)).heap:=rfl;have hF1:(((w.alloc (.cells ROW 63)).drew.setRow w.heap.size cur2).drew).heap=((w.drew.alloc (.cells ROW 63)).setRow w.heap.size cur2).heap:=rfl;clear hkk hik hold hROW hG hRl hcur2 hcur3 hs2 hs3 ht3 hRt;go_enter Tryz.func209,Tryz.ntmps209
  go_wp2_with (first
    | (at_builtin;refine Lib.wpList_append_run _ rfl _ _ _ _ rfl _ _ rfl rfl _ _ (hrz _) ?_)
    | (at_builtin;refine wpList_copy_runI _ rfl _ _ 24 24 rfl _ _ rfl rfl (hcpA _ hE1 _ _) ?_)
    | (at_builtin;refine wpList_copy_runI _ rfl _ _ 24 24 rfl _ _ rfl rfl (hcpB _ hF1 _ _ _) ?_))
  go_region_law_o (refine step_copy_runI rfl _ _ 24 24 rfl (.slice (some ⟨w.heap.size,(i+m)*6,none⟩) (n+m - (i+m)) (G - (i+m))) (.slice (some ⟨g,i*6,none⟩) (n - i) (c - i)) (by simp[Act.eval,Act.put]) (by simp[Act.eval,Act.put]) (hcpB _ hF1 3 (G - (i+m)) (c - i)) ?_)
  go_wp2
  go_ret
  exact hfin _ rfl rfl rfl rfl
theorem Ztq (w:World) (s v:Value) (i:Nat) (R V:List (List Value)) (hs:owns w s 63 [.str,.bool,.bool,.oth,.oth,.int .i64] R) (hv:owns w v 63 [.str,.bool,.bool,.oth,.oth,.int .i64] V) (hne:∀k,Z2 s k->Z2 v k->False) (hi:i<=R.length) (hb:(R.length+V.length)*80<=140737488355328) : Calls Tryz.prog 209 #[s,.int .i64 i,v] w fun e w'=>∃v',e=.returned v'/\Zfd w w' s v' 63 [.str,.bool,.bool,.oth,.oth,.int .i64] (R.take i++V++R.drop i):=by
  have hs':=hs;have hv':=hv;obtain⟨hk1,hl1,ho⟩:=hs;obtain⟨hk2,hl2,hov⟩:=hv;have hu:=Tryz.underlying24;have hrl1:∀r∈R,r.length=6:=fun r hr=>(hk1 r hr).length;have hrl2:∀r∈V,r.length=6:=fun r hr=>(hk2 r hr).length;obtain⟨inf,hinf⟩:∃i0,Tryz.prog.info? 63=some i0:=by
    have:(Tryz.prog.info? 63).isSome=true:=by kernel_rfl
    exact Option.isSome_iff_exists.1 this
  have hk:inf.size=6:=by
    have:(Tryz.prog.info? 63).map (·.size)=some 6:=by kernel_rfl
    rw[hinf]at this;simpa using this
  have hby:inf.bytes=80:=by
    have:(Tryz.prog.info? 63).map (·.bytes)=some 80:=by kernel_rfl
    rw[hinf]at this;simpa using this
  obtain⟨z,hz,hzs⟩:∃z,inf.zero=some z/\z.cells.size=6:=by
    have:(Tryz.prog.info? 63).bind (fun i=>i.zero.map (fun z=>z.cells.size))=some 6:=by kernel_rfl
    rw[hinf]at this;simp only[Option.bind_some,Option.map_eq_some_iff]at this;exact this
  have hbase:∀{v:Value} {n:Nat} {xs:List Value},((v=.slice none 0 0/\n=0)\/∃g cap cur,v=.slice (some ⟨g,0,none⟩) n cap/\0<=g/\w.heap[g]?=some (.cells cur 63 (0,0))/\n<=cap/\cap<=maxLen/\cur.size=cap*6/\cur.toList.take (n*6)=xs)->∃b c,v=.slice b n c/\n<=c/\(b=none->c=0):=by
    intro v n xs h;rcases h with ⟨rfl,rfl⟩|⟨g,cap,cur,rfl,-,-,h,-⟩
    . exact⟨none,0,rfl,Nat.le_refl _,fun _=>rfl⟩
    . exact⟨some ⟨g,0,none⟩,cap,rfl,h,fun h=>by cases h⟩
  by_cases hV:V=[]
  . subst hV;obtain⟨b,c,rfl,hc1,hc2⟩:=hbase ho;obtain⟨vb,vc,rfl,-,-⟩:=hbase hov;refine(Zto w b R.length c i vb vc hi hc1 hc2).mono ?_;rintro e w' ⟨rfl,rfl⟩;exact⟨_,rfl,by simpa using hs',fun k hk=>.inl hk,Z7i _ _⟩
  have hVl:0<V.length:=List.length_pos_iff.2 hV;by_cases hin:i=R.length
  . subst hin;obtain⟨b,c,rfl,hc1,hc2⟩:=hbase ho;obtain⟨vb,vc,rfl,-,-⟩:=hbase hov;obtain⟨v',w',h1,h2,h3,h4⟩:=Z5g (ks:=[.str,.bool,.bool,.oth,.oth,.int .i64]) (ty:=24) hu hinf hz hk hzs hby (by decide) hs' hv'.reads hb (by decide);have hrun:∀ty,(Builtin.append_ #[24,24] ty #[.slice b R.length c,.slice vb V.length vc]).run Tryz.prog w=.ok v' w':=fun ty=>h1;refine(Zxj w b R.length c vb V.length vc hVl hc1 hc2 v' w' hrun).mono ?_;rintro e w1 ⟨rfl,rfl⟩;exact⟨_,rfl,by simpa using h2,h4,h3⟩
  have hin:i<R.length:=by omega
  rcases ho with ⟨-,hn⟩|⟨g,c,cur,rfl,-,hg,hnc,hcm,hcs,htk⟩
  . omega
  rcases hov with ⟨-,hn⟩|⟨vb,vc,vcur,rfl,-,hvg,hvn,-,hvs,hvt⟩
  . omega
  replace hcs:cur.size=c*6:=hcs;replace hvs:vcur.size=vc*6:=hvs;replace htk:cur.toList.take (R.length*6)=R.flatten:=htk;replace hvt:vcur.toList.take (V.length*6)=V.flatten:=hvt;replace hl1:R.flatten.length=R.length*6:=hl1;have hcl2:cur.toList.length=c*6:=by rw[Array.length_toList];exact hcs
  replace hl2:V.flatten.length=V.length*6:=hl2;have hvb:vb≠g:=fun e=>hne g rfl (by rw[<- e];rfl);have t1:cur.toList.take (i*6)=(R.take i).flatten:=by rw[<- Z1n i hrl1,<- htk,List.take_take,Nat.min_eq_left (by omega)]
  have t2:(cur.toList.drop (i*6)).take ((R.length - i)*6)=(R.drop i).flatten:=by rw[<- Z1o i hrl1,<- htk,List.drop_take,Nat.sub_mul]
  have o1:∀x∈(R.drop i).flatten,x.oneCell'=true:=Z32 fun r hr=>hk1 r (List.mem_of_mem_drop hr);have o2:∀x∈V.flatten,x.oneCell'=true:=Z32 hk2;have hrows:∀r∈R.take i++V++R.drop i,rowOk [.str,.bool,.bool,.oth,.oth,.int .i64] r:=by
    intro r hr;simp only[qy13]at hr;rcases hr with (hr|hr)|hr
    . exact hk1 r (List.mem_of_mem_take hr)
    . exact hk2 r hr
    . exact hk1 r (List.mem_of_mem_drop hr)
  have hlen:(R.take i++V++R.drop i).length=R.length+V.length:=by simp;omega
  have hfl:(R.take i++V++R.drop i).flatten.length=(R.length+V.length)*6:=by have:=Za (n:=6) (fun r hr=>(hrows r hr).length);rw[hlen]at this;exact this
  by_cases hroom:R.length+V.length<=c
  . obtain⟨cur2,hcur2⟩:∃cur2:Array Value,cur2=(cur.toList.take (i*6)++V.flatten++(R.drop i).flatten++cur.toList.drop ((R.length+V.length)*6)).toArray:=⟨_,rfl⟩
    refine(Zp0 w g R.length c i vb V.length vc (R.drop i).flatten V.flatten cur vcur cur2 hin hVl hroom hcm hvb hg hcs hvg (by omega) t2.symm hvt.symm o1 o2 (by rw[hcur2])).mono ?_;rintro e w' ⟨rfl,rfl⟩;have hgd:w.drew.heap[g]?=some (.cells cur 63 (0,0)):=hg;refine⟨_,rfl,⟨hrows,?_,.inr ⟨g,c,cur2,by rw[hlen],Nat.zero_le _,setRow_heap _ _ _ _ _ _ hgd,by omega,hcm,?_,?_⟩⟩,fun k hk=>.inl hk,⟨rfl,rfl,rfl,by rw[setRow_size];exact Nat.le_refl _,fun k hk hkr=>setRow_other _ _ _ _ (fun e=>hkr (by rw[e];rfl))⟩⟩
    . rw[hfl,hlen];rfl
    . show cur2.size=c*6
      rw[hcur2];have:(cur.toList.take (i*6)++V.flatten++(R.drop i).flatten).length=(R.length+V.length)*6:=by rw[t1,<- hfl];simp[List.flatten_append]
      rw[List.size_toArray,qy11,this,List.length_drop,hcl2];omega
    . have:cur.toList.take (i*6)++V.flatten++(R.drop i).flatten=(R.take i++V++R.drop i).flatten:=by
        rw[t1];simp[List.flatten_append]
      show cur2.toList.take (_*6)=_
      rw[hcur2,List.toList_toArray,this,hlen,List.take_append_of_le_length (by omega),List.take_of_length_le (by omega)]
  . refine(Ztp w g R.length c i vb V.length vc (R.take i).flatten (R.drop i).flatten V.flatten cur vcur hin hVl hnc (by omega) (by omega) hg hcs hvg (by omega) t1.symm t2.symm hvt.symm o1 o2).mono ?_;rintro e w' ⟨G,cur3,rfl,q1,q2,q3,q4,q5,q6⟩;refine⟨_,rfl,⟨hrows,?_,.inr ⟨w.heap.size,G,cur3,by rw[hlen],Nat.zero_le _,q5,by omega,q2,q3,?_⟩⟩,fun k hk=>.inr ?_,⟨q6.os,q6.tape,q6.output,q6.size,fun k hk _=>q6.block k hk (by simp)⟩⟩
    . rw[hfl,hlen];rfl
    . rw[hlen]
      show cur3.toList.take ((R.length+V.length)*6)=_
      rw[q4];simp[List.flatten_append]
    . have:w.heap.size=k:=Option.some.inj hk;omega
set_option maxRecDepth 100000 in
theorem Z11a (w:World) (g n c i j:Nat) (cur:Array Value) (hij:i<j) (hj:j<=n) (hnc:n<=c) (hc63:c<=9223372036854775807) (hg:w.heap[g]?=some (.cells cur 63 (0,0))) (hcs:cur.size=c*6) (h1c:∀v∈cur.toList.take (n*6),v.oneCell'=true) : Calls Tryz.prog 134 #[.slice (some ⟨g,0,none⟩) n c,.int .i64 i,.int .i64 j] w fun e w'=>∃cur2:Array Value,e=.returned (.slice (some ⟨g,0,none⟩) (i+(n - j)) c)/\cur2.size=cur.size /\ cur2.toList.take ((i+(n - j))*6)=cur.toList.take (i*6)++(cur.toList.drop (j*6)).take ((n - j)*6)/\w'=w.drew.setRow g cur2:=by
  have hz1:¬((i:Int)=(j:Int)):=by omega
  have hu:=Tryz.underlying24;obtain⟨inf,hinf⟩:∃i0,Tryz.prog.info? 63=some i0:=by
    have:(Tryz.prog.info? 63).isSome=true:=by kernel_rfl
    exact Option.isSome_iff_exists.1 this
  have hk:inf.size=6:=by
    have:(Tryz.prog.info? 63).map (·.size)=some 6:=by kernel_rfl
    rw[hinf]at this;simpa using this
  obtain⟨z,hz,hzs⟩:∃z,inf.zero=some z/\(z.cells.size=6/\z.cells.toList.all (fun v=>v.oneCell')=true):=by
    have:(Tryz.prog.info? 63).bind (fun i=>i.zero.map (fun z=>(z.cells.size,z.cells.toList.all (fun v=>v.oneCell'))))=some (6,true):=by kernel_rfl
    rw[hinf]at this;simp only[Option.bind_some,Option.map_eq_some_iff,Prod.mk.injEq]at this;exact this
  obtain⟨hzs,hz1c⟩:=hzs;have hcl:cur.toList.length=c*6:=by rw[Array.length_toList];exact hcs
  obtain⟨cs,hcs1⟩:∃cs,cs=(cur.toList.drop (j*6)).take ((n - j)*6):=⟨_,rfl⟩
  have hl:cs.length=(n - j)*6:=by rw[hcs1];simp only[List.length_take,List.length_drop];omega
  have hone:∀v∈cs,v.oneCell'=true:=fun v hv=>h1c v (by
    rw[hcs1]at hv;have e:cur.toList.take (n*6)=cur.toList.take (j*6)++(cur.toList.drop (j*6)).take ((n - j)*6):=by rw[show n*6=j*6+(n - j)*6 by omega,List.take_add]
    rw[e];exact List.mem_append_right _ hv)
  have hgd:w.drew.heap[g]?=some (.cells cur 63 (0,0)):=hg;obtain⟨cur1,hcur1⟩:∃cur1:Array Value,cur1=(cur.toList.take (i*inf.size)++cs++cur.toList.drop (i*inf.size+cs.length)).toArray:=⟨_,rfl⟩
  obtain⟨zs,hzs1⟩:∃zs:List Value,zs=(Builtin.zeroCells z.cells (n - (i+(n - j)))).toList:=⟨_,rfl⟩
  have hzl:zs.length=(j - i)*6:=by rw[hzs1,Array.length_toList,Z1t,hzs];congr 1;omega
  have hzo:∀v∈zs,v.oneCell'=true:=by intro v hv;rw[hzs1]at hv;exact Z9u (by rw[hzs];decide) (List.all_eq_true.1 hz1c) v hv
  obtain⟨cur2,hcur2⟩:∃cur2:Array Value,cur2=(cur1.toList.take ((i+(n - j))*6)++zs++cur1.toList.drop ((i+(n - j))*6+zs.length)).toArray:=⟨_,rfl⟩
  have hs1:cur1.size=cur.size:=by rw[hcur1,hk];simp only[List.size_toArray,qy11,List.length_take,List.length_drop,hcl,hl];omega
  have hcl1:cur1.toList.length=c*6:=by rw[Array.length_toList,hs1];exact hcs
  have hs2:cur2.size=cur.size:=by rw[hcur2];simp only[List.size_toArray,qy11,List.length_take,List.length_drop,hcl1,hzl];omega
  have ht2:cur2.toList.take ((i+(n - j))*6)=cur.toList.take (i*6)++cs:=by
    rw[hcur2,hcur1,hk];simp only[List.toList_toArray];have e1:(cur.toList.take (i*6)++cs++cur.toList.drop (i*6+cs.length)).take ((i+(n - j))*6)=cur.toList.take (i*6)++cs:=by rw[List.take_append_of_le_length (by simp only[qy11,List.length_take];omega),List.take_of_length_le (by simp only[qy11,List.length_take];omega)]
    rw[List.append_assoc,List.take_append_of_le_length (by rw[e1];simp only[qy11,List.length_take];omega),List.take_take,Nat.min_self,e1]
  have happ:∀(a:Addr),(n - j=0\/a=⟨g,j*6,none⟩)->∀ty sc,(Builtin.append_ #[24,24] ty #[.slice (some ⟨g,0,none⟩) i c,.slice (some a) (n - j) sc]).run Tryz.prog w.drew=.ok (.slice (some ⟨g,0,none⟩) (i+(n - j)) c) (w.drew.setRow g cur1):=fun a ha ty sc=>by
    rw[hcur1];exact run_append_room (P:=Tryz.prog) w.drew 24 ty 63 inf hu hinf g i c cur hgd a (n - j) sc cs (by rw[hk];exact hl) (fun t v ht=>by
      rcases ha with ha|rfl
      . rw[ha]at hl;rw[List.length_eq_zero_iff.1 (by omega:cs.length=0)]at ht;cases ht
      . rw[hcs1,List.getElem?_take]at ht;split at ht
        . rw[Addr.add_lit];simp only[World.cell?,hgd];simpa using ht
        . cases ht) hone (by omega) (by rw[hk,hl];omega)
  have hclr:∀(W:World),W.heap=(w.drew.setRow g cur1).heap->∀ty sc,(Builtin.clear_ #[24] ty #[.slice (some ⟨g,(i+(n - j))*6,none⟩) (n - (i+(n - j))) sc]).run Tryz.prog W=.ok (.tuple #[]) (W.setRow g cur2):=fun W hW ty sc=>by
    have hgW:W.heap[g]?=some (.cells cur1 63 (0,0)):=by rw[hW];exact setRow_heap _ _ _ _ _ _ hgd
    have hst:=run_storeCells_at Tryz.prog g ((i+(n - j))*6) 63 zs 0 cur1 W hgW (by rw[hzl,<- Array.length_toList,hcl1];omega) hzo;simp only[Nat.add_zero]at hst;rw[<- hcur2,hzs1]at hst;obtain⟨r,hr⟩:∃r,n - (i+(n - j))=r+1:=⟨j - i - 1,by omega⟩
    rw[hr]at hst ⊢;simp[Builtin.clear_,run_underlying hu,zeroValue,typeInfo,hinf,hz,hst]
  have hb1:(0:Int)<=(i:Int):=by omega
  have hw1:¬(c=i+(n - j)):=by omega
  have hj1:(j:Int)<=(n:Int):=by omega
  have hj2:(i:Int)<=(j:Int):=by omega
  have mixed:Tryz.prog.follows Departure.mixedOrders=true:=by kernel_rfl
  have hic:i<=c:=by omega
  have hfin:cur2.size=cur.size/\cur2.toList.take ((i+(n - j))*6)=cur.toList.take (i*6)++(cur.toList.drop (j*6)).take ((n - j)*6):=by rw[<- hcs1];exact⟨hs2,ht2⟩
  clear ht2 hs2 hs1 hcl1 hone hl hzl hzo hzs1 hcur2 hcur1 hcs1 hz1c hzs hz hk hinf hcl h1c hcs hgd hg;clear cs zs z inf;by_cases hcj:c=j
  . obtain rfl:n=c:=by omega
    obtain rfl:n=j:=hcj;have happ0:∀(a:Addr) ty sc,(Builtin.append_ #[24,24] ty #[.slice (some ⟨g,0,none⟩) i n,.slice (some a) 0 sc]).run Tryz.prog w.drew=.ok (.slice (some ⟨g,0,none⟩) i n) (w.drew.setRow g cur1):=fun a ty sc=>by have:=happ a (.inl (Nat.sub_self n)) ty sc;rw[Nat.sub_self,Nat.add_zero]at this;exact this
    have hclr0:∀(W:World),W.heap=(w.drew.setRow g cur1).heap->∀ty sc,(Builtin.clear_ #[24] ty #[.slice (some ⟨g,i*6,none⟩) (n - i) sc]).run Tryz.prog W=.ok (.tuple #[]) (W.setRow g cur2):=by rw[Nat.sub_self,Nat.add_zero]at hclr;exact hclr
    have hw2:¬n=i:=by omega
    have hfin0:Ending.returned (.slice (some ⟨g,0,none⟩) i n)=.returned (.slice (some ⟨g,0,none⟩) (i+(n - n)) n):=by rw[Nat.sub_self,Nat.add_zero]
    clear happ hclr;go_enter Tryz.func134,Tryz.ntmps134
    go_wp2
    go_region_law_o (refine Z2h rfl _ _ 24 24 rfl _ _ (by simp[Act.eval,Act.put]) (by simp[Act.eval,Act.put]) (happ0 ⟨g,0,none⟩ _ 0) ?_)
    go_wp2_with (refine Z24 _ rfl _ 24 rfl _ rfl (hclr0 _ rfl _ _) ?_)
    go_ret
    exact⟨cur2,hfin0,hfin.1,hfin.2,by rw[setRow_setRow]⟩
  . go_enter Tryz.func134,Tryz.ntmps134
    go_wp2
    go_region_law_o (refine Z2h rfl _ _ 24 24 rfl _ _ (by simp[Act.eval,Act.put]) (by simp[Act.eval,Act.put]) (happ ⟨g,j*6,none⟩ (.inr rfl) _ (c - j)) ?_)
    go_wp2_with (refine Z24 _ rfl _ 24 rfl _ rfl (hclr _ rfl _ _) ?_)
    go_ret
    exact⟨cur2,rfl,hfin.1,hfin.2,by rw[setRow_setRow]⟩
theorem Ztr (w:World) (s:Value) (i j:Nat) (R:List (List Value)) (hs:owns w s 63 [.str,.bool,.bool,.oth,.oth,.int .i64] R) (hij:i<j) (hj:j<=R.length) : Calls Tryz.prog 134 #[s,.int .i64 i,.int .i64 j] w fun e w'=>∃v',e=.returned v'/\Zfd w w' s v' 63 [.str,.bool,.bool,.oth,.oth,.int .i64] (R.take i++R.drop j):=by
  obtain⟨hk1,hl1,ho⟩:=hs;have hrl1:∀r∈R,r.length=6:=fun r hr=>(hk1 r hr).length;rcases ho with ⟨-,hn⟩|⟨g,c,cur,rfl,-,hg,hnc,hcm,hcs,htk⟩
  . omega
  replace hcs:cur.size=c*6:=hcs;replace htk:cur.toList.take (R.length*6)=R.flatten:=htk;refine(Z11a w g R.length c i j cur hij hj hnc hcm hg hcs (fun v hv=>by rw[htk]at hv;exact Z32 hk1 v hv)).mono ?_;rintro e w' ⟨cur2,rfl,q1,q2,rfl⟩;have hgd:w.drew.heap[g]?=some (.cells cur 63 (0,0)):=hg;have t1:cur.toList.take (i*6)=(R.take i).flatten:=by rw[<- Z1n i hrl1,<- htk,List.take_take,Nat.min_eq_left (by omega)]
  have t2:(cur.toList.drop (j*6)).take ((R.length - j)*6)=(R.drop j).flatten:=by rw[<- Z1o j hrl1,<- htk,List.drop_take,Nat.sub_mul]
  have hrows:∀r∈R.take i++R.drop j,rowOk [.str,.bool,.bool,.oth,.oth,.int .i64] r:=by
    intro r hr;rcases qy13.1 hr with hr|hr
    . exact hk1 r (List.mem_of_mem_take hr)
    . exact hk1 r (List.mem_of_mem_drop hr)
  have hlen:(R.take i++R.drop j).length=i+(R.length - j):=by simp;omega
  refine⟨_,rfl,⟨hrows,?_,.inr ⟨g,c,cur2,by rw[hlen],Nat.zero_le _,setRow_heap _ _ _ _ _ _ hgd,by omega,hcm,q1.trans hcs,?_⟩⟩,fun k hk=>.inl hk,⟨rfl,rfl,rfl,by rw[setRow_size];exact Nat.le_refl _,fun k hk hkr=>setRow_other _ _ _ _ (fun e=>hkr (by rw[e];rfl))⟩⟩
  . exact Za (fun r hr=>(hrows r hr).length)
  . rw[hlen]
    show cur2.toList.take ((i+(R.length - j))*6)=_
    rw[q2,t1,t2,List.flatten_append]
end Go.Proofs.YtkhakgbnfapifaaGreatDoor
namespace Go.Proofs.YtkhakgbnfapifaaGreatDoor
open Go Go.Sx
abbrev Zkw (w:World) (v:Value) (l:List SesX):Prop:=owns w v 63 kSx (l.map Zh)
theorem Z136 (w:World) (s v:Value) (l:List SesX) (x:SesX) (i:Nat) (hs:Zkw w s l) (hv:Zkw w v [x]) (hne:∀k,Z2 s k->Z2 v k->False) (hi:i<=l.length) (hl:l.length<1000000) : Calls Tryz.prog 209 #[sc1 s,.int .i64 i,sc1 v] w fun e w'=>∃v',e=.returned (sc1 v')/\Zkw w' v' (l.take i++[x]++l.drop i)/\(∀k,Z2 v' k->Z2 s k\/w.heap.size<=k)/\Mod s.ownBlock.toList w w':=by rw[hs.reads.sc1,hv.reads.sc1];refine(Ztq w s v i _ _ hs hv hne (by simpa using hi) (by simp;omega)).mono ?_;rintro e w' ⟨v',rfl,g1,g2,g3⟩;refine⟨v',by rw[g1.reads.sc1],?_,g2,Mod.of_grown g3 fun k hk=>.inl (Option.mem_toList.2 hk)⟩;rw[Zkw,List.map_append,List.map_append,List.map_take,List.map_drop];exact g1
theorem Z137 (w:World) (s:Value) (l:List SesX) (i:Nat) (hs:Zkw w s l) (hi:i<l.length) : Calls Tryz.prog 134 #[sc1 s,.int .i64 i,.int .i64 ((i:Int)+1)] w fun e w'=>∃v',e=.returned (sc1 v')/\Zkw w' v' (l.take i++l.drop (i+1))/\(∀k,Z2 v' k->Z2 s k\/w.heap.size<=k)/\Mod s.ownBlock.toList w w':=by rw[hs.reads.sc1];have hc:=Ztr w s i (i+1) _ hs (by omega) (by rw[qy3];omega);rw[show ((i+1:Nat):Int)=(i:Int)+1 by omega]at hc;refine hc.mono ?_;rintro e w' ⟨v',rfl,g1,g2,g3⟩;refine⟨v',by rw[g1.reads.sc1],?_,g2,Mod.of_grown g3 fun k hk=>.inl (Option.mem_toList.2 hk)⟩;rw[Zkw,List.map_append,List.map_take,List.map_drop];exact g1
theorem Zn2 {l:List SesX} {i:Nat} (h:i<l.length) (t:SesX):((l.set i t).map Zh).getD i []=Zh t:=by rw[Z7x (by simpa using h),qy1,List.getElem?_set_self h];rfl
theorem Zts (l:List SesX) (i:Nat) (t:SesX):(l.set i t).take i++(l.set i t).drop (i+1)=l.take i++l.drop (i+1):=by rw[List.take_set_of_le (Nat.le_refl _),List.drop_set_of_lt (by omega)]
theorem Zxk {l l':List SesX} {o:List SntX} (h:∀t∈l',t∈l):(∀w,(Z6 l o).holds w->(Z6 l' o).holds w)/\∀j,(Z6 l' o).fp j->(Z6 l o).fp j :=
 ⟨fun w hw=>Z1j (fun t ht=>.inl (h t ht)) (fun t ht=>.inl ht) hw,fun j hj=>(Zi.1 hj).elim (fun ⟨t,ht,hk⟩=>Zi.2 (.inl ⟨t,h t ht,hk⟩)) (fun h=>Zi.2 (.inr h))⟩
theorem Zyh (w:World) (k:Nat) (x:TelX) (c:List UInt8) (hr:Rel ⟨Zr (tlA k x) tlH,w⟩ (tlA k x++[.s c]) tlH w) (hb:BOk x.tel) (ho:x.ox.length<100000) : Calls Tryz.prog 39 #[.pointer (some ⟨k,0,none⟩),.string ⟨c.toArray⟩] w fun e w'=>e=.returned (.tuple #[])/\Z78 w w' k x (fun _=>False) (Zbz c x.tel):=by
 refine Z1 (Z3 (ρ:=tlA k x++[.s c]) (sxE_ok.joins _) Tryz.func39 Z6c rfl rfl hr rfl rfl ?_) rfl;simp only[Tree.goal,X.P,X.ev,SV.ev,CV.ev,Sc.ev,qz,QA,QB,QC,QD,QE,QF,QG,QH,QI,QJ,QK,QL,QM,Nat.reduceAdd,qy3,qy4];have hn6:x.sx.length<=6:=by have:=hb.ns;rw[Z2j,qy3]at this;exact this
 have hw20:x.wants.length<=20:=Zmr hb.wants;refine⟨[.i (idxS x.tel.sess c),.b (hasS x.tel.sess c)],rfl,fun _ w' hr=>Ze1 w' x.sv x.sx c (hr.at_ 2 rfl).reads hb.sort (by omega),?_⟩;simp only[Tree.goal,X.P,X.ev,SV.ev,CV.ev,Sc.ev,qz,QA,QB,QC,QD,QE,QF,QG,QH,QI,QJ,QK,QL,QM,Nat.reduceAdd,qy3,qy4];refine⟨fun h1 w3 hr=>⟨by trivial,x,by rw[Zbz,if_neg h1],(hr.pick [0,1,2,3,4,5,6] (by decide)).conv rfl,.refl _ _ _⟩,fun h1=>?_⟩;have h1:=qy9.1 h1;obtain⟨hlt,hse⟩:=Zoz h1;have hok:SesOk (x.sx.getD (idxS x.tel.sess c) sxD).1:=by rw[hse];exact Zfr hb h1
 have hgB:Zbz c x.tel=if (goR (x.sx.getD (idxS x.tel.sess c) sxD).1).clean=true then Zmn c { x.tel with sess:=x.tel.sess.take (idxS x.tel.sess c)++x.tel.sess.drop (idxS x.tel.sess c+1) } else { x.tel with sess:=x.tel.sess.set (idxS x.tel.sess c) (goR (x.sx.getD (idxS x.tel.sess c) sxD).1) }:=by rw[Zbz,if_pos h1,hse]
 generalize idxS x.tel.sess c=ix at hlt hse hok hgB ⊢
 have hrow:=Z7x hlt;simp only[hrow,Zh,List.getD_cons_zero,List.getD_cons_succ,Value.gI,Value.gB,Value.gS,Z1x];have hmm:=Z5p hlt;generalize hss:x.sx.getD ix sxD=ss at hok hse hgB hmm
 obtain⟨s,s',s''⟩:=ss;simp only at hok hse hgB ⊢;obtain⟨S,hS⟩:∃S,S=goR s:=⟨_,rfl⟩
 rw[<- hS]at hgB;refine⟨fun vs=>∃u1 u2:Value,vs=[.s S.cl,.b S.on,.b S.clean,.v u1,.r (S.fl.map encF),.v u2,.r (S.qu.map encF),.i S.next,.r ((x.sx.set ix (S,u1,u2)).map Zh)]/\newV w.heap.size u1/\newV w.heap.size u2,⟨by omega,by omega,?_⟩,?_⟩
 ·refine Z5j ?_;intro w1 hr1;obtain⟨hs1,hs2⟩:=Zq (hr1.at_ 5 rfl:(Z6 x.sx x.ox).holds w1) hmm;have hsz:=hr1.mod.size;refine(Z1 (Z14i w1 s s' s'' hs1 hs2 (by have:=hok.nf;omega) (by have:=hok.nq;omega)) rfl).mono ?_;rw[<- hS];rintro e w2 ⟨u1,u2,rfl,g1,g2,g4,g5,gm⟩;refine⟨[.s S.cl,.b S.on,.b S.clean,.v u1,.r (S.fl.map encF),.v u2,.r (S.qu.map encF),.i S.next],rfl,rfl,gm,qy5 _,qy2.2 ⟨⟨g1,fun k hk=>.inl (g4 k hk.2)⟩,qy2.2 ⟨⟨g2,fun k hk=>.inl (g5 k hk.2)⟩,qy5 _⟩⟩,Zr4 ..,⟨u1,u2,?_,fun k hk=>Nat.le_trans hsz (g4 k hk),fun k hk=>Nat.le_trans hsz (g5 k hk)⟩⟩;simp only[Tree.goal,X.P,X.ev,SV.ev,CV.ev,Sc.ev,qz,QA,QB,QC,QD,QE,QF,QG,QH,QI,QJ,QK,QL,QM,Nat.reduceAdd,qy3,qy4];rw[<- Z4j]
 rintro _ - ⟨u1,u2,rfl,n1,n2⟩;simp only[Tree.goal,X.P,X.ev,SV.ev,CV.ev,Sc.ev,qz,QA,QB,QC,QD,QE,QF,QG,QH,QI,QJ,QK,QL,QM,Nat.reduceAdd,qy3,qy4,Zn2 hlt,Zh,Value.gB,List.length_set];refine⟨by omega,by omega,fun h2=>⟨by omega,by omega,?_⟩,fun h2 w3 hr=>⟨by trivial,{ x with sx:=x.sx.set ix (S,u1,u2) },?_,?_,?_⟩⟩
 ·intro w4 hr4;have hsz4:=hr4.mod.size;refine(Z137 w4 x.sv (x.sx.set ix (S,u1,u2)) ix (hr4.at_ 4 rfl) (by simpa using hlt)).mono ?_;rintro e w5 ⟨v',rfl,g1,g2,g3⟩;rw[Zts]at g1;obtain⟨l',hl'⟩:∃l',l'=x.sx.take ix++x.sx.drop (ix+1):=⟨_,rfl⟩
  rw[<- hl']at g1;refine⟨[.v v',.r (l'.map Zh)],rfl,rfl,g3.mono fun k hk=>.inl (by simpa [Zv,Z16]using hk),qy5 _,qy2.2 ⟨⟨g1,fun k hk=>?_⟩,qy5 _⟩,Z4,?_⟩
  ·rcases g2 k hk with h|h
   ·exact .inr (.inr (Z68 (i:=5) (qy8 ..) h))
   ·exact .inl h
  clear g1 g2 g3 hr4;simp only[Tree.goal,X.P,X.ev,SV.ev,CV.ev,Sc.ev,qz,QA,QB,QC,QD,QE,QF,QG,QH,QI,QJ,QK,QL,QM,Nat.reduceAdd,qy3,qy4];intro w6 hr6;have hsub:∀t∈l',t∈x.sx:=fun t ht=>by
   rw[hl']at ht;rcases qy13.1 ht with ht|ht
   ·exact List.mem_of_mem_take ht
   ·exact List.mem_of_mem_drop ht
  obtain⟨q1,q2⟩:=Zxk (o:=x.ox) hsub;have hsz6:=hr6.mod.size;refine(Z2r (k:=k) (x:={ x with sx:=l',sv:=v' }) (F:=fun _=>False) (pre:=[]) hr6 27 0 [25,7,10]
   (Ztl w6 k { x with sx:=l',sv:=v' } c ((Zxf hr6 (by rfl) k { x with sx:=l',sv:=v' } (q1 w6 (hr6.at_ 7 rfl)) (fun j hj=>⟨_,qy6 (i:=7) rfl,rfl,q2 j hj⟩) [4,5,1,6,7,0,9] (by decide) rfl).conv rfl) (by show x.wants.length<1000000000;omega))
   rfl rfl (Nat.succ_pos _) rfl (fun j hj=>?_)).mono ?_
  ·rcases hj with hj|hj|hj|hj
   ·exact⟨_,qy6 (i:=3) rfl,rfl,hj⟩
   ·exact⟨_,qy6 (i:=4) rfl,rfl,hj⟩
   ·exact⟨_,qy6 (i:=7) rfl,rfl,q2 j hj⟩
   ·exact hj.elim
  rintro e w7 ⟨y,⟨u,hy⟩,hsz7,hgr,rfl,m1,m2,m3,m4⟩;refine⟨tlV y,rfl,rfl,m1,m2,m3,m4,?_⟩;intro w8 hr8;refine⟨by trivial,y,?_,(hr8.pick [0,1,2,3,4,5,11] (by decide)).conv rfl,?_⟩
  ·rw[hgB,if_pos h2,hy];simp only[TelX.tel,Zmn,hl',List.map_append,List.map_take,List.map_drop]
  ·exact(Grew.trans (y:={ x with sx:=l',sv:=v' }) (F:=fun _=>False) (n:=w.heap.size) ⟨fun j hj=>.inr hj,fun j hj=>.inr hj,fun j hj=>.inr (.inl (q2 j hj))⟩ hgr hsz6 (fun j h=>h.elim))
 ·rw[hgB,if_neg h2];simp only[TelX.tel,List.map_set]
 ·exact Zj4 hr (by rfl) k { x with sx:=x.sx.set ix (S,u1,u2) } (Za8 (hr.at_ 7 rfl) (hr.at_ 0 rfl) (hr.at_ 1 rfl)) (fun j hj=>by
   rcases Z5s hj with h|h|h
   ·exact⟨_,qy6 (i:=7) rfl,rfl,h⟩
   ·exact⟨_,qy6 (i:=0) rfl,rfl,h⟩
   ·exact⟨_,qy6 (i:=1) rfl,rfl,h⟩) [3,4,5,6,7,0,9] (by decide) rfl
 ·exact Zco (.refl _ _ _) (Nat.le_refl _) n1 n2
def pk1X (p:Pkt):Z6e:=(p,.slice none 0 0,.slice none 0 0)
theorem Z4k {p:Pkt} (ha:p.asks=[]) (hc:p.codes=[]) (w:World):(Zu [pk1X p]).holds w:=by
 intro t ht;simp only[List.flatMap_cons,List.flatMap_nil,List.append_nil,Zh4,pk1X,List.mem_cons,List.not_mem_nil,or_false]at ht;rcases ht with rfl|rfl
 ·simp only[ha];exact Z9 _ _
 ·simp only[hc];exact Z9 _ _
theorem Z2f {p:Pkt} (ha:p.asks=[]) (hc:p.codes=[]) {j:Nat}:¬(Zu [pk1X p]).fp j:=by
 rintro⟨t,ht,h1,h2⟩;simp only[List.flatMap_cons,List.flatMap_nil,List.append_nil,Zh4,pk1X,List.mem_cons,List.not_mem_nil,or_false]at ht;rcases ht with rfl|rfl
 ·exact h1 (by simp only[ha];rfl)
 ·exact h1 (by simp only[hc];rfl)
abbrev Z5t (c:List UInt8) (p:Pkt) (va vc:Value):List V:=[.s c,.i p.kind,.b p.dup,.b p.retain,.b p.clean,.b p.session,.i p.qos,.i p.id,.i p.keep,.i p.code,.s p.client,.s p.topic,.s p.payload,.v va,.r (p.asks.map encA),.v vc,.r (p.codes.map Z1h)]
abbrev pkHp:List Ent:=[.rd 26 [.str,.int .i64] (.var 27),.rd 28 [.int .i64] (.var 29)]
abbrev Zp1 (p:Pkt) (va vc:Value):Value:=.agg #[.int .i64 p.kind,.bool p.dup,.bool p.retain,.bool p.clean,.bool p.session,.int .i64 p.qos,.int .i64 p.id,.int .i64 p.keep,.int .i64 p.code,.string ⟨p.client.toArray⟩,.string ⟨p.topic.toArray⟩,.string ⟨p.payload.toArray⟩,sc1 va,sc1 vc]
theorem Ztt (w:World) (k:Nat) (x:TelX) (c:List UInt8) (p:Pkt) (va vc:Value) (hr:Rel ⟨Zr (tlA k x) tlH,w⟩ (tlA k x++Z5t c p va vc) (tlH++pkHp) w) (hb:BOk x.tel) (ho:x.ox.length<50000) (hsm:Z2i x.wants) (hp:pubE p=0) : Calls Tryz.prog 128 #[.pointer (some ⟨k,0,none⟩),.string ⟨c.toArray⟩,Zp1 p va vc] w fun e w'=>e=.returned (.tuple #[])/\Z78 w w' k x (fun _=>False) (Zck c p x.tel):=by
 obtain⟨hn,hpl,hq0,hq1,hf⟩:=Z134 hp;refine Z1 (Z3 (ρ:=tlA k x++Z5t c p va vc) sxE_ok Tryz.func128 Z4u rfl rfl hr rfl rfl ?_) rfl;simp only[Tree.goal,X.P,X.ev,SV.ev,CV.ev,Sc.ev,qz,QA,QB,QC,QD,QE,QF,QG,QH,QI,QJ,QK,QL,QM,Nat.reduceAdd,qy3,qy4];intro b0;have hk:∀t:Tel,Zck c p x.tel=Za3 p.topic p.payload p.qos (if p.retain=true then (Z1i p.topic p.payload (if p.qos=1 then { x.tel with out:=x.tel.out++[toC c { pD_Q 4 with id:=p.id }] } else x.tel)).1 else (if p.qos=1 then { x.tel with out:=x.tel.out++[toC c { pD_Q 4 with id:=p.id }] } else x.tel)):=fun _=>rfl;have hk:=hk x.tel;have hol:x.tel.out.length=x.ox.length:=by simp[TelX.tel]
 have lenX:∀y:TelX,y.tel.out.length=y.ox.length:=fun y=>by simp[TelX.tel]
 refine⟨fun h1 v31=>?_,fun h1=>?_⟩
 ·rw[if_pos h1]at hk;intro w1 hr_y1;have hz_y1:=hr_y1.mod.size;refine(Z2r (k:=k) (x:=x) (F:=(Zu [pk1X { pD_Q 4 with id:=p.id }]).fp) (pre:=[]) hr_y1 32 0 [5,7,10]
   (Z1a w1 k x c v31 [pk1X { pD_Q 4 with id:=p.id }] (Z6j (toRd hr_y1) (by rfl) k x (Zu [pk1X { pD_Q 4 with id:=p.id }]) _ _ (hr_y1.at_ 7 rfl) (fun j hj=>⟨_,qy6 (i:=7) rfl,rfl,hj⟩) (Z4k rfl rfl _) (fun j hj=>absurd hj (Z2f rfl rfl)) [4,5,6,7,8,1,10,2,0] (by decide) rfl rfl) (show 1<1000000 by decide) (by omega))
   rfl rfl (Nat.succ_pos _) rfl (fun j hj=>?_)).mono ?_
  ·rcases hj with hj|hj|hj|hj
   ·exact⟨_,qy6 (i:=2) rfl,rfl,hj⟩
   ·exact⟨_,qy6 (i:=3) rfl,rfl,hj⟩
   ·exact⟨_,qy6 (i:=7) rfl,rfl,hj⟩
   ·exact absurd hj (Z2f rfl rfl)
  rintro e w2_y1 ⟨y1,hy_y1,hs_y1,hg_y1,rfl,m1,m2,m3,m4⟩;refine⟨tlV y1,rfl,rfl,m1,m2,m3,m4,?_⟩;clear m1 m2 m3 m4;have e1:y1.tel={ x.tel with out:=x.tel.out++[toC c { pD_Q 4 with id:=p.id }] }:=hy_y1;have b1:BOk y1.tel:=by rw[e1];exact hb.out _
  have l1:y1.ox.length<=x.ox.length+1:=by have:=lenX y1;rw[e1]at this;simp only[qy11,List.length_cons,List.length_nil]at this;omega
  have s1:y1.wants=x.wants:=congrArg Tel.wants e1;rw[<- e1]at hk;have g1:Grew w.heap.size (fun _=>False) x y1:=(Grew.refl w.heap.size _ x).trans hg_y1 hz_y1 (fun j h=>absurd h (Z2f rfl rfl));refine⟨fun h2=>?_,fun h2=>?_⟩
  ·rw[if_pos h2]at hk;intro w3 hr_y2;have hz_y2:=hr_y2.mod.size;refine(Z2r (k:=k) (x:=y1) (F:=(fun _=>False)) (pre:=[.b (Z1i p.topic p.payload y1.tel).2]) hr_y2 45 0 [36,38,41]
    (Zn1 w3 k y1 p.topic p.payload (((hr_y2.pick [0,1,2,3,4,5,11] (by decide)).conv rfl).base.conv rfl) b1 (by omega))
    rfl rfl (Nat.succ_pos _) rfl (fun j hj=>?_)).mono ?_
   ·rcases hj with hj|hj|hj|hj
    ·exact⟨_,qy6 (i:=0) rfl,rfl,hj⟩
    ·exact⟨_,qy6 (i:=1) rfl,rfl,hj⟩
    ·exact⟨_,qy6 (i:=5) rfl,rfl,hj⟩
    ·exact hj.elim
   rintro e w2_y2 ⟨y2,hy_y2,hs_y2,hg_y2,rfl,m1,m2,m3,m4⟩;refine⟨.b (Z1i p.topic p.payload y1.tel).2::tlV y2,rfl,rfl,m1,m2,m3,m4,?_⟩;clear m1 m2 m3 m4;obtain⟨b2,-,s2,l2⟩:=Z7n (p:=p.payload) b1 hn;rw[<- hy_y2]at b2 s2 l2 hk;have l2':y2.ox.length<=y1.ox.length+12:=by have h1:=lenX y2;have h2:=lenX y1;omega
   have s2':y2.wants=y1.wants:=s2;have g2:Grew w.heap.size (fun _=>False) x y2:=g1.trans hg_y2 hz_y2 (fun j h=>h.elim);intro w5 hr_y3;have hz_y3:=hr_y3.mod.size;refine(Z2r (k:=k) (x:=y2) (F:=(fun _=>False)) (pre:=[]) hr_y3 57 0 [49,51,54]
    (Zjc w5 k y2 p.topic p.payload p.qos (((hr_y3.pick [0,1,2,3,4,5,14] (by decide)).conv rfl).base.conv rfl) b2 (by omega) (by rw[s2',s1];exact hsm) hf ⟨hq0,hq1⟩)
    rfl rfl (Nat.succ_pos _) rfl (fun j hj=>?_)).mono ?_
   ·rcases hj with hj|hj|hj|hj
    ·exact⟨_,qy6 (i:=0) rfl,rfl,hj⟩
    ·exact⟨_,qy6 (i:=1) rfl,rfl,hj⟩
    ·exact⟨_,qy6 (i:=5) rfl,rfl,hj⟩
    ·exact hj.elim
   rintro e w2_y3 ⟨y3,hy_y3,hs_y3,hg_y3,rfl,m1,m2,m3,m4⟩;refine⟨tlV y3,rfl,rfl,m1,m2,m3,m4,?_⟩;clear m1 m2 m3 m4;intro w7 hr7;exact⟨by trivial,y3,by rw[hk,hy_y3],(hr7.pick [0,1,2,3,4,5,17] (by decide)).conv rfl,g2.trans hg_y3 hz_y3 (fun j h=>h.elim)⟩
  ·rw[if_neg h2]at hk;intro w5 hr_y3;have hz_y3:=hr_y3.mod.size;refine(Z2r (k:=k) (x:=y1) (F:=(fun _=>False)) (pre:=[]) hr_y3 44 0 [36,38,41]
    (Zjc w5 k y1 p.topic p.payload p.qos (((hr_y3.pick [0,1,2,3,4,5,11] (by decide)).conv rfl).base.conv rfl) b1 (by omega) (by rw[s1];exact hsm) hf ⟨hq0,hq1⟩)
    rfl rfl (Nat.succ_pos _) rfl (fun j hj=>?_)).mono ?_
   ·rcases hj with hj|hj|hj|hj
    ·exact⟨_,qy6 (i:=0) rfl,rfl,hj⟩
    ·exact⟨_,qy6 (i:=1) rfl,rfl,hj⟩
    ·exact⟨_,qy6 (i:=5) rfl,rfl,hj⟩
    ·exact hj.elim
   rintro e w2_y3 ⟨y3,hy_y3,hs_y3,hg_y3,rfl,m1,m2,m3,m4⟩;refine⟨tlV y3,rfl,rfl,m1,m2,m3,m4,?_⟩;clear m1 m2 m3 m4;intro w7 hr7;exact⟨by trivial,y3,by rw[hk,hy_y3],(hr7.pick [0,1,2,3,4,5,14] (by decide)).conv rfl,g1.trans hg_y3 hz_y3 (fun j h=>h.elim)⟩
 ·rw[if_neg h1]at hk;refine⟨fun h2=>?_,fun h2=>?_⟩
  ·rw[if_pos h2]at hk;intro w3 hr_y2;have hz_y2:=hr_y2.mod.size;refine(Z2r (k:=k) (x:=x) (F:=(fun _=>False)) (pre:=[.b (Z1i p.topic p.payload x.tel).2]) hr_y2 32 0 [5,7,10]
    (Zn1 w3 k x p.topic p.payload (((hr_y2.pick [1,2,3,4,5,6,7] (by decide)).conv rfl).base.conv rfl) hb (by omega))
    rfl rfl (Nat.succ_pos _) rfl (fun j hj=>?_)).mono ?_
   ·rcases hj with hj|hj|hj|hj
    ·exact⟨_,qy6 (i:=1) rfl,rfl,hj⟩
    ·exact⟨_,qy6 (i:=2) rfl,rfl,hj⟩
    ·exact⟨_,qy6 (i:=6) rfl,rfl,hj⟩
    ·exact hj.elim
   rintro e w2_y2 ⟨y2,hy_y2,hs_y2,hg_y2,rfl,m1,m2,m3,m4⟩;refine⟨.b (Z1i p.topic p.payload x.tel).2::tlV y2,rfl,rfl,m1,m2,m3,m4,?_⟩;clear m1 m2 m3 m4;obtain⟨b2,-,s2,l2⟩:=Z7n (p:=p.payload) hb hn;rw[<- hy_y2]at b2 s2 l2 hk;have l2':y2.ox.length<=x.ox.length+12:=by have h1:=lenX y2;have h2:=lenX x;omega
   have s2':y2.wants=x.wants:=s2;have g2:Grew w.heap.size (fun _=>False) x y2:=(Grew.refl w.heap.size _ x).trans hg_y2 hz_y2 (fun j h=>h.elim);intro w5 hr_y3;have hz_y3:=hr_y3.mod.size;refine(Z2r (k:=k) (x:=y2) (F:=(fun _=>False)) (pre:=[]) hr_y3 44 0 [36,38,41]
    (Zjc w5 k y2 p.topic p.payload p.qos (((hr_y3.pick [0,1,2,3,4,5,10] (by decide)).conv rfl).base.conv rfl) b2 (by omega) (by rw[s2'];exact hsm) hf ⟨hq0,hq1⟩)
    rfl rfl (Nat.succ_pos _) rfl (fun j hj=>?_)).mono ?_
   ·rcases hj with hj|hj|hj|hj
    ·exact⟨_,qy6 (i:=0) rfl,rfl,hj⟩
    ·exact⟨_,qy6 (i:=1) rfl,rfl,hj⟩
    ·exact⟨_,qy6 (i:=5) rfl,rfl,hj⟩
    ·exact hj.elim
   rintro e w2_y3 ⟨y3,hy_y3,hs_y3,hg_y3,rfl,m1,m2,m3,m4⟩;refine⟨tlV y3,rfl,rfl,m1,m2,m3,m4,?_⟩;clear m1 m2 m3 m4;intro w7 hr7;exact⟨by trivial,y3,by rw[hk,hy_y3],(hr7.pick [0,1,2,3,4,5,13] (by decide)).conv rfl,g2.trans hg_y3 hz_y3 (fun j h=>h.elim)⟩
  ·rw[if_neg h2]at hk;intro w5 hr_y3;have hz_y3:=hr_y3.mod.size;refine(Z2r (k:=k) (x:=x) (F:=(fun _=>False)) (pre:=[]) hr_y3 31 0 [5,7,10]
    (Zjc w5 k x p.topic p.payload p.qos (((hr_y3.pick [1,2,3,4,5,6,7] (by decide)).conv rfl).base.conv rfl) hb (by omega) hsm hf ⟨hq0,hq1⟩)
    rfl rfl (Nat.succ_pos _) rfl (fun j hj=>?_)).mono ?_
   ·rcases hj with hj|hj|hj|hj
    ·exact⟨_,qy6 (i:=1) rfl,rfl,hj⟩
    ·exact⟨_,qy6 (i:=2) rfl,rfl,hj⟩
    ·exact⟨_,qy6 (i:=6) rfl,rfl,hj⟩
    ·exact hj.elim
   rintro e w2_y3 ⟨y3,hy_y3,hs_y3,hg_y3,rfl,m1,m2,m3,m4⟩;refine⟨tlV y3,rfl,rfl,m1,m2,m3,m4,?_⟩;clear m1 m2 m3 m4;intro w7 hr7;exact⟨by trivial,y3,by rw[hk,hy_y3],(hr7.pick [0,1,2,3,4,5,10] (by decide)).conv rfl,(Grew.refl w.heap.size _ x).trans hg_y3 hz_y3 (fun j h=>h.elim)⟩
def begX:SesX:=(⟨[],false,true,[],[],0⟩,.slice none 0 0,.slice none 0 0)
def freX (c:List UInt8):SesX:=(⟨c,false,false,[],[],1⟩,.slice none 0 0,.slice none 0 0)
def insX (l:List SesX) (c:List UInt8):List SesX:=if hasS (l.map (·.1)) c=true then l else l.take (idxS (l.map (·.1)) c)++[begX]++l.drop (idxS (l.map (·.1)) c)
theorem Zcp (l:List SesX) (c:List UInt8):(insX l c).map (·.1)=insS (l.map (·.1)) c:=by
  unfold insX insS;split
  . rfl
  . rw[List.map_append,List.map_append,List.map_take,List.map_drop];rfl
theorem Zxl {l:List SesX} {c:List UInt8}:∀t∈insX l c,t∈l\/t=begX:=fun t ht=>by
  unfold insX at ht;split at ht
  . exact .inl ht
  . rcases qy13.1 ht with ht|ht
    . rcases qy13.1 ht with ht|ht
      . exact .inl (List.mem_of_mem_take ht)
      . exact .inr (qy12.1 ht)
    . exact .inl (List.mem_of_mem_drop ht)
theorem Zxm {l:List SesX} {c:List UInt8} (hs:Z5n (l.map (·.1))):idxS (l.map (·.1)) c<(insX l c).length/\(insX l c).length<=l.length+1:=by
  have h1:=Zkr (l.map (·.1)) c;rw[qy3]at h1;unfold insX;split
  . rename_i h;have:=(Z8t h).1;rw[qy3]at this;exact⟨this,by omega⟩
  . simp;omega
theorem Zn3 {l l':List SesX} {o:List SntX} (h:∀t∈l',t∈l\/(t.1.fl=[]/\t.1.qu=[]/\t.2.1=.slice none 0 0/\t.2.2=.slice none 0 0)):(∀w,(Z6 l o).holds w->(Z6 l' o).holds w)/\∀j,(Z6 l' o).fp j->(Z6 l o).fp j:=by
  refine⟨fun w hw=>Z1j (fun t ht=>?_) (fun t ht=>.inl ht) hw,fun j hj=>?_⟩
  . rcases h t ht with h|⟨h1,h2,h3,h4⟩
    . exact .inl h
    . rw[h1,h2,h3,h4];exact .inr ⟨Z9 _ _,Z9 _ _⟩
  . rcases Zi.1 hj with ⟨t,ht,hk⟩|h1
    . rcases h t ht with h|⟨h1,h2,h3,h4⟩
      . exact Zi.2 (.inl ⟨t,h,hk⟩)
      . rcases hk with ⟨h5,-⟩|⟨h5,-⟩
        . exact absurd (by rw[h1];rfl) h5
        . exact absurd (by rw[h2];rfl) h5
    . exact Zi.2 (.inr h1)
structure CnnZ (x:TelX) (c:List UInt8) (kn:Bool) (n:Nat) (z:TelX):Prop where
  kept:z.kept=x.kept/\z.kv=x.kv
  wat:z.wat=x.wat/\z.av=x.av
  next:z.next=x.next
  ox:z.ox=x.ox/\z.ov=x.ov
  wants:z.wants=if kn=true then x.wants else x.wants.filter fun w=>decide (¬w.1=c)
  sx:z.sx=if kn=true then insX x.sx c else (insX x.sx c).set (idxS x.tel.sess c) (freX c)
  want:∀j,Zc3 z j->n<=j\/Zc3 x j
theorem Zjd {ρ ρ':List V} {v v':Nat} {ks:List Kd} {r r':X} (h1:ρ.getD v (.i 0)=ρ'.getD v' (.i 0)) (h2:(r.ev ρ).toR=(r'.ev ρ').toR):Ent.sem ρ (.rd v ks r)=Ent.sem ρ' (.rd v' ks r'):=by simp only[Ent.sem,Ent.holds,Ent.fp,Ent.wr,h1,h2]
theorem Ztu (w:World) (k:Nat) (x:TelX) (c:List UInt8) (p:Pkt) (va vc:Value) (hr:Rel ⟨Zr (tlA k x) tlH,w⟩ (tlA k x++Z5t c p va vc) (tlH++pkHp) w) (hb:BOk x.tel) (ho:x.ox.length<50000) (hc:Z12 c=true) : Calls Tryz.prog 127 #[.pointer (some ⟨k,0,none⟩),.string ⟨c.toArray⟩,Zp1 p va vc] w fun e w'=>e=.returned (.tuple #[])/\Z78 w w' k x (fun _=>False) (Z7k c p x.tel):=by
  refine Z1 (Z3 (ρ:=tlA k x++Z5t c p va vc) (sxE_ok.joins _) Tryz.func127 Z4r rfl rfl hr rfl rfl ?_) rfl;simp only[Tree.goal,X.P,X.ev,SV.ev,CV.ev,Sc.ev,qz,QA,QB,QC,QD,QE,QF,QG,QH,QI,QJ,QK,QL,QM,Nat.reduceAdd,qy3,qy4];have hn6:x.sx.length<=6:=by have:=hb.ns;rw[Z2j,qy3]at this;exact this
  have hw20:x.wants.length<=20:=Zmr hb.wants;have hil:=Zxm (l:=x.sx) (c:=c) hb.sort;have hnil:∀t∈insX x.sx c,t∈x.sx\/(t.1.fl=[]/\t.1.qu=[]/\t.2.1=.slice none 0 0/\t.2.2=.slice none 0 0):=fun t ht=>(Zxl t ht).imp id fun h=>by rw[h];exact⟨rfl,rfl,rfl,rfl⟩
  obtain⟨ix,hix⟩:∃ix,ix=idxS x.tel.sess c:=⟨_,rfl⟩
  have hil1:ix<(insX x.sx c).length:=by rw[hix];exact hil.1
  have hixl:ix<=x.sx.length:=by rw[hix];have:=Zkr x.tel.sess c;rw[Z2j,qy3]at this;exact this
  intro b0;refine⟨fun h1 w3 hr=>⟨by trivial,x,by rw[Z7k,if_pos h1],(hr.pick [1,2,3,4,5,6,7] (by decide)).conv rfl,.refl _ _ _⟩,fun h1=>?_⟩;refine⟨[.i (idxS x.tel.sess c),.b (hasS x.tel.sess c)],rfl,fun _ w' hr=>Ze1 w' x.sv x.sx c (hr.at_ 3 rfl).reads hb.sort (by omega),?_⟩;simp only[Tree.goal,X.P,X.ev,SV.ev,CV.ev,Sc.ev,qz,QA,QB,QC,QD,QE,QF,QG,QH,QI,QJ,QK,QL,QM,Nat.reduceAdd,qy3,qy4];rw[<- hix];refine⟨fun vs=>∃sv':Value,vs=[.i 0,.i 0,.i 0,.v sv',.r ((insX x.sx c).map Zh)]/\(hasS x.tel.sess c=true\/x.sx.length<6),⟨fun h2=>⟨fun h3 v33=>?_,fun h3 v33=>?_⟩,fun h2=>?_⟩,?_⟩
  . intro w1 hr_y1;have hz_y1:=hr_y1.mod.size;refine(Z2r (k:=k) (x:=x) (F:=(Zu [pk1X { pD_Q 2 with code:=3 }]).fp) (pre:=[]) hr_y1 34 0 [5,7,10]
      (Z1a w1 k x c v33 [pk1X { pD_Q 2 with code:=3 }] (Z6j (toRd hr_y1) (by rfl) k x (Zu [pk1X { pD_Q 2 with code:=3 }]) _ _ (hr_y1.at_ 7 rfl) (fun j hj=>⟨_,qy6 (i:=7) rfl,rfl,hj⟩) (Z4k rfl rfl _) (fun j hj=>absurd hj (Z2f rfl rfl)) [4,5,6,7,8,1,10,2,0] (by decide) rfl rfl) (show 1<1000000 by decide) (by omega))
      rfl rfl (Nat.succ_pos _) rfl (fun j hj=>?_)).mono ?_
    . rcases hj with hj|hj|hj|hj
      . exact⟨_,qy6 (i:=2) rfl,rfl,hj⟩
      . exact⟨_,qy6 (i:=3) rfl,rfl,hj⟩
      . exact⟨_,qy6 (i:=7) rfl,rfl,hj⟩
      . exact absurd hj (Z2f rfl rfl)
    rintro e w2_y1 ⟨y1,hy_y1,hs_y1,hg_y1,rfl,m1,m2,m3,m4⟩;refine⟨tlV y1,rfl,rfl,m1,m2,m3,m4,?_⟩;clear m1 m2 m3 m4;intro w7 hr7;refine⟨by trivial,y1,?_,(hr7.pick [0,1,2,3,4,5,11] (by decide)).conv rfl,(Grew.refl w.heap.size _ x).trans hg_y1 hz_y1 (fun j h=>absurd h (Z2f rfl rfl))⟩;rw[hy_y1,Z7k,if_neg h1,if_pos ⟨h2,by rw[Z2j,qy3];omega⟩];rfl
  . intro w1 hr1;have hsz1:=hr1.mod.size;refine(Z136 w1 x.sv v33 x.sx begX ix (hr1.at_ 4 rfl) (hr1.at_ 0 rfl) (fun j h4 h5=>hr1.sep.disj (i:=4) (j:=0) rfl rfl (by decide) (.inl rfl) (k:=j) h4 h5) hixl (by omega)).mono ?_;rintro e w2 ⟨v',rfl,g1,g2,g3⟩;have e1:x.sx.take ix++[begX]++x.sx.drop ix=insX x.sx c:=by rw[insX,if_neg (show ¬hasS (x.sx.map (·.1)) c=true from h2),hix];rfl
    rw[e1]at g1;refine⟨[.v v',.r ((insX x.sx c).map Zh)],rfl,rfl,g3.mono fun j hj=>.inl ?_,qy5 _,qy2.2 ⟨⟨g1,fun j hj=>?_⟩,qy5 _⟩,Z4,⟨v',rfl,.inr (by omega)⟩⟩
    . simp only[Zv,Z16,List.map_nil,List.nil_append,List.flatMap_cons];exact List.mem_append_left _ hj
    . rcases g2 j hj with h|h
      . exact .inr (.inr (Z68 (i:=5) (qy8 ..) h))
      . exact .inl h
  . exact⟨x.sv,by rw[insX,if_pos (show hasS (x.sx.map (·.1)) c=true from qy9.1 h2)],.inl (qy9.1 h2)⟩
  rintro _ - ⟨sv',rfl,hroom⟩;have hst0:¬(¬hasS x.tel.sess c=true/\x.tel.sess.length=6):=by
    rw[Z2j,qy3];rintro⟨h3,h4⟩;rcases hroom with h|h
    . exact h3 h
    . omega
  have hk0:Zc0 x.tel.sess c p.clean=(!((insX x.sx c).getD ix sxD).1.clean && !p.clean):=by rw[Zc0,Z2j,<- Zcp,<- Z2j,<- hix,Zj2]
  have hrow:=Z7x hil1;simp only[Tree.goal,X.P,X.ev,SV.ev,CV.ev,Sc.ev,qz,QA,QB,QC,QD,QE,QF,QG,QH,QI,QJ,QK,QL,QM,Nat.reduceAdd,qy3,qy4,hrow,Zh,Value.gB];obtain⟨kn,hkn⟩:∃kn,kn=Zc0 x.tel.sess c p.clean:=⟨_,rfl⟩
  refine⟨by omega,by omega,?_⟩;refine⟨fun vs=>∃z:TelX,vs=[.i 0,.i 0,.i 0,.i 0,.i 0,.i 0,.i 0,.i 0,.i 0,.i 0,.i 0,.i 0,.v z.kv,.v z.wv,.v z.sv,.v z.av,.i z.next,.v z.ov,.r (z.kept.map encK),.r (z.wants.map Zb),.r (z.sx.map Zh),.r (z.wat.map Z8),.r (z.ox.map Z1q)]/\CnnZ x c kn w.heap.size z,⟨fun h2=>?_,fun h2=>?_⟩,?_⟩
  . have hk1:kn=false:=by
      rw[hkn,hk0];simpa using h2
    intro w1 hr1;have hsz1:=hr1.mod.size;obtain⟨q1,q2⟩:=Zn3 (l:=x.sx) (l':=(insX x.sx c).set ix (freX c)) (o:=x.ox) (fun t ht=>by
      rcases List.mem_or_eq_of_mem_set ht with ht|rfl
      . exact hnil t ht
      . exact .inr ⟨rfl,rfl,rfl,rfl⟩)
    refine(Z2r (k:=k) (x:={ x with sx:=(insX x.sx c).set ix (freX c),sv:=sv' }) (F:=fun _=>False) (pre:=[]) hr1 38 0 [36,7,10]
      (Ztl w1 k { x with sx:=(insX x.sx c).set ix (freX c),sv:=sv' } c ((Zxf hr1 (by rfl) k { x with sx:=(insX x.sx c).set ix (freX c),sv:=sv' } (q1 w1 (hr1.at_ 6 rfl)) (fun j hj=>⟨_,qy6 (i:=6) rfl,rfl,q2 j hj⟩) [3,4,1,5,6,0,8] (by decide) (Zp rfl (Zp rfl (Zp (Z4i rfl ?_) rfl)))).conv rfl) (by show x.wants.length<1000000000;omega))
      rfl rfl (Nat.succ_pos _) rfl (fun j hj=>?_)).mono ?_
    . simp only[Tree.goal,X.P,X.ev,SV.ev,CV.ev,Sc.ev,qz,QA,QB,QC,QD,QE,QF,QG,QH,QI,QJ,QK,QL,QM,Nat.reduceAdd,qy3,qy4];rw[<- Z4j];rfl
    . rcases hj with hj|hj|hj|hj
      . exact⟨_,qy6 (i:=2) rfl,rfl,hj⟩
      . exact⟨_,qy6 (i:=3) rfl,rfl,hj⟩
      . exact⟨_,qy6 (i:=6) rfl,rfl,q2 j hj⟩
      . exact hj.elim
    rintro e w7 ⟨y,⟨u,hy⟩,hsz7,hgr,rfl,m1,m2,m3,m4⟩;refine⟨tlV y,rfl,rfl,m1,m2,m3,m4,y,rfl,?_⟩;rw[hk1];refine⟨by rw[hy];exact⟨rfl,rfl⟩,by rw[hy];exact⟨rfl,rfl⟩,by rw[hy],by rw[hy];exact⟨rfl,rfl⟩,by rw[hy];rfl,by rw[hy,<- hix];rfl,fun j hj=>?_⟩;rcases hgr.want j hj with h|h
    . exact .inl (Nat.le_trans hsz1 h)
    . exact .inr h
  . have hk1:kn=true:=by
      rw[hkn,hk0];simpa using h2
    refine⟨{ x with sx:=insX x.sx c,sv:=sv' },rfl,?_⟩;rw[hk1];exact⟨⟨rfl,rfl⟩,⟨rfl,rfl⟩,rfl,⟨rfl,rfl⟩,rfl,rfl,fun j hj=>.inr hj⟩
  rintro _ - ⟨z,rfl,hz⟩;have hzm:∀t∈z.sx,t∈x.sx\/(t.1.fl=[]/\t.1.qu=[]/\t.2.1=.slice none 0 0/\t.2.2=.slice none 0 0):=by
    rw[hz.sx];split
    . exact hnil
    . intro t ht;rcases List.mem_or_eq_of_mem_set ht with ht|rfl
      . exact hnil t ht
      . exact .inr ⟨rfl,rfl,rfl,rfl⟩
  obtain⟨q1,q2⟩:=Zn3 (o:=x.ox) hzm;have hzl:ix<z.sx.length:=by
    rw[hz.sx];split
    . exact hil1
    . simpa using hil1
  obtain⟨ss,hss⟩:∃ss,ss=z.sx.getD ix sxD:=⟨_,rfl⟩
  have hmm:ss∈z.sx:=by rw[hss];exact Z5p hzl
  obtain⟨S1,hS1⟩:∃S1,S1=Zdz x.tel.sess c p.clean:=⟨_,rfl⟩
  have hcom:{ ss.1 with clean:=p.clean }=S1:=by
    rw[hS1,Zdz,<- hkn,hss,hz.sx];cases kn with
    | false =>
      simp only[Bool.false_eq_true,if_false];rw[<- hix,qy1,List.getElem?_set_self hil1];rfl
    | true =>
      simp only[if_true];rw[Z2j,<- Zcp,<- Z2j,<- hix,Zj2]
  obtain⟨hok,hcl⟩:=Zxd hb hc p.clean;rw[<- hS1]at hok hcl;simp only[Tree.goal,X.P,X.ev,SV.ev,CV.ev,Sc.ev,qz,QA,QB,QC,QD,QE,QF,QG,QH,QI,QJ,QK,QL,QM,Nat.reduceAdd,qy3,qy4];refine⟨fun vs=>vs=[],⟨by omega,rfl⟩,?_⟩;rintro _ - rfl;have hrow2:=Z7x hzl;rw[<- hss]at hrow2;obtain⟨s,s',s''⟩:=ss;have hset:(z.sx.map Zh).set ix [.string ⟨s.cl.toArray⟩,.bool s.on,.bool p.clean,sc1 s',sc1 s'',.int .i64 s.next]=(z.sx.set ix (S1,s',s'')).map Zh:=by rw[<- Z4j,<- hcom]
  simp only[Tree.goal,X.P,X.ev,SV.ev,CV.ev,Sc.ev,qz,QA,QB,QC,QD,QE,QF,QG,QH,QI,QJ,QK,QL,QM,Nat.reduceAdd,qy3,qy4,hrow2,Zh,List.getD_cons_zero,List.getD_cons_succ,Value.gI,Value.gB,Value.gS,Z1x,hset,Zn2 hzl,List.length_set];have hfl:S1.fl=s.fl/\S1.qu=s.qu:=by rw[<- hcom];exact⟨rfl,rfl⟩
  refine⟨by omega,?_⟩;intro w1 hr1;have hsz1:=hr1.mod.size;obtain⟨hs1,hs2⟩:=Zq (q1 w1 (hr1.at_ 8 rfl)) hmm;refine(Z1 (Z12b w1 S1 s' s'' (by rw[hfl.1];exact hs1) (by rw[hfl.2];exact hs2) hok.next (by have:=hok.nf;omega) (by have:=hok.nq;omega)) rfl).mono ?_;obtain⟨R,hR⟩:∃R,R=Zkc S1:=⟨_,rfl⟩
  have hR9:R.2.length<=9:=by rw[hR];exact Zti hok
  rw[<- hR];rintro e w2 ⟨u1,u2,u3,rfl,g1,g2,g3,g4,g5,g6,gm⟩;refine⟨[.s R.1.cl,.b R.1.on,.b R.1.clean,.v u1,.r (R.1.fl.map encF),.v u2,.r (R.1.qu.map encF),.i R.1.next,.v u3,.r ((R.2.map pkN).map Z3g)],rfl,rfl,gm,qy5 _,qy2.2 ⟨⟨g1,fun k hk=>.inl (g4 k hk.2)⟩,qy2.2 ⟨⟨g2,fun k hk=>.inl (g5 k hk.2)⟩,qy2.2 ⟨⟨by show reads w2 u3 kP ((R.2.map pkN).map Z3g);rw[Za6];exact g3,fun k hk=>.inl (g6 k hk.2)⟩,qy5 _⟩⟩⟩,Z7b ..,?_⟩;have n1:newV w.heap.size u1:=fun j hj=>Nat.le_trans hsz1 (g4 j hj);have n2:newV w.heap.size u2:=fun j hj=>Nat.le_trans hsz1 (g5 j hj);clear hr1 hs1 hs2 g1 g2 g3 g6 gm;intro b71;refine⟨fun vs=>vs=[],rfl,?_⟩;rintro _ - rfl;intro v72 w3 hr3;have hsz3:=hr3.mod.size;obtain⟨X3,hX3⟩:∃X3:TelX,X3={ z with sx:=z.sx.set ix (R.1,u1,u2) }:=⟨_,rfl⟩
  have hA3:∀w3:World,(Z6 x.sx x.ox).holds w3->Zn w3 u1 R.1.fl->Zn w3 u2 R.1.qu->(Z6 X3.sx X3.ox).holds w3:=fun w3 h1 h2 h3=>by rw[hX3];exact Za8 (by rw[hz.ox.1];exact q1 w3 h1) h2 h3
  have hF3:∀j,(Z6 X3.sx X3.ox).fp j->(Z6 x.sx x.ox).fp j\/((R.1.fl.map encF).flatten≠[]/\Z2 u1 j)\/((R.1.qu.map encF).flatten≠[]/\Z2 u2 j):=fun j hj=>by
    rw[hX3]at hj;rcases Z5s hj with h|h
    . rw[hz.ox.1]at h;exact .inl (q2 j h)
    . exact .inr h
  have hg3:Grew w.heap.size (fun _=>False) x X3:=by
    refine⟨fun j hj=>.inr ?_,fun j hj=>?_,fun j hj=>?_⟩
    . rw[hX3]at hj;unfold Zh3 at hj ⊢;simp only[hz.kept.1,hz.kept.2]at hj;exact hj
    . rw[hX3]at hj;exact hz.want j hj
    . rcases hF3 j hj with h|⟨-,h⟩|⟨-,h⟩
      . exact .inr (.inl h)
      . exact .inl (n1 j h)
      . exact .inl (n2 j h)
  have hX0:X3.ox=x.ox:=by rw[hX3];exact hz.ox.1
  have hXt:X3.tel={ x.tel with wants:=if Zc0 x.tel.sess c p.clean=true then x.tel.wants else x.tel.wants.filter fun w=>decide (¬w.1=c),sess:=(insS x.tel.sess c).set (idxS x.tel.sess c) R.1 }:=by
    rw[hX3];simp only[TelX.tel,hz.kept.1,hz.wants,hz.wat.1,hz.next,hz.ox.1,List.map_set,hkn];congr 1
    rw[hz.sx,hkn];rw[show x.tel.sess=x.sx.map (·.1) from rfl]at hix ⊢;split
    . rw[Zcp,hix]
    . rw[List.map_set,Zcp,hix,List.set_set]
  refine(Z2r (k:=k) (x:=X3) (F:=(Zu [pk1X { pD_Q 2 with session:=kn }]).fp) (pre:=[]) hr3 73 0 [52,53,55]
    (Z1a w3 k X3 c v72 [pk1X { pD_Q 2 with session:=kn }] (Z6j (toRd hr3) (by rfl) k X3 (Zu [pk1X { pD_Q 2 with session:=kn }]) _ _ (hA3 w3 (hr3.at_ 13 rfl) (hr3.at_ 2 rfl) (hr3.at_ 3 rfl)) (fun j hj=>?_) (Z4k rfl rfl _) (fun j hj=>absurd hj (Z2f rfl rfl)) [7,8,9,10,11,1,16,2,0] (by decide) rfl
      (by rw[hX3];exact Zp rfl (Zp rfl (Zp (Z4i rfl (by simp only[Tree.goal,X.P,X.ev,SV.ev,CV.ev,Sc.ev,qz,QA,QB,QC,QD,QE,QF,QG,QH,QI,QJ,QK,QL,QM,Nat.reduceAdd,qy3,qy4,hrow2,Zh,List.getD_cons_zero,List.getD_cons_succ,Value.gI,Value.gB,Value.gS,Z1x,hset];exact(Z4j (z.sx.set ix (S1,s',s'')) ix (R.1,u1,u2)).trans (by rw[List.set_set]))) (Zp rfl (Zp rfl (Zp rfl (Zp rfl (Zp (Zjd rfl (by simp only[Tree.goal,X.P,X.ev,SV.ev,CV.ev,Sc.ev,qz,QA,QB,QC,QD,QE,QF,QG,QH,QI,QJ,QK,QL,QM,Nat.reduceAdd,qy3,qy4,hrow,Zh,List.getD_cons_zero,List.getD_cons_succ,Value.gB];rw[hkn,hk0];rfl)) rfl))))))))) (show 1<1000000 by decide) (by rw[hX0];omega))
    rfl rfl (Nat.succ_pos _) (by rw[hX3];rfl) (fun j hj=>?_)).mono ?_
  . rcases hF3 j hj with h|h|h
    . exact⟨_,qy6 (i:=13) rfl,rfl,h⟩
    . exact⟨_,qy6 (i:=2) rfl,rfl,h⟩
    . exact⟨_,qy6 (i:=3) rfl,rfl,h⟩
  . rcases hj with hj|hj|hj|hj
    . rw[hX3]at hj;exact⟨_,qy6 (i:=5) rfl,rfl,hj⟩
    . rw[hX3]at hj;exact⟨_,qy6 (i:=6) rfl,rfl,hj⟩
    . rcases hF3 j hj with h|h|h
      . exact⟨_,qy6 (i:=13) rfl,rfl,h⟩
      . exact⟨_,qy6 (i:=2) rfl,rfl,h⟩
      . exact⟨_,qy6 (i:=3) rfl,rfl,h⟩
    . exact absurd hj (Z2f rfl rfl)
  rintro e w4 ⟨y1,hy1,hs1,hgr1,rfl,m1,m2,m3,m4⟩;refine⟨tlV y1,rfl,rfl,m1,m2,m3,m4,?_⟩;clear m1 m2 m3 m4 hr3;have l1:y1.ox.length<=x.ox.length+1:=by
    have h5:y1.tel.out.length=y1.ox.length:=by simp[TelX.tel]
    have h6:X3.tel.out.length=x.ox.length:=by rw[hXt];simp[TelX.tel]
    rw[hy1]at h5;simp only[qy11,qy3,List.length_cons,List.length_nil]at h5;omega
  intro w5 hr5;have hsz5:=hr5.mod.size;refine(Z2r (k:=k) (x:=y1) (F:=(Zu (R.2.map pkN)).fp) (pre:=[]) hr5 85 0 [77,79,82]
    (Z1a w5 k y1 c u3 (R.2.map pkN) (Z6j hr5 (by rfl) k y1 (Zu (R.2.map pkN)) _ _ (hr5.at_ 5 rfl) (fun j hj=>⟨_,qy6 (i:=5) rfl,rfl,hj⟩) (Za7 _ _) (fun j hj=>absurd hj Z6k) [2,3,4,5,6,1,19,12,0] (by decide) rfl rfl) (by rw[qy3];omega) (by omega))
    rfl rfl (Nat.succ_pos _) rfl (fun j hj=>?_)).mono ?_
  . rcases hj with hj|hj|hj|hj
    . exact⟨_,qy6 (i:=0) rfl,rfl,hj⟩
    . exact⟨_,qy6 (i:=1) rfl,rfl,hj⟩
    . exact⟨_,qy6 (i:=5) rfl,rfl,hj⟩
    . exact absurd hj Z6k
  rintro e w6 ⟨y2,hy2,hs2,hgr2,rfl,m1,m2,m3,m4⟩;refine⟨tlV y2,rfl,rfl,m1,m2,m3,m4,?_⟩;intro w7 hr7;refine⟨by trivial,y2,?_,(hr7.pick [0,1,2,3,4,5,20] (by decide)).conv rfl,(hg3.trans hgr1 hsz3 (fun j h=>absurd h (Z2f rfl rfl))).trans hgr2 hsz5 (fun j h=>absurd h Z6k)⟩;rw[hy2,hy1,hXt,Zkv,Z7k,if_neg h1,if_neg hst0,<- hS1,<- hR,hkn];rfl
def Zje (A:Asrt) (p:Prop):Asrt where
  holds w:=A.holds w/\p
  fp:=A.fp
  stable:=fun w w' h hh=>⟨A.stable w w' h hh.1,hh.2⟩
  bound:=fun w hh k hk=>A.bound w hh.1 k hk
theorem Zyi {w w1:World} {k:Nat} {x:TelX} {ρ:List V} {hp:List Ent} (h:Rel ⟨Zr (tlA k x) tlH,w⟩ ρ hp w1) {v ty:Nat} {ks:List Kd} {r:X} (h0:hp[0]?=some (.row v ty ks r)) {a b c d:Nat} {ea eb ec ed:Ent} (hn:0≠a/\0≠b/\0≠c/\0≠d) (ha:hp[a]?=some ea) (hb:hp[b]?=some eb) (hc:hp[c]?=some ec) (hd:hp[d]?=some ed) (h1:ea.fp ρ k) (h2:∀j,Z2 x.sv j->eb.fp ρ j) (h3:∀j,Z2 x.av j->ec.fp ρ j) (h4:∀j,Z2 x.ov j->ed.fp ρ j) : ∀j,Z2 (ρ.getD v (.i 0)).toV j->w.heap.size<=j:=fun j hj=>by
  rcases h.own _ (qy6 h0) rfl j hj with g|g
  . exact g
  . exfalso;have key:∀(i:Nat) (e:Ent),hp[i]?=some e->0≠i->e.fp ρ j->False:=fun i e he hi hf=>h.sep.disj (i:=0) (j:=i) h0 he hi (.inl rfl) hj hf;rcases List.mem_cons.1 (Zot g) with g|g
    . exact key a _ ha hn.1 (by rw[g];exact h1)
    . rcases qy13.1 g with g|g
      . exact key b _ hb hn.2.1 (h2 j (Option.mem_toList.1 g))
      . rcases qy13.1 g with g|g
        . exact key c _ hc hn.2.2.1 (h3 j (Option.mem_toList.1 g))
        . rcases qy13.1 g with g|g
          . exact key d _ hd hn.2.2.2 (h4 j (Option.mem_toList.1 g))
          . cases g
theorem Zn4 (c:List UInt8):∀(l:List Ak) (x:List Wt×List Int),(l.foldl (Z52 c) x).2.length=x.2.length+l.length
  | [],_=>rfl
  | a::l,x=>by rw[List.foldl_cons,Zn4 c l,Z52];split<;>simp<;>omega
theorem Zfy (c:List UInt8) (kept:List Kp):∀(l:List Ak) (m:List Int) (i:Nat),i<l.length->i<m.length->Z5o c kept (l.take (i+1)) (m.take (i+1))=Z5o c kept (l.take i) (m.take i)++Zos c kept (l.getD i aD) (m.getD i 0)
  | [],_,_,h,_=>by simp at h
  | _,[],_,_,h=>by simp at h
  | a::l,q::m,0,_,_=>by simp[Z5o]
  | a::l,q::m,i+1,h1,h2=>by have:=Zfy c kept l m i (by simpa using h1) (by simpa using h2);simp only[List.take_succ_cons,Z5o,List.getD_cons_succ,List.append_assoc]at this ⊢;rw[this]
def ackX (n:Int) (cs:List Int) (u:Value):Z6e:=({ pD_Q 9 with id:=n,codes:=cs },.slice none 0 0,u)
theorem Ztv {n:Int} {cs:List Int} {u:Value} {w:World} (h:Z72 w u cs):(Zu [ackX n cs u]).holds w:=by
  intro t ht;simp only[List.flatMap_cons,List.flatMap_nil,List.append_nil,Zh4,ackX,List.mem_cons,List.not_mem_nil,or_false]at ht;rcases ht with rfl|rfl
  . exact Z9 _ _
  . exact h
theorem Ztw {n:Int} {cs:List Int} {u:Value} {j:Nat} (h:(Zu [ackX n cs u]).fp j):(cs.map Z1h).flatten≠[]/\Z2 u j:=by
  obtain⟨t,ht,h1,h2⟩:=h;simp only[List.flatMap_cons,List.flatMap_nil,List.append_nil,Zh4,ackX,List.mem_cons,List.not_mem_nil,or_false]at ht;rcases ht with rfl|rfl
  . exact absurd rfl h1
  . exact⟨h1,h2⟩
def Zxn (k:Kp):Pkt:={ pD_Q 3 with retain:=true,topic:=k.1,payload:=k.2.1 }
set_option maxRecDepth 2000 in
theorem Zkx (w:World) (k:Nat) (x:TelX) (c:List UInt8) (p:Pkt) (va vc:Value) (hr:Rel ⟨Zr (tlA k x) tlH,w⟩ (tlA k x++Z5t c p va vc) (tlH++pkHp) w) (hb:BOk x.tel) (ho:x.ox.length<50000) (hc:Z12 c=true) (hp:Zmz p.asks) (hl:p.asks.length<=5) : Calls Tryz.prog 131 #[.pointer (some ⟨k,0,none⟩),.string ⟨c.toArray⟩,Zp1 p va vc] w fun e w'=>e=.returned (.tuple #[])/\Z78 w w' k x (fun _=>False) (Z7l c p x.tel):=by
  refine Z1 (Z3 (ρ:=tlA k x++Z5t c p va vc) (sxE_ok.joins _) Tryz.func131 Z3v rfl rfl hr rfl rfl ?_) rfl;simp only[Tree.goal,X.P,X.ev,SV.ev,CV.ev,Sc.ev,qz,QA,QB,QC,QD,QE,QF,QG,QH,QI,QJ,QK,QL,QM,Nat.reduceAdd,qy3,qy4,gA0,gA1,gI0,gK0,gK1];intro b30 b31;have hkt:chkK x.kept=0:=hb.kept;have hk16:x.kept.length<=16:=(Z15.1 hkt).1;have hol:x.tel.out.length=x.ox.length:=by simp[TelX.tel]
  have lenX:∀y:TelX,y.tel.out.length=y.ox.length:=fun y=>by simp[TelX.tel]
  obtain⟨PF,hPF⟩:∃PF:Value->Prop,PF=fun u=>∀j,Z2 u j->w.heap.size<=j:=⟨_,rfl⟩
  refine⟨Zje (Z6 x.sx x.ox) (PF (.slice none 0 0)),fun w hr=>⟨hr.at_ 7 rfl,by rw[hPF];exact Zgx _⟩,fun j hj=>⟨_,qy6 (i:=7) rfl,rfl,hj⟩,?_⟩;refine⟨fun vs=>∃(i:Nat) (W:List Wt) (v u:Value) (cs:List Int),vs=[.i i,.a (Zje (Z6 x.sx x.ox) (PF u)),.i 9,.b false,.b false,.b false,.b false,.i 0,.i p.id,.i 0,.i 0,.s [],.s [],.s [],.v (.slice none 0 0),.r [],.v u,.r (cs.map Z1h),.v x.kv,.r (x.kept.map encK),.v v,.r (W.map Zb),.v x.sv,.r (x.sx.map Zh),.v x.av,.r (x.wat.map Z8),.i x.next,.v x.ov,.r (x.ox.map Z1q)]/\i<=p.asks.length/\(p.asks.take i).foldl (Z52 c) (x.wants,[])=(W,cs)/\(∀j,(W.map Zb).flatten≠[]/\Z2 v j->w.heap.size<=j\/Zc3 x j),
    fun vs=>(p.asks.length - (vs.getD 0 (.i 0)).toI).toNat,⟨0,x.wants,x.wv,.slice none 0 0,[],rfl,by omega,rfl,fun j hj=>.inr hj⟩,?_⟩
  rintro _ - ⟨i,W,v,u,cs,rfl,hi,hf,hwn⟩;simp only[Tree.goal,X.P,X.ev,SV.ev,CV.ev,Sc.ev,qz,QA,QB,QC,QD,QE,QF,QG,QH,QI,QJ,QK,QL,QM,Nat.reduceAdd,qy3,qy4,gA0,gA1,gI0,gK0,gK1];have hW:Zf W=0:=by have:=(Ztk hc (p.asks.take i) (x:=(x.wants,[])) (fun a ha=>hp a (List.mem_of_mem_take ha)) hb.wants).1;rw[hf]at this;exact this
  have hcl:cs.length=i:=by have:=Zn4 c (p.asks.take i) (x.wants,[]);rw[hf]at this;simp only[List.length_nil,List.length_take]at this;omega
  refine⟨fun h1=>?_,fun h1=>?_⟩
  . have hi':i<p.asks.length:=by omega
    have hstep:(p.asks.take (i+1)).foldl (Z52 c) (x.wants,[])=Z52 c (W,cs) (p.asks.getD i aD):=by rw[Zox aD _ _ hi',List.foldl_append,hf];rfl
    refine⟨by omega,fun b62=>?_⟩;intro w1 hr1;have hz1:=hr1.mod.size;refine(Z12q w1 v W (c,(p.asks.getD i aD).1,(p.asks.getD i aD).2) (hr1.at_ 5 rfl) (Z18.1 hW).2.2 (Z18.1 hW).1).mono ?_;obtain⟨R,hR⟩:∃R,R=rawW W (c,(p.asks.getD i aD).1,(p.asks.getD i aD).2):=⟨_,rfl⟩
    rw[<- hR];rintro e w2 ⟨v',rfl,a1,a2,am⟩;refine⟨[.v v',.r (R.1.map Zb),.i R.2],rfl,rfl,am,qy5 _,qy2.2 ⟨⟨a1,fun k hk=>.inl (a2 k hk.2)⟩,qy5 _⟩,Z4,?_⟩;simp only[Tree.goal,X.P,X.ev,SV.ev,CV.ev,Sc.ev,qz,QA,QB,QC,QD,QE,QF,QG,QH,QI,QJ,QK,QL,QM,Nat.reduceAdd,qy3,qy4,gA0,gA1,gI0,gK0,gK1];have hwn':∀j,(R.1.map Zb).flatten≠[]/\Z2 v' j->w.heap.size<=j\/Zc3 x j:=fun j hj=>.inl (Nat.le_trans hz1 (a2 j hj.2));clear hr1 a1 am;refine⟨fun h2=>?_,fun h2=>?_⟩
    . intro v66;refine⟨by first|omega|(simp;omega),fun v67=>⟨by omega,by omega,Zje (Z6 x.sx x.ox) (PF v67),fun w3 hr3=>⟨(hr3.at_ 4 rfl:(Zje (Z6 x.sx x.ox) (PF u)).holds w3).1,?_⟩,fun j hj=>⟨_,qy6 (i:=4) rfl,rfl,hj⟩,⟨i+1,R.1,v',v67,cs++[(p.asks.getD i aD).2],?_,by omega,?_,hwn'⟩,by omega⟩⟩
      . rw[hPF];exact Zyi hr3 rfl (a:=13) (b:=9) (c:=10) (d:=11) (by decide) rfl rfl rfl rfl rfl (fun j h=>h) (fun j h=>h) (fun j h=>h)
      . rw[List.map_append];rfl
      . rw[hstep,Z52]
        show (if (rawW W (c,(p.asks.getD i aD).1,(p.asks.getD i aD).2)).2=0 then _ else _)=_
        rw[<- hR,if_pos h2]
    . intro v66;refine⟨by first|omega|(simp;omega),fun v67=>⟨by omega,by omega,Zje (Z6 x.sx x.ox) (PF v67),fun w3 hr3=>⟨(hr3.at_ 4 rfl:(Zje (Z6 x.sx x.ox) (PF u)).holds w3).1,?_⟩,fun j hj=>⟨_,qy6 (i:=4) rfl,rfl,hj⟩,⟨i+1,W,v,v67,cs++[128],?_,by omega,?_,hwn⟩,by omega⟩⟩
      . rw[hPF];exact Zyi hr3 rfl (a:=13) (b:=9) (c:=10) (d:=11) (by decide) rfl rfl rfl rfl rfl (fun j h=>h) (fun j h=>h) (fun j h=>h)
      . rw[List.map_append];rfl
      . rw[hstep,Z52]
        show (if (rawW W (c,(p.asks.getD i aD).1,(p.asks.getD i aD).2)).2=0 then _ else _)=_
        rw[<- hR,if_neg h2]
  . have hie:i=p.asks.length:=by omega
    subst hie;rw[List.take_length]at hf;have hA1:Zkn c x.wants p.asks=(W,cs):=hf;intro v62 w1 hr1;have hz1:=hr1.mod.size;have hu:∀j,Z2 u j->w.heap.size<=j:=by have:=(hr1.at_ 1 rfl:(Zje (Z6 x.sx x.ox) (PF u)).holds w1).2;rw[hPF]at this;exact this
    have hg0:Grew w.heap.size (fun _=>False) x { x with wants:=W,wv:=v }:=⟨fun j hj=>.inr hj,hwn,fun j hj=>.inr (.inl hj)⟩
    refine(Z2r (k:=k) (x:={ x with wants:=W,wv:=v }) (F:=(Zu [ackX p.id cs u]).fp) (pre:=[]) hr1 63 0 [55,57,60]
      (Z1a w1 k { x with wants:=W,wv:=v } c v62 [ackX p.id cs u] (Z6j (toRd hr1) (by rfl) k { x with wants:=W,wv:=v } (Zu [ackX p.id cs u]) _ _ (hr1.at_ 1 rfl:(Zje (Z6 x.sx x.ox) (PF u)).holds w1).1 (fun j hj=>⟨_,qy6 (i:=1) rfl,rfl,hj⟩) (Ztv (hr1.at_ 14 rfl)) (fun j hj=>⟨_,qy6 (i:=14) rfl,rfl,Ztw hj⟩) [6,7,8,9,10,1,12,2,0] (by decide) rfl rfl) (show 1<1000000 by decide) (by show x.ox.length<1000000;omega))
      rfl rfl (Nat.succ_pos _) rfl (fun j hj=>?_)).mono ?_
    . rcases hj with hj|hj|hj|hj
      . exact⟨_,qy6 (i:=4) rfl,rfl,hj⟩
      . exact⟨_,qy6 (i:=5) rfl,rfl,hj⟩
      . exact⟨_,qy6 (i:=1) rfl,rfl,hj⟩
      . exact⟨_,qy6 (i:=14) rfl,rfl,Ztw hj⟩
    rintro e w2 ⟨y1,hy1,hs1,hg1,rfl,m1,m2,m3,m4⟩;refine⟨tlV y1,rfl,rfl,m1,m2,m3,m4,?_⟩;clear m1 m2 m3 m4;have G1:Grew w.heap.size (fun _=>False) x y1:=hg0.trans hg1 hz1 (fun j h=>.inl (hu j (Ztw h).2));have ky1:y1.kept=x.kept:=congrArg Tel.kept hy1;have T1:y1.tel={ x.tel with wants:=W,out:=x.tel.out++[toC c { pD_Q 9 with id:=p.id,codes:=cs }] }:=hy1;have L1:y1.tel.out.length=x.ox.length+1:=by rw[T1];simp only[qy11,List.length_cons,List.length_nil,hol]
    clear hr1;refine⟨Z6 y1.sx y1.ox,fun w hr=>hr.at_ 5 rfl,fun j hj=>⟨_,qy6 (i:=5) rfl,rfl,hj⟩,?_⟩;refine⟨fun vs=>∃(i:Nat) (z:TelX),vs=[.i i,.a (Z6 z.sx z.ox),.v z.kv,.r (z.kept.map encK),.v z.wv,.r (z.wants.map Zb),.v z.sv,.r (z.sx.map Zh),.v z.av,.r (z.wat.map Z8),.i z.next,.v z.ov,.r (z.ox.map Z1q)]/\i<=p.asks.length/\z.tel={ y1.tel with out:=y1.tel.out++Z5o c x.kept (p.asks.take i) (cs.take i) }/\Grew w.heap.size (fun _=>False) x z,
      fun vs=>(p.asks.length - (vs.getD 0 (.i 0)).toI).toNat,⟨0,y1,rfl,by omega,by simp[Z5o],G1⟩,?_⟩
    rintro _ - ⟨i,z,rfl,hi2,hzt,hgz⟩;simp only[Tree.goal,X.P,X.ev,SV.ev,CV.ev,Sc.ev,qz,QA,QB,QC,QD,QE,QF,QG,QH,QI,QJ,QK,QL,QM,Nat.reduceAdd,qy3,qy4,gA0,gA1,gI0,gK0,gK1];have zk:z.kept=x.kept:=by have:=congrArg Tel.kept hzt;exact this.trans ky1
    have zl:z.ox.length<=x.ox.length+81:=by have h5:=Zj8 c hkt (p.asks.take i) (cs.take i);have h6:=lenX z;rw[hzt]at h6;simp only[qy11,List.length_take]at h5 h6;omega
    refine⟨fun h2=>?_,fun h2 w3 hr3=>?_⟩
    . have hi3:i<p.asks.length:=by omega
      have hlt:=Zfy c x.kept p.asks cs i hi3 (by omega);refine⟨by omega,fun b89=>⟨by omega,fun h3=>?_,fun h3=>?_⟩⟩
      . refine⟨by omega,by omega,Z6 z.sx z.ox,fun w hr=>hr.at_ 1 rfl,fun j hj=>⟨_,qy6 (i:=1) rfl,rfl,hj⟩,⟨i+1,z,rfl,by omega,?_,hgz⟩,by omega⟩;rw[hlt,Zos,if_pos h3,List.append_nil];exact hzt
      . intro w4 hr4;have hz4:=hr4.mod.size;have hak:=hp (p.asks.getD i aD) (by rw[qy1,qy7 hi3];exact List.getElem_mem hi3);refine(Z12h w4 z.kv z.kept (p.asks.getD i aD).1 (hr4.at_ 2 rfl) (by rw[zk];exact fun y hy=>by have:=(Z73.1 ((Z15.1 hkt).2.1 y hy).1).2.1.1;omega) (by rw[zk];omega) (by have:=(Z73.1 hak.1).2.1.1;omega)).mono ?_;rintro e w5 ⟨v',rfl,a1,a2,am⟩;obtain⟨K,hK⟩:∃K,K=z.kept.filter (forF (p.asks.getD i aD).1):=⟨_,rfl⟩
        rw[<- hK]at a1;refine⟨[.v v',.r (K.map encK)],rfl,rfl,am,qy5 _,qy2.2 ⟨⟨a1,fun k hk=>.inl (a2 k hk.2)⟩,qy5 _⟩,Z4,?_⟩;have hK16:K.length<=16:=by rw[hK,zk];exact Nat.le_trans (List.length_filter_le _ _) hk16
        clear hr4 a1 a2 am;refine⟨Z6 z.sx z.ox,fun w hr=>hr.at_ 2 rfl,fun j hj=>⟨_,qy6 (i:=2) rfl,rfl,hj⟩,?_⟩;refine⟨fun vs=>∃(j:Nat) (y:TelX),vs=[.i j,.a (Z6 y.sx y.ox),.v y.kv,.r (y.kept.map encK),.v y.wv,.r (y.wants.map Zb),.v y.sv,.r (y.sx.map Zh),.v y.av,.r (y.wat.map Z8),.i y.next,.v y.ov,.r (y.ox.map Z1q)]/\j<=K.length/\y.tel={ z.tel with out:=z.tel.out++(K.take j).map fun k=>toC c (Zxn k) }/\Grew w.heap.size (fun _=>False) x y,
          fun vs=>(K.length - (vs.getD 0 (.i 0)).toI).toNat,⟨0,z,rfl,by omega,by simp,hgz⟩,?_⟩
        rintro _ - ⟨j,y,rfl,hj,hyt,hgy⟩;simp only[Tree.goal,X.P,X.ev,SV.ev,CV.ev,Sc.ev,qz,QA,QB,QC,QD,QE,QF,QG,QH,QI,QJ,QK,QL,QM,Nat.reduceAdd,qy3,qy4,gA0,gA1,gI0,gK0,gK1];have yl:y.ox.length<=x.ox.length+97:=by have h6:=lenX y;rw[hyt]at h6;simp only[qy11,qy3,List.length_take,lenX z]at h6;omega
        refine⟨fun h4=>?_,fun h4=>?_⟩
        . have hj':j<K.length:=by omega
          refine⟨by omega,fun b106 v107 w6 hr6=>?_⟩;have hz6:=hr6.mod.size;refine(Z2r (k:=k) (x:=y) (F:=(Zu [pk1X (Zxn (K.getD j kD))]).fp) (pre:=[]) hr6 108 0 [99,101,104]
            (Z1a w6 k y c v107 [pk1X (Zxn (K.getD j kD))] (Z6j (toRd hr6) (by rfl) k y (Zu [pk1X (Zxn (K.getD j kD))]) _ _ (hr6.at_ 2 rfl) (fun j hj=>⟨_,qy6 (i:=2) rfl,rfl,hj⟩) (Z4k rfl rfl _) (fun j hj=>absurd hj (Z2f rfl rfl)) [8,9,10,11,12,1,21,2,0] (by decide) rfl
              (Zp rfl (Zp rfl (Zp rfl (Zp rfl (Zp rfl (Zp rfl (Zp rfl (Zp (Zjd rfl (by simp only[Tree.goal,X.P,X.ev,SV.ev,CV.ev,Sc.ev,qz,QA,QB,QC,QD,QE,QF,QG,QH,QI,QJ,QK,QL,QM,Nat.reduceAdd,qy3,qy4,gA0,gA1,gI0,gK0,gK1];rfl)) rfl))))))))) (show 1<1000000 by decide) (by omega))
            rfl rfl (Nat.succ_pos _) rfl (fun j hj=>?_)).mono ?_
          . rcases hj with hj|hj|hj|hj
            . exact⟨_,qy6 (i:=6) rfl,rfl,hj⟩
            . exact⟨_,qy6 (i:=7) rfl,rfl,hj⟩
            . exact⟨_,qy6 (i:=2) rfl,rfl,hj⟩
            . exact absurd hj (Z2f rfl rfl)
          rintro e w7 ⟨y2,hy2,hs2,hg2,rfl,m1,m2,m3,m4⟩;refine⟨tlV y2,rfl,rfl,m1,m2,m3,m4,?_⟩;refine⟨by omega,by omega,Z6 y2.sx y2.ox,fun w hr=>hr.at_ 5 rfl,fun j hj=>⟨_,qy6 (i:=5) rfl,rfl,hj⟩,⟨j+1,y2,rfl,by omega,?_,hgy.trans hg2 hz6 (fun j h=>absurd h (Z2f rfl rfl))⟩,by omega⟩;rw[hy2,hyt,Zox kD K j hj'];simp only[List.map_append,List.map_cons,List.map_nil,List.append_assoc];rfl
        . have hje:j=K.length:=by omega
          rw[hje,List.take_length]at hyt;refine⟨by omega,by omega,Z6 y.sx y.ox,fun w hr=>hr.at_ 0 rfl,fun j hj=>⟨_,qy6 (i:=0) rfl,rfl,hj⟩,⟨i+1,y,rfl,by omega,?_,hgy⟩,by omega⟩;rw[hyt,hzt,hlt,Zos,if_neg h3,hK,zk];simp only[List.append_assoc];rfl
    . have hie:i=p.asks.length:=by omega
      refine⟨by trivial,z,?_,(hr3.pick [1,2,3,4,5,0,14] (by decide)).conv rfl,hgz⟩;rw[hzt,T1,hie,List.take_length,List.take_of_length_le (by omega),Z7l]
      show _=({ x.tel with wants:=(Zkn c x.wants p.asks).1,out:=x.tel.out++[toC c { pD_Q 9 with id:=p.id,codes:=(Zkn c x.wants p.asks).2 }]++Z5o c x.kept p.asks (Zkn c x.wants p.asks).2 }:Tel)
      rw[hA1]
end Go.Proofs.YtkhakgbnfapifaaGreatDoor
