/- By an AI agent. -/
import Derived.Test.YtfcofbfbgcbocaaGreatDoorR14
set_option linter.all false
set_option maxHeartbeats 20000000
namespace Go.Proofs.Y
open Go Go.Sx
theorem Zj4{rs:List Rd}{i:Nat}{f:Tel->Rd->Tel}{t:Tel}(h:i<rs.length):(rs.take (i+1)).foldl f t=f ((rs.take i).foldl f t) (rs.getD i yD):=by rw[Z1f3 rs i h,List.foldl_append];rfl
theorem Z8q{J:List V}{u v x:Nat}{ks ks' ks'':List Kd}{r r' r'':X}:Zp J [.rd u ks r,.rd v ks' r',.rd x ks'' r'']:=by
 refine List.pairwise_cons.2 ⟨λe he=>?_,List.pairwise_cons.2 ⟨λe he=>?_,List.pairwise_singleton _ _⟩⟩
 ·rintro(h|h)
  ·cases h
  ·rcases List.mem_cons.1 he with rfl|he
   ·cases h
   ·rw[qy12.1 he]at h;cases h
 ·rintro(h|h)
  ·cases h
  ·rw[qy12.1 he]at h;cases h
abbrev optX(s:Snt)(v:Value):SntX:=(s,.slice none 0 0,.slice none 0 0,v)
theorem Z179(q b:Int):(if b<q then b else q)=min q b:=by split<;>omega
set_option maxRecDepth 2000 in
theorem Znm(w:World)(k:Nat)(x:TelX)(n p:List UInt8)(q:Int)(hr:Rel ⟨Zl (tlA k x) tlH,w⟩ (tlA k x++[.s n,.s p,.i q]) tlH w)(hb:BOk x.tel)(ho:x.ox.length<100000)(hsm:Z30 x.wants)(hp:flE (0,n,p)=0)(hq:0<=q/\q<=1) : Calls Tryz.prog 187 #[.pointer (some ⟨k,0,none⟩),.string ⟨n.toArray⟩,.string ⟨p.toArray⟩,.int .i64 q] w λe w'=>e=.returned (.tuple #[])/\Z8o w w' k x (λ_=>False) (Z7g n p q x.tel):=by
  refine Z1 (Z3 (J:=tlA k x++[.s n,.s p,.i q]) (sxE_ok.joins _) Tryz.func187 Z7j rfl rfl hr rfl rfl ?_) rfl;simp only[QQ,Nat.reduceAdd,qy3,qy4,gY0,gY1];have hn60:n.length<=60:=by
    have h1:chkT n false=0:=by
      unfold flE at hp;split at hp
      . assumption
      . exact absurd hp (by assumption)
    exact(Za3.1 h1).2.1.1
  intro w1 hr1;refine(c_Of w1 x.wv x.wants n (hr1.at_ 1 rfl) hsm (by omega) hb.wants).mono ?_;rintro e w2 ⟨v0,rfl,a1,a2,am⟩;obtain⟨rs,hrs⟩:∃rs,rs=rdOf n x.wants:=⟨_,rfl⟩
  rw[<- hrs]at a1;have hrl:rs.length<=20:=by rw[hrs];exact Z178 n hb.wants
  have hrd:∀r∈rs,hasS x.tel.sess r.1=true:=by rw[hrs];exact Z7o hb n
  refine⟨[.v v0,.r (rs.map encY)],rfl,rfl,am,qy5 _,qy2.2 ⟨⟨a1.reads,λk hk=>.inl (a2 k hk.2)⟩,qy5 _⟩,Z5,?_⟩;clear hr1 a1 a2 am hr;simp only[QQ,Nat.reduceAdd,qy3,qy4,gY0,gY1];refine⟨Z6 x.sx x.ox,λw hr=>hr.at_ 6 rfl,λj hj=>(qE 6 rfl rfl hj),?_⟩;refine⟨λvs=>∃(i:Nat) (y:TelX),vs=[.i i,.a (Z6 y.sx y.ox),.v y.kv,.r (y.kept.map encK),.v y.wv,.r (y.wants.map Zb),.v y.sv,.r (y.sx.map Zg),.v y.av,.r (y.wat.map Z8),.i y.next,.v y.ov,.r (y.ox.map Z1r)]/\i<=rs.length/\y.tel=(rs.take i).foldl (Z1s n p q) x.tel/\Grew w.heap.size (λ_=>False) x y,
    λvs=>(rs.length - (vs.getD 0 (.i 0)).toI).toNat,⟨0,x,rfl,by omega,rfl,.refl _ _ _⟩,?_⟩
  rintro _ - ⟨i,y,rfl,hi,htel,hg⟩;simp only[QQ,Nat.reduceAdd,qy3,qy4,gY0,gY1];obtain⟨k1,k2,k3,k4,k5,k6,k7⟩:=Zby (q:=q) hp (rs.take i) hb (λr hr=>hrd r (List.mem_of_mem_take hr));rw[<- htel]at k1 k2 k3 k4 k5 k6 k7;have hol:y.ox.length<=x.ox.length+140:=by
    have h1:y.tel.out.length=y.ox.length:=by simp[TelX.tel]
    have h2:x.tel.out.length=x.ox.length:=by simp[TelX.tel]
    have h3:(rs.take i).length<=20:=by simp;omega
    omega
  refine⟨λh1=>?_,λh1=>?_⟩
  . have hi':i<rs.length:=by omega
    have hmem:rs.getD i yD∈rs:=memY rs i hi';have hh0:hasS y.tel.sess (rs.getD i yD).1=true:=by rw[Zgl hb.sort k2];exact hrd _ hmem
    obtain⟨hlt,hse⟩:=Zvt hh0;have hok:SesOk (y.sx.getD (idxS y.tel.sess (rs.getD i yD).1) sxD).1:=by rw[hse];exact Zbx k1 hh0
    have hqr:0<=(rs.getD i yD).2/\(rs.getD i yD).2<=1:=by obtain⟨z,hz,-,-,e⟩:=Zsq (n:=n) hb.wants (y:=rs.getD i yD) (by show rs.getD i yD∈rdOf n x.wants;rw[<- hrs];exact hmem);have:=(Zsc hb.wants z hz).2.2;omega
    refine⟨by omega,λb1=>⟨[.i (idxS y.tel.sess (rs.getD i yD).1),.b (hasS y.tel.sess (rs.getD i yD).1)],rfl,λ_ w' hr=>Zge w' y.sv y.sx (rs.getD i yD).1 (hr.at_ 5 rfl).reads k1.sort (by have:=k1.ns;rw[Z33,qy3]at this;omega),?_⟩⟩;generalize hix:idxS y.tel.sess (rs.getD i yD).1=ix at hlt hse hok
    simp only[QQ,Nat.reduceAdd,qy3,qy4,gY0,gY1];have hrow:=Zbt hlt;simp only[hrow,Zg,List.getD_cons_zero,List.getD_cons_succ,Value.gI,Value.gB,Value.gS,Z1p];have hS0:(y.sx.getD ix sxD)=(y.sx.getD ix sxD):=rfl;generalize hss:y.sx.getD ix sxD=ss at hok hse
    obtain⟨s,s',s''⟩:=ss;simp only at hok hse⊢;obtain⟨S,hS⟩:∃S,S=Z2u s n p (min q (rs.getD i yD).2):=⟨_,rfl⟩
    have hcl':S.1.cl=s.cl/\S.1.on=s.on/\S.1.clean=s.clean:=by rw[hS];exact⟨Z10j _ _ _ _,(Z10k _ _ _ _).1,(Z10k _ _ _ _).2⟩
    have hS7:S.2.length<=7:=by rw[hS];exact Ziz n p _ hok.nq
    have hT2:∀u1 u2:Value,Z1s n p q y.tel (rs.getD i yD)={ (TelX.tel { y with sx:=y.sx.set ix (S.1,u1,u2) })with out:=(TelX.tel { y with sx:=y.sx.set ix (S.1,u1,u2) }).out++(S.2.map pkN).map λt=>toC (rs.getD i yD).1 t.1 }:=λu1 u2=>by rw[Zq9,Z1s,hix,<- hse,<- hS];simp only[TelX.tel,List.map_set]
    refine⟨by omega,by omega,?_,?_⟩
    . intro w1 hr1;have hs0:=Zz (hr1.at_ 1 rfl:(Z6 y.sx y.ox).holds w1) (Z7i hlt);rw[hss]at hs0;obtain⟨hs1,hs2⟩:=hs0;rw[Z179];refine(Z1 (Zye w1 s s' s'' n p (min q (rs.getD i yD).2) hs1 hs2 hok.next (by have:=hok.nf;omega) (by have:=hok.nq;omega)) rfl).mono ?_;rw[<- hS];rintro e w2 ⟨u1,u2,u3,rfl,g1,g2,g3,g4,g5,g6,gm⟩;refine⟨[.s s.cl,.b s.on,.b s.clean,.v u1,.r (S.1.fl.map encF),.v u2,.r (S.1.qu.map encF),.i S.1.next,.v u3,.r ((S.2.map pkN).map Z47)],rfl,?_,gm,qy5 _,qy2.2 ⟨⟨g1,λk hk=>.inl (g4 k hk.2)⟩,qy2.2 ⟨⟨g2,λk hk=>.inl (g5 k hk.2)⟩,qy2.2 ⟨⟨by show reads w2 u3 kP ((S.2.map pkN).map Z47);rw[Zbz];exact g3,λk hk=>.inl (g6 k hk.2)⟩,qy5 _⟩⟩⟩,Z8q ..,?_⟩
      . simp only[QQ,Nat.reduceAdd,sesV,hcl'.1,hcl'.2.1,hcl'.2.2]
      have hnw:w.heap.size<=w1.heap.size:=hr1.mod.size;clear hr1;simp only[QQ,Nat.reduceAdd,qy3,qy4];intro b2;intro w3 hr3;have hsz3:w.heap.size<=w3.heap.size:=hr3.mod.size;have hA3:(Z6 (y.sx.set ix (S.1,u1,u2)) y.ox).holds w3:=Zc1 (hr3.at_ 5 rfl) (hr3.at_ 1 rfl) (hr3.at_ 2 rfl);have hf3:∀j,(Z6 (y.sx.set ix (S.1,u1,u2)) y.ox).fp j->(Z6 y.sx y.ox).fp j\/((S.1.fl.map encF).flatten≠[]/\Z2 u1 j)\/((S.1.qu.map encF).flatten≠[]/\Z2 u2 j):=λj hj=>(Z6r hj).elim (λh=>.inl h) (λh=>.inr h);refine(Z3g (k:=k) (x:={ y with sx:=y.sx.set ix (S.1,u1,u2) }) (F:=(Z11 (S.2.map pkN)).fp) (pre:=[]) hr3 46 0 [25,27,30]
        (Z1j w3 k { y with sx:=y.sx.set ix (S.1,u1,u2) } (rs.getD i yD).1 u3 (S.2.map pkN) (Z82 hr3 (by rfl) k { y with sx:=y.sx.set ix (S.1,u1,u2) } (Z11 (S.2.map pkN)) _ _ hA3 (λj hj=>?_) (Zc0 _ _) (λj hj=>absurd hj Z83) [9,10,11,12,13,1,15,5,0] (by decide) rfl (Zo rfl (Zo rfl (Zo (Z46 rfl ?_) rfl)))) (by rw[qy3];omega) (by show y.ox.length<1000000;omega))
        rfl rfl (Nat.succ_pos _) rfl (λj hj=>?_)).mono ?_
      . rcases hf3 j hj with h|h|h
        . exact(qE 5 rfl rfl h)
        . exact(qE 1 rfl rfl h)
        . exact(qE 2 rfl rfl h)
      . simp only[QQ,Nat.reduceAdd,qy3,qy4];rw[<- Z54];simp only[hcl'.1,hcl'.2.1,hcl'.2.2]
      . rcases hj with hj|hj|hj|hj
        . exact(qE 7 rfl rfl hj)
        . exact(qE 8 rfl rfl hj)
        . rcases hf3 j hj with h|h|h
          . exact(qE 5 rfl rfl h)
          . exact(qE 1 rfl rfl h)
          . exact(qE 2 rfl rfl h)
        . exact absurd hj Z83
      rintro e w4 ⟨y2,hy2,hsz4,hgr,rfl,m1,m2,m3,m4⟩;refine⟨tlV y2,rfl,rfl,m1,m2,m3,m4,?_⟩;simp only[QQ,Nat.reduceAdd,qy3,qy4];refine⟨by omega,by omega,Z6 y2.sx y2.ox,λw hr=>hr.at_ 5 rfl,λj hj=>(qE 5 rfl rfl hj),⟨i+1,y2,rfl,by omega,?_,?_⟩,by omega⟩
      . rw[hy2,<- hT2 u1 u2,htel,Zj4 (f:=Z1s n p q) hi']
      . exact(Zeu hg hnw (λj h=>g4 j h) (λj h=>g5 j h)).trans hgr hsz3 (λj h=>absurd h Z83)
    . intro b2;intro w1 hr1;have hs0:=Zz (hr1.at_ 2 rfl:(Z6 y.sx y.ox).holds w1) (Z7i hlt);rw[hss]at hs0;obtain⟨hs1,hs2⟩:=hs0;rw[Z179];refine(Z1 (Zye w1 s s' s'' n p (min q (rs.getD i yD).2) hs1 hs2 hok.next (by have:=hok.nf;omega) (by have:=hok.nq;omega)) rfl).mono ?_;rw[<- hS];rintro e w2 ⟨u1,u2,u3,rfl,g1,g2,g3,g4,g5,g6,gm⟩;refine⟨[.s s.cl,.b s.on,.b s.clean,.v u1,.r (S.1.fl.map encF),.v u2,.r (S.1.qu.map encF),.i S.1.next,.v u3,.r ((S.2.map pkN).map Z47)],rfl,?_,gm,qy5 _,qy2.2 ⟨⟨g1,λk hk=>.inl (g4 k hk.2)⟩,qy2.2 ⟨⟨g2,λk hk=>.inl (g5 k hk.2)⟩,qy2.2 ⟨⟨by show reads w2 u3 kP ((S.2.map pkN).map Z47);rw[Zbz];exact g3,λk hk=>.inl (g6 k hk.2)⟩,qy5 _⟩⟩⟩,Z8q ..,?_⟩
      . simp only[QQ,Nat.reduceAdd,sesV,hcl'.1,hcl'.2.1,hcl'.2.2]
      have hnw:w.heap.size<=w1.heap.size:=hr1.mod.size;clear hr1;simp only[QQ,Nat.reduceAdd,qy3,qy4];intro w3 hr3;have hsz3:w.heap.size<=w3.heap.size:=hr3.mod.size;have hA3:(Z6 (y.sx.set ix (S.1,u1,u2)) y.ox).holds w3:=Zc1 (hr3.at_ 5 rfl) (hr3.at_ 0 rfl) (hr3.at_ 1 rfl);have hf3:∀j,(Z6 (y.sx.set ix (S.1,u1,u2)) y.ox).fp j->(Z6 y.sx y.ox).fp j\/((S.1.fl.map encF).flatten≠[]/\Z2 u1 j)\/((S.1.qu.map encF).flatten≠[]/\Z2 u2 j):=λj hj=>(Z6r hj).elim (λh=>.inl h) (λh=>.inr h);refine(Z3g (k:=k) (x:={ y with sx:=y.sx.set ix (S.1,u1,u2) }) (F:=(Z11 (S.2.map pkN)).fp) (pre:=[]) hr3 46 0 [25,27,30]
        (Z1j w3 k { y with sx:=y.sx.set ix (S.1,u1,u2) } (rs.getD i yD).1 u3 (S.2.map pkN) (Z82 hr3 (by rfl) k { y with sx:=y.sx.set ix (S.1,u1,u2) } (Z11 (S.2.map pkN)) _ _ hA3 (λj hj=>?_) (Zc0 _ _) (λj hj=>absurd hj Z83) [9,10,11,12,13,1,15,4,0] (by decide) rfl (Zo rfl (Zo rfl (Zo (Z46 rfl ?_) rfl)))) (by rw[qy3];omega) (by show y.ox.length<1000000;omega))
        rfl rfl (Nat.succ_pos _) rfl (λj hj=>?_)).mono ?_
      . rcases hf3 j hj with h|h|h
        . exact(qE 5 rfl rfl h)
        . exact(qE 0 rfl rfl h)
        . exact(qE 1 rfl rfl h)
      . simp only[QQ,Nat.reduceAdd,qy3,qy4];rw[<- Z54];simp only[hcl'.1,hcl'.2.1,hcl'.2.2]
      . rcases hj with hj|hj|hj|hj
        . exact(qE 7 rfl rfl hj)
        . exact(qE 8 rfl rfl hj)
        . rcases hf3 j hj with h|h|h
          . exact(qE 5 rfl rfl h)
          . exact(qE 0 rfl rfl h)
          . exact(qE 1 rfl rfl h)
        . exact absurd hj Z83
      rintro e w4 ⟨y2,hy2,hsz4,hgr,rfl,m1,m2,m3,m4⟩;refine⟨tlV y2,rfl,rfl,m1,m2,m3,m4,?_⟩;simp only[QQ,Nat.reduceAdd,qy3,qy4];refine⟨by omega,by omega,Z6 y2.sx y2.ox,λw hr=>hr.at_ 5 rfl,λj hj=>(qE 5 rfl rfl hj),⟨i+1,y2,rfl,by omega,?_,?_⟩,by omega⟩
      . rw[hy2,<- hT2 u1 u2,htel,Zj4 (f:=Z1s n p q) hi']
      . exact(Zeu hg hnw (λj h=>g4 j h) (λj h=>g5 j h)).trans hgr hsz3 (λj h=>absurd h Z83)
  . have hil:i=rs.length:=by omega
    subst hil;rw[List.take_length]at htel;have hT1:y.tel=Z6o n p q x.tel:=by rw[htel,hrs];rfl
    have hwn:=watN k1.wat;have hw12:y.wat.length<=12:=(Z1a.1 k1.wat).1;intro w1 hr1;refine(Z18x w1 y.av y.wat n (hr1.at_ 5 rfl).reads (by omega) hwn).mono ?_;rintro e w2 ⟨v1,v2,rfl,g1,g2,g3,g4,g5,gm⟩;have hnw:w.heap.size<=w1.heap.size:=hr1.mod.size;obtain⟨W,hW⟩:∃W,W=Z3c n y.wat:=⟨_,rfl⟩
    obtain⟨Z,hZ⟩:∃Z,Z=Z3x n y.wat:=⟨_,rfl⟩
    rw[<- hW]at g1;rw[<- hZ]at g2;refine⟨[.v v1,.r (W.map Z8),.v v2,.r (Z.map Z8)],rfl,rfl,gm,qy5 _,qy2.2 ⟨⟨g1,λk hk=>.inl (g3 k hk)⟩,qy2.2 ⟨⟨g2,λk hk=>.inl (g4 k hk)⟩,qy5 _⟩⟩,List.pairwise_cons.2 ⟨λe he _ k h1 h2=>by rw[qy12.1 he]at h2;exact g5 k h1 h2,List.pairwise_singleton _ _⟩,?_⟩;have hZ12:Z.length<=12:=by rw[hZ];exact Zgn n k1.wat
    have hZn:∀z∈Z,0<=z.2.2.2/\z.2.2.2<=16777215:=λz hz=>by
      rw[hZ,Z3x]at hz;obtain⟨z0,hz0,rfl⟩:=List.mem_map.1 hz;have:=hwn z0 (List.mem_filter.1 hz0).1;unfold Z8l;split
      . show 0<=(if 16777215<z0.2.2.2+1 then 0 else z0.2.2.2+1)/\(if 16777215<z0.2.2.2+1 then 0 else z0.2.2.2+1)<=16777215
        split<;>omega
      . exact this
    clear hr1 g1 g2 g3 g4 g5 gm;obtain⟨T0,hT0⟩:∃T0:Tel,T0=⟨y.kept,y.wants,y.sx.map (·.1),W,y.next,y.ox.map (·.1)⟩:=⟨_,rfl⟩
    have hTB:Z7g n p q x.tel=Z.foldl (Z65 p) T0:=by rw[Z7g,<- hT1,hZ,hT0,hW];rfl
    have hn0:0<=T0.next/\T0.next<=65535:=by rw[hT0];exact k1.next
    refine⟨Z6 y.sx y.ox,λw hr=>hr.at_ 2 rfl,λj hj=>(qE 2 rfl rfl hj),?_⟩;refine⟨λvs=>∃(i:Nat) (z:TelX),vs=[.i i,.a (Z6 z.sx z.ox),.v z.kv,.r (z.kept.map encK),.v z.wv,.r (z.wants.map Zb),.v z.sv,.r (z.sx.map Zg),.v z.av,.r (z.wat.map Z8),.i z.next,.v z.ov,.r (z.ox.map Z1r)]/\i<=Z.length/\z.tel=(Z.take i).foldl (Z65 p) T0/\Grew w.heap.size (λ_=>False) x z,
      λvs=>(Z.length - (vs.getD 0 (.i 0)).toI).toNat,⟨0,{ y with wat:=W,av:=v1 },rfl,by omega,by rw[hT0];rfl,hg.kept,hg.want,hg.nest⟩,?_⟩
    rintro _ - ⟨j,z,rfl,hj,hzt,hgz⟩;simp only[QQ,Nat.reduceAdd,qy3,qy4,Z3u,Z3v,Z22,gW3];obtain⟨q1,q2,q3,q4,q5,q6⟩:=Z10l p (Z.take j) T0 hn0;rw[<- hzt]at q1 q2 q3 q4 q5 q6;have hzl:z.ox.length<=x.ox.length+152:=by
      have h1:z.tel.out.length=z.ox.length:=by simp[TelX.tel]
      have h2:T0.out.length=y.ox.length:=by rw[hT0];simp
      have h3:(Z.take j).length<=12:=by simp;omega
      omega
    have hzn:0<=z.next/\z.next<=65535:=q5;refine⟨λh1=>?_,λh1 w3 hr=>⟨by trivial,z,?_,?_,hgz⟩⟩
    . have hj':j<Z.length:=by omega
      have hnum:=hZn (Z.getD j wD_K) (by rw[qy1,qy7 hj'];exact List.getElem_mem hj');refine⟨by omega,λb1=>?_⟩;refine⟨λvs=>∃b:Nat,vs=[.n b],⟨⟨by omega,by omega,λb=>⟨b,rfl⟩⟩,λb=>⟨by omega,by omega,b,rfl⟩⟩,?_⟩;rintro _ - ⟨b2,rfl⟩;simp only[QQ,Nat.reduceAdd,qy3,qy4,Z3u,Z3v,Z22,gW3];rw[Z10r _ hzn];obtain⟨m0,hm0⟩:∃m0:Msg,m0=⟨1,69,z.next,(Z.getD j wD_K).2.1,[],p⟩:=⟨_,rfl⟩
      obtain⟨m1,hm1⟩:∃m1:Msg,m1=putM m0 (Z.getD j wD_K).2.2.2:=⟨_,rfl⟩
      refine⟨λvs=>∃v' u':Value,vs=[.i 0,.i 0,.i 0,.i 0,.i 1,.i 69,.i z.next,.s (Z.getD j wD_K).2.1,.v v',.r (m1.opts.map encO),.s p,.i 0,.i 0,.v u',.r ((z.ox++[optX (toP (Z.getD j wD_K).1 m1) v']).map Z1r)]/\∀k,Z2 v' k->w.heap.size<=k,?_,?_⟩
      . refine⟨λb3 b4=>⟨?_,?_⟩,λb3 b4=>⟨?_,?_⟩⟩
        . refine⟨[.s (Z2k (Z.getD j wD_K).2.2.2)],rfl,λ_ w' _=>Zcz w' _ hnum,?_⟩;simp only[QQ,Nat.reduceAdd,qy3,qy4,Z3u,Z3v,Z22,gW3];intro v5;intro w4 hr4;have hn4:=hr4.mod.size;refine(Z1 (Zbq w4 ⟨1,69,z.next,(Z.getD j wD_K).2.1,[],p⟩ (.slice none 0 0) v5 6 [Z2k (Z.getD j wD_K).2.2.2] (Z9 _ _) (hr4.at_ 0 rfl).reads (show 0<1000000000 by decide) (show 1<1000000000 by decide)) rfl).mono ?_;rintro e w5 ⟨v',rfl,a1,a2,am⟩;refine⟨[.i 1,.i 69,.i z.next,.s (Z.getD j wD_K).2.1,.v v',.r (m1.opts.map encO),.s p],rfl,rfl,am,qy5 _,qy2.2 ⟨⟨by rw[hm1,hm0];exact a1,λk hk=>.inl (a2 k hk.2)⟩,qy5 _⟩,Z5,?_⟩;intro b6 v6;refine⟨by first|omega|(simp only[qy11,qy3,List.length_cons,List.length_nil];omega),λv7=>⟨v',v7,?_,λk hk=>Nat.le_trans hn4 (a2 k hk)⟩⟩;(simp only[List.map_append,List.map_cons,List.map_nil];rw[hm1,hm0];rfl)
        . refine⟨[.s (Z2k (Z.getD j wD_K).2.2.2)],rfl,λ_ w' _=>Zcz w' _ hnum,?_⟩;simp only[QQ,Nat.reduceAdd,qy3,qy4,Z3u,Z3v,Z22,gW3];refine⟨?_,?_⟩
          . intro v5;intro w4 hr4;have hn4:=hr4.mod.size;refine(Z1 (Zbq w4 ⟨1,69,z.next,(Z.getD j wD_K).2.1,[],p⟩ (.slice none 0 0) v5 6 [Z2k (Z.getD j wD_K).2.2.2] (Z9 _ _) (hr4.at_ 0 rfl).reads (show 0<1000000000 by decide) (show 1<1000000000 by decide)) rfl).mono ?_;rintro e w5 ⟨v',rfl,a1,a2,am⟩;refine⟨[.i 1,.i 69,.i z.next,.s (Z.getD j wD_K).2.1,.v v',.r (m1.opts.map encO),.s p],rfl,rfl,am,qy5 _,qy2.2 ⟨⟨by rw[hm1,hm0];exact a1,λk hk=>.inl (a2 k hk.2)⟩,qy5 _⟩,Z5,?_⟩;intro b6 v6;refine⟨by first|omega|(simp only[qy11,qy3,List.length_cons,List.length_nil];omega),λv7=>⟨v',v7,?_,λk hk=>Nat.le_trans hn4 (a2 k hk)⟩⟩;(simp only[List.map_append,List.map_cons,List.map_nil];rw[hm1,hm0];rfl)
          . intro v5;intro w4 hr4;have hn4:=hr4.mod.size;refine(Z1 (Zbq w4 ⟨1,69,z.next,(Z.getD j wD_K).2.1,[],p⟩ (.slice none 0 0) v5 6 [Z2k (Z.getD j wD_K).2.2.2] (Z9 _ _) (hr4.at_ 0 rfl).reads (show 0<1000000000 by decide) (show 1<1000000000 by decide)) rfl).mono ?_;rintro e w5 ⟨v',rfl,a1,a2,am⟩;refine⟨[.i 1,.i 69,.i z.next,.s (Z.getD j wD_K).2.1,.v v',.r (m1.opts.map encO),.s p],rfl,rfl,am,qy5 _,qy2.2 ⟨⟨by rw[hm1,hm0];exact a1,λk hk=>.inl (a2 k hk.2)⟩,qy5 _⟩,Z5,?_⟩;intro b6 v6;refine⟨by first|omega|(simp only[qy11,qy3,List.length_cons,List.length_nil];omega),λv7=>⟨v',v7,?_,λk hk=>Nat.le_trans hn4 (a2 k hk)⟩⟩;(simp only[List.map_append,List.map_cons,List.map_nil];rw[hm1,hm0];rfl)
        . refine⟨[.s (Z2k (Z.getD j wD_K).2.2.2)],rfl,λ_ w' _=>Zcz w' _ hnum,?_⟩;simp only[QQ,Nat.reduceAdd,qy3,qy4,Z3u,Z3v,Z22,gW3];intro v5;intro w4 hr4;have hn4:=hr4.mod.size;refine(Z1 (Zbq w4 ⟨1,69,z.next,(Z.getD j wD_K).2.1,[],p⟩ (.slice none 0 0) v5 6 [Z2k (Z.getD j wD_K).2.2.2] (Z9 _ _) (hr4.at_ 0 rfl).reads (show 0<1000000000 by decide) (show 1<1000000000 by decide)) rfl).mono ?_;rintro e w5 ⟨v',rfl,a1,a2,am⟩;refine⟨[.i 1,.i 69,.i z.next,.s (Z.getD j wD_K).2.1,.v v',.r (m1.opts.map encO),.s p],rfl,rfl,am,qy5 _,qy2.2 ⟨⟨by rw[hm1,hm0];exact a1,λk hk=>.inl (a2 k hk.2)⟩,qy5 _⟩,Z5,?_⟩;intro b6 v6;refine⟨by first|omega|(simp only[qy11,qy3,List.length_cons,List.length_nil];omega),λv7=>⟨v',v7,?_,λk hk=>Nat.le_trans hn4 (a2 k hk)⟩⟩;(simp only[List.map_append,List.map_cons,List.map_nil];rw[hm1,hm0];rfl)
        . refine⟨[.s (Z2k (Z.getD j wD_K).2.2.2)],rfl,λ_ w' _=>Zcz w' _ hnum,?_⟩;simp only[QQ,Nat.reduceAdd,qy3,qy4,Z3u,Z3v,Z22,gW3];refine⟨?_,?_⟩
          . intro v5;intro w4 hr4;have hn4:=hr4.mod.size;refine(Z1 (Zbq w4 ⟨1,69,z.next,(Z.getD j wD_K).2.1,[],p⟩ (.slice none 0 0) v5 6 [Z2k (Z.getD j wD_K).2.2.2] (Z9 _ _) (hr4.at_ 0 rfl).reads (show 0<1000000000 by decide) (show 1<1000000000 by decide)) rfl).mono ?_;rintro e w5 ⟨v',rfl,a1,a2,am⟩;refine⟨[.i 1,.i 69,.i z.next,.s (Z.getD j wD_K).2.1,.v v',.r (m1.opts.map encO),.s p],rfl,rfl,am,qy5 _,qy2.2 ⟨⟨by rw[hm1,hm0];exact a1,λk hk=>.inl (a2 k hk.2)⟩,qy5 _⟩,Z5,?_⟩;intro b6 v6;refine⟨by first|omega|(simp only[qy11,qy3,List.length_cons,List.length_nil];omega),λv7=>⟨v',v7,?_,λk hk=>Nat.le_trans hn4 (a2 k hk)⟩⟩;(simp only[List.map_append,List.map_cons,List.map_nil];rw[hm1,hm0];rfl)
          . intro v5;intro w4 hr4;have hn4:=hr4.mod.size;refine(Z1 (Zbq w4 ⟨1,69,z.next,(Z.getD j wD_K).2.1,[],p⟩ (.slice none 0 0) v5 6 [Z2k (Z.getD j wD_K).2.2.2] (Z9 _ _) (hr4.at_ 0 rfl).reads (show 0<1000000000 by decide) (show 1<1000000000 by decide)) rfl).mono ?_;rintro e w5 ⟨v',rfl,a1,a2,am⟩;refine⟨[.i 1,.i 69,.i z.next,.s (Z.getD j wD_K).2.1,.v v',.r (m1.opts.map encO),.s p],rfl,rfl,am,qy5 _,qy2.2 ⟨⟨by rw[hm1,hm0];exact a1,λk hk=>.inl (a2 k hk.2)⟩,qy5 _⟩,Z5,?_⟩;intro b6 v6;refine⟨by first|omega|(simp only[qy11,qy3,List.length_cons,List.length_nil];omega),λv7=>⟨v',v7,?_,λk hk=>Nat.le_trans hn4 (a2 k hk)⟩⟩;(simp only[List.map_append,List.map_cons,List.map_nil];rw[hm1,hm0];rfl)
      rintro _ - ⟨v',u',rfl,hv'⟩;simp only[QQ,Nat.reduceAdd,qy3,qy4,Z3u,Z3v,Z22,gW3];have hstep:(Z.take (j+1)).foldl (Z65 p) T0=Z65 p ((Z.take j).foldl (Z65 p) T0) (Z.getD j wD_K):=by rw[Zvr wD_K Z j hj',List.foldl_append];rfl
      refine⟨by omega,by omega,Z6 z.sx (z.ox++[optX (toP (Z.getD j wD_K).1 m1) v']),λw4 hr=>?_,λi hi=>?_,⟨j+1,{ z with next:=nx_Z z.next,ox:=z.ox++[optX (toP (Z.getD j wD_K).1 m1) v'],ov:=u' },rfl,by omega,?_,?_⟩,by omega⟩
      . refine Z19 (l:=z.sx) (o:=z.ox) (λt ht=>.inl ht) (λt ht=>?_) (hr.at_ 4 rfl);rcases qy13.1 ht with ht|ht
        . exact .inl ht
        . rw[qy12.1 ht];exact .inr ⟨Z9 _ _,Z9 _ _,hr.at_ 1 rfl⟩
      . rcases Zc.1 hi with h5|⟨t,ht,hk⟩
        . exact⟨_,qy6 (i:=4) rfl,rfl,Zc.2 (.inl h5)⟩
        . rcases qy13.1 ht with ht|ht
          . exact⟨_,qy6 (i:=4) rfl,rfl,Zc.2 (.inr ⟨t,ht,hk⟩)⟩
          . rw[qy12.1 ht]at hk;rcases hk with hk|hk|hk
            . exact absurd rfl hk.1
            . exact absurd rfl hk.1
            . exact(qE 1 rfl rfl hk)
      . rw[hstep,<- hzt,hm1,hm0];simp only[TelX.tel,Z65,List.map_append,List.map_cons,List.map_nil]
      . refine⟨hgz.kept,hgz.want,λi hi=>?_⟩;rcases Zc.1 hi with h5|⟨t,ht,hk⟩
        . exact hgz.nest i (Zc.2 (.inl h5))
        . rcases qy13.1 ht with ht|ht
          . exact hgz.nest i (Zc.2 (.inr ⟨t,ht,hk⟩))
          . rw[qy12.1 ht]at hk;rcases hk with hk|hk|hk
            . exact absurd rfl hk.1
            . exact absurd rfl hk.1
            . exact .inl (hv' i hk.2)
    . have hje:j=Z.length:=by omega
      rw[hje,List.take_length]at hzt;rw[hTB,hzt]
    . exact(hr.pick [5,6,7,1,9,0,11] (by decide)).conv rfl
open Go.Shelf Go.RowKit Go.Lib
set_option maxRecDepth 100000 in
theorem Z10s:Zcs Tryz.prog 219:=by
 intro w b n c i vb vc hi hc hb;go_enter Tryz.func219,Tryz.ntmps219
 go_wp2
 all_goals (go_ret;exact⟨rfl,rfl⟩)
set_option maxRecDepth 100000 in
theorem Z15s:Zim Tryz.prog 219 24:=by
 intro w b n c vb m vc hm hc hb v' w' hrun;have hz1:¬((m:Int)=0):=by omega
 go_enter Tryz.func219,Tryz.ntmps219
 go_wp2_with (at_builtin;refine Lib.wpList_append_run _ rfl _ _ _ _ rfl _ _ rfl rfl _ _ (hrun _) ?_)
 all_goals (go_ret;exact⟨rfl,rfl⟩)
set_option maxRecDepth 100000 in
theorem Zvu:Z90 Tryz.prog 219 251 24 6:=by
 intro w g n c i vb m vc cur1 cur2 hi hm hroom hc63 hov hcp1 hcp2;obtain⟨hz1,hz2,hw1,hw2,hb1,hin,htn,htn2,hb3,-⟩:=insN hi hm (by omega);have hb2:¬(c=i+m):=by omega
 have hb4:¬(c=i):=by omega
 have mixed:Tryz.prog.follows Departure.mixedOrders=true:=by kernel_rfl
 go_enter Tryz.func219,Tryz.ntmps219
 go_wp2_with (simp only[hov])
 go_region_law_o (refine step_copy_runI rfl _ _ 24 24 rfl _ _ (by simp[Act.eval,Act.put]) (by simp[Act.eval,Act.put]) (hcp1 _ _ _) ?_)
 go_wp2_with (at_builtin;refine wpList_copy_runI _ rfl _ _ 24 24 rfl _ _ rfl rfl (hcp2 _ rfl _ _) ?_)
 go_ret
 first|exact⟨rfl,rfl⟩|exact⟨rfl,by rw[setRow_setRow]⟩
set_option maxRecDepth 100000 in
theorem Z10t:Zct Tryz.prog 219 50 24 3 6:=by
  intro w g n c i vb m vc G ROW cur2 cur3 hi hm hnc hroom hGn hG63 hrz hcpA hcpB Q hfin;obtain⟨hz1,hz2,hw1,-,hb1,hin,htn,-,-,hb3⟩:=insN hi hm (by omega);have hz3:(c:Int)<(n:Int)+(m:Int):=by omega
  have hGi:¬(G=i):=by omega
  have hGim:¬(G=i+m):=by omega
  have hci:¬(c=i):=by omega
  have mixed:Tryz.prog.follows Departure.mixedOrders=true:=by kernel_rfl
  have hE1:((w.alloc (.cells ROW 50)).drew).heap=(w.drew.alloc (.cells ROW 50)).heap:=rfl;have hF1:(((w.alloc (.cells ROW 50)).drew.setRow w.heap.size cur2).drew).heap=((w.drew.alloc (.cells ROW 50)).setRow w.heap.size cur2).heap:=rfl;go_enter Tryz.func219,Tryz.ntmps219
  go_wp2_with (first
    | (at_builtin;refine Lib.wpList_append_run _ rfl _ _ _ _ rfl _ _ rfl rfl _ _ (hrz _) ?_)
    | (at_builtin;refine wpList_copy_runI _ rfl _ _ 24 24 rfl _ _ rfl rfl (hcpA _ hE1 _ _) ?_)
    | (at_builtin;refine wpList_copy_runI _ rfl _ _ 24 24 rfl _ _ rfl rfl (hcpB _ hF1 _ _ _) ?_))
  go_region_law_o (refine step_copy_runI rfl _ _ 24 24 rfl (.slice (some ⟨w.heap.size,(i+m)*6,none⟩) (n+m - (i+m)) (G - (i+m))) (.slice (some ⟨g,i*6,none⟩) (n - i) (c - i)) (by simp[Act.eval,Act.put]) (by simp[Act.eval,Act.put]) (hcpB _ hF1 3 (G - (i+m)) (c - i)) ?_)
  go_wp2
  exact hfin _ rfl rfl rfl rfl
theorem Z10u(w:World)(s v:Value)(i:Nat)(R V:List (List Value))(hs:owns w s 50 [.str,.bool,.bool,.oth,.oth,.int .i64] R)(hv:owns w v 50 [.str,.bool,.bool,.oth,.oth,.int .i64] V)(hne:∀k,Z2 s k->Z2 v k->False)(hi:i<=R.length)(hb:(R.length+V.length)*80<=140737488355328) : Calls Tryz.prog 219 #[s,.int .i64 i,v] w λe w'=>∃v',e=.returned v'/\Z9h w w' s v' 50 [.str,.bool,.bool,.oth,.oth,.int .i64] (R.take i++V++R.drop i) :=
 Zg0 (K:=6) Tryz.underlying24 Tryz.underlying3 (by kernel_rfl) rfl (by decide) (by decide) (λargs w=>run_callFunc_extern Tryz.func251 (by kernel_rfl) (by kernel_rfl) (by kernel_rfl) (e:=Extern.SlicesOverlaps.overlaps #[24,24] #[4]) (by kernel_rfl) args w) Z10s Z15s Zvu Z10t w s v i R V hs hv hne hi hb
set_option maxRecDepth 100000 in
theorem Z1am:Z14g Tryz.prog 195 24 6:=by
 intro w g n c i j cur1 cur2 hij hj hnc hc63 happ hclr;have hz1:¬((i:Int)=(j:Int)):=by omega
 have hb1:(0:Int)<=(i:Int):=by omega
 have hw1:¬(c=i+(n - j)):=by omega
 have hj1:(j:Int)<=(n:Int):=by omega
 have hj2:(i:Int)<=(j:Int):=by omega
 have mixed:Tryz.prog.follows Departure.mixedOrders=true:=by kernel_rfl
 have hic:i<=c:=by omega
 by_cases hcj:c=j
 ·obtain rfl:n=c:=by omega
  obtain rfl:n=j:=hcj;have happ0:∀(a:Addr) ty sc,(Builtin.append_ #[24,24] ty #[.slice (some ⟨g,0,none⟩) i n,.slice (some a) 0 sc]).run Tryz.prog w.drew=.ok (.slice (some ⟨g,0,none⟩) i n) (w.drew.setRow g cur1):=λa ty sc=>by have:=happ a (.inl (Nat.sub_self n)) ty sc;rw[Nat.sub_self,Nat.add_zero]at this;exact this
  have hclr0:∀(W:World),W.heap=(w.drew.setRow g cur1).heap->∀ty sc,(Builtin.clear_ #[24] ty #[.slice (some ⟨g,i*6,none⟩) (n - i) sc]).run Tryz.prog W=.ok (.tuple #[]) (W.setRow g cur2):=by rw[Nat.sub_self,Nat.add_zero]at hclr;exact hclr
  have hw2:¬n=i:=by omega
  have hfin0:Ending.returned (.slice (some ⟨g,0,none⟩) i n)=.returned (.slice (some ⟨g,0,none⟩) (i+(n - n)) n):=by rw[Nat.sub_self,Nat.add_zero]
  clear happ hclr;go_enter Tryz.func195,Tryz.ntmps195
  go_wp2
  go_region_law_o (refine Z1h rfl _ _ 24 24 rfl _ _ (by simp[Act.eval,Act.put]) (by simp[Act.eval,Act.put]) (happ0 ⟨g,0,none⟩ _ 0) ?_)
  go_wp2_with (refine Z18 _ rfl _ 24 rfl _ rfl (hclr0 _ rfl _ _) ?_)
  go_ret
  exact⟨hfin0,by rw[setRow_setRow]⟩
 ·go_enter Tryz.func195,Tryz.ntmps195
  go_wp2
  go_region_law_o (refine Z1h rfl _ _ 24 24 rfl _ _ (by simp[Act.eval,Act.put]) (by simp[Act.eval,Act.put]) (happ ⟨g,j*6,none⟩ (.inr rfl) _ (c - j)) ?_)
  go_wp2_with (refine Z18 _ rfl _ 24 rfl _ rfl (hclr _ rfl _ _) ?_)
  go_ret
  exact⟨rfl,by rw[setRow_setRow]⟩
theorem Z10v(w:World)(s:Value)(i j:Nat)(R:List (List Value))(hs:owns w s 50 [.str,.bool,.bool,.oth,.oth,.int .i64] R)(hij:i<j)(hj:j<=R.length) : Calls Tryz.prog 195 #[s,.int .i64 i,.int .i64 j] w λe w'=>∃v',e=.returned v'/\Z9h w w' s v' 50 [.str,.bool,.bool,.oth,.oth,.int .i64] (R.take i++R.drop j) :=
 Zpj (K:=6) Tryz.underlying24 (by kernel_rfl) rfl (by decide) Z1am w s i j R hs hij hj
abbrev Zqa(w:World)(v:Value)(l:List SesX):Prop:=owns w v 50 kSx (l.map Zg)
theorem Z1db(w:World)(s v:Value)(l:List SesX)(x:SesX)(i:Nat)(hs:Zqa w s l)(hv:Zqa w v [x])(hne:∀k,Z2 s k->Z2 v k->False)(hi:i<=l.length)(hl:l.length<1000000) : Calls Tryz.prog 219 #[sc1 s,.int .i64 i,sc1 v] w λe w'=>∃v',e=.returned (sc1 v')/\Zqa w' v' (l.take i++[x]++l.drop i)/\(∀k,Z2 v' k->Z2 s k\/w.heap.size<=k)/\Mod s.ownBlock.toList w w':=by rw[hs.reads.sc1,hv.reads.sc1];refine(Z10u w s v i _ _ hs hv hne (by simpa using hi) (by simp;omega)).mono ?_;rintro e w' ⟨v',rfl,g1,g2,g3⟩;refine⟨v',by rw[g1.reads.sc1],?_,g2,Mod.of_grown g3 λk hk=>.inl (Option.mem_toList.2 hk)⟩;rw[Zqa,List.map_append,List.map_append,List.map_take,List.map_drop];exact g1
theorem Z1dc(w:World)(s:Value)(l:List SesX)(i:Nat)(hs:Zqa w s l)(hi:i<l.length) : Calls Tryz.prog 195 #[sc1 s,.int .i64 i,.int .i64 ((i:Int)+1)] w λe w'=>∃v',e=.returned (sc1 v')/\Zqa w' v' (l.take i++l.drop (i+1))/\(∀k,Z2 v' k->Z2 s k\/w.heap.size<=k)/\Mod s.ownBlock.toList w w':=by rw[hs.reads.sc1];have hc:=Z10v w s i (i+1) _ hs (by omega) (by rw[qy3];omega);rw[show((i+1:Nat):Int)=(i:Int)+1 by omega]at hc;refine hc.mono ?_;rintro e w' ⟨v',rfl,g1,g2,g3⟩;refine⟨v',by rw[g1.reads.sc1],?_,g2,Mod.of_grown g3 λk hk=>.inl (Option.mem_toList.2 hk)⟩;rw[Zqa,List.map_append,List.map_take,List.map_drop];exact g1
theorem Zt2{l:List SesX}{i:Nat}(h:i<l.length)(t:SesX):((l.set i t).map Zg).getD i []=Zg t:=by rw[Zbt (by simpa using h),qy1,List.getElem?_set_self h];rfl
theorem Z10w(l:List SesX)(i:Nat)(t:SesX):(l.set i t).take i++(l.set i t).drop (i+1)=l.take i++l.drop (i+1):=by rw[List.take_set_of_le (Nat.le_refl _),List.drop_set_of_lt (by omega)]
theorem Zvv{l l':List SesX}{o:List SntX}(h:∀t∈l',t∈l):(∀w,(Z6 l o).holds w->(Z6 l' o).holds w)/\∀j,(Z6 l' o).fp j->(Z6 l o).fp j :=
 ⟨λw hw=>Z19 (λt ht=>.inl (h t ht)) (λt ht=>.inl ht) hw,λj hj=>(Zc.1 hj).elim (λ⟨t,ht,hk⟩=>Zc.2 (.inl ⟨t,h t ht,hk⟩)) (λh=>Zc.2 (.inr h))⟩
theorem Z17a(w:World)(k:Nat)(x:TelX)(c:List UInt8)(hr:Rel ⟨Zl (tlA k x) tlH,w⟩ (tlA k x++[.s c]) tlH w)(hb:BOk x.tel)(ho:x.ox.length<100000) : Calls Tryz.prog 162 #[.pointer (some ⟨k,0,none⟩),.string ⟨c.toArray⟩] w λe w'=>e=.returned (.tuple #[])/\Z8o w w' k x (λ_=>False) (Z5f c x.tel):=by
 refine Z1 (Z3 (J:=tlA k x++[.s c]) (sxE_ok.joins _) Tryz.func162 Z7k rfl rfl hr rfl rfl ?_) rfl;simp only[QQ,Nat.reduceAdd,qy3,qy4];have hn6:x.sx.length<=6:=by have:=hb.ns;rw[Z33,qy3]at this;exact this
 have hw20:x.wants.length<=20:=Zsp hb.wants;refine⟨[.i (idxS x.tel.sess c),.b (hasS x.tel.sess c)],rfl,λ_ w' hr=>Zge w' x.sv x.sx c (hr.at_ 2 rfl).reads hb.sort (by omega),?_⟩;simp only[QQ,Nat.reduceAdd,qy3,qy4];refine⟨λh1 w3 hr=>⟨by trivial,x,by rw[Z5f,if_neg h1],(hr.pick [0,1,2,3,4,5,6] (by decide)).conv rfl,.refl _ _ _⟩,λh1=>?_⟩;have h1:=qy9.1 h1;obtain⟨hlt,hse⟩:=Zvt h1;have hok:SesOk (x.sx.getD (idxS x.tel.sess c) sxD).1:=by rw[hse];exact Zbx hb h1
 have hgB:Z5f c x.tel=if(goR (x.sx.getD (idxS x.tel.sess c) sxD).1).clean=true then Zsl c { x.tel with sess:=x.tel.sess.take (idxS x.tel.sess c)++x.tel.sess.drop (idxS x.tel.sess c+1) }else { x.tel with sess:=x.tel.sess.set (idxS x.tel.sess c) (goR (x.sx.getD (idxS x.tel.sess c) sxD).1) }:=by rw[Z5f,if_pos h1,hse]
 generalize idxS x.tel.sess c=ix at hlt hse hok hgB⊢
 have hrow:=Zbt hlt;simp only[hrow,Zg,List.getD_cons_zero,List.getD_cons_succ,Value.gI,Value.gB,Value.gS,Z1p];have hmm:=Z7i hlt;generalize hss:x.sx.getD ix sxD=ss at hok hse hgB hmm
 obtain⟨s,s',s''⟩:=ss;simp only at hok hse hgB⊢;obtain⟨S,hS⟩:∃S,S=goR s:=⟨_,rfl⟩
 rw[<- hS]at hgB;refine⟨λvs=>∃u1 u2:Value,vs=[.s S.cl,.b S.on,.b S.clean,.v u1,.r (S.fl.map encF),.v u2,.r (S.qu.map encF),.i S.next,.r ((x.sx.set ix (S,u1,u2)).map Zg)]/\newV w.heap.size u1/\newV w.heap.size u2,⟨by omega,by omega,?_⟩,?_⟩
 ·refine Z6g ?_;intro w1 hr1;obtain⟨hs1,hs2⟩:=Zz (hr1.at_ 5 rfl:(Z6 x.sx x.ox).holds w1) hmm;have hsz:=hr1.mod.size;refine(Z1 (Z1ez w1 s s' s'' hs1 hs2 (by have:=hok.nf;omega) (by have:=hok.nq;omega)) rfl).mono ?_;rw[<- hS];rintro e w2 ⟨u1,u2,rfl,g1,g2,g4,g5,gm⟩;refine⟨[.s S.cl,.b S.on,.b S.clean,.v u1,.r (S.fl.map encF),.v u2,.r (S.qu.map encF),.i S.next],rfl,rfl,gm,qy5 _,qy2.2 ⟨⟨g1,λk hk=>.inl (g4 k hk.2)⟩,qy2.2 ⟨⟨g2,λk hk=>.inl (g5 k hk.2)⟩,qy5 _⟩⟩,Zy8 ..,u1,u2,?_,λk hk=>Nat.le_trans hsz (g4 k hk),λk hk=>Nat.le_trans hsz (g5 k hk)⟩;simp only[QQ,Nat.reduceAdd,qy3,qy4];rw[<- Z54]
 rintro _ - ⟨u1,u2,rfl,n1,n2⟩;simp only[QQ,Nat.reduceAdd,qy3,qy4,Zt2 hlt,Zg,Value.gB,List.length_set];refine⟨by omega,by omega,λh2=>⟨by omega,by omega,?_⟩,λh2 w3 hr=>⟨by trivial,{ x with sx:=x.sx.set ix (S,u1,u2) },?_,?_,?_⟩⟩
 ·intro w4 hr4;have hsz4:=hr4.mod.size;refine(Z1dc w4 x.sv (x.sx.set ix (S,u1,u2)) ix (hr4.at_ 4 rfl) (by simpa using hlt)).mono ?_;rintro e w5 ⟨v',rfl,g1,g2,g3⟩;rw[Z10w]at g1;obtain⟨l',hl'⟩:∃l',l'=x.sx.take ix++x.sx.drop (ix+1):=⟨_,rfl⟩
  rw[<- hl']at g1;refine⟨[.v v',.r (l'.map Zg)],rfl,rfl,g3.mono λk hk=>.inl (by simpa[Zm,Zt]using hk),qy5 _,qy2.2 ⟨⟨g1,λk hk=>?_⟩,qy5 _⟩,Z5,?_⟩
  ·rcases g2 k hk with h|h
   ·exact .inr (.inr (Z26 (i:=5) (qy8 ..) h))
   ·exact .inl h
  clear g1 g2 g3 hr4;simp only[QQ,Nat.reduceAdd,qy3,qy4];intro w6 hr6;have hsub:∀t∈l',t∈x.sx:=λt ht=>by
   rw[hl']at ht;rcases qy13.1 ht with ht|ht
   ·exact List.mem_of_mem_take ht
   ·exact List.mem_of_mem_drop ht
  obtain⟨q1,q2⟩:=Zvv (o:=x.ox) hsub;have hsz6:=hr6.mod.size;refine(Z3g (k:=k) (x:={ x with sx:=l',sv:=v' }) (F:=λ_=>False) (pre:=[]) hr6 27 0 [25,7,10]
   (Z10p w6 k { x with sx:=l',sv:=v' } c ((Z15o hr6 (by rfl) k { x with sx:=l',sv:=v' } (q1 w6 (hr6.at_ 7 rfl)) (λj hj=>(qE 7 rfl rfl (q2 j hj))) [4,5,1,6,7,0,9] (by decide) rfl).conv rfl) (by show x.wants.length<1000000000;omega))
   rfl rfl (Nat.succ_pos _) rfl (λj hj=>?_)).mono ?_
  ·rcases hj with hj|hj|hj|hj
   ·exact(qE 3 rfl rfl hj)
   ·exact(qE 4 rfl rfl hj)
   ·exact(qE 7 rfl rfl (q2 j hj))
   ·exact hj.elim
  rintro e w7 ⟨y,⟨u,hy⟩,hsz7,hgr,rfl,m1,m2,m3,m4⟩;refine⟨tlV y,rfl,rfl,m1,m2,m3,m4,?_⟩;intro w8 hr8;refine⟨by trivial,y,?_,(hr8.pick [0,1,2,3,4,5,11] (by decide)).conv rfl,?_⟩
  ·rw[hgB,if_pos h2,hy];simp only[TelX.tel,Zsl,hl',List.map_append,List.map_take,List.map_drop]
  ·exact(Grew.trans (y:={ x with sx:=l',sv:=v' }) (F:=λ_=>False) (n:=w.heap.size) ⟨λj hj=>.inr hj,λj hj=>.inr hj,λj hj=>.inr (.inl (q2 j hj))⟩ hgr hsz6 (λj h=>h.elim))
 ·rw[hgB,if_neg h2];simp only[TelX.tel,List.map_set]
 ·exact Znd hr (by rfl) k { x with sx:=x.sx.set ix (S,u1,u2) } (Zc1 (hr.at_ 7 rfl) (hr.at_ 0 rfl) (hr.at_ 1 rfl)) (λj hj=>by
   rcases Z6r hj with h|h|h
   ·exact(qE 7 rfl rfl h)
   ·exact(qE 0 rfl rfl h)
   ·exact(qE 1 rfl rfl h)) [3,4,5,6,7,0,9] (by decide) rfl
 ·exact Zeu (.refl _ _ _) (Nat.le_refl _) n1 n2
def pk1X(p:Pkt):Z7m:=(p,.slice none 0 0,.slice none 0 0)
theorem Z55{p:Pkt}(ha:p.asks=[])(hc:p.codes=[])(w:World):(Z11 [pk1X p]).holds w:=by
 intro t ht;simp only[List.flatMap_cons,List.flatMap_nil,List.append_nil,Zkz,pk1X,List.mem_cons,List.not_mem_nil,or_false]at ht;rcases ht with rfl|rfl
 ·simp only[ha];exact Z9 _ _
 ·simp only[hc];exact Z9 _ _
theorem Z2x{p:Pkt}(ha:p.asks=[])(hc:p.codes=[]){j:Nat}:¬(Z11 [pk1X p]).fp j:=by
 rintro⟨t,ht,h1,h2⟩;simp only[List.flatMap_cons,List.flatMap_nil,List.append_nil,Zkz,pk1X,List.mem_cons,List.not_mem_nil,or_false]at ht;rcases ht with rfl|rfl
 ·exact h1 (by simp only[ha];rfl)
 ·exact h1 (by simp only[hc];rfl)
abbrev Z6s(c:List UInt8)(p:Pkt)(va vc:Value):List V:=[.s c,.i p.kind,.b p.dup,.b p.retain,.b p.clean,.b p.session,.i p.qos,.i p.id,.i p.keep,.i p.code,.s p.client,.s p.topic,.s p.payload,.v va,.r (p.asks.map encA),.v vc,.r (p.codes.map Zh)]
abbrev pkHp:List Ent:=[.rd 26 [.str,.int .i64] (.var 27),.rd 28 [.int .i64] (.var 29)]
abbrev Zvw(p:Pkt)(va vc:Value):Value:=.agg #[.int .i64 p.kind,.bool p.dup,.bool p.retain,.bool p.clean,.bool p.session,.int .i64 p.qos,.int .i64 p.id,.int .i64 p.keep,.int .i64 p.code,.string ⟨p.client.toArray⟩,.string ⟨p.topic.toArray⟩,.string ⟨p.payload.toArray⟩,sc1 va,sc1 vc]
theorem Z10x(w:World)(k:Nat)(x:TelX)(c:List UInt8)(p:Pkt)(va vc:Value)(hr:Rel ⟨Zl (tlA k x) tlH,w⟩ (tlA k x++Z6s c p va vc) (tlH++pkHp) w)(hb:BOk x.tel)(ho:x.ox.length<50000)(hsm:Z30 x.wants)(hp:pubE p=0) : Calls Tryz.prog 189 #[.pointer (some ⟨k,0,none⟩),.string ⟨c.toArray⟩,Zvw p va vc] w λe w'=>e=.returned (.tuple #[])/\Z8o w w' k x (λ_=>False) (Z32 c p x.tel):=by
 obtain⟨hn,hpl,hq0,hq1,hf⟩:=Z10o hp;refine Z1 (Z3 (J:=tlA k x++Z6s c p va vc) sxE_ok Tryz.func189 Z5k rfl rfl hr rfl rfl ?_) rfl;simp only[QQ,Nat.reduceAdd,qy3,qy4];intro b0;have hk:∀t:Tel,Z32 c p x.tel=Z7g p.topic p.payload p.qos (if p.retain=true then(Z1g p.topic p.payload (if p.qos=1 then { x.tel with out:=x.tel.out++[toC c { pD_Q 4 with id:=p.id }] }else x.tel)).1 else(if p.qos=1 then { x.tel with out:=x.tel.out++[toC c { pD_Q 4 with id:=p.id }] }else x.tel)):=λ_=>rfl;have hk:=hk x.tel;have hol:x.tel.out.length=x.ox.length:=by simp[TelX.tel]
 have lenX:∀y:TelX,y.tel.out.length=y.ox.length:=λy=>by simp[TelX.tel]
 refine⟨λh1 v31=>?_,λh1=>?_⟩
 ·rw[if_pos h1]at hk;intro w1 hr_y1;have hz_y1:=hr_y1.mod.size;refine(Z3g (k:=k) (x:=x) (F:=(Z11 [pk1X { pD_Q 4 with id:=p.id }]).fp) (pre:=[]) hr_y1 32 0 [5,7,10]
   (Z1j w1 k x c v31 [pk1X { pD_Q 4 with id:=p.id }] (Z82 (toRd hr_y1) (by rfl) k x (Z11 [pk1X { pD_Q 4 with id:=p.id }]) _ _ (hr_y1.at_ 7 rfl) (λj hj=>(qE 7 rfl rfl hj)) (Z55 rfl rfl _) (λj hj=>absurd hj (Z2x rfl rfl)) [4,5,6,7,8,1,10,2,0] (by decide) rfl rfl) (show 1<1000000 by decide) (by omega))
   rfl rfl (Nat.succ_pos _) rfl (λj hj=>?_)).mono ?_
  ·rcases hj with hj|hj|hj|hj
   ·exact(qE 2 rfl rfl hj)
   ·exact(qE 3 rfl rfl hj)
   ·exact(qE 7 rfl rfl hj)
   ·exact absurd hj (Z2x rfl rfl)
  rintro e w2_y1 ⟨y1,hy_y1,hs_y1,hg_y1,rfl,m1,m2,m3,m4⟩;refine⟨tlV y1,rfl,rfl,m1,m2,m3,m4,?_⟩;clear m1 m2 m3 m4;have e1:y1.tel={ x.tel with out:=x.tel.out++[toC c { pD_Q 4 with id:=p.id }] }:=hy_y1;have b1:BOk y1.tel:=by rw[e1];exact hb.out _
  have l1:y1.ox.length<=x.ox.length+1:=by have:=lenX y1;rw[e1]at this;simp only[qy11,List.length_cons,List.length_nil]at this;omega
  have s1:y1.wants=x.wants:=congrArg Tel.wants e1;rw[<- e1]at hk;have g1:Grew w.heap.size (λ_=>False) x y1:=(Grew.refl w.heap.size _ x).trans hg_y1 hz_y1 (λj h=>absurd h (Z2x rfl rfl));refine⟨λh2=>?_,λh2=>?_⟩
  ·rw[if_pos h2]at hk;intro w3 hr_y2;have hz_y2:=hr_y2.mod.size;refine(Z3g (k:=k) (x:=y1) (F:=(λ_=>False)) (pre:=[.b (Z1g p.topic p.payload y1.tel).2]) hr_y2 45 0 [36,38,41]
    (Zt1 w3 k y1 p.topic p.payload (((hr_y2.pick [0,1,2,3,4,5,11] (by decide)).conv rfl).base.conv rfl) b1 (by omega))
    rfl rfl (Nat.succ_pos _) rfl (λj hj=>?_)).mono ?_
   ·rcases hj with hj|hj|hj|hj
    ·exact(qE 0 rfl rfl hj)
    ·exact(qE 1 rfl rfl hj)
    ·exact(qE 5 rfl rfl hj)
    ·exact hj.elim
   rintro e w2_y2 ⟨y2,hy_y2,hs_y2,hg_y2,rfl,m1,m2,m3,m4⟩;refine⟨.b (Z1g p.topic p.payload y1.tel).2::tlV y2,rfl,rfl,m1,m2,m3,m4,?_⟩;clear m1 m2 m3 m4;obtain⟨b2,-,s2,l2⟩:=Z5v (p:=p.payload) b1 hn;rw[<- hy_y2]at b2 s2 l2 hk;have l2':y2.ox.length<=y1.ox.length+12:=by have h1:=lenX y2;have h2:=lenX y1;omega
   have s2':y2.wants=y1.wants:=s2;have g2:Grew w.heap.size (λ_=>False) x y2:=g1.trans hg_y2 hz_y2 (λj h=>h.elim);intro w5 hr_y3;have hz_y3:=hr_y3.mod.size;refine(Z3g (k:=k) (x:=y2) (F:=(λ_=>False)) (pre:=[]) hr_y3 57 0 [49,51,54]
    (Znm w5 k y2 p.topic p.payload p.qos (((hr_y3.pick [0,1,2,3,4,5,14] (by decide)).conv rfl).base.conv rfl) b2 (by omega) (by rw[s2',s1];exact hsm) hf ⟨hq0,hq1⟩)
    rfl rfl (Nat.succ_pos _) rfl (λj hj=>?_)).mono ?_
   ·rcases hj with hj|hj|hj|hj
    ·exact(qE 0 rfl rfl hj)
    ·exact(qE 1 rfl rfl hj)
    ·exact(qE 5 rfl rfl hj)
    ·exact hj.elim
   rintro e w2_y3 ⟨y3,hy_y3,hs_y3,hg_y3,rfl,m1,m2,m3,m4⟩;refine⟨tlV y3,rfl,rfl,m1,m2,m3,m4,?_⟩;clear m1 m2 m3 m4;intro w7 hr7;exact⟨by trivial,y3,by rw[hk,hy_y3],(hr7.pick [0,1,2,3,4,5,17] (by decide)).conv rfl,g2.trans hg_y3 hz_y3 (λj h=>h.elim)⟩
  ·rw[if_neg h2]at hk;intro w5 hr_y3;have hz_y3:=hr_y3.mod.size;refine(Z3g (k:=k) (x:=y1) (F:=(λ_=>False)) (pre:=[]) hr_y3 44 0 [36,38,41]
    (Znm w5 k y1 p.topic p.payload p.qos (((hr_y3.pick [0,1,2,3,4,5,11] (by decide)).conv rfl).base.conv rfl) b1 (by omega) (by rw[s1];exact hsm) hf ⟨hq0,hq1⟩)
    rfl rfl (Nat.succ_pos _) rfl (λj hj=>?_)).mono ?_
   ·rcases hj with hj|hj|hj|hj
    ·exact(qE 0 rfl rfl hj)
    ·exact(qE 1 rfl rfl hj)
    ·exact(qE 5 rfl rfl hj)
    ·exact hj.elim
   rintro e w2_y3 ⟨y3,hy_y3,hs_y3,hg_y3,rfl,m1,m2,m3,m4⟩;refine⟨tlV y3,rfl,rfl,m1,m2,m3,m4,?_⟩;clear m1 m2 m3 m4;intro w7 hr7;exact⟨by trivial,y3,by rw[hk,hy_y3],(hr7.pick [0,1,2,3,4,5,14] (by decide)).conv rfl,g1.trans hg_y3 hz_y3 (λj h=>h.elim)⟩
 ·rw[if_neg h1]at hk;refine⟨λh2=>?_,λh2=>?_⟩
  ·rw[if_pos h2]at hk;intro w3 hr_y2;have hz_y2:=hr_y2.mod.size;refine(Z3g (k:=k) (x:=x) (F:=(λ_=>False)) (pre:=[.b (Z1g p.topic p.payload x.tel).2]) hr_y2 32 0 [5,7,10]
    (Zt1 w3 k x p.topic p.payload (((hr_y2.pick [1,2,3,4,5,6,7] (by decide)).conv rfl).base.conv rfl) hb (by omega))
    rfl rfl (Nat.succ_pos _) rfl (λj hj=>?_)).mono ?_
   ·rcases hj with hj|hj|hj|hj
    ·exact(qE 1 rfl rfl hj)
    ·exact(qE 2 rfl rfl hj)
    ·exact(qE 6 rfl rfl hj)
    ·exact hj.elim
   rintro e w2_y2 ⟨y2,hy_y2,hs_y2,hg_y2,rfl,m1,m2,m3,m4⟩;refine⟨.b (Z1g p.topic p.payload x.tel).2::tlV y2,rfl,rfl,m1,m2,m3,m4,?_⟩;clear m1 m2 m3 m4;obtain⟨b2,-,s2,l2⟩:=Z5v (p:=p.payload) hb hn;rw[<- hy_y2]at b2 s2 l2 hk;have l2':y2.ox.length<=x.ox.length+12:=by have h1:=lenX y2;have h2:=lenX x;omega
   have s2':y2.wants=x.wants:=s2;have g2:Grew w.heap.size (λ_=>False) x y2:=(Grew.refl w.heap.size _ x).trans hg_y2 hz_y2 (λj h=>h.elim);intro w5 hr_y3;have hz_y3:=hr_y3.mod.size;refine(Z3g (k:=k) (x:=y2) (F:=(λ_=>False)) (pre:=[]) hr_y3 44 0 [36,38,41]
    (Znm w5 k y2 p.topic p.payload p.qos (((hr_y3.pick [0,1,2,3,4,5,10] (by decide)).conv rfl).base.conv rfl) b2 (by omega) (by rw[s2'];exact hsm) hf ⟨hq0,hq1⟩)
    rfl rfl (Nat.succ_pos _) rfl (λj hj=>?_)).mono ?_
   ·rcases hj with hj|hj|hj|hj
    ·exact(qE 0 rfl rfl hj)
    ·exact(qE 1 rfl rfl hj)
    ·exact(qE 5 rfl rfl hj)
    ·exact hj.elim
   rintro e w2_y3 ⟨y3,hy_y3,hs_y3,hg_y3,rfl,m1,m2,m3,m4⟩;refine⟨tlV y3,rfl,rfl,m1,m2,m3,m4,?_⟩;clear m1 m2 m3 m4;intro w7 hr7;exact⟨by trivial,y3,by rw[hk,hy_y3],(hr7.pick [0,1,2,3,4,5,13] (by decide)).conv rfl,g2.trans hg_y3 hz_y3 (λj h=>h.elim)⟩
  ·rw[if_neg h2]at hk;intro w5 hr_y3;have hz_y3:=hr_y3.mod.size;refine(Z3g (k:=k) (x:=x) (F:=(λ_=>False)) (pre:=[]) hr_y3 31 0 [5,7,10]
    (Znm w5 k x p.topic p.payload p.qos (((hr_y3.pick [1,2,3,4,5,6,7] (by decide)).conv rfl).base.conv rfl) hb (by omega) hsm hf ⟨hq0,hq1⟩)
    rfl rfl (Nat.succ_pos _) rfl (λj hj=>?_)).mono ?_
   ·rcases hj with hj|hj|hj|hj
    ·exact(qE 1 rfl rfl hj)
    ·exact(qE 2 rfl rfl hj)
    ·exact(qE 6 rfl rfl hj)
    ·exact hj.elim
   rintro e w2_y3 ⟨y3,hy_y3,hs_y3,hg_y3,rfl,m1,m2,m3,m4⟩;refine⟨tlV y3,rfl,rfl,m1,m2,m3,m4,?_⟩;clear m1 m2 m3 m4;intro w7 hr7;exact⟨by trivial,y3,by rw[hk,hy_y3],(hr7.pick [0,1,2,3,4,5,10] (by decide)).conv rfl,(Grew.refl w.heap.size _ x).trans hg_y3 hz_y3 (λj h=>h.elim)⟩
def begX:SesX:=(⟨[],false,true,[],[],0⟩,.slice none 0 0,.slice none 0 0)
def freX(c:List UInt8):SesX:=(⟨c,false,false,[],[],1⟩,.slice none 0 0,.slice none 0 0)
def insX(l:List SesX)(c:List UInt8):List SesX:=if hasS (l.map (·.1)) c=true then l else l.take (idxS (l.map (·.1)) c)++[begX]++l.drop (idxS (l.map (·.1)) c)
theorem Zev(l:List SesX)(c:List UInt8):(insX l c).map (·.1)=insS (l.map (·.1)) c:=by
 unfold insX insS;split
 ·rfl
 ·rw[List.map_append,List.map_append,List.map_take,List.map_drop];rfl
theorem Z15t{l:List SesX}{c:List UInt8}:∀t∈insX l c,t∈l\/t=begX:=λt ht=>by
 unfold insX at ht;split at ht
 ·exact .inl ht
 ·rcases qy13.1 ht with ht|ht
  ·rcases qy13.1 ht with ht|ht
   ·exact .inl (List.mem_of_mem_take ht)
   ·exact .inr (qy12.1 ht)
  ·exact .inl (List.mem_of_mem_drop ht)
theorem Z15u{l:List SesX}{c:List UInt8}(hs:Z5e (l.map (·.1))):idxS (l.map (·.1)) c<(insX l c).length/\(insX l c).length<=l.length+1:=by
 have h1:=Zl0 (l.map (·.1)) c;rw[qy3]at h1;unfold insX;split
 ·rename_i h;have:=(Z7n h).1;rw[qy3]at this;exact⟨this,by omega⟩
 ·simp;omega
theorem Zt3{l l':List SesX}{o:List SntX}(h:∀t∈l',t∈l\/(t.1.fl=[]/\t.1.qu=[]/\t.2.1=.slice none 0 0/\t.2.2=.slice none 0 0)):(∀w,(Z6 l o).holds w->(Z6 l' o).holds w)/\∀j,(Z6 l' o).fp j->(Z6 l o).fp j:=by
 refine⟨λw hw=>Z19 (λt ht=>?_) (λt ht=>.inl ht) hw,λj hj=>?_⟩
 ·rcases h t ht with h|⟨h1,h2,h3,h4⟩
  ·exact .inl h
  ·rw[h1,h2,h3,h4];exact .inr ⟨Z9 _ _,Z9 _ _⟩
 ·rcases Zc.1 hj with⟨t,ht,hk⟩|h1
  ·rcases h t ht with h|⟨h1,h2,h3,h4⟩
   ·exact Zc.2 (.inl ⟨t,h,hk⟩)
   ·rcases hk with⟨h5,-⟩|⟨h5,-⟩
    ·exact absurd (by rw[h1];rfl) h5
    ·exact absurd (by rw[h2];rfl) h5
  ·exact Zc.2 (.inr h1)
structure CnnZ(x:TelX)(c:List UInt8)(kn:Bool)(n:Nat)(z:TelX):Prop where
 kept:z.kept=x.kept/\z.kv=x.kv
 wat:z.wat=x.wat/\z.av=x.av
 next:z.next=x.next
 ox:z.ox=x.ox/\z.ov=x.ov
 wants:z.wants=if kn=true then x.wants else x.wants.filter λw=>decide (¬w.1=c)
 sx:z.sx=if kn=true then insX x.sx c else(insX x.sx c).set (idxS x.tel.sess c) (freX c)
 want:∀j,Zd2 z j->n<=j\/Zd2 x j
theorem Znn{J J':List V}{v v':Nat}{ks:List Kd}{r r':X}(h1:J.getD v (.i 0)=J'.getD v' (.i 0))(h2:(r.ev J).toR=(r'.ev J').toR):Ent.sem J (.rd v ks r)=Ent.sem J' (.rd v' ks r'):=by simp only[Ent.sem,Ent.holds,Ent.fp,Ent.wr,h1,h2]
theorem Z10y(w:World)(k:Nat)(x:TelX)(c:List UInt8)(p:Pkt)(va vc:Value)(hr:Rel ⟨Zl (tlA k x) tlH,w⟩ (tlA k x++Z6s c p va vc) (tlH++pkHp) w)(hb:BOk x.tel)(ho:x.ox.length<50000)(hc:Zd c=true) : Calls Tryz.prog 188 #[.pointer (some ⟨k,0,none⟩),.string ⟨c.toArray⟩,Zvw p va vc] w λe w'=>e=.returned (.tuple #[])/\Z8o w w' k x (λ_=>False) (Z1n c p x.tel):=by
  refine Z1 (Z3 (J:=tlA k x++Z6s c p va vc) (sxE_ok.joins _) Tryz.func188 Z5h rfl rfl hr rfl rfl ?_) rfl;simp only[QQ,Nat.reduceAdd,qy3,qy4];have hn6:x.sx.length<=6:=by have:=hb.ns;rw[Z33,qy3]at this;exact this
  have hw20:x.wants.length<=20:=Zsp hb.wants;have hil:=Z15u (l:=x.sx) (c:=c) hb.sort;have hnil:∀t∈insX x.sx c,t∈x.sx\/(t.1.fl=[]/\t.1.qu=[]/\t.2.1=.slice none 0 0/\t.2.2=.slice none 0 0):=λt ht=>(Z15t t ht).imp id λh=>by rw[h];exact⟨rfl,rfl,rfl,rfl⟩
  obtain⟨ix,hix⟩:∃ix,ix=idxS x.tel.sess c:=⟨_,rfl⟩
  have hil1:ix<(insX x.sx c).length:=by rw[hix];exact hil.1
  have hixl:ix<=x.sx.length:=by rw[hix];have:=Zl0 x.tel.sess c;rw[Z33,qy3]at this;exact this
  intro b0;refine⟨λh1 w3 hr=>⟨by trivial,x,by rw[Z1n,if_pos h1],(hr.pick [1,2,3,4,5,6,7] (by decide)).conv rfl,.refl _ _ _⟩,λh1=>?_⟩;refine⟨[.i (idxS x.tel.sess c),.b (hasS x.tel.sess c)],rfl,λ_ w' hr=>Zge w' x.sv x.sx c (hr.at_ 3 rfl).reads hb.sort (by omega),?_⟩;simp only[QQ,Nat.reduceAdd,qy3,qy4];rw[<- hix];refine⟨λvs=>∃sv':Value,vs=[.i 0,.i 0,.i 0,.v sv',.r ((insX x.sx c).map Zg)]/\(hasS x.tel.sess c=true\/x.sx.length<6),⟨λh2=>⟨λh3 v33=>?_,λh3 v33=>?_⟩,λh2=>?_⟩,?_⟩
  . intro w1 hr_y1;have hz_y1:=hr_y1.mod.size;refine(Z3g (k:=k) (x:=x) (F:=(Z11 [pk1X { pD_Q 2 with code:=3 }]).fp) (pre:=[]) hr_y1 34 0 [5,7,10]
      (Z1j w1 k x c v33 [pk1X { pD_Q 2 with code:=3 }] (Z82 (toRd hr_y1) (by rfl) k x (Z11 [pk1X { pD_Q 2 with code:=3 }]) _ _ (hr_y1.at_ 7 rfl) (λj hj=>(qE 7 rfl rfl hj)) (Z55 rfl rfl _) (λj hj=>absurd hj (Z2x rfl rfl)) [4,5,6,7,8,1,10,2,0] (by decide) rfl rfl) (show 1<1000000 by decide) (by omega))
      rfl rfl (Nat.succ_pos _) rfl (λj hj=>?_)).mono ?_
    . rcases hj with hj|hj|hj|hj
      . exact(qE 2 rfl rfl hj)
      . exact(qE 3 rfl rfl hj)
      . exact(qE 7 rfl rfl hj)
      . exact absurd hj (Z2x rfl rfl)
    rintro e w2_y1 ⟨y1,hy_y1,hs_y1,hg_y1,rfl,m1,m2,m3,m4⟩;refine⟨tlV y1,rfl,rfl,m1,m2,m3,m4,?_⟩;clear m1 m2 m3 m4;intro w7 hr7;refine⟨by trivial,y1,?_,(hr7.pick [0,1,2,3,4,5,11] (by decide)).conv rfl,(Grew.refl w.heap.size _ x).trans hg_y1 hz_y1 (λj h=>absurd h (Z2x rfl rfl))⟩;rw[hy_y1,Z1n,if_neg h1,if_pos ⟨h2,by rw[Z33,qy3];omega⟩];rfl
  . intro w1 hr1;have hsz1:=hr1.mod.size;refine(Z1db w1 x.sv v33 x.sx begX ix (hr1.at_ 4 rfl) (hr1.at_ 0 rfl) (λj h4 h5=>hr1.sep.disj (i:=4) (j:=0) rfl rfl (by decide) (.inl rfl) (k:=j) h4 h5) hixl (by omega)).mono ?_;rintro e w2 ⟨v',rfl,g1,g2,g3⟩;have e1:x.sx.take ix++[begX]++x.sx.drop ix=insX x.sx c:=by rw[insX,if_neg (show ¬hasS (x.sx.map (·.1)) c=true from h2),hix];rfl
    rw[e1]at g1;refine⟨[.v v',.r ((insX x.sx c).map Zg)],rfl,rfl,g3.mono λj hj=>.inl ?_,qy5 _,qy2.2 ⟨⟨g1,λj hj=>?_⟩,qy5 _⟩,Z5,v',rfl,.inr (by omega)⟩
    . simp only[Zm,Zt,List.map_nil,List.nil_append,List.flatMap_cons];exact List.mem_append_left _ hj
    . rcases g2 j hj with h|h
      . exact .inr (.inr (Z26 (i:=5) (qy8 ..) h))
      . exact .inl h
  . exact⟨x.sv,by rw[insX,if_pos (show hasS (x.sx.map (·.1)) c=true from qy9.1 h2)],.inl (qy9.1 h2)⟩
  rintro _ - ⟨sv',rfl,hroom⟩;have hst0:¬(¬hasS x.tel.sess c=true/\x.tel.sess.length=6):=by
    rw[Z33,qy3];rintro⟨h3,h4⟩;rcases hroom with h|h
    . exact h3 h
    . omega
  have hk0:Zbs x.tel.sess c p.clean=(!((insX x.sx c).getD ix sxD).1.clean && !p.clean):=by rw[Zbs,Z33,<- Zev,<- Z33,<- hix,Zpy]
  have hrow:=Zbt hil1;simp only[QQ,Nat.reduceAdd,qy3,qy4,hrow,Zg,Value.gB];obtain⟨kn,hkn⟩:∃kn,kn=Zbs x.tel.sess c p.clean:=⟨_,rfl⟩
  refine⟨by omega,by omega,?_⟩;refine⟨λvs=>∃z:TelX,vs=[.i 0,.i 0,.i 0,.i 0,.i 0,.i 0,.i 0,.i 0,.i 0,.i 0,.i 0,.i 0,.v z.kv,.v z.wv,.v z.sv,.v z.av,.i z.next,.v z.ov,.r (z.kept.map encK),.r (z.wants.map Zb),.r (z.sx.map Zg),.r (z.wat.map Z8),.r (z.ox.map Z1r)]/\CnnZ x c kn w.heap.size z,⟨λh2=>?_,λh2=>?_⟩,?_⟩
  . have hk1:kn=false:=by
      rw[hkn,hk0];simpa using h2
    intro w1 hr1;have hsz1:=hr1.mod.size;obtain⟨q1,q2⟩:=Zt3 (l:=x.sx) (l':=(insX x.sx c).set ix (freX c)) (o:=x.ox) (λt ht=>by
      rcases List.mem_or_eq_of_mem_set ht with ht|rfl
      . exact hnil t ht
      . exact .inr ⟨rfl,rfl,rfl,rfl⟩)
    refine(Z3g (k:=k) (x:={ x with sx:=(insX x.sx c).set ix (freX c),sv:=sv' }) (F:=λ_=>False) (pre:=[]) hr1 38 0 [36,7,10]
      (Z10p w1 k { x with sx:=(insX x.sx c).set ix (freX c),sv:=sv' } c ((Z15o hr1 (by rfl) k { x with sx:=(insX x.sx c).set ix (freX c),sv:=sv' } (q1 w1 (hr1.at_ 6 rfl)) (λj hj=>(qE 6 rfl rfl (q2 j hj))) [3,4,1,5,6,0,8] (by decide) (Zo rfl (Zo rfl (Zo (Z46 rfl ?_) rfl)))).conv rfl) (by show x.wants.length<1000000000;omega))
      rfl rfl (Nat.succ_pos _) rfl (λj hj=>?_)).mono ?_
    . simp only[QQ,Nat.reduceAdd,qy3,qy4];rw[<- Z54];rfl
    . rcases hj with hj|hj|hj|hj
      . exact(qE 2 rfl rfl hj)
      . exact(qE 3 rfl rfl hj)
      . exact(qE 6 rfl rfl (q2 j hj))
      . exact hj.elim
    rintro e w7 ⟨y,⟨u,hy⟩,hsz7,hgr,rfl,m1,m2,m3,m4⟩;refine⟨tlV y,rfl,rfl,m1,m2,m3,m4,y,rfl,?_⟩;rw[hk1];refine⟨by rw[hy];exact⟨rfl,rfl⟩,by rw[hy];exact⟨rfl,rfl⟩,by rw[hy],by rw[hy];exact⟨rfl,rfl⟩,by rw[hy];rfl,by rw[hy,<- hix];rfl,λj hj=>?_⟩;rcases hgr.want j hj with h|h
    . exact .inl (Nat.le_trans hsz1 h)
    . exact .inr h
  . have hk1:kn=true:=by
      rw[hkn,hk0];simpa using h2
    refine⟨{ x with sx:=insX x.sx c,sv:=sv' },rfl,?_⟩;rw[hk1];exact⟨⟨rfl,rfl⟩,⟨rfl,rfl⟩,rfl,⟨rfl,rfl⟩,rfl,rfl,λj hj=>.inr hj⟩
  rintro _ - ⟨z,rfl,hz⟩;have hzm:∀t∈z.sx,t∈x.sx\/(t.1.fl=[]/\t.1.qu=[]/\t.2.1=.slice none 0 0/\t.2.2=.slice none 0 0):=by
    rw[hz.sx];split
    . exact hnil
    . intro t ht;rcases List.mem_or_eq_of_mem_set ht with ht|rfl
      . exact hnil t ht
      . exact .inr ⟨rfl,rfl,rfl,rfl⟩
  obtain⟨q1,q2⟩:=Zt3 (o:=x.ox) hzm;have hzl:ix<z.sx.length:=by
    rw[hz.sx];split
    . exact hil1
    . simpa using hil1
  obtain⟨ss,hss⟩:∃ss,ss=z.sx.getD ix sxD:=⟨_,rfl⟩
  have hmm:ss∈z.sx:=by rw[hss];exact Z7i hzl
  obtain⟨S1,hS1⟩:∃S1,S1=Zdm x.tel.sess c p.clean:=⟨_,rfl⟩
  have hcom:{ ss.1 with clean:=p.clean }=S1:=by
    rw[hS1,Zdm,<- hkn,hss,hz.sx];cases kn with
    | false =>
      simp only[Bool.false_eq_true,if_false];rw[<- hix,qy1,List.getElem?_set_self hil1];rfl
    | true =>
      simp only[if_true];rw[Z33,<- Zev,<- Z33,<- hix,Zpy]
  obtain⟨hok,hcl⟩:=Zl3 hb hc p.clean;rw[<- hS1]at hok hcl;simp only[QQ,Nat.reduceAdd,qy3,qy4];refine⟨λvs=>vs=[],⟨by omega,rfl⟩,?_⟩;rintro _ - rfl;have hrow2:=Zbt hzl;rw[<- hss]at hrow2;obtain⟨s,s',s''⟩:=ss;have hset:(z.sx.map Zg).set ix [.string ⟨s.cl.toArray⟩,.bool s.on,.bool p.clean,sc1 s',sc1 s'',.int .i64 s.next]=(z.sx.set ix (S1,s',s'')).map Zg:=by rw[<- Z54,<- hcom]
  simp only[QQ,Nat.reduceAdd,qy3,qy4,hrow2,Zg,List.getD_cons_zero,List.getD_cons_succ,Value.gI,Value.gB,Value.gS,Z1p,hset,Zt2 hzl,List.length_set];have hfl:S1.fl=s.fl/\S1.qu=s.qu:=by rw[<- hcom];exact⟨rfl,rfl⟩
  refine⟨by omega,?_⟩;intro w1 hr1;have hsz1:=hr1.mod.size;obtain⟨hs1,hs2⟩:=Zz (q1 w1 (hr1.at_ 8 rfl)) hmm;refine(Z1 (Z1ck w1 S1 s' s'' (by rw[hfl.1];exact hs1) (by rw[hfl.2];exact hs2) hok.next (by have:=hok.nf;omega) (by have:=hok.nq;omega)) rfl).mono ?_;obtain⟨R,hR⟩:∃R,R=Zfw S1:=⟨_,rfl⟩
  have hR9:R.2.length<=9:=by rw[hR];exact Zni hok
  rw[<- hR];rintro e w2 ⟨u1,u2,u3,rfl,g1,g2,g3,g4,g5,g6,gm⟩;refine⟨[.s R.1.cl,.b R.1.on,.b R.1.clean,.v u1,.r (R.1.fl.map encF),.v u2,.r (R.1.qu.map encF),.i R.1.next,.v u3,.r ((R.2.map pkN).map Z47)],rfl,rfl,gm,qy5 _,qy2.2 ⟨⟨g1,λk hk=>.inl (g4 k hk.2)⟩,qy2.2 ⟨⟨g2,λk hk=>.inl (g5 k hk.2)⟩,qy2.2 ⟨⟨by show reads w2 u3 kP ((R.2.map pkN).map Z47);rw[Zbz];exact g3,λk hk=>.inl (g6 k hk.2)⟩,qy5 _⟩⟩⟩,Z8q ..,?_⟩;have n1:newV w.heap.size u1:=λj hj=>Nat.le_trans hsz1 (g4 j hj);have n2:newV w.heap.size u2:=λj hj=>Nat.le_trans hsz1 (g5 j hj);clear hr1 hs1 hs2 g1 g2 g3 g6 gm;intro b71;refine⟨λvs=>vs=[],rfl,?_⟩;rintro _ - rfl;intro v72 w3 hr3;have hsz3:=hr3.mod.size;obtain⟨X3,hX3⟩:∃X3:TelX,X3={ z with sx:=z.sx.set ix (R.1,u1,u2) }:=⟨_,rfl⟩
  have hA3:∀w3:World,(Z6 x.sx x.ox).holds w3->Zu w3 u1 R.1.fl->Zu w3 u2 R.1.qu->(Z6 X3.sx X3.ox).holds w3:=λw3 h1 h2 h3=>by rw[hX3];exact Zc1 (by rw[hz.ox.1];exact q1 w3 h1) h2 h3
  have hF3:∀j,(Z6 X3.sx X3.ox).fp j->(Z6 x.sx x.ox).fp j\/((R.1.fl.map encF).flatten≠[]/\Z2 u1 j)\/((R.1.qu.map encF).flatten≠[]/\Z2 u2 j):=λj hj=>by
    rw[hX3]at hj;rcases Z6r hj with h|h
    . rw[hz.ox.1]at h;exact .inl (q2 j h)
    . exact .inr h
  have hg3:Grew w.heap.size (λ_=>False) x X3:=by
    refine⟨λj hj=>.inr ?_,λj hj=>?_,λj hj=>?_⟩
    . rw[hX3]at hj;unfold Zhv at hj⊢;simp only[hz.kept.1,hz.kept.2]at hj;exact hj
    . rw[hX3]at hj;exact hz.want j hj
    . rcases hF3 j hj with h|⟨-,h⟩|⟨-,h⟩
      . exact .inr (.inl h)
      . exact .inl (n1 j h)
      . exact .inl (n2 j h)
  have hX0:X3.ox=x.ox:=by rw[hX3];exact hz.ox.1
  have hXt:X3.tel={ x.tel with wants:=if Zbs x.tel.sess c p.clean=true then x.tel.wants else x.tel.wants.filter λw=>decide (¬w.1=c),sess:=(insS x.tel.sess c).set (idxS x.tel.sess c) R.1 }:=by
    rw[hX3];simp only[TelX.tel,hz.kept.1,hz.wants,hz.wat.1,hz.next,hz.ox.1,List.map_set,hkn];congr 1
    rw[hz.sx,hkn];rw[show x.tel.sess=x.sx.map (·.1) from rfl]at hix⊢;split
    . rw[Zev,hix]
    . rw[List.map_set,Zev,hix,List.set_set]
  refine(Z3g (k:=k) (x:=X3) (F:=(Z11 [pk1X { pD_Q 2 with session:=kn }]).fp) (pre:=[]) hr3 73 0 [52,53,55]
    (Z1j w3 k X3 c v72 [pk1X { pD_Q 2 with session:=kn }] (Z82 (toRd hr3) (by rfl) k X3 (Z11 [pk1X { pD_Q 2 with session:=kn }]) _ _ (hA3 w3 (hr3.at_ 13 rfl) (hr3.at_ 2 rfl) (hr3.at_ 3 rfl)) (λj hj=>?_) (Z55 rfl rfl _) (λj hj=>absurd hj (Z2x rfl rfl)) [7,8,9,10,11,1,16,2,0] (by decide) rfl
      (by rw[hX3];exact Zo rfl (Zo rfl (Zo (Z46 rfl (by simp only[QQ,Nat.reduceAdd,qy3,qy4,hrow2,Zg,List.getD_cons_zero,List.getD_cons_succ,Value.gI,Value.gB,Value.gS,Z1p,hset];exact(Z54 (z.sx.set ix (S1,s',s'')) ix (R.1,u1,u2)).trans (by rw[List.set_set]))) (Zo rfl (Zo rfl (Zo rfl (Zo rfl (Zo (Znn rfl (by simp only[QQ,Nat.reduceAdd,qy3,qy4,hrow,Zg,List.getD_cons_zero,List.getD_cons_succ,Value.gB];rw[hkn,hk0];rfl)) rfl))))))))) (show 1<1000000 by decide) (by rw[hX0];omega))
    rfl rfl (Nat.succ_pos _) (by rw[hX3];rfl) (λj hj=>?_)).mono ?_
  . rcases hF3 j hj with h|h|h
    . exact(qE 13 rfl rfl h)
    . exact(qE 2 rfl rfl h)
    . exact(qE 3 rfl rfl h)
  . rcases hj with hj|hj|hj|hj
    . rw[hX3]at hj;exact(qE 5 rfl rfl hj)
    . rw[hX3]at hj;exact(qE 6 rfl rfl hj)
    . rcases hF3 j hj with h|h|h
      . exact(qE 13 rfl rfl h)
      . exact(qE 2 rfl rfl h)
      . exact(qE 3 rfl rfl h)
    . exact absurd hj (Z2x rfl rfl)
  rintro e w4 ⟨y1,hy1,hs1,hgr1,rfl,m1,m2,m3,m4⟩;refine⟨tlV y1,rfl,rfl,m1,m2,m3,m4,?_⟩;clear m1 m2 m3 m4 hr3;have l1:y1.ox.length<=x.ox.length+1:=by
    have h5:y1.tel.out.length=y1.ox.length:=by simp[TelX.tel]
    have h6:X3.tel.out.length=x.ox.length:=by rw[hXt];simp[TelX.tel]
    rw[hy1]at h5;simp only[qy11,qy3,List.length_cons,List.length_nil]at h5;omega
  intro w5 hr5;have hsz5:=hr5.mod.size;refine(Z3g (k:=k) (x:=y1) (F:=(Z11 (R.2.map pkN)).fp) (pre:=[]) hr5 85 0 [77,79,82]
    (Z1j w5 k y1 c u3 (R.2.map pkN) (Z82 hr5 (by rfl) k y1 (Z11 (R.2.map pkN)) _ _ (hr5.at_ 5 rfl) (λj hj=>(qE 5 rfl rfl hj)) (Zc0 _ _) (λj hj=>absurd hj Z83) [2,3,4,5,6,1,19,12,0] (by decide) rfl rfl) (by rw[qy3];omega) (by omega))
    rfl rfl (Nat.succ_pos _) rfl (λj hj=>?_)).mono ?_
  . rcases hj with hj|hj|hj|hj
    . exact(qE 0 rfl rfl hj)
    . exact(qE 1 rfl rfl hj)
    . exact(qE 5 rfl rfl hj)
    . exact absurd hj Z83
  rintro e w6 ⟨y2,hy2,hs2,hgr2,rfl,m1,m2,m3,m4⟩;refine⟨tlV y2,rfl,rfl,m1,m2,m3,m4,?_⟩;intro w7 hr7;refine⟨by trivial,y2,?_,(hr7.pick [0,1,2,3,4,5,20] (by decide)).conv rfl,(hg3.trans hgr1 hsz3 (λj h=>absurd h (Z2x rfl rfl))).trans hgr2 hsz5 (λj h=>absurd h Z83)⟩;rw[hy2,hy1,hXt,Zq9,Z1n,if_neg h1,if_neg hst0,<- hS1,<- hR,hkn];rfl
def Zno(A:Asrt)(p:Prop):Asrt where
 holds w:=A.holds w/\p
 fp:=A.fp
 stable:=λw w' h hh=>⟨A.stable w w' h hh.1,hh.2⟩
 bound:=λw hh k hk=>A.bound w hh.1 k hk
theorem Z17b{w w1:World}{k:Nat}{x:TelX}{J:List V}{hp:List Ent}(h:Rel ⟨Zl (tlA k x) tlH,w⟩ J hp w1){v ty:Nat}{ks:List Kd}{r:X}(h0:hp[0]?=some (.row v ty ks r)){a b c d:Nat}{ea eb ec ed:Ent}(hn:0≠a/\0≠b/\0≠c/\0≠d) (ha:hp[a]?=some ea) (hb:hp[b]?=some eb) (hc:hp[c]?=some ec) (hd:hp[d]?=some ed) (h1:ea.fp J k) (h2:∀j,Z2 x.sv j->eb.fp J j) (h3:∀j,Z2 x.av j->ec.fp J j) (h4:∀j,Z2 x.ov j->ed.fp J j) : ∀j,Z2 (J.getD v (.i 0)).toV j->w.heap.size<=j:=λj hj=>by
 rcases h.own _ (qy6 h0) rfl j hj with g|g
 ·exact g
 ·exfalso;have key:∀(i:Nat) (e:Ent),hp[i]?=some e->0≠i->e.fp J j->False:=λi e he hi hf=>h.sep.disj (i:=0) (j:=i) h0 he hi (.inl rfl) hj hf;rcases List.mem_cons.1 (Zvo g)with g|g
  ·exact key a _ ha hn.1 (by rw[g];exact h1)
  ·rcases qy13.1 g with g|g
   ·exact key b _ hb hn.2.1 (h2 j (Option.mem_toList.1 g))
   ·rcases qy13.1 g with g|g
    ·exact key c _ hc hn.2.2.1 (h3 j (Option.mem_toList.1 g))
    ·rcases qy13.1 g with g|g
     ·exact key d _ hd hn.2.2.2 (h4 j (Option.mem_toList.1 g))
     ·cases g
theorem Zt4(c:List UInt8):∀(l:List Ak) (x:List Wt×List Int),(l.foldl (Z3f c) x).2.length=x.2.length+l.length
 | [],_=>rfl
 | a::l,x=>by rw[List.foldl_cons,Zt4 c l,Z3f];split<;>simp<;>omega
theorem Zj5(c:List UInt8)(kept:List Kp):∀(l:List Ak) (m:List Int) (i:Nat),i<l.length->i<m.length->Z3k c kept (l.take (i+1)) (m.take (i+1))=Z3k c kept (l.take i) (m.take i)++Zpx c kept (l.getD i aD) (m.getD i 0)
 | [],_,_,h,_=>by simp at h
 | _,[],_,_,h=>by simp at h
 | a::l,q::m,0,_,_=>by simp[Z3k]
 | a::l,q::m,i+1,h1,h2=>by have:=Zj5 c kept l m i (by simpa using h1) (by simpa using h2);simp only[List.take_succ_cons,Z3k,List.getD_cons_succ,List.append_assoc]at this⊢;rw[this]
def ackX(n:Int)(cs:List Int)(u:Value):Z7m:=({ pD_Q 9 with id:=n,codes:=cs },.slice none 0 0,u)
theorem Z10z{n:Int}{cs:List Int}{u:Value}{w:World}(h:Z2w w u cs):(Z11 [ackX n cs u]).holds w:=by
 intro t ht;simp only[List.flatMap_cons,List.flatMap_nil,List.append_nil,Zkz,ackX,List.mem_cons,List.not_mem_nil,or_false]at ht;rcases ht with rfl|rfl
 ·exact Z9 _ _
 ·exact h
theorem Z110{n:Int}{cs:List Int}{u:Value}{j:Nat}(h:(Z11 [ackX n cs u]).fp j):(cs.map Zh).flatten≠[]/\Z2 u j:=by
 obtain⟨t,ht,h1,h2⟩:=h;simp only[List.flatMap_cons,List.flatMap_nil,List.append_nil,Zkz,ackX,List.mem_cons,List.not_mem_nil,or_false]at ht;rcases ht with rfl|rfl
 ·exact absurd rfl h1
 ·exact⟨h1,h2⟩
def Z15v(k:Kp):Pkt:={ pD_Q 3 with retain:=true,topic:=k.1,payload:=k.2.1 }
set_option maxRecDepth 2000 in
theorem Zqb(w:World)(k:Nat)(x:TelX)(c:List UInt8)(p:Pkt)(va vc:Value)(hr:Rel ⟨Zl (tlA k x) tlH,w⟩ (tlA k x++Z6s c p va vc) (tlH++pkHp) w)(hb:BOk x.tel)(ho:x.ox.length<50000)(hc:Zd c=true)(hp:Zj0 p.asks)(hl:p.asks.length<=5) : Calls Tryz.prog 192 #[.pointer (some ⟨k,0,none⟩),.string ⟨c.toArray⟩,Zvw p va vc] w λe w'=>e=.returned (.tuple #[])/\Z8o w w' k x (λ_=>False) (Z2h c p x.tel):=by
  refine Z1 (Z3 (J:=tlA k x++Z6s c p va vc) (sxE_ok.joins _) Tryz.func192 Z4j rfl rfl hr rfl rfl ?_) rfl;simp only[QQ,Nat.reduceAdd,qy3,qy4,gA0,gA1,gI0,gK0,gK1];intro b30 b31;have hkt:chkK x.kept=0:=hb.kept;have hk16:x.kept.length<=16:=(Z17.1 hkt).1;have hol:x.tel.out.length=x.ox.length:=by simp[TelX.tel]
  have lenX:∀y:TelX,y.tel.out.length=y.ox.length:=λy=>by simp[TelX.tel]
  obtain⟨PF,hPF⟩:∃PF:Value->Prop,PF=λu=>∀j,Z2 u j->w.heap.size<=j:=⟨_,rfl⟩
  refine⟨Zno (Z6 x.sx x.ox) (PF (.slice none 0 0)),λw hr=>⟨hr.at_ 7 rfl,by rw[hPF];exact Zkh _⟩,λj hj=>(qE 7 rfl rfl hj),?_⟩;refine⟨λvs=>∃(i:Nat) (W:List Wt) (v u:Value) (cs:List Int),vs=[.i i,.a (Zno (Z6 x.sx x.ox) (PF u)),.i 9,.b false,.b false,.b false,.b false,.i 0,.i p.id,.i 0,.i 0,.s [],.s [],.s [],.v (.slice none 0 0),.r [],.v u,.r (cs.map Zh),.v x.kv,.r (x.kept.map encK),.v v,.r (W.map Zb),.v x.sv,.r (x.sx.map Zg),.v x.av,.r (x.wat.map Z8),.i x.next,.v x.ov,.r (x.ox.map Z1r)]/\i<=p.asks.length/\(p.asks.take i).foldl (Z3f c) (x.wants,[])=(W,cs)/\(∀j,(W.map Zb).flatten≠[]/\Z2 v j->w.heap.size<=j\/Zd2 x j),
    λvs=>(p.asks.length - (vs.getD 0 (.i 0)).toI).toNat,⟨0,x.wants,x.wv,.slice none 0 0,[],rfl,by omega,rfl,λj hj=>.inr hj⟩,?_⟩
  rintro _ - ⟨i,W,v,u,cs,rfl,hi,hf,hwn⟩;simp only[QQ,Nat.reduceAdd,qy3,qy4,gA0,gA1,gI0,gK0,gK1];have hW:Zi W=0:=by have:=(Zq6 hc (p.asks.take i) (x:=(x.wants,[])) (λa ha=>hp a (List.mem_of_mem_take ha)) hb.wants).1;rw[hf]at this;exact this
  have hcl:cs.length=i:=by have:=Zt4 c (p.asks.take i) (x.wants,[]);rw[hf]at this;simp only[List.length_nil,List.length_take]at this;omega
  refine⟨λh1=>?_,λh1=>?_⟩
  . have hi':i<p.asks.length:=by omega
    have hstep:(p.asks.take (i+1)).foldl (Z3f c) (x.wants,[])=Z3f c (W,cs) (p.asks.getD i aD):=by rw[Zvr aD _ _ hi',List.foldl_append,hf];rfl
    refine⟨by omega,λb62=>?_⟩;intro w1 hr1;have hz1:=hr1.mod.size;refine(Z1cx w1 v W (c,(p.asks.getD i aD).1,(p.asks.getD i aD).2) (hr1.at_ 5 rfl) (Z1i.1 hW).2.2 (Z1i.1 hW).1).mono ?_;obtain⟨R,hR⟩:∃R,R=rawW W (c,(p.asks.getD i aD).1,(p.asks.getD i aD).2):=⟨_,rfl⟩
    rw[<- hR];rintro e w2 ⟨v',rfl,a1,a2,am⟩;refine⟨[.v v',.r (R.1.map Zb),.i R.2],rfl,rfl,am,qy5 _,qy2.2 ⟨⟨a1,λk hk=>.inl (a2 k hk.2)⟩,qy5 _⟩,Z5,?_⟩;simp only[QQ,Nat.reduceAdd,qy3,qy4,gA0,gA1,gI0,gK0,gK1];have hwn':∀j,(R.1.map Zb).flatten≠[]/\Z2 v' j->w.heap.size<=j\/Zd2 x j:=λj hj=>.inl (Nat.le_trans hz1 (a2 j hj.2));clear hr1 a1 am;refine⟨λh2=>?_,λh2=>?_⟩
    . intro v66;refine⟨by first|omega|(simp;omega),λv67=>⟨by omega,by omega,Zno (Z6 x.sx x.ox) (PF v67),λw3 hr3=>⟨(hr3.at_ 4 rfl:(Zno (Z6 x.sx x.ox) (PF u)).holds w3).1,?_⟩,λj hj=>(qE 4 rfl rfl hj),⟨i+1,R.1,v',v67,cs++[(p.asks.getD i aD).2],?_,by omega,?_,hwn'⟩,by omega⟩⟩
      . rw[hPF];exact Z17b hr3 rfl (a:=13) (b:=9) (c:=10) (d:=11) (by decide) rfl rfl rfl rfl rfl (λj h=>h) (λj h=>h) (λj h=>h)
      . rw[List.map_append];rfl
      . rw[hstep,Z3f]
        show(if(rawW W (c,(p.asks.getD i aD).1,(p.asks.getD i aD).2)).2=0 then _ else _)=_
        rw[<- hR,if_pos h2]
    . intro v66;refine⟨by first|omega|(simp;omega),λv67=>⟨by omega,by omega,Zno (Z6 x.sx x.ox) (PF v67),λw3 hr3=>⟨(hr3.at_ 4 rfl:(Zno (Z6 x.sx x.ox) (PF u)).holds w3).1,?_⟩,λj hj=>(qE 4 rfl rfl hj),⟨i+1,W,v,v67,cs++[128],?_,by omega,?_,hwn⟩,by omega⟩⟩
      . rw[hPF];exact Z17b hr3 rfl (a:=13) (b:=9) (c:=10) (d:=11) (by decide) rfl rfl rfl rfl rfl (λj h=>h) (λj h=>h) (λj h=>h)
      . rw[List.map_append];rfl
      . rw[hstep,Z3f]
        show(if(rawW W (c,(p.asks.getD i aD).1,(p.asks.getD i aD).2)).2=0 then _ else _)=_
        rw[<- hR,if_neg h2]
  . have hie:i=p.asks.length:=by omega
    subst hie;rw[List.take_length]at hf;have hA1:Zhu c x.wants p.asks=(W,cs):=hf;intro v62 w1 hr1;have hz1:=hr1.mod.size;have hu:∀j,Z2 u j->w.heap.size<=j:=by have:=(hr1.at_ 1 rfl:(Zno (Z6 x.sx x.ox) (PF u)).holds w1).2;rw[hPF]at this;exact this
    have hg0:Grew w.heap.size (λ_=>False) x { x with wants:=W,wv:=v }:=⟨λj hj=>.inr hj,hwn,λj hj=>.inr (.inl hj)⟩
    refine(Z3g (k:=k) (x:={ x with wants:=W,wv:=v }) (F:=(Z11 [ackX p.id cs u]).fp) (pre:=[]) hr1 63 0 [55,57,60]
      (Z1j w1 k { x with wants:=W,wv:=v } c v62 [ackX p.id cs u] (Z82 (toRd hr1) (by rfl) k { x with wants:=W,wv:=v } (Z11 [ackX p.id cs u]) _ _ (hr1.at_ 1 rfl:(Zno (Z6 x.sx x.ox) (PF u)).holds w1).1 (λj hj=>(qE 1 rfl rfl hj)) (Z10z (hr1.at_ 14 rfl)) (λj hj=>(qE 14 rfl rfl (Z110 hj))) [6,7,8,9,10,1,12,2,0] (by decide) rfl rfl) (show 1<1000000 by decide) (by show x.ox.length<1000000;omega))
      rfl rfl (Nat.succ_pos _) rfl (λj hj=>?_)).mono ?_
    . rcases hj with hj|hj|hj|hj
      . exact(qE 4 rfl rfl hj)
      . exact(qE 5 rfl rfl hj)
      . exact(qE 1 rfl rfl hj)
      . exact(qE 14 rfl rfl (Z110 hj))
    rintro e w2 ⟨y1,hy1,hs1,hg1,rfl,m1,m2,m3,m4⟩;refine⟨tlV y1,rfl,rfl,m1,m2,m3,m4,?_⟩;clear m1 m2 m3 m4;have G1:Grew w.heap.size (λ_=>False) x y1:=hg0.trans hg1 hz1 (λj h=>.inl (hu j (Z110 h).2));have ky1:y1.kept=x.kept:=congrArg Tel.kept hy1;have T1:y1.tel={ x.tel with wants:=W,out:=x.tel.out++[toC c { pD_Q 9 with id:=p.id,codes:=cs }] }:=hy1;have L1:y1.tel.out.length=x.ox.length+1:=by rw[T1];simp only[qy11,List.length_cons,List.length_nil,hol]
    clear hr1;refine⟨Z6 y1.sx y1.ox,λw hr=>hr.at_ 5 rfl,λj hj=>(qE 5 rfl rfl hj),?_⟩;refine⟨λvs=>∃(i:Nat) (z:TelX),vs=[.i i,.a (Z6 z.sx z.ox),.v z.kv,.r (z.kept.map encK),.v z.wv,.r (z.wants.map Zb),.v z.sv,.r (z.sx.map Zg),.v z.av,.r (z.wat.map Z8),.i z.next,.v z.ov,.r (z.ox.map Z1r)]/\i<=p.asks.length/\z.tel={ y1.tel with out:=y1.tel.out++Z3k c x.kept (p.asks.take i) (cs.take i) }/\Grew w.heap.size (λ_=>False) x z,
      λvs=>(p.asks.length - (vs.getD 0 (.i 0)).toI).toNat,⟨0,y1,rfl,by omega,by simp[Z3k],G1⟩,?_⟩
    rintro _ - ⟨i,z,rfl,hi2,hzt,hgz⟩;simp only[QQ,Nat.reduceAdd,qy3,qy4,gA0,gA1,gI0,gK0,gK1];have zk:z.kept=x.kept:=by have:=congrArg Tel.kept hzt;exact this.trans ky1
    have zl:z.ox.length<=x.ox.length+81:=by have h5:=Zgp c hkt (p.asks.take i) (cs.take i);have h6:=lenX z;rw[hzt]at h6;simp only[qy11,List.length_take]at h5 h6;omega
    refine⟨λh2=>?_,λh2 w3 hr3=>?_⟩
    . have hi3:i<p.asks.length:=by omega
      have hlt:=Zj5 c x.kept p.asks cs i hi3 (by omega);refine⟨by omega,λb89=>⟨by omega,λh3=>?_,λh3=>?_⟩⟩
      . refine⟨by omega,by omega,Z6 z.sx z.ox,λw hr=>hr.at_ 1 rfl,λj hj=>(qE 1 rfl rfl hj),⟨i+1,z,rfl,by omega,?_,hgz⟩,by omega⟩;rw[hlt,Zpx,if_pos h3,List.append_nil];exact hzt
      . intro w4 hr4;have hz4:=hr4.mod.size;have hak:=hp (p.asks.getD i aD) (by rw[qy1,qy7 hi3];exact List.getElem_mem hi3);refine(Z1cq w4 z.kv z.kept (p.asks.getD i aD).1 (hr4.at_ 2 rfl) (by rw[zk];exact λy hy=>by have:=(Za3.1 ((Z17.1 hkt).2.1 y hy).1).2.1.1;omega) (by rw[zk];omega) (by have:=(Za3.1 hak.1).2.1.1;omega)).mono ?_;rintro e w5 ⟨v',rfl,a1,a2,am⟩;obtain⟨K,hK⟩:∃K,K=z.kept.filter (forF (p.asks.getD i aD).1):=⟨_,rfl⟩
        rw[<- hK]at a1;refine⟨[.v v',.r (K.map encK)],rfl,rfl,am,qy5 _,qy2.2 ⟨⟨a1,λk hk=>.inl (a2 k hk.2)⟩,qy5 _⟩,Z5,?_⟩;have hK16:K.length<=16:=by rw[hK,zk];exact Nat.le_trans (List.length_filter_le _ _) hk16
        clear hr4 a1 a2 am;refine⟨Z6 z.sx z.ox,λw hr=>hr.at_ 2 rfl,λj hj=>(qE 2 rfl rfl hj),?_⟩;refine⟨λvs=>∃(j:Nat) (y:TelX),vs=[.i j,.a (Z6 y.sx y.ox),.v y.kv,.r (y.kept.map encK),.v y.wv,.r (y.wants.map Zb),.v y.sv,.r (y.sx.map Zg),.v y.av,.r (y.wat.map Z8),.i y.next,.v y.ov,.r (y.ox.map Z1r)]/\j<=K.length/\y.tel={ z.tel with out:=z.tel.out++(K.take j).map λk=>toC c (Z15v k) }/\Grew w.heap.size (λ_=>False) x y,
          λvs=>(K.length - (vs.getD 0 (.i 0)).toI).toNat,⟨0,z,rfl,by omega,by simp,hgz⟩,?_⟩
        rintro _ - ⟨j,y,rfl,hj,hyt,hgy⟩;simp only[QQ,Nat.reduceAdd,qy3,qy4,gA0,gA1,gI0,gK0,gK1];have yl:y.ox.length<=x.ox.length+97:=by have h6:=lenX y;rw[hyt]at h6;simp only[qy11,qy3,List.length_take,lenX z]at h6;omega
        refine⟨λh4=>?_,λh4=>?_⟩
        . have hj':j<K.length:=by omega
          refine⟨by omega,λb106 v107 w6 hr6=>?_⟩;have hz6:=hr6.mod.size;refine(Z3g (k:=k) (x:=y) (F:=(Z11 [pk1X (Z15v (K.getD j kD))]).fp) (pre:=[]) hr6 108 0 [99,101,104]
            (Z1j w6 k y c v107 [pk1X (Z15v (K.getD j kD))] (Z82 (toRd hr6) (by rfl) k y (Z11 [pk1X (Z15v (K.getD j kD))]) _ _ (hr6.at_ 2 rfl) (λj hj=>(qE 2 rfl rfl hj)) (Z55 rfl rfl _) (λj hj=>absurd hj (Z2x rfl rfl)) [8,9,10,11,12,1,21,2,0] (by decide) rfl
              (Zo rfl (Zo rfl (Zo rfl (Zo rfl (Zo rfl (Zo rfl (Zo rfl (Zo (Znn rfl (by simp only[QQ,Nat.reduceAdd,qy3,qy4,gA0,gA1,gI0,gK0,gK1];rfl)) rfl))))))))) (show 1<1000000 by decide) (by omega))
            rfl rfl (Nat.succ_pos _) rfl (λj hj=>?_)).mono ?_
          . rcases hj with hj|hj|hj|hj
            . exact(qE 6 rfl rfl hj)
            . exact(qE 7 rfl rfl hj)
            . exact(qE 2 rfl rfl hj)
            . exact absurd hj (Z2x rfl rfl)
          rintro e w7 ⟨y2,hy2,hs2,hg2,rfl,m1,m2,m3,m4⟩;refine⟨tlV y2,rfl,rfl,m1,m2,m3,m4,?_⟩;refine⟨by omega,by omega,Z6 y2.sx y2.ox,λw hr=>hr.at_ 5 rfl,λj hj=>(qE 5 rfl rfl hj),⟨j+1,y2,rfl,by omega,?_,hgy.trans hg2 hz6 (λj h=>absurd h (Z2x rfl rfl))⟩,by omega⟩;rw[hy2,hyt,Zvr kD K j hj'];simp only[List.map_append,List.map_cons,List.map_nil,List.append_assoc];rfl
        . have hje:j=K.length:=by omega
          rw[hje,List.take_length]at hyt;refine⟨by omega,by omega,Z6 y.sx y.ox,λw hr=>hr.at_ 0 rfl,λj hj=>(qE 0 rfl rfl hj),⟨i+1,y,rfl,by omega,?_,hgy⟩,by omega⟩;rw[hyt,hzt,hlt,Zpx,if_neg h3,hK,zk];simp only[List.append_assoc];rfl
    . have hie:i=p.asks.length:=by omega
      refine⟨by trivial,z,?_,(hr3.pick [1,2,3,4,5,0,14] (by decide)).conv rfl,hgz⟩;rw[hzt,T1,hie,List.take_length,List.take_of_length_le (by omega),Z2h]
      show _=({ x.tel with wants:=(Zhu c x.wants p.asks).1,out:=x.tel.out++[toC c { pD_Q 9 with id:=p.id,codes:=(Zhu c x.wants p.asks).2 }]++Z3k c x.kept p.asks (Zhu c x.wants p.asks).2 }:Tel)
      rw[hA1]
theorem Z111{w w1:World}{k:Nat}{x:TelX}{J:List V}{hp:List Ent}(h:Rel ⟨Zl (tlA k x) tlH,w⟩ J hp w1)(m:Nat){v ty:Nat}{ks:List Kd}{r:X}(h0:hp[m]?=some (.row v ty ks r)){a b c d:Nat}{ea eb ec ed:Ent}(hn:m≠a/\m≠b/\m≠c/\m≠d) (ha:hp[a]?=some ea) (hb:hp[b]?=some eb) (hc:hp[c]?=some ec) (hd:hp[d]?=some ed) (h1:ea.fp J k) (h2:∀j,Z2 x.sv j->eb.fp J j) (h3:∀j,Z2 x.av j->ec.fp J j) (h4:∀j,Z2 x.ov j->ed.fp J j) : ∀j,Z2 (J.getD v (.i 0)).toV j->w.heap.size<=j:=λj hj=>by
 rcases h.own _ (qy6 h0) rfl j hj with g|g
 ·exact g
 ·exfalso;have key:∀(i:Nat) (e:Ent),hp[i]?=some e->m≠i->e.fp J j->False:=λi e he hi hf=>h.sep.disj (i:=m) (j:=i) h0 he hi (.inl rfl) hj hf;rcases List.mem_cons.1 (Zvo g)with g|g
  ·exact key a _ ha hn.1 (by rw[g];exact h1)
  ·rcases qy13.1 g with g|g
   ·exact key b _ hb hn.2.1 (h2 j (Option.mem_toList.1 g))
   ·rcases qy13.1 g with g|g
    ·exact key c _ hc hn.2.2.1 (h3 j (Option.mem_toList.1 g))
    ·rcases qy13.1 g with g|g
     ·exact key d _ hd hn.2.2.2 (h4 j (Option.mem_toList.1 g))
     ·cases g
theorem Zt5{k:Nat}{g a:List Nat}:∀j∈k::a,j∈k::(g++a):=λj hj=>by
 rcases List.mem_cons.1 hj with rfl|h
 ·exact qy8 ..
 ·exact qy10 _ (List.mem_append_right _ h)
theorem Z17c{P:Program}{f:Nat}{args:Array Value}{w:World}{B:Base}{J:List V}{hp:List Ent}{k:Nat}{x:TelX}{F:Nat->Prop}{R:TelX->Prop}{pre:List V}{v:Value}(h0:Rel B J hp w)(n vk:Nat)(gone:List Nat) (h:Calls P f args w λe w1=>e=.returned v/\∃y:TelX,R y/\Rel ⟨Zl (tlA k x) tlH,w⟩ (tlA k y) tlH w1/\Grew w.heap.size F x y) (hn:J.length+pre.length=n) (hk:J.getD vk (.i 0)=.n k) (hv:vk<J.length) (hM:∀j∈k::(x.sv.ownBlock.toList++(x.av.ownBlock.toList++(x.ov.ownBlock.toList++[]))),j∈Zm J [vk] gone) (hO:∀j,(Zhv x j\/Zd2 x j\/(Z6 x.sx x.ox).fp j\/F j)->(∃y∈hp,y.wr=false/\y.fp J j)\/j∈Zt J gone) : Calls P f args w λe w1=>∃y:TelX,R y/\w.heap.size<=w1.heap.size/\Grew w.heap.size F x y/\e=.returned v/\Mod (Zm J [vk] gone) w w1/\(∀x∈tlMs vk n,x.holds (J++(pre++tlV y)) w1) /\ (∀x∈tlEs n,x.holds (J++(pre++tlV y)) w1/\∀k,x.fp (J++(pre++tlV y)) k->w.heap.size<=k\/(x.wr=false/\∃y∈hp,y.wr=false/\y.fp J k)\/k∈Zt J gone)/\Zp (J++(pre++tlV y)) (tlEs n):=by
 refine h.mono ?_;rintro e w1 ⟨he,y,hT,hq,hg⟩;have hs:=Z109 (y:=y) hn hk hv;have hq':Rel ⟨Zm J [vk] gone,w⟩ (J++(pre++tlV y)) (tlEs n++tlMs vk n) w1:=Zky (hq.conv hs) rfl λj hj=>hM j (Zvo hj);refine⟨y,hT,hq.mod.size,hg,he,hq'.mod,λx hx=>hq'.holds x (List.mem_append_right _ hx),λx hx=>⟨hq'.holds x (List.mem_append_left _ hx),λj hj=>?_⟩,(List.pairwise_append.1 hq'.sep).1⟩;cases hw:x.wr with
 | false =>
  have h1:Ent.sem (J++(pre++tlV y)) x∈tlH.map (Ent.sem (tlA k y)):=by rw[hs];exact List.mem_map_of_mem (List.mem_append_left _ hx)
  obtain⟨e',he',hee⟩:=List.mem_map.1 h1;have hw':e'.wr=false:=(congrArg SEnt.wr hee).trans hw;have hj':e'.fp (tlA k y) j:=(congrFun (congrArg SEnt.fp hee) j).mpr hj;have key:∀j,(Zhv y j\/Zd2 y j\/(Z6 y.sx y.ox).fp j)->w.heap.size<=j\/(∃y∈hp,y.wr=false/\y.fp J j)\/j∈Zt J gone:=by
   rintro j (h|h|h)
   ·rcases hg.kept j h with h|h
    ·exact .inl h
    ·exact .inr (hO j (.inl h))
   ·rcases hg.want j h with h|h
    ·exact .inl h
    ·exact .inr (hO j (.inr (.inl h)))
   ·rcases hg.nest j h with h|h|h
    ·exact .inl h
    ·exact .inr (hO j (.inr (.inr (.inl h))))
    ·exact .inr (hO j (.inr (.inr (.inr h))))
  have fin:w.heap.size<=j\/(∃y∈hp,y.wr=false/\y.fp J j)\/j∈Zt J gone:=by
   simp only[tlH,List.mem_cons,List.not_mem_nil,or_false]at he';rcases he' with rfl|rfl|rfl|rfl|rfl|rfl|rfl
   ·exact key j (.inl hj')
   ·exact key j (.inr (.inl hj'))
   ·cases hw'
   ·cases hw'
   ·cases hw'
   ·exact key j (.inr (.inr hj'))
   ·cases hw'
  rcases fin with h|h|h
  ·exact .inl h
  ·exact .inr (.inl ⟨rfl,h⟩)
  ·exact .inr (.inr h)
 | true =>
  rcases hq'.own x (List.mem_append_left _ hx) hw j hj with h5|h5
  ·exact .inl h5
  ·simp only[Zm,List.map_cons,List.map_nil,qy13,qy12]at h5;rcases h5 with h5|h5
   ·exfalso;refine(List.pairwise_append.1 hq'.sep).2.2 x hx _ (qy12.2 rfl) (.inl hw) _ hj ?_;rw[h5];simp only[Ent.fp];rw[qy1 (l:=J++_),List.getElem?_append_left hv,<- qy1]
   ·exact .inr (.inr h5)
def unK(c:List UInt8)(asks:List Ak)(w:Wt):Bool:=!(decide (w.1=c) && asks.any λa=>decide (a.1=w.2.1))
theorem Z17d{c:List UInt8}{asks:List Ak}{y:Wt}{m:Nat}(h:y.1=c)(hm:m<asks.length)(h2:(asks.getD m aD).1=y.2.1):¬unK c asks y=true:=by unfold unK;rw[qy1,qy7 hm]at h2;have:(asks.any λa=>decide (a.1=y.2.1))=true:=List.any_eq_true.2 ⟨asks[m],List.getElem_mem hm,by simpa using h2⟩;rw[this];simp[h]
theorem Z17e{c:List UInt8}{asks:List Ak}{y:Wt}(h:¬y.1=c):unK c asks y=true:=by unfold unK;simp[h]
theorem Z112{c:List UInt8}{asks:List Ak}{y:Wt}(h:∀m,m<asks.length->¬(asks.getD m aD).1=y.2.1):unK c asks y=true:=by
 unfold unK;have:(asks.any λa=>decide (a.1=y.2.1))=false:=by rw[List.any_eq_false];intro a ha;obtain⟨m,hm,rfl⟩:=List.getElem_of_mem ha;have:=h m hm;rw[qy1,qy7 hm]at this;simpa using this
 rw[this];simp
set_option maxRecDepth 2000 in
theorem Zl6(w:World)(k:Nat)(x:TelX)(c:List UInt8)(p:Pkt)(va vc:Value)(hr:Rel ⟨Zl (tlA k x) tlH,w⟩ (tlA k x++Z6s c p va vc) (tlH++pkHp) w)(hlw:x.wants.length<1000000)(ho:x.ox.length<50000)(hl:p.asks.length<1000000) : Calls Tryz.prog 193 #[.pointer (some ⟨k,0,none⟩),.string ⟨c.toArray⟩,Zvw p va vc] w λe w'=>e=.returned (.tuple #[])/\Z8o w w' k x (λ_=>False) (Z1o c p x.tel):=by
  refine Z1 (Z3 (J:=tlA k x++Z6s c p va vc) sxE_ok Tryz.func193 Z41 rfl rfl hr rfl rfl ?_) rfl;simp only[QQ,Nat.reduceAdd,qy3,qy4,Z23,Z2f,Z45,gA0];intro b30 b31 w1 hr1;obtain⟨l,hle⟩:∃l,l=x.wants:=⟨_,rfl⟩
  refine(Z4r w1 x.wv x.wants (hr1.at_ 4 rfl) (by omega)).mono ?_;rintro e w2 ⟨u,rfl,a1,f1,m1⟩;refine⟨[.v u,.r (x.wants.map Zb)],rfl,rfl,m1,qy5 _,qy2.2 ⟨⟨a1,λk hk=>.inl (f1 k hk)⟩,qy5 _⟩,Z5,?_⟩;clear hr1 a1 f1 m1;rw[<- hle]at hlw;simp only[QQ,Nat.reduceAdd,qy3,qy4,Z23,Z2f,Z45,gA0,<- hle];have hfin:∀(u':Value) (y1:TelX),y1.tel={ (TelX.tel { x with wants:=l.filter (unK c p.asks),wv:=u' })with out:=(TelX.tel { x with wants:=l.filter (unK c p.asks),wv:=u' }).out++[toC c { pD_Q 11 with id:=p.id }] }->y1.tel=Z1o c p x.tel:=λu' y1 h=>by rw[h,hle];rfl
  refine⟨λvs=>∃(y:V) (i:Nat),vs=[y,.i i,.i p.kind,.b p.dup,.b p.retain,.b p.clean,.b p.session,.i p.qos,.i p.id,.i p.keep,.i p.code,.s p.client,.s p.topic,.s p.payload,.v va,.r (p.asks.map encA),.v vc,.r (p.codes.map Zh),.s c]/\i<=l.length/\∀j,j<i->unK c p.asks (l.getD j wD_V)=true,λvs=>(l.length - (vs.getD 1 (.i 0)).toI).toNat,⟨_,0,rfl,by omega,λj hj=>by omega⟩,?_⟩;rintro _ - ⟨y0,i,rfl,hi,hn⟩;simp only[QQ,Nat.reduceAdd,qy3,qy4,Z23,Z2f,Z45,gA0];refine⟨λh1=>?_,λh1=>?_⟩
  . have hi':i<l.length:=by omega
    refine⟨by omega,λb55=>?_⟩;refine⟨λh2=>?_,λh2=>⟨by omega,by omega,⟨_,i+1,rfl,by omega,λj hj=>?_⟩,by omega⟩⟩
    . refine⟨λvs=>∃(y:V) (m:Nat),vs=[y,.i m,.s (l.getD i wD_V).1,.s (l.getD i wD_V).2.1,.i (l.getD i wD_V).2.2]/\m<=p.asks.length/\∀j,j<m->¬(p.asks.getD j aD).1=(l.getD i wD_V).2.1,λvs=>(p.asks.length - (vs.getD 1 (.i 0)).toI).toNat,⟨_,0,rfl,by omega,λj hj=>by omega⟩,?_⟩;rintro _ - ⟨y1,m,rfl,hm,hnm⟩;simp only[QQ,Nat.reduceAdd,qy3,qy4,Z23,Z2f,Z45,gA0];refine⟨λh3=>⟨by omega,λb61=>⟨λh4=>⟨λh5=>by omega,λh5=>⟨by omega,by omega,?_⟩⟩,λh4=>⟨by omega,by omega,⟨_,m+1,rfl,by omega,λj hj=>?_⟩,by omega⟩⟩⟩,λh3=>⟨λh5=>by omega,λh5=>⟨by omega,by omega,⟨_,i+1,rfl,by omega,λj hj=>?_⟩,by omega⟩⟩⟩
      . refine⟨λvs=>∃(a j:Nat) (R:List Wt),vs=[.i a,.i j,.r (R.map Zb),.i p.kind,.b p.dup,.b p.retain,.b p.clean,.b p.session,.i p.qos,.i p.id,.i p.keep,.i p.code,.s p.client,.s p.topic,.s p.payload,.v va,.r (p.asks.map encA),.v vc,.r (p.codes.map Zh),.s c]/\a<j/\j<=l.length/\R.length=l.length/\R.take a=(l.take j).filter (unK c p.asks)/\R.drop j=l.drop j,λvs=>(l.length - (vs.getD 1 (.i 0)).toI).toNat,
          ⟨i,i+1,l,rfl,by omega,by omega,rfl,?_,rfl⟩,?_⟩
        . rw[Z6k (unK c p.asks) l i (by omega),if_neg (Z17d (m:=m) h2 (by omega) h4),List.append_nil,Zbo hn]
        rintro _ - ⟨a,j,R,rfl,haj,hj,hR,ht,hd⟩;simp only[QQ,Nat.reduceAdd,qy3,qy4,Z23,Z2f,Z45,gA0,hR];refine⟨λh6=>?_,λh6=>?_⟩
        . have hj':j<l.length:=by omega
          have hg:=Zn4 hd;refine⟨by omega,λb82 b83=>?_⟩;refine⟨λh7=>?_,λh7=>?_⟩
          . refine⟨λvs=>∃(y:V) (m:Nat),vs=[y,.i m,.s (R.getD j wD_V).1,.s (R.getD j wD_V).2.1,.i (R.getD j wD_V).2.2]/\m<=p.asks.length/\∀i,i<m->¬(p.asks.getD i aD).1=(R.getD j wD_V).2.1,λvs=>(p.asks.length - (vs.getD 1 (.i 0)).toI).toNat,⟨_,0,rfl,by omega,λj hj=>by omega⟩,?_⟩;rintro _ - ⟨y3,m3,rfl,hm3,hnm3⟩;simp only[QQ,Nat.reduceAdd,qy3,qy4,Z23,Z2f,Z45,gA0,hR];refine⟨λh8=>⟨by omega,λb89=>⟨λh9=>⟨by omega,by omega,⟨a,j+1,R,rfl,by omega,by omega,hR,?_,Z6l hd⟩,by omega⟩,λh9=>⟨by omega,by omega,⟨_,m3+1,rfl,by omega,λi hi=>?_⟩,by omega⟩⟩⟩,λh8=>⟨λh9=>?_,λh9=>by omega⟩⟩
            . rw[Z6k (unK c p.asks) l j (by omega),if_neg (Z17d (m:=m3) (by rw[<- hg];exact h7) (by omega) (by rw[<- hg];exact h9)),List.append_nil];exact ht
            . by_cases hij:i=m3
              . subst hij;exact h9
              . exact hnm3 i (by omega)
            . repeat (first|omega|refine⟨by omega,?_⟩)
              refine⟨⟨a+1,j+1,R.set a (R.getD j wD_V),?_,by omega,by omega,by simpa using hR,Zg4 haj (by omega) hR ht hd (by rw[<- hg];exact Z112 λm hm=>hnm3 m (by omega)),?_⟩,by omega⟩
              . rw[<- Zeo];rfl
              . rw[List.drop_set_of_lt (by omega)];exact Z6l hd
          . repeat (first|omega|refine⟨by omega,?_⟩)
            refine⟨⟨a+1,j+1,R.set a (R.getD j wD_V),?_,by omega,by omega,by simpa using hR,Zg4 haj (by omega) hR ht hd (by rw[<- hg];exact Z17e h7),?_⟩,by omega⟩
            . rw[<- Zeo];rfl
            . rw[List.drop_set_of_lt (by omega)];exact Z6l hd
        . have hje:j=l.length:=by omega
          subst hje;rw[List.take_length]at ht;refine⟨by omega,by omega,?_,λu' v83 w3 hr3=>?_⟩
          . simp only[qy11,List.length_take,List.length_replicate,qy3,hR];omega
          have hz3:=hr3.mod.size;have hnu:∀j,Z2 u' j->w.heap.size<=j:=Z111 hr3 1 rfl (a:=14) (b:=10) (c:=11) (d:=12) (by decide) rfl rfl rfl rfl rfl (λj h=>h) (λj h=>h) (λj h=>h);refine(Z17c (k:=k) (x:={ x with wants:=l.filter (unK c p.asks),wv:=u' }) (F:=(Z11 [pk1X { pD_Q 11 with id:=p.id }]).fp) (pre:=[]) hr3 84 0 [82,5,7,10]
            (Z1j w3 k { x with wants:=l.filter (unK c p.asks),wv:=u' } c v83 [pk1X { pD_Q 11 with id:=p.id }] (Z82 (Z49 (v:=82) (Z49 (v:=83) hr3)) (by rfl) k { x with wants:=l.filter (unK c p.asks),wv:=u' } (Z11 [pk1X { pD_Q 11 with id:=p.id }]) _ _ (hr3.at_ 13 rfl) (λj hj=>(qE 13 rfl rfl hj)) (Z55 rfl rfl _) (λj hj=>absurd hj (Z2x rfl rfl)) [10,3,12,13,14,1,16,2,0] (by decide) rfl
              (Zo rfl (Zo (Znn rfl (by simp only[QQ,Nat.reduceAdd,qy3,qy4,Z23,Z2f,Z45,gA0];rw[List.take_append_of_le_length (by simp;omega),List.take_take,Nat.min_self,<- List.map_take,ht])) rfl))) (show 1<1000000 by decide) (by show x.ox.length<1000000;omega))
            rfl rfl (Nat.succ_pos _) Zt5 (λj hj=>?_)).mono ?_
          . rcases hj with hj|hj|hj|hj
            . exact .inl (qE 8 rfl rfl hj)
            . exact .inr (Z26 (i:=82) (qy8 ..) hj.2)
            . exact .inl (qE 13 rfl rfl hj)
            . exact absurd hj (Z2x rfl rfl)
          rintro e w4 ⟨y4,hy4,hs4,hg4,rfl,m1,m2,m3,m4⟩;refine⟨tlV y4,rfl,rfl,m1,m2,m3,m4,?_⟩;intro w7 hr7;exact⟨by trivial,y4,hfin u' y4 hy4,(hr7.pick [0,1,2,3,4,5,16] (by decide)).conv rfl,(show Grew w.heap.size (λ_=>False) x { x with wants:=l.filter (unK c p.asks),wv:=u' } from⟨λj hj=>.inr hj,λj hj=>.inl (hnu j hj.2),λj hj=>.inr (.inl hj)⟩).trans hg4 hz3 (λj h=>absurd h (Z2x rfl rfl))⟩
      . by_cases hij:j=m
        . subst hij;exact h4
        . exact hnm j (by omega)
      . by_cases hij:j=i
        . subst hij;exact Z112 λm' hm'=>hnm m' (by omega)
        . exact hn j (by omega)
    . by_cases hij:j=i
      . subst hij;exact Z17e h2
      . exact hn j (by omega)
  . have hie:i=l.length:=by omega
    subst hie;have e1:=Zbo (p:=unK c p.asks) (l:=l) (i:=l.length) hn;rw[List.take_length]at e1;intro v55 w3 hr3;obtain⟨u',hu'⟩:∃u',u'=u:=⟨_,rfl⟩
    subst hu';have hz3:=hr3.mod.size;have hnu:∀j,Z2 u' j->w.heap.size<=j:=Z111 hr3 2 rfl (a:=12) (b:=8) (c:=9) (d:=10) (by decide) rfl rfl rfl rfl rfl (λj h=>h) (λj h=>h) (λj h=>h);refine(Z17c (k:=k) (x:={ x with wants:=l.filter (unK c p.asks),wv:=u' }) (F:=(Z11 [pk1X { pD_Q 11 with id:=p.id }]).fp) (pre:=[]) hr3 56 0 [33,5,7,10]
      (Z1j w3 k { x with wants:=l.filter (unK c p.asks),wv:=u' } c v55 [pk1X { pD_Q 11 with id:=p.id }] (Z82 (Z49 (v:=33) (Z49 (v:=55) hr3)) (by rfl) k { x with wants:=l.filter (unK c p.asks),wv:=u' } (Z11 [pk1X { pD_Q 11 with id:=p.id }]) _ _ (hr3.at_ 11 rfl) (λj hj=>(qE 11 rfl rfl hj)) (Z55 rfl rfl _) (λj hj=>absurd hj (Z2x rfl rfl)) [8,4,10,11,12,1,14,2,0] (by decide) rfl
        (Zo rfl (Zo (Znn rfl (by rw[e1];rfl)) rfl))) (show 1<1000000 by decide) (by show x.ox.length<1000000;omega))
      rfl rfl (Nat.succ_pos _) Zt5 (λj hj=>?_)).mono ?_
    . rcases hj with hj|hj|hj|hj
      . exact .inl (qE 6 rfl rfl hj)
      . exact .inr (Z26 (i:=33) (qy8 ..) hj.2)
      . exact .inl (qE 11 rfl rfl hj)
      . exact absurd hj (Z2x rfl rfl)
    rintro e w4 ⟨y4,hy4,hs4,hg4,rfl,m1,m2,m3,m4⟩;refine⟨tlV y4,rfl,rfl,m1,m2,m3,m4,?_⟩;intro w7 hr7;exact⟨by trivial,y4,hfin u' y4 hy4,(hr7.pick [0,1,2,3,4,5,14] (by decide)).conv rfl,(show Grew w.heap.size (λ_=>False) x { x with wants:=l.filter (unK c p.asks),wv:=u' } from⟨λj hj=>.inr hj,λj hj=>.inl (hnu j hj.2),λj hj=>.inr (.inl hj)⟩).trans hg4 hz3 (λj h=>absurd h (Z2x rfl rfl))⟩
theorem Zd3{l:List Wt}(h:Zi l=0):Z30 l:=λy hy=>by obtain⟨h1,h2,-⟩:=Zsc h y hy;have h3:=(Za3.1 h2).2.1.1;unfold cliB at h1;rw[Bool.and_eq_true,decide_eq_true_eq]at h1;exact⟨by omega,by omega⟩
theorem Z1fd{p:Pkt}(h:chkP p=0)(hk:p.kind=10):p.asks.length<=5:=by
 have h1:=(Zgr h).1;unfold Z27 at h1;rw[if_neg (by omega),if_neg (by omega),if_neg (by omega),if_pos (.inr hk),Zhs]at h1;split at h1
 ·rename_i h2;exact(Zsz h2).2
 ·exact absurd h1 (by assumption)
theorem Z15w(w:World)(k:Nat)(x:TelX)(c:List UInt8)(p:Pkt)(va vc:Value)(hr:Rel ⟨Zl (tlA k x) tlH,w⟩ (tlA k x++Z6s c p va vc) (tlH++pkHp) w)(hb:BOk x.tel)(ho:x.ox.length<40000)(hc:Zd c=true)(hp:chkP p=0) : Calls Tryz.prog 160 #[.pointer (some ⟨k,0,none⟩),.string ⟨c.toArray⟩,Zvw p va vc] w λe w'=>e=.returned (.tuple #[])/\Z8o w w' k x (λ_=>False) (Zy c p x.tel):=by
 refine Z1 (Z3 (J:=tlA k x++Z6s c p va vc) (sxE_ok.joins _) Tryz.func160 Z66 rfl rfl hr rfl rfl ?_) rfl;simp only[QQ,Nat.reduceAdd,qy3,qy4];have hn6:x.sx.length<=6:=by have:=hb.ns;rw[Z33,qy3]at this;exact this
 have hw20:x.wants.length<=20:=Zsp hb.wants;intro b30;refine⟨[.i (idxS x.tel.sess c),.b (hasS x.tel.sess c)],rfl,λ_ w' hr=>Zge w' x.sv x.sx c (hr.at_ 3 rfl).reads hb.sort (by omega),?_⟩;simp only[QQ,Nat.reduceAdd,qy3,qy4];have hat:hasS x.tel.sess c=true->idxS x.tel.sess c<x.sx.length:=λh=>(Zvt h).1;have hon:hasS x.tel.sess c=true->Value.gB (((x.sx.map Zg).getD (idxS x.tel.sess c) []).getD 1 undef)=(x.tel.sess.getD (idxS x.tel.sess c) s0).on:=λh=>by rw[Zbt (Zvt h).1,<- (Zvt h).2];rfl
 refine⟨.inr (by omega),?_,?_⟩
 ·by_cases h:hasS x.tel.sess c=true
  ·exact .inr (by have:=hat h;omega)
  ·exact .inl λh2=>h h2.2
 have hif:(¬p.kind=1/\(¬hasS x.tel.sess c=true\/¬Value.gB (((x.sx.map Zg).getD (idxS x.tel.sess c) []).getD 1 undef)=true))↔(¬p.kind=1/\(¬hasS x.tel.sess c=true\/¬(x.tel.sess.getD (idxS x.tel.sess c) s0).on=true)):=by
  by_cases h:hasS x.tel.sess c=true
  ·rw[hon h]
  ·simp[h]
 rw[hif];have hfin:∀{w1:World} {y:TelX} {t:Tel},w.heap.size<=w1.heap.size->Grew w1.heap.size (λ_=>False) x y->Grew w.heap.size (λ_=>False) x y:=λh1 h2=>(Grew.refl _ _ x).trans h2 h1 (λ_ h=>h.elim);refine⟨λh1 w3 hr=>⟨by trivial,x,by rw[Zy,if_pos h1],(hr.pick [1,2,3,4,5,6,7] (by decide)).conv rfl,.refl _ _ _⟩,λh1=>?_⟩;have hpk:Zy c p x.tel=if p.kind=1 then Z1n c p x.tel
   else if p.kind=3 then Z32 c p x.tel
   else if p.kind=4 then Znb c p x.tel
   else if p.kind=8 then Z2h c p x.tel
   else if p.kind=10 then Z1o c p x.tel
   else if p.kind=12 then { x.tel with out:=x.tel.out++[toC c (pD_Q 13)] }
   else if p.kind=14 then Z5f c x.tel
   else x.tel:=by rw[Zy,if_neg h1]
 have hhas:¬p.kind=1->hasS x.tel.sess c=true/\(x.tel.sess.getD (idxS x.tel.sess c) s0).on=true:=λh2=>⟨Classical.byContradiction λh4=>h1 ⟨h2,.inl h4⟩,Classical.byContradiction λh4=>h1 ⟨h2,.inr h4⟩⟩
 refine⟨λhq1=>?_,λhq1=>?_⟩
 ·intro w1 hr1;refine(Z3g (k:=k) (x:=x) (F:=λ_=>False) (pre:=[]) hr1 33 0 [5,7,10]
   (Z10y w1 k x c p va vc (((hr1.pick [1,2,3,4,5,6,7,8,9] (by decide)).conv rfl).base.conv rfl) hb (by omega) hc)
   rfl rfl (Nat.succ_pos _) rfl (λj hj=>?_)).mono ?_
  ·rcases hj with hj|hj|hj|hj
   ·exact(qE 1 rfl rfl hj)
   ·exact(qE 2 rfl rfl hj)
   ·exact(qE 6 rfl rfl hj)
   ·exact hj.elim
  rintro e w2 ⟨y,hy,hs,hg,rfl,m1,m2,m3,m4⟩;refine⟨tlV y,rfl,rfl,m1,m2,m3,m4,?_⟩;intro w3 hr3;exact⟨by trivial,y,by rw[hy,hpk,if_pos hq1],(hr3.pick [0,1,2,3,4,5,10] (by decide)).conv rfl,(Grew.refl _ _ x).trans hg hr1.mod.size (λ_ h=>h.elim)⟩
 refine⟨λh3=>?_,λh3=>?_⟩
 ·intro w1 hr1;refine(Z3g (k:=k) (x:=x) (F:=λ_=>False) (pre:=[]) hr1 33 0 [5,7,10]
   (Z10x w1 k x c p va vc (((hr1.pick [1,2,3,4,5,6,7,8,9] (by decide)).conv rfl).base.conv rfl) hb (by omega) (Zd3 hb.wants) ((Zgr hp).2.1 h3))
   rfl rfl (Nat.succ_pos _) rfl (λj hj=>?_)).mono ?_
  ·rcases hj with hj|hj|hj|hj
   ·exact(qE 1 rfl rfl hj)
   ·exact(qE 2 rfl rfl hj)
   ·exact(qE 6 rfl rfl hj)
   ·exact hj.elim
  rintro e w2 ⟨y,hy,hs,hg,rfl,m1,m2,m3,m4⟩;refine⟨tlV y,rfl,rfl,m1,m2,m3,m4,?_⟩;intro w3 hr3;exact⟨by trivial,y,by rw[hy,hpk,if_neg hq1,if_pos h3],(hr3.pick [0,1,2,3,4,5,10] (by decide)).conv rfl,(Grew.refl _ _ x).trans hg hr1.mod.size (λ_ h=>h.elim)⟩
 refine⟨λh4=>?_,λh4=>?_⟩
 ·obtain⟨hh,hon1⟩:=hhas hq1;obtain⟨hlt,hse⟩:=Zvt hh;have hok:SesOk (x.sx.getD (idxS x.tel.sess c) sxD).1:=by rw[hse];exact Zbx hb hh
  have hT:∀u1 u2:Value,Zy c p x.tel={ (TelX.tel { x with sx:=x.sx.set (idxS x.tel.sess c) ((Z53 (x.sx.getD (idxS x.tel.sess c) sxD).1 p.id).1,u1,u2) })with out:=(TelX.tel { x with sx:=x.sx.set (idxS x.tel.sess c) ((Z53 (x.sx.getD (idxS x.tel.sess c) sxD).1 p.id).1,u1,u2) }).out++((Z53 (x.sx.getD (idxS x.tel.sess c) sxD).1 p.id).2.map pkN).map λt=>toC c t.1 }:=λu1 u2=>by rw[hpk,if_neg hq1,if_neg h3,if_pos h4,Znb,Zq9,<- hse];simp only[TelX.tel,List.map_set]
  clear hif hon hat;generalize idxS x.tel.sess c=ix at hlt hse hok hT⊢
  have hrow:=Zbt hlt;simp only[hrow,Zg,List.getD_cons_zero,List.getD_cons_succ,Value.gI,Value.gB,Value.gS,Z1p];have hmm:=Z7i hlt;generalize hss:x.sx.getD ix sxD=ss at hok hse hmm hT
  obtain⟨s,s',s''⟩:=ss;simp only at hok hse hT⊢;obtain⟨S,hS⟩:∃S,S=Z53 s p.id:=⟨_,rfl⟩
  have hS7:S.2.length<=6:=by rw[hS];exact Znj p.id hok
  rw[<- hS]at hT;refine⟨λvs=>∃(u1 u2 u3:Value) (b:Nat),vs=[.s S.1.cl,.b S.1.on,.b S.1.clean,.v u1,.r (S.1.fl.map encF),.v u2,.r (S.1.qu.map encF),.i S.1.next,.v u3,.r ((S.2.map pkN).map Z47),.n b]/\newV w.heap.size u1/\newV w.heap.size u2,⟨by omega,by omega,?_,?_⟩,?_⟩
  ·intro w1 hr1;have hsz:=hr1.mod.size;obtain⟨hs1,hs2⟩:=Zz (hr1.at_ 6 rfl:(Z6 x.sx x.ox).holds w1) hmm;refine(Z1 (Z170 w1 s s' s'' p.id hs1 hs2 hok.next (by have:=hok.nf;omega) (by have:=hok.nq;omega)) rfl).mono ?_;rw[<- hS];rintro e w2 ⟨u1,u2,u3,rfl,g1,g2,g3,g4,g5,g6,gm⟩;refine⟨[.s S.1.cl,.b S.1.on,.b S.1.clean,.v u1,.r (S.1.fl.map encF),.v u2,.r (S.1.qu.map encF),.i S.1.next,.v u3,.r ((S.2.map pkN).map Z47)],rfl,rfl,gm,qy5 _,qy2.2 ⟨⟨g1,λk hk=>.inl (g4 k hk.2)⟩,qy2.2 ⟨⟨g2,λk hk=>.inl (g5 k hk.2)⟩,qy2.2 ⟨⟨by show reads w2 u3 kP ((S.2.map pkN).map Z47);rw[Zbz];exact g3,λk hk=>.inl (g6 k hk.2)⟩,qy5 _⟩⟩⟩,Z8q ..,λb=>⟨u1,u2,u3,b,rfl,λk hk=>Nat.le_trans hsz (g4 k hk),λk hk=>Nat.le_trans hsz (g5 k hk)⟩⟩
  ·intro b w1 hr1;have hsz:=hr1.mod.size;obtain⟨hs1,hs2⟩:=Zz (hr1.at_ 7 rfl:(Z6 x.sx x.ox).holds w1) hmm;refine(Z1 (Z170 w1 s s' s'' p.id hs1 hs2 hok.next (by have:=hok.nf;omega) (by have:=hok.nq;omega)) rfl).mono ?_;rw[<- hS];rintro e w2 ⟨u1,u2,u3,rfl,g1,g2,g3,g4,g5,g6,gm⟩;refine⟨[.s S.1.cl,.b S.1.on,.b S.1.clean,.v u1,.r (S.1.fl.map encF),.v u2,.r (S.1.qu.map encF),.i S.1.next,.v u3,.r ((S.2.map pkN).map Z47)],rfl,rfl,gm,qy5 _,qy2.2 ⟨⟨g1,λk hk=>.inl (g4 k hk.2)⟩,qy2.2 ⟨⟨g2,λk hk=>.inl (g5 k hk.2)⟩,qy2.2 ⟨⟨by show reads w2 u3 kP ((S.2.map pkN).map Z47);rw[Zbz];exact g3,λk hk=>.inl (g6 k hk.2)⟩,qy5 _⟩⟩⟩,Z8q ..,u1,u2,u3,b,rfl,λk hk=>Nat.le_trans hsz (g4 k hk),λk hk=>Nat.le_trans hsz (g5 k hk)⟩
  rintro _ - ⟨u1,u2,u3,b,rfl,n1,n2⟩;refine⟨λvs=>vs=[],⟨by omega,by omega,rfl⟩,?_⟩;rintro _ - rfl;simp only[QQ,Nat.reduceAdd,qy3,qy4];intro w3 hr3;have hsz3:w.heap.size<=w3.heap.size:=hr3.mod.size;have hA3:(Z6 (x.sx.set ix (S.1,u1,u2)) x.ox).holds w3:=Zc1 (hr3.at_ 10 rfl) (hr3.at_ 1 rfl) (hr3.at_ 2 rfl);have hf3:∀j,(Z6 (x.sx.set ix (S.1,u1,u2)) x.ox).fp j->(Z6 x.sx x.ox).fp j\/((S.1.fl.map encF).flatten≠[]/\Z2 u1 j)\/((S.1.qu.map encF).flatten≠[]/\Z2 u2 j):=λj hj=>(Z6r hj).elim (λh=>.inl h) (λh=>.inr h);refine(Z3g (k:=k) (x:={ x with sx:=x.sx.set ix (S.1,u1,u2) }) (F:=(Z11 (S.2.map pkN)).fp) (pre:=[]) hr3 44 0 [5,7,10]
   (Z1j w3 k { x with sx:=x.sx.set ix (S.1,u1,u2) } c u3 (S.2.map pkN) (Z82 hr3 (by rfl) k { x with sx:=x.sx.set ix (S.1,u1,u2) } (Z11 (S.2.map pkN)) _ _ hA3 (λj hj=>?_) (Zc0 _ _) (λj hj=>absurd hj Z83) [7,8,9,10,11,1,13,5,0] (by decide) rfl (Zo rfl (Zo rfl (Zo (Z46 rfl ?_) rfl)))) (by rw[qy3];omega) (by show x.ox.length<1000000;omega))
   rfl rfl (Nat.succ_pos _) rfl (λj hj=>?_)).mono ?_
  ·rcases hf3 j hj with h|h|h
   ·exact(qE 10 rfl rfl h)
   ·exact(qE 1 rfl rfl h)
   ·exact(qE 2 rfl rfl h)
  ·simp only[QQ,Nat.reduceAdd,qy3,qy4];rw[<- Z54]
  ·rcases hj with hj|hj|hj|hj
   ·exact(qE 5 rfl rfl hj)
   ·exact(qE 6 rfl rfl hj)
   ·rcases hf3 j hj with h|h|h
    ·exact(qE 10 rfl rfl h)
    ·exact(qE 1 rfl rfl h)
    ·exact(qE 2 rfl rfl h)
   ·exact absurd hj Z83
  rintro e w4 ⟨y2,hy2,hsz4,hgr,rfl,m1,m2,m3,m4⟩;refine⟨tlV y2,rfl,rfl,m1,m2,m3,m4,?_⟩;intro w5 hr5;exact⟨by trivial,y2,by rw[hy2,<- hT u1 u2],(hr5.pick [0,1,2,3,4,5,14] (by decide)).conv rfl,(Zeu (Grew.refl w.heap.size _ x) (Nat.le_refl _) (λj h=>n1 j h) (λj h=>n2 j h)).trans hgr hsz3 (λj h=>absurd h Z83)⟩
 refine⟨λh8=>?_,λh8=>?_⟩
 ·intro w1 hr1;refine(Z3g (k:=k) (x:=x) (F:=λ_=>False) (pre:=[]) hr1 33 0 [5,7,10]
   (Zqb w1 k x c p va vc (((hr1.pick [1,2,3,4,5,6,7,8,9] (by decide)).conv rfl).base.conv rfl) hb (by omega) hc (Zt0 hp h8).1 (Zt0 hp h8).2.2)
   rfl rfl (Nat.succ_pos _) rfl (λj hj=>?_)).mono ?_
  ·rcases hj with hj|hj|hj|hj
   ·exact(qE 1 rfl rfl hj)
   ·exact(qE 2 rfl rfl hj)
   ·exact(qE 6 rfl rfl hj)
   ·exact hj.elim
  rintro e w2 ⟨y,hy,hs,hg,rfl,m1,m2,m3,m4⟩;refine⟨tlV y,rfl,rfl,m1,m2,m3,m4,?_⟩;intro w3 hr3;exact⟨by trivial,y,by rw[hy,hpk,if_neg hq1,if_neg h3,if_neg h4,if_pos h8],(hr3.pick [0,1,2,3,4,5,10] (by decide)).conv rfl,(Grew.refl _ _ x).trans hg hr1.mod.size (λ_ h=>h.elim)⟩
 refine⟨λh10=>?_,λh10=>?_⟩
 ·intro w1 hr1;refine(Z3g (k:=k) (x:=x) (F:=λ_=>False) (pre:=[]) hr1 33 0 [5,7,10]
   (Zl6 w1 k x c p va vc (((hr1.pick [1,2,3,4,5,6,7,8,9] (by decide)).conv rfl).base.conv rfl) (by omega) (by omega) (by have:=Z1fd hp h10;omega))
   rfl rfl (Nat.succ_pos _) rfl (λj hj=>?_)).mono ?_
  ·rcases hj with hj|hj|hj|hj
   ·exact(qE 1 rfl rfl hj)
   ·exact(qE 2 rfl rfl hj)
   ·exact(qE 6 rfl rfl hj)
   ·exact hj.elim
  rintro e w2 ⟨y,hy,hs,hg,rfl,m1,m2,m3,m4⟩;refine⟨tlV y,rfl,rfl,m1,m2,m3,m4,?_⟩;intro w3 hr3;exact⟨by trivial,y,by rw[hy,hpk,if_neg hq1,if_neg h3,if_neg h4,if_neg h8,if_pos h10],(hr3.pick [0,1,2,3,4,5,10] (by decide)).conv rfl,(Grew.refl _ _ x).trans hg hr1.mod.size (λ_ h=>h.elim)⟩
 refine⟨λh12=>?_,λh12=>?_⟩
 ·intro v33 w1 hr1;refine(Z3g (k:=k) (x:=x) (F:=(Z11 [pk1X (pD_Q 13)]).fp) (pre:=[]) hr1 34 0 [5,7,10]
   (Z1j w1 k x c v33 [pk1X (pD_Q 13)] (Z82 (toRd hr1) (by rfl) k x (Z11 [pk1X (pD_Q 13)]) _ _ (hr1.at_ 7 rfl) (λj hj=>(qE 7 rfl rfl hj)) (Z55 rfl rfl _) (λj hj=>absurd hj (Z2x rfl rfl)) [4,5,6,7,8,1,10,2,0] (by decide) rfl rfl) (show 1<1000000 by decide) (by omega))
   rfl rfl (Nat.succ_pos _) rfl (λj hj=>?_)).mono ?_
  ·rcases hj with hj|hj|hj|hj
   ·exact(qE 2 rfl rfl hj)
   ·exact(qE 3 rfl rfl hj)
   ·exact(qE 7 rfl rfl hj)
   ·exact absurd hj (Z2x rfl rfl)
  rintro e w2 ⟨y,hy,hs,hg,rfl,m1,m2,m3,m4⟩;refine⟨tlV y,rfl,rfl,m1,m2,m3,m4,?_⟩;intro w3 hr3;exact⟨by trivial,y,by rw[hy,hpk,if_neg hq1,if_neg h3,if_neg h4,if_neg h8,if_neg h10,if_pos h12];rfl,(hr3.pick [0,1,2,3,4,5,11] (by decide)).conv rfl,(Grew.refl _ _ x).trans hg hr1.mod.size (λj h=>absurd h (Z2x rfl rfl))⟩
 refine⟨λh14=>?_,λh14=>?_⟩
 ·intro w1 hr1;refine(Z3g (k:=k) (x:=x) (F:=λ_=>False) (pre:=[]) hr1 33 0 [5,7,10]
   (Z17a w1 k x c (((hr1.pick [1,2,3,4,5,6,7] (by decide)).conv rfl).base.conv rfl) hb (by omega))
   rfl rfl (Nat.succ_pos _) rfl (λj hj=>?_)).mono ?_
  ·rcases hj with hj|hj|hj|hj
   ·exact(qE 1 rfl rfl hj)
   ·exact(qE 2 rfl rfl hj)
   ·exact(qE 6 rfl rfl hj)
   ·exact hj.elim
  rintro e w2 ⟨y,hy,hs,hg,rfl,m1,m2,m3,m4⟩;refine⟨tlV y,rfl,rfl,m1,m2,m3,m4,?_⟩;intro w3 hr3;exact⟨by trivial,y,by rw[hy,hpk,if_neg hq1,if_neg h3,if_neg h4,if_neg h8,if_neg h10,if_neg h12,if_pos h14],(hr3.pick [0,1,2,3,4,5,10] (by decide)).conv rfl,(Grew.refl _ _ x).trans hg hr1.mod.size (λ_ h=>h.elim)⟩
 intro w3 hr;exact⟨by trivial,x,by rw[hpk,if_neg hq1,if_neg h3,if_neg h4,if_neg h8,if_neg h10,if_neg h12,if_neg h14],(hr.pick [1,2,3,4,5,6,7] (by decide)).conv rfl,.refl _ _ _⟩
abbrev mgV(m:Msg)(v:Value):List V:=[.i m.kind,.i m.code,.i m.id,.s m.tok,.v v,.r (m.opts.map encO),.s m.pay]
def Z113(w w':World)(e:Ending)(k:Nat)(x:TelX)(av:Value)(t:Tel)(a:Msg):Prop :=
 ∃(y:TelX) (v:Value),e=.returned (mV a (sc1 v))/\y.tel=t/\Rel ⟨Zl (tlA k x) tlH,w⟩ (tlA k y++[.v v,.r (a.opts.map encO)]) (tlH++[.rd 13 [.int .i64,.str] (.var 14)]) w'/\Grew w.heap.size (λ_=>False) x y/\(v=av\/∀j,Z2 v j->w.heap.size<=j)
theorem Z1an(w:World)(k:Nat)(x:TelX)(n:Int)(m a:Msg)(mv av:Value)(name:List UInt8)(hr:Rel ⟨Zl (tlA k x) tlH,w⟩ (tlA k x++([.i n]++mgV m mv++mgV a av++[.s name])) (tlH++[.rd 18 [.int .i64,.str] (.var 19),.rd 25 [.int .i64,.str] (.var 26)]) w)(hb:BOk x.tel)(hml:m.opts.length<1000000000)(hal:a.opts.length<1000000000) : Calls Tryz.prog 185 #[.pointer (some ⟨k,0,none⟩),.int .i64 n,mV m (sc1 mv),mV a (sc1 av),.string ⟨name.toArray⟩] w λe w'=>Z113 w w' e k x av (getB n m a name x.tel).1 (getB n m a name x.tel).2:=by
 refine Z1 (Z3 (J:=tlA k x++([.i n]++mgV m mv++mgV a av++[.s name])) (sxE_ok.joins _) Tryz.func185 Z8c rfl rfl hr rfl rfl ?_) rfl;simp only[QQ,Nat.reduceAdd,qy3,qy4,gK1];have hkt:chkK x.kept=0:=hb.kept;have hk16:x.kept.length<=16:=(Z17.1 hkt).1;have hw12:x.wat.length<=12:=(Z1a.1 hb.wat).1;intro b29 b30 b31;refine⟨[.i (idx x.kept name),.b (hasK x.kept name)],rfl,λ_ w' hr=>Zyk w' x.kv x.kept name (hr.at_ 3 rfl) (Z17.1 hkt).2.2 (by omega),?_⟩;simp only[QQ,Nat.reduceAdd,qy3,qy4,gK1];refine⟨λh1 w3 hr=>?_,λh1=>?_⟩
 ·have hg:getB n m a name x.tel=(x.tel,{ a with code:=132 }):=by rw[getB,if_pos (show ¬hasK x.tel.kept name=true from h1)]
  rw[hg];exact⟨x,av,rfl,rfl,(hr.pick [3,4,5,6,7,8,9,11] (by decide)).conv rfl,.refl _ _ _,.inl rfl⟩
 have h1':=qy9.1 h1;have hlt:idx x.kept name<x.kept.length:=(of_decide_eq_true h1').1;refine⟨λvs=>vs=[],⟨by omega,by omega,rfl⟩,?_⟩;rintro _ - rfl;refine⟨[.i (Z7f 6 m.opts).1,.i (Z7f 6 m.opts).2],rfl,λ_ w' hr=>Z158 w' m mv 6 (hr.at_ 10 rfl) hml,?_⟩;simp only[QQ,Nat.reduceAdd,qy3,qy4,gK1];obtain⟨a1,ha1⟩:∃a1:Msg,a1={ a with code:=69,pay:=(x.kept.getD (idx x.kept name) kD).2.1 }:=⟨_,rfl⟩
 have hg0:getB n m a name x.tel=if(Z7f 6 m.opts).2=0/\(Z7f 6 m.opts).1=0 then
   if(Z52 x.wat (n,m.tok,name,1)).2=0 then({ x.tel with wat:=(Z52 x.wat (n,m.tok,name,1)).1 },putM a1 1)else(x.tel,a1)
  else if(Z7f 6 m.opts).2=0/\(Z7f 6 m.opts).1=1 then({ x.tel with wat:=filt n m.tok x.wat },a1)
  else(x.tel,a1):=by rw[getB,if_neg (show ¬¬hasK x.tel.kept name=true from h1),ha1];rfl
 refine⟨λh2=>?_,λh2=>?_⟩
 ·rw[if_pos h2]at hg0;obtain⟨R,hR⟩:∃R,R=Z52 x.wat (n,m.tok,name,1):=⟨_,rfl⟩
  rw[<- hR]at hg0;refine⟨λvs=>∃v':Value,vs=[.v v',.r (R.1.map Z8),.i R.2],?_,?_⟩
  ·intro w1 hr1;refine(Z1cf w1 x.av x.wat (n,m.tok,name,1) (hr1.at_ 6 rfl).reads (by omega)).mono ?_;rw[<- hR];rintro e w2 ⟨v',rfl,g1,g2,gm⟩;exact⟨[.v v',.r (R.1.map Z8),.i R.2],rfl,rfl,gm,qy5 _,qy2.2 ⟨⟨g1,λk hk=>.inl (g2 k hk)⟩,qy5 _⟩,Z5,v',rfl⟩
  rintro _ - ⟨v1,rfl⟩;simp only[QQ,Nat.reduceAdd,qy3,qy4,gK1];refine⟨λh3=>?_,λh3=>?_⟩
  ·have hgp:({ x.tel with wat:=R.1 },putM a1 1)=getB n m a name x.tel:=by rw[hg0,if_pos h3]
   rw[<- hgp];intro b39 b40;refine⟨?_,?_⟩
   ·refine⟨[.s (Z2k 1)],rfl,λ_ w' _=>Zcz w' 1 (by decide),?_⟩;simp only[QQ,Nat.reduceAdd,qy3,qy4,gK1];intro v42 w1 hr1;have hz1:=hr1.mod.size;refine(Z1 (Zbq w1 a1 av v42 6 [Z2k 1] (by rw[ha1];exact hr1.at_ 15 rfl) (hr1.at_ 0 rfl).reads (by rw[ha1];exact hal) (show 1<1000000000 by decide)) (by rw[ha1];rfl)).mono ?_;rintro e w5 ⟨v',rfl,q1,q2,qm⟩;refine⟨[.i a1.kind,.i a1.code,.i a1.id,.s a1.tok,.v v',.r ((putM a1 1).opts.map encO),.s a1.pay],rfl,rfl,qm,qy5 _,qy2.2 ⟨⟨q1,λk hk=>.inl (q2 k hk.2)⟩,qy5 _⟩,Z5,?_⟩;intro w6 hr6;exact⟨{ x with wat:=R.1,av:=v1 },v',rfl,rfl,(hr6.pick [8,9,10,4,12,13,14,0] (by decide)).conv rfl,⟨λj hj=>.inr hj,λj hj=>.inr hj,λj hj=>.inr (.inl hj)⟩,.inr λj hj=>Nat.le_trans hz1 (q2 j hj)⟩
   ·refine⟨[.s (Z2k 1)],rfl,λ_ w' _=>Zcz w' 1 (by decide),?_⟩;simp only[QQ,Nat.reduceAdd,qy3,qy4,gK1];refine⟨?_,?_⟩
    ·intro v42 w1 hr1;have hz1:=hr1.mod.size;refine(Z1 (Zbq w1 a1 av v42 6 [Z2k 1] (by rw[ha1];exact hr1.at_ 15 rfl) (hr1.at_ 0 rfl).reads (by rw[ha1];exact hal) (show 1<1000000000 by decide)) (by rw[ha1];rfl)).mono ?_;rintro e w5 ⟨v',rfl,q1,q2,qm⟩;refine⟨[.i a1.kind,.i a1.code,.i a1.id,.s a1.tok,.v v',.r ((putM a1 1).opts.map encO),.s a1.pay],rfl,rfl,qm,qy5 _,qy2.2 ⟨⟨q1,λk hk=>.inl (q2 k hk.2)⟩,qy5 _⟩,Z5,?_⟩;intro w6 hr6;exact⟨{ x with wat:=R.1,av:=v1 },v',rfl,rfl,(hr6.pick [8,9,10,4,12,13,14,0] (by decide)).conv rfl,⟨λj hj=>.inr hj,λj hj=>.inr hj,λj hj=>.inr (.inl hj)⟩,.inr λj hj=>Nat.le_trans hz1 (q2 j hj)⟩
    ·intro v42 w1 hr1;have hz1:=hr1.mod.size;refine(Z1 (Zbq w1 a1 av v42 6 [Z2k 1] (by rw[ha1];exact hr1.at_ 15 rfl) (hr1.at_ 0 rfl).reads (by rw[ha1];exact hal) (show 1<1000000000 by decide)) (by rw[ha1];rfl)).mono ?_;rintro e w5 ⟨v',rfl,q1,q2,qm⟩;refine⟨[.i a1.kind,.i a1.code,.i a1.id,.s a1.tok,.v v',.r ((putM a1 1).opts.map encO),.s a1.pay],rfl,rfl,qm,qy5 _,qy2.2 ⟨⟨q1,λk hk=>.inl (q2 k hk.2)⟩,qy5 _⟩,Z5,?_⟩;intro w6 hr6;exact⟨{ x with wat:=R.1,av:=v1 },v',rfl,rfl,(hr6.pick [8,9,10,4,12,13,14,0] (by decide)).conv rfl,⟨λj hj=>.inr hj,λj hj=>.inr hj,λj hj=>.inr (.inl hj)⟩,.inr λj hj=>Nat.le_trans hz1 (q2 j hj)⟩
  ·rw[if_neg h3]at hg0;rw[hg0];intro w3 hr;exact⟨x,av,by rw[ha1];rfl,rfl,by rw[ha1];exact(hr.pick [4,5,6,7,8,9,10,12] (by decide)).conv rfl,.refl _ _ _,.inl rfl⟩
 ·rw[if_neg h2]at hg0;refine⟨λh3=>?_,λh3 w3 hr=>?_⟩
  ·rw[if_pos h3]at hg0;rw[hg0];refine⟨λvs=>∃v':Value,vs=[.v v',.r ((filt n m.tok x.wat).map Z8)],?_,?_⟩
   ·intro w1 hr1;refine(Zb6 w1 x.av x.wat n m.tok (hr1.at_ 6 rfl).reads (by omega)).mono ?_;rintro e w2 ⟨v',rfl,g1,g2,gm⟩;exact⟨[.v v',.r ((filt n m.tok x.wat).map Z8)],rfl,rfl,gm,qy5 _,qy2.2 ⟨⟨g1,λk hk=>.inl (g2 k hk)⟩,qy5 _⟩,Z5,v',rfl⟩
   rintro _ - ⟨v1,rfl⟩;simp only[QQ,Nat.reduceAdd,qy3,qy4,gK1];intro w3 hr;exact⟨{ x with wat:=filt n m.tok x.wat,av:=v1 },av,by rw[ha1];rfl,rfl,by rw[ha1];exact(hr.pick [4,5,6,0,8,9,10,12] (by decide)).conv rfl,⟨λj hj=>.inr hj,λj hj=>.inr hj,λj hj=>.inr (.inl hj)⟩,.inl rfl⟩
  ·rw[if_neg h3]at hg0;rw[hg0];exact⟨x,av,by rw[ha1];rfl,rfl,by rw[ha1];exact(hr.pick [3,4,5,6,7,8,9,11] (by decide)).conv rfl,.refl _ _ _,.inl rfl⟩
theorem Z1dd{B:Base}{J:List V}{hp:List Ent}{w:World}(h:Rel B J hp w)(hb:hp.all (Ent.bd J.length)=true)(k:Nat)(x:TelX)(Jx:List V)(hx:List Ent)(hA:(Z6 x.sx x.ox).holds w)(hf:∀j,(Z6 x.sx x.ox).fp j->∃e∈hp,e.wr=false/\e.fp J j)(is:List Nat)(hn:is.Nodup) (hfp:Zl (tlA k x++Jx) (tlH++hx)=Zl (tlA k x) tlH) (hs:(is.filterMap λi=>(Ent.st J.length::hp)[i]?).map (Ent.sem (J++[.a (Z6 x.sx x.ox)]))=(tlH++hx).map (Ent.sem (tlA k x++Jx))) : Rel ⟨Zl (tlA k x) tlH,w⟩ (tlA k x++Jx) (tlH++hx) w:=by have h3:=(((h.gather hb _ hA hf).pick is hn).conv hs).base;rw[hfp]at h3;exact h3
theorem Z1de{P:Program}{f:Nat}{args:Array Value}{w:World}{B:Base}{J:List V}{hp:List Ent}{k:Nat}{x:TelX}{av:Value}{t:Tel}{a:Msg}(h0:Rel B J hp w)(n vk:Nat)(gone:List Nat) (h:Calls P f args w λe w1=>Z113 w w1 e k x av t a) (hav:∀j,¬Z2 av j) (hn:J.length+7=n) (hk:J.getD vk (.i 0)=.n k) (hv:vk<J.length) (hM:Zm J [vk] gone=k::(x.sv.ownBlock.toList++(x.av.ownBlock.toList++(x.ov.ownBlock.toList++[])))) (hO:∀j,(Zhv x j\/Zd2 x j\/(Z6 x.sx x.ox).fp j)->∃y∈hp,y.wr=false/\y.fp J j) : Calls P f args w λe w1=>∃(y:TelX) (v:Value),y.tel=t/\w.heap.size<=w1.heap.size/\Grew w.heap.size (λ_=>False) x y/\(∀j,Z2 v j->w.heap.size<=j)/\e=.returned (mV a (sc1 v))/\Mod (Zm J [vk] gone) w w1/\(∀x∈tlMs vk n,x.holds (J++(mgV a v++tlV y)) w1) /\ (∀x∈Ent.rd (J.length+4) [.int .i64,.str] (.var (J.length+5))::tlEs n,x.holds (J++(mgV a v++tlV y)) w1/\∀k,x.fp (J++(mgV a v++tlV y)) k->w.heap.size<=k\/(x.wr=false/\∃y∈hp,y.wr=false/\y.fp J k)\/k∈Zt J gone)/\Zp (J++(mgV a v++tlV y)) (Ent.rd (J.length+4) [.int .i64,.str] (.var (J.length+5))::tlEs n):=by
 refine h.mono ?_;rintro e w1 ⟨y,v,he,hT,hq,hg,hvv⟩;have hvn:∀j,Z2 v j->w.heap.size<=j:=λj hj=>by
  rcases hvv with rfl|h
  ·exact absurd hj (hav j)
  ·exact h j hj
 have hs:=Z109 (y:=y) (pre:=mgV a v) (show J.length+7=n from hn) hk hv;have ge:∀i,(J++(mgV a v++tlV y)).getD (J.length+i) (.i 0)=(mgV a v++tlV y).getD i (.i 0):=λi=>by rw[qy1,qy1,List.getElem?_append_right (by omega),Nat.add_sub_cancel_left]
 have hs2:(tlH++[Ent.rd 13 [.int .i64,.str] (.var 14)]).map (Ent.sem (tlA k y++[.v v,.r (a.opts.map encO)]))=((tlEs n++tlMs vk n)++[Ent.rd (J.length+4) [.int .i64,.str] (.var (J.length+5))]).map (Ent.sem (J++(mgV a v++tlV y))):=by
  rw[List.map_append,List.map_append,<- hs];congr 1
  simp only[List.map_cons,List.map_nil];exact congrArg (λz=>[z]) (Znn (r:=.var 14) (r':=.var (J.length+5)) (by rw[ge 4];rfl) (by simp only[X.ev];rw[ge 5];rfl))
 have hfull:Rel ⟨Zm J [vk] gone,w⟩ (J++(mgV a v++tlV y)) ((tlEs n++tlMs vk n)++[Ent.rd (J.length+4) [.int .i64,.str] (.var (J.length+5))]) w1:=Zky (hq.conv hs2) rfl λj hj=>by rw[show(Base.fp ⟨Zm J [vk] gone,w⟩)=Zm J [vk] gone from rfl,hM];exact Zvo hj
 have hq':Rel ⟨Zm J [vk] gone,w⟩ (J++(mgV a v++tlV y)) (tlEs n++tlMs vk n) w1:=(hfull.pick [0,1,2,3,4,5,6] (by decide)).conv rfl;have hrd:Rel ⟨Zm J [vk] gone,w⟩ (J++(mgV a v++tlV y)) (Ent.rd (J.length+4) [.int .i64,.str] (.var (J.length+5))::tlEs n) w1:=(hfull.pick [7,0,1,2,3,4,5] (by decide)).conv rfl;refine⟨y,v,hT,hq.mod.size,hg,hvn,he,hq'.mod,λx hx=>hq'.holds x (List.mem_append_right _ hx),λx hx=>⟨hrd.holds x hx,λj hj=>?_⟩,hrd.sep⟩;rcases List.mem_cons.1 hx with rfl|hx
 ·refine .inl (hvn j ?_);have:=hj.2;rw[ge 4]at this;exact this
 cases hw:x.wr with
 | false =>
  have h1:Ent.sem (J++(mgV a v++tlV y)) x∈tlH.map (Ent.sem (tlA k y)):=by rw[hs];exact List.mem_map_of_mem (List.mem_append_left _ hx)
  obtain⟨e',he',hee⟩:=List.mem_map.1 h1;have hw':e'.wr=false:=(congrArg SEnt.wr hee).trans hw;have hj':e'.fp (tlA k y) j:=(congrFun (congrArg SEnt.fp hee) j).mpr hj;have key:∀j,(Zhv y j\/Zd2 y j\/(Z6 y.sx y.ox).fp j)->w.heap.size<=j\/∃y∈hp,y.wr=false/\y.fp J j:=by
   rintro j (h|h|h)
   ·rcases hg.kept j h with h|h
    ·exact .inl h
    ·exact .inr (hO j (.inl h))
   ·rcases hg.want j h with h|h
    ·exact .inl h
    ·exact .inr (hO j (.inr (.inl h)))
   ·rcases hg.nest j h with h|h|h
    ·exact .inl h
    ·exact .inr (hO j (.inr (.inr h)))
    ·exact h.elim
  have fin:w.heap.size<=j\/∃y∈hp,y.wr=false/\y.fp J j:=by
   simp only[tlH,List.mem_cons,List.not_mem_nil,or_false]at he';rcases he' with rfl|rfl|rfl|rfl|rfl|rfl|rfl
   ·exact key j (.inl hj')
   ·exact key j (.inr (.inl hj'))
   ·cases hw'
   ·cases hw'
   ·cases hw'
   ·exact key j (.inr (.inr hj'))
   ·cases hw'
  rcases fin with h|h
  ·exact .inl h
  ·exact .inr (.inl ⟨rfl,h⟩)
 | true =>
  rcases hq'.own x (List.mem_append_left _ hx) hw j hj with h5|h5
  ·exact .inl h5
  ·simp only[Zm,List.map_cons,List.map_nil,qy13,qy12]at h5;rcases h5 with h5|h5
   ·exfalso;refine(List.pairwise_append.1 hq'.sep).2.2 x hx _ (qy12.2 rfl) (.inl hw) _ hj ?_;rw[h5];simp only[Ent.fp];rw[qy1 (l:=J++_),List.getElem?_append_left hv,<- qy1]
   ·exact .inr (.inr h5)
theorem Zew{α:Type}{f:Tel->α->Tel}(h:∀t a,t.out <+: (f t a).out):∀(l:List α) (t:Tel),t.out <+: (l.foldl f t).out
 | [],_=>List.prefix_rfl
 | a::l,t=>(h t a).trans (Zew h l (f t a))
theorem Z15x(n p:List UInt8)(q:Int)(t:Tel):t.out <+: (Z7g n p q t).out:=by have h1:t.out <+: (Z6o n p q t).out:=Zew (λt r=>⟨_,rfl⟩) _ _;exact h1.trans (Zew (f:=Z65 p) (λt r=>⟨_,rfl⟩) (Z3x n (Z6o n p q t).wat) { Z6o n p q t with wat:=Z3c n (Z6o n p q t).wat })
theorem Zt6(n p:List UInt8)(t:Tel):t.out <+: (Z1g n p t).1.out:=by
 unfold Z1g;split
 ·exact List.prefix_rfl
 split
 ·exact List.prefix_rfl
 ·exact Zew (f:=Z8b) (λt r=>⟨_,rfl⟩) (t.wat.filter (ofT n)) { t with kept:=(rawK t.kept n p).1 }
theorem Z1ao(n:Int)(m a:Msg)(name:List UInt8)(t:Tel):t.out <+: (getB n m a name t).1.out:=by
 unfold getB;split
 ·exact List.prefix_rfl
 simp only;split
 ·split<;>exact List.prefix_rfl
 ·split<;>exact List.prefix_rfl
theorem Z1df(n:Int)(m a:Msg)(t:Tel):t.out <+: (doB n m a t).1.out:=by
 unfold doB;split
 ·exact List.prefix_rfl
 split
 ·exact Z1ao ..
 split
 ·split
  ·exact(Zt6 ..).trans (Z15x ..)
  ·exact List.prefix_rfl
 split
 ·exact Zt6 ..
 ·exact List.prefix_rfl
def sntD:SntX:=nilX (toP 0 ⟨0,0,0,[],[],[]⟩)
theorem Z1ap{l:List SntX}{i:Nat}(h:i<l.length):(l.map Z1r).getD i []=Z1r (l.getD i sntD):=by rw[qy1,qy1,List.getElem?_map,qy7 h];rfl
theorem Z1aq{l:List SntX}{i:Nat}(h:i<l.length):l.getD i sntD∈l:=by rw[qy1,qy7 h];exact List.getElem_mem h
theorem Z1dg{l:List SntX}{o r:List Snt}{s:Snt}(h:(o++[s])++r=l.map (·.1)):o.length<l.length/\(l.getD o.length sntD).1=s:=by
 have hl:=congrArg List.length h;simp only[qy11,List.length_cons,List.length_nil,qy3]at hl;refine⟨by omega,?_⟩;have h1:=congrArg (λm=>m[o.length]?) h;simp only[List.append_assoc,List.getElem?_append_right (Nat.le_refl _),Nat.sub_self,List.getElem?_map,List.singleton_append,List.getElem?_cons_zero]at h1;rw[qy1];cases hh:l[o.length]? with
 | none=>rw[hh]at h1;cases h1
 | some t=>rw[hh]at h1;simpa using h1.symm
