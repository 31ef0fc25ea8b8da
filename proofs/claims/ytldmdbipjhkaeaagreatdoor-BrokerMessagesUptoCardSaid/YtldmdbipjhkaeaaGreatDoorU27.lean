/-
  The reference's broker: a message. By an AI agent.
-/
import Derived.Test.YtldmdbipjhkaeaaGreatDoorU23
import Derived.Test.YtldmdbipjhkaeaaGreatDoorU25
import Derived.Test.YtldmdbipjhkaeaaGreatDoorU12
import Derived.Test.YtldmdbipjhkaeaaGreatDoorU26
set_option linter.all false
set_option maxHeartbeats 20000000
namespace Go.Proofs.Y
open Go Go.Sx
set_option maxRecDepth 4000 in
theorem Zr6(w:World)(k:Nat)(x:TelX)(n:Int)(m:Msg)(mv:Value)(hr:Rel ⟨Zi (tlA k x) dlH,w⟩ (tlA k x++([.i n]++mgV m mv)) (dlH++[.rd 18 [.int .i64,.str] (.var 19)]) w)(hb:BOk x.tel)(ho:x.ox.length<40000)(hm:chk m=0) : Calls Tryz.prog 17 #[.pointer (some ⟨k,0,none⟩),.int .i64 n,mV m (sc1 mv)] w λe w'=>e=.returned (.tuple #[])/\Zl1 w w' k x (λ_=>False) (Zv n m x.tel):=by
  refine Z1 (Z7r (J:=tlA k x++([.i n]++mgV m mv)) (sxE_ok.joins _) Tryz.func17 Z3n rfl rfl hr rfl rfl ?_) rfl;simp only[Tree.goal,X.P,X.ev,SV.ev,CV.ev,Sc.ev,qz,QA,QB,QC,QD,QE,QF,QG,QH,QI,QJ,QK,QL,QM,Nat.reduceAdd,qy3,qy4];have hzn:0<=x.next/\x.next<=65535:=hb.next;obtain⟨⟨mk0,mk3⟩,-,⟨m1,mo,mp⟩,-⟩:=Z7x.1 hm;have hol:x.tel.out.length=x.ox.length:=by simp[TelX.tel]
  have lenX:∀y:TelX,y.tel.out.length=y.ox.length:=λy=>by simp[TelX.tel]
  intro b21;refine⟨λhc0=>⟨λhk0=>?_,λhk0=>?_⟩,λhc0=>⟨λhk1=>?_,λhk1=>?_⟩⟩
  . intro v22 o22;refine⟨by(first|omega|(simp only[qy11,List.length_set,qy3,List.length_cons,List.length_nil];omega)),λv23 o23=>?_⟩;intro w3 hr3;have hnil:∀s∈[toP n (⟨3,0,m.id,[],[],[]⟩:Msg)],nilS s:=λs hs=>by rw[qy12.1 hs];exact⟨rfl,rfl,rfl⟩
    obtain⟨q1,q2⟩:=Z8d (l:=x.sx) (o:=x.ox) hnil;simp only[List.map_cons,List.map_nil]at q1 q2;have hox0:x.ox.map Z12++[Z12 (nilX (toP n (⟨3,0,m.id,[],[],[]⟩:Msg)))]=(x.ox++[nilX (toP n (⟨3,0,m.id,[],[],[]⟩:Msg))]).map Z12:=by rw[List.map_append];rfl
    refine⟨by trivial,Zfa (y:={ x with ox:=x.ox++[nilX (toP n ⟨3,0,m.id,[],[],[]⟩)],ov:=v23 }) ?_ (Zl2 hr3 (by rfl) k _ (q1 _ (hr3.at_ 7 rfl)) (λj hj=>(qE 7 rfl rfl (q2 j hj))) [4,5,6,7,1,0,9] (by decide) (Zg rfl (Zg rfl (Zg rfl (Zg rfl (Zg (Z2r rfl hox0) rfl)))))) λj hj=>?_⟩
    . rw[Zv,if_pos ⟨hc0,hk0⟩];simp only[TelX.tel,List.map_append,List.map_cons,List.map_nil];rfl
    . rcases hj with hj|hj|hj|hj|hj
      . exact .inr (.inl (.inl (.inl hj)))
      . exact .inr (.inl (.inl (.inr (.inl hj))))
      . exact .inr (.inl (.inl (.inr (.inr (.inl hj)))))
      . exact .inr (.inl (.inl (.inr (.inr (.inr (.inl hj))))))
      . exact .inr (.inl (.inl (.inr (.inr (.inr (.inr (q2 j hj)))))))
  . intro w3 hr3;exact⟨by trivial,x,by rw[Zv,if_neg (λh=>hk0 h.2),if_neg (λh=>h.1 hc0)],(hr3.pick [1,2,3,4,5,6,7] (by decide)).conv rfl,.refl _ _ _⟩
  . intro w3 hr3;exact⟨by trivial,x,by rw[Zv,if_neg (λh=>hc0 h.1),if_neg (λh=>by omega)],(hr3.pick [1,2,3,4,5,6,7] (by decide)).conv rfl,.refl _ _ _⟩
  have hmsg:Zv n m x.tel=Z2z n m x.tel:=by rw[Zv,if_neg (λh=>hc0 h.1),if_pos ⟨hc0,by omega⟩]
  rw[hmsg];obtain⟨AK,hAK⟩:∃AK:Int,AK=if m.kind=1 then 1 else 2:=⟨_,rfl⟩
  obtain⟨AI,hAI⟩:∃AI:Int,AI=if m.kind=1 then x.next else m.id:=⟨_,rfl⟩
  obtain⟨N,hN⟩:∃N:Int,N=if m.kind=1 then nx_Z x.next else x.next:=⟨_,rfl⟩
  have hans:Z1o m x.next=(⟨AK,133,AI,m.tok,[],[]⟩:Msg):=by rw[Z1o,hAK,hAI];split<;>rfl
  have hnil:∀s∈[toP n (⟨0,0,0,[],[],[]⟩:Msg)],nilS s:=λs hs=>by rw[qy12.1 hs];exact⟨rfl,rfl,rfl⟩
  obtain⟨q1,q2⟩:=Z8d (l:=x.sx) (o:=x.ox) hnil;simp only[List.map_cons,List.map_nil]at q1 q2;have hox:x.ox.map Z12++[Z12 (nilX (toP n (⟨0,0,0,[],[],[]⟩:Msg)))]=(x.ox++[nilX (toP n (⟨0,0,0,[],[],[]⟩:Msg))]).map Z12:=by rw[List.map_append];rfl
  intro b22;refine⟨λvs=>vs=[.i AK,.i AI,.i N],⟨λh=>⟨by omega,by omega,by omega,?_⟩,λh=>?_⟩,?_⟩
  . rw[hAK,hAI,hN,if_pos h,if_pos h,if_pos h];rfl
  . rw[hAK,hAI,hN,if_neg h,if_neg h,if_neg h]
  rintro _ - rfl;simp only[Tree.goal,X.P,X.ev,SV.ev,CV.ev,Sc.ev,qz,QA,QB,QC,QD,QE,QF,QG,QH,QI,QJ,QK,QL,QM,Nat.reduceAdd,qy3,qy4];intro v26 o26;refine⟨by(first|omega|(simp only[qy11,List.length_set,qy3,List.length_cons,List.length_nil];omega)),λv27 o27=>?_⟩;refine⟨[.s (Z10 m.opts).1,.i (Z10 m.opts).2],rfl,λ_ w' hr=>Zuj w' m mv (hr.at_ 10 rfl) hm,?_⟩;simp only[Tree.goal,X.P,X.ev,SV.ev,CV.ev,Sc.ev,qz,QA,QB,QC,QD,QE,QF,QG,QH,QI,QJ,QK,QL,QM,Nat.reduceAdd,qy3,qy4];obtain⟨T1,hT1⟩:∃T1:Tel,T1=TelX.tel { x with next:=N,ox:=x.ox++[nilX (toP n (⟨0,0,0,[],[],[]⟩:Msg))],ov:=v27 }:=⟨_,rfl⟩
  have hT1':T1={ x.tel with next:=N,out:=x.tel.out++[toP n (⟨0,0,0,[],[],[]⟩:Msg)] }:=by rw[hT1];simp only[TelX.tel,List.map_append,List.map_cons,List.map_nil];rfl
  have hB1:BOk T1:=by
    rw[hT1'];refine⟨hb.kept,hb.wants,hb.ns,hb.ses,hb.sort,hb.wat,hb.has,hb.kpt,?_⟩
    show 0<=N/\N<=65535
    rw[hN];split
    . exact Zcb _ hzn.1
    . exact hzn
  have hF1:∀w0:Nat,∀j,dlF { x with next:=N,ox:=x.ox++[nilX (toP n (⟨0,0,0,[],[],[]⟩:Msg))],ov:=v27 } j->w0<=j\/dlG x j:=λw0 j hj=>by
    rcases hj with hj|hj|hj|hj|hj
    . exact .inr (.inl (.inl hj))
    . exact .inr (.inl (.inr (.inl hj)))
    . exact .inr (.inl (.inr (.inr (.inl hj))))
    . exact .inr (.inl (.inr (.inr (.inr (.inl hj)))))
    . exact .inr (.inl (.inr (.inr (.inr (.inr (q2 j hj))))))
  have l1:T1.out.length=x.ox.length+1:=by rw[hT1'];simp only[qy11,List.length_cons,List.length_nil,hol]
  have hpn:(Z10 m.opts).2=0->chkT (Z10 m.opts).1 false=0:=Zax;have hkt:chkK x.kept=0:=hb.kept;have hk16:x.kept.length<=16:=(Zu.1 hkt).1;have hw12:x.wat.length<=12:=(Zr.1 hb.wat).1;generalize hnm:(Z10 m.opts).1=name at hpn
  refine⟨λvs=>∃(y:TelX) (a':Msg) (u:Value),vs=[.i 0,.i 0,.i 0,.i 0,.i 0,.i 0,.i 0,.i 0,.i 0,.i 0,.i 0,.i 0,.i 0,.i 0,.i 0,.i 0,.i 0,.i 0,.i 0,.i 0,.i 0,.i 0,.i 0,.i 0,.i 0,.i a'.code,.v u,.s a'.pay,.v y.kv,.v y.wv,.v y.sv,.v y.av,.i y.next,.v y.ov,.r (a'.opts.map encO),.r (y.kept.map encK),.r (y.wants.map Za),.r (y.sx.map Zf),.r (y.wat.map Z7),.r (y.ox.map Z12),.a (Z6 y.sx y.ox)]/\(y.tel,a')=doB n m (⟨AK,133,AI,m.tok,[],[]⟩:Msg) T1/\(∀j,dlF y j->w.heap.size<=j\/dlG x j),⟨λh1=>?_,λh1=>⟨λh2=>?_,λh2=>⟨λh3=>⟨λh4=>?_,λh4=>?_⟩,λh3=>⟨λh4=>?_,λh4=>?_⟩⟩⟩⟩,?_⟩
  . refine⟨Z6 x.sx (x.ox++[nilX (toP n (⟨0,0,0,[],[],[]⟩:Msg))]),λw hr=>q1 w (hr.at_ 8 rfl),λj hj=>(qE 8 rfl rfl (q2 j hj)),{ x with next:=N,ox:=x.ox++[nilX (toP n (⟨0,0,0,[],[],[]⟩:Msg))],ov:=v27 },{ (⟨AK,133,AI,m.tok,[],[]⟩:Msg)with code:=128 },.slice none 0 0,?_,?_,hF1 _⟩
    . rw[<- hox];rfl
    . rw[doB,if_pos h1,hT1]
  . have h1':=qy9.1 h1;have hgd:doB n m (⟨AK,133,AI,m.tok,[],[]⟩:Msg) T1=getB n m (⟨AK,133,AI,m.tok,[],[]⟩:Msg) name T1:=by rw[doB,if_neg h1,if_pos h2,hnm]
    rw[hgd];have hTk:T1.kept=x.kept:=by rw[hT1'];rfl
    have hTw:T1.wat=x.wat:=by rw[hT1'];rfl
    obtain⟨a0,ha0⟩:∃a0:Int,a0=if hasK x.kept name=true then(idx x.kept name:Int)else -1:=⟨_,rfl⟩
    refine⟨[.i a0],rfl,λ_ w' hr=>by rw[ha0];exact Zdb w' x.kv x.kept name (hr.at_ 4 rfl) (Zu.1 hkt).2.2 (by omega),?_⟩;simp only[Tree.goal,X.P,X.ev,SV.ev,CV.ev,Sc.ev,qz,QA,QB,QC,QD,QE,QF,QG,QH,QI,QJ,QK,QL,QM,Nat.reduceAdd,qy3,qy4,gK1];refine⟨λh3=>?_,λh3=>?_⟩
    . have hno:¬hasK x.kept name=true:=λh=>by rw[ha0,if_pos h]at h3;omega
      refine⟨Z6 x.sx (x.ox++[nilX (toP n (⟨0,0,0,[],[],[]⟩:Msg))]),λw hr=>q1 w (hr.at_ 8 rfl),λj hj=>(qE 8 rfl rfl (q2 j hj)),{ x with next:=N,ox:=x.ox++[nilX (toP n (⟨0,0,0,[],[],[]⟩:Msg))],ov:=v27 },{ (⟨AK,133,AI,m.tok,[],[]⟩:Msg)with code:=132 },.slice none 0 0,?_,?_,hF1 _⟩
      . rw[<- hox];rfl
      . rw[getB,if_pos (by rw[hTk];exact hno),hT1]
    have hyes:hasK x.kept name=true:=Classical.byContradiction λh=>h3 (by rw[ha0,if_neg h];decide);have hlt:idx x.kept name<x.kept.length:=(of_decide_eq_true hyes).1;rw[if_pos hyes]at ha0;subst ha0;refine⟨λvs=>vs=[],⟨by omega,by omega,rfl⟩,?_⟩;rintro _ - rfl;refine⟨[.i (Z2a 6 m.opts).1,.i (Z2a 6 m.opts).2],rfl,λ_ w' hr=>Zui w' m mv 6 (hr.at_ 10 rfl) (by omega),?_⟩;simp only[Tree.goal,X.P,X.ev,SV.ev,CV.ev,Sc.ev,qz,QA,QB,QC,QD,QE,QF,QG,QH,QI,QJ,QK,QL,QM,Nat.reduceAdd,qy3,qy4,gK1];obtain⟨R,hR⟩:∃R,R=Z2t x.wat (n,m.tok,name,1):=⟨_,rfl⟩
    obtain⟨a1,ha1⟩:∃a1:Msg,a1={ (⟨AK,133,AI,m.tok,[],[]⟩:Msg)with code:=69,pay:=(x.kept.getD (idx x.kept name) kD).2.1 }:=⟨_,rfl⟩
    have hg0:getB n m (⟨AK,133,AI,m.tok,[],[]⟩:Msg) name T1=if(Z2a 6 m.opts).2=0/\(Z2a 6 m.opts).1=0 then
        if R.2=0 then({ T1 with wat:=R.1 },{ a1 with opts:=[(6,[1])] })else(T1,a1)
      else if(Z2a 6 m.opts).2=0/\(Z2a 6 m.opts).1=1 then({ T1 with wat:=filt n m.tok x.wat },a1)
      else(T1,a1):=by
      rw[getB,if_neg (by rw[hTk];exact qy9.2 hyes),hTk,hTw,<- hR,ha1];rfl
    rw[hg0];refine⟨λvs=>∃(u av':Value) (O:List Opt) (W:List Wat),vs=[.i 0,.i 0,.i 0,.i 0,.v u,.v av',.r (O.map encO),.r (W.map Z7)]/\(O,W)=(if(Z2a 6 m.opts).2=0/\(Z2a 6 m.opts).1=0 then if R.2=0 then([(6,[1])],R.1)else([],x.wat)else([],x.wat))/\W.length<=12/\(∀j,(W.map Z7).flatten≠[]/\Z2 av' j->w.heap.size<=j\/dlG x j),⟨λh4=>?_,λh4=>?_⟩,?_⟩
    . refine⟨λvs=>∃v':Value,vs=[.v v',.r (R.1.map Z7),.i R.2]/\(∀j,(R.1.map Z7).flatten≠[]/\Z2 v' j->w.heap.size<=j),?_,?_⟩
      . intro w1 hr1;have hz1:=hr1.mod.size;refine(Zq2 w1 x.av x.wat n m.tok name (hr1.at_ 7 rfl) (by omega)).mono ?_;rw[<- hR];rintro e w2 ⟨v',rfl,g1,g2,gm⟩;exact⟨[.v v',.r (R.1.map Z7),.i R.2],rfl,rfl,gm,qy5 _,qy2.2 ⟨⟨g1,λk hk=>.inl (g2 k hk)⟩,qy5 _⟩,Z5,v',rfl,λj hj=>Nat.le_trans hz1 (g2 j hj)⟩
      rintro _ - ⟨v1,rfl,hv1⟩;simp only[Tree.goal,X.P,X.ev,SV.ev,CV.ev,Sc.ev,qz,QA,QB,QC,QD,QE,QF,QG,QH,QI,QJ,QK,QL,QM,Nat.reduceAdd,qy3,qy4,gK1];refine⟨λh5=>?_,λh5=>?_⟩
      . intro v36 o36;refine⟨v36,v1,[(6,[1])],R.1,rfl,by rw[if_pos h4,if_pos h5],?_,λj hj=>.inl (hv1 j hj)⟩;have h6:=h5;rw[hR]at h6⊢;unfold Z2t at h6⊢;split at h6
        . exact absurd h6 (by decide)
        . rename_i h7;rw[if_neg h7];simp only[qy11,List.length_cons,List.length_nil]at h7⊢;omega
      . exact⟨.slice none 0 0,x.av,[],x.wat,rfl,by rw[if_pos h4,if_neg h5],hw12,λj hj=>.inr (.inl (.inr (.inr (.inr (.inl hj)))))⟩
    . exact⟨.slice none 0 0,x.av,[],x.wat,rfl,by rw[if_neg h4],hw12,λj hj=>.inr (.inl (.inr (.inr (.inr (.inl hj)))))⟩
    rintro _ - ⟨u,av',O,W,rfl,hOW,hWl,hWf⟩;simp only[Tree.goal,X.P,X.ev,SV.ev,CV.ev,Sc.ev,qz,QA,QB,QC,QD,QE,QF,QG,QH,QI,QJ,QK,QL,QM,Nat.reduceAdd,qy3,qy4,gK1];have hFW:∀(W2:List Wat) (v2:Value),(∀j,(W2.map Z7).flatten≠[]/\Z2 v2 j->w.heap.size<=j\/dlG x j)->∀j,dlF { { x with next:=N,ox:=x.ox++[nilX (toP n (⟨0,0,0,[],[],[]⟩:Msg))],ov:=v27 }with wat:=W2,av:=v2 } j->w.heap.size<=j\/dlG x j:=λW2 v2 hv j hj=>by
      rcases hj with hj|hj|hj|hj|hj
      . exact hF1 _ j (.inl hj)
      . exact hF1 _ j (.inr (.inl hj))
      . exact hF1 _ j (.inr (.inr (.inl hj)))
      . exact hv j hj
      . exact hF1 _ j (.inr (.inr (.inr (.inr hj))))
    refine⟨λh4=>?_,λh4=>?_⟩
    . refine⟨λvs=>∃v':Value,vs=[.v v',.r ((filt n m.tok W).map Z7)]/\(∀j,Z2 v' j->w.heap.size<=j),?_,?_⟩
      . intro w1 hr1;have hz1:=hr1.mod.size;refine(Zgg w1 av' W n m.tok (hr1.at_ 1 rfl) (by omega)).mono ?_;rintro e w2 ⟨v',rfl,g1,g2,gm⟩;exact⟨[.v v',.r ((filt n m.tok W).map Z7)],rfl,rfl,gm,qy5 _,qy2.2 ⟨⟨g1,λk hk=>.inl (g2 k hk)⟩,qy5 _⟩,Z5,v',rfl,λj hj=>Nat.le_trans hz1 (g2 j hj)⟩
      rintro _ - ⟨v1,rfl,hv1⟩;simp only[Tree.goal,X.P,X.ev,SV.ev,CV.ev,Sc.ev,qz,QA,QB,QC,QD,QE,QF,QG,QH,QI,QJ,QK,QL,QM,Nat.reduceAdd,qy3,qy4,gK1];have hne:¬((Z2a 6 m.opts).2=0/\(Z2a 6 m.opts).1=0):=λh=>by omega
      rw[if_neg hne]at hOW⊢;rw[if_pos h4];obtain⟨rfl,rfl⟩:=Prod.mk.inj hOW;refine⟨Z6 x.sx (x.ox++[nilX (toP n (⟨0,0,0,[],[],[]⟩:Msg))]),λw hr=>q1 w (hr.at_ 11 rfl),λj hj=>(qE 11 rfl rfl (q2 j hj)),{ { x with next:=N,ox:=x.ox++[nilX (toP n (⟨0,0,0,[],[],[]⟩:Msg))],ov:=v27 }with wat:=filt n m.tok x.wat,av:=v1 },a1,u,?_,?_,hFW _ _ λj hj=>.inl (hv1 j hj.2)⟩
      . rw[<- hox,ha1];rfl
      . rw[hT1];rfl
    . refine⟨Z6 x.sx (x.ox++[nilX (toP n (⟨0,0,0,[],[],[]⟩:Msg))]),λw hr=>q1 w (hr.at_ 10 rfl),λj hj=>(qE 10 rfl rfl (q2 j hj)),{ { x with next:=N,ox:=x.ox++[nilX (toP n (⟨0,0,0,[],[],[]⟩:Msg))],ov:=v27 }with wat:=W,av:=av' },{ a1 with opts:=O },u,?_,?_,hFW _ _ hWf⟩
      . rw[<- hox,ha1];rfl
      . rw[if_neg h4];split at hOW
        . rename_i h5;rw[if_pos h5];split at hOW
          . rename_i h6;rw[if_pos h6];obtain⟨rfl,rfl⟩:=Prod.mk.inj hOW;rw[hT1];rfl
          . rename_i h6;rw[if_neg h6];obtain⟨rfl,rfl⟩:=Prod.mk.inj hOW;rw[hT1,ha1];rfl
        . rename_i h5;rw[if_neg h5];obtain⟨rfl,rfl⟩:=Prod.mk.inj hOW;rw[hT1,ha1];rfl
  . have h1':=qy9.1 h1;intro w1 hr1;have hz1:=hr1.mod.size;have hG1:GrwD w.heap.size (λ_=>False) x { x with next:=N,ox:=x.ox++[nilX (toP n (⟨0,0,0,[],[],[]⟩:Msg))],ov:=v27 }:=λj hj=>by
      rcases hj with hj|hj
      . exact(hF1 _ j hj).imp id .inl
      . rcases Zf9 hr1 0 9 rfl rfl (by decide) rfl j hj with h|h
        . exact .inl h
        . exact .inr (.inl (.inr h))
    have hc:=Zv8 w1 k { x with next:=N,ox:=x.ox++[nilX (toP n (⟨0,0,0,[],[],[]⟩:Msg))],ov:=v27 } name m.pay (Z15s hr1 (by rfl) k { x with next:=N,ox:=x.ox++[nilX (toP n (⟨0,0,0,[],[],[]⟩:Msg))],ov:=v27 } [.s name,.s m.pay] [] (q1 _ (hr1.at_ 8 rfl)) (λj hj=>(qE 8 rfl rfl (q2 j hj))) [5,6,7,8,1,0,10] (by decide) rfl (Zg rfl (Zg rfl (Zg rfl (Zg rfl (Zg (Z2r rfl hox) rfl)))))) (by rw[<- hT1];exact hB1) (Zha (by exact hkt)) (by have:=(Z4o.1 (hpn h1')).2.1.1;omega) (by rw[<- lenX,<- hT1];omega);rw[<- hT1]at hc;refine(Zzc (k:=k) (x:={ x with next:=N,ox:=x.ox++[nilX (toP n (⟨0,0,0,[],[],[]⟩:Msg))],ov:=v27 }) (F:=λ_=>False) (pre:=[.b (Zx name m.pay T1).2]) hr1 31 0 [27] hc
      rfl rfl (Nat.succ_pos _) 27 (by decide) rfl (λj hj=>?_)).mono ?_
    . rcases hj with(hj|hj|hj|hj|hj)|hj;(· exact .inl (qE 4 rfl rfl hj));(· exact .inl (qE 5 rfl rfl hj));(· exact .inl (qE 6 rfl rfl hj));(· exact .inl (qE 7 rfl rfl hj));(· exact .inl (qE 8 rfl rfl (q2 j hj)));(· exact hj.elim)
    rintro e w2 ⟨y,hy,hsz,hg,rfl,m1,m2,m3,m4⟩;refine⟨.b (Zx name m.pay T1).2::tlV y,rfl,rfl,m1,m2,m3,m4,?_⟩;clear m1 m2 m3 m4;have g2:GrwD w.heap.size (λ_=>False) x y:=hG1.trans hg hz1 (λ_ h=>h.elim);have f2:∀j,dlF y j->w.heap.size<=j\/dlG x j:=λj hj=>(g2 j (.inl hj)).imp id λh=>h.elim id λh=>h.elim;obtain⟨b2,-,s2,l2⟩:=Z74 (p:=m.pay) hB1 (hpn h1');refine⟨λh5=>?_,λh5=>?_⟩
    . intro w3 hr3;have hz3:=hr3.mod.size;refine(Zzc (k:=k) (x:=y) (F:=λ_=>False) (pre:=[]) hr3 43 0 [40]
        (Z143 w3 k y name m.pay 1 (((hr3.pick [0,1,2,3,4,5,14] (by decide)).conv rfl).base.conv rfl) (by rw[hy];exact b2) (by rw[<- lenX,hy];omega) (by show Z1n y.tel.wants;rw[hy,s2,hT1'];exact Z8h hb.wants) (by unfold flE;rw[if_pos (hpn h1'),if_neg (show ¬200<(m.pay.length:Int) from by omega)]) (by decide))
        rfl rfl (Nat.succ_pos _) 40 (by decide) rfl (λj hj=>?_)).mono ?_
      . rcases hj with(hj|hj|hj|hj|hj)|hj
        . exact .inl (qE 0 rfl rfl hj)
        . exact .inl (qE 1 rfl rfl hj)
        . exact .inl (qE 2 rfl rfl hj)
        . exact .inl (qE 3 rfl rfl hj)
        . exact .inl (qE 5 rfl rfl hj)
        . exact hj.elim
      rintro e w4 ⟨y2,hy2,hsz2,hg2,rfl,m1,m2,m3,m4⟩;refine⟨tlV y2,rfl,rfl,m1,m2,m3,m4,?_⟩;clear m1 m2 m3 m4;have g3:GrwD w.heap.size (λ_=>False) x y2:=g2.trans hg2 hz3 (λ_ h=>h.elim);refine⟨Z6 y2.sx y2.ox,λw hr=>hr.at_ 5 rfl,λj hj=>(qE 5 rfl rfl hj),y2,{ (⟨AK,133,AI,m.tok,[],[]⟩:Msg)with code:=68 },.slice none 0 0,rfl,?_,λj hj=>(g3 j (.inl hj)).imp id λh=>h.elim id λh=>h.elim⟩;rw[hy2,hy,doB,if_neg h1,if_neg h2,if_pos h3,hnm,if_pos ⟨h4,h5⟩]
    . refine⟨Z6 y.sx y.ox,λw hr=>hr.at_ 5 rfl,λj hj=>(qE 5 rfl rfl hj),y,{ (⟨AK,133,AI,m.tok,[],[]⟩:Msg)with code:=128 },.slice none 0 0,rfl,?_,f2⟩;rw[hy,doB,if_neg h1,if_neg h2,if_pos h3,hnm,if_neg λh=>h5 h.2,Zvl h5]
  . refine⟨Z6 x.sx (x.ox++[nilX (toP n (⟨0,0,0,[],[],[]⟩:Msg))]),λw hr=>q1 w (hr.at_ 8 rfl),λj hj=>(qE 8 rfl rfl (q2 j hj)),{ x with next:=N,ox:=x.ox++[nilX (toP n (⟨0,0,0,[],[],[]⟩:Msg))],ov:=v27 },{ (⟨AK,133,AI,m.tok,[],[]⟩:Msg)with code:=128 },.slice none 0 0,?_,?_,hF1 _⟩
    . rw[<- hox];rfl
    . rw[doB,if_neg h1,if_neg h2,if_pos h3,if_neg λh=>h4 h.1,hT1]
  . have h1':=qy9.1 h1;intro w1 hr1;have hz1:=hr1.mod.size;have hG1:GrwD w.heap.size (λ_=>False) x { x with next:=N,ox:=x.ox++[nilX (toP n (⟨0,0,0,[],[],[]⟩:Msg))],ov:=v27 }:=λj hj=>by
      rcases hj with hj|hj
      . exact(hF1 _ j hj).imp id .inl
      . rcases Zf9 hr1 0 9 rfl rfl (by decide) rfl j hj with h|h
        . exact .inl h
        . exact .inr (.inl (.inr h))
    have hc:=Zv8 w1 k { x with next:=N,ox:=x.ox++[nilX (toP n (⟨0,0,0,[],[],[]⟩:Msg))],ov:=v27 } name [] (Z15s hr1 (by rfl) k { x with next:=N,ox:=x.ox++[nilX (toP n (⟨0,0,0,[],[],[]⟩:Msg))],ov:=v27 } [.s name,.s []] [] (q1 _ (hr1.at_ 8 rfl)) (λj hj=>(qE 8 rfl rfl (q2 j hj))) [5,6,7,8,1,0,10] (by decide) rfl (Zg rfl (Zg rfl (Zg rfl (Zg rfl (Zg (Z2r rfl hox) rfl)))))) (by rw[<- hT1];exact hB1) (Zha (by exact hkt)) (by have:=(Z4o.1 (hpn h1')).2.1.1;omega) (by rw[<- lenX,<- hT1];omega);rw[<- hT1]at hc;refine(Zzc (k:=k) (x:={ x with next:=N,ox:=x.ox++[nilX (toP n (⟨0,0,0,[],[],[]⟩:Msg))],ov:=v27 }) (F:=λ_=>False) (pre:=[.b (Zx name [] T1).2]) hr1 31 0 [27] hc
      rfl rfl (Nat.succ_pos _) 27 (by decide) rfl (λj hj=>?_)).mono ?_
    . rcases hj with(hj|hj|hj|hj|hj)|hj;(· exact .inl (qE 4 rfl rfl hj));(· exact .inl (qE 5 rfl rfl hj));(· exact .inl (qE 6 rfl rfl hj));(· exact .inl (qE 7 rfl rfl hj));(· exact .inl (qE 8 rfl rfl (q2 j hj)));(· exact hj.elim)
    rintro e w2 ⟨y,hy,hsz,hg,rfl,m1,m2,m3,m4⟩;refine⟨.b (Zx name [] T1).2::tlV y,rfl,rfl,m1,m2,m3,m4,?_⟩;clear m1 m2 m3 m4;have g2:GrwD w.heap.size (λ_=>False) x y:=hG1.trans hg hz1 (λ_ h=>h.elim);have f2:∀j,dlF y j->w.heap.size<=j\/dlG x j:=λj hj=>(g2 j (.inl hj)).imp id λh=>h.elim id λh=>h.elim;refine⟨Z6 y.sx y.ox,λw hr=>hr.at_ 5 rfl,λj hj=>(qE 5 rfl rfl hj),y,{ (⟨AK,133,AI,m.tok,[],[]⟩:Msg)with code:=66 },.slice none 0 0,rfl,?_,f2⟩;rw[hy,doB,if_neg h1,if_neg h2,if_neg h3,if_pos h4,hnm]
  . refine⟨Z6 x.sx (x.ox++[nilX (toP n (⟨0,0,0,[],[],[]⟩:Msg))]),λw hr=>q1 w (hr.at_ 8 rfl),λj hj=>(qE 8 rfl rfl (q2 j hj)),{ x with next:=N,ox:=x.ox++[nilX (toP n (⟨0,0,0,[],[],[]⟩:Msg))],ov:=v27 },(⟨AK,133,AI,m.tok,[],[]⟩:Msg),.slice none 0 0,?_,?_,hF1 _⟩
    . rw[<- hox];rfl
    . rw[doB,if_neg h1,if_neg h2,if_neg h3,if_neg h4,hT1]
  rintro _ - ⟨y,a',u,rfl,hdo,hgr⟩;simp only[Tree.goal,X.P,X.ev,SV.ev,CV.ev,Sc.ev,qz,QA,QB,QC,QD,QE,QF,QG,QH,QI,QJ,QK,QL,QM,Nat.reduceAdd,qy3,qy4];have hy:y.tel=(doB n m (⟨AK,133,AI,m.tok,[],[]⟩:Msg) T1).1:=congrArg Prod.fst hdo;have ha':a'=(doB n m (⟨AK,133,AI,m.tok,[],[]⟩:Msg) T1).2:=congrArg Prod.snd hdo;have hpre:=Z10w n m (⟨AK,133,AI,m.tok,[],[]⟩:Msg) T1;rw[<- hy,hT1']at hpre;obtain⟨r,hr0⟩:=hpre;obtain⟨hlt,hat⟩:=Z10x hr0;rw[hol]at hlt hat;have hid:a'=⟨AK,a'.code,AI,m.tok,a'.opts,a'.pay⟩:=by rw[ha'];exact Z17g n m (⟨AK,133,AI,m.tok,[],[]⟩:Msg) T1
  refine⟨by omega,?_⟩;intro w3 hr3;obtain⟨t0,ht0⟩:∃t0,t0=y.ox.getD x.ox.length sntD:=⟨_,rfl⟩
  have hmem:t0∈y.ox:=by rw[ht0];exact Zzk hlt
  rw[<- ht0]at hat;have hrow:=Zms hlt;rw[<- ht0]at hrow;obtain⟨s,va,vc,vo⟩:=t0;simp only at hat;subst hat;obtain⟨z,hz⟩:∃z:TelX,z={ y with ox:=y.ox.set x.ox.length (toP n a',va,vc,u) }:=⟨_,rfl⟩
  have hA:=hr3.at_ 0 rfl;have hO:Z2d w3 u a'.opts:=(hr3.at_ 1 rfl).reads;have hu:∀j,Z2 u j->w.heap.size<=j\/Z2 x.ov j:=Zf9 hr3 1 15 rfl rfl (by decide) rfl;have hsn:=Z70 (hA:(Z6 y.sx y.ox).holds w3) hmem;have hfz:∀j,(Z6 z.sx z.ox).fp j->(Z6 y.sx y.ox).fp j\/((a'.opts.map encO).flatten≠[]/\Z2 u j):=λj hj=>by
    rw[hz]at hj;rcases Zb.1 hj with h|⟨t,ht,hk⟩
    . exact .inl (Zb.2 (.inl h))
    . rcases List.mem_or_eq_of_mem_set ht with ht|rfl
      . exact .inl (Zb.2 (.inr ⟨t,ht,hk⟩))
      . rcases hk with hk|hk|hk
        . exact absurd rfl hk.1
        . exact absurd rfl hk.1
        . exact .inr hk
  have hr4:=toRd ((hr3.pick [1,0,2,3,4,5,6,15] (by decide)).conv rfl);refine⟨by trivial,Zfa (y:=z) ?_ (Zl2 hr4 (by rfl) k z ?_ (λj hj=>?_) [3,4,5,6,7,0,8] (by decide) ?_) λj hj=>?_⟩
  . have hq:=Zmy n m x.tel (toP n (⟨0,0,0,[],[],[]⟩:Msg));rw[show Z1o m x.tel.next=(⟨AK,133,AI,m.tok,[],[]⟩:Msg) from hans,show({ x.tel with next:=if m.kind=1 then nx_Z x.tel.next else x.tel.next,out:=x.tel.out++[toP n (⟨0,0,0,[],[],[]⟩:Msg)] }:Tel)=T1 by rw[hT1',hN];rfl,<- hy,<- ha']at hq;rw[hq,hz,hol];simp only[TelX.tel,List.map_set]
  . rw[hz];refine Z11 (λt ht=>.inl ht) (λt ht=>?_) hA;rcases List.mem_or_eq_of_mem_set ht with ht|rfl
    . exact .inl ht
    . exact .inr ⟨hsn.1,hsn.2.1,hO⟩
  . rcases hfz j hj with h|h
    . exact(qE 1 rfl rfl h)
    . exact(qE 0 rfl rfl h)
  . rw[hz,hid];refine Zg rfl (Zg rfl (Zg rfl (Zg rfl (Zg (Z2r rfl ?_) rfl))));simp only[Tree.goal,X.P,X.ev,SV.ev,CV.ev,Sc.ev,qz,QA,QB,QC,QD,QE,QF,QG,QH,QI,QJ,QK,QL,QM,Nat.reduceAdd,qy3,qy4,hrow,Z12,List.getD_cons_zero,List.getD_cons_succ,Value.gI,Value.gB,Value.gS,Z1a,List.map_set]
  . rw[hz]at hj;rcases hj with hj|hj|hj|hj|hj
    . exact(hgr j (.inl hj)).imp id .inl
    . exact(hgr j (.inr (.inl hj))).imp id .inl
    . exact(hgr j (.inr (.inr (.inl hj)))).imp id .inl
    . exact(hgr j (.inr (.inr (.inr (.inl hj))))).imp id .inl
    . rw[<- hz]at hj;rcases hfz j hj with h|h
      . exact(hgr j (.inr (.inr (.inr (.inr h))))).imp id .inl
      . exact(hu j h.2).imp id λh=>.inl (.inr h)
