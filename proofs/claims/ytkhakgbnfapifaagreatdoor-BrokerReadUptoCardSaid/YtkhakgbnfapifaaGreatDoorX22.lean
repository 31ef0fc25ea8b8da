/-
  Texts of mine, one behind the other. By an AI agent.
-/
import Derived.Test.YtkhakgbnfapifaaGreatDoorX20
import Derived.Test.YtkhakgbnfapifaaGreatDoorX21
import Derived.Test.YtkhakgbnfapifaaGreatDoorX12
import Derived.Test.YtkhakgbnfapifaaGreatDoorX01
import Derived.WalkKit
import Derived.ProofKit
import Derived.OpenShut
import Derived.JoinedCond
import Derived.ChangeStays
import Derived.Test.YtkhakgbnfapifaaGreatDoorX05
import Derived.Test.YtkhakgbnfapifaaGreatDoorX11
import Derived.Test.YtkhakgbnfapifaaGreatDoorX09
import Derived.Test.YtkhakgbnfapifaaGreatDoorX10
set_option linter.unusedSimpArgs false
set_option linter.unusedVariables false
set_option maxHeartbeats 20000000
namespace Go.Proofs.YtkhakgbnfapifaaGreatDoor
open Go Go.Sx
theorem Zaa {l:List SntX} {s:Snt} {r:List Snt} (h:l.map (·.1)=s::r):0<l.length/\(l.getD 0 sntD).1=s:=by
 cases l with
 | nil=>cases h
 | cons a l=>exact⟨Nat.succ_pos _,(List.cons.inj h).1⟩
end Go.Proofs.YtkhakgbnfapifaaGreatDoor
namespace Go.Proofs.YtkhakgbnfapifaaGreatDoor
open Go.Sx
theorem Zg1 (w:World) (m:Msg) (v:Value) (t:List UInt8) (hv:Z22 w v m.opts) (hb:bdM m) (ht:t.length<4294967281) : Calls Tryz.prog 29 #[mV m (sc1 v),.string ⟨t.toArray⟩] w fun e w'=>Zml w w' e (Z1d m t):=by
 refine Z1 (Z3 (ρ:=[.i m.kind,.i m.code,.i m.id,.s m.tok,.v v,.r (m.opts.map encO),.s m.pay,.s t]) (sxE_ok.joins _) Tryz.func29 Z7v rfl rfl (Rel.start2 (by simp[Ent.holds,Ent.wr,hv,X.ev])) rfl rfl ?_) rfl;simp only[Tree.goal,X.P,X.ev,SV.ev,CV.ev,Sc.ev,qz,QA,QB,QC,QD,QE,QF,QG,QH,QI,QJ,QK,QL,QM,Nat.reduceAdd,qy3,qy4,Z1e,Z1f,Ze];intro b1 b2;refine⟨[.i (chk m)],rfl,fun _ w' hr=>Z6a w' m v ((by first|exact hr.at_ 0 rfl|exact hr.at_ 1 rfl|exact hr.at_ 2 rfl|exact hr.at_ 3 rfl|exact hr.at_ 4 rfl|exact hr.at_ 5 rfl|exact hr.at_ 6 rfl|exact hr.at_ 7 rfl|exact hr.at_ 8 rfl|exact hr.at_ 9 rfl|exact hr.at_ 10 rfl|exact hr.at_ 11 rfl)) hb,?_⟩;simp only[Tree.goal,X.P,X.ev,SV.ev,CV.ev,Sc.ev,qz,QA,QB,QC,QD,QE,QF,QG,QH,QI,QJ,QK,QL,QM,Nat.reduceAdd];refine⟨fun vs=>∃y:Int,vs=[.i y]/\y=(if chk m=0 then chkT t false else chk m),⟨fun h=>?_,fun h=>⟨_,rfl,by rw[if_neg h]⟩⟩,?_⟩
 ·refine⟨[.i (chkT t false)],rfl,fun _ w' _=>Zf6 w' t ht,?_⟩;simp only[Tree.goal,X.P,X.ev,SV.ev,CV.ev,Sc.ev,qz,QA,QB,QC,QD,QE,QF,QG,QH,QI,QJ,QK,QL,QM,Nat.reduceAdd];exact⟨_,rfl,by rw[if_pos h]⟩
 rintro _ - ⟨y,rfl,hy⟩;simp only[Tree.goal,X.P,X.ev,SV.ev,CV.ev,Sc.ev,qz,QA,QB,QC,QD,QE,QF,QG,QH,QI,QJ,QK,QL,QM,Nat.reduceAdd];refine⟨fun h w' hr=>?_,fun h=>?_⟩
 ·have e:Z1d m t=(mNil,y):=by
   rw[Z1d];by_cases h1:chk m=0
   ·rw[if_pos h1]at hy ⊢;rw[if_neg (by rw[<- hy];exact h),hy]
   ·rw[if_neg h1]at hy ⊢;rw[hy]
  rw[e];exact Z45 hr.mod
 have h:=qy9.1 h;rw[h]at hy;have h1:chk m=0:=Classical.byContradiction fun h1=>by rw[if_neg h1]at hy;exact h1 hy.symm
 rw[if_pos h1]at hy;have e:Z1d m t=outR (Zdx m 11 (lev t)):=by rw[Z1d,if_pos h1,if_pos hy.symm]
 rw[e];have hm12:=(Zbf.1 h1).2.2.1.2.1;have hl6:=(Z73.1 hy.symm).2.1.2;refine⟨?_,?_⟩<;>(intro w0 hr0;have hsz0:=hr0.mod.size;refine(Z9i w0 t ht).mono ?_;rintro e w1 ⟨u,rfl,r1,f1,m1⟩;refine⟨[.v u,.r ((lev t).map Z17)],rfl,rfl,m1,qy5 _,qy2.2 ⟨⟨r1,fun k hk=>.inl (f1 k hk)⟩,qy5 _⟩,Z4,?_⟩;clear hr0 r1 f1 m1;simp only[Tree.goal,X.P,X.ev,SV.ev,CV.ev,Sc.ev,qz,QA,QB,QC,QD,QE,QF,QG,QH,QI,QJ,QK,QL,QM,Nat.reduceAdd];intro w1 hr;have hsz1:=hr.mod.size;refine(Z76 w1 m v u 11 (lev t) ((by first|exact hr.at_ 0 rfl|exact hr.at_ 1 rfl|exact hr.at_ 2 rfl|exact hr.at_ 3 rfl|exact hr.at_ 4 rfl|exact hr.at_ 5 rfl|exact hr.at_ 6 rfl|exact hr.at_ 7 rfl|exact hr.at_ 8 rfl|exact hr.at_ 9 rfl|exact hr.at_ 10 rfl|exact hr.at_ 11 rfl)) ((by first|exact hr.at_ 0 rfl|exact hr.at_ 1 rfl|exact hr.at_ 2 rfl|exact hr.at_ 3 rfl|exact hr.at_ 4 rfl|exact hr.at_ 5 rfl|exact hr.at_ 6 rfl|exact hr.at_ 7 rfl|exact hr.at_ 8 rfl|exact hr.at_ 9 rfl|exact hr.at_ 10 rfl|exact hr.at_ 11 rfl)) (by omega) (by omega)).mono ?_;rintro e w2 ⟨v',rfl,r1,f1,m1⟩;replace f1:Zbh w1.heap.size v' (Z4f m.opts 11 (lev t)):=fun k hk=>f1 k hk.2;refine⟨[.i m.kind,.i m.code,.i m.id,.s m.tok,.v v',.r ((Z4f m.opts 11 (lev t)).map encO),.s m.pay],rfl,rfl,m1,qy5 _,qy2.2 ⟨⟨r1,fun k hk=>.inl (f1 k hk)⟩,qy5 _⟩,Z4,?_⟩;clear hr r1 m1;simp only[Tree.goal,X.P,X.ev,SV.ev,CV.ev,Sc.ev,qz,QA,QB,QC,QD,QE,QF,QG,QH,QI,QJ,QK,QL,QM,Nat.reduceAdd];intro b5 b6;refine⟨[.i (chk (Zdx m 11 (lev t)))],rfl,fun _ w' hr=>Z6a w' (Zdx m 11 (lev t)) v' ((by first|exact hr.at_ 0 rfl|exact hr.at_ 1 rfl|exact hr.at_ 2 rfl|exact hr.at_ 3 rfl|exact hr.at_ 4 rfl|exact hr.at_ 5 rfl|exact hr.at_ 6 rfl|exact hr.at_ 7 rfl|exact hr.at_ 8 rfl|exact hr.at_ 9 rfl|exact hr.at_ 10 rfl|exact hr.at_ 11 rfl)) (Zmm hb (by omega) hm12),?_⟩;simp only[Tree.goal,X.P,X.ev,SV.ev,CV.ev,Sc.ev,qz,QA,QB,QC,QD,QE,QF,QG,QH,QI,QJ,QK,QL,QM,Nat.reduceAdd];refine⟨fun h3 w' hr=>?_,fun h3 w' hr=>?_⟩;(· rw[outR,if_neg h3];exact Z45 hr.mod);(· rw[outR,if_pos (qy9.1 h3)];exact⟨v',rfl,((by first|exact hr.at_ 0 rfl|exact hr.at_ 1 rfl|exact hr.at_ 2 rfl|exact hr.at_ 3 rfl|exact hr.at_ 4 rfl|exact hr.at_ 5 rfl|exact hr.at_ 6 rfl|exact hr.at_ 7 rfl|exact hr.at_ 8 rfl|exact hr.at_ 9 rfl|exact hr.at_ 10 rfl|exact hr.at_ 11 rfl)),f1.mono hsz1,hr.mod⟩))
abbrev mEV (r:Msg×Int) (v:Value):List V:=[.i r.1.kind,.i r.1.code,.i r.1.id,.s r.1.tok,.v v,.r (r.1.opts.map encO),.s r.1.pay,.i r.2]
abbrev mVs (m:Msg) (v:Value):List V:=[.i m.kind,.i m.code,.i m.id,.s m.tok,.v v,.r (m.opts.map encO),.s m.pay]
theorem Zl1 (w:World) (m:Msg) (v:Value) (b:Bk) (hv:Z22 w v m.opts) (hb:bdM m) : Calls Tryz.prog 108 #[mV m (sc1 v),bV b] w fun e w'=>Zml w w' e (Zs m b):=by
 refine Z1 (Z3 (ρ:=[.i m.kind,.i m.code,.i m.id,.s m.tok,.v v,.r (m.opts.map encO),.s m.pay,.i b.1,.b b.2.1,.i b.2.2]) (sxE_ok.joins _) Tryz.func108 Z6w rfl rfl (Rel.start2 (by simp[Ent.holds,Ent.wr,hv,X.ev])) rfl rfl ?_) rfl;simp only[Tree.goal,X.P,X.ev,SV.ev,CV.ev,Sc.ev,qz,QA,QB,QC,QD,QE,QF,QG,QH,QI,QJ,QK,QL,QM,Nat.reduceAdd,qy3,qy4,Z1e,Z1f,Ze];intro b1 b2 b3;refine⟨[.i (chk m)],rfl,fun _ w' hr=>Z6a w' m v ((by first|exact hr.at_ 0 rfl|exact hr.at_ 1 rfl|exact hr.at_ 2 rfl|exact hr.at_ 3 rfl|exact hr.at_ 4 rfl|exact hr.at_ 5 rfl|exact hr.at_ 6 rfl|exact hr.at_ 7 rfl|exact hr.at_ 8 rfl|exact hr.at_ 9 rfl|exact hr.at_ 10 rfl|exact hr.at_ 11 rfl)) hb,?_⟩;simp only[Tree.goal,X.P,X.ev,SV.ev,CV.ev,Sc.ev,qz,QA,QB,QC,QD,QE,QF,QG,QH,QI,QJ,QK,QL,QM,Nat.reduceAdd];refine⟨fun h=>?_,fun h w' hr=>?_⟩
 ·refine⟨[.i (blkE b)],rfl,fun _ w' hr=>Zsy w' b,?_⟩;simp only[Tree.goal,X.P,X.ev,SV.ev,CV.ev,Sc.ev,qz,QA,QB,QC,QD,QE,QF,QG,QH,QI,QJ,QK,QL,QM,Nat.reduceAdd];refine⟨fun h1 w' hr=>?_,fun h1=>?_⟩
  ·rw[Zs,if_pos h,if_neg h1];exact Z45 hr.mod
  have h1:=qy9.1 h1;have hbits:=Z10k b h1;refine⟨fun vs=>vs=[.i (blkN b)],⟨fun h2=>?_,fun h2=>?_⟩,?_⟩
  ·rw[if_pos h2]at hbits;rw[<- hbits]
  ·rw[if_neg h2]at hbits;rw[<- hbits]
  rintro _ - rfl;simp only[Tree.goal,X.P,X.ev,SV.ev,CV.ev,Sc.ev,qz,QA,QB,QC,QD,QE,QF,QG,QH,QI,QJ,QK,QL,QM,Nat.reduceAdd];intro w1 hr;have hsz1:=hr.mod.size;refine(Zfo w1 m v 23 (blkN b) ((by first|exact hr.at_ 0 rfl|exact hr.at_ 1 rfl|exact hr.at_ 2 rfl|exact hr.at_ 3 rfl|exact hr.at_ 4 rfl|exact hr.at_ 5 rfl|exact hr.at_ 6 rfl|exact hr.at_ 7 rfl|exact hr.at_ 8 rfl|exact hr.at_ 9 rfl|exact hr.at_ 10 rfl|exact hr.at_ 11 rfl)) hb).mono ?_;rintro e w2 ⟨v',rfl,r1,f1,m1⟩;refine⟨mEV (Zz m 23 (blkN b)) v',rfl,rfl,m1,qy5 _,qy2.2 ⟨⟨r1,fun k hk=>.inl (f1 k hk)⟩,qy5 _⟩,Z4,?_⟩;clear hr r1 m1;simp only[Tree.goal,X.P,X.ev,SV.ev,CV.ev,Sc.ev,qz,QA,QB,QC,QD,QE,QF,QG,QH,QI,QJ,QK,QL,QM,Nat.reduceAdd,mEV];intro w3 hr;rw[Zs,if_pos h,if_pos h1];exact⟨v',rfl,hr.at_ 0 rfl,f1.mono hsz1,hr.mod⟩
 ·rw[Zs,if_neg h];exact Z45 hr.mod
theorem Zjj:bdM mGet:=⟨by decide,by decide,by decide⟩
theorem og1:Zkm mGet=([97,47,98],0):=by decide +kernel
theorem og2:(Z1d mGet [120,47,121,47,122]).2=0/\(Z1d mGet [120,47,121,47,122]).1.opts.length=4:=by decide +kernel
theorem og3:Z3t mGet 6=(0,0):=by decide +kernel
theorem og4:(Zz mGet 6 300).2=0:=by decide +kernel
theorem og5:Z3t (Zz mGet 6 300).1 6=(300,0):=by decide +kernel
theorem og6:(Zs mGet (3,true,2)).2=0:=by decide +kernel
theorem og7:Z84 (Zs mGet (3,true,2)).1=((3,true,2),0):=by decide +kernel
theorem og8:(Zz mGet 6 300).1.opts.length<1000000000/\(Zz mGet 6 300).1.tok.length<1099511627776/\(Zz mGet 6 300).1.pay.length<1099511627776:=by decide +kernel
theorem og9:(Zs mGet (3,true,2)).1.opts.length<1000000000/\(Zs mGet (3,true,2)).1.tok.length<1099511627776/\(Zs mGet (3,true,2)).1.pay.length<1099511627776:=by decide +kernel
set_option maxRecDepth 10000 in
theorem Zhk (w:World):Calls Tryz.prog 28 #[] w fun e w'=>e=.returned (.bool true)/\Mod [] w w':=by refine Z1 (Z7 (ρ:=[]) sxE_ok Tryz.func28 Z3p rfl rfl rfl ?_) rfl;simp only[Tree.goal,X.P,X.ev,SV.ev,CV.ev,Sc.ev,qz,QA,QB,QC,QD,QE,QF,QG,QH,QI,QJ,QK,QL,QM,Nat.reduceAdd];intro w1 hr;refine(Zaz w1).mono ?_;rintro e w2 ⟨v1,rfl,r1,f1,m1⟩;refine⟨mVs mGet v1,rfl,rfl,m1,qy5 _,qy2.2 ⟨⟨r1,fun k hk=>.inl (f1 k hk)⟩,qy5 _⟩,Z4,?_⟩;clear hr r1 f1 m1;simp only[Tree.goal,X.P,X.ev,SV.ev,CV.ev,Sc.ev,qz,QA,QB,QC,QD,QE,QF,QG,QH,QI,QJ,QK,QL,QM,Nat.reduceAdd,mVs];refine⟨[.s (Zkm mGet).1,.i (Zkm mGet).2],rfl,fun _ w' hr=>Z12y w' mGet v1 ((by first|exact hr.at_ 0 rfl|exact hr.at_ 1 rfl|exact hr.at_ 2 rfl|exact hr.at_ 3 rfl|exact hr.at_ 4 rfl|exact hr.at_ 5 rfl|exact hr.at_ 6 rfl|exact hr.at_ 7 rfl|exact hr.at_ 8 rfl|exact hr.at_ 9 rfl|exact hr.at_ 10 rfl|exact hr.at_ 11 rfl)) Zjj,?_⟩;simp only[Tree.goal,X.P,X.ev,SV.ev,CV.ev,Sc.ev,qz,QA,QB,QC,QD,QE,QF,QG,QH,QI,QJ,QK,QL,QM,Nat.reduceAdd];intro w1 hr;refine(Zaz w1).mono ?_;rintro e w2 ⟨v2,rfl,r1,f1,m1⟩;refine⟨mVs mGet v2,rfl,rfl,m1,qy5 _,qy2.2 ⟨⟨r1,fun k hk=>.inl (f1 k hk)⟩,qy5 _⟩,Z4,?_⟩;clear hr r1 f1 m1;simp only[Tree.goal,X.P,X.ev,SV.ev,CV.ev,Sc.ev,qz,QA,QB,QC,QD,QE,QF,QG,QH,QI,QJ,QK,QL,QM,Nat.reduceAdd,mVs];intro w1 hr;refine(Zg1 w1 mGet v2 [120,47,121,47,122] ((by first|exact hr.at_ 0 rfl|exact hr.at_ 1 rfl|exact hr.at_ 2 rfl|exact hr.at_ 3 rfl|exact hr.at_ 4 rfl|exact hr.at_ 5 rfl|exact hr.at_ 6 rfl|exact hr.at_ 7 rfl|exact hr.at_ 8 rfl|exact hr.at_ 9 rfl|exact hr.at_ 10 rfl|exact hr.at_ 11 rfl)) Zjj (by decide)).mono ?_;rintro e w2 ⟨v3,rfl,r1,f1,m1⟩;refine⟨mEV (Z1d mGet [120,47,121,47,122]) v3,rfl,rfl,m1,qy5 _,qy2.2 ⟨⟨r1,fun k hk=>.inl (f1 k hk)⟩,qy5 _⟩,Z4,?_⟩;clear hr r1 f1 m1;simp only[Tree.goal,X.P,X.ev,SV.ev,CV.ev,Sc.ev,qz,QA,QB,QC,QD,QE,QF,QG,QH,QI,QJ,QK,QL,QM,Nat.reduceAdd,mEV];intro b1 w1 hr;refine(Zaz w1).mono ?_;rintro e w2 ⟨v4,rfl,r1,f1,m1⟩;refine⟨mVs mGet v4,rfl,rfl,m1,qy5 _,qy2.2 ⟨⟨r1,fun k hk=>.inl (f1 k hk)⟩,qy5 _⟩,Z4,?_⟩;clear hr r1 f1 m1;simp only[Tree.goal,X.P,X.ev,SV.ev,CV.ev,Sc.ev,qz,QA,QB,QC,QD,QE,QF,QG,QH,QI,QJ,QK,QL,QM,Nat.reduceAdd,mVs];refine⟨[.i (Z3t mGet 6).1,.i (Z3t mGet 6).2],rfl,fun _ w' hr=>Zsx w' mGet v4 6 ((by first|exact hr.at_ 0 rfl|exact hr.at_ 1 rfl|exact hr.at_ 2 rfl|exact hr.at_ 3 rfl|exact hr.at_ 4 rfl|exact hr.at_ 5 rfl|exact hr.at_ 6 rfl|exact hr.at_ 7 rfl|exact hr.at_ 8 rfl|exact hr.at_ 9 rfl|exact hr.at_ 10 rfl|exact hr.at_ 11 rfl)) Zjj,?_⟩;simp only[Tree.goal,X.P,X.ev,SV.ev,CV.ev,Sc.ev,qz,QA,QB,QC,QD,QE,QF,QG,QH,QI,QJ,QK,QL,QM,Nat.reduceAdd];intro w1 hr;refine(Zaz w1).mono ?_;rintro e w2 ⟨v5,rfl,r1,f1,m1⟩;refine⟨mVs mGet v5,rfl,rfl,m1,qy5 _,qy2.2 ⟨⟨r1,fun k hk=>.inl (f1 k hk)⟩,qy5 _⟩,Z4,?_⟩;clear hr r1 f1 m1;simp only[Tree.goal,X.P,X.ev,SV.ev,CV.ev,Sc.ev,qz,QA,QB,QC,QD,QE,QF,QG,QH,QI,QJ,QK,QL,QM,Nat.reduceAdd,mVs];intro w1 hr;refine(Zfo w1 mGet v5 6 300 ((by first|exact hr.at_ 0 rfl|exact hr.at_ 1 rfl|exact hr.at_ 2 rfl|exact hr.at_ 3 rfl|exact hr.at_ 4 rfl|exact hr.at_ 5 rfl|exact hr.at_ 6 rfl|exact hr.at_ 7 rfl|exact hr.at_ 8 rfl|exact hr.at_ 9 rfl|exact hr.at_ 10 rfl|exact hr.at_ 11 rfl)) Zjj).mono ?_;rintro e w2 ⟨v6,rfl,r1,f1,m1⟩;refine⟨mEV (Zz mGet 6 300) v6,rfl,rfl,m1,qy5 _,qy2.2 ⟨⟨r1,fun k hk=>.inl (f1 k hk)⟩,qy5 _⟩,Z4,?_⟩;clear hr r1 f1 m1;simp only[Tree.goal,X.P,X.ev,SV.ev,CV.ev,Sc.ev,qz,QA,QB,QC,QD,QE,QF,QG,QH,QI,QJ,QK,QL,QM,Nat.reduceAdd,mEV];intro b2;refine⟨[.i (Z3t (Zz mGet 6 300).1 6).1,.i (Z3t (Zz mGet 6 300).1 6).2],rfl,fun _ w' hr=>Zsx w' (Zz mGet 6 300).1 v6 6 ((by first|exact hr.at_ 0 rfl|exact hr.at_ 1 rfl|exact hr.at_ 2 rfl|exact hr.at_ 3 rfl|exact hr.at_ 4 rfl|exact hr.at_ 5 rfl|exact hr.at_ 6 rfl|exact hr.at_ 7 rfl|exact hr.at_ 8 rfl|exact hr.at_ 9 rfl|exact hr.at_ 10 rfl|exact hr.at_ 11 rfl)) og8,?_⟩;simp only[Tree.goal,X.P,X.ev,SV.ev,CV.ev,Sc.ev,qz,QA,QB,QC,QD,QE,QF,QG,QH,QI,QJ,QK,QL,QM,Nat.reduceAdd];intro w1 hr;refine(Zaz w1).mono ?_;rintro e w2 ⟨v7,rfl,r1,f1,m1⟩;refine⟨mVs mGet v7,rfl,rfl,m1,qy5 _,qy2.2 ⟨⟨r1,fun k hk=>.inl (f1 k hk)⟩,qy5 _⟩,Z4,?_⟩;clear hr r1 f1 m1;simp only[Tree.goal,X.P,X.ev,SV.ev,CV.ev,Sc.ev,qz,QA,QB,QC,QD,QE,QF,QG,QH,QI,QJ,QK,QL,QM,Nat.reduceAdd,mVs];intro w1 hr;refine(Zl1 w1 mGet v7 (3,true,2) ((by first|exact hr.at_ 0 rfl|exact hr.at_ 1 rfl|exact hr.at_ 2 rfl|exact hr.at_ 3 rfl|exact hr.at_ 4 rfl|exact hr.at_ 5 rfl|exact hr.at_ 6 rfl|exact hr.at_ 7 rfl|exact hr.at_ 8 rfl|exact hr.at_ 9 rfl|exact hr.at_ 10 rfl|exact hr.at_ 11 rfl)) Zjj).mono ?_;rintro e w2 ⟨v8,rfl,r1,f1,m1⟩;refine⟨mEV (Zs mGet (3,true,2)) v8,rfl,rfl,m1,qy5 _,qy2.2 ⟨⟨r1,fun k hk=>.inl (f1 k hk)⟩,qy5 _⟩,Z4,?_⟩;clear hr r1 f1 m1;simp only[Tree.goal,X.P,X.ev,SV.ev,CV.ev,Sc.ev,qz,QA,QB,QC,QD,QE,QF,QG,QH,QI,QJ,QK,QL,QM,Nat.reduceAdd,mEV];intro b3;refine⟨[.i (Z84 (Zs mGet (3,true,2)).1).1.1,.b (Z84 (Zs mGet (3,true,2)).1).1.2.1,.i (Z84 (Zs mGet (3,true,2)).1).1.2.2,.i (Z84 (Zs mGet (3,true,2)).1).2],rfl,fun _ w' hr=>Z10l w' (Zs mGet (3,true,2)).1 v8 ((by first|exact hr.at_ 0 rfl|exact hr.at_ 1 rfl|exact hr.at_ 2 rfl|exact hr.at_ 3 rfl|exact hr.at_ 4 rfl|exact hr.at_ 5 rfl|exact hr.at_ 6 rfl|exact hr.at_ 7 rfl|exact hr.at_ 8 rfl|exact hr.at_ 9 rfl|exact hr.at_ 10 rfl|exact hr.at_ 11 rfl)) og9,?_⟩;simp only[Tree.goal,X.P,X.ev,SV.ev,CV.ev,Sc.ev,qz,QA,QB,QC,QD,QE,QF,QG,QH,QI,QJ,QK,QL,QM,Nat.reduceAdd];intro b4 w' hr;refine⟨?_,hr.mod⟩;rw[og1,og2.1,qy3,og2.2,og3,og4,og5,og6,og7];rfl
end Go.Proofs.YtkhakgbnfapifaaGreatDoor
namespace Go.Proofs.YtkhakgbnfapifaaGreatDoor
open Go Go.Sx
theorem Zhl {m:Msg} {t:List UInt8} (h:(Z1d m t).2=0):chk m=0/\chkT t false=0/\chk (Zdx m 11 (lev t))=0/\Z1d m t=(Zdx m 11 (lev t),0):=by
  unfold Z1d at h ⊢;split at h
  . rename_i h0;rw[if_pos h0];split at h
    . rename_i h1;rw[if_pos h1];exact⟨h0,h1,(Zsj h).1,(Zsj h).2⟩
    . rename_i h1;exact absurd h h1
  . rename_i h0;exact absurd h h0
theorem Zyn {tok name pay:List UInt8} (h:chk (rdM 3 tok name pay)=0) {c:Int} (h1:1<=c) (h2:c<=255):chk (rdM c tok name [])=0:=by obtain⟨a1,a2,a3,a4,a5⟩:=Zbf.1 h;exact Zbf.2 ⟨a1,⟨(by omega:(0:Int)<=c),h2,a2.2.2⟩,⟨a3.1,a3.2.1,Nat.zero_le _⟩,a4,fun h3=>absurd (show c=0 from h3) (by omega)⟩
theorem Zjk (w:World) (x:TelX) (n:Int) (nm pay tok:List UInt8) (hx:RdX w x) (ho:x.ox=[]) (hs:SmlT x.tel) (hnn:nm.length<1000000000) (hpn:pay.length<1000000000) (htn:tok.length<1000000000) : Calls Tryz.prog 7 #[bkV x,.int .i64 n,.string ⟨nm.toArray⟩,.string ⟨pay.toArray⟩,.string ⟨tok.toArray⟩] w fun e w'=>e=.returned (.bool true)/\Mod [] w w':=by
  refine Z1 (Z3 (ρ:=bkA x++[V.i n,V.s nm,V.s pay,V.s tok]) sxE_ok Tryz.func7 Z4m rfl rfl
    (Rel.start2 (qy2.2 ⟨⟨hx.kept,rfl⟩,qy2.2 ⟨⟨hx.want,rfl⟩,qy2.2 ⟨⟨hx.sess,rfl⟩,qy2.2 ⟨⟨hx.nest,rfl⟩,qy2.2 ⟨⟨hx.wat,rfl⟩,qy5 _⟩⟩⟩⟩⟩)) rfl rfl ?_) rfl
  simp only[Tree.goal,X.P,X.ev,SV.ev,CV.ev,Sc.ev,qz,QA,QB,QC,QD,QE,QF,QG,QH,QI,QJ,QK,QL,QM,Nat.reduceAdd,qy3,qy4];have hxo:x.tel.out=[]:=by simp[TelX.tel,ho]
  intro b14;refine⟨[.b true],rfl,fun _ w' _=>Zhj w',?_⟩;simp only[Tree.goal,X.P,X.ev,SV.ev,CV.ev,Sc.ev,qz,QA,QB,QC,QD,QE,QF,QG,QH,QI,QJ,QK,QL,QM,Nat.reduceAdd,qy3,qy4];refine⟨[.b true],rfl,fun _ w' _=>Zhk w',?_⟩;simp only[Tree.goal,X.P,X.ev,SV.ev,CV.ev,Sc.ev,qz,QA,QB,QC,QD,QE,QF,QG,QH,QI,QJ,QK,QL,QM,Nat.reduceAdd,qy3,qy4];refine⟨fun h=>absurd h (by simp),fun _=>?_⟩;intro w1 hr1;have hb0:bdM (⟨0,3,7,tok,[],pay⟩:Msg):=⟨(by decide:(0:Nat)<1000000000),by show tok.length<_;omega,by show pay.length<_;omega⟩
  refine(Zg1 w1 ⟨0,3,7,tok,[],pay⟩ (.slice none 0 0) nm (Zbg _) hb0 (by omega)).mono ?_;rintro e w2 ⟨v1,rfl,r1,f1,m1⟩;refine⟨mEV (Z1d ⟨0,3,7,tok,[],pay⟩ nm) v1,rfl,rfl,m1,qy5 _,qy2.2 ⟨⟨r1,fun k hk=>.inl (f1 k hk)⟩,qy5 _⟩,Z4,?_⟩;clear hr1 f1 m1;simp only[Tree.goal,X.P,X.ev,SV.ev,CV.ev,Sc.ev,qz,QA,QB,QC,QD,QE,QF,QG,QH,QI,QJ,QK,QL,QM,Nat.reduceAdd,mEV,qy3,qy4];intro b25;refine⟨[.i (chkB x.tel)],rfl,fun _ w' hr=>Zep w' x ⟨hr.at_ 3 rfl,hr.at_ 4 rfl,hr.at_ 5 rfl,hr.at_ 6 rfl,hr.at_ 7 rfl⟩ ho hs.b,?_⟩;simp only[Tree.goal,X.P,X.ev,SV.ev,CV.ev,Sc.ev,qz,QA,QB,QC,QD,QE,QF,QG,QH,QI,QJ,QK,QL,QM,Nat.reduceAdd,qy3,qy4];refine⟨fun h w' hr=>⟨trivial,hr.mod⟩,fun h=>?_⟩;have hW:(Z1d ⟨0,3,7,tok,[],pay⟩ nm).2=0:=Classical.byContradiction fun h1=>h (.inl (.inl (.inl h1)));have hB:BOk x.tel:=Z3w.1 (Classical.byContradiction fun h1=>h (.inl (.inl (.inr h1))));have hn:0<=n/\n<=9:=⟨Classical.byContradiction fun h1=>h (.inl (.inr (by omega))),Classical.byContradiction fun h1=>h (.inr (by omega))⟩
  clear h;obtain⟨-,hT,hC,hE⟩:=Zhl hW;have hC:chk (rdM 3 tok nm pay)=0:=hC;have hE:Z1d ⟨0,3,7,tok,[],pay⟩ nm=(rdM 3 tok nm pay,0):=hE;rw[hE]at r1 ⊢;simp only[];have hM:msgE n (rdM 3 tok nm pay) x.tel=0:=by rw[msgE,if_neg (qy9.2 (Z3w.2 hB)),if_neg (qy9.2 hn),hC]
  obtain⟨-,-,⟨bC1,bC2,bC3⟩,-⟩:=Zbf.1 hC;have bC1:tok.length<=8:=bC1;have bC2:(Z4f [] 11 (lev nm)).length<=12:=bC2;have bC3:pay.length<=200:=bC3;intro w3 hr3;have hq:=Z5u w3 x n (rdM 3 tok nm pay) v1 (Zji ⟨hr3.at_ 3 rfl,hr3.at_ 4 rfl,hr3.at_ 5 rfl,hr3.at_ 6 rfl,hr3.at_ 7 rfl⟩ (hr3.at_ 1 rfl)) ho hs.b hs.f (by show (Z4f [] 11 (lev nm)).length<_;omega) (by show tok.length<_;omega) (by show pay.length<_;omega);rw[hM]at hq;have hq:Calls _ _ _ _ _:=hq;refine(Zg0 hr3 27 hq rfl).mono ?_;rintro r w4 ⟨y1,t1,-,rfl,m1,m3,m4⟩;refine⟨brV y1 0,rfl,rfl,m1,qy5 _,m3,m4,?_⟩;clear m1 m3 m4 hr3 hq;have t1:y1.tel=Zl n (rdM 3 tok nm pay) x.tel:=by rw[t1,resB,if_pos rfl]
  simp only[Tree.goal,X.P,X.ev,SV.ev,CV.ev,Sc.ev,qz,QA,QB,QC,QD,QE,QF,QG,QH,QI,QJ,QK,QL,QM,Nat.reduceAdd,brV,qy3,qy4];intro b40;by_cases hk:¬pay=[]/\(Z1i nm pay { x.tel with out:=[toP n (Z11 133 tok [])] }).2=true
  . obtain⟨hr0,hkep,r,hout⟩:=Z13v hB hxo hT (by unfold flE;rw[if_pos hT,if_neg (show ¬200<((pay.length:Nat):Int) by omega)]) hk;have ho1:y1.ox.map (·.1)=toP n (Z11 68 tok [])::r:=(congrArg Tel.out t1).trans hout;obtain⟨hl1,hf1⟩:=Zaa ho1;have row1:=Zhd (l:=y1.ox) (i:=0) hl1;have q15:Value.gI (((y1.ox.map Z1q).getD (Int.toNat 0) []).getD 15 undef)=n:=by
      rw[Int.toNat_zero,row1];show (y1.ox.getD 0 sntD).1.peer=n;rw[hf1]
    have q16:Value.gI (((y1.ox.map Z1q).getD (Int.toNat 0) []).getD 16 undef)=2:=by rw[Int.toNat_zero,row1];show (y1.ox.getD 0 sntD).1.msg.kind=2;rw[hf1]
    have q17:Value.gI (((y1.ox.map Z1q).getD (Int.toNat 0) []).getD 17 undef)=68:=by rw[Int.toNat_zero,row1];show (y1.ox.getD 0 sntD).1.msg.code=68;rw[hf1]
    have q18:Value.gI (((y1.ox.map Z1q).getD (Int.toNat 0) []).getD 18 undef)=7:=by rw[Int.toNat_zero,row1];show (y1.ox.getD 0 sntD).1.msg.id=7;rw[hf1]
    have q19:Value.gS (((y1.ox.map Z1q).getD (Int.toNat 0) []).getD 19 undef)=tok:=by rw[Int.toNat_zero,row1];show (y1.ox.getD 0 sntD).1.msg.tok=tok;rw[hf1]
    refine⟨.inr (by omega),.inr (by omega),.inr (by omega),.inr (by omega),fun h=>?_,fun _=>⟨by omega,fun h=>absurd q17 h,fun _=>?_⟩⟩
    . exfalso;rcases h with ((((h|h)|h)|h)|h)|h
      . exact h trivial
      . omega
      . exact h q15
      . exact h q19
      . exact h q16
      . exact h q18
    have hBm:BOk (Zl n (rdM 3 tok nm pay) x.tel):=(Zea hB hn hC).1;have hB1:BOk y1.bare.tel:=by rw[Z33,t1];exact⟨hBm.kept,hBm.wants,hBm.ns,hBm.ses,hBm.sort,hBm.wat,hBm.has,hBm.kpt,hBm.next⟩
    have hk1:y1.bare.tel.kept=(rawK x.tel.kept nm pay).1:=by rw[Z33,t1];exact hkep
    obtain⟨hv1,hv2⟩:=Z13y (pay:=pay) hB hT hr0 hk.1;have hC1:chk (rdM 1 tok nm [])=0:=Zyn hC (by decide) (by decide);have hC4:chk (rdM 4 tok nm [])=0:=Zyn hC (by decide) (by decide);have hM1:msgE n (rdM 1 tok nm []) y1.bare.tel=0:=by rw[msgE,if_neg (qy9.2 (Z3w.2 hB1)),if_neg (qy9.2 hn),hC1]
    have hM4:msgE n (rdM 4 tok nm []) y1.bare.tel=0:=by rw[msgE,if_neg (qy9.2 (Z3w.2 hB1)),if_neg (qy9.2 hn),hC4]
    have hG:Zl n (rdM 1 tok nm []) y1.bare.tel={ y1.bare.tel with out:=[toP n (Z11 69 tok pay)] }:=by have e:=Z13w (n:=n) (tok:=tok) (t:=y1.bare.tel) rfl hT (by rw[hk1];exact hv1);rw[show (y1.bare.tel.kept.getD (idx y1.bare.tel.kept nm) kD).2.1=pay by rw[hk1];exact hv2]at e;exact e
    obtain⟨hD1,r4,hD2⟩:=Z13x (n:=n) (tok:=tok) hB1 rfl hT;have hBd:=(Zea hB1 hn hC4).1;refine⟨?_,?_⟩;all_goals
      intro b41 b42 w5 hr5;have hq:=Z5u w5 y1.bare n (rdM 1 tok nm []) v1 (Zji ⟨hr5.at_ 3 rfl,hr5.at_ 4 rfl,hr5.at_ 5 rfl,Z7c (y:=y1) (hr5.at_ 8 rfl),hr5.at_ 6 rfl⟩ (hr5.at_ 10 rfl)) rfl (SmlT.of hB1).b (SmlT.of hB1).f (by show (Z4f [] 11 (lev nm)).length<_;omega) (by show tok.length<_;omega) (show (0:Nat)<1099511627776 by decide);rw[hM1,Zp8,hG]at hq;refine(Zg0 hr5 43 hq rfl).mono ?_;rintro r w6 ⟨y2,t2,-,rfl,m1,m3,m4⟩;refine⟨brV y2 0,rfl,rfl,m1,qy5 _,m3,m4,?_⟩;clear m1 m3 m4 hr5 hq;simp only[Tree.goal,X.P,X.ev,SV.ev,CV.ev,Sc.ev,qz,QA,QB,QC,QD,QE,QF,QG,QH,QI,QJ,QK,QL,QM,Nat.reduceAdd,brV,qy3,qy4];have ho2:y2.ox.map (·.1)=[toP n (Z11 69 tok pay)]:=congrArg Tel.out t2;have hl2:y2.ox.length=1:=by have:=congrArg List.length ho2;simpa using this
      obtain⟨-,hf2⟩:=Zaa ho2;have row2:=Zhd (l:=y2.ox) (i:=0) (by omega);have p17:Value.gI (((y2.ox.map Z1q).getD (Int.toNat 0) []).getD 17 undef)=69:=by rw[Int.toNat_zero,row2];show (y2.ox.getD 0 sntD).1.msg.code=69;rw[hf2]
      have p21:Value.gS (((y2.ox.map Z1q).getD (Int.toNat 0) []).getD 21 undef)=pay:=by rw[Int.toNat_zero,row2];show (y2.ox.getD 0 sntD).1.msg.pay=pay;rw[hf2]
      refine⟨.inr (by omega),.inr (by omega),fun h=>?_,fun _=>?_⟩
      . exfalso;rcases h with ((h|h)|h)|h
        . exact h trivial
        . omega
        . exact h p17
        . exact h p21
      intro w7 hr7;have hq:=Z5u w7 y1.bare n (rdM 4 tok nm []) v1 (Zji ⟨hr7.at_ 9 rfl,hr7.at_ 10 rfl,hr7.at_ 11 rfl,Z7c (y:=y1) (hr7.at_ 14 rfl),hr7.at_ 12 rfl⟩ (hr7.at_ 16 rfl)) rfl (SmlT.of hB1).b (SmlT.of hB1).f (by show (Z4f [] 11 (lev nm)).length<_;omega) (by show tok.length<_;omega) (show (0:Nat)<1099511627776 by decide);rw[hM4,Zp8]at hq;refine(Zg0 hr7 56 hq rfl).mono ?_;rintro r w8 ⟨y3,t3,-,rfl,m1,m3,m4⟩;refine⟨brV y3 0,rfl,rfl,m1,qy5 _,m3,m4,?_⟩;clear m1 m3 m4 hr7 hq;simp only[Tree.goal,X.P,X.ev,SV.ev,CV.ev,Sc.ev,qz,QA,QB,QC,QD,QE,QF,QG,QH,QI,QJ,QK,QL,QM,Nat.reduceAdd,brV,qy3,qy4];intro b69;have ho3:y3.ox.map (·.1)=toP n (Z11 66 tok [])::r4:=(congrArg Tel.out t3).trans hD2;obtain⟨hl3,hf3⟩:=Zaa ho3;have row3:=Zhd (l:=y3.ox) (i:=0) hl3;have d17:Value.gI (((y3.ox.map Z1q).getD (Int.toNat 0) []).getD 17 undef)=66:=by rw[Int.toNat_zero,row3];show (y3.ox.getD 0 sntD).1.msg.code=66;rw[hf3]
      refine⟨.inr (by omega),fun h=>?_,fun _=>?_⟩
      . exfalso;rcases h with (h|h)|h
        . exact h trivial
        . omega
        . exact h d17
      have hB3:BOk y3.bare.tel:=by rw[Z33,t3];exact⟨hBd.kept,hBd.wants,hBd.ns,hBd.ses,hBd.sort,hBd.wat,hBd.has,hBd.kpt,hBd.next⟩
      have hM3:msgE n (rdM 1 tok nm []) y3.bare.tel=0:=by rw[msgE,if_neg (qy9.2 (Z3w.2 hB3)),if_neg (qy9.2 hn),hC1]
      have hG3:Zl n (rdM 1 tok nm []) y3.bare.tel={ y3.bare.tel with out:=[toP n (Z11 132 tok [])] } :=
        Z11l rfl hT (by rw[Z33,t3];exact hD1)
      intro w9 hr9;have hq:=Z5u w9 y3.bare n (rdM 1 tok nm []) v1 (Zji ⟨hr9.at_ 1 rfl,hr9.at_ 2 rfl,hr9.at_ 3 rfl,Z7c (y:=y3) (hr9.at_ 6 rfl),hr9.at_ 4 rfl⟩ (hr9.at_ 23 rfl)) rfl (SmlT.of hB3).b (SmlT.of hB3).f (by show (Z4f [] 11 (lev nm)).length<_;omega) (by show tok.length<_;omega) (show (0:Nat)<1099511627776 by decide);rw[hM3,Zp8,hG3]at hq;refine(Zg0 hr9 70 hq rfl).mono ?_;rintro r w10 ⟨y4,t4,-,rfl,m1,m3,m4⟩;refine⟨brV y4 0,rfl,rfl,m1,qy5 _,m3,m4,?_⟩;clear m1 m3 m4 hr9 hq;simp only[Tree.goal,X.P,X.ev,SV.ev,CV.ev,Sc.ev,qz,QA,QB,QC,QD,QE,QF,QG,QH,QI,QJ,QK,QL,QM,Nat.reduceAdd,brV,qy3,qy4];have ho4:y4.ox.map (·.1)=[toP n (Z11 132 tok [])]:=congrArg Tel.out t4;have hl4:y4.ox.length=1:=by have:=congrArg List.length ho4;simpa using this
      obtain⟨-,hf4⟩:=Zaa ho4;have row4:=Zhd (l:=y4.ox) (i:=0) (by omega);have g17:Value.gI (((y4.ox.map Z1q).getD (Int.toNat 0) []).getD 17 undef)=132:=by rw[Int.toNat_zero,row4];show (y4.ox.getD 0 sntD).1.msg.code=132;rw[hf4]
      refine⟨.inr (by omega),fun w' hr=>⟨?_,hr.mod⟩⟩;rw[g17,hl4];rfl
  . obtain⟨hbm,hbad⟩:=Z13u (n:=n) (tok:=tok) hB hxo hT bC3 hk;rw[hbm]at t1;have ho1:y1.ox.map (·.1)=[toP n (Z11 128 tok [])]:=congrArg Tel.out t1;obtain⟨hl1,hf1⟩:=Zaa ho1;have row1:=Zhd (l:=y1.ox) (i:=0) hl1;have q15:Value.gI (((y1.ox.map Z1q).getD (Int.toNat 0) []).getD 15 undef)=n:=by
      rw[Int.toNat_zero,row1];show (y1.ox.getD 0 sntD).1.peer=n;rw[hf1]
    have q16:Value.gI (((y1.ox.map Z1q).getD (Int.toNat 0) []).getD 16 undef)=2:=by rw[Int.toNat_zero,row1];show (y1.ox.getD 0 sntD).1.msg.kind=2;rw[hf1]
    have q17:Value.gI (((y1.ox.map Z1q).getD (Int.toNat 0) []).getD 17 undef)=128:=by rw[Int.toNat_zero,row1];show (y1.ox.getD 0 sntD).1.msg.code=128;rw[hf1]
    have q18:Value.gI (((y1.ox.map Z1q).getD (Int.toNat 0) []).getD 18 undef)=7:=by rw[Int.toNat_zero,row1];show (y1.ox.getD 0 sntD).1.msg.id=7;rw[hf1]
    have q19:Value.gS (((y1.ox.map Z1q).getD (Int.toNat 0) []).getD 19 undef)=tok:=by rw[Int.toNat_zero,row1];show (y1.ox.getD 0 sntD).1.msg.tok=tok;rw[hf1]
    refine⟨.inr (by omega),.inr (by omega),.inr (by omega),.inr (by omega),fun h=>?_,fun _=>⟨by omega,fun _=>?_,fun h=>absurd (h:¬¬_) (by rw[q17];decide)⟩⟩
    . exfalso;rcases h with ((((h|h)|h)|h)|h)|h
      . exact h trivial
      . omega
      . exact h q15
      . exact h q19
      . exact h q16
      . exact h q18
    have hsm1:SmlT y1.bare.tel:=by rw[Z33,t1];exact⟨hs.kept,hs.keptL,hs.wants,hs.wantsL,hs.sess,hs.sessL,hs.wat,hs.watL⟩
    have hsame:Zl0 y1.bare.tel x.tel=true:=Zub.2 (by rw[Z33,t1]);refine⟨[.b true],rfl,fun _ w' hr=>?_,?_⟩
    . have hc:=Zjh w' y1.bare x ⟨hr.at_ 1 rfl,hr.at_ 2 rfl,hr.at_ 3 rfl,Z7c (y:=y1) (hr.at_ 6 rfl),hr.at_ 4 rfl⟩ ⟨hr.at_ 10 rfl,hr.at_ 11 rfl,hr.at_ 12 rfl,hr.at_ 13 rfl,hr.at_ 14 rfl⟩ hsm1.b.keptL hsm1.b.wantsL hsm1.b.watL (by have:=hsm1.b.sessL;omega) hsm1.f;rw[hsame]at hc;exact hc
    simp only[Tree.goal,X.P,X.ev,SV.ev,CV.ev,Sc.ev,qz,QA,QB,QC,QD,QE,QF,QG,QH,QI,QJ,QK,QL,QM,Nat.reduceAdd,qy3,qy4];intro w' hr;refine⟨?_,hr.mod⟩;have hbad':pay=[]\/(x.kept.length:Int)=16:=hbad.imp id fun h=>by have:x.kept.length=16:=h;omega
    have hd:(decide (pay=[]) || decide ((x.kept.length:Int)=16))=true:=by rw[Bool.or_eq_true,decide_eq_true_eq,decide_eq_true_eq];exact hbad'
    simp only[q17,decide_true];rw[hd];rfl
end Go.Proofs.YtkhakgbnfapifaaGreatDoor
namespace Go.Sx
open Go Go.ChangeShapes Go.WideShapes Go.ChangeAt Go.RowKit
section
variable {H:Type} {enc:TypeId×Value->H} {P:Program}
def Z13z (P:Program) (ts:List TypeId):Bool:=ts.all fun t=>match P.underlying t with|some (.slice e)=>decide (0<P.cellsOf e)|_=>true
def Zuj (P:Program) (ts:List TypeId):Bool:=ts.all fun t=>match P.underlying t with
 | some (.slice e)=>ts.contains e
 | some (.pointer e)=>ts.contains e
 | some (.array _ e)=>ts.contains e
 | some (.map _ e)=>ts.contains e
 | some (.struct fs)=>fs.toList.all fun f=>ts.contains f.type
 | _=>true
theorem Z11m (hl:laidOutB P=true) (hm:mapsRowed P=true) {ts:List TypeId} (hc:Zuj P ts=true) (hs:ts.all (fun t=>decide (t<P.types.size))=true):Kids P (·∈ts):=by
 have K:=kids_rows hl hm;have hs':∀t∈ts,t<P.types.size:=fun t ht=>by simpa using List.all_eq_true.1 hs t ht
 have hc':=fun t ht=>List.all_eq_true.1 hc t ht;refine⟨fun {t e} ht hu=>?_,fun {t e} ht hu=>?_,fun {t e n} ht hu=>⟨?_,(K.array (hs' t ht) hu).2⟩,fun {t fs} ht hu=>⟨?_,(K.struct (hs' t ht) hu).2⟩,fun {t k e} ht hu=>?_⟩
 ·have:=hc' t ht;rw[hu]at this;simpa using this
 ·have:=hc' t ht;rw[hu]at this;simpa using this
 ·have:=hc' t ht;rw[hu]at this;simpa using this
 ·have:=hc' t ht;rw[hu]at this;simp only[List.all_eq_true]at this;exact fun f hf=>by simpa using this f hf
 ·have:=hc' t ht;rw[hu]at this;simpa using this
theorem Zed {w w':World} {p:MemPlace} (h:w'.heap[p.block]?=w.heap[p.block]?):w.sameAt w' p:=by
 cases p with
 | cell b off=>exact World.cell?_of_block h
 | map b=>exact h
theorem Zab {w w':World} {sp:Nat->Bool} {T:TypeId->Prop} (K:Kids P T) (hsz:∀{t e:TypeId},T t->P.underlying t=some (.slice e)->0<P.cellsOf e) : ∀{ts:List TypeId} {vs:List Value} {ds:List (DataW H)} {ps:List MemPlace},(∀t∈ts,T t)->DataW.TrodAll enc P w 0 (fun _=>true) true ts vs ds ps -> (∀p∈ps,w.sameAt w' p)->(∀p∈ps,sp p.block=true)->DataW.TrodAll enc P w' 0 sp true ts vs ds ps
 | [],_,_,_,_,h,_,_=>by obtain⟨rfl,rfl,rfl⟩:=trodAll_nil h;exact trodAll_mk0
 | t::ts,_,_,_,ht,h,hs,hp=>by
  obtain⟨v,vs1,d,ds1,a,b,rfl,rfl,rfl,h1,h2⟩:=trodAll_cons h;obtain⟨n,h1⟩:=h1;exact⟨a,b,⟨n,DataW.trod_stays K hsz (fun h=>by cases h) (ht t (qy8 ..)) h1 (fun p hp'=>hs p (List.mem_append_left _ hp')) (fun p hp'=>hp p (List.mem_append_left _ hp'))⟩,
   Zab K hsz (fun u hu=>ht u (qy10 _ hu)) h2 (fun p hp'=>hs p (List.mem_append_right _ hp')) (fun p hp'=>hp p (List.mem_append_right _ hp')),rfl⟩
theorem Zxr {f:Func} {s:ChangeSpec} {fresh handsOn again:Bool} {W W':World} {args:Array Value} {ds gs:List (DataW H)} {before:List MemPlace} {tb:TypeId} (ts:List TypeId) (hW:DataW.Whole enc P f.params.toList s.vars false W args.toList ds gs before) (hv:s.vars=[]) (hr:f.resultTypes=#[tb]) (htb:P.underlying tb=some .bool) (hfn:gs=[]->(s.fn H ds).results=[.lit (.bool true)]/\(s.fn H ds).args=ds/\(s.fn H ds).vars=[]) (hl:laidOutB P=true) (hm:mapsRowed P=true) (hc:Zuj P ts=true) (hs:ts.all (fun t=>decide (t<P.types.size))=true) (hz:Z13z P ts=true) (hp:f.params.toList.all ts.contains=true) (h:Mod [] W W'):s.post enc P f false fresh handsOn again W args (.bool true) W':=by
 have hW':=hW;have hlt:=hW.lt;obtain⟨p,q,hA,hV,rfl,hfz,hn⟩:=hW;rw[hv]at hV;obtain⟨rfl,rfl⟩:=trodVars_none hV;obtain⟨f1,f2,f3⟩:=hfn rfl;have K:=Z11m hl hm hc hs;have hsz:∀{t e:TypeId},t∈ts->P.underlying t=some (.slice e)->0<P.cellsOf e:=fun {t e} ht hu=>by have:=List.all_eq_true.1 hz t ht;rw[hu]at this;simpa using this
 have hT:∀t∈f.params.toList,t∈ts:=fun t ht=>by simpa using List.all_eq_true.1 hp t ht
 have hblk:∀k,k<W.heap.size->W'.heap[k]?=W.heap[k]?:=fun k hk=>h.block k hk (by simp);have hsame:∀x∈p,W.sameAt W' x:=fun x hx=>Zed (hblk _ (hlt x (by simpa using hx)));have hargs:∀sp:Nat->Bool,(∀x∈p,sp x.block=true)->DataW.TrodAll enc P W' 0 sp true f.params.toList args.toList (s.fn H (ds++[])).args p:=fun sp hsp=>by rw[List.append_nil,f2];exact Zab K hsz hT hA hsame hsp
 have hres:∀(b:Nat) (sp:Nat->Bool) (hd:Bool),DataW.TrodAll enc P W' b sp hd f.resultTypes.toList ((Value.bool true).resultList f.resultTypes.size) (s.fn H (ds++[])).results []:=fun b sp hd=>by rw[List.append_nil,f1,hr];exact trodAll_cons_mk (shut_bool htb _) trodAll_mk0
 have hvars:∀sp:Nat->Bool,DataW.TrodVars enc P W' sp s.vars (s.fn H (ds++[])).vars []:=fun sp=>by rw[List.append_nil,f3,hv];rfl
 have hold:∀x∈p,(fun b=>decide (b<W.heap.size)) x.block=true:=fun x hx=>by simpa using hlt x (by simpa using hx)
 refine⟨ds,[],p++[],[],p,[],hW',hres _ _ _,hargs _ hold,hvars _,⟨h.os,h.output,fun i hi=>?_⟩,fun _=>⟨?_,[.lit (.bool true)]++ds,[],([]++p)++[],⟨[]++p,[],trodAll_append (by have:=hargs (fun _=>true) (fun _ _=>rfl);rw[List.append_nil,f2]at this;exact this) (by have:=hres 0 (fun _=>true) true;rw[List.append_nil,f1]at this;exact this),by rw[hv];rfl,rfl,?_,by simp⟩,?_⟩⟩
 ·have e:=hblk i hi;rw[e];cases W.heap[i]? with
  | none=>rfl
  | some o=>cases o<;>simp
 ·exact ok_one hr rfl (okWide_bool_mk htb _)
 ·intro b off hb;have hb:MemPlace.cell b off∈p:=by simpa using hb
  have hlt':=hlt _ (show MemPlace.cell b off∈p++[] by simpa using hb);have:=hfz b off (by simpa using hb);simp only[World.frozen?,hblk b hlt']at this ⊢;exact this
 ·intro x hx _;simpa using hx
end
end Go.Sx
namespace Go.Sx
open Go Go.ChangeShapes Go.WideShapes Go.ChangeAt Go.RowKit
section
variable {H:Type} {enc:TypeId×Value->H} {P:Program} {w:World} {sp:Nat->Bool}
structure Bulk (B:DataW H->Nat):Prop where
 agg:∀l:List (DataW H),(l.map B).sum<=B (.agg l)
 slice:∀l r:List (DataW H),(l.map B).sum+1<=B (.slice l r)
 str:∀s:List UInt8,s.length+1<=B (.lit (.string s))
 one:∀d:DataW H,1<=B d
def Zee (P:Program) (g:TypeId->Option (List (TypeId×Kd))):List Field->Nat->Option (List (TypeId×Kd))
 | [],_=>some []
 | f::fs,off=>do
  let l <- g f.type
  let r <- Zee P g fs (off+l.length)
  if f.offset=off/\P.cellsOf f.type=l.length then some (l++r) else none
def Z3h (P:Program):Nat->TypeId->Option (List (TypeId×Kd))
 | 0,_=>none
 | f+1,t=>match P.underlying t with
  | some .bool=>some [(t,.bool)]
  | some (.int k)=>some [(t,.int k)]
  | some .string=>some [(t,.str)]
  | some (.slice _)=>some [(t,.oth)]
  | some (.struct fs)=>match Zee P (Z3h P f) fs.toList 0 with
   | some l=>if P.cellsOf t=l.length then some l else none
   | none=>none
  | _=>none
def Z3i (enc:TypeId×Value->H) (P:Program) (w:World) (sp:Nat->Bool) (B:DataW H->Nat) (l:TypeId×Kd) (c:Value) (b:Nat):Prop :=
 l.2.ok c/\∃n d ps,DataW.trod enc P w 0 sp true n l.1 [c]=some (d,ps)/\B d<=b
inductive Lv (enc:TypeId×Value->H) (P:Program) (w:World) (sp:Nat->Bool) (B:DataW H->Nat):List (TypeId×Kd)->List Value->Nat->Prop
 | nil (b:Nat):Lv enc P w sp B [] [] b
 | cons {l:TypeId×Kd} {ls:List (TypeId×Kd)} {c:Value} {cs:List Value} {b1 b2 b:Nat}:Z3i enc P w sp B l c b1->Lv enc P w sp B ls cs b2->b1+b2<=b->Lv enc P w sp B (l::ls) (c::cs) b
variable {B:DataW H->Nat}
theorem Lv.mono {ls:List (TypeId×Kd)} {cs:List Value} {b b':Nat} (h:Lv enc P w sp B ls cs b) (hb:b<=b'):Lv enc P w sp B ls cs b':=by
 cases h with
 | nil=>exact .nil _
 | cons h1 h2 h3=>exact .cons h1 h2 (by omega)
theorem Lv.append {l2:List (TypeId×Kd)} {c2:List Value} {b2:Nat} (h':Lv enc P w sp B l2 c2 b2):∀{l1:List (TypeId×Kd)} {c1:List Value} {b1:Nat},Lv enc P w sp B l1 c1 b1->Lv enc P w sp B (l1++l2) (c1++c2) (b1+b2):=by
 intro l1 c1 b1 h;induction h with
 | nil b=>exact h'.mono (by omega)
 | cons h1 h2 h3 ih=>exact .cons h1 ih (by omega)
theorem Lv.rowOk {ls:List (TypeId×Kd)} {cs:List Value} {b:Nat} (h:Lv enc P w sp B ls cs b):rowOk (ls.map (·.2)) cs:=by
 induction h with
 | nil=>trivial
 | cons h1 h2 h3 ih=>exact⟨h1.1,ih⟩
theorem Zg2 {g:TypeId->Option (List (TypeId×Kd))} {cs:List Value} {n:Nat} (hg:∀t l cs x,g t=some l->DataW.trod enc P w 0 sp true n t cs=some x->Lv enc P w sp B l cs (B x.1)) : ∀{fs:List Field} {xs:List (DataW H×List MemPlace)} {off:Nat} {l:List (TypeId×Kd)},Zee P g fs off=some l->xs.length=fs.length -> (∀(i:Nat) (f:Field),fs[i]?=some f->DataW.trod enc P w 0 sp true n f.type ((cs.drop f.offset).take (P.cellsOf f.type))=xs[i]?)->off+l.length<=cs.length -> Lv enc P w sp B l ((cs.drop off).take l.length) ((xs.map fun x=>B x.1).sum)
 | [],[],off,l,h,_,_,_=>by simp[Zee]at h;subst h;simp;exact .nil _
 | f::fs,[],off,l,h,hl,_,_=>by simp at hl
 | [],x::xs,off,l,h,hl,_,_=>by simp at hl
 | f::fs,x::xs,off,l,h,hl,hx,hc=>by
  simp only[Zee,Option.bind_eq_bind,Option.bind_eq_some_iff,Option.ite_none_right_eq_some,Option.some.injEq]at h;obtain⟨l1,h1,l2,h2,⟨ho,hcs⟩,rfl⟩:=h;have hx0:=hx 0 f rfl;simp only[List.getElem?_cons_zero]at hx0;rw[ho,hcs]at hx0;have i1:=hg _ _ _ _ h1 hx0;simp only[qy11]at hc;have i2:=Zg2 hg (xs:=xs) h2 (by simpa using hl) (fun i f' hf=>by have:=hx (i+1) f' (by simpa using hf);simpa using this) (by omega);have e:(cs.drop off).take (l1++l2).length=(cs.drop off).take l1.length++(cs.drop (off+l1.length)).take l2.length:=by rw[qy11,<- List.drop_drop,List.take_add]
  rw[e];exact i2.append i1
theorem Zef (hB:Bulk B):∀(f:Nat) {t:TypeId} {l:List (TypeId×Kd)} {n:Nat} {cs:List Value} {x:DataW H×List MemPlace},Z3h P f t=some l->DataW.trod enc P w 0 sp true n t cs=some x->Lv enc P w sp B l cs (B x.1)
 | 0,t,l,n,cs,x,h,_=>by simp[Z3h]at h
 | f+1,t,l,n,cs,x,h,hx=>by
  simp only[Z3h]at h;have one:∀(k:Kd) (c:Value),cs=[c]->k.ok c->Lv enc P w sp B [(t,k)] cs (B x.1):=fun k c hc hk=>by subst hc;exact .cons ⟨hk,n,x.1,x.2,hx,Nat.le_refl _⟩ (.nil 0) (by omega)
  split at h
  ·rename_i hu;simp at h;subst h;obtain⟨b,rfl,-⟩:=DataW.trod_bool hu hx;exact one _ _ rfl ⟨b,rfl⟩
  ·rename_i k hu;simp at h;subst h;obtain⟨m,rfl,-⟩:=DataW.trod_int hu hx;exact one _ _ rfl ⟨m,rfl⟩
  ·rename_i hu;simp at h;subst h;obtain⟨⟨⟨s⟩⟩,rfl,-⟩:=DataW.trod_string hu hx;exact one _ _ rfl ⟨s,rfl⟩
  ·rename_i e hu;simp at h;subst h;rcases DataW.trod_slice hu hx with ⟨rfl,-⟩|⟨a,len,cap,elems,rest,m,-,rfl,-⟩
   ·exact one _ _ rfl rfl
   ·exact one _ _ rfl rfl
  ·rename_i fs hu;split at h
   ·rename_i l' hl;split at h
    ·rename_i hc;simp at h;subst h;obtain⟨xs,m,rfl,rfl,hcl,hxl,hf⟩:=DataW.trod_struct hu hx;have:=Zg2 (cs:=cs) (fun t l cs x=>Zef hB f (t:=t) (l:=l) (n:=m) (cs:=cs) (x:=x)) hl (by simpa using hxl) (fun i f hi=>hf i f (by simpa using hi)) (by omega);rw[List.drop_zero,List.take_of_length_le (by omega)]at this;refine this.mono ?_;have:=hB.agg (xs.map (·.1));rw[List.map_map]at this;exact this
    ·cases h
   ·cases h
  ·cases h
theorem Z55 (hB:Bulk B) {f n:Nat} {t e:TypeId} {ls:List (TypeId×Kd)} {v:Value} {x:DataW H×List MemPlace} (hu:P.underlying t=some (.slice e)) (hl:Z3h P f e=some ls) (hc:P.cellsOf e=ls.length) (hpos:0<ls.length) (hx:DataW.trod enc P w 0 sp true n t [v]=some x) : ∃(rows:List (List Value)) (bs:List Nat),reads w v (ls.map (·.2)) rows/\bs.length=rows.length/\(∀(i:Nat) r b,rows[i]?=some r->bs[i]?=some b->Lv enc P w sp B ls r b)/\bs.sum+1<=B x.1:=by
 rcases DataW.trod_slice hu hx with ⟨hv,rfl⟩|⟨a,len,cap,elems,rest,m,-,hv,rfl,-,hlc,hcm,hel,hget,-⟩
 ·simp only[List.cons.injEq,and_true]at hv;subst hv;exact⟨[],[],⟨by simp,none,0,rfl,⟨fun _=>rfl,by simp⟩,by simp⟩,rfl,by simp,by simpa using hB.one _⟩
 ·simp only[List.cons.injEq,and_true]at hv;subst hv;rw[hc]at hget;have hrow:∀i,i<len->∃r y,w.cells? 0 (a.add (i*ls.length)) ls.length=some r/\elems[i]?=some y/\DataW.trod enc P w 0 sp true m e r=some y:=fun i hi=>by
   have h1:=hget i hi;have h2:elems[i]?=some (elems[i]'(by omega)):=qy7 (by omega);rw[h2,Option.bind_eq_some_iff]at h1;obtain⟨r,h3,h4⟩:=h1;exact⟨r,_,h3,h2,h4⟩
  let rows:=(List.range len).map fun i=>(w.cells? 0 (a.add (i*ls.length)) ls.length).getD []
  have hrl:rows.length=len:=by simp[rows]
  have hri:∀i,i<len->∃r y,rows[i]?=some r/\w.cells? 0 (a.add (i*ls.length)) ls.length=some r/\elems[i]?=some y/\Lv enc P w sp B ls r (B y.1):=fun i hi=>by obtain⟨r,y,h1,h2,h3⟩:=hrow i hi;exact⟨r,y,by simp[rows,List.getElem?_range hi,h1],h1,h2,Zef hB f hl h3⟩
  have hlen:∀r∈rows,r.length=(ls.map (·.2)).length/\rowOk (ls.map (·.2)) r:=fun r hr=>by obtain⟨i,hi,hri'⟩:=List.getElem_of_mem hr;obtain⟨r',y,h1,h2,h3,h4⟩:=hri i (by omega);rw[qy7 hi,hri']at h1;simp at h1;subst h1;exact⟨h4.rowOk.length,h4.rowOk⟩
  refine⟨rows,elems.map fun y=>B y.1,⟨fun r hr=>(hlen r hr).2,some a,cap,by rw[hrl],⟨(fun h=>by cases h),by omega⟩,fun hne=>⟨a,rfl,fun j u hj=>?_⟩⟩,by simp[hrl,hel],fun i r b hr hb=>?_,?_⟩
  ·have hL:(ls.map (·.2)).length=ls.length:=by simp
   have hfl:=Za (fun r hr=>(hlen r hr).1);have hjl:j<rows.length*ls.length:=by have:=(List.getElem?_eq_some_iff.1 hj).1;rw[hfl,hL]at this;exact this
   have hi:j / ls.length<len:=by rw[<- hrl];exact Nat.div_lt_of_lt_mul (by rw[Nat.mul_comm];exact hjl)
   obtain⟨r,y,h1,h2,h3,h4⟩:=hri _ hi;have hk:=Nat.mod_lt j hpos;have hjj:j=j / ls.length*ls.length+j % ls.length:=by rw[Nat.mul_comm];exact(Nat.div_add_mod j _).symm
   have:=Z86 (fun r hr=>by rw[<- hL];exact(hlen r hr).1) (i:=j / ls.length) (c:=j % ls.length) hk;rw[<- hjj,hj,h1]at this;obtain⟨c1,c2⟩:=World.cells?_some h2;have c3:=c2.2 _ hk;rw[Zc4,<- hjj]at c3;rw[c3];exact this.symm
  ·obtain⟨r',y,h1,h2,h3,h4⟩:=hri i (by rw[<- hrl];exact(List.getElem?_eq_some_iff.1 hr).1);rw[h1]at hr;simp at hr;subst hr;rw[List.getElem?_map,h3]at hb;simp at hb;subst hb;exact h4
  ·have:=hB.slice (elems.map (·.1)) (rest.map (·.1));rw[List.map_map]at this;exact this
theorem Zl2 {r:Reach} {b0 base:Nat} {held:Bool} {t:TypeId} {fs:Array Field} {v:Value} {d:DataW H} {ps:List MemPlace} (ht:P.underlying t=some (.struct fs)) (hval:Value.okWide P w r b0 t v) (hd:DataW.Trod enc P w base sp held t v d ps) : ∃(cs:List Value) (n:Nat),v=.agg cs.toArray/\DataW.trod enc P w base sp held n t cs=some (d,ps):=by obtain⟨n,hd⟩:=hd;simp only[Value.okWide,ht]at hval;obtain⟨cs,rfl,-⟩:=hval;exact⟨cs.toList,n,by simp,by simpa [Value.cells]using hd⟩
theorem Zyo {α:Type} {g:α->Nat}:∀{rows:List α} {bs:List Nat},bs.length=rows.length->(∀(i:Nat) r b,rows[i]?=some r->bs[i]?=some b->g r<=b)->(rows.map g).sum<=bs.sum
 | [],[],_,_=>by simp
 | r::rows,b::bs,hl,h=>by have h0:=h 0 r b rfl rfl;have:=Zyo (rows:=rows) (bs:=bs) (by simpa using hl) (fun i r' b' hr hb=>h (i+1) r' b' (by simpa using hr) (by simpa using hb));simp only[List.map_cons,List.sum_cons];omega
 | [],_::_,hl,_=>by simp at hl
 | _::_,[],hl,_=>by simp at hl
theorem Z8x (hB:Bulk B) {ls:List (TypeId×Kd)} (h0:ls≠[]) {rows:List (List Value)} {bs:List Nat} (hl:bs.length=rows.length) (h:∀(i:Nat) r b,rows[i]?=some r->bs[i]?=some b->Lv enc P w sp B ls r b):rows.length<=bs.sum:=by
 have:=Zyo (g:=fun _:List Value=>1) hl (fun i r b hr hb=>by
  cases h i r b hr hb with
  | nil b=>exact absurd rfl h0
  | cons h1 h2 h3=>obtain⟨-,n,d,q,-,h5⟩:=h1;have:=hB.one d;omega)
 have e:(rows.map fun _=>1).sum=rows.length:=by
  clear hl h this;induction rows with
  | nil=>rfl
  | cons r rows ih=>simp only[List.map_cons,List.sum_cons,List.length_cons,ih];omega
 omega
theorem Z3i.str (hB:Bulk B) {t:TypeId} (ht:P.underlying t=some .string) {s:List UInt8} {b:Nat} (h:Z3i enc P w sp B (t,.str) (.string ⟨s.toArray⟩) b):s.length+1<=b:=by obtain⟨-,n,d,ps,h1,h2⟩:=h;obtain⟨s',h3,h4⟩:=DataW.trod_string ht h1;simp only[List.cons.injEq,Value.string.injEq,and_true]at h3;subst h3;simp only[Prod.mk.injEq]at h4;obtain⟨⟨rfl,-⟩,-⟩:=h4;have:=hB.str s;omega
end
end Go.Sx
namespace Go.Proofs.YtkhakgbnfapifaaGreatDoor
open Go Go.Sx Go.ChangeShapes Go.WideShapes Go.ChangeAt Go.RowKit
section
variable {H:Type} {enc:TypeId×Value->H} {w:World} {sp:Nat->Bool} {B:DataW H->Nat}
def Zhm (P:Program) (t:TypeId):Bool:=match P.underlying t with|some (.struct _)=>true|_=>false
theorem Zjl {P:Program} {r:Reach} {b0 base:Nat} {held:Bool} {t:TypeId} {v:Value} {d:DataW H} {ps:List MemPlace} (ht:Zhm P t=true) (hval:Value.okWide P w r b0 t v) (hd:DataW.Trod enc P w base sp held t v d ps) : ∃(cs:List Value) (n:Nat),v=.agg cs.toArray/\DataW.trod enc P w base sp held n t cs=some (d,ps):=by
 unfold Zhm at ht;split at ht
 ·exact Zl2 (by assumption) hval hd
 ·cases ht
theorem Z140 (hB:Bulk B) {cs:List Value} {b:Nat} (h:Lv enc Tryz.prog w sp B [(9,.str),(3,.int .i64)] cs b):∃o:Ak,cs=encA o/\o.1.length+1<=b:=by
 cases h with
 | cons c1 h e1 =>
 cases h with
 | cons c2 h e2 =>
 cases h;obtain⟨s,rfl⟩:=c1.1;obtain⟨n,rfl⟩:=c2.1;have q1:=Z3i.str hB Tryz.underlying9 c1;exact⟨(s,n),rfl,by simp only;omega⟩
theorem Z141 (hB:Bulk B):∀{rows:List (List Value)} {bs:List Nat},bs.length=rows.length->(∀(i:Nat) r b,rows[i]?=some r->bs[i]?=some b->Lv enc Tryz.prog w sp B [(9,.str),(3,.int .i64)] r b) -> ∃l:List Ak,rows=l.map encA/\∀x∈l,x.1.length<=bs.sum:=by
 intro rows;induction rows with
 | nil=>exact fun _ _=>⟨[],rfl,by simp⟩
 | cons r rows ih =>
  intro bs hl h
  match bs,hl with
  | b::bs,hl =>
   obtain⟨l,e,hb⟩:=ih (bs:=bs) (by simpa using hl) (fun i r' b' h1 h2=>h (i+1) r' b' (by simpa using h1) (by simpa using h2));obtain⟨o,rfl,hob⟩:=Z140 hB (h 0 r b rfl rfl);refine⟨o::l,by rw[e];rfl,?_⟩;intro x hx;rw[List.sum_cons];rcases List.mem_cons.1 hx with rfl|hx
   ·omega
   ·have:=hb x hx;omega
theorem Z142 {rows:List (List Value)} (h:∀r∈rows,rowOk [.int .i64] r):∃l,rows=List.map Z1h l:=by
 induction rows with
 | nil=>exact⟨[],rfl⟩
 | cons r rows ih =>
  obtain⟨ps,hps⟩:=ih fun r hr=>h r (qy10 _ hr);have h0:=h r (qy8 ..)
  match r,h0 with
  | [_],⟨⟨a,rfl⟩,_⟩=>exact⟨a::ps,by rw[hps];rfl⟩
theorem Z153 (hB:Bulk B) (h1:Tryz.prog.underlying 28=some (.slice 88)) (h2:Z3h Tryz.prog 8 88=some [(9,.str),(3,.int .i64)]) (h3:Tryz.prog.cellsOf 88=2) (i1:Tryz.prog.underlying 29=some (.slice 3)) (i2:Z3h Tryz.prog 8 3=some [(3,.int .i64)]) (i3:Tryz.prog.cellsOf 3=1) {cs:List Value} {b:Nat} (h:Lv enc Tryz.prog w (fun _=>true) B [(3,.int .i64),(4,.bool),(4,.bool),(4,.bool),(4,.bool),(3,.int .i64),(3,.int .i64),(3,.int .i64),(3,.int .i64),(9,.str),(9,.str),(9,.str),(28,.oth),(29,.oth)] cs b) : ∃(p:Pkt) (u v:Value),Value.agg cs.toArray=pV p u v/\cs=[.int .i64 p.kind,.bool p.dup,.bool p.retain,.bool p.clean,.bool p.session,.int .i64 p.qos,.int .i64 p.id,.int .i64 p.keep,.int .i64 p.code,.string ⟨p.client.toArray⟩,.string ⟨p.topic.toArray⟩,.string ⟨p.payload.toArray⟩,u,v] /\ Z82 w u p.asks/\Z72 w v p.codes/\p.client.length+p.topic.length+p.payload.length+p.asks.length+p.codes.length<=b/\∀a∈p.asks,a.1.length<=b:=by
 cases h with
 | cons c1 h e1 =>
 cases h with
 | cons c2 h e2 =>
 cases h with
 | cons c3 h e3 =>
 cases h with
 | cons c4 h e4 =>
 cases h with
 | cons c5 h e5 =>
 cases h with
 | cons c6 h e6 =>
 cases h with
 | cons c7 h e7 =>
 cases h with
 | cons c8 h e8 =>
 cases h with
 | cons c9 h e9 =>
 cases h with
 | cons c10 h e10 =>
 cases h with
 | cons c11 h e11 =>
 cases h with
 | cons c12 h e12 =>
 cases h with
 | cons c13 h e13 =>
 cases h with
 | cons c14 h e14 =>
 cases h;obtain⟨kd,rfl⟩:=c1.1;obtain⟨b1,rfl⟩:=c2.1;obtain⟨b2,rfl⟩:=c3.1;obtain⟨b3,rfl⟩:=c4.1;obtain⟨b4,rfl⟩:=c5.1;obtain⟨n1,rfl⟩:=c6.1;obtain⟨n2,rfl⟩:=c7.1;obtain⟨n3,rfl⟩:=c8.1;obtain⟨n4,rfl⟩:=c9.1;obtain⟨s1,rfl⟩:=c10.1;obtain⟨s2,rfl⟩:=c11.1;obtain⟨s3,rfl⟩:=c12.1;have q1:=Z3i.str hB Tryz.underlying9 c10;have q2:=Z3i.str hB Tryz.underlying9 c11;have q3:=Z3i.str hB Tryz.underlying9 c12;obtain⟨-,n,d,ps,hx,hb⟩:=c13;obtain⟨rows,bs,rd,bl,lv,bk⟩:=Z55 hB (f:=8) h1 h2 h3 (by decide) hx;have rl:=Z8x hB (by decide) bl lv;obtain⟨l,rfl,hs⟩:=Z141 hB bl lv;obtain⟨-,n',d',ps',hx',hb'⟩:=c14;obtain⟨rows',bs',rd',bl',lv',bk'⟩:=Z55 hB (f:=8) i1 i2 i3 (by decide) hx';have rl':=Z8x hB (by decide) bl' lv';obtain⟨l',rfl⟩:=Z142 rd'.1;rw[qy3]at rl rl';simp only at bk bk';exact⟨⟨kd,b1,b2,b3,b4,n1,n2,n3,n4,s1,s2,s3,l,l'⟩,_,_,by rw[pV,rd.sc1,rd'.sc1],rfl,rd,rd',by simp only;omega,fun x hx=>by have:=hs x hx;omega⟩
end
end Go.Proofs.YtkhakgbnfapifaaGreatDoor
namespace Go.Proofs.YtkhakgbnfapifaaGreatDoor
open Go Go.Sx Go.ChangeShapes Go.WideShapes Go.ChangeAt Go.RowKit
section
variable {H:Type} {enc:TypeId×Value->H} {w:World} {sp:Nat->Bool} {B:DataW H->Nat}
end
end Go.Proofs.YtkhakgbnfapifaaGreatDoor
namespace Go.Proofs.YtkhakgbnfapifaaGreatDoor
open Go Go.Sx Go.ChangeShapes Go.WideShapes Go.ChangeAt Go.RowKit
section
variable {H:Type} {enc:TypeId×Value->H} {w:World} {sp:Nat->Bool} {B:DataW H->Nat}
theorem Z152 (hB:Bulk B) {cs:List Value} {b:Nat} (h:Lv enc Tryz.prog w sp B [(3,.int .i64),(9,.str),(9,.str)] cs b):∃o:Fl,cs=encF o/\o.2.1.length+o.2.2.length+1<=b:=by
 cases h with
 | cons c1 h e1 =>
 cases h with
 | cons c2 h e2 =>
 cases h with
 | cons c3 h e3 =>
 cases h;obtain⟨p,rfl⟩:=c1.1;obtain⟨t,rfl⟩:=c2.1;obtain⟨n,rfl⟩:=c3.1;have q2:=Z3i.str hB Tryz.underlying9 c2;have q3:=Z3i.str hB Tryz.underlying9 c3;exact⟨(p,t,n),rfl,by simp only;omega⟩
theorem Zyp (hB:Bulk B):∀{rows:List (List Value)} {bs:List Nat},bs.length=rows.length->(∀(i:Nat) r b,rows[i]?=some r->bs[i]?=some b->Lv enc Tryz.prog w sp B [(3,.int .i64),(9,.str),(9,.str)] r b) -> ∃l:List Fl,rows=l.map encF/\∀x∈l,x.2.1.length<=bs.sum:=by
 intro rows;induction rows with
 | nil=>exact fun _ _=>⟨[],rfl,by simp⟩
 | cons r rows ih =>
  intro bs hl h
  match bs,hl with
  | b::bs,hl =>
   obtain⟨l,e,hb⟩:=ih (bs:=bs) (by simpa using hl) (fun i r' b' h1 h2=>h (i+1) r' b' (by simpa using h1) (by simpa using h2));obtain⟨o,rfl,hob⟩:=Z152 hB (h 0 r b rfl rfl);refine⟨o::l,by rw[e];rfl,?_⟩;intro x hx;rw[List.sum_cons];rcases List.mem_cons.1 hx with rfl|hx
   ·omega
   ·have:=hb x hx;omega
theorem Z143 (hB:Bulk B) (h1:Tryz.prog.underlying 61=some (.slice 172)) (h2:Z3h Tryz.prog 8 172=some [(3,.int .i64),(9,.str),(9,.str)]) (h3:Tryz.prog.cellsOf 172=3) {cs:List Value} {b:Nat} (h:Lv enc Tryz.prog w (fun _=>true) B [(9,.str),(4,.bool),(4,.bool),(61,.oth),(61,.oth),(3,.int .i64)] cs b) : ∃(s:Ses) (u v:Value),Value.agg cs.toArray=sesV s u v/\Zn w u s.fl/\Zn w v s.qu/\s.cl.length+s.fl.length+s.qu.length<=b/\(∀x∈s.fl,x.2.1.length<=b)/\(∀x∈s.qu,x.2.1.length<=b):=by
 cases h with
 | cons c1 h e1 =>
 cases h with
 | cons c2 h e2 =>
 cases h with
 | cons c3 h e3 =>
 cases h with
 | cons c4 h e4 =>
 cases h with
 | cons c5 h e5 =>
 cases h with
 | cons c6 h e6 =>
 cases h;obtain⟨k,rfl⟩:=c1.1;obtain⟨c,rfl⟩:=c2.1;obtain⟨j,rfl⟩:=c3.1;obtain⟨p,rfl⟩:=c6.1;have q1:=Z3i.str hB Tryz.underlying9 c1;obtain⟨-,n,d,ps,hx,hb⟩:=c4;obtain⟨rows,bs,rd,bl,lv,bk⟩:=Z55 hB (f:=8) h1 h2 h3 (by decide) hx;have rl:=Z8x hB (by decide) bl lv;obtain⟨l,rfl,hs⟩:=Zyp hB bl lv;obtain⟨-,n',d',ps',hx',hb'⟩:=c5;obtain⟨rows',bs',rd',bl',lv',bk'⟩:=Z55 hB (f:=8) h1 h2 h3 (by decide) hx';have rl':=Z8x hB (by decide) bl' lv';obtain⟨l',rfl,hs'⟩:=Zyp hB bl' lv';rw[qy3]at rl rl';simp only at bk bk';exact⟨⟨k,c,j,l,l',p⟩,_,_,by rw[sesV,rd.sc1,rd'.sc1],rd,rd',by simp only;omega,fun x hx=>by have:=hs x hx;omega,fun x hx=>by have:=hs' x hx;omega⟩
end
end Go.Proofs.YtkhakgbnfapifaaGreatDoor
namespace Go.Proofs.YtkhakgbnfapifaaGreatDoor
open Go Go.Sx Go.ChangeShapes Go.WideShapes Go.ChangeAt Go.RowKit
section
variable {H:Type} {enc:TypeId×Value->H} {w:World} {sp:Nat->Bool} {B:DataW H->Nat}
theorem Z11n (hB:Bulk B) {cs:List Value} {b:Nat} (h:Lv enc Tryz.prog w sp B [(9,.str),(9,.str),(3,.int .i64)] cs b):∃o:Kp,cs=encK o/\o.1.length+o.2.1.length+1<=b:=by
 cases h with
 | cons c1 h e1 =>
 cases h with
 | cons c2 h e2 =>
 cases h with
 | cons c3 h e3 =>
 cases h;obtain⟨p,rfl⟩:=c1.1;obtain⟨t,rfl⟩:=c2.1;obtain⟨n,rfl⟩:=c3.1;have q1:=Z3i.str hB Tryz.underlying9 c1;have q2:=Z3i.str hB Tryz.underlying9 c2;exact⟨(p,t,n),rfl,by simp only;omega⟩
theorem Z144 (hB:Bulk B):∀{rows:List (List Value)} {bs:List Nat},bs.length=rows.length->(∀(i:Nat) r b,rows[i]?=some r->bs[i]?=some b->Lv enc Tryz.prog w sp B [(9,.str),(9,.str),(3,.int .i64)] r b) -> ∃l:List Kp,rows=l.map encK/\∀x∈l,x.1.length<=bs.sum:=by
 intro rows;induction rows with
 | nil=>exact fun _ _=>⟨[],rfl,by simp⟩
 | cons r rows ih =>
  intro bs hl h
  match bs,hl with
  | b::bs,hl =>
   obtain⟨l,e,hb⟩:=ih (bs:=bs) (by simpa using hl) (fun i r' b' h1 h2=>h (i+1) r' b' (by simpa using h1) (by simpa using h2));obtain⟨o,rfl,hob⟩:=Z11n hB (h 0 r b rfl rfl);refine⟨o::l,by rw[e];rfl,?_⟩;intro x hx;rw[List.sum_cons];rcases List.mem_cons.1 hx with rfl|hx
   ·omega
   ·have:=hb x hx;omega
end
end Go.Proofs.YtkhakgbnfapifaaGreatDoor
namespace Go.Proofs.YtkhakgbnfapifaaGreatDoor
open Go Go.Sx Go.ChangeShapes Go.WideShapes Go.ChangeAt Go.RowKit
section
variable {H:Type} {enc:TypeId×Value->H} {w:World} {sp:Nat->Bool} {B:DataW H->Nat}
theorem Z11o (hB:Bulk B) {cs:List Value} {b:Nat} (h:Lv enc Tryz.prog w sp B [(9,.str),(9,.str),(3,.int .i64)] cs b):∃o:Wt,cs=Zb o/\o.1.length+o.2.1.length+1<=b:=by
 cases h with
 | cons c1 h e1 =>
 cases h with
 | cons c2 h e2 =>
 cases h with
 | cons c3 h e3 =>
 cases h;obtain⟨p,rfl⟩:=c1.1;obtain⟨t,rfl⟩:=c2.1;obtain⟨n,rfl⟩:=c3.1;have q1:=Z3i.str hB Tryz.underlying9 c1;have q2:=Z3i.str hB Tryz.underlying9 c2;exact⟨(p,t,n),rfl,by simp only;omega⟩
theorem Z145 (hB:Bulk B):∀{rows:List (List Value)} {bs:List Nat},bs.length=rows.length->(∀(i:Nat) r b,rows[i]?=some r->bs[i]?=some b->Lv enc Tryz.prog w sp B [(9,.str),(9,.str),(3,.int .i64)] r b) -> ∃l:List Wt,rows=l.map Zb/\∀x∈l,x.1.length<=bs.sum/\x.2.1.length<=bs.sum:=by
 intro rows;induction rows with
 | nil=>exact fun _ _=>⟨[],rfl,by simp⟩
 | cons r rows ih =>
  intro bs hl h
  match bs,hl with
  | b::bs,hl =>
   obtain⟨l,e,hb⟩:=ih (bs:=bs) (by simpa using hl) (fun i r' b' h1 h2=>h (i+1) r' b' (by simpa using h1) (by simpa using h2));obtain⟨o,rfl,hob⟩:=Z11o hB (h 0 r b rfl rfl);refine⟨o::l,by rw[e];rfl,?_⟩;intro x hx;rw[List.sum_cons];rcases List.mem_cons.1 hx with rfl|hx
   ·omega
   ·have:=hb x hx;omega
end
end Go.Proofs.YtkhakgbnfapifaaGreatDoor
namespace Go.Proofs.YtkhakgbnfapifaaGreatDoor
open Go Go.Sx Go.ChangeShapes Go.WideShapes Go.ChangeAt Go.RowKit
section
variable {H:Type} {enc:TypeId×Value->H} {w:World} {sp:Nat->Bool} {B:DataW H->Nat}
theorem Z146 (hB:Bulk B) {cs:List Value} {b:Nat} (h:Lv enc Tryz.prog w sp B [(3,.int .i64),(9,.str),(9,.str),(3,.int .i64)] cs b):∃o:Wat,cs=Z8 o/\o.2.1.length+o.2.2.1.length+2<=b:=by
 cases h with
 | cons c1 h e1 =>
 cases h with
 | cons c2 h e2 =>
 cases h with
 | cons c3 h e3 =>
 cases h with
 | cons c4 h e4 =>
 cases h;obtain⟨p,rfl⟩:=c1.1;obtain⟨t,rfl⟩:=c2.1;obtain⟨n,rfl⟩:=c3.1;obtain⟨k,rfl⟩:=c4.1;have q2:=Z3i.str hB Tryz.underlying9 c2;have q3:=Z3i.str hB Tryz.underlying9 c3;exact⟨(p,t,n,k),rfl,by simp only;omega⟩
theorem Z147 (hB:Bulk B):∀{rows:List (List Value)} {bs:List Nat},bs.length=rows.length->(∀(i:Nat) r b,rows[i]?=some r->bs[i]?=some b->Lv enc Tryz.prog w sp B [(3,.int .i64),(9,.str),(9,.str),(3,.int .i64)] r b) -> ∃l:List Wat,rows=l.map Z8/\∀x∈l,x.2.2.1.length<=bs.sum:=by
 intro rows;induction rows with
 | nil=>exact fun _ _=>⟨[],rfl,by simp⟩
 | cons r rows ih =>
  intro bs hl h
  match bs,hl with
  | b::bs,hl =>
   obtain⟨l,e,hb⟩:=ih (bs:=bs) (by simpa using hl) (fun i r' b' h1 h2=>h (i+1) r' b' (by simpa using h1) (by simpa using h2));obtain⟨o,rfl,hob⟩:=Z146 hB (h 0 r b rfl rfl);refine⟨o::l,by rw[e];rfl,?_⟩;intro x hx;rw[List.sum_cons];rcases List.mem_cons.1 hx with rfl|hx
   ·omega
   ·have:=hb x hx;omega
end
end Go.Proofs.YtkhakgbnfapifaaGreatDoor
namespace Go.Proofs.YtkhakgbnfapifaaGreatDoor
open Go Go.Sx Go.ChangeShapes Go.WideShapes Go.ChangeAt Go.RowKit
theorem tyk1:Tryz.prog.underlying 22=some (.slice 106):=by kernel_rfl
theorem tyk2:Z3h Tryz.prog 8 106=some [(9,.str),(9,.str),(3,.int .i64)]:=by kernel_rfl
theorem tyk3:Tryz.prog.cellsOf 106=3:=by kernel_rfl
theorem tyw1:Tryz.prog.underlying 23=some (.slice 90):=by kernel_rfl
theorem tyw2:Z3h Tryz.prog 8 90=some [(9,.str),(9,.str),(3,.int .i64)]:=by kernel_rfl
theorem tyw3:Tryz.prog.cellsOf 90=3:=by kernel_rfl
theorem tys1:Tryz.prog.underlying 24=some (.slice 63):=by kernel_rfl
theorem tys2:Z3h Tryz.prog 8 63=some [(9,.str),(4,.bool),(4,.bool),(61,.oth),(61,.oth),(3,.int .i64)]:=by kernel_rfl
theorem tys3:Tryz.prog.cellsOf 63=6:=by kernel_rfl
theorem tyf1:Tryz.prog.underlying 61=some (.slice 172):=by kernel_rfl
theorem tyf2:Z3h Tryz.prog 8 172=some [(3,.int .i64),(9,.str),(9,.str)]:=by kernel_rfl
theorem tyf3:Tryz.prog.cellsOf 172=3:=by kernel_rfl
theorem tya1:Tryz.prog.underlying 25=some (.slice 68):=by kernel_rfl
theorem tya2:Z3h Tryz.prog 8 68=some [(3,.int .i64),(9,.str),(9,.str),(3,.int .i64)]:=by kernel_rfl
theorem tya3:Tryz.prog.cellsOf 68=4:=by kernel_rfl
section
variable {H:Type} {enc:TypeId×Value->H} {w:World} {B:DataW H->Nat}
theorem Z11p (hB:Bulk B) {P:Program} {sp:Nat->Bool} {ls:List (TypeId×Kd)} {cs:List Value} {b:Nat} (h:Lv enc P w sp B ls cs b):ls.length<=b:=by
 induction h with
 | nil b=>exact Nat.zero_le _
 | cons h1 h2 h3 ih =>
  obtain⟨-,n,d,ps,-,h5⟩:=h1;have:=hB.one d;rw[List.length_cons];omega
theorem Z11q (hB:Bulk B):∀{rows:List (List Value)} {bs:List Nat},bs.length=rows.length->(∀(i:Nat) r b,rows[i]?=some r->bs[i]?=some b->Lv enc Tryz.prog w (fun _=>true) B [(9,.str),(4,.bool),(4,.bool),(61,.oth),(61,.oth),(3,.int .i64)] r b) -> ∃l:List SesX,rows=l.map Zh/\(Z6 l []).holds w/\(∀t∈l,t.1.cl.length+t.1.fl.length+t.1.qu.length<=bs.sum/\(∀x∈t.1.fl,x.2.1.length<=bs.sum)/\∀x∈t.1.qu,x.2.1.length<=bs.sum)/\6*l.length<=bs.sum:=by
 intro rows;induction rows with
 | nil=>exact fun _ _=>⟨[],rfl,Z8u w,by simp,by simp⟩
 | cons r rows ih =>
  intro bs hl h
  match bs,hl with
  | b::bs,hl =>
   obtain⟨l,e,hp,hb,hn⟩:=ih (bs:=bs) (by simpa using hl) (fun i r' b' h1 h2=>h (i+1) r' b' (by simpa using h1) (by simpa using h2));have hlv:=h 0 r b rfl rfl;have hle:=Z11p hB hlv;obtain⟨s,u,v,e2,ru,rv,z1,z2,z3⟩:=Z143 hB tyf1 tyf2 tyf3 hlv;have e3:r=Zh (s,u,v):=by have e4:=Value.agg.inj e2;have e5:=congrArg Array.toList e4;exact e5
   refine⟨(s,u,v)::l,by rw[e,e3];rfl,?_,?_,?_⟩
   ·refine Z1j (l:=l) (o:=[]) (fun t ht=>?_) (fun t ht=>.inl ht) hp;rcases List.mem_cons.1 ht with rfl|ht
    ·exact .inr ⟨ru,rv⟩
    ·exact .inl ht
   ·intro t ht;rw[List.sum_cons];rcases List.mem_cons.1 ht with rfl|ht
    ·exact⟨by simp only;omega,fun x hx=>by have:=z2 x hx;omega,fun x hx=>by have:=z3 x hx;omega⟩
    ·obtain⟨q1,q2,q3⟩:=hb t ht;exact⟨by omega,fun x hx=>by have:=q2 x hx;omega,fun x hx=>by have:=q3 x hx;omega⟩
   ·simp only[List.length_cons,List.length_nil]at hle;rw[List.sum_cons,List.length_cons];omega
theorem Z148 (hB:Bulk B) {cs:List Value} {b:Nat} (h:Lv enc Tryz.prog w (fun _=>true) B [(22,.oth),(23,.oth),(24,.oth),(25,.oth),(3,.int .i64)] cs b) (hb:b<=4000000) : ∃x:TelX,Value.agg cs.toArray=bkV x/\x.ox=[]/\RdX w x/\SmlT x.tel:=by
 cases h with
 | cons c1 h e1 =>
 cases h with
 | cons c2 h e2 =>
 cases h with
 | cons c3 h e3 =>
 cases h with
 | cons c4 h e4 =>
 cases h with
 | cons c5 h e5 =>
 cases h;obtain⟨n,rfl⟩:=c5.1;obtain⟨-,n1,d1,ps1,hx1,hb1⟩:=c1;obtain⟨rows1,bs1,rd1,bl1,lv1,bk1⟩:=Z55 hB (f:=8) tyk1 tyk2 tyk3 (by decide) hx1;have rl1:=Z8x hB (by decide) bl1 lv1;obtain⟨l1,rfl,s1⟩:=Z144 hB bl1 lv1;obtain⟨-,n2,d2,ps2,hx2,hb2⟩:=c2;obtain⟨rows2,bs2,rd2,bl2,lv2,bk2⟩:=Z55 hB (f:=8) tyw1 tyw2 tyw3 (by decide) hx2;have rl2:=Z8x hB (by decide) bl2 lv2;obtain⟨l2,rfl,s2⟩:=Z145 hB bl2 lv2;obtain⟨-,n3,d3,ps3,hx3,hb3⟩:=c3;obtain⟨rows3,bs3,rd3,bl3,lv3,bk3⟩:=Z55 hB (f:=8) tys1 tys2 tys3 (by decide) hx3;obtain⟨l3,rfl,p3,s3,k3⟩:=Z11q hB bl3 lv3;obtain⟨-,n4,d4,ps4,hx4,hb4⟩:=c4;obtain⟨rows4,bs4,rd4,bl4,lv4,bk4⟩:=Z55 hB (f:=8) tya1 tya2 tya3 (by decide) hx4;have rl4:=Z8x hB (by decide) bl4 lv4;obtain⟨l4,rfl,s4⟩:=Z147 hB bl4 lv4;rw[qy3]at rl1 rl2 rl4;simp only at bk1 bk2 bk3 bk4;refine⟨⟨l1,l2,l3,l4,n,[],_,_,_,_,.slice none 0 0⟩,by rw[bkV,rd1.sc1,rd2.sc1,rd3.sc1,rd4.sc1],rfl,⟨rd1,rd2,rd3,p3,rd4⟩,?_⟩;refine⟨fun x hx=>by have:=s1 x hx;omega,by show l1.length<_;omega,fun x hx=>?_,by show l2.length<_;omega,fun s hs=>?_,?_,fun x hx=>?_,by show l4.length<_;omega⟩
 ·have:=s2 x hx;exact⟨by omega,by omega⟩
 ·obtain⟨t,ht,rfl⟩:=List.mem_map.1 hs;obtain⟨q1,q2,q3⟩:=s3 t ht;exact⟨fun x hx=>by have:=q2 x hx;omega,fun x hx=>by have:=q3 x hx;omega,by omega,by omega,by omega⟩
 ·show (l3.map (·.1)).length<_
  rw[qy3];omega
 ·have:=s4 x hx;omega
end
end Go.Proofs.YtkhakgbnfapifaaGreatDoor
