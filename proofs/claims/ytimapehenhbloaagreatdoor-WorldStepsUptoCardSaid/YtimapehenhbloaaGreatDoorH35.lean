/- By an AI agent. -/
import Derived.Test.YtimapehenhbloaaGreatDoorH34
import Derived.ProofKit
import Derived.OpenShut
import Derived.JoinedCond
import Derived.ChangeStays
set_option linter.all false
set_option maxHeartbeats 20000000
set_option maxRecDepth 100000
open Nat renaming reduceAdd→ϐ,le_trans→Ϛ,zero_le→ϥ,mul_comm→β
open Classical renaming byContradiction→ϑ
open Bool renaming true→ϒ,or_eq_true→ϙ,eq_false_iff→Ϥ,false→ϧ
open Go.Proofs.Tryz renaming prog→ϓ
open Go renaming Value→ϔ,World→ϣ,Calls→Ϯ
open Option renaming some→ϕ,none→Ϩ,bind_eq_some_iff→Ϫ
open List renaming mem_cons→ϖ,sum_cons→ϗ,getD_cons_zero→Ϙ,length_cons→Ϝ,all_eq_true→Ϟ,getD_cons_succ→Ϡ,append_nil→Ϣ,length_nil→Ϧ,getElem?_eq_some_iff→ϩ,mem_append_right→ϫ,length→Ϭ,mem_append_left→ϭ,map_cons→ϯ,getElem?_map→ϰ,drop_length→ϱ,not_mem_nil→ϲ,getElem_mem→ϳ,length_take→Ϸ,map_append→ϸ,cons→Ϲ,map_nil→Ϻ,map_map→ϻ
namespace Go.Proofs.Y
open Go Go.Sx
def CbI(x:TelX)(e0:Int)(e:Int)(i:Nat):Prop:=i<=x.sx.length/\(¬e0=0->e=e0)/\(e0=0->(e=0->Zg4 (prvS x.sx i) ((x.sx.drop i).map (·.1))=Zg4 Ϩ (x.sx.map (·.1)))/\(¬e=0->Zg4 Ϩ (x.sx.map (·.1))=e))
variable{x:TelX}
def Z172(h1:chkK x.kept=0)(h2:Zl x.wants=0)(h3:¬Z78 x.tel.sess=0):chkB x.tel=Z78 x.tel.sess:=by rw[chkB,ϛ (qy9.2 (show chkK x.tel.kept=0 from h1)),ϛ (qy9.2 (show Zl x.tel.wants=0 from h2)),ϝ h3]
def Zqe(h1:chkK x.kept=0)(h2:Zl x.wants=0)(h3:Z78 x.tel.sess=0):chkB x.tel=if ¬Z1d x.wat=0 then Z1d x.wat else if Z1m x.tel=ϒ then 4 else if x.next<0\/65535<x.next then 3 else 0:=by rw[chkB,ϛ (qy9.2 (show chkK x.tel.kept=0 from h1)),ϛ (qy9.2 (show Zl x.tel.wants=0 from h2)),ϛ (qy9.2 h3)];rfl
variable{e0 e:Int}{i:Nat}
def CbI.out(h:CbI x e0 e i)(hb:¬e0=0->chkB x.tel=e0)(hz:e0=0->chkK x.kept=0/\Zl x.wants=0/\¬6<(x.sx.length:Int))(he:¬e=0):chkB x.tel=e:=by
 by_cases h0:e0=0
 ·obtain⟨h1,h2,h3⟩:=hz h0;have h4:=(h.2.2 h0).2 he;have h5:Z78 x.tel.sess=e:=by rw[Z78,ϛ (by rw[show x.tel.sess=x.sx.map (·.1) from rfl,qy3];exact h3)];exact h4
  rw[Z172 h1 h2 (by rw[h5];exact he),h5]
 ·rw[hb h0,h.2.1 h0]
def CbI.ok(h:CbI x e0 0 i)(hz:e0=0->chkK x.kept=0/\Zl x.wants=0/\¬6<(x.sx.length:Int))(hi:i=x.sx.length):chkK x.kept=0/\Zl x.wants=0/\Z78 x.tel.sess=0:=by have h0:e0=0:=ϑ λh0=>h0 (h.2.1 h0).symm;obtain⟨h1,h2,h3⟩:=hz h0;refine⟨h1,h2,?_⟩;have h4:=(h.2.2 h0).1 rfl;rw[hi,ϱ]at h4;rw[Z78,ϛ (by rw[show x.tel.sess=x.sx.map (·.1) from rfl,qy3];exact h3)];exact h4.symm
def CbI.next(h:CbI x e0 0 i)(hi:i<x.sx.length): (¬chkS (x.sx.getD i sxD).1=0->CbI x e0 (chkS (x.sx.getD i sxD).1) (i+1)) /\ (chkS (x.sx.getD i sxD).1=0->0<(i:Int)->¬Z5 (x.sx.getD (i - 1) sxD).1.cl (x.sx.getD i sxD).1.cl=ϒ->CbI x e0 4 (i+1)) /\ (chkS (x.sx.getD i sxD).1=0->(0<(i:Int)->Z5 (x.sx.getD (i - 1) sxD).1.cl (x.sx.getD i sxD).1.cl=ϒ)->CbI x e0 0 (i+1)):=by
 have hq:Z5 (x.sx.getD (i - 1) sxD).1.cl (x.sx.getD i sxD).1.cl=ϧ↔(Z5 (x.sx.getD i sxD).1.cl (x.sx.getD (i - 1) sxD).1.cl=ϒ\/(x.sx.getD i sxD).1.cl=(x.sx.getD (i - 1) sxD).1.cl):=Z15;have h0:e0=0:=ϑ λh0=>h0 (h.2.1 h0).symm;have h4:=(h.2.2 h0).1 rfl;rw[Znj hi]at h4;refine⟨λa=>⟨by omega,λb=>ϟ h0 b,λ_=>⟨λc=>ϟ c a,λ_=>?_⟩⟩,λa b c=>⟨by omega,λd=>ϟ h0 d,λ_=>⟨λd=>ϟ d (by decide),λ_=>?_⟩⟩,λa b=>⟨by omega,λc=>ϟ h0 c,λ_=>⟨λ_=>?_,λc=>ϟ rfl c⟩⟩⟩
 ·rw[ϝ a]at h4;exact h4.symm
 ·rw[ϛ (qy9.2 a),ϝ ⟨b,hq.1 (Ϥ.2 c)⟩]at h4;exact h4.symm
 ·rw[ϛ (qy9.2 a),ϛ (λ⟨c,d⟩=>by have:=hq.2 d;rw[b c]at this;cases this)]at h4;exact h4
def Zlx(w:ϣ)(x:TelX)(hx:RdX w x)(ho:x.ox=[])(hs:SmlB x): Ϯ ϓ 5 #[bkV x] w λe w'=>e=.returned (.int .i64 (chkB x.tel))/\Mod [] w w':=by
  refine Wu (J:=bkA x) Z5w hx.rel ?_;simp only[QQ,ϐ,qy3,qy4];have hsx:x.tel.sess=x.sx.map (·.1):=rfl;have hal:=hs.watL;have hsl:=hs.sessL;have hwl:=hs.wantsL;intro b10;refine⟨[.i (chkK x.kept)],rfl,λ_ w' hr=>Zu8 w' x.kv x.kept (hr.at_ 1 rfl) hs.kept hs.keptL,?_⟩;simp only[QQ,ϐ,qy3,qy4];refine⟨λh1=>?_,λh1=>?_⟩
  . refine⟨[.i (Zl x.wants)],rfl,λ_ w' hr=>Zt2 w' x.wv x.wants (hr.at_ 2 rfl) hs.wants hs.wantsL,?_⟩;simp only[QQ,ϐ,qy3,qy4];refine⟨λh2=>?_,λh2=>?_⟩
    . have hb:¬(2:Int)=0->chkB x.tel=2:=λ_=>by have:Z78 x.tel.sess=2:=by { rw[Z78,ϝ (by rw[hsx,qy3];exact h2.2)] };rw[Z172 h1 h2.1 (by rw[this];decide),this]
      have hz:(2:Int)=0->chkK x.kept=0/\Zl x.wants=0/\¬6<(x.sx.length:Int):=λh=>ϟ h (by decide);refine⟨λvs=>∃(e:Int) (i:Nat),vs=[.i e,.i i]/\CbI x (2) e i,λvs=>x.sx.length - (vs.getD 1 (.i 0)).toI.toNat,⟨_,0,rfl,ϥ _,λ_=>rfl,λ_=>⟨λ_=>rfl,λh=>ϟ (by assumption) h⟩⟩,?_⟩;rintro _ - ⟨e,i,rfl,hg⟩;have hi:=hg.1;simp only[QQ,ϐ,qy3,qy4,gSx0];have hi1:((i:Int) - 1).toNat=i - 1:=by omega
      try rw[hi1]
      refine⟨λh3=>⟨by omega,?_⟩,λh3=>⟨λh4=>?_,λh4 w' hr=>⟨by rw[hg.out hb hz h4],hr.mod⟩⟩⟩
      . have hi':i<x.sx.length:=by omega
        have he:e=0:=h3.2;subst he;obtain⟨n1,n2,n3⟩:=hg.next hi';have hrow:=Z57 hi';obtain⟨s1,s2,s3,s4,s5⟩:=hs.sess _ (Z58 hi');refine⟨[.i (chkS (x.sx.getD i sxD).1)],rfl,λ_ w' hr=>?_,?_⟩
        . have hn:=Zy (by rw[<- ho];exact hr.at_ 4 rfl:(Z3 x.sx []).holds w') (Z58 hi');refine Zb (Z87 w' (x.sx.getD i sxD).1 (x.sx.getD i sxD).2.1 (x.sx.getD i sxD).2.2 hn.1 hn.2 s1 s2 s3 s4 s5) ?_;simp only[QQ,ϐ,qy3,qy4,hrow,Ze,Ϙ,Ϡ,Value.gI,Value.gB,Value.gS,Zv,sesV]
        simp only[QQ,ϐ,qy3,qy4,gSx0];try rw[hi1]
        refine⟨by omega,by omega,by omega,by omega,[.b (Z5 (x.sx.getD (i - 1) sxD).1.cl (x.sx.getD i sxD).1.cl)],rfl,λhgd w' _=>Z1q w' _ _ (by
          have h8:i - 1<x.sx.length:=by omega
          exact(hs.sess _ (Z58 h8)).2.2.2.2),?_⟩
        simp only[QQ,ϐ,qy3,qy4];refine⟨λh5=>⟨by omega,by omega,⟨4,i+1,rfl,n2 h5.1.1 h5.1.2 h5.2⟩,by omega⟩,λh5=>⟨by omega,by omega,⟨_,i+1,rfl,?_⟩,by omega⟩⟩;by_cases h6:chkS (x.sx.getD i sxD).1=0
        . rw[h6];exact n3 h6 λh7=>ϑ λh8=>h5 ⟨⟨h6,h7⟩,h8⟩
        . exact n1 h6
      have he:e=0:=h4;subst he;obtain⟨k1,k2,k3⟩:=hg.ok hz (by omega);rw[Zqe k1 k2 k3];refine⟨[.i (Z1d x.wat)],rfl,λ_ w' hr=>Z86 w' x.av x.wat (hr.at_ 5 rfl) hs.wat (by omega),?_⟩;simp only[QQ,ϐ,qy3,qy4];refine⟨λh5 w' hr=>⟨by rw[ϝ h5],hr.mod⟩,λh5=>?_⟩;rw[ϛ h5];refine⟨λvs=>∃(y:V) (i:Nat),vs=[y,.i i]/\i<=x.wants.length/\∀j,j<i->hasS x.tel.sess (x.wants.getD j kD).1=ϒ,λvs=>x.wants.length - (vs.getD 1 (.i 0)).toI.toNat,⟨_,0,rfl,by omega,λj hj=>by omega⟩,?_⟩;rintro _ - ⟨y0,i,rfl,hi,hall⟩;simp only[QQ,ϐ,qy3,qy4,gK0];refine⟨λh6=>⟨by omega,?_⟩,λh6=>?_⟩
      . refine⟨[.i (atS x.tel.sess (x.wants.getD i kD).1)],rfl,λ_ w' hr=>Z48 w' x.sv x.sx _ (hr.at_ 3 rfl) (Z8t.1 k3).2.2 (by have:=hs.sessL;omega),?_⟩;simp only[QQ,ϐ,qy3,qy4];refine⟨λh7 w' hr=>⟨?_,hr.mod⟩,λh7=>⟨by omega,by omega,⟨_,i+1,rfl,by omega,λj hj=>?_⟩,by omega⟩⟩
        . have h8:¬hasS x.tel.sess (x.wants.getD i kD).1=ϒ:=λh=>by rw[atS,ϝ h]at h7;omega
          have:Z1m x.tel=ϒ:=by rw[Z1m,ϙ];exact .inl (Z7q kD (l:=x.wants) (i:=i) (by omega) (by simpa using h8))
          rw[ϝ this]
        . by_cases hij:j=i
          . subst hij;exact ϑ λh=>h7 (by rw[atS,ϛ h];decide)
          . exact hall j (by omega)
      have hie:i=x.wants.length:=by omega
      subst hie;have ha1:(x.tel.wants.any λw=>!hasS x.tel.sess w.1)=ϧ:=Zgz kD λj hj=>by rw[show hasS x.tel.sess (x.tel.wants.getD j kD).1=ϒ from hall j hj];rfl
      refine⟨λvs=>∃(y:V) (i:Nat),vs=[y,.i i]/\i<=x.wat.length/\∀j,j<i->hasK x.kept (x.wat.getD j wD_K).2.2.1=ϒ,λvs=>x.wat.length - (vs.getD 1 (.i 0)).toI.toNat,⟨_,0,rfl,by omega,λj hj=>by omega⟩,?_⟩;rintro _ - ⟨y1,i,rfl,hi1,hall1⟩;simp only[QQ,ϐ,qy3,qy4,Z1s];refine⟨λh6=>⟨by omega,?_⟩,λh6=>?_⟩
      . refine⟨[.i (if hasK x.kept (x.wat.getD i wD_K).2.2.1=ϒ then(idx x.kept (x.wat.getD i wD_K).2.2.1:Int)else -1)],rfl,λ_ w' hr=>Zi2 w' x.kv x.kept _ (hr.at_ 1 rfl) (Z11.1 k1).2.2 hs.keptL,?_⟩;simp only[QQ,ϐ,qy3,qy4];refine⟨λh7 w' hr=>⟨?_,hr.mod⟩,λh7=>⟨by omega,by omega,⟨_,i+1,rfl,by omega,λj hj=>?_⟩,by omega⟩⟩
        . have h8:¬hasK x.kept (x.wat.getD i wD_K).2.2.1=ϒ:=λh=>by rw[ϝ h]at h7;omega
          have:Z1m x.tel=ϒ:=by rw[Z1m,ϙ];exact .inr (Z7q wD_K (l:=x.wat) (i:=i) (by omega) (by rw[show hasK x.tel.kept (x.wat.getD i wD_K).2.2.1=ϧ from Ϥ.2 h8];rfl))
          rw[ϝ this]
        . by_cases hij:j=i
          . subst hij;exact ϑ λh=>h7 (by rw[ϛ h];decide)
          . exact hall1 j (by omega)
      have hie:i=x.wat.length:=by omega
      subst hie;have ha2:(x.tel.wat.any λw=>!hasK x.tel.kept w.2.2.1)=ϧ:=Zgz wD_K λj hj=>by rw[show hasK x.tel.kept (x.tel.wat.getD j wD_K).2.2.1=ϒ from hall1 j hj];rfl
      have hst:¬Z1m x.tel=ϒ:=by rw[Z1m,ha1,ha2];decide
      rw[ϛ hst];refine⟨λh7 w' hr=>⟨by rw[ϝ (by omega)],hr.mod⟩,λh7 w' hr=>⟨by rw[ϛ (by omega)],hr.mod⟩⟩
    . have hb:¬(Zl x.wants:Int)=0->chkB x.tel=Zl x.wants:=λh=>by rw[chkB,ϛ (qy9.2 (show chkK x.tel.kept=0 from h1)),ϝ (show ¬Zl x.tel.wants=0 from h)];rfl
      have hz:(Zl x.wants:Int)=0->chkK x.kept=0/\Zl x.wants=0/\¬6<(x.sx.length:Int):=λh=>⟨h1,h,λh3=>h2 ⟨h,h3⟩⟩
      refine⟨λvs=>∃(e:Int) (i:Nat),vs=[.i e,.i i]/\CbI x (Zl x.wants) e i,λvs=>x.sx.length - (vs.getD 1 (.i 0)).toI.toNat,⟨_,0,rfl,ϥ _,λ_=>rfl,λ_=>⟨λ_=>rfl,λh=>ϟ (by assumption) h⟩⟩,?_⟩;rintro _ - ⟨e,i,rfl,hg⟩;have hi:=hg.1;simp only[QQ,ϐ,qy3,qy4,gSx0];have hi1:((i:Int) - 1).toNat=i - 1:=by omega
      try rw[hi1]
      refine⟨λh3=>⟨by omega,?_⟩,λh3=>⟨λh4=>?_,λh4 w' hr=>⟨by rw[hg.out hb hz h4],hr.mod⟩⟩⟩
      . have hi':i<x.sx.length:=by omega
        have he:e=0:=h3.2;subst he;obtain⟨n1,n2,n3⟩:=hg.next hi';have hrow:=Z57 hi';obtain⟨s1,s2,s3,s4,s5⟩:=hs.sess _ (Z58 hi');refine⟨[.i (chkS (x.sx.getD i sxD).1)],rfl,λ_ w' hr=>?_,?_⟩
        . have hn:=Zy (by rw[<- ho];exact hr.at_ 4 rfl:(Z3 x.sx []).holds w') (Z58 hi');refine Zb (Z87 w' (x.sx.getD i sxD).1 (x.sx.getD i sxD).2.1 (x.sx.getD i sxD).2.2 hn.1 hn.2 s1 s2 s3 s4 s5) ?_;simp only[QQ,ϐ,qy3,qy4,hrow,Ze,Ϙ,Ϡ,Value.gI,Value.gB,Value.gS,Zv,sesV]
        simp only[QQ,ϐ,qy3,qy4,gSx0];try rw[hi1]
        refine⟨by omega,by omega,by omega,by omega,[.b (Z5 (x.sx.getD (i - 1) sxD).1.cl (x.sx.getD i sxD).1.cl)],rfl,λhgd w' _=>Z1q w' _ _ (by
          have h8:i - 1<x.sx.length:=by omega
          exact(hs.sess _ (Z58 h8)).2.2.2.2),?_⟩
        simp only[QQ,ϐ,qy3,qy4];refine⟨λh5=>⟨by omega,by omega,⟨4,i+1,rfl,n2 h5.1.1 h5.1.2 h5.2⟩,by omega⟩,λh5=>⟨by omega,by omega,⟨_,i+1,rfl,?_⟩,by omega⟩⟩;by_cases h6:chkS (x.sx.getD i sxD).1=0
        . rw[h6];exact n3 h6 λh7=>ϑ λh8=>h5 ⟨⟨h6,h7⟩,h8⟩
        . exact n1 h6
      have he:e=0:=h4;subst he;obtain⟨k1,k2,k3⟩:=hg.ok hz (by omega);rw[Zqe k1 k2 k3];refine⟨[.i (Z1d x.wat)],rfl,λ_ w' hr=>Z86 w' x.av x.wat (hr.at_ 5 rfl) hs.wat (by omega),?_⟩;simp only[QQ,ϐ,qy3,qy4];refine⟨λh5 w' hr=>⟨by rw[ϝ h5],hr.mod⟩,λh5=>?_⟩;rw[ϛ h5];refine⟨λvs=>∃(y:V) (i:Nat),vs=[y,.i i]/\i<=x.wants.length/\∀j,j<i->hasS x.tel.sess (x.wants.getD j kD).1=ϒ,λvs=>x.wants.length - (vs.getD 1 (.i 0)).toI.toNat,⟨_,0,rfl,by omega,λj hj=>by omega⟩,?_⟩;rintro _ - ⟨y0,i,rfl,hi,hall⟩;simp only[QQ,ϐ,qy3,qy4,gK0];refine⟨λh6=>⟨by omega,?_⟩,λh6=>?_⟩
      . refine⟨[.i (atS x.tel.sess (x.wants.getD i kD).1)],rfl,λ_ w' hr=>Z48 w' x.sv x.sx _ (hr.at_ 3 rfl) (Z8t.1 k3).2.2 (by have:=hs.sessL;omega),?_⟩;simp only[QQ,ϐ,qy3,qy4];refine⟨λh7 w' hr=>⟨?_,hr.mod⟩,λh7=>⟨by omega,by omega,⟨_,i+1,rfl,by omega,λj hj=>?_⟩,by omega⟩⟩
        . have h8:¬hasS x.tel.sess (x.wants.getD i kD).1=ϒ:=λh=>by rw[atS,ϝ h]at h7;omega
          have:Z1m x.tel=ϒ:=by rw[Z1m,ϙ];exact .inl (Z7q kD (l:=x.wants) (i:=i) (by omega) (by simpa using h8))
          rw[ϝ this]
        . by_cases hij:j=i
          . subst hij;exact ϑ λh=>h7 (by rw[atS,ϛ h];decide)
          . exact hall j (by omega)
      have hie:i=x.wants.length:=by omega
      subst hie;have ha1:(x.tel.wants.any λw=>!hasS x.tel.sess w.1)=ϧ:=Zgz kD λj hj=>by rw[show hasS x.tel.sess (x.tel.wants.getD j kD).1=ϒ from hall j hj];rfl
      refine⟨λvs=>∃(y:V) (i:Nat),vs=[y,.i i]/\i<=x.wat.length/\∀j,j<i->hasK x.kept (x.wat.getD j wD_K).2.2.1=ϒ,λvs=>x.wat.length - (vs.getD 1 (.i 0)).toI.toNat,⟨_,0,rfl,by omega,λj hj=>by omega⟩,?_⟩;rintro _ - ⟨y1,i,rfl,hi1,hall1⟩;simp only[QQ,ϐ,qy3,qy4,Z1s];refine⟨λh6=>⟨by omega,?_⟩,λh6=>?_⟩
      . refine⟨[.i (if hasK x.kept (x.wat.getD i wD_K).2.2.1=ϒ then(idx x.kept (x.wat.getD i wD_K).2.2.1:Int)else -1)],rfl,λ_ w' hr=>Zi2 w' x.kv x.kept _ (hr.at_ 1 rfl) (Z11.1 k1).2.2 hs.keptL,?_⟩;simp only[QQ,ϐ,qy3,qy4];refine⟨λh7 w' hr=>⟨?_,hr.mod⟩,λh7=>⟨by omega,by omega,⟨_,i+1,rfl,by omega,λj hj=>?_⟩,by omega⟩⟩
        . have h8:¬hasK x.kept (x.wat.getD i wD_K).2.2.1=ϒ:=λh=>by rw[ϝ h]at h7;omega
          have:Z1m x.tel=ϒ:=by rw[Z1m,ϙ];exact .inr (Z7q wD_K (l:=x.wat) (i:=i) (by omega) (by rw[show hasK x.tel.kept (x.wat.getD i wD_K).2.2.1=ϧ from Ϥ.2 h8];rfl))
          rw[ϝ this]
        . by_cases hij:j=i
          . subst hij;exact ϑ λh=>h7 (by rw[ϛ h];decide)
          . exact hall1 j (by omega)
      have hie:i=x.wat.length:=by omega
      subst hie;have ha2:(x.tel.wat.any λw=>!hasK x.tel.kept w.2.2.1)=ϧ:=Zgz wD_K λj hj=>by rw[show hasK x.tel.kept (x.tel.wat.getD j wD_K).2.2.1=ϒ from hall1 j hj];rfl
      have hst:¬Z1m x.tel=ϒ:=by rw[Z1m,ha1,ha2];decide
      rw[ϛ hst];refine⟨λh7 w' hr=>⟨by rw[ϝ (by omega)],hr.mod⟩,λh7 w' hr=>⟨by rw[ϛ (by omega)],hr.mod⟩⟩
  . have hb:¬(chkK x.kept:Int)=0->chkB x.tel=chkK x.kept:=λh=>by rw[chkB,ϝ (show ¬chkK x.tel.kept=0 from h)];rfl
    have hz:(chkK x.kept:Int)=0->chkK x.kept=0/\Zl x.wants=0/\¬6<(x.sx.length:Int):=λh=>ϟ h h1;refine⟨λvs=>∃(e:Int) (i:Nat),vs=[.i e,.i i]/\CbI x (chkK x.kept) e i,λvs=>x.sx.length - (vs.getD 1 (.i 0)).toI.toNat,⟨_,0,rfl,ϥ _,λ_=>rfl,λ_=>⟨λ_=>rfl,λh=>ϟ (by assumption) h⟩⟩,?_⟩;rintro _ - ⟨e,i,rfl,hg⟩;have hi:=hg.1;simp only[QQ,ϐ,qy3,qy4,gSx0];have hi1:((i:Int) - 1).toNat=i - 1:=by omega
    try rw[hi1]
    refine⟨λh3=>⟨by omega,?_⟩,λh3=>⟨λh4=>?_,λh4 w' hr=>⟨by rw[hg.out hb hz h4],hr.mod⟩⟩⟩
    . have hi':i<x.sx.length:=by omega
      have he:e=0:=h3.2;subst he;obtain⟨n1,n2,n3⟩:=hg.next hi';have hrow:=Z57 hi';obtain⟨s1,s2,s3,s4,s5⟩:=hs.sess _ (Z58 hi');refine⟨[.i (chkS (x.sx.getD i sxD).1)],rfl,λ_ w' hr=>?_,?_⟩
      . have hn:=Zy (by rw[<- ho];exact hr.at_ 4 rfl:(Z3 x.sx []).holds w') (Z58 hi');refine Zb (Z87 w' (x.sx.getD i sxD).1 (x.sx.getD i sxD).2.1 (x.sx.getD i sxD).2.2 hn.1 hn.2 s1 s2 s3 s4 s5) ?_;simp only[QQ,ϐ,qy3,qy4,hrow,Ze,Ϙ,Ϡ,Value.gI,Value.gB,Value.gS,Zv,sesV]
      simp only[QQ,ϐ,qy3,qy4,gSx0];try rw[hi1]
      refine⟨by omega,by omega,by omega,by omega,[.b (Z5 (x.sx.getD (i - 1) sxD).1.cl (x.sx.getD i sxD).1.cl)],rfl,λhgd w' _=>Z1q w' _ _ (by
        have h8:i - 1<x.sx.length:=by omega
        exact(hs.sess _ (Z58 h8)).2.2.2.2),?_⟩
      simp only[QQ,ϐ,qy3,qy4];refine⟨λh5=>⟨by omega,by omega,⟨4,i+1,rfl,n2 h5.1.1 h5.1.2 h5.2⟩,by omega⟩,λh5=>⟨by omega,by omega,⟨_,i+1,rfl,?_⟩,by omega⟩⟩;by_cases h6:chkS (x.sx.getD i sxD).1=0
      . rw[h6];exact n3 h6 λh7=>ϑ λh8=>h5 ⟨⟨h6,h7⟩,h8⟩
      . exact n1 h6
    have he:e=0:=h4;subst he;obtain⟨k1,k2,k3⟩:=hg.ok hz (by omega);rw[Zqe k1 k2 k3];refine⟨[.i (Z1d x.wat)],rfl,λ_ w' hr=>Z86 w' x.av x.wat (hr.at_ 5 rfl) hs.wat (by omega),?_⟩;simp only[QQ,ϐ,qy3,qy4];refine⟨λh5 w' hr=>⟨by rw[ϝ h5],hr.mod⟩,λh5=>?_⟩;rw[ϛ h5];refine⟨λvs=>∃(y:V) (i:Nat),vs=[y,.i i]/\i<=x.wants.length/\∀j,j<i->hasS x.tel.sess (x.wants.getD j kD).1=ϒ,λvs=>x.wants.length - (vs.getD 1 (.i 0)).toI.toNat,⟨_,0,rfl,by omega,λj hj=>by omega⟩,?_⟩;rintro _ - ⟨y0,i,rfl,hi,hall⟩;simp only[QQ,ϐ,qy3,qy4,gK0];refine⟨λh6=>⟨by omega,?_⟩,λh6=>?_⟩
    . refine⟨[.i (atS x.tel.sess (x.wants.getD i kD).1)],rfl,λ_ w' hr=>Z48 w' x.sv x.sx _ (hr.at_ 3 rfl) (Z8t.1 k3).2.2 (by have:=hs.sessL;omega),?_⟩;simp only[QQ,ϐ,qy3,qy4];refine⟨λh7 w' hr=>⟨?_,hr.mod⟩,λh7=>⟨by omega,by omega,⟨_,i+1,rfl,by omega,λj hj=>?_⟩,by omega⟩⟩
      . have h8:¬hasS x.tel.sess (x.wants.getD i kD).1=ϒ:=λh=>by rw[atS,ϝ h]at h7;omega
        have:Z1m x.tel=ϒ:=by rw[Z1m,ϙ];exact .inl (Z7q kD (l:=x.wants) (i:=i) (by omega) (by simpa using h8))
        rw[ϝ this]
      . by_cases hij:j=i
        . subst hij;exact ϑ λh=>h7 (by rw[atS,ϛ h];decide)
        . exact hall j (by omega)
    have hie:i=x.wants.length:=by omega
    subst hie;have ha1:(x.tel.wants.any λw=>!hasS x.tel.sess w.1)=ϧ:=Zgz kD λj hj=>by rw[show hasS x.tel.sess (x.tel.wants.getD j kD).1=ϒ from hall j hj];rfl
    refine⟨λvs=>∃(y:V) (i:Nat),vs=[y,.i i]/\i<=x.wat.length/\∀j,j<i->hasK x.kept (x.wat.getD j wD_K).2.2.1=ϒ,λvs=>x.wat.length - (vs.getD 1 (.i 0)).toI.toNat,⟨_,0,rfl,by omega,λj hj=>by omega⟩,?_⟩;rintro _ - ⟨y1,i,rfl,hi1,hall1⟩;simp only[QQ,ϐ,qy3,qy4,Z1s];refine⟨λh6=>⟨by omega,?_⟩,λh6=>?_⟩
    . refine⟨[.i (if hasK x.kept (x.wat.getD i wD_K).2.2.1=ϒ then(idx x.kept (x.wat.getD i wD_K).2.2.1:Int)else -1)],rfl,λ_ w' hr=>Zi2 w' x.kv x.kept _ (hr.at_ 1 rfl) (Z11.1 k1).2.2 hs.keptL,?_⟩;simp only[QQ,ϐ,qy3,qy4];refine⟨λh7 w' hr=>⟨?_,hr.mod⟩,λh7=>⟨by omega,by omega,⟨_,i+1,rfl,by omega,λj hj=>?_⟩,by omega⟩⟩
      . have h8:¬hasK x.kept (x.wat.getD i wD_K).2.2.1=ϒ:=λh=>by rw[ϝ h]at h7;omega
        have:Z1m x.tel=ϒ:=by rw[Z1m,ϙ];exact .inr (Z7q wD_K (l:=x.wat) (i:=i) (by omega) (by rw[show hasK x.tel.kept (x.wat.getD i wD_K).2.2.1=ϧ from Ϥ.2 h8];rfl))
        rw[ϝ this]
      . by_cases hij:j=i
        . subst hij;exact ϑ λh=>h7 (by rw[ϛ h];decide)
        . exact hall1 j (by omega)
    have hie:i=x.wat.length:=by omega
    subst hie;have ha2:(x.tel.wat.any λw=>!hasK x.tel.kept w.2.2.1)=ϧ:=Zgz wD_K λj hj=>by rw[show hasK x.tel.kept (x.tel.wat.getD j wD_K).2.2.1=ϒ from hall1 j hj];rfl
    have hst:¬Z1m x.tel=ϒ:=by rw[Z1m,ha1,ha2];decide
    rw[ϛ hst];refine⟨λh7 w' hr=>⟨by rw[ϝ (by omega)],hr.mod⟩,λh7 w' hr=>⟨by rw[ϛ (by omega)],hr.mod⟩⟩
def Z1gl{t u:Tel}(h:e=0->t=u):resB e t=resB e u:=by
 unfold resB;split
 ·rename_i h1;exact h h1
 ·rfl
def Znp(w:ϣ)(x y:TelX)(e:Int)(hx:RdX w x)(ox:reads w x.ov kSn (x.ox.map Zp))(hy:RdX w y)(oy:reads w y.ov kSn (y.ox.map Zp))(hs:SmlT x.tel)(h6:Zyf x.ox)(h7:x.ox.length<1000000000)(h0:x.tel=resB e y.tel): Ϯ ϓ 10 #[bkV x,sc1 x.ov,.int .i64 e,.int .i64 e,bkV y,sc1 y.ov] w λr w'=>r=.returned (.bool ϒ)/\Mod [] w w':=by
 refine Wu (J:=bkA x++([V.v x.ov,V.r (x.ox.map Zp),V.a (Z3 x.sx x.ox),V.i e,V.i e]++(bkA y++[V.v y.ov,V.r (y.ox.map Zp),V.a (Z3 y.sx y.ox)]))) Z8c (Rel.start2 (qy2.2 ⟨⟨hx.kept,rfl⟩,qy2.2 ⟨⟨hx.want,rfl⟩,qy2.2 ⟨⟨hx.sess,rfl⟩,qy2.2 ⟨⟨hx.nest,rfl⟩,qy2.2 ⟨⟨hx.wat,rfl⟩,qy2.2 ⟨⟨ox,rfl⟩,qy2.2 ⟨⟨hx.nest,rfl⟩,qy2.2 ⟨⟨hy.kept,rfl⟩,qy2.2 ⟨⟨hy.want,rfl⟩,qy2.2 ⟨⟨hy.sess,rfl⟩,qy2.2 ⟨⟨hy.nest,rfl⟩,qy2.2 ⟨⟨hy.wat,rfl⟩,qy2.2 ⟨⟨oy,rfl⟩,qy2.2 ⟨⟨hy.nest,rfl⟩,qy5 _⟩⟩⟩⟩⟩⟩⟩⟩⟩⟩⟩⟩⟩⟩)) ?_;simp only[QQ,ϐ,qy3,qy4];intro b28 b29;refine⟨λvs=>∃z:TelX,vs=[.i 0,.v z.ov,.v z.kv,.v z.wv,.v z.sv,.v z.av,.i z.next,.r (z.ox.map Zp),.r (z.kept.map encK),.r (z.wants.map encK),.r (z.sx.map Ze),.r (z.wat.map Z4)]/\z=if e=0 then y else Zlu,⟨λh=>⟨Zlu,rfl,by rw[ϛ h]⟩,λh=>⟨y,rfl,by rw[ϝ (qy9.1 h)]⟩⟩,?_⟩;rintro _ - ⟨z,rfl,hz⟩;simp only[QQ,ϐ,qy3,qy4];have hzt:z.tel=x.tel:=by rw[h0,hz,resB];split<;>rfl
 have hzn:∀{w':ϣ},(Z3 y.sx y.ox).holds w'->(Z3 z.sx z.ox).holds w':=λ{w'} h=>by
  rw[hz];split
  ·exact h
  ·exact Z6r w'
 refine⟨[.b ϒ],rfl,λh w' hr=>?_,?_⟩
 ·have hc:=Zh1 w' x z ⟨hr.at_ 7 rfl,hr.at_ 8 rfl,hr.at_ 9 rfl,hr.at_ 10 rfl,hr.at_ 11 rfl⟩ ⟨hr.at_ 1 rfl,hr.at_ 2 rfl,hr.at_ 3 rfl,hzn (hr.at_ 17 rfl),hr.at_ 4 rfl⟩ hs.b.keptL hs.b.wantsL hs.b.watL (by have:=hs.b.sessL;omega) hs.f;rw[show Zt3 x.tel z.tel=ϒ from Zt4.2 (by rw[hzt])]at hc;exact hc
 simp only[QQ,ϐ,qy3,qy4];refine⟨[.b ϒ],rfl,λh w' hr=>?_,?_⟩
 ·have hc:=Znn w' x.ov z.ov x.ox z.ox x.sx z.sx (hr.at_ 12 rfl) (hr.at_ 0 rfl) (hr.at_ 10 rfl) (hzn (hr.at_ 17 rfl)) h6 h7;rw[show Z16d (x.ox.map (·.1)) (z.ox.map (·.1))=ϒ from Zf3.2 (congrArg Tel.out hzt).symm]at hc;exact hc
 simp only[QQ,ϐ,qy3,qy4];intro w' hr;exact⟨by simp,hr.mod⟩
variable{y:TelX}
def Zys{t:Tel}(hy:y.tel=resB e t)(h:e=0->BOk t):SmlT y.tel:=by rw[hy];exact .res h
def Z1be{t:Tel}(hy:y.tel=resB e t)(h:e=0->Z27 t.out/\t.out.length<1000000000):Zyf y.ox/\y.ox.length<1000000000:=by
 have h1:y.ox.map (·.1)=(resB e t).out:=by rw[<- hy];rfl
 have h2:(resB e t).out.length<1000000000/\Z27 (resB e t).out:=by
  unfold resB;split
  ·rename_i h3;exact⟨(h h3).2,(h h3).1⟩
  ·exact⟨by decide,.nil⟩
 refine⟨Zt5 (by rw[h1];exact h2.2),?_⟩;have h3:=congrArg Ϭ h1;rw[qy3]at h3;omega
def Z1bf(t:Tel)(l:List Evt):runE t l=if ¬(if chkB t=0/\60<(l.length:Int)then 2 else chkB t)=0 then(if chkB t=0/\60<(l.length:Int)then 2 else chkB t)else evsE l:=by unfold runE;by_cases h1:chkB t=0<;>by_cases h2:60<(l.length:Int)<;>simp[h1,h2]
variable{j:Nat}
def Z1bg{rv:ϔ}(h:wlG y.bare rv j):wlG y rv j:=by
  rcases h with(h|h|h|h|h)|h|h
  . exact .inl (.inl h)
  . exact .inl (.inr (.inl h))
  . exact .inl (.inr (.inr (.inl h)))
  . exact .inl (.inr (.inr (.inr (.inl h))))
  . exact .inl (.inr (.inr (.inr (.inr (by
      rcases Z7.1 h with⟨t,ht,hk⟩|⟨t,ht,-⟩
      . exact Z7.2 (.inl ⟨t,ht,hk⟩)
      . cases ht)))))
  . exact .inr (.inl h)
  . exact ϟ h (Z4t j)
variable{l:List SesX}{o:List SntX}
def Z173{w:ϣ}(h:(Z3 l o).holds w):(Z3 [] o).holds w:=Z10 (λt ht=>(ϲ ht).elim) (λt ht=>.inl ht) h
def Znq(h:(Z3 [] o).fp j):(Z3 l o).fp j:=by
 rcases Z7.1 h with⟨t,ht,-⟩|⟨t,ht,hk⟩
 ·cases ht
 ·exact Z7.2 (.inr ⟨t,ht,hk⟩)
def Znr(h:(Z3 l []).fp j):(Z3 l o).fp j:=by
 rcases Z7.1 h with⟨t,ht,hk⟩|⟨t,ht,-⟩
 ·exact Z7.2 (.inl ⟨t,ht,hk⟩)
 ·cases ht
def Z1kh{B:Base}{J:List V}{hp:List Ent}{w:ϣ}(h:Rel B J hp w)(hb:hp.all (Ent.bd J.length)=ϒ)(k:Nat)(x:TelX)(r:List Ky)(rv:ϔ)(Jx:List V)(hA:(Z3 x.sx x.ox).holds w)(hf:∀j,(Z3 x.sx x.ox).fp j->∃e∈hp,e.wr=ϧ/\e.fp J j)(is:List Nat)(hn:is.Nodup)(hfp:Zh (wlA k x r rv++Jx) wlH=Zh (wlA k x r rv) wlH)(hs:(is.filterMap λi=>(Ent.st J.length::hp)[i]?).map (Ent.sem (J++[.a (Z3 x.sx x.ox)]))=wlH.map (Ent.sem (wlA k x r rv++Jx))):Rel ⟨Zh (wlA k x r rv) wlH,w⟩ (wlA k x r rv++Jx) wlH w:=by have h3:=(((h.gather hb _ hA hf).pick is hn).conv hs).base;rw[hfp]at h3;exact h3
def Z1gm(n:Nat)(w:ϣ):RdR n w Zlu [] (.slice Ϩ 0 0) :=
 ⟨Zq2 _ _,rfl,Z6 _ _,λj h=>ϟ rfl h,Z4c.2 ⟨Z6r w,Zye w⟩,λj h=>(Za8.1 h).elim (λh=>ϟ h (Zsx j)) (λh=>ϟ h (Zl1 j))⟩
def Z1ki(w:ϣ)(x:TelX)(lv:ϔ)(l:List Evt)(hx:RdX w x)(hr:Z15a w lv l)(ho:x.ox=[])(hs:SmlT x.tel)(hcl:∀e∈l,e.client.length<1099511627776)(hbl:∀e∈l,e.bytes.length<=30000000)(hll:l.length<1000000000): Ϯ ϓ 35 #[bkV x,sc1 lv] w λq w'=>Zvd w w' q (runE x.tel l) (if runE x.tel l=0 then { (runF l (x.tel,[])).1 with out:=[] }else telN) (if runE x.tel l=0 then Z1b1 l (x.tel,[])else[]):=by
  have hr0:Rel ⟨[],w⟩ (bkA x++[.v lv,.r (l.map Zsh)]) (bkH++[.rd 10 kEv (.var 11)]) w:=Rel.start2 (qy2.2 ⟨⟨hx.kept,rfl⟩,qy2.2 ⟨⟨hx.want,rfl⟩,qy2.2 ⟨⟨hx.sess,rfl⟩,qy2.2 ⟨⟨hx.nest,rfl⟩,qy2.2 ⟨⟨hx.wat,rfl⟩,qy2.2 ⟨⟨hr,rfl⟩,qy5 _⟩⟩⟩⟩⟩⟩);refine Wu Zlv hr0 ?_;simp only[QQ,ϐ,qy3,qy4];intro b12 b13;refine⟨[.i (chkB x.tel)],rfl,λ_ w' hr=>Z8y w' x (RdX.rel ⟨hr.at_ 3 rfl,hr.at_ 4 rfl,hr.at_ 5 rfl,hr.at_ 6 rfl,hr.at_ 7 rfl⟩) ho hs.b,?_⟩;simp only[QQ,ϐ,qy3,qy4];have hE:=Z1bf x.tel l;obtain⟨E,hEE⟩:∃E,E=runE x.tel l:=⟨_,rfl⟩
  rw[<- hEE]at hE⊢;obtain⟨n1,hn1⟩:∃n1,n1=if chkB x.tel=0/\60<(l.length:Int)then 2 else chkB x.tel:=⟨_,rfl⟩
  rw[<- hn1]at hE;refine⟨λvs=>vs=[.i n1],⟨λh=>by rw[hn1,ϝ h],λh=>by rw[hn1,ϛ h]⟩,?_⟩;rintro _ - rfl;simp only[QQ,ϐ,qy3,qy4];refine⟨λvs=>∃(n:Int) (i:Nat),vs=[.i n,.i i]/\i<=l.length/\(¬n=0->E=n)/\(n=0->E=evsE (l.drop i)),λvs=>l.length - (vs.getD 1 (.i 0)).toI.toNat,⟨n1,0,rfl,ϥ _,λh=>by rw[hE,ϝ h],λh=>by rw[hE,ϛ (qy9.2 h)];rfl⟩,?_⟩;rintro _ - ⟨n,i,rfl,hi,he1,he2⟩;simp only[QQ,ϐ,qy3,qy4,gEv0,gEv1,gEv2];refine⟨λh1=>?_,λh1=>?_⟩
  . have hi':i<l.length:=by omega
    have hm:l.getD i evD∈l:=by rw[qy1,qy7 hi'];exact ϳ hi'
    have hev:=he2 h1.2;rw[Z16i hi']at hev;refine⟨by omega,[.i (Z47 (l.getD i evD))],rfl,λ_ w' hr=>Z167 w' (l.getD i evD) (hcl _ hm),?_⟩;simp only[QQ,ϐ,qy3,qy4];refine⟨by omega,by omega,⟨_,i+1,rfl,by omega,λh=>by rw[hev,ϝ h],λh=>by rw[hev,ϛ (qy9.2 h)]⟩,by omega⟩
  refine⟨λh2 w3 hr3=>?_,λh2=>?_⟩
  . have hEn:=he1 h2;rw[hEn,ϛ h2,ϛ h2];exact⟨Zlu,[],.slice Ϩ 0 0,rfl,rfl,rfl,Z1gm _ _,hr3.mod⟩
  have h2:n=0:=qy9.1 h2;have hE0:E=0:=by rw[he2 h2,show i=l.length by omega,ϱ];rfl
  obtain⟨hB,h60,hall⟩:=Z1gd (hEE.symm.trans hE0);rw[hE0,ϝ rfl,ϝ rfl];clear hn1 he1 he2 hE hEE hE0;intro w1 hr1;refine(Zsy hr1 19 (Z15z w1 x (RdX.rel ⟨hr1.at_ 3 rfl,hr1.at_ 4 rfl,hr1.at_ 5 rfl,hr1.at_ 6 rfl,hr1.at_ 7 rfl⟩) hs.b.keptL hs.b.wantsL hs.b.watL hs.b.sessL hs.f) rfl).mono ?_;rintro q w2 ⟨⟨yk,yw,ys,ya,yn,yo,v1,v2,v3,v4,v5⟩,y1,y2,yf,rfl,m1,m3,m4⟩;simp only at y1;subst y1;have hz1:=hr1.mod.size;have hsn:∀j,Z1 v3 j->w.heap.size<=j:=λj hj=>((m3 (.row 23 58 kSx (.var 24)) (by simp[owEs])).2 j hj).elim (λh=>Ϛ hz1 h) (λh=>h.elim (λh=>by cases h.1) (λh=>by cases h));have han:∀j,Z1 v4 j->w.heap.size<=j:=λj hj=>((m3 (.row 25 68 kW_K (.var 26)) (by simp[owEs])).2 j hj).elim (λh=>Ϛ hz1 h) (λh=>h.elim (λh=>by cases h.1) (λh=>by cases h));refine⟨owA ⟨yk,yw,ys,ya,yn,[],v1,v2,v3,v4,v5⟩,rfl,rfl,m1,qy5 _,m3,m4,?_⟩;clear m1 m3 m4;have hyt:TelX.tel (⟨yk,yw,ys,ya,yn,[],v1,v2,v3,v4,.slice Ϩ 0 0⟩:TelX)=x.tel:=by rw[show TelX.tel (⟨yk,yw,ys,ya,yn,[],v1,v2,v3,v4,.slice Ϩ 0 0⟩:TelX)=TelX.tel ⟨yk,yw,ys,ya,yn,[],v1,v2,v3,v4,v5⟩ from rfl,y2];simp only[TelX.tel,ho,Ϻ]
  intro b29;refine⟨runA ys [],λw hr=>Z4c.2 ⟨hr.at_ 6 rfl,Zye w⟩,λj hj=>⟨_,qy6 (i:=6) rfl,rfl,(Za8.1 hj).elim id (λh=>ϟ h (Zl1 j))⟩,?_⟩;refine⟨λvs=>∃(i:Nat) (y:TelX) (L:List AllX) (av:ϔ) (r:List Ky) (rv:ϔ),vs=[.v av,.r (L.map Zt1),.i i,.a (runA y.sx L),.v y.kv,.r (y.kept.map encK),.v y.wv,.r (y.wants.map encK),.v y.sv,.r (y.sx.map Ze),.v y.av,.r (y.wat.map Z4),.i y.next,.v rv,.r (r.map Z2j),.v y.ov,.r (y.ox.map Zp)]/\i<=l.length/\(y.tel,r)=runF (l.take i) (x.tel,[])/\L.map (λt=>t.1.map (·.1))=Z1b1 (l.take i) (x.tel,[])/\(∀j,wlG y.bare rv j->w.heap.size<=j)/\∀j,(runA y.sx L).fp j->w.heap.size<=j,
    λvs=>l.length - (vs.getD 2 (.i 0)).toI.toNat,⟨0,(⟨yk,yw,ys,ya,yn,[],v1,v2,v3,v4,.slice Ϩ 0 0⟩:TelX),[],.slice Ϩ 0 0,[],.slice Ϩ 0 0,rfl,ϥ _,by rw[hyt];rfl,rfl,Zyj Z4t (λj h=>Ϛ hz1 (yf.1 j h)) (λj h=>Ϛ hz1 (yf.2.1 j h)) hsn han (λj h=>Ϛ hz1 (yf.2.2 j h)) (λj h=>ϟ h (Z4t j)),λj hj=>(Za8.1 hj).elim (λh=>Ϛ hz1 (yf.2.2 j h)) (λh=>ϟ h (Zl1 j))⟩,?_⟩
  rintro _ - ⟨i,y,L,av,r,rv,rfl,hi,hty,hsL,hnw,hnA⟩;have hrun:=Z1gc (l.take i) (x:=(x.tel,[])) (λe he=>hall e (List.mem_of_mem_take he)) hB (Zep.1 rfl);have hrln:=Zyi (l.take i) (x.tel,[]);rw[<- hty,Ϸ]at hrln;rw[<- hty]at hrun;obtain⟨hby,hry⟩:=hrun;have hLl:L.length<=60:=by have:=congrArg Ϭ hsL;rw[qy3,Z15b,Ϸ]at this;omega
  simp only[QQ,ϐ,qy3,qy4,gEv0,gEv1,gEv2];refine⟨λh3=>?_,λh3 w5 hr5=>?_⟩
  . have hi':i<l.length:=by omega
    have hm:l.getD i evD∈l:=by rw[qy1,qy7 hi'];exact ϳ hi'
    have hrs:=Z15c (fd:=feed) (dm:=dec) hi' (x.tel,[]);have hss:=Z10f (fd:=feed) (dm:=dec) hi' (x.tel,[]);rw[show runW feed dec (l.take i) (x.tel,[])=(y.tel,r) from hty.symm]at hrs;rw[show Zsi feed dec (l.take i) (x.tel,[])=L.map (λt=>t.1.map (·.1)) from hsL.symm,hrs]at hss;refine⟨by omega,λb49 w3 hr3=>?_⟩;have hc5:=Z1cq w3 b29 y.bare r rv (l.getD i evD) (Z1kh (Zq6 (hr3.pick [4,5,6,7,18,1,3] (by decide)) (by rfl) 130 kSn) (by rfl) b29 y.bare r rv [.s (l.getD i evD).client,.i (l.getD i evD).peer,.s (l.getD i evD).bytes] (Z4c.1 (hr3.at_ 1 rfl:(runA y.sx L).holds w3)).1 (λj hj=>⟨_,qy6 (i:=6) rfl,rfl,Za8.2 (.inl hj)⟩) [2,3,4,5,6,1,0,8] (by decide) rfl rfl) (hby.out []) hry (hall _ hm) (by simp only[Ϧ]at hrln;omega) (show 0<10000000000 by decide) (hbl _ hm);refine(Z1it (k:=b29) (x:=y.bare) hr3 50 29 [45] hc5 rfl rfl (by show 29<50;decide) (λj hj=>?_) (λj hj=>?_)).mono ?_
    . rcases hj with hj|hj
      . exact Z14 (i:=45) (by simp) hj
      . exact ϟ hj (Z4t j)
    . rcases hj with hj|hj|hj|hj|hj
      . exact .inl (qE 4 rfl rfl hj)
      . exact .inl (qE 5 rfl rfl hj)
      . exact .inl (qE 6 rfl rfl hj)
      . exact .inl (qE 7 rfl rfl hj)
      . exact .inl ⟨_,qy6 (i:=1) rfl,rfl,Za8.2 (.inl hj)⟩
    rintro q w6 ⟨z,r',rw',hz,hsz,hg,rfl,m1,m2,m3,m4⟩;refine⟨wlV z r' rw',rfl,rfl,m1,m2,m3,m4,?_⟩;have hz3:=hr3.mod.size;clear m1 m2 m3 m4 hc5;have hn:∀j,wlG z rw' j->w.heap.size<=j:=λj hj=>(hg j hj).elim (λh=>Ϛ hz3 h) (hnw j);have hz':(z.tel,r')=oneW feed dec (y.tel,r) (l.getD i evD):=hz;intro v64;refine⟨by(first|omega|(simp only[qy11,qy3,Ϝ,Ϧ];omega)),λv65=>⟨by omega,by omega,?_⟩⟩;refine⟨runA z.sx (L++[(z.ox,z.ov)]),λw hr=>Z4c.2 ⟨Z2k (y:=z) (hr.at_ 8 rfl),Z168 (t:=(z.ox,z.ov)) (Z4c.1 (hr.at_ 10 rfl:(runA y.sx L).holds w)).2 (hr.at_ 7 rfl) (Z173 (hr.at_ 8 rfl))⟩,λj hj=>?_,⟨i+1,z,L++[(z.ox,z.ov)],v65,r',rw',by rw[ϸ];rfl,by omega,hz'.trans hrs.symm,?_,λj hj=>hn j (Z1bg hj),λj hj=>?_⟩,by omega⟩
    . rcases Za8.1 hj with h|h
      . exact(qE 8 rfl rfl (Znr h))
      . rcases Z169 h with h|h|h
        . exact⟨_,qy6 (i:=10) rfl,rfl,Za8.2 (.inr h)⟩
        . exact(qE 7 rfl rfl h)
        . exact(qE 8 rfl rfl (Znq h))
    . rw[show Z1b1 (l.take (i+1)) (x.tel,[])=_ from hss,<- hz'];simp only[ϸ,ϯ,Ϻ];rfl
    . rcases Za8.1 hj with h|h
      . exact hn j (.inl (.inr (.inr (.inr (.inr (Znr h))))))
      . rcases Z169 h with h|h|h
        . exact hnA j (Za8.2 (.inr h))
        . exact hn j (.inr (.inr h.2))
        . exact hn j (.inl (.inr (.inr (.inr (.inr (Znq h))))))
  . obtain rfl:i=l.length:=by omega
    rw[List.take_length]at hty hsL;exact⟨y.bare,L,av,rfl,by rw[Zif,<- hty],hsL,⟨Z16l (z:=y.bare) hnw (hr5.at_ 3 rfl) (hr5.at_ 4 rfl) (hr5.at_ 5 rfl) (hr5.at_ 6 rfl) (Z6 _ _) (Z4c.1 (hr5.at_ 0 rfl:(runA y.sx L).holds w5)).1,rfl,(hr5.at_ 1 rfl:owns _ _ _ _ _).reads,λj _ h=>Z2v hr5 1 rfl j h,hr5.at_ 0 rfl,hnA⟩,hr5.mod⟩
abbrev pbC(p:Pkt):List V:=[.i p.kind,.b p.dup,.b p.retain,.b p.clean,.b p.session,.i p.qos,.i p.id,.i p.keep,.i p.code,.s p.client,.s p.topic,.s p.payload,.v (.slice Ϩ 0 0),.r [],.v (.slice Ϩ 0 0),.r []]
abbrev bg1:Tel×List Ky:=(smT,[(annC,[50,9,0,3])])
abbrev bg2:Tel:=Zx annC pubP smT
def Zqf(h:y.tel=smT):y.bare.tel=smT:=by rw[Zif,h];rfl
def st_1(w:ϣ)(y:TelX)(hx:RdX w y.bare)(ht:y.tel=smT):Ϯ ϓ 4 #[bkV y,sc1 (.slice Ϩ 0 0),evV ev1] w λq w'=>Zq7 w w' q 0 bg1:=by have hb:=Zqf ht;have hc:=Z16m w y.bare (.slice Ϩ 0 0) [] ev1 hx (Z6 _ _) rfl (by rw[hb];exact Zq9) (λa ha=>by cases ha) (by decide) (by decide) (by decide);rw[hb,show stpE smT [] ev1=0 by rw[Z16j (Z35.1 Zgk) (Zep.1 rfl)];exact Zt7.1,resW,ϝ rfl,beg1]at hc;exact hc
def st_2(w:ϣ)(y:TelX)(rv:ϔ)(hx:RdX w y.bare)(hr:Zgy w rv [(annC,[50,9,0,3])])(ht:y.tel=smT):Ϯ ϓ 4 #[bkV y,sc1 rv,evV ev2] w λq w'=>Zq7 w w' q 0 (bg2,[]):=by have hb:=Zqf ht;have hc:=Z16m w y.bare rv [(annC,[50,9,0,3])] ev2 hx hr rfl (by rw[hb];exact Zq9) (λa ha=>by rw[qy12.1 ha];decide) (by show 1<1000000;decide) (by decide) (by decide);rw[hb,show stpE smT [(annC,[50,9,0,3])] ev2=0 by rw[Z16j (Z35.1 Zgk) (Zep.1 Zt7.2.2)];exact Zt7.2.1,resW,ϝ rfl,beg2]at hc;exact hc
def rn_1(w:ϣ)(y:TelX)(lv:ϔ)(hx:RdX w y.bare)(hl:Z15a w lv [ev1,ev2])(ht:y.tel=smT):Ϯ ϓ 35 #[bkV y,sc1 lv] w λq w'=>Zvd w w' q 0 { bg2 with out:=[] } [[],bg2.out]:=by
 have hb:=Zqf ht;have h2:∀e∈[ev1,ev2],Z47 e=0/\e.client.length<1099511627776/\e.bytes.length<=30000000:=λe he=>by
  rcases ϖ.1 he with rfl|he
  ·exact⟨Zt7.1,by decide,by decide⟩
  ·rw[qy12.1 he];exact⟨Zt7.2.1,by decide,by decide⟩
 have hc:=Z1ki w y.bare lv [ev1,ev2] hx hl rfl (by rw[hb];exact Zq9) (λe he=>(h2 e he).2.1) (λe he=>(h2 e he).2.2) (by show 2<1000000000;decide);have hr1:runW feed dec [ev1] (smT,[])=bg1:=beg1 smT;have hr2:runW feed dec [ev1,ev2] (smT,[])=(bg2,[]):=by
  show Z5v ev2 ({ (Z5v ev1 (smT,[])).1 with out:=[] },(Z5v ev1 (smT,[])).2)=_
  rw[beg1];exact beg2 smT
 have hr3:Z1b1 [ev1,ev2] (smT,[])=[[],bg2.out]:=by
  show[(runW feed dec [ev1] (smT,[])).1.out,(runW feed dec [ev1,ev2] (smT,[])).1.out]=_
  rw[hr1,hr2];rfl
 rw[hb,show runE smT [ev1,ev2]=0 by rw[runE,ϛ (qy9.2 Zgk),ϛ (by decide)];exact Zvg.2 λe he=>(h2 e he).1,ϝ rfl,ϝ rfl,hr3,show runF [ev1,ev2] (smT,[])=(bg2,[]) from hr2]at hc;exact hc
def Z1gn(w:ϣ)(zs:List SesX)(L:List AllX)(i:Nat)(yv:ϔ)(b:List SntX)(sy:List SesX)(hR:(runA zs L).holds w)(hb:reads w yv kSn (b.map Zp))(hn:(Z3 sy b).holds w)(hi:i<L.length)(he:(L.getD i alD).1.map (·.1)=b.map (·.1))(hk:Z27 (b.map (·.1)))(hl:b.length<1000000000): Ϯ ϓ 37 #[sc1 (((L.map Zt1).getD i []).getD 0 undef),sc1 yv] w λe w'=>e=.returned (.bool ϒ)/\Mod [] w w':=by have hA:=Z1g8 (Z4c.1 hR).2 (Z1kc hi);have hc:=Znn w (L.getD i alD).2 yv (L.getD i alD).1 b [] sy hA.1 hb hA.2 hn (Zt5 (by rw[he];exact hk)) (by have:=congrArg Ϭ he;rw[qy3,qy3]at this;omega);rw[Zf3.2 he]at hc;refine Zb hc ?_;rw[Z1kb hi];simp only[Zt1,Ϙ,Zv]
def Zh4(w:ϣ):Ϯ ϓ 9 #[] w λe w'=>e=.returned (.bool ϒ)/\Mod [] w w':=by
 refine Wp (J:=[]) Z6y ?_;simp only[QQ,ϐ,qy3,qy4];intro w1 hr1;refine(Z1k8 w1).mono ?_;rintro r w2 ⟨rfl,m1⟩;refine⟨pbC pubP,rfl,rfl,m1,qy5 _,qy2.2 ⟨⟨Z6 w2 _,λk hk=>ϟ rfl hk.1⟩,qy2.2 ⟨⟨Z6 w2 _,λk hk=>ϟ rfl hk.1⟩,qy5 _⟩⟩,Za7 (by simp[Ent.wr]),?_⟩;clear m1 hr1;refine⟨[.s (if chkP pubP=0 then Z2e pubP else[]),.i (chkP pubP)],rfl,λ_ w' hr=>Z15f w' pubP nilV nilV (Zbn _) (Zfz _) Z10i,?_⟩;simp only[QQ,ϐ,qy3,qy4,Zv1,if_true,Z10h];refine⟨λh=>ϟ h (by decide),λ_=>?_⟩;refine⟨λvs=>∃(y z:TelX) (r:List Ky) (rv:ϔ) (b:Nat),vs=[.v y.kv,.r (y.kept.map encK),.v y.wv,.r (y.wants.map encK),.v y.sv,.r (y.sx.map Ze),.v y.av,.r (y.wat.map Z4),.i y.next,.a (Z3 z.sx z.ox)]++(spV z r rv 0++[.n b])/\(z.tel,r)=bg1,⟨by decide,?_,?_⟩,?_⟩
 ·intro w3 hr;refine(Zl3 hr 18 (Zd8 w3) rfl).mono ?_;rintro q w4 ⟨y,ty,-,-,rfl,m1,m3,m4⟩;refine⟨smV y,rfl,rfl,m1,qy5 _,m3,m4,?_⟩;clear hr m1 m3 m4;refine⟨?_,?_⟩
  ·intro w3 hr;refine(Zno hr 28 (st_1 w3 y ⟨hr.at_ 0 rfl,hr.at_ 1 rfl,hr.at_ 2 rfl,Z2k (y:=y) (hr.at_ 4 rfl),hr.at_ 3 rfl⟩ ty) rfl).mono ?_;rintro q w4 ⟨z,r,rv,hz,-,rfl,m1,m3,m4⟩;exact⟨spV z r rv 0,rfl,rfl,m1,qy5 _,m3,m4,λb=>⟨y,z,r,rv,b,rfl,hz⟩⟩
  ·intro b w3 hr;refine(Zno hr 29 (st_1 w3 y ⟨hr.at_ 1 rfl,hr.at_ 2 rfl,hr.at_ 3 rfl,Z2k (y:=y) (hr.at_ 5 rfl),hr.at_ 4 rfl⟩ ty) rfl).mono ?_;rintro q w4 ⟨z,r,rv,hz,-,rfl,m1,m3,m4⟩;exact⟨spV z r rv 0,rfl,rfl,m1,qy5 _,m3,m4,y,z,r,rv,b,rfl,hz⟩
 ·intro b;intro w3 hr;refine(Zl3 hr 19 (Zd8 w3) rfl).mono ?_;rintro q w4 ⟨y,ty,-,-,rfl,m1,m3,m4⟩;refine⟨smV y,rfl,rfl,m1,qy5 _,m3,m4,?_⟩;clear hr m1 m3 m4;intro w3 hr;refine(Zno hr 29 (st_1 w3 y ⟨hr.at_ 0 rfl,hr.at_ 1 rfl,hr.at_ 2 rfl,Z2k (y:=y) (hr.at_ 4 rfl),hr.at_ 3 rfl⟩ ty) rfl).mono ?_;rintro q w4 ⟨z,r,rv,hz,-,rfl,m1,m3,m4⟩;exact⟨spV z r rv 0,rfl,rfl,m1,qy5 _,m3,m4,y,z,r,rv,b,rfl,hz⟩
 rintro _ - ⟨y1,y,r2,rv2,b2,rfl,hy⟩;obtain⟨ty,hr2⟩:=Prod.mk.inj hy;subst hr2;refine⟨λvs=>∃(z:TelX) (r:List Ky) (rv:ϔ) (b:Nat),vs=spV z r rv 0++[.n b]/\(z.tel,r)=(bg2,[]),⟨by decide,?_,?_⟩,?_⟩
 ·intro w3 hr;refine(Zno hr 44 (st_2 w3 y rv2 ⟨hr.at_ 1 rfl,hr.at_ 2 rfl,hr.at_ 3 rfl,Z2k (y:=y) (hr.at_ 7 rfl),hr.at_ 4 rfl⟩ (hr.at_ 5 rfl) ty) rfl).mono ?_;rintro q w4 ⟨z,r,rv,hz,-,rfl,m1,m3,m4⟩;exact⟨spV z r rv 0,rfl,rfl,m1,qy5 _,m3,m4,λb=>⟨z,r,rv,b,rfl,hz⟩⟩
 ·intro b w3 hr;refine(Zno hr 45 (st_2 w3 y rv2 ⟨hr.at_ 2 rfl,hr.at_ 3 rfl,hr.at_ 4 rfl,Z2k (y:=y) (hr.at_ 8 rfl),hr.at_ 5 rfl⟩ (hr.at_ 6 rfl) ty) rfl).mono ?_;rintro q w4 ⟨z,r,rv,hz,-,rfl,m1,m3,m4⟩;exact⟨spV z r rv 0,rfl,rfl,m1,qy5 _,m3,m4,z,r,rv,b,rfl,hz⟩
 rintro _ - ⟨y3,r3,rv3,b3,rfl,hy3⟩;obtain⟨t3,hr3⟩:=Prod.mk.inj hy3;subst hr3;refine⟨λvs=>∃(y z:TelX) (L:List AllX) (av ev:ϔ) (b:Nat),vs=[.v y.kv,.r (y.kept.map encK),.v y.wv,.r (y.wants.map encK),.v y.sv,.r (y.sx.map Ze),.v y.av,.r (y.wat.map Z4),.i y.next,.a (runA z.sx L),.v ev]++(rnV z L av 0++[.n b])/\z.tel={ bg2 with out:=[] }/\L.map (λt=>t.1.map (·.1))=[[],bg2.out]/\z.ox=[],⟨by decide,?_,?_,?_⟩,?_⟩
 ·intro w3 hr;refine(Zl3 hr 60 (Zd8 w3) rfl).mono ?_;rintro q w4 ⟨y,ty,-,-,rfl,m1,m3,m4⟩;refine⟨smV y,rfl,rfl,m1,qy5 _,m3,m4,?_⟩;clear hr m1 m3 m4;refine⟨?_,?_⟩
  ·intro ev;refine⟨?_,?_⟩
   ·intro w3 hr;refine(Zh2 hr 71 (rn_1 w3 y ev ⟨hr.at_ 1 rfl,hr.at_ 2 rfl,hr.at_ 3 rfl,Z2k (y:=y) (hr.at_ 5 rfl),hr.at_ 4 rfl⟩ (owns.reads (hr.at_ 0 rfl)) ty) rfl).mono ?_;rintro q w4 ⟨z,L,av,tz,tL,oz,rfl,m1,m3,m4⟩;exact⟨rnV z L av 0,rfl,rfl,m1,qy5 _,m3,m4,λb=>⟨y,z,L,av,ev,b,rfl,tz,tL,oz⟩⟩
   ·intro b;intro w3 hr;refine(Zh2 hr 72 (rn_1 w3 y ev ⟨hr.at_ 2 rfl,hr.at_ 3 rfl,hr.at_ 4 rfl,Z2k (y:=y) (hr.at_ 6 rfl),hr.at_ 5 rfl⟩ (owns.reads (hr.at_ 1 rfl)) ty) rfl).mono ?_;rintro q w4 ⟨z,L,av,tz,tL,oz,rfl,m1,m3,m4⟩;exact⟨rnV z L av 0,rfl,rfl,m1,qy5 _,m3,m4,y,z,L,av,ev,b,rfl,tz,tL,oz⟩
  ·intro b ev;intro w3 hr;refine(Zh2 hr 72 (rn_1 w3 y ev ⟨hr.at_ 2 rfl,hr.at_ 3 rfl,hr.at_ 4 rfl,Z2k (y:=y) (hr.at_ 6 rfl),hr.at_ 5 rfl⟩ (owns.reads (hr.at_ 0 rfl)) ty) rfl).mono ?_;rintro q w4 ⟨z,L,av,tz,tL,oz,rfl,m1,m3,m4⟩;exact⟨rnV z L av 0,rfl,rfl,m1,qy5 _,m3,m4,y,z,L,av,ev,b,rfl,tz,tL,oz⟩
 ·intro ev;refine⟨?_,?_⟩
  ·intro w3 hr;refine(Zl3 hr 61 (Zd8 w3) rfl).mono ?_;rintro q w4 ⟨y,ty,-,-,rfl,m1,m3,m4⟩;refine⟨smV y,rfl,rfl,m1,qy5 _,m3,m4,?_⟩;clear hr m1 m3 m4;refine⟨?_,?_⟩
   ·intro w3 hr;refine(Zh2 hr 71 (rn_1 w3 y ev ⟨hr.at_ 0 rfl,hr.at_ 1 rfl,hr.at_ 2 rfl,Z2k (y:=y) (hr.at_ 4 rfl),hr.at_ 3 rfl⟩ (owns.reads (hr.at_ 5 rfl)) ty) rfl).mono ?_;rintro q w4 ⟨z,L,av,tz,tL,oz,rfl,m1,m3,m4⟩;exact⟨rnV z L av 0,rfl,rfl,m1,qy5 _,m3,m4,λb=>⟨y,z,L,av,ev,b,rfl,tz,tL,oz⟩⟩
   ·intro b;intro w3 hr;refine(Zh2 hr 72 (rn_1 w3 y ev ⟨hr.at_ 1 rfl,hr.at_ 2 rfl,hr.at_ 3 rfl,Z2k (y:=y) (hr.at_ 5 rfl),hr.at_ 4 rfl⟩ (owns.reads (hr.at_ 6 rfl)) ty) rfl).mono ?_;rintro q w4 ⟨z,L,av,tz,tL,oz,rfl,m1,m3,m4⟩;exact⟨rnV z L av 0,rfl,rfl,m1,qy5 _,m3,m4,y,z,L,av,ev,b,rfl,tz,tL,oz⟩
  ·intro b;intro w3 hr;refine(Zl3 hr 62 (Zd8 w3) rfl).mono ?_;rintro q w4 ⟨y,ty,-,-,rfl,m1,m3,m4⟩;refine⟨smV y,rfl,rfl,m1,qy5 _,m3,m4,?_⟩;clear hr m1 m3 m4;intro w3 hr;refine(Zh2 hr 72 (rn_1 w3 y ev ⟨hr.at_ 0 rfl,hr.at_ 1 rfl,hr.at_ 2 rfl,Z2k (y:=y) (hr.at_ 4 rfl),hr.at_ 3 rfl⟩ (owns.reads (hr.at_ 6 rfl)) ty) rfl).mono ?_;rintro q w4 ⟨z,L,av,tz,tL,oz,rfl,m1,m3,m4⟩;exact⟨rnV z L av 0,rfl,rfl,m1,qy5 _,m3,m4,y,z,L,av,ev,b,rfl,tz,tL,oz⟩
 ·intro b;refine⟨?_,?_⟩
  ·intro w3 hr;refine(Zl3 hr 61 (Zd8 w3) rfl).mono ?_;rintro q w4 ⟨y,ty,-,-,rfl,m1,m3,m4⟩;refine⟨smV y,rfl,rfl,m1,qy5 _,m3,m4,?_⟩;clear hr m1 m3 m4;intro ev;intro w3 hr;refine(Zh2 hr 72 (rn_1 w3 y ev ⟨hr.at_ 1 rfl,hr.at_ 2 rfl,hr.at_ 3 rfl,Z2k (y:=y) (hr.at_ 5 rfl),hr.at_ 4 rfl⟩ (owns.reads (hr.at_ 0 rfl)) ty) rfl).mono ?_;rintro q w4 ⟨z,L,av,tz,tL,oz,rfl,m1,m3,m4⟩;exact⟨rnV z L av 0,rfl,rfl,m1,qy5 _,m3,m4,y,z,L,av,ev,b,rfl,tz,tL,oz⟩
  ·intro ev;intro w3 hr;refine(Zl3 hr 62 (Zd8 w3) rfl).mono ?_;rintro q w4 ⟨y,ty,-,-,rfl,m1,m3,m4⟩;refine⟨smV y,rfl,rfl,m1,qy5 _,m3,m4,?_⟩;clear hr m1 m3 m4;intro w3 hr;refine(Zh2 hr 72 (rn_1 w3 y ev ⟨hr.at_ 0 rfl,hr.at_ 1 rfl,hr.at_ 2 rfl,Z2k (y:=y) (hr.at_ 4 rfl),hr.at_ 3 rfl⟩ (owns.reads (hr.at_ 5 rfl)) ty) rfl).mono ?_;rintro q w4 ⟨z,L,av,tz,tL,oz,rfl,m1,m3,m4⟩;exact⟨rnV z L av 0,rfl,rfl,m1,qy5 _,m3,m4,y,z,L,av,ev,b,rfl,tz,tL,oz⟩
 rintro _ - ⟨y4,z,L,av,ev,b4,rfl,tz,tL,oz⟩;simp only[QQ,ϐ,qy3,qy4];have hB3:BOk bg2:=(Zbq (Z35.1 Zgk) (by decide) Zv1).1;have hl2:L.length=2:=by have:=congrArg Ϭ tL;simpa using this
 have e1:y.ox=[]:=List.map_eq_nil_iff.1 (show y.ox.map (·.1)=[] from congrArg Tel.out ty);have e3:y3.ox.length=3:=by have h1:=congrArg (λt:Tel=>t.out.length) t3;simp only[TelX.tel,qy3]at h1;rw[h1];exact Z1gg
 have s3:SmlT y3.bare.tel:=.of (by rw[Zif,t3];exact hB3.out []);have o3:Z27 (y3.ox.map (·.1)):=by have h1:=congrArg Tel.out t3;rw[show y3.ox.map (·.1)=y3.tel.out from rfl,t3];exact Zkh (Z35.1 Zgk) (by decide) Zv1 .nil
 refine⟨[.b ϒ],rfl,λ_ w' hr=>?_,?_⟩
 ·have hc:=Zh1 w' y3.bare z ⟨hr.at_ 14 rfl,hr.at_ 15 rfl,hr.at_ 16 rfl,Z2k (y:=y3) (hr.at_ 20 rfl),hr.at_ 17 rfl⟩ ⟨hr.at_ 1 rfl,hr.at_ 2 rfl,hr.at_ 3 rfl,by rw[oz];exact(Z4c.1 (hr.at_ 6 rfl:(runA z.sx L).holds w')).1,hr.at_ 4 rfl⟩ s3.b.keptL s3.b.wantsL s3.b.watL (by have:=s3.b.sessL;omega) s3.f;rw[show Zt3 y3.bare.tel z.tel=ϒ from Zt4.2 (by rw[Zif,t3,tz])]at hc;exact hc
 simp only[QQ,ϐ,qy3,qy4,e1,e3,hl2];have hL1:(L.getD 1 alD).1.map (·.1)=bg2.out:=by have h1:=congrArg (λl:List (List Snt)=>l.getD 1 []) tL;simp only[Ϡ,Ϙ]at h1;rw[<- h1,qy1,qy1,ϰ,qy7 (by omega)];rfl
 refine⟨.inr (by decide),[.b ϒ],rfl,λ_ w' hr=>?_,?_⟩
 ·have e9:y3.ox.map (·.1)=bg2.out:=congrArg Tel.out t3;exact Zb (Z1gn w' z.sx L 1 y3.ov y3.ox y3.sx (hr.at_ 6 rfl) (hr.at_ 19 rfl) (hr.at_ 20 rfl) (by omega) (hL1.trans e9.symm) o3 (by omega)) rfl
 simp only[QQ,ϐ,qy3,qy4,e1,e3,hl2];exact λw' hr=>⟨by simp,hr.mod⟩
def Z1jb{P:Program}{f:Nat}{args:Array ϔ}{w:ϣ}{B:Base}{J:List V}{hp:List Ent}{k:Nat}{rv:ϔ}{r:List Ky}{T:Tel×List Ky}(h0:Rel B J hp w)(n vk:Nat)(h:Ϯ P f args w λe w1=>Z171 w w1 e k x rv r T)(hn:J.length=n)(hk:J.getD vk (.i 0)=.n k)(hv:vk<J.length)(hov:x.ov=.slice Ϩ 0 0)(hO:∀j,dlF x j\/Z1gk rv r j->∃y∈hp,y.wr=ϧ/\y.fp J j): Ϯ P f args w λe w1=>∃(y:TelX) (r':List Ky) (u:ϔ),(y.tel,r')=T/\e=.returned (sc1 u)/\Mod (Zn J [vk] []) w w1/\(∀x∈dlMs vk (n+2),x.holds (J++([.v u,.r (r'.map Z2j)]++tlV y)) w1) /\ (∀x∈.rd n kR (.var (n+1))::dlEs (n+2),x.holds (J++([.v u,.r (r'.map Z2j)]++tlV y)) w1/\∀k,x.fp (J++([.v u,.r (r'.map Z2j)]++tlV y)) k->w.heap.size<=k\/(x.wr=ϧ/\∃y∈hp,y.wr=ϧ/\y.fp J k)\/k∈Zq J [])/\Zt (J++([.v u,.r (r'.map Z2j)]++tlV y)) (.rd n kR (.var (n+1))::dlEs (n+2)):=by
 have hnb:∀j,¬Z1 x.ov j:=λj hj=>by rw[hov]at hj;cases hj
 refine h.mono ?_;rintro e w1 ⟨y,r',u,he,hT,hq,hg,hu⟩;obtain⟨a1,a2,a3,a4⟩:=Z1cr (pre:=[.v u,.r (r'.map Z2j)]) (F:=λ_=>False) h0 (n+2) vk [] ((hq.pick [0,1,2,3,4,5,6] (by decide)).conv rfl) hg (by rw[<- hn];rfl) hk hv (λj hj=>ϟ hj (hnb j)) λj hj=>.inl (hO j (hj.elim .inl λh=>h.elim));have g:=Zd7 (vs:=[V.v u,V.r (r'.map Z2j)]++tlV y) hn;have g0:(J++([V.v u,V.r (r'.map Z2j)]++tlV y)).getD n (.i 0)=.v u:=g 0;have g1:(J++([V.v u,V.r (r'.map Z2j)]++tlV y)).getD (n+1) (.i 0)=.r (r'.map Z2j):=g 1;refine⟨y,r',u,hT,he,a1,a2,qy2.2 ⟨⟨?_,λj hj=>?_⟩,a3⟩,List.pairwise_cons.2 ⟨λe he hw j h1 h2=>?_,a4⟩⟩
 ·simp only[Ent.holds,X.ev,g0,g1];exact hq.at_ 7 rfl
 ·simp only[Ent.fp,X.ev,g0,g1]at hj;rcases hu j hj with h|h|h
  ·exact .inl h
  ·exact ϟ h (hnb j)
  ·exact .inr (.inl ⟨rfl,hO j (.inr h)⟩)
 ·simp only[Ent.fp,X.ev,g0,g1]at h1;simp only[dlEs,ϖ,ϲ,or_false]at he;rcases he with rfl|rfl|rfl|rfl|rfl|rfl;iterate 4 (rcases hw with hw|hw<;>cases hw)
  ·simp only[Ent.fp,g 11]at h2;exact hq.sep.disj (i:=4) (j:=7) rfl rfl (by decide) (.inl rfl) (k:=j) h2 h1
  ·rcases hw with hw|hw<;>cases hw
def Ztf(w:ϣ)(x:TelX)(rv:ϔ)(r:List Ky)(e:Evt)(hx:RdX w x)(hr:Zgy w rv r)(ho:x.ox=[])(hs:SmlT x.tel)(hrs:∀a∈r,a.1.length<1099511627776)(hrl:r.length<1000000)(hc:e.client.length<1099511627776)(hl:e.bytes.length<=4000000): Ϯ ϓ 3 #[bkV x,sc1 rv,evV e] w λe w'=>e=.returned (.bool ϒ)/\Mod [] w w':=by
 obtain⟨xk,xw,xs,xa,xn,xo,v1,v2,v3,v4,v5⟩:=x;simp only at ho;subst ho;have hr0:Rel ⟨[],w⟩ (bkA ⟨xk,xw,xs,xa,xn,[],v1,v2,v3,v4,v5⟩++[.v rv,.r (r.map Z2j),.s e.client,.i e.peer,.s e.bytes]) (bkH++[.rd 10 kR (.var 11)]) w:=Rel.start2 (qy2.2 ⟨⟨hx.kept,rfl⟩,qy2.2 ⟨⟨hx.want,rfl⟩,qy2.2 ⟨⟨hx.sess,rfl⟩,qy2.2 ⟨⟨hx.nest,rfl⟩,qy2.2 ⟨⟨hx.wat,rfl⟩,qy2.2 ⟨⟨hr,rfl⟩,qy5 _⟩⟩⟩⟩⟩⟩);refine Wu Z6u hr0 ?_;simp only[QQ,ϐ,qy3,qy4];obtain⟨t,ht⟩:∃t:Tel,t=TelX.tel ⟨xk,xw,xs,xa,xn,[],v1,v2,v3,v4,v5⟩:=⟨_,rfl⟩
 have hto:t.out=[]:=by rw[ht];rfl
 have htb:TelX.tel ⟨xk,xw,xs,xa,xn,[],v1,v2,v3,v4,.slice Ϩ 0 0⟩=t:=by rw[ht];rfl
 intro b15 b16 w1 hr1;have hq:=Z16m w1 ⟨xk,xw,xs,xa,xn,[],v1,v2,v3,v4,v5⟩ rv r e ⟨hr1.at_ 2 rfl,hr1.at_ 3 rfl,hr1.at_ 4 rfl,hr1.at_ 5 rfl,hr1.at_ 6 rfl⟩ (hr1.at_ 7 rfl) rfl hs hrs hrl hc (by omega);rw[<- ht]at hq;obtain⟨E,hE⟩:∃E,E=stpE t r e:=⟨_,rfl⟩
 rw[<- hE]at hq;refine(Zno hr1 17 hq rfl).mono ?_;rintro q w2 ⟨y,r1,u1,hy,-,rfl,m1,m3,m4⟩;refine⟨spV y r1 u1 E,rfl,rfl,m1,qy5 _,m3,m4,?_⟩;clear m1 m3 m4 hr1 hq;intro b32;refine⟨[.i (chkB t)],rfl,λ_ w' hr=>by rw[ht];exact Zlx w' ⟨xk,xw,xs,xa,xn,[],v1,v2,v3,v4,v5⟩ ⟨hr.at_ 10 rfl,hr.at_ 11 rfl,hr.at_ 12 rfl,hr.at_ 13 rfl,hr.at_ 14 rfl⟩ rfl hs.b,?_⟩;simp only[QQ,ϐ,qy3,qy4];obtain⟨n1,hn1⟩:∃n1,n1=if ¬chkB t=0 then chkB t else chkR r:=⟨_,rfl⟩
 refine⟨λvs=>vs=[.i 0,.i n1],⟨λh=>?_,λh=>?_⟩,?_⟩
 ·refine⟨[.i (chkR r)],rfl,λ_ w' hr=>Zt8 w' rv r (hr.at_ 15 rfl) hrs (by omega),?_⟩;simp only[QQ,ϐ,qy3,qy4];rw[hn1,ϛ (qy9.2 h)]
 ·rw[hn1,ϝ h]
 rintro _ - rfl;simp only[QQ,ϐ,qy3,qy4];rw[Zig,<- hn1]at hE;refine⟨λvs=>vs=[.i 0,.i E],⟨λh=>?_,λh=>?_⟩,?_⟩
 ·refine⟨[.i (Z47 e)],rfl,λ_ w' hr=>Zt9 w' e hc,?_⟩;simp only[QQ,ϐ,qy3,qy4];rw[hE,ϛ (qy9.2 h)]
 ·rw[hE,ϝ h]
 rintro _ - rfl;simp only[QQ,ϐ,qy3,qy4];have hE1:E=0->BOk t/\ROk r/\Z47 e=0:=λh=>Z16k (by rw[Zig,<- hn1,<- hE,h]);have P1:E=0->BOk (Z5v e (t,r)).1/\Z27 (Z5v e (t,r)).1.out/\(Z5v e (t,r)).1.out.length<1000000000:=λh=>by obtain⟨hB,hR,hV⟩:=hE1 h;obtain⟨s1,-,s3,s4⟩:=Z1aq hV (x:=(t,r)) hB hR;simp only[hto,Ϧ]at s3;exact⟨s1,s4 (by rw[hto];exact .nil),by omega⟩
 have t1:y.tel=resB E (Z5v e (t,r)).1:=by have:=congrArg Prod.fst hy;rw[resW]at this;rw[resB];split at this<;>(rename_i h;first|rw[ϝ h] | rw[ϛ h])<;>exact this
 obtain⟨o1,o2⟩:=Z1be t1 λh=>(P1 h).2;have hrl1:r1.length<1000000000:=by
  have h1:=congrArg (λz:Tel×List Ky=>z.2.length) hy;have h2:=Zsv (fd:=feed) (dm:=dec) e (t,r);simp only[resW]at h1;split at h1
  ·rw[h1];simp only at h2;show(Zar feed dec e (t,r)).2.length<_;omega
  ·rw[h1];decide
 intro b38;refine⟨λh0=>?_,λh0=>?_⟩
 ·obtain⟨hB,hR,hV⟩:=hE1 h0;intro w3 hr3;have hc3:=Z1bd w3 b38 ⟨xk,xw,xs,xa,xn,[],v1,v2,v3,v4,.slice Ϩ 0 0⟩ r rv e ((((Zq6 (hr3.pick [12,13,14,16,15,1,17] (by decide)) (by rfl) 130 kSn).pick [1,2,3,4,0,5,6,7] (by decide)).conv rfl).base.conv rfl) (by rw[htb];exact hB) hR hV hrl (show 0<1000000 by decide) (by omega);rw[htb]at hc3;refine(Z1jb hr3 40 38 hc3 rfl rfl (by simp) rfl λj hj=>?_).mono ?_
  ·rcases hj with(hj|hj|hj|hj|hj)|hj
   ·exact(qE 12 rfl rfl hj)
   ·exact(qE 13 rfl rfl hj)
   ·exact(qE 14 rfl rfl hj)
   ·exact(qE 16 rfl rfl hj)
   ·exact(qE 15 rfl rfl hj)
   ·exact(qE 17 rfl rfl hj)
  rintro q w4 ⟨z,r2,u2,hz,rfl,m1,m2,m3,m4⟩;refine⟨[V.v u2,V.r (r2.map Z2j)]++tlV z,rfl,rfl,m1,m2,m3,m4,?_⟩;clear m1 m2 m3 m4 hr3 hc3;refine⟨[.b ϒ],rfl,λ_ w' _=>Zh4 w',?_⟩;simp only[QQ,ϐ,qy3,qy4];have hyz:(y.tel,r1)=(z.tel,r2):=by rw[hy,hz,resW,ϝ h0]
  refine⟨[.b ϒ],rfl,λh w' hr=>?_,?_⟩
  ·exact Znp w' y z E ⟨hr.at_ 10 rfl,hr.at_ 11 rfl,hr.at_ 12 rfl,hr.at_ 16 rfl,hr.at_ 13 rfl⟩ (hr.at_ 15 rfl) ⟨hr.at_ 1 rfl,hr.at_ 2 rfl,hr.at_ 3 rfl,hr.at_ 6 rfl,hr.at_ 4 rfl⟩ (hr.at_ 5 rfl).reads (Zys t1 λh=>(P1 h).1) o1 o2 (by rw[resB,ϝ h0];exact congrArg Prod.fst hyz)
  simp only[QQ,ϐ,qy3,qy4];refine⟨[.b ϒ],rfl,λh w' hr=>?_,?_⟩
  ·have hc:=Zl6 w' u1 u2 r1 r2 (hr.at_ 14 rfl) (hr.at_ 0 rfl) hrl1;rw[decide_eq_true (congrArg Prod.snd hyz:r1=r2)]at hc;exact hc
  simp only[QQ,ϐ,qy3,qy4];exact λw' hr=>⟨by simp,hr.mod⟩
 ·refine⟨[.b ϒ],rfl,λ_ w' _=>Zh4 w',?_⟩;simp only[QQ,ϐ,qy3,qy4];refine⟨[.b ϒ],rfl,λh w' hr=>?_,?_⟩
  ·exact Znp w' y ⟨xk,xw,xs,xa,xn,[],v1,v2,v3,v4,.slice Ϩ 0 0⟩ E ⟨hr.at_ 3 rfl,hr.at_ 4 rfl,hr.at_ 5 rfl,hr.at_ 9 rfl,hr.at_ 6 rfl⟩ (hr.at_ 8 rfl) ⟨hr.at_ 12 rfl,hr.at_ 13 rfl,hr.at_ 14 rfl,hr.at_ 15 rfl,hr.at_ 16 rfl⟩ (Z6 _ _) (Zys t1 λh=>(P1 h).1) o1 o2 (t1.trans (Z1gl λh=>ϟ h h0))
  simp only[QQ,ϐ,qy3,qy4];refine⟨[.b ϒ],rfl,λh w' hr=>?_,?_⟩
  ·have hr0:r1=[]:=by
    have:=congrArg Prod.snd hy;rw[resW,ϛ h0]at this;exact this
   have hc:=Zl6 w' u1 (.slice Ϩ 0 0) r1 [] (hr.at_ 7 rfl) (Z6 _ _) hrl1;rw[decide_eq_true hr0]at hc;exact hc
  simp only[QQ,ϐ,qy3,qy4];exact λw' hr=>⟨by simp,hr.mod⟩
end Go.Proofs.Y
namespace Go.Sx
open Go Go.ChangeShapes Go.WideShapes Go.ChangeAt Go.RowKit
section
variable {H:Type} {enc:TypeId×ϔ->H} {P:Program}
def Z1jc(P:Program)(ts:List TypeId):Bool:=ts.all λt=>match P.underlying t with|some (.slice e)=>decide (0<P.cellsOf e)|_=>ϒ
def Z174(P:Program)(ts:List TypeId):Bool:=ts.all λt=>match P.underlying t with
 | some (.slice e)=>ts.contains e
 | some (.pointer e)=>ts.contains e
 | some (.array _ e)=>ts.contains e
 | some (.map _ e)=>ts.contains e
 | some (.struct fs)=>fs.toList.all λf=>ts.contains f.type
 | _=>ϒ
def Z1go(hl:laidOutB P=ϒ)(hm:mapsRowed P=ϒ){ts:List TypeId}(hc:Z174 P ts=ϒ)(hs:ts.all (λt=>decide (t<P.types.size))=ϒ):Kids P (·∈ts):=by
 have K:=kids_rows hl hm;have hs':∀t∈ts,t<P.types.size:=λt ht=>by simpa using Ϟ.1 hs t ht
 have hc':=λt ht=>Ϟ.1 hc t ht;refine⟨λ{t e} ht hu=>?_,λ{t e} ht hu=>?_,λ{t e n} ht hu=>⟨?_,(K.array (hs' t ht) hu).2⟩,λ{t fs} ht hu=>⟨?_,(K.struct (hs' t ht) hu).2⟩,λ{t k e} ht hu=>?_⟩
 ·have:=hc' t ht;rw[hu]at this;simpa using this
 ·have:=hc' t ht;rw[hu]at this;simpa using this
 ·have:=hc' t ht;rw[hu]at this;simpa using this
 ·have:=hc' t ht;rw[hu]at this;simp only[Ϟ]at this;exact λf hf=>by simpa using this f hf
 ·have:=hc' t ht;rw[hu]at this;simpa using this
def Zla{w w':ϣ}{p:MemPlace}(h:w'.heap[p.block]?=w.heap[p.block]?):w.sameAt w' p:=by
 cases p with
 | cell b off=>exact World.cell?_of_block h
 | map b=>exact h
def Zf5{w w':ϣ}{sp:Nat->Bool}{T:TypeId->Prop}(K:Kids P T)(hsz:∀{t e:TypeId},T t->P.underlying t=ϕ (.slice e)->0<P.cellsOf e) : ∀{ts:List TypeId} {vs:List ϔ} {ds:List (DataW H)} {ps:List MemPlace},(∀t∈ts,T t)->DataW.TrodAll enc P w 0 (λ_=>ϒ) ϒ ts vs ds ps -> (∀p∈ps,w.sameAt w' p)->(∀p∈ps,sp p.block=ϒ)->DataW.TrodAll enc P w' 0 sp ϒ ts vs ds ps
 | [],_,_,_,_,h,_,_=>by obtain⟨rfl,rfl,rfl⟩:=trodAll_nil h;exact trodAll_mk0
 | t::ts,_,_,_,ht,h,hs,hp=>by
  obtain⟨v,vs1,d,ds1,a,b,rfl,rfl,rfl,h1,h2⟩:=trodAll_cons h;obtain⟨n,h1⟩:=h1;exact⟨a,b,⟨n,DataW.trod_stays K hsz (λh=>by cases h) (ht t (qy8 ..)) h1 (λp hp'=>hs p (ϭ _ hp')) (λp hp'=>hp p (ϭ _ hp'))⟩,
   Zf5 K hsz (λu hu=>ht u (qy10 _ hu)) h2 (λp hp'=>hs p (ϫ _ hp')) (λp hp'=>hp p (ϫ _ hp')),rfl⟩
def Z1bh{f:Func}{s:ChangeSpec}{fresh handsOn again:Bool}{W W':ϣ}{args:Array ϔ}{ds gs:List (DataW H)}{before:List MemPlace}{tb:TypeId}(ts:List TypeId)(hW:DataW.Whole enc P f.params.toList s.vars ϧ W args.toList ds gs before)(hv:s.vars=[])(hr:f.resultTypes=#[tb])(htb:P.underlying tb=ϕ .bool)(hfn:gs=[]->(s.fn H ds).results=[.lit (.bool ϒ)]/\(s.fn H ds).args=ds/\(s.fn H ds).vars=[])(hl:laidOutB P=ϒ)(hm:mapsRowed P=ϒ)(hc:Z174 P ts=ϒ)(hs:ts.all (λt=>decide (t<P.types.size))=ϒ)(hz:Z1jc P ts=ϒ)(hp:f.params.toList.all ts.contains=ϒ)(h:Mod [] W W'):s.post enc P f ϧ fresh handsOn again W args (.bool ϒ) W':=by
 have hW':=hW;have hlt:=hW.lt;obtain⟨p,q,hA,hV,rfl,hfz,hn⟩:=hW;rw[hv]at hV;obtain⟨rfl,rfl⟩:=trodVars_none hV;obtain⟨f1,f2,f3⟩:=hfn rfl;have K:=Z1go hl hm hc hs;have hsz:∀{t e:TypeId},t∈ts->P.underlying t=ϕ (.slice e)->0<P.cellsOf e:=λ{t e} ht hu=>by have:=Ϟ.1 hz t ht;rw[hu]at this;simpa using this
 have hT:∀t∈f.params.toList,t∈ts:=λt ht=>by simpa using Ϟ.1 hp t ht
 have hblk:∀k,k<W.heap.size->W'.heap[k]?=W.heap[k]?:=λk hk=>h.block k hk (by simp);have hsame:∀x∈p,W.sameAt W' x:=λx hx=>Zla (hblk _ (hlt x (by simpa using hx)));have hargs:∀sp:Nat->Bool,(∀x∈p,sp x.block=ϒ)->DataW.TrodAll enc P W' 0 sp ϒ f.params.toList args.toList (s.fn H (ds++[])).args p:=λsp hsp=>by rw[Ϣ,f2];exact Zf5 K hsz hT hA hsame hsp
 have hres:∀(b:Nat) (sp:Nat->Bool) (hd:Bool),DataW.TrodAll enc P W' b sp hd f.resultTypes.toList ((Value.bool ϒ).resultList f.resultTypes.size) (s.fn H (ds++[])).results []:=λb sp hd=>by rw[Ϣ,f1,hr];exact trodAll_cons_mk (shut_bool htb _) trodAll_mk0
 have hvars:∀sp:Nat->Bool,DataW.TrodVars enc P W' sp s.vars (s.fn H (ds++[])).vars []:=λsp=>by rw[Ϣ,f3,hv];rfl
 have hold:∀x∈p,(λb=>decide (b<W.heap.size)) x.block=ϒ:=λx hx=>by simpa using hlt x (by simpa using hx)
 refine⟨ds,[],p++[],[],p,[],hW',hres _ _ _,hargs _ hold,hvars _,⟨h.os,h.output,λi hi=>?_⟩,λ_=>⟨?_,[.lit (.bool ϒ)]++ds,[],([]++p)++[],⟨[]++p,[],trodAll_append (by have:=hargs (λ_=>ϒ) (λ_ _=>rfl);rw[Ϣ,f2]at this;exact this) (by have:=hres 0 (λ_=>ϒ) ϒ;rw[Ϣ,f1]at this;exact this),by rw[hv];rfl,rfl,?_,by simp⟩,?_⟩⟩
 ·have e:=hblk i hi;rw[e];cases W.heap[i]? with
  | none=>rfl
  | some o=>cases o<;>simp
 ·exact ok_one hr rfl (okWide_bool_mk htb _)
 ·intro b off hb;have hb:MemPlace.cell b off∈p:=by simpa using hb
  have hlt':=hlt _ (show MemPlace.cell b off∈p++[] by simpa using hb);have:=hfz b off (by simpa using hb);simp only[World.frozen?,hblk b hlt']at this⊢;exact this
 ·intro x hx _;simpa using hx
end
section
variable {H:Type} {enc:TypeId×ϔ->H} {P:Program} {w:ϣ} {sp:Nat->Bool}
structure Bulk(B:DataW H->Nat):Prop where
 agg:∀l:List (DataW H),(l.map B).sum<=B (.agg l)
 slice:∀l r:List (DataW H),(l.map B).sum+1<=B (.slice l r)
 str:∀s:List UInt8,s.length+1<=B (.lit (.string s))
 one:∀d:DataW H,1<=B d
def Zlb(P:Program)(g:TypeId->Option (List (TypeId×Kd))):List Field->Nat->Option (List (TypeId×Kd))
 | [],_=>ϕ []
 | f::fs,off=>do
  let l <- g f.type
  let r <- Zlb P g fs (off+l.length)
  if f.offset=off/\P.cellsOf f.type=l.length then ϕ (l++r)else Ϩ
def Z5d(P:Program):Nat->TypeId->Option (List (TypeId×Kd))
 | 0,_=>Ϩ
 | f+1,t=>match P.underlying t with
  | some .bool=>ϕ [(t,.bool)]
  | some (.int k)=>ϕ [(t,.int k)]
  | some .string=>ϕ [(t,.str)]
  | some (.slice _)=>ϕ [(t,.oth)]
  | some (.struct fs)=>match Zlb P (Z5d P f) fs.toList 0 with
   | some l=>if P.cellsOf t=l.length then ϕ l else Ϩ
   | none=>Ϩ
  | _=>Ϩ
def Z7r(enc:TypeId×ϔ->H)(P:Program)(w:ϣ)(sp:Nat->Bool)(B:DataW H->Nat)(l:TypeId×Kd)(c:ϔ)(b:Nat):Prop :=
 l.2.ok c/\∃n d ps,DataW.trod enc P w 0 sp ϒ n l.1 [c]=ϕ (d,ps)/\B d<=b
inductive Lv (enc:TypeId×Value->H) (P:Program) (w:World) (sp:Nat->Bool) (B:DataW H->Nat):List (TypeId×Kd)->List Value->Nat->Prop
 | nil (b:Nat):Lv enc P w sp B [] [] b
 | cons {l:TypeId×Kd} {ls:List (TypeId×Kd)} {c:Value} {cs:List Value} {b1 b2 b:Nat}:Z7r enc P w sp B l c b1->Lv enc P w sp B ls cs b2->b1+b2<=b->Lv enc P w sp B (l::ls) (c::cs) b
variable {B:DataW H->Nat}
variable{cs:List ϔ}{b:Nat}
def Lv.mono{ls:List (TypeId×Kd)}{b':Nat}(h:Lv enc P w sp B ls cs b)(hb:b<=b'):Lv enc P w sp B ls cs b':=by
 cases h with
 | nil=>exact .nil _
 | cons h1 h2 h3=>exact .cons h1 h2 (by omega)
def Lv.append{l2:List (TypeId×Kd)}{c2:List ϔ}{b2:Nat}(h':Lv enc P w sp B l2 c2 b2):∀{l1:List (TypeId×Kd)} {c1:List ϔ} {b1:Nat},Lv enc P w sp B l1 c1 b1->Lv enc P w sp B (l1++l2) (c1++c2) (b1+b2):=by
 intro l1 c1 b1 h;induction h with
 | nil b=>exact h'.mono (by omega)
 | cons h1 h2 h3 ih=>exact .cons h1 ih (by omega)
def Lv.rowOk{ls:List (TypeId×Kd)}(h:Lv enc P w sp B ls cs b):rowOk (ls.map (·.2)) cs:=by
 induction h with
 | nil=>trivial
 | cons h1 h2 h3 ih=>exact⟨h1.1,ih⟩
def Zns{g:TypeId->Option (List (TypeId×Kd))}{cs:List ϔ}{n:Nat}(hg:∀t l cs x,g t=ϕ l->DataW.trod enc P w 0 sp ϒ n t cs=ϕ x->Lv enc P w sp B l cs (B x.1)) : ∀{fs:List Field} {xs:List (DataW H×List MemPlace)} {off:Nat} {l:List (TypeId×Kd)},Zlb P g fs off=ϕ l->xs.length=fs.length -> (∀(i:Nat) (f:Field),fs[i]?=ϕ f->DataW.trod enc P w 0 sp ϒ n f.type ((cs.drop f.offset).take (P.cellsOf f.type))=xs[i]?)->off+l.length<=cs.length -> Lv enc P w sp B l ((cs.drop off).take l.length) ((xs.map λx=>B x.1).sum)
 | [],[],off,l,h,_,_,_=>by simp[Zlb]at h;subst h;simp;exact .nil _
 | f::fs,[],off,l,h,hl,_,_=>by simp at hl
 | [],x::xs,off,l,h,hl,_,_=>by simp at hl
 | f::fs,x::xs,off,l,h,hl,hx,hc=>by
  simp only[Zlb,Option.bind_eq_bind,Ϫ,Option.ite_none_right_eq_some,Option.some.injEq]at h;obtain⟨l1,h1,l2,h2,⟨ho,hcs⟩,rfl⟩:=h;have hx0:=hx 0 f rfl;simp only[List.getElem?_cons_zero]at hx0;rw[ho,hcs]at hx0;have i1:=hg _ _ _ _ h1 hx0;simp only[qy11]at hc;have i2:=Zns hg (xs:=xs) h2 (by simpa using hl) (λi f' hf=>by have:=hx (i+1) f' (by simpa using hf);simpa using this) (by omega);have e:(cs.drop off).take (l1++l2).length=(cs.drop off).take l1.length++(cs.drop (off+l1.length)).take l2.length:=by rw[qy11,<- List.drop_drop,List.take_add]
  rw[e];exact i2.append i1
def Zf6(hB:Bulk B):∀(f:Nat) {t:TypeId} {l:List (TypeId×Kd)} {n:Nat} {cs:List ϔ} {x:DataW H×List MemPlace},Z5d P f t=ϕ l->DataW.trod enc P w 0 sp ϒ n t cs=ϕ x->Lv enc P w sp B l cs (B x.1)
 | 0,t,l,n,cs,x,h,_=>by simp[Z5d]at h
 | f+1,t,l,n,cs,x,h,hx=>by
  simp only[Z5d]at h;have one:∀(k:Kd) (c:ϔ),cs=[c]->k.ok c->Lv enc P w sp B [(t,k)] cs (B x.1):=λk c hc hk=>by subst hc;exact .cons ⟨hk,n,x.1,x.2,hx,Nat.le_refl _⟩ (.nil 0) (by omega)
  split at h
  ·rename_i hu;simp at h;subst h;obtain⟨b,rfl,-⟩:=DataW.trod_bool hu hx;exact one _ _ rfl ⟨b,rfl⟩
  ·rename_i k hu;simp at h;subst h;obtain⟨m,rfl,-⟩:=DataW.trod_int hu hx;exact one _ _ rfl ⟨m,rfl⟩
  ·rename_i hu;simp at h;subst h;obtain⟨⟨⟨s⟩⟩,rfl,-⟩:=DataW.trod_string hu hx;exact one _ _ rfl ⟨s,rfl⟩
  ·rename_i e hu;simp at h;subst h;rcases DataW.trod_slice hu hx with⟨rfl,-⟩|⟨a,len,cap,elems,rest,m,-,rfl,-⟩
   ·exact one _ _ rfl rfl
   ·exact one _ _ rfl rfl
  ·rename_i fs hu;split at h
   ·rename_i l' hl;split at h
    ·rename_i hc;simp at h;subst h;obtain⟨xs,m,rfl,rfl,hcl,hxl,hf⟩:=DataW.trod_struct hu hx;have:=Zns (cs:=cs) (λt l cs x=>Zf6 hB f (t:=t) (l:=l) (n:=m) (cs:=cs) (x:=x)) hl (by simpa using hxl) (λi f hi=>hf i f (by simpa using hi)) (by omega);rw[List.drop_zero,List.take_of_length_le (by omega)]at this;refine this.mono ?_;have:=hB.agg (xs.map (·.1));rw[ϻ]at this;exact this
    ·cases h
   ·cases h
  ·cases h
variable{t:TypeId}{v:ϔ}
def Za9(hB:Bulk B){f n:Nat}{e:TypeId}{ls:List (TypeId×Kd)}{x:DataW H×List MemPlace}(hu:P.underlying t=ϕ (.slice e))(hl:Z5d P f e=ϕ ls)(hc:P.cellsOf e=ls.length)(hpos:0<ls.length)(hx:DataW.trod enc P w 0 sp ϒ n t [v]=ϕ x): ∃(rows:List (List ϔ)) (bs:List Nat),reads w v (ls.map (·.2)) rows/\bs.length=rows.length/\(∀(i:Nat) r b,rows[i]?=ϕ r->bs[i]?=ϕ b->Lv enc P w sp B ls r b)/\bs.sum+1<=B x.1:=by
 rcases DataW.trod_slice hu hx with⟨hv,rfl⟩|⟨a,len,cap,elems,rest,m,-,hv,rfl,-,hlc,hcm,hel,hget,-⟩
 ·simp only[Ϲ.injEq,and_true]at hv;subst hv;exact⟨[],[],⟨by simp,Ϩ,0,rfl,⟨λ_=>rfl,by simp⟩,by simp⟩,rfl,by simp,by simpa using hB.one _⟩
 ·simp only[Ϲ.injEq,and_true]at hv;subst hv;rw[hc]at hget;have hrow:∀i,i<len->∃r y,w.cells? 0 (a.add (i*ls.length)) ls.length=ϕ r/\elems[i]?=ϕ y/\DataW.trod enc P w 0 sp ϒ m e r=ϕ y:=λi hi=>by
   have h1:=hget i hi;have h2:elems[i]?=ϕ (elems[i]'(by omega)):=qy7 (by omega);rw[h2,Ϫ]at h1;obtain⟨r,h3,h4⟩:=h1;exact⟨r,_,h3,h2,h4⟩
  let rows:=(List.range len).map λi=>(w.cells? 0 (a.add (i*ls.length)) ls.length).getD []
  have hrl:rows.length=len:=by simp[rows]
  have hri:∀i,i<len->∃r y,rows[i]?=ϕ r/\w.cells? 0 (a.add (i*ls.length)) ls.length=ϕ r/\elems[i]?=ϕ y/\Lv enc P w sp B ls r (B y.1):=λi hi=>by obtain⟨r,y,h1,h2,h3⟩:=hrow i hi;exact⟨r,y,by simp[rows,List.getElem?_range hi,h1],h1,h2,Zf6 hB f hl h3⟩
  have hlen:∀r∈rows,r.length=(ls.map (·.2)).length/\rowOk (ls.map (·.2)) r:=λr hr=>by obtain⟨i,hi,hri'⟩:=List.getElem_of_mem hr;obtain⟨r',y,h1,h2,h3,h4⟩:=hri i (by omega);rw[qy7 hi,hri']at h1;simp at h1;subst h1;exact⟨h4.rowOk.length,h4.rowOk⟩
  refine⟨rows,elems.map λy=>B y.1,⟨λr hr=>(hlen r hr).2,ϕ a,cap,by rw[hrl],⟨(λh=>by cases h),by omega⟩,λhne=>⟨a,rfl,λj u hj=>?_⟩⟩,by simp[hrl,hel],λi r b hr hb=>?_,?_⟩
  ·have hL:(ls.map (·.2)).length=ls.length:=by simp
   have hfl:=Zk (λr hr=>(hlen r hr).1);have hjl:j<rows.length*ls.length:=by have:=(ϩ.1 hj).1;rw[hfl,hL]at this;exact this
   have hi:j / ls.length<len:=by rw[<- hrl];exact Nat.div_lt_of_lt_mul (by rw[β];exact hjl)
   obtain⟨r,y,h1,h2,h3,h4⟩:=hri _ hi;have hk:=Nat.mod_lt j hpos;have hjj:j=j / ls.length*ls.length+j % ls.length:=by rw[β];exact(Nat.div_add_mod j _).symm
   have:=Zcf (λr hr=>by rw[<- hL];exact(hlen r hr).1) (i:=j / ls.length) (c:=j % ls.length) hk;rw[<- hjj,hj,h1]at this;obtain⟨c1,c2⟩:=World.cells?_some h2;have c3:=c2.2 _ hk;rw[Zhr,<- hjj]at c3;rw[c3];exact this.symm
  ·obtain⟨r',y,h1,h2,h3,h4⟩:=hri i (by rw[<- hrl];exact(ϩ.1 hr).1);rw[h1]at hr;simp at hr;subst hr;rw[ϰ,h3]at hb;simp at hb;subst hb;exact h4
  ·have:=hB.slice (elems.map (·.1)) (rest.map (·.1));rw[ϻ]at this;exact this
variable{b0 base:Nat}{held:Bool}
def Z10w{r:Reach}{e:TypeId}{d:DataW H}{ps:List MemPlace}(ht:P.underlying t=ϕ (.slice e))(hval:Value.okWide P w r b0 t v)(hd:DataW.Trod enc P w base sp held t v d ps): ∃n,DataW.trod enc P w base sp held n t [v]=ϕ (d,ps):=by
 obtain⟨n,hd⟩:=hd;refine⟨n,?_⟩;have:v.cells.toList=[v]:=by simp only[Value.okWide,ht,Cell.okWide]at hval;cases v<;>first|rfl|(simp[Cell.ok]at hval)
 rw[<- this];exact hd
def Zvl{r:Reach}{fs:Array Field}{d:DataW H}{ps:List MemPlace}(ht:P.underlying t=ϕ (.struct fs))(hval:Value.okWide P w r b0 t v)(hd:DataW.Trod enc P w base sp held t v d ps): ∃(cs:List ϔ) (n:Nat),v=.agg cs.toArray/\DataW.trod enc P w base sp held n t cs=ϕ (d,ps):=by obtain⟨n,hd⟩:=hd;simp only[Value.okWide,ht]at hval;obtain⟨cs,rfl,-⟩:=hval;exact⟨cs.toList,n,by simp,by simpa[Value.cells]using hd⟩
def Z1ct{α:Type}{g:α->Nat}:∀{rows:List α} {bs:List Nat},bs.length=rows.length->(∀(i:Nat) r b,rows[i]?=ϕ r->bs[i]?=ϕ b->g r<=b)->(rows.map g).sum<=bs.sum
 | [],[],_,_=>by simp
 | r::rows,b::bs,hl,h=>by have h0:=h 0 r b rfl rfl;have:=Z1ct (rows:=rows) (bs:=bs) (by simpa using hl) (λi r' b' hr hb=>h (i+1) r' b' (by simpa using hr) (by simpa using hb));simp only[ϯ,ϗ];omega
 | [],_::_,hl,_=>by simp at hl
 | _::_,[],hl,_=>by simp at hl
def Zgm(hB:Bulk B){ls:List (TypeId×Kd)}(h0:ls≠[]){rows:List (List ϔ)}{bs:List Nat}(hl:bs.length=rows.length)(h:∀(i:Nat) r b,rows[i]?=ϕ r->bs[i]?=ϕ b->Lv enc P w sp B ls r b):rows.length<=bs.sum:=by
 have:=Z1ct (g:=λ_:List ϔ=>1) hl (λi r b hr hb=>by
  cases h i r b hr hb with
  | nil b=>exact ϟ rfl h0
  | cons h1 h2 h3=>obtain⟨-,n,d,q,-,h5⟩:=h1;have:=hB.one d;omega)
 have e:(rows.map λ_=>1).sum=rows.length:=by
  clear hl h this;induction rows with
  | nil=>rfl
  | cons r rows ih=>simp only[ϯ,ϗ,Ϝ,ih];omega
 omega
def Z7r.str(hB:Bulk B)(ht:P.underlying t=ϕ .string){s:By}(h:Z7r enc P w sp B (t,.str) (.string ⟨s.toArray⟩) b):s.length+1<=b:=by obtain⟨-,n,d,ps,h1,h2⟩:=h;obtain⟨s',h3,h4⟩:=DataW.trod_string ht h1;simp only[Ϲ.injEq,Value.string.injEq,and_true]at h3;subst h3;simp only[Prod.mk.injEq]at h4;obtain⟨⟨rfl,-⟩,-⟩:=h4;have:=hB.str s;omega
end
end Go.Sx
namespace Go.Proofs.Y
open Go Go.Sx Go.ChangeShapes Go.WideShapes Go.ChangeAt Go.RowKit
section
variable {H:Type} {enc:TypeId×ϔ->H} {w:ϣ} {sp:Nat->Bool} {B:DataW H->Nat}
def Zih(P:Program)(t:TypeId):Bool:=match P.underlying t with|some (.struct _)=>ϒ|_=>ϧ
variable{b0 base:Nat}{held:Bool}{t:TypeId}{v:ϔ}
def Zh5{P:Program}{r:Reach}{d:DataW H}{ps:List MemPlace}(ht:Zih P t=ϒ)(hval:Value.okWide P w r b0 t v)(hd:DataW.Trod enc P w base sp held t v d ps): ∃(cs:List ϔ) (n:Nat),v=.agg cs.toArray/\DataW.trod enc P w base sp held n t cs=ϕ (d,ps):=by
 unfold Zih at ht;split at ht
 ·exact Zvl (by assumption) hval hd
 ·cases ht
variable{cs:List ϔ}{b:Nat}
def Z1kj(hB:Bulk B)(h:Lv enc ϓ w sp B [(3,.int .i64),(9,.str),(9,.str)] cs b):∃o:Fl,cs=encF o/\o.2.1.length+o.2.2.length+1<=b:=by
 cases h with
 | cons c1 h e1 =>
 cases h with
 | cons c2 h e2 =>
 cases h with
 | cons c3 h e3 =>
 cases h;obtain⟨p,rfl⟩:=c1.1;obtain⟨t,rfl⟩:=c2.1;obtain⟨n,rfl⟩:=c3.1;have q2:=Z7r.str hB Tryz.underlying9 c2;have q3:=Z7r.str hB Tryz.underlying9 c3;exact⟨(p,t,n),rfl,by simp only;omega⟩
def Z1cu(hB:Bulk B):∀{rows:List (List ϔ)} {bs:List Nat},bs.length=rows.length->(∀(i:Nat) r b,rows[i]?=ϕ r->bs[i]?=ϕ b->Lv enc ϓ w sp B [(3,.int .i64),(9,.str),(9,.str)] r b) -> ∃l:List Fl,rows=l.map encF/\∀x∈l,x.2.1.length<=bs.sum:=by
 intro rows;induction rows with
 | nil=>exact λ_ _=>⟨[],rfl,by simp⟩
 | cons r rows ih =>
  intro bs hl h
  match bs,hl with
  | b::bs,hl =>
   obtain⟨l,e,hb⟩:=ih (bs:=bs) (by simpa using hl) (λi r' b' h1 h2=>h (i+1) r' b' (by simpa using h1) (by simpa using h2));obtain⟨o,rfl,hob⟩:=Z1kj hB (h 0 r b rfl rfl);refine⟨o::l,by rw[e];rfl,?_⟩;intro x hx;rw[ϗ];rcases ϖ.1 hx with rfl|hx
   ·omega
   ·have:=hb x hx;omega
def Z1jd(hB:Bulk B)(h1:Tryz.prog.underlying 56=ϕ (.slice 122))(h2:Z5d ϓ 8 122=ϕ [(3,.int .i64),(9,.str),(9,.str)])(h3:Tryz.prog.cellsOf 122=3)(h:Lv enc ϓ w (λ_=>ϒ) B [(9,.str),(4,.bool),(4,.bool),(56,.oth),(56,.oth),(3,.int .i64)] cs b): ∃(s:Ses) (u v:ϔ),Value.agg cs.toArray=sesV s u v/\Zi w u s.fl/\Zi w v s.qu/\s.cl.length+s.fl.length+s.qu.length<=b/\(∀x∈s.fl,x.2.1.length<=b)/\(∀x∈s.qu,x.2.1.length<=b):=by
 cases h with
 | cons c1 h e1 =>
 cases h with
 | cons c2 h e2 =>
 cases h with
 | cons c3 h e3 =>
 cases h with
 | cons c4 h e4 =>
 cases h with
 | cons c5 h e5 =>
 cases h with
 | cons c6 h e6 =>
 cases h;obtain⟨k,rfl⟩:=c1.1;obtain⟨c,rfl⟩:=c2.1;obtain⟨j,rfl⟩:=c3.1;obtain⟨p,rfl⟩:=c6.1;have q1:=Z7r.str hB Tryz.underlying9 c1;obtain⟨-,n,d,ps,hx,hb⟩:=c4;obtain⟨rows,bs,rd,bl,lv,bk⟩:=Za9 hB (f:=8) h1 h2 h3 (by decide) hx;have rl:=Zgm hB (by decide) bl lv;obtain⟨l,rfl,hs⟩:=Z1cu hB bl lv;obtain⟨-,n',d',ps',hx',hb'⟩:=c5;obtain⟨rows',bs',rd',bl',lv',bk'⟩:=Za9 hB (f:=8) h1 h2 h3 (by decide) hx';have rl':=Zgm hB (by decide) bl' lv';obtain⟨l',rfl,hs'⟩:=Z1cu hB bl' lv';rw[qy3]at rl rl';simp only at bk bk';exact⟨⟨k,c,j,l,l',p⟩,_,_,by rw[sesV,rd.sc1,rd'.sc1],rd,rd',by simp only;omega,λx hx=>by have:=hs x hx;omega,λx hx=>by have:=hs' x hx;omega⟩
def Z175(hB:Bulk B)(h:Lv enc ϓ w sp B [(9,.str),(9,.str),(3,.int .i64)] cs b):∃o:Kp,cs=encK o/\o.1.length+o.2.1.length+1<=b:=by
 cases h with
 | cons c1 h e1 =>
 cases h with
 | cons c2 h e2 =>
 cases h with
 | cons c3 h e3 =>
 cases h;obtain⟨p,rfl⟩:=c1.1;obtain⟨t,rfl⟩:=c2.1;obtain⟨n,rfl⟩:=c3.1;have q1:=Z7r.str hB Tryz.underlying9 c1;have q2:=Z7r.str hB Tryz.underlying9 c2;exact⟨(p,t,n),rfl,by simp only;omega⟩
def Z1je(hB:Bulk B):∀{rows:List (List ϔ)} {bs:List Nat},bs.length=rows.length->(∀(i:Nat) r b,rows[i]?=ϕ r->bs[i]?=ϕ b->Lv enc ϓ w sp B [(9,.str),(9,.str),(3,.int .i64)] r b) -> ∃l:List Kp,rows=l.map encK/\∀x∈l,x.1.length<=bs.sum:=by
 intro rows;induction rows with
 | nil=>exact λ_ _=>⟨[],rfl,by simp⟩
 | cons r rows ih =>
  intro bs hl h
  match bs,hl with
  | b::bs,hl =>
   obtain⟨l,e,hb⟩:=ih (bs:=bs) (by simpa using hl) (λi r' b' h1 h2=>h (i+1) r' b' (by simpa using h1) (by simpa using h2));obtain⟨o,rfl,hob⟩:=Z175 hB (h 0 r b rfl rfl);refine⟨o::l,by rw[e];rfl,?_⟩;intro x hx;rw[ϗ];rcases ϖ.1 hx with rfl|hx
   ·omega
   ·have:=hb x hx;omega
def Z1jf(hB:Bulk B):∀{rows:List (List ϔ)} {bs:List Nat},bs.length=rows.length->(∀(i:Nat) r b,rows[i]?=ϕ r->bs[i]?=ϕ b->Lv enc ϓ w sp B [(9,.str),(9,.str),(3,.int .i64)] r b) -> ∃l:List Kp,rows=l.map encK/\∀x∈l,x.1.length<=bs.sum/\x.2.1.length<=bs.sum:=by
 intro rows;induction rows with
 | nil=>exact λ_ _=>⟨[],rfl,by simp⟩
 | cons r rows ih =>
  intro bs hl h
  match bs,hl with
  | b::bs,hl =>
   obtain⟨l,e,hb⟩:=ih (bs:=bs) (by simpa using hl) (λi r' b' h1 h2=>h (i+1) r' b' (by simpa using h1) (by simpa using h2));obtain⟨o,rfl,hob⟩:=Z175 hB (h 0 r b rfl rfl);refine⟨o::l,by rw[e];rfl,?_⟩;intro x hx;rw[ϗ];rcases ϖ.1 hx with rfl|hx
   ·omega
   ·have:=hb x hx;omega
def Z1jg(hB:Bulk B)(h:Lv enc ϓ w sp B [(3,.int .i64),(9,.str),(9,.str),(3,.int .i64)] cs b):∃o:Wat,cs=Z4 o/\o.2.1.length+o.2.2.1.length+2<=b:=by
 cases h with
 | cons c1 h e1 =>
 cases h with
 | cons c2 h e2 =>
 cases h with
 | cons c3 h e3 =>
 cases h with
 | cons c4 h e4 =>
 cases h;obtain⟨p,rfl⟩:=c1.1;obtain⟨t,rfl⟩:=c2.1;obtain⟨n,rfl⟩:=c3.1;obtain⟨k,rfl⟩:=c4.1;have q2:=Z7r.str hB Tryz.underlying9 c2;have q3:=Z7r.str hB Tryz.underlying9 c3;exact⟨(p,t,n,k),rfl,by simp only;omega⟩
def Z1jh(hB:Bulk B):∀{rows:List (List ϔ)} {bs:List Nat},bs.length=rows.length->(∀(i:Nat) r b,rows[i]?=ϕ r->bs[i]?=ϕ b->Lv enc ϓ w sp B [(3,.int .i64),(9,.str),(9,.str),(3,.int .i64)] r b) -> ∃l:List Wat,rows=l.map Z4/\∀x∈l,x.2.2.1.length<=bs.sum:=by
 intro rows;induction rows with
 | nil=>exact λ_ _=>⟨[],rfl,by simp⟩
 | cons r rows ih =>
  intro bs hl h
  match bs,hl with
  | b::bs,hl =>
   obtain⟨l,e,hb⟩:=ih (bs:=bs) (by simpa using hl) (λi r' b' h1 h2=>h (i+1) r' b' (by simpa using h1) (by simpa using h2));obtain⟨o,rfl,hob⟩:=Z1jg hB (h 0 r b rfl rfl);refine⟨o::l,by rw[e];rfl,?_⟩;intro x hx;rw[ϗ];rcases ϖ.1 hx with rfl|hx
   ·omega
   ·have:=hb x hx;omega
end
def tyk1:Tryz.prog.underlying 22=ϕ (.slice 111):=by kernel_rfl
def tyk2:Z5d ϓ 8 111=ϕ [(9,.str),(9,.str),(3,.int .i64)]:=by kernel_rfl
def tyk3:Tryz.prog.cellsOf 111=3:=by kernel_rfl
def tyw1:Tryz.prog.underlying 23=ϕ (.slice 65):=by kernel_rfl
def tyw2:Z5d ϓ 8 65=ϕ [(9,.str),(9,.str),(3,.int .i64)]:=by kernel_rfl
def tyw3:Tryz.prog.cellsOf 65=3:=by kernel_rfl
def tys1:Tryz.prog.underlying 24=ϕ (.slice 58):=by kernel_rfl
def tys2:Z5d ϓ 8 58=ϕ [(9,.str),(4,.bool),(4,.bool),(56,.oth),(56,.oth),(3,.int .i64)]:=by kernel_rfl
def tys3:Tryz.prog.cellsOf 58=6:=by kernel_rfl
def tyf1:Tryz.prog.underlying 56=ϕ (.slice 122):=by kernel_rfl
def tyf2:Z5d ϓ 8 122=ϕ [(3,.int .i64),(9,.str),(9,.str)]:=by kernel_rfl
def tyf3:Tryz.prog.cellsOf 122=3:=by kernel_rfl
def tya1:Tryz.prog.underlying 25=ϕ (.slice 68):=by kernel_rfl
def tya2:Z5d ϓ 8 68=ϕ [(3,.int .i64),(9,.str),(9,.str),(3,.int .i64)]:=by kernel_rfl
def tya3:Tryz.prog.cellsOf 68=4:=by kernel_rfl
section
variable {H:Type} {enc:TypeId×ϔ->H} {w:ϣ} {B:DataW H->Nat}
variable{cs:List ϔ}{b:Nat}
def Z1gp(hB:Bulk B){P:Program}{sp:Nat->Bool}{ls:List (TypeId×Kd)}(h:Lv enc P w sp B ls cs b):ls.length<=b:=by
 induction h with
 | nil b=>exact ϥ _
 | cons h1 h2 h3 ih =>
  obtain⟨-,n,d,ps,-,h5⟩:=h1;have:=hB.one d;rw[Ϝ];omega
def Z1gq(hB:Bulk B):∀{rows:List (List ϔ)} {bs:List Nat},bs.length=rows.length->(∀(i:Nat) r b,rows[i]?=ϕ r->bs[i]?=ϕ b->Lv enc ϓ w (λ_=>ϒ) B [(9,.str),(4,.bool),(4,.bool),(56,.oth),(56,.oth),(3,.int .i64)] r b) -> ∃l:List SesX,rows=l.map Ze/\(Z3 l []).holds w/\(∀t∈l,t.1.cl.length+t.1.fl.length+t.1.qu.length<=bs.sum/\(∀x∈t.1.fl,x.2.1.length<=bs.sum)/\∀x∈t.1.qu,x.2.1.length<=bs.sum)/\6*l.length<=bs.sum:=by
 intro rows;induction rows with
 | nil=>exact λ_ _=>⟨[],rfl,Z6r w,by simp,by simp⟩
 | cons r rows ih =>
  intro bs hl h
  match bs,hl with
  | b::bs,hl =>
   obtain⟨l,e,hp,hb,hn⟩:=ih (bs:=bs) (by simpa using hl) (λi r' b' h1 h2=>h (i+1) r' b' (by simpa using h1) (by simpa using h2));have hlv:=h 0 r b rfl rfl;have hle:=Z1gp hB hlv;obtain⟨s,u,v,e2,ru,rv,z1,z2,z3⟩:=Z1jd hB tyf1 tyf2 tyf3 hlv;have e3:r=Ze (s,u,v):=by have e4:=Value.agg.inj e2;have e5:=congrArg Array.toList e4;exact e5
   refine⟨(s,u,v)::l,by rw[e,e3];rfl,?_,?_,?_⟩
   ·refine Z10 (l:=l) (o:=[]) (λt ht=>?_) (λt ht=>.inl ht) hp;rcases ϖ.1 ht with rfl|ht
    ·exact .inr ⟨ru,rv⟩
    ·exact .inl ht
   ·intro t ht;rw[ϗ];rcases ϖ.1 ht with rfl|ht
    ·exact⟨by simp only;omega,λx hx=>by have:=z2 x hx;omega,λx hx=>by have:=z3 x hx;omega⟩
    ·obtain⟨q1,q2,q3⟩:=hb t ht;exact⟨by omega,λx hx=>by have:=q2 x hx;omega,λx hx=>by have:=q3 x hx;omega⟩
   ·simp only[Ϝ,Ϧ]at hle;rw[ϗ,Ϝ];omega
def Z1ji(hB:Bulk B)(h:Lv enc ϓ w (λ_=>ϒ) B [(22,.oth),(23,.oth),(24,.oth),(25,.oth),(3,.int .i64)] cs b)(hb:b<=4000000): ∃x:TelX,Value.agg cs.toArray=bkV x/\x.ox=[]/\RdX w x/\SmlT x.tel:=by
 cases h with
 | cons c1 h e1 =>
 cases h with
 | cons c2 h e2 =>
 cases h with
 | cons c3 h e3 =>
 cases h with
 | cons c4 h e4 =>
 cases h with
 | cons c5 h e5 =>
 cases h;obtain⟨n,rfl⟩:=c5.1;obtain⟨-,n1,d1,ps1,hx1,hb1⟩:=c1;obtain⟨rows1,bs1,rd1,bl1,lv1,bk1⟩:=Za9 hB (f:=8) tyk1 tyk2 tyk3 (by decide) hx1;have rl1:=Zgm hB (by decide) bl1 lv1;obtain⟨l1,rfl,s1⟩:=Z1je hB bl1 lv1;obtain⟨-,n2,d2,ps2,hx2,hb2⟩:=c2;obtain⟨rows2,bs2,rd2,bl2,lv2,bk2⟩:=Za9 hB (f:=8) tyw1 tyw2 tyw3 (by decide) hx2;have rl2:=Zgm hB (by decide) bl2 lv2;obtain⟨l2,rfl,s2⟩:=Z1jf hB bl2 lv2;obtain⟨-,n3,d3,ps3,hx3,hb3⟩:=c3;obtain⟨rows3,bs3,rd3,bl3,lv3,bk3⟩:=Za9 hB (f:=8) tys1 tys2 tys3 (by decide) hx3;obtain⟨l3,rfl,p3,s3,k3⟩:=Z1gq hB bl3 lv3;obtain⟨-,n4,d4,ps4,hx4,hb4⟩:=c4;obtain⟨rows4,bs4,rd4,bl4,lv4,bk4⟩:=Za9 hB (f:=8) tya1 tya2 tya3 (by decide) hx4;have rl4:=Zgm hB (by decide) bl4 lv4;obtain⟨l4,rfl,s4⟩:=Z1jh hB bl4 lv4;rw[qy3]at rl1 rl2 rl4;simp only at bk1 bk2 bk3 bk4;refine⟨⟨l1,l2,l3,l4,n,[],_,_,_,_,.slice Ϩ 0 0⟩,by rw[bkV,rd1.sc1,rd2.sc1,rd3.sc1,rd4.sc1],rfl,⟨rd1,rd2,rd3,p3,rd4⟩,?_⟩;refine⟨λx hx=>by have:=s1 x hx;omega,by show l1.length<_;omega,λx hx=>?_,by show l2.length<_;omega,λs hs=>?_,?_,λx hx=>?_,by show l4.length<_;omega⟩
 ·have:=s2 x hx;exact⟨by omega,by omega⟩
 ·obtain⟨t,ht,rfl⟩:=List.mem_map.1 hs;obtain⟨q1,q2,q3⟩:=s3 t ht;exact⟨λx hx=>by have:=q2 x hx;omega,λx hx=>by have:=q3 x hx;omega,by omega,by omega,by omega⟩
 ·show(l3.map (·.1)).length<_
  rw[qy3];omega
 ·have:=s4 x hx;omega
end
