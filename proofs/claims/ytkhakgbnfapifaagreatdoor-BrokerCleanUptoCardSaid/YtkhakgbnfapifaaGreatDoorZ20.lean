/-
  Texts of mine, one behind the other. By an AI agent.
-/
import Derived.Test.YtkhakgbnfapifaaGreatDoorZ17
import Derived.Test.YtkhakgbnfapifaaGreatDoorZ18
import Derived.Test.YtkhakgbnfapifaaGreatDoorZ10
import Derived.Test.YtkhakgbnfapifaaGreatDoorZ19
import Derived.Test.YtkhakgbnfapifaaGreatDoorZ08
import Derived.Test.YtkhakgbnfapifaaGreatDoorZ09
import Derived.Test.YtkhakgbnfapifaaGreatDoorZ15
import Derived.Test.YtkhakgbnfapifaaGreatDoorZ12
import Derived.Test.YtkhakgbnfapifaaGreatDoorZ11
set_option linter.unusedSimpArgs false
set_option linter.unusedVariables false
set_option maxHeartbeats 20000000
namespace Go.Proofs.YtkhakgbnfapifaaGreatDoor
open Go Go.Sx
def atS (l:List Ses) (n:List UInt8):Int:=if hasS l n=true then (idxS l n:Int) else -1
theorem Zjh (w:World) (v:Value) (l:List SesX) (n:List UInt8) (hv:reads w v kSx (l.map Zg)) (hs:Z2z (l.map (·.1))) (hl:l.length<1000000000) : Calls Tryz.prog 22 #[sc1 v,.string ⟨n.toArray⟩] w fun e w'=>e=.returned (.int .i64 (atS (l.map (·.1)) n))/\Mod [] w w':=by
  refine Z2 (Z3 (ρ:=[.v v,.r (l.map Zg),.s n]) sxE_ok Tryz.func22 Z46 rfl rfl (Rel.start2 (by simp[Ent.holds,Ent.wr,hv,X.ev])) rfl rfl ?_) rfl;simp only[Tree.goal,X.P,X.ev,SV.ev,CV.ev,Sc.ev,qz,QA,QB,QC,QD,QE,QF,QG,QH,QI,QJ,QK,QL,QM,Nat.reduceAdd,qy3,qy4];refine⟨fun vs=>∃(i:Nat) (x:V),vs=[x,.i i]/\i<=l.length/\∀j,j<i->¬(l.getD j sxD).1.cl=n,fun vs=>l.length - (vs.getD 1 (.i 0)).toI.toNat,⟨0,_,rfl,by omega,fun j hj=>by omega⟩,?_⟩;rintro _ - ⟨i,x,rfl,hi,hall⟩;simp only[Tree.goal,X.P,X.ev,SV.ev,CV.ev,Sc.ev,qz,QA,QB,QC,QD,QE,QF,QG,QH,QI,QJ,QK,QL,QM,Nat.reduceAdd,qy3,qy4,gSx0];refine⟨fun h1=>⟨by omega,fun h2 w' hr=>⟨?_,hr.mod⟩,fun h2=>⟨by omega,by omega,⟨i+1,x,rfl,by omega,fun j hj=>?_⟩,by omega⟩⟩,fun h1 w' hr=>⟨?_,hr.mod⟩⟩
  . have hi':i<l.length:=by omega
    have e:=Zhk (l:=l) (n:=n) (i:=i) (by omega) (fun k hk=>by rw[<- h2];exact Zb0 hs (i:=k) (j:=i) hk hi') (fun k h3 h4=>by
      by_cases hk:k=i
      . rw[hk,h2];exact Z17 _
      . rw[<- h2];exact Z3l (Zb0 hs (i:=i) (j:=k) (by omega) h4))
    have hh:hasS (l.map (·.1)) n=true:=decide_eq_true (by rw[<- e,Zhj,qy3];exact⟨hi',h2⟩);rw[atS,if_pos hh,<- e]
  . by_cases hji:j=i
    . rw[hji];exact h2
    . exact hall j (by omega)
  . have hie:i=l.length:=by omega
    have hh:¬hasS (l.map (·.1)) n=true:=fun h=>by obtain⟨h3,h4⟩:=Z66 h;rw[qy3]at h3;rw[Zhj]at h4;exact hall _ (by omega) h4
    rw[atS,if_neg hh]
def Zfy (x y:Tel):Bool:=decide (x.next=y.next/\x.kept=y.kept/\x.wants=y.wants/\x.wat=y.wat/\x.sess=y.sess)
theorem Zct {x y:Tel}:Zfy x y=true↔{ x with out:=[] }={ y with out:=[] }:=by cases x;cases y;simp only[Zfy,decide_eq_true_eq,Tel.mk.injEq];exact⟨fun ⟨a,b,c,d,e⟩=>⟨b,c,e,d,a,trivial⟩,fun ⟨b,c,e,d,a,_⟩=>⟨a,b,c,d,e⟩⟩
theorem Zzg {a b:List SesX} (hl:a.length=b.length) (h:∀i,i<a.length->(a.getD i sxD).1=(b.getD i sxD).1):a.map (·.1)=b.map (·.1):=by refine List.ext_getElem (by simpa using hl) fun i h1 h2=>?_;rw[qy3]at h1 h2;have:=h i h1;rw[qy1,qy1,qy7 h1,qy7 h2]at this;simpa using this
theorem Z6a (w:World) (x y:TelX) (hx:RdX w x) (hy:RdX w y) (h1:x.kept.length<1000000000) (h2:x.wants.length<1000000000) (h3:x.wat.length<1000000000) (h4:x.sx.length<1000000000) (h5:∀t∈x.sx,t.1.fl.length<1000000000/\t.1.qu.length<1000000000) : Calls Tryz.prog 23 #[bkV x,bkV y] w fun e w'=>e=.returned (.bool (Zfy x.tel y.tel))/\Mod [] w w':=by
  refine Z2 (Z3 (ρ:=bkA x++bkA y) sxE_ok Tryz.func23 Z3z rfl rfl
    (Rel.start2 (qy2.2 ⟨⟨hx.kept,rfl⟩,qy2.2 ⟨⟨hx.want,rfl⟩,qy2.2 ⟨⟨hx.sess,rfl⟩,qy2.2 ⟨⟨hx.nest,rfl⟩,qy2.2 ⟨⟨hx.wat,rfl⟩,qy2.2 ⟨⟨hy.kept,rfl⟩,qy2.2 ⟨⟨hy.want,rfl⟩,qy2.2 ⟨⟨hy.sess,rfl⟩,qy2.2 ⟨⟨hy.nest,rfl⟩,qy2.2 ⟨⟨hy.wat,rfl⟩,qy5 _⟩⟩⟩⟩⟩⟩⟩⟩⟩⟩)) rfl rfl ?_) rfl
  simp only[Tree.goal,X.P,X.ev,SV.ev,CV.ev,Sc.ev,qz,QA,QB,QC,QD,QE,QF,QG,QH,QI,QJ,QK,QL,QM,Nat.reduceAdd,qy3,qy4];intro b20 b21;refine⟨[.b (decide (x.kept=y.kept))],rfl,fun _ w' hr=>Zmq w' x.kv y.kv _ _ (hr.at_ 2 rfl) (hr.at_ 7 rfl) h1,?_⟩;simp only[Tree.goal,X.P,X.ev,SV.ev,CV.ev,Sc.ev,qz,QA,QB,QC,QD,QE,QF,QG,QH,QI,QJ,QK,QL,QM,Nat.reduceAdd,qy3,qy4];refine⟨[.b (decide (x.wants=y.wants))],rfl,fun _ w' hr=>Zjg w' x.wv y.wv _ _ (hr.at_ 3 rfl) (hr.at_ 8 rfl) h2,?_⟩;simp only[Tree.goal,X.P,X.ev,SV.ev,CV.ev,Sc.ev,qz,QA,QB,QC,QD,QE,QF,QG,QH,QI,QJ,QK,QL,QM,Nat.reduceAdd,qy3,qy4];refine⟨[.b (decide (x.wat=y.wat))],rfl,fun _ w' hr=>Zf4 w' x.av y.av _ _ (hr.at_ 6 rfl) (hr.at_ 11 rfl) (by omega),?_⟩;simp only[Tree.goal,X.P,X.ev,SV.ev,CV.ev,Sc.ev,qz,QA,QB,QC,QD,QE,QF,QG,QH,QI,QJ,QK,QL,QM,Nat.reduceAdd,qy3,qy4,decide_eq_true_eq];have hsl:x.tel.sess=y.tel.sess->x.sx.length=y.sx.length:=fun e=>by have:=congrArg List.length e;simpa [TelX.tel]using this
  refine⟨fun h w' hr=>⟨?_,hr.mod⟩,fun h=>?_⟩
  . have:¬Zfy x.tel y.tel=true:=fun hh=>by
      obtain⟨a,b,c,d,e⟩:=of_decide_eq_true hh;have:=hsl e;rcases h with (((h|h)|h)|h)|h
      . exact h a
      . exact h b
      . exact h c
      . exact h d
      . omega
    rw[Bool.eq_false_iff.2 this]
  . have hn:x.next=y.next:=Classical.byContradiction fun h6=>h (.inl (.inl (.inl (.inl h6))));have hk:x.kept=y.kept:=Classical.byContradiction fun h6=>h (.inl (.inl (.inl (.inr h6))));have hw:x.wants=y.wants:=Classical.byContradiction fun h6=>h (.inl (.inl (.inr h6)));have ha:x.wat=y.wat:=Classical.byContradiction fun h6=>h (.inl (.inr h6));have hl:x.sx.length=y.sx.length:=by
      have:(x.sx.length:Int)=y.sx.length:=Classical.byContradiction fun h6=>h (.inr h6);omega
    clear h;refine⟨fun vs=>∃(i:Nat) (u:V),vs=[u,.i i]/\i<=x.sx.length/\∀j,j<i->(x.sx.getD j sxD).1=(y.sx.getD j sxD).1,fun vs=>x.sx.length - (vs.getD 1 (.i 0)).toI.toNat,⟨0,_,rfl,by omega,fun j hj=>by omega⟩,?_⟩;rintro _ - ⟨i,u,rfl,hi,hall⟩;simp only[Tree.goal,X.P,X.ev,SV.ev,CV.ev,Sc.ev,qz,QA,QB,QC,QD,QE,QF,QG,QH,QI,QJ,QK,QL,QM,Nat.reduceAdd,qy3,qy4];refine⟨fun h6=>⟨by omega,by omega,?_⟩,fun h6 w' hr=>⟨?_,hr.mod⟩⟩
    . have hi1:i<x.sx.length:=by omega
      have hi2:i<y.sx.length:=by omega
      have r1:=Z9r hi1;have r2:=Z9r hi2;have m1:=Zca hi1;refine⟨[.b (decide ((x.sx.getD i sxD).1=(y.sx.getD i sxD).1))],rfl,fun _ w' hr=>?_,?_⟩
      . have n1:=Zx (hr.at_ 5 rfl:(Z6 x.sx x.ox).holds w') m1;have n2:=Zx (hr.at_ 10 rfl:(Z6 y.sx y.ox).holds w') (Zca hi2);refine Z2 (Zf6 w' (x.sx.getD i sxD).1 (y.sx.getD i sxD).1 (x.sx.getD i sxD).2.1 (x.sx.getD i sxD).2.2 (y.sx.getD i sxD).2.1 (y.sx.getD i sxD).2.2 n1.1 n1.2 n2.1 n2.2 (h5 _ m1).1 (h5 _ m1).2) ?_;simp only[Tree.goal,X.P,X.ev,SV.ev,CV.ev,Sc.ev,qz,QA,QB,QC,QD,QE,QF,QG,QH,QI,QJ,QK,QL,QM,Nat.reduceAdd,qy3,qy4,r1,r2,Zg,List.getD_cons_zero,List.getD_cons_succ,Value.gI,Value.gB,Value.gS,Z1k,sesV]
      simp only[Tree.goal,X.P,X.ev,SV.ev,CV.ev,Sc.ev,qz,QA,QB,QC,QD,QE,QF,QG,QH,QI,QJ,QK,QL,QM,Nat.reduceAdd,qy3,qy4,decide_eq_true_eq];refine⟨fun h7 w' hr=>⟨?_,hr.mod⟩,fun h7=>⟨by omega,by omega,⟨i+1,u,rfl,by omega,fun j hj=>?_⟩,by omega⟩⟩
      . have:¬Zfy x.tel y.tel=true:=fun hh=>by
          obtain⟨-,-,-,-,e⟩:=of_decide_eq_true hh;have e2:=congrArg (fun l:List Ses=>l.getD i s0) e;simp only[TelX.tel,Zhj]at e2;exact h7 e2
        rw[Bool.eq_false_iff.2 this]
      . by_cases hji:j=i
        . rw[hji];exact qy9.1 h7
        . exact hall j (by omega)
    . have hie:i=x.sx.length:=by omega
      have:Zfy x.tel y.tel=true:=decide_eq_true ⟨hn,hk,hw,ha,Zzg hl (fun j hj=>hall j (by omega))⟩;rw[this]
theorem Z12t (l:List SntX) (i:Nat):(l.map (·.1)).getD i sntD.1=(l.getD i sntD).1:=by rw[qy1,qy1,List.getElem?_map];cases l[i]?<;>rfl
end Go.Proofs.YtkhakgbnfapifaaGreatDoor
namespace Go.Proofs.YtkhakgbnfapifaaGreatDoor
open Go.Sx
abbrev totA (k:Int) (l:List Ak):Nat:=(l.map (Zwa k)).flatten.length
structure BdP (s:List UInt8) (p:Pkt):Prop where
 kind:0<=p.kind/\p.kind<=15
 qos:0<=p.qos/\p.qos<=3
 id:0<=p.id/\p.id<=65535
 keep:0<=p.keep/\p.keep<=65535
 code:0<=p.code/\p.code<=65535
 asks:∀a∈p.asks,a.1.length<=s.length/\0<=a.2/\a.2<256
 codes:∀c∈p.codes,0<=c/\c<256
 client:p.client.length<=s.length
 topic:p.topic.length<=s.length
 payload:p.payload.length<=s.length
 total:totA p.kind p.asks<=s.length+3
 ncodes:p.codes.length<=s.length+1
def rdV (s:List UInt8) (a:Nat) (sh:Bool):List Value:=[.string ⟨s.toArray⟩,.int .i64 a,.bool sh]
abbrev rdAt (w:World) (b:Nat) (s:List UInt8) (a:Nat) (sh:Bool):Prop:=w.heap[b]?=some (.cells (rdV s a sh).toArray 219 (0,0))
def pC (p:Pkt) (u v:Value):List Value:=[.int .i64 p.kind,.bool p.dup,.bool p.retain,.bool p.clean,.bool p.session,.int .i64 p.qos,.int .i64 p.id,.int .i64 p.keep,.int .i64 p.code,.string ⟨p.client.toArray⟩,.string ⟨p.topic.toArray⟩,.string ⟨p.payload.toArray⟩,Go.Sx.sc1 u,Go.Sx.sc1 v]
abbrev pAt (w:World) (b:Nat) (p:Pkt) (u v:Value):Prop:=w.heap[b]?=some (.cells (pC p u v).toArray 31 (0,0))
section
variable (w:World) (b:Nat) (s:List UInt8) (a:Nat) (sh:Bool) (h:rdAt w b s a sh) (ha:a<=s.length) (hs:s.length<1000000000)
include h
end
end Go.Proofs.YtkhakgbnfapifaaGreatDoor
namespace Go.Proofs.YtkhakgbnfapifaaGreatDoor
open Go.Sx
abbrev nilV:Value:=.slice none 0 0
section
variable (w:World) (b c:Nat) (s:List UInt8) (a:Nat) (sh:Bool) (p:Pkt) (h:rdAt w b s a sh) (hp:pAt w c p nilV nilV) (hbc:b≠c) (ha:a<=s.length) (hs:s.length<1000000000)
include h hp hbc
end
section
variable (w:World) (b c:Nat) (s:List UInt8) (a:Nat) (sh:Bool) (p:Pkt) (h:rdAt w b s a sh) (hp:pAt w c p nilV nilV) (hbc:b≠c) (ha:a<=s.length) (hs:s.length<1000000000) (pz:p.asks=[]/\p.codes=[]) (hB:BdP s p)
include h hp hbc ha hs pz hB
end
end Go.Proofs.YtkhakgbnfapifaaGreatDoor
namespace Go.Proofs.YtkhakgbnfapifaaGreatDoor
open Go.Sx
end Go.Proofs.YtkhakgbnfapifaaGreatDoor
namespace Go.Proofs.YtkhakgbnfapifaaGreatDoor
open Go.Sx
def pubP:Pkt:=⟨3,false,false,false,false,1,10,0,0,[],[97,47,98],[104,105],[],[]⟩
theorem Znk:SmallP pubP:=⟨by decide,by decide,by decide,by decide,by decide,by decide⟩
theorem Z12u (w:World):Calls Tryz.prog 63 #[] w fun e w'=>e=.returned (pV pubP nilV nilV)/\Mod [] w w':=by refine Z2 (Za (ρ:=[]) sxE_ok Tryz.func63 Z6r rfl rfl rfl ?_) rfl;simp only[Tree.goal,X.P,X.ev,SV.ev,CV.ev,Sc.ev,qz,QA,QB,QC,QD,QE,QF,QG,QH,QI,QJ,QK,QL,QM,Nat.reduceAdd];exact fun b w' hr=>⟨rfl,hr.mod⟩
section
variable (w:World) (p q:Pkt) (u v x y:Value)
end
end Go.Proofs.YtkhakgbnfapifaaGreatDoor
namespace Go.Proofs.YtkhakgbnfapifaaGreatDoor
open Go.Sx
def sA:Ses:=⟨[97,110,110],true,false,[],[],65535⟩
theorem Z11k (w:World):Calls Tryz.prog 150 #[] w fun e w'=>e=.returned (sesV sA (.slice none 0 0) (.slice none 0 0))/\Mod [] w w':=by refine Z2 (Za (ρ:=[]) sxE_ok Tryz.func150 Z60 rfl rfl rfl ?_) rfl;simp only[Tree.goal,X.P,X.ev,SV.ev,CV.ev,Sc.ev,qz,QA,QB,QC,QD,QE,QF,QG,QH,QI,QJ,QK,QL,QM,Nat.reduceAdd];exact fun b w' hr=>⟨rfl,hr.mod⟩
end Go.Proofs.YtkhakgbnfapifaaGreatDoor
namespace Go.Proofs.YtkhakgbnfapifaaGreatDoor
open Go Go.Sx
structure SmlT (t:Tel):Prop where
 kept:Zdw t.kept
 keptL:t.kept.length<1000000000
 wants:Z2j t.wants
 wantsL:t.wants.length<1000000000
 sess:∀s∈t.sess,Zcs s
 sessL:t.sess.length<1000000
 wat:Z6h t.wat
 watL:t.wat.length<1000000000
theorem SmlT.b {x:TelX} (h:SmlT x.tel):SmlB x :=
 ⟨h.kept,h.keptL,h.wants,h.wantsL,fun t ht=>h.sess _ (List.mem_map_of_mem ht),by have:=h.sessL;rw[show x.tel.sess.length=x.sx.length by simp[TelX.tel]]at this;exact this,h.wat,h.watL⟩
theorem SmlT.f {x:TelX} (h:SmlT x.tel):∀t∈x.sx,t.1.fl.length<1000000000/\t.1.qu.length<1000000000:=fun t ht=>by have:=h.sess _ (List.mem_map_of_mem ht);exact⟨this.2.2.1,this.2.2.2.1⟩
theorem Zcu {f:Fl} (h:flE f=0):f.2.1.length<4294967281:=by
 unfold flE at h;split at h
 ·rename_i h1;have:=(Z7e.1 h1).2.1.1;omega
 ·exact absurd h (by assumption)
theorem Zsf {s:Ses} (h:SesOk s):Zcs s:=by have h1:=h.nf;have h2:=h.nq;have h3:=h.cl;unfold Zn at h3;rw[Bool.and_eq_true,decide_eq_true_eq]at h3;exact⟨fun x hx=>Zcu (h.fl.each x hx).1,fun x hx=>Zcu (h.qu x hx).1,by omega,by omega,by omega⟩
theorem Zsg {l:List Wat} (h:Z1i l=0):Z6h l:=fun x hx=>by
 have h1:=((Z19.1 h).2.1 x hx).1;unfold Z8g at h1
 (repeat' split at h1)<;>first|(have:=(Z7e.1 h1).2.1.1;omega)|simp at h1
theorem SmlT.of {t:Tel} (h:BOk t):SmlT t:=by obtain⟨k1,k2,-⟩:=Z1j.1 h.kept;have h3:=(Zz.1 h.wants).1;have h4:=(Z19.1 h.wat).1;have h5:=h.ns;exact⟨fun x hx=>by have:=(Z7e.1 (k2 x hx).1).2.1.1;omega,by omega,Z9s h.wants,by omega,fun s hs=>Zsf (h.ses s hs),by omega,Zsg h.wat,by omega⟩
abbrev TelX.bare (y:TelX):TelX:={ y with ox:=[],ov:=.slice none 0 0 }
theorem Z31 {w:World} {y:TelX} (h:(Z6 y.sx y.ox).holds w):(Z6 y.sx []).holds w:=Z18 (fun t ht=>.inl ht) (fun t ht=>(List.not_mem_nil ht).elim) h
theorem Z1l (y:TelX):y.bare.tel={ y.tel with out:=[] }:=rfl
theorem Z91 {ρ:List V} {es:List Ent} (h:∀e∈es,e.wr=false):Z2l ρ es:=by
 induction es with
 | nil=>exact List.Pairwise.nil
 | cons a es ih =>
  refine List.pairwise_cons.2 ⟨fun b hb hw=>?_,ih fun e he=>h e (qy10 _ he)⟩;rw[h a (qy8 ..),h b (qy10 _ hb)]at hw;rcases hw with hw|hw<;>cases hw
abbrev brV (y:TelX) (e:Int):List V:=[.v y.kv,.r (y.kept.map encK),.v y.wv,.r (y.wants.map Zb),.v y.sv,.r (y.sx.map Zg),.v y.av,.r (y.wat.map Z8),.i y.next,.v y.ov,.r (y.ox.map Z22),.i e,.a (Z6 y.sx y.ox)]
abbrev brEs (n:Nat):List Ent:=[.rd n kK (.var (n+1)),.rd (n+2) kW_V (.var (n+3)),.rd (n+4) kSx (.var (n+5)),.rd (n+6) kW_K (.var (n+7)),.rd (n+9) kSn (.var (n+10)),.st (n+12)]
abbrev gnV (y:TelX) (e:Int):List V:=[.v y.kv,.r (y.kept.map encK),.v y.wv,.r (y.wants.map Zb),.v y.sv,.r (y.sx.map Zg),.v y.av,.r (y.wat.map Z8),.i y.next,.i e,.a (Z6 y.sx y.ox)]
abbrev gnEs (n:Nat):List Ent:=[.rd n kK (.var (n+1)),.rd (n+2) kW_V (.var (n+3)),.rd (n+4) kSx (.var (n+5)),.rd (n+6) kW_K (.var (n+7)),.st (n+10)]
abbrev smV (y:TelX):List V:=[.v y.kv,.r (y.kept.map encK),.v y.wv,.r (y.wants.map Zb),.v y.sv,.r (y.sx.map Zg),.v y.av,.r (y.wat.map Z8),.i y.next,.a (Z6 y.sx y.ox)]
abbrev smEs (n:Nat):List Ent:=[.rd n kK (.var (n+1)),.rd (n+2) kW_V (.var (n+3)),.rd (n+4) kSx (.var (n+5)),.rd (n+6) kW_K (.var (n+7)),.st (n+9)]
section
variable {P:Program} {f:Nat} {args:Array Value} {w:World} {B:Base} {ρ:List V} {hp:List Ent}
theorem Z11l {y:TelX} {e:Int} {n m:Nat} {w1:World} {Q:Ent->Nat->Prop} (hn:ρ.length=n) (h:RdB m w1 y):∀x∈brEs n,x.holds (ρ++brV y e) w1/\∀k,x.fp (ρ++brV y e) k->m<=k\/Q x k:=by
 have g:=Zfw (vs:=brV y e) hn;have g0:(ρ++brV y e).getD n (.i 0)=.v y.kv:=g 0;refine qy2.2 ⟨⟨?_,fun k hk=>.inl ?_⟩,qy2.2 ⟨⟨?_,fun k hk=>.inl ?_⟩,qy2.2 ⟨⟨?_,fun k hk=>.inl ?_⟩,qy2.2 ⟨⟨?_,fun k hk=>.inl ?_⟩,qy2.2 ⟨⟨?_,fun k hk=>.inl ?_⟩,qy2.2 ⟨⟨?_,fun k hk=>.inl ?_⟩,qy5 _⟩⟩⟩⟩⟩⟩ <;>
  simp only[Ent.holds,Ent.fp,X.ev,g0,g 1,g 2,g 3,g 4,g 5,g 6,g 7,g 9,g 10,g 12]at *
 ·exact h.kept
 ·exact h.nk k hk.1 hk.2
 ·exact h.want
 ·exact h.nw k hk.1 hk.2
 ·exact h.sess
 ·exact h.ns k hk.1 hk.2
 ·exact h.wat
 ·exact h.na k hk.1 hk.2
 ·exact h.out
 ·exact h.no k hk.1 hk.2
 ·exact h.nest
 ·exact h.nn k hk
theorem Z11m {y:TelX} {e:Int} {n m:Nat} {w1:World} {Q:Ent->Nat->Prop} (hn:ρ.length=n) (h:RdB m w1 y):∀x∈gnEs n,x.holds (ρ++gnV y e) w1/\∀k,x.fp (ρ++gnV y e) k->m<=k\/Q x k:=by
 have g:=Zfw (vs:=gnV y e) hn;have g0:(ρ++gnV y e).getD n (.i 0)=.v y.kv:=g 0;refine qy2.2 ⟨⟨?_,fun k hk=>.inl ?_⟩,qy2.2 ⟨⟨?_,fun k hk=>.inl ?_⟩,qy2.2 ⟨⟨?_,fun k hk=>.inl ?_⟩,qy2.2 ⟨⟨?_,fun k hk=>.inl ?_⟩,qy2.2 ⟨⟨?_,fun k hk=>.inl ?_⟩,qy5 _⟩⟩⟩⟩⟩ <;>
  simp only[Ent.holds,Ent.fp,X.ev,g0,g 1,g 2,g 3,g 4,g 5,g 6,g 7,g 10]at *
 ·exact h.kept
 ·exact h.nk k hk.1 hk.2
 ·exact h.want
 ·exact h.nw k hk.1 hk.2
 ·exact h.sess
 ·exact h.ns k hk.1 hk.2
 ·exact h.wat
 ·exact h.na k hk.1 hk.2
 ·exact h.nest
 ·exact h.nn k hk
theorem Z11n {y:TelX} {n m:Nat} {w1:World} {Q:Ent->Nat->Prop} (hn:ρ.length=n) (h:RdB m w1 y):∀x∈smEs n,x.holds (ρ++smV y) w1/\∀k,x.fp (ρ++smV y) k->m<=k\/Q x k:=by
 have g:=Zfw (vs:=smV y) hn;have g0:(ρ++smV y).getD n (.i 0)=.v y.kv:=g 0;refine qy2.2 ⟨⟨?_,fun k hk=>.inl ?_⟩,qy2.2 ⟨⟨?_,fun k hk=>.inl ?_⟩,qy2.2 ⟨⟨?_,fun k hk=>.inl ?_⟩,qy2.2 ⟨⟨?_,fun k hk=>.inl ?_⟩,qy2.2 ⟨⟨?_,fun k hk=>.inl ?_⟩,qy5 _⟩⟩⟩⟩⟩ <;>
  simp only[Ent.holds,Ent.fp,X.ev,g0,g 1,g 2,g 3,g 4,g 5,g 6,g 7,g 9]at *
 ·exact h.kept
 ·exact h.nk k hk.1 hk.2
 ·exact h.want
 ·exact h.nw k hk.1 hk.2
 ·exact h.sess
 ·exact h.ns k hk.1 hk.2
 ·exact h.wat
 ·exact h.na k hk.1 hk.2
 ·exact h.nest
 ·exact h.nn k hk
theorem Zei {e:Int} {t:Tel} (h0:Rel B ρ hp w) (n:Nat) (h:Calls P f args w fun r w1=>Zfv w w1 r e t) (hn:ρ.length=n) : Calls P f args w fun r w1=>∃y:TelX,y.tel=t/\RdB w.heap.size w1 y/\r=.returned (.tuple #[bkV y,sc1 y.ov,.int .i64 e])/\Mod (Zs ρ [] []) w w1 /\ (∀x∈brEs n,x.holds (ρ++brV y e) w1/\∀k,x.fp (ρ++brV y e) k->w.heap.size<=k\/(x.wr=false/\∃y∈hp,y.wr=false/\y.fp ρ k)\/k∈Z13 ρ [])/\Z2l (ρ++brV y e) (brEs n):=by refine h.mono ?_;rintro r w1 ⟨y,hr,hy,hd,hm⟩;exact⟨y,hy,hd,hr,hm,Z11l hn hd,Z91 (by intro e he;simp only[List.mem_cons,List.not_mem_nil,or_false]at he;rcases he with rfl|rfl|rfl|rfl|rfl|rfl<;>rfl)⟩
theorem Zsh {e:Int} {t:Tel} (h0:Rel B ρ hp w) (n:Nat) (h:Calls P f args w fun r w1=>Zje w w1 r e t) (hn:ρ.length=n) : Calls P f args w fun r w1=>∃y:TelX,y.tel=t/\y.ox=[]/\RdB w.heap.size w1 y/\r=.returned (.tuple #[bkV y,.int .i64 e])/\Mod (Zs ρ [] []) w w1 /\ (∀x∈gnEs n,x.holds (ρ++gnV y e) w1/\∀k,x.fp (ρ++gnV y e) k->w.heap.size<=k\/(x.wr=false/\∃y∈hp,y.wr=false/\y.fp ρ k)\/k∈Z13 ρ [])/\Z2l (ρ++gnV y e) (gnEs n):=by refine h.mono ?_;rintro r w1 ⟨y,hr,ho,hy,hd,hm⟩;exact⟨y,hy,ho,hd,hr,hm,Z11m hn hd,Z91 (by intro e he;simp only[List.mem_cons,List.not_mem_nil,or_false]at he;rcases he with rfl|rfl|rfl|rfl|rfl<;>rfl)⟩
def Zsi (w w':World) (r:Ending) (t:Tel):Prop:=∃y:TelX,r=.returned (bkV y)/\y.ox=[]/\y.tel=t/\RdB w.heap.size w' y/\Mod [] w w'
theorem Zlo {t:Tel} (h0:Rel B ρ hp w) (n:Nat) (h:Calls P f args w fun r w1=>Zsi w w1 r t) (hn:ρ.length=n) : Calls P f args w fun r w1=>∃y:TelX,y.tel=t/\y.ox=[]/\RdB w.heap.size w1 y/\r=.returned (bkV y)/\Mod (Zs ρ [] []) w w1 /\ (∀x∈smEs n,x.holds (ρ++smV y) w1/\∀k,x.fp (ρ++smV y) k->w.heap.size<=k\/(x.wr=false/\∃y∈hp,y.wr=false/\y.fp ρ k)\/k∈Z13 ρ [])/\Z2l (ρ++smV y) (smEs n):=by refine h.mono ?_;rintro r w1 ⟨y,hr,ho,hy,hd,hm⟩;exact⟨y,hy,ho,hd,hr,hm,Z11n hn hd,Z91 (by intro e he;simp only[List.mem_cons,List.not_mem_nil,or_false]at he;rcases he with rfl|rfl|rfl|rfl|rfl<;>rfl)⟩
end
theorem Zhx {w:World} {x:TelX} {c:List UInt8} {p:Pkt} {va vc:Value} (h:RdX w x) (ha:reads w va [.str,.int .i64] (p.asks.map encA)) (hc:reads w vc [.int .i64] (p.codes.map Z11)) : Rel ⟨[],w⟩ (bkA x++Z4z c p va vc) (bkH++[.rd 23 [.str,.int .i64] (.var 24),.rd 25 [.int .i64] (.var 26)]) w :=
 Rel.start2 (qy2.2 ⟨⟨h.kept,rfl⟩,qy2.2 ⟨⟨h.want,rfl⟩,qy2.2 ⟨⟨h.sess,rfl⟩,qy2.2 ⟨⟨h.nest,rfl⟩,qy2.2 ⟨⟨h.wat,rfl⟩,qy2.2 ⟨⟨ha,rfl⟩,qy2.2 ⟨⟨hc,rfl⟩,qy5 _⟩⟩⟩⟩⟩⟩⟩)
theorem Z11o {w:World} {x:TelX} {n:Int} {m:Msg} {mv:Value} (h:RdX w x) (ha:reads w mv [.int .i64,.str] (m.opts.map encO)):Rel ⟨[],w⟩ (bkA x++([.i n]++mgV m mv)) (bkH++[.rd 15 [.int .i64,.str] (.var 16)]) w :=
 Rel.start2 (qy2.2 ⟨⟨h.kept,rfl⟩,qy2.2 ⟨⟨h.want,rfl⟩,qy2.2 ⟨⟨h.sess,rfl⟩,qy2.2 ⟨⟨h.nest,rfl⟩,qy2.2 ⟨⟨h.wat,rfl⟩,qy2.2 ⟨⟨ha,rfl⟩,qy5 _⟩⟩⟩⟩⟩⟩)
theorem Zsj {w:World} {x:TelX} {c:List UInt8} (h:RdX w x):Rel ⟨[],w⟩ (bkA x++[.s c]) bkH w :=
 Rel.start2 (qy2.2 ⟨⟨h.kept,rfl⟩,qy2.2 ⟨⟨h.want,rfl⟩,qy2.2 ⟨⟨h.sess,rfl⟩,qy2.2 ⟨⟨h.nest,rfl⟩,qy2.2 ⟨⟨h.wat,rfl⟩,qy5 _⟩⟩⟩⟩⟩)
def smT:Tel:=⟨kA,wA.take 2,[sA],wL.take 1,0,[]⟩
theorem Zzh (w:World):(Z6 [((sA,.slice none 0 0,.slice none 0 0):SesX)] []).holds w :=
 Z18 (l:=[]) (o:=[]) (fun t ht=>.inr (by rw[qy12.1 ht];exact⟨Z7 w _,Z7 w _⟩)) (fun t ht=>.inl ht) (Z7p w)
theorem Znl:∀j,¬(Z6 [((sA,.slice none 0 0,.slice none 0 0):SesX)] []).fp j:=fun j hj=>by
 rcases Ze.1 hj with ⟨t,ht,h⟩|⟨t,ht,-⟩
 ·rw[qy12.1 ht]at h;rcases h with h|h<;>exact h.1 rfl
 ·cases ht
theorem Zfz (w:World):Calls Tryz.prog 62 #[] w fun r w'=>Zsi w w' r smT:=by
 refine Z2 (Zpc (ρ:=[]) (sxE_ok.joins _) Tryz.func62 Z5v rfl rfl (Rel.start w []) rfl rfl ?_) rfl;simp only[Tree.goal,X.P,X.ev,SV.ev,CV.ev,Sc.ev,qz,QA,QB,QC,QD,QE,QF,QG,QH,QI,QJ,QK,QL,QM,Nat.reduceAdd,qy3,qy4];intro b0;refine⟨fun vs=>∃u1 u3 u5 u14 u15 u17:Value,vs=[.v u1,.r (kA.map encK),.v u3,.r (wA.map Zb),.v u5,.s sA.cl,.b sA.on,.b sA.clean,.v (.slice none 0 0),.r [],.v (.slice none 0 0),.r [],.i sA.next,.v u14,.v u15,.r (wL.map Z8),.v u17,.r ((wL.take 1).map Z8),.r [Zg (sA,.slice none 0 0,.slice none 0 0)],.r ((wA.take 2).map Zb)] /\
  (∀k,Z1 u1 k->w.heap.size<=k)/\(∀k,Z1 u5 k->w.heap.size<=k)/\(∀k,Z1 u17 k->w.heap.size<=k),?_,?_⟩
 ·repeat' first
   | (intro w1 hr1;refine(Z110 w1).mono ?_;rintro e w2 ⟨u1,rfl,a1,f1,m1⟩;refine⟨[.v u1,.r (kA.map encK)],rfl,rfl,m1,qy5 _,qy2.2 ⟨⟨a1,fun k hk=>.inl (f1 k hk.2)⟩,qy5 _⟩,Z4,?_⟩;have g1:∀k,Z1 u1 k->w.heap.size<=k:=fun k hk=>Nat.le_trans hr1.mod.size (f1 k hk);clear hr1 a1 f1 m1)
   | (intro w1 hr1;refine(Zyl w1).mono ?_;rintro e w2 ⟨u3,rfl,a1,f1,m1⟩;refine⟨[.v u3,.r (wA.map Zb)],rfl,rfl,m1,qy5 _,qy2.2 ⟨⟨a1,fun k hk=>.inl (f1 k hk.2)⟩,qy5 _⟩,Z4,?_⟩;have g3:∀k,Z1 u3 k->w.heap.size<=k:=fun k hk=>Nat.le_trans hr1.mod.size (f1 k hk);clear hr1 a1 f1 m1)
   | (intro w1 hr1;refine(Zra w1).mono ?_;rintro e w2 ⟨u15,rfl,a1,f1,m1⟩;refine⟨[.v u15,.r (wL.map Z8)],rfl,rfl,m1,qy5 _,qy2.2 ⟨⟨a1,fun k hk=>.inl (f1 k hk.2)⟩,qy5 _⟩,Z4,?_⟩;have g15:∀k,Z1 u15 k->w.heap.size<=k:=fun k hk=>Nat.le_trans hr1.mod.size (f1 k hk);clear hr1 a1 f1 m1)
   | (intro w1 hr1;refine(Z11k w1).mono ?_;rintro e w2 ⟨rfl,m1⟩;refine⟨[.s sA.cl,.b sA.on,.b sA.clean,.v (.slice none 0 0),.r [],.v (.slice none 0 0),.r [],.i sA.next],rfl,rfl,m1,qy5 _,qy2.2 ⟨⟨Z7 w2 _,fun k hk=>absurd rfl hk.1⟩,qy2.2 ⟨⟨Z7 w2 _,fun k hk=>absurd rfl hk.1⟩,qy5 _⟩⟩,Z91 (by simp[Ent.wr]),?_⟩;clear hr1 m1)
   | (refine⟨(by show (2:Int)<=((wA.map Zb).length:Int);decide),?_⟩)
   | (refine⟨(by show (1:Int)<=((wL.map Z8).length:Int);decide),?_⟩)
   | (refine And.intro ?_ ?_)
   | (intro u5 h5;have g5:∀k,Z1 u5 k->w.heap.size<=k:=fun k hk=>g3 k (h5 k hk);clear h5)
   | (intro u17 h17;have g17:∀k,Z1 u17 k->w.heap.size<=k:=fun k hk=>g15 k (h17 k hk);clear h17)
   | (intro u14 h14;clear h14)
   | exact⟨_,_,_,_,_,_,rfl,g1,g5,g17⟩
 ·rintro _ - ⟨u1,u3,u5,u14,u15,u17,rfl,g1,g5,g17⟩;simp only[Tree.goal,X.P,X.ev,SV.ev,CV.ev,Sc.ev,qz,QA,QB,QC,QD,QE,QF,QG,QH,QI,QJ,QK,QL,QM,Nat.reduceAdd,qy3,qy4];intro w3 hr3;refine⟨⟨kA,wA.take 2,[(sA,.slice none 0 0,.slice none 0 0)],wL.take 1,0,[],u1,u5,u14,u17,.slice none 0 0⟩,rfl,rfl,rfl,⟨hr3.at_ 7 rfl,hr3.at_ 5 rfl,(hr3.at_ 2 rfl:owns _ _ _ _ _).reads,hr3.at_ 0 rfl,Z7 _ _,Zzh _,fun j _ h=>g1 j h,fun j _ h=>g5 j h,fun j _ h=>Z2f hr3 2 rfl j h,fun j _ h=>g17 j h,fun j h=>absurd rfl h,fun j hj=>absurd hj (Znl j)⟩,hr3.mod⟩
end Go.Proofs.YtkhakgbnfapifaaGreatDoor
namespace Go.Proofs.YtkhakgbnfapifaaGreatDoor
open Go Go.Sx
theorem Zwo:chkB smT=0:=by decide +kernel
theorem Z7q:SmlT smT:=.of (Z6l.1 Zwo)
abbrev annB:List UInt8:=[97,110,110]
theorem Z11p:pktE annB pubP smT=0:=by decide +kernel
theorem Z11q:msgE 3 mGet smT=0:=by decide +kernel
theorem Zzi:gonE annB smT=0:=by decide +kernel
theorem Zsk:(Zq annB pubP smT).sess.length=1/\((Zq annB pubP smT).sess.getD 0 s0).fl.length=1/\(Zq annB pubP smT).out.length=3/\((Zq annB pubP smT).out.getD 0 sntD.1).pk.kind=4/\((Zq annB pubP smT).out.getD 2 sntD.1).msg.pay=[104,105]:=by decide +kernel
theorem Zsl:(Z5c 3 mGet smT).wat.length=2/\(Z5c 3 mGet smT).out.length=1/\((Z5c 3 mGet smT).out.getD 0 sntD.1).msg.code=69:=by decide +kernel
theorem Znm:(Z5b annB smT).sess.length=1/\((Z5b annB smT).sess.getD 0 s0).on=false:=by decide +kernel
abbrev pbV (p:Pkt):List V:=[.i p.kind,.b p.dup,.b p.retain,.b p.clean,.b p.session,.i p.qos,.i p.id,.i p.keep,.i p.code,.s p.client,.s p.topic,.s p.payload,.v (.slice none 0 0),.r [],.v (.slice none 0 0),.r []]
theorem Zg0 (t:Tel):resB 0 t=t:=if_pos rfl
theorem Zg1 (w:World):Calls Tryz.prog 16 #[] w fun e w'=>e=.returned (.bool true)/\Mod [] w w':=by
 refine Z2 (Za (ρ:=[]) sxE_ok Tryz.func16 Z3f rfl rfl rfl ?_) rfl;simp only[Tree.goal,X.P,X.ev,SV.ev,CV.ev,Sc.ev,qz,QA,QB,QC,QD,QE,QF,QG,QH,QI,QJ,QK,QL,QM,Nat.reduceAdd,qy3,qy4];intro w1 hr1;refine(Zlo hr1 0 (Zfz w1) rfl).mono ?_;rintro r w2 ⟨y1,t1,-,-,rfl,m1,m3,m4⟩;refine⟨smV y1,rfl,rfl,m1,qy5 _,m3,m4,?_⟩;clear m1 m3 m4 hr1;intro w3 hr3;refine(Z12u w3).mono ?_;rintro r w4 ⟨rfl,m1⟩;refine⟨pbV pubP,rfl,rfl,m1,qy5 _,qy2.2 ⟨⟨Z7 w4 _,fun k hk=>absurd rfl hk.1⟩,qy2.2 ⟨⟨Z7 w4 _,fun k hk=>absurd rfl hk.1⟩,qy5 _⟩⟩,Z91 (by simp[Ent.wr]),?_⟩;clear m1 hr3;intro w5 hr5;have b1:y1.bare.tel=smT:=by rw[Z1l,t1];rfl
 have hc:=Z69 w5 y1.bare annB pubP (.slice none 0 0) (.slice none 0 0) (Zhx ⟨hr5.at_ 2 rfl,hr5.at_ 3 rfl,hr5.at_ 4 rfl,Z31 (y:=y1) (hr5.at_ 6 rfl),hr5.at_ 5 rfl⟩ (hr5.at_ 0 rfl) (hr5.at_ 1 rfl)) rfl (SmlT.b (by rw[b1];exact Z7q)) (SmlT.f (by rw[b1];exact Z7q)) (by decide) Znk;rw[b1,Z11p,Zg0]at hc;refine(Zei hr5 26 hc rfl).mono ?_;rintro r w6 ⟨y2,t2,-,rfl,m1,m3,m4⟩;refine⟨brV y2 0,rfl,rfl,m1,qy5 _,m3,m4,?_⟩;clear m1 m3 m4 hr5 hc;intro b39 w7 hr7;refine(Zlo hr7 40 (Zfz w7) rfl).mono ?_;rintro r w8 ⟨y3,t3,-,-,rfl,m1,m3,m4⟩;refine⟨smV y3,rfl,rfl,m1,qy5 _,m3,m4,?_⟩;clear m1 m3 m4 hr7;intro w9 hr9;refine(Zyr w9).mono ?_;rintro r w10 ⟨v4,rfl,r1,f1,m1⟩;refine⟨mgV mGet v4,rfl,rfl,m1,qy5 _,qy2.2 ⟨⟨r1,fun k hk=>.inl (f1 k hk)⟩,qy5 _⟩,Z4,?_⟩;clear r1 f1 m1 hr9;intro w11 hr11;have b3:y3.bare.tel=smT:=by rw[Z1l,t3];rfl
 have hc:=Znj w11 y3.bare 3 mGet v4 (Z11o ⟨hr11.at_ 1 rfl,hr11.at_ 2 rfl,hr11.at_ 3 rfl,Z31 (y:=y3) (hr11.at_ 5 rfl),hr11.at_ 4 rfl⟩ (hr11.at_ 0 rfl)) rfl (SmlT.b (by rw[b3];exact Z7q)) (SmlT.f (by rw[b3];exact Z7q)) (by decide) (by decide) (by decide);rw[b3,Z11q,Zg0]at hc;refine(Zei hr11 57 hc rfl).mono ?_;rintro r w12 ⟨y5,t5,-,rfl,m1,m3,m4⟩;refine⟨brV y5 0,rfl,rfl,m1,qy5 _,m3,m4,?_⟩;clear m1 m3 m4 hr11 hc;intro b70 w13 hr13;refine(Zlo hr13 71 (Zfz w13) rfl).mono ?_;rintro r w14 ⟨y6,t6,-,-,rfl,m1,m3,m4⟩;refine⟨smV y6,rfl,rfl,m1,qy5 _,m3,m4,?_⟩;clear m1 m3 m4 hr13;intro w15 hr15;have b6:y6.bare.tel=smT:=by rw[Z1l,t6];rfl
 have hc:=Zjf w15 y6.bare annB (Zsj ⟨hr15.at_ 0 rfl,hr15.at_ 1 rfl,hr15.at_ 2 rfl,Z31 (y:=y6) (hr15.at_ 4 rfl),hr15.at_ 3 rfl⟩) rfl (SmlT.b (by rw[b6];exact Z7q)) (SmlT.f (by rw[b6];exact Z7q)) (by decide);rw[b6,Zzi,Zg0]at hc;refine(Zsh hr15 81 hc rfl).mono ?_;rintro r w16 ⟨y7,t7,-,-,rfl,m1,m3,m4⟩;refine⟨gnV y7 0,rfl,rfl,m1,qy5 _,m3,m4,?_⟩;clear m1 m3 m4 hr15 hc;intro b92 w17 hr17;refine(Zlo hr17 93 (Zfz w17) rfl).mono ?_;rintro r w18 ⟨y8,t8,-,-,rfl,m1,m3,m4⟩;refine⟨smV y8,rfl,rfl,m1,qy5 _,m3,m4,?_⟩;clear m1 m3 m4 hr17;have b8:y8.bare.tel=smT:=by rw[Z1l,t8];rfl
 refine⟨[.i 0],rfl,fun _ w' hr=>?_,?_⟩
 ·have hc:=Z6o w' y8.bare (RdX.rel ⟨hr.at_ 0 rfl,hr.at_ 1 rfl,hr.at_ 2 rfl,Z31 (y:=y8) (hr.at_ 4 rfl),hr.at_ 3 rfl⟩) rfl (SmlT.b (by rw[b8];exact Z7q));rw[b8,Zwo]at hc;exact hc
 simp only[Tree.goal,X.P,X.ev,SV.ev,CV.ev,Sc.ev,qz,QA,QB,QC,QD,QE,QF,QG,QH,QI,QJ,QK,QL,QM,Nat.reduceAdd,qy3,qy4];have lenX:∀y:TelX,y.tel.sess.length=y.sx.length/\y.tel.out.length=y.ox.length:=fun y=>⟨by simp[TelX.tel],by simp[TelX.tel]⟩
 obtain⟨a1,a2,a3,a4,a5⟩:=Zsk;obtain⟨c1,c2,c3⟩:=Zsl;obtain⟨d1,d2⟩:=Znm;rw[<- t2]at a1 a2 a3 a4 a5;rw[<- t5]at c1 c2 c3;rw[<- t7]at d1 d2;rw[(lenX y2).1]at a1;rw[(lenX y2).2]at a3;rw[(lenX y5).2]at c2;rw[(lenX y7).1]at d1;simp only[TelX.tel,Zhj,Z12t]at a2 a4 a5 c1 c3 d2;have q1:=Z9r (l:=y2.sx) (i:=0) (by omega);have q2:=Zfu (l:=y2.ox) (i:=0) (by omega);have q3:=Zfu (l:=y2.ox) (i:=2) (by omega);have q4:=Zfu (l:=y5.ox) (i:=0) (by omega);have q5:=Z9r (l:=y7.sx) (i:=0) (by omega);have mm:=Zca (l:=y2.sx) (i:=0) (by omega);refine⟨.inr (by omega),fun _=>?_,fun h=>absurd ⟨⟨⟨⟨⟨trivial,trivial⟩,trivial⟩,trivial⟩,by omega⟩,by omega⟩ h⟩;refine⟨(y2.sx.getD 0 sxD).1.fl.map encF,fun w' hr=>?_,?_⟩
 ·have hnn:=Zx (hr.at_ 35 rfl:(Z6 y2.sx y2.ox).holds w') mm;have hv:((y2.sx.map Zg).getD 0 []).getD 3 undef=(y2.sx.getD 0 sxD).2.1:=by rw[q1];exact hnn.1.sc1
  have hv':(((y2.sx.map Zg).getD (0:Int).toNat []).getD 3 undef)=(y2.sx.getD 0 sxD).2.1:=hv;refine⟨by rw[hv'];exact hnn.1,fun hne k hk e he hw hf=>?_⟩;have hk':Z1 (y2.sx.getD 0 sxD).2.1 k:=by rw[<- hv'];exact hk
  exact hr.disj (qy6 (i:=35) rfl) he (fun h=>by subst h;cases hw) (.inr hw) (Ze.2 (.inl ⟨_,mm,.inl ⟨hne,hk'⟩⟩)) hf
 ·simp only[Tree.goal,X.P,X.ev,SV.ev,CV.ev,Sc.ev,qz,QA,QB,QC,QD,QE,QF,QG,QH,QI,QJ,QK,QL,QM,Nat.reduceAdd,qy3,qy4];have e1:Value.gI (((y2.ox.map Z22).getD (Int.toNat 0) []).getD 1 undef)=4:=by rw[show Int.toNat 0=0 from rfl,q2];exact a4
  have e2:Value.gS (((y2.ox.map Z22).getD (Int.toNat 2) []).getD 21 undef)=[104,105]:=by rw[show Int.toNat 2=2 from rfl,q3];exact a5
  have e3:Value.gI (((y5.ox.map Z22).getD (Int.toNat 0) []).getD 17 undef)=69:=by rw[show Int.toNat 0=0 from rfl,q4];exact c3
  have e4:Value.gB (((y7.sx.map Zg).getD (Int.toNat 0) []).getD 1 undef)=false:=by rw[show Int.toNat 0=0 from rfl,q5];exact d2
  rw[e1,e2,e3,e4];refine⟨.inr (by omega),.inr (by omega),.inr (by omega),.inr (by omega),fun w' hr=>⟨?_,hr.mod⟩⟩;have i1:((y2.sx.getD 0 sxD).1.fl.length:Int)=1:=by omega
  have i2:(y2.ox.length:Int)=3:=by omega
  have i3:(y5.wat.length:Int)=2:=by omega
  have i4:(y5.ox.length:Int)=1:=by omega
  rw[i1,i2,i3,i4];rfl
end Go.Proofs.YtkhakgbnfapifaaGreatDoor
namespace Go.Proofs.YtkhakgbnfapifaaGreatDoor
open Go.Sx
def ahead (acc:List Opt):Option (List Opt×List UInt8)->Option (List Opt×List UInt8)
 | none=>none
 | some p=>some (acc++p.1,p.2)
end Go.Proofs.YtkhakgbnfapifaaGreatDoor
namespace Go.Proofs.YtkhakgbnfapifaaGreatDoor
open Go Go.Sx
theorem Z7r {c:List UInt8} {p:Pkt} {t:Tel} (h:pktE c p t=0):BOk t/\Zn c=true/\chkP p=0:=by
 unfold pktE at h;split at h
 ·exact absurd h (by assumption)
 rename_i h1;split at h
 ·exact absurd h (by decide)
 rename_i h2;exact⟨Z6l.1 (qy9.1 h1),qy9.1 h2,h⟩
end Go.Proofs.YtkhakgbnfapifaaGreatDoor
namespace Go.Proofs.YtkhakgbnfapifaaGreatDoor
open Go.Sx
def conP (c:List UInt8):Pkt:={ pD_Q 1 with client:=c,clean:=true }
def clnS (c:List UInt8):Ses:=⟨c,true,true,[],[],1⟩
theorem Zg2 {t:Tel} (h:BOk t) {c:List UInt8} (hn:¬hasS t.sess c=true):t.wants.filter (fun w=>decide (¬w.1=c))=t.wants :=
 List.filter_eq_self.2 fun w hw=>decide_eq_true fun e=>hn (by rw[<- e];exact h.has w hw)
theorem Zlp (c:List UInt8):(conP c).kind=1:=rfl
theorem Z11r (c:List UInt8) (t:Tel):Zq c (conP c) t=Z27 c (conP c) t:=by rw[Zq,if_neg (fun h=>h.1 (Zlp c)),if_pos (Zlp c)]
theorem Znn {t:Tel} {c:List UInt8} (hn:¬hasS t.sess c=true) (hl:t.sess.length=6):Zq c (conP c) t={ t with out:=t.out++[toC c { pD_Q 2 with code:=3 }] }:=by rw[Z11r,Z27,if_neg (show ¬¬(conP c).client=c from qy9.2 rfl),if_pos ⟨hn,hl⟩]
theorem Zsm (l:List Ses) (c:List UInt8):Zd6 (Z8v l c true)=(clnS c,[]):=by
 have hk:Z64 l c true=false:=by simp[Z64]
 rw[Z8v,if_neg (by rw[hk];decide)];rfl
theorem Zhy {t:Tel} (h:BOk t) {c:List UInt8} (hn:¬hasS t.sess c=true) (hl:¬t.sess.length=6) : Zq c (conP c) t={ t with sess:=t.sess.take (idxS t.sess c)++[clnS c]++t.sess.drop (idxS t.sess c),out:=t.out++[toC c (pD_Q 2)] }:=by
 have hk:Z64 t.sess c true=false:=by simp[Z64]
 rw[Z11r,Z27,if_neg (show ¬¬(conP c).client=c from qy9.2 rfl),if_neg (fun h=>hl h.2)];simp only[conP,Zsm,hk,if_neg Bool.false_ne_true,Zg2 h hn,(Zfo hn (clnS c)).1,List.map_nil,List.append_nil];try rfl
theorem Zsn {l:List Ses} (hs:Z2z l) {c:List UInt8} {s:Ses} (he:s.cl=c):idxS (l.take (idxS l c)++[s]++l.drop (idxS l c)) c=idxS l c:=by
 unfold idxS;have h1:=Z113 (c:=c) hs;have h2:=Zfk (c:=c) hs;unfold idxS at h1 h2;rw[h1,h2,List.filter_append,List.filter_append,List.filter_filter,List.filter_filter];have e1:[s].filter (fun s=>Zd s.cl c)=[]:=by rw[List.filter_cons,he,Z17];rfl
 have e2:l.filter (fun s=>Zd s.cl c && !Zd s.cl c)=[]:=by rw[List.filter_eq_nil_iff];intro x _;simp
 rw[e1,e2,List.append_nil,List.append_nil];congr 1
 congr 1
 funext x;simp
theorem Zlq {l:List Ses} (hs:Z2z l) {c:List UInt8} {s:Ses} (he:s.cl=c):hasS (l.take (idxS l c)++[s]++l.drop (idxS l c)) c=true:=by have hle:=Z7o l c;refine decide_eq_true ?_;rw[Zsn hs he];refine⟨by simp;omega,?_⟩;rw[qy1,List.append_assoc,List.getElem?_append_right (by rw[List.length_take];exact Nat.min_le_left _ _),List.length_take,Nat.min_eq_left hle,Nat.sub_self];exact he
theorem Zlr {l:List Ses} (hs:Z2z l) {c:List UInt8} {s:Ses} (he:s.cl=c):(l.take (idxS l c)++[s]++l.drop (idxS l c)).getD (idxS (l.take (idxS l c)++[s]++l.drop (idxS l c)) c) s0=s:=by have hle:=Z7o l c;rw[Zsn hs he,qy1,List.append_assoc,List.getElem?_append_right (by rw[List.length_take];exact Nat.min_le_left _ _),List.length_take,Nat.min_eq_left hle,Nat.sub_self];rfl
theorem Zls {t z:Tel} (hs:Z2z t.sess) {c:List UInt8} (hz:z.sess=t.sess.take (idxS t.sess c)++[clnS c]++t.sess.drop (idxS t.sess c)) : Z5b c z={ z with sess:=t.sess,wants:=z.wants.filter fun w=>decide (¬w.1=c) }:=by
 have hle:=Z7o t.sess c;have h1:hasS z.sess c=true:=by rw[hz];exact Zlq hs rfl
 have h2:z.sess.getD (idxS z.sess c) s0=clnS c:=by rw[hz];exact Zlr hs rfl
 have h3:idxS z.sess c=idxS t.sess c:=by rw[hz];exact Zsn hs rfl
 have h4:z.sess.take (idxS t.sess c)++z.sess.drop (idxS t.sess c+1)=t.sess:=by
  have e1:(t.sess.take (idxS t.sess c)).length=idxS t.sess c:=by rw[List.length_take,Nat.min_eq_left hle]
  rw[hz,List.append_assoc,List.take_left' e1,<- List.drop_drop,List.drop_left' e1];exact List.take_append_drop _ _
 rw[Z5b,if_pos h1,h2,if_pos (show (goR (clnS c)).clean=true from rfl),h3,h4];rfl
theorem Zvv {l:List Wt} {x:Wt} (hs:Z7d l) (h0:(rawW l x).2=0):(rawW l x).1.filter (fun w=>decide (¬w.1=x.1))=l.filter (fun w=>decide (¬w.1=x.1)):=by
 rw[Zff hs h0];have h3:=(Ze1 l (ky x) hs).1;have e:l.filter (fun w=>decide (¬w.1=x.1))=(loW l (ky x)++miW l (ky x)++hiW l (ky x)).filter (fun w=>decide (¬w.1=x.1)):=by rw[<- h3]
 have m:(miW l (ky x)).filter (fun w=>decide (¬w.1=x.1))=[]:=by rw[List.filter_eq_nil_iff];intro w hw;have:=of_decide_eq_true (List.mem_filter.1 hw).2;have h1:w.1=x.1:=congrArg (fun k:Ky=>k.1) this;simp[h1]
 rw[e,List.filter_append,List.filter_append,List.filter_append,List.filter_append,m];simp
theorem Zhz {c:List UInt8} (hc:Zn c=true):∀(l:List Ak) {x:List Wt×List Int},Zco l->Zy x.1=0->(l.foldl (Z33 c) x).1.filter (fun w=>decide (¬w.1=c))=x.1.filter fun w=>decide (¬w.1=c)
 | [],_,_,_=>rfl
 | a::l,x,h,hx=>by
  have ha:=h a (qy8 ..);rw[List.foldl_cons,Zhz hc l (fun b hb=>h b (qy10 _ hb)) (Zrn hc ha hx).1];unfold Z33;split
  ·rename_i h1;exact Zvv (x:=(c,a.1,a.2)) (Zz.1 hx).2.2 h1
  ·rfl
def subP (asks:List Ak):Pkt:={ pD_Q 8 with id:=1,asks:=asks }
theorem Z11s {c:List UInt8} {asks:List Ak} {t:Tel} (h1:hasS t.sess c=true) (h2:(t.sess.getD (idxS t.sess c) s0).on=true):Zq c (subP asks) t=Z10 c (subP asks) t:=by
 rw[Zq,if_neg,if_neg (show ¬(subP asks).kind=1 from (by show ¬(8:Int)=1;decide)),if_neg (show ¬(subP asks).kind=3 from (by show ¬(8:Int)=3;decide)),if_neg (show ¬(subP asks).kind=4 from (by show ¬(8:Int)=4;decide)),if_pos (show (subP asks).kind=8 from rfl)];rintro⟨-,h|h⟩
 ·exact h h1
 ·exact h h2
theorem Zej {t:Tel} (h:BOk t) {c:List UInt8} (hc:Zn c=true) (hn:¬hasS t.sess c=true) {x:Tel} (hx:x={ t with sess:=t.sess.take (idxS t.sess c)++[clnS c]++t.sess.drop (idxS t.sess c),out:=[] }) (asks:List Ak) (ha:Zco asks) :
  Z5b c x={ t with out:=[] }/\Z5b c { Zq c (subP asks) x with out:=[] }={ t with out:=[] }:=by
 have hxs:x.sess=t.sess.take (idxS t.sess c)++[clnS c]++t.sess.drop (idxS t.sess c):=by rw[hx]
 have h1:hasS x.sess c=true:=by rw[hxs];exact Zlq (c:=c) (s:=clnS c) h.sort rfl
 have h2:(x.sess.getD (idxS x.sess c) s0).on=true:=by rw[hxs,Zlr (c:=c) (s:=clnS c) h.sort rfl];rfl
 have hw:x.wants=t.wants:=by rw[hx]
 refine⟨?_,?_⟩
 ·rw[Zls h.sort hxs,hx];simp only[Zg2 h hn]
 ·rw[Z11s h1 h2];refine(Zls (t:=t) (z:={ Z10 c (subP asks) x with out:=[] }) h.sort hxs).trans ?_;have e:(Z10 c (subP asks) x).wants.filter (fun w=>decide (¬w.1=c))=t.wants:=by
   show ((Z7g c x.wants asks).1).filter _=_
   rw[Z7g,Zhz hc asks ha (by rw[hw];exact h.wants),hw];exact Zg2 h hn
  simp only[e];rw[Z10,hx]
theorem Zzj {t:Tel} {c:List UInt8} {p:Pkt} (h1:hasS t.sess c=true) (h2:(t.sess.getD (idxS t.sess c) s0).on=true) (hk:p.kind=3) (hq:p.qos=1) (ho:t.out=[]) : [toC c { pD_Q 4 with id:=p.id }] <+: (Zq c p t).out:=by
 rw[Zq,if_neg,if_neg (by rw[hk];decide),if_pos hk,Z3d]
 ·simp only[if_pos hq,ho,List.nil_append];refine List.IsPrefix.trans ?_ (Zlk ..);split
  ·exact List.IsPrefix.trans (List.prefix_refl _) (Zft _ _ { t with out:=[toC c { pD_Q 4 with id:=p.id }] })
  ·exact List.prefix_refl _
 ·rintro⟨-,h|h⟩
  ·exact h h1
  ·exact h h2
theorem Zso {t:Tel} {c:List UInt8} {asks:List Ak} (ho:t.out=[]):(Z10 c (subP asks) t).out=toC c { pD_Q 9 with id:=1,codes:=(Z7g c t.wants asks).2 }::Z4e c t.kept asks (Z7g c t.wants asks).2/\(Z7g c t.wants asks).2.length=asks.length:=by
 refine⟨?_,?_⟩
 ·rw[Z10,ho];rfl
 ·have:=Zfr c asks (t.wants,[]);rw[Z7g,this];simp
end Go.Proofs.YtkhakgbnfapifaaGreatDoor
