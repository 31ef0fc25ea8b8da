/-
  Texts of mine, one behind the other. By an AI agent.
-/
import Derived.Test.YtkhakgbnfapifaaGreatDoorX17
import Derived.Test.YtkhakgbnfapifaaGreatDoorX10
import Derived.Test.YtkhakgbnfapifaaGreatDoorX18
import Derived.Test.YtkhakgbnfapifaaGreatDoorX19
import Derived.Test.YtkhakgbnfapifaaGreatDoorX08
import Derived.Test.YtkhakgbnfapifaaGreatDoorX15
import Derived.Test.YtkhakgbnfapifaaGreatDoorX09
import Derived.Test.YtkhakgbnfapifaaGreatDoorX12
set_option linter.unusedSimpArgs false
set_option linter.unusedVariables false
set_option maxHeartbeats 20000000
namespace Go.Proofs.YtkhakgbnfapifaaGreatDoor
open Go Go.Sx
def atS (l:List Ses) (n:List UInt8):Int:=if hasS l n=true then (idxS l n:Int) else -1
theorem Z8v (w:World) (v:Value) (l:List SesX) (n:List UInt8) (hv:reads w v kSx (l.map Zh)) (hs:Z5n (l.map (·.1))) (hl:l.length<1000000000) : Calls Tryz.prog 22 #[sc1 v,.string ⟨n.toArray⟩] w fun e w'=>e=.returned (.int .i64 (atS (l.map (·.1)) n))/\Mod [] w w':=by
  refine Z1 (Z3 (ρ:=[.v v,.r (l.map Zh),.s n]) sxE_ok Tryz.func22 Z4v rfl rfl (Rel.start2 (by simp[Ent.holds,Ent.wr,hv,X.ev])) rfl rfl ?_) rfl;simp only[Tree.goal,X.P,X.ev,SV.ev,CV.ev,Sc.ev,qz,QA,QB,QC,QD,QE,QF,QG,QH,QI,QJ,QK,QL,QM,Nat.reduceAdd,qy3,qy4];refine⟨fun vs=>∃(i:Nat) (x:V),vs=[x,.i i]/\i<=l.length/\∀j,j<i->¬(l.getD j sxD).1.cl=n,fun vs=>l.length - (vs.getD 1 (.i 0)).toI.toNat,⟨0,_,rfl,by omega,fun j hj=>by omega⟩,?_⟩;rintro _ - ⟨i,x,rfl,hi,hall⟩;simp only[Tree.goal,X.P,X.ev,SV.ev,CV.ev,Sc.ev,qz,QA,QB,QC,QD,QE,QF,QG,QH,QI,QJ,QK,QL,QM,Nat.reduceAdd,qy3,qy4,gSx0];refine⟨fun h1=>⟨by omega,fun h2 w' hr=>⟨?_,hr.mod⟩,fun h2=>⟨by omega,by omega,⟨i+1,x,rfl,by omega,fun j hj=>?_⟩,by omega⟩⟩,fun h1 w' hr=>⟨?_,hr.mod⟩⟩
  . have hi':i<l.length:=by omega
    have e:=Zj3 (l:=l) (n:=n) (i:=i) (by omega) (fun k hk=>by rw[<- h2];exact Zcl hs (i:=k) (j:=i) hk hi') (fun k h3 h4=>by
      by_cases hk:k=i
      . rw[hk,h2];exact Z1g _
      . rw[<- h2];exact Z43 (Zcl hs (i:=i) (j:=k) (by omega) h4))
    have hh:hasS (l.map (·.1)) n=true:=decide_eq_true (by rw[<- e,Zj2,qy3];exact⟨hi',h2⟩);rw[atS,if_pos hh,<- e]
  . by_cases hji:j=i
    . rw[hji];exact h2
    . exact hall j (by omega)
  . have hie:i=l.length:=by omega
    have hh:¬hasS (l.map (·.1)) n=true:=fun h=>by obtain⟨h3,h4⟩:=Z8t h;rw[qy3]at h3;rw[Zj2]at h4;exact hall _ (by omega) h4
    rw[atS,if_neg hh]
def Zl0 (x y:Tel):Bool:=decide (x.next=y.next/\x.kept=y.kept/\x.wants=y.wants/\x.wat=y.wat/\x.sess=y.sess)
theorem Zub {x y:Tel}:Zl0 x y=true↔{ x with out:=[] }={ y with out:=[] }:=by cases x;cases y;simp only[Zl0,decide_eq_true_eq,Tel.mk.injEq];exact⟨fun ⟨a,b,c,d,e⟩=>⟨b,c,e,d,a,trivial⟩,fun ⟨b,c,e,d,a,_⟩=>⟨a,b,c,d,e⟩⟩
theorem Z11i {a b:List SesX} (hl:a.length=b.length) (h:∀i,i<a.length->(a.getD i sxD).1=(b.getD i sxD).1):a.map (·.1)=b.map (·.1):=by refine List.ext_getElem (by simpa using hl) fun i h1 h2=>?_;rw[qy3]at h1 h2;have:=h i h1;rw[qy1,qy1,qy7 h1,qy7 h2]at this;simpa using this
theorem Zjh (w:World) (x y:TelX) (hx:RdX w x) (hy:RdX w y) (h1:x.kept.length<1000000000) (h2:x.wants.length<1000000000) (h3:x.wat.length<1000000000) (h4:x.sx.length<1000000000) (h5:∀t∈x.sx,t.1.fl.length<1000000000/\t.1.qu.length<1000000000) : Calls Tryz.prog 23 #[bkV x,bkV y] w fun e w'=>e=.returned (.bool (Zl0 x.tel y.tel))/\Mod [] w w':=by
  refine Z1 (Z3 (ρ:=bkA x++bkA y) sxE_ok Tryz.func23 Z4l rfl rfl
    (Rel.start2 (qy2.2 ⟨⟨hx.kept,rfl⟩,qy2.2 ⟨⟨hx.want,rfl⟩,qy2.2 ⟨⟨hx.sess,rfl⟩,qy2.2 ⟨⟨hx.nest,rfl⟩,qy2.2 ⟨⟨hx.wat,rfl⟩,qy2.2 ⟨⟨hy.kept,rfl⟩,qy2.2 ⟨⟨hy.want,rfl⟩,qy2.2 ⟨⟨hy.sess,rfl⟩,qy2.2 ⟨⟨hy.nest,rfl⟩,qy2.2 ⟨⟨hy.wat,rfl⟩,qy5 _⟩⟩⟩⟩⟩⟩⟩⟩⟩⟩)) rfl rfl ?_) rfl
  simp only[Tree.goal,X.P,X.ev,SV.ev,CV.ev,Sc.ev,qz,QA,QB,QC,QD,QE,QF,QG,QH,QI,QJ,QK,QL,QM,Nat.reduceAdd,qy3,qy4];intro b20 b21;refine⟨[.b (decide (x.kept=y.kept))],rfl,fun _ w' hr=>Zoa w' x.kv y.kv _ _ (hr.at_ 2 rfl) (hr.at_ 7 rfl) h1,?_⟩;simp only[Tree.goal,X.P,X.ev,SV.ev,CV.ev,Sc.ev,qz,QA,QB,QC,QD,QE,QF,QG,QH,QI,QJ,QK,QL,QM,Nat.reduceAdd,qy3,qy4];refine⟨[.b (decide (x.wants=y.wants))],rfl,fun _ w' hr=>Zkz w' x.wv y.wv _ _ (hr.at_ 3 rfl) (hr.at_ 8 rfl) h2,?_⟩;simp only[Tree.goal,X.P,X.ev,SV.ev,CV.ev,Sc.ev,qz,QA,QB,QC,QD,QE,QF,QG,QH,QI,QJ,QK,QL,QM,Nat.reduceAdd,qy3,qy4];refine⟨[.b (decide (x.wat=y.wat))],rfl,fun _ w' hr=>Zgq w' x.av y.av _ _ (hr.at_ 6 rfl) (hr.at_ 11 rfl) (by omega),?_⟩;simp only[Tree.goal,X.P,X.ev,SV.ev,CV.ev,Sc.ev,qz,QA,QB,QC,QD,QE,QF,QG,QH,QI,QJ,QK,QL,QM,Nat.reduceAdd,qy3,qy4,decide_eq_true_eq];have hsl:x.tel.sess=y.tel.sess->x.sx.length=y.sx.length:=fun e=>by have:=congrArg List.length e;simpa [TelX.tel]using this
  refine⟨fun h w' hr=>⟨?_,hr.mod⟩,fun h=>?_⟩
  . have:¬Zl0 x.tel y.tel=true:=fun hh=>by
      obtain⟨a,b,c,d,e⟩:=of_decide_eq_true hh;have:=hsl e;rcases h with (((h|h)|h)|h)|h
      . exact h a
      . exact h b
      . exact h c
      . exact h d
      . omega
    rw[Bool.eq_false_iff.2 this]
  . have hn:x.next=y.next:=Classical.byContradiction fun h6=>h (.inl (.inl (.inl (.inl h6))));have hk:x.kept=y.kept:=Classical.byContradiction fun h6=>h (.inl (.inl (.inl (.inr h6))));have hw:x.wants=y.wants:=Classical.byContradiction fun h6=>h (.inl (.inl (.inr h6)));have ha:x.wat=y.wat:=Classical.byContradiction fun h6=>h (.inl (.inr h6));have hl:x.sx.length=y.sx.length:=by
      have:(x.sx.length:Int)=y.sx.length:=Classical.byContradiction fun h6=>h (.inr h6);omega
    clear h;refine⟨fun vs=>∃(i:Nat) (u:V),vs=[u,.i i]/\i<=x.sx.length/\∀j,j<i->(x.sx.getD j sxD).1=(y.sx.getD j sxD).1,fun vs=>x.sx.length - (vs.getD 1 (.i 0)).toI.toNat,⟨0,_,rfl,by omega,fun j hj=>by omega⟩,?_⟩;rintro _ - ⟨i,u,rfl,hi,hall⟩;simp only[Tree.goal,X.P,X.ev,SV.ev,CV.ev,Sc.ev,qz,QA,QB,QC,QD,QE,QF,QG,QH,QI,QJ,QK,QL,QM,Nat.reduceAdd,qy3,qy4];refine⟨fun h6=>⟨by omega,by omega,?_⟩,fun h6 w' hr=>⟨?_,hr.mod⟩⟩
    . have hi1:i<x.sx.length:=by omega
      have hi2:i<y.sx.length:=by omega
      have r1:=Z7x hi1;have r2:=Z7x hi2;have m1:=Z5p hi1;refine⟨[.b (decide ((x.sx.getD i sxD).1=(y.sx.getD i sxD).1))],rfl,fun _ w' hr=>?_,?_⟩
      . have n1:=Zq (hr.at_ 5 rfl:(Z6 x.sx x.ox).holds w') m1;have n2:=Zq (hr.at_ 10 rfl:(Z6 y.sx y.ox).holds w') (Z5p hi2);refine Z1 (Zgs w' (x.sx.getD i sxD).1 (y.sx.getD i sxD).1 (x.sx.getD i sxD).2.1 (x.sx.getD i sxD).2.2 (y.sx.getD i sxD).2.1 (y.sx.getD i sxD).2.2 n1.1 n1.2 n2.1 n2.2 (h5 _ m1).1 (h5 _ m1).2) ?_;simp only[Tree.goal,X.P,X.ev,SV.ev,CV.ev,Sc.ev,qz,QA,QB,QC,QD,QE,QF,QG,QH,QI,QJ,QK,QL,QM,Nat.reduceAdd,qy3,qy4,r1,r2,Zh,List.getD_cons_zero,List.getD_cons_succ,Value.gI,Value.gB,Value.gS,Z1x,sesV]
      simp only[Tree.goal,X.P,X.ev,SV.ev,CV.ev,Sc.ev,qz,QA,QB,QC,QD,QE,QF,QG,QH,QI,QJ,QK,QL,QM,Nat.reduceAdd,qy3,qy4,decide_eq_true_eq];refine⟨fun h7 w' hr=>⟨?_,hr.mod⟩,fun h7=>⟨by omega,by omega,⟨i+1,u,rfl,by omega,fun j hj=>?_⟩,by omega⟩⟩
      . have:¬Zl0 x.tel y.tel=true:=fun hh=>by
          obtain⟨-,-,-,-,e⟩:=of_decide_eq_true hh;have e2:=congrArg (fun l:List Ses=>l.getD i s0) e;simp only[TelX.tel,Zj2]at e2;exact h7 e2
        rw[Bool.eq_false_iff.2 this]
      . by_cases hji:j=i
        . rw[hji];exact qy9.1 h7
        . exact hall j (by omega)
    . have hie:i=x.sx.length:=by omega
      have:Zl0 x.tel y.tel=true:=decide_eq_true ⟨hn,hk,hw,ha,Z11i hl (fun j hj=>hall j (by omega))⟩;rw[this]
theorem Z150 (l:List SntX) (i:Nat):(l.map (·.1)).getD i sntD.1=(l.getD i sntD).1:=by rw[qy1,qy1,List.getElem?_map];cases l[i]?<;>rfl
end Go.Proofs.YtkhakgbnfapifaaGreatDoor
namespace Go.Proofs.YtkhakgbnfapifaaGreatDoor
open Go.Sx
abbrev totA (k:Int) (l:List Ak):Nat:=(l.map (Zy6 k)).flatten.length
structure BdP (s:List UInt8) (p:Pkt):Prop where
 kind:0<=p.kind/\p.kind<=15
 qos:0<=p.qos/\p.qos<=3
 id:0<=p.id/\p.id<=65535
 keep:0<=p.keep/\p.keep<=65535
 code:0<=p.code/\p.code<=65535
 asks:∀a∈p.asks,a.1.length<=s.length/\0<=a.2/\a.2<256
 codes:∀c∈p.codes,0<=c/\c<256
 client:p.client.length<=s.length
 topic:p.topic.length<=s.length
 payload:p.payload.length<=s.length
 total:totA p.kind p.asks<=s.length+3
 ncodes:p.codes.length<=s.length+1
def rdV (s:List UInt8) (a:Nat) (sh:Bool):List Value:=[.string ⟨s.toArray⟩,.int .i64 a,.bool sh]
abbrev rdAt (w:World) (b:Nat) (s:List UInt8) (a:Nat) (sh:Bool):Prop:=w.heap[b]?=some (.cells (rdV s a sh).toArray 219 (0,0))
def pC (p:Pkt) (u v:Value):List Value:=[.int .i64 p.kind,.bool p.dup,.bool p.retain,.bool p.clean,.bool p.session,.int .i64 p.qos,.int .i64 p.id,.int .i64 p.keep,.int .i64 p.code,.string ⟨p.client.toArray⟩,.string ⟨p.topic.toArray⟩,.string ⟨p.payload.toArray⟩,Go.Sx.sc1 u,Go.Sx.sc1 v]
abbrev pAt (w:World) (b:Nat) (p:Pkt) (u v:Value):Prop:=w.heap[b]?=some (.cells (pC p u v).toArray 31 (0,0))
section
variable (w:World) (b:Nat) (s:List UInt8) (a:Nat) (sh:Bool) (h:rdAt w b s a sh) (ha:a<=s.length) (hs:s.length<1000000000)
include h
end
end Go.Proofs.YtkhakgbnfapifaaGreatDoor
namespace Go.Proofs.YtkhakgbnfapifaaGreatDoor
open Go.Sx
abbrev nilV:Value:=.slice none 0 0
section
variable (w:World) (b c:Nat) (s:List UInt8) (a:Nat) (sh:Bool) (p:Pkt) (h:rdAt w b s a sh) (hp:pAt w c p nilV nilV) (hbc:b≠c) (ha:a<=s.length) (hs:s.length<1000000000)
include h hp hbc
end
section
variable (w:World) (b c:Nat) (s:List UInt8) (a:Nat) (sh:Bool) (p:Pkt) (h:rdAt w b s a sh) (hp:pAt w c p nilV nilV) (hbc:b≠c) (ha:a<=s.length) (hs:s.length<1000000000) (pz:p.asks=[]/\p.codes=[]) (hB:BdP s p)
include h hp hbc ha hs pz hB
end
end Go.Proofs.YtkhakgbnfapifaaGreatDoor
namespace Go.Proofs.YtkhakgbnfapifaaGreatDoor
open Go.Sx
end Go.Proofs.YtkhakgbnfapifaaGreatDoor
namespace Go.Proofs.YtkhakgbnfapifaaGreatDoor
open Go.Sx
def pubP:Pkt:=⟨3,false,false,false,false,1,10,0,0,[],[97,47,98],[104,105],[],[]⟩
theorem Zp5:SmallP pubP:=⟨by decide,by decide,by decide,by decide,by decide,by decide⟩
theorem Z151 (w:World):Calls Tryz.prog 63 #[] w fun e w'=>e=.returned (pV pubP nilV nilV)/\Mod [] w w':=by refine Z1 (Z7 (ρ:=[]) sxE_ok Tryz.func63 Z7s rfl rfl rfl ?_) rfl;simp only[Tree.goal,X.P,X.ev,SV.ev,CV.ev,Sc.ev,qz,QA,QB,QC,QD,QE,QF,QG,QH,QI,QJ,QK,QL,QM,Nat.reduceAdd];exact fun b w' hr=>⟨rfl,hr.mod⟩
section
variable (w:World) (p q:Pkt) (u v x y:Value)
end
end Go.Proofs.YtkhakgbnfapifaaGreatDoor
namespace Go.Proofs.YtkhakgbnfapifaaGreatDoor
open Go.Sx
def sA:Ses:=⟨[97,110,110],true,false,[],[],65535⟩
theorem Z13l (w:World):Calls Tryz.prog 150 #[] w fun e w'=>e=.returned (sesV sA (.slice none 0 0) (.slice none 0 0))/\Mod [] w w':=by refine Z1 (Z7 (ρ:=[]) sxE_ok Tryz.func150 Z6y rfl rfl rfl ?_) rfl;simp only[Tree.goal,X.P,X.ev,SV.ev,CV.ev,Sc.ev,qz,QA,QB,QC,QD,QE,QF,QG,QH,QI,QJ,QK,QL,QM,Nat.reduceAdd];exact fun b w' hr=>⟨rfl,hr.mod⟩
end Go.Proofs.YtkhakgbnfapifaaGreatDoor
namespace Go.Proofs.YtkhakgbnfapifaaGreatDoor
open Go Go.Sx
structure SmlT (t:Tel):Prop where
 kept:Zdo t.kept
 keptL:t.kept.length<1000000000
 wants:Z2i t.wants
 wantsL:t.wants.length<1000000000
 sess:∀s∈t.sess,Zeb s
 sessL:t.sess.length<1000000
 wat:Z64 t.wat
 watL:t.wat.length<1000000000
theorem SmlT.b {x:TelX} (h:SmlT x.tel):SmlB x :=
 ⟨h.kept,h.keptL,h.wants,h.wantsL,fun t ht=>h.sess _ (List.mem_map_of_mem ht),by have:=h.sessL;rw[show x.tel.sess.length=x.sx.length by simp[TelX.tel]]at this;exact this,h.wat,h.watL⟩
theorem SmlT.f {x:TelX} (h:SmlT x.tel):∀t∈x.sx,t.1.fl.length<1000000000/\t.1.qu.length<1000000000:=fun t ht=>by have:=h.sess _ (List.mem_map_of_mem ht);exact⟨this.2.2.1,this.2.2.2.1⟩
theorem Zec {f:Fl} (h:flE f=0):f.2.1.length<4294967281:=by
 unfold flE at h;split at h
 ·rename_i h1;have:=(Z73.1 h1).2.1.1;omega
 ·exact absurd h (by assumption)
theorem Zuc {s:Ses} (h:SesOk s):Zeb s:=by have h1:=h.nf;have h2:=h.nq;have h3:=h.cl;unfold Z12 at h3;rw[Bool.and_eq_true,decide_eq_true_eq]at h3;exact⟨fun x hx=>Zec (h.fl.each x hx).1,fun x hx=>Zec (h.qu x hx).1,by omega,by omega,by omega⟩
theorem Zud {l:List Wat} (h:Zw l=0):Z64 l:=fun x hx=>by
 have h1:=((Z19.1 h).2.1 x hx).1;unfold Z3e at h1
 (repeat' split at h1)<;>first|(have:=(Z73.1 h1).2.1.1;omega)|simp at h1
theorem SmlT.of {t:Tel} (h:BOk t):SmlT t:=by obtain⟨k1,k2,-⟩:=Z15.1 h.kept;have h3:=(Z18.1 h.wants).1;have h4:=(Z19.1 h.wat).1;have h5:=h.ns;exact⟨fun x hx=>by have:=(Z73.1 (k2 x hx).1).2.1.1;omega,by omega,Zb2 h.wants,by omega,fun s hs=>Zuc (h.ses s hs),by omega,Zud h.wat,by omega⟩
abbrev TelX.bare (y:TelX):TelX:={ y with ox:=[],ov:=.slice none 0 0 }
theorem Z7c {w:World} {y:TelX} (h:(Z6 y.sx y.ox).holds w):(Z6 y.sx []).holds w:=Z1j (fun t ht=>.inl ht) (fun t ht=>(List.not_mem_nil ht).elim) h
theorem Z33 (y:TelX):y.bare.tel={ y.tel with out:=[] }:=rfl
theorem Za9 {ρ:List V} {es:List Ent} (h:∀e∈es,e.wr=false):Z2s ρ es:=by
 induction es with
 | nil=>exact List.Pairwise.nil
 | cons a es ih =>
  refine List.pairwise_cons.2 ⟨fun b hb hw=>?_,ih fun e he=>h e (qy10 _ he)⟩;rw[h a (qy8 ..),h b (qy10 _ hb)]at hw;rcases hw with hw|hw<;>cases hw
abbrev brV (y:TelX) (e:Int):List V:=[.v y.kv,.r (y.kept.map encK),.v y.wv,.r (y.wants.map Zb),.v y.sv,.r (y.sx.map Zh),.v y.av,.r (y.wat.map Z8),.i y.next,.v y.ov,.r (y.ox.map Z1q),.i e,.a (Z6 y.sx y.ox)]
abbrev brEs (n:Nat):List Ent:=[.rd n kK (.var (n+1)),.rd (n+2) kW_V (.var (n+3)),.rd (n+4) kSx (.var (n+5)),.rd (n+6) kW_K (.var (n+7)),.rd (n+9) kSn (.var (n+10)),.st (n+12)]
abbrev gnV (y:TelX) (e:Int):List V:=[.v y.kv,.r (y.kept.map encK),.v y.wv,.r (y.wants.map Zb),.v y.sv,.r (y.sx.map Zh),.v y.av,.r (y.wat.map Z8),.i y.next,.i e,.a (Z6 y.sx y.ox)]
abbrev gnEs (n:Nat):List Ent:=[.rd n kK (.var (n+1)),.rd (n+2) kW_V (.var (n+3)),.rd (n+4) kSx (.var (n+5)),.rd (n+6) kW_K (.var (n+7)),.st (n+10)]
abbrev smV (y:TelX):List V:=[.v y.kv,.r (y.kept.map encK),.v y.wv,.r (y.wants.map Zb),.v y.sv,.r (y.sx.map Zh),.v y.av,.r (y.wat.map Z8),.i y.next,.a (Z6 y.sx y.ox)]
abbrev smEs (n:Nat):List Ent:=[.rd n kK (.var (n+1)),.rd (n+2) kW_V (.var (n+3)),.rd (n+4) kSx (.var (n+5)),.rd (n+6) kW_K (.var (n+7)),.st (n+9)]
section
variable {P:Program} {f:Nat} {args:Array Value} {w:World} {B:Base} {ρ:List V} {hp:List Ent}
theorem Z13m {y:TelX} {e:Int} {n m:Nat} {w1:World} {Q:Ent->Nat->Prop} (hn:ρ.length=n) (h:RdB m w1 y):∀x∈brEs n,x.holds (ρ++brV y e) w1/\∀k,x.fp (ρ++brV y e) k->m<=k\/Q x k:=by
 have g:=Zhf (vs:=brV y e) hn;have g0:(ρ++brV y e).getD n (.i 0)=.v y.kv:=g 0;refine qy2.2 ⟨⟨?_,fun k hk=>.inl ?_⟩,qy2.2 ⟨⟨?_,fun k hk=>.inl ?_⟩,qy2.2 ⟨⟨?_,fun k hk=>.inl ?_⟩,qy2.2 ⟨⟨?_,fun k hk=>.inl ?_⟩,qy2.2 ⟨⟨?_,fun k hk=>.inl ?_⟩,qy2.2 ⟨⟨?_,fun k hk=>.inl ?_⟩,qy5 _⟩⟩⟩⟩⟩⟩ <;>
  simp only[Ent.holds,Ent.fp,X.ev,g0,g 1,g 2,g 3,g 4,g 5,g 6,g 7,g 9,g 10,g 12]at *
 ·exact h.kept
 ·exact h.nk k hk.1 hk.2
 ·exact h.want
 ·exact h.nw k hk.1 hk.2
 ·exact h.sess
 ·exact h.ns k hk.1 hk.2
 ·exact h.wat
 ·exact h.na k hk.1 hk.2
 ·exact h.out
 ·exact h.no k hk.1 hk.2
 ·exact h.nest
 ·exact h.nn k hk
theorem Z13n {y:TelX} {e:Int} {n m:Nat} {w1:World} {Q:Ent->Nat->Prop} (hn:ρ.length=n) (h:RdB m w1 y):∀x∈gnEs n,x.holds (ρ++gnV y e) w1/\∀k,x.fp (ρ++gnV y e) k->m<=k\/Q x k:=by
 have g:=Zhf (vs:=gnV y e) hn;have g0:(ρ++gnV y e).getD n (.i 0)=.v y.kv:=g 0;refine qy2.2 ⟨⟨?_,fun k hk=>.inl ?_⟩,qy2.2 ⟨⟨?_,fun k hk=>.inl ?_⟩,qy2.2 ⟨⟨?_,fun k hk=>.inl ?_⟩,qy2.2 ⟨⟨?_,fun k hk=>.inl ?_⟩,qy2.2 ⟨⟨?_,fun k hk=>.inl ?_⟩,qy5 _⟩⟩⟩⟩⟩ <;>
  simp only[Ent.holds,Ent.fp,X.ev,g0,g 1,g 2,g 3,g 4,g 5,g 6,g 7,g 10]at *
 ·exact h.kept
 ·exact h.nk k hk.1 hk.2
 ·exact h.want
 ·exact h.nw k hk.1 hk.2
 ·exact h.sess
 ·exact h.ns k hk.1 hk.2
 ·exact h.wat
 ·exact h.na k hk.1 hk.2
 ·exact h.nest
 ·exact h.nn k hk
theorem Z13o {y:TelX} {n m:Nat} {w1:World} {Q:Ent->Nat->Prop} (hn:ρ.length=n) (h:RdB m w1 y):∀x∈smEs n,x.holds (ρ++smV y) w1/\∀k,x.fp (ρ++smV y) k->m<=k\/Q x k:=by
 have g:=Zhf (vs:=smV y) hn;have g0:(ρ++smV y).getD n (.i 0)=.v y.kv:=g 0;refine qy2.2 ⟨⟨?_,fun k hk=>.inl ?_⟩,qy2.2 ⟨⟨?_,fun k hk=>.inl ?_⟩,qy2.2 ⟨⟨?_,fun k hk=>.inl ?_⟩,qy2.2 ⟨⟨?_,fun k hk=>.inl ?_⟩,qy2.2 ⟨⟨?_,fun k hk=>.inl ?_⟩,qy5 _⟩⟩⟩⟩⟩ <;>
  simp only[Ent.holds,Ent.fp,X.ev,g0,g 1,g 2,g 3,g 4,g 5,g 6,g 7,g 9]at *
 ·exact h.kept
 ·exact h.nk k hk.1 hk.2
 ·exact h.want
 ·exact h.nw k hk.1 hk.2
 ·exact h.sess
 ·exact h.ns k hk.1 hk.2
 ·exact h.wat
 ·exact h.na k hk.1 hk.2
 ·exact h.nest
 ·exact h.nn k hk
theorem Zg0 {e:Int} {t:Tel} (h0:Rel B ρ hp w) (n:Nat) (h:Calls P f args w fun r w1=>Zhe w w1 r e t) (hn:ρ.length=n) : Calls P f args w fun r w1=>∃y:TelX,y.tel=t/\RdB w.heap.size w1 y/\r=.returned (.tuple #[bkV y,sc1 y.ov,.int .i64 e])/\Mod (Zv ρ [] []) w w1 /\ (∀x∈brEs n,x.holds (ρ++brV y e) w1/\∀k,x.fp (ρ++brV y e) k->w.heap.size<=k\/(x.wr=false/\∃y∈hp,y.wr=false/\y.fp ρ k)\/k∈Z16 ρ [])/\Z2s (ρ++brV y e) (brEs n):=by refine h.mono ?_;rintro r w1 ⟨y,hr,hy,hd,hm⟩;exact⟨y,hy,hd,hr,hm,Z13m hn hd,Za9 (by intro e he;simp only[List.mem_cons,List.not_mem_nil,or_false]at he;rcases he with rfl|rfl|rfl|rfl|rfl|rfl<;>rfl)⟩
theorem Z13p {e:Int} {t:Tel} (h0:Rel B ρ hp w) (n:Nat) (h:Calls P f args w fun r w1=>Zky w w1 r e t) (hn:ρ.length=n) : Calls P f args w fun r w1=>∃y:TelX,y.tel=t/\y.ox=[]/\RdB w.heap.size w1 y/\r=.returned (.tuple #[bkV y,.int .i64 e])/\Mod (Zv ρ [] []) w w1 /\ (∀x∈gnEs n,x.holds (ρ++gnV y e) w1/\∀k,x.fp (ρ++gnV y e) k->w.heap.size<=k\/(x.wr=false/\∃y∈hp,y.wr=false/\y.fp ρ k)\/k∈Z16 ρ [])/\Z2s (ρ++gnV y e) (gnEs n):=by refine h.mono ?_;rintro r w1 ⟨y,hr,ho,hy,hd,hm⟩;exact⟨y,hy,ho,hd,hr,hm,Z13n hn hd,Za9 (by intro e he;simp only[List.mem_cons,List.not_mem_nil,or_false]at he;rcases he with rfl|rfl|rfl|rfl|rfl<;>rfl)⟩
def Zue (w w':World) (r:Ending) (t:Tel):Prop:=∃y:TelX,r=.returned (bkV y)/\y.ox=[]/\y.tel=t/\RdB w.heap.size w' y/\Mod [] w w'
theorem Zn9 {t:Tel} (h0:Rel B ρ hp w) (n:Nat) (h:Calls P f args w fun r w1=>Zue w w1 r t) (hn:ρ.length=n) : Calls P f args w fun r w1=>∃y:TelX,y.tel=t/\y.ox=[]/\RdB w.heap.size w1 y/\r=.returned (bkV y)/\Mod (Zv ρ [] []) w w1 /\ (∀x∈smEs n,x.holds (ρ++smV y) w1/\∀k,x.fp (ρ++smV y) k->w.heap.size<=k\/(x.wr=false/\∃y∈hp,y.wr=false/\y.fp ρ k)\/k∈Z16 ρ [])/\Z2s (ρ++smV y) (smEs n):=by refine h.mono ?_;rintro r w1 ⟨y,hr,ho,hy,hd,hm⟩;exact⟨y,hy,ho,hd,hr,hm,Z13o hn hd,Za9 (by intro e he;simp only[List.mem_cons,List.not_mem_nil,or_false]at he;rcases he with rfl|rfl|rfl|rfl|rfl<;>rfl)⟩
end
theorem Z13q {w:World} {x:TelX} {c:List UInt8} {p:Pkt} {va vc:Value} (h:RdX w x) (ha:reads w va [.str,.int .i64] (p.asks.map encA)) (hc:reads w vc [.int .i64] (p.codes.map Z1h)) : Rel ⟨[],w⟩ (bkA x++Z5t c p va vc) (bkH++[.rd 23 [.str,.int .i64] (.var 24),.rd 25 [.int .i64] (.var 26)]) w :=
 Rel.start2 (qy2.2 ⟨⟨h.kept,rfl⟩,qy2.2 ⟨⟨h.want,rfl⟩,qy2.2 ⟨⟨h.sess,rfl⟩,qy2.2 ⟨⟨h.nest,rfl⟩,qy2.2 ⟨⟨h.wat,rfl⟩,qy2.2 ⟨⟨ha,rfl⟩,qy2.2 ⟨⟨hc,rfl⟩,qy5 _⟩⟩⟩⟩⟩⟩⟩)
theorem Zji {w:World} {x:TelX} {n:Int} {m:Msg} {mv:Value} (h:RdX w x) (ha:reads w mv [.int .i64,.str] (m.opts.map encO)):Rel ⟨[],w⟩ (bkA x++([.i n]++mgV m mv)) (bkH++[.rd 15 [.int .i64,.str] (.var 16)]) w :=
 Rel.start2 (qy2.2 ⟨⟨h.kept,rfl⟩,qy2.2 ⟨⟨h.want,rfl⟩,qy2.2 ⟨⟨h.sess,rfl⟩,qy2.2 ⟨⟨h.nest,rfl⟩,qy2.2 ⟨⟨h.wat,rfl⟩,qy2.2 ⟨⟨ha,rfl⟩,qy5 _⟩⟩⟩⟩⟩⟩)
theorem Z13r {w:World} {x:TelX} {c:List UInt8} (h:RdX w x):Rel ⟨[],w⟩ (bkA x++[.s c]) bkH w :=
 Rel.start2 (qy2.2 ⟨⟨h.kept,rfl⟩,qy2.2 ⟨⟨h.want,rfl⟩,qy2.2 ⟨⟨h.sess,rfl⟩,qy2.2 ⟨⟨h.nest,rfl⟩,qy2.2 ⟨⟨h.wat,rfl⟩,qy5 _⟩⟩⟩⟩⟩)
def smT:Tel:=⟨kA,wA.take 2,[sA],wL.take 1,0,[]⟩
theorem Z11j (w:World):(Z6 [((sA,.slice none 0 0,.slice none 0 0):SesX)] []).holds w :=
 Z1j (l:=[]) (o:=[]) (fun t ht=>.inr (by rw[qy12.1 ht];exact⟨Z9 w _,Z9 w _⟩)) (fun t ht=>.inl ht) (Z8u w)
theorem Zp6:∀j,¬(Z6 [((sA,.slice none 0 0,.slice none 0 0):SesX)] []).fp j:=fun j hj=>by
 rcases Zi.1 hj with ⟨t,ht,h⟩|⟨t,ht,-⟩
 ·rw[qy12.1 ht]at h;rcases h with h|h<;>exact h.1 rfl
 ·cases ht
theorem Zhh (w:World):Calls Tryz.prog 62 #[] w fun r w'=>Zue w w' r smT:=by
 refine Z1 (Zqy (ρ:=[]) (sxE_ok.joins _) Tryz.func62 Z6s rfl rfl (Rel.start w []) rfl rfl ?_) rfl;simp only[Tree.goal,X.P,X.ev,SV.ev,CV.ev,Sc.ev,qz,QA,QB,QC,QD,QE,QF,QG,QH,QI,QJ,QK,QL,QM,Nat.reduceAdd,qy3,qy4];intro b0;refine⟨fun vs=>∃u1 u3 u5 u14 u15 u17:Value,vs=[.v u1,.r (kA.map encK),.v u3,.r (wA.map Zb),.v u5,.s sA.cl,.b sA.on,.b sA.clean,.v (.slice none 0 0),.r [],.v (.slice none 0 0),.r [],.i sA.next,.v u14,.v u15,.r (wL.map Z8),.v u17,.r ((wL.take 1).map Z8),.r [Zh (sA,.slice none 0 0,.slice none 0 0)],.r ((wA.take 2).map Zb)] /\
  (∀k,Z2 u1 k->w.heap.size<=k)/\(∀k,Z2 u5 k->w.heap.size<=k)/\(∀k,Z2 u17 k->w.heap.size<=k),?_,?_⟩
 ·repeat' first
   | (intro w1 hr1;refine(Z131 w1).mono ?_;rintro e w2 ⟨u1,rfl,a1,f1,m1⟩;refine⟨[.v u1,.r (kA.map encK)],rfl,rfl,m1,qy5 _,qy2.2 ⟨⟨a1,fun k hk=>.inl (f1 k hk.2)⟩,qy5 _⟩,Z4,?_⟩;have g1:∀k,Z2 u1 k->w.heap.size<=k:=fun k hk=>Nat.le_trans hr1.mod.size (f1 k hk);clear hr1 a1 f1 m1)
   | (intro w1 hr1;refine(Z10h w1).mono ?_;rintro e w2 ⟨u3,rfl,a1,f1,m1⟩;refine⟨[.v u3,.r (wA.map Zb)],rfl,rfl,m1,qy5 _,qy2.2 ⟨⟨a1,fun k hk=>.inl (f1 k hk.2)⟩,qy5 _⟩,Z4,?_⟩;have g3:∀k,Z2 u3 k->w.heap.size<=k:=fun k hk=>Nat.le_trans hr1.mod.size (f1 k hk);clear hr1 a1 f1 m1)
   | (intro w1 hr1;refine(Zt4 w1).mono ?_;rintro e w2 ⟨u15,rfl,a1,f1,m1⟩;refine⟨[.v u15,.r (wL.map Z8)],rfl,rfl,m1,qy5 _,qy2.2 ⟨⟨a1,fun k hk=>.inl (f1 k hk.2)⟩,qy5 _⟩,Z4,?_⟩;have g15:∀k,Z2 u15 k->w.heap.size<=k:=fun k hk=>Nat.le_trans hr1.mod.size (f1 k hk);clear hr1 a1 f1 m1)
   | (intro w1 hr1;refine(Z13l w1).mono ?_;rintro e w2 ⟨rfl,m1⟩;refine⟨[.s sA.cl,.b sA.on,.b sA.clean,.v (.slice none 0 0),.r [],.v (.slice none 0 0),.r [],.i sA.next],rfl,rfl,m1,qy5 _,qy2.2 ⟨⟨Z9 w2 _,fun k hk=>absurd rfl hk.1⟩,qy2.2 ⟨⟨Z9 w2 _,fun k hk=>absurd rfl hk.1⟩,qy5 _⟩⟩,Za9 (by simp[Ent.wr]),?_⟩;clear hr1 m1)
   | (refine⟨(by show (2:Int)<=((wA.map Zb).length:Int);decide),?_⟩)
   | (refine⟨(by show (1:Int)<=((wL.map Z8).length:Int);decide),?_⟩)
   | (refine And.intro ?_ ?_)
   | (intro u5 h5;have g5:∀k,Z2 u5 k->w.heap.size<=k:=fun k hk=>g3 k (h5 k hk);clear h5)
   | (intro u17 h17;have g17:∀k,Z2 u17 k->w.heap.size<=k:=fun k hk=>g15 k (h17 k hk);clear h17)
   | (intro u14 h14;clear h14)
   | exact⟨_,_,_,_,_,_,rfl,g1,g5,g17⟩
 ·rintro _ - ⟨u1,u3,u5,u14,u15,u17,rfl,g1,g5,g17⟩;simp only[Tree.goal,X.P,X.ev,SV.ev,CV.ev,Sc.ev,qz,QA,QB,QC,QD,QE,QF,QG,QH,QI,QJ,QK,QL,QM,Nat.reduceAdd,qy3,qy4];intro w3 hr3;refine⟨⟨kA,wA.take 2,[(sA,.slice none 0 0,.slice none 0 0)],wL.take 1,0,[],u1,u5,u14,u17,.slice none 0 0⟩,rfl,rfl,rfl,⟨hr3.at_ 7 rfl,hr3.at_ 5 rfl,(hr3.at_ 2 rfl:owns _ _ _ _ _).reads,hr3.at_ 0 rfl,Z9 _ _,Z11j _,fun j _ h=>g1 j h,fun j _ h=>g5 j h,fun j _ h=>Z2m hr3 2 rfl j h,fun j _ h=>g17 j h,fun j h=>absurd rfl h,fun j hj=>absurd hj (Zp6 j)⟩,hr3.mod⟩
end Go.Proofs.YtkhakgbnfapifaaGreatDoor
namespace Go.Proofs.YtkhakgbnfapifaaGreatDoor
open Go Go.Sx
def CbI (x:TelX) (e0:Int) (e:Int) (i:Nat):Prop:=i<=x.sx.length/\(¬e0=0->e=e0)/\(e0=0->(e=0->Zb1 (prvS x.sx i) ((x.sx.drop i).map (·.1))=Zb1 none (x.sx.map (·.1)))/\(¬e=0->Zb1 none (x.sx.map (·.1))=e))
theorem Zuf {x:TelX} (h1:chkK x.kept=0) (h2:Zf x.wants=0) (h3:¬Z4q x.tel.sess=0):chkB x.tel=Z4q x.tel.sess:=by rw[chkB,if_neg (qy9.2 (show chkK x.tel.kept=0 from h1)),if_neg (qy9.2 (show Zf x.tel.wants=0 from h2)),if_pos h3]
theorem Zhi {x:TelX} (h1:chkK x.kept=0) (h2:Zf x.wants=0) (h3:Z4q x.tel.sess=0):chkB x.tel=if ¬Zw x.wat=0 then Zw x.wat else if Z10 x.tel=true then 4 else if x.next<0\/65535<x.next then 3 else 0:=by rw[chkB,if_neg (qy9.2 (show chkK x.tel.kept=0 from h1)),if_neg (qy9.2 (show Zf x.tel.wants=0 from h2)),if_neg (qy9.2 h3)];rfl
theorem CbI.out {x:TelX} {e0 e:Int} {i:Nat} (h:CbI x e0 e i) (hb:¬e0=0->chkB x.tel=e0) (hz:e0=0->chkK x.kept=0/\Zf x.wants=0/\¬6<(x.sx.length:Int)) (he:¬e=0):chkB x.tel=e:=by
  by_cases h0:e0=0
  . obtain⟨h1,h2,h3⟩:=hz h0;have h4:=(h.2.2 h0).2 he;have h5:Z4q x.tel.sess=e:=by rw[Z4q,if_neg (by rw[show x.tel.sess=x.sx.map (·.1) from rfl,qy3];exact h3)];exact h4
    rw[Zuf h1 h2 (by rw[h5];exact he),h5]
  . rw[hb h0,h.2.1 h0]
theorem CbI.ok {x:TelX} {e0:Int} {i:Nat} (h:CbI x e0 0 i) (hz:e0=0->chkK x.kept=0/\Zf x.wants=0/\¬6<(x.sx.length:Int)) (hi:i=x.sx.length):chkK x.kept=0/\Zf x.wants=0/\Z4q x.tel.sess=0:=by have h0:e0=0:=Classical.byContradiction fun h0=>h0 (h.2.1 h0).symm;obtain⟨h1,h2,h3⟩:=hz h0;refine⟨h1,h2,?_⟩;have h4:=(h.2.2 h0).1 rfl;rw[hi,List.drop_length]at h4;rw[Z4q,if_neg (by rw[show x.tel.sess=x.sx.map (·.1) from rfl,qy3];exact h3)];exact h4.symm
theorem CbI.next {x:TelX} {e0:Int} {i:Nat} (h:CbI x e0 0 i) (hi:i<x.sx.length) : (¬chkS (x.sx.getD i sxD).1=0->CbI x e0 (chkS (x.sx.getD i sxD).1) (i+1)) /\ (chkS (x.sx.getD i sxD).1=0->0<(i:Int)->¬Zd (x.sx.getD (i - 1) sxD).1.cl (x.sx.getD i sxD).1.cl=true->CbI x e0 4 (i+1)) /\ (chkS (x.sx.getD i sxD).1=0->(0<(i:Int)->Zd (x.sx.getD (i - 1) sxD).1.cl (x.sx.getD i sxD).1.cl=true)->CbI x e0 0 (i+1)):=by
  have hq:Zd (x.sx.getD (i - 1) sxD).1.cl (x.sx.getD i sxD).1.cl=false↔(Zd (x.sx.getD i sxD).1.cl (x.sx.getD (i - 1) sxD).1.cl=true\/(x.sx.getD i sxD).1.cl=(x.sx.getD (i - 1) sxD).1.cl):=Z71;have h0:e0=0:=Classical.byContradiction fun h0=>h0 (h.2.1 h0).symm;have h4:=(h.2.2 h0).1 rfl;rw[Zfz hi]at h4;refine⟨fun a=>⟨by omega,fun b=>absurd h0 b,fun _=>⟨fun c=>absurd c a,fun _=>?_⟩⟩,fun a b c=>⟨by omega,fun d=>absurd h0 d,fun _=>⟨fun d=>absurd d (by decide),fun _=>?_⟩⟩,fun a b=>⟨by omega,fun c=>absurd h0 c,fun _=>⟨fun _=>?_,fun c=>absurd rfl c⟩⟩⟩
  . rw[if_pos a]at h4;exact h4.symm
  . rw[if_neg (qy9.2 a),if_pos ⟨b,hq.1 (Bool.eq_false_iff.2 c)⟩]at h4;exact h4.symm
  . rw[if_neg (qy9.2 a),if_neg (fun ⟨c,d⟩=>by have:=hq.2 d;rw[b c]at this;cases this)]at h4;exact h4
theorem Zep (w:World) (x:TelX) (hx:RdX w x) (ho:x.ox=[]) (hs:SmlB x) : Calls Tryz.prog 11 #[bkV x] w fun e w'=>e=.returned (.int .i64 (chkB x.tel))/\Mod [] w w':=by
  refine Z1 (Z3 (ρ:=bkA x) sxE_ok Tryz.func11 Z3y rfl rfl hx.rel rfl rfl ?_) rfl;simp only[Tree.goal,X.P,X.ev,SV.ev,CV.ev,Sc.ev,qz,QA,QB,QC,QD,QE,QF,QG,QH,QI,QJ,QK,QL,QM,Nat.reduceAdd,qy3,qy4];have hsx:x.tel.sess=x.sx.map (·.1):=rfl;have hal:=hs.watL;have hsl:=hs.sessL;have hwl:=hs.wantsL;intro b10;refine⟨[.i (chkK x.kept)],rfl,fun _ w' hr=>Zke w' x.kv x.kept (hr.at_ 1 rfl) hs.kept hs.keptL,?_⟩;simp only[Tree.goal,X.P,X.ev,SV.ev,CV.ev,Sc.ev,qz,QA,QB,QC,QD,QE,QF,QG,QH,QI,QJ,QK,QL,QM,Nat.reduceAdd,qy3,qy4];refine⟨fun h1=>?_,fun h1=>?_⟩
  . refine⟨[.i (Zf x.wants)],rfl,fun _ w' hr=>Zjg w' x.wv x.wants (hr.at_ 2 rfl) hs.wants hs.wantsL,?_⟩;simp only[Tree.goal,X.P,X.ev,SV.ev,CV.ev,Sc.ev,qz,QA,QB,QC,QD,QE,QF,QG,QH,QI,QJ,QK,QL,QM,Nat.reduceAdd,qy3,qy4];refine⟨fun h2=>?_,fun h2=>?_⟩
    . have hb:¬(2:Int)=0->chkB x.tel=2:=fun _=>by have:Z4q x.tel.sess=2:=by { rw[Z4q,if_pos (by rw[hsx,qy3];exact h2.2)] };rw[Zuf h1 h2.1 (by rw[this];decide),this]
      have hz:(2:Int)=0->chkK x.kept=0/\Zf x.wants=0/\¬6<(x.sx.length:Int):=fun h=>absurd h (by decide);refine⟨fun vs=>∃(e:Int) (i:Nat),vs=[.i e,.i i]/\CbI x (2) e i,fun vs=>x.sx.length - (vs.getD 1 (.i 0)).toI.toNat,⟨_,0,rfl,Nat.zero_le _,fun _=>rfl,fun _=>⟨fun _=>rfl,fun h=>absurd (by assumption) h⟩⟩,?_⟩;rintro _ - ⟨e,i,rfl,hg⟩;have hi:=hg.1;simp only[Tree.goal,X.P,X.ev,SV.ev,CV.ev,Sc.ev,qz,QA,QB,QC,QD,QE,QF,QG,QH,QI,QJ,QK,QL,QM,Nat.reduceAdd,qy3,qy4,gSx0];have hi1:((i:Int) - 1).toNat=i - 1:=by omega
      try rw[hi1]
      refine⟨fun h3=>⟨by omega,?_⟩,fun h3=>⟨fun h4=>?_,fun h4 w' hr=>⟨by rw[hg.out hb hz h4],hr.mod⟩⟩⟩
      . have hi':i<x.sx.length:=by omega
        have he:e=0:=h3.2;subst he;obtain⟨n1,n2,n3⟩:=hg.next hi';have hrow:=Z7x hi';obtain⟨s1,s2,s3,s4,s5⟩:=hs.sess _ (Z5p hi');refine⟨[.i (chkS (x.sx.getD i sxD).1)],rfl,fun _ w' hr=>?_,?_⟩
        . have hn:=Zq (by rw[<- ho];exact hr.at_ 4 rfl:(Z6 x.sx []).holds w') (Z5p hi');refine Z1 (Z5b w' (x.sx.getD i sxD).1 (x.sx.getD i sxD).2.1 (x.sx.getD i sxD).2.2 hn.1 hn.2 s1 s2 s3 s4 s5) ?_;simp only[Tree.goal,X.P,X.ev,SV.ev,CV.ev,Sc.ev,qz,QA,QB,QC,QD,QE,QF,QG,QH,QI,QJ,QK,QL,QM,Nat.reduceAdd,qy3,qy4,hrow,Zh,List.getD_cons_zero,List.getD_cons_succ,Value.gI,Value.gB,Value.gS,Z1x,sesV]
        simp only[Tree.goal,X.P,X.ev,SV.ev,CV.ev,Sc.ev,qz,QA,QB,QC,QD,QE,QF,QG,QH,QI,QJ,QK,QL,QM,Nat.reduceAdd,qy3,qy4,gSx0];try rw[hi1]
        refine⟨by omega,by omega,by omega,by omega,[.b (Zd (x.sx.getD (i - 1) sxD).1.cl (x.sx.getD i sxD).1.cl)],rfl,fun hgd w' _=>Z39 w' _ _ (by
          have h8:i - 1<x.sx.length:=by omega
          exact(hs.sess _ (Z5p h8)).2.2.2.2),?_⟩
        simp only[Tree.goal,X.P,X.ev,SV.ev,CV.ev,Sc.ev,qz,QA,QB,QC,QD,QE,QF,QG,QH,QI,QJ,QK,QL,QM,Nat.reduceAdd,qy3,qy4];refine⟨fun h5=>⟨by omega,by omega,⟨4,i+1,rfl,n2 h5.1.1 h5.1.2 h5.2⟩,by omega⟩,fun h5=>⟨by omega,by omega,⟨_,i+1,rfl,?_⟩,by omega⟩⟩;by_cases h6:chkS (x.sx.getD i sxD).1=0
        . rw[h6];exact n3 h6 fun h7=>Classical.byContradiction fun h8=>h5 ⟨⟨h6,h7⟩,h8⟩
        . exact n1 h6
      have he:e=0:=h4;subst he;obtain⟨k1,k2,k3⟩:=hg.ok hz (by omega);rw[Zhi k1 k2 k3];refine⟨[.i (Zw x.wat)],rfl,fun _ w' hr=>Z5a w' x.av x.wat (hr.at_ 5 rfl) hs.wat (by omega),?_⟩;simp only[Tree.goal,X.P,X.ev,SV.ev,CV.ev,Sc.ev,qz,QA,QB,QC,QD,QE,QF,QG,QH,QI,QJ,QK,QL,QM,Nat.reduceAdd,qy3,qy4];refine⟨fun h5 w' hr=>⟨by rw[if_pos h5],hr.mod⟩,fun h5=>?_⟩;rw[if_neg h5];refine⟨fun vs=>∃(y:V) (i:Nat),vs=[y,.i i]/\i<=x.wants.length/\∀j,j<i->hasS x.tel.sess (x.wants.getD j wD_V).1=true,fun vs=>x.wants.length - (vs.getD 1 (.i 0)).toI.toNat,⟨_,0,rfl,by omega,fun j hj=>by omega⟩,?_⟩;rintro _ - ⟨y0,i,rfl,hi,hall⟩;simp only[Tree.goal,X.P,X.ev,SV.ev,CV.ev,Sc.ev,qz,QA,QB,QC,QD,QE,QF,QG,QH,QI,QJ,QK,QL,QM,Nat.reduceAdd,qy3,qy4,Z1u];refine⟨fun h6=>⟨by omega,?_⟩,fun h6=>?_⟩
      . refine⟨[.i (atS x.tel.sess (x.wants.getD i wD_V).1)],rfl,fun _ w' hr=>Z8v w' x.sv x.sx _ (hr.at_ 3 rfl) (Z5r.1 k3).2.2 (by have:=hs.sessL;omega),?_⟩;simp only[Tree.goal,X.P,X.ev,SV.ev,CV.ev,Sc.ev,qz,QA,QB,QC,QD,QE,QF,QG,QH,QI,QJ,QK,QL,QM,Nat.reduceAdd,qy3,qy4];refine⟨fun h7 w' hr=>⟨?_,hr.mod⟩,fun h7=>⟨by omega,by omega,⟨_,i+1,rfl,by omega,fun j hj=>?_⟩,by omega⟩⟩
        . have h8:¬hasS x.tel.sess (x.wants.getD i wD_V).1=true:=fun h=>by rw[atS,if_pos h]at h7;omega
          have:Z10 x.tel=true:=by rw[Z10,Bool.or_eq_true];exact .inl (Z54 wD_V (l:=x.wants) (i:=i) (by omega) (by simpa using h8))
          rw[if_pos this]
        . by_cases hij:j=i
          . subst hij;exact Classical.byContradiction fun h=>h7 (by rw[atS,if_neg h];decide)
          . exact hall j (by omega)
      have hie:i=x.wants.length:=by omega
      subst hie;have ha1:(x.tel.wants.any fun w=>!hasS x.tel.sess w.1)=false:=Zbi wD_V fun j hj=>by rw[show hasS x.tel.sess (x.tel.wants.getD j wD_V).1=true from hall j hj];rfl
      refine⟨fun vs=>∃(y:V) (i:Nat),vs=[y,.i i]/\i<=x.wat.length/\∀j,j<i->hasK x.kept (x.wat.getD j wD_K).2.2.1=true,fun vs=>x.wat.length - (vs.getD 1 (.i 0)).toI.toNat,⟨_,0,rfl,by omega,fun j hj=>by omega⟩,?_⟩;rintro _ - ⟨y1,i,rfl,hi1,hall1⟩;simp only[Tree.goal,X.P,X.ev,SV.ev,CV.ev,Sc.ev,qz,QA,QB,QC,QD,QE,QF,QG,QH,QI,QJ,QK,QL,QM,Nat.reduceAdd,qy3,qy4,Z1s];refine⟨fun h6=>⟨by omega,?_⟩,fun h6=>?_⟩
      . refine⟨[.i (if hasK x.kept (x.wat.getD i wD_K).2.2.1=true then (idx x.kept (x.wat.getD i wD_K).2.2.1:Int) else -1)],rfl,fun _ w' hr=>Zgy w' x.kv x.kept _ (hr.at_ 1 rfl) (Z15.1 k1).2.2 hs.keptL,?_⟩;simp only[Tree.goal,X.P,X.ev,SV.ev,CV.ev,Sc.ev,qz,QA,QB,QC,QD,QE,QF,QG,QH,QI,QJ,QK,QL,QM,Nat.reduceAdd,qy3,qy4];refine⟨fun h7 w' hr=>⟨?_,hr.mod⟩,fun h7=>⟨by omega,by omega,⟨_,i+1,rfl,by omega,fun j hj=>?_⟩,by omega⟩⟩
        . have h8:¬hasK x.kept (x.wat.getD i wD_K).2.2.1=true:=fun h=>by rw[if_pos h]at h7;omega
          have:Z10 x.tel=true:=by rw[Z10,Bool.or_eq_true];exact .inr (Z54 wD_K (l:=x.wat) (i:=i) (by omega) (by rw[show hasK x.tel.kept (x.wat.getD i wD_K).2.2.1=false from Bool.eq_false_iff.2 h8];rfl))
          rw[if_pos this]
        . by_cases hij:j=i
          . subst hij;exact Classical.byContradiction fun h=>h7 (by rw[if_neg h];decide)
          . exact hall1 j (by omega)
      have hie:i=x.wat.length:=by omega
      subst hie;have ha2:(x.tel.wat.any fun w=>!hasK x.tel.kept w.2.2.1)=false:=Zbi wD_K fun j hj=>by rw[show hasK x.tel.kept (x.tel.wat.getD j wD_K).2.2.1=true from hall1 j hj];rfl
      have hst:¬Z10 x.tel=true:=by rw[Z10,ha1,ha2];decide
      rw[if_neg hst];refine⟨fun h7 w' hr=>⟨by rw[if_pos (by omega)],hr.mod⟩,fun h7 w' hr=>⟨by rw[if_neg (by omega)],hr.mod⟩⟩
    . have hb:¬(Zf x.wants:Int)=0->chkB x.tel=Zf x.wants:=fun h=>by rw[chkB,if_neg (qy9.2 (show chkK x.tel.kept=0 from h1)),if_pos (show ¬Zf x.tel.wants=0 from h)];rfl
      have hz:(Zf x.wants:Int)=0->chkK x.kept=0/\Zf x.wants=0/\¬6<(x.sx.length:Int):=fun h=>⟨h1,h,fun h3=>h2 ⟨h,h3⟩⟩
      refine⟨fun vs=>∃(e:Int) (i:Nat),vs=[.i e,.i i]/\CbI x (Zf x.wants) e i,fun vs=>x.sx.length - (vs.getD 1 (.i 0)).toI.toNat,⟨_,0,rfl,Nat.zero_le _,fun _=>rfl,fun _=>⟨fun _=>rfl,fun h=>absurd (by assumption) h⟩⟩,?_⟩;rintro _ - ⟨e,i,rfl,hg⟩;have hi:=hg.1;simp only[Tree.goal,X.P,X.ev,SV.ev,CV.ev,Sc.ev,qz,QA,QB,QC,QD,QE,QF,QG,QH,QI,QJ,QK,QL,QM,Nat.reduceAdd,qy3,qy4,gSx0];have hi1:((i:Int) - 1).toNat=i - 1:=by omega
      try rw[hi1]
      refine⟨fun h3=>⟨by omega,?_⟩,fun h3=>⟨fun h4=>?_,fun h4 w' hr=>⟨by rw[hg.out hb hz h4],hr.mod⟩⟩⟩
      . have hi':i<x.sx.length:=by omega
        have he:e=0:=h3.2;subst he;obtain⟨n1,n2,n3⟩:=hg.next hi';have hrow:=Z7x hi';obtain⟨s1,s2,s3,s4,s5⟩:=hs.sess _ (Z5p hi');refine⟨[.i (chkS (x.sx.getD i sxD).1)],rfl,fun _ w' hr=>?_,?_⟩
        . have hn:=Zq (by rw[<- ho];exact hr.at_ 4 rfl:(Z6 x.sx []).holds w') (Z5p hi');refine Z1 (Z5b w' (x.sx.getD i sxD).1 (x.sx.getD i sxD).2.1 (x.sx.getD i sxD).2.2 hn.1 hn.2 s1 s2 s3 s4 s5) ?_;simp only[Tree.goal,X.P,X.ev,SV.ev,CV.ev,Sc.ev,qz,QA,QB,QC,QD,QE,QF,QG,QH,QI,QJ,QK,QL,QM,Nat.reduceAdd,qy3,qy4,hrow,Zh,List.getD_cons_zero,List.getD_cons_succ,Value.gI,Value.gB,Value.gS,Z1x,sesV]
        simp only[Tree.goal,X.P,X.ev,SV.ev,CV.ev,Sc.ev,qz,QA,QB,QC,QD,QE,QF,QG,QH,QI,QJ,QK,QL,QM,Nat.reduceAdd,qy3,qy4,gSx0];try rw[hi1]
        refine⟨by omega,by omega,by omega,by omega,[.b (Zd (x.sx.getD (i - 1) sxD).1.cl (x.sx.getD i sxD).1.cl)],rfl,fun hgd w' _=>Z39 w' _ _ (by
          have h8:i - 1<x.sx.length:=by omega
          exact(hs.sess _ (Z5p h8)).2.2.2.2),?_⟩
        simp only[Tree.goal,X.P,X.ev,SV.ev,CV.ev,Sc.ev,qz,QA,QB,QC,QD,QE,QF,QG,QH,QI,QJ,QK,QL,QM,Nat.reduceAdd,qy3,qy4];refine⟨fun h5=>⟨by omega,by omega,⟨4,i+1,rfl,n2 h5.1.1 h5.1.2 h5.2⟩,by omega⟩,fun h5=>⟨by omega,by omega,⟨_,i+1,rfl,?_⟩,by omega⟩⟩;by_cases h6:chkS (x.sx.getD i sxD).1=0
        . rw[h6];exact n3 h6 fun h7=>Classical.byContradiction fun h8=>h5 ⟨⟨h6,h7⟩,h8⟩
        . exact n1 h6
      have he:e=0:=h4;subst he;obtain⟨k1,k2,k3⟩:=hg.ok hz (by omega);rw[Zhi k1 k2 k3];refine⟨[.i (Zw x.wat)],rfl,fun _ w' hr=>Z5a w' x.av x.wat (hr.at_ 5 rfl) hs.wat (by omega),?_⟩;simp only[Tree.goal,X.P,X.ev,SV.ev,CV.ev,Sc.ev,qz,QA,QB,QC,QD,QE,QF,QG,QH,QI,QJ,QK,QL,QM,Nat.reduceAdd,qy3,qy4];refine⟨fun h5 w' hr=>⟨by rw[if_pos h5],hr.mod⟩,fun h5=>?_⟩;rw[if_neg h5];refine⟨fun vs=>∃(y:V) (i:Nat),vs=[y,.i i]/\i<=x.wants.length/\∀j,j<i->hasS x.tel.sess (x.wants.getD j wD_V).1=true,fun vs=>x.wants.length - (vs.getD 1 (.i 0)).toI.toNat,⟨_,0,rfl,by omega,fun j hj=>by omega⟩,?_⟩;rintro _ - ⟨y0,i,rfl,hi,hall⟩;simp only[Tree.goal,X.P,X.ev,SV.ev,CV.ev,Sc.ev,qz,QA,QB,QC,QD,QE,QF,QG,QH,QI,QJ,QK,QL,QM,Nat.reduceAdd,qy3,qy4,Z1u];refine⟨fun h6=>⟨by omega,?_⟩,fun h6=>?_⟩
      . refine⟨[.i (atS x.tel.sess (x.wants.getD i wD_V).1)],rfl,fun _ w' hr=>Z8v w' x.sv x.sx _ (hr.at_ 3 rfl) (Z5r.1 k3).2.2 (by have:=hs.sessL;omega),?_⟩;simp only[Tree.goal,X.P,X.ev,SV.ev,CV.ev,Sc.ev,qz,QA,QB,QC,QD,QE,QF,QG,QH,QI,QJ,QK,QL,QM,Nat.reduceAdd,qy3,qy4];refine⟨fun h7 w' hr=>⟨?_,hr.mod⟩,fun h7=>⟨by omega,by omega,⟨_,i+1,rfl,by omega,fun j hj=>?_⟩,by omega⟩⟩
        . have h8:¬hasS x.tel.sess (x.wants.getD i wD_V).1=true:=fun h=>by rw[atS,if_pos h]at h7;omega
          have:Z10 x.tel=true:=by rw[Z10,Bool.or_eq_true];exact .inl (Z54 wD_V (l:=x.wants) (i:=i) (by omega) (by simpa using h8))
          rw[if_pos this]
        . by_cases hij:j=i
          . subst hij;exact Classical.byContradiction fun h=>h7 (by rw[atS,if_neg h];decide)
          . exact hall j (by omega)
      have hie:i=x.wants.length:=by omega
      subst hie;have ha1:(x.tel.wants.any fun w=>!hasS x.tel.sess w.1)=false:=Zbi wD_V fun j hj=>by rw[show hasS x.tel.sess (x.tel.wants.getD j wD_V).1=true from hall j hj];rfl
      refine⟨fun vs=>∃(y:V) (i:Nat),vs=[y,.i i]/\i<=x.wat.length/\∀j,j<i->hasK x.kept (x.wat.getD j wD_K).2.2.1=true,fun vs=>x.wat.length - (vs.getD 1 (.i 0)).toI.toNat,⟨_,0,rfl,by omega,fun j hj=>by omega⟩,?_⟩;rintro _ - ⟨y1,i,rfl,hi1,hall1⟩;simp only[Tree.goal,X.P,X.ev,SV.ev,CV.ev,Sc.ev,qz,QA,QB,QC,QD,QE,QF,QG,QH,QI,QJ,QK,QL,QM,Nat.reduceAdd,qy3,qy4,Z1s];refine⟨fun h6=>⟨by omega,?_⟩,fun h6=>?_⟩
      . refine⟨[.i (if hasK x.kept (x.wat.getD i wD_K).2.2.1=true then (idx x.kept (x.wat.getD i wD_K).2.2.1:Int) else -1)],rfl,fun _ w' hr=>Zgy w' x.kv x.kept _ (hr.at_ 1 rfl) (Z15.1 k1).2.2 hs.keptL,?_⟩;simp only[Tree.goal,X.P,X.ev,SV.ev,CV.ev,Sc.ev,qz,QA,QB,QC,QD,QE,QF,QG,QH,QI,QJ,QK,QL,QM,Nat.reduceAdd,qy3,qy4];refine⟨fun h7 w' hr=>⟨?_,hr.mod⟩,fun h7=>⟨by omega,by omega,⟨_,i+1,rfl,by omega,fun j hj=>?_⟩,by omega⟩⟩
        . have h8:¬hasK x.kept (x.wat.getD i wD_K).2.2.1=true:=fun h=>by rw[if_pos h]at h7;omega
          have:Z10 x.tel=true:=by rw[Z10,Bool.or_eq_true];exact .inr (Z54 wD_K (l:=x.wat) (i:=i) (by omega) (by rw[show hasK x.tel.kept (x.wat.getD i wD_K).2.2.1=false from Bool.eq_false_iff.2 h8];rfl))
          rw[if_pos this]
        . by_cases hij:j=i
          . subst hij;exact Classical.byContradiction fun h=>h7 (by rw[if_neg h];decide)
          . exact hall1 j (by omega)
      have hie:i=x.wat.length:=by omega
      subst hie;have ha2:(x.tel.wat.any fun w=>!hasK x.tel.kept w.2.2.1)=false:=Zbi wD_K fun j hj=>by rw[show hasK x.tel.kept (x.tel.wat.getD j wD_K).2.2.1=true from hall1 j hj];rfl
      have hst:¬Z10 x.tel=true:=by rw[Z10,ha1,ha2];decide
      rw[if_neg hst];refine⟨fun h7 w' hr=>⟨by rw[if_pos (by omega)],hr.mod⟩,fun h7 w' hr=>⟨by rw[if_neg (by omega)],hr.mod⟩⟩
  . have hb:¬(chkK x.kept:Int)=0->chkB x.tel=chkK x.kept:=fun h=>by rw[chkB,if_pos (show ¬chkK x.tel.kept=0 from h)];rfl
    have hz:(chkK x.kept:Int)=0->chkK x.kept=0/\Zf x.wants=0/\¬6<(x.sx.length:Int):=fun h=>absurd h h1;refine⟨fun vs=>∃(e:Int) (i:Nat),vs=[.i e,.i i]/\CbI x (chkK x.kept) e i,fun vs=>x.sx.length - (vs.getD 1 (.i 0)).toI.toNat,⟨_,0,rfl,Nat.zero_le _,fun _=>rfl,fun _=>⟨fun _=>rfl,fun h=>absurd (by assumption) h⟩⟩,?_⟩;rintro _ - ⟨e,i,rfl,hg⟩;have hi:=hg.1;simp only[Tree.goal,X.P,X.ev,SV.ev,CV.ev,Sc.ev,qz,QA,QB,QC,QD,QE,QF,QG,QH,QI,QJ,QK,QL,QM,Nat.reduceAdd,qy3,qy4,gSx0];have hi1:((i:Int) - 1).toNat=i - 1:=by omega
    try rw[hi1]
    refine⟨fun h3=>⟨by omega,?_⟩,fun h3=>⟨fun h4=>?_,fun h4 w' hr=>⟨by rw[hg.out hb hz h4],hr.mod⟩⟩⟩
    . have hi':i<x.sx.length:=by omega
      have he:e=0:=h3.2;subst he;obtain⟨n1,n2,n3⟩:=hg.next hi';have hrow:=Z7x hi';obtain⟨s1,s2,s3,s4,s5⟩:=hs.sess _ (Z5p hi');refine⟨[.i (chkS (x.sx.getD i sxD).1)],rfl,fun _ w' hr=>?_,?_⟩
      . have hn:=Zq (by rw[<- ho];exact hr.at_ 4 rfl:(Z6 x.sx []).holds w') (Z5p hi');refine Z1 (Z5b w' (x.sx.getD i sxD).1 (x.sx.getD i sxD).2.1 (x.sx.getD i sxD).2.2 hn.1 hn.2 s1 s2 s3 s4 s5) ?_;simp only[Tree.goal,X.P,X.ev,SV.ev,CV.ev,Sc.ev,qz,QA,QB,QC,QD,QE,QF,QG,QH,QI,QJ,QK,QL,QM,Nat.reduceAdd,qy3,qy4,hrow,Zh,List.getD_cons_zero,List.getD_cons_succ,Value.gI,Value.gB,Value.gS,Z1x,sesV]
      simp only[Tree.goal,X.P,X.ev,SV.ev,CV.ev,Sc.ev,qz,QA,QB,QC,QD,QE,QF,QG,QH,QI,QJ,QK,QL,QM,Nat.reduceAdd,qy3,qy4,gSx0];try rw[hi1]
      refine⟨by omega,by omega,by omega,by omega,[.b (Zd (x.sx.getD (i - 1) sxD).1.cl (x.sx.getD i sxD).1.cl)],rfl,fun hgd w' _=>Z39 w' _ _ (by
        have h8:i - 1<x.sx.length:=by omega
        exact(hs.sess _ (Z5p h8)).2.2.2.2),?_⟩
      simp only[Tree.goal,X.P,X.ev,SV.ev,CV.ev,Sc.ev,qz,QA,QB,QC,QD,QE,QF,QG,QH,QI,QJ,QK,QL,QM,Nat.reduceAdd,qy3,qy4];refine⟨fun h5=>⟨by omega,by omega,⟨4,i+1,rfl,n2 h5.1.1 h5.1.2 h5.2⟩,by omega⟩,fun h5=>⟨by omega,by omega,⟨_,i+1,rfl,?_⟩,by omega⟩⟩;by_cases h6:chkS (x.sx.getD i sxD).1=0
      . rw[h6];exact n3 h6 fun h7=>Classical.byContradiction fun h8=>h5 ⟨⟨h6,h7⟩,h8⟩
      . exact n1 h6
    have he:e=0:=h4;subst he;obtain⟨k1,k2,k3⟩:=hg.ok hz (by omega);rw[Zhi k1 k2 k3];refine⟨[.i (Zw x.wat)],rfl,fun _ w' hr=>Z5a w' x.av x.wat (hr.at_ 5 rfl) hs.wat (by omega),?_⟩;simp only[Tree.goal,X.P,X.ev,SV.ev,CV.ev,Sc.ev,qz,QA,QB,QC,QD,QE,QF,QG,QH,QI,QJ,QK,QL,QM,Nat.reduceAdd,qy3,qy4];refine⟨fun h5 w' hr=>⟨by rw[if_pos h5],hr.mod⟩,fun h5=>?_⟩;rw[if_neg h5];refine⟨fun vs=>∃(y:V) (i:Nat),vs=[y,.i i]/\i<=x.wants.length/\∀j,j<i->hasS x.tel.sess (x.wants.getD j wD_V).1=true,fun vs=>x.wants.length - (vs.getD 1 (.i 0)).toI.toNat,⟨_,0,rfl,by omega,fun j hj=>by omega⟩,?_⟩;rintro _ - ⟨y0,i,rfl,hi,hall⟩;simp only[Tree.goal,X.P,X.ev,SV.ev,CV.ev,Sc.ev,qz,QA,QB,QC,QD,QE,QF,QG,QH,QI,QJ,QK,QL,QM,Nat.reduceAdd,qy3,qy4,Z1u];refine⟨fun h6=>⟨by omega,?_⟩,fun h6=>?_⟩
    . refine⟨[.i (atS x.tel.sess (x.wants.getD i wD_V).1)],rfl,fun _ w' hr=>Z8v w' x.sv x.sx _ (hr.at_ 3 rfl) (Z5r.1 k3).2.2 (by have:=hs.sessL;omega),?_⟩;simp only[Tree.goal,X.P,X.ev,SV.ev,CV.ev,Sc.ev,qz,QA,QB,QC,QD,QE,QF,QG,QH,QI,QJ,QK,QL,QM,Nat.reduceAdd,qy3,qy4];refine⟨fun h7 w' hr=>⟨?_,hr.mod⟩,fun h7=>⟨by omega,by omega,⟨_,i+1,rfl,by omega,fun j hj=>?_⟩,by omega⟩⟩
      . have h8:¬hasS x.tel.sess (x.wants.getD i wD_V).1=true:=fun h=>by rw[atS,if_pos h]at h7;omega
        have:Z10 x.tel=true:=by rw[Z10,Bool.or_eq_true];exact .inl (Z54 wD_V (l:=x.wants) (i:=i) (by omega) (by simpa using h8))
        rw[if_pos this]
      . by_cases hij:j=i
        . subst hij;exact Classical.byContradiction fun h=>h7 (by rw[atS,if_neg h];decide)
        . exact hall j (by omega)
    have hie:i=x.wants.length:=by omega
    subst hie;have ha1:(x.tel.wants.any fun w=>!hasS x.tel.sess w.1)=false:=Zbi wD_V fun j hj=>by rw[show hasS x.tel.sess (x.tel.wants.getD j wD_V).1=true from hall j hj];rfl
    refine⟨fun vs=>∃(y:V) (i:Nat),vs=[y,.i i]/\i<=x.wat.length/\∀j,j<i->hasK x.kept (x.wat.getD j wD_K).2.2.1=true,fun vs=>x.wat.length - (vs.getD 1 (.i 0)).toI.toNat,⟨_,0,rfl,by omega,fun j hj=>by omega⟩,?_⟩;rintro _ - ⟨y1,i,rfl,hi1,hall1⟩;simp only[Tree.goal,X.P,X.ev,SV.ev,CV.ev,Sc.ev,qz,QA,QB,QC,QD,QE,QF,QG,QH,QI,QJ,QK,QL,QM,Nat.reduceAdd,qy3,qy4,Z1s];refine⟨fun h6=>⟨by omega,?_⟩,fun h6=>?_⟩
    . refine⟨[.i (if hasK x.kept (x.wat.getD i wD_K).2.2.1=true then (idx x.kept (x.wat.getD i wD_K).2.2.1:Int) else -1)],rfl,fun _ w' hr=>Zgy w' x.kv x.kept _ (hr.at_ 1 rfl) (Z15.1 k1).2.2 hs.keptL,?_⟩;simp only[Tree.goal,X.P,X.ev,SV.ev,CV.ev,Sc.ev,qz,QA,QB,QC,QD,QE,QF,QG,QH,QI,QJ,QK,QL,QM,Nat.reduceAdd,qy3,qy4];refine⟨fun h7 w' hr=>⟨?_,hr.mod⟩,fun h7=>⟨by omega,by omega,⟨_,i+1,rfl,by omega,fun j hj=>?_⟩,by omega⟩⟩
      . have h8:¬hasK x.kept (x.wat.getD i wD_K).2.2.1=true:=fun h=>by rw[if_pos h]at h7;omega
        have:Z10 x.tel=true:=by rw[Z10,Bool.or_eq_true];exact .inr (Z54 wD_K (l:=x.wat) (i:=i) (by omega) (by rw[show hasK x.tel.kept (x.wat.getD i wD_K).2.2.1=false from Bool.eq_false_iff.2 h8];rfl))
        rw[if_pos this]
      . by_cases hij:j=i
        . subst hij;exact Classical.byContradiction fun h=>h7 (by rw[if_neg h];decide)
        . exact hall1 j (by omega)
    have hie:i=x.wat.length:=by omega
    subst hie;have ha2:(x.tel.wat.any fun w=>!hasK x.tel.kept w.2.2.1)=false:=Zbi wD_K fun j hj=>by rw[show hasK x.tel.kept (x.tel.wat.getD j wD_K).2.2.1=true from hall1 j hj];rfl
    have hst:¬Z10 x.tel=true:=by rw[Z10,ha1,ha2];decide
    rw[if_neg hst];refine⟨fun h7 w' hr=>⟨by rw[if_pos (by omega)],hr.mod⟩,fun h7 w' hr=>⟨by rw[if_neg (by omega)],hr.mod⟩⟩
theorem Zym:chkB smT=0:=by decide +kernel
theorem Z8w:SmlT smT:=.of (Z3w.1 Zym)
abbrev annB:List UInt8:=[97,110,110]
theorem Z13s:pktE annB pubP smT=0:=by decide +kernel
theorem Z13t:msgE 3 mGet smT=0:=by decide +kernel
theorem Z11k:gonE annB smT=0:=by decide +kernel
theorem Zug:(Z4h annB pubP smT).sess.length=1/\((Z4h annB pubP smT).sess.getD 0 s0).fl.length=1/\(Z4h annB pubP smT).out.length=3/\((Z4h annB pubP smT).out.getD 0 sntD.1).pk.kind=4/\((Z4h annB pubP smT).out.getD 2 sntD.1).msg.pay=[104,105]:=by decide +kernel
theorem Zuh:(Zl 3 mGet smT).wat.length=2/\(Zl 3 mGet smT).out.length=1/\((Zl 3 mGet smT).out.getD 0 sntD.1).msg.code=69:=by decide +kernel
theorem Zp7:(Zbz annB smT).sess.length=1/\((Zbz annB smT).sess.getD 0 s0).on=false:=by decide +kernel
abbrev pbV (p:Pkt):List V:=[.i p.kind,.b p.dup,.b p.retain,.b p.clean,.b p.session,.i p.qos,.i p.id,.i p.keep,.i p.code,.s p.client,.s p.topic,.s p.payload,.v (.slice none 0 0),.r [],.v (.slice none 0 0),.r []]
theorem Zp8 (t:Tel):resB 0 t=t:=if_pos rfl
theorem Zhj (w:World):Calls Tryz.prog 16 #[] w fun e w'=>e=.returned (.bool true)/\Mod [] w w':=by
 refine Z1 (Z7 (ρ:=[]) sxE_ok Tryz.func16 Z3x rfl rfl rfl ?_) rfl;simp only[Tree.goal,X.P,X.ev,SV.ev,CV.ev,Sc.ev,qz,QA,QB,QC,QD,QE,QF,QG,QH,QI,QJ,QK,QL,QM,Nat.reduceAdd,qy3,qy4];intro w1 hr1;refine(Zn9 hr1 0 (Zhh w1) rfl).mono ?_;rintro r w2 ⟨y1,t1,-,-,rfl,m1,m3,m4⟩;refine⟨smV y1,rfl,rfl,m1,qy5 _,m3,m4,?_⟩;clear m1 m3 m4 hr1;intro w3 hr3;refine(Z151 w3).mono ?_;rintro r w4 ⟨rfl,m1⟩;refine⟨pbV pubP,rfl,rfl,m1,qy5 _,qy2.2 ⟨⟨Z9 w4 _,fun k hk=>absurd rfl hk.1⟩,qy2.2 ⟨⟨Z9 w4 _,fun k hk=>absurd rfl hk.1⟩,qy5 _⟩⟩,Za9 (by simp[Ent.wr]),?_⟩;clear m1 hr3;intro w5 hr5;have b1:y1.bare.tel=smT:=by rw[Z33,t1];rfl
 have hc:=Zu8 w5 y1.bare annB pubP (.slice none 0 0) (.slice none 0 0) (Z13q ⟨hr5.at_ 2 rfl,hr5.at_ 3 rfl,hr5.at_ 4 rfl,Z7c (y:=y1) (hr5.at_ 6 rfl),hr5.at_ 5 rfl⟩ (hr5.at_ 0 rfl) (hr5.at_ 1 rfl)) rfl (SmlT.b (by rw[b1];exact Z8w)) (SmlT.f (by rw[b1];exact Z8w)) (by decide) Zp5;rw[b1,Z13s,Zp8]at hc;refine(Zg0 hr5 26 hc rfl).mono ?_;rintro r w6 ⟨y2,t2,-,rfl,m1,m3,m4⟩;refine⟨brV y2 0,rfl,rfl,m1,qy5 _,m3,m4,?_⟩;clear m1 m3 m4 hr5 hc;intro b39 w7 hr7;refine(Zn9 hr7 40 (Zhh w7) rfl).mono ?_;rintro r w8 ⟨y3,t3,-,-,rfl,m1,m3,m4⟩;refine⟨smV y3,rfl,rfl,m1,qy5 _,m3,m4,?_⟩;clear m1 m3 m4 hr7;intro w9 hr9;refine(Zaz w9).mono ?_;rintro r w10 ⟨v4,rfl,r1,f1,m1⟩;refine⟨mgV mGet v4,rfl,rfl,m1,qy5 _,qy2.2 ⟨⟨r1,fun k hk=>.inl (f1 k hk)⟩,qy5 _⟩,Z4,?_⟩;clear r1 f1 m1 hr9;intro w11 hr11;have b3:y3.bare.tel=smT:=by rw[Z33,t3];rfl
 have hc:=Z5u w11 y3.bare 3 mGet v4 (Zji ⟨hr11.at_ 1 rfl,hr11.at_ 2 rfl,hr11.at_ 3 rfl,Z7c (y:=y3) (hr11.at_ 5 rfl),hr11.at_ 4 rfl⟩ (hr11.at_ 0 rfl)) rfl (SmlT.b (by rw[b3];exact Z8w)) (SmlT.f (by rw[b3];exact Z8w)) (by decide) (by decide) (by decide);rw[b3,Z13t,Zp8]at hc;refine(Zg0 hr11 57 hc rfl).mono ?_;rintro r w12 ⟨y5,t5,-,rfl,m1,m3,m4⟩;refine⟨brV y5 0,rfl,rfl,m1,qy5 _,m3,m4,?_⟩;clear m1 m3 m4 hr11 hc;intro b70 w13 hr13;refine(Zn9 hr13 71 (Zhh w13) rfl).mono ?_;rintro r w14 ⟨y6,t6,-,-,rfl,m1,m3,m4⟩;refine⟨smV y6,rfl,rfl,m1,qy5 _,m3,m4,?_⟩;clear m1 m3 m4 hr13;intro w15 hr15;have b6:y6.bare.tel=smT:=by rw[Z33,t6];rfl
 have hc:=Z11g w15 y6.bare annB (Z13r ⟨hr15.at_ 0 rfl,hr15.at_ 1 rfl,hr15.at_ 2 rfl,Z7c (y:=y6) (hr15.at_ 4 rfl),hr15.at_ 3 rfl⟩) rfl (SmlT.b (by rw[b6];exact Z8w)) (SmlT.f (by rw[b6];exact Z8w)) (by decide);rw[b6,Z11k,Zp8]at hc;refine(Z13p hr15 81 hc rfl).mono ?_;rintro r w16 ⟨y7,t7,-,-,rfl,m1,m3,m4⟩;refine⟨gnV y7 0,rfl,rfl,m1,qy5 _,m3,m4,?_⟩;clear m1 m3 m4 hr15 hc;intro b92 w17 hr17;refine(Zn9 hr17 93 (Zhh w17) rfl).mono ?_;rintro r w18 ⟨y8,t8,-,-,rfl,m1,m3,m4⟩;refine⟨smV y8,rfl,rfl,m1,qy5 _,m3,m4,?_⟩;clear m1 m3 m4 hr17;have b8:y8.bare.tel=smT:=by rw[Z33,t8];rfl
 refine⟨[.i 0],rfl,fun _ w' hr=>?_,?_⟩
 ·have hc:=Z7p w' y8.bare (RdX.rel ⟨hr.at_ 0 rfl,hr.at_ 1 rfl,hr.at_ 2 rfl,Z7c (y:=y8) (hr.at_ 4 rfl),hr.at_ 3 rfl⟩) rfl (SmlT.b (by rw[b8];exact Z8w));rw[b8,Zym]at hc;exact hc
 simp only[Tree.goal,X.P,X.ev,SV.ev,CV.ev,Sc.ev,qz,QA,QB,QC,QD,QE,QF,QG,QH,QI,QJ,QK,QL,QM,Nat.reduceAdd,qy3,qy4];have lenX:∀y:TelX,y.tel.sess.length=y.sx.length/\y.tel.out.length=y.ox.length:=fun y=>⟨by simp[TelX.tel],by simp[TelX.tel]⟩
 obtain⟨a1,a2,a3,a4,a5⟩:=Zug;obtain⟨c1,c2,c3⟩:=Zuh;obtain⟨d1,d2⟩:=Zp7;rw[<- t2]at a1 a2 a3 a4 a5;rw[<- t5]at c1 c2 c3;rw[<- t7]at d1 d2;rw[(lenX y2).1]at a1;rw[(lenX y2).2]at a3;rw[(lenX y5).2]at c2;rw[(lenX y7).1]at d1;simp only[TelX.tel,Zj2,Z150]at a2 a4 a5 c1 c3 d2;have q1:=Z7x (l:=y2.sx) (i:=0) (by omega);have q2:=Zhd (l:=y2.ox) (i:=0) (by omega);have q3:=Zhd (l:=y2.ox) (i:=2) (by omega);have q4:=Zhd (l:=y5.ox) (i:=0) (by omega);have q5:=Z7x (l:=y7.sx) (i:=0) (by omega);have mm:=Z5p (l:=y2.sx) (i:=0) (by omega);refine⟨.inr (by omega),fun _=>?_,fun h=>absurd ⟨⟨⟨⟨⟨trivial,trivial⟩,trivial⟩,trivial⟩,by omega⟩,by omega⟩ h⟩;refine⟨(y2.sx.getD 0 sxD).1.fl.map encF,fun w' hr=>?_,?_⟩
 ·have hnn:=Zq (hr.at_ 35 rfl:(Z6 y2.sx y2.ox).holds w') mm;have hv:((y2.sx.map Zh).getD 0 []).getD 3 undef=(y2.sx.getD 0 sxD).2.1:=by rw[q1];exact hnn.1.sc1
  have hv':(((y2.sx.map Zh).getD (0:Int).toNat []).getD 3 undef)=(y2.sx.getD 0 sxD).2.1:=hv;refine⟨by rw[hv'];exact hnn.1,fun hne k hk e he hw hf=>?_⟩;have hk':Z2 (y2.sx.getD 0 sxD).2.1 k:=by rw[<- hv'];exact hk
  exact hr.disj (qy6 (i:=35) rfl) he (fun h=>by subst h;cases hw) (.inr hw) (Zi.2 (.inl ⟨_,mm,.inl ⟨hne,hk'⟩⟩)) hf
 ·simp only[Tree.goal,X.P,X.ev,SV.ev,CV.ev,Sc.ev,qz,QA,QB,QC,QD,QE,QF,QG,QH,QI,QJ,QK,QL,QM,Nat.reduceAdd,qy3,qy4];have e1:Value.gI (((y2.ox.map Z1q).getD (Int.toNat 0) []).getD 1 undef)=4:=by rw[show Int.toNat 0=0 from rfl,q2];exact a4
  have e2:Value.gS (((y2.ox.map Z1q).getD (Int.toNat 2) []).getD 21 undef)=[104,105]:=by rw[show Int.toNat 2=2 from rfl,q3];exact a5
  have e3:Value.gI (((y5.ox.map Z1q).getD (Int.toNat 0) []).getD 17 undef)=69:=by rw[show Int.toNat 0=0 from rfl,q4];exact c3
  have e4:Value.gB (((y7.sx.map Zh).getD (Int.toNat 0) []).getD 1 undef)=false:=by rw[show Int.toNat 0=0 from rfl,q5];exact d2
  rw[e1,e2,e3,e4];refine⟨.inr (by omega),.inr (by omega),.inr (by omega),.inr (by omega),fun w' hr=>⟨?_,hr.mod⟩⟩;have i1:((y2.sx.getD 0 sxD).1.fl.length:Int)=1:=by omega
  have i2:(y2.ox.length:Int)=3:=by omega
  have i3:(y5.wat.length:Int)=2:=by omega
  have i4:(y5.ox.length:Int)=1:=by omega
  rw[i1,i2,i3,i4];rfl
end Go.Proofs.YtkhakgbnfapifaaGreatDoor
namespace Go.Proofs.YtkhakgbnfapifaaGreatDoor
open Go.Sx
def ahead (acc:List Opt):Option (List Opt×List UInt8)->Option (List Opt×List UInt8)
 | none=>none
 | some p=>some (acc++p.1,p.2)
end Go.Proofs.YtkhakgbnfapifaaGreatDoor
namespace Go.Proofs.YtkhakgbnfapifaaGreatDoor
open Go Go.Sx
end Go.Proofs.YtkhakgbnfapifaaGreatDoor
namespace Go.Proofs.YtkhakgbnfapifaaGreatDoor
open Go Go.Sx
theorem Zui (n:Int) (vs:List (List UInt8)):Z4f [] n vs=vs.map fun v=>(n,v):=by simp[Z4f,noN,upTo,past]
theorem Zp9 (vs:List (List UInt8)):Z4g 6 (Z4f [] 11 vs)=(0,5):=by
 have:Zg 6 (Z4f [] 11 vs)=[]:=Z74 fun o ho=>by rw[Zui]at ho;obtain⟨v,-,rfl⟩:=List.mem_map.1 ho;exact(by decide:¬(11:Int)=6)
 unfold Z4g;rw[this]
abbrev rdM (c:Int) (tok name pay:List UInt8):Msg:=⟨0,c,7,tok,Z4f [] 11 (lev name),pay⟩
abbrev Z11 (c:Int) (tok pay:List UInt8):Msg:=⟨2,c,7,tok,[],pay⟩
theorem Zpa {n c:Int} {tok name pay:List UInt8} {t:Tel} (ho:t.out=[]) (hc:¬c=0) : Zl n (rdM c tok name pay) t={ (doB n (rdM c tok name pay) (Z11 133 tok []) { t with out:=[toP n (Z11 133 tok [])] }).1 with
   out:=(doB n (rdM c tok name pay) (Z11 133 tok []) { t with out:=[toP n (Z11 133 tok [])] }).1.out.set 0 (toP n (doB n (rdM c tok name pay) (Z11 133 tok []) { t with out:=[toP n (Z11 133 tok [])] }).2) }:=by
 have e1:Zl n (rdM c tok name pay) t=Z3u n (rdM c tok name pay) t:=by rw[Zl,if_neg (fun h=>hc h.1),if_pos ⟨hc,(by decide:(0:Int)<=1)⟩]
 rw[e1,Z3u];have e2:Z8k (rdM c tok name pay) t.next=Z11 133 tok []:=rfl;simp only[e2,ho,List.nil_append,List.length_nil];rfl
theorem Zna {l:List Snt} {a b:Snt} (h:[a] <+: l):∃r,l.set 0 b=b::r:=by obtain⟨r,rfl⟩:=h;exact⟨r,rfl⟩
theorem Znb {l:List Kp} {n:List UInt8} (h:chkK l=0) (hn:chkT n false=0):getC l n=if hasK l n=true then (l.getD (idx l n) kD,0) else (kD,5):=by rw[getC,if_pos (by unfold putE;rw[if_pos h];exact hn)]
section
variable {n:Int} {tok name pay:List UInt8} {t:Tel}
theorem Z13u (h:BOk t) (ho:t.out=[]) (hn:chkT name false=0) (hp:pay.length<=200) (hk:¬(¬pay=[]/\(Z1i name pay { t with out:=[toP n (Z11 133 tok [])] }).2=true)) :
  Zl n (rdM 3 tok name pay) t={ t with out:=[toP n (Z11 128 tok [])] }/\(pay=[]\/t.kept.length=16):=by
 refine⟨?_,?_⟩
 ·rw[Zpa ho (by decide)];have e:doB n (rdM 3 tok name pay) (Z11 133 tok []) { t with out:=[toP n (Z11 133 tok [])] }=({ t with out:=[toP n (Z11 133 tok [])] },Z11 128 tok []):=by
   rw[doB,Z75 hn,if_neg (by decide:¬¬(0:Int)=0),if_neg (by decide:¬(3:Int)=1),if_pos rfl,if_neg hk]
  rw[e];rfl
 ·by_cases h1:pay=[]
  ·exact .inl h1
  refine .inr (Classical.byContradiction fun h2=>hk ⟨h1,?_⟩);have h3:(rawK t.kept name pay).2=0:=by
   unfold rawK;rw[if_neg (by omega),if_neg (fun h=>h1 h.2)];split
   ·rfl
   ·rw[if_neg (by omega)]
  unfold Z1i;rw[if_neg (qy9.2 h3),if_pos h1]
theorem Z13v (h:BOk t) (ho:t.out=[]) (hn:chkT name false=0) (hf:flE (0,name,pay)=0) (hk:¬pay=[]/\(Z1i name pay { t with out:=[toP n (Z11 133 tok [])] }).2=true) :
  (rawK t.kept name pay).2=0/\(Zl n (rdM 3 tok name pay) t).kept=(rawK t.kept name pay).1/\∃r,(Zl n (rdM 3 tok name pay) t).out=toP n (Z11 68 tok [])::r:=by
 have h0:BOk { t with out:=[toP n (Z11 133 tok [])] }:=⟨h.kept,h.wants,h.ns,h.ses,h.sort,h.wat,h.has,h.kpt,h.next⟩
 obtain⟨h1,h2⟩:=hk;have hr:(rawK t.kept name pay).2=0:=Classical.byContradiction fun hr=>by unfold Z1i at h2;rw[if_pos hr]at h2;cases h2
 have e1:Z1i name pay { t with out:=[toP n (Z11 133 tok [])] }=({ t with out:=[toP n (Z11 133 tok [])],kept:=(rawK t.kept name pay).1 },true):=by unfold Z1i;rw[if_neg (qy9.2 hr),if_pos h1]
 have e:doB n (rdM 3 tok name pay) (Z11 133 tok []) { t with out:=[toP n (Z11 133 tok [])] }=(Za3 name pay 1 { t with out:=[toP n (Z11 133 tok [])],kept:=(rawK t.kept name pay).1 },Z11 68 tok []):=by rw[doB,Z75 hn,if_neg (by decide:¬¬(0:Int)=0),if_neg (by decide:¬(3:Int)=1),if_pos rfl,if_pos ⟨h1,h2⟩,e1]
 have hb1:BOk { t with out:=[toP n (Z11 133 tok [])],kept:=(rawK t.kept name pay).1 }:=by have:=(Z7n (n:=name) (p:=pay) h0 hn).1;rw[e1]at this;exact this
 refine⟨hr,?_,?_⟩
 ·rw[Zpa ho (by decide),e];exact(Zmw (q:=1) hb1 hf).2.2.1
 ·rw[Zpa ho (by decide),e];exact Zna (Zn6 name pay 1 { t with out:=[toP n (Z11 133 tok [])],kept:=(rawK t.kept name pay).1 })
theorem Z13w (ho:t.out=[]) (hn:chkT name false=0) (hk:hasK t.kept name=true) : Zl n (rdM 1 tok name []) t={ t with out:=[toP n (Z11 69 tok (t.kept.getD (idx t.kept name) kD).2.1)] }:=by
 rw[Zpa ho (by decide)];have e:doB n (rdM 1 tok name []) (Z11 133 tok []) { t with out:=[toP n (Z11 133 tok [])] }=({ t with out:=[toP n (Z11 133 tok [])] },Z11 69 tok (t.kept.getD (idx t.kept name) kD).2.1):=by rw[doB,Z75 hn,if_neg (by decide:¬¬(0:Int)=0),if_pos rfl,getB,if_neg (qy9.2 hk)];simp only[Zp9];rw[if_neg (fun h=>absurd h.1 (by decide)),if_neg (fun h=>absurd h.1 (by decide))]
 rw[e];rfl
theorem Z11l (ho:t.out=[]) (hn:chkT name false=0) (hk:¬hasK t.kept name=true) : Zl n (rdM 1 tok name []) t={ t with out:=[toP n (Z11 132 tok [])] }:=by
 rw[Zpa ho (by decide)];have e:doB n (rdM 1 tok name []) (Z11 133 tok []) { t with out:=[toP n (Z11 133 tok [])] }=({ t with out:=[toP n (Z11 133 tok [])] },Z11 132 tok []):=by rw[doB,Z75 hn,if_neg (by decide:¬¬(0:Int)=0),if_pos rfl,getB,if_pos hk]
 rw[e];rfl
theorem Z13x (h:BOk t) (ho:t.out=[]) (hn:chkT name false=0) : ¬hasK (Zl n (rdM 4 tok name []) t).kept name=true/\∃r,(Zl n (rdM 4 tok name []) t).out=toP n (Z11 66 tok [])::r:=by
 have hr:(rawK t.kept name []).2=0:=by
  unfold rawK;rw[if_neg (by decide)];split
  ·rfl
  rename_i h1;rw[if_neg (fun h2=>h1 ⟨h2,rfl⟩),if_pos rfl]
 have e:doB n (rdM 4 tok name []) (Z11 133 tok []) { t with out:=[toP n (Z11 133 tok [])] }=((Z1i name [] { t with out:=[toP n (Z11 133 tok [])] }).1,Z11 66 tok []):=by rw[doB,Z75 hn,if_neg (by decide:¬¬(0:Int)=0),if_neg (by decide:¬(4:Int)=1),if_neg (by decide:¬(4:Int)=3),if_pos rfl]
 rw[Zpa ho (by decide),e];refine⟨?_,Zna (Zhc name [] { t with out:=[toP n (Z11 133 tok [])] })⟩;have hk:(Z1i name [] { t with out:=[toP n (Z11 133 tok [])] }).1.kept=(rawK t.kept name []).1:=by unfold Z1i;rw[if_neg (qy9.2 hr),if_neg (qy9.2 rfl)];exact(Zft (t.wat.filter (ofT name)) { t with out:=[toP n (Z11 133 tok [])],kept:=(rawK t.kept name []).1 } h.next).1
 intro hh;have hh:hasK (rawK t.kept name []).1 name=true:=by rw[<- hk];exact hh
 have h2:=Zt8 (n:=name) (p:=[]) h.kept hn hr;rw[Znb (Z8s h.kept hn hr) hn,if_pos hh]at h2;have:=congrArg Prod.snd h2;simp[newX]at this
theorem Z13y (h:BOk t) (hn:chkT name false=0) (hr:(rawK t.kept name pay).2=0) (hp:¬pay=[]) : hasK (rawK t.kept name pay).1 name=true/\((rawK t.kept name pay).1.getD (idx (rawK t.kept name pay).1 name) kD).2.1=pay:=by have hh:=Zxa h.kept hn hr hp;refine⟨hh,?_⟩;have h2:=Zt8 (n:=name) (p:=pay) h.kept hn hr;rw[Znb (Z8s h.kept hn hr) hn,if_pos hh,newX,if_neg hp]at h2;have:=congrArg (fun x=>x.1.2.1) h2;simpa using this
end
end Go.Proofs.YtkhakgbnfapifaaGreatDoor
namespace Go.Proofs.YtkhakgbnfapifaaGreatDoor
open Go.Sx
end Go.Proofs.YtkhakgbnfapifaaGreatDoor
