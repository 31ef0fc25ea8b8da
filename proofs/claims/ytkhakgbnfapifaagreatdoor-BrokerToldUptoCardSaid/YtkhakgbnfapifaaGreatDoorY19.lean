/-
  Texts of mine, one behind the other. By an AI agent.
-/
import Derived.Test.YtkhakgbnfapifaaGreatDoorY17
import Derived.Test.YtkhakgbnfapifaaGreatDoorY10
import Derived.Test.YtkhakgbnfapifaaGreatDoorY18
import Derived.Test.YtkhakgbnfapifaaGreatDoorY08
import Derived.Test.YtkhakgbnfapifaaGreatDoorY09
import Derived.Test.YtkhakgbnfapifaaGreatDoorY15
import Derived.Test.YtkhakgbnfapifaaGreatDoorY12
set_option linter.unusedSimpArgs false
set_option linter.unusedVariables false
set_option maxHeartbeats 20000000
namespace Go.Proofs.YtkhakgbnfapifaaGreatDoor
open Go Go.Sx
def atS (l:List Ses) (n:List UInt8):Int:=if hasS l n=true then (idxS l n:Int) else -1
theorem Zci (w:World) (v:Value) (l:List SesX) (n:List UInt8) (hv:reads w v kSx (l.map Zh)) (hs:Z41 (l.map (·.1))) (hl:l.length<1000000000) : Calls Tryz.prog 22 #[sc1 v,.string ⟨n.toArray⟩] w fun e w'=>e=.returned (.int .i64 (atS (l.map (·.1)) n))/\Mod [] w w':=by
 refine Z2 (Z4 (ρ:=[.v v,.r (l.map Zh),.s n]) sxE_ok Tryz.func22 Z46 rfl rfl (Rel.start2 (by simp[Ent.holds,Ent.wr,hv,X.ev])) rfl rfl ?_) rfl;simp only[Tree.goal,X.P,X.ev,SV.ev,CV.ev,Sc.ev,qz,QA,QB,QC,QD,QE,QF,QG,QH,QI,QJ,QK,QL,QM,Nat.reduceAdd,qy3,qy4];refine⟨fun vs=>∃(i:Nat) (x:V),vs=[x,.i i]/\i<=l.length/\∀j,j<i->¬(l.getD j sxD).1.cl=n,fun vs=>l.length - (vs.getD 1 (.i 0)).toI.toNat,⟨0,_,rfl,by omega,fun j hj=>by omega⟩,?_⟩;rintro _ - ⟨i,x,rfl,hi,hall⟩;simp only[Tree.goal,X.P,X.ev,SV.ev,CV.ev,Sc.ev,qz,QA,QB,QC,QD,QE,QF,QG,QH,QI,QJ,QK,QL,QM,Nat.reduceAdd,qy3,qy4,gSx0];refine⟨fun h1=>⟨by omega,fun h2 w' hr=>⟨?_,hr.mod⟩,fun h2=>⟨by omega,by omega,⟨i+1,x,rfl,by omega,fun j hj=>?_⟩,by omega⟩⟩,fun h1 w' hr=>⟨?_,hr.mod⟩⟩
 ·have hi':i<l.length:=by omega
  have e:=Zha (l:=l) (n:=n) (i:=i) (by omega) (fun k hk=>by rw[<- h2];exact Zaq hs (i:=k) (j:=i) hk hi') (fun k h3 h4=>by
   by_cases hk:k=i
   ·rw[hk,h2];exact Z1a _
   ·rw[<- h2];exact Z3p (Zaq hs (i:=i) (j:=k) (by omega) h4))
  have hh:hasS (l.map (·.1)) n=true:=decide_eq_true (by rw[<- e,Ziv,qy3];exact⟨hi',h2⟩);rw[atS,if_pos hh,<- e]
 ·by_cases hji:j=i
  ·rw[hji];exact h2
  ·exact hall j (by omega)
 ·have hie:i=l.length:=by omega
  have hh:¬hasS (l.map (·.1)) n=true:=fun h=>by obtain⟨h3,h4⟩:=Z5b h;rw[qy3]at h3;rw[Ziv]at h4;exact hall _ (by omega) h4
  rw[atS,if_neg hh]
theorem Z12y (l:List SntX) (i:Nat):(l.map (·.1)).getD i sntD.1=(l.getD i sntD).1:=by rw[qy1,qy1,List.getElem?_map];cases l[i]?<;>rfl
end Go.Proofs.YtkhakgbnfapifaaGreatDoor
namespace Go.Proofs.YtkhakgbnfapifaaGreatDoor
open Go.Sx
abbrev totA (k:Int) (l:List Ak):Nat:=(l.map (Zw6 k)).flatten.length
structure BdP (s:List UInt8) (p:Pkt):Prop where
 kind:0<=p.kind/\p.kind<=15
 qos:0<=p.qos/\p.qos<=3
 id:0<=p.id/\p.id<=65535
 keep:0<=p.keep/\p.keep<=65535
 code:0<=p.code/\p.code<=65535
 asks:∀a∈p.asks,a.1.length<=s.length/\0<=a.2/\a.2<256
 codes:∀c∈p.codes,0<=c/\c<256
 client:p.client.length<=s.length
 topic:p.topic.length<=s.length
 payload:p.payload.length<=s.length
 total:totA p.kind p.asks<=s.length+3
 ncodes:p.codes.length<=s.length+1
def rdV (s:List UInt8) (a:Nat) (sh:Bool):List Value:=[.string ⟨s.toArray⟩,.int .i64 a,.bool sh]
abbrev rdAt (w:World) (b:Nat) (s:List UInt8) (a:Nat) (sh:Bool):Prop:=w.heap[b]?=some (.cells (rdV s a sh).toArray 219 (0,0))
def pC (p:Pkt) (u v:Value):List Value:=[.int .i64 p.kind,.bool p.dup,.bool p.retain,.bool p.clean,.bool p.session,.int .i64 p.qos,.int .i64 p.id,.int .i64 p.keep,.int .i64 p.code,.string ⟨p.client.toArray⟩,.string ⟨p.topic.toArray⟩,.string ⟨p.payload.toArray⟩,Go.Sx.sc1 u,Go.Sx.sc1 v]
abbrev pAt (w:World) (b:Nat) (p:Pkt) (u v:Value):Prop:=w.heap[b]?=some (.cells (pC p u v).toArray 31 (0,0))
section
variable (w:World) (b:Nat) (s:List UInt8) (a:Nat) (sh:Bool) (h:rdAt w b s a sh) (ha:a<=s.length) (hs:s.length<1000000000)
include h
end
end Go.Proofs.YtkhakgbnfapifaaGreatDoor
namespace Go.Proofs.YtkhakgbnfapifaaGreatDoor
open Go.Sx
abbrev nilV:Value:=.slice none 0 0
section
variable (w:World) (b c:Nat) (s:List UInt8) (a:Nat) (sh:Bool) (p:Pkt) (h:rdAt w b s a sh) (hp:pAt w c p nilV nilV) (hbc:b≠c) (ha:a<=s.length) (hs:s.length<1000000000)
include h hp hbc
end
section
variable (w:World) (b c:Nat) (s:List UInt8) (a:Nat) (sh:Bool) (p:Pkt) (h:rdAt w b s a sh) (hp:pAt w c p nilV nilV) (hbc:b≠c) (ha:a<=s.length) (hs:s.length<1000000000) (pz:p.asks=[]/\p.codes=[]) (hB:BdP s p)
include h hp hbc ha hs pz hB
end
end Go.Proofs.YtkhakgbnfapifaaGreatDoor
namespace Go.Proofs.YtkhakgbnfapifaaGreatDoor
open Go.Sx
end Go.Proofs.YtkhakgbnfapifaaGreatDoor
namespace Go.Proofs.YtkhakgbnfapifaaGreatDoor
open Go.Sx
def pubP:Pkt:=⟨3,false,false,false,false,1,10,0,0,[],[97,47,98],[104,105],[],[]⟩
theorem Zna:SmallP pubP:=⟨by decide,by decide,by decide,by decide,by decide,by decide⟩
theorem Z12z (w:World):Calls Tryz.prog 63 #[] w fun e w'=>e=.returned (pV pubP nilV nilV)/\Mod [] w w':=by refine Z2 (Zb (ρ:=[]) sxE_ok Tryz.func63 Z6l rfl rfl rfl ?_) rfl;simp only[Tree.goal,X.P,X.ev,SV.ev,CV.ev,Sc.ev,qz,QA,QB,QC,QD,QE,QF,QG,QH,QI,QJ,QK,QL,QM,Nat.reduceAdd];exact fun b w' hr=>⟨rfl,hr.mod⟩
section
variable (w:World) (p q:Pkt) (u v x y:Value)
end
end Go.Proofs.YtkhakgbnfapifaaGreatDoor
namespace Go.Proofs.YtkhakgbnfapifaaGreatDoor
open Go.Sx
def sA:Ses:=⟨[97,110,110],true,false,[],[],65535⟩
theorem Z11i (w:World):Calls Tryz.prog 150 #[] w fun e w'=>e=.returned (sesV sA (.slice none 0 0) (.slice none 0 0))/\Mod [] w w':=by refine Z2 (Zb (ρ:=[]) sxE_ok Tryz.func150 Z5x rfl rfl rfl ?_) rfl;simp only[Tree.goal,X.P,X.ev,SV.ev,CV.ev,Sc.ev,qz,QA,QB,QC,QD,QE,QF,QG,QH,QI,QJ,QK,QL,QM,Nat.reduceAdd];exact fun b w' hr=>⟨rfl,hr.mod⟩
end Go.Proofs.YtkhakgbnfapifaaGreatDoor
namespace Go.Proofs.YtkhakgbnfapifaaGreatDoor
open Go Go.Sx
structure SmlT (t:Tel):Prop where
 kept:Zdq t.kept
 keptL:t.kept.length<1000000000
 wants:Zs t.wants
 wantsL:t.wants.length<1000000000
 sess:∀s∈t.sess,Zch s
 sessL:t.sess.length<1000000
 wat:Z6b t.wat
 watL:t.wat.length<1000000000
theorem SmlT.b {x:TelX} (h:SmlT x.tel):SmlB x :=
 ⟨h.kept,h.keptL,h.wants,h.wantsL,fun t ht=>h.sess _ (List.mem_map_of_mem ht),by have:=h.sessL;rw[show x.tel.sess.length=x.sx.length by simp[TelX.tel]]at this;exact this,h.wat,h.watL⟩
theorem SmlT.f {x:TelX} (h:SmlT x.tel):∀t∈x.sx,t.1.fl.length<1000000000/\t.1.qu.length<1000000000:=fun t ht=>by have:=h.sess _ (List.mem_map_of_mem ht);exact⟨this.2.2.1,this.2.2.2.1⟩
theorem Zcj {f:Fl} (h:flE f=0):f.2.1.length<4294967281:=by
 unfold flE at h;split at h
 ·rename_i h1;have:=(Z78.1 h1).2.1.1;omega
 ·exact absurd h (by assumption)
theorem Zs5 {s:Ses} (h:SesOk s):Zch s:=by have h1:=h.nf;have h2:=h.nq;have h3:=h.cl;unfold Zz at h3;rw[Bool.and_eq_true,decide_eq_true_eq]at h3;exact⟨fun x hx=>Zcj (h.fl.each x hx).1,fun x hx=>Zcj (h.qu x hx).1,by omega,by omega,by omega⟩
theorem Zs6 {l:List Wat} (h:Z1n l=0):Z6b l:=fun x hx=>by
 have h1:=((Z13.1 h).2.1 x hx).1;unfold Z88 at h1
 (repeat' split at h1)<;>first|(have:=(Z78.1 h1).2.1.1;omega)|simp at h1
theorem SmlT.of {t:Tel} (h:BOk t):SmlT t:=by obtain⟨k1,k2,-⟩:=Z1o.1 h.kept;have h3:=(Zk.1 h.wants).1;have h4:=(Z13.1 h.wat).1;have h5:=h.ns;exact⟨fun x hx=>by have:=(Z78.1 (k2 x hx).1).2.1.1;omega,by omega,Z9k h.wants,by omega,fun s hs=>Zs5 (h.ses s hs),by omega,Zs6 h.wat,by omega⟩
abbrev TelX.bare (y:TelX):TelX:={ y with ox:=[],ov:=.slice none 0 0 }
theorem Zfm {w:World} {y:TelX} (h:(Z6 y.sx y.ox).holds w):(Z6 y.sx []).holds w:=Z1d (fun t ht=>.inl ht) (fun t ht=>(List.not_mem_nil ht).elim) h
theorem Zax (y:TelX):y.bare.tel={ y.tel with out:=[] }:=rfl
theorem Z8t {ρ:List V} {es:List Ent} (h:∀e∈es,e.wr=false):Z2q ρ es:=by
 induction es with
 | nil=>exact List.Pairwise.nil
 | cons a es ih =>
  refine List.pairwise_cons.2 ⟨fun b hb hw=>?_,ih fun e he=>h e (qy10 _ he)⟩;rw[h a (qy8 ..),h b (qy10 _ hb)]at hw;rcases hw with hw|hw<;>cases hw
abbrev brV (y:TelX) (e:Int):List V:=[.v y.kv,.r (y.kept.map encK),.v y.wv,.r (y.wants.map Z7),.v y.sv,.r (y.sx.map Zh),.v y.av,.r (y.wat.map Z9),.i y.next,.v y.ov,.r (y.ox.map Z30),.i e,.a (Z6 y.sx y.ox)]
abbrev brEs (n:Nat):List Ent:=[.rd n kK (.var (n+1)),.rd (n+2) kW_V (.var (n+3)),.rd (n+4) kSx (.var (n+5)),.rd (n+6) kW_K (.var (n+7)),.rd (n+9) kSn (.var (n+10)),.st (n+12)]
abbrev gnV (y:TelX) (e:Int):List V:=[.v y.kv,.r (y.kept.map encK),.v y.wv,.r (y.wants.map Z7),.v y.sv,.r (y.sx.map Zh),.v y.av,.r (y.wat.map Z9),.i y.next,.i e,.a (Z6 y.sx y.ox)]
abbrev gnEs (n:Nat):List Ent:=[.rd n kK (.var (n+1)),.rd (n+2) kW_V (.var (n+3)),.rd (n+4) kSx (.var (n+5)),.rd (n+6) kW_K (.var (n+7)),.st (n+10)]
abbrev smV (y:TelX):List V:=[.v y.kv,.r (y.kept.map encK),.v y.wv,.r (y.wants.map Z7),.v y.sv,.r (y.sx.map Zh),.v y.av,.r (y.wat.map Z9),.i y.next,.a (Z6 y.sx y.ox)]
abbrev smEs (n:Nat):List Ent:=[.rd n kK (.var (n+1)),.rd (n+2) kW_V (.var (n+3)),.rd (n+4) kSx (.var (n+5)),.rd (n+6) kW_K (.var (n+7)),.st (n+9)]
section
variable {P:Program} {f:Nat} {args:Array Value} {w:World} {B:Base} {ρ:List V} {hp:List Ent}
theorem Z11j {y:TelX} {e:Int} {n m:Nat} {w1:World} {Q:Ent->Nat->Prop} (hn:ρ.length=n) (h:RdB m w1 y):∀x∈brEs n,x.holds (ρ++brV y e) w1/\∀k,x.fp (ρ++brV y e) k->m<=k\/Q x k:=by
 have g:=Zfk (vs:=brV y e) hn;have g0:(ρ++brV y e).getD n (.i 0)=.v y.kv:=g 0;refine qy2.2 ⟨⟨?_,fun k hk=>.inl ?_⟩,qy2.2 ⟨⟨?_,fun k hk=>.inl ?_⟩,qy2.2 ⟨⟨?_,fun k hk=>.inl ?_⟩,qy2.2 ⟨⟨?_,fun k hk=>.inl ?_⟩,qy2.2 ⟨⟨?_,fun k hk=>.inl ?_⟩,qy2.2 ⟨⟨?_,fun k hk=>.inl ?_⟩,qy5 _⟩⟩⟩⟩⟩⟩ <;>
  simp only[Ent.holds,Ent.fp,X.ev,g0,g 1,g 2,g 3,g 4,g 5,g 6,g 7,g 9,g 10,g 12]at *
 ·exact h.kept
 ·exact h.nk k hk.1 hk.2
 ·exact h.want
 ·exact h.nw k hk.1 hk.2
 ·exact h.sess
 ·exact h.ns k hk.1 hk.2
 ·exact h.wat
 ·exact h.na k hk.1 hk.2
 ·exact h.out
 ·exact h.no k hk.1 hk.2
 ·exact h.nest
 ·exact h.nn k hk
theorem Z11k {y:TelX} {e:Int} {n m:Nat} {w1:World} {Q:Ent->Nat->Prop} (hn:ρ.length=n) (h:RdB m w1 y):∀x∈gnEs n,x.holds (ρ++gnV y e) w1/\∀k,x.fp (ρ++gnV y e) k->m<=k\/Q x k:=by
 have g:=Zfk (vs:=gnV y e) hn;have g0:(ρ++gnV y e).getD n (.i 0)=.v y.kv:=g 0;refine qy2.2 ⟨⟨?_,fun k hk=>.inl ?_⟩,qy2.2 ⟨⟨?_,fun k hk=>.inl ?_⟩,qy2.2 ⟨⟨?_,fun k hk=>.inl ?_⟩,qy2.2 ⟨⟨?_,fun k hk=>.inl ?_⟩,qy2.2 ⟨⟨?_,fun k hk=>.inl ?_⟩,qy5 _⟩⟩⟩⟩⟩ <;>
  simp only[Ent.holds,Ent.fp,X.ev,g0,g 1,g 2,g 3,g 4,g 5,g 6,g 7,g 10]at *
 ·exact h.kept
 ·exact h.nk k hk.1 hk.2
 ·exact h.want
 ·exact h.nw k hk.1 hk.2
 ·exact h.sess
 ·exact h.ns k hk.1 hk.2
 ·exact h.wat
 ·exact h.na k hk.1 hk.2
 ·exact h.nest
 ·exact h.nn k hk
theorem Z11l {y:TelX} {n m:Nat} {w1:World} {Q:Ent->Nat->Prop} (hn:ρ.length=n) (h:RdB m w1 y):∀x∈smEs n,x.holds (ρ++smV y) w1/\∀k,x.fp (ρ++smV y) k->m<=k\/Q x k:=by
 have g:=Zfk (vs:=smV y) hn;have g0:(ρ++smV y).getD n (.i 0)=.v y.kv:=g 0;refine qy2.2 ⟨⟨?_,fun k hk=>.inl ?_⟩,qy2.2 ⟨⟨?_,fun k hk=>.inl ?_⟩,qy2.2 ⟨⟨?_,fun k hk=>.inl ?_⟩,qy2.2 ⟨⟨?_,fun k hk=>.inl ?_⟩,qy2.2 ⟨⟨?_,fun k hk=>.inl ?_⟩,qy5 _⟩⟩⟩⟩⟩ <;>
  simp only[Ent.holds,Ent.fp,X.ev,g0,g 1,g 2,g 3,g 4,g 5,g 6,g 7,g 9]at *
 ·exact h.kept
 ·exact h.nk k hk.1 hk.2
 ·exact h.want
 ·exact h.nw k hk.1 hk.2
 ·exact h.sess
 ·exact h.ns k hk.1 hk.2
 ·exact h.wat
 ·exact h.na k hk.1 hk.2
 ·exact h.nest
 ·exact h.nn k hk
theorem Zs7 {e:Int} {t:Tel} (h0:Rel B ρ hp w) (n:Nat) (h:Calls P f args w fun r w1=>Zfj w w1 r e t) (hn:ρ.length=n) : Calls P f args w fun r w1=>∃y:TelX,y.tel=t/\RdB w.heap.size w1 y/\r=.returned (.tuple #[bkV y,sc1 y.ov,.int .i64 e])/\Mod (Zr ρ [] []) w w1 /\ (∀x∈brEs n,x.holds (ρ++brV y e) w1/\∀k,x.fp (ρ++brV y e) k->w.heap.size<=k\/(x.wr=false/\∃y∈hp,y.wr=false/\y.fp ρ k)\/k∈Z11 ρ [])/\Z2q (ρ++brV y e) (brEs n):=by refine h.mono ?_;rintro r w1 ⟨y,hr,hy,hd,hm⟩;exact⟨y,hy,hd,hr,hm,Z11j hn hd,Z8t (by intro e he;simp only[List.mem_cons,List.not_mem_nil,or_false]at he;rcases he with rfl|rfl|rfl|rfl|rfl|rfl<;>rfl)⟩
theorem Z11m {e:Int} {t:Tel} (h0:Rel B ρ hp w) (n:Nat) (h:Calls P f args w fun r w1=>Zj9 w w1 r e t) (hn:ρ.length=n) : Calls P f args w fun r w1=>∃y:TelX,y.tel=t/\y.ox=[]/\RdB w.heap.size w1 y/\r=.returned (.tuple #[bkV y,.int .i64 e])/\Mod (Zr ρ [] []) w w1 /\ (∀x∈gnEs n,x.holds (ρ++gnV y e) w1/\∀k,x.fp (ρ++gnV y e) k->w.heap.size<=k\/(x.wr=false/\∃y∈hp,y.wr=false/\y.fp ρ k)\/k∈Z11 ρ [])/\Z2q (ρ++gnV y e) (gnEs n):=by refine h.mono ?_;rintro r w1 ⟨y,hr,ho,hy,hd,hm⟩;exact⟨y,hy,ho,hd,hr,hm,Z11k hn hd,Z8t (by intro e he;simp only[List.mem_cons,List.not_mem_nil,or_false]at he;rcases he with rfl|rfl|rfl|rfl|rfl<;>rfl)⟩
def Zs8 (w w':World) (r:Ending) (t:Tel):Prop:=∃y:TelX,r=.returned (bkV y)/\y.ox=[]/\y.tel=t/\RdB w.heap.size w' y/\Mod [] w w'
theorem Zli {t:Tel} (h0:Rel B ρ hp w) (n:Nat) (h:Calls P f args w fun r w1=>Zs8 w w1 r t) (hn:ρ.length=n) : Calls P f args w fun r w1=>∃y:TelX,y.tel=t/\y.ox=[]/\RdB w.heap.size w1 y/\r=.returned (bkV y)/\Mod (Zr ρ [] []) w w1 /\ (∀x∈smEs n,x.holds (ρ++smV y) w1/\∀k,x.fp (ρ++smV y) k->w.heap.size<=k\/(x.wr=false/\∃y∈hp,y.wr=false/\y.fp ρ k)\/k∈Z11 ρ [])/\Z2q (ρ++smV y) (smEs n):=by refine h.mono ?_;rintro r w1 ⟨y,hr,ho,hy,hd,hm⟩;exact⟨y,hy,ho,hd,hr,hm,Z11l hn hd,Z8t (by intro e he;simp only[List.mem_cons,List.not_mem_nil,or_false]at he;rcases he with rfl|rfl|rfl|rfl|rfl<;>rfl)⟩
end
theorem Zwk {w:World} {x:TelX} {c:List UInt8} {p:Pkt} {va vc:Value} (h:RdX w x) (ha:reads w va [.str,.int .i64] (p.asks.map encA)) (hc:reads w vc [.int .i64] (p.codes.map Z1b)) : Rel ⟨[],w⟩ (bkA x++Z4u c p va vc) (bkH++[.rd 23 [.str,.int .i64] (.var 24),.rd 25 [.int .i64] (.var 26)]) w :=
 Rel.start2 (qy2.2 ⟨⟨h.kept,rfl⟩,qy2.2 ⟨⟨h.want,rfl⟩,qy2.2 ⟨⟨h.sess,rfl⟩,qy2.2 ⟨⟨h.nest,rfl⟩,qy2.2 ⟨⟨h.wat,rfl⟩,qy2.2 ⟨⟨ha,rfl⟩,qy2.2 ⟨⟨hc,rfl⟩,qy5 _⟩⟩⟩⟩⟩⟩⟩)
theorem Z11n {w:World} {x:TelX} {n:Int} {m:Msg} {mv:Value} (h:RdX w x) (ha:reads w mv [.int .i64,.str] (m.opts.map encO)):Rel ⟨[],w⟩ (bkA x++([.i n]++mgV m mv)) (bkH++[.rd 15 [.int .i64,.str] (.var 16)]) w :=
 Rel.start2 (qy2.2 ⟨⟨h.kept,rfl⟩,qy2.2 ⟨⟨h.want,rfl⟩,qy2.2 ⟨⟨h.sess,rfl⟩,qy2.2 ⟨⟨h.nest,rfl⟩,qy2.2 ⟨⟨h.wat,rfl⟩,qy2.2 ⟨⟨ha,rfl⟩,qy5 _⟩⟩⟩⟩⟩⟩)
theorem Z11o {w:World} {x:TelX} {c:List UInt8} (h:RdX w x):Rel ⟨[],w⟩ (bkA x++[.s c]) bkH w :=
 Rel.start2 (qy2.2 ⟨⟨h.kept,rfl⟩,qy2.2 ⟨⟨h.want,rfl⟩,qy2.2 ⟨⟨h.sess,rfl⟩,qy2.2 ⟨⟨h.nest,rfl⟩,qy2.2 ⟨⟨h.wat,rfl⟩,qy5 _⟩⟩⟩⟩⟩)
def smT:Tel:=⟨kA,wA.take 2,[sA],wL.take 1,0,[]⟩
theorem Zzd (w:World):(Z6 [((sA,.slice none 0 0,.slice none 0 0):SesX)] []).holds w :=
 Z1d (l:=[]) (o:=[]) (fun t ht=>.inr (by rw[qy12.1 ht];exact⟨Z8 w _,Z8 w _⟩)) (fun t ht=>.inl ht) (Z7h w)
theorem Znb:∀j,¬(Z6 [((sA,.slice none 0 0,.slice none 0 0):SesX)] []).fp j:=fun j hj=>by
 rcases Zf.1 hj with ⟨t,ht,h⟩|⟨t,ht,-⟩
 ·rw[qy12.1 ht]at h;rcases h with h|h<;>exact h.1 rfl
 ·cases ht
theorem Zfn (w:World):Calls Tryz.prog 62 #[] w fun r w'=>Zs8 w w' r smT:=by
 refine Z2 (Zp0 (ρ:=[]) (sxE_ok.joins _) Tryz.func62 Z5s rfl rfl (Rel.start w []) rfl rfl ?_) rfl;simp only[Tree.goal,X.P,X.ev,SV.ev,CV.ev,Sc.ev,qz,QA,QB,QC,QD,QE,QF,QG,QH,QI,QJ,QK,QL,QM,Nat.reduceAdd,qy3,qy4];intro b0;refine⟨fun vs=>∃u1 u3 u5 u14 u15 u17:Value,vs=[.v u1,.r (kA.map encK),.v u3,.r (wA.map Z7),.v u5,.s sA.cl,.b sA.on,.b sA.clean,.v (.slice none 0 0),.r [],.v (.slice none 0 0),.r [],.i sA.next,.v u14,.v u15,.r (wL.map Z9),.v u17,.r ((wL.take 1).map Z9),.r [Zh (sA,.slice none 0 0,.slice none 0 0)],.r ((wA.take 2).map Z7)] /\
  (∀k,Z1 u1 k->w.heap.size<=k)/\(∀k,Z1 u5 k->w.heap.size<=k)/\(∀k,Z1 u17 k->w.heap.size<=k),?_,?_⟩
 ·repeat' first
   | (intro w1 hr1;refine(Z10y w1).mono ?_;rintro e w2 ⟨u1,rfl,a1,f1,m1⟩;refine⟨[.v u1,.r (kA.map encK)],rfl,rfl,m1,qy5 _,qy2.2 ⟨⟨a1,fun k hk=>.inl (f1 k hk.2)⟩,qy5 _⟩,Z3,?_⟩;have g1:∀k,Z1 u1 k->w.heap.size<=k:=fun k hk=>Nat.le_trans hr1.mod.size (f1 k hk);clear hr1 a1 f1 m1)
   | (intro w1 hr1;refine(Z9e w1).mono ?_;rintro e w2 ⟨u3,rfl,a1,f1,m1⟩;refine⟨[.v u3,.r (wA.map Z7)],rfl,rfl,m1,qy5 _,qy2.2 ⟨⟨a1,fun k hk=>.inl (f1 k hk.2)⟩,qy5 _⟩,Z3,?_⟩;have g3:∀k,Z1 u3 k->w.heap.size<=k:=fun k hk=>Nat.le_trans hr1.mod.size (f1 k hk);clear hr1 a1 f1 m1)
   | (intro w1 hr1;refine(Zr0 w1).mono ?_;rintro e w2 ⟨u15,rfl,a1,f1,m1⟩;refine⟨[.v u15,.r (wL.map Z9)],rfl,rfl,m1,qy5 _,qy2.2 ⟨⟨a1,fun k hk=>.inl (f1 k hk.2)⟩,qy5 _⟩,Z3,?_⟩;have g15:∀k,Z1 u15 k->w.heap.size<=k:=fun k hk=>Nat.le_trans hr1.mod.size (f1 k hk);clear hr1 a1 f1 m1)
   | (intro w1 hr1;refine(Z11i w1).mono ?_;rintro e w2 ⟨rfl,m1⟩;refine⟨[.s sA.cl,.b sA.on,.b sA.clean,.v (.slice none 0 0),.r [],.v (.slice none 0 0),.r [],.i sA.next],rfl,rfl,m1,qy5 _,qy2.2 ⟨⟨Z8 w2 _,fun k hk=>absurd rfl hk.1⟩,qy2.2 ⟨⟨Z8 w2 _,fun k hk=>absurd rfl hk.1⟩,qy5 _⟩⟩,Z8t (by simp[Ent.wr]),?_⟩;clear hr1 m1)
   | (refine⟨(by show (2:Int)<=((wA.map Z7).length:Int);decide),?_⟩)
   | (refine⟨(by show (1:Int)<=((wL.map Z9).length:Int);decide),?_⟩)
   | (refine And.intro ?_ ?_)
   | (intro u5 h5;have g5:∀k,Z1 u5 k->w.heap.size<=k:=fun k hk=>g3 k (h5 k hk);clear h5)
   | (intro u17 h17;have g17:∀k,Z1 u17 k->w.heap.size<=k:=fun k hk=>g15 k (h17 k hk);clear h17)
   | (intro u14 h14;clear h14)
   | exact⟨_,_,_,_,_,_,rfl,g1,g5,g17⟩
 ·rintro _ - ⟨u1,u3,u5,u14,u15,u17,rfl,g1,g5,g17⟩;simp only[Tree.goal,X.P,X.ev,SV.ev,CV.ev,Sc.ev,qz,QA,QB,QC,QD,QE,QF,QG,QH,QI,QJ,QK,QL,QM,Nat.reduceAdd,qy3,qy4];intro w3 hr3;refine⟨⟨kA,wA.take 2,[(sA,.slice none 0 0,.slice none 0 0)],wL.take 1,0,[],u1,u5,u14,u17,.slice none 0 0⟩,rfl,rfl,rfl,⟨hr3.at_ 7 rfl,hr3.at_ 5 rfl,(hr3.at_ 2 rfl:owns _ _ _ _ _).reads,hr3.at_ 0 rfl,Z8 _ _,Zzd _,fun j _ h=>g1 j h,fun j _ h=>g5 j h,fun j _ h=>Z2g hr3 2 rfl j h,fun j _ h=>g17 j h,fun j h=>absurd rfl h,fun j hj=>absurd hj (Znb j)⟩,hr3.mod⟩
end Go.Proofs.YtkhakgbnfapifaaGreatDoor
namespace Go.Proofs.YtkhakgbnfapifaaGreatDoor
open Go Go.Sx
theorem Zwl:chkB smT=0:=by decide +kernel
theorem Z7i:SmlT smT:=.of (Z8p.1 Zwl)
abbrev annB:List UInt8:=[97,110,110]
theorem Z11p:pktE annB pubP smT=0:=by decide +kernel
theorem Z11q:msgE 3 mGet smT=0:=by decide +kernel
theorem Zze:gonE annB smT=0:=by decide +kernel
theorem Zs9:(Z1l annB pubP smT).sess.length=1/\((Z1l annB pubP smT).sess.getD 0 s0).fl.length=1/\(Z1l annB pubP smT).out.length=3/\((Z1l annB pubP smT).out.getD 0 sntD.1).pk.kind=4/\((Z1l annB pubP smT).out.getD 2 sntD.1).msg.pay=[104,105]:=by decide +kernel
theorem Zsa:(Z56 3 mGet smT).wat.length=2/\(Z56 3 mGet smT).out.length=1/\((Z56 3 mGet smT).out.getD 0 sntD.1).msg.code=69:=by decide +kernel
theorem Znc:(Za8 annB smT).sess.length=1/\((Za8 annB smT).sess.getD 0 s0).on=false:=by decide +kernel
abbrev pbV (p:Pkt):List V:=[.i p.kind,.b p.dup,.b p.retain,.b p.clean,.b p.session,.i p.qos,.i p.id,.i p.keep,.i p.code,.s p.client,.s p.topic,.s p.payload,.v (.slice none 0 0),.r [],.v (.slice none 0 0),.r []]
theorem Zvn (t:Tel):resB 0 t=t:=if_pos rfl
theorem Zfo (w:World):Calls Tryz.prog 16 #[] w fun e w'=>e=.returned (.bool true)/\Mod [] w w':=by
 refine Z2 (Zb (ρ:=[]) sxE_ok Tryz.func16 Z3l rfl rfl rfl ?_) rfl;simp only[Tree.goal,X.P,X.ev,SV.ev,CV.ev,Sc.ev,qz,QA,QB,QC,QD,QE,QF,QG,QH,QI,QJ,QK,QL,QM,Nat.reduceAdd,qy3,qy4];intro w1 hr1;refine(Zli hr1 0 (Zfn w1) rfl).mono ?_;rintro r w2 ⟨y1,t1,-,-,rfl,m1,m3,m4⟩;refine⟨smV y1,rfl,rfl,m1,qy5 _,m3,m4,?_⟩;clear m1 m3 m4 hr1;intro w3 hr3;refine(Z12z w3).mono ?_;rintro r w4 ⟨rfl,m1⟩;refine⟨pbV pubP,rfl,rfl,m1,qy5 _,qy2.2 ⟨⟨Z8 w4 _,fun k hk=>absurd rfl hk.1⟩,qy2.2 ⟨⟨Z8 w4 _,fun k hk=>absurd rfl hk.1⟩,qy5 _⟩⟩,Z8t (by simp[Ent.wr]),?_⟩;clear m1 hr3;intro w5 hr5;have b1:y1.bare.tel=smT:=by rw[Zax,t1];rfl
 have hc:=Zhp w5 y1.bare annB pubP (.slice none 0 0) (.slice none 0 0) (Zwk ⟨hr5.at_ 2 rfl,hr5.at_ 3 rfl,hr5.at_ 4 rfl,Zfm (y:=y1) (hr5.at_ 6 rfl),hr5.at_ 5 rfl⟩ (hr5.at_ 0 rfl) (hr5.at_ 1 rfl)) rfl (SmlT.b (by rw[b1];exact Z7i)) (SmlT.f (by rw[b1];exact Z7i)) (by decide) Zna;rw[b1,Z11p,Zvn]at hc;refine(Zs7 hr5 26 hc rfl).mono ?_;rintro r w6 ⟨y2,t2,-,rfl,m1,m3,m4⟩;refine⟨brV y2 0,rfl,rfl,m1,qy5 _,m3,m4,?_⟩;clear m1 m3 m4 hr5 hc;intro b39 w7 hr7;refine(Zli hr7 40 (Zfn w7) rfl).mono ?_;rintro r w8 ⟨y3,t3,-,-,rfl,m1,m3,m4⟩;refine⟨smV y3,rfl,rfl,m1,qy5 _,m3,m4,?_⟩;clear m1 m3 m4 hr7;intro w9 hr9;refine(Zyn w9).mono ?_;rintro r w10 ⟨v4,rfl,r1,f1,m1⟩;refine⟨mgV mGet v4,rfl,rfl,m1,qy5 _,qy2.2 ⟨⟨r1,fun k hk=>.inl (f1 k hk)⟩,qy5 _⟩,Z3,?_⟩;clear r1 f1 m1 hr9;intro w11 hr11;have b3:y3.bare.tel=smT:=by rw[Zax,t3];rfl
 have hc:=Zn9 w11 y3.bare 3 mGet v4 (Z11n ⟨hr11.at_ 1 rfl,hr11.at_ 2 rfl,hr11.at_ 3 rfl,Zfm (y:=y3) (hr11.at_ 5 rfl),hr11.at_ 4 rfl⟩ (hr11.at_ 0 rfl)) rfl (SmlT.b (by rw[b3];exact Z7i)) (SmlT.f (by rw[b3];exact Z7i)) (by decide) (by decide) (by decide);rw[b3,Z11q,Zvn]at hc;refine(Zs7 hr11 57 hc rfl).mono ?_;rintro r w12 ⟨y5,t5,-,rfl,m1,m3,m4⟩;refine⟨brV y5 0,rfl,rfl,m1,qy5 _,m3,m4,?_⟩;clear m1 m3 m4 hr11 hc;intro b70 w13 hr13;refine(Zli hr13 71 (Zfn w13) rfl).mono ?_;rintro r w14 ⟨y6,t6,-,-,rfl,m1,m3,m4⟩;refine⟨smV y6,rfl,rfl,m1,qy5 _,m3,m4,?_⟩;clear m1 m3 m4 hr13;intro w15 hr15;have b6:y6.bare.tel=smT:=by rw[Zax,t6];rfl
 have hc:=Zzc w15 y6.bare annB (Z11o ⟨hr15.at_ 0 rfl,hr15.at_ 1 rfl,hr15.at_ 2 rfl,Zfm (y:=y6) (hr15.at_ 4 rfl),hr15.at_ 3 rfl⟩) rfl (SmlT.b (by rw[b6];exact Z7i)) (SmlT.f (by rw[b6];exact Z7i)) (by decide);rw[b6,Zze,Zvn]at hc;refine(Z11m hr15 81 hc rfl).mono ?_;rintro r w16 ⟨y7,t7,-,-,rfl,m1,m3,m4⟩;refine⟨gnV y7 0,rfl,rfl,m1,qy5 _,m3,m4,?_⟩;clear m1 m3 m4 hr15 hc;intro b92 w17 hr17;refine(Zli hr17 93 (Zfn w17) rfl).mono ?_;rintro r w18 ⟨y8,t8,-,-,rfl,m1,m3,m4⟩;refine⟨smV y8,rfl,rfl,m1,qy5 _,m3,m4,?_⟩;clear m1 m3 m4 hr17;have b8:y8.bare.tel=smT:=by rw[Zax,t8];rfl
 refine⟨[.i 0],rfl,fun _ w' hr=>?_,?_⟩
 ·have hc:=Z6i w' y8.bare (RdX.rel ⟨hr.at_ 0 rfl,hr.at_ 1 rfl,hr.at_ 2 rfl,Zfm (y:=y8) (hr.at_ 4 rfl),hr.at_ 3 rfl⟩) rfl (SmlT.b (by rw[b8];exact Z7i));rw[b8,Zwl]at hc;exact hc
 simp only[Tree.goal,X.P,X.ev,SV.ev,CV.ev,Sc.ev,qz,QA,QB,QC,QD,QE,QF,QG,QH,QI,QJ,QK,QL,QM,Nat.reduceAdd,qy3,qy4];have lenX:∀y:TelX,y.tel.sess.length=y.sx.length/\y.tel.out.length=y.ox.length:=fun y=>⟨by simp[TelX.tel],by simp[TelX.tel]⟩
 obtain⟨a1,a2,a3,a4,a5⟩:=Zs9;obtain⟨c1,c2,c3⟩:=Zsa;obtain⟨d1,d2⟩:=Znc;rw[<- t2]at a1 a2 a3 a4 a5;rw[<- t5]at c1 c2 c3;rw[<- t7]at d1 d2;rw[(lenX y2).1]at a1;rw[(lenX y2).2]at a3;rw[(lenX y5).2]at c2;rw[(lenX y7).1]at d1;simp only[TelX.tel,Ziv,Z12y]at a2 a4 a5 c1 c3 d2;have q1:=Za9 (l:=y2.sx) (i:=0) (by omega);have q2:=Zn6 (l:=y2.ox) (i:=0) (by omega);have q3:=Zn6 (l:=y2.ox) (i:=2) (by omega);have q4:=Zn6 (l:=y5.ox) (i:=0) (by omega);have q5:=Za9 (l:=y7.sx) (i:=0) (by omega);have mm:=Zf8 (l:=y2.sx) (i:=0) (by omega);refine⟨.inr (by omega),fun _=>?_,fun h=>absurd ⟨⟨⟨⟨⟨trivial,trivial⟩,trivial⟩,trivial⟩,by omega⟩,by omega⟩ h⟩;refine⟨(y2.sx.getD 0 sxD).1.fl.map encF,fun w' hr=>?_,?_⟩
 ·have hnn:=Z18 (hr.at_ 35 rfl:(Z6 y2.sx y2.ox).holds w') mm;have hv:((y2.sx.map Zh).getD 0 []).getD 3 undef=(y2.sx.getD 0 sxD).2.1:=by rw[q1];exact hnn.1.sc1
  have hv':(((y2.sx.map Zh).getD (0:Int).toNat []).getD 3 undef)=(y2.sx.getD 0 sxD).2.1:=hv;refine⟨by rw[hv'];exact hnn.1,fun hne k hk e he hw hf=>?_⟩;have hk':Z1 (y2.sx.getD 0 sxD).2.1 k:=by rw[<- hv'];exact hk
  exact hr.disj (qy6 (i:=35) rfl) he (fun h=>by subst h;cases hw) (.inr hw) (Zf.2 (.inl ⟨_,mm,.inl ⟨hne,hk'⟩⟩)) hf
 ·simp only[Tree.goal,X.P,X.ev,SV.ev,CV.ev,Sc.ev,qz,QA,QB,QC,QD,QE,QF,QG,QH,QI,QJ,QK,QL,QM,Nat.reduceAdd,qy3,qy4];have e1:Value.gI (((y2.ox.map Z30).getD (Int.toNat 0) []).getD 1 undef)=4:=by rw[show Int.toNat 0=0 from rfl,q2];exact a4
  have e2:Value.gS (((y2.ox.map Z30).getD (Int.toNat 2) []).getD 21 undef)=[104,105]:=by rw[show Int.toNat 2=2 from rfl,q3];exact a5
  have e3:Value.gI (((y5.ox.map Z30).getD (Int.toNat 0) []).getD 17 undef)=69:=by rw[show Int.toNat 0=0 from rfl,q4];exact c3
  have e4:Value.gB (((y7.sx.map Zh).getD (Int.toNat 0) []).getD 1 undef)=false:=by rw[show Int.toNat 0=0 from rfl,q5];exact d2
  rw[e1,e2,e3,e4];refine⟨.inr (by omega),.inr (by omega),.inr (by omega),.inr (by omega),fun w' hr=>⟨?_,hr.mod⟩⟩;have i1:((y2.sx.getD 0 sxD).1.fl.length:Int)=1:=by omega
  have i2:(y2.ox.length:Int)=3:=by omega
  have i3:(y5.wat.length:Int)=2:=by omega
  have i4:(y5.ox.length:Int)=1:=by omega
  rw[i1,i2,i3,i4];rfl
end Go.Proofs.YtkhakgbnfapifaaGreatDoor
namespace Go.Proofs.YtkhakgbnfapifaaGreatDoor
open Go.Sx
def ahead (acc:List Opt):Option (List Opt×List UInt8)->Option (List Opt×List UInt8)
 | none=>none
 | some p=>some (acc++p.1,p.2)
end Go.Proofs.YtkhakgbnfapifaaGreatDoor
namespace Go.Proofs.YtkhakgbnfapifaaGreatDoor
open Go Go.Sx
theorem Zzf {c:List UInt8} {p:Pkt} {t:Tel} (h:pktE c p t=0):BOk t/\Zz c=true/\chkP p=0:=by
 unfold pktE at h;split at h
 ·exact absurd h (by assumption)
 rename_i h1;split at h
 ·exact absurd h (by decide)
 rename_i h2;exact⟨Z8p.1 (qy9.1 h1),qy9.1 h2,h⟩
end Go.Proofs.YtkhakgbnfapifaaGreatDoor
namespace Go.Proofs.YtkhakgbnfapifaaGreatDoor
open Go.Sx
end Go.Proofs.YtkhakgbnfapifaaGreatDoor
