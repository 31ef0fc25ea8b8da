/- By an AI agent. -/
import Derived.Test.YtldmdbipjhkaeaaGreatDoorU21
import Derived.Test.YtldmdbipjhkaeaaGreatDoorU18
import Derived.Test.YtldmdbipjhkaeaaGreatDoorU22
import Derived.Test.YtldmdbipjhkaeaaGreatDoorU08
import Derived.Test.YtldmdbipjhkaeaaGreatDoorU10
import Derived.Test.YtldmdbipjhkaeaaGreatDoorU15
import Derived.Test.YtldmdbipjhkaeaaGreatDoorU19
import Derived.Test.YtldmdbipjhkaeaaGreatDoorU09
import Derived.Test.YtldmdbipjhkaeaaGreatDoorU20
import Derived.Test.YtldmdbipjhkaeaaGreatDoorU12
set_option linter.all false
set_option maxHeartbeats 20000000
namespace Go.Proofs.Y
open Go Go.Sx
theorem Zha{l:List Kp}(h:chkK l=0):Z8s l:=λy hy=>by have:=(Z4o.1 ((Zu.1 h).2.1 y hy).1).2.1.1;omega
end Go.Proofs.Y
namespace Go.Proofs.Y
open Go.Sx
end Go.Proofs.Y
namespace Go.Proofs.Y
open Go.Sx
section
end
abbrev nilV:Value:=.slice none 0 0
section
end
section
end
def pubP:Pkt:=⟨3,false,false,false,false,1,10,0,0,[],[97,47,98],[104,105],[],[]⟩
theorem Zr1:SmallP pubP:=⟨by decide,by decide,by decide,by decide,by decide,by decide⟩
theorem Z17f(w:World):Calls Tryz.prog 49 #[] w λe w'=>e=.returned (pV pubP nilV nilV)/\Mod [] w w':=by refine Z1 (Z8 (J:=[]) sxE_ok Tryz.func49 Z8l rfl rfl rfl ?_) rfl;simp only[Tree.goal,X.P,X.ev,SV.ev,CV.ev,Sc.ev,qz,QA,QB,QC,QD,QE,QF,QG,QH,QI,QJ,QK,QL,QM,Nat.reduceAdd];exact λb w' hr=>⟨rfl,hr.mod⟩
section
variable (w:World) (p q:Pkt) (u v x y:Value)
end
end Go.Proofs.Y
namespace Go.Proofs.Y
open Go.Sx
def sA:Ses:=⟨[97,110,110],true,false,[],[],65535⟩
theorem Z16a(w:World):Calls Tryz.prog 114 #[] w λe w'=>e=.returned (sesV sA (.slice none 0 0) (.slice none 0 0))/\Mod [] w w':=by refine Z1 (Z8 (J:=[]) sxE_ok Tryz.func114 Z7s rfl rfl rfl ?_) rfl;simp only[Tree.goal,X.P,X.ev,SV.ev,CV.ev,Sc.ev,qz,QA,QB,QC,QD,QE,QF,QG,QH,QI,QJ,QK,QL,QM,Nat.reduceAdd];exact λb w' hr=>⟨rfl,hr.mod⟩
open Go
structure SmlT(t:Tel):Prop where
 kept:Z8s t.kept
 keptL:t.kept.length<1000000000
 wants:Z1n t.wants
 wantsL:t.wants.length<1000000000
 sess:∀s∈t.sess,Zfb s
 sessL:t.sess.length<1000000
 wat:Z6r t.wat
 watL:t.wat.length<1000000000
theorem SmlT.b{x:TelX}(h:SmlT x.tel):SmlB x :=
 ⟨h.kept,h.keptL,h.wants,h.wantsL,λt ht=>h.sess _ (List.mem_map_of_mem ht),by have:=h.sessL;rw[show x.tel.sess.length=x.sx.length by simp[TelX.tel]]at this;exact this,h.wat,h.watL⟩
theorem SmlT.f{x:TelX}(h:SmlT x.tel):∀t∈x.sx,t.1.fl.length<1000000000/\t.1.qu.length<1000000000:=λt ht=>by have:=h.sess _ (List.mem_map_of_mem ht);exact⟨this.2.2.1,this.2.2.2.1⟩
theorem SmlT.nil:SmlT telN:=⟨λx hx=>(List.not_mem_nil hx).elim,by decide,λx hx=>(List.not_mem_nil hx).elim,by decide,λx hx=>(List.not_mem_nil hx).elim,by decide,λx hx=>(List.not_mem_nil hx).elim,by decide⟩
theorem Zfe{f:Fl}(h:flE f=0):f.2.1.length<4294967281:=by
 unfold flE at h;split at h
 ·rename_i h1;have:=(Z4o.1 h1).2.1.1;omega
 ·exact absurd h (by assumption)
theorem Zw3{s:Ses}(h:SesOk s):Zfb s:=by have h1:=h.nf;have h2:=h.nq;have h3:=h.cl;unfold Zz at h3;rw[Bool.and_eq_true,decide_eq_true_eq]at h3;exact⟨λx hx=>Zfe (h.fl.each x hx).1,λx hx=>Zfe (h.qu x hx).1,by omega,by omega,by omega⟩
theorem Zw4{l:List Wat}(h:Zy l=0):Z6r l:=λx hx=>by
 have h1:=((Zr.1 h).2.1 x hx).1;unfold Z3d at h1
 (repeat' split at h1)<;>first|(have:=(Z4o.1 h1).2.1.1;omega)|simp at h1
theorem SmlT.of{t:Tel}(h:BOk t):SmlT t:=by obtain⟨k1,k2,-⟩:=Zu.1 h.kept;have h3:=(Z1e.1 h.wants).1;have h4:=(Zr.1 h.wat).1;have h5:=h.ns;exact⟨λx hx=>by have:=(Z4o.1 (k2 x hx).1).2.1.1;omega,by omega,Z8h h.wants,by omega,λs hs=>Zw3 (h.ses s hs),by omega,Zw4 h.wat,by omega⟩
theorem SmlT.res{e:Int}{t:Tel}(h:e=0->BOk t):SmlT (resB e t):=by
 unfold resB;split
 ·exact .of (h (by assumption))
 ·exact .nil
abbrev TelX.bare(y:TelX):TelX:={ y with ox:=[],ov:=.slice none 0 0 }
theorem Zj0{w:World}{y:TelX}(h:(Z6 y.sx y.ox).holds w):(Z6 y.sx []).holds w:=Z11 (λt ht=>.inl ht) (λt ht=>(List.not_mem_nil ht).elim) h
theorem Zdp(y:TelX):y.bare.tel={ y.tel with out:=[] }:=rfl
theorem Zay{J:List V}{es:List Ent}(h:∀e∈es,e.wr=false):Z2o J es:=by
 induction es with
 | nil=>exact List.Pairwise.nil
 | cons a es ih =>
  refine List.pairwise_cons.2 ⟨λb hb hw=>?_,ih λe he=>h e (qy10 _ he)⟩;rw[h a (qy8 ..),h b (qy10 _ hb)]at hw;rcases hw with hw|hw<;>cases hw
abbrev brV(y:TelX)(e:Int):List V:=[.v y.kv,.r (y.kept.map encK),.v y.wv,.r (y.wants.map Za),.v y.sv,.r (y.sx.map Zf),.v y.av,.r (y.wat.map Z7),.i y.next,.v y.ov,.r (y.ox.map Z12),.i e,.a (Z6 y.sx y.ox)]
abbrev brEs(n:Nat):List Ent:=[.rd n kK (.var (n+1)),.rd (n+2) kW_V (.var (n+3)),.rd (n+4) kSx (.var (n+5)),.rd (n+6) kW_K (.var (n+7)),.rd (n+9) kSn (.var (n+10)),.st (n+12)]
abbrev gnV(y:TelX)(e:Int):List V:=[.v y.kv,.r (y.kept.map encK),.v y.wv,.r (y.wants.map Za),.v y.sv,.r (y.sx.map Zf),.v y.av,.r (y.wat.map Z7),.i y.next,.i e,.a (Z6 y.sx y.ox)]
abbrev gnEs(n:Nat):List Ent:=[.rd n kK (.var (n+1)),.rd (n+2) kW_V (.var (n+3)),.rd (n+4) kSx (.var (n+5)),.rd (n+6) kW_K (.var (n+7)),.st (n+10)]
abbrev smV(y:TelX):List V:=[.v y.kv,.r (y.kept.map encK),.v y.wv,.r (y.wants.map Za),.v y.sv,.r (y.sx.map Zf),.v y.av,.r (y.wat.map Z7),.i y.next,.a (Z6 y.sx y.ox)]
abbrev smEs(n:Nat):List Ent:=[.rd n kK (.var (n+1)),.rd (n+2) kW_V (.var (n+3)),.rd (n+4) kSx (.var (n+5)),.rd (n+6) kW_K (.var (n+7)),.st (n+9)]
section
variable {P:Program} {f:Nat} {args:Array Value} {w:World} {B:Base} {J:List V} {hp:List Ent}
theorem Z16b{y:TelX}{e:Int}{n m:Nat}{w1:World}{Q:Ent->Nat->Prop}(hn:J.length=n)(h:RdB m w1 y):∀x∈brEs n,x.holds (J++brV y e) w1/\∀k,x.fp (J++brV y e) k->m<=k\/Q x k:=by
 have g:=Zix (vs:=brV y e) hn;have g0:(J++brV y e).getD n (.i 0)=.v y.kv:=g 0;refine qy2.2 ⟨⟨?_,λk hk=>.inl ?_⟩,qy2.2 ⟨⟨?_,λk hk=>.inl ?_⟩,qy2.2 ⟨⟨?_,λk hk=>.inl ?_⟩,qy2.2 ⟨⟨?_,λk hk=>.inl ?_⟩,qy2.2 ⟨⟨?_,λk hk=>.inl ?_⟩,qy2.2 ⟨⟨?_,λk hk=>.inl ?_⟩,qy5 _⟩⟩⟩⟩⟩⟩ <;>
  simp only[Ent.holds,Ent.fp,X.ev,g0,g 1,g 2,g 3,g 4,g 5,g 6,g 7,g 9,g 10,g 12]at *
 ·exact h.kept
 ·exact h.nk k hk.1 hk.2
 ·exact h.want
 ·exact h.nw k hk.1 hk.2
 ·exact h.sess
 ·exact h.ns k hk.1 hk.2
 ·exact h.wat
 ·exact h.na k hk.1 hk.2
 ·exact h.out
 ·exact h.no k hk.1 hk.2
 ·exact h.nest
 ·exact h.nn k hk
theorem Z16c{y:TelX}{e:Int}{n m:Nat}{w1:World}{Q:Ent->Nat->Prop}(hn:J.length=n)(h:RdB m w1 y):∀x∈gnEs n,x.holds (J++gnV y e) w1/\∀k,x.fp (J++gnV y e) k->m<=k\/Q x k:=by
 have g:=Zix (vs:=gnV y e) hn;have g0:(J++gnV y e).getD n (.i 0)=.v y.kv:=g 0;refine qy2.2 ⟨⟨?_,λk hk=>.inl ?_⟩,qy2.2 ⟨⟨?_,λk hk=>.inl ?_⟩,qy2.2 ⟨⟨?_,λk hk=>.inl ?_⟩,qy2.2 ⟨⟨?_,λk hk=>.inl ?_⟩,qy2.2 ⟨⟨?_,λk hk=>.inl ?_⟩,qy5 _⟩⟩⟩⟩⟩ <;>
  simp only[Ent.holds,Ent.fp,X.ev,g0,g 1,g 2,g 3,g 4,g 5,g 6,g 7,g 10]at *
 ·exact h.kept
 ·exact h.nk k hk.1 hk.2
 ·exact h.want
 ·exact h.nw k hk.1 hk.2
 ·exact h.sess
 ·exact h.ns k hk.1 hk.2
 ·exact h.wat
 ·exact h.na k hk.1 hk.2
 ·exact h.nest
 ·exact h.nn k hk
theorem Z16d{y:TelX}{n m:Nat}{w1:World}{Q:Ent->Nat->Prop}(hn:J.length=n)(h:RdB m w1 y):∀x∈smEs n,x.holds (J++smV y) w1/\∀k,x.fp (J++smV y) k->m<=k\/Q x k:=by
 have g:=Zix (vs:=smV y) hn;have g0:(J++smV y).getD n (.i 0)=.v y.kv:=g 0;refine qy2.2 ⟨⟨?_,λk hk=>.inl ?_⟩,qy2.2 ⟨⟨?_,λk hk=>.inl ?_⟩,qy2.2 ⟨⟨?_,λk hk=>.inl ?_⟩,qy2.2 ⟨⟨?_,λk hk=>.inl ?_⟩,qy2.2 ⟨⟨?_,λk hk=>.inl ?_⟩,qy5 _⟩⟩⟩⟩⟩ <;>
  simp only[Ent.holds,Ent.fp,X.ev,g0,g 1,g 2,g 3,g 4,g 5,g 6,g 7,g 9]at *
 ·exact h.kept
 ·exact h.nk k hk.1 hk.2
 ·exact h.want
 ·exact h.nw k hk.1 hk.2
 ·exact h.sess
 ·exact h.ns k hk.1 hk.2
 ·exact h.wat
 ·exact h.na k hk.1 hk.2
 ·exact h.nest
 ·exact h.nn k hk
theorem Zw5{e:Int}{t:Tel}(h0:Rel B J hp w)(n:Nat)(h:Calls P f args w λr w1=>Ziw w w1 r e t)(hn:J.length=n) : Calls P f args w λr w1=>∃y:TelX,y.tel=t/\RdB w.heap.size w1 y/\r=.returned (.tuple #[bkV y,sc1 y.ov,.int .i64 e])/\Mod (Zo J [] []) w w1 /\ (∀x∈brEs n,x.holds (J++brV y e) w1/\∀k,x.fp (J++brV y e) k->w.heap.size<=k\/(x.wr=false/\∃y∈hp,y.wr=false/\y.fp J k)\/k∈Zw J [])/\Z2o (J++brV y e) (brEs n):=by refine h.mono ?_;rintro r w1 ⟨y,hr,hy,hd,hm⟩;exact⟨y,hy,hd,hr,hm,Z16b hn hd,Zay (by intro e he;simp only[List.mem_cons,List.not_mem_nil,or_false]at he;rcases he with rfl|rfl|rfl|rfl|rfl|rfl<;>rfl)⟩
theorem Z16e{e:Int}{t:Tel}(h0:Rel B J hp w)(n:Nat)(h:Calls P f args w λr w1=>Zmu w w1 r e t)(hn:J.length=n) : Calls P f args w λr w1=>∃y:TelX,y.tel=t/\y.ox=[]/\RdB w.heap.size w1 y/\r=.returned (.tuple #[bkV y,.int .i64 e])/\Mod (Zo J [] []) w w1 /\ (∀x∈gnEs n,x.holds (J++gnV y e) w1/\∀k,x.fp (J++gnV y e) k->w.heap.size<=k\/(x.wr=false/\∃y∈hp,y.wr=false/\y.fp J k)\/k∈Zw J [])/\Z2o (J++gnV y e) (gnEs n):=by refine h.mono ?_;rintro r w1 ⟨y,hr,ho,hy,hd,hm⟩;exact⟨y,hy,ho,hd,hr,hm,Z16c hn hd,Zay (by intro e he;simp only[List.mem_cons,List.not_mem_nil,or_false]at he;rcases he with rfl|rfl|rfl|rfl|rfl<;>rfl)⟩
def Zw6(w w':World)(r:Ending)(t:Tel):Prop:=∃y:TelX,r=.returned (bkV y)/\y.ox=[]/\y.tel=t/\RdB w.heap.size w' y/\Mod [] w w'
theorem Zp8{t:Tel}(h0:Rel B J hp w)(n:Nat)(h:Calls P f args w λr w1=>Zw6 w w1 r t)(hn:J.length=n) : Calls P f args w λr w1=>∃y:TelX,y.tel=t/\y.ox=[]/\RdB w.heap.size w1 y/\r=.returned (bkV y)/\Mod (Zo J [] []) w w1 /\ (∀x∈smEs n,x.holds (J++smV y) w1/\∀k,x.fp (J++smV y) k->w.heap.size<=k\/(x.wr=false/\∃y∈hp,y.wr=false/\y.fp J k)\/k∈Zw J [])/\Z2o (J++smV y) (smEs n):=by refine h.mono ?_;rintro r w1 ⟨y,hr,ho,hy,hd,hm⟩;exact⟨y,hy,ho,hd,hr,hm,Z16d hn hd,Zay (by intro e he;simp only[List.mem_cons,List.not_mem_nil,or_false]at he;rcases he with rfl|rfl|rfl|rfl|rfl<;>rfl)⟩
end
theorem Z16f{w:World}{x:TelX}{c:List UInt8}{p:Pkt}{va vc:Value}(h:RdX w x)(ha:reads w va [.str,.int .i64] (p.asks.map encA))(hc:reads w vc [.int .i64] (p.codes.map Z1i)) : Rel ⟨[],w⟩ (bkA x++Z6d c p va vc) (bkH++[.rd 23 [.str,.int .i64] (.var 24),.rd 25 [.int .i64] (.var 26)]) w :=
 Rel.start2 (qy2.2 ⟨⟨h.kept,rfl⟩,qy2.2 ⟨⟨h.want,rfl⟩,qy2.2 ⟨⟨h.sess,rfl⟩,qy2.2 ⟨⟨h.nest,rfl⟩,qy2.2 ⟨⟨h.wat,rfl⟩,qy2.2 ⟨⟨ha,rfl⟩,qy2.2 ⟨⟨hc,rfl⟩,qy5 _⟩⟩⟩⟩⟩⟩⟩)
theorem Zw7{w:World}{x:TelX}{n:Int}{m:Msg}{mv:Value}(h:RdX w x)(ha:reads w mv [.int .i64,.str] (m.opts.map encO)):Rel ⟨[],w⟩ (bkA x++([.i n]++mgV m mv)) (bkH++[.rd 15 [.int .i64,.str] (.var 16)]) w :=
 Rel.start2 (qy2.2 ⟨⟨h.kept,rfl⟩,qy2.2 ⟨⟨h.want,rfl⟩,qy2.2 ⟨⟨h.sess,rfl⟩,qy2.2 ⟨⟨h.nest,rfl⟩,qy2.2 ⟨⟨h.wat,rfl⟩,qy2.2 ⟨⟨ha,rfl⟩,qy5 _⟩⟩⟩⟩⟩⟩)
theorem Z16g{w:World}{x:TelX}{c:List UInt8}(h:RdX w x):Rel ⟨[],w⟩ (bkA x++[.s c]) bkH w :=
 Rel.start2 (qy2.2 ⟨⟨h.kept,rfl⟩,qy2.2 ⟨⟨h.want,rfl⟩,qy2.2 ⟨⟨h.sess,rfl⟩,qy2.2 ⟨⟨h.nest,rfl⟩,qy2.2 ⟨⟨h.wat,rfl⟩,qy5 _⟩⟩⟩⟩⟩)
def smT:Tel:=⟨kA,wA.take 2,[sA],wL.take 1,0,[]⟩
theorem Z144(w:World):(Z6 [((sA,.slice none 0 0,.slice none 0 0):SesX)] []).holds w :=
 Z11 (l:=[]) (o:=[]) (λt ht=>.inr (by rw[qy12.1 ht];exact⟨Z9 w _,Z9 w _⟩)) (λt ht=>.inl ht) (Z75 w)
theorem Zr2:∀j,¬(Z6 [((sA,.slice none 0 0,.slice none 0 0):SesX)] []).fp j:=λj hj=>by
 rcases Zb.1 hj with⟨t,ht,h⟩|⟨t,ht,-⟩
 ·rw[qy12.1 ht]at h;rcases h with h|h<;>exact h.1 rfl
 ·cases ht
theorem Zj1(w:World):Calls Tryz.prog 48 #[] w λr w'=>Zw6 w w' r smT:=by
 refine Z1 (Z7r (J:=[]) (sxE_ok.joins _) Tryz.func48 Z7m rfl rfl (Rel.start w []) rfl rfl ?_) rfl;simp only[Tree.goal,X.P,X.ev,SV.ev,CV.ev,Sc.ev,qz,QA,QB,QC,QD,QE,QF,QG,QH,QI,QJ,QK,QL,QM,Nat.reduceAdd,qy3,qy4];intro b0;refine⟨λvs=>∃u1 u3 u5 u14 u15 u17:Value,vs=[.v u1,.r (kA.map encK),.v u3,.r (wA.map Za),.v u5,.s sA.cl,.b sA.on,.b sA.clean,.v (.slice none 0 0),.r [],.v (.slice none 0 0),.r [],.i sA.next,.v u14,.v u15,.r (wL.map Z7),.v u17,.r ((wL.take 1).map Z7),.r [Zf (sA,.slice none 0 0,.slice none 0 0)],.r ((wA.take 2).map Za)] /\
  (∀k,Z2 u1 k->w.heap.size<=k)/\(∀k,Z2 u5 k->w.heap.size<=k)/\(∀k,Z2 u17 k->w.heap.size<=k),?_,?_⟩
 ·repeat' first
   | (intro w1 hr1;refine(Z15l w1).mono ?_;rintro e w2 ⟨u1,rfl,a1,f1,m1⟩;refine⟨[.v u1,.r (kA.map encK)],rfl,rfl,m1,qy5 _,qy2.2 ⟨⟨a1,λk hk=>.inl (f1 k hk.2)⟩,qy5 _⟩,Z5,?_⟩;have g1:∀k,Z2 u1 k->w.heap.size<=k:=λk hk=>Nat.le_trans hr1.mod.size (f1 k hk);clear hr1 a1 f1 m1)
   | (intro w1 hr1;refine(Z12w w1).mono ?_;rintro e w2 ⟨u3,rfl,a1,f1,m1⟩;refine⟨[.v u3,.r (wA.map Za)],rfl,rfl,m1,qy5 _,qy2.2 ⟨⟨a1,λk hk=>.inl (f1 k hk.2)⟩,qy5 _⟩,Z5,?_⟩;have g3:∀k,Z2 u3 k->w.heap.size<=k:=λk hk=>Nat.le_trans hr1.mod.size (f1 k hk);clear hr1 a1 f1 m1)
   | (intro w1 hr1;refine(Zuo w1).mono ?_;rintro e w2 ⟨u15,rfl,a1,f1,m1⟩;refine⟨[.v u15,.r (wL.map Z7)],rfl,rfl,m1,qy5 _,qy2.2 ⟨⟨a1,λk hk=>.inl (f1 k hk.2)⟩,qy5 _⟩,Z5,?_⟩;have g15:∀k,Z2 u15 k->w.heap.size<=k:=λk hk=>Nat.le_trans hr1.mod.size (f1 k hk);clear hr1 a1 f1 m1)
   | (intro w1 hr1;refine(Z16a w1).mono ?_;rintro e w2 ⟨rfl,m1⟩;refine⟨[.s sA.cl,.b sA.on,.b sA.clean,.v (.slice none 0 0),.r [],.v (.slice none 0 0),.r [],.i sA.next],rfl,rfl,m1,qy5 _,qy2.2 ⟨⟨Z9 w2 _,λk hk=>absurd rfl hk.1⟩,qy2.2 ⟨⟨Z9 w2 _,λk hk=>absurd rfl hk.1⟩,qy5 _⟩⟩,Zay (by simp[Ent.wr]),?_⟩;clear hr1 m1)
   | (refine⟨(by show(2:Int)<=((wA.map Za).length:Int);decide),?_⟩)
   | (refine⟨(by show(1:Int)<=((wL.map Z7).length:Int);decide),?_⟩)
   | (refine And.intro ?_ ?_)
   | (intro u5 h5;have g5:∀k,Z2 u5 k->w.heap.size<=k:=λk hk=>g3 k (h5 k hk);clear h5)
   | (intro u17 h17;have g17:∀k,Z2 u17 k->w.heap.size<=k:=λk hk=>g15 k (h17 k hk);clear h17)
   | (intro u14 h14;clear h14)
   | exact⟨_,_,_,_,_,_,rfl,g1,g5,g17⟩
 ·rintro _ - ⟨u1,u3,u5,u14,u15,u17,rfl,g1,g5,g17⟩;simp only[Tree.goal,X.P,X.ev,SV.ev,CV.ev,Sc.ev,qz,QA,QB,QC,QD,QE,QF,QG,QH,QI,QJ,QK,QL,QM,Nat.reduceAdd,qy3,qy4];intro w3 hr3;refine⟨⟨kA,wA.take 2,[(sA,.slice none 0 0,.slice none 0 0)],wL.take 1,0,[],u1,u5,u14,u17,.slice none 0 0⟩,rfl,rfl,rfl,⟨hr3.at_ 7 rfl,hr3.at_ 5 rfl,(hr3.at_ 2 rfl:owns _ _ _ _ _).reads,hr3.at_ 0 rfl,Z9 _ _,Z144 _,λj _ h=>g1 j h,λj _ h=>g5 j h,λj _ h=>Z2s hr3 2 rfl j h,λj _ h=>g17 j h,λj h=>absurd rfl h,λj hj=>absurd hj (Zr2 j)⟩,hr3.mod⟩
end Go.Proofs.Y
namespace Go.Proofs.Y
open Go Go.Sx
def CbI(x:TelX)(e0:Int)(e:Int)(i:Nat):Prop:=i<=x.sx.length/\(¬e0=0->e=e0)/\(e0=0->(e=0->Zbr (prvS x.sx i) ((x.sx.drop i).map (·.1))=Zbr none (x.sx.map (·.1)))/\(¬e=0->Zbr none (x.sx.map (·.1))=e))
theorem Zw8{x:TelX}(h1:chkK x.kept=0)(h2:Zj x.wants=0)(h3:¬Z4y x.tel.sess=0):chkB x.tel=Z4y x.tel.sess:=by rw[chkB,if_neg (qy9.2 (show chkK x.tel.kept=0 from h1)),if_neg (qy9.2 (show Zj x.tel.wants=0 from h2)),if_pos h3]
theorem Zj2{x:TelX}(h1:chkK x.kept=0)(h2:Zj x.wants=0)(h3:Z4y x.tel.sess=0):chkB x.tel=if ¬Zy x.wat=0 then Zy x.wat else if Z16 x.tel=true then 4 else if x.next<0\/65535<x.next then 3 else 0:=by rw[chkB,if_neg (qy9.2 (show chkK x.tel.kept=0 from h1)),if_neg (qy9.2 (show Zj x.tel.wants=0 from h2)),if_neg (qy9.2 h3)];rfl
theorem CbI.out{x:TelX}{e0 e:Int}{i:Nat}(h:CbI x e0 e i)(hb:¬e0=0->chkB x.tel=e0)(hz:e0=0->chkK x.kept=0/\Zj x.wants=0/\¬6<(x.sx.length:Int))(he:¬e=0):chkB x.tel=e:=by
  by_cases h0:e0=0
  . obtain⟨h1,h2,h3⟩:=hz h0;have h4:=(h.2.2 h0).2 he;have h5:Z4y x.tel.sess=e:=by rw[Z4y,if_neg (by rw[show x.tel.sess=x.sx.map (·.1) from rfl,qy3];exact h3)];exact h4
    rw[Zw8 h1 h2 (by rw[h5];exact he),h5]
  . rw[hb h0,h.2.1 h0]
theorem CbI.ok{x:TelX}{e0:Int}{i:Nat}(h:CbI x e0 0 i)(hz:e0=0->chkK x.kept=0/\Zj x.wants=0/\¬6<(x.sx.length:Int))(hi:i=x.sx.length):chkK x.kept=0/\Zj x.wants=0/\Z4y x.tel.sess=0:=by have h0:e0=0:=Classical.byContradiction λh0=>h0 (h.2.1 h0).symm;obtain⟨h1,h2,h3⟩:=hz h0;refine⟨h1,h2,?_⟩;have h4:=(h.2.2 h0).1 rfl;rw[hi,List.drop_length]at h4;rw[Z4y,if_neg (by rw[show x.tel.sess=x.sx.map (·.1) from rfl,qy3];exact h3)];exact h4.symm
theorem CbI.next{x:TelX}{e0:Int}{i:Nat}(h:CbI x e0 0 i)(hi:i<x.sx.length) : (¬chkS (x.sx.getD i sxD).1=0->CbI x e0 (chkS (x.sx.getD i sxD).1) (i+1)) /\ (chkS (x.sx.getD i sxD).1=0->0<(i:Int)->¬Ze (x.sx.getD (i - 1) sxD).1.cl (x.sx.getD i sxD).1.cl=true->CbI x e0 4 (i+1)) /\ (chkS (x.sx.getD i sxD).1=0->(0<(i:Int)->Ze (x.sx.getD (i - 1) sxD).1.cl (x.sx.getD i sxD).1.cl=true)->CbI x e0 0 (i+1)):=by
  have hq:Ze (x.sx.getD (i - 1) sxD).1.cl (x.sx.getD i sxD).1.cl=false↔(Ze (x.sx.getD i sxD).1.cl (x.sx.getD (i - 1) sxD).1.cl=true\/(x.sx.getD i sxD).1.cl=(x.sx.getD (i - 1) sxD).1.cl):=Z7w;have h0:e0=0:=Classical.byContradiction λh0=>h0 (h.2.1 h0).symm;have h4:=(h.2.2 h0).1 rfl;rw[Zh5 hi]at h4;refine⟨λa=>⟨by omega,λb=>absurd h0 b,λ_=>⟨λc=>absurd c a,λ_=>?_⟩⟩,λa b c=>⟨by omega,λd=>absurd h0 d,λ_=>⟨λd=>absurd d (by decide),λ_=>?_⟩⟩,λa b=>⟨by omega,λc=>absurd h0 c,λ_=>⟨λ_=>?_,λc=>absurd rfl c⟩⟩⟩
  . rw[if_pos a]at h4;exact h4.symm
  . rw[if_neg (qy9.2 a),if_pos ⟨b,hq.1 (Bool.eq_false_iff.2 c)⟩]at h4;exact h4.symm
  . rw[if_neg (qy9.2 a),if_neg (λ⟨c,d⟩=>by have:=hq.2 d;rw[b c]at this;cases this)]at h4;exact h4
theorem Zfy(w:World)(x:TelX)(hx:RdX w x)(ho:x.ox=[])(hs:SmlB x) : Calls Tryz.prog 7 #[bkV x] w λe w'=>e=.returned (.int .i64 (chkB x.tel))/\Mod [] w w':=by
  refine Z1 (Z3 (J:=bkA x) sxE_ok Tryz.func7 Z45 rfl rfl hx.rel rfl rfl ?_) rfl;simp only[Tree.goal,X.P,X.ev,SV.ev,CV.ev,Sc.ev,qz,QA,QB,QC,QD,QE,QF,QG,QH,QI,QJ,QK,QL,QM,Nat.reduceAdd,qy3,qy4];have hsx:x.tel.sess=x.sx.map (·.1):=rfl;have hal:=hs.watL;have hsl:=hs.sessL;have hwl:=hs.wantsL;intro b10;refine⟨[.i (chkK x.kept)],rfl,λ_ w' hr=>Zm6 w' x.kv x.kept (hr.at_ 1 rfl) hs.kept hs.keptL,?_⟩;simp only[Tree.goal,X.P,X.ev,SV.ev,CV.ev,Sc.ev,qz,QA,QB,QC,QD,QE,QF,QG,QH,QI,QJ,QK,QL,QM,Nat.reduceAdd,qy3,qy4];refine⟨λh1=>?_,λh1=>?_⟩
  . refine⟨[.i (Zj x.wants)],rfl,λ_ w' hr=>Zlb w' x.wv x.wants (hr.at_ 2 rfl) hs.wants hs.wantsL,?_⟩;simp only[Tree.goal,X.P,X.ev,SV.ev,CV.ev,Sc.ev,qz,QA,QB,QC,QD,QE,QF,QG,QH,QI,QJ,QK,QL,QM,Nat.reduceAdd,qy3,qy4];refine⟨λh2=>?_,λh2=>?_⟩
    . have hb:¬(2:Int)=0->chkB x.tel=2:=λ_=>by have:Z4y x.tel.sess=2:=by { rw[Z4y,if_pos (by rw[hsx,qy3];exact h2.2)] };rw[Zw8 h1 h2.1 (by rw[this];decide),this]
      have hz:(2:Int)=0->chkK x.kept=0/\Zj x.wants=0/\¬6<(x.sx.length:Int):=λh=>absurd h (by decide);refine⟨λvs=>∃(e:Int) (i:Nat),vs=[.i e,.i i]/\CbI x (2) e i,λvs=>x.sx.length - (vs.getD 1 (.i 0)).toI.toNat,⟨_,0,rfl,Nat.zero_le _,λ_=>rfl,λ_=>⟨λ_=>rfl,λh=>absurd (by assumption) h⟩⟩,?_⟩;rintro _ - ⟨e,i,rfl,hg⟩;have hi:=hg.1;simp only[Tree.goal,X.P,X.ev,SV.ev,CV.ev,Sc.ev,qz,QA,QB,QC,QD,QE,QF,QG,QH,QI,QJ,QK,QL,QM,Nat.reduceAdd,qy3,qy4,gSx0];have hi1:((i:Int) - 1).toNat=i - 1:=by omega
      try rw[hi1]
      refine⟨λh3=>⟨by omega,?_⟩,λh3=>⟨λh4=>?_,λh4 w' hr=>⟨by rw[hg.out hb hz h4],hr.mod⟩⟩⟩
      . have hi':i<x.sx.length:=by omega
        have he:e=0:=h3.2;subst he;obtain⟨n1,n2,n3⟩:=hg.next hi';have hrow:=Z7y hi';obtain⟨s1,s2,s3,s4,s5⟩:=hs.sess _ (Z4z hi');refine⟨[.i (chkS (x.sx.getD i sxD).1)],rfl,λ_ w' hr=>?_,?_⟩
        . have hn:=Zp (by rw[<- ho];exact hr.at_ 4 rfl:(Z6 x.sx []).holds w') (Z4z hi');refine Z1 (Z5m w' (x.sx.getD i sxD).1 (x.sx.getD i sxD).2.1 (x.sx.getD i sxD).2.2 hn.1 hn.2 s1 s2 s3 s4 s5) ?_;simp only[Tree.goal,X.P,X.ev,SV.ev,CV.ev,Sc.ev,qz,QA,QB,QC,QD,QE,QF,QG,QH,QI,QJ,QK,QL,QM,Nat.reduceAdd,qy3,qy4,hrow,Zf,List.getD_cons_zero,List.getD_cons_succ,Value.gI,Value.gB,Value.gS,Z1a,sesV]
        simp only[Tree.goal,X.P,X.ev,SV.ev,CV.ev,Sc.ev,qz,QA,QB,QC,QD,QE,QF,QG,QH,QI,QJ,QK,QL,QM,Nat.reduceAdd,qy3,qy4,gSx0];try rw[hi1]
        refine⟨by omega,by omega,by omega,by omega,[.b (Ze (x.sx.getD (i - 1) sxD).1.cl (x.sx.getD i sxD).1.cl)],rfl,λhgd w' _=>Z3i w' _ _ (by
          have h8:i - 1<x.sx.length:=by omega
          exact(hs.sess _ (Z4z h8)).2.2.2.2),?_⟩
        simp only[Tree.goal,X.P,X.ev,SV.ev,CV.ev,Sc.ev,qz,QA,QB,QC,QD,QE,QF,QG,QH,QI,QJ,QK,QL,QM,Nat.reduceAdd,qy3,qy4];refine⟨λh5=>⟨by omega,by omega,⟨4,i+1,rfl,n2 h5.1.1 h5.1.2 h5.2⟩,by omega⟩,λh5=>⟨by omega,by omega,⟨_,i+1,rfl,?_⟩,by omega⟩⟩;by_cases h6:chkS (x.sx.getD i sxD).1=0
        . rw[h6];exact n3 h6 λh7=>Classical.byContradiction λh8=>h5 ⟨⟨h6,h7⟩,h8⟩
        . exact n1 h6
      have he:e=0:=h4;subst he;obtain⟨k1,k2,k3⟩:=hg.ok hz (by omega);rw[Zj2 k1 k2 k3];refine⟨[.i (Zy x.wat)],rfl,λ_ w' hr=>Z5l w' x.av x.wat (hr.at_ 5 rfl) hs.wat (by omega),?_⟩;simp only[Tree.goal,X.P,X.ev,SV.ev,CV.ev,Sc.ev,qz,QA,QB,QC,QD,QE,QF,QG,QH,QI,QJ,QK,QL,QM,Nat.reduceAdd,qy3,qy4];refine⟨λh5 w' hr=>⟨by rw[if_pos h5],hr.mod⟩,λh5=>?_⟩;rw[if_neg h5];refine⟨λvs=>∃(y:V) (i:Nat),vs=[y,.i i]/\i<=x.wants.length/\∀j,j<i->hasS x.tel.sess (x.wants.getD j wD_V).1=true,λvs=>x.wants.length - (vs.getD 1 (.i 0)).toI.toNat,⟨_,0,rfl,by omega,λj hj=>by omega⟩,?_⟩;rintro _ - ⟨y0,i,rfl,hi,hall⟩;simp only[Tree.goal,X.P,X.ev,SV.ev,CV.ev,Sc.ev,qz,QA,QB,QC,QD,QE,QF,QG,QH,QI,QJ,QK,QL,QM,Nat.reduceAdd,qy3,qy4,Z1k];refine⟨λh6=>⟨by omega,?_⟩,λh6=>?_⟩
      . refine⟨[.i (atS x.tel.sess (x.wants.getD i wD_V).1)],rfl,λ_ w' hr=>Z76 w' x.sv x.sx _ (hr.at_ 3 rfl) (Z6b.1 k3).2.2 (by have:=hs.sessL;omega),?_⟩;simp only[Tree.goal,X.P,X.ev,SV.ev,CV.ev,Sc.ev,qz,QA,QB,QC,QD,QE,QF,QG,QH,QI,QJ,QK,QL,QM,Nat.reduceAdd,qy3,qy4];refine⟨λh7 w' hr=>⟨?_,hr.mod⟩,λh7=>⟨by omega,by omega,⟨_,i+1,rfl,by omega,λj hj=>?_⟩,by omega⟩⟩
        . have h8:¬hasS x.tel.sess (x.wants.getD i wD_V).1=true:=λh=>by rw[atS,if_pos h]at h7;omega
          have:Z16 x.tel=true:=by rw[Z16,Bool.or_eq_true];exact .inl (Z5d wD_V (l:=x.wants) (i:=i) (by omega) (by simpa using h8))
          rw[if_pos this]
        . by_cases hij:j=i
          . subst hij;exact Classical.byContradiction λh=>h7 (by rw[atS,if_neg h];decide)
          . exact hall j (by omega)
      have hie:i=x.wants.length:=by omega
      subst hie;have ha1:(x.tel.wants.any λw=>!hasS x.tel.sess w.1)=false:=Zce wD_V λj hj=>by rw[show hasS x.tel.sess (x.tel.wants.getD j wD_V).1=true from hall j hj];rfl
      refine⟨λvs=>∃(y:V) (i:Nat),vs=[y,.i i]/\i<=x.wat.length/\∀j,j<i->hasK x.kept (x.wat.getD j wD_K).2.2.1=true,λvs=>x.wat.length - (vs.getD 1 (.i 0)).toI.toNat,⟨_,0,rfl,by omega,λj hj=>by omega⟩,?_⟩;rintro _ - ⟨y1,i,rfl,hi1,hall1⟩;simp only[Tree.goal,X.P,X.ev,SV.ev,CV.ev,Sc.ev,qz,QA,QB,QC,QD,QE,QF,QG,QH,QI,QJ,QK,QL,QM,Nat.reduceAdd,qy3,qy4,Z1b];refine⟨λh6=>⟨by omega,?_⟩,λh6=>?_⟩
      . refine⟨[.i (if hasK x.kept (x.wat.getD i wD_K).2.2.1=true then(idx x.kept (x.wat.getD i wD_K).2.2.1:Int)else -1)],rfl,λ_ w' hr=>Zdb w' x.kv x.kept _ (hr.at_ 1 rfl) (Zu.1 k1).2.2 hs.keptL,?_⟩;simp only[Tree.goal,X.P,X.ev,SV.ev,CV.ev,Sc.ev,qz,QA,QB,QC,QD,QE,QF,QG,QH,QI,QJ,QK,QL,QM,Nat.reduceAdd,qy3,qy4];refine⟨λh7 w' hr=>⟨?_,hr.mod⟩,λh7=>⟨by omega,by omega,⟨_,i+1,rfl,by omega,λj hj=>?_⟩,by omega⟩⟩
        . have h8:¬hasK x.kept (x.wat.getD i wD_K).2.2.1=true:=λh=>by rw[if_pos h]at h7;omega
          have:Z16 x.tel=true:=by rw[Z16,Bool.or_eq_true];exact .inr (Z5d wD_K (l:=x.wat) (i:=i) (by omega) (by rw[show hasK x.tel.kept (x.wat.getD i wD_K).2.2.1=false from Bool.eq_false_iff.2 h8];rfl))
          rw[if_pos this]
        . by_cases hij:j=i
          . subst hij;exact Classical.byContradiction λh=>h7 (by rw[if_neg h];decide)
          . exact hall1 j (by omega)
      have hie:i=x.wat.length:=by omega
      subst hie;have ha2:(x.tel.wat.any λw=>!hasK x.tel.kept w.2.2.1)=false:=Zce wD_K λj hj=>by rw[show hasK x.tel.kept (x.tel.wat.getD j wD_K).2.2.1=true from hall1 j hj];rfl
      have hst:¬Z16 x.tel=true:=by rw[Z16,ha1,ha2];decide
      rw[if_neg hst];refine⟨λh7 w' hr=>⟨by rw[if_pos (by omega)],hr.mod⟩,λh7 w' hr=>⟨by rw[if_neg (by omega)],hr.mod⟩⟩
    . have hb:¬(Zj x.wants:Int)=0->chkB x.tel=Zj x.wants:=λh=>by rw[chkB,if_neg (qy9.2 (show chkK x.tel.kept=0 from h1)),if_pos (show ¬Zj x.tel.wants=0 from h)];rfl
      have hz:(Zj x.wants:Int)=0->chkK x.kept=0/\Zj x.wants=0/\¬6<(x.sx.length:Int):=λh=>⟨h1,h,λh3=>h2 ⟨h,h3⟩⟩
      refine⟨λvs=>∃(e:Int) (i:Nat),vs=[.i e,.i i]/\CbI x (Zj x.wants) e i,λvs=>x.sx.length - (vs.getD 1 (.i 0)).toI.toNat,⟨_,0,rfl,Nat.zero_le _,λ_=>rfl,λ_=>⟨λ_=>rfl,λh=>absurd (by assumption) h⟩⟩,?_⟩;rintro _ - ⟨e,i,rfl,hg⟩;have hi:=hg.1;simp only[Tree.goal,X.P,X.ev,SV.ev,CV.ev,Sc.ev,qz,QA,QB,QC,QD,QE,QF,QG,QH,QI,QJ,QK,QL,QM,Nat.reduceAdd,qy3,qy4,gSx0];have hi1:((i:Int) - 1).toNat=i - 1:=by omega
      try rw[hi1]
      refine⟨λh3=>⟨by omega,?_⟩,λh3=>⟨λh4=>?_,λh4 w' hr=>⟨by rw[hg.out hb hz h4],hr.mod⟩⟩⟩
      . have hi':i<x.sx.length:=by omega
        have he:e=0:=h3.2;subst he;obtain⟨n1,n2,n3⟩:=hg.next hi';have hrow:=Z7y hi';obtain⟨s1,s2,s3,s4,s5⟩:=hs.sess _ (Z4z hi');refine⟨[.i (chkS (x.sx.getD i sxD).1)],rfl,λ_ w' hr=>?_,?_⟩
        . have hn:=Zp (by rw[<- ho];exact hr.at_ 4 rfl:(Z6 x.sx []).holds w') (Z4z hi');refine Z1 (Z5m w' (x.sx.getD i sxD).1 (x.sx.getD i sxD).2.1 (x.sx.getD i sxD).2.2 hn.1 hn.2 s1 s2 s3 s4 s5) ?_;simp only[Tree.goal,X.P,X.ev,SV.ev,CV.ev,Sc.ev,qz,QA,QB,QC,QD,QE,QF,QG,QH,QI,QJ,QK,QL,QM,Nat.reduceAdd,qy3,qy4,hrow,Zf,List.getD_cons_zero,List.getD_cons_succ,Value.gI,Value.gB,Value.gS,Z1a,sesV]
        simp only[Tree.goal,X.P,X.ev,SV.ev,CV.ev,Sc.ev,qz,QA,QB,QC,QD,QE,QF,QG,QH,QI,QJ,QK,QL,QM,Nat.reduceAdd,qy3,qy4,gSx0];try rw[hi1]
        refine⟨by omega,by omega,by omega,by omega,[.b (Ze (x.sx.getD (i - 1) sxD).1.cl (x.sx.getD i sxD).1.cl)],rfl,λhgd w' _=>Z3i w' _ _ (by
          have h8:i - 1<x.sx.length:=by omega
          exact(hs.sess _ (Z4z h8)).2.2.2.2),?_⟩
        simp only[Tree.goal,X.P,X.ev,SV.ev,CV.ev,Sc.ev,qz,QA,QB,QC,QD,QE,QF,QG,QH,QI,QJ,QK,QL,QM,Nat.reduceAdd,qy3,qy4];refine⟨λh5=>⟨by omega,by omega,⟨4,i+1,rfl,n2 h5.1.1 h5.1.2 h5.2⟩,by omega⟩,λh5=>⟨by omega,by omega,⟨_,i+1,rfl,?_⟩,by omega⟩⟩;by_cases h6:chkS (x.sx.getD i sxD).1=0
        . rw[h6];exact n3 h6 λh7=>Classical.byContradiction λh8=>h5 ⟨⟨h6,h7⟩,h8⟩
        . exact n1 h6
      have he:e=0:=h4;subst he;obtain⟨k1,k2,k3⟩:=hg.ok hz (by omega);rw[Zj2 k1 k2 k3];refine⟨[.i (Zy x.wat)],rfl,λ_ w' hr=>Z5l w' x.av x.wat (hr.at_ 5 rfl) hs.wat (by omega),?_⟩;simp only[Tree.goal,X.P,X.ev,SV.ev,CV.ev,Sc.ev,qz,QA,QB,QC,QD,QE,QF,QG,QH,QI,QJ,QK,QL,QM,Nat.reduceAdd,qy3,qy4];refine⟨λh5 w' hr=>⟨by rw[if_pos h5],hr.mod⟩,λh5=>?_⟩;rw[if_neg h5];refine⟨λvs=>∃(y:V) (i:Nat),vs=[y,.i i]/\i<=x.wants.length/\∀j,j<i->hasS x.tel.sess (x.wants.getD j wD_V).1=true,λvs=>x.wants.length - (vs.getD 1 (.i 0)).toI.toNat,⟨_,0,rfl,by omega,λj hj=>by omega⟩,?_⟩;rintro _ - ⟨y0,i,rfl,hi,hall⟩;simp only[Tree.goal,X.P,X.ev,SV.ev,CV.ev,Sc.ev,qz,QA,QB,QC,QD,QE,QF,QG,QH,QI,QJ,QK,QL,QM,Nat.reduceAdd,qy3,qy4,Z1k];refine⟨λh6=>⟨by omega,?_⟩,λh6=>?_⟩
      . refine⟨[.i (atS x.tel.sess (x.wants.getD i wD_V).1)],rfl,λ_ w' hr=>Z76 w' x.sv x.sx _ (hr.at_ 3 rfl) (Z6b.1 k3).2.2 (by have:=hs.sessL;omega),?_⟩;simp only[Tree.goal,X.P,X.ev,SV.ev,CV.ev,Sc.ev,qz,QA,QB,QC,QD,QE,QF,QG,QH,QI,QJ,QK,QL,QM,Nat.reduceAdd,qy3,qy4];refine⟨λh7 w' hr=>⟨?_,hr.mod⟩,λh7=>⟨by omega,by omega,⟨_,i+1,rfl,by omega,λj hj=>?_⟩,by omega⟩⟩
        . have h8:¬hasS x.tel.sess (x.wants.getD i wD_V).1=true:=λh=>by rw[atS,if_pos h]at h7;omega
          have:Z16 x.tel=true:=by rw[Z16,Bool.or_eq_true];exact .inl (Z5d wD_V (l:=x.wants) (i:=i) (by omega) (by simpa using h8))
          rw[if_pos this]
        . by_cases hij:j=i
          . subst hij;exact Classical.byContradiction λh=>h7 (by rw[atS,if_neg h];decide)
          . exact hall j (by omega)
      have hie:i=x.wants.length:=by omega
      subst hie;have ha1:(x.tel.wants.any λw=>!hasS x.tel.sess w.1)=false:=Zce wD_V λj hj=>by rw[show hasS x.tel.sess (x.tel.wants.getD j wD_V).1=true from hall j hj];rfl
      refine⟨λvs=>∃(y:V) (i:Nat),vs=[y,.i i]/\i<=x.wat.length/\∀j,j<i->hasK x.kept (x.wat.getD j wD_K).2.2.1=true,λvs=>x.wat.length - (vs.getD 1 (.i 0)).toI.toNat,⟨_,0,rfl,by omega,λj hj=>by omega⟩,?_⟩;rintro _ - ⟨y1,i,rfl,hi1,hall1⟩;simp only[Tree.goal,X.P,X.ev,SV.ev,CV.ev,Sc.ev,qz,QA,QB,QC,QD,QE,QF,QG,QH,QI,QJ,QK,QL,QM,Nat.reduceAdd,qy3,qy4,Z1b];refine⟨λh6=>⟨by omega,?_⟩,λh6=>?_⟩
      . refine⟨[.i (if hasK x.kept (x.wat.getD i wD_K).2.2.1=true then(idx x.kept (x.wat.getD i wD_K).2.2.1:Int)else -1)],rfl,λ_ w' hr=>Zdb w' x.kv x.kept _ (hr.at_ 1 rfl) (Zu.1 k1).2.2 hs.keptL,?_⟩;simp only[Tree.goal,X.P,X.ev,SV.ev,CV.ev,Sc.ev,qz,QA,QB,QC,QD,QE,QF,QG,QH,QI,QJ,QK,QL,QM,Nat.reduceAdd,qy3,qy4];refine⟨λh7 w' hr=>⟨?_,hr.mod⟩,λh7=>⟨by omega,by omega,⟨_,i+1,rfl,by omega,λj hj=>?_⟩,by omega⟩⟩
        . have h8:¬hasK x.kept (x.wat.getD i wD_K).2.2.1=true:=λh=>by rw[if_pos h]at h7;omega
          have:Z16 x.tel=true:=by rw[Z16,Bool.or_eq_true];exact .inr (Z5d wD_K (l:=x.wat) (i:=i) (by omega) (by rw[show hasK x.tel.kept (x.wat.getD i wD_K).2.2.1=false from Bool.eq_false_iff.2 h8];rfl))
          rw[if_pos this]
        . by_cases hij:j=i
          . subst hij;exact Classical.byContradiction λh=>h7 (by rw[if_neg h];decide)
          . exact hall1 j (by omega)
      have hie:i=x.wat.length:=by omega
      subst hie;have ha2:(x.tel.wat.any λw=>!hasK x.tel.kept w.2.2.1)=false:=Zce wD_K λj hj=>by rw[show hasK x.tel.kept (x.tel.wat.getD j wD_K).2.2.1=true from hall1 j hj];rfl
      have hst:¬Z16 x.tel=true:=by rw[Z16,ha1,ha2];decide
      rw[if_neg hst];refine⟨λh7 w' hr=>⟨by rw[if_pos (by omega)],hr.mod⟩,λh7 w' hr=>⟨by rw[if_neg (by omega)],hr.mod⟩⟩
  . have hb:¬(chkK x.kept:Int)=0->chkB x.tel=chkK x.kept:=λh=>by rw[chkB,if_pos (show ¬chkK x.tel.kept=0 from h)];rfl
    have hz:(chkK x.kept:Int)=0->chkK x.kept=0/\Zj x.wants=0/\¬6<(x.sx.length:Int):=λh=>absurd h h1;refine⟨λvs=>∃(e:Int) (i:Nat),vs=[.i e,.i i]/\CbI x (chkK x.kept) e i,λvs=>x.sx.length - (vs.getD 1 (.i 0)).toI.toNat,⟨_,0,rfl,Nat.zero_le _,λ_=>rfl,λ_=>⟨λ_=>rfl,λh=>absurd (by assumption) h⟩⟩,?_⟩;rintro _ - ⟨e,i,rfl,hg⟩;have hi:=hg.1;simp only[Tree.goal,X.P,X.ev,SV.ev,CV.ev,Sc.ev,qz,QA,QB,QC,QD,QE,QF,QG,QH,QI,QJ,QK,QL,QM,Nat.reduceAdd,qy3,qy4,gSx0];have hi1:((i:Int) - 1).toNat=i - 1:=by omega
    try rw[hi1]
    refine⟨λh3=>⟨by omega,?_⟩,λh3=>⟨λh4=>?_,λh4 w' hr=>⟨by rw[hg.out hb hz h4],hr.mod⟩⟩⟩
    . have hi':i<x.sx.length:=by omega
      have he:e=0:=h3.2;subst he;obtain⟨n1,n2,n3⟩:=hg.next hi';have hrow:=Z7y hi';obtain⟨s1,s2,s3,s4,s5⟩:=hs.sess _ (Z4z hi');refine⟨[.i (chkS (x.sx.getD i sxD).1)],rfl,λ_ w' hr=>?_,?_⟩
      . have hn:=Zp (by rw[<- ho];exact hr.at_ 4 rfl:(Z6 x.sx []).holds w') (Z4z hi');refine Z1 (Z5m w' (x.sx.getD i sxD).1 (x.sx.getD i sxD).2.1 (x.sx.getD i sxD).2.2 hn.1 hn.2 s1 s2 s3 s4 s5) ?_;simp only[Tree.goal,X.P,X.ev,SV.ev,CV.ev,Sc.ev,qz,QA,QB,QC,QD,QE,QF,QG,QH,QI,QJ,QK,QL,QM,Nat.reduceAdd,qy3,qy4,hrow,Zf,List.getD_cons_zero,List.getD_cons_succ,Value.gI,Value.gB,Value.gS,Z1a,sesV]
      simp only[Tree.goal,X.P,X.ev,SV.ev,CV.ev,Sc.ev,qz,QA,QB,QC,QD,QE,QF,QG,QH,QI,QJ,QK,QL,QM,Nat.reduceAdd,qy3,qy4,gSx0];try rw[hi1]
      refine⟨by omega,by omega,by omega,by omega,[.b (Ze (x.sx.getD (i - 1) sxD).1.cl (x.sx.getD i sxD).1.cl)],rfl,λhgd w' _=>Z3i w' _ _ (by
        have h8:i - 1<x.sx.length:=by omega
        exact(hs.sess _ (Z4z h8)).2.2.2.2),?_⟩
      simp only[Tree.goal,X.P,X.ev,SV.ev,CV.ev,Sc.ev,qz,QA,QB,QC,QD,QE,QF,QG,QH,QI,QJ,QK,QL,QM,Nat.reduceAdd,qy3,qy4];refine⟨λh5=>⟨by omega,by omega,⟨4,i+1,rfl,n2 h5.1.1 h5.1.2 h5.2⟩,by omega⟩,λh5=>⟨by omega,by omega,⟨_,i+1,rfl,?_⟩,by omega⟩⟩;by_cases h6:chkS (x.sx.getD i sxD).1=0
      . rw[h6];exact n3 h6 λh7=>Classical.byContradiction λh8=>h5 ⟨⟨h6,h7⟩,h8⟩
      . exact n1 h6
    have he:e=0:=h4;subst he;obtain⟨k1,k2,k3⟩:=hg.ok hz (by omega);rw[Zj2 k1 k2 k3];refine⟨[.i (Zy x.wat)],rfl,λ_ w' hr=>Z5l w' x.av x.wat (hr.at_ 5 rfl) hs.wat (by omega),?_⟩;simp only[Tree.goal,X.P,X.ev,SV.ev,CV.ev,Sc.ev,qz,QA,QB,QC,QD,QE,QF,QG,QH,QI,QJ,QK,QL,QM,Nat.reduceAdd,qy3,qy4];refine⟨λh5 w' hr=>⟨by rw[if_pos h5],hr.mod⟩,λh5=>?_⟩;rw[if_neg h5];refine⟨λvs=>∃(y:V) (i:Nat),vs=[y,.i i]/\i<=x.wants.length/\∀j,j<i->hasS x.tel.sess (x.wants.getD j wD_V).1=true,λvs=>x.wants.length - (vs.getD 1 (.i 0)).toI.toNat,⟨_,0,rfl,by omega,λj hj=>by omega⟩,?_⟩;rintro _ - ⟨y0,i,rfl,hi,hall⟩;simp only[Tree.goal,X.P,X.ev,SV.ev,CV.ev,Sc.ev,qz,QA,QB,QC,QD,QE,QF,QG,QH,QI,QJ,QK,QL,QM,Nat.reduceAdd,qy3,qy4,Z1k];refine⟨λh6=>⟨by omega,?_⟩,λh6=>?_⟩
    . refine⟨[.i (atS x.tel.sess (x.wants.getD i wD_V).1)],rfl,λ_ w' hr=>Z76 w' x.sv x.sx _ (hr.at_ 3 rfl) (Z6b.1 k3).2.2 (by have:=hs.sessL;omega),?_⟩;simp only[Tree.goal,X.P,X.ev,SV.ev,CV.ev,Sc.ev,qz,QA,QB,QC,QD,QE,QF,QG,QH,QI,QJ,QK,QL,QM,Nat.reduceAdd,qy3,qy4];refine⟨λh7 w' hr=>⟨?_,hr.mod⟩,λh7=>⟨by omega,by omega,⟨_,i+1,rfl,by omega,λj hj=>?_⟩,by omega⟩⟩
      . have h8:¬hasS x.tel.sess (x.wants.getD i wD_V).1=true:=λh=>by rw[atS,if_pos h]at h7;omega
        have:Z16 x.tel=true:=by rw[Z16,Bool.or_eq_true];exact .inl (Z5d wD_V (l:=x.wants) (i:=i) (by omega) (by simpa using h8))
        rw[if_pos this]
      . by_cases hij:j=i
        . subst hij;exact Classical.byContradiction λh=>h7 (by rw[atS,if_neg h];decide)
        . exact hall j (by omega)
    have hie:i=x.wants.length:=by omega
    subst hie;have ha1:(x.tel.wants.any λw=>!hasS x.tel.sess w.1)=false:=Zce wD_V λj hj=>by rw[show hasS x.tel.sess (x.tel.wants.getD j wD_V).1=true from hall j hj];rfl
    refine⟨λvs=>∃(y:V) (i:Nat),vs=[y,.i i]/\i<=x.wat.length/\∀j,j<i->hasK x.kept (x.wat.getD j wD_K).2.2.1=true,λvs=>x.wat.length - (vs.getD 1 (.i 0)).toI.toNat,⟨_,0,rfl,by omega,λj hj=>by omega⟩,?_⟩;rintro _ - ⟨y1,i,rfl,hi1,hall1⟩;simp only[Tree.goal,X.P,X.ev,SV.ev,CV.ev,Sc.ev,qz,QA,QB,QC,QD,QE,QF,QG,QH,QI,QJ,QK,QL,QM,Nat.reduceAdd,qy3,qy4,Z1b];refine⟨λh6=>⟨by omega,?_⟩,λh6=>?_⟩
    . refine⟨[.i (if hasK x.kept (x.wat.getD i wD_K).2.2.1=true then(idx x.kept (x.wat.getD i wD_K).2.2.1:Int)else -1)],rfl,λ_ w' hr=>Zdb w' x.kv x.kept _ (hr.at_ 1 rfl) (Zu.1 k1).2.2 hs.keptL,?_⟩;simp only[Tree.goal,X.P,X.ev,SV.ev,CV.ev,Sc.ev,qz,QA,QB,QC,QD,QE,QF,QG,QH,QI,QJ,QK,QL,QM,Nat.reduceAdd,qy3,qy4];refine⟨λh7 w' hr=>⟨?_,hr.mod⟩,λh7=>⟨by omega,by omega,⟨_,i+1,rfl,by omega,λj hj=>?_⟩,by omega⟩⟩
      . have h8:¬hasK x.kept (x.wat.getD i wD_K).2.2.1=true:=λh=>by rw[if_pos h]at h7;omega
        have:Z16 x.tel=true:=by rw[Z16,Bool.or_eq_true];exact .inr (Z5d wD_K (l:=x.wat) (i:=i) (by omega) (by rw[show hasK x.tel.kept (x.wat.getD i wD_K).2.2.1=false from Bool.eq_false_iff.2 h8];rfl))
        rw[if_pos this]
      . by_cases hij:j=i
        . subst hij;exact Classical.byContradiction λh=>h7 (by rw[if_neg h];decide)
        . exact hall1 j (by omega)
    have hie:i=x.wat.length:=by omega
    subst hie;have ha2:(x.tel.wat.any λw=>!hasK x.tel.kept w.2.2.1)=false:=Zce wD_K λj hj=>by rw[show hasK x.tel.kept (x.tel.wat.getD j wD_K).2.2.1=true from hall1 j hj];rfl
    have hst:¬Z16 x.tel=true:=by rw[Z16,ha1,ha2];decide
    rw[if_neg hst];refine⟨λh7 w' hr=>⟨by rw[if_pos (by omega)],hr.mod⟩,λh7 w' hr=>⟨by rw[if_neg (by omega)],hr.mod⟩⟩
theorem Z10z:chkB smT=0:=by decide +kernel
theorem Z9i:SmlT smT:=.of (Zaw.1 Z10z)
abbrev annB:List UInt8:=[97,110,110]
theorem Z16h:pktE annB pubP smT=0:=by decide +kernel
theorem Z16i:msgE 3 mGet smT=0:=by decide +kernel
theorem Z145:gonE annB smT=0:=by decide +kernel
theorem Zw9:(Z4p annB pubP smT).sess.length=1/\((Z4p annB pubP smT).sess.getD 0 s0).fl.length=1/\(Z4p annB pubP smT).out.length=3/\((Z4p annB pubP smT).out.getD 0 sntD.1).pk.kind=4/\((Z4p annB pubP smT).out.getD 2 sntD.1).msg.pay=[104,105]:=by decide +kernel
theorem Zwa:(Zv 3 mGet smT).wat.length=2/\(Zv 3 mGet smT).out.length=1/\((Zv 3 mGet smT).out.getD 0 sntD.1).msg.code=69:=by decide +kernel
theorem Zr3:(Zcu annB smT).sess.length=1/\((Zcu annB smT).sess.getD 0 s0).on=false:=by decide +kernel
abbrev pbV(p:Pkt):List V:=[.i p.kind,.b p.dup,.b p.retain,.b p.clean,.b p.session,.i p.qos,.i p.id,.i p.keep,.i p.code,.s p.client,.s p.topic,.s p.payload,.v (.slice none 0 0),.r [],.v (.slice none 0 0),.r []]
theorem Z146(t:Tel):resB 0 t=t:=if_pos rfl
theorem Zj3(w:World):Calls Tryz.prog 12 #[] w λe w'=>e=.returned (.bool true)/\Mod [] w w':=by
 refine Z1 (Z8 (J:=[]) sxE_ok Tryz.func12 Z44 rfl rfl rfl ?_) rfl;simp only[Tree.goal,X.P,X.ev,SV.ev,CV.ev,Sc.ev,qz,QA,QB,QC,QD,QE,QF,QG,QH,QI,QJ,QK,QL,QM,Nat.reduceAdd,qy3,qy4];intro w1 hr1;refine(Zp8 hr1 0 (Zj1 w1) rfl).mono ?_;rintro r w2 ⟨y1,t1,-,-,rfl,m1,m3,m4⟩;refine⟨smV y1,rfl,rfl,m1,qy5 _,m3,m4,?_⟩;clear m1 m3 m4 hr1;intro w3 hr3;refine(Z17f w3).mono ?_;rintro r w4 ⟨rfl,m1⟩;refine⟨pbV pubP,rfl,rfl,m1,qy5 _,qy2.2 ⟨⟨Z9 w4 _,λk hk=>absurd rfl hk.1⟩,qy2.2 ⟨⟨Z9 w4 _,λk hk=>absurd rfl hk.1⟩,qy5 _⟩⟩,Zay (by simp[Ent.wr]),?_⟩;clear m1 hr3;intro w5 hr5;have b1:y1.bare.tel=smT:=by rw[Zdp,t1];rfl
 have hc:=Zvt w5 y1.bare annB pubP (.slice none 0 0) (.slice none 0 0) (Z16f ⟨hr5.at_ 2 rfl,hr5.at_ 3 rfl,hr5.at_ 4 rfl,Zj0 (y:=y1) (hr5.at_ 6 rfl),hr5.at_ 5 rfl⟩ (hr5.at_ 0 rfl) (hr5.at_ 1 rfl)) rfl (SmlT.b (by rw[b1];exact Z9i)) (SmlT.f (by rw[b1];exact Z9i)) (by decide) Zr1;rw[b1,Z16h,Z146]at hc;refine(Zw5 hr5 26 hc rfl).mono ?_;rintro r w6 ⟨y2,t2,-,rfl,m1,m3,m4⟩;refine⟨brV y2 0,rfl,rfl,m1,qy5 _,m3,m4,?_⟩;clear m1 m3 m4 hr5 hc;intro b39 w7 hr7;refine(Zp8 hr7 40 (Zj1 w7) rfl).mono ?_;rintro r w8 ⟨y3,t3,-,-,rfl,m1,m3,m4⟩;refine⟨smV y3,rfl,rfl,m1,qy5 _,m3,m4,?_⟩;clear m1 m3 m4 hr7;intro w9 hr9;refine(Z132 w9).mono ?_;rintro r w10 ⟨v4,rfl,r1,f1,m1⟩;refine⟨mgV mGet v4,rfl,rfl,m1,qy5 _,qy2.2 ⟨⟨r1,λk hk=>.inl (f1 k hk)⟩,qy5 _⟩,Z5,?_⟩;clear r1 f1 m1 hr9;intro w11 hr11;have b3:y3.bare.tel=smT:=by rw[Zdp,t3];rfl
 have hc:=Zh6 w11 y3.bare 3 mGet v4 (Zw7 ⟨hr11.at_ 1 rfl,hr11.at_ 2 rfl,hr11.at_ 3 rfl,Zj0 (y:=y3) (hr11.at_ 5 rfl),hr11.at_ 4 rfl⟩ (hr11.at_ 0 rfl)) rfl (SmlT.b (by rw[b3];exact Z9i)) (SmlT.f (by rw[b3];exact Z9i)) (by decide) (by decide) (by decide);rw[b3,Z16i,Z146]at hc;refine(Zw5 hr11 57 hc rfl).mono ?_;rintro r w12 ⟨y5,t5,-,rfl,m1,m3,m4⟩;refine⟨brV y5 0,rfl,rfl,m1,qy5 _,m3,m4,?_⟩;clear m1 m3 m4 hr11 hc;intro b70 w13 hr13;refine(Zp8 hr13 71 (Zj1 w13) rfl).mono ?_;rintro r w14 ⟨y6,t6,-,-,rfl,m1,m3,m4⟩;refine⟨smV y6,rfl,rfl,m1,qy5 _,m3,m4,?_⟩;clear m1 m3 m4 hr13;intro w15 hr15;have b6:y6.bare.tel=smT:=by rw[Zdp,t6];rfl
 have hc:=Z13s w15 y6.bare annB (Z16g ⟨hr15.at_ 0 rfl,hr15.at_ 1 rfl,hr15.at_ 2 rfl,Zj0 (y:=y6) (hr15.at_ 4 rfl),hr15.at_ 3 rfl⟩) rfl (SmlT.b (by rw[b6];exact Z9i)) (SmlT.f (by rw[b6];exact Z9i)) (by decide);rw[b6,Z145,Z146]at hc;refine(Z16e hr15 81 hc rfl).mono ?_;rintro r w16 ⟨y7,t7,-,-,rfl,m1,m3,m4⟩;refine⟨gnV y7 0,rfl,rfl,m1,qy5 _,m3,m4,?_⟩;clear m1 m3 m4 hr15 hc;intro b92 w17 hr17;refine(Zp8 hr17 93 (Zj1 w17) rfl).mono ?_;rintro r w18 ⟨y8,t8,-,-,rfl,m1,m3,m4⟩;refine⟨smV y8,rfl,rfl,m1,qy5 _,m3,m4,?_⟩;clear m1 m3 m4 hr17;have b8:y8.bare.tel=smT:=by rw[Zdp,t8];rfl
 refine⟨[.i 0],rfl,λ_ w' hr=>?_,?_⟩
 ·have hc:=Z8i w' y8.bare (RdX.rel ⟨hr.at_ 0 rfl,hr.at_ 1 rfl,hr.at_ 2 rfl,Zj0 (y:=y8) (hr.at_ 4 rfl),hr.at_ 3 rfl⟩) rfl (SmlT.b (by rw[b8];exact Z9i));rw[b8,Z10z]at hc;exact hc
 simp only[Tree.goal,X.P,X.ev,SV.ev,CV.ev,Sc.ev,qz,QA,QB,QC,QD,QE,QF,QG,QH,QI,QJ,QK,QL,QM,Nat.reduceAdd,qy3,qy4];have lenX:∀y:TelX,y.tel.sess.length=y.sx.length/\y.tel.out.length=y.ox.length:=λy=>⟨by simp[TelX.tel],by simp[TelX.tel]⟩
 obtain⟨a1,a2,a3,a4,a5⟩:=Zw9;obtain⟨c1,c2,c3⟩:=Zwa;obtain⟨d1,d2⟩:=Zr3;rw[<- t2]at a1 a2 a3 a4 a5;rw[<- t5]at c1 c2 c3;rw[<- t7]at d1 d2;rw[(lenX y2).1]at a1;rw[(lenX y2).2]at a3;rw[(lenX y5).2]at c2;rw[(lenX y7).1]at d1;simp only[TelX.tel,Zkq,Z169]at a2 a4 a5 c1 c3 d2;have q1:=Z7y (l:=y2.sx) (i:=0) (by omega);have q2:=Zms (l:=y2.ox) (i:=0) (by omega);have q3:=Zms (l:=y2.ox) (i:=2) (by omega);have q4:=Zms (l:=y5.ox) (i:=0) (by omega);have q5:=Z7y (l:=y7.sx) (i:=0) (by omega);have mm:=Z4z (l:=y2.sx) (i:=0) (by omega);refine⟨.inr (by omega),λ_=>?_,λh=>absurd ⟨⟨⟨⟨⟨trivial,trivial⟩,trivial⟩,trivial⟩,by omega⟩,by omega⟩ h⟩;refine⟨(y2.sx.getD 0 sxD).1.fl.map encF,λw' hr=>?_,?_⟩
 ·have hnn:=Zp (hr.at_ 35 rfl:(Z6 y2.sx y2.ox).holds w') mm;have hv:((y2.sx.map Zf).getD 0 []).getD 3 undef=(y2.sx.getD 0 sxD).2.1:=by rw[q1];exact hnn.1.sc1
  have hv':(((y2.sx.map Zf).getD (0:Int).toNat []).getD 3 undef)=(y2.sx.getD 0 sxD).2.1:=hv;refine⟨by rw[hv'];exact hnn.1,λhne k hk e he hw hf=>?_⟩;have hk':Z2 (y2.sx.getD 0 sxD).2.1 k:=by rw[<- hv'];exact hk
  exact hr.disj (qy6 (i:=35) rfl) he (λh=>by subst h;cases hw) (.inr hw) (Zb.2 (.inl ⟨_,mm,.inl ⟨hne,hk'⟩⟩)) hf
 ·simp only[Tree.goal,X.P,X.ev,SV.ev,CV.ev,Sc.ev,qz,QA,QB,QC,QD,QE,QF,QG,QH,QI,QJ,QK,QL,QM,Nat.reduceAdd,qy3,qy4];have e1:Value.gI (((y2.ox.map Z12).getD (Int.toNat 0) []).getD 1 undef)=4:=by rw[show Int.toNat 0=0 from rfl,q2];exact a4
  have e2:Value.gS (((y2.ox.map Z12).getD (Int.toNat 2) []).getD 21 undef)=[104,105]:=by rw[show Int.toNat 2=2 from rfl,q3];exact a5
  have e3:Value.gI (((y5.ox.map Z12).getD (Int.toNat 0) []).getD 17 undef)=69:=by rw[show Int.toNat 0=0 from rfl,q4];exact c3
  have e4:Value.gB (((y7.sx.map Zf).getD (Int.toNat 0) []).getD 1 undef)=false:=by rw[show Int.toNat 0=0 from rfl,q5];exact d2
  rw[e1,e2,e3,e4];refine⟨.inr (by omega),.inr (by omega),.inr (by omega),.inr (by omega),λw' hr=>⟨?_,hr.mod⟩⟩;have i1:((y2.sx.getD 0 sxD).1.fl.length:Int)=1:=by omega
  have i2:(y2.ox.length:Int)=3:=by omega
  have i3:(y5.wat.length:Int)=2:=by omega
  have i4:(y5.ox.length:Int)=1:=by omega
  rw[i1,i2,i3,i4];rfl
end Go.Proofs.Y
namespace Go.Proofs.Y
open Go.Sx
section
variable (w:World) (p:Pkt) (u v:Value) (hu:Z7a w u p.asks) (hv:Z64 w v p.codes) (hs:SmallP p)
include hu hv
end
