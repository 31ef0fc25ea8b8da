/- By an AI agent. -/
import Derived.Test.YtonpnhfekobmdaaGreatDoorB13
import Derived.Shelf.Strings.Trim
import Derived.Shelf.Strings.OnBuilder
set_option linter.all false
set_option maxHeartbeats 20000000
namespace Go.Proofs.Y
open Go.Sx
abbrev kO:List Kd:=[.int .i64,.str]
abbrev Zn8(w:World)(v:Value)(l:List Opt):Prop:=owns w v 74 kO (l.map encO)
def newO(n:Nat)(u:Value):Prop:=∀k,Z3 u k->n<=k
theorem Zpt(n:Nat):newO n (.slice none 0 0):=λk hk=>by simp[Z3,Value.ownBlock]at hk
theorem Zf3(w:World):Z12 w (.slice none 0 0) []:=⟨by simp,none,0,rfl,⟨λ_=>rfl,Nat.le_refl _⟩,λh=>absurd rfl h⟩
theorem Z9k{J:List V}{g:List Nat}{i:Nat}(hi:i∈g){k:Nat}(h:Z3 (J.getD i (.i 0)).toV k):k∈Z6s J g:=List.mem_flatMap.2 ⟨i,hi,by rw[h];simp⟩
theorem Zn9{v:Value}(hn:(match v with | .slice none _ _=>true|_=>false)=true){w:World}{ks:List Kd}{rows:List (List Value)}(h:reads w v ks rows):rows=[]:=by obtain⟨_,a,cap,rfl,_,h2⟩:=h;refine Classical.byContradiction λhne=>?_;obtain⟨ad,rfl,_⟩:=h2 hne;simp at hn
theorem Zii(w:World)(v:Value)(l:List Opt)(hv:Z12 w v l)(hl:l.length<1000000000):Calls Tryz.prog 120 #[sc1 v] w λe w'=>∃v',e=.returned (sc1 v')/\Zn8 w' v' l/\(∀k,Z3 v' k->w.heap.size<=k)/\Mod [] w w':=by
 refine Z1 (Z5 (J:=[.v v,.r (l.map encO)]) sxE_ok Tryz.func120 Z1l rfl rfl (Rel.start2 (by simp[Ent.holds,Ent.wr,hv,X.ev])) rfl rfl ?_) rfl;simp only[QQ,Nat.reduceAdd,qy3,List.nil_append];refine⟨λh w' hr=>?_,λh v1=>⟨by simp only[Int.natCast_zero];omega,λv2 w' hr=>?_⟩⟩
 ·have hn:l=[]:=List.map_eq_nil_iff.1 (Zn9 h hv);subst hn;exact⟨_,rfl,hr.at_ 0 rfl,hr.fresh 0 rfl,hr.mod⟩
 ·exact⟨v2,rfl,hr.at_ 0 rfl,hr.fresh 0 rfl,hr.mod⟩
theorem Zr1(w:World)(s v:Value)(l x:List Opt)(i:Nat)(hs:Zn8 w s l)(hv:Zn8 w v x)(hne:∀k,Z3 s k->Z3 v k->False)(hi:i<=l.length)(hl:l.length<1000000000)(hx:x.length<1000000000) : Calls Tryz.prog 98 #[sc1 s,.int .i64 i,sc1 v] w λe w'=>∃v',e=.returned (sc1 v')/\Zn8 w' v' (l.take i++x++l.drop i)/\(∀k,Z3 v' k->Z3 s k\/w.heap.size<=k)/\Mod s.ownBlock.toList w w':=by rw[hs.reads.sc1,hv.reads.sc1];refine(Zn7 w s v i _ _ hs hv hne (by simpa using hi) (by simp;omega)).mono ?_;rintro e w' ⟨v',rfl,g1,g2,g3⟩;refine⟨v',by rw[g1.reads.sc1],?_,g2,Mod.of_grown g3 λk hk=>.inl (Option.mem_toList.2 hk)⟩;rw[Zn8,List.map_append,List.map_append,List.map_take,List.map_drop];exact g1
theorem Zij(R:List Opt)(m:Nat)(x:Opt):(R.map encO).set m [.int .i64 x.1,.string ⟨x.2.toArray⟩]=(R.set m x).map encO:=by rw[List.map_set];rfl
theorem Z9l(n:Int)(os:List Opt)(i:Nat)(h:i<os.length):noN n (os.take (i+1))=noN n (os.take i)++(if(os.getD i oD).1=n then[]else[os.getD i oD]):=by
 rw[Zpo os i h,noN,noN,List.filter_append];generalize os.getD i oD=o
 by_cases h1:o.1=n<;>simp[h1]
theorem Zgh(n:Int)(os:List Opt):(noN n os).length<=os.length:=List.length_filter_le _ _
theorem Zdh{n:Int}{os:List Opt}(h:∀j,j<os.length->(os.getD j oD).1≠n):noN n os=os:=by refine Zu2 λo ho=>?_;obtain⟨i,hi,rfl⟩:=List.getElem_of_mem ho;have:=h i hi;rwa [qy1,qy7 hi]at this
theorem Zr2(w:World)(m:Msg)(v u:Value)(n:Int)(us:List (List UInt8))(hv:Z12 w v m.opts)(hu:Zbu w u us)(hl:m.opts.length<1000000000)(hul:us.length<1000000000) : Calls Tryz.prog 49 #[mV m (sc1 v),.int .i64 n,sc1 u] w λe w'=>∃v',e=.returned (mV m (sc1 v'))/\Z12 w' v' (Z5k m.opts n us)/\newO w.heap.size v'/\Mod [] w w':=by
 refine Z1 (Z5 (J:=[.i m.kind,.i m.code,.i m.id,.s m.tok,.v v,.r (m.opts.map encO),.s m.pay,.i n,.v u,.r (us.map Z1s)]) (sxE_ok.joins _) Tryz.func49 Z50 rfl rfl (Rel.start2 (by simp[Ent.holds,Ent.wr,hv,hu,X.ev])) rfl rfl ?_) rfl;simp only[QQ,Nat.reduceAdd,qy3,qy4,Zc,Zd,Z9];intro b1 b2 b3 b4 b5 w1 hr;refine(Zii w1 v m.opts (hr.at_ 5 rfl) hl).mono ?_;rintro e w2 ⟨q,rfl,a1,f1,m1⟩;refine⟨[.v q,.r (m.opts.map encO)],rfl,rfl,m1,qy5 _,qy2.2 ⟨⟨a1,λk hk=>.inl (f1 k hk)⟩,qy5 _⟩,Z6,?_⟩;clear hr a1 f1 m1;simp only[QQ,Nat.reduceAdd,qy3,qy4,Zc,Zd,Z9];intro b6;generalize hos:m.opts=os at hl⊢
 refine⟨λvs=>∃u',vs=[.i 0,.i 0,.i 0,.i 0,.i 0,.i 0,.i 0,.i 0,.i 0,.i 0,.v u',.i n,.r ((noN n os).map encO)],?_,?_⟩
 ·refine⟨λvs=>∃(x:V) (i:Nat),vs=[x,.i i,.i n]/\i<=os.length/\∀j,j<i->(os.getD j oD).1≠n,λvs=>(os.length - (vs.getD 1 (.i 0)).toI).toNat,⟨_,0,rfl,by omega,λj hj=>by omega⟩,?_⟩;rintro _ - ⟨x,i,rfl,hi,hn⟩;simp only[QQ,Nat.reduceAdd,qy3,qy4,Zc,Zd,Z9];refine⟨λh1=>?_,λh1=>?_⟩
  ·(repeat refine⟨by omega,?_⟩)
   intro b7;refine⟨λh2=>⟨λh3=>by omega,λh3=>⟨by omega,by omega,?_⟩⟩,λh2=>?_⟩
   ·refine⟨λvs=>∃(a j:Nat) (R:List Opt),vs=[.i a,.i j,.r (R.map encO),.i n]/\a<j/\j<=os.length/\R.length=os.length/\R.take a=noN n (os.take j)/\R.drop j=os.drop j,λvs=>(os.length - (vs.getD 1 (.i 0)).toI).toNat,
     ⟨i,i+1,os,rfl,by omega,by omega,rfl,?_,rfl⟩,?_⟩
    ·rw[Z9l n os i (by omega),if_pos h2,List.append_nil,Zdh];intro j hj;simp only[List.length_take]at hj;have:=hn j (by omega);rw[qy1]at this⊢;rwa [List.getElem?_take_of_lt (by omega)]
    rintro _ - ⟨a,j,R,rfl,haj,hj,hR,ht,hd⟩;simp only[QQ,Nat.reduceAdd,qy3,qy4,Zc,Zd,Z9,hR];have hg:j<os.length->R.getD j oD=os.getD j oD:=λh=>by have:=congrArg (λl=>l[0]?) hd;simp only[List.getElem?_drop,Nat.add_zero]at this;rw[qy1,qy1,this]
    refine⟨λh3=>?_,λh3=>?_⟩
    ·(repeat refine⟨by omega,?_⟩)
     intro b8 b9;have hjl:j<os.length:=by omega
     have hs1:=Z9l n os j hjl;have hg:=hg hjl;have hd':R.drop (j+1)=os.drop (j+1):=by have:=congrArg (λl=>l.drop 1) hd;simpa[List.drop_drop,Nat.add_comm]using this
     refine⟨λh4=>?_,λh4=>?_⟩
     ·(repeat refine⟨by omega,?_⟩)
      refine⟨⟨a+1,j+1,R.set a (R.getD j oD),?_,by omega,by omega,by simpa using hR,?_,?_⟩,by omega⟩
      ·rw[<- Zij];rfl
      ·rw[hs1,if_neg (by rw[<- hg];exact h4),<- ht,<- hg,Zpo _ _ (by simp;omega)];congr 1
       ·rw[List.take_set_of_le (Nat.le_refl _)]
       ·rw[qy1,List.getElem?_set_self (by omega)];rfl
      ·rw[List.drop_set_of_lt (by omega)];exact hd'
     ·(repeat refine⟨by omega,?_⟩)
      refine⟨⟨a,j+1,R,rfl,by omega,by omega,hR,?_,hd'⟩,by omega⟩;rw[hs1,if_pos (by rw[<- hg];exact qy9.1 h4),List.append_nil];exact ht
    ·have hje:j=os.length:=by omega
     subst hje;rw[List.take_length]at ht;refine⟨by omega,by omega,?_,λu'=>⟨u',?_⟩⟩
     ·simp only[qy11,List.length_take,List.length_replicate,qy3,hR];omega
     ·congr 1
      simp only[List.cons.injEq,true_and,and_true];congr 1
      rw[List.take_append_of_le_length (by simp;omega),List.take_take,Nat.min_self,<- List.map_take,ht]
   ·(repeat refine⟨by omega,?_⟩)
    refine⟨⟨_,i+1,rfl,by omega,λj hj=>?_⟩,by omega⟩;by_cases hji:j=i
    ·subst hji;exact h2
    ·exact hn j (by omega)
  ·have hie:i=os.length:=by omega
   subst hie;refine⟨q,?_⟩;rw[Zdh hn]
 rintro _ - ⟨u',rfl⟩;generalize hN:noN n os=R
 have hRl:R.length<1000000000:=by have:=Zgh n os;rw[hN]at this;omega
 simp only[QQ,Nat.reduceAdd,qy3,qy4,Zc,Zd,Z9];refine⟨λvs=>∃k:Int,vs=[.i 0,.i 0,.i n,.i 0,.i k]/\((k=-1/\∀j,j<R.length->(R.getD j oD).1<=n)\/∃i:Nat,k=i/\i<R.length/\(∀j,j<i->(R.getD j oD).1<=n)/\n<(R.getD i oD).1),?_,?_⟩
 ·refine⟨λvs=>∃(x:V) (i:Nat),vs=[x,.i i,.i n]/\i<=R.length/\∀j,j<i->(R.getD j oD).1<=n,λvs=>(R.length - (vs.getD 1 (.i 0)).toI).toNat,⟨_,0,rfl,by omega,λj hj=>by omega⟩,?_⟩;rintro _ - ⟨x,i,rfl,hi,hn⟩;simp only[QQ,Nat.reduceAdd,qy3,qy4,Zc,Zd,Z9];refine⟨λh1=>?_,λh1=>⟨-1,rfl,.inl ⟨rfl,λj hj=>hn j (by omega)⟩⟩⟩
  (repeat refine⟨by omega,?_⟩)
  intro b7;refine⟨λh2=>⟨i,rfl,.inr ⟨i,rfl,by omega,hn,h2⟩⟩,λh2=>?_⟩
  (repeat refine⟨by omega,?_⟩)
  refine⟨⟨_,i+1,rfl,by omega,λj hj=>?_⟩,by omega⟩;by_cases hji:j=i
  ·subst hji;omega
  ·exact hn j (by omega)
 rintro _ - ⟨k,rfl,hk⟩;simp only[QQ,Nat.reduceAdd,qy3,qy4,Zc,Zd,Z9];refine⟨λvs=>∃k:Nat,vs=[.i k]/\k<=R.length/\(∀j,j<k->(R.getD j oD).1<=n)/\(k<R.length->n<(R.getD k oD).1),⟨λh1=>?_,λh1=>?_⟩,?_⟩
 ·rcases hk with⟨h2,h3⟩|⟨i,h2,-⟩
  ·exact⟨R.length,rfl,Nat.le_refl _,h3,λh=>by omega⟩
  ·omega
 ·rcases hk with⟨h2,h3⟩|⟨i,h2,h3,h4,h5⟩
  ·omega
  ·subst h2;exact⟨i,rfl,by omega,h4,λ_=>h5⟩
 rintro _ - ⟨i,rfl,hi,h1,h2⟩;obtain⟨e1,e2⟩:=Zdg hi h1 h2;simp only[QQ,Nat.reduceAdd,qy3,qy4,Zc,Zd,Z9];refine⟨λvs=>∃(v1:Value) (i:Nat),vs=[.v v1,.r (((us.take i).map λx=>((n,x):Opt)).map encO),.i i]/\i<=us.length,λvs=>(us.length - (vs.getD 2 (.i 0)).toI).toNat,⟨_,0,rfl,by omega⟩,?_⟩;rintro _ - ⟨v1,j,rfl,hj⟩;simp only[QQ,Nat.reduceAdd,qy3,qy4,Zc,Zd,Z9];refine⟨λh3=>?_,λh3 w3 hr=>?_⟩
 ·(repeat refine⟨by omega,?_⟩)
  intro v2;refine⟨by simp;omega,λv3=>⟨by omega,by omega,⟨v3,j+1,?_,by omega⟩,by omega⟩⟩;rw[List.take_add_one,List.map_append,List.map_append,qy7 (by omega),qy1,qy7 (by omega)];rfl
 ·have:j=us.length:=by omega
  subst this;rw[List.take_length]at hr;refine(Zr1 w3 u' v1 R _ i (hr.at_ 1 rfl) (hr.at_ 0 rfl) (λk h5 h6=>hr.sep.disj (i:=1) (j:=0) rfl rfl (by omega) (.inl rfl) (k:=k) h5 h6) hi hRl (by simpa using hul)).mono ?_;rintro e w4 ⟨v',rfl,g1,g2,g3⟩;refine⟨[.v v',.r ((R.take i++(us.map λx=>((n,x):Opt))++R.drop i).map encO)],rfl,rfl,g3.mono λk hk=>.inl (by unfold Zgu;exact List.mem_append_right _ (Z9k (i:=28) (by simp) (Option.mem_toList.1 hk))),qy5 _,qy2.2 ⟨⟨g1,λk hk=>?_⟩,qy5 _⟩,Z6,?_⟩
  ·rcases g2 k hk with h5|h5
   ·exact .inr (.inr (Z9k (i:=28) (by simp) h5))
   ·exact .inl h5
  ·intro w5 hr5;refine⟨v',rfl,?_,hr5.fresh 0 rfl,hr5.mod⟩;have:=(hr5.at_ 0 rfl).reads;rw[e1,e2]at this;rw[Z12,Z5k,hN];exact this
end Go.Proofs.Y
namespace Go.Proofs
open Go.Shelf
def Tryz.lays144_ren:Go.Shelf.Ren:=⟨fun|144=>106|143=>132|219=>146|217=>157|225=>158|224=>159|267=>160|266=>165|314=>166|n=>n,fun|9=>9|4=>4|3=>3|5=>5|46=>75|146=>175|51=>174|n=>n,fun|1=>0|n=>n⟩
theorem Tryz.lays144:Go.Proofs.Lays.n144 Tryz.prog Tryz.lays144_ren:={
 mixed:=by kernel_rfl
 f143:=qF Tryz.func132 (by kernel_rfl)
 f144:=qF Tryz.func106 (by kernel_rfl)
 f217:=qF Tryz.func157 (by kernel_rfl)
 f219:=qF Tryz.func146 (by kernel_rfl)
 f224:=qF Tryz.func159 (by kernel_rfl)
 f225:=qF Tryz.func158 (by kernel_rfl)
 f266:=qF Tryz.func165 (by kernel_rfl)
 f267:=qF Tryz.func160 (by kernel_rfl)
 f314:=qF Tryz.func166 (by kernel_rfl)
 t3:=Tryz.underlying3
 a3:=Tryz.isAgg3
 z3:=Tryz.sizeOf3
 v3:=Tryz.zeroValue3
 t4:=Tryz.underlying4
 a4:=Tryz.isAgg4
 z4:=Tryz.sizeOf4
 v4:=Tryz.zeroValue4
 t5:=Tryz.underlying5
 a5:=Tryz.isAgg5
 z5:=Tryz.sizeOf5
 v5:=Tryz.zeroValue5
 t9:=Tryz.underlying9
 a9:=Tryz.isAgg9
 z9:=Tryz.sizeOf9
 v9:=Tryz.zeroValue9
 t46:=Tryz.underlying75
 a46:=Tryz.isAgg75
 z46:=Tryz.sizeOf75
 v46:=Tryz.zeroValue75
 t51:=Tryz.underlying174
 a51:=Tryz.isAgg174
 z51:=Tryz.sizeOf174
 v51:=Tryz.zeroValue174
 t146:=Tryz.underlying175
 a146:=Tryz.isAgg175
 z146:=Tryz.sizeOf175
 v146:=Tryz.zeroValue175
 g1:=by kernel_rfl }
def Tryz.lays161_ren:Go.Shelf.Ren:=⟨fun|161=>124|231=>140|227=>141|233=>142|235=>143|228=>151|197=>154|151=>156|260=>164|152=>149|137=>162|119=>163|224=>159|225=>158|217=>157|266=>165|n=>n,fun|9=>9|4=>4|3=>3|5=>5|117=>157|116=>156|0=>0|124=>160|105=>168|21=>21|119=>177|46=>75|139=>180|138=>179|n=>n,fun|3=>1|4=>2|n=>n⟩
theorem Tryz.lays161:Go.Proofs.Lays.n161 Tryz.prog Tryz.lays161_ren:={
 mixed:=by kernel_rfl
 f119:=qF Tryz.func163 (by kernel_rfl)
 f137:=qF Tryz.func162 (by kernel_rfl)
 f151:=qF Tryz.func156 (by kernel_rfl)
 f152:=qF Tryz.func149 (by kernel_rfl)
 f161:=qF Tryz.func124 (by kernel_rfl)
 f197:=qF Tryz.func154 (by kernel_rfl)
 f217:=qF Tryz.func157 (by kernel_rfl)
 f224:=qF Tryz.func159 (by kernel_rfl)
 f225:=qF Tryz.func158 (by kernel_rfl)
 f227:=qF Tryz.func141 (by kernel_rfl)
 f228:=qF Tryz.func151 (by kernel_rfl)
 f231:=qF Tryz.func140 (by kernel_rfl)
 f233:=qF Tryz.func142 (by kernel_rfl)
 f235:=qF Tryz.func143 (by kernel_rfl)
 f260:=qF Tryz.func164 (by kernel_rfl)
 f266:=qF Tryz.func165 (by kernel_rfl)
 t0:=Tryz.underlying0
 a0:=Tryz.isAgg0
 z0:=Tryz.sizeOf0
 v0:=Tryz.zeroValue0
 t3:=Tryz.underlying3
 a3:=Tryz.isAgg3
 z3:=Tryz.sizeOf3
 v3:=Tryz.zeroValue3
 t4:=Tryz.underlying4
 a4:=Tryz.isAgg4
 z4:=Tryz.sizeOf4
 v4:=Tryz.zeroValue4
 t5:=Tryz.underlying5
 a5:=Tryz.isAgg5
 z5:=Tryz.sizeOf5
 v5:=Tryz.zeroValue5
 t9:=Tryz.underlying9
 a9:=Tryz.isAgg9
 z9:=Tryz.sizeOf9
 v9:=Tryz.zeroValue9
 t21:=Tryz.underlying21
 a21:=Tryz.isAgg21
 z21:=Tryz.sizeOf21
 v21:=Tryz.zeroValue21
 t46:=Tryz.underlying75
 a46:=Tryz.isAgg75
 z46:=Tryz.sizeOf75
 v46:=Tryz.zeroValue75
 t105:=Tryz.underlying168
 a105:=Tryz.isAgg168
 z105:=Tryz.sizeOf168
 v105:=Tryz.zeroValue168
 t116:=Tryz.underlying156
 a116:=Tryz.isAgg156
 z116:=Tryz.sizeOf156
 t117:=Tryz.underlying157
 a117:=Tryz.isAgg157
 z117:=Tryz.sizeOf157
 v117:=Tryz.zeroValue157
 t119:=Tryz.underlying177
 a119:=Tryz.isAgg177
 z119:=Tryz.sizeOf177
 t124:=Tryz.underlying160
 a124:=Tryz.isAgg160
 z124:=Tryz.sizeOf160
 v124:=Tryz.zeroValue160
 t138:=Tryz.underlying179
 a138:=Tryz.isAgg179
 z138:=Tryz.sizeOf179
 v138:=Tryz.zeroValue179
 t139:=Tryz.underlying180
 a139:=Tryz.isAgg180
 z139:=Tryz.sizeOf180
 v139:=Tryz.zeroValue180
 g3:=by kernel_rfl
 g4:=by kernel_rfl }
def Tryz.lays156_ren:Go.Shelf.Ren:=⟨fun|156=>107|165=>133|166=>116|169=>86|240=>135|241=>147|276=>148|277=>161|n=>n,fun|31=>92|9=>9|3=>3|4=>4|0=>0|20=>20|72=>115|76=>137|70=>113|37=>110|75=>136|127=>140|164=>162|5=>5|80=>66|n=>n,fun|n=>n⟩
theorem Tryz.lays156:Go.Proofs.Lays.n156 Tryz.prog Tryz.lays156_ren:={
 mixed:=by kernel_rfl
 f156:=qF Tryz.func107 (by kernel_rfl)
 f165:=qF Tryz.func133 (by kernel_rfl)
 f166:=qF Tryz.func116 (by kernel_rfl)
 f169:=qF Tryz.func86 (by kernel_rfl)
 f240:=qF Tryz.func135 (by kernel_rfl)
 f241:=qF Tryz.func147 (by kernel_rfl)
 f276:=qF Tryz.func148 (by kernel_rfl)
 f277:=qF Tryz.func161 (by kernel_rfl)
 t0:=Tryz.underlying0
 a0:=Tryz.isAgg0
 z0:=Tryz.sizeOf0
 v0:=Tryz.zeroValue0
 t3:=Tryz.underlying3
 a3:=Tryz.isAgg3
 z3:=Tryz.sizeOf3
 v3:=Tryz.zeroValue3
 t4:=Tryz.underlying4
 a4:=Tryz.isAgg4
 z4:=Tryz.sizeOf4
 v4:=Tryz.zeroValue4
 t9:=Tryz.underlying9
 a9:=Tryz.isAgg9
 z9:=Tryz.sizeOf9
 v9:=Tryz.zeroValue9
 t20:=Tryz.underlying20
 a20:=Tryz.isAgg20
 z20:=Tryz.sizeOf20
 v20:=Tryz.zeroValue20
 t31:=Tryz.underlying92
 a31:=Tryz.isAgg92
 z31:=Tryz.sizeOf92
 v31:=Tryz.zeroValue92
 t37:=Tryz.underlying110
 a37:=Tryz.isAgg110
 z37:=Tryz.sizeOf110
 v37:=Tryz.zeroValue110
 t70:=Tryz.underlying113
 a70:=Tryz.isAgg113
 z70:=Tryz.sizeOf113
 v70:=Tryz.zeroValue113
 t72:=Tryz.underlying115
 a72:=Tryz.isAgg115
 z72:=Tryz.sizeOf115
 v72:=Tryz.zeroValue115
 t75:=Tryz.underlying136
 a75:=Tryz.isAgg136
 z75:=Tryz.sizeOf136
 v75:=Tryz.zeroValue136
 t76:=Tryz.underlying137
 a76:=Tryz.isAgg137
 z76:=Tryz.sizeOf137
 v76:=Tryz.zeroValue137
 t127:=Tryz.underlying140
 a127:=Tryz.isAgg140
 z127:=Tryz.sizeOf140
 v127:=Tryz.zeroValue140
 t164:=Tryz.underlying162
 a164:=Tryz.isAgg162
 z164:=Tryz.sizeOf162
 v164:=Tryz.zeroValue162 }
end Go.Proofs
namespace Go.Proofs.Y
open Go.Sx
theorem Zt0(w:World)(s:List UInt8):Calls Tryz.prog 124 #[.string ⟨s.toArray⟩,.string ⟨#[0]⟩] w λe w'=>e=.returned (.string ⟨(s.dropWhile λc=>c == 0).toArray⟩)/\Mod [] w w':=by refine(Z1 (Any.strings_TrimLeft_one Tryz.lays161 ⟨s.toArray⟩ 0 (by decide) w) rfl).mono ?_;rintro e w' ⟨rfl,rfl⟩;exact⟨rfl,Mod.refl _ _⟩
theorem Zna(s:List UInt8)(c:UInt8):decide (0<=Go.Lib.indexByte s c)=s.any λb=>b == c:=by rw[<- Go.Lib.contains_iff_indexByte,Bool.eq_iff_iff];simp only[List.contains_iff_mem,List.any_eq_true,beq_iff_eq];exact⟨λh=>⟨c,h,rfl⟩,λ⟨x,h,e⟩=>e▸h⟩
theorem Zuo(w:World)(s:List UInt8):Calls Tryz.prog 106 #[.string ⟨s.toArray⟩,.string ⟨#[47]⟩] w λe w'=>e=.returned (.bool (s.any λc=>c == 47))/\Mod [] w w':=by refine(Z1 (Any.strings_Contains_one Tryz.lays144 ⟨s.toArray⟩ 47 w) rfl).mono ?_;rintro e w' ⟨rfl,rfl⟩;exact⟨by rw[<- Zna],Mod.refl _ _⟩
theorem Zr3:Builder.Extra Tryz.prog Tryz.lays156_ren where
 sizeBuilder:=by kernel_rfl
 liesBuilder:=by kernel_rfl
 t5:=Tryz.underlying5
 a5:=Tryz.isAgg5
 z5:=Tryz.sizeOf5
 v5:=Tryz.zeroValue5
 infoByte:=by kernel_rfl
 cellsByte:=by kernel_rfl
 sizeByte:=by kernel_rfl
 neB5:=by decide
theorem Z8i:∀ps:List (List UInt8),Go.Lib.join ps [47]=Z4a ps
 | []=>rfl
 | [x]=>Go.Lib.join_one x [47]
 | x::y::r=>by have:=Z8i (y::r);rw[Go.Lib.join_cons]at this⊢;rw[Z4a,<- this];simp[Go.Lib.joinTail]
theorem Zf4:∀ps:List (List UInt8),(ps.map Z1s).flatten=ps.map λp=>Value.string ⟨p.toArray⟩
 | []=>rfl
 | p::ps=>by simp only[List.map_cons,List.flatten_cons,Zf4 ps];rfl
theorem Zpu(w:World)(v:Value)(ps:List (List UInt8))(hv:owns w v 9 [.str] (ps.map Z1s))(hl:ps.length<=140737488355328)(hb:(Z4a ps).length<=140737488355328) : Calls Tryz.prog 107 #[sc1 v,.string ⟨#[47]⟩] w λe w'=>e=.returned (.string ⟨(Z4a ps).toArray⟩)/\Mod [] w w':=by
 rw[hv.reads.sc1];obtain⟨hk,hlen,ho⟩:=hv;rcases ho with⟨rfl,hn⟩|⟨g,c,cur,rfl,-,hg,hnc,hcm,hcs,htk⟩
 ·have:ps=[]:=by simpa using hn
  subst this;refine(Z1 (Any.strings_Join_none Tryz.lays156 Zr3 none 0 ⟨#[47]⟩ w) rfl).mono ?_;rintro e w' ⟨rfl,rfl⟩;exact⟨rfl,Mod.refl _ _⟩
 ·have hgs:g<w.heap.size:=by
   have:=(Array.getElem?_eq_some_iff.1 hg).1;exact this
  have e1:(ps.map λp=>(⟨p.toArray⟩:ByteArray)).map (λx=>x.data.toList)=ps:=by simp[List.map_map,Function.comp_def]
  have hfl:(ps.map Z1s).flatten=ps.map λp=>Value.string ⟨p.toArray⟩:=by exact Zf4 ps
  rw[hfl]at htk;have:=Any.strings_Join Tryz.lays156 Zr3 g 0 c (ps.map λp=>(⟨p.toArray⟩:ByteArray)) ⟨#[47]⟩ w (λj x hj=>?_) hgs (by simpa using hl) (by simpa using hnc) (by rw[e1];show(Go.Lib.join ps [47]).length<=_;rw[Z8i];exact hb)
  ·rw[e1,show(⟨#[47]⟩:ByteArray).data.toList=[47] from rfl,Z8i,qy3]at this;rw[qy3];refine(Z1 this rfl).mono ?_;rintro e w' ⟨rfl,h⟩;exact⟨rfl,Mod.of_below h⟩
  ·rw[List.getElem?_map,Option.map_eq_some_iff]at hj;obtain⟨p,hp,rfl⟩:=hj;have h1:=congrArg (λl=>l[j]?) htk;simp only[List.getElem?_map,hp,Option.map_some]at h1;rw[List.getElem?_take_of_lt (by have:=(List.getElem?_eq_some_iff.1 hp).1;simpa using this)]at h1;simp only[World.cell?,hg,Nat.zero_add];simpa using h1
theorem Znb(w:World)(n:Int)(h:0<=n/\n<=16777215):Calls Tryz.prog 100 #[.int .i64 n] w λe w'=>e=.returned (.string ⟨(Z26 n).toArray⟩)/\Mod [] w w':=by refine Z1 (Z4 (J:=[.i n]) sxE_ok Tryz.func100 Z85 rfl rfl rfl ?_) rfl;simp only[QQ,Nat.reduceAdd];refine⟨[.s (numB 3 n)],rfl,λ_ w' _=>Z3y w' n 3 (by omega) (by omega) (by omega),?_⟩;simp only[QQ,Nat.reduceAdd];refine⟨[.s (Z26 n)],rfl,λ_ w' _=>Zt0 w' _,?_⟩;simp only[QQ,Nat.reduceAdd];exact λw' hr=>⟨by trivial,hr.mod⟩
theorem Z70:∀l:List UInt8,(l.dropWhile λc=>c == 0).length<=l.length
 | []=>Nat.le_refl _
 | c::l=>by have:=Z70 l;rw[List.dropWhile_cons];split<;>simp only[List.length_cons]<;>omega
theorem Znc(n:Int)(os:List Opt)(i:Nat)(h:i<os.length):Zl n (os.take (i+1))=Zl n (os.take i)++(if(os.getD i oD).1=n then[(os.getD i oD).2]else[]):=by
 rw[Zpo os i h,Zif];generalize os.getD i oD=o
 by_cases h1:o.1=n<;>simp[Zl,h1]
theorem Zik(n:Int)(os:List Opt):(Zl n os).length<=os.length:=by rw[Zl,qy3];exact List.length_filter_le _ _
theorem Zk3{n:Int}{os:List Opt}{i:Nat}(h:i<os.length)(h1:∀j,j<i->(os.getD j oD).1≠n)(h2:(os.getD i oD).1=n):∃r,Zl n os=(os.getD i oD).2::r:=by
 have e:os=os.take i++os.drop i:=(List.take_append_drop i os).symm;have e0:Zl n (os.take i)=[]:=by refine Zf2 λo ho=>?_;obtain⟨j,hj,rfl⟩:=List.getElem_of_mem ho;simp only[List.length_take]at hj;have:=h1 j (by omega);rw[qy1,qy7 (by omega)]at this;rw[List.getElem_take];exact this
 have e1:Zl n (os.drop i)=(os.getD i oD).2::Zl n (os.drop (i+1)):=by
  rw[Zpm os i h];generalize os.getD i oD=o at h2
  simp[Zl,List.filter_cons,h2]
 exact⟨_,by rw[e,Zif,<- e,e0,e1];rfl⟩
theorem Zpv{n:Int}{os:List Opt}(h:∀j,j<os.length->(os.getD j oD).1≠n):Zl n os=[]:=by refine Zf2 λo ho=>?_;obtain⟨j,hj,rfl⟩:=List.getElem_of_mem ho;have:=h j hj;rwa [qy1,qy7 hj]at this
theorem Zpw(w:World)(m:Msg)(v:Value)(n:Int)(hv:Z12 w v m.opts)(hl:m.opts.length<1000000000) : Calls Tryz.prog 63 #[mV m (sc1 v),.int .i64 n] w λe w'=>e=.returned (.tuple #[.int .i64 (Zax n m.opts).1,.int .i64 (Zax n m.opts).2])/\Mod [] w w':=by
 refine Z1 (Z5 (J:=[.i m.kind,.i m.code,.i m.id,.s m.tok,.v v,.r (m.opts.map encO),.s m.pay,.i n]) sxE_ok Tryz.func63 Z73 rfl rfl (Rel.start2 (by simp[Ent.holds,Ent.wr,hv,X.ev])) rfl rfl ?_) rfl;simp only[QQ,Nat.reduceAdd,qy3,qy4,Zc,Zd,Z9];intro b1 b2;generalize m.opts=os at hl⊢
 refine⟨λvs=>∃(x:V) (i:Nat),vs=[x,.i i,.i n]/\i<=os.length/\∀j,j<i->(os.getD j oD).1≠n,λvs=>(os.length - (vs.getD 1 (.i 0)).toI).toNat,⟨_,0,rfl,by omega,λj hj=>by omega⟩,?_⟩;rintro _ - ⟨x,i,rfl,hi,hn⟩;simp only[QQ,Nat.reduceAdd,qy3,qy4,Zc,Zd,Z9];refine⟨λh1=>?_,λh1 w' hr=>⟨?_,hr.mod⟩⟩
 ·(repeat refine⟨by omega,?_⟩)
  intro b3;refine⟨λh2=>?_,λh2=>?_⟩
  ·obtain⟨r,e⟩:=Zk3 (by omega) hn h2;have eu:Zax n os=Zbb (os.getD i oD).2:=by rw[Zax,e]
   rw[eu];generalize (os.getD i oD).2=s
   refine⟨λh3=>by omega,λ_=>⟨λh3 w' hr=>⟨by rw[Zbb,if_pos h3],hr.mod⟩,λh3=>⟨λh4 w' hr=>⟨by subst h4;rfl,hr.mod⟩,λh4=>?_⟩⟩⟩;have eg:getR s 0 s.length=Zbb s:=by have:=List.length_pos_iff.2 h4;rw[getR,if_pos (by omega),if_pos (by omega),if_neg (by omega),Zbb,if_neg h3];simp
   refine⟨[.i (Zbb s).1,.i (Zbb s).2],rfl,λ_ w' _=>?_,?_⟩
   ·have:=Zcs w' s 0 s.length (by omega);rw[eg]at this;exact this
   ·simp only[QQ,Nat.reduceAdd];exact λw' hr=>⟨by trivial,hr.mod⟩
  ·(repeat refine⟨by omega,?_⟩)
   refine⟨⟨_,i+1,rfl,by omega,λj hj=>?_⟩,by omega⟩;by_cases hji:j=i
   ·subst hji;exact h2
   ·exact hn j (by omega)
 ·rw[Zax,Zpv λj hj=>hn j (by omega)]
theorem Zay(b:Nat):∀(l:List (List UInt8)),(∀x∈l,x.length<=b)->(Z4a l).length<=l.length*(b+1)
 | [],_=>by simp[Z4a]
 | [y],h=>by have:=h y (by simp);simp[Z4a];omega
 | y::z::l,h=>by have h1:=Zay b (z::l) λx hx=>h x (qy10 _ hx);have h2:=h y (by simp);simp only[Z4a,qy11,List.length_cons,Nat.add_mul]at h1⊢;omega
theorem Zil:∀{os:List Opt} {was:Int},optE was os=0->∀o∈os,o.2.length<=60
 | [],_,_,o,ho=>by simp at ho
 | x::os,was,h,o,ho=>by
  obtain⟨-,-,h3,h4⟩:=Zev.1 h;rcases List.mem_cons.1 ho with rfl|ho
  ·exact h3
  ·exact Zil h4 o ho
theorem Zpx{n:Int}{os:List Opt}{x:List UInt8}(h:x∈Zl n os):∃o∈os,o.2=x:=by simp only[Zl,List.mem_map,List.mem_filter]at h;obtain⟨o,⟨h1,-⟩,h2⟩:=h;exact⟨o,h1,h2⟩
theorem Znd{os:List Opt}(h:Zl 11 os=[]):Z95 os=([],5):=if_pos h
theorem Zpy{os:List Opt}(h:¬Zl 11 os=[])(h1:¬chkT (Z4a (Zl 11 os)) false=0):Z95 os=([],chkT (Z4a (Zl 11 os)) false):=by rw[Z95,if_neg h,if_neg h1]
theorem Zne{os:List Opt}(h:¬Zl 11 os=[])(h1:chkT (Z4a (Zl 11 os)) false=0)(h2:(Zl 11 os).any (λv=>v.any λc=>c == 47)=true):Z95 os=([],1):=by rw[Z95,if_neg h,if_pos h1,if_pos h2]
theorem Znf{os:List Opt}(h:¬Zl 11 os=[])(h1:chkT (Z4a (Zl 11 os)) false=0)(h2:¬(Zl 11 os).any (λv=>v.any λc=>c == 47)=true):Z95 os=(Z4a (Zl 11 os),0):=by rw[Z95,if_neg h,if_pos h1,if_neg h2]
theorem Zpz(w:World)(m:Msg)(v:Value)(hv:Z12 w v m.opts)(hc:chk m=0) : Calls Tryz.prog 62 #[mV m (sc1 v)] w λe w'=>e=.returned (.tuple #[.string ⟨(Z95 m.opts).1.toArray⟩,.int .i64 (Z95 m.opts).2])/\Mod [] w w':=by
 obtain⟨-,-,hl,ho,-⟩:=Zas.1 hc;refine Z1 (Z5 (J:=[.i m.kind,.i m.code,.i m.id,.s m.tok,.v v,.r (m.opts.map encO),.s m.pay]) sxE_ok Tryz.func62 Z76 rfl rfl (Rel.start2 (by simp[Ent.holds,Ent.wr,hv,X.ev])) rfl rfl ?_) rfl;simp only[QQ,Nat.reduceAdd,qy3,qy4,Zc,Zd,Z9];intro b1;replace hl:=hl.2.1;generalize m.opts=os at hl ho⊢
 have hvl:=Zik 11 os;have hul:(Z4a (Zl 11 os)).length<=12*61:=Nat.le_trans (Zay 60 _ λx hx=>by obtain⟨o,h1,rfl⟩:=Zpx hx;exact Zil ho o h1) (by omega);refine⟨λvs=>∃(s:Value) (i:Nat),vs=[.v s,.r ((Zl 11 (os.take i)).map Z1s),.b ((Zl 11 (os.take i)).any λv=>v.any λc=>c == 47),.i i]/\i<=os.length,λvs=>(os.length - (vs.getD 3 (.i 0)).toI).toNat,⟨_,0,rfl,by omega⟩,?_⟩;rintro _ - ⟨s,i,rfl,hi⟩;simp only[QQ,Nat.reduceAdd,qy3,qy4,Zc,Zd,Z9];refine⟨λh1=>?_,λh1=>?_⟩
 ·have hs:=Znc 11 os i (by omega);have hvi:=Zik 11 (os.take i);rw[List.length_take]at hvi
  (repeat refine⟨by omega,?_⟩)
  intro b2;refine⟨λh2 v1=>⟨by simp;omega,λv2=>?_⟩,λh2=>?_⟩
  ·rw[if_pos h2]at hs;refine⟨[.b ((os.getD i oD).2.any λc=>c == 47)],rfl,λ_ w' _=>Zuo w' _,?_⟩;simp only[QQ,Nat.reduceAdd,qy3,qy4,Zc,Zd,Z9];refine⟨by omega,by omega,⟨v2,i+1,?_,by omega⟩,by omega⟩;rw[hs];simp[Z1s]
  ·rw[if_neg h2,List.append_nil]at hs
   (repeat refine⟨by omega,?_⟩)
   exact⟨⟨s,i+1,by rw[hs];rfl,by omega⟩,by omega⟩
 ·have:i=os.length:=by omega
  subst this;rw[List.take_length];refine⟨λh2 w' hr=>⟨?_,hr.mod⟩,λh2=>?_⟩
  ·rw[Znd (List.length_eq_zero_iff.1 (by omega))]
  have h2:¬Zl 11 os=[]:=λh=>h2 (by rw[h];rfl);refine⟨[.s (Z4a (Zl 11 os))],rfl,λ_ w' hr=>Zpu w' s _ (hr.at_ 0 rfl) (by omega) (by omega),?_⟩;simp only[QQ,Nat.reduceAdd];refine⟨[.i (chkT (Z4a (Zl 11 os)) false)],rfl,λ_ w' hr=>Zhv w' _ (by omega),?_⟩;simp only[QQ,Nat.reduceAdd];refine⟨λh3=>⟨λ_ w' hr=>⟨?_,hr.mod⟩,λh=>(h (by decide)).elim⟩,λh3=>⟨λh4 w' hr=>⟨?_,hr.mod⟩,λh4 w' hr=>⟨?_,hr.mod⟩⟩⟩
  ·rw[Zne h2 h3.1 h3.2]
  ·rw[Zpy h2 h4]
  ·have h4:=qy9.1 h4;rw[Znf h2 h4 λh=>h3 ⟨h4,h⟩]
theorem Zim(x y:Nat)(hx:x<2 ^ 62)(hy:y<2 ^ 62):Zw .or .i64 (x:Int) (y:Int)=((x ||| y:Nat):Int):=by
 have h:x ||| y<2 ^ 62:=Nat.or_lt_two_pow hx hy
 have e:(BitVec.ofInt 64 (x:Int) ||| BitVec.ofInt 64 (y:Int)).toNat=x ||| y:=by rw[BitVec.toNat_or,BitVec.ofInt_natCast,BitVec.ofInt_natCast,BitVec.toNat_ofNat,BitVec.toNat_ofNat,Nat.mod_eq_of_lt (by omega),Nat.mod_eq_of_lt (by omega)]
 show IntKind.i64.wrap ((BitVec.ofInt 64 (x:Int) ||| BitVec.ofInt 64 (y:Int)).toNat:Int)=_
 rw[e,IntKind.wrap_i64];omega
theorem Zf5(x y:Nat)(hx:x<2 ^ 62)(hy:y<2 ^ 62):Zw .and .i64 (x:Int) (y:Int)=((x &&& y:Nat):Int):=by
 have h:x &&& y<2 ^ 62:=Nat.and_lt_two_pow _ hy;have e:(BitVec.ofInt 64 (x:Int) &&& BitVec.ofInt 64 (y:Int)).toNat=x &&& y:=by rw[BitVec.toNat_and,BitVec.ofInt_natCast,BitVec.ofInt_natCast,BitVec.toNat_ofNat,BitVec.toNat_ofNat,Nat.mod_eq_of_lt (by omega),Nat.mod_eq_of_lt (by omega)]
 show IntKind.i64.wrap ((BitVec.ofInt 64 (x:Int) &&& BitVec.ofInt 64 (y:Int)).toNat:Int)=_
 rw[e,IntKind.wrap_i64];omega
theorem Zu4(a s t:Nat)(hs:s<16)(ht:t<16):(16*a+s) ||| t=16*a+(s ||| t):=by
 have h1:((16*a+s) ||| t) / 2 ^ 4=((16*a+s) / 2 ^ 4) ||| (t / 2 ^ 4):=Nat.or_div_two_pow ..
 have h2:((16*a+s) ||| t) % 2 ^ 4=((16*a+s) % 2 ^ 4) ||| (t % 2 ^ 4):=Nat.or_mod_two_pow ..
 have e1:(16*a+s) / 2 ^ 4=a:=by omega
 have e2:(16*a+s) % 2 ^ 4=s:=by omega
 have e3:t / 2 ^ 4=0:=by omega
 have e4:t % 2 ^ 4=t:=by omega
 rw[e1,e3,Nat.or_zero]at h1;rw[e2,e4]at h2;omega
theorem Zr4(x t:Nat)(ht:t<16):x &&& t=(x % 16) &&& t:=by
 have h1:(x &&& t) / 2 ^ 4=(x / 2 ^ 4) &&& (t / 2 ^ 4):=Nat.and_div_two_pow ..;have h2:(x &&& t) % 2 ^ 4=(x % 2 ^ 4) &&& (t % 2 ^ 4):=Nat.and_mod_two_pow ..;have e3:t / 2 ^ 4=0:=by omega
 have e4:t % 2 ^ 4=t:=by omega
 rw[e3,Nat.and_zero]at h1;rw[e4]at h2;replace h1:(x &&& t) / 16=0:=h1;replace h2:(x &&& t) % 16=(x % 16) &&& t:=h2;omega
theorem and8(n:Nat)(h:n<2 ^ 62):(!decide (Zw .and .i64 (n:Int) 8=0))=decide ((n:Int) / 8 % 2=1):=by
 have e:Zw .and .i64 (n:Int) 8=((n &&& 8:Nat):Int):=Zf5 n 8 h (by decide);rw[e,Zr4 n 8 (by decide)];have:∀x:Fin 16,(!decide (((x.val &&& 8:Nat):Int)=0))=decide (x.val / 8 % 2=1):=by decide +kernel
 have:=this ⟨n % 16,by omega⟩;simp only at this;rw[this];exact decide_eq_decide.2 (by omega)
theorem and7(n:Nat)(h:n<2 ^ 62):Zw .and .i64 (n:Int) 7=(n:Int) % 8:=by
 have e:Zw .and .i64 (n:Int) 7=((n &&& 7:Nat):Int):=Zf5 n 7 h (by decide);rw[e,Zr4 n 7 (by decide)];have:∀x:Fin 16,x.val &&& 7=x.val % 8:=by decide +kernel
 have:=this ⟨n % 16,by omega⟩;simp only at this;rw[this];omega
theorem shr4(n:Nat):((n:Int)).fdiv (2 ^ (Nat.min (Int.toNat 4) IntKind.i64.bits))=(n:Int) / 16:=by
 show((n:Int)).fdiv 16=_
 rw[Int.fdiv_eq_ediv_of_nonneg _ (by decide)]
theorem Zng(b:Bk)(h:blkE b=0):(if b.2.1=true then Zw .or .i64 (Zw .or .i64 (IntKind.i64.wrap (b.1*2 ^ (Nat.min (Int.toNat 4) IntKind.i64.bits))) b.2.2) 8 else Zw .or .i64 (IntKind.i64.wrap (b.1*2 ^ (Nat.min (Int.toNat 4) IntKind.i64.bits))) b.2.2)=blkN b:=by
 obtain⟨n,m,s⟩:=b;unfold blkE at h;split at h
 ·rename_i hb;simp only at hb⊢;obtain⟨a,rfl⟩:∃a:Nat,n=a:=⟨n.toNat,by omega⟩
  obtain⟨t,rfl⟩:∃a:Nat,s=a:=⟨s.toNat,by omega⟩
  have e0:IntKind.i64.wrap ((a:Int)*2 ^ (Nat.min (Int.toNat 4) IntKind.i64.bits))=((16*a:Nat):Int):=by
   show IntKind.i64.wrap ((a:Int)*16)=_
   rw[IntKind.wrap_i64];omega
  have e1:Zw .or .i64 ((16*a:Nat):Int) (t:Int)=((16*a+t:Nat):Int):=by rw[Zim _ _ (by omega) (by omega)];have:=Zu4 a 0 t (by decide) (by omega);rw[Nat.add_zero,Nat.zero_or]at this;rw[this]
  have e2:Zw .or .i64 ((16*a+t:Nat):Int) 8=((16*a+t+8:Nat):Int):=by
   have e:Zw .or .i64 ((16*a+t:Nat):Int) 8=(((16*a+t) ||| 8:Nat):Int):=Zim _ 8 (by omega) (by decide);rw[e,Zu4 a t 8 (by omega) (by decide)];have:∀x:Fin 8,x.val ||| 8=x.val+8:=by decide +kernel
   have:=this ⟨t,by omega⟩;simp only at this;rw[this];rfl
  rw[e0,e1,e2]
  show _=16*(a:Int)+(t:Int)+(if m=true then 8 else 0)
  cases m<;>simp
 ·cases h
theorem Zq0(v:List UInt8):0<=(Zbb v).1/\(Zbb v).1<=16777215:=by
 unfold Zbb;split
 ·decide
 ·have hb:=Zhm v 0;have hp:pw v.length<=pw 3:=Z87 (by omega);have hp3:pw 3=16777216:=rfl;simp only;omega
theorem Zq1(n:Int)(os:List Opt):0<=(Zax n os).1/\(Zax n os).1<=16777215:=by
 unfold Zax;split
 ·decide
 ·exact Zq0 _
theorem Zq2(m:Msg)(n:Int):0<=(Z2s m n).1/\(Z2s m n).1<=16777215:=by
 unfold Z2s;split
 ·exact Zq1 _ _
 ·show(0:Int)<=0/\(0:Int)<=16777215
  decide
abbrev bdM(m:Msg):Prop:=m.opts.length<1000000000/\m.tok.length<1099511627776/\m.pay.length<1099511627776
theorem Z17(w:World)(m:Msg)(v:Value)(hv:Z12 w v m.opts)(hb:bdM m) : Calls Tryz.prog 26 #[mV m (sc1 v)] w λe w'=>e=.returned (.int .i64 (chk m))/\Mod [] w w':=Z6l w m v hv (by have:=hb.1;omega) hb.2.1 hb.2.2
theorem Zu5(w:World)(m:Msg)(v:Value)(hv:Z12 w v m.opts)(hb:bdM m) : Calls Tryz.prog 27 #[mV m (sc1 v)] w λe w'=>e=.returned (.tuple #[.string ⟨(Zgg m).1.toArray⟩,.int .i64 (Zgg m).2])/\Mod [] w w':=by refine Z1 (Z5 (J:=[.i m.kind,.i m.code,.i m.id,.s m.tok,.v v,.r (m.opts.map encO),.s m.pay]) sxE_ok Tryz.func27 Z8y rfl rfl (Rel.start2 (by simp[Ent.holds,Ent.wr,hv,X.ev])) rfl rfl ?_) rfl;simp only[QQ,Nat.reduceAdd,qy3,qy4,Zc,Zd,Z9];intro b1;refine⟨[.i (chk m)],rfl,λ_ w' hr=>Z17 w' m v (hr.at_ 1 rfl) hb,?_⟩;simp only[QQ,Nat.reduceAdd];refine⟨λh w' hr=>⟨by rw[Zgg,if_neg h],hr.mod⟩,λh=>?_⟩;have h:=qy9.1 h;refine⟨[.s (Z95 m.opts).1,.i (Z95 m.opts).2],rfl,λ_ w' hr=>Zpz w' m v (hr.at_ 1 rfl) h,?_⟩;simp only[QQ,Nat.reduceAdd];exact λw' hr=>⟨by rw[Zgg,if_pos h],hr.mod⟩
theorem Znh(w:World)(m:Msg)(v:Value)(n:Int)(hv:Z12 w v m.opts)(hb:bdM m) : Calls Tryz.prog 28 #[mV m (sc1 v),.int .i64 n] w λe w'=>e=.returned (.tuple #[.int .i64 (Z2s m n).1,.int .i64 (Z2s m n).2])/\Mod [] w w':=by refine Z1 (Z5 (J:=[.i m.kind,.i m.code,.i m.id,.s m.tok,.v v,.r (m.opts.map encO),.s m.pay,.i n]) sxE_ok Tryz.func28 Z8x rfl rfl (Rel.start2 (by simp[Ent.holds,Ent.wr,hv,X.ev])) rfl rfl ?_) rfl;simp only[QQ,Nat.reduceAdd,qy3,qy4,Zc,Zd,Z9];intro b1;refine⟨[.i (chk m)],rfl,λ_ w' hr=>Z17 w' m v (hr.at_ 1 rfl) hb,?_⟩;simp only[QQ,Nat.reduceAdd];refine⟨λh w' hr=>⟨by rw[Z2s,if_neg h],hr.mod⟩,λh=>?_⟩;have h:=qy9.1 h;refine⟨[.i (Zax n m.opts).1,.i (Zax n m.opts).2],rfl,λ_ w' hr=>Zpw w' m v n (hr.at_ 1 rfl) hb.1,?_⟩;simp only[QQ,Nat.reduceAdd];exact λw' hr=>⟨by rw[Z2s,if_pos h],hr.mod⟩
def bV(b:Bk):Value:=.agg #[.int .i64 b.1,.bool b.2.1,.int .i64 b.2.2]
theorem Zgi(w:World)(b:Bk):Calls Tryz.prog 52 #[bV b] w λe w'=>e=.returned (.int .i64 (blkE b))/\Mod [] w w':=by refine Z1 (Z4 (J:=[.i b.1,.b b.2.1,.i b.2.2]) sxE_ok Tryz.func52 Z7u rfl rfl rfl ?_) rfl;simp only[QQ,Nat.reduceAdd];refine λb1=>⟨λh w' hr=>⟨by rw[blkE,if_neg (by omega)],hr.mod⟩,λh w' hr=>⟨by rw[blkE,if_pos (by omega)],hr.mod⟩⟩
theorem Zt1(w:World)(m:Msg)(v:Value)(hv:Z12 w v m.opts)(hb:bdM m) : Calls Tryz.prog 29 #[mV m (sc1 v)] w λe w'=>e=.returned (.tuple #[bV (Z67 m).1,.int .i64 (Z67 m).2])/\Mod [] w w':=by
 refine Z1 (Z5 (J:=[.i m.kind,.i m.code,.i m.id,.s m.tok,.v v,.r (m.opts.map encO),.s m.pay]) sxE_ok Tryz.func29 Z7y rfl rfl (Rel.start2 (by simp[Ent.holds,Ent.wr,hv,X.ev])) rfl rfl ?_) rfl;simp only[QQ,Nat.reduceAdd,qy3,qy4,Zc,Zd,Z9];intro b1 b2;refine⟨[.i (Z2s m 23).1,.i (Z2s m 23).2],rfl,λ_ w' hr=>Znh w' m v 23 (hr.at_ 2 rfl) hb,?_⟩;simp only[QQ,Nat.reduceAdd];refine⟨λh w' hr=>⟨by rw[Z67,if_neg h];rfl,hr.mod⟩,λh b3=>?_⟩;have h:=qy9.1 h;have hbd:=Zq2 m 23;have e0:Z67 m=if blkE (nBlk (Z2s m 23).1)=0 then(nBlk (Z2s m 23).1,0)else((0,false,0),blkE (nBlk (Z2s m 23).1)):=by rw[Z67,if_pos h]
 generalize (Z2s m 23).1=n at hbd e0⊢
 obtain⟨a,rfl⟩:∃a:Nat,n=a:=⟨n.toNat,by omega⟩
 rw[shr4,and8 a (by omega),and7 a (by omega)];refine⟨[.i (blkE (nBlk a))],rfl,λ_ w' hr=>Zgi w' (nBlk a),?_⟩;simp only[QQ,Nat.reduceAdd];exact⟨λh1 w' hr=>⟨by rw[e0,if_neg h1];rfl,hr.mod⟩,λh1 w' hr=>⟨by rw[e0,if_pos (qy9.1 h1)];rfl,hr.mod⟩⟩
def Zin(w w':World)(e:Ending)(r:Msg×Int):Prop:=∃v',e=.returned (.tuple #[mV r.1 (sc1 v'),.int .i64 r.2])/\Z12 w' v' r.1.opts/\Z3p w.heap.size v' r.1.opts/\Mod [] w w'
theorem Z2x{w w':World}{er:Int}(h:Mod [] w w'):Zin w w' (.returned (.tuple #[mV mNil (sc1 (.slice none 0 0)),.int .i64 er])) (mNil,er):=⟨_,rfl,Zf3 _,Zc3 _ _,h⟩
theorem Z9m{m:Msg}{n:Int}{us:List (List UInt8)}(h:bdM m)(hu:us.length<1000000)(hm:m.opts.length<=12):bdM (Z6n m n us):=by
 refine⟨?_,h.2.1,h.2.2⟩
 show(Z5k m.opts n us).length<_
 have h1:=congrArg List.length (Zn2 n (noN n m.opts));have h2:=Zgh n m.opts;simp only[Z5k,qy11,qy3]at h1⊢;omega
theorem Zc9(w:World)(m:Msg)(v:Value)(n x:Int)(hv:Z12 w v m.opts)(hb:bdM m) : Calls Tryz.prog 16 #[mV m (sc1 v),.int .i64 n,.int .i64 x] w λe w'=>Zin w w' e (Zb m n x):=by
 refine Z1 (Z5 (J:=[.i m.kind,.i m.code,.i m.id,.s m.tok,.v v,.r (m.opts.map encO),.s m.pay,.i n,.i x]) (sxE_ok.joins _) Tryz.func16 Z5w rfl rfl (Rel.start2 (by simp[Ent.holds,Ent.wr,hv,X.ev])) rfl rfl ?_) rfl;simp only[QQ,Nat.reduceAdd,qy3,qy4,Zc,Zd,Z9];intro b1 b2;refine⟨[.i (chk m)],rfl,λ_ w' hr=>Z17 w' m v (hr.at_ 2 rfl) hb,?_⟩;simp only[QQ,Nat.reduceAdd];refine⟨λvs=>∃y:Int,vs=[.i y]/\y=(if chk m=0 then(if 0<=x/\x<=16777215 then 0 else 3)else chk m),⟨λh=>⟨3,rfl,by rw[if_pos h.1,if_neg (by omega)]⟩,λh=>⟨_,rfl,?_⟩⟩,?_⟩
 ·by_cases h1:chk m=0
  ·rw[if_pos h1,if_pos (by omega),h1]
  ·rw[if_neg h1]
 rintro _ - ⟨y,rfl,hy⟩;simp only[QQ,Nat.reduceAdd];refine⟨λh w' hr=>?_,λh b3 b4=>?_⟩
 ·have e:Zb m n x=(mNil,y):=by
   rw[Zb];by_cases h1:chk m=0
   ·rw[if_pos h1]at hy⊢;by_cases h2:0<=x/\x<=16777215
    ·rw[if_pos h2]at hy;exact absurd hy h
    ·rw[if_neg h2]at hy⊢;rw[hy]
   ·rw[if_neg h1]at hy⊢;rw[hy]
  rw[e];exact Z2x hr.mod
 have h:=qy9.1 h;rw[h]at hy;have h1:chk m=0:=Classical.byContradiction λh1=>by rw[if_neg h1]at hy;exact h1 hy.symm
 rw[if_pos h1]at hy;have h2:0<=x/\x<=16777215:=Classical.byContradiction λh2=>by rw[if_neg h2]at hy;cases hy
 have e:Zb m n x=outR (Z6n m n [Z26 x]):=by rw[Zb,if_pos h1,if_pos h2]
 rw[e];have hm12:=(Zas.1 h1).2.2.1.2.1;refine⟨[.s (Z26 x)],rfl,λ_ w' hr=>Znb w' x h2,λu w1 hr=>?_⟩;have hu:=(hr.at_ 0 rfl).reads;refine(Zr2 w1 m v u n [Z26 x] (hr.at_ 5 rfl) hu (by omega) (by simp)).mono ?_;rintro e w2 ⟨v',rfl,r1,f1,m1⟩;replace f1:Z3p w1.heap.size v' (Z5k m.opts n [Z26 x]):=λk hk=>f1 k hk.2;refine⟨[.i m.kind,.i m.code,.i m.id,.s m.tok,.v v',.r ((Z5k m.opts n [Z26 x]).map encO),.s m.pay],rfl,rfl,m1,qy5 _,qy2.2 ⟨⟨r1,λk hk=>.inl (f1 k hk)⟩,qy5 _⟩,Z6,?_⟩;have hsz:=hr.mod.size;clear hr r1 m1 hu;simp only[QQ,Nat.reduceAdd];intro b5 b6;refine⟨[.i (chk (Z6n m n [Z26 x]))],rfl,λ_ w' hr=>Z17 w' (Z6n m n [Z26 x]) v' (hr.at_ 2 rfl) (Z9m hb (by simp) hm12),?_⟩;simp only[QQ,Nat.reduceAdd];refine⟨λh3 w' hr=>?_,λh3 w' hr=>?_⟩
 ·rw[outR,if_neg h3];exact Z2x hr.mod
 ·rw[outR,if_pos (qy9.1 h3)];exact⟨v',rfl,hr.at_ 2 rfl,f1.mono hsz,hr.mod⟩
theorem Zk4(w:World)(m:Msg)(v:Value)(t:List UInt8)(hv:Z12 w v m.opts)(hb:bdM m)(ht:t.length<4294967281) : Calls Tryz.prog 15 #[mV m (sc1 v),.string ⟨t.toArray⟩] w λe w'=>Zin w w' e (Z1b m t):=by
 refine Z1 (Z5 (J:=[.i m.kind,.i m.code,.i m.id,.s m.tok,.v v,.r (m.opts.map encO),.s m.pay,.s t]) (sxE_ok.joins _) Tryz.func15 Z5v rfl rfl (Rel.start2 (by simp[Ent.holds,Ent.wr,hv,X.ev])) rfl rfl ?_) rfl;simp only[QQ,Nat.reduceAdd,qy3,qy4,Zc,Zd,Z9];intro b1 b2;refine⟨[.i (chk m)],rfl,λ_ w' hr=>Z17 w' m v ((by first|exact hr.at_ 0 rfl|exact hr.at_ 1 rfl|exact hr.at_ 2 rfl|exact hr.at_ 3 rfl|exact hr.at_ 4 rfl|exact hr.at_ 5 rfl|exact hr.at_ 6 rfl|exact hr.at_ 7 rfl|exact hr.at_ 8 rfl|exact hr.at_ 9 rfl|exact hr.at_ 10 rfl|exact hr.at_ 11 rfl)) hb,?_⟩;simp only[QQ,Nat.reduceAdd];refine⟨λvs=>∃y:Int,vs=[.i y]/\y=(if chk m=0 then chkT t false else chk m),⟨λh=>?_,λh=>⟨_,rfl,by rw[if_neg h]⟩⟩,?_⟩
 ·refine⟨[.i (chkT t false)],rfl,λ_ w' _=>Zhv w' t ht,?_⟩;simp only[QQ,Nat.reduceAdd];exact⟨_,rfl,by rw[if_pos h]⟩
 rintro _ - ⟨y,rfl,hy⟩;simp only[QQ,Nat.reduceAdd];refine⟨λh w' hr=>?_,λh=>?_⟩
 ·have e:Z1b m t=(mNil,y):=by
   rw[Z1b];by_cases h1:chk m=0
   ·rw[if_pos h1]at hy⊢;rw[if_neg (by rw[<- hy];exact h),hy]
   ·rw[if_neg h1]at hy⊢;rw[hy]
  rw[e];exact Z2x hr.mod
 have h:=qy9.1 h;rw[h]at hy;have h1:chk m=0:=Classical.byContradiction λh1=>by rw[if_neg h1]at hy;exact h1 hy.symm
 rw[if_pos h1]at hy;have e:Z1b m t=outR (Z6n m 11 (lev t)):=by rw[Z1b,if_pos h1,if_pos hy.symm]
 rw[e];have hm12:=(Zas.1 h1).2.2.1.2.1;have hl6:=(Zn1.1 hy.symm).2.1.2;refine⟨?_,?_⟩<;>(intro w0 hr0;have hsz0:=hr0.mod.size;refine(Z9d w0 t ht).mono ?_;rintro e w1 ⟨u,rfl,r1,f1,m1⟩;refine⟨[.v u,.r ((lev t).map Z1s)],rfl,rfl,m1,qy5 _,qy2.2 ⟨⟨r1,λk hk=>.inl (f1 k hk)⟩,qy5 _⟩,Z6,?_⟩;clear hr0 r1 f1 m1;simp only[QQ,Nat.reduceAdd];intro w1 hr;have hsz1:=hr.mod.size;refine(Zr2 w1 m v u 11 (lev t) ((by first|exact hr.at_ 0 rfl|exact hr.at_ 1 rfl|exact hr.at_ 2 rfl|exact hr.at_ 3 rfl|exact hr.at_ 4 rfl|exact hr.at_ 5 rfl|exact hr.at_ 6 rfl|exact hr.at_ 7 rfl|exact hr.at_ 8 rfl|exact hr.at_ 9 rfl|exact hr.at_ 10 rfl|exact hr.at_ 11 rfl)) ((by first|exact hr.at_ 0 rfl|exact hr.at_ 1 rfl|exact hr.at_ 2 rfl|exact hr.at_ 3 rfl|exact hr.at_ 4 rfl|exact hr.at_ 5 rfl|exact hr.at_ 6 rfl|exact hr.at_ 7 rfl|exact hr.at_ 8 rfl|exact hr.at_ 9 rfl|exact hr.at_ 10 rfl|exact hr.at_ 11 rfl)) (by omega) (by omega)).mono ?_;rintro e w2 ⟨v',rfl,r1,f1,m1⟩;replace f1:Z3p w1.heap.size v' (Z5k m.opts 11 (lev t)):=λk hk=>f1 k hk.2;refine⟨[.i m.kind,.i m.code,.i m.id,.s m.tok,.v v',.r ((Z5k m.opts 11 (lev t)).map encO),.s m.pay],rfl,rfl,m1,qy5 _,qy2.2 ⟨⟨r1,λk hk=>.inl (f1 k hk)⟩,qy5 _⟩,Z6,?_⟩;clear hr r1 m1;simp only[QQ,Nat.reduceAdd];intro b5 b6;refine⟨[.i (chk (Z6n m 11 (lev t)))],rfl,λ_ w' hr=>Z17 w' (Z6n m 11 (lev t)) v' ((by first|exact hr.at_ 0 rfl|exact hr.at_ 1 rfl|exact hr.at_ 2 rfl|exact hr.at_ 3 rfl|exact hr.at_ 4 rfl|exact hr.at_ 5 rfl|exact hr.at_ 6 rfl|exact hr.at_ 7 rfl|exact hr.at_ 8 rfl|exact hr.at_ 9 rfl|exact hr.at_ 10 rfl|exact hr.at_ 11 rfl)) (Z9m hb (by omega) hm12),?_⟩;simp only[QQ,Nat.reduceAdd];refine⟨λh3 w' hr=>?_,λh3 w' hr=>?_⟩;(· rw[outR,if_neg h3];exact Z2x hr.mod);(· rw[outR,if_pos (qy9.1 h3)];exact⟨v',rfl,((by first|exact hr.at_ 0 rfl|exact hr.at_ 1 rfl|exact hr.at_ 2 rfl|exact hr.at_ 3 rfl|exact hr.at_ 4 rfl|exact hr.at_ 5 rfl|exact hr.at_ 6 rfl|exact hr.at_ 7 rfl|exact hr.at_ 8 rfl|exact hr.at_ 9 rfl|exact hr.at_ 10 rfl|exact hr.at_ 11 rfl)),f1.mono hsz1,hr.mod⟩))
abbrev mEV(r:Msg×Int)(v:Value):List V:=[.i r.1.kind,.i r.1.code,.i r.1.id,.s r.1.tok,.v v,.r (r.1.opts.map encO),.s r.1.pay,.i r.2]
abbrev mVs(m:Msg)(v:Value):List V:=[.i m.kind,.i m.code,.i m.id,.s m.tok,.v v,.r (m.opts.map encO),.s m.pay]
theorem Zgj(w:World)(m:Msg)(v:Value)(b:Bk)(hv:Z12 w v m.opts)(hb:bdM m) : Calls Tryz.prog 17 #[mV m (sc1 v),bV b] w λe w'=>Zin w w' e (Ze m b):=by
 refine Z1 (Z5 (J:=[.i m.kind,.i m.code,.i m.id,.s m.tok,.v v,.r (m.opts.map encO),.s m.pay,.i b.1,.b b.2.1,.i b.2.2]) (sxE_ok.joins _) Tryz.func17 Z5e rfl rfl (Rel.start2 (by simp[Ent.holds,Ent.wr,hv,X.ev])) rfl rfl ?_) rfl;simp only[QQ,Nat.reduceAdd,qy3,qy4,Zc,Zd,Z9];intro b1 b2 b3;refine⟨[.i (chk m)],rfl,λ_ w' hr=>Z17 w' m v ((by first|exact hr.at_ 0 rfl|exact hr.at_ 1 rfl|exact hr.at_ 2 rfl|exact hr.at_ 3 rfl|exact hr.at_ 4 rfl|exact hr.at_ 5 rfl|exact hr.at_ 6 rfl|exact hr.at_ 7 rfl|exact hr.at_ 8 rfl|exact hr.at_ 9 rfl|exact hr.at_ 10 rfl|exact hr.at_ 11 rfl)) hb,?_⟩;simp only[QQ,Nat.reduceAdd];refine⟨λh=>?_,λh w' hr=>?_⟩
 ·refine⟨[.i (blkE b)],rfl,λ_ w' hr=>Zgi w' b,?_⟩;simp only[QQ,Nat.reduceAdd];refine⟨λh1 w' hr=>?_,λh1=>?_⟩
  ·rw[Ze,if_pos h,if_neg h1];exact Z2x hr.mod
  have h1:=qy9.1 h1;have hbits:=Zng b h1;refine⟨λvs=>vs=[.i (blkN b)],⟨λh2=>?_,λh2=>?_⟩,?_⟩
  ·rw[if_pos h2]at hbits;rw[<- hbits]
  ·rw[if_neg h2]at hbits;rw[<- hbits]
  rintro _ - rfl;simp only[QQ,Nat.reduceAdd];intro w1 hr;have hsz1:=hr.mod.size;refine(Zc9 w1 m v 23 (blkN b) ((by first|exact hr.at_ 0 rfl|exact hr.at_ 1 rfl|exact hr.at_ 2 rfl|exact hr.at_ 3 rfl|exact hr.at_ 4 rfl|exact hr.at_ 5 rfl|exact hr.at_ 6 rfl|exact hr.at_ 7 rfl|exact hr.at_ 8 rfl|exact hr.at_ 9 rfl|exact hr.at_ 10 rfl|exact hr.at_ 11 rfl)) hb).mono ?_;rintro e w2 ⟨v',rfl,r1,f1,m1⟩;refine⟨mEV (Zb m 23 (blkN b)) v',rfl,rfl,m1,qy5 _,qy2.2 ⟨⟨r1,λk hk=>.inl (f1 k hk)⟩,qy5 _⟩,Z6,?_⟩;clear hr r1 m1;simp only[QQ,Nat.reduceAdd,mEV];intro w3 hr;rw[Ze,if_pos h,if_pos h1];exact⟨v',rfl,hr.at_ 0 rfl,f1.mono hsz1,hr.mod⟩
 ·rw[Ze,if_neg h];exact Z2x hr.mod
abbrev mEVO(r:Msg×Int)(v:Value):List V:=[.i r.1.kind,.i r.1.code,.i r.1.id,.s r.1.tok,.v v,.r (r.1.opts.map encO),.s r.1.pay,.i r.2,.a (optO v r.1.opts)]
def Zq3(w w':World)(e:Ending)(r:Msg×Int):Prop:=∃v,e=.returned (.tuple #[mV r.1 (sc1 v),.int .i64 r.2])/\owns w' v 74 [.int .i64,.str] (r.1.opts.map encO)/\newO w.heap.size v/\Mod [] w w'
theorem Z4b{w w':World}{n:Int}(h:Mod [] w w'):Zq3 w w' (.returned (.tuple #[mV mNil (.slice none 0 0),.int .i64 n])) (mNil,n) :=
 ⟨.slice none 0 0,rfl,Z5s _ _ _,Zpt _,h⟩
theorem Zni(w:World)(m:Msg)(v u:Value)(n:Int)(us:List (List UInt8))(hv:Z12 w v m.opts)(hu:Zbu w u us)(hl:m.opts.length<1000000000)(hul:us.length<1000000000) : Calls Tryz.prog 49 #[mV m (sc1 v),.int .i64 n,sc1 u] w λe w'=>∃v',e=.returned (mV m (sc1 v'))/\owns w' v' 74 [.int .i64,.str] ((Z5k m.opts n us).map encO)/\newO w.heap.size v'/\Mod [] w w':=by
 refine Z1 (Z5 (J:=[.i m.kind,.i m.code,.i m.id,.s m.tok,.v v,.r (m.opts.map encO),.s m.pay,.i n,.v u,.r (us.map Z1s)]) (sxE_ok.joins _) Tryz.func49 Z50 rfl rfl (Rel.start2 (by simp[Ent.holds,Ent.wr,hv,hu,X.ev])) rfl rfl ?_) rfl;simp only[QQ,Nat.reduceAdd,qy3,qy4,Zc,Zd,Z9];intro b1 b2 b3 b4 b5 w1 hr;refine(Zii w1 v m.opts (hr.at_ 5 rfl) hl).mono ?_;rintro e w2 ⟨q,rfl,a1,f1,m1⟩;refine⟨[.v q,.r (m.opts.map encO)],rfl,rfl,m1,qy5 _,qy2.2 ⟨⟨a1,λk hk=>.inl (f1 k hk)⟩,qy5 _⟩,Z6,?_⟩;clear hr a1 f1 m1;simp only[QQ,Nat.reduceAdd,qy3,qy4,Zc,Zd,Z9];intro b6;generalize hos:m.opts=os at hl⊢
 refine⟨λvs=>∃u',vs=[.i 0,.i 0,.i 0,.i 0,.i 0,.i 0,.i 0,.i 0,.i 0,.i 0,.v u',.i n,.r ((noN n os).map encO)],?_,?_⟩
 ·refine⟨λvs=>∃(x:V) (i:Nat),vs=[x,.i i,.i n]/\i<=os.length/\∀j,j<i->(os.getD j oD).1≠n,λvs=>(os.length - (vs.getD 1 (.i 0)).toI).toNat,⟨_,0,rfl,by omega,λj hj=>by omega⟩,?_⟩;rintro _ - ⟨x,i,rfl,hi,hn⟩;simp only[QQ,Nat.reduceAdd,qy3,qy4,Zc,Zd,Z9];refine⟨λh1=>?_,λh1=>?_⟩
  ·(repeat refine⟨by omega,?_⟩)
   intro b7;refine⟨λh2=>⟨λh3=>by omega,λh3=>⟨by omega,by omega,?_⟩⟩,λh2=>?_⟩
   ·refine⟨λvs=>∃(a j:Nat) (R:List Opt),vs=[.i a,.i j,.r (R.map encO),.i n]/\a<j/\j<=os.length/\R.length=os.length/\R.take a=noN n (os.take j)/\R.drop j=os.drop j,λvs=>(os.length - (vs.getD 1 (.i 0)).toI).toNat,
     ⟨i,i+1,os,rfl,by omega,by omega,rfl,?_,rfl⟩,?_⟩
    ·rw[Z9l n os i (by omega),if_pos h2,List.append_nil,Zdh];intro j hj;simp only[List.length_take]at hj;have:=hn j (by omega);rw[qy1]at this⊢;rwa [List.getElem?_take_of_lt (by omega)]
    rintro _ - ⟨a,j,R,rfl,haj,hj,hR,ht,hd⟩;simp only[QQ,Nat.reduceAdd,qy3,qy4,Zc,Zd,Z9,hR];have hg:j<os.length->R.getD j oD=os.getD j oD:=λh=>by have:=congrArg (λl=>l[0]?) hd;simp only[List.getElem?_drop,Nat.add_zero]at this;rw[qy1,qy1,this]
    refine⟨λh3=>?_,λh3=>?_⟩
    ·(repeat refine⟨by omega,?_⟩)
     intro b8 b9;have hjl:j<os.length:=by omega
     have hs1:=Z9l n os j hjl;have hg:=hg hjl;have hd':R.drop (j+1)=os.drop (j+1):=by have:=congrArg (λl=>l.drop 1) hd;simpa[List.drop_drop,Nat.add_comm]using this
     refine⟨λh4=>?_,λh4=>?_⟩
     ·(repeat refine⟨by omega,?_⟩)
      refine⟨⟨a+1,j+1,R.set a (R.getD j oD),?_,by omega,by omega,by simpa using hR,?_,?_⟩,by omega⟩
      ·rw[<- Zij];rfl
      ·rw[hs1,if_neg (by rw[<- hg];exact h4),<- ht,<- hg,Zpo _ _ (by simp;omega)];congr 1
       ·rw[List.take_set_of_le (Nat.le_refl _)]
       ·rw[qy1,List.getElem?_set_self (by omega)];rfl
      ·rw[List.drop_set_of_lt (by omega)];exact hd'
     ·(repeat refine⟨by omega,?_⟩)
      refine⟨⟨a,j+1,R,rfl,by omega,by omega,hR,?_,hd'⟩,by omega⟩;rw[hs1,if_pos (by rw[<- hg];exact qy9.1 h4),List.append_nil];exact ht
    ·have hje:j=os.length:=by omega
     subst hje;rw[List.take_length]at ht;refine⟨by omega,by omega,?_,λu'=>⟨u',?_⟩⟩
     ·simp only[qy11,List.length_take,List.length_replicate,qy3,hR];omega
     ·congr 1
      simp only[List.cons.injEq,true_and,and_true];congr 1
      rw[List.take_append_of_le_length (by simp;omega),List.take_take,Nat.min_self,<- List.map_take,ht]
   ·(repeat refine⟨by omega,?_⟩)
    refine⟨⟨_,i+1,rfl,by omega,λj hj=>?_⟩,by omega⟩;by_cases hji:j=i
    ·subst hji;exact h2
    ·exact hn j (by omega)
  ·have hie:i=os.length:=by omega
   subst hie;refine⟨q,?_⟩;rw[Zdh hn]
 rintro _ - ⟨u',rfl⟩;generalize hN:noN n os=R
 have hRl:R.length<1000000000:=by have:=Zgh n os;rw[hN]at this;omega
 simp only[QQ,Nat.reduceAdd,qy3,qy4,Zc,Zd,Z9];refine⟨λvs=>∃k:Int,vs=[.i 0,.i 0,.i n,.i 0,.i k]/\((k=-1/\∀j,j<R.length->(R.getD j oD).1<=n)\/∃i:Nat,k=i/\i<R.length/\(∀j,j<i->(R.getD j oD).1<=n)/\n<(R.getD i oD).1),?_,?_⟩
 ·refine⟨λvs=>∃(x:V) (i:Nat),vs=[x,.i i,.i n]/\i<=R.length/\∀j,j<i->(R.getD j oD).1<=n,λvs=>(R.length - (vs.getD 1 (.i 0)).toI).toNat,⟨_,0,rfl,by omega,λj hj=>by omega⟩,?_⟩;rintro _ - ⟨x,i,rfl,hi,hn⟩;simp only[QQ,Nat.reduceAdd,qy3,qy4,Zc,Zd,Z9];refine⟨λh1=>?_,λh1=>⟨-1,rfl,.inl ⟨rfl,λj hj=>hn j (by omega)⟩⟩⟩
  (repeat refine⟨by omega,?_⟩)
  intro b7;refine⟨λh2=>⟨i,rfl,.inr ⟨i,rfl,by omega,hn,h2⟩⟩,λh2=>?_⟩
  (repeat refine⟨by omega,?_⟩)
  refine⟨⟨_,i+1,rfl,by omega,λj hj=>?_⟩,by omega⟩;by_cases hji:j=i
  ·subst hji;omega
  ·exact hn j (by omega)
 rintro _ - ⟨k,rfl,hk⟩;simp only[QQ,Nat.reduceAdd,qy3,qy4,Zc,Zd,Z9];refine⟨λvs=>∃k:Nat,vs=[.i k]/\k<=R.length/\(∀j,j<k->(R.getD j oD).1<=n)/\(k<R.length->n<(R.getD k oD).1),⟨λh1=>?_,λh1=>?_⟩,?_⟩
 ·rcases hk with⟨h2,h3⟩|⟨i,h2,-⟩
  ·exact⟨R.length,rfl,Nat.le_refl _,h3,λh=>by omega⟩
  ·omega
 ·rcases hk with⟨h2,h3⟩|⟨i,h2,h3,h4,h5⟩
  ·omega
  ·subst h2;exact⟨i,rfl,by omega,h4,λ_=>h5⟩
 rintro _ - ⟨i,rfl,hi,h1,h2⟩;obtain⟨e1,e2⟩:=Zdg hi h1 h2;simp only[QQ,Nat.reduceAdd,qy3,qy4,Zc,Zd,Z9];refine⟨λvs=>∃(v1:Value) (i:Nat),vs=[.v v1,.r (((us.take i).map λx=>((n,x):Opt)).map encO),.i i]/\i<=us.length,λvs=>(us.length - (vs.getD 2 (.i 0)).toI).toNat,⟨_,0,rfl,by omega⟩,?_⟩;rintro _ - ⟨v1,j,rfl,hj⟩;simp only[QQ,Nat.reduceAdd,qy3,qy4,Zc,Zd,Z9];refine⟨λh3=>?_,λh3 w3 hr=>?_⟩
 ·(repeat refine⟨by omega,?_⟩)
  intro v2;refine⟨by simp;omega,λv3=>⟨by omega,by omega,⟨v3,j+1,?_,by omega⟩,by omega⟩⟩;rw[List.take_add_one,List.map_append,List.map_append,qy7 (by omega),qy1,qy7 (by omega)];rfl
 ·have:j=us.length:=by omega
  subst this;rw[List.take_length]at hr;refine(Zr1 w3 u' v1 R _ i (hr.at_ 1 rfl) (hr.at_ 0 rfl) (λk h5 h6=>hr.sep.disj (i:=1) (j:=0) rfl rfl (by omega) (.inl rfl) (k:=k) h5 h6) hi hRl (by simpa using hul)).mono ?_;rintro e w4 ⟨v',rfl,g1,g2,g3⟩;refine⟨[.v v',.r ((R.take i++(us.map λx=>((n,x):Opt))++R.drop i).map encO)],rfl,rfl,g3.mono λk hk=>.inl (by unfold Zgu;exact List.mem_append_right _ (Z9k (i:=28) (by simp) (Option.mem_toList.1 hk))),qy5 _,qy2.2 ⟨⟨g1,λk hk=>?_⟩,qy5 _⟩,Z6,?_⟩
  ·rcases g2 k hk with h5|h5
   ·exact .inr (.inr (Z9k (i:=28) (by simp) h5))
   ·exact .inl h5
  ·intro w5 hr5;refine⟨v',rfl,?_,hr5.fresh 0 rfl,hr5.mod⟩;have:=hr5.at_ 0 rfl;rw[e1,e2]at this;rw[Z5k,hN];exact this
theorem Zaz(w:World)(m:Msg)(v:Value)(n x:Int)(hv:Z12 w v m.opts)(hb:bdM m) : Calls Tryz.prog 16 #[mV m (sc1 v),.int .i64 n,.int .i64 x] w λe w'=>Zq3 w w' e (Zb m n x):=by
 refine Z1 (Z5 (J:=[.i m.kind,.i m.code,.i m.id,.s m.tok,.v v,.r (m.opts.map encO),.s m.pay,.i n,.i x]) (sxE_ok.joins _) Tryz.func16 Z5i rfl rfl (Rel.start2 (by simp[Ent.holds,Ent.wr,hv,X.ev])) rfl rfl ?_) rfl;simp only[QQ,Nat.reduceAdd,qy3,qy4,Zc,Zd,Z9];intro b1 b2;refine⟨[.i (chk m)],rfl,λ_ w' hr=>Z17 w' m v (hr.at_ 2 rfl) hb,?_⟩;simp only[QQ,Nat.reduceAdd];refine⟨λvs=>∃y:Int,vs=[.i y]/\y=(if chk m=0 then(if 0<=x/\x<=16777215 then 0 else 3)else chk m),⟨λh=>⟨3,rfl,by rw[if_pos h.1,if_neg (by omega)]⟩,λh=>⟨_,rfl,?_⟩⟩,?_⟩
 ·by_cases h1:chk m=0
  ·rw[if_pos h1,if_pos (by omega),h1]
  ·rw[if_neg h1]
 rintro _ - ⟨y,rfl,hy⟩;simp only[QQ,Nat.reduceAdd];refine⟨λh w' hr=>?_,λh b3 b4=>?_⟩
 ·have e:Zb m n x=(mNil,y):=by
   rw[Zb];by_cases h1:chk m=0
   ·rw[if_pos h1]at hy⊢;by_cases h2:0<=x/\x<=16777215
    ·rw[if_pos h2]at hy;exact absurd hy h
    ·rw[if_neg h2]at hy⊢;rw[hy]
   ·rw[if_neg h1]at hy⊢;rw[hy]
  rw[e];exact Z4b hr.mod
 have h:=qy9.1 h;rw[h]at hy;have h1:chk m=0:=Classical.byContradiction λh1=>by rw[if_neg h1]at hy;exact h1 hy.symm
 rw[if_pos h1]at hy;have h2:0<=x/\x<=16777215:=Classical.byContradiction λh2=>by rw[if_neg h2]at hy;cases hy
 have e:Zb m n x=outR (Z6n m n [Z26 x]):=by rw[Zb,if_pos h1,if_pos h2]
 rw[e];have hm12:=(Zas.1 h1).2.2.1.2.1;refine⟨[.s (Z26 x)],rfl,λ_ w' hr=>Znb w' x h2,λu w1 hr=>?_⟩;have hu:=(hr.at_ 0 rfl).reads;refine(Zni w1 m v u n [Z26 x] (hr.at_ 5 rfl) hu (by omega) (by simp)).mono ?_;rintro e w2 ⟨v',rfl,r1,f1,m1⟩;have f0:=f1;replace f1:Z3p w1.heap.size v' (Z5k m.opts n [Z26 x]):=λk hk=>f1 k hk.2;refine⟨[.i m.kind,.i m.code,.i m.id,.s m.tok,.v v',.r ((Z5k m.opts n [Z26 x]).map encO),.s m.pay,.a (optO v' (Z5k m.opts n [Z26 x]))],rfl,rfl,m1,qy5 _,qy2.2 ⟨⟨r1.reads,λk hk=>.inl (f1 k hk)⟩,qy2.2 ⟨⟨Zde r1,λk hk=>.inl (f0 k (Zdf hk))⟩,qy5 _⟩⟩,Zp (by simp[Ent.wr]),?_⟩;have hsz:=hr.mod.size;clear hr r1 m1 hu;simp only[QQ,Nat.reduceAdd];intro b5 b6;refine⟨[.i (chk (Z6n m n [Z26 x]))],rfl,λ_ w' hr=>Z17 w' (Z6n m n [Z26 x]) v' (hr.at_ 2 rfl) (Z9m hb (by simp) hm12),?_⟩;simp only[QQ,Nat.reduceAdd];refine⟨λh3 w' hr=>?_,λh3 w' hr=>?_⟩
 ·rw[outR,if_neg h3];exact Z4b hr.mod
 ·rw[outR,if_pos (qy9.1 h3)];exact⟨v',rfl,Zaw (hr.at_ 3 rfl),λk hk=>Nat.le_trans hsz (f0 k hk),hr.mod⟩
theorem Zgk(w:World)(m:Msg)(v:Value)(t:List UInt8)(hv:Z12 w v m.opts)(hb:bdM m)(ht:t.length<4294967281) : Calls Tryz.prog 15 #[mV m (sc1 v),.string ⟨t.toArray⟩] w λe w'=>Zq3 w w' e (Z1b m t):=by
 refine Z1 (Z5 (J:=[.i m.kind,.i m.code,.i m.id,.s m.tok,.v v,.r (m.opts.map encO),.s m.pay,.s t]) (sxE_ok.joins _) Tryz.func15 Z5h rfl rfl (Rel.start2 (by simp[Ent.holds,Ent.wr,hv,X.ev])) rfl rfl ?_) rfl;simp only[QQ,Nat.reduceAdd,qy3,qy4,Zc,Zd,Z9];intro b1 b2;refine⟨[.i (chk m)],rfl,λ_ w' hr=>Z17 w' m v ((by first|exact hr.at_ 0 rfl|exact hr.at_ 1 rfl|exact hr.at_ 2 rfl|exact hr.at_ 3 rfl|exact hr.at_ 4 rfl|exact hr.at_ 5 rfl|exact hr.at_ 6 rfl|exact hr.at_ 7 rfl|exact hr.at_ 8 rfl|exact hr.at_ 9 rfl|exact hr.at_ 10 rfl|exact hr.at_ 11 rfl)) hb,?_⟩;simp only[QQ,Nat.reduceAdd];refine⟨λvs=>∃y:Int,vs=[.i y]/\y=(if chk m=0 then chkT t false else chk m),⟨λh=>?_,λh=>⟨_,rfl,by rw[if_neg h]⟩⟩,?_⟩
 ·refine⟨[.i (chkT t false)],rfl,λ_ w' _=>Zhv w' t ht,?_⟩;simp only[QQ,Nat.reduceAdd];exact⟨_,rfl,by rw[if_pos h]⟩
 rintro _ - ⟨y,rfl,hy⟩;simp only[QQ,Nat.reduceAdd];refine⟨λh w' hr=>?_,λh=>?_⟩
 ·have e:Z1b m t=(mNil,y):=by
   rw[Z1b];by_cases h1:chk m=0
   ·rw[if_pos h1]at hy⊢;rw[if_neg (by rw[<- hy];exact h),hy]
   ·rw[if_neg h1]at hy⊢;rw[hy]
  rw[e];exact Z4b hr.mod
 have h:=qy9.1 h;rw[h]at hy;have h1:chk m=0:=Classical.byContradiction λh1=>by rw[if_neg h1]at hy;exact h1 hy.symm
 rw[if_pos h1]at hy;have e:Z1b m t=outR (Z6n m 11 (lev t)):=by rw[Z1b,if_pos h1,if_pos hy.symm]
 rw[e];have hm12:=(Zas.1 h1).2.2.1.2.1;have hl6:=(Zn1.1 hy.symm).2.1.2;refine⟨?_,?_⟩<;>(intro w0 hr0;have hsz0:=hr0.mod.size;refine(Z9d w0 t ht).mono ?_;rintro e w1 ⟨u,rfl,r1,f1,m1⟩;refine⟨[.v u,.r ((lev t).map Z1s)],rfl,rfl,m1,qy5 _,qy2.2 ⟨⟨r1,λk hk=>.inl (f1 k hk)⟩,qy5 _⟩,Z6,?_⟩;clear hr0 r1 f1 m1;simp only[QQ,Nat.reduceAdd];intro w1 hr;have hsz1:=hr.mod.size;refine(Zni w1 m v u 11 (lev t) ((by first|exact hr.at_ 0 rfl|exact hr.at_ 1 rfl|exact hr.at_ 2 rfl|exact hr.at_ 3 rfl|exact hr.at_ 4 rfl|exact hr.at_ 5 rfl|exact hr.at_ 6 rfl|exact hr.at_ 7 rfl|exact hr.at_ 8 rfl|exact hr.at_ 9 rfl|exact hr.at_ 10 rfl|exact hr.at_ 11 rfl)) ((by first|exact hr.at_ 0 rfl|exact hr.at_ 1 rfl|exact hr.at_ 2 rfl|exact hr.at_ 3 rfl|exact hr.at_ 4 rfl|exact hr.at_ 5 rfl|exact hr.at_ 6 rfl|exact hr.at_ 7 rfl|exact hr.at_ 8 rfl|exact hr.at_ 9 rfl|exact hr.at_ 10 rfl|exact hr.at_ 11 rfl)) (by omega) (by omega)).mono ?_;rintro e w2 ⟨v',rfl,r1,f1,m1⟩;have f0:=f1;replace f1:Z3p w1.heap.size v' (Z5k m.opts 11 (lev t)):=λk hk=>f1 k hk.2;refine⟨[.i m.kind,.i m.code,.i m.id,.s m.tok,.v v',.r ((Z5k m.opts 11 (lev t)).map encO),.s m.pay,.a (optO v' (Z5k m.opts 11 (lev t)))],rfl,rfl,m1,qy5 _,qy2.2 ⟨⟨r1.reads,λk hk=>.inl (f1 k hk)⟩,qy2.2 ⟨⟨Zde r1,λk hk=>.inl (f0 k (Zdf hk))⟩,qy5 _⟩⟩,Zp (by simp[Ent.wr]),?_⟩;clear hr r1 m1;simp only[QQ,Nat.reduceAdd];intro b5 b6;refine⟨[.i (chk (Z6n m 11 (lev t)))],rfl,λ_ w' hr=>Z17 w' (Z6n m 11 (lev t)) v' ((by first|exact hr.at_ 0 rfl|exact hr.at_ 1 rfl|exact hr.at_ 2 rfl|exact hr.at_ 3 rfl|exact hr.at_ 4 rfl|exact hr.at_ 5 rfl|exact hr.at_ 6 rfl|exact hr.at_ 7 rfl|exact hr.at_ 8 rfl|exact hr.at_ 9 rfl|exact hr.at_ 10 rfl|exact hr.at_ 11 rfl)) (Z9m hb (by omega) hm12),?_⟩;simp only[QQ,Nat.reduceAdd];refine⟨λh3 w' hr=>?_,λh3 w' hr=>?_⟩;(· rw[outR,if_neg h3];exact Z4b hr.mod);(· rw[outR,if_pos (qy9.1 h3)];exact⟨v',rfl,Zaw ((by first|exact hr.at_ 1 rfl|exact hr.at_ 2 rfl|exact hr.at_ 3 rfl|exact hr.at_ 4 rfl|exact hr.at_ 5 rfl|exact hr.at_ 6 rfl)),λk hk=>Nat.le_trans hsz1 (f0 k hk),hr.mod⟩))
theorem Zf6(w:World)(m:Msg)(v:Value)(b:Bk)(hv:Z12 w v m.opts)(hb:bdM m) : Calls Tryz.prog 17 #[mV m (sc1 v),bV b] w λe w'=>Zq3 w w' e (Ze m b):=by
 refine Z1 (Z5 (J:=[.i m.kind,.i m.code,.i m.id,.s m.tok,.v v,.r (m.opts.map encO),.s m.pay,.i b.1,.b b.2.1,.i b.2.2]) (sxE_ok.joins _) Tryz.func17 Z58 rfl rfl (Rel.start2 (by simp[Ent.holds,Ent.wr,hv,X.ev])) rfl rfl ?_) rfl;simp only[QQ,Nat.reduceAdd,qy3,qy4,Zc,Zd,Z9];intro b1 b2 b3;refine⟨[.i (chk m)],rfl,λ_ w' hr=>Z17 w' m v ((by first|exact hr.at_ 0 rfl|exact hr.at_ 1 rfl|exact hr.at_ 2 rfl|exact hr.at_ 3 rfl|exact hr.at_ 4 rfl|exact hr.at_ 5 rfl|exact hr.at_ 6 rfl|exact hr.at_ 7 rfl|exact hr.at_ 8 rfl|exact hr.at_ 9 rfl|exact hr.at_ 10 rfl|exact hr.at_ 11 rfl)) hb,?_⟩;simp only[QQ,Nat.reduceAdd];refine⟨λh=>?_,λh w' hr=>?_⟩
 ·refine⟨[.i (blkE b)],rfl,λ_ w' hr=>Zgi w' b,?_⟩;simp only[QQ,Nat.reduceAdd];refine⟨λh1 w' hr=>?_,λh1=>?_⟩
  ·rw[Ze,if_pos h,if_neg h1];exact Z4b hr.mod
  have h1:=qy9.1 h1;have hbits:=Zng b h1;refine⟨λvs=>vs=[.i (blkN b)],⟨λh2=>?_,λh2=>?_⟩,?_⟩
  ·rw[if_pos h2]at hbits;rw[<- hbits]
  ·rw[if_neg h2]at hbits;rw[<- hbits]
  rintro _ - rfl;simp only[QQ,Nat.reduceAdd];intro w1 hr;have hsz1:=hr.mod.size;refine(Zaz w1 m v 23 (blkN b) ((by first|exact hr.at_ 0 rfl|exact hr.at_ 1 rfl|exact hr.at_ 2 rfl|exact hr.at_ 3 rfl|exact hr.at_ 4 rfl|exact hr.at_ 5 rfl|exact hr.at_ 6 rfl|exact hr.at_ 7 rfl|exact hr.at_ 8 rfl|exact hr.at_ 9 rfl|exact hr.at_ 10 rfl|exact hr.at_ 11 rfl)) hb).mono ?_;rintro e w2 ⟨v',rfl,r1,f1,m1⟩;have f0:=f1;replace f1:Z3p w1.heap.size v' (Zb m 23 (blkN b)).1.opts:=λk hk=>f1 k hk.2;refine⟨mEVO (Zb m 23 (blkN b)) v',rfl,rfl,m1,qy5 _,qy2.2 ⟨⟨r1.reads,λk hk=>.inl (f1 k hk)⟩,qy2.2 ⟨⟨Zde r1,λk hk=>.inl (f0 k (Zdf hk))⟩,qy5 _⟩⟩,Zp (by simp[Ent.wr]),?_⟩;clear hr r1 m1;simp only[QQ,Nat.reduceAdd,mEVO];intro w3 hr;rw[Ze,if_pos h,if_pos h1];exact⟨v',rfl,Zaw (hr.at_ 1 rfl),λk hk=>Nat.le_trans hsz1 (f0 k hk),hr.mod⟩
 ·rw[Ze,if_neg h];exact Z4b hr.mod
theorem Zf7(w:World)(s:List UInt8)(hs:s.length<1099511627776):Calls Tryz.prog 70 #[.string ⟨s.toArray⟩] w λe w'=>e=.returned (.bool (cliB s))/\Mod [] w w':=by refine Z1 (Z4 (J:=[.s s]) sxE_ok Tryz.func70 Z3x rfl rfl rfl ?_) rfl;simp only[QQ,Nat.reduceAdd];refine⟨[.b (Z1t s)],rfl,λ_ w' _=>Zee w' s hs,?_⟩;simp only[QQ,Nat.reduceAdd];exact λw' hr=>⟨by simp[cliB],hr.mod⟩
theorem Zio(w:World)(b:Bool)(n:Int):Calls Tryz.prog 68 #[.bool b,.int .i64 n] w λe w'=>e=.returned (.int .i64 (bit b n))/\Mod [] w w':=by refine Z1 (Z4 (J:=[.b b,.i n]) sxE_ok Tryz.func68 Z5d rfl rfl rfl ?_) rfl;simp only[QQ,Nat.reduceAdd];exact⟨λh w' hr=>⟨by rw[bit,if_pos h],hr.mod⟩,λh w' hr=>⟨by rw[bit,if_neg h],hr.mod⟩⟩
def Zf8(p:Pkt):Bool :=
  !decide ((p.kind≠1/\(p.client≠[]\/p.clean=true\/p.keep≠0))\/(p.kind≠2/\(p.session=true\/p.code≠0))\/(p.kind≠3/\(p.dup=true\/p.retain=true\/p.qos≠0\/p.topic≠[]\/p.payload≠[])) \/
    (¬(3<=p.kind/\p.kind<=4)/\¬(8<=p.kind/\p.kind<=11)/\p.id≠0)\/(p.kind≠8/\p.kind≠10/\p.asks≠[])\/(p.kind≠9/\p.codes≠[]))
theorem Znj(p:Pkt):Zf8 p=true↔Z65 (Z15 p)=true:=by rw[Z7c,Z1a];unfold Zf8;simp only[Bool.not_eq_true',decide_eq_false_iff_not,not_or,not_and,qy9,Bool.not_eq_true];grind
def Z8j(p:Pkt):Int:=if p.kind=1 then Zba p else if p.kind=2 then Z2p p else if p.kind=3 then pubE p else 0
theorem Zq4(p:Pkt):chkP p=if Z1h p.kind=true then(if Z65 (Z15 p)=true then(if Z8j p=0 then(if idB p=true/\¬(1<=p.id/\p.id<=65535)then 3 else
    (if(p.kind=8\/p.kind=10)/\Zk p.asks.length≠0 then Zk p.asks.length else if Z2a p.kind p.asks≠0 then Z2a p.kind p.asks else if p.kind=9/\Zk p.codes.length≠0 then Zk p.codes.length else if p.codes.any Z4s=true then 3 else 0))else Z8j p)else 1)else 7:=by
  unfold chkP;split;rotate_left
  . rfl
  split;rotate_left
  . rfl
  rename_i hk he;have hb:=(Z1a p).1 ((Z7c p).1 he);obtain⟨b1,b2,b3,b4,b5,b6⟩:=hb;have n1:p.kind=1\/p.kind=2->idB p=false:=λh=>by unfold idB;rcases h with h|h<;>simp[h]
  have z1:¬(p.kind=8\/p.kind=10)->p.asks=[]:=λh=>b5 (by omega);have z2:p.kind≠9->p.codes=[]:=λh=>b6 h;by_cases k1:p.kind=1
  . rw[if_neg (by omega),Z1p,if_pos k1,Z8j,if_pos k1,n1 (.inl k1),z1 (by omega),z2 (by omega)];simp[Z2a,k1]
  by_cases k2:p.kind=2
  . rw[if_neg (by omega),Z1p,if_neg k1,if_pos k2,Z8j,if_neg k1,if_pos k2,n1 (.inr k2),z1 (by omega),z2 (by omega)];simp[Z2a,k2]
  by_cases k3:p.kind=3
  . rw[Z1p,if_neg k1,if_neg k2,if_pos k3,Z8j,if_neg k1,if_neg k2,if_pos k3,z1 (by omega),z2 (by omega)];by_cases h0:pubE p=0
    . rw[if_neg (by simp[h0]),if_pos h0,h0];simp[Z2a,k3]
    . rw[if_pos ⟨k3,h0⟩,if_neg h0]
  rw[if_neg (by omega),Z8j,if_neg k1,if_neg k2,if_neg k3,if_pos rfl,Z1p,if_neg k1,if_neg k2,if_neg k3];split
  . rfl
  by_cases k8:p.kind=8\/p.kind=10
  . rw[if_pos k8,z2 (by omega),Zeg];by_cases h0:Zk p.asks.length=0
    . rw[if_pos h0,if_neg (show ¬((p.kind=8\/p.kind=10)/\Zk p.asks.length≠0) from λh=>h.2 h0)];by_cases h1:Z2a p.kind p.asks=0
      . rw[if_neg (show ¬Z2a p.kind p.asks≠0 from λh=>h h1),h1,if_neg (show ¬(p.kind=9/\_) from λh=>by omega)];rfl
      . rw[if_pos h1]
    . rw[if_neg h0,if_pos ⟨k8,h0⟩]
  . have e0:Z2a p.kind []=0:=rfl;rw[if_neg k8,if_neg (show ¬((p.kind=8\/p.kind=10)/\Zk p.asks.length≠0) from λh=>k8 h.1),z1 k8,e0,if_neg (show ¬(0:Int)≠0 from λh=>h rfl)];by_cases k9:p.kind=9
    . rw[if_pos k9,Zaf];by_cases h0:Zk p.codes.length=0
      . rw[if_pos h0,if_neg (show ¬(p.kind=9/\Zk p.codes.length≠0) from λh=>h.2 h0)]
      . rw[if_neg h0,if_pos ⟨k9,h0⟩]
    . rw[if_neg k9,if_neg (show ¬(p.kind=9/\Zk p.codes.length≠0) from λh=>k9 h.1),z2 k9];rfl
section
variable (w:World) (p:Pkt) (u v:Value) (hu:Z38 w u p.asks) (hv:Z2d w v p.codes) (hs:SmallP p)
include hu hv
theorem Zt2:Calls Tryz.prog 72 #[pV p u v] w λe w'=>e=.returned (.bool (idB p))/\Mod [] w w':=by
 refine Z1 (Z5 (J:=[.i p.kind,.b p.dup,.b p.retain,.b p.clean,.b p.session,.i p.qos,.i p.id,.i p.keep,.i p.code,.s p.client,.s p.topic,.s p.payload,.v u,.r (p.asks.map encA),.v v,.r (p.codes.map Za)]) sxE_ok Tryz.func72 Z54 rfl rfl (Rel.start2 (by simp[Ent.holds,Ent.wr,hu,hv,X.ev])) rfl rfl ?_) rfl;simp only[QQ,Nat.reduceAdd];intro b;refine⟨λh w' hr=>⟨?_,hr.mod⟩,λh w' hr=>⟨?_,hr.mod⟩⟩
 ·simp only[Ending.returned.injEq,Value.bool.injEq,idB];symm;rw[decide_eq_true_eq];omega
 ·simp only[Ending.returned.injEq,Value.bool.injEq,idB];rw[<- Bool.decide_and];exact decide_eq_decide.2 (by omega)
include hs
theorem Zdi:Calls Tryz.prog 36 #[pV p u v] w λe w'=>e=.returned (.int .i64 (chkP p))/\Mod [] w w':=by
  refine Z1 (Z5 (J:=[.i p.kind,.b p.dup,.b p.retain,.b p.clean,.b p.session,.i p.qos,.i p.id,.i p.keep,.i p.code,.s p.client,.s p.topic,.s p.payload,.v u,.r (p.asks.map encA),.v v,.r (p.codes.map Za)]) (sxE_ok.joins _) Tryz.func36 Z2m rfl rfl (Rel.start2 (by simp[Ent.holds,Ent.wr,hu,hv,X.ev])) rfl rfl ?_) rfl;have h1:=hs.client;have h2:=hs.topic;have h3:=hs.payload;have h4:=hs.asks;have h5:=hs.codes;have hf:=hs.at_;simp only[QQ,Nat.reduceAdd,qy3];intro b;refine⟨λvs=>(vs.getD 2 (.i 0)).toB=!Z1h p.kind,⟨λh=>?_,λh=>?_⟩,?_⟩
  . have e:Z1h p.kind=(decide (8<=p.kind) && decide (p.kind<=14)):=by unfold Z1h;rw[<- Bool.decide_and];exact decide_eq_decide.2 (by omega)
    rw[e];rfl
  . have e:Z1h p.kind=true:=by unfold Z1h;rw[decide_eq_true_eq];omega
    rw[e];rfl
  intro vs hl hI
  match vs,hl,hI with
  | [x0,x1,x2],_,hI =>
  simp only[QQ,Nat.reduceAdd,qy3]at hI⊢;rw[Zq4,hI];refine⟨λh w' hr=>⟨by rw[if_neg (by simpa using h)],hr.mod⟩,λh=>?_⟩;have hk:Z1h p.kind=true:=by simpa using h
  rw[if_pos hk];clear h;have l0:∀l:List Ak,(0<(l.length:Int))↔l≠[]:=λl=>by rw[<- List.length_pos_iff];omega
  have l1:∀l:List Int,(0<(l.length:Int))↔l≠[]:=λl=>by rw[<- List.length_pos_iff];omega
  have fR:=Znj p;have bad:Zf8 p=false->(if Z65 (Z15 p)=true then(if Z8j p=0 then(if idB p=true/\¬(1<=p.id/\p.id<=65535)then(3:Int)else
    (if(p.kind=8\/p.kind=10)/\Zk p.asks.length≠0 then Zk p.asks.length else if Z2a p.kind p.asks≠0 then Z2a p.kind p.asks else if p.kind=9/\Zk p.codes.length≠0 then Zk p.codes.length else if p.codes.any Z4s=true then 3 else 0))else Z8j p)else 1)=1:=λh=>by
    rw[if_neg (λhh=>by rw[fR.2 hh]at h;cases h)]
  refine⟨λh w' hr=>⟨?_,hr.mod⟩,λg1=>⟨λh w' hr=>⟨?_,hr.mod⟩,λg2=>?_⟩⟩
  . rw[bad];simp only[Zf8,Bool.not_eq_false',decide_eq_true_eq];grind
  . rw[bad];simp only[Zf8,Bool.not_eq_false',decide_eq_true_eq];grind
  refine⟨λvs=>(vs.getD 5 (.i 0)).toB=!Zf8 p,⟨λh=>?_,λh=>?_⟩,?_⟩
  . simp only[List.getD_cons_succ,List.getD_cons_zero,V.toB_b,Zf8,Bool.not_not];rw[Bool.eq_iff_iff];simp only[Bool.or_eq_true,Bool.and_eq_true,Bool.not_eq_true',decide_eq_true_eq,decide_eq_false_iff_not,Bool.and_eq_false_iff,l0,l1];grind
  . simp only[List.getD_cons_succ,List.getD_cons_zero,V.toB_b,Zf8,Bool.not_not];rw[Bool.eq_iff_iff];simp only[Bool.or_eq_true,Bool.and_eq_true,Bool.not_eq_true',decide_eq_true_eq,decide_eq_false_iff_not,Bool.and_eq_false_iff,l0,l1];grind
  intro vs hl hI
  match vs,hl,hI with
  | [y0,y1,y2,y3,y4,y5],_,hI =>
  simp only[QQ,Nat.reduceAdd,qy3]at hI⊢;rw[hI];refine⟨λh w' hr=>⟨by rw[bad (by simpa using h)],hr.mod⟩,λh=>?_⟩;have he:Z65 (Z15 p)=true:=fR.1 (by simpa using h);rw[if_pos he];clear h g1 g2 bad;refine⟨λvs=>Z8j p=0,⟨λk1=>?_,λk1=>⟨λk2=>?_,λk2=>⟨λk3=>?_,λk3=>?_⟩⟩⟩,?_⟩
  . rw[Z8j,if_pos k1,Zba];refine⟨λh w' hr=>⟨by rw[if_pos h];rfl,hr.mod⟩,λh=>?_⟩;rw[if_neg h];refine⟨[.b (cliB p.client)],rfl,λ_ w' _=>Zf7 w' _ (by omega),?_⟩;simp only[QQ,Nat.reduceAdd];refine⟨λh w' hr=>⟨by rw[if_neg h];rfl,hr.mod⟩,λh=>?_⟩;rw[if_pos (qy9.1 h)];exact⟨λh w' hr=>⟨by rw[if_neg h];rfl,hr.mod⟩,λh=>by rw[if_pos (qy9.1 h)]⟩
  . rw[Z8j,if_neg k1,if_pos k2,Z2p];refine⟨λh w' hr=>⟨by rw[if_neg h];rfl,hr.mod⟩,λh=>?_⟩;have h0:=qy9.1 h;rw[if_pos h0];exact⟨λh w' hr=>⟨by rw[if_pos (show p.session=true/\p.code≠0 from⟨h.1,by omega⟩)];rfl,hr.mod⟩,λh=>by rw[if_neg (show ¬(p.session=true/\p.code≠0) from λhh=>h ⟨hh.1,by omega⟩)]⟩
  . rw[Z8j,if_neg k1,if_neg k2,if_pos k3,pubE];refine⟨[.i (chkT p.topic false)],rfl,λ_ w' _=>Z8s w' _ _ (by omega),?_⟩;simp only[QQ,Nat.reduceAdd];refine⟨λh w' hr=>⟨by rw[if_neg h,if_neg h],hr.mod⟩,λh=>?_⟩;rw[if_pos (qy9.1 h)];refine⟨λh w' hr=>⟨by rw[if_pos h];rfl,hr.mod⟩,λh=>?_⟩;rw[if_neg h];refine⟨λh w' hr=>⟨by rw[if_neg h];rfl,hr.mod⟩,λh=>?_⟩;rw[if_pos (qy9.1 h)];exact⟨λh w' hr=>⟨by rw[if_pos h];rfl,hr.mod⟩,λh=>by rw[if_neg h]⟩
  . rw[Z8j,if_neg k1,if_neg k2,if_neg k3]
  intro vs hl hI
  match vs,hl,hI with
  | [z0],_,hI =>
  simp only[QQ,Nat.reduceAdd,qy3];rw[if_pos hI];refine⟨λvs=>(vs.getD 2 (.i 0)).toB=(idB p && !decide (1<=p.id/\p.id<=65535)),?_,?_⟩
  . refine⟨[.b (idB p)],rfl,λ_ w' hr=>Zt2 w' p u v (hr.at_ 1 rfl) (hr.at_ 2 rfl),?_⟩;simp only[QQ,Nat.reduceAdd];exact⟨λh=>by simp[h],λh=>by simp[h]⟩
  intro vs hl hI
  match vs,hl,hI with
  | [t0,t1,t2],_,hI =>
  simp only[QQ,Nat.reduceAdd,qy3]at hI⊢;rw[hI];refine⟨λh w' hr=>⟨by rw[if_pos (show idB p=true/\¬(1<=p.id/\p.id<=65535) by simpa only[Bool.and_eq_true,Bool.not_eq_true',decide_eq_false_iff_not]using h)],hr.mod⟩,λh=>?_⟩;rw[if_neg (show ¬(idB p=true/\¬(1<=p.id/\p.id<=65535)) by simpa only[Bool.and_eq_true,Bool.not_eq_true',decide_eq_false_iff_not]using h)];clear h;refine⟨λvs=>¬((p.kind=8\/p.kind=10)/\Zk p.asks.length≠0),⟨λh8=>⟨λh w' hr=>⟨?_,hr.mod⟩,λh=>⟨λh2 w' hr=>⟨?_,hr.mod⟩,λh2=>?_⟩⟩,λh8 hh=>h8 hh.1⟩,?_⟩
  . have e:Zk p.asks.length=1:=by rw[Zk,if_pos (by omega)]
    rw[if_pos ⟨h8,by rw[e];decide⟩,e]
  . have e:Zk p.asks.length=2:=by rw[Zk,if_neg (by omega),if_pos h2]
    rw[if_pos ⟨h8,by rw[e];decide⟩,e]
  . exact λhh=>hh.2 (by rw[Zk,if_neg (by omega),if_neg h2])
  intro vs hl hI
  match vs,hl,hI with
  | [q0],_,hI =>
  simp only[QQ,Nat.reduceAdd,qy3];rw[if_neg hI];refine⟨λvs=>∃(i:Nat) (x:V),vs=[x,.i i]/\i<=p.asks.length/\Z2a p.kind (p.asks.drop i)=Z2a p.kind p.asks,λvs=>p.asks.length - (vs.getD 1 (.i 0)).toI.toNat,⟨0,_,rfl,by omega,rfl⟩,?_⟩;rintro _ - ⟨i,x,rfl,hi,hg⟩;simp only[QQ,Nat.reduceAdd,qy3,qy4,gA0,gA1];refine⟨λh2=>⟨by omega,?_⟩,λh2=>?_⟩
  . rw[Zs9 _ _ (by omega),Z2a]at hg;have hfi:=hf i;have hask:p.kind=8\/p.kind=10:=Classical.byContradiction λhn=>by
      have:=((Z1a p).1 ((Z7c p).1 he)).2.2.2.2.1 (by omega);rw[this]at h2;simp at h2;omega
    generalize p.asks.getD i aD=a at hg hfi⊢
    refine⟨[.i (chkT a.1 true)],rfl,λ_ w' _=>Z8s w' _ _ (by omega),?_⟩;simp only[QQ,Nat.reduceAdd,gA1];have key:∀e:Int,e≠0->(if p.kind=8 then askE a else Z3n a)=e->(if Z2a p.kind p.asks≠0 then Z2a p.kind p.asks else if p.kind=9/\Zk p.codes.length≠0 then Zk p.codes.length else if p.codes.any Z4s=true then 3 else 0)=e:=λe h0 hE=>by
      have:Z2a p.kind p.asks=e:=by rw[<- hg,if_neg (by rw[hE];exact h0),hE]
      rw[if_pos (show Z2a p.kind p.asks≠0 by rw[this];exact h0),this]
    refine⟨λh w' hr=>⟨?_,hr.mod⟩,λh=>⟨λh3 w' hr=>⟨?_,hr.mod⟩,λh3=>⟨λh4 w' hr=>⟨?_,hr.mod⟩,λh4=>⟨by omega,by omega,⟨i+1,x,rfl,by omega,?_⟩,by omega⟩⟩⟩⟩
    . rw[key (chkT a.1 true) h (by split<;>simp[askE,Z3n,h])]
    . rw[key 1 (by decide) (by rw[if_neg (by omega),Z3n,if_pos (qy9.1 h),if_neg h3.2])]
    . rw[key 3 (by decide) (by rw[if_pos (by omega),askE,if_pos (qy9.1 h),if_neg h4])]
    . rw[<- hg,if_pos];split
      . rw[askE,if_pos (qy9.1 h),if_pos (qy9.1 h4)]
      . rw[Z3n,if_pos (qy9.1 h),if_pos (by omega)]
  . have:i=p.asks.length:=by omega
    subst this;rw[List.drop_length]at hg;have hg0:Z2a p.kind p.asks=0:=by rw[<- hg];rfl
    rw[if_neg (show ¬Z2a p.kind p.asks≠0 from λh=>h hg0)];refine⟨λvs=>¬(p.kind=9/\Zk p.codes.length≠0),⟨λh9=>⟨λh w' hr=>⟨?_,hr.mod⟩,λh=>⟨λh2 w' hr=>⟨?_,hr.mod⟩,λh2=>?_⟩⟩,λh9 hh=>h9 hh.1⟩,?_⟩
    . have e:Zk p.codes.length=1:=by rw[Zk,if_pos (by omega)]
      rw[if_pos (show p.kind=9/\Zk p.codes.length≠0 from⟨h9,by rw[e];decide⟩),e]
    . have e:Zk p.codes.length=2:=by rw[Zk,if_neg (by omega),if_pos h2]
      rw[if_pos (show p.kind=9/\Zk p.codes.length≠0 from⟨h9,by rw[e];decide⟩),e]
    . exact λhh=>hh.2 (by rw[Zk,if_neg (by omega),if_neg h2])
    intro vs hl hI
    match vs,hl,hI with
    | [r0],_,hI =>
    simp only[QQ,Nat.reduceAdd,qy3];rw[if_neg hI];refine⟨λvs=>∃(i:Nat) (x:V),vs=[x,.i i]/\i<=p.codes.length/\(p.codes.drop i).any Z4s=p.codes.any Z4s,λvs=>p.codes.length - (vs.getD 1 (.i 0)).toI.toNat,⟨0,_,rfl,by omega,rfl⟩,?_⟩;rintro _ - ⟨i,x,rfl,hi,hg⟩;simp only[QQ,Nat.reduceAdd,qy3,qy4,gI0];refine⟨λh2=>⟨by omega,λh3 w' hr=>⟨?_,hr.mod⟩,λh3=>⟨by omega,by omega,⟨i+1,x,rfl,by omega,?_⟩,by omega⟩⟩,λh2 w' hr=>⟨?_,hr.mod⟩⟩
    . rw[Zsa _ _ (by omega),List.any_cons]at hg;have e:Z4s (p.codes.getD i 0)=true:=by simp only[Z4s,decide_eq_true_eq];exact⟨h3.1.1,h3.1.2,h3.2⟩
      rw[<- hg,e];rfl
    . rw[Zsa _ _ (by omega),List.any_cons]at hg;have e:Z4s (p.codes.getD i 0)=false:=by
        simp only[Z4s,decide_eq_false_iff_not];exact λh4=>h3 ⟨⟨h4.1,h4.2.1⟩,h4.2.2⟩
      rw[<- hg,e];rfl
    . have:i=p.codes.length:=by omega
      subst this;rw[List.drop_length]at hg;rw[<- hg];rfl
end
end Go.Proofs.Y
namespace Go.Proofs.Y
open Go.Sx
section
variable {p:Pkt} (hb:Z15 p=pD_Q p.kind)
include hb
theorem Zf9(k:p.kind=8\/p.kind=10):Zu p=numB 2 p.id++(p.asks.map (Z10 p.kind)).flatten:=by
 obtain⟨b1,b2,b3,b4,b5,b6⟩:=(Z1a p).1 hb;have hi:idB p=true:=by simp only[idB,decide_eq_true_eq];omega
 rw[Zu,Z1y,if_neg (by omega),if_neg (by omega),if_neg (by omega),if_pos hi,(b3 (by omega)).2.2.2.2,b6 (by omega)];simp
theorem Zk5(k:p.kind=9):Zu p=numB 2 p.id++(p.codes.map (numB 1)).flatten:=by
 obtain⟨b1,b2,b3,b4,b5,b6⟩:=(Z1a p).1 hb;have hi:idB p=true:=by simp only[idB,decide_eq_true_eq];omega
 rw[Zu,Z1y,if_neg (by omega),if_neg (by omega),if_neg (by omega),if_pos hi,(b3 (by omega)).2.2.2.2,b5 (by omega)];simp
theorem Znk(k:p.kind=4\/p.kind=11):Zu p=numB 2 p.id:=by
 obtain⟨b1,b2,b3,b4,b5,b6⟩:=(Z1a p).1 hb;have hi:idB p=true:=by simp only[idB,decide_eq_true_eq];omega
 rw[Zu,Z1y,if_neg (by omega),if_neg (by omega),if_neg (by omega),if_pos hi,(b3 (by omega)).2.2.2.2,b5 (by omega),b6 (by omega)];simp
theorem Znl(k:¬(1<=p.kind/\p.kind<=4)/\¬(8<=p.kind/\p.kind<=11)):Zu p=[]:=by
 obtain⟨b1,b2,b3,b4,b5,b6⟩:=(Z1a p).1 hb;have hi:idB p=false:=by simp only[idB,decide_eq_false_iff_not];omega
 rw[Zu,Z1y,if_neg (by omega),if_neg (by omega),if_neg (by omega),hi,(b3 (by omega)).2.2.2.2,b5 (by omega),b6 (by omega)];simp
theorem Znm(k:p.kind=1):Zu p=txtB [77,81,84,84]++(numB 1 4++numB 1 (bit p.clean 2))++numB 2 p.keep++txtB p.client:=by
 obtain⟨b1,b2,b3,b4,b5,b6⟩:=(Z1a p).1 hb;have hi:idB p=false:=by simp only[idB,decide_eq_false_iff_not];omega
 rw[Zu,Z1y,if_pos k,hi,(b3 (by omega)).2.2.2.2,b5 (by omega),b6 (by omega)];simp
theorem Zq5(k:p.kind=2):Zu p=numB 1 (bit p.session 1)++numB 1 p.code:=by
 obtain⟨b1,b2,b3,b4,b5,b6⟩:=(Z1a p).1 hb;have hi:idB p=false:=by simp only[idB,decide_eq_false_iff_not];omega
 rw[Zu,Z1y,if_neg (by omega),if_pos k,hi,(b3 (by omega)).2.2.2.2,b5 (by omega),b6 (by omega)];simp
theorem Zq6(k:p.kind=3):Zu p=txtB p.topic++(if p.qos=1 then numB 2 p.id else[])++p.payload:=by
 obtain⟨b1,b2,b3,b4,b5,b6⟩:=(Z1a p).1 hb;have hi:(idB p=true)↔p.qos=1:=by simp only[idB,decide_eq_true_eq];omega
 rw[Zu,Z1y,if_neg (by omega),if_neg (by omega),if_pos k,b5 (by omega),b6 (by omega)];simp[hi]
end
theorem Zfa{k:Int}{l:List Ak}{i:Nat}(h:i<l.length):((l.take (i+1)).map (Z10 k)).flatten=((l.take i).map (Z10 k)).flatten++Z10 k (l.getD i aD):=by rw[List.take_add_one,qy1,qy7 h];simp only[Option.toList_some,Option.getD_some,List.map_append,List.map_cons,List.map_nil,List.flatten_append,List.flatten_cons,List.flatten_nil,List.append_nil]
theorem Z7m(k:Int)(l:List Ak)(i:Nat):((l.take i).map (Z10 k)).flatten.length<=totA k l:=by
 conv=>rhs;unfold totA;rw[<- List.take_append_drop i l,List.map_append,List.flatten_append,qy11]
 omega
section
variable (w:World) (p:Pkt) (u v:Value) (hu:Z38 w u p.asks) (hv:Z2d w v p.codes) (hB:ByteP p) (hb:Z15 p=pD_Q p.kind)
include hu hv hB hb
theorem Zbd:Calls Tryz.prog 35 #[pV p u v] w λe w'=>e=.returned (.string ⟨(Zi p).toArray⟩)/\Mod [] w w':=by
 refine Z1 (Z5 (J:=[.i p.kind,.b p.dup,.b p.retain,.b p.clean,.b p.session,.i p.qos,.i p.id,.i p.keep,.i p.code,.s p.client,.s p.topic,.s p.payload,.v u,.r (p.asks.map encA),.v v,.r (p.codes.map Za)]) (sxE_ok.joins _) Tryz.func35 Z2o rfl rfl (Rel.start2 (by simp[Ent.holds,Ent.wr,hu,hv,X.ev])) rfl rfl ?_) rfl;have hs:=hB.small;have h1:=hs.client;have h2:=hs.topic;have h3:=hs.payload;have h4:=hs.asks;have h5:=hs.codes;have hk:=hB.kind;have hq:=hB.qos;have hid:=hB.id;have hke:=hB.keep;have hco:=hB.code;have hbl:=hB.body;have b2:∀b:Bool,0<=bit b 2/\bit b 2<=2:=λb=>by unfold bit;split<;>omega
 have b1:∀b:Bool,0<=bit b 1/\bit b 1<=1:=λb=>by unfold bit;split<;>omega
 have b8:∀b:Bool,0<=bit b 8/\bit b 8<=8:=λb=>by unfold bit;split<;>omega
 simp only[QQ,Nat.reduceAdd,qy3];intro b0
 (repeat refine⟨by omega,?_⟩)
 refine⟨λvs=>vs=[.i (Zh p),.s (Zu p)],⟨λk1=>?_,λk1=>⟨λk2=>?_,λk2=>⟨λk3=>?_,λk3=>⟨λk4=>?_,λk4=>⟨λk11=>?_,λk11=>⟨λk8=>?_,λk8=>⟨λk10=>?_,λk10=>⟨λk9=>?_,λk9=>?_⟩⟩⟩⟩⟩⟩⟩⟩,?_⟩
 ·have hf:Zh p=16*p.kind:=by rw[Zh,if_neg (by omega),if_neg (by omega)];omega
  refine⟨[.s (txtB [77,81,84,84])],rfl,λ_ w' _=>Z7a w' _ (by decide),?_⟩;simp only[QQ,Nat.reduceAdd];refine⟨[.s (numB 1 4)],rfl,λ_ w' _=>Zs w' 4 1 (by omega) (by omega) (by omega),?_⟩;simp only[QQ,Nat.reduceAdd,Zn,Z8,qy11]
  (repeat refine⟨by omega,?_⟩)
  refine⟨[.i (bit p.clean 2)],rfl,λ_ w' _=>Zio w' _ _,?_⟩;simp only[QQ,Nat.reduceAdd,Zn,Z8,qy11];have:=b2 p.clean;refine⟨[.s (numB 1 (bit p.clean 2))],rfl,λ_ w' _=>Zs w' _ 1 (by omega) (by omega) (by omega),?_⟩;simp only[QQ,Nat.reduceAdd,Zn,Z8,qy11]
  (repeat refine⟨by omega,?_⟩)
  refine⟨[.s (numB 2 p.keep)],rfl,λ_ w' _=>Zs w' _ 2 (by omega) (by omega) (by omega),?_⟩;simp only[QQ,Nat.reduceAdd,Zn,Z8,qy11]
  (repeat refine⟨by omega,?_⟩)
  refine⟨[.s (txtB p.client)],rfl,λ_ w' _=>Z7a w' _ (by omega),?_⟩;simp only[QQ,Nat.reduceAdd,Zn,Z8,qy11];refine⟨by omega,?_⟩;rw[hf,Znm hb k1];simp
 ·have hf:Zh p=16*p.kind:=by rw[Zh,if_neg (by omega),if_neg (by omega)];omega
  have:=b1 p.session;refine⟨[.i (bit p.session 1)],rfl,λ_ w' _=>Zio w' _ _,?_⟩;simp only[QQ,Nat.reduceAdd];refine⟨[.s (numB 1 (bit p.session 1))],rfl,λ_ w' _=>Zs w' _ 1 (by omega) (by omega) (by omega),?_⟩;simp only[QQ,Nat.reduceAdd];refine⟨[.s (numB 1 p.code)],rfl,λ_ w' _=>Zs w' _ 1 (by omega) (by omega) (by omega),?_⟩;simp only[QQ,Nat.reduceAdd,Z8];refine⟨by omega,?_⟩;rw[hf,Zq5 hb k2]
 ·(repeat refine⟨by omega,?_⟩)
  have:=b8 p.dup;have:=b1 p.retain;refine⟨[.i (bit p.dup 8)],rfl,λ_ w' _=>Zio w' _ _,?_⟩;simp only[QQ,Nat.reduceAdd]
  (repeat refine⟨by omega,?_⟩)
  refine⟨[.i (bit p.retain 1)],rfl,λ_ w' _=>Zio w' _ _,?_⟩;simp only[QQ,Nat.reduceAdd]
  (repeat refine⟨by omega,?_⟩)
  refine⟨[.s (txtB p.topic)],rfl,λ_ w' _=>Z7a w' _ (by omega),?_⟩;simp only[QQ,Nat.reduceAdd,Zn,qy11];rw[Zq6 hb k3,Zh,if_pos k3];refine⟨λhq1=>?_,λhq1=>⟨by omega,?_⟩⟩
  ·refine⟨[.s (numB 2 p.id)],rfl,λ_ w' _=>Zs w' _ 2 (by omega) (by omega) (by omega),?_⟩;simp only[QQ,Nat.reduceAdd,Zn,Z8,qy11];refine⟨by omega,by omega,?_⟩;rw[if_pos hq1]
  ·rw[if_neg hq1,List.append_nil]
 ·have hf:Zh p=16*p.kind:=by rw[Zh,if_neg (by omega),if_neg (by omega)];omega
  refine⟨[.s (numB 2 p.id)],rfl,λ_ w' _=>Zs w' _ 2 (by omega) (by omega) (by omega),?_⟩;simp only[QQ,Nat.reduceAdd];rw[hf,Znk hb (.inl k4)]
 ·have hf:Zh p=16*p.kind:=by rw[Zh,if_neg (by omega),if_neg (by omega)];omega
  refine⟨[.s (numB 2 p.id)],rfl,λ_ w' _=>Zs w' _ 2 (by omega) (by omega) (by omega),?_⟩;simp only[QQ,Nat.reduceAdd];rw[hf,Znk hb (.inr k11)]
 ·have hf:Zh p=16*p.kind+2:=by rw[Zh,if_neg (by omega),if_pos (by omega)]
  have hbb:=Zf9 hb (.inl k8)
  (repeat refine⟨by omega,?_⟩)
  refine⟨[.s (numB 2 p.id)],rfl,λ_ w' _=>Zs w' _ 2 (by omega) (by omega) (by omega),?_⟩;simp only[QQ,Nat.reduceAdd];refine⟨λvs=>∃i:Nat,vs=[.s (numB 2 p.id++((p.asks.take i).map (Z10 p.kind)).flatten),.i i]/\i<=p.asks.length,λvs=>p.asks.length - (vs.getD 1 (.i 0)).toI.toNat,⟨0,by simp,by omega⟩,?_⟩;rintro _ - ⟨i,rfl,hi⟩;have hfi:=hs.at_ i;have hqi:=hB.ask i;have htl:=Z7m p.kind p.asks i;have hbb2:(Zu p).length=2+totA p.kind p.asks:=by rw[hbb,qy11,Z8]
  simp only[QQ,Nat.reduceAdd,qy3,qy4,gA0,gA1,qy11,Z8];refine⟨λh=>⟨by omega,?_⟩,λh=>?_⟩
  ·refine⟨[.s (txtB (p.asks.getD i aD).1)],rfl,λ_ w' _=>Z7a w' _ (by omega),?_⟩;simp only[QQ,Nat.reduceAdd,qy3,qy4,gA0,gA1,qy11,Z8,Zn];refine⟨by omega,?_⟩;refine⟨[.s (numB 1 (p.asks.getD i aD).2)],rfl,λ_ w' _=>Zs w' _ 1 (by omega) (by omega) (by omega),?_⟩;simp only[QQ,Nat.reduceAdd,qy3,qy4,qy11,Z8,Zn];refine⟨by omega,by omega,by omega,⟨i+1,?_,by omega⟩,by omega⟩;rw[Zfa (by omega),Z10,if_pos k8];simp
  ·have:i=p.asks.length:=by omega
   subst this;rw[hf,hbb,List.take_length]
 ·have hf:Zh p=16*p.kind+2:=by rw[Zh,if_neg (by omega),if_pos (by omega)]
  have hbb:=Zf9 hb (.inr k10)
  (repeat refine⟨by omega,?_⟩)
  refine⟨[.s (numB 2 p.id)],rfl,λ_ w' _=>Zs w' _ 2 (by omega) (by omega) (by omega),?_⟩;simp only[QQ,Nat.reduceAdd];refine⟨λvs=>∃i:Nat,vs=[.s (numB 2 p.id++((p.asks.take i).map (Z10 p.kind)).flatten),.i i]/\i<=p.asks.length,λvs=>p.asks.length - (vs.getD 1 (.i 0)).toI.toNat,⟨0,by simp,by omega⟩,?_⟩;rintro _ - ⟨i,rfl,hi⟩;have hfi:=hs.at_ i;have hqi:=hB.ask i;have htl:=Z7m p.kind p.asks i;have hbb2:(Zu p).length=2+totA p.kind p.asks:=by rw[hbb,qy11,Z8]
  simp only[QQ,Nat.reduceAdd,qy3,qy4,gA0,gA1,qy11,Z8];refine⟨λh=>⟨by omega,?_⟩,λh=>?_⟩
  ·refine⟨[.s (txtB (p.asks.getD i aD).1)],rfl,λ_ w' _=>Z7a w' _ (by omega),?_⟩;simp only[QQ,Nat.reduceAdd,qy3,qy4,gA0,gA1,qy11,Z8,Zn];refine⟨by omega,by omega,by omega,⟨i+1,?_,by omega⟩,by omega⟩;rw[Zfa (by omega),Z10,if_neg (by omega)];simp
  ·have:i=p.asks.length:=by omega
   subst this;rw[hf,hbb,List.take_length]
 ·have hf:Zh p=16*p.kind:=by rw[Zh,if_neg (by omega),if_neg (by omega)];omega
  have hbb:=Zk5 hb k9;refine⟨[.s (numB 2 p.id)],rfl,λ_ w' _=>Zs w' _ 2 (by omega) (by omega) (by omega),?_⟩;simp only[QQ,Nat.reduceAdd];refine⟨λvs=>∃i:Nat,vs=[.s (numB 2 p.id++((p.codes.take i).map (numB 1)).flatten),.i i]/\i<=p.codes.length,λvs=>p.codes.length - (vs.getD 1 (.i 0)).toI.toNat,⟨0,by simp,by omega⟩,?_⟩;rintro _ - ⟨i,rfl,hi⟩;have hll:=Zaj 1 (p.codes.take i);have hlt:(p.codes.take i).length<=p.codes.length:=by simp;omega
  simp only[QQ,Nat.reduceAdd,qy3,qy4,gI0,qy11,Z8];refine⟨λh=>⟨by omega,?_⟩,λh=>?_⟩
  ·have hci:0<=p.codes.getD i 0/\p.codes.getD i 0<=65535:=by
    rw[qy1,qy7 (by omega)];exact hB.codes _ (List.getElem_mem _)
   refine⟨[.s (numB 1 (p.codes.getD i 0))],rfl,λ_ w' _=>Zs w' _ 1 (by omega) (by omega) (by omega),?_⟩;simp only[QQ,Nat.reduceAdd,qy3,qy4,qy11,Z8];refine⟨by omega,by omega,by omega,⟨i+1,?_,by omega⟩,by omega⟩;rw[Zei 1 _ _ (by omega)];simp
  ·have:i=p.codes.length:=by omega
   subst this;rw[hf,hbb,List.take_length]
 ·have hf:Zh p=16*p.kind:=by rw[Zh,if_neg (by omega),if_neg (by omega)];omega
  rw[hf,Znl hb (by omega)]
 rintro _ - rfl;have hfb:=Zej hk hq;simp only[QQ,Nat.reduceAdd];refine⟨[.s (numB 1 (Zh p))],rfl,λ_ w' _=>Zs w' _ 1 (by omega) (by omega) (by omega),?_⟩;simp only[QQ,Nat.reduceAdd];refine⟨[.s (lngB 3 (Zu p).length)],rfl,λ_ w' _=>Zp6 3 w' _ (by omega) (by show _<268435456;exact hbl),?_⟩;have hll:(lngB 3 (Zu p).length).length<=4:=Z9c 3 _;simp only[QQ,Nat.reduceAdd,qy11,Z8];exact⟨by omega,by omega,λw' hr=>⟨by rw[Zi],hr.mod⟩⟩
end
end Go.Proofs.Y
namespace Go.Proofs.Y
open Go.Sx
abbrev tkAt(w:World)(b:Nat)(s:List UInt8)(a:Nat)(sh:Bool):Prop:=w.heap[b]?=some (.cells (rdV s a sh).toArray 65 (0,0))
section
variable (w:World) (b:Nat) (s:List UInt8) (a' a:Nat) (sh:Bool) (h:tkAt w b s a' sh) (ha':a'<=s.length) (ha:a<=s.length) (hs:s.length<1000000000) (hsim:sh=true\/a'=a)
include h
theorem Zup{k:V}:Rel ⟨[b],w⟩ [.n b,.s s,.i a',.b sh,k] [.cells 0 65 [.str (.var 1),.int .i64 (.var 2),.bool (.var 3)]] w :=
 Zeo (qy2.2 ⟨h,qy5 _⟩) (qy2.2 ⟨λ_ k hk=>by simp only[Ent.fp,QQ,Nat.reduceAdd]at hk;simp[hk],qy5 _⟩) Z6
theorem Zu6:Rel ⟨[b],w⟩ [.n b,.s s,.i a',.b sh] [.cells 0 65 [.str (.var 1),.int .i64 (.var 2),.bool (.var 3)]] w :=
 Zeo (qy2.2 ⟨h,qy5 _⟩) (qy2.2 ⟨λ_ k hk=>by simp only[Ent.fp,QQ,Nat.reduceAdd]at hk;simp[hk],qy5 _⟩) Z6
include ha' ha hs hsim
theorem Z1v(k:Nat)(hk:1<=k/\k<=4):Calls Tryz.prog 34 #[.pointer (some ⟨b,0,none⟩),.int .i64 k] w λe w'=>∃n a1,e=.returned (.int .i64 n)/\tkAt w' b s a1 (rdN s k a sh).2.2/\a1<=s.length/\((rdN s k a sh).2.2=true\/n=(rdN s k a sh).1/\a1=(rdN s k a sh).2.1)/\Mod [b] w w':=by
 refine Z1 (Z5 (J:=[.n b,.s s,.i a',.b sh,.i k]) sxE_ok Tryz.func34 Z2g rfl rfl (Zup w b s a' sh h) rfl rfl ?_) rfl;simp only[QQ,Nat.reduceAdd];refine⟨[.i (getR s a' k).1,.i (getR s a' k).2],rfl,λ_ w' _=>Zcr w' s a' k (by omega),?_⟩;simp only[QQ,Nat.reduceAdd];by_cases hsh:sh=true
 ·subst hsh;have e:(rdN s k a true).2.2=true:=(Z1e s k a true ha).2.2.2.2.1 rfl;rw[e];exact⟨λ_ w' hr=>⟨0,a',rfl,hr.at_ 0 rfl,ha',.inl rfl,hr.mod⟩,λh=>absurd (.inl rfl) h⟩
 ·have hsh:sh=false:=by simpa using hsh
  subst hsh;obtain rfl:a'=a:=hsim.resolve_left (by simp);by_cases hh:a'+k<=s.length
  ·have e1:getR s a' k=(((beN ((s.drop a').take k) 0:Nat):Int),0):=by
    have:=Z4r (s:=s) (at_:=a') (b:=k) (by omega) (by omega) (by omega);simpa using this
   have e2:rdN s k a' false=(((beN ((s.drop a').take k) 0:Nat):Int),a'+k,false):=by rw[rdN,if_pos hh]
   rw[e1,e2];refine⟨λh=>absurd h (by simp),λ_=>⟨by omega,by omega,λw' hr=>⟨_,a'+k,rfl,?_,hh,.inr ⟨rfl,rfl⟩,hr.mod⟩⟩⟩;have hc:=hr.at_ 0 rfl;simp only[Ent.holds,QQ,Nat.reduceAdd]at hc;rw[tkAt,hc];simp[rdV]
  ·have e1:getR s a' k=(0,8):=Z1m (by omega) (by omega) (by omega);have e2:rdN s k a' false=(0,s.length,true):=by rw[rdN,if_neg hh]
   rw[e1,e2];exact⟨λ_ w' hr=>⟨0,a',rfl,hr.at_ 0 rfl,ha',.inl rfl,hr.mod⟩,λh=>absurd (.inr (by decide)) h⟩
theorem Zdj:Calls Tryz.prog 33 #[.pointer (some ⟨b,0,none⟩)] w λe w'=>∃t a1,e=.returned (.string ⟨t.toArray⟩)/\tkAt w' b s a1 (rdT s a sh).2.2/\a1<=s.length/\((rdT s a sh).2.2=true\/t=(rdT s a sh).1/\a1=(rdT s a sh).2.1)/\Mod [b] w w':=by
 refine Z1 (Z5 (J:=[.n b,.s s,.i a',.b sh]) sxE_ok Tryz.func33 Z37 rfl rfl (Zu6 w b s a' sh h) rfl rfl ?_) rfl;simp only[QQ,Nat.reduceAdd];refine⟨[.s (getT s a').1,.i (getT s a').2.1,.i (getT s a').2.2],rfl,λ_ w' _=>Zg7 w' s a' (by omega),?_⟩;simp only[QQ,Nat.reduceAdd];by_cases hsh:sh=true
 ·subst hsh;have e:(rdT s a true).2.2=true:=(Z3o s a true ha).2.2.2.1 rfl;rw[e];exact⟨λ_ w' hr=>⟨[],a',rfl,hr.at_ 0 rfl,ha',.inl rfl,hr.mod⟩,λh=>absurd (.inl rfl) h⟩
 ·have hsh:sh=false:=by simpa using hsh
  subst hsh;obtain rfl:a'=a:=hsim.resolve_left (by simp);have key:((a':Int)+(getT s a').2.1=((rdT s a' false).2.1:Nat))/\(getT s a').1=(rdT s a' false).1/\((getT s a').2.2=0↔(rdT s a' false).2.2=false):=by
   by_cases h2:a'+2<=s.length
   ·have e1:getR s a' 2=(((beN ((s.drop a').take 2) 0:Nat):Int),0):=by
     have:=Z4r (s:=s) (at_:=a') (b:=2) (by omega) (by omega) (by omega);simpa using this
    rw[getT,e1,if_pos rfl,rdT];simp only;by_cases h3:a'+2+beN ((s.drop a').take 2) 0<=s.length
    ·rw[if_neg (by omega),if_pos ⟨h2,h3⟩];refine⟨by simp only;omega,?_,by simp⟩;have e3:((a':Int)+2+((beN ((s.drop a').take 2) 0:Nat):Int)).toNat=a'+2+beN ((s.drop a').take 2) 0:=by omega
     have e4:((a':Int)+2).toNat=a'+2:=by omega
     simp only[e3,e4];rw[List.drop_take];congr 1
     omega
    ·rw[if_pos (by omega),if_neg (by omega)];exact⟨by simp,rfl,by simp⟩
   ·have e1:getR s a' 2=(0,8):=Z1m (by omega) (by omega) (by omega);rw[getT,e1,if_neg (by simp),rdT,if_neg (by omega)];exact⟨by simp,rfl,by simp⟩
  obtain⟨k1,k2,k3⟩:=key;have kb:=Z3o s a' false ha;cases hb:(rdT s a' false).2.2 with
  | true =>
   have hne:¬(getT s a').2.2=0:=λh0=>by rw[k3.1 h0]at hb;cases hb
   exact⟨λ_ w' hr=>⟨[],a',rfl,hr.at_ 0 rfl,ha',.inl rfl,hr.mod⟩,λh=>absurd (.inr hne) h⟩
  | false =>
   have he:(getT s a').2.2=0:=k3.2 hb;refine⟨λh=>absurd h (by simp[he]),λ_=>?_⟩;rw[k1];refine⟨by omega,by omega,λw' hr=>⟨_,(rdT s a' false).2.1,rfl,?_,kb.2.1,.inr ⟨k2,rfl⟩,hr.mod⟩⟩;have hc:=hr.at_ 0 rfl;simp only[Ent.holds,QQ,Nat.reduceAdd]at hc;rw[k1]at hc;exact hc
end
abbrev at0(s:List UInt8):Nat:=(1+(getL s 1).2.1).toNat
abbrev knd(s:List UInt8):Nat:=(s.getD 0 0).toNat / 16
section
variable {s:List UInt8}
theorem Zgl(h:knd s≠3):begP (s.getD 0 0).toNat=pD_Q ((knd s:Nat):Int):=by rw[begP,if_neg h]
theorem Zip(h:knd s=1):Zo s=Z61 s (pD_Q 1) (at0 s) false:=by rw[Zo,Zgl (by omega),h,Z4t];have e:headD s (pD_Q ((1:Nat):Int)) (at0 s) false=Z61 s (pD_Q 1) (at0 s) false:=rfl;rw[e];have e2:idD s (Z61 s (pD_Q 1) (at0 s) false)=Z61 s (pD_Q 1) (at0 s) false:=rfl;rw[e2];rfl
theorem Zu7(h:knd s=2):Zo s=({ pD_Q 2 with session:=decide ((rdN s 1 (at0 s) false).1=1),code:=(rdN s 1 (rdN s 1 (at0 s) false).2.1 (rdN s 1 (at0 s) false).2.2).1 },(rdN s 1 (rdN s 1 (at0 s) false).2.1 (rdN s 1 (at0 s) false).2.2).2):=by rw[Zo,Zgl (by omega),h,Z4t];rfl
theorem Zu8(h:knd s=3):Zo s=Z1c s (idD s ({ begP (s.getD 0 0).toNat with topic:=(rdT s (at0 s) false).1 },(rdT s (at0 s) false).2)):=by
 have hk:(begP (s.getD 0 0).toNat).kind=3:=by rw[begP,if_pos h]
 rw[Zo,Z4t,headD,if_neg (by omega),if_neg (by omega),if_pos hk]
theorem Zu9(h:knd s=4\/(8<=knd s/\knd s<=11)):Zo s=Z1c s ({ pD_Q ((knd s:Nat):Int)with id:=(rdN s 2 (at0 s) false).1 },(rdN s 2 (at0 s) false).2):=by
 rw[Zo,Zgl (by omega)];generalize knd s=k at h⊢
 have e:headD s (pD_Q (k:Int)) (at0 s) false=(pD_Q (k:Int),at0 s,false):=by rw[headD,if_neg (by simp only;omega),if_neg (by simp only;omega),if_neg (by simp only;omega)]
 rw[Z4t,e,idD,if_pos (by simp only[idB,decide_eq_true_eq];omega)]
theorem Zua(h:12<=knd s/\knd s<=14):Zo s=(pD_Q ((knd s:Nat):Int),at0 s,false):=by
 rw[Zo,Zgl (by omega)];generalize knd s=k at h⊢
 have e:headD s (pD_Q (k:Int)) (at0 s) false=(pD_Q (k:Int),at0 s,false):=by rw[headD,if_neg (by simp only;omega),if_neg (by simp only;omega),if_neg (by simp only;omega)]
 rw[Z4t,e,idD,if_neg (by simp only[idB,decide_eq_true_eq];omega),Z1c,if_neg (by simp only;omega),if_neg (by simp only;omega),if_neg (by simp only;omega)]
theorem Znn{q:Pkt}{a:Nat}{b:Bool}(hk:q.kind≠3)(h:¬(8<=q.kind/\q.kind<=10/\b=false/\a<s.length)):Z1c s (q,a,b)=(q,a,b):=by
 rw[Z1c,if_neg hk];split
 ·rename_i h8;simp only at h8;simp only;rw[Z9g (λhh=>h ⟨by omega,by omega,hh.2,hh.1⟩)]
 ·split
  ·rename_i h9;simp only at h9;simp only;rw[Zcz (λhh=>h ⟨by omega,by omega,hh.2,hh.1⟩)]
  ·rfl
theorem Zk6{q:Pkt}{a:Nat}(hk:q.kind=8\/q.kind=10)(h:a<s.length):Z1c s (q,a,false)=Z1c s ({ q with asks:=q.asks++[(Zr s q.kind a false).1] },(Zr s q.kind a false).2):=by rw[Z1c,if_neg (by simp only;omega),if_pos hk,Z1c,if_neg (by simp only;omega),if_pos hk];simp only;rw[Zak ⟨h,rfl⟩]
theorem Zb0{q:Pkt}{a:Nat}(hk:q.kind=9)(h:a<s.length):Z1c s (q,a,false)=Z1c s ({ q with codes:=q.codes++[(rdN s 1 a false).1] },(rdN s 1 a false).2):=by rw[Z1c,if_neg (by simp only;omega),if_neg (by simp only;omega),if_pos hk,Z1c,if_neg (by simp only;omega),if_neg (by simp only;omega),if_pos hk];simp only;rw[Zal ⟨h,rfl⟩]
theorem Zb1:(Zo s).1.kind=(begP (s.getD 0 0).toNat).kind/\(Zo s).1.qos=(begP (s.getD 0 0).toNat).qos:=by
 unfold Zo Z4t;have h1:∀(p:Pkt) a b,(headD s p a b).1.kind=p.kind/\(headD s p a b).1.qos=p.qos:=λp a b=>by unfold headD;(repeat' split)<;>exact⟨rfl,rfl⟩
 have h2:∀q:RS,(idD s q).1.kind=q.1.kind/\(idD s q).1.qos=q.1.qos:=λq=>by unfold idD;split<;>exact⟨rfl,rfl⟩
 have h3:∀q:RS,(Z1c s q).1.kind=q.1.kind/\(Z1c s q).1.qos=q.1.qos:=λq=>by unfold Z1c;(repeat' split)<;>exact⟨rfl,rfl⟩
 exact⟨by rw[(h3 _).1,(h2 _).1,(h1 _ _ _).1],by rw[(h3 _).2,(h2 _).2,(h1 _ _ _).2]⟩
theorem Zfb:(Zo s).1.kind=((knd s:Nat):Int):=by
 rw[Zb1.1,begP];split
 ·rename_i h;rw[show knd s=3 from h];rfl
 ·rfl
theorem Zno{q:RS}(h:Z15 q.1=pD_Q q.1.kind):Z15 (Z1c s q).1=pD_Q (Z1c s q).1.kind:=by
 rw[Z1a]at h⊢;obtain⟨b1,b2,b3,b4,b5,b6⟩:=h;unfold Z1c;split
 ·rename_i hk;exact⟨b1,b2,λhn=>absurd hk hn,b4,b5,b6⟩
 ·split
  ·rename_i hk;exact⟨b1,b2,b3,b4,λhn=>by simp only at hn;omega,b6⟩
  ·split
   ·rename_i hk;exact⟨b1,b2,b3,b4,b5,λhn=>absurd hk hn⟩
   ·exact⟨b1,b2,b3,b4,b5,b6⟩
theorem Zt3{q:RS}(h:Z15 q.1=pD_Q q.1.kind):Z15 (idD s q).1=pD_Q (idD s q).1.kind:=by
 rw[Z1a]at h⊢;obtain⟨b1,b2,b3,b4,b5,b6⟩:=h;unfold idD;split
 ·rename_i hk;simp only[idB,decide_eq_true_eq]at hk;exact⟨b1,b2,b3,λhn=>by simp only at hn;omega,b5,b6⟩
 ·exact⟨b1,b2,b3,b4,b5,b6⟩
theorem Znp{p:Pkt}{a:Nat}{b:Bool}(h:Z15 p=pD_Q p.kind):Z15 (headD s p a b).1=pD_Q (headD s p a b).1.kind:=by
 rw[Z1a]at h⊢;obtain⟨b1,b2,b3,b4,b5,b6⟩:=h;unfold headD;split
 ·rename_i hk;exact⟨λhn=>absurd hk hn,b2,b3,b4,b5,b6⟩
 ·split
  ·rename_i hk;exact⟨b1,λhn=>absurd hk hn,b3,b4,b5,b6⟩
  ·split
   ·rename_i hk;exact⟨b1,b2,λhn=>absurd hk hn,b4,b5,b6⟩
   ·exact⟨b1,b2,b3,b4,b5,b6⟩
theorem Znq:Z15 (Zo s).1=pD_Q (Zo s).1.kind:=by unfold Zo Z4t;refine Zno (Zt3 (Znp ?_));rw[Z1a];unfold begP;split<;>simp
end
