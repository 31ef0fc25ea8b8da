/- By an AI agent. -/
import Derived.Test.YtfcofbfbgcbocaaGreatDoorR11
import Derived.Shelf.Strings.Trim
import Derived.Shelf.Strings.OnBuilder
import Derived.Shelf.RegionOpenPlain
import Derived.Lib.Strings
import Derived.Lib.Slices
import Derived.Lib.Walk
import Derived.Lib.Builder
import Derived.Lib.AppendStr
import Derived.Lib.UnsafeStr
set_option linter.all false
set_option maxHeartbeats 20000000
namespace Go.Proofs.Y
open Go.Sx
abbrev kO:List Kd:=[.int .i64,.str]
abbrev Zzv(w:World)(v:Value)(l:List Opt):Prop:=owns w v 121 kO (l.map encO)
def newO(n:Nat)(u:Value):Prop:=∀k,Z2 u k->n<=k
theorem Zsf{J:List V}{g:List Nat}{i:Nat}(hi:i∈g){k:Nat}(h:Z2 (J.getD i (.i 0)).toV k):k∈Zt J g:=List.mem_flatMap.2 ⟨i,hi,by rw[h];simp⟩
theorem Zzw{v:Value}(hn:(match v with | .slice none _ _=>true|_=>false)=true){w:World}{ks:List Kd}{rows:List (List Value)}(h:reads w v ks rows):rows=[]:=by obtain⟨_,a,cap,rfl,_,h2⟩:=h;refine Classical.byContradiction λhne=>?_;obtain⟨ad,rfl,_⟩:=h2 hne;simp at hn
theorem Z154(w:World)(v:Value)(l:List Opt)(hv:Z3j w v l)(hl:l.length<1000000000):Calls Tryz.prog 291 #[sc1 v] w λe w'=>∃v',e=.returned (sc1 v')/\Zzv w' v' l/\(∀k,Z2 v' k->w.heap.size<=k)/\Mod [] w w':=by
 refine Z1 (Z3 (J:=[.v v,.r (l.map encO)]) sxE_ok Tryz.func291 Z2b rfl rfl (Rel.start2 (by simp[Ent.holds,Ent.wr,hv,X.ev])) rfl rfl ?_) rfl;simp only[QQ,Nat.reduceAdd,qy3,List.nil_append];refine⟨λh w' hr=>?_,λh v1=>⟨by simp only[Int.natCast_zero];omega,λv2 w' hr=>?_⟩⟩
 ·have hn:l=[]:=List.map_eq_nil_iff.1 (Zzw h hv);subst hn;exact⟨_,rfl,hr.at_ 0 rfl,hr.fresh 0 rfl,hr.mod⟩
 ·exact⟨v2,rfl,hr.at_ 0 rfl,hr.fresh 0 rfl,hr.mod⟩
theorem Z1d2(w:World)(s v:Value)(l x:List Opt)(i:Nat)(hs:Zzv w s l)(hv:Zzv w v x)(hne:∀k,Z2 s k->Z2 v k->False)(hi:i<=l.length)(hl:l.length<1000000000)(hx:x.length<1000000000) : Calls Tryz.prog 274 #[sc1 s,.int .i64 i,sc1 v] w λe w'=>∃v',e=.returned (sc1 v')/\Zzv w' v' (l.take i++x++l.drop i)/\(∀k,Z2 v' k->Z2 s k\/w.heap.size<=k)/\Mod s.ownBlock.toList w w':=by rw[hs.reads.sc1,hv.reads.sc1];refine(Zzt w s v i _ _ hs hv hne (by simpa using hi) (by simp;omega)).mono ?_;rintro e w' ⟨v',rfl,g1,g2,g3⟩;refine⟨v',by rw[g1.reads.sc1],?_,g2,Mod.of_grown g3 λk hk=>.inl (Option.mem_toList.2 hk)⟩;rw[Zzv,List.map_append,List.map_append,List.map_take,List.map_drop];exact g1
theorem Z155(R:List Opt)(m:Nat)(x:Opt):(R.map encO).set m [.int .i64 x.1,.string ⟨x.2.toArray⟩]=(R.set m x).map encO:=by rw[List.map_set];rfl
theorem Zsg(n:Int)(os:List Opt)(i:Nat)(h:i<os.length):noN n (os.take (i+1))=noN n (os.take i)++(if(os.getD i oD).1=n then[]else[os.getD i oD]):=by
 rw[Z19q os i h,noN,noN,List.filter_append];generalize os.getD i oD=o
 by_cases h1:o.1=n<;>simp[h1]
theorem Z19r(n:Int)(os:List Opt):(noN n os).length<=os.length:=List.length_filter_le _ _
theorem Zzx{n:Int}{os:List Opt}(h:∀j,j<os.length->(os.getD j oD).1≠n):noN n os=os:=by refine Z1d1 λo ho=>?_;obtain⟨i,hi,rfl⟩:=List.getElem_of_mem ho;have:=h i hi;rwa [qy1,qy7 hi]at this
theorem Zbq(w:World)(m:Msg)(v u:Value)(n:Int)(us:List (List UInt8))(hv:Z3j w v m.opts)(hu:Zfq w u us)(hl:m.opts.length<1000000000)(hul:us.length<1000000000) : Calls Tryz.prog 243 #[mV m (sc1 v),.int .i64 n,sc1 u] w λe w'=>∃v',e=.returned (mV m (sc1 v'))/\Z3j w' v' (Z152 m.opts n us)/\newO w.heap.size v'/\Mod [] w w':=by
 refine Z1 (Z3 (J:=[.i m.kind,.i m.code,.i m.id,.s m.tok,.v v,.r (m.opts.map encO),.s m.pay,.i n,.v u,.r (us.map Z1m)]) (sxE_ok.joins _) Tryz.func243 Zdy rfl rfl (Rel.start2 (by simp[Ent.holds,Ent.wr,hv,hu,X.ev])) rfl rfl ?_) rfl;simp only[QQ,Nat.reduceAdd,qy3,qy4,Z2o,Z2p,Zr];intro b1 b2 b3 b4 b5 w1 hr;refine(Z154 w1 v m.opts (hr.at_ 5 rfl) hl).mono ?_;rintro e w2 ⟨q,rfl,a1,f1,m1⟩;refine⟨[.v q,.r (m.opts.map encO)],rfl,rfl,m1,qy5 _,qy2.2 ⟨⟨a1,λk hk=>.inl (f1 k hk)⟩,qy5 _⟩,Z5,?_⟩;clear hr a1 f1 m1;simp only[QQ,Nat.reduceAdd,qy3,qy4,Z2o,Z2p,Zr];intro b6;generalize hos:m.opts=os at hl⊢
 refine⟨λvs=>∃u',vs=[.i 0,.i 0,.i 0,.i 0,.i 0,.i 0,.i 0,.i 0,.i 0,.i 0,.v u',.i n,.r ((noN n os).map encO)],?_,?_⟩
 ·refine⟨λvs=>∃(x:V) (i:Nat),vs=[x,.i i,.i n]/\i<=os.length/\∀j,j<i->(os.getD j oD).1≠n,λvs=>(os.length - (vs.getD 1 (.i 0)).toI).toNat,⟨_,0,rfl,by omega,λj hj=>by omega⟩,?_⟩;rintro _ - ⟨x,i,rfl,hi,hn⟩;simp only[QQ,Nat.reduceAdd,qy3,qy4,Z2o,Z2p,Zr];refine⟨λh1=>?_,λh1=>?_⟩
  ·(repeat refine⟨by omega,?_⟩)
   intro b7;refine⟨λh2=>⟨λh3=>by omega,λh3=>⟨by omega,by omega,?_⟩⟩,λh2=>?_⟩
   ·refine⟨λvs=>∃(a j:Nat) (R:List Opt),vs=[.i a,.i j,.r (R.map encO),.i n]/\a<j/\j<=os.length/\R.length=os.length/\R.take a=noN n (os.take j)/\R.drop j=os.drop j,λvs=>(os.length - (vs.getD 1 (.i 0)).toI).toNat,
     ⟨i,i+1,os,rfl,by omega,by omega,rfl,?_,rfl⟩,?_⟩
    ·rw[Zsg n os i (by omega),if_pos h2,List.append_nil,Zzx];intro j hj;simp only[List.length_take]at hj;have:=hn j (by omega);rw[qy1]at this⊢;rwa [List.getElem?_take_of_lt (by omega)]
    rintro _ - ⟨a,j,R,rfl,haj,hj,hR,ht,hd⟩;simp only[QQ,Nat.reduceAdd,qy3,qy4,Z2o,Z2p,Zr,hR];have hg:j<os.length->R.getD j oD=os.getD j oD:=λh=>by have:=congrArg (λl=>l[0]?) hd;simp only[List.getElem?_drop,Nat.add_zero]at this;rw[qy1,qy1,this]
    refine⟨λh3=>?_,λh3=>?_⟩
    ·(repeat refine⟨by omega,?_⟩)
     intro b8 b9;have hjl:j<os.length:=by omega
     have hs1:=Zsg n os j hjl;have hg:=hg hjl;have hd':R.drop (j+1)=os.drop (j+1):=by have:=congrArg (λl=>l.drop 1) hd;simpa[List.drop_drop,Nat.add_comm]using this
     refine⟨λh4=>?_,λh4=>?_⟩
     ·(repeat refine⟨by omega,?_⟩)
      refine⟨⟨a+1,j+1,R.set a (R.getD j oD),?_,by omega,by omega,by simpa using hR,?_,?_⟩,by omega⟩
      ·rw[<- Z155];rfl
      ·rw[hs1,if_neg (by rw[<- hg];exact h4),<- ht,<- hg,Z19q _ _ (by simp;omega)];congr 1
       ·rw[List.take_set_of_le (Nat.le_refl _)]
       ·rw[qy1,List.getElem?_set_self (by omega)];rfl
      ·rw[List.drop_set_of_lt (by omega)];exact hd'
     ·(repeat refine⟨by omega,?_⟩)
      refine⟨⟨a,j+1,R,rfl,by omega,by omega,hR,?_,hd'⟩,by omega⟩;rw[hs1,if_pos (by rw[<- hg];exact qy9.1 h4),List.append_nil];exact ht
    ·have hje:j=os.length:=by omega
     subst hje;rw[List.take_length]at ht;refine⟨by omega,by omega,?_,λu'=>⟨u',?_⟩⟩
     ·simp only[qy11,List.length_take,List.length_replicate,qy3,hR];omega
     ·congr 1
      simp only[List.cons.injEq,true_and,and_true];congr 1
      rw[List.take_append_of_le_length (by simp;omega),List.take_take,Nat.min_self,<- List.map_take,ht]
   ·(repeat refine⟨by omega,?_⟩)
    refine⟨⟨_,i+1,rfl,by omega,λj hj=>?_⟩,by omega⟩;by_cases hji:j=i
    ·subst hji;exact h2
    ·exact hn j (by omega)
  ·have hie:i=os.length:=by omega
   subst hie;refine⟨q,?_⟩;rw[Zzx hn]
 rintro _ - ⟨u',rfl⟩;generalize hN:noN n os=R
 have hRl:R.length<1000000000:=by have:=Z19r n os;rw[hN]at this;omega
 simp only[QQ,Nat.reduceAdd,qy3,qy4,Z2o,Z2p,Zr];refine⟨λvs=>∃k:Int,vs=[.i 0,.i 0,.i n,.i 0,.i k]/\((k=-1/\∀j,j<R.length->(R.getD j oD).1<=n)\/∃i:Nat,k=i/\i<R.length/\(∀j,j<i->(R.getD j oD).1<=n)/\n<(R.getD i oD).1),?_,?_⟩
 ·refine⟨λvs=>∃(x:V) (i:Nat),vs=[x,.i i,.i n]/\i<=R.length/\∀j,j<i->(R.getD j oD).1<=n,λvs=>(R.length - (vs.getD 1 (.i 0)).toI).toNat,⟨_,0,rfl,by omega,λj hj=>by omega⟩,?_⟩;rintro _ - ⟨x,i,rfl,hi,hn⟩;simp only[QQ,Nat.reduceAdd,qy3,qy4,Z2o,Z2p,Zr];refine⟨λh1=>?_,λh1=>⟨-1,rfl,.inl ⟨rfl,λj hj=>hn j (by omega)⟩⟩⟩
  (repeat refine⟨by omega,?_⟩)
  intro b7;refine⟨λh2=>⟨i,rfl,.inr ⟨i,rfl,by omega,hn,h2⟩⟩,λh2=>?_⟩
  (repeat refine⟨by omega,?_⟩)
  refine⟨⟨_,i+1,rfl,by omega,λj hj=>?_⟩,by omega⟩;by_cases hji:j=i
  ·subst hji;omega
  ·exact hn j (by omega)
 rintro _ - ⟨k,rfl,hk⟩;simp only[QQ,Nat.reduceAdd,qy3,qy4,Z2o,Z2p,Zr];refine⟨λvs=>∃k:Nat,vs=[.i k]/\k<=R.length/\(∀j,j<k->(R.getD j oD).1<=n)/\(k<R.length->n<(R.getD k oD).1),⟨λh1=>?_,λh1=>?_⟩,?_⟩
 ·rcases hk with⟨h2,h3⟩|⟨i,h2,-⟩
  ·exact⟨R.length,rfl,Nat.le_refl _,h3,λh=>by omega⟩
  ·omega
 ·rcases hk with⟨h2,h3⟩|⟨i,h2,h3,h4,h5⟩
  ·omega
  ·subst h2;exact⟨i,rfl,by omega,h4,λ_=>h5⟩
 rintro _ - ⟨i,rfl,hi,h1,h2⟩;obtain⟨e1,e2⟩:=Zse hi h1 h2;simp only[QQ,Nat.reduceAdd,qy3,qy4,Z2o,Z2p,Zr];refine⟨λvs=>∃(v1:Value) (i:Nat),vs=[.v v1,.r (((us.take i).map λx=>((n,x):Opt)).map encO),.i i]/\i<=us.length,λvs=>(us.length - (vs.getD 2 (.i 0)).toI).toNat,⟨_,0,rfl,by omega⟩,?_⟩;rintro _ - ⟨v1,j,rfl,hj⟩;simp only[QQ,Nat.reduceAdd,qy3,qy4,Z2o,Z2p,Zr];refine⟨λh3=>?_,λh3 w3 hr=>?_⟩
 ·(repeat refine⟨by omega,?_⟩)
  intro v2;refine⟨by simp;omega,λv3=>⟨by omega,by omega,⟨v3,j+1,?_,by omega⟩,by omega⟩⟩;rw[List.take_add_one,List.map_append,List.map_append,qy7 (by omega),qy1,qy7 (by omega)];rfl
 ·have:j=us.length:=by omega
  subst this;rw[List.take_length]at hr;refine(Z1d2 w3 u' v1 R _ i (hr.at_ 1 rfl) (hr.at_ 0 rfl) (λk h5 h6=>hr.sep.disj (i:=1) (j:=0) rfl rfl (by omega) (.inl rfl) (k:=k) h5 h6) hi hRl (by simpa using hul)).mono ?_;rintro e w4 ⟨v',rfl,g1,g2,g3⟩;refine⟨[.v v',.r ((R.take i++(us.map λx=>((n,x):Opt))++R.drop i).map encO)],rfl,rfl,g3.mono λk hk=>.inl (by unfold Zm;exact List.mem_append_right _ (Zsf (i:=28) (by simp) (Option.mem_toList.1 hk))),qy5 _,qy2.2 ⟨⟨g1,λk hk=>?_⟩,qy5 _⟩,Z5,?_⟩
  ·rcases g2 k hk with h5|h5
   ·exact .inr (.inr (Zsf (i:=28) (by simp) h5))
   ·exact .inl h5
  ·intro w5 hr5;refine⟨v',rfl,?_,hr5.fresh 0 rfl,hr5.mod⟩;have:=(hr5.at_ 0 rfl).reads;rw[e1,e2]at this;rw[Z3j,Z152,hN];exact this
end Go.Proofs.Y
namespace Go.Proofs
open Go.Shelf
def Tryz.lays144_ren:Go.Shelf.Ren:=⟨fun|144=>207|143=>239|219=>268|217=>288|225=>267|224=>266|267=>289|266=>311|314=>312|n=>n,fun|9=>9|4=>4|3=>3|5=>5|46=>88|146=>336|51=>332|n=>n,fun|1=>0|n=>n⟩
theorem Tryz.lays144:Go.Proofs.Lays.n144 Tryz.prog Tryz.lays144_ren:={
 mixed:=by kernel_rfl
 f143:=qF Tryz.func239 (by kernel_rfl)
 f144:=qF Tryz.func207 (by kernel_rfl)
 f217:=qF Tryz.func288 (by kernel_rfl)
 f219:=qF Tryz.func268 (by kernel_rfl)
 f224:=qF Tryz.func266 (by kernel_rfl)
 f225:=qF Tryz.func267 (by kernel_rfl)
 f266:=qF Tryz.func311 (by kernel_rfl)
 f267:=qF Tryz.func289 (by kernel_rfl)
 f314:=qF Tryz.func312 (by kernel_rfl)
 t3:=Tryz.underlying3
 a3:=Tryz.isAgg3
 z3:=Tryz.sizeOf3
 v3:=Tryz.zeroValue3
 t4:=Tryz.underlying4
 a4:=Tryz.isAgg4
 z4:=Tryz.sizeOf4
 v4:=Tryz.zeroValue4
 t5:=Tryz.underlying5
 a5:=Tryz.isAgg5
 z5:=Tryz.sizeOf5
 v5:=Tryz.zeroValue5
 t9:=Tryz.underlying9
 a9:=Tryz.isAgg9
 z9:=Tryz.sizeOf9
 v9:=Tryz.zeroValue9
 t46:=Tryz.underlying88
 a46:=Tryz.isAgg88
 z46:=Tryz.sizeOf88
 v46:=Tryz.zeroValue88
 t51:=Tryz.underlying332
 a51:=Tryz.isAgg332
 z51:=Tryz.sizeOf332
 v51:=Tryz.zeroValue332
 t146:=Tryz.underlying336
 a146:=Tryz.isAgg336
 z146:=Tryz.sizeOf336
 v146:=Tryz.zeroValue336
 g1:=by kernel_rfl }
def Tryz.lays161_ren:Go.Shelf.Ren:=⟨fun|161=>275|231=>294|227=>236|233=>295|235=>296|228=>237|197=>286|151=>314|260=>310|152=>234|137=>264|119=>265|224=>266|225=>267|217=>288|266=>311|n=>n,fun|9=>9|4=>4|3=>3|5=>5|117=>279|116=>278|0=>0|124=>304|105=>316|21=>21|119=>347|46=>88|139=>350|138=>349|n=>n,fun|3=>1|4=>2|n=>n⟩
theorem Tryz.lays161:Go.Proofs.Lays.n161 Tryz.prog Tryz.lays161_ren:={
 mixed:=by kernel_rfl
 f119:=qF Tryz.func265 (by kernel_rfl)
 f137:=qF Tryz.func264 (by kernel_rfl)
 f151:=qF Tryz.func314 (by kernel_rfl)
 f152:=qF Tryz.func234 (by kernel_rfl)
 f161:=qF Tryz.func275 (by kernel_rfl)
 f197:=qF Tryz.func286 (by kernel_rfl)
 f217:=qF Tryz.func288 (by kernel_rfl)
 f224:=qF Tryz.func266 (by kernel_rfl)
 f225:=qF Tryz.func267 (by kernel_rfl)
 f227:=qF Tryz.func236 (by kernel_rfl)
 f228:=qF Tryz.func237 (by kernel_rfl)
 f231:=qF Tryz.func294 (by kernel_rfl)
 f233:=qF Tryz.func295 (by kernel_rfl)
 f235:=qF Tryz.func296 (by kernel_rfl)
 f260:=qF Tryz.func310 (by kernel_rfl)
 f266:=qF Tryz.func311 (by kernel_rfl)
 t0:=Tryz.underlying0
 a0:=Tryz.isAgg0
 z0:=Tryz.sizeOf0
 v0:=Tryz.zeroValue0
 t3:=Tryz.underlying3
 a3:=Tryz.isAgg3
 z3:=Tryz.sizeOf3
 v3:=Tryz.zeroValue3
 t4:=Tryz.underlying4
 a4:=Tryz.isAgg4
 z4:=Tryz.sizeOf4
 v4:=Tryz.zeroValue4
 t5:=Tryz.underlying5
 a5:=Tryz.isAgg5
 z5:=Tryz.sizeOf5
 v5:=Tryz.zeroValue5
 t9:=Tryz.underlying9
 a9:=Tryz.isAgg9
 z9:=Tryz.sizeOf9
 v9:=Tryz.zeroValue9
 t21:=Tryz.underlying21
 a21:=Tryz.isAgg21
 z21:=Tryz.sizeOf21
 v21:=Tryz.zeroValue21
 t46:=Tryz.underlying88
 a46:=Tryz.isAgg88
 z46:=Tryz.sizeOf88
 v46:=Tryz.zeroValue88
 t105:=Tryz.underlying316
 a105:=Tryz.isAgg316
 z105:=Tryz.sizeOf316
 v105:=Tryz.zeroValue316
 t116:=Tryz.underlying278
 a116:=Tryz.isAgg278
 z116:=Tryz.sizeOf278
 t117:=Tryz.underlying279
 a117:=Tryz.isAgg279
 z117:=Tryz.sizeOf279
 v117:=Tryz.zeroValue279
 t119:=Tryz.underlying347
 a119:=Tryz.isAgg347
 z119:=Tryz.sizeOf347
 t124:=Tryz.underlying304
 a124:=Tryz.isAgg304
 z124:=Tryz.sizeOf304
 v124:=Tryz.zeroValue304
 t138:=Tryz.underlying349
 a138:=Tryz.isAgg349
 z138:=Tryz.sizeOf349
 v138:=Tryz.zeroValue349
 t139:=Tryz.underlying350
 a139:=Tryz.isAgg350
 z139:=Tryz.sizeOf350
 v139:=Tryz.zeroValue350
 g3:=by kernel_rfl
 g4:=by kernel_rfl }
def Tryz.lays156_ren:Go.Shelf.Ren:=⟨fun|156=>208|165=>240|166=>141|169=>105|240=>177|241=>269|276=>202|277=>290|n=>n,fun|31=>197|9=>9|3=>3|4=>4|0=>0|20=>20|72=>160|76=>204|70=>157|37=>158|75=>203|127=>207|164=>241|5=>5|80=>167|n=>n,fun|n=>n⟩
theorem Tryz.lays156:Go.Proofs.Lays.n156 Tryz.prog Tryz.lays156_ren:={
 mixed:=by kernel_rfl
 f156:=qF Tryz.func208 (by kernel_rfl)
 f165:=qF Tryz.func240 (by kernel_rfl)
 f166:=qF Tryz.func141 (by kernel_rfl)
 f169:=qF Tryz.func105 (by kernel_rfl)
 f240:=qF Tryz.func177 (by kernel_rfl)
 f241:=qF Tryz.func269 (by kernel_rfl)
 f276:=qF Tryz.func202 (by kernel_rfl)
 f277:=qF Tryz.func290 (by kernel_rfl)
 t0:=Tryz.underlying0
 a0:=Tryz.isAgg0
 z0:=Tryz.sizeOf0
 v0:=Tryz.zeroValue0
 t3:=Tryz.underlying3
 a3:=Tryz.isAgg3
 z3:=Tryz.sizeOf3
 v3:=Tryz.zeroValue3
 t4:=Tryz.underlying4
 a4:=Tryz.isAgg4
 z4:=Tryz.sizeOf4
 v4:=Tryz.zeroValue4
 t9:=Tryz.underlying9
 a9:=Tryz.isAgg9
 z9:=Tryz.sizeOf9
 v9:=Tryz.zeroValue9
 t20:=Tryz.underlying20
 a20:=Tryz.isAgg20
 z20:=Tryz.sizeOf20
 v20:=Tryz.zeroValue20
 t31:=Tryz.underlying197
 a31:=Tryz.isAgg197
 z31:=Tryz.sizeOf197
 v31:=Tryz.zeroValue197
 t37:=Tryz.underlying158
 a37:=Tryz.isAgg158
 z37:=Tryz.sizeOf158
 v37:=Tryz.zeroValue158
 t70:=Tryz.underlying157
 a70:=Tryz.isAgg157
 z70:=Tryz.sizeOf157
 v70:=Tryz.zeroValue157
 t72:=Tryz.underlying160
 a72:=Tryz.isAgg160
 z72:=Tryz.sizeOf160
 v72:=Tryz.zeroValue160
 t75:=Tryz.underlying203
 a75:=Tryz.isAgg203
 z75:=Tryz.sizeOf203
 v75:=Tryz.zeroValue203
 t76:=Tryz.underlying204
 a76:=Tryz.isAgg204
 z76:=Tryz.sizeOf204
 v76:=Tryz.zeroValue204
 t127:=Tryz.underlying207
 a127:=Tryz.isAgg207
 z127:=Tryz.sizeOf207
 v127:=Tryz.zeroValue207
 t164:=Tryz.underlying241
 a164:=Tryz.isAgg241
 z164:=Tryz.sizeOf241
 v164:=Tryz.zeroValue241 }
end Go.Proofs
namespace Go.Proofs.Y
open Go.Sx
theorem Z19s(w:World)(s:List UInt8):Calls Tryz.prog 275 #[.string ⟨s.toArray⟩,.string ⟨#[0]⟩] w λe w'=>e=.returned (.string ⟨(s.dropWhile λc=>c == 0).toArray⟩)/\Mod [] w w':=by refine(Z1 (Any.strings_TrimLeft_one Tryz.lays161 ⟨s.toArray⟩ 0 (by decide) w) rfl).mono ?_;rintro e w' ⟨rfl,rfl⟩;exact⟨rfl,Mod.refl _ _⟩
theorem Zzy(s:List UInt8)(c:UInt8):decide (0<=Go.Lib.indexByte s c)=s.any λb=>b == c:=by rw[<- Go.Lib.contains_iff_indexByte,Bool.eq_iff_iff];simp only[List.contains_iff_mem,List.any_eq_true,beq_iff_eq];exact⟨λh=>⟨c,h,rfl⟩,λ⟨x,h,e⟩=>e▸h⟩
theorem Z1f8(w:World)(s:List UInt8):Calls Tryz.prog 207 #[.string ⟨s.toArray⟩,.string ⟨#[47]⟩] w λe w'=>e=.returned (.bool (s.any λc=>c == 47))/\Mod [] w w':=by refine(Z1 (Any.strings_Contains_one Tryz.lays144 ⟨s.toArray⟩ 47 w) rfl).mono ?_;rintro e w' ⟨rfl,rfl⟩;exact⟨by rw[<- Zzy],Mod.refl _ _⟩
theorem Z176:Builder.Extra Tryz.prog Tryz.lays156_ren where
 sizeBuilder:=by kernel_rfl
 liesBuilder:=by kernel_rfl
 t5:=Tryz.underlying5
 a5:=Tryz.isAgg5
 z5:=Tryz.sizeOf5
 v5:=Tryz.zeroValue5
 infoByte:=by kernel_rfl
 cellsByte:=by kernel_rfl
 sizeByte:=by kernel_rfl
 neB5:=by decide
theorem Zcy:∀ps:List (List UInt8),Go.Lib.join ps [47]=Z6m ps
 | []=>rfl
 | [x]=>Go.Lib.join_one x [47]
 | x::y::r=>by have:=Zcy (y::r);rw[Go.Lib.join_cons]at this⊢;rw[Z6m,<- this];simp[Go.Lib.joinTail]
theorem Zn9:∀ps:List (List UInt8),(ps.map Z1m).flatten=ps.map λp=>Value.string ⟨p.toArray⟩
 | []=>rfl
 | p::ps=>by simp only[List.map_cons,List.flatten_cons,Zn9 ps];rfl
theorem Z156(w:World)(v:Value)(ps:List (List UInt8))(hv:owns w v 9 [.str] (ps.map Z1m))(hl:ps.length<=140737488355328)(hb:(Z6m ps).length<=140737488355328) : Calls Tryz.prog 208 #[sc1 v,.string ⟨#[47]⟩] w λe w'=>e=.returned (.string ⟨(Z6m ps).toArray⟩)/\Mod [] w w':=by
 rw[hv.reads.sc1];obtain⟨hk,hlen,ho⟩:=hv;rcases ho with⟨rfl,hn⟩|⟨g,c,cur,rfl,-,hg,hnc,hcm,hcs,htk⟩
 ·have:ps=[]:=by simpa using hn
  subst this;refine(Z1 (Any.strings_Join_none Tryz.lays156 Z176 none 0 ⟨#[47]⟩ w) rfl).mono ?_;rintro e w' ⟨rfl,rfl⟩;exact⟨rfl,Mod.refl _ _⟩
 ·have hgs:g<w.heap.size:=by
   have:=(Array.getElem?_eq_some_iff.1 hg).1;exact this
  have e1:(ps.map λp=>(⟨p.toArray⟩:ByteArray)).map (λx=>x.data.toList)=ps:=by simp[List.map_map,Function.comp_def]
  have hfl:(ps.map Z1m).flatten=ps.map λp=>Value.string ⟨p.toArray⟩:=by exact Zn9 ps
  rw[hfl]at htk;have:=Any.strings_Join Tryz.lays156 Z176 g 0 c (ps.map λp=>(⟨p.toArray⟩:ByteArray)) ⟨#[47]⟩ w (λj x hj=>?_) hgs (by simpa using hl) (by simpa using hnc) (by rw[e1];show(Go.Lib.join ps [47]).length<=_;rw[Zcy];exact hb)
  ·rw[e1,show(⟨#[47]⟩:ByteArray).data.toList=[47] from rfl,Zcy,qy3]at this;rw[qy3];refine(Z1 this rfl).mono ?_;rintro e w' ⟨rfl,h⟩;exact⟨rfl,Mod.of_below h⟩
  ·rw[List.getElem?_map,Option.map_eq_some_iff]at hj;obtain⟨p,hp,rfl⟩:=hj;have h1:=congrArg (λl=>l[j]?) htk;simp only[List.getElem?_map,hp,Option.map_some]at h1;rw[List.getElem?_take_of_lt (by have:=(List.getElem?_eq_some_iff.1 hp).1;simpa using this)]at h1;simp only[World.cell?,hg,Nat.zero_add];simpa using h1
theorem Zcz(w:World)(n:Int)(h:0<=n/\n<=16777215):Calls Tryz.prog 244 #[.int .i64 n] w λe w'=>e=.returned (.string ⟨(Z2k n).toArray⟩)/\Mod [] w w':=by refine Z1 (Z7 (J:=[.i n]) sxE_ok Tryz.func244 Zcc rfl rfl rfl ?_) rfl;simp only[QQ,Nat.reduceAdd];refine⟨[.s (numB 3 n)],rfl,λ_ w' _=>Zkm w' n 3 (by omega) (by omega) (by omega),?_⟩;simp only[QQ,Nat.reduceAdd];refine⟨[.s (Z2k n)],rfl,λ_ w' _=>Z19s w' _,?_⟩;simp only[QQ,Nat.reduceAdd];exact λw' hr=>⟨by trivial,hr.mod⟩
theorem Zau:∀l:List UInt8,(l.dropWhile λc=>c == 0).length<=l.length
 | []=>Nat.le_refl _
 | c::l=>by have:=Zau l;rw[List.dropWhile_cons];split<;>simp only[List.length_cons]<;>omega
theorem Zzz(n:Int)(os:List Opt)(i:Nat)(h:i<os.length):Zn n (os.take (i+1))=Zn n (os.take i)++(if(os.getD i oD).1=n then[(os.getD i oD).2]else[]):=by
 rw[Z19q os i h,Zsd];generalize os.getD i oD=o
 by_cases h1:o.1=n<;>simp[Zn,h1]
theorem Zsh(n:Int)(os:List Opt):(Zn n os).length<=os.length:=by rw[Zn,qy3];exact List.length_filter_le _ _
theorem Zvi{n:Int}{os:List Opt}{i:Nat}(h:i<os.length)(h1:∀j,j<i->(os.getD j oD).1≠n)(h2:(os.getD i oD).1=n):∃r,Zn n os=(os.getD i oD).2::r:=by
 have e:os=os.take i++os.drop i:=(List.take_append_drop i os).symm;have e0:Zn n (os.take i)=[]:=by refine Zn8 λo ho=>?_;obtain⟨j,hj,rfl⟩:=List.getElem_of_mem ho;simp only[List.length_take]at hj;have:=h1 j (by omega);rw[qy1,qy7 (by omega)]at this;rw[List.getElem_take];exact this
 have e1:Zn n (os.drop i)=(os.getD i oD).2::Zn n (os.drop (i+1)):=by
  rw[Z1d0 os i h];generalize os.getD i oD=o at h2
  simp[Zn,List.filter_cons,h2]
 exact⟨_,by rw[e,Zsd,<- e,e0,e1];rfl⟩
theorem Z157{n:Int}{os:List Opt}(h:∀j,j<os.length->(os.getD j oD).1≠n):Zn n os=[]:=by refine Zn8 λo ho=>?_;obtain⟨j,hj,rfl⟩:=List.getElem_of_mem ho;have:=h j hj;rwa [qy1,qy7 hj]at this
theorem Z158(w:World)(m:Msg)(v:Value)(n:Int)(hv:Z3j w v m.opts)(hl:m.opts.length<1000000000) : Calls Tryz.prog 209 #[mV m (sc1 v),.int .i64 n] w λe w'=>e=.returned (.tuple #[.int .i64 (Z7f n m.opts).1,.int .i64 (Z7f n m.opts).2])/\Mod [] w w':=by
 refine Z1 (Z3 (J:=[.i m.kind,.i m.code,.i m.id,.s m.tok,.v v,.r (m.opts.map encO),.s m.pay,.i n]) sxE_ok Tryz.func209 Zax rfl rfl (Rel.start2 (by simp[Ent.holds,Ent.wr,hv,X.ev])) rfl rfl ?_) rfl;simp only[QQ,Nat.reduceAdd,qy3,qy4,Z2o,Z2p,Zr];intro b1 b2;generalize m.opts=os at hl⊢
 refine⟨λvs=>∃(x:V) (i:Nat),vs=[x,.i i,.i n]/\i<=os.length/\∀j,j<i->(os.getD j oD).1≠n,λvs=>(os.length - (vs.getD 1 (.i 0)).toI).toNat,⟨_,0,rfl,by omega,λj hj=>by omega⟩,?_⟩;rintro _ - ⟨x,i,rfl,hi,hn⟩;simp only[QQ,Nat.reduceAdd,qy3,qy4,Z2o,Z2p,Zr];refine⟨λh1=>?_,λh1 w' hr=>⟨?_,hr.mod⟩⟩
 ·(repeat refine⟨by omega,?_⟩)
  intro b3;refine⟨λh2=>?_,λh2=>?_⟩
  ·obtain⟨r,e⟩:=Zvi (by omega) hn h2;have eu:Z7f n os=Zpw (os.getD i oD).2:=by rw[Z7f,e]
   rw[eu];generalize (os.getD i oD).2=s
   refine⟨λh3=>by omega,λ_=>⟨λh3 w' hr=>⟨by rw[Zpw,if_pos h3],hr.mod⟩,λh3=>⟨λh4 w' hr=>⟨by subst h4;rfl,hr.mod⟩,λh4=>?_⟩⟩⟩;have eg:getR s 0 s.length=Zpw s:=by have:=List.length_pos_iff.2 h4;rw[getR,if_pos (by omega),if_pos (by omega),if_neg (by omega),Zpw,if_neg h3];simp
   refine⟨[.i (Zpw s).1,.i (Zpw s).2],rfl,λ_ w' _=>?_,?_⟩
   ·have:=Zko w' s 0 s.length (by omega);rw[eg]at this;exact this
   ·simp only[QQ,Nat.reduceAdd];exact λw' hr=>⟨by trivial,hr.mod⟩
  ·(repeat refine⟨by omega,?_⟩)
   refine⟨⟨_,i+1,rfl,by omega,λj hj=>?_⟩,by omega⟩;by_cases hji:j=i
   ·subst hji;exact h2
   ·exact hn j (by omega)
 ·rw[Z7f,Z157 λj hj=>hn j (by omega)]
theorem Zg9(b:Nat):∀(l:List (List UInt8)),(∀x∈l,x.length<=b)->(Z6m l).length<=l.length*(b+1)
 | [],_=>by simp[Z6m]
 | [y],h=>by have:=h y (by simp);simp[Z6m];omega
 | y::z::l,h=>by have h1:=Zg9 b (z::l) λx hx=>h x (qy10 _ hx);have h2:=h y (by simp);simp only[Z6m,qy11,List.length_cons,Nat.add_mul]at h1⊢;omega
theorem Zsi:∀{os:List Opt} {was:Int},optE was os=0->∀o∈os,o.2.length<=60
 | [],_,_,o,ho=>by simp at ho
 | x::os,was,h,o,ho=>by
  obtain⟨-,-,h3,h4⟩:=Zzu.1 h;rcases List.mem_cons.1 ho with rfl|ho
  ·exact h3
  ·exact Zsi h4 o ho
theorem Z159{n:Int}{os:List Opt}{x:List UInt8}(h:x∈Zn n os):∃o∈os,o.2=x:=by simp only[Zn,List.mem_map,List.mem_filter]at h;obtain⟨o,⟨h1,-⟩,h2⟩:=h;exact⟨o,h1,h2⟩
theorem Z100{os:List Opt}(h:Zn 11 os=[]):Z1f os=([],5):=if_pos h
theorem Z15a{os:List Opt}(h:¬Zn 11 os=[])(h1:¬chkT (Z6m (Zn 11 os)) false=0):Z1f os=([],chkT (Z6m (Zn 11 os)) false):=by rw[Z1f,if_neg h,if_neg h1]
theorem Z101{os:List Opt}(h:¬Zn 11 os=[])(h1:chkT (Z6m (Zn 11 os)) false=0)(h2:(Zn 11 os).any (λv=>v.any λc=>c == 47)=true):Z1f os=([],1):=by rw[Z1f,if_neg h,if_pos h1,if_pos h2]
theorem Z102{os:List Opt}(h:¬Zn 11 os=[])(h1:chkT (Z6m (Zn 11 os)) false=0)(h2:¬(Zn 11 os).any (λv=>v.any λc=>c == 47)=true):Z1f os=(Z6m (Zn 11 os),0):=by rw[Z1f,if_neg h,if_pos h1,if_neg h2]
theorem Z15b(w:World)(m:Msg)(v:Value)(hv:Z3j w v m.opts)(hc:chk m=0) : Calls Tryz.prog 184 #[mV m (sc1 v)] w λe w'=>e=.returned (.tuple #[.string ⟨(Z1f m.opts).1.toArray⟩,.int .i64 (Z1f m.opts).2])/\Mod [] w w':=by
 obtain⟨-,-,hl,ho,-⟩:=Z9k.1 hc;refine Z1 (Z3 (J:=[.i m.kind,.i m.code,.i m.id,.s m.tok,.v v,.r (m.opts.map encO),.s m.pay]) sxE_ok Tryz.func184 Zav rfl rfl (Rel.start2 (by simp[Ent.holds,Ent.wr,hv,X.ev])) rfl rfl ?_) rfl;simp only[QQ,Nat.reduceAdd,qy3,qy4,Z2o,Z2p,Zr];intro b1;replace hl:=hl.2.1;generalize m.opts=os at hl ho⊢
 have hvl:=Zsh 11 os;have hul:(Z6m (Zn 11 os)).length<=12*61:=Nat.le_trans (Zg9 60 _ λx hx=>by obtain⟨o,h1,rfl⟩:=Z159 hx;exact Zsi ho o h1) (by omega);refine⟨λvs=>∃(s:Value) (i:Nat),vs=[.v s,.r ((Zn 11 (os.take i)).map Z1m),.b ((Zn 11 (os.take i)).any λv=>v.any λc=>c == 47),.i i]/\i<=os.length,λvs=>(os.length - (vs.getD 3 (.i 0)).toI).toNat,⟨_,0,rfl,by omega⟩,?_⟩;rintro _ - ⟨s,i,rfl,hi⟩;simp only[QQ,Nat.reduceAdd,qy3,qy4,Z2o,Z2p,Zr];refine⟨λh1=>?_,λh1=>?_⟩
 ·have hs:=Zzz 11 os i (by omega);have hvi:=Zsh 11 (os.take i);rw[List.length_take]at hvi
  (repeat refine⟨by omega,?_⟩)
  intro b2;refine⟨λh2 v1=>⟨by simp;omega,λv2=>?_⟩,λh2=>?_⟩
  ·rw[if_pos h2]at hs;refine⟨[.b ((os.getD i oD).2.any λc=>c == 47)],rfl,λ_ w' _=>Z1f8 w' _,?_⟩;simp only[QQ,Nat.reduceAdd,qy3,qy4,Z2o,Z2p,Zr];refine⟨by omega,by omega,⟨v2,i+1,?_,by omega⟩,by omega⟩;rw[hs];simp[Z1m]
  ·rw[if_neg h2,List.append_nil]at hs
   (repeat refine⟨by omega,?_⟩)
   exact⟨⟨s,i+1,by rw[hs];rfl,by omega⟩,by omega⟩
 ·have:i=os.length:=by omega
  subst this;rw[List.take_length];refine⟨λh2 w' hr=>⟨?_,hr.mod⟩,λh2=>?_⟩
  ·rw[Z100 (List.length_eq_zero_iff.1 (by omega))]
  have h2:¬Zn 11 os=[]:=λh=>h2 (by rw[h];rfl);refine⟨[.s (Z6m (Zn 11 os))],rfl,λ_ w' hr=>Z156 w' s _ (hr.at_ 0 rfl) (by omega) (by omega),?_⟩;simp only[QQ,Nat.reduceAdd];refine⟨[.i (chkT (Z6m (Zn 11 os)) false)],rfl,λ_ w' hr=>Zmn w' _ (by omega),?_⟩;simp only[QQ,Nat.reduceAdd];refine⟨λh3=>⟨λ_ w' hr=>⟨?_,hr.mod⟩,λh=>(h (by decide)).elim⟩,λh3=>⟨λh4 w' hr=>⟨?_,hr.mod⟩,λh4 w' hr=>⟨?_,hr.mod⟩⟩⟩
  ·rw[Z101 h2 h3.1 h3.2]
  ·rw[Z15a h2 h4]
  ·have h4:=qy9.1 h4;rw[Z102 h2 h4 λh=>h3 ⟨h4,h⟩]
def Zga(n:Nat)(v:Value)(os:List Opt):Prop:=∀k,(os.map encO).flatten≠[]/\Z2 v k->n<=k
theorem Zga.mono{n m:Nat}{v:Value}{os:List Opt}(h:Zga n v os)(hm:m<=n):Zga m v os:=λk hk=>Nat.le_trans hm (h k hk)
theorem Zvj(n:Nat)(v:Value):Zga n v []:=λk hk=>absurd rfl hk.1
theorem Zku(w:World)(m n:Msg)(u v:Value)(hu:Z3j w u m.opts)(hv:Z3j w v n.opts)(hl:m.opts.length<1099511627776):Calls Tryz.prog 27 #[mV m (sc1 u),mV n (sc1 v)] w λe w'=>e=.returned (.bool (decide (m.kind=n.kind/\m.code=n.code/\m.id=n.id/\m.tok=n.tok/\m.pay=n.pay/\m.opts=n.opts)))/\Mod [] w w':=by
 refine Z1 (Z3 (J:=[.i m.kind,.i m.code,.i m.id,.s m.tok,.v u,.r (m.opts.map encO),.s m.pay,.i n.kind,.i n.code,.i n.id,.s n.tok,.v v,.r (n.opts.map encO),.s n.pay]) sxE_ok Tryz.func27 Z4e rfl rfl (Rel.start2 (by simp[Ent.holds,Ent.wr,hu,hv,X.ev])) rfl rfl ?_) rfl;simp only[QQ,Nat.reduceAdd,qy3];intro b1 b2;refine⟨λh w' hr=>⟨?_,hr.mod⟩,λh=>?_⟩
 ·rw[decide_eq_false];rintro⟨h1,h2,h3,h4,h5,h6⟩;rcases h with((((h|h)|h)|h)|h)|h
  ·exact h h1
  ·exact h h2
  ·exact h h3
  ·exact h h4
  ·exact h h5
  ·exact h (by rw[h6])
 ·simp only[not_or,qy9]at h;obtain⟨⟨⟨⟨⟨h1,h2⟩,h3⟩,h4⟩,h5⟩,h6⟩:=h;have hlen:m.opts.length=n.opts.length:=by omega
  refine⟨λvs=>∃(i:Nat) (x:V),vs=[x,.i i]/\i<=m.opts.length/\∀j,j<i->m.opts.getD j oD=n.opts.getD j oD,λvs=>(m.opts.length - (vs.getD 1 (.i 0)).toI).toNat,⟨0,_,rfl,by omega,λj hj=>by omega⟩,?_⟩;rintro _ - ⟨i,x,rfl,hi,hall⟩;simp only[QQ,Nat.reduceAdd,qy3,qy4,Z2o,Z2p];refine⟨λh7=>⟨by omega,by omega,λh8 w' hr=>⟨?_,hr.mod⟩,λh8=>⟨by omega,by omega,⟨i+1,x,rfl,by omega,λj hj=>?_⟩,by omega⟩⟩,λh7 w' hr=>⟨?_,hr.mod⟩⟩
  ·rw[decide_eq_false];rintro⟨-,-,-,-,-,h9⟩;rw[h9]at h8;exact h8 ⟨rfl,rfl⟩
  ·by_cases hji:j=i
   ·subst hji;have:=qy9.1 h8;exact Prod.ext this.1 this.2
   ·exact hall j (by omega)
  ·rw[decide_eq_true];refine⟨h1,h2,h3,h4,h5,List.ext_getElem? λj=>?_⟩;by_cases hj:j<m.opts.length
   ·have:=hall j (by omega);rw[qy1,qy1,qy7 hj,qy7 (by omega)]at this;rw[qy7 hj,qy7 (by omega)];simpa using this
   ·rw[List.getElem?_eq_none (by omega),List.getElem?_eq_none (by omega)]
theorem Z6n{J:List V}{es:List Ent}(h:∀e∈es,e.wr=false):Zp J es:=by refine List.pairwise_iff_forall_sublist.2 λ{a b} hs hw=>?_;have h1:=h a (hs.subset (by simp));have h2:=h b (hs.subset (by simp));rw[h1,h2]at hw;simp at hw
section
variable (w:World) (p:Pkt) (u v:Value) (hu:Z3i w u p.asks) (hv:Z2w w v p.codes) (hs:SmallP p)
include hu hv
theorem Z19t:Calls Tryz.prog 95 #[pV p u v] w λe w'=>∃x y,e=.returned (pV (Z24 p) x y)/\Z3i w' x (Z24 p).asks/\Z2w w' y (Z24 p).codes /\ (x=u/\(Z24 p).asks=p.asks\/(Z24 p).asks=[])/\(y=v/\(Z24 p).codes=p.codes\/(Z24 p).codes=[])/\Mod [] w w':=by
 refine Z1 (Z3 (J:=[.i p.kind,.b p.dup,.b p.retain,.b p.clean,.b p.session,.i p.qos,.i p.id,.i p.keep,.i p.code,.s p.client,.s p.topic,.s p.payload,.v u,.r (p.asks.map encA),.v v,.r (p.codes.map Zh)]) sxE_ok Tryz.func95 Ze0 rfl rfl (Rel.start2 (by simp[Ent.holds,Ent.wr,hu,hv,X.ev])) rfl rfl ?_) rfl;simp only[QQ,Nat.reduceAdd];intro b1 b2;have g4:∀q:Pkt,q.kind=p.kind->p.kind≠1->p.kind≠2->p.kind≠3->(p.kind=4\/p.kind=11)->Z24 p={ p with id:=0 }:=λq _ h1 h2 h3 h=>by rw[Z24,if_neg h1,if_neg h2,if_neg h3,if_pos h]
 have g8:p.kind≠1->p.kind≠2->p.kind≠3->¬(p.kind=4\/p.kind=11)->(p.kind=8\/p.kind=10)->Z24 p={ p with id:=0,asks:=[] }:=λh1 h2 h3 h4 h=>by rw[Z24,if_neg h1,if_neg h2,if_neg h3,if_neg h4,if_pos h]
 refine⟨λh1 w' hr=>?_,λh1=>⟨λh2 w' hr=>?_,λh2=>⟨λh3 w' hr=>?_,λh3=>⟨λh4 w' hr=>?_,λh4=>⟨λh5 w' hr=>?_,λh5=>⟨λh6 w' hr=>?_,λh6=>⟨λh7 w' hr=>?_,λh7=>⟨λh8 w' hr=>?_,λh8 w' hr=>?_⟩⟩⟩⟩⟩⟩⟩⟩
 ·have e:Z24 p={ p with client:=[],clean:=false,keep:=0 }:=by rw[Z24,if_pos h1]
  rw[e];exact⟨u,v,rfl,hr.at_ 2 rfl,hr.at_ 3 rfl,.inl ⟨rfl,rfl⟩,.inl ⟨rfl,rfl⟩,hr.mod⟩
 ·have e:Z24 p={ p with code:=0,session:=false }:=by rw[Z24,if_neg h1,if_pos h2]
  rw[e];exact⟨u,v,rfl,hr.at_ 2 rfl,hr.at_ 3 rfl,.inl ⟨rfl,rfl⟩,.inl ⟨rfl,rfl⟩,hr.mod⟩
 ·have e:Z24 p={ p with dup:=false,qos:=0,retain:=false,topic:=[],payload:=[],id:=0 }:=by rw[Z24,if_neg h1,if_neg h2,if_pos h3]
  rw[e];exact⟨u,v,rfl,hr.at_ 2 rfl,hr.at_ 3 rfl,.inl ⟨rfl,rfl⟩,.inl ⟨rfl,rfl⟩,hr.mod⟩
 ·rw[g4 p rfl h1 h2 h3 (.inl h4)];exact⟨u,v,rfl,hr.at_ 2 rfl,hr.at_ 3 rfl,.inl ⟨rfl,rfl⟩,.inl ⟨rfl,rfl⟩,hr.mod⟩
 ·rw[g4 p rfl h1 h2 h3 (.inr h5)];exact⟨u,v,rfl,hr.at_ 2 rfl,hr.at_ 3 rfl,.inl ⟨rfl,rfl⟩,.inl ⟨rfl,rfl⟩,hr.mod⟩
 ·rw[g8 h1 h2 h3 (by omega) (.inl h6)];exact⟨.slice none 0 0,v,rfl,Z92 _,hr.at_ 3 rfl,.inr rfl,.inl ⟨rfl,rfl⟩,hr.mod⟩
 ·rw[g8 h1 h2 h3 (by omega) (.inr h7)];exact⟨.slice none 0 0,v,rfl,Z92 _,hr.at_ 3 rfl,.inr rfl,.inl ⟨rfl,rfl⟩,hr.mod⟩
 ·have e:Z24 p={ p with id:=0,codes:=[] }:=by rw[Z24,if_neg h1,if_neg h2,if_neg h3,if_neg (by omega),if_neg (by omega),if_pos h8]
  rw[e];exact⟨u,.slice none 0 0,rfl,hr.at_ 2 rfl,Zcw _,.inl ⟨rfl,rfl⟩,.inr rfl,hr.mod⟩
 ·have e:Z24 p=p:=by rw[Z24,if_neg h1,if_neg h2,if_neg h3,if_neg (by omega),if_neg (by omega),if_neg h8]
  rw[e];exact⟨u,v,rfl,hr.at_ 2 rfl,hr.at_ 3 rfl,.inl ⟨rfl,rfl⟩,.inl ⟨rfl,rfl⟩,hr.mod⟩
include hs
theorem Zeq:Calls Tryz.prog 99 #[pV p u v] w λe w'=>e=.returned (.int .i64 (Z27 p))/\Mod [] w w':=by
 refine Z1 (Z3 (J:=[.i p.kind,.b p.dup,.b p.retain,.b p.clean,.b p.session,.i p.qos,.i p.id,.i p.keep,.i p.code,.s p.client,.s p.topic,.s p.payload,.v u,.r (p.asks.map encA),.v v,.r (p.codes.map Zh)]) sxE_ok Tryz.func99 Zci rfl rfl (Rel.start2 (by simp[Ent.holds,Ent.wr,hu,hv,X.ev])) rfl rfl ?_) rfl;simp only[QQ,Nat.reduceAdd];intro b;refine⟨λh1=>?_,λh1=>⟨λh2=>?_,λh2=>⟨λh3=>?_,λh3=>⟨λh4=>?_,λh4=>⟨λh5=>?_,λh5=>⟨λh6=>?_,λh6 w' hr=>⟨?_,hr.mod⟩⟩⟩⟩⟩⟩⟩
 ·refine⟨[.i (Zkq p)],rfl,λ_ w' hr=>Zva w' p u v (hr.at_ 1 rfl) (hr.at_ 2 rfl) hs,?_⟩;simp only[QQ,Nat.reduceAdd];exact λw' hr=>⟨by rw[Z27,if_pos h1],hr.mod⟩
 ·refine⟨[.i (Z5s p)],rfl,λ_ w' hr=>Zv9 w' p u v (hr.at_ 1 rfl) (hr.at_ 2 rfl),?_⟩;simp only[QQ,Nat.reduceAdd];exact λw' hr=>⟨by rw[Z27,if_neg h1,if_pos h2],hr.mod⟩
 ·refine⟨[.i (pubE p)],rfl,λ_ w' hr=>Ziu w' p u v (hr.at_ 1 rfl) (hr.at_ 2 rfl) hs,?_⟩;simp only[QQ,Nat.reduceAdd];exact λw' hr=>⟨by rw[Z27,if_neg h1,if_neg h2,if_pos h3],hr.mod⟩
 ·refine⟨[.i (Zhs p)],rfl,λ_ w' hr=>Zzh w' p u v (hr.at_ 1 rfl) (hr.at_ 2 rfl) hs,?_⟩;simp only[QQ,Nat.reduceAdd];exact λw' hr=>⟨by rw[Z27,if_neg h1,if_neg h2,if_neg h3,if_pos (.inl h4)],hr.mod⟩
 ·refine⟨[.i (Zhs p)],rfl,λ_ w' hr=>Zzh w' p u v (hr.at_ 1 rfl) (hr.at_ 2 rfl) hs,?_⟩;simp only[QQ,Nat.reduceAdd];exact λw' hr=>⟨by rw[Z27,if_neg h1,if_neg h2,if_neg h3,if_pos (.inr h5)],hr.mod⟩
 ·refine⟨[.i (Zbm p)],rfl,λ_ w' hr=>Z14u w' p u v (hr.at_ 1 rfl) (hr.at_ 2 rfl) hs,?_⟩;simp only[QQ,Nat.reduceAdd];exact λw' hr=>⟨by rw[Z27,if_neg h1,if_neg h2,if_neg h3,if_neg (by omega),if_pos h6],hr.mod⟩
 ·rw[Z27,if_neg h1,if_neg h2,if_neg h3,if_neg (by omega),if_neg h6]
theorem Zer:Calls Tryz.prog 48 #[pV p u v] w λe w'=>e=.returned (.int .i64 (chkP p))/\Mod [] w w':=by
 refine Z1 (Z3 (J:=[.i p.kind,.b p.dup,.b p.retain,.b p.clean,.b p.session,.i p.qos,.i p.id,.i p.keep,.i p.code,.s p.client,.s p.topic,.s p.payload,.v u,.r (p.asks.map encA),.v v,.r (p.codes.map Zh)]) sxE_ok Tryz.func48 Zco rfl rfl (Rel.start2 (by simp[Ent.holds,Ent.wr,hu,hv,X.ev])) rfl rfl ?_) rfl;simp only[QQ,Nat.reduceAdd];intro b;refine⟨[.b (Z7d p.kind)],rfl,λ_ w' _=>Zpq w' _,?_⟩;simp only[QQ,Nat.reduceAdd];refine⟨λh w' hr=>⟨by rw[chkP,if_neg h],hr.mod⟩,λh=>?_⟩;have h:=qy9.1 h;rw[chkP,if_pos h];intro w1 hr;refine(Z19t w1 p u v (hr.at_ 1 rfl) (hr.at_ 2 rfl)).mono ?_;rintro e w2 ⟨x,y,rfl,rx,ry,ex,ey,m2⟩;generalize hq:Z24 p=q at rx ry ex ey⊢
 have hsq:SmallP q:=by rw[<- hq];exact hs.bare
 refine⟨[.i q.kind,.b q.dup,.b q.retain,.b q.clean,.b q.session,.i q.qos,.i q.id,.i q.keep,.i q.code,.s q.client,.s q.topic,.s q.payload,.v x,.r (q.asks.map encA),.v y,.r (q.codes.map Zh)],rfl,rfl,m2,qy5 _,qy2.2 ⟨⟨rx,λk hk=>.inr (.inl ⟨rfl,?_⟩)⟩,qy2.2 ⟨⟨ry,λk hk=>.inr (.inl ⟨rfl,?_⟩)⟩,qy5 _⟩⟩,Z6n (by simp[Ent.wr]),?_⟩
 ·rcases ex with⟨rfl,e1⟩|e1
  ·refine⟨_,qy10 _ (qy8 ..),rfl,?_⟩;simp only[Ent.fp,QQ,Nat.reduceAdd]at hk⊢;rw[e1]at hk;exact hk
  ·simp only[Ent.fp,QQ,Nat.reduceAdd,e1]at hk;exact absurd rfl hk.1
 ·rcases ey with⟨rfl,e1⟩|e1
  ·refine⟨_,qy10 _ (qy10 _ (qy8 ..)),rfl,?_⟩;simp only[Ent.fp,QQ,Nat.reduceAdd]at hk⊢;rw[e1]at hk;exact hk
  ·simp only[Ent.fp,QQ,Nat.reduceAdd,e1]at hk;exact absurd rfl hk.1
 simp only[QQ,Nat.reduceAdd];refine⟨[.b (Z9i q)],rfl,λ_ w' hr=>Z14t w' q x y (hr.at_ 0 rfl) (hr.at_ 1 rfl) hsq,?_⟩;simp only[QQ,Nat.reduceAdd];refine⟨λh w' hr=>⟨by rw[if_neg h],hr.mod⟩,λh=>?_⟩;have h:=qy9.1 h;rw[if_pos h];refine⟨λh1=>?_,λh1=>?_⟩
 ·refine⟨[.i (pubE p)],rfl,λ_ w' hr=>Ziu w' p u v (hr.at_ 3 rfl) (hr.at_ 4 rfl) hs,?_⟩;simp only[QQ,Nat.reduceAdd];refine⟨λh2 w' hr=>⟨by rw[if_pos ⟨h1,h2⟩],hr.mod⟩,λh2=>?_⟩;have hn:¬(p.kind=3/\pubE p≠0):=λhh=>h2 hh.2;refine⟨[.b (idB p)],rfl,λ_ w' hr=>Z14s w' p u v (hr.at_ 3 rfl) (hr.at_ 4 rfl),?_⟩;simp only[QQ,Nat.reduceAdd];refine⟨λh3=>⟨λh4 w' hr=>⟨?_,hr.mod⟩,λh4=>?_⟩,λh3=>?_⟩;(· rw[if_neg (by assumption),if_pos ⟨h3,h4⟩]);(· rw[if_neg (by assumption),if_neg (λhh=>h4 hh.2)];refine⟨[.i (Z27 p)],rfl,λ_ w' hr=>Zeq w' p u v (hr.at_ 3 rfl) (hr.at_ 4 rfl) hs,?_⟩;simp only[QQ,Nat.reduceAdd];exact λw' hr=>⟨by trivial,hr.mod⟩);(· rw[if_neg (by assumption),if_neg (λhh=>h3 hh.1)];refine⟨[.i (Z27 p)],rfl,λ_ w' hr=>Zeq w' p u v (hr.at_ 3 rfl) (hr.at_ 4 rfl) hs,?_⟩;simp only[QQ,Nat.reduceAdd];exact λw' hr=>⟨by trivial,hr.mod⟩)
 ·have hn:¬(p.kind=3/\pubE p≠0):=λhh=>h1 hh.1;refine⟨[.b (idB p)],rfl,λ_ w' hr=>Z14s w' p u v (hr.at_ 3 rfl) (hr.at_ 4 rfl),?_⟩;simp only[QQ,Nat.reduceAdd];refine⟨λh3=>⟨λh4 w' hr=>⟨?_,hr.mod⟩,λh4=>?_⟩,λh3=>?_⟩;(· rw[if_neg (by assumption),if_pos ⟨h3,h4⟩]);(· rw[if_neg (by assumption),if_neg (λhh=>h4 hh.2)];refine⟨[.i (Z27 p)],rfl,λ_ w' hr=>Zeq w' p u v (hr.at_ 3 rfl) (hr.at_ 4 rfl) hs,?_⟩;simp only[QQ,Nat.reduceAdd];exact λw' hr=>⟨by trivial,hr.mod⟩);(· rw[if_neg (by assumption),if_neg (λhh=>h3 hh.1)];refine⟨[.i (Z27 p)],rfl,λ_ w' hr=>Zeq w' p u v (hr.at_ 3 rfl) (hr.at_ 4 rfl) hs,?_⟩;simp only[QQ,Nat.reduceAdd];exact λw' hr=>⟨by trivial,hr.mod⟩)
end
end Go.Proofs.Y
namespace Go.Proofs.Y
open Go.Sx Go.RowKit
theorem Z103:(Tryz.prog.info? 160).map (·.size)=some 2:=by kernel_rfl
theorem Z19u:(Tryz.prog.info? 5).map (λi=>(i.zero,i.size,i.bytes))=some (some (.int .u8 0),1,1):=by kernel_rfl
noncomputable def Z19v(ty n:Nat):Bool:=liesAt Tryz.prog Tryz.prog.depth ty (n / Tryz.prog.cellsOf ty) 0 160 1
set_option maxRecDepth 100000 in
theorem Zbr(b:Nat)(w:World)(h0:w.cell? ⟨b,0,none⟩=some (.pointer (some ⟨b,0,none⟩))) : Calls Tryz.prog 177 #[.pointer (some ⟨b,0,none⟩)] w λe w'=>e=.returned (.tuple #[])/\w'=w:=by
 obtain⟨j,hj,_⟩:=Option.map_eq_some_iff.1 Z103;go_enter Tryz.func177,Tryz.ntmps177
 go_wp2
 rw[Lib.run_neq_ptr_same w _ Tryz.underlying157 hj];go_wp2
 go_end0
 exact⟨rfl,rfl⟩
set_option maxRecDepth 100000 in
theorem Za4(ty n b:Nat)(w:World)(hT:Z19v ty n=true)(hn:0<n)(h0:w.cell? ⟨b,0,none⟩=some (.pointer none))(hsh:w.shape? b=some (ty,n))(hfz:w.frozen? ⟨b,0,none⟩=false) : Calls Tryz.prog 177 #[.pointer (some ⟨b,0,none⟩)] w λe w'=>e=.returned (.tuple #[])/\w'=w.setCell ⟨b,0,none⟩ (.pointer (some ⟨b,0,none⟩)):=by
 obtain⟨j,hj,hjs⟩:=Option.map_eq_some_iff.1 Z103;go_enter Tryz.func177,Tryz.ntmps177
 go_wp2
 rw[Lib.run_to_unsafe w ⟨b,0,none⟩ Tryz.underlying157 Tryz.underlying241 hj (by rw[hjs];decide) hsh hn];simp only[Result.andThen];rw[Oper.upon_value];go_wp2
 rw[run_callFunc_extern Tryz.func202 (by kernel_rfl) (by kernel_rfl) (by kernel_rfl) (e:=Extern.AbiNoEscape.same) (by kernel_rfl)];rw[Lib.run_noEscape];simp only[Result.andThen];rw[Oper.upon_value];go_wp2
 rw[Lib.run_from_unsafe w ⟨b,0,none⟩ Tryz.underlying241 Tryz.underlying157 hj hsh hT];simp only[Result.andThen];rw[Oper.upon_value];go_wp2
 go_end0
 exact⟨rfl,rfl⟩
theorem Z15c:∃i0,Tryz.prog.info? 5=some i0/\i0.zero=some (.int .u8 0)/\i0.size=1/\i0.bytes=1:=by obtain⟨i0,hi,h⟩:=Option.map_eq_some_iff.1 Z19u;simp only[Prod.mk.injEq]at h;exact⟨i0,hi,h.1,h.2.1,h.2.2⟩
theorem Z31{w:World}{b ty:Nat}{cs:List Value}(h:w.heap[b]?=some (.cells cs.toArray ty (0,0)))(j:Nat):w.cell? ⟨b,j,none⟩=cs[j]?:=by rw[Lib.cell_of_heap h];simp
theorem Zsj(s:List UInt8):(s.map λb=>[Value.int .u8 (b.toNat:Int)]).flatten=Lib.strCells ⟨s.toArray⟩:=by simp[Lib.strCells];induction s<;>simp_all
theorem Z104(s:List UInt8):∀r∈s.map λb=>[Value.int .u8 (b.toNat:Int)],rowOk [.int .u8] r:=by intro r hr;obtain⟨b,-,rfl⟩:=List.mem_map.1 hr;exact⟨⟨_,rfl⟩,trivial⟩
section
variable {P:Program} {w:World}
theorem Zvk(t u ty e:TypeId)(i:TypeInfo)(ht:P.underlying t=some (.slice e))(hu:P.underlying u=some .string)(hi:P.info? e=some i)(hz:i.zero=some (.int .u8 0)) (hsize:i.size=1) (hby:i.bytes=1) (v:Value) (n:Nat) (xs:List Value) (hown:w.ownsRow 0 e 1 v n xs) (s:ByteArray) (hb:n+s.size<=140737488355328) : ∃v' w',(Builtin.append_ #[t,u] ty #[v,.string s]).run P w=.ok v' w'/\w'.ownsRow 0 e 1 v' (n+s.size) (xs++Lib.strCells s)/\w.grownBy w' v.ownBlock /\ ∀k,v'.ownBlock=some k->v.ownBlock=some k\/w.heap.size<=k:=by
  have h63:n+s.size<=maxLen:=by unfold maxLen;omega
  obtain⟨v',w',h1,h2,h3,-⟩:=Lib.run_append_own_string (P:=P) (w:=w) 0 t u ty e i ht hu hi hz hsize hby v n xs hown s h63 hb (Nat.zero_le _);refine⟨v',w',h1,h2,h3,λk hk=>?_⟩;have hxl:xs.length=n:=by simpa using hown.1
  rcases hown.2 with⟨rfl,rfl⟩|⟨g,cap,cur,rfl,hbg,hg,hnc,hcm,hcs,htake⟩
  . have hx:xs=[]:=List.eq_nil_of_length_eq_zero hxl;subst hx;obtain⟨v2,w2,k1,k2,k3,-⟩:=Lib.run_append_own_string (P:=P) (w:=w) w.heap.size t u ty e i ht hu hi hz hsize hby (.slice none 0 0) 0 [] (World.ownsRow_nil _ _ _ _) s h63 hb (Nat.le_refl _);rw[h1]at k1;simp only[Result.ok.injEq]at k1;obtain⟨rfl,rfl⟩:=k1;exact .inr (k2.lt k hk).1
  . by_cases hroom:n+s.size<=cap
    . have hr:=Lib.run_append_room_string (P:=P) w t u ty e i ht hu hi hsize g n cap cur hg s hroom (by unfold maxLen at h63;omega);rw[h1]at hr;simp only[Result.ok.injEq]at hr;obtain⟨rfl,-⟩:=hr;exact .inl hk
    . have holds:∀j u,xs[j]?=some u->w.cell? ((⟨g,0,none⟩:Addr).add j)=some u:=hown.cells (g:=g) rfl;have hr:=Lib.run_append_grow_string (P:=P) w t u ty e i (.int .u8 0) ht hu hi hz ⟨g,0,none⟩ n cap xs (by rw[hsize];simpa using hxl) holds s (by omega) (by unfold maxLen at h63;omega) (by rw[hby];exact growslice_fits (by omega) (by omega));rw[h1]at hr;simp only[Result.ok.injEq]at hr;obtain⟨rfl,-⟩:=hr;simp[Value.ownBlock]at hk;exact .inr (by omega)
theorem Zd0{ops:Array Oper}{rest:List Oper}{o:Oper}{a:Act}{Q:Exit->Act->World->Prop}(hgd:o.guard=none)(sl x:Operand)(t u:TypeId) (ho:o.op=.call { callee:=.builtin .append,args:=#[sl,x],argTypes:=#[t,u] })
  (e:TypeId) (i:TypeInfo) (ht:P.underlying t=some (.slice e)) (hu:P.underlying u=some .string) (hi:P.info? e=some i) (hz:i.zero=some (.int .u8 0))
  (hsize:i.size=1) (hby:i.bytes=1) (v:Value) (n:Nat) (xs:List Value) (hs:a.eval sl=v) (hown:w.ownsRow 0 e 1 v n xs) (s:ByteArray) (hx:a.eval x=.string s) (hb:n+s.size<=140737488355328)
  (h:∀v' w',w'.ownsRow 0 e 1 v' (n+s.size) (xs++Lib.strCells s)->w.grownBy w' v.ownBlock->(∀k,v'.ownBlock=some k->v.ownBlock=some k\/w.heap.size<=k)->wpList P ops Q rest (a.put o.dst v') w') :
  wpList P ops Q (o::rest) a w:=by
 refine wpList_plain hgd λK hK=>?_;obtain⟨v',w',hr,h2,h3,h4⟩:=Zvk (P:=P) (w:=w) t u o.type e i ht hu hi hz hsize hby v n xs hown s hb;unfold Oper.wp execOp;simp only[ho,resolve,invoke,builtin,Sem.run_bind,Sem.run_pure,Result.andThen_ok,List.map_toArray,List.map_cons,List.map_nil,hs,hx,hr];exact hK _ _ (h v' w' h2 h3 h4)
end
set_option maxRecDepth 100000 in
theorem Zgb(ty b:Nat)(p v:Value)(rest:List Value)(rows:List (List Value))(s:List UInt8)(w:World)(hT:Z19v ty (rest.length+2)=true)(hty:ty≠5) (hb:w.heap[b]?=some (.cells (p::v::rest).toArray ty (0,0))) (hp:p=.pointer none\/p=.pointer (some ⟨b,0,none⟩)) (hown:owns w v 5 [.int .u8] rows) (hlen:rows.length+s.length<=140737488355328) : Calls Tryz.prog 141 #[.pointer (some ⟨b,0,none⟩),.string ⟨s.toArray⟩] w λe w'=>e=.returned (.tuple #[.int .i64 s.length,.nilIface]) /\ ∃v',w'.heap[b]?=some (.cells (.pointer (some ⟨b,0,none⟩)::v'::rest).toArray ty (0,0))/\owns w' v' 5 [.int .u8] (rows++s.map λb=>[Value.int .u8 (b.toNat:Int)]) /\ Mod (b::v.ownBlock.toList) w w'/\∀k,Z2 v' k->w.heap.size<=k\/k∈v.ownBlock.toList:=by
 obtain⟨i0,hi,hz0,hz1,hz2⟩:=Z15c;have hne:∀k,v.ownBlock=some k->k≠b:=λk hk e=>by
  subst e;rcases hown.2.2 with⟨hv,-⟩|⟨g,cap,cur,hv,-,hg,-⟩
  ·rw[hv]at hk;cases hk
  ·rw[hv]at hk;simp[Value.ownBlock]at hk;subst hk;rw[hb]at hg;simp at hg;exact hty hg.2
 have hlt:b<w.heap.size:=(Array.getElem?_eq_some_iff.1 hb).1;have hchk:Calls Tryz.prog 177 #[.pointer (some ⟨b,0,none⟩)] w λe w'=>e=.returned (.tuple #[])/\w'.heap[b]?=some (.cells (.pointer (some ⟨b,0,none⟩)::v::rest).toArray ty (0,0))/\Mod [b] w w':=by
  rcases hp with rfl|rfl
  ·refine(Za4 ty (rest.length+2) b w hT (by omega) (Z31 hb 0) (by simp[World.shape?,hb]) (Lib.frozen_of_heap hb 0)).mono ?_;rintro e w' ⟨rfl,rfl⟩;refine⟨rfl,?_,Mod.setCell _ _ _ (.inl (by simp))⟩;simp[World.setCell,Array.getElem?_modify,hb]
  ·refine(Zbr b w (Z31 hb 0)).mono ?_;rintro e w' ⟨rfl,rfl⟩;exact⟨rfl,hb,Mod.refl _ _⟩
 have e240:∀args w,(callFunc 177 args).run Tryz.prog w=.ok (.enter 177 args) w:=enters_of Tryz.func177 (by kernel_rfl) rfl;go_enter Tryz.func141,Tryz.ntmps141
 go_wp2_with (go_at_fn 177;refine hchk.mono ?_)
 rintro e w1 ⟨rfl,hbk,hm1⟩;have hown1:owns w1 v 5 [.int .u8] rows:=owns.stable hown λk hk=>hm1.block k (hown.2.lt k hk).2 (by simpa using hne k hk);have c0:w1.cell? ⟨b,0,none⟩=some (.pointer (some ⟨b,0,none⟩)):=Z31 hbk 0;have c1:w1.cell? ⟨b,1,none⟩=some v:=Z31 hbk 1;have ho1:=hown1.2;have hfl:rows.flatten.length=rows.length:=by have:=ho1.1;simpa using this
 go_wp2_with (at_builtin;refine Zd0 rfl _ _ 158 9 rfl 5 i0 Tryz.underlying158 Tryz.underlying9 hi hz0 hz1 hz2 _ _ _ rfl ho1 ⟨s.toArray⟩ rfl ?c4 ?_)
 case c4=>simp only[ByteArray.size];simp;omega
 intro v' w2 hown' hgrow hloc;have hlt1:b<w1.heap.size:=Nat.lt_of_lt_of_le hlt hm1.size;have hb2:w2.heap[b]?=some (.cells (.pointer (some ⟨b,0,none⟩)::v::rest).toArray ty (0,0)):=by rw[hgrow.block b hlt1 (λe=>hne b e.symm rfl)];exact hbk
 have d0:w2.cell? ⟨b,0,none⟩=some (.pointer (some ⟨b,0,none⟩)):=Z31 hb2 0;have d1:w2.cell? ⟨b,1,none⟩=some v:=Z31 hb2 1;have f1:w2.frozen? ⟨b,1,none⟩=false:=Lib.frozen_of_heap hb2 1;have hnl:((rows++s.map λb=>[Value.int .u8 (b.toNat:Int)]).length)=rows.length+s.length:=by simp
 have hfl2:(rows++s.map λb=>[Value.int .u8 (b.toNat:Int)]).flatten=rows.flatten++Lib.strCells ⟨s.toArray⟩:=by rw[List.flatten_append,Zsj]
 have hsz:(⟨s.toArray⟩:ByteArray).size=s.length:=by simp[ByteArray.size]
 obtain⟨ao,n',cap,rfl⟩:∃ao n' cap,v'=.slice ao n' cap:=by
  rcases hown'.2 with⟨hv,_⟩|⟨g,cap,cur,hv,_⟩
  ·exact⟨_,_,_,hv⟩
  ·exact⟨_,_,_,hv⟩
 have hvb:∀k,(Value.slice ao n' cap).ownBlock=some k->k≠b:=λk hk e=>by
  subst e;rcases hloc k hk with h|h
  ·exact hne k h rfl
  ·omega
 go_wp2
 go_ret2
 have hs3:(w2.setCell ⟨b,1,none⟩ (.slice ao n' cap)).heap[b]?=some (.cells (.pointer (some ⟨b,0,none⟩)::.slice ao n' cap::rest).toArray ty (0,0)):=by have hlt2:b<w2.heap.size:=(Array.getElem?_eq_some_iff.1 hb2).1;have e:=(Array.getElem?_eq_some_iff.1 hb2).2;simp[World.setCell,Array.getElem?_modify,hb2]
 refine⟨rfl,.slice ao n' cap,hs3,?_,?_,?_⟩
 ·refine owns.stable (w:=w2) ⟨λr hr=>?_,?_⟩ λk hk=>(Mod.setCell (fp:=[b]) w2 ⟨b,1,none⟩ (.slice ao n' cap) (.inl (by simp))).block k (hown'.lt k hk).2 (by simpa using hvb k hk)
  ·rcases qy13.1 hr with h|h
   ·exact hown.1 r h
   ·exact Z104 s r h
  ·rw[hnl,hfl2,<- hsz];exact hown'
 ·refine((hm1.mono (fp':=b::v.ownBlock.toList) (by simp)).trans (fp':=b::v.ownBlock.toList) (Mod.of_grown hgrow (λk hk=>.inl (by simp[hk]))) (λk hk=>.inl hk)).trans (fp':=[b]) (Mod.setCell _ _ _ (.inl (by simp))) (by simp)
 ·intro k hk;rcases hloc k hk with h|h
  ·exact .inr (by simp[h])
  ·exact .inl (Nat.le_trans hm1.size h)
set_option maxRecDepth 100000 in
theorem Z19w(ty b:Nat)(p v:Value)(rest:List Value)(rows:List (List Value))(w:World) (hb:w.heap[b]?=some (.cells (p::v::rest).toArray ty (0,0))) (hown:owns w v 5 [.int .u8] rows) : Calls Tryz.prog 104 #[.pointer (some ⟨b,0,none⟩)] w λe w'=>e=.returned (.int .i64 rows.length)/\w'=w:=by
 obtain⟨ao,cap,rfl⟩:∃ao cap,v=.slice ao rows.length cap:=by
  rcases hown.2.2 with⟨hv,h0⟩|⟨g,cap,cur,hv,_⟩
  ·exact⟨none,0,by rw[hv,h0]⟩
  ·exact⟨_,_,hv⟩
 have c1:w.cell? ⟨b,1,none⟩=some (.slice ao rows.length cap):=Z31 hb 1;go_enter Tryz.func104,Tryz.ntmps104
 go_wp2
 go_ret
 exact⟨rfl,rfl⟩
theorem Zvl(fp:List Nat)(w:World)(g n:Nat)(h:g∈fp):Mod fp w (w.freeze ⟨g,0,none⟩ n):=by
 unfold World.freeze;split
 ·exact Mod.refl _ _
 ·refine⟨rfl,rfl,rfl,by simp,λk hk hn=>?_⟩;have:k≠g:=λe=>hn (e▸h);simp[Array.getElem?_modify,Ne.symm this]
theorem Z105:Tryz.prog.follows .mixedOrders=true:=by kernel_rfl
theorem Z106(s:List UInt8):(s.map λb=>[Value.int .u8 (b.toNat:Int)]).flatten=Lib.byteCells s:=by rw[Zsj];simp[Lib.strCells,Lib.byteCells]
theorem Zkv:Tryz.prog.cellsOf 5=1:=by kernel_rfl
set_option maxRecDepth 100000 in
theorem Zvm(ty b:Nat)(p v:Value)(rest:List Value)(l:List UInt8)(w:World) (hb:w.heap[b]?=some (.cells (p::v::rest).toArray ty (0,0))) (hown0:owns w v 5 [.int .u8] (l.map λb=>[Value.int .u8 (b.toNat:Int)])) : Calls Tryz.prog 105 #[.pointer (some ⟨b,0,none⟩)] w λe w'=>e=.returned (.string ⟨l.toArray⟩)/\Mod v.ownBlock.toList w w':=by
 have hown:=hown0.2;rw[Z106,qy3]at hown;have mixed:=Z105;have hlt:b<w.heap.size:=(Array.getElem?_eq_some_iff.1 hb).1;have hUS:∀W q,(Builtin.unsafeString_ #[207,3] 9 #[.pointer q,.int .i64 0]).run Tryz.prog W=.ok (.string .empty) W:=λW q=>Lib.run_unsafeString_none W _ _ _ q;rcases hown.2 with⟨rfl,hl0⟩|⟨g,cap,cur,rfl,hbg,hg,hnc,hcm,hcs,htake⟩
 ·have hl:l=[]:=List.eq_nil_of_length_eq_zero hl0;subst hl;have c1:w.drew.cell? ⟨b,1,none⟩=some (.slice none 0 0):=Z31 (w:=w.drew) hb 1;have hSD:(Builtin.unsafeSliceData_ #[158] 207 #[.slice none 0 0]).run Tryz.prog w.drew=.ok (.pointer none) w.drew:=rfl;go_enter Tryz.func105,Tryz.ntmps105
  go_wp2
  go_region_o
  all_goals (go_wp2;go_ret;exact⟨rfl,Mod.drew _ w⟩)
 ·by_cases hl0:l=[]
  ·subst hl0;by_cases hc0:cap=0
   ·subst hc0;have c1:w.drew.cell? ⟨b,1,none⟩=some (.slice (some ⟨g,0,none⟩) 0 0):=Z31 (w:=w.drew) hb 1;have hSD:(Builtin.unsafeSliceData_ #[158] 207 #[.slice (some ⟨g,0,none⟩) 0 0]).run Tryz.prog w.drew=.ok (.pointer (some ⟨w.drew.heap.size,0,none⟩)) (w.drew.alloc (.view ⟨g,0,none⟩ 5)) :=
     Lib.run_unsafeSliceData_zero w.drew _ _ 5 Tryz.underlying207 ⟨g,0,none⟩ 0 (5,cur.size) (by have hg':w.drew.heap[g]?=some (.cells cur 5 (0,0)):=hg;simp[World.shape?,hg'])
    have c2:(w.drew.alloc (.view ⟨g,0,none⟩ 5)).cell? ⟨b,1,none⟩=some (.slice (some ⟨g,0,none⟩) 0 0):=by have:(w.drew.alloc (.view ⟨g,0,none⟩ 5)).heap[b]?=_:=(Lib.alloc_old w.drew _ b hlt).trans hb;exact Z31 this 1
    have c3:(w.alloc (.view ⟨g,0,none⟩ 5)).drew.cell? ⟨b,1,none⟩=some (.slice (some ⟨g,0,none⟩) 0 0):=c2;have c0:w.cell? ⟨b,1,none⟩=some (.slice (some ⟨g,0,none⟩) 0 0):=c1;go_enter Tryz.func105,Tryz.ntmps105
    go_wp2
    go_region_o
    all_goals (go_wp2;go_ret;exact⟨rfl,(Mod.drew _ w).trans (Mod.alloc _ _ _) (λk hk=>.inl hk)⟩)
   ·have c1:w.drew.cell? ⟨b,1,none⟩=some (.slice (some ⟨g,0,none⟩) 0 cap):=Z31 (w:=w.drew) hb 1;have hSD:(Builtin.unsafeSliceData_ #[158] 207 #[.slice (some ⟨g,0,none⟩) 0 cap]).run Tryz.prog w.drew=.ok (.pointer (some ⟨g,0,none⟩)) w.drew :=
     Lib.run_unsafeSliceData_row _ _ _ _ _ _ hc0
    clear hc0;go_enter Tryz.func105,Tryz.ntmps105
    go_wp2
    go_region_o
    all_goals (go_wp2;go_ret;exact⟨rfl,Mod.drew _ w⟩)
  ·have hl1:l.length≠0:=by simpa using hl0
   have c1:w.drew.cell? ⟨b,1,none⟩=some (.slice (some ⟨g,0,none⟩) l.length cap):=Z31 (w:=w.drew) hb 1;have hSD:(Builtin.unsafeSliceData_ #[158] 207 #[.slice (some ⟨g,0,none⟩) l.length cap]).run Tryz.prog w.drew=.ok (.pointer (some ⟨g,0,none⟩)) w.drew :=
    Lib.run_unsafeSliceData_row _ _ _ _ _ _ (by omega)
   have hUS':(Builtin.unsafeString_ #[207,3] 9 #[.pointer (some ⟨g,0,none⟩),.int .i64 l.length]).run Tryz.prog w.drew=.ok (.string ⟨l.toArray⟩) (w.drew.freeze ⟨g,0,none⟩ l.length):=by refine Lib.run_unsafeString_row w.drew 207 3 9 5 Tryz.underlying207 Zkv g cur.size (by have hg':w.drew.heap[g]?=some (.cells cur 5 (0,0)):=hg;simp[World.shape?,hg']) l hl0 (by simp at hcs;omega) (by unfold maxLen at hcm;omega) ?_;intro j x hx;have:=hown.cells (g:=g) rfl j (.int .u8 x.toNat) (by simp[Lib.byteCells,hx]);exact this
   go_enter Tryz.func105,Tryz.ntmps105
   go_wp2
   go_region_o
   all_goals (go_wp2;go_ret;exact⟨rfl,(Mod.drew _ w).trans (Zvl _ _ g _ (by simp[Value.ownBlock])) (λk hk=>.inl hk)⟩)
end Go.Proofs.Y
namespace Go.Proofs.Y
open Go.Sx
theorem Zvn:Z19v 162 2=true:=by kernel_rfl
def byW(l:List UInt8):List (List Value):=l.map λb=>[Value.int .u8 (b.toNat:Int)]
theorem Z19x(a b:List UInt8):byW (a++b)=byW a++byW b:=List.map_append
def okp(p:Value)(b:Nat):Prop:=p=.pointer none\/p=.pointer (some ⟨b,0,none⟩)
theorem okp.sc1{p:Value}{b:Nat}(h:okp p b):sc1 p=p:=by rcases h with rfl|rfl<;>rfl
structure wrS(w:World)(b:Nat)(p q:Value)(l:List UInt8):Prop where
 cells:w.heap[b]?=some (.cells [Sx.sc1 p,Sx.sc1 q].toArray 162 (0,0))
 ok:okp p b
 own:owns w q 5 [.int .u8] (byW l)
theorem wrS.ne{w:World}{b:Nat}{p q:Value}{l:List UInt8}(h:wrS w b p q l){k:Nat}(hk:Z2 q k):k≠b:=λe=>by
 subst e;have hk:q.ownBlock=some k:=hk;rcases h.own.2.2 with⟨hv,-⟩|⟨g,cap,cur,hv,-,hg,-⟩
 ·rw[hv]at hk;cases hk
 ·rw[hv]at hk;simp[Value.ownBlock]at hk;subst hk;have hb:=h.cells;rw[hb]at hg;simp at hg
def fpW(b:Nat)(q:Value):List Nat:=[b]++(q.ownBlock.toList++[])
def Zkw(w w':World)(b:Nat)(q:Value)(l:List UInt8):Prop :=
 ∃p' q',wrS w' b p' q' l/\Mod (fpW b q) w w'/\∀k,Z2 q' k->w.heap.size<=k\/k∈q.ownBlock.toList++[]
theorem Z19y(w:World)(b:Nat)(p q:Value)(l s:List UInt8)(h:wrS w b p q l)(hl:l.length+s.length<=140737488355328) : Calls Tryz.prog 141 #[.pointer (some ⟨b,0,none⟩),.string ⟨s.toArray⟩] w λe w'=>e=.returned (.tuple #[.int .i64 s.length,.nilIface])/\Zkw w w' b q (l++s):=by have hq:sc1 q=q:=h.own.reads.sc1;have hc:=h.cells;rw[h.ok.sc1,hq]at hc;refine(Zgb 162 b p q [] _ s w Zvn (by decide) hc h.ok h.own (by simp only[byW,qy3];omega)).mono ?_;rintro e w' ⟨rfl,v',c1,c2,c3,c4⟩;have hv:sc1 v'=v':=c2.reads.sc1;refine⟨rfl,.pointer (some ⟨b,0,none⟩),v',⟨by rw[hv];exact c1,.inr rfl,by rw[Z19x];exact c2⟩,c3.mono λz hz=>.inl ?_,λk hk=>(c4 k hk).imp id λh=>by simpa using h⟩;simpa[fpW]using hz
theorem Z19z{w:World}{b:Nat}{p q:Value}{l:List UInt8}{J:List V}{vb vq vp:Nat}{rds:List Ent}{r:X}(h:wrS w b p q l)(hb:(J.getD vb (.i 0)).toN=b)(hq:(J.getD vq (.i 0)).toV=q) (hp:(J.getD vp (.i 0)).toV=p) (hr:(r.ev J).toR=byW l) (hd:∀e∈rds,e.holds J w/\e.wr=false/\∀k,e.fp J k->k≠b/\¬Z2 q k) : Rel ⟨fpW b q,w⟩ J (.row vq 5 [.int .u8] r::.cells vb 162 [.val (.var vp),.val (.var vq)]::rds) w:=by
 refine⟨Mod.refl _ _,qy2.2 ⟨?_,qy2.2 ⟨?_,λe he=>(hd e he).1⟩⟩,qy2.2 ⟨λ_ k hk=>.inr ?_,qy2.2 ⟨λ_ k hk=>.inr ?_,λe he hw=>?_⟩⟩,List.pairwise_cons.2 ⟨?_,List.pairwise_cons.2 ⟨?_,?_⟩⟩⟩
 ·simp only[Ent.holds];rw[hq,hr];exact h.own
 ·simp only[Ent.holds,List.map_cons,List.map_nil,Sc.ev,X.ev];rw[hb,hq,hp];exact h.cells
 ·have hk:Z2 (J.getD vq (.i 0)).toV k:=hk;rw[hq]at hk;have hk:q.ownBlock=some k:=hk;simp[fpW,hk]
 ·have hk:k=(J.getD vb (.i 0)).toN:=hk;rw[hb]at hk;simp[fpW,hk]
 ·rw[(hd e he).2.1]at hw;cases hw
 ·refine qy2.2 ⟨λ_ k h1 h2=>?_,λe he _ k h1 h2=>?_⟩
  ·have h1:Z2 (J.getD vq (.i 0)).toV k:=h1;have h2:k=(J.getD vb (.i 0)).toN:=h2;rw[hq]at h1;rw[hb]at h2;exact h.ne h1 h2
  ·have h1:Z2 (J.getD vq (.i 0)).toV k:=h1;rw[hq]at h1;exact((hd e he).2.2 k h2).2 h1
 ·intro e he _ k h1 h2;have h1:k=(J.getD vb (.i 0)).toN:=h1;rw[hb]at h1;exact((hd e he).2.2 k h2).1 h1
 ·exact Z6n λe he=>(hd e he).2.1
theorem Zkx{w w':World}{b:Nat}{q:Value}{l:List UInt8}{J:List V}{hp:List Ent}(hr:Rel ⟨fpW b q,w⟩ J hp w'){p' q':Value}(h:wrS w' b p' q' l){vq ty:Nat}{ks:List Kd}{r:X}(hm:Ent.row vq ty ks r∈hp) (hq:(J.getD vq (.i 0)).toV=q'):Zkw w w' b q l:=by
 refine⟨p',q',h,hr.mod,λk hk=>?_⟩;rcases hr.own _ hm rfl k (by show Z2 (J.getD vq (.i 0)).toV k;rw[hq];exact hk)with h1|h1
 ·exact .inl h1
 ·rcases List.mem_cons.1 h1 with h2|h2
  ·exact absurd h2 (h.ne hk)
  ·exact .inr h2
theorem Zgc(w:World)(b:Nat)(p q:Value)(l t:List UInt8)(h:wrS w b p q l)(hl:l.length+t.length<=100000000000000) : Calls Tryz.prog 138 #[.pointer (some ⟨b,0,none⟩),.string ⟨t.toArray⟩] w λe w'=>e=.returned (.tuple #[])/\Zkw w w' b q (l++txtB t):=by refine Z1 (Z3 (J:=[.n b,.v p,.v q,.r (byW l),.s t]) sxE_ok Tryz.func138 Z76 rfl rfl (Z19z h rfl rfl rfl rfl (by simp)) rfl rfl ?_) rfl;simp only[QQ,Nat.reduceAdd];refine⟨[.s (txtB t)],rfl,λ_ w' _=>Zpo w' t (by omega),?_⟩;simp only[QQ,Nat.reduceAdd];intro w1 hr;refine(Z19y w1 b p q l (txtB t) ⟨hr.at_ 1 rfl,h.ok,hr.at_ 0 rfl⟩ (by rw[Z28];omega)).mono ?_;rintro e w2 ⟨rfl,p1,q1,s1,m1,f1⟩;refine⟨[.i _,.v .nilIface,.a Asrt.tt,.v p1,.v q1,.r (byW _)],rfl,rfl,m1,qy2.2 ⟨s1.cells,qy5 _⟩,qy2.2 ⟨⟨by simp only[Ent.holds,QQ,Nat.reduceAdd];trivial,λz hz=>by simp only[Ent.fp,QQ,Nat.reduceAdd]at hz;exact hz.elim⟩,qy2.2 ⟨⟨s1.own,λz hz=>(f1 z hz).imp id .inr⟩,qy5 _⟩⟩,Zjy rfl Z5,?_⟩;(try simp only[QQ,Nat.reduceAdd]);exact λw' hr=>⟨by trivial,Zkx hr ⟨hr.at_ 2 rfl,s1.ok,hr.at_ 1 rfl⟩ (qy10 _ (qy8 ..)) rfl⟩
theorem Z107(k:Nat)(ns:List Int)(i:Nat)(h:i<ns.length):((ns.take (i+1)).map (numB k)).flatten=((ns.take i).map (numB k)).flatten++numB k (ns.getD i 0):=by rw[List.take_add_one,qy1,qy7 h];simp only[Option.toList_some,Option.getD_some,List.map_append,List.map_cons,List.map_nil,List.flatten_append,List.flatten_cons,List.flatten_nil,List.append_nil]
theorem Zna(k:Nat)(ns:List Int):((ns.map (numB k)).flatten).length=ns.length*k:=by
 induction ns with
 | nil=>simp
 | cons n ns ih=>simp[ih,Zw,Nat.succ_mul];omega
theorem Zdl(w:World)(b:Nat)(p q:Value)(l:List UInt8)(k:Nat)(lv:Value)(ns:List Int)(h:wrS w b p q l)(hk:k<=2)(hv:Z2w w lv ns)(ha:∀k,(ns.map Zh).flatten≠[]/\Z2 lv k->k≠b/\¬Z2 q k) (hn:∀n∈ns,0<=n/\n<=65535) (hl:l.length<=10000000000000) (hl2:ns.length<=1000000000) : Calls Tryz.prog 139 #[.pointer (some ⟨b,0,none⟩),.int .i64 k,sc1 lv] w λe w'=>e=.returned (.tuple #[])/\Zkw w w' b q (l++(ns.map (numB k)).flatten):=by
  refine Z1 (Z3 (J:=[.n b,.v p,.v q,.r (byW l),.i k,.v lv,.r (ns.map Zh)]) sxE_ok Tryz.func139 Z87 rfl rfl
    (Z19z h rfl rfl rfl rfl (qy2.2 ⟨⟨hv,rfl,ha⟩,qy5 _⟩)) rfl rfl ?_) rfl
  simp only[QQ,Nat.reduceAdd];refine⟨λvs=>∃(i:Nat) (p' q':Value),vs=[.i i,.v p',.v q',.r (byW (l++((ns.take i).map (numB k)).flatten))]/\i<=ns.length/\okp p' b,λvs=>ns.length - (vs.getD 0 (.i 0)).toI.toNat,⟨0,p,q,by simp,by omega,h.ok⟩,?_⟩;rintro _ - ⟨i,p',q',rfl,hi,hp'⟩;simp only[QQ,Nat.reduceAdd,qy3,qy4,gI0];refine⟨λh1=>⟨by omega,?_⟩,λh1 w' hr=>?_⟩
  . have hni:0<=ns.getD i 0/\ns.getD i 0<=65535:=by
      rw[qy1,qy7 (by omega)];exact hn _ (List.getElem_mem _)
    refine⟨[.s (numB k (ns.getD i 0))],rfl,λ_ w' _=>Zkm w' _ k (by omega) hni.1 (by omega),?_⟩;simp only[QQ,Nat.reduceAdd];intro w1 hr;have hlen:(l++((ns.take i).map (numB k)).flatten).length<=10000000000000+1000000000*2:=by
      rw[qy11,Zna];have h1:(ns.take i).length<=1000000000:=by simp;omega
      have:=Nat.mul_le_mul h1 hk;omega
    refine(Z19y w1 b p' q' _ (numB k (ns.getD i 0)) ⟨hr.at_ 1 rfl,hp',hr.at_ 0 rfl⟩ (by rw[Zw];omega)).mono ?_;rintro e w2 ⟨rfl,p1,q1,s1,m1,f1⟩;refine⟨[.i _,.v .nilIface,.a Asrt.tt,.v p1,.v q1,.r (byW _)],rfl,rfl,m1,qy2.2 ⟨s1.cells,qy5 _⟩,qy2.2 ⟨⟨by simp only[Ent.holds,QQ,Nat.reduceAdd];trivial,λz hz=>by simp only[Ent.fp,QQ,Nat.reduceAdd]at hz;exact hz.elim⟩,qy2.2 ⟨⟨s1.own,λz hz=>(f1 z hz).imp id .inr⟩,qy5 _⟩⟩,Zjy rfl Z5,?_⟩;(try simp only[QQ,Nat.reduceAdd]);refine⟨by omega,by omega,⟨i+1,p1,q1,?_,by omega,s1.ok⟩,by omega⟩;rw[Z107 k ns i (by omega),List.append_assoc];rfl
  . have:i=ns.length:=by omega
    subst this;rw[List.take_length]at hr;exact⟨by trivial,Zkx hr ⟨hr.at_ 1 rfl,hp',hr.at_ 0 rfl⟩ (qy8 ..) rfl⟩
structure ByteP(p:Pkt):Prop where
 kind:0<=p.kind/\p.kind<=15
 qos:0<=p.qos/\p.qos<=3
 id:0<=p.id/\p.id<=65535
 keep:0<=p.keep/\p.keep<=65535
 code:0<=p.code/\p.code<=65535
 asks:∀a∈p.asks,0<=a.2/\a.2<=65535
 codes:∀c∈p.codes,0<=c/\c<=65535
 small:SmallP p
 body:(Z7e p).length<268435456
theorem ByteP.ask{p:Pkt}(h:ByteP p)(i:Nat):0<=(p.asks.getD i aD).2/\(p.asks.getD i aD).2<=65535:=by
 by_cases hi:i<p.asks.length
 ·rw[qy1,qy7 hi];exact h.asks _ (List.getElem_mem hi)
 ·rw[qy1,List.getElem?_eq_none (by omega)];decide
theorem Z108{p:Pkt}(h:SmallP p):(Z8a p).length<=2000000000:=by
 have h1:=h.client;have h2:=h.topic;unfold Z8a;split
 ·simp only[qy11,Z28,Zw,List.length_cons,List.length_nil];omega
 ·split
  ·simp only[qy11,Zw];omega
  ·split
   ·rw[Z28];omega
   ·simp
def idP(p:Pkt):List UInt8:=if idB p=true then numB 2 p.id else[]
theorem Z1a0(p:Pkt):(idP p).length<=2:=by unfold idP;split<;>simp[Zw]
def asB(p:Pkt)(i:Nat):List UInt8:=Z8a p++idP p++p.payload++((p.asks.take i).map (Z2v p.kind)).flatten
theorem Z1a1{p:Pkt}(h:ByteP p)(i:Nat):(asB p i).length<268435456:=by
 refine Nat.lt_of_le_of_lt ?_ h.body;unfold Z7e asB idP;have:((p.asks.take i).map (Z2v p.kind)).flatten.length<=(p.asks.map (Z2v p.kind)).flatten.length:=by
  conv=>rhs;rw[<- List.take_append_drop i p.asks,List.map_append,List.flatten_append,qy11]
  omega
 simp only[qy11];omega
theorem Z15d(p:Pkt):asB p 0=Z8a p++idP p++p.payload:=by simp[asB]
theorem Zsk(p:Pkt)(i:Nat)(h:i<p.asks.length):asB p (i+1)=asB p i++Z2v p.kind (p.asks.getD i aD):=by unfold asB;rw[List.take_add_one,qy1,qy7 h];simp only[Option.toList_some,Option.getD_some,List.map_append,List.map_cons,List.map_nil,List.flatten_append,List.flatten_cons,List.flatten_nil,List.append_nil,List.append_assoc]
theorem Z1a2(p:Pkt):asB p p.asks.length++(p.codes.map (numB 1)).flatten=Z7e p:=by rw[asB,List.take_length];rfl
section
variable (w:World) (b:Nat) (p:Pkt) (u v:Value)
set_option maxRecDepth 10000 in
theorem Z1a3(p0 q0:Value)(hu:Z3i w u p.asks)(hv:Z2w w v p.codes)(hB:ByteP p)(hw:wrS w b p0 q0 []) (hua:∀k,(p.asks.map encA).flatten≠[]/\Z2 u k->k≠b/\¬Z2 q0 k) (hva:∀k,(p.codes.map Zh).flatten≠[]/\Z2 v k->k≠b/\¬Z2 q0 k) : Calls Tryz.prog 100 #[.pointer (some ⟨b,0,none⟩),pV p u v] w λe w'=>e=.returned (.tuple #[])/\Zkw w w' b q0 (Z7e p):=by
  refine Z1 (Z3 (J:=[.n b,.v p0,.v q0,.r (byW []),.i p.kind,.b p.dup,.b p.retain,.b p.clean,.b p.session,.i p.qos,.i p.id,.i p.keep,.i p.code,.s p.client,.s p.topic,.s p.payload,.v u,.r (p.asks.map encA),.v v,.r (p.codes.map Zh)]) (sxE_ok.joins _) Tryz.func100 Z73 rfl rfl
    (Z19z hw rfl rfl rfl rfl (qy2.2 ⟨⟨hu,rfl,hua⟩,qy2.2 ⟨⟨hv,rfl,hva⟩,qy5 _⟩⟩)) rfl rfl ?_) rfl
  have hs:=hB.small;have hcl:=hs.client;have htp:=hs.topic;have hpl:=hs.payload;have hna:=hs.asks;have hnc:=hs.codes;have hhl:=Z108 hs;have hil:=Z1a0 p;simp only[QQ,Nat.reduceAdd];intro bc;refine⟨λvs=>∃p' q',vs=[.v p',.v q',.r (byW (Z8a p))]/\okp p' b,⟨λh1=>?_,λh1=>⟨λh2=>?_,λh2=>⟨λh3=>?_,λh3=>?_⟩⟩⟩,?_⟩
  . intro w1 hr;refine(Zgc w1 b p0 q0 [] [77,81,84,84] ⟨hr.at_ 2 rfl,hw.ok,hr.at_ 1 rfl⟩ (by decide)).mono ?_;rintro e w2 ⟨rfl,p1,q1,s1,m1,f1⟩;refine⟨[.v p1,.v q1,.r (byW _)],rfl,rfl,m1,qy2.2 ⟨s1.cells,qy5 _⟩,qy2.2 ⟨⟨s1.own,λz hz=>(f1 z hz).imp id .inr⟩,qy5 _⟩,Z5,?_⟩;(try simp only[QQ,Nat.reduceAdd]);have go:∀n:Int,n=bit p.clean 2->Z8a p=[]++txtB [77,81,84,84]++(([4,n]:List Int).map (numB 1)).flatten++(([p.keep]:List Int).map (numB 2)).flatten++txtB p.client:=λn hn=>by
      rw[Z8a,if_pos h1,hn];simp
    refine⟨λhc=>?_,λhc=>?_⟩
    . intro v1 w3 hr;have hn4:∀n∈([4,2]:List Int),0<=n/\n<=65535:=by decide
      refine(Zdl w3 b p1 q1 _ 1 v1 [4,2] ⟨hr.at_ 3 rfl,s1.ok,hr.at_ 1 rfl⟩ (by omega) (owns.reads (hr.at_ 0 rfl)) (λk hk=>⟨λe=>Zp.disj hr.sep (i:=0) (j:=3) rfl rfl (by decide) (.inl rfl) (k:=k) hk.2 e,λhb=>Zp.disj hr.sep (i:=0) (j:=1) rfl rfl (by decide) (.inl rfl) (k:=k) hk.2 hb⟩) hn4 (by decide) (by decide)).mono ?_;have o1:=s1.ok;clear s1 m1 f1;rintro e w4 ⟨rfl,p1,q1,s1,m1,f1⟩;refine⟨[.v p1,.v q1,.r (byW _)],rfl,rfl,m1,qy2.2 ⟨s1.cells,qy5 _⟩,qy2.2 ⟨⟨s1.own,λz hz=>(f1 z hz).imp id .inr⟩,qy5 _⟩,Z5,?_⟩;(try simp only[QQ,Nat.reduceAdd]);intro v2 w5 hr;refine(Zdl w5 b p1 q1 _ 2 v2 [p.keep] ⟨hr.at_ 4 rfl,s1.ok,hr.at_ 1 rfl⟩ (by omega) (owns.reads (hr.at_ 0 rfl)) (λk hk=>⟨λe=>Zp.disj hr.sep (i:=0) (j:=4) rfl rfl (by decide) (.inl rfl) (k:=k) hk.2 e,λhb=>Zp.disj hr.sep (i:=0) (j:=1) rfl rfl (by decide) (.inl rfl) (k:=k) hk.2 hb⟩) (by simpa using hB.keep) (by decide) (by simp)).mono ?_;have o2:=s1.ok;clear s1 m1 f1;rintro e w6 ⟨rfl,p1,q1,s1,m1,f1⟩;refine⟨[.v p1,.v q1,.r (byW _)],rfl,rfl,m1,qy2.2 ⟨s1.cells,qy5 _⟩,qy2.2 ⟨⟨s1.own,λz hz=>(f1 z hz).imp id .inr⟩,qy5 _⟩,Z5,?_⟩;(try simp only[QQ,Nat.reduceAdd]);intro w7 hr;refine(Zgc w7 b p1 q1 _ p.client ⟨hr.at_ 4 rfl,s1.ok,hr.at_ 0 rfl⟩ (by simp only[qy11,Z28,List.map_cons,List.map_nil,List.flatten_cons,List.flatten_nil,Zw,List.length_nil,List.length_cons];omega)).mono ?_;clear s1 m1 f1;rintro e w8 ⟨rfl,p1,q1,s1,m1,f1⟩;refine⟨[.v p1,.v q1,.r (byW _)],rfl,rfl,m1,qy2.2 ⟨s1.cells,qy5 _⟩,qy2.2 ⟨⟨s1.own,λz hz=>(f1 z hz).imp id .inr⟩,qy5 _⟩,Z5,?_⟩;(try simp only[QQ,Nat.reduceAdd]);exact⟨p1,q1,by rw[go 2 (by simp[bit,hc])];rfl,s1.ok⟩
    . intro v1 w3 hr;have hn4:∀n∈([4,0]:List Int),0<=n/\n<=65535:=by decide
      refine(Zdl w3 b p1 q1 _ 1 v1 [4,0] ⟨hr.at_ 3 rfl,s1.ok,hr.at_ 1 rfl⟩ (by omega) (owns.reads (hr.at_ 0 rfl)) (λk hk=>⟨λe=>Zp.disj hr.sep (i:=0) (j:=3) rfl rfl (by decide) (.inl rfl) (k:=k) hk.2 e,λhb=>Zp.disj hr.sep (i:=0) (j:=1) rfl rfl (by decide) (.inl rfl) (k:=k) hk.2 hb⟩) hn4 (by decide) (by decide)).mono ?_;clear s1 m1 f1;rintro e w4 ⟨rfl,p1,q1,s1,m1,f1⟩;refine⟨[.v p1,.v q1,.r (byW _)],rfl,rfl,m1,qy2.2 ⟨s1.cells,qy5 _⟩,qy2.2 ⟨⟨s1.own,λz hz=>(f1 z hz).imp id .inr⟩,qy5 _⟩,Z5,?_⟩;(try simp only[QQ,Nat.reduceAdd]);intro v2 w5 hr;refine(Zdl w5 b p1 q1 _ 2 v2 [p.keep] ⟨hr.at_ 4 rfl,s1.ok,hr.at_ 1 rfl⟩ (by omega) (owns.reads (hr.at_ 0 rfl)) (λk hk=>⟨λe=>Zp.disj hr.sep (i:=0) (j:=4) rfl rfl (by decide) (.inl rfl) (k:=k) hk.2 e,λhb=>Zp.disj hr.sep (i:=0) (j:=1) rfl rfl (by decide) (.inl rfl) (k:=k) hk.2 hb⟩) (by simpa using hB.keep) (by decide) (by simp)).mono ?_;clear s1 m1 f1;rintro e w6 ⟨rfl,p1,q1,s1,m1,f1⟩;refine⟨[.v p1,.v q1,.r (byW _)],rfl,rfl,m1,qy2.2 ⟨s1.cells,qy5 _⟩,qy2.2 ⟨⟨s1.own,λz hz=>(f1 z hz).imp id .inr⟩,qy5 _⟩,Z5,?_⟩;(try simp only[QQ,Nat.reduceAdd]);intro w7 hr;refine(Zgc w7 b p1 q1 _ p.client ⟨hr.at_ 4 rfl,s1.ok,hr.at_ 0 rfl⟩ (by simp only[qy11,Z28,List.map_cons,List.map_nil,List.flatten_cons,List.flatten_nil,Zw,List.length_nil,List.length_cons];omega)).mono ?_;clear s1 m1 f1;rintro e w8 ⟨rfl,p1,q1,s1,m1,f1⟩;refine⟨[.v p1,.v q1,.r (byW _)],rfl,rfl,m1,qy2.2 ⟨s1.cells,qy5 _⟩,qy2.2 ⟨⟨s1.own,λz hz=>(f1 z hz).imp id .inr⟩,qy5 _⟩,Z5,?_⟩;(try simp only[QQ,Nat.reduceAdd]);exact⟨p1,q1,by rw[go 0 (by simp[bit,hc])];rfl,s1.ok⟩
  . have go:∀n:Int,n=bit p.session 1->Z8a p=[]++(([n,p.code]:List Int).map (numB 1)).flatten:=λn hn=>by
      rw[Z8a,if_neg h1,if_pos h2,hn];simp
    have one:∀n:Int,n=bit p.session 1->(0<=n/\n<=65535)->∀(v1:Value) (w3:World),Z2w w3 v1 [n,p.code]->wrS w3 b p0 q0 []->(∀k,(([n,p.code]:List Int).map Zh).flatten≠[]/\Z2 v1 k->k≠b/\¬Z2 q0 k) ->
        Calls Tryz.prog 139 #[.pointer (some ⟨b,0,none⟩),.int .i64 1,sc1 v1] w3 λe w'=>e=.returned (.tuple #[])/\Zkw w3 w' b q0 (Z8a p):=λn hn h0 v1 w3 hv1 hw3 ha=>by
      have h9:=hB.code;rw[go n hn];exact Zdl w3 b p0 q0 _ 1 v1 [n,p.code] hw3 (by omega) hv1 ha (by simp;omega) (by decide) (by simp)
    have c1:p.session=true->(1:Int)=bit p.session 1:=λh=>by simp[bit,h]
    have c0:¬p.session=true->(0:Int)=bit p.session 1:=λh=>by simp[bit,h]
    refine⟨⟨λhc=>?_,λhc=>?_⟩,⟨λhc=>?_,λhc=>?_⟩⟩;all_goals
      intro v1 w3 hr;first
      | refine(one 1 (c1 hc) (by decide) v1 w3 (owns.reads (hr.at_ 0 rfl)) ⟨hr.at_ 3 rfl,hw.ok,hr.at_ 2 rfl⟩ (λk hk=>⟨λe=>Zp.disj hr.sep (i:=0) (j:=3) rfl rfl (by decide) (.inl rfl) (k:=k) hk.2 e,λhb=>Zp.disj hr.sep (i:=0) (j:=2) rfl rfl (by decide) (.inl rfl) (k:=k) hk.2 hb⟩)).mono ?_
      | refine(one 0 (c0 hc) (by decide) v1 w3 (owns.reads (hr.at_ 0 rfl)) ⟨hr.at_ 3 rfl,hw.ok,hr.at_ 2 rfl⟩ (λk hk=>⟨λe=>Zp.disj hr.sep (i:=0) (j:=3) rfl rfl (by decide) (.inl rfl) (k:=k) hk.2 e,λhb=>Zp.disj hr.sep (i:=0) (j:=2) rfl rfl (by decide) (.inl rfl) (k:=k) hk.2 hb⟩)).mono ?_
      rintro e w4 ⟨rfl,p1,q1,s1,m1,f1⟩;refine⟨[.v p1,.v q1,.r (byW _)],rfl,rfl,m1,qy2.2 ⟨s1.cells,qy5 _⟩,qy2.2 ⟨⟨s1.own,λz hz=>(f1 z hz).imp id .inr⟩,qy5 _⟩,Z5,?_⟩;(try simp only[QQ,Nat.reduceAdd]);exact⟨p1,q1,rfl,s1.ok⟩
  . intro w1 hr;refine(Zgc w1 b p0 q0 [] p.topic ⟨hr.at_ 2 rfl,hw.ok,hr.at_ 1 rfl⟩ (by simp only[List.length_nil];omega)).mono ?_;rintro e w2 ⟨rfl,p1,q1,s1,m1,f1⟩;refine⟨[.v p1,.v q1,.r (byW _)],rfl,rfl,m1,qy2.2 ⟨s1.cells,qy5 _⟩,qy2.2 ⟨⟨s1.own,λz hz=>(f1 z hz).imp id .inr⟩,qy5 _⟩,Z5,?_⟩;(try simp only[QQ,Nat.reduceAdd]);exact⟨p1,q1,by rw[Z8a,if_neg h1,if_neg h2,if_pos h3],s1.ok⟩
  . exact⟨p0,q0,by rw[Z8a,if_neg h1,if_neg h2,if_neg h3],hw.ok⟩
  rintro _ - ⟨p1,q1,rfl,o1⟩;simp only[QQ,Nat.reduceAdd];refine⟨[.b (idB p)],rfl,λ_ w' hr=>Z14s w' p u v (hr.at_ 3 rfl) (hr.at_ 4 rfl),?_⟩;simp only[QQ,Nat.reduceAdd];refine⟨λvs=>∃p' q',vs=[.v p',.v q',.r (byW (Z8a p++idP p))]/\okp p' b,⟨λh1=>?_,λh1=>?_⟩,?_⟩
  . intro v1 w3 hr;refine(Zdl w3 b p1 q1 _ 2 v1 [p.id] ⟨hr.at_ 3 rfl,o1,hr.at_ 2 rfl⟩ (by omega) (owns.reads (hr.at_ 0 rfl)) (λk hk=>⟨λe=>Zp.disj hr.sep (i:=0) (j:=3) rfl rfl (by decide) (.inl rfl) (k:=k) hk.2 e,λhb=>Zp.disj hr.sep (i:=0) (j:=2) rfl rfl (by decide) (.inl rfl) (k:=k) hk.2 hb⟩) (by simpa using hB.id) (by omega) (by simp)).mono ?_;rintro e w4 ⟨rfl,p1,q1,s1,m1,f1⟩;refine⟨[.v p1,.v q1,.r (byW _)],rfl,rfl,m1,qy2.2 ⟨s1.cells,qy5 _⟩,qy2.2 ⟨⟨s1.own,λz hz=>(f1 z hz).imp id .inr⟩,qy5 _⟩,Z5,?_⟩;(try simp only[QQ,Nat.reduceAdd]);exact⟨p1,q1,by rw[idP,if_pos h1];simp,s1.ok⟩
  . exact⟨p1,q1,by rw[idP,if_neg h1,List.append_nil],o1⟩
  rintro _ - ⟨p2,q2,rfl,o2⟩;simp only[QQ,Nat.reduceAdd];intro w1 hr;refine(Z19y w1 b p2 q2 _ p.payload ⟨hr.at_ 2 rfl,o2,hr.at_ 1 rfl⟩ (by simp only[qy11];omega)).mono ?_;rintro e w2 ⟨rfl,p1,q1,s1,m1,f1⟩;refine⟨[.i _,.v .nilIface,.a Asrt.tt,.v p1,.v q1,.r (byW _)],rfl,rfl,m1,qy2.2 ⟨s1.cells,qy5 _⟩,qy2.2 ⟨⟨by simp only[Ent.holds,QQ,Nat.reduceAdd];trivial,λz hz=>by simp only[Ent.fp,QQ,Nat.reduceAdd]at hz;exact hz.elim⟩,qy2.2 ⟨⟨s1.own,λz hz=>(f1 z hz).imp id .inr⟩,qy5 _⟩⟩,Zjy rfl Z5,?_⟩;(try simp only[QQ,Nat.reduceAdd]);refine⟨λvs=>∃(i:Nat) (p' q':Value),vs=[.i i,.v p',.v q',.r (byW (asB p i))]/\i<=p.asks.length/\okp p' b,λvs=>p.asks.length - (vs.getD 0 (.i 0)).toI.toNat,⟨0,p1,q1,by rw[Z15d];rfl,by omega,s1.ok⟩,?_⟩;clear s1 m1 f1 hr;rintro _ - ⟨i,p3,q3,rfl,hi,o3⟩;simp only[QQ,Nat.reduceAdd,qy3,qy4,gA0,gA1];have hal:=Z1a1 hB i;refine⟨λh1=>⟨by omega,λbx w3 hr=>?_⟩,λh1 w3 hr=>?_⟩
  . have hf:=hs.at_ i;have hq:=hB.ask i;refine(Zgc w3 b p3 q3 _ (p.asks.getD i aD).1 ⟨hr.at_ 4 rfl,o3,hr.at_ 2 rfl⟩ (by omega)).mono ?_;rintro e w4 ⟨rfl,p1,q1,s1,m1,f1⟩;refine⟨[.v p1,.v q1,.r (byW _)],rfl,rfl,m1,qy2.2 ⟨s1.cells,qy5 _⟩,qy2.2 ⟨⟨s1.own,λz hz=>(f1 z hz).imp id .inr⟩,qy5 _⟩,Z5,?_⟩;(try simp only[QQ,Nat.reduceAdd]);refine⟨λhk=>?_,λhk=>?_⟩
    . intro v1 w5 hr;have e0:=hr.at_ 0 rfl;simp only[Ent.holds,QQ,Nat.reduceAdd,qy4,gA1]at e0;refine(Zdl w5 b p1 q1 _ 1 v1 [(p.asks.getD i aD).2] ⟨hr.at_ 5 rfl,s1.ok,hr.at_ 1 rfl⟩ (by omega) (owns.reads e0) (λk hk=>⟨λe=>Zp.disj hr.sep (i:=0) (j:=5) rfl rfl (by decide) (.inl rfl) (k:=k) hk.2 e,λhb=>Zp.disj hr.sep (i:=0) (j:=1) rfl rfl (by decide) (.inl rfl) (k:=k) hk.2 hb⟩) (by simpa using hq) (by simp only[qy11,Z28];omega) (by simp)).mono ?_;clear s1 m1 f1;rintro e w6 ⟨rfl,p1,q1,s1,m1,f1⟩;refine⟨[.v p1,.v q1,.r (byW _)],rfl,rfl,m1,qy2.2 ⟨s1.cells,qy5 _⟩,qy2.2 ⟨⟨s1.own,λz hz=>(f1 z hz).imp id .inr⟩,qy5 _⟩,Z5,?_⟩;(try simp only[QQ,Nat.reduceAdd]);refine⟨by omega,by omega,⟨i+1,p1,q1,?_,by omega,s1.ok⟩,by omega⟩;rw[Zsk p i (by omega),Z2v,if_pos hk];simp
    . refine⟨by omega,by omega,⟨i+1,p1,q1,?_,by omega,s1.ok⟩,by omega⟩;rw[Zsk p i (by omega),Z2v,if_neg hk,List.append_nil];rfl
  . have:i=p.asks.length:=by omega
    subst this;refine(Zdl w3 b p3 q3 _ 1 v p.codes ⟨hr.at_ 3 rfl,o3,hr.at_ 1 rfl⟩ (by omega) (hr.at_ 5 rfl) (λk hk=>⟨λe=>Zp.disj hr.sep (i:=5) (j:=3) rfl rfl (by decide) (.inr rfl) (k:=k) hk e,λhb=>Zp.disj hr.sep (i:=5) (j:=1) rfl rfl (by decide) (.inr rfl) (k:=k) hk hb⟩) hB.codes (by omega) (by omega)).mono ?_;rintro e w4 ⟨rfl,p1,q1,s1,m1,f1⟩;refine⟨[.v p1,.v q1,.r (byW _)],rfl,rfl,m1,qy2.2 ⟨s1.cells,qy5 _⟩,qy2.2 ⟨⟨s1.own,λz hz=>(f1 z hz).imp id .inr⟩,qy5 _⟩,Z5,?_⟩;(try simp only[QQ,Nat.reduceAdd]);intro w' hr;rw[Z1a2]at hr;exact⟨by trivial,Zkx hr ⟨hr.at_ 3 rfl,s1.ok,hr.at_ 0 rfl⟩ (qy8 ..) rfl⟩
end
end Go.Proofs.Y
namespace Go.Proofs.Y
open Go.Sx
def pkOf(p:Pk):Pkt:={ pD_Q 3 with dup:=p.1,qos:=p.2.1,id:=p.2.2.1,topic:=p.2.2.2.1,payload:=p.2.2.2.2 }
structure Snt where
 client:List UInt8
 pk:Pkt
 peer:Int
 msg:Msg
abbrev toC(c:List UInt8)(p:Pkt):Snt:=⟨c,p,0,mNil⟩
abbrev toP(n:Int)(m:Msg):Snt:=⟨[],pD_Q 0,n,m⟩
structure Tel where
 kept:List Kp
 wants:List Wt
 sess:List Ses
 wat:List Wat
 next:Int
 out:List Snt
def idxS(l:List Ses)(c:List UInt8):Nat:=(l.filter λs=>Za s.cl c).length
def hasS(l:List Ses)(c:List UInt8):Bool:=decide (idxS l c<l.length/\(l.getD (idxS l c) s0).cl=c)
def Z5e(l:List Ses):Prop:=l.Pairwise λa b=>Za a.cl b.cl=true
def nx_Z(n:Int):Int:=(n+1) % 65536
def Z1s(n p:List UInt8)(q:Int)(t:Tel)(r:Rd):Tel :=
 { t with sess:=t.sess.set (idxS t.sess r.1) (Z2u (t.sess.getD (idxS t.sess r.1) s0) n p (min q r.2)).1,out:=t.out++(Z2u (t.sess.getD (idxS t.sess r.1) s0) n p (min q r.2)).2.map λk=>toC r.1 (pkOf k) }
def putM(m:Msg)(n:Int):Msg:={ m with opts:=Z152 m.opts 6 [Z2k n] }
def Z65(p:List UInt8)(t:Tel)(w:Wat):Tel:={ t with next:=nx_Z t.next,out:=t.out++[toP w.1 (putM ⟨1,69,t.next,w.2.1,[],p⟩ w.2.2.2)] }
def Z6o(n p:List UInt8)(q:Int)(t:Tel):Tel:=(rdOf n t.wants).foldl (Z1s n p q) t
def Z7g(n p:List UInt8)(q:Int)(t:Tel):Tel:=(Z3x n (Z6o n p q t).wat).foldl (Z65 p) { Z6o n p q t with wat:=Z3c n (Z6o n p q t).wat }
def Z8b(t:Tel)(w:Wat):Tel:={ t with next:=nx_Z t.next,out:=t.out++[toP w.1 ⟨1,132,t.next,w.2.1,[],[]⟩] }
def ofT(n:List UInt8)(w:Wat):Bool:=decide (w.2.2.1=n)
def Z1g(n p:List UInt8)(t:Tel):Tel×Bool :=
 if ¬(rawK t.kept n p).2=0 then(t,false)
 else if ¬p=[]then({ t with kept:=(rawK t.kept n p).1 },true)
 else({ (t.wat.filter (ofT n)).foldl Z8b { t with kept:=(rawK t.kept n p).1 }with wat:=t.wat.filter λw=>!ofT n w },true)
def Zsl(c:List UInt8)(t:Tel):Tel:={ t with wants:=t.wants.filter λw=>decide (¬w.1=c) }
def Z5f(c:List UInt8)(t:Tel):Tel :=
 if hasS t.sess c=true then
  if(goR (t.sess.getD (idxS t.sess c) s0)).clean=true then Zsl c { t with sess:=t.sess.take (idxS t.sess c)++t.sess.drop (idxS t.sess c+1) }
  else { t with sess:=t.sess.set (idxS t.sess c) (goR (t.sess.getD (idxS t.sess c) s0)) }
 else t
def insS(l:List Ses)(c:List UInt8):List Ses:=if hasS l c=true then l else l.take (idxS l c)++[⟨[],false,true,[],[],0⟩]++l.drop (idxS l c)
def Zbs(l:List Ses)(c:List UInt8)(clean:Bool):Bool:=!((insS l c).getD (idxS l c) s0).clean && !clean
def Zdm(l:List Ses)(c:List UInt8)(clean:Bool):Ses:={ (if Zbs l c clean=true then(insS l c).getD (idxS l c) s0 else⟨c,false,false,[],[],1⟩)with clean:=clean }
def Z1n(c:List UInt8)(p:Pkt)(t:Tel):Tel :=
 if ¬p.client=c then t
 else if ¬hasS t.sess c=true/\t.sess.length=6 then { t with out:=t.out++[toC c { pD_Q 2 with code:=3 }] }
 else { t with
  wants:=if Zbs t.sess c p.clean=true then t.wants else t.wants.filter λw=>decide (¬w.1=c)
  sess:=(insS t.sess c).set (idxS t.sess c) (Zfw (Zdm t.sess c p.clean)).1
  out:=t.out++[toC c { pD_Q 2 with session:=Zbs t.sess c p.clean }]++(Zfw (Zdm t.sess c p.clean)).2.map λk=>toC c (pkOf k) }
def Z32(c:List UInt8)(p:Pkt)(t:Tel):Tel :=
 let t1:Tel:=if p.qos=1 then { t with out:=t.out++[toC c { pD_Q 4 with id:=p.id }] }else t
 Z7g p.topic p.payload p.qos (if p.retain=true then(Z1g p.topic p.payload t1).1 else t1)
def Z3f(c:List UInt8)(x:List Wt×List Int)(a:Ak):List Wt×List Int:=if(rawW x.1 (c,a.1,a.2)).2=0 then((rawW x.1 (c,a.1,a.2)).1,x.2++[a.2])else(x.1,x.2++[128])
def Zhu(c:List UInt8)(ws:List Wt)(l:List Ak):List Wt×List Int:=l.foldl (Z3f c) (ws,[])
def Zpx(c:List UInt8)(kept:List Kp)(a:Ak)(q:Int):List Snt:=if q=128 then[]else(kept.filter (forF a.1)).map λk=>toC c { pD_Q 3 with retain:=true,topic:=k.1,payload:=k.2.1 }
def Z3k(c:List UInt8)(kept:List Kp):List Ak->List Int->List Snt
 | a::l,q::m=>Zpx c kept a q++Z3k c kept l m
 | _,_=>[]
def Z2h(c:List UInt8)(p:Pkt)(t:Tel):Tel :=
 { t with wants:=(Zhu c t.wants p.asks).1,out:=t.out++[toC c { pD_Q 9 with id:=p.id,codes:=(Zhu c t.wants p.asks).2 }]++Z3k c t.kept p.asks (Zhu c t.wants p.asks).2 }
def Z1o(c:List UInt8)(p:Pkt)(t:Tel):Tel :=
 { t with wants:=t.wants.filter λw=>!(decide (w.1=c) && p.asks.any λa=>decide (a.1=w.2.1)),out:=t.out++[toC c { pD_Q 11 with id:=p.id }] }
def Znb(c:List UInt8)(p:Pkt)(t:Tel):Tel :=
 { t with sess:=t.sess.set (idxS t.sess c) (Z53 (t.sess.getD (idxS t.sess c) s0) p.id).1,out:=t.out++(Z53 (t.sess.getD (idxS t.sess c) s0) p.id).2.map λk=>toC c (pkOf k) }
def Zy(c:List UInt8)(p:Pkt)(t:Tel):Tel :=
 if ¬p.kind=1/\(¬hasS t.sess c=true\/¬(t.sess.getD (idxS t.sess c) s0).on=true)then t
 else if p.kind=1 then Z1n c p t
 else if p.kind=3 then Z32 c p t
 else if p.kind=4 then Znb c p t
 else if p.kind=8 then Z2h c p t
 else if p.kind=10 then Z1o c p t
 else if p.kind=12 then { t with out:=t.out++[toC c (pD_Q 13)] }
 else if p.kind=14 then Z5f c t
 else t
def getB(n:Int)(m a:Msg)(name:List UInt8)(t:Tel):Tel×Msg :=
 if ¬hasK t.kept name=true then(t,{ a with code:=132 })
 else
  let a1:Msg:={ a with code:=69,pay:=(t.kept.getD (idx t.kept name) kD).2.1 }
  if(Z7f 6 m.opts).2=0/\(Z7f 6 m.opts).1=0 then
   if(Z52 t.wat (n,m.tok,name,1)).2=0 then({ t with wat:=(Z52 t.wat (n,m.tok,name,1)).1 },putM a1 1)else(t,a1)
  else if(Z7f 6 m.opts).2=0/\(Z7f 6 m.opts).1=1 then({ t with wat:=filt n m.tok t.wat },a1)
  else(t,a1)
def Z3o(m:Msg)(next:Int):Msg:=if m.kind=1 then⟨1,133,next,m.tok,[],[]⟩else⟨2,133,m.id,m.tok,[],[]⟩
def doB(n:Int)(m a:Msg)(t:Tel):Tel×Msg :=
 if ¬(Z1f m.opts).2=0 then(t,{ a with code:=128 })
 else if m.code=1 then getB n m a (Z1f m.opts).1 t
 else if m.code=3 then
  if ¬m.pay=[]/\(Z1g (Z1f m.opts).1 m.pay t).2=true then(Z7g (Z1f m.opts).1 m.pay 1 (Z1g (Z1f m.opts).1 m.pay t).1,{ a with code:=68 })else(t,{ a with code:=128 })
 else if m.code=4 then((Z1g (Z1f m.opts).1 [] t).1,{ a with code:=66 })
 else(t,a)
def Z3t(n:Int)(m:Msg)(t:Tel):Tel :=
 let a:=Z3o m t.next
 let x:=doB n m a { t with next:=if m.kind=1 then nx_Z t.next else t.next,out:=t.out++[toP n a] }
 { x.1 with out:=x.1.out.set t.out.length (toP n x.2) }
def Z1e(n:Int)(m:Msg)(t:Tel):Tel :=
 if m.code=0/\m.kind=0 then { t with out:=t.out++[toP n ⟨3,0,m.id,[],[],[]⟩] }
 else if ¬m.code=0/\m.kind<=1 then Z3t n m t
 else t
def Zd1:Option (List UInt8)->List Ses->Int
 | _,[]=>0
 | u,s::l=>if ¬chkS s=0 then chkS s else if(match u with|none=>true|some c=>Za c s.cl)=true then Zd1 (some s.cl) l else 4
def Z5g(l:List Ses):Int:=if 6<(l.length:Int)then 2 else Zd1 none l
def Z16(t:Tel):Bool:=t.wants.any (λw=>!hasS t.sess w.1) || t.wat.any (λw=>!hasK t.kept w.2.2.1)
def chkB(t:Tel):Int :=
 if ¬chkK t.kept=0 then chkK t.kept
 else if ¬Zi t.wants=0 then Zi t.wants
 else if ¬Z5g t.sess=0 then Z5g t.sess
 else if ¬Z10 t.wat=0 then Z10 t.wat
 else if Z16 t=true then 4
 else if t.next<0\/65535<t.next then 3 else 0
open Go
def rdsZ(l:List (Value×List Kd×List (List Value))):Asrt where
 holds w:=∀t∈l,reads w t.1 t.2.1 t.2.2
 fp k:=∃t∈l,t.2.2.flatten≠[]/\Z2 t.1 k
 stable:=λw w' h hh t ht=>(hh t ht).stable λk hk=>h k ⟨t,ht,hk⟩
 bound:=λw hh k ⟨t,ht,hk⟩=>Ent.bound (J:=[.v t.1,.r t.2.2]) (e:=.rd 0 t.2.1 (.var 1)) (hh t ht) hk
abbrev SesX:=Ses×Value×Value
abbrev sxD:SesX:=(s0,.slice none 0 0,.slice none 0 0)
def Zg(t:SesX):List Value:=[.string ⟨t.1.cl.toArray⟩,.bool t.1.on,.bool t.1.clean,sc1 t.2.1,sc1 t.2.2,.int .i64 t.1.next]
abbrev kSx:List Kd:=[.str,.bool,.bool,.oth,.oth,.int .i64]
def sesT(t:SesX):List (Value×List Kd×List (List Value)):=[(t.2.1,kF,t.1.fl.map encF),(t.2.2,kF,t.1.qu.map encF)]
abbrev SntX:=Snt×Value×Value×Value
def Z1r(t:SntX):List Value:=[.string ⟨t.1.client.toArray⟩,
 .int .i64 t.1.pk.kind,.bool t.1.pk.dup,.bool t.1.pk.retain,.bool t.1.pk.clean,.bool t.1.pk.session,.int .i64 t.1.pk.qos,.int .i64 t.1.pk.id,.int .i64 t.1.pk.keep,.int .i64 t.1.pk.code,.string ⟨t.1.pk.client.toArray⟩,.string ⟨t.1.pk.topic.toArray⟩,.string ⟨t.1.pk.payload.toArray⟩,sc1 t.2.1,sc1 t.2.2.1,
 .int .i64 t.1.peer,.int .i64 t.1.msg.kind,.int .i64 t.1.msg.code,.int .i64 t.1.msg.id,.string ⟨t.1.msg.tok.toArray⟩,sc1 t.2.2.2,.string ⟨t.1.msg.pay.toArray⟩]
abbrev kSn:List Kd:=[.str,.int .i64,.bool,.bool,.bool,.bool,.int .i64,.int .i64,.int .i64,.int .i64,.str,.str,.str,.oth,.oth,.int .i64,.int .i64,.int .i64,.int .i64,.str,.oth,.str]
def sntT(t:SntX):List (Value×List Kd×List (List Value)):=[(t.2.1,[.str,.int .i64],t.1.pk.asks.map encA),(t.2.2.1,[.int .i64],t.1.pk.codes.map Zh),(t.2.2.2,[.int .i64,.str],t.1.msg.opts.map encO)]
def nest(l:List SesX)(o:List SntX):List (Value×List Kd×List (List Value)):=l.flatMap sesT++o.flatMap sntT
def Z6(l:List SesX)(o:List SntX):Asrt:=rdsZ (nest l o)
theorem Zz{l:List SesX}{o:List SntX}{w:World}(h:(Z6 l o).holds w){t:SesX}(ht:t∈l):Zu w t.2.1 t.1.fl/\Zu w t.2.2 t.1.qu :=
 ⟨h (t.2.1,kF,t.1.fl.map encF) (List.mem_append_left _ (List.mem_flatMap.2 ⟨t,ht,by simp[sesT]⟩)),h (t.2.2,kF,t.1.qu.map encF) (List.mem_append_left _ (List.mem_flatMap.2 ⟨t,ht,by simp[sesT]⟩))⟩
theorem Z7h{l:List SesX}{o:List SntX}{w:World}(h:(Z6 l o).holds w){t:SntX}(ht:t∈o):Z3i w t.2.1 t.1.pk.asks/\Z2w w t.2.2.1 t.1.pk.codes/\Z3j w t.2.2.2 t.1.msg.opts :=
 ⟨h (t.2.1,[.str,.int .i64],t.1.pk.asks.map encA) (List.mem_append_right _ (List.mem_flatMap.2 ⟨t,ht,by simp[sntT]⟩)),h (t.2.2.1,[.int .i64],t.1.pk.codes.map Zh) (List.mem_append_right _ (List.mem_flatMap.2 ⟨t,ht,by simp[sntT]⟩)),h (t.2.2.2,[.int .i64,.str],t.1.msg.opts.map encO) (List.mem_append_right _ (List.mem_flatMap.2 ⟨t,ht,by simp[sntT]⟩))⟩
theorem Z19{l l':List SesX}{o o':List SntX}{w:World}(h1:∀t∈l',t∈l\/(Zu w t.2.1 t.1.fl/\Zu w t.2.2 t.1.qu))(h2:∀t∈o',t∈o\/(Z3i w t.2.1 t.1.pk.asks/\Z2w w t.2.2.1 t.1.pk.codes/\Z3j w t.2.2.2 t.1.msg.opts))(h:(Z6 l o).holds w):(Z6 l' o').holds w:=by
 intro x hx;rcases qy13.1 hx with hx|hx
 ·obtain⟨t,ht,hx⟩:=List.mem_flatMap.1 hx;have hr:Zu w t.2.1 t.1.fl/\Zu w t.2.2 t.1.qu:=by
   rcases h1 t ht with h3|h3
   ·exact Zz h h3
   ·exact h3
  simp only[sesT,List.mem_cons,List.not_mem_nil,or_false]at hx;rcases hx with rfl|rfl
  ·exact hr.1
  ·exact hr.2
 ·obtain⟨t,ht,hx⟩:=List.mem_flatMap.1 hx;have hr:Z3i w t.2.1 t.1.pk.asks/\Z2w w t.2.2.1 t.1.pk.codes/\Z3j w t.2.2.2 t.1.msg.opts:=by
   rcases h2 t ht with h3|h3
   ·exact Z7h h h3
   ·exact h3
  simp only[sntT,List.mem_cons,List.not_mem_nil,or_false]at hx;rcases hx with rfl|rfl|rfl
  ·exact hr.1
  ·exact hr.2.1
  ·exact hr.2.2
def sesF(t:SesX)(k:Nat):Prop:=((t.1.fl.map encF).flatten≠[]/\Z2 t.2.1 k)\/((t.1.qu.map encF).flatten≠[]/\Z2 t.2.2 k)
def sntF(t:SntX)(k:Nat):Prop:=((t.1.pk.asks.map encA).flatten≠[]/\Z2 t.2.1 k)\/((t.1.pk.codes.map Zh).flatten≠[]/\Z2 t.2.2.1 k)\/((t.1.msg.opts.map encO).flatten≠[]/\Z2 t.2.2.2 k)
theorem Zc{l:List SesX}{o:List SntX}{k:Nat}:(Z6 l o).fp k↔(∃t∈l,sesF t k)\/(∃t∈o,sntF t k):=by
 constructor
 ·rintro⟨x,hx,hk⟩;rcases qy13.1 hx with hx|hx
  ·obtain⟨t,ht,hx⟩:=List.mem_flatMap.1 hx;simp only[sesT,List.mem_cons,List.not_mem_nil,or_false]at hx;rcases hx with rfl|rfl
   ·exact .inl ⟨t,ht,.inl hk⟩
   ·exact .inl ⟨t,ht,.inr hk⟩
  ·obtain⟨t,ht,hx⟩:=List.mem_flatMap.1 hx;simp only[sntT,List.mem_cons,List.not_mem_nil,or_false]at hx;rcases hx with rfl|rfl|rfl
   ·exact .inr ⟨t,ht,.inl hk⟩
   ·exact .inr ⟨t,ht,.inr (.inl hk)⟩
   ·exact .inr ⟨t,ht,.inr (.inr hk)⟩
 ·rintro(⟨t,ht,h|h⟩|⟨t,ht,h|h|h⟩)
  ·exact⟨_,List.mem_append_left _ (List.mem_flatMap.2 ⟨t,ht,qy8 ..⟩),h⟩
  ·exact⟨_,List.mem_append_left _ (List.mem_flatMap.2 ⟨t,ht,qy10 _ (qy8 ..)⟩),h⟩
  ·exact⟨_,List.mem_append_right _ (List.mem_flatMap.2 ⟨t,ht,qy8 ..⟩),h⟩
  ·exact⟨_,List.mem_append_right _ (List.mem_flatMap.2 ⟨t,ht,qy10 _ (qy8 ..)⟩),h⟩
  ·exact⟨_,List.mem_append_right _ (List.mem_flatMap.2 ⟨t,ht,qy10 _ (qy10 _ (qy8 ..))⟩),h⟩
theorem gSx0(l:List SesX)(i:Nat):Value.gS (((l.map Zg).getD i []).getD 0 undef)=(l.getD i sxD).1.cl:=by simp only[qy1,List.getElem?_map];cases l[i]?<;>simp[Zg,Value.gS,undef,s0]
theorem Zbt{l:List SesX}{i:Nat}(h:i<l.length):(l.map Zg).getD i []=Zg (l.getD i sxD):=by rw[qy1,qy1,List.getElem?_map,qy7 h];rfl
theorem Z7i{l:List SesX}{i:Nat}(h:i<l.length):l.getD i sxD∈l:=by rw[qy1,qy7 h];exact List.getElem_mem h
theorem Zpy(l:List SesX)(i:Nat):(l.map (·.1)).getD i s0=(l.getD i sxD).1:=by rw[qy1,qy1,List.getElem?_map];cases l[i]?<;>rfl
