/- By an AI agent. -/
import Derived.Shelf.Small.Strs
import Derived.Shelf.Strings.Search3
import Derived.Shelf.Strings.Count
import Derived.Shelf.Strings.Split
import Derived.Shelf.Strings.IndexAnyAll
import Derived.Test.YtfcofbfbgcbocaaGreatDoorProg
import Derived.Test.YtfcofbfbgcbocaaGreatDoorR08
set_option linter.all false
set_option maxHeartbeats 20000000
namespace Go.Proofs
open Go.Shelf
def Tryz.lays106_ren:Go.Shelf.Ren:=⟨fun|106=>118|213=>151|265=>182|n=>n,fun|9=>9|3=>3|n=>n,fun|n=>n⟩
theorem Tryz.lays106:Go.Proofs.Lays.n106 Tryz.prog Tryz.lays106_ren:={
 mixed:=by kernel_rfl
 f106:=qF Tryz.func118 (by kernel_rfl)
 f213:=qF Tryz.func151 (by kernel_rfl)
 f265:=qF Tryz.func182 (by kernel_rfl)
 t3:=Tryz.underlying3
 a3:=Tryz.isAgg3
 z3:=Tryz.sizeOf3
 v3:=Tryz.zeroValue3
 t9:=Tryz.underlying9
 a9:=Tryz.isAgg9
 z9:=Tryz.sizeOf9
 v9:=Tryz.zeroValue9 }
def Tryz.lays221_ren:Go.Shelf.Ren:=⟨fun|221=>233|268=>262|138=>263|143=>239|195=>285|197=>286|218=>287|219=>268|260=>310|217=>288|225=>267|224=>266|267=>289|266=>311|314=>312|n=>n,fun|9=>9|3=>3|31=>197|4=>4|0=>0|105=>316|21=>21|5=>5|46=>88|119=>347|139=>350|138=>349|146=>336|51=>332|n=>n,fun|1=>0|3=>1|4=>2|n=>n⟩
theorem Tryz.lays221:Go.Proofs.Lays.n221 Tryz.prog Tryz.lays221_ren:={
 mixed:=by kernel_rfl
 f138:=qF Tryz.func263 (by kernel_rfl)
 f143:=qF Tryz.func239 (by kernel_rfl)
 f195:=qF Tryz.func285 (by kernel_rfl)
 f197:=qF Tryz.func286 (by kernel_rfl)
 f217:=qF Tryz.func288 (by kernel_rfl)
 f218:=qF Tryz.func287 (by kernel_rfl)
 f219:=qF Tryz.func268 (by kernel_rfl)
 f221:=qF Tryz.func233 (by kernel_rfl)
 f224:=qF Tryz.func266 (by kernel_rfl)
 f225:=qF Tryz.func267 (by kernel_rfl)
 f260:=qF Tryz.func310 (by kernel_rfl)
 f266:=qF Tryz.func311 (by kernel_rfl)
 f267:=qF Tryz.func289 (by kernel_rfl)
 f268:=qF Tryz.func262 (by kernel_rfl)
 f314:=qF Tryz.func312 (by kernel_rfl)
 t0:=Tryz.underlying0
 a0:=Tryz.isAgg0
 z0:=Tryz.sizeOf0
 v0:=Tryz.zeroValue0
 t3:=Tryz.underlying3
 a3:=Tryz.isAgg3
 z3:=Tryz.sizeOf3
 v3:=Tryz.zeroValue3
 t4:=Tryz.underlying4
 a4:=Tryz.isAgg4
 z4:=Tryz.sizeOf4
 v4:=Tryz.zeroValue4
 t5:=Tryz.underlying5
 a5:=Tryz.isAgg5
 z5:=Tryz.sizeOf5
 v5:=Tryz.zeroValue5
 t9:=Tryz.underlying9
 a9:=Tryz.isAgg9
 z9:=Tryz.sizeOf9
 v9:=Tryz.zeroValue9
 t21:=Tryz.underlying21
 a21:=Tryz.isAgg21
 z21:=Tryz.sizeOf21
 v21:=Tryz.zeroValue21
 t31:=Tryz.underlying197
 a31:=Tryz.isAgg197
 z31:=Tryz.sizeOf197
 v31:=Tryz.zeroValue197
 t46:=Tryz.underlying88
 a46:=Tryz.isAgg88
 z46:=Tryz.sizeOf88
 v46:=Tryz.zeroValue88
 t51:=Tryz.underlying332
 a51:=Tryz.isAgg332
 z51:=Tryz.sizeOf332
 v51:=Tryz.zeroValue332
 t105:=Tryz.underlying316
 a105:=Tryz.isAgg316
 z105:=Tryz.sizeOf316
 v105:=Tryz.zeroValue316
 t119:=Tryz.underlying347
 a119:=Tryz.isAgg347
 z119:=Tryz.sizeOf347
 t138:=Tryz.underlying349
 a138:=Tryz.isAgg349
 z138:=Tryz.sizeOf349
 v138:=Tryz.zeroValue349
 t139:=Tryz.underlying350
 a139:=Tryz.isAgg350
 z139:=Tryz.sizeOf350
 v139:=Tryz.zeroValue350
 t146:=Tryz.underlying336
 a146:=Tryz.isAgg336
 z146:=Tryz.sizeOf336
 v146:=Tryz.zeroValue336
 g1:=by kernel_rfl
 g3:=by kernel_rfl
 g4:=by kernel_rfl }
def Tryz.lays150_ren:Go.Shelf.Ren:=⟨fun|150=>179|153=>204|152=>234|226=>235|227=>236|228=>237|137=>264|119=>265|224=>266|225=>267|217=>288|266=>311|n=>n,fun|9=>9|4=>4|3=>3|5=>5|21=>21|117=>279|116=>278|0=>0|46=>88|124=>304|n=>n,fun|n=>n⟩
theorem Tryz.lays150:Go.Proofs.Lays.n150 Tryz.prog Tryz.lays150_ren:={
 mixed:=by kernel_rfl
 f119:=qF Tryz.func265 (by kernel_rfl)
 f137:=qF Tryz.func264 (by kernel_rfl)
 f150:=qF Tryz.func179 (by kernel_rfl)
 f152:=qF Tryz.func234 (by kernel_rfl)
 f153:=qF Tryz.func204 (by kernel_rfl)
 f217:=qF Tryz.func288 (by kernel_rfl)
 f224:=qF Tryz.func266 (by kernel_rfl)
 f225:=qF Tryz.func267 (by kernel_rfl)
 f226:=qF Tryz.func235 (by kernel_rfl)
 f227:=qF Tryz.func236 (by kernel_rfl)
 f228:=qF Tryz.func237 (by kernel_rfl)
 f266:=qF Tryz.func311 (by kernel_rfl)
 t0:=Tryz.underlying0
 a0:=Tryz.isAgg0
 z0:=Tryz.sizeOf0
 v0:=Tryz.zeroValue0
 t3:=Tryz.underlying3
 a3:=Tryz.isAgg3
 z3:=Tryz.sizeOf3
 v3:=Tryz.zeroValue3
 t4:=Tryz.underlying4
 a4:=Tryz.isAgg4
 z4:=Tryz.sizeOf4
 v4:=Tryz.zeroValue4
 t5:=Tryz.underlying5
 a5:=Tryz.isAgg5
 z5:=Tryz.sizeOf5
 v5:=Tryz.zeroValue5
 t9:=Tryz.underlying9
 a9:=Tryz.isAgg9
 z9:=Tryz.sizeOf9
 v9:=Tryz.zeroValue9
 t21:=Tryz.underlying21
 a21:=Tryz.isAgg21
 z21:=Tryz.sizeOf21
 v21:=Tryz.zeroValue21
 t46:=Tryz.underlying88
 a46:=Tryz.isAgg88
 z46:=Tryz.sizeOf88
 v46:=Tryz.zeroValue88
 t116:=Tryz.underlying278
 a116:=Tryz.isAgg278
 z116:=Tryz.sizeOf278
 t117:=Tryz.underlying279
 a117:=Tryz.isAgg279
 z117:=Tryz.sizeOf279
 v117:=Tryz.zeroValue279
 t124:=Tryz.underlying304
 a124:=Tryz.isAgg304
 z124:=Tryz.sizeOf304
 v124:=Tryz.zeroValue304 }
end Go.Proofs
namespace Go.Proofs.Y
open Go.Sx
def Z1m(s:List UInt8):List Value:=[.string ⟨s.toArray⟩]
theorem Zr(ps:List (List UInt8))(i:Nat):Value.gS (((ps.map Z1m).getD i []).getD 0 undef)=ps.getD i []:=by simp only[qy1,List.getElem?_map];cases ps[i]?<;>simp[Z1m,Value.gS,undef]
abbrev Zfq(w:World)(v:Value)(ps:List (List UInt8)):Prop:=reads w v [.str] (ps.map Z1m)
def Zrs(n:Nat)(v:Value)(ps:List (List UInt8)):Prop:=∀k,(ps.map Z1m).flatten≠[]/\Z2 v k->n<=k
theorem Zpe(ps:List (List UInt8))(i:Nat)(h:i<ps.length):ps.drop i=ps.getD i []::ps.drop (i+1):=by rw[List.drop_eq_getElem_cons h,qy1,qy7 h];rfl
theorem Zid(s:List UInt8)(k:Nat)(h:k<s.length):s.drop k=s.getD k 0::s.drop (k+1):=by rw[List.drop_eq_getElem_cons h,qy1,qy7 h];rfl
def lev:List UInt8->List (List UInt8)
 | []=>[[]]
 | c::l=>if c=47 then[]::lev l else match lev l with | []=>[[c]] | x::xs=>(c::x)::xs
def glue(p:List UInt8):List (List UInt8)->List (List UInt8)
 | []=>[]
 | x::xs=>(p++x)::xs
theorem Zrt(l:List (List UInt8)):glue [] l=l:=by cases l<;>rfl
theorem Zru(s:List UInt8):∃x xs,lev s=x::xs:=by
 cases s with
 | nil=>exact⟨[],[],rfl⟩
 | cons c l =>
  simp only[lev];split
  ·exact⟨_,_,rfl⟩
  ·split<;>exact⟨_,_,rfl⟩
theorem Z8j(l:List UInt8):lev (47::l)=[]::lev l:=by simp[lev]
theorem Z6f{c:UInt8}(l:List UInt8)(h:c≠47):lev (c::l)=glue [c] (lev l):=by obtain⟨x,xs,e⟩:=Zru l;simp[lev,if_neg h,e,glue]
theorem Zy4(p q:List UInt8)(l:List (List UInt8)):glue p (glue q l)=glue (p++q) l:=by cases l<;>simp[glue]
theorem Zuq(w:World)(s:List UInt8)(hs:s.length<1099511627776):Calls Tryz.prog 132 #[.string ⟨s.toArray⟩] w λe w'=>∃v,e=.returned (sc1 v)/\Zfq w' v (lev s)/\Zrs w.heap.size v (lev s)/\Mod [] w w':=by
 refine Z1 (Z7 (J:=[.s s]) sxE_ok Tryz.func132 Z5y rfl rfl rfl ?_) rfl;simp only[QQ,Nat.reduceAdd];refine⟨λvs=>∃(v:Value) (acc:List (List UInt8)) (a i:Nat),vs=[.v v,.r (acc.map Z1m),.i a,.i i]/\acc.length<=i /\
   (i<=s.length/\a<=i/\acc++glue ((s.take i).drop a) (lev (s.drop i))=lev s\/i=s.length+1/\acc=lev s),λvs=>s.length+1 - (vs.getD 3 (.i 0)).toI.toNat,⟨_,[],0,0,rfl,by simp,.inl ⟨by omega,by omega,by simp[Zrt]⟩⟩,?_⟩
 rintro _ - ⟨v,acc,a,i,rfl,hal,hinv⟩;simp only[QQ,Nat.reduceAdd,qy3,qy4];refine⟨λh1=>?_,λh1 w' hr=>?_⟩
 ·obtain⟨hi,ha,hg⟩:=hinv.resolve_right λh=>by omega
  refine⟨.inr (by omega),by omega,λh2=>?_,λh2=>?_⟩
  ·(repeat refine⟨by omega,?_⟩)
   intro v1;refine⟨by omega,λv2=>⟨by omega,by omega,⟨v2,acc++[(s.take i).drop a],i+1,i+1,by simp[Z1m],by simp;omega,?_⟩,by omega⟩⟩;by_cases h3:i=s.length
   ·subst h3;rw[List.drop_length]at hg;exact .inr ⟨rfl,by rw[<- hg];simp[lev,glue]⟩
   ·refine .inl ⟨by omega,by omega,?_⟩;have h4:s.getD i 0=47:=by
     have:(s.getD i 0).toNat=47:=by
      rcases h2 with h2|h2
      ·omega
      ·omega
     exact UInt8.toNat_inj.1 this
    rw[Zid s i (by omega),h4,Z8j]at hg;have hz:glue ((s.take (i+1)).drop (i+1)) (lev (s.drop (i+1)))=lev (s.drop (i+1)):=by rw[List.drop_of_length_le (by simp;omega),Zrt]
    rw[hz,<- hg];simp[glue]
  ·refine⟨by omega,by omega,⟨v,acc,a,i+1,rfl,by omega,.inl ⟨by omega,by omega,?_⟩⟩,by omega⟩;have h4:s.getD i 0≠47:=λh=>h2 (.inr (by rw[h];rfl));rw[Zid s i (by omega),Z6f _ h4,Zy4]at hg;rw[<- hg];congr 2
   rw[List.take_add_one,List.drop_append_of_le_length (by simp;omega),qy1];rw[qy7 (by omega)];rfl
 ·obtain⟨hi,hg⟩:=hinv.resolve_left λh=>by omega
  subst hg;refine⟨v,rfl,owns.reads (hr.at_ 0 rfl),λk hk=>?_,hr.mod⟩;rcases hr.own _ (qy8 ..) rfl k hk.2 with h|h
  ·exact h
  ·simp at h
theorem Zrv:∀{s:List UInt8},Lib.indexByte s 47=-1->lev s=[s]:=by
 intro s;induction s with
 | nil=>intro _;rfl
 | cons c l ih =>
  intro h;unfold Lib.indexByte at h;split at h
  ·exact absurd h (by decide)
  ·rename_i hc;have hc:c≠47:=by simpa using hc
   split at h
   ·rename_i h2;rw[Z6f _ hc,ih (by simpa using h2)];rfl
   ·have:=Lib.indexByte_ge l 47;omega
theorem Zy5:∀{s:List UInt8} {i:Nat},Lib.indexByte s 47=i->lev s=s.take i::lev (s.drop (i+1))/\s.count 47=(s.drop (i+1)).count 47+1:=by
 intro s;induction s with
 | nil=>intro i h;unfold Lib.indexByte at h;omega
 | cons c l ih =>
  intro i h;unfold Lib.indexByte at h;split at h
  ·rename_i hc;have hc:c=47:=by simpa using hc
   have:i=0:=by omega
   subst this hc;rw[Z8j];simp
  ·rename_i hc;have hc:c≠47:=by simpa using hc
   split at h
   ·omega
   ·rename_i h2;have h3:=Lib.indexByte_ge l 47;have h2:¬Lib.indexByte l 47=-1:=by simpa using h2
    obtain⟨j,hj⟩:∃j:Nat,Lib.indexByte l 47=j:=⟨(Lib.indexByte l 47).toNat,by omega⟩
    have hij:i=j+1:=by omega
    subst hij;obtain⟨e1,e2⟩:=ih hj;rw[Z6f _ hc,e1];refine⟨by simp[glue],?_⟩;rw[List.count_cons_of_ne hc,e2];simp
theorem Zur:∀(k:Nat) (s:List UInt8),s.count 47=k->Lib.splitK [47] 0 k s=lev s:=by
 intro k;induction k with
 | zero =>
  intro s h;unfold Lib.splitK;refine(Zrv ?_).symm;rcases Int.lt_or_le (Lib.indexByte s 47) 0 with h1|h1
  ·have:=Lib.indexByte_ge s 47;omega
  ·obtain⟨i,hi⟩:∃i:Nat,Lib.indexByte s 47=i:=⟨(Lib.indexByte s 47).toNat,by omega⟩
   have:=(Zy5 hi).2;omega
 | succ k ih =>
  intro s h;unfold Lib.splitK;rw[Lib.index_one];by_cases h1:Lib.indexByte s 47=-1
  ·rw[if_pos (by simpa using h1),Zrv h1]
  ·rw[if_neg (by simpa using h1)];obtain⟨i,hi⟩:∃i:Nat,Lib.indexByte s 47=i:=⟨(Lib.indexByte s 47).toNat,by have h5:=Lib.indexByte_ge s 47;have h6:¬Lib.indexByte s 47=-1:=h1;omega⟩
   obtain⟨e1,e2⟩:=Zy5 hi;rw[hi,e1,<- ih (s.drop (i+1)) (by omega)];simp
theorem Zus(w:World)(s:List UInt8)(hs:s.length<4294967281):Calls Tryz.prog 233 #[.string ⟨s.toArray⟩,.string ⟨#[47]⟩,.int .i64 0,.int .i64 (-1)] w λe w'=>∃v,e=.returned (sc1 v)/\Zfq w' v (lev s)/\Zrs w.heap.size v (lev s)/\Mod [] w w':=by
 have hsz:(⟨s.toArray⟩:ByteArray).size=s.length:=rfl;have hcount:Lib.countB ⟨s.toArray⟩ ⟨#[47]⟩=s.count 47:=Lib.count_one 47 s;have hc1:s.count 47<=s.length:=List.count_le_length;have c:=Any.strings_genSplit_core Tryz.lays221 (by kernel_rfl) ⟨s.toArray⟩ ⟨#[47]⟩ 0 (-1) (s.count 47+1) w (by rw[hsz];exact hs) (by decide) (Nat.zero_le _)
  (λx c hx=>(Any.strings_Index_one { Tryz.lays221 with } x 47 _).mono λe w' ⟨h1,h2⟩=>⟨by rw[h1];show _=Ending.returned (Value.int .i64 (Lib.index x.data.toList [47]));rw[Lib.index_one],h2⟩)
  ((Any.strings_Count_one { Tryz.lays221 with } ⟨s.toArray⟩ 47 w).mono λe w' ⟨h1,h2⟩=>⟨by rw[h1,hcount];rfl,h2⟩) (by decide) (by decide) (by rw[if_pos (by decide),hcount,hsz];omega)
 refine(Z1 c rfl).mono ?_;rintro e w' ⟨rfl,rfl⟩;rw[Nat.add_sub_cancel];have hdata:=Lib.splitB_data ⟨#[47]⟩ 0 (s.count 47) ⟨s.toArray⟩;have hlev:(Lib.splitB ⟨#[47]⟩ 0 (s.count 47) ⟨s.toArray⟩).map (·.data.toList)=lev s:=hdata.trans (Zur _ s rfl);have hlen:=Lib.splitB_all ⟨#[47]⟩ (by decide) 0 (s.count 47) ⟨s.toArray⟩ hcount;generalize Lib.splitB ⟨#[47]⟩ 0 (s.count 47) ⟨s.toArray⟩=pcs at hlev hlen
 rw[hlen];have hll:(lev s).length=s.count 47+1:=by rw[<- hlev,qy3,hlen]
 have hfull:Lib.cellsOf pcs (s.count 47+1)=(pcs.map Value.string).toArray:=by rw[<- hlen];exact Lib.cellsOf_full _
 have hrow:(lev s).map Z1m=pcs.map λb=>[Value.string b]:=by rw[<- hlev,List.map_map];refine List.map_congr_left λb _=>?_;obtain⟨⟨l⟩⟩:=b;rfl
 have hfl:(pcs.map λb=>[Value.string b]).flatten=pcs.map Value.string:=by clear hlev hlen hfull hrow;induction pcs<;>simp_all
 refine⟨.slice (some ⟨w.heap.size,0,none⟩) (s.count 47+1) (s.count 47+1),rfl,⟨?_,some ⟨w.heap.size,0,none⟩,s.count 47+1,by rw[qy3,hll],⟨(λh=>by cases h),by rw[qy3,hll];exact Nat.le_refl _⟩,λ_=>⟨_,rfl,λj u hj=>?_⟩⟩,λk hk=>?_,Mod.alloc [] w _⟩
 ·intro r hr;obtain⟨x,-,rfl⟩:=List.mem_map.1 hr;exact⟨⟨_,rfl⟩,trivial⟩
 ·rw[hrow,hfl]at hj;rw[Zi0,Nat.zero_add,hfull];exact(World.cell?_alloc_new ..).trans (by simpa using hj)
 ·have h:=hk.2;simp only[Z2,Value.ownBlock,Option.some.injEq]at h;omega
theorem Z18p(w:World)(s:List UInt8)(hs:s.length<4294967281):Calls Tryz.prog 203 #[.string ⟨s.toArray⟩,.string ⟨#[47]⟩] w λe w'=>∃v,e=.returned (sc1 v)/\Zfq w' v (lev s)/\Zrs w.heap.size v (lev s)/\Mod [] w w':=by refine Z1 (Z7 (J:=[.s s,.s [47]]) sxE_ok Tryz.func203 Zb1 rfl rfl rfl ?_) rfl;simp only[QQ,Nat.reduceAdd];intro w1 hr;refine(Zus w1 s hs).mono ?_;rintro e w2 ⟨v1,rfl,r1,f1,m1⟩;have hsz:=hr.mod.size;refine⟨[.v v1,.r ((lev s).map Z1m)],rfl,rfl,m1,qy5 _,qy2.2 ⟨⟨r1,λk hk=>.inl (f1 k hk)⟩,qy5 _⟩,Z5,?_⟩;simp only[QQ,Nat.reduceAdd];exact λw' hr=>⟨v1,rfl,hr.at_ 0 rfl,λk hk=>Nat.le_trans hsz (f1 k hk),hr.mod⟩
theorem Zeh(w:World)(s:List UInt8)(hs:s.length<4294967281):Calls Tryz.prog 178 #[.string ⟨s.toArray⟩] w λe w'=>∃v,e=.returned (sc1 v)/\Zfq w' v (lev s)/\Zrs w.heap.size v (lev s)/\Mod [] w w':=by refine Z1 (Z7 (J:=[.s s]) sxE_ok Tryz.func178 Zch rfl rfl rfl ?_) rfl;simp only[QQ,Nat.reduceAdd];intro w1 hr;refine(Z18p w1 s hs).mono ?_;rintro e w2 ⟨v1,rfl,r1,f1,m1⟩;have hsz:=hr.mod.size;refine⟨[.v v1,.r ((lev s).map Z1m)],rfl,rfl,m1,qy5 _,qy2.2 ⟨⟨r1,λk hk=>.inl (f1 k hk)⟩,qy5 _⟩,Z5,?_⟩;simp only[QQ,Nat.reduceAdd];exact λw' hr=>⟨v1,rfl,hr.at_ 0 rfl,λk hk=>Nat.le_trans hsz (f1 k hk),hr.mod⟩
def Z25(s:List UInt8):Bool:=s.all λb=>decide (33<=b.toNat/\b.toNat<=126)
theorem Zie(s:List UInt8)(i:Nat)(h:i<s.length):Z25 (s.take (i+1))=(Z25 (s.take i) && decide (33<=(s.getD i 0).toNat/\(s.getD i 0).toNat<=126)):=by rw[List.take_add_one,qy1,qy7 h];simp only[Z25,List.all_append,Option.toList_some,List.all_cons,List.all_nil,Bool.and_true,Option.getD_some]
theorem Zml{s:List UInt8}{i:Nat}(h:i<s.length)(h1:¬(33<=(s.getD i 0).toNat/\(s.getD i 0).toNat<=126)):Z25 s=false:=by rw[<- Bool.not_eq_true];intro h2;rw[Z25,List.all_eq_true]at h2;have:=h2 (s.getD i 0) (by rw[qy1,qy7 h];exact List.getElem_mem h);exact h1 (of_decide_eq_true this)
theorem Zfr(w:World)(s:List UInt8)(hs:s.length<1099511627776):Calls Tryz.prog 133 #[.string ⟨s.toArray⟩] w λe w'=>e=.returned (.bool (Z25 s))/\Mod [] w w':=by
 refine Z1 (Z7 (J:=[.s s]) sxE_ok Tryz.func133 Z6e rfl rfl rfl ?_) rfl;simp only[QQ,Nat.reduceAdd];refine⟨λvs=>∃(x:V) (i:Nat),vs=[x,.i i]/\i<=s.length/\Z25 (s.take i)=true,λvs=>s.length - (vs.getD 1 (.i 0)).toI.toNat,⟨_,0,rfl,by omega,rfl⟩,?_⟩;rintro _ - ⟨x,i,rfl,hi,hp⟩;simp only[QQ,Nat.reduceAdd,qy4];refine⟨λh1=>⟨by omega,λh2 w' hr=>⟨by rw[Zml (i:=i) (by omega) (by omega)],hr.mod⟩,λh2=>⟨by omega,by omega,⟨x,i+1,rfl,by omega,?_⟩,by omega⟩⟩,λh1 w' hr=>⟨?_,hr.mod⟩⟩
 ·rw[Zie _ _ (by omega),hp,Bool.true_and,decide_eq_true_eq];omega
 ·have:i=s.length:=by omega
  subst this;rw[List.take_length]at hp;rw[hp]
theorem Zk4(w:World)(s:List UInt8)(hs:s.length<1099511627776):Calls Tryz.prog 122 #[.string ⟨s.toArray⟩] w λe w'=>e=.returned (.bool (Z25 s))/\Mod [] w w':=by
 refine Z1 (Z7 (J:=[.s s]) sxE_ok Tryz.func122 Zds rfl rfl rfl ?_) rfl;simp only[QQ,Nat.reduceAdd];refine⟨λvs=>∃(x:V) (i:Nat),vs=[x,.i i]/\i<=s.length/\Z25 (s.take i)=true,λvs=>s.length - (vs.getD 1 (.i 0)).toI.toNat,⟨_,0,rfl,by omega,rfl⟩,?_⟩;rintro _ - ⟨x,i,rfl,hi,hp⟩;simp only[QQ,Nat.reduceAdd,qy4];refine⟨λh1=>⟨by omega,λh2 w' hr=>⟨by rw[Zml (i:=i) (by omega) (by omega)],hr.mod⟩,λh2=>⟨by omega,by omega,⟨x,i+1,rfl,by omega,?_⟩,by omega⟩⟩,λh1 w' hr=>⟨?_,hr.mod⟩⟩
 ·rw[Zie _ _ (by omega),hp,Bool.true_and,decide_eq_true_eq];omega
 ·have:i=s.length:=by omega
  subst this;rw[List.take_length]at hp;rw[hp]
def wild(x:List UInt8):Bool:=x.any λb=>b == 43 || b == 35
theorem Z140:∀x:List UInt8,Lib.containsAny x [43,35]=wild x:=by
 intro x;induction x with
 | nil=>rfl
 | cons b l ih =>
  have hg:=Lib.indexAny_ge [43,35] l;unfold Lib.containsAny at ih⊢;unfold Lib.indexAny;simp only[wild,List.any_cons];by_cases h:b=43\/b=35
  ·have h1:([43,35]:List UInt8).contains b=true:=by rcases h with h|h<;>subst h<;>decide
   have h2:(b == 43 || b == 35)=true:=by rcases h with h|h<;>subst h<;>decide
   rw[if_pos h1,h2]<;>rfl
  ·have h1:¬([43,35]:List UInt8).contains b=true:=by simp;exact⟨λh2=>h (.inl h2),λh2=>h (.inr h2)⟩
   have h2:(b == 43 || b == 35)=false:=by simp;exact⟨λh2=>h (.inl h2),λh2=>h (.inr h2)⟩
   rw[if_neg h1,h2,Bool.false_or];change _=wild l;rw[<- ih];by_cases h3:Lib.indexAny l [43,35]=-1
   ·rw[if_pos (by simpa using h3),h3]<;>rfl
   ·rw[if_neg (by simpa using h3)];exact decide_eq_decide.2 (by omega)
theorem Zb3(w:World)(x:List UInt8)(hs:x.length<4294967281)(ha:∀b∈x,b.toNat<128):Calls Tryz.prog 179 #[.string ⟨x.toArray⟩,.string ⟨#[43,35]⟩] w λe w'=>e=.returned (.bool (wild x))/\Mod [] w w':=by
 refine(Z1 (Any.strings_ContainsAny_laid Tryz.lays150 (by kernel_rfl) ⟨x.toArray⟩ ⟨#[43,35]⟩ w hs (by decide) (λj b hb=>ha b (qy6 hb)) (λj b hb=>?_)) rfl).mono ?_
 ·have:b∈([43,35]:List UInt8):=qy6 hb;simp at this;rcases this with rfl|rfl<;>decide
 ·rintro e w' ⟨h1,h2⟩;refine⟨?_,Mod.of_below h2⟩;rw[h1];exact congrArg (λb=>Ending.returned (Value.bool b)) (Z140 x)
def badL(filter:Bool):List (List UInt8)->Bool
 | []=>false
 | x::r=>(wild x && (!filter || (!decide (x=[43]) && (!decide (x=[35]) || !decide (r=[]))))) || badL filter r
def chkT(s:List UInt8)(filter:Bool):Int :=
 if s=[]then 1 else if 60<(s.length:Int)\/6<((lev s).length:Int)then 2 else if Z25 s=true then(if badL filter (lev s)=true then 1 else 0)else 1
theorem Zk5{f:Bool}:chkT [] f=1:=rfl
theorem Zfs{s:List UInt8}{f:Bool}(h:¬s=[])(h1:60<(s.length:Int)\/6<((lev s).length:Int)):chkT s f=2:=by rw[chkT,if_neg h,if_pos h1]
theorem Zcq{s:List UInt8}{f:Bool}(h:¬s=[])(h1:¬(60<(s.length:Int)\/6<((lev s).length:Int)))(h2:¬Z25 s=true):chkT s f=1:=by rw[chkT,if_neg h,if_neg h1,if_neg h2]
theorem Zk6{s:List UInt8}{f:Bool}(h:¬s=[])(h1:¬(60<(s.length:Int)\/6<((lev s).length:Int)))(h2:Z25 s=true):chkT s f=if badL f (lev s)=true then 1 else 0:=by rw[chkT,if_neg h,if_neg h1,if_pos h2]
theorem Z18q:∀{s x:List UInt8},x∈lev s->∀b∈x,b∈s:=by
 intro s;induction s with
 | nil=>intro x hx b hb;simp[lev]at hx;subst hx;simp at hb
 | cons c l ih =>
  intro x hx b hb;by_cases hc:c=47
  ·subst hc;rw[Z8j]at hx;rcases List.mem_cons.1 hx with rfl|hx
   ·simp at hb
   ·exact qy10 _ (ih hx b hb)
  ·obtain⟨y,ys,e⟩:=Zru l;rw[Z6f _ hc,e]at hx;rcases List.mem_cons.1 hx with rfl|hx
   ·rcases qy13.1 hb with hb|hb
    ·simp at hb;subst hb;simp
    ·exact qy10 _ (ih (by rw[e];exact qy8 ..) b hb)
   ·exact qy10 _ (ih (by rw[e];exact qy10 _ hx) b hb)
theorem Zei{ps:List (List UInt8)}{i:Nat}(h:i<ps.length):ps.getD i []∈ps:=by rw[qy1,qy7 h];exact List.getElem_mem h
theorem Zmm{s:List UInt8}(hp:Z25 s=true){i:Nat}(h:i<(lev s).length):∀b∈(lev s).getD i [],b.toNat<128:=λb hb=>by have h1:=Z18q (Zei h) b hb;have:=of_decide_eq_true (List.all_eq_true.1 hp b h1);omega
theorem Zk7{s x:List UInt8}(hx:x∈lev s):x.length<=s.length:=by
 induction s generalizing x with
 | nil=>simp[lev]at hx;subst hx;simp
 | cons c l ih =>
  by_cases hc:c=47
  ·subst hc;rw[Z8j]at hx;rcases List.mem_cons.1 hx with rfl|hx
   ·simp
   ·have:=ih hx;simp;omega
  ·obtain⟨y,ys,e⟩:=Zru l;rw[Z6f _ hc,e]at hx;rcases List.mem_cons.1 hx with rfl|hx
   ·have:=ih (x:=y) (by rw[e];exact qy8 ..);simp;omega
   ·have:=ih (x:=x) (by rw[e];exact qy10 _ hx);simp;omega
theorem Z8k(s:List UInt8):(lev s).length<=s.length+1:=by
 induction s with
 | nil=>simp[lev]
 | cons c l ih =>
  by_cases hc:c=47
  ·subst hc;rw[Z8j];simp;omega
  ·obtain⟨y,ys,e⟩:=Zru l;rw[Z6f _ hc,e];rw[e]at ih;simp[glue]at *;omega
theorem Zmn(w:World)(s:List UInt8)(hs:s.length<4294967281):Calls Tryz.prog 107 #[.string ⟨s.toArray⟩] w λe w'=>e=.returned (.int .i64 (chkT s false))/\Mod [] w w':=by
 refine Z1 (Z7 (J:=[.s s]) sxE_ok Tryz.func107 Zfp rfl rfl rfl ?_) rfl;simp only[QQ,Nat.reduceAdd];intro w1 hr;refine(Zeh w1 s (by omega)).mono ?_;rintro e w2 ⟨v1,rfl,r1,f1,m1⟩;refine⟨[.v v1,.r ((lev s).map Z1m)],rfl,rfl,m1,qy5 _,qy2.2 ⟨⟨r1,λk hk=>.inl (f1 k hk)⟩,qy5 _⟩,Z5,?_⟩;simp only[QQ,Nat.reduceAdd,qy3];have hlc:=Z8k s;refine⟨λh w' hr=>⟨by rw[h,Zk5],hr.mod⟩,λh=>⟨λh1 w' hr=>⟨by rw[Zfs h h1],hr.mod⟩,λh1=>?_⟩⟩;refine⟨[.b (Z25 s)],rfl,λ_ w' _=>Zk4 w' s (by omega),?_⟩;simp only[QQ,Nat.reduceAdd];refine⟨λh2 w' hr=>⟨by rw[Zcq h h1 h2],hr.mod⟩,λh2=>?_⟩;(have h2:=qy9.1 h2);rw[Zk6 h h1 h2];refine⟨λvs=>∃(x:V) (i:Nat),vs=[x,.i i]/\i<=(lev s).length/\badL false ((lev s).drop i)=badL false (lev s),λvs=>(lev s).length - (vs.getD 1 (.i 0)).toI.toNat,⟨_,0,rfl,by omega,rfl⟩,?_⟩;rintro _ - ⟨x,i,rfl,hi,hg⟩;simp only[QQ,Nat.reduceAdd,qy4,qy3,Zr];refine⟨λh3=>?_,λh3 w' hr=>⟨?_,hr.mod⟩⟩
 ·rw[Zpe _ i (by omega)]at hg;have hsz:=Zk7 (Zei (ps:=lev s) (i:=i) (by omega));have has:=Zmm h2 (i:=i) (by omega);generalize (lev s).getD i []=y at hg hsz has⊢
  (repeat refine⟨by omega,?_⟩)
  refine⟨[.b (wild y)],rfl,λ_ w' _=>Zb3 w' y (by omega) has,?_⟩;simp only[QQ,Nat.reduceAdd];simp only[badL,Bool.not_false,Bool.true_or,Bool.and_true]at hg;refine⟨λh4 w' hr=>⟨by rw[<- hg,h4];rfl,hr.mod⟩,λh4=>⟨by omega,by omega,⟨x,i+1,rfl,by omega,?_⟩,by omega⟩⟩;rw[<- hg,(Bool.not_eq_true _).mp h4];simp
 ·have:i=(lev s).length:=by omega
  subst this;rw[List.drop_length]at hg;rw[<- hg];rfl
theorem Zrw(w:World)(s:List UInt8)(hs:s.length<4294967281):Calls Tryz.prog 173 #[.string ⟨s.toArray⟩] w λe w'=>e=.returned (.int .i64 (chkT s true))/\Mod [] w w':=by
 refine Z1 (Z7 (J:=[.s s]) sxE_ok Tryz.func173 Zcg rfl rfl rfl ?_) rfl;simp only[QQ,Nat.reduceAdd];intro w1 hr;refine(Zeh w1 s (by omega)).mono ?_;rintro e w2 ⟨v1,rfl,r1,f1,m1⟩;refine⟨[.v v1,.r ((lev s).map Z1m)],rfl,rfl,m1,qy5 _,qy2.2 ⟨⟨r1,λk hk=>.inl (f1 k hk)⟩,qy5 _⟩,Z5,?_⟩;simp only[QQ,Nat.reduceAdd,qy3];have hlc:=Z8k s;refine⟨λh w' hr=>⟨by rw[h,Zk5],hr.mod⟩,λh=>⟨λh1 w' hr=>⟨by rw[Zfs h h1],hr.mod⟩,λh1=>?_⟩⟩;refine⟨[.b (Z25 s)],rfl,λ_ w' _=>Zk4 w' s (by omega),?_⟩;simp only[QQ,Nat.reduceAdd];refine⟨λh2 w' hr=>⟨by rw[Zcq h h1 h2],hr.mod⟩,λh2=>?_⟩;(have h2:=qy9.1 h2);rw[Zk6 h h1 h2];refine⟨λvs=>∃(x:V) (i:Nat),vs=[x,.i i]/\i<=(lev s).length/\badL true ((lev s).drop i)=badL true (lev s),λvs=>(lev s).length - (vs.getD 1 (.i 0)).toI.toNat,⟨_,0,rfl,by omega,rfl⟩,?_⟩;rintro _ - ⟨x,i,rfl,hi,hg⟩;simp only[QQ,Nat.reduceAdd,qy4,qy3,Zr];refine⟨λh3=>?_,λh3 w' hr=>⟨?_,hr.mod⟩⟩
 ·rw[Zpe _ i (by omega)]at hg;have hsz:=Zk7 (Zei (ps:=lev s) (i:=i) (by omega));have has:=Zmm h2 (i:=i) (by omega);have hlast:(lev s).drop (i+1)=[]↔(i:Int)=((lev s).length:Int) - 1:=by rw[List.drop_eq_nil_iff];omega
  generalize (lev s).getD i []=y at hg hsz has⊢
  (repeat refine⟨by omega,?_⟩)
  refine⟨[.b (wild y)],rfl,λ_ w' _=>Zb3 w' y (by omega) has,?_⟩;simp only[QQ,Nat.reduceAdd];have key:(¬((¬wild y=true\/y=[43])\/y=[35]/\(i:Int)=((lev s).length:Int) - 1))↔(wild y && (!true || (!decide (y=[43]) && (!decide (y=[35]) || !decide ((lev s).drop (i+1)=[])))))=true:=by rw[<- hlast];cases wild y<;>by_cases q1:y=[43]<;>by_cases q2:y=[35]<;>by_cases q3:(lev s).drop (i+1)=[]<;>simp[q1,q2,q3]
  simp only[badL]at hg;refine⟨λh4 w' hr=>⟨by rw[<- hg,key.1 h4];rfl,hr.mod⟩,λh4=>⟨by omega,by omega,⟨x,i+1,rfl,by omega,?_⟩,by omega⟩⟩;have h5:=(Bool.not_eq_true _).mp (λh=>h4 (key.2 h));rw[<- hg,h5];simp
 ·have:i=(lev s).length:=by omega
  subst this;rw[List.drop_length]at hg;rw[<- hg];rfl
theorem Zy6(x:List UInt8)(k:Nat)(h:k<x.length):wild (x.take (k+1))=(wild (x.take k) || (decide ((x.getD k 0).toNat=43) || decide ((x.getD k 0).toNat=35))):=by
 rw[List.take_add_one,qy1,qy7 h];simp only[wild,List.any_append,Option.toList_some,List.any_cons,List.any_nil,Bool.or_false,Option.getD_some];have e1:(x[k] == 43)=decide (x[k].toNat=43):=by rw[Bool.eq_iff_iff];simp only[beq_iff_eq,decide_eq_true_eq];exact⟨λh=>by rw[h];rfl,λh=>UInt8.toNat_inj.1 h⟩
 have e2:(x[k] == 35)=decide (x[k].toNat=35):=by rw[Bool.eq_iff_iff];simp only[beq_iff_eq,decide_eq_true_eq];exact⟨λh=>by rw[h];rfl,λh=>UInt8.toNat_inj.1 h⟩
 rw[e1,e2]
theorem Z5q(w:World)(s:List UInt8)(f:Bool)(hs:s.length<4294967281):Calls Tryz.prog 87 #[.string ⟨s.toArray⟩,.bool f] w λe w'=>e=.returned (.int .i64 (chkT s f))/\Mod [] w w':=by
 refine Z1 (Z7 (J:=[.s s,.b f]) sxE_ok Tryz.func87 Z4x rfl rfl rfl ?_) rfl;simp only[QQ,Nat.reduceAdd];intro w1 hr;refine(Zuq w1 s (by omega)).mono ?_;rintro e w2 ⟨v1,rfl,r1,f1,m1⟩;refine⟨[.v v1,.r ((lev s).map Z1m)],rfl,rfl,m1,qy5 _,qy2.2 ⟨⟨r1,λk hk=>.inl (f1 k hk)⟩,qy5 _⟩,Z5,?_⟩;simp only[QQ,Nat.reduceAdd,qy3];have hlc:=Z8k s;refine⟨λh w' hr=>⟨by rw[h,Zk5],hr.mod⟩,λh=>⟨λh1 w' hr=>⟨by rw[Zfs h h1],hr.mod⟩,λh1=>?_⟩⟩;refine⟨[.b (Z25 s)],rfl,λ_ w' _=>Zfr w' s (by omega),?_⟩;simp only[QQ,Nat.reduceAdd];refine⟨λh2 w' hr=>⟨by rw[Zcq h h1 h2],hr.mod⟩,λh2=>?_⟩;have h2:=qy9.1 h2;rw[Zk6 h h1 h2];refine⟨λvs=>∃(x:V) (i:Nat),vs=[x,.i i]/\i<=(lev s).length/\badL f ((lev s).drop i)=badL f (lev s),λvs=>(lev s).length - (vs.getD 1 (.i 0)).toI.toNat,⟨_,0,rfl,by omega,rfl⟩,?_⟩;rintro _ - ⟨x,i,rfl,hi,hg⟩;simp only[QQ,Nat.reduceAdd,qy4,qy3,Zr];refine⟨λh3=>?_,λh3 w' hr=>⟨?_,hr.mod⟩⟩
 ·rw[Zpe _ i (by omega)]at hg;have hsz:=Zk7 (Zei (ps:=lev s) (i:=i) (by omega));have hlast:(lev s).drop (i+1)=[]↔¬((i:Int)<((lev s).length:Int) - 1):=by rw[List.drop_eq_nil_iff];omega
  generalize (lev s).getD i []=y at hg hsz⊢
  refine⟨λvs=>∃(k:Nat),vs=[.b (wild (y.take k)),.i k]/\k<=y.length,λvs=>y.length - (vs.getD 1 (.i 0)).toI.toNat,⟨0,rfl,by omega⟩,?_⟩;rintro _ - ⟨k,rfl,hk⟩;simp only[QQ,Nat.reduceAdd,qy4,qy3,Zr];refine⟨by omega,λh4=>?_,λh4=>?_⟩
  ·refine⟨.inr (by omega),.inr (by omega),by omega,by omega,⟨k+1,?_,by omega⟩,by omega⟩;rw[Zy6 y k (by omega)];simp only[List.cons.injEq,V.b.injEq,and_true];refine⟨?_,by simp⟩;rw[Bool.or_assoc];congr 2
   ·exact decide_eq_decide.2 (by omega)
   ·exact decide_eq_decide.2 (by omega)
  ·have:k=y.length:=by omega
   subst this;rw[List.take_length];have key:(wild y=true/\(¬f=true\/¬y=[43]/\(¬y=[35]\/(i:Int)<((lev s).length:Int) - 1)))↔(wild y && (!f || (!decide (y=[43]) && (!decide (y=[35]) || !decide ((lev s).drop (i+1)=[])))))=true:=by
    by_cases q3:(i:Int)<((lev s).length:Int) - 1
    ·have q4:¬(lev s).drop (i+1)=[]:=λh=>hlast.1 h q3;cases wild y<;>cases f<;>by_cases q1:y=[43]<;>by_cases q2:y=[35]<;>simp[q1,q2,q3,q4]
    ·have q4:(lev s).drop (i+1)=[]:=hlast.2 q3;cases wild y<;>cases f<;>by_cases q1:y=[43]<;>by_cases q2:y=[35]<;>simp[q1,q2,q3,q4]
   simp only[badL]at hg;refine⟨.inr (by omega),.inr (by omega),λh5 w' hr=>⟨by rw[<- hg,key.1 h5];rfl,hr.mod⟩,λh5=>⟨by omega,by omega,⟨x,i+1,rfl,by omega,?_⟩,by omega⟩⟩;have h6:=(Bool.not_eq_true _).mp (λh=>h5 (key.2 h));rw[<- hg,h6];simp
 ·have:i=(lev s).length:=by omega
  subst this;rw[List.drop_length]at hg;rw[<- hg];rfl
def mt:List (List UInt8)->List (List UInt8)->Bool
 | [],n=>decide (n=[])
 | f::fs,n=>if f=[35]then true else match n with
  | []=>false
  | x::xs=>if f=[43]\/f=x then mt fs xs else false
def cv:List (List UInt8)->List (List UInt8)->Bool
 | [],n=>decide (n=[])
 | f::fs,n=>if f=[35]then true else match n with
  | []=>false
  | x::xs=>if x=[35]then false else if f=[43]\/f=x then cv fs xs else false
theorem Z1cd{f:List UInt8}(fs n:List (List UInt8))(h:f=[35]):mt (f::fs) n=true:=by cases n<;>simp[mt,h]
theorem Z18r{f:List UInt8}(fs:List (List UInt8))(h:¬f=[35]):mt (f::fs) []=false:=by simp[mt,h]
theorem Z18s{f:List UInt8}(fs:List (List UInt8))(x:List UInt8)(xs:List (List UInt8))(h:¬f=[35]):mt (f::fs) (x::xs)=if f=[43]\/f=x then mt fs xs else false:=by simp[mt,h]
theorem tk1(f:List UInt8)(fs:List (List UInt8)):List.drop (Int.toNat 1) (List.take (((fs.length+1:Nat):Int)).toNat (Z1m f::fs.map Z1m))=fs.map Z1m:=by rw[qy4,List.take_of_length_le (by simp)];rfl
theorem Zb4{w:World}{u:Value}{a b:List (List Value)}(h:reads w u [.str] a)(e:a=b):reads w u [.str] b:=e▸h
theorem Z18t:∀(fs ns:List (List UInt8)) (u v:Value) (w:World),Zfq w u fs->Zfq w v ns->fs.length<1099511627776->ns.length<1099511627776 -> Calls Tryz.prog 278 #[sc1 u,sc1 v] w λe w'=>e=.returned (.bool (mt fs ns))/\Mod [] w w':=by
 intro fs;induction fs with
 | nil =>
  intro ns u v w hu hv hl hn;refine Z1 (Z3 (J:=[.v u,.r (([]:List (List UInt8)).map Z1m),.v v,.r (ns.map Z1m)]) sxE_ok Tryz.func278 Z80 rfl rfl (Rel.start2 (by simp only[qy2];exact⟨⟨hu,rfl⟩,⟨hv,rfl⟩,by simp⟩)) rfl rfl ?_) rfl;simp only[QQ,Nat.reduceAdd,qy3];refine⟨λ_ w' hr=>⟨?_,hr.mod⟩,λh=>absurd rfl h⟩;simp only[mt,Ending.returned.injEq,Value.bool.injEq];exact decide_eq_decide.2 (by rw[<- List.length_eq_zero_iff];omega)
 | cons f fs ih =>
  intro ns u v w hu hv hl hn;refine Z1 (Z3 (J:=[.v u,.r ((f::fs).map Z1m),.v v,.r (ns.map Z1m)]) sxE_ok Tryz.func278 Z80 rfl rfl (Rel.start2 (by simp only[qy2];exact⟨⟨hu,rfl⟩,⟨hv,rfl⟩,by simp⟩)) rfl rfl ?_) rfl;simp only[QQ,Nat.reduceAdd,qy3,Int.toNat_zero];have g0:Value.gS (((Z1m f::fs.map Z1m).getD 0 []).getD 0 undef)=f:=Zr (f::fs) 0;simp only[List.getD_cons_zero]at g0;have g1:=Zr ns 0;rw[g0,g1];refine⟨λh=>absurd h (by omega),λ_=>⟨by omega,λh1 w' hr=>⟨by rw[Z1cd _ _ h1],hr.mod⟩,λh1=>?_⟩⟩;rcases ns with _|⟨x,xs⟩
  ·refine⟨.inl λh=>absurd rfl h.1,λ_ w' hr=>⟨by rw[Z18r _ h1],hr.mod⟩,λh=>absurd (.inl rfl) h⟩
  ·have hl':fs.length<1099511627776:=by rw[List.length_cons]at hl;omega
   have hn':xs.length<1099511627776:=by rw[List.length_cons]at hn;omega
   simp only[List.getD_cons_zero,List.length_cons];rw[Z18s _ _ _ h1];refine⟨.inr (by omega),λh2 w' hr=>⟨?_,hr.mod⟩,λh2=>?_⟩
   ·rw[if_neg];intro h3;rcases h2 with h2|h2
    ·omega
    ·rcases h3 with h3|h3
     ·exact h2.1 h3
     ·exact h2.2 h3
   ·have h3:f=[43]\/f=x:=by
     by_cases h4:f=[43]
     ·exact .inl h4
     ·by_cases h5:f=x
      ·exact .inr h5
      ·exact absurd (.inr ⟨h4,h5⟩) h2
    rw[if_pos h3];refine⟨⟨by omega,λv1=>⟨by omega,λv2=>?_⟩⟩,⟨by omega,λv1=>⟨by omega,λv2=>?_⟩⟩⟩
    ·refine⟨[.b (mt fs xs)],rfl,λ_ w' hr=>?_,?_⟩;(· have q0:=hr.at_ 0 rfl;have q1:=hr.at_ 1 rfl;simp only[Ent.holds,QQ,Nat.reduceAdd,qy3,List.length_cons]at q0 q1;clear hl hn;exact ih xs v1 v2 w' (Zb4 q1 (tk1 _ _)) (Zb4 q0 (tk1 _ _)) hl' hn');simp only[QQ,Nat.reduceAdd];exact λw' hr=>⟨by trivial,hr.mod⟩
    ·refine⟨[.b (mt fs xs)],rfl,λ_ w' hr=>?_,?_⟩;(· have q0:=hr.at_ 0 rfl;have q1:=hr.at_ 1 rfl;simp only[Ent.holds,QQ,Nat.reduceAdd,qy3,List.length_cons]at q0 q1;clear hl hn;exact ih xs v2 v1 w' (Zb4 q0 (tk1 _ _)) (Zb4 q1 (tk1 _ _)) hl' hn');simp only[QQ,Nat.reduceAdd];exact λw' hr=>⟨by trivial,hr.mod⟩
theorem Z18u(w:World)(f n:List UInt8)(hf:f.length<4294967281)(hn:n.length<4294967281):Calls Tryz.prog 248 #[.string ⟨f.toArray⟩,.string ⟨n.toArray⟩] w λe w'=>e=.returned (.bool (mt (lev f) (lev n)))/\Mod [] w w':=by refine Z1 (Z7 (J:=[.s f,.s n]) sxE_ok Tryz.func248 Zhp rfl rfl rfl ?_) rfl;simp only[QQ,Nat.reduceAdd];intro w1 hr;refine(Zeh w1 f hf).mono ?_;rintro e w2 ⟨v1,rfl,r1,f1,m1⟩;refine⟨[.v v1,.r ((lev f).map Z1m)],rfl,rfl,m1,qy5 _,qy2.2 ⟨⟨r1,λk hk=>.inl (f1 k hk)⟩,qy5 _⟩,Z5,?_⟩;simp only[QQ,Nat.reduceAdd];intro w3 hr;refine(Zeh w3 n hn).mono ?_;rintro e w4 ⟨v2,rfl,r1,f1,m1⟩;refine⟨[.v v2,.r ((lev n).map Z1m)],rfl,rfl,m1,qy5 _,qy2.2 ⟨⟨r1,λk hk=>.inl (f1 k hk)⟩,qy5 _⟩,Z5,?_⟩;simp only[QQ,Nat.reduceAdd];have l1:=Z8k f;have l2:=Z8k n;refine⟨[.b (mt (lev f) (lev n))],rfl,λ_ w' hr=>Z18t (lev f) (lev n) v1 v2 w' (hr.at_ 1 rfl) (hr.at_ 0 rfl) (by omega) (by omega),?_⟩;simp only[QQ,Nat.reduceAdd];exact λw' hr=>⟨by trivial,hr.mod⟩
abbrev Wat:=Int×List UInt8×List UInt8×Int
def Z8(w:Wat):List Value:=[.int .i64 w.1,.string ⟨w.2.1.toArray⟩,.string ⟨w.2.2.1.toArray⟩,.int .i64 w.2.2.2]
abbrev wD_K:Wat:=(0,[],[],0)
theorem Z3u(l:List Wat)(i:Nat):Value.gI (((l.map Z8).getD i []).getD 0 undef)=(l.getD i wD_K).1:=by simp only[qy1,List.getElem?_map];cases l[i]?<;>rfl
theorem Z3v(l:List Wat)(i:Nat):Value.gS (((l.map Z8).getD i []).getD 1 undef)=(l.getD i wD_K).2.1:=by simp only[qy1,List.getElem?_map];cases l[i]?<;>simp[Z8,Value.gS,undef]
theorem Z22(l:List Wat)(i:Nat):Value.gS (((l.map Z8).getD i []).getD 2 undef)=(l.getD i wD_K).2.2.1:=by simp only[qy1,List.getElem?_map];cases l[i]?<;>simp[Z8,Value.gS,undef]
theorem gW3(l:List Wat)(i:Nat):Value.gI (((l.map Z8).getD i []).getD 3 undef)=(l.getD i wD_K).2.2.2:=by simp only[qy1,List.getElem?_map];cases l[i]?<;>rfl
abbrev kW_K:List Kd:=[.int .i64,.str,.str,.int .i64]
abbrev Z4g(w:World)(v:Value)(l:List Wat):Prop:=reads w v kW_K (l.map Z8)
theorem Zk8(l:List Wat)(i:Nat)(h:i<l.length):l.drop i=l.getD i wD_K::l.drop (i+1):=by rw[List.drop_eq_getElem_cons h,qy1,qy7 h];rfl
theorem Z9z(l:List Wat)(i:Nat)(h:i<l.length):l.take (i+1)=l.take i++[l.getD i wD_K]:=by rw[List.take_add_one,qy1,qy7 h];rfl
theorem Zrx(l:List Wat){k i:Nat}(h:k<i):(l.take i).getD k wD_K=l.getD k wD_K:=by simp only[qy1,List.getElem?_take,if_pos h]
def Z3w(p:Int)(t n:List UInt8):Int:=if 0<=p/\p<=9 then(if 8<(t.length:Int)then 2 else chkT n false)else 3
def Z89(p:Int)(t:List UInt8)(w:Wat):Bool:=decide (w.1=p/\w.2.1=t)
def chkL:List Wat->List Wat->Int
 | _,[]=>0
 | prev,w::l=>if Z3w w.1 w.2.1 w.2.2.1≠0 then Z3w w.1 w.2.1 w.2.2.1 else if 0<=w.2.2.2/\w.2.2.2<=16777215 then(if prev.any (Z89 w.1 w.2.1)=true then 6 else chkL (prev++[w]) l)else 3
def Z10(l:List Wat):Int:=if 12<(l.length:Int)then 2 else chkL [] l
theorem Z18v(w:World)(x:Wat)(hn:x.2.2.1.length<4294967281):Calls Tryz.prog 111 #[.agg #[.int .i64 x.1,.string ⟨x.2.1.toArray⟩,.string ⟨x.2.2.1.toArray⟩,.int .i64 x.2.2.2]] w λe w'=>e=.returned (.int .i64 (Z3w x.1 x.2.1 x.2.2.1))/\Mod [] w w':=by refine Z1 (Z7 (J:=[.i x.1,.s x.2.1,.s x.2.2.1,.i x.2.2.2]) sxE_ok Tryz.func111 Zhn rfl rfl rfl ?_) rfl;simp only[QQ,Nat.reduceAdd];intro b;refine⟨λh w' hr=>⟨by rw[Z3w,if_neg h],hr.mod⟩,λh=>⟨λh1 w' hr=>⟨by rw[Z3w,if_pos (qy9.1 h),if_pos h1],hr.mod⟩,λh1=>?_⟩⟩;refine⟨[.i (chkT x.2.2.1 false)],rfl,λ_ w' _=>Zmn w' _ hn,?_⟩;simp only[QQ,Nat.reduceAdd];exact λw' hr=>⟨by rw[Z3w,if_pos (qy9.1 h),if_neg h1],hr.mod⟩
theorem Zmo(w:World)(p:Int)(t n:List UInt8)(hn:n.length<4294967281):Calls Tryz.prog 92 #[.int .i64 p,.string ⟨t.toArray⟩,.string ⟨n.toArray⟩] w λe w'=>e=.returned (.int .i64 (Z3w p t n))/\Mod [] w w':=by refine Z1 (Z7 (J:=[.i p,.s t,.s n]) sxE_ok Tryz.func92 Z50 rfl rfl rfl ?_) rfl;simp only[QQ,Nat.reduceAdd];refine⟨λh w' hr=>⟨by rw[Z3w,if_neg h],hr.mod⟩,λh=>⟨λh1 w' hr=>⟨by rw[Z3w,if_pos (qy9.1 h),if_pos h1],hr.mod⟩,λh1=>?_⟩⟩;refine⟨[.i (chkT n false)],rfl,λ_ w' _=>Z5q w' n false hn,?_⟩;simp only[QQ,Nat.reduceAdd];exact λw' hr=>⟨by rw[Z3w,if_pos (qy9.1 h),if_neg h1],hr.mod⟩
def Z78(l:List Wat):Prop:=∀x∈l,x.2.2.1.length<4294967281
theorem Zft{l:List Wat}(h:Z78 l)(i:Nat):(l.getD i wD_K).2.2.1.length<4294967281:=by
 by_cases hi:i<l.length
 ·rw[qy1,qy7 hi];exact h _ (List.getElem_mem hi)
 ·rw[qy1,List.getElem?_eq_none (by omega)];decide
theorem Zk9(p:Wat->Bool)(l:List Wat)(k:Nat)(h:k<l.length):(l.take (k+1)).any p=((l.take k).any p || p (l.getD k wD_K)):=by rw[Z9z l k h,List.any_append];simp
theorem Zry{p:Wat->Bool}{l:List Wat}{k i:Nat}(hk:k<i)(hi:i<=l.length)(h:p (l.getD k wD_K)=true):(l.take i).any p=true:=by rw[List.any_eq_true];refine⟨l.getD k wD_K,?_,h⟩;rw[<- Zrx l hk,qy1,qy7 (by simp;omega)];exact List.getElem_mem _
theorem Z63(w:World)(v:Value)(l:List Wat)(hv:Z4g w v l)(hs:Z78 l)(hl:l.length<1099511627776):Calls Tryz.prog 44 #[sc1 v] w λe w'=>e=.returned (.int .i64 (Z10 l))/\Mod [] w w':=by
 refine Z1 (Z3 (J:=[.v v,.r (l.map Z8)]) sxE_ok Tryz.func44 Z43 rfl rfl (Rel.start2 (by simp[Ent.holds,Ent.wr,hv,X.ev])) rfl rfl ?_) rfl;simp only[QQ,Nat.reduceAdd,qy3];refine⟨λh w' hr=>⟨by rw[Z10,if_pos h],hr.mod⟩,λh=>?_⟩;rw[Z10,if_neg h];refine⟨λvs=>∃(i:Nat) (x:V),vs=[x,.i i]/\i<=l.length/\chkL (l.take i) (l.drop i)=chkL [] l,λvs=>l.length - (vs.getD 1 (.i 0)).toI.toNat,⟨0,_,rfl,by omega,rfl⟩,?_⟩;rintro _ - ⟨i,x,rfl,hi,hg⟩;simp only[QQ,Nat.reduceAdd,qy3,qy4,Z3u,Z3v,Z22,gW3];refine⟨λh1=>?_,λh1 w' hr=>⟨?_,hr.mod⟩⟩
 ·have hsm:=Zft hs i;rw[Zk8 l i (by omega)]at hg;simp only[chkL]at hg;refine⟨by omega,[.i (Z3w (l.getD i wD_K).1 (l.getD i wD_K).2.1 (l.getD i wD_K).2.2.1)],rfl,λ_ w' _=>Zmo w' _ _ _ hsm,?_⟩;simp only[QQ,Nat.reduceAdd,qy3,qy4,Z3u,Z3v,Z22,gW3];refine⟨λh2 w' hr=>⟨by rw[<- hg,if_pos h2],hr.mod⟩,λh2=>?_⟩;rw[if_neg h2]at hg;refine⟨λh3 w' hr=>⟨by rw[<- hg,if_neg h3],hr.mod⟩,λh3=>?_⟩;rw[if_pos (qy9.1 h3)]at hg;refine⟨λvs=>∃(k:Nat) (y:V),vs=[y,.i k]/\k<=i/\(l.take k).any (Z89 (l.getD i wD_K).1 (l.getD i wD_K).2.1)=false,λvs=>i - (vs.getD 1 (.i 0)).toI.toNat,⟨0,_,rfl,by omega,by simp⟩,?_⟩;rintro _ - ⟨k,y,rfl,hk,hno⟩;simp only[QQ,Nat.reduceAdd,qy3,qy4,Z3u,Z3v,Z22,gW3];refine⟨λh4=>⟨by omega,by omega,λh5 w' hr=>⟨?_,hr.mod⟩,λh5=>?_⟩,λh4=>?_⟩
  ·rw[<- hg,if_pos (Zry (k:=k) (by omega) (by omega) (by simp only[Z89,decide_eq_true_eq];exact h5))]
  ·refine⟨by omega,by omega,⟨k+1,y,rfl,by omega,?_⟩,by omega⟩;rw[Zk9 _ l k (by omega),hno,Bool.false_or];simp only[Z89,decide_eq_false_iff_not];exact h5
  ·have:k=i:=by omega
   subst this;rw[if_neg (by rw[hno];decide),<- Z9z l k (by omega)]at hg;exact⟨by omega,by omega,⟨k+1,_,rfl,by omega,hg⟩,by omega⟩
 ·have:i=l.length:=by omega
  subst this;rw[List.drop_length]at hg;rw[<- hg];rfl
theorem Zut(w:World)(v:Value)(l:List Wat)(hv:Z4g w v l)(hs:Z78 l)(hl:l.length<1099511627776):Calls Tryz.prog 65 #[sc1 v] w λe w'=>e=.returned (.int .i64 (Z10 l))/\Mod [] w w':=by
 refine Z1 (Z3 (J:=[.v v,.r (l.map Z8)]) sxE_ok Tryz.func65 Zdu rfl rfl (Rel.start2 (by simp[Ent.holds,Ent.wr,hv,X.ev])) rfl rfl ?_) rfl;simp only[QQ,Nat.reduceAdd,qy3];refine⟨λh w' hr=>⟨by rw[Z10,if_pos h],hr.mod⟩,λh=>?_⟩;rw[Z10,if_neg h];refine⟨λvs=>∃(i:Nat) (x:V),vs=[x,.i i]/\i<=l.length/\chkL (l.take i) (l.drop i)=chkL [] l,λvs=>l.length - (vs.getD 1 (.i 0)).toI.toNat,⟨0,_,rfl,by omega,rfl⟩,?_⟩;rintro _ - ⟨i,x,rfl,hi,hg⟩;simp only[QQ,Nat.reduceAdd,qy3,qy4,Z3u,Z3v,Z22,gW3];refine⟨λh1=>?_,λh1 w' hr=>⟨?_,hr.mod⟩⟩
 ·have hsm:=Zft hs i;rw[Zk8 l i (by omega)]at hg;simp only[chkL]at hg;refine⟨by omega,λb1=>⟨[.i (Z3w (l.getD i wD_K).1 (l.getD i wD_K).2.1 (l.getD i wD_K).2.2.1)],rfl,λ_ w' _=>Z18v w' (l.getD i wD_K) hsm,?_⟩⟩;simp only[QQ,Nat.reduceAdd,qy3,qy4,Z3u,Z3v,Z22,gW3];refine⟨λh2 w' hr=>⟨by rw[<- hg,if_pos h2],hr.mod⟩,λh2=>?_⟩;rw[if_neg h2]at hg;refine⟨λh3 w' hr=>⟨by rw[<- hg,if_neg h3],hr.mod⟩,λh3=>?_⟩;rw[if_pos (qy9.1 h3)]at hg;refine⟨by omega,λv1=>?_⟩;refine⟨λvs=>∃(k:Nat) (y:V),vs=[y,.i k,.i (l.getD i wD_K).1,.s (l.getD i wD_K).2.1,.s (l.getD i wD_K).2.2.1,.i (l.getD i wD_K).2.2.2]/\k<=i/\(l.take k).any (Z89 (l.getD i wD_K).1 (l.getD i wD_K).2.1)=false,λvs=>i - (vs.getD 1 (.i 0)).toI.toNat,⟨0,_,rfl,by omega,by simp⟩,?_⟩;rintro _ - ⟨k,y,rfl,hk,hno⟩;simp only[QQ,Nat.reduceAdd,Int.toNat_zero,List.drop_zero,qy4,<- List.map_take,qy3,qy4,Z3u,Z3v,Z22,gW3,List.length_take];refine⟨λh4=>⟨by omega,λb2 b3=>?_⟩,λh4=>?_⟩
  ·have hki:k<i:=by omega
   rw[Zrx l hki];refine⟨λh5 w' hr=>⟨?_,hr.mod⟩,λh5=>?_⟩
   ·rw[<- hg,if_pos (Zry (k:=k) (by omega) (by omega) (by simp only[Z89,decide_eq_true_eq];exact h5))]
   ·refine⟨by omega,by omega,⟨k+1,y,rfl,by omega,?_⟩,by omega⟩;rw[Zk9 _ l k (by omega),hno,Bool.false_or];simp only[Z89,decide_eq_false_iff_not];exact h5
  ·have:k=i:=by omega
   subst this;rw[if_neg (by rw[hno];decide),<- Z9z l k (by omega)]at hg;refine⟨λh5=>absurd h5 (by decide),λ_=>⟨by omega,by omega,⟨k+1,_,rfl,by omega,hg⟩,by omega⟩⟩
 ·have:i=l.length:=by omega
  subst this;rw[List.drop_length]at hg;rw[<- hg];rfl
theorem Zka(w:World)(u v:Value)(a b:List Wat)(hu:Z4g w u a)(hv:Z4g w v b)(hl:a.length<1099511627776):Calls Tryz.prog 14 #[sc1 u,sc1 v] w λe w'=>e=.returned (.bool (decide (a=b)))/\Mod [] w w':=by
 refine Z1 (Z3 (J:=[.v u,.r (a.map Z8),.v v,.r (b.map Z8)]) sxE_ok Tryz.func14 Z4d rfl rfl (Rel.start2 (by simp[Ent.holds,Ent.wr,hu,hv,X.ev])) rfl rfl ?_) rfl;simp only[QQ,Nat.reduceAdd,qy3];refine⟨λh w' hr=>⟨?_,hr.mod⟩,λh=>?_⟩
 ·rw[decide_eq_false];intro e;rw[e]at h;exact h rfl
 ·have hlen:a.length=b.length:=by omega
  refine⟨λvs=>∃(i:Nat) (x:V),vs=[x,.i i]/\i<=a.length/\∀j,j<i->a.getD j wD_K=b.getD j wD_K,λvs=>a.length - (vs.getD 1 (.i 0)).toI.toNat,⟨0,_,rfl,by omega,λj hj=>by omega⟩,?_⟩;rintro _ - ⟨i,x,rfl,hi,hall⟩;simp only[QQ,Nat.reduceAdd,qy3,qy4,Z3u,Z3v,Z22,gW3];refine⟨λh7=>⟨by omega,by omega,λh8 w' hr=>⟨?_,hr.mod⟩,λh8=>⟨by omega,by omega,⟨i+1,x,rfl,by omega,λj hj=>?_⟩,by omega⟩⟩,λh7 w' hr=>⟨?_,hr.mod⟩⟩
  ·rw[decide_eq_false];intro e;rw[e]at h8;exact h8 ⟨rfl,rfl,rfl,rfl⟩
  ·by_cases hji:j=i
   ·subst hji;have h9:=qy9.1 h8;exact Prod.ext h9.1 (Prod.ext h9.2.1 (Prod.ext h9.2.2.1 h9.2.2.2))
   ·exact hall j (by omega)
  ·rw[decide_eq_true];refine List.ext_getElem? λj=>?_;by_cases hj:j<a.length
   ·have:=hall j (by omega);rw[qy1,qy1,qy7 hj,qy7 (by omega)]at this;rw[qy7 hj,qy7 (by omega)];simpa using this
   ·rw[List.getElem?_eq_none (by omega),List.getElem?_eq_none (by omega)]
abbrev Zfu(w:World)(v:Value)(l:List Wat):Prop:=owns w v 97 kW_K (l.map Z8)
def Zif(n:Nat)(v:Value):Prop:=∀k,Z2 v k->n<=k
def filt(p:Int)(t:List UInt8)(l:List Wat):List Wat:=l.filter λw=>!Z89 p t w
theorem Zmp(p:Int)(t:List UInt8)(l:List Wat)(i:Nat)(h:i<l.length):filt p t (l.take (i+1))=filt p t (l.take i)++(if Z89 p t (l.getD i wD_K)=true then[]else[l.getD i wD_K]):=by
 rw[Z9z l i h,filt,List.filter_append];congr 1
 cases h2:Z89 p t (l.getD i wD_K)
 ·rw[List.filter_cons,h2];rfl
 ·rw[List.filter_cons,h2];rfl
theorem Z141(p:Int)(t:List UInt8)(l:List Wat):(filt p t l).length<=l.length:=List.length_filter_le ..
theorem Zb5(l:List Wat)(x:Wat):l.map Z8++[[Value.int .i64 x.1,.string ⟨x.2.1.toArray⟩,.string ⟨x.2.2.1.toArray⟩,.int .i64 x.2.2.2]]=(l++[x]).map Z8:=by simp[Z8]
def Z8l(n:List UInt8)(w:Wat):Wat:=if w.2.2.1=n then(w.1,w.2.1,w.2.2.1,if 16777215<w.2.2.2+1 then 0 else w.2.2.2+1)else w
def Z3c(n:List UInt8)(l:List Wat):List Wat:=l.map (Z8l n)
def Z3x(n:List UInt8)(l:List Wat):List Wat:=(l.filter λw=>decide (w.2.2.1=n)).map (Z8l n)
def okN(l:List Wat):Prop:=∀x∈l,0<=x.2.2.2/\x.2.2.2<=16777215
theorem Z1ce{l:List Wat}(h:okN l)(i:Nat):0<=(l.getD i wD_K).2.2.2/\(l.getD i wD_K).2.2.2<=16777215:=by
 by_cases hi:i<l.length
 ·rw[qy1,qy7 hi];exact h _ (List.getElem_mem hi)
 ·rw[qy1,List.getElem?_eq_none (by omega)];decide
theorem Zmq(n:List UInt8)(l:List Wat)(i:Nat)(h:i<l.length):Z3c n (l.take (i+1))=Z3c n (l.take i)++[Z8l n (l.getD i wD_K)]:=by rw[Z9z l i h];simp[Z3c]
theorem Zuu(n:List UInt8)(l:List Wat)(i:Nat)(h:i<l.length):Z3x n (l.take (i+1))=Z3x n (l.take i)++(if(l.getD i wD_K).2.2.1=n then[Z8l n (l.getD i wD_K)]else[]):=by
 rw[Z9z l i h,Z3x,List.filter_append,List.map_append];congr 1
 by_cases hc:(l.getD i wD_K).2.2.1=n
 ·rw[List.filter_cons,if_pos (by simpa using hc),if_pos hc];rfl
 ·rw[List.filter_cons,if_neg (by simpa using hc),if_neg hc];rfl
theorem Zpf(n:List UInt8)(l:List Wat):(Z3x n l).length<=l.length:=by rw[Z3x,qy3];exact List.length_filter_le ..
theorem Zuv{v:Value}(hn:(match v with | .slice none _ _=>true|_=>false)=true){w:World}{ks:List Kd}{rows:List (List Value)}(h:reads w v ks rows):rows=[]:=by obtain⟨_,a,cap,rfl,_,h2⟩:=h;refine Classical.byContradiction λhne=>?_;obtain⟨ad,rfl,_⟩:=h2 hne;simp at hn
theorem Z4o(w:World)(v:Value)(l:List Wat)(hv:Z4g w v l)(hl:l.length<1000000000):Calls Tryz.prog 79 #[sc1 v] w λe w'=>∃v',e=.returned (sc1 v')/\Zfu w' v' l/\Zif w.heap.size v'/\Mod [] w w':=by
 refine Z1 (Z3 (J:=[.v v,.r (l.map Z8)]) sxE_ok Tryz.func79 Z2n rfl rfl (Rel.start2 (by simp[Ent.holds,Ent.wr,hv,X.ev])) rfl rfl ?_) rfl;simp only[QQ,Nat.reduceAdd,qy3,List.nil_append];refine⟨λh w' hr=>?_,λh v1=>⟨by simp only[Int.natCast_zero];omega,λv2 w' hr=>?_⟩⟩
 ·have hn:l=[]:=List.map_eq_nil_iff.1 (Zuv h hv);subst hn;refine⟨_,rfl,hr.at_ 0 rfl,λk hk=>?_,hr.mod⟩;rcases hr.own _ (qy8 ..) rfl k hk with h|h
  ·exact h
  ·simp at h
 ·refine⟨v2,rfl,hr.at_ 0 rfl,λk hk=>?_,hr.mod⟩;rcases hr.own _ (qy8 ..) rfl k hk with h|h
  ·exact h
  ·simp at h
theorem Zrz{p:Int}{t:List UInt8}{l:List Wat}(h:l.any (Z89 p t)=false):filt p t l=l:=by rw[filt,List.filter_eq_self];intro x hx;rw[List.any_eq_false]at h;have:=h x hx;simpa using this
theorem Zmr{R l:List Wat}{j:Nat}(h:R.drop j=l.drop j):R.getD j wD_K=l.getD j wD_K:=by
 have e:∀q:List Wat,q.getD j wD_K=(q.drop j).getD 0 wD_K:=λq=>by simp[qy1]
 rw[e R,e l,h]
theorem Zy7(R:List Wat)(m:Nat)(x:Wat):(R.map Z8).set m [Value.int .i64 x.1,.string ⟨x.2.1.toArray⟩,.string ⟨x.2.2.1.toArray⟩,.int .i64 x.2.2.2]=(R.set m x).map Z8:=by rw[List.map_set];rfl
theorem Z142{R:List Wat}{m:Nat}{x:Wat}(h:m<R.length):(R.set m x).take (m+1)=R.take m++[x]:=by
 rw[List.take_set,Z9z R m h,List.set_append_right _ _ (by simp;omega)];have:m - (R.take m).length=0:=by simp;omega
 rw[this];rfl
theorem Z143{R:List Wat}{m j:Nat}{x:Wat}(h:m<j):(R.set m x).drop j=R.drop j:=by rw[List.drop_set,if_pos h]
theorem Zb6(w:World)(v:Value)(l:List Wat)(p:Int)(t:List UInt8)(hv:Z4g w v l)(hl:l.length<1000000000):Calls Tryz.prog 212 #[sc1 v,.int .i64 p,.string ⟨t.toArray⟩] w λe w'=>∃v',e=.returned (sc1 v')/\Zfu w' v' (filt p t l)/\Zif w.heap.size v'/\Mod [] w w':=by
 refine Z1 (Z3 (J:=[.v v,.r (l.map Z8),.i p,.s t]) sxE_ok Tryz.func212 Zay rfl rfl (Rel.start2 (by simp[Ent.holds,Ent.wr,hv,X.ev])) rfl rfl ?_) rfl;simp only[QQ,Nat.reduceAdd];intro b1 b2 w1 hr;refine(Z4o w1 v l (hr.at_ 3 rfl) hl).mono ?_;rintro e w2 ⟨u,rfl,o1,f1,m1⟩;refine⟨[.v u,.r (l.map Z8)],rfl,rfl,m1,qy5 _,qy2.2 ⟨⟨o1,λk hk=>.inl (f1 k hk)⟩,qy5 _⟩,Z5,?_⟩;simp only[QQ,Nat.reduceAdd];refine⟨λvs=>∃(i:Nat) (x:V),vs=[x,.i i,.s t,.i p]/\i<=l.length/\(l.take i).any (Z89 p t)=false,λvs=>l.length - (vs.getD 1 (.i 0)).toI.toNat,⟨0,_,rfl,by omega,by simp⟩,?_⟩;rintro _ - ⟨i,x,rfl,hi,hno⟩;simp only[QQ,Nat.reduceAdd,qy3,qy4,Z3u,Z3v,Z22,gW3];refine⟨λh1=>⟨by omega,λb3 b4=>⟨λh2=>⟨λh3=>absurd h3 (by omega),λh3=>⟨by omega,by omega,?_⟩⟩,λh2=>?_⟩⟩,λh1 w' hr=>?_⟩
 ·refine⟨λvs=>∃(m j:Nat) (R:List Wat),vs=[.i m,.i j,.r (R.map Z8),.s t,.i p]/\R.length=l.length/\m<j/\j<=l.length/\R.take m=filt p t (l.take j)/\R.drop j=l.drop j,λvs=>l.length - (vs.getD 1 (.i 0)).toI.toNat,⟨i,i+1,l,rfl,rfl,by omega,by omega,?_,rfl⟩,?_⟩
  ·have hsn:=Zmp p t l i (by omega);rw[if_pos (by simp only[Z89,decide_eq_true_eq];exact h2),List.append_nil,Zrz hno]at hsn;exact hsn.symm
  ·rintro _ - ⟨m,j,R,rfl,hRl,hmj,hj,htk,hdr⟩;simp only[QQ,Nat.reduceAdd,qy3,qy4,Z3u,Z3v,Z22,gW3];refine⟨λh4=>⟨by omega,λb5 b6 b7=>?_⟩,λh4=>?_⟩
   ·have hsn:=Zmp p t l j (by omega);have hRj:=Zmr hdr;have hdr1:R.drop (j+1)=l.drop (j+1):=by rw[<- List.drop_drop,<- List.drop_drop,hdr]
    rw[hRj];refine⟨λh5=>?_,λh5=>?_⟩
    ·rw[if_neg (by simp only[Z89,decide_eq_true_eq];exact h5)]at hsn;refine⟨by omega,by omega,by omega,by omega,by omega,by omega,⟨m+1,j+1,R.set m (l.getD j wD_K),?_,by simpa using hRl,by omega,by omega,?_,?_⟩,by omega⟩
     ·rw[Zy7];rfl
     ·rw[Z142 (by omega),htk,hsn]
     ·rw[Z143 (by omega),hdr1]
    ·rw[if_pos (by simp only[Z89,decide_eq_true_eq];exact qy9.1 h5),List.append_nil]at hsn;exact⟨by omega,by omega,⟨m,j+1,R,rfl,hRl,by omega,by omega,by rw[htk,hsn],hdr1⟩,by omega⟩
   ·have:j=l.length:=by omega
    subst this;rw[List.take_length]at htk;refine⟨by omega,by omega,?_,λv9 w' hr=>?_⟩
    ·simp only[qy11,List.length_take,qy3,List.length_replicate];omega
    ·have h0:=hr.at_ 0 rfl;simp only[Ent.holds,QQ,Nat.reduceAdd,qy3,qy4,Z3u,Z3v,Z22,gW3]at h0;have e1:(List.take m (List.take m (R.map Z8)++List.replicate (R.length - m) [Value.int .i64 0,.string ⟨[].toArray⟩,.string ⟨[].toArray⟩,.int .i64 0]))=(filt p t l).map Z8:=by
      rw[List.take_append_of_le_length (by simp;omega),List.take_take,Nat.min_self,<- List.map_take,htk]
     rw[e1]at h0;refine⟨v9,rfl,h0,λk hk=>?_,hr.mod⟩;rcases hr.own _ (qy8 ..) rfl k hk with h|h
     ·exact h
     ·simp at h
 ·refine⟨by omega,by omega,⟨i+1,x,rfl,by omega,?_⟩,by omega⟩;rw[Zk9 _ l i (by omega),hno,Bool.false_or];simp only[Z89,decide_eq_false_iff_not];exact h2
 ·have:i=l.length:=by omega
  subst this;rw[List.take_length]at hno;rw[Zrz hno];refine⟨u,rfl,hr.at_ 1 rfl,λk hk=>?_,hr.mod⟩;rcases hr.own _ (qy10 _ (qy8 ..)) rfl k hk with h|h
  ·exact h
  ·simp at h
theorem Zy8{J:List V}{u v:Nat}{ks ks':List Kd}{r r':X}:Zp J [.rd u ks r,.rd v ks' r'] :=
 List.pairwise_cons.2 ⟨λe he hw _ _ _=>by rw[qy12]at he;subst he;exact hw.elim (λh=>Bool.noConfusion h) (λh=>Bool.noConfusion h),List.pairwise_singleton _ _⟩
def Z52(l:List Wat)(x:Wat):List Wat×Int:=if 12<((filt x.1 x.2.1 l).length+1:Int)then([],2)else(filt x.1 x.2.1 l++[x],0)
def Z1ew(w w':World)(e:Ending)(r:List Wat×Int):Prop:=∃v,e=.returned (.tuple #[sc1 v,.int .i64 r.2])/\Zfu w' v r.1/\Zif w.heap.size v/\Mod [] w w'
theorem Z1cf(w:World)(v:Value)(l:List Wat)(x:Wat)(hv:Z4g w v l)(hl:l.length<1000000000):Calls Tryz.prog 210 #[sc1 v,.agg #[.int .i64 x.1,.string ⟨x.2.1.toArray⟩,.string ⟨x.2.2.1.toArray⟩,.int .i64 x.2.2.2]] w λe w'=>Z1ew w w' e (Z52 l x):=by
 refine Z1 (Z3 (J:=[.v v,.r (l.map Z8),.i x.1,.s x.2.1,.s x.2.2.1,.i x.2.2.2]) sxE_ok Tryz.func210 Zhq rfl rfl (Rel.start2 (by simp[Ent.holds,Ent.wr,hv,X.ev])) rfl rfl ?_) rfl;simp only[QQ,Nat.reduceAdd];have hfl:=Z141 x.1 x.2.1 l;intro b1;refine⟨?_,?_,λv0=>?_⟩
 ·intro w1 hr;refine(Zb6 w1 v l x.1 x.2.1 (hr.at_ 2 rfl) hl).mono ?_;rintro e w2 ⟨u,rfl,o1,f1,m1⟩;refine⟨[.v u,.r ((filt x.1 x.2.1 l).map Z8)],rfl,rfl,m1,qy5 _,qy2.2 ⟨⟨o1,λk hk=>.inl (f1 k hk)⟩,qy5 _⟩,Z5,?_⟩;simp only[QQ,Nat.reduceAdd,qy3,qy11,List.length_cons,List.length_nil,Nat.zero_add];intro v1;refine⟨by omega,λv2=>⟨λh w' hr=>?_,λh w' hr=>?_⟩⟩
  ·rw[Z52,if_pos (by omega)];exact⟨.slice none 0 0,rfl,⟨by simp,World.ownsRow_nil _ _ _ _⟩,λk hk=>by simp[Z2,Value.ownBlock]at hk,hr.mod⟩
  ·rw[Z52,if_neg (by omega)];have h0:=hr.at_ 0 rfl;simp only[Ent.holds,QQ,Nat.reduceAdd]at h0;rw[Zb5 _ x]at h0;exact⟨v2,rfl,h0,hr.fresh 0 rfl,hr.mod⟩
 ·intro w1 hr;refine(Zb6 w1 v l x.1 x.2.1 (hr.at_ 2 rfl) hl).mono ?_;rintro e w2 ⟨u,rfl,o1,f1,m1⟩;refine⟨[.v u,.r ((filt x.1 x.2.1 l).map Z8)],rfl,rfl,m1,qy5 _,qy2.2 ⟨⟨o1,λk hk=>.inl (f1 k hk)⟩,qy5 _⟩,Z5,?_⟩;simp only[QQ,Nat.reduceAdd,qy3,qy11,List.length_cons,List.length_nil,Nat.zero_add];intro v1;refine⟨by omega,λv2=>⟨λh w' hr=>?_,λh w' hr=>?_⟩⟩
  ·rw[Z52,if_pos (by omega)];exact⟨.slice none 0 0,rfl,⟨by simp,World.ownsRow_nil _ _ _ _⟩,λk hk=>by simp[Z2,Value.ownBlock]at hk,hr.mod⟩
  ·rw[Z52,if_neg (by omega)];have h0:=hr.at_ 0 rfl;simp only[Ent.holds,QQ,Nat.reduceAdd]at h0;rw[Zb5 _ x]at h0;exact⟨v2,rfl,h0,hr.fresh 0 rfl,hr.mod⟩
 ·intro w1 hr;refine(Zb6 w1 v l x.1 x.2.1 (hr.at_ 3 rfl) hl).mono ?_;rintro e w2 ⟨u,rfl,o1,f1,m1⟩;refine⟨[.v u,.r ((filt x.1 x.2.1 l).map Z8)],rfl,rfl,m1,qy5 _,qy2.2 ⟨⟨o1,λk hk=>.inl (f1 k hk)⟩,qy5 _⟩,Z5,?_⟩;simp only[QQ,Nat.reduceAdd,qy3,qy11,List.length_cons,List.length_nil,Nat.zero_add];refine⟨by omega,λv2=>⟨λh w' hr=>?_,λh w' hr=>?_⟩⟩
  ·rw[Z52,if_pos (by omega)];exact⟨.slice none 0 0,rfl,⟨by simp,World.ownsRow_nil _ _ _ _⟩,λk hk=>by simp[Z2,Value.ownBlock]at hk,hr.mod⟩
  ·rw[Z52,if_neg (by omega)];have h0:=hr.at_ 0 rfl;simp only[Ent.holds,QQ,Nat.reduceAdd]at h0;rw[Zb5 _ x]at h0;exact⟨v2,rfl,h0,hr.fresh 0 rfl,hr.mod⟩
theorem Z1cg(n:Int)(h:0<=n/\n<=16777216):Z1v .and .i64 n 16777215=if 16777215<n then 0 else n:=by
 obtain⟨x,rfl⟩:∃x:Nat,n=x:=⟨n.toNat,by omega⟩
 have oi:∀x:Nat,x<2 ^ 63->(BitVec.ofInt 64 (x:Int)).toNat=x:=λx h=>by simp[BitVec.toNat_ofInt];omega
 have h127:(16777215:Int)=((16777215:Nat):Int):=rfl;simp only[Z1v,h127]
 show IntKind.i64.wrap (((BitVec.ofInt 64 (x:Int)) &&& (BitVec.ofInt 64 ((16777215:Nat):Int))).toNat:Int)=_
 rw[BitVec.toNat_and,oi x (by omega),oi 16777215 (by omega)];have e:x &&& 16777215=x % 16777216:=Nat.and_two_pow_sub_one_eq_mod x 24;rw[e,IntKind.wrap_i64];split<;>omega
theorem Z144{R:List Wat}{i:Nat}{x:Wat}(h:i<R.length):(R.set i x).getD i wD_K=x:=by rw[qy1,List.getElem?_set_self h];rfl
theorem Z145{n:List UInt8}{l:List Wat}{i:Nat}(hi:i<=l.length):(Z3c n (l.take i)++l.drop i).getD i wD_K=l.getD i wD_K:=by simp only[qy1];rw[List.getElem?_append_right (by simp[Z3c];omega)];simp[Z3c,Nat.min_eq_left hi]
theorem Z18w{n:List UInt8}{l:List Wat}{i:Nat}(hi:i<l.length):(Z3c n (l.take i)++l.drop i).set i (Z8l n (l.getD i wD_K))=Z3c n (l.take (i+1))++l.drop (i+1):=by
 have hlen:(Z3c n (l.take i)).length=i:=by simp[Z3c];omega
 rw[List.set_append_right _ _ (by omega),hlen,Nat.sub_self,Zk8 l i hi,Zmq n l i hi];simp
theorem Z146{n:List UInt8}{l:List Wat}{i:Nat}(hi:i<l.length)(h:Z8l n (l.getD i wD_K)=l.getD i wD_K):Z3c n (l.take i)++l.drop i=Z3c n (l.take (i+1))++l.drop (i+1):=by rw[Zmq n l i hi,h,Zk8 l i hi];simp
theorem Zy9{n:List UInt8}{l:List Wat}{i:Nat}(hi:i<=l.length):(Z3c n (l.take i)++l.drop i).length=l.length:=by simp[Z3c];omega
theorem Z18x(w:World)(v:Value)(l:List Wat)(n:List UInt8)(hv:Z4g w v l)(hl:l.length<1000000000)(hok:okN l):Calls Tryz.prog 218 #[sc1 v,.string ⟨n.toArray⟩] w λe w'=>∃v1 v2,e=.returned (.tuple #[sc1 v1,sc1 v2])/\Zfu w' v1 (Z3c n l)/\Zfu w' v2 (Z3x n l)/\Zif w.heap.size v1/\Zif w.heap.size v2/\(∀k,Z2 v1 k->Z2 v2 k->False)/\Mod [] w w':=by
 refine Z1 (Z3 (J:=[.v v,.r (l.map Z8),.s n]) sxE_ok Tryz.func218 Zfn rfl rfl (Rel.start2 (by simp[Ent.holds,Ent.wr,hv,X.ev])) rfl rfl ?_) rfl;simp only[QQ,Nat.reduceAdd];intro w1 hr;refine(Z4o w1 v l (hr.at_ 2 rfl) hl).mono ?_;rintro e w2 ⟨u,rfl,o1,f1,m1⟩;refine⟨[.v u,.r (l.map Z8)],rfl,rfl,m1,qy5 _,qy2.2 ⟨⟨o1,λk hk=>.inl (f1 k hk)⟩,qy5 _⟩,Z5,?_⟩;simp only[QQ,Nat.reduceAdd];refine⟨λvs=>∃(i:Nat) (u2:Value),vs=[.v u2,.r ((Z3x n (l.take i)).map Z8),.i i,.r ((Z3c n (l.take i)++l.drop i).map Z8)]/\i<=l.length,λvs=>l.length - (vs.getD 2 (.i 0)).toI.toNat,⟨0,_,rfl,by omega⟩,?_⟩;rintro _ - ⟨i,u2,rfl,hi⟩;simp only[QQ,Nat.reduceAdd,qy3,qy4,Z3u,Z3v,Z22,gW3];have hfl:=Zpf n (l.take i);rw[List.length_take]at hfl;rw[Zy9 hi,Z145 hi];refine⟨λh1=>?_,λh1 w' hr=>?_⟩
 ·have hok1:=Z1ce hok i;have hf2:=Zuu n l i (by omega);have hst:=Z18w (n:=n) (l:=l) (i:=i) (by omega);have hml:=Zy9 (n:=n) (l:=l) (i:=i) hi;refine⟨by omega,by omega,λh2=>?_,λh2=>?_⟩
  ·rw[if_pos h2]at hf2;have ht:Z8l n (l.getD i wD_K)=((l.getD i wD_K).1,(l.getD i wD_K).2.1,(l.getD i wD_K).2.2.1,Z1v .and .i64 ((l.getD i wD_K).2.2.2+1) 16777215):=by
    rw[Z8l,if_pos h2,Z1cg _ (by omega)]
   have hrow:=Zy7 (Z3c n (l.take i)++l.drop i) i (Z8l n (l.getD i wD_K));rw[ht]at hrow;simp only at hrow;rw[hrow,<- ht];simp only[Z3u,Z3v,Z22,gW3,qy3,List.length_set,Z144 (show i<(Z3c n (l.take i)++l.drop i).length by omega)];rw[Zb5,hst];refine⟨by omega,by omega,by omega,λv1=>⟨by omega,λv2=>⟨by omega,by omega,⟨i+1,v2,?_,by omega⟩,by omega⟩⟩⟩;rw[hf2];rfl
  ·rw[if_neg h2,List.append_nil]at hf2;have ht:Z8l n (l.getD i wD_K)=l.getD i wD_K:=by rw[Z8l,if_neg h2]
   refine⟨by omega,by omega,⟨i+1,u2,?_,by omega⟩,by omega⟩;rw[hf2,<- Z146 (by omega) ht];rfl
 ·have:i=l.length:=by omega
  subst this;rw[List.take_length,List.drop_length,List.append_nil]at hr;refine⟨u,u2,rfl,hr.at_ 1 rfl,hr.at_ 0 rfl,?_,?_,λk h1 h2=>(List.pairwise_cons.1 hr.sep).1 _ (qy8 ..) (.inl rfl) k h2 h1,hr.mod⟩
  ·intro k hk;rcases hr.own _ (qy10 _ (qy8 ..)) rfl k hk with h|h
   ·exact h
   ·simp at h
  ·intro k hk;rcases hr.own _ (qy8 ..) rfl k hk with h|h
   ·exact h
   ·simp at h
abbrev Fl:=Int×List UInt8×List UInt8
def encF(f:Fl):List Value:=[.int .i64 f.1,.string ⟨f.2.1.toArray⟩,.string ⟨f.2.2.toArray⟩]
abbrev fD:Fl:=(0,[],[])
abbrev kF:List Kd:=[.int .i64,.str,.str]
theorem gF0(l:List Fl)(i:Nat):Value.gI (((l.map encF).getD i []).getD 0 undef)=(l.getD i fD).1:=by simp only[qy1,List.getElem?_map];cases l[i]?<;>rfl
theorem gF1(l:List Fl)(i:Nat):Value.gS (((l.map encF).getD i []).getD 1 undef)=(l.getD i fD).2.1:=by simp only[qy1,List.getElem?_map];cases l[i]?<;>simp[encF,Value.gS,undef]
theorem gF2(l:List Fl)(i:Nat):Value.gS (((l.map encF).getD i []).getD 2 undef)=(l.getD i fD).2.2:=by simp only[qy1,List.getElem?_map];cases l[i]?<;>simp[encF,Value.gS,undef]
abbrev Zu(w:World)(v:Value)(l:List Fl):Prop:=reads w v kF (l.map encF)
theorem Z147(l:List Fl)(i:Nat)(h:i<l.length):l.drop i=l.getD i fD::l.drop (i+1):=by rw[List.drop_eq_getElem_cons h,qy1,qy7 h];rfl
theorem Zuw(l:List Fl)(i:Nat)(h:i<l.length):l.take (i+1)=l.take i++[l.getD i fD]:=by rw[List.take_add_one,qy1,qy7 h];rfl
theorem Z148(l:List Fl){k i:Nat}(h:k<i):(l.take i).getD k fD=l.getD k fD:=by simp only[qy1,List.getElem?_take,if_pos h]
def Zb7(l:List Fl):Prop:=∀x∈l,x.2.1.length<4294967281
theorem Zb8{l:List Fl}(h:Zb7 l)(i:Nat):(l.getD i fD).2.1.length<4294967281:=by
 by_cases hi:i<l.length
 ·rw[qy1,qy7 hi];exact h _ (List.getElem_mem hi)
 ·rw[qy1,List.getElem?_eq_none (by omega)];decide
def flE(f:Fl):Int:=if chkT f.2.1 false=0 then(if 200<(f.2.2.length:Int)then 2 else 0)else chkT f.2.1 false
def idIs(n:Int)(f:Fl):Bool:=decide (f.1=n)
def Zb9:List Fl->List Fl->Int
 | _,[]=>0
 | prev,f::l=>if flE f≠0 then flE f else if 1<=f.1/\f.1<=65535 then if prev.any (idIs f.1)=true then 6 else Zb9 (prev++[f]) l else 3
def Zcr:List Fl->Int
 | []=>0
 | f::l=>if flE f≠0 then flE f else if f.1=0 then Zcr l else 1
structure Ses where
 cl:List UInt8
 on:Bool
 clean:Bool
 fl:List Fl
 qu:List Fl
 next:Int
 deriving DecidableEq
def sesV(s:Ses)(u v:Value):Value:=.agg #[.string ⟨s.cl.toArray⟩,.bool s.on,.bool s.clean,sc1 u,sc1 v,.int .i64 s.next]
def Zd(s:List UInt8):Bool:=decide (1<=(s.length:Int)/\(s.length:Int)<=20) && Z25 s
def allS(s:Ses):Int:=if Zb9 [] s.fl=0 then Zcr s.qu else Zb9 [] s.fl
def chkS(s:Ses):Int :=
 if Zd s.cl=true then
  if 3<(s.fl.length:Int)\/6<(s.qu.length:Int)then 2
  else if allS s=0 then
   if 1<=s.next/\s.next<=65535 then
    if((¬s.on=true/\s.clean=true)/\0<(s.fl.length:Int)+s.qu.length)\/((s.on=true/\0<(s.qu.length:Int))/\(s.fl.length:Int)<3)then 4 else 0
   else 3
  else allS s
 else 1
theorem Zba(w:World)(s:List UInt8)(hs:s.length<1099511627776):Calls Tryz.prog 75 #[.string ⟨s.toArray⟩] w λe w'=>e=.returned (.bool (Zd s))/\Mod [] w w':=by refine Z1 (Z7 (J:=[.s s]) sxE_ok Tryz.func75 Z5p rfl rfl rfl ?_) rfl;simp only[QQ,Nat.reduceAdd];refine⟨[.b (Z25 s)],rfl,λ_ w' _=>Zk4 w' s hs,?_⟩;simp only[QQ,Nat.reduceAdd];exact λw' hr=>⟨by simp[Zd],hr.mod⟩
theorem Zms(w:World)(s:List UInt8)(hs:s.length<1099511627776):Calls Tryz.prog 90 #[.string ⟨s.toArray⟩] w λe w'=>e=.returned (.bool (Zd s))/\Mod [] w w':=by refine Z1 (Z7 (J:=[.s s]) sxE_ok Tryz.func90 Z2s rfl rfl rfl ?_) rfl;simp only[QQ,Nat.reduceAdd];refine⟨[.b (Z25 s)],rfl,λ_ w' _=>Zfr w' s hs,?_⟩;simp only[QQ,Nat.reduceAdd];exact λw' hr=>⟨by simp[Zd],hr.mod⟩
theorem Zs0(w:World)(f:Fl)(hn:f.2.1.length<4294967281):Calls Tryz.prog 180 #[.agg #[.int .i64 f.1,.string ⟨f.2.1.toArray⟩,.string ⟨f.2.2.toArray⟩]] w λe w'=>e=.returned (.int .i64 (flE f))/\Mod [] w w':=by refine Z1 (Z7 (J:=[.i f.1,.s f.2.1,.s f.2.2]) sxE_ok Tryz.func180 Z9x rfl rfl rfl ?_) rfl;simp only[QQ,Nat.reduceAdd];intro b;refine⟨[.i (chkT f.2.1 false)],rfl,λ_ w' _=>Zmn w' _ hn,?_⟩;simp only[QQ,Nat.reduceAdd];refine⟨λh w' hr=>⟨by rw[flE,if_neg h],hr.mod⟩,λh=>⟨λh1 w' hr=>⟨by rw[flE,if_pos (qy9.1 h),if_pos h1],hr.mod⟩,λh1 w' hr=>⟨by rw[flE,if_pos (qy9.1 h),if_neg h1],hr.mod⟩⟩⟩
theorem Zbb(w:World)(f:Fl)(hn:f.2.1.length<4294967281):Calls Tryz.prog 91 #[.agg #[.int .i64 f.1,.string ⟨f.2.1.toArray⟩,.string ⟨f.2.2.toArray⟩]] w λe w'=>e=.returned (.int .i64 (flE f))/\Mod [] w w':=by
 refine Z1 (Z7 (J:=[.i f.1,.s f.2.1,.s f.2.2]) sxE_ok Tryz.func91 Z4f rfl rfl rfl ?_) rfl;simp only[QQ,Nat.reduceAdd];intro b;refine⟨[.i (chkT f.2.1 false)],rfl,λ_ w' _=>Z5q w' _ false hn,?_⟩;simp only[QQ,Nat.reduceAdd];refine⟨λh w' hr=>⟨by rw[flE,if_pos h.1,if_pos h.2],hr.mod⟩,λh w' hr=>⟨?_,hr.mod⟩⟩;by_cases h1:chkT f.2.1 false=0
 ·rw[flE,if_pos h1,if_neg (λh2=>h ⟨h1,h2⟩),h1]
 ·rw[flE,if_neg h1]
theorem Z1ch(w:World)(n:Int):Calls Tryz.prog 150 #[.int .i64 n] w λe w'=>e=.returned (.bool (decide (1<=n/\n<=65535)))/\Mod [] w w':=by refine Z1 (Z7 (J:=[.i n]) sxE_ok Tryz.func150 Zfo rfl rfl rfl ?_) rfl;simp only[QQ,Nat.reduceAdd];exact λw' hr=>⟨by simp,hr.mod⟩
theorem Zfv(p:Fl->Bool)(l:List Fl)(k:Nat)(h:k<l.length):(l.take (k+1)).any p=((l.take k).any p || p (l.getD k fD)):=by rw[Zuw l k h,List.any_append];simp
theorem Zya{p:Fl->Bool}{l:List Fl}{k i:Nat}(hk:k<i)(hi:i<=l.length)(h:p (l.getD k fD)=true):(l.take i).any p=true:=by rw[List.any_eq_true];refine⟨l.getD k fD,?_,h⟩;rw[<- Z148 l hk,qy1,qy7 (by simp;omega)];exact List.getElem_mem _
theorem Z6g{p:Prop}(h:p):p/\p:=⟨h,h⟩
theorem Zyb(w:World)(v:Value)(l:List Fl)(n:Int)(hv:Zu w v l)(hl:l.length<1000000000):Calls Tryz.prog 181 #[sc1 v,.int .i64 n] w λe w'=>e=.returned (.bool (l.any (idIs n)))/\Mod [] w w':=by
 refine Z1 (Z3 (J:=[.v v,.r (l.map encF),.i n]) sxE_ok Tryz.func181 Zck rfl rfl (Rel.start2 (by simp[Ent.holds,Ent.wr,hv,X.ev])) rfl rfl ?_) rfl;simp only[QQ,Nat.reduceAdd];intro b;refine⟨λvs=>∃(i:Nat) (x:V),vs=[x,.i i,.i n]/\i<=l.length/\(l.take i).any (idIs n)=false,λvs=>l.length - (vs.getD 1 (.i 0)).toI.toNat,⟨0,_,rfl,by omega,by simp⟩,?_⟩;rintro _ - ⟨i,x,rfl,hi,hno⟩;simp only[QQ,Nat.reduceAdd,qy3,qy4,gF0,gF1,gF2];refine⟨λh1=>⟨by omega,λb2=>⟨λh2 w' hr=>⟨?_,hr.mod⟩,λh2=>⟨by omega,by omega,⟨i+1,x,rfl,by omega,?_⟩,by omega⟩⟩⟩,λh1 w' hr=>⟨?_,hr.mod⟩⟩
 ·have:=Zya (p:=idIs n) (l:=l) (k:=i) (i:=l.length) (by omega) (Nat.le_refl _) (by simp only[idIs,decide_eq_true_eq];exact h2);rw[List.take_length]at this;rw[this];simp
 ·rw[Zfv _ l i (by omega),hno,Bool.false_or];simp only[idIs,decide_eq_false_iff_not];exact h2
 ·have:i=l.length:=by omega
  subst this;rw[List.take_length]at hno;rw[hno];rfl
theorem Zbc(w:World)(u v:Value)(a b:List Fl)(hu:Zu w u a)(hv:Zu w v b)(hl:a.length<1000000000):Calls Tryz.prog 39 #[sc1 u,sc1 v] w λe w'=>e=.returned (.bool (decide (a=b)))/\Mod [] w w':=by
 refine Z1 (Z3 (J:=[.v u,.r (a.map encF),.v v,.r (b.map encF)]) sxE_ok Tryz.func39 Z4c rfl rfl (Rel.start2 (by simp[Ent.holds,Ent.wr,hu,hv,X.ev])) rfl rfl ?_) rfl;simp only[QQ,Nat.reduceAdd,qy3];refine⟨λh w' hr=>⟨?_,hr.mod⟩,λh=>?_⟩
 ·rw[decide_eq_false];intro e;rw[e]at h;exact h rfl
 ·have hlen:a.length=b.length:=by omega
  refine⟨λvs=>∃(i:Nat) (x:V),vs=[x,.i i]/\i<=a.length/\∀j,j<i->a.getD j fD=b.getD j fD,λvs=>a.length - (vs.getD 1 (.i 0)).toI.toNat,⟨0,_,rfl,by omega,λj hj=>by omega⟩,?_⟩;rintro _ - ⟨i,x,rfl,hi,hall⟩;simp only[QQ,Nat.reduceAdd,qy3,qy4,gF0,gF1,gF2];refine⟨λh7=>⟨by omega,by omega,λh8 w' hr=>⟨?_,hr.mod⟩,λh8=>⟨by omega,by omega,⟨i+1,x,rfl,by omega,λj hj=>?_⟩,by omega⟩⟩,λh7 w' hr=>⟨?_,hr.mod⟩⟩
  ·rw[decide_eq_false];intro e;rw[e]at h8;exact h8 ⟨rfl,rfl,rfl⟩
  ·by_cases hji:j=i
   ·subst hji;have h9:=qy9.1 h8;exact Prod.ext h9.1 (Prod.ext h9.2.1 h9.2.2)
   ·exact hall j (by omega)
  ·rw[decide_eq_true];refine List.ext_getElem? λj=>?_;by_cases hj:j<a.length
   ·have:=hall j (by omega);rw[qy1,qy1,qy7 hj,qy7 (by omega)]at this;rw[qy7 hj,qy7 (by omega)];simpa using this
   ·rw[List.getElem?_eq_none (by omega),List.getElem?_eq_none (by omega)]
theorem Z1ex(w:World)(s:Ses)(u v:Value)(hu:Zu w u s.fl)(hv:Zu w v s.qu)(h1:Zb7 s.fl)(h2:Zb7 s.qu)(hl1:s.fl.length<1000000000)(hl2:s.qu.length<1000000000):Calls Tryz.prog 149 #[sesV s u v] w λe w'=>e=.returned (.int .i64 (allS s))/\Mod [] w w':=by
 refine Z1 (Z3 (J:=[.s s.cl,.b s.on,.b s.clean,.v u,.r (s.fl.map encF),.v v,.r (s.qu.map encF),.i s.next]) sxE_ok Tryz.func149 Zdz rfl rfl (Rel.start2 (by simp[Ent.holds,Ent.wr,hu,hv,X.ev])) rfl rfl ?_) rfl;simp only[QQ,Nat.reduceAdd];intro b;refine⟨λvs=>∃(i:Nat) (x:V),vs=[x,.i i]/\i<=s.fl.length/\Zb9 (s.fl.take i) (s.fl.drop i)=Zb9 [] s.fl,λvs=>s.fl.length - (vs.getD 1 (.i 0)).toI.toNat,⟨0,_,rfl,by omega,rfl⟩,?_⟩;rintro _ - ⟨i,x,rfl,hi,hg⟩;simp only[QQ,Nat.reduceAdd,qy3,qy4,gF0,gF1,gF2];refine⟨λh3=>⟨by omega,λb2=>?_⟩,λh3=>?_⟩
 ·have hsm:=Zb8 h1 i;rw[Z147 _ i (by omega)]at hg;simp only[Zb9]at hg;refine⟨[.i (flE (s.fl.getD i fD))],rfl,λ_ w' _=>Zs0 w' (s.fl.getD i fD) hsm,?_⟩;simp only[QQ,Nat.reduceAdd,qy3,qy4,gF0,gF1,gF2];refine⟨λh4 w' hr=>⟨?_,hr.mod⟩,λh4=>?_⟩
  ·rw[if_pos h4]at hg;rw[allS,<- hg,if_neg h4]
  rw[if_neg h4]at hg;refine⟨[.b (decide (1<=(s.fl.getD i fD).1/\(s.fl.getD i fD).1<=65535))],rfl,λ_ w' _=>Z1ch w' _,?_⟩;simp only[QQ,Nat.reduceAdd,qy3,qy4,gF0,gF1,gF2,decide_eq_true_eq];refine⟨λh5 w' hr=>⟨?_,hr.mod⟩,λh5=>?_⟩
  ·rw[if_neg h5]at hg;rw[allS,<- hg];rfl
  rw[if_pos (qy9.1 h5)]at hg;first|refine Z6g ?_|skip
  refine⟨by omega,λv9=>?_⟩;refine⟨[.b ((s.fl.take i).any (idIs (s.fl.getD i fD).1))],rfl,λ_ w' hr=>?_,?_⟩
  ·have h0:=hr.at_ 0 rfl;simp only[Ent.holds,QQ,Nat.reduceAdd,Int.toNat_zero,List.drop_zero,qy4,<- List.map_take]at h0;exact Zyb w' v9 _ _ h0 (by rw[List.length_take];omega)
  simp only[QQ,Nat.reduceAdd,qy3,qy4,gF0,gF1,gF2];refine⟨λh6 w' hr=>⟨?_,hr.mod⟩,λh6=>?_⟩
  ·rw[if_pos h6]at hg;rw[allS,<- hg];rfl
  ·rw[if_neg h6,<- Zuw _ i (by omega)]at hg;exact⟨by omega,by omega,⟨i+1,x,rfl,by omega,hg⟩,by omega⟩
 ·have:i=s.fl.length:=by omega
  subst this;rw[List.drop_length]at hg;have hg:Zb9 [] s.fl=0:=hg.symm;rw[allS,if_pos hg];refine⟨λvs=>∃(i:Nat) (x:V),vs=[x,.i i]/\i<=s.qu.length/\Zcr (s.qu.drop i)=Zcr s.qu,λvs=>s.qu.length - (vs.getD 1 (.i 0)).toI.toNat,⟨0,_,rfl,by omega,rfl⟩,?_⟩;rintro _ - ⟨i,x,rfl,hi,hg⟩;simp only[QQ,Nat.reduceAdd,qy3,qy4,gF0,gF1,gF2];refine⟨λh3=>⟨by omega,λb2=>?_⟩,λh3 w' hr=>⟨?_,hr.mod⟩⟩
  ·have hsm:=Zb8 h2 i;rw[Z147 _ i (by omega)]at hg;simp only[Zcr]at hg;refine⟨[.i (flE (s.qu.getD i fD))],rfl,λ_ w' _=>Zs0 w' (s.qu.getD i fD) hsm,?_⟩;simp only[QQ,Nat.reduceAdd,qy3,qy4,gF0,gF1,gF2];refine⟨λh4 w' hr=>⟨?_,hr.mod⟩,λh4=>⟨λh5 w' hr=>⟨?_,hr.mod⟩,λh5=>?_⟩⟩
   ·rw[if_pos h4]at hg;rw[<- hg]
   ·rw[if_neg h4,if_neg h5]at hg;rw[<- hg]
   ·rw[if_neg h4,if_pos (qy9.1 h5)]at hg;exact⟨by omega,by omega,⟨i+1,x,rfl,by omega,hg⟩,by omega⟩
  ·have:i=s.qu.length:=by omega
   subst this;rw[List.drop_length]at hg;rw[<- hg];rfl
theorem Z149(w:World)(s:Ses)(u v:Value)(hu:Zu w u s.fl)(hv:Zu w v s.qu)(h1:Zb7 s.fl)(h2:Zb7 s.qu)(hl1:s.fl.length<1000000000)(hl2:s.qu.length<1000000000)(hc:s.cl.length<1099511627776):Calls Tryz.prog 110 #[sesV s u v] w λe w'=>e=.returned (.int .i64 (chkS s))/\Mod [] w w':=by refine Z1 (Z3 (J:=[.s s.cl,.b s.on,.b s.clean,.v u,.r (s.fl.map encF),.v v,.r (s.qu.map encF),.i s.next]) sxE_ok Tryz.func110 Zaw rfl rfl (Rel.start2 (by simp[Ent.holds,Ent.wr,hu,hv,X.ev])) rfl rfl ?_) rfl;simp only[QQ,Nat.reduceAdd];intro b;refine⟨[.b (Zd s.cl)],rfl,λ_ w' _=>Zba w' _ hc,?_⟩;simp only[QQ,Nat.reduceAdd,qy3];refine⟨λh w' hr=>⟨by rw[chkS,if_neg h],hr.mod⟩,λh=>?_⟩;rw[chkS,if_pos (qy9.1 h)];refine⟨λh w' hr=>⟨by rw[if_pos h],hr.mod⟩,λh=>?_⟩;rw[if_neg h];refine⟨[.i (allS s)],rfl,λ_ w' hr=>Z1ex w' s u v (hr.at_ 1 rfl) (hr.at_ 2 rfl) h1 h2 hl1 hl2,?_⟩;simp only[QQ,Nat.reduceAdd,qy3];refine⟨λh w' hr=>⟨by rw[if_neg h],hr.mod⟩,λh=>?_⟩;rw[if_pos (qy9.1 h)];refine⟨[.b (decide (1<=s.next/\s.next<=65535))],rfl,λ_ w' _=>Z1ch w' _,?_⟩;simp only[QQ,Nat.reduceAdd,qy3,decide_eq_true_eq];refine⟨λh w' hr=>⟨by rw[if_neg h],hr.mod⟩,λh=>?_⟩;rw[if_pos (qy9.1 h)];refine⟨.inr (by omega),λh w' hr=>⟨by rw[if_pos (.inl h)],hr.mod⟩,λh=>⟨λh1 w' hr=>⟨by rw[if_pos (.inr h1)],hr.mod⟩,λh1 w' hr=>⟨by rw[if_neg (λh2=>h2.elim h h1)],hr.mod⟩⟩⟩
theorem Z64(w:World)(s:Ses)(u v:Value)(hu:Zu w u s.fl)(hv:Zu w v s.qu)(h1:Zb7 s.fl)(h2:Zb7 s.qu)(hl1:s.fl.length<1000000000)(hl2:s.qu.length<1000000000)(hc:s.cl.length<1099511627776):Calls Tryz.prog 42 #[sesV s u v] w λe w'=>e=.returned (.int .i64 (chkS s))/\Mod [] w w':=by
 refine Z1 (Z3 (J:=[.s s.cl,.b s.on,.b s.clean,.v u,.r (s.fl.map encF),.v v,.r (s.qu.map encF),.i s.next]) sxE_ok Tryz.func42 Z44 rfl rfl (Rel.start2 (by simp[Ent.holds,Ent.wr,hu,hv,X.ev])) rfl rfl ?_) rfl;simp only[QQ,Nat.reduceAdd];intro b;refine⟨[.b (Zd s.cl)],rfl,λ_ w' _=>Zms w' _ hc,?_⟩;simp only[QQ,Nat.reduceAdd,qy3];refine⟨λh w' hr=>⟨by rw[chkS,if_neg h],hr.mod⟩,λh=>?_⟩;rw[chkS,if_pos (qy9.1 h)];refine⟨λh w' hr=>⟨by rw[if_pos h],hr.mod⟩,λh=>?_⟩;rw[if_neg h];refine⟨λvs=>∃(i:Nat) (x:V),vs=[x,.i i]/\i<=s.fl.length/\Zb9 (s.fl.take i) (s.fl.drop i)=Zb9 [] s.fl,λvs=>s.fl.length - (vs.getD 1 (.i 0)).toI.toNat,⟨0,_,rfl,by omega,rfl⟩,?_⟩;rintro _ - ⟨i,x,rfl,hi,hg⟩;simp only[QQ,Nat.reduceAdd,qy3,qy4,gF0,gF1,gF2];refine⟨λh3=>⟨by omega,?_⟩,λh3=>?_⟩
 ·have hsm:=Zb8 h1 i;rw[Z147 _ i (by omega)]at hg;simp only[Zb9]at hg;refine⟨[.i (flE (s.fl.getD i fD))],rfl,λ_ w' _=>Zbb w' (s.fl.getD i fD) hsm,?_⟩;simp only[QQ,Nat.reduceAdd,qy3,qy4,gF0,gF1,gF2];refine⟨λh4 w' hr=>⟨?_,hr.mod⟩,λh4=>?_⟩
  ·rw[if_pos h4]at hg;have:allS s=flE (s.fl.getD i fD):=by rw[allS,<- hg,if_neg h4]
   rw[this,if_neg h4]
  rw[if_neg h4]at hg;refine⟨λh5 w' hr=>⟨?_,hr.mod⟩,λh5=>?_⟩
  ·rw[if_neg h5]at hg;have:allS s=3:=by rw[allS,<- hg];rfl
   rw[this];rfl
  rw[if_pos (qy9.1 h5)]at hg;refine⟨λvs=>∃(k:Nat) (y:V),vs=[y,.i k]/\k<=i/\(s.fl.take k).any (idIs (s.fl.getD i fD).1)=false,λvs=>i - (vs.getD 1 (.i 0)).toI.toNat,⟨0,_,rfl,by omega,by simp⟩,?_⟩;rintro _ - ⟨k,y,rfl,hk,hno⟩;simp only[QQ,Nat.reduceAdd,qy3,qy4,gF0,gF1,gF2];refine⟨λh4=>⟨by omega,by omega,λh5 w' hr=>⟨?_,hr.mod⟩,λh5=>?_⟩,λh4=>?_⟩
  ·rw[if_pos (Zya (k:=k) (by omega) (by omega) (by simp only[idIs,decide_eq_true_eq];exact h5))]at hg;have:allS s=6:=by rw[allS,<- hg];rfl
   rw[this];rfl
  ·refine⟨by omega,by omega,⟨k+1,y,rfl,by omega,?_⟩,by omega⟩;rw[Zfv _ _ k (by omega),hno,Bool.false_or];simp only[idIs,decide_eq_false_iff_not];exact h5
  ·have:k=i:=by omega
   subst this;rw[if_neg (by rw[hno];decide),<- Zuw _ k (by omega)]at hg;exact⟨by omega,by omega,⟨k+1,_,rfl,by omega,hg⟩,by omega⟩
 ·have:i=s.fl.length:=by omega
  subst this;rw[List.drop_length]at hg;have hg:Zb9 [] s.fl=0:=hg.symm;have hA:allS s=Zcr s.qu:=by rw[allS,if_pos hg]
  rw[hA];refine⟨λvs=>∃(i:Nat) (x:V),vs=[x,.i i]/\i<=s.qu.length/\Zcr (s.qu.drop i)=Zcr s.qu,λvs=>s.qu.length - (vs.getD 1 (.i 0)).toI.toNat,⟨0,_,rfl,by omega,rfl⟩,?_⟩;rintro _ - ⟨i,x,rfl,hi,hg⟩;simp only[QQ,Nat.reduceAdd,qy3,qy4,gF0,gF1,gF2];refine⟨λh3=>⟨by omega,?_⟩,λh3=>?_⟩
  ·have hsm:=Zb8 h2 i;rw[Z147 _ i (by omega)]at hg;simp only[Zcr]at hg;refine⟨[.i (flE (s.qu.getD i fD))],rfl,λ_ w' _=>Zbb w' (s.qu.getD i fD) hsm,?_⟩;simp only[QQ,Nat.reduceAdd,qy3,qy4,gF0,gF1,gF2];refine⟨λh4 w' hr=>⟨?_,hr.mod⟩,λh4=>⟨λh5 w' hr=>⟨?_,hr.mod⟩,λh5=>?_⟩⟩
   ·rw[if_pos h4]at hg;rw[<- hg,if_neg h4]
   ·rw[if_neg h4,if_neg h5]at hg;rw[<- hg];rfl
   ·rw[if_neg h4,if_pos (qy9.1 h5)]at hg;exact⟨by omega,by omega,⟨i+1,x,rfl,by omega,hg⟩,by omega⟩
  ·have:i=s.qu.length:=by omega
   subst this;rw[List.drop_length]at hg;have hg:Zcr s.qu=0:=hg.symm;rw[if_pos hg];refine⟨λh w' hr=>⟨by rw[if_neg h],hr.mod⟩,λh=>?_⟩;rw[if_pos (qy9.1 h)];refine⟨.inr (by omega),λh w' hr=>⟨by rw[if_pos h],hr.mod⟩,λh w' hr=>⟨by rw[if_neg h],hr.mod⟩⟩
theorem Ses.eq_iff{a b:Ses}:a=b↔a.cl=b.cl/\a.on=b.on/\a.clean=b.clean/\a.next=b.next/\a.fl=b.fl/\a.qu=b.qu:=by cases a;cases b;simp only[Ses.mk.injEq];exact⟨λ⟨h1,h2,h3,h5,h6,h4⟩=>⟨h1,h2,h3,h4,h5,h6⟩,λ⟨h1,h2,h3,h4,h5,h6⟩=>⟨h1,h2,h3,h5,h6,h4⟩⟩
theorem Zkb(w:World)(a b:Ses)(u v u' v':Value)(hu:Zu w u a.fl)(hv:Zu w v a.qu)(hu':Zu w u' b.fl)(hv':Zu w v' b.qu)(hl1:a.fl.length<1000000000)(hl2:a.qu.length<1000000000):Calls Tryz.prog 16 #[sesV a u v,sesV b u' v'] w λe w'=>e=.returned (.bool (decide (a=b)))/\Mod [] w w':=by
 refine Z1 (Z3 (J:=[.s a.cl,.b a.on,.b a.clean,.v u,.r (a.fl.map encF),.v v,.r (a.qu.map encF),.i a.next,.s b.cl,.b b.on,.b b.clean,.v u',.r (b.fl.map encF),.v v',.r (b.qu.map encF),.i b.next]) sxE_ok Tryz.func16 Z4b rfl rfl (Rel.start2 (by simp[Ent.holds,Ent.wr,hu,hv,hu',hv',X.ev])) rfl rfl ?_) rfl;simp only[QQ,Nat.reduceAdd];intro b1 b2;refine⟨[.b (decide (a.fl=b.fl))],rfl,λ_ w' hr=>Zbc w' u u' _ _ (hr.at_ 2 rfl) (hr.at_ 4 rfl) hl1,?_⟩;simp only[QQ,Nat.reduceAdd];refine⟨[.b (decide (a.qu=b.qu))],rfl,λ_ w' hr=>Zbc w' v v' _ _ (hr.at_ 3 rfl) (hr.at_ 5 rfl) hl2,?_⟩;simp only[QQ,Nat.reduceAdd];refine λw' hr=>⟨?_,hr.mod⟩
 simp only[Ending.returned.injEq,Value.bool.injEq];rw[Bool.eq_iff_iff,decide_eq_true_eq,Ses.eq_iff];simp[and_assoc]
abbrev Pk:=Bool×Int×Int×List UInt8×List UInt8
def encP(p:Pk):List Value:=[.int .i64 3,.bool p.1,.bool false,.bool false,.bool false,.int .i64 p.2.1,.int .i64 p.2.2.1,.int .i64 0,.int .i64 0,.string ⟨([]:List UInt8).toArray⟩,.string ⟨p.2.2.2.1.toArray⟩,.string ⟨p.2.2.2.2.toArray⟩,.slice none 0 0,.slice none 0 0]
abbrev kP:List Kd:=[.int .i64,.bool,.bool,.bool,.bool,.int .i64,.int .i64,.int .i64,.int .i64,.str,.str,.str,.oth,.oth]
abbrev Z1ci(w:World)(v:Value)(l:List Pk):Prop:=reads w v kP (l.map encP)
theorem Z9(w:World)(ks:List Kd):reads w (.slice none 0 0) ks []:=⟨by simp,none,0,rfl,⟨λ_=>rfl,Nat.le_refl _⟩,λh=>absurd rfl h⟩
abbrev Z18y(w:World)(v:Value)(l:List Fl):Prop:=owns w v 148 kF (l.map encF)
theorem Zig{v:Value}(hn:(match v with | .slice none _ _=>true|_=>false)=true){w:World}{ks:List Kd}{rows:List (List Value)}(h:reads w v ks rows):rows=[]:=by obtain⟨_,a,cap,rfl,_,h2⟩:=h;refine Classical.byContradiction λhne=>?_;obtain⟨ad,rfl,_⟩:=h2 hne;simp at hn
theorem Z1d(w:World)(v:Value)(l:List Fl)(hv:Zu w v l)(hl:l.length<1000000000):Calls Tryz.prog 123 #[sc1 v] w λe w'=>∃v',e=.returned (sc1 v')/\Z18y w' v' l/\(∀k,Z2 v' k->w.heap.size<=k)/\Mod [] w w':=by
 refine Z1 (Z3 (J:=[.v v,.r (l.map encF)]) sxE_ok Tryz.func123 Z2a rfl rfl (Rel.start2 (by simp[Ent.holds,Ent.wr,hv,X.ev])) rfl rfl ?_) rfl;simp only[QQ,Nat.reduceAdd,qy3,List.nil_append];refine⟨λh w' hr=>?_,λh v1=>⟨by simp only[Int.natCast_zero];omega,λv2 w' hr=>?_⟩⟩
 ·have hn:l=[]:=List.map_eq_nil_iff.1 (Zig h hv);subst hn;refine⟨_,rfl,hr.at_ 0 rfl,λk hk=>?_,hr.mod⟩;rcases hr.own _ (qy8 ..) rfl k hk with h|h
  ·exact h
  ·simp at h
 ·refine⟨v2,rfl,hr.at_ 0 rfl,λk hk=>?_,hr.mod⟩;rcases hr.own _ (qy8 ..) rfl k hk with h|h
  ·exact h
  ·simp at h
def s0:Ses:=⟨[],false,false,[],[],0⟩
def nx_N(n:Int):Int:=n % 65535+1
def used(fl:List Fl)(n:Int):Bool:=fl.any (idIs n)
def Z2t(fl:List Fl)(n:Int):Int:=if used fl n=true then(if used fl (nx_N n)=true then nx_N (nx_N n)else nx_N n)else n
theorem Zkc{n:Int}(h:1<=n/\n<=65535):(1<=nx_N n/\nx_N n<=65535)/\nx_N n≠n/\nx_N (nx_N n)≠n/\nx_N (nx_N n)≠nx_N n:=by unfold nx_N;omega
theorem Z16z{fl:List Fl}{a b c:Int}(hl:fl.length<3)(ha:used fl a=true)(hb:used fl b=true)(hc:used fl c=true)(h1:a≠b)(h2:a≠c)(h3:b≠c):False:=by
 match fl,hl with
 | [],_=>simp[used]at ha
 | [x],_=>simp[used,idIs]at ha hb;omega
 | [x,y],_=>simp[used,idIs]at ha hb hc;omega
 | _::_::_::_,hl=>simp at hl;omega
theorem Zyc{fl:List Fl}{n:Int}(hl:fl.length<3)(h:1<=n/\n<=65535):used fl (Z2t fl n)=false:=by
 obtain⟨-,h1,h2,h3⟩:=Zkc h;unfold Z2t;split
 ·rename_i u1;split
  ·rename_i u2;cases u3:used fl (nx_N (nx_N n))with
   | false=>rfl
   | true=>exact(Z16z hl u1 u2 u3 (Ne.symm h1) (Ne.symm h2) (Ne.symm h3)).elim
  ·rename_i u2;simpa using u2
 ·rename_i u1;simpa using u1
theorem Zpg{fl:List Fl}{n:Int}(h:1<=n/\n<=65535):1<=Z2t fl n/\Z2t fl n<=65535:=by
 obtain⟨h1,-⟩:=Zkc h;unfold Z2t;split
 ·split
  ·exact(Zkc h1).1
  ·exact h1
 ·exact h
def flyR(on:Bool):List Fl->List Fl->Int->List Pk->List Fl×List Fl×Int×List Pk
 | fl,[],next,out=>(fl,[],next,out)
 | fl,f::q,next,out =>
  if on=true/\fl.length<3 then flyR on (fl++[(Z2t fl next,f.2.1,f.2.2)]) q (nx_N (Z2t fl next)) (out++[(false,1,Z2t fl next,f.2.1,f.2.2)])
  else(fl,f::q,next,out)
theorem Zmt{on:Bool}{fl qu:List Fl}{next:Int}{out:List Pk}(h:¬((on=true/\0<qu.length)/\fl.length<3)):flyR on fl qu next out=(fl,qu,next,out):=by
 cases qu with
 | nil=>rfl
 | cons f q =>
  rw[flyR,if_neg];intro h2;exact h ⟨⟨h2.1,by simp⟩,h2.2⟩
theorem Zyd{on:Bool}{fl qu:List Fl}{next:Int}{out:List Pk}(h:(on=true/\0<qu.length)/\fl.length<3) : flyR on fl qu next out=flyR on (fl++[(Z2t fl next,(qu.getD 0 fD).2.1,(qu.getD 0 fD).2.2)]) (qu.drop 1) (nx_N (Z2t fl next)) (out++[(false,1,Z2t fl next,(qu.getD 0 fD).2.1,(qu.getD 0 fD).2.2)]):=by
 cases qu with
 | nil=>simp at h
 | cons f q =>
  rw[flyR,if_pos ⟨h.1.1,h.2⟩];rfl
def goR(s:Ses):Ses:={ s with on:=false,fl:=if s.clean=true then[]else s.fl,qu:=if s.clean=true then[]else s.qu }
def Zux(next id:Int)(ag:Bool):Nat:=if ag=true then(if id=next then 3 else if id=nx_N next then 2 else 1)else 0
def Zuy(fl:List Fl)(next id:Int):Prop:=id=next\/(id=nx_N next/\used fl next=true)\/(id=nx_N (nx_N next)/\used fl next=true/\used fl (nx_N next)=true)
theorem Zs1{fl:List Fl}{next id:Int}(h:1<=next/\next<=65535)(ha:Zuy fl next id):1<=id/\id<=65535:=by
 obtain⟨h1,-⟩:=Zkc h;rcases ha with rfl|⟨rfl,-⟩|⟨rfl,-⟩
 ·exact h
 ·exact h1
 ·exact(Zkc h1).1
theorem Zih{fl:List Fl}{next id:Int}(hl:fl.length<3)(h:1<=next/\next<=65535)(ha:Zuy fl next id)(hu:used fl id=true):Zuy fl next (nx_N id)/\Zux next (nx_N id) true<Zux next id true:=by
 obtain⟨h1,h2,h3,h4⟩:=Zkc h;rcases ha with rfl|⟨rfl,u1⟩|⟨rfl,u1,u2⟩
 ·exact⟨.inr (.inl ⟨rfl,hu⟩),by simp[Zux,h2]⟩
 ·exact⟨.inr (.inr ⟨rfl,u1,hu⟩),by simp[Zux,h2,h3,h4]⟩
 ·exact(Z16z hl u1 u2 hu (Ne.symm h2) (Ne.symm h3) (Ne.symm h4)).elim
theorem Zii{fl:List Fl}{next id:Int}(ha:Zuy fl next id)(hu:used fl id=false):id=Z2t fl next:=by
 rcases ha with rfl|⟨rfl,u1⟩|⟨rfl,u1,u2⟩
 ·simp[Z2t,hu]
 ·simp[Z2t,hu,u1]
 ·simp[Z2t,u1,u2]
def flyS(s:Ses):Ses×List Pk:=(⟨s.cl,s.on,s.clean,(flyR s.on s.fl s.qu s.next []).1,(flyR s.on s.fl s.qu s.next []).2.1,(flyR s.on s.fl s.qu s.next []).2.2.1⟩,(flyR s.on s.fl s.qu s.next []).2.2.2)
theorem Z1cj(qu:List Fl):List.drop (Int.toNat 1) (List.take qu.length (List.map encF qu))=(qu.drop 1).map encF:=by rw[List.take_of_length_le (by simp),List.map_drop];rfl
def pk0(n p:List UInt8):Pk:=(false,0,0,n,p)
def pk1(f:Fl):Pk:=(true,1,f.1,f.2.1,f.2.2)
def Z8m(l:List Fl)(id:Int):List Fl:=l.filter λf=>!(idIs id f)
def Z53(s:Ses)(id:Int):Ses×List Pk:=flyS { s with fl:=Z8m s.fl id }
def Zfw(s:Ses):Ses×List Pk:=((flyS { s with on:=true }).1,s.fl.map pk1++(flyS { s with on:=true }).2)
theorem Zfx{J:List V}{g:List Nat}{i:Nat}(hi:i∈g){k:Nat}(h:Z2 (J.getD i (.i 0)).toV k):k∈Zt J g:=List.mem_flatMap.2 ⟨i,hi,by rw[h];simp⟩
def sndA(k:Nat)(s:Ses)(u v x:Value)(out:List Pk):List V:=[.n k,.s s.cl,.b s.on,.b s.clean,.v u,.r (s.fl.map encF),.v v,.r (s.qu.map encF),.i s.next,.v x,.r (out.map encP)]
abbrev sndC:Ent:=.cells 0 268 [.str (.var 1),.bool (.var 2),.bool (.var 3),.val (.var 4),.val (.var 6),.int .i64 (.var 8),.val (.var 9)]
abbrev sndH:List Ent:=[.row 4 148 kF (.var 5),.row 6 148 kF (.var 7),.row 9 66 kP (.var 10),sndC]
def flyG(s:Ses)(out:List Pk):Ses×List Pk:=(⟨s.cl,s.on,s.clean,(flyR s.on s.fl s.qu s.next out).1,(flyR s.on s.fl s.qu s.next out).2.1,(flyR s.on s.fl s.qu s.next out).2.2.1⟩,(flyR s.on s.fl s.qu s.next out).2.2.2)
def flyJ(s:Ses)(o0:List Pk)(vs:List V):Prop :=
 ∃(x u' v':Value) (out:List Pk) (fl qu:List Fl) (next:Int),vs=[.s s.cl,.b s.on,.b s.clean,.v u',.r (fl.map encF),.v v',.r (qu.map encF),.i next,.v x,.r (out.map encP)] /\
  flyR s.on fl qu next out=flyR s.on s.fl s.qu s.next o0/\(1<=next/\next<=65535)/\qu.length<=s.qu.length/\fl.length+qu.length<=s.fl.length+s.qu.length/\out.length+qu.length<=o0.length+s.qu.length
theorem Zmu{s:Ses}{x' u' v':Value}{o0 out:List Pk}{fl qu:List Fl}{next id:Int}{vs:List V}(hg:flyR s.on fl qu next out=flyR s.on s.fl s.qu s.next o0)(hn:1<=next/\next<=65535) (hq:qu.length<=s.qu.length) (hf:fl.length+qu.length<=s.fl.length+s.qu.length) (ho:out.length+qu.length<=o0.length+s.qu.length) (hc:(s.on=true/\0<(qu.length:Int))/\(fl.length:Int)<3) (hid:id=Z2t fl next) {R1 R2 R3:List (List Value)} {n1:Int} (hvs:vs=[.s s.cl,.b s.on,.b s.clean,.v u',.r R2,.v v',.r R3,.i n1,.v x',.r R1]) (e1:R1=(out++[(false,1,id,(qu.getD 0 fD).2.1,(qu.getD 0 fD).2.2)]).map encP) (e2:R2=(fl++[(id,(qu.getD 0 fD).2.1,(qu.getD 0 fD).2.2)]).map encF) (e3:R3=(qu.drop 1).map encF) (e4:n1=nx_N id):flyJ s o0 vs:=by subst hid e1 e2 e3 e4;have hs:=Zyd (on:=s.on) (fl:=fl) (qu:=qu) (next:=next) (out:=out) ⟨⟨hc.1.1,by omega⟩,by omega⟩;exact⟨x',u',v',_,_,_,_,hvs,hs.symm.trans hg,(Zkc (Zpg hn)).1,by simp;omega,by simp;omega,by simp;omega⟩
theorem Z1ey(B:Base)(w:World)(k:Nat)(s:Ses)(u v x:Value)(o0:List Pk)(hrel:Rel B (sndA k s u v x o0) sndH w)(hn:1<=s.next/\s.next<=65535)(hl1:s.fl.length<100000)(hl2:s.qu.length<100000)(hl3:o0.length<100000) : Calls Tryz.prog 224 #[.pointer (some ⟨k,0,none⟩)] w λe w'=>e=.returned (.tuple #[])/\∃u' v' x',Rel B (sndA k (flyG s o0).1 u' v' x' (flyG s o0).2) sndH w':=by
  refine Z1 (Z3 (B:=B) (J:=sndA k s u v x o0) sxE_ok Tryz.func224 Z74 rfl rfl hrel rfl rfl ?_) rfl;simp only[sndA];simp only[QQ,Nat.reduceAdd,qy3,qy4,gF0,gF1,gF2];have hg:flyR s.on s.fl s.qu s.next o0=flyR s.on s.fl s.qu s.next o0:=rfl;have hnx:1<=s.next/\s.next<=65535:=hn;have hq:s.qu.length<=s.qu.length:=Nat.le_refl _;have hf:s.fl.length+s.qu.length<=s.fl.length+s.qu.length:=Nat.le_refl _;have ho:o0.length+s.qu.length<=o0.length+s.qu.length:=Nat.le_refl _;refine⟨λhc=>?_,λhc w1 hr=>?_⟩
  . intro b3;refine⟨λvs=>∃(id:Int),vs=[.i id]/\Zuy s.fl s.next id,λvs=>Zux s.next (vs.getD 0 (.i 0)).toI true,⟨s.next,rfl,.inl rfl⟩,?_⟩;rintro _ - ⟨id,rfl,ha⟩;have hid:=Zs1 hnx ha;simp only[QQ,Nat.reduceAdd,qy3,qy4,gF0,gF1,gF2];refine⟨[.b (s.fl.any (idIs id))],rfl,λ_ w' hr=>Zyb w' u s.fl id (hr.at_ 1 rfl).reads (by omega),?_⟩;simp only[QQ,Nat.reduceAdd,qy3,qy4,gF0,gF1,gF2];refine⟨λhu=>?_,λhu=>?_⟩
    . obtain⟨n1,n2⟩:=Zih (by omega) hnx ha hu;exact⟨by omega,⟨_,rfl,n1⟩,n2⟩
    have hid2:=Zii ha (by simpa[used]using hu)
    (repeat (first|(refine⟨by((try simp only[qy3,qy4,gF0,gF1,gF2,qy11,List.nil_append,List.length_cons,List.length_nil]);omega),?_⟩)|(intro _)))
    refine⟨λvs=>flyJ s o0 vs,λvs=>(vs.getD 6 (.i 0)).toR.length,Zmu hg hnx hq hf ho hc hid2 rfl (by simp[encP,List.map_append]) (by simp[encF,List.map_append]) (Z1cj _) rfl,?_⟩;clear hg hnx hq hf ho hc ha hid hid2 hu;rintro _ - ⟨x,u',v',out,fl,qu,next,rfl,hg,hnx,hq,hf,ho⟩;simp only[QQ,Nat.reduceAdd,qy3,qy4,gF0,gF1,gF2];refine⟨λhc=>?_,λhc w1 hr=>?_⟩
    . intro b3;refine⟨λvs=>∃(id:Int),vs=[.i id]/\Zuy fl next id,λvs=>Zux next (vs.getD 0 (.i 0)).toI true,⟨next,rfl,.inl rfl⟩,?_⟩;rintro _ - ⟨id,rfl,ha⟩;have hid:=Zs1 hnx ha;simp only[QQ,Nat.reduceAdd,qy3,qy4,gF0,gF1,gF2];refine⟨[.b (fl.any (idIs id))],rfl,λ_ w' hr=>Zyb w' u' fl id (hr.at_ 4 rfl).reads (by omega),?_⟩;simp only[QQ,Nat.reduceAdd,qy3,qy4,gF0,gF1,gF2];refine⟨λhu=>?_,λhu=>?_⟩
      . obtain⟨n1,n2⟩:=Zih (by omega) hnx ha hu;exact⟨by omega,⟨_,rfl,n1⟩,n2⟩
      have hid2:=Zii ha (by simpa[used]using hu)
      (repeat (first|(refine⟨by((try simp only[qy3,qy4,gF0,gF1,gF2,qy11,List.nil_append,List.length_cons,List.length_nil]);omega),?_⟩)|(intro _)))
      exact⟨Zmu hg hnx hq hf ho hc hid2 rfl (by simp[encP,List.map_append]) (by simp[encF,List.map_append]) (Z1cj _) rfl,by simp;omega⟩
    . refine(Z1d w1 v' qu (hr.at_ 5 rfl) (by omega)).mono ?_;rintro e w2 ⟨v2,rfl,g1,g2,gm⟩;refine⟨[.v v2,.r (qu.map encF)],rfl,rfl,gm,qy5 _,qy2.2 ⟨⟨g1,λk hk=>.inl (g2 k hk)⟩,qy5 _⟩,Z5,?_⟩;intro w3 hr3;have e:flyR s.on s.fl s.qu s.next o0=(fl,qu,next,out):=by
        rw[<- hg];exact Zmt (λh=>hc ⟨⟨h.1.1,by omega⟩,by omega⟩)
      simp only[flyG,e];exact⟨trivial,u',v2,x,(hr3.pick [4,0,1,9] (by decide)).conv rfl⟩
  . refine(Z1d w1 v s.qu (hr.at_ 1 rfl).reads (by omega)).mono ?_;rintro e w2 ⟨v2,rfl,g1,g2,gm⟩;refine⟨[.v v2,.r (s.qu.map encF)],rfl,rfl,gm,qy5 _,qy2.2 ⟨⟨g1,λk hk=>.inl (g2 k hk)⟩,qy5 _⟩,Z5,?_⟩;intro w3 hr3;have e:flyR s.on s.fl s.qu s.next o0=(s.fl,s.qu,s.next,o0):=by
      rw[<- hg];exact Zmt (λh=>hc ⟨⟨h.1.1,by omega⟩,by omega⟩)
    simp only[flyG,e];exact⟨trivial,u,v2,x,(hr3.pick [1,0,3,4] (by decide)).conv rfl⟩
def Z18z(n:Nat)(u v x y:Value):Prop:=∀k,Z2 y k->n<=k\/Z2 u k\/Z2 v k\/Z2 x k
def Zij(u v:Value):Prop:=∀k,Z2 u k->Z2 v k->False
theorem Z79{J:List V}{a b c ta tb tc:Nat}{ka kb kc:List Kd}{ra rb rc:X}(h1:Zij (J.getD a (.i 0)).toV (J.getD b (.i 0)).toV)(h2:Zij (J.getD a (.i 0)).toV (J.getD c (.i 0)).toV)(h3:Zij (J.getD b (.i 0)).toV (J.getD c (.i 0)).toV) : Zp J [.row a ta ka ra,.row b tb kb rb,.row c tc kc rc]:=by
 refine List.pairwise_cons.2 ⟨λe he _ k hk hk'=>?_,List.pairwise_cons.2 ⟨λe he _ k hk hk'=>?_,List.pairwise_singleton _ _⟩⟩
 ·rcases List.mem_cons.1 he with rfl|he
  ·exact h1 k hk hk'
  ·rw[qy12.1 he]at hk';exact h2 k hk hk'
 ·rw[qy12.1 he]at hk';exact h3 k hk hk'
theorem Zej{B:Base}{w:World}{k:Nat}{s:Ses}{u v x:Value}{o0:List Pk}(hrel:Rel B (sndA k s u v x o0) sndH w)(hn:1<=s.next/\s.next<=65535)(hl1:s.fl.length<100000)(hl2:s.qu.length<100000)(hl3:o0.length<100000) : Calls Tryz.prog 224 #[.pointer (some ⟨k,0,none⟩)] w λe w'=>e=.returned (.tuple #[])/\∃u' v' x',w'.heap[k]?=some (.cells #[.string ⟨s.cl.toArray⟩,.bool s.on,.bool s.clean,sc1 u',sc1 v',.int .i64 (flyG s o0).1.next,sc1 x'] 268 (0,0)) /\ Z18y w' u' (flyG s o0).1.fl/\Z18y w' v' (flyG s o0).1.qu/\owns w' x' 66 kP ((flyG s o0).2.map encP)/\Z18z w.heap.size u v x u'/\Z18z w.heap.size u v x v'/\Z18z w.heap.size u v x x' /\ Zij u' v'/\Zij u' x'/\Zij v' x'/\Mod (k::(u.ownBlock.toList++(v.ownBlock.toList++x.ownBlock.toList))) w w':=by
 refine(Z1ey _ w k s u v x o0 hrel.base hn hl1 hl2 hl3).mono ?_;rintro e w' ⟨he,u',v',x',hr⟩;have hfp:∀j,j∈Zl (sndA k s u v x o0) sndH->j=k\/Z2 u j\/Z2 v j\/Z2 x j:=by
  intro j hj;simp only[Zl,sndA,sndH,sndC,List.flatMap_cons,List.flatMap_nil,Ent.fpl,QQ,Nat.reduceAdd,List.append_nil,qy13,qy12,Option.mem_toList,List.getD_nil]at hj;simp only[Z2];rcases hj with h|h|h|h
  ·exact .inr (.inl h)
  ·exact .inr (.inr (.inl h))
  ·exact .inr (.inr (.inr h))
  ·exact .inl h
 have hnew:∀(i:Nat) (e:Ent),sndH[i]?=some e->i<3->e.wr=true->∀j,e.fp (sndA k (flyG s o0).1 u' v' x' (flyG s o0).2) j->w.heap.size<=j\/Z2 u j\/Z2 v j\/Z2 x j:=by
  intro i e hi hlt hwr j hj;rcases hr.own e (qy6 hi) hwr j hj with h|h
  ·exact .inl h
  ·rcases hfp j h with rfl|h
   ·exfalso;exact hr.sep.disj (i:=i) (j:=3) hi rfl (by omega) (.inl hwr) hj rfl
   ·exact .inr h
 refine⟨he,u',v',x',hr.at_ 3 rfl,hr.at_ 0 rfl,hr.at_ 1 rfl,hr.at_ 2 rfl,λj hj=>hnew 0 _ rfl (by omega) rfl j hj,λj hj=>hnew 1 _ rfl (by omega) rfl j hj,λj hj=>hnew 2 _ rfl (by omega) rfl j hj,
  λj h1 h2=>hr.sep.disj (i:=0) (j:=1) rfl rfl (by omega) (.inl rfl) (k:=j) h1 h2,λj h1 h2=>hr.sep.disj (i:=0) (j:=2) rfl rfl (by omega) (.inl rfl) (k:=j) h1 h2,λj h1 h2=>hr.sep.disj (i:=1) (j:=2) rfl rfl (by omega) (.inl rfl) (k:=j) h1 h2,hr.mod.mono λj hj=>.inl ?_⟩
 rcases hfp j hj with rfl|h|h|h
 ·exact qy8 ..
 ·exact qy10 _ (List.mem_append_left _ (Option.mem_toList.2 h))
 ·exact qy10 _ (List.mem_append_right _ (List.mem_append_left _ (Option.mem_toList.2 h)))
 ·exact qy10 _ (List.mem_append_right _ (List.mem_append_right _ (Option.mem_toList.2 h)))
theorem Z4h{J:List V}{g:List Nat}:∀k,Z2 (.slice none 0 0) k->k∈Zt J g:=λk hk=>by simp[Z2,Value.ownBlock]at hk
theorem Ze1{J:List V}{g:List Nat}{i j n k:Nat}{x:Value}{p:Prop}(hi:i∈g)(hj:j∈g)(hx:∀k,Z2 x k->k∈Zt J g)(h:n<=k\/Z2 (J.getD i (.i 0)).toV k\/Z2 (J.getD j (.i 0)).toV k\/Z2 x k):n<=k\/p\/k∈Zt J g:=by
 rcases h with h|h|h|h
 ·exact .inl h
 ·exact .inr (.inr (Zfx hi h))
 ·exact .inr (.inr (Zfx hj h))
 ·exact .inr (.inr (hx k h))
def newV(n:Nat)(u:Value):Prop:=∀k,Z2 u k->n<=k
theorem Zkd(n:Nat):newV n (.slice none 0 0):=λk hk=>by simp[Z2,Value.ownBlock]at hk
def gotN(w w':World)(e:Ending)(r:Ses)(out:List Pk):Prop :=
 ∃u' v' x,e=.returned (.tuple #[sesV r u' v',sc1 x])/\Zu w' u' r.fl/\Zu w' v' r.qu/\Z1ci w' x out/\newV w.heap.size u'/\newV w.heap.size v'/\newV w.heap.size x/\Mod [] w w'
def Z2u(s:Ses)(n p:List UInt8)(q:Int):Ses×List Pk :=
 if q=0/\s.on=true then(s,[pk0 n p])
 else if(q=1/\(s.on=true\/¬s.clean=true))/\(s.qu.length:Int)<6 then flyS { s with qu:=s.qu++[(0,n,p)] }else(s,[])
theorem Zye(w:World)(s:Ses)(u v:Value)(n p:List UInt8)(q:Int)(hu:Zu w u s.fl)(hv:Zu w v s.qu)(hn:1<=s.next/\s.next<=65535)(hl1:s.fl.length<10000)(hl2:s.qu.length<10000):Calls Tryz.prog 217 #[sesV s u v,.string ⟨n.toArray⟩,.string ⟨p.toArray⟩,.int .i64 q] w λe w'=>gotN w w' e (Z2u s n p q).1 (Z2u s n p q).2:=by
 refine Z1 (Z3 (J:=[.s s.cl,.b s.on,.b s.clean,.v u,.r (s.fl.map encF),.v v,.r (s.qu.map encF),.i s.next,.s n,.s p,.i q]) sxE_ok Tryz.func217 Zdt rfl rfl (Rel.start2 (by simp[Ent.holds,Ent.wr,hu,hv,X.ev])) rfl rfl ?_) rfl;simp only[QQ,Nat.reduceAdd,qy3,qy4,gF0,gF1,gF2,List.nil_append];intro b1 b2 b3 b4 b5;refine Z6g ?_;intro w1 hr1;refine(Z1d w1 u s.fl (hr1.at_ 6 rfl) (by omega)).mono ?_;rintro e w2 ⟨u1,rfl,a1,f1,m1⟩;refine⟨[.v u1,.r (s.fl.map encF)],rfl,rfl,m1,qy5 _,qy2.2 ⟨⟨a1,λk hk=>.inl (f1 k hk)⟩,qy5 _⟩,Z5,?_⟩;intro w3 hr3;refine(Z1d w3 v s.qu (hr3.at_ 8 rfl) (by omega)).mono ?_;rintro e w4 ⟨v1,rfl,a2,f2,m2⟩;refine⟨[.v v1,.r (s.qu.map encF)],rfl,rfl,m2,qy5 _,qy2.2 ⟨⟨a2,λk hk=>.inl (f2 k hk)⟩,qy5 _⟩,Z5,?_⟩;clear hr1 hr3 m1 m2 a1 a2 f1 f2;intro b6;simp only[QQ,Nat.reduceAdd,qy3,qy4,gF0,gF1,gF2,List.nil_append];refine⟨λh1 v2=>⟨by omega,λv3 w5 hr=>?_⟩,λh1=>⟨λh2 v2=>⟨by omega,λv3 w5 hr=>?_⟩,λh2 w5 hr=>?_⟩⟩
 ·rw[Z2u,if_pos h1];exact⟨u1,v1,v3,rfl,(hr.at_ 4 rfl).reads,(hr.at_ 3 rfl).reads,(hr.at_ 0 rfl).reads,hr.fresh 4 rfl,hr.fresh 3 rfl,hr.fresh 0 rfl,hr.mod⟩
 ·rw[Z2u,if_neg h1,if_pos h2];refine(Zej (s:={ s with qu:=s.qu++[(0,n,p)] }) (o0:=[]) ((hr.pick [3,0,7,2] (by decide)).conv (by simp only[sndA,List.map_append];rfl)) hn (by simp;omega) (by simp;omega) (by simp)).mono ?_;rintro e w6 ⟨rfl,u',v',x',g1,g2,g3,g4,g5,g6,g7,g8,g9,g10,gm⟩;refine⟨[.s s.cl,.b s.on,.b s.clean,.v u',.r ((flyS { s with qu:=s.qu++[(0,n,p)] }).1.fl.map encF),.v v',.r ((flyS { s with qu:=s.qu++[(0,n,p)] }).1.qu.map encF),.i (flyS { s with qu:=s.qu++[(0,n,p)] }).1.next,.v x',.r ((flyS { s with qu:=s.qu++[(0,n,p)] }).2.map encP)],rfl,rfl,?_,qy2.2 ⟨g1,qy5 _⟩,
   qy2.2 ⟨⟨g2,λk hk=>Ze1 (qy8 ..) (qy10 _ (qy8 ..)) Z4h <| g5 k hk⟩,qy2.2 ⟨⟨g3,λk hk=>Ze1 (qy8 ..) (qy10 _ (qy8 ..)) Z4h <| g6 k hk⟩,qy2.2 ⟨⟨g4,λk hk=>Ze1 (qy8 ..) (qy10 _ (qy8 ..)) Z4h <| g7 k hk⟩,qy5 _⟩⟩⟩,Z79 g8 g9 g10,?_⟩
  ·exact gm.mono λk hk=>.inl (by simpa[Zm,Zt,Value.ownBlock]using hk)
  ·intro w7 hr7;exact⟨u',v',x',rfl,(hr7.at_ 0 rfl).reads,(hr7.at_ 1 rfl).reads,(hr7.at_ 2 rfl).reads,hr7.fresh 0 rfl,hr7.fresh 1 rfl,hr7.fresh 2 rfl,hr7.mod⟩
 ·rw[Z2u,if_neg h1,if_neg h2];exact⟨u1,v1,_,rfl,(hr.at_ 2 rfl).reads,(hr.at_ 1 rfl).reads,Z9 _ _,hr.fresh 2 rfl,hr.fresh 1 rfl,Zkd _,hr.mod⟩
theorem Z14a(on:Bool):∀(qu fl:List Fl) (next:Int) (o0:List Pk),flyR on fl qu next o0=((flyR on fl qu next []).1,(flyR on fl qu next []).2.1,(flyR on fl qu next []).2.2.1,o0++(flyR on fl qu next []).2.2.2):=by
 intro qu;induction qu with
 | nil=>intro fl next o0;simp[flyR]
 | cons f q ih =>
  intro fl next o0
  rw[flyR,flyR];split
  ·rw[ih _ _ (o0++_),ih _ _ ([]++_)];simp
  ·simp
theorem Z14b(s:Ses)(o0:List Pk):flyG s o0=((flyS s).1,o0++(flyS s).2):=by simp only[flyG,flyS];rw[Z14a]
theorem Z1ck(w:World)(s:Ses)(u v:Value)(hu:Zu w u s.fl)(hv:Zu w v s.qu)(hn:1<=s.next/\s.next<=65535)(hl1:s.fl.length<10000)(hl2:s.qu.length<10000):Calls Tryz.prog 220 #[sesV s u v] w λe w'=>gotN w w' e (Zfw s).1 (Zfw s).2:=by
 refine Z1 (Z3 (J:=[.s s.cl,.b s.on,.b s.clean,.v u,.r (s.fl.map encF),.v v,.r (s.qu.map encF),.i s.next]) sxE_ok Tryz.func220 Zcf rfl rfl (Rel.start2 (by simp[Ent.holds,Ent.wr,hu,hv,X.ev])) rfl rfl ?_) rfl;simp only[QQ,Nat.reduceAdd,qy3,qy4,gF0,gF1,gF2,List.nil_append];intro b1 b2 b3 b4 b5;refine Z6g ?_;intro w1 hr1;refine(Z1d w1 u s.fl (hr1.at_ 6 rfl) (by omega)).mono ?_;rintro e w2 ⟨u1,rfl,a1,f1,m1⟩;refine⟨[.v u1,.r (s.fl.map encF)],rfl,rfl,m1,qy5 _,qy2.2 ⟨⟨a1,λk hk=>.inl (f1 k hk)⟩,qy5 _⟩,Z5,?_⟩;intro w3 hr3;refine(Z1d w3 v s.qu (hr3.at_ 8 rfl) (by omega)).mono ?_;rintro e w4 ⟨v1,rfl,a2,f2,m2⟩;refine⟨[.v v1,.r (s.qu.map encF)],rfl,rfl,m2,qy5 _,qy2.2 ⟨⟨a2,λk hk=>.inl (f2 k hk)⟩,qy5 _⟩,Z5,?_⟩;clear hr1 hr3 m1 m2 a1 a2 f1 f2;intro b6;simp only[QQ,Nat.reduceAdd,qy3,qy4,gF0,gF1,gF2,List.nil_append];refine⟨λvs=>∃(i:Nat) (x:Value),vs=[.i i,.s s.cl,.b true,.b s.clean,.v v1,.r (s.qu.map encF),.i s.next,.v x,.r (((s.fl.take i).map pk1).map encP)]/\i<=s.fl.length,λvs=>s.fl.length - (vs.getD 0 (.i 0)).toI.toNat,⟨0,_,by simp;rfl,by omega⟩,?_⟩;rintro _ - ⟨i,x,rfl,hi⟩;simp only[QQ,Nat.reduceAdd,qy3,qy4,gF0,gF1,gF2,List.nil_append];refine⟨λh1=>⟨by omega,λb7 b8 v2=>⟨by simp only[List.length_take];omega,λv3=>⟨by omega,by omega,⟨i+1,v3,?_,by omega⟩,by omega⟩⟩⟩,λh1 w5 hr=>?_⟩
 ·rw[Zuw _ i (by omega)];simp[encP,pk1]
 ·have hil:i=s.fl.length:=by omega
  subst hil;rw[List.take_length]at hr;refine(Zej (s:={ s with on:=true }) (o0:=s.fl.map pk1) ((hr.pick [2,1,11,0] (by decide)).conv rfl) hn (by simp;omega) (by simp;omega) (by simp;omega)).mono ?_;rintro e w6 ⟨rfl,u',v',x',g1,g2,g3,g4,g5,g6,g7,g8,g9,g10,gm⟩;rw[Z14b]at g1 g2 g3 g4;refine⟨[.s s.cl,.b true,.b s.clean,.v u',.r ((flyS { s with on:=true }).1.fl.map encF),.v v',.r ((flyS { s with on:=true }).1.qu.map encF),.i (flyS { s with on:=true }).1.next,.v x',.r ((s.fl.map pk1++(flyS { s with on:=true }).2).map encP)],rfl,rfl,?_,qy2.2 ⟨g1,qy5 _⟩,
   qy2.2 ⟨⟨g2,λk hk=>Ze1 (qy8 ..) (qy10 _ (qy8 ..)) (λk hk=>Zfx (qy10 _ (qy10 _ (qy8 ..))) hk) <| g5 k hk⟩,qy2.2 ⟨⟨g3,λk hk=>Ze1 (qy8 ..) (qy10 _ (qy8 ..)) (λk hk=>Zfx (qy10 _ (qy10 _ (qy8 ..))) hk) <| g6 k hk⟩,qy2.2 ⟨⟨g4,λk hk=>Ze1 (qy8 ..) (qy10 _ (qy8 ..)) (λk hk=>Zfx (qy10 _ (qy10 _ (qy8 ..))) hk) <| g7 k hk⟩,qy5 _⟩⟩⟩,Z79 g8 g9 g10,?_⟩
  ·exact gm.mono λk hk=>.inl (by simpa[Zm,Zt,Value.ownBlock]using hk)
  ·intro w7 hr7;exact⟨u',v',x',rfl,(hr7.at_ 0 rfl).reads,(hr7.at_ 1 rfl).reads,(hr7.at_ 2 rfl).reads,hr7.fresh 0 rfl,hr7.fresh 1 rfl,hr7.fresh 2 rfl,hr7.mod⟩
theorem Zik(l:List Fl)(id:Int)(i:Nat)(h:i<l.length):Z8m (l.take (i+1)) id=Z8m (l.take i) id++(if(l.getD i fD).1=id then[]else[l.getD i fD]):=by
 rw[Zuw l i h,Z8m,List.filter_append];simp only[Z8m,List.filter_cons,List.filter_nil,idIs];by_cases h1:(l.getD i fD).1=id
 ·rw[if_pos h1,decide_eq_true h1];simp
 ·rw[if_neg h1,decide_eq_false h1];simp
theorem Zmv{l:List Fl}{id:Int}(h:l.any (idIs id)=false):Z8m l id=l:=by rw[Z8m,List.filter_eq_self];intro x hx;rw[List.any_eq_false]at h;have:=h x hx;simpa using this
theorem Zke{R l:List Fl}{j:Nat}(h:R.drop j=l.drop j):R.getD j fD=l.getD j fD:=by
 have e:∀q:List Fl,q.getD j fD=(q.drop j).getD 0 fD:=λq=>by simp[qy1]
 rw[e R,e l,h]
theorem Z14c(R:List Fl)(m:Nat)(x:Fl):(R.map encF).set m [Value.int .i64 x.1,.string ⟨x.2.1.toArray⟩,.string ⟨x.2.2.toArray⟩]=(R.set m x).map encF:=by rw[List.map_set];rfl
theorem Zyf{R:List Fl}{m:Nat}{x:Fl}(h:m<R.length):(R.set m x).take (m+1)=R.take m++[x]:=by
 rw[List.take_set,Zuw R m h,List.set_append_right _ _ (by simp;omega)];have:m - (R.take m).length=0:=by simp;omega
 rw[this];rfl
theorem Zyg{R:List Fl}{m j:Nat}{x:Fl}(h:m<j):(R.set m x).drop j=R.drop j:=by rw[List.drop_set,if_pos h]
theorem Z170(w:World)(s:Ses)(u v:Value)(q:Int)(hu:Zu w u s.fl)(hv:Zu w v s.qu)(hn:1<=s.next/\s.next<=65535)(hl1:s.fl.length<10000)(hl2:s.qu.length<10000):Calls Tryz.prog 190 #[sesV s u v,.int .i64 q] w λe w'=>gotN w w' e (Z53 s q).1 (Z53 s q).2:=by
 refine Z1 (Z3 (J:=[.s s.cl,.b s.on,.b s.clean,.v u,.r (s.fl.map encF),.v v,.r (s.qu.map encF),.i s.next,.i q]) sxE_ok Tryz.func190 Zcb rfl rfl (Rel.start2 (by simp[Ent.holds,Ent.wr,hu,hv,X.ev])) rfl rfl ?_) rfl;simp only[QQ,Nat.reduceAdd,qy3,qy4,gF0,gF1,gF2,List.nil_append];intro b0 b1 b2 b3 b4 b5;refine Z6g ?_;intro w1 hr1;refine(Z1d w1 u s.fl (hr1.at_ 7 rfl) (by omega)).mono ?_;rintro e w2 ⟨u1,rfl,a1,f1,m1⟩;refine⟨[.v u1,.r (s.fl.map encF)],rfl,rfl,m1,qy5 _,qy2.2 ⟨⟨a1,λk hk=>.inl (f1 k hk)⟩,qy5 _⟩,Z5,?_⟩;intro w3 hr3;refine(Z1d w3 v s.qu (hr3.at_ 9 rfl) (by omega)).mono ?_;rintro e w4 ⟨v1,rfl,a2,f2,m2⟩;refine⟨[.v v1,.r (s.qu.map encF)],rfl,rfl,m2,qy5 _,qy2.2 ⟨⟨a2,λk hk=>.inl (f2 k hk)⟩,qy5 _⟩,Z5,?_⟩;clear hr1 hr3 m1 m2 a1 a2 f1 f2;intro b6;simp only[QQ,Nat.reduceAdd,qy3,qy4,gF0,gF1,gF2,List.nil_append];refine⟨λvs=>∃(i:Nat) (x:V),vs=[x,.i i,.i q]/\i<=s.fl.length/\(s.fl.take i).any (idIs q)=false,λvs=>s.fl.length - (vs.getD 1 (.i 0)).toI.toNat,⟨0,_,rfl,by omega,by simp⟩,?_⟩;rintro _ - ⟨i,x,rfl,hi,hno⟩;simp only[QQ,Nat.reduceAdd,qy3,qy4,gF0,gF1,gF2,List.nil_append];refine⟨λh1=>⟨by omega,λb7=>⟨λh2=>⟨λh3=>absurd h3 (by omega),λh3=>⟨by omega,by omega,?_⟩⟩,λh2=>?_⟩⟩,λh1 w5 hr=>?_⟩
 ·refine⟨λvs=>∃(m j:Nat) (R:List Fl),vs=[.i m,.i j,.r (R.map encF),.i q]/\R.length=s.fl.length/\m<j/\j<=s.fl.length/\R.take m=Z8m (s.fl.take j) q/\R.drop j=s.fl.drop j,λvs=>s.fl.length - (vs.getD 1 (.i 0)).toI.toNat,⟨i,i+1,s.fl,rfl,rfl,by omega,by omega,?_,rfl⟩,?_⟩
  ·rw[Zik _ _ i (by omega),if_pos h2,List.append_nil,Zmv hno]
  ·rintro _ - ⟨m,j,R,rfl,hRl,hmj,hj,htk,hdr⟩;simp only[QQ,Nat.reduceAdd,qy3,qy4,gF0,gF1,gF2,List.nil_append];refine⟨λh4=>⟨by omega,λb8 b9=>?_⟩,λh4=>?_⟩
   ·have hsn:=Zik s.fl q j (by omega);have hRj:=Zke hdr;have hdr1:R.drop (j+1)=s.fl.drop (j+1):=by rw[<- List.drop_drop,<- List.drop_drop,hdr]
    rw[hRj];refine⟨λh5=>?_,λh5=>?_⟩
    ·rw[if_neg h5]at hsn;refine⟨by omega,by omega,by omega,by omega,by omega,by omega,⟨m+1,j+1,R.set m (s.fl.getD j fD),?_,by simpa using hRl,by omega,by omega,?_,?_⟩,by omega⟩
     ·rw[Z14c];rfl
     ·rw[Zyf (by omega),htk,hsn]
     ·rw[Zyg (by omega),hdr1]
    ·rw[if_pos (qy9.1 h5),List.append_nil]at hsn;exact⟨by omega,by omega,⟨m,j+1,R,rfl,hRl,by omega,by omega,by rw[htk,hsn],hdr1⟩,by omega⟩
   ·have:j=s.fl.length:=by omega
    subst this;rw[List.take_length]at htk;refine⟨by omega,by omega,?_,λv9 w5 hr=>?_⟩
    ·simp only[qy11,List.length_take,qy3,List.length_replicate];omega
    ·have e1:(List.take m (List.take m (R.map encF)++List.replicate (R.length - m) [Value.int .i64 0,.string ⟨[].toArray⟩,.string ⟨[].toArray⟩]))=(Z8m s.fl q).map encF:=by
      rw[List.take_append_of_le_length (by simp;omega),List.take_take,Nat.min_self,<- List.map_take,htk]
     have hll:(Z8m s.fl q).length<=s.fl.length:=List.length_filter_le _ _;refine(Zej (s:={ s with fl:=Z8m s.fl q }) (o0:=[]) ((hr.pick [0,4,8,3] (by decide)).conv (by simp only[sndA,<- e1,<- qy3 (f:=encF)];rfl)) hn (by simp;omega) (by simp;omega) (by simp)).mono ?_;rintro e w6 ⟨rfl,u',v',x',g1,g2,g3,g4,g5,g6,g7,g8,g9,g10,gm⟩;refine⟨[.s s.cl,.b s.on,.b s.clean,.v u',.r ((Z53 s q).1.fl.map encF),.v v',.r ((Z53 s q).1.qu.map encF),.i (Z53 s q).1.next,.v x',.r ((Z53 s q).2.map encP)],rfl,rfl,gm.mono λk hk=>.inl (by simpa[Zm,Zt,Value.ownBlock]using hk),qy2.2 ⟨g1,qy5 _⟩,qy2.2 ⟨⟨g2,λk hk=>Ze1 (qy8 ..) (qy10 _ (qy8 ..)) Z4h <| g5 k hk⟩,qy2.2 ⟨⟨g3,λk hk=>Ze1 (qy8 ..) (qy10 _ (qy8 ..)) Z4h <| g6 k hk⟩,qy2.2 ⟨⟨g4,λk hk=>Ze1 (qy8 ..) (qy10 _ (qy8 ..)) Z4h <| g7 k hk⟩,qy5 _⟩⟩⟩,Z79 g8 g9 g10,?_⟩;intro w7 hr7;exact⟨u',v',x',rfl,(hr7.at_ 0 rfl).reads,(hr7.at_ 1 rfl).reads,(hr7.at_ 2 rfl).reads,hr7.fresh 0 rfl,hr7.fresh 1 rfl,hr7.fresh 2 rfl,hr7.mod⟩
 ·refine⟨by omega,by omega,⟨i+1,x,rfl,by omega,?_⟩,by omega⟩;rw[Zfv _ _ i (by omega),hno,Bool.false_or];simp only[idIs,decide_eq_false_iff_not];exact h2
 ·have:i=s.fl.length:=by omega
  subst this;rw[List.take_length]at hno;have e1:=Zmv hno;refine(Zej (s:={ s with fl:=Z8m s.fl q }) (o0:=[]) ((hr.pick [3,2,7,1] (by decide)).conv (by simp only[sndA,e1];rfl)) hn (by simp only[e1];omega) (by simp;omega) (by simp)).mono ?_;rintro e w6 ⟨rfl,u',v',x',g1,g2,g3,g4,g5,g6,g7,g8,g9,g10,gm⟩;refine⟨[.s s.cl,.b s.on,.b s.clean,.v u',.r ((Z53 s q).1.fl.map encF),.v v',.r ((Z53 s q).1.qu.map encF),.i (Z53 s q).1.next,.v x',.r ((Z53 s q).2.map encP)],rfl,rfl,gm.mono λk hk=>.inl (by simpa[Zm,Zt,Value.ownBlock]using hk),qy2.2 ⟨g1,qy5 _⟩,qy2.2 ⟨⟨g2,λk hk=>Ze1 (qy8 ..) (qy10 _ (qy8 ..)) Z4h <| g5 k hk⟩,qy2.2 ⟨⟨g3,λk hk=>Ze1 (qy8 ..) (qy10 _ (qy8 ..)) Z4h <| g6 k hk⟩,qy2.2 ⟨⟨g4,λk hk=>Ze1 (qy8 ..) (qy10 _ (qy8 ..)) Z4h <| g7 k hk⟩,qy5 _⟩⟩⟩,Z79 g8 g9 g10,?_⟩;intro w7 hr7;exact⟨u',v',x',rfl,(hr7.at_ 0 rfl).reads,(hr7.at_ 1 rfl).reads,(hr7.at_ 2 rfl).reads,hr7.fresh 0 rfl,hr7.fresh 1 rfl,hr7.fresh 2 rfl,hr7.mod⟩
theorem Z190{s:Ses}(h:chkS s=0):(1<=s.next/\s.next<=65535)/\s.fl.length<=3/\s.qu.length<=6:=by
 unfold chkS at h;split at h
 ·split at h
  ·exact absurd h (by decide)
  ·split at h
   ·split at h
    ·exact⟨by assumption,by omega,by omega⟩
    ·exact absurd h (by decide)
   ·exact absurd h (by assumption)
 ·exact absurd h (by decide)
def Z1cl(w w':World)(e:Ending)(r:Ses):Prop :=
 ∃u' v',e=.returned (sesV r u' v')/\Zu w' u' r.fl/\Zu w' v' r.qu/\newV w.heap.size u'/\newV w.heap.size v'/\Mod [] w w'
theorem Z1ez(w:World)(s:Ses)(u v:Value)(hu:Zu w u s.fl)(hv:Zu w v s.qu)(hl1:s.fl.length<10000)(hl2:s.qu.length<10000):Calls Tryz.prog 194 #[sesV s u v] w λe w'=>Z1cl w w' e (goR s):=by
 refine Z1 (Z3 (J:=[.s s.cl,.b s.on,.b s.clean,.v u,.r (s.fl.map encF),.v v,.r (s.qu.map encF),.i s.next]) sxE_ok Tryz.func194 Zdw rfl rfl (Rel.start2 (by simp[Ent.holds,Ent.wr,hu,hv,X.ev])) rfl rfl ?_) rfl;simp only[QQ,Nat.reduceAdd,qy3,qy4,gF0,gF1,gF2,List.nil_append];intro b1 b2 b3 b4 b5;refine Z6g ?_;intro w1 hr1;refine(Z1d w1 u s.fl (hr1.at_ 5 rfl) (by omega)).mono ?_;rintro e w2 ⟨u1,rfl,a1,f1,m1⟩;refine⟨[.v u1,.r (s.fl.map encF)],rfl,rfl,m1,qy5 _,qy2.2 ⟨⟨a1,λk hk=>.inl (f1 k hk)⟩,qy5 _⟩,Z5,?_⟩;intro w3 hr3;refine(Z1d w3 v s.qu (hr3.at_ 7 rfl) (by omega)).mono ?_;rintro e w4 ⟨v1,rfl,a2,f2,m2⟩;refine⟨[.v v1,.r (s.qu.map encF)],rfl,rfl,m2,qy5 _,qy2.2 ⟨⟨a2,λk hk=>.inl (f2 k hk)⟩,qy5 _⟩,Z5,?_⟩;clear hr1 hr3 m1 m2 a1 a2 f1 f2;intro b6;simp only[QQ,Nat.reduceAdd,qy3,qy4,gF0,gF1,gF2,List.nil_append];refine⟨λh1 w5 hr=>?_,λh1 w5 hr=>?_⟩
 ·have e:goR s=⟨s.cl,false,s.clean,[],[],s.next⟩:=by simp[goR,h1]
  rw[e];exact⟨.slice none 0 0,.slice none 0 0,rfl,Z9 _ _,Z9 _ _,Zkd _,Zkd _,hr.mod⟩
 ·have e:goR s=⟨s.cl,false,s.clean,s.fl,s.qu,s.next⟩:=by simp[goR,h1]
  rw[e];exact⟨u1,v1,rfl,(hr.at_ 2 rfl).reads,(hr.at_ 1 rfl).reads,hr.fresh 2 rfl,hr.fresh 1 rfl,hr.mod⟩
