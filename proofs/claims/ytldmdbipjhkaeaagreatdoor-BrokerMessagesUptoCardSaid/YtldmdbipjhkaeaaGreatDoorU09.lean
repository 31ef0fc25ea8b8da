/- By an AI agent. -/
import Derived.Shelf.Small.Strs
import Derived.Shelf.Strings.Search3
import Derived.Shelf.Strings.Count
import Derived.Shelf.Strings.Split
import Derived.Shelf.Strings.IndexAnyAll
import Derived.Test.YtldmdbipjhkaeaaGreatDoorProg
import Derived.Test.YtldmdbipjhkaeaaGreatDoorU06
import Derived.Test.YtldmdbipjhkaeaaGreatDoorU08
import Derived.Test.YtldmdbipjhkaeaaGreatDoorU05
set_option linter.all false
set_option maxHeartbeats 20000000
namespace Go.Proofs
open Go.Shelf
def Tryz.lays106_ren:Go.Shelf.Ren:=⟨fun|106=>127|213=>172|265=>207|n=>n,fun|9=>9|3=>3|n=>n,fun|n=>n⟩
theorem Tryz.lays106:Go.Proofs.Lays.n106 Tryz.prog Tryz.lays106_ren:={
 mixed:=by kernel_rfl
 f106:=qF Tryz.func127 (by kernel_rfl)
 f213:=qF Tryz.func172 (by kernel_rfl)
 f265:=qF Tryz.func207 (by kernel_rfl)
 t3:=Tryz.underlying3
 a3:=Tryz.isAgg3
 z3:=Tryz.sizeOf3
 v3:=Tryz.zeroValue3
 t9:=Tryz.underlying9
 a9:=Tryz.isAgg9
 z9:=Tryz.sizeOf9
 v9:=Tryz.zeroValue9 }
def Tryz.lays221_ren:Go.Shelf.Ren:=⟨fun|221=>250|268=>280|138=>281|143=>208|195=>295|197=>287|218=>296|219=>233|260=>298|217=>255|225=>256|224=>257|267=>258|266=>284|314=>285|n=>n,fun|9=>9|3=>3|31=>134|4=>4|0=>0|105=>279|21=>21|5=>5|46=>190|119=>294|139=>297|138=>296|146=>277|51=>271|n=>n,fun|1=>0|3=>1|4=>2|n=>n⟩
theorem Tryz.lays221:Go.Proofs.Lays.n221 Tryz.prog Tryz.lays221_ren:={
 mixed:=by kernel_rfl
 f138:=qF Tryz.func281 (by kernel_rfl)
 f143:=qF Tryz.func208 (by kernel_rfl)
 f195:=qF Tryz.func295 (by kernel_rfl)
 f197:=qF Tryz.func287 (by kernel_rfl)
 f217:=qF Tryz.func255 (by kernel_rfl)
 f218:=qF Tryz.func296 (by kernel_rfl)
 f219:=qF Tryz.func233 (by kernel_rfl)
 f221:=qF Tryz.func250 (by kernel_rfl)
 f224:=qF Tryz.func257 (by kernel_rfl)
 f225:=qF Tryz.func256 (by kernel_rfl)
 f260:=qF Tryz.func298 (by kernel_rfl)
 f266:=qF Tryz.func284 (by kernel_rfl)
 f267:=qF Tryz.func258 (by kernel_rfl)
 f268:=qF Tryz.func280 (by kernel_rfl)
 f314:=qF Tryz.func285 (by kernel_rfl)
 t0:=Tryz.underlying0
 a0:=Tryz.isAgg0
 z0:=Tryz.sizeOf0
 v0:=Tryz.zeroValue0
 t3:=Tryz.underlying3
 a3:=Tryz.isAgg3
 z3:=Tryz.sizeOf3
 v3:=Tryz.zeroValue3
 t4:=Tryz.underlying4
 a4:=Tryz.isAgg4
 z4:=Tryz.sizeOf4
 v4:=Tryz.zeroValue4
 t5:=Tryz.underlying5
 a5:=Tryz.isAgg5
 z5:=Tryz.sizeOf5
 v5:=Tryz.zeroValue5
 t9:=Tryz.underlying9
 a9:=Tryz.isAgg9
 z9:=Tryz.sizeOf9
 v9:=Tryz.zeroValue9
 t21:=Tryz.underlying21
 a21:=Tryz.isAgg21
 z21:=Tryz.sizeOf21
 v21:=Tryz.zeroValue21
 t31:=Tryz.underlying134
 a31:=Tryz.isAgg134
 z31:=Tryz.sizeOf134
 v31:=Tryz.zeroValue134
 t46:=Tryz.underlying190
 a46:=Tryz.isAgg190
 z46:=Tryz.sizeOf190
 v46:=Tryz.zeroValue190
 t51:=Tryz.underlying271
 a51:=Tryz.isAgg271
 z51:=Tryz.sizeOf271
 v51:=Tryz.zeroValue271
 t105:=Tryz.underlying279
 a105:=Tryz.isAgg279
 z105:=Tryz.sizeOf279
 v105:=Tryz.zeroValue279
 t119:=Tryz.underlying294
 a119:=Tryz.isAgg294
 z119:=Tryz.sizeOf294
 t138:=Tryz.underlying296
 a138:=Tryz.isAgg296
 z138:=Tryz.sizeOf296
 v138:=Tryz.zeroValue296
 t139:=Tryz.underlying297
 a139:=Tryz.isAgg297
 z139:=Tryz.sizeOf297
 v139:=Tryz.zeroValue297
 t146:=Tryz.underlying277
 a146:=Tryz.isAgg277
 z146:=Tryz.sizeOf277
 v146:=Tryz.zeroValue277
 g1:=by kernel_rfl
 g3:=by kernel_rfl
 g4:=by kernel_rfl }
def Tryz.lays150_ren:Go.Shelf.Ren:=⟨fun|150=>204|153=>230|152=>251|226=>252|227=>253|228=>254|137=>282|119=>283|224=>257|225=>256|217=>255|266=>284|n=>n,fun|9=>9|4=>4|3=>3|5=>5|21=>21|117=>248|116=>247|0=>0|46=>190|124=>261|n=>n,fun|n=>n⟩
theorem Tryz.lays150:Go.Proofs.Lays.n150 Tryz.prog Tryz.lays150_ren:={
 mixed:=by kernel_rfl
 f119:=qF Tryz.func283 (by kernel_rfl)
 f137:=qF Tryz.func282 (by kernel_rfl)
 f150:=qF Tryz.func204 (by kernel_rfl)
 f152:=qF Tryz.func251 (by kernel_rfl)
 f153:=qF Tryz.func230 (by kernel_rfl)
 f217:=qF Tryz.func255 (by kernel_rfl)
 f224:=qF Tryz.func257 (by kernel_rfl)
 f225:=qF Tryz.func256 (by kernel_rfl)
 f226:=qF Tryz.func252 (by kernel_rfl)
 f227:=qF Tryz.func253 (by kernel_rfl)
 f228:=qF Tryz.func254 (by kernel_rfl)
 f266:=qF Tryz.func284 (by kernel_rfl)
 t0:=Tryz.underlying0
 a0:=Tryz.isAgg0
 z0:=Tryz.sizeOf0
 v0:=Tryz.zeroValue0
 t3:=Tryz.underlying3
 a3:=Tryz.isAgg3
 z3:=Tryz.sizeOf3
 v3:=Tryz.zeroValue3
 t4:=Tryz.underlying4
 a4:=Tryz.isAgg4
 z4:=Tryz.sizeOf4
 v4:=Tryz.zeroValue4
 t5:=Tryz.underlying5
 a5:=Tryz.isAgg5
 z5:=Tryz.sizeOf5
 v5:=Tryz.zeroValue5
 t9:=Tryz.underlying9
 a9:=Tryz.isAgg9
 z9:=Tryz.sizeOf9
 v9:=Tryz.zeroValue9
 t21:=Tryz.underlying21
 a21:=Tryz.isAgg21
 z21:=Tryz.sizeOf21
 v21:=Tryz.zeroValue21
 t46:=Tryz.underlying190
 a46:=Tryz.isAgg190
 z46:=Tryz.sizeOf190
 v46:=Tryz.zeroValue190
 t116:=Tryz.underlying247
 a116:=Tryz.isAgg247
 z116:=Tryz.sizeOf247
 t117:=Tryz.underlying248
 a117:=Tryz.isAgg248
 z117:=Tryz.sizeOf248
 v117:=Tryz.zeroValue248
 t124:=Tryz.underlying261
 a124:=Tryz.isAgg261
 z124:=Tryz.sizeOf261
 v124:=Tryz.zeroValue261 }
end Go.Proofs
namespace Go.Proofs.Y
open Go.Sx
def Z15(s:List UInt8):List Value:=[.string ⟨s.toArray⟩]
theorem Zd(ps:List (List UInt8))(i:Nat):Value.gS (((ps.map Z15).getD i []).getD 0 undef)=ps.getD i []:=by simp only[qy1,List.getElem?_map];cases ps[i]?<;>simp[Z15,Value.gS,undef]
abbrev Zef(w:World)(v:Value)(ps:List (List UInt8)):Prop:=reads w v [.str] (ps.map Z15)
def Znv(n:Nat)(v:Value)(ps:List (List UInt8)):Prop:=∀k,(ps.map Z15).flatten≠[]/\Z2 v k->n<=k
theorem Z96(ps:List (List UInt8))(i:Nat)(h:i<ps.length):ps.drop i=ps.getD i []::ps.drop (i+1):=by rw[List.drop_eq_getElem_cons h,qy1,qy7 h];rfl
theorem Zgd(s:List UInt8)(k:Nat)(h:k<s.length):s.drop k=s.getD k 0::s.drop (k+1):=by rw[List.drop_eq_getElem_cons h,qy1,qy7 h];rfl
theorem Z14r(b:UInt8):b.toNat<256:=b.toNat_lt
def lev:List UInt8->List (List UInt8)
 | []=>[[]]
 | c::l=>if c=47 then[]::lev l else match lev l with | []=>[[c]] | x::xs=>(c::x)::xs
def glue(p:List UInt8):List (List UInt8)->List (List UInt8)
 | []=>[]
 | x::xs=>(p++x)::xs
theorem Znw(l:List (List UInt8)):glue [] l=l:=by cases l<;>rfl
theorem Zge(s:List UInt8):∃x xs,lev s=x::xs:=by
 cases s with
 | nil=>exact⟨[],[],rfl⟩
 | cons c l =>
  simp only[lev];split
  ·exact⟨_,_,rfl⟩
  ·split<;>exact⟨_,_,rfl⟩
theorem Z5y(l:List UInt8):lev (47::l)=[]::lev l:=by simp[lev]
theorem Z4m{c:UInt8}(l:List UInt8)(h:c≠47):lev (c::l)=glue [c] (lev l):=by obtain⟨x,xs,e⟩:=Zge l;simp[lev,if_neg h,e,glue]
theorem Zsu(p q:List UInt8)(l:List (List UInt8)):glue p (glue q l)=glue (p++q) l:=by cases l<;>simp[glue]
theorem Z5z(w:World)(s:List UInt8)(hs:s.length<1099511627776):Calls Tryz.prog 103 #[.string ⟨s.toArray⟩] w λe w'=>∃v,e=.returned (sc1 v)/\Zef w' v (lev s)/\Znv w.heap.size v (lev s)/\Mod [] w w':=by
 refine Z1 (Z8 (J:=[.s s]) sxE_ok Tryz.func103 Z5k rfl rfl rfl ?_) rfl;simp only[Tree.goal,X.P,X.ev,SV.ev,CV.ev,Sc.ev,qz,QA,QB,QC,QD,QE,QF,QG,QH,QI,QJ,QK,QL,QM,Nat.reduceAdd];refine⟨λvs=>∃(v:Value) (acc:List (List UInt8)) (a i:Nat),vs=[.v v,.r (acc.map Z15),.i a,.i i]/\acc.length<=i /\
   (i<=s.length/\a<=i/\acc++glue ((s.take i).drop a) (lev (s.drop i))=lev s\/i=s.length+1/\acc=lev s),λvs=>s.length+1 - (vs.getD 3 (.i 0)).toI.toNat,⟨_,[],0,0,rfl,by simp,.inl ⟨by omega,by omega,by simp[Znw]⟩⟩,?_⟩
 rintro _ - ⟨v,acc,a,i,rfl,hal,hinv⟩;simp only[Tree.goal,X.P,X.ev,SV.ev,CV.ev,Sc.ev,qz,QA,QB,QC,QD,QE,QF,QG,QH,QI,QJ,QK,QL,QM,Nat.reduceAdd,qy3,qy4];refine⟨λh1=>?_,λh1 w' hr=>?_⟩
 ·obtain⟨hi,ha,hg⟩:=hinv.resolve_right λh=>by omega
  refine⟨.inr (by omega),by omega,λh2=>?_,λh2=>?_⟩
  ·(repeat refine⟨by omega,?_⟩)
   intro v1;refine⟨by omega,λv2=>⟨by omega,by omega,⟨v2,acc++[(s.take i).drop a],i+1,i+1,by simp[Z15],by simp;omega,?_⟩,by omega⟩⟩;by_cases h3:i=s.length
   ·subst h3;rw[List.drop_length]at hg;exact .inr ⟨rfl,by rw[<- hg];simp[lev,glue]⟩
   ·refine .inl ⟨by omega,by omega,?_⟩;have h4:s.getD i 0=47:=by
     have:(s.getD i 0).toNat=47:=by
      rcases h2 with h2|h2
      ·omega
      ·omega
     exact UInt8.toNat_inj.1 this
    rw[Zgd s i (by omega),h4,Z5y]at hg;have hz:glue ((s.take (i+1)).drop (i+1)) (lev (s.drop (i+1)))=lev (s.drop (i+1)):=by rw[List.drop_of_length_le (by simp;omega),Znw]
    rw[hz,<- hg];simp[glue]
  ·refine⟨by omega,by omega,⟨v,acc,a,i+1,rfl,by omega,.inl ⟨by omega,by omega,?_⟩⟩,by omega⟩;have h4:s.getD i 0≠47:=λh=>h2 (.inr (by rw[h];rfl));rw[Zgd s i (by omega),Z4m _ h4,Zsu]at hg;rw[<- hg];congr 2
   rw[List.take_add_one,List.drop_append_of_le_length (by simp;omega),qy1];rw[qy7 (by omega)];rfl
 ·obtain⟨hi,hg⟩:=hinv.resolve_left λh=>by omega
  subst hg;refine⟨v,rfl,owns.reads (hr.at_ 0 rfl),λk hk=>?_,hr.mod⟩;rcases hr.own _ (qy8 ..) rfl k hk.2 with h|h
  ·exact h
  ·simp at h
theorem Znx:∀{s:List UInt8},Lib.indexByte s 47=-1->lev s=[s]:=by
 intro s;induction s with
 | nil=>intro _;rfl
 | cons c l ih =>
  intro h;unfold Lib.indexByte at h;split at h
  ·exact absurd h (by decide)
  ·rename_i hc;have hc:c≠47:=by simpa using hc
   split at h
   ·rename_i h2;rw[Z4m _ hc,ih (by simpa using h2)];rfl
   ·have:=Lib.indexByte_ge l 47;omega
theorem Zsv:∀{s:List UInt8} {i:Nat},Lib.indexByte s 47=i->lev s=s.take i::lev (s.drop (i+1))/\s.count 47=(s.drop (i+1)).count 47+1:=by
 intro s;induction s with
 | nil=>intro i h;unfold Lib.indexByte at h;omega
 | cons c l ih =>
  intro i h;unfold Lib.indexByte at h;split at h
  ·rename_i hc;have hc:c=47:=by simpa using hc
   have:i=0:=by omega
   subst this hc;rw[Z5y];simp
  ·rename_i hc;have hc:c≠47:=by simpa using hc
   split at h
   ·omega
   ·rename_i h2;have h3:=Lib.indexByte_ge l 47;have h2:¬Lib.indexByte l 47=-1:=by simpa using h2
    obtain⟨j,hj⟩:∃j:Nat,Lib.indexByte l 47=j:=⟨(Lib.indexByte l 47).toNat,by omega⟩
    have hij:i=j+1:=by omega
    subst hij;obtain⟨e1,e2⟩:=ih hj;rw[Z4m _ hc,e1];refine⟨by simp[glue],?_⟩;rw[List.count_cons_of_ne hc,e2];simp
theorem Zpx:∀(k:Nat) (s:List UInt8),s.count 47=k->Lib.splitK [47] 0 k s=lev s:=by
 intro k;induction k with
 | zero =>
  intro s h;unfold Lib.splitK;refine(Znx ?_).symm;rcases Int.lt_or_le (Lib.indexByte s 47) 0 with h1|h1
  ·have:=Lib.indexByte_ge s 47;omega
  ·obtain⟨i,hi⟩:∃i:Nat,Lib.indexByte s 47=i:=⟨(Lib.indexByte s 47).toNat,by omega⟩
   have:=(Zsv hi).2;omega
 | succ k ih =>
  intro s h;unfold Lib.splitK;rw[Lib.index_one];by_cases h1:Lib.indexByte s 47=-1
  ·rw[if_pos (by simpa using h1),Znx h1]
  ·rw[if_neg (by simpa using h1)];obtain⟨i,hi⟩:∃i:Nat,Lib.indexByte s 47=i:=⟨(Lib.indexByte s 47).toNat,by have h5:=Lib.indexByte_ge s 47;have h6:¬Lib.indexByte s 47=-1:=h1;omega⟩
   obtain⟨e1,e2⟩:=Zsv hi;rw[hi,e1,<- ih (s.drop (i+1)) (by omega)];simp
theorem Zpy(w:World)(s:List UInt8)(hs:s.length<4294967281):Calls Tryz.prog 250 #[.string ⟨s.toArray⟩,.string ⟨#[47]⟩,.int .i64 0,.int .i64 (-1)] w λe w'=>∃v,e=.returned (sc1 v)/\Zef w' v (lev s)/\Znv w.heap.size v (lev s)/\Mod [] w w':=by
 have hsz:(⟨s.toArray⟩:ByteArray).size=s.length:=rfl;have hcount:Lib.countB ⟨s.toArray⟩ ⟨#[47]⟩=s.count 47:=Lib.count_one 47 s;have hc1:s.count 47<=s.length:=List.count_le_length;have c:=Any.strings_genSplit_core Tryz.lays221 (by kernel_rfl) ⟨s.toArray⟩ ⟨#[47]⟩ 0 (-1) (s.count 47+1) w (by rw[hsz];exact hs) (by decide) (Nat.zero_le _)
  (λx c hx=>(Any.strings_Index_one { Tryz.lays221 with } x 47 _).mono λe w' ⟨h1,h2⟩=>⟨by rw[h1];show _=Ending.returned (Value.int .i64 (Lib.index x.data.toList [47]));rw[Lib.index_one],h2⟩)
  ((Any.strings_Count_one { Tryz.lays221 with } ⟨s.toArray⟩ 47 w).mono λe w' ⟨h1,h2⟩=>⟨by rw[h1,hcount];rfl,h2⟩) (by decide) (by decide) (by rw[if_pos (by decide),hcount,hsz];omega)
 refine(Z1 c rfl).mono ?_;rintro e w' ⟨rfl,rfl⟩;rw[Nat.add_sub_cancel];have hdata:=Lib.splitB_data ⟨#[47]⟩ 0 (s.count 47) ⟨s.toArray⟩;have hlev:(Lib.splitB ⟨#[47]⟩ 0 (s.count 47) ⟨s.toArray⟩).map (·.data.toList)=lev s:=hdata.trans (Zpx _ s rfl);have hlen:=Lib.splitB_all ⟨#[47]⟩ (by decide) 0 (s.count 47) ⟨s.toArray⟩ hcount;generalize Lib.splitB ⟨#[47]⟩ 0 (s.count 47) ⟨s.toArray⟩=pcs at hlev hlen
 rw[hlen];have hll:(lev s).length=s.count 47+1:=by rw[<- hlev,qy3,hlen]
 have hfull:Lib.cellsOf pcs (s.count 47+1)=(pcs.map Value.string).toArray:=by rw[<- hlen];exact Lib.cellsOf_full _
 have hrow:(lev s).map Z15=pcs.map λb=>[Value.string b]:=by rw[<- hlev,List.map_map];refine List.map_congr_left λb _=>?_;obtain⟨⟨l⟩⟩:=b;rfl
 have hfl:(pcs.map λb=>[Value.string b]).flatten=pcs.map Value.string:=by clear hlev hlen hfull hrow;induction pcs<;>simp_all
 refine⟨.slice (some ⟨w.heap.size,0,none⟩) (s.count 47+1) (s.count 47+1),rfl,⟨?_,some ⟨w.heap.size,0,none⟩,s.count 47+1,by rw[qy3,hll],⟨(λh=>by cases h),by rw[qy3,hll];exact Nat.le_refl _⟩,λ_=>⟨_,rfl,λj u hj=>?_⟩⟩,λk hk=>?_,Mod.alloc [] w _⟩
 ·intro r hr;obtain⟨x,-,rfl⟩:=List.mem_map.1 hr;exact⟨⟨_,rfl⟩,trivial⟩
 ·rw[hrow,hfl]at hj;rw[Zfz,Nat.zero_add,hfull];exact(World.cell?_alloc_new ..).trans (by simpa using hj)
 ·have h:=hk.2;simp only[Z2,Value.ownBlock,Option.some.injEq]at h;omega
theorem Z11u(w:World)(s:List UInt8)(hs:s.length<4294967281):Calls Tryz.prog 229 #[.string ⟨s.toArray⟩,.string ⟨#[47]⟩] w λe w'=>∃v,e=.returned (sc1 v)/\Zef w' v (lev s)/\Znv w.heap.size v (lev s)/\Mod [] w w':=by refine Z1 (Z8 (J:=[.s s,.s [47]]) sxE_ok Tryz.func229 Za1 rfl rfl rfl ?_) rfl;simp only[Tree.goal,X.P,X.ev,SV.ev,CV.ev,Sc.ev,qz,QA,QB,QC,QD,QE,QF,QG,QH,QI,QJ,QK,QL,QM,Nat.reduceAdd];intro w1 hr;refine(Zpy w1 s hs).mono ?_;rintro e w2 ⟨v1,rfl,r1,f1,m1⟩;have hsz:=hr.mod.size;refine⟨[.v v1,.r ((lev s).map Z15)],rfl,rfl,m1,qy5 _,qy2.2 ⟨⟨r1,λk hk=>.inl (f1 k hk)⟩,qy5 _⟩,Z5,?_⟩;simp only[Tree.goal,X.P,X.ev,SV.ev,CV.ev,Sc.ev,qz,QA,QB,QC,QD,QE,QF,QG,QH,QI,QJ,QK,QL,QM,Nat.reduceAdd];exact λw' hr=>⟨v1,rfl,hr.at_ 0 rfl,λk hk=>Nat.le_trans hsz (f1 k hk),hr.mod⟩
theorem Zd5(w:World)(s:List UInt8)(hs:s.length<4294967281):Calls Tryz.prog 203 #[.string ⟨s.toArray⟩] w λe w'=>∃v,e=.returned (sc1 v)/\Zef w' v (lev s)/\Znv w.heap.size v (lev s)/\Mod [] w w':=by refine Z1 (Z8 (J:=[.s s]) sxE_ok Tryz.func203 Zbh rfl rfl rfl ?_) rfl;simp only[Tree.goal,X.P,X.ev,SV.ev,CV.ev,Sc.ev,qz,QA,QB,QC,QD,QE,QF,QG,QH,QI,QJ,QK,QL,QM,Nat.reduceAdd];intro w1 hr;refine(Z11u w1 s hs).mono ?_;rintro e w2 ⟨v1,rfl,r1,f1,m1⟩;have hsz:=hr.mod.size;refine⟨[.v v1,.r ((lev s).map Z15)],rfl,rfl,m1,qy5 _,qy2.2 ⟨⟨r1,λk hk=>.inl (f1 k hk)⟩,qy5 _⟩,Z5,?_⟩;simp only[Tree.goal,X.P,X.ev,SV.ev,CV.ev,Sc.ev,qz,QA,QB,QC,QD,QE,QF,QG,QH,QI,QJ,QK,QL,QM,Nat.reduceAdd];exact λw' hr=>⟨v1,rfl,hr.at_ 0 rfl,λk hk=>Nat.le_trans hsz (f1 k hk),hr.mod⟩
def Z1t(s:List UInt8):Bool:=s.all λb=>decide (33<=b.toNat/\b.toNat<=126)
theorem Zgf(s:List UInt8)(i:Nat)(h:i<s.length):Z1t (s.take (i+1))=(Z1t (s.take i) && decide (33<=(s.getD i 0).toNat/\(s.getD i 0).toNat<=126)):=by rw[List.take_add_one,qy1,qy7 h];simp only[Z1t,List.all_append,Option.toList_some,List.all_cons,List.all_nil,Bool.and_true,Option.getD_some]
theorem Zjr{s:List UInt8}{i:Nat}(h:i<s.length)(h1:¬(33<=(s.getD i 0).toNat/\(s.getD i 0).toNat<=126)):Z1t s=false:=by rw[<- Bool.not_eq_true];intro h2;rw[Z1t,List.all_eq_true]at h2;have:=h2 (s.getD i 0) (by rw[qy1,qy7 h];exact List.getElem_mem h);exact h1 (of_decide_eq_true this)
theorem Zeg(w:World)(s:List UInt8)(hs:s.length<1099511627776):Calls Tryz.prog 33 #[.string ⟨s.toArray⟩] w λe w'=>e=.returned (.bool (Z1t s))/\Mod [] w w':=by
 refine Z1 (Z8 (J:=[.s s]) sxE_ok Tryz.func33 Z5w rfl rfl rfl ?_) rfl;simp only[Tree.goal,X.P,X.ev,SV.ev,CV.ev,Sc.ev,qz,QA,QB,QC,QD,QE,QF,QG,QH,QI,QJ,QK,QL,QM,Nat.reduceAdd];refine⟨λvs=>∃(x:V) (i:Nat),vs=[x,.i i]/\i<=s.length/\Z1t (s.take i)=true,λvs=>s.length - (vs.getD 1 (.i 0)).toI.toNat,⟨_,0,rfl,by omega,rfl⟩,?_⟩;rintro _ - ⟨x,i,rfl,hi,hp⟩;simp only[Tree.goal,X.P,X.ev,SV.ev,CV.ev,Sc.ev,qz,QA,QB,QC,QD,QE,QF,QG,QH,QI,QJ,QK,QL,QM,Nat.reduceAdd,qy4];refine⟨λh1=>⟨by omega,λh2 w' hr=>⟨by rw[Zjr (i:=i) (by omega) (by omega)],hr.mod⟩,λh2=>⟨by omega,by omega,⟨x,i+1,rfl,by omega,?_⟩,by omega⟩⟩,λh1 w' hr=>⟨?_,hr.mod⟩⟩
 ·rw[Zgf _ _ (by omega),hp,Bool.true_and,decide_eq_true_eq];omega
 ·have:i=s.length:=by omega
  subst this;rw[List.take_length]at hp;rw[hp]
theorem Zhu(w:World)(s:List UInt8)(hs:s.length<1099511627776):Calls Tryz.prog 81 #[.string ⟨s.toArray⟩] w λe w'=>e=.returned (.bool (Z1t s))/\Mod [] w w':=by
 refine Z1 (Z8 (J:=[.s s]) sxE_ok Tryz.func81 Zcm rfl rfl rfl ?_) rfl;simp only[Tree.goal,X.P,X.ev,SV.ev,CV.ev,Sc.ev,qz,QA,QB,QC,QD,QE,QF,QG,QH,QI,QJ,QK,QL,QM,Nat.reduceAdd];refine⟨λvs=>∃(x:V) (i:Nat),vs=[x,.i i]/\i<=s.length/\Z1t (s.take i)=true,λvs=>s.length - (vs.getD 1 (.i 0)).toI.toNat,⟨_,0,rfl,by omega,rfl⟩,?_⟩;rintro _ - ⟨x,i,rfl,hi,hp⟩;simp only[Tree.goal,X.P,X.ev,SV.ev,CV.ev,Sc.ev,qz,QA,QB,QC,QD,QE,QF,QG,QH,QI,QJ,QK,QL,QM,Nat.reduceAdd,qy4];refine⟨λh1=>⟨by omega,λh2 w' hr=>⟨by rw[Zjr (i:=i) (by omega) (by omega)],hr.mod⟩,λh2=>⟨by omega,by omega,⟨x,i+1,rfl,by omega,?_⟩,by omega⟩⟩,λh1 w' hr=>⟨?_,hr.mod⟩⟩
 ·rw[Zgf _ _ (by omega),hp,Bool.true_and,decide_eq_true_eq];omega
 ·have:i=s.length:=by omega
  subst this;rw[List.take_length]at hp;rw[hp]
def wild(x:List UInt8):Bool:=x.any λb=>b == 43 || b == 35
theorem Zxl:∀x:List UInt8,Lib.containsAny x [43,35]=wild x:=by
 intro x;induction x with
 | nil=>rfl
 | cons b l ih =>
  have hg:=Lib.indexAny_ge [43,35] l;unfold Lib.containsAny at ih⊢;unfold Lib.indexAny;simp only[wild,List.any_cons];by_cases h:b=43\/b=35
  ·have h1:([43,35]:List UInt8).contains b=true:=by rcases h with h|h<;>subst h<;>decide
   have h2:(b == 43 || b == 35)=true:=by rcases h with h|h<;>subst h<;>decide
   rw[if_pos h1,h2]<;>rfl
  ·have h1:¬([43,35]:List UInt8).contains b=true:=by simp;exact⟨λh2=>h (.inl h2),λh2=>h (.inr h2)⟩
   have h2:(b == 43 || b == 35)=false:=by simp;exact⟨λh2=>h (.inl h2),λh2=>h (.inr h2)⟩
   rw[if_neg h1,h2,Bool.false_or];change _=wild l;rw[<- ih];by_cases h3:Lib.indexAny l [43,35]=-1
   ·rw[if_pos (by simpa using h3),h3]<;>rfl
   ·rw[if_neg (by simpa using h3)];exact decide_eq_decide.2 (by omega)
theorem Za2(w:World)(x:List UInt8)(hs:x.length<4294967281)(ha:∀b∈x,b.toNat<128):Calls Tryz.prog 204 #[.string ⟨x.toArray⟩,.string ⟨#[43,35]⟩] w λe w'=>e=.returned (.bool (wild x))/\Mod [] w w':=by
 refine(Z1 (Any.strings_ContainsAny_laid Tryz.lays150 (by kernel_rfl) ⟨x.toArray⟩ ⟨#[43,35]⟩ w hs (by decide) (λj b hb=>ha b (qy6 hb)) (λj b hb=>?_)) rfl).mono ?_
 ·have:b∈([43,35]:List UInt8):=qy6 hb;simp at this;rcases this with rfl|rfl<;>decide
 ·rintro e w' ⟨h1,h2⟩;refine⟨?_,Mod.of_below h2⟩;rw[h1];exact congrArg (λb=>Ending.returned (Value.bool b)) (Zxl x)
def badL(filter:Bool):List (List UInt8)->Bool
 | []=>false
 | x::r=>(wild x && (!filter || (!decide (x=[43]) && (!decide (x=[35]) || !decide (r=[]))))) || badL filter r
def chkT(s:List UInt8)(filter:Bool):Int :=
 if s=[]then 1 else if 60<(s.length:Int)\/6<((lev s).length:Int)then 2 else if Z1t s=true then(if badL filter (lev s)=true then 1 else 0)else 1
theorem Zhv{f:Bool}:chkT [] f=1:=rfl
theorem Zeh{s:List UInt8}{f:Bool}(h:¬s=[])(h1:60<(s.length:Int)\/6<((lev s).length:Int)):chkT s f=2:=by rw[chkT,if_neg h,if_pos h1]
theorem Zbi{s:List UInt8}{f:Bool}(h:¬s=[])(h1:¬(60<(s.length:Int)\/6<((lev s).length:Int)))(h2:¬Z1t s=true):chkT s f=1:=by rw[chkT,if_neg h,if_neg h1,if_neg h2]
theorem Zhw{s:List UInt8}{f:Bool}(h:¬s=[])(h1:¬(60<(s.length:Int)\/6<((lev s).length:Int)))(h2:Z1t s=true):chkT s f=if badL f (lev s)=true then 1 else 0:=by rw[chkT,if_neg h,if_neg h1,if_pos h2]
theorem Z11v:∀{s x:List UInt8},x∈lev s->∀b∈x,b∈s:=by
 intro s;induction s with
 | nil=>intro x hx b hb;simp[lev]at hx;subst hx;simp at hb
 | cons c l ih =>
  intro x hx b hb;by_cases hc:c=47
  ·subst hc;rw[Z5y]at hx;rcases List.mem_cons.1 hx with rfl|hx
   ·simp at hb
   ·exact qy10 _ (ih hx b hb)
  ·obtain⟨y,ys,e⟩:=Zge l;rw[Z4m _ hc,e]at hx;rcases List.mem_cons.1 hx with rfl|hx
   ·rcases qy13.1 hb with hb|hb
    ·simp at hb;subst hb;simp
    ·exact qy10 _ (ih (by rw[e];exact qy8 ..) b hb)
   ·exact qy10 _ (ih (by rw[e];exact qy10 _ hx) b hb)
theorem Zd6{ps:List (List UInt8)}{i:Nat}(h:i<ps.length):ps.getD i []∈ps:=by rw[qy1,qy7 h];exact List.getElem_mem h
theorem Zjs{s:List UInt8}(hp:Z1t s=true){i:Nat}(h:i<(lev s).length):∀b∈(lev s).getD i [],b.toNat<128:=λb hb=>by have h1:=Z11v (Zd6 h) b hb;have:=of_decide_eq_true (List.all_eq_true.1 hp b h1);omega
theorem Zhx{s x:List UInt8}(hx:x∈lev s):x.length<=s.length:=by
 induction s generalizing x with
 | nil=>simp[lev]at hx;subst hx;simp
 | cons c l ih =>
  by_cases hc:c=47
  ·subst hc;rw[Z5y]at hx;rcases List.mem_cons.1 hx with rfl|hx
   ·simp
   ·have:=ih hx;simp;omega
  ·obtain⟨y,ys,e⟩:=Zge l;rw[Z4m _ hc,e]at hx;rcases List.mem_cons.1 hx with rfl|hx
   ·have:=ih (x:=y) (by rw[e];exact qy8 ..);simp;omega
   ·have:=ih (x:=x) (by rw[e];exact qy10 _ hx);simp;omega
theorem Z4n(s:List UInt8):(lev s).length<=s.length+1:=by
 induction s with
 | nil=>simp[lev]
 | cons c l ih =>
  by_cases hc:c=47
  ·subst hc;rw[Z5y];simp;omega
  ·obtain⟨y,ys,e⟩:=Zge l;rw[Z4m _ hc,e];rw[e]at ih;simp[glue]at *;omega
theorem Zjt(w:World)(s:List UInt8)(hs:s.length<4294967281):Calls Tryz.prog 116 #[.string ⟨s.toArray⟩] w λe w'=>e=.returned (.int .i64 (chkT s false))/\Mod [] w w':=by
 refine Z1 (Z8 (J:=[.s s]) sxE_ok Tryz.func116 Ze8 rfl rfl rfl ?_) rfl;simp only[Tree.goal,X.P,X.ev,SV.ev,CV.ev,Sc.ev,qz,QA,QB,QC,QD,QE,QF,QG,QH,QI,QJ,QK,QL,QM,Nat.reduceAdd];intro w1 hr;refine(Zd5 w1 s (by omega)).mono ?_;rintro e w2 ⟨v1,rfl,r1,f1,m1⟩;refine⟨[.v v1,.r ((lev s).map Z15)],rfl,rfl,m1,qy5 _,qy2.2 ⟨⟨r1,λk hk=>.inl (f1 k hk)⟩,qy5 _⟩,Z5,?_⟩;simp only[Tree.goal,X.P,X.ev,SV.ev,CV.ev,Sc.ev,qz,QA,QB,QC,QD,QE,QF,QG,QH,QI,QJ,QK,QL,QM,Nat.reduceAdd,qy3];have hlc:=Z4n s;refine⟨λh w' hr=>⟨by rw[h,Zhv],hr.mod⟩,λh=>⟨λh1 w' hr=>⟨by rw[Zeh h h1],hr.mod⟩,λh1=>?_⟩⟩;refine⟨[.b (Z1t s)],rfl,λ_ w' _=>Zhu w' s (by omega),?_⟩;simp only[Tree.goal,X.P,X.ev,SV.ev,CV.ev,Sc.ev,qz,QA,QB,QC,QD,QE,QF,QG,QH,QI,QJ,QK,QL,QM,Nat.reduceAdd];refine⟨λh2 w' hr=>⟨by rw[Zbi h h1 h2],hr.mod⟩,λh2=>?_⟩;(have h2:=qy9.1 h2);rw[Zhw h h1 h2];refine⟨λvs=>∃(x:V) (i:Nat),vs=[x,.i i]/\i<=(lev s).length/\badL false ((lev s).drop i)=badL false (lev s),λvs=>(lev s).length - (vs.getD 1 (.i 0)).toI.toNat,⟨_,0,rfl,by omega,rfl⟩,?_⟩;rintro _ - ⟨x,i,rfl,hi,hg⟩;simp only[Tree.goal,X.P,X.ev,SV.ev,CV.ev,Sc.ev,qz,QA,QB,QC,QD,QE,QF,QG,QH,QI,QJ,QK,QL,QM,Nat.reduceAdd,qy4,qy3,Zd];refine⟨λh3=>?_,λh3 w' hr=>⟨?_,hr.mod⟩⟩
 ·rw[Z96 _ i (by omega)]at hg;have hsz:=Zhx (Zd6 (ps:=lev s) (i:=i) (by omega));have has:=Zjs h2 (i:=i) (by omega);generalize (lev s).getD i []=y at hg hsz has⊢
  (repeat refine⟨by omega,?_⟩)
  refine⟨[.b (wild y)],rfl,λ_ w' _=>Za2 w' y (by omega) has,?_⟩;simp only[Tree.goal,X.P,X.ev,SV.ev,CV.ev,Sc.ev,qz,QA,QB,QC,QD,QE,QF,QG,QH,QI,QJ,QK,QL,QM,Nat.reduceAdd];simp only[badL,Bool.not_false,Bool.true_or,Bool.and_true]at hg;refine⟨λh4 w' hr=>⟨by rw[<- hg,h4];rfl,hr.mod⟩,λh4=>⟨by omega,by omega,⟨x,i+1,rfl,by omega,?_⟩,by omega⟩⟩;rw[<- hg,(Bool.not_eq_true _).mp h4];simp
 ·have:i=(lev s).length:=by omega
  subst this;rw[List.drop_length]at hg;rw[<- hg];rfl
theorem Zny(w:World)(s:List UInt8)(hs:s.length<4294967281):Calls Tryz.prog 187 #[.string ⟨s.toArray⟩] w λe w'=>e=.returned (.int .i64 (chkT s true))/\Mod [] w w':=by
 refine Z1 (Z8 (J:=[.s s]) sxE_ok Tryz.func187 Zb8 rfl rfl rfl ?_) rfl;simp only[Tree.goal,X.P,X.ev,SV.ev,CV.ev,Sc.ev,qz,QA,QB,QC,QD,QE,QF,QG,QH,QI,QJ,QK,QL,QM,Nat.reduceAdd];intro w1 hr;refine(Zd5 w1 s (by omega)).mono ?_;rintro e w2 ⟨v1,rfl,r1,f1,m1⟩;refine⟨[.v v1,.r ((lev s).map Z15)],rfl,rfl,m1,qy5 _,qy2.2 ⟨⟨r1,λk hk=>.inl (f1 k hk)⟩,qy5 _⟩,Z5,?_⟩;simp only[Tree.goal,X.P,X.ev,SV.ev,CV.ev,Sc.ev,qz,QA,QB,QC,QD,QE,QF,QG,QH,QI,QJ,QK,QL,QM,Nat.reduceAdd,qy3];have hlc:=Z4n s;refine⟨λh w' hr=>⟨by rw[h,Zhv],hr.mod⟩,λh=>⟨λh1 w' hr=>⟨by rw[Zeh h h1],hr.mod⟩,λh1=>?_⟩⟩;refine⟨[.b (Z1t s)],rfl,λ_ w' _=>Zhu w' s (by omega),?_⟩;simp only[Tree.goal,X.P,X.ev,SV.ev,CV.ev,Sc.ev,qz,QA,QB,QC,QD,QE,QF,QG,QH,QI,QJ,QK,QL,QM,Nat.reduceAdd];refine⟨λh2 w' hr=>⟨by rw[Zbi h h1 h2],hr.mod⟩,λh2=>?_⟩;(have h2:=qy9.1 h2);rw[Zhw h h1 h2];refine⟨λvs=>∃(x:V) (i:Nat),vs=[x,.i i]/\i<=(lev s).length/\badL true ((lev s).drop i)=badL true (lev s),λvs=>(lev s).length - (vs.getD 1 (.i 0)).toI.toNat,⟨_,0,rfl,by omega,rfl⟩,?_⟩;rintro _ - ⟨x,i,rfl,hi,hg⟩;simp only[Tree.goal,X.P,X.ev,SV.ev,CV.ev,Sc.ev,qz,QA,QB,QC,QD,QE,QF,QG,QH,QI,QJ,QK,QL,QM,Nat.reduceAdd,qy4,qy3,Zd];refine⟨λh3=>?_,λh3 w' hr=>⟨?_,hr.mod⟩⟩
 ·rw[Z96 _ i (by omega)]at hg;have hsz:=Zhx (Zd6 (ps:=lev s) (i:=i) (by omega));have has:=Zjs h2 (i:=i) (by omega);have hlast:(lev s).drop (i+1)=[]↔(i:Int)=((lev s).length:Int) - 1:=by rw[List.drop_eq_nil_iff];omega
  generalize (lev s).getD i []=y at hg hsz has⊢
  (repeat refine⟨by omega,?_⟩)
  refine⟨[.b (wild y)],rfl,λ_ w' _=>Za2 w' y (by omega) has,?_⟩;simp only[Tree.goal,X.P,X.ev,SV.ev,CV.ev,Sc.ev,qz,QA,QB,QC,QD,QE,QF,QG,QH,QI,QJ,QK,QL,QM,Nat.reduceAdd];have key:(¬((¬wild y=true\/y=[43])\/y=[35]/\(i:Int)=((lev s).length:Int) - 1))↔(wild y && (!true || (!decide (y=[43]) && (!decide (y=[35]) || !decide ((lev s).drop (i+1)=[])))))=true:=by rw[<- hlast];cases wild y<;>by_cases q1:y=[43]<;>by_cases q2:y=[35]<;>by_cases q3:(lev s).drop (i+1)=[]<;>simp[q1,q2,q3]
  simp only[badL]at hg;refine⟨λh4 w' hr=>⟨by rw[<- hg,key.1 h4];rfl,hr.mod⟩,λh4=>⟨by omega,by omega,⟨x,i+1,rfl,by omega,?_⟩,by omega⟩⟩;have h5:=(Bool.not_eq_true _).mp (λh=>h4 (key.2 h));rw[<- hg,h5];simp
 ·have:i=(lev s).length:=by omega
  subst this;rw[List.drop_length]at hg;rw[<- hg];rfl
theorem Zsw(x:List UInt8)(k:Nat)(h:k<x.length):wild (x.take (k+1))=(wild (x.take k) || (decide ((x.getD k 0).toNat=43) || decide ((x.getD k 0).toNat=35))):=by
 rw[List.take_add_one,qy1,qy7 h];simp only[wild,List.any_append,Option.toList_some,List.any_cons,List.any_nil,Bool.or_false,Option.getD_some];have e1:(x[k] == 43)=decide (x[k].toNat=43):=by rw[Bool.eq_iff_iff];simp only[beq_iff_eq,decide_eq_true_eq];exact⟨λh=>by rw[h];rfl,λh=>UInt8.toNat_inj.1 h⟩
 have e2:(x[k] == 35)=decide (x[k].toNat=35):=by rw[Bool.eq_iff_iff];simp only[beq_iff_eq,decide_eq_true_eq];exact⟨λh=>by rw[h];rfl,λh=>UInt8.toNat_inj.1 h⟩
 rw[e1,e2]
theorem Z3c(w:World)(s:List UInt8)(f:Bool)(hs:s.length<4294967281):Calls Tryz.prog 34 #[.string ⟨s.toArray⟩,.bool f] w λe w'=>e=.returned (.int .i64 (chkT s f))/\Mod [] w w':=by
 refine Z1 (Z8 (J:=[.s s,.b f]) sxE_ok Tryz.func34 Z4j rfl rfl rfl ?_) rfl;simp only[Tree.goal,X.P,X.ev,SV.ev,CV.ev,Sc.ev,qz,QA,QB,QC,QD,QE,QF,QG,QH,QI,QJ,QK,QL,QM,Nat.reduceAdd];intro w1 hr;refine(Z5z w1 s (by omega)).mono ?_;rintro e w2 ⟨v1,rfl,r1,f1,m1⟩;refine⟨[.v v1,.r ((lev s).map Z15)],rfl,rfl,m1,qy5 _,qy2.2 ⟨⟨r1,λk hk=>.inl (f1 k hk)⟩,qy5 _⟩,Z5,?_⟩;simp only[Tree.goal,X.P,X.ev,SV.ev,CV.ev,Sc.ev,qz,QA,QB,QC,QD,QE,QF,QG,QH,QI,QJ,QK,QL,QM,Nat.reduceAdd,qy3];have hlc:=Z4n s;refine⟨λh w' hr=>⟨by rw[h,Zhv],hr.mod⟩,λh=>⟨λh1 w' hr=>⟨by rw[Zeh h h1],hr.mod⟩,λh1=>?_⟩⟩;refine⟨[.b (Z1t s)],rfl,λ_ w' _=>Zeg w' s (by omega),?_⟩;simp only[Tree.goal,X.P,X.ev,SV.ev,CV.ev,Sc.ev,qz,QA,QB,QC,QD,QE,QF,QG,QH,QI,QJ,QK,QL,QM,Nat.reduceAdd];refine⟨λh2 w' hr=>⟨by rw[Zbi h h1 h2],hr.mod⟩,λh2=>?_⟩;have h2:=qy9.1 h2;rw[Zhw h h1 h2];refine⟨λvs=>∃(x:V) (i:Nat),vs=[x,.i i]/\i<=(lev s).length/\badL f ((lev s).drop i)=badL f (lev s),λvs=>(lev s).length - (vs.getD 1 (.i 0)).toI.toNat,⟨_,0,rfl,by omega,rfl⟩,?_⟩;rintro _ - ⟨x,i,rfl,hi,hg⟩;simp only[Tree.goal,X.P,X.ev,SV.ev,CV.ev,Sc.ev,qz,QA,QB,QC,QD,QE,QF,QG,QH,QI,QJ,QK,QL,QM,Nat.reduceAdd,qy4,qy3,Zd];refine⟨λh3=>?_,λh3 w' hr=>⟨?_,hr.mod⟩⟩
 ·rw[Z96 _ i (by omega)]at hg;have hsz:=Zhx (Zd6 (ps:=lev s) (i:=i) (by omega));have hlast:(lev s).drop (i+1)=[]↔¬((i:Int)<((lev s).length:Int) - 1):=by rw[List.drop_eq_nil_iff];omega
  generalize (lev s).getD i []=y at hg hsz⊢
  refine⟨λvs=>∃(k:Nat),vs=[.b (wild (y.take k)),.i k]/\k<=y.length,λvs=>y.length - (vs.getD 1 (.i 0)).toI.toNat,⟨0,rfl,by omega⟩,?_⟩;rintro _ - ⟨k,rfl,hk⟩;simp only[Tree.goal,X.P,X.ev,SV.ev,CV.ev,Sc.ev,qz,QA,QB,QC,QD,QE,QF,QG,QH,QI,QJ,QK,QL,QM,Nat.reduceAdd,qy4,qy3,Zd];refine⟨by omega,λh4=>?_,λh4=>?_⟩
  ·refine⟨.inr (by omega),.inr (by omega),by omega,by omega,⟨k+1,?_,by omega⟩,by omega⟩;rw[Zsw y k (by omega)];simp only[List.cons.injEq,V.b.injEq,and_true];refine⟨?_,by simp⟩;rw[Bool.or_assoc];congr 2
   ·exact decide_eq_decide.2 (by omega)
   ·exact decide_eq_decide.2 (by omega)
  ·have:k=y.length:=by omega
   subst this;rw[List.take_length];have key:(wild y=true/\(¬f=true\/¬y=[43]/\(¬y=[35]\/(i:Int)<((lev s).length:Int) - 1)))↔(wild y && (!f || (!decide (y=[43]) && (!decide (y=[35]) || !decide ((lev s).drop (i+1)=[])))))=true:=by
    by_cases q3:(i:Int)<((lev s).length:Int) - 1
    ·have q4:¬(lev s).drop (i+1)=[]:=λh=>hlast.1 h q3;cases wild y<;>cases f<;>by_cases q1:y=[43]<;>by_cases q2:y=[35]<;>simp[q1,q2,q3,q4]
    ·have q4:(lev s).drop (i+1)=[]:=hlast.2 q3;cases wild y<;>cases f<;>by_cases q1:y=[43]<;>by_cases q2:y=[35]<;>simp[q1,q2,q3,q4]
   simp only[badL]at hg;refine⟨.inr (by omega),.inr (by omega),λh5 w' hr=>⟨by rw[<- hg,key.1 h5];rfl,hr.mod⟩,λh5=>⟨by omega,by omega,⟨x,i+1,rfl,by omega,?_⟩,by omega⟩⟩;have h6:=(Bool.not_eq_true _).mp (λh=>h5 (key.2 h));rw[<- hg,h6];simp
 ·have:i=(lev s).length:=by omega
  subst this;rw[List.drop_length]at hg;rw[<- hg];rfl
def mt:List (List UInt8)->List (List UInt8)->Bool
 | [],n=>decide (n=[])
 | f::fs,n=>if f=[35]then true else match n with
  | []=>false
  | x::xs=>if f=[43]\/f=x then mt fs xs else false
def cv:List (List UInt8)->List (List UInt8)->Bool
 | [],n=>decide (n=[])
 | f::fs,n=>if f=[35]then true else match n with
  | []=>false
  | x::xs=>if x=[35]then false else if f=[43]\/f=x then cv fs xs else false
theorem Z108{f:List UInt8}(fs n:List (List UInt8))(h:f=[35]):mt (f::fs) n=true:=by cases n<;>simp[mt,h]
theorem Zsx{f:List UInt8}(fs:List (List UInt8))(h:¬f=[35]):mt (f::fs) []=false:=by simp[mt,h]
theorem Zm1{f:List UInt8}(fs:List (List UInt8))(x:List UInt8)(xs:List (List UInt8))(h:¬f=[35]):mt (f::fs) (x::xs)=if f=[43]\/f=x then mt fs xs else false:=by simp[mt,h]
theorem tk1(f:List UInt8)(fs:List (List UInt8)):List.drop (Int.toNat 1) (List.take (((fs.length+1:Nat):Int)).toNat (Z15 f::fs.map Z15))=fs.map Z15:=by rw[qy4,List.take_of_length_le (by simp)];rfl
theorem Za3{w:World}{u:Value}{a b:List (List Value)}(h:reads w u [.str] a)(e:a=b):reads w u [.str] b:=e▸h
theorem Z11w:∀(fs ns:List (List UInt8)) (u v:Value) (w:World),Zef w u fs->Zef w v ns->fs.length<1099511627776->ns.length<1099511627776 -> Calls Tryz.prog 228 #[sc1 u,sc1 v] w λe w'=>e=.returned (.bool (mt fs ns))/\Mod [] w w':=by
 intro fs;induction fs with
 | nil =>
  intro ns u v w hu hv hl hn;refine Z1 (Z3 (J:=[.v u,.r (([]:List (List UInt8)).map Z15),.v v,.r (ns.map Z15)]) sxE_ok Tryz.func228 Z79 rfl rfl (Rel.start2 (by simp only[qy2];exact⟨⟨hu,rfl⟩,⟨hv,rfl⟩,by simp⟩)) rfl rfl ?_) rfl;simp only[Tree.goal,X.P,X.ev,SV.ev,CV.ev,Sc.ev,qz,QA,QB,QC,QD,QE,QF,QG,QH,QI,QJ,QK,QL,QM,Nat.reduceAdd,qy3];refine⟨λ_ w' hr=>⟨?_,hr.mod⟩,λh=>absurd rfl h⟩;simp only[mt,Ending.returned.injEq,Value.bool.injEq];exact decide_eq_decide.2 (by rw[<- List.length_eq_zero_iff];omega)
 | cons f fs ih =>
  intro ns u v w hu hv hl hn;refine Z1 (Z3 (J:=[.v u,.r ((f::fs).map Z15),.v v,.r (ns.map Z15)]) sxE_ok Tryz.func228 Z79 rfl rfl (Rel.start2 (by simp only[qy2];exact⟨⟨hu,rfl⟩,⟨hv,rfl⟩,by simp⟩)) rfl rfl ?_) rfl;simp only[Tree.goal,X.P,X.ev,SV.ev,CV.ev,Sc.ev,qz,QA,QB,QC,QD,QE,QF,QG,QH,QI,QJ,QK,QL,QM,Nat.reduceAdd,qy3,Int.toNat_zero];have g0:Value.gS (((Z15 f::fs.map Z15).getD 0 []).getD 0 undef)=f:=Zd (f::fs) 0;simp only[List.getD_cons_zero]at g0;have g1:=Zd ns 0;rw[g0,g1];refine⟨λh=>absurd h (by omega),λ_=>⟨by omega,λh1 w' hr=>⟨by rw[Z108 _ _ h1],hr.mod⟩,λh1=>?_⟩⟩;rcases ns with _|⟨x,xs⟩
  ·refine⟨.inl λh=>absurd rfl h.1,λ_ w' hr=>⟨by rw[Zsx _ h1],hr.mod⟩,λh=>absurd (.inl rfl) h⟩
  ·have hl':fs.length<1099511627776:=by rw[List.length_cons]at hl;omega
   have hn':xs.length<1099511627776:=by rw[List.length_cons]at hn;omega
   simp only[List.getD_cons_zero,List.length_cons];rw[Zm1 _ _ _ h1];refine⟨.inr (by omega),λh2 w' hr=>⟨?_,hr.mod⟩,λh2=>?_⟩
   ·rw[if_neg];intro h3;rcases h2 with h2|h2
    ·omega
    ·rcases h3 with h3|h3
     ·exact h2.1 h3
     ·exact h2.2 h3
   ·have h3:f=[43]\/f=x:=by
     by_cases h4:f=[43]
     ·exact .inl h4
     ·by_cases h5:f=x
      ·exact .inr h5
      ·exact absurd (.inr ⟨h4,h5⟩) h2
    rw[if_pos h3];refine⟨⟨by omega,λv1=>⟨by omega,λv2=>?_⟩⟩,⟨by omega,λv1=>⟨by omega,λv2=>?_⟩⟩⟩
    ·refine⟨[.b (mt fs xs)],rfl,λ_ w' hr=>?_,?_⟩;(· have q0:=hr.at_ 0 rfl;have q1:=hr.at_ 1 rfl;simp only[Ent.holds,Tree.goal,X.P,X.ev,SV.ev,CV.ev,Sc.ev,qz,QA,QB,QC,QD,QE,QF,QG,QH,QI,QJ,QK,QL,QM,Nat.reduceAdd,qy3,List.length_cons]at q0 q1;clear hl hn;exact ih xs v1 v2 w' (Za3 q1 (tk1 _ _)) (Za3 q0 (tk1 _ _)) hl' hn');simp only[Tree.goal,X.P,X.ev,SV.ev,CV.ev,Sc.ev,qz,QA,QB,QC,QD,QE,QF,QG,QH,QI,QJ,QK,QL,QM,Nat.reduceAdd];exact λw' hr=>⟨by trivial,hr.mod⟩
    ·refine⟨[.b (mt fs xs)],rfl,λ_ w' hr=>?_,?_⟩;(· have q0:=hr.at_ 0 rfl;have q1:=hr.at_ 1 rfl;simp only[Ent.holds,Tree.goal,X.P,X.ev,SV.ev,CV.ev,Sc.ev,qz,QA,QB,QC,QD,QE,QF,QG,QH,QI,QJ,QK,QL,QM,Nat.reduceAdd,qy3,List.length_cons]at q0 q1;clear hl hn;exact ih xs v2 v1 w' (Za3 q0 (tk1 _ _)) (Za3 q1 (tk1 _ _)) hl' hn');simp only[Tree.goal,X.P,X.ev,SV.ev,CV.ev,Sc.ev,qz,QA,QB,QC,QD,QE,QF,QG,QH,QI,QJ,QK,QL,QM,Nat.reduceAdd];exact λw' hr=>⟨by trivial,hr.mod⟩
theorem Z11x(w:World)(f n:List UInt8)(hf:f.length<4294967281)(hn:n.length<4294967281):Calls Tryz.prog 200 #[.string ⟨f.toArray⟩,.string ⟨n.toArray⟩] w λe w'=>e=.returned (.bool (mt (lev f) (lev n)))/\Mod [] w w':=by refine Z1 (Z8 (J:=[.s f,.s n]) sxE_ok Tryz.func200 Zfl rfl rfl rfl ?_) rfl;simp only[Tree.goal,X.P,X.ev,SV.ev,CV.ev,Sc.ev,qz,QA,QB,QC,QD,QE,QF,QG,QH,QI,QJ,QK,QL,QM,Nat.reduceAdd];intro w1 hr;refine(Zd5 w1 f hf).mono ?_;rintro e w2 ⟨v1,rfl,r1,f1,m1⟩;refine⟨[.v v1,.r ((lev f).map Z15)],rfl,rfl,m1,qy5 _,qy2.2 ⟨⟨r1,λk hk=>.inl (f1 k hk)⟩,qy5 _⟩,Z5,?_⟩;simp only[Tree.goal,X.P,X.ev,SV.ev,CV.ev,Sc.ev,qz,QA,QB,QC,QD,QE,QF,QG,QH,QI,QJ,QK,QL,QM,Nat.reduceAdd];intro w3 hr;refine(Zd5 w3 n hn).mono ?_;rintro e w4 ⟨v2,rfl,r1,f1,m1⟩;refine⟨[.v v2,.r ((lev n).map Z15)],rfl,rfl,m1,qy5 _,qy2.2 ⟨⟨r1,λk hk=>.inl (f1 k hk)⟩,qy5 _⟩,Z5,?_⟩;simp only[Tree.goal,X.P,X.ev,SV.ev,CV.ev,Sc.ev,qz,QA,QB,QC,QD,QE,QF,QG,QH,QI,QJ,QK,QL,QM,Nat.reduceAdd];have l1:=Z4n f;have l2:=Z4n n;refine⟨[.b (mt (lev f) (lev n))],rfl,λ_ w' hr=>Z11w (lev f) (lev n) v1 v2 w' (hr.at_ 1 rfl) (hr.at_ 0 rfl) (by omega) (by omega),?_⟩;simp only[Tree.goal,X.P,X.ev,SV.ev,CV.ev,Sc.ev,qz,QA,QB,QC,QD,QE,QF,QG,QH,QI,QJ,QK,QL,QM,Nat.reduceAdd];exact λw' hr=>⟨by trivial,hr.mod⟩
theorem Z11y(w:World)(f n:List UInt8)(hf:f.length<4294967281)(hn:n.length<4294967281):Calls Tryz.prog 111 #[.string ⟨f.toArray⟩,.string ⟨n.toArray⟩] w λe w'=>e=.returned (.bool (mt (lev f) (lev n)))/\Mod [] w w':=by
 refine Z1 (Z8 (J:=[.s f,.s n]) sxE_ok Tryz.func111 Z7i rfl rfl rfl ?_) rfl;simp only[Tree.goal,X.P,X.ev,SV.ev,CV.ev,Sc.ev,qz,QA,QB,QC,QD,QE,QF,QG,QH,QI,QJ,QK,QL,QM,Nat.reduceAdd];intro w1 hr;refine(Z5z w1 f (by omega)).mono ?_;rintro e w2 ⟨v1,rfl,r1,f1,m1⟩;refine⟨[.v v1,.r ((lev f).map Z15)],rfl,rfl,m1,qy5 _,qy2.2 ⟨⟨r1,λk hk=>.inl (f1 k hk)⟩,qy5 _⟩,Z5,?_⟩;simp only[Tree.goal,X.P,X.ev,SV.ev,CV.ev,Sc.ev,qz,QA,QB,QC,QD,QE,QF,QG,QH,QI,QJ,QK,QL,QM,Nat.reduceAdd];intro w3 hr;refine(Z5z w3 n (by omega)).mono ?_;rintro e w4 ⟨v2,rfl,r1,f1,m1⟩;refine⟨[.v v2,.r ((lev n).map Z15)],rfl,rfl,m1,qy5 _,qy2.2 ⟨⟨r1,λk hk=>.inl (f1 k hk)⟩,qy5 _⟩,Z5,?_⟩;simp only[Tree.goal,X.P,X.ev,SV.ev,CV.ev,Sc.ev,qz,QA,QB,QC,QD,QE,QF,QG,QH,QI,QJ,QK,QL,QM,Nat.reduceAdd,qy3];have l1:=Z4n f;have l2:=Z4n n;generalize lev f=fs at *
 generalize lev n=ns at *
 refine⟨λvs=>∃(x:V) (i:Nat),vs=[x,.i i]/\i<=fs.length/\i<=ns.length/\mt (fs.drop i) (ns.drop i)=mt fs ns,λvs=>fs.length - (vs.getD 1 (.i 0)).toI.toNat,⟨_,0,rfl,by omega,by omega,rfl⟩,?_⟩;rintro _ - ⟨x,i,rfl,hi,hj,hg⟩;simp only[Tree.goal,X.P,X.ev,SV.ev,CV.ev,Sc.ev,qz,QA,QB,QC,QD,QE,QF,QG,QH,QI,QJ,QK,QL,QM,Nat.reduceAdd,qy4,qy3,Zd];refine⟨λh1=>⟨by omega,λh2 w' hr=>⟨?_,hr.mod⟩,λh2=>?_⟩,λh1 w' hr=>⟨?_,hr.mod⟩⟩
 ·rw[Z96 fs i (by omega),Z108 _ _ h2]at hg;rw[<- hg]
 ·rw[Z96 fs i (by omega)]at hg;refine⟨by omega,λh3 w' hr=>⟨?_,hr.mod⟩,λh3=>?_⟩
  ·by_cases h4:ns.length<=i
   ·rw[List.drop_of_length_le h4,Zsx _ h2]at hg;rw[<- hg]
   ·rw[Z96 ns i (by omega),Zm1 _ _ _ h2,if_neg]at hg
    ·rw[<- hg]
    ·intro h5;rcases h3 with h3|h3
     ·omega
     ·rcases h5 with h5|h5
      ·exact h3.1 h5
      ·exact h3.2 h5
  ·have h4:¬ns.length<=i:=λh=>h3 (.inl (by omega));rw[Z96 ns i (by omega),Zm1 _ _ _ h2,if_pos]at hg
   ·exact⟨by omega,by omega,⟨x,i+1,rfl,by omega,by omega,hg⟩,by omega⟩
   ·by_cases h5:fs.getD i []=[43]
    ·exact .inl h5
    ·by_cases h6:fs.getD i []=ns.getD i []
     ·exact .inr h6
     ·exact absurd (.inr ⟨h5,h6⟩) h3
 ·have:i=fs.length:=by omega
  subst this;rw[List.drop_length]at hg;rw[<- hg];simp only[mt,Ending.returned.injEq,Value.bool.injEq];exact decide_eq_decide.2 (by rw[List.drop_eq_nil_iff];omega)
abbrev Wat:=Int×List UInt8×List UInt8×Int
def Z7(w:Wat):List Value:=[.int .i64 w.1,.string ⟨w.2.1.toArray⟩,.string ⟨w.2.2.1.toArray⟩,.int .i64 w.2.2.2]
abbrev wD_K:Wat:=(0,[],[],0)
theorem Z1z(l:List Wat)(i:Nat):Value.gI (((l.map Z7).getD i []).getD 0 undef)=(l.getD i wD_K).1:=by simp only[qy1,List.getElem?_map];cases l[i]?<;>rfl
theorem Z20(l:List Wat)(i:Nat):Value.gS (((l.map Z7).getD i []).getD 1 undef)=(l.getD i wD_K).2.1:=by simp only[qy1,List.getElem?_map];cases l[i]?<;>simp[Z7,Value.gS,undef]
theorem Z1b(l:List Wat)(i:Nat):Value.gS (((l.map Z7).getD i []).getD 2 undef)=(l.getD i wD_K).2.2.1:=by simp only[qy1,List.getElem?_map];cases l[i]?<;>simp[Z7,Value.gS,undef]
theorem gW3(l:List Wat)(i:Nat):Value.gI (((l.map Z7).getD i []).getD 3 undef)=(l.getD i wD_K).2.2.2:=by simp only[qy1,List.getElem?_map];cases l[i]?<;>rfl
abbrev kW_K:List Kd:=[.int .i64,.str,.str,.int .i64]
abbrev Z1u(w:World)(v:Value)(l:List Wat):Prop:=reads w v kW_K (l.map Z7)
def Z109(n:Nat)(v:Value)(l:List Wat):Prop:=∀k,(l.map Z7).flatten≠[]/\Z2 v k->n<=k
theorem Zpz(n:Nat)(v:Value):Z109 n v []:=λk hk=>absurd rfl hk.1
theorem Zju(w:World):Z1u w (.slice none 0 0) []:=⟨by simp,none,0,rfl,⟨λ_=>rfl,Nat.le_refl _⟩,λh=>absurd rfl h⟩
theorem Zhy(l:List Wat)(i:Nat)(h:i<l.length):l.drop i=l.getD i wD_K::l.drop (i+1):=by rw[List.drop_eq_getElem_cons h,qy1,qy7 h];rfl
theorem Z97(l:List Wat)(i:Nat)(h:i<l.length):l.take (i+1)=l.take i++[l.getD i wD_K]:=by rw[List.take_add_one,qy1,qy7 h];rfl
theorem Znz(l:List Wat){k i:Nat}(h:k<i):(l.take i).getD k wD_K=l.getD k wD_K:=by simp only[qy1,List.getElem?_take,if_pos h]
def Z3d(p:Int)(t n:List UInt8):Int:=if 0<=p/\p<=9 then(if 8<(t.length:Int)then 2 else chkT n false)else 3
def Z60(p:Int)(t:List UInt8)(w:Wat):Bool:=decide (w.1=p/\w.2.1=t)
def chkL:List Wat->List Wat->Int
 | _,[]=>0
 | prev,w::l=>if Z3d w.1 w.2.1 w.2.2.1≠0 then Z3d w.1 w.2.1 w.2.2.1 else if 0<=w.2.2.2/\w.2.2.2<=16777215 then(if prev.any (Z60 w.1 w.2.1)=true then 6 else chkL (prev++[w]) l)else 3
def Zy(l:List Wat):Int:=if 12<(l.length:Int)then 2 else chkL [] l
theorem Z11z(w:World)(x:Wat)(hn:x.2.2.1.length<4294967281):Calls Tryz.prog 120 #[.agg #[.int .i64 x.1,.string ⟨x.2.1.toArray⟩,.string ⟨x.2.2.1.toArray⟩,.int .i64 x.2.2.2]] w λe w'=>e=.returned (.int .i64 (Z3d x.1 x.2.1 x.2.2.1))/\Mod [] w w':=by refine Z1 (Z8 (J:=[.i x.1,.s x.2.1,.s x.2.2.1,.i x.2.2.2]) sxE_ok Tryz.func120 Zfk rfl rfl rfl ?_) rfl;simp only[Tree.goal,X.P,X.ev,SV.ev,CV.ev,Sc.ev,qz,QA,QB,QC,QD,QE,QF,QG,QH,QI,QJ,QK,QL,QM,Nat.reduceAdd];intro b;refine⟨λh w' hr=>⟨by rw[Z3d,if_neg h],hr.mod⟩,λh=>⟨λh1 w' hr=>⟨by rw[Z3d,if_pos (qy9.1 h),if_pos h1],hr.mod⟩,λh1=>?_⟩⟩;refine⟨[.i (chkT x.2.2.1 false)],rfl,λ_ w' _=>Zjt w' _ hn,?_⟩;simp only[Tree.goal,X.P,X.ev,SV.ev,CV.ev,Sc.ev,qz,QA,QB,QC,QD,QE,QF,QG,QH,QI,QJ,QK,QL,QM,Nat.reduceAdd];exact λw' hr=>⟨by rw[Z3d,if_pos (qy9.1 h),if_neg h1],hr.mod⟩
theorem Zjv(w:World)(p:Int)(t n:List UInt8)(hn:n.length<4294967281):Calls Tryz.prog 102 #[.int .i64 p,.string ⟨t.toArray⟩,.string ⟨n.toArray⟩] w λe w'=>e=.returned (.int .i64 (Z3d p t n))/\Mod [] w w':=by refine Z1 (Z8 (J:=[.i p,.s t,.s n]) sxE_ok Tryz.func102 Z4l rfl rfl rfl ?_) rfl;simp only[Tree.goal,X.P,X.ev,SV.ev,CV.ev,Sc.ev,qz,QA,QB,QC,QD,QE,QF,QG,QH,QI,QJ,QK,QL,QM,Nat.reduceAdd];refine⟨λh w' hr=>⟨by rw[Z3d,if_neg h],hr.mod⟩,λh=>⟨λh1 w' hr=>⟨by rw[Z3d,if_pos (qy9.1 h),if_pos h1],hr.mod⟩,λh1=>?_⟩⟩;refine⟨[.i (chkT n false)],rfl,λ_ w' _=>Z3c w' n false hn,?_⟩;simp only[Tree.goal,X.P,X.ev,SV.ev,CV.ev,Sc.ev,qz,QA,QB,QC,QD,QE,QF,QG,QH,QI,QJ,QK,QL,QM,Nat.reduceAdd];exact λw' hr=>⟨by rw[Z3d,if_pos (qy9.1 h),if_neg h1],hr.mod⟩
def Z6r(l:List Wat):Prop:=∀x∈l,x.2.2.1.length<4294967281
theorem Zei{l:List Wat}(h:Z6r l)(i:Nat):(l.getD i wD_K).2.2.1.length<4294967281:=by
 by_cases hi:i<l.length
 ·rw[qy1,qy7 hi];exact h _ (List.getElem_mem hi)
 ·rw[qy1,List.getElem?_eq_none (by omega)];decide
theorem Zhz(p:Wat->Bool)(l:List Wat)(k:Nat)(h:k<l.length):(l.take (k+1)).any p=((l.take k).any p || p (l.getD k wD_K)):=by rw[Z97 l k h,List.any_append];simp
theorem Zo0{p:Wat->Bool}{l:List Wat}{k i:Nat}(hk:k<i)(hi:i<=l.length)(h:p (l.getD k wD_K)=true):(l.take i).any p=true:=by rw[List.any_eq_true];refine⟨l.getD k wD_K,?_,h⟩;rw[<- Znz l hk,qy1,qy7 (by simp;omega)];exact List.getElem_mem _
theorem Z5l(w:World)(v:Value)(l:List Wat)(hv:Z1u w v l)(hs:Z6r l)(hl:l.length<1099511627776):Calls Tryz.prog 29 #[sc1 v] w λe w'=>e=.returned (.int .i64 (Zy l))/\Mod [] w w':=by
 refine Z1 (Z3 (J:=[.v v,.r (l.map Z7)]) sxE_ok Tryz.func29 Z3k rfl rfl (Rel.start2 (by simp[Ent.holds,Ent.wr,hv,X.ev])) rfl rfl ?_) rfl;simp only[Tree.goal,X.P,X.ev,SV.ev,CV.ev,Sc.ev,qz,QA,QB,QC,QD,QE,QF,QG,QH,QI,QJ,QK,QL,QM,Nat.reduceAdd,qy3];refine⟨λh w' hr=>⟨by rw[Zy,if_pos h],hr.mod⟩,λh=>?_⟩;rw[Zy,if_neg h];refine⟨λvs=>∃(i:Nat) (x:V),vs=[x,.i i]/\i<=l.length/\chkL (l.take i) (l.drop i)=chkL [] l,λvs=>l.length - (vs.getD 1 (.i 0)).toI.toNat,⟨0,_,rfl,by omega,rfl⟩,?_⟩;rintro _ - ⟨i,x,rfl,hi,hg⟩;simp only[Tree.goal,X.P,X.ev,SV.ev,CV.ev,Sc.ev,qz,QA,QB,QC,QD,QE,QF,QG,QH,QI,QJ,QK,QL,QM,Nat.reduceAdd,qy3,qy4,Z1z,Z20,Z1b,gW3];refine⟨λh1=>?_,λh1 w' hr=>⟨?_,hr.mod⟩⟩
 ·have hsm:=Zei hs i;rw[Zhy l i (by omega)]at hg;simp only[chkL]at hg;refine⟨by omega,[.i (Z3d (l.getD i wD_K).1 (l.getD i wD_K).2.1 (l.getD i wD_K).2.2.1)],rfl,λ_ w' _=>Zjv w' _ _ _ hsm,?_⟩;simp only[Tree.goal,X.P,X.ev,SV.ev,CV.ev,Sc.ev,qz,QA,QB,QC,QD,QE,QF,QG,QH,QI,QJ,QK,QL,QM,Nat.reduceAdd,qy3,qy4,Z1z,Z20,Z1b,gW3];refine⟨λh2 w' hr=>⟨by rw[<- hg,if_pos h2],hr.mod⟩,λh2=>?_⟩;rw[if_neg h2]at hg;refine⟨λh3 w' hr=>⟨by rw[<- hg,if_neg h3],hr.mod⟩,λh3=>?_⟩;rw[if_pos (qy9.1 h3)]at hg;refine⟨λvs=>∃(k:Nat) (y:V),vs=[y,.i k]/\k<=i/\(l.take k).any (Z60 (l.getD i wD_K).1 (l.getD i wD_K).2.1)=false,λvs=>i - (vs.getD 1 (.i 0)).toI.toNat,⟨0,_,rfl,by omega,by simp⟩,?_⟩;rintro _ - ⟨k,y,rfl,hk,hno⟩;simp only[Tree.goal,X.P,X.ev,SV.ev,CV.ev,Sc.ev,qz,QA,QB,QC,QD,QE,QF,QG,QH,QI,QJ,QK,QL,QM,Nat.reduceAdd,qy3,qy4,Z1z,Z20,Z1b,gW3];refine⟨λh4=>⟨by omega,by omega,λh5 w' hr=>⟨?_,hr.mod⟩,λh5=>?_⟩,λh4=>?_⟩
  ·rw[<- hg,if_pos (Zo0 (k:=k) (by omega) (by omega) (by simp only[Z60,decide_eq_true_eq];exact h5))]
  ·refine⟨by omega,by omega,⟨k+1,y,rfl,by omega,?_⟩,by omega⟩;rw[Zhz _ l k (by omega),hno,Bool.false_or];simp only[Z60,decide_eq_false_iff_not];exact h5
  ·have:k=i:=by omega
   subst this;rw[if_neg (by rw[hno];decide),<- Z97 l k (by omega)]at hg;exact⟨by omega,by omega,⟨k+1,_,rfl,by omega,hg⟩,by omega⟩
 ·have:i=l.length:=by omega
  subst this;rw[List.drop_length]at hg;rw[<- hg];rfl
theorem Zq0(w:World)(v:Value)(l:List Wat)(hv:Z1u w v l)(hs:Z6r l)(hl:l.length<1099511627776):Calls Tryz.prog 59 #[sc1 v] w λe w'=>e=.returned (.int .i64 (Zy l))/\Mod [] w w':=by
 refine Z1 (Z3 (J:=[.v v,.r (l.map Z7)]) sxE_ok Tryz.func59 Zcj rfl rfl (Rel.start2 (by simp[Ent.holds,Ent.wr,hv,X.ev])) rfl rfl ?_) rfl;simp only[Tree.goal,X.P,X.ev,SV.ev,CV.ev,Sc.ev,qz,QA,QB,QC,QD,QE,QF,QG,QH,QI,QJ,QK,QL,QM,Nat.reduceAdd,qy3];refine⟨λh w' hr=>⟨by rw[Zy,if_pos h],hr.mod⟩,λh=>?_⟩;rw[Zy,if_neg h];refine⟨λvs=>∃(i:Nat) (x:V),vs=[x,.i i]/\i<=l.length/\chkL (l.take i) (l.drop i)=chkL [] l,λvs=>l.length - (vs.getD 1 (.i 0)).toI.toNat,⟨0,_,rfl,by omega,rfl⟩,?_⟩;rintro _ - ⟨i,x,rfl,hi,hg⟩;simp only[Tree.goal,X.P,X.ev,SV.ev,CV.ev,Sc.ev,qz,QA,QB,QC,QD,QE,QF,QG,QH,QI,QJ,QK,QL,QM,Nat.reduceAdd,qy3,qy4,Z1z,Z20,Z1b,gW3];refine⟨λh1=>?_,λh1 w' hr=>⟨?_,hr.mod⟩⟩
 ·have hsm:=Zei hs i;rw[Zhy l i (by omega)]at hg;simp only[chkL]at hg;refine⟨by omega,λb1=>⟨[.i (Z3d (l.getD i wD_K).1 (l.getD i wD_K).2.1 (l.getD i wD_K).2.2.1)],rfl,λ_ w' _=>Z11z w' (l.getD i wD_K) hsm,?_⟩⟩;simp only[Tree.goal,X.P,X.ev,SV.ev,CV.ev,Sc.ev,qz,QA,QB,QC,QD,QE,QF,QG,QH,QI,QJ,QK,QL,QM,Nat.reduceAdd,qy3,qy4,Z1z,Z20,Z1b,gW3];refine⟨λh2 w' hr=>⟨by rw[<- hg,if_pos h2],hr.mod⟩,λh2=>?_⟩;rw[if_neg h2]at hg;refine⟨λh3 w' hr=>⟨by rw[<- hg,if_neg h3],hr.mod⟩,λh3=>?_⟩;rw[if_pos (qy9.1 h3)]at hg;refine⟨by omega,λv1=>?_⟩;refine⟨λvs=>∃(k:Nat) (y:V),vs=[y,.i k,.i (l.getD i wD_K).1,.s (l.getD i wD_K).2.1,.s (l.getD i wD_K).2.2.1,.i (l.getD i wD_K).2.2.2]/\k<=i/\(l.take k).any (Z60 (l.getD i wD_K).1 (l.getD i wD_K).2.1)=false,λvs=>i - (vs.getD 1 (.i 0)).toI.toNat,⟨0,_,rfl,by omega,by simp⟩,?_⟩;rintro _ - ⟨k,y,rfl,hk,hno⟩;simp only[Tree.goal,X.P,X.ev,SV.ev,CV.ev,Sc.ev,qz,QA,QB,QC,QD,QE,QF,QG,QH,QI,QJ,QK,QL,QM,Nat.reduceAdd,Int.toNat_zero,List.drop_zero,qy4,<- List.map_take,qy3,qy4,Z1z,Z20,Z1b,gW3,List.length_take];refine⟨λh4=>⟨by omega,λb2 b3=>?_⟩,λh4=>?_⟩
  ·have hki:k<i:=by omega
   rw[Znz l hki];refine⟨λh5 w' hr=>⟨?_,hr.mod⟩,λh5=>?_⟩
   ·rw[<- hg,if_pos (Zo0 (k:=k) (by omega) (by omega) (by simp only[Z60,decide_eq_true_eq];exact h5))]
   ·refine⟨by omega,by omega,⟨k+1,y,rfl,by omega,?_⟩,by omega⟩;rw[Zhz _ l k (by omega),hno,Bool.false_or];simp only[Z60,decide_eq_false_iff_not];exact h5
  ·have:k=i:=by omega
   subst this;rw[if_neg (by rw[hno];decide),<- Z97 l k (by omega)]at hg;refine⟨λh5=>absurd h5 (by decide),λ_=>⟨by omega,by omega,⟨k+1,_,rfl,by omega,hg⟩,by omega⟩⟩
 ·have:i=l.length:=by omega
  subst this;rw[List.drop_length]at hg;rw[<- hg];rfl
theorem Zi0(w:World)(u v:Value)(a b:List Wat)(hu:Z1u w u a)(hv:Z1u w v b)(hl:a.length<1099511627776):Calls Tryz.prog 133 #[sc1 u,sc1 v] w λe w'=>e=.returned (.bool (decide (a=b)))/\Mod [] w w':=by
 refine Z1 (Z3 (J:=[.v u,.r (a.map Z7),.v v,.r (b.map Z7)]) sxE_ok Tryz.func133 Z3s rfl rfl (Rel.start2 (by simp[Ent.holds,Ent.wr,hu,hv,X.ev])) rfl rfl ?_) rfl;simp only[Tree.goal,X.P,X.ev,SV.ev,CV.ev,Sc.ev,qz,QA,QB,QC,QD,QE,QF,QG,QH,QI,QJ,QK,QL,QM,Nat.reduceAdd,qy3];refine⟨λh w' hr=>⟨?_,hr.mod⟩,λh=>?_⟩
 ·rw[decide_eq_false];intro e;rw[e]at h;exact h rfl
 ·have hlen:a.length=b.length:=by omega
  refine⟨λvs=>∃(i:Nat) (x:V),vs=[x,.i i]/\i<=a.length/\∀j,j<i->a.getD j wD_K=b.getD j wD_K,λvs=>a.length - (vs.getD 1 (.i 0)).toI.toNat,⟨0,_,rfl,by omega,λj hj=>by omega⟩,?_⟩;rintro _ - ⟨i,x,rfl,hi,hall⟩;simp only[Tree.goal,X.P,X.ev,SV.ev,CV.ev,Sc.ev,qz,QA,QB,QC,QD,QE,QF,QG,QH,QI,QJ,QK,QL,QM,Nat.reduceAdd,qy3,qy4,Z1z,Z20,Z1b,gW3];refine⟨λh7=>⟨by omega,by omega,λh8 w' hr=>⟨?_,hr.mod⟩,λh8=>⟨by omega,by omega,⟨i+1,x,rfl,by omega,λj hj=>?_⟩,by omega⟩⟩,λh7 w' hr=>⟨?_,hr.mod⟩⟩
  ·rw[decide_eq_false];intro e;rw[e]at h8;exact h8 ⟨rfl,rfl,rfl,rfl⟩
  ·by_cases hji:j=i
   ·subst hji;have h9:=qy9.1 h8;exact Prod.ext h9.1 (Prod.ext h9.2.1 (Prod.ext h9.2.2.1 h9.2.2.2))
   ·exact hall j (by omega)
  ·rw[decide_eq_true];refine List.ext_getElem? λj=>?_;by_cases hj:j<a.length
   ·have:=hall j (by omega);rw[qy1,qy1,qy7 hj,qy7 (by omega)]at this;rw[qy7 hj,qy7 (by omega)];simpa using this
   ·rw[List.getElem?_eq_none (by omega),List.getElem?_eq_none (by omega)]
abbrev Z7u(w:World)(v:Value)(l:List Wat):Prop:=owns w v 74 kW_K (l.map Z7)
def Za4(n:Nat)(v:Value):Prop:=∀k,Z2 v k->n<=k
def filt(p:Int)(t:List UInt8)(l:List Wat):List Wat:=l.filter λw=>!Z60 p t w
theorem Zej(p:Int)(t:List UInt8)(l:List Wat)(i:Nat)(h:i<l.length):filt p t (l.take (i+1))=filt p t (l.take i)++(if Z60 p t (l.getD i wD_K)=true then[]else[l.getD i wD_K]):=by
 rw[Z97 l i h,filt,List.filter_append];congr 1
 cases h2:Z60 p t (l.getD i wD_K)
 ·rw[List.filter_cons,h2];rfl
 ·rw[List.filter_cons,h2];rfl
theorem Zi1(p:Int)(t:List UInt8)(l:List Wat):(filt p t l).length<=l.length:=List.length_filter_le ..
theorem Z24(l:List Wat)(x:Wat):l.map Z7++[[Value.int .i64 x.1,.string ⟨x.2.1.toArray⟩,.string ⟨x.2.2.1.toArray⟩,.int .i64 x.2.2.2]]=(l++[x]).map Z7:=by simp[Z7]
theorem Zgg(w:World)(v:Value)(l:List Wat)(p:Int)(t:List UInt8)(hv:Z1u w v l)(hl:l.length<1000000000):Calls Tryz.prog 80 #[sc1 v,.int .i64 p,.string ⟨t.toArray⟩] w λe w'=>∃v',e=.returned (sc1 v')/\Z7u w' v' (filt p t l)/\Za4 w.heap.size v'/\Mod [] w w':=by
 refine Z1 (Z3 (J:=[.v v,.r (l.map Z7),.i p,.s t]) sxE_ok Tryz.func80 Z5f rfl rfl (Rel.start2 (by simp[Ent.holds,Ent.wr,hv,X.ev])) rfl rfl ?_) rfl;simp only[Tree.goal,X.P,X.ev,SV.ev,CV.ev,Sc.ev,qz,QA,QB,QC,QD,QE,QF,QG,QH,QI,QJ,QK,QL,QM,Nat.reduceAdd];refine⟨λvs=>∃(i:Nat) (u:Value),vs=[.v u,.r ((filt p t (l.take i)).map Z7),.i i]/\i<=l.length,λvs=>l.length - (vs.getD 2 (.i 0)).toI.toNat,⟨0,_,rfl,by omega⟩,?_⟩;rintro _ - ⟨i,u,rfl,hi⟩;simp only[Tree.goal,X.P,X.ev,SV.ev,CV.ev,Sc.ev,qz,QA,QB,QC,QD,QE,QF,QG,QH,QI,QJ,QK,QL,QM,Nat.reduceAdd,qy3,qy4,Z1z,Z20,Z1b,gW3];have hfl:=Zi1 p t (l.take i);rw[List.length_take]at hfl;refine⟨λh1=>?_,λh1 w' hr=>?_⟩
 ·have hf:=Zej p t l i (by omega);refine⟨by omega,λh2=>?_,λh2=>?_⟩
  ·rw[if_neg (by simp only[Z60,decide_eq_true_eq];intro h;rcases h2 with h2|h2;exact h2 h.1;exact h2 h.2)]at hf;intro v1;refine⟨by omega,λv2=>⟨by omega,by omega,⟨i+1,v2,?_,by omega⟩,by omega⟩⟩;rw[hf,Z24];rfl
  ·rw[if_pos (by simp only[Z60,decide_eq_true_eq];exact⟨Classical.byContradiction λh=>h2 (.inl h),Classical.byContradiction λh=>h2 (.inr h)⟩),List.append_nil]at hf;exact⟨by omega,by omega,⟨i+1,u,by rw[hf];rfl,by omega⟩,by omega⟩
 ·have:i=l.length:=by omega
  subst this;rw[List.take_length]at hr;refine⟨u,rfl,hr.at_ 0 rfl,λk hk=>?_,hr.mod⟩;rcases hr.own _ (qy8 ..) rfl k hk with h|h
  ·exact h
  ·simp at h
def Z3x(n:List UInt8)(w:Wat):Wat:=if w.2.2.1=n then(w.1,w.2.1,w.2.2.1,if 16777215<w.2.2.2+1 then 0 else w.2.2.2+1)else w
def Z28(n:List UInt8)(l:List Wat):List Wat:=l.map (Z3x n)
def Z2k(n:List UInt8)(l:List Wat):List Wat:=(l.filter λw=>decide (w.2.2.1=n)).map (Z3x n)
def okN(l:List Wat):Prop:=∀x∈l,0<=x.2.2.2/\x.2.2.2<=16777215
theorem Z10a{l:List Wat}(h:okN l)(i:Nat):0<=(l.getD i wD_K).2.2.2/\(l.getD i wD_K).2.2.2<=16777215:=by
 by_cases hi:i<l.length
 ·rw[qy1,qy7 hi];exact h _ (List.getElem_mem hi)
 ·rw[qy1,List.getElem?_eq_none (by omega)];decide
theorem Zek(n:List UInt8)(l:List Wat)(i:Nat)(h:i<l.length):Z28 n (l.take (i+1))=Z28 n (l.take i)++[Z3x n (l.getD i wD_K)]:=by rw[Z97 l i h];simp[Z28]
theorem Zgh(n:List UInt8)(l:List Wat)(i:Nat)(h:i<l.length):Z2k n (l.take (i+1))=Z2k n (l.take i)++(if(l.getD i wD_K).2.2.1=n then[Z3x n (l.getD i wD_K)]else[]):=by
 rw[Z97 l i h,Z2k,List.filter_append,List.map_append];congr 1
 by_cases hc:(l.getD i wD_K).2.2.1=n
 ·rw[List.filter_cons,if_pos (by simpa using hc),if_pos hc];rfl
 ·rw[List.filter_cons,if_neg (by simpa using hc),if_neg hc];rfl
theorem Zel(n:List UInt8)(l:List Wat):(Z2k n l).length<=l.length:=by rw[Z2k,qy3];exact List.length_filter_le ..
theorem Zxm(w:World)(v:Value)(l:List Wat)(n:List UInt8)(hv:Z1u w v l)(hl:l.length<1000000000)(hok:okN l):Calls Tryz.prog 108 #[sc1 v,.string ⟨n.toArray⟩] w λe w'=>∃v1 v2,e=.returned (.tuple #[sc1 v1,sc1 v2])/\Z7u w' v1 (Z28 n l)/\Z7u w' v2 (Z2k n l)/\Za4 w.heap.size v1/\Za4 w.heap.size v2/\Mod [] w w':=by
 refine Z1 (Z3 (J:=[.v v,.r (l.map Z7),.s n]) sxE_ok Tryz.func108 Z6l rfl rfl (Rel.start2 (by simp[Ent.holds,Ent.wr,hv,X.ev])) rfl rfl ?_) rfl;simp only[Tree.goal,X.P,X.ev,SV.ev,CV.ev,Sc.ev,qz,QA,QB,QC,QD,QE,QF,QG,QH,QI,QJ,QK,QL,QM,Nat.reduceAdd];refine⟨λvs=>∃(i:Nat) (u1 u2:Value),vs=[.v u1,.r ((Z28 n (l.take i)).map Z7),.v u2,.r ((Z2k n (l.take i)).map Z7),.i i]/\i<=l.length,λvs=>l.length - (vs.getD 4 (.i 0)).toI.toNat,⟨0,_,_,rfl,by omega⟩,?_⟩;rintro _ - ⟨i,u1,u2,rfl,hi⟩;simp only[Tree.goal,X.P,X.ev,SV.ev,CV.ev,Sc.ev,qz,QA,QB,QC,QD,QE,QF,QG,QH,QI,QJ,QK,QL,QM,Nat.reduceAdd,qy3,qy4,Z1z,Z20,Z1b,gW3];have hfl:=Zel n (l.take i);have htl:(Z28 n (l.take i)).length=min i l.length:=by simp[Z28]
 rw[List.length_take]at hfl;refine⟨λh1=>?_,λh1 w' hr=>?_⟩
 ·have hf1:=Zek n l i (by omega);have hf2:=Zgh n l i (by omega);have hok1:=Z10a hok i;refine⟨by omega,λb=>⟨λh2=>?_,λh2=>?_⟩⟩
  ·rw[if_pos h2]at hf2;refine⟨by omega,by omega,λh3=>?_,λh3=>?_⟩
   ·have ht:Z3x n (l.getD i wD_K)=((l.getD i wD_K).1,(l.getD i wD_K).2.1,(l.getD i wD_K).2.2.1,0):=by rw[Z3x,if_pos h2,if_pos h3]
    intro v1;refine⟨by omega,λv2 v3=>⟨by omega,λv4=>⟨by omega,by omega,⟨i+1,v4,v2,?_,by omega⟩,by omega⟩⟩⟩;rw[hf1,hf2,ht,<- Z24,<- Z24];rfl
   ·have ht:Z3x n (l.getD i wD_K)=((l.getD i wD_K).1,(l.getD i wD_K).2.1,(l.getD i wD_K).2.2.1,(l.getD i wD_K).2.2.2+1):=by rw[Z3x,if_pos h2,if_neg h3]
    intro v1;refine⟨by omega,λv2 v3=>⟨by omega,λv4=>⟨by omega,by omega,⟨i+1,v4,v2,?_,by omega⟩,by omega⟩⟩⟩;rw[hf1,hf2,ht,<- Z24,<- Z24];rfl
  ·rw[if_neg h2,List.append_nil]at hf2;have ht:Z3x n (l.getD i wD_K)=l.getD i wD_K:=by rw[Z3x,if_neg h2]
   intro v1;refine⟨by omega,λv2=>⟨by omega,by omega,⟨i+1,v2,u2,?_,by omega⟩,by omega⟩⟩;rw[hf1,hf2,ht,<- Z24];rfl
 ·have:i=l.length:=by omega
  subst this;rw[List.take_length]at hr;refine⟨u1,u2,rfl,hr.at_ 1 rfl,hr.at_ 0 rfl,?_,?_,hr.mod⟩
  ·intro k hk;rcases hr.own _ (qy10 _ (qy8 ..)) rfl k hk with h|h
   ·exact h
   ·simp at h
  ·intro k hk;rcases hr.own _ (qy8 ..) rfl k hk with h|h
   ·exact h
   ·simp at h
theorem Zq1{v:Value}(hn:(match v with | .slice none _ _=>true|_=>false)=true){w:World}{ks:List Kd}{rows:List (List Value)}(h:reads w v ks rows):rows=[]:=by obtain⟨_,a,cap,rfl,_,h2⟩:=h;refine Classical.byContradiction λhne=>?_;obtain⟨ad,rfl,_⟩:=h2 hne;simp at hn
theorem Z48(w:World)(v:Value)(l:List Wat)(hv:Z1u w v l)(hl:l.length<1000000000):Calls Tryz.prog 150 #[sc1 v] w λe w'=>∃v',e=.returned (sc1 v')/\Z7u w' v' l/\Za4 w.heap.size v'/\Mod [] w w':=by
 refine Z1 (Z3 (J:=[.v v,.r (l.map Z7)]) sxE_ok Tryz.func150 Z2g rfl rfl (Rel.start2 (by simp[Ent.holds,Ent.wr,hv,X.ev])) rfl rfl ?_) rfl;simp only[Tree.goal,X.P,X.ev,SV.ev,CV.ev,Sc.ev,qz,QA,QB,QC,QD,QE,QF,QG,QH,QI,QJ,QK,QL,QM,Nat.reduceAdd,qy3,List.nil_append];refine⟨λh w' hr=>?_,λh v1=>⟨by simp only[Int.natCast_zero];omega,λv2 w' hr=>?_⟩⟩
 ·have hn:l=[]:=List.map_eq_nil_iff.1 (Zq1 h hv);subst hn;refine⟨_,rfl,hr.at_ 0 rfl,λk hk=>?_,hr.mod⟩;rcases hr.own _ (qy8 ..) rfl k hk with h|h
  ·exact h
  ·simp at h
 ·refine⟨v2,rfl,hr.at_ 0 rfl,λk hk=>?_,hr.mod⟩;rcases hr.own _ (qy8 ..) rfl k hk with h|h
  ·exact h
  ·simp at h
theorem Zo1{p:Int}{t:List UInt8}{l:List Wat}(h:l.any (Z60 p t)=false):filt p t l=l:=by rw[filt,List.filter_eq_self];intro x hx;rw[List.any_eq_false]at h;have:=h x hx;simpa using this
theorem Zjw{R l:List Wat}{j:Nat}(h:R.drop j=l.drop j):R.getD j wD_K=l.getD j wD_K:=by
 have e:∀q:List Wat,q.getD j wD_K=(q.drop j).getD 0 wD_K:=λq=>by simp[qy1]
 rw[e R,e l,h]
theorem Zsy(R:List Wat)(m:Nat)(x:Wat):(R.map Z7).set m [Value.int .i64 x.1,.string ⟨x.2.1.toArray⟩,.string ⟨x.2.2.1.toArray⟩,.int .i64 x.2.2.2]=(R.set m x).map Z7:=by rw[List.map_set];rfl
theorem Zxn{R:List Wat}{m:Nat}{x:Wat}(h:m<R.length):(R.set m x).take (m+1)=R.take m++[x]:=by
 rw[List.take_set,Z97 R m h,List.set_append_right _ _ (by simp;omega)];have:m - (R.take m).length=0:=by simp;omega
 rw[this];rfl
theorem Zxo{R:List Wat}{m j:Nat}{x:Wat}(h:m<j):(R.set m x).drop j=R.drop j:=by rw[List.drop_set,if_pos h]
theorem Za5(w:World)(v:Value)(l:List Wat)(p:Int)(t:List UInt8)(hv:Z1u w v l)(hl:l.length<1000000000):Calls Tryz.prog 179 #[sc1 v,.int .i64 p,.string ⟨t.toArray⟩] w λe w'=>∃v',e=.returned (sc1 v')/\Z7u w' v' (filt p t l)/\Za4 w.heap.size v'/\Mod [] w w':=by
 refine Z1 (Z3 (J:=[.v v,.r (l.map Z7),.i p,.s t]) sxE_ok Tryz.func179 Z9y rfl rfl (Rel.start2 (by simp[Ent.holds,Ent.wr,hv,X.ev])) rfl rfl ?_) rfl;simp only[Tree.goal,X.P,X.ev,SV.ev,CV.ev,Sc.ev,qz,QA,QB,QC,QD,QE,QF,QG,QH,QI,QJ,QK,QL,QM,Nat.reduceAdd];intro b1 b2 w1 hr;refine(Z48 w1 v l (hr.at_ 3 rfl) hl).mono ?_;rintro e w2 ⟨u,rfl,o1,f1,m1⟩;refine⟨[.v u,.r (l.map Z7)],rfl,rfl,m1,qy5 _,qy2.2 ⟨⟨o1,λk hk=>.inl (f1 k hk)⟩,qy5 _⟩,Z5,?_⟩;simp only[Tree.goal,X.P,X.ev,SV.ev,CV.ev,Sc.ev,qz,QA,QB,QC,QD,QE,QF,QG,QH,QI,QJ,QK,QL,QM,Nat.reduceAdd];refine⟨λvs=>∃(i:Nat) (x:V),vs=[x,.i i,.s t,.i p]/\i<=l.length/\(l.take i).any (Z60 p t)=false,λvs=>l.length - (vs.getD 1 (.i 0)).toI.toNat,⟨0,_,rfl,by omega,by simp⟩,?_⟩;rintro _ - ⟨i,x,rfl,hi,hno⟩;simp only[Tree.goal,X.P,X.ev,SV.ev,CV.ev,Sc.ev,qz,QA,QB,QC,QD,QE,QF,QG,QH,QI,QJ,QK,QL,QM,Nat.reduceAdd,qy3,qy4,Z1z,Z20,Z1b,gW3];refine⟨λh1=>⟨by omega,λb3 b4=>⟨λh2=>⟨λh3=>absurd h3 (by omega),λh3=>⟨by omega,by omega,?_⟩⟩,λh2=>?_⟩⟩,λh1 w' hr=>?_⟩
 ·refine⟨λvs=>∃(m j:Nat) (R:List Wat),vs=[.i m,.i j,.r (R.map Z7),.s t,.i p]/\R.length=l.length/\m<j/\j<=l.length/\R.take m=filt p t (l.take j)/\R.drop j=l.drop j,λvs=>l.length - (vs.getD 1 (.i 0)).toI.toNat,⟨i,i+1,l,rfl,rfl,by omega,by omega,?_,rfl⟩,?_⟩
  ·have hsn:=Zej p t l i (by omega);rw[if_pos (by simp only[Z60,decide_eq_true_eq];exact h2),List.append_nil,Zo1 hno]at hsn;exact hsn.symm
  ·rintro _ - ⟨m,j,R,rfl,hRl,hmj,hj,htk,hdr⟩;simp only[Tree.goal,X.P,X.ev,SV.ev,CV.ev,Sc.ev,qz,QA,QB,QC,QD,QE,QF,QG,QH,QI,QJ,QK,QL,QM,Nat.reduceAdd,qy3,qy4,Z1z,Z20,Z1b,gW3];refine⟨λh4=>⟨by omega,λb5 b6 b7=>?_⟩,λh4=>?_⟩
   ·have hsn:=Zej p t l j (by omega);have hRj:=Zjw hdr;have hdr1:R.drop (j+1)=l.drop (j+1):=by rw[<- List.drop_drop,<- List.drop_drop,hdr]
    rw[hRj];refine⟨λh5=>?_,λh5=>?_⟩
    ·rw[if_neg (by simp only[Z60,decide_eq_true_eq];exact h5)]at hsn;refine⟨by omega,by omega,by omega,by omega,by omega,by omega,⟨m+1,j+1,R.set m (l.getD j wD_K),?_,by simpa using hRl,by omega,by omega,?_,?_⟩,by omega⟩
     ·rw[Zsy];rfl
     ·rw[Zxn (by omega),htk,hsn]
     ·rw[Zxo (by omega),hdr1]
    ·rw[if_pos (by simp only[Z60,decide_eq_true_eq];exact qy9.1 h5),List.append_nil]at hsn;exact⟨by omega,by omega,⟨m,j+1,R,rfl,hRl,by omega,by omega,by rw[htk,hsn],hdr1⟩,by omega⟩
   ·have:j=l.length:=by omega
    subst this;rw[List.take_length]at htk;refine⟨by omega,by omega,?_,λv9 w' hr=>?_⟩
    ·simp only[qy11,List.length_take,qy3,List.length_replicate];omega
    ·have h0:=hr.at_ 0 rfl;simp only[Ent.holds,Tree.goal,X.P,X.ev,SV.ev,CV.ev,Sc.ev,qz,QA,QB,QC,QD,QE,QF,QG,QH,QI,QJ,QK,QL,QM,Nat.reduceAdd,qy3,qy4,Z1z,Z20,Z1b,gW3]at h0;have e1:(List.take m (List.take m (R.map Z7)++List.replicate (R.length - m) [Value.int .i64 0,.string ⟨[].toArray⟩,.string ⟨[].toArray⟩,.int .i64 0]))=(filt p t l).map Z7:=by
      rw[List.take_append_of_le_length (by simp;omega),List.take_take,Nat.min_self,<- List.map_take,htk]
     rw[e1]at h0;refine⟨v9,rfl,h0,λk hk=>?_,hr.mod⟩;rcases hr.own _ (qy8 ..) rfl k hk with h|h
     ·exact h
     ·simp at h
 ·refine⟨by omega,by omega,⟨i+1,x,rfl,by omega,?_⟩,by omega⟩;rw[Zhz _ l i (by omega),hno,Bool.false_or];simp only[Z60,decide_eq_false_iff_not];exact h2
 ·have:i=l.length:=by omega
  subst this;rw[List.take_length]at hno;rw[Zo1 hno];refine⟨u,rfl,hr.at_ 1 rfl,λk hk=>?_,hr.mod⟩;rcases hr.own _ (qy10 _ (qy8 ..)) rfl k hk with h|h
  ·exact h
  ·simp at h
def Z10b(w w':World)(e:Ending)(r:List Wat×Int):Prop:=∃v,e=.returned (.tuple #[sc1 v,.int .i64 r.2])/\Z1u w' v r.1/\Z109 w.heap.size v r.1/\Mod [] w w'
theorem Zxp{w w':World}(n:Int)(h:Mod [] w w'):Z10b w w' (.returned (.tuple #[.slice none 0 0,.int .i64 n])) ([],n):=⟨.slice none 0 0,rfl,Zju w',Zpz _ _,h⟩
theorem Zjx{J:List V}{u v:Nat}{ks ks':List Kd}{r r':X}:Z2o J [.rd u ks r,.rd v ks' r'] :=
 List.pairwise_cons.2 ⟨λe he hw _ _ _=>by rw[qy12]at he;subst he;exact hw.elim (λh=>Bool.noConfusion h) (λh=>Bool.noConfusion h),List.pairwise_singleton _ _⟩
def Z2t(l:List Wat)(x:Wat):List Wat×Int:=if 12<((filt x.1 x.2.1 l).length+1:Int)then([],2)else(filt x.1 x.2.1 l++[x],0)
def Z16y(w w':World)(e:Ending)(r:List Wat×Int):Prop:=∃v,e=.returned (.tuple #[sc1 v,.int .i64 r.2])/\Z7u w' v r.1/\Za4 w.heap.size v/\Mod [] w w'
theorem Z14s(w:World)(v:Value)(l:List Wat)(x:Wat)(hv:Z1u w v l)(hl:l.length<1000000000):Calls Tryz.prog 177 #[sc1 v,.agg #[.int .i64 x.1,.string ⟨x.2.1.toArray⟩,.string ⟨x.2.2.1.toArray⟩,.int .i64 x.2.2.2]] w λe w'=>Z16y w w' e (Z2t l x):=by
 refine Z1 (Z3 (J:=[.v v,.r (l.map Z7),.i x.1,.s x.2.1,.s x.2.2.1,.i x.2.2.2]) sxE_ok Tryz.func177 Zfm rfl rfl (Rel.start2 (by simp[Ent.holds,Ent.wr,hv,X.ev])) rfl rfl ?_) rfl;simp only[Tree.goal,X.P,X.ev,SV.ev,CV.ev,Sc.ev,qz,QA,QB,QC,QD,QE,QF,QG,QH,QI,QJ,QK,QL,QM,Nat.reduceAdd];have hfl:=Zi1 x.1 x.2.1 l;intro b1;refine⟨?_,?_,λv0=>?_⟩
 ·intro w1 hr;refine(Za5 w1 v l x.1 x.2.1 (hr.at_ 2 rfl) hl).mono ?_;rintro e w2 ⟨u,rfl,o1,f1,m1⟩;refine⟨[.v u,.r ((filt x.1 x.2.1 l).map Z7)],rfl,rfl,m1,qy5 _,qy2.2 ⟨⟨o1,λk hk=>.inl (f1 k hk)⟩,qy5 _⟩,Z5,?_⟩;simp only[Tree.goal,X.P,X.ev,SV.ev,CV.ev,Sc.ev,qz,QA,QB,QC,QD,QE,QF,QG,QH,QI,QJ,QK,QL,QM,Nat.reduceAdd,qy3,qy11,List.length_cons,List.length_nil,Nat.zero_add];intro v1;refine⟨by omega,λv2=>⟨λh w' hr=>?_,λh w' hr=>?_⟩⟩
  ·rw[Z2t,if_pos (by omega)];exact⟨.slice none 0 0,rfl,⟨by simp,World.ownsRow_nil _ _ _ _⟩,λk hk=>by simp[Z2,Value.ownBlock]at hk,hr.mod⟩
  ·rw[Z2t,if_neg (by omega)];have h0:=hr.at_ 0 rfl;simp only[Ent.holds,Tree.goal,X.P,X.ev,SV.ev,CV.ev,Sc.ev,qz,QA,QB,QC,QD,QE,QF,QG,QH,QI,QJ,QK,QL,QM,Nat.reduceAdd]at h0;rw[Z24 _ x]at h0;exact⟨v2,rfl,h0,hr.fresh 0 rfl,hr.mod⟩
 ·intro w1 hr;refine(Za5 w1 v l x.1 x.2.1 (hr.at_ 2 rfl) hl).mono ?_;rintro e w2 ⟨u,rfl,o1,f1,m1⟩;refine⟨[.v u,.r ((filt x.1 x.2.1 l).map Z7)],rfl,rfl,m1,qy5 _,qy2.2 ⟨⟨o1,λk hk=>.inl (f1 k hk)⟩,qy5 _⟩,Z5,?_⟩;simp only[Tree.goal,X.P,X.ev,SV.ev,CV.ev,Sc.ev,qz,QA,QB,QC,QD,QE,QF,QG,QH,QI,QJ,QK,QL,QM,Nat.reduceAdd,qy3,qy11,List.length_cons,List.length_nil,Nat.zero_add];intro v1;refine⟨by omega,λv2=>⟨λh w' hr=>?_,λh w' hr=>?_⟩⟩
  ·rw[Z2t,if_pos (by omega)];exact⟨.slice none 0 0,rfl,⟨by simp,World.ownsRow_nil _ _ _ _⟩,λk hk=>by simp[Z2,Value.ownBlock]at hk,hr.mod⟩
  ·rw[Z2t,if_neg (by omega)];have h0:=hr.at_ 0 rfl;simp only[Ent.holds,Tree.goal,X.P,X.ev,SV.ev,CV.ev,Sc.ev,qz,QA,QB,QC,QD,QE,QF,QG,QH,QI,QJ,QK,QL,QM,Nat.reduceAdd]at h0;rw[Z24 _ x]at h0;exact⟨v2,rfl,h0,hr.fresh 0 rfl,hr.mod⟩
 ·intro w1 hr;refine(Za5 w1 v l x.1 x.2.1 (hr.at_ 3 rfl) hl).mono ?_;rintro e w2 ⟨u,rfl,o1,f1,m1⟩;refine⟨[.v u,.r ((filt x.1 x.2.1 l).map Z7)],rfl,rfl,m1,qy5 _,qy2.2 ⟨⟨o1,λk hk=>.inl (f1 k hk)⟩,qy5 _⟩,Z5,?_⟩;simp only[Tree.goal,X.P,X.ev,SV.ev,CV.ev,Sc.ev,qz,QA,QB,QC,QD,QE,QF,QG,QH,QI,QJ,QK,QL,QM,Nat.reduceAdd,qy3,qy11,List.length_cons,List.length_nil,Nat.zero_add];refine⟨by omega,λv2=>⟨λh w' hr=>?_,λh w' hr=>?_⟩⟩
  ·rw[Z2t,if_pos (by omega)];exact⟨.slice none 0 0,rfl,⟨by simp,World.ownsRow_nil _ _ _ _⟩,λk hk=>by simp[Z2,Value.ownBlock]at hk,hr.mod⟩
  ·rw[Z2t,if_neg (by omega)];have h0:=hr.at_ 0 rfl;simp only[Ent.holds,Tree.goal,X.P,X.ev,SV.ev,CV.ev,Sc.ev,qz,QA,QB,QC,QD,QE,QF,QG,QH,QI,QJ,QK,QL,QM,Nat.reduceAdd]at h0;rw[Z24 _ x]at h0;exact⟨v2,rfl,h0,hr.fresh 0 rfl,hr.mod⟩
theorem Zq2(w:World)(v:Value)(l:List Wat)(p:Int)(t n:List UInt8)(hv:Z1u w v l)(hl:l.length<1000000000):Calls Tryz.prog 79 #[sc1 v,.int .i64 p,.string ⟨t.toArray⟩,.string ⟨n.toArray⟩] w λe w'=>Z10b w w' e (Z2t l (p,t,n,1)):=by
 refine Z1 (Z3 (J:=[.v v,.r (l.map Z7),.i p,.s t,.s n]) sxE_ok Tryz.func79 Z5i rfl rfl (Rel.start2 (by simp[Ent.holds,Ent.wr,hv,X.ev])) rfl rfl ?_) rfl;simp only[Tree.goal,X.P,X.ev,SV.ev,CV.ev,Sc.ev,qz,QA,QB,QC,QD,QE,QF,QG,QH,QI,QJ,QK,QL,QM,Nat.reduceAdd];have hfl:=Zi1 p t l;intro w1 hr;refine(Zgg w1 v l p t (hr.at_ 1 rfl) hl).mono ?_;rintro e w2 ⟨u,rfl,o1,f1,m1⟩;refine⟨[.v u,.r ((filt p t l).map Z7)],rfl,rfl,m1,qy5 _,qy2.2 ⟨⟨o1,λk hk=>.inl (f1 k hk)⟩,qy5 _⟩,Z5,?_⟩;simp only[Tree.goal,X.P,X.ev,SV.ev,CV.ev,Sc.ev,qz,QA,QB,QC,QD,QE,QF,QG,QH,QI,QJ,QK,QL,QM,Nat.reduceAdd,qy3,qy11,List.length_cons,List.length_nil,Nat.zero_add];intro v1;refine⟨by omega,λv2=>⟨λh w' hr=>?_,λh w' hr=>?_⟩⟩
 ·rw[Z2t,if_pos (by simp only;omega)];exact Zxp 2 hr.mod
 ·rw[Z2t,if_neg (by simp only;omega)];have h0:=hr.at_ 0 rfl;simp only[Ent.holds,Tree.goal,X.P,X.ev,SV.ev,CV.ev,Sc.ev,qz,QA,QB,QC,QD,QE,QF,QG,QH,QI,QJ,QK,QL,QM,Nat.reduceAdd]at h0;have e0:=Z24 (filt p t l) (p,t,n,1);simp only at e0;rw[e0]at h0;exact⟨v2,rfl,owns.reads h0,λk hk=>(by rcases hr.own _ (qy8 ..) rfl k hk.2 with h|h;(· exact h);(· simp at h)),hr.mod⟩
theorem Z14t(n:Int)(h:0<=n/\n<=16777216):Zfh .and .i64 n 16777215=if 16777215<n then 0 else n:=by
 obtain⟨x,rfl⟩:∃x:Nat,n=x:=⟨n.toNat,by omega⟩
 have oi:∀x:Nat,x<2 ^ 63->(BitVec.ofInt 64 (x:Int)).toNat=x:=λx h=>by simp[BitVec.toNat_ofInt];omega
 have h127:(16777215:Int)=((16777215:Nat):Int):=rfl;simp only[Zfh,h127]
 show IntKind.i64.wrap (((BitVec.ofInt 64 (x:Int)) &&& (BitVec.ofInt 64 ((16777215:Nat):Int))).toNat:Int)=_
 rw[BitVec.toNat_and,oi x (by omega),oi 16777215 (by omega)];have e:x &&& 16777215=x % 16777216:=Nat.and_two_pow_sub_one_eq_mod x 24;rw[e,IntKind.wrap_i64];split<;>omega
theorem Zxq{R:List Wat}{i:Nat}{x:Wat}(h:i<R.length):(R.set i x).getD i wD_K=x:=by rw[qy1,List.getElem?_set_self h];rfl
theorem Zxr{n:List UInt8}{l:List Wat}{i:Nat}(hi:i<=l.length):(Z28 n (l.take i)++l.drop i).getD i wD_K=l.getD i wD_K:=by simp only[qy1];rw[List.getElem?_append_right (by simp[Z28];omega)];simp[Z28,Nat.min_eq_left hi]
theorem Z120{n:List UInt8}{l:List Wat}{i:Nat}(hi:i<l.length):(Z28 n (l.take i)++l.drop i).set i (Z3x n (l.getD i wD_K))=Z28 n (l.take (i+1))++l.drop (i+1):=by
 have hlen:(Z28 n (l.take i)).length=i:=by simp[Z28];omega
 rw[List.set_append_right _ _ (by omega),hlen,Nat.sub_self,Zhy l i hi,Zek n l i hi];simp
theorem Zxs{n:List UInt8}{l:List Wat}{i:Nat}(hi:i<l.length)(h:Z3x n (l.getD i wD_K)=l.getD i wD_K):Z28 n (l.take i)++l.drop i=Z28 n (l.take (i+1))++l.drop (i+1):=by rw[Zek n l i hi,h,Zhy l i hi];simp
theorem Zsz{n:List UInt8}{l:List Wat}{i:Nat}(hi:i<=l.length):(Z28 n (l.take i)++l.drop i).length=l.length:=by simp[Z28];omega
theorem Z121(w:World)(v:Value)(l:List Wat)(n:List UInt8)(hv:Z1u w v l)(hl:l.length<1000000000)(hok:okN l):Calls Tryz.prog 185 #[sc1 v,.string ⟨n.toArray⟩] w λe w'=>∃v1 v2,e=.returned (.tuple #[sc1 v1,sc1 v2])/\Z7u w' v1 (Z28 n l)/\Z7u w' v2 (Z2k n l)/\Za4 w.heap.size v1/\Za4 w.heap.size v2/\(∀k,Z2 v1 k->Z2 v2 k->False)/\Mod [] w w':=by
 refine Z1 (Z3 (J:=[.v v,.r (l.map Z7),.s n]) sxE_ok Tryz.func185 Zec rfl rfl (Rel.start2 (by simp[Ent.holds,Ent.wr,hv,X.ev])) rfl rfl ?_) rfl;simp only[Tree.goal,X.P,X.ev,SV.ev,CV.ev,Sc.ev,qz,QA,QB,QC,QD,QE,QF,QG,QH,QI,QJ,QK,QL,QM,Nat.reduceAdd];intro w1 hr;refine(Z48 w1 v l (hr.at_ 2 rfl) hl).mono ?_;rintro e w2 ⟨u,rfl,o1,f1,m1⟩;refine⟨[.v u,.r (l.map Z7)],rfl,rfl,m1,qy5 _,qy2.2 ⟨⟨o1,λk hk=>.inl (f1 k hk)⟩,qy5 _⟩,Z5,?_⟩;simp only[Tree.goal,X.P,X.ev,SV.ev,CV.ev,Sc.ev,qz,QA,QB,QC,QD,QE,QF,QG,QH,QI,QJ,QK,QL,QM,Nat.reduceAdd];refine⟨λvs=>∃(i:Nat) (u2:Value),vs=[.v u2,.r ((Z2k n (l.take i)).map Z7),.i i,.r ((Z28 n (l.take i)++l.drop i).map Z7)]/\i<=l.length,λvs=>l.length - (vs.getD 2 (.i 0)).toI.toNat,⟨0,_,rfl,by omega⟩,?_⟩;rintro _ - ⟨i,u2,rfl,hi⟩;simp only[Tree.goal,X.P,X.ev,SV.ev,CV.ev,Sc.ev,qz,QA,QB,QC,QD,QE,QF,QG,QH,QI,QJ,QK,QL,QM,Nat.reduceAdd,qy3,qy4,Z1z,Z20,Z1b,gW3];have hfl:=Zel n (l.take i);rw[List.length_take]at hfl;rw[Zsz hi,Zxr hi];refine⟨λh1=>?_,λh1 w' hr=>?_⟩
 ·have hok1:=Z10a hok i;have hf2:=Zgh n l i (by omega);have hst:=Z120 (n:=n) (l:=l) (i:=i) (by omega);have hml:=Zsz (n:=n) (l:=l) (i:=i) hi;refine⟨by omega,by omega,λh2=>?_,λh2=>?_⟩
  ·rw[if_pos h2]at hf2;have ht:Z3x n (l.getD i wD_K)=((l.getD i wD_K).1,(l.getD i wD_K).2.1,(l.getD i wD_K).2.2.1,Zfh .and .i64 ((l.getD i wD_K).2.2.2+1) 16777215):=by
    rw[Z3x,if_pos h2,Z14t _ (by omega)]
   have hrow:=Zsy (Z28 n (l.take i)++l.drop i) i (Z3x n (l.getD i wD_K));rw[ht]at hrow;simp only at hrow;rw[hrow,<- ht];simp only[Z1z,Z20,Z1b,gW3,qy3,List.length_set,Zxq (show i<(Z28 n (l.take i)++l.drop i).length by omega)];rw[Z24,hst];refine⟨by omega,by omega,by omega,λv1=>⟨by omega,λv2=>⟨by omega,by omega,⟨i+1,v2,?_,by omega⟩,by omega⟩⟩⟩;rw[hf2];rfl
  ·rw[if_neg h2,List.append_nil]at hf2;have ht:Z3x n (l.getD i wD_K)=l.getD i wD_K:=by rw[Z3x,if_neg h2]
   refine⟨by omega,by omega,⟨i+1,u2,?_,by omega⟩,by omega⟩;rw[hf2,<- Zxs (by omega) ht];rfl
 ·have:i=l.length:=by omega
  subst this;rw[List.take_length,List.drop_length,List.append_nil]at hr;refine⟨u,u2,rfl,hr.at_ 1 rfl,hr.at_ 0 rfl,?_,?_,λk h1 h2=>(List.pairwise_cons.1 hr.sep).1 _ (qy8 ..) (.inl rfl) k h2 h1,hr.mod⟩
  ·intro k hk;rcases hr.own _ (qy10 _ (qy8 ..)) rfl k hk with h|h
   ·exact h
   ·simp at h
  ·intro k hk;rcases hr.own _ (qy8 ..) rfl k hk with h|h
   ·exact h
   ·simp at h
abbrev Fl:=Int×List UInt8×List UInt8
def encF(f:Fl):List Value:=[.int .i64 f.1,.string ⟨f.2.1.toArray⟩,.string ⟨f.2.2.toArray⟩]
abbrev fD:Fl:=(0,[],[])
abbrev kF:List Kd:=[.int .i64,.str,.str]
theorem gF0(l:List Fl)(i:Nat):Value.gI (((l.map encF).getD i []).getD 0 undef)=(l.getD i fD).1:=by simp only[qy1,List.getElem?_map];cases l[i]?<;>rfl
theorem gF1(l:List Fl)(i:Nat):Value.gS (((l.map encF).getD i []).getD 1 undef)=(l.getD i fD).2.1:=by simp only[qy1,List.getElem?_map];cases l[i]?<;>simp[encF,Value.gS,undef]
theorem gF2(l:List Fl)(i:Nat):Value.gS (((l.map encF).getD i []).getD 2 undef)=(l.getD i fD).2.2:=by simp only[qy1,List.getElem?_map];cases l[i]?<;>simp[encF,Value.gS,undef]
abbrev Zk(w:World)(v:Value)(l:List Fl):Prop:=reads w v kF (l.map encF)
theorem Zxt(l:List Fl)(i:Nat)(h:i<l.length):l.drop i=l.getD i fD::l.drop (i+1):=by rw[List.drop_eq_getElem_cons h,qy1,qy7 h];rfl
theorem Zq3(l:List Fl)(i:Nat)(h:i<l.length):l.take (i+1)=l.take i++[l.getD i fD]:=by rw[List.take_add_one,qy1,qy7 h];rfl
theorem Zxu(l:List Fl){k i:Nat}(h:k<i):(l.take i).getD k fD=l.getD k fD:=by simp only[qy1,List.getElem?_take,if_pos h]
def Za6(l:List Fl):Prop:=∀x∈l,x.2.1.length<4294967281
theorem Za7{l:List Fl}(h:Za6 l)(i:Nat):(l.getD i fD).2.1.length<4294967281:=by
 by_cases hi:i<l.length
 ·rw[qy1,qy7 hi];exact h _ (List.getElem_mem hi)
 ·rw[qy1,List.getElem?_eq_none (by omega)];decide
def flE(f:Fl):Int:=if chkT f.2.1 false=0 then(if 200<(f.2.2.length:Int)then 2 else 0)else chkT f.2.1 false
def idIs(n:Int)(f:Fl):Bool:=decide (f.1=n)
def Za8:List Fl->List Fl->Int
 | _,[]=>0
 | prev,f::l=>if flE f≠0 then flE f else if 1<=f.1/\f.1<=65535 then if prev.any (idIs f.1)=true then 6 else Za8 (prev++[f]) l else 3
def Zbj:List Fl->Int
 | []=>0
 | f::l=>if flE f≠0 then flE f else if f.1=0 then Zbj l else 1
structure Ses where
 cl:List UInt8
 on:Bool
 clean:Bool
 fl:List Fl
 qu:List Fl
 next:Int
 deriving DecidableEq
def sesV(s:Ses)(u v:Value):Value:=.agg #[.string ⟨s.cl.toArray⟩,.bool s.on,.bool s.clean,sc1 u,sc1 v,.int .i64 s.next]
def Zz(s:List UInt8):Bool:=decide (1<=(s.length:Int)/\(s.length:Int)<=20) && Z1t s
def allS(s:Ses):Int:=if Za8 [] s.fl=0 then Zbj s.qu else Za8 [] s.fl
def chkS(s:Ses):Int :=
 if Zz s.cl=true then
  if 3<(s.fl.length:Int)\/6<(s.qu.length:Int)then 2
  else if allS s=0 then
   if 1<=s.next/\s.next<=65535 then
    if((¬s.on=true/\s.clean=true)/\0<(s.fl.length:Int)+s.qu.length)\/((s.on=true/\0<(s.qu.length:Int))/\(s.fl.length:Int)<3)then 4 else 0
   else 3
  else allS s
 else 1
theorem Zi2(w:World)(s:List UInt8)(hs:s.length<1099511627776):Calls Tryz.prog 18 #[.string ⟨s.toArray⟩] w λe w'=>e=.returned (.bool (Zz s))/\Mod [] w w':=by refine Z1 (Z8 (J:=[.s s]) sxE_ok Tryz.func18 Z58 rfl rfl rfl ?_) rfl;simp only[Tree.goal,X.P,X.ev,SV.ev,CV.ev,Sc.ev,qz,QA,QB,QC,QD,QE,QF,QG,QH,QI,QJ,QK,QL,QM,Nat.reduceAdd];refine⟨[.b (Z1t s)],rfl,λ_ w' _=>Zhu w' s hs,?_⟩;simp only[Tree.goal,X.P,X.ev,SV.ev,CV.ev,Sc.ev,qz,QA,QB,QC,QD,QE,QF,QG,QH,QI,QJ,QK,QL,QM,Nat.reduceAdd];exact λw' hr=>⟨by simp[Zz],hr.mod⟩
theorem Zjy(w:World)(s:List UInt8)(hs:s.length<1099511627776):Calls Tryz.prog 8 #[.string ⟨s.toArray⟩] w λe w'=>e=.returned (.bool (Zz s))/\Mod [] w w':=by refine Z1 (Z8 (J:=[.s s]) sxE_ok Tryz.func8 Z2i rfl rfl rfl ?_) rfl;simp only[Tree.goal,X.P,X.ev,SV.ev,CV.ev,Sc.ev,qz,QA,QB,QC,QD,QE,QF,QG,QH,QI,QJ,QK,QL,QM,Nat.reduceAdd];refine⟨[.b (Z1t s)],rfl,λ_ w' _=>Zeg w' s hs,?_⟩;simp only[Tree.goal,X.P,X.ev,SV.ev,CV.ev,Sc.ev,qz,QA,QB,QC,QD,QE,QF,QG,QH,QI,QJ,QK,QL,QM,Nat.reduceAdd];exact λw' hr=>⟨by simp[Zz],hr.mod⟩
theorem Zo2(w:World)(f:Fl)(hn:f.2.1.length<4294967281):Calls Tryz.prog 205 #[.agg #[.int .i64 f.1,.string ⟨f.2.1.toArray⟩,.string ⟨f.2.2.toArray⟩]] w λe w'=>e=.returned (.int .i64 (flE f))/\Mod [] w w':=by refine Z1 (Z8 (J:=[.i f.1,.s f.2.1,.s f.2.2]) sxE_ok Tryz.func205 Z92 rfl rfl rfl ?_) rfl;simp only[Tree.goal,X.P,X.ev,SV.ev,CV.ev,Sc.ev,qz,QA,QB,QC,QD,QE,QF,QG,QH,QI,QJ,QK,QL,QM,Nat.reduceAdd];intro b;refine⟨[.i (chkT f.2.1 false)],rfl,λ_ w' _=>Zjt w' _ hn,?_⟩;simp only[Tree.goal,X.P,X.ev,SV.ev,CV.ev,Sc.ev,qz,QA,QB,QC,QD,QE,QF,QG,QH,QI,QJ,QK,QL,QM,Nat.reduceAdd];refine⟨λh w' hr=>⟨by rw[flE,if_neg h],hr.mod⟩,λh=>⟨λh1 w' hr=>⟨by rw[flE,if_pos (qy9.1 h),if_pos h1],hr.mod⟩,λh1 w' hr=>⟨by rw[flE,if_pos (qy9.1 h),if_neg h1],hr.mod⟩⟩⟩
theorem Za9(w:World)(f:Fl)(hn:f.2.1.length<4294967281):Calls Tryz.prog 101 #[.agg #[.int .i64 f.1,.string ⟨f.2.1.toArray⟩,.string ⟨f.2.2.toArray⟩]] w λe w'=>e=.returned (.int .i64 (flE f))/\Mod [] w w':=by
 refine Z1 (Z8 (J:=[.i f.1,.s f.2.1,.s f.2.2]) sxE_ok Tryz.func101 Z3u rfl rfl rfl ?_) rfl;simp only[Tree.goal,X.P,X.ev,SV.ev,CV.ev,Sc.ev,qz,QA,QB,QC,QD,QE,QF,QG,QH,QI,QJ,QK,QL,QM,Nat.reduceAdd];intro b;refine⟨[.i (chkT f.2.1 false)],rfl,λ_ w' _=>Z3c w' _ false hn,?_⟩;simp only[Tree.goal,X.P,X.ev,SV.ev,CV.ev,Sc.ev,qz,QA,QB,QC,QD,QE,QF,QG,QH,QI,QJ,QK,QL,QM,Nat.reduceAdd];refine⟨λh w' hr=>⟨by rw[flE,if_pos h.1,if_pos h.2],hr.mod⟩,λh w' hr=>⟨?_,hr.mod⟩⟩;by_cases h1:chkT f.2.1 false=0
 ·rw[flE,if_pos h1,if_neg (λh2=>h ⟨h1,h2⟩),h1]
 ·rw[flE,if_neg h1]
theorem Z14u(w:World)(n:Int):Calls Tryz.prog 171 #[.int .i64 n] w λe w'=>e=.returned (.bool (decide (1<=n/\n<=65535)))/\Mod [] w w':=by refine Z1 (Z8 (J:=[.i n]) sxE_ok Tryz.func171 Zea rfl rfl rfl ?_) rfl;simp only[Tree.goal,X.P,X.ev,SV.ev,CV.ev,Sc.ev,qz,QA,QB,QC,QD,QE,QF,QG,QH,QI,QJ,QK,QL,QM,Nat.reduceAdd];exact λw' hr=>⟨by simp,hr.mod⟩
theorem Zaa(p:Fl->Bool)(l:List Fl)(k:Nat)(h:k<l.length):(l.take (k+1)).any p=((l.take k).any p || p (l.getD k fD)):=by rw[Zq3 l k h,List.any_append];simp
theorem Zt0{p:Fl->Bool}{l:List Fl}{k i:Nat}(hk:k<i)(hi:i<=l.length)(h:p (l.getD k fD)=true):(l.take i).any p=true:=by rw[List.any_eq_true];refine⟨l.getD k fD,?_,h⟩;rw[<- Zxu l hk,qy1,qy7 (by simp;omega)];exact List.getElem_mem _
theorem Z61{p:Prop}(h:p):p/\p:=⟨h,h⟩
theorem Zt1(w:World)(v:Value)(l:List Fl)(n:Int)(hv:Zk w v l)(hl:l.length<1000000000):Calls Tryz.prog 206 #[sc1 v,.int .i64 n] w λe w'=>e=.returned (.bool (l.any (idIs n)))/\Mod [] w w':=by
 refine Z1 (Z3 (J:=[.v v,.r (l.map encF),.i n]) sxE_ok Tryz.func206 Zbd rfl rfl (Rel.start2 (by simp[Ent.holds,Ent.wr,hv,X.ev])) rfl rfl ?_) rfl;simp only[Tree.goal,X.P,X.ev,SV.ev,CV.ev,Sc.ev,qz,QA,QB,QC,QD,QE,QF,QG,QH,QI,QJ,QK,QL,QM,Nat.reduceAdd];intro b;refine⟨λvs=>∃(i:Nat) (x:V),vs=[x,.i i,.i n]/\i<=l.length/\(l.take i).any (idIs n)=false,λvs=>l.length - (vs.getD 1 (.i 0)).toI.toNat,⟨0,_,rfl,by omega,by simp⟩,?_⟩;rintro _ - ⟨i,x,rfl,hi,hno⟩;simp only[Tree.goal,X.P,X.ev,SV.ev,CV.ev,Sc.ev,qz,QA,QB,QC,QD,QE,QF,QG,QH,QI,QJ,QK,QL,QM,Nat.reduceAdd,qy3,qy4,gF0,gF1,gF2];refine⟨λh1=>⟨by omega,λb2=>⟨λh2 w' hr=>⟨?_,hr.mod⟩,λh2=>⟨by omega,by omega,⟨i+1,x,rfl,by omega,?_⟩,by omega⟩⟩⟩,λh1 w' hr=>⟨?_,hr.mod⟩⟩
 ·have:=Zt0 (p:=idIs n) (l:=l) (k:=i) (i:=l.length) (by omega) (Nat.le_refl _) (by simp only[idIs,decide_eq_true_eq];exact h2);rw[List.take_length]at this;rw[this];simp
 ·rw[Zaa _ l i (by omega),hno,Bool.false_or];simp only[idIs,decide_eq_false_iff_not];exact h2
 ·have:i=l.length:=by omega
  subst this;rw[List.take_length]at hno;rw[hno];rfl
theorem Zab(w:World)(u v:Value)(a b:List Fl)(hu:Zk w u a)(hv:Zk w v b)(hl:a.length<1000000000):Calls Tryz.prog 173 #[sc1 u,sc1 v] w λe w'=>e=.returned (.bool (decide (a=b)))/\Mod [] w w':=by
 refine Z1 (Z3 (J:=[.v u,.r (a.map encF),.v v,.r (b.map encF)]) sxE_ok Tryz.func173 Z3t rfl rfl (Rel.start2 (by simp[Ent.holds,Ent.wr,hu,hv,X.ev])) rfl rfl ?_) rfl;simp only[Tree.goal,X.P,X.ev,SV.ev,CV.ev,Sc.ev,qz,QA,QB,QC,QD,QE,QF,QG,QH,QI,QJ,QK,QL,QM,Nat.reduceAdd,qy3];refine⟨λh w' hr=>⟨?_,hr.mod⟩,λh=>?_⟩
 ·rw[decide_eq_false];intro e;rw[e]at h;exact h rfl
 ·have hlen:a.length=b.length:=by omega
  refine⟨λvs=>∃(i:Nat) (x:V),vs=[x,.i i]/\i<=a.length/\∀j,j<i->a.getD j fD=b.getD j fD,λvs=>a.length - (vs.getD 1 (.i 0)).toI.toNat,⟨0,_,rfl,by omega,λj hj=>by omega⟩,?_⟩;rintro _ - ⟨i,x,rfl,hi,hall⟩;simp only[Tree.goal,X.P,X.ev,SV.ev,CV.ev,Sc.ev,qz,QA,QB,QC,QD,QE,QF,QG,QH,QI,QJ,QK,QL,QM,Nat.reduceAdd,qy3,qy4,gF0,gF1,gF2];refine⟨λh7=>⟨by omega,by omega,λh8 w' hr=>⟨?_,hr.mod⟩,λh8=>⟨by omega,by omega,⟨i+1,x,rfl,by omega,λj hj=>?_⟩,by omega⟩⟩,λh7 w' hr=>⟨?_,hr.mod⟩⟩
  ·rw[decide_eq_false];intro e;rw[e]at h8;exact h8 ⟨rfl,rfl,rfl⟩
  ·by_cases hji:j=i
   ·subst hji;have h9:=qy9.1 h8;exact Prod.ext h9.1 (Prod.ext h9.2.1 h9.2.2)
   ·exact hall j (by omega)
  ·rw[decide_eq_true];refine List.ext_getElem? λj=>?_;by_cases hj:j<a.length
   ·have:=hall j (by omega);rw[qy1,qy1,qy7 hj,qy7 (by omega)]at this;rw[qy7 hj,qy7 (by omega)];simpa using this
   ·rw[List.getElem?_eq_none (by omega),List.getElem?_eq_none (by omega)]
theorem Z16z(w:World)(s:Ses)(u v:Value)(hu:Zk w u s.fl)(hv:Zk w v s.qu)(h1:Za6 s.fl)(h2:Za6 s.qu)(hl1:s.fl.length<1000000000)(hl2:s.qu.length<1000000000):Calls Tryz.prog 170 #[sesV s u v] w λe w'=>e=.returned (.int .i64 (allS s))/\Mod [] w w':=by
 refine Z1 (Z3 (J:=[.s s.cl,.b s.on,.b s.clean,.v u,.r (s.fl.map encF),.v v,.r (s.qu.map encF),.i s.next]) sxE_ok Tryz.func170 Zco rfl rfl (Rel.start2 (by simp[Ent.holds,Ent.wr,hu,hv,X.ev])) rfl rfl ?_) rfl;simp only[Tree.goal,X.P,X.ev,SV.ev,CV.ev,Sc.ev,qz,QA,QB,QC,QD,QE,QF,QG,QH,QI,QJ,QK,QL,QM,Nat.reduceAdd];intro b;refine⟨λvs=>∃(i:Nat) (x:V),vs=[x,.i i]/\i<=s.fl.length/\Za8 (s.fl.take i) (s.fl.drop i)=Za8 [] s.fl,λvs=>s.fl.length - (vs.getD 1 (.i 0)).toI.toNat,⟨0,_,rfl,by omega,rfl⟩,?_⟩;rintro _ - ⟨i,x,rfl,hi,hg⟩;simp only[Tree.goal,X.P,X.ev,SV.ev,CV.ev,Sc.ev,qz,QA,QB,QC,QD,QE,QF,QG,QH,QI,QJ,QK,QL,QM,Nat.reduceAdd,qy3,qy4,gF0,gF1,gF2];refine⟨λh3=>⟨by omega,λb2=>?_⟩,λh3=>?_⟩
 ·have hsm:=Za7 h1 i;rw[Zxt _ i (by omega)]at hg;simp only[Za8]at hg;refine⟨[.i (flE (s.fl.getD i fD))],rfl,λ_ w' _=>Zo2 w' (s.fl.getD i fD) hsm,?_⟩;simp only[Tree.goal,X.P,X.ev,SV.ev,CV.ev,Sc.ev,qz,QA,QB,QC,QD,QE,QF,QG,QH,QI,QJ,QK,QL,QM,Nat.reduceAdd,qy3,qy4,gF0,gF1,gF2];refine⟨λh4 w' hr=>⟨?_,hr.mod⟩,λh4=>?_⟩
  ·rw[if_pos h4]at hg;rw[allS,<- hg,if_neg h4]
  rw[if_neg h4]at hg;refine⟨[.b (decide (1<=(s.fl.getD i fD).1/\(s.fl.getD i fD).1<=65535))],rfl,λ_ w' _=>Z14u w' _,?_⟩;simp only[Tree.goal,X.P,X.ev,SV.ev,CV.ev,Sc.ev,qz,QA,QB,QC,QD,QE,QF,QG,QH,QI,QJ,QK,QL,QM,Nat.reduceAdd,qy3,qy4,gF0,gF1,gF2,decide_eq_true_eq];refine⟨λh5 w' hr=>⟨?_,hr.mod⟩,λh5=>?_⟩
  ·rw[if_neg h5]at hg;rw[allS,<- hg];rfl
  rw[if_pos (qy9.1 h5)]at hg;first|refine Z61 ?_|skip
  refine⟨by omega,λv9=>?_⟩;refine⟨[.b ((s.fl.take i).any (idIs (s.fl.getD i fD).1))],rfl,λ_ w' hr=>?_,?_⟩
  ·have h0:=hr.at_ 0 rfl;simp only[Ent.holds,Tree.goal,X.P,X.ev,SV.ev,CV.ev,Sc.ev,qz,QA,QB,QC,QD,QE,QF,QG,QH,QI,QJ,QK,QL,QM,Nat.reduceAdd,Int.toNat_zero,List.drop_zero,qy4,<- List.map_take]at h0;exact Zt1 w' v9 _ _ h0 (by rw[List.length_take];omega)
  simp only[Tree.goal,X.P,X.ev,SV.ev,CV.ev,Sc.ev,qz,QA,QB,QC,QD,QE,QF,QG,QH,QI,QJ,QK,QL,QM,Nat.reduceAdd,qy3,qy4,gF0,gF1,gF2];refine⟨λh6 w' hr=>⟨?_,hr.mod⟩,λh6=>?_⟩
  ·rw[if_pos h6]at hg;rw[allS,<- hg];rfl
  ·rw[if_neg h6,<- Zq3 _ i (by omega)]at hg;exact⟨by omega,by omega,⟨i+1,x,rfl,by omega,hg⟩,by omega⟩
 ·have:i=s.fl.length:=by omega
  subst this;rw[List.drop_length]at hg;have hg:Za8 [] s.fl=0:=hg.symm;rw[allS,if_pos hg];refine⟨λvs=>∃(i:Nat) (x:V),vs=[x,.i i]/\i<=s.qu.length/\Zbj (s.qu.drop i)=Zbj s.qu,λvs=>s.qu.length - (vs.getD 1 (.i 0)).toI.toNat,⟨0,_,rfl,by omega,rfl⟩,?_⟩;rintro _ - ⟨i,x,rfl,hi,hg⟩;simp only[Tree.goal,X.P,X.ev,SV.ev,CV.ev,Sc.ev,qz,QA,QB,QC,QD,QE,QF,QG,QH,QI,QJ,QK,QL,QM,Nat.reduceAdd,qy3,qy4,gF0,gF1,gF2];refine⟨λh3=>⟨by omega,λb2=>?_⟩,λh3 w' hr=>⟨?_,hr.mod⟩⟩
  ·have hsm:=Za7 h2 i;rw[Zxt _ i (by omega)]at hg;simp only[Zbj]at hg;refine⟨[.i (flE (s.qu.getD i fD))],rfl,λ_ w' _=>Zo2 w' (s.qu.getD i fD) hsm,?_⟩;simp only[Tree.goal,X.P,X.ev,SV.ev,CV.ev,Sc.ev,qz,QA,QB,QC,QD,QE,QF,QG,QH,QI,QJ,QK,QL,QM,Nat.reduceAdd,qy3,qy4,gF0,gF1,gF2];refine⟨λh4 w' hr=>⟨?_,hr.mod⟩,λh4=>⟨λh5 w' hr=>⟨?_,hr.mod⟩,λh5=>?_⟩⟩
   ·rw[if_pos h4]at hg;rw[<- hg]
   ·rw[if_neg h4,if_neg h5]at hg;rw[<- hg]
   ·rw[if_neg h4,if_pos (qy9.1 h5)]at hg;exact⟨by omega,by omega,⟨i+1,x,rfl,by omega,hg⟩,by omega⟩
  ·have:i=s.qu.length:=by omega
   subst this;rw[List.drop_length]at hg;rw[<- hg];rfl
theorem Zxv(w:World)(s:Ses)(u v:Value)(hu:Zk w u s.fl)(hv:Zk w v s.qu)(h1:Za6 s.fl)(h2:Za6 s.qu)(hl1:s.fl.length<1000000000)(hl2:s.qu.length<1000000000)(hc:s.cl.length<1099511627776):Calls Tryz.prog 119 #[sesV s u v] w λe w'=>e=.returned (.int .i64 (chkS s))/\Mod [] w w':=by refine Z1 (Z3 (J:=[.s s.cl,.b s.on,.b s.clean,.v u,.r (s.fl.map encF),.v v,.r (s.qu.map encF),.i s.next]) sxE_ok Tryz.func119 Z9x rfl rfl (Rel.start2 (by simp[Ent.holds,Ent.wr,hu,hv,X.ev])) rfl rfl ?_) rfl;simp only[Tree.goal,X.P,X.ev,SV.ev,CV.ev,Sc.ev,qz,QA,QB,QC,QD,QE,QF,QG,QH,QI,QJ,QK,QL,QM,Nat.reduceAdd];intro b;refine⟨[.b (Zz s.cl)],rfl,λ_ w' _=>Zi2 w' _ hc,?_⟩;simp only[Tree.goal,X.P,X.ev,SV.ev,CV.ev,Sc.ev,qz,QA,QB,QC,QD,QE,QF,QG,QH,QI,QJ,QK,QL,QM,Nat.reduceAdd,qy3];refine⟨λh w' hr=>⟨by rw[chkS,if_neg h],hr.mod⟩,λh=>?_⟩;rw[chkS,if_pos (qy9.1 h)];refine⟨λh w' hr=>⟨by rw[if_pos h],hr.mod⟩,λh=>?_⟩;rw[if_neg h];refine⟨[.i (allS s)],rfl,λ_ w' hr=>Z16z w' s u v (hr.at_ 1 rfl) (hr.at_ 2 rfl) h1 h2 hl1 hl2,?_⟩;simp only[Tree.goal,X.P,X.ev,SV.ev,CV.ev,Sc.ev,qz,QA,QB,QC,QD,QE,QF,QG,QH,QI,QJ,QK,QL,QM,Nat.reduceAdd,qy3];refine⟨λh w' hr=>⟨by rw[if_neg h],hr.mod⟩,λh=>?_⟩;rw[if_pos (qy9.1 h)];refine⟨[.b (decide (1<=s.next/\s.next<=65535))],rfl,λ_ w' _=>Z14u w' _,?_⟩;simp only[Tree.goal,X.P,X.ev,SV.ev,CV.ev,Sc.ev,qz,QA,QB,QC,QD,QE,QF,QG,QH,QI,QJ,QK,QL,QM,Nat.reduceAdd,qy3,decide_eq_true_eq];refine⟨λh w' hr=>⟨by rw[if_neg h],hr.mod⟩,λh=>?_⟩;rw[if_pos (qy9.1 h)];refine⟨.inr (by omega),λh w' hr=>⟨by rw[if_pos (.inl h)],hr.mod⟩,λh=>⟨λh1 w' hr=>⟨by rw[if_pos (.inr h1)],hr.mod⟩,λh1 w' hr=>⟨by rw[if_neg (λh2=>h2.elim h h1)],hr.mod⟩⟩⟩
theorem Z5m(w:World)(s:Ses)(u v:Value)(hu:Zk w u s.fl)(hv:Zk w v s.qu)(h1:Za6 s.fl)(h2:Za6 s.qu)(hl1:s.fl.length<1000000000)(hl2:s.qu.length<1000000000)(hc:s.cl.length<1099511627776):Calls Tryz.prog 27 #[sesV s u v] w λe w'=>e=.returned (.int .i64 (chkS s))/\Mod [] w w':=by
 refine Z1 (Z3 (J:=[.s s.cl,.b s.on,.b s.clean,.v u,.r (s.fl.map encF),.v v,.r (s.qu.map encF),.i s.next]) sxE_ok Tryz.func27 Z3j rfl rfl (Rel.start2 (by simp[Ent.holds,Ent.wr,hu,hv,X.ev])) rfl rfl ?_) rfl;simp only[Tree.goal,X.P,X.ev,SV.ev,CV.ev,Sc.ev,qz,QA,QB,QC,QD,QE,QF,QG,QH,QI,QJ,QK,QL,QM,Nat.reduceAdd];intro b;refine⟨[.b (Zz s.cl)],rfl,λ_ w' _=>Zjy w' _ hc,?_⟩;simp only[Tree.goal,X.P,X.ev,SV.ev,CV.ev,Sc.ev,qz,QA,QB,QC,QD,QE,QF,QG,QH,QI,QJ,QK,QL,QM,Nat.reduceAdd,qy3];refine⟨λh w' hr=>⟨by rw[chkS,if_neg h],hr.mod⟩,λh=>?_⟩;rw[chkS,if_pos (qy9.1 h)];refine⟨λh w' hr=>⟨by rw[if_pos h],hr.mod⟩,λh=>?_⟩;rw[if_neg h];refine⟨λvs=>∃(i:Nat) (x:V),vs=[x,.i i]/\i<=s.fl.length/\Za8 (s.fl.take i) (s.fl.drop i)=Za8 [] s.fl,λvs=>s.fl.length - (vs.getD 1 (.i 0)).toI.toNat,⟨0,_,rfl,by omega,rfl⟩,?_⟩;rintro _ - ⟨i,x,rfl,hi,hg⟩;simp only[Tree.goal,X.P,X.ev,SV.ev,CV.ev,Sc.ev,qz,QA,QB,QC,QD,QE,QF,QG,QH,QI,QJ,QK,QL,QM,Nat.reduceAdd,qy3,qy4,gF0,gF1,gF2];refine⟨λh3=>⟨by omega,?_⟩,λh3=>?_⟩
 ·have hsm:=Za7 h1 i;rw[Zxt _ i (by omega)]at hg;simp only[Za8]at hg;refine⟨[.i (flE (s.fl.getD i fD))],rfl,λ_ w' _=>Za9 w' (s.fl.getD i fD) hsm,?_⟩;simp only[Tree.goal,X.P,X.ev,SV.ev,CV.ev,Sc.ev,qz,QA,QB,QC,QD,QE,QF,QG,QH,QI,QJ,QK,QL,QM,Nat.reduceAdd,qy3,qy4,gF0,gF1,gF2];refine⟨λh4 w' hr=>⟨?_,hr.mod⟩,λh4=>?_⟩
  ·rw[if_pos h4]at hg;have:allS s=flE (s.fl.getD i fD):=by rw[allS,<- hg,if_neg h4]
   rw[this,if_neg h4]
  rw[if_neg h4]at hg;refine⟨λh5 w' hr=>⟨?_,hr.mod⟩,λh5=>?_⟩
  ·rw[if_neg h5]at hg;have:allS s=3:=by rw[allS,<- hg];rfl
   rw[this];rfl
  rw[if_pos (qy9.1 h5)]at hg;refine⟨λvs=>∃(k:Nat) (y:V),vs=[y,.i k]/\k<=i/\(s.fl.take k).any (idIs (s.fl.getD i fD).1)=false,λvs=>i - (vs.getD 1 (.i 0)).toI.toNat,⟨0,_,rfl,by omega,by simp⟩,?_⟩;rintro _ - ⟨k,y,rfl,hk,hno⟩;simp only[Tree.goal,X.P,X.ev,SV.ev,CV.ev,Sc.ev,qz,QA,QB,QC,QD,QE,QF,QG,QH,QI,QJ,QK,QL,QM,Nat.reduceAdd,qy3,qy4,gF0,gF1,gF2];refine⟨λh4=>⟨by omega,by omega,λh5 w' hr=>⟨?_,hr.mod⟩,λh5=>?_⟩,λh4=>?_⟩
  ·rw[if_pos (Zt0 (k:=k) (by omega) (by omega) (by simp only[idIs,decide_eq_true_eq];exact h5))]at hg;have:allS s=6:=by rw[allS,<- hg];rfl
   rw[this];rfl
  ·refine⟨by omega,by omega,⟨k+1,y,rfl,by omega,?_⟩,by omega⟩;rw[Zaa _ _ k (by omega),hno,Bool.false_or];simp only[idIs,decide_eq_false_iff_not];exact h5
  ·have:k=i:=by omega
   subst this;rw[if_neg (by rw[hno];decide),<- Zq3 _ k (by omega)]at hg;exact⟨by omega,by omega,⟨k+1,_,rfl,by omega,hg⟩,by omega⟩
 ·have:i=s.fl.length:=by omega
  subst this;rw[List.drop_length]at hg;have hg:Za8 [] s.fl=0:=hg.symm;have hA:allS s=Zbj s.qu:=by rw[allS,if_pos hg]
  rw[hA];refine⟨λvs=>∃(i:Nat) (x:V),vs=[x,.i i]/\i<=s.qu.length/\Zbj (s.qu.drop i)=Zbj s.qu,λvs=>s.qu.length - (vs.getD 1 (.i 0)).toI.toNat,⟨0,_,rfl,by omega,rfl⟩,?_⟩;rintro _ - ⟨i,x,rfl,hi,hg⟩;simp only[Tree.goal,X.P,X.ev,SV.ev,CV.ev,Sc.ev,qz,QA,QB,QC,QD,QE,QF,QG,QH,QI,QJ,QK,QL,QM,Nat.reduceAdd,qy3,qy4,gF0,gF1,gF2];refine⟨λh3=>⟨by omega,?_⟩,λh3=>?_⟩
  ·have hsm:=Za7 h2 i;rw[Zxt _ i (by omega)]at hg;simp only[Zbj]at hg;refine⟨[.i (flE (s.qu.getD i fD))],rfl,λ_ w' _=>Za9 w' (s.qu.getD i fD) hsm,?_⟩;simp only[Tree.goal,X.P,X.ev,SV.ev,CV.ev,Sc.ev,qz,QA,QB,QC,QD,QE,QF,QG,QH,QI,QJ,QK,QL,QM,Nat.reduceAdd,qy3,qy4,gF0,gF1,gF2];refine⟨λh4 w' hr=>⟨?_,hr.mod⟩,λh4=>⟨λh5 w' hr=>⟨?_,hr.mod⟩,λh5=>?_⟩⟩
   ·rw[if_pos h4]at hg;rw[<- hg,if_neg h4]
   ·rw[if_neg h4,if_neg h5]at hg;rw[<- hg];rfl
   ·rw[if_neg h4,if_pos (qy9.1 h5)]at hg;exact⟨by omega,by omega,⟨i+1,x,rfl,by omega,hg⟩,by omega⟩
  ·have:i=s.qu.length:=by omega
   subst this;rw[List.drop_length]at hg;have hg:Zbj s.qu=0:=hg.symm;rw[if_pos hg];refine⟨λh w' hr=>⟨by rw[if_neg h],hr.mod⟩,λh=>?_⟩;rw[if_pos (qy9.1 h)];refine⟨.inr (by omega),λh w' hr=>⟨by rw[if_pos h],hr.mod⟩,λh w' hr=>⟨by rw[if_neg h],hr.mod⟩⟩
theorem Ses.eq_iff{a b:Ses}:a=b↔a.cl=b.cl/\a.on=b.on/\a.clean=b.clean/\a.next=b.next/\a.fl=b.fl/\a.qu=b.qu:=by cases a;cases b;simp only[Ses.mk.injEq];exact⟨λ⟨h1,h2,h3,h5,h6,h4⟩=>⟨h1,h2,h3,h4,h5,h6⟩,λ⟨h1,h2,h3,h4,h5,h6⟩=>⟨h1,h2,h3,h5,h6,h4⟩⟩
theorem Zi3(w:World)(a b:Ses)(u v u' v':Value)(hu:Zk w u a.fl)(hv:Zk w v a.qu)(hu':Zk w u' b.fl)(hv':Zk w v' b.qu)(hl1:a.fl.length<1000000000)(hl2:a.qu.length<1000000000):Calls Tryz.prog 134 #[sesV a u v,sesV b u' v'] w λe w'=>e=.returned (.bool (decide (a=b)))/\Mod [] w w':=by
 refine Z1 (Z3 (J:=[.s a.cl,.b a.on,.b a.clean,.v u,.r (a.fl.map encF),.v v,.r (a.qu.map encF),.i a.next,.s b.cl,.b b.on,.b b.clean,.v u',.r (b.fl.map encF),.v v',.r (b.qu.map encF),.i b.next]) sxE_ok Tryz.func134 Z3v rfl rfl (Rel.start2 (by simp[Ent.holds,Ent.wr,hu,hv,hu',hv',X.ev])) rfl rfl ?_) rfl;simp only[Tree.goal,X.P,X.ev,SV.ev,CV.ev,Sc.ev,qz,QA,QB,QC,QD,QE,QF,QG,QH,QI,QJ,QK,QL,QM,Nat.reduceAdd];intro b1 b2;refine⟨[.b (decide (a.fl=b.fl))],rfl,λ_ w' hr=>Zab w' u u' _ _ (hr.at_ 2 rfl) (hr.at_ 4 rfl) hl1,?_⟩;simp only[Tree.goal,X.P,X.ev,SV.ev,CV.ev,Sc.ev,qz,QA,QB,QC,QD,QE,QF,QG,QH,QI,QJ,QK,QL,QM,Nat.reduceAdd];refine⟨[.b (decide (a.qu=b.qu))],rfl,λ_ w' hr=>Zab w' v v' _ _ (hr.at_ 3 rfl) (hr.at_ 5 rfl) hl2,?_⟩;simp only[Tree.goal,X.P,X.ev,SV.ev,CV.ev,Sc.ev,qz,QA,QB,QC,QD,QE,QF,QG,QH,QI,QJ,QK,QL,QM,Nat.reduceAdd];refine λw' hr=>⟨?_,hr.mod⟩
 simp only[Ending.returned.injEq,Value.bool.injEq];rw[Bool.eq_iff_iff,decide_eq_true_eq,Ses.eq_iff];simp[and_assoc]
abbrev Pk:=Bool×Int×Int×List UInt8×List UInt8
def encP(p:Pk):List Value:=[.int .i64 3,.bool p.1,.bool false,.bool false,.bool false,.int .i64 p.2.1,.int .i64 p.2.2.1,.int .i64 0,.int .i64 0,.string ⟨([]:List UInt8).toArray⟩,.string ⟨p.2.2.2.1.toArray⟩,.string ⟨p.2.2.2.2.toArray⟩,.slice none 0 0,.slice none 0 0]
abbrev kP:List Kd:=[.int .i64,.bool,.bool,.bool,.bool,.int .i64,.int .i64,.int .i64,.int .i64,.str,.str,.str,.oth,.oth]
abbrev Z10c(w:World)(v:Value)(l:List Pk):Prop:=reads w v kP (l.map encP)
theorem Z9(w:World)(ks:List Kd):reads w (.slice none 0 0) ks []:=⟨by simp,none,0,rfl,⟨λ_=>rfl,Nat.le_refl _⟩,λh=>absurd rfl h⟩
abbrev Z122(w:World)(v:Value)(l:List Fl):Prop:=owns w v 132 kF (l.map encF)
theorem Zq4{v:Value}(hn:(match v with | .slice none _ _=>true|_=>false)=true){w:World}{ks:List Kd}{rows:List (List Value)}(h:reads w v ks rows):rows=[]:=by obtain⟨_,a,cap,rfl,_,h2⟩:=h;refine Classical.byContradiction λhne=>?_;obtain⟨ad,rfl,_⟩:=h2 hne;simp at hn
theorem Z1d(w:World)(v:Value)(l:List Fl)(hv:Zk w v l)(hl:l.length<1000000000):Calls Tryz.prog 190 #[sc1 v] w λe w'=>∃v',e=.returned (sc1 v')/\Z122 w' v' l/\(∀k,Z2 v' k->w.heap.size<=k)/\Mod [] w w':=by
 refine Z1 (Z3 (J:=[.v v,.r (l.map encF)]) sxE_ok Tryz.func190 Z22 rfl rfl (Rel.start2 (by simp[Ent.holds,Ent.wr,hv,X.ev])) rfl rfl ?_) rfl;simp only[Tree.goal,X.P,X.ev,SV.ev,CV.ev,Sc.ev,qz,QA,QB,QC,QD,QE,QF,QG,QH,QI,QJ,QK,QL,QM,Nat.reduceAdd,qy3,List.nil_append];refine⟨λh w' hr=>?_,λh v1=>⟨by simp only[Int.natCast_zero];omega,λv2 w' hr=>?_⟩⟩
 ·have hn:l=[]:=List.map_eq_nil_iff.1 (Zq4 h hv);subst hn;refine⟨_,rfl,hr.at_ 0 rfl,λk hk=>?_,hr.mod⟩;rcases hr.own _ (qy8 ..) rfl k hk with h|h
  ·exact h
  ·simp at h
 ·refine⟨v2,rfl,hr.at_ 0 rfl,λk hk=>?_,hr.mod⟩;rcases hr.own _ (qy8 ..) rfl k hk with h|h
  ·exact h
  ·simp at h
def s0:Ses:=⟨[],false,false,[],[],0⟩
def nx_N(n:Int):Int:=n % 65535+1
def used(fl:List Fl)(n:Int):Bool:=fl.any (idIs n)
def Z25(fl:List Fl)(n:Int):Int:=if used fl n=true then(if used fl (nx_N n)=true then nx_N (nx_N n)else nx_N n)else n
theorem Zfp{n:Int}(h:1<=n/\n<=65535):(1<=nx_N n/\nx_N n<=65535)/\nx_N n≠n/\nx_N (nx_N n)≠n/\nx_N (nx_N n)≠nx_N n:=by unfold nx_N;omega
theorem Zxw{n:Int}(h:1<=n/\n<=65535):nx_N n=if 65535<n+1 then 1 else n+1:=by unfold nx_N;split<;>omega
theorem Z10d{fl:List Fl}{a b c:Int}(hl:fl.length<3)(ha:used fl a=true)(hb:used fl b=true)(hc:used fl c=true)(h1:a≠b)(h2:a≠c)(h3:b≠c):False:=by
 match fl,hl with
 | [],_=>simp[used]at ha
 | [x],_=>simp[used,idIs]at ha hb;omega
 | [x,y],_=>simp[used,idIs]at ha hb hc;omega
 | _::_::_::_,hl=>simp at hl;omega
theorem Zt2{fl:List Fl}{n:Int}(hl:fl.length<3)(h:1<=n/\n<=65535):used fl (Z25 fl n)=false:=by
 obtain⟨-,h1,h2,h3⟩:=Zfp h;unfold Z25;split
 ·rename_i u1;split
  ·rename_i u2;cases u3:used fl (nx_N (nx_N n))with
   | false=>rfl
   | true=>exact(Z10d hl u1 u2 u3 (Ne.symm h1) (Ne.symm h2) (Ne.symm h3)).elim
  ·rename_i u2;simpa using u2
 ·rename_i u1;simpa using u1
theorem Zi4{fl:List Fl}{n:Int}(h:1<=n/\n<=65535):1<=Z25 fl n/\Z25 fl n<=65535:=by
 obtain⟨h1,-⟩:=Zfp h;unfold Z25;split
 ·split
  ·exact(Zfp h1).1
  ·exact h1
 ·exact h
def flyR(on:Bool):List Fl->List Fl->Int->List Pk->List Fl×List Fl×Int×List Pk
 | fl,[],next,out=>(fl,[],next,out)
 | fl,f::q,next,out =>
  if on=true/\fl.length<3 then flyR on (fl++[(Z25 fl next,f.2.1,f.2.2)]) q (nx_N (Z25 fl next)) (out++[(false,1,Z25 fl next,f.2.1,f.2.2)])
  else(fl,f::q,next,out)
theorem Zem{on:Bool}{fl qu:List Fl}{next:Int}{out:List Pk}(h:¬((on=true/\0<qu.length)/\fl.length<3)):flyR on fl qu next out=(fl,qu,next,out):=by
 cases qu with
 | nil=>rfl
 | cons f q =>
  rw[flyR,if_neg];intro h2;exact h ⟨⟨h2.1,by simp⟩,h2.2⟩
theorem Zjz{on:Bool}{fl qu:List Fl}{next:Int}{out:List Pk}(h:(on=true/\0<qu.length)/\fl.length<3) : flyR on fl qu next out=flyR on (fl++[(Z25 fl next,(qu.getD 0 fD).2.1,(qu.getD 0 fD).2.2)]) (qu.drop 1) (nx_N (Z25 fl next)) (out++[(false,1,Z25 fl next,(qu.getD 0 fD).2.1,(qu.getD 0 fD).2.2)]):=by
 cases qu with
 | nil=>simp at h
 | cons f q =>
  rw[flyR,if_pos ⟨h.1.1,h.2⟩];rfl
def Z8n(n:Nat)(s:Ses)(u v x:Value)(l:List Fl):Prop :=
 ∀k,(l.map encF).flatten≠[]/\Z2 x k->n<=k\/((s.fl.map encF).flatten≠[]/\Z2 u k)\/((s.qu.map encF).flatten≠[]/\Z2 v k)
def goR(s:Ses):Ses:={ s with on:=false,fl:=if s.clean=true then[]else s.fl,qu:=if s.clean=true then[]else s.qu }
def Zi5(next id:Int)(ag:Bool):Nat:=if ag=true then(if id=next then 3 else if id=nx_N next then 2 else 1)else 0
def Zm2(fl:List Fl)(next id:Int):Prop:=id=next\/(id=nx_N next/\used fl next=true)\/(id=nx_N (nx_N next)/\used fl next=true/\used fl (nx_N next)=true)
theorem Zo3{fl:List Fl}{next id:Int}(h:1<=next/\next<=65535)(ha:Zm2 fl next id):1<=id/\id<=65535:=by
  obtain⟨h1,-⟩:=Zfp h;rcases ha with rfl|⟨rfl,-⟩|⟨rfl,-⟩
  . exact h
  . exact h1
  . exact(Zfp h1).1
theorem Z88{fl:List Fl}{next id:Int}(hl:fl.length<3)(h:1<=next/\next<=65535)(ha:Zm2 fl next id)(hu:used fl id=true):Zm2 fl next (nx_N id)/\Zi5 next (nx_N id) true<Zi5 next id true:=by
  obtain⟨h1,h2,h3,h4⟩:=Zfp h;rcases ha with rfl|⟨rfl,u1⟩|⟨rfl,u1,u2⟩
  . exact⟨.inr (.inl ⟨rfl,hu⟩),by simp[Zi5,h2]⟩
  . exact⟨.inr (.inr ⟨rfl,u1,hu⟩),by simp[Zi5,h2,h3,h4]⟩
  . exact(Z10d hl u1 u2 hu (Ne.symm h2) (Ne.symm h3) (Ne.symm h4)).elim
theorem Zbk{fl:List Fl}{next id:Int}(ha:Zm2 fl next id)(hu:used fl id=false):id=Z25 fl next:=by
  rcases ha with rfl|⟨rfl,u1⟩|⟨rfl,u1,u2⟩
  . simp[Z25,hu]
  . simp[Z25,hu,u1]
  . simp[Z25,u1,u2]
def flyS(s:Ses):Ses×List Pk:=(⟨s.cl,s.on,s.clean,(flyR s.on s.fl s.qu s.next []).1,(flyR s.on s.fl s.qu s.next []).2.1,(flyR s.on s.fl s.qu s.next []).2.2.1⟩,(flyR s.on s.fl s.qu s.next []).2.2.2)
def Z14v(w w':World)(s:Ses)(u v:Value)(e:Ending)(r:Ses)(out:List Pk):Prop :=
  ∃u' v' x,e=.returned (.tuple #[sesV r u' v',sc1 x])/\Zk w' u' r.fl/\Zk w' v' r.qu/\Z10c w' x out/\Z8n w.heap.size s u v u' r.fl/\Z8n w.heap.size s u v v' r.qu/\(∀k,Z2 x k->w.heap.size<=k)/\Mod [] w w'
theorem Zk0{n:Nat}{s:Ses}{u v x:Value}{l:List Fl}(h:∀k,Z2 x k->n<=k):Z8n n s u v x l:=λk hk=>.inl (h k hk.2)
theorem Zgi{n:Nat}{s:Ses}{u v x y:Value}{l:List Fl}(h:Z8n n s u v x l)(hb:∀k,Z2 y k->Z2 x k)(i:Nat):Z8n n s u v y (l.drop i):=λk hk=>h k ⟨λh0=>hk.1 (by rw[List.flatten_eq_nil_iff]at h0⊢;intro a ha;rw[List.map_drop]at ha;exact h0 a (List.mem_of_mem_drop ha)),hb k hk.2⟩
def flyI(n:Nat)(s:Ses)(u v:Value)(vs:List V):Prop :=
  ∃(x u' v':Value) (out:List Pk) (fl qu:List Fl) (next:Int),vs=[.v x,.r (out.map encP),.s s.cl,.b s.on,.b s.clean,.v u',.r (fl.map encF),.v v',.r (qu.map encF),.i next] /\
    flyR s.on fl qu next out=flyR s.on s.fl s.qu s.next []/\(1<=next/\next<=65535)/\qu.length<=s.qu.length/\fl.length+qu.length<=s.fl.length+s.qu.length/\out.length+qu.length<=s.qu.length /\
    Z8n n s u v u' fl/\Z8n n s u v v' qu/\(∀k,Z2 x k->n<=k)
theorem Zk1{n:Nat}{s:Ses}{u v x' u' v':Value}{out:List Pk}{fl qu:List Fl}{next id:Int}{vs:List V}(hg:flyR s.on fl qu next out=flyR s.on s.fl s.qu s.next [])(hn:1<=next/\next<=65535) (hq:qu.length<=s.qu.length) (hf:fl.length+qu.length<=s.fl.length+s.qu.length) (ho:out.length+qu.length<=s.qu.length) (hc:(s.on=true/\0<(qu.length:Int))/\(fl.length:Int)<3) (hid:id=Z25 fl next) {R1 R2 R3:List (List Value)} {n1:Int} (hvs:vs=[.v x',.r R1,.s s.cl,.b s.on,.b s.clean,.v u',.r R2,.v v',.r R3,.i n1]) (e1:R1=(out++[(false,1,id,(qu.getD 0 fD).2.1,(qu.getD 0 fD).2.2)]).map encP) (e2:R2=(fl++[(id,(qu.getD 0 fD).2.1,(qu.getD 0 fD).2.2)]).map encF) (e3:R3=(qu.drop 1).map encF) (e4:n1=nx_N id) (p1:∀k,Z2 u' k->n<=k) (p2:Z8n n s u v v' (qu.drop 1)) (p3:∀k,Z2 x' k->n<=k):flyI n s u v vs:=by subst hid e1 e2 e3 e4;have hs:=Zjz (on:=s.on) (fl:=fl) (qu:=qu) (next:=next) (out:=out) ⟨⟨hc.1.1,by omega⟩,by omega⟩;refine⟨x',u',v',_,_,_,_,hvs,hs.symm.trans hg,(Zfp (Zi4 hn)).1,by simp;omega,by simp;omega,by simp;omega,Zk0 p1,p2,p3⟩
theorem Zk2{fl:List Fl}{id:Int}{i:Nat}(hi:i<fl.length):(fl.take (i+1)).any (idIs id)=((fl.take i).any (idIs id) || decide ((fl.getD i fD).1=id)):=Zaa (idIs id) fl i hi
theorem Zxx(qu:List Fl):List.drop (Int.toNat 1) (List.take qu.length (List.map encF qu))=(qu.drop 1).map encF:=by rw[List.take_of_length_le (by simp),List.map_drop];rfl
theorem Z123(w:World)(s:Ses)(u v:Value)(hu:Zk w u s.fl)(hv:Zk w v s.qu)(hn:1<=s.next/\s.next<=65535)(hl1:s.fl.length<1000000)(hl2:s.qu.length<1000000):Calls Tryz.prog 110 #[sesV s u v] w λe w'=>Z14v w w' s u v e (flyS s).1 (flyS s).2:=by
  refine Z1 (Z7r (J:=[.s s.cl,.b s.on,.b s.clean,.v u,.r (s.fl.map encF),.v v,.r (s.qu.map encF),.i s.next]) sxE_ok Tryz.func110 Z7h rfl rfl (Rel.start2 (by simp[Ent.holds,Ent.wr,hu,hv,X.ev])) rfl rfl ?_) rfl;simp only[Tree.goal,X.P,X.ev,SV.ev,CV.ev,Sc.ev,qz,QA,QB,QC,QD,QE,QF,QG,QH,QI,QJ,QK,QL,QM,Nat.reduceAdd];intro b1 b2;refine⟨λvs=>flyI w.heap.size s u v vs,λvs=>(vs.getD 8 (.i 0)).toR.length,⟨_,_,_,[],_,_,_,rfl,rfl,hn,Nat.le_refl _,Nat.le_refl _,by simp,λk hk=>.inr (.inl hk),λk hk=>.inr (.inr hk),λk hk=>by simp[Z2,Value.ownBlock]at hk⟩,?_⟩;rintro _ - ⟨x,u',v',out,fl,qu,next,rfl,hg,hnx,hq,hf,ho,p1,p2,p3⟩;simp only[Tree.goal,X.P,X.ev,SV.ev,CV.ev,Sc.ev,qz,QA,QB,QC,QD,QE,QF,QG,QH,QI,QJ,QK,QL,QM,Nat.reduceAdd,qy3,qy4,gF0,gF1,gF2];refine⟨λhc=>?_,λhc w' hr=>?_⟩
  . intro b3;refine⟨λvs=>∃(id:Int) (ag:Bool),vs=[.i id,.b ag]/\(1<=id/\id<=65535)/\(ag=true->Zm2 fl next id)/\(ag=false->id=Z25 fl next),λvs=>Zi5 next (vs.getD 0 (.i 0)).toI (vs.getD 1 (.i 0)).toB,⟨next,true,rfl,hnx,λ_=>.inl rfl,λh=>Bool.noConfusion h⟩,?_⟩;rintro _ - ⟨id,ag,rfl,hid,ha,hna⟩;simp only[Tree.goal,X.P,X.ev,SV.ev,CV.ev,Sc.ev,qz,QA,QB,QC,QD,QE,QF,QG,QH,QI,QJ,QK,QL,QM,Nat.reduceAdd,qy3,qy4,gF0,gF1,gF2];refine⟨λhag=>?_,λhag=>?_⟩
    . subst hag;have ha:=ha rfl;refine⟨λvs=>∃(i:Nat),vs=[.b ((fl.take i).any (idIs id)),.i i]/\i<=fl.length,λvs=>fl.length - (vs.getD 1 (.i 0)).toI.toNat,⟨0,by simp,by omega⟩,?_⟩;rintro _ - ⟨i,rfl,hi⟩;simp only[Tree.goal,X.P,X.ev,SV.ev,CV.ev,Sc.ev,qz,QA,QB,QC,QD,QE,QF,QG,QH,QI,QJ,QK,QL,QM,Nat.reduceAdd,qy3,qy4,gF0,gF1,gF2];refine⟨λh1=>⟨by omega,λh2=>?_,λh2=>?_⟩,λh1=>?_⟩
      . refine⟨by omega,by omega,⟨i+1,?_,by omega⟩,by omega⟩;rw[Zk2 (by omega),decide_eq_true h2,Bool.or_true];rfl
      . refine⟨by omega,by omega,⟨i+1,?_,by omega⟩,by omega⟩;rw[Zk2 (by omega),decide_eq_false h2,Bool.or_false];rfl
      . have hil:i=fl.length:=by omega
        subst hil;rw[List.take_length];refine⟨λh2=>⟨by omega,by omega,?_,?_⟩,λh2=>?_⟩
        . intro h3;obtain⟨n1,n2⟩:=Z88 (by omega) hnx ha h2;have e:nx_N id=1:=by rw[Zxw hid,if_pos h3]
          rw[e]at n1 n2;exact⟨⟨1,true,by rw[h2],by omega,λ_=>n1,λh=>Bool.noConfusion h⟩,by rw[h2];exact n2⟩
        . intro h3;obtain⟨n1,n2⟩:=Z88 (by omega) hnx ha h2;have e:nx_N id=id+1:=by rw[Zxw hid,if_neg h3]
          rw[e]at n1 n2;exact⟨⟨id+1,true,by rw[h2],by omega,λ_=>n1,λh=>Bool.noConfusion h⟩,by rw[h2];exact n2⟩
        . have h2:fl.any (idIs id)=false:=by simpa using h2
          refine⟨⟨id,false,by rw[h2],hid,λh=>Bool.noConfusion h,λ_=>Zbk ha h2⟩,?_⟩;rw[h2];have:0<Zi5 next id true:=by unfold Zi5;simp only[if_true];split<;>(try split)<;>omega
          exact this
    . have hid2:=hna (by simpa using hag);refine⟨by omega,by omega,λh3=>?_,λh3=>?_⟩
      . have e:1=nx_N id:=by rw[Zxw hid,if_pos h3]
        (repeat (first|(refine⟨by((try simp only[qy3,qy4,gF0,gF1,gF2,qy11,List.nil_append,List.length_cons,List.length_nil]);omega),?_⟩)|(refine⟨Zk1 hg hnx hq hf ho hc hid2 rfl (by simp[encP,List.map_append]) (by simp[encF,List.map_append]) (Zxx qu) e (λk hk=>(by simpa using(by assumption:∀k,Z2 _ k->w.heap.size<=k\/k∈([]:List Nat)) k hk)) (Zgi p2 (by assumption) 1) (λk hk=>(by simpa using(by assumption:∀k,Z2 _ k->w.heap.size<=k\/k∈([]:List Nat)) k hk)),by(simp<;>omega)⟩)|(refine⟨?_,?_⟩)|(intro _ _)))
      . have e:id+1=nx_N id:=by rw[Zxw hid,if_neg h3]
        (repeat (first|(refine⟨by((try simp only[qy3,qy4,gF0,gF1,gF2,qy11,List.nil_append,List.length_cons,List.length_nil]);omega),?_⟩)|(refine⟨Zk1 hg hnx hq hf ho hc hid2 rfl (by simp[encP,List.map_append]) (by simp[encF,List.map_append]) (Zxx qu) e (λk hk=>(by simpa using(by assumption:∀k,Z2 _ k->w.heap.size<=k\/k∈([]:List Nat)) k hk)) (Zgi p2 (by assumption) 1) (λk hk=>(by simpa using(by assumption:∀k,Z2 _ k->w.heap.size<=k\/k∈([]:List Nat)) k hk)),by(simp<;>omega)⟩)|(refine⟨?_,?_⟩)|(intro _ _)))
  . have e:flyR s.on s.fl s.qu s.next []=(fl,qu,next,out):=by
      rw[<- hg];exact Zem (λh=>hc ⟨⟨h.1.1,by omega⟩,by omega⟩)
    refine⟨u',v',x,?_,?_,?_,?_,?_,?_,p3,hr.mod⟩
    . simp only[flyS,e];rfl
    . simp only[flyS,e];exact hr.at_ 4 rfl
    . simp only[flyS,e];exact hr.at_ 5 rfl
    . simp only[flyS,e];exact(hr.at_ 0 rfl).reads
    . simp only[flyS,e];exact p1
    . simp only[flyS,e];exact p2
