/- By an AI agent. -/
import Derived.Shelf.Small.Strs
import Derived.Shelf.Strings.Search3
import Derived.Shelf.Strings.Count
import Derived.Shelf.Strings.Split
import Derived.Shelf.Strings.IndexAnyAll
import Derived.Test.YtimapehenhbloaaGreatDoorProg
import Derived.Test.YtimapehenhbloaaGreatDoorH16
import Derived.Test.YtimapehenhbloaaGreatDoorH10
import Derived.Test.YtimapehenhbloaaGreatDoorH11
import Derived.Test.YtimapehenhbloaaGreatDoorH12
import Derived.Test.YtimapehenhbloaaGreatDoorH14
import Derived.Test.YtimapehenhbloaaGreatDoorH15
import Derived.Test.YtimapehenhbloaaGreatDoorH19
import Derived.Test.YtimapehenhbloaaGreatDoorH17
import Derived.Test.YtimapehenhbloaaGreatDoorH13
import Derived.Test.YtimapehenhbloaaGreatDoorH18
set_option linter.all false
set_option maxHeartbeats 20000000
set_option maxRecDepth 100000
open Nat renaming reduceAdd→ra
open Go.Proofs.Tryz renaming prog→ϐ
open List renaming drop_length→ϑ,take_length→ϒ,getElem?_eq_none→ϓ,length_cons→ϔ,getElem?_map→ϕ,getElem_mem→ϙ,drop_eq_getElem_cons→Ϛ,length_take→Ϟ,append_nil→Ϡ,take_add_one→Ϣ,filter_cons→ϧ,drop_eq_nil_iff→Ϩ,length_nil→ϩ,mem_cons→ϫ,drop_of_length_le→Ϭ,any_append→ϭ,length_filter_le→ϯ,set_append_right→ϰ,getD_cons_zero→ϱ,map_take→ϳ,getElem?_take→Ϸ,filter_append→ϸ,pairwise_cons→Ϲ,ext_getElem?→Ϻ,all_eq_true→ϻ,any_eq_true→β,drop_zero→ε,drop_drop→ζ,any_cons→μ,take→ν
open Go renaming Value→ϖ,Calls→ϗ,World→ϲ
open Nat renaming reduceAdd→Ϙ,zero_add→Ϫ,le_refl→δ,le_trans→ξ
open Bool renaming false→Ϝ,true→ϣ,false_or→ϥ,not_eq_true→Ϧ,eq_iff_iff→Ϯ,noConfusion→γ,and_true→η,true_and→θ
open Classical renaming byContradiction→Ϥ
namespace Go.Proofs
open Go.Shelf
def Tryz.lays106_ren:Go.Shelf.Ren:=⟨fun|106=>114|213=>162|265=>201|n=>n,fun|9=>9|3=>3|n=>n,fun|n=>n⟩
def Tryz.lays106:Go.Proofs.Lays.n106 ϐ Tryz.lays106_ren:={
 mixed:=O2
 f106:=qF Tryz.func114 O2
 f213:=qF Tryz.func162 O2
 f265:=qF Tryz.func201 O2
 t3:=Tryz.underlying3
 a3:=Tryz.isAgg3
 z3:=Tryz.sizeOf3
 v3:=Tryz.zeroValue3
 t9:=Tryz.underlying9
 a9:=Tryz.isAgg9
 z9:=Tryz.sizeOf9
 v9:=Tryz.zeroValue9 }
def Tryz.lays221_ren:Go.Shelf.Ren:=⟨fun|221=>266|268=>302|138=>303|143=>272|195=>326|197=>327|218=>328|219=>308|260=>351|217=>329|225=>307|224=>306|267=>330|266=>352|314=>353|n=>n,fun|9=>9|3=>3|31=>185|4=>4|0=>0|105=>324|21=>21|5=>5|46=>220|119=>355|139=>358|138=>357|146=>344|51=>340|n=>n,fun|1=>0|3=>1|4=>2|n=>n⟩
def Tryz.lays221:Go.Proofs.Lays.n221 ϐ Tryz.lays221_ren:={
 mixed:=O2
 f138:=qF Tryz.func303 O2
 f143:=qF Tryz.func272 O2
 f195:=qF Tryz.func326 O2
 f197:=qF Tryz.func327 O2
 f217:=qF Tryz.func329 O2
 f218:=qF Tryz.func328 O2
 f219:=qF Tryz.func308 O2
 f221:=qF Tryz.func266 O2
 f224:=qF Tryz.func306 O2
 f225:=qF Tryz.func307 O2
 f260:=qF Tryz.func351 O2
 f266:=qF Tryz.func352 O2
 f267:=qF Tryz.func330 O2
 f268:=qF Tryz.func302 O2
 f314:=qF Tryz.func353 O2
 t0:=Tryz.underlying0
 a0:=Tryz.isAgg0
 z0:=Tryz.sizeOf0
 v0:=Tryz.zeroValue0
 t3:=Tryz.underlying3
 a3:=Tryz.isAgg3
 z3:=Tryz.sizeOf3
 v3:=Tryz.zeroValue3
 t4:=Tryz.underlying4
 a4:=Tryz.isAgg4
 z4:=Tryz.sizeOf4
 v4:=Tryz.zeroValue4
 t5:=Tryz.underlying5
 a5:=Tryz.isAgg5
 z5:=Tryz.sizeOf5
 v5:=Tryz.zeroValue5
 t9:=Tryz.underlying9
 a9:=Tryz.isAgg9
 z9:=Tryz.sizeOf9
 v9:=Tryz.zeroValue9
 t21:=Tryz.underlying21
 a21:=Tryz.isAgg21
 z21:=Tryz.sizeOf21
 v21:=Tryz.zeroValue21
 t31:=Tryz.underlying185
 a31:=Tryz.isAgg185
 z31:=Tryz.sizeOf185
 v31:=Tryz.zeroValue185
 t46:=Tryz.underlying220
 a46:=Tryz.isAgg220
 z46:=Tryz.sizeOf220
 v46:=Tryz.zeroValue220
 t51:=Tryz.underlying340
 a51:=Tryz.isAgg340
 z51:=Tryz.sizeOf340
 v51:=Tryz.zeroValue340
 t105:=Tryz.underlying324
 a105:=Tryz.isAgg324
 z105:=Tryz.sizeOf324
 v105:=Tryz.zeroValue324
 t119:=Tryz.underlying355
 a119:=Tryz.isAgg355
 z119:=Tryz.sizeOf355
 t138:=Tryz.underlying357
 a138:=Tryz.isAgg357
 z138:=Tryz.sizeOf357
 v138:=Tryz.zeroValue357
 t139:=Tryz.underlying358
 a139:=Tryz.isAgg358
 z139:=Tryz.sizeOf358
 v139:=Tryz.zeroValue358
 t146:=Tryz.underlying344
 a146:=Tryz.isAgg344
 z146:=Tryz.sizeOf344
 v146:=Tryz.zeroValue344
 g1:=O2
 g3:=O2
 g4:=by kernel_rfl }
def Tryz.lays150_ren:Go.Shelf.Ren:=⟨fun|150=>197|153=>231|152=>267|226=>268|227=>269|228=>270|137=>304|119=>305|224=>306|225=>307|217=>329|266=>352|n=>n,fun|9=>9|4=>4|3=>3|5=>5|21=>21|117=>286|116=>285|0=>0|46=>220|124=>312|n=>n,fun|n=>n⟩
def Tryz.lays150:Go.Proofs.Lays.n150 ϐ Tryz.lays150_ren:={
 mixed:=O2
 f119:=qF Tryz.func305 O2
 f137:=qF Tryz.func304 O2
 f150:=qF Tryz.func197 O2
 f152:=qF Tryz.func267 O2
 f153:=qF Tryz.func231 O2
 f217:=qF Tryz.func329 O2
 f224:=qF Tryz.func306 O2
 f225:=qF Tryz.func307 O2
 f226:=qF Tryz.func268 O2
 f227:=qF Tryz.func269 O2
 f228:=qF Tryz.func270 O2
 f266:=qF Tryz.func352 O2
 t0:=Tryz.underlying0
 a0:=Tryz.isAgg0
 z0:=Tryz.sizeOf0
 v0:=Tryz.zeroValue0
 t3:=Tryz.underlying3
 a3:=Tryz.isAgg3
 z3:=Tryz.sizeOf3
 v3:=Tryz.zeroValue3
 t4:=Tryz.underlying4
 a4:=Tryz.isAgg4
 z4:=Tryz.sizeOf4
 v4:=Tryz.zeroValue4
 t5:=Tryz.underlying5
 a5:=Tryz.isAgg5
 z5:=Tryz.sizeOf5
 v5:=Tryz.zeroValue5
 t9:=Tryz.underlying9
 a9:=Tryz.isAgg9
 z9:=Tryz.sizeOf9
 v9:=Tryz.zeroValue9
 t21:=Tryz.underlying21
 a21:=Tryz.isAgg21
 z21:=Tryz.sizeOf21
 v21:=Tryz.zeroValue21
 t46:=Tryz.underlying220
 a46:=Tryz.isAgg220
 z46:=Tryz.sizeOf220
 v46:=Tryz.zeroValue220
 t116:=Tryz.underlying285
 a116:=Tryz.isAgg285
 z116:=Tryz.sizeOf285
 t117:=Tryz.underlying286
 a117:=Tryz.isAgg286
 z117:=Tryz.sizeOf286
 v117:=Tryz.zeroValue286
 t124:=Tryz.underlying312
 a124:=Tryz.isAgg312
 z124:=Tryz.sizeOf312
 v124:=Tryz.zeroValue312 }
end Go.Proofs
namespace Go.Proofs.Y
open Go.Sx
variable(s:By)
def Z1k:List ϖ:=[.string ⟨s.toArray⟩]
def Zj(ps:List By)(i:Nat):Value.gS (((ps.map Z1k).getD i []).getD 0 undef)=ps.getD i []:=by simp only[qy1,ϕ];cases ps[i]?<;>simp[Z1k,Value.gS,undef]
abbrev Zjb(w:ϲ)(v:ϖ)(ps:List By):Prop:=reads w v [.str] (ps.map Z1k)
def Zwg(n:Nat)(v:ϖ)(ps:List By):Prop:=∀k,(ps.map Z1k).flatten≠[]/\Z1 v k->n<=k
def Zcs(ps:List By)(i:Nat)(h:i<ps.length):ps.drop i=ps.getD i []::ps.drop (i+1):=by rw[Ϛ h,qy1,qy7 h];rfl
def Z8m(k:Nat)(h:k<s.length):s.drop k=s.getD k 0::s.drop (k+1):=by rw[Ϛ h,qy1,qy7 h];rfl
def Z5c(b:UInt8):b.toNat<256:=b.toNat_lt
def lev:By->List By
 | []=>[[]]
 | c::l=>if c=47 then[]::lev l else match lev l with | []=>[[c]] | x::xs=>(c::x)::xs
def glue(p:By):List By->List By
 | []=>[]
 | x::xs=>(p++x)::xs
def Zwh(l:List By):glue [] l=l:=by cases l<;>rfl
def Zmb:∃x xs,lev s=x::xs:=by
 cases s with
 | nil=>exact⟨[],[],rfl⟩
 | cons c l =>
  simp only[lev];split
  ·exact⟨_,_,rfl⟩
  split<;>exact⟨_,_,rfl⟩
def Z8n(l:By):lev (47::l)=[]::lev l:=by simp[lev]
def Z6h{c:UInt8}(l:By)(h:c≠47):lev (c::l)=glue [c] (lev l):=by obtain⟨x,xs,e⟩:=Zmb l;simp[lev,ϛ h,e,glue]
def Z12m(p q:By)(l:List By):glue p (glue q l)=glue (p++q) l:=by cases l<;>simp[glue]
variable(w:ϲ)
def Z8o(s:By)(hs:s.length<1099511627776):ϗ ϐ 127 #[.string ⟨s.toArray⟩] w λe w'=>∃v,e=.returned (sc1 v)/\Zjb w' v (lev s)/\Zwg w.heap.size v (lev s)/\Mod [] w w':=by
 refine Wp (J:=[.s s]) Z7x ?_;simp only[QR];refine⟨λvs=>∃(v:ϖ) (acc:List By) (a i:Nat),vs=[.v v,.r (acc.map Z1k),.i a,.i i]/\acc.length<=i /\
   (i<=s.length/\a<=i/\acc++glue ((s.take i).drop a) (lev (s.drop i))=lev s\/i=s.length+1/\acc=lev s),λvs=>s.length+1 - (vs.getD 3 (.i 0)).toI.toNat,⟨_,[],0,0,rfl,O1,.inl ⟨O,O,by simp[Zwh]⟩⟩,?_⟩
 rintro _ - ⟨v,acc,a,i,rfl,hal,hinv⟩;simp only[QR,ra];refine⟨λh1=>?_,λh1 w' hr=>?_⟩
 ·obtain⟨hi,ha,hg⟩:=hinv.resolve_right λh=>O;refine⟨.inr O,O,λh2=>?_,λh2=>?_⟩
  ·(repeat refine⟨O,?_⟩)
   intro v1;refine⟨O,λv2=>⟨O,O,⟨v2,acc++[(s.take i).drop a],i+1,i+1,by simp[Z1k],O3,?_⟩,O⟩⟩;by_cases h3:i=s.length
   ·subst h3;rw[ϑ]at hg;exact .inr ⟨rfl,by rw[<- hg];simp[lev,glue]⟩
   refine .inl ⟨O,O,?_⟩;have h4:s.getD i 0=47:=by
    have:(s.getD i 0).toNat=47:=by
     rcases h2 with h2|h2
     ·omega
     omega
    exact UInt8.toNat_inj.1 this
   rw[Z8m s i O,h4,Z8n]at hg;have hz:glue ((s.take (i+1)).drop (i+1)) (lev (s.drop (i+1)))=lev (s.drop (i+1)):=by rw[Ϭ O3,Zwh]
   rw[hz,<- hg];simp[glue]
  refine⟨O,O,⟨v,acc,a,i+1,rfl,O,.inl ⟨O,O,?_⟩⟩,O⟩;have h4:s.getD i 0≠47:=λh=>h2 (.inr (by rw[h];rfl));rw[Z8m s i O,Z6h _ h4,Z12m]at hg;rw[<- hg];congr 2;rw[Ϣ,List.drop_append_of_le_length O3,qy1];rw[qy7 O];rfl
 obtain⟨hi,hg⟩:=hinv.resolve_left λh=>O;subst hg;refine⟨v,rfl,owns.reads (hr.at_ 0 rfl),λk hk=>?_,hr.mod⟩;rcases hr.own _ (qy8 ..) rfl k hk.2 with h|h
 ·exact h
 simp at h
def Zwi:∀{s:By},Lib.indexByte s 47=-1->lev s=[s]:=by
 intro s;induction s with
 | nil=>intro _;rfl
 | cons c l ih =>
  intro h;unfold Lib.indexByte at h;split at h
  ·exact ϟ h U
  rename_i hc;have hc:c≠47:=by simpa using hc
  split at h
  ·rename_i h2;rw[Z6h _ hc,ih (by simpa using h2)];rfl
  have:=Lib.indexByte_ge l 47;omega
def Z12n:∀{s:By} {i:Nat},Lib.indexByte s 47=i->lev s=s.take i::lev (s.drop (i+1))/\s.count 47=(s.drop (i+1)).count 47+1:=by
 intro s;induction s with
 | nil=>intro i h;unfold Lib.indexByte at h;omega
 | cons c l ih =>
  intro i h;unfold Lib.indexByte at h;split at h
  ·rename_i hc;have hc:c=47:=by simpa using hc
   have:i=0:=O;subst this hc;rw[Z8n];simp
  rename_i hc;have hc:c≠47:=by simpa using hc
  split at h
  ·omega
  rename_i h2;have h3:=Lib.indexByte_ge l 47;have h2:¬Lib.indexByte l 47=-1:=by simpa using h2
  obtain⟨j,hj⟩:∃j:Nat,Lib.indexByte l 47=j:=⟨(Lib.indexByte l 47).toNat,O⟩
  have hij:i=j+1:=O;subst hij;obtain⟨e1,e2⟩:=ih hj;rw[Z6h _ hc,e1];refine⟨by simp[glue],?_⟩;rw[List.count_cons_of_ne hc,e2];simp
def Zzg:∀(k:Nat) (s:By),s.count 47=k->Lib.splitK [47] 0 k s=lev s:=by
 intro k;induction k with
 | zero =>
  intro s h;unfold Lib.splitK;refine(Zwi ?_).symm;rcases Int.lt_or_le (Lib.indexByte s 47) 0 with h1|h1
  ·have:=Lib.indexByte_ge s 47;omega
  obtain⟨i,hi⟩:∃i:Nat,Lib.indexByte s 47=i:=⟨(Lib.indexByte s 47).toNat,O⟩
  have:=(Z12n hi).2;omega
 | succ k ih =>
  intro s h;unfold Lib.splitK;rw[Lib.index_one];by_cases h1:Lib.indexByte s 47=-1
  ·rw[ϝ (by simpa using h1),Zwi h1]
  rw[ϛ (by simpa using h1)];obtain⟨i,hi⟩:∃i:Nat,Lib.indexByte s 47=i:=⟨(Lib.indexByte s 47).toNat,by have h5:=Lib.indexByte_ge s 47;have h6:=h1;omega⟩
  obtain⟨e1,e2⟩:=Z12n hi;rw[hi,e1,<- ih (s.drop (i+1)) O];simp
def Zzh(s:By)(hs:s.length<4294967281):ϗ ϐ 266 #[.string ⟨s.toArray⟩,.string ⟨#[47]⟩,.int .i64 0,.int .i64 (-1)] w λe w'=>∃v,e=.returned (sc1 v)/\Zjb w' v (lev s)/\Zwg w.heap.size v (lev s)/\Mod [] w w':=by
 have hsz:(⟨s.toArray⟩:ByteArray).size=s.length:=rfl;have hcount:Lib.countB ⟨s.toArray⟩ ⟨#[47]⟩=s.count 47:=Lib.count_one 47 s;have hc1:s.count 47<=s.length:=List.count_le_length;have c:=Any.strings_genSplit_core Tryz.lays221 O2 ⟨s.toArray⟩ ⟨#[47]⟩ 0 (-1) (s.count 47+1) w (by rw[hsz];exact hs) U (Nat.zero_le _)
  (λx c hx=>(Any.strings_Index_one { Tryz.lays221 with } x 47 _).mono λe w' ⟨h1,h2⟩=>⟨by rw[h1];show _=Ending.returned (Value.int .i64 (Lib.index x.data.toList [47]));rw[Lib.index_one],h2⟩)
  ((Any.strings_Count_one { Tryz.lays221 with } ⟨s.toArray⟩ 47 w).mono λe w' ⟨h1,h2⟩=>⟨by rw[h1,hcount];rfl,h2⟩) U U (by rw[ϝ U,hcount,hsz];omega)
 refine(Zb c rfl).mono ?_;rintro e w' ⟨rfl,rfl⟩;rw[Nat.add_sub_cancel];have hdata:=Lib.splitB_data ⟨#[47]⟩ 0 (s.count 47) ⟨s.toArray⟩;have hlev:=hdata.trans (Zzg _ s rfl);have hlen:=Lib.splitB_all ⟨#[47]⟩ U 0 (s.count 47) ⟨s.toArray⟩ hcount;generalize Lib.splitB ⟨#[47]⟩ 0 (s.count 47) ⟨s.toArray⟩=pcs at hlev hlen;rw[hlen];have hll:(lev s).length=s.count 47+1:=by rw[<- hlev,qy3,hlen]
 have hfull:Lib.cellsOf pcs (s.count 47+1)=(pcs.map Value.string).toArray:=by rw[<- hlen];exact Lib.cellsOf_full _
 have hrow:(lev s).map Z1k=pcs.map λb=>[Value.string b]:=by rw[<- hlev,List.map_map];refine List.map_congr_left λb _=>?_;obtain⟨⟨l⟩⟩:=b;rfl
 have hfl:(pcs.map λb=>[Value.string b]).flatten=pcs.map Value.string:=by clear hlev hlen hfull hrow;induction pcs<;>simp_all
 refine⟨.slice (some ⟨w.heap.size,0,none⟩) (s.count 47+1) (s.count 47+1),rfl,⟨(by intro r hr;obtain⟨x,-,rfl⟩:=List.mem_map.1 hr;exact⟨⟨_,rfl⟩,trivial⟩),some ⟨w.heap.size,0,none⟩,s.count 47+1,by rw[qy3,hll],⟨(λh=>by cases h),by rw[qy3,hll];exact δ _⟩,λ_=>⟨_,rfl,λj u hj=>by rw[hrow,hfl]at hj;rw[Zly,Ϫ,hfull];exact(World.cell?_alloc_new ..).trans (by simpa using hj)⟩⟩,λk hk=>by have h:=hk.2;simp only[Z1,Value.ownBlock,Option.some.injEq]at h;omega,Mod.alloc [] w _⟩
def Z1ds(s:By)(hs:s.length<4294967281):ϗ ϐ 230 #[.string ⟨s.toArray⟩,.string ⟨#[47]⟩] w λe w'=>∃v,e=.returned (sc1 v)/\Zjb w' v (lev s)/\Zwg w.heap.size v (lev s)/\Mod [] w w':=by refine Wp (J:=[.s s,.s [47]]) Zdo ?_;simp only[QR];intro w1 hr;refine(Zzh w1 s hs).mono ?_;rintro e w2 ⟨v1,rfl,r1,f1,m1⟩;have hsz:=hr.mod.size;refine⟨[.v v1,.r ((lev s).map Z1k)],rfl,rfl,m1,qy5 _,qy2.2 ⟨⟨r1,λk hk=>.inl (f1 k hk)⟩,qy5 _⟩,Z2,?_⟩;simp only[QR];exact λw' hr=>⟨v1,rfl,hr.at_ 0 rfl,λk hk=>ξ hsz (f1 k hk),hr.mod⟩
def Zhx(s:By)(hs:s.length<4294967281):ϗ ϐ 196 #[.string ⟨s.toArray⟩] w λe w'=>∃v,e=.returned (sc1 v)/\Zjb w' v (lev s)/\Zwg w.heap.size v (lev s)/\Mod [] w w':=by refine Wp (J:=[.s s]) Zfc ?_;simp only[QR];intro w1 hr;refine(Z1ds w1 s hs).mono ?_;rintro e w2 ⟨v1,rfl,r1,f1,m1⟩;have hsz:=hr.mod.size;refine⟨[.v v1,.r ((lev s).map Z1k)],rfl,rfl,m1,qy5 _,qy2.2 ⟨⟨r1,λk hk=>.inl (f1 k hk)⟩,qy5 _⟩,Z2,?_⟩;simp only[QR];exact λw' hr=>⟨v1,rfl,hr.at_ 0 rfl,λk hk=>ξ hsz (f1 k hk),hr.mod⟩
def Z3e:Bool:=s.all λb=>decide (33<=b.toNat/\b.toNat<=126)
def Zmc(i:Nat)(h:i<s.length):Z3e (s.take (i+1))=(Z3e (s.take i) && decide (33<=(s.getD i 0).toNat/\(s.getD i 0).toNat<=126)):=by rw[Ϣ,qy1,qy7 h];simp only[Z3e,List.all_append,Option.toList_some,List.all_cons,List.all_nil,η,Option.getD_some]
variable{i:Nat}
def Zr3{s:By}(h:i<s.length)(h1:¬(33<=(s.getD i 0).toNat/\(s.getD i 0).toNat<=126)):Z3e s=Ϝ:=by rw[<- Ϧ];intro h2;rw[Z3e,ϻ]at h2;have:=h2 (s.getD i 0) (by rw[qy1,qy7 h];exact ϙ h);exact h1 (of_decide_eq_true this)
def Zr4(s:By)(hs:s.length<1099511627776):ϗ ϐ 69 #[.string ⟨s.toArray⟩] w λe w'=>e=.returned (.bool (Z3e s))/\Mod [] w w':=by refine Wp (J:=[.s s]) Z8g ?_;simp only[QR];refine⟨λvs=>∃(x:V) (i:Nat),vs=[x,.i i]/\i<=s.length/\Z3e (s.take i)=ϣ,λvs=>s.length - (vs.getD 1 (.i 0)).toI.toNat,⟨_,0,rfl,O,rfl⟩,?_⟩;rintro _ - ⟨x,i,rfl,hi,hp⟩;simp only[QR];refine⟨λh1=>⟨O,λh2 w' hr=>⟨by rw[Zr3 (i:=i) O O],hr.mod⟩,λh2=>⟨O,O,⟨x,i+1,rfl,O,by rw[Zmc _ _ O,hp,θ,ϡ];omega⟩,O⟩⟩,λh1 w' hr=>⟨?_,hr.mod⟩⟩;have:i=s.length:=O;subst this;rw[ϒ]at hp;rw[hp]
def Zu4(s:By)(hs:s.length<1099511627776):ϗ ϐ 118 #[.string ⟨s.toArray⟩] w λe w'=>e=.returned (.bool (Z3e s))/\Mod [] w w':=by refine Wp (J:=[.s s]) Zh9 ?_;simp only[QR];refine⟨λvs=>∃(x:V) (i:Nat),vs=[x,.i i]/\i<=s.length/\Z3e (s.take i)=ϣ,λvs=>s.length - (vs.getD 1 (.i 0)).toI.toNat,⟨_,0,rfl,O,rfl⟩,?_⟩;rintro _ - ⟨x,i,rfl,hi,hp⟩;simp only[QR];refine⟨λh1=>⟨O,λh2 w' hr=>⟨by rw[Zr3 (i:=i) O O],hr.mod⟩,λh2=>⟨O,O,⟨x,i+1,rfl,O,by rw[Zmc _ _ O,hp,θ,ϡ];omega⟩,O⟩⟩,λh1 w' hr=>⟨?_,hr.mod⟩⟩;have:i=s.length:=O;subst this;rw[ϒ]at hp;rw[hp]
def wild(x:By):Bool:=x.any λb=>b == 43 || b == 35
def Z18f:∀x:By,Lib.containsAny x [43,35]=wild x:=by
 intro x;induction x with
 | nil=>rfl
 | cons b l ih =>
  have hg:=Lib.indexAny_ge [43,35] l;unfold Lib.containsAny at ih⊢;unfold Lib.indexAny;simp only[wild,μ];by_cases h:b=43\/b=35
  ·have h1:([43,35]).contains b=ϣ:=by rcases h with h|h<;>subst h<;>decide
   have h2:(b == 43 || b == 35)=ϣ:=by rcases h with h|h<;>subst h<;>decide
   rw[ϝ h1,h2]<;>rfl
  have h1:¬([43,35]).contains b=ϣ:=by simp;exact⟨λh2=>h (.inl h2),λh2=>h (.inr h2)⟩
  have h2:(b == 43 || b == 35)=Ϝ:=by simp;exact⟨λh2=>h (.inl h2),λh2=>h (.inr h2)⟩
  rw[ϛ h1,h2,ϥ];change _=wild l;rw[<- ih];by_cases h3:Lib.indexAny l [43,35]=-1
  ·rw[ϝ (by simpa using h3),h3]<;>rfl
  rw[ϛ (by simpa using h3)];exact decide_eq_decide.2 O
def Zdv(x:By)(hs:x.length<4294967281)(ha:∀b∈x,b.toNat<128):ϗ ϐ 197 #[.string ⟨x.toArray⟩,.string ⟨#[43,35]⟩] w λe w'=>e=.returned (.bool (wild x))/\Mod [] w w':=by refine(Zb (Any.strings_ContainsAny_laid Tryz.lays150 O2 ⟨x.toArray⟩ ⟨#[43,35]⟩ w hs U (λj b hb=>ha b (qy6 hb)) (λj b hb=>by have:=qy6 hb;simp at this;rcases this with rfl|rfl<;>decide)) rfl).mono (by rintro e w' ⟨h1,h2⟩;refine⟨?_,Mod.of_below h2⟩;rw[h1];exact congrArg (λb=>Ending.returned (Value.bool b)) (Z18f x))
def badL(filter:Bool):List By->Bool
 | []=>Ϝ
 | x::r=>(wild x && (!filter || (!decide (x=[43]) && (!decide (x=[35]) || !decide (r=[]))))) || badL filter r
def chkT(filter:Bool):Int :=
 if s=[]then 1 else if 60<(s.length:Int)\/6<((lev s).length:Int)then 2 else if Z3e s=ϣ then(if badL filter (lev s)=ϣ then 1 else 0)else 1
variable{f:Bool}
def Zod:chkT [] f=1:=rfl
def Zjc{s:By}(h:¬s=[])(h1:60<(s.length:Int)\/6<((lev s).length:Int)):chkT s f=2:=by rw[chkT,ϛ h,ϝ h1]
def Zfq{s:By}(h:¬s=[])(h1:¬(60<(s.length:Int)\/6<((lev s).length:Int)))(h2:¬Z3e s=ϣ):chkT s f=1:=by rw[chkT,ϛ h,ϛ h1,ϛ h2]
def Zoe{s:By}(h:¬s=[])(h1:¬(60<(s.length:Int)\/6<((lev s).length:Int)))(h2:Z3e s=ϣ):chkT s f=if badL f (lev s)=ϣ then 1 else 0:=by rw[chkT,ϛ h,ϛ h1,ϝ h2]
def Z1dt:∀{s x:By},x∈lev s->∀b∈x,b∈s:=by
 intro s;induction s with
 | nil=>intro x hx b hb;simp[lev]at hx;subst hx;simp at hb
 | cons c l ih =>
  intro x hx b hb;by_cases hc:c=47
  ·subst hc;rw[Z8n]at hx;rcases ϫ.1 hx with rfl|hx
   ·simp at hb
   exact qy10 _ (ih hx b hb)
  obtain⟨y,ys,e⟩:=Zmb l;rw[Z6h _ hc,e]at hx;rcases ϫ.1 hx with rfl|hx
  ·rcases qy13.1 hb with hb|hb
   ·simp at hb;subst hb;simp
   exact qy10 _ (ih (by rw[e];exact qy8 ..) b hb)
  exact qy10 _ (ih (by rw[e];exact qy10 _ hx) b hb)
def Zhy{ps:List By}(h:i<ps.length):ps.getD i []∈ps:=by rw[qy1,qy7 h];exact ϙ h
def Zr5{s:By}(hp:Z3e s=ϣ)(h:i<(lev s).length):∀b∈(lev s).getD i [],b.toNat<128:=λb hb=>by have h1:=Z1dt (Zhy h) b hb;have:=of_decide_eq_true (ϻ.1 hp b h1);omega
def Zof{s x:By}(hx:x∈lev s):x.length<=s.length:=by
 induction s generalizing x with
 | nil=>simp[lev]at hx;subst hx;simp
 | cons c l ih =>
  by_cases hc:c=47
  ·subst hc;rw[Z8n]at hx;rcases ϫ.1 hx with rfl|hx
   ·simp
   have:=ih hx;simp;omega
  obtain⟨y,ys,e⟩:=Zmb l;rw[Z6h _ hc,e]at hx;rcases ϫ.1 hx with rfl|hx
  ·have:=ih (by rw[e];exact qy8 ..);simp;omega
  have:=ih (by rw[e];exact qy10 _ hx);simp;omega
def Z6i:(lev s).length<=s.length+1:=by
 induction s with
 | nil=>simp[lev]
 | cons c l ih =>
  by_cases hc:c=47
  ·subst hc;rw[Z8n];simp;omega
  obtain⟨y,ys,e⟩:=Zmb l;rw[Z6h _ hc,e];rw[e]at ih;simp[glue]at *;omega
def Zr6(s:By)(hs:s.length<4294967281):ϗ ϐ 103 #[.string ⟨s.toArray⟩] w λe w'=>e=.returned (.int .i64 (chkT s Ϝ))/\Mod [] w w':=by
 refine Wp (J:=[.s s]) Zj4 ?_;simp only[QR,ra];intro w1 hr;refine(Zhx w1 s O).mono ?_;rintro e w2 ⟨v1,rfl,r1,f1,m1⟩;refine⟨[.v v1,.r ((lev s).map Z1k)],rfl,rfl,m1,qy5 _,qy2.2 ⟨⟨r1,λk hk=>.inl (f1 k hk)⟩,qy5 _⟩,Z2,?_⟩;simp only[QR,ra];have hlc:=Z6i s;refine⟨λh w' hr=>⟨by rw[h,Zod],hr.mod⟩,λh=>⟨λh1 w' hr=>⟨by rw[Zjc h h1],hr.mod⟩,λh1=>?_⟩⟩;refine⟨[.b (Z3e s)],rfl,λ_ w' _=>Zu4 w' s O,?_⟩;simp only[QR,ra];refine⟨λh2 w' hr=>⟨by rw[Zfq h h1 h2],hr.mod⟩,λh2=>?_⟩;(have h2:=qy9.1 h2);rw[Zoe h h1 h2];refine⟨λvs=>∃(x:V) (i:Nat),vs=[x,.i i]/\i<=(lev s).length/\badL Ϝ ((lev s).drop i)=badL Ϝ (lev s),λvs=>(lev s).length - (vs.getD 1 (.i 0)).toI.toNat,⟨_,0,rfl,O,rfl⟩,?_⟩;rintro _ - ⟨x,i,rfl,hi,hg⟩;simp only[QR,ra,Zj];refine⟨λh3=>?_,λh3 w' hr=>⟨?_,hr.mod⟩⟩
 ·rw[Zcs _ i O]at hg;have hsz:=Zof (Zhy (ps:=lev s) (i:=i) O);have has:=Zr5 h2 (i:=i) O;generalize (lev s).getD i []=y at hg hsz has⊢
  (repeat refine⟨O,?_⟩)
  refine⟨[.b (wild y)],rfl,λ_ w' _=>Zdv w' y O has,?_⟩;simp only[QR,ra];simp only[badL,Bool.not_false,Bool.true_or,η]at hg;refine⟨λh4 w' hr=>⟨by rw[<- hg,h4];rfl,hr.mod⟩,λh4=>⟨O,O,⟨x,i+1,rfl,O,?_⟩,O⟩⟩;rw[<- hg,(Ϧ _).mp h4];simp
 have:i=(lev s).length:=O;subst this;rw[ϑ]at hg;rw[<- hg];rfl
def Zwj(s:By)(hs:s.length<4294967281):ϗ ϐ 198 #[.string ⟨s.toArray⟩] w λe w'=>e=.returned (.int .i64 (chkT s ϣ))/\Mod [] w w':=by
 refine Wp (J:=[.s s]) Zfk ?_;simp only[QR,ra];intro w1 hr;refine(Zhx w1 s O).mono ?_;rintro e w2 ⟨v1,rfl,r1,f1,m1⟩;refine⟨[.v v1,.r ((lev s).map Z1k)],rfl,rfl,m1,qy5 _,qy2.2 ⟨⟨r1,λk hk=>.inl (f1 k hk)⟩,qy5 _⟩,Z2,?_⟩;simp only[QR,ra];have hlc:=Z6i s;refine⟨λh w' hr=>⟨by rw[h,Zod],hr.mod⟩,λh=>⟨λh1 w' hr=>⟨by rw[Zjc h h1],hr.mod⟩,λh1=>?_⟩⟩;refine⟨[.b (Z3e s)],rfl,λ_ w' _=>Zu4 w' s O,?_⟩;simp only[QR,ra];refine⟨λh2 w' hr=>⟨by rw[Zfq h h1 h2],hr.mod⟩,λh2=>?_⟩;(have h2:=qy9.1 h2);rw[Zoe h h1 h2];refine⟨λvs=>∃(x:V) (i:Nat),vs=[x,.i i]/\i<=(lev s).length/\badL ϣ ((lev s).drop i)=badL ϣ (lev s),λvs=>(lev s).length - (vs.getD 1 (.i 0)).toI.toNat,⟨_,0,rfl,O,rfl⟩,?_⟩;rintro _ - ⟨x,i,rfl,hi,hg⟩;simp only[QR,ra,Zj];refine⟨λh3=>?_,λh3 w' hr=>⟨?_,hr.mod⟩⟩
 ·rw[Zcs _ i O]at hg;have hsz:=Zof (Zhy (ps:=lev s) (i:=i) O);have has:=Zr5 h2 (i:=i) O;have hlast:(lev s).drop (i+1)=[]↔(i)=((lev s).length:Int) - 1:=by rw[Ϩ];omega
  generalize (lev s).getD i []=y at hg hsz has⊢
  (repeat refine⟨O,?_⟩)
  refine⟨[.b (wild y)],rfl,λ_ w' _=>Zdv w' y O has,?_⟩;simp only[QR,ra];have key:(¬((¬wild y=ϣ\/y=[43])\/y=[35]/\(i)=((lev s).length:Int) - 1))↔(wild y && (!true || (!decide (y=[43]) && (!decide (y=[35]) || !decide ((lev s).drop (i+1)=[])))))=ϣ:=by rw[<- hlast];cases wild y<;>by_cases q1:y=[43]<;>by_cases q2:y=[35]<;>by_cases q3:(lev s).drop (i+1)=[]<;>simp[q1,q2,q3]
  simp only[badL]at hg;refine⟨λh4 w' hr=>⟨by rw[<- hg,key.1 h4];rfl,hr.mod⟩,λh4=>⟨O,O,⟨x,i+1,rfl,O,?_⟩,O⟩⟩;have h5:=(Ϧ _).mp (λh=>h4 (key.2 h));rw[<- hg,h5];simp
 have:i=(lev s).length:=O;subst this;rw[ϑ]at hg;rw[<- hg];rfl
def Z12o(x:By)(k:Nat)(h:k<x.length):wild (x.take (k+1))=(wild (x.take k) || (decide ((x.getD k 0).toNat=43) || decide ((x.getD k 0).toNat=35))):=by
 rw[Ϣ,qy1,qy7 h];simp only[wild,ϭ,Option.toList_some,μ,List.any_nil,Bool.or_false,Option.getD_some];have e1:(x[k] == 43)=decide (x[k].toNat=43):=by rw[Ϯ];simp only[beq_iff_eq,ϡ];exact⟨λh=>by rw[h];rfl,λh=>UInt8.toNat_inj.1 h⟩
 have e2:(x[k] == 35)=decide (x[k].toNat=35):=by rw[Ϯ];simp only[beq_iff_eq,ϡ];exact⟨λh=>by rw[h];rfl,λh=>UInt8.toNat_inj.1 h⟩
 rw[e1,e2]
def Z3f(s:By)(f:Bool)(hs:s.length<4294967281):ϗ ϐ 64 #[.string ⟨s.toArray⟩,.bool f] w λe w'=>e=.returned (.int .i64 (chkT s f))/\Mod [] w w':=by
 refine Wp (J:=[.s s,.b f]) Z6f ?_;simp only[QR,ra];intro w1 hr;refine(Z8o w1 s O).mono ?_;rintro e w2 ⟨v1,rfl,r1,f1,m1⟩;refine⟨[.v v1,.r ((lev s).map Z1k)],rfl,rfl,m1,qy5 _,qy2.2 ⟨⟨r1,λk hk=>.inl (f1 k hk)⟩,qy5 _⟩,Z2,?_⟩;simp only[QR,ra];have hlc:=Z6i s;refine⟨λh w' hr=>⟨by rw[h,Zod],hr.mod⟩,λh=>⟨λh1 w' hr=>⟨by rw[Zjc h h1],hr.mod⟩,λh1=>?_⟩⟩;refine⟨[.b (Z3e s)],rfl,λ_ w' _=>Zr4 w' s O,?_⟩;simp only[QR,ra];refine⟨λh2 w' hr=>⟨by rw[Zfq h h1 h2],hr.mod⟩,λh2=>?_⟩;have h2:=qy9.1 h2;rw[Zoe h h1 h2];refine⟨λvs=>∃(x:V) (i:Nat),vs=[x,.i i]/\i<=(lev s).length/\badL f ((lev s).drop i)=badL f (lev s),λvs=>(lev s).length - (vs.getD 1 (.i 0)).toI.toNat,⟨_,0,rfl,O,rfl⟩,?_⟩;rintro _ - ⟨x,i,rfl,hi,hg⟩;simp only[QR,ra,Zj];refine⟨λh3=>?_,λh3 w' hr=>⟨?_,hr.mod⟩⟩
 ·rw[Zcs _ i O]at hg;have hsz:=Zof (Zhy (ps:=lev s) (i:=i) O);have hlast:(lev s).drop (i+1)=[]↔¬((i)<((lev s).length:Int) - 1):=by rw[Ϩ];omega
  generalize (lev s).getD i []=y at hg hsz⊢
  refine⟨λvs=>∃(k:Nat),vs=[.b (wild (y.take k)),.i k]/\k<=y.length,λvs=>y.length - (vs.getD 1 (.i 0)).toI.toNat,⟨0,rfl,O⟩,?_⟩;rintro _ - ⟨k,rfl,hk⟩;simp only[QR,ra,Zj];refine⟨O,λh4=>?_,λh4=>?_⟩
  ·refine⟨.inr O,.inr O,O,O,⟨k+1,?_,O⟩,O⟩;rw[Z12o y k O];simp only[List.cons.injEq,V.b.injEq,and_true];refine⟨?_,O1⟩;rw[Bool.or_assoc];congr 2
   ·exact decide_eq_decide.2 O
   exact decide_eq_decide.2 O
  have:k=y.length:=O;subst this;rw[ϒ];have key:(wild y=ϣ/\(¬f=ϣ\/¬y=[43]/\(¬y=[35]\/(i)<((lev s).length:Int) - 1)))↔(wild y && (!f || (!decide (y=[43]) && (!decide (y=[35]) || !decide ((lev s).drop (i+1)=[])))))=ϣ:=by
   by_cases q3:(i:Int)<((lev s).length:Int) - 1
   ·have q4:¬(lev s).drop (i+1)=[]:=λh=>hlast.1 h q3;cases wild y<;>cases f<;>by_cases q1:y=[43]<;>by_cases q2:y=[35]<;>simp[q1,q2,q3,q4]
   have q4:(lev s).drop (i+1)=[]:=hlast.2 q3;cases wild y<;>cases f<;>by_cases q1:y=[43]<;>by_cases q2:y=[35]<;>simp[q1,q2,q3,q4]
  simp only[badL]at hg;refine⟨.inr O,.inr O,λh5 w' hr=>⟨by rw[<- hg,key.1 h5];rfl,hr.mod⟩,λh5=>⟨O,O,⟨x,i+1,rfl,O,?_⟩,O⟩⟩;have h6:=(Ϧ _).mp (λh=>h5 (key.2 h));rw[<- hg,h6];simp
 have:i=(lev s).length:=O;subst this;rw[ϑ]at hg;rw[<- hg];rfl
def mt:List By->List By->Bool
 | [],n=>decide (n=[])
 | f::fs,n=>if f=[35]then ϣ else match n with
  | []=>Ϝ
  | x::xs=>if f=[43]\/f=x then mt fs xs else Ϝ
def cv:List By->List By->Bool
 | [],n=>decide (n=[])
 | f::fs,n=>if f=[35]then ϣ else match n with
  | []=>Ϝ
  | x::xs=>if x=[35]then Ϝ else if f=[43]\/f=x then cv fs xs else Ϝ
def Z1bs{f:By}(fs n:List By)(h:f=[35]):mt (f::fs) n=ϣ:=by cases n<;>simp[mt,h]
def Z12p{f:By}(fs:List By)(h:¬f=[35]):mt (f::fs) []=Ϝ:=by simp[mt,h]
def Zu5{f:By}(fs:List By)(x:By)(xs:List By)(h:¬f=[35]):mt (f::fs) (x::xs)=if f=[43]\/f=x then mt fs xs else Ϝ:=by simp[mt,h]
def tk1(f:By)(fs:List By):List.drop (Int.toNat 1) (ν (((fs.length+1:Nat):Int)).toNat (Z1k f::fs.map Z1k))=fs.map Z1k:=by rw[qy4,List.take_of_length_le O1];rfl
def Zdw{w:ϲ}{u:ϖ}{a b:List (List ϖ)}(h:reads w u [.str] a)(e:a=b):reads w u [.str] b:=e▸h
def Z1du:∀(fs ns:List By) (u v:ϖ) (w:ϲ),Zjb w u fs->Zjb w v ns->fs.length<1099511627776->ns.length<1099511627776 -> ϗ ϐ 318 #[sc1 u,sc1 v] w λe w'=>e=.returned (.bool (mt fs ns))/\Mod [] w w':=by
 intro fs;induction fs with
 | nil =>
  intro ns u v w hu hv hl hn;refine Wu (J:=[.v u,.r (([]:List By).map Z1k),.v v,.r (ns.map Z1k)]) Zab (Rel.start2 (by simp only[qy2];exact⟨⟨hu,rfl⟩,⟨hv,rfl⟩,O1⟩)) ?_;simp only[QR,ra];refine⟨λ_ w' hr=>⟨?_,hr.mod⟩,ϟ rfl⟩;simp only[mt,Ending.returned.injEq,Value.bool.injEq];exact decide_eq_decide.2 (by rw[<- List.length_eq_zero_iff];omega)
 | cons f fs ih =>
  intro ns u v w hu hv hl hn;refine Wu (J:=[.v u,.r ((f::fs).map Z1k),.v v,.r (ns.map Z1k)]) Zab (Rel.start2 (by simp only[qy2];exact⟨⟨hu,rfl⟩,⟨hv,rfl⟩,O1⟩)) ?_;simp only[QR,ra,Int.toNat_zero];have g0:Value.gS (((Z1k f::fs.map Z1k).getD 0 []).getD 0 undef)=f:=Zj (f::fs) 0;simp only[ϱ]at g0;have g1:=Zj ns 0;rw[g0,g1];refine⟨λh=>ϟ h O,λ_=>⟨O,λh1 w' hr=>⟨by rw[Z1bs _ _ h1],hr.mod⟩,λh1=>?_⟩⟩;rcases ns with _|⟨x,xs⟩
  ·refine⟨.inl λh=>ϟ rfl h.1,λ_ w' hr=>⟨by rw[Z12p _ h1],hr.mod⟩,λh=>ϟ (.inl rfl) h⟩
  have hl':fs.length<1099511627776:=by rw[ϔ]at hl;omega
  have hn':xs.length<1099511627776:=by rw[ϔ]at hn;omega
  simp only[ϱ,ϔ];rw[Zu5 _ _ _ h1];refine⟨.inr O,λh2 w' hr=>⟨?_,hr.mod⟩,λh2=>?_⟩
  ·rw[ϛ];intro h3;rcases h2 with h2|h2
   ·omega
   rcases h3 with h3|h3
   ·exact h2.1 h3
   exact h2.2 h3
  have h3:f=[43]\/f=x:=by
   by_cases h4:f=[43]
   ·exact .inl h4
   by_cases h5:f=x
   ·exact .inr h5
   exact ϟ (.inr ⟨h4,h5⟩) h2
  rw[ϝ h3];refine⟨⟨O,λv1=>⟨O,λv2=>by refine⟨[.b (mt fs xs)],rfl,λ_ w' hr=>?_,?_⟩;(· have q0:=hr.at_ 0 rfl;have q1:=hr.at_ 1 rfl;simp only[Ent.holds,QQ,Ϙ,qy3,ϔ]at q0 q1;exact ih xs v1 v2 w' (Zdw q1 (tk1 _ _)) (Zdw q0 (tk1 _ _)) hl' hn');simp only[QR,ra];exact λw' hr=>⟨O6,hr.mod⟩⟩⟩,⟨O,λv1=>⟨O,λv2=>by refine⟨[.b (mt fs xs)],rfl,λ_ w' hr=>?_,?_⟩;(· have q0:=hr.at_ 0 rfl;have q1:=hr.at_ 1 rfl;simp only[Ent.holds,QQ,Ϙ,qy3,ϔ]at q0 q1;exact ih xs v2 v1 w' (Zdw q0 (tk1 _ _)) (Zdw q1 (tk1 _ _)) hl' hn');simp only[QR,ra];exact λw' hr=>⟨O6,hr.mod⟩⟩⟩⟩
def Z1dv(f n:By)(hf:f.length<4294967281)(hn:n.length<4294967281):ϗ ϐ 281 #[.string ⟨f.toArray⟩,.string ⟨n.toArray⟩] w λe w'=>e=.returned (.bool (mt (lev f) (lev n)))/\Mod [] w w':=by refine Wp (J:=[.s f,.s n]) Zlf ?_;simp only[QR];intro w1 hr;refine(Zhx w1 f hf).mono ?_;rintro e w2 ⟨v1,rfl,r1,f1,m1⟩;refine⟨[.v v1,.r ((lev f).map Z1k)],rfl,rfl,m1,qy5 _,qy2.2 ⟨⟨r1,λk hk=>.inl (f1 k hk)⟩,qy5 _⟩,Z2,?_⟩;simp only[QR];intro w3 hr;refine(Zhx w3 n hn).mono ?_;rintro e w4 ⟨v2,rfl,r1,f1,m1⟩;refine⟨[.v v2,.r ((lev n).map Z1k)],rfl,rfl,m1,qy5 _,qy2.2 ⟨⟨r1,λk hk=>.inl (f1 k hk)⟩,qy5 _⟩,Z2,?_⟩;simp only[QR,ra];have l1:=Z6i f;have l2:=Z6i n;refine⟨[.b (mt (lev f) (lev n))],rfl,λ_ w' hr=>Z1du (lev f) (lev n) v1 v2 w' (hr.at_ 1 rfl) (hr.at_ 0 rfl) O O,?_⟩;simp only[QR,ra];exact λw' hr=>⟨O6,hr.mod⟩
def Z12q(f n:By)(hf:f.length<4294967281)(hn:n.length<4294967281):ϗ ϐ 140 #[.string ⟨f.toArray⟩,.string ⟨n.toArray⟩] w λe w'=>e=.returned (.bool (mt (lev f) (lev n)))/\Mod [] w w':=by
 refine Wp (J:=[.s f,.s n]) Zam ?_;simp only[QR];intro w1 hr;refine(Z8o w1 f O).mono ?_;rintro e w2 ⟨v1,rfl,r1,f1,m1⟩;refine⟨[.v v1,.r ((lev f).map Z1k)],rfl,rfl,m1,qy5 _,qy2.2 ⟨⟨r1,λk hk=>.inl (f1 k hk)⟩,qy5 _⟩,Z2,?_⟩;simp only[Ϙ];intro w3 hr;refine(Z8o w3 n O).mono ?_;rintro e w4 ⟨v2,rfl,r1,f1,m1⟩;refine⟨[.v v2,.r ((lev n).map Z1k)],rfl,rfl,m1,qy5 _,qy2.2 ⟨⟨r1,λk hk=>.inl (f1 k hk)⟩,qy5 _⟩,Z2,?_⟩;simp only[QR,ra];have l1:=Z6i f;have l2:=Z6i n;generalize lev f=fs at *;generalize lev n=ns at *
 refine⟨λvs=>∃(x:V) (i:Nat),vs=[x,.i i]/\i<=fs.length/\i<=ns.length/\mt (fs.drop i) (ns.drop i)=mt fs ns,λvs=>fs.length - (vs.getD 1 (.i 0)).toI.toNat,⟨_,0,rfl,O,O,rfl⟩,?_⟩;rintro _ - ⟨x,i,rfl,hi,hj,hg⟩;simp only[QR,ra,Zj];refine⟨λh1=>⟨O,λh2 w' hr=>⟨by rw[Zcs fs i O,Z1bs _ _ h2]at hg;rw[<- hg],hr.mod⟩,λh2=>?_⟩,λh1 w' hr=>⟨?_,hr.mod⟩⟩
 ·rw[Zcs fs i O]at hg;refine⟨O,λh3 w' hr=>⟨?_,hr.mod⟩,λh3=>?_⟩
  ·by_cases h4:ns.length<=i
   ·rw[Ϭ h4,Z12p _ h2]at hg;rw[<- hg]
   rw[Zcs ns i O,Zu5 _ _ _ h2,ϛ]at hg
   ·rw[<- hg]
   intro h5;rcases h3 with h3|h3
   ·omega
   rcases h5 with h5|h5
   ·exact h3.1 h5
   exact h3.2 h5
  have h4:¬ns.length<=i:=λh=>h3 (.inl O);rw[Zcs ns i O,Zu5 _ _ _ h2,ϝ]at hg
  ·exact⟨O,O,⟨x,i+1,rfl,O,O,hg⟩,O⟩
  by_cases h5:fs.getD i []=[43]
  ·exact .inl h5
  by_cases h6:fs.getD i []=ns.getD i []
  ·exact .inr h6
  exact ϟ (.inr ⟨h5,h6⟩) h3
 have:i=fs.length:=O;subst this;rw[ϑ]at hg;rw[<- hg];simp only[mt,Ending.returned.injEq,Value.bool.injEq];exact decide_eq_decide.2 (by rw[Ϩ];omega)
abbrev Wat:=Int×By×By×Int
def Z4(w:Wat):List ϖ:=[.int .i64 w.1,.string ⟨w.2.1.toArray⟩,.string ⟨w.2.2.1.toArray⟩,.int .i64 w.2.2.2]
abbrev wD_K:Wat:=(0,[],[],0)
def Z36(l:List Wat)(i:Nat):Value.gI (((l.map Z4).getD i []).getD 0 undef)=(l.getD i wD_K).1:=by simp only[qy1,ϕ];cases l[i]?<;>rfl
def Z37(l:List Wat)(i:Nat):Value.gS (((l.map Z4).getD i []).getD 1 undef)=(l.getD i wD_K).2.1:=by simp only[qy1,ϕ];cases l[i]?<;>simp[Z4,Value.gS,undef]
def Z1s(l:List Wat)(i:Nat):Value.gS (((l.map Z4).getD i []).getD 2 undef)=(l.getD i wD_K).2.2.1:=by simp only[qy1,ϕ];cases l[i]?<;>simp[Z4,Value.gS,undef]
def gW3(l:List Wat)(i:Nat):Value.gI (((l.map Z4).getD i []).getD 3 undef)=(l.getD i wD_K).2.2.2:=by simp only[qy1,ϕ];cases l[i]?<;>rfl
abbrev kW_K:List Kd:=[.int .i64,.str,.str,.int .i64]
abbrev Z31(w:ϲ)(v:ϖ)(l:List Wat):Prop:=reads w v kW_K (l.map Z4)
def Z1bt(n:Nat)(v:ϖ)(l:List Wat):Prop:=∀k,(l.map Z4).flatten≠[]/\Z1 v k->n<=k
def Zzi(n:Nat)(v:ϖ):Z1bt n v []:=λk hk=>ϟ rfl hk.1
def Zr7:Z31 w (.slice none 0 0) []:=⟨O1,none,0,rfl,⟨λ_=>rfl,δ _⟩,ϟ rfl⟩
def Zog(l:List Wat)(i:Nat)(h:i<l.length):l.drop i=l.getD i wD_K::l.drop (i+1):=by rw[Ϛ h,qy1,qy7 h];rfl
def Zct(l:List Wat)(i:Nat)(h:i<l.length):l.take (i+1)=l.take i++[l.getD i wD_K]:=by rw[Ϣ,qy1,qy7 h];rfl
variable{k:Nat}
def Zwk(l:List Wat)(h:k<i):(l.take i).getD k wD_K=l.getD k wD_K:=by simp only[qy1,Ϸ,ϝ h]
variable(p:Int)
def Z4x(t n:By):Int:=if 0<=p/\p<=9 then(if 8<(t.length:Int)then 2 else chkT n Ϝ)else 3
def Z8p(t:By)(w:Wat):Bool:=decide (w.1=p/\w.2.1=t)
def chkL:List Wat->List Wat->Int
 | _,[]=>0
 | prev,w::l=>if Z4x w.1 w.2.1 w.2.2.1≠0 then Z4x w.1 w.2.1 w.2.2.1 else if 0<=w.2.2.2/\w.2.2.2<=16777215 then(if prev.any (Z8p w.1 w.2.1)=ϣ then 6 else chkL (prev++[w]) l)else 3
def Z1d(l:List Wat):Int:=if 12<(l.length:Int)then 2 else chkL [] l
def Z1dw(x:Wat)(hn:x.2.2.1.length<4294967281):ϗ ϐ 107 #[.agg #[.int .i64 x.1,.string ⟨x.2.1.toArray⟩,.string ⟨x.2.2.1.toArray⟩,.int .i64 x.2.2.2]] w λe w'=>e=.returned (.int .i64 (Z4x x.1 x.2.1 x.2.2.1))/\Mod [] w w':=by refine Wp (J:=[.i x.1,.s x.2.1,.s x.2.2.1,.i x.2.2.2]) Zlh ?_;simp only[QR];intro b;refine⟨λh w' hr=>⟨by rw[Z4x,ϛ h],hr.mod⟩,λh=>⟨λh1 w' hr=>⟨by rw[Z4x,ϝ (qy9.1 h),ϝ h1],hr.mod⟩,λh1=>?_⟩⟩;refine⟨[.i (chkT x.2.2.1 Ϝ)],rfl,λ_ w' _=>Zr6 w' _ hn,?_⟩;simp only[QR];exact λw' hr=>⟨by rw[Z4x,ϝ (qy9.1 h),ϛ h1],hr.mod⟩
def Zr8(p:Int)(t n:By)(hn:n.length<4294967281):ϗ ϐ 68 #[.int .i64 p,.string ⟨t.toArray⟩,.string ⟨n.toArray⟩] w λe w'=>e=.returned (.int .i64 (Z4x p t n))/\Mod [] w w':=by refine Wp (J:=[.i p,.s t,.s n]) Z6g ?_;simp only[QR];refine⟨λh w' hr=>⟨by rw[Z4x,ϛ h],hr.mod⟩,λh=>⟨λh1 w' hr=>⟨by rw[Z4x,ϝ (qy9.1 h),ϝ h1],hr.mod⟩,λh1=>?_⟩⟩;refine⟨[.i (chkT n Ϝ)],rfl,λ_ w' _=>Z3f w' n Ϝ hn,?_⟩;simp only[QR];exact λw' hr=>⟨by rw[Z4x,ϝ (qy9.1 h),ϛ h1],hr.mod⟩
def Z9n(l:List Wat):Prop:=∀x∈l,x.2.2.1.length<4294967281
def Zjd{l:List Wat}(h:Z9n l)(i:Nat):(l.getD i wD_K).2.2.1.length<4294967281:=by
 by_cases hi:i<l.length
 ·rw[qy1,qy7 hi];exact h _ (ϙ hi)
 rw[qy1,ϓ O];decide
def Zoh(p:Wat->Bool)(l:List Wat)(k:Nat)(h:k<l.length):(l.take (k+1)).any p=((l.take k).any p || p (l.getD k wD_K)):=by rw[Zct l k h,ϭ];simp
def Zwl{p:Wat->Bool}{l:List Wat}(hk:k<i)(hi:i<=l.length)(h:p (l.getD k wD_K)=ϣ):(l.take i).any p=ϣ:=by rw[β];refine⟨l.getD k wD_K,?_,h⟩;rw[<- Zwk l hk,qy1,qy7 O3];exact ϙ _
def Z86(v:ϖ)(l:List Wat)(hv:Z31 w v l)(hs:Z9n l)(hl:l.length<1099511627776):ϗ ϐ 22 #[sc1 v] w λe w'=>e=.returned (.int .i64 (Z1d l))/\Mod [] w w':=by
 refine Wr (J:=[.v v,.r (l.map Z4)]) Z55 ?_;simp only[QR,ra];refine⟨λh w' hr=>⟨by rw[Z1d,ϝ h],hr.mod⟩,λh=>?_⟩;rw[Z1d,ϛ h];refine⟨λvs=>∃(i:Nat) (x:V),vs=[x,.i i]/\i<=l.length/\chkL (l.take i) (l.drop i)=chkL [] l,λvs=>l.length - (vs.getD 1 (.i 0)).toI.toNat,⟨0,_,rfl,O,rfl⟩,?_⟩;rintro _ - ⟨i,x,rfl,hi,hg⟩;simp only[QR,ra,Z36,Z37,Z1s,gW3];refine⟨λh1=>?_,λh1 w' hr=>⟨?_,hr.mod⟩⟩
 ·have hsm:=Zjd hs i;rw[Zog l i O]at hg;simp only[chkL]at hg;refine⟨O,[.i (Z4x (l.getD i wD_K).1 (l.getD i wD_K).2.1 (l.getD i wD_K).2.2.1)],rfl,λ_ w' _=>Zr8 w' _ _ _ hsm,?_⟩;simp only[QR,ra,Z36,Z37,Z1s,gW3];refine⟨λh2 w' hr=>⟨by rw[<- hg,ϝ h2],hr.mod⟩,λh2=>?_⟩;rw[ϛ h2]at hg;refine⟨λh3 w' hr=>⟨by rw[<- hg,ϛ h3],hr.mod⟩,λh3=>?_⟩;rw[ϝ (qy9.1 h3)]at hg;refine⟨λvs=>∃(k:Nat) (y:V),vs=[y,.i k]/\k<=i/\(l.take k).any (Z8p (l.getD i wD_K).1 (l.getD i wD_K).2.1)=Ϝ,λvs=>i - (vs.getD 1 (.i 0)).toI.toNat,⟨0,_,rfl,O,O1⟩,?_⟩;rintro _ - ⟨k,y,rfl,hk,hno⟩;simp only[QR,ra,Z36,Z37,Z1s,gW3];refine⟨λh4=>⟨O,O,λh5 w' hr=>⟨by rw[<- hg,ϝ (Zwl (k:=k) O O (by simp only[Z8p,ϡ];exact h5))],hr.mod⟩,λh5=>by refine⟨O,O,⟨k+1,y,rfl,O,?_⟩,O⟩;rw[Zoh _ l k O,hno,ϥ];simp only[Z8p,decide_eq_false_iff_not];exact h5⟩,λh4=>?_⟩
  ·have:k=i:=O;subst this;rw[ϛ (by rw[hno];decide),<- Zct l k O]at hg;exact⟨O,O,⟨k+1,_,rfl,O,hg⟩,O⟩
 have:i=l.length:=O;subst this;rw[ϑ]at hg;rw[<- hg];rfl
def Zzj(v:ϖ)(l:List Wat)(hv:Z31 w v l)(hs:Z9n l)(hl:l.length<1099511627776):ϗ ϐ 46 #[sc1 v] w λe w'=>e=.returned (.int .i64 (Z1d l))/\Mod [] w w':=by
 refine Wr (J:=[.v v,.r (l.map Z4)]) Zhg ?_;simp only[QR,ra];refine⟨λh w' hr=>⟨by rw[Z1d,ϝ h],hr.mod⟩,λh=>?_⟩;rw[Z1d,ϛ h];refine⟨λvs=>∃(i:Nat) (x:V),vs=[x,.i i]/\i<=l.length/\chkL (l.take i) (l.drop i)=chkL [] l,λvs=>l.length - (vs.getD 1 (.i 0)).toI.toNat,⟨0,_,rfl,O,rfl⟩,?_⟩;rintro _ - ⟨i,x,rfl,hi,hg⟩;simp only[QR,ra,Z36,Z37,Z1s,gW3];refine⟨λh1=>?_,λh1 w' hr=>⟨?_,hr.mod⟩⟩
 ·have hsm:=Zjd hs i;rw[Zog l i O]at hg;simp only[chkL]at hg;refine⟨O,λb1=>⟨[.i (Z4x (l.getD i wD_K).1 (l.getD i wD_K).2.1 (l.getD i wD_K).2.2.1)],rfl,λ_ w' _=>Z1dw w' (l.getD i wD_K) hsm,?_⟩⟩;simp only[QR,ra,Z36,Z37,Z1s,gW3];refine⟨λh2 w' hr=>⟨by rw[<- hg,ϝ h2],hr.mod⟩,λh2=>?_⟩;rw[ϛ h2]at hg;refine⟨λh3 w' hr=>⟨by rw[<- hg,ϛ h3],hr.mod⟩,λh3=>?_⟩;rw[ϝ (qy9.1 h3)]at hg;refine⟨O,λv1=>?_⟩;refine⟨λvs=>∃(k:Nat) (y:V),vs=[y,.i k,.i (l.getD i wD_K).1,.s (l.getD i wD_K).2.1,.s (l.getD i wD_K).2.2.1,.i (l.getD i wD_K).2.2.2]/\k<=i/\(l.take k).any (Z8p (l.getD i wD_K).1 (l.getD i wD_K).2.1)=Ϝ,λvs=>i - (vs.getD 1 (.i 0)).toI.toNat,⟨0,_,rfl,O,O1⟩,?_⟩;rintro _ - ⟨k,y,rfl,hk,hno⟩;simp only[QR,ra,Int.toNat_zero,ε,<- ϳ,Z36,Z37,Z1s,gW3,Ϟ];refine⟨λh4=>⟨O,λb2 b3=>?_⟩,λh4=>?_⟩
  ·have hki:k<i:=O;rw[Zwk l hki];refine⟨λh5 w' hr=>⟨by rw[<- hg,ϝ (Zwl O O (by simp only[Z8p,ϡ];exact h5))],hr.mod⟩,λh5=>by refine⟨O,O,⟨k+1,y,rfl,O,?_⟩,O⟩;rw[Zoh _ l k O,hno,ϥ];simp only[Z8p,decide_eq_false_iff_not];exact h5⟩
  have:k=i:=O;subst this;rw[ϛ (by rw[hno];decide),<- Zct l k O]at hg;refine⟨λh5=>ϟ h5 U,λ_=>⟨O,O,⟨k+1,_,rfl,O,hg⟩,O⟩⟩
 have:i=l.length:=O;subst this;rw[ϑ]at hg;rw[<- hg];rfl
def Zoi(u v:ϖ)(a b:List Wat)(hu:Z31 w u a)(hv:Z31 w v b)(hl:a.length<1099511627776):ϗ ϐ 99 #[sc1 u,sc1 v] w λe w'=>e=.returned (.bool (decide (a=b)))/\Mod [] w w':=by
 refine Wr (J:=[.v u,.r (a.map Z4),.v v,.r (b.map Z4)]) Z5l ?_;simp only[QR,ra];refine⟨λh w' hr=>⟨by rw[decide_eq_false];intro e;rw[e]at h;exact h rfl,hr.mod⟩,λh=>?_⟩;have hlen:a.length=b.length:=O;refine⟨λvs=>∃(i:Nat) (x:V),vs=[x,.i i]/\i<=a.length/\∀j,j<i->a.getD j wD_K=b.getD j wD_K,λvs=>a.length - (vs.getD 1 (.i 0)).toI.toNat,⟨0,_,rfl,O,λj hj=>O⟩,?_⟩;rintro _ - ⟨i,x,rfl,hi,hall⟩;simp only[QR,ra,Z36,Z37,Z1s,gW3];refine⟨λh7=>⟨O,O,λh8 w' hr=>⟨(by rw[decide_eq_false];intro e;rw[e]at h8;exact h8 ⟨rfl,rfl,rfl,rfl⟩),hr.mod⟩,λh8=>⟨O,O,⟨i+1,x,rfl,O,λj hj=>?_⟩,O⟩⟩,λh7 w' hr=>⟨?_,hr.mod⟩⟩
 ·by_cases hji:j=i
  ·subst hji;have h9:=qy9.1 h8;exact Prod.ext h9.1 (Prod.ext h9.2.1 (Prod.ext h9.2.2.1 h9.2.2.2))
  exact hall j O
 rw[decide_eq_true];refine Ϻ λj=>?_;by_cases hj:j<a.length
 ·have:=hall j O;rw[qy1,qy1,qy7 hj,qy7 O]at this;rw[qy7 hj,qy7 O];simpa using this
 rw[ϓ O,ϓ O]
abbrev Zb4(w:ϲ)(v:ϖ)(l:List Wat):Prop:=owns w v 68 kW_K (l.map Z4)
def Zdx(n:Nat)(v:ϖ):Prop:=∀k,Z1 v k->n<=k
def filt(t:By)(l:List Wat):List Wat:=l.filter λw=>!Z8p p t w
def Zje(t:By)(l:List Wat)(i:Nat)(h:i<l.length):filt p t (l.take (i+1))=filt p t (l.take i)++(if Z8p p t (l.getD i wD_K)=ϣ then[]else[l.getD i wD_K]):=by
 rw[Zct l i h,filt,ϸ];congr 1;cases h2:Z8p p t (l.getD i wD_K)
 ·rw[ϧ,h2];rfl
 rw[ϧ,h2];rfl
def Zoj(t:By)(l:List Wat):(filt p t l).length<=l.length:=ϯ ..
def Z3g(l:List Wat)(x:Wat):l.map Z4++[[Value.int .i64 x.1,.string ⟨x.2.1.toArray⟩,.string ⟨x.2.2.1.toArray⟩,.int .i64 x.2.2.2]]=(l++[x]).map Z4:=by simp[Z4]
def Zmd(v:ϖ)(l:List Wat)(p:Int)(t:By)(hv:Z31 w v l)(hl:l.length<1000000000):ϗ ϐ 76 #[sc1 v,.int .i64 p,.string ⟨t.toArray⟩] w λe w'=>∃v',e=.returned (sc1 v')/\Zb4 w' v' (filt p t l)/\Zdx w.heap.size v'/\Mod [] w w':=by
 refine Wr (J:=[.v v,.r (l.map Z4),.i p,.s t]) Z7u ?_;simp only[QR,ra];refine⟨λvs=>∃(i:Nat) (u:ϖ),vs=[.v u,.r ((filt p t (l.take i)).map Z4),.i i]/\i<=l.length,λvs=>l.length - (vs.getD 2 (.i 0)).toI.toNat,⟨0,_,rfl,O⟩,?_⟩;rintro _ - ⟨i,u,rfl,hi⟩;simp only[QR,ra,Z36,Z37,Z1s,gW3];have hfl:=Zoj p t (l.take i);rw[Ϟ]at hfl;refine⟨λh1=>?_,λh1 w' hr=>?_⟩
 ·have hf:=Zje p t l i O;refine⟨O,λh2=>(by rw[ϛ (by simp only[Z8p,ϡ];intro h;rcases h2 with h2|h2;exact h2 h.1;exact h2 h.2)]at hf;intro v1;refine⟨O,λv2=>⟨O,O,⟨i+1,v2,?_,O⟩,O⟩⟩;rw[hf,Z3g];rfl),λh2=>by rw[ϝ (by simp only[Z8p,ϡ];exact⟨Ϥ λh=>h2 (.inl h),Ϥ λh=>h2 (.inr h)⟩),Ϡ]at hf;exact⟨O,O,⟨i+1,u,by rw[hf];rfl,O⟩,O⟩⟩
 have:i=l.length:=O;subst this;rw[ϒ]at hr;refine⟨u,rfl,hr.at_ 0 rfl,λk hk=>?_,hr.mod⟩;rcases hr.own _ (qy8 ..) rfl k hk with h|h
 ·exact h
 simp at h
variable(n:By)
def Z5o(w:Wat):Wat:=if w.2.2.1=n then(w.1,w.2.1,w.2.2.1,if 16777215<w.2.2.2+1 then 0 else w.2.2.2+1)else w
def Z3j(l:List Wat):List Wat:=l.map (Z5o n)
def Z3x(l:List Wat):List Wat:=(l.filter λw=>decide (w.2.2.1=n)).map (Z5o n)
def okN(l:List Wat):Prop:=∀x∈l,0<=x.2.2.2/\x.2.2.2<=16777215
def Z1bu{l:List Wat}(h:okN l)(i:Nat):0<=(l.getD i wD_K).2.2.2/\(l.getD i wD_K).2.2.2<=16777215:=by
 by_cases hi:i<l.length
 ·rw[qy1,qy7 hi];exact h _ (ϙ hi)
 rw[qy1,ϓ O];decide
def Zjf(l:List Wat)(i:Nat)(h:i<l.length):Z3j n (l.take (i+1))=Z3j n (l.take i)++[Z5o n (l.getD i wD_K)]:=by rw[Zct l i h];simp[Z3j]
def Zme(l:List Wat)(i:Nat)(h:i<l.length):Z3x n (l.take (i+1))=Z3x n (l.take i)++(if(l.getD i wD_K).2.2.1=n then[Z5o n (l.getD i wD_K)]else[]):=by
 rw[Zct l i h,Z3x,ϸ,List.map_append];congr 1;by_cases hc:(l.getD i wD_K).2.2.1=n
 ·rw[ϧ,ϝ (by simpa using hc),ϝ hc];rfl
 rw[ϧ,ϛ (by simpa using hc),ϛ hc];rfl
def Zjg(l:List Wat):(Z3x n l).length<=l.length:=by rw[Z3x,qy3];exact ϯ ..
def Z18g(v:ϖ)(l:List Wat)(n:By)(hv:Z31 w v l)(hl:l.length<1000000000)(hok:okN l):ϗ ϐ 132 #[sc1 v,.string ⟨n.toArray⟩] w λe w'=>∃v1 v2,e=.returned (.tuple #[sc1 v1,sc1 v2])/\Zb4 w' v1 (Z3j n l)/\Zb4 w' v2 (Z3x n l)/\Zdx w.heap.size v1/\Zdx w.heap.size v2/\Mod [] w w':=by
 refine Wr (J:=[.v v,.r (l.map Z4),.s n]) Z9h ?_;simp only[QR,ra];refine⟨λvs=>∃(i:Nat) (u1 u2:ϖ),vs=[.v u1,.r ((Z3j n (l.take i)).map Z4),.v u2,.r ((Z3x n (l.take i)).map Z4),.i i]/\i<=l.length,λvs=>l.length - (vs.getD 4 (.i 0)).toI.toNat,⟨0,_,_,rfl,O⟩,?_⟩;rintro _ - ⟨i,u1,u2,rfl,hi⟩;simp only[QR,ra,Z36,Z37,Z1s,gW3];have hfl:=Zjg n (l.take i);have htl:(Z3j n (l.take i)).length=min i l.length:=by simp[Z3j]
 rw[Ϟ]at hfl;refine⟨λh1=>?_,λh1 w' hr=>?_⟩
 ·have hf1:=Zjf n l i O;have hf2:=Zme n l i O;have hok1:=Z1bu hok i;refine⟨O,λb=>⟨λh2=>?_,λh2=>?_⟩⟩
  ·rw[ϝ h2]at hf2;refine⟨O,O,λh3=>?_,λh3=>?_⟩
   ·have ht:Z5o n (l.getD i wD_K)=((l.getD i wD_K).1,(l.getD i wD_K).2.1,(l.getD i wD_K).2.2.1,0):=by rw[Z5o,ϝ h2,ϝ h3]
    intro v1;refine⟨O,λv2 v3=>⟨O,λv4=>⟨O,O,⟨i+1,v4,v2,?_,O⟩,O⟩⟩⟩;rw[hf1,hf2,ht,<- Z3g,<- Z3g];rfl
   have ht:Z5o n (l.getD i wD_K)=((l.getD i wD_K).1,(l.getD i wD_K).2.1,(l.getD i wD_K).2.2.1,(l.getD i wD_K).2.2.2+1):=by rw[Z5o,ϝ h2,ϛ h3]
   intro v1;refine⟨O,λv2 v3=>⟨O,λv4=>⟨O,O,⟨i+1,v4,v2,?_,O⟩,O⟩⟩⟩;rw[hf1,hf2,ht,<- Z3g,<- Z3g];rfl
  rw[ϛ h2,Ϡ]at hf2;have ht:Z5o n (l.getD i wD_K)=l.getD i wD_K:=by rw[Z5o,ϛ h2]
  intro v1;refine⟨O,λv2=>⟨O,O,⟨i+1,v2,u2,?_,O⟩,O⟩⟩;rw[hf1,hf2,ht,<- Z3g];rfl
 have:i=l.length:=O;subst this;rw[ϒ]at hr;refine⟨u1,u2,rfl,hr.at_ 1 rfl,hr.at_ 0 rfl,?_,?_,hr.mod⟩
 ·intro k hk;rcases hr.own _ (qy10 _ (qy8 ..)) rfl k hk with h|h
  ·exact h
  simp at h
 intro k hk;rcases hr.own _ (qy8 ..) rfl k hk with h|h
 ·exact h
 simp at h
def Z61{v:ϖ}(hn:(match v with | .slice none _ _=>ϣ|_=>Ϝ)=ϣ){w:ϲ}{ks:List Kd}{rows:List (List ϖ)}(h:reads w v ks rows):rows=[]:=by obtain⟨_,a,cap,rfl,_,h2⟩:=h;refine Ϥ λhne=>?_;obtain⟨ad,rfl,_⟩:=h2 hne;simp at hn
def Z62(v:ϖ)(l:List Wat)(hv:Z31 w v l)(hl:l.length<1000000000):ϗ ϐ 60 #[sc1 v] w λe w'=>∃v',e=.returned (sc1 v')/\Zb4 w' v' l/\Zdx w.heap.size v'/\Mod [] w w':=by
 refine Wr (J:=[.v v,.r (l.map Z4)]) Z3t ?_;simp only[QR,ra,List.nil_append];refine⟨λh w' hr=>?_,λh v1=>⟨O,λv2 w' hr=>?_⟩⟩
 ·have hn:=List.map_eq_nil_iff.1 (Z61 h hv);subst hn;refine⟨_,rfl,hr.at_ 0 rfl,λk hk=>?_,hr.mod⟩;rcases hr.own _ (qy8 ..) rfl k hk with h|h
  ·exact h
  simp at h
 refine⟨v2,rfl,hr.at_ 0 rfl,λk hk=>?_,hr.mod⟩;rcases hr.own _ (qy8 ..) rfl k hk with h|h
 ·exact h
 simp at h
def Zwm{p:Int}{t:By}{l:List Wat}(h:l.any (Z8p p t)=Ϝ):filt p t l=l:=by rw[filt,List.filter_eq_self];intro x hx;rw[List.any_eq_false]at h;have:=h x hx;simpa using this
def Zr9{R l:List Wat}{j:Nat}(h:R.drop j=l.drop j):R.getD j wD_K=l.getD j wD_K:=by have e:∀q:List Wat,q.getD j wD_K=(q.drop j).getD 0 wD_K:=λq=>O1;rw[e R,e l,h]
def Z12r(R:List Wat)(m:Nat)(x:Wat):(R.map Z4).set m [Value.int .i64 x.1,.string ⟨x.2.1.toArray⟩,.string ⟨x.2.2.1.toArray⟩,.int .i64 x.2.2.2]=(R.set m x).map Z4:=by rw[List.map_set];rfl
def Z18h{R:List Wat}{m:Nat}{x:Wat}(h:m<R.length):(R.set m x).take (m+1)=R.take m++[x]:=by rw[List.take_set,Zct R m h,ϰ _ _ O3];have:m - (R.take m).length=0:=O3;rw[this];rfl
def Z18i{R:List Wat}{m j:Nat}{x:Wat}(h:m<j):(R.set m x).drop j=R.drop j:=by rw[List.drop_set,ϝ h]
def Zdy(v:ϖ)(l:List Wat)(p:Int)(t:By)(hv:Z31 w v l)(hl:l.length<1000000000):ϗ ϐ 241 #[sc1 v,.int .i64 p,.string ⟨t.toArray⟩] w λe w'=>∃v',e=.returned (sc1 v')/\Zb4 w' v' (filt p t l)/\Zdx w.heap.size v'/\Mod [] w w':=by
 refine Wr (J:=[.v v,.r (l.map Z4),.i p,.s t]) Zdm ?_;simp only[QR,ra];intro b1 b2 w1 hr;refine(Z62 w1 v l (hr.at_ 3 rfl) hl).mono ?_;rintro e w2 ⟨u,rfl,o1,f1,m1⟩;refine⟨[.v u,.r (l.map Z4)],rfl,rfl,m1,qy5 _,qy2.2 ⟨⟨o1,λk hk=>.inl (f1 k hk)⟩,qy5 _⟩,Z2,?_⟩;simp only[QR,ra];refine⟨λvs=>∃(i:Nat) (x:V),vs=[x,.i i,.s t,.i p]/\i<=l.length/\(l.take i).any (Z8p p t)=Ϝ,λvs=>l.length - (vs.getD 1 (.i 0)).toI.toNat,⟨0,_,rfl,O,O1⟩,?_⟩;rintro _ - ⟨i,x,rfl,hi,hno⟩;simp only[QR,ra,Z36,Z37,Z1s,gW3];refine⟨λh1=>⟨O,λb3 b4=>⟨λh2=>⟨λh3=>ϟ h3 O,λh3=>⟨O,O,?_⟩⟩,λh2=>by refine⟨O,O,⟨i+1,x,rfl,O,?_⟩,O⟩;rw[Zoh _ l i O,hno,ϥ];simp only[Z8p,decide_eq_false_iff_not];exact h2⟩⟩,λh1 w' hr=>?_⟩
 ·refine⟨λvs=>∃(m j:Nat) (R:List Wat),vs=[.i m,.i j,.r (R.map Z4),.s t,.i p]/\R.length=l.length/\m<j/\j<=l.length/\R.take m=filt p t (l.take j)/\R.drop j=l.drop j,λvs=>l.length - (vs.getD 1 (.i 0)).toI.toNat,⟨i,i+1,l,rfl,rfl,O,O,by have hsn:=Zje p t l i O;rw[ϝ (by simp only[Z8p,ϡ];exact h2),Ϡ,Zwm hno]at hsn;exact hsn.symm,rfl⟩,?_⟩
  ·rintro _ - ⟨m,j,R,rfl,hRl,hmj,hj,htk,hdr⟩;simp only[QR,ra,Z36,Z37,Z1s,gW3];refine⟨λh4=>⟨O,λb5 b6 b7=>?_⟩,λh4=>?_⟩
   ·have hsn:=Zje p t l j O;have hRj:=Zr9 hdr;have hdr1:R.drop (j+1)=l.drop (j+1):=by rw[<- ζ,<- ζ,hdr]
    rw[hRj];refine⟨λh5=>?_,λh5=>by rw[ϝ (by simp only[Z8p,ϡ];exact qy9.1 h5),Ϡ]at hsn;exact⟨O,O,⟨m,j+1,R,rfl,hRl,O,O,by rw[htk,hsn],hdr1⟩,O⟩⟩;rw[ϛ (by simp only[Z8p,ϡ];exact h5)]at hsn;exact⟨O,O,O,O,O,O,⟨m+1,j+1,R.set m (l.getD j wD_K),by rw[Z12r];rfl,by simpa using hRl,O,O,by rw[Z18h O,htk,hsn],by rw[Z18i O,hdr1]⟩,O⟩
   have:j=l.length:=O;subst this;rw[ϒ]at htk;refine⟨O,O,by simp only[qy11,Ϟ,qy3,List.length_replicate];omega,λv9 w' hr=>?_⟩;have h0:=hr.at_ 0 rfl;simp only[Ent.holds,QQ,Ϙ,qy3,qy4,Z36,Z37,Z1s,gW3]at h0;have e1:(ν m (ν m (R.map Z4)++List.replicate (R.length - m) [Value.int .i64 0,.string ⟨[].toArray⟩,.string ⟨[].toArray⟩,.int .i64 0]))=(filt p t l).map Z4:=by rw[List.take_append_of_le_length O3,List.take_take,Nat.min_self,<- ϳ,htk]
   rw[e1]at h0;refine⟨v9,rfl,h0,λk hk=>?_,hr.mod⟩;rcases hr.own _ (qy8 ..) rfl k hk with h|h
   ·exact h
   simp at h
 have:i=l.length:=O;subst this;rw[ϒ]at hno;rw[Zwm hno];refine⟨u,rfl,hr.at_ 1 rfl,λk hk=>?_,hr.mod⟩;rcases hr.own _ (qy10 _ (qy8 ..)) rfl k hk with h|h
 ·exact h
 simp at h
def Z1bv(w':ϲ)(e:Ending)(r:List Wat×Int):Prop:=∃v,e=.returned (.tuple #[sc1 v,.int .i64 r.2])/\Z31 w' v r.1/\Z1bt w.heap.size v r.1/\Mod [] w w'
def Z18j{w w':ϲ}(n:Int)(h:Mod [] w w'):Z1bv w w' (.returned (.tuple #[.slice none 0 0,.int .i64 n])) ([],n):=⟨.slice none 0 0,rfl,Zr7 w',Zzi _ _,h⟩
def Zjh{J:List V}{u v:Nat}{ks ks':List Kd}{r r':X}:Zt J [.rd u ks r,.rd v ks' r'] :=
 Ϲ.2 ⟨λe he hw _ _ _=>by rw[qy12]at he;subst he;exact hw.elim (γ) (γ),List.pairwise_singleton _ _⟩
def Z49(l:List Wat)(x:Wat):List Wat×Int:=if 12<((filt x.1 x.2.1 l).length+1:Int)then([],2)else(filt x.1 x.2.1 l++[x],0)
def Z1jr(w':ϲ)(e:Ending)(r:List Wat×Int):Prop:=∃v,e=.returned (.tuple #[sc1 v,.int .i64 r.2])/\Zb4 w' v r.1/\Zdx w.heap.size v/\Mod [] w w'
def Z1h9(v:ϖ)(l:List Wat)(x:Wat)(hv:Z31 w v l)(hl:l.length<1000000000):ϗ ϐ 239 #[sc1 v,.agg #[.int .i64 x.1,.string ⟨x.2.1.toArray⟩,.string ⟨x.2.2.1.toArray⟩,.int .i64 x.2.2.2]] w λe w'=>Z1jr w w' e (Z49 l x):=by
 refine Wr (J:=[.v v,.r (l.map Z4),.i x.1,.s x.2.1,.s x.2.2.1,.i x.2.2.2]) Zlg ?_;simp only[QR,ra];have hfl:=Zoj x.1 x.2.1 l;intro b1;refine⟨?_,?_,λv0=>?_⟩
 ·intro w1 hr;refine(Zdy w1 v l x.1 x.2.1 (hr.at_ 2 rfl) hl).mono ?_;rintro e w2 ⟨u,rfl,o1,f1,m1⟩;refine⟨[.v u,.r ((filt x.1 x.2.1 l).map Z4)],rfl,rfl,m1,qy5 _,qy2.2 ⟨⟨o1,λk hk=>.inl (f1 k hk)⟩,qy5 _⟩,Z2,?_⟩;simp only[QR,ra,qy11,ϔ,ϩ,Ϫ];intro v1;exact⟨O,λv2=>⟨λh w' hr=>(by rw[Z49,ϝ O];exact⟨.slice none 0 0,rfl,⟨O1,World.ownsRow_nil _ _ _ _⟩,λk hk=>by simp[Z1,Value.ownBlock]at hk,hr.mod⟩),λh w' hr=>by rw[Z49,ϛ O];have h0:=hr.at_ 0 rfl;simp only[Ent.holds,QQ,Ϙ]at h0;rw[Z3g _ x]at h0;exact⟨v2,rfl,h0,hr.fresh 0 rfl,hr.mod⟩⟩⟩
 ·intro w1 hr;refine(Zdy w1 v l x.1 x.2.1 (hr.at_ 2 rfl) hl).mono ?_;rintro e w2 ⟨u,rfl,o1,f1,m1⟩;refine⟨[.v u,.r ((filt x.1 x.2.1 l).map Z4)],rfl,rfl,m1,qy5 _,qy2.2 ⟨⟨o1,λk hk=>.inl (f1 k hk)⟩,qy5 _⟩,Z2,?_⟩;simp only[QR,ra,qy11,ϔ,ϩ,Ϫ];intro v1;exact⟨O,λv2=>⟨λh w' hr=>(by rw[Z49,ϝ O];exact⟨.slice none 0 0,rfl,⟨O1,World.ownsRow_nil _ _ _ _⟩,λk hk=>by simp[Z1,Value.ownBlock]at hk,hr.mod⟩),λh w' hr=>by rw[Z49,ϛ O];have h0:=hr.at_ 0 rfl;simp only[Ent.holds,QQ,Ϙ]at h0;rw[Z3g _ x]at h0;exact⟨v2,rfl,h0,hr.fresh 0 rfl,hr.mod⟩⟩⟩
 intro w1 hr;refine(Zdy w1 v l x.1 x.2.1 (hr.at_ 3 rfl) hl).mono ?_;rintro e w2 ⟨u,rfl,o1,f1,m1⟩;refine⟨[.v u,.r ((filt x.1 x.2.1 l).map Z4)],rfl,rfl,m1,qy5 _,qy2.2 ⟨⟨o1,λk hk=>.inl (f1 k hk)⟩,qy5 _⟩,Z2,?_⟩;simp only[QR,ra,qy11,ϔ,ϩ,Ϫ];exact⟨O,λv2=>⟨λh w' hr=>(by rw[Z49,ϝ O];exact⟨.slice none 0 0,rfl,⟨O1,World.ownsRow_nil _ _ _ _⟩,λk hk=>by simp[Z1,Value.ownBlock]at hk,hr.mod⟩),λh w' hr=>by rw[Z49,ϛ O];have h0:=hr.at_ 0 rfl;simp only[Ent.holds,QQ,Ϙ]at h0;rw[Z3g _ x]at h0;exact⟨v2,rfl,h0,hr.fresh 0 rfl,hr.mod⟩⟩⟩
def Zzk(v:ϖ)(l:List Wat)(p:Int)(t n:By)(hv:Z31 w v l)(hl:l.length<1000000000):ϗ ϐ 75 #[sc1 v,.int .i64 p,.string ⟨t.toArray⟩,.string ⟨n.toArray⟩] w λe w'=>Z1bv w w' e (Z49 l (p,t,n,1)):=by refine Wr (J:=[.v v,.r (l.map Z4),.i p,.s t,.s n]) Z80 ?_;simp only[QR,ra];have hfl:=Zoj p t l;intro w1 hr;refine(Zmd w1 v l p t (hr.at_ 1 rfl) hl).mono ?_;rintro e w2 ⟨u,rfl,o1,f1,m1⟩;refine⟨[.v u,.r ((filt p t l).map Z4)],rfl,rfl,m1,qy5 _,qy2.2 ⟨⟨o1,λk hk=>.inl (f1 k hk)⟩,qy5 _⟩,Z2,?_⟩;simp only[QR,ra,qy11,ϔ,ϩ,Ϫ];intro v1;exact⟨O,λv2=>⟨λh w' hr=>by rw[Z49,ϝ O4];exact Z18j 2 hr.mod,λh w' hr=>by rw[Z49,ϛ O4];have h0:=hr.at_ 0 rfl;simp only[Ent.holds,QQ,Ϙ]at h0;have e0:=Z3g (filt p t l) (p,t,n,1);rw[e0]at h0;exact⟨v2,rfl,owns.reads h0,λk hk=>(by rcases hr.own _ (qy8 ..) rfl k hk.2 with h|h;(· exact h);(· simp at h)),hr.mod⟩⟩⟩
def Z1ha(n:Int)(h:0<=n/\n<=16777216):Z2l .and .i64 n 16777215=if 16777215<n then 0 else n:=by
 obtain⟨x,rfl⟩:∃x:Nat,n=x:=⟨n.toNat,O⟩
 have oi:∀x:Nat,x<2 ^ 63->(BitVec.ofInt 64 (x)).toNat=x:=λx h=>O3;have h127:(16777215:Int)=((16777215:Nat)):=rfl;simp only[h127]
 show IntKind.i64.wrap (((BitVec.ofInt 64 (x:Int)) &&& (BitVec.ofInt 64 ((16777215:Nat):Int))).toNat:Int)=_
 rw[BitVec.toNat_and,oi x O,oi 16777215 O];have e:=Nat.and_two_pow_sub_one_eq_mod x 24;rw[e,IntKind.wrap_i64];split<;>omega
def Z18k{R:List Wat}{x:Wat}(h:i<R.length):(R.set i x).getD i wD_K=x:=by rw[qy1,List.getElem?_set_self h];rfl
def Z18l{n:By}{l:List Wat}(hi:i<=l.length):(Z3j n (l.take i)++l.drop i).getD i wD_K=l.getD i wD_K:=by simp only[qy1];rw[List.getElem?_append_right (by simp[Z3j];omega)];simp[Z3j,Nat.min_eq_left hi]
def Z1dx{n:By}{l:List Wat}(hi:i<l.length):(Z3j n (l.take i)++l.drop i).set i (Z5o n (l.getD i wD_K))=Z3j n (l.take (i+1))++l.drop (i+1):=by
 have hlen:(Z3j n (l.take i)).length=i:=by simp[Z3j];omega
 rw[ϰ _ _ O,hlen,Nat.sub_self,Zog l i hi,Zjf n l i hi];simp
def Z18m{n:By}{l:List Wat}(hi:i<l.length)(h:Z5o n (l.getD i wD_K)=l.getD i wD_K):Z3j n (l.take i)++l.drop i=Z3j n (l.take (i+1))++l.drop (i+1):=by rw[Zjf n l i hi,h,Zog l i hi];simp
def Z12s{n:By}{l:List Wat}(hi:i<=l.length):(Z3j n (l.take i)++l.drop i).length=l.length:=by simp[Z3j];omega
def Z1dy(v:ϖ)(l:List Wat)(n:By)(hv:Z31 w v l)(hl:l.length<1000000000)(hok:okN l):ϗ ϐ 247 #[sc1 v,.string ⟨n.toArray⟩] w λe w'=>∃v1 v2,e=.returned (.tuple #[sc1 v1,sc1 v2])/\Zb4 w' v1 (Z3j n l)/\Zb4 w' v2 (Z3x n l)/\Zdx w.heap.size v1/\Zdx w.heap.size v2/\(∀k,Z1 v1 k->Z1 v2 k->False)/\Mod [] w w':=by
 refine Wu (J:=[.v v,.r (l.map Z4),.s n]) Zj1 (Rel.start2 (by simp[Ent.holds,Ent.wr,hv,X.ev])) ?_;simp only[QR,ra];intro w1 hr;refine(Z62 w1 v l (hr.at_ 2 rfl) hl).mono ?_;rintro e w2 ⟨u,rfl,o1,f1,m1⟩;refine⟨[.v u,.r (l.map Z4)],rfl,rfl,m1,qy5 _,qy2.2 ⟨⟨o1,λk hk=>.inl (f1 k hk)⟩,qy5 _⟩,Z2,?_⟩;simp only[QR,ra];refine⟨λvs=>∃(i:Nat) (u2:ϖ),vs=[.v u2,.r ((Z3x n (l.take i)).map Z4),.i i,.r ((Z3j n (l.take i)++l.drop i).map Z4)]/\i<=l.length,λvs=>l.length - (vs.getD 2 (.i 0)).toI.toNat,⟨0,_,rfl,O⟩,?_⟩;rintro _ - ⟨i,u2,rfl,hi⟩;simp only[QR,ra,Z36,Z37,Z1s,gW3];have hfl:=Zjg n (l.take i);rw[Ϟ]at hfl;rw[Z12s hi,Z18l hi];refine⟨λh1=>?_,λh1 w' hr=>?_⟩
 ·have hok1:=Z1bu hok i;have hf2:=Zme n l i O;have hst:=Z1dx (n:=n) (l:=l) (i:=i) O;have hml:=Z12s (n:=n) (i:=i) hi;refine⟨O,O,λh2=>?_,λh2=>?_⟩
  ·rw[ϝ h2]at hf2;have ht:Z5o n (l.getD i wD_K)=((l.getD i wD_K).1,(l.getD i wD_K).2.1,(l.getD i wD_K).2.2.1,Z2l .and .i64 ((l.getD i wD_K).2.2.2+1) 16777215):=by
    rw[Z5o,ϝ h2,Z1ha _ O]
   have hrow:=Z12r (Z3j n (l.take i)++l.drop i) i (Z5o n (l.getD i wD_K));rw[ht]at hrow;simp only at hrow;rw[hrow,<- ht];simp only[Z36,Z37,Z1s,gW3,qy3,List.length_set,Z18k (show i<(Z3j n (l.take i)++l.drop i).length by omega)];rw[Z3g,hst];refine⟨O,O,O,λv1=>⟨O,λv2=>⟨O,O,⟨i+1,v2,?_,O⟩,O⟩⟩⟩;rw[hf2];rfl
  rw[ϛ h2,Ϡ]at hf2;have ht:Z5o n (l.getD i wD_K)=l.getD i wD_K:=by rw[Z5o,ϛ h2]
  refine⟨O,O,⟨i+1,u2,?_,O⟩,O⟩;rw[hf2,<- Z18m O ht];rfl
 have:i=l.length:=O;subst this;rw[ϒ,ϑ,Ϡ]at hr;refine⟨u,u2,rfl,hr.at_ 1 rfl,hr.at_ 0 rfl,?_,?_,λk h1 h2=>(Ϲ.1 hr.sep).1 _ (qy8 ..) (.inl rfl) k h2 h1,hr.mod⟩
 ·intro k hk;rcases hr.own _ (qy10 _ (qy8 ..)) rfl k hk with h|h
  ·exact h
  simp at h
 intro k hk;rcases hr.own _ (qy8 ..) rfl k hk with h|h
 ·exact h
 simp at h
abbrev Fl:=Int×By×By
def encF(f:Fl):List ϖ:=[.int .i64 f.1,.string ⟨f.2.1.toArray⟩,.string ⟨f.2.2.toArray⟩]
abbrev fD:Fl:=(0,[],[])
abbrev kF:List Kd:=[.int .i64,.str,.str]
def gF0(l:List Fl)(i:Nat):Value.gI (((l.map encF).getD i []).getD 0 undef)=(l.getD i fD).1:=by simp only[qy1,ϕ];cases l[i]?<;>rfl
def gF1(l:List Fl)(i:Nat):Value.gS (((l.map encF).getD i []).getD 1 undef)=(l.getD i fD).2.1:=by simp only[qy1,ϕ];cases l[i]?<;>simp[encF,Value.gS,undef]
def gF2(l:List Fl)(i:Nat):Value.gS (((l.map encF).getD i []).getD 2 undef)=(l.getD i fD).2.2:=by simp only[qy1,ϕ];cases l[i]?<;>simp[encF,Value.gS,undef]
abbrev Zi(w:ϲ)(v:ϖ)(l:List Fl):Prop:=reads w v kF (l.map encF)
def Z18n(l:List Fl)(i:Nat)(h:i<l.length):l.drop i=l.getD i fD::l.drop (i+1):=by rw[Ϛ h,qy1,qy7 h];rfl
def Zok(l:List Fl)(i:Nat)(h:i<l.length):l.take (i+1)=l.take i++[l.getD i fD]:=by rw[Ϣ,qy1,qy7 h];rfl
def Z18o(l:List Fl)(h:k<i):(l.take i).getD k fD=l.getD k fD:=by simp only[qy1,Ϸ,ϝ h]
def Zdz(l:List Fl):Prop:=∀x∈l,x.2.1.length<4294967281
def Ze0{l:List Fl}(h:Zdz l)(i:Nat):(l.getD i fD).2.1.length<4294967281:=by
 by_cases hi:i<l.length
 ·rw[qy1,qy7 hi];exact h _ (ϙ hi)
 rw[qy1,ϓ O];decide
def flE(f:Fl):Int:=if chkT f.2.1 Ϝ=0 then(if 200<(f.2.2.length:Int)then 2 else 0)else chkT f.2.1 Ϝ
def idIs(n:Int)(f:Fl):Bool:=decide (f.1=n)
def Ze1:List Fl->List Fl->Int
 | _,[]=>0
 | prev,f::l=>if flE f≠0 then flE f else if 1<=f.1/\f.1<=65535 then if prev.any (idIs f.1)=ϣ then 6 else Ze1 (prev++[f]) l else 3
def Zfr:List Fl->Int
 | []=>0
 | f::l=>if flE f≠0 then flE f else if f.1=0 then Zfr l else 1
structure Ses where
 cl:List UInt8
 on:Bool
 clean:Bool
 fl:List Fl
 qu:List Fl
 next:Int
 deriving DecidableEq
def sesV(s:Ses)(u v:ϖ):ϖ:=.agg #[.string ⟨s.cl.toArray⟩,.bool s.on,.bool s.clean,sc1 u,sc1 v,.int .i64 s.next]
def Z9:Bool:=decide (1<=(s.length:Int)/\(s.length:Int)<=20) && Z3e s
def allS(s:Ses):Int:=if Ze1 [] s.fl=0 then Zfr s.qu else Ze1 [] s.fl
def chkS(s:Ses):Int :=
 if Z9 s.cl=ϣ then
  if 3<(s.fl.length:Int)\/6<(s.qu.length:Int)then 2
  else if allS s=0 then
   if 1<=s.next/\s.next<=65535 then
    if((¬s.on=ϣ/\s.clean=ϣ)/\0<(s.fl.length:Int)+s.qu.length)\/((s.on=ϣ/\0<(s.qu.length:Int))/\(s.fl.length:Int)<3)then 4 else 0
   else 3
  else allS s
 else 1
def Z9o(s:By)(hs:s.length<1099511627776):ϗ ϐ 56 #[.string ⟨s.toArray⟩] w λe w'=>e=.returned (.bool (Z9 s))/\Mod [] w w':=by refine Wp (J:=[.s s]) Zdq ?_;simp only[QR];refine⟨[.b (Z3e s)],rfl,λ_ w' _=>Zu4 w' s hs,?_⟩;simp only[QR];exact λw' hr=>⟨by simp[Z9],hr.mod⟩
def Z4y(s:By)(hs:s.length<1099511627776):ϗ ϐ 26 #[.string ⟨s.toArray⟩] w λe w'=>e=.returned (.bool (Z9 s))/\Mod [] w w':=by refine Wp (J:=[.s s]) Z7z ?_;simp only[QR];refine⟨[.b (Z3e s)],rfl,λ_ w' _=>Zr4 w' s hs,?_⟩;simp only[QR];exact λw' hr=>⟨by simp[Z9],hr.mod⟩
def Zwn(f:Fl)(hn:f.2.1.length<4294967281):ϗ ϐ 199 #[.agg #[.int .i64 f.1,.string ⟨f.2.1.toArray⟩,.string ⟨f.2.2.toArray⟩]] w λe w'=>e=.returned (.int .i64 (flE f))/\Mod [] w w':=by refine Wp (J:=[.i f.1,.s f.2.1,.s f.2.2]) Zcl ?_;simp only[QR];intro b;refine⟨[.i (chkT f.2.1 Ϝ)],rfl,λ_ w' _=>Zr6 w' _ hn,?_⟩;simp only[QR];refine⟨λh w' hr=>⟨by rw[flE,ϛ h],hr.mod⟩,λh=>⟨λh1 w' hr=>⟨by rw[flE,ϝ (qy9.1 h),ϝ h1],hr.mod⟩,λh1 w' hr=>⟨by rw[flE,ϝ (qy9.1 h),ϛ h1],hr.mod⟩⟩⟩
def Ze2(f:Fl)(hn:f.2.1.length<4294967281):ϗ ϐ 67 #[.agg #[.int .i64 f.1,.string ⟨f.2.1.toArray⟩,.string ⟨f.2.2.toArray⟩]] w λe w'=>e=.returned (.int .i64 (flE f))/\Mod [] w w':=by
 refine Wp (J:=[.i f.1,.s f.2.1,.s f.2.2]) Z5k ?_;simp only[QR];intro b;refine⟨[.i (chkT f.2.1 Ϝ)],rfl,λ_ w' _=>Z3f w' _ Ϝ hn,?_⟩;simp only[QR];refine⟨λh w' hr=>⟨by rw[flE,ϝ h.1,ϝ h.2],hr.mod⟩,λh w' hr=>⟨?_,hr.mod⟩⟩;by_cases h1:chkT f.2.1 Ϝ=0
 ·rw[flE,ϝ h1,ϛ (λh2=>h ⟨h1,h2⟩),h1]
 rw[flE,ϛ h1]
def Z1hb(n:Int):ϗ ϐ 161 #[.int .i64 n] w λe w'=>e=.returned (.bool (decide (1<=n/\n<=65535)))/\Mod [] w w':=by refine Wp (J:=[.i n]) Zj8 ?_;simp only[QR];exact λw' hr=>⟨O1,hr.mod⟩
def Ze3(p:Fl->Bool)(l:List Fl)(k:Nat)(h:k<l.length):(l.take (k+1)).any p=((l.take k).any p || p (l.getD k fD)):=by rw[Zok l k h,ϭ];simp
def Z12t{p:Fl->Bool}{l:List Fl}(hk:k<i)(hi:i<=l.length)(h:p (l.getD k fD)=ϣ):(l.take i).any p=ϣ:=by rw[β];refine⟨l.getD k fD,?_,h⟩;rw[<- Z18o l hk,qy1,qy7 O3];exact ϙ _
def Z8q{p:Prop}(h:p):p/\p:=⟨h,h⟩
def Z12u(v:ϖ)(l:List Fl)(n:Int)(hv:Zi w v l)(hl:l.length<1000000000):ϗ ϐ 200 #[sc1 v,.int .i64 n] w λe w'=>e=.returned (.bool (l.any (idIs n)))/\Mod [] w w':=by refine Wr (J:=[.v v,.r (l.map encF),.i n]) Zff ?_;simp only[QR,ra];intro b;refine⟨λvs=>∃(i:Nat) (x:V),vs=[x,.i i,.i n]/\i<=l.length/\(l.take i).any (idIs n)=Ϝ,λvs=>l.length - (vs.getD 1 (.i 0)).toI.toNat,⟨0,_,rfl,O,O1⟩,?_⟩;rintro _ - ⟨i,x,rfl,hi,hno⟩;simp only[QR,ra,gF0,gF1,gF2];refine⟨λh1=>⟨O,λb2=>⟨λh2 w' hr=>⟨by have:=Z12t (p:=idIs n) (k:=i) (i:=l.length) O (δ _) (by simp only[idIs,ϡ];exact h2);rw[ϒ]at this;rw[this];simp,hr.mod⟩,λh2=>⟨O,O,⟨i+1,x,rfl,O,by rw[Ze3 _ l i O,hno,ϥ];simp only[idIs,decide_eq_false_iff_not];exact h2⟩,O⟩⟩⟩,λh1 w' hr=>⟨?_,hr.mod⟩⟩;have:i=l.length:=O;subst this;rw[ϒ]at hno;rw[hno];rfl
def Ze4(u v:ϖ)(a b:List Fl)(hu:Zi w u a)(hv:Zi w v b)(hl:a.length<1000000000):ϗ ϐ 154 #[sc1 u,sc1 v] w λe w'=>e=.returned (.bool (decide (a=b)))/\Mod [] w w':=by
 refine Wr (J:=[.v u,.r (a.map encF),.v v,.r (b.map encF)]) Z5m ?_;simp only[QR,ra];refine⟨λh w' hr=>⟨by rw[decide_eq_false];intro e;rw[e]at h;exact h rfl,hr.mod⟩,λh=>?_⟩;have hlen:a.length=b.length:=O;refine⟨λvs=>∃(i:Nat) (x:V),vs=[x,.i i]/\i<=a.length/\∀j,j<i->a.getD j fD=b.getD j fD,λvs=>a.length - (vs.getD 1 (.i 0)).toI.toNat,⟨0,_,rfl,O,λj hj=>O⟩,?_⟩;rintro _ - ⟨i,x,rfl,hi,hall⟩;simp only[QR,ra,gF0,gF1,gF2];refine⟨λh7=>⟨O,O,λh8 w' hr=>⟨(by rw[decide_eq_false];intro e;rw[e]at h8;exact h8 ⟨rfl,rfl,rfl⟩),hr.mod⟩,λh8=>⟨O,O,⟨i+1,x,rfl,O,λj hj=>?_⟩,O⟩⟩,λh7 w' hr=>⟨?_,hr.mod⟩⟩
 ·by_cases hji:j=i
  ·subst hji;have h9:=qy9.1 h8;exact Prod.ext h9.1 (Prod.ext h9.2.1 h9.2.2)
  exact hall j O
 rw[decide_eq_true];refine Ϻ λj=>?_;by_cases hj:j<a.length
 ·have:=hall j O;rw[qy1,qy1,qy7 hj,qy7 O]at this;rw[qy7 hj,qy7 O];simpa using this
 rw[ϓ O,ϓ O]
def Z1js(s:Ses)(u v:ϖ)(hu:Zi w u s.fl)(hv:Zi w v s.qu)(h1:Zdz s.fl)(h2:Zdz s.qu)(hl1:s.fl.length<1000000000)(hl2:s.qu.length<1000000000):ϗ ϐ 160 #[sesV s u v] w λe w'=>e=.returned (.int .i64 (allS s))/\Mod [] w w':=by
 refine Wr (J:=[.s s.cl,.b s.on,.b s.clean,.v u,.r (s.fl.map encF),.v v,.r (s.qu.map encF),.i s.next]) Zhd ?_;simp only[QR,ra];intro b;refine⟨λvs=>∃(i:Nat) (x:V),vs=[x,.i i]/\i<=s.fl.length/\Ze1 (s.fl.take i) (s.fl.drop i)=Ze1 [] s.fl,λvs=>s.fl.length - (vs.getD 1 (.i 0)).toI.toNat,⟨0,_,rfl,O,rfl⟩,?_⟩;rintro _ - ⟨i,x,rfl,hi,hg⟩;simp only[QR,ra,gF0,gF1,gF2];refine⟨λh3=>⟨O,λb2=>?_⟩,λh3=>?_⟩
 ·have hsm:=Ze0 h1 i;rw[Z18n _ i O]at hg;simp only[Ze1]at hg;refine⟨[.i (flE (s.fl.getD i fD))],rfl,λ_ w' _=>Zwn w' (s.fl.getD i fD) hsm,?_⟩;simp only[QR,ra,gF0,gF1,gF2];refine⟨λh4 w' hr=>⟨?_,hr.mod⟩,λh4=>?_⟩
  ·rw[ϝ h4]at hg;rw[allS,<- hg,ϛ h4]
  rw[ϛ h4]at hg;refine⟨[.b (decide (1<=(s.fl.getD i fD).1/\(s.fl.getD i fD).1<=65535))],rfl,λ_ w' _=>Z1hb w' _,?_⟩;simp only[QR,ra,gF0,gF1,gF2,ϡ];refine⟨λh5 w' hr=>⟨?_,hr.mod⟩,λh5=>?_⟩
  ·rw[ϛ h5]at hg;rw[allS,<- hg];rfl
  rw[ϝ (qy9.1 h5)]at hg;first|refine Z8q ?_|skip
  refine⟨O,λv9=>?_⟩;refine⟨[.b ((s.fl.take i).any (idIs (s.fl.getD i fD).1))],rfl,λ_ w' hr=>?_,?_⟩
  ·have h0:=hr.at_ 0 rfl;simp only[Ent.holds,QQ,Ϙ,Int.toNat_zero,ε,qy4,<- ϳ]at h0;exact Z12u w' v9 _ _ h0 (by rw[Ϟ];omega)
  simp only[QR,ra,gF0,gF1,gF2];exact⟨λh6 w' hr=>⟨by rw[ϝ h6]at hg;rw[allS,<- hg];rfl,hr.mod⟩,λh6=>by rw[ϛ h6,<- Zok _ i O]at hg;exact⟨O,O,⟨i+1,x,rfl,O,hg⟩,O⟩⟩
 have:i=s.fl.length:=O;subst this;rw[ϑ]at hg;have hg:Ze1 [] s.fl=0:=hg.symm;rw[allS,ϝ hg];refine⟨λvs=>∃(i:Nat) (x:V),vs=[x,.i i]/\i<=s.qu.length/\Zfr (s.qu.drop i)=Zfr s.qu,λvs=>s.qu.length - (vs.getD 1 (.i 0)).toI.toNat,⟨0,_,rfl,O,rfl⟩,?_⟩;rintro _ - ⟨i,x,rfl,hi,hg⟩;simp only[QR,ra,gF0,gF1,gF2];refine⟨λh3=>⟨O,λb2=>?_⟩,λh3 w' hr=>⟨?_,hr.mod⟩⟩
 ·have hsm:=Ze0 h2 i;rw[Z18n _ i O]at hg;simp only[Zfr]at hg;refine⟨[.i (flE (s.qu.getD i fD))],rfl,λ_ w' _=>Zwn w' (s.qu.getD i fD) hsm,?_⟩;simp only[QR,ra,gF0,gF1,gF2];exact⟨λh4 w' hr=>⟨by rw[ϝ h4]at hg;rw[<- hg],hr.mod⟩,λh4=>⟨λh5 w' hr=>⟨by rw[ϛ h4,ϛ h5]at hg;rw[<- hg],hr.mod⟩,λh5=>by rw[ϛ h4,ϝ (qy9.1 h5)]at hg;exact⟨O,O,⟨i+1,x,rfl,O,hg⟩,O⟩⟩⟩
 have:i=s.qu.length:=O;subst this;rw[ϑ]at hg;rw[<- hg];rfl
def Z18p(s:Ses)(u v:ϖ)(hu:Zi w u s.fl)(hv:Zi w v s.qu)(h1:Zdz s.fl)(h2:Zdz s.qu)(hl1:s.fl.length<1000000000)(hl2:s.qu.length<1000000000)(hc:s.cl.length<1099511627776):ϗ ϐ 106 #[sesV s u v] w λe w'=>e=.returned (.int .i64 (chkS s))/\Mod [] w w':=by refine Wr (J:=[.s s.cl,.b s.on,.b s.clean,.v u,.r (s.fl.map encF),.v v,.r (s.qu.map encF),.i s.next]) Zdn ?_;simp only[QR,ra];intro b;refine⟨[.b (Z9 s.cl)],rfl,λ_ w' _=>Z9o w' _ hc,?_⟩;simp only[QR,ra];refine⟨λh w' hr=>⟨by rw[chkS,ϛ h],hr.mod⟩,λh=>?_⟩;rw[chkS,ϝ (qy9.1 h)];refine⟨λh w' hr=>⟨by rw[ϝ h],hr.mod⟩,λh=>?_⟩;rw[ϛ h];refine⟨[.i (allS s)],rfl,λ_ w' hr=>Z1js w' s u v (hr.at_ 1 rfl) (hr.at_ 2 rfl) h1 h2 hl1 hl2,?_⟩;simp only[QR,ra];refine⟨λh w' hr=>⟨by rw[ϛ h],hr.mod⟩,λh=>?_⟩;rw[ϝ (qy9.1 h)];refine⟨[.b (decide (1<=s.next/\s.next<=65535))],rfl,λ_ w' _=>Z1hb w' _,?_⟩;simp only[QR,ra,ϡ];refine⟨λh w' hr=>⟨by rw[ϛ h],hr.mod⟩,λh=>?_⟩;rw[ϝ (qy9.1 h)];refine⟨.inr O,λh w' hr=>⟨by rw[ϝ (.inl h)],hr.mod⟩,λh=>⟨λh1 w' hr=>⟨by rw[ϝ (.inr h1)],hr.mod⟩,λh1 w' hr=>⟨by rw[ϛ (λh2=>h2.elim h h1)],hr.mod⟩⟩⟩
def Z87(s:Ses)(u v:ϖ)(hu:Zi w u s.fl)(hv:Zi w v s.qu)(h1:Zdz s.fl)(h2:Zdz s.qu)(hl1:s.fl.length<1000000000)(hl2:s.qu.length<1000000000)(hc:s.cl.length<1099511627776):ϗ ϐ 20 #[sesV s u v] w λe w'=>e=.returned (.int .i64 (chkS s))/\Mod [] w w':=by
 refine Wr (J:=[.s s.cl,.b s.on,.b s.clean,.v u,.r (s.fl.map encF),.v v,.r (s.qu.map encF),.i s.next]) Z53 ?_;simp only[QR,ra];intro b;refine⟨[.b (Z9 s.cl)],rfl,λ_ w' _=>Z4y w' _ hc,?_⟩;simp only[QR,ra];refine⟨λh w' hr=>⟨by rw[chkS,ϛ h],hr.mod⟩,λh=>?_⟩;rw[chkS,ϝ (qy9.1 h)];refine⟨λh w' hr=>⟨by rw[ϝ h],hr.mod⟩,λh=>?_⟩;rw[ϛ h];refine⟨λvs=>∃(i:Nat) (x:V),vs=[x,.i i]/\i<=s.fl.length/\Ze1 (s.fl.take i) (s.fl.drop i)=Ze1 [] s.fl,λvs=>s.fl.length - (vs.getD 1 (.i 0)).toI.toNat,⟨0,_,rfl,O,rfl⟩,?_⟩;rintro _ - ⟨i,x,rfl,hi,hg⟩;simp only[QR,ra,gF0,gF1,gF2];refine⟨λh3=>⟨O,?_⟩,λh3=>?_⟩
 ·have hsm:=Ze0 h1 i;rw[Z18n _ i O]at hg;simp only[Ze1]at hg;refine⟨[.i (flE (s.fl.getD i fD))],rfl,λ_ w' _=>Ze2 w' (s.fl.getD i fD) hsm,?_⟩;simp only[QR,ra,gF0,gF1,gF2];refine⟨λh4 w' hr=>⟨?_,hr.mod⟩,λh4=>?_⟩
  ·rw[ϝ h4]at hg;have:allS s=flE (s.fl.getD i fD):=by rw[allS,<- hg,ϛ h4]
   rw[this,ϛ h4]
  rw[ϛ h4]at hg;refine⟨λh5 w' hr=>⟨?_,hr.mod⟩,λh5=>?_⟩
  ·rw[ϛ h5]at hg;have:allS s=3:=by rw[allS,<- hg];rfl
   rw[this];rfl
  rw[ϝ (qy9.1 h5)]at hg;refine⟨λvs=>∃(k:Nat) (y:V),vs=[y,.i k]/\k<=i/\(s.fl.take k).any (idIs (s.fl.getD i fD).1)=Ϝ,λvs=>i - (vs.getD 1 (.i 0)).toI.toNat,⟨0,_,rfl,O,O1⟩,?_⟩;rintro _ - ⟨k,y,rfl,hk,hno⟩;simp only[QR,ra,gF0,gF1,gF2];refine⟨λh4=>⟨O,O,λh5 w' hr=>⟨?_,hr.mod⟩,λh5=>by refine⟨O,O,⟨k+1,y,rfl,O,?_⟩,O⟩;rw[Ze3 _ _ k O,hno,ϥ];simp only[idIs,decide_eq_false_iff_not];exact h5⟩,λh4=>?_⟩
  ·rw[ϝ (Z12t (k:=k) O O (by simp only[idIs,ϡ];exact h5))]at hg;have:allS s=6:=by rw[allS,<- hg];rfl
   rw[this];rfl
  have:k=i:=O;subst this;rw[ϛ (by rw[hno];decide),<- Zok _ k O]at hg;exact⟨O,O,⟨k+1,_,rfl,O,hg⟩,O⟩
 have:i=s.fl.length:=O;subst this;rw[ϑ]at hg;have hg:Ze1 [] s.fl=0:=hg.symm;have hA:allS s=Zfr s.qu:=by rw[allS,ϝ hg]
 rw[hA];refine⟨λvs=>∃(i:Nat) (x:V),vs=[x,.i i]/\i<=s.qu.length/\Zfr (s.qu.drop i)=Zfr s.qu,λvs=>s.qu.length - (vs.getD 1 (.i 0)).toI.toNat,⟨0,_,rfl,O,rfl⟩,?_⟩;rintro _ - ⟨i,x,rfl,hi,hg⟩;simp only[QR,ra,gF0,gF1,gF2];refine⟨λh3=>⟨O,?_⟩,λh3=>?_⟩
 ·have hsm:=Ze0 h2 i;rw[Z18n _ i O]at hg;simp only[Zfr]at hg;refine⟨[.i (flE (s.qu.getD i fD))],rfl,λ_ w' _=>Ze2 w' (s.qu.getD i fD) hsm,?_⟩;simp only[QR,ra,gF0,gF1,gF2];exact⟨λh4 w' hr=>⟨by rw[ϝ h4]at hg;rw[<- hg,ϛ h4],hr.mod⟩,λh4=>⟨λh5 w' hr=>⟨by rw[ϛ h4,ϛ h5]at hg;rw[<- hg];rfl,hr.mod⟩,λh5=>by rw[ϛ h4,ϝ (qy9.1 h5)]at hg;exact⟨O,O,⟨i+1,x,rfl,O,hg⟩,O⟩⟩⟩
 have:i=s.qu.length:=O;subst this;rw[ϑ]at hg;have hg:Zfr s.qu=0:=hg.symm;rw[ϝ hg];refine⟨λh w' hr=>⟨by rw[ϛ h],hr.mod⟩,λh=>?_⟩;rw[ϝ (qy9.1 h)];refine⟨.inr O,λh w' hr=>⟨by rw[ϝ h],hr.mod⟩,λh w' hr=>⟨by rw[ϛ h],hr.mod⟩⟩
def Ses.eq_iff{a b:Ses}:a=b↔a.cl=b.cl/\a.on=b.on/\a.clean=b.clean/\a.next=b.next/\a.fl=b.fl/\a.qu=b.qu:=by cases a;cases b;simp only[Ses.mk.injEq];exact⟨λ⟨h1,h2,h3,h5,h6,h4⟩=>⟨h1,h2,h3,h4,h5,h6⟩,λ⟨h1,h2,h3,h4,h5,h6⟩=>⟨h1,h2,h3,h5,h6,h4⟩⟩
def Zol(a b:Ses)(u v u' v':ϖ)(hu:Zi w u a.fl)(hv:Zi w v a.qu)(hu':Zi w u' b.fl)(hv':Zi w v' b.qu)(hl1:a.fl.length<1000000000)(hl2:a.qu.length<1000000000):ϗ ϐ 100 #[sesV a u v,sesV b u' v'] w λe w'=>e=.returned (.bool (decide (a=b)))/\Mod [] w w':=by
 refine Wr (J:=[.s a.cl,.b a.on,.b a.clean,.v u,.r (a.fl.map encF),.v v,.r (a.qu.map encF),.i a.next,.s b.cl,.b b.on,.b b.clean,.v u',.r (b.fl.map encF),.v v',.r (b.qu.map encF),.i b.next]) Z5h ?_;simp only[QR,ra];intro b1 b2;refine⟨[.b (decide (a.fl=b.fl))],rfl,λ_ w' hr=>Ze4 w' u u' _ _ (hr.at_ 2 rfl) (hr.at_ 4 rfl) hl1,?_⟩;simp only[QR,ra];refine⟨[.b (decide (a.qu=b.qu))],rfl,λ_ w' hr=>Ze4 w' v v' _ _ (hr.at_ 3 rfl) (hr.at_ 5 rfl) hl2,?_⟩;simp only[QR,ra];refine λw' hr=>⟨?_,hr.mod⟩
 simp only[Ending.returned.injEq,Value.bool.injEq];rw[Ϯ,ϡ,Ses.eq_iff];simp[and_assoc]
