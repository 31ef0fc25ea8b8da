/-
  Texts of mine, one behind the other. By an AI agent.
-/
import Derived.Shelf.Small.Strs
import Derived.Shelf.Strings.Search3
import Derived.Shelf.Strings.Count
import Derived.Shelf.Strings.Split
import Derived.Shelf.Strings.IndexAnyAll
import Derived.Test.YtkhakgbnfapifaaGreatDoorProg
import Derived.Test.YtkhakgbnfapifaaGreatDoorY06
import Derived.Test.YtkhakgbnfapifaaGreatDoorY08
import Derived.Test.YtkhakgbnfapifaaGreatDoorY05
set_option linter.unusedSimpArgs false
set_option linter.unusedVariables false
set_option maxHeartbeats 20000000
namespace Go.Proofs
open Go.Shelf
def Tryz.lays106_ren:Go.Shelf.Ren:=⟨fun|106=>162|213=>225|265=>280|n=>n,fun|9=>9|3=>3|n=>n,fun|n=>n⟩
theorem Tryz.lays106:Go.Proofs.Lays.n106 Tryz.prog Tryz.lays106_ren:={
 mixed:=by kernel_rfl
 f106:=Tryz.func162.trans (congrArg some (by kernel_rfl))
 f213:=Tryz.func225.trans (congrArg some (by kernel_rfl))
 f265:=Tryz.func280.trans (congrArg some (by kernel_rfl))
 t3:=Tryz.underlying3
 a3:=Tryz.isAgg3
 z3:=Tryz.sizeOf3
 v3:=Tryz.zeroValue3
 t9:=Tryz.underlying9
 a9:=Tryz.isAgg9
 z9:=Tryz.sizeOf9
 v9:=Tryz.zeroValue9 }
def Tryz.lays221_ren:Go.Shelf.Ren:=⟨fun|221=>247|268=>302|138=>303|143=>281|195=>335|197=>336|218=>337|219=>316|260=>352|217=>340|225=>341|224=>342|267=>343|266=>353|314=>354|n=>n,fun|9=>9|3=>3|31=>155|4=>4|0=>0|105=>331|21=>21|5=>5|46=>207|119=>348|139=>351|138=>350|146=>345|51=>297|n=>n,fun|1=>0|3=>1|4=>2|n=>n⟩
theorem Tryz.lays221:Go.Proofs.Lays.n221 Tryz.prog Tryz.lays221_ren:={
 mixed:=by kernel_rfl
 f138:=Tryz.func303.trans (congrArg some (by kernel_rfl))
 f143:=Tryz.func281.trans (congrArg some (by kernel_rfl))
 f195:=Tryz.func335.trans (congrArg some (by kernel_rfl))
 f197:=Tryz.func336.trans (congrArg some (by kernel_rfl))
 f217:=Tryz.func340.trans (congrArg some (by kernel_rfl))
 f218:=Tryz.func337.trans (congrArg some (by kernel_rfl))
 f219:=Tryz.func316.trans (congrArg some (by kernel_rfl))
 f221:=Tryz.func247.trans (congrArg some (by kernel_rfl))
 f224:=Tryz.func342.trans (congrArg some (by kernel_rfl))
 f225:=Tryz.func341.trans (congrArg some (by kernel_rfl))
 f260:=Tryz.func352.trans (congrArg some (by kernel_rfl))
 f266:=Tryz.func353.trans (congrArg some (by kernel_rfl))
 f267:=Tryz.func343.trans (congrArg some (by kernel_rfl))
 f268:=Tryz.func302.trans (congrArg some (by kernel_rfl))
 f314:=Tryz.func354.trans (congrArg some (by kernel_rfl))
 t0:=Tryz.underlying0
 a0:=Tryz.isAgg0
 z0:=Tryz.sizeOf0
 v0:=Tryz.zeroValue0
 t3:=Tryz.underlying3
 a3:=Tryz.isAgg3
 z3:=Tryz.sizeOf3
 v3:=Tryz.zeroValue3
 t4:=Tryz.underlying4
 a4:=Tryz.isAgg4
 z4:=Tryz.sizeOf4
 v4:=Tryz.zeroValue4
 t5:=Tryz.underlying5
 a5:=Tryz.isAgg5
 z5:=Tryz.sizeOf5
 v5:=Tryz.zeroValue5
 t9:=Tryz.underlying9
 a9:=Tryz.isAgg9
 z9:=Tryz.sizeOf9
 v9:=Tryz.zeroValue9
 t21:=Tryz.underlying21
 a21:=Tryz.isAgg21
 z21:=Tryz.sizeOf21
 v21:=Tryz.zeroValue21
 t31:=Tryz.underlying155
 a31:=Tryz.isAgg155
 z31:=Tryz.sizeOf155
 v31:=Tryz.zeroValue155
 t46:=Tryz.underlying207
 a46:=Tryz.isAgg207
 z46:=Tryz.sizeOf207
 v46:=Tryz.zeroValue207
 t51:=Tryz.underlying297
 a51:=Tryz.isAgg297
 z51:=Tryz.sizeOf297
 v51:=Tryz.zeroValue297
 t105:=Tryz.underlying331
 a105:=Tryz.isAgg331
 z105:=Tryz.sizeOf331
 v105:=Tryz.zeroValue331
 t119:=Tryz.underlying348
 a119:=Tryz.isAgg348
 z119:=Tryz.sizeOf348
 t138:=Tryz.underlying350
 a138:=Tryz.isAgg350
 z138:=Tryz.sizeOf350
 v138:=Tryz.zeroValue350
 t139:=Tryz.underlying351
 a139:=Tryz.isAgg351
 z139:=Tryz.sizeOf351
 v139:=Tryz.zeroValue351
 t146:=Tryz.underlying345
 a146:=Tryz.isAgg345
 z146:=Tryz.sizeOf345
 v146:=Tryz.zeroValue345
 g1:=by kernel_rfl
 g3:=by kernel_rfl
 g4:=by kernel_rfl }
def Tryz.lays150_ren:Go.Shelf.Ren:=⟨fun|150=>237|153=>289|152=>322|226=>323|227=>324|228=>325|137=>348|119=>349|224=>342|225=>341|217=>340|266=>353|n=>n,fun|9=>9|4=>4|3=>3|5=>5|21=>21|117=>317|116=>316|0=>0|46=>207|124=>328|n=>n,fun|n=>n⟩
theorem Tryz.lays150:Go.Proofs.Lays.n150 Tryz.prog Tryz.lays150_ren:={
 mixed:=by kernel_rfl
 f119:=Tryz.func349.trans (congrArg some (by kernel_rfl))
 f137:=Tryz.func348.trans (congrArg some (by kernel_rfl))
 f150:=Tryz.func237.trans (congrArg some (by kernel_rfl))
 f152:=Tryz.func322.trans (congrArg some (by kernel_rfl))
 f153:=Tryz.func289.trans (congrArg some (by kernel_rfl))
 f217:=Tryz.func340.trans (congrArg some (by kernel_rfl))
 f224:=Tryz.func342.trans (congrArg some (by kernel_rfl))
 f225:=Tryz.func341.trans (congrArg some (by kernel_rfl))
 f226:=Tryz.func323.trans (congrArg some (by kernel_rfl))
 f227:=Tryz.func324.trans (congrArg some (by kernel_rfl))
 f228:=Tryz.func325.trans (congrArg some (by kernel_rfl))
 f266:=Tryz.func353.trans (congrArg some (by kernel_rfl))
 t0:=Tryz.underlying0
 a0:=Tryz.isAgg0
 z0:=Tryz.sizeOf0
 v0:=Tryz.zeroValue0
 t3:=Tryz.underlying3
 a3:=Tryz.isAgg3
 z3:=Tryz.sizeOf3
 v3:=Tryz.zeroValue3
 t4:=Tryz.underlying4
 a4:=Tryz.isAgg4
 z4:=Tryz.sizeOf4
 v4:=Tryz.zeroValue4
 t5:=Tryz.underlying5
 a5:=Tryz.isAgg5
 z5:=Tryz.sizeOf5
 v5:=Tryz.zeroValue5
 t9:=Tryz.underlying9
 a9:=Tryz.isAgg9
 z9:=Tryz.sizeOf9
 v9:=Tryz.zeroValue9
 t21:=Tryz.underlying21
 a21:=Tryz.isAgg21
 z21:=Tryz.sizeOf21
 v21:=Tryz.zeroValue21
 t46:=Tryz.underlying207
 a46:=Tryz.isAgg207
 z46:=Tryz.sizeOf207
 v46:=Tryz.zeroValue207
 t116:=Tryz.underlying316
 a116:=Tryz.isAgg316
 z116:=Tryz.sizeOf316
 t117:=Tryz.underlying317
 a117:=Tryz.isAgg317
 z117:=Tryz.sizeOf317
 v117:=Tryz.zeroValue317
 t124:=Tryz.underlying328
 a124:=Tryz.isAgg328
 z124:=Tryz.sizeOf328
 v124:=Tryz.zeroValue328 }
end Go.Proofs
namespace Go.Proofs.YtkhakgbnfapifaaGreatDoor
open Go.Sx
def Z1f (s:List UInt8):List Value:=[.string ⟨s.toArray⟩]
theorem Zn (ps:List (List UInt8)) (i:Nat):Value.gS (((ps.map Z1f).getD i []).getD 0 undef)=ps.getD i []:=by simp only[qy1,List.getElem?_map];cases ps[i]?<;>simp[Z1f,Value.gS,undef]
abbrev Zdi (w:World) (v:Value) (ps:List (List UInt8)):Prop:=reads w v [.str] (ps.map Z1f)
def Zp2 (n:Nat) (v:Value) (ps:List (List UInt8)):Prop:=∀k,(ps.map Z1f).flatten≠[]/\Z1 v k->n<=k
theorem Zp3 (ps:List (List UInt8)) (i:Nat) (h:i<ps.length):ps.drop i=ps.getD i []::ps.drop (i+1):=by rw[List.drop_eq_getElem_cons h,qy1,qy7 h];rfl
def lev:List UInt8->List (List UInt8)
 | []=>[[]]
 | c::l=>if c=47 then []::lev l else match lev l with | []=>[[c]] | x::xs=>(c::x)::xs
def glue (p:List UInt8):List (List UInt8)->List (List UInt8)
 | []=>[]
 | x::xs=>(p++x)::xs
theorem Zk6 (s:List UInt8):∃x xs,lev s=x::xs:=by
 cases s with
 | nil=>exact⟨[],[],rfl⟩
 | cons c l =>
  simp only[lev];split
  ·exact⟨_,_,rfl⟩
  ·split<;>exact⟨_,_,rfl⟩
theorem Z84 (l:List UInt8):lev (47::l)=[]::lev l:=by simp[lev]
theorem Z5y {c:UInt8} (l:List UInt8) (h:c≠47):lev (c::l)=glue [c] (lev l):=by obtain⟨x,xs,e⟩:=Zk6 l;simp[lev,if_neg h,e,glue]
theorem Zk7:∀{s:List UInt8},Lib.indexByte s 47=-1->lev s=[s]:=by
 intro s;induction s with
 | nil=>intro _;rfl
 | cons c l ih =>
  intro h;unfold Lib.indexByte at h;split at h
  ·exact absurd h (by decide)
  ·rename_i hc;have hc:c≠47:=by simpa using hc
   split at h
   ·rename_i h2;rw[Z5y _ hc,ih (by simpa using h2)];rfl
   ·have:=Lib.indexByte_ge l 47;omega
theorem Zp4:∀{s:List UInt8} {i:Nat},Lib.indexByte s 47=i->lev s=s.take i::lev (s.drop (i+1))/\s.count 47=(s.drop (i+1)).count 47+1:=by
 intro s;induction s with
 | nil=>intro i h;unfold Lib.indexByte at h;omega
 | cons c l ih =>
  intro i h;unfold Lib.indexByte at h;split at h
  ·rename_i hc;have hc:c=47:=by simpa using hc
   have:i=0:=by omega
   subst this hc;rw[Z84];simp
  ·rename_i hc;have hc:c≠47:=by simpa using hc
   split at h
   ·omega
   ·rename_i h2;have h3:=Lib.indexByte_ge l 47;have h2:¬Lib.indexByte l 47=-1:=by simpa using h2
    obtain⟨j,hj⟩:∃j:Nat,Lib.indexByte l 47=j:=⟨(Lib.indexByte l 47).toNat,by omega⟩
    have hij:i=j+1:=by omega
    subst hij;obtain⟨e1,e2⟩:=ih hj;rw[Z5y _ hc,e1];refine⟨by simp[glue],?_⟩;rw[List.count_cons_of_ne hc,e2];simp
theorem Zm7:∀(k:Nat) (s:List UInt8),s.count 47=k->Lib.splitK [47] 0 k s=lev s:=by
 intro k;induction k with
 | zero =>
  intro s h;unfold Lib.splitK;refine(Zk7 ?_).symm;rcases Int.lt_or_le (Lib.indexByte s 47) 0 with h1|h1
  ·have:=Lib.indexByte_ge s 47;omega
  ·obtain⟨i,hi⟩:∃i:Nat,Lib.indexByte s 47=i:=⟨(Lib.indexByte s 47).toNat,by omega⟩
   have:=(Zp4 hi).2;omega
 | succ k ih =>
  intro s h;unfold Lib.splitK;rw[Lib.index_one];by_cases h1:Lib.indexByte s 47=-1
  ·rw[if_pos (by simpa using h1),Zk7 h1]
  ·rw[if_neg (by simpa using h1)];obtain⟨i,hi⟩:∃i:Nat,Lib.indexByte s 47=i:=⟨(Lib.indexByte s 47).toNat,by have h5:=Lib.indexByte_ge s 47;have h6:¬Lib.indexByte s 47=-1:=h1;omega⟩
   obtain⟨e1,e2⟩:=Zp4 hi;rw[hi,e1,<- ih (s.drop (i+1)) (by omega)];simp
theorem Zm8 (w:World) (s:List UInt8) (hs:s.length<4294967281):Calls Tryz.prog 247 #[.string ⟨s.toArray⟩,.string ⟨#[47]⟩,.int .i64 0,.int .i64 (-1)] w fun e w'=>∃v,e=.returned (sc1 v)/\Zdi w' v (lev s)/\Zp2 w.heap.size v (lev s)/\Mod [] w w':=by
 have hsz:(⟨s.toArray⟩:ByteArray).size=s.length:=rfl;have hcount:Lib.countB ⟨s.toArray⟩ ⟨#[47]⟩=s.count 47:=Lib.count_one 47 s;have hc1:s.count 47<=s.length:=List.count_le_length;have c:=Any.strings_genSplit_core Tryz.lays221 (by kernel_rfl) ⟨s.toArray⟩ ⟨#[47]⟩ 0 (-1) (s.count 47+1) w (by rw[hsz];exact hs) (by decide) (Nat.zero_le _)
  (fun x c hx=>(Any.strings_Index_one { Tryz.lays221 with } x 47 _).mono fun e w' ⟨h1,h2⟩=>⟨by rw[h1];show _=Ending.returned (Value.int .i64 (Lib.index x.data.toList [47]));rw[Lib.index_one],h2⟩)
  ((Any.strings_Count_one { Tryz.lays221 with } ⟨s.toArray⟩ 47 w).mono fun e w' ⟨h1,h2⟩=>⟨by rw[h1,hcount];rfl,h2⟩) (by decide) (by decide) (by rw[if_pos (by decide),hcount,hsz];omega)
 refine(Z2 c rfl).mono ?_;rintro e w' ⟨rfl,rfl⟩;rw[Nat.add_sub_cancel];have hdata:=Lib.splitB_data ⟨#[47]⟩ 0 (s.count 47) ⟨s.toArray⟩;have hlev:(Lib.splitB ⟨#[47]⟩ 0 (s.count 47) ⟨s.toArray⟩).map (·.data.toList)=lev s:=hdata.trans (Zm7 _ s rfl);have hlen:=Lib.splitB_all ⟨#[47]⟩ (by decide) 0 (s.count 47) ⟨s.toArray⟩ hcount;generalize Lib.splitB ⟨#[47]⟩ 0 (s.count 47) ⟨s.toArray⟩=pcs at hlev hlen
 rw[hlen];have hll:(lev s).length=s.count 47+1:=by rw[<- hlev,qy3,hlen]
 have hfull:Lib.cellsOf pcs (s.count 47+1)=(pcs.map Value.string).toArray:=by rw[<- hlen];exact Lib.cellsOf_full _
 have hrow:(lev s).map Z1f=pcs.map fun b=>[Value.string b]:=by rw[<- hlev,List.map_map];refine List.map_congr_left fun b _=>?_;obtain⟨⟨l⟩⟩:=b;rfl
 have hfl:(pcs.map fun b=>[Value.string b]).flatten=pcs.map Value.string:=by clear hlev hlen hfull hrow;induction pcs<;>simp_all
 refine⟨.slice (some ⟨w.heap.size,0,none⟩) (s.count 47+1) (s.count 47+1),rfl,⟨?_,some ⟨w.heap.size,0,none⟩,s.count 47+1,by rw[qy3,hll],⟨(fun h=>by cases h),by rw[qy3,hll];exact Nat.le_refl _⟩,fun _=>⟨_,rfl,fun j u hj=>?_⟩⟩,fun k hk=>?_,Mod.alloc [] w _⟩
 ·intro r hr;obtain⟨x,-,rfl⟩:=List.mem_map.1 hr;exact⟨⟨_,rfl⟩,trivial⟩
 ·rw[hrow,hfl]at hj;rw[Zd4,Nat.zero_add,hfull];exact(World.cell?_alloc_new ..).trans (by simpa using hj)
 ·have h:=hk.2;simp only[Z1,Value.ownBlock,Option.some.injEq]at h;omega
theorem Zxg (w:World) (s:List UInt8) (hs:s.length<4294967281):Calls Tryz.prog 193 #[.string ⟨s.toArray⟩,.string ⟨#[47]⟩] w fun e w'=>∃v,e=.returned (sc1 v)/\Zdi w' v (lev s)/\Zp2 w.heap.size v (lev s)/\Mod [] w w':=by refine Z2 (Zb (ρ:=[.s s,.s [47]]) sxE_ok Tryz.func193 Z80 rfl rfl rfl ?_) rfl;simp only[Tree.goal,X.P,X.ev,SV.ev,CV.ev,Sc.ev,qz,QA,QB,QC,QD,QE,QF,QG,QH,QI,QJ,QK,QL,QM,Nat.reduceAdd];intro w1 hr;refine(Zm8 w1 s hs).mono ?_;rintro e w2 ⟨v1,rfl,r1,f1,m1⟩;have hsz:=hr.mod.size;refine⟨[.v v1,.r ((lev s).map Z1f)],rfl,rfl,m1,qy5 _,qy2.2 ⟨⟨r1,fun k hk=>.inl (f1 k hk)⟩,qy5 _⟩,Z3,?_⟩;simp only[Tree.goal,X.P,X.ev,SV.ev,CV.ev,Sc.ev,qz,QA,QB,QC,QD,QE,QF,QG,QH,QI,QJ,QK,QL,QM,Nat.reduceAdd];exact fun w' hr=>⟨v1,rfl,hr.at_ 0 rfl,fun k hk=>Nat.le_trans hsz (f1 k hk),hr.mod⟩
theorem Zaj (w:World) (s:List UInt8) (hs:s.length<4294967281):Calls Tryz.prog 112 #[.string ⟨s.toArray⟩] w fun e w'=>∃v,e=.returned (sc1 v)/\Zdi w' v (lev s)/\Zp2 w.heap.size v (lev s)/\Mod [] w w':=by refine Z2 (Zb (ρ:=[.s s]) sxE_ok Tryz.func112 Z93 rfl rfl rfl ?_) rfl;simp only[Tree.goal,X.P,X.ev,SV.ev,CV.ev,Sc.ev,qz,QA,QB,QC,QD,QE,QF,QG,QH,QI,QJ,QK,QL,QM,Nat.reduceAdd];intro w1 hr;refine(Zxg w1 s hs).mono ?_;rintro e w2 ⟨v1,rfl,r1,f1,m1⟩;have hsz:=hr.mod.size;refine⟨[.v v1,.r ((lev s).map Z1f)],rfl,rfl,m1,qy5 _,qy2.2 ⟨⟨r1,fun k hk=>.inl (f1 k hk)⟩,qy5 _⟩,Z3,?_⟩;simp only[Tree.goal,X.P,X.ev,SV.ev,CV.ev,Sc.ev,qz,QA,QB,QC,QD,QE,QF,QG,QH,QI,QJ,QK,QL,QM,Nat.reduceAdd];exact fun w' hr=>⟨v1,rfl,hr.at_ 0 rfl,fun k hk=>Nat.le_trans hsz (f1 k hk),hr.mod⟩
def Z2m (s:List UInt8):Bool:=s.all fun b=>decide (33<=b.toNat/\b.toNat<=126)
theorem Zm9 (s:List UInt8) (i:Nat) (h:i<s.length):Z2m (s.take (i+1))=(Z2m (s.take i) && decide (33<=(s.getD i 0).toNat/\(s.getD i 0).toNat<=126)):=by rw[List.take_add_one,qy1,qy7 h];simp only[Z2m,List.all_append,Option.toList_some,List.all_cons,List.all_nil,Bool.and_true,Option.getD_some]
theorem Zp5 {s:List UInt8} {i:Nat} (h:i<s.length) (h1:¬(33<=(s.getD i 0).toNat/\(s.getD i 0).toNat<=126)):Z2m s=false:=by rw[<- Bool.not_eq_true];intro h2;rw[Z2m,List.all_eq_true]at h2;have:=h2 (s.getD i 0) (by rw[qy1,qy7 h];exact List.getElem_mem h);exact h1 (of_decide_eq_true this)
theorem Zet (w:World) (s:List UInt8) (hs:s.length<1099511627776):Calls Tryz.prog 118 #[.string ⟨s.toArray⟩] w fun e w'=>e=.returned (.bool (Z2m s))/\Mod [] w w':=by
 refine Z2 (Zb (ρ:=[.s s]) sxE_ok Tryz.func118 Za0 rfl rfl rfl ?_) rfl;simp only[Tree.goal,X.P,X.ev,SV.ev,CV.ev,Sc.ev,qz,QA,QB,QC,QD,QE,QF,QG,QH,QI,QJ,QK,QL,QM,Nat.reduceAdd];refine⟨fun vs=>∃(x:V) (i:Nat),vs=[x,.i i]/\i<=s.length/\Z2m (s.take i)=true,fun vs=>s.length - (vs.getD 1 (.i 0)).toI.toNat,⟨_,0,rfl,by omega,rfl⟩,?_⟩;rintro _ - ⟨x,i,rfl,hi,hp⟩;simp only[Tree.goal,X.P,X.ev,SV.ev,CV.ev,Sc.ev,qz,QA,QB,QC,QD,QE,QF,QG,QH,QI,QJ,QK,QL,QM,Nat.reduceAdd,qy4];refine⟨fun h1=>⟨by omega,fun h2 w' hr=>⟨by rw[Zp5 (i:=i) (by omega) (by omega)],hr.mod⟩,fun h2=>⟨by omega,by omega,⟨x,i+1,rfl,by omega,?_⟩,by omega⟩⟩,fun h1 w' hr=>⟨?_,hr.mod⟩⟩
 ·rw[Zm9 _ _ (by omega),hp,Bool.true_and,decide_eq_true_eq];omega
 ·have:i=s.length:=by omega
  subst this;rw[List.take_length]at hp;rw[hp]
def wild (x:List UInt8):Bool:=x.any fun b=>b == 43 || b == 35
theorem Zto:∀x:List UInt8,Lib.containsAny x [43,35]=wild x:=by
 intro x;induction x with
 | nil=>rfl
 | cons b l ih =>
  have hg:=Lib.indexAny_ge [43,35] l;unfold Lib.containsAny at ih ⊢;unfold Lib.indexAny;simp only[wild,List.any_cons];by_cases h:b=43\/b=35
  ·have h1:([43,35]:List UInt8).contains b=true:=by rcases h with h|h<;>subst h<;>decide
   have h2:(b == 43 || b == 35)=true:=by rcases h with h|h<;>subst h<;>decide
   rw[if_pos h1,h2]<;>rfl
  ·have h1:¬([43,35]:List UInt8).contains b=true:=by simp;exact⟨fun h2=>h (.inl h2),fun h2=>h (.inr h2)⟩
   have h2:(b == 43 || b == 35)=false:=by simp;exact⟨fun h2=>h (.inl h2),fun h2=>h (.inr h2)⟩
   rw[if_neg h1,h2,Bool.false_or];change _=wild l;rw[<- ih];by_cases h3:Lib.indexAny l [43,35]=-1
   ·rw[if_pos (by simpa using h3),h3]<;>rfl
   ·rw[if_neg (by simpa using h3)];exact decide_eq_decide.2 (by omega)
theorem Z85 (w:World) (x:List UInt8) (hs:x.length<4294967281) (ha:∀b∈x,b.toNat<128):Calls Tryz.prog 237 #[.string ⟨x.toArray⟩,.string ⟨#[43,35]⟩] w fun e w'=>e=.returned (.bool (wild x))/\Mod [] w w':=by
 refine(Z2 (Any.strings_ContainsAny_laid Tryz.lays150 (by kernel_rfl) ⟨x.toArray⟩ ⟨#[43,35]⟩ w hs (by decide) (fun j b hb=>ha b (qy6 hb)) (fun j b hb=>?_)) rfl).mono ?_
 ·have:b∈([43,35]:List UInt8):=qy6 hb;simp at this;rcases this with rfl|rfl<;>decide
 ·rintro e w' ⟨h1,h2⟩;refine⟨?_,Mod.of_below h2⟩;rw[h1];exact congrArg (fun b=>Ending.returned (Value.bool b)) (Zto x)
def badL (filter:Bool):List (List UInt8)->Bool
 | []=>false
 | x::r=>(wild x && (!filter || (!decide (x=[43]) && (!decide (x=[35]) || !decide (r=[]))))) || badL filter r
def chkT (s:List UInt8) (filter:Bool):Int :=
 if s=[] then 1 else if 60<(s.length:Int)\/6<((lev s).length:Int) then 2 else if Z2m s=true then (if badL filter (lev s)=true then 1 else 0) else 1
theorem Zk8 {f:Bool}:chkT [] f=1:=rfl
theorem Zgd {s:List UInt8} {f:Bool} (h:¬s=[]) (h1:60<(s.length:Int)\/6<((lev s).length:Int)):chkT s f=2:=by rw[chkT,if_neg h,if_pos h1]
theorem Zdj {s:List UInt8} {f:Bool} (h:¬s=[]) (h1:¬(60<(s.length:Int)\/6<((lev s).length:Int))) (h2:¬Z2m s=true):chkT s f=1:=by rw[chkT,if_neg h,if_neg h1,if_neg h2]
theorem Zk9 {s:List UInt8} {f:Bool} (h:¬s=[]) (h1:¬(60<(s.length:Int)\/6<((lev s).length:Int))) (h2:Z2m s=true):chkT s f=if badL f (lev s)=true then 1 else 0:=by rw[chkT,if_neg h,if_neg h1,if_pos h2]
theorem Zxh:∀{s x:List UInt8},x∈lev s->∀b∈x,b∈s:=by
 intro s;induction s with
 | nil=>intro x hx b hb;simp[lev]at hx;subst hx;simp at hb
 | cons c l ih =>
  intro x hx b hb;by_cases hc:c=47
  ·subst hc;rw[Z84]at hx;rcases List.mem_cons.1 hx with rfl|hx
   ·simp at hb
   ·exact qy10 _ (ih hx b hb)
  ·obtain⟨y,ys,e⟩:=Zk6 l;rw[Z5y _ hc,e]at hx;rcases List.mem_cons.1 hx with rfl|hx
   ·rcases qy13.1 hb with hb|hb
    ·simp at hb;subst hb;simp
    ·exact qy10 _ (ih (by rw[e];exact qy8 ..) b hb)
   ·exact qy10 _ (ih (by rw[e];exact qy10 _ hx) b hb)
theorem Zeu {ps:List (List UInt8)} {i:Nat} (h:i<ps.length):ps.getD i []∈ps:=by rw[qy1,qy7 h];exact List.getElem_mem h
theorem Zge {s:List UInt8} (hp:Z2m s=true) {i:Nat} (h:i<(lev s).length):∀b∈(lev s).getD i [],b.toNat<128:=fun b hb=>by have h1:=Zxh (Zeu h) b hb;have:=of_decide_eq_true (List.all_eq_true.1 hp b h1);omega
theorem Zka {s x:List UInt8} (hx:x∈lev s):x.length<=s.length:=by
 induction s generalizing x with
 | nil=>simp[lev]at hx;subst hx;simp
 | cons c l ih =>
  by_cases hc:c=47
  ·subst hc;rw[Z84]at hx;rcases List.mem_cons.1 hx with rfl|hx
   ·simp
   ·have:=ih hx;simp;omega
  ·obtain⟨y,ys,e⟩:=Zk6 l;rw[Z5y _ hc,e]at hx;rcases List.mem_cons.1 hx with rfl|hx
   ·have:=ih (x:=y) (by rw[e];exact qy8 ..);simp;omega
   ·have:=ih (x:=x) (by rw[e];exact qy10 _ hx);simp;omega
theorem Z86 (s:List UInt8):(lev s).length<=s.length+1:=by
 induction s with
 | nil=>simp[lev]
 | cons c l ih =>
  by_cases hc:c=47
  ·subst hc;rw[Z84];simp;omega
  ·obtain⟨y,ys,e⟩:=Zk6 l;rw[Z5y _ hc,e];rw[e]at ih;simp[glue]at *;omega
theorem Zdk (w:World) (s:List UInt8) (hs:s.length<4294967281):Calls Tryz.prog 103 #[.string ⟨s.toArray⟩] w fun e w'=>e=.returned (.int .i64 (chkT s false))/\Mod [] w w':=by
 refine Z2 (Zb (ρ:=[.s s]) sxE_ok Tryz.func103 Zbf rfl rfl rfl ?_) rfl;simp only[Tree.goal,X.P,X.ev,SV.ev,CV.ev,Sc.ev,qz,QA,QB,QC,QD,QE,QF,QG,QH,QI,QJ,QK,QL,QM,Nat.reduceAdd];intro w1 hr;refine(Zaj w1 s (by omega)).mono ?_;rintro e w2 ⟨v1,rfl,r1,f1,m1⟩;refine⟨[.v v1,.r ((lev s).map Z1f)],rfl,rfl,m1,qy5 _,qy2.2 ⟨⟨r1,fun k hk=>.inl (f1 k hk)⟩,qy5 _⟩,Z3,?_⟩;simp only[Tree.goal,X.P,X.ev,SV.ev,CV.ev,Sc.ev,qz,QA,QB,QC,QD,QE,QF,QG,QH,QI,QJ,QK,QL,QM,Nat.reduceAdd,qy3];have hlc:=Z86 s;refine⟨fun h w' hr=>⟨by rw[h,Zk8],hr.mod⟩,fun h=>⟨fun h1 w' hr=>⟨by rw[Zgd h h1],hr.mod⟩,fun h1=>?_⟩⟩;refine⟨[.b (Z2m s)],rfl,fun _ w' _=>Zet w' s (by omega),?_⟩;simp only[Tree.goal,X.P,X.ev,SV.ev,CV.ev,Sc.ev,qz,QA,QB,QC,QD,QE,QF,QG,QH,QI,QJ,QK,QL,QM,Nat.reduceAdd];refine⟨fun h2 w' hr=>⟨by rw[Zdj h h1 h2],hr.mod⟩,fun h2=>?_⟩;(have h2:=qy9.1 h2);rw[Zk9 h h1 h2];refine⟨fun vs=>∃(x:V) (i:Nat),vs=[x,.i i]/\i<=(lev s).length/\badL false ((lev s).drop i)=badL false (lev s),fun vs=>(lev s).length - (vs.getD 1 (.i 0)).toI.toNat,⟨_,0,rfl,by omega,rfl⟩,?_⟩;rintro _ - ⟨x,i,rfl,hi,hg⟩;simp only[Tree.goal,X.P,X.ev,SV.ev,CV.ev,Sc.ev,qz,QA,QB,QC,QD,QE,QF,QG,QH,QI,QJ,QK,QL,QM,Nat.reduceAdd,qy4,qy3,Zn];refine⟨fun h3=>?_,fun h3 w' hr=>⟨?_,hr.mod⟩⟩
 ·rw[Zp3 _ i (by omega)]at hg;have hsz:=Zka (Zeu (ps:=lev s) (i:=i) (by omega));have has:=Zge h2 (i:=i) (by omega);generalize (lev s).getD i []=y at hg hsz has ⊢
  (repeat refine⟨by omega,?_⟩)
  refine⟨[.b (wild y)],rfl,fun _ w' _=>Z85 w' y (by omega) has,?_⟩;simp only[Tree.goal,X.P,X.ev,SV.ev,CV.ev,Sc.ev,qz,QA,QB,QC,QD,QE,QF,QG,QH,QI,QJ,QK,QL,QM,Nat.reduceAdd];simp only[badL,Bool.not_false,Bool.true_or,Bool.and_true]at hg;refine⟨fun h4 w' hr=>⟨by rw[<- hg,h4];rfl,hr.mod⟩,fun h4=>⟨by omega,by omega,⟨x,i+1,rfl,by omega,?_⟩,by omega⟩⟩;rw[<- hg,(Bool.not_eq_true _).mp h4];simp
 ·have:i=(lev s).length:=by omega
  subst this;rw[List.drop_length]at hg;rw[<- hg];rfl
theorem Zkb (w:World) (s:List UInt8) (hs:s.length<4294967281):Calls Tryz.prog 265 #[.string ⟨s.toArray⟩] w fun e w'=>e=.returned (.int .i64 (chkT s true))/\Mod [] w w':=by
 refine Z2 (Zb (ρ:=[.s s]) sxE_ok Tryz.func265 Z95 rfl rfl rfl ?_) rfl;simp only[Tree.goal,X.P,X.ev,SV.ev,CV.ev,Sc.ev,qz,QA,QB,QC,QD,QE,QF,QG,QH,QI,QJ,QK,QL,QM,Nat.reduceAdd];intro w1 hr;refine(Zaj w1 s (by omega)).mono ?_;rintro e w2 ⟨v1,rfl,r1,f1,m1⟩;refine⟨[.v v1,.r ((lev s).map Z1f)],rfl,rfl,m1,qy5 _,qy2.2 ⟨⟨r1,fun k hk=>.inl (f1 k hk)⟩,qy5 _⟩,Z3,?_⟩;simp only[Tree.goal,X.P,X.ev,SV.ev,CV.ev,Sc.ev,qz,QA,QB,QC,QD,QE,QF,QG,QH,QI,QJ,QK,QL,QM,Nat.reduceAdd,qy3];have hlc:=Z86 s;refine⟨fun h w' hr=>⟨by rw[h,Zk8],hr.mod⟩,fun h=>⟨fun h1 w' hr=>⟨by rw[Zgd h h1],hr.mod⟩,fun h1=>?_⟩⟩;refine⟨[.b (Z2m s)],rfl,fun _ w' _=>Zet w' s (by omega),?_⟩;simp only[Tree.goal,X.P,X.ev,SV.ev,CV.ev,Sc.ev,qz,QA,QB,QC,QD,QE,QF,QG,QH,QI,QJ,QK,QL,QM,Nat.reduceAdd];refine⟨fun h2 w' hr=>⟨by rw[Zdj h h1 h2],hr.mod⟩,fun h2=>?_⟩;(have h2:=qy9.1 h2);rw[Zk9 h h1 h2];refine⟨fun vs=>∃(x:V) (i:Nat),vs=[x,.i i]/\i<=(lev s).length/\badL true ((lev s).drop i)=badL true (lev s),fun vs=>(lev s).length - (vs.getD 1 (.i 0)).toI.toNat,⟨_,0,rfl,by omega,rfl⟩,?_⟩;rintro _ - ⟨x,i,rfl,hi,hg⟩;simp only[Tree.goal,X.P,X.ev,SV.ev,CV.ev,Sc.ev,qz,QA,QB,QC,QD,QE,QF,QG,QH,QI,QJ,QK,QL,QM,Nat.reduceAdd,qy4,qy3,Zn];refine⟨fun h3=>?_,fun h3 w' hr=>⟨?_,hr.mod⟩⟩
 ·rw[Zp3 _ i (by omega)]at hg;have hsz:=Zka (Zeu (ps:=lev s) (i:=i) (by omega));have has:=Zge h2 (i:=i) (by omega);have hlast:(lev s).drop (i+1)=[]↔(i:Int)=((lev s).length:Int) - 1:=by rw[List.drop_eq_nil_iff];omega
  generalize (lev s).getD i []=y at hg hsz has ⊢
  (repeat refine⟨by omega,?_⟩)
  refine⟨[.b (wild y)],rfl,fun _ w' _=>Z85 w' y (by omega) has,?_⟩;simp only[Tree.goal,X.P,X.ev,SV.ev,CV.ev,Sc.ev,qz,QA,QB,QC,QD,QE,QF,QG,QH,QI,QJ,QK,QL,QM,Nat.reduceAdd];have key:(¬((¬wild y=true\/y=[43])\/y=[35]/\(i:Int)=((lev s).length:Int) - 1))↔(wild y && (!true || (!decide (y=[43]) && (!decide (y=[35]) || !decide ((lev s).drop (i+1)=[])))))=true:=by rw[<- hlast];cases wild y<;>by_cases q1:y=[43]<;>by_cases q2:y=[35]<;>by_cases q3:(lev s).drop (i+1)=[]<;>simp[q1,q2,q3]
  simp only[badL]at hg;refine⟨fun h4 w' hr=>⟨by rw[<- hg,key.1 h4];rfl,hr.mod⟩,fun h4=>⟨by omega,by omega,⟨x,i+1,rfl,by omega,?_⟩,by omega⟩⟩;have h5:=(Bool.not_eq_true _).mp (fun h=>h4 (key.2 h));rw[<- hg,h5];simp
 ·have:i=(lev s).length:=by omega
  subst this;rw[List.drop_length]at hg;rw[<- hg];rfl
def mt:List (List UInt8)->List (List UInt8)->Bool
 | [],n=>decide (n=[])
 | f::fs,n=>if f=[35] then true else match n with
  | []=>false
  | x::xs=>if f=[43]\/f=x then mt fs xs else false
def cv:List (List UInt8)->List (List UInt8)->Bool
 | [],n=>decide (n=[])
 | f::fs,n=>if f=[35] then true else match n with
  | []=>false
  | x::xs=>if x=[35] then false else if f=[43]\/f=x then cv fs xs else false
theorem Z101 {f:List UInt8} (fs n:List (List UInt8)) (h:f=[35]):mt (f::fs) n=true:=by cases n<;>simp[mt,h]
theorem Zxi {f:List UInt8} (fs:List (List UInt8)) (h:¬f=[35]):mt (f::fs) []=false:=by simp[mt,h]
theorem Zxj {f:List UInt8} (fs:List (List UInt8)) (x:List UInt8) (xs:List (List UInt8)) (h:¬f=[35]):mt (f::fs) (x::xs)=if f=[43]\/f=x then mt fs xs else false:=by simp[mt,h]
theorem tk1 (f:List UInt8) (fs:List (List UInt8)):List.drop (Int.toNat 1) (List.take (((fs.length+1:Nat):Int)).toNat (Z1f f::fs.map Z1f))=fs.map Z1f:=by rw[qy4,List.take_of_length_le (by simp)];rfl
theorem Z87 {w:World} {u:Value} {a b:List (List Value)} (h:reads w u [.str] a) (e:a=b):reads w u [.str] b:=e▸h
theorem Zxk:∀(fs ns:List (List UInt8)) (u v:Value) (w:World),Zdi w u fs->Zdi w v ns->fs.length<1099511627776->ns.length<1099511627776 -> Calls Tryz.prog 238 #[sc1 u,sc1 v] w fun e w'=>e=.returned (.bool (mt fs ns))/\Mod [] w w':=by
 intro fs;induction fs with
 | nil =>
  intro ns u v w hu hv hl hn;refine Z2 (Z4 (ρ:=[.v u,.r (([]:List (List UInt8)).map Z1f),.v v,.r (ns.map Z1f)]) sxE_ok Tryz.func238 Z5e rfl rfl (Rel.start2 (by simp only[qy2];exact⟨⟨hu,rfl⟩,⟨hv,rfl⟩,by simp⟩)) rfl rfl ?_) rfl;simp only[Tree.goal,X.P,X.ev,SV.ev,CV.ev,Sc.ev,qz,QA,QB,QC,QD,QE,QF,QG,QH,QI,QJ,QK,QL,QM,Nat.reduceAdd,qy3];refine⟨fun _ w' hr=>⟨?_,hr.mod⟩,fun h=>absurd rfl h⟩;simp only[mt,Ending.returned.injEq,Value.bool.injEq];exact decide_eq_decide.2 (by rw[<- List.length_eq_zero_iff];omega)
 | cons f fs ih =>
  intro ns u v w hu hv hl hn;refine Z2 (Z4 (ρ:=[.v u,.r ((f::fs).map Z1f),.v v,.r (ns.map Z1f)]) sxE_ok Tryz.func238 Z5e rfl rfl (Rel.start2 (by simp only[qy2];exact⟨⟨hu,rfl⟩,⟨hv,rfl⟩,by simp⟩)) rfl rfl ?_) rfl;simp only[Tree.goal,X.P,X.ev,SV.ev,CV.ev,Sc.ev,qz,QA,QB,QC,QD,QE,QF,QG,QH,QI,QJ,QK,QL,QM,Nat.reduceAdd,qy3,Int.toNat_zero];have g0:Value.gS (((Z1f f::fs.map Z1f).getD 0 []).getD 0 undef)=f:=Zn (f::fs) 0;simp only[List.getD_cons_zero]at g0;have g1:=Zn ns 0;rw[g0,g1];refine⟨fun h=>absurd h (by omega),fun _=>⟨by omega,fun h1 w' hr=>⟨by rw[Z101 _ _ h1],hr.mod⟩,fun h1=>?_⟩⟩;rcases ns with _|⟨x,xs⟩
  ·refine⟨.inl fun h=>absurd rfl h.1,fun _ w' hr=>⟨by rw[Zxi _ h1],hr.mod⟩,fun h=>absurd (.inl rfl) h⟩
  ·have hl':fs.length<1099511627776:=by rw[List.length_cons]at hl;omega
   have hn':xs.length<1099511627776:=by rw[List.length_cons]at hn;omega
   simp only[List.getD_cons_zero,List.length_cons];rw[Zxj _ _ _ h1];refine⟨.inr (by omega),fun h2 w' hr=>⟨?_,hr.mod⟩,fun h2=>?_⟩
   ·rw[if_neg];intro h3;rcases h2 with h2|h2
    ·omega
    ·rcases h3 with h3|h3
     ·exact h2.1 h3
     ·exact h2.2 h3
   ·have h3:f=[43]\/f=x:=by
     by_cases h4:f=[43]
     ·exact .inl h4
     ·by_cases h5:f=x
      ·exact .inr h5
      ·exact absurd (.inr ⟨h4,h5⟩) h2
    rw[if_pos h3];refine⟨⟨by omega,fun v1=>⟨by omega,fun v2=>?_⟩⟩,⟨by omega,fun v1=>⟨by omega,fun v2=>?_⟩⟩⟩
    ·refine⟨[.b (mt fs xs)],rfl,fun _ w' hr=>?_,?_⟩;(· have q0:=hr.at_ 0 rfl;have q1:=hr.at_ 1 rfl;simp only[Ent.holds,Tree.goal,X.P,X.ev,SV.ev,CV.ev,Sc.ev,qz,QA,QB,QC,QD,QE,QF,QG,QH,QI,QJ,QK,QL,QM,Nat.reduceAdd,qy3,List.length_cons]at q0 q1;clear hl hn;exact ih xs v1 v2 w' (Z87 q1 (tk1 _ _)) (Z87 q0 (tk1 _ _)) hl' hn');simp only[Tree.goal,X.P,X.ev,SV.ev,CV.ev,Sc.ev,qz,QA,QB,QC,QD,QE,QF,QG,QH,QI,QJ,QK,QL,QM,Nat.reduceAdd];exact fun w' hr=>⟨by trivial,hr.mod⟩
    ·refine⟨[.b (mt fs xs)],rfl,fun _ w' hr=>?_,?_⟩;(· have q0:=hr.at_ 0 rfl;have q1:=hr.at_ 1 rfl;simp only[Ent.holds,Tree.goal,X.P,X.ev,SV.ev,CV.ev,Sc.ev,qz,QA,QB,QC,QD,QE,QF,QG,QH,QI,QJ,QK,QL,QM,Nat.reduceAdd,qy3,List.length_cons]at q0 q1;clear hl hn;exact ih xs v2 v1 w' (Z87 q0 (tk1 _ _)) (Z87 q1 (tk1 _ _)) hl' hn');simp only[Tree.goal,X.P,X.ev,SV.ev,CV.ev,Sc.ev,qz,QA,QB,QC,QD,QE,QF,QG,QH,QI,QJ,QK,QL,QM,Nat.reduceAdd];exact fun w' hr=>⟨by trivial,hr.mod⟩
theorem Zxl (w:World) (f n:List UInt8) (hf:f.length<4294967281) (hn:n.length<4294967281):Calls Tryz.prog 181 #[.string ⟨f.toArray⟩,.string ⟨n.toArray⟩] w fun e w'=>e=.returned (.bool (mt (lev f) (lev n)))/\Mod [] w w':=by refine Z2 (Zb (ρ:=[.s f,.s n]) sxE_ok Tryz.func181 Zcw rfl rfl rfl ?_) rfl;simp only[Tree.goal,X.P,X.ev,SV.ev,CV.ev,Sc.ev,qz,QA,QB,QC,QD,QE,QF,QG,QH,QI,QJ,QK,QL,QM,Nat.reduceAdd];intro w1 hr;refine(Zaj w1 f hf).mono ?_;rintro e w2 ⟨v1,rfl,r1,f1,m1⟩;refine⟨[.v v1,.r ((lev f).map Z1f)],rfl,rfl,m1,qy5 _,qy2.2 ⟨⟨r1,fun k hk=>.inl (f1 k hk)⟩,qy5 _⟩,Z3,?_⟩;simp only[Tree.goal,X.P,X.ev,SV.ev,CV.ev,Sc.ev,qz,QA,QB,QC,QD,QE,QF,QG,QH,QI,QJ,QK,QL,QM,Nat.reduceAdd];intro w3 hr;refine(Zaj w3 n hn).mono ?_;rintro e w4 ⟨v2,rfl,r1,f1,m1⟩;refine⟨[.v v2,.r ((lev n).map Z1f)],rfl,rfl,m1,qy5 _,qy2.2 ⟨⟨r1,fun k hk=>.inl (f1 k hk)⟩,qy5 _⟩,Z3,?_⟩;simp only[Tree.goal,X.P,X.ev,SV.ev,CV.ev,Sc.ev,qz,QA,QB,QC,QD,QE,QF,QG,QH,QI,QJ,QK,QL,QM,Nat.reduceAdd];have l1:=Z86 f;have l2:=Z86 n;refine⟨[.b (mt (lev f) (lev n))],rfl,fun _ w' hr=>Zxk (lev f) (lev n) v1 v2 w' (hr.at_ 1 rfl) (hr.at_ 0 rfl) (by omega) (by omega),?_⟩;simp only[Tree.goal,X.P,X.ev,SV.ev,CV.ev,Sc.ev,qz,QA,QB,QC,QD,QE,QF,QG,QH,QI,QJ,QK,QL,QM,Nat.reduceAdd];exact fun w' hr=>⟨by trivial,hr.mod⟩
abbrev Wat:=Int×List UInt8×List UInt8×Int
def Z9 (w:Wat):List Value:=[.int .i64 w.1,.string ⟨w.2.1.toArray⟩,.string ⟨w.2.2.1.toArray⟩,.int .i64 w.2.2.2]
abbrev wD_K:Wat:=(0,[],[],0)
theorem Z1t (l:List Wat) (i:Nat):Value.gI (((l.map Z9).getD i []).getD 0 undef)=(l.getD i wD_K).1:=by simp only[qy1,List.getElem?_map];cases l[i]?<;>rfl
theorem Z1u (l:List Wat) (i:Nat):Value.gS (((l.map Z9).getD i []).getD 1 undef)=(l.getD i wD_K).2.1:=by simp only[qy1,List.getElem?_map];cases l[i]?<;>simp[Z9,Value.gS,undef]
theorem Z17 (l:List Wat) (i:Nat):Value.gS (((l.map Z9).getD i []).getD 2 undef)=(l.getD i wD_K).2.2.1:=by simp only[qy1,List.getElem?_map];cases l[i]?<;>simp[Z9,Value.gS,undef]
theorem gW3 (l:List Wat) (i:Nat):Value.gI (((l.map Z9).getD i []).getD 3 undef)=(l.getD i wD_K).2.2.2:=by simp only[qy1,List.getElem?_map];cases l[i]?<;>rfl
abbrev kW_K:List Kd:=[.int .i64,.str,.str,.int .i64]
abbrev Z6a (w:World) (v:Value) (l:List Wat):Prop:=reads w v kW_K (l.map Z9)
theorem Zig (l:List Wat) (i:Nat) (h:i<l.length):l.drop i=l.getD i wD_K::l.drop (i+1):=by rw[List.drop_eq_getElem_cons h,qy1,qy7 h];rfl
theorem Z9a (l:List Wat) (i:Nat) (h:i<l.length):l.take (i+1)=l.take i++[l.getD i wD_K]:=by rw[List.take_add_one,qy1,qy7 h];rfl
theorem Zkc (l:List Wat) {k i:Nat} (h:k<i):(l.take i).getD k wD_K=l.getD k wD_K:=by simp only[qy1,List.getElem?_take,if_pos h]
def Z88 (p:Int) (t n:List UInt8):Int:=if 0<=p/\p<=9 then (if 8<(t.length:Int) then 2 else chkT n false) else 3
def Z76 (p:Int) (t:List UInt8) (w:Wat):Bool:=decide (w.1=p/\w.2.1=t)
def chkL:List Wat->List Wat->Int
 | _,[]=>0
 | prev,w::l=>if Z88 w.1 w.2.1 w.2.2.1≠0 then Z88 w.1 w.2.1 w.2.2.1 else if 0<=w.2.2.2/\w.2.2.2<=16777215 then (if prev.any (Z76 w.1 w.2.1)=true then 6 else chkL (prev++[w]) l) else 3
def Z1n (l:List Wat):Int:=if 12<(l.length:Int) then 2 else chkL [] l
theorem Zxm (w:World) (x:Wat) (hn:x.2.2.1.length<4294967281):Calls Tryz.prog 155 #[.agg #[.int .i64 x.1,.string ⟨x.2.1.toArray⟩,.string ⟨x.2.2.1.toArray⟩,.int .i64 x.2.2.2]] w fun e w'=>e=.returned (.int .i64 (Z88 x.1 x.2.1 x.2.2.1))/\Mod [] w w':=by refine Z2 (Zb (ρ:=[.i x.1,.s x.2.1,.s x.2.2.1,.i x.2.2.2]) sxE_ok Tryz.func155 Zcs rfl rfl rfl ?_) rfl;simp only[Tree.goal,X.P,X.ev,SV.ev,CV.ev,Sc.ev,qz,QA,QB,QC,QD,QE,QF,QG,QH,QI,QJ,QK,QL,QM,Nat.reduceAdd];intro b;refine⟨fun h w' hr=>⟨by rw[Z88,if_neg h],hr.mod⟩,fun h=>⟨fun h1 w' hr=>⟨by rw[Z88,if_pos (qy9.1 h),if_pos h1],hr.mod⟩,fun h1=>?_⟩⟩;refine⟨[.i (chkT x.2.2.1 false)],rfl,fun _ w' _=>Zdk w' _ hn,?_⟩;simp only[Tree.goal,X.P,X.ev,SV.ev,CV.ev,Sc.ev,qz,QA,QB,QC,QD,QE,QF,QG,QH,QI,QJ,QK,QL,QM,Nat.reduceAdd];exact fun w' hr=>⟨by rw[Z88,if_pos (qy9.1 h),if_neg h1],hr.mod⟩
def Z6b (l:List Wat):Prop:=∀x∈l,x.2.2.1.length<4294967281
theorem Zih {l:List Wat} (h:Z6b l) (i:Nat):(l.getD i wD_K).2.2.1.length<4294967281:=by
 by_cases hi:i<l.length
 ·rw[qy1,qy7 hi];exact h _ (List.getElem_mem hi)
 ·rw[qy1,List.getElem?_eq_none (by omega)];decide
theorem Zkd (p:Wat->Bool) (l:List Wat) (k:Nat) (h:k<l.length):(l.take (k+1)).any p=((l.take k).any p || p (l.getD k wD_K)):=by rw[Z9a l k h,List.any_append];simp
theorem Ztp {p:Wat->Bool} {l:List Wat} {k i:Nat} (hk:k<i) (hi:i<=l.length) (h:p (l.getD k wD_K)=true):(l.take i).any p=true:=by rw[List.any_eq_true];refine⟨l.getD k wD_K,?_,h⟩;rw[<- Zkc l hk,qy1,qy7 (by simp;omega)];exact List.getElem_mem _
theorem Zma (w:World) (v:Value) (l:List Wat) (hv:Z6a w v l) (hs:Z6b l) (hl:l.length<1099511627776):Calls Tryz.prog 73 #[sc1 v] w fun e w'=>e=.returned (.int .i64 (Z1n l))/\Mod [] w w':=by
 refine Z2 (Z4 (ρ:=[.v v,.r (l.map Z9)]) sxE_ok Tryz.func73 Za4 rfl rfl (Rel.start2 (by simp[Ent.holds,Ent.wr,hv,X.ev])) rfl rfl ?_) rfl;simp only[Tree.goal,X.P,X.ev,SV.ev,CV.ev,Sc.ev,qz,QA,QB,QC,QD,QE,QF,QG,QH,QI,QJ,QK,QL,QM,Nat.reduceAdd,qy3];refine⟨fun h w' hr=>⟨by rw[Z1n,if_pos h],hr.mod⟩,fun h=>?_⟩;rw[Z1n,if_neg h];refine⟨fun vs=>∃(i:Nat) (x:V),vs=[x,.i i]/\i<=l.length/\chkL (l.take i) (l.drop i)=chkL [] l,fun vs=>l.length - (vs.getD 1 (.i 0)).toI.toNat,⟨0,_,rfl,by omega,rfl⟩,?_⟩;rintro _ - ⟨i,x,rfl,hi,hg⟩;simp only[Tree.goal,X.P,X.ev,SV.ev,CV.ev,Sc.ev,qz,QA,QB,QC,QD,QE,QF,QG,QH,QI,QJ,QK,QL,QM,Nat.reduceAdd,qy3,qy4,Z1t,Z1u,Z17,gW3];refine⟨fun h1=>?_,fun h1 w' hr=>⟨?_,hr.mod⟩⟩
 ·have hsm:=Zih hs i;rw[Zig l i (by omega)]at hg;simp only[chkL]at hg;refine⟨by omega,fun b1=>⟨[.i (Z88 (l.getD i wD_K).1 (l.getD i wD_K).2.1 (l.getD i wD_K).2.2.1)],rfl,fun _ w' _=>Zxm w' (l.getD i wD_K) hsm,?_⟩⟩;simp only[Tree.goal,X.P,X.ev,SV.ev,CV.ev,Sc.ev,qz,QA,QB,QC,QD,QE,QF,QG,QH,QI,QJ,QK,QL,QM,Nat.reduceAdd,qy3,qy4,Z1t,Z1u,Z17,gW3];refine⟨fun h2 w' hr=>⟨by rw[<- hg,if_pos h2],hr.mod⟩,fun h2=>?_⟩;rw[if_neg h2]at hg;refine⟨fun h3 w' hr=>⟨by rw[<- hg,if_neg h3],hr.mod⟩,fun h3=>?_⟩;rw[if_pos (qy9.1 h3)]at hg;refine⟨by omega,fun v1=>?_⟩;refine⟨fun vs=>∃(k:Nat) (y:V),vs=[y,.i k,.i (l.getD i wD_K).1,.s (l.getD i wD_K).2.1,.s (l.getD i wD_K).2.2.1,.i (l.getD i wD_K).2.2.2]/\k<=i/\(l.take k).any (Z76 (l.getD i wD_K).1 (l.getD i wD_K).2.1)=false,fun vs=>i - (vs.getD 1 (.i 0)).toI.toNat,⟨0,_,rfl,by omega,by simp⟩,?_⟩;rintro _ - ⟨k,y,rfl,hk,hno⟩;simp only[Tree.goal,X.P,X.ev,SV.ev,CV.ev,Sc.ev,qz,QA,QB,QC,QD,QE,QF,QG,QH,QI,QJ,QK,QL,QM,Nat.reduceAdd,Int.toNat_zero,List.drop_zero,qy4,<- List.map_take,qy3,qy4,Z1t,Z1u,Z17,gW3,List.length_take];refine⟨fun h4=>⟨by omega,fun b2 b3=>?_⟩,fun h4=>?_⟩
  ·have hki:k<i:=by omega
   rw[Zkc l hki];refine⟨fun h5 w' hr=>⟨?_,hr.mod⟩,fun h5=>?_⟩
   ·rw[<- hg,if_pos (Ztp (k:=k) (by omega) (by omega) (by simp only[Z76,decide_eq_true_eq];exact h5))]
   ·refine⟨by omega,by omega,⟨k+1,y,rfl,by omega,?_⟩,by omega⟩;rw[Zkd _ l k (by omega),hno,Bool.false_or];simp only[Z76,decide_eq_false_iff_not];exact h5
  ·have:k=i:=by omega
   subst this;rw[if_neg (by rw[hno];decide),<- Z9a l k (by omega)]at hg;refine⟨fun h5=>absurd h5 (by decide),fun _=>⟨by omega,by omega,⟨k+1,_,rfl,by omega,hg⟩,by omega⟩⟩
 ·have:i=l.length:=by omega
  subst this;rw[List.drop_length]at hg;rw[<- hg];rfl
abbrev Zbn (w:World) (v:Value) (l:List Wat):Prop:=owns w v 68 kW_K (l.map Z9)
def Zdl (n:Nat) (v:Value):Prop:=∀k,Z1 v k->n<=k
def filt (p:Int) (t:List UInt8) (l:List Wat):List Wat:=l.filter fun w=>!Z76 p t w
theorem Zgf (p:Int) (t:List UInt8) (l:List Wat) (i:Nat) (h:i<l.length):filt p t (l.take (i+1))=filt p t (l.take i)++(if Z76 p t (l.getD i wD_K)=true then [] else [l.getD i wD_K]):=by
 rw[Z9a l i h,filt,List.filter_append];congr 1
 cases h2:Z76 p t (l.getD i wD_K)
 ·rw[List.filter_cons,h2];rfl
 ·rw[List.filter_cons,h2];rfl
theorem Ztq (p:Int) (t:List UInt8) (l:List Wat):(filt p t l).length<=l.length:=List.length_filter_le ..
theorem Z89 (l:List Wat) (x:Wat):l.map Z9++[[Value.int .i64 x.1,.string ⟨x.2.1.toArray⟩,.string ⟨x.2.2.1.toArray⟩,.int .i64 x.2.2.2]]=(l++[x]).map Z9:=by simp[Z9]
def Z5o (n:List UInt8) (w:Wat):Wat:=if w.2.2.1=n then (w.1,w.2.1,w.2.2.1,if 16777215<w.2.2.2+1 then 0 else w.2.2.2+1) else w
def Z2r (n:List UInt8) (l:List Wat):List Wat:=l.map (Z5o n)
def Z33 (n:List UInt8) (l:List Wat):List Wat:=(l.filter fun w=>decide (w.2.2.1=n)).map (Z5o n)
def okN (l:List Wat):Prop:=∀x∈l,0<=x.2.2.2/\x.2.2.2<=16777215
theorem Z102 {l:List Wat} (h:okN l) (i:Nat):0<=(l.getD i wD_K).2.2.2/\(l.getD i wD_K).2.2.2<=16777215:=by
 by_cases hi:i<l.length
 ·rw[qy1,qy7 hi];exact h _ (List.getElem_mem hi)
 ·rw[qy1,List.getElem?_eq_none (by omega)];decide
theorem Zgg (n:List UInt8) (l:List Wat) (i:Nat) (h:i<l.length):Z2r n (l.take (i+1))=Z2r n (l.take i)++[Z5o n (l.getD i wD_K)]:=by rw[Z9a l i h];simp[Z2r]
theorem Zmb (n:List UInt8) (l:List Wat) (i:Nat) (h:i<l.length):Z33 n (l.take (i+1))=Z33 n (l.take i)++(if (l.getD i wD_K).2.2.1=n then [Z5o n (l.getD i wD_K)] else []):=by
 rw[Z9a l i h,Z33,List.filter_append,List.map_append];congr 1
 by_cases hc:(l.getD i wD_K).2.2.1=n
 ·rw[List.filter_cons,if_pos (by simpa using hc),if_pos hc];rfl
 ·rw[List.filter_cons,if_neg (by simpa using hc),if_neg hc];rfl
theorem Zii (n:List UInt8) (l:List Wat):(Z33 n l).length<=l.length:=by rw[Z33,qy3];exact List.length_filter_le ..
theorem Zmc {v:Value} (hn:(match v with | .slice none _ _=>true|_=>false)=true) {w:World} {ks:List Kd} {rows:List (List Value)} (h:reads w v ks rows):rows=[]:=by obtain⟨_,a,cap,rfl,_,h2⟩:=h;refine Classical.byContradiction fun hne=>?_;obtain⟨ad,rfl,_⟩:=h2 hne;simp at hn
theorem Z3o (w:World) (v:Value) (l:List Wat) (hv:Z6a w v l) (hl:l.length<1000000000):Calls Tryz.prog 207 #[sc1 v] w fun e w'=>∃v',e=.returned (sc1 v')/\Zbn w' v' l/\Zdl w.heap.size v'/\Mod [] w w':=by
 refine Z2 (Z4 (ρ:=[.v v,.r (l.map Z9)]) sxE_ok Tryz.func207 Z23 rfl rfl (Rel.start2 (by simp[Ent.holds,Ent.wr,hv,X.ev])) rfl rfl ?_) rfl;simp only[Tree.goal,X.P,X.ev,SV.ev,CV.ev,Sc.ev,qz,QA,QB,QC,QD,QE,QF,QG,QH,QI,QJ,QK,QL,QM,Nat.reduceAdd,qy3,List.nil_append];refine⟨fun h w' hr=>?_,fun h v1=>⟨by simp only[Int.natCast_zero];omega,fun v2 w' hr=>?_⟩⟩
 ·have hn:l=[]:=List.map_eq_nil_iff.1 (Zmc h hv);subst hn;refine⟨_,rfl,hr.at_ 0 rfl,fun k hk=>?_,hr.mod⟩;rcases hr.own _ (qy8 ..) rfl k hk with h|h
  ·exact h
  ·simp at h
 ·refine⟨v2,rfl,hr.at_ 0 rfl,fun k hk=>?_,hr.mod⟩;rcases hr.own _ (qy8 ..) rfl k hk with h|h
  ·exact h
  ·simp at h
theorem Zke {p:Int} {t:List UInt8} {l:List Wat} (h:l.any (Z76 p t)=false):filt p t l=l:=by rw[filt,List.filter_eq_self];intro x hx;rw[List.any_eq_false]at h;have:=h x hx;simpa using this
theorem Zgh {R l:List Wat} {j:Nat} (h:R.drop j=l.drop j):R.getD j wD_K=l.getD j wD_K:=by
 have e:∀q:List Wat,q.getD j wD_K=(q.drop j).getD 0 wD_K:=fun q=>by simp[qy1]
 rw[e R,e l,h]
theorem Zp6 (R:List Wat) (m:Nat) (x:Wat):(R.map Z9).set m [Value.int .i64 x.1,.string ⟨x.2.1.toArray⟩,.string ⟨x.2.2.1.toArray⟩,.int .i64 x.2.2.2]=(R.set m x).map Z9:=by rw[List.map_set];rfl
theorem Ztr {R:List Wat} {m:Nat} {x:Wat} (h:m<R.length):(R.set m x).take (m+1)=R.take m++[x]:=by
 rw[List.take_set,Z9a R m h,List.set_append_right _ _ (by simp;omega)];have:m - (R.take m).length=0:=by simp;omega
 rw[this];rfl
theorem Zts {R:List Wat} {m j:Nat} {x:Wat} (h:m<j):(R.set m x).drop j=R.drop j:=by rw[List.drop_set,if_pos h]
theorem Z8a (w:World) (v:Value) (l:List Wat) (p:Int) (t:List UInt8) (hv:Z6a w v l) (hl:l.length<1000000000):Calls Tryz.prog 229 #[sc1 v,.int .i64 p,.string ⟨t.toArray⟩] w fun e w'=>∃v',e=.returned (sc1 v')/\Zbn w' v' (filt p t l)/\Zdl w.heap.size v'/\Mod [] w w':=by
 refine Z2 (Z4 (ρ:=[.v v,.r (l.map Z9),.i p,.s t]) sxE_ok Tryz.func229 Z81 rfl rfl (Rel.start2 (by simp[Ent.holds,Ent.wr,hv,X.ev])) rfl rfl ?_) rfl;simp only[Tree.goal,X.P,X.ev,SV.ev,CV.ev,Sc.ev,qz,QA,QB,QC,QD,QE,QF,QG,QH,QI,QJ,QK,QL,QM,Nat.reduceAdd];intro b1 b2 w1 hr;refine(Z3o w1 v l (hr.at_ 3 rfl) hl).mono ?_;rintro e w2 ⟨u,rfl,o1,f1,m1⟩;refine⟨[.v u,.r (l.map Z9)],rfl,rfl,m1,qy5 _,qy2.2 ⟨⟨o1,fun k hk=>.inl (f1 k hk)⟩,qy5 _⟩,Z3,?_⟩;simp only[Tree.goal,X.P,X.ev,SV.ev,CV.ev,Sc.ev,qz,QA,QB,QC,QD,QE,QF,QG,QH,QI,QJ,QK,QL,QM,Nat.reduceAdd];refine⟨fun vs=>∃(i:Nat) (x:V),vs=[x,.i i,.s t,.i p]/\i<=l.length/\(l.take i).any (Z76 p t)=false,fun vs=>l.length - (vs.getD 1 (.i 0)).toI.toNat,⟨0,_,rfl,by omega,by simp⟩,?_⟩;rintro _ - ⟨i,x,rfl,hi,hno⟩;simp only[Tree.goal,X.P,X.ev,SV.ev,CV.ev,Sc.ev,qz,QA,QB,QC,QD,QE,QF,QG,QH,QI,QJ,QK,QL,QM,Nat.reduceAdd,qy3,qy4,Z1t,Z1u,Z17,gW3];refine⟨fun h1=>⟨by omega,fun b3 b4=>⟨fun h2=>⟨fun h3=>absurd h3 (by omega),fun h3=>⟨by omega,by omega,?_⟩⟩,fun h2=>?_⟩⟩,fun h1 w' hr=>?_⟩
 ·refine⟨fun vs=>∃(m j:Nat) (R:List Wat),vs=[.i m,.i j,.r (R.map Z9),.s t,.i p]/\R.length=l.length/\m<j/\j<=l.length/\R.take m=filt p t (l.take j)/\R.drop j=l.drop j,fun vs=>l.length - (vs.getD 1 (.i 0)).toI.toNat,⟨i,i+1,l,rfl,rfl,by omega,by omega,?_,rfl⟩,?_⟩
  ·have hsn:=Zgf p t l i (by omega);rw[if_pos (by simp only[Z76,decide_eq_true_eq];exact h2),List.append_nil,Zke hno]at hsn;exact hsn.symm
  ·rintro _ - ⟨m,j,R,rfl,hRl,hmj,hj,htk,hdr⟩;simp only[Tree.goal,X.P,X.ev,SV.ev,CV.ev,Sc.ev,qz,QA,QB,QC,QD,QE,QF,QG,QH,QI,QJ,QK,QL,QM,Nat.reduceAdd,qy3,qy4,Z1t,Z1u,Z17,gW3];refine⟨fun h4=>⟨by omega,fun b5 b6 b7=>?_⟩,fun h4=>?_⟩
   ·have hsn:=Zgf p t l j (by omega);have hRj:=Zgh hdr;have hdr1:R.drop (j+1)=l.drop (j+1):=by rw[<- List.drop_drop,<- List.drop_drop,hdr]
    rw[hRj];refine⟨fun h5=>?_,fun h5=>?_⟩
    ·rw[if_neg (by simp only[Z76,decide_eq_true_eq];exact h5)]at hsn;refine⟨by omega,by omega,by omega,by omega,by omega,by omega,⟨m+1,j+1,R.set m (l.getD j wD_K),?_,by simpa using hRl,by omega,by omega,?_,?_⟩,by omega⟩
     ·rw[Zp6];rfl
     ·rw[Ztr (by omega),htk,hsn]
     ·rw[Zts (by omega),hdr1]
    ·rw[if_pos (by simp only[Z76,decide_eq_true_eq];exact qy9.1 h5),List.append_nil]at hsn;exact⟨by omega,by omega,⟨m,j+1,R,rfl,hRl,by omega,by omega,by rw[htk,hsn],hdr1⟩,by omega⟩
   ·have:j=l.length:=by omega
    subst this;rw[List.take_length]at htk;refine⟨by omega,by omega,?_,fun v9 w' hr=>?_⟩
    ·simp only[qy11,List.length_take,qy3,List.length_replicate];omega
    ·have h0:=hr.at_ 0 rfl;simp only[Ent.holds,Tree.goal,X.P,X.ev,SV.ev,CV.ev,Sc.ev,qz,QA,QB,QC,QD,QE,QF,QG,QH,QI,QJ,QK,QL,QM,Nat.reduceAdd,qy3,qy4,Z1t,Z1u,Z17,gW3]at h0;have e1:(List.take m (List.take m (R.map Z9)++List.replicate (R.length - m) [Value.int .i64 0,.string ⟨[].toArray⟩,.string ⟨[].toArray⟩,.int .i64 0]))=(filt p t l).map Z9:=by
      rw[List.take_append_of_le_length (by simp;omega),List.take_take,Nat.min_self,<- List.map_take,htk]
     rw[e1]at h0;refine⟨v9,rfl,h0,fun k hk=>?_,hr.mod⟩;rcases hr.own _ (qy8 ..) rfl k hk with h|h
     ·exact h
     ·simp at h
 ·refine⟨by omega,by omega,⟨i+1,x,rfl,by omega,?_⟩,by omega⟩;rw[Zkd _ l i (by omega),hno,Bool.false_or];simp only[Z76,decide_eq_false_iff_not];exact h2
 ·have:i=l.length:=by omega
  subst this;rw[List.take_length]at hno;rw[Zke hno];refine⟨u,rfl,hr.at_ 1 rfl,fun k hk=>?_,hr.mod⟩;rcases hr.own _ (qy10 _ (qy8 ..)) rfl k hk with h|h
  ·exact h
  ·simp at h
theorem Zp7 {ρ:List V} {u v:Nat} {ks ks':List Kd} {r r':X}:Z2q ρ [.rd u ks r,.rd v ks' r'] :=
 List.pairwise_cons.2 ⟨fun e he hw _ _ _=>by rw[qy12]at he;subst he;exact hw.elim (fun h=>Bool.noConfusion h) (fun h=>Bool.noConfusion h),List.pairwise_singleton _ _⟩
def Z5f (l:List Wat) (x:Wat):List Wat×Int:=if 12<((filt x.1 x.2.1 l).length+1:Int) then ([],2) else (filt x.1 x.2.1 l++[x],0)
def Z129 (w w':World) (e:Ending) (r:List Wat×Int):Prop:=∃v,e=.returned (.tuple #[sc1 v,.int .i64 r.2])/\Zbn w' v r.1/\Zdl w.heap.size v/\Mod [] w w'
theorem Z103 (w:World) (v:Value) (l:List Wat) (x:Wat) (hv:Z6a w v l) (hl:l.length<1000000000):Calls Tryz.prog 228 #[sc1 v,.agg #[.int .i64 x.1,.string ⟨x.2.1.toArray⟩,.string ⟨x.2.2.1.toArray⟩,.int .i64 x.2.2.2]] w fun e w'=>Z129 w w' e (Z5f l x):=by
 refine Z2 (Z4 (ρ:=[.v v,.r (l.map Z9),.i x.1,.s x.2.1,.s x.2.2.1,.i x.2.2.2]) sxE_ok Tryz.func228 Zcv rfl rfl (Rel.start2 (by simp[Ent.holds,Ent.wr,hv,X.ev])) rfl rfl ?_) rfl;simp only[Tree.goal,X.P,X.ev,SV.ev,CV.ev,Sc.ev,qz,QA,QB,QC,QD,QE,QF,QG,QH,QI,QJ,QK,QL,QM,Nat.reduceAdd];have hfl:=Ztq x.1 x.2.1 l;intro b1;refine⟨?_,?_,fun v0=>?_⟩
 ·intro w1 hr;refine(Z8a w1 v l x.1 x.2.1 (hr.at_ 2 rfl) hl).mono ?_;rintro e w2 ⟨u,rfl,o1,f1,m1⟩;refine⟨[.v u,.r ((filt x.1 x.2.1 l).map Z9)],rfl,rfl,m1,qy5 _,qy2.2 ⟨⟨o1,fun k hk=>.inl (f1 k hk)⟩,qy5 _⟩,Z3,?_⟩;simp only[Tree.goal,X.P,X.ev,SV.ev,CV.ev,Sc.ev,qz,QA,QB,QC,QD,QE,QF,QG,QH,QI,QJ,QK,QL,QM,Nat.reduceAdd,qy3,qy11,List.length_cons,List.length_nil,Nat.zero_add];intro v1;refine⟨by omega,fun v2=>⟨fun h w' hr=>?_,fun h w' hr=>?_⟩⟩
  ·rw[Z5f,if_pos (by omega)];exact⟨.slice none 0 0,rfl,⟨by simp,World.ownsRow_nil _ _ _ _⟩,fun k hk=>by simp[Z1,Value.ownBlock]at hk,hr.mod⟩
  ·rw[Z5f,if_neg (by omega)];have h0:=hr.at_ 0 rfl;simp only[Ent.holds,Tree.goal,X.P,X.ev,SV.ev,CV.ev,Sc.ev,qz,QA,QB,QC,QD,QE,QF,QG,QH,QI,QJ,QK,QL,QM,Nat.reduceAdd]at h0;rw[Z89 _ x]at h0;exact⟨v2,rfl,h0,hr.fresh 0 rfl,hr.mod⟩
 ·intro w1 hr;refine(Z8a w1 v l x.1 x.2.1 (hr.at_ 2 rfl) hl).mono ?_;rintro e w2 ⟨u,rfl,o1,f1,m1⟩;refine⟨[.v u,.r ((filt x.1 x.2.1 l).map Z9)],rfl,rfl,m1,qy5 _,qy2.2 ⟨⟨o1,fun k hk=>.inl (f1 k hk)⟩,qy5 _⟩,Z3,?_⟩;simp only[Tree.goal,X.P,X.ev,SV.ev,CV.ev,Sc.ev,qz,QA,QB,QC,QD,QE,QF,QG,QH,QI,QJ,QK,QL,QM,Nat.reduceAdd,qy3,qy11,List.length_cons,List.length_nil,Nat.zero_add];intro v1;refine⟨by omega,fun v2=>⟨fun h w' hr=>?_,fun h w' hr=>?_⟩⟩
  ·rw[Z5f,if_pos (by omega)];exact⟨.slice none 0 0,rfl,⟨by simp,World.ownsRow_nil _ _ _ _⟩,fun k hk=>by simp[Z1,Value.ownBlock]at hk,hr.mod⟩
  ·rw[Z5f,if_neg (by omega)];have h0:=hr.at_ 0 rfl;simp only[Ent.holds,Tree.goal,X.P,X.ev,SV.ev,CV.ev,Sc.ev,qz,QA,QB,QC,QD,QE,QF,QG,QH,QI,QJ,QK,QL,QM,Nat.reduceAdd]at h0;rw[Z89 _ x]at h0;exact⟨v2,rfl,h0,hr.fresh 0 rfl,hr.mod⟩
 ·intro w1 hr;refine(Z8a w1 v l x.1 x.2.1 (hr.at_ 3 rfl) hl).mono ?_;rintro e w2 ⟨u,rfl,o1,f1,m1⟩;refine⟨[.v u,.r ((filt x.1 x.2.1 l).map Z9)],rfl,rfl,m1,qy5 _,qy2.2 ⟨⟨o1,fun k hk=>.inl (f1 k hk)⟩,qy5 _⟩,Z3,?_⟩;simp only[Tree.goal,X.P,X.ev,SV.ev,CV.ev,Sc.ev,qz,QA,QB,QC,QD,QE,QF,QG,QH,QI,QJ,QK,QL,QM,Nat.reduceAdd,qy3,qy11,List.length_cons,List.length_nil,Nat.zero_add];refine⟨by omega,fun v2=>⟨fun h w' hr=>?_,fun h w' hr=>?_⟩⟩
  ·rw[Z5f,if_pos (by omega)];exact⟨.slice none 0 0,rfl,⟨by simp,World.ownsRow_nil _ _ _ _⟩,fun k hk=>by simp[Z1,Value.ownBlock]at hk,hr.mod⟩
  ·rw[Z5f,if_neg (by omega)];have h0:=hr.at_ 0 rfl;simp only[Ent.holds,Tree.goal,X.P,X.ev,SV.ev,CV.ev,Sc.ev,qz,QA,QB,QC,QD,QE,QF,QG,QH,QI,QJ,QK,QL,QM,Nat.reduceAdd]at h0;rw[Z89 _ x]at h0;exact⟨v2,rfl,h0,hr.fresh 0 rfl,hr.mod⟩
theorem Z104 (n:Int) (h:0<=n/\n<=16777216):Zco .and .i64 n 16777215=if 16777215<n then 0 else n:=by
 obtain⟨x,rfl⟩:∃x:Nat,n=x:=⟨n.toNat,by omega⟩
 have oi:∀x:Nat,x<2 ^ 63->(BitVec.ofInt 64 (x:Int)).toNat=x:=fun x h=>by simp[BitVec.toNat_ofInt];omega
 have h127:(16777215:Int)=((16777215:Nat):Int):=rfl;simp only[Zco,h127]
 show IntKind.i64.wrap (((BitVec.ofInt 64 (x:Int)) &&& (BitVec.ofInt 64 ((16777215:Nat):Int))).toNat:Int)=_
 rw[BitVec.toNat_and,oi x (by omega),oi 16777215 (by omega)];have e:x &&& 16777215=x % 16777216:=Nat.and_two_pow_sub_one_eq_mod x 24;rw[e,IntKind.wrap_i64];split<;>omega
theorem Ztt {R:List Wat} {i:Nat} {x:Wat} (h:i<R.length):(R.set i x).getD i wD_K=x:=by rw[qy1,List.getElem?_set_self h];rfl
theorem Ztu {n:List UInt8} {l:List Wat} {i:Nat} (hi:i<=l.length):(Z2r n (l.take i)++l.drop i).getD i wD_K=l.getD i wD_K:=by simp only[qy1];rw[List.getElem?_append_right (by simp[Z2r];omega)];simp[Z2r,Nat.min_eq_left hi]
theorem Zxn {n:List UInt8} {l:List Wat} {i:Nat} (hi:i<l.length):(Z2r n (l.take i)++l.drop i).set i (Z5o n (l.getD i wD_K))=Z2r n (l.take (i+1))++l.drop (i+1):=by
 have hlen:(Z2r n (l.take i)).length=i:=by simp[Z2r];omega
 rw[List.set_append_right _ _ (by omega),hlen,Nat.sub_self,Zig l i hi,Zgg n l i hi];simp
theorem Ztv {n:List UInt8} {l:List Wat} {i:Nat} (hi:i<l.length) (h:Z5o n (l.getD i wD_K)=l.getD i wD_K):Z2r n (l.take i)++l.drop i=Z2r n (l.take (i+1))++l.drop (i+1):=by rw[Zgg n l i hi,h,Zig l i hi];simp
theorem Zp8 {n:List UInt8} {l:List Wat} {i:Nat} (hi:i<=l.length):(Z2r n (l.take i)++l.drop i).length=l.length:=by simp[Z2r];omega
theorem Zxo (w:World) (v:Value) (l:List Wat) (n:List UInt8) (hv:Z6a w v l) (hl:l.length<1000000000) (hok:okN l):Calls Tryz.prog 234 #[sc1 v,.string ⟨n.toArray⟩] w fun e w'=>∃v1 v2,e=.returned (.tuple #[sc1 v1,sc1 v2])/\Zbn w' v1 (Z2r n l)/\Zbn w' v2 (Z33 n l)/\Zdl w.heap.size v1/\Zdl w.heap.size v2/\(∀k,Z1 v1 k->Z1 v2 k->False)/\Mod [] w w':=by
 refine Z2 (Z4 (ρ:=[.v v,.r (l.map Z9),.s n]) sxE_ok Tryz.func234 Zbh rfl rfl (Rel.start2 (by simp[Ent.holds,Ent.wr,hv,X.ev])) rfl rfl ?_) rfl;simp only[Tree.goal,X.P,X.ev,SV.ev,CV.ev,Sc.ev,qz,QA,QB,QC,QD,QE,QF,QG,QH,QI,QJ,QK,QL,QM,Nat.reduceAdd];intro w1 hr;refine(Z3o w1 v l (hr.at_ 2 rfl) hl).mono ?_;rintro e w2 ⟨u,rfl,o1,f1,m1⟩;refine⟨[.v u,.r (l.map Z9)],rfl,rfl,m1,qy5 _,qy2.2 ⟨⟨o1,fun k hk=>.inl (f1 k hk)⟩,qy5 _⟩,Z3,?_⟩;simp only[Tree.goal,X.P,X.ev,SV.ev,CV.ev,Sc.ev,qz,QA,QB,QC,QD,QE,QF,QG,QH,QI,QJ,QK,QL,QM,Nat.reduceAdd];refine⟨fun vs=>∃(i:Nat) (u2:Value),vs=[.v u2,.r ((Z33 n (l.take i)).map Z9),.i i,.r ((Z2r n (l.take i)++l.drop i).map Z9)]/\i<=l.length,fun vs=>l.length - (vs.getD 2 (.i 0)).toI.toNat,⟨0,_,rfl,by omega⟩,?_⟩;rintro _ - ⟨i,u2,rfl,hi⟩;simp only[Tree.goal,X.P,X.ev,SV.ev,CV.ev,Sc.ev,qz,QA,QB,QC,QD,QE,QF,QG,QH,QI,QJ,QK,QL,QM,Nat.reduceAdd,qy3,qy4,Z1t,Z1u,Z17,gW3];have hfl:=Zii n (l.take i);rw[List.length_take]at hfl;rw[Zp8 hi,Ztu hi];refine⟨fun h1=>?_,fun h1 w' hr=>?_⟩
 ·have hok1:=Z102 hok i;have hf2:=Zmb n l i (by omega);have hst:=Zxn (n:=n) (l:=l) (i:=i) (by omega);have hml:=Zp8 (n:=n) (l:=l) (i:=i) hi;refine⟨by omega,by omega,fun h2=>?_,fun h2=>?_⟩
  ·rw[if_pos h2]at hf2;have ht:Z5o n (l.getD i wD_K)=((l.getD i wD_K).1,(l.getD i wD_K).2.1,(l.getD i wD_K).2.2.1,Zco .and .i64 ((l.getD i wD_K).2.2.2+1) 16777215):=by
    rw[Z5o,if_pos h2,Z104 _ (by omega)]
   have hrow:=Zp6 (Z2r n (l.take i)++l.drop i) i (Z5o n (l.getD i wD_K));rw[ht]at hrow;simp only at hrow;rw[hrow,<- ht];simp only[Z1t,Z1u,Z17,gW3,qy3,List.length_set,Ztt (show i<(Z2r n (l.take i)++l.drop i).length by omega)];rw[Z89,hst];refine⟨by omega,by omega,by omega,fun v1=>⟨by omega,fun v2=>⟨by omega,by omega,⟨i+1,v2,?_,by omega⟩,by omega⟩⟩⟩;rw[hf2];rfl
  ·rw[if_neg h2,List.append_nil]at hf2;have ht:Z5o n (l.getD i wD_K)=l.getD i wD_K:=by rw[Z5o,if_neg h2]
   refine⟨by omega,by omega,⟨i+1,u2,?_,by omega⟩,by omega⟩;rw[hf2,<- Ztv (by omega) ht];rfl
 ·have:i=l.length:=by omega
  subst this;rw[List.take_length,List.drop_length,List.append_nil]at hr;refine⟨u,u2,rfl,hr.at_ 1 rfl,hr.at_ 0 rfl,?_,?_,fun k h1 h2=>(List.pairwise_cons.1 hr.sep).1 _ (qy8 ..) (.inl rfl) k h2 h1,hr.mod⟩
  ·intro k hk;rcases hr.own _ (qy10 _ (qy8 ..)) rfl k hk with h|h
   ·exact h
   ·simp at h
  ·intro k hk;rcases hr.own _ (qy8 ..) rfl k hk with h|h
   ·exact h
   ·simp at h
abbrev Fl:=Int×List UInt8×List UInt8
def encF (f:Fl):List Value:=[.int .i64 f.1,.string ⟨f.2.1.toArray⟩,.string ⟨f.2.2.toArray⟩]
abbrev fD:Fl:=(0,[],[])
abbrev kF:List Kd:=[.int .i64,.str,.str]
theorem gF0 (l:List Fl) (i:Nat):Value.gI (((l.map encF).getD i []).getD 0 undef)=(l.getD i fD).1:=by simp only[qy1,List.getElem?_map];cases l[i]?<;>rfl
theorem gF1 (l:List Fl) (i:Nat):Value.gS (((l.map encF).getD i []).getD 1 undef)=(l.getD i fD).2.1:=by simp only[qy1,List.getElem?_map];cases l[i]?<;>simp[encF,Value.gS,undef]
theorem gF2 (l:List Fl) (i:Nat):Value.gS (((l.map encF).getD i []).getD 2 undef)=(l.getD i fD).2.2:=by simp only[qy1,List.getElem?_map];cases l[i]?<;>simp[encF,Value.gS,undef]
abbrev Z12 (w:World) (v:Value) (l:List Fl):Prop:=reads w v kF (l.map encF)
theorem Z105 (l:List Fl) (i:Nat) (h:i<l.length):l.drop i=l.getD i fD::l.drop (i+1):=by rw[List.drop_eq_getElem_cons h,qy1,qy7 h];rfl
theorem Zp9 (l:List Fl) (i:Nat) (h:i<l.length):l.take (i+1)=l.take i++[l.getD i fD]:=by rw[List.take_add_one,qy1,qy7 h];rfl
theorem Ztw (l:List Fl) {k i:Nat} (h:k<i):(l.take i).getD k fD=l.getD k fD:=by simp only[qy1,List.getElem?_take,if_pos h]
def Zbo (l:List Fl):Prop:=∀x∈l,x.2.1.length<4294967281
theorem Zgi {l:List Fl} (h:Zbo l) (i:Nat):(l.getD i fD).2.1.length<4294967281:=by
 by_cases hi:i<l.length
 ·rw[qy1,qy7 hi];exact h _ (List.getElem_mem hi)
 ·rw[qy1,List.getElem?_eq_none (by omega)];decide
def flE (f:Fl):Int:=if chkT f.2.1 false=0 then (if 200<(f.2.2.length:Int) then 2 else 0) else chkT f.2.1 false
def idIs (n:Int) (f:Fl):Bool:=decide (f.1=n)
def Zcx:List Fl->List Fl->Int
 | _,[]=>0
 | prev,f::l=>if flE f≠0 then flE f else if 1<=f.1/\f.1<=65535 then if prev.any (idIs f.1)=true then 6 else Zcx (prev++[f]) l else 3
def Zgj:List Fl->Int
 | []=>0
 | f::l=>if flE f≠0 then flE f else if f.1=0 then Zgj l else 1
structure Ses where
 cl:List UInt8
 on:Bool
 clean:Bool
 fl:List Fl
 qu:List Fl
 next:Int
 deriving DecidableEq
def sesV (s:Ses) (u v:Value):Value:=.agg #[.string ⟨s.cl.toArray⟩,.bool s.on,.bool s.clean,sc1 u,sc1 v,.int .i64 s.next]
def Zz (s:List UInt8):Bool:=decide (1<=(s.length:Int)/\(s.length:Int)<=20) && Z2m s
def allS (s:Ses):Int:=if Zcx [] s.fl=0 then Zgj s.qu else Zcx [] s.fl
def chkS (s:Ses):Int :=
 if Zz s.cl=true then
  if 3<(s.fl.length:Int)\/6<(s.qu.length:Int) then 2
  else if allS s=0 then
   if 1<=s.next/\s.next<=65535 then
    if ((¬s.on=true/\s.clean=true)/\0<(s.fl.length:Int)+s.qu.length)\/((s.on=true/\0<(s.qu.length:Int))/\(s.fl.length:Int)<3) then 4 else 0
   else 3
  else allS s
 else 1
theorem Zev (w:World) (s:List UInt8) (hs:s.length<1099511627776):Calls Tryz.prog 33 #[.string ⟨s.toArray⟩] w fun e w'=>e=.returned (.bool (Zz s))/\Mod [] w w':=by refine Z2 (Zb (ρ:=[.s s]) sxE_ok Tryz.func33 Z48 rfl rfl rfl ?_) rfl;simp only[Tree.goal,X.P,X.ev,SV.ev,CV.ev,Sc.ev,qz,QA,QB,QC,QD,QE,QF,QG,QH,QI,QJ,QK,QL,QM,Nat.reduceAdd];refine⟨[.b (Z2m s)],rfl,fun _ w' _=>Zet w' s hs,?_⟩;simp only[Tree.goal,X.P,X.ev,SV.ev,CV.ev,Sc.ev,qz,QA,QB,QC,QD,QE,QF,QG,QH,QI,QJ,QK,QL,QM,Nat.reduceAdd];exact fun w' hr=>⟨by simp[Zz],hr.mod⟩
theorem Zkf (w:World) (f:Fl) (hn:f.2.1.length<4294967281):Calls Tryz.prog 278 #[.agg #[.int .i64 f.1,.string ⟨f.2.1.toArray⟩,.string ⟨f.2.2.toArray⟩]] w fun e w'=>e=.returned (.int .i64 (flE f))/\Mod [] w w':=by refine Z2 (Zb (ρ:=[.i f.1,.s f.2.1,.s f.2.2]) sxE_ok Tryz.func278 Z73 rfl rfl rfl ?_) rfl;simp only[Tree.goal,X.P,X.ev,SV.ev,CV.ev,Sc.ev,qz,QA,QB,QC,QD,QE,QF,QG,QH,QI,QJ,QK,QL,QM,Nat.reduceAdd];intro b;refine⟨[.i (chkT f.2.1 false)],rfl,fun _ w' _=>Zdk w' _ hn,?_⟩;simp only[Tree.goal,X.P,X.ev,SV.ev,CV.ev,Sc.ev,qz,QA,QB,QC,QD,QE,QF,QG,QH,QI,QJ,QK,QL,QM,Nat.reduceAdd];refine⟨fun h w' hr=>⟨by rw[flE,if_neg h],hr.mod⟩,fun h=>⟨fun h1 w' hr=>⟨by rw[flE,if_pos (qy9.1 h),if_pos h1],hr.mod⟩,fun h1 w' hr=>⟨by rw[flE,if_pos (qy9.1 h),if_neg h1],hr.mod⟩⟩⟩
theorem Z106 (w:World) (n:Int):Calls Tryz.prog 224 #[.int .i64 n] w fun e w'=>e=.returned (.bool (decide (1<=n/\n<=65535)))/\Mod [] w w':=by refine Z2 (Zb (ρ:=[.i n]) sxE_ok Tryz.func224 Zbk rfl rfl rfl ?_) rfl;simp only[Tree.goal,X.P,X.ev,SV.ev,CV.ev,Sc.ev,qz,QA,QB,QC,QD,QE,QF,QG,QH,QI,QJ,QK,QL,QM,Nat.reduceAdd];exact fun w' hr=>⟨by simp,hr.mod⟩
theorem Zgk (p:Fl->Bool) (l:List Fl) (k:Nat) (h:k<l.length):(l.take (k+1)).any p=((l.take k).any p || p (l.getD k fD)):=by rw[Zp9 l k h,List.any_append];simp
theorem Zxp {p:Fl->Bool} {l:List Fl} {k i:Nat} (hk:k<i) (hi:i<=l.length) (h:p (l.getD k fD)=true):(l.take i).any p=true:=by rw[List.any_eq_true];refine⟨l.getD k fD,?_,h⟩;rw[<- Ztw l hk,qy1,qy7 (by simp;omega)];exact List.getElem_mem _
theorem Z4l {p:Prop} (h:p):p/\p:=⟨h,h⟩
theorem Zpa (w:World) (v:Value) (l:List Fl) (n:Int) (hv:Z12 w v l) (hl:l.length<1000000000):Calls Tryz.prog 279 #[sc1 v,.int .i64 n] w fun e w'=>e=.returned (.bool (l.any (idIs n)))/\Mod [] w w':=by
 refine Z2 (Z4 (ρ:=[.v v,.r (l.map encF),.i n]) sxE_ok Tryz.func279 Z8z rfl rfl (Rel.start2 (by simp[Ent.holds,Ent.wr,hv,X.ev])) rfl rfl ?_) rfl;simp only[Tree.goal,X.P,X.ev,SV.ev,CV.ev,Sc.ev,qz,QA,QB,QC,QD,QE,QF,QG,QH,QI,QJ,QK,QL,QM,Nat.reduceAdd];intro b;refine⟨fun vs=>∃(i:Nat) (x:V),vs=[x,.i i,.i n]/\i<=l.length/\(l.take i).any (idIs n)=false,fun vs=>l.length - (vs.getD 1 (.i 0)).toI.toNat,⟨0,_,rfl,by omega,by simp⟩,?_⟩;rintro _ - ⟨i,x,rfl,hi,hno⟩;simp only[Tree.goal,X.P,X.ev,SV.ev,CV.ev,Sc.ev,qz,QA,QB,QC,QD,QE,QF,QG,QH,QI,QJ,QK,QL,QM,Nat.reduceAdd,qy3,qy4,gF0,gF1,gF2];refine⟨fun h1=>⟨by omega,fun b2=>⟨fun h2 w' hr=>⟨?_,hr.mod⟩,fun h2=>⟨by omega,by omega,⟨i+1,x,rfl,by omega,?_⟩,by omega⟩⟩⟩,fun h1 w' hr=>⟨?_,hr.mod⟩⟩
 ·have:=Zxp (p:=idIs n) (l:=l) (k:=i) (i:=l.length) (by omega) (Nat.le_refl _) (by simp only[idIs,decide_eq_true_eq];exact h2);rw[List.take_length]at this;rw[this];simp
 ·rw[Zgk _ l i (by omega),hno,Bool.false_or];simp only[idIs,decide_eq_false_iff_not];exact h2
 ·have:i=l.length:=by omega
  subst this;rw[List.take_length]at hno;rw[hno];rfl
theorem Z12a (w:World) (s:Ses) (u v:Value) (hu:Z12 w u s.fl) (hv:Z12 w v s.qu) (h1:Zbo s.fl) (h2:Zbo s.qu) (hl1:s.fl.length<1000000000) (hl2:s.qu.length<1000000000):Calls Tryz.prog 223 #[sesV s u v] w fun e w'=>e=.returned (.int .i64 (allS s))/\Mod [] w w':=by
 refine Z2 (Z4 (ρ:=[.s s.cl,.b s.on,.b s.clean,.v u,.r (s.fl.map encF),.v v,.r (s.qu.map encF),.i s.next]) sxE_ok Tryz.func223 Z9z rfl rfl (Rel.start2 (by simp[Ent.holds,Ent.wr,hu,hv,X.ev])) rfl rfl ?_) rfl;simp only[Tree.goal,X.P,X.ev,SV.ev,CV.ev,Sc.ev,qz,QA,QB,QC,QD,QE,QF,QG,QH,QI,QJ,QK,QL,QM,Nat.reduceAdd];intro b;refine⟨fun vs=>∃(i:Nat) (x:V),vs=[x,.i i]/\i<=s.fl.length/\Zcx (s.fl.take i) (s.fl.drop i)=Zcx [] s.fl,fun vs=>s.fl.length - (vs.getD 1 (.i 0)).toI.toNat,⟨0,_,rfl,by omega,rfl⟩,?_⟩;rintro _ - ⟨i,x,rfl,hi,hg⟩;simp only[Tree.goal,X.P,X.ev,SV.ev,CV.ev,Sc.ev,qz,QA,QB,QC,QD,QE,QF,QG,QH,QI,QJ,QK,QL,QM,Nat.reduceAdd,qy3,qy4,gF0,gF1,gF2];refine⟨fun h3=>⟨by omega,fun b2=>?_⟩,fun h3=>?_⟩
 ·have hsm:=Zgi h1 i;rw[Z105 _ i (by omega)]at hg;simp only[Zcx]at hg;refine⟨[.i (flE (s.fl.getD i fD))],rfl,fun _ w' _=>Zkf w' (s.fl.getD i fD) hsm,?_⟩;simp only[Tree.goal,X.P,X.ev,SV.ev,CV.ev,Sc.ev,qz,QA,QB,QC,QD,QE,QF,QG,QH,QI,QJ,QK,QL,QM,Nat.reduceAdd,qy3,qy4,gF0,gF1,gF2];refine⟨fun h4 w' hr=>⟨?_,hr.mod⟩,fun h4=>?_⟩
  ·rw[if_pos h4]at hg;rw[allS,<- hg,if_neg h4]
  rw[if_neg h4]at hg;refine⟨[.b (decide (1<=(s.fl.getD i fD).1/\(s.fl.getD i fD).1<=65535))],rfl,fun _ w' _=>Z106 w' _,?_⟩;simp only[Tree.goal,X.P,X.ev,SV.ev,CV.ev,Sc.ev,qz,QA,QB,QC,QD,QE,QF,QG,QH,QI,QJ,QK,QL,QM,Nat.reduceAdd,qy3,qy4,gF0,gF1,gF2,decide_eq_true_eq];refine⟨fun h5 w' hr=>⟨?_,hr.mod⟩,fun h5=>?_⟩
  ·rw[if_neg h5]at hg;rw[allS,<- hg];rfl
  rw[if_pos (qy9.1 h5)]at hg;first|refine Z4l ?_|skip
  refine⟨by omega,fun v9=>?_⟩;refine⟨[.b ((s.fl.take i).any (idIs (s.fl.getD i fD).1))],rfl,fun _ w' hr=>?_,?_⟩
  ·have h0:=hr.at_ 0 rfl;simp only[Ent.holds,Tree.goal,X.P,X.ev,SV.ev,CV.ev,Sc.ev,qz,QA,QB,QC,QD,QE,QF,QG,QH,QI,QJ,QK,QL,QM,Nat.reduceAdd,Int.toNat_zero,List.drop_zero,qy4,<- List.map_take]at h0;exact Zpa w' v9 _ _ h0 (by rw[List.length_take];omega)
  simp only[Tree.goal,X.P,X.ev,SV.ev,CV.ev,Sc.ev,qz,QA,QB,QC,QD,QE,QF,QG,QH,QI,QJ,QK,QL,QM,Nat.reduceAdd,qy3,qy4,gF0,gF1,gF2];refine⟨fun h6 w' hr=>⟨?_,hr.mod⟩,fun h6=>?_⟩
  ·rw[if_pos h6]at hg;rw[allS,<- hg];rfl
  ·rw[if_neg h6,<- Zp9 _ i (by omega)]at hg;exact⟨by omega,by omega,⟨i+1,x,rfl,by omega,hg⟩,by omega⟩
 ·have:i=s.fl.length:=by omega
  subst this;rw[List.drop_length]at hg;have hg:Zcx [] s.fl=0:=hg.symm;rw[allS,if_pos hg];refine⟨fun vs=>∃(i:Nat) (x:V),vs=[x,.i i]/\i<=s.qu.length/\Zgj (s.qu.drop i)=Zgj s.qu,fun vs=>s.qu.length - (vs.getD 1 (.i 0)).toI.toNat,⟨0,_,rfl,by omega,rfl⟩,?_⟩;rintro _ - ⟨i,x,rfl,hi,hg⟩;simp only[Tree.goal,X.P,X.ev,SV.ev,CV.ev,Sc.ev,qz,QA,QB,QC,QD,QE,QF,QG,QH,QI,QJ,QK,QL,QM,Nat.reduceAdd,qy3,qy4,gF0,gF1,gF2];refine⟨fun h3=>⟨by omega,fun b2=>?_⟩,fun h3 w' hr=>⟨?_,hr.mod⟩⟩
  ·have hsm:=Zgi h2 i;rw[Z105 _ i (by omega)]at hg;simp only[Zgj]at hg;refine⟨[.i (flE (s.qu.getD i fD))],rfl,fun _ w' _=>Zkf w' (s.qu.getD i fD) hsm,?_⟩;simp only[Tree.goal,X.P,X.ev,SV.ev,CV.ev,Sc.ev,qz,QA,QB,QC,QD,QE,QF,QG,QH,QI,QJ,QK,QL,QM,Nat.reduceAdd,qy3,qy4,gF0,gF1,gF2];refine⟨fun h4 w' hr=>⟨?_,hr.mod⟩,fun h4=>⟨fun h5 w' hr=>⟨?_,hr.mod⟩,fun h5=>?_⟩⟩
   ·rw[if_pos h4]at hg;rw[<- hg]
   ·rw[if_neg h4,if_neg h5]at hg;rw[<- hg]
   ·rw[if_neg h4,if_pos (qy9.1 h5)]at hg;exact⟨by omega,by omega,⟨i+1,x,rfl,by omega,hg⟩,by omega⟩
  ·have:i=s.qu.length:=by omega
   subst this;rw[List.drop_length]at hg;rw[<- hg];rfl
theorem Ztx (w:World) (s:Ses) (u v:Value) (hu:Z12 w u s.fl) (hv:Z12 w v s.qu) (h1:Zbo s.fl) (h2:Zbo s.qu) (hl1:s.fl.length<1000000000) (hl2:s.qu.length<1000000000) (hc:s.cl.length<1099511627776):Calls Tryz.prog 154 #[sesV s u v] w fun e w'=>e=.returned (.int .i64 (chkS s))/\Mod [] w w':=by refine Z2 (Z4 (ρ:=[.s s.cl,.b s.on,.b s.clean,.v u,.r (s.fl.map encF),.v v,.r (s.qu.map encF),.i s.next]) sxE_ok Tryz.func154 Z7y rfl rfl (Rel.start2 (by simp[Ent.holds,Ent.wr,hu,hv,X.ev])) rfl rfl ?_) rfl;simp only[Tree.goal,X.P,X.ev,SV.ev,CV.ev,Sc.ev,qz,QA,QB,QC,QD,QE,QF,QG,QH,QI,QJ,QK,QL,QM,Nat.reduceAdd];intro b;refine⟨[.b (Zz s.cl)],rfl,fun _ w' _=>Zev w' _ hc,?_⟩;simp only[Tree.goal,X.P,X.ev,SV.ev,CV.ev,Sc.ev,qz,QA,QB,QC,QD,QE,QF,QG,QH,QI,QJ,QK,QL,QM,Nat.reduceAdd,qy3];refine⟨fun h w' hr=>⟨by rw[chkS,if_neg h],hr.mod⟩,fun h=>?_⟩;rw[chkS,if_pos (qy9.1 h)];refine⟨fun h w' hr=>⟨by rw[if_pos h],hr.mod⟩,fun h=>?_⟩;rw[if_neg h];refine⟨[.i (allS s)],rfl,fun _ w' hr=>Z12a w' s u v (hr.at_ 1 rfl) (hr.at_ 2 rfl) h1 h2 hl1 hl2,?_⟩;simp only[Tree.goal,X.P,X.ev,SV.ev,CV.ev,Sc.ev,qz,QA,QB,QC,QD,QE,QF,QG,QH,QI,QJ,QK,QL,QM,Nat.reduceAdd,qy3];refine⟨fun h w' hr=>⟨by rw[if_neg h],hr.mod⟩,fun h=>?_⟩;rw[if_pos (qy9.1 h)];refine⟨[.b (decide (1<=s.next/\s.next<=65535))],rfl,fun _ w' _=>Z106 w' _,?_⟩;simp only[Tree.goal,X.P,X.ev,SV.ev,CV.ev,Sc.ev,qz,QA,QB,QC,QD,QE,QF,QG,QH,QI,QJ,QK,QL,QM,Nat.reduceAdd,qy3,decide_eq_true_eq];refine⟨fun h w' hr=>⟨by rw[if_neg h],hr.mod⟩,fun h=>?_⟩;rw[if_pos (qy9.1 h)];refine⟨.inr (by omega),fun h w' hr=>⟨by rw[if_pos (.inl h)],hr.mod⟩,fun h=>⟨fun h1 w' hr=>⟨by rw[if_pos (.inr h1)],hr.mod⟩,fun h1 w' hr=>⟨by rw[if_neg (fun h2=>h2.elim h h1)],hr.mod⟩⟩⟩
abbrev Pk:=Bool×Int×Int×List UInt8×List UInt8
def encP (p:Pk):List Value:=[.int .i64 3,.bool p.1,.bool false,.bool false,.bool false,.int .i64 p.2.1,.int .i64 p.2.2.1,.int .i64 0,.int .i64 0,.string ⟨([]:List UInt8).toArray⟩,.string ⟨p.2.2.2.1.toArray⟩,.string ⟨p.2.2.2.2.toArray⟩,.slice none 0 0,.slice none 0 0]
abbrev kP:List Kd:=[.int .i64,.bool,.bool,.bool,.bool,.int .i64,.int .i64,.int .i64,.int .i64,.str,.str,.str,.oth,.oth]
abbrev Z107 (w:World) (v:Value) (l:List Pk):Prop:=reads w v kP (l.map encP)
theorem Z8 (w:World) (ks:List Kd):reads w (.slice none 0 0) ks []:=⟨by simp,none,0,rfl,⟨fun _=>rfl,Nat.le_refl _⟩,fun h=>absurd rfl h⟩
abbrev Zxq (w:World) (v:Value) (l:List Fl):Prop:=owns w v 172 kF (l.map encF)
theorem Zmd {v:Value} (hn:(match v with | .slice none _ _=>true|_=>false)=true) {w:World} {ks:List Kd} {rows:List (List Value)} (h:reads w v ks rows):rows=[]:=by obtain⟨_,a,cap,rfl,_,h2⟩:=h;refine Classical.byContradiction fun hne=>?_;obtain⟨ad,rfl,_⟩:=h2 hne;simp at hn
theorem Z10 (w:World) (v:Value) (l:List Fl) (hv:Z12 w v l) (hl:l.length<1000000000):Calls Tryz.prog 268 #[sc1 v] w fun e w'=>∃v',e=.returned (sc1 v')/\Zxq w' v' l/\(∀k,Z1 v' k->w.heap.size<=k)/\Mod [] w w':=by
 refine Z2 (Z4 (ρ:=[.v v,.r (l.map encF)]) sxE_ok Tryz.func268 Z1r rfl rfl (Rel.start2 (by simp[Ent.holds,Ent.wr,hv,X.ev])) rfl rfl ?_) rfl;simp only[Tree.goal,X.P,X.ev,SV.ev,CV.ev,Sc.ev,qz,QA,QB,QC,QD,QE,QF,QG,QH,QI,QJ,QK,QL,QM,Nat.reduceAdd,qy3,List.nil_append];refine⟨fun h w' hr=>?_,fun h v1=>⟨by simp only[Int.natCast_zero];omega,fun v2 w' hr=>?_⟩⟩
 ·have hn:l=[]:=List.map_eq_nil_iff.1 (Zmd h hv);subst hn;refine⟨_,rfl,hr.at_ 0 rfl,fun k hk=>?_,hr.mod⟩;rcases hr.own _ (qy8 ..) rfl k hk with h|h
  ·exact h
  ·simp at h
 ·refine⟨v2,rfl,hr.at_ 0 rfl,fun k hk=>?_,hr.mod⟩;rcases hr.own _ (qy8 ..) rfl k hk with h|h
  ·exact h
  ·simp at h
def s0:Ses:=⟨[],false,false,[],[],0⟩
def nx_N (n:Int):Int:=n % 65535+1
def used (fl:List Fl) (n:Int):Bool:=fl.any (idIs n)
def Z26 (fl:List Fl) (n:Int):Int:=if used fl n=true then (if used fl (nx_N n)=true then nx_N (nx_N n) else nx_N n) else n
theorem Zgl {n:Int} (h:1<=n/\n<=65535):(1<=nx_N n/\nx_N n<=65535)/\nx_N n≠n/\nx_N (nx_N n)≠n/\nx_N (nx_N n)≠nx_N n:=by unfold nx_N;omega
theorem Zw2 {fl:List Fl} {a b c:Int} (hl:fl.length<3) (ha:used fl a=true) (hb:used fl b=true) (hc:used fl c=true) (h1:a≠b) (h2:a≠c) (h3:b≠c):False:=by
 match fl,hl with
 | [],_=>simp[used]at ha
 | [x],_=>simp[used,idIs]at ha hb;omega
 | [x,y],_=>simp[used,idIs]at ha hb hc;omega
 | _::_::_::_,hl=>simp at hl;omega
theorem Zpb {fl:List Fl} {n:Int} (hl:fl.length<3) (h:1<=n/\n<=65535):used fl (Z26 fl n)=false:=by
 obtain⟨-,h1,h2,h3⟩:=Zgl h;unfold Z26;split
 ·rename_i u1;split
  ·rename_i u2;cases u3:used fl (nx_N (nx_N n)) with
   | false=>rfl
   | true=>exact(Zw2 hl u1 u2 u3 (Ne.symm h1) (Ne.symm h2) (Ne.symm h3)).elim
  ·rename_i u2;simpa using u2
 ·rename_i u1;simpa using u1
theorem Zpc {fl:List Fl} {n:Int} (h:1<=n/\n<=65535):1<=Z26 fl n/\Z26 fl n<=65535:=by
 obtain⟨h1,-⟩:=Zgl h;unfold Z26;split
 ·split
  ·exact(Zgl h1).1
  ·exact h1
 ·exact h
def flyR (on:Bool):List Fl->List Fl->Int->List Pk->List Fl×List Fl×Int×List Pk
 | fl,[],next,out=>(fl,[],next,out)
 | fl,f::q,next,out =>
  if on=true/\fl.length<3 then flyR on (fl++[(Z26 fl next,f.2.1,f.2.2)]) q (nx_N (Z26 fl next)) (out++[(false,1,Z26 fl next,f.2.1,f.2.2)])
  else (fl,f::q,next,out)
theorem Zgm {on:Bool} {fl qu:List Fl} {next:Int} {out:List Pk} (h:¬((on=true/\0<qu.length)/\fl.length<3)):flyR on fl qu next out=(fl,qu,next,out):=by
 cases qu with
 | nil=>rfl
 | cons f q =>
  rw[flyR,if_neg];intro h2;exact h ⟨⟨h2.1,by simp⟩,h2.2⟩
theorem Zpd {on:Bool} {fl qu:List Fl} {next:Int} {out:List Pk} (h:(on=true/\0<qu.length)/\fl.length<3) : flyR on fl qu next out=flyR on (fl++[(Z26 fl next,(qu.getD 0 fD).2.1,(qu.getD 0 fD).2.2)]) (qu.drop 1) (nx_N (Z26 fl next)) (out++[(false,1,Z26 fl next,(qu.getD 0 fD).2.1,(qu.getD 0 fD).2.2)]):=by
 cases qu with
 | nil=>simp at h
 | cons f q =>
  rw[flyR,if_pos ⟨h.1.1,h.2⟩];rfl
def goR (s:Ses):Ses:={ s with on:=false,fl:=if s.clean=true then [] else s.fl,qu:=if s.clean=true then [] else s.qu }
def Zme (next id:Int) (ag:Bool):Nat:=if ag=true then (if id=next then 3 else if id=nx_N next then 2 else 1) else 0
def Zmf (fl:List Fl) (next id:Int):Prop:=id=next\/(id=nx_N next/\used fl next=true)\/(id=nx_N (nx_N next)/\used fl next=true/\used fl (nx_N next)=true)
theorem Zkg {fl:List Fl} {next id:Int} (h:1<=next/\next<=65535) (ha:Zmf fl next id):1<=id/\id<=65535:=by
 obtain⟨h1,-⟩:=Zgl h;rcases ha with rfl|⟨rfl,-⟩|⟨rfl,-⟩
 ·exact h
 ·exact h1
 ·exact(Zgl h1).1
theorem Zdm {fl:List Fl} {next id:Int} (hl:fl.length<3) (h:1<=next/\next<=65535) (ha:Zmf fl next id) (hu:used fl id=true):Zmf fl next (nx_N id)/\Zme next (nx_N id) true<Zme next id true:=by
 obtain⟨h1,h2,h3,h4⟩:=Zgl h;rcases ha with rfl|⟨rfl,u1⟩|⟨rfl,u1,u2⟩
 ·exact⟨.inr (.inl ⟨rfl,hu⟩),by simp[Zme,h2]⟩
 ·exact⟨.inr (.inr ⟨rfl,u1,hu⟩),by simp[Zme,h2,h3,h4]⟩
 ·exact(Zw2 hl u1 u2 hu (Ne.symm h2) (Ne.symm h3) (Ne.symm h4)).elim
theorem Zdn {fl:List Fl} {next id:Int} (ha:Zmf fl next id) (hu:used fl id=false):id=Z26 fl next:=by
 rcases ha with rfl|⟨rfl,u1⟩|⟨rfl,u1,u2⟩
 ·simp[Z26,hu]
 ·simp[Z26,hu,u1]
 ·simp[Z26,u1,u2]
def flyS (s:Ses):Ses×List Pk:=(⟨s.cl,s.on,s.clean,(flyR s.on s.fl s.qu s.next []).1,(flyR s.on s.fl s.qu s.next []).2.1,(flyR s.on s.fl s.qu s.next []).2.2.1⟩,(flyR s.on s.fl s.qu s.next []).2.2.2)
theorem Z108 (qu:List Fl):List.drop (Int.toNat 1) (List.take qu.length (List.map encF qu))=(qu.drop 1).map encF:=by rw[List.take_of_length_le (by simp),List.map_drop];rfl
def pk0 (n p:List UInt8):Pk:=(false,0,0,n,p)
def pk1 (f:Fl):Pk:=(true,1,f.1,f.2.1,f.2.2)
def Z6n (l:List Fl) (id:Int):List Fl:=l.filter fun f=>!(idIs id f)
def Z4e (s:Ses) (id:Int):Ses×List Pk:=flyS { s with fl:=Z6n s.fl id }
def Zew (s:Ses):Ses×List Pk:=((flyS { s with on:=true }).1,s.fl.map pk1++(flyS { s with on:=true }).2)
theorem Zbp {ρ:List V} {g:List Nat} {i:Nat} (hi:i∈g) {k:Nat} (h:Z1 (ρ.getD i (.i 0)).toV k):k∈Z11 ρ g:=List.mem_flatMap.2 ⟨i,hi,by rw[h];simp⟩
def sndA (k:Nat) (s:Ses) (u v x:Value) (out:List Pk):List V:=[.n k,.s s.cl,.b s.on,.b s.clean,.v u,.r (s.fl.map encF),.v v,.r (s.qu.map encF),.i s.next,.v x,.r (out.map encP)]
abbrev sndC:Ent:=.cells 0 236 [.str (.var 1),.bool (.var 2),.bool (.var 3),.val (.var 4),.val (.var 6),.int .i64 (.var 8),.val (.var 9)]
abbrev sndH:List Ent:=[.row 4 172 kF (.var 5),.row 6 172 kF (.var 7),.row 9 31 kP (.var 10),sndC]
def flyG (s:Ses) (out:List Pk):Ses×List Pk:=(⟨s.cl,s.on,s.clean,(flyR s.on s.fl s.qu s.next out).1,(flyR s.on s.fl s.qu s.next out).2.1,(flyR s.on s.fl s.qu s.next out).2.2.1⟩,(flyR s.on s.fl s.qu s.next out).2.2.2)
def flyJ (s:Ses) (o0:List Pk) (vs:List V):Prop :=
  ∃(x u' v':Value) (out:List Pk) (fl qu:List Fl) (next:Int),vs=[.s s.cl,.b s.on,.b s.clean,.v u',.r (fl.map encF),.v v',.r (qu.map encF),.i next,.v x,.r (out.map encP)] /\
    flyR s.on fl qu next out=flyR s.on s.fl s.qu s.next o0/\(1<=next/\next<=65535)/\qu.length<=s.qu.length/\fl.length+qu.length<=s.fl.length+s.qu.length/\out.length+qu.length<=o0.length+s.qu.length
theorem Zgn {s:Ses} {x' u' v':Value} {o0 out:List Pk} {fl qu:List Fl} {next id:Int} {vs:List V} (hg:flyR s.on fl qu next out=flyR s.on s.fl s.qu s.next o0) (hn:1<=next/\next<=65535) (hq:qu.length<=s.qu.length) (hf:fl.length+qu.length<=s.fl.length+s.qu.length) (ho:out.length+qu.length<=o0.length+s.qu.length) (hc:(s.on=true/\0<(qu.length:Int))/\(fl.length:Int)<3) (hid:id=Z26 fl next) {R1 R2 R3:List (List Value)} {n1:Int} (hvs:vs=[.s s.cl,.b s.on,.b s.clean,.v u',.r R2,.v v',.r R3,.i n1,.v x',.r R1]) (e1:R1=(out++[(false,1,id,(qu.getD 0 fD).2.1,(qu.getD 0 fD).2.2)]).map encP) (e2:R2=(fl++[(id,(qu.getD 0 fD).2.1,(qu.getD 0 fD).2.2)]).map encF) (e3:R3=(qu.drop 1).map encF) (e4:n1=nx_N id):flyJ s o0 vs:=by subst hid e1 e2 e3 e4;have hs:=Zpd (on:=s.on) (fl:=fl) (qu:=qu) (next:=next) (out:=out) ⟨⟨hc.1.1,by omega⟩,by omega⟩;exact⟨x',u',v',_,_,_,_,hvs,hs.symm.trans hg,(Zgl (Zpc hn)).1,by simp;omega,by simp;omega,by simp;omega⟩
theorem Z12b (B:Base) (w:World) (k:Nat) (s:Ses) (u v x:Value) (o0:List Pk) (hrel:Rel B (sndA k s u v x o0) sndH w) (hn:1<=s.next/\s.next<=65535) (hl1:s.fl.length<100000) (hl2:s.qu.length<100000) (hl3:o0.length<100000) : Calls Tryz.prog 214 #[.pointer (some ⟨k,0,none⟩)] w fun e w'=>e=.returned (.tuple #[])/\∃u' v' x',Rel B (sndA k (flyG s o0).1 u' v' x' (flyG s o0).2) sndH w':=by
  refine Z2 (Z4 (B:=B) (ρ:=sndA k s u v x o0) sxE_ok Tryz.func214 Z52 rfl rfl hrel rfl rfl ?_) rfl;simp only[sndA];simp only[Tree.goal,X.P,X.ev,SV.ev,CV.ev,Sc.ev,qz,QA,QB,QC,QD,QE,QF,QG,QH,QI,QJ,QK,QL,QM,Nat.reduceAdd,qy3,qy4,gF0,gF1,gF2];have hg:flyR s.on s.fl s.qu s.next o0=flyR s.on s.fl s.qu s.next o0:=rfl;have hnx:1<=s.next/\s.next<=65535:=hn;have hq:s.qu.length<=s.qu.length:=Nat.le_refl _;have hf:s.fl.length+s.qu.length<=s.fl.length+s.qu.length:=Nat.le_refl _;have ho:o0.length+s.qu.length<=o0.length+s.qu.length:=Nat.le_refl _;refine⟨fun hc=>?_,fun hc w1 hr=>?_⟩
  . intro b3;refine⟨fun vs=>∃(id:Int),vs=[.i id]/\Zmf s.fl s.next id,fun vs=>Zme s.next (vs.getD 0 (.i 0)).toI true,⟨s.next,rfl,.inl rfl⟩,?_⟩;rintro _ - ⟨id,rfl,ha⟩;have hid:=Zkg hnx ha;simp only[Tree.goal,X.P,X.ev,SV.ev,CV.ev,Sc.ev,qz,QA,QB,QC,QD,QE,QF,QG,QH,QI,QJ,QK,QL,QM,Nat.reduceAdd,qy3,qy4,gF0,gF1,gF2];refine⟨[.b (s.fl.any (idIs id))],rfl,fun _ w' hr=>Zpa w' u s.fl id (hr.at_ 1 rfl).reads (by omega),?_⟩;simp only[Tree.goal,X.P,X.ev,SV.ev,CV.ev,Sc.ev,qz,QA,QB,QC,QD,QE,QF,QG,QH,QI,QJ,QK,QL,QM,Nat.reduceAdd,qy3,qy4,gF0,gF1,gF2];refine⟨fun hu=>?_,fun hu=>?_⟩
    . obtain⟨n1,n2⟩:=Zdm (by omega) hnx ha hu;exact⟨by omega,⟨_,rfl,n1⟩,n2⟩
    have hid2:=Zdn ha (by simpa [used]using hu)
    (repeat (first|(refine⟨by ((try simp only[qy3,qy4,gF0,gF1,gF2,qy11,List.nil_append,List.length_cons,List.length_nil]);omega),?_⟩)|(intro _)))
    refine⟨fun vs=>flyJ s o0 vs,fun vs=>(vs.getD 6 (.i 0)).toR.length,Zgn hg hnx hq hf ho hc hid2 rfl (by simp[encP,List.map_append]) (by simp[encF,List.map_append]) (Z108 _) rfl,?_⟩;clear hg hnx hq hf ho hc ha hid hid2 hu;rintro _ - ⟨x,u',v',out,fl,qu,next,rfl,hg,hnx,hq,hf,ho⟩;simp only[Tree.goal,X.P,X.ev,SV.ev,CV.ev,Sc.ev,qz,QA,QB,QC,QD,QE,QF,QG,QH,QI,QJ,QK,QL,QM,Nat.reduceAdd,qy3,qy4,gF0,gF1,gF2];refine⟨fun hc=>?_,fun hc w1 hr=>?_⟩
    . intro b3;refine⟨fun vs=>∃(id:Int),vs=[.i id]/\Zmf fl next id,fun vs=>Zme next (vs.getD 0 (.i 0)).toI true,⟨next,rfl,.inl rfl⟩,?_⟩;rintro _ - ⟨id,rfl,ha⟩;have hid:=Zkg hnx ha;simp only[Tree.goal,X.P,X.ev,SV.ev,CV.ev,Sc.ev,qz,QA,QB,QC,QD,QE,QF,QG,QH,QI,QJ,QK,QL,QM,Nat.reduceAdd,qy3,qy4,gF0,gF1,gF2];refine⟨[.b (fl.any (idIs id))],rfl,fun _ w' hr=>Zpa w' u' fl id (hr.at_ 4 rfl).reads (by omega),?_⟩;simp only[Tree.goal,X.P,X.ev,SV.ev,CV.ev,Sc.ev,qz,QA,QB,QC,QD,QE,QF,QG,QH,QI,QJ,QK,QL,QM,Nat.reduceAdd,qy3,qy4,gF0,gF1,gF2];refine⟨fun hu=>?_,fun hu=>?_⟩
      . obtain⟨n1,n2⟩:=Zdm (by omega) hnx ha hu;exact⟨by omega,⟨_,rfl,n1⟩,n2⟩
      have hid2:=Zdn ha (by simpa [used]using hu)
      (repeat (first|(refine⟨by ((try simp only[qy3,qy4,gF0,gF1,gF2,qy11,List.nil_append,List.length_cons,List.length_nil]);omega),?_⟩)|(intro _)))
      exact⟨Zgn hg hnx hq hf ho hc hid2 rfl (by simp[encP,List.map_append]) (by simp[encF,List.map_append]) (Z108 _) rfl,by simp;omega⟩
    . refine(Z10 w1 v' qu (hr.at_ 5 rfl) (by omega)).mono ?_;rintro e w2 ⟨v2,rfl,g1,g2,gm⟩;refine⟨[.v v2,.r (qu.map encF)],rfl,rfl,gm,qy5 _,qy2.2 ⟨⟨g1,fun k hk=>.inl (g2 k hk)⟩,qy5 _⟩,Z3,?_⟩;intro w3 hr3;have e:flyR s.on s.fl s.qu s.next o0=(fl,qu,next,out):=by
        rw[<- hg];exact Zgm (fun h=>hc ⟨⟨h.1.1,by omega⟩,by omega⟩)
      simp only[flyG,e];exact⟨trivial,u',v2,x,(hr3.pick [4,0,1,9] (by decide)).conv rfl⟩
  . refine(Z10 w1 v s.qu (hr.at_ 1 rfl).reads (by omega)).mono ?_;rintro e w2 ⟨v2,rfl,g1,g2,gm⟩;refine⟨[.v v2,.r (s.qu.map encF)],rfl,rfl,gm,qy5 _,qy2.2 ⟨⟨g1,fun k hk=>.inl (g2 k hk)⟩,qy5 _⟩,Z3,?_⟩;intro w3 hr3;have e:flyR s.on s.fl s.qu s.next o0=(s.fl,s.qu,s.next,o0):=by
      rw[<- hg];exact Zgm (fun h=>hc ⟨⟨h.1.1,by omega⟩,by omega⟩)
    simp only[flyG,e];exact⟨trivial,u,v2,x,(hr3.pick [1,0,3,4] (by decide)).conv rfl⟩
def Zxr (n:Nat) (u v x y:Value):Prop:=∀k,Z1 y k->n<=k\/Z1 u k\/Z1 v k\/Z1 x k
def Zdo (u v:Value):Prop:=∀k,Z1 u k->Z1 v k->False
theorem Z53 {ρ:List V} {a b c ta tb tc:Nat} {ka kb kc:List Kd} {ra rb rc:X} (h1:Zdo (ρ.getD a (.i 0)).toV (ρ.getD b (.i 0)).toV) (h2:Zdo (ρ.getD a (.i 0)).toV (ρ.getD c (.i 0)).toV) (h3:Zdo (ρ.getD b (.i 0)).toV (ρ.getD c (.i 0)).toV) : Z2q ρ [.row a ta ka ra,.row b tb kb rb,.row c tc kc rc]:=by
 refine List.pairwise_cons.2 ⟨fun e he _ k hk hk'=>?_,List.pairwise_cons.2 ⟨fun e he _ k hk hk'=>?_,List.pairwise_singleton _ _⟩⟩
 ·rcases List.mem_cons.1 he with rfl|he
  ·exact h1 k hk hk'
  ·rw[qy12.1 he]at hk';exact h2 k hk hk'
 ·rw[qy12.1 he]at hk';exact h3 k hk hk'
theorem Zak {B:Base} {w:World} {k:Nat} {s:Ses} {u v x:Value} {o0:List Pk} (hrel:Rel B (sndA k s u v x o0) sndH w) (hn:1<=s.next/\s.next<=65535) (hl1:s.fl.length<100000) (hl2:s.qu.length<100000) (hl3:o0.length<100000) : Calls Tryz.prog 214 #[.pointer (some ⟨k,0,none⟩)] w fun e w'=>e=.returned (.tuple #[])/\∃u' v' x',w'.heap[k]?=some (.cells #[.string ⟨s.cl.toArray⟩,.bool s.on,.bool s.clean,sc1 u',sc1 v',.int .i64 (flyG s o0).1.next,sc1 x'] 236 (0,0)) /\ Zxq w' u' (flyG s o0).1.fl/\Zxq w' v' (flyG s o0).1.qu/\owns w' x' 31 kP ((flyG s o0).2.map encP)/\Zxr w.heap.size u v x u'/\Zxr w.heap.size u v x v'/\Zxr w.heap.size u v x x' /\ Zdo u' v'/\Zdo u' x'/\Zdo v' x'/\Mod (k::(u.ownBlock.toList++(v.ownBlock.toList++x.ownBlock.toList))) w w':=by
 refine(Z12b _ w k s u v x o0 hrel.base hn hl1 hl2 hl3).mono ?_;rintro e w' ⟨he,u',v',x',hr⟩;have hfp:∀j,j∈Zo (sndA k s u v x o0) sndH->j=k\/Z1 u j\/Z1 v j\/Z1 x j:=by
  intro j hj;simp only[Zo,sndA,sndH,sndC,List.flatMap_cons,List.flatMap_nil,Ent.fpl,Tree.goal,X.P,X.ev,SV.ev,CV.ev,Sc.ev,qz,QA,QB,QC,QD,QE,QF,QG,QH,QI,QJ,QK,QL,QM,Nat.reduceAdd,List.append_nil,qy13,qy12,Option.mem_toList,List.getD_nil]at hj;simp only[Z1];rcases hj with h|h|h|h
  ·exact .inr (.inl h)
  ·exact .inr (.inr (.inl h))
  ·exact .inr (.inr (.inr h))
  ·exact .inl h
 have hnew:∀(i:Nat) (e:Ent),sndH[i]?=some e->i<3->e.wr=true->∀j,e.fp (sndA k (flyG s o0).1 u' v' x' (flyG s o0).2) j->w.heap.size<=j\/Z1 u j\/Z1 v j\/Z1 x j:=by
  intro i e hi hlt hwr j hj;rcases hr.own e (qy6 hi) hwr j hj with h|h
  ·exact .inl h
  ·rcases hfp j h with rfl|h
   ·exfalso;exact hr.sep.disj (i:=i) (j:=3) hi rfl (by omega) (.inl hwr) hj rfl
   ·exact .inr h
 refine⟨he,u',v',x',hr.at_ 3 rfl,hr.at_ 0 rfl,hr.at_ 1 rfl,hr.at_ 2 rfl,fun j hj=>hnew 0 _ rfl (by omega) rfl j hj,fun j hj=>hnew 1 _ rfl (by omega) rfl j hj,fun j hj=>hnew 2 _ rfl (by omega) rfl j hj,
  fun j h1 h2=>hr.sep.disj (i:=0) (j:=1) rfl rfl (by omega) (.inl rfl) (k:=j) h1 h2,fun j h1 h2=>hr.sep.disj (i:=0) (j:=2) rfl rfl (by omega) (.inl rfl) (k:=j) h1 h2,fun j h1 h2=>hr.sep.disj (i:=1) (j:=2) rfl rfl (by omega) (.inl rfl) (k:=j) h1 h2,hr.mod.mono fun j hj=>.inl ?_⟩
 rcases hfp j hj with rfl|h|h|h
 ·exact qy8 ..
 ·exact qy10 _ (List.mem_append_left _ (Option.mem_toList.2 h))
 ·exact qy10 _ (List.mem_append_right _ (List.mem_append_left _ (Option.mem_toList.2 h)))
 ·exact qy10 _ (List.mem_append_right _ (List.mem_append_right _ (Option.mem_toList.2 h)))
theorem Z3g {ρ:List V} {g:List Nat}:∀k,Z1 (.slice none 0 0) k->k∈Z11 ρ g:=fun k hk=>by simp[Z1,Value.ownBlock]at hk
theorem Za7 {ρ:List V} {g:List Nat} {i j n k:Nat} {x:Value} {p:Prop} (hi:i∈g) (hj:j∈g) (hx:∀k,Z1 x k->k∈Z11 ρ g) (h:n<=k\/Z1 (ρ.getD i (.i 0)).toV k\/Z1 (ρ.getD j (.i 0)).toV k\/Z1 x k):n<=k\/p\/k∈Z11 ρ g:=by
 rcases h with h|h|h|h
 ·exact .inl h
 ·exact .inr (.inr (Zbp hi h))
 ·exact .inr (.inr (Zbp hj h))
 ·exact .inr (.inr (hx k h))
def newV (n:Nat) (u:Value):Prop:=∀k,Z1 u k->n<=k
theorem Zex (n:Nat):newV n (.slice none 0 0):=fun k hk=>by simp[Z1,Value.ownBlock]at hk
def gotN (w w':World) (e:Ending) (r:Ses) (out:List Pk):Prop :=
 ∃u' v' x,e=.returned (.tuple #[sesV r u' v',sc1 x])/\Z12 w' u' r.fl/\Z12 w' v' r.qu/\Z107 w' x out/\newV w.heap.size u'/\newV w.heap.size v'/\newV w.heap.size x/\Mod [] w w'
def Z2h (s:Ses) (n p:List UInt8) (q:Int):Ses×List Pk :=
 if q=0/\s.on=true then (s,[pk0 n p])
 else if (q=1/\(s.on=true\/¬s.clean=true))/\(s.qu.length:Int)<6 then flyS { s with qu:=s.qu++[(0,n,p)] } else (s,[])
theorem Zpe (w:World) (s:Ses) (u v:Value) (n p:List UInt8) (q:Int) (hu:Z12 w u s.fl) (hv:Z12 w v s.qu) (hn:1<=s.next/\s.next<=65535) (hl1:s.fl.length<10000) (hl2:s.qu.length<10000):Calls Tryz.prog 233 #[sesV s u v,.string ⟨n.toArray⟩,.string ⟨p.toArray⟩,.int .i64 q] w fun e w'=>gotN w w' e (Z2h s n p q).1 (Z2h s n p q).2:=by
 refine Z2 (Z4 (ρ:=[.s s.cl,.b s.on,.b s.clean,.v u,.r (s.fl.map encF),.v v,.r (s.qu.map encF),.i s.next,.s n,.s p,.i q]) sxE_ok Tryz.func233 Z9y rfl rfl (Rel.start2 (by simp[Ent.holds,Ent.wr,hu,hv,X.ev])) rfl rfl ?_) rfl;simp only[Tree.goal,X.P,X.ev,SV.ev,CV.ev,Sc.ev,qz,QA,QB,QC,QD,QE,QF,QG,QH,QI,QJ,QK,QL,QM,Nat.reduceAdd,qy3,qy4,gF0,gF1,gF2,List.nil_append];intro b1 b2 b3 b4 b5;refine Z4l ?_;intro w1 hr1;refine(Z10 w1 u s.fl (hr1.at_ 6 rfl) (by omega)).mono ?_;rintro e w2 ⟨u1,rfl,a1,f1,m1⟩;refine⟨[.v u1,.r (s.fl.map encF)],rfl,rfl,m1,qy5 _,qy2.2 ⟨⟨a1,fun k hk=>.inl (f1 k hk)⟩,qy5 _⟩,Z3,?_⟩;intro w3 hr3;refine(Z10 w3 v s.qu (hr3.at_ 8 rfl) (by omega)).mono ?_;rintro e w4 ⟨v1,rfl,a2,f2,m2⟩;refine⟨[.v v1,.r (s.qu.map encF)],rfl,rfl,m2,qy5 _,qy2.2 ⟨⟨a2,fun k hk=>.inl (f2 k hk)⟩,qy5 _⟩,Z3,?_⟩;clear hr1 hr3 m1 m2 a1 a2 f1 f2;intro b6;simp only[Tree.goal,X.P,X.ev,SV.ev,CV.ev,Sc.ev,qz,QA,QB,QC,QD,QE,QF,QG,QH,QI,QJ,QK,QL,QM,Nat.reduceAdd,qy3,qy4,gF0,gF1,gF2,List.nil_append];refine⟨fun h1 v2=>⟨by omega,fun v3 w5 hr=>?_⟩,fun h1=>⟨fun h2 v2=>⟨by omega,fun v3 w5 hr=>?_⟩,fun h2 w5 hr=>?_⟩⟩
 ·rw[Z2h,if_pos h1];exact⟨u1,v1,v3,rfl,(hr.at_ 4 rfl).reads,(hr.at_ 3 rfl).reads,(hr.at_ 0 rfl).reads,hr.fresh 4 rfl,hr.fresh 3 rfl,hr.fresh 0 rfl,hr.mod⟩
 ·rw[Z2h,if_neg h1,if_pos h2];refine(Zak (s:={ s with qu:=s.qu++[(0,n,p)] }) (o0:=[]) ((hr.pick [3,0,7,2] (by decide)).conv (by simp only[sndA,List.map_append];rfl)) hn (by simp;omega) (by simp;omega) (by simp)).mono ?_;rintro e w6 ⟨rfl,u',v',x',g1,g2,g3,g4,g5,g6,g7,g8,g9,g10,gm⟩;refine⟨[.s s.cl,.b s.on,.b s.clean,.v u',.r ((flyS { s with qu:=s.qu++[(0,n,p)] }).1.fl.map encF),.v v',.r ((flyS { s with qu:=s.qu++[(0,n,p)] }).1.qu.map encF),.i (flyS { s with qu:=s.qu++[(0,n,p)] }).1.next,.v x',.r ((flyS { s with qu:=s.qu++[(0,n,p)] }).2.map encP)],rfl,rfl,?_,qy2.2 ⟨g1,qy5 _⟩,
   qy2.2 ⟨⟨g2,fun k hk=>Za7 (qy8 ..) (qy10 _ (qy8 ..)) Z3g <| g5 k hk⟩,qy2.2 ⟨⟨g3,fun k hk=>Za7 (qy8 ..) (qy10 _ (qy8 ..)) Z3g <| g6 k hk⟩,qy2.2 ⟨⟨g4,fun k hk=>Za7 (qy8 ..) (qy10 _ (qy8 ..)) Z3g <| g7 k hk⟩,qy5 _⟩⟩⟩,Z53 g8 g9 g10,?_⟩
  ·exact gm.mono fun k hk=>.inl (by simpa [Zr,Z11,Value.ownBlock]using hk)
  ·intro w7 hr7;exact⟨u',v',x',rfl,(hr7.at_ 0 rfl).reads,(hr7.at_ 1 rfl).reads,(hr7.at_ 2 rfl).reads,hr7.fresh 0 rfl,hr7.fresh 1 rfl,hr7.fresh 2 rfl,hr7.mod⟩
 ·rw[Z2h,if_neg h1,if_neg h2];exact⟨u1,v1,_,rfl,(hr.at_ 2 rfl).reads,(hr.at_ 1 rfl).reads,Z8 _ _,hr.fresh 2 rfl,hr.fresh 1 rfl,Zex _,hr.mod⟩
theorem Zty (on:Bool):∀(qu fl:List Fl) (next:Int) (o0:List Pk),flyR on fl qu next o0=((flyR on fl qu next []).1,(flyR on fl qu next []).2.1,(flyR on fl qu next []).2.2.1,o0++(flyR on fl qu next []).2.2.2):=by
 intro qu;induction qu with
 | nil=>intro fl next o0;simp[flyR]
 | cons f q ih =>
  intro fl next o0
  rw[flyR,flyR];split
  ·rw[ih _ _ (o0++_),ih _ _ ([]++_)];simp
  ·simp
theorem Ztz (s:Ses) (o0:List Pk):flyG s o0=((flyS s).1,o0++(flyS s).2):=by simp only[flyG,flyS];rw[Zty]
theorem Z109 (w:World) (s:Ses) (u v:Value) (hu:Z12 w u s.fl) (hv:Z12 w v s.qu) (hn:1<=s.next/\s.next<=65535) (hl1:s.fl.length<10000) (hl2:s.qu.length<10000):Calls Tryz.prog 210 #[sesV s u v] w fun e w'=>gotN w w' e (Zew s).1 (Zew s).2:=by
 refine Z2 (Z4 (ρ:=[.s s.cl,.b s.on,.b s.clean,.v u,.r (s.fl.map encF),.v v,.r (s.qu.map encF),.i s.next]) sxE_ok Tryz.func210 Z94 rfl rfl (Rel.start2 (by simp[Ent.holds,Ent.wr,hu,hv,X.ev])) rfl rfl ?_) rfl;simp only[Tree.goal,X.P,X.ev,SV.ev,CV.ev,Sc.ev,qz,QA,QB,QC,QD,QE,QF,QG,QH,QI,QJ,QK,QL,QM,Nat.reduceAdd,qy3,qy4,gF0,gF1,gF2,List.nil_append];intro b1 b2 b3 b4 b5;refine Z4l ?_;intro w1 hr1;refine(Z10 w1 u s.fl (hr1.at_ 6 rfl) (by omega)).mono ?_;rintro e w2 ⟨u1,rfl,a1,f1,m1⟩;refine⟨[.v u1,.r (s.fl.map encF)],rfl,rfl,m1,qy5 _,qy2.2 ⟨⟨a1,fun k hk=>.inl (f1 k hk)⟩,qy5 _⟩,Z3,?_⟩;intro w3 hr3;refine(Z10 w3 v s.qu (hr3.at_ 8 rfl) (by omega)).mono ?_;rintro e w4 ⟨v1,rfl,a2,f2,m2⟩;refine⟨[.v v1,.r (s.qu.map encF)],rfl,rfl,m2,qy5 _,qy2.2 ⟨⟨a2,fun k hk=>.inl (f2 k hk)⟩,qy5 _⟩,Z3,?_⟩;clear hr1 hr3 m1 m2 a1 a2 f1 f2;intro b6;simp only[Tree.goal,X.P,X.ev,SV.ev,CV.ev,Sc.ev,qz,QA,QB,QC,QD,QE,QF,QG,QH,QI,QJ,QK,QL,QM,Nat.reduceAdd,qy3,qy4,gF0,gF1,gF2,List.nil_append];refine⟨fun vs=>∃(i:Nat) (x:Value),vs=[.i i,.s s.cl,.b true,.b s.clean,.v v1,.r (s.qu.map encF),.i s.next,.v x,.r (((s.fl.take i).map pk1).map encP)]/\i<=s.fl.length,fun vs=>s.fl.length - (vs.getD 0 (.i 0)).toI.toNat,⟨0,_,by simp;rfl,by omega⟩,?_⟩;rintro _ - ⟨i,x,rfl,hi⟩;simp only[Tree.goal,X.P,X.ev,SV.ev,CV.ev,Sc.ev,qz,QA,QB,QC,QD,QE,QF,QG,QH,QI,QJ,QK,QL,QM,Nat.reduceAdd,qy3,qy4,gF0,gF1,gF2,List.nil_append];refine⟨fun h1=>⟨by omega,fun b7 b8 v2=>⟨by simp only[List.length_take];omega,fun v3=>⟨by omega,by omega,⟨i+1,v3,?_,by omega⟩,by omega⟩⟩⟩,fun h1 w5 hr=>?_⟩
 ·rw[Zp9 _ i (by omega)];simp[encP,pk1]
 ·have hil:i=s.fl.length:=by omega
  subst hil;rw[List.take_length]at hr;refine(Zak (s:={ s with on:=true }) (o0:=s.fl.map pk1) ((hr.pick [2,1,11,0] (by decide)).conv rfl) hn (by simp;omega) (by simp;omega) (by simp;omega)).mono ?_;rintro e w6 ⟨rfl,u',v',x',g1,g2,g3,g4,g5,g6,g7,g8,g9,g10,gm⟩;rw[Ztz]at g1 g2 g3 g4;refine⟨[.s s.cl,.b true,.b s.clean,.v u',.r ((flyS { s with on:=true }).1.fl.map encF),.v v',.r ((flyS { s with on:=true }).1.qu.map encF),.i (flyS { s with on:=true }).1.next,.v x',.r ((s.fl.map pk1++(flyS { s with on:=true }).2).map encP)],rfl,rfl,?_,qy2.2 ⟨g1,qy5 _⟩,
   qy2.2 ⟨⟨g2,fun k hk=>Za7 (qy8 ..) (qy10 _ (qy8 ..)) (fun k hk=>Zbp (qy10 _ (qy10 _ (qy8 ..))) hk) <| g5 k hk⟩,qy2.2 ⟨⟨g3,fun k hk=>Za7 (qy8 ..) (qy10 _ (qy8 ..)) (fun k hk=>Zbp (qy10 _ (qy10 _ (qy8 ..))) hk) <| g6 k hk⟩,qy2.2 ⟨⟨g4,fun k hk=>Za7 (qy8 ..) (qy10 _ (qy8 ..)) (fun k hk=>Zbp (qy10 _ (qy10 _ (qy8 ..))) hk) <| g7 k hk⟩,qy5 _⟩⟩⟩,Z53 g8 g9 g10,?_⟩
  ·exact gm.mono fun k hk=>.inl (by simpa [Zr,Z11,Value.ownBlock]using hk)
  ·intro w7 hr7;exact⟨u',v',x',rfl,(hr7.at_ 0 rfl).reads,(hr7.at_ 1 rfl).reads,(hr7.at_ 2 rfl).reads,hr7.fresh 0 rfl,hr7.fresh 1 rfl,hr7.fresh 2 rfl,hr7.mod⟩
theorem Zdp (l:List Fl) (id:Int) (i:Nat) (h:i<l.length):Z6n (l.take (i+1)) id=Z6n (l.take i) id++(if (l.getD i fD).1=id then [] else [l.getD i fD]):=by
 rw[Zp9 l i h,Z6n,List.filter_append];simp only[Z6n,List.filter_cons,List.filter_nil,idIs];by_cases h1:(l.getD i fD).1=id
 ·rw[if_pos h1,decide_eq_true h1];simp
 ·rw[if_neg h1,decide_eq_false h1];simp
theorem Zgo {l:List Fl} {id:Int} (h:l.any (idIs id)=false):Z6n l id=l:=by rw[Z6n,List.filter_eq_self];intro x hx;rw[List.any_eq_false]at h;have:=h x hx;simpa using this
theorem Zey {R l:List Fl} {j:Nat} (h:R.drop j=l.drop j):R.getD j fD=l.getD j fD:=by
 have e:∀q:List Fl,q.getD j fD=(q.drop j).getD 0 fD:=fun q=>by simp[qy1]
 rw[e R,e l,h]
theorem Zu0 (R:List Fl) (m:Nat) (x:Fl):(R.map encF).set m [Value.int .i64 x.1,.string ⟨x.2.1.toArray⟩,.string ⟨x.2.2.toArray⟩]=(R.set m x).map encF:=by rw[List.map_set];rfl
theorem Zpf {R:List Fl} {m:Nat} {x:Fl} (h:m<R.length):(R.set m x).take (m+1)=R.take m++[x]:=by
 rw[List.take_set,Zp9 R m h,List.set_append_right _ _ (by simp;omega)];have:m - (R.take m).length=0:=by simp;omega
 rw[this];rfl
theorem Zpg {R:List Fl} {m j:Nat} {x:Fl} (h:m<j):(R.set m x).drop j=R.drop j:=by rw[List.drop_set,if_pos h]
theorem Zw3 (w:World) (s:Ses) (u v:Value) (q:Int) (hu:Z12 w u s.fl) (hv:Z12 w v s.qu) (hn:1<=s.next/\s.next<=65535) (hl1:s.fl.length<10000) (hl2:s.qu.length<10000):Calls Tryz.prog 129 #[sesV s u v,.int .i64 q] w fun e w'=>gotN w w' e (Z4e s q).1 (Z4e s q).2:=by
 refine Z2 (Z4 (ρ:=[.s s.cl,.b s.on,.b s.clean,.v u,.r (s.fl.map encF),.v v,.r (s.qu.map encF),.i s.next,.i q]) sxE_ok Tryz.func129 Z8y rfl rfl (Rel.start2 (by simp[Ent.holds,Ent.wr,hu,hv,X.ev])) rfl rfl ?_) rfl;simp only[Tree.goal,X.P,X.ev,SV.ev,CV.ev,Sc.ev,qz,QA,QB,QC,QD,QE,QF,QG,QH,QI,QJ,QK,QL,QM,Nat.reduceAdd,qy3,qy4,gF0,gF1,gF2,List.nil_append];intro b0 b1 b2 b3 b4 b5;refine Z4l ?_;intro w1 hr1;refine(Z10 w1 u s.fl (hr1.at_ 7 rfl) (by omega)).mono ?_;rintro e w2 ⟨u1,rfl,a1,f1,m1⟩;refine⟨[.v u1,.r (s.fl.map encF)],rfl,rfl,m1,qy5 _,qy2.2 ⟨⟨a1,fun k hk=>.inl (f1 k hk)⟩,qy5 _⟩,Z3,?_⟩;intro w3 hr3;refine(Z10 w3 v s.qu (hr3.at_ 9 rfl) (by omega)).mono ?_;rintro e w4 ⟨v1,rfl,a2,f2,m2⟩;refine⟨[.v v1,.r (s.qu.map encF)],rfl,rfl,m2,qy5 _,qy2.2 ⟨⟨a2,fun k hk=>.inl (f2 k hk)⟩,qy5 _⟩,Z3,?_⟩;clear hr1 hr3 m1 m2 a1 a2 f1 f2;intro b6;simp only[Tree.goal,X.P,X.ev,SV.ev,CV.ev,Sc.ev,qz,QA,QB,QC,QD,QE,QF,QG,QH,QI,QJ,QK,QL,QM,Nat.reduceAdd,qy3,qy4,gF0,gF1,gF2,List.nil_append];refine⟨fun vs=>∃(i:Nat) (x:V),vs=[x,.i i,.i q]/\i<=s.fl.length/\(s.fl.take i).any (idIs q)=false,fun vs=>s.fl.length - (vs.getD 1 (.i 0)).toI.toNat,⟨0,_,rfl,by omega,by simp⟩,?_⟩;rintro _ - ⟨i,x,rfl,hi,hno⟩;simp only[Tree.goal,X.P,X.ev,SV.ev,CV.ev,Sc.ev,qz,QA,QB,QC,QD,QE,QF,QG,QH,QI,QJ,QK,QL,QM,Nat.reduceAdd,qy3,qy4,gF0,gF1,gF2,List.nil_append];refine⟨fun h1=>⟨by omega,fun b7=>⟨fun h2=>⟨fun h3=>absurd h3 (by omega),fun h3=>⟨by omega,by omega,?_⟩⟩,fun h2=>?_⟩⟩,fun h1 w5 hr=>?_⟩
 ·refine⟨fun vs=>∃(m j:Nat) (R:List Fl),vs=[.i m,.i j,.r (R.map encF),.i q]/\R.length=s.fl.length/\m<j/\j<=s.fl.length/\R.take m=Z6n (s.fl.take j) q/\R.drop j=s.fl.drop j,fun vs=>s.fl.length - (vs.getD 1 (.i 0)).toI.toNat,⟨i,i+1,s.fl,rfl,rfl,by omega,by omega,?_,rfl⟩,?_⟩
  ·rw[Zdp _ _ i (by omega),if_pos h2,List.append_nil,Zgo hno]
  ·rintro _ - ⟨m,j,R,rfl,hRl,hmj,hj,htk,hdr⟩;simp only[Tree.goal,X.P,X.ev,SV.ev,CV.ev,Sc.ev,qz,QA,QB,QC,QD,QE,QF,QG,QH,QI,QJ,QK,QL,QM,Nat.reduceAdd,qy3,qy4,gF0,gF1,gF2,List.nil_append];refine⟨fun h4=>⟨by omega,fun b8 b9=>?_⟩,fun h4=>?_⟩
   ·have hsn:=Zdp s.fl q j (by omega);have hRj:=Zey hdr;have hdr1:R.drop (j+1)=s.fl.drop (j+1):=by rw[<- List.drop_drop,<- List.drop_drop,hdr]
    rw[hRj];refine⟨fun h5=>?_,fun h5=>?_⟩
    ·rw[if_neg h5]at hsn;refine⟨by omega,by omega,by omega,by omega,by omega,by omega,⟨m+1,j+1,R.set m (s.fl.getD j fD),?_,by simpa using hRl,by omega,by omega,?_,?_⟩,by omega⟩
     ·rw[Zu0];rfl
     ·rw[Zpf (by omega),htk,hsn]
     ·rw[Zpg (by omega),hdr1]
    ·rw[if_pos (qy9.1 h5),List.append_nil]at hsn;exact⟨by omega,by omega,⟨m,j+1,R,rfl,hRl,by omega,by omega,by rw[htk,hsn],hdr1⟩,by omega⟩
   ·have:j=s.fl.length:=by omega
    subst this;rw[List.take_length]at htk;refine⟨by omega,by omega,?_,fun v9 w5 hr=>?_⟩
    ·simp only[qy11,List.length_take,qy3,List.length_replicate];omega
    ·have e1:(List.take m (List.take m (R.map encF)++List.replicate (R.length - m) [Value.int .i64 0,.string ⟨[].toArray⟩,.string ⟨[].toArray⟩]))=(Z6n s.fl q).map encF:=by
      rw[List.take_append_of_le_length (by simp;omega),List.take_take,Nat.min_self,<- List.map_take,htk]
     have hll:(Z6n s.fl q).length<=s.fl.length:=List.length_filter_le _ _;refine(Zak (s:={ s with fl:=Z6n s.fl q }) (o0:=[]) ((hr.pick [0,4,8,3] (by decide)).conv (by simp only[sndA,<- e1,<- qy3 (f:=encF)];rfl)) hn (by simp;omega) (by simp;omega) (by simp)).mono ?_;rintro e w6 ⟨rfl,u',v',x',g1,g2,g3,g4,g5,g6,g7,g8,g9,g10,gm⟩;refine⟨[.s s.cl,.b s.on,.b s.clean,.v u',.r ((Z4e s q).1.fl.map encF),.v v',.r ((Z4e s q).1.qu.map encF),.i (Z4e s q).1.next,.v x',.r ((Z4e s q).2.map encP)],rfl,rfl,gm.mono fun k hk=>.inl (by simpa [Zr,Z11,Value.ownBlock]using hk),qy2.2 ⟨g1,qy5 _⟩,qy2.2 ⟨⟨g2,fun k hk=>Za7 (qy8 ..) (qy10 _ (qy8 ..)) Z3g <| g5 k hk⟩,qy2.2 ⟨⟨g3,fun k hk=>Za7 (qy8 ..) (qy10 _ (qy8 ..)) Z3g <| g6 k hk⟩,qy2.2 ⟨⟨g4,fun k hk=>Za7 (qy8 ..) (qy10 _ (qy8 ..)) Z3g <| g7 k hk⟩,qy5 _⟩⟩⟩,Z53 g8 g9 g10,?_⟩;intro w7 hr7;exact⟨u',v',x',rfl,(hr7.at_ 0 rfl).reads,(hr7.at_ 1 rfl).reads,(hr7.at_ 2 rfl).reads,hr7.fresh 0 rfl,hr7.fresh 1 rfl,hr7.fresh 2 rfl,hr7.mod⟩
 ·refine⟨by omega,by omega,⟨i+1,x,rfl,by omega,?_⟩,by omega⟩;rw[Zgk _ _ i (by omega),hno,Bool.false_or];simp only[idIs,decide_eq_false_iff_not];exact h2
 ·have:i=s.fl.length:=by omega
  subst this;rw[List.take_length]at hno;have e1:=Zgo hno;refine(Zak (s:={ s with fl:=Z6n s.fl q }) (o0:=[]) ((hr.pick [3,2,7,1] (by decide)).conv (by simp only[sndA,e1];rfl)) hn (by simp only[e1];omega) (by simp;omega) (by simp)).mono ?_;rintro e w6 ⟨rfl,u',v',x',g1,g2,g3,g4,g5,g6,g7,g8,g9,g10,gm⟩;refine⟨[.s s.cl,.b s.on,.b s.clean,.v u',.r ((Z4e s q).1.fl.map encF),.v v',.r ((Z4e s q).1.qu.map encF),.i (Z4e s q).1.next,.v x',.r ((Z4e s q).2.map encP)],rfl,rfl,gm.mono fun k hk=>.inl (by simpa [Zr,Z11,Value.ownBlock]using hk),qy2.2 ⟨g1,qy5 _⟩,qy2.2 ⟨⟨g2,fun k hk=>Za7 (qy8 ..) (qy10 _ (qy8 ..)) Z3g <| g5 k hk⟩,qy2.2 ⟨⟨g3,fun k hk=>Za7 (qy8 ..) (qy10 _ (qy8 ..)) Z3g <| g6 k hk⟩,qy2.2 ⟨⟨g4,fun k hk=>Za7 (qy8 ..) (qy10 _ (qy8 ..)) Z3g <| g7 k hk⟩,qy5 _⟩⟩⟩,Z53 g8 g9 g10,?_⟩;intro w7 hr7;exact⟨u',v',x',rfl,(hr7.at_ 0 rfl).reads,(hr7.at_ 1 rfl).reads,(hr7.at_ 2 rfl).reads,hr7.fresh 0 rfl,hr7.fresh 1 rfl,hr7.fresh 2 rfl,hr7.mod⟩
theorem Zxs {s:Ses} (h:chkS s=0):(1<=s.next/\s.next<=65535)/\s.fl.length<=3/\s.qu.length<=6:=by
 unfold chkS at h;split at h
 ·split at h
  ·exact absurd h (by decide)
  ·split at h
   ·split at h
    ·exact⟨by assumption,by omega,by omega⟩
    ·exact absurd h (by decide)
   ·exact absurd h (by assumption)
 ·exact absurd h (by decide)
def Z10a (w w':World) (e:Ending) (r:Ses):Prop :=
 ∃u' v',e=.returned (sesV r u' v')/\Z12 w' u' r.fl/\Z12 w' v' r.qu/\newV w.heap.size u'/\newV w.heap.size v'/\Mod [] w w'
theorem Z12c (w:World) (s:Ses) (u v:Value) (hu:Z12 w u s.fl) (hv:Z12 w v s.qu) (hl1:s.fl.length<10000) (hl2:s.qu.length<10000):Calls Tryz.prog 133 #[sesV s u v] w fun e w'=>Z10a w w' e (goR s):=by
 refine Z2 (Z4 (ρ:=[.s s.cl,.b s.on,.b s.clean,.v u,.r (s.fl.map encF),.v v,.r (s.qu.map encF),.i s.next]) sxE_ok Tryz.func133 Za2 rfl rfl (Rel.start2 (by simp[Ent.holds,Ent.wr,hu,hv,X.ev])) rfl rfl ?_) rfl;simp only[Tree.goal,X.P,X.ev,SV.ev,CV.ev,Sc.ev,qz,QA,QB,QC,QD,QE,QF,QG,QH,QI,QJ,QK,QL,QM,Nat.reduceAdd,qy3,qy4,gF0,gF1,gF2,List.nil_append];intro b1 b2 b3 b4 b5;refine Z4l ?_;intro w1 hr1;refine(Z10 w1 u s.fl (hr1.at_ 5 rfl) (by omega)).mono ?_;rintro e w2 ⟨u1,rfl,a1,f1,m1⟩;refine⟨[.v u1,.r (s.fl.map encF)],rfl,rfl,m1,qy5 _,qy2.2 ⟨⟨a1,fun k hk=>.inl (f1 k hk)⟩,qy5 _⟩,Z3,?_⟩;intro w3 hr3;refine(Z10 w3 v s.qu (hr3.at_ 7 rfl) (by omega)).mono ?_;rintro e w4 ⟨v1,rfl,a2,f2,m2⟩;refine⟨[.v v1,.r (s.qu.map encF)],rfl,rfl,m2,qy5 _,qy2.2 ⟨⟨a2,fun k hk=>.inl (f2 k hk)⟩,qy5 _⟩,Z3,?_⟩;clear hr1 hr3 m1 m2 a1 a2 f1 f2;intro b6;simp only[Tree.goal,X.P,X.ev,SV.ev,CV.ev,Sc.ev,qz,QA,QB,QC,QD,QE,QF,QG,QH,QI,QJ,QK,QL,QM,Nat.reduceAdd,qy3,qy4,gF0,gF1,gF2,List.nil_append];refine⟨fun h1 w5 hr=>?_,fun h1 w5 hr=>?_⟩
 ·have e:goR s=⟨s.cl,false,s.clean,[],[],s.next⟩:=by simp[goR,h1]
  rw[e];exact⟨.slice none 0 0,.slice none 0 0,rfl,Z8 _ _,Z8 _ _,Zex _,Zex _,hr.mod⟩
 ·have e:goR s=⟨s.cl,false,s.clean,s.fl,s.qu,s.next⟩:=by simp[goR,h1]
  rw[e];exact⟨u1,v1,rfl,(hr.at_ 2 rfl).reads,(hr.at_ 1 rfl).reads,hr.fresh 2 rfl,hr.fresh 1 rfl,hr.mod⟩
abbrev Zt:List UInt8->List UInt8->Bool:=Op.bytesLess
theorem Zbq (a:List UInt8):Zt a []=false:=by cases a<;>rfl
theorem Z34:∀a:List UInt8,Zt a a=false
 | []=>rfl
 | a::x=>by simp[Zt,Op.bytesLess,Z34 x,UInt8.lt_irrefl]
theorem Z1v:∀{a b c:List UInt8},Zt a b=true->Zt b c=true->Zt a c=true
 | _,[],_,h,_=>by rw[Zbq]at h;cases h
 | _,_::_,[],_,h=>by rw[Zbq]at h;cases h
 | [],_::_,_::_,_,_=>rfl
 | a::x,b::y,c::z,h1,h2=>by
  simp only[Zt,Op.bytesLess,Bool.or_eq_true,decide_eq_true_eq,Bool.and_eq_true,beq_iff_eq]at h1 h2 ⊢;rcases h1 with h1|⟨rfl,h1⟩
  ·rcases h2 with h2|⟨rfl,h2⟩
   ·exact .inl (UInt8.lt_trans h1 h2)
   ·exact .inl h1
  ·rcases h2 with h2|⟨rfl,h2⟩
   ·exact .inl h2
   ·exact .inr ⟨rfl,Z1v h1 h2⟩
theorem Zgp:∀{a b:List UInt8},Zt a b=false->Zt b a=false->a=b
 | [],[],_,_=>rfl
 | [],_::_,h,_=>by cases h
 | _::_,[],_,h=>by cases h
 | a::x,b::y,h1,h2=>by
  simp only[Zt,Op.bytesLess,Bool.or_eq_false_iff,decide_eq_false_iff_not,Bool.and_eq_false_iff,beq_eq_false_iff_ne]at h1 h2;have hab:a=b:=by
   rcases Nat.lt_trichotomy a.toNat b.toNat with h|h|h
   ·exact absurd (UInt8.lt_iff_toNat_lt.2 h) h1.1
   ·exact UInt8.toNat_inj.1 h
   ·exact absurd (UInt8.lt_iff_toNat_lt.2 h) h2.1
  subst hab;rw[Zgp (h1.2.resolve_left (by simp)) (h2.2.resolve_left (by simp))]
theorem Z4m {a b:List UInt8} (h:Zt a b=true):Zt b a=false:=by
 cases h2:Zt b a with
 | false=>rfl
 | true=>have:=Z1v h h2;rw[Z34]at this;cases this
theorem Z8b {a b:List UInt8} (h:Zt a b=true):a≠b:=by rintro rfl;rw[Z34]at h;cases h
theorem Z4n {a b:List UInt8}:Zt a b=false↔(Zt b a=true\/b=a):=by
 constructor
 ·intro h;cases h2:Zt b a with
  | true=>exact .inl rfl
  | false=>exact .inr (Zgp h2 h)
 ·rintro(h|rfl)
  ·exact Z4m h
  ·exact Z34 _
def Z6r (a b:List UInt8):Int:=if Zt a b=true then -1 else if a=b then 0 else 1
theorem Zgq:∀a b:List UInt8,Go.Lib.compareBytes a b=Z6r a b
 | [],[]=>rfl
 | [],_::_=>rfl
 | a::x,[]=>by simp[Z6r,Go.Lib.compareBytes,Zbq]
 | a::x,b::y=>by
  have ih:=Zgq x y;rw[Go.Lib.compareBytes,ih];unfold Z6r;simp only[Zt,Op.bytesLess,Bool.or_eq_true,decide_eq_true_eq,Bool.and_eq_true,beq_iff_eq,List.cons.injEq];by_cases h1:a<b
  ·simp[h1]
  ·by_cases h2:b<a
   ·have hne:a≠b:=by rintro rfl;exact h1 h2
    simp[h1,h2,hne]
   ·have hab:a=b:=by
     rcases Nat.lt_trichotomy a.toNat b.toNat with h|h|h
     ·exact absurd (UInt8.lt_iff_toNat_lt.2 h) h1
     ·exact UInt8.toNat_inj.1 h
     ·exact absurd (UInt8.lt_iff_toNat_lt.2 h) h2
    subst hab;simp[UInt8.lt_irrefl]
theorem Zph {a b:List UInt8}:Z6r a b<0↔Zt a b=true:=by
 unfold Z6r;split
 ·simp[*]
 ·rename_i h;have h:Zt a b=false:=by simpa using h
  split<;>simp[h]
theorem Zij {a b:List UInt8}:Z6r a b=0↔a=b:=by
 unfold Z6r;split
 ·rename_i h;simp only[show ¬((-1:Int)=0) by decide,false_iff];exact Z8b h
 ·split<;>simp[*]
theorem Zbr (w:World) (a b:List UInt8):Calls Tryz.prog 162 #[.string ⟨a.toArray⟩,.string ⟨b.toArray⟩] w fun e w'=>e=.returned (.int .i64 (Z6r a b))/\Mod [] w w':=by refine(Any.strings_Compare Tryz.lays106 ⟨a.toArray⟩ ⟨b.toArray⟩ w).mono ?_;rintro e w' ⟨rfl,rfl⟩;rw[Zgq];exact⟨rfl,Mod.refl _ _⟩
end Go.Proofs.YtkhakgbnfapifaaGreatDoor
