/- By an AI agent. -/
import Derived.Test.YtfcofbfbgcbocaaGreatDoorR19
import Derived.Test.YtfcofbfbgcbocaaGreatDoorR20
set_option linter.all false
set_option maxHeartbeats 20000000
namespace Go.Proofs.Y
open Go Go.Sx
theorem Z1be(w:World)(v:Value)(l:List Rst)(hv:Zte w v l)(hs:∀r∈l,r.1.length<1099511627776)(hl:l.length<1000000000) : Calls Tryz.prog 29 #[sc1 v] w λe w'=>e=.returned (.int .i64 (chkR l))/\Mod [] w w':=by
 refine Z1 (Z3 (J:=[.v v,.r (l.map Z5l)]) sxE_ok Tryz.func29 Ze9 rfl rfl (Rel.start2 (by simp[Ent.holds,Ent.wr,hv,X.ev])) rfl rfl ?_) rfl;simp only[QQ,Nat.reduceAdd,qy3,qy4,gR0,gR1];refine⟨λvs=>∃(i:Nat) (x:V),vs=[x,.i i]/\i<=l.length/\Zlb (prvR l i) (l.drop i)=chkR l,λvs=>l.length - (vs.getD 1 (.i 0)).toI.toNat,⟨0,_,rfl,by omega,rfl⟩,?_⟩;rintro _ - ⟨i,x,rfl,hi,hg⟩;simp only[QQ,Nat.reduceAdd,qy3,qy4,gR0,gR1];have hi1:((i:Int) - 1).toNat=i - 1:=by omega
 try rw[hi1]
 refine⟨λh1=>⟨by omega,λb=>?_⟩,λh1 w' hr=>⟨?_,hr.mod⟩⟩
 ·have hi':i<l.length:=by omega
  rw[Zw0 hi']at hg;refine⟨[.b (Zd (l.getD i rstD).1)],rfl,λ_ w' hr=>Zba w' _ (hs _ (memR hi')),?_⟩;simp only[QQ,Nat.reduceAdd,qy3,qy4,gR0,gR1];try rw[hi1]
  refine⟨λh2 w' hr=>⟨?_,hr.mod⟩,λh2=>⟨λh3 w' hr=>⟨?_,hr.mod⟩,λh3=>⟨by omega,by omega,by omega,by omega,λh6 w' hr=>⟨?_,hr.mod⟩,λh6=>⟨by omega,by omega,⟨i+1,x,rfl,by omega,?_⟩,by omega⟩⟩⟩⟩
  ·rw[if_pos h2]at hg;rw[<- hg]
  ·rw[if_neg h2,if_pos h3]at hg;rw[<- hg]
  ·rw[if_neg h2,if_neg h3,if_pos h6]at hg;rw[<- hg]
  ·rw[if_neg h2,if_neg h3,if_neg h6]at hg;exact hg
 ·have:i=l.length:=by omega
  subst this;rw[List.drop_length]at hg;rw[<- hg];rfl
theorem Z12b(w:World)(e:Evt)(hc:e.client.length<1099511627776) : Calls Tryz.prog 30 #[.agg #[.string ⟨e.client.toArray⟩,.int .i64 e.peer,.string ⟨e.bytes.toArray⟩]] w λr w'=>r=.returned (.int .i64 (Z1t e))/\Mod [] w w':=by refine Z1 (Z7 (J:=[.s e.client,.i e.peer,.s e.bytes]) sxE_ok Tryz.func30 Zea rfl rfl rfl ?_) rfl;simp only[QQ,Nat.reduceAdd];intro b;refine⟨[.b (Zd e.client)],rfl,λ_ w' hr=>Zba w' _ hc,?_⟩;simp only[QQ,Nat.reduceAdd];unfold Z1t;refine⟨λh w' hr=>⟨by rw[if_pos h],hr.mod⟩,λh=>?_⟩;rw[if_neg h];refine⟨λh0=>⟨λh2 w' hr=>⟨by rw[if_pos];exact h2.imp (λa=>⟨h0,a⟩) id,hr.mod⟩,λh2 w' hr=>⟨by rw[if_neg];exact λa=>h2 (a.imp (λa=>a.2) id),hr.mod⟩⟩,λh0=>⟨λh2 w' hr=>⟨by rw[if_pos];exact .inr h2,hr.mod⟩,λh2 w' hr=>⟨by rw[if_neg];exact λa=>a.elim (λa=>h0 a.1) h2,hr.mod⟩⟩⟩
abbrev Zof(w:World)(v:Value)(l:List Rst):Prop:=owns w v 80 kR (l.map Z5l)
theorem Z16i(w:World)(v:Value)(l:List Rst)(hv:Zte w v l)(hl:l.length<1000000000):Calls Tryz.prog 32 #[sc1 v] w λe w'=>∃v',e=.returned (sc1 v')/\Zof w' v' l/\(∀k,Z2 v' k->w.heap.size<=k)/\Mod [] w w':=by
 refine Z1 (Z3 (J:=[.v v,.r (l.map Z5l)]) sxE_ok Tryz.func32 Z36 rfl rfl (Rel.start2 (by simp[Ent.holds,Ent.wr,hv,X.ev])) rfl rfl ?_) rfl;simp only[QQ,Nat.reduceAdd,qy3,List.nil_append];refine⟨λh w' hr=>?_,λh v1=>⟨by simp only[Int.natCast_zero];omega,λv2 w' hr=>?_⟩⟩
 ·have hn:l=[]:=List.map_eq_nil_iff.1 (Zig h hv);subst hn;refine⟨_,rfl,hr.at_ 0 rfl,λk hk=>?_,hr.mod⟩;rcases hr.own _ (qy8 ..) rfl k hk with h|h
  ·exact h
  ·simp at h
 ·refine⟨v2,rfl,hr.at_ 0 rfl,λk hk=>?_,hr.mod⟩;rcases hr.own _ (qy8 ..) rfl k hk with h|h
  ·exact h
  ·simp at h
theorem Z16j(w:World)(s v:Value)(l:List Rst)(x:Rst)(i:Nat)(hs:Zof w s l)(hv:Zof w v [x])(hne:∀k,Z2 s k->Z2 v k->False)(hi:i<=l.length)(hl:l.length<1000000000) : Calls Tryz.prog 164 #[sc1 s,.int .i64 i,sc1 v] w λe w'=>∃v',e=.returned (sc1 v')/\Zof w' v' (l.take i++[x]++l.drop i)/\(∀k,Z2 v' k->Z2 s k\/w.heap.size<=k)/\Mod s.ownBlock.toList w w':=by rw[hs.reads.sc1,hv.reads.sc1];refine(Z129 w s v i _ _ hs hv hne (by simpa using hi) (by simp;omega)).mono ?_;rintro e w' ⟨v',rfl,g1,g2,g3⟩;refine⟨v',by rw[g1.reads.sc1],?_,g2,Mod.of_grown g3 λk hk=>.inl (Option.mem_toList.2 hk)⟩;rw[Zof,List.map_append,List.map_append,List.map_take,List.map_drop];exact g1
theorem Z16k(w:World)(s:Value)(l:List Rst)(i:Nat)(hs:Zof w s l)(hi:i<l.length) : Calls Tryz.prog 158 #[sc1 s,.int .i64 i,.int .i64 ((i:Int)+1)] w λe w'=>∃v',e=.returned (sc1 v')/\Zof w' v' (l.take i++l.drop (i+1))/\(∀k,Z2 v' k->Z2 s k\/w.heap.size<=k)/\Mod s.ownBlock.toList w w':=by rw[hs.reads.sc1];have hc:=Z12a w s i (i+1) _ hs (by omega) (by rw[qy3];omega);rw[show((i+1:Nat):Int)=(i:Int)+1 by omega]at hc;refine hc.mono ?_;rintro e w' ⟨v',rfl,g1,g2,g3⟩;refine⟨v',by rw[g1.reads.sc1],?_,g2,Mod.of_grown g3 λk hk=>.inl (Option.mem_toList.2 hk)⟩;rw[Zof,List.map_append,List.map_take,List.map_drop];exact g1
abbrev AllX:=List SntX×Value
abbrev alD:AllX:=([],.slice none 0 0)
def Zog(t:AllX):List Value:=[sc1 t.2]
abbrev kAl:List Kd:=[.oth]
def allT(t:AllX):List (Value×List Kd×List (List Value)):=(t.2,kSn,t.1.map Z1r)::nest [] t.1
def allA(L:List AllX):Asrt:=rdsZ (L.flatMap allT)
theorem Z1bf{L:List AllX}{w:World}(h:(allA L).holds w){t:AllX}(ht:t∈L):reads w t.2 kSn (t.1.map Z1r)/\(Z6 [] t.1).holds w :=
 ⟨h (t.2,kSn,t.1.map Z1r) (List.mem_flatMap.2 ⟨t,ht,qy8 ..⟩),λx hx=>h x (List.mem_flatMap.2 ⟨t,ht,qy10 _ hx⟩)⟩
theorem Ztv(w:World):(allA []).holds w:=λt ht=>by cases ht
theorem Zh9(k:Nat):¬(allA []).fp k:=λ⟨t,ht,_⟩=>by cases ht
theorem Z12c{L:List AllX}{t:AllX}{w:World}(h:(allA L).holds w)(h1:reads w t.2 kSn (t.1.map Z1r))(h2:(Z6 [] t.1).holds w):(allA (L++[t])).holds w:=by
 intro x hx;rw[List.flatMap_append,qy13]at hx;rcases hx with hx|hx
 ·exact h x hx
 ·simp only[List.flatMap_cons,List.flatMap_nil,List.append_nil,allT,List.mem_cons]at hx;rcases hx with rfl|hx
  ·exact h1
  ·exact h2 x hx
theorem Z12d{L:List AllX}{t:AllX}{k:Nat}(h:(allA (L++[t])).fp k):(allA L).fp k\/((t.1.map Z1r).flatten≠[]/\Z2 t.2 k)\/(Z6 [] t.1).fp k:=by
 obtain⟨x,hx,hk⟩:=h;rw[List.flatMap_append,qy13]at hx;rcases hx with hx|hx
 ·exact .inl ⟨x,hx,hk⟩
 ·simp only[List.flatMap_cons,List.flatMap_nil,List.append_nil,allT,List.mem_cons]at hx;rcases hx with rfl|hx
  ·exact .inr (.inl hk)
  ·exact .inr (.inr ⟨x,hx,hk⟩)
theorem Z1fk{l:List AllX}{i:Nat}(h:i<l.length):(l.map Zog).getD i []=Zog (l.getD i alD):=by rw[qy1,qy1,List.getElem?_map,qy7 h];rfl
theorem Z1fl{l:List AllX}{i:Nat}(h:i<l.length):l.getD i alD∈l:=by rw[qy1,qy7 h];exact List.getElem_mem h
theorem Z12e{l:List SesX}{a b:List SntX}{k:Nat}(h:(Z6 l (a++b)).fp k):(Z6 l a).fp k\/(Z6 [] b).fp k:=by
 rcases Zc.1 h with h|⟨t,ht,hk⟩
 ·exact .inl (Zc.2 (.inl h))
 ·rcases qy13.1 ht with ht|ht
  ·exact .inl (Zc.2 (.inr ⟨t,ht,hk⟩))
  ·exact .inr (Zc.2 (.inr ⟨t,ht,hk⟩))
end Go.Proofs.Y
namespace Go.Proofs.Y
open Go.Sx
theorem Z16l{a b:List UInt8}{i:Nat}(h:a.take i=b.take i)(hi:i<a.length)(hj:i<b.length)(hne:¬a.getD i 0=b.getD i 0):Za a b=decide (a.getD i 0<b.getD i 0):=by
 induction i generalizing a b with
 | zero =>
  match a,b,hi,hj with
  | x::a,y::b,_,_ =>
   simp only[List.getD_cons_zero]at hne;simp[Za,Op.bytesLess,hne]
 | succ i ih =>
  match a,b,hi,hj with
  | x::a,y::b,hi,hj =>
   simp only[List.take_succ_cons,List.cons.injEq]at h;obtain⟨rfl,h⟩:=h;simp only[List.getD_cons_succ]at hne⊢;have:=ih h (by simpa using hi) (by simpa using hj) hne
   show(decide (x<x) || (x == x && Za a b))=_
   rw[this];simp[UInt8.lt_irrefl]
theorem Z12f{a b:List UInt8}{i:Nat}(h:a.take i=b.take i)(hi:i<=a.length)(hj:i<=b.length)(he:i=a.length\/i=b.length):Za a b=decide (a.length<b.length):=by
 induction i generalizing a b with
 | zero =>
  match a,b with
  | [],[]=>rfl
  | [],_::_=>rfl
  | _::_,[]=>simp[Zbg]
  | _::_,_::_=>simp at he
 | succ i ih =>
  match a,b,hi,hj with
  | x::a,y::b,hi,hj =>
   simp only[List.take_succ_cons,List.cons.injEq]at h;obtain⟨rfl,h⟩:=h;have:=ih h (by simpa using hi) (by simpa using hj) (by simpa using he);simp[Za,Op.bytesLess,UInt8.lt_irrefl];simpa using this
theorem Z1bg{a b:List UInt8}{i:Nat}(h:a.take i=b.take i)(hi:i<a.length)(hj:i<b.length)(he:a.getD i 0=b.getD i 0):a.take (i+1)=b.take (i+1):=by rw[List.take_add_one,List.take_add_one,h];simp only[qy1,qy7 hi,qy7 hj,Option.getD_some]at he;rw[qy7 hi,qy7 hj,he]
theorem Z42(w:World)(a b:List UInt8)(ha:a.length<1099511627776):Calls Tryz.prog 43 #[.string ⟨a.toArray⟩,.string ⟨b.toArray⟩] w λe w'=>e=.returned (.bool (Za a b))/\Mod [] w w':=by
 refine Z1 (Z7 (J:=[.s a,.s b]) sxE_ok Tryz.func43 Z2r rfl rfl rfl ?_) rfl;simp only[QQ,Nat.reduceAdd];refine⟨λvs=>∃(i:Nat) (x:V),vs=[x,.i i]/\i<=a.length/\i<=b.length/\a.take i=b.take i,λvs=>a.length - (vs.getD 1 (.i 0)).toI.toNat,⟨0,_,rfl,by omega,by omega,rfl⟩,?_⟩;rintro _ - ⟨i,x,rfl,hi,hj,ht⟩;simp only[QQ,Nat.reduceAdd,qy4];refine⟨λh1=>⟨by omega,λh2 w' hr=>⟨?_,hr.mod⟩,λh2=>⟨by omega,by omega,⟨i+1,x,rfl,by omega,by omega,Z1bg ht (by omega) (by omega) ?_⟩,by omega⟩⟩,λh1 w' hr=>⟨?_,hr.mod⟩⟩
 ·rw[Z16l ht (by omega) (by omega) (λe=>h2 (by rw[e]))];simp[UInt8.lt_iff_toNat_lt]
 ·have h3:=qy9.1 h2;exact UInt8.toNat_inj.1 (by exact_mod_cast h3)
 ·rw[Z12f ht hi hj (by omega)];simp
theorem Zoh(w:World)(s:List UInt8)(hs:s.length<1099511627776):Calls Tryz.prog 90 #[.string ⟨s.toArray⟩] w λe w'=>e=.returned (.bool (cliB s))/\Mod [] w w':=by refine Z1 (Z7 (J:=[.s s]) sxE_ok Tryz.func90 Z2s rfl rfl rfl ?_) rfl;simp only[QQ,Nat.reduceAdd];refine⟨[.b (Z25 s)],rfl,λ_ w' _=>Zfr w' s hs,?_⟩;simp only[QQ,Nat.reduceAdd];exact λw' hr=>⟨by simp[cliB],hr.mod⟩
open Go
theorem Zwc(w:World)(x:Wt)(hs:smW x):Calls Tryz.prog 88 #[.string ⟨x.1.toArray⟩,.agg #[.string ⟨x.2.1.toArray⟩,.int .i64 x.2.2]] w λe w'=>e=.returned (.int .i64 (Z38 x))/\Mod [] w w':=by
 have h1:=hs.1;have h2:=hs.2;refine Z1 (Z7 (J:=[.s x.1,.s x.2.1,.i x.2.2]) sxE_ok Tryz.func88 Z61 rfl rfl rfl ?_) rfl;simp only[QQ,Nat.reduceAdd];intro b1;refine⟨[.b (cliB x.1)],rfl,λ_ w' _=>Zoh w' _ (by omega),?_⟩;simp only[QQ,Nat.reduceAdd];refine⟨λh w' hr=>⟨by rw[Z38,if_neg h],hr.mod⟩,λh=>?_⟩;have h:=qy9.1 h;refine⟨[.i (chkT x.2.1 true)],rfl,λ_ w' _=>Z5q w' _ true (by omega),?_⟩;simp only[QQ,Nat.reduceAdd];have e:Z38 x=askE (x.2.1,x.2.2):=by rw[Z38,if_pos h]
 refine⟨λh3=>⟨λh4 w' hr=>⟨?_,hr.mod⟩,λh4 w' hr=>⟨?_,hr.mod⟩⟩,λh3 w' hr=>⟨?_,hr.mod⟩⟩
 ·rw[e,askE];simp only;rw[if_pos h3,if_neg h4]
 ·rw[e,askE];simp only;rw[if_pos h3,if_pos (qy9.1 h4),h3]
 ·rw[e,askE];simp only;rw[if_neg h3]
theorem Zwd(w:World)(a b:Wt)(ha:smW a):Calls Tryz.prog 89 #[wV a,wV b] w λe w'=>e=.returned (.bool (ltP (ky a) (ky b)))/\Mod [] w w':=by
 have h1:=ha.1;have h2:=ha.2;refine Z1 (Z7 (J:=[.s a.1,.s a.2.1,.i a.2.2,.s b.1,.s b.2.1,.i b.2.2]) sxE_ok Tryz.func89 Z62 rfl rfl rfl ?_) rfl;simp only[QQ,Nat.reduceAdd];intro b1 b2;refine⟨λh=>?_,λh=>?_⟩
 ·refine⟨[.b (Za a.1 b.1)],rfl,λ_ w' _=>Z42 w' _ _ (by omega),?_⟩;simp only[QQ,Nat.reduceAdd];refine λw' hr=>⟨?_,hr.mod⟩
  simp[ltP,ky,h]
 ·have h:=qy9.1 h;refine⟨[.b (Za a.2.1 b.2.1)],rfl,λ_ w' _=>Z42 w' _ _ (by omega),?_⟩;simp only[QQ,Nat.reduceAdd];refine λw' hr=>⟨?_,hr.mod⟩
  simp[ltP,ky,h,Z14]
theorem Zoi(w:World)(v:Value)(l:List Wt)(hv:Z2g w v l)(hs:Z30 l)(hl:l.length<1000000000):Calls Tryz.prog 41 #[sc1 v] w λe w'=>e=.returned (.int .i64 (Zi l))/\Mod [] w w':=by
 refine Z1 (Z3 (J:=[.v v,.r (l.map Zb)]) sxE_ok Tryz.func41 Z4z rfl rfl (Rel.start2 (by simp[Ent.holds,Ent.wr,hv,X.ev])) rfl rfl ?_) rfl;simp only[QQ,Nat.reduceAdd,qy3,qy4,Z23,Z2f,Z45,gY0,gY1];refine⟨λh w' hr=>⟨by rw[Zi,if_pos h],hr.mod⟩,λh=>?_⟩;rw[Zi,if_neg h];refine⟨λvs=>∃(i:Nat) (x:V),vs=[x,.i i]/\i<=l.length/\Ze4 (Zvb l i) (l.drop i)=Ze4 none l,λvs=>l.length - (vs.getD 1 (.i 0)).toI.toNat,⟨0,_,rfl,by omega,rfl⟩,?_⟩;rintro _ - ⟨i,x,rfl,hi,hg⟩;simp only[QQ,Nat.reduceAdd,qy3,qy4,Z23,Z2f,Z45,gY0,gY1];have hi1:((i:Int) - 1).toNat=i - 1:=by omega
 try rw[hi1]
 refine⟨λh1=>⟨by omega,?_⟩,λh1 w' hr=>⟨?_,hr.mod⟩⟩
 ·rw[Ziv (by omega)]at hg;refine⟨[.i (Z38 (l.getD i wD_V))],rfl,λ_ w' _=>Zwc w' _ (Za0 hs i),?_⟩;simp only[QQ,Nat.reduceAdd,qy3,qy4,Z23,Z2f,Z45,gY0,gY1];try rw[hi1]
  refine⟨λh2 w' hr=>⟨?_,hr.mod⟩,λh2=>⟨by omega,by omega,by omega,by omega,?_⟩⟩
  ·rw[if_pos h2]at hg;rw[<- hg]
  ·rw[if_neg h2]at hg;refine⟨[.b (ltP (ky (l.getD (i - 1) wD_V)) (ky (l.getD i wD_V)))],rfl,λ_ w' _=>Zwd w' (l.getD (i - 1) wD_V) (l.getD i wD_V) (Za0 hs (i - 1)),?_⟩;simp only[QQ,Nat.reduceAdd];simp only[Zyw]at hg;refine⟨λh6 w' hr=>⟨?_,hr.mod⟩,λh6=>⟨by omega,by omega,⟨i+1,x,rfl,by omega,?_⟩,by omega⟩⟩
   ·rw[if_pos ⟨h6.1,by simpa using h6.2⟩]at hg;rw[<- hg]
   ·rw[if_neg (λh7=>h6 ⟨h7.1,by simpa using h7.2⟩)]at hg;exact hg
 ·have:i=l.length:=by omega
  subst this;rw[List.drop_length]at hg;rw[<- hg];rfl
theorem Zqn(w:World)(u v:Value)(a b:List Wt)(hu:Z2g w u a)(hv:Z2g w v b)(hl:a.length<1000000000):Calls Tryz.prog 37 #[sc1 u,sc1 v] w λe w'=>e=.returned (.bool (decide (a=b)))/\Mod [] w w':=by
 refine Z1 (Z3 (J:=[.v u,.r (a.map Zb),.v v,.r (b.map Zb)]) sxE_ok Tryz.func37 Z5d rfl rfl (Rel.start2 (by simp[Ent.holds,Ent.wr,hu,hv,X.ev])) rfl rfl ?_) rfl;simp only[QQ,Nat.reduceAdd,qy3,qy4,Z23,Z2f,Z45,gY0,gY1];refine⟨λh w' hr=>⟨?_,hr.mod⟩,λh=>?_⟩
 ·rw[decide_eq_false];rintro rfl;exact h rfl
 have h:a.length=b.length:=by omega
 refine⟨λvs=>∃(i:Nat) (x:V),vs=[x,.i i]/\i<=a.length/\∀j,j<i->a.getD j wD_V=b.getD j wD_V,λvs=>a.length - (vs.getD 1 (.i 0)).toI.toNat,⟨0,_,rfl,by omega,λj hj=>by omega⟩,?_⟩;rintro _ - ⟨i,x,rfl,hi,hs⟩;simp only[QQ,Nat.reduceAdd,qy3,qy4,Z23,Z2f,Z45,gY0,gY1];refine⟨λh1=>⟨by omega,by omega,λh2 w' hr=>⟨?_,hr.mod⟩,λh2=>⟨by omega,by omega,⟨i+1,x,rfl,by omega,λj hj=>?_⟩,by omega⟩⟩,λh1 w' hr=>⟨?_,hr.mod⟩⟩
 ·rw[decide_eq_false];rintro rfl;rcases h2 with h2|h2
  ·exact h2 rfl
  ·exact h2 ⟨rfl,rfl⟩
 ·by_cases hji:j=i
  ·subst hji;have h3:=qy9.1 λh3=>h2 (.inl h3);have h4:=qy9.1 λh3=>h2 (.inr h3);exact Prod.ext h3 (Prod.ext h4.1 h4.2)
  ·exact hs j (by omega)
 ·rw[decide_eq_true];refine List.ext_getElem h λj hj1 hj2=>?_;have:=hs j (by omega);rwa [qy1,qy1,qy7 hj1,qy7 hj2]at this
