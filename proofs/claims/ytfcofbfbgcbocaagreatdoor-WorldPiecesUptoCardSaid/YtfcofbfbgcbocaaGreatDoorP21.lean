/- By an AI agent. -/
import Derived.Test.YtfcofbfbgcbocaaGreatDoorP19
import Derived.Test.YtfcofbfbgcbocaaGreatDoorP20
set_option linter.all false
set_option maxHeartbeats 20000000
namespace Go.Proofs.Y
open Go Go.Sx
theorem Z1ao(w:World)(v:Value)(l:List Rst)(hv:Zsh w v l)(hs:∀r∈l,r.1.length<1099511627776)(hl:l.length<1000000000) : Calls Tryz.prog 29 #[sc1 v] w λe w'=>e=.returned (.int .i64 (chkR l))/\Mod [] w w':=by
 refine Z2 (Z3 (J:=[.v v,.r (l.map Z5q)]) sxE_ok Tryz.func29 Zdc rfl rfl (Rel.start2 (by simp[Ent.holds,Ent.wr,hv,X.ev])) rfl rfl ?_) rfl;simp only[QQ,Nat.reduceAdd,qy3,qy4,gR0,gR1];refine⟨λvs=>∃(i:Nat) (x:V),vs=[x,.i i]/\i<=l.length/\Zkd (prvR l i) (l.drop i)=chkR l,λvs=>l.length - (vs.getD 1 (.i 0)).toI.toNat,⟨0,_,rfl,by omega,rfl⟩,?_⟩;rintro _ - ⟨i,x,rfl,hi,hg⟩;simp only[QQ,Nat.reduceAdd,qy3,qy4,gR0,gR1];have hi1:((i:Int) - 1).toNat=i - 1:=by omega
 try rw[hi1]
 refine⟨λh1=>⟨by omega,λb=>?_⟩,λh1 w' hr=>⟨?_,hr.mod⟩⟩
 ·have hi':i<l.length:=by omega
  rw[Zv5 hi']at hg;refine⟨[.b (Zd (l.getD i rstD).1)],rfl,λ_ w' hr=>Zan w' _ (hs _ (memR hi')),?_⟩;simp only[QQ,Nat.reduceAdd,qy3,qy4,gR0,gR1];try rw[hi1]
  refine⟨λh2 w' hr=>⟨?_,hr.mod⟩,λh2=>⟨λh3 w' hr=>⟨?_,hr.mod⟩,λh3=>⟨by omega,by omega,by omega,by omega,λh6 w' hr=>⟨?_,hr.mod⟩,λh6=>⟨by omega,by omega,⟨i+1,x,rfl,by omega,?_⟩,by omega⟩⟩⟩⟩
  ·rw[if_pos h2]at hg;rw[<- hg]
  ·rw[if_neg h2,if_pos h3]at hg;rw[<- hg]
  ·rw[if_neg h2,if_neg h3,if_pos h6]at hg;rw[<- hg]
  ·rw[if_neg h2,if_neg h3,if_neg h6]at hg;exact hg
 ·have:i=l.length:=by omega
  subst this;rw[List.drop_length]at hg;rw[<- hg];rfl
theorem Z11i(w:World)(e:Evt)(hc:e.client.length<1099511627776) : Calls Tryz.prog 30 #[.agg #[.string ⟨e.client.toArray⟩,.int .i64 e.peer,.string ⟨e.bytes.toArray⟩]] w λr w'=>r=.returned (.int .i64 (Z37 e))/\Mod [] w w':=by refine Z2 (Z7 (J:=[.s e.client,.i e.peer,.s e.bytes]) sxE_ok Tryz.func30 Zdd rfl rfl rfl ?_) rfl;simp only[QQ,Nat.reduceAdd];intro b;refine⟨[.b (Zd e.client)],rfl,λ_ w' hr=>Zan w' _ hc,?_⟩;simp only[QQ,Nat.reduceAdd];unfold Z37;refine⟨λh w' hr=>⟨by rw[if_pos h],hr.mod⟩,λh=>?_⟩;rw[if_neg h];refine⟨λh0=>⟨λh2 w' hr=>⟨by rw[if_pos];exact h2.imp (λa=>⟨h0,a⟩) id,hr.mod⟩,λh2 w' hr=>⟨by rw[if_neg];exact λa=>h2 (a.imp (λa=>a.2) id),hr.mod⟩⟩,λh0=>⟨λh2 w' hr=>⟨by rw[if_pos];exact .inr h2,hr.mod⟩,λh2 w' hr=>⟨by rw[if_neg];exact λa=>a.elim (λa=>h0 a.1) h2,hr.mod⟩⟩⟩
abbrev Znj(w:World)(v:Value)(l:List Rst):Prop:=owns w v 80 kR (l.map Z5q)
theorem Z15o(w:World)(v:Value)(l:List Rst)(hv:Zsh w v l)(hl:l.length<1000000000):Calls Tryz.prog 32 #[sc1 v] w λe w'=>∃v',e=.returned (sc1 v')/\Znj w' v' l/\(∀k,Z1 v' k->w.heap.size<=k)/\Mod [] w w':=by
 refine Z2 (Z3 (J:=[.v v,.r (l.map Z5q)]) sxE_ok Tryz.func32 Z33 rfl rfl (Rel.start2 (by simp[Ent.holds,Ent.wr,hv,X.ev])) rfl rfl ?_) rfl;simp only[QQ,Nat.reduceAdd,qy3,List.nil_append];refine⟨λh w' hr=>?_,λh v1=>⟨by simp only[Int.natCast_zero];omega,λv2 w' hr=>?_⟩⟩
 ·have hn:l=[]:=List.map_eq_nil_iff.1 (Zhl h hv);subst hn;refine⟨_,rfl,hr.at_ 0 rfl,λk hk=>?_,hr.mod⟩;rcases hr.own _ (qy8 ..) rfl k hk with h|h
  ·exact h
  ·simp at h
 ·refine⟨v2,rfl,hr.at_ 0 rfl,λk hk=>?_,hr.mod⟩;rcases hr.own _ (qy8 ..) rfl k hk with h|h
  ·exact h
  ·simp at h
theorem Z15p(w:World)(s v:Value)(l:List Rst)(x:Rst)(i:Nat)(hs:Znj w s l)(hv:Znj w v [x])(hne:∀k,Z1 s k->Z1 v k->False)(hi:i<=l.length)(hl:l.length<1000000000) : Calls Tryz.prog 164 #[sc1 s,.int .i64 i,sc1 v] w λe w'=>∃v',e=.returned (sc1 v')/\Znj w' v' (l.take i++[x]++l.drop i)/\(∀k,Z1 v' k->Z1 s k\/w.heap.size<=k)/\Mod s.ownBlock.toList w w':=by rw[hs.reads.sc1,hv.reads.sc1];refine(Z11g w s v i _ _ hs hv hne (by simpa using hi) (by simp;omega)).mono ?_;rintro e w' ⟨v',rfl,g1,g2,g3⟩;refine⟨v',by rw[g1.reads.sc1],?_,g2,Mod.of_grown g3 λk hk=>.inl (Option.mem_toList.2 hk)⟩;rw[Znj,List.map_append,List.map_append,List.map_take,List.map_drop];exact g1
theorem Z15q(w:World)(s:Value)(l:List Rst)(i:Nat)(hs:Znj w s l)(hi:i<l.length) : Calls Tryz.prog 158 #[sc1 s,.int .i64 i,.int .i64 ((i:Int)+1)] w λe w'=>∃v',e=.returned (sc1 v')/\Znj w' v' (l.take i++l.drop (i+1))/\(∀k,Z1 v' k->Z1 s k\/w.heap.size<=k)/\Mod s.ownBlock.toList w w':=by rw[hs.reads.sc1];have hc:=Z11h w s i (i+1) _ hs (by omega) (by rw[qy3];omega);rw[show((i+1:Nat):Int)=(i:Int)+1 by omega]at hc;refine hc.mono ?_;rintro e w' ⟨v',rfl,g1,g2,g3⟩;refine⟨v',by rw[g1.reads.sc1],?_,g2,Mod.of_grown g3 λk hk=>.inl (Option.mem_toList.2 hk)⟩;rw[Znj,List.map_append,List.map_take,List.map_drop];exact g1
abbrev AllX:=List SntX×Value
abbrev alD:AllX:=([],.slice none 0 0)
def Zh4(t:AllX):List Value:=[sc1 t.2]
abbrev kAl:List Kd:=[.oth]
def allT(t:AllX):List (Value×List Kd×List (List Value)):=(t.2,kSn,t.1.map Z1f)::nest [] t.1
def allA(L:List AllX):Asrt:=rdsZ (L.flatMap allT)
theorem Zga{L:List AllX}{w:World}(h:(allA L).holds w){t:AllX}(ht:t∈L):reads w t.2 kSn (t.1.map Z1f)/\(Z6 [] t.1).holds w :=
 ⟨h (t.2,kSn,t.1.map Z1f) (List.mem_flatMap.2 ⟨t,ht,qy8 ..⟩),λx hx=>h x (List.mem_flatMap.2 ⟨t,ht,qy10 _ hx⟩)⟩
theorem Zt0(w:World):(allA []).holds w:=λt ht=>by cases ht
theorem Zgb(k:Nat):¬(allA []).fp k:=λ⟨t,ht,_⟩=>by cases ht
theorem Z11j{L:List AllX}{t:AllX}{w:World}(h:(allA L).holds w)(h1:reads w t.2 kSn (t.1.map Z1f))(h2:(Z6 [] t.1).holds w):(allA (L++[t])).holds w:=by
 intro x hx;rw[List.flatMap_append,qy13]at hx;rcases hx with hx|hx
 ·exact h x hx
 ·simp only[List.flatMap_cons,List.flatMap_nil,List.append_nil,allT,List.mem_cons]at hx;rcases hx with rfl|hx
  ·exact h1
  ·exact h2 x hx
theorem Z11k{L:List AllX}{t:AllX}{k:Nat}(h:(allA (L++[t])).fp k):(allA L).fp k\/((t.1.map Z1f).flatten≠[]/\Z1 t.2 k)\/(Z6 [] t.1).fp k:=by
 obtain⟨x,hx,hk⟩:=h;rw[List.flatMap_append,qy13]at hx;rcases hx with hx|hx
 ·exact .inl ⟨x,hx,hk⟩
 ·simp only[List.flatMap_cons,List.flatMap_nil,List.append_nil,allT,List.mem_cons]at hx;rcases hx with rfl|hx
  ·exact .inr (.inl hk)
  ·exact .inr (.inr ⟨x,hx,hk⟩)
theorem Z1ap{l:List AllX}{i:Nat}(h:i<l.length):(l.map Zh4).getD i []=Zh4 (l.getD i alD):=by rw[qy1,qy1,List.getElem?_map,qy7 h];rfl
theorem Z1aq{l:List AllX}{i:Nat}(h:i<l.length):l.getD i alD∈l:=by rw[qy1,qy7 h];exact List.getElem_mem h
theorem Z15r{l:List SesX}{a b:List SntX}{w:World}(h1:(Z6 l a).holds w)(h2:(Z6 [] b).holds w):(Z6 l (a++b)).holds w :=
 Zz (λt ht=>.inl ht) (λt ht=>(qy13.1 ht).imp id λh=>Z5g h2 h) h1
theorem Z11l{l:List SesX}{a b:List SntX}{k:Nat}(h:(Z6 l (a++b)).fp k):(Z6 l a).fp k\/(Z6 [] b).fp k:=by
 rcases Zb.1 h with h|⟨t,ht,hk⟩
 ·exact .inl (Zb.2 (.inl h))
 ·rcases qy13.1 ht with ht|ht
  ·exact .inl (Zb.2 (.inr ⟨t,ht,hk⟩))
  ·exact .inr (Zb.2 (.inr ⟨t,ht,hk⟩))
end Go.Proofs.Y
namespace Go.Proofs.Y
open Go.Sx
end Go.Proofs.Y
namespace Go.Proofs.Y
open Go.Sx
open Go
theorem Zpp(w:World)(u v:Value)(a b:List Wt)(hu:Z2x w u a)(hv:Z2x w v b)(hl:a.length<1000000000):Calls Tryz.prog 37 #[sc1 u,sc1 v] w λe w'=>e=.returned (.bool (decide (a=b)))/\Mod [] w w':=by
 refine Z2 (Z3 (J:=[.v u,.r (a.map Za),.v v,.r (b.map Za)]) sxE_ok Tryz.func37 Z52 rfl rfl (Rel.start2 (by simp[Ent.holds,Ent.wr,hu,hv,X.ev])) rfl rfl ?_) rfl;simp only[QQ,Nat.reduceAdd,qy3,qy4,Z35,Z36,Z53,gY0,gY1];refine⟨λh w' hr=>⟨?_,hr.mod⟩,λh=>?_⟩
 ·rw[decide_eq_false];rintro rfl;exact h rfl
 have h:a.length=b.length:=by omega
 refine⟨λvs=>∃(i:Nat) (x:V),vs=[x,.i i]/\i<=a.length/\∀j,j<i->a.getD j wD_V=b.getD j wD_V,λvs=>a.length - (vs.getD 1 (.i 0)).toI.toNat,⟨0,_,rfl,by omega,λj hj=>by omega⟩,?_⟩;rintro _ - ⟨i,x,rfl,hi,hs⟩;simp only[QQ,Nat.reduceAdd,qy3,qy4,Z35,Z36,Z53,gY0,gY1];refine⟨λh1=>⟨by omega,by omega,λh2 w' hr=>⟨?_,hr.mod⟩,λh2=>⟨by omega,by omega,⟨i+1,x,rfl,by omega,λj hj=>?_⟩,by omega⟩⟩,λh1 w' hr=>⟨?_,hr.mod⟩⟩
 ·rw[decide_eq_false];rintro rfl;rcases h2 with h2|h2
  ·exact h2 rfl
  ·exact h2 ⟨rfl,rfl⟩
 ·by_cases hji:j=i
  ·subst hji;have h3:=qy9.1 λh3=>h2 (.inl h3);have h4:=qy9.1 λh3=>h2 (.inr h3);exact Prod.ext h3 (Prod.ext h4.1 h4.2)
  ·exact hs j (by omega)
 ·rw[decide_eq_true];refine List.ext_getElem h λj hj1 hj2=>?_;have:=hs j (by omega);rwa [qy1,qy1,qy7 hj1,qy7 hj2]at this
