/-
  A small verified symbolic executor (part M: loops are sound; code is sound). By an AI agent.
-/
import Derived.Test.YtimapehenhbloaaGreatDoorH05
set_option linter.all false
set_option maxHeartbeats 20000000
set_option maxRecDepth 100000
open Bool renaming and_eq_true→ϐ,true→ϗ,or_eq_true→Ϟ
open List renaming prefix_rfl→ϑ,prefix_append→ϒ,getElem?_append_right→ϔ,replicate→ϕ,getElem?_append_left→ϖ,all_eq_true→Ϙ,mem_cons→Ϛ,getElem?_map→Ϝ
open Go renaming World→ϓ
open Option renaming some→ϙ,none→Ϡ,some→Ϣ
namespace Go.Sx
open Go
variable {C:Cx} {E:Env}
section fit
variable {n0:Nat} {xs:List X} {J Jc:List V} {w:ϓ}
def Z4f(J Jc:List V)(xs:List X):List V:=J++xs.map (X.ev Jc)
def Zwe{f:Nat}{x:X}(hl:J.length=n0)(h:atX n0 xs f=ϙ x):(Z4f J Jc xs).getD f (.i 0)=x.ev Jc:=by unfold atX at h;simp only[Option.ite_none_right_eq_some]at h;obtain⟨h1,h2⟩:=h;subst hl;simp[Z4f,ϔ h1,h2]
def Z5g(hl:J.length=n0)(ha:Z18 n0 J Jc):Z18 n0 (Z4f J Jc xs) Jc:=by subst hl;exact(Z18.app J _).symm.trans ha
def Z3r(hl:J.length=n0)(ha:Z18 n0 J Jc){h c:X}(hf:fitX n0 xs h c=ϗ):h.ev (Z4f J Jc xs)=c.ev Jc:=by
 unfold fitX at hf;simp only[Ϟ,ϐ,beq_iff_eq]at hf;rcases hf with⟨hb,rfl⟩|hf
 ·exact X.ev_bd (Z5g hl ha) h hb
 split at hf
 ·rename_i f;simp only[beq_iff_eq]at hf;exact Zwe hl hf
 cases hf
def Z188(hl:J.length=n0)(ha:Z18 n0 J Jc){h c:Sc}(hf:Z1dc n0 xs h c=ϗ):h.ev (Z4f J Jc xs)=c.ev Jc:=by
 unfold Z1dc at hf;split at hf
 ·simp only[ϐ,beq_iff_eq]at hf;obtain⟨rfl,hf⟩:=hf;simp only[Sc.ev,Z3r hl ha hf]
 ·simp only[Sc.ev,Z3r hl ha hf]
 ·simp only[Sc.ev,Z3r hl ha hf]
 ·simp only[Sc.ev,Z3r hl ha hf]
 ·simp only[Sc.ev,Z3r hl ha hf];rfl
 ·simp only[Sc.ev,Z3r hl ha hf];rfl
 ·simp only[Sc.ev,Z3r hl ha hf];rfl
 ·simp only[ϐ,beq_iff_eq]at hf;obtain⟨rfl,hf⟩:=hf;have:=Z3r hl ha hf;simp only[X.ev]at this;simp only[Sc.ev,this]
 simp only[ϐ,beq_iff_eq]at hf;obtain⟨hb,rfl⟩:=hf;exact Sc.ev_bd (Z5g hl ha) _ hb
def Zr0(hl:J.length=n0)(ha:Z18 n0 J Jc):∀{hs cs:List Sc},Zm7 n0 xs hs cs=ϗ->hs.map (Sc.ev (Z4f J Jc xs))=cs.map (Sc.ev Jc):=by
 intro hs;induction hs with
 | nil=>intro cs h;cases cs<;>simp[Zm7]at h;rfl
 | cons a hs ih =>
  intro cs h;cases cs<;>simp[Zm7]at h;simp[Z188 hl ha h.1,ih h.2]
def CV.ev_of_map{J J':List V}{g:Bool}{hs cs:List Sc}(h:hs.map (Sc.ev J)=cs.map (Sc.ev J')):CV.ev J (g,hs)=CV.ev J' (g,cs):=by
 cases g
 ·match hs,cs,h with
  | [],[],_=>rfl
  | [a],[b],h=>simpa[CV.ev]using h
  | _::_::_,_::_::_,_=>rfl
  | [],_::_,h=>simp at h
  | _::_,[],h=>simp at h
  | [_],_::_::_,h=>simp at h
  | _::_::_,[_],h=>simp at h
 simp[CV.ev,h]
def Z189(hl:J.length=n0)(ha:Z18 n0 J Jc){h c:SV}(hf:Zz9 n0 xs h c=ϗ){x:Value}(hr:c.rel Jc x):h.rel (Z4f J Jc xs) x:=by
 unfold Zz9 at hf;split at hf
 ·trivial
 ·simp only[ϐ,beq_iff_eq]at hf;obtain⟨rfl,hf⟩:=hf;exact(hr).trans (CV.ev_of_map (Zr0 hl ha hf)).symm
 simp only[ϐ,beq_iff_eq]at hf;obtain⟨hb,rfl⟩:=hf;exact SV.rel_bd (Z5g hl ha).symm _ hb x hr
def Z18a:∀{hs cs:List SV},Z122 n0 xs hs cs=ϗ->hs.length=cs.length/\∀j,Zz9 n0 xs (hs.getD j .dead) (cs.getD j .dead)=ϗ:=by
 intro hs;induction hs with
 | nil=>intro cs h;cases cs<;>simp[Z122]at h;exact⟨rfl,λj=>by simp[Zz9]⟩
 | cons a hs ih =>
  intro cs h;cases cs<;>simp[Z122]at h;obtain⟨h1,h2⟩:=ih h.2;refine⟨by simp[h1],λj=>?_⟩;cases j
  ·simpa using h.1
  simpa[qy1]using h2 _
def Z12c(hl:J.length=n0)(ha:Z18 n0 J Jc){h c:Ent}(hf:Zw8 n0 xs h c=ϗ): h.wr=c.wr/\(∀w,h.holds (Z4f J Jc xs) w↔c.holds Jc w)/\∀k,h.fp (Z4f J Jc xs) k↔c.fp Jc k:=by
 have hag:=Z5g (xs:=xs) hl ha;unfold Zw8 at hf;split at hf
 ·simp only[ϐ,beq_iff_eq]at hf;obtain⟨⟨hv,rfl⟩,hf⟩:=hf;have hv:=Z3r hl ha hv;simp only[X.ev]at hv;exact⟨rfl,λw=>by simp only[Ent.holds,hv,Zr0 hl ha hf],λk=>by simp only[Ent.fp,hv]⟩
 ·simp only[ϐ,beq_iff_eq]at hf;obtain⟨⟨⟨hv,rfl⟩,rfl⟩,hf⟩:=hf;have hv:=Z3r hl ha hv;simp only[X.ev]at hv;exact⟨rfl,λw=>by simp only[Ent.holds,hv,Z3r hl ha hf],λk=>by simp only[Ent.fp,hv]⟩
 ·simp only[ϐ,beq_iff_eq]at hf;obtain⟨⟨hv,rfl⟩,hf⟩:=hf;have hv:=Z3r hl ha hv;simp only[X.ev]at hv;exact⟨rfl,λw=>by simp only[Ent.holds,hv,Z3r hl ha hf],λk=>by simp only[Ent.fp,hv,Z3r hl ha hf]⟩
 ·simp only[Ϟ,ϐ,beq_iff_eq,ϡ]at hf;rcases hf with⟨hv,rfl⟩|hf
  ·exact⟨rfl,λw=>by simp only[Ent.holds,hag _ hv],λk=>by simp only[Ent.fp,hag _ hv]⟩
  have hv:=Zwe (Jc:=Jc) hl hf;simp only[X.ev]at hv;exact⟨rfl,λw=>by simp only[Ent.holds,hv],λk=>by simp only[Ent.fp,hv]⟩
 cases hf
def Zzd{p:Ent->Bool}:∀{cs cs':List Ent} {c:Ent},Ziu p cs=ϙ (c,cs')->p c=ϗ/\cs.Perm (c::cs'):=by
 intro cs;induction cs with
 | nil=>intro cs' c h;simp[Ziu]at h
 | cons x cs ih =>
  intro cs' c h;simp only[Ziu]at h;split at h
  ·rename_i hp;simp at h;obtain⟨rfl,rfl⟩:=h;exact⟨hp,List.Perm.refl _⟩
  split at h
  ·rename_i d ds hd;simp at h;obtain⟨rfl,rfl⟩:=h;obtain⟨h1,h2⟩:=ih hd;exact⟨h1,(h2.cons x).trans (List.Perm.swap _ _ _)⟩
  cases h
def Z12d(hl:J.length=n0)(ha:Z18 n0 J Jc){h:Ent}(hn:Z123 n0 xs h=ϗ):(∀w,h.holds (Z4f J Jc xs) w)/\∀k,¬h.fp (Z4f J Jc xs) k:=by
 unfold Z123 at hn;split at hn
 ·rename_i v ty ks r;simp only[ϐ]at hn;obtain⟨h1,h2⟩:=hn;split at h1
  ·rename_i hx;have e1:=Zwe (Jc:=Jc) hl hx;have e2:=Z3r hl ha h2;simp only[X.ev]at e1 e2;exact⟨λw=>(by simp only[Ent.holds,e1,e2,V.toV_v,V.toR_r];exact⟨O1,World.ownsRow_nil _ _ _ _⟩),λk hk=>by simp only[Ent.fp,e1,V.toV_v,Z1,Value.ownBlock]at hk;cases hk⟩
  cases h1
 ·rename_i v ks r;simp only[ϐ]at hn;obtain⟨h1,h2⟩:=hn;split at h1
  ·rename_i hx;have e1:=Zwe (Jc:=Jc) hl hx;have e2:=Z3r hl ha h2;simp only[X.ev]at e1 e2;exact⟨λw=>(by simp only[Ent.holds,e1,e2,V.toV_v,V.toR_r];exact⟨O1,Ϡ,0,rfl,⟨λ_=>rfl,Nat.le_refl _⟩,ϟ rfl⟩),λk hk=>by simp only[Ent.fp,e2,V.toR_r]at hk;exact hk.1 rfl⟩
  cases h1
 cases hn
def Z18b{B:Base}(hl:J.length=n0)(ha:Z18 n0 J Jc):∀{hs cs:List Ent},Zza n0 xs hs cs=ϗ->Rel B Jc cs w -> Rel B (Z4f J Jc xs) hs w/\∀h∈hs,(∃c∈cs,h.wr=c.wr/\∀k,h.fp (Z4f J Jc xs) k↔c.fp Jc k)\/∀k,¬h.fp (Z4f J Jc xs) k:=by
 intro hs;induction hs with
 | nil=>intro cs hf hr;exact⟨⟨hr.mod,λe he=>by simp at he,λe he=>by simp at he,List.Pairwise.nil⟩,λe he=>by simp at he⟩
 | cons h hs ih =>
  intro cs hf hr;simp only[Zza]at hf;split at hf
  ·rename_i c cs' hto;obtain⟨hfe,hperm⟩:=Zzd hto;have hr1:=hr.perm hperm;have hr':=hr1.sublist (List.sublist_cons_self c cs');obtain⟨h1,h2,h3⟩:=Z12c hl ha hfe;have hcm:=hperm.symm.subset (qy8 ..);split at hf
   case isFalse hcw =>
    obtain⟨i1,i2⟩:=ih hf hr;refine⟨i1.cons ((h2 w).2 (hr.holds c hcm)) (λhw=>ϟ (h1.symm.trans hw) hcw) (λe' he' hw k hk hk'=>?_),λe he=>?_⟩
    ·have hw':e'.wr=ϗ:=by
      rcases hw with hw|hw
      ·exact ϟ (h1.symm.trans hw) hcw
      exact hw
     rcases i2 e' he' with⟨c',hc',hcw',hf'⟩|hno
     ·refine hr.disj hcm hc' (λe=>?_) (.inr (hcw'.symm.trans hw')) ((h3 k).1 hk) ((hf' k).1 hk');subst e;exact hcw (hcw'.symm.trans hw')
     exact hno k hk'
    rcases Ϛ.1 he with rfl|he
    ·exact .inl ⟨c,hcm,h1,h3⟩
    exact i2 e he
   case isTrue hcw =>
   obtain⟨i1,i2⟩:=ih hf hr';have hsep:=hr1.sep;unfold Zt at hsep;rw[List.pairwise_cons]at hsep;refine⟨i1.cons ((h2 w).2 (hr1.holds c (qy8 ..))) (λhw k hk=>hr1.own c (qy8 ..) (by rw[<- h1];exact hw) k ((h3 k).1 hk)) (λe' he' hw k hk hk'=>?_),λe he=>?_⟩
   ·rcases i2 e' he' with⟨c',hc',hw',hf'⟩|hno
    ·exact hsep.1 c' hc' (by rw[<- h1,<- hw'];exact hw) k ((h3 k).1 hk) ((hf' k).1 hk')
    exact hno k hk'
   rcases Ϛ.1 he with rfl|he
   ·exact .inl ⟨c,hperm.symm.subset (qy8 ..),h1,h3⟩
   rcases i2 e he with⟨c',hc',r⟩|hno
   ·exact .inl ⟨c',hperm.symm.subset (qy10 _ hc'),r⟩
   exact .inr hno
  simp only[ϐ]at hf;obtain⟨hn,hf⟩:=hf;obtain⟨n1,n2⟩:=Z12d hl ha hn;obtain⟨i1,i2⟩:=ih hf hr;refine⟨i1.cons (n1 w) (λ_ k hk=>ϟ hk (n2 k)) (λ_ _ _ k hk _=>n2 k hk),λe he=>?_⟩;rcases Ϛ.1 he with rfl|he
  ·exact .inr n2
  exact i2 e he
def Zbi{J:List V}{a:Act}:∀(vs:List Nat) {cur:St},Inv C cur J a w->Inv C { cur with hp:=Zqu cur.hp vs } J a w
 | [],_,h=>h
 | v::vs,cur,h=>Zbi vs (cur:={ cur with hp:=Zag cur.hp v }) ⟨h.len,h.size,h.fr,h.bdf,Znz h.bdh,h.defers,Z5f h.rel⟩
variable{a:Act}
def Zr1{J:List V}{head cur:St}(h:Inv C cur J a w):Inv C (Zqv n0 xs head cur) J a w:=Zbi _ h
variable{c:Code}{st:St}
def Z12e{E:Env}{J:List V}(h:Inv C st J a w):Inv C (Ziw E c st) J a w:=by
 unfold Ziw;split
 ·split
  ·exact Zbi _ h
  split
  ·exact Zbi _ h
  exact h
 exact h
def Z18c(E:Env)(c:Code)(st:St):(Ziw E c st).d=st.d:=by
 unfold Ziw;split
 ·split
  ·rfl
  split<;>rfl
 rfl
def Zu0{head cur:St}(hl:J.length=n0)(ha:Z18 n0 J Jc)(hf:fits n0 xs head cur=ϗ)(hi:Inv C cur Jc a w):Inv C head (J++xs.map (X.ev Jc)) a w:=by unfold fits at hf;simp only[ϐ,beq_iff_eq]at hf;obtain⟨⟨⟨⟨⟨h1,h2⟩,h3⟩,h4⟩,h5⟩,h6⟩:=hf;obtain⟨f1,f2⟩:=Z18a h3;exact⟨by simp[hl,h1],by rw[f1];exact hi.size,λj=>Z189 hl ha (f2 j) (hi.fr j),Ϙ.1 h5,h6,hi.defers,(Z18b hl ha h4 hi.rel).1⟩
end fit
def Zix(P:Program)(c:Code)(Q:Exit->Act->ϓ->Prop)(a:Act)(w:ϓ):Prop :=
 ∀b k cs,∃e a' w',Q e a' w'/\Arrives P (lone (b.at a (.code c::.inLoop c::k)) cs w) b k cs e a' w'
variable{P:Program}{Q:Exit->Act->ϓ->Prop}{a:Act}{c:Code}
def Zfa{w:ϓ}(h:Zix P c Q a w):(Code.loop c).wp P Q a w:=by intro b k cs;obtain⟨e,a',w',hq,harr⟩:=h b k cs;exact⟨e,a',w',hq,.of_steps (.one step_loop) harr⟩
def Zgs{w:ϓ}(h:c.wp P (Exit.then (λa' w'=>Zix P c Q a' w') Q) a w):Zix P c Q a w:=by
 intro b k cs;obtain⟨e,a₁,w₁,hq,harr⟩:=h b (.inLoop c::k) cs;cases e with
 | normal =>
  obtain⟨e₂,a₂,w₂,hq₂,harr₂⟩:=(hq) b k cs;exact⟨e₂,a₂,w₂,hq₂,.of_steps (Steps.trans harr (.one step_inLoop)) harr₂⟩
 | exit id=>exact⟨_,a₁,w₁,hq,.pass rfl (λ_ _=>.inl O1) harr⟩
 | goto l=>exact⟨_,a₁,w₁,hq,.pass rfl (λ_ _=>.inl O1) harr⟩
 | ret=>exact⟨_,a₁,w₁,hq,.pass rfl (λ_ _=>.inl O1) harr⟩
 | panic ch=>exact⟨_,a₁,w₁,hq,.pass rfl (λ_ _=>.inl O1) harr⟩
 | outgrown=>exact⟨_,a₁,w₁,hq,.pass rfl (λ_ _=>.inl O1) harr⟩
def Z18d{w:ϓ}(I:Nat->Act->ϓ->Prop)(h₀:∃n,I n a w)(round:∀n a w,I n a w->c.wp P (Exit.then (λa' w'=>∃m,m<n/\I m a' w') Q) a w):Zix P c Q a w:=by
 obtain⟨n,hI⟩:=h₀;induction n using Nat.strongRecOn generalizing a w with
 | _ n ih =>
  intro b k cs;obtain⟨e,a₁,w₁,hq,harr⟩:=round n a w hI b (.inLoop c::k) cs;cases e with
  | normal =>
   obtain⟨m,hlt,hI₁⟩:=hq;obtain⟨e₂,a₂,w₂,hq₂,harr₂⟩:=ih m hlt hI₁ b k cs;exact⟨e₂,a₂,w₂,hq₂,.of_steps (Steps.trans harr (.one step_inLoop)) harr₂⟩
  | exit id=>exact⟨_,a₁,w₁,hq,.pass rfl (λ_ _=>.inl O1) harr⟩
  | goto l=>exact⟨_,a₁,w₁,hq,.pass rfl (λ_ _=>.inl O1) harr⟩
  | ret=>exact⟨_,a₁,w₁,hq,.pass rfl (λ_ _=>.inl O1) harr⟩
  | panic ch=>exact⟨_,a₁,w₁,hq,.pass rfl (λ_ _=>.inl O1) harr⟩
  | outgrown=>exact⟨_,a₁,w₁,hq,.pass rfl (λ_ _=>.inl O1) harr⟩
def Zm9{α:Type}{l l':List α}(h:l <+: l'){d:Nat}{x:α}(hx:l[d]?=ϙ x):l'[d]?=ϙ x:=by obtain⟨t,rfl⟩:=h;rw[ϖ (List.getElem?_eq_some_iff.1 hx).1];exact hx
variable{st:St}
def Z18e{js:List (Nat×Nat×Nat)}{J:List V}{w:ϓ}(hi:Inv C st J a w):Inv C (Z12a js st) J a w:=by
 unfold Z12a;split
 ·exact Zf9 _ hi
 exact hi
def Zo5{p:Bool}{f:St->Tree}{J:List V}{L:List LC}{w:ϓ}(hg:(Zo3 p st f).goal C J L)(hi:Inv C st J a w): ∃st' J',J <+: J'/\st'.d=st.d/\Inv C st' J' a w/\(f st').goal C J' L:=by
 unfold Zo3 at hg;split at hg
 ·obtain⟨A,h1,h2,h3⟩:=hg;have hag:Z18 st.n J (J++[.a A]):=by rw[<- hi.len];exact Z18.app J _
  have hbh:=Ϙ.1 hi.bdh;have hi1:=ext0 hi (n:=st.n+1) [.a A] O1 O;have hget:(J++[V.a A]).getD st.n (.i 0)=.a A:=by simp[<- hi.len]
  refine⟨Zqz st,J++[.a A],ϒ _ _,rfl,⟨hi1.len,hi1.size,hi1.fr,hi1.bdf,(by have:=hi1.bdh;simp only[Zqz,List.all_cons,ϐ,Ent.bd,ϡ];exact⟨O,this⟩),hi1.defers,?_⟩,h3⟩;refine hi1.rel.cons (by simp only[Ent.holds,hget];exact h1 w hi.rel) (λh=>by cases h) (λe' he' hw k hk hk'=>?_);have hw':e'.wr=ϗ:=by
   rcases hw with hw|hw
   ·cases hw
   exact hw
  simp only[Ent.fp,hget]at hk;obtain⟨e0,he0,hw0,hk0⟩:=h2 k hk;refine hi1.rel.disj he0 he' (λe=>?_) (.inr hw') ((Ent.fp_bd hag e0 (hbh e0 he0) k).1 hk0) hk';subst e;rw[hw0]at hw';cases hw'
 exact⟨st,J,ϑ,rfl,hi,hg⟩
def Zhw{inl:InlF}{f:St->(EX->St->Tree)->Tree}(hf:∀{st:St} {k:EX->St->Tree} {Q:Exit->Act->ϓ->Prop} {J:List V} {L:List LC} {a:Act} {w:ϓ}, (∀e st' J' L' a' w',L <+: L'->st'.d=L'.length->J <+: J'->(k e st').goal C J' L'->Inv C st' J' a' w'->Q e.to a' w') -> st.d=L.length->(f st k).goal C J L->Inv C st J a w->c.wp C.P Q a w){k:EX->St->Tree}{J:List V}{L:List LC}{w:ϓ}(hk:∀e st' J' L' a' w',L <+: L'->st'.d=L'.length->J <+: J'->(k e st').goal C J' L'->Inv C st' J' a' w'->Q e.to a' w')(hd:st.d=L.length)(hg:(Zzb E inl c st k f).goal C J L)(hi:Inv C st J a w):c.wp C.P Q a w:=by
  unfold Zzb at hg;split at hg
  . split at hg
    . exact hg.elim
    rename_i hj _ jd0 hhj;generalize (if Z1dk E.joins c=ϗ then Zqz jd0 else jd0)=jd at hg;obtain⟨I,h1,h2⟩:=hg;refine hf (st:={ st with d:=st.d+1 }) (λe st' J' L' a' w' hL hd' hp hg' hi'=>?_) (by simp[hd]) h1 ⟨hi.len,hi.size,hi.fr,hi.bdf,hi.bdh,hi.defers,hi.rel⟩;have hL0:=(ϒ L _).trans hL;cases e with
    | normal =>
      obtain⟨st'',J'',hp'',hdd'',hi'',hg'⟩:=Zo5 hg' hi';have hi':=hi'';have hp:=hp.trans hp'';split at hg'
      . rename_i hfb;have hget:L'[st.d]?=ϙ ⟨I,λ_=>0,[]⟩:=by
          refine Zm9 hL ?_;rw[hd];simp
        simp only[Tree.goal,hget]at hg';obtain⟨t,rfl⟩:=hp;have hv:=Zu0 hi.len (by rw[<- hi.len];exact Z18.app J t) hfb (Zr1 hi');have hlen:(Z26 st.n jd st'').length=jd.n - st.n:=by simp[Z26]
        refine hk .normal { jd with d:=st.d } _ L _ _ ϑ hd (ϒ J _) (h2 _ (by rw[qy3,hlen]) hg') ?_;exact⟨hv.len,hv.size,hv.fr,hv.bdf,hv.bdh,hv.defers,hv.rel⟩
      exact hg'.elim
    | exit id=>exact hk (.exit id) _ _ _ _ _ hL0 hd' hp hg' hi'
    | ret=>exact hk .ret _ _ _ _ _ hL0 hd' hp hg' hi'
  exact hf hk hd hg hi
def Z1h5(hE:EnvOK C.P E){inl:InlF}(hI:Zld C inl):∀(c:Code) {st:St} {k:EX->St->Tree} {Q:Exit->Act->ϓ->Prop} {J:List V} {L:List LC} {a:Act} {w:ϓ}, (∀e st' J' L' a' w',L <+: L'->st'.d=L'.length->J <+: J'->(k e st').goal C J' L'->Inv C st' J' a' w'->Q e.to a' w') -> st.d=L.length->(ex E inl c st k).goal C J L->Inv C st J a w->c.wp C.P Q a w:=by
 intro c;induction c with
 | skip=>intro st k Q J L a w hk hd hg hi;exact wp_skip (hk .normal _ _ _ _ _ ϑ hd ϑ hg hi)
 | exit id=>intro st k Q J L a w hk hd hg hi;exact wp_exit (hk (.exit id) _ _ _ _ _ ϑ hd ϑ hg hi)
 | ret=>intro st k Q J L a w hk hd hg hi;exact wp_ret (hk .ret _ _ _ _ _ ϑ hd ϑ hg hi)
 | region id ops draw =>
  intro st k Q J L a w hk hd hg hi;cases draw with
  | true =>
   refine Zhw (λ{st k Q J L a w} hk hd hg hi=>?_) hk hd (by simpa only[ex]using hg) hi;exact Ztx hE hI hi hd (λst' J' L' a' w' hL hd' hp hg' hi'=>hk .normal _ _ _ _ _ hL hd' hp hg' hi') hg
  | false =>
   refine Zhw (λ{st k Q J L a w} hk hd hg hi=>?_) hk hd (by simpa only[ex]using hg) hi;have:=Z17y (Q:=Q) hE hI ops.toList hi hd (λst' J' L' a' w' hL hd' hp hg' hi'=>hk .normal _ _ _ _ _ hL hd' hp hg' hi') hg;exact wp_region_list (by simpa using this)
 | seq x y ihx ihy =>
  intro st k Q J L a w hk hd hg hi;refine wp_seq (ihx (λe st' J' L' a' w' hL hd' hp hg' hi'=>?_) hd hg hi);cases e with
  | normal=>exact ihy (λe st'' J'' L'' a'' w'' hL' hd'' hp'=>hk e _ _ _ _ _ (hL.trans hL') hd'' (hp.trans hp')) hd' hg' hi'
  | exit id=>exact hk (.exit id) _ _ _ _ _ hL hd' hp hg' hi'
  | ret=>exact hk .ret _ _ _ _ _ hL hd' hp hg' hi'
 | cond c x y ihx ihy =>
  intro st k Q J L a w hk hd hg hi;refine Zhw (λ{st k Q J L a w} hk hd hg hi=>?_) hk hd (by simpa only[ex]using hg) hi;split at hg
  ·rename_i hc;exact wp_cond_true (hi.rd_ok rfl hc) (ihx hk hd hg hi)
  ·rename_i hc;exact wp_cond_false (hi.rd_ok rfl hc) (ihy hk hd hg hi)
  ·rename_i b _ _ hc;have hcl:∀{v:Bool},(if Z12b E.joins=ϗ then clB b else Ϡ)=ϙ v->(b.ev J).toB=v:=λ{v} h=>by
    split at h
    ·exact Z1gu h
    cases h
   split at hg
   ·rename_i hx;refine wp_cond_split (hi.rd_ok rfl hc) (λht=>ihx hk hd hg hi) (λhf=>?_);have:=hcl hx;rw[hf]at this;cases this
   ·rename_i hx;refine wp_cond_split (hi.rd_ok rfl hc) (λht=>?_) (λhf=>ihy hk hd hg hi);have:=hcl hx;rw[ht]at this;cases this
   obtain⟨h1,h2⟩:=hg;refine wp_cond_split (hi.rd_ok rfl hc) (λht=>ihx hk hd (h1 ((X.P_iff _ _).2 ht)) hi) (λhf=>ihy hk hd (h2 (λhp=>?_)) hi);rw[(X.P_iff _ _).1 hp]at hf;cases hf
  exact hg.elim
 | block id c ih =>
  intro st k Q J L a w hk hd hg hi;refine Zhw (λ{st k Q J L a w} hk hd hg hi=>?_) hk hd (by simpa only[ex]using hg) hi;refine wp_block (ih (λe st' J' L' a' w' hL hd' hp hg' hi'=>?_) hd hg hi);cases e with
  | normal=>exact hk .normal _ _ _ _ _ hL hd' hp hg' hi'
  | ret=>exact hk .ret _ _ _ _ _ hL hd' hp hg' hi'
  | exit i =>
   simp only[EX.to,Exit.inBlock];simp only[]at hg';by_cases hid:i=id
   ·rw[ϝ hid]at hg'⊢;exact hk .normal _ _ _ _ _ hL hd' hp hg' hi'
   rw[ϛ hid]at hg'⊢;exact hk (.exit i) _ _ _ _ _ hL hd' hp hg' hi'
 | loop c ih =>
  intro st k Q J L a w hk hd hg hi;have walk:∀{st:St} {J:List V} {L:List LC} {a:Act} {w:ϓ},(∀e st' J' L' a' w',L <+: L'->st'.d=L'.length->J <+: J'->(k e st').goal C J' L'->Inv C st' J' a' w'->Q e.to a' w')->st.d=L.length ->
    Tree.goal C (Zo3 (Z4u E.joins c) (Ziw E c st) λst=>let hd:=Zqt E.T c st (Zwd (Z4u E.joins c) st) (Zwc E.joins c)
     if fits st.n hd.2 hd.1 st=ϗ then
      .loop hd.2 (ex E inl c { hd.1 with d:=st.d+1 } λe cur=>match e with
       | .normal=>Zo3 (Z4u E.joins c) (Z12a E.joins cur) λcur=>if fits st.n (Z26 st.n hd.1 cur) hd.1 (Zqv st.n (Z26 st.n hd.1 cur) hd.1 cur)=ϗ then .back st.d (Z26 st.n hd.1 cur)else .stuck (Z124 st.n (Z26 st.n hd.1 cur) hd.1 cur)
       | e=>k e cur)
     else .stuck "a loops head") J L->Inv C st J a w->Zix C.P c Q a w:=by
   intro st0 J0 L a w hk0 hd0 hg0 hi0;obtain⟨st,J,hpre,hdd,hi,hg⟩:=Zo5 hg0 (Z12e hi0);have hd:st.d=L.length:=(hdd.trans (Z18c ..)).trans hd0;have hk:∀e st' J' L' a' w',L <+: L'->st'.d=L'.length->J <+: J'->(k e st').goal C J' L'->Inv C st' J' a' w'->Q e.to a' w':=λe st' J' L' a' w' hL hd' hp=>hk0 e st' J' L' a' w' hL hd' (hpre.trans hp);simp only[]at hg;generalize Zqt E.T c st (Zwd (Z4u E.joins c) st) (Zwc E.joins c)=HD at hg;split at hg
   ·rename_i hfit;obtain⟨I,μ,hI0,hround⟩:=hg;have hag0:Z18 st.n J J:=λ_ _=>rfl;refine Z18d (λn a' w'=>∃vs,vs.length=HD.2.length/\I vs/\μ vs=n/\Inv C { HD.1 with d:=st.d+1 } (J++vs) a' w') ⟨_,_,O1,hI0,rfl,by have:=Zu0 hi.len hag0 hfit hi;exact⟨this.len,this.size,this.fr,this.bdf,this.bdh,this.defers,this.rel⟩⟩ ?_
    ·rintro n a' w' ⟨vs,hvl,hI,rfl,hi'⟩;refine ih (λe st' J' L' a'' w'' hL hd' hp hg' hi''=>?_) (by simp[hd]) (hround vs hvl hI) hi';have hL0:L <+: L':=(ϒ L _).trans hL;have hp0:J <+: J':=(ϒ J _).trans hp;cases e with
     | normal =>
      obtain⟨st'',J'',hp'',hdd'',hi3,hg'⟩:=Zo5 hg' (Z18e hi'');have hp0:J <+: J'':=hp0.trans hp'';split at hg'
      ·rename_i hfb;have hget:L'[st.d]?=ϙ ⟨I,μ,vs⟩:=by
        refine Zm9 hL ?_;rw[hd];simp
       simp only[Tree.goal,hget]at hg';obtain⟨g1,g2⟩:=hg';exact⟨_,g2,_,by unfold fits at hfit hfb;simp only[ϐ,beq_iff_eq]at hfit hfb;simp;omega,g1,rfl,by obtain⟨t,rfl⟩:=hp0;have:=Zu0 hi.len (by rw[<- hi.len];exact Z18.app J t) hfb (Zr1 hi3);exact⟨this.len,this.size,this.fr,this.bdf,this.bdh,this.defers,this.rel⟩⟩
      exact hg'.elim
     | exit id=>exact hk (.exit id) _ _ _ _ _ hL0 hd' hp0 hg' hi''
     | ret=>exact hk .ret _ _ _ _ _ hL0 hd' hp0 hg' hi''
   exact hg.elim
  simp only[ex]at hg;split at hg
  ·have key:∀(D:List Nat) (n:Nat) {st:St} {J:List V} {L:List LC} {a:Act} {w:ϓ},(∀e st' J' L' a' w',L <+: L'->st'.d=L'.length->J <+: J'->(k e st').goal C J' L'->Inv C st' J' a' w'->Q e.to a' w')->st.d=L.length ->
     Tree.goal C (Zo4 D (λst k=>ex E inl c st k) n st k) J L->Inv C st J a w->Zix C.P c Q a w:=by
    intro D n;induction n with
    | zero=>intro st J L a w hk hd hg hi;exact hg.elim
    | succ n ihn =>
     intro st J L a w hk hd hg hi;simp only[Zo4]at hg;refine Zgs (ih (λe st' J' L' a' w' hL hd' hp hg' hi'=>?_) hd hg hi);have hk':∀e st'' J'' L'' a'' w'',L' <+: L''->st''.d=L''.length->J' <+: J''->(k e st'').goal C J'' L''->Inv C st'' J'' a'' w''->Q e.to a'' w'' :=
      λe st'' J'' L'' a'' w'' hL' hd'' hp'=>hk e _ _ _ _ _ (hL.trans hL') hd'' (hp.trans hp')
     cases e with
     | normal=>exact ihn (st:=Z1dg D st') hk' hd' hg' (Z184 hi')
     | exit id=>exact hk (.exit id) _ _ _ _ _ hL hd' hp hg' hi'
     | ret=>exact hk .ret _ _ _ _ _ hL hd' hp hg' hi'
   exact Zfa (key _ 40 hk hd hg hi)
  split at hg
  ·refine Zfa (Zgs (ih (λe st' J' L' a' w' hL hd' hp hg' hi'=>?_) hd hg hi));have hk':∀e st'' J'' L'' a'' w'',L' <+: L''->st''.d=L''.length->J' <+: J''->(k e st'').goal C J'' L''->Inv C st'' J'' a'' w''->Q e.to a'' w'' :=
    λe st'' J'' L'' a'' w'' hL' hd'' hp'=>hk e _ _ _ _ _ (hL.trans hL') hd'' (hp.trans hp')
   cases e with
   | normal=>exact walk (st:=Zo2 c st st') hk' hd' hg' (Zty hi')
   | exit id=>exact hk (.exit id) _ _ _ _ _ hL hd' hp hg' hi'
   | ret=>exact hk .ret _ _ _ _ _ hL hd' hp hg' hi'
  exact Zfa (walk hk hd hg hi)
 | rangeFunc f params assign body=>intro st k Q J L a w hk hd hg hi;exact hg.elim
 | scope c=>intro st k Q J L a w hk hd hg hi;exact hg.elim
 | label l=>intro st k Q J L a w hk hd hg hi;exact hg.elim
 | goto l=>intro st k Q J L a w hk hd hg hi;exact hg.elim
 | refuse s=>intro st k Q J L a w hk hd hg hi;exact hg.elim
def Zr2(E:Env)(st:St):ResultVar->Option CV
 | .tmp t=>match st.slot t with | .cv c=>ϙ c|_=>Ϡ
 | .cell a t=>match st.slot a with
  | .cv (false,[.ptr v off])=>match loadAt E.T st.hp t (.ptr v off)with|some ([],c)=>ϙ c|_=>Ϡ
  | _=>Ϡ
def Zgt(E:Env)(st:St):List ResultVar->Option (List CV)
 | []=>ϙ []
 | r::rs=>do let c <- Zr2 E st r;let cs <- Zgt E st rs;ϙ (c::cs)
def Zu1(E:Env)(rs:List ResultVar)(keep:Bool)(st:St):Tree :=
 match Zgt E st rs with
 | some [c]=>.ret (.cv c) (forMem (keep || SV.mem (.cv c)) st.hp)
 | some cs=>.ret (.tup cs) (forMem (keep || SV.mem (.tup cs)) st.hp)
 | none=>.stuck "results"
def inlN(E:Env):Nat->InlF
 | 0=>λ_ _ _ _=>Ϡ
 | m+1=>λf args st k=>match E.inl.find? λp=>p.1 == f with
  | none=>Ϡ
  | some (_,fn)=>match fn.body with
   | none=>Ϡ
   | some c=>if(E.fs.contains f && args.all (λs=>s.bd st.n && s.isVal))=ϗ then
     ϙ (ex E (inlN E m) c { n:=st.n,d:=st.d,fr:=args++ϕ (fn.ntmps - args.length) .dead,hp:=st.hp } λe st'=>match e with
      | .exit _=>.stuck "an exit of no block"
      | _=>match Zgt E st' fn.results.toList with
       | some [c]=>k (.cv c) st'
       | some cs=>k (.tup cs) st'
       | none=>.stuck "results")
    else Ϡ
def Z1br(E:Env)(ntmps:Nat)(rs:List ResultVar)(c:Code)(n:Nat)(args:List SV)(hp:List Ent):Tree :=
 ex E (inlN E 8) c { n:=n,d:=0,fr:=args++ϕ (ntmps - args.length) .dead,hp:=hp } λe st=>match e with
  | .exit _=>.stuck "an exit of no block"
  | _=>Zu1 E rs (hp.any Ent.wr) st
def Z12f(hE:EnvOK C.P E){J:List V}{w:ϓ}(hi:Inv C st J a w){r:ResultVar}{c:CV}(h:Zr2 E st r=ϙ c)(G:ResultVar->Sem Value)(h1:∀t,G (.tmp t)=pure (a.tmps.getD t undef))(h2:∀x t,G (.cell x t)=(do loadVar t (<- asAddr (a.tmps.getD x undef)))):(G r).run C.P w=.ok (CV.ev J c) w:=by
 cases r with
 | tmp t =>
  simp only[Zr2]at h;have hrel:=hi.fr t;split at h
  ·rename_i c' hs;simp at h;subst h;rw[hs]at hrel;have hrel:a.tmps.getD t undef=CV.ev J c':=hrel;rw[h1,hrel,Sem.run_pure]
  cases h
 | cell x t =>
  simp only[Zr2]at h;have hrel:=hi.fr x;split at h
  ·rename_i v off hs;rw[hs]at hrel;have hrel:=hrel;split at h
   ·rename_i c' hl;simp at h;subst h;have:=Zqj hE.tab hi.rel.holds hl (λ_ h=>by simp at h);simp only[Instr.loadAt,Instr.sureAddr,Sc.ev,Sem.run_bind,Sem.run_pure,Result.andThen_ok]at this;rw[h2,hrel];simp only[asAddr,Sem.run_bind,Sem.run_pure,Result.andThen_ok];exact this
   cases h
  cases h
def Zze:∀{rs:List ResultVar} {cs:List CV},Zgt E st rs=ϙ cs->cs.length=rs.length/\∀(n:Nat) r c,rs[n]?=ϙ r->cs[n]?=ϙ c->Zr2 E st r=ϙ c:=by
 intro rs;induction rs with
 | nil=>intro cs h;simp[Zgt]at h;subst h;simp
 | cons r rs ih =>
  intro cs h;simp only[Zgt,Option.bind_eq_bind,Option.bind_eq_some_iff,Ϣ.injEq]at h;obtain⟨c,hc,cs',hcs,rfl⟩:=h;obtain⟨i1,i2⟩:=ih hcs;refine⟨by simp[i1],λn x y hx hy=>?_⟩;cases n
  ·simp at hx hy;subst hx hy;exact hc
  exact i2 _ x y (by simpa using hx) (by simpa using hy)
def Zbj(hE:EnvOK C.P E){J:List V}{w:ϓ}(hi:Inv C st J a w){fn:Func}{cs:List CV}(h:Zgt E st fn.results.toList=ϙ cs): (results fn a.tmps).run C.P w=.ok (match cs with | [c]=>CV.ev J c|cs=>.tuple (cs.map (CV.ev J)).toArray) w:=by
 obtain⟨r1,r2⟩:=Zze h;have key:∀G:ResultVar->Sem Value,(∀t,G (.tmp t)=pure (a.tmps.getD t undef))->(∀x t,G (.cell x t)=(do loadVar t (<- asAddr (a.tmps.getD x undef)))) ->
   (fn.results.mapM G).run C.P w=.ok (cs.map (CV.ev J)).toArray w:=by
  intro G h1 h2;have e:=Zvo G w fn.results.toList (cs.map (CV.ev J)) (by simpa using r1) (λn x y hx hy=>by simp only[Ϝ,Option.map_eq_some_iff]at hy;obtain⟨c,hc,rfl⟩:=hy;exact Z12f hE hi (r2 n x c hx hc) G h1 h2);obtain⟨l,hl⟩:∃l,fn.results=⟨l⟩:=⟨fn.results.toList,rfl⟩
  rw[hl]at e⊢;rw[List.mapM_toArray];simp[e]
 unfold results;rw[Sem.run_bind,key _ (λ_=>rfl) (λ_ _=>rfl)];simp only[Sem.run_pure]
 match cs with
 | []=>rfl
 | [c]=>rfl
 | _::_::_=>simp
def Inv.begin{fn:Func}{args:List SV}{J:List V}{hp:List Ent}{w:ϓ}{n d:Nat}(hn:J.length=n)(hrel:Rel C.B J hp w)(hbh:hp.all (Ent.bd n)=ϗ)(hba:args.all (λs=>s.bd n && s.isVal)=ϗ)(ht:a.tmps=(args.map (SV.ev J)).toArray++Array.replicate (fn.ntmps - (args.map (SV.ev J)).toArray.size) undef)(hd:a.defers=[]): Inv C { n:=n,d:=d,fr:=args++ϕ (fn.ntmps - args.length) .dead,hp:=hp } J a w:=by
 have hba:=Ϙ.1 hba;refine⟨hn,by rw[ht];simp,λj=>?_,λs hs=>?_,hbh,hd,hrel⟩
 ·rw[ht];simp only[St.slot,qy1,Array.getD_eq_getD_getElem?];by_cases hj:j<args.length
  ·rw[ϖ hj,Array.getElem?_append_left (by simpa using hj)];simp only[List.getElem?_toArray,Ϝ,qy7 hj,Option.map_some,Option.getD_some];have:=hba _ (List.getElem_mem hj);simp only[ϐ]at this;exact SV.rel_of_ev rfl this.2
  rw[ϔ O];cases hr:(ϕ (fn.ntmps - args.length) SV.dead)[j - args.length]? with
  | none=>trivial
  | some s =>
   have:=qy6 hr;simp at this;rw[this.2];trivial
 rcases qy13.1 hs with hs|hs
 ·have:=hba s hs;simp only[ϐ]at this;exact this.1
 simp at hs;rw[hs.2];rfl
def Z1dm(hE:EnvOK C.P E):∀m,Zld C (inlN E m):=by
 intro m;induction m with
 | zero=>intro f args st k t J a w L Q h;cases h
 | succ m ih =>
  intro f args st k t J a w L Q h hi hd hk hg;simp only[inlN]at h;split at h
  ·cases h
  rename_i q fn hfind;have hfn:=hE.inl _ (List.mem_of_find?_eq_some hfind);have hqf:=List.find?_some hfind;simp only[beq_iff_eq]at hqf;subst hqf;split at h
  ·cases h
  rename_i c hb;simp only[Option.ite_none_right_eq_some,Ϣ.injEq,ϐ]at h;obtain⟨⟨hfs,hba⟩,rfl⟩:=h;refine⟨hE.fs _ (by simpa using hfs),calls_of_wp hfn hb ?_⟩;refine Z1h5 (L:=L) (inl:=inlN E m) hE ih c ?_ (by exact hd) hg (Inv.begin (fn:=fn) hi.len hi.rel hi.bdh hba rfl rfl);intro e st' J' L' a' w' hL hd' hp hg hi';have key:(match Zgt E st' fn.results.toList with
     | some [c]=>k (.cv c) st'
     | some cs=>k (.tup cs) st'
     | none=>.stuck "results" : Tree).goal C J' L'->a'.defers=[]/\∃v,(results fn a'.tmps).run C.P w'=.ok v w'/\Q (.returned v) w':=by
   intro hg;refine⟨hi'.defers,?_⟩;split at hg
   ·rename_i c hr;exact⟨_,Zbj hE hi' hr,hk _ _ _ _ _ _ hL hd' hp hg hi' rfl⟩
   ·rename_i cs hne hr;refine⟨_,Zbj hE hi' hr,?_⟩;have:=hk _ _ _ _ _ _ hL hd' hp hg hi' rfl
    match cs,hne,this with
    | [],_,this=>exact this
    | [c],hne,_=>exact(hne c rfl).elim
    | _::_::_,_,this=>exact this
   exact hg.elim
  cases e with
  | normal=>exact key hg
  | ret=>exact key hg
  | exit id=>exact hg.elim
def Z1h6(hE:EnvOK C.P E){f:FuncId}{fn:Func}{args:List SV}{J:List V}{hp:List Ent}{w:ϓ}(hf:C.P.funcs[f]?=ϙ fn)(hb:fn.body=ϙ c)(hrel:Rel C.B J hp w)(hbh:hp.all (Ent.bd J.length)=ϗ)(hba:args.all (λs=>s.bd J.length && s.isVal)=ϗ)(h:(Z1br E fn.ntmps fn.results.toList c J.length args hp).goal C J []):Calls C.P f (args.map (SV.ev J)).toArray w C.R:=by
 refine calls_of_wp hf hb ?_;refine Z1h5 (L:=[]) (inl:=inlN E 8) hE (Z1dm hE 8) c ?_ rfl h (Inv.begin (fn:=fn) rfl hrel hbh hba rfl rfl);intro e st' J' L' a' w' _ _ _ hg hi;have key:(Zu1 E fn.results.toList (hp.any Ent.wr) st').goal C J' L'->a'.defers=[]/\∃v,(results fn a'.tmps).run C.P w'=.ok v w'/\C.R (.returned v) w':=by
  intro hg;refine⟨hi.defers,?_⟩;unfold Zu1 at hg;split at hg
  ·rename_i c hr;exact⟨_,Zbj hE hi hr,hg w' (hi.rel.forMem _)⟩
  ·rename_i cs hne hr;refine⟨_,Zbj hE hi hr,?_⟩;have:=hg w' (hi.rel.forMem _)
   match cs,hne,this with
   | [],_,this=>exact this
   | [c],hne,_=>exact(hne c rfl).elim
   | _::_::_,_,this=>exact this
  exact hg.elim
 cases e with
 | normal=>exact key hg
 | ret=>exact key hg
 | exit id=>exact hg.elim
