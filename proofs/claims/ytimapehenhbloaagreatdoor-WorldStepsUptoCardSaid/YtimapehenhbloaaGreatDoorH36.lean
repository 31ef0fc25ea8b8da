/-
  What a reading of events tells. By an AI agent.
-/
import Derived.Test.YtimapehenhbloaaGreatDoorH35
set_option linter.all false
set_option maxHeartbeats 20000000
set_option maxRecDepth 100000
namespace Go.Proofs.Y
open Go Go.Sx Go.ChangeShapes Go.WideShapes Go.ChangeAt Go.RowKit
section
variable {H:Type} {enc:TypeId×Value->H} {w:World} {sp:Nat->Bool} {B:DataW H->Nat}
def Z1jj(hB:Bulk B){cs:List Value}{b:Nat}(h:Lv enc Tryz.prog w sp B [(9,.str),(3,.int .i64),(9,.str)] cs b):∃o:Evt,cs=Zsh o/\o.client.length+o.bytes.length+1<=b:=by
 cases h with
 | cons c1 h e1 =>
 cases h with
 | cons c2 h e2 =>
 cases h with
 | cons c3 h e3 =>
 cases h;obtain⟨p,rfl⟩:=c1.1;obtain⟨n,rfl⟩:=c2.1;obtain⟨t,rfl⟩:=c3.1;have q1:=Z7r.str hB Tryz.underlying9 c1;have q2:=Z7r.str hB Tryz.underlying9 c3;exact⟨⟨p,n,t⟩,rfl,by simp only;omega⟩
def Z1jk(hB:Bulk B){cs:List Value}{b:Nat}(h:Lv enc Tryz.prog w sp B [(9,.str),(9,.str)] cs b):∃o:Ky,cs=Z2j o/\o.1.length+o.2.length+2<=b:=by
 cases h with
 | cons c1 h e1 =>
 cases h with
 | cons c2 h e2 =>
 cases h;obtain⟨p,rfl⟩:=c1.1;obtain⟨t,rfl⟩:=c2.1;have q1:=Z7r.str hB Tryz.underlying9 c1;have q2:=Z7r.str hB Tryz.underlying9 c2;exact⟨(p,t),rfl,by simp only;omega⟩
def Z1gr(hB:Bulk B):∀{rows:List (List Value)} {bs:List Nat},bs.length=rows.length->(∀(i:Nat) r b,rows[i]?=some r->bs[i]?=some b->Lv enc Tryz.prog w sp B [(9,.str),(9,.str)] r b) -> ∃l:List Ky,rows=l.map Z2j/\(∀x∈l,x.1.length<=bs.sum)/\2*l.length<=bs.sum:=by
 intro rows;induction rows with
 | nil=>exact λ_ _=>⟨[],rfl,by simp,by simp⟩
 | cons r rows ih =>
  intro bs hl h
  match bs,hl with
  | b::bs,hl =>
   obtain⟨l,e,hb,hn⟩:=ih (bs:=bs) (by simpa using hl) (λi r' b' h1 h2=>h (i+1) r' b' (by simpa using h1) (by simpa using h2));obtain⟨o,rfl,hob⟩:=Z1jk hB (h 0 r b rfl rfl);refine⟨o::l,by rw[e];rfl,λx hx=>?_,by rw[List.sum_cons,List.length_cons];omega⟩;rw[List.sum_cons];rcases List.mem_cons.1 hx with rfl|hx
   ·omega
   ·have:=hb x hx;omega
end
