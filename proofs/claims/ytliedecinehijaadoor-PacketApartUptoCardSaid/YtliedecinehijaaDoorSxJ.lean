/-
  A small verified symbolic executor (part J: each operation's step is sound). By an AI agent.
-/
import Derived.Test.YtliedecinehijaaDoorSxI
set_option linter.unusedSimpArgs false
set_option linter.unusedVariables false
namespace Go.Sx
open Go

def callOK (P : Program) (f : Nat) : Bool :=
  match P.funcs[f]? with
  | some fn => (fn.name != "runtime.NumGoroutine") && fn.body.isSome
  | none => false
structure EnvOK (P : Program) (E : Env) : Prop where
  tab : TabOK P E.T
  fs : ∀ f ∈ E.fs, callOK P f = true
  mixed : P.follows .mixedOrders = true
  inl : ∀ p ∈ E.inl, P.funcs[p.1]? = some p.2

theorem EnvOK.joins {P : Program} {E : Env} (h : EnvOK P E) (js : List (Nat × Nat × Nat)) : EnvOK P { E with joins := js } := ⟨h.tab, h.fs, h.mixed, h.inl⟩

variable {C : Cx} {st : St} {ρ : List V} {a : Act} {w : World} {E : Env} {L : List LC}

theorem impl_ok {G n : X} : ((impl G n).P ρ ↔ ((G.ev ρ).toB = true → (n.ev ρ).toB = true)) := by
  unfold impl
  split
  · rename_i h; subst h; simp [X.P_iff, X.ev]
  · simp only [X.P, X.P_iff, mkNot_ok]
    cases (G.ev ρ).toB <;> simp
theorem needsT_ok {G : X} {t : Tree} : ∀ {ns : List X}, (needsT G ns t).goal C ρ L → ((G.ev ρ).toB = true → Needs ρ ns) ∧ t.goal C ρ L := by
  intro ns
  induction ns with
  | nil => intro h; exact ⟨fun _ x hx => by simp at hx, h⟩
  | cons n ns ih =>
    intro h
    simp only [needsT, Tree.goal] at h
    obtain ⟨h1, h2⟩ := h
    obtain ⟨h3, h4⟩ := ih h2
    refine ⟨fun hG x hx => ?_, h4⟩
    rcases List.mem_cons.1 hx with rfl | hx
    · exact impl_ok.1 h1 hG
    · exact h3 hG x hx

theorem guard_ok {ops : List Oper} {o : Oper} {G : X} (h : Inv C st ρ a w) (hg : guardOf ops o st = some G) : Region.wanted o (yielded ops.toArray a.tmps) = (G.ev ρ).toB := by
  unfold guardOf at hg
  unfold Region.wanted
  split at hg
  · rename_i hn
    simp at hg; subst hg
    simp [hn, X.ev]
  · rename_i j want hn
    simp only [hn]
    simp only [Option.bind_eq_bind, Option.bind_eq_some_iff] at hg
    obtain ⟨oj, hj, d, hd, hg⟩ := hg
    have hrel := h.fr d
    have hy : ∀ b, a.tmps.getD d undef = .bool b → yielded ops.toArray a.tmps j = some b := by
      intro b hb
      have : a.tmps[d]? = some (.bool b) := by
        rw [Array.getD_eq_getD_getElem?] at hb
        cases ht : a.tmps[d]? with
        | none => rw [ht] at hb; simp [undef] at hb
        | some v => rw [ht] at hb; simp at hb; rw [hb]
      simp [yielded, hj, hd, this]
    have hn : a.tmps.getD d undef = undef → yielded ops.toArray a.tmps j = none := by
      intro hb
      simp only [yielded, List.getElem?_toArray, hj, hd, Option.bind_some]
      rw [Array.getD_eq_getD_getElem?] at hb
      cases ht : a.tmps[d]? with
      | none => rfl
      | some v => rw [ht] at hb; simp at hb; rw [hb]; rfl
    split at hg
    · rename_i x hs
      simp at hg; subst hg
      rw [hs] at hrel
      rw [hy _ hrel]
      cases want <;> simp [mkNot_ok] <;> cases (x.ev ρ).toB <;> simp
    · rename_i g x hs
      simp at hg; subst hg
      rw [hs] at hrel
      obtain ⟨h1, h2⟩ := hrel
      rw [mkAnd_ok]
      cases hgv : (g.ev ρ).toB
      · rw [hn (h2 hgv)]; simp
      · rw [hy _ (h1 hgv)]
        cases want <;> simp [mkNot_ok] <;> cases (x.ev ρ).toB <;> simp
    · cases hg

theorem mkNot_bd {n : Nat} {x : X} (h : x.bd n = true) : (mkNot x).bd n = true := by
  cases x <;> simp_all [mkNot, X.bd]
theorem mkAnd_bd {n : Nat} {x y : X} (h : x.bd n = true) (h' : y.bd n = true) : (mkAnd x y).bd n = true := by
  unfold mkAnd; split <;> simp_all [X.bd]
theorem guard_bd {ops : List Oper} {o : Oper} {G : X} (h : Inv C st ρ a w) (hg : guardOf ops o st = some G) : G.bd st.n = true := by
  unfold guardOf at hg
  split at hg
  · simp at hg; subst hg; rfl
  · rename_i j want hn
    simp only [Option.bind_eq_bind, Option.bind_eq_some_iff] at hg
    obtain ⟨oj, hj, d, hd, hg⟩ := hg
    have hb := St.slot_bd h.bdf d
    split at hg
    · rename_i x hs
      simp at hg; subst hg
      rw [hs] at hb
      have hb : x.bd st.n = true := by simpa [SV.bd, CV.bd, Sc.bd] using hb
      cases want
      · exact mkNot_bd hb
      · exact hb
    · rename_i g x hs
      simp at hg; subst hg
      rw [hs] at hb
      have hb : g.bd st.n = true ∧ x.bd st.n = true := by simpa [SV.bd, CV.bd, Sc.bd] using hb
      refine mkAnd_bd hb.1 ?_
      cases want
      · exact mkNot_bd hb.2
      · exact hb.2
    · cases hg

theorem pickOp_ok {G : X} {c x y : Operand} {s : Sc} (h : Inv C st ρ a w) (hG : (G.ev ρ).toB = true) (hp : pickOp st G c x y = some s) :
    ∃ b, a.eval c = .bool b ∧ (if b then a.eval x else a.eval y) = s.ev ρ := by
  unfold pickOp at hp
  split at hp
  · rename_i hc
    refine ⟨true, by simpa [CV.ev, Sc.ev, X.ev] using h.rd_ok hG hc, ?_⟩
    split at hp
    · rename_i s' hs; simp at hp; subst hp; exact h.rd_ok hG hs
    · cases hp
  · rename_i hc
    refine ⟨false, by simpa [CV.ev, Sc.ev, X.ev] using h.rd_ok hG hc, ?_⟩
    split at hp
    · rename_i s' hs; simp at hp; subst hp; exact h.rd_ok hG hs
    · cases hp
  · rename_i cx _ _ hc
    have hc := h.rd_ok hG hc
    simp only [CV.ev, Sc.ev] at hc
    refine ⟨_, hc, ?_⟩
    have hx : ∀ c', st.rd (mkAnd G cx) x = some c' → (cx.ev ρ).toB = true → a.eval x = CV.ev ρ c' := fun c' hr hcx => h.rd_ok (by rw [mkAnd_ok, hG, hcx]; rfl) hr
    have hy : ∀ c', st.rd (mkAnd G (mkNot cx)) y = some c' → (cx.ev ρ).toB = false → a.eval y = CV.ev ρ c' := fun c' hr hcx => h.rd_ok (by rw [mkAnd_ok, hG, mkNot_ok, hcx]; rfl) hr
    split at hp
    · rename_i u v hu hv
      simp at hp; subst hp
      simp only [Sc.ev, mkIteB_ok]
      cases hb : (cx.ev ρ).toB
      · simp [hy _ hv hb, CV.ev, Sc.ev]
      · simp [hx _ hu hb, CV.ev, Sc.ev]
    · rename_i k u k' v hu hv
      simp only [Option.ite_none_right_eq_some, Option.some.injEq] at hp
      obtain ⟨rfl, rfl⟩ := hp
      simp only [Sc.ev, X.ev]
      cases hb : (cx.ev ρ).toB
      · simp [hy _ hv hb, CV.ev, Sc.ev]
      · simp [hx _ hu hb, CV.ev, Sc.ev]
    · rename_i u v hu hv
      simp at hp; subst hp
      simp only [Sc.ev, X.ev]
      cases hb : (cx.ev ρ).toB
      · simp [hy _ hv hb, CV.ev, Sc.ev]
      · simp [hx _ hu hb, CV.ev, Sc.ev]
    · cases hp
  · cases hp

theorem valOp_at (hE : EnvOK C.P E) {G : X} {o : Oper} {ns : List X} {c : CV} {hp : List Ent} {w' : World} (h : Inv C st ρ a w) (hh : Hold ρ hp w') (hG : (G.ev ρ).toB = true)
    (hv : valOp E { st with hp := hp } G o.op = some (ns, c)) (hn : Needs ρ ns) : (execOp a.eval o).run C.P w' = .ok (.value (CV.ev ρ c)) w' := by
  unfold valOp at hv
  split at hv
  · rename_i x y z hop
    simp only [Option.map_eq_some_iff, Prod.mk.injEq] at hv
    obtain ⟨s, hs, rfl, rfl⟩ := hv
    have hs : pickOp st G x y z = some s := hs
    obtain ⟨b, hb, hr⟩ := pickOp_ok h hG hs
    simp only [CV.ev]
    rw [← hr]
    unfold execOp
    simp only [hop, hb]
    simp [go_sem]
  · exact pureOp_ok hE.tab hh (fun x c hx => h.rd_ok hG hx) hv hn
theorem valOp_ok (hE : EnvOK C.P E) {G : X} {o : Oper} {ns : List X} {c : CV} (h : Inv C st ρ a w) (hG : (G.ev ρ).toB = true) (hv : valOp E st G o.op = some (ns, c)) (hn : Needs ρ ns) :
    (execOp a.eval o).run C.P w = .ok (.value (CV.ev ρ c)) w := valOp_at hE h h.rel.holds hG hv hn

theorem ext0 (h : Inv C st ρ a w) {n : Nat} (vs : List V) (hv : vs.length = n - st.n) (hn : st.n ≤ n) : Inv C { st with n := n } (ρ ++ vs) a w := by
  have := h.ext vs
  rw [hv, Nat.add_sub_cancel' hn] at this
  exact this

end Go.Sx
