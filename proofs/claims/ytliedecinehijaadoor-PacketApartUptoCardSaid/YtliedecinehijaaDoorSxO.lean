/-
  A small verified symbolic executor (part O: trees made smaller: what is known already is not asked again). By an AI agent.
-/
import Derived.Test.YtliedecinehijaaDoorSxN
set_option linter.unusedSimpArgs false
set_option linter.unusedVariables false
namespace Go.Sx
open Go

mutual
/-- What a condition tells where it holds .. -/
def posX : X → List X
  | .and a b => posX a ++ posX b
  | .not x => negX x
  | x => [x]
/-- .. and where it does not. -/
def negX : X → List X
  | .or a b => negX a ++ negX b
  | .not x => posX x
  | x => [.not x]
end
theorem pn_ok (ρ : List V) : ∀ x : X, (X.P ρ x → ∀ y ∈ posX x, X.P ρ y) ∧ (¬ X.P ρ x → ∀ y ∈ negX x, X.P ρ y) := by
  intro x
  induction x with
  | and a b iha ihb =>
    refine ⟨fun h y hy => ?_, fun h y hy => ?_⟩
    · simp only [posX, List.mem_append] at hy
      rcases hy with hy | hy
      · exact iha.1 h.1 y hy
      · exact ihb.1 h.2 y hy
    · simp only [negX, List.mem_singleton] at hy; subst hy; exact h
  | or a b iha ihb =>
    refine ⟨fun h y hy => ?_, fun h y hy => ?_⟩
    · simp only [posX, List.mem_singleton] at hy; subst hy; exact h
    · simp only [negX, List.mem_append] at hy
      simp only [X.P, not_or] at h
      rcases hy with hy | hy
      · exact iha.2 h.1 y hy
      · exact ihb.2 h.2 y hy
  | not a ih =>
    refine ⟨fun h y hy => ?_, fun h y hy => ?_⟩
    · simp only [posX] at hy; exact ih.2 h y hy
    · simp only [negX] at hy; exact ih.1 (Classical.not_not.1 h) y hy
  | _ => exact ⟨fun h y hy => by simp only [posX, List.mem_singleton] at hy; subst hy; exact h, fun h y hy => by simp only [negX, List.mem_singleton] at hy; subst hy; exact h⟩

/-- Is a condition among what is known? -/
def implied (K : List X) : X → Bool
  | .and a b => implied K a && implied K b
  | .or a b => K.contains (.or a b) || implied K a || implied K b
  | .not x => K.contains (.not x)
  | .le (.I a) (.I b) => decide (a ≤ b)
  | .eqI (.I a) (.I b) => decide (a = b)
  | .lt (.I a) (.I b) => decide (a < b)
  | .B b => b
  | x => K.contains x
theorem implied_ok {K : List X} {ρ : List V} (hK : ∀ x ∈ K, X.P ρ x) : ∀ {c : X}, implied K c = true → X.P ρ c := by
  intro c
  induction c with
  | and a b iha ihb => intro h; simp only [implied, Bool.and_eq_true] at h; exact ⟨iha h.1, ihb h.2⟩
  | or a b iha ihb =>
    intro h
    simp only [implied, Bool.or_eq_true] at h
    rcases h with (h | h) | h
    · exact hK _ (by simpa using h)
    · exact .inl (iha h)
    · exact .inr (ihb h)
  | le a b =>
    intro h
    unfold implied at h
    split at h <;> (try cases ‹X.le _ _ = _›)
    · simpa [X.P, X.ev] using h
    · exact hK _ (by simpa using h)
  | eqI a b =>
    intro h
    unfold implied at h
    split at h <;> (try cases ‹X.eqI _ _ = _›)
    · simpa [X.P, X.ev] using h
    · exact hK _ (by simpa using h)
  | lt a b =>
    intro h
    unfold implied at h
    split at h <;> (try cases ‹X.lt _ _ = _›)
    · simpa [X.P, X.ev] using h
    · exact hK _ (by simpa using h)
  | B b => intro h; simpa [implied, X.P] using h
  | _ => intro h; exact hK _ (by simpa [implied] using h)

/-- Does a condition fail by what is known, or by its numbers? -/
def refuted (K : List X) : X → Bool
  | .and a b => refuted K a || refuted K b
  | .or a b => refuted K a && refuted K b
  | .not x => implied K x
  | .eqI (.I a) (.I b) => !(decide (a = b))
  | .lt (.I a) (.I b) => !(decide (a < b))
  | .B b => !b
  | x => K.contains (.not x)
theorem refuted_ok {K : List X} {ρ : List V} (hK : ∀ x ∈ K, X.P ρ x) : ∀ {c : X}, refuted K c = true → ¬ X.P ρ c := by
  intro c
  induction c with
  | and a b iha ihb =>
    intro h hp
    simp only [refuted, Bool.or_eq_true] at h
    rcases h with h | h
    · exact iha h hp.1
    · exact ihb h hp.2
  | or a b iha ihb =>
    intro h hp
    simp only [refuted, Bool.and_eq_true] at h
    rcases hp with hp | hp
    · exact iha h.1 hp
    · exact ihb h.2 hp
  | not a ih => intro h hp; exact hp (implied_ok hK (by simpa only [refuted] using h))
  | eqI a b =>
    intro h
    unfold refuted at h
    split at h <;> (try cases ‹X.eqI _ _ = _›)
    · simpa [X.P, X.ev] using h
    · exact hK (.not _) (by simpa using h)
  | lt a b =>
    intro h
    unfold refuted at h
    split at h <;> (try cases ‹X.lt _ _ = _›)
    · simpa [X.P, X.ev] using h
    · exact hK (.not _) (by simpa using h)
  | B b => intro h; simpa [refuted, X.P] using h
  | _ => intro h; exact hK (.not _) (by simpa [refuted] using h)

def learn (n : Nat) (l K : List X) : List X := (l.filter fun x => x.bd n) ++ K

/-- keep: what is known of new slices is kept. -/
def tidy (keep : Bool) : Nat → List X → Tree → Tree
  | n, K, .ite c t e =>
    if implied K c then tidy keep n K t else if ((negX c).all (implied K) || refuted K c) = true then tidy keep n K e
    else .ite c (tidy keep n (learn n (posX c) K) t) (tidy keep n (learn n (negX c) K) e)
  | n, K, .need c t => if implied K c then tidy keep n K t else .need c (tidy keep n (learn n (posX c) K) t)
  | n, K, .bindN t => .bindN (tidy keep (n + 1) K t)
  | n, K, .bindV t => .bindV (tidy keep (n + 1) K t)
  | n, K, .bindO t => if keep = true then .bindO (tidy keep (n + 1) K t) else .bindV (tidy keep (n + 1) K t)
  | n, K, .bindF v t => if keep = true then .bindF v (tidy keep (n + 1) K t) else .bindV (tidy keep (n + 1) K t)
  | n, K, .letV v t => .letV v (tidy keep (n + 1) K t)
  | n, K, .callP g f args hp res m t => .callP g f args hp res m (tidy keep (n + m) K t)
  | n, K, .callM f args hp mods gone ms es res m t => .callM f args hp mods gone ms es res m (tidy keep (n + m) K t)
  | n, K, .both t e => .both (tidy keep n K t) (tidy keep n K e)
  | n, K, .openR v ks hp t => .openR v ks hp (tidy keep (n + 1) K t)
  | n, K, .loop inits t => .loop inits (tidy keep (n + inits.length) K t)
  | n, K, .join m t e => .join m (tidy keep n K t) (tidy keep (n + m) K e)
  | _, _, t => t

theorem negX_conv (ρ : List V) : ∀ x : X, ((∀ y ∈ negX x, X.P ρ y) → ¬ X.P ρ x) ∧ ((∀ y ∈ posX x, X.P ρ y) → X.P ρ x) := by
  intro x
  induction x with
  | or a b iha ihb =>
    refine ⟨fun h hp => ?_, fun h => h _ (by simp [posX])⟩
    simp only [negX, List.mem_append] at h
    rcases hp with hp | hp
    · exact iha.1 (fun y hy => h y (.inl hy)) hp
    · exact ihb.1 (fun y hy => h y (.inr hy)) hp
  | and a b iha ihb =>
    refine ⟨fun h hp => (show ¬ X.P ρ (.and a b) from h (.not (.and a b)) (List.mem_singleton.2 rfl)) hp, fun h => ?_⟩
    simp only [posX, List.mem_append] at h
    exact ⟨iha.2 fun y hy => h y (.inl hy), ihb.2 fun y hy => h y (.inr hy)⟩
  | not a ih =>
    refine ⟨fun h hp => hp (ih.2 (by simpa only [negX] using h)), fun h hp => ih.1 (by simpa only [posX] using h) hp⟩
  | _ => exact ⟨fun h hp => (show ¬ X.P ρ _ from h (.not _) (List.mem_singleton.2 rfl)) hp, fun h => h _ (List.mem_singleton.2 rfl)⟩

theorem tidy_ok {C : Cx} {keep : Bool} : ∀ (t : Tree) {n : Nat} {K : List X} {ρ : List V} {L : List LC}, ρ.length = n → (∀ x ∈ K, X.P ρ x ∧ x.bd n = true) → (tidy keep n K t).goal C ρ L → t.goal C ρ L := by
  have ext : ∀ {n m : Nat} {K : List X} {ρ vs : List V}, ρ.length = n → n + vs.length = m → (∀ x ∈ K, X.P ρ x ∧ x.bd n = true) → (ρ ++ vs).length = m ∧ ∀ x ∈ K, X.P (ρ ++ vs) x ∧ x.bd m = true := by
    intro n m K ρ vs hn hm hK
    refine ⟨by simp [hn, hm], fun x hx => ?_⟩
    obtain ⟨h1, h2⟩ := hK x hx
    refine ⟨?_, X.bd_mono (by omega) x h2⟩
    rw [X.P_iff] at h1 ⊢
    rw [← X.ev_bd (ρ := ρ) (by rw [← hn]; exact Agree.app ρ vs) x h2]
    exact h1
  have lrn : ∀ {n : Nat} {l K : List X} {ρ : List V}, (∀ x ∈ K, X.P ρ x ∧ x.bd n = true) → (∀ x ∈ l, X.P ρ x) → ∀ x ∈ learn n l K, X.P ρ x ∧ x.bd n = true := by
    intro n l K ρ hK hl x hx
    simp only [learn, List.mem_append, List.mem_filter] at hx
    rcases hx with ⟨h1, h2⟩ | hx
    · exact ⟨hl x h1, h2⟩
    · exact hK x hx
  intro t
  induction t with
  | ite c t e iht ihe =>
    intro n K ρ L hn hK h
    simp only [tidy] at h
    split at h
    · rename_i hi
      have hc := implied_ok (fun x hx => (hK x hx).1) hi
      exact ⟨fun _ => iht hn hK h, fun hno => absurd hc hno⟩
    · split at h
      · rename_i hi
        have hc : ¬ X.P ρ c := by
          rcases Bool.or_eq_true_iff.1 hi with hi | hi
          · exact (negX_conv ρ c).1 (fun y hy => implied_ok (fun x hx => (hK x hx).1) (List.all_eq_true.1 hi y hy))
          · exact refuted_ok (fun x hx => (hK x hx).1) hi
        exact ⟨fun hyes => absurd hyes hc, fun _ => ihe hn hK h⟩
      · exact ⟨fun hp => iht hn (lrn hK ((pn_ok ρ c).1 hp)) (h.1 hp), fun hp => ihe hn (lrn hK ((pn_ok ρ c).2 hp)) (h.2 hp)⟩
  | need c t ih =>
    intro n K ρ L hn hK h
    simp only [tidy] at h
    split at h
    · rename_i hi
      exact ⟨implied_ok (fun x hx => (hK x hx).1) hi, ih hn hK h⟩
    · exact ⟨h.1, ih hn (lrn hK ((pn_ok ρ c).1 h.1)) h.2⟩
  | bindN t ih => intro n K ρ L hn hK h; exact fun b => have e := ext (vs := [.n b]) hn rfl hK; ih e.1 e.2 (h b)
  | bindV t ih => intro n K ρ L hn hK h; exact fun b => have e := ext (vs := [.v b]) hn rfl hK; ih e.1 e.2 (h b)
  | bindO t ih =>
    intro n K ρ L hn hK h
    simp only [tidy] at h
    split at h
    · exact fun b hb => have e := ext (vs := [.v b]) hn rfl hK; ih e.1 e.2 (h b hb)
    · exact fun b _ => have e := ext (vs := [.v b]) hn rfl hK; ih e.1 e.2 (h b)
  | bindF v t ih =>
    intro n K ρ L hn hK h
    simp only [tidy] at h
    split at h
    · exact fun b hb => have e := ext (vs := [.v b]) hn rfl hK; ih e.1 e.2 (h b hb)
    · exact fun b _ => have e := ext (vs := [.v b]) hn rfl hK; ih e.1 e.2 (h b)
  | letV x t ih => intro n K ρ L hn hK h; exact have e := ext (vs := [x.ev ρ]) hn rfl hK; ih e.1 e.2 h
  | both t e iht ihe => intro n K ρ L hn hK h; exact ⟨iht hn hK h.1, ihe hn hK h.2⟩
  | callP g f args hp res m t ih =>
    intro n K ρ L hn hK h
    obtain ⟨vs, hl, hc, h⟩ := h
    have e := ext (vs := vs) (m := n + m) hn (by rw [hl]) hK
    exact ⟨vs, hl, hc, ih e.1 e.2 h⟩
  | callM f args hp mods gone ms es res m t ih =>
    intro n K ρ L hn hK h w hr
    refine (h w hr).mono ?_
    rintro e w1 ⟨vs, hl, h1, h2, h3, h4, h5, h6⟩
    have e := ext (vs := vs) (m := n + m) hn (by rw [hl]) hK
    exact ⟨vs, hl, h1, h2, h3, h4, h5, ih e.1 e.2 h6⟩
  | openR v ks hp t ih =>
    intro n K ρ L hn hK h
    obtain ⟨rows, h1, h2⟩ := h
    have e := ext (vs := [.r rows]) hn rfl hK
    exact ⟨rows, h1, ih e.1 e.2 h2⟩
  | loop inits t ih =>
    intro n K ρ L hn hK h
    obtain ⟨I, μ, h1, h2⟩ := h
    refine ⟨I, μ, h1, fun vs hl hI => ?_⟩
    have e := ext (vs := vs) (m := n + inits.length) hn (by rw [hl]) hK
    exact ih e.1 e.2 (h2 vs hl hI)
  | join m t e iht ihe =>
    intro n K ρ L hn hK h
    obtain ⟨I, h1, h2⟩ := h
    refine ⟨I, iht hn hK h1, fun vs hl hI => ?_⟩
    have e := ext (vs := vs) (m := n + m) hn (by rw [hl]) hK
    exact ihe e.1 e.2 (h2 vs hl hI)
  | _ => intro n K ρ L hn hK h; exact h

/-- The tree of a function's body, made smaller. -/
def treeOf2 (E : Env) (fn : Func) (n : Nat) (args : List SV) (hp : List Ent) : Tree := tidy false n [] (treeOf E fn n args hp)
/-- What is known of new slices is kept. -/
def treeOf3 (E : Env) (fn : Func) (n : Nat) (args : List SV) (hp : List Ent) : Tree := tidy true n [] (treeOf E fn n args hp)

theorem run_tree2 {P : Program} {E : Env} {B : Base} {R : Ending → World → Prop} (hE : EnvOK P E) {f : FuncId} {fn : Func} {args : List SV} {ρ : List V} {hp : List Ent} {w : World} {t : Tree} {n : Nat} (hf : P.funcs[f]? = some fn)
    (ht : treeOf2 E fn n args hp = t) (hn : ρ.length = n) (hb : fn.body.isSome = true) (hrel : Rel B ρ hp w) (hbh : hp.all (Ent.bd n) = true) (hba : args.all (fun s => s.bd n && s.isVal) = true)
    (h : t.goal ⟨P, B, R⟩ ρ []) : Calls P f (args.map (SV.ev ρ)).toArray w R :=
  run_tree hE hf rfl hn hb hrel hbh hba (tidy_ok (K := []) _ hn (fun x hx => absurd hx List.not_mem_nil) (by rw [← ht] at h; exact h))
theorem run_tree3 {P : Program} {E : Env} {B : Base} {R : Ending → World → Prop} (hE : EnvOK P E) {f : FuncId} {fn : Func} {args : List SV} {ρ : List V} {hp : List Ent} {w : World} {t : Tree} {n : Nat} (hf : P.funcs[f]? = some fn)
    (ht : treeOf3 E fn n args hp = t) (hn : ρ.length = n) (hb : fn.body.isSome = true) (hrel : Rel B ρ hp w) (hbh : hp.all (Ent.bd n) = true) (hba : args.all (fun s => s.bd n && s.isVal) = true)
    (h : t.goal ⟨P, B, R⟩ ρ []) : Calls P f (args.map (SV.ev ρ)).toArray w R :=
  run_tree hE hf rfl hn hb hrel hbh hba (tidy_ok (K := []) _ hn (fun x hx => absurd hx List.not_mem_nil) (by rw [← ht] at h; exact h))
/-- A function of plain arguments: numbers, truth values, texts. -/
theorem run_plain2 {P : Program} {E : Env} {R : Ending → World → Prop} (hE : EnvOK P E) {f : FuncId} {fn : Func} {args : List SV} {ρ : List V} {w : World} {t : Tree} {n : Nat} (hf : P.funcs[f]? = some fn)
    (ht : treeOf2 E fn n args [] = t) (hn : ρ.length = n) (hb : fn.body.isSome = true) (hba : args.all (fun s => s.bd n && s.isVal) = true)
    (h : t.goal ⟨P, ⟨[], w⟩, R⟩ ρ []) : Calls P f (args.map (SV.ev ρ)).toArray w R :=
  run_tree2 hE hf ht hn hb (Rel.start w ρ) rfl hba h

theorem Rel.start2 {w : World} {ρ : List V} {hp : List Ent} (h : ∀ e ∈ hp, e.holds ρ w ∧ e.wr = false) : Rel ⟨[], w⟩ ρ hp w :=
  ⟨Mod.refl _ _, fun e he => (h e he).1, fun e he hw => (by rw [(h e he).2] at hw; cases hw), List.Pairwise.imp_of_mem (fun {a b} ha hb _ hw => (by rcases hw with hw | hw; rw [(h a ha).2] at hw; cases hw; rw [(h b hb).2] at hw; cases hw)) (List.pairwise_of_forall (R := fun _ _ => True) (fun _ _ => trivial))⟩
theorem reads.sc1 {w : World} {v : Value} {ks : List Kd} {rows : List (List Value)} (h : reads w v ks rows) : sc1 v = v := by
  obtain ⟨_, a, cap, rfl, _⟩ := h; rfl

theorem Rel.at_ {B : Base} {ρ : List V} {hp : List Ent} {w : World} (h : Rel B ρ hp w) (i : Nat) {e : Ent} (he : hp[i]? = some e) : e.holds ρ w := h.holds e (List.mem_of_getElem? he)
/-- No assertion at all. -/
def Asrt.tt : Asrt := ⟨fun _ => True, fun _ => False, fun _ _ _ _ => trivial, fun _ _ _ h => h.elim⟩

/-- The bytes of a text, as rows. -/
abbrev byR (l : List UInt8) : List (List Value) := l.map fun b => [Value.int .u8 (b.toNat : Int)]
theorem apart_st {ρ : List V} {v : Nat} {es : List Ent} (hv : ρ.getD v (.i 0) = .a Asrt.tt) (h : Apart ρ es) : Apart ρ (.st v :: es) :=
  List.pairwise_cons.2 ⟨fun e _ _ k hk _ => by simp only [Ent.fp, hv] at hk; exact hk, h⟩
theorem apart_one {ρ : List V} {e : Ent} : Apart ρ [e] := List.pairwise_singleton _ _
theorem apart_nil {ρ : List V} : Apart ρ [] := List.Pairwise.nil

end Go.Sx
