/-
  A small verified symbolic executor (part N: the table of types is checked against the program). By an AI agent.
-/
import Derived.Test.YtcbkkjbgacjncaaDoorZ04
set_option linter.unusedSimpArgs false
set_option linter.unusedVariables false
namespace Go.Sx
open Go

def fldOf (P : Program) (f : Field) : Option (Nat × Nat × Nat × Bool) :=
  if f.name = "_" then none else
  match P.underlying f.type, P.info? f.type with
  | some d, some i => some (f.offset, f.type, i.size, isAggD d)
  | _, _ => none
def fldsOf (P : Program) : List Field → Option (List (Nat × Nat × Nat × Bool))
  | [] => some []
  | f :: fs => do let a ← fldOf P f; let r ← fldsOf P fs; some (a :: r)
def tgOf (P : Program) : TypeDesc → Tg
  | .int k => .int k
  | .bool => .bool
  | .string => .str
  | .struct fs => match fldsOf P fs.toList with | some l => .strct l | none => .other
  | .slice e => .slice e
  | .pointer e => .ptr e
  | _ => .other
def kdOf : Value → Kd
  | .int k _ => .int k
  | .bool _ => .bool
  | .string _ => .str
  | _ => .oth
def scsV : List Value → Option (List Sc)
  | [] => some []
  | v :: vs => do let a ← Sc.ofV v; let r ← scsV vs; some (a :: r)
def isAggV : Value → Bool | .agg _ => true | _ => false
def plainSc : Sc → Bool | .int .. | .bool _ | .str _ => true | _ => false
def mkTI (P : Program) (t : Nat) : Option TI :=
  match P.underlying t, P.info? t with
  | some d, some inf => match inf.zero with
    | some z => match scsV z.cells.toList with
      | some zs => if inf.size = zs.length ∧ isAggV z = isAggD d then some { agg := isAggD d, ks := z.cells.toList.map kdOf, zs := zs, bytes := inf.bytes, tag := tgOf P d, eqs := isAggD d && zs.all plainSc && !P.stoodInHeld t && !P.eqGuardType P.depth t } else none
      | none => none
    | none => none
  | _, _ => none

theorem scsV_ok {ρ : List V} : ∀ {vs : List Value} {zs : List Sc}, scsV vs = some zs → zs.map (Sc.ev ρ) = vs ∧ zs.all (Sc.bd 0) = true := by
  intro vs
  induction vs with
  | nil => intro zs h; simp [scsV] at h; subst h; simp
  | cons v vs ih =>
    intro zs h
    simp only [scsV, Option.bind_eq_bind, Option.bind_eq_some_iff, Option.some.injEq] at h
    obtain ⟨a, ha, r, hr, rfl⟩ := h
    obtain ⟨i1, i2⟩ := ih hr
    refine ⟨by simp [Sc.ofV_ok ha, i1], ?_⟩
    simp only [List.all_cons, Bool.and_eq_true]
    refine ⟨?_, i2⟩
    unfold Sc.ofV at ha
    split at ha <;> simp only [Option.some.injEq, reduceCtorEq] at ha <;> subst ha <;> rfl
theorem fldsOf_ok {P : Program} : ∀ {fs : List Field} {l : List (Nat × Nat × Nat × Bool)}, fldsOf P fs = some l → l.length = fs.length ∧
    ∀ (n : Nat) p, l[n]? = some p → ∃ f d i, fs[n]? = some f ∧ f.offset = p.1 ∧ f.type = p.2.1 ∧ (f.name ≠ "_") ∧ P.underlying f.type = some d ∧ P.info? f.type = some i ∧ i.size = p.2.2.1 ∧ isAggD d = p.2.2.2 := by
  intro fs
  induction fs with
  | nil => intro l h; simp [fldsOf] at h; subst h; simp
  | cons f fs ih =>
    intro l h
    simp only [fldsOf, Option.bind_eq_bind, Option.bind_eq_some_iff, Option.some.injEq] at h
    obtain ⟨a, ha, r, hr, rfl⟩ := h
    obtain ⟨i1, i2⟩ := ih hr
    refine ⟨by simp [i1], fun n p hp => ?_⟩
    cases n with
    | zero =>
      simp at hp; subst hp
      unfold fldOf at ha
      split at ha
      · cases ha
      · rename_i hn
        split at ha
        · rename_i d i h1 h2
          simp at ha; subst ha
          exact ⟨f, d, i, rfl, rfl, rfl, hn, h1, h2, rfl, rfl⟩
        · cases ha
    | succ n => simpa using i2 n p (by simpa using hp)

theorem mkTI_ok {P : Program} {t : Nat} {i : TI} (h : mkTI P t = some i) : TIok P t i := by
  unfold mkTI at h
  split at h
  · rename_i d inf hd hinf
    split at h
    · rename_i z hz
      split at h
      · rename_i zs hzs
        split at h
        · rename_i hcond
          obtain ⟨h1, h2⟩ := hcond
          simp at h; subst h
          obtain ⟨s1, s2⟩ := scsV_ok (ρ := []) hzs
          have hlen : zs.length = z.cells.toList.length := by rw [← s1]; simp
          have hzl : isAggD d = false → zs.length = 1 := by
            intro hg
            rw [hg] at h2
            rw [hlen]
            cases z <;> simp [isAggV] at h2 <;> rfl
          refine ⟨⟨d, inf, z, hd, hinf, by simp [h1, hlen], rfl, hz, s1.symm, s2, by simp [hlen], rfl, ?_, hzl, ?_⟩, fun he => ?_⟩
          · cases d <;> simp only [tgOf, tagOK]
            rename_i fs
            cases hf : fldsOf P fs.toList with
            | none => simp only [tagOK]
            | some l =>
              obtain ⟨f1, f2⟩ := fldsOf_ok hf
              simp only [tagOK]
              exact ⟨by simpa using f1, fun n p hp => by simpa using f2 n p hp⟩
          · cases hg : isAggD d with
            | true =>
              rw [hg] at h2
              cases z <;> simp [isAggV] at h2
              rename_i cs
              simp only [CV.ev, s1]
              rfl
            | false =>
              have := hzl hg
              match zs, this with
              | [s], _ =>
                rw [hg] at h2
                have hs : [s.ev []] = z.cells.toList := by simpa using s1
                cases z <;> simp [isAggV] at h2 <;> simp [Value.cells] at hs <;> simp [CV.ev, hs]
          · simp only [Bool.and_eq_true, Bool.not_eq_true'] at he
            exact ⟨he.1.2, he.2⟩
        · cases h
      · cases h
    · cases h
  · cases h

def Env.check (P : Program) (E : Env) : Bool := E.T.all (fun p => match mkTI P p.1 with | some i => { i with eqs := i.eqs && p.2.eqs } == p.2 | none => false) && E.fs.all (callOK P) && P.follows .mixedOrders
theorem Env.ok {P : Program} {E : Env} (h : E.check P = true) (hin : ∀ p ∈ E.inl, P.funcs[p.1]? = some p.2) : EnvOK P E := by
  unfold Env.check at h
  simp only [Bool.and_eq_true, List.all_eq_true] at h
  refine ⟨fun p hp => ?_, h.1.2, h.2, hin⟩
  · have := h.1.1 p hp
    split at this
    · rename_i i hi
      have hk := mkTI_ok hi
      simp only [beq_iff_eq] at this
      rw [← this]
      exact ⟨hk.ok, fun he => hk.cmp (by simp only [Bool.and_eq_true] at he; exact he.1)⟩
    · cases this

/-- The tree of a function of the program. -/
def treeOf (E : Env) (fn : Func) (n : Nat) (args : List SV) (hp : List Ent) : Tree := fnTree E fn.ntmps fn.results.toList (fn.body.getD .skip) n args hp

theorem run_tree {P : Program} {E : Env} {B : Base} {R : Ending → World → Prop} (hE : EnvOK P E) {f : FuncId} {fn : Func} {args : List SV} {ρ : List V} {hp : List Ent} {w : World} {t : Tree} {n : Nat} (hf : P.funcs[f]? = some fn)
    (ht : treeOf E fn n args hp = t) (hn : ρ.length = n) (hb : fn.body.isSome = true) (hrel : Rel B ρ hp w) (hbh : hp.all (Ent.bd n) = true) (hba : args.all (fun s => s.bd n && s.isVal) = true)
    (h : t.goal ⟨P, B, R⟩ ρ []) : Calls P f (args.map (SV.ev ρ)).toArray w R := by
  subst hn ht
  refine run_fn (C := ⟨P, B, R⟩) hE (c := fn.body.getD .skip) hf ?_ hrel hbh hba h
  cases hb' : fn.body with
  | none => rw [hb'] at hb; cases hb
  | some c => rfl

theorem Rel.start (w : World) (ρ : List V) : Rel ⟨[], w⟩ ρ [] w := ⟨Mod.refl _ _, by simp, by simp, List.Pairwise.nil⟩

theorem as_called {P : Program} {f : FuncId} {as as' : Array Value} {w : World} {R : Ending → World → Prop} (h : Calls P f as w R) (he : as = as') : Calls P f as' w R := he ▸ h

/-- A function of plain arguments: numbers, truth values, texts. -/
theorem run_plain {P : Program} {E : Env} {R : Ending → World → Prop} (hE : EnvOK P E) {f : FuncId} {fn : Func} {args : List SV} {ρ : List V} {w : World} {t : Tree} {n : Nat} (hf : P.funcs[f]? = some fn)
    (ht : treeOf E fn n args [] = t) (hn : ρ.length = n) (hb : fn.body.isSome = true) (hba : args.all (fun s => s.bd n && s.isVal) = true)
    (h : t.goal ⟨P, ⟨[], w⟩, R⟩ ρ []) : Calls P f (args.map (SV.ev ρ)).toArray w R :=
  run_tree hE hf ht hn hb (Rel.start w ρ) rfl hba h

/-- Of a pure result. -/
theorem goal_ret {C : Cx} {v : SV} {hp : List Ent} {ρ : List V} {L : List LC} {x : Value} (hC : C.R = fun e w' => e = .returned x ∧ Mod C.B.fp C.B.w0 w') (h : v.ev ρ = x) : (Tree.ret v hp).goal C ρ L := by
  intro w hr
  rw [hC]
  exact ⟨by rw [h], hr.mod⟩

end Go.Sx

/-
  A small verified symbolic executor (part O: trees made smaller: what is known already is not asked again). By an AI agent.
-/
set_option linter.unusedSimpArgs false
set_option linter.unusedVariables false
namespace Go.Sx
open Go

mutual
/-- What a condition tells where it holds .. -/
def posX : X → List X
  | .and a b => posX a ++ posX b
  | .not x => negX x
  | x => [x]
/-- .. and where it does not. -/
def negX : X → List X
  | .or a b => negX a ++ negX b
  | .not x => posX x
  | x => [.not x]
end
theorem pn_ok (ρ : List V) : ∀ x : X, (X.P ρ x → ∀ y ∈ posX x, X.P ρ y) ∧ (¬ X.P ρ x → ∀ y ∈ negX x, X.P ρ y) := by
  intro x
  induction x with
  | and a b iha ihb =>
    refine ⟨fun h y hy => ?_, fun h y hy => ?_⟩
    · simp only [posX, List.mem_append] at hy
      rcases hy with hy | hy
      · exact iha.1 h.1 y hy
      · exact ihb.1 h.2 y hy
    · simp only [negX, List.mem_singleton] at hy; subst hy; exact h
  | or a b iha ihb =>
    refine ⟨fun h y hy => ?_, fun h y hy => ?_⟩
    · simp only [posX, List.mem_singleton] at hy; subst hy; exact h
    · simp only [negX, List.mem_append] at hy
      simp only [X.P, not_or] at h
      rcases hy with hy | hy
      · exact iha.2 h.1 y hy
      · exact ihb.2 h.2 y hy
  | not a ih =>
    refine ⟨fun h y hy => ?_, fun h y hy => ?_⟩
    · simp only [posX] at hy; exact ih.2 h y hy
    · simp only [negX] at hy; exact ih.1 (Classical.not_not.1 h) y hy
  | _ => exact ⟨fun h y hy => by simp only [posX, List.mem_singleton] at hy; subst hy; exact h, fun h y hy => by simp only [negX, List.mem_singleton] at hy; subst hy; exact h⟩

/-- Is a condition among what is known? -/
def implied (K : List X) : X → Bool
  | .and a b => implied K a && implied K b
  | .or a b => K.contains (.or a b) || implied K a || implied K b
  | .not x => K.contains (.not x)
  | .le (.I a) (.I b) => decide (a ≤ b)
  | .eqI (.I a) (.I b) => decide (a = b)
  | .lt (.I a) (.I b) => decide (a < b)
  | .B b => b
  | x => K.contains x
theorem implied_ok {K : List X} {ρ : List V} (hK : ∀ x ∈ K, X.P ρ x) : ∀ {c : X}, implied K c = true → X.P ρ c := by
  intro c
  induction c with
  | and a b iha ihb => intro h; simp only [implied, Bool.and_eq_true] at h; exact ⟨iha h.1, ihb h.2⟩
  | or a b iha ihb =>
    intro h
    simp only [implied, Bool.or_eq_true] at h
    rcases h with (h | h) | h
    · exact hK _ (by simpa using h)
    · exact .inl (iha h)
    · exact .inr (ihb h)
  | le a b =>
    intro h
    unfold implied at h
    split at h <;> (try cases ‹X.le _ _ = _›)
    · simpa [X.P, X.ev] using h
    · exact hK _ (by simpa using h)
  | eqI a b =>
    intro h
    unfold implied at h
    split at h <;> (try cases ‹X.eqI _ _ = _›)
    · simpa [X.P, X.ev] using h
    · exact hK _ (by simpa using h)
  | lt a b =>
    intro h
    unfold implied at h
    split at h <;> (try cases ‹X.lt _ _ = _›)
    · simpa [X.P, X.ev] using h
    · exact hK _ (by simpa using h)
  | B b => intro h; simpa [implied, X.P] using h
  | _ => intro h; exact hK _ (by simpa [implied] using h)

/-- Does a condition fail by what is known, or by its numbers? -/
def refuted (K : List X) : X → Bool
  | .and a b => refuted K a || refuted K b
  | .or a b => refuted K a && refuted K b
  | .not x => implied K x
  | .eqI (.I a) (.I b) => !(decide (a = b))
  | .lt (.I a) (.I b) => !(decide (a < b))
  | .B b => !b
  | x => K.contains (.not x)
theorem refuted_ok {K : List X} {ρ : List V} (hK : ∀ x ∈ K, X.P ρ x) : ∀ {c : X}, refuted K c = true → ¬ X.P ρ c := by
  intro c
  induction c with
  | and a b iha ihb =>
    intro h hp
    simp only [refuted, Bool.or_eq_true] at h
    rcases h with h | h
    · exact iha h hp.1
    · exact ihb h hp.2
  | or a b iha ihb =>
    intro h hp
    simp only [refuted, Bool.and_eq_true] at h
    rcases hp with hp | hp
    · exact iha h.1 hp
    · exact ihb h.2 hp
  | not a ih => intro h hp; exact hp (implied_ok hK (by simpa only [refuted] using h))
  | eqI a b =>
    intro h
    unfold refuted at h
    split at h <;> (try cases ‹X.eqI _ _ = _›)
    · simpa [X.P, X.ev] using h
    · exact hK (.not _) (by simpa using h)
  | lt a b =>
    intro h
    unfold refuted at h
    split at h <;> (try cases ‹X.lt _ _ = _›)
    · simpa [X.P, X.ev] using h
    · exact hK (.not _) (by simpa using h)
  | B b => intro h; simpa [refuted, X.P] using h
  | _ => intro h; exact hK (.not _) (by simpa [refuted] using h)

def learn (n : Nat) (l K : List X) : List X := (l.filter fun x => x.bd n) ++ K

/-- keep: what is known of new slices is kept. -/
def tidy (keep : Bool) : Nat → List X → Tree → Tree
  | n, K, .ite c t e =>
    if implied K c then tidy keep n K t else if ((negX c).all (implied K) || refuted K c) = true then tidy keep n K e
    else .ite c (tidy keep n (learn n (posX c) K) t) (tidy keep n (learn n (negX c) K) e)
  | n, K, .need c t => if implied K c then tidy keep n K t else .need c (tidy keep n (learn n (posX c) K) t)
  | n, K, .bindN t => .bindN (tidy keep (n + 1) K t)
  | n, K, .bindV t => .bindV (tidy keep (n + 1) K t)
  | n, K, .bindO t => if keep = true then .bindO (tidy keep (n + 1) K t) else .bindV (tidy keep (n + 1) K t)
  | n, K, .bindF v t => if keep = true then .bindF v (tidy keep (n + 1) K t) else .bindV (tidy keep (n + 1) K t)
  | n, K, .letV v t => .letV v (tidy keep (n + 1) K t)
  | n, K, .callP g f args hp res m t => .callP g f args hp res m (tidy keep (n + m) K t)
  | n, K, .callM f args hp mods gone ms es res m t => .callM f args hp mods gone ms es res m (tidy keep (n + m) K t)
  | n, K, .both t e => .both (tidy keep n K t) (tidy keep n K e)
  | n, K, .openR v ks hp t => .openR v ks hp (tidy keep (n + 1) K t)
  | n, K, .pack hp t => .pack hp (tidy keep (n + 1) K t)
  | n, K, .loop inits t => .loop inits (tidy keep (n + inits.length) K t)
  | n, K, .join m t e => .join m (tidy keep n K t) (tidy keep (n + m) K e)
  | _, _, t => t

theorem negX_conv (ρ : List V) : ∀ x : X, ((∀ y ∈ negX x, X.P ρ y) → ¬ X.P ρ x) ∧ ((∀ y ∈ posX x, X.P ρ y) → X.P ρ x) := by
  intro x
  induction x with
  | or a b iha ihb =>
    refine ⟨fun h hp => ?_, fun h => h _ (by simp [posX])⟩
    simp only [negX, List.mem_append] at h
    rcases hp with hp | hp
    · exact iha.1 (fun y hy => h y (.inl hy)) hp
    · exact ihb.1 (fun y hy => h y (.inr hy)) hp
  | and a b iha ihb =>
    refine ⟨fun h hp => (show ¬ X.P ρ (.and a b) from h (.not (.and a b)) (List.mem_singleton.2 rfl)) hp, fun h => ?_⟩
    simp only [posX, List.mem_append] at h
    exact ⟨iha.2 fun y hy => h y (.inl hy), ihb.2 fun y hy => h y (.inr hy)⟩
  | not a ih =>
    refine ⟨fun h hp => hp (ih.2 (by simpa only [negX] using h)), fun h hp => ih.1 (by simpa only [posX] using h) hp⟩
  | _ => exact ⟨fun h hp => (show ¬ X.P ρ _ from h (.not _) (List.mem_singleton.2 rfl)) hp, fun h => h _ (List.mem_singleton.2 rfl)⟩

theorem tidy_ok {C : Cx} {keep : Bool} : ∀ (t : Tree) {n : Nat} {K : List X} {ρ : List V} {L : List LC}, ρ.length = n → (∀ x ∈ K, X.P ρ x ∧ x.bd n = true) → (tidy keep n K t).goal C ρ L → t.goal C ρ L := by
  have ext : ∀ {n m : Nat} {K : List X} {ρ vs : List V}, ρ.length = n → n + vs.length = m → (∀ x ∈ K, X.P ρ x ∧ x.bd n = true) → (ρ ++ vs).length = m ∧ ∀ x ∈ K, X.P (ρ ++ vs) x ∧ x.bd m = true := by
    intro n m K ρ vs hn hm hK
    refine ⟨by simp [hn, hm], fun x hx => ?_⟩
    obtain ⟨h1, h2⟩ := hK x hx
    refine ⟨?_, X.bd_mono (by omega) x h2⟩
    rw [X.P_iff] at h1 ⊢
    rw [← X.ev_bd (ρ := ρ) (by rw [← hn]; exact Agree.app ρ vs) x h2]
    exact h1
  have lrn : ∀ {n : Nat} {l K : List X} {ρ : List V}, (∀ x ∈ K, X.P ρ x ∧ x.bd n = true) → (∀ x ∈ l, X.P ρ x) → ∀ x ∈ learn n l K, X.P ρ x ∧ x.bd n = true := by
    intro n l K ρ hK hl x hx
    simp only [learn, List.mem_append, List.mem_filter] at hx
    rcases hx with ⟨h1, h2⟩ | hx
    · exact ⟨hl x h1, h2⟩
    · exact hK x hx
  intro t
  induction t with
  | ite c t e iht ihe =>
    intro n K ρ L hn hK h
    simp only [tidy] at h
    split at h
    · rename_i hi
      have hc := implied_ok (fun x hx => (hK x hx).1) hi
      exact ⟨fun _ => iht hn hK h, fun hno => absurd hc hno⟩
    · split at h
      · rename_i hi
        have hc : ¬ X.P ρ c := by
          rcases Bool.or_eq_true_iff.1 hi with hi | hi
          · exact (negX_conv ρ c).1 (fun y hy => implied_ok (fun x hx => (hK x hx).1) (List.all_eq_true.1 hi y hy))
          · exact refuted_ok (fun x hx => (hK x hx).1) hi
        exact ⟨fun hyes => absurd hyes hc, fun _ => ihe hn hK h⟩
      · exact ⟨fun hp => iht hn (lrn hK ((pn_ok ρ c).1 hp)) (h.1 hp), fun hp => ihe hn (lrn hK ((pn_ok ρ c).2 hp)) (h.2 hp)⟩
  | need c t ih =>
    intro n K ρ L hn hK h
    simp only [tidy] at h
    split at h
    · rename_i hi
      exact ⟨implied_ok (fun x hx => (hK x hx).1) hi, ih hn hK h⟩
    · exact ⟨h.1, ih hn (lrn hK ((pn_ok ρ c).1 h.1)) h.2⟩
  | bindN t ih => intro n K ρ L hn hK h; exact fun b => have e := ext (vs := [.n b]) hn rfl hK; ih e.1 e.2 (h b)
  | bindV t ih => intro n K ρ L hn hK h; exact fun b => have e := ext (vs := [.v b]) hn rfl hK; ih e.1 e.2 (h b)
  | bindO t ih =>
    intro n K ρ L hn hK h
    simp only [tidy] at h
    split at h
    · exact fun b hb => have e := ext (vs := [.v b]) hn rfl hK; ih e.1 e.2 (h b hb)
    · exact fun b _ => have e := ext (vs := [.v b]) hn rfl hK; ih e.1 e.2 (h b)
  | bindF v t ih =>
    intro n K ρ L hn hK h
    simp only [tidy] at h
    split at h
    · exact fun b hb => have e := ext (vs := [.v b]) hn rfl hK; ih e.1 e.2 (h b hb)
    · exact fun b _ => have e := ext (vs := [.v b]) hn rfl hK; ih e.1 e.2 (h b)
  | letV x t ih => intro n K ρ L hn hK h; exact have e := ext (vs := [x.ev ρ]) hn rfl hK; ih e.1 e.2 h
  | both t e iht ihe => intro n K ρ L hn hK h; exact ⟨iht hn hK h.1, ihe hn hK h.2⟩
  | callP g f args hp res m t ih =>
    intro n K ρ L hn hK h
    obtain ⟨vs, hl, hc, h⟩ := h
    have e := ext (vs := vs) (m := n + m) hn (by rw [hl]) hK
    exact ⟨vs, hl, hc, ih e.1 e.2 h⟩
  | callM f args hp mods gone ms es res m t ih =>
    intro n K ρ L hn hK h w hr
    refine (h w hr).mono ?_
    rintro e w1 ⟨vs, hl, h1, h2, h3, h4, h5, h6⟩
    have e := ext (vs := vs) (m := n + m) hn (by rw [hl]) hK
    exact ⟨vs, hl, h1, h2, h3, h4, h5, ih e.1 e.2 h6⟩
  | openR v ks hp t ih =>
    intro n K ρ L hn hK h
    obtain ⟨rows, h1, h2⟩ := h
    have e := ext (vs := [.r rows]) hn rfl hK
    exact ⟨rows, h1, ih e.1 e.2 h2⟩
  | pack hp t ih =>
    intro n K ρ L hn hK h
    obtain ⟨A, h1, h2, h3⟩ := h
    have e := ext (vs := [.a A]) hn rfl hK
    exact ⟨A, h1, h2, ih e.1 e.2 h3⟩
  | loop inits t ih =>
    intro n K ρ L hn hK h
    obtain ⟨I, μ, h1, h2⟩ := h
    refine ⟨I, μ, h1, fun vs hl hI => ?_⟩
    have e := ext (vs := vs) (m := n + inits.length) hn (by rw [hl]) hK
    exact ih e.1 e.2 (h2 vs hl hI)
  | join m t e iht ihe =>
    intro n K ρ L hn hK h
    obtain ⟨I, h1, h2⟩ := h
    refine ⟨I, iht hn hK h1, fun vs hl hI => ?_⟩
    have e := ext (vs := vs) (m := n + m) hn (by rw [hl]) hK
    exact ihe e.1 e.2 (h2 vs hl hI)
  | _ => intro n K ρ L hn hK h; exact h

/-- The tree of a function's body, made smaller. -/
def treeOf2 (E : Env) (fn : Func) (n : Nat) (args : List SV) (hp : List Ent) : Tree := tidy false n [] (treeOf E fn n args hp)
/-- What is known of new slices is kept. -/
def treeOf3 (E : Env) (fn : Func) (n : Nat) (args : List SV) (hp : List Ent) : Tree := tidy true n [] (treeOf E fn n args hp)

theorem run_tree2 {P : Program} {E : Env} {B : Base} {R : Ending → World → Prop} (hE : EnvOK P E) {f : FuncId} {fn : Func} {args : List SV} {ρ : List V} {hp : List Ent} {w : World} {t : Tree} {n : Nat} (hf : P.funcs[f]? = some fn)
    (ht : treeOf2 E fn n args hp = t) (hn : ρ.length = n) (hb : fn.body.isSome = true) (hrel : Rel B ρ hp w) (hbh : hp.all (Ent.bd n) = true) (hba : args.all (fun s => s.bd n && s.isVal) = true)
    (h : t.goal ⟨P, B, R⟩ ρ []) : Calls P f (args.map (SV.ev ρ)).toArray w R :=
  run_tree hE hf rfl hn hb hrel hbh hba (tidy_ok (K := []) _ hn (fun x hx => absurd hx List.not_mem_nil) (by rw [← ht] at h; exact h))
theorem run_tree3 {P : Program} {E : Env} {B : Base} {R : Ending → World → Prop} (hE : EnvOK P E) {f : FuncId} {fn : Func} {args : List SV} {ρ : List V} {hp : List Ent} {w : World} {t : Tree} {n : Nat} (hf : P.funcs[f]? = some fn)
    (ht : treeOf3 E fn n args hp = t) (hn : ρ.length = n) (hb : fn.body.isSome = true) (hrel : Rel B ρ hp w) (hbh : hp.all (Ent.bd n) = true) (hba : args.all (fun s => s.bd n && s.isVal) = true)
    (h : t.goal ⟨P, B, R⟩ ρ []) : Calls P f (args.map (SV.ev ρ)).toArray w R :=
  run_tree hE hf rfl hn hb hrel hbh hba (tidy_ok (K := []) _ hn (fun x hx => absurd hx List.not_mem_nil) (by rw [← ht] at h; exact h))
/-- A function of plain arguments: numbers, truth values, texts. -/
theorem run_plain2 {P : Program} {E : Env} {R : Ending → World → Prop} (hE : EnvOK P E) {f : FuncId} {fn : Func} {args : List SV} {ρ : List V} {w : World} {t : Tree} {n : Nat} (hf : P.funcs[f]? = some fn)
    (ht : treeOf2 E fn n args [] = t) (hn : ρ.length = n) (hb : fn.body.isSome = true) (hba : args.all (fun s => s.bd n && s.isVal) = true)
    (h : t.goal ⟨P, ⟨[], w⟩, R⟩ ρ []) : Calls P f (args.map (SV.ev ρ)).toArray w R :=
  run_tree2 hE hf ht hn hb (Rel.start w ρ) rfl hba h

theorem Rel.start2 {w : World} {ρ : List V} {hp : List Ent} (h : ∀ e ∈ hp, e.holds ρ w ∧ e.wr = false) : Rel ⟨[], w⟩ ρ hp w :=
  ⟨Mod.refl _ _, fun e he => (h e he).1, fun e he hw => (by rw [(h e he).2] at hw; cases hw), List.Pairwise.imp_of_mem (fun {a b} ha hb _ hw => (by rcases hw with hw | hw; rw [(h a ha).2] at hw; cases hw; rw [(h b hb).2] at hw; cases hw)) (List.pairwise_of_forall (R := fun _ _ => True) (fun _ _ => trivial))⟩
theorem reads.sc1 {w : World} {v : Value} {ks : List Kd} {rows : List (List Value)} (h : reads w v ks rows) : sc1 v = v := by
  obtain ⟨_, a, cap, rfl, _⟩ := h; rfl

theorem Rel.at_ {B : Base} {ρ : List V} {hp : List Ent} {w : World} (h : Rel B ρ hp w) (i : Nat) {e : Ent} (he : hp[i]? = some e) : e.holds ρ w := h.holds e (List.mem_of_getElem? he)
/-- No assertion at all. -/
def Asrt.tt : Asrt := ⟨fun _ => True, fun _ => False, fun _ _ _ _ => trivial, fun _ _ _ h => h.elim⟩

/-- The bytes of a text, as rows. -/
abbrev byR (l : List UInt8) : List (List Value) := l.map fun b => [Value.int .u8 (b.toNat : Int)]
theorem apart_st {ρ : List V} {v : Nat} {es : List Ent} (hv : ρ.getD v (.i 0) = .a Asrt.tt) (h : Apart ρ es) : Apart ρ (.st v :: es) :=
  List.pairwise_cons.2 ⟨fun e _ _ k hk _ => by simp only [Ent.fp, hv] at hk; exact hk, h⟩
theorem apart_one {ρ : List V} {e : Ent} : Apart ρ [e] := List.pairwise_singleton _ _
theorem apart_nil {ρ : List V} : Apart ρ [] := List.Pairwise.nil

end Go.Sx

/-
  A small verified symbolic executor (part P: what a called function wants and gives, as assertions over any names). By an AI agent.
-/
set_option linter.unusedSimpArgs false
set_option linter.unusedVariables false
namespace Go.Sx
open Go

/-- What an entry says, without names. -/
structure SEnt where
  holds : World → Prop
  fp : Nat → Prop
  wr : Bool
def Ent.sem (ρ : List V) (e : Ent) : SEnt := ⟨e.holds ρ, fun k => e.fp ρ k, e.wr⟩
theorem Rel.conv {B : Base} {ρ ρ' : List V} {hp hp' : List Ent} {w : World} (h : Rel B ρ hp w) (e : hp.map (Ent.sem ρ) = hp'.map (Ent.sem ρ')) : Rel B ρ' hp' w := by
  have hm : ∀ x ∈ hp', ∃ y ∈ hp, Ent.sem ρ y = Ent.sem ρ' x := fun x hx => by
    have : Ent.sem ρ' x ∈ hp.map (Ent.sem ρ) := by rw [e]; exact List.mem_map_of_mem hx
    obtain ⟨y, hy, he⟩ := List.mem_map.1 this
    exact ⟨y, hy, he⟩
  refine ⟨h.mod, fun x hx => ?_, fun x hx hw k hk => ?_, ?_⟩
  · obtain ⟨y, hy, he⟩ := hm x hx
    have := h.holds y hy
    have e1 : y.holds ρ w = x.holds ρ' w := congrFun (congrArg SEnt.holds he) w
    rw [← e1]; exact this
  · obtain ⟨y, hy, he⟩ := hm x hx
    have e1 : y.fp ρ k = x.fp ρ' k := congrFun (congrArg SEnt.fp he) k
    have e2 : y.wr = x.wr := congrArg SEnt.wr he
    exact h.own y hy (by rw [e2]; exact hw) k (by rw [e1]; exact hk)
  · have h1 : (hp.map (Ent.sem ρ)).Pairwise fun e e' => (e.wr = true ∨ e'.wr = true) → ∀ k, e.fp k → e'.fp k → False := List.pairwise_map.2 h.sep
    rw [e] at h1
    exact List.pairwise_map.1 h1
theorem Apart.disj {ρ : List V} {hp : List Ent} (h : Apart ρ hp) {i j : Nat} {a b : Ent} (hi : hp[i]? = some a) (hj : hp[j]? = some b) (hij : i ≠ j) (hw : a.wr = true ∨ b.wr = true) {k : Nat} (h1 : a.fp ρ k) (h2 : b.fp ρ k) : False := by
  unfold Apart at h
  rw [List.pairwise_iff_getElem] at h
  obtain ⟨li, ei⟩ := List.getElem?_eq_some_iff.1 hi
  obtain ⟨lj, ej⟩ := List.getElem?_eq_some_iff.1 hj
  rcases Nat.lt_or_ge i j with hlt | hge
  · have := h i j li lj hlt
    rw [ei, ej] at this
    exact this hw k h1 h2
  · have := h j i lj li (by omega)
    rw [ei, ej] at this
    exact this hw.symm k h2 h1
theorem pick_pw {α : Type} {l : List α} {R : α → α → Prop} (h : ∀ (i j : Nat) (a b : α), l[i]? = some a → l[j]? = some b → i ≠ j → R a b) : ∀ {is : List Nat}, is.Nodup → (is.filterMap fun i => l[i]?).Pairwise R
  | [], _ => .nil
  | i :: is, hn => by
    obtain ⟨h1, h2⟩ := List.nodup_cons.1 hn
    rw [List.filterMap_cons]
    cases hi : l[i]? with
    | none => simp only []; exact pick_pw h h2
    | some a =>
      simp only []
      refine List.pairwise_cons.2 ⟨fun b hb => ?_, pick_pw h h2⟩
      obtain ⟨j, hj, hb⟩ := List.mem_filterMap.1 hb
      exact h i j a b hi hb (fun e => h1 (e ▸ hj))
/-- Some entries, in another order. -/
theorem Rel.pick {B : Base} {ρ : List V} {hp : List Ent} {w : World} (h : Rel B ρ hp w) (is : List Nat) (hn : is.Nodup) : Rel B ρ (is.filterMap fun i => hp[i]?) w := by
  have hm : ∀ e ∈ is.filterMap (fun i => hp[i]?), e ∈ hp := fun e he => by
    obtain ⟨i, -, hi⟩ := List.mem_filterMap.1 he
    exact List.mem_of_getElem? hi
  exact ⟨h.mod, fun e he => h.holds e (hm e he), fun e he => h.own e (hm e he), pick_pw (fun i j a b hi hj hij hw k h1 h2 => h.sep.disj hi hj hij hw h1 h2) hn⟩
/-- The blocks that entries may write. -/
def Ent.fpl (ρ : List V) : Ent → List Nat
  | .cells v _ _ => [(ρ.getD v (.i 0)).toN]
  | .row v _ _ _ => (ρ.getD v (.i 0)).toV.ownBlock.toList
  | _ => []
def fpAll (ρ : List V) (hp : List Ent) : List Nat := hp.flatMap (Ent.fpl ρ)
theorem Ent.fpl_ok {ρ : List V} {e : Ent} (hw : e.wr = true) {k : Nat} : e.fp ρ k ↔ k ∈ e.fpl ρ := by
  cases e with
  | cells v ty cs => simp [Ent.fp, Ent.fpl]
  | row v ty ks r => simp [Ent.fp, Ent.fpl, blockOf, Option.mem_toList]
  | rd v ks r => cases hw
  | st v => cases hw
theorem mem_fpAll {ρ : List V} {hp : List Ent} {e : Ent} (he : e ∈ hp) (hw : e.wr = true) {k : Nat} (hk : e.fp ρ k) : k ∈ fpAll ρ hp := List.mem_flatMap.2 ⟨e, he, (Ent.fpl_ok hw).1 hk⟩
/-- From here on. -/
theorem Rel.base {B : Base} {ρ : List V} {hp : List Ent} {w : World} (h : Rel B ρ hp w) : Rel ⟨fpAll ρ hp, w⟩ ρ hp w :=
  ⟨Mod.refl _ _, h.holds, fun e he hw k hk => .inr (mem_fpAll he hw hk), h.sep⟩
/-- A nil slice that the call owns. -/
theorem Rel.nilRow {B : Base} {ρ : List V} {hp : List Ent} {w : World} (h : Rel B ρ hp w) (v ty : Nat) (ks : List Kd) (hv : ρ.getD v (.i 0) = .v (.slice none 0 0)) : Rel B ρ (.row v ty ks .nilR :: hp) w :=
  h.cons (by simp only [Ent.holds, hv, V.toV_v, X.ev, V.toR_r]; exact ⟨by simp, World.ownsRow_nil _ _ _ _⟩)
    (fun _ k hk => by simp only [Ent.fp, hv, V.toV_v, blockOf, Value.ownBlock] at hk; cases hk)
    (fun e' _ _ k hk _ => by simp only [Ent.fp, hv, V.toV_v, blockOf, Value.ownBlock] at hk; cases hk)

/-- What a plain call owns is new. -/
theorem Rel.fresh {w w' : World} {ρ : List V} {hp : List Ent} (hr : Rel ⟨[], w⟩ ρ hp w') (i : Nat) {v ty : Nat} {ks : List Kd} {r : X} (h : hp[i]? = some (.row v ty ks r)) : ∀ k, blockOf (ρ.getD v (.i 0)).toV k → w.heap.size ≤ k := fun k hk => by
  rcases hr.own _ (List.mem_of_getElem? h) rfl k hk with h | h
  · exact h
  · simp at h

/-- What a call that gives back owned slices, and writes cells, must show: an assertion on what it gives. -/
theorem callM_rel {C : Cx} {P : Program} {f : Nat} {args : Array Value} {w : World} {ρ : List V} {hp : List Ent} {mods gone : List Nat} {ms es : List Ent} {res : SV} {m : Nat} {t : Tree} {L : List LC}
    (hms : ms.map (fun e => match e with | .cells v _ _ => v | _ => 0) = mods) (hmc : ∀ e ∈ ms, ∃ v ty cs, e = Ent.cells v ty cs) (hw : ∀ e ∈ es, e.wr = true) (hb : ∀ v ∈ mods, v < ρ.length)
    (h : Calls P f args w fun e w1 => ∃ vs : List V, vs.length = m ∧ e = .returned (res.ev (ρ ++ vs)) ∧ Rel ⟨modsOf ρ mods gone, w⟩ (ρ ++ vs) (ms ++ es) w1 ∧ t.goal C (ρ ++ vs) L) :
    Calls P f args w fun e w1 => ∃ vs : List V, vs.length = m ∧ e = .returned (res.ev (ρ ++ vs)) ∧ Mod (modsOf ρ mods gone) w w1 ∧ (∀ x ∈ ms, x.holds (ρ ++ vs) w1) ∧
        (∀ x ∈ es, x.holds (ρ ++ vs) w1 ∧ ∀ k, x.fp (ρ ++ vs) k → w.heap.size ≤ k ∨ (x.wr = false ∧ ∃ y ∈ hp, y.wr = false ∧ y.fp ρ k) ∨ k ∈ goneOf ρ gone) ∧ Apart (ρ ++ vs) es ∧ t.goal C (ρ ++ vs) L := by
  refine h.mono ?_
  rintro e w1 ⟨vs, h1, h2, h3, h4⟩
  refine ⟨vs, h1, h2, h3.mod, fun x hx => h3.holds x (List.mem_append_left _ hx), fun x hx => ⟨h3.holds x (List.mem_append_right _ hx), fun k hk => ?_⟩, (List.pairwise_append.1 h3.sep).2.1, h4⟩
  rcases h3.own x (List.mem_append_right _ hx) (hw x hx) k hk with h5 | h5
  · exact .inl h5
  · simp only [modsOf, List.mem_append] at h5
    rcases h5 with h5 | h5
    · exfalso
      obtain ⟨v, hv, rfl⟩ := List.mem_map.1 h5
      have hv' := hv
      rw [← hms] at hv'
      obtain ⟨y, hy, hyv⟩ := List.mem_map.1 hv'
      obtain ⟨v', ty, cs, rfl⟩ := hmc y hy
      simp only at hyv
      subst hyv
      refine (List.pairwise_append.1 h3.sep).2.2 _ hy x hx (.inl rfl) _ ?_ hk
      have := hb v' hv
      simp [Ent.fp, List.getD_eq_getElem?_getD, List.getElem?_append_left this]
    · exact .inr (.inr h5)

/-- The first assertion, and all others. -/
theorem Rel.hd {B : Base} {ρ : List V} {e : Ent} {hp : List Ent} {w : World} (h : Rel B ρ (e :: hp) w) : e.holds ρ w := h.holds e (List.mem_cons_self ..)
theorem Rel.tl {B : Base} {ρ : List V} {e : Ent} {hp : List Ent} {w : World} (h : Rel B ρ (e :: hp) w) : Rel B ρ hp w :=
  ⟨h.mod, fun x hx => h.holds x (List.mem_cons_of_mem _ hx), fun x hx => h.own x (List.mem_cons_of_mem _ hx), (List.pairwise_cons.1 h.sep).2⟩
theorem exq_hd {x : Ent} {hp : List Ent} {p : Ent → Prop} (h : p x) : ∃ y ∈ x :: hp, p y := ⟨x, List.mem_cons_self .., h⟩
theorem exq_tl {x : Ent} {hp : List Ent} {p : Ent → Prop} (h : ∃ y ∈ hp, p y) : ∃ y ∈ x :: hp, p y := by
  obtain ⟨y, hy, h⟩ := h
  exact ⟨y, List.mem_cons_of_mem _ hy, h⟩
end Go.Sx
