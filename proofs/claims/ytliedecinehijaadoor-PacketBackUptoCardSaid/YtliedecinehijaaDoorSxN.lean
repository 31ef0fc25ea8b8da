/-
  A small verified symbolic executor (part N: the table of types is checked against the program). By an AI agent.
-/
import Derived.Test.YtliedecinehijaaDoorSxM
set_option linter.unusedSimpArgs false
set_option linter.unusedVariables false
namespace Go.Sx
open Go

def fldOf (P : Program) (f : Field) : Option (Nat × Nat × Nat × Bool) :=
  if f.name = "_" then none else
  match P.underlying f.type, P.info? f.type with
  | some d, some i => some (f.offset, f.type, i.size, isAggD d)
  | _, _ => none
def fldsOf (P : Program) : List Field → Option (List (Nat × Nat × Nat × Bool))
  | [] => some []
  | f :: fs => do let a ← fldOf P f; let r ← fldsOf P fs; some (a :: r)
def tgOf (P : Program) : TypeDesc → Tg
  | .int k => .int k
  | .bool => .bool
  | .string => .str
  | .struct fs => match fldsOf P fs.toList with | some l => .strct l | none => .other
  | .slice e => .slice e
  | .pointer e => .ptr e
  | _ => .other
def kdOf : Value → Kd
  | .int k _ => .int k
  | .bool _ => .bool
  | .string _ => .str
  | _ => .oth
def scsV : List Value → Option (List Sc)
  | [] => some []
  | v :: vs => do let a ← Sc.ofV v; let r ← scsV vs; some (a :: r)
def isAggV : Value → Bool | .agg _ => true | _ => false
def plainSc : Sc → Bool | .int .. | .bool _ | .str _ => true | _ => false
def mkTI (P : Program) (t : Nat) : Option TI :=
  match P.underlying t, P.info? t with
  | some d, some inf => match inf.zero with
    | some z => match scsV z.cells.toList with
      | some zs => if inf.size = zs.length ∧ isAggV z = isAggD d then some { agg := isAggD d, ks := z.cells.toList.map kdOf, zs := zs, bytes := inf.bytes, tag := tgOf P d, eqs := isAggD d && zs.all plainSc && !P.stoodInHeld t && !P.eqGuardType P.depth t } else none
      | none => none
    | none => none
  | _, _ => none

theorem scsV_ok {ρ : List V} : ∀ {vs : List Value} {zs : List Sc}, scsV vs = some zs → zs.map (Sc.ev ρ) = vs ∧ zs.all (Sc.bd 0) = true := by
  intro vs
  induction vs with
  | nil => intro zs h; simp [scsV] at h; subst h; simp
  | cons v vs ih =>
    intro zs h
    simp only [scsV, Option.bind_eq_bind, Option.bind_eq_some_iff, Option.some.injEq] at h
    obtain ⟨a, ha, r, hr, rfl⟩ := h
    obtain ⟨i1, i2⟩ := ih hr
    refine ⟨by simp [Sc.ofV_ok ha, i1], ?_⟩
    simp only [List.all_cons, Bool.and_eq_true]
    refine ⟨?_, i2⟩
    unfold Sc.ofV at ha
    split at ha <;> simp only [Option.some.injEq, reduceCtorEq] at ha <;> subst ha <;> rfl
theorem fldsOf_ok {P : Program} : ∀ {fs : List Field} {l : List (Nat × Nat × Nat × Bool)}, fldsOf P fs = some l → l.length = fs.length ∧
    ∀ (n : Nat) p, l[n]? = some p → ∃ f d i, fs[n]? = some f ∧ f.offset = p.1 ∧ f.type = p.2.1 ∧ (f.name ≠ "_") ∧ P.underlying f.type = some d ∧ P.info? f.type = some i ∧ i.size = p.2.2.1 ∧ isAggD d = p.2.2.2 := by
  intro fs
  induction fs with
  | nil => intro l h; simp [fldsOf] at h; subst h; simp
  | cons f fs ih =>
    intro l h
    simp only [fldsOf, Option.bind_eq_bind, Option.bind_eq_some_iff, Option.some.injEq] at h
    obtain ⟨a, ha, r, hr, rfl⟩ := h
    obtain ⟨i1, i2⟩ := ih hr
    refine ⟨by simp [i1], fun n p hp => ?_⟩
    cases n with
    | zero =>
      simp at hp; subst hp
      unfold fldOf at ha
      split at ha
      · cases ha
      · rename_i hn
        split at ha
        · rename_i d i h1 h2
          simp at ha; subst ha
          exact ⟨f, d, i, rfl, rfl, rfl, hn, h1, h2, rfl, rfl⟩
        · cases ha
    | succ n => simpa using i2 n p (by simpa using hp)

theorem mkTI_ok {P : Program} {t : Nat} {i : TI} (h : mkTI P t = some i) : TIok P t i := by
  unfold mkTI at h
  split at h
  · rename_i d inf hd hinf
    split at h
    · rename_i z hz
      split at h
      · rename_i zs hzs
        split at h
        · rename_i hcond
          obtain ⟨h1, h2⟩ := hcond
          simp at h; subst h
          obtain ⟨s1, s2⟩ := scsV_ok (ρ := []) hzs
          have hlen : zs.length = z.cells.toList.length := by rw [← s1]; simp
          have hzl : isAggD d = false → zs.length = 1 := by
            intro hg
            rw [hg] at h2
            rw [hlen]
            cases z <;> simp [isAggV] at h2 <;> rfl
          refine ⟨⟨d, inf, z, hd, hinf, by simp [h1, hlen], rfl, hz, s1.symm, s2, by simp [hlen], rfl, ?_, hzl, ?_⟩, fun he => ?_⟩
          · cases d <;> simp only [tgOf, tagOK]
            rename_i fs
            cases hf : fldsOf P fs.toList with
            | none => simp only [tagOK]
            | some l =>
              obtain ⟨f1, f2⟩ := fldsOf_ok hf
              simp only [tagOK]
              exact ⟨by simpa using f1, fun n p hp => by simpa using f2 n p hp⟩
          · cases hg : isAggD d with
            | true =>
              rw [hg] at h2
              cases z <;> simp [isAggV] at h2
              rename_i cs
              simp only [CV.ev, s1]
              rfl
            | false =>
              have := hzl hg
              match zs, this with
              | [s], _ =>
                rw [hg] at h2
                have hs : [s.ev []] = z.cells.toList := by simpa using s1
                cases z <;> simp [isAggV] at h2 <;> simp [Value.cells] at hs <;> simp [CV.ev, hs]
          · simp only [Bool.and_eq_true, Bool.not_eq_true'] at he
            exact ⟨he.1.2, he.2⟩
        · cases h
      · cases h
    · cases h
  · cases h

def Env.check (P : Program) (E : Env) : Bool := E.T.all (fun p => match mkTI P p.1 with | some i => { i with eqs := i.eqs && p.2.eqs } == p.2 | none => false) && E.fs.all (callOK P) && P.follows .mixedOrders
theorem Env.ok {P : Program} {E : Env} (h : E.check P = true) (hin : ∀ p ∈ E.inl, P.funcs[p.1]? = some p.2) : EnvOK P E := by
  unfold Env.check at h
  simp only [Bool.and_eq_true, List.all_eq_true] at h
  refine ⟨fun p hp => ?_, h.1.2, h.2, hin⟩
  · have := h.1.1 p hp
    split at this
    · rename_i i hi
      have hk := mkTI_ok hi
      simp only [beq_iff_eq] at this
      rw [← this]
      exact ⟨hk.ok, fun he => hk.cmp (by simp only [Bool.and_eq_true] at he; exact he.1)⟩
    · cases this

/-- The tree of a function of the program. -/
def treeOf (E : Env) (fn : Func) (n : Nat) (args : List SV) (hp : List Ent) : Tree := fnTree E fn.ntmps fn.results.toList (fn.body.getD .skip) n args hp

theorem run_tree {P : Program} {E : Env} {B : Base} {R : Ending → World → Prop} (hE : EnvOK P E) {f : FuncId} {fn : Func} {args : List SV} {ρ : List V} {hp : List Ent} {w : World} {t : Tree} {n : Nat} (hf : P.funcs[f]? = some fn)
    (ht : treeOf E fn n args hp = t) (hn : ρ.length = n) (hb : fn.body.isSome = true) (hrel : Rel B ρ hp w) (hbh : hp.all (Ent.bd n) = true) (hba : args.all (fun s => s.bd n && s.isVal) = true)
    (h : t.goal ⟨P, B, R⟩ ρ []) : Calls P f (args.map (SV.ev ρ)).toArray w R := by
  subst hn ht
  refine run_fn (C := ⟨P, B, R⟩) hE (c := fn.body.getD .skip) hf ?_ hrel hbh hba h
  cases hb' : fn.body with
  | none => rw [hb'] at hb; cases hb
  | some c => rfl

theorem Rel.start (w : World) (ρ : List V) : Rel ⟨[], w⟩ ρ [] w := ⟨Mod.refl _ _, by simp, by simp, List.Pairwise.nil⟩

theorem as_called {P : Program} {f : FuncId} {as as' : Array Value} {w : World} {R : Ending → World → Prop} (h : Calls P f as w R) (he : as = as') : Calls P f as' w R := he ▸ h

/-- A function of plain arguments: numbers, truth values, texts. -/
theorem run_plain {P : Program} {E : Env} {R : Ending → World → Prop} (hE : EnvOK P E) {f : FuncId} {fn : Func} {args : List SV} {ρ : List V} {w : World} {t : Tree} {n : Nat} (hf : P.funcs[f]? = some fn)
    (ht : treeOf E fn n args [] = t) (hn : ρ.length = n) (hb : fn.body.isSome = true) (hba : args.all (fun s => s.bd n && s.isVal) = true)
    (h : t.goal ⟨P, ⟨[], w⟩, R⟩ ρ []) : Calls P f (args.map (SV.ev ρ)).toArray w R :=
  run_tree hE hf ht hn hb (Rel.start w ρ) rfl hba h

/-- Of a pure result. -/
theorem goal_ret {C : Cx} {v : SV} {hp : List Ent} {ρ : List V} {L : List LC} {x : Value} (hC : C.R = fun e w' => e = .returned x ∧ Mod C.B.fp C.B.w0 w') (h : v.ev ρ = x) : (Tree.ret v hp).goal C ρ L := by
  intro w hr
  rw [hC]
  exact ⟨by rw [h], hr.mod⟩

end Go.Sx
