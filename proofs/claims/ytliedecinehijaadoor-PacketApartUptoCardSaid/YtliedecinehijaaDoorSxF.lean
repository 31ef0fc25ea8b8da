/-
  A small verified symbolic executor (part F: all operations that change no memory, in one law). By an AI agent.
-/
import Derived.Test.YtliedecinehijaaDoorSxE
set_option linter.unusedSimpArgs false
set_option linter.unusedVariables false
namespace Go.Sx
open Go
variable {P : Program} {T : Tab} {ρ : List V} {hp : List Ent} {w : World}

theorem TabOK.tag {T : Tab} (h : TabOK P T) {t : Nat} {g : Tg} (hg : T.tag t = some g) : ∃ d, P.underlying t = some d ∧ tagOK P g d := by
  unfold Tab.tag at hg
  split at hg
  · rename_i i hi
    simp at hg; subst hg
    obtain ⟨d, inf, z, hd, hinf, -, -, -, -, -, -, -, ht, -⟩ := (h.get hi).ok
    exact ⟨d, hd, ht⟩
  · cases hg
theorem tag_strct {fl : List (Nat × Nat × Nat × Bool)} {d : TypeDesc} (h : tagOK P (.strct fl) d) : ∃ fs, d = .struct fs ∧ fl.length = fs.size ∧ ∀ (n : Nat) p, fl[n]? = some p → ∃ f d i, fs[n]? = some f ∧ f.offset = p.1 ∧ f.type = p.2.1 ∧ (f.name ≠ "_") ∧ P.underlying f.type = some d ∧ P.info? f.type = some i ∧ i.size = p.2.2.1 ∧ isAggD d = p.2.2.2 := by
  cases d <;> simp only [tagOK] at h
  exact ⟨_, rfl, h.1, h.2⟩
theorem tag_slice {e : Nat} {d : TypeDesc} (h : tagOK P (.slice e) d) : d = .slice e := by
  cases d <;> simp only [tagOK] at h
  rw [h]
theorem tag_str {d : TypeDesc} (h : tagOK P .str d) : d = .string := by cases d <;> simp only [tagOK] at h; rfl
theorem tag_bool {d : TypeDesc} (h : tagOK P .bool d) : d = .bool := by cases d <;> simp only [tagOK] at h; rfl
theorem tag_int {k : IntKind} {d : TypeDesc} (h : tagOK P (.int k) d) : d = .int k := by cases d <;> simp only [tagOK] at h; rw [h]
theorem tag_tuple {l : List Nat} {d : TypeDesc} (h : tagOK P (.tuple l) d) : ∃ es, d = .tuple es ∧ l = es.toList := by cases d <;> simp only [tagOK] at h; exact ⟨_, rfl, h⟩

theorem runv {s : Sem Value} {v : Value} (h : s.run P w = .ok v w) : (do pure (Next.value (← s)) : Sem Next).run P w = .ok (.value v) w := by
  simp [go_sem, h]

theorem foldl_splice (off : Nat) : ∀ (vs : List Value) (k : Nat) (l : List Value), off + k + vs.length ≤ l.length →
    (vs.zipIdx k).foldl (fun (cs : Array Value) (p : Value × Nat) => cs.setIfInBounds (off + p.2) p.1) l.toArray = (l.take (off + k) ++ vs ++ l.drop (off + k + vs.length)).toArray := by
  intro vs
  induction vs with
  | nil => intro k l h; simp
  | cons v vs ih =>
    intro k l h
    simp only [List.length_cons] at h
    simp only [List.zipIdx_cons, List.foldl_cons, List.setIfInBounds_toArray]
    rw [ih (k + 1) _ (by simp; omega)]
    congr 1
    have e1 : (l.set (off + k) v).take (off + (k + 1)) = l.take (off + k) ++ [v] := by
      rw [show off + (k + 1) = off + k + 1 by omega, List.take_add_one, List.take_set_of_le (by omega)]
      simp [show off + k < l.length by omega]
    have e2 : (l.set (off + k) v).drop (off + (k + 1) + vs.length) = l.drop (off + k + (vs.length + 1)) := by
      rw [List.drop_set_of_lt (by omega)]
      congr 1; omega
    rw [e1, e2]
    simp

theorem cv_cells {g : Bool} {p : List Sc} (h : g = true ∨ p.length = 1) : (CV.ev ρ (g, p)).cells.toList = p.map (Sc.ev ρ) := by
  cases g
  · match p, h with
    | [s], _ =>
      have h1 := Sc.ev_one ρ s
      simp only [CV.ev, List.map_cons, List.map_nil]
      generalize s.ev ρ = v at *
      cases v <;> first | rfl | (simp [Value.oneCell'] at h1)
    | [], h => simp at h
    | _ :: _ :: _, h => simp at h
  · simp [CV.ev, Value.cells]

/-- The model's 'fill' over a struct's fields. -/
theorem fill_ok {fl : List (Nat × Nat × Nat × Bool)} {place : Nat → Option (Nat × Nat)} (hpl : ∀ n p, fl[n]? = some p → place n = some (p.1, p.2.2.1)) :
    ∀ (ps : List (Nat × CV)) (cs cs' : List Sc), buildCells fl cs ps = some cs'  →
      Instr.fill place (cs.map (Sc.ev ρ)).toArray (ps.map fun p => (p.1, CV.ev ρ p.2)) = some (cs'.map (Sc.ev ρ)).toArray := by
  intro ps
  induction ps with
  | nil => intro cs cs' h; simp [buildCells] at h; subst h; simp [Instr.fill]
  | cons p ps ih =>
    intro cs cs' h
    obtain ⟨i, g, p⟩ := p
    simp only [buildCells, Option.bind_eq_bind, Option.bind_eq_some_iff] at h
    obtain ⟨⟨off, ty, sz, ag⟩, hfl, h⟩ := h
    simp only [Option.ite_none_right_eq_some] at h
    obtain ⟨⟨hs, hle, hg1⟩, h⟩ := h
    have hcell := cv_cells (ρ := ρ) hg1
    have ih' := ih _ _ h
    have hsz : (CV.ev ρ (g, p)).cells.size = sz := by rw [← Array.length_toList, hcell]; simpa using hs
    simp only [List.map_cons, Instr.fill, hpl _ _ hfl, hsz, ne_eq, not_true_eq_false, decide_false, Bool.false_or, List.size_toArray, List.length_map]
    rw [if_neg (by simp; omega)]
    rw [← ih']
    congr 1
    rw [← Array.foldl_toList, Array.toList_zipIdx, hcell]
    have := foldl_splice off (p.map (Sc.ev ρ)) 0 (cs.map (Sc.ev ρ)) (by simp; omega)
    simp only [List.length_map, Nat.add_zero, hs] at this
    refine this.trans ?_
    simp [List.map_take, List.map_drop]

theorem partsOf_ok {g : Operand → Option CV} {e : Operand → Value} (hg : ∀ x c, g x = some c → e x = CV.ev ρ c) : ∀ (l : List (Nat × Operand)) (ps : List (Nat × CV)),
    partsOf g l = some ps → l.map (fun p => (p.1, e p.2)) = ps.map fun p => (p.1, CV.ev ρ p.2) := by
  intro l
  induction l with
  | nil => intro ps h; simp [partsOf] at h; subst h; rfl
  | cons p l ih =>
    intro ps h
    obtain ⟨i, x⟩ := p
    simp only [partsOf, Option.bind_eq_bind, Option.bind_eq_some_iff, Option.some.injEq] at h
    obtain ⟨c, hc, r, hr, rfl⟩ := h
    simp [hg x c hc, ih r hr]

/-- A cell value is no aggregate, no tuple. -/
def Sc.one (ρ : List V) (s : Sc) : Prop := (s.ev ρ).oneCell' = true

theorem run_mapM {α β : Type} (G : α → Sem β) (w : World) : ∀ (l : List α) (ys : List β), ys.length = l.length → (∀ (n : Nat) x y, l[n]? = some x → ys[n]? = some y → (G x).run P w = .ok y w) → (l.mapM G).run P w = .ok ys w := by
  intro l
  induction l with
  | nil => intro ys h1 h2; have := List.eq_nil_of_length_eq_zero h1; subst this; simp [go_sem]
  | cons x l ih =>
    intro ys h1 h2
    match ys, h1 with
    | y :: ys, h1 =>
      have e1 := h2 0 x y rfl rfl
      have e2 := ih ys (by simpa using h1) (fun n a b ha hb => h2 (n + 1) a b (by simpa using ha) (by simpa using hb))
      simp [List.mapM_cons, go_sem, e1, e2]

theorem places_ok (w : World) {fs : Array Field} {fl : List (Nat × Nat × Nat × Bool)}
    (hfl : ∀ (n : Nat) p, fl[n]? = some p → ∃ f d i, fs[n]? = some f ∧ f.offset = p.1 ∧ f.type = p.2.1 ∧ (f.name ≠ "_") ∧ P.underlying f.type = some d ∧ P.info? f.type = some i ∧ i.size = p.2.2.1 ∧ isAggD d = p.2.2.2)
    (hlen : fl.length = fs.size) (G : Field → Sem (Nat × Nat)) (hG : ∀ f i, P.info? f.type = some i → (G f).run P w = .ok (f.offset, i.size) w) : (fs.mapM G).run P w = .ok (fl.map fun p => (p.1, p.2.2.1)).toArray w := by
  obtain ⟨l⟩ := fs
  simp only [List.getElem?_toArray, List.size_toArray] at hfl hlen
  rw [List.mapM_toArray]
  have key := run_mapM (P := P) G w l (fl.map fun p => (p.1, p.2.2.1)) (by simpa using hlen) (fun n x y hx hy => by
    simp only [List.getElem?_map, Option.map_eq_some_iff] at hy
    obtain ⟨p, hp, rfl⟩ := hy
    obtain ⟨f, d, i, hf, ho, ht, hn, hu, hi, hs, ha⟩ := hfl n p hp
    rw [hx] at hf; simp at hf; subst hf
    rw [hG x i hi, ho, hs])
  simp [go_sem, key]

end Go.Sx
