/-
  What a law's row wants of a walk that leaves all old memory as it was. By an AI agent.
-/
import Derived.Test.YtcbkkjbgacjncaaDoorZ01
import Derived.WalkKit
import Derived.ProofKit
import Derived.OpenShut
import Derived.JoinedCond
import Derived.ChangeStays
import Derived.Test.YtcbkkjbgacjncaaDoorZ05
set_option linter.unusedSimpArgs false
set_option linter.unusedVariables false
namespace Go.Sx
open Go Go.ChangeShapes Go.WideShapes Go.ChangeAt Go.RowKit
section
variable {H : Type} {enc : TypeId × Value → H} {P : Program}

/-- No slice's element is without cells. -/
def solidB (P : Program) (ts : List TypeId) : Bool := ts.all fun t => match P.underlying t with | some (.slice e) => decide (0 < P.cellsOf e) | _ => true
/-- Closed under what a reading goes to. -/
def closedB (P : Program) (ts : List TypeId) : Bool := ts.all fun t => match P.underlying t with
  | some (.slice e) => ts.contains e
  | some (.pointer e) => ts.contains e
  | some (.array _ e) => ts.contains e
  | some (.map _ e) => ts.contains e
  | some (.struct fs) => fs.toList.all fun f => ts.contains f.type
  | _ => true

theorem kids_of (hl : laidOutB P = true) (hm : mapsRowed P = true) {ts : List TypeId} (hc : closedB P ts = true) (hs : ts.all (fun t => decide (t < P.types.size)) = true) : Kids P (· ∈ ts) := by
  have K := kids_rows hl hm
  have hs' : ∀ t ∈ ts, t < P.types.size := fun t ht => by simpa using List.all_eq_true.1 hs t ht
  have hc' := fun t ht => List.all_eq_true.1 hc t ht
  refine ⟨fun {t e} ht hu => ?_, fun {t e} ht hu => ?_, fun {t e n} ht hu => ⟨?_, (K.array (hs' t ht) hu).2⟩, fun {t fs} ht hu => ⟨?_, (K.struct (hs' t ht) hu).2⟩, fun {t k e} ht hu => ?_⟩
  · have := hc' t ht; rw [hu] at this; simpa using this
  · have := hc' t ht; rw [hu] at this; simpa using this
  · have := hc' t ht; rw [hu] at this; simpa using this
  · have := hc' t ht; rw [hu] at this; simp only [List.all_eq_true] at this; exact fun f hf => by simpa using this f hf
  · have := hc' t ht; rw [hu] at this; simpa using this

theorem sameAt_of_block {w w' : World} {p : MemPlace} (h : w'.heap[p.block]? = w.heap[p.block]?) : w.sameAt w' p := by
  cases p with
  | cell b off => exact World.cell?_of_block h
  | map b => exact h

theorem trodAll_stays {w w' : World} {sp : Nat → Bool} {T : TypeId → Prop} (K : Kids P T) (hsz : ∀ {t e : TypeId}, T t → P.underlying t = some (.slice e) → 0 < P.cellsOf e) :
    ∀ {ts : List TypeId} {vs : List Value} {ds : List (DataW H)} {ps : List MemPlace}, (∀ t ∈ ts, T t) → DataW.TrodAll enc P w 0 (fun _ => true) true ts vs ds ps →
      (∀ p ∈ ps, w.sameAt w' p) → (∀ p ∈ ps, sp p.block = true) → DataW.TrodAll enc P w' 0 sp true ts vs ds ps
  | [], _, _, _, _, h, _, _ => by
    obtain ⟨rfl, rfl, rfl⟩ := trodAll_nil h
    exact trodAll_mk0
  | t :: ts, _, _, _, ht, h, hs, hp => by
    obtain ⟨v, vs1, d, ds1, a, b, rfl, rfl, rfl, h1, h2⟩ := trodAll_cons h
    obtain ⟨n, h1⟩ := h1
    exact ⟨a, b, ⟨n, DataW.trod_stays K hsz (fun h => by cases h) (ht t (List.mem_cons_self ..)) h1 (fun p hp' => hs p (List.mem_append_left _ hp')) (fun p hp' => hp p (List.mem_append_left _ hp'))⟩,
      trodAll_stays K hsz (fun u hu => ht u (List.mem_cons_of_mem _ hu)) h2 (fun p hp' => hs p (List.mem_append_right _ hp')) (fun p hp' => hp p (List.mem_append_right _ hp')), rfl⟩

/-- A law that answered true, and left all old memory as it was. -/
theorem law_post {f : Func} {s : ChangeSpec} {fresh handsOn again : Bool} {W W' : World} {args : Array Value} {ds gs : List (DataW H)} {before : List MemPlace} {tb : TypeId} (ts : List TypeId)
    (hW : DataW.Whole enc P f.params.toList s.vars false W args.toList ds gs before) (hv : s.vars = [])
    (hr : f.resultTypes = #[tb]) (htb : P.underlying tb = some .bool) (hfn : gs = [] → (s.fn H ds).results = [.lit (.bool true)] ∧ (s.fn H ds).args = ds ∧ (s.fn H ds).vars = [])
    (hl : laidOutB P = true) (hm : mapsRowed P = true) (hc : closedB P ts = true) (hs : ts.all (fun t => decide (t < P.types.size)) = true) (hz : solidB P ts = true) (hp : f.params.toList.all ts.contains = true)
    (h : Mod [] W W') : s.post enc P f false fresh handsOn again W args (.bool true) W' := by
  have hW' := hW
  have hlt := hW.lt
  obtain ⟨p, q, hA, hV, rfl, hfz, hn⟩ := hW
  rw [hv] at hV
  obtain ⟨rfl, rfl⟩ := trodVars_none hV
  obtain ⟨f1, f2, f3⟩ := hfn rfl
  have K := kids_of hl hm hc hs
  have hsz : ∀ {t e : TypeId}, t ∈ ts → P.underlying t = some (.slice e) → 0 < P.cellsOf e := fun {t e} ht hu => by
    have := List.all_eq_true.1 hz t ht; rw [hu] at this; simpa using this
  have hT : ∀ t ∈ f.params.toList, t ∈ ts := fun t ht => by simpa using List.all_eq_true.1 hp t ht
  have hblk : ∀ k, k < W.heap.size → W'.heap[k]? = W.heap[k]? := fun k hk => h.block k hk (by simp)
  have hsame : ∀ x ∈ p, W.sameAt W' x := fun x hx => sameAt_of_block (hblk _ (hlt x (by simpa using hx)))
  have hargs : ∀ sp : Nat → Bool, (∀ x ∈ p, sp x.block = true) → DataW.TrodAll enc P W' 0 sp true f.params.toList args.toList (s.fn H (ds ++ [])).args p := fun sp hsp => by
    rw [List.append_nil, f2]; exact trodAll_stays K hsz hT hA hsame hsp
  have hres : ∀ (b : Nat) (sp : Nat → Bool) (hd : Bool), DataW.TrodAll enc P W' b sp hd f.resultTypes.toList ((Value.bool true).resultList f.resultTypes.size) (s.fn H (ds ++ [])).results [] := fun b sp hd => by
    rw [List.append_nil, f1, hr]; exact trodAll_cons_mk (shut_bool htb _) trodAll_mk0
  have hvars : ∀ sp : Nat → Bool, DataW.TrodVars enc P W' sp s.vars (s.fn H (ds ++ [])).vars [] := fun sp => by
    rw [List.append_nil, f3, hv]; rfl
  have hold : ∀ x ∈ p, (fun b => decide (b < W.heap.size)) x.block = true := fun x hx => by simpa using hlt x (by simpa using hx)
  refine ⟨ds, [], p ++ [], [], p, [], hW', hres _ _ _, hargs _ hold, hvars _, ⟨h.os, h.output, fun i hi => ?_⟩, fun _ => ⟨?_, [.lit (.bool true)] ++ ds, [], ([] ++ p) ++ [], ⟨[] ++ p, [], trodAll_append (by have := hargs (fun _ => true) (fun _ _ => rfl); rw [List.append_nil, f2] at this; exact this) (by have := hres 0 (fun _ => true) true; rw [List.append_nil, f1] at this; exact this), by rw [hv]; rfl, rfl, ?_, by simp⟩, ?_⟩⟩
  · have e := hblk i hi
    rw [e]
    cases W.heap[i]? with
    | none => rfl
    | some o => cases o <;> simp
  · exact ok_one hr rfl (okWide_bool_mk htb _)
  · intro b off hb
    have hb : MemPlace.cell b off ∈ p := by simpa using hb
    have hlt' := hlt _ (show MemPlace.cell b off ∈ p ++ [] by simpa using hb)
    have := hfz b off (by simpa using hb)
    simp only [World.frozen?, hblk b hlt'] at this ⊢
    exact this
  · intro x hx _
    simpa using hx
end
end Go.Sx

/-
  What a reading of an argument tells of its cells: structs cell by cell, slices row by row. By an AI agent.
-/
set_option linter.unusedSimpArgs false
set_option linter.unusedVariables false
namespace Go.Sx
open Go Go.ChangeShapes Go.WideShapes Go.ChangeAt Go.RowKit
section
variable {H : Type} {enc : TypeId × Value → H} {P : Program} {w : World} {sp : Nat → Bool}

/-- How great a reading is. -/
structure Bulk (B : DataW H → Nat) : Prop where
  agg : ∀ l : List (DataW H), (l.map B).sum ≤ B (.agg l)
  slice : ∀ l r : List (DataW H), (l.map B).sum + 1 ≤ B (.slice l r)
  str : ∀ s : List UInt8, s.length + 1 ≤ B (.lit (.string s))
  one : ∀ d : DataW H, 1 ≤ B d

def leavesL (P : Program) (g : TypeId → Option (List (TypeId × Kd))) : List Field → Nat → Option (List (TypeId × Kd))
  | [], _ => some []
  | f :: fs, off => do
    let l ← g f.type
    let r ← leavesL P g fs (off + l.length)
    if f.offset = off ∧ P.cellsOf f.type = l.length then some (l ++ r) else none
/-- The types and kinds of a type's cells. -/
def leaves (P : Program) : Nat → TypeId → Option (List (TypeId × Kd))
  | 0, _ => none
  | f + 1, t => match P.underlying t with
    | some .bool => some [(t, .bool)]
    | some (.int k) => some [(t, .int k)]
    | some .string => some [(t, .str)]
    | some (.slice _) => some [(t, .oth)]
    | some (.struct fs) => match leavesL P (leaves P f) fs.toList 0 with
      | some l => if P.cellsOf t = l.length then some l else none
      | none => none
    | _ => none

/-- What is known of a cell of a type. -/
def CellRd (enc : TypeId × Value → H) (P : Program) (w : World) (sp : Nat → Bool) (B : DataW H → Nat) (l : TypeId × Kd) (c : Value) (b : Nat) : Prop :=
  l.2.ok c ∧ ∃ n d ps, DataW.trod enc P w 0 sp true n l.1 [c] = some (d, ps) ∧ B d ≤ b
inductive Lv (enc : TypeId × Value → H) (P : Program) (w : World) (sp : Nat → Bool) (B : DataW H → Nat) : List (TypeId × Kd) → List Value → Nat → Prop
  | nil (b : Nat) : Lv enc P w sp B [] [] b
  | cons {l : TypeId × Kd} {ls : List (TypeId × Kd)} {c : Value} {cs : List Value} {b1 b2 b : Nat} : CellRd enc P w sp B l c b1 → Lv enc P w sp B ls cs b2 → b1 + b2 ≤ b → Lv enc P w sp B (l :: ls) (c :: cs) b
variable {B : DataW H → Nat}
theorem Lv.mono {ls : List (TypeId × Kd)} {cs : List Value} {b b' : Nat} (h : Lv enc P w sp B ls cs b) (hb : b ≤ b') : Lv enc P w sp B ls cs b' := by
  cases h with
  | nil => exact .nil _
  | cons h1 h2 h3 => exact .cons h1 h2 (by omega)
theorem Lv.append {l2 : List (TypeId × Kd)} {c2 : List Value} {b2 : Nat} (h' : Lv enc P w sp B l2 c2 b2) : ∀ {l1 : List (TypeId × Kd)} {c1 : List Value} {b1 : Nat}, Lv enc P w sp B l1 c1 b1 → Lv enc P w sp B (l1 ++ l2) (c1 ++ c2) (b1 + b2) := by
  intro l1 c1 b1 h
  induction h with
  | nil b => exact h'.mono (by omega)
  | cons h1 h2 h3 ih => exact .cons h1 ih (by omega)
theorem Lv.rowOk {ls : List (TypeId × Kd)} {cs : List Value} {b : Nat} (h : Lv enc P w sp B ls cs b) : rowOk (ls.map (·.2)) cs := by
  induction h with
  | nil => trivial
  | cons h1 h2 h3 ih => exact ⟨h1.1, ih⟩

theorem leavesL_ok {g : TypeId → Option (List (TypeId × Kd))} {cs : List Value} {n : Nat} (hg : ∀ t l cs x, g t = some l → DataW.trod enc P w 0 sp true n t cs = some x → Lv enc P w sp B l cs (B x.1)) :
    ∀ {fs : List Field} {xs : List (DataW H × List MemPlace)} {off : Nat} {l : List (TypeId × Kd)}, leavesL P g fs off = some l → xs.length = fs.length →
      (∀ (i : Nat) (f : Field), fs[i]? = some f → DataW.trod enc P w 0 sp true n f.type ((cs.drop f.offset).take (P.cellsOf f.type)) = xs[i]?) → off + l.length ≤ cs.length →
      Lv enc P w sp B l ((cs.drop off).take l.length) ((xs.map fun x => B x.1).sum)
  | [], [], off, l, h, _, _, _ => by simp [leavesL] at h; subst h; simp; exact .nil _
  | f :: fs, [], off, l, h, hl, _, _ => by simp at hl
  | [], x :: xs, off, l, h, hl, _, _ => by simp at hl
  | f :: fs, x :: xs, off, l, h, hl, hx, hc => by
    simp only [leavesL, Option.bind_eq_bind, Option.bind_eq_some_iff, Option.ite_none_right_eq_some, Option.some.injEq] at h
    obtain ⟨l1, h1, l2, h2, ⟨ho, hcs⟩, rfl⟩ := h
    have hx0 := hx 0 f rfl
    simp only [List.getElem?_cons_zero] at hx0
    rw [ho, hcs] at hx0
    have i1 := hg _ _ _ _ h1 hx0
    simp only [List.length_append] at hc
    have i2 := leavesL_ok hg (xs := xs) h2 (by simpa using hl) (fun i f' hf => by have := hx (i + 1) f' (by simpa using hf); simpa using this) (by omega)
    have e : (cs.drop off).take (l1 ++ l2).length = (cs.drop off).take l1.length ++ (cs.drop (off + l1.length)).take l2.length := by
      rw [List.length_append, ← List.drop_drop, List.take_add]
    rw [e]
    exact i2.append i1
theorem leaves_ok (hB : Bulk B) : ∀ (f : Nat) {t : TypeId} {l : List (TypeId × Kd)} {n : Nat} {cs : List Value} {x : DataW H × List MemPlace}, leaves P f t = some l → DataW.trod enc P w 0 sp true n t cs = some x → Lv enc P w sp B l cs (B x.1)
  | 0, t, l, n, cs, x, h, _ => by simp [leaves] at h
  | f + 1, t, l, n, cs, x, h, hx => by
    simp only [leaves] at h
    have one : ∀ (k : Kd) (c : Value), cs = [c] → k.ok c → Lv enc P w sp B [(t, k)] cs (B x.1) := fun k c hc hk => by
      subst hc
      exact .cons ⟨hk, n, x.1, x.2, hx, Nat.le_refl _⟩ (.nil 0) (by omega)
    split at h
    · rename_i hu
      simp at h; subst h
      obtain ⟨b, rfl, -⟩ := DataW.trod_bool hu hx
      exact one _ _ rfl ⟨b, rfl⟩
    · rename_i k hu
      simp at h; subst h
      obtain ⟨m, rfl, -⟩ := DataW.trod_int hu hx
      exact one _ _ rfl ⟨m, rfl⟩
    · rename_i hu
      simp at h; subst h
      obtain ⟨⟨⟨s⟩⟩, rfl, -⟩ := DataW.trod_string hu hx
      exact one _ _ rfl ⟨s, rfl⟩
    · rename_i e hu
      simp at h; subst h
      rcases DataW.trod_slice hu hx with ⟨rfl, -⟩ | ⟨a, len, cap, elems, rest, m, -, rfl, -⟩
      · exact one _ _ rfl rfl
      · exact one _ _ rfl rfl
    · rename_i fs hu
      split at h
      · rename_i l' hl
        split at h
        · rename_i hc
          simp at h; subst h
          obtain ⟨xs, m, rfl, rfl, hcl, hxl, hf⟩ := DataW.trod_struct hu hx
          have := leavesL_ok (cs := cs) (fun t l cs x => leaves_ok hB f (t := t) (l := l) (n := m) (cs := cs) (x := x)) hl (by simpa using hxl) (fun i f hi => hf i f (by simpa using hi)) (by omega)
          rw [List.drop_zero, List.take_of_length_le (by omega)] at this
          refine this.mono ?_
          have := hB.agg (xs.map (·.1))
          rw [List.map_map] at this
          exact this
        · cases h
      · cases h
    · cases h

/-- A slice's rows. -/
theorem slice_rd (hB : Bulk B) {f n : Nat} {t e : TypeId} {ls : List (TypeId × Kd)} {v : Value} {x : DataW H × List MemPlace} (hu : P.underlying t = some (.slice e)) (hl : leaves P f e = some ls) (hc : P.cellsOf e = ls.length) (hpos : 0 < ls.length)
    (hx : DataW.trod enc P w 0 sp true n t [v] = some x) :
    ∃ (rows : List (List Value)) (bs : List Nat), reads w v (ls.map (·.2)) rows ∧ bs.length = rows.length ∧ (∀ (i : Nat) r b, rows[i]? = some r → bs[i]? = some b → Lv enc P w sp B ls r b) ∧ bs.sum + 1 ≤ B x.1 := by
  rcases DataW.trod_slice hu hx with ⟨hv, rfl⟩ | ⟨a, len, cap, elems, rest, m, -, hv, rfl, -, hlc, hcm, hel, hget, -⟩
  · simp only [List.cons.injEq, and_true] at hv; subst hv
    exact ⟨[], [], ⟨by simp, none, 0, rfl, ⟨fun _ => rfl, by simp⟩, by simp⟩, rfl, by simp, by simpa using hB.one _⟩
  · simp only [List.cons.injEq, and_true] at hv; subst hv
    rw [hc] at hget
    have hrow : ∀ i, i < len → ∃ r y, w.cells? 0 (a.add (i * ls.length)) ls.length = some r ∧ elems[i]? = some y ∧ DataW.trod enc P w 0 sp true m e r = some y := fun i hi => by
      have h1 := hget i hi
      have h2 : elems[i]? = some (elems[i]'(by omega)) := List.getElem?_eq_getElem (by omega)
      rw [h2, Option.bind_eq_some_iff] at h1
      obtain ⟨r, h3, h4⟩ := h1
      exact ⟨r, _, h3, h2, h4⟩
    let rows := (List.range len).map fun i => (w.cells? 0 (a.add (i * ls.length)) ls.length).getD []
    have hrl : rows.length = len := by simp [rows]
    have hri : ∀ i, i < len → ∃ r y, rows[i]? = some r ∧ w.cells? 0 (a.add (i * ls.length)) ls.length = some r ∧ elems[i]? = some y ∧ Lv enc P w sp B ls r (B y.1) := fun i hi => by
      obtain ⟨r, y, h1, h2, h3⟩ := hrow i hi
      exact ⟨r, y, by simp [rows, List.getElem?_range hi, h1], h1, h2, leaves_ok hB f hl h3⟩
    have hlen : ∀ r ∈ rows, r.length = (ls.map (·.2)).length ∧ rowOk (ls.map (·.2)) r := fun r hr => by
      obtain ⟨i, hi, hri'⟩ := List.getElem_of_mem hr
      obtain ⟨r', y, h1, h2, h3, h4⟩ := hri i (by omega)
      rw [List.getElem?_eq_getElem hi, hri'] at h1
      simp at h1; subst h1
      exact ⟨h4.rowOk.length, h4.rowOk⟩
    refine ⟨rows, elems.map fun y => B y.1, ⟨fun r hr => (hlen r hr).2, some a, cap, by rw [hrl], ⟨(fun h => by cases h), by omega⟩, fun hne => ⟨a, rfl, fun j u hj => ?_⟩⟩, by simp [hrl, hel], fun i r b hr hb => ?_, ?_⟩
    · have hL : (ls.map (·.2)).length = ls.length := by simp
      have hfl := flatten_length (fun r hr => (hlen r hr).1)
      have hjl : j < rows.length * ls.length := by
        have := (List.getElem?_eq_some_iff.1 hj).1
        rw [hfl, hL] at this; exact this
      have hi : j / ls.length < len := by rw [← hrl]; exact Nat.div_lt_of_lt_mul (by rw [Nat.mul_comm]; exact hjl)
      obtain ⟨r, y, h1, h2, h3, h4⟩ := hri _ hi
      have hk := Nat.mod_lt j hpos
      have hjj : j = j / ls.length * ls.length + j % ls.length := by rw [Nat.mul_comm]; exact (Nat.div_add_mod j _).symm
      have := flatten_get (fun r hr => by rw [← hL]; exact (hlen r hr).1) (i := j / ls.length) (c := j % ls.length) hk
      rw [← hjj, hj, h1] at this
      obtain ⟨c1, c2⟩ := World.cells?_some h2
      have c3 := c2.2 _ hk
      rw [add_add', ← hjj] at c3
      rw [c3]
      exact this.symm
    · obtain ⟨r', y, h1, h2, h3, h4⟩ := hri i (by rw [← hrl]; exact (List.getElem?_eq_some_iff.1 hr).1)
      rw [h1] at hr; simp at hr; subst hr
      rw [List.getElem?_map, h3] at hb
      simp at hb; subst hb
      exact h4
    · have := hB.slice (elems.map (·.1)) (rest.map (·.1))
      rw [List.map_map] at this
      exact this
theorem open_slice {r : Reach} {b0 base : Nat} {held : Bool} {t e : TypeId} {v : Value} {d : DataW H} {ps : List MemPlace} (ht : P.underlying t = some (.slice e)) (hval : Value.okWide P w r b0 t v) (hd : DataW.Trod enc P w base sp held t v d ps) :
    ∃ n, DataW.trod enc P w base sp held n t [v] = some (d, ps) := by
  obtain ⟨n, hd⟩ := hd
  refine ⟨n, ?_⟩
  have : v.cells.toList = [v] := by
    simp only [Value.okWide, ht, Cell.okWide] at hval
    cases v <;> first | rfl | (simp [Cell.ok] at hval)
  rw [← this]; exact hd
theorem open_struct {r : Reach} {b0 base : Nat} {held : Bool} {t : TypeId} {fs : Array Field} {v : Value} {d : DataW H} {ps : List MemPlace} (ht : P.underlying t = some (.struct fs)) (hval : Value.okWide P w r b0 t v) (hd : DataW.Trod enc P w base sp held t v d ps) :
    ∃ (cs : List Value) (n : Nat), v = .agg cs.toArray ∧ DataW.trod enc P w base sp held n t cs = some (d, ps) := by
  obtain ⟨n, hd⟩ := hd
  simp only [Value.okWide, ht] at hval
  obtain ⟨cs, rfl, -⟩ := hval
  exact ⟨cs.toList, n, by simp, by simpa [Value.cells] using hd⟩

theorem sum_le {α : Type} {g : α → Nat} : ∀ {rows : List α} {bs : List Nat}, bs.length = rows.length → (∀ (i : Nat) r b, rows[i]? = some r → bs[i]? = some b → g r ≤ b) → (rows.map g).sum ≤ bs.sum
  | [], [], _, _ => by simp
  | r :: rows, b :: bs, hl, h => by
    have h0 := h 0 r b rfl rfl
    have := sum_le (rows := rows) (bs := bs) (by simpa using hl) (fun i r' b' hr hb => h (i + 1) r' b' (by simpa using hr) (by simpa using hb))
    simp only [List.map_cons, List.sum_cons]; omega
  | [], _ :: _, hl, _ => by simp at hl
  | _ :: _, [], hl, _ => by simp at hl
/-- There are no more rows than values. -/
theorem rows_le (hB : Bulk B) {ls : List (TypeId × Kd)} (h0 : ls ≠ []) {rows : List (List Value)} {bs : List Nat} (hl : bs.length = rows.length) (h : ∀ (i : Nat) r b, rows[i]? = some r → bs[i]? = some b → Lv enc P w sp B ls r b) : rows.length ≤ bs.sum := by
  have := sum_le (g := fun _ : List Value => 1) hl (fun i r b hr hb => by
    cases h i r b hr hb with
    | nil b => exact absurd rfl h0
    | cons h1 h2 h3 => obtain ⟨-, n, d, q, -, h5⟩ := h1; have := hB.one d; omega)
  have e : (rows.map fun _ => 1).sum = rows.length := by
    clear hl h this
    induction rows with
    | nil => rfl
    | cons r rows ih => simp only [List.map_cons, List.sum_cons, List.length_cons, ih]; omega
  omega
/-- A text's cell. -/
theorem CellRd.str (hB : Bulk B) {t : TypeId} (ht : P.underlying t = some .string) {s : List UInt8} {b : Nat} (h : CellRd enc P w sp B (t, .str) (.string ⟨s.toArray⟩) b) : s.length + 1 ≤ b := by
  obtain ⟨-, n, d, ps, h1, h2⟩ := h
  obtain ⟨s', h3, h4⟩ := DataW.trod_string ht h1
  simp only [List.cons.injEq, Value.string.injEq, and_true] at h3
  subst h3
  simp only [Prod.mk.injEq] at h4
  obtain ⟨⟨rfl, -⟩, -⟩ := h4
  have := hB.str s
  omega
theorem CellRd.int {t : TypeId} {k : IntKind} (ht : P.underlying t = some (.int k)) {n : Int} {b : Nat} (h : CellRd enc P w sp B (t, .int k) (.int k n) b) : (Lit.int k n).wf = true := by
  obtain ⟨-, m, d, ps, h1, h2⟩ := h
  cases m with
  | zero => simp [DataW.trod] at h1
  | succ m =>
    unfold DataW.trod at h1
    rw [ht] at h1
    simp only [] at h1
    split at h1
    · rename_i hw; exact hw.2
    · cases h1
end
end Go.Sx
