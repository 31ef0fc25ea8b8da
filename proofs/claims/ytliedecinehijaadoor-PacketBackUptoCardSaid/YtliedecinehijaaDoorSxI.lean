/-
  A small verified symbolic executor (part I: what the executor's state says of the machine's; how it is kept). By an AI agent.
-/
import Derived.Test.YtliedecinehijaaDoorSxH
set_option linter.unusedSimpArgs false
set_option linter.unusedVariables false
namespace Go.Sx
open Go

structure Inv (C : Cx) (st : St) (ρ : List V) (a : Act) (w : World) : Prop where
  len : ρ.length = st.n
  size : st.fr.length = a.tmps.size
  fr : ∀ j, (st.slot j).rel ρ (a.tmps.getD j undef)
  bdf : ∀ s ∈ st.fr, s.bd st.n = true
  bdh : st.hp.all (Ent.bd st.n) = true
  defers : a.defers = []
  rel : Rel C.B ρ st.hp w

variable {C : Cx} {st : St} {ρ : List V} {a : Act} {w : World}

theorem St.slot_bd {st : St} (h : ∀ s ∈ st.fr, s.bd st.n = true) (j : Nat) : (st.slot j).bd st.n = true := by
  unfold St.slot
  rw [List.getD_eq_getElem?_getD]
  cases hj : st.fr[j]? with
  | none => rfl
  | some s => exact h s (List.mem_of_getElem? hj)

theorem Inv.put (h : Inv C st ρ a w) (d : Option Tmp) {s : SV} {v : Value} (hs : s.rel ρ v) : Inv C (st.put d s) ρ (a.put d v) w := by
  cases d with
  | none => exact h
  | some d =>
    have hr : (if s.bd st.n = true then s else SV.dead).rel ρ v := by split; exact hs; trivial
    refine ⟨h.len, by simp [St.put, Act.put, h.size], fun j => ?_, fun x hx => ?_, h.bdh, h.defers, h.rel⟩
    · simp only [St.put, St.slot, Act.put, List.getD_eq_getElem?_getD, Array.getD_eq_getD_getElem?, List.getElem?_set, Array.getElem?_setIfInBounds]
      by_cases hj : d = j
      · subst hj
        by_cases hd : d < st.fr.length
        · simp only [if_true, hd, if_pos (show d < a.tmps.size by rw [← h.size]; exact hd), Option.getD_some]; exact hr
        · simp only [if_true, hd, if_false, if_neg (show ¬ d < a.tmps.size by rw [← h.size]; exact hd), Option.getD_none]; trivial
      · simp only [hj, if_false]
        have := h.fr j
        simpa only [St.slot, List.getD_eq_getElem?_getD, Array.getD_eq_getD_getElem?] using this
    · rcases List.mem_or_eq_of_mem_set hx with hx | rfl
      · exact h.bdf x hx
      · split
        · assumption
        · rfl

theorem Inv.over (h : Inv C st ρ a w) (t : Nat) {s : SV} (hs : s.rel ρ (a.tmps.getD t undef)) : Inv C (st.put (some t) s) ρ a w := by
  have hr : (if s.bd st.n = true then s else SV.dead).rel ρ (a.tmps.getD t undef) := by split; exact hs; trivial
  refine ⟨h.len, by simp [St.put, h.size], fun j => ?_, fun x hx => ?_, h.bdh, h.defers, h.rel⟩
  · simp only [St.put, St.slot, List.getD_eq_getElem?_getD, List.getElem?_set]
    by_cases hj : t = j
    · subst hj
      by_cases hd : t < st.fr.length
      · simp only [if_true, hd, Option.getD_some]; exact hr
      · simp only [if_true, hd, if_false, Option.getD_none]; trivial
    · simp only [hj, if_false]
      have := h.fr j
      simpa only [St.slot, List.getD_eq_getElem?_getD] using this
  · rcases List.mem_or_eq_of_mem_set hx with hx | rfl
    · exact h.bdf x hx
    · split
      · assumption
      · rfl
theorem Inv.ext (h : Inv C st ρ a w) (vs : List V) : Inv C { st with n := st.n + vs.length } (ρ ++ vs) a w := by
  have ha : Agree st.n ρ (ρ ++ vs) := by rw [← h.len]; exact Agree.app ρ vs
  refine ⟨by simp [h.len], h.size, fun j => ?_, fun s hs => SV.bd_mono (by simp) s (h.bdf s hs), ?_, h.defers, h.rel.ext ha h.bdh⟩
  · exact SV.rel_bd ha _ (St.slot_bd h.bdf j) _ (h.fr j)
  · exact List.all_eq_true.2 fun e he => Ent.bd_mono (by simp) e (List.all_eq_true.1 h.bdh e he)

theorem Inv.world (h : Inv C st ρ a w) {w' : World} (hr : Rel C.B ρ st.hp w') : Inv C st ρ a w' := ⟨h.len, h.size, h.fr, h.bdf, h.bdh, h.defers, hr⟩
theorem Inv.heap (h : Inv C st ρ a w) {hp : List Ent} {w' : World} (hb : hp.all (Ent.bd st.n) = true) (hr : Rel C.B ρ hp w') : Inv C { st with hp := hp } ρ a w' := ⟨h.len, h.size, h.fr, h.bdf, hb, h.defers, hr⟩

theorem Sc.asm_ok {ρ : List V} {x : X} {b : Bool} (h : (x.ev ρ).toB = b) (s : Sc) : (Sc.asm x b s).ev ρ = s.ev ρ := by
  cases s <;> simp only [Sc.asm]
  simp only [Sc.ev, X.asm_ok h]
theorem SV.asm_ok {ρ : List V} {x : X} {b : Bool} (h : (x.ev ρ).toB = b) {s : SV} {v : Value} (hr : s.rel ρ v) : (SV.asm x b s).rel ρ v := by
  have hm : ∀ cs : List Sc, (cs.map (Sc.asm x b)).map (Sc.ev ρ) = cs.map (Sc.ev ρ) := by
    intro cs; rw [List.map_map]; exact List.map_congr_left fun s _ => Sc.asm_ok h s
  have hc : ∀ g (cs : List Sc), CV.ev ρ (g, cs.map (Sc.asm x b)) = CV.ev ρ (g, cs) := by
    intro g cs
    cases g
    · match cs with
      | [] => rfl
      | [s] => simp only [List.map_cons, List.map_nil, CV.ev, Sc.asm_ok h]
      | _ :: _ :: _ => rfl
    · simp only [CV.ev, hm]
  cases s with
  | cv c =>
    obtain ⟨g, cs⟩ := c
    exact (show v = _ from hr).trans (hc g cs).symm
  | gd g c =>
    obtain ⟨i, cs⟩ := c
    obtain ⟨h1, h2⟩ := hr
    have hg := X.asm_ok h g
    simp only [SV.asm]
    split
    · rename_i e
      rw [e] at hg
      exact (h1 hg.symm).trans (hc i cs).symm
    · exact ⟨fun hg' => (h1 (hg ▸ hg')).trans (hc i cs).symm, fun hg' => h2 (hg ▸ hg')⟩
  | _ => exact hr
theorem Inv.asm0 (h : Inv C st ρ a w) {x : X} {b : Bool} (hx : (x.ev ρ).toB = b) : Inv C { st with fr := asmFr x b st.fr st.n } ρ a w := by
  refine ⟨h.len, by simp [asmFr, h.size], fun j => ?_, fun s hs => ?_, h.bdh, h.defers, h.rel⟩
  · have := h.fr j
    simp only [St.slot, asmFr, List.getD_eq_getElem?_getD, List.getElem?_map] at this ⊢
    cases hj : st.fr[j]? with
    | none => trivial
    | some s =>
      rw [hj] at this
      simp only [Option.map_some, Option.getD_some] at this ⊢
      split
      · exact SV.asm_ok hx this
      · exact this
  · simp only [asmFr, List.mem_map] at hs
    obtain ⟨s', hs', rfl⟩ := hs
    split
    · assumption
    · exact h.bdf s' hs'
theorem Inv.asm (h : Inv C st ρ a w) {x : X} {b : Bool} (hx : (x.ev ρ).toB = b) : Inv C (st.asm x b) ρ a w := by
  unfold St.asm
  split
  · rename_i y
    refine h.asm0 ?_
    rw [← hx]; simp [X.ev]
  · exact h.asm0 hx
theorem St.asm_d (st : St) (x : X) (b : Bool) : (st.asm x b).d = st.d := by unfold St.asm; split <;> rfl
theorem Inv.back {st' : St} {ρ' : List V} {a' : Act} {w' : World} (h : Inv C st ρ a w) (h' : Inv C st' ρ' a' w') (hp : ρ <+: ρ') : Inv C { st with n := st'.n, d := st'.d, hp := st'.hp } ρ' a w' := by
  obtain ⟨t, rfl⟩ := hp
  have hag : Agree st.n ρ (ρ ++ t) := by rw [← h.len]; exact Agree.app ρ t
  have hle : st.n ≤ st'.n := by rw [← h.len, ← h'.len]; simp
  exact ⟨h'.len, h.size, fun j => SV.rel_bd hag _ (St.slot_bd h.bdf j) _ (h.fr j), fun s hs => SV.bd_mono hle s (h.bdf s hs), h'.bdh, h.defers, h'.rel⟩

theorem Inv.rd_ok (h : Inv C st ρ a w) {G : X} (hG : (G.ev ρ).toB = true) {x : Operand} {c : CV} (hx : st.rd G x = some c) : a.eval x = CV.ev ρ c := by
  cases x with
  | tmp t =>
    have := h.fr t
    simp only [St.rd] at hx
    split at hx
    · rename_i c' hs
      simp at hx; subst hx
      rw [hs] at this
      exact this
    · rename_i g c' hs
      simp only [Option.ite_none_right_eq_some, Option.some.injEq] at hx
      obtain ⟨hb, rfl⟩ := hx
      rw [hs] at this
      exact this.1 (X.bears_ok ρ G g hb hG)
    · cases hx
  | const v =>
    simp only [St.rd, Option.map_eq_some_iff] at hx
    obtain ⟨s, hs, rfl⟩ := hx
    exact (Sc.ofV_ok hs).symm
  | global g => simp [St.rd] at hx
  | func f => simp [St.rd] at hx

theorem Inv.rdA_ok (h : Inv C st ρ a w) {G : X} (hG : (G.ev ρ).toB = true) {x : Operand} {c : SV} (hx : st.rdA G x = some c) : a.eval x = c.ev ρ := by
  unfold St.rdA at hx
  split at hx
  · rename_i c' hc
    simp at hx; subst hx
    exact h.rd_ok hG hc
  · split at hx
    · rename_i t _
      have := h.fr t
      split at hx
      · rename_i f a' b' hs
        simp at hx; subst hx
        rw [hs] at this
        exact this
      · cases hx
    · simp at hx; subst hx
      rfl
    · cases hx

theorem Inv.rdAll_ok (h : Inv C st ρ a w) {G : X} (hG : (G.ev ρ).toB = true) : ∀ {l : List Operand} {r : List SV}, rdAll st G l = some r → l.map a.eval = r.map (SV.ev ρ) := by
  intro l
  induction l with
  | nil => intro r hr; simp [rdAll] at hr; subst hr; rfl
  | cons x l ih =>
    intro r hr
    simp only [rdAll, Option.bind_eq_bind, Option.bind_eq_some_iff, Option.some.injEq] at hr
    obtain ⟨s, hs, r', hr', rfl⟩ := hr
    simp [h.rdA_ok hG hs, ih hr']

theorem Rel.forMem {B : Base} {hp : List Ent} (h : Rel B ρ hp w) (b : Bool) : Rel B ρ (forMem b hp) w := by
  unfold Sx.forMem
  split
  · exact h
  · exact h.sublist (List.nil_sublist _)

theorem mem_setCells {hp : List Ent} {v ty : Nat} {cs : List Sc} {e : Ent} (he : e ∈ setCells hp v ty cs) : (e = .cells v ty cs ∧ ∃ ty' cs', Ent.cells v ty' cs' ∈ hp) ∨ (e ∈ hp ∧ ∀ ty' cs', e ≠ .cells v ty' cs') := by
  simp only [setCells, List.mem_map] at he
  obtain ⟨x, hx, rfl⟩ := he
  cases x with
  | cells u ty' cs' =>
    by_cases hu : u = v
    · subst hu; left; simp; exact ⟨ty', cs', hx⟩
    · right; simp only [hu, if_false]; exact ⟨hx, fun _ _ h => by simp at h; exact absurd h.1 hu⟩
  | _ => right; exact ⟨hx, fun _ _ h => by cases h⟩

/-- Some cells have been written. -/
theorem Rel.update {B : Base} {hp : List Ent} {v ty0 ty : Nat} {cs0 cs : List Sc} {w' : World} (h : Rel B ρ hp w) (hm : Ent.cells v ty0 cs0 ∈ hp)
    (hmod : Mod [(ρ.getD v (.i 0)).toN] w w') (hb : (Ent.cells v ty cs).holds ρ w') : Rel B ρ (setCells hp v ty cs) w' := by
  have hown := h.own _ hm rfl _ rfl
  have hsep : ∀ e ∈ hp, (∀ ty' cs', e ≠ .cells v ty' cs') → ¬ e.fp ρ (ρ.getD v (.i 0)).toN := by
    intro e he hne hk
    obtain ⟨l1, l2, rfl⟩ := List.append_of_mem hm
    have hp := h.sep
    unfold Apart at hp
    rw [List.pairwise_append] at hp
    obtain ⟨p1, p2, p3⟩ := hp
    rw [List.pairwise_cons] at p2
    rcases List.mem_append.1 he with he | he
    · exact p3 e he _ (List.mem_cons_self ..) (.inr rfl) _ hk rfl
    · rcases List.mem_cons.1 he with rfl | he
      · exact hne _ _ rfl
      · exact p2.1 e he (.inl rfl) _ rfl hk
  refine ⟨h.mod.trans hmod (fun k hk => by simp at hk; subst hk; rcases hown with h1 | h1; exact .inr h1; exact .inl h1), fun e he => ?_, fun e he hw k hk => ?_, ?_⟩
  · rcases mem_setCells he with ⟨rfl, -⟩ | ⟨he, hne⟩
    · exact hb
    · exact Ent.stable (h.holds e he) fun k hk => hmod.block k (Ent.bound (h.holds e he) hk) (fun hn => by simp at hn; subst hn; exact hsep e he hne hk)
  · rcases mem_setCells he with ⟨rfl, -⟩ | ⟨he, -⟩
    · have hk' : k = (ρ.getD v (.i 0)).toN := hk
      rw [hk']; exact hown
    · exact h.own e he hw k hk
  · unfold setCells Apart
    rw [List.pairwise_map]
    refine List.Pairwise.imp_of_mem (fun {x y} hx hy hxy => ?_) h.sep
    have key : ∀ e : Ent, (match e with | .cells u ty' cs' => if u = v then Ent.cells v ty cs else .cells u ty' cs' | e => e).wr = e.wr ∧
        ∀ k, (match e with | .cells u ty' cs' => if u = v then Ent.cells v ty cs else .cells u ty' cs' | e => e).fp ρ k ↔ e.fp ρ k := by
      intro e
      cases e with
      | cells u ty' cs' =>
        by_cases hu : u = v
        · subst hu; simp [Ent.wr, Ent.fp]
        · simp [hu]
      | _ => simp
    intro hw k h1 h2
    exact hxy (by rw [← (key x).1, ← (key y).1]; exact hw) k (((key x).2 k).1 h1) (((key y).2 k).1 h2)

theorem setCells_bd {hp : List Ent} {n v ty : Nat} {cs : List Sc} (h : hp.all (Ent.bd n) = true) (hc : cs.all (Sc.bd n) = true) : (setCells hp v ty cs).all (Ent.bd n) = true := by
  refine List.all_eq_true.2 fun e he => ?_
  rcases mem_setCells he with ⟨rfl, ty', cs', hm⟩ | ⟨he, -⟩
  · have := List.all_eq_true.1 h _ hm
    simp only [Ent.bd, Bool.and_eq_true] at this ⊢
    exact ⟨this.1, hc⟩
  · exact List.all_eq_true.1 h e he

theorem Rel.disj {B : Base} {hp : List Ent} (h : Rel B ρ hp w) {e e' : Ent} (he : e ∈ hp) (he' : e' ∈ hp) (hne : e ≠ e') (hw : e.wr = true ∨ e'.wr = true) {k : Nat} (hk : e.fp ρ k) (hk' : e'.fp ρ k) : False := by
  obtain ⟨l1, l2, rfl⟩ := List.append_of_mem he
  have hp := h.sep
  unfold Apart at hp
  rw [List.pairwise_append] at hp
  obtain ⟨p1, p2, p3⟩ := hp
  rw [List.pairwise_cons] at p2
  rcases List.mem_append.1 he' with he' | he'
  · exact p3 e' he' _ (List.mem_cons_self ..) hw.symm _ hk' hk
  · rcases List.mem_cons.1 he' with rfl | he'
    · exact hne rfl
    · exact p2.1 e' he' hw _ hk hk'

theorem setAll_key (ms : List Ent) (e : Ent) :
    (setOne ms e).wr = e.wr ∧ (∀ k, (setOne ms e).fp ρ k ↔ e.fp ρ k) ∧ ((∃ u ty cs, e = .cells u ty cs ∧ ∃ ty' cs', findCells ms u = some (ty', cs') ∧ setOne ms e = .cells u ty' cs') ∨ (setOne ms e = e ∧ ∀ u ty cs, e = .cells u ty cs → findCells ms u = none)) := by
  cases e with
  | cells u ty cs =>
    cases hc : findCells ms u with
    | none => simp [setOne, hc]
    | some p => obtain ⟨ty', cs'⟩ := p; simp [setOne, hc, Ent.wr, Ent.fp]
  | _ => simp [setOne]

/-- Somebody else has written these blocks. -/
theorem Rel.setAll {B : Base} {hp ms : List Ent} {mods : List Nat} {gs : List Nat} {w' : World} (h : Rel B ρ hp w) (hmod : Mod ((mods.map fun v => (ρ.getD v (.i 0)).toN) ++ gs) w w')
    (hgs : ∀ k ∈ gs, (B.w0.heap.size ≤ k ∨ k ∈ B.fp) ∧ ∀ e ∈ hp, ¬ e.fp ρ k) (hin : ∀ v ∈ mods, (∃ ty cs, Ent.cells v ty cs ∈ hp) ∧ findCells ms v ≠ none) (hh : ∀ x ∈ ms, x.holds ρ w') : Rel B ρ (setAll hp ms) w' := by
  have hfree : ∀ e ∈ hp, (∀ u ty cs, e = .cells u ty cs → findCells ms u = none) → ∀ k, e.fp ρ k → k ∉ (mods.map fun v => (ρ.getD v (.i 0)).toN) ++ gs := by
    intro e he hno k hk hm
    rcases List.mem_append.1 hm with hm | hm
    case inr => exact (hgs k hm).2 e he hk
    simp only [List.mem_map] at hm
    obtain ⟨v, hv, rfl⟩ := hm
    obtain ⟨⟨ty, cs, hc⟩, hf⟩ := hin v hv
    refine h.disj he hc (fun e1 => hf (hno v ty cs e1)) (.inr rfl) hk rfl
  refine ⟨h.mod.trans hmod (fun k hk => ?_), fun e he => ?_, fun e he hw k hk => ?_, ?_⟩
  · rcases List.mem_append.1 hk with hk | hk
    case inr => exact (hgs k hk).1.symm
    simp only [List.mem_map] at hk
    obtain ⟨v, hv, rfl⟩ := hk
    obtain ⟨⟨ty, cs, hc⟩, -⟩ := hin v hv
    rcases h.own _ hc rfl _ rfl with h1 | h1
    · exact .inr h1
    · exact .inl h1
  · simp only [Sx.setAll, List.mem_map] at he
    obtain ⟨x, hx, rfl⟩ := he
    obtain ⟨-, -, h3⟩ := setAll_key (ρ := ρ) ms x
    rcases h3 with ⟨u, ty, cs, rfl, ty', cs', hc, he⟩ | ⟨he, hno⟩
    · rw [he]; exact hh _ (findCells_mem hc)
    · rw [he]; exact Ent.stable (h.holds x hx) fun k hk => hmod.block k (Ent.bound (h.holds x hx) hk) (hfree x hx hno k hk)
  · simp only [Sx.setAll, List.mem_map] at he
    obtain ⟨x, hx, rfl⟩ := he
    obtain ⟨h1, h2, -⟩ := setAll_key (ρ := ρ) ms x
    exact h.own x hx (by rw [← h1]; exact hw) k ((h2 k).1 hk)
  · unfold Apart Sx.setAll
    rw [List.pairwise_map]
    refine List.Pairwise.imp_of_mem (fun {x y} hx hy hxy => ?_) h.sep
    obtain ⟨h1, h2, -⟩ := setAll_key (ρ := ρ) ms x
    obtain ⟨h1', h2', -⟩ := setAll_key (ρ := ρ) ms y
    intro hw k ha hb
    exact hxy (by rw [← h1, ← h1']; exact hw) k ((h2 k).1 ha) ((h2' k).1 hb)

/-- New entries, on memory that is new (or that is only read, by others too). -/
theorem Rel.appendNew {B : Base} {hp hp' : List Ent} {gs : List Nat} {w' : World} (h0 : Rel B ρ hp w) (h : Rel B ρ hp' w')
    (hgs : ∀ k ∈ gs, (B.w0.heap.size ≤ k ∨ k ∈ B.fp) ∧ ∀ e ∈ hp', ¬ e.fp ρ k)
    (hfp : ∀ e ∈ hp', ∃ e0 ∈ hp, e.wr = e0.wr ∧ ∀ k, e.fp ρ k → e0.fp ρ k) :
    ∀ (es : List Ent), (∀ x ∈ es, x.holds ρ w' ∧ ∀ k, x.fp ρ k → w.heap.size ≤ k ∨ (x.wr = false ∧ ∃ y ∈ hp, y.wr = false ∧ y.fp ρ k) ∨ k ∈ gs) → Apart ρ es → Rel B ρ (es ++ hp') w' := by
  intro es
  induction es with
  | nil => intro _ _; exact h
  | cons e es ih =>
    intro hes hap
    unfold Apart at hap
    rw [List.pairwise_cons] at hap
    have ih' := ih (fun x hx => hes x (List.mem_cons_of_mem _ hx)) hap.2
    obtain ⟨hh, hfpe⟩ := hes e (List.mem_cons_self ..)
    refine ih'.cons hh (fun hw k hk => ?_) (fun e' he' hw k hk hk' => ?_)
    · rcases hfpe k hk with h1 | ⟨h1, -⟩ | h1
      · exact .inl (Nat.le_trans h0.mod.size h1)
      · rw [h1] at hw; cases hw
      · exact (hgs k h1).1
    · rcases List.mem_append.1 he' with he' | he'
      · exact hap.1 e' he' hw k hk hk'
      · obtain ⟨e0, he0, hw0, hf0⟩ := hfp e' he'
        have hk0 := hf0 k hk'
        rcases hfpe k hk with h1 | ⟨h1, y, hy, hyw, hyk⟩ | h1
        · have := Ent.bound (h0.holds e0 he0) hk0; omega
        · rcases hw with hw | hw
          · rw [h1] at hw; cases hw
          · refine h0.disj hy he0 (fun e => ?_) (.inr (by rw [← hw0]; exact hw)) hyk hk0
            rw [hw0, ← e, hyw] at hw; cases hw
        · exact (hgs k h1).2 e' he' hk'

end Go.Sx
