/-
  A small verified symbolic executor (part P: what a called function wants and gives, as assertions over any names). By an AI agent.
-/
import Derived.Test.YtliedecinehijaaDoorSxO
set_option linter.unusedSimpArgs false
set_option linter.unusedVariables false
namespace Go.Sx
open Go

/-- What an entry says, without names. -/
structure SEnt where
  holds : World → Prop
  fp : Nat → Prop
  wr : Bool
def Ent.sem (ρ : List V) (e : Ent) : SEnt := ⟨e.holds ρ, fun k => e.fp ρ k, e.wr⟩
theorem Rel.conv {B : Base} {ρ ρ' : List V} {hp hp' : List Ent} {w : World} (h : Rel B ρ hp w) (e : hp.map (Ent.sem ρ) = hp'.map (Ent.sem ρ')) : Rel B ρ' hp' w := by
  have hm : ∀ x ∈ hp', ∃ y ∈ hp, Ent.sem ρ y = Ent.sem ρ' x := fun x hx => by
    have : Ent.sem ρ' x ∈ hp.map (Ent.sem ρ) := by rw [e]; exact List.mem_map_of_mem hx
    obtain ⟨y, hy, he⟩ := List.mem_map.1 this
    exact ⟨y, hy, he⟩
  refine ⟨h.mod, fun x hx => ?_, fun x hx hw k hk => ?_, ?_⟩
  · obtain ⟨y, hy, he⟩ := hm x hx
    have := h.holds y hy
    have e1 : y.holds ρ w = x.holds ρ' w := congrFun (congrArg SEnt.holds he) w
    rw [← e1]; exact this
  · obtain ⟨y, hy, he⟩ := hm x hx
    have e1 : y.fp ρ k = x.fp ρ' k := congrFun (congrArg SEnt.fp he) k
    have e2 : y.wr = x.wr := congrArg SEnt.wr he
    exact h.own y hy (by rw [e2]; exact hw) k (by rw [e1]; exact hk)
  · have h1 : (hp.map (Ent.sem ρ)).Pairwise fun e e' => (e.wr = true ∨ e'.wr = true) → ∀ k, e.fp k → e'.fp k → False := List.pairwise_map.2 h.sep
    rw [e] at h1
    exact List.pairwise_map.1 h1
theorem Apart.disj {ρ : List V} {hp : List Ent} (h : Apart ρ hp) {i j : Nat} {a b : Ent} (hi : hp[i]? = some a) (hj : hp[j]? = some b) (hij : i ≠ j) (hw : a.wr = true ∨ b.wr = true) {k : Nat} (h1 : a.fp ρ k) (h2 : b.fp ρ k) : False := by
  unfold Apart at h
  rw [List.pairwise_iff_getElem] at h
  obtain ⟨li, ei⟩ := List.getElem?_eq_some_iff.1 hi
  obtain ⟨lj, ej⟩ := List.getElem?_eq_some_iff.1 hj
  rcases Nat.lt_or_ge i j with hlt | hge
  · have := h i j li lj hlt
    rw [ei, ej] at this
    exact this hw k h1 h2
  · have := h j i lj li (by omega)
    rw [ei, ej] at this
    exact this hw.symm k h2 h1
theorem pick_pw {α : Type} {l : List α} {R : α → α → Prop} (h : ∀ (i j : Nat) (a b : α), l[i]? = some a → l[j]? = some b → i ≠ j → R a b) : ∀ {is : List Nat}, is.Nodup → (is.filterMap fun i => l[i]?).Pairwise R
  | [], _ => .nil
  | i :: is, hn => by
    obtain ⟨h1, h2⟩ := List.nodup_cons.1 hn
    rw [List.filterMap_cons]
    cases hi : l[i]? with
    | none => simp only []; exact pick_pw h h2
    | some a =>
      simp only []
      refine List.pairwise_cons.2 ⟨fun b hb => ?_, pick_pw h h2⟩
      obtain ⟨j, hj, hb⟩ := List.mem_filterMap.1 hb
      exact h i j a b hi hb (fun e => h1 (e ▸ hj))
/-- Some entries, in another order. -/
theorem Rel.pick {B : Base} {ρ : List V} {hp : List Ent} {w : World} (h : Rel B ρ hp w) (is : List Nat) (hn : is.Nodup) : Rel B ρ (is.filterMap fun i => hp[i]?) w := by
  have hm : ∀ e ∈ is.filterMap (fun i => hp[i]?), e ∈ hp := fun e he => by
    obtain ⟨i, -, hi⟩ := List.mem_filterMap.1 he
    exact List.mem_of_getElem? hi
  exact ⟨h.mod, fun e he => h.holds e (hm e he), fun e he => h.own e (hm e he), pick_pw (fun i j a b hi hj hij hw k h1 h2 => h.sep.disj hi hj hij hw h1 h2) hn⟩
/-- The blocks that entries may write. -/
def Ent.fpl (ρ : List V) : Ent → List Nat
  | .cells v _ _ => [(ρ.getD v (.i 0)).toN]
  | .row v _ _ _ => (ρ.getD v (.i 0)).toV.ownBlock.toList
  | _ => []
def fpAll (ρ : List V) (hp : List Ent) : List Nat := hp.flatMap (Ent.fpl ρ)
theorem Ent.fpl_ok {ρ : List V} {e : Ent} (hw : e.wr = true) {k : Nat} : e.fp ρ k ↔ k ∈ e.fpl ρ := by
  cases e with
  | cells v ty cs => simp [Ent.fp, Ent.fpl]
  | row v ty ks r => simp [Ent.fp, Ent.fpl, blockOf, Option.mem_toList]
  | rd v ks r => cases hw
  | st v => cases hw
theorem mem_fpAll {ρ : List V} {hp : List Ent} {e : Ent} (he : e ∈ hp) (hw : e.wr = true) {k : Nat} (hk : e.fp ρ k) : k ∈ fpAll ρ hp := List.mem_flatMap.2 ⟨e, he, (Ent.fpl_ok hw).1 hk⟩
/-- From here on. -/
theorem Rel.base {B : Base} {ρ : List V} {hp : List Ent} {w : World} (h : Rel B ρ hp w) : Rel ⟨fpAll ρ hp, w⟩ ρ hp w :=
  ⟨Mod.refl _ _, h.holds, fun e he hw k hk => .inr (mem_fpAll he hw hk), h.sep⟩
/-- A nil slice that the call owns. -/
theorem Rel.nilRow {B : Base} {ρ : List V} {hp : List Ent} {w : World} (h : Rel B ρ hp w) (v ty : Nat) (ks : List Kd) (hv : ρ.getD v (.i 0) = .v (.slice none 0 0)) : Rel B ρ (.row v ty ks .nilR :: hp) w :=
  h.cons (by simp only [Ent.holds, hv, V.toV_v, X.ev, V.toR_r]; exact ⟨by simp, World.ownsRow_nil _ _ _ _⟩)
    (fun _ k hk => by simp only [Ent.fp, hv, V.toV_v, blockOf, Value.ownBlock] at hk; cases hk)
    (fun e' _ _ k hk _ => by simp only [Ent.fp, hv, V.toV_v, blockOf, Value.ownBlock] at hk; cases hk)

/-- What a plain call owns is new. -/
theorem Rel.fresh {w w' : World} {ρ : List V} {hp : List Ent} (hr : Rel ⟨[], w⟩ ρ hp w') (i : Nat) {v ty : Nat} {ks : List Kd} {r : X} (h : hp[i]? = some (.row v ty ks r)) : ∀ k, blockOf (ρ.getD v (.i 0)).toV k → w.heap.size ≤ k := fun k hk => by
  rcases hr.own _ (List.mem_of_getElem? h) rfl k hk with h | h
  · exact h
  · simp at h

/-- What a call that gives back owned slices, and writes cells, must show: an assertion on what it gives. -/
theorem callM_rel {C : Cx} {P : Program} {f : Nat} {args : Array Value} {w : World} {ρ : List V} {hp : List Ent} {mods gone : List Nat} {ms es : List Ent} {res : SV} {m : Nat} {t : Tree} {L : List LC}
    (hms : ms.map (fun e => match e with | .cells v _ _ => v | _ => 0) = mods) (hmc : ∀ e ∈ ms, ∃ v ty cs, e = Ent.cells v ty cs) (hw : ∀ e ∈ es, e.wr = true) (hb : ∀ v ∈ mods, v < ρ.length)
    (h : Calls P f args w fun e w1 => ∃ vs : List V, vs.length = m ∧ e = .returned (res.ev (ρ ++ vs)) ∧ Rel ⟨modsOf ρ mods gone, w⟩ (ρ ++ vs) (ms ++ es) w1 ∧ t.goal C (ρ ++ vs) L) :
    Calls P f args w fun e w1 => ∃ vs : List V, vs.length = m ∧ e = .returned (res.ev (ρ ++ vs)) ∧ Mod (modsOf ρ mods gone) w w1 ∧ (∀ x ∈ ms, x.holds (ρ ++ vs) w1) ∧
        (∀ x ∈ es, x.holds (ρ ++ vs) w1 ∧ ∀ k, x.fp (ρ ++ vs) k → w.heap.size ≤ k ∨ (x.wr = false ∧ ∃ y ∈ hp, y.wr = false ∧ y.fp ρ k) ∨ k ∈ goneOf ρ gone) ∧ Apart (ρ ++ vs) es ∧ t.goal C (ρ ++ vs) L := by
  refine h.mono ?_
  rintro e w1 ⟨vs, h1, h2, h3, h4⟩
  refine ⟨vs, h1, h2, h3.mod, fun x hx => h3.holds x (List.mem_append_left _ hx), fun x hx => ⟨h3.holds x (List.mem_append_right _ hx), fun k hk => ?_⟩, (List.pairwise_append.1 h3.sep).2.1, h4⟩
  rcases h3.own x (List.mem_append_right _ hx) (hw x hx) k hk with h5 | h5
  · exact .inl h5
  · simp only [modsOf, List.mem_append] at h5
    rcases h5 with h5 | h5
    · exfalso
      obtain ⟨v, hv, rfl⟩ := List.mem_map.1 h5
      have hv' := hv
      rw [← hms] at hv'
      obtain ⟨y, hy, hyv⟩ := List.mem_map.1 hv'
      obtain ⟨v', ty, cs, rfl⟩ := hmc y hy
      simp only at hyv
      subst hyv
      refine (List.pairwise_append.1 h3.sep).2.2 _ hy x hx (.inl rfl) _ ?_ hk
      have := hb v' hv
      simp [Ent.fp, List.getD_eq_getElem?_getD, List.getElem?_append_left this]
    · exact .inr (.inr h5)

/-- The first assertion, and all others. -/
theorem Rel.hd {B : Base} {ρ : List V} {e : Ent} {hp : List Ent} {w : World} (h : Rel B ρ (e :: hp) w) : e.holds ρ w := h.holds e (List.mem_cons_self ..)
theorem Rel.tl {B : Base} {ρ : List V} {e : Ent} {hp : List Ent} {w : World} (h : Rel B ρ (e :: hp) w) : Rel B ρ hp w :=
  ⟨h.mod, fun x hx => h.holds x (List.mem_cons_of_mem _ hx), fun x hx => h.own x (List.mem_cons_of_mem _ hx), (List.pairwise_cons.1 h.sep).2⟩
theorem exq_hd {x : Ent} {hp : List Ent} {p : Ent → Prop} (h : p x) : ∃ y ∈ x :: hp, p y := ⟨x, List.mem_cons_self .., h⟩
theorem exq_tl {x : Ent} {hp : List Ent} {p : Ent → Prop} (h : ∃ y ∈ hp, p y) : ∃ y ∈ x :: hp, p y := by
  obtain ⟨y, hy, h⟩ := h
  exact ⟨y, List.mem_cons_of_mem _ hy, h⟩
end Go.Sx
