/-
  A small verified symbolic executor (part Ld: regions whose order is open). By an AI agent.
-/
import Derived.Test.YtliedecinehijaaDoorSxLa
import Derived.Deep.RegionHeld3
import Derived.Still
set_option linter.unusedSimpArgs false
set_option linter.unusedVariables false
namespace Go.Sx
open Go

section any
variable {P : Program} {ops : Array Oper} {md : Region.Mode} {Q : Exit → Act → World → Prop} {S : World → Prop} {T : Array Bool → World → Prop}

/-- 'wpAny', and T (of what is listed) holds behind each operation. -/
def wpAnyI (P : Program) (md : Region.Mode) (ops : Array Oper) (Q : Exit → Act → World → Prop) (T : Array Bool → World → Prop) : Nat → Array Bool → Act → World → Prop
  | 0, listed, a, w => Region.ready md ops listed = [] ∧ Q .normal a w
  | fuel + 1, listed, a, w =>
    (Region.ready md ops listed = [] → Q .normal a w) ∧
    ∀ i ∈ Region.ready md ops listed, wpOp P ops Q i (fun a' w' => T (listed.setIfInBounds i true) w' ∧ wpAnyI P md ops Q T fuel (listed.setIfInBounds i true) a' w') a w

theorem wpAny_of_I : ∀ (fuel : Nat) (listed : Array Bool) (a : Act) (w : World), wpAnyI P md ops Q T fuel listed a w → wpAny P md ops Q fuel listed a w
  | 0, _, _, _, h => h
  | fuel + 1, _, _, _, h => ⟨h.1, fun i hi => wpOp_mono (fun a w h => wpAny_of_I fuel _ a w h.2) (h.2 i hi)⟩
/-- What is listed is listed behind what it waits for. -/
def Closed (md : Region.Mode) (ops : Array Oper) (listed : Array Bool) : Prop :=
  ∀ (j : Nat) (oj : Oper), ops[j]? = some oj → listed.getD j false = true → ∀ e ∈ oj.after, Region.binds md e = true → listed.getD e.on false = true
theorem Closed.ready {listed : Array Bool} {j : Nat} (h : Closed md ops listed) (hj : j ∈ Region.ready md ops listed) : Closed md ops (listed.setIfInBounds j true) := by
  intro k ok hk hl e he hb
  refine getD_set_true ?_
  by_cases hjk : j = k
  · subst hjk
    obtain ⟨-, oj, hoj, hall⟩ := mem_ready.1 hj
    rw [hoj] at hk
    cases hk
    exact hall e he hb
  · rw [getD_set_ne false hjk] at hl
    exact h k ok hk hl e he hb

/-- In every world of S the operation yields v and changes nothing. -/
def YieldsIn (P : Program) (ops : Array Oper) (S : World → Prop) (o : Oper) (v : Value) (a : Act) : Prop :=
  (Region.wanted o (yielded ops a.tmps) = true ∧ ∀ w, S w → (execOp a.eval o).run P w = .ok (.value v) w) ∨ (Region.wanted o (yielded ops a.tmps) = false ∧ v = undef)
theorem YieldsIn.of_same {o : Oper} {v : Value} {a a' : Act} (hy : YieldsIn P ops S o v a) (he : execOp a'.eval o = execOp a.eval o)
    (hw : Region.wanted o (yielded ops a'.tmps) = Region.wanted o (yielded ops a.tmps)) : YieldsIn P ops S o v a' := by
  unfold YieldsIn at *
  rw [he, hw]
  exact hy
theorem YieldsIn.wpOp {i : Nat} {o : Oper} {v : Value} {a : Act} {w : World} (hi : ops[i]? = some o) (hy : YieldsIn P ops S o v a) (hS : S w) {K : Act → World → Prop} (h : K (a.put o.dst v) w) : wpOp P ops Q i K a w := by
  unfold Go.wpOp
  simp only [hi]
  rcases hy with ⟨hw, hv⟩ | ⟨hw, rfl⟩
  · simp only [hw, if_true]
    left
    unfold Oper.wp
    rw [hv w hS]
    exact h
  · simp only [hw, Bool.false_eq_true, if_false]
    exact h

theorem wpOp_put {j : Nat} {oi oj : Oper} {v : Value} (hj : ops[j]? = some oj) (hap : oi.apart ops oj = true) (hsi : ∀ cs b, oi.op ≠ .select cs b) (hsj : ∀ cs b, oj.op ≠ .select cs b)
    (hnp : ∀ c a w, ¬ Q (.panic c) a w) {K : Act → World → Prop} {a : Act} {w : World} (hy : YieldsIn P ops S oi v a) (h : wpOp P ops Q j K (a.put oi.dst v) w) :
    wpOp P ops Q j (fun a' w' => YieldsIn P ops S oi v a' ∧ K (a'.put oi.dst v) w') a w := by
  obtain ⟨h1, h2, h3⟩ := Oper.apart_spec hap
  have keep : ∀ (a : Act), YieldsIn P ops S oi v a → ∀ u, YieldsIn P ops S oi v (a.put oj.dst u) := fun a hy u =>
    hy.of_same (execOp_put oi hsi a oj.dst u h3) (wanted_put oi a oj.dst u h3)
  have keepd : ∀ (a : Act) (d : Deferred), YieldsIn P ops S oi v a → YieldsIn P ops S oi v { a with defers := d :: a.defers } := fun a d hy => hy
  unfold wpOp at *
  simp only [hj] at *
  rw [wanted_put oj a oi.dst v h1] at h
  split
  · rename_i hw
    simp only [hw, if_true] at h
    rcases h with h | ⟨h, hl⟩
    · left
      unfold Oper.wp at *
      rw [execOp_put oj hsj a oi.dst v h1] at h
      generalize (execOp a.eval oj).run P w = r at *
      cases r with
      | ok n w' =>
        cases n <;> simp only [Oper.upon] at h ⊢
        case value u => exact ⟨keep a hy u, by rw [← Act.put_comm a v u h2]; exact h⟩
        case skip => exact ⟨keep a hy _, by rw [← Act.put_comm a v undef h2]; exact h⟩
        case defer d =>
          refine ⟨keep _ (keepd a d hy) _, ?_⟩
          rw [← Act.put_comm _ v undef h2, ← Act.put_defers]
          exact h
        case enter f args =>
          refine h.mono fun e w'' he => ?_
          cases e with
          | returned u => exact ⟨keep a hy u, by rw [← Act.put_comm a v u h2]; exact he⟩
          | panicked c => exact (hnp _ _ _ he).elim
          | outgrown => exact he
        case row r args => exact h.mono fun u w'' he => ⟨keep a hy u, by rw [← Act.put_comm a v u h2]; exact he⟩
      | halt x w' => cases x <;> simp only [Oper.upon] at h ⊢; exact (hnp _ _ _ h).elim
    · right
      refine ⟨?_, hl⟩
      unfold Oper.asks at *
      rw [execOp_put oj hsj a oi.dst v h1] at h
      exact h
  · rename_i hw
    simp only [hw] at h
    exact ⟨keep a hy _, by rw [← Act.put_comm a v undef h2]; exact h⟩

theorem wpAnyI_first {i : Nat} {oi : Oper} {v : Value} (hi : ops[i]? = some oi) (hsel : ∀ (j : Nat) (o : Oper) cs b, ops[j]? = some o → o.op ≠ .select cs b) (hnp : ∀ c a w, ¬ Q (.panic c) a w)
    (hTi : ∀ listed w, T (listed.setIfInBounds i true) w ↔ T listed w) (hTS : ∀ listed w, Closed md ops listed → listed.getD i true = false → T listed w → S w) :
    ∀ (fuel : Nat) (listed : Array Bool) (a : Act) (w : World), Closed md ops listed →
      (∀ j oj, ops[j]? = some oj → j ≠ i → listed.getD j true = false → (∀ e ∈ oj.after, Region.binds md e = true → e.on ≠ i) → oi.apart ops oj = true) →
      i ∈ Region.ready md ops listed → YieldsIn P ops S oi v a → T listed w →
      wpAnyI P md ops Q T fuel (listed.setIfInBounds i true) (a.put oi.dst v) w → wpAnyI P md ops Q T (fuel + 1) listed a w := by
  intro fuel
  induction fuel with
  | zero =>
    intro listed a w hcl _ hr hy hT H
    refine ⟨fun h => (by rw [h] at hr; cases hr), fun j hj => ?_⟩
    by_cases hji : j = i
    · subst hji; exact hy.wpOp hi (hTS _ _ hcl (mem_ready.1 hr).1 hT) ⟨(hTi _ _).2 hT, H⟩
    · have := ready_mono hj hji
      rw [H.1] at this
      cases this
  | succ fuel ih =>
    intro listed a w hcl hfree hr hy hT H
    refine ⟨fun h => (by rw [h] at hr; cases hr), fun j hj => ?_⟩
    by_cases hji : j = i
    · subst hji; exact hy.wpOp hi (hTS _ _ hcl (mem_ready.1 hr).1 hT) ⟨(hTi _ _).2 hT, H⟩
    · have h1 := H.2 j (ready_mono hj hji)
      obtain ⟨hjun, oj, hoj, hall⟩ := mem_ready.1 hj
      have hnot : ∀ e ∈ oj.after, Region.binds md e = true → e.on ≠ i := fun e he hb heq => by
        have h1 := hall e he hb
        have h0 := (mem_ready.1 hr).1
        rw [heq] at h1
        rcases Nat.lt_or_ge i listed.size with h' | h'
        · simp [h'] at h0 h1; rw [h0] at h1; cases h1
        · simp [Array.getElem?_eq_none h'] at h1
      have h2 := wpOp_put hoj (hfree j oj hoj hji hjun hnot) (fun cs b => hsel i oi cs b hi) (fun cs b => hsel j oj cs b hoj) hnp hy h1
      have hfree' : ∀ k ok, ops[k]? = some ok → k ≠ i → (listed.setIfInBounds j true).getD k true = false →
          (∀ e ∈ ok.after, Region.binds md e = true → e.on ≠ i) → oi.apart ops ok = true := fun k ok hk hki hun hno => by
        refine hfree k ok hk hki ?_ hno
        by_cases hjk : j = k
        · subst hjk; exact hjun
        · rw [getD_set_ne true hjk] at hun; exact hun
      have hr' : i ∈ Region.ready md ops (listed.setIfInBounds j true) := ready_mono hr (Ne.symm hji)
      refine wpOp_mono (fun a' w' h3 => ?_) h2
      have hT' : T (listed.setIfInBounds j true) w' := by
        have := h3.2.1
        rw [Array.setIfInBounds_comm _ _ (Ne.symm hji)] at this
        exact (hTi _ _).1 this
      refine ⟨hT', ih (listed.setIfInBounds j true) a' w' (hcl.ready hj) hfree' hr' h3.1 hT' ?_⟩
      rw [Array.setIfInBounds_comm _ _ hji]
      exact h3.2.2
end any

/-- What hands several results on, or takes one of them. -/
def tupOp (st : St) : Op → Option SV
  | .move (.tmp t) => match st.slot t with | .tup l => some (.tup l) | _ => none
  | .extract (.tmp t) i => match st.slot t with | .tup l => (l[i]?).map SV.cv | _ => none
  | _ => none
/-- An operation that only yields, out of what the region leaves alone: what it asks, what it puts. -/
def lightOf (E : Env) (ops : List Oper) (keep : List Ent) (st : St) (i : Nat) : Option (Option Tmp × X × List X × SV) := do
  let o ← ops[i]?
  let G ← guardOf ops o st
  if G = .B false then some (o.dst, G, [], .tup []) else
    match (if G = .B true then tupOp st o.op else none) with
    | some s => some (o.dst, G, [], s)
    | none => do
      let (ns, c) ← valOp E { st with hp := keep } G o.op
      some (o.dst, G, ns, if G = .B true then .cv c else .gd G c)
def bothAll : List Tree → Tree
  | [] => .stuck "none"
  | [t] => t
  | t :: l => .both t (bothAll l)
/-- Does an operation wait for another one, at last? -/
def waitsFor (ops : Array Oper) (i : Nat) : Nat → Nat → Bool
  | 0, _ => false
  | n + 1, j => match ops[j]? with
    | some o => o.after.any fun e => Region.binds .any e && (e.on == i || waitsFor ops i n e.on)
    | none => false
/-- What stands still till an operation is drawn. -/
def stillTill (ops : List Oper) (keep soft : List Ent) (tch : List Nat) (i : Nat) : List Ent :=
  if tch.all (waitsFor ops.toArray i ops.length) = true then keep ++ soft else keep
def exDraw (E : Env) (inl : InlF) (ops : List Oper) (keep soft : List Ent) (tch : List Nat) : Nat → Array Bool → St → (St → Tree) → Tree
  | 0, listed, st, k => if Region.ready .any ops.toArray listed = [] then k st else .stuck "an open order fuel"
  | fuel + 1, listed, st, k =>
    match Region.ready .any ops.toArray listed with
    | [] => k st
    | rs => match rs.find? fun i => !tch.contains i && ((lightOf E ops (stillTill ops keep soft tch i) st i).isSome && Region.free .any ops.toArray listed i) with
      | some i => match lightOf E ops (stillTill ops keep soft tch i) st i with
        | some (d, G, ns, s) => needsT G ns (exDraw E inl ops keep soft tch fuel (listed.setIfInBounds i true) (st.put d s) k)
        | none => .stuck "an open order"
      | none => bothAll (rs.map fun i => match ops[i]? with
          | some o => exOp E inl ops o st fun st' => if (keep.all (fun e => st'.hp.contains e) && (tch.any (fun t => t == i || listed.getD t false) || soft.all (fun e => st'.hp.contains e))) = true then exDraw E inl ops keep soft tch fuel (listed.setIfInBounds i true) st' k else .stuck "an open order what is kept"
          | none => .stuck "an open order")
/-- What a region's operations may write: where it is not known (a pointer that is read in the region itself), all but what holds a pointer alone. -/
def loadedIn (ops : List Oper) : List Nat := ops.filterMap fun o => match o.op with | .load .. => o.dst | _ => none
def touched (ops : List Oper) (st : St) : List Nat :=
  ((storeRoots ops []).filterMap fun t => match st.slot t with | .cv (false, [.ptr v _]) => some v | _ => none) ++
    (if (storeRoots ops []).any (fun t => (loadedIn ops).contains t) = true then st.hp.filterMap fun | .cells _ _ [.ptr ..] => none | .cells v _ _ => some v | _ => none else [])
/-- Which operations may change what stands there. -/
def touchers (ops : List Oper) : List Nat := (List.range ops.length).filter fun i => match ops[i]? with
  | some o => match o.op with
    | .store .. | .slice .. => true
    | .call c => match c.callee with
      | .builtin b => match b with | .append | .clear | .copy => true | _ => false
      | _ => true
    | _ => false
  | none => false
def exRegion (E : Env) (inl : InlF) (ops : List Oper) (st : St) (k : St → Tree) : Tree :=
  let M := touched ops st
  let keep := st.hp.filter fun | .cells v _ _ => !(M.contains v) | .row .. => false | _ => true
  let soft := st.hp.filter fun | .cells v _ _ => M.contains v | .row .. => true | _ => false
  let tch := if soft.isEmpty = true then [] else touchers ops
  if Region.noSelect ops.toArray = true then exDraw E inl ops keep soft tch ops.length (Array.replicate ops.length false) st k else .stuck "a select"

section
variable {C : Cx} {E : Env}

theorem bothAll_ok {ρ : List V} {L : List LC} : ∀ {l : List Tree}, (bothAll l).goal C ρ L → ∀ t ∈ l, t.goal C ρ L
  | [], h => h.elim
  | [t], h => by intro u hu; simp at hu; subst hu; exact h
  | t :: u :: l, h => by
    intro x hx
    obtain ⟨h1, h2⟩ := h
    rcases List.mem_cons.1 hx with rfl | hx
    · exact h1
    · exact bothAll_ok h2 x hx
theorem waitsFor_ok {ops : Array Oper} {i : Nat} {listed : Array Bool} (hc : Closed .any ops listed) : ∀ (n j : Nat), waitsFor ops i n j = true → listed.getD j false = true → listed.getD i false = true
  | 0, _, h, _ => by cases h
  | n + 1, j, h, hl => by
    simp only [waitsFor] at h
    split at h
    · rename_i o ho
      have h : ∃ (k : Nat) (hk : k < o.after.size), Region.binds .any o.after[k] = true ∧ (o.after[k].on = i ∨ waitsFor ops i n o.after[k].on = true) := by simpa using h
      obtain ⟨k, hk, h1, h2⟩ := h
      have h3 := hc j o ho hl _ (Array.getElem_mem hk) h1
      rcases h2 with h4 | h4
      · rw [← h4]; exact h3
      · exact waitsFor_ok hc n _ h4 h3
    · cases h
/-- What stands still, as long as nothing is drawn that touches it. -/
def SoftT (ρ0 : List V) (keep soft : List Ent) (tch : List Nat) (listed : Array Bool) (w : World) : Prop :=
  Hold ρ0 keep w ∧ ((∀ t ∈ tch, listed.getD t false = false) → Hold ρ0 soft w)
theorem SoftT.iff {ρ0 : List V} {keep soft : List Ent} {tch : List Nat} {i : Nat} (hi : ¬ i ∈ tch) (listed : Array Bool) (w : World) : SoftT ρ0 keep soft tch (listed.setIfInBounds i true) w ↔ SoftT ρ0 keep soft tch listed w := by
  have e : ∀ t ∈ tch, (listed.setIfInBounds i true).getD t false = listed.getD t false := fun t ht => getD_set_ne false (fun h => hi (h ▸ ht))
  exact ⟨fun h => ⟨h.1, fun h2 => h.2 fun t ht => by rw [e t ht]; exact h2 t ht⟩, fun h => ⟨h.1, fun h2 => h.2 fun t ht => by rw [← e t ht]; exact h2 t ht⟩⟩
theorem SoftT.still {ρ0 : List V} {ops : List Oper} {keep soft : List Ent} {tch : List Nat} {i : Nat} {listed : Array Bool} {w : World} (hc : Closed .any ops.toArray listed) (hu : listed.getD i true = false) (h : SoftT ρ0 keep soft tch listed w) : Hold ρ0 (stillTill ops keep soft tch i) w := by
  unfold stillTill
  split
  · rename_i hall
    have hu' : listed.getD i false = false := by
      rcases Nat.lt_or_ge i listed.size with h' | h'
      · simp [h'] at hu ⊢; exact hu
      · simp [Array.getElem?_eq_none h'] at hu
    have h2 := h.2 fun t ht => by
      cases hl : listed.getD t false with
      | false => rfl
      | true =>
        have := waitsFor_ok hc _ _ (List.all_eq_true.1 hall t ht) hl
        rw [hu'] at this; cases this
    intro e he
    rcases List.mem_append.1 he with he | he
    · exact h.1 e he
    · exact h2 e he
  · exact h.1
theorem tupOp_ok {st : St} {ρ : List V} {a : Act} {w0 : World} (hi : Inv C st ρ a w0) {o : Oper} {s : SV} (h : tupOp st o.op = some s) : ∃ v, (∀ w, (execOp a.eval o).run C.P w = .ok (.value v) w) ∧ s.rel ρ v := by
  unfold tupOp at h
  split at h
  · rename_i t hop
    have hrel := hi.fr t
    split at h
    · rename_i l hs
      simp only [Option.some.injEq] at h
      subst h
      rw [hs] at hrel
      exact ⟨a.eval (.tmp t), fun w => by unfold execOp; simp only [hop, Sem.run_pure], hrel⟩
    · cases h
  · rename_i t i hop
    have hrel := hi.fr t
    split at h
    · rename_i l hs
      simp only [Option.map_eq_some_iff] at h
      obtain ⟨c, hc, rfl⟩ := h
      rw [hs] at hrel
      have hrel : a.eval (.tmp t) = .tuple (l.map (CV.ev ρ)).toArray := hrel
      refine ⟨CV.ev ρ c, fun w => ?_, rfl⟩
      unfold execOp
      simp only [hop, hrel, Instr.extract, List.getElem?_toArray, List.getElem?_map, hc, Option.map_some]
      simp only [go_sem, Sem.run_bind, Sem.run_pure, Result.andThen_ok]
    · cases h
  · cases h
theorem exDraw_ok (hE : EnvOK C.P E) {inl : InlF} (hI : InlOK C inl) {ops : List Oper} {keep soft : List Ent} {tch : List Nat} {ρ0 : List V} {Q : Exit → Act → World → Prop} (hkb : keep.all (Ent.bd ρ0.length) = true) (hsb : soft.all (Ent.bd ρ0.length) = true) (hsel : Region.noSelect ops.toArray = true)
    (hnp : ∀ c a w, ¬ Q (.panic c) a w) : ∀ (fuel : Nat) (listed : Array Bool) {st : St} {ρ : List V} {L : List LC} {a : Act} {w : World} {k : St → Tree}, Closed .any ops.toArray listed → Inv C st ρ a w → st.d = L.length → ρ0 <+: ρ → SoftT ρ0 keep soft tch listed w →
      (∀ st' ρ' L' a' w', L <+: L' → st'.d = L'.length → ρ <+: ρ' → (k st').goal C ρ' L' → Inv C st' ρ' a' w' → Q .normal a' w') → (exDraw E inl ops keep soft tch fuel listed st k).goal C ρ L →
      wpAnyI C.P .any ops.toArray Q (SoftT ρ0 keep soft tch) fuel listed a w := by
  have hputd : ∀ (st : St) (d : Option Tmp) (s : SV), (st.put d s).d = st.d := by intro st d s; cases d <;> rfl
  have hagk : ∀ l : List Ent, l.all (Ent.bd ρ0.length) = true → ∀ ρ, ρ0 <+: ρ → ∀ w, Hold ρ0 l w ↔ Hold ρ l w := by
    rintro l hlb ρ ⟨t, rfl⟩ w
    have hb := List.all_eq_true.1 hlb
    exact ⟨fun h e he => (Ent.holds_bd (Agree.app ρ0 t) e (hb e he) w).1 (h e he), fun h e he => (Ent.holds_bd (Agree.app ρ0 t) e (hb e he) w).2 (h e he)⟩
  have hstb : ∀ i, (stillTill ops keep soft tch i).all (Ent.bd ρ0.length) = true := by
    intro i
    unfold stillTill
    split
    · rw [List.all_append, hkb, hsb]; rfl
    · exact hkb
  intro fuel
  induction fuel with
  | zero =>
    intro listed st ρ L a w k hcl hi hdL hp hS hk hg
    simp only [exDraw] at hg
    split at hg
    · rename_i hr; exact ⟨hr, hk _ _ _ _ _ List.prefix_rfl hdL List.prefix_rfl hg hi⟩
    · exact hg.elim
  | succ fuel ih =>
    intro listed st ρ L a w k hcl hi hdL hp hS hk hg
    simp only [exDraw] at hg
    split at hg
    · rename_i hr
      exact ⟨fun _ => hk _ _ _ _ _ List.prefix_rfl hdL List.prefix_rfl hg hi, fun i hi' => by rw [hr] at hi'; cases hi'⟩
    · rename_i rs hne
      split at hg
      · rename_i i hfind
        have hmem := List.mem_of_find?_eq_some hfind
        have hprop := List.find?_some hfind
        simp only [Bool.and_eq_true, Bool.not_eq_true'] at hprop
        have hnt : ¬ i ∈ tch := fun h => by
          have := hprop.1
          rw [List.contains_iff_mem.2 h] at this; cases this
        split at hg
        · rename_i d G ns s hl
          obtain ⟨hn, hg⟩ := needsT_ok hg
          unfold lightOf at hl
          simp only [Option.bind_eq_bind, Option.bind_eq_some_iff] at hl
          obtain ⟨o, ho, G', hgd, hl⟩ := hl
          have hoa : ops.toArray[i]? = some o := by simpa using ho
          have hwant := guard_ok hi hgd
          have hcase : (∃ v, YieldsIn C.P ops.toArray (Hold ρ0 (stillTill ops keep soft tch i)) o v a ∧ s.rel ρ v) ∧ d = o.dst := by
            split at hl
            · rename_i hGf
              simp only [Option.some.injEq, Prod.mk.injEq] at hl
              obtain ⟨rfl, rfl, rfl, rfl⟩ := hl
              subst hGf
              exact ⟨⟨undef, .inr ⟨by rw [hwant]; rfl, rfl⟩, rfl⟩, rfl⟩
            · split at hl
              · rename_i s' hs'
                simp only [Option.some.injEq, Prod.mk.injEq] at hl
                obtain ⟨rfl, rfl, rfl, rfl⟩ := hl
                split at hs'
                · rename_i hGt
                  subst hGt
                  obtain ⟨v, hv1, hv2⟩ := tupOp_ok hi hs'
                  exact ⟨⟨v, .inl ⟨by rw [hwant]; rfl, fun w' _ => hv1 w'⟩, hv2⟩, rfl⟩
                · cases hs'
              simp only [Option.bind_eq_some_iff, Option.some.injEq, Prod.mk.injEq] at hl
              obtain ⟨⟨ns', c⟩, hv, rfl, rfl, rfl, rfl⟩ := hl
              refine ⟨?_, rfl⟩
              cases hG : (G'.ev ρ).toB with
              | true =>
                refine ⟨CV.ev ρ c, .inl ⟨by rw [hwant, hG], fun w' hS' => valOp_at hE hi ((hagk _ (hstb i) ρ hp w').1 hS') hG hv (hn hG)⟩, ?_⟩
                split
                · rfl
                · exact ⟨fun _ => rfl, (fun h => by rw [hG] at h; cases h)⟩
              | false =>
                refine ⟨undef, .inr ⟨by rw [hwant, hG], rfl⟩, ?_⟩
                split
                · rename_i h; subst h; simp [X.ev] at hG
                · exact ⟨(fun h => by rw [hG] at h; cases h), fun _ => rfl⟩
          obtain ⟨⟨v, hy, hrel⟩, rfl⟩ := hcase
          refine wpAnyI_first hoa (Region.noSelect_spec hsel) hnp (fun l w => SoftT.iff hnt l w) (fun l w h1 h2 h3 => h3.still h1 h2) fuel listed a w hcl (Region.free_spec hoa hprop.2.2) hmem hy hS ?_
          exact ih _ (hcl.ready hmem) (hi.put _ hrel) ((hputd _ _ _).trans hdL) hp ((SoftT.iff hnt listed w).2 hS) hk hg
        · exact hg.elim
      · have hall := bothAll_ok hg
        refine ⟨fun h => (hne h).elim, fun j hj => ?_⟩
        have hg := hall _ (List.mem_map_of_mem hj)
        split at hg
        · rename_i o ho
          have hoa : ops.toArray[j]? = some o := by simpa using ho
          have := exOp_ok (ops := ops) (K := fun a' w' => SoftT ρ0 keep soft tch (listed.setIfInBounds j true) w' ∧ wpAnyI C.P .any ops.toArray Q (SoftT ρ0 keep soft tch) fuel (listed.setIfInBounds j true) a' w') (Q := Q) hE hI hi hdL (fun st' ρ' L' a' w' hL hd hp' hg' hi' => by
            split at hg'
            · rename_i hkeep
              simp only [Bool.and_eq_true, Bool.or_eq_true] at hkeep
              have hS' : SoftT ρ0 keep soft tch (listed.setIfInBounds j true) w' := by
                refine ⟨(hagk _ hkb ρ' (hp.trans hp') w').2 fun e he => hi'.rel.holds e (by simpa using List.all_eq_true.1 hkeep.1 e he), fun hun => ?_⟩
                rcases hkeep.2 with h | h
                · obtain ⟨t, ht, h⟩ := List.any_eq_true.1 h
                  have hun := hun t ht
                  simp only [Bool.or_eq_true, beq_iff_eq] at h
                  rcases h with rfl | h
                  · have hlt : t < listed.size := by
                      have h0 := (mem_ready.1 hj).1
                      rcases Nat.lt_or_ge t listed.size with h' | h'
                      · exact h'
                      · simp [Array.getElem?_eq_none h'] at h0
                    simp [hlt] at hun
                  · rw [getD_set_true h] at hun; cases hun
                · exact (hagk _ hsb ρ' (hp.trans hp') w').2 fun e he => hi'.rel.holds e (by simpa using List.all_eq_true.1 h e he)
              exact ⟨hS', ih _ (hcl.ready hj) hi' hd (hp.trans hp') hS' (fun st'' ρ'' L'' a'' w'' hL' hd' hp'' => hk _ _ _ _ _ (hL.trans hL') hd' (hp'.trans hp'')) hg'⟩
            · exact hg'.elim) hg
          unfold wpOp
          simp only [hoa]
          split
          · rename_i hw; rw [if_pos hw] at this; exact .inl this
          · rename_i hw; rw [if_neg hw] at this; exact this
        · exact hg.elim

theorem exRegion_ok (hE : EnvOK C.P E) {inl : InlF} (hI : InlOK C inl) {L : List LC} {id : Nat} {ops : Array Oper} {Q : Exit → Act → World → Prop} {st : St} {ρ : List V} {a : Act} {w : World} {k : St → Tree} (hi : Inv C st ρ a w) (hdL : st.d = L.length)
    (hk : ∀ st' ρ' L' a' w', L <+: L' → st'.d = L'.length → ρ <+: ρ' → (k st').goal C ρ' L' → Inv C st' ρ' a' w' → Q .normal a' w') (hg : (exRegion E inl ops.toList st k).goal C ρ L) : (Code.region id ops true).wp C.P Q a w := by
  unfold exRegion at hg
  simp only [] at hg
  split at hg
  · rename_i hsel
    refine wp_region_noPanic (wp_region_any hE.mixed ?_)
    have hi' : Inv C st ρ a w.drew := hi.world hi.rel.drew
    have hcl : Closed .any ops (Array.replicate ops.toList.length false) := fun j oj hj hl => by
      exfalso
      rcases Nat.lt_or_ge j ops.size with h' | h'
      · simp [h'] at hl
      · simp [Array.getElem?_eq_none h'] at hj
    have hall := List.all_eq_true.1 hi.bdh
    have := exDraw_ok (Q := NoPanic Q) (ρ0 := ρ) hE hI ?_ ?_ hsel (fun c a w h => h) ops.toList.length (Array.replicate ops.toList.length false) (by simpa using hcl) hi' hdL List.prefix_rfl ?_ (fun st' ρ' L' a' w' hL hd hp hg' hi'' => NoPanic.normal (hk st' ρ' L' a' w' hL hd hp hg' hi'')) hg
    · exact wpAny_of_I _ _ _ _ (by simpa using this)
    · refine List.all_eq_true.2 fun e he => ?_
      rw [hi.len]
      exact hall e (List.mem_filter.1 he).1
    · refine List.all_eq_true.2 fun e he => ?_
      rw [hi.len]
      exact hall e (List.mem_filter.1 he).1
    · exact ⟨fun e he => hi'.rel.holds e (List.mem_filter.1 he).1, fun _ e he => hi'.rel.holds e (List.mem_filter.1 he).1⟩
  · exact hg.elim
end
end Go.Sx
