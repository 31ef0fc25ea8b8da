/-
  A small verified symbolic executor (part M: loops are sound; code is sound). By an AI agent.
-/
import Derived.Test.YtliedecinehijaaDoorSxL
set_option linter.unusedSimpArgs false
set_option linter.unusedVariables false
namespace Go.Sx
open Go
variable {C : Cx} {E : Env}

section fit
variable {n0 : Nat} {xs : List X} {ρ ρc : List V} {w : World}

/-- The head's atoms: the first n0 as they are here, then the values of xs. -/
def headEnv (ρ ρc : List V) (xs : List X) : List V := ρ ++ xs.map (X.ev ρc)

theorem atX_ok {f : Nat} {x : X} (hl : ρ.length = n0) (h : atX n0 xs f = some x) : (headEnv ρ ρc xs).getD f (.i 0) = x.ev ρc := by
  unfold atX at h
  simp only [Option.ite_none_right_eq_some] at h
  obtain ⟨h1, h2⟩ := h
  subst hl
  simp [headEnv, List.getD_eq_getElem?_getD, List.getElem?_append_right h1, h2]
theorem headEnv_agree (hl : ρ.length = n0) (ha : Agree n0 ρ ρc) : Agree n0 (headEnv ρ ρc xs) ρc := by
  subst hl
  exact (Agree.app ρ _).symm.trans ha

theorem fitX_ok (hl : ρ.length = n0) (ha : Agree n0 ρ ρc) {h c : X} (hf : fitX n0 xs h c = true) : h.ev (headEnv ρ ρc xs) = c.ev ρc := by
  unfold fitX at hf
  simp only [Bool.or_eq_true, Bool.and_eq_true, beq_iff_eq] at hf
  rcases hf with ⟨hb, rfl⟩ | hf
  · exact X.ev_bd (headEnv_agree hl ha) h hb
  · split at hf
    · rename_i f
      simp only [beq_iff_eq] at hf
      simp only [X.ev]
      exact atX_ok hl hf
    · cases hf
theorem fitSc_ok (hl : ρ.length = n0) (ha : Agree n0 ρ ρc) {h c : Sc} (hf : fitSc n0 xs h c = true) : h.ev (headEnv ρ ρc xs) = c.ev ρc := by
  unfold fitSc at hf
  split at hf
  · simp only [Bool.and_eq_true, beq_iff_eq] at hf
    obtain ⟨rfl, hf⟩ := hf
    simp only [Sc.ev, fitX_ok hl ha hf]
  · simp only [Sc.ev, fitX_ok hl ha hf]
  · simp only [Sc.ev, fitX_ok hl ha hf]
  · simp only [Sc.ev, fitX_ok hl ha hf]
  · simp only [Sc.ev, fitX_ok hl ha hf]; rfl
  · simp only [Sc.ev, fitX_ok hl ha hf]; rfl
  · simp only [Sc.ev, fitX_ok hl ha hf]; rfl
  · simp only [Bool.and_eq_true, beq_iff_eq] at hf
    obtain ⟨rfl, hf⟩ := hf
    have := fitX_ok hl ha hf
    simp only [X.ev] at this
    simp only [Sc.ev, this]
  · simp only [Bool.and_eq_true, beq_iff_eq] at hf
    obtain ⟨hb, rfl⟩ := hf
    exact Sc.ev_bd (headEnv_agree hl ha) _ hb
theorem fitScs_ok (hl : ρ.length = n0) (ha : Agree n0 ρ ρc) : ∀ {hs cs : List Sc}, fitScs n0 xs hs cs = true → hs.map (Sc.ev (headEnv ρ ρc xs)) = cs.map (Sc.ev ρc) := by
  intro hs
  induction hs with
  | nil => intro cs h; cases cs <;> simp [fitScs] at h; rfl
  | cons a hs ih =>
    intro cs h
    cases cs <;> simp [fitScs] at h
    simp [fitSc_ok hl ha h.1, ih h.2]
theorem CV.ev_of_map {ρ ρ' : List V} {g : Bool} {hs cs : List Sc} (h : hs.map (Sc.ev ρ) = cs.map (Sc.ev ρ')) : CV.ev ρ (g, hs) = CV.ev ρ' (g, cs) := by
  cases g
  · match hs, cs, h with
    | [], [], _ => rfl
    | [a], [b], h => simpa [CV.ev] using h
    | _ :: _ :: _, _ :: _ :: _, _ => rfl
    | [], _ :: _, h => simp at h
    | _ :: _, [], h => simp at h
    | [_], _ :: _ :: _, h => simp at h
    | _ :: _ :: _, [_], h => simp at h
  · simp [CV.ev, h]
theorem fitSV_ok (hl : ρ.length = n0) (ha : Agree n0 ρ ρc) {h c : SV} (hf : fitSV n0 xs h c = true) {x : Value} (hr : c.rel ρc x) : h.rel (headEnv ρ ρc xs) x := by
  unfold fitSV at hf
  split at hf
  · trivial
  · simp only [Bool.and_eq_true, beq_iff_eq] at hf
    obtain ⟨rfl, hf⟩ := hf
    exact (show x = _ from hr).trans (CV.ev_of_map (fitScs_ok hl ha hf)).symm
  · simp only [Bool.and_eq_true, beq_iff_eq] at hf
    obtain ⟨hb, rfl⟩ := hf
    exact SV.rel_bd (headEnv_agree hl ha).symm _ hb x hr
theorem fitFr_ok : ∀ {hs cs : List SV}, fitFr n0 xs hs cs = true → hs.length = cs.length ∧ ∀ j, fitSV n0 xs (hs.getD j .dead) (cs.getD j .dead) = true := by
  intro hs
  induction hs with
  | nil => intro cs h; cases cs <;> simp [fitFr] at h; exact ⟨rfl, fun j => by simp [fitSV]⟩
  | cons a hs ih =>
    intro cs h
    cases cs <;> simp [fitFr] at h
    obtain ⟨h1, h2⟩ := ih h.2
    refine ⟨by simp [h1], fun j => ?_⟩
    cases j
    · simpa using h.1
    · simpa [List.getD_eq_getElem?_getD] using h2 _

theorem fitEnt_ok (hl : ρ.length = n0) (ha : Agree n0 ρ ρc) {h c : Ent} (hf : fitEnt n0 xs h c = true) :
    h.wr = c.wr ∧ (∀ w, h.holds (headEnv ρ ρc xs) w ↔ c.holds ρc w) ∧ ∀ k, h.fp (headEnv ρ ρc xs) k ↔ c.fp ρc k := by
  have hag := headEnv_agree (xs := xs) hl ha
  unfold fitEnt at hf
  split at hf
  · simp only [Bool.and_eq_true, beq_iff_eq] at hf
    obtain ⟨⟨hv, rfl⟩, hf⟩ := hf
    have hv := fitX_ok hl ha hv
    simp only [X.ev] at hv
    exact ⟨rfl, fun w => by simp only [Ent.holds, hv, fitScs_ok hl ha hf], fun k => by simp only [Ent.fp, hv]⟩
  · simp only [Bool.and_eq_true, beq_iff_eq] at hf
    obtain ⟨⟨⟨hv, rfl⟩, rfl⟩, hf⟩ := hf
    have hv := fitX_ok hl ha hv
    simp only [X.ev] at hv
    exact ⟨rfl, fun w => by simp only [Ent.holds, hv, fitX_ok hl ha hf], fun k => by simp only [Ent.fp, hv]⟩
  · simp only [Bool.and_eq_true, beq_iff_eq] at hf
    obtain ⟨⟨hv, rfl⟩, hf⟩ := hf
    have hv := fitX_ok hl ha hv
    simp only [X.ev] at hv
    exact ⟨rfl, fun w => by simp only [Ent.holds, hv, fitX_ok hl ha hf], fun k => by simp only [Ent.fp, hv, fitX_ok hl ha hf]⟩
  · simp only [Bool.and_eq_true, beq_iff_eq, decide_eq_true_eq] at hf
    obtain ⟨hv, rfl⟩ := hf
    exact ⟨rfl, fun w => by simp only [Ent.holds, hag _ hv], fun k => by simp only [Ent.fp, hag _ hv]⟩
  · cases hf

theorem takeOut_ok {p : Ent → Bool} : ∀ {cs cs' : List Ent} {c : Ent}, takeOut p cs = some (c, cs') → p c = true ∧ cs.Perm (c :: cs') := by
  intro cs
  induction cs with
  | nil => intro cs' c h; simp [takeOut] at h
  | cons x cs ih =>
    intro cs' c h
    simp only [takeOut] at h
    split at h
    · rename_i hp; simp at h; obtain ⟨rfl, rfl⟩ := h; exact ⟨hp, List.Perm.refl _⟩
    · split at h
      · rename_i d ds hd
        simp at h; obtain ⟨rfl, rfl⟩ := h
        obtain ⟨h1, h2⟩ := ih hd
        exact ⟨h1, (h2.cons x).trans (List.Perm.swap _ _ _)⟩
      · cases h
theorem nilRow_ok (hl : ρ.length = n0) (ha : Agree n0 ρ ρc) {h : Ent} (hn : nilRow n0 xs h = true) : (∀ w, h.holds (headEnv ρ ρc xs) w) ∧ ∀ k, ¬ h.fp (headEnv ρ ρc xs) k := by
  unfold nilRow at hn
  split at hn
  · rename_i v ty ks r
    simp only [Bool.and_eq_true] at hn
    obtain ⟨h1, h2⟩ := hn
    split at h1
    · rename_i hx
      have e1 := atX_ok (ρc := ρc) hl hx
      have e2 := fitX_ok hl ha h2
      simp only [X.ev] at e1 e2
      refine ⟨fun w => ?_, fun k hk => ?_⟩
      · simp only [Ent.holds, e1, e2, V.toV_v, V.toR_r]
        exact ⟨by simp, World.ownsRow_nil _ _ _ _⟩
      · simp only [Ent.fp, e1, V.toV_v, blockOf, Value.ownBlock] at hk
        cases hk
    · cases h1
  · cases hn
theorem fitHp_ok {B : Base} (hl : ρ.length = n0) (ha : Agree n0 ρ ρc) : ∀ {hs cs : List Ent}, fitHp n0 xs hs cs = true → Rel B ρc cs w →
    Rel B (headEnv ρ ρc xs) hs w ∧ ∀ h ∈ hs, (∃ c ∈ cs, h.wr = c.wr ∧ ∀ k, h.fp (headEnv ρ ρc xs) k ↔ c.fp ρc k) ∨ ∀ k, ¬ h.fp (headEnv ρ ρc xs) k := by
  intro hs
  induction hs with
  | nil => intro cs hf hr; exact ⟨⟨hr.mod, fun e he => by simp at he, fun e he => by simp at he, List.Pairwise.nil⟩, fun e he => by simp at he⟩
  | cons h hs ih =>
    intro cs hf hr
    simp only [fitHp] at hf
    split at hf
    · rename_i c cs' hto
      obtain ⟨hfe, hperm⟩ := takeOut_ok hto
      have hr1 := hr.perm hperm
      have hr' := hr1.sublist (List.sublist_cons_self c cs')
      obtain ⟨h1, h2, h3⟩ := fitEnt_ok hl ha hfe
      have hcm : c ∈ cs := hperm.symm.subset (List.mem_cons_self ..)
      split at hf
      case isFalse hcw =>
        obtain ⟨i1, i2⟩ := ih hf hr
        refine ⟨i1.cons ((h2 w).2 (hr.holds c hcm)) (fun hw => absurd (h1.symm.trans hw) hcw) (fun e' he' hw k hk hk' => ?_), fun e he => ?_⟩
        · have hw' : e'.wr = true := by
            rcases hw with hw | hw
            · exact absurd (h1.symm.trans hw) hcw
            · exact hw
          rcases i2 e' he' with ⟨c', hc', hcw', hf'⟩ | hno
          · refine hr.disj hcm hc' (fun e => ?_) (.inr (hcw'.symm.trans hw')) ((h3 k).1 hk) ((hf' k).1 hk')
            subst e
            exact hcw (hcw'.symm.trans hw')
          · exact hno k hk'
        · rcases List.mem_cons.1 he with rfl | he
          · exact .inl ⟨c, hcm, h1, h3⟩
          · exact i2 e he
      case isTrue hcw =>
      obtain ⟨i1, i2⟩ := ih hf hr'
      have hsep := hr1.sep
      unfold Apart at hsep
      rw [List.pairwise_cons] at hsep
      refine ⟨i1.cons ((h2 w).2 (hr1.holds c (List.mem_cons_self ..))) (fun hw k hk => hr1.own c (List.mem_cons_self ..) (by rw [← h1]; exact hw) k ((h3 k).1 hk)) (fun e' he' hw k hk hk' => ?_), fun e he => ?_⟩
      · rcases i2 e' he' with ⟨c', hc', hw', hf'⟩ | hno
        · exact hsep.1 c' hc' (by rw [← h1, ← hw']; exact hw) k ((h3 k).1 hk) ((hf' k).1 hk')
        · exact hno k hk'
      · rcases List.mem_cons.1 he with rfl | he
        · exact .inl ⟨c, hperm.symm.subset (List.mem_cons_self ..), h1, h3⟩
        · rcases i2 e he with ⟨c', hc', r⟩ | hno
          · exact .inl ⟨c', hperm.symm.subset (List.mem_cons_of_mem _ hc'), r⟩
          · exact .inr hno
    · simp only [Bool.and_eq_true] at hf
      obtain ⟨hn, hf⟩ := hf
      obtain ⟨n1, n2⟩ := nilRow_ok hl ha hn
      obtain ⟨i1, i2⟩ := ih hf hr
      refine ⟨i1.cons (n1 w) (fun _ k hk => absurd hk (n2 k)) (fun _ _ _ k hk _ => n2 k hk), fun e he => ?_⟩
      rcases List.mem_cons.1 he with rfl | he
      · exact .inr n2
      · exact i2 e he

theorem letAll_inv {ρ : List V} {a : Act} : ∀ (vs : List Nat) {cur : St}, Inv C cur ρ a w → Inv C { cur with hp := letAll cur.hp vs } ρ a w
  | [], _, h => h
  | v :: vs, cur, h => letAll_inv vs (cur := { cur with hp := letGo cur.hp v }) ⟨h.len, h.size, h.fr, h.bdf, letGo_bd h.bdh, h.defers, letGo_ok h.rel⟩
theorem giveUp_ok {ρ : List V} {head cur : St} {a : Act} (h : Inv C cur ρ a w) : Inv C (giveUp n0 xs head cur) ρ a w := letAll_inv _ h
theorem fits_ok {head cur : St} {a : Act} (hl : ρ.length = n0) (ha : Agree n0 ρ ρc) (hf : fits n0 xs head cur = true) (hi : Inv C cur ρc a w) : Inv C head (ρ ++ xs.map (X.ev ρc)) a w := by
  unfold fits at hf
  simp only [Bool.and_eq_true, beq_iff_eq] at hf
  obtain ⟨⟨⟨⟨⟨h1, h2⟩, h3⟩, h4⟩, h5⟩, h6⟩ := hf
  obtain ⟨f1, f2⟩ := fitFr_ok h3
  exact ⟨by simp [hl, h1], by rw [f1]; exact hi.size, fun j => fitSV_ok hl ha (f2 j) (hi.fr j), List.all_eq_true.1 h5, h6, hi.defers, (fitHp_ok hl ha h4 hi.rel).1⟩
end fit

/-- A loop's round lies ahead. -/
def LoopIn (P : Program) (c : Code) (Q : Exit → Act → World → Prop) (a : Act) (w : World) : Prop :=
  ∀ b k cs, ∃ e a' w', Q e a' w' ∧ Arrives P (lone (b.at a (.code c :: .inLoop c :: k)) cs w) b k cs e a' w'
theorem wp_loop_in {P : Program} {Q : Exit → Act → World → Prop} {a : Act} {w : World} {c : Code} (h : LoopIn P c Q a w) : (Code.loop c).wp P Q a w := by
  intro b k cs
  obtain ⟨e, a', w', hq, harr⟩ := h b k cs
  exact ⟨e, a', w', hq, .of_steps (.one step_loop) harr⟩
theorem loopIn_round {P : Program} {Q : Exit → Act → World → Prop} {a : Act} {w : World} {c : Code} (h : c.wp P (Exit.then (fun a' w' => LoopIn P c Q a' w') Q) a w) : LoopIn P c Q a w := by
  intro b k cs
  obtain ⟨e, a₁, w₁, hq, harr⟩ := h b (.inLoop c :: k) cs
  cases e with
  | normal =>
    obtain ⟨e₂, a₂, w₂, hq₂, harr₂⟩ := (show LoopIn P c Q a₁ w₁ from hq) b k cs
    exact ⟨e₂, a₂, w₂, hq₂, .of_steps (Steps.trans harr (.one step_inLoop)) harr₂⟩
  | exit id => exact ⟨_, a₁, w₁, hq, .pass (x := .inLoop c) rfl (fun _ _ => .inl (by simp)) harr⟩
  | goto l => exact ⟨_, a₁, w₁, hq, .pass (x := .inLoop c) rfl (fun _ _ => .inl (by simp)) harr⟩
  | ret => exact ⟨_, a₁, w₁, hq, .pass (x := .inLoop c) rfl (fun _ _ => .inl (by simp)) harr⟩
  | panic ch => exact ⟨_, a₁, w₁, hq, .pass (x := .inLoop c) rfl (fun _ _ => .inl (by simp)) harr⟩
  | outgrown => exact ⟨_, a₁, w₁, hq, .pass (x := .inLoop c) rfl (fun _ _ => .inl (by simp)) harr⟩
theorem loopIn_n {P : Program} {Q : Exit → Act → World → Prop} {a : Act} {w : World} {c : Code} (I : Nat → Act → World → Prop) (h₀ : ∃ n, I n a w)
    (round : ∀ n a w, I n a w → c.wp P (Exit.then (fun a' w' => ∃ m, m < n ∧ I m a' w') Q) a w) : LoopIn P c Q a w := by
  obtain ⟨n, hI⟩ := h₀
  induction n using Nat.strongRecOn generalizing a w with
  | _ n ih =>
    intro b k cs
    obtain ⟨e, a₁, w₁, hq, harr⟩ := round n a w hI b (.inLoop c :: k) cs
    cases e with
    | normal =>
      obtain ⟨m, hlt, hI₁⟩ := hq
      obtain ⟨e₂, a₂, w₂, hq₂, harr₂⟩ := ih m hlt hI₁ b k cs
      exact ⟨e₂, a₂, w₂, hq₂, .of_steps (Steps.trans harr (.one step_inLoop)) harr₂⟩
    | exit id => exact ⟨_, a₁, w₁, hq, .pass (x := .inLoop c) rfl (fun _ _ => .inl (by simp)) harr⟩
    | goto l => exact ⟨_, a₁, w₁, hq, .pass (x := .inLoop c) rfl (fun _ _ => .inl (by simp)) harr⟩
    | ret => exact ⟨_, a₁, w₁, hq, .pass (x := .inLoop c) rfl (fun _ _ => .inl (by simp)) harr⟩
    | panic ch => exact ⟨_, a₁, w₁, hq, .pass (x := .inLoop c) rfl (fun _ _ => .inl (by simp)) harr⟩
    | outgrown => exact ⟨_, a₁, w₁, hq, .pass (x := .inLoop c) rfl (fun _ _ => .inl (by simp)) harr⟩

theorem prefix_get {α : Type} {l l' : List α} (h : l <+: l') {d : Nat} {x : α} (hx : l[d]? = some x) : l'[d]? = some x := by
  obtain ⟨t, rfl⟩ := h
  rw [List.getElem?_append_left (List.getElem?_eq_some_iff.1 hx).1]
  exact hx

theorem joinW_ok {inl : InlF} {c : Code} {f : St → (EX → St → Tree) → Tree}
    (hf : ∀ {st : St} {k : EX → St → Tree} {Q : Exit → Act → World → Prop} {ρ : List V} {L : List LC} {a : Act} {w : World},
      (∀ e st' ρ' L' a' w', L <+: L' → st'.d = L'.length → ρ <+: ρ' → (k e st').goal C ρ' L' → Inv C st' ρ' a' w' → Q e.to a' w') →
      st.d = L.length → (f st k).goal C ρ L → Inv C st ρ a w → c.wp C.P Q a w) {st : St} {k : EX → St → Tree} {Q : Exit → Act → World → Prop} {ρ : List V} {L : List LC} {a : Act} {w : World}
    (hk : ∀ e st' ρ' L' a' w', L <+: L' → st'.d = L'.length → ρ <+: ρ' → (k e st').goal C ρ' L' → Inv C st' ρ' a' w' → Q e.to a' w')
    (hd : st.d = L.length) (hg : (joinW E inl c st k f).goal C ρ L) (hi : Inv C st ρ a w) : c.wp C.P Q a w := by
  unfold joinW at hg
  split at hg
  · split at hg
    · exact hg.elim
    rename_i hj _ jd hhj
    simp only [Tree.goal] at hg
    obtain ⟨I, h1, h2⟩ := hg
    refine hf (st := { st with d := st.d + 1 }) (fun e st' ρ' L' a' w' hL hd' hp hg' hi' => ?_) (by simp [hd]) h1 ⟨hi.len, hi.size, hi.fr, hi.bdf, hi.bdh, hi.defers, hi.rel⟩
    have hL0 : L <+: L' := (List.prefix_append L _).trans hL
    cases e with
    | normal =>
      simp only [] at hg'
      split at hg'
      · rename_i hfb
        have hget : L'[st.d]? = some ⟨I, fun _ => 0, []⟩ := by
          refine prefix_get hL ?_
          rw [hd]; simp
        simp only [Tree.goal, hget] at hg'
        obtain ⟨t, rfl⟩ := hp
        have hv := fits_ok hi.len (by rw [← hi.len]; exact Agree.app ρ t) hfb (giveUp_ok hi')
        have hlen : (backVals st.n jd st').length = jd.n - st.n := by simp [backVals]
        refine hk .normal { jd with d := st.d } _ L _ _ List.prefix_rfl hd (List.prefix_append ρ _) (h2 _ (by rw [List.length_map, hlen]) hg') ?_
        exact ⟨hv.len, hv.size, hv.fr, hv.bdf, hv.bdh, hv.defers, hv.rel⟩
      · exact hg'.elim
    | exit id => exact hk (.exit id) _ _ _ _ _ hL0 hd' hp hg' hi'
    | ret => exact hk .ret _ _ _ _ _ hL0 hd' hp hg' hi'
  · exact hf hk hd hg hi
theorem ex_ok (hE : EnvOK C.P E) {inl : InlF} (hI : InlOK C inl) : ∀ (c : Code) {st : St} {k : EX → St → Tree} {Q : Exit → Act → World → Prop} {ρ : List V} {L : List LC} {a : Act} {w : World},
    (∀ e st' ρ' L' a' w', L <+: L' → st'.d = L'.length → ρ <+: ρ' → (k e st').goal C ρ' L' → Inv C st' ρ' a' w' → Q e.to a' w') →
    st.d = L.length → (ex E inl c st k).goal C ρ L → Inv C st ρ a w → c.wp C.P Q a w := by
  intro c
  induction c with
  | skip => intro st k Q ρ L a w hk hd hg hi; exact wp_skip (hk .normal _ _ _ _ _ List.prefix_rfl hd List.prefix_rfl hg hi)
  | exit id => intro st k Q ρ L a w hk hd hg hi; exact wp_exit (hk (.exit id) _ _ _ _ _ List.prefix_rfl hd List.prefix_rfl hg hi)
  | ret => intro st k Q ρ L a w hk hd hg hi; exact wp_ret (hk .ret _ _ _ _ _ List.prefix_rfl hd List.prefix_rfl hg hi)
  | region id ops draw =>
    intro st k Q ρ L a w hk hd hg hi
    cases draw with
    | true =>
      refine joinW_ok (c := .region id ops true) (fun {st k Q ρ L a w} hk hd hg hi => ?_) hk hd (by simpa only [ex] using hg) hi
      exact exRegion_ok hE hI hi hd (fun st' ρ' L' a' w' hL hd' hp hg' hi' => hk .normal _ _ _ _ _ hL hd' hp hg' hi') hg
    | false =>
      have := exOps_ok (Q := Q) hE hI ops.toList hi hd (fun st' ρ' L' a' w' hL hd' hp hg' hi' => hk .normal _ _ _ _ _ hL hd' hp hg' hi') hg
      exact wp_region_list (by simpa using this)
  | seq x y ihx ihy =>
    intro st k Q ρ L a w hk hd hg hi
    simp only [ex] at hg
    refine wp_seq (ihx (fun e st' ρ' L' a' w' hL hd' hp hg' hi' => ?_) hd hg hi)
    cases e with
    | normal => exact ihy (fun e st'' ρ'' L'' a'' w'' hL' hd'' hp' => hk e _ _ _ _ _ (hL.trans hL') hd'' (hp.trans hp')) hd' hg' hi'
    | exit id => exact hk (.exit id) _ _ _ _ _ hL hd' hp hg' hi'
    | ret => exact hk .ret _ _ _ _ _ hL hd' hp hg' hi'
  | cond c x y ihx ihy =>
    intro st k Q ρ L a w hk hd hg hi
    refine joinW_ok (c := .cond c x y) (fun {st k Q ρ L a w} hk hd hg hi => ?_) hk hd (by simpa only [ex] using hg) hi
    split at hg
    · rename_i hc
      exact wp_cond_true (hi.rd_ok rfl hc) (ihx hk hd hg hi)
    · rename_i hc
      exact wp_cond_false (hi.rd_ok rfl hc) (ihy hk hd hg hi)
    · rename_i b _ _ hc
      obtain ⟨h1, h2⟩ := hg
      refine wp_cond_split (hi.rd_ok rfl hc) (fun ht => ihx hk hd (h1 ((X.P_iff _ _).2 ht)) hi) (fun hf => ihy hk hd (h2 (fun hp => ?_)) hi)
      rw [(X.P_iff _ _).1 hp] at hf; cases hf
    · exact hg.elim
  | block id c ih =>
    intro st k Q ρ L a w hk hd hg hi
    refine joinW_ok (c := .block id c) (fun {st k Q ρ L a w} hk hd hg hi => ?_) hk hd (by simpa only [ex] using hg) hi
    refine wp_block (ih (fun e st' ρ' L' a' w' hL hd' hp hg' hi' => ?_) hd hg hi)
    cases e with
    | normal => exact hk .normal _ _ _ _ _ hL hd' hp hg' hi'
    | ret => exact hk .ret _ _ _ _ _ hL hd' hp hg' hi'
    | exit i =>
      simp only [EX.to, Exit.inBlock]
      simp only [] at hg'
      by_cases hid : i = id
      · rw [if_pos hid] at hg' ⊢
        exact hk .normal _ _ _ _ _ hL hd' hp hg' hi'
      · rw [if_neg hid] at hg' ⊢
        exact hk (.exit i) _ _ _ _ _ hL hd' hp hg' hi'
  | loop c ih =>
    intro st k Q ρ L a w hk hd hg hi
    have walk : ∀ {st : St} {ρ : List V} {L : List LC} {a : Act} {w : World}, (∀ e st' ρ' L' a' w', L <+: L' → st'.d = L'.length → ρ <+: ρ' → (k e st').goal C ρ' L' → Inv C st' ρ' a' w' → Q e.to a' w') → st.d = L.length →
        Tree.goal C (let hd := headOf E.T c st
          if fits st.n hd.2 hd.1 st = true then
            .loop hd.2 (ex E inl c { hd.1 with d := st.d + 1 } fun e cur => match e with
              | .normal => if fits st.n (backVals st.n hd.1 cur) hd.1 (giveUp st.n (backVals st.n hd.1 cur) hd.1 cur) = true then .back st.d (backVals st.n hd.1 cur) else .stuck "a loops back"
              | e => k e cur)
          else .stuck "a loops head") ρ L → Inv C st ρ a w → LoopIn C.P c Q a w := by
      intro st ρ L a w hk hd hg hi
      simp only [] at hg
      split at hg
      · rename_i hfit
        simp only [Tree.goal] at hg
        obtain ⟨I, μ, hI0, hround⟩ := hg
        have hag0 : Agree st.n ρ ρ := fun _ _ => rfl
        refine loopIn_n (fun n a' w' => ∃ vs, vs.length = (headOf E.T c st).2.length ∧ I vs ∧ μ vs = n ∧ Inv C { (headOf E.T c st).1 with d := st.d + 1 } (ρ ++ vs) a' w') ⟨_, _, by simp, hI0, rfl, ?_⟩ ?_
        · have := fits_ok hi.len hag0 hfit hi
          exact ⟨this.len, this.size, this.fr, this.bdf, this.bdh, this.defers, this.rel⟩
        · rintro n a' w' ⟨vs, hvl, hI, rfl, hi'⟩
          refine ih (fun e st' ρ' L' a'' w'' hL hd' hp hg' hi'' => ?_) (by simp [hd]) (hround vs hvl hI) hi'
          have hL0 : L <+: L' := (List.prefix_append L _).trans hL
          have hp0 : ρ <+: ρ' := (List.prefix_append ρ _).trans hp
          cases e with
          | normal =>
            simp only [] at hg'
            split at hg'
            · rename_i hfb
              have hget : L'[st.d]? = some ⟨I, μ, vs⟩ := by
                refine prefix_get hL ?_
                rw [hd]; simp
              simp only [Tree.goal, hget] at hg'
              obtain ⟨g1, g2⟩ := hg'
              refine ⟨_, g2, _, ?_, g1, rfl, ?_⟩
              · unfold fits at hfit hfb
                simp only [Bool.and_eq_true, beq_iff_eq] at hfit hfb
                simp; omega
              · obtain ⟨t, rfl⟩ := hp0
                have := fits_ok hi.len (by rw [← hi.len]; exact Agree.app ρ t) hfb (giveUp_ok hi'')
                exact ⟨this.len, this.size, this.fr, this.bdf, this.bdh, this.defers, this.rel⟩
            · exact hg'.elim
          | exit id => exact hk (.exit id) _ _ _ _ _ hL0 hd' hp0 hg' hi''
          | ret => exact hk .ret _ _ _ _ _ hL0 hd' hp0 hg' hi''
      · exact hg.elim
    simp only [ex] at hg
    split at hg
    · refine wp_loop_in (loopIn_round (ih (fun e st' ρ' L' a' w' hL hd' hp hg' hi' => ?_) hd hg hi))
      have hk' : ∀ e st'' ρ'' L'' a'' w'', L' <+: L'' → st''.d = L''.length → ρ' <+: ρ'' → (k e st'').goal C ρ'' L'' → Inv C st'' ρ'' a'' w'' → Q e.to a'' w'' :=
        fun e st'' ρ'' L'' a'' w'' hL' hd'' hp' => hk e _ _ _ _ _ (hL.trans hL') hd'' (hp.trans hp')
      cases e with
      | normal => exact walk (st := dropPtrs c st st') hk' hd' hg' (dropPtrs_ok hi')
      | exit id => exact hk (.exit id) _ _ _ _ _ hL hd' hp hg' hi'
      | ret => exact hk .ret _ _ _ _ _ hL hd' hp hg' hi'
    · exact wp_loop_in (walk hk hd hg hi)
  | rangeFunc f params assign body => intro st k Q ρ L a w hk hd hg hi; exact hg.elim
  | scope c => intro st k Q ρ L a w hk hd hg hi; exact hg.elim
  | label l => intro st k Q ρ L a w hk hd hg hi; exact hg.elim
  | goto l => intro st k Q ρ L a w hk hd hg hi; exact hg.elim
  | refuse s => intro st k Q ρ L a w hk hd hg hi; exact hg.elim

/-- The results, as the executor reads them. -/
def retOne (E : Env) (st : St) : ResultVar → Option CV
  | .tmp t => match st.slot t with | .cv c => some c | _ => none
  | .cell a t => match st.slot a with
    | .cv (false, [.ptr v off]) => match loadAt E.T st.hp t (.ptr v off) with | some ([], c) => some c | _ => none
    | _ => none
def retAll (E : Env) (st : St) : List ResultVar → Option (List CV)
  | [] => some []
  | r :: rs => do let c ← retOne E st r; let cs ← retAll E st rs; some (c :: cs)
def retTree (E : Env) (rs : List ResultVar) (keep : Bool) (st : St) : Tree :=
  match retAll E st rs with
  | some [c] => .ret (.cv c) (forMem (keep || SV.mem (.cv c)) st.hp)
  | some cs => .ret (.tup cs) (forMem (keep || SV.mem (.tup cs)) st.hp)
  | none => .stuck "results"
/-- The walk into a function that is called, so many calls deep. -/
def inlN (E : Env) : Nat → InlF
  | 0 => fun _ _ _ _ => none
  | m + 1 => fun f args st k => match E.inl.find? fun p => p.1 == f with
    | none => none
    | some (_, fn) => match fn.body with
      | none => none
      | some c => if (E.fs.contains f && args.all (fun s => s.bd st.n && s.isVal)) = true then
          some (ex E (inlN E m) c { n := st.n, d := st.d, fr := args ++ List.replicate (fn.ntmps - args.length) .dead, hp := st.hp } fun e st' => match e with
            | .exit _ => .stuck "an exit of no block"
            | _ => match retAll E st' fn.results.toList with
              | some [c] => k (.cv c) st'
              | some cs => k (.tup cs) st'
              | none => .stuck "results")
        else none
/-- The tree of a function's body. -/
def fnTree (E : Env) (ntmps : Nat) (rs : List ResultVar) (c : Code) (n : Nat) (args : List SV) (hp : List Ent) : Tree :=
  ex E (inlN E 8) c { n := n, d := 0, fr := args ++ List.replicate (ntmps - args.length) .dead, hp := hp } fun e st => match e with
    | .exit _ => .stuck "an exit of no block"
    | _ => retTree E rs (hp.any Ent.wr) st

theorem retOne_ok (hE : EnvOK C.P E) {st : St} {ρ : List V} {a : Act} {w : World} (hi : Inv C st ρ a w) {r : ResultVar} {c : CV} (h : retOne E st r = some c)
    (G : ResultVar → Sem Value) (h1 : ∀ t, G (.tmp t) = pure (a.tmps.getD t undef)) (h2 : ∀ x t, G (.cell x t) = (do loadVar t (← asAddr (a.tmps.getD x undef)))) : (G r).run C.P w = .ok (CV.ev ρ c) w := by
  cases r with
  | tmp t =>
    simp only [retOne] at h
    have hrel := hi.fr t
    split at h
    · rename_i c' hs
      simp at h; subst h
      rw [hs] at hrel
      have hrel : a.tmps.getD t undef = CV.ev ρ c' := hrel
      rw [h1, hrel, Sem.run_pure]
    · cases h
  | cell x t =>
    simp only [retOne] at h
    have hrel := hi.fr x
    split at h
    · rename_i v off hs
      rw [hs] at hrel
      have hrel : a.tmps.getD x undef = .pointer (some ⟨(ρ.getD v (.i 0)).toN, off, none⟩) := hrel
      split at h
      · rename_i c' hl
        simp at h; subst h
        have := loadAt_ok hE.tab hi.rel.holds hl (fun _ h => by simp at h)
        simp only [Instr.loadAt, Instr.sureAddr, Sc.ev, Sem.run_bind, Sem.run_pure, Result.andThen_ok] at this
        rw [h2, hrel]
        simp only [asAddr, Sem.run_bind, Sem.run_pure, Result.andThen_ok]
        exact this
      · cases h
    · cases h
theorem retAll_get {st : St} : ∀ {rs : List ResultVar} {cs : List CV}, retAll E st rs = some cs → cs.length = rs.length ∧ ∀ (n : Nat) r c, rs[n]? = some r → cs[n]? = some c → retOne E st r = some c := by
  intro rs
  induction rs with
  | nil => intro cs h; simp [retAll] at h; subst h; simp
  | cons r rs ih =>
    intro cs h
    simp only [retAll, Option.bind_eq_bind, Option.bind_eq_some_iff, Option.some.injEq] at h
    obtain ⟨c, hc, cs', hcs, rfl⟩ := h
    obtain ⟨i1, i2⟩ := ih hcs
    refine ⟨by simp [i1], fun n x y hx hy => ?_⟩
    cases n
    · simp at hx hy; subst hx hy; exact hc
    · exact i2 _ x y (by simpa using hx) (by simpa using hy)
theorem results_ok (hE : EnvOK C.P E) {st : St} {ρ : List V} {a : Act} {w : World} (hi : Inv C st ρ a w) {fn : Func} {cs : List CV} (h : retAll E st fn.results.toList = some cs) :
    (results fn a.tmps).run C.P w = .ok (match cs with | [c] => CV.ev ρ c | cs => .tuple (cs.map (CV.ev ρ)).toArray) w := by
  obtain ⟨r1, r2⟩ := retAll_get h
  have key : ∀ G : ResultVar → Sem Value, (∀ t, G (.tmp t) = pure (a.tmps.getD t undef)) → (∀ x t, G (.cell x t) = (do loadVar t (← asAddr (a.tmps.getD x undef)))) →
      (fn.results.mapM G).run C.P w = .ok (cs.map (CV.ev ρ)).toArray w := by
    intro G h1 h2
    have e := run_mapM (P := C.P) G w fn.results.toList (cs.map (CV.ev ρ)) (by simpa using r1) (fun n x y hx hy => by
      simp only [List.getElem?_map, Option.map_eq_some_iff] at hy
      obtain ⟨c, hc, rfl⟩ := hy
      exact retOne_ok hE hi (r2 n x c hx hc) G h1 h2)
    obtain ⟨l, hl⟩ : ∃ l, fn.results = ⟨l⟩ := ⟨fn.results.toList, rfl⟩
    rw [hl] at e ⊢
    rw [List.mapM_toArray]
    simp [go_sem, e]
  unfold results
  rw [Sem.run_bind, key _ (fun _ => rfl) (fun _ _ => rfl)]
  simp only [Result.andThen_ok, Sem.run_pure]
  match cs with
  | [] => rfl
  | [c] => rfl
  | _ :: _ :: _ => simp

theorem Inv.begin {fn : Func} {args : List SV} {ρ : List V} {hp : List Ent} {w : World} {n d : Nat} (hn : ρ.length = n) (hrel : Rel C.B ρ hp w) (hbh : hp.all (Ent.bd n) = true) (hba : args.all (fun s => s.bd n && s.isVal) = true) {a : Act}
    (ht : a.tmps = (args.map (SV.ev ρ)).toArray ++ Array.replicate (fn.ntmps - (args.map (SV.ev ρ)).toArray.size) undef) (hd : a.defers = []) :
    Inv C { n := n, d := d, fr := args ++ List.replicate (fn.ntmps - args.length) .dead, hp := hp } ρ a w := by
  have hba := List.all_eq_true.1 hba
  refine ⟨hn, ?_, fun j => ?_, fun s hs => ?_, hbh, hd, hrel⟩
  · rw [ht]; simp
  · rw [ht]
    simp only [St.slot, List.getD_eq_getElem?_getD, Array.getD_eq_getD_getElem?]
    by_cases hj : j < args.length
    · rw [List.getElem?_append_left hj, Array.getElem?_append_left (by simpa using hj)]
      simp only [List.getElem?_toArray, List.getElem?_map, List.getElem?_eq_getElem hj, Option.map_some, Option.getD_some]
      have := hba _ (List.getElem_mem hj)
      simp only [Bool.and_eq_true] at this
      exact SV.rel_of_ev rfl this.2
    · rw [List.getElem?_append_right (by omega)]
      cases hr : (List.replicate (fn.ntmps - args.length) SV.dead)[j - args.length]? with
      | none => trivial
      | some s =>
        have := List.mem_of_getElem? hr
        simp at this
        rw [this.2]; trivial
  · rcases List.mem_append.1 hs with hs | hs
    · have := hba s hs
      simp only [Bool.and_eq_true] at this
      exact this.1
    · simp at hs
      rw [hs.2]; rfl

theorem inlN_ok (hE : EnvOK C.P E) : ∀ m, InlOK C (inlN E m) := by
  intro m
  induction m with
  | zero => intro f args st k t ρ a w L Q h; cases h
  | succ m ih =>
    intro f args st k t ρ a w L Q h hi hd hk hg
    simp only [inlN] at h
    split at h
    · cases h
    · rename_i q fn hfind
      have hfn := hE.inl _ (List.mem_of_find?_eq_some hfind)
      have hqf := List.find?_some hfind
      simp only [beq_iff_eq] at hqf
      subst hqf
      split at h
      · cases h
      · rename_i c hb
        simp only [Option.ite_none_right_eq_some, Option.some.injEq, Bool.and_eq_true] at h
        obtain ⟨⟨hfs, hba⟩, rfl⟩ := h
        refine ⟨hE.fs _ (by simpa using hfs), calls_of_wp hfn hb ?_⟩
        refine ex_ok (L := L) (inl := inlN E m) hE ih c ?_ (by exact hd) hg (Inv.begin (fn := fn) hi.len hi.rel hi.bdh hba rfl rfl)
        intro e st' ρ' L' a' w' hL hd' hp hg hi'
        have key : (match retAll E st' fn.results.toList with
              | some [c] => k (.cv c) st'
              | some cs => k (.tup cs) st'
              | none => .stuck "results" : Tree).goal C ρ' L' → a'.defers = [] ∧ ∃ v, (results fn a'.tmps).run C.P w' = .ok v w' ∧ Q (.returned v) w' := by
          intro hg
          refine ⟨hi'.defers, ?_⟩
          split at hg
          · rename_i c hr
            exact ⟨_, results_ok hE hi' hr, hk _ _ _ _ _ _ hL hd' hp hg hi' rfl⟩
          · rename_i cs hne hr
            refine ⟨_, results_ok hE hi' hr, ?_⟩
            have := hk _ _ _ _ _ _ hL hd' hp hg hi' rfl
            match cs, hne, this with
            | [], _, this => exact this
            | [c], hne, _ => exact (hne c rfl).elim
            | _ :: _ :: _, _, this => exact this
          · exact hg.elim
        cases e with
        | normal => exact key hg
        | ret => exact key hg
        | exit id => exact hg.elim

/-- A CALL DOES WHAT ITS TREE SAYS. -/
theorem run_fn (hE : EnvOK C.P E) {f : FuncId} {fn : Func} {c : Code} {args : List SV} {ρ : List V} {hp : List Ent} {w : World} (hf : C.P.funcs[f]? = some fn) (hb : fn.body = some c)
    (hrel : Rel C.B ρ hp w) (hbh : hp.all (Ent.bd ρ.length) = true) (hba : args.all (fun s => s.bd ρ.length && s.isVal) = true)
    (h : (fnTree E fn.ntmps fn.results.toList c ρ.length args hp).goal C ρ []) : Calls C.P f (args.map (SV.ev ρ)).toArray w C.R := by
  refine calls_of_wp hf hb ?_
  refine ex_ok (L := []) (inl := inlN E 8) hE (inlN_ok hE 8) c ?_ rfl h (Inv.begin (fn := fn) rfl hrel hbh hba rfl rfl)
  intro e st' ρ' L' a' w' _ _ _ hg hi
  have key : (retTree E fn.results.toList (hp.any Ent.wr) st').goal C ρ' L' → a'.defers = [] ∧ ∃ v, (results fn a'.tmps).run C.P w' = .ok v w' ∧ C.R (.returned v) w' := by
    intro hg
    refine ⟨hi.defers, ?_⟩
    unfold retTree at hg
    split at hg
    · rename_i c hr
      exact ⟨_, results_ok hE hi hr, hg w' (hi.rel.forMem _)⟩
    · rename_i cs hne hr
      refine ⟨_, results_ok hE hi hr, ?_⟩
      have := hg w' (hi.rel.forMem _)
      match cs, hne, this with
      | [], _, this => exact this
      | [c], hne, _ => exact (hne c rfl).elim
      | _ :: _ :: _, _, this => exact this
    · exact hg.elim
  cases e with
  | normal => exact key hg
  | ret => exact key hg
  | exit id => exact hg.elim

end Go.Sx
