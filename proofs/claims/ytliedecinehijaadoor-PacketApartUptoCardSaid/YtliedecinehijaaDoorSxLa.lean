/-
  A small verified symbolic executor (part La: one operation, and lists of them). By an AI agent.
-/
import Derived.Test.YtliedecinehijaaDoorSxKs
set_option linter.unusedSimpArgs false
set_option linter.unusedVariables false
namespace Go.Sx
open Go
variable {C : Cx} {E : Env}

/-- The walk into a function that is called is sound. -/
def InlOK (C : Cx) (inl : InlF) : Prop := ∀ {f : Nat} {args : List SV} {st : St} {k : SV → St → Tree} {t : Tree} {ρ : List V} {a : Act} {w : World} {L : List LC} {Q : Ending → World → Prop},
  inl f args st k = some t → Inv C st ρ a w → st.d = L.length →
  (∀ r st' ρ' L' a' w', L <+: L' → st'.d = L'.length → ρ <+: ρ' → (k r st').goal C ρ' L' → Inv C st' ρ' a' w' → r.isVal = true → Q (.returned (r.ev ρ')) w') →
  t.goal C ρ L → callOK C.P f = true ∧ Calls C.P f (args.map (SV.ev ρ)).toArray w Q

theorem SV.rel_val {ρ : List V} {s : SV} (h : s.isVal = true) : s.rel ρ (s.ev ρ) := by
  cases s <;> simp [SV.isVal] at h <;> rfl

theorem exOp0_ok (hE : EnvOK C.P E) {inl : InlF} (hI : InlOK C inl) {st : St} {ρ : List V} {a : Act} {w : World} {L : List LC} {ops : List Oper} {o : Oper} {k : St → Tree} {K : Act → World → Prop} {Q : Exit → Act → World → Prop}
    (hi : Inv C st ρ a w) (hdL : st.d = L.length) (hk : ∀ st' ρ' L' a' w', L <+: L' → st'.d = L'.length → ρ <+: ρ' → (k st').goal C ρ' L' → Inv C st' ρ' a' w' → K a' w') (hg : (exOp0 E inl ops o st k).goal C ρ L) :
    if Region.wanted o (yielded ops.toArray a.tmps) = true then o.wp C.P a w K Q else K (a.put o.dst undef) w := by
  have hput : ∀ (st : St) (s : SV), (st.put o.dst s).d = st.d := by intro st s; cases ho' : o.dst <;> rfl
  have hk1 : ∀ st' ρ' a' w', st'.d = st.d → ρ <+: ρ' → (k st').goal C ρ' L → Inv C st' ρ' a' w' → K a' w' := fun st' ρ' a' w' hd => hk st' ρ' L a' w' List.prefix_rfl (hd.trans hdL)
  unfold exOp0 at hg
  split at hg
  · exact hg.elim
  · rename_i G hgd
    rw [guard_ok hi hgd]
    have hGb := guard_bd hi hgd
    split at hg
    · rename_i hGf
      subst hGf
      simp only [X.ev, V.toB_b, Bool.false_eq_true, if_false]
      exact hk1 _ _ _ _ (by exact hput _ _) List.prefix_rfl hg (hi.put _ rfl)
    · split at hg
      · rename_i t hrow
        split at hrow
        · rename_i hGt
          subst hGt
          simp only [X.ev, V.toB_b, if_true]
          split at hrow
          · rename_i h2; simp only [Option.some.injEq] at hrow; subst hrow; exact rowOp2_ok hE hi hk1 h2 hg
          · exact rowOp_ok hE hi hk1 hrow hg
        · cases hrow
      split at hg
      · rename_i ns c hv
        obtain ⟨hn, hg⟩ := needsT_ok hg
        by_cases hG : (G.ev ρ).toB = true
        · rw [if_pos hG]
          unfold Oper.wp
          rw [valOp_ok hE hi hG hv (hn hG)]
          simp only [Oper.upon]
          refine hk1 _ _ _ _ (by exact hput _ _) List.prefix_rfl hg (hi.put _ ?_)
          split
          · rfl
          · exact ⟨fun _ => rfl, (fun h => by rw [hG] at h; cases h)⟩
        · rw [if_neg hG]
          have hG' : (G.ev ρ).toB = false := by simpa using hG
          refine hk1 _ _ _ _ (by exact hput _ _) List.prefix_rfl hg (hi.put _ ?_)
          split
          · rename_i h; subst h; simp [X.ev] at hG
          · exact ⟨(fun h => by rw [hG'] at h; cases h), fun _ => rfl⟩
      · split at hg
        · rename_i c hop
          split at hg
          · rename_i f args hc
            split at hg
            · rename_i t hin
              split at hin
              · rename_i hGt
                subst hGt
                simp only [X.ev, V.toB_b, if_true]
                obtain ⟨hf, hcalls⟩ := hI (Q := fun e w' => ∃ v, e = .returned v ∧ K (a.put o.dst v) w') hin hi hdL (fun r st' ρ' L' a' w' hL hd' hp hg' hi' hv => ⟨_, rfl, hk (St.put { st with n := st'.n, d := st'.d, hp := st'.hp } o.dst r) ρ' L' _ w' hL ((hput _ _).trans hd') hp hg' ((hi.back hi' hp).put _ (SV.rel_val hv))⟩) hg
                unfold Oper.wp
                rw [callOf_ok hi rfl hop hc hf]
                simp only [Oper.upon]
                refine hcalls.mono ?_
                rintro e w1 ⟨v, rfl, hK⟩
                exact hK
              · cases hin
            · exact exCall_ok hE hi hGb hop hc hk1 hg
          · exact hg.elim
        · split at hg
          · rename_i h; subst h
            simp only [X.ev, V.toB_b, if_true]
            exact effOp_ok hE hi hk1 hg
          · exact hg.elim

theorem exOp1_ok (hE : EnvOK C.P E) {inl : InlF} (hI : InlOK C inl) {st : St} {ρ : List V} {a : Act} {w : World} {L : List LC} {ops : List Oper} {o : Oper} {k : St → Tree} {K : Act → World → Prop} {Q : Exit → Act → World → Prop}
    (hi : Inv C st ρ a w) (hdL : st.d = L.length) (hk : ∀ st' ρ' L' a' w', L <+: L' → st'.d = L'.length → ρ <+: ρ' → (k st').goal C ρ' L' → Inv C st' ρ' a' w' → K a' w') (hg : (exOp1 E inl ops o st k).goal C ρ L) :
    if Region.wanted o (yielded ops.toArray a.tmps) = true then o.wp C.P a w K Q else K (a.put o.dst undef) w := by
  unfold exOp1 at hg
  split at hg
  · rename_i x hx
    obtain ⟨h1, h2⟩ := hg
    cases hb : (x.ev ρ).toB with
    | true => exact exOp0_ok hE hI (hi.asm hb) ((St.asm_d _ _ _).trans hdL) hk (h1 ((X.P_iff ρ x).2 hb))
    | false => exact exOp0_ok hE hI (hi.asm hb) ((St.asm_d _ _ _).trans hdL) hk (h2 (fun hp => by rw [(X.P_iff ρ x).1 hp] at hb; cases hb))
  · exact exOp0_ok hE hI hi hdL hk hg
theorem exOpA_ok (hE : EnvOK C.P E) {inl : InlF} (hI : InlOK C inl) {st : St} {ρ : List V} {a : Act} {w : World} {L : List LC} {ops : List Oper} {o : Oper} {k : St → Tree} {K : Act → World → Prop} {Q : Exit → Act → World → Prop}
    (hi : Inv C st ρ a w) (hdL : st.d = L.length) (hk : ∀ st' ρ' L' a' w', L <+: L' → st'.d = L'.length → ρ <+: ρ' → (k st').goal C ρ' L' → Inv C st' ρ' a' w' → K a' w') (hg : (exOpA E inl ops o st k).goal C ρ L) :
    if Region.wanted o (yielded ops.toArray a.tmps) = true then o.wp C.P a w K Q else K (a.put o.dst undef) w := by
  unfold exOpA at hg
  split at hg
  · rename_i x hx
    obtain ⟨h1, h2⟩ := hg
    cases hb : (x.ev ρ).toB with
    | true => exact exOp1_ok hE hI (hi.asm hb) ((St.asm_d _ _ _).trans hdL) hk (h1 ((X.P_iff ρ x).2 hb))
    | false => exact exOp1_ok hE hI (hi.asm hb) ((St.asm_d _ _ _).trans hdL) hk (h2 (fun hp => by rw [(X.P_iff ρ x).1 hp] at hb; cases hb))
  · exact exOp0_ok hE hI hi hdL hk hg

theorem exOp_ok (hE : EnvOK C.P E) {inl : InlF} (hI : InlOK C inl) {st : St} {ρ : List V} {a : Act} {w : World} {L : List LC} {ops : List Oper} {o : Oper} {k : St → Tree} {K : Act → World → Prop} {Q : Exit → Act → World → Prop}
    (hi : Inv C st ρ a w) (hdL : st.d = L.length) (hk : ∀ st' ρ' L' a' w', L <+: L' → st'.d = L'.length → ρ <+: ρ' → (k st').goal C ρ' L' → Inv C st' ρ' a' w' → K a' w') (hg : (exOp E inl ops o st k).goal C ρ L) :
    if Region.wanted o (yielded ops.toArray a.tmps) = true then o.wp C.P a w K Q else K (a.put o.dst undef) w := by
  unfold exOp at hg
  split at hg
  · rename_i t e ks hn
    have hn' : ∃ ei, st.slot t = .cv (false, [.nils]) ∧ E.T.get e = some ei ∧ ks = ei.ks := by
      unfold nilArg at hn
      split at hn
      · split at hn
        · split at hn
          · rename_i h1 h2
            simp only [Option.map_eq_some_iff, Prod.mk.injEq] at hn
            obtain ⟨ei, h3, rfl, rfl, rfl⟩ := hn
            exact ⟨ei, h1, h3, rfl⟩
          · cases hn
        · cases hn
      · cases hn
    obtain ⟨ei, hs, hei, rfl⟩ := hn'
    have hi2 := hi.bindEnt hi.rel hi.bdh (.v (.slice none 0 0)) (.row st.n e ei.ks .nilR) (by simp [Ent.bd, X.bd])
      (by simp only [Ent.holds, getD_last hi.len, V.toV_v, X.ev, V.toR_r]; exact ⟨by simp, World.ownsRow_nil _ _ _ _⟩)
      (fun _ k hk => by simp only [Ent.fp, getD_last hi.len, V.toV_v, blockOf, Value.ownBlock] at hk; cases hk)
      (fun _ _ _ k hk _ => by simp only [Ent.fp, getD_last hi.len, V.toV_v, blockOf, Value.ownBlock] at hk; cases hk)
    have hv : a.tmps.getD t undef = .slice none 0 0 := by
      have := hi.fr t
      rw [hs] at this
      exact this
    have hi3 := hi2.over t (s := valAt st.n) (by rw [hv]; exact valAt_rel hi.len rfl)
    exact exOpA_ok hE hI hi3 (by exact hdL) (fun st' ρ' L' a' w' hL hd hp => hk st' ρ' L' a' w' hL hd ((List.prefix_append ρ _).trans hp)) hg
  · exact exOpA_ok hE hI hi hdL hk hg

theorem exOps_ok (hE : EnvOK C.P E) {inl : InlF} (hI : InlOK C inl) {ops : List Oper} {Q : Exit → Act → World → Prop} : ∀ (rest : List Oper) {st : St} {ρ : List V} {L : List LC} {a : Act} {w : World} {k : St → Tree},
    Inv C st ρ a w → st.d = L.length → (∀ st' ρ' L' a' w', L <+: L' → st'.d = L'.length → ρ <+: ρ' → (k st').goal C ρ' L' → Inv C st' ρ' a' w' → Q .normal a' w') → (exOps E inl ops rest st k).goal C ρ L → wpList C.P ops.toArray Q rest a w := by
  intro rest
  induction rest with
  | nil => intro st ρ L a w k hi hdL hk hg; exact hk _ _ _ _ _ List.prefix_rfl hdL List.prefix_rfl hg hi
  | cons o rest ih =>
    intro st ρ L a w k hi hdL hk hg
    refine wpList_step fun K hK => ?_
    exact exOp_ok hE hI hi hdL (fun st' ρ' L' a' w' hL hd hp hg' hi' => hK _ _ (ih hi' hd (fun st'' ρ'' L'' a'' w'' hL' hd' hp' => hk _ _ _ _ _ (hL.trans hL') hd' (hp.trans hp')) hg')) hg

end Go.Sx
