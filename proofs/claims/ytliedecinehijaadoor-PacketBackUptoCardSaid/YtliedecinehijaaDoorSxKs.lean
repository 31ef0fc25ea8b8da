/-
  A small verified symbolic executor (part Ks: slices that the call owns are cut short, and cleared). By an AI agent.
-/
import Derived.Test.YtliedecinehijaaDoorSxKr
set_option linter.unusedSimpArgs false
set_option linter.unusedVariables false
namespace Go.Sx
open Go
section
variable {C : Cx} {E : Env} {st : St} {ρ : List V} {L : List LC} {a : Act} {w : World}

theorem run_sliceLo {P : Program} {t e k len cap n : Nat} {inf : TypeInfo} {va : Option Addr} {lo : Option Value} {l : Int} (hd : P.underlying t = some (.slice e)) (hi' : P.info? e = some inf) (hs : inf.size = k)
    (hlo : ∀ x, lo = some x → ∃ kk, x = .int kk l) (h1 : lo = none → l = 0) (hl : l = (n : Int)) (hn : n ≤ len) (hc : len ≤ cap) :
    (Instr.sliceAt t (.slice va len cap) lo none none).run P w = .ok (subVal k n (.slice va len cap)) w := by
  subst hl
  cases lo with
  | none =>
    have := h1 rfl
    obtain rfl : n = 0 := by omega
    simp [Instr.sliceAt, Instr.slice, Instr.sliceBounds, go_sem, run_underlying hd, sizeOf, typeInfo, hi', add_zero', subVal]
  | some x =>
    obtain ⟨kk, rfl⟩ := hlo _ rfl
    simp [Instr.sliceAt, Instr.slice, Instr.sliceBounds, Instr.sliceBound, asIntOf, go_sem, run_underlying hd, sizeOf, typeInfo, hi', hs, hn, subVal]
theorem run_sliceHi {P : Program} {t e len cap m : Nat} {kk : IntKind} {inf : TypeInfo} {va : Option Addr} (hd : P.underlying t = some (.slice e)) (hi' : P.info? e = some inf)
    (hm : m ≤ cap) (hnil : va = none → cap = 0) :
    (Instr.sliceAt t (.slice va len cap) none (some (.int kk (m : Int))) none).run P w = .ok (.slice va m cap) w := by
  have e1 : (if cap = 0 then va else va.map (·.add 0)) = va := by
    split
    · rfl
    · cases va <;> simp [add_zero']
  simp [Instr.sliceAt, Instr.slice, Instr.sliceBounds, Instr.sliceBound, asIntOf, go_sem, run_underlying hd, sizeOf, typeInfo, hi', hm, add_zero']

theorem reps_flat (zs : List Sc) (n : Nat) : (reps zs n).map (Sc.ev ρ) = (List.replicate n (zs.map (Sc.ev ρ))).flatten := by
  induction n with
  | zero => simp [reps]
  | succ n ih => simp [reps, ih, List.replicate_succ', List.flatten_append]
theorem flatten_take {n : Nat} {rows : List (List Value)} (h : ∀ r ∈ rows, r.length = n) (i : Nat) : rows.flatten.take (i * n) = (rows.take i).flatten := by
  induction rows generalizing i with
  | nil => simp
  | cons r rows ih =>
    have hr := h r (List.mem_cons_self ..)
    cases i with
    | zero => simp
    | succ i =>
      rw [List.flatten_cons, Nat.succ_mul, Nat.add_comm, ← hr, List.take_length_add_append, hr, ih (fun x hx => h x (List.mem_cons_of_mem _ hx))]
      simp

theorem run_clear {P : Program} {t e ty k l : Nat} {inf : TypeInfo} {z : Value} {zs : List Sc} {gb len cap : Nat} {cur : Array Value} (hd : P.underlying t = some (.slice e)) (hi : P.info? e = some inf) (hz : inf.zero = some z)
    (hz0 : z.cells = (zs.map (Sc.ev ρ)).toArray) (hk : zs.length = k) (hpos : 0 < k) (hg : w.heap[gb]? = some (.cells cur e (0, 0))) (hl : l < len) (hc : len ≤ cap) (hcs : cur.size = cap * k) :
    (Builtin.clear_ #[t] ty #[subVal k l (.slice (some ⟨gb, 0, none⟩) len cap)]).run P w = .ok (.tuple #[]) (w.setRow gb (cur.toList.take (l * k) ++ (List.replicate (len - l) (zs.map (Sc.ev ρ))).flatten ++ cur.toList.drop (len * k)).toArray) := by
  have e1 : ∀ w, (zeroValue e).run P w = .ok z w := fun w => by simp [go_sem, zeroValue, typeInfo, hi, hz]
  have hsub : subVal k l (.slice (some ⟨gb, 0, none⟩) len cap) = .slice (some ⟨gb, l * k, none⟩) (len - l) (cap - l) := by
    simp only [subVal]
    rw [if_neg (by omega)]
    simp [add_mk]
  rw [hsub]
  obtain ⟨m, hm⟩ : ∃ m, len - l = m + 1 := ⟨len - l - 1, by omega⟩
  have hzc : (Builtin.zeroCells z.cells (len - l)).toList = (List.replicate (len - l) (zs.map (Sc.ev ρ))).flatten := by
    unfold Builtin.zeroCells
    rw [← reps_flat]
    have hsz : z.cells.size = zs.length := by rw [hz0]; simp
    have := zeros_ok (ρ := ρ) (len := len - l) hz0 (by omega)
    rw [show (len - l) * z.cells.size = (len - l) * zs.length by rw [hsz], this]
  have hlen : ((List.replicate (len - l) (zs.map (Sc.ev ρ))).flatten).length = (len - l) * k := by
    rw [flatten_length (n := k)]
    · simp
    · intro r hr; rw [List.eq_of_mem_replicate hr]; simpa using hk
  have hle : len * k ≤ cap * k := Nat.mul_le_mul_right _ hc
  have hsum : l * k + (len - l) * k = len * k := by rw [← Nat.add_mul]; congr 1; omega
  have hst := run_storeCells_at (P := P) gb (l * k) e ((List.replicate (len - l) (zs.map (Sc.ev ρ))).flatten) 0 cur w hg (by rw [hlen]; omega) (by
    intro v hv
    obtain ⟨r, hr, hv⟩ := List.mem_flatten.1 hv
    rw [List.eq_of_mem_replicate hr] at hv
    simp only [List.mem_map] at hv
    obtain ⟨s, -, rfl⟩ := hv
    exact Sc.ev_one ρ s)
  rw [hlen, Nat.add_zero, hsum] at hst
  rw [hm] at hzc hst ⊢
  simp only [Builtin.clear_, List.getElem?_toArray, List.getElem?_cons_zero]
  rw [Sem.run_bind, run_underlying hd]
  simp only [Result.andThen_ok]
  rw [Sem.run_bind, e1]
  simp only [Result.andThen_ok]
  rw [Sem.run_bind, hzc, hst]
  simp [Sem.run_pure]

theorem run_clear_none {P : Program} {t e ty : Nat} {v : Value} (hd : P.underlying t = some (.slice e)) (hv : (∃ n c, v = .slice none n c) ∨ ∃ va c, v = .slice va 0 c) : (Builtin.clear_ #[t] ty #[v]).run P w = .ok (.tuple #[]) w := by
  rcases hv with ⟨n, c, rfl⟩ | ⟨va, c, rfl⟩
  · simp [Builtin.clear_, run_underlying hd]
  · cases va <;> simp [Builtin.clear_, run_underlying hd]

theorem rowOp2_ok (hE : EnvOK C.P E) {ops : List Oper} {o : Oper} {k : St → Tree} {t : Tree} {K : Act → World → Prop} {Q : Exit → Act → World → Prop}
    (hi : Inv C st ρ a w) (hk : ∀ st' ρ' a' w', st'.d = st.d → ρ <+: ρ' → (k st').goal C ρ' L → Inv C st' ρ' a' w' → K a' w') (hr : rowOp2 E ops o st k = some t) (hg : t.goal C ρ L) : o.wp C.P a w K Q := by
  have hput : ∀ (st : St) (s : SV), (st.put o.dst s).d = st.d := by intro st s; cases ho' : o.dst <;> rfl
  have hTT : (X.ev ρ (.B true)).toB = true := rfl
  unfold rowOp2 at hr
  split at hr
  · -- what is cleared at once
    rename_i t' x lo hop
    split at hr
    · rename_i e v ht hx
      split at hr
      · rename_i ei e' ks r l hei hrow hl
        simp only [Option.ite_none_right_eq_some, Option.some.injEq] at hr
        obtain ⟨⟨-, rfl, rfl, hvn, hlb⟩, rfl⟩ := hr
        obtain ⟨hn, hg⟩ := needsT_ok hg
        obtain ⟨n1, n2⟩ := (hn hTT).app
        obtain ⟨d, hd, htag⟩ := hE.tab.tag ht
        have := tag_slice htag; subst this
        obtain ⟨d', inf, z, hd', hinf, hsz, -⟩ := (hE.tab.get hei).ok
        obtain ⟨l1, l2⟩ := bndOf_ok (ρ := ρ) (e := a.eval) (fun x c hx => hi.rd_ok hTT hx) hl
        have hx := hi.rd_ok hTT hx
        simp only [CV.ev, Sc.ev, X.ev] at hx
        have hown : owns w (ρ.getD v (.i 0)).toV e' ei.ks (r.ev ρ).toR := hi.rel.holds _ (isRow_mem hrow)
        obtain ⟨hrk, va, cap, hv, ⟨hnone, hc⟩, -⟩ := hown.reads
        rw [hv] at hx
        have n1 := needLo_ok n1
        have n2 := needLe_ok n2
        simp only [X.ev, V.toI_i] at n2
        have hrun := run_sliceLo (P := C.P) (w := w) (va := va) (len := (r.ev ρ).toR.length) (cap := cap) (n := (l.ev ρ).toI.toNat) (k := ei.ks.length) hd hinf hsz l1 (fun h => by rw [l2 h]; rfl) (by omega) (by omega) hc
        unfold Oper.wp execOp
        have hx' : a.eval x = .slice va (r.ev ρ).toR.length cap := hx
        simp only [hop, hx', Option.map_none, Sem.run_bind, hrun, Result.andThen_ok, Sem.run_pure, Oper.upon]
        refine hk _ _ _ _ (by exact hput _ _) List.prefix_rfl hg (hi.put _ ?_)
        show subVal _ _ _ = CV.ev ρ (false, [Sc.val (X.subS ei.ks.length (X.var v) l)])
        simp only [CV.ev, Sc.ev, X.ev, V.toV_v, hv, subVal]
        rfl
      · cases hr
    · cases hr
  · -- the first elements
    rename_i t' x hi' hop
    split at hr
    · rename_i e v ht hx
      split at hr
      · rename_i ei e' ks r h hei hrow hh
        simp only [Option.ite_none_right_eq_some, Option.some.injEq] at hr
        obtain ⟨⟨rfl, rfl, hhb, hrb, -⟩, rfl⟩ := hr
        obtain ⟨hn, hg⟩ := needsT_ok hg
        obtain ⟨n1, n2⟩ := (hn hTT).app
        obtain ⟨d, hd, htag⟩ := hE.tab.tag ht
        have := tag_slice htag; subst this
        obtain ⟨d', inf, z, hd', hinf, hsz, -⟩ := (hE.tab.get hei).ok
        obtain ⟨u1, -⟩ := bndOf_ok (ρ := ρ) (e := a.eval) (fun x c hx => hi.rd_ok hTT hx) hh
        have hx := hi.rd_ok hTT hx
        simp only [CV.ev, Sc.ev, X.ev] at hx
        have hmem := isRow_mem hrow
        have hown : owns w (ρ.getD v (.i 0)).toV e' ei.ks (r.ev ρ).toR := hi.rel.holds _ hmem
        obtain ⟨hrk, va, cap, hv, ⟨hnone, hc⟩, -⟩ := hown.reads
        rw [hv] at hx
        have n1 := needLo_ok n1
        have n2 := needLe_ok n2
        simp only [X.ev, V.toI_i] at n2
        obtain ⟨kk, hkk⟩ := u1 _ rfl
        obtain ⟨m, hm⟩ : ∃ m : Nat, (h.ev ρ).toI = m := ⟨(h.ev ρ).toI.toNat, by omega⟩
        rw [hm] at hkk n2
        have hrun := run_sliceHi (P := C.P) (w := w) (va := va) (len := (r.ev ρ).toR.length) (cap := cap) (m := m) (kk := kk) hd hinf (by omega) hnone
        have hx' : a.eval x = .slice va (r.ev ρ).toR.length cap := hx
        have hrb' : (X.takeR r h).bd st.n = true := by simp [X.bd, hrb, hhb]
        have hbk : ∀ q, blockOf (.slice va m cap) q ↔ blockOf (ρ.getD v (.i 0)).toV q := fun q => by rw [hv]; cases va <;> rfl
        have hnew : owns w (.slice va m cap) e' ei.ks ((r.ev ρ).toR.take m) := by
          obtain ⟨h1, h2, h3⟩ := hown
          have hrl : ∀ row ∈ (r.ev ρ).toR, row.length = ei.ks.length := fun row hr => (h1 row hr).length
          refine ⟨fun row hr => h1 row (List.mem_of_mem_take hr), ?_, ?_⟩
          · rw [flatten_length (n := ei.ks.length) (fun row hr => hrl row (List.mem_of_mem_take hr))]
          · rcases h3 with ⟨h3, h4⟩ | ⟨g, cap', cur, h3, hb, hgb, hnc, hcm, hcs, htk⟩
            · left
              rw [hv] at h3
              simp only [Value.slice.injEq] at h3
              obtain ⟨rfl, h5, rfl⟩ := h3
              have : m = 0 := by omega
              subst this
              simp
            · right
              rw [hv] at h3
              simp only [Value.slice.injEq] at h3
              obtain ⟨rfl, h5, rfl⟩ := h3
              have hml : ((r.ev ρ).toR.take m).length = m := by rw [List.length_take]; omega
              refine ⟨g, cap, cur, by rw [hml], hb, hgb, by rw [hml]; omega, hcm, hcs, ?_⟩
              rw [hml, ← flatten_take hrl, ← htk, List.take_take]
              congr 1
              have := Nat.mul_le_mul_right ei.ks.length (show m ≤ (r.ev ρ).toR.length by omega)
              omega
        have hsub := hi.rel.sublist (dropRow_sub st.hp v)
        have hdisj : ∀ e' ∈ dropRow st.hp v, ∀ k, blockOf (ρ.getD v (.i 0)).toV k → ¬ e'.fp ρ k := by
          intro e' he' k hk hk'
          have he := (dropRow_sub st.hp v).subset he'
          refine hi.rel.disj hmem he (fun h => ?_) (.inl rfl) hk hk'
          subst h
          simp [dropRow] at he'
        have hi2 := hi.bindEnt hsub (List.all_eq_true.2 fun e' he' => List.all_eq_true.1 hi.bdh e' ((dropRow_sub st.hp v).subset he')) (.v (.slice va m cap)) (.row st.n e' ei.ks (.takeR r h))
          (by simp only [Ent.bd, Bool.and_eq_true, decide_eq_true_eq]; exact ⟨by omega, X.bd_mono (by omega) _ hrb'⟩)
          (by simp only [Ent.holds, getD_last hi.len, V.toV_v]; rw [ev_app hi.len _ hrb']; simp only [X.ev, V.toR_r, hm, Int.toNat_natCast]; exact hnew)
          (fun _ k hk => by
            simp only [Ent.fp, getD_last hi.len, V.toV_v] at hk
            exact hi.rel.own _ hmem rfl _ ((hbk k).1 hk))
          (fun e' he' _ k hk hk' => by
            simp only [Ent.fp, getD_last hi.len, V.toV_v] at hk
            exact hdisj e' he' k ((hbk k).1 hk) hk')
        unfold Oper.wp execOp
        have hkk' : (some hi').map a.eval = some (.int kk (m : Int)) := by simpa using hkk
        simp only [hop, hx', Option.map_none, hkk', Sem.run_bind, hrun, Result.andThen_ok, Sem.run_pure, Oper.upon]
        exact hk _ _ _ _ (by exact hput _ _) (List.prefix_append ρ _) (hg _ (hi2.ownNew hi.len (List.mem_cons_self ..))) (hi2.put _ (valAt_rel hi.len rfl))
      · cases hr
    · cases hr
  · -- clear
    rename_i c hop
    split at hr
    · rename_i y t' hcal hargs htys
      split at hr
      · rename_i e n0 v l ht hy
        split at hr
        · rename_i ei e' ks r hei hrow
          split at hr
          · rename_i zx hzx
            simp only [Option.ite_none_right_eq_some, Option.some.injEq] at hr
            obtain ⟨⟨rfl, rfl, rfl, hpos, hlb, hrb, hzb, hkf⟩, rfl⟩ := hr
            obtain ⟨callee, args, argTypes⟩ := c
            obtain ⟨args⟩ := args
            obtain ⟨argTypes⟩ := argTypes
            simp only [] at hcal hargs htys
            subst hcal hargs htys
            obtain ⟨hn, hg⟩ := needsT_ok hg
            obtain ⟨n1, n2⟩ := (hn hTT).app
            obtain ⟨d, hd, htag⟩ := hE.tab.tag ht
            have := tag_slice htag; subst this
            obtain ⟨d', inf, z, hd', hinf, hsz, hby, hz, hzc, hzbd, hzl, -⟩ := (hE.tab.get hei).ok
            have hz0 : z.cells = (ei.zs.map (Sc.ev ρ)).toArray := by
              apply Array.ext'
              rw [hzc, map_ev_bd (ρ := []) (ρ' := ρ) (n := 0) (fun k hk => by omega) _ hzbd]
            have hy := hi.rd_ok hTT hy
            have hmem := isRow_mem hrow
            have hown : owns w (ρ.getD v (.i 0)).toV e' ei.ks (r.ev ρ).toR := hi.rel.holds _ hmem
            obtain ⟨-, va, cap, hv, ⟨hnone, hc⟩, -⟩ := hown.reads
            simp only [CV.ev, Sc.ev, X.ev, V.toV_v, hv] at hy
            have n1 := needLo_ok n1
            have n2 := needLe_ok n2
            simp only [X.ev, V.toI_i] at n2
            obtain ⟨m, hm⟩ : ∃ m : Nat, (l.ev ρ).toI = m := ⟨(l.ev ρ).toI.toNat, by omega⟩
            rw [hm] at hy n2
            simp only [Int.toNat_natCast] at hy
            have hy' : a.eval y = subVal ei.ks.length m (.slice va (r.ev ρ).toR.length cap) := hy
            have hrX := rowX_ok (ρ := ρ) hzx
            have hkF := kindsFit_ok (ρ := ρ) hkf
            have hzlen : ei.zs.length = ei.ks.length := by have := hkF.length; simpa using this
            have fin : ∀ w', (Builtin.clear_ #[t'] o.type #[a.eval y]).run C.P w = .ok (.tuple #[]) w' → Rel C.B ρ (setRow st.hp v (.clrR r l zx)) w' → o.wp C.P a w K Q := fun w' hrun hrel => by
              have hi2 := hi.heap (setRow_bd hi.bdh (by simp [X.bd, hrb, hlb, hzb])) hrel
              unfold Oper.wp execOp
              simp only [hop]
              have e1 : (do let d ← resolve a.eval { callee := .builtin .clear, args := ⟨[y]⟩, argTypes := ⟨[t']⟩ } o.type; invoke d.target d.args : Sem Next).run C.P w = .ok (.value (.tuple #[])) w' := by
                have e0 : ((⟨[y]⟩ : Array Operand).map a.eval) = #[a.eval y] := List.map_toArray ..
                have e2 : (builtin .clear ⟨[t']⟩ o.type ((⟨[y]⟩ : Array Operand).map fun | .const _ => true | _ => false) #[a.eval y]).run C.P w = .ok (.value (.tuple #[])) w' := by
                  simp only [builtin, Sem.run_bind, hrun, Result.andThen_ok, Sem.run_pure]
                simp only [resolve, e0, Sem.run_bind, Sem.run_pure, Result.andThen_ok, invoke]
                exact e2
              rw [e1]
              simp only [Oper.upon]
              exact hk _ _ _ _ (by exact hput _ _) List.prefix_rfl hg (hi2.put _ rfl)
            have hown' := hown
            obtain ⟨hk1, ho1, ho2⟩ := hown'
            have hrl : ∀ row ∈ (r.ev ρ).toR, row.length = ei.ks.length := fun row hr => (hk1 row hr).length
            have hev : ∀ ks' e' w', (Ent.row v e' ks' (.clrR r l zx)).holds ρ w' = owns w' (ρ.getD v (.i 0)).toV e' ks' ((r.ev ρ).toR.take m ++ List.replicate ((r.ev ρ).toR.length - m) (ei.zs.map (Sc.ev ρ))) := fun ks' e' w' => by
              simp only [Ent.holds, X.ev, V.toR_r, hm, Int.toNat_natCast, hrX]
            rcases ho2 with ⟨hv0, hl0⟩ | ⟨gb, cap', cur, hv0, hb', hgb, hnc, hcm, hcs, htake⟩
            · rw [hv] at hv0
              simp only [Value.slice.injEq] at hv0
              obtain ⟨rfl, -, rfl⟩ := hv0
              have hr0 : (r.ev ρ).toR = [] := List.length_eq_zero_iff.1 hl0
              refine fin w (run_clear_none hd (.inl ?_)) (setRow_ok hi.rel hmem ⟨rfl, rfl, rfl, Nat.le_refl _, fun _ _ _ => rfl⟩ fun e2 ks' r0 hm' => ?_)
              · rw [hy']; simp only [subVal, Option.map_none, ite_self]; exact ⟨_, _, rfl⟩
              · rw [hev, hv, hr0]
                have h00 : ([] : List (List Value)).take m ++ List.replicate (([] : List (List Value)).length - m) (ei.zs.map (Sc.ev ρ)) = [] := by simp
                rw [h00]
                exact ⟨by simp, World.ownsRow_nil _ _ _ _⟩
            · rw [hv] at hv0
              simp only [Value.slice.injEq] at hv0
              obtain ⟨rfl, -, rfl⟩ := hv0
              have hbk : (ρ.getD v (.i 0)).toV.ownBlock = some gb := by rw [hv]; rfl
              have huniq : ∀ e2 ks' r0, Ent.row v e2 ks' r0 ∈ st.hp → Ent.row v e2 ks' r0 = Ent.row v e' ei.ks r := fun e2 ks' r0 hm' => by
                by_cases h : Ent.row v e2 ks' r0 = Ent.row v e' ei.ks r
                · exact h
                · exact (hi.rel.disj hm' hmem h (.inl rfl) hbk hbk).elim
              by_cases hlt : m < (r.ev ρ).toR.length
              · have hrun := run_clear (ρ := ρ) (w := w) (P := C.P) (ty := o.type) (k := ei.ks.length) (l := m) hd hinf hz hz0 hzlen hpos hgb hlt hc hcs
                rw [← hy'] at hrun
                have hzfl : ((List.replicate ((r.ev ρ).toR.length - m) (ei.zs.map (Sc.ev ρ))).flatten).length = ((r.ev ρ).toR.length - m) * ei.ks.length := by
                  rw [flatten_length (n := ei.ks.length)]
                  · simp
                  · intro row hr; rw [List.eq_of_mem_replicate hr]; simpa using hzlen
                have hcl' : cur.toList.length = cur.size := Array.length_toList
                have hle : (r.ev ρ).toR.length * ei.ks.length ≤ cur.size := by rw [hcs]; exact Nat.mul_le_mul_right _ hnc
                have hsum : m * ei.ks.length + ((r.ev ρ).toR.length - m) * ei.ks.length = (r.ev ρ).toR.length * ei.ks.length := by rw [← Nat.add_mul]; congr 1; omega
                have hml : (cur.toList.take (m * ei.ks.length)).length = m * ei.ks.length := by rw [List.length_take, hcl']; omega
                have hrowl : ((r.ev ρ).toR.take m ++ List.replicate ((r.ev ρ).toR.length - m) (ei.zs.map (Sc.ev ρ))).length = (r.ev ρ).toR.length := by simp; omega
                have hgr : w.grownBy (w.setRow gb (cur.toList.take (m * ei.ks.length) ++ (List.replicate ((r.ev ρ).toR.length - m) (ei.zs.map (Sc.ev ρ))).flatten ++ cur.toList.drop ((r.ev ρ).toR.length * ei.ks.length)).toArray) (ρ.getD v (.i 0)).toV.ownBlock := by
                  rw [hbk]
                  exact ⟨rfl, rfl, rfl, by simp, fun k _ hne => setRow_other w gb k _ (fun e => hne (by rw [e]))⟩
                refine fin _ hrun (setRow_ok hi.rel hmem hgr fun e2 ks' r0 hm' => ?_)
                have hu := huniq e2 ks' r0 hm'
                simp only [Ent.row.injEq, true_and] at hu
                obtain ⟨rfl, rfl, rfl⟩ := hu
                rw [hev, hv]
                refine ⟨fun row hr => ?_, ?_, .inr ⟨gb, cap, _, by rw [hrowl], hb', setRow_heap w gb _ _ _ (0, 0) hgb, by rw [hrowl]; exact hnc, hcm, ?_, ?_⟩⟩
                · rcases List.mem_append.1 hr with h | h
                  · exact hk1 row (List.mem_of_mem_take h)
                  · rw [List.eq_of_mem_replicate h]; exact hkF
                · rw [flatten_length (n := ei.ks.length)]
                  intro row hr
                  rcases List.mem_append.1 hr with h | h
                  · exact hrl row (List.mem_of_mem_take h)
                  · rw [List.eq_of_mem_replicate h]; simpa using hzlen
                · simp only [List.size_toArray, List.length_append, hml, hzfl, List.length_drop, hcl']
                  omega
                · rw [hrowl, List.toList_toArray, List.take_append_of_le_length (by rw [List.length_append, hml, hzfl]; omega), List.take_of_length_le (by rw [List.length_append, hml, hzfl]; omega)]
                  rw [List.flatten_append, ← flatten_take hrl, ← htake, List.take_take]
                  congr 2
                  have := Nat.mul_le_mul_right ei.ks.length (Nat.le_of_lt hlt)
                  omega
              · have hme : m = (r.ev ρ).toR.length := by omega
                subst hme
                refine fin w (run_clear_none hd (.inr ?_)) (setRow_ok hi.rel hmem ⟨rfl, rfl, rfl, Nat.le_refl _, fun _ _ _ => rfl⟩ fun e2 ks' r0 hm' => ?_)
                · rw [hy']; simp only [subVal, Nat.sub_self]; exact ⟨_, _, rfl⟩
                · have hu := huniq e2 ks' r0 hm'
                  simp only [Ent.row.injEq, true_and] at hu
                  obtain ⟨rfl, rfl, rfl⟩ := hu
                  rw [hev, List.take_length, Nat.sub_self, List.replicate_zero, List.append_nil]
                  exact hown
          · cases hr
        · cases hr
      · cases hr
    · cases hr
  · cases hr
end
end Go.Sx
