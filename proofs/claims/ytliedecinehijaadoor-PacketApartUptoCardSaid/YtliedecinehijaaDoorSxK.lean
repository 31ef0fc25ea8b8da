/-
  A small verified symbolic executor (part K: calls and operations that change memory). By an AI agent.
-/
import Derived.Test.YtliedecinehijaaDoorSxJ
set_option linter.unusedSimpArgs false
set_option linter.unusedVariables false
namespace Go.Sx
open Go
variable {C : Cx} {st : St} {ρ : List V} {a : Act} {w : World} {E : Env} {L : List LC}

theorem callOf_ok {G : X} {o : Oper} {c : Call} {f : Nat} {args : List SV} (h : Inv C st ρ a w) (hG : (G.ev ρ).toB = true) (ho : o.op = .call c) (hc : callOf st G c = some (f, args))
    (hf : callOK C.P f = true) : (execOp a.eval o).run C.P w = .ok (.enter f (args.map (SV.ev ρ)).toArray) w := by
  obtain ⟨callee, cargs, ctys⟩ := c
  obtain ⟨cargs⟩ := cargs
  unfold callOK at hf
  have hen : ∀ vs, (callFunc f vs).run C.P w = .ok (.enter f vs) w := by
    intro vs
    split at hf
    · rename_i fn hfn
      simp only [Bool.and_eq_true, bne_iff_ne, ne_eq] at hf
      obtain ⟨h1, h2⟩ := hf
      have h5 : ¬ fn.body = none := by cases hb : fn.body <;> simp_all
      simp [callFunc, go_sem, hfn, h1, h5]
    · cases hf
  unfold execOp
  simp only [ho]
  unfold callOf at hc
  split at hc
  · rename_i f' hcal
    simp only [] at hcal
    subst hcal
    simp only [Option.map_eq_some_iff, Prod.mk.injEq] at hc
    obtain ⟨args', hargs, rfl, rfl⟩ := hc
    have := h.rdAll_ok hG hargs
    have hm : (cargs.toArray.map a.eval) = (args'.map (SV.ev ρ)).toArray := by rw [← this]; simp
    simp only [resolve, hm, Sem.run_bind, Act.eval, Deferred.ofValue]
    simp [go_sem, invoke, hen]
  · rename_i t hcal
    simp only [] at hcal
    subst hcal
    split at hc
    · rename_i f' first caps args' hs hargs
      simp only [Option.some.injEq, Prod.mk.injEq] at hc
      obtain ⟨rfl, rfl⟩ := hc
      have := h.rdAll_ok hG hargs
      have hm : (cargs.toArray.map a.eval) = (args'.map (SV.ev ρ)).toArray := by rw [← this]; simp
      have hrel := h.fr t
      rw [hs] at hrel
      have hrel : a.eval (.tmp t) = SV.ev ρ (.fn f' first caps) := hrel
      simp only [resolve, hm, hrel, SV.ev, Sem.run_bind, Deferred.ofValue]
      have e : ∀ l : List Sc, (l.map fun s => SV.cv (false, [s])).map (SV.ev ρ) = l.map (Sc.ev ρ) := by intro l; simp [SV.ev, CV.ev]
      simp only [List.map_append, e]
      simp [go_sem, invoke, hen]
    · cases hc
  · cases hc

theorem freshMod_le {T : Tab} {own : Bool} : ∀ {ss : List Sc} {n : Nat} {tys : List (Option Nat)}, n ≤ (freshMod T own n tys ss).2.1 ∧ ∀ e ∈ (freshMod T own n tys ss).2.2, ∀ v ty cs, e ≠ .cells v ty cs := by
  intro ss
  induction ss with
  | nil => intro n tys; exact ⟨Nat.le_refl _, fun e he => by simp [freshMod] at he⟩
  | cons s ss ih =>
    intro n tys
    simp only [freshMod]
    split <;> (try split) <;> (try split) <;> (try split) <;> simp only [] <;>
      (refine ⟨Nat.le_trans (by omega) ih.1, fun e he => ?_⟩; rcases List.mem_append.1 he with he | he <;> first | exact ih.2 e he | (simp at he; done) | (simp at he; subst he; intro v ty cs h; cases h) | (rw [List.mem_singleton] at he; subst he; intro v ty cs h; split at h <;> cases h))
theorem resOne_le {T : Tab} {own : Bool} {t n n' : Nat} {c : CV} {es : List Ent} (h : resOne T own t n = some (c, n', es)) : n ≤ n' ∧ ∀ e ∈ es, ∀ v ty cs, e ≠ .cells v ty cs := by
  unfold resOne at h
  split at h
  · simp at h; obtain ⟨rfl, rfl, rfl⟩ := h; exact ⟨by omega, fun e he => by simp at he⟩
  · split at h
    · split at h <;> simp at h
      · obtain ⟨rfl, rfl, rfl⟩ := h; exact ⟨by omega, fun e he => by simp at he; subst he; simp⟩
      · obtain ⟨rfl, rfl, rfl⟩ := h; exact ⟨by omega, fun e he => by simp at he; subst he; simp⟩
      · obtain ⟨rfl, rfl, rfl⟩ := h; exact ⟨by omega, fun e he => by simp at he⟩
    · cases h
    · simp at h; obtain ⟨rfl, rfl, rfl⟩ := h
      exact freshMod_le
theorem resMany_le {T : Tab} {own : Bool} : ∀ {ts : List Nat} {n n' : Nat} {cs : List CV} {es : List Ent}, resMany T own ts n = some (cs, n', es) → n ≤ n' ∧ ∀ e ∈ es, ∀ v ty cs, e ≠ .cells v ty cs := by
  intro ts
  induction ts with
  | nil => intro n n' cs es h; simp [resMany] at h; obtain ⟨rfl, rfl, rfl⟩ := h; exact ⟨Nat.le_refl _, fun e he => by simp at he⟩
  | cons t ts ih =>
    intro n n' cs es h
    simp only [resMany, Option.bind_eq_bind, Option.bind_eq_some_iff, Option.some.injEq, Prod.mk.injEq] at h
    obtain ⟨⟨c, n1, e1⟩, h1, ⟨cs', n2, e2⟩, h2, rfl, rfl, rfl⟩ := h
    obtain ⟨a1, b1⟩ := resOne_le h1
    obtain ⟨a2, b2⟩ := ih h2
    exact ⟨by simp only [] at *; omega, fun e he => by rcases List.mem_append.1 he with he | he; exact b1 e he; exact b2 e he⟩
theorem resOf_le {T : Tab} {tups : List (Nat × List Nat)} {own : Bool} {t n n' : Nat} {c : SV} {es : List Ent} (h : resOf T tups own t n = some (c, n', es)) : n ≤ n' ∧ ∀ e ∈ es, ∀ v ty cs, e ≠ .cells v ty cs := by
  unfold resOf at h
  split at h <;> simp only [Option.bind_eq_bind] at h
  · simp only [Option.bind_eq_some_iff] at h
    obtain ⟨⟨cs, n1, e1⟩, h1, h⟩ := h
    obtain ⟨a1, b1⟩ := resMany_le h1
    split at h <;> simp at h <;> obtain ⟨rfl, rfl, rfl⟩ := h
    · exact ⟨by omega, fun e he => by rcases List.mem_append.1 he with he | he; exact b1 e he; (simp at he; subst he; simp)⟩
    · exact ⟨a1, b1⟩
  · simp only [Option.bind_eq_some_iff] at h
    obtain ⟨⟨cs, n1, e1⟩, h1, h⟩ := h
    obtain ⟨a1, b1⟩ := resOne_le h1
    split at h <;> simp at h <;> obtain ⟨rfl, rfl, rfl⟩ := h
    · exact ⟨by omega, fun e he => by rcases List.mem_append.1 he with he | he; exact b1 e he; (simp at he; subst he; simp)⟩
    · exact ⟨a1, b1⟩

theorem findCells_some : ∀ {hp : List Ent} {v ty : Nat} {cs : List Sc}, Ent.cells v ty cs ∈ hp → findCells hp v ≠ none := by
  intro hp
  induction hp with
  | nil => intro v ty cs h; simp at h
  | cons e l ih =>
    intro v ty cs h
    rcases List.mem_cons.1 h with rfl | h'
    · simp [findCells]
    · cases e with
      | cells u ty' cs' =>
        simp only [findCells]
        split
        · simp
        · exact ih h'
      | _ => simp only [findCells]; exact ih h'

theorem havoc_ok {T : Tab} : ∀ {mods : List Nat} {n n' : Nat} {hp ms news : List Ent}, havocCells T n mods hp = some (n', ms, news) →
    n ≤ n' ∧ ∀ v ∈ mods, (∃ ty cs, Ent.cells v ty cs ∈ hp) ∧ findCells ms v ≠ none := by
  intro mods
  induction mods with
  | nil => intro n n' hp ms news h; simp [havocCells] at h; obtain ⟨rfl, rfl, rfl⟩ := h; exact ⟨Nat.le_refl _, fun v hv => by simp at hv⟩
  | cons v vs ih =>
    intro n n' hp ms news h
    simp only [havocCells, Option.bind_eq_bind, Option.bind_eq_some_iff, Option.some.injEq, Prod.mk.injEq] at h
    obtain ⟨⟨ty, cs⟩, hc, ⟨n1, es, nw⟩, h1, rfl, rfl, rfl⟩ := h
    obtain ⟨a1, b1⟩ := ih h1
    refine ⟨Nat.le_trans freshMod_le.1 a1, fun u hu => ?_⟩
    rcases List.mem_cons.1 hu with rfl | hu
    · exact ⟨⟨ty, cs, findCells_mem hc⟩, by simp [findCells]⟩
    · obtain ⟨c1, c2⟩ := b1 u hu
      refine ⟨c1, ?_⟩
      simp only [findCells]
      split
      · simp
      · exact c2

theorem isRow_mem : ∀ {hp : List Ent} {v e : Nat} {ks : List Kd} {r : X}, isRow hp v = some (e, ks, r) → Ent.row v e ks r ∈ hp := by
  intro hp
  induction hp with
  | nil => intro v e ks r h; simp [isRow] at h
  | cons x l ih =>
    intro v e ks r h
    cases x with
    | row u e' ks' r' =>
      simp only [isRow] at h
      split at h
      · rename_i hu; subst hu; simp at h; obtain ⟨rfl, rfl, rfl⟩ := h; exact List.mem_cons_self ..
      · exact List.mem_cons_of_mem _ (ih h)
    | _ => simp only [isRow] at h; exact List.mem_cons_of_mem _ (ih h)
theorem SV.rel_of_ev {s : SV} {x : Value} (h : x = s.ev ρ) (hv : s.isVal = true) : s.rel ρ x := by
  cases s <;> simp [SV.isVal] at hv <;> exact h

theorem resOf_isVal {T : Tab} {tups : List (Nat × List Nat)} {own : Bool} {t n n' : Nat} {c : SV} {es : List Ent} (h : resOf T tups own t n = some (c, n', es)) : (∃ x, c = .cv x) ∨ ∃ x, c = .tup x := by
  unfold resOf at h
  split at h <;> simp only [Option.bind_eq_bind, Option.bind_eq_some_iff] at h <;> obtain ⟨⟨cs, n1, e1⟩, h1, h⟩ := h <;> split at h <;> simp at h <;> obtain ⟨rfl, -, -⟩ := h <;> simp

theorem exCall_ok (hE : EnvOK C.P E) {o : Oper} {G : X} {c : Call} {f : Nat} {args : List SV} {k : St → Tree} {K : Act → World → Prop} {Q : Exit → Act → World → Prop}
    (hi : Inv C st ρ a w) (hGb : G.bd st.n = true) (ho : o.op = .call c) (hc : callOf st G c = some (f, args))
    (hk : ∀ st' ρ' a' w', st'.d = st.d → ρ <+: ρ' → (k st').goal C ρ' L → Inv C st' ρ' a' w' → K a' w') (hg : (exCall E o G st k f args).goal C ρ L) :
    if (G.ev ρ).toB = true then o.wp C.P a w K Q else K (a.put o.dst undef) w := by
  have hput : ∀ (st : St) (s : SV), (st.put o.dst s).d = st.d := by intro st s; cases ho' : o.dst <;> rfl
  unfold exCall at hg
  split at hg
  · exact hg.elim
  · rename_i hfs
    have hf : callOK C.P f = true := hE.fs f (by simpa using hfs)
    split at hg
    · exact hg.elim
    · rename_i res n1 es hres
      obtain ⟨hle, hes⟩ := resOf_le hres
      simp only [] at hg
      split at hg
      · -- a call that changes nothing that was there
        simp only [Tree.goal] at hg
        obtain ⟨vs, hvl, hcall, hg⟩ := hg
        have hi1 := ext0 hi (n := n1) vs hvl hle
        have hGe : G.ev (ρ ++ vs) = G.ev ρ := (X.ev_bd (by rw [← hi.len]; exact Agree.app ρ vs) G hGb).symm
        by_cases hG : (G.ev ρ).toB = true
        · rw [if_pos hG]
          unfold Oper.wp
          rw [callOf_ok hi hG ho hc hf]
          simp only [Oper.upon]
          refine (hcall ((X.P_iff ρ G).2 hG) w (hi.rel.forMem _)).mono ?_
          rintro e w1 ⟨rfl, hm⟩
          refine hk _ _ _ _ (by exact hput _ _) (List.prefix_append ρ vs) hg ((hi1.world (hi1.rel.step hm (by simp) (by simp))).put _ ?_)
          rcases resOf_isVal hres with ⟨x, rfl⟩ | ⟨x, rfl⟩
          · simp only []
            split
            · rfl
            · exact ⟨fun _ => rfl, fun h => by rw [hGe, hG] at h; cases h⟩
          · simp only []
            split
            · rfl
            · trivial
        · rw [if_neg hG]
          have hG' : (G.ev ρ).toB = false := by simpa using hG
          have hGn : ¬ G = .B true := by rintro rfl; simp [X.ev] at hG
          refine hk _ _ _ _ (by exact hput _ _) (List.prefix_append ρ vs) hg (hi1.put _ ?_)
          rcases resOf_isVal hres with ⟨x, rfl⟩ | ⟨x, rfl⟩
          · simp only [if_neg hGn]
            exact ⟨(fun h => by rw [hGe, hG'] at h; cases h), fun _ => rfl⟩
          · simp only [if_neg hGn]; trivial
      · split at hg
        · rename_i hGt
          subst hGt
          simp only [X.ev, V.toB_b, if_true]
          split at hg
          · exact hg.elim
          · rename_i n2 ms news hh
            obtain ⟨hle2, hin⟩ := havoc_ok hh
            split at hg
            · rename_i hbd
              simp only [Bool.and_eq_true] at hbd
              obtain ⟨hbd, hgone⟩ := hbd
              generalize hgd : goneIn E f st.hp (nodup (args.flatMap SV.ptrs)) args = gone at hg hbd hgone
              simp only [Tree.goal] at hg
              unfold Oper.wp
              rw [callOf_ok hi rfl ho hc hf]
              simp only [Oper.upon]
              refine (hg w hi.rel).mono ?_
              rintro e w1 ⟨vs, hvl, rfl, hm, hms, hesh, hap, hg⟩
              simp only []
              have hi1 := ext0 hi (n := n2) vs hvl (by omega)
              have hag : Agree st.n ρ (ρ ++ vs) := by rw [← hi.len]; exact Agree.app ρ vs
              have hbh := List.all_eq_true.1 hi.bdh
              have hgrow : ∀ u ∈ gone, ∃ e ks r, Ent.row u e ks r ∈ st.hp := fun u hu => by
                have := List.all_eq_true.1 hgone u hu
                cases hr : isRow st.hp u with
                | none => rw [hr] at this; cases this
                | some p => obtain ⟨e, ks, r⟩ := p; exact ⟨e, ks, r, isRow_mem hr⟩
              have hvb : ∀ v ∈ nodup (args.flatMap SV.ptrs), (ρ.getD v (.i 0)).toN = ((ρ ++ vs).getD v (.i 0)).toN := by
                intro v hv
                obtain ⟨⟨ty, cs, hc⟩, -⟩ := hin v hv
                have := hbh _ hc
                simp only [Ent.bd, Bool.and_eq_true, decide_eq_true_eq] at this
                rw [hag v this.1]
              have hub : ∀ u ∈ gone, ρ.getD u (.i 0) = (ρ ++ vs).getD u (.i 0) := by
                intro u hu
                obtain ⟨e, ks, r, hm⟩ := hgrow u hu
                have := hbh _ hm
                simp only [Ent.bd, Bool.and_eq_true, decide_eq_true_eq] at this
                rw [hag u this.1]
              have hm' : Mod (((nodup (args.flatMap SV.ptrs)).map fun v => ((ρ ++ vs).getD v (.i 0)).toN) ++ goneOf ρ gone) w w1 := by
                rw [← List.map_congr_left hvb]; exact hm
              have hr1 := hi1.rel.sublist (hp' := dropRows st.hp gone) List.filter_sublist
              have hgs : ∀ k ∈ goneOf ρ gone, (C.B.w0.heap.size ≤ k ∨ k ∈ C.B.fp) ∧ ∀ e ∈ dropRows st.hp gone, ¬ e.fp (ρ ++ vs) k := by
                intro k hk
                simp only [goneOf, List.mem_flatMap, Option.mem_toList] at hk
                obtain ⟨u, hu, hk⟩ := hk
                obtain ⟨e, ks, r, hmr⟩ := hgrow u hu
                have hfp : (Ent.row u e ks r).fp (ρ ++ vs) k := by
                  show ((ρ ++ vs).getD u (.i 0)).toV.ownBlock = some k
                  rw [← hub u hu]; exact hk
                refine ⟨hi1.rel.own _ hmr rfl k hfp, fun e' he' hk' => ?_⟩
                simp only [dropRows, List.mem_filter] at he'
                refine hi1.rel.disj hmr he'.1 (fun h => ?_) (.inl rfl) hfp hk'
                rw [← h] at he'
                simp [isGone, hu] at he'
              have hr2 := hr1.setAll hm' hgs (fun v hv => by
                obtain ⟨⟨ty, cs, hc⟩, h2⟩ := hin v hv
                exact ⟨⟨ty, cs, by simp only [dropRows, List.mem_filter]; exact ⟨hc, rfl⟩⟩, h2⟩) hms
              have hr3 := hi1.rel.appendNew (gs := goneOf ρ gone) hr2 (fun k hk => ⟨(hgs k hk).1, fun e he hk' => by
                simp only [setAll, List.mem_map] at he
                obtain ⟨x, hx, rfl⟩ := he
                obtain ⟨-, h2, -⟩ := setAll_key (ρ := ρ ++ vs) ms x
                exact (hgs k hk).2 x hx ((h2 k).1 hk')⟩) (fun e he => by
                simp only [setAll, List.mem_map] at he
                obtain ⟨x, hx, rfl⟩ := he
                obtain ⟨h1, h2, -⟩ := setAll_key (ρ := ρ ++ vs) ms x
                exact ⟨x, (List.mem_filter.1 hx).1, h1, fun k hk => (h2 k).1 hk⟩) (es ++ news) (fun x hx => by
                obtain ⟨h1, h2⟩ := hesh x hx
                refine ⟨h1, fun k hk => ?_⟩
                rcases h2 k hk with h3 | ⟨h3, y, hy, hyw, hyk⟩ | h3
                · exact .inl h3
                · exact .inr (.inl ⟨h3, y, hy, hyw, (Ent.fp_bd hag y (hbh y hy) k).1 hyk⟩)
                · exact .inr (.inr h3)) hap
              have hi2 : Inv C { st with n := n2, hp := (es ++ news) ++ setAll (dropRows st.hp gone) ms } (ρ ++ vs) a w1 := ⟨hi1.len, hi1.size, hi1.fr, hi1.bdf, hbd, hi1.defers, hr3⟩
              refine hk _ _ _ _ (by exact hput _ _) (List.prefix_append ρ vs) hg (hi2.put _ ?_)
              rcases resOf_isVal hres with ⟨x, rfl⟩ | ⟨x, rfl⟩ <;> rfl
            · exact hg.elim
        · exact hg.elim

theorem run_alloc {t : Nat} {i : TI} (hT : TIok C.P t i) : (Instr.alloc t true (.tuple #[])).run C.P w = .ok (.pointer (some ⟨w.heap.size, 0, none⟩)) (w.alloc (.cells (i.zs.map (Sc.ev ρ)).toArray t)) := by
  obtain ⟨d, inf, z, hd, hinf, -, -, hz, hzc, hzb, -⟩ := hT.ok
  have hz0 : z.cells = (i.zs.map (Sc.ev ρ)).toArray := by
    apply Array.ext'
    rw [hzc, map_ev_bd (ρ := []) (ρ' := ρ) (n := 0) (fun k hk => by omega) _ hzb]
  have e1 : (zeroValue t).run C.P w = .ok z w := by simp [go_sem, zeroValue, typeInfo, hinf, hz]
  unfold Instr.alloc
  rw [Sem.run_bind, e1]
  simp only [Result.andThen_ok, newVar, newRow, hz0]
  simp [go_sem]
theorem run_storeVar {P : Program} {t : Nat} {inf : TypeInfo} {ad : Addr} {v : Value} {arr : Array Value} (hinf : P.info? t = some inf) (hv : v.cells = arr) (hs : arr.size = inf.size) :
    (storeVar t ad v).run P w = (storeCells ad arr.toList).run P w := by
  unfold storeVar
  rw [hv]
  simp [go_sem, sizeOf, typeInfo, hinf, hs]

theorem Inv.newCells (hi : Inv C st ρ a w) {t : Nat} {cs : List Sc} (hb : cs.all (Sc.bd st.n) = true) :
    Inv C { st with n := st.n + 1, hp := .cells st.n t cs :: st.hp } (ρ ++ [.n w.heap.size]) a (w.alloc (.cells (cs.map (Sc.ev ρ)).toArray t)) := by
  have hi1 := ext0 hi (n := st.n + 1) [.n w.heap.size] (by simp) (by omega)
  have hag : Agree st.n ρ (ρ ++ [.n w.heap.size]) := by rw [← hi.len]; exact Agree.app ρ _
  have hat : (ρ ++ [V.n w.heap.size]).getD st.n (.i 0) = .n w.heap.size := by
    rw [← hi.len]; simp [List.getD_eq_getElem?_getD]
  have hh : (Ent.cells st.n t cs).holds (ρ ++ [.n w.heap.size]) (w.alloc (.cells (cs.map (Sc.ev ρ)).toArray t)) := by
    simp only [Ent.holds, hat, V.toN_n, ← map_ev_bd hag cs hb]
    show (w.heap.push _)[w.heap.size]? = _
    simp
  refine ⟨hi1.len, hi1.size, hi1.fr, hi1.bdf, ?_, hi1.defers, ?_⟩
  · simp only [List.all_cons, Bool.and_eq_true]
    refine ⟨?_, hi1.bdh⟩
    simp only [Ent.bd, Bool.and_eq_true, decide_eq_true_eq]
    exact ⟨by omega, all_bd_mono (by omega) cs hb⟩
  · refine (hi1.rel.alloc _).cons hh (fun _ k hk => ?_) (fun e he _ k hk hk' => ?_)
    · simp only [Ent.fp, hat, V.toN_n] at hk
      subst hk
      exact .inl hi.rel.mod.size
    · simp only [Ent.fp, hat, V.toN_n] at hk
      subst hk
      have := Ent.bound (hi1.rel.holds e he) hk'
      omega

theorem Inv.ptr {n : Nat} (hl : ρ.length = n) (b off : Nat) : SV.rel (ρ ++ [.n b]) (.cv (false, [.ptr n off])) (.pointer (some ⟨b, off, none⟩)) := by
  subst hl
  simp [SV.rel, SV.ev, CV.ev, Sc.ev, List.getD_eq_getElem?_getD]

theorem run_storeAt {t v ty off : Nat} {i : TI} {g : Bool} {cs old : List Sc} (hT : TIok C.P t i) (hh : (Ent.cells v ty old).holds ρ w) (hlen : cs.length = i.ks.length) (hg : g = true ∨ cs.length = 1)
    (hle : off + cs.length ≤ old.length) :
    (Instr.storeAt t (.pointer (some ⟨(ρ.getD v (.i 0)).toN, off, none⟩)) (CV.ev ρ (g, cs))).run C.P w =
      .ok () (w.setRow (ρ.getD v (.i 0)).toN ((old.take off ++ cs ++ old.drop (off + cs.length)).map (Sc.ev ρ)).toArray) := by
  obtain ⟨d, inf, z, hd, hinf, hsz, -⟩ := hT.ok
  have hc := cv_cells (ρ := ρ) hg
  have hcs : (CV.ev ρ (g, cs)).cells.size = inf.size := by rw [← Array.length_toList, hc, hsz]; simpa using hlen
  have h1 := run_storeCells_at (P := C.P) (ρ.getD v (.i 0)).toN off ty ((CV.ev ρ (g, cs)).cells.toList) 0 _ w hh (by rw [hc]; simp; omega) (by
    rw [hc]; intro x hx; simp only [List.mem_map] at hx; obtain ⟨s, -, rfl⟩ := hx; exact Sc.ev_one ρ s)
  have e2 := run_storeVar (P := C.P) (w := w) (t := t) (ad := ⟨(ρ.getD v (.i 0)).toN, off, none⟩) hinf rfl hcs
  have e3 : (Instr.sureAddr (.pointer (some ⟨(ρ.getD v (.i 0)).toN, off, none⟩))).run C.P w = .ok ⟨(ρ.getD v (.i 0)).toN, off, none⟩ w := by simp [Instr.sureAddr, go_sem]
  unfold Instr.storeAt
  rw [Sem.run_bind, e3]
  simp only [Result.andThen_ok]
  rw [e2, h1, hc]
  simp [List.map_take, List.map_drop]

theorem scOf_ok {s : SV} {x : Sc} (h : scOf s = some x) : s.ev ρ = x.ev ρ := by
  unfold scOf at h
  split at h <;> simp at h
  subst h; rfl
theorem scsOf_ok : ∀ {l : List SV} {r : List Sc}, scsOf l = some r → l.map (SV.ev ρ) = r.map (Sc.ev ρ) := by
  intro l
  induction l with
  | nil => intro r h; simp [scsOf] at h; subst h; rfl
  | cons s l ih =>
    intro r h
    simp only [scsOf, Option.bind_eq_bind, Option.bind_eq_some_iff, Option.some.injEq] at h
    obtain ⟨x, hx, y, hy, rfl⟩ := h
    simp [scOf_ok (ρ := ρ) hx, ih hy]

theorem Mod.setRow {fp : List Nat} (w : World) (g : Nat) (cs : Array Value) (h : g ∈ fp) : Mod fp w (w.setRow g cs) :=
  ⟨rfl, rfl, rfl, by simp, fun k _ hn => setRow_other w g k cs (fun e => hn (e ▸ h))⟩

theorem moveOp_ok {o : Oper} {x : Operand} {k : St → Tree} {K : Act → World → Prop} {Q : Exit → Act → World → Prop}
    (hi : Inv C st ρ a w) (hk : ∀ st' ρ' a' w', st'.d = st.d → ρ <+: ρ' → (k st').goal C ρ' L → Inv C st' ρ' a' w' → K a' w')
    (hg : (moveOp o st x k).goal C ρ L) : o.upon C.P a K Q ((pure (Next.value (a.eval x)) : Sem Next).run C.P w) := by
  have hput : ∀ (st : St) (s : SV), (st.put o.dst s).d = st.d := by intro st s; cases ho' : o.dst <;> rfl
  simp only [Sem.run_pure, Oper.upon]
  unfold moveOp at hg
  split at hg
  · rename_i t
    have hrel := hi.fr t
    split at hg
    · rename_i l hs; rw [hs] at hrel; exact hk _ _ _ _ (by exact hput _ _) List.prefix_rfl hg (hi.put _ hrel)
    · rename_i f a' b' hs; rw [hs] at hrel; exact hk _ _ _ _ (by exact hput _ _) List.prefix_rfl hg (hi.put _ hrel)
    · exact hg.elim
  · exact hk _ _ _ _ (by exact hput _ _) List.prefix_rfl hg (hi.put _ rfl)
  · exact hg.elim

set_option maxHeartbeats 1000000 in
theorem effOp_ok (hE : EnvOK C.P E) {o : Oper} {k : St → Tree} {K : Act → World → Prop} {Q : Exit → Act → World → Prop}
    (hi : Inv C st ρ a w) (hk : ∀ st' ρ' a' w', st'.d = st.d → ρ <+: ρ' → (k st').goal C ρ' L → Inv C st' ρ' a' w' → K a' w') (hg : (effOp E o st k).goal C ρ L) : o.wp C.P a w K Q := by
  have hput : ∀ (st : St) (s : SV), (st.put o.dst s).d = st.d := by intro st s; cases ho' : o.dst <;> rfl
  have hT : (X.ev ρ (.B true)).toB = true := rfl
  unfold effOp at hg
  unfold Oper.wp execOp
  split at hg
  · -- extract
    rename_i t i hop
    simp only [hop]
    have hrel := hi.fr t
    split at hg
    · rename_i l hs
      rw [hs] at hrel
      have hrel : a.eval (.tmp t) = .tuple (l.map (CV.ev ρ)).toArray := hrel
      split at hg
      · rename_i c hc
        rw [hrel]
        simp only [Instr.extract, List.getElem?_toArray, List.getElem?_map, hc, Option.map_some]
        simp only [go_sem, Sem.run_bind, Sem.run_pure, Result.andThen_ok, Oper.upon]
        exact hk _ _ _ _ (by exact hput _ _) List.prefix_rfl hg (hi.put _ rfl)
      · exact hg.elim
    · exact hg.elim
  · -- move
    rename_i x hop
    simp only [hop]
    exact moveOp_ok hi hk hg
  · -- assign
    rename_i x hop
    simp only [hop]
    exact moveOp_ok hi hk hg
  · -- alloc
    rename_i t hop
    simp only [hop]
    split at hg
    · rename_i i hti
      have hTI := hE.tab.get hti
      obtain ⟨-, -, -, -, -, -, -, -, -, hzb, -⟩ := hTI.ok
      simp only [Sem.run_bind, run_alloc (ρ := ρ) hTI, Result.andThen_ok, Sem.run_pure, Oper.upon]
      have h1 := hi.newCells (t := t) (all_bd_mono (Nat.zero_le _) _ hzb)
      exact hk _ _ _ _ (by exact hput _ _) (List.prefix_append ρ _) (hg w.heap.size) (h1.put _ (Inv.ptr hi.len _ _))
    · exact hg.elim
  · -- box
    rename_i t x hop
    simp only [hop]
    split at hg
    · rename_i g cs hx
      split at hg
      · rename_i hcond
        obtain ⟨h1, h2⟩ := hcond
        have hx := hi.rd_ok hT hx
        have hcells : (CV.ev ρ (g, cs)).cells = (cs.map (Sc.ev ρ)).toArray := by
          apply Array.ext'; rw [cv_cells h1]
        have e1 : (Instr.box t (a.eval x)).run C.P w = .ok (.pointer (some ⟨w.heap.size, 0, none⟩)) (w.alloc (.cells (cs.map (Sc.ev ρ)).toArray t)) := by
          simp only [Instr.box, newVar, newRow, hx, hcells]
          simp [go_sem]
        simp only [Sem.run_bind, e1, Result.andThen_ok, Sem.run_pure, Oper.upon]
        have h3 := hi.newCells (t := t) h2
        exact hk _ _ _ _ (by exact hput _ _) (List.prefix_append ρ _) (hg w.heap.size) (h3.put _ (Inv.ptr hi.len _ _))
      · exact hg.elim
    · exact hg.elim
  · -- store
    rename_i t ad x hop
    simp only [hop]
    split at hg
    · rename_i v off g cs i had hx hti
      split at hg
      · rename_i ty old hc
        split at hg
        · rename_i hcond
          obtain ⟨h1, h2, h3, h4⟩ := hcond
          have hx := hi.rd_ok hT hx
          have had := hi.rd_ok hT had
          simp only [CV.ev, Sc.ev] at had
          have hmem := findCells_mem hc
          have hh := hi.rel.holds _ hmem
          have e1 := run_storeAt (C := C) (w := w) (g := g) (hE.tab.get hti) hh h1 h2 h3
          simp only [had, hx, Sem.run_bind, e1, Result.andThen_ok, Sem.run_pure, Oper.upon]
          have hob := List.all_eq_true.1 hi.bdh _ hmem
          simp only [Ent.bd, Bool.and_eq_true] at hob
          have hbn : (old.take off ++ cs ++ old.drop (off + cs.length)).all (Sc.bd st.n) = true := by
            rw [List.all_eq_true] at *
            intro y hy
            simp only [List.mem_append] at hy
            rcases hy with (hy | hy) | hy
            · exact hob.2 y (List.mem_of_mem_take hy)
            · exact h4 y hy
            · exact hob.2 y (List.mem_of_mem_drop hy)
          have hr := hi.rel.update (ty := ty) (cs := old.take off ++ cs ++ old.drop (off + cs.length)) hmem (Mod.setRow w _ _ (List.mem_singleton.2 rfl)) (by
            simp only [Ent.holds]
            exact setRow_heap w _ _ _ _ _ hh)
          have hi2 := hi.heap (setCells_bd hi.bdh hbn) hr
          exact hk _ _ _ _ (by exact hput _ _) List.prefix_rfl hg (hi2.put _ rfl)
        · exact hg.elim
      · exact hg.elim
    · exact hg.elim
  · -- makeFunc
    rename_i f first caps hop
    simp only [hop]
    split at hg
    · rename_i l1 l2 h1 h2
      simp only [Option.bind_eq_some_iff] at h1 h2
      obtain ⟨r1, h1, h1'⟩ := h1
      obtain ⟨r2, h2, h2'⟩ := h2
      have e1 := hi.rdAll_ok hT h1
      have e2 := hi.rdAll_ok hT h2
      rw [scsOf_ok h1'] at e1
      rw [scsOf_ok h2'] at e2
      have m1 : first.map a.eval = (l1.map (Sc.ev ρ)).toArray := by apply Array.ext'; simpa using e1
      have m2 : caps.map a.eval = (l2.map (Sc.ev ρ)).toArray := by apply Array.ext'; simpa using e2
      simp only [Instr.makeFunc, m1, m2, Sem.run_bind, Sem.run_pure, Result.andThen_ok, Oper.upon]
      exact hk _ _ _ _ (by exact hput _ _) List.prefix_rfl hg (hi.put _ rfl)
    · exact hg.elim
  · exact hg.elim

end Go.Sx
