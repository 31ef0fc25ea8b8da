/-
  A small verified symbolic executor (part E: the operations that change no memory do what they say). By an AI agent.
-/
import Derived.Test.YtliedecinehijaaDoorSxD
set_option linter.unusedSimpArgs false
set_option linter.unusedVariables false
namespace Go.Sx
open Go
variable {P : Program} {T : Tab} {ρ : List V} {hp : List Ent} {w : World}

theorem run_loadCells (w : World) (a : Addr) : ∀ (n i : Nat) (vs : List Value) (acc : Array Value), vs.length = n → (∀ j u, vs[j]? = some u → w.cell? (a.add (i + j)) = some u) → (loadCellsFrom a i n acc).run P w = .ok (acc ++ vs.toArray) w
  | 0, i, [], acc, _, _ => by simp [loadCellsFrom, go_sem]
  | n + 1, i, v :: vs, acc, hl, h => by
    have h0 : w.cell? (a.add i) = some v := by simpa using h 0 v rfl
    have := run_loadCells w a n (i + 1) vs (acc.push v) (by simpa using hl) (fun j u hu => by have := h (j + 1) u (by simpa using hu); rw [← this]; congr 2; omega)
    simp [loadCellsFrom, go_sem, h0, this]

theorem add_zero' (a : Addr) : a.add 0 = a := by simp [Addr.add]
theorem add_add' (a : Addr) (i j : Nat) : (a.add i).add j = a.add (i + j) := by
  simp only [Addr.add]
  by_cases hi : i = 0 <;> by_cases hj : j = 0 <;> simp [hi, hj] <;> omega
theorem add_mk (b o j : Nat) : (⟨b, o, none⟩ : Addr).add j = ⟨b, o + j, none⟩ := by
  simp only [Addr.add]; split <;> simp_all

theorem run_loadVar (t : Nat) (d : TypeDesc) (inf : TypeInfo) (a : Addr) (vs : List Value) (hd : P.underlying t = some d) (hi : P.info? t = some inf) (hs : inf.size = vs.length)
    (hv : ∀ j u, vs[j]? = some u → w.cell? (a.add j) = some u) (h1 : isAggD d = false → vs.length = 1) :
    (Instr.loadAt t (.pointer (some a))).run P w = .ok (if isAggD d then .agg vs.toArray else vs.getD 0 undef) w := by
  have hl := run_loadCells (P := P) w a vs.length 0 vs #[] rfl (fun j u hu => by simpa using hv j u hu)
  by_cases hg : isAggD d = true
  · cases d <;> simp [isAggD] at hg <;> simp [Instr.loadAt, go_sem, run_underlying hd, loadVar, isAgg, loadCells, hi, hs, hl, sizeOf, typeInfo, isAggD]
  · have hg : isAggD d = false := by simpa using hg
    have h1 := h1 hg
    match vs, h1 with
    | [v], _ =>
      have hv0 : w.cell? a = some v := by simpa [add_zero'] using hv 0 v rfl
      cases d <;> simp [isAggD] at hg <;> simp [Instr.loadAt, go_sem, run_underlying hd, loadVar, isAgg, hv0, isAggD]

theorem cells_cell {v ty : Nat} {cs : List Sc} (hh : (Ent.cells v ty cs).holds ρ w) {off j : Nat} {s : Sc} (hs : cs[off + j]? = some s) :
    w.cell? ((⟨(ρ.getD v (.i 0)).toN, off, none⟩ : Addr).add j) = some (s.ev ρ) := by
  rw [add_mk, cell_of_row w _ _ _ _ _ hh]
  simp [hs]

theorem cvEv_of {g : Bool} {cs : List Sc} (h1 : g = false → cs.length = 1) : CV.ev ρ (g, cs) = if g then .agg (cs.map (Sc.ev ρ)).toArray else (cs.map (Sc.ev ρ)).getD 0 undef := by
  cases g
  · match cs, h1 rfl with
    | [s], _ => simp [CV.ev]
  · simp [CV.ev]

theorem elemCells_length (r i : X) : ∀ (ks : List Kd) (c : Nat), (elemCells r i c ks).length = ks.length
  | [], _ => rfl
  | _ :: ks, c => by simp [elemCells, elemCells_length r i ks (c + 1)]
theorem elemCells_get (r i : X) : ∀ (ks : List Kd) (c j : Nat) (k : Kd), ks[j]? = some k → k.ok (((r.ev ρ).toR.getD (i.ev ρ).toI.toNat []).getD (c + j) undef) →
    ((elemCells r i c ks)[j]?).map (Sc.ev ρ) = some (((r.ev ρ).toR.getD (i.ev ρ).toI.toNat []).getD (c + j) undef)
  | k0 :: ks, c, 0, k, hk, ho => by
    simp at hk; subst hk
    simp only [elemCells, List.getElem?_cons_zero, Option.map_some, Nat.add_zero] at ho ⊢
    cases k0 <;> simp only [Kd.ok] at ho <;> simp only [Sc.ev, X.ev, V.toI_i, V.toB_b, V.toS_s, V.toV_v]
    · obtain ⟨n, hn⟩ := ho; rw [hn]; rfl
    · obtain ⟨n, hn⟩ := ho; rw [hn]; rfl
    · obtain ⟨n, hn⟩ := ho; rw [hn]; simp [Value.gS]
    · rw [sc1_of _ ho]
    · rw [sc1_of _ ho]
  | k0 :: ks, c, j + 1, k, hk, ho => by
    have := elemCells_get r i ks (c + 1) j k (by simpa using hk) (by rw [show c + 1 + j = c + (j + 1) by omega]; exact ho)
    rw [show c + 1 + j = c + (j + 1) by omega] at this
    simpa [elemCells] using this

theorem loadAt_ok (hT : TabOK P T) (hr : Hold ρ hp w) {t : Nat} {a : Sc} {ns : List X} {c : CV} (h : loadAt T hp t a = some (ns, c)) (hn : Needs ρ ns) :
    (Instr.loadAt t (a.ev ρ)).run P w = .ok (CV.ev ρ c) w := by
  simp only [loadAt, Option.bind_eq_bind, Option.bind_eq_some_iff] at h
  obtain ⟨i, hi, h⟩ := h
  obtain ⟨d, inf, z, hd, hinf, hsz, -, -, -, -, hzl, hag, -, h1, -⟩ := (hT.get hi).ok
  cases a <;> try (simp at h; done)
  case ptr v off =>
    simp only [Option.bind_eq_some_iff] at h
    obtain ⟨⟨ty, cs⟩, hc, h⟩ := h
    simp only [Option.ite_none_right_eq_some, Option.some.injEq, Prod.mk.injEq] at h
    obtain ⟨hle, rfl, rfl⟩ := h
    have hh := hr _ (findCells_mem hc)
    have hlen : (((cs.drop off).take i.ks.length).map (Sc.ev ρ)).length = i.ks.length := by simp; omega
    have := run_loadVar (P := P) (w := w) t d inf ⟨(ρ.getD v (.i 0)).toN, off, none⟩ (((cs.drop off).take i.ks.length).map (Sc.ev ρ)) hd hinf (by rw [hsz, hlen]) (fun j u hu => by
      simp only [List.getElem?_map, Option.map_eq_some_iff] at hu
      obtain ⟨s, hs, rfl⟩ := hu
      exact cells_cell hh (by simp only [List.getElem?_take] at hs; split at hs <;> simp_all)) (fun hg => by rw [hlen]; rw [← hzl]; exact h1 (by rw [← hag]; exact hg))
    simp only [Sc.ev]
    rw [this, cvEv_of (fun hg => by have := h1 hg; simp; omega), hag]
  case eptr v esz ix c0 =>
    simp only [Option.bind_eq_some_iff] at h
    obtain ⟨⟨ks, r⟩, hf, h⟩ := h
    simp only [Option.ite_none_right_eq_some, Option.some.injEq, Prod.mk.injEq] at h
    obtain ⟨⟨rfl, hle, hpos⟩, rfl, rfl⟩ := h
    obtain ⟨ad, cap, hv, h0, hlt⟩ := hr.toRow hf hn
    have hrd := findRow_ok hr hf
    have hlen : ((elemCells r ix c0 ((ks.drop c0).take i.ks.length)).map (Sc.ev ρ)).length = i.ks.length := by simp [elemCells_length]; omega
    have := run_loadVar (P := P) (w := w) t d inf (ad.add ((ix.ev ρ).toI.toNat * ks.length + c0)) ((elemCells r ix c0 ((ks.drop c0).take i.ks.length)).map (Sc.ev ρ)) hd hinf (by rw [hsz, hlen]) (fun j u hu => by
      have hj : j < i.ks.length := by rw [← hlen]; exact (List.getElem?_eq_some_iff.1 hu).1
      have hcj : c0 + j < ks.length := by omega
      obtain ⟨ad', cap', hv', hcell, hok⟩ := hrd.get (i := (ix.ev ρ).toI.toNat) (c := c0 + j) (by omega) hcj
      rw [hv] at hv'
      simp only [Value.slice.injEq, Option.some.injEq] at hv'
      obtain ⟨rfl, -, -⟩ := hv'
      have hget := elemCells_get (ρ := ρ) r ix ((ks.drop c0).take i.ks.length) c0 j ks[c0 + j] (by simp [hj, List.getElem?_eq_getElem hcj]) hok
      rw [List.getElem?_map, hget] at hu
      rw [add_add', Nat.add_assoc, hcell]
      exact hu) (fun hg => by rw [hlen]; rw [← hzl]; exact h1 (by rw [← hag]; exact hg))
    simp only [Sc.ev, hv]
    rw [this, cvEv_of (fun hg => by have := h1 hg; simp [elemCells_length]; omega), hag]

theorem binInt_ok {op : BinOp} {k : IntKind} {x y : X} {ns : List X} {c : CV} (h : binInt op k x y = some (ns, c)) (hn : Needs ρ ns) (t : Nat) (ox oy : Operand) :
    (do Go.eqGuard op t ox oy (.int k (x.ev ρ).toI) (.int k (y.ev ρ).toI); Go.binOp op t (.int k (x.ev ρ).toI) (.int k (y.ev ρ).toI) : Sem Value).run P w = .ok (CV.ev ρ c) w := by
  cases op <;> simp only [binInt, Option.some.injEq, Prod.mk.injEq] at h <;> obtain ⟨rfl, rfl⟩ := h <;> simp only [CV.ev, Sc.ev]
  case add => rw [ranged_ok hn]; simp [Go.eqGuard, Go.binOp, Op.intArith, go_sem, X.ev]
  case sub => rw [ranged_ok hn]; simp [Go.eqGuard, Go.binOp, Op.intArith, go_sem, X.ev]
  case mul => rw [ranged_ok hn]; simp [Go.eqGuard, Go.binOp, Op.intArith, go_sem, X.ev]
  case quo =>
    obtain ⟨h12, h3⟩ := hn.app
    obtain ⟨h1, h2⟩ := h12.app
    have h1 := needLo_ok h1
    have h2 := needHi_ok h2
    have h3 := needLo_ok h3
    have hy : (y.ev ρ).toI ≠ 0 := by omega
    have e : ((x.ev ρ).toI.tdiv (y.ev ρ).toI) = (x.ev ρ).toI / (y.ev ρ).toI := Int.tdiv_eq_ediv_of_nonneg h1
    have b1 := Int.ediv_nonneg h1 (show 0 ≤ (y.ev ρ).toI by omega)
    have b2 := Int.ediv_le_self (y.ev ρ).toI h1
    have hw := wrap_in k ((x.ev ρ).toI / (y.ev ρ).toI) (by cases k <;> simp only [kmin] <;> omega) (by omega)
    simp [Go.eqGuard, Go.binOp, Op.intDiv, go_sem, X.ev, hy, e, hw]
  case rem =>
    obtain ⟨h1, h3⟩ := hn.app
    have h1 := needLo_ok h1
    have h3 := needLo_ok h3
    have hy : (y.ev ρ).toI ≠ 0 := by omega
    have e : ((x.ev ρ).toI.tmod (y.ev ρ).toI) = (x.ev ρ).toI % (y.ev ρ).toI := Int.tmod_eq_emod_of_nonneg h1
    simp [Go.eqGuard, Go.binOp, Op.intDiv, go_sem, X.ev, hy, e]
  case shl =>
    have h1 := needLo_ok hn
    have : ¬ (y.ev ρ).toI < 0 := by omega
    simp [Go.eqGuard, Go.binOp, Op.shift, go_sem, X.ev, this]
  case shr =>
    have h1 := needLo_ok hn
    have : ¬ (y.ev ρ).toI < 0 := by omega
    simp [Go.eqGuard, Go.binOp, Op.shift, go_sem, X.ev, this]
  all_goals first
    | (simp [Go.eqGuard, Go.binOp, Op.intCmp, Op.intBits, go_sem, X.ev, ibits]; done)
    | (simp [Go.eqGuard, Go.binOp, Op.intCmp, go_sem, X.ev]; rw [Bool.eq_iff_iff]; simp)
theorem binSh_ok {op : BinOp} {k k' : IntKind} {x y : X} {ns : List X} {c : CV} (h : binSh op k x y = some (ns, c)) (hn : Needs ρ ns) (t : Nat) (ox oy : Operand) :
    (do Go.eqGuard op t ox oy (.int k (x.ev ρ).toI) (.int k' (y.ev ρ).toI); Go.binOp op t (.int k (x.ev ρ).toI) (.int k' (y.ev ρ).toI) : Sem Value).run P w = .ok (CV.ev ρ c) w := by
  cases op <;> simp only [binSh, Option.some.injEq, Prod.mk.injEq, reduceCtorEq] at h <;> obtain ⟨rfl, rfl⟩ := h <;> simp only [CV.ev, Sc.ev]
  all_goals
    have h1 := needLo_ok hn
    have : ¬ (y.ev ρ).toI < 0 := by omega
    simp [Go.eqGuard, Go.binOp, Op.shift, go_sem, X.ev, this]
theorem binStr_ok {op : BinOp} {x y : X} {ns : List X} {c : CV} (h : binStr op x y = some (ns, c)) (hn : Needs ρ ns) (t : Nat) (ox oy : Operand) :
    (do Go.eqGuard op t ox oy (.string ⟨(x.ev ρ).toS.toArray⟩) (.string ⟨(y.ev ρ).toS.toArray⟩); Go.binOp op t (.string ⟨(x.ev ρ).toS.toArray⟩) (.string ⟨(y.ev ρ).toS.toArray⟩) : Sem Value).run P w = .ok (CV.ev ρ c) w := by
  cases op <;> simp only [binStr, Option.some.injEq, Prod.mk.injEq, reduceCtorEq] at h <;> obtain ⟨rfl, rfl⟩ := h <;> simp only [CV.ev, Sc.ev]
  case add =>
    have h1 : (((x.ev ρ).toS.length : Int) + (y.ev ρ).toS.length) ≤ 9223372036854775807 := of_decide_eq_true (hn _ (List.mem_singleton.2 rfl))
    have h2 : ¬ 9223372036854775807 < (((x.ev ρ).toS.length : Int) + (y.ev ρ).toS.length) := by omega
    simp [Go.eqGuard, Go.binOp, Op.stringOp, go_sem, X.ev, h2, str_app]
  all_goals
    simp [Go.eqGuard, Go.binOp, Op.stringOp, go_sem, X.ev]
    try (rw [Bool.eq_iff_iff]; simp)

theorem binSc_ok {op : BinOp} {a b : Sc} {ns : List X} {c : CV} (h : binSc op a b = some (ns, c)) (hn : Needs ρ ns) (t : Nat) (x y : Operand) :
    (do Go.eqGuard op t x y (a.ev ρ) (b.ev ρ); Go.binOp op t (a.ev ρ) (b.ev ρ) : Sem Value).run P w = .ok (CV.ev ρ c) w := by
  unfold binSc at h
  split at h
  · split at h
    · rename_i hk; subst hk; exact binInt_ok h hn t x y
    · exact binSh_ok h hn t x y
  · exact binStr_ok h hn t x y
  · cases h

end Go.Sx
