/-
  A small verified symbolic executor (part G: the law of the operations that change no memory). By an AI agent.
-/
import Derived.Test.YtliedecinehijaaDoorSxF
set_option linter.unusedSimpArgs false
set_option linter.unusedVariables false
namespace Go.Sx
open Go
variable {P : Program} {T : Tab} {ρ : List V} {hp : List Ent} {w : World}

theorem slice_ok {t : Nat} {l : List UInt8} {lo hi : Option Value} {a b : Int} (ht : P.underlying t = some .string)
    (hlo : ∀ v, lo = some v → ∃ k, v = .int k a) (hhi : ∀ v, hi = some v → ∃ k, v = .int k b) (h1 : lo = none → a = 0) (h2 : hi = none → b = l.length)
    (ha : 0 ≤ a) (hab : a ≤ b) (hb : b ≤ l.length) :
    (Instr.sliceAt t (.string ⟨l.toArray⟩) lo hi none).run P w = .ok (.string ⟨((l.take b.toNat).drop a.toNat).toArray⟩) w := by
  have hb0 : 0 ≤ b := by omega
  have e1 : b ≤ ((⟨l.toArray⟩ : ByteArray).size : Nat) := by rw [str_size]; exact hb
  have key : (Instr.sliceAt t (.string ⟨l.toArray⟩) lo hi none).run P w = .ok (.string ((⟨l.toArray⟩ : ByteArray).extract a.toNat b.toNat)) w := by
    cases lo <;> cases hi
    · have := h1 rfl; subst this; have := h2 rfl; subst this
      simp [Instr.sliceAt, Instr.slice, Instr.sliceBounds, go_sem, run_underlying ht]
      rw [str_ext]; simp
    · obtain ⟨k, rfl⟩ := hhi _ rfl
      have := h1 rfl; subst this
      have e2 : b ≤ ((l.length : Nat) : Int) := hb
      simp [Instr.sliceAt, Instr.slice, Instr.sliceBounds, Instr.sliceBound, asIntOf, go_sem, run_underlying ht, hb0, e2]
    · obtain ⟨k, rfl⟩ := hlo _ rfl
      have := h2 rfl; subst this
      have e2 : a ≤ ((l.length : Nat) : Int) := hab
      simp [Instr.sliceAt, Instr.slice, Instr.sliceBounds, Instr.sliceBound, asIntOf, go_sem, run_underlying ht, ha, e2]
    · obtain ⟨k, rfl⟩ := hlo _ rfl
      obtain ⟨k', rfl⟩ := hhi _ rfl
      obtain ⟨n, rfl⟩ := Int.eq_ofNat_of_zero_le hb0
      obtain ⟨m, rfl⟩ := Int.eq_ofNat_of_zero_le ha
      have e2 : n ≤ l.length := by omega
      have e3 : m ≤ n := by omega
      simp [Instr.sliceAt, Instr.slice, Instr.sliceBounds, Instr.sliceBound, asIntOf, go_sem, run_underlying ht, e2, e3]
  rw [key, str_ext]

theorem index_ok {t : Nat} {l : List UInt8} {k : IntKind} {i : Int} (ht : P.underlying t = some .string) (h0 : 0 ≤ i) (h1 : i < l.length) :
    (Instr.index t (.string ⟨l.toArray⟩) (.int k i)).run P w = .ok (.int .u8 ((l.getD i.toNat 0).toNat : Int)) w := by
  have h2 : i.toNat < l.length := by omega
  have e : (⟨l.toArray⟩ : ByteArray)[i.toNat]? = some l[i.toNat] := by
    rw [getElem?_pos _ _ (by simpa [ByteArray.size] using h2)]
    simp [ByteArray.getElem_eq_getElem_data]
  simp [Instr.index, asIntOf, go_sem, run_underlying ht, h0, e, List.getD_eq_getElem?_getD, List.getElem?_eq_getElem h2]

theorem equalIn_bool (n t : Nat) (a b : Bool) (ht : P.underlying t = some .bool) : (Op.equalIn (n + 1) t (.bool a) (.bool b)).run P w = .ok (a == b) w := by
  simp only [Op.equalIn]
  simp [go_sem, run_underlying ht]
theorem equalIn_int (n t : Nat) (k k' : IntKind) (a b : Int) (ht : P.underlying t = some (.int k')) : (Op.equalIn (n + 1) t (.int k a) (.int k b)).run P w = .ok (a == b) w := by
  simp only [Op.equalIn]
  simp [go_sem, run_underlying ht]
theorem equalIn_str (n t : Nat) (a b : List UInt8) (ht : P.underlying t = some .string) : (Op.equalIn (n + 1) t (.string ⟨a.toArray⟩) (.string ⟨b.toArray⟩)).run P w = .ok (decide (a = b)) w := by
  simp only [Op.equalIn]
  simp [go_sem, run_underlying ht, str_eq]
theorem eql_bool (t : Nat) (a b : Bool) (x y : Operand) (ht : P.underlying t = some .bool) : (do Go.eqGuard .eql t x y (.bool a) (.bool b); Go.binOp .eql t (.bool a) (.bool b) : Sem Value).run P w = .ok (.bool (a == b)) w := by
  have := equalIn_bool (w := w) 9999 t a b ht
  simp only [Go.binOp, Op.equal, Op.maxDepth]
  simp [Go.eqGuard, go_sem, this]
theorem neq_bool (t : Nat) (a b : Bool) (x y : Operand) (ht : P.underlying t = some .bool) : (do Go.eqGuard .neq t x y (.bool a) (.bool b); Go.binOp .neq t (.bool a) (.bool b) : Sem Value).run P w = .ok (.bool (!(a == b))) w := by
  have := equalIn_bool (w := w) 9999 t a b ht
  simp only [Go.binOp, Op.equal, Op.maxDepth]
  simp [Go.eqGuard, go_sem, this]

theorem partSc_ok {t off : Nat} {d : TypeDesc} {cs : List Sc} {a : Sc} (hd : P.underlying t = some d) (hg : isAggD d = false) (ha : cs[off]? = some a) :
    (part t (cs.map (Sc.ev ρ)).toArray off).run P w = .ok (a.ev ρ) w := by
  have hv : ((cs.map (Sc.ev ρ)).toArray)[off]? = some (a.ev ρ) := by simp [ha]
  cases d <;> simp [isAggD] at hg <;> simp only [part, Sem.run_bind, isAgg] <;> simp [go_sem, run_underlying hd, hv]
theorem eqFldSc_ok (hT : TabOK P T) {d ty : Nat} {a b : Sc} {e : X} (h : eqFldSc T ty a b = some e) :
    ∃ u, P.underlying ty = some u ∧ isAggD u = false ∧ (Op.equalIn (d + 1) ty (a.ev ρ) (b.ev ρ)).run P w = .ok (e.ev ρ).toB w := by
  unfold eqFldSc at h
  split at h
  · rename_i k0 k x k' y ht
    simp only [Option.ite_none_right_eq_some, Option.some.injEq] at h
    obtain ⟨rfl, rfl⟩ := h
    obtain ⟨u, hu, ht⟩ := hT.tag ht
    have := tag_int ht; subst this
    refine ⟨_, hu, rfl, ?_⟩
    simp only [Sc.ev, equalIn_int d ty _ _ _ _ hu, X.ev, V.toB_b]
    first | rfl | (congr 1; rw [Bool.eq_iff_iff]; simp; done)
  · rename_i x y ht
    simp only [Option.some.injEq] at h
    subst h
    obtain ⟨u, hu, ht⟩ := hT.tag ht
    have := tag_bool ht; subst this
    refine ⟨_, hu, rfl, ?_⟩
    simp only [Sc.ev, equalIn_bool d ty _ _ hu, X.ev, V.toB_b]
    first | rfl | (congr 1; rw [Bool.eq_iff_iff]; simp; done)
  · rename_i x y ht
    simp only [Option.some.injEq] at h
    subst h
    obtain ⟨u, hu, ht⟩ := hT.tag ht
    have := tag_str ht; subst this
    refine ⟨_, hu, rfl, ?_⟩
    simp only [Sc.ev, equalIn_str d ty _ _ hu, X.ev, V.toB_b]
  · cases h
theorem eqFlds_ok (hT : TabOK P T) {d : Nat} {cs ds : List Sc} : ∀ {fl : List (Nat × Nat × Nat × Bool)} {fs : List Field} {e : X}, fl.length = fs.length →
    (∀ (n : Nat) p, fl[n]? = some p → ∃ f, fs[n]? = some f ∧ f.offset = p.1 ∧ f.type = p.2.1 ∧ (f.name ≠ "_")) → eqFlds T cs ds fl = some e →
    (Op.eqFields (d + 1) (cs.map (Sc.ev ρ)).toArray (ds.map (Sc.ev ρ)).toArray fs).run P w = .ok (e.ev ρ).toB w := by
  intro fl
  induction fl with
  | nil =>
    intro fs e hl _ h
    simp [eqFlds] at h; subst h
    cases fs
    · simp [Op.eqFields, X.ev]
    · simp at hl
  | cons p fl ih =>
    intro fs e hl hp h
    obtain ⟨off, ty, sz, ag⟩ := p
    cases fs with
    | nil => simp at hl
    | cons f fs =>
      simp only [eqFlds, Option.bind_eq_bind, Option.bind_eq_some_iff, Option.some.injEq] at h
      obtain ⟨a, ha, b, hb, e1, he1, e2, he2, rfl⟩ := h
      obtain ⟨f', hf', h1, h2, h3⟩ := hp 0 _ rfl
      simp at hf'; subst hf'
      have h1 : f.offset = off := h1
      have h2 : f.type = ty := h2
      obtain ⟨u, hu, hag, heq⟩ := eqFldSc_ok (P := P) (w := w) (ρ := ρ) (d := d) hT he1
      have hr := ih (by simpa using hl) (fun n p hn => by simpa using hp (n + 1) p (by simpa using hn)) he2
      rw [Op.eqFields, if_pos h3]
      simp only [h1, h2, Sem.run_bind, partSc_ok hu hag ha, partSc_ok hu hag hb, Result.andThen_ok, heq, mkAnd_ok]
      cases (e1.ev ρ).toB
      · simp
      · simpa using hr
theorem eqAgg_ok (hT : TabOK P T) {t : Nat} {cs ds : List Sc} {e : X} (h : eqAgg T t cs ds = some e) :
    (Op.equalIn 10000 t (.agg (cs.map (Sc.ev ρ)).toArray) (.agg (ds.map (Sc.ev ρ)).toArray)).run P w = .ok (e.ev ρ).toB w ∧ P.eqGuardType P.depth t = false := by
  unfold eqAgg at h
  split at h
  · rename_i i hi
    split at h
    · rename_i heq
      obtain ⟨h1, h2⟩ := (hT.get hi).cmp heq
      obtain ⟨d, inf, z, hd, -, -, -, -, -, -, -, -, htag, -⟩ := (hT.get hi).ok
      split at h
      · rename_i fl hfl
        rw [hfl] at htag
        cases d <;> simp only [tagOK] at htag
        rename_i fs
        obtain ⟨t1, t2⟩ := htag
        have hfo : P.fieldsOf t = fs := by simp [Program.fieldsOf, hd]
        refine ⟨?_, h2⟩
        rw [show (10000 : Nat) = 9999 + 1 from rfl, run_equalIn_struct w 9999 t _ _ (by rw [hfo]; exact hd) h1, hfo]
        exact eqFlds_ok (d := 9998) hT (by simpa using t1) (fun n p hn => by
          obtain ⟨f, d, i, q1, q2, q3, q4, -⟩ := t2 n p hn
          exact ⟨f, by simpa using q1, q2, q3, q4⟩) h
      · cases h
    · cases h
  · cases h

theorem needLe_ok {x y : X} (h : Needs ρ (needLe x y)) : (x.ev ρ).toI ≤ (y.ev ρ).toI := by
  unfold needLe at h
  split at h
  · rename_i e; subst e; exact Int.le_refl _
  · split at h
    · rename_i a b ha hb
      have := X.hi_ok ρ x a ha
      have := X.lo_ok ρ y b hb
      split at h
      · omega
      · exact of_decide_eq_true (h _ (List.mem_singleton.2 rfl))
    · exact of_decide_eq_true (h _ (List.mem_singleton.2 rfl))
theorem bndOf_ok {g : Operand → Option CV} {e : Operand → Value} (hg : ∀ x c, g x = some c → e x = CV.ev ρ c) {d : X} {lo : Option Operand} {l : X} (h : bndOf g d lo = some l) :
    (∀ v, lo.map e = some v → ∃ k, v = .int k (l.ev ρ).toI) ∧ (lo.map e = none → l = d) := by
  cases lo with
  | none => simp [bndOf] at h; simp [h]
  | some x =>
    simp only [bndOf] at h
    split at h
    · rename_i k l' hx
      simp only [Option.some.injEq] at h; subst h
      have := hg _ _ hx
      simp only [CV.ev, Sc.ev] at this
      simp [this]
    · cases h
theorem conv_int {src dst : Nat} {k k' : IntKind} {n : Int} {d : TypeDesc} (hs : P.underlying src = some d) (hd : P.underlying dst = some (.int k)) : (convert src dst (.int k' n)).run P w = .ok (.int k (k.wrap n)) w := by
  simp [convert, go_sem, run_underlying hs, run_underlying hd, Conv.intToInt]
theorem conv_str {src dst : Nat} {s : ByteArray} {d : TypeDesc} (hs : P.underlying src = some d) (hd : P.underlying dst = some .string) : (convert src dst (.string s)).run P w = .ok (.string s) w := by
  cases d <;> simp [convert, go_sem, run_underlying hs, run_underlying hd]

theorem fieldAt_ok {t n : Nat} {fs : Array Field} {f : Field} {i : TypeInfo} {a : Addr} (hd : P.underlying t = some (.struct fs)) (hf : fs[n]? = some f) (hi : P.info? f.type = some i) (h0 : i.size ≠ 0) :
    (Instr.fieldAt t (.pointer (some a)) n).run P w = .ok (.pointer (some (a.add f.offset))) w := by
  simp [Instr.fieldAt, go_sem, run_underlying hd, hf, hi, fieldPlace, sizeOf, typeInfo, h0, Instr.sureAddr]
theorem field_ok {t n : Nat} {fs : Array Field} {f : Field} {cs : Array Value} (hd : P.underlying t = some (.struct fs)) (hf : fs[n]? = some f) :
    (Instr.field t (.agg cs) n).run P w = (part f.type cs f.offset).run P w := by
  simp [Instr.field, go_sem, run_underlying hd, hf, asAgg]
theorem part_agg {t off : Nat} {d : TypeDesc} {i : TypeInfo} {cs : Array Value} (hd : P.underlying t = some d) (hi : P.info? t = some i) (hg : isAggD d = true) :
    (part t cs off).run P w = .ok (.agg (cs.extract off (off + i.size))) w := by
  cases d <;> simp [isAggD] at hg <;> simp [part, isAgg, go_sem, run_underlying hd, sizeOf, typeInfo, hi]
theorem part_one {t off : Nat} {d : TypeDesc} {cs : Array Value} {v : Value} (hd : P.underlying t = some d) (hg : isAggD d = false) (hv : cs[off]? = some v) :
    (part t cs off).run P w = .ok v w := by
  cases d <;> simp [isAggD] at hg <;> simp [part, isAgg, go_sem, run_underlying hd, hv]
theorem indexAt_ok {t e : Nat} {inf : TypeInfo} {ad : Addr} {n cap : Nat} {k : IntKind} {i : Int} (hd : P.underlying t = some (.slice e)) (hi : P.info? e = some inf) (h0 : 0 ≤ i) (h1 : i < n) :
    (Instr.indexAt t (.slice (some ad) n cap) (.int k i)).run P w = .ok (.pointer (some (ad.add (i.toNat * inf.size)))) w := by
  simp [Instr.indexAt, asIntOf, go_sem, run_underlying hd, sizeOf, typeInfo, hi, h0, h1]
theorem build_ok {t : Nat} {fs : Array Field} {inf : TypeInfo} {z : Value} {fl : List (Nat × Nat × Nat × Bool)} {zs cs : List Sc} {parts : Array (Nat × Operand)} {e : Operand → Value} {ps : List (Nat × CV)}
    (hd : P.underlying t = some (.struct fs)) (hi : P.info? t = some inf) (hz : inf.zero = some z) (hz0 : z.cells = (zs.map (Sc.ev ρ)).toArray)
    (hpl : ∀ G : Field → Sem (Nat × Nat), (∀ f i, P.info? f.type = some i → (G f).run P w = .ok (f.offset, i.size) w) → (fs.mapM G).run P w = .ok (fl.map fun p => (p.1, p.2.2.1)).toArray w)
    (hparts : parts.map (fun (p : Nat × Operand) => (p.1, e p.2)) = (ps.map fun p => (p.1, CV.ev ρ p.2)).toArray)
    (hfill : Instr.fill (fun n => ((fl.map fun p => (p.1, p.2.2.1)).toArray)[n]?) (zs.map (Sc.ev ρ)).toArray (ps.map fun p => (p.1, CV.ev ρ p.2)) = some (cs.map (Sc.ev ρ)).toArray) :
    (Instr.build t (parts.map fun (p : Nat × Operand) => (p.1, e p.2))).run P w = .ok (CV.ev ρ (true, cs)) w := by
  have h := hpl (fun f => do pure (f.offset, ← sizeOf f.type)) (fun f i hi => by simp [go_sem, sizeOf, typeInfo, hi])
  rw [hparts]
  have e1 : (zeroValue t).run P w = .ok z w := by simp [go_sem, zeroValue, typeInfo, hi, hz]
  have e2 := run_underlying hd w
  have e3 : ∀ (k : Sem Value) (x : Option (Array Value)) (y : Array Value), x = some y → (match x with | some cells => (pure (.agg cells) : Sem Value) | _ => k).run P w = .ok (.agg y) w := by
    rintro k _ y rfl; simp [go_sem]
  unfold Instr.build
  rw [Sem.run_bind, e1]
  simp only [Result.andThen]
  rw [Sem.run_bind, e2]
  simp only [Result.andThen]
  rw [Sem.run_bind, h]
  simp only [Result.andThen, List.toList_toArray, hz0]
  exact e3 _ _ _ hfill

theorem slice_at (hT : TabOK P T) (hr : Hold ρ hp w) {t e v : Nat} {p : List Kd × X} (ht : T.tag t = some (.slice e)) (hf : findRow hp v = some p) :
    P.underlying t = some (.slice e) ∧ ∃ a n c, (ρ.getD v (.i 0)).toV = .slice a n c := by
  obtain ⟨d, hd, ht⟩ := hT.tag ht
  have := tag_slice ht; subst this
  obtain ⟨ks, r⟩ := p
  obtain ⟨_, a, cap, hv, _⟩ := findRow_ok hr hf
  exact ⟨hd, a, _, cap, hv⟩
set_option maxHeartbeats 2000000 in
theorem pureOp_ok (hT : TabOK P T) (hr : Hold ρ hp w) {g : Operand → Option CV} {e : Operand → Value} (hg : ∀ x c, g x = some c → e x = CV.ev ρ c)
    {o : Oper} {ns : List X} {c : CV} (h : pureOp T hp g o.op = some (ns, c)) (hn : Needs ρ ns) : (execOp e o).run P w = .ok (.value (CV.ev ρ c)) w := by
  obtain ⟨dst, op, ty, pos, after, guard⟩ := o
  simp only [] at h
  unfold pureOp at h
  split at h
  · -- move
    simp only [Option.map_eq_some_iff, Prod.mk.injEq] at h
    obtain ⟨c', hc, rfl, rfl⟩ := h
    simp [execOp, go_sem, hg _ _ hc]
  · -- assign
    simp only [Option.map_eq_some_iff, Prod.mk.injEq] at h
    obtain ⟨c', hc, rfl, rfl⟩ := h
    simp [execOp, go_sem, hg _ _ hc]
  · -- nilCheck
    split at h
    · rename_i hc
      simp only [Option.some.injEq, Prod.mk.injEq] at h
      obtain ⟨rfl, rfl⟩ := h
      have := hg _ _ hc
      simp [execOp, go_sem, this, CV.ev, Sc.ev]
    · cases h
  · -- binOp
    split at h
    · rename_i a b hx hy
      have hx := hg _ _ hx; have hy := hg _ _ hy
      simp only [CV.ev, Sc.ev] at hx hy
      split at h
      · rename_i ht
        simp only [Option.some.injEq, Prod.mk.injEq] at h
        obtain ⟨rfl, rfl⟩ := h
        obtain ⟨d, hd, ht⟩ := hT.tag ht
        have := tag_bool ht; subst this
        refine runv ?_
        simp only [hx, hy, eql_bool _ _ _ _ _ hd, CV.ev, Sc.ev, X.ev, V.toB_b]
        rfl
      · rename_i ht
        simp only [Option.some.injEq, Prod.mk.injEq] at h
        obtain ⟨rfl, rfl⟩ := h
        obtain ⟨d, hd, ht⟩ := hT.tag ht
        have := tag_bool ht; subst this
        refine runv ?_
        simp only [hx, hy, neq_bool _ _ _ _ _ hd, CV.ev, Sc.ev, X.ev, V.toB_b]
        rfl
      · cases h
    · rename_i a hx hy
      have hx := hg _ _ hx; have hy := hg _ _ hy
      simp only [CV.ev, Sc.ev] at hx hy
      split at h
      · rename_i e v ht hx0
        simp only [Option.map_eq_some_iff, Prod.mk.injEq] at h
        obtain ⟨p, hf, rfl, rfl⟩ := h
        obtain ⟨hd, a, n, c, hv⟩ := slice_at hT hr ht hf
        simp only [X.ev, hv, sc1_slice] at hx
        refine runv ?_
        simp only [hx, hy, CV.ev, Sc.ev, X.ev, V.toB_b, hv]
        have e1 := Lib.run_eql_slice_nil (P := P) w _ _ a n c 0 0 hd
        cases a <;> simp [Go.eqGuard, go_sem, e1]
      · rename_i e v ht hx0
        simp only [Option.map_eq_some_iff, Prod.mk.injEq] at h
        obtain ⟨p, hf, rfl, rfl⟩ := h
        obtain ⟨hd, a, n, c, hv⟩ := slice_at hT hr ht hf
        simp only [X.ev, hv, sc1_slice] at hx
        refine runv ?_
        simp only [hx, hy, CV.ev, Sc.ev, X.ev, V.toB_b, hv]
        have e1 := run_neq_slice_nil (P := P) w _ _ a n c hd
        cases a <;> simp [Go.eqGuard, go_sem, e1]
      · cases h
    · rename_i a b _ _ hx hy
      have hx := hg _ _ hx; have hy := hg _ _ hy
      simp only [CV.ev] at hx hy
      refine runv ?_
      simp only [hx, hy]
      exact binSc_ok h hn _ _ _
    · rename_i cs ds hx hy
      have hx := hg _ _ hx; have hy := hg _ _ hy
      simp only [CV.ev] at hx hy
      split at h
      · rename_i e he
        simp only [Option.some.injEq, Prod.mk.injEq] at h
        obtain ⟨rfl, rfl⟩ := h
        obtain ⟨h1, h2⟩ := eqAgg_ok (P := P) (w := w) (ρ := ρ) hT he
        refine runv ?_
        simp only [hx, hy]
        rw [Sem.run_bind, run_eqGuard_agg w _ _ _ _ _ _ h2, Result.andThen_ok, run_eql_struct, h1]
        rfl
      · rename_i e he
        simp only [Option.some.injEq, Prod.mk.injEq] at h
        obtain ⟨rfl, rfl⟩ := h
        obtain ⟨h1, h2⟩ := eqAgg_ok (P := P) (w := w) (ρ := ρ) hT he
        refine runv ?_
        simp only [hx, hy]
        rw [Sem.run_bind, run_eqGuard_agg w _ _ _ _ _ _ h2, Result.andThen_ok, run_neq_struct, h1]
        simp only [Result.andThen_ok, CV.ev, Sc.ev, mkNot_ok]
      · cases h
    · cases h
  · -- not
    split at h
    · rename_i a hc
      simp only [Option.some.injEq, Prod.mk.injEq] at h
      obtain ⟨rfl, rfl⟩ := h
      have := hg _ _ hc
      simp only [CV.ev, Sc.ev] at this
      refine runv ?_
      simp [this, Op.unary, go_sem, CV.ev, Sc.ev, mkNot_ok]
    · cases h
  · -- neg
    split at h
    · rename_i k a hc
      simp only [Option.some.injEq, Prod.mk.injEq] at h
      obtain ⟨rfl, rfl⟩ := h
      have := hg _ _ hc
      simp only [CV.ev, Sc.ev] at this
      refine runv ?_
      simp only [CV.ev, Sc.ev, ranged_ok hn]
      simp [this, Op.unary, Op.intArith, go_sem, X.ev]
    · cases h
  · -- convert
    split at h
    · rename_i i k k' a hs ht hc
      simp only [Option.some.injEq, Prod.mk.injEq] at h
      obtain ⟨rfl, rfl⟩ := h
      have := hg _ _ hc
      simp only [CV.ev, Sc.ev] at this
      obtain ⟨d, hd, ht⟩ := hT.tag ht
      have := tag_int ht; subst this
      obtain ⟨d', _, _, hd', -⟩ := (hT.get hs).ok
      refine runv ?_
      simp only [CV.ev, Sc.ev, ranged_ok hn, this]
      exact conv_int hd' hd
    · rename_i i a hs ht hc
      simp only [Option.some.injEq, Prod.mk.injEq] at h
      obtain ⟨rfl, rfl⟩ := h
      have := hg _ _ hc
      simp only [CV.ev, Sc.ev] at this
      obtain ⟨d, hd, ht⟩ := hT.tag ht
      have := tag_str ht; subst this
      obtain ⟨d', _, _, hd', -⟩ := (hT.get hs).ok
      refine runv ?_
      simp only [this]
      exact conv_str hd' hd
    · cases h
  · -- slice
    split at h
    · rename_i x lo hi _ _ a ht hc
      have hx := hg _ _ hc
      simp only [CV.ev, Sc.ev] at hx
      obtain ⟨d, hd, ht⟩ := hT.tag ht
      have := tag_str ht; subst this
      split at h
      · rename_i l u hl hu
        simp only [Option.some.injEq, Prod.mk.injEq] at h
        obtain ⟨rfl, rfl⟩ := h
        obtain ⟨n1, n23⟩ := hn.app
        obtain ⟨n2, n3⟩ := n23.app
        obtain ⟨l1, l2⟩ := bndOf_ok hg hl
        obtain ⟨u1, u2⟩ := bndOf_ok hg hu
        refine runv ?_
        simp only [hx, CV.ev, Sc.ev, X.ev, V.toS_s, Option.map_none]
        refine slice_ok (a := (l.ev ρ).toI) (b := (u.ev ρ).toI) hd l1 u1 (fun h => by rw [l2 h]; rfl) (fun h => by rw [u2 h]; rfl) (needLo_ok n1) (needLe_ok n2) (needLe_ok n3)
      · cases h
    · cases h
  · -- fieldAddr
    split at h
    · rename_i s x f _ _ fl v off ht hc
      have hx := hg _ _ hc
      simp only [CV.ev, Sc.ev] at hx
      obtain ⟨d, hd, ht⟩ := hT.tag ht
      obtain ⟨fs, rfl, hlen, hfl⟩ := tag_strct ht
      simp only [Option.bind_eq_bind, Option.bind_eq_some_iff] at h
      obtain ⟨⟨fo, fty, sz, ag⟩, hf, h⟩ := h
      simp only [Option.ite_none_right_eq_some, Option.some.injEq, Prod.mk.injEq] at h
      obtain ⟨hpos, rfl, rfl⟩ := h
      obtain ⟨fd, d', i', h1, h2, h3, h4, h5, h6, h7, h8⟩ := hfl _ _ hf
      simp only [] at h2 h3 h7 h8
      refine runv ?_
      simp only [hx, CV.ev, Sc.ev]
      rw [fieldAt_ok hd h1 h6 (by rw [h7]; omega), h2]
      simp [add_mk]
    · rename_i s x f _ _ fl v esz i c0 ht hc
      have hx := hg _ _ hc
      simp only [CV.ev, Sc.ev] at hx
      obtain ⟨d, hd, ht⟩ := hT.tag ht
      obtain ⟨fs, rfl, hlen, hfl⟩ := tag_strct ht
      simp only [Option.bind_eq_bind, Option.bind_eq_some_iff] at h
      obtain ⟨⟨fo, fty, sz, ag⟩, hf, ⟨ks, r⟩, hrow, h⟩ := h
      simp only [Option.ite_none_right_eq_some, Option.some.injEq, Prod.mk.injEq] at h
      obtain ⟨hpos, rfl, rfl⟩ := h
      obtain ⟨fd, d', i', h1, h2, h3, h4, h5, h6, h7, h8⟩ := hfl _ _ hf
      simp only [] at h2 h3 h7 h8
      obtain ⟨ad, cap, hv, h0, hlt⟩ := hr.toRow hrow hn
      refine runv ?_
      simp only [hx, CV.ev, Sc.ev, hv]
      rw [fieldAt_ok hd h1 h6 (by rw [h7]; omega), h2, add_add', Nat.add_assoc]
    · cases h
  · -- field
    split at h
    · rename_i t x f _ _ fl cs ht hc
      have hx := hg _ _ hc
      simp only [CV.ev] at hx
      obtain ⟨d, hd, ht⟩ := hT.tag ht
      obtain ⟨fs, rfl, hlen, hfl⟩ := tag_strct ht
      simp only [Option.bind_eq_bind, Option.bind_eq_some_iff] at h
      obtain ⟨⟨fo, fty, sz, ag⟩, hf, h⟩ := h
      obtain ⟨fd, d', i', h1, h2, h3, h4, h5, h6, h7, h8⟩ := hfl _ _ hf
      simp only [] at h2 h3 h7 h8
      refine runv ?_
      simp only [hx]
      rw [field_ok hd h1]
      split at h
      · rename_i hag
        simp only [Option.some.injEq, Prod.mk.injEq] at h
        obtain ⟨rfl, rfl⟩ := h
        rw [h2]
        rw [part_agg h5 h6 (by rw [h8]; exact hag), h7]
        simp [CV.ev, List.extract_eq_take_drop, List.map_take, List.map_drop]
      · rename_i hag
        simp only [Option.bind_eq_some_iff, Option.some.injEq, Prod.mk.injEq] at h
        obtain ⟨c', hc', rfl, rfl⟩ := h
        rw [h2]
        rw [part_one h5 (by rw [h8]; simpa using hag) (v := c'.ev ρ) (by simp [hc'])]
        rfl
    · cases h
  · -- indexAddr
    split at h
    · rename_i t x i _ _ _ e v k ix ht hc hi
      have hx := hg _ _ hc
      have hix := hg _ _ hi
      simp only [CV.ev, Sc.ev, X.ev] at hx hix
      obtain ⟨d, hd, ht⟩ := hT.tag ht
      have := tag_slice ht; subst this
      simp only [Option.bind_eq_bind, Option.bind_eq_some_iff] at h
      obtain ⟨ei, hei, ⟨ks, r⟩, hrow, h⟩ := h
      simp only [Option.ite_none_right_eq_some, Option.some.injEq, Prod.mk.injEq] at h
      obtain ⟨hks, rfl, rfl⟩ := h
      obtain ⟨_, inf, z, -, hinf, hsz, -⟩ := (hT.get hei).ok
      obtain ⟨ad, cap, hv, h0, hlt⟩ := hr.toRow hrow hn
      refine runv ?_
      simp only [hx, hix, CV.ev, Sc.ev, hv, sc1_slice]
      rw [indexAt_ok hd hinf h0 hlt, hsz, hks]
      simp
    · cases h
  · -- index
    split at h
    · rename_i t x i _ _ _ a k ix ht hc hi
      have hx := hg _ _ hc
      have hix := hg _ _ hi
      simp only [CV.ev, Sc.ev] at hx hix
      obtain ⟨d, hd, ht⟩ := hT.tag ht
      have := tag_str ht; subst this
      simp only [Option.some.injEq, Prod.mk.injEq] at h
      obtain ⟨rfl, rfl⟩ := h
      obtain ⟨n1, n2⟩ := hn.app
      have n2 : (ix.ev ρ).toI < (a.ev ρ).toS.length := of_decide_eq_true (n2 _ (List.mem_singleton.2 rfl))
      refine runv ?_
      simp only [hx, hix, CV.ev, Sc.ev, X.ev, V.toI_i]
      exact index_ok hd (needLo_ok n1) n2
    · cases h
  · -- build
    split at h
    · rename_i t parts _ ag ks zs bytes fl eqs ht
      simp only [Option.bind_eq_bind, Option.bind_eq_some_iff, Option.some.injEq, Prod.mk.injEq] at h
      obtain ⟨ps, hps, cs, hcs, rfl, rfl⟩ := h
      obtain ⟨d, inf, z, hd, hinf, -, -, hz, hzc, hzb, -, -, htag, -, -⟩ := (hT.get ht).ok
      obtain ⟨fs, rfl, hlen, hfl⟩ := tag_strct htag
      refine runv ?_
      have hfill := fill_ok (ρ := ρ) (fl := fl) (place := fun n => ((fl.map fun p => (p.1, p.2.2.1)).toArray)[n]?) (fun n p hp => by simp [hp]) ps zs cs hcs
      have hpl := fun G hG => places_ok (P := P) w hfl hlen G hG
      have hparts : parts.map (fun (p : Nat × Operand) => (p.1, e p.2)) = (ps.map fun p => (p.1, CV.ev ρ p.2)).toArray := by
        have := partsOf_ok hg _ _ hps
        apply Array.ext'
        simpa using this
      have hz0 : z.cells = (zs.map (Sc.ev ρ)).toArray := by
        apply Array.ext'
        rw [hzc, map_ev_bd (ρ := []) (ρ' := ρ) (n := 0) (fun k hk => by omega) zs hzb]
      exact build_ok hd hinf hz hz0 hpl hparts hfill
    · cases h
  · -- call
    split at h
    · -- len
      rename_i c _ _ _ x t hcal hargs htys
      obtain ⟨callee, args, argTypes⟩ := c
      obtain ⟨args⟩ := args
      obtain ⟨argTypes⟩ := argTypes
      simp only [] at hcal hargs htys
      subst hcal hargs htys
      split at h
      · rename_i a ht hc
        have hx := hg _ _ hc
        simp only [CV.ev, Sc.ev] at hx
        obtain ⟨d, hd, ht⟩ := hT.tag ht
        have := tag_str ht; subst this
        simp only [Option.some.injEq, Prod.mk.injEq] at h
        obtain ⟨rfl, rfl⟩ := h
        simp [Builtin.len_, go_sem, hx, run_underlying hd, CV.ev, Sc.ev, X.ev, goInt]
      · rename_i e' v ht hc
        have hx := hg _ _ hc
        simp only [CV.ev, Sc.ev, X.ev] at hx
        obtain ⟨d, hd, ht⟩ := hT.tag ht
        have := tag_slice ht; subst this
        simp only [Option.bind_eq_bind, Option.bind_eq_some_iff, Option.some.injEq, Prod.mk.injEq] at h
        obtain ⟨⟨ks, r⟩, hrow, rfl, rfl⟩ := h
        obtain ⟨_, a, cap, hv, _, _⟩ := findRow_ok hr hrow
        rw [hv] at hx
        simp [Builtin.len_, go_sem, hx, run_underlying hd, CV.ev, Sc.ev, X.ev, goInt]
      · rename_i e' ht hc
        have hx := hg _ _ hc
        simp only [CV.ev, Sc.ev] at hx
        obtain ⟨d, hd, ht⟩ := hT.tag ht
        have := tag_slice ht; subst this
        simp only [Option.some.injEq, Prod.mk.injEq] at h
        obtain ⟨rfl, rfl⟩ := h
        simp [Builtin.len_, go_sem, hx, run_underlying hd, CV.ev, Sc.ev, X.ev, goInt]
      · cases h
    · -- min
      rename_i c _ _ _ x y hcal hargs
      obtain ⟨callee, args, argTypes⟩ := c
      obtain ⟨args⟩ := args
      simp only [] at hcal hargs
      subst hcal hargs
      split at h
      · rename_i hc hc'
        have hx := hg _ _ hc
        have hy := hg _ _ hc'
        simp only [CV.ev, Sc.ev] at hx hy
        simp only [Option.some.injEq, Prod.mk.injEq] at h
        obtain ⟨rfl, rfl⟩ := h
        simp [Builtin.min_, Builtin.min2, go_sem, hx, hy, CV.ev, Sc.ev, X.ev]
      · cases h
    · cases h
  · -- load
    split at h
    · rename_i hc
      have hx := hg _ _ hc
      simp only [CV.ev] at hx
      refine runv ?_
      simp only [hx]
      exact loadAt_ok hT hr h hn
    · cases h
  · cases h

end Go.Sx
