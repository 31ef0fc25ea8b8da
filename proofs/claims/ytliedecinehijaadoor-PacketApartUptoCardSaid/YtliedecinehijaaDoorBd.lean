/-
  strings.Builder in a struct's first place: what its methods do (turned from the kit's worked proofs of a Builder that stands alone). By an AI agent.
-/
import Derived.Test.YtliedecinehijaaDoorEnv
import Derived.Shelf.RegionOpenPlain
import Derived.Lib.Strings
import Derived.Lib.Slices
import Derived.Lib.Walk
import Derived.Lib.Builder
import Derived.Lib.AppendStr
import Derived.Lib.UnsafeStr
import Derived.WalkKit
set_option linter.unusedSimpArgs false
set_option linter.unusedVariables false
namespace Go.Proofs.YtliedecinehijaaDoor
open Go.Sx Go.RowKit

theorem bldSize : (Tryd.prog.info? 123).map (·.size) = some 2 := by kernel_rfl
theorem bldByte : (Tryd.prog.info? 5).map (fun i => (i.zero, i.size, i.bytes)) = some (some (.int .u8 0), 1, 1) := by kernel_rfl
/-- A struct type that begins with a Builder. -/
noncomputable def bldIn (ty n : Nat) : Bool := liesAt Tryd.prog Tryd.prog.depth ty (n / Tryd.prog.cellsOf ty) 0 123 1

set_option maxHeartbeats 1000000 in
set_option maxRecDepth 100000 in
theorem bld_copyCheck_used (b : Nat) (w : World) (h0 : w.cell? ⟨b, 0, none⟩ = some (.pointer (some ⟨b, 0, none⟩))) :
    Calls Tryd.prog 158 #[.pointer (some ⟨b, 0, none⟩)] w fun e w' => e = .returned (.tuple #[]) ∧ w' = w := by
  obtain ⟨j, hj, _⟩ := Option.map_eq_some_iff.1 bldSize
  go_enter Tryd.func158, Tryd.ntmps158
  go_wp2
  rw [Lib.run_neq_ptr_same w _ Tryd.underlying121 hj]
  go_wp2
  go_end0
  exact ⟨rfl, rfl⟩
set_option maxHeartbeats 1000000 in
set_option maxRecDepth 100000 in
theorem bld_copyCheck_fresh (ty n b : Nat) (w : World) (hT : bldIn ty n = true) (hn : 0 < n) (h0 : w.cell? ⟨b, 0, none⟩ = some (.pointer none)) (hsh : w.shape? b = some (ty, n)) (hfz : w.frozen? ⟨b, 0, none⟩ = false) :
    Calls Tryd.prog 158 #[.pointer (some ⟨b, 0, none⟩)] w fun e w' => e = .returned (.tuple #[]) ∧ w' = w.setCell ⟨b, 0, none⟩ (.pointer (some ⟨b, 0, none⟩)) := by
  obtain ⟨j, hj, hjs⟩ := Option.map_eq_some_iff.1 bldSize
  go_enter Tryd.func158, Tryd.ntmps158
  go_wp2
  rw [Lib.run_to_unsafe w ⟨b, 0, none⟩ Tryd.underlying121 Tryd.underlying204 hj (by rw [hjs]; decide) hsh hn]
  simp only [Result.andThen]
  rw [Oper.upon_value]
  go_wp2
  rw [run_callFunc_extern Tryd.func183 (by kernel_rfl) (by kernel_rfl) (by kernel_rfl) (e := Extern.AbiNoEscape.same) (by kernel_rfl)]
  rw [Lib.run_noEscape]
  simp only [Result.andThen]
  rw [Oper.upon_value]
  go_wp2
  rw [Lib.run_from_unsafe w ⟨b, 0, none⟩ Tryd.underlying204 Tryd.underlying121 hj hsh hT]
  simp only [Result.andThen]
  rw [Oper.upon_value]
  go_wp2
  go_end0
  exact ⟨rfl, rfl⟩

theorem bld_info : ∃ i0, Tryd.prog.info? 5 = some i0 ∧ i0.zero = some (.int .u8 0) ∧ i0.size = 1 ∧ i0.bytes = 1 := by
  obtain ⟨i0, hi, h⟩ := Option.map_eq_some_iff.1 bldByte
  simp only [Prod.mk.injEq] at h
  exact ⟨i0, hi, h.1, h.2.1, h.2.2⟩
theorem bld_cell {w : World} {b ty : Nat} {cs : List Value} (h : w.heap[b]? = some (.cells cs.toArray ty (0, 0))) (j : Nat) : w.cell? ⟨b, j, none⟩ = cs[j]? := by
  rw [Lib.cell_of_heap h]; simp
theorem bld_rows (s : List UInt8) : (s.map fun b => [Value.int .u8 (b.toNat : Int)]).flatten = Lib.strCells ⟨s.toArray⟩ := by
  simp [Lib.strCells]
  induction s <;> simp_all
theorem bld_rowOk (s : List UInt8) : ∀ r ∈ s.map fun b => [Value.int .u8 (b.toNat : Int)], rowOk [.int .u8] r := by
  intro r hr
  obtain ⟨b, -, rfl⟩ := List.mem_map.1 hr
  exact ⟨⟨_, rfl⟩, trivial⟩

section
variable {P : Program} {w : World}
/-- 'append' of a text onto bytes that the call owns: and where the new ones lie. -/
theorem append_str (t u ty e : TypeId) (i : TypeInfo) (ht : P.underlying t = some (.slice e)) (hu : P.underlying u = some .string) (hi : P.info? e = some i) (hz : i.zero = some (.int .u8 0))
    (hsize : i.size = 1) (hby : i.bytes = 1) (v : Value) (n : Nat) (xs : List Value) (hown : w.ownsRow 0 e 1 v n xs) (s : ByteArray) (hb : n + s.size ≤ 140737488355328) :
    ∃ v' w', (Builtin.append_ #[t, u] ty #[v, .string s]).run P w = .ok v' w' ∧ w'.ownsRow 0 e 1 v' (n + s.size) (xs ++ Lib.strCells s) ∧ w.grownBy w' v.ownBlock ∧
      ∀ k, v'.ownBlock = some k → v.ownBlock = some k ∨ w.heap.size ≤ k := by
  have h63 : n + s.size ≤ maxLen := by unfold maxLen; omega
  obtain ⟨v', w', h1, h2, h3, -⟩ := Lib.run_append_own_string (P := P) (w := w) 0 t u ty e i ht hu hi hz hsize hby v n xs hown s h63 hb (Nat.zero_le _)
  refine ⟨v', w', h1, h2, h3, fun k hk => ?_⟩
  have hxl : xs.length = n := by simpa using hown.1
  rcases hown.2 with ⟨rfl, rfl⟩ | ⟨g, cap, cur, rfl, hbg, hg, hnc, hcm, hcs, htake⟩
  · have hx : xs = [] := List.eq_nil_of_length_eq_zero hxl
    subst hx
    obtain ⟨v2, w2, k1, k2, k3, -⟩ := Lib.run_append_own_string (P := P) (w := w) w.heap.size t u ty e i ht hu hi hz hsize hby (.slice none 0 0) 0 [] (World.ownsRow_nil _ _ _ _) s h63 hb (Nat.le_refl _)
    rw [h1] at k1
    simp only [Result.ok.injEq] at k1
    obtain ⟨rfl, rfl⟩ := k1
    exact .inr (k2.lt k hk).1
  · by_cases hroom : n + s.size ≤ cap
    · have hr := Lib.run_append_room_string (P := P) w t u ty e i ht hu hi hsize g n cap cur hg s hroom (by unfold maxLen at h63; omega)
      rw [h1] at hr
      simp only [Result.ok.injEq] at hr
      obtain ⟨rfl, -⟩ := hr
      exact .inl hk
    · have holds : ∀ j u, xs[j]? = some u → w.cell? ((⟨g, 0, none⟩ : Addr).add j) = some u := hown.cells (g := g) rfl
      have hr := Lib.run_append_grow_string (P := P) w t u ty e i (.int .u8 0) ht hu hi hz ⟨g, 0, none⟩ n cap xs (by rw [hsize]; simpa using hxl) holds s (by omega) (by unfold maxLen at h63; omega) (by rw [hby]; exact growslice_fits (by omega) (by omega))
      rw [h1] at hr
      simp only [Result.ok.injEq] at hr
      obtain ⟨rfl, -⟩ := hr
      simp [Value.ownBlock] at hk
      exact .inr (by omega)
theorem wpList_append_str {ops : Array Oper} {rest : List Oper} {o : Oper} {a : Act} {Q : Exit → Act → World → Prop} (hgd : o.guard = none) (sl x : Operand) (t u : TypeId)
    (ho : o.op = .call { callee := .builtin .append, args := #[sl, x], argTypes := #[t, u] })
    (e : TypeId) (i : TypeInfo) (ht : P.underlying t = some (.slice e)) (hu : P.underlying u = some .string) (hi : P.info? e = some i) (hz : i.zero = some (.int .u8 0))
    (hsize : i.size = 1) (hby : i.bytes = 1) (v : Value) (n : Nat) (xs : List Value) (hs : a.eval sl = v) (hown : w.ownsRow 0 e 1 v n xs) (s : ByteArray) (hx : a.eval x = .string s) (hb : n + s.size ≤ 140737488355328)
    (h : ∀ v' w', w'.ownsRow 0 e 1 v' (n + s.size) (xs ++ Lib.strCells s) → w.grownBy w' v.ownBlock → (∀ k, v'.ownBlock = some k → v.ownBlock = some k ∨ w.heap.size ≤ k) → wpList P ops Q rest (a.put o.dst v') w') :
    wpList P ops Q (o :: rest) a w := by
  refine wpList_plain hgd fun K hK => ?_
  obtain ⟨v', w', hr, h2, h3, h4⟩ := append_str (P := P) (w := w) t u o.type e i ht hu hi hz hsize hby v n xs hown s hb
  unfold Oper.wp execOp
  simp only [ho, resolve, invoke, builtin, Sem.run_bind, Sem.run_pure, Result.andThen_ok, List.map_toArray, List.map_cons, List.map_nil, hs, hx, hr]
  exact hK _ _ (h v' w' h2 h3 h4)
end

set_option maxHeartbeats 1000000 in
set_option maxRecDepth 100000 in
theorem bld_WriteString (ty b : Nat) (p v : Value) (rest : List Value) (rows : List (List Value)) (s : List UInt8) (w : World) (hT : bldIn ty (rest.length + 2) = true) (hty : ty ≠ 5)
    (hb : w.heap[b]? = some (.cells (p :: v :: rest).toArray ty (0, 0))) (hp : p = .pointer none ∨ p = .pointer (some ⟨b, 0, none⟩)) (hown : owns w v 5 [.int .u8] rows)
    (hlen : rows.length + s.length ≤ 140737488355328) :
    Calls Tryd.prog 135 #[.pointer (some ⟨b, 0, none⟩), .string ⟨s.toArray⟩] w fun e w' => e = .returned (.tuple #[.int .i64 s.length, .nilIface]) ∧
      ∃ v', w'.heap[b]? = some (.cells (.pointer (some ⟨b, 0, none⟩) :: v' :: rest).toArray ty (0, 0)) ∧ owns w' v' 5 [.int .u8] (rows ++ s.map fun b => [Value.int .u8 (b.toNat : Int)]) ∧
        Mod (b :: v.ownBlock.toList) w w' ∧ ∀ k, blockOf v' k → w.heap.size ≤ k ∨ k ∈ v.ownBlock.toList := by
  obtain ⟨i0, hi, hz0, hz1, hz2⟩ := bld_info
  have hne : ∀ k, v.ownBlock = some k → k ≠ b := fun k hk e => by
    subst e
    rcases hown.2.2 with ⟨hv, -⟩ | ⟨g, cap, cur, hv, -, hg, -⟩
    · rw [hv] at hk; cases hk
    · rw [hv] at hk
      simp [Value.ownBlock] at hk; subst hk
      rw [hb] at hg
      simp at hg; exact hty hg.2
  have hlt : b < w.heap.size := (Array.getElem?_eq_some_iff.1 hb).1
  have hchk : Calls Tryd.prog 158 #[.pointer (some ⟨b, 0, none⟩)] w fun e w' => e = .returned (.tuple #[]) ∧ w'.heap[b]? = some (.cells (.pointer (some ⟨b, 0, none⟩) :: v :: rest).toArray ty (0, 0)) ∧ Mod [b] w w' := by
    rcases hp with rfl | rfl
    · refine (bld_copyCheck_fresh ty (rest.length + 2) b w hT (by omega) (bld_cell hb 0) (by simp [World.shape?, hb]) (Lib.frozen_of_heap hb 0)).mono ?_
      rintro e w' ⟨rfl, rfl⟩
      refine ⟨rfl, ?_, Mod.setCell _ _ _ (.inl (by simp))⟩
      simp [World.setCell, Array.getElem?_modify, hb]
    · refine (bld_copyCheck_used b w (bld_cell hb 0)).mono ?_
      rintro e w' ⟨rfl, rfl⟩
      exact ⟨rfl, hb, Mod.refl _ _⟩
  have e240 : ∀ args w, (callFunc 158 args).run Tryd.prog w = .ok (.enter 158 args) w := enters_of Tryd.func158 (by kernel_rfl) rfl
  go_enter Tryd.func135, Tryd.ntmps135
  go_wp2_with (go_at_fn 158; refine hchk.mono ?_)
  rintro e w1 ⟨rfl, hbk, hm1⟩
  have hown1 : owns w1 v 5 [.int .u8] rows := owns.stable hown fun k hk => hm1.block k (hown.2.lt k hk).2 (by simpa using hne k hk)
  have c0 : w1.cell? ⟨b, 0, none⟩ = some (.pointer (some ⟨b, 0, none⟩)) := bld_cell hbk 0
  have c1 : w1.cell? ⟨b, 1, none⟩ = some v := bld_cell hbk 1
  have ho1 := hown1.2
  have hfl : rows.flatten.length = rows.length := by have := ho1.1; simpa using this
  go_wp2_with (at_builtin; refine wpList_append_str rfl _ _ 107 9 rfl 5 i0 Tryd.underlying107 Tryd.underlying9 hi hz0 hz1 hz2 _ _ _ rfl ho1 ⟨s.toArray⟩ rfl ?c4 ?_)
  case c4 => simp only [ByteArray.size]; simp; omega
  intro v' w2 hown' hgrow hloc
  have hlt1 : b < w1.heap.size := Nat.lt_of_lt_of_le hlt hm1.size
  have hb2 : w2.heap[b]? = some (.cells (.pointer (some ⟨b, 0, none⟩) :: v :: rest).toArray ty (0, 0)) := by
    rw [hgrow.block b hlt1 (fun e => hne b e.symm rfl)]
    exact hbk
  have d0 : w2.cell? ⟨b, 0, none⟩ = some (.pointer (some ⟨b, 0, none⟩)) := bld_cell hb2 0
  have d1 : w2.cell? ⟨b, 1, none⟩ = some v := bld_cell hb2 1
  have f1 : w2.frozen? ⟨b, 1, none⟩ = false := Lib.frozen_of_heap hb2 1
  have hnl : ((rows ++ s.map fun b => [Value.int .u8 (b.toNat : Int)]).length) = rows.length + s.length := by simp
  have hfl2 : (rows ++ s.map fun b => [Value.int .u8 (b.toNat : Int)]).flatten = rows.flatten ++ Lib.strCells ⟨s.toArray⟩ := by rw [List.flatten_append, bld_rows]
  have hsz : (⟨s.toArray⟩ : ByteArray).size = s.length := by simp [ByteArray.size]
  obtain ⟨ao, n', cap, rfl⟩ : ∃ ao n' cap, v' = .slice ao n' cap := by
    rcases hown'.2 with ⟨hv, _⟩ | ⟨g, cap, cur, hv, _⟩
    · exact ⟨_, _, _, hv⟩
    · exact ⟨_, _, _, hv⟩
  have hvb : ∀ k, (Value.slice ao n' cap).ownBlock = some k → k ≠ b := fun k hk e => by
    subst e
    rcases hloc k hk with h | h
    · exact hne k h rfl
    · omega
  go_wp2
  go_ret2
  have hs3 : (w2.setCell ⟨b, 1, none⟩ (.slice ao n' cap)).heap[b]? = some (.cells (.pointer (some ⟨b, 0, none⟩) :: .slice ao n' cap :: rest).toArray ty (0, 0)) := by
    have hlt2 : b < w2.heap.size := (Array.getElem?_eq_some_iff.1 hb2).1
    have e := (Array.getElem?_eq_some_iff.1 hb2).2
    simp [World.setCell, Array.getElem?_modify, hb2]
  refine ⟨rfl, .slice ao n' cap, hs3, ?_, ?_, ?_⟩
  · refine owns.stable (w := w2) ⟨fun r hr => ?_, ?_⟩ fun k hk => (Mod.setCell (fp := [b]) w2 ⟨b, 1, none⟩ (.slice ao n' cap) (.inl (by simp))).block k (hown'.lt k hk).2 (by simpa using hvb k hk)
    · rcases List.mem_append.1 hr with h | h
      · exact hown.1 r h
      · exact bld_rowOk s r h
    · rw [hnl, hfl2, ← hsz]; exact hown'
  · refine ((hm1.mono (fp' := b :: v.ownBlock.toList) (by simp)).trans (fp' := b :: v.ownBlock.toList) (Mod.of_grown hgrow (fun k hk => .inl (by simp [hk]))) (fun k hk => .inl hk)).trans (fp' := [b]) (Mod.setCell _ _ _ (.inl (by simp))) (by simp)
  · intro k hk
    rcases hloc k hk with h | h
    · exact .inr (by simp [h])
    · exact .inl (Nat.le_trans hm1.size h)

set_option maxHeartbeats 1000000 in
set_option maxRecDepth 100000 in
theorem bld_Len (ty b : Nat) (p v : Value) (rest : List Value) (rows : List (List Value)) (w : World)
    (hb : w.heap[b]? = some (.cells (p :: v :: rest).toArray ty (0, 0))) (hown : owns w v 5 [.int .u8] rows) :
    Calls Tryd.prog 86 #[.pointer (some ⟨b, 0, none⟩)] w fun e w' => e = .returned (.int .i64 rows.length) ∧ w' = w := by
  obtain ⟨ao, cap, rfl⟩ : ∃ ao cap, v = .slice ao rows.length cap := by
    rcases hown.2.2 with ⟨hv, h0⟩ | ⟨g, cap, cur, hv, _⟩
    · exact ⟨none, 0, by rw [hv, h0]⟩
    · exact ⟨_, _, hv⟩
  have c1 : w.cell? ⟨b, 1, none⟩ = some (.slice ao rows.length cap) := bld_cell hb 1
  go_enter Tryd.func86, Tryd.ntmps86
  go_wp2
  go_ret
  exact ⟨rfl, rfl⟩

theorem mod_freeze (fp : List Nat) (w : World) (g n : Nat) (h : g ∈ fp) : Mod fp w (w.freeze ⟨g, 0, none⟩ n) := by
  unfold World.freeze
  split
  · exact Mod.refl _ _
  · refine ⟨rfl, rfl, rfl, by simp, fun k hk hn => ?_⟩
    have : k ≠ g := fun e => hn (e ▸ h)
    simp [Array.getElem?_modify, Ne.symm this]
theorem bld_mixed : Tryd.prog.follows .mixedOrders = true := by kernel_rfl
theorem bld_bytes (s : List UInt8) : (s.map fun b => [Value.int .u8 (b.toNat : Int)]).flatten = Lib.byteCells s := by
  rw [bld_rows]; simp [Lib.strCells, Lib.byteCells]
theorem bld_cellsByte : Tryd.prog.cellsOf 5 = 1 := by kernel_rfl

set_option maxHeartbeats 2000000 in
set_option maxRecDepth 100000 in
theorem bld_String (ty b : Nat) (p v : Value) (rest : List Value) (l : List UInt8) (w : World)
    (hb : w.heap[b]? = some (.cells (p :: v :: rest).toArray ty (0, 0))) (hown0 : owns w v 5 [.int .u8] (l.map fun b => [Value.int .u8 (b.toNat : Int)])) :
    Calls Tryd.prog 87 #[.pointer (some ⟨b, 0, none⟩)] w fun e w' => e = .returned (.string ⟨l.toArray⟩) ∧ Mod v.ownBlock.toList w w' := by
  have hown := hown0.2
  rw [bld_bytes, List.length_map] at hown
  have mixed := bld_mixed
  have hlt : b < w.heap.size := (Array.getElem?_eq_some_iff.1 hb).1
  have hUS : ∀ W q, (Builtin.unsafeString_ #[166, 3] 9 #[.pointer q, .int .i64 0]).run Tryd.prog W = .ok (.string .empty) W := fun W q => Lib.run_unsafeString_none W _ _ _ q
  rcases hown.2 with ⟨rfl, hl0⟩ | ⟨g, cap, cur, rfl, hbg, hg, hnc, hcm, hcs, htake⟩
  · have hl : l = [] := List.eq_nil_of_length_eq_zero hl0
    subst hl
    have c1 : w.drew.cell? ⟨b, 1, none⟩ = some (.slice none 0 0) := bld_cell (w := w.drew) hb 1
    have hSD : (Builtin.unsafeSliceData_ #[107] 166 #[.slice none 0 0]).run Tryd.prog w.drew = .ok (.pointer none) w.drew := rfl
    go_enter Tryd.func87, Tryd.ntmps87
    go_wp2
    go_region_o
    all_goals (go_wp2; go_ret; exact ⟨rfl, Mod.drew _ w⟩)
  · by_cases hl0 : l = []
    · subst hl0
      by_cases hc0 : cap = 0
      · subst hc0
        have c1 : w.drew.cell? ⟨b, 1, none⟩ = some (.slice (some ⟨g, 0, none⟩) 0 0) := bld_cell (w := w.drew) hb 1
        have hSD : (Builtin.unsafeSliceData_ #[107] 166 #[.slice (some ⟨g, 0, none⟩) 0 0]).run Tryd.prog w.drew = .ok (.pointer (some ⟨w.drew.heap.size, 0, none⟩)) (w.drew.alloc (.view ⟨g, 0, none⟩ 5)) :=
          Lib.run_unsafeSliceData_zero w.drew _ _ 5 Tryd.underlying166 ⟨g, 0, none⟩ 0 (5, cur.size) (by have hg' : w.drew.heap[g]? = some (.cells cur 5 (0, 0)) := hg; simp [World.shape?, hg'])
        have c2 : (w.drew.alloc (.view ⟨g, 0, none⟩ 5)).cell? ⟨b, 1, none⟩ = some (.slice (some ⟨g, 0, none⟩) 0 0) := by
          have : (w.drew.alloc (.view ⟨g, 0, none⟩ 5)).heap[b]? = _ := (Lib.alloc_old w.drew _ b hlt).trans hb
          exact bld_cell this 1
        have c3 : (w.alloc (.view ⟨g, 0, none⟩ 5)).drew.cell? ⟨b, 1, none⟩ = some (.slice (some ⟨g, 0, none⟩) 0 0) := c2
        have c0 : w.cell? ⟨b, 1, none⟩ = some (.slice (some ⟨g, 0, none⟩) 0 0) := c1
        go_enter Tryd.func87, Tryd.ntmps87
        go_wp2
        go_region_o
        all_goals (go_wp2; go_ret; exact ⟨rfl, (Mod.drew _ w).trans (Mod.alloc _ _ _) (fun k hk => .inl hk)⟩)
      · have c1 : w.drew.cell? ⟨b, 1, none⟩ = some (.slice (some ⟨g, 0, none⟩) 0 cap) := bld_cell (w := w.drew) hb 1
        have hSD : (Builtin.unsafeSliceData_ #[107] 166 #[.slice (some ⟨g, 0, none⟩) 0 cap]).run Tryd.prog w.drew = .ok (.pointer (some ⟨g, 0, none⟩)) w.drew :=
          Lib.run_unsafeSliceData_row _ _ _ _ _ _ hc0
        clear hc0
        go_enter Tryd.func87, Tryd.ntmps87
        go_wp2
        go_region_o
        all_goals (go_wp2; go_ret; exact ⟨rfl, Mod.drew _ w⟩)
    · have hl1 : l.length ≠ 0 := by simpa using hl0
      have c1 : w.drew.cell? ⟨b, 1, none⟩ = some (.slice (some ⟨g, 0, none⟩) l.length cap) := bld_cell (w := w.drew) hb 1
      have hSD : (Builtin.unsafeSliceData_ #[107] 166 #[.slice (some ⟨g, 0, none⟩) l.length cap]).run Tryd.prog w.drew = .ok (.pointer (some ⟨g, 0, none⟩)) w.drew :=
        Lib.run_unsafeSliceData_row _ _ _ _ _ _ (by omega)
      have hUS' : (Builtin.unsafeString_ #[166, 3] 9 #[.pointer (some ⟨g, 0, none⟩), .int .i64 l.length]).run Tryd.prog w.drew = .ok (.string ⟨l.toArray⟩) (w.drew.freeze ⟨g, 0, none⟩ l.length) := by
        refine Lib.run_unsafeString_row w.drew 166 3 9 5 Tryd.underlying166 bld_cellsByte g cur.size (by have hg' : w.drew.heap[g]? = some (.cells cur 5 (0, 0)) := hg; simp [World.shape?, hg']) l hl0 (by simp at hcs; omega) (by unfold maxLen at hcm; omega) ?_
        intro j x hx
        have := hown.cells (g := g) rfl j (.int .u8 x.toNat) (by simp [Lib.byteCells, hx])
        exact this
      go_enter Tryd.func87, Tryd.ntmps87
      go_wp2
      go_region_o
      all_goals (go_wp2; go_ret; exact ⟨rfl, (Mod.drew _ w).trans (mod_freeze _ _ g _ (by simp [Value.ownBlock])) (fun k hk => .inl hk)⟩)
end Go.Proofs.YtliedecinehijaaDoor
