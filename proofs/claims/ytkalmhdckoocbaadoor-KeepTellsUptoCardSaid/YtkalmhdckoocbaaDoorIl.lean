/-
  The library's Delete at a type of elements. By an AI agent.
-/
import Derived.Test.YtkalmhdckoocbaaDoorIa
import Derived.Test.YtkalmhdckoocbaaDoorEnv
set_option linter.unusedSimpArgs false
set_option linter.unusedVariables false
namespace Go.Proofs.YtkalmhdckoocbaaDoor
open Go Go.Sx Go.Shelf Go.RowKit Go.Lib
set_option maxHeartbeats 4000000 in
set_option maxRecDepth 100000 in
theorem del_in (w : World) (g n c i j : Nat) (cur : Array Value) (hij : i < j) (hj : j ≤ n) (hnc : n ≤ c) (hc63 : c ≤ 9223372036854775807)
    (hg : w.heap[g]? = some (.cells cur 79 (0, 0))) (hcs : cur.size = c * 3) (h1c : ∀ v ∈ cur.toList.take (n * 3), v.oneCell' = true) :
    Calls Tryd.prog 117 #[.slice (some ⟨g, 0, none⟩) n c, .int .i64 i, .int .i64 j] w fun e w' => ∃ cur2 : Array Value, e = .returned (.slice (some ⟨g, 0, none⟩) (i + (n - j)) c) ∧ cur2.size = cur.size ∧
      cur2.toList.take ((i + (n - j)) * 3) = cur.toList.take (i * 3) ++ (cur.toList.drop (j * 3)).take ((n - j) * 3) ∧ w' = w.drew.setRow g cur2 := by
  have hz1 : ¬ ((i : Int) = (j : Int)) := by omega
  have hu := Tryd.underlying75
  obtain ⟨inf, hinf⟩ : ∃ i0, Tryd.prog.info? 79 = some i0 := by
    have : (Tryd.prog.info? 79).isSome = true := by kernel_rfl
    exact Option.isSome_iff_exists.1 this
  have hk : inf.size = 3 := by
    have : (Tryd.prog.info? 79).map (·.size) = some 3 := by kernel_rfl
    rw [hinf] at this; simpa using this
  obtain ⟨z, hz, hzs⟩ : ∃ z, inf.zero = some z ∧ (z.cells.size = 3 ∧ z.cells.toList.all (fun v => v.oneCell') = true) := by
    have : (Tryd.prog.info? 79).bind (fun i => i.zero.map (fun z => (z.cells.size, z.cells.toList.all (fun v => v.oneCell')))) = some (3, true) := by kernel_rfl
    rw [hinf] at this
    simp only [Option.bind_some, Option.map_eq_some_iff, Prod.mk.injEq] at this
    exact this
  obtain ⟨hzs, hz1c⟩ := hzs
  have hcl : cur.toList.length = c * 3 := by rw [Array.length_toList]; exact hcs
  obtain ⟨cs, hcs1⟩ : ∃ cs, cs = (cur.toList.drop (j * 3)).take ((n - j) * 3) := ⟨_, rfl⟩
  have hl : cs.length = (n - j) * 3 := by rw [hcs1]; simp only [List.length_take, List.length_drop]; omega
  have hone : ∀ v ∈ cs, v.oneCell' = true := fun v hv => h1c v (by
    rw [hcs1] at hv
    have e : cur.toList.take (n * 3) = cur.toList.take (j * 3) ++ (cur.toList.drop (j * 3)).take ((n - j) * 3) := by
      rw [show n * 3 = j * 3 + (n - j) * 3 by omega, List.take_add]
    rw [e]; exact List.mem_append_right _ hv)
  have hgd : w.drew.heap[g]? = some (.cells cur 79 (0, 0)) := hg
  obtain ⟨cur1, hcur1⟩ : ∃ cur1 : Array Value, cur1 = (cur.toList.take (i * inf.size) ++ cs ++ cur.toList.drop (i * inf.size + cs.length)).toArray := ⟨_, rfl⟩
  obtain ⟨zs, hzs1⟩ : ∃ zs : List Value, zs = (Builtin.zeroCells z.cells (n - (i + (n - j)))).toList := ⟨_, rfl⟩
  have hzl : zs.length = (j - i) * 3 := by rw [hzs1, Array.length_toList, zeroCells_size, hzs]; congr 1; omega
  have hzo : ∀ v ∈ zs, v.oneCell' = true := by
    intro v hv
    rw [hzs1] at hv
    exact zeroCells_one (by rw [hzs]; decide) (List.all_eq_true.1 hz1c) v hv
  obtain ⟨cur2, hcur2⟩ : ∃ cur2 : Array Value, cur2 = (cur1.toList.take ((i + (n - j)) * 3) ++ zs ++ cur1.toList.drop ((i + (n - j)) * 3 + zs.length)).toArray := ⟨_, rfl⟩
  have hs1 : cur1.size = cur.size := by
    rw [hcur1, hk]; simp only [List.size_toArray, List.length_append, List.length_take, List.length_drop, hcl, hl]; omega
  have hcl1 : cur1.toList.length = c * 3 := by rw [Array.length_toList, hs1]; exact hcs
  have hs2 : cur2.size = cur.size := by
    rw [hcur2]; simp only [List.size_toArray, List.length_append, List.length_take, List.length_drop, hcl1, hzl]; omega
  have ht2 : cur2.toList.take ((i + (n - j)) * 3) = cur.toList.take (i * 3) ++ cs := by
    rw [hcur2, hcur1, hk]
    simp only [List.toList_toArray]
    have e1 : (cur.toList.take (i * 3) ++ cs ++ cur.toList.drop (i * 3 + cs.length)).take ((i + (n - j)) * 3) = cur.toList.take (i * 3) ++ cs := by
      rw [List.take_append_of_le_length (by simp only [List.length_append, List.length_take]; omega), List.take_of_length_le (by simp only [List.length_append, List.length_take]; omega)]
    rw [List.append_assoc, List.take_append_of_le_length (by rw [e1]; simp only [List.length_append, List.length_take]; omega), List.take_take, Nat.min_self, e1]
  have happ : ∀ (a : Addr), (n - j = 0 ∨ a = ⟨g, j * 3, none⟩) → ∀ ty sc, (Builtin.append_ #[75, 75] ty #[.slice (some ⟨g, 0, none⟩) i c, .slice (some a) (n - j) sc]).run Tryd.prog w.drew = .ok (.slice (some ⟨g, 0, none⟩) (i + (n - j)) c) (w.drew.setRow g cur1) := fun a ha ty sc => by
    rw [hcur1]
    exact run_append_room (P := Tryd.prog) w.drew 75 ty 79 inf hu hinf g i c cur hgd a (n - j) sc cs (by rw [hk]; exact hl) (fun t v ht => by
      rcases ha with ha | rfl
      · rw [ha] at hl
        rw [List.length_eq_zero_iff.1 (by omega : cs.length = 0)] at ht
        cases ht
      · rw [hcs1, List.getElem?_take] at ht
        split at ht
        · rw [Addr.add_lit]
          simp only [World.cell?, hgd]
          simpa using ht
        · cases ht) hone (by omega) (by rw [hk, hl]; omega)
  have hclr : ∀ (W : World), W.heap = (w.drew.setRow g cur1).heap → ∀ ty sc, (Builtin.clear_ #[75] ty #[.slice (some ⟨g, (i + (n - j)) * 3, none⟩) (n - (i + (n - j))) sc]).run Tryd.prog W = .ok (.tuple #[]) (W.setRow g cur2) := fun W hW ty sc => by
    have hgW : W.heap[g]? = some (.cells cur1 79 (0, 0)) := by rw [hW]; exact setRow_heap _ _ _ _ _ _ hgd
    have hst := run_storeCells_at Tryd.prog g ((i + (n - j)) * 3) 79 zs 0 cur1 W hgW (by rw [hzl, ← Array.length_toList, hcl1]; omega) hzo
    simp only [Nat.add_zero] at hst
    rw [← hcur2, hzs1] at hst
    obtain ⟨r, hr⟩ : ∃ r, n - (i + (n - j)) = r + 1 := ⟨j - i - 1, by omega⟩
    rw [hr] at hst ⊢
    simp [Builtin.clear_, run_underlying hu, zeroValue, typeInfo, hinf, hz, hst]
  have hb1 : (0 : Int) ≤ (i : Int) := by omega
  have hw1 : ¬ (c = i + (n - j)) := by omega
  have hj1 : (j : Int) ≤ (n : Int) := by omega
  have hj2 : (i : Int) ≤ (j : Int) := by omega
  have mixed : Tryd.prog.follows Departure.mixedOrders = true := by kernel_rfl
  have hic : i ≤ c := by omega
  have hfin : cur2.size = cur.size ∧ cur2.toList.take ((i + (n - j)) * 3) = cur.toList.take (i * 3) ++ (cur.toList.drop (j * 3)).take ((n - j) * 3) := by
    rw [← hcs1]; exact ⟨hs2, ht2⟩
  clear ht2 hs2 hs1 hcl1 hone hl hzl hzo hzs1 hcur2 hcur1 hcs1 hz1c hzs hz hk hinf hcl h1c hcs hgd hg
  clear cs zs z inf
  by_cases hcj : c = j
  · obtain rfl : n = c := by omega
    obtain rfl : n = j := hcj
    have happ0 : ∀ (a : Addr) ty sc, (Builtin.append_ #[75, 75] ty #[.slice (some ⟨g, 0, none⟩) i n, .slice (some a) 0 sc]).run Tryd.prog w.drew = .ok (.slice (some ⟨g, 0, none⟩) i n) (w.drew.setRow g cur1) := fun a ty sc => by
      have := happ a (.inl (Nat.sub_self n)) ty sc
      rw [Nat.sub_self, Nat.add_zero] at this
      exact this
    have hclr0 : ∀ (W : World), W.heap = (w.drew.setRow g cur1).heap → ∀ ty sc, (Builtin.clear_ #[75] ty #[.slice (some ⟨g, i * 3, none⟩) (n - i) sc]).run Tryd.prog W = .ok (.tuple #[]) (W.setRow g cur2) := by
      rw [Nat.sub_self, Nat.add_zero] at hclr
      exact hclr
    have hw2 : ¬ n = i := by omega
    have hfin0 : Ending.returned (.slice (some ⟨g, 0, none⟩) i n) = .returned (.slice (some ⟨g, 0, none⟩) (i + (n - n)) n) := by rw [Nat.sub_self, Nat.add_zero]
    clear happ hclr
    go_enter Tryd.func117, Tryd.ntmps117
    go_wp2
    go_region_law_o (refine step_append_runI rfl _ _ 75 75 rfl _ _ (by simp [Act.eval, Act.put]) (by simp [Act.eval, Act.put]) (happ0 ⟨g, 0, none⟩ _ 0) ?_)
    go_wp2_with (refine wpList_clear_runI _ rfl _ 75 rfl _ rfl (hclr0 _ rfl _ _) ?_)
    go_ret
    exact ⟨cur2, hfin0, hfin.1, hfin.2, by rw [setRow_setRow]⟩
  · go_enter Tryd.func117, Tryd.ntmps117
    go_wp2
    go_region_law_o (refine step_append_runI rfl _ _ 75 75 rfl _ _ (by simp [Act.eval, Act.put]) (by simp [Act.eval, Act.put]) (happ ⟨g, j * 3, none⟩ (.inr rfl) _ (c - j)) ?_)
    go_wp2_with (refine wpList_clear_runI _ rfl _ 75 rfl _ rfl (hclr _ rfl _ _) ?_)
    go_ret
    exact ⟨cur2, rfl, hfin.1, hfin.2, by rw [setRow_setRow]⟩
theorem c_DeleteK (w : World) (s : Value) (i j : Nat) (R : List (List Value)) (hs : owns w s 79 [.str, .str, .int .i64] R) (hij : i < j) (hj : j ≤ R.length) :
    Calls Tryd.prog 117 #[s, .int .i64 i, .int .i64 j] w fun e w' => ∃ v', e = .returned v' ∧ givesR w w' s v' 79 [.str, .str, .int .i64] (R.take i ++ R.drop j) := by
  obtain ⟨hk1, hl1, ho⟩ := hs
  have hrl1 : ∀ r ∈ R, r.length = 3 := fun r hr => (hk1 r hr).length
  rcases ho with ⟨-, hn⟩ | ⟨g, c, cur, rfl, -, hg, hnc, hcm, hcs, htk⟩
  · omega
  replace hcs : cur.size = c * 3 := hcs
  replace htk : cur.toList.take (R.length * 3) = R.flatten := htk
  refine (del_in w g R.length c i j cur hij hj hnc hcm hg hcs (fun v hv => by rw [htk] at hv; exact rows_one hk1 v hv)).mono ?_
  rintro e w' ⟨cur2, rfl, q1, q2, rfl⟩
  have hgd : w.drew.heap[g]? = some (.cells cur 79 (0, 0)) := hg
  have t1 : cur.toList.take (i * 3) = (R.take i).flatten := by
    rw [← flatten_takeI i hrl1, ← htk, List.take_take, Nat.min_eq_left (by omega)]
  have t2 : (cur.toList.drop (j * 3)).take ((R.length - j) * 3) = (R.drop j).flatten := by
    rw [← flatten_dropI j hrl1, ← htk, List.drop_take, Nat.sub_mul]
  have hrows : ∀ r ∈ R.take i ++ R.drop j, rowOk [.str, .str, .int .i64] r := by
    intro r hr
    rcases List.mem_append.1 hr with hr | hr
    · exact hk1 r (List.mem_of_mem_take hr)
    · exact hk1 r (List.mem_of_mem_drop hr)
  have hlen : (R.take i ++ R.drop j).length = i + (R.length - j) := by simp; omega
  refine ⟨_, rfl, ⟨hrows, ?_, .inr ⟨g, c, cur2, by rw [hlen], Nat.zero_le _, setRow_heap _ _ _ _ _ _ hgd, by omega, hcm, q1.trans hcs, ?_⟩⟩, fun k hk => .inl hk, ⟨rfl, rfl, rfl, by rw [setRow_size]; exact Nat.le_refl _, fun k hk hkr => setRow_other _ _ _ _ (fun e => hkr (by rw [e]; rfl))⟩⟩
  · exact flatten_length (fun r hr => (hrows r hr).length)
  · rw [hlen]
    show cur2.toList.take ((i + (R.length - j)) * 3) = _
    rw [q2, t1, t2, List.flatten_append]
end Go.Proofs.YtkalmhdckoocbaaDoor
