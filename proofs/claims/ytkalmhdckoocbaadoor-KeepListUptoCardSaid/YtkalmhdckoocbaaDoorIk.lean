/-
  The library's Insert and Delete at a type of elements. By an AI agent.
-/
import Derived.Test.YtkalmhdckoocbaaDoorIa
import Derived.Test.YtkalmhdckoocbaaDoorEnv
set_option linter.unusedSimpArgs false
set_option linter.unusedVariables false
namespace Go.Proofs.YtkalmhdckoocbaaDoor
open Go Go.Sx Go.Shelf Go.RowKit Go.Lib
set_option maxHeartbeats 4000000 in
set_option maxRecDepth 100000 in
theorem ins_none (w : World) (b : Option Addr) (n c i : Nat) (vb : Option Addr) (vc : Nat) (hi : i ≤ n) (hc : n ≤ c) (hb : b = none → c = 0) :
    Calls Tryd.prog 118 #[.slice b n c, .int .i64 i, .slice vb 0 vc] w fun e w' => e = .returned (.slice b n c) ∧ w' = w := by
  go_enter Tryd.func118, Tryd.ntmps118
  go_wp2
  all_goals (go_ret; exact ⟨rfl, rfl⟩)
set_option maxHeartbeats 4000000 in
set_option maxRecDepth 100000 in
theorem ins_end (w : World) (b : Option Addr) (n c : Nat) (vb : Option Addr) (m vc : Nat) (hm : 0 < m) (hc : n ≤ c) (hb : b = none → c = 0) (v' : Value) (w' : World)
    (hrun : ∀ ty, (Builtin.append_ #[75, 75] ty #[.slice b n c, .slice vb m vc]).run Tryd.prog w = .ok v' w') :
    Calls Tryd.prog 118 #[.slice b n c, .int .i64 n, .slice vb m vc] w fun e w1 => e = .returned v' ∧ w1 = w' := by
  have hz1 : ¬ ((m : Int) = 0) := by omega
  go_enter Tryd.func118, Tryd.ntmps118
  go_wp2_with (at_builtin; refine Lib.wpList_append_run _ rfl _ _ _ _ rfl _ _ rfl rfl _ _ (hrun _) ?_)
  all_goals (go_ret; exact ⟨rfl, rfl⟩)
set_option maxHeartbeats 4000000 in
set_option maxRecDepth 100000 in
/-- There is room: in place. -/
theorem ins_shift (w : World) (g n c i vb m vc : Nat) (cs vs : List Value) (cur vcur cur2 : Array Value) (hi : i < n) (hm : 0 < m) (hroom : n + m ≤ c) (hc63 : c ≤ 9223372036854775807) (hvb : vb ≠ g)
    (hg : w.heap[g]? = some (.cells cur 79 (0, 0))) (hcs : cur.size = c * 3) (hv : w.heap[vb]? = some (.cells vcur 79 (0, 0))) (hvl : m * 3 ≤ vcur.size)
    (e1 : cs = (cur.toList.drop (i * 3)).take ((n - i) * 3)) (e2 : vs = vcur.toList.take (m * 3)) (h1c : ∀ v ∈ cs, v.oneCell' = true) (h1v : ∀ v ∈ vs, v.oneCell' = true)
    (e3 : cur2.toList = cur.toList.take (i * 3) ++ vs ++ cs ++ cur.toList.drop ((n + m) * 3)) :
    Calls Tryd.prog 118 #[.slice (some ⟨g, 0, none⟩) n c, .int .i64 i, .slice (some ⟨vb, 0, none⟩) m vc] w fun e w' => e = .returned (.slice (some ⟨g, 0, none⟩) (n + m) c) ∧ w' = w.drew.setRow g cur2 := by
  have hz1 : ¬ ((m : Int) = 0) := by omega
  have hz2 : ¬ ((i : Int) = (n : Int)) := by omega
  have hw1 : IntKind.i64.wrap ((i : Int) + (m : Int)) = (i : Int) + (m : Int) := by rw [IntKind.wrap_i64]; omega
  have hw2 : IntKind.i64.wrap ((n : Int) + (m : Int)) = (n : Int) + (m : Int) := by rw [IntKind.wrap_i64]; omega
  have hb1 : (0 : Int) ≤ (i : Int) + (m : Int) := by omega
  have hin : i ≤ n := by omega
  have htn : ((i : Int) + (m : Int)).toNat = i + m := by omega
  have htn2 : ((n : Int) + (m : Int)).toNat = n + m := by omega
  have hb2 : ¬ (c = i + m) := by omega
  have hb3 : (i : Int) ≤ (n : Int) + (m : Int) := by omega
  have hb4 : ¬ (c = i) := by omega
  have hsz : (Tryd.prog.info? 79).map (·.size) = some 3 := by kernel_rfl
  have hso : ∀ w, (Go.sizeOf 79).run Tryd.prog w = .ok 3 w := fun w => by
    cases hq : Tryd.prog.info? 79 with
    | none => rw [hq] at hsz; simp at hsz
    | some i => rw [hq] at hsz; simp at hsz; simp [sizeOf, typeInfo, hq, hsz]
  have hu := Tryd.underlying75
  have hov : ∀ o lb cb, (callFunc 132 #[.slice (some ⟨vb, 0, none⟩) m vc, .slice (some ⟨g, o, none⟩) lb cb]).run Tryd.prog w = .ok (.value (.bool false)) w := fun o lb cb => by
    rw [run_callFunc_extern Tryd.func132 (by kernel_rfl) (by kernel_rfl) (by kernel_rfl) (e := Extern.SlicesOverlaps.overlaps #[75, 75] #[4]) (by kernel_rfl),
      Lib.run_overlaps_apart w 75 4 79 hu 3 hso ⟨vb, 0, none⟩ ⟨g, o, none⟩ m vc lb cb hvb 79 79 vcur.size cur.size (by simp [World.shape?, hv]) (by simp [World.shape?, hg]) (by omega) (by simp [World.frozen?, hv]) (by simp [World.frozen?, hv])]
    rfl
  have hcl : cs.length = (n - i) * 3 := by rw [e1]; simp; omega
  have hvl2 : vs.length = m * 3 := by rw [e2]; simp; omega
  have hgd : w.drew.heap[g]? = some (.cells cur 79 (0, 0)) := hg
  have hcp1 : ∀ ty dc sc, (Builtin.copy_ #[75, 75] ty #[.slice (some ⟨g, (i + m) * 3, none⟩) (n + m - (i + m)) dc, .slice (some ⟨g, i * 3, none⟩) (n + m - i) sc]).run Tryd.prog w.drew = .ok (goInt ((n - i : Nat) : Int)) (w.drew.setRow g (cur.toList.take ((i + m) * 3) ++ cs ++ cur.toList.drop ((i + m) * 3 + cs.length)).toArray) := fun ty dc sc =>
    run_copy_rows (P := Tryd.prog) w.drew 75 75 ty 79 3 g ((i + m) * 3) (n + m - (i + m)) dc ⟨g, i * 3, none⟩ (n + m - i) sc cur 79 cs (n - i) (by omega) hu hsz hgd hcl (fun j v hj => by
      rw [e1, List.getElem?_take] at hj
      split at hj
      · rw [Addr.add_lit]
        simp only [World.cell?, hgd]
        simpa using hj
      · cases hj) (by rw [hcl]; omega) h1c
  obtain ⟨cur1, hcur1⟩ : ∃ cur1 : Array Value, cur1 = (cur.toList.take ((i + m) * 3) ++ cs ++ cur.toList.drop ((i + m) * 3 + cs.length)).toArray := ⟨_, rfl⟩
  rw [← hcur1] at hcp1
  have hs1 : cur1.size = cur.size := by
    rw [hcur1]; simp only [List.size_toArray, List.length_append, List.length_take, List.length_drop, Array.length_toList, hcl]; omega
  have hcp2 : ∀ (W : World), W.heap = (w.drew.setRow g cur1).heap → ∀ ty dc, (Builtin.copy_ #[75, 75] ty #[.slice (some ⟨g, i * 3, none⟩) (n + m - i) dc, .slice (some ⟨vb, 0, none⟩) m vc]).run Tryd.prog W = .ok (goInt m) (W.setRow g cur2) := fun W hW ty dc => by
    have hgW : W.heap[g]? = some (.cells cur1 79 (0, 0)) := by rw [hW]; exact setRow_heap _ _ _ _ _ _ hgd
    have hvW : W.heap[vb]? = some (.cells vcur 79 (0, 0)) := by rw [hW, setRow_other _ _ _ _ hvb]; exact hv
    have := run_copy_rows (P := Tryd.prog) W 75 75 ty 79 3 g (i * 3) (n + m - i) dc ⟨vb, 0, none⟩ m vc cur1 79 vs m (by omega) hu hsz hgW hvl2 (fun j v hj => by
      rw [e2, List.getElem?_take] at hj
      split at hj
      · rw [Addr.add_lit]
        simp only [World.cell?, hvW, Nat.zero_add]
        simpa using hj
      · cases hj) (by rw [hvl2, hs1]; omega) h1v
    rw [this]
    congr 2
    apply Array.toList_inj.1
    rw [e3, hcur1]
    simp only [List.toList_toArray]
    rw [splice2 cur.toList cs vs (i * 3) ((i + m) * 3) ((n + m) * 3) (by rw [hvl2]; omega) (by rw [hcl]; omega) (by simp; omega)]
  have mixed : Tryd.prog.follows Departure.mixedOrders = true := by kernel_rfl
  go_enter Tryd.func118, Tryd.ntmps118
  go_wp2_with (simp only [hov])
  go_region_law_o (refine step_copy_runI rfl _ _ 75 75 rfl _ _ (by simp [Act.eval, Act.put]) (by simp [Act.eval, Act.put]) (hcp1 _ _ _) ?_)
  go_wp2_with (at_builtin; refine wpList_copy_runI _ rfl _ _ 75 75 rfl _ _ rfl rfl (hcp2 _ rfl _ _) ?_)
  go_ret
  first | exact ⟨rfl, rfl⟩ | exact ⟨rfl, by rw [setRow_setRow]⟩
set_option maxHeartbeats 4000000 in
set_option maxRecDepth 100000 in
/-- There is no room: a new row. -/
theorem ins_grow (w : World) (g n c i vb m vc : Nat) (hd cs vs : List Value) (cur vcur : Array Value) (hi : i < n) (hm : 0 < m) (hnc : n ≤ c) (hroom : c < n + m) (hbig : (n + m) * 40 ≤ 140737488355328)
    (hg : w.heap[g]? = some (.cells cur 79 (0, 0))) (hcs : cur.size = c * 3) (hv : w.heap[vb]? = some (.cells vcur 79 (0, 0))) (hvl : m * 3 ≤ vcur.size)
    (e0 : hd = cur.toList.take (i * 3)) (e1 : cs = (cur.toList.drop (i * 3)).take ((n - i) * 3)) (e2 : vs = vcur.toList.take (m * 3)) (h1c : ∀ v ∈ cs, v.oneCell' = true) (h1v : ∀ v ∈ vs, v.oneCell' = true) :
    Calls Tryd.prog 118 #[.slice (some ⟨g, 0, none⟩) n c, .int .i64 i, .slice (some ⟨vb, 0, none⟩) m vc] w fun e w' => ∃ (G : Nat) (cur3 : Array Value), e = .returned (.slice (some ⟨w.heap.size, 0, none⟩) (n + m) G) ∧ n + m ≤ G ∧ G ≤ maxLen ∧ cur3.size = G * 3 ∧ cur3.toList.take ((n + m) * 3) = hd ++ vs ++ cs ∧
      w'.heap[w.heap.size]? = some (.cells cur3 79 (0, 0)) ∧ w.grownBy w' none := by
  have hz1 : ¬ ((m : Int) = 0) := by omega
  have hz2 : ¬ ((i : Int) = (n : Int)) := by omega
  have hz3 : (c : Int) < (n : Int) + (m : Int) := by omega
  have hw1 : IntKind.i64.wrap ((i : Int) + (m : Int)) = (i : Int) + (m : Int) := by rw [IntKind.wrap_i64]; omega
  have hb1 : (0 : Int) ≤ (i : Int) + (m : Int) := by omega
  have hin : i ≤ n := by omega
  have htn : ((i : Int) + (m : Int)).toNat = i + m := by omega
  have hb3 : (i : Int) ≤ (n : Int) := by omega
  have hu := Tryd.underlying75
  have hsz : (Tryd.prog.info? 79).map (·.size) = some 3 := by kernel_rfl
  obtain ⟨i0, hi0⟩ : ∃ i0, Tryd.prog.info? 79 = some i0 := by
    cases hq : Tryd.prog.info? 79 with
    | none => rw [hq] at hsz; simp at hsz
    | some i => exact ⟨i, rfl⟩
  have hk : i0.size = 3 := by rw [hi0] at hsz; simpa using hsz
  have hby : i0.bytes = 40 := by
    have : (Tryd.prog.info? 79).map (·.bytes) = some 40 := by kernel_rfl
    rw [hi0] at this; simpa using this
  obtain ⟨z, hz, hzs⟩ : ∃ z, i0.zero = some z ∧ z.cells.size = 3 := by
    have : (Tryd.prog.info? 79).bind (fun i => i.zero.map (fun z => z.cells.size)) = some 3 := by kernel_rfl
    rw [hi0] at this
    simp only [Option.bind_some, Option.map_eq_some_iff] at this
    exact this
  have hbw : g < w.heap.size := (Array.getElem?_eq_some_iff.1 hg).1
  have hvw : vb < w.heap.size := (Array.getElem?_eq_some_iff.1 hv).1
  have hkk : (n : Int) + (m : Int) - (i : Int) = ((n + m - i : Nat) : Int) := by omega
  have hik : i + (n + m - i) = n + m := by omega
  have hgd : w.drew.heap[g]? = some (.cells cur 79 (0, 0)) := hg
  have hhl : hd.length = i * 3 := by rw [e0]; simp; omega
  have hold : (Builtin.firstCells i0.size i (.slice (some ⟨g, 0, none⟩) i c)).run Tryd.prog w.drew = .ok hd.toArray w.drew := by
    rw [hk]
    exact run_firstCells_some w.drew 3 i ⟨g, 0, none⟩ i c hd hhl (fun j v hj => by
      rw [Addr.add_lit]
      rw [e0, List.getElem?_take] at hj
      split at hj
      · simp only [World.cell?, hgd, Nat.zero_add]
        simpa using hj
      · cases hj)
  have hrz : ∀ ty, (Builtin.append_ #[75, 3] ty #[.slice (some ⟨g, 0, none⟩) i c, .int .i64 ((n : Int) + (m : Int) - (i : Int))]).run Tryd.prog w =
      .ok (.slice (some ⟨w.heap.size, 0, none⟩) (n + m) (grownCap w (n + m) c 79)) (w.drew.alloc (.cells (hd.toArray ++ Builtin.zeroCells z.cells (n + m - i) ++ Builtin.zeroCells z.cells (grownCap w (n + m) c 79 - (n + m))) 79)) := fun ty => by
    have h := Lib.run_append_grow_zeros w 75 3 ty 79 i0 z .i64 .i64 hu Tryd.underlying3 hi0 hz (some ⟨g, 0, none⟩) i c hd hold (n + m - i) (by omega) (by omega) (by omega) (by omega) (by rw [hby]; omega) (by rw [hby, hik]; exact growslice_fits hroom hbig)
    rw [hik] at h
    rw [hkk]
    exact h
  obtain ⟨G, hG⟩ : ∃ G, G = grownCap w (n + m) c 79 := ⟨_, rfl⟩
  obtain ⟨ROW, hROW⟩ : ∃ ROW : Array Value, ROW = hd.toArray ++ Builtin.zeroCells z.cells (n + m - i) ++ Builtin.zeroCells z.cells (G - (n + m)) := ⟨_, rfl⟩
  rw [← hG] at hrz
  rw [← hROW] at hrz
  have hGn : n + m ≤ G := by rw [hG]; exact grownCap_ge w _ _ _
  have hG63 : G ≤ maxLen := by
    have := grownCap_le_maxLen w (n + m) c 79 (by unfold maxLen; omega)
    rw [← hG] at this
    exact this
  have hG63' : G ≤ 9223372036854775807 := hG63
  have hRl : ROW.size = G * 3 := by
    rw [hROW]
    simp only [Array.size_append, List.size_toArray, zeroCells_size, hzs, hhl]
    omega
  have hRt : ROW.toList.take (i * 3) = hd := by
    rw [hROW]
    simp only [Array.toList_append, List.toList_toArray, List.append_assoc]
    rw [List.take_append_of_le_length (by omega), List.take_of_length_le (by omega)]
  have hcl : cs.length = (n - i) * 3 := by rw [e1]; simp; omega
  have hvl2 : vs.length = m * 3 := by rw [e2]; simp; omega
  obtain ⟨W1, hW1⟩ : ∃ W1, W1 = w.drew.alloc (.cells ROW 79) := ⟨_, rfl⟩
  rw [← hW1] at hrz
  have hN : W1.heap[w.heap.size]? = some (.cells ROW 79 (0, 0)) := by rw [hW1]; exact heap_alloc_new w.drew _
  have hO : ∀ k, k < w.heap.size → W1.heap[k]? = w.heap[k]? := fun k hk => by rw [hW1]; exact heap_alloc_old w.drew _ hk
  obtain ⟨cur2, hcur2⟩ : ∃ cur2 : Array Value, cur2 = (ROW.toList.take (i * 3) ++ vs ++ ROW.toList.drop (i * 3 + vs.length)).toArray := ⟨_, rfl⟩
  obtain ⟨cur3, hcur3⟩ : ∃ cur3 : Array Value, cur3 = (cur2.toList.take ((i + m) * 3) ++ cs ++ cur2.toList.drop ((i + m) * 3 + cs.length)).toArray := ⟨_, rfl⟩
  have hs2 : cur2.size = ROW.size := by
    rw [hcur2]; simp only [List.size_toArray, List.length_append, List.length_take, List.length_drop, Array.length_toList, hvl2]; omega
  have hs3 : cur3.size = ROW.size := by
    rw [hcur3]; simp only [List.size_toArray, List.length_append, List.length_take, List.length_drop, Array.length_toList, hcl, hs2]; omega
  have ht3 : cur3.toList.take ((n + m) * 3) = hd ++ vs ++ cs := by
    rw [hcur3, hcur2]
    simp only [List.toList_toArray]
    rw [hRt, splice3 hd vs cs _ ((i + m) * 3) (by omega)]
    rw [List.take_append_of_le_length (by simp only [List.length_append]; omega), List.take_of_length_le (by simp only [List.length_append]; omega)]
  have hcpA : ∀ (W : World), W.heap = W1.heap → ∀ ty dc, (Builtin.copy_ #[75, 75] ty #[.slice (some ⟨w.heap.size, i * 3, none⟩) (n + m - i) dc, .slice (some ⟨vb, 0, none⟩) m vc]).run Tryd.prog W = .ok (goInt m) (W.setRow w.heap.size cur2) := fun W hW ty dc => by
    rw [hcur2]
    exact run_copy_rows (P := Tryd.prog) W 75 75 ty 79 3 w.heap.size (i * 3) (n + m - i) dc ⟨vb, 0, none⟩ m vc ROW 79 vs m (by omega) hu hsz (by rw [hW]; exact hN) hvl2 (fun j v hj => by
      rw [e2, List.getElem?_take] at hj
      split at hj
      · rw [Addr.add_lit]
        simp only [World.cell?, hW, hO vb hvw, hv, Nat.zero_add]
        simpa using hj
      · cases hj) (by rw [hvl2, hRl]; omega) h1v
  have hcpB : ∀ (W : World), W.heap = (W1.setRow w.heap.size cur2).heap → ∀ ty dc sc, (Builtin.copy_ #[75, 75] ty #[.slice (some ⟨w.heap.size, (i + m) * 3, none⟩) (n + m - (i + m)) dc, .slice (some ⟨g, i * 3, none⟩) (n - i) sc]).run Tryd.prog W = .ok (goInt ((n - i : Nat) : Int)) (W.setRow w.heap.size cur3) := fun W hW ty dc sc => by
    rw [hcur3]
    exact run_copy_rows (P := Tryd.prog) W 75 75 ty 79 3 w.heap.size ((i + m) * 3) (n + m - (i + m)) dc ⟨g, i * 3, none⟩ (n - i) sc cur2 79 cs (n - i) (by omega) hu hsz (by rw [hW]; exact setRow_heap _ _ _ _ _ _ hN) hcl (fun j v hj => by
      rw [e1, List.getElem?_take] at hj
      split at hj
      · rw [Addr.add_lit]
        simp only [World.cell?, hW, setRow_other _ _ _ _ (Nat.ne_of_lt hbw), hO g hbw, hg]
        simpa using hj
      · cases hj) (by rw [hcl, hs2, hRl]; omega) h1c
  have hGi : ¬ (G = i) := by omega
  have hGim : ¬ (G = i + m) := by omega
  have hci : ¬ (c = i) := by omega
  have hfin : ∀ W : World, W.heap = (W1.setRow w.heap.size cur2).heap → W.os = w.os → W.tape = w.tape → W.output = w.output → ∃ (G' : Nat) (cur4 : Array Value), Ending.returned (.slice (some ⟨w.heap.size, 0, none⟩) (n + m) G) = .returned (.slice (some ⟨w.heap.size, 0, none⟩) (n + m) G') ∧ n + m ≤ G' ∧ G' ≤ maxLen ∧ cur4.size = G' * 3 ∧ cur4.toList.take ((n + m) * 3) = hd ++ vs ++ cs ∧
      (W.setRow w.heap.size cur3).heap[w.heap.size]? = some (.cells cur4 79 (0, 0)) ∧ w.grownBy (W.setRow w.heap.size cur3) none := by
    intro W hW ho ht hou
    refine ⟨G, cur3, rfl, hGn, hG63, by rw [hs3, hRl], ht3, setRow_heap _ _ _ _ _ _ (by rw [hW]; exact setRow_heap _ _ _ _ _ _ hN), ⟨ho, ht, hou, ?_, fun k hk _ => ?_⟩⟩
    · rw [setRow_size, hW, setRow_size, hW1]; exact Nat.le_of_lt (by show w.heap.size < (w.heap.push _).size; rw [Array.size_push]; omega)
    · rw [setRow_other _ _ _ _ (by omega), hW, setRow_other _ _ _ _ (by omega)]; exact hO k hk
  subst hW1
  have mixed : Tryd.prog.follows Departure.mixedOrders = true := by kernel_rfl
  have hE1 : ((w.alloc (.cells ROW 79)).drew).heap = (w.drew.alloc (.cells ROW 79)).heap := rfl
  have hF1 : (((w.alloc (.cells ROW 79)).drew.setRow w.heap.size cur2).drew).heap = ((w.drew.alloc (.cells ROW 79)).setRow w.heap.size cur2).heap := rfl
  clear hkk hik hold hROW hG hRl hcur2 hcur3 hs2 hs3 ht3 hRt
  go_enter Tryd.func118, Tryd.ntmps118
  go_wp2_with (first
    | (at_builtin; refine Lib.wpList_append_run _ rfl _ _ _ _ rfl _ _ rfl rfl _ _ (hrz _) ?_)
    | (at_builtin; refine wpList_copy_runI _ rfl _ _ 75 75 rfl _ _ rfl rfl (hcpA _ hE1 _ _) ?_)
    | (at_builtin; refine wpList_copy_runI _ rfl _ _ 75 75 rfl _ _ rfl rfl (hcpB _ hF1 _ _ _) ?_))
  go_region_law_o (refine step_copy_runI rfl _ _ 75 75 rfl (.slice (some ⟨w.heap.size, (i + m) * 3, none⟩) (n + m - (i + m)) (G - (i + m))) (.slice (some ⟨g, i * 3, none⟩) (n - i) (c - i)) (by simp [Act.eval, Act.put]) (by simp [Act.eval, Act.put]) (hcpB _ hF1 3 (G - (i + m)) (c - i)) ?_)
  go_wp2
  go_ret
  exact hfin _ rfl rfl rfl rfl
set_option maxHeartbeats 1000000 in
theorem c_InsertK (w : World) (s v : Value) (i : Nat) (R V : List (List Value)) (hs : owns w s 79 [.str, .str, .int .i64] R) (hv : owns w v 79 [.str, .str, .int .i64] V) (hne : ∀ k, blockOf s k → blockOf v k → False) (hi : i ≤ R.length) (hb : (R.length + V.length) * 40 ≤ 140737488355328) :
    Calls Tryd.prog 118 #[s, .int .i64 i, v] w fun e w' => ∃ v', e = .returned v' ∧ givesR w w' s v' 79 [.str, .str, .int .i64] (R.take i ++ V ++ R.drop i) := by
  have hs' := hs
  have hv' := hv
  obtain ⟨hk1, hl1, ho⟩ := hs
  obtain ⟨hk2, hl2, hov⟩ := hv
  have hu := Tryd.underlying75
  have hrl1 : ∀ r ∈ R, r.length = 3 := fun r hr => (hk1 r hr).length
  have hrl2 : ∀ r ∈ V, r.length = 3 := fun r hr => (hk2 r hr).length
  obtain ⟨inf, hinf⟩ : ∃ i0, Tryd.prog.info? 79 = some i0 := by
    have : (Tryd.prog.info? 79).isSome = true := by kernel_rfl
    exact Option.isSome_iff_exists.1 this
  have hk : inf.size = 3 := by
    have : (Tryd.prog.info? 79).map (·.size) = some 3 := by kernel_rfl
    rw [hinf] at this; simpa using this
  have hby : inf.bytes = 40 := by
    have : (Tryd.prog.info? 79).map (·.bytes) = some 40 := by kernel_rfl
    rw [hinf] at this; simpa using this
  obtain ⟨z, hz, hzs⟩ : ∃ z, inf.zero = some z ∧ z.cells.size = 3 := by
    have : (Tryd.prog.info? 79).bind (fun i => i.zero.map (fun z => z.cells.size)) = some 3 := by kernel_rfl
    rw [hinf] at this
    simp only [Option.bind_some, Option.map_eq_some_iff] at this
    exact this
  have hbase : ∀ {v : Value} {n : Nat} {xs : List Value}, ((v = .slice none 0 0 ∧ n = 0) ∨ ∃ g cap cur, v = .slice (some ⟨g, 0, none⟩) n cap ∧ 0 ≤ g ∧ w.heap[g]? = some (.cells cur 79 (0, 0)) ∧ n ≤ cap ∧ cap ≤ maxLen ∧ cur.size = cap * 3 ∧ cur.toList.take (n * 3) = xs) → ∃ b c, v = .slice b n c ∧ n ≤ c ∧ (b = none → c = 0) := by
    intro v n xs h
    rcases h with ⟨rfl, rfl⟩ | ⟨g, cap, cur, rfl, -, -, h, -⟩
    · exact ⟨none, 0, rfl, Nat.le_refl _, fun _ => rfl⟩
    · exact ⟨some ⟨g, 0, none⟩, cap, rfl, h, fun h => by cases h⟩
  by_cases hV : V = []
  · subst hV
    obtain ⟨b, c, rfl, hc1, hc2⟩ := hbase ho
    obtain ⟨vb, vc, rfl, -, -⟩ := hbase hov
    refine (ins_none w b R.length c i vb vc hi hc1 hc2).mono ?_
    rintro e w' ⟨rfl, rfl⟩
    exact ⟨_, rfl, by simpa using hs', fun k hk => .inl hk, grown_refl _ _⟩
  have hVl : 0 < V.length := List.length_pos_iff.2 hV
  by_cases hin : i = R.length
  · subst hin
    obtain ⟨b, c, rfl, hc1, hc2⟩ := hbase ho
    obtain ⟨vb, vc, rfl, -, -⟩ := hbase hov
    obtain ⟨v', w', h1, h2, h3, h4⟩ := run_append (ks := [.str, .str, .int .i64]) (ty := 75) hu hinf hz hk hzs hby (by decide) hs' hv'.reads hb (by decide)
    have hrun : ∀ ty, (Builtin.append_ #[75, 75] ty #[.slice b R.length c, .slice vb V.length vc]).run Tryd.prog w = .ok v' w' := fun ty => h1
    refine (ins_end w b R.length c vb V.length vc hVl hc1 hc2 v' w' hrun).mono ?_
    rintro e w1 ⟨rfl, rfl⟩
    exact ⟨_, rfl, by simpa using h2, h4, h3⟩
  have hin : i < R.length := by omega
  rcases ho with ⟨-, hn⟩ | ⟨g, c, cur, rfl, -, hg, hnc, hcm, hcs, htk⟩
  · omega
  rcases hov with ⟨-, hn⟩ | ⟨vb, vc, vcur, rfl, -, hvg, hvn, -, hvs, hvt⟩
  · omega
  replace hcs : cur.size = c * 3 := hcs
  replace hvs : vcur.size = vc * 3 := hvs
  replace htk : cur.toList.take (R.length * 3) = R.flatten := htk
  replace hvt : vcur.toList.take (V.length * 3) = V.flatten := hvt
  replace hl1 : R.flatten.length = R.length * 3 := hl1
  have hcl2 : cur.toList.length = c * 3 := by rw [Array.length_toList]; exact hcs
  replace hl2 : V.flatten.length = V.length * 3 := hl2
  have hvb : vb ≠ g := fun e => hne g rfl (by rw [← e]; rfl)
  have t1 : cur.toList.take (i * 3) = (R.take i).flatten := by
    rw [← flatten_takeI i hrl1, ← htk, List.take_take, Nat.min_eq_left (by omega)]
  have t2 : (cur.toList.drop (i * 3)).take ((R.length - i) * 3) = (R.drop i).flatten := by
    rw [← flatten_dropI i hrl1, ← htk, List.drop_take, Nat.sub_mul]
  have o1 : ∀ x ∈ (R.drop i).flatten, x.oneCell' = true := rows_one fun r hr => hk1 r (List.mem_of_mem_drop hr)
  have o2 : ∀ x ∈ V.flatten, x.oneCell' = true := rows_one hk2
  have hrows : ∀ r ∈ R.take i ++ V ++ R.drop i, rowOk [.str, .str, .int .i64] r := by
    intro r hr
    simp only [List.mem_append] at hr
    rcases hr with (hr | hr) | hr
    · exact hk1 r (List.mem_of_mem_take hr)
    · exact hk2 r hr
    · exact hk1 r (List.mem_of_mem_drop hr)
  have hlen : (R.take i ++ V ++ R.drop i).length = R.length + V.length := by simp; omega
  have hfl : (R.take i ++ V ++ R.drop i).flatten.length = (R.length + V.length) * 3 := by
    have := flatten_length (n := 3) (fun r hr => (hrows r hr).length)
    rw [hlen] at this
    exact this
  by_cases hroom : R.length + V.length ≤ c
  · obtain ⟨cur2, hcur2⟩ : ∃ cur2 : Array Value, cur2 = (cur.toList.take (i * 3) ++ V.flatten ++ (R.drop i).flatten ++ cur.toList.drop ((R.length + V.length) * 3)).toArray := ⟨_, rfl⟩
    refine (ins_shift w g R.length c i vb V.length vc (R.drop i).flatten V.flatten cur vcur cur2 hin hVl hroom hcm hvb hg hcs hvg (by omega) t2.symm hvt.symm o1 o2 (by rw [hcur2])).mono ?_
    rintro e w' ⟨rfl, rfl⟩
    have hgd : w.drew.heap[g]? = some (.cells cur 79 (0, 0)) := hg
    refine ⟨_, rfl, ⟨hrows, ?_, .inr ⟨g, c, cur2, by rw [hlen], Nat.zero_le _, setRow_heap _ _ _ _ _ _ hgd, by omega, hcm, ?_, ?_⟩⟩, fun k hk => .inl hk, ⟨rfl, rfl, rfl, by rw [setRow_size]; exact Nat.le_refl _, fun k hk hkr => setRow_other _ _ _ _ (fun e => hkr (by rw [e]; rfl))⟩⟩
    · rw [hfl, hlen]; rfl
    · show cur2.size = c * 3
      rw [hcur2]
      have : (cur.toList.take (i * 3) ++ V.flatten ++ (R.drop i).flatten).length = (R.length + V.length) * 3 := by
        rw [t1, ← hfl]; simp [List.flatten_append]
      rw [List.size_toArray, List.length_append, this, List.length_drop, hcl2]; omega
    · have : cur.toList.take (i * 3) ++ V.flatten ++ (R.drop i).flatten = (R.take i ++ V ++ R.drop i).flatten := by
        rw [t1]; simp [List.flatten_append]
      show cur2.toList.take (_ * 3) = _
      rw [hcur2, List.toList_toArray, this, hlen, List.take_append_of_le_length (by omega), List.take_of_length_le (by omega)]
  · refine (ins_grow w g R.length c i vb V.length vc (R.take i).flatten (R.drop i).flatten V.flatten cur vcur hin hVl hnc (by omega) (by omega) hg hcs hvg (by omega) t1.symm t2.symm hvt.symm o1 o2).mono ?_
    rintro e w' ⟨G, cur3, rfl, q1, q2, q3, q4, q5, q6⟩
    refine ⟨_, rfl, ⟨hrows, ?_, .inr ⟨w.heap.size, G, cur3, by rw [hlen], Nat.zero_le _, q5, by omega, q2, q3, ?_⟩⟩, fun k hk => .inr ?_, ⟨q6.os, q6.tape, q6.output, q6.size, fun k hk _ => q6.block k hk (by simp)⟩⟩
    · rw [hfl, hlen]; rfl
    · rw [hlen]
      show cur3.toList.take ((R.length + V.length) * 3) = _
      rw [q4]; simp [List.flatten_append]
    · have : w.heap.size = k := Option.some.inj hk
      omega
end Go.Proofs.YtkalmhdckoocbaaDoor
