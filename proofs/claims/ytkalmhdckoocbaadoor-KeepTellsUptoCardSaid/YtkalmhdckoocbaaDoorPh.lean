/-
  What is kept: the law KeepTells. By an AI agent.
-/
import Derived.Test.YtkalmhdckoocbaaDoorPf
set_option linter.unusedSimpArgs false
set_option linter.unusedVariables false
namespace Go.Proofs.YtkalmhdckoocbaaDoor
open Go.Sx
theorem putC_len (l : List Kp) (n p : List UInt8) : (putC l n p).1.length ≤ l.length + 1 := by
  unfold putC rawK
  split
  · split
    · simp
    split
    · simp; omega
    split
    · simp
    split
    · simp
    split
    · simp
    · simp; omega
  · simp
theorem listC_len (l : List Kp) (f : List UInt8) : (listC l f).1.length ≤ l.length := by
  unfold listC
  split
  · exact List.length_filter_le _ _
  · simp
theorem raw_nilK (l : List Kp) (n p : List UInt8) : (rawK l n p).1 = if (rawK l n p).2 = 0 then (rawK l n p).1 else [] := by
  split
  · rfl
  · rename_i h
    unfold rawK at h ⊢
    split at h
    · rename_i h1; rw [if_pos h1]
    rename_i h1; rw [if_neg h1]
    split at h
    · exact absurd rfl h
    rename_i h2; rw [if_neg h2]
    split at h
    · exact absurd rfl h
    rename_i h3; rw [if_neg h3]
    split at h
    · exact absurd rfl h
    rename_i h4; rw [if_neg h4]
    split at h
    · rename_i h5; rw [if_pos h5]
    · exact absurd rfl h
set_option maxHeartbeats 4000000 in
theorem c_KeepTells (w : World) (v : Value) (l : List Kp) (n p : List UInt8) (hv : readsK w v l) (hs : smallK l) (hl : l.length < 100000000) (hn : n.length < 4294967281) : Calls Tryd.prog 12 #[sc1 v, .string ⟨n.toArray⟩, .string ⟨p.toArray⟩] w
    fun e w' => e = .returned (.bool true) ∧ Mod [] w w' := by
  refine as_called (run_tree2 (ρ := [.v v, .r (l.map encK), .s n, .s p]) sxE_ok Tryd.func12 tree_dragomanlaw_KeepTells rfl rfl (Rel.start2 (by simp [Ent.holds, Ent.wr, hv, X.ev])) rfl rfl ?_) rfl
  simp only [Tree.goal, X.P, X.ev, V.toI_i, V.toB_b, V.toS_s, V.toR_r, V.toV_v, V.toN_n, V.toL_l, SV.ev, CV.ev, Sc.ev, List.getD_cons_zero, List.getD_cons_succ, List.getElem?_cons_zero, List.getElem?_cons_succ, List.map_cons, List.map_nil, List.length_cons, List.length_nil, List.cons_append, List.nil_append, Nat.zero_add, Nat.reduceAdd]
  have lP := putC_len l n p
  have lL := listC_len l n
  intro w1 hr
  refine (c_Put w1 v l n p (by (first | exact readsK_nil _ | (have hq := hr; repeat (first | exact hq.hd | exact hq.hd.reads | replace hq := hq.tl)))) hs (by omega) hn).mono ?_
  generalize eP : putC l n p = P at lP
  obtain ⟨P, eP'⟩ := P
  rintro e w2 ⟨u, rfl, g1, g2, gm⟩
  refine ⟨[.v u, .r (P.map encK), .i eP'], rfl, rfl, gm, List.forall_mem_nil _, List.forall_mem_cons.2 ⟨⟨g1, fun k hk => .inl (g2 k hk.2)⟩, List.forall_mem_nil _⟩, apart_one, ?_⟩
  clear g1 g2 gm hr
  simp only [Tree.goal, X.P, X.ev, V.toI_i, V.toB_b, V.toS_s, V.toR_r, V.toV_v, V.toN_n, V.toL_l, SV.ev, CV.ev, Sc.ev, List.getD_cons_zero, List.getD_cons_succ, List.getElem?_cons_zero, List.getElem?_cons_succ, List.map_cons, List.map_nil, List.length_cons, List.length_nil, List.cons_append, List.nil_append, Nat.zero_add, Nat.reduceAdd, List.length_map, Int.toNat_natCast, gK0, gK1, gK2]
  generalize eG : getC l n = G
  obtain ⟨⟨G1, G2, G3⟩, G4⟩ := G
  refine ⟨[.s G1, .s G2, .i G3, .i G4], rfl, fun _ w' hr => by
    have := c_Get w' v l n (by (first | exact readsK_nil _ | (have hq := hr; repeat (first | exact hq.hd | exact hq.hd.reads | replace hq := hq.tl)))) hs (by omega) hn
    rw [eG] at this
    exact this, ?_⟩
  simp only [Tree.goal, X.P, X.ev, V.toI_i, V.toB_b, V.toS_s, V.toR_r, V.toV_v, V.toN_n, V.toL_l, SV.ev, CV.ev, Sc.ev, List.getD_cons_zero, List.getD_cons_succ, List.getElem?_cons_zero, List.getElem?_cons_succ, List.map_cons, List.map_nil, List.length_cons, List.length_nil, List.cons_append, List.nil_append, Nat.zero_add, Nat.reduceAdd, List.length_map, Int.toNat_natCast, gK0, gK1, gK2]
  intro b1 w1 hr
  refine (c_List w1 v l n (by (first | exact readsK_nil _ | (have hq := hr; repeat (first | exact hq.hd | exact hq.hd.reads | replace hq := hq.tl)))) hs (by omega) hn).mono ?_
  generalize eL : listC l n = L at lL
  obtain ⟨L, eL'⟩ := L
  rintro e w2 ⟨u2, rfl, g1, g2, gm⟩
  refine ⟨[.v u2, .r (L.map encK), .i eL'], rfl, rfl, gm, List.forall_mem_nil _, List.forall_mem_cons.2 ⟨⟨g1, fun k hk => .inl (g2 k hk.2)⟩, List.forall_mem_nil _⟩, apart_one, ?_⟩
  clear g1 g2 gm hr
  simp only [Tree.goal, X.P, X.ev, V.toI_i, V.toB_b, V.toS_s, V.toR_r, V.toV_v, V.toN_n, V.toL_l, SV.ev, CV.ev, Sc.ev, List.getD_cons_zero, List.getD_cons_succ, List.getElem?_cons_zero, List.getElem?_cons_succ, List.map_cons, List.map_nil, List.length_cons, List.length_nil, List.cons_append, List.nil_append, Nat.zero_add, Nat.reduceAdd, List.length_map, Int.toNat_natCast, gK0, gK1, gK2]
  refine ⟨[.i (chkK l)], rfl, fun _ w' hr => c_CheckKept w' v l (by (first | exact readsK_nil _ | (have hq := hr; repeat (first | exact hq.hd | exact hq.hd.reads | replace hq := hq.tl)))) hs (by omega), ?_⟩
  simp only [Tree.goal, X.P, X.ev, V.toI_i, V.toB_b, V.toS_s, V.toR_r, V.toV_v, V.toN_n, V.toL_l, SV.ev, CV.ev, Sc.ev, List.getD_cons_zero, List.getD_cons_succ, List.getElem?_cons_zero, List.getElem?_cons_succ, List.map_cons, List.map_nil, List.length_cons, List.length_nil, List.cons_append, List.nil_append, Nat.zero_add, Nat.reduceAdd, List.length_map, Int.toNat_natCast, gK0, gK1, gK2]
  simp only at lP lL
  refine ⟨fun (h0 : chkK l = 0) => ?_, fun (h0 : ¬chkK l = 0) => ?_⟩
  · obtain ⟨k1, k2, k3⟩ := chkK_iff.1 h0
    simp only [dragomanlaw_KeepTells_8, Tree.goal, X.P, X.ev, V.toI_i, V.toB_b, V.toS_s, V.toR_r, V.toV_v, V.toN_n, V.toL_l, SV.ev, CV.ev, Sc.ev, List.getD_cons_zero, List.getD_cons_succ, List.getElem?_cons_zero, List.getElem?_cons_succ, List.map_cons, List.map_nil, List.length_cons, List.length_nil, List.cons_append, List.nil_append, Nat.zero_add, Nat.reduceAdd, List.length_map, Int.toNat_natCast, gK0, gK1, gK2]
    refine ⟨[.i (chkT n false)], rfl, fun _ w' _ => c_CheckTopic w' n false hn, ?_⟩
    simp only [Tree.goal, X.P, X.ev, V.toI_i, V.toB_b, V.toS_s, V.toR_r, V.toV_v, V.toN_n, V.toL_l, SV.ev, CV.ev, Sc.ev, List.getD_cons_zero, List.getD_cons_succ, List.getElem?_cons_zero, List.getElem?_cons_succ, List.map_cons, List.map_nil, List.length_cons, List.length_nil, List.cons_append, List.nil_append, Nat.zero_add, Nat.reduceAdd, List.length_map, Int.toNat_natCast, gK0, gK1, gK2]
    refine ⟨[.i (chkT n true)], rfl, fun _ w' _ => c_CheckTopic w' n true hn, ?_⟩
    simp only [Tree.goal, X.P, X.ev, V.toI_i, V.toB_b, V.toS_s, V.toR_r, V.toV_v, V.toN_n, V.toL_l, SV.ev, CV.ev, Sc.ev, List.getD_cons_zero, List.getD_cons_succ, List.getElem?_cons_zero, List.getElem?_cons_succ, List.map_cons, List.map_nil, List.length_cons, List.length_nil, List.cons_append, List.nil_append, Nat.zero_add, Nat.reduceAdd, List.length_map, Int.toNat_natCast, gK0, gK1, gK2]
    intro b2
    refine ⟨fun (h1 : chkT n false = 0) => ?_, fun (h1 : ¬chkT n false = 0) => ?_⟩
    · have hPe : putC l n p = rawK l n p := by rw [putC, if_pos (by rw [putE, if_pos h0, h1])]
      have hP1 : eP' = (rawK l n p).2 := by rw [eP] at hPe; exact congrArg Prod.snd hPe
      have hP2 : P = if (rawK l n p).2 = 0 then (rawK l n p).1 else [] := by rw [eP] at hPe; rw [← raw_nilK]; exact congrArg Prod.fst hPe
      have hGe : getC l n = if hasK l n = true then (l.getD (idx l n) kD, 0) else (kD, 5) := by rw [getC, if_pos (by rw [putE, if_pos h0, h1])]
      rw [eG] at hGe
      simp only [dragomanlaw_KeepTells_5, Tree.goal, X.P, X.ev, V.toI_i, V.toB_b, V.toS_s, V.toR_r, V.toV_v, V.toN_n, V.toL_l, SV.ev, CV.ev, Sc.ev, List.getD_cons_zero, List.getD_cons_succ, List.getElem?_cons_zero, List.getElem?_cons_succ, List.map_cons, List.map_nil, List.length_cons, List.length_nil, List.cons_append, List.nil_append, Nat.zero_add, Nat.reduceAdd, List.length_map, Int.toNat_natCast, gK0, gK1, gK2]
      intro w1 hr
      refine (c_PutOf w1 v l n p (by (first | exact readsK_nil _ | (have hq := hr; repeat (first | exact hq.hd | exact hq.hd.reads | replace hq := hq.tl)))) h0 hs hn).mono ?_
      rintro e w2 ⟨u3, rfl, g1, g2, gm⟩
      refine ⟨[.v u3, .r ((rawK l n p).1.map encK), .i (rawK l n p).2], rfl, rfl, gm, List.forall_mem_nil _, List.forall_mem_cons.2 ⟨⟨g1, fun k hk => .inl (g2 k hk.2)⟩, List.forall_mem_nil _⟩, apart_one, ?_⟩
      clear g1 g2 gm hr
      simp only [Tree.goal, X.P, X.ev, V.toI_i, V.toB_b, V.toS_s, V.toR_r, V.toV_v, V.toN_n, V.toL_l, SV.ev, CV.ev, Sc.ev, List.getD_cons_zero, List.getD_cons_succ, List.getElem?_cons_zero, List.getElem?_cons_succ, List.map_cons, List.map_nil, List.length_cons, List.length_nil, List.cons_append, List.nil_append, Nat.zero_add, Nat.reduceAdd, List.length_map, Int.toNat_natCast, gK0, gK1, gK2]
      refine ⟨[.i (if hasK l n = true then (idx l n : Int) else -1)], rfl, fun _ w' hr => c_KeptAt w' v l n (by (first | exact readsK_nil _ | (have hq := hr; repeat (first | exact hq.hd | exact hq.hd.reads | replace hq := hq.tl)))) k3 (by omega), ?_⟩
      simp only [Tree.goal, X.P, X.ev, V.toI_i, V.toB_b, V.toS_s, V.toR_r, V.toV_v, V.toN_n, V.toL_l, SV.ev, CV.ev, Sc.ev, List.getD_cons_zero, List.getD_cons_succ, List.getElem?_cons_zero, List.getElem?_cons_succ, List.map_cons, List.map_nil, List.length_cons, List.length_nil, List.cons_append, List.nil_append, Nat.zero_add, Nat.reduceAdd, List.length_map, Int.toNat_natCast, gK0, gK1, gK2]
      by_cases h2 : hasK l n = true
      · have hlt := (of_decide_eq_true h2).1
        rw [if_pos h2] at hGe ⊢
        have hG1 : G1 = (l.getD (idx l n) kD).1 := congrArg (fun x => x.1.1) hGe
        have hG2 : G2 = (l.getD (idx l n) kD).2.1 := congrArg (fun x => x.1.2.1) hGe
        have hG3 : G3 = (l.getD (idx l n) kD).2.2 := congrArg (fun x => x.1.2.2) hGe
        have hG4 : G4 = 0 := congrArg (fun x => x.2) hGe
        try simp only [Int.toNat_natCast, gK0, gK1, gK2]
        refine ⟨fun h => absurd h (by omega), fun _ => ⟨by omega, by omega, ?_⟩⟩
        refine ⟨fun (h3 : chkT n true = 0) => ?_, fun (h3 : ¬chkT n true = 0) => ?_⟩
        · have hL1 : eL' = chkT n true := by
            have : listC l n = (l.filter (forF n), 0) := by rw [listC, if_pos (by rw [listE, if_pos h0, h3])]
            rw [eL] at this; rw [h3]; exact congrArg Prod.snd this
          have hL2 : L = if chkT n true = 0 then l.filter (forF n) else [] := by
            have : listC l n = (l.filter (forF n), 0) := by rw [listC, if_pos (by rw [listE, if_pos h0, h3])]
            rw [eL] at this; rw [if_pos h3]; exact congrArg Prod.fst this
          simp only [dragomanlaw_KeepTells_3, Tree.goal, X.P, X.ev, V.toI_i, V.toB_b, V.toS_s, V.toR_r, V.toV_v, V.toN_n, V.toL_l, SV.ev, CV.ev, Sc.ev, List.getD_cons_zero, List.getD_cons_succ, List.getElem?_cons_zero, List.getElem?_cons_succ, List.map_cons, List.map_nil, List.length_cons, List.length_nil, List.cons_append, List.nil_append, Nat.zero_add, Nat.reduceAdd, List.length_map, Int.toNat_natCast, gK0, gK1, gK2]
          intro w1 hr
          refine (c_ListOf w1 v l n (by (first | exact readsK_nil _ | (have hq := hr; repeat (first | exact hq.hd | exact hq.hd.reads | replace hq := hq.tl)))) hs (by omega) hn).mono ?_
          rintro e w2 ⟨u4, rfl, g1, g2, gm⟩
          refine ⟨[.v u4, .r ((l.filter (forF n)).map encK)], rfl, rfl, gm, List.forall_mem_nil _, List.forall_mem_cons.2 ⟨⟨g1, fun k hk => .inl (g2 k hk.2)⟩, List.forall_mem_nil _⟩, apart_one, ?_⟩
          clear g1 g2 gm hr
          simp only [Tree.goal, X.P, X.ev, V.toI_i, V.toB_b, V.toS_s, V.toR_r, V.toV_v, V.toN_n, V.toL_l, SV.ev, CV.ev, Sc.ev, List.getD_cons_zero, List.getD_cons_succ, List.getElem?_cons_zero, List.getElem?_cons_succ, List.map_cons, List.map_nil, List.length_cons, List.length_nil, List.cons_append, List.nil_append, Nat.zero_add, Nat.reduceAdd, List.length_map, Int.toNat_natCast, gK0, gK1, gK2]
          refine ⟨[.b true], rfl, fun _ w' _ => c_keepBegun w', ?_⟩
          simp only [Tree.goal, X.P, X.ev, V.toI_i, V.toB_b, V.toS_s, V.toR_r, V.toV_v, V.toN_n, V.toL_l, SV.ev, CV.ev, Sc.ev, List.getD_cons_zero, List.getD_cons_succ, List.getElem?_cons_zero, List.getElem?_cons_succ, List.map_cons, List.map_nil, List.length_cons, List.length_nil, List.cons_append, List.nil_append, Nat.zero_add, Nat.reduceAdd, List.length_map, Int.toNat_natCast, gK0, gK1, gK2]
          refine ⟨[.i (chkK l)], rfl, fun _ w' hr => c_CheckK w' v l (by (first | exact readsK_nil _ | (have hq := hr; repeat (first | exact hq.hd | exact hq.hd.reads | replace hq := hq.tl)))) hs (by omega), ?_⟩
          simp only [Tree.goal, X.P, X.ev, V.toI_i, V.toB_b, V.toS_s, V.toR_r, V.toV_v, V.toN_n, V.toL_l, SV.ev, CV.ev, Sc.ev, List.getD_cons_zero, List.getD_cons_succ, List.getElem?_cons_zero, List.getElem?_cons_succ, List.map_cons, List.map_nil, List.length_cons, List.length_nil, List.cons_append, List.nil_append, Nat.zero_add, Nat.reduceAdd, List.length_map, Int.toNat_natCast, gK0, gK1, gK2]
          refine ⟨[.i (chkK l)], rfl, fun _ w' hr => c_CheckKept w' v l (by (first | exact readsK_nil _ | (have hq := hr; repeat (first | exact hq.hd | exact hq.hd.reads | replace hq := hq.tl)))) hs (by omega), ?_⟩
          simp only [Tree.goal, X.P, X.ev, V.toI_i, V.toB_b, V.toS_s, V.toR_r, V.toV_v, V.toN_n, V.toL_l, SV.ev, CV.ev, Sc.ev, List.getD_cons_zero, List.getD_cons_succ, List.getElem?_cons_zero, List.getElem?_cons_succ, List.map_cons, List.map_nil, List.length_cons, List.length_nil, List.cons_append, List.nil_append, Nat.zero_add, Nat.reduceAdd, List.length_map, Int.toNat_natCast, gK0, gK1, gK2]
          refine ⟨[.b true], rfl, fun _ w' hr => c_kAre w' _ _ P (rawK l n p).1 eP' ((rawK l n p).2) (by (first | exact readsK_nil _ | (have hq := hr; repeat (first | exact hq.hd | exact hq.hd.reads | replace hq := hq.tl)))) (by (first | exact readsK_nil _ | (have hq := hr; repeat (first | exact hq.hd | exact hq.hd.reads | replace hq := hq.tl)))) (by omega) hP1 hP2, ?_⟩
          simp only [Tree.goal, X.P, X.ev, V.toI_i, V.toB_b, V.toS_s, V.toR_r, V.toV_v, V.toN_n, V.toL_l, SV.ev, CV.ev, Sc.ev, List.getD_cons_zero, List.getD_cons_succ, List.getElem?_cons_zero, List.getElem?_cons_succ, List.map_cons, List.map_nil, List.length_cons, List.length_nil, List.cons_append, List.nil_append, Nat.zero_add, Nat.reduceAdd, List.length_map, Int.toNat_natCast, gK0, gK1, gK2]
          refine ⟨[.b true], rfl, fun _ w' hr => c_kAre w' _ _ L (l.filter (forF n)) eL' (chkT n true) (by (first | exact readsK_nil _ | (have hq := hr; repeat (first | exact hq.hd | exact hq.hd.reads | replace hq := hq.tl)))) (by (first | exact readsK_nil _ | (have hq := hr; repeat (first | exact hq.hd | exact hq.hd.reads | replace hq := hq.tl)))) (by omega) hL1 hL2, ?_⟩
          simp only [Tree.goal, X.P, X.ev, V.toI_i, V.toB_b, V.toS_s, V.toR_r, V.toV_v, V.toN_n, V.toL_l, SV.ev, CV.ev, Sc.ev, List.getD_cons_zero, List.getD_cons_succ, List.getElem?_cons_zero, List.getElem?_cons_succ, List.map_cons, List.map_nil, List.length_cons, List.length_nil, List.cons_append, List.nil_append, Nat.zero_add, Nat.reduceAdd, List.length_map, Int.toNat_natCast, gK0, gK1, gK2]
          refine fun w' hr => ⟨?_, hr.mod⟩
          simp [hG1, hG2, hG3, hG4, h1]
        · have hL1 : eL' = chkT n true := by
            have : listC l n = ([], chkT n true) := by rw [listC, if_neg (by rw [listE, if_pos h0]; exact h3), listE, if_pos h0]
            rw [eL] at this; exact congrArg Prod.snd this
          have hL2 : L = if chkT n true = 0 then [] else [] := by
            have : listC l n = ([], chkT n true) := by rw [listC, if_neg (by rw [listE, if_pos h0]; exact h3), listE, if_pos h0]
            rw [eL] at this; rw [ite_self]; exact congrArg Prod.fst this
          simp only [dragomanlaw_KeepTells_4, Tree.goal, X.P, X.ev, V.toI_i, V.toB_b, V.toS_s, V.toR_r, V.toV_v, V.toN_n, V.toL_l, SV.ev, CV.ev, Sc.ev, List.getD_cons_zero, List.getD_cons_succ, List.getElem?_cons_zero, List.getElem?_cons_succ, List.map_cons, List.map_nil, List.length_cons, List.length_nil, List.cons_append, List.nil_append, Nat.zero_add, Nat.reduceAdd, List.length_map, Int.toNat_natCast, gK0, gK1, gK2]
          refine ⟨[.b true], rfl, fun _ w' _ => c_keepBegun w', ?_⟩
          simp only [Tree.goal, X.P, X.ev, V.toI_i, V.toB_b, V.toS_s, V.toR_r, V.toV_v, V.toN_n, V.toL_l, SV.ev, CV.ev, Sc.ev, List.getD_cons_zero, List.getD_cons_succ, List.getElem?_cons_zero, List.getElem?_cons_succ, List.map_cons, List.map_nil, List.length_cons, List.length_nil, List.cons_append, List.nil_append, Nat.zero_add, Nat.reduceAdd, List.length_map, Int.toNat_natCast, gK0, gK1, gK2]
          refine ⟨[.i (chkK l)], rfl, fun _ w' hr => c_CheckK w' v l (by (first | exact readsK_nil _ | (have hq := hr; repeat (first | exact hq.hd | exact hq.hd.reads | replace hq := hq.tl)))) hs (by omega), ?_⟩
          simp only [Tree.goal, X.P, X.ev, V.toI_i, V.toB_b, V.toS_s, V.toR_r, V.toV_v, V.toN_n, V.toL_l, SV.ev, CV.ev, Sc.ev, List.getD_cons_zero, List.getD_cons_succ, List.getElem?_cons_zero, List.getElem?_cons_succ, List.map_cons, List.map_nil, List.length_cons, List.length_nil, List.cons_append, List.nil_append, Nat.zero_add, Nat.reduceAdd, List.length_map, Int.toNat_natCast, gK0, gK1, gK2]
          refine ⟨[.i (chkK l)], rfl, fun _ w' hr => c_CheckKept w' v l (by (first | exact readsK_nil _ | (have hq := hr; repeat (first | exact hq.hd | exact hq.hd.reads | replace hq := hq.tl)))) hs (by omega), ?_⟩
          simp only [Tree.goal, X.P, X.ev, V.toI_i, V.toB_b, V.toS_s, V.toR_r, V.toV_v, V.toN_n, V.toL_l, SV.ev, CV.ev, Sc.ev, List.getD_cons_zero, List.getD_cons_succ, List.getElem?_cons_zero, List.getElem?_cons_succ, List.map_cons, List.map_nil, List.length_cons, List.length_nil, List.cons_append, List.nil_append, Nat.zero_add, Nat.reduceAdd, List.length_map, Int.toNat_natCast, gK0, gK1, gK2]
          refine ⟨[.b true], rfl, fun _ w' hr => c_kAre w' _ _ P (rawK l n p).1 eP' ((rawK l n p).2) (by (first | exact readsK_nil _ | (have hq := hr; repeat (first | exact hq.hd | exact hq.hd.reads | replace hq := hq.tl)))) (by (first | exact readsK_nil _ | (have hq := hr; repeat (first | exact hq.hd | exact hq.hd.reads | replace hq := hq.tl)))) (by omega) hP1 hP2, ?_⟩
          simp only [Tree.goal, X.P, X.ev, V.toI_i, V.toB_b, V.toS_s, V.toR_r, V.toV_v, V.toN_n, V.toL_l, SV.ev, CV.ev, Sc.ev, List.getD_cons_zero, List.getD_cons_succ, List.getElem?_cons_zero, List.getElem?_cons_succ, List.map_cons, List.map_nil, List.length_cons, List.length_nil, List.cons_append, List.nil_append, Nat.zero_add, Nat.reduceAdd, List.length_map, Int.toNat_natCast, gK0, gK1, gK2]
          refine ⟨[.b true], rfl, fun _ w' hr => c_kAre w' _ _ L [] eL' (chkT n true) (by (first | exact readsK_nil _ | (have hq := hr; repeat (first | exact hq.hd | exact hq.hd.reads | replace hq := hq.tl)))) (by (first | exact readsK_nil _ | (have hq := hr; repeat (first | exact hq.hd | exact hq.hd.reads | replace hq := hq.tl)))) (by omega) hL1 hL2, ?_⟩
          simp only [Tree.goal, X.P, X.ev, V.toI_i, V.toB_b, V.toS_s, V.toR_r, V.toV_v, V.toN_n, V.toL_l, SV.ev, CV.ev, Sc.ev, List.getD_cons_zero, List.getD_cons_succ, List.getElem?_cons_zero, List.getElem?_cons_succ, List.map_cons, List.map_nil, List.length_cons, List.length_nil, List.cons_append, List.nil_append, Nat.zero_add, Nat.reduceAdd, List.length_map, Int.toNat_natCast, gK0, gK1, gK2]
          refine fun w' hr => ⟨?_, hr.mod⟩
          simp [hG1, hG2, hG3, hG4, h1]
      · rw [if_neg h2] at hGe ⊢
        have hG1 : G1 = [] := congrArg (fun x => x.1.1) hGe
        have hG2 : G2 = [] := congrArg (fun x => x.1.2.1) hGe
        have hG3 : G3 = 0 := congrArg (fun x => x.1.2.2) hGe
        have hG4 : G4 = 5 := congrArg (fun x => x.2) hGe
        refine ⟨fun _ => ?_, fun h => absurd (by decide) h⟩
        refine ⟨fun (h3 : chkT n true = 0) => ?_, fun (h3 : ¬chkT n true = 0) => ?_⟩
        · have hL1 : eL' = chkT n true := by
            have : listC l n = (l.filter (forF n), 0) := by rw [listC, if_pos (by rw [listE, if_pos h0, h3])]
            rw [eL] at this; rw [h3]; exact congrArg Prod.snd this
          have hL2 : L = if chkT n true = 0 then l.filter (forF n) else [] := by
            have : listC l n = (l.filter (forF n), 0) := by rw [listC, if_pos (by rw [listE, if_pos h0, h3])]
            rw [eL] at this; rw [if_pos h3]; exact congrArg Prod.fst this
          simp only [dragomanlaw_KeepTells_1, Tree.goal, X.P, X.ev, V.toI_i, V.toB_b, V.toS_s, V.toR_r, V.toV_v, V.toN_n, V.toL_l, SV.ev, CV.ev, Sc.ev, List.getD_cons_zero, List.getD_cons_succ, List.getElem?_cons_zero, List.getElem?_cons_succ, List.map_cons, List.map_nil, List.length_cons, List.length_nil, List.cons_append, List.nil_append, Nat.zero_add, Nat.reduceAdd, List.length_map, Int.toNat_natCast, gK0, gK1, gK2]
          intro w1 hr
          refine (c_ListOf w1 v l n (by (first | exact readsK_nil _ | (have hq := hr; repeat (first | exact hq.hd | exact hq.hd.reads | replace hq := hq.tl)))) hs (by omega) hn).mono ?_
          rintro e w2 ⟨u4, rfl, g1, g2, gm⟩
          refine ⟨[.v u4, .r ((l.filter (forF n)).map encK)], rfl, rfl, gm, List.forall_mem_nil _, List.forall_mem_cons.2 ⟨⟨g1, fun k hk => .inl (g2 k hk.2)⟩, List.forall_mem_nil _⟩, apart_one, ?_⟩
          clear g1 g2 gm hr
          simp only [Tree.goal, X.P, X.ev, V.toI_i, V.toB_b, V.toS_s, V.toR_r, V.toV_v, V.toN_n, V.toL_l, SV.ev, CV.ev, Sc.ev, List.getD_cons_zero, List.getD_cons_succ, List.getElem?_cons_zero, List.getElem?_cons_succ, List.map_cons, List.map_nil, List.length_cons, List.length_nil, List.cons_append, List.nil_append, Nat.zero_add, Nat.reduceAdd, List.length_map, Int.toNat_natCast, gK0, gK1, gK2]
          refine ⟨[.b true], rfl, fun _ w' _ => c_keepBegun w', ?_⟩
          simp only [Tree.goal, X.P, X.ev, V.toI_i, V.toB_b, V.toS_s, V.toR_r, V.toV_v, V.toN_n, V.toL_l, SV.ev, CV.ev, Sc.ev, List.getD_cons_zero, List.getD_cons_succ, List.getElem?_cons_zero, List.getElem?_cons_succ, List.map_cons, List.map_nil, List.length_cons, List.length_nil, List.cons_append, List.nil_append, Nat.zero_add, Nat.reduceAdd, List.length_map, Int.toNat_natCast, gK0, gK1, gK2]
          refine ⟨[.i (chkK l)], rfl, fun _ w' hr => c_CheckK w' v l (by (first | exact readsK_nil _ | (have hq := hr; repeat (first | exact hq.hd | exact hq.hd.reads | replace hq := hq.tl)))) hs (by omega), ?_⟩
          simp only [Tree.goal, X.P, X.ev, V.toI_i, V.toB_b, V.toS_s, V.toR_r, V.toV_v, V.toN_n, V.toL_l, SV.ev, CV.ev, Sc.ev, List.getD_cons_zero, List.getD_cons_succ, List.getElem?_cons_zero, List.getElem?_cons_succ, List.map_cons, List.map_nil, List.length_cons, List.length_nil, List.cons_append, List.nil_append, Nat.zero_add, Nat.reduceAdd, List.length_map, Int.toNat_natCast, gK0, gK1, gK2]
          refine ⟨[.i (chkK l)], rfl, fun _ w' hr => c_CheckKept w' v l (by (first | exact readsK_nil _ | (have hq := hr; repeat (first | exact hq.hd | exact hq.hd.reads | replace hq := hq.tl)))) hs (by omega), ?_⟩
          simp only [Tree.goal, X.P, X.ev, V.toI_i, V.toB_b, V.toS_s, V.toR_r, V.toV_v, V.toN_n, V.toL_l, SV.ev, CV.ev, Sc.ev, List.getD_cons_zero, List.getD_cons_succ, List.getElem?_cons_zero, List.getElem?_cons_succ, List.map_cons, List.map_nil, List.length_cons, List.length_nil, List.cons_append, List.nil_append, Nat.zero_add, Nat.reduceAdd, List.length_map, Int.toNat_natCast, gK0, gK1, gK2]
          refine ⟨[.b true], rfl, fun _ w' hr => c_kAre w' _ _ P (rawK l n p).1 eP' ((rawK l n p).2) (by (first | exact readsK_nil _ | (have hq := hr; repeat (first | exact hq.hd | exact hq.hd.reads | replace hq := hq.tl)))) (by (first | exact readsK_nil _ | (have hq := hr; repeat (first | exact hq.hd | exact hq.hd.reads | replace hq := hq.tl)))) (by omega) hP1 hP2, ?_⟩
          simp only [Tree.goal, X.P, X.ev, V.toI_i, V.toB_b, V.toS_s, V.toR_r, V.toV_v, V.toN_n, V.toL_l, SV.ev, CV.ev, Sc.ev, List.getD_cons_zero, List.getD_cons_succ, List.getElem?_cons_zero, List.getElem?_cons_succ, List.map_cons, List.map_nil, List.length_cons, List.length_nil, List.cons_append, List.nil_append, Nat.zero_add, Nat.reduceAdd, List.length_map, Int.toNat_natCast, gK0, gK1, gK2]
          refine ⟨[.b true], rfl, fun _ w' hr => c_kAre w' _ _ L (l.filter (forF n)) eL' (chkT n true) (by (first | exact readsK_nil _ | (have hq := hr; repeat (first | exact hq.hd | exact hq.hd.reads | replace hq := hq.tl)))) (by (first | exact readsK_nil _ | (have hq := hr; repeat (first | exact hq.hd | exact hq.hd.reads | replace hq := hq.tl)))) (by omega) hL1 hL2, ?_⟩
          simp only [Tree.goal, X.P, X.ev, V.toI_i, V.toB_b, V.toS_s, V.toR_r, V.toV_v, V.toN_n, V.toL_l, SV.ev, CV.ev, Sc.ev, List.getD_cons_zero, List.getD_cons_succ, List.getElem?_cons_zero, List.getElem?_cons_succ, List.map_cons, List.map_nil, List.length_cons, List.length_nil, List.cons_append, List.nil_append, Nat.zero_add, Nat.reduceAdd, List.length_map, Int.toNat_natCast, gK0, gK1, gK2]
          refine fun w' hr => ⟨?_, hr.mod⟩
          simp [hG1, hG2, hG3, hG4, h1]
        · have hL1 : eL' = chkT n true := by
            have : listC l n = ([], chkT n true) := by rw [listC, if_neg (by rw [listE, if_pos h0]; exact h3), listE, if_pos h0]
            rw [eL] at this; exact congrArg Prod.snd this
          have hL2 : L = if chkT n true = 0 then [] else [] := by
            have : listC l n = ([], chkT n true) := by rw [listC, if_neg (by rw [listE, if_pos h0]; exact h3), listE, if_pos h0]
            rw [eL] at this; rw [ite_self]; exact congrArg Prod.fst this
          simp only [dragomanlaw_KeepTells_2, Tree.goal, X.P, X.ev, V.toI_i, V.toB_b, V.toS_s, V.toR_r, V.toV_v, V.toN_n, V.toL_l, SV.ev, CV.ev, Sc.ev, List.getD_cons_zero, List.getD_cons_succ, List.getElem?_cons_zero, List.getElem?_cons_succ, List.map_cons, List.map_nil, List.length_cons, List.length_nil, List.cons_append, List.nil_append, Nat.zero_add, Nat.reduceAdd, List.length_map, Int.toNat_natCast, gK0, gK1, gK2]
          refine ⟨[.b true], rfl, fun _ w' _ => c_keepBegun w', ?_⟩
          simp only [Tree.goal, X.P, X.ev, V.toI_i, V.toB_b, V.toS_s, V.toR_r, V.toV_v, V.toN_n, V.toL_l, SV.ev, CV.ev, Sc.ev, List.getD_cons_zero, List.getD_cons_succ, List.getElem?_cons_zero, List.getElem?_cons_succ, List.map_cons, List.map_nil, List.length_cons, List.length_nil, List.cons_append, List.nil_append, Nat.zero_add, Nat.reduceAdd, List.length_map, Int.toNat_natCast, gK0, gK1, gK2]
          refine ⟨[.i (chkK l)], rfl, fun _ w' hr => c_CheckK w' v l (by (first | exact readsK_nil _ | (have hq := hr; repeat (first | exact hq.hd | exact hq.hd.reads | replace hq := hq.tl)))) hs (by omega), ?_⟩
          simp only [Tree.goal, X.P, X.ev, V.toI_i, V.toB_b, V.toS_s, V.toR_r, V.toV_v, V.toN_n, V.toL_l, SV.ev, CV.ev, Sc.ev, List.getD_cons_zero, List.getD_cons_succ, List.getElem?_cons_zero, List.getElem?_cons_succ, List.map_cons, List.map_nil, List.length_cons, List.length_nil, List.cons_append, List.nil_append, Nat.zero_add, Nat.reduceAdd, List.length_map, Int.toNat_natCast, gK0, gK1, gK2]
          refine ⟨[.i (chkK l)], rfl, fun _ w' hr => c_CheckKept w' v l (by (first | exact readsK_nil _ | (have hq := hr; repeat (first | exact hq.hd | exact hq.hd.reads | replace hq := hq.tl)))) hs (by omega), ?_⟩
          simp only [Tree.goal, X.P, X.ev, V.toI_i, V.toB_b, V.toS_s, V.toR_r, V.toV_v, V.toN_n, V.toL_l, SV.ev, CV.ev, Sc.ev, List.getD_cons_zero, List.getD_cons_succ, List.getElem?_cons_zero, List.getElem?_cons_succ, List.map_cons, List.map_nil, List.length_cons, List.length_nil, List.cons_append, List.nil_append, Nat.zero_add, Nat.reduceAdd, List.length_map, Int.toNat_natCast, gK0, gK1, gK2]
          refine ⟨[.b true], rfl, fun _ w' hr => c_kAre w' _ _ P (rawK l n p).1 eP' ((rawK l n p).2) (by (first | exact readsK_nil _ | (have hq := hr; repeat (first | exact hq.hd | exact hq.hd.reads | replace hq := hq.tl)))) (by (first | exact readsK_nil _ | (have hq := hr; repeat (first | exact hq.hd | exact hq.hd.reads | replace hq := hq.tl)))) (by omega) hP1 hP2, ?_⟩
          simp only [Tree.goal, X.P, X.ev, V.toI_i, V.toB_b, V.toS_s, V.toR_r, V.toV_v, V.toN_n, V.toL_l, SV.ev, CV.ev, Sc.ev, List.getD_cons_zero, List.getD_cons_succ, List.getElem?_cons_zero, List.getElem?_cons_succ, List.map_cons, List.map_nil, List.length_cons, List.length_nil, List.cons_append, List.nil_append, Nat.zero_add, Nat.reduceAdd, List.length_map, Int.toNat_natCast, gK0, gK1, gK2]
          refine ⟨[.b true], rfl, fun _ w' hr => c_kAre w' _ _ L [] eL' (chkT n true) (by (first | exact readsK_nil _ | (have hq := hr; repeat (first | exact hq.hd | exact hq.hd.reads | replace hq := hq.tl)))) (by (first | exact readsK_nil _ | (have hq := hr; repeat (first | exact hq.hd | exact hq.hd.reads | replace hq := hq.tl)))) (by omega) hL1 hL2, ?_⟩
          simp only [Tree.goal, X.P, X.ev, V.toI_i, V.toB_b, V.toS_s, V.toR_r, V.toV_v, V.toN_n, V.toL_l, SV.ev, CV.ev, Sc.ev, List.getD_cons_zero, List.getD_cons_succ, List.getElem?_cons_zero, List.getElem?_cons_succ, List.map_cons, List.map_nil, List.length_cons, List.length_nil, List.cons_append, List.nil_append, Nat.zero_add, Nat.reduceAdd, List.length_map, Int.toNat_natCast, gK0, gK1, gK2]
          refine fun w' hr => ⟨?_, hr.mod⟩
          simp [hG1, hG2, hG3, hG4, h1]
    · have hPe : putC l n p = ([], chkT n false) := by rw [putC, if_neg (by rw [putE, if_pos h0]; exact h1), putE, if_pos h0]
      have hP1 : eP' = chkT n false := by rw [eP] at hPe; exact congrArg Prod.snd hPe
      have hP2 : P = if chkT n false = 0 then [] else [] := by rw [eP] at hPe; rw [ite_self]; exact congrArg Prod.fst hPe
      have hGe : getC l n = (kD, chkT n false) := by rw [getC, if_neg (by rw [putE, if_pos h0]; exact h1), putE, if_pos h0]
      rw [eG] at hGe
      have hG1 : G1 = [] := congrArg (fun x => x.1.1) hGe
      have hG2 : G2 = [] := congrArg (fun x => x.1.2.1) hGe
      have hG3 : G3 = 0 := congrArg (fun x => x.1.2.2) hGe
      have hG4 : G4 = chkT n false := congrArg (fun x => x.2) hGe
      refine ⟨fun (h3 : chkT n true = 0) => ?_, fun (h3 : ¬chkT n true = 0) => ?_⟩
      · have hL1 : eL' = chkT n true := by
          have : listC l n = (l.filter (forF n), 0) := by rw [listC, if_pos (by rw [listE, if_pos h0, h3])]
          rw [eL] at this; rw [h3]; exact congrArg Prod.snd this
        have hL2 : L = if chkT n true = 0 then l.filter (forF n) else [] := by
          have : listC l n = (l.filter (forF n), 0) := by rw [listC, if_pos (by rw [listE, if_pos h0, h3])]
          rw [eL] at this; rw [if_pos h3]; exact congrArg Prod.fst this
        simp only [dragomanlaw_KeepTells_6, Tree.goal, X.P, X.ev, V.toI_i, V.toB_b, V.toS_s, V.toR_r, V.toV_v, V.toN_n, V.toL_l, SV.ev, CV.ev, Sc.ev, List.getD_cons_zero, List.getD_cons_succ, List.getElem?_cons_zero, List.getElem?_cons_succ, List.map_cons, List.map_nil, List.length_cons, List.length_nil, List.cons_append, List.nil_append, Nat.zero_add, Nat.reduceAdd, List.length_map, Int.toNat_natCast, gK0, gK1, gK2]
        intro w1 hr
        refine (c_ListOf w1 v l n (by (first | exact readsK_nil _ | (have hq := hr; repeat (first | exact hq.hd | exact hq.hd.reads | replace hq := hq.tl)))) hs (by omega) hn).mono ?_
        rintro e w2 ⟨u4, rfl, g1, g2, gm⟩
        refine ⟨[.v u4, .r ((l.filter (forF n)).map encK)], rfl, rfl, gm, List.forall_mem_nil _, List.forall_mem_cons.2 ⟨⟨g1, fun k hk => .inl (g2 k hk.2)⟩, List.forall_mem_nil _⟩, apart_one, ?_⟩
        clear g1 g2 gm hr
        simp only [Tree.goal, X.P, X.ev, V.toI_i, V.toB_b, V.toS_s, V.toR_r, V.toV_v, V.toN_n, V.toL_l, SV.ev, CV.ev, Sc.ev, List.getD_cons_zero, List.getD_cons_succ, List.getElem?_cons_zero, List.getElem?_cons_succ, List.map_cons, List.map_nil, List.length_cons, List.length_nil, List.cons_append, List.nil_append, Nat.zero_add, Nat.reduceAdd, List.length_map, Int.toNat_natCast, gK0, gK1, gK2]
        refine ⟨[.b true], rfl, fun _ w' _ => c_keepBegun w', ?_⟩
        simp only [Tree.goal, X.P, X.ev, V.toI_i, V.toB_b, V.toS_s, V.toR_r, V.toV_v, V.toN_n, V.toL_l, SV.ev, CV.ev, Sc.ev, List.getD_cons_zero, List.getD_cons_succ, List.getElem?_cons_zero, List.getElem?_cons_succ, List.map_cons, List.map_nil, List.length_cons, List.length_nil, List.cons_append, List.nil_append, Nat.zero_add, Nat.reduceAdd, List.length_map, Int.toNat_natCast, gK0, gK1, gK2]
        refine ⟨[.i (chkK l)], rfl, fun _ w' hr => c_CheckK w' v l (by (first | exact readsK_nil _ | (have hq := hr; repeat (first | exact hq.hd | exact hq.hd.reads | replace hq := hq.tl)))) hs (by omega), ?_⟩
        simp only [Tree.goal, X.P, X.ev, V.toI_i, V.toB_b, V.toS_s, V.toR_r, V.toV_v, V.toN_n, V.toL_l, SV.ev, CV.ev, Sc.ev, List.getD_cons_zero, List.getD_cons_succ, List.getElem?_cons_zero, List.getElem?_cons_succ, List.map_cons, List.map_nil, List.length_cons, List.length_nil, List.cons_append, List.nil_append, Nat.zero_add, Nat.reduceAdd, List.length_map, Int.toNat_natCast, gK0, gK1, gK2]
        refine ⟨[.i (chkK l)], rfl, fun _ w' hr => c_CheckKept w' v l (by (first | exact readsK_nil _ | (have hq := hr; repeat (first | exact hq.hd | exact hq.hd.reads | replace hq := hq.tl)))) hs (by omega), ?_⟩
        simp only [Tree.goal, X.P, X.ev, V.toI_i, V.toB_b, V.toS_s, V.toR_r, V.toV_v, V.toN_n, V.toL_l, SV.ev, CV.ev, Sc.ev, List.getD_cons_zero, List.getD_cons_succ, List.getElem?_cons_zero, List.getElem?_cons_succ, List.map_cons, List.map_nil, List.length_cons, List.length_nil, List.cons_append, List.nil_append, Nat.zero_add, Nat.reduceAdd, List.length_map, Int.toNat_natCast, gK0, gK1, gK2]
        refine ⟨[.b true], rfl, fun _ w' hr => c_kAre w' _ _ P [] eP' (chkT n false) (by (first | exact readsK_nil _ | (have hq := hr; repeat (first | exact hq.hd | exact hq.hd.reads | replace hq := hq.tl)))) (by (first | exact readsK_nil _ | (have hq := hr; repeat (first | exact hq.hd | exact hq.hd.reads | replace hq := hq.tl)))) (by omega) hP1 hP2, ?_⟩
        simp only [Tree.goal, X.P, X.ev, V.toI_i, V.toB_b, V.toS_s, V.toR_r, V.toV_v, V.toN_n, V.toL_l, SV.ev, CV.ev, Sc.ev, List.getD_cons_zero, List.getD_cons_succ, List.getElem?_cons_zero, List.getElem?_cons_succ, List.map_cons, List.map_nil, List.length_cons, List.length_nil, List.cons_append, List.nil_append, Nat.zero_add, Nat.reduceAdd, List.length_map, Int.toNat_natCast, gK0, gK1, gK2]
        refine ⟨[.b true], rfl, fun _ w' hr => c_kAre w' _ _ L (l.filter (forF n)) eL' (chkT n true) (by (first | exact readsK_nil _ | (have hq := hr; repeat (first | exact hq.hd | exact hq.hd.reads | replace hq := hq.tl)))) (by (first | exact readsK_nil _ | (have hq := hr; repeat (first | exact hq.hd | exact hq.hd.reads | replace hq := hq.tl)))) (by omega) hL1 hL2, ?_⟩
        simp only [Tree.goal, X.P, X.ev, V.toI_i, V.toB_b, V.toS_s, V.toR_r, V.toV_v, V.toN_n, V.toL_l, SV.ev, CV.ev, Sc.ev, List.getD_cons_zero, List.getD_cons_succ, List.getElem?_cons_zero, List.getElem?_cons_succ, List.map_cons, List.map_nil, List.length_cons, List.length_nil, List.cons_append, List.nil_append, Nat.zero_add, Nat.reduceAdd, List.length_map, Int.toNat_natCast, gK0, gK1, gK2]
        refine fun w' hr => ⟨?_, hr.mod⟩
        simp [hG1, hG2, hG3, hG4]
      · have hL1 : eL' = chkT n true := by
          have : listC l n = ([], chkT n true) := by rw [listC, if_neg (by rw [listE, if_pos h0]; exact h3), listE, if_pos h0]
          rw [eL] at this; exact congrArg Prod.snd this
        have hL2 : L = if chkT n true = 0 then [] else [] := by
          have : listC l n = ([], chkT n true) := by rw [listC, if_neg (by rw [listE, if_pos h0]; exact h3), listE, if_pos h0]
          rw [eL] at this; rw [ite_self]; exact congrArg Prod.fst this
        simp only [dragomanlaw_KeepTells_7, Tree.goal, X.P, X.ev, V.toI_i, V.toB_b, V.toS_s, V.toR_r, V.toV_v, V.toN_n, V.toL_l, SV.ev, CV.ev, Sc.ev, List.getD_cons_zero, List.getD_cons_succ, List.getElem?_cons_zero, List.getElem?_cons_succ, List.map_cons, List.map_nil, List.length_cons, List.length_nil, List.cons_append, List.nil_append, Nat.zero_add, Nat.reduceAdd, List.length_map, Int.toNat_natCast, gK0, gK1, gK2]
        refine ⟨[.b true], rfl, fun _ w' _ => c_keepBegun w', ?_⟩
        simp only [Tree.goal, X.P, X.ev, V.toI_i, V.toB_b, V.toS_s, V.toR_r, V.toV_v, V.toN_n, V.toL_l, SV.ev, CV.ev, Sc.ev, List.getD_cons_zero, List.getD_cons_succ, List.getElem?_cons_zero, List.getElem?_cons_succ, List.map_cons, List.map_nil, List.length_cons, List.length_nil, List.cons_append, List.nil_append, Nat.zero_add, Nat.reduceAdd, List.length_map, Int.toNat_natCast, gK0, gK1, gK2]
        refine ⟨[.i (chkK l)], rfl, fun _ w' hr => c_CheckK w' v l (by (first | exact readsK_nil _ | (have hq := hr; repeat (first | exact hq.hd | exact hq.hd.reads | replace hq := hq.tl)))) hs (by omega), ?_⟩
        simp only [Tree.goal, X.P, X.ev, V.toI_i, V.toB_b, V.toS_s, V.toR_r, V.toV_v, V.toN_n, V.toL_l, SV.ev, CV.ev, Sc.ev, List.getD_cons_zero, List.getD_cons_succ, List.getElem?_cons_zero, List.getElem?_cons_succ, List.map_cons, List.map_nil, List.length_cons, List.length_nil, List.cons_append, List.nil_append, Nat.zero_add, Nat.reduceAdd, List.length_map, Int.toNat_natCast, gK0, gK1, gK2]
        refine ⟨[.i (chkK l)], rfl, fun _ w' hr => c_CheckKept w' v l (by (first | exact readsK_nil _ | (have hq := hr; repeat (first | exact hq.hd | exact hq.hd.reads | replace hq := hq.tl)))) hs (by omega), ?_⟩
        simp only [Tree.goal, X.P, X.ev, V.toI_i, V.toB_b, V.toS_s, V.toR_r, V.toV_v, V.toN_n, V.toL_l, SV.ev, CV.ev, Sc.ev, List.getD_cons_zero, List.getD_cons_succ, List.getElem?_cons_zero, List.getElem?_cons_succ, List.map_cons, List.map_nil, List.length_cons, List.length_nil, List.cons_append, List.nil_append, Nat.zero_add, Nat.reduceAdd, List.length_map, Int.toNat_natCast, gK0, gK1, gK2]
        refine ⟨[.b true], rfl, fun _ w' hr => c_kAre w' _ _ P [] eP' (chkT n false) (by (first | exact readsK_nil _ | (have hq := hr; repeat (first | exact hq.hd | exact hq.hd.reads | replace hq := hq.tl)))) (by (first | exact readsK_nil _ | (have hq := hr; repeat (first | exact hq.hd | exact hq.hd.reads | replace hq := hq.tl)))) (by omega) hP1 hP2, ?_⟩
        simp only [Tree.goal, X.P, X.ev, V.toI_i, V.toB_b, V.toS_s, V.toR_r, V.toV_v, V.toN_n, V.toL_l, SV.ev, CV.ev, Sc.ev, List.getD_cons_zero, List.getD_cons_succ, List.getElem?_cons_zero, List.getElem?_cons_succ, List.map_cons, List.map_nil, List.length_cons, List.length_nil, List.cons_append, List.nil_append, Nat.zero_add, Nat.reduceAdd, List.length_map, Int.toNat_natCast, gK0, gK1, gK2]
        refine ⟨[.b true], rfl, fun _ w' hr => c_kAre w' _ _ L [] eL' (chkT n true) (by (first | exact readsK_nil _ | (have hq := hr; repeat (first | exact hq.hd | exact hq.hd.reads | replace hq := hq.tl)))) (by (first | exact readsK_nil _ | (have hq := hr; repeat (first | exact hq.hd | exact hq.hd.reads | replace hq := hq.tl)))) (by omega) hL1 hL2, ?_⟩
        simp only [Tree.goal, X.P, X.ev, V.toI_i, V.toB_b, V.toS_s, V.toR_r, V.toV_v, V.toN_n, V.toL_l, SV.ev, CV.ev, Sc.ev, List.getD_cons_zero, List.getD_cons_succ, List.getElem?_cons_zero, List.getElem?_cons_succ, List.map_cons, List.map_nil, List.length_cons, List.length_nil, List.cons_append, List.nil_append, Nat.zero_add, Nat.reduceAdd, List.length_map, Int.toNat_natCast, gK0, gK1, gK2]
        refine fun w' hr => ⟨?_, hr.mod⟩
        simp [hG1, hG2, hG3, hG4]
  · have hPe : putC l n p = ([], chkK l) := by rw [putC, if_neg (by rw [putE, if_neg h0]; exact h0), putE, if_neg h0]
    have hP1 : eP' = chkK l := by rw [eP] at hPe; exact congrArg Prod.snd hPe
    have hP2 : P = if chkK l = 0 then [] else [] := by rw [eP] at hPe; rw [ite_self]; exact congrArg Prod.fst hPe
    have hGe : getC l n = (kD, chkK l) := by rw [getC, if_neg (by rw [putE, if_neg h0]; exact h0), putE, if_neg h0]
    rw [eG] at hGe
    have hG1 : G1 = [] := congrArg (fun x => x.1.1) hGe
    have hG2 : G2 = [] := congrArg (fun x => x.1.2.1) hGe
    have hG3 : G3 = 0 := congrArg (fun x => x.1.2.2) hGe
    have hG4 : G4 = chkK l := congrArg (fun x => x.2) hGe
    have hLe : listC l n = ([], chkK l) := by rw [listC, if_neg (by rw [listE, if_neg h0]; exact h0), listE, if_neg h0]
    have hL1 : eL' = chkK l := by rw [eL] at hLe; exact congrArg Prod.snd hLe
    have hL2 : L = if chkK l = 0 then [] else [] := by rw [eL] at hLe; rw [ite_self]; exact congrArg Prod.fst hLe
    simp only [dragomanlaw_KeepTells_9, Tree.goal, X.P, X.ev, V.toI_i, V.toB_b, V.toS_s, V.toR_r, V.toV_v, V.toN_n, V.toL_l, SV.ev, CV.ev, Sc.ev, List.getD_cons_zero, List.getD_cons_succ, List.getElem?_cons_zero, List.getElem?_cons_succ, List.map_cons, List.map_nil, List.length_cons, List.length_nil, List.cons_append, List.nil_append, Nat.zero_add, Nat.reduceAdd, List.length_map, Int.toNat_natCast, gK0, gK1, gK2]
    intro b9
    refine ⟨[.b true], rfl, fun _ w' _ => c_keepBegun w', ?_⟩
    simp only [Tree.goal, X.P, X.ev, V.toI_i, V.toB_b, V.toS_s, V.toR_r, V.toV_v, V.toN_n, V.toL_l, SV.ev, CV.ev, Sc.ev, List.getD_cons_zero, List.getD_cons_succ, List.getElem?_cons_zero, List.getElem?_cons_succ, List.map_cons, List.map_nil, List.length_cons, List.length_nil, List.cons_append, List.nil_append, Nat.zero_add, Nat.reduceAdd, List.length_map, Int.toNat_natCast, gK0, gK1, gK2]
    refine ⟨[.i (chkK l)], rfl, fun _ w' hr => c_CheckK w' v l (by (first | exact readsK_nil _ | (have hq := hr; repeat (first | exact hq.hd | exact hq.hd.reads | replace hq := hq.tl)))) hs (by omega), ?_⟩
    simp only [Tree.goal, X.P, X.ev, V.toI_i, V.toB_b, V.toS_s, V.toR_r, V.toV_v, V.toN_n, V.toL_l, SV.ev, CV.ev, Sc.ev, List.getD_cons_zero, List.getD_cons_succ, List.getElem?_cons_zero, List.getElem?_cons_succ, List.map_cons, List.map_nil, List.length_cons, List.length_nil, List.cons_append, List.nil_append, Nat.zero_add, Nat.reduceAdd, List.length_map, Int.toNat_natCast, gK0, gK1, gK2]
    refine ⟨[.i (chkK l)], rfl, fun _ w' hr => c_CheckKept w' v l (by (first | exact readsK_nil _ | (have hq := hr; repeat (first | exact hq.hd | exact hq.hd.reads | replace hq := hq.tl)))) hs (by omega), ?_⟩
    simp only [Tree.goal, X.P, X.ev, V.toI_i, V.toB_b, V.toS_s, V.toR_r, V.toV_v, V.toN_n, V.toL_l, SV.ev, CV.ev, Sc.ev, List.getD_cons_zero, List.getD_cons_succ, List.getElem?_cons_zero, List.getElem?_cons_succ, List.map_cons, List.map_nil, List.length_cons, List.length_nil, List.cons_append, List.nil_append, Nat.zero_add, Nat.reduceAdd, List.length_map, Int.toNat_natCast, gK0, gK1, gK2]
    refine ⟨[.b true], rfl, fun _ w' hr => c_kAre w' _ _ P [] eP' (chkK l) (by (first | exact readsK_nil _ | (have hq := hr; repeat (first | exact hq.hd | exact hq.hd.reads | replace hq := hq.tl)))) (by (first | exact readsK_nil _ | (have hq := hr; repeat (first | exact hq.hd | exact hq.hd.reads | replace hq := hq.tl)))) (by omega) hP1 hP2, ?_⟩
    simp only [Tree.goal, X.P, X.ev, V.toI_i, V.toB_b, V.toS_s, V.toR_r, V.toV_v, V.toN_n, V.toL_l, SV.ev, CV.ev, Sc.ev, List.getD_cons_zero, List.getD_cons_succ, List.getElem?_cons_zero, List.getElem?_cons_succ, List.map_cons, List.map_nil, List.length_cons, List.length_nil, List.cons_append, List.nil_append, Nat.zero_add, Nat.reduceAdd, List.length_map, Int.toNat_natCast, gK0, gK1, gK2]
    refine ⟨[.b true], rfl, fun _ w' hr => c_kAre w' _ _ L [] eL' (chkK l) (by (first | exact readsK_nil _ | (have hq := hr; repeat (first | exact hq.hd | exact hq.hd.reads | replace hq := hq.tl)))) (by (first | exact readsK_nil _ | (have hq := hr; repeat (first | exact hq.hd | exact hq.hd.reads | replace hq := hq.tl)))) (by omega) hL1 hL2, ?_⟩
    simp only [Tree.goal, X.P, X.ev, V.toI_i, V.toB_b, V.toS_s, V.toR_r, V.toV_v, V.toN_n, V.toL_l, SV.ev, CV.ev, Sc.ev, List.getD_cons_zero, List.getD_cons_succ, List.getElem?_cons_zero, List.getElem?_cons_succ, List.map_cons, List.map_nil, List.length_cons, List.length_nil, List.cons_append, List.nil_append, Nat.zero_add, Nat.reduceAdd, List.length_map, Int.toNat_natCast, gK0, gK1, gK2]
    refine fun w' hr => ⟨?_, hr.mod⟩
    simp [hG1, hG2, hG3, hG4]
end Go.Proofs.YtkalmhdckoocbaaDoor
