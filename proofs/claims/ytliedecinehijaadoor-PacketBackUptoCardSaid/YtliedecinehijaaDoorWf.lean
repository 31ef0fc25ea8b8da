/-
  What the calls of the package wire, and of the reference for them, answer. By an AI agent.
-/
import Derived.Test.YtliedecinehijaaDoorWe
set_option linter.unusedSimpArgs false
set_option linter.unusedVariables false
namespace Go.Proofs.YtliedecinehijaaDoor
open Go.Sx

/-- The bytes of a number, if it may be told so. -/
def numS (n b : Int) : List UInt8 := if numErr n b = 0 then numB b.toNat n else []
theorem numErr_ok {n b : Int} : numErr n b = 0 ↔ (1 ≤ b ∧ b ≤ 4) ∧ 0 ≤ n ∧ n ≤ pw b.toNat - 1 := by
  unfold numErr; split
  · split
    · exact ⟨fun _ => ⟨‹_›, ‹_›⟩, fun _ => rfl⟩
    · exact ⟨fun h => by simp at h, fun h => absurd h.2 ‹_›⟩
  · exact ⟨fun h => by simp at h, fun h => absurd h.1 ‹_›⟩
theorem numS_ok {n b : Int} (h : (1 ≤ b ∧ b ≤ 4) ∧ 0 ≤ n ∧ n ≤ pw b.toNat - 1) : numS n b = numB b.toNat n := if_pos (numErr_ok.2 h)
theorem numB_len (k : Nat) (n : Int) : (numB k n).length = k := by simp [numB]
theorem numS_len (n b : Int) : (numS n b).length ≤ 4 := by
  unfold numS; split
  · rename_i h; have := numErr_ok.1 h; rw [numB_len]; omega
  · simp

theorem shl8 (k : Nat) (h : k ≤ 4) : IntKind.i64.wrap ((1 : Int) * 2 ^ (Nat.min ((8 : Int) * (k : Int)).toNat IntKind.i64.bits)) = (pw k : Int) := by
  have : ∀ k : Fin 5, IntKind.i64.wrap ((1 : Int) * 2 ^ (Nat.min ((8 : Int) * (k.val : Int)).toNat IntKind.i64.bits)) = (pw k.val : Int) := by decide +kernel
  exact this ⟨k, by omega⟩

def longS (n : Int) : List UInt8 := if 0 ≤ n ∧ n ≤ 268435455 then lngB 3 n.toNat else []
def longE (n : Int) : Int := if 0 ≤ n ∧ n ≤ 268435455 then 0 else 3
theorem longS_len (n : Int) : (longS n).length ≤ 4 := by
  unfold longS; split
  · exact lngB_len 3 _
  · simp
/-- The bytes of a text. -/
def txtB (t : List UInt8) : List UInt8 := numB 2 t.length ++ t
theorem c_TextBytes (w : World) (t : List UInt8) (ht : t.length < 4611686018427387904) : Calls Tryd.prog 157 #[.string ⟨t.toArray⟩] w
    fun e w' => e = .returned (.string ⟨(txtB t).toArray⟩) ∧ Mod [] w w' := by
  refine as_called (run_plain2 (ρ := [.s t]) sxE_ok Tryd.func157 tree_wire_TextBytes rfl rfl rfl ?_) rfl
  simp only [Tree.goal, X.P, X.ev, V.toI_i, V.toB_b, V.toS_s, V.toR_r, V.toV_v, V.toN_n, V.toL_l, SV.ev, CV.ev, Sc.ev, List.getD_cons_zero, List.getD_cons_succ, List.getElem?_cons_zero, List.getElem?_cons_succ, List.map_cons, List.map_nil, List.length_cons, List.length_nil, List.cons_append, List.nil_append, Nat.zero_add, Nat.reduceAdd]
  refine ⟨[.s (numB 2 t.length)], rfl, fun _ w' _ => c_Bytes w' t.length 2 (by omega) (by omega) (by omega), ?_⟩
  simp only [Tree.goal, X.P, X.ev, V.toI_i, V.toB_b, V.toS_s, V.toR_r, V.toV_v, V.toN_n, V.toL_l, SV.ev, CV.ev, Sc.ev, List.getD_cons_zero, List.getD_cons_succ, List.getElem?_cons_zero, List.getElem?_cons_succ, List.map_cons, List.map_nil, List.length_cons, List.length_nil, List.cons_append, List.nil_append, Nat.zero_add, Nat.reduceAdd]
  exact ⟨by rw [numB_len]; omega, fun w' hr => ⟨rfl, hr.mod⟩⟩
def textS (t : List UInt8) : List UInt8 := if t.length ≤ 65535 then txtB t else []
def textE (t : List UInt8) : Int := if t.length ≤ 65535 then 0 else 2
theorem textS_len (t : List UInt8) : (textS t).length ≤ t.length + 2 := by
  unfold textS; split
  · simp [txtB, numB_len]; omega
  · simp
/-- A text with its length, at a place: its bytes, how many tell it, what is wrong. -/
def getT (s : List UInt8) (at_ : Int) : List UInt8 × Int × Int :=
  if (getR s at_ 2).2 = 0 then
    if (s.length : Int) - at_ - 2 < (getR s at_ 2).1 then ([], 0, 8) else ((s.take (at_ + 2 + (getR s at_ 2).1).toNat).drop (at_ + 2).toNat, (getR s at_ 2).1 + 2, 0)
  else ([], 0, (getR s at_ 2).2)
theorem getR_zero {s : List UInt8} {at_ b : Int} (h : (getR s at_ b).2 = 0) : (1 ≤ b ∧ b ≤ 4) ∧ (0 ≤ at_ ∧ at_ ≤ s.length) ∧ ¬ (s.length : Int) - at_ < b := by
  unfold getR at h
  split at h
  · split at h
    · split at h
      · simp at h
      · exact ⟨‹_›, ‹_›, ‹_›⟩
    · simp at h
  · simp at h
theorem getT_len (s : List UInt8) (at_ : Int) : (getT s at_).1.length ≤ s.length := by
  unfold getT; split
  · split
    · simp
    · simp; omega
  · simp

theorem c_GetText (w : World) (s : List UInt8) (at_ : Int) (hs : s.length < 4611686018427387904) : Calls Tryd.prog 137 #[.string ⟨s.toArray⟩, .int .i64 at_] w
    fun e w' => e = .returned (.tuple #[.string ⟨(getT s at_).1.toArray⟩, .int .i64 (getT s at_).2.1, .int .i64 (getT s at_).2.2]) ∧ Mod [] w w' := by
  refine as_called (run_plain2 (ρ := [.s s, .i at_]) sxE_ok Tryd.func137 tree_wire_GetText rfl rfl rfl ?_) rfl
  simp only [Tree.goal, X.P, X.ev, V.toI_i, V.toB_b, V.toS_s, V.toR_r, V.toV_v, V.toN_n, V.toL_l, SV.ev, CV.ev, Sc.ev, List.getD_cons_zero, List.getD_cons_succ, List.getElem?_cons_zero, List.getElem?_cons_succ, List.map_cons, List.map_nil, List.length_cons, List.length_nil, List.cons_append, List.nil_append, Nat.zero_add, Nat.reduceAdd]
  have CALLEE := c_Get
  refine ⟨[.i (getR s at_ 2).1, .i (getR s at_ 2).2], rfl, fun _ w' _ => CALLEE w' s at_ 2 hs, ?_⟩; have hb := getR_bd s at_ 2; have hz := @getR_zero s at_ 2; simp only [Tree.goal, X.P, X.ev, V.toI_i, V.toB_b, V.toS_s, V.toR_r, V.toV_v, V.toN_n, V.toL_l, SV.ev, CV.ev, Sc.ev, List.getD_cons_zero, List.getD_cons_succ, List.getElem?_cons_zero, List.getElem?_cons_succ, List.map_cons, List.map_nil, List.length_cons, List.length_nil, List.cons_append, List.nil_append, Nat.zero_add, Nat.reduceAdd]; refine ⟨fun h w' hr => ⟨by rw [getT, if_neg h], hr.mod⟩, fun h => ?_⟩; have h0 := Decidable.not_not.1 h; have h1 := hz h0; (repeat refine ⟨by omega, ?_⟩); refine ⟨fun h2 w' hr => ⟨by rw [getT, if_pos h0, if_pos h2], hr.mod⟩, fun h2 => ?_⟩; (repeat refine ⟨by omega, ?_⟩); refine fun w' hr => ⟨?_, hr.mod⟩; rw [getT, if_pos h0, if_neg h2]

end Go.Proofs.YtliedecinehijaaDoor
