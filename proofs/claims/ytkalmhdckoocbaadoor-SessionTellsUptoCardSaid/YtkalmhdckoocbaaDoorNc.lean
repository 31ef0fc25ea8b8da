/-
  Sessions: the plain law of what flies. By an AI agent.
-/
import Derived.Test.YtkalmhdckoocbaaDoorNb
set_option linter.unusedSimpArgs false
set_option linter.unusedVariables false
namespace Go.Proofs.YtkalmhdckoocbaaDoor
open Go.Sx

/-- The next number; it goes round. -/
def nx (n : Int) : Int := n % 65535 + 1
def used (fl : List Fl) (n : Int) : Bool := fl.any (idIs n)
/-- The first number from n on that none of fewer than three flights has. -/
def freeId (fl : List Fl) (n : Int) : Int := if used fl n = true then (if used fl (nx n) = true then nx (nx n) else nx n) else n
theorem nx_ok {n : Int} (h : 1 ≤ n ∧ n ≤ 65535) : (1 ≤ nx n ∧ nx n ≤ 65535) ∧ nx n ≠ n ∧ nx (nx n) ≠ n ∧ nx (nx n) ≠ nx n := by
  unfold nx; omega
/-- As the reference reckons it. -/
theorem nx_if {n : Int} (h : 1 ≤ n ∧ n ≤ 65535) : nx n = if 65535 < n + 1 then 1 else n + 1 := by
  unfold nx; split <;> omega
theorem pigeon {fl : List Fl} {a b c : Int} (hl : fl.length < 3) (ha : used fl a = true) (hb : used fl b = true) (hc : used fl c = true) (h1 : a ≠ b) (h2 : a ≠ c) (h3 : b ≠ c) : False := by
  match fl, hl with
  | [], _ => simp [used] at ha
  | [x], _ => simp [used, idIs] at ha hb; omega
  | [x, y], _ => simp [used, idIs] at ha hb hc; omega
  | _ :: _ :: _ :: _, hl => simp at hl; omega
theorem free_free {fl : List Fl} {n : Int} (hl : fl.length < 3) (h : 1 ≤ n ∧ n ≤ 65535) : used fl (freeId fl n) = false := by
  obtain ⟨-, h1, h2, h3⟩ := nx_ok h
  unfold freeId
  split
  · rename_i u1
    split
    · rename_i u2
      cases u3 : used fl (nx (nx n)) with
      | false => rfl
      | true => exact (pigeon hl u1 u2 u3 (Ne.symm h1) (Ne.symm h2) (Ne.symm h3)).elim
    · rename_i u2; simpa using u2
  · rename_i u1; simpa using u1
theorem free_ok {fl : List Fl} {n : Int} (h : 1 ≤ n ∧ n ≤ 65535) : 1 ≤ freeId fl n ∧ freeId fl n ≤ 65535 := by
  obtain ⟨h1, -⟩ := nx_ok h
  unfold freeId
  split
  · split
    · exact (nx_ok h1).1
    · exact h1
  · exact h

/-- What flies out of what waits. -/
def flyR (on : Bool) : List Fl → List Fl → Int → List Pk → List Fl × List Fl × Int × List Pk
  | fl, [], next, out => (fl, [], next, out)
  | fl, f :: q, next, out =>
    if on = true ∧ fl.length < 3 then flyR on (fl ++ [(freeId fl next, f.2.1, f.2.2)]) q (nx (freeId fl next)) (out ++ [(false, 1, freeId fl next, f.2.1, f.2.2)])
    else (fl, f :: q, next, out)
theorem flyR_stop {on : Bool} {fl qu : List Fl} {next : Int} {out : List Pk} (h : ¬((on = true ∧ 0 < qu.length) ∧ fl.length < 3)) : flyR on fl qu next out = (fl, qu, next, out) := by
  cases qu with
  | nil => rfl
  | cons f q =>
    rw [flyR, if_neg]
    intro h2
    exact h ⟨⟨h2.1, by simp⟩, h2.2⟩
theorem flyR_step {on : Bool} {fl qu : List Fl} {next : Int} {out : List Pk} (h : (on = true ∧ 0 < qu.length) ∧ fl.length < 3) :
    flyR on fl qu next out = flyR on (fl ++ [(freeId fl next, (qu.getD 0 fD).2.1, (qu.getD 0 fD).2.2)]) (qu.drop 1) (nx (freeId fl next)) (out ++ [(false, 1, freeId fl next, (qu.getD 0 fD).2.1, (qu.getD 0 fD).2.2)]) := by
  cases qu with
  | nil => simp at h
  | cons f q =>
    rw [flyR, if_pos ⟨h.1.1, h.2⟩]
    rfl
theorem flyR_len (on : Bool) : ∀ (qu fl : List Fl) (next : Int) (out : List Pk), (flyR on fl qu next out).1.length ≤ fl.length + qu.length ∧ (flyR on fl qu next out).2.1.length ≤ qu.length ∧ (flyR on fl qu next out).2.2.2.length ≤ out.length + qu.length := by
  intro qu
  induction qu with
  | nil => intro fl next out; simp [flyR]
  | cons f q ih =>
    intro fl next out
    rw [flyR]
    split
    · obtain ⟨h1, h2, h3⟩ := ih (fl ++ [(freeId fl next, f.2.1, f.2.2)]) (nx (freeId fl next)) (out ++ [(false, 1, freeId fl next, f.2.1, f.2.2)])
      simp only [List.length_append, List.length_cons, List.length_nil] at h1 h2 h3 ⊢
      omega
    · simp
end Go.Proofs.YtkalmhdckoocbaaDoor
