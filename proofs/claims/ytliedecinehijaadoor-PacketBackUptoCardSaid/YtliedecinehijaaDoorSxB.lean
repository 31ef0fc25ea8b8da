/-
  A small verified symbolic executor (part B: symbolic cells, slots, the heap assertion). By an AI agent.
-/
import Derived.Test.YtliedecinehijaaDoorSxA
set_option linter.unusedSimpArgs false
set_option linter.unusedVariables false
namespace Go.Sx
open Go

inductive Sc
  | int (k : IntKind) (x : X) | bool (x : X) | str (x : X) | val (x : X) | ptr (v off : Nat) | eptr (v esz : Nat) (i : X) (c : Nat) | nilp | nils | nilm
  deriving DecidableEq, Repr, Inhabited

theorem sc1_one (v : Value) : (sc1 v).oneCell' = true := by cases v <;> rfl
theorem sc1_of (v : Value) (h : v.oneCell' = true) : sc1 v = v := by cases v <;> first | rfl | (simp [Value.oneCell'] at h)
@[simp] theorem sc1_slice (a : Option Addr) (n c : Nat) : sc1 (.slice a n c) = .slice a n c := rfl

def Sc.ev (ρ : List V) : Sc → Value
  | .int k x => .int k (x.ev ρ).toI
  | .bool x => .bool (x.ev ρ).toB
  | .str x => .string ⟨(x.ev ρ).toS.toArray⟩
  | .val x => sc1 (x.ev ρ).toV
  | .ptr v off => .pointer (some ⟨(ρ.getD v (.i 0)).toN, off, none⟩)
  | .eptr v esz i c => match (ρ.getD v (.i 0)).toV with
    | .slice (some a) _ _ => .pointer (some (a.add ((i.ev ρ).toI.toNat * esz + c)))
    | _ => .pointer none
  | .nilp => .pointer none
  | .nils => .slice none 0 0
  | .nilm => .map none

theorem Sc.ev_one (ρ : List V) (s : Sc) : (s.ev ρ).oneCell' = true := by
  cases s <;> simp only [Sc.ev] <;> first | rfl | exact sc1_one _ | (split <;> rfl)

def Sc.bd (n : Nat) : Sc → Bool
  | .int _ x | .bool x | .str x | .val x => x.bd n
  | .ptr v _ => decide (v < n)
  | .eptr v _ i _ => decide (v < n) && i.bd n
  | .nilp | .nils | .nilm => true

/-- Two environments agree on the first n atoms. -/
def Agree (n : Nat) (ρ ρ' : List V) : Prop := ∀ k, k < n → ρ.getD k (.i 0) = ρ'.getD k (.i 0)
theorem Agree.app (ρ vs : List V) : Agree ρ.length ρ (ρ ++ vs) := fun k hk => by
  simp [List.getD_eq_getElem?_getD, List.getElem?_append_left hk]
theorem Agree.mono {n m : Nat} {ρ ρ' : List V} (h : Agree n ρ ρ') (hm : m ≤ n) : Agree m ρ ρ' := fun k hk => h k (by omega)
theorem Agree.symm {n : Nat} {ρ ρ' : List V} (h : Agree n ρ ρ') : Agree n ρ' ρ := fun k hk => (h k hk).symm
theorem Agree.trans {n : Nat} {ρ ρ' ρ'' : List V} (h : Agree n ρ ρ') (h' : Agree n ρ' ρ'') : Agree n ρ ρ'' := fun k hk => (h k hk).trans (h' k hk)

theorem Sc.ev_bd {ρ ρ' : List V} {n : Nat} (h : Agree n ρ ρ') (s : Sc) (hs : s.bd n = true) : s.ev ρ = s.ev ρ' := by
  cases s <;> simp_all [Sc.bd, Sc.ev]
  case int x => rw [X.ev_bd h x hs]
  case bool x => rw [X.ev_bd h x hs]
  case str x => rw [X.ev_bd h x hs]
  case val x => rw [X.ev_bd h x hs]
  case ptr v off => have := h v hs; simp only [List.getD_eq_getElem?_getD] at this; rw [this]
  case eptr v esz i c => have := h v hs.1; simp only [List.getD_eq_getElem?_getD] at this; rw [this, X.ev_bd h i hs.2]

abbrev CV := Bool × List Sc
def CV.ev (ρ : List V) (c : CV) : Value :=
  match c with
  | (true, cs) => .agg (cs.map (Sc.ev ρ)).toArray
  | (false, [s]) => s.ev ρ
  | _ => undef
def CV.bd (n : Nat) (c : CV) : Bool := c.2.all (Sc.bd n)

theorem map_ev_bd {ρ ρ' : List V} {n : Nat} (h : Agree n ρ ρ') (cs : List Sc) (hs : cs.all (Sc.bd n) = true) : cs.map (Sc.ev ρ) = cs.map (Sc.ev ρ') :=
  List.map_congr_left fun s hm => Sc.ev_bd h s (List.all_eq_true.1 hs s hm)
theorem CV.ev_bd {ρ ρ' : List V} {n : Nat} (h : Agree n ρ ρ') (c : CV) (hs : CV.bd n c = true) : CV.ev ρ c = CV.ev ρ' c := by
  obtain ⟨g, cs⟩ := c
  have hm := map_ev_bd h cs hs
  cases g
  · match cs, hs with
    | [], _ => rfl
    | [s], hs => simp only [CV.bd, List.all_cons, List.all_nil, Bool.and_true] at hs; exact Sc.ev_bd h s hs
    | _ :: _ :: _, _ => rfl
  · simp only [CV.ev, hm]

inductive SV
  | cv (c : CV)
  | gd (g : X) (c : CV)
  | tup (l : List CV)
  | fn (f : Nat) (first caps : List Sc)
  | dead
  deriving DecidableEq, Repr, Inhabited

def SV.ev (ρ : List V) : SV → Value
  | .cv c => CV.ev ρ c
  | .tup l => .tuple (l.map (CV.ev ρ)).toArray
  | .fn f first caps => .func (.func f) (first.map (Sc.ev ρ)).toArray (caps.map (Sc.ev ρ)).toArray
  | _ => undef
def SV.bd (n : Nat) : SV → Bool
  | .cv c => CV.bd n c
  | .gd g c => g.bd n && CV.bd n c
  | .tup l => l.all (CV.bd n)
  | .fn _ first caps => first.all (Sc.bd n) && caps.all (Sc.bd n)
  | .dead => true
def SV.rel (ρ : List V) (s : SV) (x : Value) : Prop :=
  match s with
  | .dead => True
  | .gd g c => ((g.ev ρ).toB = true → x = CV.ev ρ c) ∧ ((g.ev ρ).toB = false → x = undef)
  | s => x = s.ev ρ
theorem SV.rel_bd {ρ ρ' : List V} {n : Nat} (h : Agree n ρ ρ') (s : SV) (hs : s.bd n = true) (x : Value) (hr : s.rel ρ x) : s.rel ρ' x := by
  cases s with
  | cv c => exact (hr : x = _).trans (CV.ev_bd h c hs)
  | gd g c =>
    simp only [SV.bd, Bool.and_eq_true] at hs
    obtain ⟨h1, h2⟩ := hr
    exact ⟨fun hg => (h1 (by rw [X.ev_bd h g hs.1]; exact hg)).trans (CV.ev_bd h c hs.2), fun hg => h2 (by rw [X.ev_bd h g hs.1]; exact hg)⟩
  | tup l =>
    refine (hr : x = _).trans ?_
    simp only [SV.ev, SV.bd] at hs ⊢
    rw [List.map_congr_left fun c hm => CV.ev_bd h c (List.all_eq_true.1 hs c hm)]
  | fn f a b =>
    refine (hr : x = _).trans ?_
    simp only [SV.ev, SV.bd, Bool.and_eq_true] at hs ⊢
    rw [map_ev_bd h a hs.1, map_ev_bd h b hs.2]
  | dead => trivial

/-- What a cell of a row may hold. -/
inductive Kd
  | int (k : IntKind) | bool | str | sl (e : Nat) | oth
  deriving DecidableEq, Repr, Inhabited
def Kd.ok (k : Kd) (v : Value) : Prop :=
  match k with
  | .int k => ∃ n, v = .int k n
  | .bool => ∃ b, v = .bool b
  | .str => ∃ l : List UInt8, v = .string ⟨l.toArray⟩
  | _ => v.oneCell' = true
def rowOk : List Kd → List Value → Prop
  | [], [] => True
  | k :: ks, v :: vs => k.ok v ∧ rowOk ks vs
  | _, _ => False
theorem rowOk.length : ∀ {ks : List Kd} {vs : List Value}, rowOk ks vs → vs.length = ks.length
  | [], [], _ => rfl
  | _ :: _, _ :: _, h => by simp [rowOk.length h.2]
theorem rowOk.get : ∀ {ks : List Kd} {vs : List Value}, rowOk ks vs → ∀ {c : Nat} {k : Kd}, ks[c]? = some k → ∃ v, vs[c]? = some v ∧ k.ok v
  | k :: ks, v :: vs, h, 0, k', hk => by simp at hk; subst hk; exact ⟨v, rfl, h.1⟩
  | k :: ks, v :: vs, h, c + 1, k', hk => by simpa using h.2.get (by simpa using hk)
theorem Kd.ok.one {k : Kd} {v : Value} (h : k.ok v) : v.oneCell' = true := by
  cases k <;> simp only [Kd.ok] at h <;> first | exact h | (obtain ⟨_, rfl⟩ := h; rfl)
theorem rowOk.one : ∀ {ks : List Kd} {vs : List Value}, rowOk ks vs → ∀ v ∈ vs, v.oneCell' = true
  | [], [], _, v, hv => by simp at hv
  | k :: ks, u :: vs, h, v, hv => by
    rcases List.mem_cons.1 hv with rfl | hv
    · exact h.1.one
    · exact h.2.one v hv

/-- A slice value that reads, in this world, as these rows. -/
def reads (w : World) (v : Value) (ks : List Kd) (rows : List (List Value)) : Prop :=
  (∀ r ∈ rows, rowOk ks r) ∧ ∃ a cap, v = .slice a rows.length cap ∧ ((a = none → cap = 0) ∧ rows.length ≤ cap) ∧
    (rows ≠ [] → ∃ ad, a = some ad ∧ ∀ j u, rows.flatten[j]? = some u → w.cell? (ad.add j) = some u)

/-- A slice value that the call made itself and that owns its block. -/
def owns (w : World) (v : Value) (ty : Nat) (ks : List Kd) (rows : List (List Value)) : Prop :=
  (∀ r ∈ rows, rowOk ks r) ∧ w.ownsRow 0 ty ks.length v rows.length rows.flatten

def blockOf (v : Value) (k : Nat) : Prop := v.ownBlock = some k

theorem flatten_get {rows : List (List Value)} {n : Nat} (h : ∀ r ∈ rows, r.length = n) {i c : Nat} (hc : c < n) : rows.flatten[i * n + c]? = (rows[i]?).bind (·[c]?) := by
  induction rows generalizing i with
  | nil => simp
  | cons r rows ih =>
    have hr := h r (by simp)
    cases i with
    | zero => simp [List.getElem?_append_left (show c < r.length by omega)]
    | succ i =>
      rw [List.flatten_cons, List.getElem?_append_right (by rw [hr, Nat.succ_mul]; omega)]
      have : (i + 1) * n + c - r.length = i * n + c := by rw [hr, Nat.succ_mul]; omega
      rw [this, ih fun r hm => h r (by simp [hm])]
      simp
theorem flatten_length {rows : List (List Value)} {n : Nat} (h : ∀ r ∈ rows, r.length = n) : rows.flatten.length = rows.length * n := by
  induction rows with
  | nil => simp
  | cons r rows ih => simp [ih fun r hm => h r (by simp [hm]), h r (by simp), Nat.succ_mul]; omega

theorem owns.reads {w : World} {v : Value} {ty : Nat} {ks : List Kd} {rows : List (List Value)} (h : owns w v ty ks rows) : reads w v ks rows := by
  obtain ⟨h1, h2⟩ := h
  refine ⟨h1, ?_⟩
  have h2' := h2
  rcases h2'.2 with ⟨rfl, hn⟩ | ⟨g, cap, cur, rfl, -, -, hnc, -, -, -⟩
  · exact ⟨none, 0, by rw [hn], ⟨fun _ => rfl, by omega⟩, fun hne => absurd (List.eq_nil_of_length_eq_zero hn) hne⟩
  · exact ⟨some ⟨g, 0, none⟩, cap, rfl, ⟨(fun h => by cases h), hnc⟩, fun _ => ⟨_, rfl, fun j u hu => h2.cells (g := g) rfl j u hu⟩⟩

theorem reads.get {w : World} {v : Value} {ks : List Kd} {rows : List (List Value)} (h : reads w v ks rows) {i c : Nat} (hi : i < rows.length) (hc : c < ks.length) :
    ∃ ad cap, v = .slice (some ad) rows.length cap ∧ w.cell? (ad.add (i * ks.length + c)) = some ((rows.getD i []).getD c undef) ∧ ks[c].ok ((rows.getD i []).getD c undef) := by
  obtain ⟨h1, a, cap, rfl, -, h2⟩ := h
  obtain ⟨ad, rfl, h3⟩ := h2 (fun e => by subst e; simp at hi)
  have hr := h1 rows[i] (List.getElem_mem hi)
  obtain ⟨u, hu, hk⟩ := hr.get (List.getElem?_eq_getElem hc)
  have e : (rows.getD i []).getD c undef = u := by simp [List.getD_eq_getElem?_getD, List.getElem?_eq_getElem hi, hu]
  rw [e]
  refine ⟨ad, cap, rfl, h3 _ _ ?_, hk⟩
  rw [flatten_get (fun r hm => (h1 r hm).length) hc, List.getElem?_eq_getElem hi]
  exact hu

inductive Ent
  | cells (v ty : Nat) (cs : List Sc)
  | row (v ty : Nat) (ks : List Kd) (r : X)
  | rd (v : Nat) (ks : List Kd) (r : X)
  | st (v : Nat)
  deriving DecidableEq, Repr, Inhabited

def Ent.wr : Ent → Bool
  | .cells .. | .row .. => true
  | _ => false
def Ent.bd (n : Nat) : Ent → Bool
  | .cells v _ cs => decide (v < n) && cs.all (Sc.bd n)
  | .row v _ _ r => decide (v < n) && r.bd n
  | .rd v _ r => decide (v < n) && r.bd n
  | .st v => decide (v < n)
def Ent.holds (ρ : List V) (w : World) : Ent → Prop
  | .cells v ty cs => w.heap[(ρ.getD v (.i 0)).toN]? = some (.cells (cs.map (Sc.ev ρ)).toArray ty (0, 0))
  | .row v ty ks r => owns w (ρ.getD v (.i 0)).toV ty ks (r.ev ρ).toR
  | .rd v ks r => reads w (ρ.getD v (.i 0)).toV ks (r.ev ρ).toR
  | .st v => match ρ.getD v (.i 0) with | .a A => A.holds w | _ => True
def Ent.fp (ρ : List V) (k : Nat) : Ent → Prop
  | .cells v _ _ => k = (ρ.getD v (.i 0)).toN
  | .row v _ _ _ => blockOf (ρ.getD v (.i 0)).toV k
  | .rd v _ r => (r.ev ρ).toR.flatten ≠ [] ∧ blockOf (ρ.getD v (.i 0)).toV k
  | .st v => match ρ.getD v (.i 0) with | .a A => A.fp k | _ => False

theorem Ent.holds_bd {ρ ρ' : List V} {n : Nat} (h : Agree n ρ ρ') (e : Ent) (he : e.bd n = true) (w : World) : e.holds ρ w ↔ e.holds ρ' w := by
  cases e <;> simp only [Ent.bd, Bool.and_eq_true, decide_eq_true_eq] at he <;> simp only [Ent.holds]
  case cells v ty cs => rw [h v he.1, map_ev_bd h cs he.2]
  case row v ty ks r => rw [h v he.1, X.ev_bd h r he.2]
  case rd v ks r => rw [h v he.1, X.ev_bd h r he.2]
  case st v => rw [h v he]
theorem Ent.fp_bd {ρ ρ' : List V} {n : Nat} (h : Agree n ρ ρ') (e : Ent) (he : e.bd n = true) (k : Nat) : e.fp ρ k ↔ e.fp ρ' k := by
  cases e <;> simp only [Ent.bd, Bool.and_eq_true, decide_eq_true_eq] at he <;> simp only [Ent.fp]
  case cells v ty cs => rw [h v he.1]
  case row v ty ks r => rw [h v he.1]
  case rd v ks r => rw [h v he.1, X.ev_bd h r he.2]
  case st v => rw [h v he]

theorem Addr.add_block (a : Addr) (j : Nat) : (a.add j).block = a.block := by unfold Addr.add; split <;> rfl

theorem reads.stable {w w' : World} {v : Value} {ks : List Kd} {rows : List (List Value)} (h : reads w v ks rows)
    (hk : ∀ k, (rows.flatten ≠ [] ∧ blockOf v k) → w'.heap[k]? = w.heap[k]?) : reads w' v ks rows := by
  obtain ⟨h1, a, cap, rfl, h0, h2⟩ := h
  refine ⟨h1, a, cap, rfl, h0, fun hne => ?_⟩
  obtain ⟨ad, rfl, h3⟩ := h2 hne
  refine ⟨ad, rfl, fun j u hu => ?_⟩
  rw [← h3 j u hu]
  refine World.cell?_of_block ?_
  rw [Addr.add_block]
  exact hk _ ⟨fun e => by rw [e] at hu; simp at hu, rfl⟩
theorem owns.stable {w w' : World} {v : Value} {ty : Nat} {ks : List Kd} {rows : List (List Value)} (h : owns w v ty ks rows)
    (hk : ∀ k, blockOf v k → w'.heap[k]? = w.heap[k]?) : owns w' v ty ks rows := by
  obtain ⟨h1, h2, h3⟩ := h
  refine ⟨h1, h2, ?_⟩
  rcases h3 with h3 | ⟨g, cap, cur, rfl, hb, hg, rest⟩
  · exact .inl h3
  · exact .inr ⟨g, cap, cur, rfl, hb, by rw [hk g rfl]; exact hg, rest⟩

theorem Ent.stable {ρ : List V} {w w' : World} {e : Ent} (h : e.holds ρ w) (hk : ∀ k, e.fp ρ k → w'.heap[k]? = w.heap[k]?) : e.holds ρ w' := by
  cases e with
  | cells v ty cs => exact (hk _ rfl).trans h
  | row v ty ks r => exact owns.stable h hk
  | rd v ks r => exact reads.stable h hk
  | st v =>
    simp only [Ent.holds] at h ⊢
    simp only [Ent.fp] at hk
    generalize ρ.getD v (.i 0) = x at h hk ⊢
    cases x <;> first | trivial | exact Asrt.stable _ _ _ hk h
theorem Ent.bound {ρ : List V} {w : World} {e : Ent} (h : e.holds ρ w) {k : Nat} (hk : e.fp ρ k) : k < w.heap.size := by
  cases e with
  | cells v ty cs => simp only [Ent.fp] at hk; subst hk; exact (Array.getElem?_eq_some_iff.1 h).1
  | row v ty ks r => exact (h.2.lt k hk).2
  | rd v ks r =>
    obtain ⟨h1, a, cap, hv, -, h2⟩ := h
    obtain ⟨hne, hb⟩ := hk
    obtain ⟨ad, rfl, h3⟩ := h2 (fun e => by rw [e] at hne; simp at hne)
    obtain ⟨u, l, hl⟩ := List.exists_cons_of_ne_nil hne
    have := h3 0 u (by rw [hl]; rfl)
    have := World.block_lt_of_cell? w _ this
    rw [Addr.add_block] at this
    unfold blockOf at hb
    rw [hv] at hb
    simp [Value.ownBlock] at hb
    omega
  | st v =>
    simp only [Ent.holds] at h
    simp only [Ent.fp] at hk
    generalize ρ.getD v (.i 0) = x at h hk
    cases x <;> first | exact hk.elim | exact Asrt.bound _ _ h k hk

theorem X.bd_mono {n m : Nat} (h : n ≤ m) (x : X) (hx : x.bd n = true) : x.bd m = true := by
  induction x <;> simp_all [X.bd] <;> omega
theorem Sc.bd_mono {n m : Nat} (h : n ≤ m) (s : Sc) (hs : s.bd n = true) : s.bd m = true := by
  cases s <;> simp only [Sc.bd, Bool.and_eq_true, decide_eq_true_eq] at hs ⊢ <;> first | exact X.bd_mono h _ hs | omega | exact ⟨by omega, X.bd_mono h _ hs.2⟩
theorem all_bd_mono {n m : Nat} (h : n ≤ m) (cs : List Sc) (hs : cs.all (Sc.bd n) = true) : cs.all (Sc.bd m) = true :=
  List.all_eq_true.2 fun s hm => Sc.bd_mono h s (List.all_eq_true.1 hs s hm)
theorem SV.bd_mono {n m : Nat} (h : n ≤ m) (s : SV) (hs : s.bd n = true) : s.bd m = true := by
  cases s with
  | cv c => exact all_bd_mono h _ hs
  | gd g c => simp only [SV.bd, Bool.and_eq_true] at hs ⊢; exact ⟨X.bd_mono h _ hs.1, all_bd_mono h _ hs.2⟩
  | tup l => exact List.all_eq_true.2 fun c hm => all_bd_mono h _ (List.all_eq_true.1 hs c hm)
  | fn f a b => simp only [SV.bd, Bool.and_eq_true] at hs ⊢; exact ⟨all_bd_mono h _ hs.1, all_bd_mono h _ hs.2⟩
  | dead => rfl
theorem Ent.bd_mono {n m : Nat} (h : n ≤ m) (e : Ent) (he : e.bd n = true) : e.bd m = true := by
  cases e <;> simp only [Ent.bd, Bool.and_eq_true, decide_eq_true_eq] at he ⊢ <;> first | omega | exact ⟨by omega, all_bd_mono h _ he.2⟩ | exact ⟨by omega, X.bd_mono h _ he.2⟩

structure Base where
  fp : List Nat
  w0 : World

def Apart (ρ : List V) (hp : List Ent) : Prop := hp.Pairwise fun e e' => (e.wr = true ∨ e'.wr = true) → ∀ k, e.fp ρ k → e'.fp ρ k → False

structure Rel (B : Base) (ρ : List V) (hp : List Ent) (w : World) : Prop where
  mod : Mod B.fp B.w0 w
  holds : ∀ e ∈ hp, e.holds ρ w
  own : ∀ e ∈ hp, e.wr = true → ∀ k, e.fp ρ k → B.w0.heap.size ≤ k ∨ k ∈ B.fp
  sep : Apart ρ hp

theorem Rel.ext {B : Base} {ρ ρ' : List V} {hp : List Ent} {w : World} {n : Nat} (h : Rel B ρ hp w) (ha : Agree n ρ ρ') (hb : hp.all (Ent.bd n) = true) : Rel B ρ' hp w := by
  have hb' := List.all_eq_true.1 hb
  refine ⟨h.mod, fun e he => (Ent.holds_bd ha e (hb' e he) w).1 (h.holds e he), fun e he hw k hk => h.own e he hw k ((Ent.fp_bd ha e (hb' e he) k).2 hk), ?_⟩
  refine List.Pairwise.imp_of_mem (fun {a b} hma hmb hp hw k h1 h2 => ?_) h.sep
  exact hp hw k ((Ent.fp_bd ha a (hb' a hma) k).2 h1) ((Ent.fp_bd ha b (hb' b hmb) k).2 h2)

theorem Rel.sublist {B : Base} {ρ : List V} {hp hp' : List Ent} {w : World} (h : Rel B ρ hp w) (hs : hp'.Sublist hp) : Rel B ρ hp' w :=
  ⟨h.mod, fun e he => h.holds e (hs.subset he), fun e he => h.own e (hs.subset he), h.sep.sublist hs⟩

theorem Rel.perm {B : Base} {ρ : List V} {hp hp' : List Ent} {w : World} (h : Rel B ρ hp w) (hs : hp.Perm hp') : Rel B ρ hp' w :=
  ⟨h.mod, fun e he => h.holds e (hs.symm.subset he), fun e he => h.own e (hs.symm.subset he),
   (hs.pairwise_iff (fun {x y} hxy hw k hk hk' => hxy hw.symm k hk' hk)).1 h.sep⟩

/-- Nothing that the assertion speaks of has changed. -/
theorem Rel.step {B : Base} {ρ : List V} {hp : List Ent} {w w' : World} {fp : List Nat} (h : Rel B ρ hp w) (hm : Mod fp w w')
    (hf : ∀ k ∈ fp, (B.w0.heap.size ≤ k ∨ k ∈ B.fp)) (hd : ∀ e ∈ hp, ∀ k ∈ fp, ¬ e.fp ρ k) : Rel B ρ hp w' :=
  ⟨h.mod.trans hm (fun k hk => by rcases hf k hk with h1 | h1; exact .inr h1; exact .inl h1),
   fun e he => Ent.stable (h.holds e he) (fun k hk => hm.block k (Ent.bound (h.holds e he) hk) (fun hn => hd e he k hn hk)), h.own, h.sep⟩

/-- A new entry in front, on blocks that none of the others speaks of. -/
theorem Rel.cons {B : Base} {ρ : List V} {hp : List Ent} {w : World} {e : Ent} (h : Rel B ρ hp w) (he : e.holds ρ w)
    (ho : e.wr = true → ∀ k, e.fp ρ k → B.w0.heap.size ≤ k ∨ k ∈ B.fp) (hd : ∀ e' ∈ hp, (e.wr = true ∨ e'.wr = true) → ∀ k, e.fp ρ k → e'.fp ρ k → False) : Rel B ρ (e :: hp) w :=
  ⟨h.mod, fun x hx => by rcases List.mem_cons.1 hx with rfl | hx; exact he; exact h.holds x hx,
   fun x hx => by rcases List.mem_cons.1 hx with rfl | hx; exact ho; exact h.own x hx, List.pairwise_cons.2 ⟨hd, h.sep⟩⟩

theorem Rel.alloc {B : Base} {ρ : List V} {hp : List Ent} {w : World} (h : Rel B ρ hp w) (o : Obj) : Rel B ρ hp (w.alloc o) :=
  h.step (Mod.alloc [] w o) (by simp) (by simp)
theorem Rel.drew {B : Base} {ρ : List V} {hp : List Ent} {w : World} (h : Rel B ρ hp w) : Rel B ρ hp w.drew :=
  h.step (Mod.drew [] w) (by simp) (by simp)

end Go.Sx
