/-
  A small verified symbolic executor (part C: the table of types; operations that change no memory). By an AI agent.
-/
import Derived.Test.YtliedecinehijaaDoorSxB
set_option linter.unusedSimpArgs false
set_option linter.unusedVariables false
namespace Go.Sx
open Go

inductive Tg
  | int (k : IntKind) | bool | str | strct (fl : List (Nat × Nat × Nat × Bool)) | slice (e : Nat) | ptr (e : Nat) | tuple (l : List Nat) | other
  deriving DecidableEq, Repr, Inhabited
/-- What the executor knows of a type. 'fl': of each field its place, its type, its number of cells, whether it is an aggregate. -/
structure TI where
  agg : Bool
  ks : List Kd
  zs : List Sc
  bytes : Nat
  tag : Tg
  eqs : Bool := false   -- a struct whose values may be compared
  deriving DecidableEq, Repr, Inhabited

def isAggD : TypeDesc → Bool
  | .struct _ | .array _ _ => true
  | _ => false

def tagOK (P : Program) : Tg → TypeDesc → Prop
  | .int k, .int k' => k = k'
  | .bool, .bool => True
  | .str, .string => True
  | .strct fl, .struct fs => fl.length = fs.size ∧ ∀ (n : Nat) p, fl[n]? = some p → ∃ f d i, fs[n]? = some f ∧ f.offset = p.1 ∧ f.type = p.2.1 ∧ (f.name ≠ "_") ∧ P.underlying f.type = some d ∧ P.info? f.type = some i ∧ i.size = p.2.2.1 ∧ isAggD d = p.2.2.2
  | .slice e, .slice e' => e = e'
  | .ptr e, .pointer e' => e = e'
  | .tuple l, .tuple es => l = es.toList
  | .other, _ => True
  | _, _ => False

structure TIok (P : Program) (t : Nat) (i : TI) : Prop where
  ok : ∃ d inf z, P.underlying t = some d ∧ P.info? t = some inf ∧ inf.size = i.ks.length ∧ inf.bytes = i.bytes ∧ inf.zero = some z ∧ z.cells.toList = i.zs.map (Sc.ev []) ∧ i.zs.all (Sc.bd 0) = true ∧
    i.zs.length = i.ks.length ∧ isAggD d = i.agg ∧ tagOK P i.tag d ∧ (i.agg = false → i.zs.length = 1) ∧ z = CV.ev [] (i.agg, i.zs)
  cmp : i.eqs = true → P.stoodInHeld t = false ∧ P.eqGuardType P.depth t = false

abbrev Tab := List (Nat × TI)
def Tab.get (T : Tab) (t : Nat) : Option TI := (T.find? fun p => p.1 == t).map (·.2)
def TabOK (P : Program) (T : Tab) : Prop := ∀ p ∈ T, TIok P p.1 p.2
theorem TabOK.get {P : Program} {T : Tab} (h : TabOK P T) {t : Nat} {i : TI} (hg : T.get t = some i) : TIok P t i := by
  unfold Tab.get at hg
  rw [Option.map_eq_some_iff] at hg
  obtain ⟨⟨a, b⟩, h1, rfl⟩ := hg
  have := List.find?_some h1
  simp at this
  subst this
  exact h _ (List.mem_of_find?_eq_some h1)

/-- The least and the greatest that an integer expression may be, where that is seen at once. -/
def X.lo : X → Option Int
  | .I n => some n
  | .at_ _ _ => some 0
  | .len _ => some 0
  | .rlen _ => some 0
  | .add x y => do pure ((← x.lo) + (← y.lo))
  | .emod _ (.I m) => if 0 < m then some 0 else none
  | .wrap .u8 _ => some 0
  | .min x y => do pure (Min.min (← x.lo) (← y.lo))
  | .ite _ x y => do pure (Min.min (← x.lo) (← y.lo))
  | _ => none
def X.hi : X → Option Int
  | .I n => some n
  | .at_ _ _ => some 255
  | .add x y => do pure ((← x.hi) + (← y.hi))
  | .emod _ (.I m) => if 0 < m then some (m - 1) else none
  | .wrap .u8 _ => some 255
  | .ite _ x y => do pure (Max.max (← x.hi) (← y.hi))
  | _ => none

theorem wrap_u8 (n : Int) : IntKind.u8.wrap n = n % 256 := by simp [IntKind.wrap, IntKind.signed, IntKind.bits]

theorem X.lo_ok (ρ : List V) : ∀ (x : X) (n : Int), x.lo = some n → n ≤ (x.ev ρ).toI := by
  intro x
  induction x with
  | I m => intro n h; simp [X.lo] at h; simp [X.ev, h]
  | at_ x i _ _ => intro n h; simp [X.lo] at h; subst h; simp only [X.ev, V.toI_i]; omega
  | len x _ => intro n h; simp [X.lo] at h; subst h; simp only [X.ev, V.toI_i]; omega
  | rlen x _ => intro n h; simp [X.lo] at h; subst h; simp only [X.ev, V.toI_i]; omega
  | add x y hx hy =>
    intro n h
    simp only [X.lo, Option.bind_eq_bind, Option.pure_def, Option.bind_eq_some_iff, Option.some.injEq] at h
    obtain ⟨a, ha, b, hb, rfl⟩ := h
    have := hx a ha; have := hy b hb
    simp only [X.ev, V.toI_i]; omega
  | min x y hx hy =>
    intro n h
    simp only [X.lo, Option.bind_eq_bind, Option.pure_def, Option.bind_eq_some_iff, Option.some.injEq] at h
    obtain ⟨a, ha, b, hb, rfl⟩ := h
    have := hx a ha; have := hy b hb
    simp only [X.ev, V.toI_i]; split <;> omega
  | ite c x y _ hx hy =>
    intro n h
    simp only [X.lo, Option.bind_eq_bind, Option.pure_def, Option.bind_eq_some_iff, Option.some.injEq] at h
    obtain ⟨a, ha, b, hb, rfl⟩ := h
    have := hx a ha; have := hy b hb
    simp only [X.ev]; split <;> omega
  | emod x y _ _ =>
    intro n h
    cases y <;> simp [X.lo] at h
    obtain ⟨h1, rfl⟩ := h
    simp only [X.ev, V.toI_i]; exact Int.emod_nonneg _ (by omega)
  | wrap k x _ =>
    intro n h
    cases k <;> simp [X.lo] at h
    subst h
    simp only [X.ev, V.toI_i, wrap_u8]; omega
  | _ => intro n h; simp [X.lo] at h
theorem X.hi_ok (ρ : List V) : ∀ (x : X) (n : Int), x.hi = some n → (x.ev ρ).toI ≤ n := by
  intro x
  induction x with
  | I m => intro n h; simp [X.hi] at h; simp [X.ev, h]
  | at_ x i _ _ =>
    intro n h; simp [X.hi] at h; subst h; simp only [X.ev, V.toI_i]
    have := ((x.ev ρ).toS.getD (i.ev ρ).toI.toNat 0).toNat_lt; omega
  | add x y hx hy =>
    intro n h
    simp only [X.hi, Option.bind_eq_bind, Option.pure_def, Option.bind_eq_some_iff, Option.some.injEq] at h
    obtain ⟨a, ha, b, hb, rfl⟩ := h
    have := hx a ha; have := hy b hb
    simp only [X.ev, V.toI_i]; omega
  | ite c x y _ hx hy =>
    intro n h
    simp only [X.hi, Option.bind_eq_bind, Option.pure_def, Option.bind_eq_some_iff, Option.some.injEq] at h
    obtain ⟨a, ha, b, hb, rfl⟩ := h
    have := hx a ha; have := hy b hb
    simp only [X.ev]; split <;> omega
  | emod x y _ _ =>
    intro n h
    cases y <;> simp [X.hi] at h
    obtain ⟨h1, rfl⟩ := h
    simp only [X.ev, V.toI_i]; have := Int.emod_lt_of_pos (x.ev ρ).toI h1; omega
  | wrap k x _ =>
    intro n h
    cases k <;> simp [X.hi] at h
    subst h
    simp only [X.ev, V.toI_i, wrap_u8]; omega
  | _ => intro n h; simp [X.hi] at h

/-- 'l ≤ x', unless that is seen at once; likewise 'x ≤ h'. -/
def needLo (l : Int) (x : X) : List X := match x.lo with | some n => if l ≤ n then [] else [.le (.I l) x] | none => [.le (.I l) x]
def needHi (h : Int) (x : X) : List X := match x.hi with | some n => if n ≤ h then [] else [.le x (.I h)] | none => [.le x (.I h)]
def Needs (ρ : List V) (l : List X) : Prop := ∀ x ∈ l, (x.ev ρ).toB = true
theorem needLo_ok {ρ : List V} {l : Int} {x : X} (h : Needs ρ (needLo l x)) : l ≤ (x.ev ρ).toI := by
  unfold needLo at h
  split at h
  · rename_i n hn
    have := X.lo_ok ρ x n hn
    split at h
    · omega
    · exact of_decide_eq_true (h _ (List.mem_singleton.2 rfl))
  · exact of_decide_eq_true (h _ (List.mem_singleton.2 rfl))
theorem needHi_ok {ρ : List V} {l : Int} {x : X} (h : Needs ρ (needHi l x)) : (x.ev ρ).toI ≤ l := by
  unfold needHi at h
  split at h
  · rename_i n hn
    have := X.hi_ok ρ x n hn
    split at h
    · omega
    · exact of_decide_eq_true (h _ (List.mem_singleton.2 rfl))
  · exact of_decide_eq_true (h _ (List.mem_singleton.2 rfl))
theorem Needs.app {ρ : List V} {a b : List X} (h : Needs ρ (a ++ b)) : Needs ρ a ∧ Needs ρ b := ⟨fun x hx => h x (by simp [hx]), fun x hx => h x (by simp [hx])⟩

def kmin : IntKind → Int | .i8 => -128 | .i16 => -32768 | .i32 => -2147483648 | .i64 => -9223372036854775808 | _ => 0
def kmax : IntKind → Int | .i8 => 127 | .i16 => 32767 | .i32 => 2147483647 | .i64 => 9223372036854775807 | .u8 => 255 | .u16 => 65535 | .u32 => 4294967295 | .u64 => 18446744073709551615
theorem wrap_in (k : IntKind) (n : Int) (h1 : kmin k ≤ n) (h2 : n ≤ kmax k) : k.wrap n = n := by
  cases k <;> simp only [kmin, kmax] at h1 h2 <;> simp [IntKind.wrap, IntKind.signed, IntKind.bits] <;> omega
/-- A sum and the like: within its kind's range (asked), or wrapped (kinds of fewer bits). -/
def ranged (k : IntKind) (x : X) : List X × X :=
  match k with
  | .i64 => (needLo (kmin k) x ++ needHi (kmax k) x, x)
  | k => match x.lo, x.hi with
    | some l, some h => if kmin k ≤ l ∧ h ≤ kmax k then ([], x) else ([], .wrap k x)
    | _, _ => ([], .wrap k x)
theorem ranged_ok {ρ : List V} {k : IntKind} {x : X} (h : Needs ρ (ranged k x).1) : (((ranged k x).2).ev ρ).toI = k.wrap (x.ev ρ).toI := by
  cases k
  case i64 => obtain ⟨h1, h2⟩ := h.app; exact (wrap_in .i64 _ (needLo_ok h1) (needHi_ok h2)).symm
  all_goals
    simp only [ranged] at h ⊢
    split
    · rename_i l hh hl hhi
      have := X.lo_ok ρ x l hl
      have := X.hi_ok ρ x hh hhi
      split
      · show (x.ev ρ).toI = _
        exact (wrap_in _ _ (by omega) (by omega)).symm
      · simp [X.ev]
    · simp [X.ev]

theorem str_app (a b : List UInt8) : (⟨a.toArray⟩ ++ ⟨b.toArray⟩ : ByteArray) = ⟨(a ++ b).toArray⟩ := by
  apply ByteArray.ext; simp
theorem str_ext (a : List UInt8) (l h : Nat) : (⟨a.toArray⟩ : ByteArray).extract l h = ⟨((a.take h).drop l).toArray⟩ := by
  apply ByteArray.ext; simp [ByteArray.data_extract, List.extract_eq_take_drop, List.drop_take]
theorem str_size (a : List UInt8) : (⟨a.toArray⟩ : ByteArray).size = a.length := by simp [ByteArray.size]
theorem str_eq (a b : List UInt8) : ((⟨a.toArray⟩ : ByteArray) == ⟨b.toArray⟩) = decide (a = b) := by
  rw [Bool.eq_iff_iff]
  constructor
  · intro h
    have : (a.toArray == b.toArray) = true := h
    simpa using this
  · intro h
    simp at h
    subst h
    show (a.toArray == a.toArray) = true
    simp
theorem str_toList (a : List UInt8) : (⟨a.toArray⟩ : ByteArray).toList = a := by simp

def mkNot : X → X | .not x => x | .B b => .B (!b) | x => .not x
theorem mkNot_ok (ρ : List V) (x : X) : ((mkNot x).ev ρ).toB = !(x.ev ρ).toB := by
  cases x <;> simp [mkNot, X.ev]
def mkAnd : X → X → X | .B true, y => y | x, .B true => x | .B false, _ => .B false | _, .B false => .B false | x, y => .and x y
theorem mkAnd_ok (ρ : List V) (x y : X) : ((mkAnd x y).ev ρ).toB = ((x.ev ρ).toB && (y.ev ρ).toB) := by
  unfold mkAnd; split <;> simp [X.ev]
def mkIteB (c x y : X) : X := match x, y with
  | .B true, y => .or c y
  | x, .B false => .and c x
  | x, y => .ite c x y
theorem mkIteB_ok (ρ : List V) (c x y : X) : ((mkIteB c x y).ev ρ).toB = if (c.ev ρ).toB then (x.ev ρ).toB else (y.ev ρ).toB := by
  unfold mkIteB; split <;> simp [X.ev] <;> cases (c.ev ρ).toB <;> simp

def mkOr : X → X → X | .B false, y => y | x, .B false => x | .B true, _ => .B true | _, .B true => .B true | x, y => .or x y
theorem mkOr_ok (ρ : List V) (x y : X) : ((mkOr x y).ev ρ).toB = ((x.ev ρ).toB || (y.ev ρ).toB) := by
  unfold mkOr; split <;> simp [X.ev]
/-- An expression for a truth value where x is known to be b. -/
def X.asm (x : X) (b : Bool) : X → X
  | .not z => if X.not z = x then .B b else mkNot (X.asm x b z)
  | .and u v => if X.and u v = x then .B b else mkAnd (X.asm x b u) (X.asm x b v)
  | .or u v => if X.or u v = x then .B b else mkOr (X.asm x b u) (X.asm x b v)
  | y => if y = x then .B b else y
theorem X.asm_ok {ρ : List V} {x : X} {b : Bool} (h : (x.ev ρ).toB = b) : ∀ y : X, ((X.asm x b y).ev ρ).toB = (y.ev ρ).toB := by
  intro y
  induction y with
  | not z ih => simp only [X.asm]; split; (rename_i e; rw [e, h]; rfl); (rw [mkNot_ok, ih]; simp [X.ev])
  | and u v ih1 ih2 => simp only [X.asm]; split; (rename_i e; rw [e, h]; rfl); (rw [mkAnd_ok, ih1, ih2]; simp [X.ev])
  | or u v ih1 ih2 => simp only [X.asm]; split; (rename_i e; rw [e, h]; rfl); (rw [mkOr_ok, ih1, ih2]; simp [X.ev])
  | _ => simp only [X.asm]; split <;> first | (rename_i e; rw [e, h]; rfl) | rfl

/-- Does g bear h? (seen by the make alone) -/
def X.bears : X → X → Bool
  | g, .and a b => X.bears g a && X.bears g b
  | g, h => g == h || go g h
where go : X → X → Bool
  | .and a b, h => a == h || b == h || go a h || go b h
  | g, h => g == h
theorem X.bears_go_ok (ρ : List V) : ∀ (g h : X), X.bears.go g h = true → (g.ev ρ).toB = true → (h.ev ρ).toB = true := by
  intro g
  induction g with
  | and a b ha hb =>
    intro h hh hg
    simp only [X.ev, V.toB_b, Bool.and_eq_true] at hg
    simp only [X.bears.go, Bool.or_eq_true, beq_iff_eq] at hh
    rcases hh with ((h1 | h1) | h1) | h1
    · subst h1; exact hg.1
    · subst h1; exact hg.2
    · exact ha h h1 hg.1
    · exact hb h h1 hg.2
  | _ => intro h hh hg; simp only [X.bears.go, beq_iff_eq] at hh; subst hh; exact hg
theorem X.bears_ok (ρ : List V) (g : X) : ∀ (h : X), X.bears g h = true → (g.ev ρ).toB = true → (h.ev ρ).toB = true := by
  intro h
  induction h with
  | and a b ha hb =>
    intro hh hg
    simp only [X.bears, Bool.and_eq_true] at hh
    simp [X.ev, ha hh.1 hg, hb hh.2 hg]
  | _ =>
    intro hh hg
    simp only [X.bears, Bool.or_eq_true, beq_iff_eq] at hh
    rcases hh with h1 | h1
    · subst h1; exact hg
    · exact X.bears_go_ok ρ _ _ h1 hg

end Go.Sx
