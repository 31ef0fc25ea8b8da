/-
  A small verified symbolic executor (part D: operations that change no memory). By an AI agent.
-/
import Derived.Test.YtliedecinehijaaDoorSxC
set_option linter.unusedSimpArgs false
set_option linter.unusedVariables false
namespace Go.Sx
open Go

def Tab.tag (T : Tab) (t : Nat) : Option Tg := match T.get t with | some i => some i.tag | none => none

def findRow (hp : List Ent) (v : Nat) : Option (List Kd × X) :=
  match hp with
  | [] => none
  | .row u _ ks r :: l => if u = v then some (ks, r) else findRow l v
  | .rd u ks r :: l => if u = v then some (ks, r) else findRow l v
  | _ :: l => findRow l v
def findCells (hp : List Ent) (v : Nat) : Option (Nat × List Sc) :=
  match hp with
  | [] => none
  | .cells u ty cs :: l => if u = v then some (ty, cs) else findCells l v
  | _ :: l => findCells l v

/-- All entries hold. -/
def Hold (ρ : List V) (hp : List Ent) (w : World) : Prop := ∀ e ∈ hp, e.holds ρ w
theorem findRow_ok {ρ : List V} {w : World} : ∀ {hp : List Ent} {v : Nat} {ks : List Kd} {r : X}, Hold ρ hp w → findRow hp v = some (ks, r) → reads w (ρ.getD v (.i 0)).toV ks (r.ev ρ).toR := by
  intro hp
  induction hp with
  | nil => intro v ks r h hf; simp [findRow] at hf
  | cons e l ih =>
    intro v ks r h hf
    have ih' := fun hf' => @ih v ks r (fun e he => h e (List.mem_cons_of_mem _ he)) hf'
    cases e with
    | row u ty ks' r' =>
      simp only [findRow] at hf
      split at hf
      · rename_i hu; subst hu; simp at hf; obtain ⟨rfl, rfl⟩ := hf
        exact owns.reads (h _ (List.mem_cons_self ..))
      · exact ih' hf
    | rd u ks' r' =>
      simp only [findRow] at hf
      split at hf
      · rename_i hu; subst hu; simp at hf; obtain ⟨rfl, rfl⟩ := hf
        exact h _ (List.mem_cons_self ..)
      · exact ih' hf
    | cells u ty cs => simp only [findRow] at hf; exact ih' hf
    | st u => simp only [findRow] at hf; exact ih' hf
theorem findCells_mem : ∀ {hp : List Ent} {v ty : Nat} {cs : List Sc}, findCells hp v = some (ty, cs) → Ent.cells v ty cs ∈ hp := by
  intro hp
  induction hp with
  | nil => intro v ty cs hf; simp [findCells] at hf
  | cons e l ih =>
    intro v ty cs hf
    cases e with
    | cells u ty' cs' =>
      simp only [findCells] at hf
      split at hf
      · rename_i hu; subst hu; simp at hf; obtain ⟨rfl, rfl⟩ := hf; exact List.mem_cons_self ..
      · exact List.mem_cons_of_mem _ (ih hf)
    | _ => simp only [findCells] at hf; exact List.mem_cons_of_mem _ (ih hf)

/-- The cells of an element: cell c and those behind it, of these kinds. -/
def elemCells (r i : X) : Nat → List Kd → List Sc
  | _, [] => []
  | c, k :: ks => (match k with
    | .int k => .int k (.rI r i c) | .bool => .bool (.rB r i c) | .str => .str (.rS r i c) | _ => .val (.rV r i c)) :: elemCells r i (c + 1) ks

/-- Reading a variable of type t at an address. -/
def loadAt (T : Tab) (hp : List Ent) (t : Nat) (a : Sc) : Option (List X × CV) := do
  let i ← T.get t
  match a with
  | .ptr v off =>
    let (_, cs) ← findCells hp v
    if off + i.ks.length ≤ cs.length then some ([], (i.agg, (cs.drop off).take i.ks.length)) else none
  | .eptr v esz ix c =>
    let (ks, r) ← findRow hp v
    if ks.length = esz ∧ c + i.ks.length ≤ ks.length ∧ 0 < i.ks.length then
      some (needLo 0 ix ++ [.lt ix (.rlen r)], (i.agg, elemCells r ix c ((ks.drop c).take i.ks.length))) else none
  | _ => none

def binInt (op : BinOp) (k : IntKind) (x y : X) : Option (List X × CV) :=
  match op with
  | .add => let r := ranged k (.add x y); some (r.1, (false, [.int k r.2]))
  | .sub => let r := ranged k (.sub x y); some (r.1, (false, [.int k r.2]))
  | .mul => let r := ranged k (.mul x y); some (r.1, (false, [.int k r.2]))
  | .quo => some (needLo 0 x ++ needHi (kmax k) x ++ needLo 1 y, (false, [.int k (.ediv x y)]))
  | .rem => some (needLo 0 x ++ needLo 1 y, (false, [.int k (.emod x y)]))
  | .shl => some (needLo 0 y, (false, [.int k (.shl k x y)]))
  | .shr => some (needLo 0 y, (false, [.int k (.shr k x y)]))
  | .and | .or | .xor | .andNot => some ([], (false, [.int k (.bits op k x y)]))
  | .eql => some ([], (false, [.bool (.eqI x y)]))
  | .neq => some ([], (false, [.bool (.not (.eqI x y))]))
  | .lss => some ([], (false, [.bool (.lt x y)]))
  | .leq => some ([], (false, [.bool (.le x y)]))
  | .gtr => some ([], (false, [.bool (.lt y x)]))
  | .geq => some ([], (false, [.bool (.le y x)]))
def binSh (op : BinOp) (k : IntKind) (x y : X) : Option (List X × CV) :=
  match op with
  | .shl => some (needLo 0 y, (false, [.int k (.shl k x y)]))
  | .shr => some (needLo 0 y, (false, [.int k (.shr k x y)]))
  | _ => none
def binStr (op : BinOp) (x y : X) : Option (List X × CV) :=
  match op with
  | .add => some ([.le (.add (.len x) (.len y)) (.I 9223372036854775807)], (false, [.str (.cat x y)]))
  | .eql => some ([], (false, [.bool (.eqS x y)]))
  | .neq => some ([], (false, [.bool (.not (.eqS x y))]))
  | .lss => some ([], (false, [.bool (.less x y)]))
  | .leq => some ([], (false, [.bool (.or (.less x y) (.eqS x y))]))
  | .gtr => some ([], (false, [.bool (.not (.or (.less x y) (.eqS x y)))]))
  | .geq => some ([], (false, [.bool (.not (.less x y))]))
  | _ => none
def binSc (op : BinOp) (a b : Sc) : Option (List X × CV) :=
  match a, b with
  | .int k x, .int k' y => if k = k' then binInt op k x y else binSh op k x y
  | .str x, .str y => binStr op x y
  | _, _ => none

def eqSc : Sc → Sc → Option X
  | .int k x, .int k' y => if k = k' then some (.eqI x y) else none
  | .bool x, .bool y => some (.eqB x y)
  | .str x, .str y => some (.eqS x y)
  | _, _ => none

def eqFldSc (T : Tab) (ty : Nat) (a b : Sc) : Option X :=
  match T.tag ty, a, b with
  | some (.int _), .int k x, .int k' y => if k = k' then some (.eqI x y) else none
  | some .bool, .bool x, .bool y => some (.eqB x y)
  | some .str, .str x, .str y => some (.eqS x y)
  | _, _, _ => none
/-- Are two structs alike, field by field? -/
def eqFlds (T : Tab) (cs ds : List Sc) : List (Nat × Nat × Nat × Bool) → Option X
  | [] => some (.B true)
  | (off, ty, _, _) :: l => do
    let a ← cs[off]?
    let b ← ds[off]?
    let e ← eqFldSc T ty a b
    let r ← eqFlds T cs ds l
    some (mkAnd e r)
def eqAgg (T : Tab) (t : Nat) (cs ds : List Sc) : Option X :=
  match T.get t with
  | some i => if i.eqs = true then (match i.tag with | .strct fl => eqFlds T cs ds fl | _ => none) else none
  | none => none

/-- 'build': the parts in their places. -/
def buildCells (fl : List (Nat × Nat × Nat × Bool)) (cs : List Sc) : List (Nat × CV) → Option (List Sc)
  | [] => some cs
  | (i, (g, p)) :: rest => do
    let (off, _, sz, _) ← fl[i]?
    if p.length = sz ∧ off + sz ≤ cs.length ∧ (g = true ∨ p.length = 1) then buildCells fl (cs.take off ++ p ++ cs.drop (off + sz)) rest else none

def partsOf (g : Operand → Option CV) : List (Nat × Operand) → Option (List (Nat × CV))
  | [] => some []
  | (i, x) :: l => do let c ← g x; let r ← partsOf g l; some ((i, c) :: r)

/-- 'x ≤ y', unless that is seen at once. -/
def needLe (x y : X) : List X := if x = y then [] else match x.hi, y.lo with | some a, some b => if a ≤ b then [] else [.le x y] | _, _ => [.le x y]
def bndOf (g : Operand → Option CV) (d : X) : Option Operand → Option X
  | none => some d
  | some l => match g l with | some (false, [.int _ l]) => some l | _ => none

def pureOp (T : Tab) (hp : List Ent) (g : Operand → Option CV) (o : Op) : Option (List X × CV) :=
  match o with
  | .move x | .assign x => (g x).map fun c => ([], c)
  | .nilCheck x => match g x with
    | some (false, [.ptr v off]) => some ([], (false, [.ptr v off]))
    | _ => none
  | .binOp op t x y _ => match g x, g y with
    | some (false, [.bool a]), some (false, [.bool b]) => match op, T.tag t with
      | .eql, some .bool => some ([], (false, [.bool (.eqB a b)]))
      | .neq, some .bool => some ([], (false, [.bool (.not (.eqB a b))]))
      | _, _ => none
    | some (false, [.val a]), some (false, [.nils]) => match op, T.tag t, a with
      | .eql, some (.slice _), .var v => (findRow hp v).map fun _ => ([], (false, [.bool (.isnil (.var v))]))
      | .neq, some (.slice _), .var v => (findRow hp v).map fun _ => ([], (false, [.bool (.not (.isnil (.var v)))]))
      | _, _, _ => none
    | some (false, [a]), some (false, [b]) => binSc op a b
    | some (true, cs), some (true, ds) => match op, eqAgg T t cs ds with
      | .eql, some e => some ([], (false, [.bool e]))
      | .neq, some e => some ([], (false, [.bool (mkNot e)]))
      | _, _ => none
    | _, _ => none
  | .unOp .not _ x => match g x with | some (false, [.bool a]) => some ([], (false, [.bool (mkNot a)])) | _ => none
  | .unOp .neg _ x => match g x with | some (false, [.int k a]) => let r := ranged k (.sub (.I 0) a); some (r.1, (false, [.int k r.2])) | _ => none
  | .convert src dst x => match (T.get src), T.tag dst, g x with
    | some _, some (.int k), some (false, [.int _ a]) => let r := ranged k a; some (r.1, (false, [.int k r.2]))
    | some _, some .str, some (false, [.str a]) => some ([], (false, [.str a]))
    | _, _, _ => none
  | .slice t x lo hi none => match T.tag t, g x with
    | some .str, some (false, [.str a]) => match bndOf g (.I 0) lo, bndOf g (.len a) hi with
      | some l, some h => some (needLo 0 l ++ (needLe l h ++ needLe h (.len a)), (false, [.str (.sl a l h)]))
      | _, _ => none
    | _, _ => none
  | .fieldAddr s x f => match T.tag s, g x with
    | some (.strct fl), some (false, [.ptr v off]) => do
      let (fo, _, sz, _) ← fl[f]?
      if 0 < sz then some ([], (false, [.ptr v (off + fo)])) else none
    | some (.strct fl), some (false, [.eptr v esz i c]) => do
      let (fo, _, sz, _) ← fl[f]?
      let (_, r) ← findRow hp v
      if 0 < sz then some (needLo 0 i ++ [.lt i (.rlen r)], (false, [.eptr v esz i (c + fo)])) else none
    | _, _ => none
  | .field t x f => match T.tag t, g x with
    | some (.strct fl), some (true, cs) => do
      let (fo, _, sz, ag) ← fl[f]?
      if ag then some ([], (true, (cs.drop fo).take sz)) else do let c ← cs[fo]?; some ([], (false, [c]))
    | _, _ => none
  | .indexAddr t x i => match T.tag t, g x, g i with
    | some (.slice e), some (false, [.val (.var v)]), some (false, [.int _ ix]) => do
      let ei ← T.get e
      let (ks, r) ← findRow hp v
      if ks.length = ei.ks.length then some (needLo 0 ix ++ [.lt ix (.rlen r)], (false, [.eptr v ks.length ix 0])) else none
    | _, _, _ => none
  | .index t x i => match T.tag t, g x, g i with
    | some .str, some (false, [.str a]), some (false, [.int _ ix]) => some (needLo 0 ix ++ [.lt ix (.len a)], (false, [.int .u8 (.at_ a ix)]))
    | _, _, _ => none
  | .build t parts => match T.get t with
    | some { tag := .strct fl, zs := zs, .. } => do
      let ps ← partsOf g parts.toList
      let cs ← buildCells fl zs ps
      some ([], (true, cs))
    | _ => none
  | .call c => match c.callee, c.args.toList, c.argTypes.toList with
    | .builtin .len, [x], [t] => match T.tag t, g x with
      | some .str, some (false, [.str a]) => some ([], (false, [.int .i64 (.len a)]))
      | some (.slice _), some (false, [.val (.var v)]) => do let (_, r) ← findRow hp v; some ([], (false, [.int .i64 (.rlen r)]))
      | some (.slice _), some (false, [.nils]) => some ([], (false, [.int .i64 (.I 0)]))
      | _, _ => none
    | .builtin .min, [x, y], _ => match g x, g y with
      | some (false, [.int k a]), some (false, [.int _ b]) => some ([], (false, [.int k (.min a b)]))
      | _, _ => none
    | _, _, _ => none
  | .load t x => match g x with
    | some (false, [a]) => loadAt T hp t a
    | _ => none
  | _ => none

theorem Hold.toRow {ρ : List V} {hp : List Ent} {w : World} (h : Hold ρ hp w) {v : Nat} {ks : List Kd} {r ix : X} (hf : findRow hp v = some (ks, r))
    (hn : Needs ρ (needLo 0 ix ++ [.lt ix (.rlen r)])) : ∃ ad cap, (ρ.getD v (.i 0)).toV = .slice (some ad) (r.ev ρ).toR.length cap ∧ 0 ≤ (ix.ev ρ).toI ∧ (ix.ev ρ).toI < (r.ev ρ).toR.length := by
  obtain ⟨h1, h2⟩ := hn.app
  have h1 := needLo_ok h1
  have h2 : (ix.ev ρ).toI < (r.ev ρ).toR.length := of_decide_eq_true (h2 _ (List.mem_singleton.2 rfl))
  obtain ⟨_, a, cap, hv, _, h3⟩ := findRow_ok h hf
  obtain ⟨ad, rfl, _⟩ := h3 (fun e => by rw [e] at h2; simp at h2; omega)
  exact ⟨ad, cap, hv, h1, h2⟩

end Go.Sx
