/-
  A small verified symbolic executor (part H: trees, the executor). By an AI agent.
-/
import Derived.Test.YtliedecinehijaaDoorSxG
set_option linter.unusedSimpArgs false
set_option linter.unusedVariables false
namespace Go.Sx
open Go

structure St where
  n : Nat
  d : Nat
  fr : List SV
  hp : List Ent
  deriving DecidableEq, Repr, Inhabited

inductive Tree
  | ret (v : SV) (hp : List Ent)
  | ite (c : X) (t e : Tree)
  | need (c : X) (t : Tree)
  | bindN (t : Tree)
  | bindV (t : Tree)
  | bindO (t : Tree)
  | bindF (v : Nat) (t : Tree)
  | letV (v : X) (t : Tree)
  | callP (g : X) (f : Nat) (args : List SV) (hp : List Ent) (res : SV) (m : Nat) (t : Tree)
  | callM (f : Nat) (args : List SV) (hp : List Ent) (mods gone : List Nat) (ms es : List Ent) (res : SV) (m : Nat) (t : Tree)
  | both (t e : Tree)
  | openR (v : Nat) (ks : List Kd) (hp : List Ent) (t : Tree)
  | loop (inits : List X) (t : Tree)
  | back (d : Nat) (xs : List X)
  | join (m : Nat) (t e : Tree)
  | jump (d : Nat) (xs : List X)
  | leaf (st : St)
  | stuck (why : String)
  deriving Repr, Inhabited

structure LC where
  I : List V → Prop
  μ : List V → Nat
  vs : List V

structure Cx where
  P : Program
  B : Base
  R : Ending → World → Prop

def SV.isVal : SV → Bool | .cv _ | .tup _ | .fn .. => true | _ => false

/-- The blocks of slices that are given away. -/
def goneOf (ρ : List V) (gone : List Nat) : List Nat := gone.flatMap fun v => (ρ.getD v (.i 0)).toV.ownBlock.toList
/-- The blocks that a call may write. -/
def modsOf (ρ : List V) (mods gone : List Nat) : List Nat := (mods.map fun v => (ρ.getD v (.i 0)).toN) ++ goneOf ρ gone

def Tree.goal (C : Cx) : Tree → List V → List LC → Prop
  | .ret v hp, ρ, _ => ∀ w, Rel C.B ρ hp w → C.R (.returned (v.ev ρ)) w
  | .ite c t e, ρ, L => (c.P ρ → t.goal C ρ L) ∧ (¬ c.P ρ → e.goal C ρ L)
  | .need c t, ρ, L => c.P ρ ∧ t.goal C ρ L
  | .both t e, ρ, L => t.goal C ρ L ∧ e.goal C ρ L
  | .bindN t, ρ, L => ∀ b : Nat, t.goal C (ρ ++ [.n b]) L
  | .bindV t, ρ, L => ∀ v : Value, t.goal C (ρ ++ [.v v]) L
  | .bindO t, ρ, L => ∀ v : Value, (∀ k, blockOf v k → C.B.w0.heap.size ≤ k ∨ k ∈ C.B.fp) → t.goal C (ρ ++ [.v v]) L
  | .bindF u t, ρ, L => ∀ v : Value, (∀ k, blockOf v k → blockOf (ρ.getD u (.i 0)).toV k) → t.goal C (ρ ++ [.v v]) L
  | .letV x t, ρ, L => t.goal C (ρ ++ [x.ev ρ]) L
  | .callP g f args hp res m t, ρ, L => ∃ vs : List V, vs.length = m ∧
      (g.P ρ → ∀ w, Rel C.B ρ hp w → Calls C.P f (args.map (SV.ev ρ)).toArray w fun e w1 => e = .returned (res.ev (ρ ++ vs)) ∧ Mod [] w w1) ∧ t.goal C (ρ ++ vs) L
  | .callM f args hp mods gone ms es res m t, ρ, L => ∀ w, Rel C.B ρ hp w → Calls C.P f (args.map (SV.ev ρ)).toArray w fun e w1 =>
      ∃ vs : List V, vs.length = m ∧ e = .returned (res.ev (ρ ++ vs)) ∧ Mod (modsOf ρ mods gone) w w1 ∧ (∀ x ∈ ms, x.holds (ρ ++ vs) w1) ∧
        (∀ x ∈ es, x.holds (ρ ++ vs) w1 ∧ ∀ k, x.fp (ρ ++ vs) k → w.heap.size ≤ k ∨ (x.wr = false ∧ ∃ y ∈ hp, y.wr = false ∧ y.fp ρ k) ∨ k ∈ goneOf ρ gone) ∧ Apart (ρ ++ vs) es ∧ t.goal C (ρ ++ vs) L
  | .openR v ks hp t, ρ, L => ∃ rows : List (List Value), (∀ w, Rel C.B ρ hp w → reads w (ρ.getD v (.i 0)).toV ks rows ∧
      (rows.flatten ≠ [] → ∀ k, blockOf (ρ.getD v (.i 0)).toV k → ∀ e ∈ hp, e.wr = true → ¬ e.fp ρ k)) ∧ t.goal C (ρ ++ [.r rows]) L
  | .loop inits t, ρ, L => ∃ (I : List V → Prop) (μ : List V → Nat), I (inits.map (X.ev ρ)) ∧ ∀ vs, vs.length = inits.length → I vs → t.goal C (ρ ++ vs) (L ++ [⟨I, μ, vs⟩])
  | .back d xs, ρ, L => match L[d]? with
    | some c => c.I (xs.map (X.ev ρ)) ∧ c.μ (xs.map (X.ev ρ)) < c.μ c.vs
    | none => False
  | .join m t e, ρ, L => ∃ I : List V → Prop, t.goal C ρ (L ++ [⟨I, fun _ => 0, []⟩]) ∧ ∀ vs, vs.length = m → I vs → e.goal C (ρ ++ vs) L
  | .jump d xs, ρ, L => match L[d]? with
    | some c => c.I (xs.map (X.ev ρ))
    | none => False
  | .leaf _, _, _ => False
  | .stuck _, _, _ => False

instance : Inhabited LC := ⟨⟨fun _ => True, fun _ => 0, []⟩⟩

def Sc.ofV : Value → Option Sc
  | .int k n => some (.int k (.I n))
  | .bool b => some (.bool (.B b))
  | .string s => some (.str (.S s.data.toList))
  | .pointer none => some .nilp
  | .slice none 0 0 => some .nils
  | .map none => some .nilm
  | _ => none
theorem Sc.ofV_ok {ρ : List V} {v : Value} {s : Sc} (h : Sc.ofV v = some s) : s.ev ρ = v := by
  unfold Sc.ofV at h
  split at h <;> simp only [Option.some.injEq, reduceCtorEq] at h <;> subst h <;> simp [Sc.ev, X.ev]

def St.slot (st : St) (t : Nat) : SV := st.fr.getD t .dead
def St.rd (st : St) (G : X) : Operand → Option CV
  | .tmp t => match st.slot t with
    | .cv c => some c
    | .gd g c => if G.bears g then some c else none
    | _ => none
  | .const v => (Sc.ofV v).map fun s => (false, [s])
  | _ => none
/-- A value that is handed on: a function value too. -/
def St.rdA (st : St) (G : X) (x : Operand) : Option SV :=
  match st.rd G x with
  | some c => some (.cv c)
  | none => match x with
    | .tmp t => match st.slot t with | .fn f a b => some (.fn f a b) | _ => none
    | .func f => some (.fn f [] [])
    | _ => none
def St.put (st : St) (d : Option Tmp) (s : SV) : St :=
  match d with
  | some d => { st with fr := st.fr.set d (if s.bd st.n then s else .dead) }
  | none => st

def impl (G n : X) : X := if G = .B true then n else .or (mkNot G) n
def needsT (G : X) : List X → Tree → Tree
  | [], t => t
  | n :: l, t => .need (impl G n) (needsT G l t)

def guardOf (ops : List Oper) (o : Oper) (st : St) : Option X :=
  match o.guard with
  | none => some (.B true)
  | some (j, want) => do
    let oj ← ops[j]?
    let d ← oj.dst
    match st.slot d with
    | .cv (false, [.bool x]) => some (if want then x else mkNot x)
    | .gd g (false, [.bool x]) => some (mkAnd g (if want then x else mkNot x))
    | _ => none

/-- Fresh atoms for cells of these kinds. -/
def freshCells : Nat → List Kd → List Sc
  | _, [] => []
  | n, k :: ks => (match k with | .int k => .int k (.var n) | .bool => .bool (.var n) | .str => .str (.var n) | _ => .val (.var n)) :: freshCells (n + 1) ks
def freshLike : Nat → List Sc → List Sc
  | _, [] => []
  | n, s :: ss => (match s with | .int k _ => .int k (.var n) | .bool _ => .bool (.var n) | .str _ => .str (.var n) | _ => .val (.var n)) :: freshLike (n + 1) ss

structure Env where
  T : Tab
  tups : List (Nat × List Nat)   -- the types of several results
  fs : List Nat          -- functions that have a body
  own : List Nat         -- functions whose slices are theirs to give away
  take : List Nat        -- functions that take the slices that they are handed
  lose : List Nat        -- functions behind which slices in the blocks that they write are nobody's
  inl : List (Nat × Func)  -- functions that are walked where they are called
  joins : List (Nat × Nat × Nat) := []  -- where ways come together: a region whose order is open (0, its number, how many operations), a test (1: a test, 2: a block: the first region's number behind it, how many operations)

/-- Of each cell of a type: which elements it has, if it is a slice (a guess: what is missed shows later). -/
def slTys (T : Tab) : Nat → Nat → List (Option Nat)
  | 0, _ => []
  | f + 1, t => match T.get t with
    | some i => match i.tag with
      | .slice e => [some e]
      | .strct fl => fl.flatMap fun p => let l := slTys T f p.2.1; if l.length = p.2.2.1 then l else List.replicate p.2.2.1 none
      | _ => List.replicate i.ks.length none
    | none => []
def isRow : List Ent → Nat → Option (Nat × List Kd × X)
  | [], _ => none
  | .row u e ks r :: l, v => if u = v then some (e, ks, r) else isRow l v
  | _ :: l, v => isRow l v
/-- Fresh cells for a block that somebody else writes: its slices are owned, as they were. -/
def freshMod (T : Tab) (own : Bool) : Nat → List (Option Nat) → List Sc → List Sc × Nat × List Ent
  | n, _, [] => ([], n, [])
  | n, tys, s :: ss =>
    let ty := match tys with | t :: _ => t | [] => none
    let (c, n1, e) := match s with
      | .int k _ => (Sc.int k (.var n), n + 1, [])
      | .bool _ => (.bool (.var n), n + 1, [])
      | .str _ => (.str (.var n), n + 1, [])
      | _ => match ty with
        | some e => match T.get e with
          | some ei => (.val (.var n), n + 2, [if own = true then Ent.row n e ei.ks (.var (n + 1)) else Ent.rd n ei.ks (.var (n + 1))])
          | none => (.val (.var n), n + 1, [])
        | none => (.val (.var n), n + 1, [])
    let (cs, n2, es) := freshMod T own n1 tys.tail ss
    (c :: cs, n2, e ++ es)
/-- What a call gives back: the value, the next atom, new entries. -/
def resOne (T : Tab) (own : Bool) (t n : Nat) : Option (CV × Nat × List Ent) :=
  match T.get t with
  | none => some ((false, [.val (.var n)]), n + 1, [])
  | some i => match i.tag with
  | .slice e => match own, T.get e with
    | true, some ei => some ((false, [.val (.var n)]), n + 2, [.row n e ei.ks (.var (n + 1))])
    | true, none => none
    | false, some ei => some ((false, [.val (.var n)]), n + 2, [.rd n ei.ks (.var (n + 1))])
    | false, none => some ((false, [.val (.var n)]), n + 1, [])
  | .tuple _ => none
  | _ => let r := freshMod T own n (slTys T 6 t) i.zs; some ((i.agg, r.1), r.2.1, r.2.2)
def resMany (T : Tab) (own : Bool) : List Nat → Nat → Option (List CV × Nat × List Ent)
  | [], n => some ([], n, [])
  | t :: ts, n => do
    let (c, n1, e1) ← resOne T own t n
    let (cs, n2, e2) ← resMany T own ts n1
    some (c :: cs, n2, e1 ++ e2)
def cvHasVal (c : CV) : Bool := c.2.any fun | .val _ => true | _ => false
def resOf (T : Tab) (tups : List (Nat × List Nat)) (own : Bool) (t n : Nat) : Option (SV × Nat × List Ent) :=
  match tups.find? fun p => p.1 == t with
  | some (_, l) => do
    let (cs, n1, es) ← resMany T own l n
    if cs.any cvHasVal && es.isEmpty then some (.tup cs, n1 + 1, es ++ [.st n1]) else some (.tup cs, n1, es)
  | none => do
    let (c, n1, es) ← resOne T own t n
    if cvHasVal c && es.isEmpty then some (.cv c, n1 + 1, es ++ [.st n1]) else some (.cv c, n1, es)

def ptrsOf (cs : List Sc) : List Nat := cs.filterMap fun | .ptr v _ => some v | _ => none
def SV.ptrs : SV → List Nat
  | .cv c => ptrsOf c.2
  | .fn _ a b => ptrsOf a ++ ptrsOf b
  | _ => []
/-- The cells of these blocks, written by somebody else. -/
def havocCells (T : Tab) (n : Nat) : List Nat → List Ent → Option (Nat × List Ent × List Ent)
  | [], _ => some (n, [], [])
  | v :: vs, hp => do
    let (ty, cs) ← findCells hp v
    let r := freshMod T true n (slTys T 6 ty) cs
    let (n', es, news) ← havocCells T r.2.1 vs hp
    some (n', .cells v ty r.1 :: es, r.2.2 ++ news)
/-- The owned slices among these cells. -/
def rowsIn (hp : List Ent) (cs : List Sc) : List Nat := cs.filterMap fun | .val (.var u) => (match isRow hp u with | some _ => some u | none => none) | _ => none
def rowsUnder (hp : List Ent) (v : Nat) : List Nat := match findCells hp v with | some p => rowsIn hp p.2 | none => []
def SV.cells : SV → List Sc
  | .cv c => c.2
  | _ => []
def isGone (gone : List Nat) : Ent → Bool | .row u _ _ _ => gone.contains u | _ => false
def dropRows (hp : List Ent) (gone : List Nat) : List Ent := hp.filter fun e => !(isGone gone e)
def setCells (hp : List Ent) (v ty : Nat) (cs : List Sc) : List Ent :=
  hp.map fun | .cells u ty' cs' => if u = v then .cells v ty cs else .cells u ty' cs' | e => e
def setOne (ms : List Ent) : Ent → Ent
  | .cells u ty cs => (match findCells ms u with | some (ty', cs') => .cells u ty' cs' | none => .cells u ty cs)
  | e => e
def setAll (hp ms : List Ent) : List Ent := hp.map (setOne ms)

def nodup (l : List Nat) : List Nat := l.foldl (fun acc x => if acc.contains x then acc else acc ++ [x]) []

def rdAll (st : St) (G : X) : List Operand → Option (List SV)
  | [] => some []
  | x :: xs => do let s ← st.rdA G x; let r ← rdAll st G xs; some (s :: r)

/-- Has a value to do with memory? -/
def scMem : Sc → Bool | .val _ | .ptr .. | .eptr .. => true | _ => false
def SV.mem : SV → Bool
  | .cv c => c.2.any scMem
  | .tup l => l.any fun c => c.2.any scMem
  | .fn _ a b => a.any scMem || b.any scMem
  | _ => false
def forMem (b : Bool) (hp : List Ent) : List Ent := if b = true then hp else []

/-- The slices that a call takes with it. -/
def goneIn (E : Env) (f : Nat) (hp : List Ent) (mods : List Nat) (args : List SV) : List Nat := nodup (mods.flatMap (rowsUnder hp) ++ (if E.take.contains f then args.flatMap (fun s => rowsIn hp s.cells) else []))
def exCall (E : Env) (o : Oper) (G : X) (st : St) (k : St → Tree) (f : Nat) (args : List SV) : Tree :=
  if !(E.fs.contains f) then .stuck "call no such function" else
  match resOf E.T E.tups (E.own.contains f) o.type st.n with
  | none => .stuck "call the results type"
  | some (res, n1, es) =>
    let mods := nodup (args.flatMap SV.ptrs)
    let gone := goneIn E f st.hp mods args
    if es.isEmpty && mods.isEmpty && gone.isEmpty then
      let st' := { st with n := n1 }
      .callP G f args (forMem (args.any SV.mem) st.hp) res (n1 - st.n) (k (st'.put o.dst (match res with | .cv c => if G = .B true then .cv c else .gd G c | r => if G = .B true then r else .dead)))
    else if G = .B true then
      match havocCells (if E.lose.contains f then [] else E.T) n1 mods st.hp with
      | none => .stuck "call a pointer to no cells"
      | some (n2, ms, news) =>
        let st' := { st with n := n2, hp := (es ++ news) ++ setAll (dropRows st.hp gone) ms }
        if st'.hp.all (Ent.bd n2) && gone.all (fun u => (isRow st.hp u).isSome) then .callM f args st.hp mods gone ms (es ++ news) res (n2 - st.n) (k (st'.put o.dst res)) else .stuck "call bounds"
    else .stuck "call guarded"

def pickOp (st : St) (G : X) (c a b : Operand) : Option Sc :=
  match st.rd G c with
  | some (false, [.bool (.B true)]) => match st.rd G a with | some (false, [s]) => some s | _ => none
  | some (false, [.bool (.B false)]) => match st.rd G b with | some (false, [s]) => some s | _ => none
  | some (false, [.bool cx]) => match st.rd (mkAnd G cx) a, st.rd (mkAnd G (mkNot cx)) b with
    | some (false, [.bool x]), some (false, [.bool y]) => some (.bool (mkIteB cx x y))
    | some (false, [.int k x]), some (false, [.int k' y]) => if k = k' then some (.int k (.ite cx x y)) else none
    | some (false, [.str x]), some (false, [.str y]) => some (.str (.ite cx x y))
    | _, _ => none
  | _ => none

/-- The value of an operation that changes no memory, and what must hold for it. -/
def valOp (E : Env) (st : St) (G : X) (op : Op) : Option (List X × CV) :=
  match op with
  | .pick c a b => (pickOp st G c a b).map fun s => ([], (false, [s]))
  | op => pureOp E.T st.hp (st.rd G) op

def scOf : SV → Option Sc | .cv (false, [s]) => some s | _ => none
def scsOf : List SV → Option (List Sc)
  | [] => some []
  | s :: l => do let a ← scOf s; let b ← scsOf l; some (a :: b)

/-- Which function is called, and with what. -/
def callOf (st : St) (G : X) (c : Call) : Option (Nat × List SV) :=
  match c.callee with
  | .value (.func f) => (rdAll st G c.args.toList).map fun args => (f, args)
  | .value (.tmp t) => match st.slot t, rdAll st G c.args.toList with
    | .fn f first caps, some args => some (f, (first.map fun s => .cv (false, [s])) ++ args ++ (caps.map fun s => .cv (false, [s])))
    | _, _ => none
  | _ => none

def moveOp (o : Oper) (st : St) (x : Operand) (k : St → Tree) : Tree :=
  match x with
  | .tmp t => match st.slot t with
    | .tup l => k (st.put o.dst (.tup l))
    | .fn f a b => k (st.put o.dst (.fn f a b))
    | _ => .stuck "move"
  | .func f => k (st.put o.dst (.fn f [] []))
  | _ => .stuck "move"

/-- Operations that change memory, or that hand on what is no plain value. -/
def effOp (E : Env) (o : Oper) (st : St) (k : St → Tree) : Tree :=
  match o.op with
  | .extract (.tmp t) i => match st.slot t with
    | .tup l => match l[i]? with
      | some c => k (st.put o.dst (.cv c))
      | none => .stuck "extract"
    | _ => .stuck "extract"
  | .move x | .assign x => moveOp o st x k
  | .alloc t => match E.T.get t with
    | some i => .bindN (k (St.put { st with n := st.n + 1, hp := .cells st.n t i.zs :: st.hp } o.dst (.cv (false, [.ptr st.n 0]))))
    | none => .stuck "alloc"
  | .box t x => match st.rd (.B true) x with
    | some (g, cs) => if (g = true ∨ cs.length = 1) ∧ cs.all (Sc.bd st.n) = true then .bindN (k (St.put { st with n := st.n + 1, hp := .cells st.n t cs :: st.hp } o.dst (.cv (false, [.ptr st.n 0])))) else .stuck "box"
    | none => .stuck "box"
  | .store t a x => match st.rd (.B true) a, st.rd (.B true) x, E.T.get t with
    | some (false, [.ptr v off]), some (g, cs), some i => match findCells st.hp v with
      | some (ty, old) =>
        if cs.length = i.ks.length ∧ (g = true ∨ cs.length = 1) ∧ off + cs.length ≤ old.length ∧ cs.all (Sc.bd st.n) = true then
          k (St.put { st with hp := setCells st.hp v ty (old.take off ++ cs ++ old.drop (off + cs.length)) } o.dst (.tup []))
        else .stuck "store size"
      | none => .stuck "store where"
    | _, _, _ => .stuck "store"
  | .makeFunc (.func f) first caps => match (rdAll st (.B true) first.toList).bind scsOf, (rdAll st (.B true) caps.toList).bind scsOf with
    | some a, some b => k (st.put o.dst (.fn f a b))
    | _, _ => .stuck "makeFunc"
  | _ => .stuck "an operation that is not served"

/-- A row of cells, as an expression. -/
def rowX : List Sc → Option X
  | [] => some .nilL
  | .int k x :: l => (rowX l).map (.consI k x ·)
  | .bool x :: l => (rowX l).map (.consB x ·)
  | .str x :: l => (rowX l).map (.consS x ·)
  | .val x :: l => (rowX l).map (.consV x ·)
  | .nils :: l => (rowX l).map (.consV .nilS ·)
  | _ :: _ => none
def kindFit : Kd → Sc → Bool
  | .int k, .int k' _ => k == k'
  | .bool, .bool _ => true
  | .str, .str _ => true
  | .sl _, .val _ | .oth, .val _ | .sl _, .nils | .oth, .nils => true
  | _, _ => false
def kindsFit : List Kd → List Sc → Bool
  | [], [] => true
  | k :: ks, s :: ss => kindFit k s && kindsFit ks ss
  | _, _ => false
/-- So many rows of so many cells. -/
def rowsX (ks : List Kd) : Nat → List Sc → Option X
  | 0, _ => some .nilR
  | n + 1, cs => do
    let r ← rowsX ks n (cs.take (n * ks.length))
    let l := (cs.drop (n * ks.length)).take ks.length
    let x ← rowX l
    if kindsFit ks l = true then some (.snocR r x) else none
def reps (zs : List Sc) : Nat → List Sc
  | 0 => []
  | n + 1 => reps zs n ++ zs
def mkCat (r y : X) : X := match y with | .snocR .nilR x => .snocR r x | y => .catR r y
/-- An owned slice is no longer owned: read only from here on. -/
def letGo (hp : List Ent) (v : Nat) : List Ent := hp.map fun | .row u e ks r => if u = v then .rd u ks r else .row u e ks r | e => e
def dropRow (hp : List Ent) (v : Nat) : List Ent := hp.filter fun | .row u _ _ _ => !(u == v) | _ => true
def valAt (n : Nat) : SV := .cv (false, [.val (.var n)])

/-- Some cells in the place of others. -/
def within {α : Type} (c : Nat) (cs l : List α) : List α := l.take c ++ cs ++ l.drop (c + cs.length)
def setRow1 (v : Nat) (r : X) : Ent → Ent
  | .row u e ks r' => if u = v then .row u e ks r else .row u e ks r'
  | e => e
def setRow (hp : List Ent) (v : Nat) (r : X) : List Ent := hp.map (setRow1 v r)
/-- Operations on slices. -/
def rowOp (E : Env) (o : Oper) (st : St) (k : St → Tree) : Option Tree :=
  match o.op with
  | .move (.const (.slice none 0 0)) | .assign (.const (.slice none 0 0)) => match E.T.tag o.type with
    | some (.slice e) => match E.T.get e with
      | some ei => some (.letV .nilS (k (St.put { st with n := st.n + 1, hp := .row st.n e ei.ks .nilR :: st.hp } o.dst (valAt st.n))))
      | none => none
    | _ => none
  | .buildSlice t len parts => match E.T.tag t with
    | some (.slice e) => match E.T.get e, partsOf (st.rd (.B true)) parts.toList with
      | some ei, some ps => match buildCells ((List.range len).map fun i => (i * ei.ks.length, e, ei.ks.length, ei.agg)) (reps ei.zs len) ps with
        | some cs => match rowsX ei.ks len cs with
          | some r => if r.bd st.n = true ∧ len * ei.ks.length ≤ 16777216 ∧ 0 < ei.ks.length ∧ cs.length = len * ei.ks.length then
              some (.bindO (k (St.put { st with n := st.n + 1, hp := .row st.n e ei.ks r :: st.hp } o.dst (valAt st.n)))) else none
          | none => none
        | none => none
      | _, _ => none
    | _ => none
  | .convert src dst x => match E.T.tag src, E.T.tag dst, st.rd (.B true) x with
    | some .str, some (.slice e), some (false, [.str a]) => match E.T.tag e with
      | some (.int .u8) => if a.bd st.n = true then some (.bindV (k (St.put { st with n := st.n + 1, hp := .rd st.n [.int .u8] (.rOf a) :: st.hp } o.dst (valAt st.n)))) else none
      | _ => none
    | some (.slice e), some .str, some (false, [.val (.var v)]) => match E.T.tag e, findRow st.hp v with
      | some (.int .u8), some ([.int .u8], r) => some (k (st.put o.dst (.cv (false, [.str (.ofR r)]))))
      | _, _ => none
    | _, _, _ => none
  | .slice t x lo hi none => match E.T.tag t, st.rd (.B true) x with
    | some (.slice e), some (false, [.val (.var v)]) => match E.T.get e, findRow st.hp v with
      | some ei, some (ks, r) => match bndOf (st.rd (.B true)) (.I 0) lo, bndOf (st.rd (.B true)) (.rlen r) hi with
        | some l, some h => if ks.length = ei.ks.length ∧ l.bd st.n = true ∧ h.bd st.n = true ∧ r.bd st.n = true then
            some (needsT (.B true) (needLo 0 l ++ (needLe l h ++ needLe h (.rlen r)))
              (.bindF v (k (St.put { st with n := st.n + 1, hp := .rd st.n ks (.dropR (.takeR r h) l) :: letGo st.hp v } o.dst (valAt st.n))))) else none
        | _, _ => none
      | _, _ => none
    | _, _ => none
  | .call c => match c.callee, c.args.toList, c.argTypes.toList with
    | .builtin .append, [x, y], [t, t'] => match E.T.tag t, st.rd (.B true) x, st.rd (.B true) y with
      | some (.slice e), some (false, [.val (.var v)]), some (false, [.val (.var u)]) => match E.T.get e, isRow st.hp v, findRow st.hp u with
        | some ei, some (e', ks, r), some (ks', ry) =>
          if t = t' ∧ e' = e ∧ ks = ei.ks ∧ ks' = ei.ks ∧ 0 < ei.ks.length ∧ 0 < ei.bytes ∧ r.bd st.n = true ∧ ry.bd st.n = true then
            some (.need (.le (.add (.rlen r) (.rlen ry)) (.I (140737488355328 / (ei.bytes : Int))))
              (.bindO (k (St.put { st with n := st.n + 1, hp := .row st.n e ei.ks (mkCat r ry) :: dropRow st.hp v } o.dst (valAt st.n))))) else none
        | _, _, _ => none
      | _, _, _ => none
    | _, _, _ => none
  | .store t a x => match st.rd (.B true) a, st.rd (.B true) x, E.T.get t with
    | some (false, [.eptr v esz i c]), some (g, cs), some ti => match isRow st.hp v with
      | some (e, ks, r) => match rowX (within c cs (elemCells r i 0 ks)) with
        | some rx => if ks.length = esz ∧ c + cs.length ≤ esz ∧ ti.ks.length = cs.length ∧ 0 < cs.length ∧ (g = true ∨ cs.length = 1) ∧ 0 < esz ∧ kindsFit ks (within c cs (elemCells r i 0 ks)) = true ∧ r.bd st.n = true ∧ i.bd st.n = true ∧ rx.bd st.n = true then
            some (needsT (.B true) (needLo 0 i ++ [.lt i (.rlen r)])
              (k (St.put { st with hp := setRow st.hp v (.setR r i rx) } o.dst (.tup [])))) else none
        | none => none
      | none => none
    | _, _, _ => none
  | _ => none

/-- Does a region clear what an operation hands back? -/
def clearsD (ops : List Oper) : Option Tmp → Bool
  | none => false
  | some d => ops.any fun o => match o.op with
    | .call c => match c.callee, c.args.toList with
      | .builtin .clear, [.tmp t] => t == d
      | _, _ => false
    | _ => false
/-- How many slices of a type a region cuts. -/
def slicesOf (ops : List Oper) (t : Nat) : Nat := (ops.filter fun o => match o.op with | .slice t' _ _ _ _ => t' == t | _ => false).length
/-- Operations on slices that the call owns: what follows so many elements is cleared; the first elements stay owned. -/
def rowOp2 (E : Env) (ops : List Oper) (o : Oper) (st : St) (k : St → Tree) : Option Tree :=
  match o.op with
  | .slice t x lo none none => match E.T.tag t, st.rd (.B true) x with
    | some (.slice e), some (false, [.val (.var v)]) => match E.T.get e, isRow st.hp v, bndOf (st.rd (.B true)) (.I 0) lo with
      | some ei, some (e', ks, r), some l => if clearsD ops o.dst = true ∧ e' = e ∧ ks = ei.ks ∧ v < st.n ∧ l.bd st.n = true then
          some (needsT (.B true) (needLo 0 l ++ needLe l (.rlen r)) (k (st.put o.dst (.cv (false, [.val (.subS ks.length (.var v) l)]))))) else none
      | _, _, _ => none
    | _, _ => none
  | .slice t x none (some hi) none => match E.T.tag t, st.rd (.B true) x with
    | some (.slice e), some (false, [.val (.var v)]) => match E.T.get e, isRow st.hp v, bndOf (st.rd (.B true)) (.I 0) (some hi) with
      | some ei, some (e', ks, r), some h => if e' = e ∧ ks = ei.ks ∧ h.bd st.n = true ∧ r.bd st.n = true ∧ slicesOf ops t ≤ 1 then
          some (needsT (.B true) (needLo 0 h ++ needLe h (.rlen r)) (.bindO (k (St.put { st with n := st.n + 1, hp := .row st.n e ks (.takeR r h) :: dropRow st.hp v } o.dst (valAt st.n))))) else none
      | _, _, _ => none
    | _, _ => none
  | .call c => match c.callee, c.args.toList, c.argTypes.toList with
    | .builtin .clear, [y], [t] => match E.T.tag t, st.rd (.B true) y with
      | some (.slice e), some (false, [.val (.subS n0 (.var v) l)]) => match E.T.get e, isRow st.hp v with
        | some ei, some (e', ks, r) => match rowX ei.zs with
          | some zx => if e' = e ∧ ks = ei.ks ∧ n0 = ks.length ∧ 0 < ks.length ∧ l.bd st.n = true ∧ r.bd st.n = true ∧ zx.bd st.n = true ∧ kindsFit ks ei.zs = true then
              some (needsT (.B true) (needLo 0 l ++ needLe l (.rlen r)) (k (St.put { st with hp := setRow st.hp v (.clrR r l zx) } o.dst (.tup [])))) else none
          | none => none
        | _, _ => none
      | _, _ => none
    | _, _, _ => none
  | _ => none

def Sc.asm (x : X) (b : Bool) : Sc → Sc
  | .bool y => .bool (X.asm x b y)
  | s => s
def SV.asm (x : X) (b : Bool) : SV → SV
  | .cv (g, cs) => .cv (g, cs.map (Sc.asm x b))
  | .gd g (h, cs) => if X.asm x b g = .B true then .cv (h, cs.map (Sc.asm x b)) else .gd (X.asm x b g) (h, cs.map (Sc.asm x b))
  | s => s
def asmFr (x : X) (b : Bool) (fr : List SV) (n : Nat) : List SV := fr.map fun s => if (SV.asm x b s).bd n = true then SV.asm x b s else s
/-- The state where x is known to be b. -/
def St.asm (st : St) (x : X) (b : Bool) : St := match x with
  | .not y => { st with fr := asmFr y (!b) st.fr st.n }
  | x => { st with fr := asmFr x b st.fr st.n }

abbrev InlF := Nat → List SV → St → (SV → St → Tree) → Option Tree

/-- What to tell apart ahead of an operation that is guarded: what the guard hangs on. -/
def splitOf (E : Env) (ops : List Oper) (o : Oper) (st : St) : Option X :=
  match guardOf ops o st with
  | none => none
  | some G =>
    if G = .B false ∨ G = .B true then none else
    match valOp E st G o.op with
    | some _ => none
    | none =>
      let pure := match o.op with
        | .call c => match callOf st G c with
          | some (f, args) => !(E.inl.any fun p => p.1 == f) && (nodup (args.flatMap SV.ptrs)).isEmpty && (match resOf E.T E.tups (E.own.contains f) o.type st.n with | some (_, _, es) => es.isEmpty | none => false)
          | none => false
        | _ => false
      if pure = true then none else
      match o.guard with
      | some (j, _) => match (ops[j]?).bind (·.dst) with
        | some d => match st.slot d with
          | .cv (false, [.bool x]) => if x.bd st.n = true then some x else none
          | .gd g _ => if g.bd st.n = true then some g else none
          | _ => none
        | none => none
      | none => none

/-- One operation, told apart where it must be. -/
def exOp0 (E : Env) (inl : InlF) (ops : List Oper) (o : Oper) (st : St) (k : St → Tree) : Tree :=
  match guardOf ops o st with
  | none => .stuck "guard"
  | some G =>
    if G = .B false then k (st.put o.dst (.tup [])) else
    match (if G = .B true then (match rowOp2 E ops o st k with | some t => some t | none => rowOp E o st k) else none) with
    | some t => t
    | none =>
    match valOp E st G o.op with
    | some (ns, c) => needsT G ns (k (st.put o.dst (if G = .B true then .cv c else .gd G c)))
    | none => match o.op with
      | .call c => match callOf st G c with
        | some (f, args) => match (if G = .B true then inl f args st (fun r s => k (St.put { st with n := s.n, d := s.d, hp := s.hp } o.dst r)) else none) with
          | some t => t
          | none => exCall E o G st k f args
        | none => .stuck "call"
      | _ => if G = .B true then effOp E o st k else .stuck "a guarded effect"
def exOp1 (E : Env) (inl : InlF) (ops : List Oper) (o : Oper) (st : St) (k : St → Tree) : Tree :=
  match splitOf E ops o st with
  | some x => .ite x (exOp0 E inl ops o (st.asm x true) k) (exOp0 E inl ops o (st.asm x false) k)
  | none => exOp0 E inl ops o st k
def exOpA (E : Env) (inl : InlF) (ops : List Oper) (o : Oper) (st : St) (k : St → Tree) : Tree :=
  match splitOf E ops o st with
  | some x => .ite x (exOp1 E inl ops o (st.asm x true) k) (exOp1 E inl ops o (st.asm x false) k)
  | none => exOp0 E inl ops o st k
/-- A nil slice (out of a struct's cell) that an operation appends to: it gets a name ahead of it. -/
def nilArg (E : Env) (o : Oper) (st : St) : Option (Nat × Nat × List Kd) :=
  match o.op with
  | .call c => match c.callee, c.args.toList, c.argTypes.toList with
    | .builtin .append, [.tmp t, _], [ty, _] => match st.slot t, E.T.tag ty with
      | .cv (false, [.nils]), some (.slice e) => (E.T.get e).map fun ei => (t, e, ei.ks)
      | _, _ => none
    | _, _, _ => none
  | _ => none
def exOp (E : Env) (inl : InlF) (ops : List Oper) (o : Oper) (st : St) (k : St → Tree) : Tree :=
  match nilArg E o st with
  | some (t, e, ks) => .letV .nilS (exOpA E inl ops o (St.put { st with n := st.n + 1, hp := .row st.n e ks .nilR :: st.hp } (some t) (valAt st.n)) k)
  | none => exOpA E inl ops o st k

def exOps (E : Env) (inl : InlF) (ops : List Oper) : List Oper → St → (St → Tree) → Tree
  | [], st, k => k st
  | o :: rest, st, k => exOp E inl ops o st fun st => exOps E inl ops rest st k

/-- The slots whose targets the code may write through (a guess: what is missed shows at the loop's back). -/
def storeRoots : List Oper → List (Nat × Nat) → List Nat
  | [], _ => []
  | o :: rest, m =>
    let root (t : Nat) : Nat := match m.find? fun p => p.1 == t with | some p => p.2 | none => t
    let m' := match o.dst, o.op with
      | some d, .fieldAddr _ (.tmp q) _ => (d, root q) :: m
      | some d, .nilCheck (.tmp q) => (d, root q) :: m
      | some d, .indexAddr _ (.tmp q) _ => (d, root q) :: m
      | some d, .move (.tmp q) => (d, root q) :: m
      | _, _ => m
    (match o.op with
      | .store _ (.tmp p) _ => [root p]
      | .call c => (match c.callee with | .value (.tmp t) => [root t] | .value _ => [] | _ => []) ++ (match c.callee with | .builtin _ => [] | _ => c.args.toList.filterMap fun | .tmp p => some (root p) | _ => none)
      | _ => []) ++ storeRoots rest m'

end Go.Sx
