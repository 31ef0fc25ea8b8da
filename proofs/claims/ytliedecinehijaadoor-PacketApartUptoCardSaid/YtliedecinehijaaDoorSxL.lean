/-
  A small verified symbolic executor (part L: lists of operations; code; loops; functions). By an AI agent.
-/
import Derived.Test.YtliedecinehijaaDoorSxLd
set_option linter.unusedSimpArgs false
set_option linter.unusedVariables false
namespace Go.Sx
open Go
variable {C : Cx} {E : Env}

inductive EX | normal | exit (id : Nat) | ret
  deriving DecidableEq, Repr, Inhabited
def EX.to : EX → Exit | .normal => .normal | .exit id => .exit id | .ret => .ret

def writes : Code → List Nat
  | .region _ ops _ => ops.toList.filterMap (·.dst)
  | .seq a b => writes a ++ writes b
  | .cond _ a b => writes a ++ writes b
  | .block _ c => writes c
  | .loop c => writes c
  | _ => []
def opsOf : Code → List Oper
  | .region _ ops _ => ops.toList
  | .seq a b => opsOf a ++ opsOf b
  | .cond _ a b => opsOf a ++ opsOf b
  | .block _ c => opsOf c
  | .loop c => opsOf c
  | _ => []
structure Hd where
  n : Nat
  inits : List X
  sub : List (Nat × Nat)      -- slices that have a new name
  rows : List Ent             -- slices that may be made in the loop
  deriving Inhabited
/-- ty: which elements a nil slice would have. -/
def freshSc (T : Tab) (hp : List Ent) (ty : Option Nat) (h : Hd) : Sc → Sc × Hd
  | .int k x => (.int k (.var h.n), { h with n := h.n + 1, inits := h.inits ++ [x] })
  | .bool x => (.bool (.var h.n), { h with n := h.n + 1, inits := h.inits ++ [x] })
  | .str x => (.str (.var h.n), { h with n := h.n + 1, inits := h.inits ++ [x] })
  | .val (.var v) => match findRow hp v with
    | some (_, r) => (.val (.var h.n), { h with n := h.n + 2, inits := h.inits ++ [.var v, r], sub := (v, h.n) :: h.sub })
    | none => (.val (.var h.n), { h with n := h.n + 1, inits := h.inits ++ [.var v] })
  | .val x => (.val (.var h.n), { h with n := h.n + 1, inits := h.inits ++ [x] })
  | .nilp => (.val (.var h.n), { h with n := h.n + 1, inits := h.inits ++ [.nilP] })
  | .nils => match ty with
    | some e => match T.get e with
      | some ei => (.val (.var h.n), { h with n := h.n + 2, inits := h.inits ++ [.nilS, .nilR], rows := h.rows ++ [.row h.n e ei.ks (.var (h.n + 1))] })
      | none => (.nils, h)
    | none => (.nils, h)
  | s => (s, h)
def freshScs (T : Tab) (hp : List Ent) : List (Option Nat) → Hd → List Sc → List Sc × Hd
  | _, h, [] => ([], h)
  | tys, h, s :: ss =>
    let ty := match tys with | t :: _ => t | [] => none
    let (a, h1) := freshSc T hp ty h s; let (b, h2) := freshScs T hp tys.tail h1 ss; (a :: b, h2)
/-- The same for a struct's cells; fixed: slices that a slot holds that the loop does not write. -/
def freshScsF (T : Tab) (hp : List Ent) (fixed : List Nat) : List (Option Nat) → Hd → List Sc → List Sc × Hd
  | _, h, [] => ([], h)
  | tys, h, s :: ss =>
    let ty := match tys with | t :: _ => t | [] => none
    let keep := match s with | .val (.var v) => fixed.contains v | _ => false
    let (a, h1) := if keep = true then (s, h) else freshSc T hp ty h s
    let (b, h2) := freshScsF T hp fixed tys.tail h1 ss
    (a :: b, h2)
/-- The elements of slices that the code appends to. -/
def appended (T : Tab) (ops : List Oper) : List Nat := ops.filterMap fun o => match o.op with
  | .call c => match c.callee, c.argTypes.toList with
    | .builtin .append, t :: _ => match T.tag t with | some (.slice e) => some e | _ => none
    | _, _ => none
  | _ => none
/-- Of each cell of a slot: which elements it has, if it is a slice that the code may append to. -/
def slotTys (T : Tab) (ops : List Oper) (j : Nat) : List (Option Nat) :=
  let ap := appended T ops
  if ap.isEmpty then [] else
  match ops.find? (fun o => o.dst == some j && (T.get o.type).isSome) with
  | some o => (slTys T 6 o.type).map fun x => match x with | some e => if ap.contains e then some e else none | none => none
  | none => []
def freshSlots (T : Tab) (ops : List Oper) (hp : List Ent) (W : List Nat) : Nat → Hd → List SV → List SV × Hd
  | _, h, [] => ([], h)
  | j, h, s :: ss =>
    let (a, h1) := if W.contains j then (match s with | .cv (g, cs) => let (cs', h') := freshScs T hp (slotTys T ops j) h cs; (SV.cv (g, cs'), h') | _ => (.dead, h)) else (s, h)
    let (b, h2) := freshSlots T ops hp W (j + 1) h1 ss
    (a :: b, h2)
def freshEnts (T : Tab) (hp0 : List Ent) (fixed M : List Nat) : Hd → List Ent → List Ent × Hd
  | h, [] => ([], h)
  | h, e :: es =>
    let (a, h1) := match e with
      | .cells v ty cs => if M.contains v then (let (cs', h') := freshScsF T hp0 fixed (slTys T 6 ty) h cs; (Ent.cells v ty cs', h')) else (e, h)
      | .row v ty ks r => if M.contains v && !(h.sub.any fun p => p.1 == v) then (.row v ty ks (.var h.n), { h with n := h.n + 1, inits := h.inits ++ [r] }) else (e, h)
      | e => (e, h)
    let (b, h2) := freshEnts T hp0 fixed M h1 es
    (a :: b, h2)
def subEnt (h : Hd) : Ent → Ent
  | .row v ty ks r => (match h.sub.find? fun p => p.1 == v with | some p => .row p.2 ty ks (.var (p.2 + 1)) | none => .row v ty ks r)
  | .rd v ks r => (match h.sub.find? fun p => p.1 == v with | some p => .rd p.2 ks (.var (p.2 + 1)) | none => .rd v ks r)
  | e => e
/-- Does a slot hold this slice? -/
def usesV (v : Nat) : SV → Bool
  | .cv c => c.2.any fun s => match s with | .val (.var u) => u == v | _ => false
  | _ => false
/-- What a closure may write: what it has caught, and what lies behind caught variables. -/
def closedOver (st : St) (t : Nat) : List Nat := match st.slot t with
  | .fn _ first caps => (first ++ caps).flatMap fun s => match s with
    | .ptr v _ => (match st.hp.find? fun e => match e with | .cells u _ _ => u == v | _ => false with
      | some (.cells _ _ [.ptr u _]) => [u]
      | _ => [v])
    | _ => []
  | _ => []
/-- What stands behind a caught variable that the code itself reads. -/
def loadedFrom (ops : List Oper) (st : St) (t : Nat) : List Nat := ops.flatMap fun o => match o.dst, o.op with
  | some d, .load _ (.tmp q) => if d == t then (match st.slot q with
    | .cv (false, [.ptr v _]) => (match st.hp.find? fun e => match e with | .cells u _ _ => u == v | _ => false with
      | some (.cells _ _ [.ptr u _]) => [u]
      | _ => [])
    | _ => []) else []
  | _, _ => []
/-- The state at a loop's head, and what its new atoms are at the start. -/
def headOf (T : Tab) (body : Code) (st : St) : St × List X :=
  let W := writes body
  let roots := storeRoots (opsOf body) []
  let M := (roots.filterMap fun t => match st.slot t with | .cv (false, [.ptr v _]) => some v | .cv (false, [.val (.var v)]) => some v | _ => none) ++ roots.flatMap (closedOver st) ++ roots.flatMap (loadedFrom (opsOf body) st)
  let (fr, h1) := freshSlots T (opsOf body) st.hp W 0 { n := st.n, inits := [], sub := [], rows := [] } st.fr
  let fixed := (List.range st.fr.length).filterMap fun j => if W.contains j = true then none else (match st.slot j with | .cv (false, [.val (.var u)]) => some u | _ => none)
  let (hp, h2) := freshEnts T st.hp fixed M h1 st.hp
  let olds := st.hp.filter fun e => match e with | .rd v _ _ => (h2.sub.any fun p => p.1 == v) && fr.any (usesV v) | _ => false
  ({ n := h2.n, d := st.d, fr := fr, hp := hp.map (subEnt h2) ++ h2.rows ++ olds }, h2.inits)

def atX (n0 : Nat) (xs : List X) (f : Nat) : Option X := if n0 ≤ f then xs[f - n0]? else none
/-- Is what stands in the head's place (over the atoms from n0 on) what stands here, the atoms being xs? -/
def fitX (n0 : Nat) (xs : List X) (h c : X) : Bool :=
  (h.bd n0 && h == c) || (match h with | .var f => atX n0 xs f == some c | _ => false)
def fitSc (n0 : Nat) (xs : List X) : Sc → Sc → Bool
  | .int k x, .int k' y => k == k' && fitX n0 xs x y
  | .bool x, .bool y => fitX n0 xs x y
  | .str x, .str y => fitX n0 xs x y
  | .val x, .val y => fitX n0 xs x y
  | .val x, .nilp => fitX n0 xs x .nilP
  | .val x, .ptr v off => fitX n0 xs x (.ptrX v off)
  | .val x, .nils => fitX n0 xs x .nilS
  | .ptr v off, .ptr v' off' => off == off' && fitX n0 xs (.var v) (.var v')
  | h, c => h.bd n0 && h == c
def fitScs (n0 : Nat) (xs : List X) : List Sc → List Sc → Bool
  | [], [] => true
  | h :: hs, c :: cs => fitSc n0 xs h c && fitScs n0 xs hs cs
  | _, _ => false
def fitSV (n0 : Nat) (xs : List X) : SV → SV → Bool
  | .dead, _ => true
  | .cv (g, hs), .cv (g', cs) => g == g' && fitScs n0 xs hs cs
  | h, c => h.bd n0 && h == c
def fitFr (n0 : Nat) (xs : List X) : List SV → List SV → Bool
  | [], [] => true
  | h :: hs, c :: cs => fitSV n0 xs h c && fitFr n0 xs hs cs
  | _, _ => false
def fitEnt (n0 : Nat) (xs : List X) : Ent → Ent → Bool
  | .cells v ty hs, .cells v' ty' cs => fitX n0 xs (.var v) (.var v') && ty == ty' && fitScs n0 xs hs cs
  | .row v ty ks r, .row v' ty' ks' r' => fitX n0 xs (.var v) (.var v') && ty == ty' && ks == ks' && fitX n0 xs r r'
  | .rd v ks r, .rd v' ks' r' => fitX n0 xs (.var v) (.var v') && ks == ks' && fitX n0 xs r r'
  | .st v, .st v' => decide (v < n0) && v == v'
  | _, _ => false
def takeOut (p : Ent → Bool) : List Ent → Option (Ent × List Ent)
  | [] => none
  | c :: cs => if p c then some (c, cs) else match takeOut p cs with | some (d, ds) => some (d, c :: ds) | none => none
/-- A slice that is nil still. -/
def nilRow (n0 : Nat) (xs : List X) : Ent → Bool
  | .row v _ _ r => (match atX n0 xs v with | some .nilS => true | _ => false) && fitX n0 xs r .nilR
  | _ => false
def fitHp (n0 : Nat) (xs : List X) : List Ent → List Ent → Bool
  | [], _ => true
  | h :: hs, cs => match takeOut (fitEnt n0 xs h) cs with
    | some (c, cs') => if c.wr = true then fitHp n0 xs hs cs' else fitHp n0 xs hs cs
    | none => nilRow n0 xs h && fitHp n0 xs hs cs
def fits (n0 : Nat) (xs : List X) (head cur : St) : Bool :=
  head.n == n0 + xs.length && xs.all (X.bd cur.n) && fitFr n0 xs head.fr cur.fr && fitHp n0 xs head.hp cur.hp && head.fr.all (SV.bd head.n) && head.hp.all (Ent.bd head.n)

/-- The atoms of the head, found. -/
def getX (n0 m : Nat) (acc : List (Nat × X)) (h c : X) : List (Nat × X) :=
  match h with | .var f => if n0 ≤ f ∧ f < n0 + m then (f, c) :: acc else acc | _ => acc
def getSc (n0 m : Nat) (acc : List (Nat × X)) : Sc → Sc → List (Nat × X)
  | .int _ x, .int _ y | .bool x, .bool y | .str x, .str y | .val x, .val y => getX n0 m acc x y
  | .val x, .nilp => getX n0 m acc x .nilP
  | .val x, .ptr v off => getX n0 m acc x (.ptrX v off)
  | .val x, .nils => getX n0 m acc x .nilS
  | .ptr v _, .ptr v' _ => getX n0 m acc (.var v) (.var v')
  | _, _ => acc
def getScs (n0 m : Nat) (acc : List (Nat × X)) : List Sc → List Sc → List (Nat × X)
  | h :: hs, c :: cs => getScs n0 m (getSc n0 m acc h c) hs cs
  | _, _ => acc
def getFr (n0 m : Nat) (acc : List (Nat × X)) : List SV → List SV → List (Nat × X)
  | .cv (_, h) :: hs, .cv (_, c) :: cs => getFr n0 m (getScs n0 m acc h c) hs cs
  | _ :: hs, _ :: cs => getFr n0 m acc hs cs
  | _, _ => acc
def getEnts (n0 m : Nat) (acc : List (Nat × X)) (cur : List Ent) : List Ent → List (Nat × X)
  | [] => acc
  | .cells v _ hs :: es => getEnts n0 m (match (if v < n0 then some (v, X.var v) else acc.find? fun p => p.1 == v) with
      | some (_, .var v') => (match findCells cur v' with | some (_, cs) => getScs n0 m acc hs cs | none => acc)
      | _ => acc) cur es
  | .row f _ _ r :: es | .rd f _ r :: es => getEnts n0 m (match (if f < n0 then some (f, X.var f) else acc.find? fun p => p.1 == f) with
      | some (_, .var v') => (match findRow cur v' with | some (_, r') => getX n0 m acc r r' | none => acc)
      | some (_, .nilS) => getX n0 m acc r .nilR
      | _ => acc) cur es
  | _ :: es => getEnts n0 m acc cur es
def backVals (n0 : Nat) (head cur : St) : List X :=
  let m := head.n - n0
  let acc := getFr n0 m [] head.fr cur.fr
  let acc := getEnts n0 m acc cur.hp head.hp
  let acc := getEnts n0 m acc cur.hp head.hp
  (List.range m).map fun i => match acc.find? fun p => p.1 == n0 + i with | some p => p.2 | none => .I 0

/-- Slices that the head only reads are given up. -/
def gives (n0 : Nat) (xs : List X) (hp : List Ent) : List Nat := hp.filterMap fun e => match e with
  | .rd f _ _ => (match (if f < n0 then some (.var f) else atX n0 xs f) with | some (.var v) => some v | _ => none)
  | _ => none
def letAll : List Ent → List Nat → List Ent
  | hp, [] => hp
  | hp, v :: vs => letAll (letGo hp v) vs
def giveUp (n0 : Nat) (xs : List X) (head cur : St) : St := { cur with hp := letAll cur.hp (gives n0 xs head.hp) }

/-- The elements of slices that the code cuts at their beginning. -/
def cutTys (T : Tab) (ops : List Oper) : List Nat := ops.filterMap fun o => match o.op with
  | .slice t _ (some _) none none => match T.tag t with | some (.slice e) => some e | _ => none
  | _ => none
def rowOfTy (hp : List Ent) (e : Nat) : Sc → Bool
  | .val (.var u) => hp.any fun x => match x with | .row v ty _ _ => u == v && ty == e | _ => false
  | _ => false
/-- Is a loop's first round walked ahead of it? (Where it cuts a slice, in a struct, that the call owns: behind the first round it does not own it.) -/
def peel (T : Tab) (c : Code) (st : St) : Bool :=
  let ct := cutTys T (opsOf c)
  !ct.isEmpty && st.hp.any fun x => match x with
    | .cells _ ty cs =>
      let l := (slTys T 6 ty).zip cs
      let m := l.filter fun p => match p.1 with | some e => ct.contains e | none => false
      decide (2 ≤ m.length) && m.all fun p => match p.1 with | some e => rowOfTy st.hp e p.2 | none => false
    | _ => false

def hasPtr : SV → Bool
  | .cv c => c.2.any fun s => match s with | .ptr .. => true | .eptr .. => true | _ => false
  | _ => false
def dropW (W D : List Nat) : Nat → List SV → List SV
  | _, [] => []
  | j, s :: ss => (if (D.contains j || (W.contains j && hasPtr s)) = true then .dead else s) :: dropW W D (j + 1) ss
def deadAt : Nat → List SV → List Nat
  | _, [] => []
  | j, s :: ss => match s with | .dead => j :: deadAt (j + 1) ss | _ => deadAt (j + 1) ss
/-- Pointers that each round makes anew are forgotten, and what was not there ahead of the first round. -/
def dropPtrs (c : Code) (old st : St) : St := { st with fr := dropW (writes c) (deadAt 0 old.fr) 0 st.fr }
theorem dropW_len (W D : List Nat) : ∀ (j : Nat) (l : List SV), (dropW W D j l).length = l.length
  | _, [] => rfl
  | j, s :: ss => by simp [dropW, dropW_len W D (j + 1) ss]
theorem dropW_get (W D : List Nat) : ∀ (j : Nat) (l : List SV) (i : Nat), (dropW W D j l).getD i .dead = l.getD i .dead ∨ (dropW W D j l).getD i .dead = .dead
  | _, [], _ => .inl rfl
  | j, s :: ss, 0 => by
    simp only [dropW, List.getD_cons_zero]
    split
    · exact .inr rfl
    · exact .inl rfl
  | j, s :: ss, i + 1 => by
    simp only [dropW, List.getD_cons_succ]
    exact dropW_get W D (j + 1) ss i
theorem dropW_mem (W D : List Nat) : ∀ (j : Nat) (l : List SV) (s : SV), s ∈ dropW W D j l → s ∈ l ∨ s = .dead
  | _, [], s, h => .inl h
  | j, t :: ss, s, h => by
    simp only [dropW] at h
    rcases List.mem_cons.1 h with rfl | h
    · split
      · exact .inr rfl
      · exact .inl (List.mem_cons_self ..)
    · rcases dropW_mem W D (j + 1) ss s h with h | h
      · exact .inl (List.mem_cons_of_mem _ h)
      · exact .inr h
theorem dropPtrs_ok {ρ : List V} {a : Act} {w : World} {c : Code} {old st : St} (h : Inv C st ρ a w) : Inv C (dropPtrs c old st) ρ a w := by
  refine ⟨h.len, (dropW_len _ _ _ _).trans h.size, fun j => ?_, fun s hs => ?_, h.bdh, h.defers, h.rel⟩
  · have hj := h.fr j
    unfold St.slot at hj ⊢
    rcases dropW_get (writes c) (deadAt 0 old.fr) 0 st.fr j with h1 | h1
    · simp only [dropPtrs]; rw [h1]; exact hj
    · simp only [dropPtrs]; rw [h1]; trivial
  · rcases dropW_mem _ _ _ _ _ hs with h1 | rfl
    · exact h.bdf s h1
    · rfl
/-- Where ways come together: the first state that a walk reaches. -/
def firstLeaf : Tree → Option St
  | .leaf st => some st
  | .ite _ t e => match firstLeaf t with | some s => some s | none => firstLeaf e
  | .both t e => match firstLeaf t with | some s => some s | none => firstLeaf e
  | .need _ t | .bindN t | .bindV t | .bindO t | .bindF _ t | .letV _ t => firstLeaf t
  | .callP _ _ _ _ _ _ t => firstLeaf t
  | .callM _ _ _ _ _ _ _ _ _ t => firstLeaf t
  | .openR _ _ _ t => firstLeaf t
  | _ => none
/-- What is no name behind the first n0 gets one. -/
def genX (n0 n : Nat) (x : X) : X × Nat := if x.bd n0 = true then (x, n) else match x with | .var f => (.var f, n) | _ => (.var n, n + 1)
def genSc (n0 n : Nat) : Sc → Sc × Nat
  | .int k x => let (y, m) := genX n0 n x; (.int k y, m)
  | .bool x => let (y, m) := genX n0 n x; (.bool y, m)
  | .str x => let (y, m) := genX n0 n x; (.str y, m)
  | .val x => let (y, m) := genX n0 n x; (.val y, m)
  | s => (s, n)
def genScs (n0 : Nat) : Nat → List Sc → List Sc × Nat
  | n, [] => ([], n)
  | n, s :: ss => let (a, n1) := genSc n0 n s; let (b, n2) := genScs n0 n1 ss; (a :: b, n2)
def genSlots (n0 : Nat) : Nat → List SV → List SV × Nat
  | n, [] => ([], n)
  | n, s :: ss =>
    let (a, n1) := match s with
      | .cv (g, cs) => let (cs', n') := genScs n0 n cs; (SV.cv (g, cs'), n')
      | .fn f x y => if SV.bd n0 (.fn f x y) = true then (.fn f x y, n) else (.dead, n)
      | _ => (.dead, n)
    let (b, n2) := genSlots n0 n1 ss
    (a :: b, n2)
def genEnts (n0 : Nat) : Nat → List Ent → List Ent × Nat
  | n, [] => ([], n)
  | n, e :: es =>
    let (a, n1) := match e with
      | .cells v ty cs => let (cs', n') := genScs n0 n cs; (Ent.cells v ty cs', n')
      | .row v ty ks r => let (r', n') := genX n0 n r; (.row v ty ks r', n')
      | .rd v ks r => let (r', n') := genX n0 n r; (.rd v ks r', n')
      | e => (e, n)
    let (b, n2) := genEnts n0 n1 es
    (a :: b, n2)
def genOf (n0 : Nat) (st : St) : St :=
  let (fr, n1) := genSlots n0 st.n st.fr
  let (hp, n2) := genEnts n0 n1 st.hp
  { st with n := n2, fr := fr, hp := hp }
def firstReg : Code → Option (Nat × Nat)
  | .region id ops _ => some (id, ops.size)
  | .seq a b => match firstReg a with | some r => some r | none => firstReg b
  | .cond _ a b => match firstReg a with | some r => some r | none => firstReg b
  | .block _ c => firstReg c
  | .loop c => firstReg c
  | _ => none
def joinHere (js : List (Nat × Nat × Nat)) : Code → Bool
  | .region id ops true => js.contains (0, id, ops.size)
  | .cond c a b => match firstReg (.cond c a b) with | some (i, n) => js.contains (1, i, n) | none => false
  | .block _ c => match firstReg c with | some (i, n) => js.contains (2, i, n) | none => false
  | _ => false
def headJ (E : Env) (inl : InlF) (st : St) : Code → Option St
  | .region _ ops true => (firstLeaf (exRegion E inl ops.toList st .leaf)).map (genOf st.n)
  | c => some (headOf E.T c st).1
/-- Ways come together behind a piece of code, if it is named. -/
def joinW (E : Env) (inl : InlF) (c : Code) (st : St) (k : EX → St → Tree) (f : St → (EX → St → Tree) → Tree) : Tree :=
  if joinHere E.joins c = true then
    match headJ E inl st c with
    | none => .stuck "a join's head"
    | some hd => .join (hd.n - st.n)
      (f { st with d := st.d + 1 } fun e cur => match e with
        | .normal => if fits st.n (backVals st.n hd cur) hd (giveUp st.n (backVals st.n hd cur) hd cur) = true then .jump st.d (backVals st.n hd cur) else .stuck "a join"
        | e => k e cur)
      (k .normal { hd with d := st.d })
  else f st k
def ex (E : Env) (inl : InlF) : Code → St → (EX → St → Tree) → Tree
  | .skip, st, k => k .normal st
  | .seq a b, st, k => ex E inl a st fun e st => match e with | .normal => ex E inl b st k | e => k e st
  | .cond c a b, st, k => joinW E inl (.cond c a b) st k fun st k => match st.rd (.B true) c with
    | some (false, [.bool (.B true)]) => ex E inl a st k
    | some (false, [.bool (.B false)]) => ex E inl b st k
    | some (false, [.bool x]) => .ite x (ex E inl a st k) (ex E inl b st k)
    | _ => .stuck "a test"
  | .block id c, st, k => joinW E inl (.block id c) st k fun st k => ex E inl c st fun e st => match e with | .exit i => if i = id then k .normal st else k (.exit i) st | e => k e st
  | .exit id, st, k => k (.exit id) st
  | .ret, st, k => k .ret st
  | .region _ ops false, st, k => exOps E inl ops.toList ops.toList st (k .normal)
  | .region id ops true, st, k => joinW E inl (.region id ops true) st k fun st k => exRegion E inl ops.toList st (k .normal)
  | .loop c, st, k =>
    if peel E.T c st = true then
      ex E inl c st fun e st0 => match e with
        | .normal =>
          let st := dropPtrs c st st0
          let hd := headOf E.T c st
          if fits st.n hd.2 hd.1 st = true then
            .loop hd.2 (ex E inl c { hd.1 with d := st.d + 1 } fun e cur => match e with
              | .normal => if fits st.n (backVals st.n hd.1 cur) hd.1 (giveUp st.n (backVals st.n hd.1 cur) hd.1 cur) = true then .back st.d (backVals st.n hd.1 cur) else .stuck "a loops back"
              | e => k e cur)
          else .stuck "a loops head"
        | e => k e st0
    else
    let hd := headOf E.T c st
    if fits st.n hd.2 hd.1 st = true then
      .loop hd.2 (ex E inl c { hd.1 with d := st.d + 1 } fun e cur => match e with
        | .normal => if fits st.n (backVals st.n hd.1 cur) hd.1 (giveUp st.n (backVals st.n hd.1 cur) hd.1 cur) = true then .back st.d (backVals st.n hd.1 cur) else .stuck "a loops back"
        | e => k e cur)
    else .stuck "a loops head"
  | _, _, _ => .stuck "code"

end Go.Sx
