/-
  A small verified symbolic executor over the model's code (part A: values, expressions, the heap assertion and how it is kept). By an AI agent.
-/
import Derived.WalkKit
import Derived.WalkSpells
import Derived.WalkLawsBesides
set_option linter.unusedSimpArgs false
set_option linter.unusedVariables false
namespace Go.Sx
open Go

/-- What changes: all old blocks but those of fp are as they were. -/
structure Mod (fp : List Nat) (w w' : World) : Prop where
  os : w'.os = w.os
  tape : w'.tape = w.tape
  output : w'.output = w.output
  size : w.heap.size ≤ w'.heap.size
  block : ∀ k, k < w.heap.size → k ∉ fp → w'.heap[k]? = w.heap[k]?

theorem Mod.refl (fp : List Nat) (w : World) : Mod fp w w := ⟨rfl, rfl, rfl, Nat.le_refl _, fun _ _ _ => rfl⟩
theorem Mod.trans {fp fp' : List Nat} {a b c : World} (h : Mod fp a b) (h' : Mod fp' b c) (hs : ∀ k, k ∈ fp' → k ∈ fp ∨ a.heap.size ≤ k) : Mod fp a c :=
  ⟨h'.os.trans h.os, h'.tape.trans h.tape, h'.output.trans h.output, Nat.le_trans h.size h'.size, fun k hk hn => by
    rw [h'.block k (Nat.lt_of_lt_of_le hk h.size) (fun hm => by rcases hs k hm with h1 | h1; exact hn h1; omega), h.block k hk hn]⟩
theorem Mod.below {w w' : World} (h : Mod [] w w') : RowKit.Below w.heap.size w w' := ⟨h.os, h.tape, h.output, h.size, fun k hk => h.block k hk (by simp)⟩
theorem Mod.of_below {w w' : World} (h : RowKit.Below w.heap.size w w') : Mod [] w w' := ⟨h.os, h.tape, h.output, h.size, fun k hk _ => h.block k hk⟩
theorem Mod.alloc (fp : List Nat) (w : World) (o : Obj) : Mod fp w (w.alloc o) := ⟨rfl, rfl, rfl, by simp, fun k hk _ => RowKit.Below.heap_alloc _ _ _ hk⟩
theorem Mod.drew (fp : List Nat) (w : World) : Mod fp w w.drew := ⟨rfl, rfl, rfl, Nat.le_refl _, fun _ _ _ => rfl⟩
theorem Mod.setCell {fp : List Nat} (w : World) (a : Addr) (v : Value) (h : a.block ∈ fp ∨ w.heap.size ≤ a.block) : Mod fp w (w.setCell a v) :=
  ⟨rfl, rfl, rfl, by simp [World.setCell], fun k hk hn => RowKit.Below.heap_setCell _ _ _ _ (by rintro rfl; rcases h with h | h; exact hn h; omega)⟩
theorem Mod.mono {fp fp' : List Nat} {w w' : World} (h : Mod fp w w') (hs : ∀ k, k ∈ fp → k ∈ fp' ∨ w.heap.size ≤ k) : Mod fp' w w' :=
  ⟨h.os, h.tape, h.output, h.size, fun k hk hn => h.block k hk (fun hm => by rcases hs k hm with h1 | h1; exact hn h1; omega)⟩
theorem Mod.of_grown {w w' : World} {row : Option Nat} {fp : List Nat} (h : w.grownBy w' row) (hr : ∀ k, row = some k → k ∈ fp ∨ w.heap.size ≤ k) : Mod fp w w' :=
  ⟨h.os, h.tape, h.output, h.size, fun k hk hn => h.block k hk (fun e => by rcases hr k e.symm with h1 | h1; exact hn h1; omega)⟩

/-- An assertion on memory that hangs on some blocks alone. -/
structure Asrt where
  holds : World → Prop
  fp : Nat → Prop
  stable : ∀ w w', (∀ k, fp k → w'.heap[k]? = w.heap[k]?) → holds w → holds w'
  bound : ∀ w, holds w → ∀ k, fp k → k < w.heap.size

/-- What an atom stands for. -/
inductive V
  | i (n : Int) | b (v : Bool) | s (l : List UInt8) | n (k : Nat) | v (x : Value) | r (xs : List (List Value)) | l (xs : List Value) | a (A : Asrt)

def V.toI : V → Int | .i z => z | _ => 0
def V.toB : V → Bool | .b z => z | _ => false
def V.toS : V → List UInt8 | .s z => z | _ => []
def V.toN : V → Nat | .n z => z | _ => 0
def V.toV : V → Value | .v z => z | _ => undef
def V.toR : V → List (List Value) | .r z => z | _ => []
def V.toL : V → List Value | .l z => z | _ => []
@[simp] theorem V.toI_i (n : Int) : (V.i n).toI = n := rfl
@[simp] theorem V.toB_b (n : Bool) : (V.b n).toB = n := rfl
@[simp] theorem V.toS_s (n : List UInt8) : (V.s n).toS = n := rfl
@[simp] theorem V.toN_n (n : Nat) : (V.n n).toN = n := rfl
@[simp] theorem V.toV_v (n : Value) : (V.v n).toV = n := rfl
@[simp] theorem V.toR_r (n : List (List Value)) : (V.r n).toR = n := rfl
@[simp] theorem V.toL_l (n : List Value) : (V.l n).toL = n := rfl
def Value.gI : Value → Int | .int _ n => n | _ => 0
def Value.gB : Value → Bool | .bool n => n | _ => false
def Value.gS : Value → List UInt8 | .string s => s.data.toList | _ => []

/-- What follows so many elements of a slice. -/
def subVal (k n : Nat) : Value → Value
  | .slice va len cap => .slice (if cap = n then va else va.map (·.add (n * k))) (len - n) (cap - n)
  | v => v
/-- The value of one cell. -/
def sc1 (v : Value) : Value := match v with | .agg _ | .tuple _ => .pointer none | v => v

/-- Bits of two integers, as the model has it. -/
def ibits (op : BinOp) (k : IntKind) (x y : Int) : Int :=
  let a := BitVec.ofInt k.bits x
  let b := BitVec.ofInt k.bits y
  match op with
  | .and => k.wrap (a &&& b).toNat
  | .or => k.wrap (a ||| b).toNat
  | .xor => k.wrap (a ^^^ b).toNat
  | _ => k.wrap (a &&& ~~~b).toNat

inductive X
  | I (n : Int) | B (v : Bool) | S (l : List UInt8) | var (n : Nat)
  | add (x y : X) | sub (x y : X) | mul (x y : X) | quo (x y : X) | rem (x y : X) | min (x y : X) | ediv (x y : X) | emod (x y : X)
  | wrap (k : IntKind) (x : X) | shl (k : IntKind) (x y : X) | shr (k : IntKind) (x y : X) | bits (op : BinOp) (k : IntKind) (x y : X)
  | len (x : X) | at_ (x i : X) | sl (x lo hi : X) | cat (x y : X) | ofR (x : X)
  | lt (x y : X) | le (x y : X) | eqI (x y : X) | eqB (x y : X) | eqS (x y : X) | not (x : X) | and (x y : X) | or (x y : X) | ite (c x y : X) | less (x y : X)
  | rlen (x : X) | rI (x i : X) (c : Nat) | rB (x i : X) (c : Nat) | rS (x i : X) (c : Nat) | rV (x i : X) (c : Nat)
  | rOf (x : X) | nilR | snocR (x y : X) | catR (x y : X) | takeR (x n : X) | dropR (x n : X)
  | nilL | consI (k : IntKind) (x y : X) | consB (x y : X) | consS (x y : X) | consV (x y : X)
  | rRow (x i : X) | nilS | setR (x i y : X) | nilP | ptrX (v off : Nat) | isnil (x : X) | subS (k : Nat) (x lo : X) | clrR (x lo y : X)
  deriving DecidableEq, Repr, Inhabited

def X.ev (ρ : List V) : X → V
  | .I n => .i n
  | .B v => .b v
  | .S l => .s l
  | .var n => ρ.getD n (.i 0)
  | .add x y => .i ((x.ev ρ).toI + (y.ev ρ).toI)
  | .sub x y => .i ((x.ev ρ).toI - (y.ev ρ).toI)
  | .mul x y => .i ((x.ev ρ).toI * (y.ev ρ).toI)
  | .quo x y => .i ((x.ev ρ).toI.tdiv (y.ev ρ).toI)
  | .rem x y => .i ((x.ev ρ).toI.tmod (y.ev ρ).toI)
  | .ediv x y => .i ((x.ev ρ).toI / (y.ev ρ).toI)
  | .emod x y => .i ((x.ev ρ).toI % (y.ev ρ).toI)
  | .min x y => .i (if (y.ev ρ).toI < (x.ev ρ).toI then (y.ev ρ).toI else (x.ev ρ).toI)
  | .wrap k x => .i (k.wrap (x.ev ρ).toI)
  | .shl k x y => .i (k.wrap ((x.ev ρ).toI * 2 ^ (Nat.min (y.ev ρ).toI.toNat k.bits)))
  | .shr k x y => .i ((x.ev ρ).toI.fdiv (2 ^ (Nat.min (y.ev ρ).toI.toNat k.bits)))
  | .bits op k x y => .i (ibits op k (x.ev ρ).toI (y.ev ρ).toI)
  | .len x => .i ((x.ev ρ).toS.length)
  | .at_ x i => .i ((((x.ev ρ).toS.getD (i.ev ρ).toI.toNat 0).toNat : Nat) : Int)
  | .sl x lo hi => .s (((x.ev ρ).toS.take (hi.ev ρ).toI.toNat).drop (lo.ev ρ).toI.toNat)
  | .cat x y => .s ((x.ev ρ).toS ++ (y.ev ρ).toS)
  | .ofR x => .s ((x.ev ρ).toR.map fun r => UInt8.ofNat (Value.gI (r.getD 0 undef)).toNat)
  | .lt x y => .b (decide ((x.ev ρ).toI < (y.ev ρ).toI))
  | .le x y => .b (decide ((x.ev ρ).toI ≤ (y.ev ρ).toI))
  | .eqI x y => .b (decide ((x.ev ρ).toI = (y.ev ρ).toI))
  | .eqB x y => .b (decide ((x.ev ρ).toB = (y.ev ρ).toB))
  | .eqS x y => .b (decide ((x.ev ρ).toS = (y.ev ρ).toS))
  | .less x y => .b (Op.bytesLess (x.ev ρ).toS (y.ev ρ).toS)
  | .not x => .b (!(x.ev ρ).toB)
  | .and x y => .b ((x.ev ρ).toB && (y.ev ρ).toB)
  | .or x y => .b ((x.ev ρ).toB || (y.ev ρ).toB)
  | .ite c x y => if (c.ev ρ).toB then x.ev ρ else y.ev ρ
  | .rlen x => .i ((x.ev ρ).toR.length)
  | .rI x i c => .i (Value.gI (((x.ev ρ).toR.getD (i.ev ρ).toI.toNat []).getD c undef))
  | .rB x i c => .b (Value.gB (((x.ev ρ).toR.getD (i.ev ρ).toI.toNat []).getD c undef))
  | .rS x i c => .s (Value.gS (((x.ev ρ).toR.getD (i.ev ρ).toI.toNat []).getD c undef))
  | .rV x i c => .v (((x.ev ρ).toR.getD (i.ev ρ).toI.toNat []).getD c undef)
  | .rRow x i => .l ((x.ev ρ).toR.getD (i.ev ρ).toI.toNat [])
  | .rOf x => .r ((x.ev ρ).toS.map fun b => [Value.int .u8 (b.toNat : Int)])
  | .nilR => .r []
  | .snocR x y => .r ((x.ev ρ).toR ++ [(y.ev ρ).toL])
  | .catR x y => .r ((x.ev ρ).toR ++ (y.ev ρ).toR)
  | .takeR x n => .r ((x.ev ρ).toR.take (n.ev ρ).toI.toNat)
  | .dropR x n => .r ((x.ev ρ).toR.drop (n.ev ρ).toI.toNat)
  | .nilL => .l []
  | .consI k x y => .l (Value.int k (x.ev ρ).toI :: (y.ev ρ).toL)
  | .consB x y => .l (Value.bool (x.ev ρ).toB :: (y.ev ρ).toL)
  | .consS x y => .l (Value.string ⟨(x.ev ρ).toS.toArray⟩ :: (y.ev ρ).toL)
  | .consV x y => .l (sc1 (x.ev ρ).toV :: (y.ev ρ).toL)
  | .nilS => .v (.slice none 0 0)
  | .nilP => .v (.pointer none)
  | .ptrX v off => .v (.pointer (some ⟨(ρ.getD v (.i 0)).toN, off, none⟩))
  | .isnil x => .b (match (x.ev ρ).toV with | .slice none _ _ => true | _ => false)
  | .setR x i y => .r ((x.ev ρ).toR.set (i.ev ρ).toI.toNat (y.ev ρ).toL)
  | .subS k x lo => .v (subVal k (lo.ev ρ).toI.toNat (x.ev ρ).toV)
  | .clrR x lo y => .r ((x.ev ρ).toR.take (lo.ev ρ).toI.toNat ++ List.replicate ((x.ev ρ).toR.length - (lo.ev ρ).toI.toNat) (y.ev ρ).toL)

/-- A condition as a proposition. -/
def X.P (ρ : List V) : X → Prop
  | .B v => v = true
  | .lt x y => (x.ev ρ).toI < (y.ev ρ).toI
  | .le x y => (x.ev ρ).toI ≤ (y.ev ρ).toI
  | .eqI x y => (x.ev ρ).toI = (y.ev ρ).toI
  | .eqB x y => (x.ev ρ).toB = (y.ev ρ).toB
  | .eqS x y => (x.ev ρ).toS = (y.ev ρ).toS
  | .not x => ¬ X.P ρ x
  | .and x y => X.P ρ x ∧ X.P ρ y
  | .or x y => X.P ρ x ∨ X.P ρ y
  | x => (x.ev ρ).toB = true

theorem X.P_iff (ρ : List V) (x : X) : X.P ρ x ↔ (x.ev ρ).toB = true := by
  induction x <;> simp_all [X.P, X.ev]

/-- All atoms of an expression are among the first n. -/
def X.bd (n : Nat) : X → Bool
  | .I _ | .B _ | .S _ | .nilR | .nilL | .nilS | .nilP => true
  | .var k => decide (k < n)
  | .ptrX k _ => decide (k < n)
  | .isnil x => x.bd n
  | .add x y | .sub x y | .mul x y | .quo x y | .rem x y | .min x y | .shl _ x y | .shr _ x y | .bits _ _ x y | .at_ x y | .cat x y | .lt x y | .le x y
  | .eqI x y | .eqB x y | .eqS x y | .and x y | .or x y | .less x y | .snocR x y | .catR x y | .takeR x y | .dropR x y | .consI _ x y | .consB x y | .consS x y | .consV x y | .rRow x y => x.bd n && y.bd n
  | .wrap _ x | .len x | .ofR x | .not x | .rlen x | .rOf x => x.bd n
  | .sl x y z | .ite x y z | .setR x y z | .clrR x y z => x.bd n && y.bd n && z.bd n
  | .rI x i _ | .rB x i _ | .rS x i _ | .rV x i _ => x.bd n && i.bd n
  | .ediv x y | .emod x y | .subS _ x y => x.bd n && y.bd n

theorem X.ev_bd {ρ ρ' : List V} {n : Nat} (h : ∀ k, k < n → ρ.getD k (.i 0) = ρ'.getD k (.i 0)) (x : X) (hx : x.bd n = true) : x.ev ρ = x.ev ρ' := by
  induction x <;> simp_all [X.bd, X.ev]

end Go.Sx
