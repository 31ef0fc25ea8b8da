/-
  Packets: what is checked of them, their bytes, how they are read; in plain terms. By an AI agent.
-/
import Derived.Test.YtliedecinehijaaDoorWh
import Derived.Test.YtliedecinehijaaDoorTb
set_option linter.unusedSimpArgs false
set_option linter.unusedVariables false
namespace Go.Proofs.YtliedecinehijaaDoor
open Go.Sx

/-- An ask: its filter, how surely. -/
abbrev Ak := List UInt8 × Int
structure Pkt where
  kind : Int
  dup : Bool
  retain : Bool
  clean : Bool
  session : Bool
  qos : Int
  id : Int
  keep : Int
  code : Int
  client : List UInt8
  topic : List UInt8
  payload : List UInt8
  asks : List Ak
  codes : List Int
  deriving DecidableEq
abbrev pD (k : Int) : Pkt := ⟨k, false, false, false, false, 0, 0, 0, 0, [], [], [], [], []⟩

def kindB (k : Int) : Bool := decide ((1 ≤ k ∧ k ≤ 4) ∨ (8 ≤ k ∧ k ≤ 14))
def idB (p : Pkt) : Bool := decide ((p.kind = 3 ∧ p.qos = 1) ∨ p.kind = 4 ∨ (8 ≤ p.kind ∧ p.kind ≤ 11))
def cliB (s : List UInt8) : Bool := decide (1 ≤ (s.length : Int) ∧ (s.length : Int) ≤ 20) && plainS s
/-- A packet without all that its kind names. -/
def bareP (p : Pkt) : Pkt :=
  if p.kind = 1 then { p with client := [], clean := false, keep := 0 }
  else if p.kind = 2 then { p with code := 0, session := false }
  else if p.kind = 3 then { p with dup := false, qos := 0, retain := false, topic := [], payload := [], id := 0 }
  else if p.kind = 4 ∨ p.kind = 11 then { p with id := 0 }
  else if p.kind = 8 ∨ p.kind = 10 then { p with id := 0, asks := [] }
  else if p.kind = 9 then { p with id := 0, codes := [] }
  else p
def emptyB (p : Pkt) : Bool := decide (p = pD p.kind)
def connE (p : Pkt) : Int := if 20 < (p.client.length : Int) then 2 else if cliB p.client = true then (if 0 ≤ p.keep ∧ p.keep ≤ 65535 then 0 else 3) else 1
def connackE (p : Pkt) : Int := if 0 ≤ p.code ∧ p.code ≤ 5 then (if p.session = true ∧ p.code ≠ 0 then 4 else 0) else 3
def pubE (p : Pkt) : Int :=
  if chkT p.topic false = 0 then
    if 200 < (p.payload.length : Int) then 2
    else if 0 ≤ p.qos ∧ p.qos ≤ 1 then (if p.qos = 0 ∧ (p.dup = true ∨ p.id ≠ 0) then 1 else 0) else 3
  else chkT p.topic false
def countE (n : Nat) : Int := if n = 0 then 1 else if 5 < (n : Int) then 2 else 0
def askE (a : Ak) : Int := if chkT a.1 true = 0 then (if 0 ≤ a.2 ∧ a.2 ≤ 1 then 0 else 3) else chkT a.1 true
def noaskE (a : Ak) : Int := if chkT a.1 true = 0 then (if a.2 = 0 then 0 else 1) else chkT a.1 true
def asksL (k : Int) : List Ak → Int
  | [] => 0
  | a :: l => if (if k = 8 then askE a else noaskE a) = 0 then asksL k l else (if k = 8 then askE a else noaskE a)
def asksE (p : Pkt) : Int := if countE p.asks.length = 0 then asksL p.kind p.asks else countE p.asks.length
def codeB (c : Int) : Bool := decide (c ≠ 0 ∧ c ≠ 1 ∧ c ≠ 128)
def codesE (p : Pkt) : Int := if countE p.codes.length = 0 then (if p.codes.any codeB = true then 3 else 0) else countE p.codes.length
def partsE (p : Pkt) : Int :=
  if p.kind = 1 then connE p else if p.kind = 2 then connackE p else if p.kind = 3 then pubE p
  else if p.kind = 8 ∨ p.kind = 10 then asksE p else if p.kind = 9 then codesE p else 0
def chkP (p : Pkt) : Int :=
  if kindB p.kind = true then
    if emptyB (bareP p) = true then
      if p.kind = 3 ∧ pubE p ≠ 0 then pubE p
      else if idB p = true ∧ ¬ (1 ≤ p.id ∧ p.id ≤ 65535) then 3
      else partsE p
    else 1
  else 7

/-- The bytes of what is asked. -/
def askB (k : Int) (a : Ak) : List UInt8 := txtB a.1 ++ (if k = 8 then numB 1 a.2 else [])
def bit (b : Bool) (n : Int) : Int := if b = true then n else 0
def headB (p : Pkt) : List UInt8 :=
  if p.kind = 1 then txtB [77, 81, 84, 84] ++ (numB 1 4 ++ numB 1 (bit p.clean 2)) ++ numB 2 p.keep ++ txtB p.client
  else if p.kind = 2 then numB 1 (bit p.session 1) ++ numB 1 p.code
  else if p.kind = 3 then txtB p.topic
  else []
def bodyB (p : Pkt) : List UInt8 := headB p ++ (if idB p = true then numB 2 p.id else []) ++ p.payload ++ (p.asks.map (askB p.kind)).flatten ++ (p.codes.map (numB 1)).flatten
def firstB (p : Pkt) : Int :=
  16 * p.kind + (if p.kind = 3 then bit p.dup 8 + 2 * p.qos + bit p.retain 1 else if p.kind = 8 ∨ p.kind = 10 then 2 else 0)
def bytesP (p : Pkt) : List UInt8 := numB 1 (firstB p) ++ lngB 3 (bodyB p).length ++ bodyB p

/-- Reading: the number, the place behind it, whether there was too little. -/
def rdN (s : List UInt8) (k a : Nat) (b : Bool) : Int × Nat × Bool := if a + k ≤ s.length then ((beN ((s.drop a).take k) 0 : Nat), a + k, b) else (0, s.length, true)
def rdT (s : List UInt8) (a : Nat) (b : Bool) : List UInt8 × Nat × Bool :=
  if a + 2 ≤ s.length ∧ a + 2 + beN ((s.drop a).take 2) 0 ≤ s.length then ((s.drop (a + 2)).take (beN ((s.drop a).take 2) 0), a + 2 + beN ((s.drop a).take 2) 0, b) else ([], a, true)
def rdA (s : List UInt8) (k : Int) (a : Nat) (b : Bool) : Ak × Nat × Bool :=
  if k = 8 then (((rdT s a b).1, (rdN s 1 (rdT s a b).2.1 (rdT s a b).2.2).1), (rdN s 1 (rdT s a b).2.1 (rdT s a b).2.2).2) else (((rdT s a b).1, 0), (rdT s a b).2)
def rdAs (s : List UInt8) (k : Int) : Nat → Nat → Bool → List Ak → List Ak × Nat × Bool
  | 0, a, b, l => (l, a, b)
  | f + 1, a, b, l => if a < s.length ∧ b = false then rdAs s k f (rdA s k a b).2.1 (rdA s k a b).2.2 (l ++ [(rdA s k a b).1]) else (l, a, b)
def rdCs (s : List UInt8) : Nat → Nat → Bool → List Int → List Int × Nat × Bool
  | 0, a, b, l => (l, a, b)
  | f + 1, a, b, l => if a < s.length ∧ b = false then rdCs s f (rdN s 1 a b).2.1 (rdN s 1 a b).2.2 (l ++ [(rdN s 1 a b).1]) else (l, a, b)
/-- How many rounds there may be. -/
def rounds (s : List UInt8) (a : Nat) (b : Bool) : Nat := if b = true then 0 else s.length + 1 - a
abbrev RS := Pkt × Nat × Bool
def connD (s : List UInt8) (p : Pkt) (a : Nat) (b : Bool) : RS :=
  let t1 := rdT s a b
  let n1 := rdN s 1 t1.2.1 t1.2.2
  let n2 := rdN s 1 n1.2.1 n1.2.2
  let n3 := rdN s 2 n2.2.1 n2.2.2
  let t2 := rdT s n3.2.1 n3.2.2
  ({ p with clean := decide (n2.1 = 2), keep := n3.1, client := t2.1 }, t2.2)
def headD (s : List UInt8) (p : Pkt) (a : Nat) (b : Bool) : RS :=
  if p.kind = 1 then connD s p a b
  else if p.kind = 2 then ({ p with session := decide ((rdN s 1 a b).1 = 1), code := (rdN s 1 (rdN s 1 a b).2.1 (rdN s 1 a b).2.2).1 }, (rdN s 1 (rdN s 1 a b).2.1 (rdN s 1 a b).2.2).2)
  else if p.kind = 3 then ({ p with topic := (rdT s a b).1 }, (rdT s a b).2)
  else (p, a, b)
def idD (s : List UInt8) (q : RS) : RS := if idB q.1 = true then ({ q.1 with id := (rdN s 2 q.2.1 q.2.2).1 }, (rdN s 2 q.2.1 q.2.2).2) else q
def tailD (s : List UInt8) (q : RS) : RS :=
  if q.1.kind = 3 then ({ q.1 with payload := s.drop q.2.1 }, s.length, q.2.2)
  else if q.1.kind = 8 ∨ q.1.kind = 10 then ({ q.1 with asks := (rdAs s q.1.kind (rounds s q.2.1 q.2.2) q.2.1 q.2.2 q.1.asks).1 }, (rdAs s q.1.kind (rounds s q.2.1 q.2.2) q.2.1 q.2.2 q.1.asks).2)
  else if q.1.kind = 9 then ({ q.1 with codes := (rdCs s (rounds s q.2.1 q.2.2) q.2.1 q.2.2 q.1.codes).1 }, (rdCs s (rounds s q.2.1 q.2.2) q.2.1 q.2.2 q.1.codes).2)
  else q
def bodyD (s : List UInt8) (p : Pkt) (a : Nat) (b : Bool) : RS := tailD s (idD s (headD s p a b))
/-- The packet of which only the first byte is told. -/
def begP (c : Nat) : Pkt := if c / 16 = 3 then { pD 3 with dup := decide (c / 8 % 2 = 1), qos := c / 2 % 4, retain := decide (c % 2 = 1) } else pD ((c / 16 : Nat) : Int)
def readP (s : List UInt8) : RS := bodyD s (begP (s.getD 0 0).toNat) (1 + (getL s 1).2.1).toNat false
def decD (s : List UInt8) : Pkt × Int :=
  if s = [] ∨ (getL s 1).2.2 ≠ 0 then (pD 0, 1)
  else if (readP s).2.2 = true ∨ kindB (readP s).1.kind = false ∨ 1 < (readP s).1.qos ∨ bytesP (readP s).1 ≠ s then (pD 0, 1)
  else if chkP (readP s).1 = 0 then ((readP s).1, 0) else (pD 0, chkP (readP s).1)
end Go.Proofs.YtliedecinehijaaDoor
