/- Plain words on characters, names and numbers in a text: what the leaf functions of the program and of the references come to. No program in sight. -/
import GoSem.Claim
import Derived.Laws.RangeAny
namespace Go.Proofs.YtadlbegecgpaaaaDoor.S
open Go

/-- The pairs of runes.letters. -/
def letterR (r : Int) : Bool := [(97, 122), (65, 90), (95, 95), (192, 214), (216, 246), (248, 591), (880, 893), (895, 902), (904, 1023), (1024, 1153), (1162, 1327), (19968, 40959), (66560, 66639)].any fun p : Int × Int => decide (p.1 ≤ r) && decide (r ≤ p.2)
/-- The digit 0 of the script of a digit; 0: none. -/
def zeroR (r : Int) : Int := if 48 ≤ r ∧ r ≤ 57 then 48 else if 1632 ≤ r ∧ r ≤ 1641 then 1632 else if 65296 ≤ r ∧ r ≤ 65305 then 65296 else 0
def blankR (r : Int) : Bool := r == 32 || r == 9 || r == 10 || r == 13 || r == 160 || r == 12288
def signsL : List Int := [40, 41, 43, 45, 42, 47, 37, 38, 124, 94, 126, 60, 62, 61, 63, 58, 59, 44, 64, 172, 183, 215, 247, 8722, 8743, 8744, 8801, 8810, 8811, 8853]
def kindR (r : Int) : Int :=
  if letterR r = true then 1 else if zeroR r ≠ 0 then 2 else if blankR r = true then 3 else if r ∈ signsL then 4 else if 8320 ≤ r ∧ r ≤ 8329 then 5 else 0
def inNameR (r : Int) : Bool := kindR r == 1 || kindR r == 2 || kindR r == 5
/-- The character at a place, and its width in the text; a bad byte: 65533 and 1. -/
def dcode (s : ByteArray) (p : Nat) : Nat × Nat := Utf8.decode s p
/-- Is what stands at a place a bad byte? -/
def badAt (s : ByteArray) (p : Nat) : Bool := (dcode s p).1 == 65533 && (dcode s p).2 == 1
def widthR (s : ByteArray) (at_ : Int) : Int := if 0 ≤ at_ ∧ at_ < s.size then (if badAt s at_.toNat = true then 0 else ((dcode s at_.toNat).2 : Int)) else 0
def runeR (s : ByteArray) (at_ : Int) : Int := if 0 ≤ at_ ∧ at_ < s.size then (if badAt s at_.toNat = true then -1 else ((dcode s at_.toNat).1 : Int)) else -1
/-- The places at which a range comes by from a place on (k: at most so many), and what it finds. -/
def charsR (s : ByteArray) : Nat → Nat → List (Nat × Nat)
  | 0, _ => []
  | k + 1, p => if p < s.size then (p, (dcode s p).1) :: charsR s k (p + (dcode s p).2) else []
/-- From a place on: the first place that is a bad byte's. -/
def checkR (s : ByteArray) : Nat → Nat → Int × Int
  | 0, _ => (0, 0)
  | k + 1, p => if p < s.size then (if badAt s p = true then ((p : Int), 4) else checkR s k (p + (dcode s p).2)) else (0, 0)
/-- From a place on, n characters being read: is it a name? -/
def nameR (s : ByteArray) : Nat → Nat → Nat → Bool
  | 0, _, _ => false
  | k + 1, p, n => if p < s.size then (if n = 0 ∧ kindR (dcode s p).1 ≠ 1 then false else if inNameR (dcode s p).1 = true then nameR s k (p + (dcode s p).2) (n + 1) else false) else decide (1 ≤ n ∧ n ≤ 16)
def nameOk (s : ByteArray) : Bool := nameR s (s.size + 1) 0 0
/-- The place behind characters that hold of a test, from a place on. -/
def whileR (f : Int → Bool) (s : ByteArray) : Nat → Nat → Nat
  | 0, p => p
  | k + 1, p => if p < s.size ∧ f (dcode s p).1 = true then whileR f s k (p + (dcode s p).2) else p
def behindR (f : Int → Bool) (s : ByteArray) (p : Nat) : Nat := min s.size (whileR f s (s.size + 1) p)
/-- What utf8.DecodeRuneInString tells of a text's rest. -/
def headR (s : ByteArray) (p : Nat) : Int := if p < s.size then (dcode s p).1 else 65533
def spanR (s : ByteArray) (at_ : Int) : Int × Int :=
  if at_ < 0 ∨ (s.size : Int) < at_ then (0, 2) else if kindR (headR s at_.toNat) ≠ 1 then (0, 11) else ((behindR inNameR s at_.toNat : Int), 0)
/-- The number that digits of one script write, from a place on. -/
def valueR (z : Int) (s : ByteArray) : Nat → Nat → Nat → Nat
  | 0, _, v => v
  | k + 1, p, v => if p < s.size ∧ zeroR (dcode s p).1 = z then valueR z s k (p + (dcode s p).2) (10 * v + ((dcode s p).1 - z).toNat) else v
def numberR (s : ByteArray) (at_ : Int) : Int × Int × Int :=
  if at_ < 0 ∨ (s.size : Int) < at_ then (0, 0, 2) else
  let z := zeroR (headR s at_.toNat)
  if z = 0 then (0, 0, 11) else
  let v := valueR z s (s.size + 1) at_.toNat 0
  if 18446744073709551615 < v then (0, 0, 10) else ((v : Int), (behindR (fun r => zeroR r == z) s at_.toNat : Int), 0)
end Go.Proofs.YtadlbegecgpaaaaDoor.S
