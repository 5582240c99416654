/- The plain functions of the numbers, hosts and addresses: no program in sight. The plain functions of percent-decoding and of hosts. A byte in lower case. -/
import Init
import Derived.Lib.Bytealg
namespace Go.Proofs.YtmgkmpbblhkacaaGreatDoor
abbrev Bs := List UInt8

/-- A digit's worth, to whatever base; 255: it is none. -/
def dig (c : UInt8) : Nat :=
  if 48 ≤ c.toNat ∧ c.toNat ≤ 57 then c.toNat - 48
  else if 97 ≤ (c ||| 32).toNat ∧ (c ||| 32).toNat ≤ 122 then (c ||| 32).toNat - 87
  else 255
/-- What strconv.ParseUint gathers; none: an error. -/
def pu (base M : Nat) : Nat → Bs → Option Nat
  | acc, [] => some acc
  | acc, c :: r => if dig c < base ∧ acc * base + dig c ≤ M then pu base M (acc * base + dig c) r else none
def parseU (base M : Nat) (l : Bs) : Option Nat := if l = [] then none else pu base M 0 l

def octal : Bs := [48, 49, 50, 51, 52, 53, 54, 55]
def decimal : Bs := [48, 49, 50, 51, 52, 53, 54, 55, 56, 57]
def hexa : Bs := [48, 49, 50, 51, 52, 53, 54, 55, 56, 57, 97, 98, 99, 100, 101, 102, 65, 66, 67, 68, 69, 70]
def onlyB (l set : Bs) : Bool := l.all (fun c => set.contains c)

/-- A part's number to a base (large: 2^40); none: it is none. -/
def numB (base : Nat) (digits l : Bs) : Option Nat :=
  if onlyB l digits then
    (if l.dropWhile (· == 48) = [] then some 0 else some ((parseU base 1099511627775 (l.dropWhile (· == 48))).getD 1099511627776))
  else none
def numP (l : Bs) : Option Nat :=
  if l = [] then none
  else if [48, 120].isPrefixOf l || [48, 88].isPrefixOf l then numB 16 hexa (l.drop 2)
  else if 1 < l.length ∧ l.headD 0 = 48 then numB 8 octal (l.drop 1)
  else numB 10 decimal l

/-- A text parted at a byte. -/
def split1 (c : UInt8) : Bs → List Bs
  | [] => [[]]
  | x :: r => if x = c then [] :: split1 c r else match split1 c r with | [] => [[x]] | h :: t => (x :: h) :: t
theorem split1_ne (c : UInt8) (l : Bs) : split1 c l ≠ [] := by
  induction l with
  | nil => simp [split1]
  | cons x r ih => unfold split1; split
                   · simp
                   · split <;> simp

def ip4parts (l : Bs) : List Bs :=
  let p := split1 46 l
  if 1 < p.length ∧ p.getLastD [] = [] then p.dropLast else p
/-- From the i-th of n parts on. -/
def ip4loop (n : Nat) : Nat → Nat → List Bs → Option Nat
  | _, all, [] => some all
  | i, all, p :: r =>
    match numP p with
    | none => none
    | some x =>
      if x / 2 ^ (if i + 1 = n then 8 * (4 - i) else 8) > 0 then none
      else ip4loop n (i + 1) (all * 2 ^ (if i + 1 = n then 8 * (4 - i) else 8) + x) r
/-- host.IPv4. -/
def ip4 (l : Bs) : Nat × Bool × Int :=
  let ps := ip4parts l
  let last := ps.getLastD []
  if (numP last).isNone ∧ (last = [] ∨ onlyB last decimal = false) then (0, false, 0)
  else if 4 < ps.length then (0, true, 7)
  else match ip4loop ps.length 0 0 ps with
    | none => (0, true, 7)
    | some a => (a, true, 0)
end Go.Proofs.YtmgkmpbblhkacaaGreatDoor
namespace Go.Proofs.YtmgkmpbblhkacaaGreatDoor

/-- percent.value: a digit's worth; below 0: none. -/
def upperHex : Bs := [48, 49, 50, 51, 52, 53, 54, 55, 56, 57, 65, 66, 67, 68, 69, 70]
def valB (c : UInt8) : Int := Lib.indexByte upperHex (if 97 ≤ c.toNat ∧ c.toNat ≤ 102 then c - 32 else c)
/-- percent.Decode. -/
def pdec : Bs → Bs
  | c :: a :: b :: r => if c = 37 ∧ 0 ≤ valB a ∧ 0 ≤ valB b then UInt8.ofNat ((valB a).toNat * 16 + (valB b).toNat) :: pdec r else c :: pdec (a :: b :: r)
  | l => l
/-- host.forbidden. -/
def forbB (c : UInt8) : Bool := c.toNat ≤ 32 || 126 < c.toNat || ([35, 37, 47, 58, 60, 62, 63, 64, 91, 92, 93, 94, 124] : Bs).contains c
end Go.Proofs.YtmgkmpbblhkacaaGreatDoor
namespace Go.Proofs.YtmgkmpbblhkacaaGreatDoor
set_option linter.unusedSimpArgs false
set_option linter.unusedVariables false

def lowB (c : UInt8) : UInt8 := if 65 ≤ c.toNat ∧ c.toNat ≤ 90 then c + 32 else c
end Go.Proofs.YtmgkmpbblhkacaaGreatDoor
