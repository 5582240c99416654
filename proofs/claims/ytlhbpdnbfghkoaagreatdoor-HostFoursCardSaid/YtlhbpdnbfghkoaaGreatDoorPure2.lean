/- The plain functions of percent-decoding and of hosts. -/
import Derived.Test.YtlhbpdnbfghkoaaGreatDoorPure1
import Derived.Lib.Bytealg
namespace Go.Proofs.YtlhbpdnbfghkoaaGreatDoor

/-- percent.value: a digit's worth; below 0: none. -/
def upperHex : Bs := [48, 49, 50, 51, 52, 53, 54, 55, 56, 57, 65, 66, 67, 68, 69, 70]
def valB (c : UInt8) : Int := Lib.indexByte upperHex (if 97 ≤ c.toNat ∧ c.toNat ≤ 102 then c - 32 else c)
/-- percent.Decode. -/
def pdec : Bs → Bs
  | c :: a :: b :: r => if c = 37 ∧ 0 ≤ valB a ∧ 0 ≤ valB b then UInt8.ofNat ((valB a).toNat * 16 + (valB b).toNat) :: pdec r else c :: pdec (a :: b :: r)
  | l => l
/-- host.forbidden. -/
def forbB (c : UInt8) : Bool := c.toNat ≤ 32 || 126 < c.toNat || ([35, 37, 47, 58, 60, 62, 63, 64, 91, 92, 93, 94, 124] : Bs).contains c
end Go.Proofs.YtlhbpdnbfghkoaaGreatDoor
