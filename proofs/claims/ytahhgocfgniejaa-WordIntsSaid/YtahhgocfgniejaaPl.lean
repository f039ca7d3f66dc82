/- Plain facts on numbers of 32 and 64 bits: the program's way and the document's way to reckon are one. No condition. -/
import Derived.Test.YtahhgocfgniejaaFrm
namespace Go.Proofs.Ytahhgocfgniejaa
set_option linter.unusedVariables false
set_option linter.unusedSimpArgs false
namespace W

/-- 32 bits by their worth -/
def L (n : Int) : Int := IntKind.i32.wrap n
theorem L_range (n : Int) : -2147483648 ≤ L n ∧ L n ≤ 2147483647 := by
  unfold L; rw [IntKind.wrap_i32]; omega
theorem L_eq (n : Int) (h : -2147483648 ≤ n ∧ n ≤ 2147483647) : L n = n := IntWalk.i32_in n h
theorem L_L (n : Int) : L (L n) = L n := L_eq _ (L_range n)

/-- an instruction that both widths have -/
def rk (k : IntKind) (op x y : Int) : Int × Int :=
  if (op = 108 ∨ op = 112) ∧ y = 0 then (0, 35)
  else if op = 96 then (k.wrap (x + y), 0)
  else if op = 100 then (k.wrap (x - y), 0)
  else if op = 104 then (k.wrap (x * y), 0)
  else if op = 108 then (k.wrap (x.tdiv y), 0)
  else if op = 112 then (x.tmod y, 0)
  else if op = 116 then (k.wrap (0 - x), 0)
  else if op = 126 then (k.wrap (BitVec.ofInt k.bits x &&& BitVec.ofInt k.bits y).toNat, 0)
  else if op = 128 then (k.wrap (BitVec.ofInt k.bits x ||| BitVec.ofInt k.bits y).toNat, 0)
  else if op = 130 then (k.wrap (BitVec.ofInt k.bits x ^^^ BitVec.ofInt k.bits y).toNat, 0)
  else (0, 1)

/-- word.Int -/
def wInt (op a b : Int) : Int × Int :=
  if op = 120 then (L (L a * 2 ^ min (BitVec.ofInt 32 b &&& 31#32).toNat 32), 0)
  else if op = 122 then ((L a).fdiv (2 ^ min (BitVec.ofInt 32 b &&& 31#32).toNat 32), 0)
  else if op = 124 then (L ((BitVec.ofInt 32 (L a)) >>> (BitVec.ofInt 32 b &&& 31#32).toNat).toNat, 0)
  else rk .i32 op (L a) (L b)

/-- word.Long -/
def wLong (op a b : Int) : Int × Int :=
  if op = 121 then (IntKind.i64.wrap (a * 2 ^ min (BitVec.ofInt 64 b &&& 63#64).toNat 64), 0)
  else if op = 123 then (a.fdiv (2 ^ min (BitVec.ofInt 64 b &&& 63#64).toNat 64), 0)
  else if op = 125 then (((BitVec.ofInt 64 a) >>> (BitVec.ofInt 64 b &&& 63#64).toNat).toInt, 0)
  else rk .i64 (IntKind.i64.wrap (op - 1)) a b

end W
end Go.Proofs.Ytahhgocfgniejaa
