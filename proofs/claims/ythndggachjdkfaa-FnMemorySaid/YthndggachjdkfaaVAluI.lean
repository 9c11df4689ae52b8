/- Walks: the program's Alu. -/
import Derived.Test.YthndggachjdkfaaVNar
namespace Go.Proofs.Ythndggachjdkfaa
open Go.RowKit
set_option maxRecDepth 20000
set_option linter.unusedSimpArgs false
set_option linter.unusedVariables false
/-- What Alu tells. -/
def alu (op a b : Int) : Int × Bool :=
  if op = 1 then (((a % 4294967296) + (b % 4294967296)) % 4294967296, true) else
  if op = 2 then (((a % 4294967296) - (b % 4294967296)) % 4294967296, true) else
  if op = 3 then (((a % 4294967296) * 2 ^ ((b % 4294967296) % 32).toNat) % 4294967296, true) else
  if op = 4 then (if sg a < sg b then 1 else 0, true) else
  if op = 5 then (if (a % 4294967296) < (b % 4294967296) then 1 else 0, true) else
  if op = 6 then ((((a % 4294967296).toNat ^^^ (b % 4294967296).toNat : Nat) : Int), true) else
  if op = 7 then ((a % 4294967296) / 2 ^ ((b % 4294967296) % 32).toNat, true) else
  if op = 8 then ((sg a / 2 ^ ((b % 4294967296) % 32).toNat) % 4294967296, true) else
  if op = 9 then ((((a % 4294967296).toNat ||| (b % 4294967296).toNat : Nat) : Int), true) else
  if op = 10 then ((((a % 4294967296).toNat &&& (b % 4294967296).toNat : Nat) : Int), true) else
  if op = 11 then (((a % 4294967296) * (b % 4294967296)) % 4294967296, true) else
  if op = 12 then ((sg a * sg b / 4294967296) % 4294967296, true) else
  if op = 13 then ((sg a * (b % 4294967296) / 4294967296) % 4294967296, true) else
  if op = 14 then ((a % 4294967296) * (b % 4294967296) / 4294967296, true) else
  if op = 15 then (if (b % 4294967296) = 0 then 4294967295 else (Int.tdiv (sg a) (sg b)) % 4294967296, true) else
  if op = 16 then (if (b % 4294967296) = 0 then 4294967295 else (a % 4294967296) / (b % 4294967296), true) else
  if op = 17 then (if (b % 4294967296) = 0 then (a % 4294967296) else (Int.tmod (sg a) (sg b)) % 4294967296, true) else
  if op = 18 then (if (b % 4294967296) = 0 then (a % 4294967296) else (a % 4294967296) % (b % 4294967296), true) else
  (0, false)

theorem shl31 (u v : Int) : IntKind.i64.wrap (u * 2 ^ (min (Go.bits .and .i64 (v % 4294967296) 31).toNat IntKind.i64.bits)) % 4294967296 = u * 2 ^ (v % 4294967296 % 32).toNat % 4294967296 := by
  rw [and_31, iw64, w64_word, Nat.min_eq_left (by simp [IntKind.bits]; omega)]
theorem shr31 (u v : Int) : u / 2 ^ (min (Go.bits .and .i64 (v % 4294967296) 31).toNat IntKind.i64.bits) = u / 2 ^ (v % 4294967296 % 32).toNat := by
  rw [and_31, Nat.min_eq_left (by simp [IntKind.bits]; omega)]
theorem ge31 (v : Int) : 0 ≤ Go.bits .and .i64 (v % 4294967296) 31 := by rw [and_31]; omega
end Go.Proofs.Ythndggachjdkfaa
