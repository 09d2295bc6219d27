/- The program's plain types as Lean types, and the values that they are in memory. No program in sight. -/
import Derived.Test.YtcniobplligpoaaApp
namespace Go.Proofs.Ytcniobplligpoaa
open Go.RowKit
/-- an operand of an instruction -/
structure Opd where
  kind : Int
  value : Int
  late : Bool
  limit : Int
  n : Int
deriving DecidableEq, Inhabited
def Opd.cells (o : Opd) : List Value := [.int .i64 o.kind, .int .i64 o.value, .bool o.late, .int .i64 o.limit, .int .i64 o.n]
/-- do two operands need places of their own? -/
def meetB (a b : Opd) : Bool :=
  if a.kind = 1 ∧ b.kind = 1 then a.value != b.value
  else if a.kind = 2 ∧ b.kind = 2 then true
  else if a.kind = 2 then b.late || !a.late
  else a.late || !b.late
end Go.Proofs.Ytcniobplligpoaa
