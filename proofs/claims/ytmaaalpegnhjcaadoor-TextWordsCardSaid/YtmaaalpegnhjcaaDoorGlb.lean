/- Package-level variables that the code reads: what they hold. -/
import Derived.Test.YtmaaalpegnhjcaaDoorEv
import Derived.Lib.ItoaNum
namespace Go.Proofs.YtmaaalpegnhjcaaDoor.Ev
open Go
set_option linter.unusedVariables false
def sv1 : SV → Value → Bool
  | .int k n, .int k' m => Nat.beq k.ctorIdx k'.ctorIdx && (n == m)
  | .str l, .string b => l == b.data.toList
  | _, _ => false
def conB : List SV → List Value → Bool
  | [], _ => true
  | s :: l, v :: r => sv1 s v && conB l r
  | _ :: _, [] => false
/-- the arrays, as cells -/
noncomputable def glob (g : Nat) : Option (List SV) :=
  oif (Nat.beq g 0) (some [.str [], .str [117, 115, 101], .str [100, 101, 102]])
    (oif (Nat.beq g 2) (some [.str [], .str [97, 110, 121], .str [114, 101, 103], .str [115, 116, 97, 99, 107], .str [102, 105, 120, 101, 100], .str [114, 101, 117, 115, 101]]) none)
/-- what the library reads: a bound, whatever it is; powers of ten; two errors -/
def ExtK (k : Nat → Option (Array Value)) : Prop :=
  (∃ (m : Int) (cs : Array Value), k 1 = some cs ∧ cs[0]? = some (.int .i64 m)) ∧
  k 7 = some (Lib.pow10Tab.map fun z => Value.int .u64 z).toArray ∧
  (∃ (cs : Array Value) (v : Value), k 3 = some cs ∧ cs[0]? = some v ∧ (v = .nilIface ∨ ∃ t p, v = .iface t p)) ∧
  (∃ (cs : Array Value) (v : Value), k 4 = some cs ∧ cs[0]? = some v ∧ (v = .nilIface ∨ ∃ t p, v = .iface t p))
/-- constants among which the variables are -/
class GK (k : Nat → Option (Array Value)) : Prop where
  con : ∀ g cells, glob g = some cells → ∃ cs, k g = some cs ∧ conB cells cs.toList = true
  ext : ExtK k
theorem GK.mono {k k' : Nat → Option (Array Value)} (h : ∀ b cs, k b = some cs → k' b = some cs) (g : GK k) : GK k' where
  con := fun g' cells e => by
    obtain ⟨cs, h1, h2⟩ := g.con g' cells e
    exact ⟨cs, h _ _ h1, h2⟩
  ext := by
    obtain ⟨⟨m, a, h1, h2⟩, h3, ⟨c, v, h5, h6⟩, ⟨d, u, h7, h8⟩⟩ := g.ext
    exact ⟨⟨m, a, h _ _ h1, h2⟩, h _ _ h3, ⟨c, v, h _ _ h5, h6⟩, ⟨d, u, h _ _ h7, h8⟩⟩
end Go.Proofs.YtmaaalpegnhjcaaDoor.Ev
