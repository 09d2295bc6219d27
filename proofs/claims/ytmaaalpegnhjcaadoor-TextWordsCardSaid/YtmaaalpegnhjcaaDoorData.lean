/- The program's plain types as Lean types, and the values that they are in memory. No program in sight. -/
import Derived.Test.YtmaaalpegnhjcaaDoorApp
namespace Go.Proofs.YtmaaalpegnhjcaaDoor
open Go.RowKit
set_option linter.unusedVariables false
/-- an operand of an instruction -/
structure Opd where
  kind : Int
  value : Int
  late : Bool
  limit : Int
  n : Int
deriving DecidableEq, Inhabited
def Opd.cells (o : Opd) : List Value := [.int .i64 o.kind, .int .i64 o.value, .bool o.late, .int .i64 o.limit, .int .i64 o.n]
/-- a register of a class -/
structure Rg where
  cls : Int
  n : Int
deriving DecidableEq, Inhabited
def Rg.cells (r : Rg) : List Value := [.int .i64 r.cls, .int .i64 r.n]
/-- an instruction -/
structure Ins where
  op : Int
  ops : List Opd
  spoils : List Rg
deriving DecidableEq, Inhabited
/-- an edge -/
structure Edg where
  block : Int
  args : List Int
deriving DecidableEq, Inhabited
/-- a block -/
structure Blo where
  params : List Int
  instrs : List Ins
  edges : List Edg
deriving DecidableEq, Inhabited
/-- a function -/
structure Fn where
  values : List Int
  blocks : List Blo
deriving DecidableEq, Inhabited

/-- A slice's elements, so many cells each, related to a list one by one. -/
def SliceOf {α : Type} (R : World → List Value → α → Prop) (size : Nat) (w : World) (A : Option Addr) (xs : List α) : Prop :=
  ∀ i (_ : i < xs.length), ∃ b off, A = some ⟨b, off, none⟩ ∧ ∀ i (h : i < xs.length), ∃ cs : List Value, cs.length = size ∧
    (∀ j u, cs[j]? = some u → w.cell? ⟨b, off + i * size + j, none⟩ = some u) ∧ R w cs xs[i]
/-- What stays when nothing that was there is turned. -/
def Stays {α : Type} (R : World → List Value → α → Prop) : Prop := ∀ w w' cs x, Below w.heap.size w w' → R w cs x → R w' cs x
theorem cell_keep {w w' : World} {p : Addr} {u : Value} (h : Below w.heap.size w w') (hc : w.cell? p = some u) : w'.cell? p = some u := by
  rw [h.cell (World.block_lt_of_cell? w p hc)]; exact hc
theorem SliceOf.keep {α : Type} {R : World → List Value → α → Prop} (hR : Stays R) {size : Nat} {w w' : World} {A : Option Addr} {xs : List α} (h : SliceOf R size w A xs) (hb : Below w.heap.size w w') : SliceOf R size w' A xs := by
  intro i hi
  obtain ⟨b, off, hA, hc⟩ := h i hi
  refine ⟨b, off, hA, fun k hk => ?_⟩
  obtain ⟨cs, hl, hcs, hr⟩ := hc k hk
  exact ⟨cs, hl, fun j u hu => cell_keep hb (hcs j u hu), hR _ _ _ _ hb hr⟩
theorem SliceOf.nil {α : Type} (R : World → List Value → α → Prop) (size : Nat) (w : World) (A : Option Addr) : SliceOf R size w A [] := fun _ h => absurd h (by simp)
theorem Stays.slice {α : Type} {R : World → List Value → α → Prop} (hR : Stays R) (size : Nat) : Stays (fun w cs (xs : List α) => ∃ A cap, cs = [.slice A xs.length cap] ∧ SliceOf R size w A xs) :=
  fun _ _ _ _ hb ⟨A, cap, h1, h2⟩ => ⟨A, cap, h1, h2.keep hR hb⟩

def IntR (_ : World) (cs : List Value) (x : Int) : Prop := cs = [.int .i64 x]
def OpdR (_ : World) (cs : List Value) (x : Opd) : Prop := cs = x.cells
def RgR (_ : World) (cs : List Value) (x : Rg) : Prop := cs = x.cells
def InsR (w : World) (cs : List Value) (x : Ins) : Prop := ∃ A a B b, cs = [.int .i64 x.op, .slice A x.ops.length a, .slice B x.spoils.length b] ∧ SliceOf OpdR 5 w A x.ops ∧ SliceOf RgR 2 w B x.spoils
def EdgR (w : World) (cs : List Value) (x : Edg) : Prop := ∃ A a, cs = [.int .i64 x.block, .slice A x.args.length a] ∧ SliceOf IntR 1 w A x.args
def BloR (w : World) (cs : List Value) (x : Blo) : Prop := ∃ A a B b C c, cs = [.slice A x.params.length a, .slice B x.instrs.length b, .slice C x.edges.length c] ∧
  SliceOf IntR 1 w A x.params ∧ SliceOf InsR 3 w B x.instrs ∧ SliceOf EdgR 2 w C x.edges
def FnR (w : World) (cs : List Value) (x : Fn) : Prop := ∃ A a B b, cs = [.slice A x.values.length a, .slice B x.blocks.length b] ∧ SliceOf IntR 1 w A x.values ∧ SliceOf BloR 3 w B x.blocks
theorem IntR.stays : Stays IntR := fun _ _ _ _ _ h => h
theorem OpdR.stays : Stays OpdR := fun _ _ _ _ _ h => h
theorem RgR.stays : Stays RgR := fun _ _ _ _ _ h => h
theorem InsR.stays : Stays InsR := fun _ _ _ _ hb ⟨A, a, B, b, h, h1, h2⟩ => ⟨A, a, B, b, h, h1.keep OpdR.stays hb, h2.keep RgR.stays hb⟩
theorem EdgR.stays : Stays EdgR := fun _ _ _ _ hb ⟨A, a, h, h1⟩ => ⟨A, a, h, h1.keep IntR.stays hb⟩
theorem BloR.stays : Stays BloR := fun _ _ _ _ hb ⟨A, a, B, b, C, c, h, h1, h2, h3⟩ => ⟨A, a, B, b, C, c, h, h1.keep IntR.stays hb, h2.keep InsR.stays hb, h3.keep EdgR.stays hb⟩
theorem FnR.stays : Stays FnR := fun _ _ _ _ hb ⟨A, a, B, b, h, h1, h2⟩ => ⟨A, a, B, b, h, h1.keep IntR.stays hb, h2.keep BloR.stays hb⟩

/-- do two operands need places of their own? -/
def meetB (a b : Opd) : Bool :=
  if a.kind = 1 ∧ b.kind = 1 then a.value != b.value
  else if a.kind = 2 ∧ b.kind = 2 then true
  else if a.kind = 2 then b.late || !a.late
  else a.late || !b.late
end Go.Proofs.YtmaaalpegnhjcaaDoor
