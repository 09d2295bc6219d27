/- Appending to a list of the call's own, the source nil, empty or not: what the walk takes at such an operation. Conditions: the element type's row of the table, room below 2^47 bytes. -/
import Derived.Test.YtehhjbfmjdlcjaaKit
import Derived.Maps.AppendAt
import Derived.Deep.AppendLies
import Derived.RegionTactic
import Derived.OwnWalk
namespace Go.Proofs.Ytehhjbfmjdlcjaa
open Go.RowKit
set_option linter.all false
structure SlT (P:Program) (t e:TypeId) (size bytes:Nat):Prop where
 under:P.underlying t=some (.slice e)
 pos:0<size
 info:∃ i z,P.info? e=some i/\i.zero=some z/\i.size=size/\i.bytes=bytes/\z.cells.size=size
section
variable {P:Program} {w:World}
end
structure Opd where
 kind:Int
 value:Int
 late:Bool
 limit:Int
 n:Int
deriving DecidableEq,Inhabited
def Opd.cells (o:Opd):List Value:=[.int .i64 o.kind,.int .i64 o.value,.bool o.late,.int .i64 o.limit,.int .i64 o.n]
structure Rg where
 cls:Int
 n:Int
deriving DecidableEq,Inhabited
def Rg.cells (r:Rg):List Value:=[.int .i64 r.cls,.int .i64 r.n]
structure Ins where
 op:Int
 ops:List Opd
 spoils:List Rg
deriving DecidableEq,Inhabited
structure Edg where
 block:Int
 args:List Int
deriving DecidableEq,Inhabited
structure Blo where
 params:List Int
 instrs:List Ins
 edges:List Edg
deriving DecidableEq,Inhabited
structure Fn where
 values:List Int
 blocks:List Blo
deriving DecidableEq,Inhabited
def jdr {α:Type} (R:World->List Value->α->Prop) (size:Nat) (w:World) (A:Option Addr) (xs:List α):Prop :=
 ∀ i (_:i<xs.length),∃ b off,A=some ⟨b,off,none⟩/\∀ i (h:i<xs.length),∃ cs:List Value,cs.length=size /\
  (∀ j u,cs[j]?=some u->w.cell? ⟨b,off+i*size+j,none⟩=some u)/\R w cs xs[i]
def qag {α:Type} (R:World->List Value->α->Prop):Prop:=∀ w w' cs x,Below w.heap.size w w'->R w cs x->R w' cs x
theorem j42 {w w':World} {p:Addr} {u:Value} (h:Below w.heap.size w w') (hc:w.cell? p=some u):w'.cell? p=some u:=by
 rw [h.cell (World.block_lt_of_cell? w p hc)];exact hc
theorem jdr.keep {α:Type} {R:World->List Value->α->Prop} (hR:qag R) {size:Nat} {w w':World} {A:Option Addr} {xs:List α} (h:jdr R size w A xs) (hb:Below w.heap.size w w'):jdr R size w' A xs:=by
 intro i hi
 obtain ⟨b,off,hA,hc⟩:=h i hi
 refine ⟨b,off,hA,fun k hk=>?_⟩
 obtain ⟨cs,hl,hcs,hr⟩:=hc k hk
 exact ⟨cs,hl,fun j u hu=>j42 hb (hcs j u hu),hR _ _ _ _ hb hr⟩
theorem jdr.nil {α:Type} (R:World->List Value->α->Prop) (size:Nat) (w:World) (A:Option Addr):jdr R size w A []:=fun _ h=>absurd h (by simp)
theorem qag.slice {α:Type} {R:World->List Value->α->Prop} (hR:qag R) (size:Nat):qag (fun w cs (xs:List α)=>∃ A cap,cs=[.slice A xs.length cap]/\jdr R size w A xs) :=
 fun _ _ _ _ hb ⟨A,cap,h1,h2⟩=>⟨A,cap,h1,h2.keep hR hb⟩
def qqr (_:World) (cs:List Value) (x:Int):Prop:=cs=[.int .i64 x]
def qtl (_:World) (cs:List Value) (x:Opd):Prop:=cs=x.cells
def RgR (_:World) (cs:List Value) (x:Rg):Prop:=cs=x.cells
def qtm (w:World) (cs:List Value) (x:Ins):Prop:=∃ A a B b,cs=[.int .i64 x.op,.slice A x.ops.length a,.slice B x.spoils.length b]/\jdr qtl 5 w A x.ops/\jdr RgR 2 w B x.spoils
def qtn (w:World) (cs:List Value) (x:Edg):Prop:=∃ A a,cs=[.int .i64 x.block,.slice A x.args.length a]/\jdr qqr 1 w A x.args
def qto (w:World) (cs:List Value) (x:Blo):Prop:=∃ A a B b C c,cs=[.slice A x.params.length a,.slice B x.instrs.length b,.slice C x.edges.length c] /\
 jdr qqr 1 w A x.params/\jdr qtm 3 w B x.instrs/\jdr qtn 2 w C x.edges
def FnR (w:World) (cs:List Value) (x:Fn):Prop:=∃ A a B b,cs=[.slice A x.values.length a,.slice B x.blocks.length b]/\jdr qqr 1 w A x.values/\jdr qto 3 w B x.blocks
end Go.Proofs.Ytehhjbfmjdlcjaa
