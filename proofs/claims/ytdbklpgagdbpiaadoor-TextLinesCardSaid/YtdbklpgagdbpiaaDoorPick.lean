/- Appending to a list of the call's own, the source nil, empty or not: what the walk takes at such an operation. Conditions: the element type's row of the table, room below 2^47 bytes. -/
import Derived.Test.YtdbklpgagdbpiaaDoorKit
import Derived.Maps.AppendAt
import Derived.Deep.AppendLies
import Derived.RegionTactic
import Derived.OwnWalk
import Derived.Test.YtdbklpgagdbpiaaDoorProg
import Derived.Test.YtdbklpgagdbpiaaDoorPlain
namespace Go.Proofs.YtdbklpgagdbpiaaDoor
open Go.RowKit
set_option linter.all false
structure SlT (P:Program) (t e:TypeId) (size bytes:Nat):Prop where
 under:P.underlying t=some (.slice e)
 pos:0<size
 info:∃ i z,P.info? e=some i/\i.zero=some z/\i.size=size/\i.bytes=bytes/\z.cells.size=size
section
variable {P:Program} {w:World}
end
structure Opd where
 kind:Int
 value:Int
 late:Bool
 limit:Int
 n:Int
deriving DecidableEq,Inhabited
def Opd.cells (o:Opd):List Value:=[.int .i64 o.kind,.int .i64 o.value,.bool o.late,.int .i64 o.limit,.int .i64 o.n]
structure Rg where
 cls:Int
 n:Int
deriving DecidableEq,Inhabited
def Rg.cells (r:Rg):List Value:=[.int .i64 r.cls,.int .i64 r.n]
structure Ins where
 op:Int
 ops:List Opd
 spoils:List Rg
deriving DecidableEq,Inhabited
structure Edg where
 block:Int
 args:List Int
deriving DecidableEq,Inhabited
structure Blo where
 params:List Int
 instrs:List Ins
 edges:List Edg
deriving DecidableEq,Inhabited
structure Fn where
 values:List Int
 blocks:List Blo
deriving DecidableEq,Inhabited
def jd5 {α:Type} (R:World->List Value->α->Prop) (size:Nat) (w:World) (A:Option Addr) (xs:List α):Prop :=
 ∀ i (_:i<xs.length),∃ b off,A=some ⟨b,off,none⟩/\∀ i (h:i<xs.length),∃ cs:List Value,cs.length=size /\
  (∀ j u,cs[j]?=some u->w.cell? ⟨b,off+i*size+j,none⟩=some u)/\R w cs xs[i]
def qc8 {α:Type} (R:World->List Value->α->Prop):Prop:=∀ w w' cs x,Below w.heap.size w w'->R w cs x->R w' cs x
theorem j7v {w w':World} {p:Addr} {u:Value} (h:Below w.heap.size w w') (hc:w.cell? p=some u):w'.cell? p=some u:=by
 rw[h.cell (World.block_lt_of_cell? w p hc)];exact hc
theorem jd5.keep {α:Type} {R:World->List Value->α->Prop} (hR:qc8 R) {size:Nat} {w w':World} {A:Option Addr} {xs:List α} (h:jd5 R size w A xs) (hb:Below w.heap.size w w'):jd5 R size w' A xs:=by
 intro i hi
 obtain⟨b,off,hA,hc⟩:=h i hi
 refine⟨b,off,hA,fun k hk=>?_⟩
 obtain⟨cs,hl,hcs,hr⟩:=hc k hk
 exact⟨cs,hl,fun j u hu=>j7v hb (hcs j u hu),hR _ _ _ _ hb hr⟩
theorem jd5.nil {α:Type} (R:World->List Value->α->Prop) (size:Nat) (w:World) (A:Option Addr):jd5 R size w A []:=fun _ h=>absurd h (by simp)
theorem qc8.slice {α:Type} {R:World->List Value->α->Prop} (hR:qc8 R) (size:Nat):qc8 (fun w cs (xs:List α)=>∃ A cap,cs=[.slice A xs.length cap]/\jd5 R size w A xs) :=
 fun _ _ _ _ hb ⟨A,cap,h1,h2⟩=>⟨A,cap,h1,h2.keep hR hb⟩
def qti (_:World) (cs:List Value) (x:Int):Prop:=cs=[.int .i64 x]
def qwh (_:World) (cs:List Value) (x:Opd):Prop:=cs=x.cells
def RgR (_:World) (cs:List Value) (x:Rg):Prop:=cs=x.cells
def qwi (w:World) (cs:List Value) (x:Ins):Prop:=∃ A a B b,cs=[.int .i64 x.op,.slice A x.ops.length a,.slice B x.spoils.length b]/\jd5 qwh 5 w A x.ops/\jd5 RgR 2 w B x.spoils
def qwj (w:World) (cs:List Value) (x:Edg):Prop:=∃ A a,cs=[.int .i64 x.block,.slice A x.args.length a]/\jd5 qti 1 w A x.args
def qwk (w:World) (cs:List Value) (x:Blo):Prop:=∃ A a B b C c,cs=[.slice A x.params.length a,.slice B x.instrs.length b,.slice C x.edges.length c] /\
 jd5 qti 1 w A x.params/\jd5 qwi 3 w B x.instrs/\jd5 qwj 2 w C x.edges
def FnR (w:World) (cs:List Value) (x:Fn):Prop:=∃ A a B b,cs=[.slice A x.values.length a,.slice B x.blocks.length b]/\jd5 qti 1 w A x.values/\jd5 qwk 3 w B x.blocks
set_option maxHeartbeats 400000 in
theorem j5d (n m:Int) (w:World) (h1:-9223372036854775808<=n) (h2:n<=9223372036854775807) (hm:0<m) (hm2:m<=9223372036854775807) :
 Calls Tryd.prog 8 #[.int .i64 n,.int .i64 m] w fun e w'=>e=.returned (.int .i64 (pick n m))/\w=w':=by
 by_cases hn:n<0
 .have H:Hid (-(n+1).tmod m=pick n m):=by
   show -(n+1).tmod m=pick n m
   unfold pick;rw[if_pos hn,←Int.neg_tmod,f2y (by omega)]
  go_enter Tryd.func8,Tryd.ntmps8
  go_wp2
  go_ret
  exact⟨j7s H.out,rfl⟩
 .have H:Hid (n % m=pick n m):=by
   show n % m=pick n m
   unfold pick;rw[if_neg hn]
  go_enter Tryd.func8,Tryd.ntmps8
  go_wp2
  go_ret
  exact⟨j7s H.out,rfl⟩
end Go.Proofs.YtdbklpgagdbpiaaDoor
