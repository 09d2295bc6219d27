/- How a law's arguments read. -/
import Derived.WalkKit
import Derived.ProofKit
import Derived.OpenShut
import Derived.ShutString
import Derived.ChangeOld
import Derived.SizedLaws
import Derived.Deep.Slices
import Derived.Deep.Fields
import Derived.ChangeSame
import Derived.Deep.Draws
import Derived.Maps.AppendAt
import Derived.Deep.AppendLies
import Derived.RegionTactic
import Derived.OwnWalk
import Derived.Test.YtkpadfebkaangaaGreatDoorProg
import Derived.Test.YtkpadfebkaangaaGreatDoorPlain
namespace Go.Proofs.YtkpadfebkaangaaGreatDoor
open Go.ChangeShapes Go.WideShapes Go.ChangeAt Go.RowKit
set_option linter.all false
def qfe (k:IntKind) (w:World) (A:Option Addr) (xs:List Int):Prop :=
 ∀ i (_:i<xs.length),∃ b off,A=some ⟨b,off,none⟩/\∀ i (h:i<xs.length),w.cell? ⟨b,off+i,none⟩=some (.int k xs[i])
theorem qfe.nil (k:IntKind) (w:World) (A:Option Addr):qfe k w A []:=fun _ h=>absurd h se
theorem qfe.keep {k:IntKind} {w w':World} {A:Option Addr} {xs:List Int} (h:qfe k w A xs) (hk:Below w.heap.size w w'):qfe k w' A xs:=by
 intro i hi
 obtain⟨b,off,rfl,hc⟩:=h i hi
 refine⟨b,off,rfl,fun j hj=>?_⟩
 have:=hc j hj
 rw[←this]
 refine hk.cell ?_
 rcases f0n b w.heap.size with h1 | h1
 .exact h1
 .rw [World.cell?,Array.getElem?_eq_none (by exact h1)] at this;cases this
theorem j8u {k:IntKind} {a b:Int} (h:a=b):Ending.returned (.int k a)=.returned (.int k b):=by rw[h]
theorem hide {p:Prop} (h:p):Hid p:=h
def qhu (n:Int):Prop:=-9223372036854775808<=n/\n<=9223372036854775807
theorem je3 {n:Int} (h:(Lit.int .i64 n).wf=true):qhu n:=by
 unfold qhu;simpa[Lit.wf,IntKind.min,IntKind.max,IntKind.signed,IntKind.bits] using h
theorem jpg {w:World} {x:Addr} {v:Value} (h:w.cell? x=some v):x=⟨x.block,x.off,none⟩:=by
 obtain⟨b,o,s⟩:=x
 cases s with
 | none=>rfl
 | some _ =>
  rw[World.cell?] at h
  simp only[Option.isSome_some,if_true] at h
  split at h<;>simp at h
theorem j8v {w:World} {x:Addr} {v:Value} (i:Nat) (h:w.cell? (x.add i)=some v) (h0:i=0->True):x.add i=⟨x.block,x.off+i,none⟩:=by
 unfold Addr.add at h ⊢
 split
 .rename_i hi;subst hi;simp only[if_true] at h;exact jpg h
 .rfl
section
variable {H:Type} {enc:TypeId×Value->H} {P:Program} {W:World}
end
open Go.RowKit
structure SlT (P:Program) (t e:TypeId) (size bytes:Nat):Prop where
 under:P.underlying t=some (.slice e)
 pos:0<size
 info:∃ i z,P.info? e=some i/\i.zero=some z/\i.size=size/\i.bytes=bytes/\z.cells.size=size
section
variable {P:Program} {w:World}
end
structure Opd where
 kind:Int
 value:Int
 late:Bool
 limit:Int
 n:Int
deriving DecidableEq,Inhabited
def Opd.cells (o:Opd):List Value:=[.int .i64 o.kind,.int .i64 o.value,.bool o.late,.int .i64 o.limit,.int .i64 o.n]
structure Rg where
 cls:Int
 n:Int
deriving DecidableEq,Inhabited
def Rg.cells (r:Rg):List Value:=[.int .i64 r.cls,.int .i64 r.n]
structure Ins where
 op:Int
 ops:List Opd
 spoils:List Rg
deriving DecidableEq,Inhabited
structure Edg where
 block:Int
 args:List Int
deriving DecidableEq,Inhabited
structure Blo where
 params:List Int
 instrs:List Ins
 edges:List Edg
deriving DecidableEq,Inhabited
structure Fn where
 values:List Int
 blocks:List Blo
deriving DecidableEq,Inhabited
def jd2 {α:Type} (R:World->List Value->α->Prop) (size:Nat) (w:World) (A:Option Addr) (xs:List α):Prop :=
 ∀ i (_:i<xs.length),∃ b off,A=some ⟨b,off,none⟩/\∀ i (h:i<xs.length),∃ cs:List Value,cs.length=size /\
  (∀ j u,cs[j]?=some u->w.cell? ⟨b,off+i*size+j,none⟩=some u)/\R w cs xs[i]
def qff {α:Type} (R:World->List Value->α->Prop):Prop:=∀ w w' cs x,Below w.heap.size w w'->R w cs x->R w' cs x
theorem j8w {w w':World} {p:Addr} {u:Value} (h:Below w.heap.size w w') (hc:w.cell? p=some u):w'.cell? p=some u:=by
 rw[h.cell (World.block_lt_of_cell? w p hc)];exact hc
theorem jd2.keep {α:Type} {R:World->List Value->α->Prop} (hR:qff R) {size:Nat} {w w':World} {A:Option Addr} {xs:List α} (h:jd2 R size w A xs) (hb:Below w.heap.size w w'):jd2 R size w' A xs:=by
 intro i hi
 obtain⟨b,off,hA,hc⟩:=h i hi
 refine⟨b,off,hA,fun k hk=>?_⟩
 obtain⟨cs,hl,hcs,hr⟩:=hc k hk
 exact⟨cs,hl,fun j u hu=>j8w hb (hcs j u hu),hR _ _ _ _ hb hr⟩
theorem jd2.nil {α:Type} (R:World->List Value->α->Prop) (size:Nat) (w:World) (A:Option Addr):jd2 R size w A []:=fun _ h=>absurd h se
theorem qff.slice {α:Type} {R:World->List Value->α->Prop} (hR:qff R) (size:Nat):qff (fun w cs (xs:List α)=>∃ A cap,cs=[.slice A xs.length cap]/\jd2 R size w A xs) :=
 fun _ _ _ _ hb ⟨A,cap,h1,h2⟩=>⟨A,cap,h1,h2.keep hR hb⟩
def qzp (_:World) (cs:List Value) (x:Int):Prop:=cs=[.int .i64 x]
def q4l (_:World) (cs:List Value) (x:Opd):Prop:=cs=x.cells
def RgR (_:World) (cs:List Value) (x:Rg):Prop:=cs=x.cells
def q4m (w:World) (cs:List Value) (x:Ins):Prop:=∃ A a B b,cs=[.int .i64 x.op,.slice A x.ops.length a,.slice B x.spoils.length b]/\jd2 q4l 5 w A x.ops/\jd2 RgR 2 w B x.spoils
def q4n (w:World) (cs:List Value) (x:Edg):Prop:=∃ A a,cs=[.int .i64 x.block,.slice A x.args.length a]/\jd2 qzp 1 w A x.args
def q4o (w:World) (cs:List Value) (x:Blo):Prop:=∃ A a B b C c,cs=[.slice A x.params.length a,.slice B x.instrs.length b,.slice C x.edges.length c] /\
 jd2 qzp 1 w A x.params/\jd2 q4m 3 w B x.instrs/\jd2 q4n 2 w C x.edges
def FnR (w:World) (cs:List Value) (x:Fn):Prop:=∃ A a B b,cs=[.slice A x.values.length a,.slice B x.blocks.length b]/\jd2 qzp 1 w A x.values/\jd2 q4o 3 w B x.blocks
set_option maxHeartbeats 400000 in
theorem j5i (n m:Int) (w:World) (h1:-9223372036854775808<=n) (h2:n<=9223372036854775807) (hm:0<m) (hm2:m<=9223372036854775807) :
 Calls Tryz.prog 8 #[.int .i64 n,.int .i64 m] w fun e w'=>e=.returned (.int .i64 (pick n m))/\w=w':=by
 by_cases hn:n<0
 .have H:Hid (-(n+1).tmod m=pick n m):=by
   show -(n+1).tmod m=pick n m
   unfold pick;rw[if_pos hn,←Int.neg_tmod,f2i oa]
  go_enter Tryz.func8,Tryz.ntmps8
  go_wp2
  go_ret
  exact⟨j8u H.out,rfl⟩
 .have H:Hid (n % m=pick n m):=by
   show n % m=pick n m
   unfold pick;rw[if_neg hn]
  go_enter Tryz.func8,Tryz.ntmps8
  go_wp2
  go_ret
  exact⟨j8u H.out,rfl⟩
structure Recs (nf:Nat) (w:World) (A:Option Addr) (xs:List (List Int)):Prop where
 len:∀ x∈xs,x.length=nf
 wf:∀ x∈xs,∀ n∈x,(Lit.int .i64 n).wf=true
 at_:xs=[]∨∃ b off,A=some ⟨b,off,none⟩/\∀ (i:Nat) (x:List Int) (j:Nat) (n:Int),xs[i]?=some x->x[j]?=some n->w.cell? ⟨b,off+i*nf+j,none⟩=some (.int .i64 n)
section
variable {H:Type} {enc:TypeId×Value->H} {P:Program} {W:World}
theorem j8x {t e:TypeId} {fs:Array Field} {nf:Nat} {v:Value} {d:DataW H} {ps:List MemPlace} {base:Nat} (ht:P.underlying t=some (.slice e)) (he:P.underlying e=some (.struct fs)) (hn:fs.size=nf) (hpos:0<nf) (ce:P.cellsOf e=nf)
 (hf:∀ (i:Nat) (f:Field),fs[i]?=some f->f.offset=i/\P.cellsOf f.type=1/\P.underlying f.type=some (.int .i64))
 (hv:Value.okWide P W .any base t v) (h:DataW.Trod enc P W 0 (fun _=>true) true t v d ps) :
 ∃ A len cap xs,v=.slice A len cap/\xs.length=len/\len<=cap/\(A=none->cap=0)/\Recs nf W A xs:=by
 obtain⟨A,len,cap,rfl⟩:=okWide_slice ht hv
 obtain⟨fuel,hfu⟩:=h
 rcases Deep.open_slice ht hfu with⟨hcs,_⟩ | ⟨x,l,c,m,n,D,Pl,hcs,hb,hl,hm,hmm,_,hx⟩
 .simp [Value.cells] at hcs
  obtain⟨rfl,rfl,rfl⟩:=hcs
  exact⟨_,_,_,[],rfl,rfl,oa,fun _=>rfl,⟨se,se,.inl rfl⟩⟩
 .simp [Value.cells] at hcs
  obtain⟨rfl,rfl,rfl⟩:=hcs
  have hm':m=cap:=by simpa using hmm
  subst hm'
  have each:∀ i,i<len->∃ r:List Int,r.length=nf/\(∀ n∈r,(Lit.int .i64 n).wf=true)/\∀ j n,r[j]?=some n->W.cell? ((x.add (i*nf)).add j)=some (.int .i64 n):=by
   intro i hi
   obtain⟨cs',h1,h2⟩:=hx i oa
   rw[ce] at h1
   obtain⟨_,hlen,hcell⟩:=World.cells?_some h1
   obtain⟨ys,k,hk,hxy,_,hxl,hff⟩:=DataW.trod_struct he h2
   have one:∀ j,j<nf->∃ n,cs'[j]?=some (.int .i64 n)/\(Lit.int .i64 n).wf=true:=by
    intro j hj
    obtain⟨f,hf0⟩:∃ f,fs[j]?=some f:=⟨_,f19 oa⟩
    obtain⟨f1,f2,f3⟩:=hf j f hf0
    have h3:=hff j f hf0
    rw[f1,f2] at h3
    rw[f0b oa] at h3
    obtain⟨n,h4,_,h5⟩:=DataW.trod_int f3 h3
    refine⟨n,?_,h5⟩
    have hj':j<cs'.length:=oa
    rw[f0w hj',List.take_succ_cons,List.take_zero] at h4
    rw[f0b hj',(List.cons.inj h4).1]
   refine⟨cs'.map (fun v=>match v with | .int _ n=>n | _=>0),by rw[f03];exact hlen,fun n hn=>?_,fun j n hj=>?_⟩
   .obtain ⟨u,hu,rfl⟩:=f1j.1 hn
    obtain⟨j,hj,rfl⟩:=List.mem_iff_getElem.1 hu
    obtain⟨n,h3,h4⟩:=one j oa
    rw[f0b hj] at h3
    rw[Option.some.inj h3]
    exact h4
   .rw [f09] at hj
    obtain⟨u,hu,hun⟩:=f0a.1 hj
    have hjl:j<cs'.length:=by
     rcases f0n j cs'.length with h3 | h3
     .exact h3
     .rw [f0y h3] at hu;cases hu
    obtain⟨n',h3,h4⟩:=one j oa
    rw[h3] at hu
    cases hu
    have hc:=hcell j oa
    rw[h3] at hc
    rw[hc]
    exact congrArg (fun z=>some (Value.int .i64 z)) hun
  obtain⟨q,hq⟩:=Deep.choose_lt each
  refine⟨_,_,_,(List.range len).map q,rfl,se,hl,fun e=>(by cases e),⟨fun r hr=>?_,fun r hr=>?_,?_⟩⟩
  .obtain ⟨i,hi,rfl⟩:=f1j.1 hr
   exact(hq i (by simpa using hi)).1
  .obtain ⟨i,hi,rfl⟩:=f1j.1 hr
   exact(hq i (by simpa using hi)).2.1
  .rcases f2x len with h0 | h0
   .subst h0;exact .inl rfl
   .right
    have get:∀ (i:Nat) (r:List Int) (j:Nat) (n:Int),((List.range len).map q)[i]?=some r->r[j]?=some n->i<len/\r=q i:=fun i r j n h1 h2=>by
     rw[f09] at h1
     obtain⟨k,hk,rfl⟩:=f0a.1 h1
     have hi:i<len:=by
      rcases f0n i len with h3 | h3
      .exact h3
      .rw [f0y (by simpa using h3)] at hk;cases hk
     rw[f0b (by simpa using hi),List.getElem_range] at hk
     cases hk
     exact⟨hi,rfl⟩
    have hx0:x=⟨x.block,x.off,none⟩:=by
     obtain⟨r1,r2,r3⟩:=hq 0 h0
     obtain⟨n,hn0⟩:∃ n,(q 0)[0]?=some n:=⟨_,f0b oa⟩
     have:=r3 0 n hn0
     rw[f2a,show ∀ y:Addr,y.add 0=y from fun y=>by unfold Addr.add;simp,show ∀ y:Addr,y.add 0=y from fun y=>by unfold Addr.add;simp] at this
     exact jpg this
    refine⟨x.block,x.off,by rw[←hx0],fun i r j n h1 h2=>?_⟩
    obtain⟨hi,rfl⟩:=get i r j n h1 h2
    have:=(hq i hi).2.2 j n h2
    rw[hx0] at this
    have e1:∀ (b o k:Nat),(⟨b,o,none⟩:Addr).add k=⟨b,o+k,none⟩:=fun b o k=>by
     unfold Addr.add
     split
     .rename_i h;subst h;rfl
     .rfl
    rw[e1,e1] at this
    exact this
end
end Go.Proofs.YtkpadfebkaangaaGreatDoor
