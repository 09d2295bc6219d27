/- Lists of structs of seven numbers, as they lie in memory. -/
import Derived.Test.YtdbklpgagdbpiaaDoorKit
namespace Go.Proofs.YtdbklpgagdbpiaaDoor
open Go.ChangeShapes Go.WideShapes Go.ChangeAt Go.RowKit
set_option linter.all false
structure Recs (nf:Nat) (w:World) (A:Option Addr) (xs:List (List Int)):Prop where
 len:∀ x∈xs,x.length=nf
 wf:∀ x∈xs,∀ n∈x,(Lit.int .i64 n).wf=true
 at_:xs=[]∨∃ b off,A=some ⟨b,off,none⟩/\∀ (i:Nat) (x:List Int) (j:Nat) (n:Int),xs[i]?=some x->x[j]?=some n->w.cell? ⟨b,off+i*nf+j,none⟩=some (.int .i64 n)
section
variable {H:Type} {enc:TypeId×Value->H} {P:Program} {W:World}
theorem qb5 {t e:TypeId} {fs:Array Field} {nf:Nat} {v:Value} {d:DataW H} {ps:List MemPlace} {base:Nat} (ht:P.underlying t=some (.slice e)) (he:P.underlying e=some (.struct fs)) (hn:fs.size=nf) (hpos:0<nf) (ce:P.cellsOf e=nf)
 (hf:∀ (i:Nat) (f:Field),fs[i]?=some f->f.offset=i/\P.cellsOf f.type=1/\P.underlying f.type=some (.int .i64))
 (hv:Value.okWide P W .any base t v) (h:DataW.Trod enc P W 0 (fun _=>true) true t v d ps) :
 ∃ A len cap xs,v=.slice A len cap/\xs.length=len/\len<=cap/\(A=none->cap=0)/\Recs nf W A xs:=by
 obtain⟨A,len,cap,rfl⟩:=okWide_slice ht hv
 obtain⟨fuel,hfu⟩:=h
 rcases Deep.open_slice ht hfu with⟨hcs,_⟩ | ⟨x,l,c,m,n,D,Pl,hcs,hb,hl,hm,hmm,_,hx⟩
 .simp [Value.cells] at hcs
  obtain⟨rfl,rfl,rfl⟩:=hcs
  exact⟨_,_,_,[],rfl,rfl,by omega,fun _=>rfl,⟨by simp,by simp,.inl rfl⟩⟩
 .simp [Value.cells] at hcs
  obtain⟨rfl,rfl,rfl⟩:=hcs
  have hm':m=cap:=by simpa using hmm
  subst hm'
  have each:∀ i,i<len->∃ r:List Int,r.length=nf/\(∀ n∈r,(Lit.int .i64 n).wf=true)/\∀ j n,r[j]?=some n->W.cell? ((x.add (i*nf)).add j)=some (.int .i64 n):=by
   intro i hi
   obtain⟨cs',h1,h2⟩:=hx i (by omega)
   rw[ce] at h1
   obtain⟨_,hlen,hcell⟩:=World.cells?_some h1
   obtain⟨ys,k,hk,hxy,_,hxl,hff⟩:=DataW.trod_struct he h2
   have one:∀ j,j<nf->∃ n,cs'[j]?=some (.int .i64 n)/\(Lit.int .i64 n).wf=true:=by
    intro j hj
    obtain⟨f,hf0⟩:∃ f,fs[j]?=some f:=⟨_,f2j (by omega)⟩
    obtain⟨f1,f2,f3⟩:=hf j f hf0
    have h3:=hff j f hf0
    rw[f1,f2] at h3
    rw[f0b (by omega)] at h3
    obtain⟨n,h4,_,h5⟩:=DataW.trod_int f3 h3
    refine⟨n,?_,h5⟩
    have hj':j<cs'.length:=by omega
    rw[f08 hj',List.take_succ_cons,List.take_zero] at h4
    rw[f0b hj',(List.cons.inj h4).1]
   refine⟨cs'.map (fun v=>match v with | .int _ n=>n | _=>0),by rw[f1d];exact hlen,fun n hn=>?_,fun j n hj=>?_⟩
   .obtain ⟨u,hu,rfl⟩:=f19.1 hn
    obtain⟨j,hj,rfl⟩:=List.mem_iff_getElem.1 hu
    obtain⟨n,h3,h4⟩:=one j (by omega)
    rw[f0b hj] at h3
    rw[Option.some.inj h3]
    exact h4
   .rw [f09] at hj
    obtain⟨u,hu,hun⟩:=f0a.1 hj
    have hjl:j<cs'.length:=by
     rcases f0h j cs'.length with h3 | h3
     .exact h3
     .rw [f0p h3] at hu;cases hu
    obtain⟨n',h3,h4⟩:=one j (by omega)
    rw[h3] at hu
    cases hu
    have hc:=hcell j (by omega)
    rw[h3] at hc
    rw[hc]
    exact congrArg (fun z=>some (Value.int .i64 z)) hun
  obtain⟨q,hq⟩:=Deep.choose_lt each
  refine⟨_,_,_,(List.range len).map q,rfl,by simp,hl,fun e=>(by cases e),⟨fun r hr=>?_,fun r hr=>?_,?_⟩⟩
  .obtain ⟨i,hi,rfl⟩:=f19.1 hr
   exact(hq i (by simpa using hi)).1
  .obtain ⟨i,hi,rfl⟩:=f19.1 hr
   exact(hq i (by simpa using hi)).2.1
  .rcases f2o len with h0 | h0
   .subst h0;exact .inl rfl
   .right
    have get:∀ (i:Nat) (r:List Int) (j:Nat) (n:Int),((List.range len).map q)[i]?=some r->r[j]?=some n->i<len/\r=q i:=fun i r j n h1 h2=>by
     rw[f09] at h1
     obtain⟨k,hk,rfl⟩:=f0a.1 h1
     have hi:i<len:=by
      rcases f0h i len with h3 | h3
      .exact h3
      .rw [f0p (by simpa using h3)] at hk;cases hk
     rw[f0b (by simpa using hi),List.getElem_range] at hk
     cases hk
     exact⟨hi,rfl⟩
    have hx0:x=⟨x.block,x.off,none⟩:=by
     obtain⟨r1,r2,r3⟩:=hq 0 h0
     obtain⟨n,hn0⟩:∃ n,(q 0)[0]?=some n:=⟨_,f0b (by omega)⟩
     have:=r3 0 n hn0
     rw[f16,show ∀ y:Addr,y.add 0=y from fun y=>by unfold Addr.add;simp,show ∀ y:Addr,y.add 0=y from fun y=>by unfold Addr.add;simp] at this
     exact j7t this
    refine⟨x.block,x.off,by rw[←hx0],fun i r j n h1 h2=>?_⟩
    obtain⟨hi,rfl⟩:=get i r j n h1 h2
    have:=(hq i hi).2.2 j n h2
    rw[hx0] at this
    have e1:∀ (b o k:Nat),(⟨b,o,none⟩:Addr).add k=⟨b,o+k,none⟩:=fun b o k=>by
     unfold Addr.add
     split
     .rename_i h;subst h;rfl
     .rfl
    rw[e1,e1] at this
    exact this
end
end Go.Proofs.YtdbklpgagdbpiaaDoor
