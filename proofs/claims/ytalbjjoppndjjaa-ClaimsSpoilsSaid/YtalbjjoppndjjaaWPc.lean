/- Lists of structs of seven numbers, as they lie in memory. -/
import Derived.Test.YtalbjjoppndjjaaKit
import Derived.Test.YtalbjjoppndjjaaMc11
namespace Go.Proofs.Ytalbjjoppndjjaa
open Go.ChangeShapes Go.WideShapes Go.ChangeAt Go.RowKit
set_option linter.all false
structure Recs (nf:Nat) (w:World) (A:Option Addr) (xs:List (List Int)):Prop where
 len:∀ x∈xs,x.length=nf
 wf:∀ x∈xs,∀ n∈x,(Lit.int .i64 n).wf=true
 at_:xs=[]∨∃ b off,A=some ⟨b,off,none⟩/\∀ (i:Nat) (x:List Int) (j:Nat) (n:Int),xs[i]?=some x->x[j]?=some n->w.cell? ⟨b,off+i*nf+j,none⟩=some (.int .i64 n)
section
variable {H:Type} {enc:TypeId×Value->H} {P:Program} {W:World}
theorem jwy {t e:TypeId} {fs:Array Field} {nf:Nat} {v:Value} {d:DataW H} {ps:List MemPlace} {base:Nat} (ht:P.underlying t=some (.slice e)) (he:P.underlying e=some (.struct fs)) (hn:fs.size=nf) (hpos:0<nf) (ce:P.cellsOf e=nf)
 (hf:∀ (i:Nat) (f:Field),fs[i]?=some f->f.offset=i/\P.cellsOf f.type=1/\P.underlying f.type=some (.int .i64))
 (hv:Value.okWide P W .any base t v) (h:DataW.Trod enc P W 0 (fun _=>true) true t v d ps) :
 ∃ A len cap xs,v=.slice A len cap/\xs.length=len/\len<=cap/\(A=none->cap=0)/\Recs nf W A xs:=by
 obtain⟨A,len,cap,rfl⟩:=okWide_slice ht hv
 obtain⟨fuel,hfu⟩:=h
 rcases Deep.open_slice ht hfu with⟨hcs,_⟩ | ⟨x,l,c,m,n,D,Pl,hcs,hb,hl,hm,hmm,_,hx⟩
 .simp [Value.cells] at hcs
  obtain⟨rfl,rfl,rfl⟩:=hcs
  exact⟨_,_,_,[],rfl,rfl,by omega,fun _=>rfl,⟨by simp,by simp,.inl rfl⟩⟩
 .simp [Value.cells] at hcs
  obtain⟨rfl,rfl,rfl⟩:=hcs
  have hm':m=cap:=by simpa using hmm
  subst hm'
  have each:∀ i,i<len->∃ r:List Int,r.length=nf/\(∀ n∈r,(Lit.int .i64 n).wf=true)/\∀ j n,r[j]?=some n->W.cell? ((x.add (i*nf)).add j)=some (.int .i64 n):=by
   intro i hi
   obtain⟨cs',h1,h2⟩:=hx i (by omega)
   rw[ce] at h1
   obtain⟨_,hlen,hcell⟩:=World.cells?_some h1
   obtain⟨ys,k,hk,hxy,_,hxl,hff⟩:=DataW.trod_struct he h2
   have one:∀ j,j<nf->∃ n,cs'[j]?=some (.int .i64 n)/\(Lit.int .i64 n).wf=true:=by
    intro j hj
    obtain⟨f,hf0⟩:∃ f,fs[j]?=some f:=⟨_,f12 (by omega)⟩
    obtain⟨f1,f2,f3⟩:=hf j f hf0
    have h3:=hff j f hf0
    rw[f1,f2] at h3
    rw[f0a (by omega)] at h3
    obtain⟨n,h4,_,h5⟩:=DataW.trod_int f3 h3
    refine⟨n,?_,h5⟩
    have hj':j<cs'.length:=by omega
    rw[f1d hj',List.take_succ_cons,List.take_zero] at h4
    rw[f0a hj',(List.cons.inj h4).1]
   refine⟨cs'.map (fun v=>match v with | .int _ n=>n | _=>0),by rw[f1c];exact hlen,fun n hn=>?_,fun j n hj=>?_⟩
   .obtain ⟨u,hu,rfl⟩:=f1q.1 hn
    obtain⟨j,hj,rfl⟩:=List.mem_iff_getElem.1 hu
    obtain⟨n,h3,h4⟩:=one j (by omega)
    rw[f0a hj] at h3
    rw[Option.some.inj h3]
    exact h4
   .rw [f1b] at hj
    obtain⟨u,hu,hun⟩:=f0b.1 hj
    have hjl:j<cs'.length:=by
     rcases f0g j cs'.length with h3 | h3
     .exact h3
     .rw [f0o h3] at hu;cases hu
    obtain⟨n',h3,h4⟩:=one j (by omega)
    rw[h3] at hu
    cases hu
    have hc:=hcell j (by omega)
    rw[h3] at hc
    rw[hc]
    exact congrArg (fun z=>some (Value.int .i64 z)) hun
  obtain⟨q,hq⟩:=Deep.choose_lt each
  refine⟨_,_,_,(List.range len).map q,rfl,by simp,hl,fun e=>(by cases e),⟨fun r hr=>?_,fun r hr=>?_,?_⟩⟩
  .obtain ⟨i,hi,rfl⟩:=f1q.1 hr
   exact(hq i (by simpa using hi)).1
  .obtain ⟨i,hi,rfl⟩:=f1q.1 hr
   exact(hq i (by simpa using hi)).2.1
  .rcases f2s len with h0 | h0
   .subst h0;exact .inl rfl
   .right
    have get:∀ (i:Nat) (r:List Int) (j:Nat) (n:Int),((List.range len).map q)[i]?=some r->r[j]?=some n->i<len/\r=q i:=fun i r j n h1 h2=>by
     rw[f1b] at h1
     obtain⟨k,hk,rfl⟩:=f0b.1 h1
     have hi:i<len:=by
      rcases f0g i len with h3 | h3
      .exact h3
      .rw [f0o (by simpa using h3)] at hk;cases hk
     rw[f0a (by simpa using hi),List.getElem_range] at hk
     cases hk
     exact⟨hi,rfl⟩
    have hx0:x=⟨x.block,x.off,none⟩:=by
     obtain⟨r1,r2,r3⟩:=hq 0 h0
     obtain⟨n,hn0⟩:∃ n,(q 0)[0]?=some n:=⟨_,f0a (by omega)⟩
     have:=r3 0 n hn0
     rw[f2o,show ∀ y:Addr,y.add 0=y from fun y=>by unfold Addr.add;simp,show ∀ y:Addr,y.add 0=y from fun y=>by unfold Addr.add;simp] at this
     exact j4n this
    refine⟨x.block,x.off,by rw[←hx0],fun i r j n h1 h2=>?_⟩
    obtain⟨hi,rfl⟩:=get i r j n h1 h2
    have:=(hq i hi).2.2 j n h2
    rw[hx0] at this
    have e1:∀ (b o k:Nat),(⟨b,o,none⟩:Addr).add k=⟨b,o+k,none⟩:=fun b o k=>by
     unfold Addr.add
     split
     .rename_i h;subst h;rfl
     .rfl
    rw[e1,e1] at this
    exact this
end
end Go.Proofs.Ytalbjjoppndjjaa
namespace Go.Proofs.Ytalbjjoppndjjaa.Ev
open Go Go.RowKit Go.Proofs.Ytalbjjoppndjjaa.Ms
set_option linter.all false
theorem jro {w:World} {b k:Nat} {u:Value} (h:w.cell? ⟨b,k,none⟩=some u):∃ c e fr,w.heap[b]?=some (.cells c e fr)/\c[k]?=some u:=by
 unfold World.cell? at h
 simp only at h
 split at h
 .rename_i c e fr hb
  exact⟨c,_,_,hb,by simpa using h⟩
 .cases h
def qdk (x:List Int):Pc:=⟨x.getD 0 0,x.getD 1 0,x.getD 2 0,x.getD 3 0,x.getD 4 0,x.getD 5 0,x.getD 6 0⟩
theorem j7v:∀ {x:List Int},x.length=7->jb6 (qdk x)=x.map (fun n=>si n)
 | [a,b,c,d,e,f,g],_=>rfl
theorem jrp {W:World} {A2:Option Addr} {len cap:Nat} {xs:List (List Int)} (hl:xs.length=len) (hc:len<=cap) (hA:A2=none->cap=0) (hr:Recs 7 W A2 xs) :
 ∃ (k:Nat->Option (Array Value)) (xl:SV),jqk k W/\LstE jb6 7 xl (xs.map qdk)/\(∀ q∈xs.map qdk,Pin q)/\∀ A,cS A (qab k) xl (.slice A2 len cap):=by
 subst hl
 have pin:∀ q∈xs.map qdk,Pin q:=fun q hq=>by
  obtain⟨x,hx,rfl⟩:=f1q.1 hq
  have hlen:=hr.len x hx
  have hw:=hr.wf x hx
  match x,hlen with
  | [a,b,c,d,e,f,g],_ =>
   have r:∀ n∈[a,b,c,d,e,f,g],-9223372036854775808<=n/\n<=9223372036854775807:=fun n hn=>jf1 (hw n hn)
   exact⟨r a (by simp),r b (by simp),r c (by simp),r d (by simp),r e (by simp),r f (by simp),r g (by simp)⟩
 cases A2 with
 | none =>
  have h1:=hA rfl
  have h2:xs=[]:=f1h (by omega)
  subst h2 h1
  exact⟨fun _=>none,.nilSlice,jk9 W,LstE.enc (l:=[]) (fun _=>rfl),pin,fun A=>rfl⟩
 | some ad =>
  rcases hr.at_ with rfl | ⟨b,off,e,hcell⟩
  .exact ⟨fun _=>none,.lst [],jk9 W,LstE.emp,pin,fun A=>.lst0 ad cap⟩
  .cases e
   cases xs with
   | nil=>exact⟨fun _=>none,.lst [],jk9 W,LstE.emp,pin,fun A=>.lst0 _ cap⟩
   | cons x0 xs =>
    have hx0:=hr.len x0 (by simp)
    obtain⟨n0,hn0⟩:∃ n,x0[0]?=some n:=⟨_,f0a (by omega)⟩
    have hc0:=hcell 0 x0 0 n0 rfl hn0
    obtain⟨cs,ty,fr,hb,_⟩:=jro hc0
    have hget:∀ (i:Nat) (x:List Int) (j:Nat) (n:Int),(x0::xs)[i]?=some x->x[j]?=some n->cs[off+i*7+j]?=some (.int .i64 n):=fun i x j n h1 h2=>by
     obtain⟨cs',ty',fr',hb',h3⟩:=jro (hcell i x j n h1 h2)
     rw[hb] at hb'
     cases hb'
     exact h3
    have row:∀ (i:Nat) (r:List SV),(((x0::xs).map qdk).map jb6)[i]?=some r->∃ x,(x0::xs)[i]?=some x/\r=x.map (fun n=>si n):=fun i r h=>by
     rw[f1b,f1b] at h
     obtain⟨q,hq,rfl⟩:=f0b.1 h
     obtain⟨x,hx,rfl⟩:=f0b.1 hq
     exact⟨x,hx,j7v (hr.len x (f0c hx))⟩
    have one:∀ (i j:Nat) (r:List SV) (y:SV),(((x0::xs).map qdk).map jb6)[i]?=some r->r[j]?=some y->∃ n,y=si n/\cs[off+i*7+j]?=some (.int .i64 n):=fun i j r y h1 h2=>by
     obtain⟨x,hx,rfl⟩:=row i r h1
     rw[f1b] at h2
     obtain⟨n,hn,rfl⟩:=f0b.1 h2
     exact⟨n,rfl,hget i x j n hx hn⟩
    refine⟨fun n=>if n=b then some cs else none,jae jb6 ((x0::xs).map qdk),fun b' cs' e=>?_,LstE.enc (fun _=>rfl),pin,fun A=>?_⟩
    .simp only at e
     split at e
     .rename_i h1;subst h1;cases e;exact⟨(ty,fr),hb⟩
     .cases e
    .have hrl:(((x0::xs).map qdk).map jb6).length=(x0::xs).length:=by simp
     rw[←hrl]
     refine cD.lst _ b off cap 7 cs (fun i j=>(cs[off+i*7+j]?).getD (.bool false)) ?_ (by have:=hc;simp at this ⊢;exact this) (fun i r h=>?_) (fun i j r y h1 h2=>?_) (fun i j r y h1 h2=>?_)
     .exact if_pos rfl
     .obtain ⟨x,hx,rfl⟩:=row i r h
      rw[f1c];exact hr.len x (f0c hx)
     .obtain ⟨n,rfl,h3⟩:=one i j r y h1 h2
      rw[h3];rfl
     .obtain ⟨n,rfl,h3⟩:=one i j r y h1 h2
      simp only[h3,f1r]
      exact .int _ _
end Go.Proofs.Ytalbjjoppndjjaa.Ev
