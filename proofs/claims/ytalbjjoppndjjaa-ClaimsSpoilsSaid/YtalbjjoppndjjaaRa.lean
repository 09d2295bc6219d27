/- What a function does, by its values: a plain specification; the first block of a function of pieces has an instruction. No program in sight. -/
import Derived.Test.YtalbjjoppndjjaaNa
import Derived.Test.YtalbjjoppndjjaaUe
namespace Go.Proofs.Ytalbjjoppndjjaa.Ms
set_option linter.all false
variable {f:Fc} {seed:Int} {vs:List Int} {i k:Nat}
def H0 (l:List Blk):Prop:=∃ b,l[0]?=some b/\b.instrs≠[]
theorem H0.modify {l:List Blk} (h:H0 l) {f:Blk->Blk} (hf:∀ b,b.instrs≠[]->(f b).instrs≠[]):H0 (l.modify k f):=by
 obtain⟨b,h1,h2⟩:=h
 by_cases e:k=0
 .exact ⟨f b,by rw[f02,h1,e];rfl,hf b h2⟩
 .exact ⟨b,by rw[f02,h1];simp[e],h2⟩
theorem H0.lay {w:Ms} (h:H0 w.blocks) (p:Pc):H0 (jb7 w p).blocks:=by
 obtain⟨h1,h2⟩:=jl7 w p
 unfold jb7
 simp only[h2]
 exact h.modify (fun b _=>by simp)
theorem H0.block {w:Ms} (h:H0 w.blocks) (cs:List Nat):H0 (jaf w cs).blocks:=by
 obtain⟨b,h1,h2⟩:=h
 exact⟨b,by unfold jaf;simp only;rw[f0j (f0t.1 h1).1];exact h1,h2⟩
theorem H0.edge {w:Ms} (h:H0 w.blocks) (k to:Nat) (a:List Nat):H0 (jaw w k to a).blocks:=h.modify (fun b hb=>hb)
theorem H0.newest {w:Ms} (h:H0 w.blocks) (c:Nat) (p:Pc):H0 (jab w c p).2.blocks:=by
 unfold jab
 split
 .exact h
 .exact h.lay _
theorem H0.way {w:Ms} (h:H0 w.blocks) (p:Pc) (c n e k:Nat) (lay:Bool):H0 (jgw p c n e k lay w).2.blocks:=by
 unfold jgw
 simp only
 refine H0.edge ?_ _ _ _
 refine H0.newest ?_ _ _
 refine H0.newest ?_ _ _
 split
 .exact H0.lay (w:={ w with cur:=k }) h _
 .exact h
def J0 (w:Ms):Prop:=H0 w.blocks∨(w.cur=0/\w.known=[]/\0<w.blocks.length)
theorem J0.lay {w:Ms} (h:J0 w) (p:Pc):H0 (jb7 w p).blocks:=by
 rcases h with h | ⟨h1,h2,h3⟩
 .exact h.lay p
 .obtain ⟨_,h4⟩:=jl7 w p
  have hr:=jp8 w p
  unfold jb7
  simp only[hr.1,hr.2,h1]
  unfold jav
  refine⟨{ w.blocks[0] with instrs:=w.blocks[0].instrs++[(jaz w p).1] },?_,by simp⟩
  rw[f02,f0a h3]
  simp
theorem J0.newest {w:Ms} (h:J0 w) (c:Nat) (p:Pc):H0 (jab w c p).2.blocks:=by
 rcases h with h | ⟨h1,h2,h3⟩
 .exact h.newest c p
 .have:jpp w c (w.known.length - pk p.b 3)=none:=by
   rw[h2]
   simp[jpp]
  unfold jab
  rw[this]
  exact J0.lay (.inr ⟨h1,h2,h3⟩) _
theorem J0.fork {w:Ms} (h:J0 w) (p:Pc):H0 (jd9 w p).blocks:=by
 unfold jd9
 simp only
 refine H0.way ?_ _ _ _ _ _ _
 refine H0.way ?_ _ _ _ _ _ _
 exact((((h.lay p).block []).block []).block [pk p.c 2,0]).edge _ _ _ |>.edge _ _ _
theorem J0.loop {w:Ms} (h:J0 w) (p:Pc):H0 (jer w p).blocks:=by
 unfold jer
 simp only
 refine H0.edge ?_ _ _ _
 refine H0.newest ?_ _ _
 refine H0.newest ?_ _ _
 refine H0.lay ?_ _
 refine H0.edge ?_ _ _ _
 refine H0.edge ?_ _ _ _
 refine H0.block ?_ _
 refine H0.block ?_ _
 refine H0.lay ?_ _
 refine H0.edge ?_ _ _ _
 refine H0.block ?_ _
 refine H0.newest ?_ _ _
 exact h.newest _ _
theorem J0.piece {w:Ms} (h:J0 w) (p:Pc):J0 (jbj w p):=by
 unfold jbj
 simp only
 split
 .exact .inl (h.fork p)
 .split
  .exact .inl (h.loop p)
  .split
   .exact .inl (h.lay p)
   .exact h
theorem J0.foldl:∀ {l:List Pc} {w:Ms},J0 w->J0 (l.foldl jbj w)
 | [],_,h=>h
 | p::l,w,h=>J0.foldl (l:=l) (h.piece p)
theorem j4j (m:Nat×Nat) (l:List Pc):H0 (jeh m l).blocks:=by
 unfold jeh
 simp only
 exact J0.lay (J0.foldl (.inr ⟨rfl,rfl,by simp[jbo]⟩)) _
def qp3 (x n:Int):Int:=(x*31+n.tmod 1000003+1000003) % 1000003
def qql (l:List Int):Int:=l.foldl qp3 7
theorem qln (x n:Int):0<=qp3 x n/\qp3 x n<1000003:=⟨f3s _ (by omega),f3o _ (by omega)⟩
theorem j2x:∀ (l:List Int) (x:Int),0<=x/\x<1000003->0<=l.foldl qp3 x/\l.foldl qp3 x<1000003
 | [],x,h=>h
 | n::l,x,h=>j2x l _ (qln x n)
theorem qlo (l:List Int):0<=qql l/\qql l<1000003:=j2x l 7 (by omega)
def qtf (seed:Int) (x:Ins) (k:Nat) (rd:List Int):Int:=qql ([seed,(x.op:Int),(k:Int)]++rd)
def j2y (seed:Int) (b:Blk) (i:Nat) (x:Ins) (rd:List Int):Int :=
 if i+1≠b.instrs.length then -1 else if b.edges.length=0 then -1 else if b.edges.length=1 then 0 else qql ([seed,(x.op:Int),-1]++rd) % (b.edges.length:Int)
def rdF (vs:List Int) (l:List Int) (o:Opd):List Int:=if o.kind=1 then l++[vs.getD o.value 0] else l
def qtg (ops:List Opd) (vs:List Int):List Int:=ops.foldl (rdF vs) []
def qlp (seed:Int) (x:Ins) (rd:List Int):List Opd->Nat->List Int->List Int
 | [],_,vs=>vs
 | o::r,k,vs=>qlp seed x rd r (k+1) (if o.kind=2 then vs.set o.value (qtf seed x k rd) else vs)
structure Evt where
 block:Nat
 at_:Nat
 read:List Int
 edge:Int
def qlq (seed:Int) (k:Nat) (b:Blk) (i:Nat) (x:Ins) (vs:List Int):Evt×List Int :=
 let rd:=qtg x.ops vs
 (⟨k,i,rd,j2y seed b i x rd⟩,qlp seed x rd x.ops 0 vs)
def qe2 (f:Fc) (vs:List Int):Prop:=vs.length=f.values.length/\∀ v∈vs,0<=v/\v<1000003
theorem qe2.set (h:qe2 f vs) {v:Int} (hv:0<=v/\v<1000003):qe2 f (vs.set i v) :=
 ⟨by rw[f3u];exact h.1,fun u hu=>by
  rcases List.mem_or_eq_of_mem_set hu with h1 | h1
  .exact h.2 u h1
  .rw [h1];exact hv⟩
theorem j2z {x:Ins} {rd:List Int}:∀ (ops:List Opd) (k:Nat) {vs:List Int},qe2 f vs->qe2 f (qlp seed x rd ops k vs)
 | [],_,_,h=>h
 | o::r,k,vs,h=>j2z r (k+1) (by
  split
  .exact h.set (qlo _)
  .exact h)
theorem qcu {b:Blk} {x:Ins} (h:qe2 f vs):qe2 f (qlq seed k b i x vs).2:=j2z _ _ h
theorem qcv {b:Blk} {x:Ins} {rd:List Int} (hi:i+1=b.instrs.length) (hb:b.edges≠[]):0<=j2y seed b i x rd/\j2y seed b i x rd<(b.edges.length:Int):=by
 have hl:0<b.edges.length:=f1m.2 hb
 unfold j2y
 rw[if_neg (by omega),if_neg (by omega)]
 split
 .omega
 .exact ⟨f3s _ (by omega),f3o _ (by omega)⟩
structure GoOk (f:Fc) (k i:Nat) (vs:List Int) (e:Int):Prop where
 vo:qe2 f vs
 kb:k<f.blocks.length
 ib:i<=(f.blocks.getD k jfe).instrs.length
 eb:i=(f.blocks.getD k jfe).instrs.length->(f.blocks.getD k jfe).edges≠[]->0<=e/\e<((f.blocks.getD k jfe).edges.length:Int)
structure RnOk (f:Fc):Prop where
 nv:f.values.length<=160
 nb:f.blocks.length<=16
 blk:∀ b∈f.blocks,b.params.length<=5/\b.instrs.length<=40/\b.edges.length<=3
 par:∀ b∈f.blocks,1<b.edges.length->b.instrs≠[]
 edg:∀ b∈f.blocks,∀ d∈b.edges,∃ t,f.blocks[d.block]?=some t/\t.params.length=d.args.length/\(∀ v∈d.args,v<f.values.length)/\∀ v∈t.params,v<f.values.length
 ops:∀ b∈f.blocks,∀ x∈b.instrs,x.op<=255/\x.ops.length<=6/\∀ o∈x.ops,o.value<f.values.length
theorem GoOk.next {e:Int} (g:GoOk f k i vs e) {x:Ins} (hx:(f.blocks.getD k jfe).instrs[i]?=some x):GoOk f k (i+1) (qlq seed k (f.blocks.getD k jfe) i x vs).2 (qlq seed k (f.blocks.getD k jfe) i x vs).1.edge:=by
 have hi:=(f0t.1 hx).1
 exact⟨qcu g.vo,g.kb,by omega,fun h1 h2=>qcv h1 h2⟩
end Go.Proofs.Ytalbjjoppndjjaa.Ms
