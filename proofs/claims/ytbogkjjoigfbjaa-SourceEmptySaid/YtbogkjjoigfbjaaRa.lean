/- What a function does, by its values: a plain specification; the first block of a function of pieces has an instruction. No program in sight. -/
import Derived.Test.YtbogkjjoigfbjaaNa
import Derived.Test.YtbogkjjoigfbjaaGc
namespace Go.Proofs.Ytbogkjjoigfbjaa.Ms
set_option linter.all false
variable {f:Fc} {e seed:Int} {vs:List Int} {i k:Nat}
def H0 (l:List Blk):Prop:=∃ b,l[0]?=some b/\b.instrs≠[]
theorem H0.modify {l:List Blk} (h:H0 l) {f:Blk->Blk} (hf:∀ b,b.instrs≠[]->(f b).instrs≠[]):H0 (l.modify k f):=by
 obtain⟨b,h1,h2⟩:=h
 by_cases e:k=0
 .exact ⟨f b,by rw[f0w,h1,e];rfl,hf b h2⟩
 .exact ⟨b,by rw[f0w,h1];simp[e],h2⟩
theorem H0.lay {w:Ms} (h:H0 w.blocks) (p:Pc):H0 (jcu w p).blocks:=by
 obtain⟨h1,h2⟩:=ji0 w p
 unfold jcu
 simp only[h2]
 exact h.modify (fun b _=>by simp)
theorem H0.block {w:Ms} (h:H0 w.blocks) (cs:List Nat):H0 (jad w cs).blocks:=by
 obtain⟨b,h1,h2⟩:=h
 exact⟨b,by unfold jad;simp only;rw[f0k (f0n.1 h1).1];exact h1,h2⟩
theorem H0.edge {w:Ms} (h:H0 w.blocks) (k to:Nat) (a:List Nat):H0 (jan w k to a).blocks:=h.modify (fun b hb=>hb)
theorem H0.newest {w:Ms} (h:H0 w.blocks) (c:Nat) (p:Pc):H0 (jac w c p).2.blocks:=by
 unfold jac
 split
 .exact h
 .exact h.lay _
theorem H0.way {w:Ms} (h:H0 w.blocks) (p:Pc) (c n e k:Nat) (lay:Bool):H0 (jmo p c n e k lay w).2.blocks:=by
 unfold jmo
 simp only
 refine H0.edge ?_ _ _ _
 refine H0.newest ?_ _ _
 refine H0.newest ?_ _ _
 split
 .exact H0.lay (w:={ w with cur:=k }) h _
 .exact h
def J0 (w:Ms):Prop:=H0 w.blocks∨(w.cur=0/\w.known=[]/\0<w.blocks.length)
theorem J0.lay {w:Ms} (h:J0 w) (p:Pc):H0 (jcu w p).blocks:=by
 rcases h with h | ⟨h1,h2,h3⟩
 .exact h.lay p
 .obtain ⟨_,h4⟩:=ji0 w p
  have hr:=jms w p
  unfold jcu
  simp only[hr.1,hr.2,h1]
  unfold jak
  refine⟨{ w.blocks[0] with instrs:=w.blocks[0].instrs++[(jav w p).1] },?_,by simp⟩
  rw[f0w,f0f h3]
  simp
theorem J0.newest {w:Ms} (h:J0 w) (c:Nat) (p:Pc):H0 (jac w c p).2.blocks:=by
 rcases h with h | ⟨h1,h2,h3⟩
 .exact h.newest c p
 .have:jty w c (w.known.length - pk p.b 3)=none:=by
   rw[h2]
   simp[jty]
  unfold jac
  rw[this]
  exact J0.lay (.inr ⟨h1,h2,h3⟩) _
theorem J0.fork {w:Ms} (h:J0 w) (p:Pc):H0 (jeu w p).blocks:=by
 unfold jeu
 simp only
 refine H0.way ?_ _ _ _ _ _ _
 refine H0.way ?_ _ _ _ _ _ _
 exact((((h.lay p).block []).block []).block [pk p.c 2,0]).edge _ _ _ |>.edge _ _ _
theorem J0.loop {w:Ms} (h:J0 w) (p:Pc):H0 (jfo w p).blocks:=by
 unfold jfo
 simp only
 refine H0.edge ?_ _ _ _
 refine H0.newest ?_ _ _
 refine H0.newest ?_ _ _
 refine H0.lay ?_ _
 refine H0.edge ?_ _ _ _
 refine H0.edge ?_ _ _ _
 refine H0.block ?_ _
 refine H0.block ?_ _
 refine H0.lay ?_ _
 refine H0.edge ?_ _ _ _
 refine H0.block ?_ _
 refine H0.newest ?_ _ _
 exact h.newest _ _
theorem J0.piece {w:Ms} (h:J0 w) (p:Pc):J0 (jgb w p):=by
 unfold jgb
 simp only
 split
 .exact .inl (h.fork p)
 .split
  .exact .inl (h.loop p)
  .split
   .exact .inl (h.lay p)
   .exact h
theorem J0.foldl:∀ {l:List Pc} {w:Ms},J0 w->J0 (l.foldl jgb w)
 | [],_,h=>h
 | p::l,w,h=>J0.foldl (l:=l) (h.piece p)
def j3v (x n:Int):Int:=(x*31+n.tmod 1000003+1000003) % 1000003
def jw5 (l:List Int):Int:=l.foldl j3v 7
theorem j0r (x n:Int):0<=j3v x n/\j3v x n<1000003:=⟨f2t _ (by omega),f2k _ (by omega)⟩
theorem jve:∀ (l:List Int) (x:Int),0<=x/\x<1000003->0<=l.foldl j3v x/\l.foldl j3v x<1000003
 | [],x,h=>h
 | n::l,x,h=>jve l _ (j0r x n)
theorem jt6 (l:List Int):0<=jw5 l/\jw5 l<1000003:=jve l 7 (by omega)
def jt7 (seed:Int) (x:Ins) (k:Nat) (rd:List Int):Int:=jw5 ([seed,(x.op:Int),(k:Int)]++rd)
def jb9 (seed:Int) (b:Blk) (i:Nat) (x:Ins) (rd:List Int):Int :=
 if i+1≠b.instrs.length then -1 else if b.edges.length=0 then -1 else if b.edges.length=1 then 0 else jw5 ([seed,(x.op:Int),-1]++rd) % (b.edges.length:Int)
def rdF (vs:List Int) (l:List Int) (o:Opd):List Int:=if o.kind=1 then l++[vs.getD o.value 0] else l
def j2p (ops:List Opd) (vs:List Int):List Int:=ops.foldl (rdF vs) []
def jt8 (seed:Int) (x:Ins) (rd:List Int):List Opd->Nat->List Int->List Int
 | [],_,vs=>vs
 | o::r,k,vs=>jt8 seed x rd r (k+1) (if o.kind=2 then vs.set o.value (jt7 seed x k rd) else vs)
structure Evt where
 block:Nat
 at_:Nat
 read:List Int
 edge:Int
def jht (seed:Int) (k:Nat) (b:Blk) (i:Nat) (x:Ins) (vs:List Int):Evt×List Int :=
 let rd:=j2p x.ops vs
 (⟨k,i,rd,jb9 seed b i x rd⟩,jt8 seed x rd x.ops 0 vs)
def j1c:List Nat->List Int->List Int->List Int
 | p::ps,x::xs,vs=>j1c ps xs (vs.set p x)
 | _,_,vs=>vs
def j3w (f:Fc) (d:Edg) (vs:List Int):List Int:=j1c (f.blocks.getD d.block jdd).params (d.args.map (fun v=>vs.getD v 0)) vs
def goS (f:Fc) (seed:Int):Nat->Nat->Nat->List Int->Int->List Evt
 | 0,_,_,_,_=>[]
 | n+1,k,i,vs,e =>
  match (f.blocks.getD k jdd).instrs[i]? with
  | some x=>(jht seed k (f.blocks.getD k jdd) i x vs).1::goS f seed n k (i+1) (jht seed k (f.blocks.getD k jdd) i x vs).2 (jht seed k (f.blocks.getD k jdd) i x vs).1.edge
  | none =>
   match (f.blocks.getD k jdd).edges[e.toNat]? with
   | none=>[]
   | some d=>goS f seed n d.block 0 (j3w f d vs) 0
def jvf (f:Fc) (seed:Int) (steps:Nat):List Evt :=
 match steps with
 | 0=>[]
 | n+1=>goS f seed n 0 0 (List.replicate f.values.length 0) 0
theorem jt9 (f:Fc) (seed:Int):∀ (n k i:Nat) (vs:List Int) (e:Int),(goS f seed n k i vs e).length<=n
 | 0,_,_,_,_=>by simp[goS]
 | n+1,k,i,vs,e=>by
  unfold goS
  split
  .exact Nat.succ_le_succ (jt9 f seed n _ _ _ _)
  .split
   .simp
   .exact f1e (jt9 f seed n _ 0 _ 0)
def jvg (f:Fc) (vs:List Int):Prop:=vs.length=f.values.length/\∀ v∈vs,0<=v/\v<1000003
theorem jvg.set (h:jvg f vs) {v:Int} (hv:0<=v/\v<1000003):jvg f (vs.set i v) :=
 ⟨by rw[List.length_set];exact h.1,fun u hu=>by
  rcases List.mem_or_eq_of_mem_set hu with h1 | h1
  .exact h.2 u h1
  .rw [h1];exact hv⟩
theorem j0s (h:∀ v∈vs,0<=v/\v<1000003) (i:Nat):0<=vs.getD i 0/\vs.getD i 0<1000003:=by
 rw[f0c]
 cases e:vs[i]? with
 | none=>simp
 | some v=>exact h v (f0h e)
theorem jvh (h:∀ v∈vs,0<=v/\v<1000003):∀ (ops:List Opd) (l:List Int),(∀ v∈l,0<=v/\v<1000003)->∀ v∈ops.foldl (rdF vs) l,0<=v/\v<1000003
 | [],l,hl=>hl
 | o::ops,l,hl=>jvh h ops _ (fun v hv=>by
  unfold rdF at hv
  split at hv
  .rcases f0i.1 hv with h1 | h1
   .exact hl v h1
   .rw [f0v.1 h1];exact j0s h _
  .exact hl v hv)
theorem jvi {x:Ins} {rd:List Int}:∀ (ops:List Opd) (k:Nat) {vs:List Int},jvg f vs->jvg f (jt8 seed x rd ops k vs)
 | [],_,_,h=>h
 | o::r,k,vs,h=>jvi r (k+1) (by
  split
  .exact h.set (jt6 _)
  .exact h)
theorem j0t:∀ (ps:List Nat) (xs:List Int) {vs:List Int},jvg f vs->(∀ v∈xs,0<=v/\v<1000003)->jvg f (j1c ps xs vs)
 | [],_,_,h,_=>by unfold j1c;exact h
 | _::_,[],_,h,_=>by unfold j1c;exact h
 | p::ps,x::xs,vs,h,hx=>by
  unfold j1c
  exact j0t ps xs (h.set (hx x (by simp))) (fun v hv=>hx v (by simp[hv]))
theorem j59 {d:Edg} (h:jvg f vs):jvg f (j3w f d vs):=j0t _ _ h (fun v hv=>by
 obtain⟨u,_,rfl⟩:=List.mem_map.1 hv
 exact j0s h.2 u)
theorem j2q {b:Blk} {x:Ins} (h:jvg f vs):jvg f (jht seed k b i x vs).2:=jvi _ _ h
theorem j2r {b:Blk} {x:Ins} {rd:List Int} (hi:i+1=b.instrs.length) (hb:b.edges≠[]):0<=jb9 seed b i x rd/\jb9 seed b i x rd<(b.edges.length:Int):=by
 have hl:0<b.edges.length:=f1h.2 hb
 unfold jb9
 rw[if_neg (by omega),if_neg (by omega)]
 split
 .omega
 .exact ⟨f2t _ (by omega),f2k _ (by omega)⟩
structure GoOk (f:Fc) (k i:Nat) (vs:List Int) (e:Int):Prop where
 vo:jvg f vs
 kb:k<f.blocks.length
 ib:i<=(f.blocks.getD k jdd).instrs.length
 eb:i=(f.blocks.getD k jdd).instrs.length->(f.blocks.getD k jdd).edges≠[]->0<=e/\e<((f.blocks.getD k jdd).edges.length:Int)
structure RnOk (f:Fc):Prop where
 nv:f.values.length<=160
 nb:f.blocks.length<=16
 blk:∀ b∈f.blocks,b.params.length<=5/\b.instrs.length<=40/\b.edges.length<=3
 par:∀ b∈f.blocks,1<b.edges.length->b.instrs≠[]
 edg:∀ b∈f.blocks,∀ d∈b.edges,∃ t,f.blocks[d.block]?=some t/\t.params.length=d.args.length/\(∀ v∈d.args,v<f.values.length)/\∀ v∈t.params,v<f.values.length
 ops:∀ b∈f.blocks,∀ x∈b.instrs,x.op<=255/\x.ops.length<=6/\∀ o∈x.ops,o.value<f.values.length
theorem RnOk.start (r:RnOk f) (hb:f.blocks≠[]):GoOk f 0 0 (List.replicate f.values.length 0) 0:=by
 have h0:0<f.blocks.length:=f1h.2 hb
 refine⟨⟨by simp,fun v hv=>by rw[(List.mem_replicate.1 hv).2];omega⟩,h0,f1o _,fun _ he=>⟨by omega,by have:=f1h.2 he;omega⟩⟩
theorem GoOk.next (g:GoOk f k i vs e) {x:Ins} (hx:(f.blocks.getD k jdd).instrs[i]?=some x):GoOk f k (i+1) (jht seed k (f.blocks.getD k jdd) i x vs).2 (jht seed k (f.blocks.getD k jdd) i x vs).1.edge:=by
 have hi:=(f0n.1 hx).1
 exact⟨j2q g.vo,g.kb,by omega,fun h1 h2=>j2r h1 h2⟩
theorem GoOk.jump (r:RnOk f) (g:GoOk f k i vs e) {d:Edg} (hd:(f.blocks.getD k jdd).edges[e.toNat]?=some d):GoOk f d.block 0 (j3w f d vs) 0:=by
 have hb:f.blocks.getD k jdd∈f.blocks:=by
  rw[f0c,f0f g.kb]
  exact f1y g.kb
 obtain⟨t,h1,_⟩:=r.edg _ hb d (f0h hd)
 exact⟨j59 g.vo,(f0n.1 h1).1,f1o _,fun _ he=>⟨by omega,by have:=f1h.2 he;omega⟩⟩
end Go.Proofs.Ytbogkjjoigfbjaa.Ms
