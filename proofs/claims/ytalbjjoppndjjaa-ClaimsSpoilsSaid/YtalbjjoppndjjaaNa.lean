/- Functions built of pieces: each instruction makes a value last; how great they are; what they are with a value or an instruction more. No program in sight. -/
import Derived.Test.YtalbjjoppndjjaaVd
namespace Go.Proofs.Ytalbjjoppndjjaa.Ms
set_option linter.all false
variable {m:Nat×Nat}
def LD (x:Ins):Prop:=∃ r o,x.ops=r++[o]/\o.kind=2
def AL (l:List Blk):Prop:=∀ b∈l,∀ x∈b.instrs,LD x
theorem jxr (p:Pc) (flags uses i:Nat) (x:Iw×Nat×Ms):∃ o:Opd,(jeq p flags uses i x).1.ops=x.1.ops++[o]/\o.kind=2/\(jeq p flags uses i x).2.2.blocks=x.2.2.blocks:=by
 unfold jeq
 simp only
 split
 .exact ⟨_,rfl,rfl,rfl⟩
 .exact ⟨_,rfl,rfl,rfl⟩
theorem jrx (p:Pc) (flags uses:Nat):∀ (k i:Nat) (x:Iw×Nat×Ms),(∃ (r:List Opd) (o:Opd),(jdu p flags uses (k+1) i x).1.ops=r++[o]/\o.kind=2)/\(jdu p flags uses (k+1) i x).2.2.blocks=x.2.2.blocks
 | 0,i,x=>by
  obtain⟨o,h1,h2,h3⟩:=jxr p flags uses i x
  exact⟨⟨_,o,h1,h2⟩,h3⟩
 | k+1,i,x=>by
  obtain⟨o,h1,h2,h3⟩:=jxr p flags uses i x
  have:=jrx p flags uses k (i+1) (jeq p flags uses i x)
  exact⟨this.1,this.2.trans h3⟩
theorem jl7 (w:Ms) (p:Pc):LD (jaz w p).1/\(jaz w p).2.blocks=w.blocks:=by
 unfold jaz
 simp only
 rw[Nat.add_comm 1]
 obtain⟨⟨r,o,h1,h2⟩,h3⟩:=jrx p (pk p.flags (2 ^ 30)) (jd8 w p (pk p.flags (2 ^ 30)) (if w.known=[] then 0 else pk p.flags (2 ^ 30) % 4) 0 ⟨[],pk p.limits (2 ^ 40),(0,0),(0,0)⟩).ops.length (pk p.flags (2 ^ 30) / 2 ^ 8 % 2) 0 (jd8 w p (pk p.flags (2 ^ 30)) (if w.known=[] then 0 else pk p.flags (2 ^ 30) % 4) 0 ⟨[],pk p.limits (2 ^ 40),(0,0),(0,0)⟩,(jd8 w p (pk p.flags (2 ^ 30)) (if w.known=[] then 0 else pk p.flags (2 ^ 30) % 4) 0 ⟨[],pk p.limits (2 ^ 40),(0,0),(0,0)⟩).ops.length,w)
 exact⟨⟨r,o,h1,h2⟩,h3⟩
theorem AL.modify {l:List Blk} (h:AL l) {k:Nat} {f:Blk->Blk} (hf:∀ b,(∀ x∈b.instrs,LD x)->∀ x∈(f b).instrs,LD x):AL (l.modify k f):=by
 intro b hb
 rcases jbl hb with hb | ⟨c,hc,_,rfl⟩
 .exact h b hb
 .exact hf c (h c hc)
theorem AL.lay {w:Ms} (h:AL w.blocks) (p:Pc):AL (jb7 w p).blocks:=by
 obtain⟨h1,h2⟩:=jl7 w p
 unfold jb7
 simp only[h2]
 exact h.modify (fun b hb x hx=>by
  rcases f0e.1 hx with hx | hx
  .exact hb x hx
  .rw [f0i.1 hx];exact h1)
theorem AL.block {w:Ms} (h:AL w.blocks) (cs:List Nat):AL (jaf w cs).blocks:=fun b hb x hx=>by
 rcases f0e.1 hb with hb | hb
 .exact h b hb x hx
 .rw [f0i.1 hb] at hx;simp at hx
theorem AL.edge {w:Ms} (h:AL w.blocks) (k to:Nat) (a:List Nat):AL (jaw w k to a).blocks:=h.modify (fun b hb=>hb)
theorem AL.newest {w:Ms} (h:AL w.blocks) (c:Nat) (p:Pc):AL (jab w c p).2.blocks:=by
 unfold jab
 split
 .exact h
 .exact h.lay _
theorem AL.way {w:Ms} (h:AL w.blocks) (p:Pc) (c n e k:Nat) (lay:Bool):AL (jgw p c n e k lay w).2.blocks:=by
 unfold jgw
 simp only
 refine AL.edge ?_ _ _ _
 refine AL.newest ?_ _ _
 refine AL.newest ?_ _ _
 split
 .exact AL.lay (w:={ w with cur:=k }) h _
 .exact h
theorem AL.fork {w:Ms} (h:AL w.blocks) (p:Pc):AL (jd9 w p).blocks:=by
 unfold jd9
 simp only
 refine AL.way ?_ _ _ _ _ _ _
 refine AL.way ?_ _ _ _ _ _ _
 exact((((h.lay p).block []).block []).block [pk p.c 2,0]).edge _ _ _ |>.edge _ _ _
theorem AL.loop {w:Ms} (h:AL w.blocks) (p:Pc):AL (jer w p).blocks:=by
 unfold jer
 simp only
 refine AL.edge ?_ _ _ _
 refine AL.newest ?_ _ _
 refine AL.newest ?_ _ _
 refine AL.lay ?_ _
 refine AL.edge ?_ _ _ _
 refine AL.edge ?_ _ _ _
 refine AL.block ?_ _
 refine AL.block ?_ _
 refine AL.lay ?_ _
 refine AL.edge ?_ _ _ _
 refine AL.block ?_ _
 refine AL.newest ?_ _ _
 exact AL.newest h _ _
theorem AL.piece {w:Ms} (h:AL w.blocks) (p:Pc):AL (jbj w p).blocks:=by
 unfold jbj
 simp only
 split
 .exact h.fork p
 .split
  .exact h.loop p
  .split
   .exact h.lay p
   .exact h
theorem AL.foldl:∀ {l:List Pc} {w:Ms},AL w.blocks->AL (l.foldl jbj w).blocks
 | [],_,h=>h
 | p::l,w,h=>AL.foldl (l:=l) (h.piece p)
theorem FcOk.value {f:Fc} (k:FcOk m f) (h:f.values.length<=159):FcOk m ⟨f.values++[0],f.blocks⟩ :=
 ⟨k.nb,by simp;omega,fun c hc=>by
  rcases f0e.1 hc with hc | hc
  .exact k.cls c hc
  .rw [f0i.1 hc];omega,k.blk,k.all,fun b hb x hx=>(k.ins b hb x hx).app [0],k.par,fun b hb e he=>by
  obtain⟨h1,h2,t,h3,h4,h5⟩:=k.edg b hb e he
  refine⟨h1,fun v hv=>by have:=h2 v hv;simp;omega,t,h3,?_,fun v hv=>by have:=h5 v hv;simp;omega⟩
  rw[f3l (fun v hv=>jrq (h5 v hv)),h4]
  exact(f3l (fun v hv=>jrq (h2 v hv))).symm,k.ent,fun b hb v hv=>by have:=k.prm b hb v hv;simp;omega⟩
theorem FcOk.instrs {f:Fc} (k:FcOk m f) {j:Nat} {g:List Ins->List Ins} (hg:∀ b∈f.blocks,(g b.instrs).length<=40/\(b.instrs≠[]->g b.instrs≠[])/\∀ x∈g b.instrs,InsOk m f.values x) (hs:sm (f.blocks.modify j (fun b=>{ b with instrs:=g b.instrs }))<=160):FcOk m ⟨f.values,f.blocks.modify j (fun b=>{ b with instrs:=g b.instrs })⟩:=by
 refine⟨by simp only[f1e];exact k.nb,k.nv,k.cls,fun b hb=>?_,hs,fun b hb=>?_,fun b hb=>?_,fun b hb e he=>?_,fun b hb=>?_,fun b hb=>?_⟩
 .rcases jbl hb with hb | ⟨c,hc,_,rfl⟩
  .exact k.blk b hb
  .have:=k.blk c hc;exact⟨this.1,(hg c hc).1,this.2.2⟩
 .rcases jbl hb with hb | ⟨c,hc,_,rfl⟩
  .exact k.ins b hb
  .exact (hg c hc).2.2
 .rcases jbl hb with hb | ⟨c,hc,_,rfl⟩
  .exact k.par b hb
  .exact fun h=>(hg c hc).2.1 (k.par c hc h)
 .have:jp0 f.values f.blocks e:=by
   rcases jbl hb with hb | ⟨c,hc,_,rfl⟩
   .exact k.edg b hb e he
   .exact k.edg c hc e he
  obtain⟨h1,h2,t,h3,h4,h5⟩:=this
  obtain⟨t',h6,h7⟩:=jgt (k:=j) (f:=fun b=>{ b with instrs:=g b.instrs }) (fun _=>rfl) h3
  exact⟨h1,h2,t',h6,by rw[h7];exact h4,by rw[h7];exact h5⟩
 .obtain ⟨t,ht,e⟩:=jf0 (f:=fun b=>{ b with instrs:=g b.instrs }) (fun _=>rfl) hb
  rw[e];exact k.ent t ht
 .rcases jbl hb with hb | ⟨c,hc,_,rfl⟩
  .exact k.prm b hb
  .exact k.prm c hc
end Go.Proofs.Ytalbjjoppndjjaa.Ms
