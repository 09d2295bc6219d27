/- Graphs of functions built of pieces. -/
import Derived.Test.YtkpadfebkaangaaGreatDoorGb
import Derived.Test.YtkpadfebkaangaaGreatDoorGe
namespace Go.Proofs.YtkpadfebkaangaaGreatDoor.Ms
set_option linter.all false
variable {d i v:Nat}
def qi1 (b:Blk):List Nat:=b.edges.map (·.block)
def grL (l:List Blk):List (List Nat):=l.map qi1
theorem qn5 (l:List Blk) (k:Nat) (x:Ins):grL (jax l k x)=grL l:=by
 unfold grL jax
 apply f2s
 intro i
 rw[f09,f09,f1n]
 cases l[i]? with
 | none=>rfl
 | some b=>by_cases h:k=i<;>simp[h,qi1]
theorem qgd (l:List Blk) (k to:Nat) (args:List Nat):grL (l.modify k (fun b=>{ b with edges:=b.edges++[(⟨to,args⟩:Edg)] }))=(grL l).modify k (·++[to]):=by
 unfold grL
 apply f2s
 intro i
 rw[f09,f1n,f1n,f09]
 cases l[i]? with
 | none=>rfl
 | some b=>by_cases h:k=i<;>simp[h,qi1]
theorem jzi (w:Ms) (p:Pc):(ja4 w p).2.blocks=w.blocks/\(ja4 w p).2.cur=w.cur:=by
 have hd:∀ (flags uses d i:Nat) (x:Iw×Nat×Ms),(jeb p flags uses d i x).2.2.blocks=x.2.2.blocks/\(jeb p flags uses d i x).2.2.cur=x.2.2.cur:=by
  intro flags uses d
  induction d with
  | zero=>exact fun i x=>⟨rfl,rfl⟩
  | succ d ih =>
   intro i x
   have e:(jfm p flags uses i x).2.2.blocks=x.2.2.blocks/\(jfm p flags uses i x).2.2.cur=x.2.2.cur:=by
    unfold jfm;simp only;split<;>exact⟨rfl,rfl⟩
   exact⟨(ih (i+1) (jfm p flags uses i x)).1.trans e.1,(ih (i+1) (jfm p flags uses i x)).2.trans e.2⟩
 unfold ja4
 exact hd _ _ _ _ _
theorem jha (w:Ms) (p:Pc):grL (jcp w p).blocks=grL w.blocks/\(jcp w p).cur=w.cur:=by
 have h:=jzi w p
 unfold jcp
 simp only[h.1,h.2]
 exact⟨qn5 _ _ _,trivial⟩
theorem jgo (w:Ms) (cls:Nat) (p:Pc):grL (jac w cls p).2.blocks=grL w.blocks/\(jac w cls p).2.cur=w.cur:=by
 unfold jac
 split
 .exact ⟨rfl,rfl⟩
 .exact jha w _
theorem jnh (w:Ms) (cs:List Nat):grL (jag w cs).blocks=grL w.blocks++[[]]:=by
 unfold grL jag;simp[qi1]
theorem jl4 (w:Ms) (k to:Nat) (args:List Nat):grL (jay w k to args).blocks=(grL w.blocks).modify k (·++[to]):=qgd _ _ _ _
theorem qi2 (p:Pc) (cls before e k:Nat) (lay:Bool) (w:Ms):grL (jif p cls before e k lay w).2.blocks=(grL w.blocks).modify k (·++[e]):=by
 unfold jif
 simp only
 rw[jl4,(jgo _ _ _).1,(jgo _ _ _).1]
 cases lay with
 | true=>simp only[if_true];rw[(jha _ _).1]
 | false=>rfl
theorem jd4 (l:List Blk):(grL l).length=l.length:=f03 _
theorem jkg (w:Ms) (p:Pc):(jcp w p).blocks.length=w.blocks.length:=by rw[←jd4,(jha w p).1,jd4]
theorem jpz (w:Ms) (cls:Nat) (p:Pc):(jac w cls p).2.blocks.length=w.blocks.length:=by rw[←jd4,(jgo w cls p).1,jd4]
theorem jji {α:Type} {l r:List α} {k:Nat} {f:α->α} (h:k<l.length):(l++r).modify k f=l.modify k f++r:=by
 apply f2s
 intro i
 rw[f1n]
 rcases f0n i l.length with h1 | h1
 .rw [f07 h1,f07 (by rw[f1d];exact h1),f1n]
 .rw [f0x h1,f0x (by rw[f1d];exact h1),f1d]
  have:¬ k=i:=oa
  cases r[i - l.length]?<;>simp[this]
theorem jek {α:Type} {l r:List α} {k:Nat} {f:α->α}:(l++r).modify (l.length+k) f=l++r.modify k f:=by
 apply f2s
 intro i
 rw[f1n]
 rcases f0n i l.length with h1 | h1
 .rw [f07 h1,f07 h1]
  have:¬ l.length+k=i:=oa
  cases l[i]?<;>simp[this]
 .rw [f0x h1,f0x h1,f1n]
  by_cases h2:k=i - l.length
  .have:l.length+(i - l.length)=i:=oa
   subst h2
   cases r[i - l.length]?<;>simp[this]
  .have:¬ l.length+k=i:=oa
   cases r[i - l.length]?<;>simp[this,h2]
structure Gok (w:Ms) (s:List Bool):Prop where
 g:grL w.blocks=gS s
 cur:w.cur+1=w.blocks.length
theorem qaw (s:List Bool) (b:Bool):gS (s++[b])=j5w (gS s) b:=by unfold gS;rw[List.foldl_append];rfl
theorem j16:∀ (s:List Bool),(gS s).length=1+3*s.length:=fun s=>by
 have h:∀ (s:List Bool) (g:List (List Nat)),(s.foldl j5w g).length=g.length+3*s.length:=by
  intro s
  induction s with
  | nil=>intro g;simp
  | cons b s ih =>
   intro g
   rw[f25,ih]
   unfold j5w
   cases b<;>simp<;>omega
 exact h s [[]]
theorem Gok.fork {w:Ms} {s:List Bool} (k:Gok w s) (p:Pc):Gok (jfn w p) (s++[false]):=by
 have hl:(gS s).length=w.blocks.length:=by rw[←k.g,jd4]
 have hc:=k.cur
 refine⟨?_,?_⟩
 .unfold jfn
  simp only[qi2,jl4,jnh,jkg,(jha w p).1,(jha w p).2,k.g]
  rw[qaw]
  unfold j5w
  simp only
  rw[hl]
  rw[f0g,f0g]
  have e1:w.cur=w.blocks.length - 1:=oa
  rw[jji oa,jji (by rw[f1d];omega)]
  have e2:((gS s).modify w.cur (·++[w.blocks.length])).modify w.cur (·++[w.blocks.length+1])=(gS s).modify (w.blocks.length - 1) (·++[w.blocks.length,w.blocks.length+1]):=by
   rw[e1]
   apply f2s
   intro i
   simp only[f1n]
   cases (gS s)[i]? with
   | none=>rfl
   | some x=>by_cases h:w.blocks.length - 1=i<;>simp[h]
  rw[e2]
  have hl2:((gS s).modify (w.blocks.length - 1) (·++[w.blocks.length,w.blocks.length+1])).length=w.blocks.length:=by rw[f1d];exact hl
  generalize (gS s).modify (w.blocks.length - 1) (·++[w.blocks.length,w.blocks.length+1])=g at *
  have e3:=jek (l:=g) (r:=[[],[],[]]) (k:=0) (f:=(·++[w.blocks.length+2]))
  have e4:=jek (l:=g) (r:=[[w.blocks.length+2],[],[]]) (k:=1) (f:=(·++[w.blocks.length+2]))
  rw[hl2] at e3 e4
  rw[f1z] at e3
  refine(congrArg (fun l=>List.modify l (w.blocks.length+1) (·++[w.blocks.length+2])) e3).trans ?_
  exact e4
 .have h:(jfn w p).blocks.length=w.blocks.length+3:=by
   rw[←jd4]
   unfold jfn
   simp only[qi2,jl4,jnh,(jha w p).1,f1d,f0d,jd4,f0i,f00]
  rw[h]
  unfold jfn
  simp only[jkg]
theorem Gok.loop {w:Ms} {s:List Bool} (k:Gok w s) (p:Pc):Gok (jgl w p) (s++[true]):=by
 have hl:(gS s).length=w.blocks.length:=by rw[←k.g,jd4]
 have hc:=k.cur
 have hb:∀ (u:Ms) (cs:List Nat),(jag u cs).blocks.length=u.blocks.length+1:=fun u cs=>by simp[jag]
 have he:∀ (u:Ms) (k to:Nat) (a:List Nat),(jay u k to a).blocks.length=u.blocks.length:=fun u k to a=>by simp[jay]
 have hbc:∀ (u:Ms) (cs:List Nat),(jag u cs).cur=u.cur:=fun u cs=>rfl
 refine⟨?_,?_⟩
 .unfold jgl
  simp only[jl4,(jgo _ _ _).1,(jha _ _).1,jnh,jpz,jkg,hb,he,hbc,(jgo _ _ _).2,(jha _ _).2,k.g]
  rw[qaw]
  unfold j5w
  simp only
  rw[hl]
  have e1:w.cur=w.blocks.length - 1:=oa
  rw[jji (l:=gS s) (r:=[[]]) (k:=w.cur) oa,e1]
  have hl2:((gS s).modify (w.blocks.length - 1) (·++[w.blocks.length])).length=w.blocks.length:=by rw[f1d];exact hl
  generalize (gS s).modify (w.blocks.length - 1) (·++[w.blocks.length])=g at *
  rw[f0g,f0g]
  have e3:=jek (l:=g) (r:=[[],[],[]]) (k:=0) (f:=(·++[w.blocks.length+1]))
  have e4:=jek (l:=g) (r:=[[w.blocks.length+1],[],[]]) (k:=0) (f:=(·++[w.blocks.length+1+1]))
  have e5:=jek (l:=g) (r:=[[w.blocks.length+1,w.blocks.length+2],[],[]]) (k:=1) (f:=(·++[w.blocks.length]))
  rw[hl2] at e3 e4 e5
  rw[f1z] at e3 e4
  refine(congrArg (fun l=>List.modify (List.modify l w.blocks.length (·++[w.blocks.length+1+1])) (w.blocks.length+1) (·++[w.blocks.length])) e3).trans ?_
  refine(congrArg (fun l=>List.modify l (w.blocks.length+1) (·++[w.blocks.length])) e4).trans ?_
  exact e5
 .have h:(jgl w p).blocks.length=w.blocks.length+3:=by
   rw[←jd4]
   unfold jgl
   simp only[jl4,(jgo _ _ _).1,(jha _ _).1,jnh,f1d,f0d,jd4,f0i,f00]
  rw[h]
  unfold jgl
  simp only[jl4,jpz,jkg,hb,he]
inductive Dom (idom:List Int) (a:Nat):Int->Prop
 | refl:Dom idom a a
 | step {b:Nat} {c:Int}:idom[b]?=some c->Dom idom a c->Dom idom a b
theorem Dom.app {idom r:List Int} {a:Nat} {b:Int} (h:Dom idom a b):Dom (idom++r) a b:=by
 induction h with
 | refl=>exact .refl
 | @step b c h1 _ ih =>
  refine .step  ?_ ih
  grind
def jzj (l:List Blk) (v b:Nat) (n:Int):Prop:=∃ x,l[b]?=some x/\((n=-1/\v∈x.params)∨∃ (i:Nat) (y:Ins),n=(i:Int)/\x.instrs[i]?=some y/\v∈jdb y)
def jto (idom:List Int) (l:List Blk) (v k i:Nat):Prop:=∃ b n,jzj l v b n/\((b=k/\n<(i:Int))∨(b≠k/\Dom idom b k))
def Ext (l l':List Blk):Prop:=∀ (k:Nat) (b:Blk),l[k]?=some b->∃ b',l'[k]?=some b'/\b'.params=b.params/\∃ r,b'.instrs=b.instrs++r
theorem Ext.refl (l:List Blk):Ext l l:=fun k b h=>⟨b,h,rfl,[],se⟩
theorem Ext.trans {a b c:List Blk} (x:Ext a b) (y:Ext b c):Ext a c:=fun k t h=>by
 obtain⟨t1,h1,e1,r1,f1⟩:=x k t h
 obtain⟨t2,h2,e2,r2,f2⟩:=y k t1 h1
 grind
theorem qn6 {α:Type} {l r:List α} {x:α} (h:l[i]?=some x):(l++r)[i]?=some x:=by
 grind
theorem jzj.ext {l l':List Blk} (e:Ext l l') {b:Nat} {n:Int} (h:jzj l v b n):jzj l' v b n:=by
 obtain⟨x,h1,h2⟩:=h
 obtain⟨x',h3,h4,r,h5⟩:=e b x h1
 refine⟨x',h3,?_⟩
 grind
theorem jto.ext {idom:List Int} {l l':List Blk} (e:Ext l l') {k:Nat} (h:jto idom l v k i):jto idom l' v k i:=by
 obtain⟨b,n,h1,h2⟩:=h
 exact⟨b,n,h1.ext e,h2⟩
theorem jto.le {idom:List Int} {l:List Blk} {k j:Nat} (h:jto idom l v k i) (hij:i<=j):jto idom l v k j:=by
 obtain⟨b,n,h1,h2⟩:=h
 exact⟨b,n,h1,h2.imp (fun h=>⟨h.1,oa⟩) id⟩
theorem jto.app {idom r:List Int} {l:List Blk} {k:Nat} (h:jto idom l v k i):jto (idom++r) l v k i:=by
 obtain⟨b,n,h1,h2⟩:=h
 exact⟨b,n,h1,h2.imp id fun h=>⟨h.1,h.2.app⟩⟩
def KnW (idom:List Int) (l:List Blk) (cur v:Nat):Prop:=∃ b n,jzj l v b n/\Dom idom b cur
theorem KnW.ext {idom:List Int} {l l':List Blk} (e:Ext l l') {c:Nat} (h:KnW idom l c v):KnW idom l' c v:=by
 obtain⟨b,n,h1,h2⟩:=h
 exact⟨b,n,h1.ext e,h2⟩
theorem KnW.down {idom:List Int} {l:List Blk} {c:Nat} (h:KnW idom l c v) (hd:idom[d]?=some (c:Int)):KnW idom l d v:=by
 obtain⟨b,n,h1,h2⟩:=h
 exact⟨b,n,h1,.step hd h2⟩
theorem KnW.at {idom:List Int} {l:List Blk} {c:Nat} (h:KnW idom l c v) {x:Blk} (hx:l[c]?=some x):jto idom l v c x.instrs.length:=by
 obtain⟨b,n,h1,h2⟩:=h
 refine⟨b,n,h1,?_⟩
 by_cases e:b=c
 .obtain ⟨y,h3,h4⟩:=h1
  grind
 grind
structure Kok (idom:List Int) (w:Ms):Prop where
 kn:∀ v∈w.known,KnW idom w.blocks w.cur v
 us:∀ (k i:Nat) (b:Blk) (x:Ins) (o:Opd),w.blocks[k]?=some b->b.instrs[i]?=some x->o∈x.ops->o.kind=1->jto idom w.blocks o.value k i
 ed:∀ (k:Nat) (b:Blk) (e:Edg) (v:Nat),w.blocks[k]?=some b->e∈b.edges->v∈e.args->jto idom w.blocks v k b.instrs.length
theorem Kok.app {idom r:List Int} {w:Ms} (k:Kok idom w):Kok (idom++r) w :=
 ⟨fun v hv=>(k.kn v hv).imp fun b ⟨n,h1,h2⟩=>⟨n,h1,h2.app⟩,fun a i b x o h1 h2 h3 h4=>(k.us a i b x o h1 h2 h3 h4).app,fun a b e v h1 h2 h3=>(k.ed a b e v h1 h2 h3).app⟩
theorem Kok.set {idom:List Int} {w:Ms} (k:Kok idom w) {c:Nat} {kn:List Nat} (h:∀ v∈kn,KnW idom w.blocks c v):Kok idom { w with cur:=c,known:=kn }:=⟨h,k.us,k.ed⟩
theorem qn7 {l:List Blk} (k:Nat) (x:Ins):Ext l (jax l k x):=fun j b h=>by
 unfold jax
 by_cases e:k=j
 .simp_all
 simp_all
theorem qge {l:List Blk} (k:Nat) (f:List Edg->List Edg):Ext l (l.modify k (fun b=>{ b with edges:=f b.edges })):=fun j b h=>by
 by_cases e:k=j
 .simp_all
 simp_all
theorem qax {l:List Blk} (b:Blk):Ext l (l++[b]):=fun j x h=>⟨x,qn6 h,rfl,[],se⟩
theorem Kok.lay {idom:List Int} {w:Ms} (k:Kok idom w) (v:Vok w) (p:Pc):Kok idom (jcp w p)/\Ext w.blocks (jcp w p).blocks:=by
 obtain⟨cs,h1,h2,h3,h4,h5,h6,h7⟩:=jwr v.mm v.cls v.kn p
 have hcur:=v.cur
 obtain⟨c,hc⟩:∃ c,w.blocks[w.cur]?=some c:=⟨_,f0b hcur⟩
 unfold jcp
 simp only[h3]
 obtain⟨x,hx⟩:∃ x,(ja4 w p).1=x:=⟨_,rfl⟩
 rw[hx] at h5 h7 ⊢
 have ex:Ext w.blocks (jax w.blocks w.cur x):=qn7 _ _
 have hnew:(jax w.blocks w.cur x)[w.cur]?=some { c with instrs:=c.instrs++[x] }:=by
  unfold jax;rw[f1n,hc];simp
 have back:∀ (j:Nat) (b:Blk),(jax w.blocks w.cur x)[j]?=some b->(j≠w.cur/\w.blocks[j]?=some b)∨(j=w.cur/\b={ c with instrs:=c.instrs++[x] }):=fun j b hb=>by
  by_cases e:j=w.cur
  .right;subst e;rw[hnew] at hb;exact⟨rfl,(Option.some.inj hb).symm⟩
  .left
   refine⟨e,?_⟩
   unfold jax at hb
   rw[f1n] at hb
   have e':¬ w.cur=j:=fun h=>e h.symm
   cases h:w.blocks[j]? with
   | none=>rw[h] at hb;cases hb
   | some y=>rw[h] at hb;simpa[e'] using hb
 refine⟨⟨fun u hu=>?_,fun j i b y o hb hy ho hk=>?_,fun j b e u hb he hu=>?_⟩,ex⟩
 .simp only at hu ⊢
  rcases f0e.1 hu with hu | hu
  .exact (k.kn u hu).ext ex
  .exact ⟨w.cur,c.instrs.length,⟨_,hnew,.inr ⟨c.instrs.length,x,rfl,se,hu⟩⟩,.refl⟩
 .simp only at hb ⊢
  rcases back j b hb with⟨_,hb⟩ | ⟨rfl,rfl⟩
  .exact (k.us j i b y o hb hy ho hk).ext ex
  .simp only at hy
   rcases jf3 hy with⟨_,hy⟩ | ⟨rfl,rfl⟩
   .exact (k.us _ i c y o hc hy ho hk).ext ex
   .exact ((k.kn _ (h7 o ho hk)).at hc).ext ex
 .simp only at hb ⊢
  rcases back j b hb with⟨_,hb⟩ | ⟨rfl,rfl⟩
  .exact (k.ed j b e u hb he hu).ext ex
  .exact ((k.ed _ c e u hc he hu).ext ex).le se
theorem Kok.block {idom:List Int} {w:Ms} (k:Kok idom w) (cs:List Nat):Kok idom (jag w cs)/\Ext w.blocks (jag w cs).blocks:=by
 have ex:Ext w.blocks (jag w cs).blocks:=qax _
 have back:∀ (j:Nat) (b:Blk),(jag w cs).blocks[j]?=some b->w.blocks[j]?=some b∨b.instrs=[]/\b.edges=[]:=fun j b hb=>by
  rcases jf3 hb with⟨_,h⟩ | ⟨_,rfl⟩
  .grind
  simp
 refine⟨⟨fun u hu=>(k.kn u hu).ext ex,fun j i b y o hb hy ho hk=>?_,fun j b e u hb he hu=>?_⟩,ex⟩
 .rcases back j b hb with hb | ⟨hb,_⟩
  .exact (k.us j i b y o hb hy ho hk).ext ex
  grind
 .rcases back j b hb with hb | ⟨_,hb⟩
  .exact (k.ed j b e u hb he hu).ext ex
  grind
theorem Kok.edge {idom:List Int} {w:Ms} (k:Kok idom w) {j to:Nat} {args:List Nat} (hj:j<w.blocks.length) (ha:args=[]∨j=w.cur) (hk:∀ u∈args,KnW idom w.blocks j u):Kok idom (jay w j to args)/\Ext w.blocks (jay w j to args).blocks:=by
 have ex:Ext w.blocks (jay w j to args).blocks:=qge j (fun l=>l++[⟨to,args⟩])
 have back:∀ (i:Nat) (b:Blk),(jay w j to args).blocks[i]?=some b->∃ b',w.blocks[i]?=some b'/\b.instrs=b'.instrs/\∀ e∈b.edges,e∈b'.edges∨i=j/\e=⟨to,args⟩:=fun i b hb=>by
  unfold jay at hb
  grind
 refine⟨⟨fun u hu=>(k.kn u hu).ext ex,fun i n b y o hb hy ho hk=>?_,fun i b e u hb he hu=>?_⟩,ex⟩
 .obtain ⟨b',h1,h2,_⟩:=back i b hb
  exact(k.us i n b' y o h1 (h2▸hy) ho hk).ext ex
 .obtain ⟨b',h1,h2,h3⟩:=back i b hb
  rw[h2]
  rcases h3 e he with h4 | ⟨rfl,rfl⟩
  .exact (k.ed i b' e u h1 h4 hu).ext ex
  .exact ((hk u hu).at h1).ext ex
theorem Kok.newest {idom:List Int} {w:Ms} (k:Kok idom w) (v:Vok w) {cls:Nat} (hc:cls<2) (p:Pc):Kok idom (jac w cls p).2/\Ext w.blocks (jac w cls p).2.blocks:=by
 unfold jac
 split
 .grind[Ext.refl]
 .exact k.lay v _
section
variable {w:Ms} {nv nb s:Nat} {L E:Nat->Nat} {idom:List Int}
theorem KnW.all {l l':List Blk} (e:Ext l l') {c:Nat} {kn:List Nat} (h:∀ u∈kn,KnW idom l c u) (hd:idom[d]?=some (c:Int)):∀ u∈kn,KnW idom l' d u:=fun u hu=>((h u hu).ext e).down hd
theorem Kok.setk (k:Kok idom w) {kn:List Nat} (h:∀ v∈kn,KnW idom w.blocks w.cur v):Kok idom { w with known:=kn }:=⟨h,k.us,k.ed⟩
theorem qi3 (b:Bd w nv nb s L E) (kk:Kok idom w) {cls:Nat} (hc:cls<2) (p:Pc) {e k:Nat} (lay:Bool) (hk:k<nb) (he:1<=e) (ht:Tg w e [cls,0]) (hE:E k=0) {c:Nat} (hd:idom[k]?=some (c:Int)) (hkn:∀ u∈w.known,KnW idom w.blocks c u) :
 Kok idom (jif p cls w.known.length e k lay w).2/\(jif p cls w.known.length e k lay w).2.known=w.known/\Ext w.blocks (jif p cls w.known.length e k lay w).2.blocks/\(jif p cls w.known.length e k lay w).2.cur=k:=by
 have b0:Bd { w with cur:=k } nv nb s L E:=b.set (kn:=w.known) hk b.v.kn
 have k0:Kok idom { w with cur:=k }:=kk.set (kn:=w.known) (KnW.all (Ext.refl _) hkn hd)
 obtain⟨q,hq⟩:∃ q:Pc,(if lay then { { p with a:=inc p.a } with op:=inc p.op } else { p with a:=inc p.a })=q:=⟨_,rfl⟩
 have h1:∃ w1,(if lay then jcp { w with cur:=k } q else { w with cur:=k })=w1/\Bd w1 (nv+2) nb (s+1) (up L k) E/\Gr w w1/\w1.cur=k/\(∃ r,w1.known=w.known++r)/\Kok idom w1/\Ext w.blocks w1.blocks:=by
  cases lay with
  | true =>
   obtain⟨a1,a2,a3,a4,r,a5⟩:=b0.lay q
   obtain⟨c1,c2⟩:=k0.lay b0.v q
   exact⟨_,rfl,a1,(Gr.set w k w.known).trans a2,a3,⟨r,a5⟩,c1,c2⟩
  | false=>exact⟨_,rfl,b0.le oa oa (fun j=>by unfold up;omega),Gr.set w k w.known,rfl,⟨[],se⟩,k0,Ext.refl _⟩
 obtain⟨w1,e1,b1,g1,c1,⟨r1,k1⟩,o1,x1⟩:=h1
 obtain⟨b2,g2,c2,l2,d2,r2,k2⟩:=b1.newest hc q
 obtain⟨o2,x2⟩:=o1.newest b1.v hc q
 have m2:=(jg1 b1.v hc q).2.2.2.2.2.2.2.2.1
 obtain⟨b3,g3,c3,l3,d3,r3,k3⟩:=b2.newest (cls:=0) oa q
 obtain⟨o3,x3⟩:=o2.newest b2.v (cls:=0) oa q
 have m3:=(jg1 b2.v (cls:=0) oa q).2.2.2.2.2.2.2.2.1
 have c4:(jac (jac w1 cls q).2 0 q).2.cur=k:=c3.trans (c2.trans c1)
 have kv:KnW idom (jac (jac w1 cls q).2 0 q).2.blocks k (jac w1 cls q).1:=by
  have:=o3.kn (jac w1 cls q).1 (by rw[k3];exact f08 _ m2)
  rwa [c4] at this
 have kz:KnW idom (jac (jac w1 cls q).2 0 q).2.blocks k (jac (jac w1 cls q).2 0 q).1:=by
  have:=o3.kn _ m3
  rwa [c4] at this
 obtain⟨o4,x4⟩:=o3.edge (j:=k) (to:=e) (args:=[(jac w1 cls q).1,(jac (jac w1 cls q).2 0 q).1]) (by rw[b3.nb];exact hk) (.inr c4.symm) (fun u hu=>by
  simp only[f0f,f1e,or_false] at hu
  rcases hu with rfl | rfl<;>assumption)
 have eq:(jif p cls w.known.length e k lay w).2={ (jay (jac (jac w1 cls q).2 0 q).2 k e [(jac w1 cls q).1,(jac (jac w1 cls q).2 0 q).1]) with known:=(jay (jac (jac w1 cls q).2 0 q).2 k e [(jac w1 cls q).1,(jac (jac w1 cls q).2 0 q).1]).known.take w.known.length }:=by
  unfold jif
  simp only[hq,e1]
 have xx:=((x1.trans x2).trans x3).trans x4
 have hkw:(jay (jac (jac w1 cls q).2 0 q).2 k e [(jac w1 cls q).1,(jac (jac w1 cls q).2 0 q).1]).known.take w.known.length=w.known:=by
  simp only[jay,k3,k2,k1,f0g,List.take_left]
 rw[eq,hkw]
 refine⟨?_,rfl,xx,c4⟩
 have hcur:(jay (jac (jac w1 cls q).2 0 q).2 k e [(jac w1 cls q).1,(jac (jac w1 cls q).2 0 q).1]).cur=k:=c4
 exact o4.setk (fun u hu=>by rw[hcur];exact KnW.all xx hkn hd u hu)
theorem qn8 (b:Bd w nv nb s L E) (kk:Kok idom w) (h0:E w.cur=0) (p:Pc) (i1:idom[nb]?=some (w.cur:Int)) (i2:idom[nb+1]?=some (w.cur:Int)) (i3:idom[nb+2]?=some (w.cur:Int)):Kok idom (jfn w p):=by
 have hc:pk p.c 2<2:=pkl oa
 obtain⟨w1,e1⟩:∃ w1,jcp w p=w1:=⟨_,rfl⟩
 obtain⟨b1,g1,c1,n1,r1,k1⟩:=b.lay p
 obtain⟨o1,x1⟩:=kk.lay b.v p
 rw[e1] at b1 g1 c1 n1 k1 o1 x1
 have hcur:w.cur<nb:=by rw[←b.nb];exact b.v.cur
 obtain⟨w4,e4⟩:∃ w4,jag (jag (jag w1 []) []) [pk p.c 2,0]=w4:=⟨_,rfl⟩
 obtain⟨b2,g2,t2⟩:=b1.block (cs:=[]) se se
 obtain⟨b3,g3,t3⟩:=b2.block (cs:=[]) se se
 obtain⟨b4,g4,t4⟩:=b3.block (cs:=[pk p.c 2,0]) se (fun c h=>by
  simp only[f0f,f1e,or_false] at h;omega)
 obtain⟨o2,x2⟩:=o1.block []
 obtain⟨o3,x3⟩:=o2.block []
 obtain⟨o4,x4⟩:=o3.block [pk p.c 2,0]
 have kn4:w4.known=w1.known:=by rw[←e4];rfl
 have cu4:w4.cur=w.cur:=by rw[←e4];exact c1
 have end4:w4.blocks[nb+2]?=some ⟨List.range' (jag (jag w1 []) []).values.length 2,[],[]⟩:=by
  rw[←e4]
  unfold jag
  simp only
  rw[f0x (by simp[b1.nb])]
  simp[b1.nb]
 rw[e4] at b4 g4 t4 o4 x4
 have g14:=(g2.trans g3).trans g4
 have ta:Tg w4 nb []:=(t2.gr g3).gr g4
 have tb:Tg w4 (nb+1) []:=t3.gr g4
 obtain⟨b5,g5⟩:=b4.edge (k:=w.cur) (to:=nb) (args:=[]) oa oa ta rfl se (.inl h0)
 obtain⟨o5,x5⟩:=o4.edge (j:=w.cur) (to:=nb) (args:=[]) (by rw[b4.nb];omega) (.inl rfl) se
 obtain⟨b6,g6⟩:=b5.edge (k:=w.cur) (to:=nb+1) (args:=[]) oa oa (tb.gr g5) rfl se (.inr (by
  have:=(g14.trans g5).len w.cur;omega))
 obtain⟨o6,x6⟩:=o5.edge (j:=w.cur) (to:=nb+1) (args:=[]) (by rw[b5.nb];omega) (.inl rfl) se
 obtain⟨w6,e6⟩:∃ w6,jay (jay w4 w.cur nb []) w.cur (nb+1) []=w6:=⟨_,rfl⟩
 have kn6:w6.known=w1.known:=by rw[←e6];exact kn4
 have cu6:w6.cur=w.cur:=by rw[←e6];exact cu4
 rw[e6] at b6 g6 o6 x6
 have t6:Tg w6 (nb+2) [pk p.c 2,0]:=(t4.gr g5).gr g6
 have z1:up (up E w.cur) w.cur nb=0:=by rw[jfh oa,jfh oa];exact(b.e0 (f0h _)).1
 have hkn6:∀ u∈w6.known,KnW idom w6.blocks w.cur u:=fun u hu=>by have:=o6.kn u hu;rwa [cu6] at this
 obtain⟨b7,g7,r7,k7⟩:=b6.way hc p w1.known.length (e:=nb+2) (k:=nb) true oa oa t6 z1
 obtain⟨o7,kn7,x7,cu7⟩:=qi3 b6 o6 hc p (e:=nb+2) (k:=nb) true oa oa t6 z1 i1 hkn6
 rw[kn6] at o7 kn7 x7 cu7
 obtain⟨x,ex⟩:∃ x,jif p (pk p.c 2) w1.known.length (nb+2) nb true w6=x:=⟨_,rfl⟩
 rw[ex] at b7 g7 k7 o7 kn7 x7 cu7
 have z2:up (up (up E w.cur) w.cur) nb (nb+1)=0:=by rw[jfh oa,jfh oa,jfh oa];exact(b.e0 oa).1
 have hkn7:∀ u∈x.2.known,KnW idom x.2.blocks w.cur u:=fun u hu=>(hkn6 u (by rw[kn6];exact kn7▸hu)).ext x7
 obtain⟨o8,kn8,x8,cu8⟩:=qi3 b7 o7 hc x.1 (e:=nb+2) (k:=nb+1) (decide (pk p.flags 2=1)) oa oa (t6.gr g7) z2 i2 hkn7
 rw[kn7] at o8 kn8 x8 cu8
 obtain⟨y,ey⟩:∃ y,jif x.1 (pk p.c 2) w1.known.length (nb+2) (nb+1) (decide (pk p.flags 2=1)) x.2=y:=⟨_,rfl⟩
 rw[ey] at o8 kn8 x8 cu8
 have eq:jfn w p={ y.2 with cur:=nb+2,known:=y.2.known++(y.2.blocks.getD (nb+2) jg9).params }:=by
  unfold jfn
  simp only[e1,c1,b1.nb,e4,e6,ex,ey]
  rfl
 rw[eq]
 obtain⟨t,ht,hp,_⟩:=(((x5.trans x6).trans x7).trans x8) _ _ end4
 refine o8.set (fun u hu=>?_)
 rcases f0e.1 hu with hu | hu
 .exact ((hkn7 u (by rw[kn7];exact kn8▸hu)).ext x8).down i3
 .rw [f0p,ht] at hu
  exact⟨nb+2,-1,⟨t,ht,.inl ⟨rfl,hu⟩⟩,.refl⟩
end
section
variable {w:Ms} {nv nb s:Nat} {L E:Nat->Nat} {idom:List Int}
theorem qn9 (b:Bd w nv nb s L E) (kk:Kok idom w) (h0:E w.cur=0) (p:Pc) (i1:idom[nb]?=some (w.cur:Int)) (i2:idom[nb+1]?=some (nb:Int)) (i3:idom[nb+1+1]?=some (nb:Int)):Kok idom (jgl w p):=by
 have hc:pk p.c 2<2:=pkl oa
 have hcur:w.cur<nb:=by rw[←b.nb];exact b.v.cur
 obtain⟨b1,g1,c1,l1,d1,r1,k1⟩:=b.newest hc p
 obtain⟨o1,x1⟩:=kk.newest b.v hc p
 have m1:=(jg1 b.v hc p).2.2.2.2.2.2.2.2.1
 obtain⟨v,ev⟩:∃ v,jac w (pk p.c 2) p=v:=⟨_,rfl⟩
 rw[ev] at b1 g1 c1 l1 d1 k1 o1 x1 m1
 obtain⟨b2,g2,c2,l2,d2,r2,k2⟩:=b1.newest (cls:=0) oa p
 obtain⟨o2,x2⟩:=o1.newest b1.v (cls:=0) oa p
 have m2:=(jg1 b1.v (cls:=0) oa p).2.2.2.2.2.2.2.2.1
 obtain⟨u,eu⟩:∃ u,jac v.2 0 p=u:=⟨_,rfl⟩
 rw[eu] at b2 g2 c2 l2 d2 k2 o2 x2 m2
 rw[c1] at b2 c2
 obtain⟨b3,g3,t3⟩:=b2.block (cs:=[pk p.c 2,0]) se (fun c h=>by
  simp only[f0f,f1e,or_false] at h;omega)
 obtain⟨o3,x3⟩:=o2.block [pk p.c 2,0]
 obtain⟨w3,e3⟩:∃ w3,jag u.2 [pk p.c 2,0]=w3:=⟨_,rfl⟩
 have c3:(jag u.2 [pk p.c 2,0]).cur=w.cur:=c2
 have k3:(jag u.2 [pk p.c 2,0]).known=u.2.known:=rfl
 have end3:w3.blocks[nb]?=some ⟨List.range' u.2.values.length 2,[],[]⟩:=by
  rw[←e3]
  unfold jag
  simp only
  rw[f0x (by simp[b2.nb])]
  simp[b2.nb]
 rw[e3] at b3 g3 t3 c3 o3 x3 k3
 have lv:v.1<w3.values.length:=f0o (f0o l1 g2.vlen) g3.vlen
 have lu:u.1<w3.values.length:=f0o l2 g3.vlen
 have dv:cl w3.values v.1=pk p.c 2:=((g3.cl (f0o l1 g2.vlen)).trans (g2.cl l1)).trans d1
 have du:cl w3.values u.1=0:=(g3.cl l2).trans d2
 have kv3:∀ y∈w3.known,KnW idom w3.blocks w.cur y:=fun y hy=>by have:=o3.kn y hy;rwa [c3] at this
 obtain⟨b4,g4⟩:=b3.edge (k:=w.cur) (to:=nb) (args:=[v.1,u.1]) oa oa t3 (by simp[dv,du]) (fun x hx=>by
  simp only[f0f,f1e,or_false] at hx
  rcases hx with rfl | rfl<;>assumption) (.inl h0)
 obtain⟨o4,x4⟩:=o3.edge (j:=w.cur) (to:=nb) (args:=[v.1,u.1]) (by rw[b3.nb];omega) (.inr c3.symm) (fun y hy=>by
  simp only[f0f,f1e,or_false] at hy
  rcases hy with rfl | rfl
  .exact kv3 _ (by rw[k3,k2];exact f08 _ m1)
  .exact kv3 _ (by rw[k3];exact m2))
 obtain⟨w4,e4⟩:∃ w4,jay w3 w.cur nb [v.1,u.1]=w4:=⟨_,rfl⟩
 have k4:w4.known=w3.known:=by rw[←e4];rfl
 rw[e4] at b4 g4 o4 x4
 have t4:=t3.gr g4
 obtain⟨y4,hy4,hp4,_⟩:=x4 _ _ end3
 have kn5:∀ x∈w4.known++(w4.blocks.getD nb jg9).params,x<w4.values.length:=fun x hx=>by
  rcases f0e.1 hx with hx | hx
  .exact b4.v.kn x hx
  .exact t4.params x hx
 have kw5:∀ x∈w4.known++(w4.blocks.getD nb jg9).params,KnW idom w4.blocks nb x:=fun x hx=>by
  rcases f0e.1 hx with hx | hx
  .exact ((kv3 x (k4▸hx)).ext x4).down i1
  .rw [f0p,hy4] at hx
   exact⟨nb,-1,⟨y4,hy4,.inl ⟨rfl,hx⟩⟩,.refl⟩
 have b5:=b4.set (c:=nb) oa kn5
 have o5:=o4.set (c:=nb) kw5
 have g5:=Gr.set w4 nb (w4.known++(w4.blocks.getD nb jg9).params)
 obtain⟨w5,e5⟩:∃ w5,({ w4 with cur:=nb,known:=w4.known++(w4.blocks.getD nb jg9).params }:Ms)=w5:=⟨_,rfl⟩
 have c5:w5.cur=nb:=by rw[←e5]
 rw[e5] at b5 g5 o5
 obtain⟨b6,g6,c6,n6,r6,k6⟩:=b5.lay { p with flags:=odd p.flags }
 obtain⟨o6,x6⟩:=o5.lay b5.v { p with flags:=odd p.flags }
 obtain⟨w6,e6⟩:∃ w6,jcp w5 { p with flags:=odd p.flags }=w6:=⟨_,rfl⟩
 rw[e6] at b6 g6 c6 n6 k6 o6 x6
 rw[c5] at b6 n6 c6
 have kv6:∀ y∈w6.known,KnW idom w6.blocks nb y:=fun y hy=>by have:=o6.kn y hy;rwa [c6] at this
 obtain⟨b7,g7,t7⟩:=b6.block (cs:=[]) se se
 obtain⟨b8,g8,t8⟩:=b7.block (cs:=[]) se se
 obtain⟨o7,x7⟩:=o6.block []
 obtain⟨o8,x8⟩:=o7.block []
 obtain⟨w8,e8⟩:∃ w8,jag (jag w6 []) []=w8:=⟨_,rfl⟩
 have k8:w8.known=w6.known:=by rw[←e8];rfl
 rw[e8] at b8 g8 t8 o8 x8
 have z4:up E w.cur nb=0:=by rw[jfh oa];exact(b.e0 (f0h _)).1
 obtain⟨b9,g9⟩:=b8.edge (k:=nb) (to:=nb+1) (args:=[]) oa oa (t7.gr g8) rfl se (.inl z4)
 obtain⟨o9,x9⟩:=o8.edge (j:=nb) (to:=nb+1) (args:=[]) (by rw[b8.nb];omega) (.inl rfl) se
 obtain⟨b10,g10⟩:=b9.edge (k:=nb) (to:=nb+1+1) (args:=[]) oa oa (t8.gr g9) rfl se (.inr (by
  have:=((g7.trans g8).trans g9).len nb;omega))
 obtain⟨o10,x10⟩:=o9.edge (j:=nb) (to:=nb+1+1) (args:=[]) (by rw[b9.nb];omega) (.inl rfl) se
 obtain⟨w10,e10⟩:∃ w10,jay (jay w8 nb (nb+1) []) nb (nb+1+1) []=w10:=⟨_,rfl⟩
 have k10:w10.known=w6.known:=by rw[←e10];exact k8
 rw[e10] at b10 g10 o10 x10
 obtain⟨q,eq⟩:∃ q:Pc,(⟨p.kind,inc p.op,inc p.a,p.b,p.c,p.limits,odd p.flags⟩:Pc)=q:=⟨_,rfl⟩
 have x610:=((x7.trans x8).trans x9).trans x10
 have b11:=b10.set (c:=nb+1) (kn:=w10.known) oa b10.v.kn
 have o11:=o10.set (c:=nb+1) (kn:=w10.known) (fun y hy=>KnW.all x610 kv6 i2 y (k10▸hy))
 have g11:=Gr.set w10 (nb+1) w10.known
 obtain⟨w11,e11⟩:∃ w11,({ w10 with cur:=nb+1,known:=w10.known }:Ms)=w11:=⟨_,rfl⟩
 have c11:w11.cur=nb+1:=by rw[←e11]
 have k11:w11.known=w6.known:=by rw[←e11];exact k10
 have x11:Ext w10.blocks w11.blocks:=by rw[←e11];exact Ext.refl _
 rw[e11] at b11 g11 o11
 obtain⟨b12,g12,c12,n12,r12,k12⟩:=b11.lay q
 obtain⟨o12,x12⟩:=o11.lay b11.v q
 obtain⟨w12,e12⟩:∃ w12,jcp w11 q=w12:=⟨_,rfl⟩
 rw[e12] at b12 g12 c12 n12 k12 o12 x12
 rw[c11] at b12 c12
 obtain⟨b13,g13,c13,l13,d13,r13,k13⟩:=b12.newest hc q
 obtain⟨o13,x13⟩:=o12.newest b12.v hc q
 have m13:=(jg1 b12.v hc q).2.2.2.2.2.2.2.2.1
 obtain⟨x,ex⟩:∃ x,jac w12 (pk p.c 2) q=x:=⟨_,rfl⟩
 rw[ex] at b13 g13 c13 l13 d13 k13 o13 x13 m13
 rw[c12] at b13 c13
 obtain⟨b14,g14,c14,l14,d14,r14,k14⟩:=b13.newest (cls:=0) oa q
 obtain⟨o14,x14⟩:=o13.newest b13.v (cls:=0) oa q
 have m14:=(jg1 b13.v (cls:=0) oa q).2.2.2.2.2.2.2.2.1
 obtain⟨y,ey⟩:∃ y,jac x.2 0 q=y:=⟨_,rfl⟩
 rw[ey] at b14 g14 c14 l14 d14 k14 o14 x14 m14
 rw[c13] at b14 c14
 have kv14:∀ z∈y.2.known,KnW idom y.2.blocks (nb+1) z:=fun z hz=>by have:=o14.kn z hz;rwa [c14] at this
 obtain⟨o15,x15⟩:=o14.edge (j:=nb+1) (to:=nb) (args:=[x.1,y.1]) (by rw[b14.nb];omega) (.inr c14.symm) (fun z hz=>by
  simp only[f0f,f1e,or_false] at hz
  rcases hz with rfl | rfl
  .exact kv14 _ (by rw[k14];exact f08 _ m13)
  .exact kv14 _ m14)
 obtain⟨w15,e15⟩:∃ w15,jay y.2 (nb+1) nb [x.1,y.1]=w15:=⟨_,rfl⟩
 have k15:w15.known.take w6.known.length=w6.known:=by
  rw[←e15]
  simp only[jay,k14,k13,k12,k11,f0g,List.take_left]
 rw[e15] at o15 x15
 have res:jgl w p={ w15 with cur:=nb+1+1,known:=w15.known.take w6.known.length }:=by
  unfold jgl
  simp only[ev,eu,b2.nb,e3,c3,e4]
  rw[show(w4.blocks.getD nb ⟨[],[],[]⟩).params=(w4.blocks.getD nb jg9).params from rfl]
  simp only[e5,e6,b6.nb,e8,e10,e11,e12,eq,ex,ey,e15]
 rw[res,k15]
 exact o15.set (KnW.all ((((((x610).trans x11).trans x12).trans x13).trans x14).trans x15) kv6 i3)
end
theorem jp0:∀ (s:List Bool) (c:Nat),(jl3 s c).length=3*s.length
 | [],c=>rfl
 | false::s,c=>by simp[jl3,jp0 s];omega
 | true::s,c=>by simp[jl3,jp0 s];omega
theorem jp1:∀ (s t:List Bool) (c:Nat),jl3 (s++t) c=jl3 s c++jl3 t (c+3*s.length)
 | [],t,c=>by rfl
 | false::s,t,c=>by
  simp only[f1x,jl3,jp1 s t]
  grind
 | true::s,t,c=>by
  simp only[f1x,jl3,jp1 s t,f0i]
  rw[show c+3+3*s.length=c+3*(s.length+1) by omega]
theorem qay (s:List Bool):(jhe s).length=1+3*s.length:=by unfold jhe;grind[f0i,jp0]
theorem jrz (s:List Bool) (b:Bool):jhe (s++[b])=jhe s++jl3 [b] (3*s.length):=by
 unfold jhe;simp[jp1]
theorem qgf {α:Type} {l r:List α} {n:Nat} (h:l.length=n):(l++r)[n+i]?=r[i]?:=by
 grind
structure Pk3 (w:Ms) (j:Nat) (s:List Bool):Prop where
 p:Pok w j
 g:Gok w s
 k:Kok (jhe s) w
theorem Pk3.piece {w:Ms} {j:Nat} {s:List Bool} (k:Pk3 w j s) (p:Pc):∃ t,Pk3 (jbs w p) (j+1) t:=by
 have hp:=k.p.piece p
 have b:=k.p.bd
 have hl:(gS s).length=w.blocks.length:=by rw[←k.g.g,jd4]
 rw[j16] at hl
 have hc:=k.g.cur
 have hi:=qay s
 have at0:∀ (b:Bool) (i:Nat),(jhe (s++[b]))[w.blocks.length+i]?=(jl3 [b] (3*s.length))[i]?:=fun b i=>by grind[jrz,qgf]
 have e3:3*s.length=w.cur:=oa
 have k0:∀ b,Kok (jhe (s++[b])) w:=fun b=>by rw[jrz];exact k.k.app
 have key:∃ t,Gok (jbs w p) t/\Kok (jhe t) (jbs w p):=by
  unfold jbs
  simp only
  split
  .refine ⟨_,k.g.fork p,?_⟩
   have f0:=at0 false 0
   have f1:=at0 false 1
   have f2:=at0 false 2
   rw[e3] at f0 f1 f2
   exact qn8 b (k0 false) k.p.e0 p f0 f1 f2
  .split
   .refine ⟨_,k.g.loop p,?_⟩
    have f0:=at0 true 0
    have f1:=at0 true 1
    have f2:=at0 true 2
    rw[e3] at f0 f1 f2
    have en:w.cur+1=w.blocks.length:=hc
    exact qn9 b (k0 true) k.p.e0 p f0 (f1.trans (by rw[←en];rfl)) (f2.trans (by rw[←en];rfl))
   .split
    .exact ⟨s,⟨(jha w p).1.trans k.g.g,by rw[(jha w p).2,jkg];exact k.g.cur⟩,(k.k.lay k.p.v p).1⟩
    .exact ⟨s,k.g,k.k⟩
 obtain⟨t,h1,h2⟩:=key
 exact⟨t,hp,h1,h2⟩
theorem Pk3.pieces:∀ (l:List Pc) {w:Ms} {j:Nat} {s:List Bool},Pk3 w j s->∃ t,Pk3 (l.foldl jbs w) (j+l.length) t
 | [],w,j,s,k=>⟨s,k⟩
 | p::l,w,j,s,k=>by
  obtain⟨t,h⟩:=k.piece p
  obtain⟨u,hu⟩:=Pk3.pieces l h
  grind
theorem j5y {m:Nat×Nat} (m1:2<=m.1/\m.1<=10) (m2:2<=m.2/\m.2<=10) (l:List Pc):∃ s,s.length<=5/\grL (jev m l).blocks=gS s /\
 (∀ (k i:Nat) (b:Blk) (x:Ins) (o:Opd),(jev m l).blocks[k]?=some b->b.instrs[i]?=some x->o∈x.ops->o.kind=1->jto (jhe s) (jev m l).blocks o.value k i) /\
 (∀ (k:Nat) (b:Blk) (e:Edg) (v:Nat),(jev m l).blocks[k]?=some b->e∈b.edges->v∈e.args->jto (jhe s) (jev m l).blocks v k b.instrs.length):=by
 have k0:Pk3 (jb7 m) 0 []:=⟨jkf m1 m2,⟨rfl,rfl⟩,fun v hv=>by trivial,fun k i b x o hb hx=>by
  unfold jb7 at hb
  grind,fun k b e v hb he=>by
  unfold jb7 at hb
  grind⟩
 obtain⟨s,k⟩:=Pk3.pieces (l.take 24) k0
 have o:=(k.k.lay k.p.v ⟨0,0,1,0,0,0,3⟩).1
 have hg:grL (jev m l).blocks=gS s:=(jha _ _).1.trans k.g.g
 refine⟨s,?_,hg,o.us,o.ed⟩
 have h1:=j16 s
 rw[←hg,jd4] at h1
 have h2:=(j1h m1 m2 l).1.nb
 omega
end Go.Proofs.YtkpadfebkaangaaGreatDoor.Ms
namespace Go.Proofs.YtkpadfebkaangaaGreatDoor.Ev
noncomputable section
open Go Go.RowKit
set_option linter.all false
set_option maxRecDepth 100000
def jwx:IC:=.seq (.block 5 (qr [qP (.ixs 5 (.g 19) (.g 22)),qK 5,qB 18 (.new 80 Za),qA (.store 5 qa qb)] (qr [qF 0 18,qL,qP (.bin .eq qa (qC 1)),qP (.mv qa),qR 0 true (.mv (.g 1)),qR 1 true (.mv (.g 17)),qR 2 true (.fld 1 (.g 18)),qS 3 true (.load 1 false qa),qR 4 true (.ixs 2 qc qa),qS 5 true (.load 2 true qa),qR 6 true (.mv (.g 16)),qR 7 true (.mv (.g 15)),qR 8 true (.build Zf [(0,(1,qb)),(1,(1,qa))]),qS 9 true (.call 65 [.l 8,qd,qa]),qR 10 true (.not qa),qQ 14 (.pick (.l 11) qa (.c (.s (.bool false))))] (.cond (.g 14) (qr [qQ 2 (.mv (.c (.s (.bool false))))] .ret) .skip)))) (.region [qI 22,qT 22])
def jkh:IC:=qr [qQ 20 (.bin .lt (.g 22) (.g 21))] (.seq (qX 20 4) jwx)
def jwy:IC:=.seq (.block 3 (qr [qM 27,qP (.ixs 3 (.g 24) (.g 27)),qK 3,qB 23 (.new 62 Zg),qQ 15 (.mv qd),qA (.store 3 qb qc)] (qr [qF 1 23,qB 19 (.load 1 false qa),qQ 21 (.len qa),qQ 22 (.mv (qC 0))] (.block 4 (.loop jkh))))) (.region [qI 27,qT 27])
def jki:IC:=qr [qQ 25 (.bin .lt (.g 27) (.g 26))] (.seq (qX 25 2) jwy)
def jwz:IC:=.draw [(qM 1,.none),(qM 17,.none),(qM 4,.none),(qP (.ixs 2 qb qa),.none),(qK 2,.some []),(qM 16,.none),(qF 1 28,.none),(qL,.some [2]),(qP (.len qa),.none),(qP (.build Zf [(0,(1,qd)),(1,(1,qa))]),.none),(qA (.call 65 [.l 9,.l 5,qa]),.none),(qQ 3 (.not qa),.none)]
def jw0:IC:=.seq (.block 9 (qr [qP (.ixs 1 (.g 5) (.g 8)),qL,qT 4] (.seq jwz (.cond (.g 3) (qr [qQ 2 (.mv (.c (.s (.bool false))))] .ret) .skip)))) (.region [qI 8,qT 8])
def jkj:IC:=qr [qQ 6 (.bin .lt (.g 8) (.g 7))] (.seq (qX 6 8) jw0)
def jw1:IC:=.seq (.block 7 (qr [qP (.ixs 2 (.g 10) (.g 13)),qK 2,qB 9 (.new 65 Zh),qA (.store 2 qa qb)] (qr [qF 1 9,qB 5 (.load 1 false qa),qQ 7 (.len qa),qQ 8 (.mv (qC 0))] (.block 8 (.loop jkj))))) (.region [qI 13,qT 13])
def jkk:IC:=qr [qQ 11 (.bin .lt (.g 13) (.g 12))] (.seq (qX 11 6) jw1)
def jw2:IC:=.seq (.block 1 (qr [qM 32,qP (.ixs 3 (.g 29) (.g 32)),qK 3,qB 28 (.new 58 Zi),qQ 16 (.mv qd),qA (.store 3 qb qc)] (.seq (qr [qF 1 28,qB 24 (.load 1 false qa),qQ 26 (.len qa),qQ 27 (.mv (qC 0))] (.block 2 (.loop jki))) (qr [qF 2 28,qB 10 (.load 1 false qa),qQ 12 (.len qa),qQ 13 (.mv (qC 0))] (.block 6 (.loop jkk)))))) (.region [qI 32,qT 32])
def jkl:IC:=qr [qQ 30 (.bin .lt (.g 32) (.g 31))] (.seq (qX 30 0) jw2)
def j17:IC:=qr [qB 33 (.box 32 (.g 0)),qQ 2 (.mv (.c (.s (.bool false))))] (qr [qA (.load 2 true (.g 33)),qA (.call 64 [qa]),qT 17] (.seq (qr [qF 1 33,qB 29 (.load 1 false qa),qQ 31 (.len qa),qQ 32 (.mv (qC 0))] (.block 0 (.loop jkl))) (qr [qQ 2 (.mv (.c (.s (.bool true))))] .ret)))
theorem qoa:T 44=some (.mk j17 2 32 [(.tmp 2)]):=ka
def jw3:IC:=qr [qM 0,qF 0 6,qL,qF 0 5,qL,qA (.call 90 [.l 4,qc,qa]),qT 3] .ret
def j18:IC:=qr [qB 6 (.box 135 (.g 1)),qB 5 (.box 135 (.g 2)),qQ 3 (.mv (.c (.s (.bool false))))] (.seq (qr [qF 0 6,qL,qF 0 5,qL,qQ 4 (.bin .eq qc qa)] (.cond (.g 4) (qr [qF 1 6,qL,qF 1 5,qL,qP (.bin .lt qc qa),qT 3] .ret) .skip)) jw3)
theorem qob:T 65=some (.mk j18 3 4 [(.tmp 3)]):=ka
def jp2:IC:=.seq (qr [qM 2,qP (.bin .ge qa (qC 0)),qP (.mv qa),qR 0 true (.mv (.g 2)),qR 1 true (.mv (.g 1)),qR 2 true (.bin .ne qb qa),qQ 4 (.pick qd qa (.c (.s (.bool false))))] (qX 4 0)) (.block 1 (.region [qM 0,qM 2,qP (.ixs 1 qb qa),qL,qT 2]))
def qi4:IC:=qr [qQ 3 (.mv (.c (.s (.bool false))))] (.seq (.block 0 (.loop jp2)) (qr [qM 2,qM 1,qP (.bin .eq qb qa),qT 3] .ret))
theorem q0a:T 90=some (.mk qi4 3 2 [(.tmp 3)]):=ka
def qaz:IC:=.seq (.block 3 (qr [qP (.ixs 1 (.g 17) (.g 20)),qL,qT 15] (.region [qM 16,qM 15,qM 14,qP (.build Zf [(0,(1,qa)),(1,(1,qC (-1)))]),qP (.ixs 2 qd qc),qA (.store 2 qa qb)]))) (.region [qI 20,qT 20])
def jtp:IC:=qr [qQ 18 (.bin .lt (.g 20) (.g 19))] (.seq (qX 18 2) qaz)
def qa0:IC:=.seq (.block 7 (qr [qP (.ixs 5 (.g 5) (.g 8)),qK 5,qB 4 (.new 80 Za),qA (.store 5 qa qb)] (qr [qF 0 4,qL,qQ 3 (.bin .eq qa (qC 2))] (.cond (.g 3) (.region [qM 16,qF 1 4,qL,qM 14,qM 2,qP (.build Zf [(0,(1,qb)),(1,(1,qa))]),qP (.ixs 2 (.l 5) qd),qA (.store 2 qa qb)]) .skip)))) (.region [qI 8,qT 8])
def jtq:IC:=qr [qQ 6 (.bin .lt (.g 8) (.g 7))] (.seq (qX 6 6) qa0)
def qa1:IC:=.seq (.block 5 (qr [qM 13,qP (.ixs 3 (.g 10) (.g 13)),qK 3,qB 9 (.new 62 Zg),qQ 2 (.mv qd),qA (.store 3 qb qc)] (qr [qF 1 9,qB 5 (.load 1 false qa),qQ 7 (.len qa),qQ 8 (.mv (qC 0))] (.block 6 (.loop jtq))))) (.region [qI 13,qT 13])
def jtr:IC:=qr [qQ 11 (.bin .lt (.g 13) (.g 12))] (.seq (qX 11 4) qa1)
def qa2:IC:=.seq (.block 1 (qr [qM 25,qP (.ixs 3 (.g 22) (.g 25)),qK 3,qB 21 (.new 58 Zi),qQ 14 (.mv qd),qA (.store 3 qb qc)] (.seq (qr [qF 0 21,qB 17 (.load 1 false qa),qQ 19 (.len qa),qQ 20 (.mv (qC 0))] (.block 2 (.loop jtp))) (qr [qF 1 21,qB 10 (.load 1 false qa),qQ 12 (.len qa),qQ 13 (.mv (qC 0))] (.block 4 (.loop jtr)))))) (.region [qI 25,qT 25])
def jts:IC:=qr [qQ 23 (.bin .lt (.g 25) (.g 24))] (.seq (qX 23 0) qa2)
def qi5:IC:=qr [qB 26 (.box 32 (.g 0)),qQ 1 (.mv (.c (.s .nilSlice)))] (qr [qF 0 26,qL,qP (.len qa),qA (.mkslice 135 2 16 Zf qa qa),qT 16] (.seq (qr [qF 1 26,qB 22 (.load 1 false qa),qQ 24 (.len qa),qQ 25 (.mv (qC 0))] (.block 0 (.loop jts))) (qr [qM 16,qT 1] .ret)))
theorem q0b:T 64=some (.mk qi5 1 26 [(.tmp 1)]):=ka
def jw4:IC:=.draw [(qA (.load 2 true (.g 20)),.some []),(qA (.call 42 [qa]),.some []),(qP (.len qa),.none),(qF 1 20,.none),(qL,.some [2,3]),(qP (.len qa),.none),(qQ 16 (.bin .lt qd qa),.none)]
def jw5:IC:=.seq (.block 3 (qr [qP (.ixs 2 (.g 7) (.g 10)),qK 2,qB 5 (.new 65 Zh),qA (.store 2 qa qb)] (qr [qF 2 11,qL,qP (.len qa),qP (.bin .gt qa (qC 1)),qP (.mv qa),qR 0 true (.mv (.g 6)),qR 1 true (.fld 0 (.g 5)),qS 2 true (.load 1 false qa),qR 3 true (.ixs 1 qc qa),qS 4 true (.load 1 false qa),qR 5 true (.len qa),qR 6 true (.bin .gt qa (qC 1)),qQ 4 (.pick (.l 7) qa (.c (.s (.bool false))))] (.cond (.g 4) (qr [qQ 2 (.mv (qC 11))] .ret) .skip)))) (.region [qI 10,qT 10])
def jkm:IC:=qr [qQ 8 (.bin .lt (.g 10) (.g 9))] (.seq (qX 8 2) jw5)
def jw6:IC:=.seq (.block 1 (qr [qP (.ixs 3 (.g 12) (.g 15)),qK 3,qB 11 (.new 58 Zi),qA (.store 3 qa qb)] (qr [qF 2 11,qB 7 (.load 1 false qa),qQ 9 (.len qa),qQ 10 (.mv (qC 0))] (.block 2 (.loop jkm))))) (.region [qI 15,qT 15])
def jkn:IC:=qr [qQ 13 (.bin .lt (.g 15) (.g 14))] (.seq (qX 13 0) jw6)
def jw7:IC:=.draw [(qA (.load 2 true (.g 20)),.some []),(qA (.load 2 true (.g 20)),.some [0]),(qA (.load 2 true (.g 20)),.some [0,1]),(qA (.call 42 [qa]),.some [1,2]),(qA (.call 45 [qc,qa]),.some [3]),(qA (.call 44 [.l 4,qa]),.none),(qQ 3 (.not qa),.none)]
def jw8:IC:=qr [qQ 2 (.mv (qC 0))] .ret
def jw9:IC:=qr [qA (.load 2 true (.g 20)),qA (.call 43 [qa]),qT 6] (.seq (qr [qF 1 20,qB 12 (.load 1 false qa),qQ 14 (.len qa),qQ 15 (.mv (qC 0))] (.block 0 (.loop jkn))) (.seq (.seq jw7 (.cond (.g 3) (qr [qQ 2 (.mv (qC 10))] .ret) .skip)) jw8))
def jxa:IC:=.seq (.seq jw4 (.cond (.g 16) (qr [qQ 2 (.mv (qC 16))] .ret) .skip)) jw9
def j19:IC:=qr [qB 20 (.box 32 (.g 0)),qB 19 (.box 28 (.g 1)),qQ 2 (.mv (qC 0))] (.seq (qr [qA (.load 2 true (.g 20)),qA (.load 2 true (.g 19)),qA (.call 41 [qb,qa]),qT 18] (qr [qM 18,qQ 17 (.bin .ne qa (qC 0))] (.cond (.g 17) (qr [qM 18,qT 2] .ret) .skip))) jxa)
theorem qoc:T 23=some (.mk j19 2 19 [(.tmp 2)]):=ka
open Go Go.RowKit Go.Proofs.YtkpadfebkaangaaGreatDoor.Ms
variable {x0 x1 x2 x3 x4 x5 x6 x7 x8 x9 x10 x11 x12 x13 x14 x15 x16 x17 x18 x19 x20 x21 x22 x23 x24 x25 x26 x27 x28 x29 x30 x31 x32 x33:AV} {n:Int} {vs:List AV} {idom:List Int} {v bB:Nat}
set_option maxHeartbeats 2000000
theorem qgg {a:Nat} {b:Int} (h:Dom idom a b):∀ {hi:Hp} (_:Ok hi) {x3 x4:AV} {Q:Ex->St->Prop} (_:∀ x4,Q (.exit 0) (.mk [.s (jaf jhf idom),vi a,vi a,x3,x4] hi)),W F7 jp2.loop (.mk [.s (jaf jhf idom),vi a,vi b,x3,x4] hi) Q:=by
 have stop:∀ {hi:Hp} (_:Ok hi) {x3 x4:AV} {Q:Ex->St->Prop} (_:∀ x4,Q (.exit 0) (.mk [.s (jaf jhf idom),vi a,vi a,x3,x4] hi)),W F7 jp2.loop (.mk [.s (jaf jhf idom),vi a,vi a,x3,x4] hi) Q:=fun {hi} ok {x3 x4 Q} hQ=>by
  have c1:(0<=(a:Int))=True:=se
  have c2:((a:Int)≠(a:Int))=False:=se
  rw[jai]
  unfold jp2
  simp(disch:=go_num) only[go_sem,c1,c2]
  exact hQ _
 induction h with
 | refl=>exact stop
 | @step b c h1 h2 ih =>
  intro hi ok x3 x4 Q hQ
  by_cases e:b=a
  .subst e;exact stop ok hQ
  .have c1:(0<=(b:Int))=True:=se
   have c2:((b:Int)≠(a:Int))=True:=by simp;omega
   have ix:=jaj (enc:=jhf) (size:=1) h1 rfl
   rw[jai]
   unfold jp2
   simp(disch:=go_num) only[go_sem,c1,c2,ix,jhf]
   exact ih ok hQ
theorem qod {h:Hp} (ok:Ok h) {a:Nat} {b:Int} (hd:Dom idom a b):WC F7 90 [.s (jaf jhf idom),vi a,vi b] h (fun v h'=>∃ d,jf9 true h' d v=some (vb true)):=by
 refine jaz (no7 rfl rfl rfl rfl rfl rfl rfl) q0a rfl ?_
 unfold qi4
 have c2:((a:Int)=(a:Int))=True:=se
 simp(disch:=go_num) only[go_sem]
 refine qgg hd ok (fun x4=>?_)
 simp(disch:=go_num) only[go_sem,c2]
 exact⟨1,rfl⟩
def jir (p:Nat×Int):List SV:=[si p.1,si p.2]
def ES (row:List SV) (p:Nat×Int) (ns:List Nat):Prop:=row=jir p/\ns=[]
def fl2 (T:List (Nat×Int)):List SV:=(T.map jir).flatten
theorem qte:∀ (l:List (Nat×Int)),Rows 2 ES (l.map jir) l []
 | []=>.nil
 | a::l=>by
  have:=Rows.cons (sz:=2) (E:=ES) (row:=jir a) (a:=a) (ns:=[]) rfl ⟨rfl,rfl⟩ (qte l)
  exact this
theorem jp3 {p:Nat×Int}:∀ {T:List (Nat×Int)} {v:Nat},v<T.length->jbo (v*2) (jir p) (fl2 T)=some (fl2 (T.set v p))
 | [],v,h=>by simp at h
 | a::T,0,h=>by
  show jn0 (jir p) (jir a++fl2 T)=some (jir p++fl2 T)
  unfold jir
  cases fl2 T<;>rfl
 | a::T,v+1,h=>by
  show jbo ((v+1)*2) (jir p) (jir a++fl2 T)=some (jir a++fl2 (T.set v p))
  rw[show(v+1)*2=v*2+1+1 by omega]
  unfold jir
  show jbo (v*2+1+1) (jir p) (si a.1::si a.2::fl2 T)=_
  rw[jf0,jf0,jp3 (by simpa using h)]
  rfl
def spF (T:List (Nat×Int)) (l:List (Nat×(Nat×Int))):List (Nat×Int):=l.foldl (fun T e=>T.set e.1 e.2) T
theorem jzk (T:List (Nat×Int)) (a b:List (Nat×(Nat×Int))):spF T (a++b)=spF (spF T a) b:=by unfold spF;rw[List.foldl_append]
theorem qa3:∀ (l:List (Nat×(Nat×Int))) (T:List (Nat×Int)),(spF T l).length=T.length
 | [],T=>rfl
 | e::l,T=>by
  show(spF (T.set e.1 e.2) l).length=_
  rw[qa3 l,f28]
def evP (b:Nat) (ps:List Nat):List (Nat×(Nat×Int)):=ps.map (fun v=>(v,(b,-1)))
def evO (b i:Nat) (ops:List Ms.Opd):List (Nat×(Nat×Int)):=(dfO ops).map (fun v=>(v,(b,(i:Int))))
def evI (b:Nat):Nat->List Ms.Ins->List (Nat×(Nat×Int))
 | _,[]=>[]
 | i,x::l=>evO b i x.ops++evI b (i+1) l
def evB (b:Nat) (x:Blk):List (Nat×(Nat×Int)):=evP b x.params++evI b 0 x.instrs
def evL:Nat->List Blk->List (Nat×(Nat×Int))
 | _,[]=>[]
 | k,x::l=>evB k x++evL (k+1) l
def jes (f:Fc):List (Nat×Int):=spF (List.replicate f.values.length (0,0)) (evL 0 f.blocks)
structure SpI (hi:Hp) (f:Fc) (bF bA:Nat) (T:List (Nat×Int)):Prop where
 ok:Ok hi
 hs:T.length=f.values.length
 lt:bF<hi.next/\bA<hi.next
 pos:1<=bA/\bF≠bA
 xA:hi.get bA=some (.arr (fl2 T) 135)
section
variable {hi hj:Hp} {f:Fc} {bF bA:Nat} {T:List (Nat×Int)}
theorem SpI.keep (k:SpI hi f bF bA T) (ok:Ok hj) (hn:hi.next<=hj.next) (g:∀ n,n<hi.next->hj.get n=hi.get n):SpI hj f bF bA T :=
 ⟨ok,k.hs,⟨f0o k.lt.1 hn,f0o k.lt.2 hn⟩,k.pos,(g _ k.lt.2).trans k.xA⟩
theorem SpI.tell (k:SpI hi f bF bA T) (hv:v<f.values.length) (p:Nat×Int):wrB hi bA (hi.get bA) (v*2) [si p.1,si p.2]=some (hi.put bA (some (.arr (fl2 (T.set v p)) 135)))/\SpI (hi.put bA (some (.arr (fl2 (T.set v p)) 135))) f bF bA (T.set v p):=by
 have hvT:v<T.length:=by rw[k.hs];exact hv
 refine⟨?_,⟨jas k.ok,by rw[f28];exact k.hs,by rw[Hp.next_put];exact k.lt,k.pos,by rw[jak k.ok k.pos.1,if_pos rfl]⟩⟩
 rw[k.xA,jsq]
 have:=jp3 (p:=p) hvT
 unfold jir at this
 rw[this]
 rfl
end
theorem qi6 {f:Fc} {ps:List Nat} {b bF bA:Nat} (hl:ps.length<=10000) (hp:∀ v∈ps,v<f.values.length) {Q:Ex->St->Prop} :
 ∀ (rest done:List Nat) (_:done++rest=ps) {T:List (Nat×Int)} {hi:Hp} (_:SpI hi f bF bA T) {x15 x18:AV}
  (hQ:∀ hj x15 x18,SpI hj f bF bA (spF T (evP b rest))->hj.next=hi.next->(∀ n,n≠bA->hj.get n=hi.get n)->Q (.exit 2) (.mk [x0,x1,x2,x3,x4,x5,x6,x7,x8,x9,x10,x11,x12,x13,vi b,x15,.s (.slice bA 0 f.values.length f.values.length true 2),.s (jaf jav ps),x18,vi ps.length,vi ps.length,x21,x22,x23,x24,x25,x26] hj)),
  W F7 jtp.loop (.mk [x0,x1,x2,x3,x4,x5,x6,x7,x8,x9,x10,x11,x12,x13,vi b,x15,.s (.slice bA 0 f.values.length f.values.length true 2),.s (jaf jav ps),x18,vi ps.length,vi done.length,x21,x22,x23,x24,x25,x26] hi) Q
 | [],done,hdn,T,hi,I,x15,x18,hQ=>by
  rw[f06] at hdn
  subst hdn
  rw[jai]
  unfold jtp
  simp(disch:=go_num) only[go_sem,f0s]
  exact hQ hi _ _ I rfl (fun _ _=>rfl)
 | v::rest,done,hdn,T,hi,I,x15,x18,hQ=>by
  have hlt1:done.length<ps.length:=by rw[←hdn];simp
  have hlt:(done.length:Int)<ps.length:=oa
  have hget:ps[done.length]?=some v:=by rw[←hdn];simp
  have hv:=hp v (f0c hget)
  have hix:=jaj (enc:=jav) (size:=1) hget rfl
  have hdn':(done++[v])++rest=ps:=by rw[←hdn];simp
  have hs:(done.length:Int)+1=(((done++[v]).length:Nat):Int):=se
  have ok:=I.ok
  have hxi:=jct (size:=2) (b:=bA) (off:=0) (len:=f.values.length) (mc:=f.values.length) (sz:=2) (ex:=true) (m:=v) hv
  rw[f1b] at hxi
  obtain⟨t1,t2⟩:=I.tell hv (b,-1)
  simp only at t1
  rw[jai]
  unfold jtp qaz
  simp(disch:=go_num) only[go_sem,jad,eq_true hlt,hix,jav,hxi,t1,hs]
  exact qi6 hl hp rest (done++[v]) hdn' t2 (fun hj x15 x18 J n g=>hQ hj x15 x18 J (n.trans (Hp.next_put ..)) (fun m hm=>(g m hm).trans (by rw[jak I.ok I.pos.1,if_neg hm])))
theorem qa4 {f:Fc} {l:List Ms.Opd} {b i bF bA:Nat} (hl:l.length<=10000) (hp:∀ o∈l,o.value<f.values.length) {Q:Ex->St->Prop} :
 ∀ (rest done:List Ms.Opd) (_:done++rest=l) {T:List (Nat×Int)} {hi:Hp} (_:SpI hi f bF bA T) {x3 x4 x6:AV}
  (hQ:∀ hj x3 x4 x6,SpI hj f bF bA (spF T (evO b i rest))->hi.next<=hj.next->(∀ n,n<hi.next->n≠bA->hj.get n=hi.get n)->Q (.exit 6) (.mk [x0,x1,vi i,x3,x4,.s (jaf jbc l),x6,vi l.length,vi l.length,x9,x10,x11,x12,x13,vi b,x15,.s (.slice bA 0 f.values.length f.values.length true 2),x17,x18,x19,x20,x21,x22,x23,x24,x25,x26] hj)),
  W F7 jtq.loop (.mk [x0,x1,vi i,x3,x4,.s (jaf jbc l),x6,vi l.length,vi done.length,x9,x10,x11,x12,x13,vi b,x15,.s (.slice bA 0 f.values.length f.values.length true 2),x17,x18,x19,x20,x21,x22,x23,x24,x25,x26] hi) Q
 | [],done,hdn,T,hi,I,x3,x4,x6,hQ=>by
  rw[f06] at hdn
  subst hdn
  rw[jai]
  unfold jtq
  simp(disch:=rfl) only[go_sem,f0s]
  exact hQ hi _ _ _ I (f0h _) (fun _ _ _=>rfl)
 | o::rest,done,hdn,T,hi,I,x3,x4,x6,hQ=>by
  have hlt1:done.length<l.length:=by rw[←hdn];simp
  have hlt:(done.length:Int)<l.length:=oa
  have hget:l[done.length]?=some o:=by rw[←hdn];simp
  have hv:=hp o (f0c hget)
  have hix:=jaj (enc:=jbc) (size:=5) hget rfl
  have hdn':(done++[o])++rest=l:=by rw[←hdn];simp
  have hs:(done.length:Int)+1=(((done++[o]).length:Nat):Int):=se
  have ok:=I.ok
  obtain⟨hA,eA,okA,nA,xA,gA⟩:=jby ok Za (jbc o) 80
  have IA:=I.keep okA oa gA
  unfold jbc at xA eA
  rw[jai]
  unfold jtq qa0
  by_cases e:o.kind=2
  .have c1:((o.kind:Int)=2)=True:=by simp;omega
   have ed:evO b i (o::rest)=(o.value,(b,(i:Int)))::evO b i rest:=by unfold evO dfO;rw[List.filter_cons_of_pos (by simpa using e)];rfl
   have hxi:=jct (size:=2) (b:=bA) (off:=0) (len:=f.values.length) (mc:=f.values.length) (sz:=2) (ex:=true) (m:=o.value) hv
   rw[f1b] at hxi
   obtain⟨t1,t2⟩:=IA.tell hv (b,(i:Int))
   simp only at t1
   simp(disch:=go_num) only[go_sem,jad,eq_true hlt,hix,jbc,eA,xA,c1,hxi,t1,hs]
   exact qa4 hl hp rest (done++[o]) hdn' t2 (fun hj x3 x4 x6 J n g=>hQ hj x3 x4 x6 (by rw[ed];exact J) (by rw[Hp.next_put] at n;omega) (fun m hm hne=>(g m (by rw[Hp.next_put];omega) hne).trans ((by rw[jak IA.ok IA.pos.1,if_neg hne]:_=hA.get m).trans (gA m hm))))
  .have c1:((o.kind:Int)=2)=False:=by simp;omega
   have ed:evO b i (o::rest)=evO b i rest:=by unfold evO dfO;rw[List.filter_cons_of_neg (by simpa using e)]
   simp(disch:=go_num) only[go_sem,jad,eq_true hlt,hix,jbc,eA,xA,c1,hs]
   exact qa4 hl hp rest (done++[o]) hdn' IA (fun hj x3 x4 x6 J n g=>hQ hj x3 x4 x6 (by rw[ed];exact J) oa (fun m hm hne=>(g m oa hne).trans (gA m hm)))
theorem qi7 {f:Fc} {l:List Ms.Ins} {b bF bA:Nat} (hl:l.length<=10000) (hp:∀ x∈l,x.ops.length<=6/\∀ o∈x.ops,o.value<f.values.length) {Q:Ex->St->Prop} :
 ∀ (rest done:List Ms.Ins) (_:done++rest=l) {T:List (Nat×Int)} {hi:Hp} (_:SpI hi f bF bA T) {x2 x3 x4 x5 x6 x7 x8 x9 x11:AV}
  (hQ:∀ hj x2 x3 x4 x5 x6 x7 x8 x9 x11,SpI hj f bF bA (spF T (evI b done.length rest))->hi.next<=hj.next->(∀ n,n<hi.next->n≠bA->hj.get n=hi.get n)->Q (.exit 4) (.mk [x0,x1,x2,x3,x4,x5,x6,x7,x8,x9,.s (jaf jdd l),x11,vi l.length,vi l.length,vi b,x15,.s (.slice bA 0 f.values.length f.values.length true 2),x17,x18,x19,x20,x21,x22,x23,x24,x25,x26] hj)),
  W F7 jtr.loop (.mk [x0,x1,x2,x3,x4,x5,x6,x7,x8,x9,.s (jaf jdd l),x11,vi l.length,vi done.length,vi b,x15,.s (.slice bA 0 f.values.length f.values.length true 2),x17,x18,x19,x20,x21,x22,x23,x24,x25,x26] hi) Q
 | [],done,hdn,T,hi,I,x2,x3,x4,x5,x6,x7,x8,x9,x11,hQ=>by
  rw[f06] at hdn
  subst hdn
  rw[jai]
  unfold jtr
  simp(disch:=rfl) only[go_sem,f0s]
  exact hQ hi _ _ _ _ _ _ _ _ _ I (f0h _) (fun _ _ _=>rfl)
 | x::rest,done,hdn,T,hi,I,x2,x3,x4,x5,x6,x7,x8,x9,x11,hQ=>by
  have hlt1:done.length<l.length:=by rw[←hdn];simp
  have hlt:(done.length:Int)<l.length:=oa
  have hget:l[done.length]?=some x:=by rw[←hdn];simp
  have hv:=hp x (f0c hget)
  have hix:=jaj (enc:=jdd) (size:=3) hget rfl
  have hdn':(done++[x])++rest=l:=by rw[←hdn];simp
  have hl2:(done++[x]).length=done.length+1:=se
  have hs:(done.length:Int)+1=(((done++[x]).length:Nat):Int):=se
  have ok:=I.ok
  obtain⟨hA,eA,okA,nA,xA,gA⟩:=jby ok Zg (jdd x) 62
  have IA:=I.keep okA oa gA
  have l1:=jah (enc:=jbc) (l:=x.ops)
  unfold jdd at xA eA
  rw[jai]
  unfold jtr qa1
  simp(disch:=go_num) only[go_sem,jad,eq_true hlt,hix,jdd,eA,xA,l1]
  refine qa4 oa hv.2 x.ops [] rfl IA (fun hj x3 x4 x6 J n g=>?_)
  simp(disch:=go_num) only[go_sem,jad,hs]
  exact qi7 hl hp rest (done++[x]) hdn' J (fun hk x2 x3 x4 x5 x6 x7 x8 x9 x11 J' n' g'=>hQ hk x2 x3 x4 x5 x6 x7 x8 x9 x11 (by unfold evI;rw[jzk,←hl2];exact J') oa (fun m hm hne=>(g' m oa hne).trans ((g m oa hne).trans (gA m hm))))
theorem qi8 {f:Fc} {bF bA:Nat} (hl:f.blocks.length<=10000) (hp:∀ b∈f.blocks,b.params.length<=10000/\b.instrs.length<=10000/\(∀ v∈b.params,v<f.values.length)/\∀ x∈b.instrs,x.ops.length<=6/\∀ o∈x.ops,o.value<f.values.length) {Q:Ex->St->Prop} :
 ∀ (rest done:List Blk) (_:done++rest=f.blocks) {T:List (Nat×Int)} {hi:Hp} (_:SpI hi f bF bA T) {x2 x3 x4 x5 x6 x7 x8 x9 x10 x11 x12 x13 x14 x15 x17 x18 x19 x20 x21 x23:AV}
  (hQ:∀ hj x2 x3 x4 x5 x6 x7 x8 x9 x10 x11 x12 x13 x14 x15 x17 x18 x19 x20 x21 x23,SpI hj f bF bA (spF T (evL done.length rest))->Q (.exit 0) (.mk [x0,x1,x2,x3,x4,x5,x6,x7,x8,x9,x10,x11,x12,x13,x14,x15,.s (.slice bA 0 f.values.length f.values.length true 2),x17,x18,x19,x20,x21,.s (jaf ja6 f.blocks),x23,vi f.blocks.length,vi f.blocks.length,x26] hj)),
  W F7 jts.loop (.mk [x0,x1,x2,x3,x4,x5,x6,x7,x8,x9,x10,x11,x12,x13,x14,x15,.s (.slice bA 0 f.values.length f.values.length true 2),x17,x18,x19,x20,x21,.s (jaf ja6 f.blocks),x23,vi f.blocks.length,vi done.length,x26] hi) Q
 | [],done,hdn,T,hi,I,x2,x3,x4,x5,x6,x7,x8,x9,x10,x11,x12,x13,x14,x15,x17,x18,x19,x20,x21,x23,hQ=>by
  rw[f06] at hdn
  rw[jai,hdn]
  unfold jts
  simp(disch:=rfl) only[go_sem,f0s]
  exact hQ hi _ _ _ _ _ _ _ _ _ _ _ _ _ _ _ _ _ _ _ _ I
 | b::rest,done,hdn,T,hi,I,x2,x3,x4,x5,x6,x7,x8,x9,x10,x11,x12,x13,x14,x15,x17,x18,x19,x20,x21,x23,hQ=>by
  have hlt1:done.length<f.blocks.length:=by rw[←hdn];simp
  have hlt:(done.length:Int)<f.blocks.length:=oa
  have hget:f.blocks[done.length]?=some b:=by rw[←hdn];simp
  obtain⟨p1,p2,p3,p4⟩:=hp b (f0c hget)
  have hix:=jaj (enc:=ja6) (size:=3) hget rfl
  have hdn':(done++[b])++rest=f.blocks:=by rw[←hdn];simp
  have hl2:(done++[b]).length=done.length+1:=se
  have hs:(done.length:Int)+1=(((done++[b]).length:Nat):Int):=se
  have ok:=I.ok
  obtain⟨hA,eA,okA,nA,xA,gA⟩:=jby ok Zi (ja6 b) 58
  have IA:=I.keep okA oa gA
  have l1:=jah (enc:=jav) (l:=b.params)
  have l2:=jah (enc:=jdd) (l:=b.instrs)
  have hneA:hi.next≠bA:=by have:=I.lt;omega
  unfold ja6 at xA eA
  rw[jai]
  unfold jts qa2
  simp(disch:=go_num) only[go_sem,jad,eq_true hlt,hix,ja6,eA,xA,l1]
  refine qi6 p1 p3 b.params [] rfl IA (fun hj x15 x18 J n g=>?_)
  have xJ:=(g _ hneA).trans xA
  simp(disch:=go_num) only[go_sem,xJ,l2]
  refine qi7 p2 p4 b.instrs [] rfl J (fun hk x2 x3 x4 x5 x6 x7 x8 x9 x11 J' n' g'=>?_)
  simp(disch:=go_num) only[go_sem,jad,hs]
  exact qi8 hl hp rest (done++[b]) hdn' J' (fun h2 x2 x3 x4 x5 x6 x7 x8 x9 x10 x11 x12 x13 x14 x15 x17 x18 x19 x20 x21 x23 J2=>hQ h2 x2 x3 x4 x5 x6 x7 x8 x9 x10 x11 x12 x13 x14 x15 x17 x18 x19 x20 x21 x23 (by
   unfold evL evB
   rw[jzk,jzk,←hl2];exact J2))
theorem qa5 (x y:SV):∀ n,rep [x,y] n=(List.replicate n [x,y]).flatten
 | 0=>rfl
 | n+1=>by
  have h:rep [x,y] (n+1)=jf8 [x,y] (rep [x,y] n):=rfl
  rw[h,jcv,qa5 x y n];rfl
theorem qoe {h:Hp} (ok:Ok h) {f:Fc} (hl:f.blocks.length<=10000) (hv:f.values.length<=10000) (hne:f.values≠[]) (hp:∀ b∈f.blocks,b.params.length<=10000/\b.instrs.length<=10000/\(∀ v∈b.params,v<f.values.length)/\∀ x∈b.instrs,x.ops.length<=6/\∀ o∈x.ops,o.value<f.values.length) :
 WC F7 64 [.agg [jaf jav f.values,jaf ja6 f.blocks]] h (fun v h'=>∃ d,jf9 true h' d v=some (.s (jaf jir (jes f)))):=by
 refine jaz (no7 rfl rfl rfl rfl rfl rfl rfl) q0b rfl ?_
 unfold qi5
 have hpos:=ok.pos
 obtain⟨hA,eA,okA,nA,xA,gA⟩:=jdw ok [jaf jav f.values,jaf ja6 f.blocks] 32
 obtain⟨hB,eB,okB,nB,xB,gB⟩:=jdw okA (rep Zf f.values.length) 135
 rw[qa5] at xB
 have hfl:fl2 (List.replicate f.values.length ((0:Nat),(0:Int)))=(List.replicate f.values.length Zf).flatten:=by unfold fl2;rw[List.map_replicate];rfl
 rw[←hfl] at xB
 have I:SpI hB f h.next hA.next (List.replicate f.values.length (0,0)) :=
  ⟨okB,f2l,⟨oa,oa⟩,⟨oa,oa⟩,xB⟩
 have yA:=(gB _ oa).trans xA
 have l1:=jah (enc:=jav) (l:=f.values)
 have l2:=jah (enc:=ja6) (l:=f.blocks)
 have hmk:=jyt (e:=135) (size:=2) (bytes:=16) (z:=Zf) (m:=f.values.length) okA oa oa
 rw[eB] at hmk
 rw[nA] at hmk I
 simp(disch:=go_num) only[go_sem,eA,xA,l1,hmk,yA,l2]
 refine qi8 hl hp f.blocks [] rfl I (fun hj x2 x3 x4 x5 x6 x7 x8 x9 x10 x11 x12 x13 x14 x15 x17 x18 x19 x20 x21 x23 J=>?_)
 simp(disch:=go_num) only[go_sem]
 have hsl:(jes f).length=f.values.length:=by unfold jes;rw[qa3,f2l]
 have hne':jes f≠[]:=fun e=>by
  rw[e] at hsl
  exact hne (f1i hsl.symm)
 have s1:Sl hj 135 2 true ES (.slice (h.next+1) 0 (jes f).length (jes f).length true 2) (jes f) [h.next+1] :=
  .inr ⟨hne',h.next+1,(jes f).map jir,[],rfl,J.xA,qte _,rfl⟩
 rw[hsl] at s1
 exact⟨2,jaa.2 ⟨_,s1.frz (enc:=jir) (d:=1) (fun row a ms e=>by
  obtain⟨rfl,_⟩:=e
  rfl) (fun _=>rfl),rfl⟩⟩
def S8 (f:FuncId):Bool:=Nat.beq f 90||(Nat.beq f 64||(Nat.beq f 42||(Nat.beq f 43||(Nat.beq f 45||Nat.beq f 999999))))
def F8:Fns:=PX S8 F7
theorem q47 {A:Nat->Int}:Env Tryz.prog A tys F8:=jer q42
theorem no8 {f:FuncId} (h1:S1 f=false) (h2:Nat.beq f jgm.f=false) (h3:S3 f=false) (h4:S4 f=false) (h5:S5 f=false) (h6:S6 f=false) (h7:S7 f=false) (h8:S8 f=false) {h:Hp}:jc1 F8 f vs h=none:=(ja0 h8).trans (no7 h1 h2 h3 h4 h5 h6 h7)
def S9 (f:FuncId):Bool:=Nat.beq f 65
def F9:Fns:=PX S9 F8
theorem q48 {A:Nat->Int}:Env Tryz.prog A tys F9:=jer q47
theorem no9 {f:FuncId} (h1:S1 f=false) (h2:Nat.beq f jgm.f=false) (h3:S3 f=false) (h4:S4 f=false) (h5:S5 f=false) (h6:S6 f=false) (h7:S7 f=false) (h8:S8 f=false) (h9:S9 f=false) {h:Hp}:jc1 F9 f vs h=none:=(ja0 h9).trans (no8 h1 h2 h3 h4 h5 h6 h7 h8)
theorem qof {h:Hp} {Q:AV->Hp->Prop} {a:Nat} {b:Int} (hd:Dom idom a b):WC F8 90 [.s (jaf jhf idom),vi a,vi b] h Q=Q (vb true) h :=
 jam (jbg rfl (by simp[jaw,ja5,jdu,jbd,jbt,jbl]) (qod jdv hd))
def KP (idom:List Int) (p:Nat×Int) (k:Nat) (i:Nat):Prop:=(p.1=k/\p.2<(i:Int))∨(p.1≠k/\Dom idom p.1 k)
theorem qa6 {h:Hp} (ok:Ok h) {a k i:Nat} (hk:KP idom (a,n) k i):WC F8 65 [.s (jaf jhf idom),.agg [si a,si n],.agg [si k,si i]] h (fun v h'=>∃ d,jf9 true h' d v=some (vb true)):=by
 refine jaz (no8 rfl rfl rfl rfl rfl rfl rfl rfl) qob rfl ?_
 unfold j18
 obtain⟨hA,eA,okA,nA,xA,gA⟩:=jdw ok [si a,si n] 135
 obtain⟨hB,eB,okB,nB,xB,gB⟩:=jdw okA [si k,si i] 135
 have yA:=(gB _ oa).trans xA
 rw[nA] at xB
 rcases hk with⟨h1,h2⟩ | ⟨h1,h2⟩
 .simp only at h1 h2
  have c1:((a:Int)=(k:Int))=True:=by grind
  have c2:(n<(i:Int))=True:=eq_true h2
  simp(disch:=go_num) only[go_sem,eA,nA,eB,yA,xB,c1,c2]
  exact⟨1,rfl⟩
 .simp only at h1 h2
  have c1:((a:Int)=(k:Int))=False:=by simp;omega
  simp(disch:=go_num) only[go_sem,eA,nA,eB,yA,xB,c1]
  unfold jw3
  simp(disch:=go_num) only[go_sem,yA,xB,qof h2]
  exact⟨1,rfl⟩
theorem jxb {h:Hp} {Q:AV->Hp->Prop} {a k i:Nat} (hk:KP idom (a,n) k i):WC F9 65 [.s (jaf jhf idom),.agg [si a,si n],.agg [si k,si i]] h Q=Q (vb true) h :=
 jam (jbg rfl (by simp[jaw,ja5,jbi,jdu,ja7,jbj,jbd,jbt,jbl]) (qa6 jdv hk))
def KT (idom:List Int) (T:List (Nat×Int)) (v k i:Nat):Prop:=∃ p,T[v]?=some p/\KP idom p k i
theorem qa7 {T:List (Nat×Int)} {l:List Ms.Opd} {k i:Nat} (hl:l.length<=10000) (hp:∀ o∈l,o.kind=1->KT idom T o.value k i) {Q:Ex->St->Prop} :
 ∀ (d j:Nat) (_:j+d=l.length) {hi:Hp} (_:Ok hi) {x14 x18 x20:AV}
  (hQ:∀ hj x14 x18 x20,Ok hj->hi.next<=hj.next->(∀ n,n<hi.next->hj.get n=hi.get n)->Q (.exit 4) (.mk [x0,.s (jaf jhf idom),x2,x3,x4,x5,x6,x7,x8,x9,x10,x11,x12,x13,x14,vi i,vi k,.s (jaf jir T),x18,.s (jaf jbc l),x20,vi l.length,vi l.length,x23,x24,x25,x26,x27,x28,x29,x30,x31,x32,x33] hj)),
  W F9 jkh.loop (.mk [x0,.s (jaf jhf idom),x2,x3,x4,x5,x6,x7,x8,x9,x10,x11,x12,x13,x14,vi i,vi k,.s (jaf jir T),x18,.s (jaf jbc l),x20,vi l.length,vi j,x23,x24,x25,x26,x27,x28,x29,x30,x31,x32,x33] hi) Q
 | 0,j,hd,hi,ok,x14,x18,x20,hQ=>by
  obtain rfl:j=l.length:=oa
  rw[jai]
  unfold jkh
  simp(disch:=go_num) only[go_sem,f0s]
  grind
 | d+1,j,hd,hi,ok,x14,x18,x20,hQ=>by
  have hlt:(j:Int)<(l.length:Int):=oa
  obtain⟨o,hio⟩:∃ y,l[j]?=some y:=⟨_,f0b oa⟩
  have ho:=hp o (f0c hio)
  have hix:=jaj (enc:=jbc) (size:=5) hio rfl
  have hs:(j:Int)+1=((j+1:Nat):Int):=oa
  obtain⟨hA,eA,okA,nA,xA,gA⟩:=jby ok Za (jbc o) 80
  unfold jbc at xA eA
  rw[jai]
  unfold jkh jwx
  by_cases e:o.kind=1
  .have c1:((o.kind:Int)=1)=True:=by simp;omega
   obtain⟨⟨pb,pn⟩,h1,h2⟩:=ho e
   have hxs:=jaj (enc:=jir) (size:=2) h1 rfl
   simp(disch:=go_num) only[go_sem,jad,eq_true hlt,hix,jbc,eA,xA,c1,hxs,jir,jxb h2,hs]
   exact qa7 hl hp d (j+1) oa okA (fun hj x14 x18 x20 o n g=>hQ hj x14 x18 x20 o oa (fun m hm=>(g m oa).trans (gA m hm)))
  .have c1:((o.kind:Int)=1)=False:=by simp;omega
   simp(disch:=go_num) only[go_sem,jad,eq_true hlt,hix,jbc,eA,xA,c1,hs]
   exact qa7 hl hp d (j+1) oa okA (fun hj x14 x18 x20 o n g=>hQ hj x14 x18 x20 o oa (fun m hm=>(g m oa).trans (gA m hm)))
theorem qi9 {T:List (Nat×Int)} {l:List Ms.Ins} {k:Nat} (hl:l.length<=10000) (hp:∀ (i:Nat) (x:Ms.Ins),l[i]?=some x->x.ops.length<=6/\∀ o∈x.ops,o.kind=1->KT idom T o.value k i) {Q:Ex->St->Prop} :
 ∀ (d j:Nat) (_:j+d=l.length) {hi:Hp} (_:Ok hi) {x14 x15 x18 x19 x20 x21 x22 x23 x25:AV}
  (hQ:∀ hj x14 x15 x18 x19 x20 x21 x22 x23 x25,Ok hj->hi.next<=hj.next->(∀ n,n<hi.next->hj.get n=hi.get n)->Q (.exit 2) (.mk [x0,.s (jaf jhf idom),x2,x3,x4,x5,x6,x7,x8,x9,x10,x11,x12,x13,x14,x15,vi k,.s (jaf jir T),x18,x19,x20,x21,x22,x23,.s (jaf jdd l),x25,vi l.length,vi l.length,x28,x29,x30,x31,x32,x33] hj)),
  W F9 jki.loop (.mk [x0,.s (jaf jhf idom),x2,x3,x4,x5,x6,x7,x8,x9,x10,x11,x12,x13,x14,x15,vi k,.s (jaf jir T),x18,x19,x20,x21,x22,x23,.s (jaf jdd l),x25,vi l.length,vi j,x28,x29,x30,x31,x32,x33] hi) Q
 | 0,j,hd,hi,ok,x14,x15,x18,x19,x20,x21,x22,x23,x25,hQ=>by
  obtain rfl:j=l.length:=oa
  rw[jai]
  unfold jki
  simp(disch:=go_num) only[go_sem,f0s]
  grind
 | d+1,j,hd,hi,ok,x14,x15,x18,x19,x20,x21,x22,x23,x25,hQ=>by
  have hlt:(j:Int)<(l.length:Int):=oa
  obtain⟨x,hio⟩:∃ y,l[j]?=some y:=⟨_,f0b oa⟩
  obtain⟨hx1,hx2⟩:=hp j x hio
  have hix:=jaj (enc:=jdd) (size:=3) hio rfl
  have hs:(j:Int)+1=((j+1:Nat):Int):=oa
  obtain⟨hA,eA,okA,nA,xA,gA⟩:=jby ok Zg (jdd x) 62
  have l1:=jah (enc:=jbc) (l:=x.ops)
  unfold jdd at xA eA
  rw[jai]
  unfold jki jwy
  simp(disch:=go_num) only[go_sem,jad,eq_true hlt,hix,jdd,eA,xA,l1]
  refine qa7 oa hx2 x.ops.length 0 oa okA (fun hj x14 x18 x20 o n g=>?_)
  simp(disch:=go_num) only[go_sem,jad,hs]
  exact qi9 hl hp d (j+1) oa o (fun hk x14 x15 x18 x19 x20 x21 x22 x23 x25 o' n' g'=>hQ hk x14 x15 x18 x19 x20 x21 x22 x23 x25 o' oa (fun m hm=>(g' m oa).trans ((g m oa).trans (gA m hm))))
theorem qja {T:List (Nat×Int)} {l:List Nat} {b:Blk} {k:Nat} (hl:l.length<=10000) (hp:∀ v∈l,KT idom T v k b.instrs.length) {Q:Ex->St->Prop} :
 ∀ (d j:Nat) (_:j+d=l.length) {hi:Hp} (_:Ok hi) (_:hi.get bB=some (.arr [jaf jav b.params,jaf jdd b.instrs,jaf jeo b.edges] 58)) {x3 x4 x6:AV}
  (hQ:∀ x3 x4 x6,Q (.exit 8) (.mk [x0,.s (jaf jhf idom),x2,x3,x4,.s (jaf jav l),x6,vi l.length,vi l.length,x9,x10,x11,x12,x13,x14,x15,vi k,.s (jaf jir T),x18,x19,x20,x21,x22,x23,x24,x25,x26,x27,.s (.ptr bB 0),x29,x30,x31,x32,x33] hi)),
  W F9 jkj.loop (.mk [x0,.s (jaf jhf idom),x2,x3,x4,.s (jaf jav l),x6,vi l.length,vi j,x9,x10,x11,x12,x13,x14,x15,vi k,.s (jaf jir T),x18,x19,x20,x21,x22,x23,x24,x25,x26,x27,.s (.ptr bB 0),x29,x30,x31,x32,x33] hi) Q
 | 0,j,hd,hi,ok,xB,x3,x4,x6,hQ=>by
  obtain rfl:j=l.length:=oa
  rw[jai]
  unfold jkj
  simp(disch:=go_num) only[go_sem,f0s]
  grind
 | d+1,j,hd,hi,ok,xB,x3,x4,x6,hQ=>by
  have hlt:(j:Int)<(l.length:Int):=oa
  obtain⟨v,hio⟩:∃ y,l[j]?=some y:=⟨_,f0b oa⟩
  obtain⟨⟨pb,pn⟩,h1,h2⟩:=hp v (f0c hio)
  have hix:=jaj (enc:=jav) (size:=1) hio rfl
  have hxs:=jaj (enc:=jir) (size:=2) h1 rfl
  have hs:(j:Int)+1=((j+1:Nat):Int):=oa
  have l1:=jah (enc:=jdd) (l:=b.instrs)
  rw[jai]
  unfold jkj jw0 jwz
  simp(disch:=go_num) only[go_sem,jad,eq_true hlt,hix,jav,hxs,jir,xB,l1,jxb h2,hs]
  exact qja hl hp d (j+1) oa ok xB hQ
theorem qjb {T:List (Nat×Int)} {l:List Ms.Edg} {b:Blk} {k:Nat} (hl:l.length<=10000) (hp:∀ e∈l,e.args.length<=10000/\∀ v∈e.args,KT idom T v k b.instrs.length) {Q:Ex->St->Prop} :
 ∀ (d j:Nat) (_:j+d=l.length) {hi:Hp} (_:Ok hi) (_:bB<hi.next) (_:hi.get bB=some (.arr [jaf jav b.params,jaf jdd b.instrs,jaf jeo b.edges] 58)) {x3 x4 x5 x6 x7 x8 x9 x11:AV}
  (hQ:∀ hj x3 x4 x5 x6 x7 x8 x9 x11,Ok hj->hi.next<=hj.next->(∀ n,n<hi.next->hj.get n=hi.get n)->Q (.exit 6) (.mk [x0,.s (jaf jhf idom),x2,x3,x4,x5,x6,x7,x8,x9,.s (jaf jeo l),x11,vi l.length,vi l.length,x14,x15,vi k,.s (jaf jir T),x18,x19,x20,x21,x22,x23,x24,x25,x26,x27,.s (.ptr bB 0),x29,x30,x31,x32,x33] hj)),
  W F9 jkk.loop (.mk [x0,.s (jaf jhf idom),x2,x3,x4,x5,x6,x7,x8,x9,.s (jaf jeo l),x11,vi l.length,vi j,x14,x15,vi k,.s (jaf jir T),x18,x19,x20,x21,x22,x23,x24,x25,x26,x27,.s (.ptr bB 0),x29,x30,x31,x32,x33] hi) Q
 | 0,j,hd,hi,ok,hb,xB,x3,x4,x5,x6,x7,x8,x9,x11,hQ=>by
  obtain rfl:j=l.length:=oa
  rw[jai]
  unfold jkk
  simp(disch:=go_num) only[go_sem,f0s]
  grind
 | d+1,j,hd,hi,ok,hb,xB,x3,x4,x5,x6,x7,x8,x9,x11,hQ=>by
  have hlt:(j:Int)<(l.length:Int):=oa
  obtain⟨e,hio⟩:∃ y,l[j]?=some y:=⟨_,f0b oa⟩
  obtain⟨he1,he2⟩:=hp e (f0c hio)
  have hix:=jaj (enc:=jeo) (size:=2) hio rfl
  have hs:(j:Int)+1=((j+1:Nat):Int):=oa
  obtain⟨hA,eA,okA,nA,xA,gA⟩:=jby ok Zh (jeo e) 65
  have yB:=(gA _ hb).trans xB
  have l1:=jah (enc:=jav) (l:=e.args)
  unfold jeo at xA eA
  rw[jai]
  unfold jkk jw1
  simp(disch:=go_num) only[go_sem,jad,eq_true hlt,hix,jeo,eA,xA,l1]
  refine qja he1 he2 e.args.length 0 oa okA yB (fun x3 x4 x6=>?_)
  simp(disch:=go_num) only[go_sem,jad,hs]
  exact qjb hl hp d (j+1) oa okA oa yB (fun hk x3 x4 x5 x6 x7 x8 x9 x11 o' n' g'=>hQ hk x3 x4 x5 x6 x7 x8 x9 x11 o' oa (fun m hm=>(g' m oa).trans (gA m hm)))
structure UsOk (idom:List Int) (f:Fc):Prop where
 nb:f.blocks.length<=10000
 sz:∀ b∈f.blocks,b.instrs.length<=10000/\b.edges.length<=10000
 us:∀ (k i:Nat) (b:Blk) (x:Ms.Ins),f.blocks[k]?=some b->b.instrs[i]?=some x->x.ops.length<=6/\∀ o∈x.ops,o.kind=1->KT idom (jes f) o.value k i
 ed:∀ (k:Nat) (b:Blk) (e:Ms.Edg),f.blocks[k]?=some b->e∈b.edges->e.args.length<=10000/\∀ v∈e.args,KT idom (jes f) v k b.instrs.length
theorem qjc {f:Fc} (u:UsOk idom f) {Q:Ex->St->Prop} :
 ∀ (d j:Nat) (_:j+d=f.blocks.length) {hi:Hp} (_:Ok hi) {x3 x4 x5 x6 x7 x8 x9 x10 x11 x12 x13 x14 x15 x16 x18 x19 x20 x21 x22 x23 x24 x25 x26 x27 x28 x30:AV}
  (hQ:∀ hj x3 x4 x5 x6 x7 x8 x9 x10 x11 x12 x13 x14 x15 x16 x18 x19 x20 x21 x22 x23 x24 x25 x26 x27 x28 x30,Q (.exit 0) (.mk [x0,.s (jaf jhf idom),x2,x3,x4,x5,x6,x7,x8,x9,x10,x11,x12,x13,x14,x15,x16,.s (jaf jir (jes f)),x18,x19,x20,x21,x22,x23,x24,x25,x26,x27,x28,.s (jaf ja6 f.blocks),x30,vi f.blocks.length,vi f.blocks.length,x33] hj)),
  W F9 jkl.loop (.mk [x0,.s (jaf jhf idom),x2,x3,x4,x5,x6,x7,x8,x9,x10,x11,x12,x13,x14,x15,x16,.s (jaf jir (jes f)),x18,x19,x20,x21,x22,x23,x24,x25,x26,x27,x28,.s (jaf ja6 f.blocks),x30,vi f.blocks.length,vi j,x33] hi) Q
 | 0,j,hd,hi,ok,x3,x4,x5,x6,x7,x8,x9,x10,x11,x12,x13,x14,x15,x16,x18,x19,x20,x21,x22,x23,x24,x25,x26,x27,x28,x30,hQ=>by
  obtain rfl:j=f.blocks.length:=oa
  rw[jai]
  unfold jkl
  simp(disch:=go_num) only[go_sem,f0s]
  grind
 | d+1,j,hd,hi,ok,x3,x4,x5,x6,x7,x8,x9,x10,x11,x12,x13,x14,x15,x16,x18,x19,x20,x21,x22,x23,x24,x25,x26,x27,x28,x30,hQ=>by
  have nb:=u.nb
  have hlt:(j:Int)<(f.blocks.length:Int):=oa
  obtain⟨b,hio⟩:∃ y,f.blocks[j]?=some y:=⟨_,f0b oa⟩
  obtain⟨s1,s2⟩:=u.sz b (f0c hio)
  have hix:=jaj (enc:=ja6) (size:=3) hio rfl
  have hs:(j:Int)+1=((j+1:Nat):Int):=oa
  obtain⟨hA,eA,okA,nA,xA,gA⟩:=jby ok Zi (ja6 b) 58
  have l1:=jah (enc:=jdd) (l:=b.instrs)
  have l2:=jah (enc:=jeo) (l:=b.edges)
  unfold ja6 at xA eA
  rw[jai]
  unfold jkl jw2
  simp(disch:=go_num) only[go_sem,jad,eq_true hlt,hix,ja6,eA,xA,l1]
  refine qi9 s1 (fun i x hx=>u.us j i b x hio hx) b.instrs.length 0 oa okA (fun hj x14 x15 x18 x19 x20 x21 x22 x23 x25 o n g=>?_)
  have yA:=(g _ oa).trans xA
  simp(disch:=go_num) only[go_sem,yA,l2]
  refine qjb s2 (fun e he=>u.ed j b e hio he) b.edges.length 0 oa o oa yA (fun hk x3 x4 x5 x6 x7 x8 x9 x11 o' n' g'=>?_)
  simp(disch:=go_num) only[go_sem,jad,hs]
  exact qjc u d (j+1) oa o' hQ
theorem qog {h:Hp} {Q:AV->Hp->Prop} {f:Fc} (hl:f.blocks.length<=10000) (hv:f.values.length<=10000) (hne:f.values≠[]) (hp:∀ b∈f.blocks,b.params.length<=10000/\b.instrs.length<=10000/\(∀ v∈b.params,v<f.values.length)/\∀ x∈b.instrs,x.ops.length<=6/\∀ o∈x.ops,o.value<f.values.length) :
 WC F9 64 [.agg [jaf jav f.values,jaf ja6 f.blocks]] h Q=Q (.s (jaf jir (jes f))) h :=
 jam ((ja0 rfl).trans (jbg rfl (by simp[jaw,ja5,jbi,ja7,jbj,jbd,jbl]) (qoe jdv hl hv hne hp)))
theorem qoh {h:Hp} (ok:Ok h) {f:Fc} (u:UsOk idom f) (hv:f.values.length<=10000) (hne:f.values≠[]) (hp:∀ b∈f.blocks,b.params.length<=10000/\b.instrs.length<=10000/\(∀ v∈b.params,v<f.values.length)/\∀ x∈b.instrs,x.ops.length<=6/\∀ o∈x.ops,o.value<f.values.length) :
 WC F9 44 [.agg [jaf jav f.values,jaf ja6 f.blocks],.s (jaf jhf idom)] h (fun v h'=>∃ d,jf9 true h' d v=some (vb true)):=by
 refine jaz (no9 rfl rfl rfl rfl rfl rfl rfl rfl rfl) qoa rfl ?_
 unfold j17
 obtain⟨hA,eA,okA,nA,xA,gA⟩:=jdw ok [jaf jav f.values,jaf ja6 f.blocks] 32
 have l2:=jah (enc:=ja6) (l:=f.blocks)
 simp(disch:=rfl) only[go_sem,eA,xA,qog u.nb hv hne hp,l2]
 refine qjc u f.blocks.length 0 oa okA (fun hj x3 x4 x5 x6 x7 x8 x9 x10 x11 x12 x13 x14 x15 x16 x18 x19 x20 x21 x22 x23 x24 x25 x26 x27 x28 x30=>?_)
 simp(disch:=go_num) only[go_sem]
 exact⟨1,rfl⟩
theorem jzl {α β:Type} (g:α->β):∀ (l:List α),(l.map (fun v=>(v,g v))).map (·.1)=l
 | []=>rfl
 | a::l=>congrArg (a::·) (jzl g l)
theorem qgh (b i:Nat) (ops:List Ms.Opd):(evO b i ops).map (·.1)=dfO ops:=jzl _ _
theorem j2a (b:Nat):∀ (l:List Ms.Ins) (i:Nat),(evI b i l).map (·.1)=(l.map jdb).flatten
 | [],i=>rfl
 | x::l,i=>by
  unfold evI
  rw[f20,qgh,j2a b l]
  rfl
theorem jtt:∀ (l:List Blk) (k:Nat),(evL k l).map (·.1)=jdo l
 | [],k=>rfl
 | b::l,k=>by
  unfold evL evB evP
  rw[f20,f20,j2a,jtt l,jzl]
  simp[jdo,js8]
theorem qa8 {b:Nat} {y:Ms.Ins} (hv:v∈jdb y):∀ {l:List Ms.Ins} {i j:Nat},l[i]?=some y->(v,(b,((j+i:Nat):Int)))∈evI b j l
 | [],i,j,h=>by simp at h
 | x::l,0,j,h=>by
  simp only[f1p,Option.some.injEq] at h
  subst h
  unfold evI
  exact f08 _ (f1j.2 ⟨v,hv,rfl⟩)
 | x::l,i+1,j,h=>by
  simp only[f2u] at h
  unfold evI
  have:=qa8 (b:=b) hv (j:=j+1) h
  rw[show j+1+i=j+(i+1) by omega] at this
  exact f04 _ this
theorem qa9 {b:Nat}:∀ {l:List Blk} {k:Nat} {i:Nat},b=k+i->jzj l v i n->(v,(b,n))∈evL k l
 | [],k,i,e,h=>by
  obtain⟨x,h1,_⟩:=h
  simp at h1
 | x::l,k,0,e,h=>by
  obtain⟨y,h1,h2⟩:=h
  simp only[f1p,Option.some.injEq] at h1
  subst h1
  rw[f1z] at e
  subst e
  unfold evL evB
  refine f08 _ ?_
  rcases h2 with⟨rfl,h2⟩ | ⟨i,y,rfl,h2,h3⟩
  .exact f08 _ (f1j.2 ⟨v,h2,rfl⟩)
  .have:=qa8 (b:=b) h3 (j:=0) h2
   rw[f1b] at this
   exact f04 _ this
 | x::l,k,i+1,e,h=>by
  unfold evL
  refine f04 _ (qa9 (i:=i) oa ?_)
  obtain⟨y,h1,h2⟩:=h
  exact⟨y,by simpa using h1,h2⟩
theorem qba:∀ (l:List (Nat×(Nat×Int))) (T:List (Nat×Int)),v∉l.map (·.1)->(spF T l)[v]?=T[v]?
 | [],T,_=>rfl
 | e::l,T,h=>by
  simp only[f0u,f0f,not_or] at h
  show(spF (T.set e.1 e.2) l)[v]?=_
  rw[qba l _ h.2,f2f (fun x=>h.1 x.symm)]
theorem qbb {p:Nat×Int}:∀ (l:List (Nat×(Nat×Int))) (T:List (Nat×Int)),(l.map (·.1)).Nodup->v<T.length->(v,p)∈l->(spF T l)[v]?=some p
 | [],T,_,_,h=>by cases h
 | e::l,T,hd,hv,h=>by
  rw[f0u,f0r] at hd
  show(spF (T.set e.1 e.2) l)[v]?=_
  rcases f0f.1 h with rfl | h
  .rw [qba l _ hd.1,List.getElem?_set_self hv]
  .exact qbb l _ hd.2 (by rw[f28];exact hv) h
theorem qgi {f:Fc} (hm:(jdo f.blocks).Perm (List.range f.values.length)) {b:Nat} (h:jzj f.blocks v b n):(jes f)[v]?=some (b,n):=by
 have hmem:=qa9 (k:=0) (i:=b) (f1b b).symm h
 have hk:v∈jdo f.blocks:=by rw[←jtt f.blocks 0];exact f1j.2 ⟨_,hmem,rfl⟩
 have hv:v<f.values.length:=List.mem_range.1 (hm.mem_iff.1 hk)
 unfold jes
 exact qbb _ _ (by rw[jtt];exact hm.nodup_iff.2 List.nodup_range) (by rw[f2l];exact hv) hmem
theorem jto.kt {f:Fc} (hm:(jdo f.blocks).Perm (List.range f.values.length)) {k i:Nat} (h:jto idom f.blocks v k i):KT idom (jes f) v k i:=by
 obtain⟨b,n,h1,h2⟩:=h
 exact⟨(b,n),qgi hm h1,h2⟩
def gPs (l:List Blk) (k:Nat):SV:=jaf jav (l.getD k jg9).params
def gIs (l:List Blk) (k:Nat):SV:=jaf jdd (l.getD k jg9).instrs
def gAs (l:List Blk) (k j:Nat):SV:=jaf jav ((l.getD k jg9).edges.getD j ⟨0,[]⟩).args
theorem qbc (a:Nat->SV):∀ (r p:List Ms.Edg),(∀ j,a j=jaf jav ((p++r).getD j ⟨0,[]⟩).args)->qu1 a p.length (r.map (·.block))=r.map jeo
 | [],p,h=>rfl
 | e::r,p,h=>by
  show[si e.block,a p.length]::qu1 a (p.length+1) (r.map (·.block))=jeo e::r.map jeo
  have h1:a p.length=jaf jav e.args:=by
   rw[h,f0p,f0x (f0h _)];simp
  have h2:=qbc a r (p++[e]) (fun j=>by rw[h];simp)
  rw[f0d] at h2
  rw[h1]
  exact congrArg _ h2
theorem qoi (a:Nat->SV) (l:List Ms.Edg) (h:∀ j,a j=jaf jav (l.getD j ⟨0,[]⟩).args):qu2 a (l.map (·.block))=jaf jeo l:=by
 cases l with
 | nil=>rfl
 | cons e r =>
  have:=qbc a (e::r) [] (by simpa using h)
  exact congrArg SV.lst this
theorem j2b (l:List Blk):∀ (r p:List Blk),p++r=l->qav (gPs l) (gIs l) (gAs l) p.length (grL r)=r.map ja6
 | [],p,h=>rfl
 | b::r,p,h=>by
  have hb:l.getD p.length jg9=b:=by rw[←h,f0p,f0x (f0h _)];simp
  show[gPs l p.length,gIs l p.length,qu2 (gAs l p.length) (qi1 b)]::qav (gPs l) (gIs l) (gAs l) (p.length+1) (grL r)=ja6 b::r.map ja6
  have h1:qu2 (gAs l p.length) (qi1 b)=jaf jeo b.edges:=qoi _ _ (fun j=>by unfold gAs;rw[hb])
  have h2:=j2b l r (p++[b]) (by rw[←h];simp)
  rw[f0d] at h2
  rw[h1]
  unfold gPs gIs
  rw[hb]
  exact congrArg _ h2
theorem jzm {f:Fc} (hne:f.blocks≠[]):[jaf jav f.values,jaf ja6 f.blocks]=qu3 (grL f.blocks) (jaf jav f.values) (gPs f.blocks) (gIs f.blocks) (gAs f.blocks):=by
 have h:=j2b f.blocks f.blocks [] rfl
 unfold qu3
 rw[show qav (gPs f.blocks) (gIs f.blocks) (gAs f.blocks) 0 (grL f.blocks)=f.blocks.map ja6 from h]
 cases e:f.blocks with
 | nil=>exact absurd e hne
 | cons b r=>rfl
section
variable {f:Fc} {s:List Bool} {h:Hp} {Q:AV->Hp->Prop}
theorem qgj (hs:s.length<=5) (hg:grL f.blocks=gS s) (hne:f.blocks≠[]):jc1 F8 42 [.agg [jaf jav f.values,jaf ja6 f.blocks]] h=some (.s (jaf jav (qau s 0)),h) :=
 jbg rfl (by simp only[jaw,ja5,jbi,jdu,ja7,jbj,jbd,jbt,jbu,jbl,if_true]) (by rw[jzm hne,hg];exact jpy (qz7 s hs _ _ _ _))
theorem qoj (hs:s.length<=5) (hg:grL f.blocks=gS s) (hne:f.blocks≠[]):jc1 F8 43 [.agg [jaf jav f.values,jaf ja6 f.blocks]] h=some (.s (jaf jqw (j5x (gS s))),h) :=
 jbg rfl (by simp only[jaw,ja5,jbi,jdu,ja7,jbj,jbd,jbt,jbu,jbl,if_true]) (by rw[jzm hne,hg];exact jpy (qz8 s hs _ _ _ _))
theorem qgk (hs:s.length<=5) (hg:grL f.blocks=gS s) (hne:f.blocks≠[]):jc1 F8 45 [.agg [jaf jav f.values,jaf ja6 f.blocks],.s (jaf jav (qau s 0))] h=some (.s (jaf jhf (jhe s)),h) :=
 jbg rfl (by simp only[jaw,ja5,jbi,jdu,ja7,jbj,jbd,jbt,jbu,jbl,if_true]) (by rw[jzm hne,hg];exact jpy (qz9 s hs _ _ _ _))
end
def shp:Nat->List (List Bool)
 | 0=>[[]]
 | n+1=>[]::((shp n).map (false::·)++(shp n).map (true::·))
theorem qbd:∀ (n:Nat) (s:List Bool),s.length<=n->s∈shp n
 | 0,s,h=>by
  have:=f1i (Nat.le_zero.1 h)
  subst this;exact f0v.2 rfl
 | n+1,[],h=>by unfold shp;simp
 | n+1,b::s,h=>by
  have:=qbd n s (by simpa using h)
  unfold shp
  refine f01 _ (f0e.2 ?_)
  cases b
  .exact .inl (f1j.2 ⟨s,this,rfl⟩)
  .exact .inr (f1j.2 ⟨s,this,rfl⟩)
theorem qok {P:List Bool->Bool} (h:(shp 5).all P=true) {s:List Bool} (hs:s.length<=5):P s=true:=f24.1 h s (qbd 5 s hs)
def q1d (g:List (List Nat)):Bool:=g.all (fun es=>es.length<=1||es.all (fun t=>((j5x g).getD t [0,0]).length<=1))
theorem qgl:(shp 5).all (fun s=>q1d (gS s))=true:=ka
theorem jtu:∀ (s:List Bool) (c:Nat),(qau s c).length=1+3*s.length
 | [],c=>rfl
 | false::s,c=>by simp[qau,jtu s];omega
 | true::s,c=>by simp[qau,jtu s];omega
structure FlG (m:Nat×Nat) (f:Fc) (s:List Bool):Prop where
 k:FcOk m f
 on:jl2 f=0
 hs:s.length<=5
 hg:grL f.blocks=gS s
 hv:f.values≠[]
structure FlOk (m:Nat×Nat) (f:Fc) (s:List Bool):Prop extends FlG m f s where
 us:UsOk (jhe s) f
theorem FlG.hne {m:Nat×Nat} {f:Fc} {s:List Bool} (o:FlG m f s):f.blocks≠[]:=f1v.1 (by have:=o.k.nb;omega)
theorem FlOk.len {m:Nat×Nat} {f:Fc} {s:List Bool} (o:FlOk m f s):f.blocks.length=1+3*s.length:=by rw[←jd4,o.hg,j16]
theorem qol {m:Nat×Nat} (m1:2<=m.1/\m.1<=10) (m2:2<=m.2/\m.2<=10) (l:List Pc):∃ s,FlOk m (jev m l) s/\(jdo (jev m l).blocks).Perm (List.range (jev m l).values.length) /\
 (∀ (k i:Nat) (b:Blk) (x:Ms.Ins) (o:Ms.Opd),(jev m l).blocks[k]?=some b->b.instrs[i]?=some x->o∈x.ops->o.kind=1->jto (jhe s) (jev m l).blocks o.value k i):=by
 obtain⟨k,kp,_⟩:=j1h m1 m2 l
 obtain⟨s,h1,h2,h3,h4⟩:=j5y m1 m2 l
 have hv:(jev m l).values≠[]:=by
  obtain⟨b,g,c,n,_⟩:=((jkf m1 m2).pieces (l.take 24)).bd.lay ⟨0,0,1,0,0,0,3⟩
  obtain⟨_,_,_,_,_,_,_,_,cs,e1,e2,_⟩:=qna ((jkf m1 m2).pieces (l.take 24)).v ⟨0,0,1,0,0,0,3⟩
  have:(jev m l).values=(jcp ((l.take 24).foldl jbs (jb7 m)) ⟨0,0,1,0,0,0,3⟩).values:=rfl
  rw[this,e2]
  rcases e1 with rfl | rfl<;>simp
 refine⟨s,⟨⟨k,qgc kp,h1,h2,hv⟩,⟨by have:=k.nb;omega,fun b hb=>by have:=k.blk b hb;omega,fun a i b x hb hx=>⟨(k.ins b (f0c hb) x (f0c hx)).nops,fun o ho hk=>jto.kt kp (h3 a i b x o hb hx ho hk)⟩,fun a b e hb he=>⟨?_,fun v hv=>jto.kt kp (h4 a b e v hb he hv)⟩⟩⟩,kp,h3⟩
 obtain⟨_,_,t,h5,h6,_⟩:=k.edg b (f0c hb) e he
 have h7:=(k.blk t (f0c h5)).1
 have:=congrArg List.length h6
 simp only[f03] at this
 omega
def S10 (f:FuncId):Bool:=Nat.beq f 44
def F10:Fns:=PX S10 F9
theorem q0c {A:Nat->Int}:Env Tryz.prog A tys F10:=jer q48
theorem q1e {f:FuncId} (h1:S1 f=false) (h2:Nat.beq f jgm.f=false) (h3:S3 f=false) (h4:S4 f=false) (h5:S5 f=false) (h6:S6 f=false) (h7:S7 f=false) (h8:S8 f=false) (h9:S9 f=false) (h10:S10 f=false) {h:Hp}:jc1 F10 f vs h=none:=(ja0 h10).trans (no9 h1 h2 h3 h4 h5 h6 h7 h8 h9)
section
variable {h:Hp} {m:Nat×Nat} {f:Fc} {s:List Bool} {Q:AV->Hp->Prop}
theorem qom {g:FuncId} (h9:S9 g=false) (h10:S10 g=false):jc1 F10 g vs h=jc1 F8 g vs h:=(ja0 h10).trans (ja0 h9)
theorem qgm (k:FcOk m f) (on:jl2 f=0) (m1:2<=m.1/\m.1<=10) (m2:2<=m.2/\m.2<=10):WC F10 41 [.agg [jaf jav f.values,jaf ja6 f.blocks],.agg [si m.1,si m.2]] h Q=Q (vi 0) h :=
 jam ((qom rfl rfl).trans ((ja0 rfl).trans (by rw[qtc k m1 m2,on];rfl)))
theorem j5z (o:FlG m f s):WC F10 42 [.agg [jaf jav f.values,jaf ja6 f.blocks]] h Q=Q (.s (jaf jav (qau s 0))) h:=jam ((qom rfl rfl).trans (qgj o.hs o.hg o.hne))
theorem qbe (o:FlG m f s):WC F10 43 [.agg [jaf jav f.values,jaf ja6 f.blocks]] h Q=Q (.s (jaf jqw (j5x (gS s)))) h:=jam ((qom rfl rfl).trans (qoj o.hs o.hg o.hne))
theorem j50 (o:FlG m f s):WC F10 45 [.agg [jaf jav f.values,jaf ja6 f.blocks],.s (jaf jav (qau s 0))] h Q=Q (.s (jaf jhf (jhe s))) h:=jam ((qom rfl rfl).trans (qgk o.hs o.hg o.hne))
theorem qgn (o:FlOk m f s):WC F10 44 [.agg [jaf jav f.values,jaf ja6 f.blocks],.s (jaf jhf (jhe s))] h Q=Q (vb true) h :=
 jam (jbg rfl (by simp only[jaw,ja5,jbi,jdu,ja7,jbj,jbd,jbt,jbu,jbl,if_true]) (qoh jdv o.us (by have:=o.k.nv;omega) o.hv (qar o.k)))
end
theorem FlG.pred {m:Nat×Nat} {f:Fc} {s:List Bool} (o:FlG m f s) {b:Blk} (hb:b∈f.blocks) (h:1<b.edges.length) {e:Ms.Edg} (he:e∈b.edges):∃ pl,(j5x (gS s))[e.block]?=some pl/\pl.length<=1:=by
 have h1:=qok qgl o.hs
 unfold q1d at h1
 rw[f24] at h1
 have h2:=h1 (qi1 b) (by rw[←o.hg];exact f1j.2 ⟨b,hb,rfl⟩)
 simp only[f2b,decide_eq_true_eq,f24] at h2
 have h3:=h2.resolve_left (by unfold qi1;rw[f03];omega) e.block (f1j.2 ⟨e,he,rfl⟩)
 rw[f0p] at h3
 cases hq:(j5x (gS s))[e.block]? with
 | none=>rw[hq] at h3;simp at h3
 | some pl=>rw[hq] at h3;exact⟨pl,rfl,h3⟩
theorem qbf {m:Nat×Nat} {f:Fc} (k:FcOk m f) {IL:List (List Nat)} (pr:∀ b∈f.blocks,1<b.edges.length->∀ e∈b.edges,∃ pl,IL[e.block]?=some pl/\pl.length<=1) {b:Blk} (hb:b∈f.blocks) {Q:Ex->St->Prop} :
 ∀ (d j:Nat) (_:j+d=b.edges.length) {hi:Hp} (_:Ok hi) (_:bB<hi.next) (_:hi.get bB=some (.arr [jaf jav b.params,jaf jdd b.instrs,jaf jeo b.edges] 58)) {x4 x5 x8:AV}
  (hQ:∀ hj x4 x5 x8,Ok hj->hi.next<=hj.next->(∀ n,n<hi.next->hj.get n=hi.get n)->Q (.exit 2) (.mk [x0,x1,x2,x3,x4,x5,.s (jaf jqw (IL)),.s (jaf jeo b.edges),x8,vi b.edges.length,vi b.edges.length,.s (.ptr bB 0),x12,x13,x14,x15,x16,x17,x18,x19,x20] hj)),
  W F10 jkm.loop (.mk [x0,x1,x2,x3,x4,x5,.s (jaf jqw (IL)),.s (jaf jeo b.edges),x8,vi b.edges.length,vi j,.s (.ptr bB 0),x12,x13,x14,x15,x16,x17,x18,x19,x20] hi) Q
 | 0,j,hd,hi,ok,hB,xB,x4,x5,x8,hQ=>by
  obtain rfl:j=b.edges.length:=oa
  rw[jai]
  unfold jkm
  simp(disch:=go_num) only[go_sem,f0s]
  exact hQ hi _ _ _ ok (f0h _) (fun _ _=>rfl)
 | d+1,j,hd,hi,ok,hB,xB,x4,x5,x8,hQ=>by
  have hlt:(j:Int)<(b.edges.length:Int):=oa
  have hne:=(k.blk b hb).2.2
  obtain⟨e,hio⟩:∃ y,b.edges[j]?=some y:=⟨_,f0b oa⟩
  have hix:=jaj (enc:=jeo) (size:=2) hio rfl
  have hs:(j:Int)+1=((j+1:Nat):Int):=oa
  obtain⟨hA,eA,okA,nA,xA,gA⟩:=jby ok Zh (jeo e) 65
  have yB:=(gA _ hB).trans xB
  have l2:=jah (enc:=jeo) (l:=b.edges)
  unfold jeo at xA eA
  rw[jai]
  unfold jkm jw5
  by_cases h1:1<b.edges.length
  .have c1:(1<(b.edges.length:Int))=True:=by simp;omega
   obtain⟨pl,h2,h3⟩:=pr b hb h1 e (f0c hio)
   have hxp:=jaj (enc:=jqw) (size:=1) h2 rfl
   have l3:=jah (enc:=jav) (l:=pl)
   have c2:(1<(pl.length:Int))=False:=by simp;omega
   simp(disch:=go_num) only[go_sem,jad,eq_true hlt,hix,jeo,eA,xA,yB,l2,c1,hxp,jqw,l3,c2,hs]
   exact qbf k pr hb d (j+1) oa okA oa yB (fun hj x4 x5 x8 ok' n g=>hQ hj x4 x5 x8 ok' oa (fun q hq=>(g q oa).trans (gA q hq)))
  .have c1:(1<(b.edges.length:Int))=False:=by simp;omega
   simp(disch:=go_num) only[go_sem,jad,eq_true hlt,hix,jeo,eA,xA,yB,l2,c1,hs]
   exact qbf k pr hb d (j+1) oa okA oa yB (fun hj x4 x5 x8 ok' n g=>hQ hj x4 x5 x8 ok' oa (fun q hq=>(g q oa).trans (gA q hq)))
theorem qjd {m:Nat×Nat} {f:Fc} (k:FcOk m f) {IL:List (List Nat)} (pr:∀ b∈f.blocks,1<b.edges.length->∀ e∈b.edges,∃ pl,IL[e.block]?=some pl/\pl.length<=1) {bF:Nat} {Q:Ex->St->Prop} :
 ∀ (d j:Nat) (_:j+d=f.blocks.length) {hi:Hp} (_:Ok hi) (_:bF<hi.next) {x4 x5 x7 x8 x9 x10 x11 x13:AV}
  (hQ:∀ hj x4 x5 x7 x8 x9 x10 x11 x13,Ok hj->hi.next<=hj.next->hj.get bF=hi.get bF->Q (.exit 0) (.mk [x0,x1,x2,x3,x4,x5,.s (jaf jqw (IL)),x7,x8,x9,x10,x11,.s (jaf ja6 f.blocks),x13,vi f.blocks.length,vi f.blocks.length,x16,x17,x18,x19,.s (.ptr bF 0)] hj)),
  W F10 jkn.loop (.mk [x0,x1,x2,x3,x4,x5,.s (jaf jqw (IL)),x7,x8,x9,x10,x11,.s (jaf ja6 f.blocks),x13,vi f.blocks.length,vi j,x16,x17,x18,x19,.s (.ptr bF 0)] hi) Q
 | 0,j,hd,hi,ok,hB,x4,x5,x7,x8,x9,x10,x11,x13,hQ=>by
  obtain rfl:j=f.blocks.length:=oa
  rw[jai]
  unfold jkn
  simp(disch:=go_num) only[go_sem,f0s]
  exact hQ hi _ _ _ _ _ _ _ _ ok (f0h _) rfl
 | d+1,j,hd,hi,ok,hB,x4,x5,x7,x8,x9,x10,x11,x13,hQ=>by
  have nb:=k.nb
  have hlt:(j:Int)<(f.blocks.length:Int):=oa
  obtain⟨b,hio⟩:∃ y,f.blocks[j]?=some y:=⟨_,f0b oa⟩
  have hbm:=f0c hio
  have hix:=jaj (enc:=ja6) (size:=3) hio rfl
  have hs:(j:Int)+1=((j+1:Nat):Int):=oa
  obtain⟨hA,eA,okA,nA,xA,gA⟩:=jby ok Zi (ja6 b) 58
  have l2:=jah (enc:=jeo) (l:=b.edges)
  unfold ja6 at xA eA
  rw[jai]
  unfold jkn jw6
  simp(disch:=go_num) only[go_sem,jad,eq_true hlt,hix,ja6,eA,xA,l2]
  refine qbf k pr hbm b.edges.length 0 oa okA oa xA (fun hj x4 x5 x8 ok' n g=>?_)
  simp(disch:=go_num) only[go_sem,jad,hs]
  exact qjd k pr d (j+1) oa ok' oa (fun hk x4 x5 x7 x8 x9 x10 x11 x13 o' n' g'=>hQ hk x4 x5 x7 x8 x9 x10 x11 x13 o' oa (g'.trans ((g _ oa).trans (gA _ hB))))
theorem qgo {h:Hp} (ok:Ok h) {m:Nat×Nat} {f:Fc} (k:FcOk m f) (on:jl2 f=0) (m1:2<=m.1/\m.1<=10) (m2:2<=m.2/\m.2<=10) {IL:List (List Nat)} {O:List Nat} {D:List Int} {r:Bool} (pr:∀ b∈f.blocks,1<b.edges.length->∀ e∈b.edges,∃ pl,IL[e.block]?=some pl/\pl.length<=1) (hl:f.blocks.length<=O.length)
 (hO:∀ h Q,WC F10 42 [.agg [jaf jav f.values,jaf ja6 f.blocks]] h Q=Q (.s (jaf jav O)) h) (hI:∀ h Q,WC F10 43 [.agg [jaf jav f.values,jaf ja6 f.blocks]] h Q=Q (.s (jaf jqw IL)) h)
 (hD:∀ h Q,WC F10 45 [.agg [jaf jav f.values,jaf ja6 f.blocks],.s (jaf jav O)] h Q=Q (.s (jaf jhf D)) h) (hU:∀ h Q,WC F10 44 [.agg [jaf jav f.values,jaf ja6 f.blocks],.s (jaf jhf D)] h Q=Q (vb r) h) :
 WC F10 23 [.agg [jaf jav f.values,jaf ja6 f.blocks],.agg [si m.1,si m.2]] h (fun v h'=>∃ d,jf9 true h' d v=some (vi (Bool.rec 10 0 r))):=by
 refine jaz (q1e rfl rfl rfl rfl rfl rfl rfl rfl rfl rfl) qoc rfl ?_
 unfold j19
 obtain⟨hA,eA,okA,nA,xA,gA⟩:=jdw ok [jaf jav f.values,jaf ja6 f.blocks] 32
 obtain⟨hB,eB,okB,nB,xB,gB⟩:=jdw okA [si m.1,si m.2] 28
 have yA:=(gB _ oa).trans xA
 rw[nA] at xB
 have l2:=jah (enc:=ja6) (l:=f.blocks)
 have l3:=jah (enc:=jav) (l:=O)
 have c1:((O.length:Int)<(f.blocks.length:Int))=False:=eq_false oa
 have hh:(hB.next<=h.next/\h.next<hB.next)=False:=eq_false oa
 simp(disch:=go_num) only[go_sem,eA,eB,nA,yA,xB,qgm k on m1 m2]
 unfold jxa jw4
 simp(disch:=go_num) only[go_sem,yA,xB,hO,l3,l2,c1,hh]
 unfold jw9
 simp(disch:=go_num) only[go_sem,yA,hI,l2]
 refine qjd k pr f.blocks.length 0 oa okB oa (fun hj x4 x5 x7 x8 x9 x10 x11 x13 o' n g=>?_)
 have zA:=g.trans yA
 have hh:(hj.next<=h.next/\h.next<hj.next)=False:=eq_false oa
 unfold jw7
 cases r with
 | false =>
  simp(disch:=go_num) only[go_sem,zA,hO,hD,hU,hh]
  exact⟨1,rfl⟩
 | true =>
  simp(disch:=go_num) only[go_sem,zA,hO,hD,hU,hh]
  unfold jw8
  simp(disch:=go_num) only[go_sem]
  exact⟨1,rfl⟩
theorem FlG.fck {h:Hp} (ok:Ok h) {m:Nat×Nat} {f:Fc} {s:List Bool} (o:FlG m f s) (m1:2<=m.1/\m.1<=10) (m2:2<=m.2/\m.2<=10) {r:Bool} (hU:∀ h Q,WC F10 44 [.agg [jaf jav f.values,jaf ja6 f.blocks],.s (jaf jhf (jhe s))] h Q=Q (vb r) h) :
 WC F10 23 [.agg [jaf jav f.values,jaf ja6 f.blocks],.agg [si m.1,si m.2]] h (fun v h'=>∃ d,jf9 true h' d v=some (vi (Bool.rec 10 0 r))) :=
 qgo ok o.k o.on m1 m2 (fun b hb h1 e he=>o.pred hb h1 he) (by rw[jtu,←jd4,o.hg,j16];exact f0h _) (fun _ _=>j5z o) (fun _ _=>qbe o) (fun _ _=>j50 o) hU
theorem qon {h:Hp} (ok:Ok h) {m:Nat×Nat} {f:Fc} {s:List Bool} (o:FlOk m f s) (m1:2<=m.1/\m.1<=10) (m2:2<=m.2/\m.2<=10):WC F10 23 [.agg [jaf jav f.values,jaf ja6 f.blocks],.agg [si m.1,si m.2]] h (fun v h'=>∃ d,jf9 true h' d v=some (vi 0)) :=
 o.toFlG.fck ok m1 m2 (r:=true) (fun _ _=>qgn o)
def S11 (f:FuncId):Bool:=Nat.beq f 23
def F11:Fns:=PX S11 F10
theorem q0d {A:Nat->Int}:Env Tryz.prog A tys F11:=jer q0c
theorem qgp {f:FuncId} (h1:S1 f=false) (h2:Nat.beq f jgm.f=false) (h3:S3 f=false) (h4:S4 f=false) (h5:S5 f=false) (h6:S6 f=false) (h7:S7 f=false) (h8:S8 f=false) (h9:S9 f=false) (h10:S10 f=false) (h11:S11 f=false) {h:Hp}:jc1 F11 f vs h=none:=(ja0 h11).trans (q1e h1 h2 h3 h4 h5 h6 h7 h8 h9 h10)
section
variable {h:Hp} {m:Nat×Nat} {f:Fc} {s:List Bool} {Q:AV->Hp->Prop}
theorem qoo (o:FlOk m f s) (m1:2<=m.1/\m.1<=10) (m2:2<=m.2/\m.2<=10):jc1 F11 23 [.agg [jaf jav f.values,jaf ja6 f.blocks],.agg [si m.1,si m.2]] h=some (vi 0,h):=jbg rfl (by simp only[jaw,ja5,jbi,jdu,ja7,jbj,jbd,jbt,jbu,jbl,if_true]) (qon jdv o m1 m2)
theorem j2c (o:FlOk m f s) (m1:2<=m.1/\m.1<=10) (m2:2<=m.2/\m.2<=10):WC F11 23 [.agg [jaf jav f.values,jaf ja6 f.blocks],.agg [si m.1,si m.2]] h Q=Q (vi 0) h:=jam (qoo o m1 m2)
end
theorem j2d {α:Type} {h:Hp} {d:Nat} {enc:α->List SV} {l:List α}:jfl true h (d+1) (jaf enc l)=some (jaf enc l):=by cases l<;>rfl
section
variable {h:Hp} {m:Nat×Nat} {f:Fc} {s:List Bool} {Q:AV->Hp->Prop}
end
end
end Go.Proofs.YtkpadfebkaangaaGreatDoor.Ev
