/- Graphs of functions built of pieces: each is a row of forks and loops. No program in sight. -/
import Derived.Test.YtkpadfebkaangaaGreatDoorGb
import Derived.Test.YtkpadfebkaangaaGreatDoorGT7
namespace Go.Proofs.YtkpadfebkaangaaGreatDoor.Ms
set_option linter.all false
variable {d i v:Nat}
def qjm (b:Blk):List Nat:=b.edges.map (·.block)
def grL (l:List Blk):List (List Nat):=l.map qjm
theorem qqd (l:List Blk) (k:Nat) (x:Ins):grL (jaw l k x)=grL l:=by
 unfold grL jaw
 apply f2v
 intro i
 rw[f1b,f1b,f1m]
 cases l[i]? with
 | none=>rfl
 | some b=>by_cases h:k=i<;>simp[h,qjm]
theorem qg1 (l:List Blk) (k to:Nat) (args:List Nat):grL (l.modify k (fun b=>{ b with edges:=b.edges++[(⟨to,args⟩:Edg)] }))=(grL l).modify k (·++[to]):=by
 unfold grL
 apply f2v
 intro i
 rw[f1b,f1m,f1m,f1b]
 cases l[i]? with
 | none=>rfl
 | some b=>by_cases h:k=i<;>simp[h,qjm]
theorem j2w (w:Ms) (p:Pc):(ja1 w p).2.blocks=w.blocks/\(ja1 w p).2.cur=w.cur:=by
 have hd:∀ (flags uses d i:Nat) (x:Iw×Nat×Ms),(jee p flags uses d i x).2.2.blocks=x.2.2.blocks/\(jee p flags uses d i x).2.2.cur=x.2.2.cur:=by
  intro flags uses d
  induction d with
  | zero=>exact fun i x=>⟨rfl,rfl⟩
  | succ d ih =>
   intro i x
   have e:(jfs p flags uses i x).2.2.blocks=x.2.2.blocks/\(jfs p flags uses i x).2.2.cur=x.2.2.cur:=by
    unfold jfs;simp only;split<;>exact⟨rfl,rfl⟩
   exact⟨(ih (i+1) (jfs p flags uses i x)).1.trans e.1,(ih (i+1) (jfs p flags uses i x)).2.trans e.2⟩
 unfold ja1
 exact hd _ _ _ _ _
theorem jhp (w:Ms) (p:Pc):grL (jct w p).blocks=grL w.blocks/\(jct w p).cur=w.cur:=by
 have h:=j2w w p
 unfold jct
 simp only[h.1,h.2]
 exact⟨qqd _ _ _,trivial⟩
theorem jgw (w:Ms) (cls:Nat) (p:Pc):grL (jac w cls p).2.blocks=grL w.blocks/\(jac w cls p).2.cur=w.cur:=by
 unfold jac
 split
 .exact ⟨rfl,rfl⟩
 .exact jhp w _
theorem jot (w:Ms) (cs:List Nat):grL (jaf w cs).blocks=grL w.blocks++[[]]:=by
 unfold grL jaf;simp[qjm]
theorem jnk (w:Ms) (k to:Nat) (args:List Nat):grL (jax w k to args).blocks=(grL w.blocks).modify k (·++[to]):=qg1 _ _ _ _
theorem qjn (p:Pc) (cls before e k:Nat) (lay:Bool) (w:Ms):grL (jiw p cls before e k lay w).2.blocks=(grL w.blocks).modify k (·++[e]):=by
 unfold jiw
 simp only
 rw[jnk,(jgw _ _ _).1,(jgw _ _ _).1]
 cases lay with
 | true=>simp only[if_true];rw[(jhp _ _).1]
 | false=>rfl
theorem jd8 (l:List Blk):(grL l).length=l.length:=f09 _
theorem jlc (w:Ms) (p:Pc):(jct w p).blocks.length=w.blocks.length:=by rw[←jd8,(jhp w p).1,jd8]
theorem jrx (w:Ms) (cls:Nat) (p:Pc):(jac w cls p).2.blocks.length=w.blocks.length:=by rw[←jd8,(jgw w cls p).1,jd8]
theorem jjz {α:Type} {l r:List α} {k:Nat} {f:α->α} (h:k<l.length):(l++r).modify k f=l.modify k f++r:=by
 apply f2v
 intro i
 rw[f1m]
 rcases f0m i l.length with h1 | h1
 .rw [f04 h1,f04 (by rw[f1f];exact h1),f1m]
 .rw [f0u h1,f0u (by rw[f1f];exact h1),f1f]
  have:¬ k=i:=oa
  cases r[i - l.length]?<;>simp[this]
theorem jeo {α:Type} {l r:List α} {k:Nat} {f:α->α}:(l++r).modify (l.length+k) f=l++r.modify k f:=by
 apply f2v
 intro i
 rw[f1m]
 rcases f0m i l.length with h1 | h1
 .rw [f04 h1,f04 h1]
  have:¬ l.length+k=i:=oa
  cases l[i]?<;>simp[this]
 .rw [f0u h1,f0u h1,f1m]
  by_cases h2:k=i - l.length
  .have:l.length+(i - l.length)=i:=oa
   subst h2
   cases r[i - l.length]?<;>simp[this]
  .have:¬ l.length+k=i:=oa
   cases r[i - l.length]?<;>simp[this,h2]
structure Gok (w:Ms) (s:List Bool):Prop where
 g:grL w.blocks=gS s
 cur:w.cur+1=w.blocks.length
theorem qc8 (s:List Bool) (b:Bool):gS (s++[b])=j8d (gS s) b:=by unfold gS;rw[List.foldl_append];rfl
theorem j5i:∀ (s:List Bool),(gS s).length=1+3*s.length:=fun s=>by
 have h:∀ (s:List Bool) (g:List (List Nat)),(s.foldl j8d g).length=g.length+3*s.length:=by
  intro s
  induction s with
  | nil=>intro g;simp
  | cons b s ih =>
   intro g
   rw[f28,ih]
   unfold j8d
   cases b<;>simp<;>omega
 exact h s [[]]
theorem Gok.fork {w:Ms} {s:List Bool} (k:Gok w s) (p:Pc):Gok (jft w p) (s++[false]):=by
 have hl:(gS s).length=w.blocks.length:=by rw[←k.g,jd8]
 have hc:=k.cur
 refine⟨?_,?_⟩
 .unfold jft
  simp only[qjn,jnk,jot,jlc,(jhp w p).1,(jhp w p).2,k.g]
  rw[qc8]
  unfold j8d
  simp only
  rw[hl]
  rw[f0n,f0n]
  have e1:w.cur=w.blocks.length - 1:=oa
  rw[jjz oa,jjz (by rw[f1f];omega)]
  have e2:((gS s).modify w.cur (·++[w.blocks.length])).modify w.cur (·++[w.blocks.length+1])=(gS s).modify (w.blocks.length - 1) (·++[w.blocks.length,w.blocks.length+1]):=by
   rw[e1]
   apply f2v
   intro i
   simp only[f1m]
   cases (gS s)[i]? with
   | none=>rfl
   | some x=>by_cases h:w.blocks.length - 1=i<;>simp[h]
  rw[e2]
  have hl2:((gS s).modify (w.blocks.length - 1) (·++[w.blocks.length,w.blocks.length+1])).length=w.blocks.length:=by rw[f1f];exact hl
  generalize (gS s).modify (w.blocks.length - 1) (·++[w.blocks.length,w.blocks.length+1])=g at *
  have e3:=jeo (l:=g) (r:=[[],[],[]]) (k:=0) (f:=(·++[w.blocks.length+2]))
  have e4:=jeo (l:=g) (r:=[[w.blocks.length+2],[],[]]) (k:=1) (f:=(·++[w.blocks.length+2]))
  rw[hl2] at e3 e4
  rw[f1l] at e3
  refine(congrArg (fun l=>List.modify l (w.blocks.length+1) (·++[w.blocks.length+2])) e3).trans ?_
  exact e4
 .have h:(jft w p).blocks.length=w.blocks.length+3:=by
   rw[←jd8]
   unfold jft
   simp only[qjn,jnk,jot,(jhp w p).1,f1f,f0f,jd8,f0l,f06]
  rw[h]
  unfold jft
  simp only[jlc]
theorem Gok.loop {w:Ms} {s:List Bool} (k:Gok w s) (p:Pc):Gok (jgt w p) (s++[true]):=by
 have hl:(gS s).length=w.blocks.length:=by rw[←k.g,jd8]
 have hc:=k.cur
 have hb:∀ (u:Ms) (cs:List Nat),(jaf u cs).blocks.length=u.blocks.length+1:=fun u cs=>by simp[jaf]
 have he:∀ (u:Ms) (k to:Nat) (a:List Nat),(jax u k to a).blocks.length=u.blocks.length:=fun u k to a=>by simp[jax]
 have hbc:∀ (u:Ms) (cs:List Nat),(jaf u cs).cur=u.cur:=fun u cs=>rfl
 refine⟨?_,?_⟩
 .unfold jgt
  simp only[jnk,(jgw _ _ _).1,(jhp _ _).1,jot,jrx,jlc,hb,he,hbc,(jgw _ _ _).2,(jhp _ _).2,k.g]
  rw[qc8]
  unfold j8d
  simp only
  rw[hl]
  have e1:w.cur=w.blocks.length - 1:=oa
  rw[jjz (l:=gS s) (r:=[[]]) (k:=w.cur) oa,e1]
  have hl2:((gS s).modify (w.blocks.length - 1) (·++[w.blocks.length])).length=w.blocks.length:=by rw[f1f];exact hl
  generalize (gS s).modify (w.blocks.length - 1) (·++[w.blocks.length])=g at *
  rw[f0n,f0n]
  have e3:=jeo (l:=g) (r:=[[],[],[]]) (k:=0) (f:=(·++[w.blocks.length+1]))
  have e4:=jeo (l:=g) (r:=[[w.blocks.length+1],[],[]]) (k:=0) (f:=(·++[w.blocks.length+1+1]))
  have e5:=jeo (l:=g) (r:=[[w.blocks.length+1,w.blocks.length+2],[],[]]) (k:=1) (f:=(·++[w.blocks.length]))
  rw[hl2] at e3 e4 e5
  rw[f1l] at e3 e4
  refine(congrArg (fun l=>List.modify (List.modify l w.blocks.length (·++[w.blocks.length+1+1])) (w.blocks.length+1) (·++[w.blocks.length])) e3).trans ?_
  refine(congrArg (fun l=>List.modify l (w.blocks.length+1) (·++[w.blocks.length])) e4).trans ?_
  exact e5
 .have h:(jgt w p).blocks.length=w.blocks.length+3:=by
   rw[←jd8]
   unfold jgt
   simp only[jnk,(jgw _ _ _).1,(jhp _ _).1,jot,f1f,f0f,jd8,f0l,f06]
  rw[h]
  unfold jgt
  simp only[jnk,jrx,jlc,hb,he]
inductive Dom (idom:List Int) (a:Nat):Int->Prop
 | refl:Dom idom a a
 | step {b:Nat} {c:Int}:idom[b]?=some c->Dom idom a c->Dom idom a b
theorem Dom.app {idom r:List Int} {a:Nat} {b:Int} (h:Dom idom a b):Dom (idom++r) a b:=by
 induction h with
 | refl=>exact .refl
 | @step b c h1 _ ih =>
  refine .step  ?_ ih
  grind
def j2x (l:List Blk) (v b:Nat) (n:Int):Prop:=∃ x,l[b]?=some x/\((n=-1/\v∈x.params)∨∃ (i:Nat) (y:Ins),n=(i:Int)/\x.instrs[i]?=some y/\v∈jdd y)
def jws (idom:List Int) (l:List Blk) (v k i:Nat):Prop:=∃ b n,j2x l v b n/\((b=k/\n<(i:Int))∨(b≠k/\Dom idom b k))
def Ext (l l':List Blk):Prop:=∀ (k:Nat) (b:Blk),l[k]?=some b->∃ b',l'[k]?=some b'/\b'.params=b.params/\∃ r,b'.instrs=b.instrs++r
theorem Ext.refl (l:List Blk):Ext l l:=fun k b h=>⟨b,h,rfl,[],sc⟩
theorem Ext.trans {a b c:List Blk} (x:Ext a b) (y:Ext b c):Ext a c:=fun k t h=>by
 obtain⟨t1,h1,e1,r1,f1⟩:=x k t h
 obtain⟨t2,h2,e2,r2,f2⟩:=y k t1 h1
 grind
theorem qqe {α:Type} {l r:List α} {x:α} (h:l[i]?=some x):(l++r)[i]?=some x:=by
 grind
theorem j2x.ext {l l':List Blk} (e:Ext l l') {b:Nat} {n:Int} (h:j2x l v b n):j2x l' v b n:=by
 obtain⟨x,h1,h2⟩:=h
 obtain⟨x',h3,h4,r,h5⟩:=e b x h1
 refine⟨x',h3,?_⟩
 grind
theorem jws.ext {idom:List Int} {l l':List Blk} (e:Ext l l') {k:Nat} (h:jws idom l v k i):jws idom l' v k i:=by
 obtain⟨b,n,h1,h2⟩:=h
 exact⟨b,n,h1.ext e,h2⟩
theorem jws.le {idom:List Int} {l:List Blk} {k j:Nat} (h:jws idom l v k i) (hij:i<=j):jws idom l v k j:=by
 obtain⟨b,n,h1,h2⟩:=h
 exact⟨b,n,h1,h2.imp (fun h=>⟨h.1,oa⟩) id⟩
theorem jws.app {idom r:List Int} {l:List Blk} {k:Nat} (h:jws idom l v k i):jws (idom++r) l v k i:=by
 obtain⟨b,n,h1,h2⟩:=h
 exact⟨b,n,h1,h2.imp id fun h=>⟨h.1,h.2.app⟩⟩
def KnW (idom:List Int) (l:List Blk) (cur v:Nat):Prop:=∃ b n,j2x l v b n/\Dom idom b cur
theorem KnW.ext {idom:List Int} {l l':List Blk} (e:Ext l l') {c:Nat} (h:KnW idom l c v):KnW idom l' c v:=by
 obtain⟨b,n,h1,h2⟩:=h
 exact⟨b,n,h1.ext e,h2⟩
theorem KnW.down {idom:List Int} {l:List Blk} {c:Nat} (h:KnW idom l c v) (hd:idom[d]?=some (c:Int)):KnW idom l d v:=by
 obtain⟨b,n,h1,h2⟩:=h
 exact⟨b,n,h1,.step hd h2⟩
theorem KnW.at {idom:List Int} {l:List Blk} {c:Nat} (h:KnW idom l c v) {x:Blk} (hx:l[c]?=some x):jws idom l v c x.instrs.length:=by
 obtain⟨b,n,h1,h2⟩:=h
 refine⟨b,n,h1,?_⟩
 by_cases e:b=c
 .obtain ⟨y,h3,h4⟩:=h1
  grind
 grind
structure Kok (idom:List Int) (w:Ms):Prop where
 kn:∀ v∈w.known,KnW idom w.blocks w.cur v
 us:∀ (k i:Nat) (b:Blk) (x:Ins) (o:Opd),w.blocks[k]?=some b->b.instrs[i]?=some x->o∈x.ops->o.kind=1->jws idom w.blocks o.value k i
 ed:∀ (k:Nat) (b:Blk) (e:Edg) (v:Nat),w.blocks[k]?=some b->e∈b.edges->v∈e.args->jws idom w.blocks v k b.instrs.length
theorem Kok.app {idom r:List Int} {w:Ms} (k:Kok idom w):Kok (idom++r) w :=
 ⟨fun v hv=>(k.kn v hv).imp fun b ⟨n,h1,h2⟩=>⟨n,h1,h2.app⟩,fun a i b x o h1 h2 h3 h4=>(k.us a i b x o h1 h2 h3 h4).app,fun a b e v h1 h2 h3=>(k.ed a b e v h1 h2 h3).app⟩
theorem Kok.set {idom:List Int} {w:Ms} (k:Kok idom w) {c:Nat} {kn:List Nat} (h:∀ v∈kn,KnW idom w.blocks c v):Kok idom { w with cur:=c,known:=kn }:=⟨h,k.us,k.ed⟩
theorem qqf {l:List Blk} (k:Nat) (x:Ins):Ext l (jaw l k x):=fun j b h=>by
 unfold jaw
 by_cases e:k=j
 .simp_all
 simp_all
theorem qg2 {l:List Blk} (k:Nat) (f:List Edg->List Edg):Ext l (l.modify k (fun b=>{ b with edges:=f b.edges })):=fun j b h=>by
 by_cases e:k=j
 .simp_all
 simp_all
theorem qc9 {l:List Blk} (b:Blk):Ext l (l++[b]):=fun j x h=>⟨x,qqe h,rfl,[],sc⟩
theorem Kok.lay {idom:List Int} {w:Ms} (k:Kok idom w) (v:Vok w) (p:Pc):Kok idom (jct w p)/\Ext w.blocks (jct w p).blocks:=by
 obtain⟨cs,h1,h2,h3,h4,h5,h6,h7⟩:=jzr v.mm v.cls v.kn p
 have hcur:=v.cur
 obtain⟨c,hc⟩:∃ c,w.blocks[w.cur]?=some c:=⟨_,f0b hcur⟩
 unfold jct
 simp only[h3]
 obtain⟨x,hx⟩:∃ x,(ja1 w p).1=x:=⟨_,rfl⟩
 rw[hx] at h5 h7 ⊢
 have ex:Ext w.blocks (jaw w.blocks w.cur x):=qqf _ _
 have hnew:(jaw w.blocks w.cur x)[w.cur]?=some { c with instrs:=c.instrs++[x] }:=by
  unfold jaw;rw[f1m,hc];simp
 have back:∀ (j:Nat) (b:Blk),(jaw w.blocks w.cur x)[j]?=some b->(j≠w.cur/\w.blocks[j]?=some b)∨(j=w.cur/\b={ c with instrs:=c.instrs++[x] }):=fun j b hb=>by
  by_cases e:j=w.cur
  .right;subst e;rw[hnew] at hb;exact⟨rfl,(Option.some.inj hb).symm⟩
  .left
   refine⟨e,?_⟩
   unfold jaw at hb
   rw[f1m] at hb
   have e':¬ w.cur=j:=fun h=>e h.symm
   cases h:w.blocks[j]? with
   | none=>rw[h] at hb;cases hb
   | some y=>rw[h] at hb;simpa[e'] using hb
 refine⟨⟨fun u hu=>?_,fun j i b y o hb hy ho hk=>?_,fun j b e u hb he hu=>?_⟩,ex⟩
 .simp only at hu ⊢
  rcases f0d.1 hu with hu | hu
  .exact (k.kn u hu).ext ex
  .exact ⟨w.cur,c.instrs.length,⟨_,hnew,.inr ⟨c.instrs.length,x,rfl,sc,hu⟩⟩,.refl⟩
 .simp only at hb ⊢
  rcases back j b hb with⟨_,hb⟩ | ⟨rfl,rfl⟩
  .exact (k.us j i b y o hb hy ho hk).ext ex
  .simp only at hy
   rcases jf9 hy with⟨_,hy⟩ | ⟨rfl,rfl⟩
   .exact (k.us _ i c y o hc hy ho hk).ext ex
   .exact ((k.kn _ (h7 o ho hk)).at hc).ext ex
 .simp only at hb ⊢
  rcases back j b hb with⟨_,hb⟩ | ⟨rfl,rfl⟩
  .exact (k.ed j b e u hb he hu).ext ex
  .exact ((k.ed _ c e u hc he hu).ext ex).le sc
theorem Kok.block {idom:List Int} {w:Ms} (k:Kok idom w) (cs:List Nat):Kok idom (jaf w cs)/\Ext w.blocks (jaf w cs).blocks:=by
 have ex:Ext w.blocks (jaf w cs).blocks:=qc9 _
 have back:∀ (j:Nat) (b:Blk),(jaf w cs).blocks[j]?=some b->w.blocks[j]?=some b∨b.instrs=[]/\b.edges=[]:=fun j b hb=>by
  rcases jf9 hb with⟨_,h⟩ | ⟨_,rfl⟩
  .grind
  simp
 refine⟨⟨fun u hu=>(k.kn u hu).ext ex,fun j i b y o hb hy ho hk=>?_,fun j b e u hb he hu=>?_⟩,ex⟩
 .rcases back j b hb with hb | ⟨hb,_⟩
  .exact (k.us j i b y o hb hy ho hk).ext ex
  grind
 .rcases back j b hb with hb | ⟨_,hb⟩
  .exact (k.ed j b e u hb he hu).ext ex
  grind
theorem Kok.edge {idom:List Int} {w:Ms} (k:Kok idom w) {j to:Nat} {args:List Nat} (hj:j<w.blocks.length) (ha:args=[]∨j=w.cur) (hk:∀ u∈args,KnW idom w.blocks j u):Kok idom (jax w j to args)/\Ext w.blocks (jax w j to args).blocks:=by
 have ex:Ext w.blocks (jax w j to args).blocks:=qg2 j (fun l=>l++[⟨to,args⟩])
 have back:∀ (i:Nat) (b:Blk),(jax w j to args).blocks[i]?=some b->∃ b',w.blocks[i]?=some b'/\b.instrs=b'.instrs/\∀ e∈b.edges,e∈b'.edges∨i=j/\e=⟨to,args⟩:=fun i b hb=>by
  unfold jax at hb
  grind
 refine⟨⟨fun u hu=>(k.kn u hu).ext ex,fun i n b y o hb hy ho hk=>?_,fun i b e u hb he hu=>?_⟩,ex⟩
 .obtain ⟨b',h1,h2,_⟩:=back i b hb
  exact(k.us i n b' y o h1 (h2▸hy) ho hk).ext ex
 .obtain ⟨b',h1,h2,h3⟩:=back i b hb
  rw[h2]
  rcases h3 e he with h4 | ⟨rfl,rfl⟩
  .exact (k.ed i b' e u h1 h4 hu).ext ex
  .exact ((hk u hu).at h1).ext ex
theorem Kok.newest {idom:List Int} {w:Ms} (k:Kok idom w) (v:Vok w) {cls:Nat} (hc:cls<2) (p:Pc):Kok idom (jac w cls p).2/\Ext w.blocks (jac w cls p).2.blocks:=by
 unfold jac
 split
 .grind[Ext.refl]
 .exact k.lay v _
section
variable {w:Ms} {nv nb s:Nat} {L E:Nat->Nat} {idom:List Int}
theorem KnW.all {l l':List Blk} (e:Ext l l') {c:Nat} {kn:List Nat} (h:∀ u∈kn,KnW idom l c u) (hd:idom[d]?=some (c:Int)):∀ u∈kn,KnW idom l' d u:=fun u hu=>((h u hu).ext e).down hd
theorem Kok.setk (k:Kok idom w) {kn:List Nat} (h:∀ v∈kn,KnW idom w.blocks w.cur v):Kok idom { w with known:=kn }:=⟨h,k.us,k.ed⟩
theorem qjo (b:Bd w nv nb s L E) (kk:Kok idom w) {cls:Nat} (hc:cls<2) (p:Pc) {e k:Nat} (lay:Bool) (hk:k<nb) (he:1<=e) (ht:Tg w e [cls,0]) (hE:E k=0) {c:Nat} (hd:idom[k]?=some (c:Int)) (hkn:∀ u∈w.known,KnW idom w.blocks c u) :
 Kok idom (jiw p cls w.known.length e k lay w).2/\(jiw p cls w.known.length e k lay w).2.known=w.known/\Ext w.blocks (jiw p cls w.known.length e k lay w).2.blocks/\(jiw p cls w.known.length e k lay w).2.cur=k:=by
 have b0:Bd { w with cur:=k } nv nb s L E:=b.set (kn:=w.known) hk b.v.kn
 have k0:Kok idom { w with cur:=k }:=kk.set (kn:=w.known) (KnW.all (Ext.refl _) hkn hd)
 obtain⟨q,hq⟩:∃ q:Pc,(if lay then { { p with a:=inc p.a } with op:=inc p.op } else { p with a:=inc p.a })=q:=⟨_,rfl⟩
 have h1:∃ w1,(if lay then jct { w with cur:=k } q else { w with cur:=k })=w1/\Bd w1 (nv+2) nb (s+1) (up L k) E/\Gr w w1/\w1.cur=k/\(∃ r,w1.known=w.known++r)/\Kok idom w1/\Ext w.blocks w1.blocks:=by
  cases lay with
  | true =>
   obtain⟨a1,a2,a3,a4,r,a5⟩:=b0.lay q
   obtain⟨c1,c2⟩:=k0.lay b0.v q
   exact⟨_,rfl,a1,(Gr.set w k w.known).trans a2,a3,⟨r,a5⟩,c1,c2⟩
  | false=>exact⟨_,rfl,b0.le oa oa (fun j=>by unfold up;omega),Gr.set w k w.known,rfl,⟨[],sc⟩,k0,Ext.refl _⟩
 obtain⟨w1,e1,b1,g1,c1,⟨r1,k1⟩,o1,x1⟩:=h1
 obtain⟨b2,g2,c2,l2,d2,r2,k2⟩:=b1.newest hc q
 obtain⟨o2,x2⟩:=o1.newest b1.v hc q
 have m2:=(jhd b1.v hc q).2.2.2.2.2.2.2.2.1
 obtain⟨b3,g3,c3,l3,d3,r3,k3⟩:=b2.newest (cls:=0) oa q
 obtain⟨o3,x3⟩:=o2.newest b2.v (cls:=0) oa q
 have m3:=(jhd b2.v (cls:=0) oa q).2.2.2.2.2.2.2.2.1
 have c4:(jac (jac w1 cls q).2 0 q).2.cur=k:=c3.trans (c2.trans c1)
 have kv:KnW idom (jac (jac w1 cls q).2 0 q).2.blocks k (jac w1 cls q).1:=by
  have:=o3.kn (jac w1 cls q).1 (by rw[k3];exact f07 _ m2)
  rwa [c4] at this
 have kz:KnW idom (jac (jac w1 cls q).2 0 q).2.blocks k (jac (jac w1 cls q).2 0 q).1:=by
  have:=o3.kn _ m3
  rwa [c4] at this
 obtain⟨o4,x4⟩:=o3.edge (j:=k) (to:=e) (args:=[(jac w1 cls q).1,(jac (jac w1 cls q).2 0 q).1]) (by rw[b3.nb];exact hk) (.inr c4.symm) (fun u hu=>by
  simp only[f0e,f1k,or_false] at hu
  rcases hu with rfl | rfl<;>assumption)
 have eq:(jiw p cls w.known.length e k lay w).2={ (jax (jac (jac w1 cls q).2 0 q).2 k e [(jac w1 cls q).1,(jac (jac w1 cls q).2 0 q).1]) with known:=(jax (jac (jac w1 cls q).2 0 q).2 k e [(jac w1 cls q).1,(jac (jac w1 cls q).2 0 q).1]).known.take w.known.length }:=by
  unfold jiw
  simp only[hq,e1]
 have xx:=((x1.trans x2).trans x3).trans x4
 have hkw:(jax (jac (jac w1 cls q).2 0 q).2 k e [(jac w1 cls q).1,(jac (jac w1 cls q).2 0 q).1]).known.take w.known.length=w.known:=by
  simp only[jax,k3,k2,k1,f0n,List.take_left]
 rw[eq,hkw]
 refine⟨?_,rfl,xx,c4⟩
 have hcur:(jax (jac (jac w1 cls q).2 0 q).2 k e [(jac w1 cls q).1,(jac (jac w1 cls q).2 0 q).1]).cur=k:=c4
 exact o4.setk (fun u hu=>by rw[hcur];exact KnW.all xx hkn hd u hu)
theorem qqg (b:Bd w nv nb s L E) (kk:Kok idom w) (h0:E w.cur=0) (p:Pc) (i1:idom[nb]?=some (w.cur:Int)) (i2:idom[nb+1]?=some (w.cur:Int)) (i3:idom[nb+2]?=some (w.cur:Int)):Kok idom (jft w p):=by
 have hc:pk p.c 2<2:=pkl oa
 obtain⟨w1,e1⟩:∃ w1,jct w p=w1:=⟨_,rfl⟩
 obtain⟨b1,g1,c1,n1,r1,k1⟩:=b.lay p
 obtain⟨o1,x1⟩:=kk.lay b.v p
 rw[e1] at b1 g1 c1 n1 k1 o1 x1
 have hcur:w.cur<nb:=by rw[←b.nb];exact b.v.cur
 obtain⟨w4,e4⟩:∃ w4,jaf (jaf (jaf w1 []) []) [pk p.c 2,0]=w4:=⟨_,rfl⟩
 obtain⟨b2,g2,t2⟩:=b1.block (cs:=[]) sc sc
 obtain⟨b3,g3,t3⟩:=b2.block (cs:=[]) sc sc
 obtain⟨b4,g4,t4⟩:=b3.block (cs:=[pk p.c 2,0]) sc (fun c h=>by
  simp only[f0e,f1k,or_false] at h;omega)
 obtain⟨o2,x2⟩:=o1.block []
 obtain⟨o3,x3⟩:=o2.block []
 obtain⟨o4,x4⟩:=o3.block [pk p.c 2,0]
 have kn4:w4.known=w1.known:=by rw[←e4];rfl
 have cu4:w4.cur=w.cur:=by rw[←e4];exact c1
 have end4:w4.blocks[nb+2]?=some ⟨List.range' (jaf (jaf w1 []) []).values.length 2,[],[]⟩:=by
  rw[←e4]
  unfold jaf
  simp only
  rw[f0u (by simp[b1.nb])]
  simp[b1.nb]
 rw[e4] at b4 g4 t4 o4 x4
 have g14:=(g2.trans g3).trans g4
 have ta:Tg w4 nb []:=(t2.gr g3).gr g4
 have tb:Tg w4 (nb+1) []:=t3.gr g4
 obtain⟨b5,g5⟩:=b4.edge (k:=w.cur) (to:=nb) (args:=[]) oa oa ta rfl sc (.inl h0)
 obtain⟨o5,x5⟩:=o4.edge (j:=w.cur) (to:=nb) (args:=[]) (by rw[b4.nb];omega) (.inl rfl) sc
 obtain⟨b6,g6⟩:=b5.edge (k:=w.cur) (to:=nb+1) (args:=[]) oa oa (tb.gr g5) rfl sc (.inr (by
  have:=(g14.trans g5).len w.cur;omega))
 obtain⟨o6,x6⟩:=o5.edge (j:=w.cur) (to:=nb+1) (args:=[]) (by rw[b5.nb];omega) (.inl rfl) sc
 obtain⟨w6,e6⟩:∃ w6,jax (jax w4 w.cur nb []) w.cur (nb+1) []=w6:=⟨_,rfl⟩
 have kn6:w6.known=w1.known:=by rw[←e6];exact kn4
 have cu6:w6.cur=w.cur:=by rw[←e6];exact cu4
 rw[e6] at b6 g6 o6 x6
 have t6:Tg w6 (nb+2) [pk p.c 2,0]:=(t4.gr g5).gr g6
 have z1:up (up E w.cur) w.cur nb=0:=by rw[jfo oa,jfo oa];exact(b.e0 (f0g _)).1
 have hkn6:∀ u∈w6.known,KnW idom w6.blocks w.cur u:=fun u hu=>by have:=o6.kn u hu;rwa [cu6] at this
 obtain⟨b7,g7,r7,k7⟩:=b6.way hc p w1.known.length (e:=nb+2) (k:=nb) true oa oa t6 z1
 obtain⟨o7,kn7,x7,cu7⟩:=qjo b6 o6 hc p (e:=nb+2) (k:=nb) true oa oa t6 z1 i1 hkn6
 rw[kn6] at o7 kn7 x7 cu7
 obtain⟨x,ex⟩:∃ x,jiw p (pk p.c 2) w1.known.length (nb+2) nb true w6=x:=⟨_,rfl⟩
 rw[ex] at b7 g7 k7 o7 kn7 x7 cu7
 have z2:up (up (up E w.cur) w.cur) nb (nb+1)=0:=by rw[jfo oa,jfo oa,jfo oa];exact(b.e0 oa).1
 have hkn7:∀ u∈x.2.known,KnW idom x.2.blocks w.cur u:=fun u hu=>(hkn6 u (by rw[kn6];exact kn7▸hu)).ext x7
 obtain⟨o8,kn8,x8,cu8⟩:=qjo b7 o7 hc x.1 (e:=nb+2) (k:=nb+1) (decide (pk p.flags 2=1)) oa oa (t6.gr g7) z2 i2 hkn7
 rw[kn7] at o8 kn8 x8 cu8
 obtain⟨y,ey⟩:∃ y,jiw x.1 (pk p.c 2) w1.known.length (nb+2) (nb+1) (decide (pk p.flags 2=1)) x.2=y:=⟨_,rfl⟩
 rw[ey] at o8 kn8 x8 cu8
 have eq:jft w p={ y.2 with cur:=nb+2,known:=y.2.known++(y.2.blocks.getD (nb+2) jho).params }:=by
  unfold jft
  simp only[e1,c1,b1.nb,e4,e6,ex,ey]
  rfl
 rw[eq]
 obtain⟨t,ht,hp,_⟩:=(((x5.trans x6).trans x7).trans x8) _ _ end4
 refine o8.set (fun u hu=>?_)
 rcases f0d.1 hu with hu | hu
 .exact ((hkn7 u (by rw[kn7];exact kn8▸hu)).ext x8).down i3
 .rw [f0o,ht] at hu
  exact⟨nb+2,-1,⟨t,ht,.inl ⟨rfl,hu⟩⟩,.refl⟩
end
section
variable {w:Ms} {nv nb s:Nat} {L E:Nat->Nat} {idom:List Int}
theorem qqh (b:Bd w nv nb s L E) (kk:Kok idom w) (h0:E w.cur=0) (p:Pc) (i1:idom[nb]?=some (w.cur:Int)) (i2:idom[nb+1]?=some (nb:Int)) (i3:idom[nb+1+1]?=some (nb:Int)):Kok idom (jgt w p):=by
 have hc:pk p.c 2<2:=pkl oa
 have hcur:w.cur<nb:=by rw[←b.nb];exact b.v.cur
 obtain⟨b1,g1,c1,l1,d1,r1,k1⟩:=b.newest hc p
 obtain⟨o1,x1⟩:=kk.newest b.v hc p
 have m1:=(jhd b.v hc p).2.2.2.2.2.2.2.2.1
 obtain⟨v,ev⟩:∃ v,jac w (pk p.c 2) p=v:=⟨_,rfl⟩
 rw[ev] at b1 g1 c1 l1 d1 k1 o1 x1 m1
 obtain⟨b2,g2,c2,l2,d2,r2,k2⟩:=b1.newest (cls:=0) oa p
 obtain⟨o2,x2⟩:=o1.newest b1.v (cls:=0) oa p
 have m2:=(jhd b1.v (cls:=0) oa p).2.2.2.2.2.2.2.2.1
 obtain⟨u,eu⟩:∃ u,jac v.2 0 p=u:=⟨_,rfl⟩
 rw[eu] at b2 g2 c2 l2 d2 k2 o2 x2 m2
 rw[c1] at b2 c2
 obtain⟨b3,g3,t3⟩:=b2.block (cs:=[pk p.c 2,0]) sc (fun c h=>by
  simp only[f0e,f1k,or_false] at h;omega)
 obtain⟨o3,x3⟩:=o2.block [pk p.c 2,0]
 obtain⟨w3,e3⟩:∃ w3,jaf u.2 [pk p.c 2,0]=w3:=⟨_,rfl⟩
 have c3:(jaf u.2 [pk p.c 2,0]).cur=w.cur:=c2
 have k3:(jaf u.2 [pk p.c 2,0]).known=u.2.known:=rfl
 have end3:w3.blocks[nb]?=some ⟨List.range' u.2.values.length 2,[],[]⟩:=by
  rw[←e3]
  unfold jaf
  simp only
  rw[f0u (by simp[b2.nb])]
  simp[b2.nb]
 rw[e3] at b3 g3 t3 c3 o3 x3 k3
 have lv:v.1<w3.values.length:=f0p (f0p l1 g2.vlen) g3.vlen
 have lu:u.1<w3.values.length:=f0p l2 g3.vlen
 have dv:cl w3.values v.1=pk p.c 2:=((g3.cl (f0p l1 g2.vlen)).trans (g2.cl l1)).trans d1
 have du:cl w3.values u.1=0:=(g3.cl l2).trans d2
 have kv3:∀ y∈w3.known,KnW idom w3.blocks w.cur y:=fun y hy=>by have:=o3.kn y hy;rwa [c3] at this
 obtain⟨b4,g4⟩:=b3.edge (k:=w.cur) (to:=nb) (args:=[v.1,u.1]) oa oa t3 (by simp[dv,du]) (fun x hx=>by
  simp only[f0e,f1k,or_false] at hx
  rcases hx with rfl | rfl<;>assumption) (.inl h0)
 obtain⟨o4,x4⟩:=o3.edge (j:=w.cur) (to:=nb) (args:=[v.1,u.1]) (by rw[b3.nb];omega) (.inr c3.symm) (fun y hy=>by
  simp only[f0e,f1k,or_false] at hy
  rcases hy with rfl | rfl
  .exact kv3 _ (by rw[k3,k2];exact f07 _ m1)
  .exact kv3 _ (by rw[k3];exact m2))
 obtain⟨w4,e4⟩:∃ w4,jax w3 w.cur nb [v.1,u.1]=w4:=⟨_,rfl⟩
 have k4:w4.known=w3.known:=by rw[←e4];rfl
 rw[e4] at b4 g4 o4 x4
 have t4:=t3.gr g4
 obtain⟨y4,hy4,hp4,_⟩:=x4 _ _ end3
 have kn5:∀ x∈w4.known++(w4.blocks.getD nb jho).params,x<w4.values.length:=fun x hx=>by
  rcases f0d.1 hx with hx | hx
  .exact b4.v.kn x hx
  .exact t4.params x hx
 have kw5:∀ x∈w4.known++(w4.blocks.getD nb jho).params,KnW idom w4.blocks nb x:=fun x hx=>by
  rcases f0d.1 hx with hx | hx
  .exact ((kv3 x (k4▸hx)).ext x4).down i1
  .rw [f0o,hy4] at hx
   exact⟨nb,-1,⟨y4,hy4,.inl ⟨rfl,hx⟩⟩,.refl⟩
 have b5:=b4.set (c:=nb) oa kn5
 have o5:=o4.set (c:=nb) kw5
 have g5:=Gr.set w4 nb (w4.known++(w4.blocks.getD nb jho).params)
 obtain⟨w5,e5⟩:∃ w5,({ w4 with cur:=nb,known:=w4.known++(w4.blocks.getD nb jho).params }:Ms)=w5:=⟨_,rfl⟩
 have c5:w5.cur=nb:=by rw[←e5]
 rw[e5] at b5 g5 o5
 obtain⟨b6,g6,c6,n6,r6,k6⟩:=b5.lay { p with flags:=odd p.flags }
 obtain⟨o6,x6⟩:=o5.lay b5.v { p with flags:=odd p.flags }
 obtain⟨w6,e6⟩:∃ w6,jct w5 { p with flags:=odd p.flags }=w6:=⟨_,rfl⟩
 rw[e6] at b6 g6 c6 n6 k6 o6 x6
 rw[c5] at b6 n6 c6
 have kv6:∀ y∈w6.known,KnW idom w6.blocks nb y:=fun y hy=>by have:=o6.kn y hy;rwa [c6] at this
 obtain⟨b7,g7,t7⟩:=b6.block (cs:=[]) sc sc
 obtain⟨b8,g8,t8⟩:=b7.block (cs:=[]) sc sc
 obtain⟨o7,x7⟩:=o6.block []
 obtain⟨o8,x8⟩:=o7.block []
 obtain⟨w8,e8⟩:∃ w8,jaf (jaf w6 []) []=w8:=⟨_,rfl⟩
 have k8:w8.known=w6.known:=by rw[←e8];rfl
 rw[e8] at b8 g8 t8 o8 x8
 have z4:up E w.cur nb=0:=by rw[jfo oa];exact(b.e0 (f0g _)).1
 obtain⟨b9,g9⟩:=b8.edge (k:=nb) (to:=nb+1) (args:=[]) oa oa (t7.gr g8) rfl sc (.inl z4)
 obtain⟨o9,x9⟩:=o8.edge (j:=nb) (to:=nb+1) (args:=[]) (by rw[b8.nb];omega) (.inl rfl) sc
 obtain⟨b10,g10⟩:=b9.edge (k:=nb) (to:=nb+1+1) (args:=[]) oa oa (t8.gr g9) rfl sc (.inr (by
  have:=((g7.trans g8).trans g9).len nb;omega))
 obtain⟨o10,x10⟩:=o9.edge (j:=nb) (to:=nb+1+1) (args:=[]) (by rw[b9.nb];omega) (.inl rfl) sc
 obtain⟨w10,e10⟩:∃ w10,jax (jax w8 nb (nb+1) []) nb (nb+1+1) []=w10:=⟨_,rfl⟩
 have k10:w10.known=w6.known:=by rw[←e10];exact k8
 rw[e10] at b10 g10 o10 x10
 obtain⟨q,eq⟩:∃ q:Pc,(⟨p.kind,inc p.op,inc p.a,p.b,p.c,p.limits,odd p.flags⟩:Pc)=q:=⟨_,rfl⟩
 have x610:=((x7.trans x8).trans x9).trans x10
 have b11:=b10.set (c:=nb+1) (kn:=w10.known) oa b10.v.kn
 have o11:=o10.set (c:=nb+1) (kn:=w10.known) (fun y hy=>KnW.all x610 kv6 i2 y (k10▸hy))
 have g11:=Gr.set w10 (nb+1) w10.known
 obtain⟨w11,e11⟩:∃ w11,({ w10 with cur:=nb+1,known:=w10.known }:Ms)=w11:=⟨_,rfl⟩
 have c11:w11.cur=nb+1:=by rw[←e11]
 have k11:w11.known=w6.known:=by rw[←e11];exact k10
 have x11:Ext w10.blocks w11.blocks:=by rw[←e11];exact Ext.refl _
 rw[e11] at b11 g11 o11
 obtain⟨b12,g12,c12,n12,r12,k12⟩:=b11.lay q
 obtain⟨o12,x12⟩:=o11.lay b11.v q
 obtain⟨w12,e12⟩:∃ w12,jct w11 q=w12:=⟨_,rfl⟩
 rw[e12] at b12 g12 c12 n12 k12 o12 x12
 rw[c11] at b12 c12
 obtain⟨b13,g13,c13,l13,d13,r13,k13⟩:=b12.newest hc q
 obtain⟨o13,x13⟩:=o12.newest b12.v hc q
 have m13:=(jhd b12.v hc q).2.2.2.2.2.2.2.2.1
 obtain⟨x,ex⟩:∃ x,jac w12 (pk p.c 2) q=x:=⟨_,rfl⟩
 rw[ex] at b13 g13 c13 l13 d13 k13 o13 x13 m13
 rw[c12] at b13 c13
 obtain⟨b14,g14,c14,l14,d14,r14,k14⟩:=b13.newest (cls:=0) oa q
 obtain⟨o14,x14⟩:=o13.newest b13.v (cls:=0) oa q
 have m14:=(jhd b13.v (cls:=0) oa q).2.2.2.2.2.2.2.2.1
 obtain⟨y,ey⟩:∃ y,jac x.2 0 q=y:=⟨_,rfl⟩
 rw[ey] at b14 g14 c14 l14 d14 k14 o14 x14 m14
 rw[c13] at b14 c14
 have kv14:∀ z∈y.2.known,KnW idom y.2.blocks (nb+1) z:=fun z hz=>by have:=o14.kn z hz;rwa [c14] at this
 obtain⟨o15,x15⟩:=o14.edge (j:=nb+1) (to:=nb) (args:=[x.1,y.1]) (by rw[b14.nb];omega) (.inr c14.symm) (fun z hz=>by
  simp only[f0e,f1k,or_false] at hz
  rcases hz with rfl | rfl
  .exact kv14 _ (by rw[k14];exact f07 _ m13)
  .exact kv14 _ m14)
 obtain⟨w15,e15⟩:∃ w15,jax y.2 (nb+1) nb [x.1,y.1]=w15:=⟨_,rfl⟩
 have k15:w15.known.take w6.known.length=w6.known:=by
  rw[←e15]
  simp only[jax,k14,k13,k12,k11,f0n,List.take_left]
 rw[e15] at o15 x15
 have res:jgt w p={ w15 with cur:=nb+1+1,known:=w15.known.take w6.known.length }:=by
  unfold jgt
  simp only[ev,eu,b2.nb,e3,c3,e4]
  rw[show(w4.blocks.getD nb ⟨[],[],[]⟩).params=(w4.blocks.getD nb jho).params from rfl]
  simp only[e5,e6,b6.nb,e8,e10,e11,e12,eq,ex,ey,e15]
 rw[res,k15]
 exact o15.set (KnW.all ((((((x610).trans x11).trans x12).trans x13).trans x14).trans x15) kv6 i3)
end
theorem jry:∀ (s:List Bool) (c:Nat),(jnj s c).length=3*s.length
 | [],c=>rfl
 | false::s,c=>by simp[jnj,jry s];omega
 | true::s,c=>by simp[jnj,jry s];omega
theorem jrz:∀ (s t:List Bool) (c:Nat),jnj (s++t) c=jnj s c++jnj t (c+3*s.length)
 | [],t,c=>by rfl
 | false::s,t,c=>by
  simp only[f1j,jnj,jrz s t]
  grind
 | true::s,t,c=>by
  simp only[f1j,jnj,jrz s t,f0l]
  rw[show c+3+3*s.length=c+3*(s.length+1) by omega]
theorem qda (s:List Bool):(jht s).length=1+3*s.length:=by unfold jht;grind[f0l,jry]
theorem jty (s:List Bool) (b:Bool):jht (s++[b])=jht s++jnj [b] (3*s.length):=by
 unfold jht;simp[jrz]
theorem qg3 {α:Type} {l r:List α} {n:Nat} (h:l.length=n):(l++r)[n+i]?=r[i]?:=by
 grind
structure Pk3 (w:Ms) (j:Nat) (s:List Bool):Prop where
 p:Pok w j
 g:Gok w s
 k:Kok (jht s) w
theorem Pk3.piece {w:Ms} {j:Nat} {s:List Bool} (k:Pk3 w j s) (p:Pc):∃ t,Pk3 (jbw w p) (j+1) t:=by
 have hp:=k.p.piece p
 have b:=k.p.bd
 have hl:(gS s).length=w.blocks.length:=by rw[←k.g.g,jd8]
 rw[j5i] at hl
 have hc:=k.g.cur
 have hi:=qda s
 have at0:∀ (b:Bool) (i:Nat),(jht (s++[b]))[w.blocks.length+i]?=(jnj [b] (3*s.length))[i]?:=fun b i=>by grind[jty,qg3]
 have e3:3*s.length=w.cur:=oa
 have k0:∀ b,Kok (jht (s++[b])) w:=fun b=>by rw[jty];exact k.k.app
 have key:∃ t,Gok (jbw w p) t/\Kok (jht t) (jbw w p):=by
  unfold jbw
  simp only
  split
  .refine ⟨_,k.g.fork p,?_⟩
   have f0:=at0 false 0
   have f1:=at0 false 1
   have f2:=at0 false 2
   rw[e3] at f0 f1 f2
   exact qqg b (k0 false) k.p.e0 p f0 f1 f2
  .split
   .refine ⟨_,k.g.loop p,?_⟩
    have f0:=at0 true 0
    have f1:=at0 true 1
    have f2:=at0 true 2
    rw[e3] at f0 f1 f2
    have en:w.cur+1=w.blocks.length:=hc
    exact qqh b (k0 true) k.p.e0 p f0 (f1.trans (by rw[←en];rfl)) (f2.trans (by rw[←en];rfl))
   .split
    .exact ⟨s,⟨(jhp w p).1.trans k.g.g,by rw[(jhp w p).2,jlc];exact k.g.cur⟩,(k.k.lay k.p.v p).1⟩
    .exact ⟨s,k.g,k.k⟩
 obtain⟨t,h1,h2⟩:=key
 exact⟨t,hp,h1,h2⟩
theorem Pk3.pieces:∀ (l:List Pc) {w:Ms} {j:Nat} {s:List Bool},Pk3 w j s->∃ t,Pk3 (l.foldl jbw w) (j+l.length) t
 | [],w,j,s,k=>⟨s,k⟩
 | p::l,w,j,s,k=>by
  obtain⟨t,h⟩:=k.piece p
  obtain⟨u,hu⟩:=Pk3.pieces l h
  grind
theorem j8f {m:Nat×Nat} (m1:2<=m.1/\m.1<=10) (m2:2<=m.2/\m.2<=10) (l:List Pc):∃ s,s.length<=5/\grL (jea m l).blocks=gS s /\
 (∀ (k i:Nat) (b:Blk) (x:Ins) (o:Opd),(jea m l).blocks[k]?=some b->b.instrs[i]?=some x->o∈x.ops->o.kind=1->jws (jht s) (jea m l).blocks o.value k i) /\
 (∀ (k:Nat) (b:Blk) (e:Edg) (v:Nat),(jea m l).blocks[k]?=some b->e∈b.edges->v∈e.args->jws (jht s) (jea m l).blocks v k b.instrs.length):=by
 have k0:Pk3 (jca m) 0 []:=⟨jlb m1 m2,⟨rfl,rfl⟩,fun v hv=>by trivial,fun k i b x o hb hx=>by
  unfold jca at hb
  grind,fun k b e v hb he=>by
  unfold jca at hb
  grind⟩
 obtain⟨s,k⟩:=Pk3.pieces (l.take 24) k0
 have o:=(k.k.lay k.p.v ⟨0,0,1,0,0,0,3⟩).1
 have hg:grL (jea m l).blocks=gS s:=(jhp _ _).1.trans k.g.g
 refine⟨s,?_,hg,o.us,o.ed⟩
 have h1:=j5i s
 rw[←hg,jd8] at h1
 have h2:=(j4t m1 m2 l).1.nb
 omega
end Go.Proofs.YtkpadfebkaangaaGreatDoor.Ms
namespace Go.Proofs.YtkpadfebkaangaaGreatDoor.Ev
noncomputable section
open Go Go.RowKit
set_option linter.all false
set_option maxRecDepth 100000
def jzw:IC:=.seq (.block 5 (qr [qP (.ixs 5 (.g 19) (.g 22)),qK 5,qB 18 (.new 80 [.int .i64 0,.int .i64 0,.bool false,.int .i64 0,.int .i64 0]),qA (.store 5 qa qb)] (qr [qF 0 18,qL,qP (.bin .eq qa (qC 1)),qP (.mv qa),qR 0 true (.mv (.g 1)),qR 1 true (.mv (.g 17)),qR 2 true (.fld 1 (.g 18)),qS 3 true (.load 1 false qa),qR 4 true (.ixs 2 qc qa),qS 5 true (.load 2 true qa),qR 6 true (.mv (.g 16)),qR 7 true (.mv (.g 15)),qR 8 true (.build [.int .i64 0,.int .i64 0] [(0,(1,qb)),(1,(1,qa))]),qS 9 true (.call 65 [.l 8,qd,qa]),qR 10 true (.not qa),qQ 14 (.pick (.l 11) qa (.c (.s (.bool false))))] (.cond (.g 14) (qr [qQ 2 (.mv (.c (.s (.bool false))))] .ret) .skip)))) (.region [qI 22,qT 22])
def jld:IC:=qr [qQ 20 (.bin .lt (.g 22) (.g 21))] (.seq (qX 20 4) jzw)
def jzx:IC:=.seq (.block 3 (qr [qM 27,qP (.ixs 3 (.g 24) (.g 27)),qK 3,qB 23 (.new 62 [.int .i64 0,.nilSlice,.nilSlice]),qQ 15 (.mv qd),qA (.store 3 qb qc)] (qr [qF 1 23,qB 19 (.load 1 false qa),qQ 21 (.len qa),qQ 22 (.mv (qC 0))] (.block 4 (.loop jld))))) (.region [qI 27,qT 27])
def jle:IC:=qr [qQ 25 (.bin .lt (.g 27) (.g 26))] (.seq (qX 25 2) jzx)
def jzy:IC:=.draw [(qM 1,.none),(qM 17,.none),(qM 4,.none),(qP (.ixs 2 qb qa),.none),(qK 2,.some []),(qM 16,.none),(qF 1 28,.none),(qL,.some [2]),(qP (.len qa),.none),(qP (.build [.int .i64 0,.int .i64 0] [(0,(1,qd)),(1,(1,qa))]),.none),(qA (.call 65 [.l 9,.l 5,qa]),.none),(qQ 3 (.not qa),.none)]
def jzz:IC:=.seq (.block 9 (qr [qP (.ixs 1 (.g 5) (.g 8)),qL,qT 4] (.seq jzy (.cond (.g 3) (qr [qQ 2 (.mv (.c (.s (.bool false))))] .ret) .skip)))) (.region [qI 8,qT 8])
def jlf:IC:=qr [qQ 6 (.bin .lt (.g 8) (.g 7))] (.seq (qX 6 8) jzz)
def jz0:IC:=.seq (.block 7 (qr [qP (.ixs 2 (.g 10) (.g 13)),qK 2,qB 9 (.new 65 [.int .i64 0,.nilSlice]),qA (.store 2 qa qb)] (qr [qF 1 9,qB 5 (.load 1 false qa),qQ 7 (.len qa),qQ 8 (.mv (qC 0))] (.block 8 (.loop jlf))))) (.region [qI 13,qT 13])
def jlg:IC:=qr [qQ 11 (.bin .lt (.g 13) (.g 12))] (.seq (qX 11 6) jz0)
def jz1:IC:=.seq (.block 1 (qr [qM 32,qP (.ixs 3 (.g 29) (.g 32)),qK 3,qB 28 (.new 58 [.nilSlice,.nilSlice,.nilSlice]),qQ 16 (.mv qd),qA (.store 3 qb qc)] (.seq (qr [qF 1 28,qB 24 (.load 1 false qa),qQ 26 (.len qa),qQ 27 (.mv (qC 0))] (.block 2 (.loop jle))) (qr [qF 2 28,qB 10 (.load 1 false qa),qQ 12 (.len qa),qQ 13 (.mv (qC 0))] (.block 6 (.loop jlg)))))) (.region [qI 32,qT 32])
def jlh:IC:=qr [qQ 30 (.bin .lt (.g 32) (.g 31))] (.seq (qX 30 0) jz1)
def j5j:IC:=qr [qB 33 (.box 32 (.g 0)),qQ 2 (.mv (.c (.s (.bool false))))] (qr [qA (.load 2 true (.g 33)),qA (.call 64 [qa]),qT 17] (.seq (qr [qF 1 33,qB 29 (.load 1 false qa),qQ 31 (.len qa),qQ 32 (.mv (qC 0))] (.block 0 (.loop jlh))) (qr [qQ 2 (.mv (.c (.s (.bool true))))] .ret)))
theorem qqi:T 44=some (.mk j5j 2 32 [(.tmp 2)]):=ka
def jz2:IC:=qr [qM 0,qF 0 6,qL,qF 0 5,qL,qA (.call 90 [.l 4,qc,qa]),qT 3] .ret
def j5k:IC:=qr [qB 6 (.box 135 (.g 1)),qB 5 (.box 135 (.g 2)),qQ 3 (.mv (.c (.s (.bool false))))] (.seq (qr [qF 0 6,qL,qF 0 5,qL,qQ 4 (.bin .eq qc qa)] (.cond (.g 4) (qr [qF 1 6,qL,qF 1 5,qL,qP (.bin .lt qc qa),qT 3] .ret) .skip)) jz2)
theorem qqj:T 65=some (.mk j5k 3 4 [(.tmp 3)]):=ka
def jr0:IC:=.seq (qr [qM 2,qP (.bin .ge qa (qC 0)),qP (.mv qa),qR 0 true (.mv (.g 2)),qR 1 true (.mv (.g 1)),qR 2 true (.bin .ne qb qa),qQ 4 (.pick qd qa (.c (.s (.bool false))))] (qX 4 0)) (.block 1 (.region [qM 0,qM 2,qP (.ixs 1 qb qa),qL,qT 2]))
def qjp:IC:=qr [qQ 3 (.mv (.c (.s (.bool false))))] (.seq (.block 0 (.loop jr0)) (qr [qM 2,qM 1,qP (.bin .eq qb qa),qT 3] .ret))
theorem q2r:T 90=some (.mk qjp 3 2 [(.tmp 3)]):=ka
def qdb:IC:=.seq (.block 3 (qr [qP (.ixs 1 (.g 17) (.g 20)),qL,qT 15] (.region [qM 16,qM 15,qM 14,qP (.build [.int .i64 0,.int .i64 0] [(0,(1,qa)),(1,(1,qC (-1)))]),qP (.ixs 2 qd qc),qA (.store 2 qa qb)]))) (.region [qI 20,qT 20])
def jwt:IC:=qr [qQ 18 (.bin .lt (.g 20) (.g 19))] (.seq (qX 18 2) qdb)
def qdc:IC:=.seq (.block 7 (qr [qP (.ixs 5 (.g 5) (.g 8)),qK 5,qB 4 (.new 80 [.int .i64 0,.int .i64 0,.bool false,.int .i64 0,.int .i64 0]),qA (.store 5 qa qb)] (qr [qF 0 4,qL,qQ 3 (.bin .eq qa (qC 2))] (.cond (.g 3) (.region [qM 16,qF 1 4,qL,qM 14,qM 2,qP (.build [.int .i64 0,.int .i64 0] [(0,(1,qb)),(1,(1,qa))]),qP (.ixs 2 (.l 5) qd),qA (.store 2 qa qb)]) .skip)))) (.region [qI 8,qT 8])
def jwu:IC:=qr [qQ 6 (.bin .lt (.g 8) (.g 7))] (.seq (qX 6 6) qdc)
def qdd:IC:=.seq (.block 5 (qr [qM 13,qP (.ixs 3 (.g 10) (.g 13)),qK 3,qB 9 (.new 62 [.int .i64 0,.nilSlice,.nilSlice]),qQ 2 (.mv qd),qA (.store 3 qb qc)] (qr [qF 1 9,qB 5 (.load 1 false qa),qQ 7 (.len qa),qQ 8 (.mv (qC 0))] (.block 6 (.loop jwu))))) (.region [qI 13,qT 13])
def jwv:IC:=qr [qQ 11 (.bin .lt (.g 13) (.g 12))] (.seq (qX 11 4) qdd)
def qde:IC:=.seq (.block 1 (qr [qM 25,qP (.ixs 3 (.g 22) (.g 25)),qK 3,qB 21 (.new 58 [.nilSlice,.nilSlice,.nilSlice]),qQ 14 (.mv qd),qA (.store 3 qb qc)] (.seq (qr [qF 0 21,qB 17 (.load 1 false qa),qQ 19 (.len qa),qQ 20 (.mv (qC 0))] (.block 2 (.loop jwt))) (qr [qF 1 21,qB 10 (.load 1 false qa),qQ 12 (.len qa),qQ 13 (.mv (qC 0))] (.block 4 (.loop jwv)))))) (.region [qI 25,qT 25])
def jww:IC:=qr [qQ 23 (.bin .lt (.g 25) (.g 24))] (.seq (qX 23 0) qde)
def qjq:IC:=qr [qB 26 (.box 32 (.g 0)),qQ 1 (.mv (.c (.s .nilSlice)))] (qr [qF 0 26,qL,qP (.len qa),qA (.mkslice 135 2 16 [.int .i64 0,.int .i64 0] qa qa),qT 16] (.seq (qr [qF 1 26,qB 22 (.load 1 false qa),qQ 24 (.len qa),qQ 25 (.mv (qC 0))] (.block 0 (.loop jww))) (qr [qM 16,qT 1] .ret)))
theorem q2s:T 64=some (.mk qjq 1 26 [(.tmp 1)]):=ka
def jz3:IC:=.draw [(qA (.load 2 true (.g 20)),.some []),(qA (.call 42 [qa]),.some []),(qP (.len qa),.none),(qF 1 20,.none),(qL,.some [2,3]),(qP (.len qa),.none),(qQ 16 (.bin .lt qd qa),.none)]
def jz4:IC:=.seq (.block 3 (qr [qP (.ixs 2 (.g 7) (.g 10)),qK 2,qB 5 (.new 65 [.int .i64 0,.nilSlice]),qA (.store 2 qa qb)] (qr [qF 2 11,qL,qP (.len qa),qP (.bin .gt qa (qC 1)),qP (.mv qa),qR 0 true (.mv (.g 6)),qR 1 true (.fld 0 (.g 5)),qS 2 true (.load 1 false qa),qR 3 true (.ixs 1 qc qa),qS 4 true (.load 1 false qa),qR 5 true (.len qa),qR 6 true (.bin .gt qa (qC 1)),qQ 4 (.pick (.l 7) qa (.c (.s (.bool false))))] (.cond (.g 4) (qr [qQ 2 (.mv (qC 11))] .ret) .skip)))) (.region [qI 10,qT 10])
def jli:IC:=qr [qQ 8 (.bin .lt (.g 10) (.g 9))] (.seq (qX 8 2) jz4)
def jz5:IC:=.seq (.block 1 (qr [qP (.ixs 3 (.g 12) (.g 15)),qK 3,qB 11 (.new 58 [.nilSlice,.nilSlice,.nilSlice]),qA (.store 3 qa qb)] (qr [qF 2 11,qB 7 (.load 1 false qa),qQ 9 (.len qa),qQ 10 (.mv (qC 0))] (.block 2 (.loop jli))))) (.region [qI 15,qT 15])
def jlj:IC:=qr [qQ 13 (.bin .lt (.g 15) (.g 14))] (.seq (qX 13 0) jz5)
def jz6:IC:=.draw [(qA (.load 2 true (.g 20)),.some []),(qA (.load 2 true (.g 20)),.some [0]),(qA (.load 2 true (.g 20)),.some [0,1]),(qA (.call 42 [qa]),.some [1,2]),(qA (.call 45 [qc,qa]),.some [3]),(qA (.call 44 [.l 4,qa]),.none),(qQ 3 (.not qa),.none)]
def jz7:IC:=qr [qQ 2 (.mv (qC 0))] .ret
def jz8:IC:=qr [qA (.load 2 true (.g 20)),qA (.call 43 [qa]),qT 6] (.seq (qr [qF 1 20,qB 12 (.load 1 false qa),qQ 14 (.len qa),qQ 15 (.mv (qC 0))] (.block 0 (.loop jlj))) (.seq (.seq jz6 (.cond (.g 3) (qr [qQ 2 (.mv (qC 10))] .ret) .skip)) jz7))
def jz9:IC:=.seq (.seq jz3 (.cond (.g 16) (qr [qQ 2 (.mv (qC 16))] .ret) .skip)) jz8
def j5l:IC:=qr [qB 20 (.box 32 (.g 0)),qB 19 (.box 28 (.g 1)),qQ 2 (.mv (qC 0))] (.seq (qr [qA (.load 2 true (.g 20)),qA (.load 2 true (.g 19)),qA (.call 41 [qb,qa]),qT 18] (qr [qM 18,qQ 17 (.bin .ne qa (qC 0))] (.cond (.g 17) (qr [qM 18,qT 2] .ret) .skip))) jz9)
theorem qqk:T 23=some (.mk j5l 2 19 [(.tmp 2)]):=ka
open Go Go.RowKit Go.Proofs.YtkpadfebkaangaaGreatDoor.Ms
variable {x0 x1 x2 x3 x4 x5 x6 x7 x8 x9 x10 x11 x12 x13 x14 x15 x16 x17 x18 x19 x20 x21 x22 x23 x24 x25 x26 x27 x28 x29 x30 x31 x32 x33:AV} {n:Int} {vs:List AV} {idom:List Int} {v bB:Nat}
set_option maxHeartbeats 2000000
theorem qg4 {a:Nat} {b:Int} (h:Dom idom a b):∀ {hi:Hp} (_:Ok hi) {x3 x4:AV} {Q:Ex->St->Prop} (_:∀ x4,Q (.exit 0) (.mk [.s (jag jl3 idom),vi a,vi a,x3,x4] hi)),W F7 jr0.loop (.mk [.s (jag jl3 idom),vi a,vi b,x3,x4] hi) Q:=by
 have stop:∀ {hi:Hp} (_:Ok hi) {x3 x4:AV} {Q:Ex->St->Prop} (_:∀ x4,Q (.exit 0) (.mk [.s (jag jl3 idom),vi a,vi a,x3,x4] hi)),W F7 jr0.loop (.mk [.s (jag jl3 idom),vi a,vi a,x3,x4] hi) Q:=fun {hi} ok {x3 x4 Q} hQ=>by
  have c1:(0<=(a:Int))=True:=sc
  have c2:((a:Int)≠(a:Int))=False:=sc
  rw[jah]
  unfold jr0
  simp(disch:=first|omega|rfl) only[go_sem,c1,c2]
  exact hQ _
 induction h with
 | refl=>exact stop
 | @step b c h1 h2 ih =>
  intro hi ok x3 x4 Q hQ
  by_cases e:b=a
  .subst e;exact stop ok hQ
  .have c1:(0<=(b:Int))=True:=sc
   have c2:((b:Int)≠(a:Int))=True:=by simp;omega
   have ix:=jai (enc:=jl3) (size:=1) h1 rfl
   rw[jah]
   unfold jr0
   simp(disch:=first|omega|rfl) only[go_sem,c1,c2,ix,jl3]
   exact ih ok hQ
theorem qql {h:Hp} (ok:Ok h) {a:Nat} {b:Int} (hd:Dom idom a b):WC F7 90 [.s (jag jl3 idom),vi a,vi b] h (fun v h'=>∃ d,jhr true h' d v=some (vb true)):=by
 refine ja3 (no7 rfl rfl rfl rfl rfl rfl rfl) q2r rfl ?_
 unfold qjp
 have c2:((a:Int)=(a:Int))=True:=sc
 simp(disch:=first|omega|rfl) only[go_sem]
 refine qg4 hd ok (fun x4=>?_)
 simp(disch:=first|omega|rfl) only[go_sem,c2]
 exact⟨1,rfl⟩
def ji5 (p:Nat×Int):List SV:=[si p.1,si p.2]
def ES (row:List SV) (p:Nat×Int) (ns:List Nat):Prop:=row=ji5 p/\ns=[]
def fl2 (T:List (Nat×Int)):List SV:=(T.map ji5).flatten
theorem qvt:∀ (l:List (Nat×Int)),Rows 2 ES (l.map ji5) l []
 | []=>.nil
 | a::l=>by
  have:=Rows.cons (sz:=2) (E:=ES) (row:=ji5 a) (a:=a) (ns:=[]) rfl ⟨rfl,rfl⟩ (qvt l)
  exact this
theorem jr1 {p:Nat×Int}:∀ {T:List (Nat×Int)} {v:Nat},v<T.length->jbn (v*2) (ji5 p) (fl2 T)=some (fl2 (T.set v p))
 | [],v,h=>by simp at h
 | a::T,0,h=>by
  show jo9 (ji5 p) (ji5 a++fl2 T)=some (ji5 p++fl2 T)
  unfold ji5
  cases fl2 T<;>rfl
 | a::T,v+1,h=>by
  show jbn ((v+1)*2) (ji5 p) (ji5 a++fl2 T)=some (ji5 a++fl2 (T.set v p))
  rw[show(v+1)*2=v*2+1+1 by omega]
  unfold ji5
  show jbn (v*2+1+1) (ji5 p) (si a.1::si a.2::fl2 T)=_
  rw[jdv,jdv,jr1 (by simpa using h)]
  rfl
def spF (T:List (Nat×Int)) (l:List (Nat×(Nat×Int))):List (Nat×Int):=l.foldl (fun T e=>T.set e.1 e.2) T
theorem j2y (T:List (Nat×Int)) (a b:List (Nat×(Nat×Int))):spF T (a++b)=spF (spF T a) b:=by unfold spF;rw[List.foldl_append]
theorem qdf:∀ (l:List (Nat×(Nat×Int))) (T:List (Nat×Int)),(spF T l).length=T.length
 | [],T=>rfl
 | e::l,T=>by
  show(spF (T.set e.1 e.2) l).length=_
  rw[qdf l,f3b]
def evP (b:Nat) (ps:List Nat):List (Nat×(Nat×Int)):=ps.map (fun v=>(v,(b,-1)))
def evO (b i:Nat) (ops:List Ms.Opd):List (Nat×(Nat×Int)):=(dfO ops).map (fun v=>(v,(b,(i:Int))))
def evI (b:Nat):Nat->List Ms.Ins->List (Nat×(Nat×Int))
 | _,[]=>[]
 | i,x::l=>evO b i x.ops++evI b (i+1) l
def evB (b:Nat) (x:Blk):List (Nat×(Nat×Int)):=evP b x.params++evI b 0 x.instrs
def evL:Nat->List Blk->List (Nat×(Nat×Int))
 | _,[]=>[]
 | k,x::l=>evB k x++evL (k+1) l
def jey (f:Fc):List (Nat×Int):=spF (List.replicate f.values.length (0,0)) (evL 0 f.blocks)
structure SpI (hi:Hp) (f:Fc) (bF bA:Nat) (T:List (Nat×Int)):Prop where
 ok:Ok hi
 hs:T.length=f.values.length
 lt:bF<hi.next/\bA<hi.next
 pos:1<=bA/\bF≠bA
 xA:hi.get bA=some (.arr (fl2 T) 135)
section
variable {hi hj:Hp} {f:Fc} {bF bA:Nat} {T:List (Nat×Int)}
theorem SpI.keep (k:SpI hi f bF bA T) (ok:Ok hj) (hn:hi.next<=hj.next) (g:∀ n,n<hi.next->hj.get n=hi.get n):SpI hj f bF bA T :=
 ⟨ok,k.hs,⟨f0p k.lt.1 hn,f0p k.lt.2 hn⟩,k.pos,(g _ k.lt.2).trans k.xA⟩
theorem SpI.tell (k:SpI hi f bF bA T) (hv:v<f.values.length) (p:Nat×Int):wrB hi bA (hi.get bA) (v*2) [si p.1,si p.2]=some (hi.put bA (some (.arr (fl2 (T.set v p)) 135)))/\SpI (hi.put bA (some (.arr (fl2 (T.set v p)) 135))) f bF bA (T.set v p):=by
 have hvT:v<T.length:=by rw[k.hs];exact hv
 refine⟨?_,⟨jas k.ok,by rw[f3b];exact k.hs,by rw[Hp.next_put];exact k.lt,k.pos,by rw[jak k.ok k.pos.1,if_pos rfl]⟩⟩
 rw[k.xA,jm4]
 have:=jr1 (p:=p) hvT
 unfold ji5 at this
 rw[this]
 rfl
end
theorem qjr {f:Fc} {ps:List Nat} {b bF bA:Nat} (hl:ps.length<=10000) (hp:∀ v∈ps,v<f.values.length) {Q:Ex->St->Prop} :
 ∀ (rest done:List Nat) (_:done++rest=ps) {T:List (Nat×Int)} {hi:Hp} (_:SpI hi f bF bA T) {x15 x18:AV}
  (hQ:∀ hj x15 x18,SpI hj f bF bA (spF T (evP b rest))->hj.next=hi.next->(∀ n,n≠bA->hj.get n=hi.get n)->Q (.exit 2) (.mk [x0,x1,x2,x3,x4,x5,x6,x7,x8,x9,x10,x11,x12,x13,vi b,x15,.s (.slice bA 0 f.values.length f.values.length true 2),.s (jag jaz ps),x18,vi ps.length,vi ps.length,x21,x22,x23,x24,x25,x26] hj)),
  W F7 jwt.loop (.mk [x0,x1,x2,x3,x4,x5,x6,x7,x8,x9,x10,x11,x12,x13,vi b,x15,.s (.slice bA 0 f.values.length f.values.length true 2),.s (jag jaz ps),x18,vi ps.length,vi done.length,x21,x22,x23,x24,x25,x26] hi) Q
 | [],done,hdn,T,hi,I,x15,x18,hQ=>by
  rw[f08] at hdn
  subst hdn
  rw[jah]
  unfold jwt
  simp(disch:=first|omega|rfl) only[go_sem,f0s]
  exact hQ hi _ _ I rfl (fun _ _=>rfl)
 | v::rest,done,hdn,T,hi,I,x15,x18,hQ=>by
  have hlt1:done.length<ps.length:=by rw[←hdn];simp
  have hlt:(done.length:Int)<ps.length:=oa
  have hget:ps[done.length]?=some v:=by rw[←hdn];simp
  have hv:=hp v (f0c hget)
  have hix:=jai (enc:=jaz) (size:=1) hget rfl
  have hdn':(done++[v])++rest=ps:=by rw[←hdn];simp
  have hs:(done.length:Int)+1=(((done++[v]).length:Nat):Int):=sc
  have ok:=I.ok
  have hxi:=jbf (size:=2) (b:=bA) (off:=0) (len:=f.values.length) (mc:=f.values.length) (sz:=2) (ex:=true) (m:=v) hv
  rw[f0y] at hxi
  obtain⟨t1,t2⟩:=I.tell hv (b,-1)
  simp only at t1
  rw[jah]
  unfold jwt qdb
  simp(disch:=first|omega|rfl) only[go_sem,jae,eq_true hlt,hix,jaz,hxi,t1,hs]
  exact qjr hl hp rest (done++[v]) hdn' t2 (fun hj x15 x18 J n g=>hQ hj x15 x18 J (n.trans (Hp.next_put ..)) (fun m hm=>(g m hm).trans (by rw[jak I.ok I.pos.1,if_neg hm])))
theorem qdg {f:Fc} {l:List Ms.Opd} {b i bF bA:Nat} (hl:l.length<=10000) (hp:∀ o∈l,o.value<f.values.length) {Q:Ex->St->Prop} :
 ∀ (rest done:List Ms.Opd) (_:done++rest=l) {T:List (Nat×Int)} {hi:Hp} (_:SpI hi f bF bA T) {x3 x4 x6:AV}
  (hQ:∀ hj x3 x4 x6,SpI hj f bF bA (spF T (evO b i rest))->hi.next<=hj.next->(∀ n,n<hi.next->n≠bA->hj.get n=hi.get n)->Q (.exit 6) (.mk [x0,x1,vi i,x3,x4,.s (jag jbe l),x6,vi l.length,vi l.length,x9,x10,x11,x12,x13,vi b,x15,.s (.slice bA 0 f.values.length f.values.length true 2),x17,x18,x19,x20,x21,x22,x23,x24,x25,x26] hj)),
  W F7 jwu.loop (.mk [x0,x1,vi i,x3,x4,.s (jag jbe l),x6,vi l.length,vi done.length,x9,x10,x11,x12,x13,vi b,x15,.s (.slice bA 0 f.values.length f.values.length true 2),x17,x18,x19,x20,x21,x22,x23,x24,x25,x26] hi) Q
 | [],done,hdn,T,hi,I,x3,x4,x6,hQ=>by
  rw[f08] at hdn
  subst hdn
  rw[jah]
  unfold jwu
  simp(disch:=rfl) only[go_sem,f0s]
  exact hQ hi _ _ _ I (f0g _) (fun _ _ _=>rfl)
 | o::rest,done,hdn,T,hi,I,x3,x4,x6,hQ=>by
  have hlt1:done.length<l.length:=by rw[←hdn];simp
  have hlt:(done.length:Int)<l.length:=oa
  have hget:l[done.length]?=some o:=by rw[←hdn];simp
  have hv:=hp o (f0c hget)
  have hix:=jai (enc:=jbe) (size:=5) hget rfl
  have hdn':(done++[o])++rest=l:=by rw[←hdn];simp
  have hs:(done.length:Int)+1=(((done++[o]).length:Nat):Int):=sc
  have ok:=I.ok
  obtain⟨hA,eA,okA,nA,xA,gA⟩:=jci ok [.int .i64 0,.int .i64 0,.bool false,.int .i64 0,.int .i64 0] (jbe o) 80
  have IA:=I.keep okA oa gA
  unfold jbe at xA eA
  rw[jah]
  unfold jwu qdc
  by_cases e:o.kind=2
  .have c1:((o.kind:Int)=2)=True:=by simp;omega
   have ed:evO b i (o::rest)=(o.value,(b,(i:Int)))::evO b i rest:=by unfold evO dfO;rw[List.filter_cons_of_pos (by simpa using e)];rfl
   have hxi:=jbf (size:=2) (b:=bA) (off:=0) (len:=f.values.length) (mc:=f.values.length) (sz:=2) (ex:=true) (m:=o.value) hv
   rw[f0y] at hxi
   obtain⟨t1,t2⟩:=IA.tell hv (b,(i:Int))
   simp only at t1
   simp(disch:=first|omega|rfl) only[go_sem,jae,eq_true hlt,hix,jbe,eA,xA,c1,hxi,t1,hs]
   exact qdg hl hp rest (done++[o]) hdn' t2 (fun hj x3 x4 x6 J n g=>hQ hj x3 x4 x6 (by rw[ed];exact J) (by rw[Hp.next_put] at n;omega) (fun m hm hne=>(g m (by rw[Hp.next_put];omega) hne).trans ((by rw[jak IA.ok IA.pos.1,if_neg hne]:_=hA.get m).trans (gA m hm))))
  .have c1:((o.kind:Int)=2)=False:=by simp;omega
   have ed:evO b i (o::rest)=evO b i rest:=by unfold evO dfO;rw[List.filter_cons_of_neg (by simpa using e)]
   simp(disch:=first|omega|rfl) only[go_sem,jae,eq_true hlt,hix,jbe,eA,xA,c1,hs]
   exact qdg hl hp rest (done++[o]) hdn' IA (fun hj x3 x4 x6 J n g=>hQ hj x3 x4 x6 (by rw[ed];exact J) oa (fun m hm hne=>(g m oa hne).trans (gA m hm)))
theorem qjs {f:Fc} {l:List Ms.Ins} {b bF bA:Nat} (hl:l.length<=10000) (hp:∀ x∈l,x.ops.length<=6/\∀ o∈x.ops,o.value<f.values.length) {Q:Ex->St->Prop} :
 ∀ (rest done:List Ms.Ins) (_:done++rest=l) {T:List (Nat×Int)} {hi:Hp} (_:SpI hi f bF bA T) {x2 x3 x4 x5 x6 x7 x8 x9 x11:AV}
  (hQ:∀ hj x2 x3 x4 x5 x6 x7 x8 x9 x11,SpI hj f bF bA (spF T (evI b done.length rest))->hi.next<=hj.next->(∀ n,n<hi.next->n≠bA->hj.get n=hi.get n)->Q (.exit 4) (.mk [x0,x1,x2,x3,x4,x5,x6,x7,x8,x9,.s (jag jeh l),x11,vi l.length,vi l.length,vi b,x15,.s (.slice bA 0 f.values.length f.values.length true 2),x17,x18,x19,x20,x21,x22,x23,x24,x25,x26] hj)),
  W F7 jwv.loop (.mk [x0,x1,x2,x3,x4,x5,x6,x7,x8,x9,.s (jag jeh l),x11,vi l.length,vi done.length,vi b,x15,.s (.slice bA 0 f.values.length f.values.length true 2),x17,x18,x19,x20,x21,x22,x23,x24,x25,x26] hi) Q
 | [],done,hdn,T,hi,I,x2,x3,x4,x5,x6,x7,x8,x9,x11,hQ=>by
  rw[f08] at hdn
  subst hdn
  rw[jah]
  unfold jwv
  simp(disch:=rfl) only[go_sem,f0s]
  exact hQ hi _ _ _ _ _ _ _ _ _ I (f0g _) (fun _ _ _=>rfl)
 | x::rest,done,hdn,T,hi,I,x2,x3,x4,x5,x6,x7,x8,x9,x11,hQ=>by
  have hlt1:done.length<l.length:=by rw[←hdn];simp
  have hlt:(done.length:Int)<l.length:=oa
  have hget:l[done.length]?=some x:=by rw[←hdn];simp
  have hv:=hp x (f0c hget)
  have hix:=jai (enc:=jeh) (size:=3) hget rfl
  have hdn':(done++[x])++rest=l:=by rw[←hdn];simp
  have hl2:(done++[x]).length=done.length+1:=sc
  have hs:(done.length:Int)+1=(((done++[x]).length:Nat):Int):=sc
  have ok:=I.ok
  obtain⟨hA,eA,okA,nA,xA,gA⟩:=jci ok [.int .i64 0,.nilSlice,.nilSlice] (jeh x) 62
  have IA:=I.keep okA oa gA
  have l1:=jal (enc:=jbe) (l:=x.ops)
  unfold jeh at xA eA
  rw[jah]
  unfold jwv qdd
  simp(disch:=first|omega|rfl) only[go_sem,jae,eq_true hlt,hix,jeh,eA,xA,l1]
  refine qdg oa hv.2 x.ops [] rfl IA (fun hj x3 x4 x6 J n g=>?_)
  simp(disch:=first|omega|rfl) only[go_sem,jae,hs]
  exact qjs hl hp rest (done++[x]) hdn' J (fun hk x2 x3 x4 x5 x6 x7 x8 x9 x11 J' n' g'=>hQ hk x2 x3 x4 x5 x6 x7 x8 x9 x11 (by unfold evI;rw[j2y,←hl2];exact J') oa (fun m hm hne=>(g' m oa hne).trans ((g m oa hne).trans (gA m hm))))
theorem qjt {f:Fc} {bF bA:Nat} (hl:f.blocks.length<=10000) (hp:∀ b∈f.blocks,b.params.length<=10000/\b.instrs.length<=10000/\(∀ v∈b.params,v<f.values.length)/\∀ x∈b.instrs,x.ops.length<=6/\∀ o∈x.ops,o.value<f.values.length) {Q:Ex->St->Prop} :
 ∀ (rest done:List Blk) (_:done++rest=f.blocks) {T:List (Nat×Int)} {hi:Hp} (_:SpI hi f bF bA T) {x2 x3 x4 x5 x6 x7 x8 x9 x10 x11 x12 x13 x14 x15 x17 x18 x19 x20 x21 x23:AV}
  (hQ:∀ hj x2 x3 x4 x5 x6 x7 x8 x9 x10 x11 x12 x13 x14 x15 x17 x18 x19 x20 x21 x23,SpI hj f bF bA (spF T (evL done.length rest))->Q (.exit 0) (.mk [x0,x1,x2,x3,x4,x5,x6,x7,x8,x9,x10,x11,x12,x13,x14,x15,.s (.slice bA 0 f.values.length f.values.length true 2),x17,x18,x19,x20,x21,.s (jag ja6 f.blocks),x23,vi f.blocks.length,vi f.blocks.length,x26] hj)),
  W F7 jww.loop (.mk [x0,x1,x2,x3,x4,x5,x6,x7,x8,x9,x10,x11,x12,x13,x14,x15,.s (.slice bA 0 f.values.length f.values.length true 2),x17,x18,x19,x20,x21,.s (jag ja6 f.blocks),x23,vi f.blocks.length,vi done.length,x26] hi) Q
 | [],done,hdn,T,hi,I,x2,x3,x4,x5,x6,x7,x8,x9,x10,x11,x12,x13,x14,x15,x17,x18,x19,x20,x21,x23,hQ=>by
  rw[f08] at hdn
  rw[jah,hdn]
  unfold jww
  simp(disch:=rfl) only[go_sem,f0s]
  exact hQ hi _ _ _ _ _ _ _ _ _ _ _ _ _ _ _ _ _ _ _ _ I
 | b::rest,done,hdn,T,hi,I,x2,x3,x4,x5,x6,x7,x8,x9,x10,x11,x12,x13,x14,x15,x17,x18,x19,x20,x21,x23,hQ=>by
  have hlt1:done.length<f.blocks.length:=by rw[←hdn];simp
  have hlt:(done.length:Int)<f.blocks.length:=oa
  have hget:f.blocks[done.length]?=some b:=by rw[←hdn];simp
  obtain⟨p1,p2,p3,p4⟩:=hp b (f0c hget)
  have hix:=jai (enc:=ja6) (size:=3) hget rfl
  have hdn':(done++[b])++rest=f.blocks:=by rw[←hdn];simp
  have hl2:(done++[b]).length=done.length+1:=sc
  have hs:(done.length:Int)+1=(((done++[b]).length:Nat):Int):=sc
  have ok:=I.ok
  obtain⟨hA,eA,okA,nA,xA,gA⟩:=jci ok [.nilSlice,.nilSlice,.nilSlice] (ja6 b) 58
  have IA:=I.keep okA oa gA
  have l1:=jal (enc:=jaz) (l:=b.params)
  have l2:=jal (enc:=jeh) (l:=b.instrs)
  have hneA:hi.next≠bA:=by have:=I.lt;omega
  unfold ja6 at xA eA
  rw[jah]
  unfold jww qde
  simp(disch:=first|omega|rfl) only[go_sem,jae,eq_true hlt,hix,ja6,eA,xA,l1]
  refine qjr p1 p3 b.params [] rfl IA (fun hj x15 x18 J n g=>?_)
  have xJ:=(g _ hneA).trans xA
  simp(disch:=first|omega|rfl) only[go_sem,xJ,l2]
  refine qjs p2 p4 b.instrs [] rfl J (fun hk x2 x3 x4 x5 x6 x7 x8 x9 x11 J' n' g'=>?_)
  simp(disch:=first|omega|rfl) only[go_sem,jae,hs]
  exact qjt hl hp rest (done++[b]) hdn' J' (fun h2 x2 x3 x4 x5 x6 x7 x8 x9 x10 x11 x12 x13 x14 x15 x17 x18 x19 x20 x21 x23 J2=>hQ h2 x2 x3 x4 x5 x6 x7 x8 x9 x10 x11 x12 x13 x14 x15 x17 x18 x19 x20 x21 x23 (by
   unfold evL evB
   rw[j2y,j2y,←hl2];exact J2))
theorem qdh (x y:SV):∀ n,rep [x,y] n=(List.replicate n [x,y]).flatten
 | 0=>rfl
 | n+1=>by
  have h:rep [x,y] (n+1)=jgk [x,y] (rep [x,y] n):=rfl
  rw[h,jc3,qdh x y n];rfl
theorem qqm {h:Hp} (ok:Ok h) {f:Fc} (hl:f.blocks.length<=10000) (hv:f.values.length<=10000) (hne:f.values≠[]) (hp:∀ b∈f.blocks,b.params.length<=10000/\b.instrs.length<=10000/\(∀ v∈b.params,v<f.values.length)/\∀ x∈b.instrs,x.ops.length<=6/\∀ o∈x.ops,o.value<f.values.length) :
 WC F7 64 [.agg [jag jaz f.values,jag ja6 f.blocks]] h (fun v h'=>∃ d,jhr true h' d v=some (.s (jag ji5 (jey f)))):=by
 refine ja3 (no7 rfl rfl rfl rfl rfl rfl rfl) q2s rfl ?_
 unfold qjq
 have hpos:=ok.pos
 obtain⟨hA,eA,okA,nA,xA,gA⟩:=jeb ok [jag jaz f.values,jag ja6 f.blocks] 32
 obtain⟨hB,eB,okB,nB,xB,gB⟩:=jeb okA (rep [.int .i64 0,.int .i64 0] f.values.length) 135
 rw[qdh] at xB
 have hfl:fl2 (List.replicate f.values.length ((0:Nat),(0:Int)))=(List.replicate f.values.length [.int .i64 0,.int .i64 0]).flatten:=by unfold fl2;rw[List.map_replicate];rfl
 rw[←hfl] at xB
 have I:SpI hB f h.next hA.next (List.replicate f.values.length (0,0)) :=
  ⟨okB,f2o,⟨oa,oa⟩,⟨oa,oa⟩,xB⟩
 have yA:=(gB _ oa).trans xA
 have l1:=jal (enc:=jaz) (l:=f.values)
 have l2:=jal (enc:=ja6) (l:=f.blocks)
 have hmk:=j1y (e:=135) (size:=2) (bytes:=16) (z:=[.int .i64 0,.int .i64 0]) (m:=f.values.length) okA oa oa
 rw[eB] at hmk
 rw[nA] at hmk I
 simp(disch:=first|omega|rfl) only[go_sem,eA,xA,l1,hmk,yA,l2]
 refine qjt hl hp f.blocks [] rfl I (fun hj x2 x3 x4 x5 x6 x7 x8 x9 x10 x11 x12 x13 x14 x15 x17 x18 x19 x20 x21 x23 J=>?_)
 simp(disch:=first|omega|rfl) only[go_sem]
 have hsl:(jey f).length=f.values.length:=by unfold jey;rw[qdf,f2o]
 have hne':jey f≠[]:=fun e=>by
  rw[e] at hsl
  exact hne (f1e hsl.symm)
 have s1:Sl hj 135 2 true ES (.slice (h.next+1) 0 (jey f).length (jey f).length true 2) (jey f) [h.next+1] :=
  .inr ⟨hne',h.next+1,(jey f).map ji5,[],rfl,J.xA,qvt _,rfl⟩
 rw[hsl] at s1
 exact⟨2,jaa.2 ⟨_,s1.frz (enc:=ji5) (d:=1) (fun row a ms e=>by
  obtain⟨rfl,_⟩:=e
  rfl) (fun _=>rfl),rfl⟩⟩
def S8 (f:FuncId):Bool:=Nat.beq f 90||(Nat.beq f 64||(Nat.beq f 42||(Nat.beq f 43||(Nat.beq f 45||Nat.beq f 999999))))
def F8:Fns:=PX S8 F7
theorem q7n {A:Nat->Int}:Env Tryz.prog A tys F8:=jhm q7a
theorem no8 {f:FuncId} (h1:S1 f=false) (h2:Nat.beq f jgu.f=false) (h3:S3 f=false) (h4:S4 f=false) (h5:S5 f=false) (h6:S6 f=false) (h7:S7 f=false) (h8:S8 f=false) {h:Hp}:jdg F8 f vs h=none:=(ja8 h8).trans (no7 h1 h2 h3 h4 h5 h6 h7)
def S9 (f:FuncId):Bool:=Nat.beq f 65
def F9:Fns:=PX S9 F8
theorem q7o {A:Nat->Int}:Env Tryz.prog A tys F9:=jhm q7n
theorem no9 {f:FuncId} (h1:S1 f=false) (h2:Nat.beq f jgu.f=false) (h3:S3 f=false) (h4:S4 f=false) (h5:S5 f=false) (h6:S6 f=false) (h7:S7 f=false) (h8:S8 f=false) (h9:S9 f=false) {h:Hp}:jdg F9 f vs h=none:=(ja8 h9).trans (no8 h1 h2 h3 h4 h5 h6 h7 h8)
theorem qqn {h:Hp} {Q:AV->Hp->Prop} {a:Nat} {b:Int} (hd:Dom idom a b):WC F8 90 [.s (jag jl3 idom),vi a,vi b] h Q=Q (vb true) h :=
 jam (jbi rfl (by simp[jay,ja9,jen,jbg,jcg,jbm]) (qql jev hd))
def KP (idom:List Int) (p:Nat×Int) (k:Nat) (i:Nat):Prop:=(p.1=k/\p.2<(i:Int))∨(p.1≠k/\Dom idom p.1 k)
theorem qdi {h:Hp} (ok:Ok h) {a k i:Nat} (hk:KP idom (a,n) k i):WC F8 65 [.s (jag jl3 idom),.agg [si a,si n],.agg [si k,si i]] h (fun v h'=>∃ d,jhr true h' d v=some (vb true)):=by
 refine ja3 (no8 rfl rfl rfl rfl rfl rfl rfl rfl) qqj rfl ?_
 unfold j5k
 obtain⟨hA,eA,okA,nA,xA,gA⟩:=jeb ok [si a,si n] 135
 obtain⟨hB,eB,okB,nB,xB,gB⟩:=jeb okA [si k,si i] 135
 have yA:=(gB _ oa).trans xA
 rw[nA] at xB
 rcases hk with⟨h1,h2⟩ | ⟨h1,h2⟩
 .simp only at h1 h2
  have c1:((a:Int)=(k:Int))=True:=by grind
  have c2:(n<(i:Int))=True:=eq_true h2
  simp(disch:=first|omega|rfl) only[go_sem,eA,nA,eB,yA,xB,c1,c2]
  exact⟨1,rfl⟩
 .simp only at h1 h2
  have c1:((a:Int)=(k:Int))=False:=by simp;omega
  simp(disch:=first|omega|rfl) only[go_sem,eA,nA,eB,yA,xB,c1]
  unfold jz2
  simp(disch:=first|omega|rfl) only[go_sem,yA,xB,qqn h2]
  exact⟨1,rfl⟩
theorem j0a {h:Hp} {Q:AV->Hp->Prop} {a k i:Nat} (hk:KP idom (a,n) k i):WC F9 65 [.s (jag jl3 idom),.agg [si a,si n],.agg [si k,si i]] h Q=Q (vb true) h :=
 jam (jbi rfl (by simp[jay,ja9,jbj,jen,jbb,jbk,jbg,jcg,jbm]) (qdi jev hk))
def KT (idom:List Int) (T:List (Nat×Int)) (v k i:Nat):Prop:=∃ p,T[v]?=some p/\KP idom p k i
theorem qdj {T:List (Nat×Int)} {l:List Ms.Opd} {k i:Nat} (hl:l.length<=10000) (hp:∀ o∈l,o.kind=1->KT idom T o.value k i) {Q:Ex->St->Prop} :
 ∀ (d j:Nat) (_:j+d=l.length) {hi:Hp} (_:Ok hi) {x14 x18 x20:AV}
  (hQ:∀ hj x14 x18 x20,Ok hj->hi.next<=hj.next->(∀ n,n<hi.next->hj.get n=hi.get n)->Q (.exit 4) (.mk [x0,.s (jag jl3 idom),x2,x3,x4,x5,x6,x7,x8,x9,x10,x11,x12,x13,x14,vi i,vi k,.s (jag ji5 T),x18,.s (jag jbe l),x20,vi l.length,vi l.length,x23,x24,x25,x26,x27,x28,x29,x30,x31,x32,x33] hj)),
  W F9 jld.loop (.mk [x0,.s (jag jl3 idom),x2,x3,x4,x5,x6,x7,x8,x9,x10,x11,x12,x13,x14,vi i,vi k,.s (jag ji5 T),x18,.s (jag jbe l),x20,vi l.length,vi j,x23,x24,x25,x26,x27,x28,x29,x30,x31,x32,x33] hi) Q
 | 0,j,hd,hi,ok,x14,x18,x20,hQ=>by
  obtain rfl:j=l.length:=oa
  rw[jah]
  unfold jld
  simp(disch:=first|omega|rfl) only[go_sem,f0s]
  grind
 | d+1,j,hd,hi,ok,x14,x18,x20,hQ=>by
  have hlt:(j:Int)<(l.length:Int):=oa
  obtain⟨o,hio⟩:∃ y,l[j]?=some y:=⟨_,f0b oa⟩
  have ho:=hp o (f0c hio)
  have hix:=jai (enc:=jbe) (size:=5) hio rfl
  have hs:(j:Int)+1=((j+1:Nat):Int):=oa
  obtain⟨hA,eA,okA,nA,xA,gA⟩:=jci ok [.int .i64 0,.int .i64 0,.bool false,.int .i64 0,.int .i64 0] (jbe o) 80
  unfold jbe at xA eA
  rw[jah]
  unfold jld jzw
  by_cases e:o.kind=1
  .have c1:((o.kind:Int)=1)=True:=by simp;omega
   obtain⟨⟨pb,pn⟩,h1,h2⟩:=ho e
   have hxs:=jai (enc:=ji5) (size:=2) h1 rfl
   simp(disch:=first|omega|rfl) only[go_sem,jae,eq_true hlt,hix,jbe,eA,xA,c1,hxs,ji5,j0a h2,hs]
   exact qdj hl hp d (j+1) oa okA (fun hj x14 x18 x20 o n g=>hQ hj x14 x18 x20 o oa (fun m hm=>(g m oa).trans (gA m hm)))
  .have c1:((o.kind:Int)=1)=False:=by simp;omega
   simp(disch:=first|omega|rfl) only[go_sem,jae,eq_true hlt,hix,jbe,eA,xA,c1,hs]
   exact qdj hl hp d (j+1) oa okA (fun hj x14 x18 x20 o n g=>hQ hj x14 x18 x20 o oa (fun m hm=>(g m oa).trans (gA m hm)))
theorem qju {T:List (Nat×Int)} {l:List Ms.Ins} {k:Nat} (hl:l.length<=10000) (hp:∀ (i:Nat) (x:Ms.Ins),l[i]?=some x->x.ops.length<=6/\∀ o∈x.ops,o.kind=1->KT idom T o.value k i) {Q:Ex->St->Prop} :
 ∀ (d j:Nat) (_:j+d=l.length) {hi:Hp} (_:Ok hi) {x14 x15 x18 x19 x20 x21 x22 x23 x25:AV}
  (hQ:∀ hj x14 x15 x18 x19 x20 x21 x22 x23 x25,Ok hj->hi.next<=hj.next->(∀ n,n<hi.next->hj.get n=hi.get n)->Q (.exit 2) (.mk [x0,.s (jag jl3 idom),x2,x3,x4,x5,x6,x7,x8,x9,x10,x11,x12,x13,x14,x15,vi k,.s (jag ji5 T),x18,x19,x20,x21,x22,x23,.s (jag jeh l),x25,vi l.length,vi l.length,x28,x29,x30,x31,x32,x33] hj)),
  W F9 jle.loop (.mk [x0,.s (jag jl3 idom),x2,x3,x4,x5,x6,x7,x8,x9,x10,x11,x12,x13,x14,x15,vi k,.s (jag ji5 T),x18,x19,x20,x21,x22,x23,.s (jag jeh l),x25,vi l.length,vi j,x28,x29,x30,x31,x32,x33] hi) Q
 | 0,j,hd,hi,ok,x14,x15,x18,x19,x20,x21,x22,x23,x25,hQ=>by
  obtain rfl:j=l.length:=oa
  rw[jah]
  unfold jle
  simp(disch:=first|omega|rfl) only[go_sem,f0s]
  grind
 | d+1,j,hd,hi,ok,x14,x15,x18,x19,x20,x21,x22,x23,x25,hQ=>by
  have hlt:(j:Int)<(l.length:Int):=oa
  obtain⟨x,hio⟩:∃ y,l[j]?=some y:=⟨_,f0b oa⟩
  obtain⟨hx1,hx2⟩:=hp j x hio
  have hix:=jai (enc:=jeh) (size:=3) hio rfl
  have hs:(j:Int)+1=((j+1:Nat):Int):=oa
  obtain⟨hA,eA,okA,nA,xA,gA⟩:=jci ok [.int .i64 0,.nilSlice,.nilSlice] (jeh x) 62
  have l1:=jal (enc:=jbe) (l:=x.ops)
  unfold jeh at xA eA
  rw[jah]
  unfold jle jzx
  simp(disch:=first|omega|rfl) only[go_sem,jae,eq_true hlt,hix,jeh,eA,xA,l1]
  refine qdj oa hx2 x.ops.length 0 oa okA (fun hj x14 x18 x20 o n g=>?_)
  simp(disch:=first|omega|rfl) only[go_sem,jae,hs]
  exact qju hl hp d (j+1) oa o (fun hk x14 x15 x18 x19 x20 x21 x22 x23 x25 o' n' g'=>hQ hk x14 x15 x18 x19 x20 x21 x22 x23 x25 o' oa (fun m hm=>(g' m oa).trans ((g m oa).trans (gA m hm))))
theorem qjv {T:List (Nat×Int)} {l:List Nat} {b:Blk} {k:Nat} (hl:l.length<=10000) (hp:∀ v∈l,KT idom T v k b.instrs.length) {Q:Ex->St->Prop} :
 ∀ (d j:Nat) (_:j+d=l.length) {hi:Hp} (_:Ok hi) (_:hi.get bB=some (.arr [jag jaz b.params,jag jeh b.instrs,jag jgi b.edges] 58)) {x3 x4 x6:AV}
  (hQ:∀ x3 x4 x6,Q (.exit 8) (.mk [x0,.s (jag jl3 idom),x2,x3,x4,.s (jag jaz l),x6,vi l.length,vi l.length,x9,x10,x11,x12,x13,x14,x15,vi k,.s (jag ji5 T),x18,x19,x20,x21,x22,x23,x24,x25,x26,x27,.s (.ptr bB 0),x29,x30,x31,x32,x33] hi)),
  W F9 jlf.loop (.mk [x0,.s (jag jl3 idom),x2,x3,x4,.s (jag jaz l),x6,vi l.length,vi j,x9,x10,x11,x12,x13,x14,x15,vi k,.s (jag ji5 T),x18,x19,x20,x21,x22,x23,x24,x25,x26,x27,.s (.ptr bB 0),x29,x30,x31,x32,x33] hi) Q
 | 0,j,hd,hi,ok,xB,x3,x4,x6,hQ=>by
  obtain rfl:j=l.length:=oa
  rw[jah]
  unfold jlf
  simp(disch:=first|omega|rfl) only[go_sem,f0s]
  grind
 | d+1,j,hd,hi,ok,xB,x3,x4,x6,hQ=>by
  have hlt:(j:Int)<(l.length:Int):=oa
  obtain⟨v,hio⟩:∃ y,l[j]?=some y:=⟨_,f0b oa⟩
  obtain⟨⟨pb,pn⟩,h1,h2⟩:=hp v (f0c hio)
  have hix:=jai (enc:=jaz) (size:=1) hio rfl
  have hxs:=jai (enc:=ji5) (size:=2) h1 rfl
  have hs:(j:Int)+1=((j+1:Nat):Int):=oa
  have l1:=jal (enc:=jeh) (l:=b.instrs)
  rw[jah]
  unfold jlf jzz jzy
  simp(disch:=first|omega|rfl) only[go_sem,jae,eq_true hlt,hix,jaz,hxs,ji5,xB,l1,j0a h2,hs]
  exact qjv hl hp d (j+1) oa ok xB hQ
theorem qjw {T:List (Nat×Int)} {l:List Ms.Edg} {b:Blk} {k:Nat} (hl:l.length<=10000) (hp:∀ e∈l,e.args.length<=10000/\∀ v∈e.args,KT idom T v k b.instrs.length) {Q:Ex->St->Prop} :
 ∀ (d j:Nat) (_:j+d=l.length) {hi:Hp} (_:Ok hi) (_:bB<hi.next) (_:hi.get bB=some (.arr [jag jaz b.params,jag jeh b.instrs,jag jgi b.edges] 58)) {x3 x4 x5 x6 x7 x8 x9 x11:AV}
  (hQ:∀ hj x3 x4 x5 x6 x7 x8 x9 x11,Ok hj->hi.next<=hj.next->(∀ n,n<hi.next->hj.get n=hi.get n)->Q (.exit 6) (.mk [x0,.s (jag jl3 idom),x2,x3,x4,x5,x6,x7,x8,x9,.s (jag jgi l),x11,vi l.length,vi l.length,x14,x15,vi k,.s (jag ji5 T),x18,x19,x20,x21,x22,x23,x24,x25,x26,x27,.s (.ptr bB 0),x29,x30,x31,x32,x33] hj)),
  W F9 jlg.loop (.mk [x0,.s (jag jl3 idom),x2,x3,x4,x5,x6,x7,x8,x9,.s (jag jgi l),x11,vi l.length,vi j,x14,x15,vi k,.s (jag ji5 T),x18,x19,x20,x21,x22,x23,x24,x25,x26,x27,.s (.ptr bB 0),x29,x30,x31,x32,x33] hi) Q
 | 0,j,hd,hi,ok,hb,xB,x3,x4,x5,x6,x7,x8,x9,x11,hQ=>by
  obtain rfl:j=l.length:=oa
  rw[jah]
  unfold jlg
  simp(disch:=first|omega|rfl) only[go_sem,f0s]
  grind
 | d+1,j,hd,hi,ok,hb,xB,x3,x4,x5,x6,x7,x8,x9,x11,hQ=>by
  have hlt:(j:Int)<(l.length:Int):=oa
  obtain⟨e,hio⟩:∃ y,l[j]?=some y:=⟨_,f0b oa⟩
  obtain⟨he1,he2⟩:=hp e (f0c hio)
  have hix:=jai (enc:=jgi) (size:=2) hio rfl
  have hs:(j:Int)+1=((j+1:Nat):Int):=oa
  obtain⟨hA,eA,okA,nA,xA,gA⟩:=jci ok [.int .i64 0,.nilSlice] (jgi e) 65
  have yB:=(gA _ hb).trans xB
  have l1:=jal (enc:=jaz) (l:=e.args)
  unfold jgi at xA eA
  rw[jah]
  unfold jlg jz0
  simp(disch:=first|omega|rfl) only[go_sem,jae,eq_true hlt,hix,jgi,eA,xA,l1]
  refine qjv he1 he2 e.args.length 0 oa okA yB (fun x3 x4 x6=>?_)
  simp(disch:=first|omega|rfl) only[go_sem,jae,hs]
  exact qjw hl hp d (j+1) oa okA oa yB (fun hk x3 x4 x5 x6 x7 x8 x9 x11 o' n' g'=>hQ hk x3 x4 x5 x6 x7 x8 x9 x11 o' oa (fun m hm=>(g' m oa).trans (gA m hm)))
structure UsOk (idom:List Int) (f:Fc):Prop where
 nb:f.blocks.length<=10000
 sz:∀ b∈f.blocks,b.instrs.length<=10000/\b.edges.length<=10000
 us:∀ (k i:Nat) (b:Blk) (x:Ms.Ins),f.blocks[k]?=some b->b.instrs[i]?=some x->x.ops.length<=6/\∀ o∈x.ops,o.kind=1->KT idom (jey f) o.value k i
 ed:∀ (k:Nat) (b:Blk) (e:Ms.Edg),f.blocks[k]?=some b->e∈b.edges->e.args.length<=10000/\∀ v∈e.args,KT idom (jey f) v k b.instrs.length
theorem qjx {f:Fc} (u:UsOk idom f) {Q:Ex->St->Prop} :
 ∀ (d j:Nat) (_:j+d=f.blocks.length) {hi:Hp} (_:Ok hi) {x3 x4 x5 x6 x7 x8 x9 x10 x11 x12 x13 x14 x15 x16 x18 x19 x20 x21 x22 x23 x24 x25 x26 x27 x28 x30:AV}
  (hQ:∀ hj x3 x4 x5 x6 x7 x8 x9 x10 x11 x12 x13 x14 x15 x16 x18 x19 x20 x21 x22 x23 x24 x25 x26 x27 x28 x30,Q (.exit 0) (.mk [x0,.s (jag jl3 idom),x2,x3,x4,x5,x6,x7,x8,x9,x10,x11,x12,x13,x14,x15,x16,.s (jag ji5 (jey f)),x18,x19,x20,x21,x22,x23,x24,x25,x26,x27,x28,.s (jag ja6 f.blocks),x30,vi f.blocks.length,vi f.blocks.length,x33] hj)),
  W F9 jlh.loop (.mk [x0,.s (jag jl3 idom),x2,x3,x4,x5,x6,x7,x8,x9,x10,x11,x12,x13,x14,x15,x16,.s (jag ji5 (jey f)),x18,x19,x20,x21,x22,x23,x24,x25,x26,x27,x28,.s (jag ja6 f.blocks),x30,vi f.blocks.length,vi j,x33] hi) Q
 | 0,j,hd,hi,ok,x3,x4,x5,x6,x7,x8,x9,x10,x11,x12,x13,x14,x15,x16,x18,x19,x20,x21,x22,x23,x24,x25,x26,x27,x28,x30,hQ=>by
  obtain rfl:j=f.blocks.length:=oa
  rw[jah]
  unfold jlh
  simp(disch:=first|omega|rfl) only[go_sem,f0s]
  grind
 | d+1,j,hd,hi,ok,x3,x4,x5,x6,x7,x8,x9,x10,x11,x12,x13,x14,x15,x16,x18,x19,x20,x21,x22,x23,x24,x25,x26,x27,x28,x30,hQ=>by
  have nb:=u.nb
  have hlt:(j:Int)<(f.blocks.length:Int):=oa
  obtain⟨b,hio⟩:∃ y,f.blocks[j]?=some y:=⟨_,f0b oa⟩
  obtain⟨s1,s2⟩:=u.sz b (f0c hio)
  have hix:=jai (enc:=ja6) (size:=3) hio rfl
  have hs:(j:Int)+1=((j+1:Nat):Int):=oa
  obtain⟨hA,eA,okA,nA,xA,gA⟩:=jci ok [.nilSlice,.nilSlice,.nilSlice] (ja6 b) 58
  have l1:=jal (enc:=jeh) (l:=b.instrs)
  have l2:=jal (enc:=jgi) (l:=b.edges)
  unfold ja6 at xA eA
  rw[jah]
  unfold jlh jz1
  simp(disch:=first|omega|rfl) only[go_sem,jae,eq_true hlt,hix,ja6,eA,xA,l1]
  refine qju s1 (fun i x hx=>u.us j i b x hio hx) b.instrs.length 0 oa okA (fun hj x14 x15 x18 x19 x20 x21 x22 x23 x25 o n g=>?_)
  have yA:=(g _ oa).trans xA
  simp(disch:=first|omega|rfl) only[go_sem,yA,l2]
  refine qjw s2 (fun e he=>u.ed j b e hio he) b.edges.length 0 oa o oa yA (fun hk x3 x4 x5 x6 x7 x8 x9 x11 o' n' g'=>?_)
  simp(disch:=first|omega|rfl) only[go_sem,jae,hs]
  exact qjx u d (j+1) oa o' hQ
theorem qqo {h:Hp} {Q:AV->Hp->Prop} {f:Fc} (hl:f.blocks.length<=10000) (hv:f.values.length<=10000) (hne:f.values≠[]) (hp:∀ b∈f.blocks,b.params.length<=10000/\b.instrs.length<=10000/\(∀ v∈b.params,v<f.values.length)/\∀ x∈b.instrs,x.ops.length<=6/\∀ o∈x.ops,o.value<f.values.length) :
 WC F9 64 [.agg [jag jaz f.values,jag ja6 f.blocks]] h Q=Q (.s (jag ji5 (jey f))) h :=
 jam ((ja8 rfl).trans (jbi rfl (by simp[jay,ja9,jbj,jbb,jbk,jbg,jbm]) (qqm jev hl hv hne hp)))
theorem qqp {h:Hp} (ok:Ok h) {f:Fc} (u:UsOk idom f) (hv:f.values.length<=10000) (hne:f.values≠[]) (hp:∀ b∈f.blocks,b.params.length<=10000/\b.instrs.length<=10000/\(∀ v∈b.params,v<f.values.length)/\∀ x∈b.instrs,x.ops.length<=6/\∀ o∈x.ops,o.value<f.values.length) :
 WC F9 44 [.agg [jag jaz f.values,jag ja6 f.blocks],.s (jag jl3 idom)] h (fun v h'=>∃ d,jhr true h' d v=some (vb true)):=by
 refine ja3 (no9 rfl rfl rfl rfl rfl rfl rfl rfl rfl) qqi rfl ?_
 unfold j5j
 obtain⟨hA,eA,okA,nA,xA,gA⟩:=jeb ok [jag jaz f.values,jag ja6 f.blocks] 32
 have l2:=jal (enc:=ja6) (l:=f.blocks)
 simp(disch:=rfl) only[go_sem,eA,xA,qqo u.nb hv hne hp,l2]
 refine qjx u f.blocks.length 0 oa okA (fun hj x3 x4 x5 x6 x7 x8 x9 x10 x11 x12 x13 x14 x15 x16 x18 x19 x20 x21 x22 x23 x24 x25 x26 x27 x28 x30=>?_)
 simp(disch:=first|omega|rfl) only[go_sem]
 exact⟨1,rfl⟩
theorem q2t:∀ (s:List Bool),s.length<=5->oG s
 | [],_=>o_
 | [false],_=>o_f
 | [true],_=>o_t
 | [false,false],_=>q7k
 | [false,true],_=>q7h
 | [true,false],_=>q7b
 | [true,true],_=>q7e
 | [false,false,false],_=>q2o
 | [false,false,true],_=>q2l
 | [false,true,false],_=>q16
 | [false,true,true],_=>q1y
 | [true,false,false],_=>q2f
 | [true,false,true],_=>q2i
 | [true,true,false],_=>q19
 | [true,true,true],_=>q2c
 | [false,false,false,false],_=>qvn
 | [false,false,false,true],_=>qve
 | [false,false,true,false],_=>qut
 | [false,false,true,true],_=>qu5
 | [false,true,false,false],_=>quz
 | [false,true,false,true],_=>qvb
 | [false,true,true,false],_=>quj
 | [false,true,true,true],_=>quq
 | [true,false,false,false],_=>qum
 | [true,false,false,true],_=>qug
 | [true,false,true,false],_=>qvq
 | [true,false,true,true],_=>quw
 | [true,true,false,false],_=>qvk
 | [true,true,false,true],_=>qu2
 | [true,true,true,false],_=>qu8
 | [true,true,true,true],_=>qvh
 | [false,false,false,false,false],_=>qo1
 | [false,false,false,false,true],_=>qny
 | [false,false,false,true,false],_=>qqa
 | [false,false,false,true,true],_=>qp4
 | [false,false,true,false,false],_=>qpv
 | [false,false,true,false,true],_=>qn7
 | [false,false,true,true,false],_=>qoj
 | [false,false,true,true,true],_=>qpm
 | [false,true,false,false,false],_=>qom
 | [false,true,false,false,true],_=>qov
 | [false,true,false,true,false],_=>qpa
 | [false,true,false,true,true],_=>qpy
 | [false,true,true,false,false],_=>qpj
 | [false,true,true,false,true],_=>qpp
 | [false,true,true,true,false],_=>qp1
 | [false,true,true,true,true],_=>qn1
 | [true,false,false,false,false],_=>qoy
 | [true,false,false,false,true],_=>qnv
 | [true,false,false,true,false],_=>qp7
 | [true,false,false,true,true],_=>qn4
 | [true,false,true,false,false],_=>qps
 | [true,false,true,false,true],_=>qog
 | [true,false,true,true,false],_=>qos
 | [true,false,true,true,true],_=>qod
 | [true,true,false,false,false],_=>qoa
 | [true,true,false,false,true],_=>qo7
 | [true,true,false,true,false],_=>qpg
 | [true,true,false,true,true],_=>qop
 | [true,true,true,false,false],_=>qns
 | [true,true,true,false,true],_=>qo4
 | [true,true,true,true,false],_=>qpd
 | [true,true,true,true,true],_=>qnp
 | _::_::_::_::_::_::_,h=>absurd h sc
theorem q2u:∀ (s:List Bool),s.length<=5->nG s
 | [],_=>n_
 | [false],_=>n_f
 | [true],_=>n_t
 | [false,false],_=>q7l
 | [false,true],_=>q7i
 | [true,false],_=>q7c
 | [true,true],_=>q7f
 | [false,false,false],_=>q2p
 | [false,false,true],_=>q2m
 | [false,true,false],_=>q17
 | [false,true,true],_=>q1z
 | [true,false,false],_=>q2g
 | [true,false,true],_=>q2j
 | [true,true,false],_=>q2a
 | [true,true,true],_=>q2d
 | [false,false,false,false],_=>qvo
 | [false,false,false,true],_=>qvf
 | [false,false,true,false],_=>quu
 | [false,false,true,true],_=>qu6
 | [false,true,false,false],_=>qu0
 | [false,true,false,true],_=>qvc
 | [false,true,true,false],_=>quk
 | [false,true,true,true],_=>qur
 | [true,false,false,false],_=>qun
 | [true,false,false,true],_=>quh
 | [true,false,true,false],_=>qvr
 | [true,false,true,true],_=>qux
 | [true,true,false,false],_=>qvl
 | [true,true,false,true],_=>qu3
 | [true,true,true,false],_=>qu9
 | [true,true,true,true],_=>qvi
 | [false,false,false,false,false],_=>qo2
 | [false,false,false,false,true],_=>qnz
 | [false,false,false,true,false],_=>qqb
 | [false,false,false,true,true],_=>qp5
 | [false,false,true,false,false],_=>qpw
 | [false,false,true,false,true],_=>qn8
 | [false,false,true,true,false],_=>qok
 | [false,false,true,true,true],_=>qpn
 | [false,true,false,false,false],_=>qon
 | [false,true,false,false,true],_=>qow
 | [false,true,false,true,false],_=>qpb
 | [false,true,false,true,true],_=>qpz
 | [false,true,true,false,false],_=>qpk
 | [false,true,true,false,true],_=>qpq
 | [false,true,true,true,false],_=>qp2
 | [false,true,true,true,true],_=>qn2
 | [true,false,false,false,false],_=>qoz
 | [true,false,false,false,true],_=>qnw
 | [true,false,false,true,false],_=>qp8
 | [true,false,false,true,true],_=>qn5
 | [true,false,true,false,false],_=>qpt
 | [true,false,true,false,true],_=>qoh
 | [true,false,true,true,false],_=>qot
 | [true,false,true,true,true],_=>qoe
 | [true,true,false,false,false],_=>qob
 | [true,true,false,false,true],_=>qo8
 | [true,true,false,true,false],_=>qph
 | [true,true,false,true,true],_=>qoq
 | [true,true,true,false,false],_=>qnt
 | [true,true,true,false,true],_=>qo5
 | [true,true,true,true,false],_=>qpe
 | [true,true,true,true,true],_=>qnq
 | _::_::_::_::_::_::_,h=>absurd h sc
theorem q2v:∀ (s:List Bool),s.length<=5->iG s
 | [],_=>i_
 | [false],_=>i_f
 | [true],_=>i_t
 | [false,false],_=>q7m
 | [false,true],_=>q7j
 | [true,false],_=>q7d
 | [true,true],_=>q7g
 | [false,false,false],_=>q2q
 | [false,false,true],_=>q2n
 | [false,true,false],_=>q18
 | [false,true,true],_=>q15
 | [true,false,false],_=>q2h
 | [true,false,true],_=>q2k
 | [true,true,false],_=>q2b
 | [true,true,true],_=>q2e
 | [false,false,false,false],_=>qvp
 | [false,false,false,true],_=>qvg
 | [false,false,true,false],_=>quv
 | [false,false,true,true],_=>qu7
 | [false,true,false,false],_=>qu1
 | [false,true,false,true],_=>qvd
 | [false,true,true,false],_=>qul
 | [false,true,true,true],_=>qus
 | [true,false,false,false],_=>qup
 | [true,false,false,true],_=>qui
 | [true,false,true,false],_=>qvs
 | [true,false,true,true],_=>quy
 | [true,true,false,false],_=>qvm
 | [true,true,false,true],_=>qu4
 | [true,true,true,false],_=>qva
 | [true,true,true,true],_=>qvj
 | [false,false,false,false,false],_=>qo3
 | [false,false,false,false,true],_=>qn0
 | [false,false,false,true,false],_=>qqc
 | [false,false,false,true,true],_=>qp6
 | [false,false,true,false,false],_=>qpx
 | [false,false,true,false,true],_=>qn9
 | [false,false,true,true,false],_=>qol
 | [false,false,true,true,true],_=>qpo
 | [false,true,false,false,false],_=>qoo
 | [false,true,false,false,true],_=>qox
 | [false,true,false,true,false],_=>qpc
 | [false,true,false,true,true],_=>qp0
 | [false,true,true,false,false],_=>qpl
 | [false,true,true,false,true],_=>qpr
 | [false,true,true,true,false],_=>qp3
 | [false,true,true,true,true],_=>qn3
 | [true,false,false,false,false],_=>qo0
 | [true,false,false,false,true],_=>qnx
 | [true,false,false,true,false],_=>qp9
 | [true,false,false,true,true],_=>qn6
 | [true,false,true,false,false],_=>qpu
 | [true,false,true,false,true],_=>qoi
 | [true,false,true,true,false],_=>qou
 | [true,false,true,true,true],_=>qof
 | [true,true,false,false,false],_=>qoc
 | [true,true,false,false,true],_=>qo9
 | [true,true,false,true,false],_=>qpi
 | [true,true,false,true,true],_=>qor
 | [true,true,true,false,false],_=>qnu
 | [true,true,true,false,true],_=>qo6
 | [true,true,true,true,false],_=>qpf
 | [true,true,true,true,true],_=>qnr
 | _::_::_::_::_::_::_,h=>absurd h sc
theorem j2z {α β:Type} (g:α->β):∀ (l:List α),(l.map (fun v=>(v,g v))).map (·.1)=l
 | []=>rfl
 | a::l=>congrArg (a::·) (j2z g l)
theorem qg5 (b i:Nat) (ops:List Ms.Opd):(evO b i ops).map (·.1)=dfO ops:=j2z _ _
theorem j5m (b:Nat):∀ (l:List Ms.Ins) (i:Nat),(evI b i l).map (·.1)=(l.map jdd).flatten
 | [],i=>rfl
 | x::l,i=>by
  unfold evI
  rw[f3c,qg5,j5m b l]
  rfl
theorem jwx:∀ (l:List Blk) (k:Nat),(evL k l).map (·.1)=jdr l
 | [],k=>rfl
 | b::l,k=>by
  unfold evL evB evP
  rw[f3c,f3c,j5m,jwx l,j2z]
  simp[jdr,jwc]
theorem qdk {b:Nat} {y:Ms.Ins} (hv:v∈jdd y):∀ {l:List Ms.Ins} {i j:Nat},l[i]?=some y->(v,(b,((j+i:Nat):Int)))∈evI b j l
 | [],i,j,h=>by simp at h
 | x::l,0,j,h=>by
  simp only[f1q,Option.some.injEq] at h
  subst h
  unfold evI
  exact f07 _ (f1r.2 ⟨v,hv,rfl⟩)
 | x::l,i+1,j,h=>by
  simp only[f2x] at h
  unfold evI
  have:=qdk (b:=b) hv (j:=j+1) h
  rw[show j+1+i=j+(i+1) by omega] at this
  exact f0z _ this
theorem qdl {b:Nat}:∀ {l:List Blk} {k:Nat} {i:Nat},b=k+i->j2x l v i n->(v,(b,n))∈evL k l
 | [],k,i,e,h=>by
  obtain⟨x,h1,_⟩:=h
  simp at h1
 | x::l,k,0,e,h=>by
  obtain⟨y,h1,h2⟩:=h
  simp only[f1q,Option.some.injEq] at h1
  subst h1
  rw[f1l] at e
  subst e
  unfold evL evB
  refine f07 _ ?_
  rcases h2 with⟨rfl,h2⟩ | ⟨i,y,rfl,h2,h3⟩
  .exact f07 _ (f1r.2 ⟨v,h2,rfl⟩)
  .have:=qdk (b:=b) h3 (j:=0) h2
   rw[f0y] at this
   exact f0z _ this
 | x::l,k,i+1,e,h=>by
  unfold evL
  refine f0z _ (qdl (i:=i) oa ?_)
  obtain⟨y,h1,h2⟩:=h
  exact⟨y,by simpa using h1,h2⟩
theorem qdm:∀ (l:List (Nat×(Nat×Int))) (T:List (Nat×Int)),v∉l.map (·.1)->(spF T l)[v]?=T[v]?
 | [],T,_=>rfl
 | e::l,T,h=>by
  simp only[f01,f0e,not_or] at h
  show(spF (T.set e.1 e.2) l)[v]?=_
  rw[qdm l _ h.2,f2i (fun x=>h.1 x.symm)]
theorem qdn {p:Nat×Int}:∀ (l:List (Nat×(Nat×Int))) (T:List (Nat×Int)),(l.map (·.1)).Nodup->v<T.length->(v,p)∈l->(spF T l)[v]?=some p
 | [],T,_,_,h=>by cases h
 | e::l,T,hd,hv,h=>by
  rw[f01,f0q] at hd
  show(spF (T.set e.1 e.2) l)[v]?=_
  rcases f0e.1 h with rfl | h
  .rw [qdm l _ hd.1,List.getElem?_set_self hv]
  .exact qdn l _ hd.2 (by rw[f3b];exact hv) h
theorem qg6 {f:Fc} (hm:(jdr f.blocks).Perm (List.range f.values.length)) {b:Nat} (h:j2x f.blocks v b n):(jey f)[v]?=some (b,n):=by
 have hmem:=qdl (k:=0) (i:=b) (f0y b).symm h
 have hk:v∈jdr f.blocks:=by rw[←jwx f.blocks 0];exact f1r.2 ⟨_,hmem,rfl⟩
 have hv:v<f.values.length:=List.mem_range.1 (hm.mem_iff.1 hk)
 unfold jey
 exact qdn _ _ (by rw[jwx];exact hm.nodup_iff.2 List.nodup_range) (by rw[f2o];exact hv) hmem
theorem jws.kt {f:Fc} (hm:(jdr f.blocks).Perm (List.range f.values.length)) {k i:Nat} (h:jws idom f.blocks v k i):KT idom (jey f) v k i:=by
 obtain⟨b,n,h1,h2⟩:=h
 exact⟨(b,n),qg6 hm h1,h2⟩
def gPs (l:List Blk) (k:Nat):SV:=jag jaz (l.getD k jho).params
def gIs (l:List Blk) (k:Nat):SV:=jag jeh (l.getD k jho).instrs
def gAs (l:List Blk) (k j:Nat):SV:=jag jaz ((l.getD k jho).edges.getD j ⟨0,[]⟩).args
theorem qdo (a:Nat->SV):∀ (r p:List Ms.Edg),(∀ j,a j=jag jaz ((p++r).getD j ⟨0,[]⟩).args)->qxa a p.length (r.map (·.block))=r.map jgi
 | [],p,h=>rfl
 | e::r,p,h=>by
  show[si e.block,a p.length]::qxa a (p.length+1) (r.map (·.block))=jgi e::r.map jgi
  have h1:a p.length=jag jaz e.args:=by
   rw[h,f0o,f0u (f0g _)];simp
  have h2:=qdo a r (p++[e]) (fun j=>by rw[h];simp)
  rw[f0f] at h2
  rw[h1]
  exact congrArg _ h2
theorem qqq (a:Nat->SV) (l:List Ms.Edg) (h:∀ j,a j=jag jaz (l.getD j ⟨0,[]⟩).args):qxb a (l.map (·.block))=jag jgi l:=by
 cases l with
 | nil=>rfl
 | cons e r =>
  have:=qdo a (e::r) [] (by simpa using h)
  exact congrArg SV.lst this
theorem j5n (l:List Blk):∀ (r p:List Blk),p++r=l->qc7 (gPs l) (gIs l) (gAs l) p.length (grL r)=r.map ja6
 | [],p,h=>rfl
 | b::r,p,h=>by
  have hb:l.getD p.length jho=b:=by rw[←h,f0o,f0u (f0g _)];simp
  show[gPs l p.length,gIs l p.length,qxb (gAs l p.length) (qjm b)]::qc7 (gPs l) (gIs l) (gAs l) (p.length+1) (grL r)=ja6 b::r.map ja6
  have h1:qxb (gAs l p.length) (qjm b)=jag jgi b.edges:=qqq _ _ (fun j=>by unfold gAs;rw[hb])
  have h2:=j5n l r (p++[b]) (by rw[←h];simp)
  rw[f0f] at h2
  rw[h1]
  unfold gPs gIs
  rw[hb]
  exact congrArg _ h2
theorem j20 {f:Fc} (hne:f.blocks≠[]):[jag jaz f.values,jag ja6 f.blocks]=qxc (grL f.blocks) (jag jaz f.values) (gPs f.blocks) (gIs f.blocks) (gAs f.blocks):=by
 have h:=j5n f.blocks f.blocks [] rfl
 unfold qxc
 rw[show qc7 (gPs f.blocks) (gIs f.blocks) (gAs f.blocks) 0 (grL f.blocks)=f.blocks.map ja6 from h]
 cases e:f.blocks with
 | nil=>exact absurd e hne
 | cons b r=>rfl
section
variable {f:Fc} {s:List Bool} {h:Hp} {Q:AV->Hp->Prop}
theorem qg7 (hs:s.length<=5) (hg:grL f.blocks=gS s) (hne:f.blocks≠[]):jdg F8 42 [.agg [jag jaz f.values,jag ja6 f.blocks]] h=some (.s (jag jaz (qc6 s 0)),h) :=
 jbi rfl (by simp only[jay,ja9,jbj,jen,jbb,jbk,jbg,jcg,jcr,jbm,if_true]) (by rw[j20 hne,hg];exact jrw (q2t s hs _ _ _ _))
theorem qqr (hs:s.length<=5) (hg:grL f.blocks=gS s) (hne:f.blocks≠[]):jdg F8 43 [.agg [jag jaz f.values,jag ja6 f.blocks]] h=some (.s (jag jsu (j8e (gS s))),h) :=
 jbi rfl (by simp only[jay,ja9,jbj,jen,jbb,jbk,jbg,jcg,jcr,jbm,if_true]) (by rw[j20 hne,hg];exact jrw (q2u s hs _ _ _ _))
theorem qg8 (hs:s.length<=5) (hg:grL f.blocks=gS s) (hne:f.blocks≠[]):jdg F8 45 [.agg [jag jaz f.values,jag ja6 f.blocks],.s (jag jaz (qc6 s 0))] h=some (.s (jag jl3 (jht s)),h) :=
 jbi rfl (by simp only[jay,ja9,jbj,jen,jbb,jbk,jbg,jcg,jcr,jbm,if_true]) (by rw[j20 hne,hg];exact jrw (q2v s hs _ _ _ _))
end
def shp:Nat->List (List Bool)
 | 0=>[[]]
 | n+1=>[]::((shp n).map (false::·)++(shp n).map (true::·))
theorem qdp:∀ (n:Nat) (s:List Bool),s.length<=n->s∈shp n
 | 0,s,h=>by
  have:=f1e (Nat.le_zero.1 h)
  subst this;exact f0r.2 rfl
 | n+1,[],h=>by unfold shp;simp
 | n+1,b::s,h=>by
  have:=qdp n s (by simpa using h)
  unfold shp
  refine f02 _ (f0d.2 ?_)
  cases b
  .exact .inl (f1r.2 ⟨s,this,rfl⟩)
  .exact .inr (f1r.2 ⟨s,this,rfl⟩)
theorem qqs {P:List Bool->Bool} (h:(shp 5).all P=true) {s:List Bool} (hs:s.length<=5):P s=true:=f20.1 h s (qdp 5 s hs)
def q3o (g:List (List Nat)):Bool:=g.all (fun es=>es.length<=1||es.all (fun t=>((j8e g).getD t [0,0]).length<=1))
theorem qg9:(shp 5).all (fun s=>q3o (gS s))=true:=ka
theorem jwy:∀ (s:List Bool) (c:Nat),(qc6 s c).length=1+3*s.length
 | [],c=>rfl
 | false::s,c=>by simp[qc6,jwy s];omega
 | true::s,c=>by simp[qc6,jwy s];omega
structure FlG (m:Nat×Nat) (f:Fc) (s:List Bool):Prop where
 k:FcOk m f
 on:jni f=0
 hs:s.length<=5
 hg:grL f.blocks=gS s
 hv:f.values≠[]
structure FlOk (m:Nat×Nat) (f:Fc) (s:List Bool):Prop extends FlG m f s where
 us:UsOk (jht s) f
theorem FlG.hne {m:Nat×Nat} {f:Fc} {s:List Bool} (o:FlG m f s):f.blocks≠[]:=f1u.1 (by have:=o.k.nb;omega)
theorem FlOk.len {m:Nat×Nat} {f:Fc} {s:List Bool} (o:FlOk m f s):f.blocks.length=1+3*s.length:=by rw[←jd8,o.hg,j5i]
theorem qqt {m:Nat×Nat} (m1:2<=m.1/\m.1<=10) (m2:2<=m.2/\m.2<=10) (l:List Pc):∃ s,FlOk m (jea m l) s/\(jdr (jea m l).blocks).Perm (List.range (jea m l).values.length) /\
 (∀ (k i:Nat) (b:Blk) (x:Ms.Ins) (o:Ms.Opd),(jea m l).blocks[k]?=some b->b.instrs[i]?=some x->o∈x.ops->o.kind=1->jws (jht s) (jea m l).blocks o.value k i):=by
 obtain⟨k,kp,_⟩:=j4t m1 m2 l
 obtain⟨s,h1,h2,h3,h4⟩:=j8f m1 m2 l
 have hv:(jea m l).values≠[]:=by
  obtain⟨b,g,c,n,_⟩:=((jlb m1 m2).pieces (l.take 24)).bd.lay ⟨0,0,1,0,0,0,3⟩
  obtain⟨_,_,_,_,_,_,_,_,cs,e1,e2,_⟩:=qmu ((jlb m1 m2).pieces (l.take 24)).v ⟨0,0,1,0,0,0,3⟩
  have:(jea m l).values=(jct ((l.take 24).foldl jbw (jca m)) ⟨0,0,1,0,0,0,3⟩).values:=rfl
  rw[this,e2]
  rcases e1 with rfl | rfl<;>simp
 refine⟨s,⟨⟨k,qg0 kp,h1,h2,hv⟩,⟨by have:=k.nb;omega,fun b hb=>by have:=k.blk b hb;omega,fun a i b x hb hx=>⟨(k.ins b (f0c hb) x (f0c hx)).nops,fun o ho hk=>jws.kt kp (h3 a i b x o hb hx ho hk)⟩,fun a b e hb he=>⟨?_,fun v hv=>jws.kt kp (h4 a b e v hb he hv)⟩⟩⟩,kp,h3⟩
 obtain⟨_,_,t,h5,h6,_⟩:=k.edg b (f0c hb) e he
 have h7:=(k.blk t (f0c h5)).1
 have:=congrArg List.length h6
 simp only[f09] at this
 omega
def S10 (f:FuncId):Bool:=Nat.beq f 44
def F10:Fns:=PX S10 F9
theorem q2w {A:Nat->Int}:Env Tryz.prog A tys F10:=jhm q7o
theorem q3p {f:FuncId} (h1:S1 f=false) (h2:Nat.beq f jgu.f=false) (h3:S3 f=false) (h4:S4 f=false) (h5:S5 f=false) (h6:S6 f=false) (h7:S7 f=false) (h8:S8 f=false) (h9:S9 f=false) (h10:S10 f=false) {h:Hp}:jdg F10 f vs h=none:=(ja8 h10).trans (no9 h1 h2 h3 h4 h5 h6 h7 h8 h9)
section
variable {h:Hp} {m:Nat×Nat} {f:Fc} {s:List Bool} {Q:AV->Hp->Prop}
theorem qe5 {g:FuncId} (h9:S9 g=false) (h10:S10 g=false):jdg F10 g vs h=jdg F8 g vs h:=(ja8 h10).trans (ja8 h9)
theorem qha (k:FcOk m f) (on:jni f=0) (m1:2<=m.1/\m.1<=10) (m2:2<=m.2/\m.2<=10):WC F10 41 [.agg [jag jaz f.values,jag ja6 f.blocks],.agg [si m.1,si m.2]] h Q=Q (vi 0) h :=
 jam ((qe5 rfl rfl).trans ((ja8 rfl).trans (by rw[que k m1 m2,on];rfl)))
theorem j8g (o:FlG m f s):WC F10 42 [.agg [jag jaz f.values,jag ja6 f.blocks]] h Q=Q (.s (jag jaz (qc6 s 0))) h:=jam ((qe5 rfl rfl).trans (qg7 o.hs o.hg o.hne))
theorem qdq (o:FlG m f s):WC F10 43 [.agg [jag jaz f.values,jag ja6 f.blocks]] h Q=Q (.s (jag jsu (j8e (gS s)))) h:=jam ((qe5 rfl rfl).trans (qqr o.hs o.hg o.hne))
theorem j8h (o:FlG m f s):WC F10 45 [.agg [jag jaz f.values,jag ja6 f.blocks],.s (jag jaz (qc6 s 0))] h Q=Q (.s (jag jl3 (jht s))) h:=jam ((qe5 rfl rfl).trans (qg8 o.hs o.hg o.hne))
theorem qhb (o:FlOk m f s):WC F10 44 [.agg [jag jaz f.values,jag ja6 f.blocks],.s (jag jl3 (jht s))] h Q=Q (vb true) h :=
 jam (jbi rfl (by simp only[jay,ja9,jbj,jen,jbb,jbk,jbg,jcg,jcr,jbm,if_true]) (qqp jev o.us (by have:=o.k.nv;omega) o.hv (qc3 o.k)))
end
theorem FlG.pred {m:Nat×Nat} {f:Fc} {s:List Bool} (o:FlG m f s) {b:Blk} (hb:b∈f.blocks) (h:1<b.edges.length) {e:Ms.Edg} (he:e∈b.edges):∃ pl,(j8e (gS s))[e.block]?=some pl/\pl.length<=1:=by
 have h1:=qqs qg9 o.hs
 unfold q3o at h1
 rw[f20] at h1
 have h2:=h1 (qjm b) (by rw[←o.hg];exact f1r.2 ⟨b,hb,rfl⟩)
 simp only[f2j,decide_eq_true_eq,f20] at h2
 have h3:=h2.resolve_left (by unfold qjm;rw[f09];omega) e.block (f1r.2 ⟨e,he,rfl⟩)
 rw[f0o] at h3
 cases hq:(j8e (gS s))[e.block]? with
 | none=>rw[hq] at h3;simp at h3
 | some pl=>rw[hq] at h3;exact⟨pl,rfl,h3⟩
theorem qdr {m:Nat×Nat} {f:Fc} (k:FcOk m f) {IL:List (List Nat)} (pr:∀ b∈f.blocks,1<b.edges.length->∀ e∈b.edges,∃ pl,IL[e.block]?=some pl/\pl.length<=1) {b:Blk} (hb:b∈f.blocks) {Q:Ex->St->Prop} :
 ∀ (d j:Nat) (_:j+d=b.edges.length) {hi:Hp} (_:Ok hi) (_:bB<hi.next) (_:hi.get bB=some (.arr [jag jaz b.params,jag jeh b.instrs,jag jgi b.edges] 58)) {x4 x5 x8:AV}
  (hQ:∀ hj x4 x5 x8,Ok hj->hi.next<=hj.next->(∀ n,n<hi.next->hj.get n=hi.get n)->Q (.exit 2) (.mk [x0,x1,x2,x3,x4,x5,.s (jag jsu (IL)),.s (jag jgi b.edges),x8,vi b.edges.length,vi b.edges.length,.s (.ptr bB 0),x12,x13,x14,x15,x16,x17,x18,x19,x20] hj)),
  W F10 jli.loop (.mk [x0,x1,x2,x3,x4,x5,.s (jag jsu (IL)),.s (jag jgi b.edges),x8,vi b.edges.length,vi j,.s (.ptr bB 0),x12,x13,x14,x15,x16,x17,x18,x19,x20] hi) Q
 | 0,j,hd,hi,ok,hB,xB,x4,x5,x8,hQ=>by
  obtain rfl:j=b.edges.length:=oa
  rw[jah]
  unfold jli
  simp(disch:=first|omega|rfl) only[go_sem,f0s]
  exact hQ hi _ _ _ ok (f0g _) (fun _ _=>rfl)
 | d+1,j,hd,hi,ok,hB,xB,x4,x5,x8,hQ=>by
  have hlt:(j:Int)<(b.edges.length:Int):=oa
  have hne:=(k.blk b hb).2.2
  obtain⟨e,hio⟩:∃ y,b.edges[j]?=some y:=⟨_,f0b oa⟩
  have hix:=jai (enc:=jgi) (size:=2) hio rfl
  have hs:(j:Int)+1=((j+1:Nat):Int):=oa
  obtain⟨hA,eA,okA,nA,xA,gA⟩:=jci ok [.int .i64 0,.nilSlice] (jgi e) 65
  have yB:=(gA _ hB).trans xB
  have l2:=jal (enc:=jgi) (l:=b.edges)
  unfold jgi at xA eA
  rw[jah]
  unfold jli jz4
  by_cases h1:1<b.edges.length
  .have c1:(1<(b.edges.length:Int))=True:=by simp;omega
   obtain⟨pl,h2,h3⟩:=pr b hb h1 e (f0c hio)
   have hxp:=jai (enc:=jsu) (size:=1) h2 rfl
   have l3:=jal (enc:=jaz) (l:=pl)
   have c2:(1<(pl.length:Int))=False:=by simp;omega
   simp(disch:=first|omega|rfl) only[go_sem,jae,eq_true hlt,hix,jgi,eA,xA,yB,l2,c1,hxp,jsu,l3,c2,hs]
   exact qdr k pr hb d (j+1) oa okA oa yB (fun hj x4 x5 x8 ok' n g=>hQ hj x4 x5 x8 ok' oa (fun q hq=>(g q oa).trans (gA q hq)))
  .have c1:(1<(b.edges.length:Int))=False:=by simp;omega
   simp(disch:=first|omega|rfl) only[go_sem,jae,eq_true hlt,hix,jgi,eA,xA,yB,l2,c1,hs]
   exact qdr k pr hb d (j+1) oa okA oa yB (fun hj x4 x5 x8 ok' n g=>hQ hj x4 x5 x8 ok' oa (fun q hq=>(g q oa).trans (gA q hq)))
theorem qjy {m:Nat×Nat} {f:Fc} (k:FcOk m f) {IL:List (List Nat)} (pr:∀ b∈f.blocks,1<b.edges.length->∀ e∈b.edges,∃ pl,IL[e.block]?=some pl/\pl.length<=1) {bF:Nat} {Q:Ex->St->Prop} :
 ∀ (d j:Nat) (_:j+d=f.blocks.length) {hi:Hp} (_:Ok hi) (_:bF<hi.next) {x4 x5 x7 x8 x9 x10 x11 x13:AV}
  (hQ:∀ hj x4 x5 x7 x8 x9 x10 x11 x13,Ok hj->hi.next<=hj.next->hj.get bF=hi.get bF->Q (.exit 0) (.mk [x0,x1,x2,x3,x4,x5,.s (jag jsu (IL)),x7,x8,x9,x10,x11,.s (jag ja6 f.blocks),x13,vi f.blocks.length,vi f.blocks.length,x16,x17,x18,x19,.s (.ptr bF 0)] hj)),
  W F10 jlj.loop (.mk [x0,x1,x2,x3,x4,x5,.s (jag jsu (IL)),x7,x8,x9,x10,x11,.s (jag ja6 f.blocks),x13,vi f.blocks.length,vi j,x16,x17,x18,x19,.s (.ptr bF 0)] hi) Q
 | 0,j,hd,hi,ok,hB,x4,x5,x7,x8,x9,x10,x11,x13,hQ=>by
  obtain rfl:j=f.blocks.length:=oa
  rw[jah]
  unfold jlj
  simp(disch:=first|omega|rfl) only[go_sem,f0s]
  exact hQ hi _ _ _ _ _ _ _ _ ok (f0g _) rfl
 | d+1,j,hd,hi,ok,hB,x4,x5,x7,x8,x9,x10,x11,x13,hQ=>by
  have nb:=k.nb
  have hlt:(j:Int)<(f.blocks.length:Int):=oa
  obtain⟨b,hio⟩:∃ y,f.blocks[j]?=some y:=⟨_,f0b oa⟩
  have hbm:=f0c hio
  have hix:=jai (enc:=ja6) (size:=3) hio rfl
  have hs:(j:Int)+1=((j+1:Nat):Int):=oa
  obtain⟨hA,eA,okA,nA,xA,gA⟩:=jci ok [.nilSlice,.nilSlice,.nilSlice] (ja6 b) 58
  have l2:=jal (enc:=jgi) (l:=b.edges)
  unfold ja6 at xA eA
  rw[jah]
  unfold jlj jz5
  simp(disch:=first|omega|rfl) only[go_sem,jae,eq_true hlt,hix,ja6,eA,xA,l2]
  refine qdr k pr hbm b.edges.length 0 oa okA oa xA (fun hj x4 x5 x8 ok' n g=>?_)
  simp(disch:=first|omega|rfl) only[go_sem,jae,hs]
  exact qjy k pr d (j+1) oa ok' oa (fun hk x4 x5 x7 x8 x9 x10 x11 x13 o' n' g'=>hQ hk x4 x5 x7 x8 x9 x10 x11 x13 o' oa (g'.trans ((g _ oa).trans (gA _ hB))))
theorem qhc {h:Hp} (ok:Ok h) {m:Nat×Nat} {f:Fc} (k:FcOk m f) (on:jni f=0) (m1:2<=m.1/\m.1<=10) (m2:2<=m.2/\m.2<=10) {IL:List (List Nat)} {O:List Nat} {D:List Int} {r:Bool} (pr:∀ b∈f.blocks,1<b.edges.length->∀ e∈b.edges,∃ pl,IL[e.block]?=some pl/\pl.length<=1) (hl:f.blocks.length<=O.length)
 (hO:∀ h Q,WC F10 42 [.agg [jag jaz f.values,jag ja6 f.blocks]] h Q=Q (.s (jag jaz O)) h) (hI:∀ h Q,WC F10 43 [.agg [jag jaz f.values,jag ja6 f.blocks]] h Q=Q (.s (jag jsu IL)) h)
 (hD:∀ h Q,WC F10 45 [.agg [jag jaz f.values,jag ja6 f.blocks],.s (jag jaz O)] h Q=Q (.s (jag jl3 D)) h) (hU:∀ h Q,WC F10 44 [.agg [jag jaz f.values,jag ja6 f.blocks],.s (jag jl3 D)] h Q=Q (vb r) h) :
 WC F10 23 [.agg [jag jaz f.values,jag ja6 f.blocks],.agg [si m.1,si m.2]] h (fun v h'=>∃ d,jhr true h' d v=some (vi (Bool.rec 10 0 r))):=by
 refine ja3 (q3p rfl rfl rfl rfl rfl rfl rfl rfl rfl rfl) qqk rfl ?_
 unfold j5l
 obtain⟨hA,eA,okA,nA,xA,gA⟩:=jeb ok [jag jaz f.values,jag ja6 f.blocks] 32
 obtain⟨hB,eB,okB,nB,xB,gB⟩:=jeb okA [si m.1,si m.2] 28
 have yA:=(gB _ oa).trans xA
 rw[nA] at xB
 have l2:=jal (enc:=ja6) (l:=f.blocks)
 have l3:=jal (enc:=jaz) (l:=O)
 have c1:((O.length:Int)<(f.blocks.length:Int))=False:=eq_false oa
 have hh:(hB.next<=h.next/\h.next<hB.next)=False:=eq_false oa
 simp(disch:=first|omega|rfl) only[go_sem,eA,eB,nA,yA,xB,qha k on m1 m2]
 unfold jz9 jz3
 simp(disch:=first|omega|rfl) only[go_sem,yA,xB,hO,l3,l2,c1,hh]
 unfold jz8
 simp(disch:=first|omega|rfl) only[go_sem,yA,hI,l2]
 refine qjy k pr f.blocks.length 0 oa okB oa (fun hj x4 x5 x7 x8 x9 x10 x11 x13 o' n g=>?_)
 have zA:=g.trans yA
 have hh:(hj.next<=h.next/\h.next<hj.next)=False:=eq_false oa
 unfold jz6
 cases r with
 | false =>
  simp(disch:=first|omega|rfl) only[go_sem,zA,hO,hD,hU,hh]
  exact⟨1,rfl⟩
 | true =>
  simp(disch:=first|omega|rfl) only[go_sem,zA,hO,hD,hU,hh]
  unfold jz7
  simp(disch:=first|omega|rfl) only[go_sem]
  exact⟨1,rfl⟩
theorem FlG.fck {h:Hp} (ok:Ok h) {m:Nat×Nat} {f:Fc} {s:List Bool} (o:FlG m f s) (m1:2<=m.1/\m.1<=10) (m2:2<=m.2/\m.2<=10) {r:Bool} (hU:∀ h Q,WC F10 44 [.agg [jag jaz f.values,jag ja6 f.blocks],.s (jag jl3 (jht s))] h Q=Q (vb r) h) :
 WC F10 23 [.agg [jag jaz f.values,jag ja6 f.blocks],.agg [si m.1,si m.2]] h (fun v h'=>∃ d,jhr true h' d v=some (vi (Bool.rec 10 0 r))) :=
 qhc ok o.k o.on m1 m2 (fun b hb h1 e he=>o.pred hb h1 he) (by rw[jwy,←jd8,o.hg,j5i];exact f0g _) (fun _ _=>j8g o) (fun _ _=>qdq o) (fun _ _=>j8h o) hU
theorem qqu {h:Hp} (ok:Ok h) {m:Nat×Nat} {f:Fc} {s:List Bool} (o:FlOk m f s) (m1:2<=m.1/\m.1<=10) (m2:2<=m.2/\m.2<=10):WC F10 23 [.agg [jag jaz f.values,jag ja6 f.blocks],.agg [si m.1,si m.2]] h (fun v h'=>∃ d,jhr true h' d v=some (vi 0)) :=
 o.toFlG.fck ok m1 m2 (r:=true) (fun _ _=>qhb o)
def S11 (f:FuncId):Bool:=Nat.beq f 23
def F11:Fns:=PX S11 F10
theorem q2x {A:Nat->Int}:Env Tryz.prog A tys F11:=jhm q2w
theorem qvu {f:FuncId} (h1:S1 f=false) (h2:Nat.beq f jgu.f=false) (h3:S3 f=false) (h4:S4 f=false) (h5:S5 f=false) (h6:S6 f=false) (h7:S7 f=false) (h8:S8 f=false) (h9:S9 f=false) (h10:S10 f=false) (h11:S11 f=false) {h:Hp}:jdg F11 f vs h=none:=(ja8 h11).trans (q3p h1 h2 h3 h4 h5 h6 h7 h8 h9 h10)
section
variable {h:Hp} {m:Nat×Nat} {f:Fc} {s:List Bool} {Q:AV->Hp->Prop}
theorem qqv (o:FlOk m f s) (m1:2<=m.1/\m.1<=10) (m2:2<=m.2/\m.2<=10):jdg F11 23 [.agg [jag jaz f.values,jag ja6 f.blocks],.agg [si m.1,si m.2]] h=some (vi 0,h):=jbi rfl (by simp only[jay,ja9,jbj,jen,jbb,jbk,jbg,jcg,jcr,jbm,if_true]) (qqu jev o m1 m2)
theorem qhd (o:FlOk m f s) (m1:2<=m.1/\m.1<=10) (m2:2<=m.2/\m.2<=10):WC F11 23 [.agg [jag jaz f.values,jag ja6 f.blocks],.agg [si m.1,si m.2]] h Q=Q (vi 0) h:=jam (qqv o m1 m2)
end
section
variable {h:Hp} {m:Nat×Nat} {f:Fc} {s:List Bool} {Q:AV->Hp->Prop}
end
end
end Go.Proofs.YtkpadfebkaangaaGreatDoor.Ev
