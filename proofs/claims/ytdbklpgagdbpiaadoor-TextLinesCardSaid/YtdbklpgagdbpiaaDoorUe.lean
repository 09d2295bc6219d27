/- Graphs of functions built of pieces: each is a row of forks and loops. No program in sight. -/
import Derived.Test.YtdbklpgagdbpiaaDoorGb
import Derived.Test.YtdbklpgagdbpiaaDoorSl
namespace Go.Proofs.YtdbklpgagdbpiaaDoor.Ms
set_option linter.all false
variable {d i v:Nat}
def qgl (b:Blk):List Nat:=b.edges.map (·.block)
def grL (l:List Blk):List (List Nat):=l.map qgl
theorem qkt (l:List Blk) (k:Nat) (x:Ins):grL (jau l k x)=grL l:=by
 unfold grL jau
 apply f2u
 intro i
 rw[f09,f09,f06]
 cases l[i]? with
 | none=>rfl
 | some b=>by_cases h:k=i<;>simp[h,qgl]
theorem qed (l:List Blk) (k to:Nat) (args:List Nat):grL (l.modify k (fun b=>{ b with edges:=b.edges++[(⟨to,args⟩:Edg)] }))=(grL l).modify k (·++[to]):=by
 unfold grL
 apply f2u
 intro i
 rw[f09,f06,f06,f09]
 cases l[i]? with
 | none=>rfl
 | some b=>by_cases h:k=i<;>simp[h,qgl]
theorem j1r (w:Ms) (p:Pc):(ja0 w p).2.blocks=w.blocks/\(ja0 w p).2.cur=w.cur:=by
 have hd:∀ (flags uses d i:Nat) (x:Iw×Nat×Ms),(jek p flags uses d i x).2.2.blocks=x.2.2.blocks/\(jek p flags uses d i x).2.2.cur=x.2.2.cur:=by
  intro flags uses d
  induction d with
  | zero=>exact fun i x=>⟨rfl,rfl⟩
  | succ d ih =>
   intro i x
   have e:(jfz p flags uses i x).2.2.blocks=x.2.2.blocks/\(jfz p flags uses i x).2.2.cur=x.2.2.cur:=by
    unfold jfz;simp only;split<;>exact⟨rfl,rfl⟩
   exact⟨(ih (i+1) (jfz p flags uses i x)).1.trans e.1,(ih (i+1) (jfz p flags uses i x)).2.trans e.2⟩
 unfold ja0
 exact hd _ _ _ _ _
theorem jhy (w:Ms) (p:Pc):grL (jcu w p).blocks=grL w.blocks/\(jcu w p).cur=w.cur:=by
 have h:=j1r w p
 unfold jcu
 simp only[h.1,h.2]
 exact⟨qkt _ _ _,trivial⟩
theorem jhb (w:Ms) (cls:Nat) (p:Pc):grL (jac w cls p).2.blocks=grL w.blocks/\(jac w cls p).2.cur=w.cur:=by
 unfold jac
 split
 .exact ⟨rfl,rfl⟩
 .exact jhy w _
theorem joj (w:Ms) (cs:List Nat):grL (jaf w cs).blocks=grL w.blocks++[[]]:=by
 unfold grL jaf;simp[qgl]
theorem jnb (w:Ms) (k to:Nat) (args:List Nat):grL (jav w k to args).blocks=(grL w.blocks).modify k (·++[to]):=qed _ _ _ _
theorem qgm (p:Pc) (cls before e k:Nat) (lay:Bool) (w:Ms):grL (ji0 p cls before e k lay w).2.blocks=(grL w.blocks).modify k (·++[e]):=by
 unfold ji0
 simp only
 rw[jnb,(jhb _ _ _).1,(jhb _ _ _).1]
 cases lay with
 | true=>simp only[if_true];rw[(jhy _ _).1]
 | false=>rfl
theorem jd9 (l:List Blk):(grL l).length=l.length:=f1d _
theorem jlh (w:Ms) (p:Pc):(jcu w p).blocks.length=w.blocks.length:=by rw[←jd9,(jhy w p).1,jd9]
theorem jrk (w:Ms) (cls:Nat) (p:Pc):(jac w cls p).2.blocks.length=w.blocks.length:=by rw[←jd9,(jhb w cls p).1,jd9]
theorem jj3 {α:Type} {l r:List α} {k:Nat} {f:α->α} (h:k<l.length):(l++r).modify k f=l.modify k f++r:=by
 apply f2u
 intro i
 rw[f06]
 rcases f0h i l.length with h1 | h1
 .rw [f0t h1,f0t (by rw[f1g];exact h1),f06]
 .rw [f0u h1,f0u (by rw[f1g];exact h1),f1g]
  have:¬ k=i:=by omega
  cases r[i - l.length]?<;>simp[this]
theorem jeu {α:Type} {l r:List α} {k:Nat} {f:α->α}:(l++r).modify (l.length+k) f=l++r.modify k f:=by
 apply f2u
 intro i
 rw[f06]
 rcases f0h i l.length with h1 | h1
 .rw [f0t h1,f0t h1]
  have:¬ l.length+k=i:=by omega
  cases l[i]?<;>simp[this]
 .rw [f0u h1,f0u h1,f06]
  by_cases h2:k=i - l.length
  .have:l.length+(i - l.length)=i:=by omega
   subst h2
   cases r[i - l.length]?<;>simp[this]
  .have:¬ l.length+k=i:=by omega
   cases r[i - l.length]?<;>simp[this,h2]
structure Gok (w:Ms) (s:List Bool):Prop where
 g:grL w.blocks=gS s
 cur:w.cur+1=w.blocks.length
theorem qa2 (s:List Bool) (b:Bool):gS (s++[b])=j52 (gS s) b:=by unfold gS;rw[List.foldl_append];rfl
theorem j4c:∀ (s:List Bool),(gS s).length=1+3*s.length:=fun s=>by
 have h:∀ (s:List Bool) (g:List (List Nat)),(s.foldl j52 g).length=g.length+3*s.length:=by
  intro s
  induction s with
  | nil=>intro g;simp
  | cons b s ih =>
   intro g
   rw[f23,ih]
   unfold j52
   cases b<;>simp<;>omega
 exact h s [[]]
theorem Gok.fork {w:Ms} {s:List Bool} (k:Gok w s) (p:Pc):Gok (jf0 w p) (s++[false]):=by
 have hl:(gS s).length=w.blocks.length:=by rw[←k.g,jd9]
 have hc:=k.cur
 refine⟨?_,?_⟩
 .unfold jf0
  simp only[qgm,jnb,joj,jlh,(jhy w p).1,(jhy w p).2,k.g]
  rw[qa2]
  unfold j52
  simp only
  rw[hl]
  rw[f0l,f0l]
  have e1:w.cur=w.blocks.length - 1:=by omega
  rw[jj3 (by omega),jj3 (by rw[f1g];omega)]
  have e2:((gS s).modify w.cur (·++[w.blocks.length])).modify w.cur (·++[w.blocks.length+1])=(gS s).modify (w.blocks.length - 1) (·++[w.blocks.length,w.blocks.length+1]):=by
   rw[e1]
   apply f2u
   intro i
   simp only[f06]
   cases (gS s)[i]? with
   | none=>rfl
   | some x=>by_cases h:w.blocks.length - 1=i<;>simp[h]
  rw[e2]
  have hl2:((gS s).modify (w.blocks.length - 1) (·++[w.blocks.length,w.blocks.length+1])).length=w.blocks.length:=by rw[f1g];exact hl
  generalize (gS s).modify (w.blocks.length - 1) (·++[w.blocks.length,w.blocks.length+1])=g at *
  have e3:=jeu (l:=g) (r:=[[],[],[]]) (k:=0) (f:=(·++[w.blocks.length+2]))
  have e4:=jeu (l:=g) (r:=[[w.blocks.length+2],[],[]]) (k:=1) (f:=(·++[w.blocks.length+2]))
  rw[hl2] at e3 e4
  rw[f1i] at e3
  refine(congrArg (fun l=>List.modify l (w.blocks.length+1) (·++[w.blocks.length+2])) e3).trans ?_
  exact e4
 .have h:(jf0 w p).blocks.length=w.blocks.length+3:=by
   rw[←jd9]
   unfold jf0
   simp only[qgm,jnb,joj,(jhy w p).1,f1g,f0k,jd9,f00,f1b]
  rw[h]
  unfold jf0
  simp only[jlh]
theorem Gok.loop {w:Ms} {s:List Bool} (k:Gok w s) (p:Pc):Gok (jg5 w p) (s++[true]):=by
 have hl:(gS s).length=w.blocks.length:=by rw[←k.g,jd9]
 have hc:=k.cur
 have hb:∀ (u:Ms) (cs:List Nat),(jaf u cs).blocks.length=u.blocks.length+1:=fun u cs=>by simp[jaf]
 have he:∀ (u:Ms) (k to:Nat) (a:List Nat),(jav u k to a).blocks.length=u.blocks.length:=fun u k to a=>by simp[jav]
 have hbc:∀ (u:Ms) (cs:List Nat),(jaf u cs).cur=u.cur:=fun u cs=>rfl
 refine⟨?_,?_⟩
 .unfold jg5
  simp only[jnb,(jhb _ _ _).1,(jhy _ _).1,joj,jrk,jlh,hb,he,hbc,(jhb _ _ _).2,(jhy _ _).2,k.g]
  rw[qa2]
  unfold j52
  simp only
  rw[hl]
  have e1:w.cur=w.blocks.length - 1:=by omega
  rw[jj3 (l:=gS s) (r:=[[]]) (k:=w.cur) (by omega),e1]
  have hl2:((gS s).modify (w.blocks.length - 1) (·++[w.blocks.length])).length=w.blocks.length:=by rw[f1g];exact hl
  generalize (gS s).modify (w.blocks.length - 1) (·++[w.blocks.length])=g at *
  rw[f0l,f0l]
  have e3:=jeu (l:=g) (r:=[[],[],[]]) (k:=0) (f:=(·++[w.blocks.length+1]))
  have e4:=jeu (l:=g) (r:=[[w.blocks.length+1],[],[]]) (k:=0) (f:=(·++[w.blocks.length+1+1]))
  have e5:=jeu (l:=g) (r:=[[w.blocks.length+1,w.blocks.length+2],[],[]]) (k:=1) (f:=(·++[w.blocks.length]))
  rw[hl2] at e3 e4 e5
  rw[f1i] at e3 e4
  refine(congrArg (fun l=>List.modify (List.modify l w.blocks.length (·++[w.blocks.length+1+1])) (w.blocks.length+1) (·++[w.blocks.length])) e3).trans ?_
  refine(congrArg (fun l=>List.modify l (w.blocks.length+1) (·++[w.blocks.length])) e4).trans ?_
  exact e5
 .have h:(jg5 w p).blocks.length=w.blocks.length+3:=by
   rw[←jd9]
   unfold jg5
   simp only[jnb,(jhb _ _ _).1,(jhy _ _).1,joj,f1g,f0k,jd9,f00,f1b]
  rw[h]
  unfold jg5
  simp only[jnb,jrk,jlh,hb,he]
inductive Dom (idom:List Int) (a:Nat):Int->Prop
 | refl:Dom idom a a
 | step {b:Nat} {c:Int}:idom[b]?=some c->Dom idom a c->Dom idom a b
theorem Dom.app {idom r:List Int} {a:Nat} {b:Int} (h:Dom idom a b):Dom (idom++r) a b:=by
 induction h with
 | refl=>exact .refl
 | @step b c h1 _ ih =>
  refine .step (c:=c) ?_ ih
  rw[f0t]
  .exact h1
  .rcases f0h b idom.length with h | h
   .exact h
   .rw [f0p h] at h1;cases h1
def j1s (l:List Blk) (v b:Nat) (n:Int):Prop:=∃ x,l[b]?=some x/\((n=-1/\v∈x.params)∨∃ (i:Nat) (y:Ins),n=(i:Int)/\x.instrs[i]?=some y/\v∈jdf y)
def jwb (idom:List Int) (l:List Blk) (v k i:Nat):Prop:=∃ b n,j1s l v b n/\((b=k/\n<(i:Int))∨(b≠k/\Dom idom b k))
def Ext (l l':List Blk):Prop:=∀ (k:Nat) (b:Blk),l[k]?=some b->∃ b',l'[k]?=some b'/\b'.params=b.params/\∃ r,b'.instrs=b.instrs++r
theorem Ext.refl (l:List Blk):Ext l l:=fun k b h=>⟨b,h,rfl,[],by simp⟩
theorem Ext.trans {a b c:List Blk} (x:Ext a b) (y:Ext b c):Ext a c:=fun k t h=>by
 obtain⟨t1,h1,e1,r1,f1⟩:=x k t h
 obtain⟨t2,h2,e2,r2,f2⟩:=y k t1 h1
 exact⟨t2,h2,e2.trans e1,r1++r2,by rw[f2,f1,f0l]⟩
theorem qa3 {α:Type} {l r:List α} {x:α} (h:l[i]?=some x):(l++r)[i]?=some x:=by
 rw[f0t]
 .exact h
 .rcases f0h i l.length with h1 | h1
  .exact h1
  .rw [f0p h1] at h;cases h
theorem j1s.ext {l l':List Blk} (e:Ext l l') {b:Nat} {n:Int} (h:j1s l v b n):j1s l' v b n:=by
 obtain⟨x,h1,h2⟩:=h
 obtain⟨x',h3,h4,r,h5⟩:=e b x h1
 refine⟨x',h3,?_⟩
 rcases h2 with⟨h2,h6⟩ | ⟨i,y,h2,h6,h7⟩
 .exact .inl ⟨h2,by rw[h4];exact h6⟩
 .exact .inr ⟨i,y,h2,by rw[h5];exact qa3 h6,h7⟩
theorem jwb.ext {idom:List Int} {l l':List Blk} (e:Ext l l') {k:Nat} (h:jwb idom l v k i):jwb idom l' v k i:=by
 obtain⟨b,n,h1,h2⟩:=h
 exact⟨b,n,h1.ext e,h2⟩
theorem jwb.le {idom:List Int} {l:List Blk} {k j:Nat} (h:jwb idom l v k i) (hij:i<=j):jwb idom l v k j:=by
 obtain⟨b,n,h1,h2⟩:=h
 exact⟨b,n,h1,h2.imp (fun h=>⟨h.1,by omega⟩) id⟩
theorem jwb.app {idom r:List Int} {l:List Blk} {k:Nat} (h:jwb idom l v k i):jwb (idom++r) l v k i:=by
 obtain⟨b,n,h1,h2⟩:=h
 exact⟨b,n,h1,h2.imp id (fun h=>⟨h.1,h.2.app⟩)⟩
def KnW (idom:List Int) (l:List Blk) (cur v:Nat):Prop:=∃ b n,j1s l v b n/\Dom idom b cur
theorem KnW.ext {idom:List Int} {l l':List Blk} (e:Ext l l') {c:Nat} (h:KnW idom l c v):KnW idom l' c v:=by
 obtain⟨b,n,h1,h2⟩:=h
 exact⟨b,n,h1.ext e,h2⟩
theorem KnW.down {idom:List Int} {l:List Blk} {c:Nat} (h:KnW idom l c v) (hd:idom[d]?=some (c:Int)):KnW idom l d v:=by
 obtain⟨b,n,h1,h2⟩:=h
 exact⟨b,n,h1,.step hd h2⟩
theorem KnW.at {idom:List Int} {l:List Blk} {c:Nat} (h:KnW idom l c v) {x:Blk} (hx:l[c]?=some x):jwb idom l v c x.instrs.length:=by
 obtain⟨b,n,h1,h2⟩:=h
 refine⟨b,n,h1,?_⟩
 by_cases e:b=c
 .left
  refine⟨e,?_⟩
  subst e
  obtain⟨y,h3,h4⟩:=h1
  rw[hx] at h3
  cases h3
  rcases h4 with⟨h5,_⟩ | ⟨i,z,h5,h6,_⟩
  .omega
  .have:i<x.instrs.length:=by
    rcases f0h i x.instrs.length with h | h
    .exact h
    .rw [f0p h] at h6;cases h6
   omega
 .exact .inr ⟨e,h2⟩
structure Kok (idom:List Int) (w:Ms):Prop where
 kn:∀ v∈w.known,KnW idom w.blocks w.cur v
 us:∀ (k i:Nat) (b:Blk) (x:Ins) (o:Opd),w.blocks[k]?=some b->b.instrs[i]?=some x->o∈x.ops->o.kind=1->jwb idom w.blocks o.value k i
 ed:∀ (k:Nat) (b:Blk) (e:Edg) (v:Nat),w.blocks[k]?=some b->e∈b.edges->v∈e.args->jwb idom w.blocks v k b.instrs.length
theorem Kok.app {idom r:List Int} {w:Ms} (k:Kok idom w):Kok (idom++r) w :=
 ⟨fun v hv=>(k.kn v hv).imp fun b ⟨n,h1,h2⟩=>⟨n,h1,h2.app⟩,fun a i b x o h1 h2 h3 h4=>(k.us a i b x o h1 h2 h3 h4).app,fun a b e v h1 h2 h3=>(k.ed a b e v h1 h2 h3).app⟩
theorem Kok.set {idom:List Int} {w:Ms} (k:Kok idom w) {c:Nat} {kn:List Nat} (h:∀ v∈kn,KnW idom w.blocks c v):Kok idom { w with cur:=c,known:=kn }:=⟨h,k.us,k.ed⟩
theorem qku {l:List Blk} (k:Nat) (x:Ins):Ext l (jau l k x):=fun j b h=>by
 unfold jau
 rw[f06,h]
 by_cases e:k=j
 .exact ⟨{ b with instrs:=b.instrs++[x] },by simp[e],rfl,[x],rfl⟩
 .exact ⟨b,by simp[e],rfl,[],by simp⟩
theorem qee {l:List Blk} (k:Nat) (f:List Edg->List Edg):Ext l (l.modify k (fun b=>{ b with edges:=f b.edges })):=fun j b h=>by
 rw[f06,h]
 by_cases e:k=j
 .exact ⟨{ b with edges:=f b.edges },by simp[e],rfl,[],by simp⟩
 .exact ⟨b,by simp[e],rfl,[],by simp⟩
theorem qa4 {l:List Blk} (b:Blk):Ext l (l++[b]):=fun j x h=>⟨x,qa3 h,rfl,[],by simp⟩
theorem Kok.lay {idom:List Int} {w:Ms} (k:Kok idom w) (v:Vok w) (p:Pc):Kok idom (jcu w p)/\Ext w.blocks (jcu w p).blocks:=by
 obtain⟨cs,h1,h2,h3,h4,h5,h6,h7⟩:=jxv v.mm v.cls v.kn p
 have hcur:=v.cur
 obtain⟨c,hc⟩:∃ c,w.blocks[w.cur]?=some c:=⟨_,f0b hcur⟩
 unfold jcu
 simp only[h3]
 obtain⟨x,hx⟩:∃ x,(ja0 w p).1=x:=⟨_,rfl⟩
 rw[hx] at h5 h7 ⊢
 have ex:Ext w.blocks (jau w.blocks w.cur x):=qku _ _
 have hnew:(jau w.blocks w.cur x)[w.cur]?=some { c with instrs:=c.instrs++[x] }:=by
  unfold jau;rw[f06,hc];simp
 have back:∀ (j:Nat) (b:Blk),(jau w.blocks w.cur x)[j]?=some b->(j≠w.cur/\w.blocks[j]?=some b)∨(j=w.cur/\b={ c with instrs:=c.instrs++[x] }):=fun j b hb=>by
  by_cases e:j=w.cur
  .right;subst e;rw[hnew] at hb;exact⟨rfl,(Option.some.inj hb).symm⟩
  .left
   refine⟨e,?_⟩
   unfold jau at hb
   rw[f06] at hb
   have e':¬ w.cur=j:=fun h=>e h.symm
   cases h:w.blocks[j]? with
   | none=>rw[h] at hb;cases hb
   | some y=>rw[h] at hb;simpa[e'] using hb
 refine⟨⟨fun u hu=>?_,fun j i b y o hb hy ho hk=>?_,fun j b e u hb he hu=>?_⟩,ex⟩
 .simp only at hu ⊢
  rcases f0e.1 hu with hu | hu
  .exact (k.kn u hu).ext ex
  .exact ⟨w.cur,c.instrs.length,⟨_,hnew,.inr ⟨c.instrs.length,x,rfl,by simp,hu⟩⟩,.refl⟩
 .simp only at hb ⊢
  rcases back j b hb with⟨_,hb⟩ | ⟨rfl,rfl⟩
  .exact (k.us j i b y o hb hy ho hk).ext ex
  .simp only at hy
   rcases jgg hy with⟨_,hy⟩ | ⟨rfl,rfl⟩
   .exact (k.us _ i c y o hc hy ho hk).ext ex
   .exact ((k.kn _ (h7 o ho hk)).at hc).ext ex
 .simp only at hb ⊢
  rcases back j b hb with⟨_,hb⟩ | ⟨rfl,rfl⟩
  .exact (k.ed j b e u hb he hu).ext ex
  .exact ((k.ed _ c e u hc he hu).ext ex).le (by simp)
theorem Kok.block {idom:List Int} {w:Ms} (k:Kok idom w) (cs:List Nat):Kok idom (jaf w cs)/\Ext w.blocks (jaf w cs).blocks:=by
 have ex:Ext w.blocks (jaf w cs).blocks:=qa4 _
 have back:∀ (j:Nat) (b:Blk),(jaf w cs).blocks[j]?=some b->w.blocks[j]?=some b∨(b.instrs=[]/\b.edges=[]):=fun j b hb=>by
  rcases jgg hb with⟨_,h⟩ | ⟨_,rfl⟩
  .exact .inl h
  .exact .inr ⟨rfl,rfl⟩
 refine⟨⟨fun u hu=>(k.kn u hu).ext ex,fun j i b y o hb hy ho hk=>?_,fun j b e u hb he hu=>?_⟩,ex⟩
 .rcases back j b hb with hb | ⟨hb,_⟩
  .exact (k.us j i b y o hb hy ho hk).ext ex
  .rw [hb] at hy;simp at hy
 .rcases back j b hb with hb | ⟨_,hb⟩
  .exact (k.ed j b e u hb he hu).ext ex
  .rw [hb] at he;cases he
theorem Kok.edge {idom:List Int} {w:Ms} (k:Kok idom w) {j to:Nat} {args:List Nat} (hj:j<w.blocks.length) (ha:args=[]∨j=w.cur) (hk:∀ u∈args,KnW idom w.blocks j u):Kok idom (jav w j to args)/\Ext w.blocks (jav w j to args).blocks:=by
 obtain⟨c,hc⟩:∃ c,w.blocks[j]?=some c:=⟨_,f0b hj⟩
 have ex:Ext w.blocks (jav w j to args).blocks:=qee j (fun l=>l++[(⟨to,args⟩:Edg)])
 have back:∀ (i:Nat) (b:Blk),(jav w j to args).blocks[i]?=some b->∃ b',w.blocks[i]?=some b'/\b.instrs=b'.instrs/\∀ e∈b.edges,e∈b'.edges∨(i=j/\e=⟨to,args⟩):=fun i b hb=>by
  unfold jav at hb
  simp only at hb
  rw[f06] at hb
  cases h:w.blocks[i]? with
  | none=>rw[h] at hb;cases hb
  | some y =>
   rw[h] at hb
   by_cases e:j=i
   .simp only[f25,f1p,if_pos e,Option.some.injEq] at hb
    refine⟨y,rfl,by rw[←hb],fun e' he=>?_⟩
    rw[←hb] at he
    rcases f0e.1 he with he | he
    .exact .inl he
    .exact .inr ⟨e.symm,f0q.1 he⟩
   .simp only[f25,f1p,if_neg e,Option.some.injEq] at hb
    exact⟨y,rfl,by rw[←hb],fun e' he=>.inl (hb▸he)⟩
 refine⟨⟨fun u hu=>(k.kn u hu).ext ex,fun i n b y o hb hy ho hk=>?_,fun i b e u hb he hu=>?_⟩,ex⟩
 .obtain ⟨b',h1,h2,_⟩:=back i b hb
  exact(k.us i n b' y o h1 (h2▸hy) ho hk).ext ex
 .obtain ⟨b',h1,h2,h3⟩:=back i b hb
  rw[h2]
  rcases h3 e he with h4 | ⟨rfl,rfl⟩
  .exact (k.ed i b' e u h1 h4 hu).ext ex
  .exact ((hk u hu).at h1).ext ex
theorem Kok.newest {idom:List Int} {w:Ms} (k:Kok idom w) (v:Vok w) {cls:Nat} (hc:cls<2) (p:Pc):Kok idom (jac w cls p).2/\Ext w.blocks (jac w cls p).2.blocks:=by
 unfold jac
 split
 .exact ⟨k,Ext.refl _⟩
 .exact k.lay v _
section
variable {w:Ms} {nv nb s:Nat} {L E:Nat->Nat} {idom:List Int}
theorem KnW.all {l l':List Blk} (e:Ext l l') {c:Nat} {kn:List Nat} (h:∀ u∈kn,KnW idom l c u) (hd:idom[d]?=some (c:Int)):∀ u∈kn,KnW idom l' d u:=fun u hu=>((h u hu).ext e).down hd
theorem Kok.setk (k:Kok idom w) {kn:List Nat} (h:∀ v∈kn,KnW idom w.blocks w.cur v):Kok idom { w with known:=kn }:=⟨h,k.us,k.ed⟩
theorem qgn (b:Bd w nv nb s L E) (kk:Kok idom w) {cls:Nat} (hc:cls<2) (p:Pc) {e k:Nat} (lay:Bool) (hk:k<nb) (he:1<=e) (ht:Tg w e [cls,0]) (hE:E k=0) {c:Nat} (hd:idom[k]?=some (c:Int)) (hkn:∀ u∈w.known,KnW idom w.blocks c u) :
 Kok idom (ji0 p cls w.known.length e k lay w).2/\(ji0 p cls w.known.length e k lay w).2.known=w.known/\Ext w.blocks (ji0 p cls w.known.length e k lay w).2.blocks/\(ji0 p cls w.known.length e k lay w).2.cur=k:=by
 have b0:Bd { w with cur:=k } nv nb s L E:=b.set (kn:=w.known) hk b.v.kn
 have k0:Kok idom { w with cur:=k }:=kk.set (kn:=w.known) (KnW.all (Ext.refl _) hkn hd)
 obtain⟨q,hq⟩:∃ q:Pc,(if lay then { { p with a:=inc p.a } with op:=inc p.op } else { p with a:=inc p.a })=q:=⟨_,rfl⟩
 have h1:∃ w1,(if lay then jcu { w with cur:=k } q else { w with cur:=k })=w1/\Bd w1 (nv+2) nb (s+1) (up L k) E/\Gr w w1/\w1.cur=k/\(∃ r,w1.known=w.known++r)/\Kok idom w1/\Ext w.blocks w1.blocks:=by
  cases lay with
  | true =>
   obtain⟨a1,a2,a3,a4,r,a5⟩:=b0.lay q
   obtain⟨c1,c2⟩:=k0.lay b0.v q
   exact⟨_,rfl,a1,(Gr.set w k w.known).trans a2,a3,⟨r,a5⟩,c1,c2⟩
  | false=>exact⟨_,rfl,b0.le (by omega) (by omega) (fun j=>by unfold up;omega),Gr.set w k w.known,rfl,⟨[],by simp⟩,k0,Ext.refl _⟩
 obtain⟨w1,e1,b1,g1,c1,⟨r1,k1⟩,o1,x1⟩:=h1
 obtain⟨b2,g2,c2,l2,d2,r2,k2⟩:=b1.newest hc q
 obtain⟨o2,x2⟩:=o1.newest b1.v hc q
 have m2:=(jhq b1.v hc q).2.2.2.2.2.2.2.2.1
 obtain⟨b3,g3,c3,l3,d3,r3,k3⟩:=b2.newest (cls:=0) (by omega) q
 obtain⟨o3,x3⟩:=o2.newest b2.v (cls:=0) (by omega) q
 have m3:=(jhq b2.v (cls:=0) (by omega) q).2.2.2.2.2.2.2.2.1
 have c4:(jac (jac w1 cls q).2 0 q).2.cur=k:=c3.trans (c2.trans c1)
 have kv:KnW idom (jac (jac w1 cls q).2 0 q).2.blocks k (jac w1 cls q).1:=by
  have:=o3.kn (jac w1 cls q).1 (by rw[k3];exact f1e _ m2)
  rwa [c4] at this
 have kz:KnW idom (jac (jac w1 cls q).2 0 q).2.blocks k (jac (jac w1 cls q).2 0 q).1:=by
  have:=o3.kn _ m3
  rwa [c4] at this
 obtain⟨o4,x4⟩:=o3.edge (j:=k) (to:=e) (args:=[(jac w1 cls q).1,(jac (jac w1 cls q).2 0 q).1]) (by rw[b3.nb];exact hk) (.inr c4.symm) (fun u hu=>by
  simp only[f0j,f1u,or_false] at hu
  rcases hu with rfl | rfl<;>assumption)
 have eq:(ji0 p cls w.known.length e k lay w).2={ (jav (jac (jac w1 cls q).2 0 q).2 k e [(jac w1 cls q).1,(jac (jac w1 cls q).2 0 q).1]) with known:=(jav (jac (jac w1 cls q).2 0 q).2 k e [(jac w1 cls q).1,(jac (jac w1 cls q).2 0 q).1]).known.take w.known.length }:=by
  unfold ji0
  simp only[hq,e1]
 have xx:=((x1.trans x2).trans x3).trans x4
 have hkw:(jav (jac (jac w1 cls q).2 0 q).2 k e [(jac w1 cls q).1,(jac (jac w1 cls q).2 0 q).1]).known.take w.known.length=w.known:=by
  simp only[jav,k3,k2,k1,f0l,List.take_left]
 rw[eq,hkw]
 refine⟨?_,rfl,xx,c4⟩
 have hcur:(jav (jac (jac w1 cls q).2 0 q).2 k e [(jac w1 cls q).1,(jac (jac w1 cls q).2 0 q).1]).cur=k:=c4
 exact o4.setk (fun u hu=>by rw[hcur];exact KnW.all xx hkn hd u hu)
theorem qkv (b:Bd w nv nb s L E) (kk:Kok idom w) (h0:E w.cur=0) (p:Pc) (i1:idom[nb]?=some (w.cur:Int)) (i2:idom[nb+1]?=some (w.cur:Int)) (i3:idom[nb+2]?=some (w.cur:Int)):Kok idom (jf0 w p):=by
 have hc:pk p.c 2<2:=pkl (by omega)
 obtain⟨w1,e1⟩:∃ w1,jcu w p=w1:=⟨_,rfl⟩
 obtain⟨b1,g1,c1,n1,r1,k1⟩:=b.lay p
 obtain⟨o1,x1⟩:=kk.lay b.v p
 rw[e1] at b1 g1 c1 n1 k1 o1 x1
 have hcur:w.cur<nb:=by rw[←b.nb];exact b.v.cur
 obtain⟨w4,e4⟩:∃ w4,jaf (jaf (jaf w1 []) []) [pk p.c 2,0]=w4:=⟨_,rfl⟩
 obtain⟨b2,g2,t2⟩:=b1.block (cs:=[]) (by simp) (by simp)
 obtain⟨b3,g3,t3⟩:=b2.block (cs:=[]) (by simp) (by simp)
 obtain⟨b4,g4,t4⟩:=b3.block (cs:=[pk p.c 2,0]) (by simp) (fun c h=>by
  simp only[f0j,f1u,or_false] at h;omega)
 obtain⟨o2,x2⟩:=o1.block []
 obtain⟨o3,x3⟩:=o2.block []
 obtain⟨o4,x4⟩:=o3.block [pk p.c 2,0]
 have kn4:w4.known=w1.known:=by rw[←e4];rfl
 have cu4:w4.cur=w.cur:=by rw[←e4];exact c1
 have end4:w4.blocks[nb+2]?=some ⟨List.range' (jaf (jaf w1 []) []).values.length 2,[],[]⟩:=by
  rw[←e4]
  unfold jaf
  simp only
  rw[f0u (by simp[b1.nb])]
  simp[b1.nb]
 rw[e4] at b4 g4 t4 o4 x4
 have g14:=(g2.trans g3).trans g4
 have ta:Tg w4 nb []:=(t2.gr g3).gr g4
 have tb:Tg w4 (nb+1) []:=t3.gr g4
 obtain⟨b5,g5⟩:=b4.edge (k:=w.cur) (to:=nb) (args:=[]) (by omega) (by omega) ta rfl (by simp) (.inl h0)
 obtain⟨o5,x5⟩:=o4.edge (j:=w.cur) (to:=nb) (args:=[]) (by rw[b4.nb];omega) (.inl rfl) (by simp)
 obtain⟨b6,g6⟩:=b5.edge (k:=w.cur) (to:=nb+1) (args:=[]) (by omega) (by omega) (tb.gr g5) rfl (by simp) (.inr (by
  have:=(g14.trans g5).len w.cur;omega))
 obtain⟨o6,x6⟩:=o5.edge (j:=w.cur) (to:=nb+1) (args:=[]) (by rw[b5.nb];omega) (.inl rfl) (by simp)
 obtain⟨w6,e6⟩:∃ w6,jav (jav w4 w.cur nb []) w.cur (nb+1) []=w6:=⟨_,rfl⟩
 have kn6:w6.known=w1.known:=by rw[←e6];exact kn4
 have cu6:w6.cur=w.cur:=by rw[←e6];exact cu4
 rw[e6] at b6 g6 o6 x6
 have t6:Tg w6 (nb+2) [pk p.c 2,0]:=(t4.gr g5).gr g6
 have z1:up (up E w.cur) w.cur nb=0:=by rw[jfw (by omega),jfw (by omega)];exact(b.e0 (f0d _)).1
 have hkn6:∀ u∈w6.known,KnW idom w6.blocks w.cur u:=fun u hu=>by have:=o6.kn u hu;rwa [cu6] at this
 obtain⟨b7,g7,r7,k7⟩:=b6.way hc p w1.known.length (e:=nb+2) (k:=nb) true (by omega) (by omega) t6 z1
 obtain⟨o7,kn7,x7,cu7⟩:=qgn b6 o6 hc p (e:=nb+2) (k:=nb) true (by omega) (by omega) t6 z1 i1 hkn6
 rw[kn6] at o7 kn7 x7 cu7
 obtain⟨x,ex⟩:∃ x,ji0 p (pk p.c 2) w1.known.length (nb+2) nb true w6=x:=⟨_,rfl⟩
 rw[ex] at b7 g7 k7 o7 kn7 x7 cu7
 have z2:up (up (up E w.cur) w.cur) nb (nb+1)=0:=by rw[jfw (by omega),jfw (by omega),jfw (by omega)];exact(b.e0 (by omega)).1
 have hkn7:∀ u∈x.2.known,KnW idom x.2.blocks w.cur u:=fun u hu=>(hkn6 u (by rw[kn6];exact kn7▸hu)).ext x7
 obtain⟨o8,kn8,x8,cu8⟩:=qgn b7 o7 hc x.1 (e:=nb+2) (k:=nb+1) (decide (pk p.flags 2=1)) (by omega) (by omega) (t6.gr g7) z2 i2 hkn7
 rw[kn7] at o8 kn8 x8 cu8
 obtain⟨y,ey⟩:∃ y,ji0 x.1 (pk p.c 2) w1.known.length (nb+2) (nb+1) (decide (pk p.flags 2=1)) x.2=y:=⟨_,rfl⟩
 rw[ey] at o8 kn8 x8 cu8
 have eq:jf0 w p={ y.2 with cur:=nb+2,known:=y.2.known++(y.2.blocks.getD (nb+2) jhp).params }:=by
  unfold jf0
  simp only[e1,c1,b1.nb,e4,e6,ex,ey]
  rfl
 rw[eq]
 obtain⟨t,ht,hp,_⟩:=(((x5.trans x6).trans x7).trans x8) _ _ end4
 refine o8.set (fun u hu=>?_)
 rcases f0e.1 hu with hu | hu
 .exact ((hkn7 u (by rw[kn7];exact kn8▸hu)).ext x8).down i3
 .rw [f0f,ht] at hu
  exact⟨nb+2,-1,⟨t,ht,.inl ⟨rfl,hu⟩⟩,.refl⟩
end
section
variable {w:Ms} {nv nb s:Nat} {L E:Nat->Nat} {idom:List Int}
theorem qkw (b:Bd w nv nb s L E) (kk:Kok idom w) (h0:E w.cur=0) (p:Pc) (i1:idom[nb]?=some (w.cur:Int)) (i2:idom[nb+1]?=some (nb:Int)) (i3:idom[nb+1+1]?=some (nb:Int)):Kok idom (jg5 w p):=by
 have hc:pk p.c 2<2:=pkl (by omega)
 have hcur:w.cur<nb:=by rw[←b.nb];exact b.v.cur
 obtain⟨b1,g1,c1,l1,d1,r1,k1⟩:=b.newest hc p
 obtain⟨o1,x1⟩:=kk.newest b.v hc p
 have m1:=(jhq b.v hc p).2.2.2.2.2.2.2.2.1
 obtain⟨v,ev⟩:∃ v,jac w (pk p.c 2) p=v:=⟨_,rfl⟩
 rw[ev] at b1 g1 c1 l1 d1 k1 o1 x1 m1
 obtain⟨b2,g2,c2,l2,d2,r2,k2⟩:=b1.newest (cls:=0) (by omega) p
 obtain⟨o2,x2⟩:=o1.newest b1.v (cls:=0) (by omega) p
 have m2:=(jhq b1.v (cls:=0) (by omega) p).2.2.2.2.2.2.2.2.1
 obtain⟨u,eu⟩:∃ u,jac v.2 0 p=u:=⟨_,rfl⟩
 rw[eu] at b2 g2 c2 l2 d2 k2 o2 x2 m2
 rw[c1] at b2 c2
 obtain⟨b3,g3,t3⟩:=b2.block (cs:=[pk p.c 2,0]) (by simp) (fun c h=>by
  simp only[f0j,f1u,or_false] at h;omega)
 obtain⟨o3,x3⟩:=o2.block [pk p.c 2,0]
 obtain⟨w3,e3⟩:∃ w3,jaf u.2 [pk p.c 2,0]=w3:=⟨_,rfl⟩
 have c3:(jaf u.2 [pk p.c 2,0]).cur=w.cur:=c2
 have k3:(jaf u.2 [pk p.c 2,0]).known=u.2.known:=rfl
 have end3:w3.blocks[nb]?=some ⟨List.range' u.2.values.length 2,[],[]⟩:=by
  rw[←e3]
  unfold jaf
  simp only
  rw[f0u (by simp[b2.nb])]
  simp[b2.nb]
 rw[e3] at b3 g3 t3 c3 o3 x3 k3
 have lv:v.1<w3.values.length:=f0m (f0m l1 g2.vlen) g3.vlen
 have lu:u.1<w3.values.length:=f0m l2 g3.vlen
 have dv:cl w3.values v.1=pk p.c 2:=((g3.cl (f0m l1 g2.vlen)).trans (g2.cl l1)).trans d1
 have du:cl w3.values u.1=0:=(g3.cl l2).trans d2
 have kv3:∀ y∈w3.known,KnW idom w3.blocks w.cur y:=fun y hy=>by have:=o3.kn y hy;rwa [c3] at this
 obtain⟨b4,g4⟩:=b3.edge (k:=w.cur) (to:=nb) (args:=[v.1,u.1]) (by omega) (by omega) t3 (by simp[dv,du]) (fun x hx=>by
  simp only[f0j,f1u,or_false] at hx
  rcases hx with rfl | rfl<;>assumption) (.inl h0)
 obtain⟨o4,x4⟩:=o3.edge (j:=w.cur) (to:=nb) (args:=[v.1,u.1]) (by rw[b3.nb];omega) (.inr c3.symm) (fun y hy=>by
  simp only[f0j,f1u,or_false] at hy
  rcases hy with rfl | rfl
  .exact kv3 _ (by rw[k3,k2];exact f1e _ m1)
  .exact kv3 _ (by rw[k3];exact m2))
 obtain⟨w4,e4⟩:∃ w4,jav w3 w.cur nb [v.1,u.1]=w4:=⟨_,rfl⟩
 have k4:w4.known=w3.known:=by rw[←e4];rfl
 rw[e4] at b4 g4 o4 x4
 have t4:=t3.gr g4
 obtain⟨y4,hy4,hp4,_⟩:=x4 _ _ end3
 have kn5:∀ x∈w4.known++(w4.blocks.getD nb jhp).params,x<w4.values.length:=fun x hx=>by
  rcases f0e.1 hx with hx | hx
  .exact b4.v.kn x hx
  .exact t4.params x hx
 have kw5:∀ x∈w4.known++(w4.blocks.getD nb jhp).params,KnW idom w4.blocks nb x:=fun x hx=>by
  rcases f0e.1 hx with hx | hx
  .exact ((kv3 x (k4▸hx)).ext x4).down i1
  .rw [f0f,hy4] at hx
   exact⟨nb,-1,⟨y4,hy4,.inl ⟨rfl,hx⟩⟩,.refl⟩
 have b5:=b4.set (c:=nb) (by omega) kn5
 have o5:=o4.set (c:=nb) kw5
 have g5:=Gr.set w4 nb (w4.known++(w4.blocks.getD nb jhp).params)
 obtain⟨w5,e5⟩:∃ w5,({ w4 with cur:=nb,known:=w4.known++(w4.blocks.getD nb jhp).params }:Ms)=w5:=⟨_,rfl⟩
 have c5:w5.cur=nb:=by rw[←e5]
 rw[e5] at b5 g5 o5
 obtain⟨b6,g6,c6,n6,r6,k6⟩:=b5.lay { p with flags:=odd p.flags }
 obtain⟨o6,x6⟩:=o5.lay b5.v { p with flags:=odd p.flags }
 obtain⟨w6,e6⟩:∃ w6,jcu w5 { p with flags:=odd p.flags }=w6:=⟨_,rfl⟩
 rw[e6] at b6 g6 c6 n6 k6 o6 x6
 rw[c5] at b6 n6 c6
 have kv6:∀ y∈w6.known,KnW idom w6.blocks nb y:=fun y hy=>by have:=o6.kn y hy;rwa [c6] at this
 obtain⟨b7,g7,t7⟩:=b6.block (cs:=[]) (by simp) (by simp)
 obtain⟨b8,g8,t8⟩:=b7.block (cs:=[]) (by simp) (by simp)
 obtain⟨o7,x7⟩:=o6.block []
 obtain⟨o8,x8⟩:=o7.block []
 obtain⟨w8,e8⟩:∃ w8,jaf (jaf w6 []) []=w8:=⟨_,rfl⟩
 have k8:w8.known=w6.known:=by rw[←e8];rfl
 rw[e8] at b8 g8 t8 o8 x8
 have z4:up E w.cur nb=0:=by rw[jfw (by omega)];exact(b.e0 (f0d _)).1
 obtain⟨b9,g9⟩:=b8.edge (k:=nb) (to:=nb+1) (args:=[]) (by omega) (by omega) (t7.gr g8) rfl (by simp) (.inl z4)
 obtain⟨o9,x9⟩:=o8.edge (j:=nb) (to:=nb+1) (args:=[]) (by rw[b8.nb];omega) (.inl rfl) (by simp)
 obtain⟨b10,g10⟩:=b9.edge (k:=nb) (to:=nb+1+1) (args:=[]) (by omega) (by omega) (t8.gr g9) rfl (by simp) (.inr (by
  have:=((g7.trans g8).trans g9).len nb;omega))
 obtain⟨o10,x10⟩:=o9.edge (j:=nb) (to:=nb+1+1) (args:=[]) (by rw[b9.nb];omega) (.inl rfl) (by simp)
 obtain⟨w10,e10⟩:∃ w10,jav (jav w8 nb (nb+1) []) nb (nb+1+1) []=w10:=⟨_,rfl⟩
 have k10:w10.known=w6.known:=by rw[←e10];exact k8
 rw[e10] at b10 g10 o10 x10
 obtain⟨q,eq⟩:∃ q:Pc,(⟨p.kind,inc p.op,inc p.a,p.b,p.c,p.limits,odd p.flags⟩:Pc)=q:=⟨_,rfl⟩
 have x610:=((x7.trans x8).trans x9).trans x10
 have b11:=b10.set (c:=nb+1) (kn:=w10.known) (by omega) b10.v.kn
 have o11:=o10.set (c:=nb+1) (kn:=w10.known) (fun y hy=>KnW.all x610 kv6 i2 y (k10▸hy))
 have g11:=Gr.set w10 (nb+1) w10.known
 obtain⟨w11,e11⟩:∃ w11,({ w10 with cur:=nb+1,known:=w10.known }:Ms)=w11:=⟨_,rfl⟩
 have c11:w11.cur=nb+1:=by rw[←e11]
 have k11:w11.known=w6.known:=by rw[←e11];exact k10
 have x11:Ext w10.blocks w11.blocks:=by rw[←e11];exact Ext.refl _
 rw[e11] at b11 g11 o11
 obtain⟨b12,g12,c12,n12,r12,k12⟩:=b11.lay q
 obtain⟨o12,x12⟩:=o11.lay b11.v q
 obtain⟨w12,e12⟩:∃ w12,jcu w11 q=w12:=⟨_,rfl⟩
 rw[e12] at b12 g12 c12 n12 k12 o12 x12
 rw[c11] at b12 c12
 obtain⟨b13,g13,c13,l13,d13,r13,k13⟩:=b12.newest hc q
 obtain⟨o13,x13⟩:=o12.newest b12.v hc q
 have m13:=(jhq b12.v hc q).2.2.2.2.2.2.2.2.1
 obtain⟨x,ex⟩:∃ x,jac w12 (pk p.c 2) q=x:=⟨_,rfl⟩
 rw[ex] at b13 g13 c13 l13 d13 k13 o13 x13 m13
 rw[c12] at b13 c13
 obtain⟨b14,g14,c14,l14,d14,r14,k14⟩:=b13.newest (cls:=0) (by omega) q
 obtain⟨o14,x14⟩:=o13.newest b13.v (cls:=0) (by omega) q
 have m14:=(jhq b13.v (cls:=0) (by omega) q).2.2.2.2.2.2.2.2.1
 obtain⟨y,ey⟩:∃ y,jac x.2 0 q=y:=⟨_,rfl⟩
 rw[ey] at b14 g14 c14 l14 d14 k14 o14 x14 m14
 rw[c13] at b14 c14
 have kv14:∀ z∈y.2.known,KnW idom y.2.blocks (nb+1) z:=fun z hz=>by have:=o14.kn z hz;rwa [c14] at this
 obtain⟨o15,x15⟩:=o14.edge (j:=nb+1) (to:=nb) (args:=[x.1,y.1]) (by rw[b14.nb];omega) (.inr c14.symm) (fun z hz=>by
  simp only[f0j,f1u,or_false] at hz
  rcases hz with rfl | rfl
  .exact kv14 _ (by rw[k14];exact f1e _ m13)
  .exact kv14 _ m14)
 obtain⟨w15,e15⟩:∃ w15,jav y.2 (nb+1) nb [x.1,y.1]=w15:=⟨_,rfl⟩
 have k15:w15.known.take w6.known.length=w6.known:=by
  rw[←e15]
  simp only[jav,k14,k13,k12,k11,f0l,List.take_left]
 rw[e15] at o15 x15
 have res:jg5 w p={ w15 with cur:=nb+1+1,known:=w15.known.take w6.known.length }:=by
  unfold jg5
  simp only[ev,eu,b2.nb,e3,c3,e4]
  rw[show(w4.blocks.getD nb ⟨[],[],[]⟩).params=(w4.blocks.getD nb jhp).params from rfl]
  simp only[e5,e6,b6.nb,e8,e10,e11,e12,eq,ex,ey,e15]
 rw[res,k15]
 exact o15.set (KnW.all ((((((x610).trans x11).trans x12).trans x13).trans x14).trans x15) kv6 i3)
end
theorem jrl:∀ (s:List Bool) (c:Nat),(jlg s c).length=3*s.length
 | [],c=>rfl
 | false::s,c=>by simp[jlg,jrl s];omega
 | true::s,c=>by simp[jlg,jrl s];omega
theorem jrm:∀ (s t:List Bool) (c:Nat),jlg (s++t) c=jlg s c++jlg t (c+3*s.length)
 | [],t,c=>by simp[jlg]
 | false::s,t,c=>by
  simp only[f12,jlg,jrm s t,f00]
  rw[show c+3+3*s.length=c+3*(s.length+1) by omega]
 | true::s,t,c=>by
  simp only[f12,jlg,jrm s t,f00]
  rw[show c+3+3*s.length=c+3*(s.length+1) by omega]
theorem qa5 (s:List Bool):(jh0 s).length=1+3*s.length:=by unfold jh0;rw[f00,jrl];omega
theorem jtd (s:List Bool) (b:Bool):jh0 (s++[b])=jh0 s++jlg [b] (3*s.length):=by
 unfold jh0;rw[jrm,f0z];rfl
theorem qef {α:Type} {l r:List α} {n:Nat} (h:l.length=n):(l++r)[n+i]?=r[i]?:=by
 rw[f0u (by omega),h,Nat.add_sub_cancel_left]
structure Pk3 (w:Ms) (j:Nat) (s:List Bool):Prop where
 p:Pok w j
 g:Gok w s
 k:Kok (jh0 s) w
theorem Pk3.piece {w:Ms} {j:Nat} {s:List Bool} (k:Pk3 w j s) (p:Pc):∃ t,Pk3 (jbz w p) (j+1) t:=by
 have hp:=k.p.piece p
 have b:=k.p.bd
 have hl:(gS s).length=w.blocks.length:=by rw[←k.g.g,jd9]
 rw[j4c] at hl
 have hc:=k.g.cur
 have hi:=qa5 s
 have at0:∀ (b:Bool) (i:Nat),(jh0 (s++[b]))[w.blocks.length+i]?=(jlg [b] (3*s.length))[i]?:=fun b i=>by rw[jtd];exact qef (by omega)
 have e3:3*s.length=w.cur:=by omega
 have k0:∀ b,Kok (jh0 (s++[b])) w:=fun b=>by rw[jtd];exact k.k.app
 have key:∃ t,Gok (jbz w p) t/\Kok (jh0 t) (jbz w p):=by
  unfold jbz
  simp only
  split
  .refine ⟨_,k.g.fork p,?_⟩
   have f0:=at0 false 0
   have f1:=at0 false 1
   have f2:=at0 false 2
   rw[e3] at f0 f1 f2
   exact qkv b (k0 false) k.p.e0 p f0 f1 f2
  .split
   .refine ⟨_,k.g.loop p,?_⟩
    have f0:=at0 true 0
    have f1:=at0 true 1
    have f2:=at0 true 2
    rw[e3] at f0 f1 f2
    have en:w.cur+1=w.blocks.length:=hc
    exact qkw b (k0 true) k.p.e0 p f0 (f1.trans (by rw[←en];rfl)) (f2.trans (by rw[←en];rfl))
   .split
    .exact ⟨s,⟨(jhy w p).1.trans k.g.g,by rw[(jhy w p).2,jlh];exact k.g.cur⟩,(k.k.lay k.p.v p).1⟩
    .exact ⟨s,k.g,k.k⟩
 obtain⟨t,h1,h2⟩:=key
 exact⟨t,hp,h1,h2⟩
theorem Pk3.pieces:∀ (l:List Pc) {w:Ms} {j:Nat} {s:List Bool},Pk3 w j s->∃ t,Pk3 (l.foldl jbz w) (j+l.length) t
 | [],w,j,s,k=>⟨s,k⟩
 | p::l,w,j,s,k=>by
  obtain⟨t,h⟩:=k.piece p
  obtain⟨u,hu⟩:=Pk3.pieces l h
  refine⟨u,?_⟩
  rw[f23,f00,show j+(l.length+1)=j+1+l.length by omega]
  exact hu
theorem j54 {m:Nat×Nat} (m1:2<=m.1/\m.1<=10) (m2:2<=m.2/\m.2<=10) (l:List Pc):∃ s,s.length<=5/\grL (jct m l).blocks=gS s /\
 (∀ (k i:Nat) (b:Blk) (x:Ins) (o:Opd),(jct m l).blocks[k]?=some b->b.instrs[i]?=some x->o∈x.ops->o.kind=1->jwb (jh0 s) (jct m l).blocks o.value k i) /\
 (∀ (k:Nat) (b:Blk) (e:Edg) (v:Nat),(jct m l).blocks[k]?=some b->e∈b.edges->v∈e.args->jwb (jh0 s) (jct m l).blocks v k b.instrs.length):=by
 have k0:Pk3 (jbu m) 0 []:=⟨jlc m1 m2,⟨rfl,rfl⟩,fun v hv=>by simp[jbu] at hv,fun k i b x o hb hx=>by
  unfold jbu at hb
  cases k with
  | zero=>simp at hb;rw[←hb] at hx;simp at hx
  | succ k=>simp at hb,fun k b e v hb he=>by
  unfold jbu at hb
  cases k with
  | zero=>simp at hb;rw[←hb] at he;simp at he
  | succ k=>simp at hb⟩
 obtain⟨s,k⟩:=Pk3.pieces (l.take 24) k0
 have o:=(k.k.lay k.p.v ⟨0,0,1,0,0,0,3⟩).1
 have hg:grL (jct m l).blocks=gS s:=(jhy _ _).1.trans k.g.g
 refine⟨s,?_,hg,o.us,o.ed⟩
 have h1:=j4c s
 rw[←hg,jd9] at h1
 have h2:=(j23 m1 m2 l).1.nb
 omega
end Go.Proofs.YtdbklpgagdbpiaaDoor.Ms
namespace Go.Proofs.YtdbklpgagdbpiaaDoor.Ev
open Go Go.RowKit
set_option linter.all false
set_option maxRecDepth 100000
def jyr:IC:=.seq (.block 5 (qr [qP (.ixs 5 (.g 19) (.g 22)),qK 5,qB 18 (.new 73 [.int .i64 0,.int .i64 0,.bool false,.int .i64 0,.int .i64 0]),qA (.store 5 qa qb)] (qr [qF 0 18,qL,qP (.bin .eq qa (qC 1)),qP (.mv qa),qR 0 true (.mv (.g 1)),qR 1 true (.mv (.g 17)),qR 2 true (.fld 1 (.g 18)),qS 3 true (.load 1 false qa),qR 4 true (.ixs 2 qc qa),qS 5 true (.load 2 true qa),qR 6 true (.mv (.g 16)),qR 7 true (.mv (.g 15)),qR 8 true (.build [.int .i64 0,.int .i64 0] [(0,(1,qb)),(1,(1,qa))]),qS 9 true (.call 44 [.l 8,qd,qa]),qR 10 true (.not qa),qQ 14 (.pick (.l 11) qa (.c (.s (.bool false))))] (.cond (.g 14) (qr [qQ 2 (.mv (.c (.s (.bool false))))] .ret) .skip)))) (.region [qI 22,qT 22])
def jli:IC:=qr [qQ 20 (.bin .lt (.g 22) (.g 21))] (.seq (qX 20 4) jyr)
def jys:IC:=.seq (.block 3 (qr [qM 27,qP (.ixs 3 (.g 24) (.g 27)),qK 3,qB 23 (.new 59 [.int .i64 0,.nilSlice,.nilSlice]),qQ 15 (.mv qd),qA (.store 3 qb qc)] (qr [qF 1 23,qB 19 (.load 1 false qa),qQ 21 (.len qa),qQ 22 (.mv (qC 0))] (.block 4 (.loop jli))))) (.region [qI 27,qT 27])
def jlj:IC:=qr [qQ 25 (.bin .lt (.g 27) (.g 26))] (.seq (qX 25 2) jys)
def jyt:IC:=.draw [(qM 1,.none),(qM 17,.none),(qM 4,.none),(qP (.ixs 2 qb qa),.none),(qK 2,.some []),(qM 16,.none),(qF 1 28,.none),(qL,.some [2]),(qP (.len qa),.none),(qP (.build [.int .i64 0,.int .i64 0] [(0,(1,qd)),(1,(1,qa))]),.none),(qA (.call 44 [.l 9,.l 5,qa]),.none),(qQ 3 (.not qa),.none)]
def jyu:IC:=.seq (.block 9 (qr [qP (.ixs 1 (.g 5) (.g 8)),qL,qT 4] (.seq jyt (.cond (.g 3) (qr [qQ 2 (.mv (.c (.s (.bool false))))] .ret) .skip)))) (.region [qI 8,qT 8])
def jlk:IC:=qr [qQ 6 (.bin .lt (.g 8) (.g 7))] (.seq (qX 6 8) jyu)
def jyv:IC:=.seq (.block 7 (qr [qP (.ixs 2 (.g 10) (.g 13)),qK 2,qB 9 (.new 62 [.int .i64 0,.nilSlice]),qA (.store 2 qa qb)] (qr [qF 1 9,qB 5 (.load 1 false qa),qQ 7 (.len qa),qQ 8 (.mv (qC 0))] (.block 8 (.loop jlk))))) (.region [qI 13,qT 13])
def jll:IC:=qr [qQ 11 (.bin .lt (.g 13) (.g 12))] (.seq (qX 11 6) jyv)
def jyw:IC:=.seq (.block 1 (qr [qM 32,qP (.ixs 3 (.g 29) (.g 32)),qK 3,qB 28 (.new 39 [.nilSlice,.nilSlice,.nilSlice]),qQ 16 (.mv qd),qA (.store 3 qb qc)] (.seq (qr [qF 1 28,qB 24 (.load 1 false qa),qQ 26 (.len qa),qQ 27 (.mv (qC 0))] (.block 2 (.loop jlj))) (qr [qF 2 28,qB 10 (.load 1 false qa),qQ 12 (.len qa),qQ 13 (.mv (qC 0))] (.block 6 (.loop jll)))))) (.region [qI 32,qT 32])
def jlm:IC:=qr [qQ 30 (.bin .lt (.g 32) (.g 31))] (.seq (qX 30 0) jyw)
def j4d:IC:=qr [qB 33 (.box 29 (.g 0)),qQ 2 (.mv (.c (.s (.bool false))))] (qr [qA (.load 2 true (.g 33)),qA (.call 43 [qa]),qT 17] (.seq (qr [qF 1 33,qB 29 (.load 1 false qa),qQ 31 (.len qa),qQ 32 (.mv (qC 0))] (.block 0 (.loop jlm))) (qr [qQ 2 (.mv (.c (.s (.bool true))))] .ret)))
theorem qkx:T 31=some (.mk j4d 2 32 [(.tmp 2)]):=by kernel_rfl
def jyx:IC:=qr [qM 0,qF 0 6,qL,qF 0 5,qL,qA (.call 59 [.l 4,qc,qa]),qT 3] .ret
def j4e:IC:=qr [qB 6 (.box 107 (.g 1)),qB 5 (.box 107 (.g 2)),qQ 3 (.mv (.c (.s (.bool false))))] (.seq (qr [qF 0 6,qL,qF 0 5,qL,qQ 4 (.bin .eq qc qa)] (.cond (.g 4) (qr [qF 1 6,qL,qF 1 5,qL,qP (.bin .lt qc qa),qT 3] .ret) .skip)) jyx)
theorem qky:T 44=some (.mk j4e 3 4 [(.tmp 3)]):=by kernel_rfl
def jrn:IC:=.seq (qr [qM 2,qP (.bin .ge qa (qC 0)),qP (.mv qa),qR 0 true (.mv (.g 2)),qR 1 true (.mv (.g 1)),qR 2 true (.bin .ne qb qa),qQ 4 (.pick qd qa (.c (.s (.bool false))))] (qX 4 0)) (.block 1 (.region [qM 0,qM 2,qP (.ixs 1 qb qa),qL,qT 2]))
def qgo:IC:=qr [qQ 3 (.mv (.c (.s (.bool false))))] (.seq (.block 0 (.loop jrn)) (qr [qM 2,qM 1,qP (.bin .eq qb qa),qT 3] .ret))
theorem qup:T 59=some (.mk qgo 3 2 [(.tmp 3)]):=by kernel_rfl
def qa6:IC:=.seq (.block 3 (qr [qP (.ixs 1 (.g 17) (.g 20)),qL,qT 15] (.region [qM 16,qM 15,qM 14,qP (.build [.int .i64 0,.int .i64 0] [(0,(1,qa)),(1,(1,qC (-1)))]),qP (.ixs 2 qd qc),qA (.store 2 qa qb)]))) (.region [qI 20,qT 20])
def jwc:IC:=qr [qQ 18 (.bin .lt (.g 20) (.g 19))] (.seq (qX 18 2) qa6)
def qa7:IC:=.seq (.block 7 (qr [qP (.ixs 5 (.g 5) (.g 8)),qK 5,qB 4 (.new 73 [.int .i64 0,.int .i64 0,.bool false,.int .i64 0,.int .i64 0]),qA (.store 5 qa qb)] (qr [qF 0 4,qL,qQ 3 (.bin .eq qa (qC 2))] (.cond (.g 3) (.region [qM 16,qF 1 4,qL,qM 14,qM 2,qP (.build [.int .i64 0,.int .i64 0] [(0,(1,qb)),(1,(1,qa))]),qP (.ixs 2 (.l 5) qd),qA (.store 2 qa qb)]) .skip)))) (.region [qI 8,qT 8])
def jwd:IC:=qr [qQ 6 (.bin .lt (.g 8) (.g 7))] (.seq (qX 6 6) qa7)
def qa8:IC:=.seq (.block 5 (qr [qM 13,qP (.ixs 3 (.g 10) (.g 13)),qK 3,qB 9 (.new 59 [.int .i64 0,.nilSlice,.nilSlice]),qQ 2 (.mv qd),qA (.store 3 qb qc)] (qr [qF 1 9,qB 5 (.load 1 false qa),qQ 7 (.len qa),qQ 8 (.mv (qC 0))] (.block 6 (.loop jwd))))) (.region [qI 13,qT 13])
def jwe:IC:=qr [qQ 11 (.bin .lt (.g 13) (.g 12))] (.seq (qX 11 4) qa8)
def qa9:IC:=.seq (.block 1 (qr [qM 25,qP (.ixs 3 (.g 22) (.g 25)),qK 3,qB 21 (.new 39 [.nilSlice,.nilSlice,.nilSlice]),qQ 14 (.mv qd),qA (.store 3 qb qc)] (.seq (qr [qF 0 21,qB 17 (.load 1 false qa),qQ 19 (.len qa),qQ 20 (.mv (qC 0))] (.block 2 (.loop jwc))) (qr [qF 1 21,qB 10 (.load 1 false qa),qQ 12 (.len qa),qQ 13 (.mv (qC 0))] (.block 4 (.loop jwe)))))) (.region [qI 25,qT 25])
def jwf:IC:=qr [qQ 23 (.bin .lt (.g 25) (.g 24))] (.seq (qX 23 0) qa9)
def qgp:IC:=qr [qB 26 (.box 29 (.g 0)),qQ 1 (.mv (.c (.s .nilSlice)))] (qr [qF 0 26,qL,qP (.len qa),qA (.mkslice 107 2 16 [.int .i64 0,.int .i64 0] qa qa),qT 16] (.seq (qr [qF 1 26,qB 22 (.load 1 false qa),qQ 24 (.len qa),qQ 25 (.mv (qC 0))] (.block 0 (.loop jwf))) (qr [qM 16,qT 1] .ret)))
theorem quq:T 43=some (.mk qgp 1 26 [(.tmp 1)]):=by kernel_rfl
def jyy:IC:=.draw [(qA (.load 2 true (.g 20)),.some []),(qA (.call 29 [qa]),.some []),(qP (.len qa),.none),(qF 1 20,.none),(qL,.some [2,3]),(qP (.len qa),.none),(qQ 16 (.bin .lt qd qa),.none)]
def jyz:IC:=.seq (.block 3 (qr [qP (.ixs 2 (.g 7) (.g 10)),qK 2,qB 5 (.new 62 [.int .i64 0,.nilSlice]),qA (.store 2 qa qb)] (qr [qF 2 11,qL,qP (.len qa),qP (.bin .gt qa (qC 1)),qP (.mv qa),qR 0 true (.mv (.g 6)),qR 1 true (.fld 0 (.g 5)),qS 2 true (.load 1 false qa),qR 3 true (.ixs 1 qc qa),qS 4 true (.load 1 false qa),qR 5 true (.len qa),qR 6 true (.bin .gt qa (qC 1)),qQ 4 (.pick (.l 7) qa (.c (.s (.bool false))))] (.cond (.g 4) (qr [qQ 2 (.mv (qC 11))] .ret) .skip)))) (.region [qI 10,qT 10])
def jln:IC:=qr [qQ 8 (.bin .lt (.g 10) (.g 9))] (.seq (qX 8 2) jyz)
def jy0:IC:=.seq (.block 1 (qr [qP (.ixs 3 (.g 12) (.g 15)),qK 3,qB 11 (.new 39 [.nilSlice,.nilSlice,.nilSlice]),qA (.store 3 qa qb)] (qr [qF 2 11,qB 7 (.load 1 false qa),qQ 9 (.len qa),qQ 10 (.mv (qC 0))] (.block 2 (.loop jln))))) (.region [qI 15,qT 15])
def jlp:IC:=qr [qQ 13 (.bin .lt (.g 15) (.g 14))] (.seq (qX 13 0) jy0)
def jy1:IC:=.draw [(qA (.load 2 true (.g 20)),.some []),(qA (.load 2 true (.g 20)),.some [0]),(qA (.load 2 true (.g 20)),.some [0,1]),(qA (.call 29 [qa]),.some [1,2]),(qA (.call 32 [qc,qa]),.some [3]),(qA (.call 31 [.l 4,qa]),.none),(qQ 3 (.not qa),.none)]
def jy2:IC:=qr [qQ 2 (.mv (qC 0))] .ret
def jy3:IC:=qr [qA (.load 2 true (.g 20)),qA (.call 30 [qa]),qT 6] (.seq (qr [qF 1 20,qB 12 (.load 1 false qa),qQ 14 (.len qa),qQ 15 (.mv (qC 0))] (.block 0 (.loop jlp))) (.seq (.seq jy1 (.cond (.g 3) (qr [qQ 2 (.mv (qC 10))] .ret) .skip)) jy2))
def jy4:IC:=.seq (.seq jyy (.cond (.g 16) (qr [qQ 2 (.mv (qC 16))] .ret) .skip)) jy3
def j4f:IC:=qr [qB 20 (.box 29 (.g 0)),qB 19 (.box 25 (.g 1)),qQ 2 (.mv (qC 0))] (.seq (qr [qA (.load 2 true (.g 20)),qA (.load 2 true (.g 19)),qA (.call 28 [qb,qa]),qT 18] (qr [qM 18,qQ 17 (.bin .ne qa (qC 0))] (.cond (.g 17) (qr [qM 18,qT 2] .ret) .skip))) jy4)
theorem qkz:T 20=some (.mk j4f 2 19 [(.tmp 2)]):=by kernel_rfl
open Go Go.RowKit Go.Proofs.YtdbklpgagdbpiaaDoor.Ms
variable {x0 x1 x9 x10 x11 x12 x13 x15 x17 x18 x19 x20 x21 x22 x23 x24 x25 x26:AV} {Q:Ex->St->Prop} {h:Hp} {idom:List Int}
attribute [local go_sem] Int.reduceToNat reduceCtorEq Nat.reduceAdd Nat.reduceMul Nat.reduceEqDiff Int.reduceEq Int.reduceLT Int.reduceLE Int.reduceNeg Int.reduceAdd Int.reduceSub Int.reduceMul Int.reduceNe
attribute [local go_sem ↓] reduceIte
set_option maxHeartbeats 2000000
theorem qeg {a:Nat} {b:Int} (h:Dom idom a b):∀ {hi:Hp} (_:Ok hi) {x3 x4:AV} {Q:Ex->St->Prop} (_:∀ x4,Q (.exit 0) (.mk [.s (jae jlv idom),vi a,vi a,x3,x4] hi)),W F7 jrn.loop (.mk [.s (jae jlv idom),vi a,vi b,x3,x4] hi) Q:=by
 have stop:∀ {hi:Hp} (_:Ok hi) {x3 x4:AV} {Q:Ex->St->Prop} (_:∀ x4,Q (.exit 0) (.mk [.s (jae jlv idom),vi a,vi a,x3,x4] hi)),W F7 jrn.loop (.mk [.s (jae jlv idom),vi a,vi a,x3,x4] hi) Q:=fun {hi} ok {x3 x4 Q} hQ=>by
  have c1:(0<=(a:Int))=True:=by simp
  have c2:((a:Int)≠(a:Int))=False:=by simp
  rw[jaj]
  unfold jrn
  simp(disch:=first|omega|rfl) only[go_sem,c1,c2]
  exact hQ _
 induction h with
 | refl=>exact stop
 | @step b c h1 h2 ih =>
  intro hi ok x3 x4 Q hQ
  by_cases e:b=a
  .subst e;exact stop ok hQ
  .have c1:(0<=(b:Int))=True:=by simp
   have c2:((b:Int)≠(a:Int))=True:=by simp;omega
   have ix:=jah (enc:=jlv) (size:=1) h1 rfl
   rw[jaj]
   unfold jrn
   simp(disch:=first|omega|rfl) only[go_sem,c1,c2,ix,jlv]
   exact ih ok hQ
theorem qk0 (ok:Ok h) {a:Nat} {b:Int} (hd:Dom idom a b):WC F7 59 [.s (jae jlv idom),vi a,vi b] h (fun v h'=>∃ d,jhz true h' d v=some (vb true)):=by
 refine ja9 (no7 rfl rfl rfl rfl rfl rfl rfl) qup rfl ?_
 unfold qgo
 have c2:((a:Int)=(a:Int))=True:=by simp
 simp(disch:=first|omega|rfl) only[go_sem]
 refine qeg hd ok (fun x4=>?_)
 simp(disch:=first|omega|rfl) only[go_sem,c2]
 exact⟨1,rfl⟩
def ji9 (p:Nat×Int):List SV:=[si p.1,si p.2]
def ES (row:List SV) (p:Nat×Int) (ns:List Nat):Prop:=row=ji9 p/\ns=[]
def fl2 (T:List (Nat×Int)):List SV:=(T.map ji9).flatten
theorem qqt:∀ (l:List (Nat×Int)),Rows 2 ES (l.map ji9) l []
 | []=>.nil
 | a::l=>by
  have:=Rows.cons (sz:=2) (E:=ES) (row:=ji9 a) (a:=a) (ns:=[]) rfl ⟨rfl,rfl⟩ (qqt l)
  exact this
theorem jro {p:Nat×Int}:∀ {T:List (Nat×Int)} {v:Nat},v<T.length->jbv (v*2) (ji9 p) (fl2 T)=some (fl2 (T.set v p))
 | [],v,h=>by simp at h
 | a::T,0,h=>by
  show jor (ji9 p) (ji9 a++fl2 T)=some (ji9 p++fl2 T)
  unfold ji9
  cases fl2 T<;>rfl
 | a::T,v+1,h=>by
  show jbv ((v+1)*2) (ji9 p) (ji9 a++fl2 T)=some (ji9 a++fl2 (T.set v p))
  rw[show(v+1)*2=v*2+1+1 by omega]
  unfold ji9
  show jbv (v*2+1+1) (ji9 p) (si a.1::si a.2::fl2 T)=_
  rw[jdu,jdu,jro (by simpa using h)]
  rfl
def spF (T:List (Nat×Int)) (l:List (Nat×(Nat×Int))):List (Nat×Int):=l.foldl (fun T e=>T.set e.1 e.2) T
theorem j1t (T:List (Nat×Int)) (a b:List (Nat×(Nat×Int))):spF T (a++b)=spF (spF T a) b:=by unfold spF;rw[List.foldl_append]
theorem qba:∀ (l:List (Nat×(Nat×Int))) (T:List (Nat×Int)),(spF T l).length=T.length
 | [],T=>rfl
 | e::l,T=>by
  show(spF (T.set e.1 e.2) l).length=_
  rw[qba l,f3k]
def evP (b:Nat) (ps:List Nat):List (Nat×(Nat×Int)):=ps.map (fun v=>(v,(b,-1)))
def evO (b i:Nat) (ops:List Ms.Opd):List (Nat×(Nat×Int)):=(dfO ops).map (fun v=>(v,(b,(i:Int))))
def evI (b:Nat):Nat->List Ms.Ins->List (Nat×(Nat×Int))
 | _,[]=>[]
 | i,x::l=>evO b i x.ops++evI b (i+1) l
def evB (b:Nat) (x:Blk):List (Nat×(Nat×Int)):=evP b x.params++evI b 0 x.instrs
def evL:Nat->List Blk->List (Nat×(Nat×Int))
 | _,[]=>[]
 | k,x::l=>evB k x++evL (k+1) l
def je1 (f:Fc):List (Nat×Int):=spF (List.replicate f.values.length (0,0)) (evL 0 f.blocks)
structure SpI (hi:Hp) (f:Fc) (bF bA:Nat) (T:List (Nat×Int)):Prop where
 ok:Ok hi
 hs:T.length=f.values.length
 lt:bF<hi.next/\bA<hi.next
 pos:1<=bA/\bF≠bA
 xA:hi.get bA=some (.arr (fl2 T) 107)
section
variable {hi hj:Hp} {f:Fc} {bF bA:Nat} {T:List (Nat×Int)}
theorem SpI.keep (k:SpI hi f bF bA T) (ok:Ok hj) (hn:hi.next<=hj.next) (g:∀ n,n<hi.next->hj.get n=hi.get n):SpI hj f bF bA T :=
 ⟨ok,k.hs,⟨f0m k.lt.1 hn,f0m k.lt.2 hn⟩,k.pos,(g _ k.lt.2).trans k.xA⟩
theorem SpI.tell (k:SpI hi f bF bA T) {v:Nat} (hv:v<f.values.length) (p:Nat×Int):wrB hi bA (hi.get bA) (v*2) [si p.1,si p.2]=some (hi.put bA (some (.arr (fl2 (T.set v p)) 107)))/\SpI (hi.put bA (some (.arr (fl2 (T.set v p)) 107))) f bF bA (T.set v p):=by
 have hvT:v<T.length:=by rw[k.hs];exact hv
 refine⟨?_,⟨jas k.ok,by rw[f3k];exact k.hs,by rw[Hp.next_put];exact k.lt,k.pos,by rw[jak k.ok k.pos.1,if_pos rfl]⟩⟩
 rw[k.xA,jmu]
 have:=jro (p:=p) hvT
 unfold ji9 at this
 rw[this]
 rfl
end
theorem qgq {f:Fc} {ps:List Nat} {b bF bA:Nat} (hl:ps.length<=10000) (hp:∀ v∈ps,v<f.values.length) {x2 x3 x4 x5 x6 x7 x8:AV} :
 ∀ (rest done:List Nat) (_:done++rest=ps) {T:List (Nat×Int)} {hi:Hp} (_:SpI hi f bF bA T) {x15 x18:AV}
  (hQ:∀ hj x15 x18,SpI hj f bF bA (spF T (evP b rest))->hj.next=hi.next->(∀ n,n≠bA->hj.get n=hi.get n)->Q (.exit 2) (.mk [x0,x1,x2,x3,x4,x5,x6,x7,x8,x9,x10,x11,x12,x13,vi b,x15,.s (.slice bA 0 f.values.length f.values.length true 2),.s (jae jaz ps),x18,vi ps.length,vi ps.length,x21,x22,x23,x24,x25,x26] hj)),
  W F7 jwc.loop (.mk [x0,x1,x2,x3,x4,x5,x6,x7,x8,x9,x10,x11,x12,x13,vi b,x15,.s (.slice bA 0 f.values.length f.values.length true 2),.s (jae jaz ps),x18,vi ps.length,vi done.length,x21,x22,x23,x24,x25,x26] hi) Q
 | [],done,hdn,T,hi,I,x15,x18,hQ=>by
  rw[f1c] at hdn
  subst hdn
  rw[jaj]
  unfold jwc
  simp(disch:=first|omega|rfl) only[go_sem,f0s]
  exact hQ hi _ _ I rfl (fun _ _=>rfl)
 | v::rest,done,hdn,T,hi,I,x15,x18,hQ=>by
  have hlt1:done.length<ps.length:=by rw[←hdn];simp
  have hlt:(done.length:Int)<ps.length:=by omega
  have hget:ps[done.length]?=some v:=by rw[←hdn];simp
  have hv:=hp v (f0c hget)
  have hix:=jah (enc:=jaz) (size:=1) hget rfl
  have hdn':(done++[v])++rest=ps:=by rw[←hdn];simp
  have hs:(done.length:Int)+1=(((done++[v]).length:Nat):Int):=by simp
  have ok:=I.ok
  have hxi:=jbg (size:=2) (b:=bA) (off:=0) (len:=f.values.length) (mc:=f.values.length) (sz:=2) (ex:=true) (m:=v) hv
  rw[f0z] at hxi
  obtain⟨t1,t2⟩:=I.tell hv (b,-1)
  simp only at t1
  rw[jaj]
  unfold jwc qa6
  simp(disch:=first|omega|rfl) only[go_sem,jad,eq_true hlt,hix,jaz,hxi,t1,hs]
  exact qgq hl hp rest (done++[v]) hdn' t2 (fun hj x15 x18 J n g=>hQ hj x15 x18 J (n.trans (Hp.next_put ..)) (fun m hm=>(g m hm).trans (by rw[jak I.ok I.pos.1,if_neg hm])))
theorem qbb {f:Fc} {l:List Ms.Opd} {b i bF bA:Nat} (hl:l.length<=10000) (hp:∀ o∈l,o.value<f.values.length) :
 ∀ (rest done:List Ms.Opd) (_:done++rest=l) {T:List (Nat×Int)} {hi:Hp} (_:SpI hi f bF bA T) {x3 x4 x6:AV}
  (hQ:∀ hj x3 x4 x6,SpI hj f bF bA (spF T (evO b i rest))->hi.next<=hj.next->(∀ n,n<hi.next->n≠bA->hj.get n=hi.get n)->Q (.exit 6) (.mk [x0,x1,vi i,x3,x4,.s (jae jbi l),x6,vi l.length,vi l.length,x9,x10,x11,x12,x13,vi b,x15,.s (.slice bA 0 f.values.length f.values.length true 2),x17,x18,x19,x20,x21,x22,x23,x24,x25,x26] hj)),
  W F7 jwd.loop (.mk [x0,x1,vi i,x3,x4,.s (jae jbi l),x6,vi l.length,vi done.length,x9,x10,x11,x12,x13,vi b,x15,.s (.slice bA 0 f.values.length f.values.length true 2),x17,x18,x19,x20,x21,x22,x23,x24,x25,x26] hi) Q
 | [],done,hdn,T,hi,I,x3,x4,x6,hQ=>by
  rw[f1c] at hdn
  subst hdn
  rw[jaj]
  unfold jwd
  simp(disch:=first|omega|rfl) only[go_sem,f0s]
  exact hQ hi _ _ _ I (f0d _) (fun _ _ _=>rfl)
 | o::rest,done,hdn,T,hi,I,x3,x4,x6,hQ=>by
  have hlt1:done.length<l.length:=by rw[←hdn];simp
  have hlt:(done.length:Int)<l.length:=by omega
  have hget:l[done.length]?=some o:=by rw[←hdn];simp
  have hv:=hp o (f0c hget)
  have hix:=jah (enc:=jbi) (size:=5) hget rfl
  have hdn':(done++[o])++rest=l:=by rw[←hdn];simp
  have hs:(done.length:Int)+1=(((done++[o]).length:Nat):Int):=by simp
  have ok:=I.ok
  obtain⟨hA,eA,okA,nA,xA,gA⟩:=jc2 ok [.int .i64 0,.int .i64 0,.bool false,.int .i64 0,.int .i64 0] (jbi o) 73
  have IA:=I.keep okA (by omega) gA
  unfold jbi at xA eA
  rw[jaj]
  unfold jwd qa7
  by_cases e:o.kind=2
  .have c1:((o.kind:Int)=2)=True:=by simp;omega
   have ed:evO b i (o::rest)=(o.value,(b,(i:Int)))::evO b i rest:=by unfold evO dfO;rw[List.filter_cons_of_pos (by simpa using e)];rfl
   have hxi:=jbg (size:=2) (b:=bA) (off:=0) (len:=f.values.length) (mc:=f.values.length) (sz:=2) (ex:=true) (m:=o.value) hv
   rw[f0z] at hxi
   obtain⟨t1,t2⟩:=IA.tell hv (b,(i:Int))
   simp only at t1
   simp(disch:=first|omega|rfl) only[go_sem,jad,eq_true hlt,hix,jbi,eA,xA,c1,hxi,t1,hs]
   exact qbb hl hp rest (done++[o]) hdn' t2 (fun hj x3 x4 x6 J n g=>hQ hj x3 x4 x6 (by rw[ed];exact J) (by rw[Hp.next_put] at n;omega) (fun m hm hne=>(g m (by rw[Hp.next_put];omega) hne).trans ((by rw[jak IA.ok IA.pos.1,if_neg hne]:_=hA.get m).trans (gA m hm))))
  .have c1:((o.kind:Int)=2)=False:=by simp;omega
   have ed:evO b i (o::rest)=evO b i rest:=by unfold evO dfO;rw[List.filter_cons_of_neg (by simpa using e)]
   simp(disch:=first|omega|rfl) only[go_sem,jad,eq_true hlt,hix,jbi,eA,xA,c1,hs]
   exact qbb hl hp rest (done++[o]) hdn' IA (fun hj x3 x4 x6 J n g=>hQ hj x3 x4 x6 (by rw[ed];exact J) (by omega) (fun m hm hne=>(g m (by omega) hne).trans (gA m hm)))
theorem qgr {f:Fc} {l:List Ms.Ins} {b bF bA:Nat} (hl:l.length<=10000) (hp:∀ x∈l,x.ops.length<=6/\∀ o∈x.ops,o.value<f.values.length) :
 ∀ (rest done:List Ms.Ins) (_:done++rest=l) {T:List (Nat×Int)} {hi:Hp} (_:SpI hi f bF bA T) {x2 x3 x4 x5 x6 x7 x8 x9 x11:AV}
  (hQ:∀ hj x2 x3 x4 x5 x6 x7 x8 x9 x11,SpI hj f bF bA (spF T (evI b done.length rest))->hi.next<=hj.next->(∀ n,n<hi.next->n≠bA->hj.get n=hi.get n)->Q (.exit 4) (.mk [x0,x1,x2,x3,x4,x5,x6,x7,x8,x9,.s (jae jel l),x11,vi l.length,vi l.length,vi b,x15,.s (.slice bA 0 f.values.length f.values.length true 2),x17,x18,x19,x20,x21,x22,x23,x24,x25,x26] hj)),
  W F7 jwe.loop (.mk [x0,x1,x2,x3,x4,x5,x6,x7,x8,x9,.s (jae jel l),x11,vi l.length,vi done.length,vi b,x15,.s (.slice bA 0 f.values.length f.values.length true 2),x17,x18,x19,x20,x21,x22,x23,x24,x25,x26] hi) Q
 | [],done,hdn,T,hi,I,x2,x3,x4,x5,x6,x7,x8,x9,x11,hQ=>by
  rw[f1c] at hdn
  subst hdn
  rw[jaj]
  unfold jwe
  simp(disch:=first|omega|rfl) only[go_sem,f0s]
  exact hQ hi _ _ _ _ _ _ _ _ _ I (f0d _) (fun _ _ _=>rfl)
 | x::rest,done,hdn,T,hi,I,x2,x3,x4,x5,x6,x7,x8,x9,x11,hQ=>by
  have hlt1:done.length<l.length:=by rw[←hdn];simp
  have hlt:(done.length:Int)<l.length:=by omega
  have hget:l[done.length]?=some x:=by rw[←hdn];simp
  have hv:=hp x (f0c hget)
  have hix:=jah (enc:=jel) (size:=3) hget rfl
  have hdn':(done++[x])++rest=l:=by rw[←hdn];simp
  have hl2:(done++[x]).length=done.length+1:=by simp
  have hs:(done.length:Int)+1=(((done++[x]).length:Nat):Int):=by simp
  have ok:=I.ok
  obtain⟨hA,eA,okA,nA,xA,gA⟩:=jc2 ok [.int .i64 0,.nilSlice,.nilSlice] (jel x) 59
  have IA:=I.keep okA (by omega) gA
  have l1:=jag (enc:=jbi) (l:=x.ops)
  unfold jel at xA eA
  rw[jaj]
  unfold jwe qa8
  simp(disch:=first|omega|rfl) only[go_sem,jad,eq_true hlt,hix,jel,eA,xA,l1]
  refine qbb (by omega) hv.2 x.ops [] rfl IA (fun hj x3 x4 x6 J n g=>?_)
  simp(disch:=first|omega|rfl) only[go_sem,jad,hs]
  exact qgr hl hp rest (done++[x]) hdn' J (fun hk x2 x3 x4 x5 x6 x7 x8 x9 x11 J' n' g'=>hQ hk x2 x3 x4 x5 x6 x7 x8 x9 x11 (by unfold evI;rw[j1t,←hl2];exact J') (by omega) (fun m hm hne=>(g' m (by omega) hne).trans ((g m (by omega) hne).trans (gA m hm))))
theorem qgs {f:Fc} {bF bA:Nat} (hl:f.blocks.length<=10000) (hp:∀ b∈f.blocks,b.params.length<=10000/\b.instrs.length<=10000/\(∀ v∈b.params,v<f.values.length)/\∀ x∈b.instrs,x.ops.length<=6/\∀ o∈x.ops,o.value<f.values.length) :
 ∀ (rest done:List Blk) (_:done++rest=f.blocks) {T:List (Nat×Int)} {hi:Hp} (_:SpI hi f bF bA T) {x2 x3 x4 x5 x6 x7 x8 x9 x10 x11 x12 x13 x14 x15 x17 x18 x19 x20 x21 x23:AV}
  (hQ:∀ hj x2 x3 x4 x5 x6 x7 x8 x9 x10 x11 x12 x13 x14 x15 x17 x18 x19 x20 x21 x23,SpI hj f bF bA (spF T (evL done.length rest))->Q (.exit 0) (.mk [x0,x1,x2,x3,x4,x5,x6,x7,x8,x9,x10,x11,x12,x13,x14,x15,.s (.slice bA 0 f.values.length f.values.length true 2),x17,x18,x19,x20,x21,.s (jae ja3 f.blocks),x23,vi f.blocks.length,vi f.blocks.length,x26] hj)),
  W F7 jwf.loop (.mk [x0,x1,x2,x3,x4,x5,x6,x7,x8,x9,x10,x11,x12,x13,x14,x15,.s (.slice bA 0 f.values.length f.values.length true 2),x17,x18,x19,x20,x21,.s (jae ja3 f.blocks),x23,vi f.blocks.length,vi done.length,x26] hi) Q
 | [],done,hdn,T,hi,I,x2,x3,x4,x5,x6,x7,x8,x9,x10,x11,x12,x13,x14,x15,x17,x18,x19,x20,x21,x23,hQ=>by
  rw[f1c] at hdn
  rw[jaj,hdn]
  unfold jwf
  simp(disch:=first|omega|rfl) only[go_sem,f0s]
  exact hQ hi _ _ _ _ _ _ _ _ _ _ _ _ _ _ _ _ _ _ _ _ I
 | b::rest,done,hdn,T,hi,I,x2,x3,x4,x5,x6,x7,x8,x9,x10,x11,x12,x13,x14,x15,x17,x18,x19,x20,x21,x23,hQ=>by
  have hlt1:done.length<f.blocks.length:=by rw[←hdn];simp
  have hlt:(done.length:Int)<f.blocks.length:=by omega
  have hget:f.blocks[done.length]?=some b:=by rw[←hdn];simp
  obtain⟨p1,p2,p3,p4⟩:=hp b (f0c hget)
  have hix:=jah (enc:=ja3) (size:=3) hget rfl
  have hdn':(done++[b])++rest=f.blocks:=by rw[←hdn];simp
  have hl2:(done++[b]).length=done.length+1:=by simp
  have hs:(done.length:Int)+1=(((done++[b]).length:Nat):Int):=by simp
  have ok:=I.ok
  obtain⟨hA,eA,okA,nA,xA,gA⟩:=jc2 ok [.nilSlice,.nilSlice,.nilSlice] (ja3 b) 39
  have IA:=I.keep okA (by omega) gA
  have l1:=jag (enc:=jaz) (l:=b.params)
  have l2:=jag (enc:=jel) (l:=b.instrs)
  have hneA:hi.next≠bA:=by have:=I.lt;omega
  unfold ja3 at xA eA
  rw[jaj]
  unfold jwf qa9
  simp(disch:=first|omega|rfl) only[go_sem,jad,eq_true hlt,hix,ja3,eA,xA,l1]
  refine qgq p1 p3 b.params [] rfl IA (fun hj x15 x18 J n g=>?_)
  have xJ:=(g _ hneA).trans xA
  simp(disch:=first|omega|rfl) only[go_sem,xJ,l2]
  refine qgr p2 p4 b.instrs [] rfl J (fun hk x2 x3 x4 x5 x6 x7 x8 x9 x11 J' n' g'=>?_)
  simp(disch:=first|omega|rfl) only[go_sem,jad,hs]
  exact qgs hl hp rest (done++[b]) hdn' J' (fun h2 x2 x3 x4 x5 x6 x7 x8 x9 x10 x11 x12 x13 x14 x15 x17 x18 x19 x20 x21 x23 J2=>hQ h2 x2 x3 x4 x5 x6 x7 x8 x9 x10 x11 x12 x13 x14 x15 x17 x18 x19 x20 x21 x23 (by
   unfold evL evB
   rw[j1t,j1t,←hl2];exact J2))
theorem qbc (x y:SV):∀ n,rep [x,y] n=(List.replicate n [x,y]).flatten
 | 0=>rfl
 | n+1=>by
  have h:rep [x,y] (n+1)=jgp [x,y] (rep [x,y] n):=rfl
  rw[h,jc8,qbc x y n];rfl
theorem qk1 (ok:Ok h) {f:Fc} (hl:f.blocks.length<=10000) (hv:f.values.length<=10000) (hne:f.values≠[]) (hp:∀ b∈f.blocks,b.params.length<=10000/\b.instrs.length<=10000/\(∀ v∈b.params,v<f.values.length)/\∀ x∈b.instrs,x.ops.length<=6/\∀ o∈x.ops,o.value<f.values.length) :
 WC F7 43 [.agg [jae jaz f.values,jae ja3 f.blocks]] h (fun v h'=>∃ d,jhz true h' d v=some (.s (jae ji9 (je1 f)))):=by
 refine ja9 (no7 rfl rfl rfl rfl rfl rfl rfl) quq rfl ?_
 unfold qgp
 have hpos:=ok.pos
 obtain⟨hA,eA,okA,nA,xA,gA⟩:=je0 ok [jae jaz f.values,jae ja3 f.blocks] 29
 obtain⟨hB,eB,okB,nB,xB,gB⟩:=je0 okA (rep [.int .i64 0,.int .i64 0] f.values.length) 107
 rw[qbc] at xB
 have hfl:fl2 (List.replicate f.values.length ((0:Nat),(0:Int)))=(List.replicate f.values.length [.int .i64 0,.int .i64 0]).flatten:=by unfold fl2;rw[List.map_replicate];rfl
 rw[←hfl] at xB
 have I:SpI hB f h.next hA.next (List.replicate f.values.length (0,0)) :=
  ⟨okB,f2k,⟨by omega,by omega⟩,⟨by omega,by omega⟩,xB⟩
 have yA:=(gB _ (by omega)).trans xA
 have l1:=jag (enc:=jaz) (l:=f.values)
 have l2:=jag (enc:=ja3) (l:=f.blocks)
 have hmk:=j0h (e:=107) (size:=2) (bytes:=16) (z:=[.int .i64 0,.int .i64 0]) (m:=f.values.length) okA (by omega) (by omega)
 rw[eB] at hmk
 rw[nA] at hmk I
 simp(disch:=first|omega|rfl) only[go_sem,eA,xA,l1,hmk,yA,l2]
 refine qgs hl hp f.blocks [] rfl I (fun hj x2 x3 x4 x5 x6 x7 x8 x9 x10 x11 x12 x13 x14 x15 x17 x18 x19 x20 x21 x23 J=>?_)
 simp(disch:=first|omega|rfl) only[go_sem]
 have hsl:(je1 f).length=f.values.length:=by unfold je1;rw[qba,f2k]
 have hne':je1 f≠[]:=fun e=>by
  rw[e] at hsl
  exact hne (f1n hsl.symm)
 have s1:Sl hj 107 2 true ES (.slice (h.next+1) 0 (je1 f).length (je1 f).length true 2) (je1 f) [h.next+1] :=
  .inr ⟨hne',h.next+1,(je1 f).map ji9,[],rfl,J.xA,qqt _,rfl⟩
 rw[hsl] at s1
 exact⟨2,jaa.2 ⟨_,s1.frz (enc:=ji9) (d:=1) (fun row a ms e=>by
  obtain⟨rfl,_⟩:=e
  rfl) (fun _=>rfl),rfl⟩⟩
end Go.Proofs.YtdbklpgagdbpiaaDoor.Ev
