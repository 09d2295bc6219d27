/- Graphs of functions built of pieces: each is a row of forks and loops. No program in sight. -/
import Derived.Test.YtaljcpoopmedmaaGb
import Derived.Test.YtaljcpoopmedmaaSl
namespace Go.Proofs.Ytaljcpoopmedmaa.Ms
set_option linter.all false
def qf4 (b:Blk):List Nat:=b.edges.map (·.block)
def grL (l:List Blk):List (List Nat):=l.map qf4
theorem qf5 (l:List Blk) (k:Nat) (x:Ins):grL (jat l k x)=grL l:=by
 unfold grL jat
 apply List.ext_getElem?
 intro i
 rw [List.getElem?_map,List.getElem?_map,List.getElem?_modify]
 cases l[i]? with
 | none=>rfl
 | some b=>by_cases h:k=i<;>simp [h,qf4]
theorem qas (l:List Blk) (k to:Nat) (args:List Nat):grL (l.modify k (fun b=>{ b with edges:=b.edges++[(⟨to,args⟩:Edg)] }))=(grL l).modify k (·++[to]):=by
 unfold grL
 apply List.ext_getElem?
 intro i
 rw [List.getElem?_map,List.getElem?_modify,List.getElem?_modify,List.getElem?_map]
 cases l[i]? with
 | none=>rfl
 | some b=>by_cases h:k=i<;>simp [h,qf4]
theorem jzc (w:Ms) (p:Pc):(jay w p).2.blocks=w.blocks/\(jay w p).2.cur=w.cur:=by
 have hd:∀ (flags uses d i:Nat) (x:Iw×Nat×Ms),(jdu p flags uses d i x).2.2.blocks=x.2.2.blocks/\(jdu p flags uses d i x).2.2.cur=x.2.2.cur:=by
  intro flags uses d
  induction d with
  | zero=>exact fun i x=>⟨rfl,rfl⟩
  | succ d ih =>
   intro i x
   have e:(jew p flags uses i x).2.2.blocks=x.2.2.blocks/\(jew p flags uses i x).2.2.cur=x.2.2.cur:=by
    unfold jew;simp only;split<;>exact ⟨rfl,rfl⟩
   exact ⟨(ih (i+1) (jew p flags uses i x)).1.trans e.1,(ih (i+1) (jew p flags uses i x)).2.trans e.2⟩
 unfold jay
 exact hd _ _ _ _ _
theorem jhg (w:Ms) (p:Pc):grL (jch w p).blocks=grL w.blocks/\(jch w p).cur=w.cur:=by
 have h:=jzc w p
 unfold jch
 simp only [h.1,h.2]
 exact ⟨qf5 _ _ _,trivial⟩
theorem jgy (w:Ms) (cls:Nat) (p:Pc):grL (jaf w cls p).2.blocks=grL w.blocks/\(jaf w cls p).2.cur=w.cur:=by
 unfold jaf
 split
 ·exact ⟨rfl,rfl⟩
 ·exact jhg w _
theorem jm7 (w:Ms) (cs:List Nat):grL (jag w cs).blocks=grL w.blocks++[[]]:=by
 unfold grL jag;simp [qf4]
theorem jl1 (w:Ms) (k to:Nat) (args:List Nat):grL (jaw w k to args).blocks=(grL w.blocks).modify k (·++[to]):=qas _ _ _ _
theorem qcu (p:Pc) (cls before e k:Nat) (lay:Bool) (w:Ms):grL (jhl p cls before e k lay w).2.blocks=(grL w.blocks).modify k (·++[e]):=by
 unfold jhl
 simp only
 rw [jl1,(jgy _ _ _).1,(jgy _ _ _).1]
 cases lay with
 | true=>simp only [if_true];rw [(jhg _ _).1]
 | false=>rfl
theorem jdv (l:List Blk):(grL l).length=l.length:=List.length_map _
theorem jkk (w:Ms) (p:Pc):(jch w p).blocks.length=w.blocks.length:=by rw [←jdv,(jhg w p).1,jdv]
theorem jp2 (w:Ms) (cls:Nat) (p:Pc):(jaf w cls p).2.blocks.length=w.blocks.length:=by rw [←jdv,(jgy w cls p).1,jdv]
theorem jjj {α:Type} {l r:List α} {k:Nat} {f:α->α} (h:k<l.length):(l++r).modify k f=l.modify k f++r:=by
 apply List.ext_getElem?
 intro i
 rw [List.getElem?_modify]
 rcases Nat.lt_or_ge i l.length with h1 | h1
 ·rw [List.getElem?_append_left h1,List.getElem?_append_left (by rw [List.length_modify];exact h1),List.getElem?_modify]
 ·rw [List.getElem?_append_right h1,List.getElem?_append_right (by rw [List.length_modify];exact h1),List.length_modify]
  have:¬ k=i:=by omega
  cases r[i - l.length]?<;>simp [this]
theorem jei {α:Type} {l r:List α} {k:Nat} {f:α->α}:(l++r).modify (l.length+k) f=l++r.modify k f:=by
 apply List.ext_getElem?
 intro i
 rw [List.getElem?_modify]
 rcases Nat.lt_or_ge i l.length with h1 | h1
 ·rw [List.getElem?_append_left h1,List.getElem?_append_left h1]
  have:¬ l.length+k=i:=by omega
  cases l[i]?<;>simp [this]
 ·rw [List.getElem?_append_right h1,List.getElem?_append_right h1,List.getElem?_modify]
  by_cases h2:k=i - l.length
  ·have:l.length+(i - l.length)=i:=by omega
   subst h2
   cases r[i - l.length]?<;>simp [this]
  ·have:¬ l.length+k=i:=by omega
   cases r[i - l.length]?<;>simp [this,h2]
structure Gok (w:Ms) (s:List Bool):Prop where
 g:grL w.blocks=gS s
 cur:w.cur+1=w.blocks.length
theorem j7y (s:List Bool) (b:Bool):gS (s++[b])=j26 (gS s) b:=by unfold gS;rw [List.foldl_append];rfl
theorem j1p:∀ (s:List Bool),(gS s).length=1+3*s.length:=fun s=>by
 have h:∀ (s:List Bool) (g:List (List Nat)),(s.foldl j26 g).length=g.length+3*s.length:=by
  intro s
  induction s with
  | nil=>intro g;simp
  | cons b s ih =>
   intro g
   rw [List.foldl_cons,ih]
   unfold j26
   cases b<;>simp<;>omega
 exact h s [[]]
theorem Gok.fork {w:Ms} {s:List Bool} (k:Gok w s) (p:Pc):Gok (jex w p) (s++[false]):=by
 have hl:(gS s).length=w.blocks.length:=by rw [←k.g,jdv]
 have hc:=k.cur
 refine ⟨?_,?_⟩
 ·unfold jex
  simp only [qcu,jl1,jm7,jkk,(jhg w p).1,(jhg w p).2,k.g]
  rw [j7y]
  unfold j26
  simp only
  rw [hl]
  rw [List.append_assoc,List.append_assoc]
  have e1:w.cur=w.blocks.length - 1:=by omega
  rw [jjj (by omega),jjj (by rw [List.length_modify];omega)]
  have e2:((gS s).modify w.cur (·++[w.blocks.length])).modify w.cur (·++[w.blocks.length+1])=(gS s).modify (w.blocks.length - 1) (·++[w.blocks.length,w.blocks.length+1]):=by
   rw [e1]
   apply List.ext_getElem?
   intro i
   simp only [List.getElem?_modify]
   cases (gS s)[i]? with
   | none=>rfl
   | some x=>by_cases h:w.blocks.length - 1=i<;>simp [h]
  rw [e2]
  have hl2:((gS s).modify (w.blocks.length - 1) (·++[w.blocks.length,w.blocks.length+1])).length=w.blocks.length:=by rw [List.length_modify];exact hl
  generalize (gS s).modify (w.blocks.length - 1) (·++[w.blocks.length,w.blocks.length+1])=g at *
  have e3:=jei (l:=g) (r:=[[],[],[]]) (k:=0) (f:=(·++[w.blocks.length+2]))
  have e4:=jei (l:=g) (r:=[[w.blocks.length+2],[],[]]) (k:=1) (f:=(·++[w.blocks.length+2]))
  rw [hl2] at e3 e4
  rw [Nat.add_zero] at e3
  refine (congrArg (fun l=>List.modify l (w.blocks.length+1) (·++[w.blocks.length+2])) e3).trans ?_
  exact e4
 ·have h:(jex w p).blocks.length=w.blocks.length+3:=by
   rw [←jdv]
   unfold jex
   simp only [qcu,jl1,jm7,(jhg w p).1,List.length_modify,List.length_append,jdv,List.length_cons,List.length_nil]
  rw [h]
  unfold jex
  simp only [jkk]
theorem Gok.loop {w:Ms} {s:List Bool} (k:Gok w s) (p:Pc):Gok (jfo w p) (s++[true]):=by
 have hl:(gS s).length=w.blocks.length:=by rw [←k.g,jdv]
 have hc:=k.cur
 have hb:∀ (u:Ms) (cs:List Nat),(jag u cs).blocks.length=u.blocks.length+1:=fun u cs=>by simp [jag]
 have he:∀ (u:Ms) (k to:Nat) (a:List Nat),(jaw u k to a).blocks.length=u.blocks.length:=fun u k to a=>by simp [jaw]
 have hbc:∀ (u:Ms) (cs:List Nat),(jag u cs).cur=u.cur:=fun u cs=>rfl
 refine ⟨?_,?_⟩
 ·unfold jfo
  simp only [jl1,(jgy _ _ _).1,(jhg _ _).1,jm7,jp2,jkk,hb,he,hbc,(jgy _ _ _).2,(jhg _ _).2,k.g]
  rw [j7y]
  unfold j26
  simp only
  rw [hl]
  have e1:w.cur=w.blocks.length - 1:=by omega
  rw [jjj (l:=gS s) (r:=[[]]) (k:=w.cur) (by omega),e1]
  have hl2:((gS s).modify (w.blocks.length - 1) (·++[w.blocks.length])).length=w.blocks.length:=by rw [List.length_modify];exact hl
  generalize (gS s).modify (w.blocks.length - 1) (·++[w.blocks.length])=g at *
  rw [List.append_assoc,List.append_assoc]
  have e3:=jei (l:=g) (r:=[[],[],[]]) (k:=0) (f:=(·++[w.blocks.length+1]))
  have e4:=jei (l:=g) (r:=[[w.blocks.length+1],[],[]]) (k:=0) (f:=(·++[w.blocks.length+1+1]))
  have e5:=jei (l:=g) (r:=[[w.blocks.length+1,w.blocks.length+2],[],[]]) (k:=1) (f:=(·++[w.blocks.length]))
  rw [hl2] at e3 e4 e5
  rw [Nat.add_zero] at e3 e4
  refine (congrArg (fun l=>List.modify (List.modify l w.blocks.length (·++[w.blocks.length+1+1])) (w.blocks.length+1) (·++[w.blocks.length])) e3).trans ?_
  refine (congrArg (fun l=>List.modify l (w.blocks.length+1) (·++[w.blocks.length])) e4).trans ?_
  exact e5
 ·have h:(jfo w p).blocks.length=w.blocks.length+3:=by
   rw [←jdv]
   unfold jfo
   simp only [jl1,(jgy _ _ _).1,(jhg _ _).1,jm7,List.length_modify,List.length_append,jdv,List.length_cons,List.length_nil]
  rw [h]
  unfold jfo
  simp only [jl1,jp2,jkk,hb,he]
inductive Dom (idom:List Int) (a:Nat):Int->Prop
 | refl:Dom idom a a
 | step {b:Nat} {c:Int}:idom[b]?=some c->Dom idom a c->Dom idom a b
theorem Dom.app {idom r:List Int} {a:Nat} {b:Int} (h:Dom idom a b):Dom (idom++r) a b:=by
 induction h with
 | refl=>exact .refl
 | @step b c h1 _ ih =>
  refine .step (c:=c) ?_ ih
  rw [List.getElem?_append_left]
  ·exact h1
  ·rcases Nat.lt_or_ge b idom.length with h | h
   ·exact h
   ·rw [List.getElem?_eq_none h] at h1;cases h1
def jzd (l:List Blk) (v b:Nat) (n:Int):Prop:=∃ x,l[b]?=some x/\((n=-1/\v∈x.params)∨∃ (i:Nat) (y:Ins),n=(i:Int)/\x.instrs[i]?=some y/\v∈jcg y)
def juk (idom:List Int) (l:List Blk) (v k i:Nat):Prop:=∃ b n,jzd l v b n/\((b=k/\n<(i:Int))∨(b≠k/\Dom idom b k))
def Ext (l l':List Blk):Prop:=∀ (k:Nat) (b:Blk),l[k]?=some b->∃ b',l'[k]?=some b'/\b'.params=b.params/\∃ r,b'.instrs=b.instrs++r
theorem Ext.refl (l:List Blk):Ext l l:=fun k b h=>⟨b,h,rfl,[],by simp⟩
theorem Ext.trans {a b c:List Blk} (x:Ext a b) (y:Ext b c):Ext a c:=fun k t h=>by
 obtain ⟨t1,h1,e1,r1,f1⟩:=x k t h
 obtain ⟨t2,h2,e2,r2,f2⟩:=y k t1 h1
 exact ⟨t2,h2,e2.trans e1,r1++r2,by rw [f2,f1,List.append_assoc]⟩
theorem j7z {α:Type} {l r:List α} {i:Nat} {x:α} (h:l[i]?=some x):(l++r)[i]?=some x:=by
 rw [List.getElem?_append_left]
 ·exact h
 ·rcases Nat.lt_or_ge i l.length with h1 | h1
  ·exact h1
  ·rw [List.getElem?_eq_none h1] at h;cases h
theorem jzd.ext {l l':List Blk} (e:Ext l l') {v b:Nat} {n:Int} (h:jzd l v b n):jzd l' v b n:=by
 obtain ⟨x,h1,h2⟩:=h
 obtain ⟨x',h3,h4,r,h5⟩:=e b x h1
 refine ⟨x',h3,?_⟩
 rcases h2 with ⟨h2,h6⟩ | ⟨i,y,h2,h6,h7⟩
 ·exact .inl ⟨h2,by rw [h4];exact h6⟩
 ·exact .inr ⟨i,y,h2,by rw [h5];exact j7z h6,h7⟩
theorem juk.ext {idom:List Int} {l l':List Blk} (e:Ext l l') {v k i:Nat} (h:juk idom l v k i):juk idom l' v k i:=by
 obtain ⟨b,n,h1,h2⟩:=h
 exact ⟨b,n,h1.ext e,h2⟩
theorem juk.le {idom:List Int} {l:List Blk} {v k i j:Nat} (h:juk idom l v k i) (hij:i<=j):juk idom l v k j:=by
 obtain ⟨b,n,h1,h2⟩:=h
 exact ⟨b,n,h1,h2.imp (fun h=>⟨h.1,by omega⟩) id⟩
theorem juk.app {idom r:List Int} {l:List Blk} {v k i:Nat} (h:juk idom l v k i):juk (idom++r) l v k i:=by
 obtain ⟨b,n,h1,h2⟩:=h
 exact ⟨b,n,h1,h2.imp id (fun h=>⟨h.1,h.2.app⟩)⟩
def KnW (idom:List Int) (l:List Blk) (cur v:Nat):Prop:=∃ b n,jzd l v b n/\Dom idom b cur
theorem KnW.ext {idom:List Int} {l l':List Blk} (e:Ext l l') {c v:Nat} (h:KnW idom l c v):KnW idom l' c v:=by
 obtain ⟨b,n,h1,h2⟩:=h
 exact ⟨b,n,h1.ext e,h2⟩
theorem KnW.down {idom:List Int} {l:List Blk} {c d v:Nat} (h:KnW idom l c v) (hd:idom[d]?=some (c:Int)):KnW idom l d v:=by
 obtain ⟨b,n,h1,h2⟩:=h
 exact ⟨b,n,h1,.step hd h2⟩
theorem KnW.at {idom:List Int} {l:List Blk} {c v:Nat} (h:KnW idom l c v) {x:Blk} (hx:l[c]?=some x):juk idom l v c x.instrs.length:=by
 obtain ⟨b,n,h1,h2⟩:=h
 refine ⟨b,n,h1,?_⟩
 by_cases e:b=c
 ·left
  refine ⟨e,?_⟩
  subst e
  obtain ⟨y,h3,h4⟩:=h1
  rw [hx] at h3
  cases h3
  rcases h4 with ⟨h5,_⟩ | ⟨i,z,h5,h6,_⟩
  ·omega
  ·have:i<x.instrs.length:=by
    rcases Nat.lt_or_ge i x.instrs.length with h | h
    ·exact h
    ·rw [List.getElem?_eq_none h] at h6;cases h6
   omega
 ·exact .inr ⟨e,h2⟩
structure Kok (idom:List Int) (w:Ms):Prop where
 kn:∀ v∈w.known,KnW idom w.blocks w.cur v
 us:∀ (k i:Nat) (b:Blk) (x:Ins) (o:Opd),w.blocks[k]?=some b->b.instrs[i]?=some x->o∈x.ops->o.kind=1->juk idom w.blocks o.value k i
 ed:∀ (k:Nat) (b:Blk) (e:Edg) (v:Nat),w.blocks[k]?=some b->e∈b.edges->v∈e.args->juk idom w.blocks v k b.instrs.length
theorem Kok.app {idom r:List Int} {w:Ms} (k:Kok idom w):Kok (idom++r) w :=
 ⟨fun v hv=>(k.kn v hv).imp fun b ⟨n,h1,h2⟩=>⟨n,h1,h2.app⟩,fun a i b x o h1 h2 h3 h4=>(k.us a i b x o h1 h2 h3 h4).app,fun a b e v h1 h2 h3=>(k.ed a b e v h1 h2 h3).app⟩
theorem Kok.set {idom:List Int} {w:Ms} (k:Kok idom w) {c:Nat} {kn:List Nat} (h:∀ v∈kn,KnW idom w.blocks c v):Kok idom { w with cur:=c,known:=kn }:=⟨h,k.us,k.ed⟩
theorem qf6 {l:List Blk} (k:Nat) (x:Ins):Ext l (jat l k x):=fun j b h=>by
 unfold jat
 rw [List.getElem?_modify,h]
 by_cases e:k=j
 ·exact ⟨{ b with instrs:=b.instrs++[x] },by simp [e],rfl,[x],rfl⟩
 ·exact ⟨b,by simp [e],rfl,[],by simp⟩
theorem qat {l:List Blk} (k:Nat) (f:List Edg->List Edg):Ext l (l.modify k (fun b=>{ b with edges:=f b.edges })):=fun j b h=>by
 rw [List.getElem?_modify,h]
 by_cases e:k=j
 ·exact ⟨{ b with edges:=f b.edges },by simp [e],rfl,[],by simp⟩
 ·exact ⟨b,by simp [e],rfl,[],by simp⟩
theorem j70 {l:List Blk} (b:Blk):Ext l (l++[b]):=fun j x h=>⟨x,j7z h,rfl,[],by simp⟩
theorem Kok.lay {idom:List Int} {w:Ms} (k:Kok idom w) (v:Vok w) (p:Pc):Kok idom (jch w p)/\Ext w.blocks (jch w p).blocks:=by
 obtain ⟨cs,h1,h2,h3,h4,h5,h6,h7⟩:=jwh v.mm v.cls v.kn p
 have hcur:=v.cur
 obtain ⟨c,hc⟩:∃ c,w.blocks[w.cur]?=some c:=⟨_,List.getElem?_eq_getElem hcur⟩
 unfold jch
 simp only [h3]
 obtain ⟨x,hx⟩:∃ x,(jay w p).1=x:=⟨_,rfl⟩
 rw [hx] at h5 h7 ⊢
 have ex:Ext w.blocks (jat w.blocks w.cur x):=qf6 _ _
 have hnew:(jat w.blocks w.cur x)[w.cur]?=some { c with instrs:=c.instrs++[x] }:=by
  unfold jat;rw [List.getElem?_modify,hc];simp
 have back:∀ (j:Nat) (b:Blk),(jat w.blocks w.cur x)[j]?=some b->(j≠w.cur/\w.blocks[j]?=some b)∨(j=w.cur/\b={ c with instrs:=c.instrs++[x] }):=fun j b hb=>by
  by_cases e:j=w.cur
  ·right;subst e;rw [hnew] at hb;exact ⟨rfl,(Option.some.inj hb).symm⟩
  ·left
   refine ⟨e,?_⟩
   unfold jat at hb
   rw [List.getElem?_modify] at hb
   have e':¬ w.cur=j:=fun h=>e h.symm
   cases h:w.blocks[j]? with
   | none=>rw [h] at hb;cases hb
   | some y=>rw [h] at hb;simpa [e'] using hb
 refine ⟨⟨fun u hu=>?_,fun j i b y o hb hy ho hk=>?_,fun j b e u hb he hu=>?_⟩,ex⟩
 ·simp only at hu ⊢
  rcases List.mem_append.1 hu with hu | hu
  ·exact (k.kn u hu).ext ex
  ·exact ⟨w.cur,c.instrs.length,⟨_,hnew,.inr ⟨c.instrs.length,x,rfl,by simp,hu⟩⟩,.refl⟩
 ·simp only at hb ⊢
  rcases back j b hb with ⟨_,hb⟩ | ⟨rfl,rfl⟩
  ·exact (k.us j i b y o hb hy ho hk).ext ex
  ·simp only at hy
   rcases jf8 hy with ⟨_,hy⟩ | ⟨rfl,rfl⟩
   ·exact (k.us _ i c y o hc hy ho hk).ext ex
   ·exact ((k.kn _ (h7 o ho hk)).at hc).ext ex
 ·simp only at hb ⊢
  rcases back j b hb with ⟨_,hb⟩ | ⟨rfl,rfl⟩
  ·exact (k.ed j b e u hb he hu).ext ex
  ·exact ((k.ed _ c e u hc he hu).ext ex).le (by simp)
theorem Kok.block {idom:List Int} {w:Ms} (k:Kok idom w) (cs:List Nat):Kok idom (jag w cs)/\Ext w.blocks (jag w cs).blocks:=by
 have ex:Ext w.blocks (jag w cs).blocks:=j70 _
 have back:∀ (j:Nat) (b:Blk),(jag w cs).blocks[j]?=some b->w.blocks[j]?=some b∨(b.instrs=[]/\b.edges=[]):=fun j b hb=>by
  rcases jf8 hb with ⟨_,h⟩ | ⟨_,rfl⟩
  ·exact .inl h
  ·exact .inr ⟨rfl,rfl⟩
 refine ⟨⟨fun u hu=>(k.kn u hu).ext ex,fun j i b y o hb hy ho hk=>?_,fun j b e u hb he hu=>?_⟩,ex⟩
 ·rcases back j b hb with hb | ⟨hb,_⟩
  ·exact (k.us j i b y o hb hy ho hk).ext ex
  ·rw [hb] at hy;simp at hy
 ·rcases back j b hb with hb | ⟨_,hb⟩
  ·exact (k.ed j b e u hb he hu).ext ex
  ·rw [hb] at he;cases he
theorem Kok.edge {idom:List Int} {w:Ms} (k:Kok idom w) {j to:Nat} {args:List Nat} (hj:j<w.blocks.length) (ha:args=[]∨j=w.cur) (hk:∀ u∈args,KnW idom w.blocks j u):Kok idom (jaw w j to args)/\Ext w.blocks (jaw w j to args).blocks:=by
 obtain ⟨c,hc⟩:∃ c,w.blocks[j]?=some c:=⟨_,List.getElem?_eq_getElem hj⟩
 have ex:Ext w.blocks (jaw w j to args).blocks:=qat j (fun l=>l++[(⟨to,args⟩:Edg)])
 have back:∀ (i:Nat) (b:Blk),(jaw w j to args).blocks[i]?=some b->∃ b',w.blocks[i]?=some b'/\b.instrs=b'.instrs/\∀ e∈b.edges,e∈b'.edges∨(i=j/\e=⟨to,args⟩):=fun i b hb=>by
  unfold jaw at hb
  simp only at hb
  rw [List.getElem?_modify] at hb
  cases h:w.blocks[i]? with
  | none=>rw [h] at hb;cases hb
  | some y =>
   rw [h] at hb
   by_cases e:j=i
   ·simp only [Option.map_eq_map,Option.map_some,if_pos e,Option.some.injEq] at hb
    refine ⟨y,rfl,by rw [←hb],fun e' he=>?_⟩
    rw [←hb] at he
    rcases List.mem_append.1 he with he | he
    ·exact .inl he
    ·exact .inr ⟨e.symm,List.mem_singleton.1 he⟩
   ·simp only [Option.map_eq_map,Option.map_some,if_neg e,Option.some.injEq] at hb
    exact ⟨y,rfl,by rw [←hb],fun e' he=>.inl (hb▸he)⟩
 refine ⟨⟨fun u hu=>(k.kn u hu).ext ex,fun i n b y o hb hy ho hk=>?_,fun i b e u hb he hu=>?_⟩,ex⟩
 ·obtain ⟨b',h1,h2,_⟩:=back i b hb
  exact (k.us i n b' y o h1 (h2▸hy) ho hk).ext ex
 ·obtain ⟨b',h1,h2,h3⟩:=back i b hb
  rw [h2]
  rcases h3 e he with h4 | ⟨rfl,rfl⟩
  ·exact (k.ed i b' e u h1 h4 hu).ext ex
  ·exact ((hk u hu).at h1).ext ex
theorem Kok.newest {idom:List Int} {w:Ms} (k:Kok idom w) (v:Vok w) {cls:Nat} (hc:cls<2) (p:Pc):Kok idom (jaf w cls p).2/\Ext w.blocks (jaf w cls p).2.blocks:=by
 unfold jaf
 split
 ·exact ⟨k,Ext.refl _⟩
 ·exact k.lay v _
section
variable {w:Ms} {nv nb s:Nat} {L E:Nat->Nat} {idom:List Int}
theorem KnW.all {l l':List Blk} (e:Ext l l') {c d:Nat} {kn:List Nat} (h:∀ u∈kn,KnW idom l c u) (hd:idom[d]?=some (c:Int)):∀ u∈kn,KnW idom l' d u:=fun u hu=>((h u hu).ext e).down hd
theorem Kok.setk (k:Kok idom w) {kn:List Nat} (h:∀ v∈kn,KnW idom w.blocks w.cur v):Kok idom { w with known:=kn }:=⟨h,k.us,k.ed⟩
theorem qcv (b:Bd w nv nb s L E) (kk:Kok idom w) {cls:Nat} (hc:cls<2) (p:Pc) {e k:Nat} (lay:Bool) (hk:k<nb) (he:1<=e) (ht:Tg w e [cls,0]) (hE:E k=0) {c:Nat} (hd:idom[k]?=some (c:Int)) (hkn:∀ u∈w.known,KnW idom w.blocks c u) :
 Kok idom (jhl p cls w.known.length e k lay w).2/\(jhl p cls w.known.length e k lay w).2.known=w.known/\Ext w.blocks (jhl p cls w.known.length e k lay w).2.blocks/\(jhl p cls w.known.length e k lay w).2.cur=k:=by
 have b0:Bd { w with cur:=k } nv nb s L E:=b.set (kn:=w.known) hk b.v.kn
 have k0:Kok idom { w with cur:=k }:=kk.set (kn:=w.known) (KnW.all (Ext.refl _) hkn hd)
 obtain ⟨q,hq⟩:∃ q:Pc,(if lay then { { p with a:=inc p.a } with op:=inc p.op } else { p with a:=inc p.a })=q:=⟨_,rfl⟩
 have h1:∃ w1,(if lay then jch { w with cur:=k } q else { w with cur:=k })=w1/\Bd w1 (nv+2) nb (s+1) (up L k) E/\Gr w w1/\w1.cur=k/\(∃ r,w1.known=w.known++r)/\Kok idom w1/\Ext w.blocks w1.blocks:=by
  cases lay with
  | true =>
   obtain ⟨a1,a2,a3,a4,r,a5⟩:=b0.lay q
   obtain ⟨c1,c2⟩:=k0.lay b0.v q
   exact ⟨_,rfl,a1,(Gr.set w k w.known).trans a2,a3,⟨r,a5⟩,c1,c2⟩
  | false=>exact ⟨_,rfl,b0.le (by omega) (by omega) (fun j=>by unfold up;omega),Gr.set w k w.known,rfl,⟨[],by simp⟩,k0,Ext.refl _⟩
 obtain ⟨w1,e1,b1,g1,c1,⟨r1,k1⟩,o1,x1⟩:=h1
 obtain ⟨b2,g2,c2,l2,d2,r2,k2⟩:=b1.newest hc q
 obtain ⟨o2,x2⟩:=o1.newest b1.v hc q
 have m2:=(jhc b1.v hc q).2.2.2.2.2.2.2.2.1
 obtain ⟨b3,g3,c3,l3,d3,r3,k3⟩:=b2.newest (cls:=0) (by omega) q
 obtain ⟨o3,x3⟩:=o2.newest b2.v (cls:=0) (by omega) q
 have m3:=(jhc b2.v (cls:=0) (by omega) q).2.2.2.2.2.2.2.2.1
 have c4:(jaf (jaf w1 cls q).2 0 q).2.cur=k:=c3.trans (c2.trans c1)
 have kv:KnW idom (jaf (jaf w1 cls q).2 0 q).2.blocks k (jaf w1 cls q).1:=by
  have:=o3.kn (jaf w1 cls q).1 (by rw [k3];exact List.mem_append_left _ m2)
  rwa [c4] at this
 have kz:KnW idom (jaf (jaf w1 cls q).2 0 q).2.blocks k (jaf (jaf w1 cls q).2 0 q).1:=by
  have:=o3.kn _ m3
  rwa [c4] at this
 obtain ⟨o4,x4⟩:=o3.edge (j:=k) (to:=e) (args:=[(jaf w1 cls q).1,(jaf (jaf w1 cls q).2 0 q).1]) (by rw [b3.nb];exact hk) (.inr c4.symm) (fun u hu=>by
  simp only [List.mem_cons,List.not_mem_nil,or_false] at hu
  rcases hu with rfl | rfl<;>assumption)
 have eq:(jhl p cls w.known.length e k lay w).2={ (jaw (jaf (jaf w1 cls q).2 0 q).2 k e [(jaf w1 cls q).1,(jaf (jaf w1 cls q).2 0 q).1]) with known:=(jaw (jaf (jaf w1 cls q).2 0 q).2 k e [(jaf w1 cls q).1,(jaf (jaf w1 cls q).2 0 q).1]).known.take w.known.length }:=by
  unfold jhl
  simp only [hq,e1]
 have xx:=((x1.trans x2).trans x3).trans x4
 have hkw:(jaw (jaf (jaf w1 cls q).2 0 q).2 k e [(jaf w1 cls q).1,(jaf (jaf w1 cls q).2 0 q).1]).known.take w.known.length=w.known:=by
  simp only [jaw,k3,k2,k1,List.append_assoc,List.take_left]
 rw [eq,hkw]
 refine ⟨?_,rfl,xx,c4⟩
 have hcur:(jaw (jaf (jaf w1 cls q).2 0 q).2 k e [(jaf w1 cls q).1,(jaf (jaf w1 cls q).2 0 q).1]).cur=k:=c4
 exact o4.setk (fun u hu=>by rw [hcur];exact KnW.all xx hkn hd u hu)
theorem qf7 (b:Bd w nv nb s L E) (kk:Kok idom w) (h0:E w.cur=0) (p:Pc) (i1:idom[nb]?=some (w.cur:Int)) (i2:idom[nb+1]?=some (w.cur:Int)) (i3:idom[nb+2]?=some (w.cur:Int)):Kok idom (jex w p):=by
 have hc:pk p.c 2<2:=pkl (by omega)
 obtain ⟨w1,e1⟩:∃ w1,jch w p=w1:=⟨_,rfl⟩
 obtain ⟨b1,g1,c1,n1,r1,k1⟩:=b.lay p
 obtain ⟨o1,x1⟩:=kk.lay b.v p
 rw [e1] at b1 g1 c1 n1 k1 o1 x1
 have hcur:w.cur<nb:=by rw [←b.nb];exact b.v.cur
 obtain ⟨w4,e4⟩:∃ w4,jag (jag (jag w1 []) []) [pk p.c 2,0]=w4:=⟨_,rfl⟩
 obtain ⟨b2,g2,t2⟩:=b1.block (cs:=[]) (by simp) (by simp)
 obtain ⟨b3,g3,t3⟩:=b2.block (cs:=[]) (by simp) (by simp)
 obtain ⟨b4,g4,t4⟩:=b3.block (cs:=[pk p.c 2,0]) (by simp) (fun c h=>by
  simp only [List.mem_cons,List.not_mem_nil,or_false] at h;omega)
 obtain ⟨o2,x2⟩:=o1.block []
 obtain ⟨o3,x3⟩:=o2.block []
 obtain ⟨o4,x4⟩:=o3.block [pk p.c 2,0]
 have kn4:w4.known=w1.known:=by rw [←e4];rfl
 have cu4:w4.cur=w.cur:=by rw [←e4];exact c1
 have end4:w4.blocks[nb+2]?=some ⟨List.range' (jag (jag w1 []) []).values.length 2,[],[]⟩:=by
  rw [←e4]
  unfold jag
  simp only
  rw [List.getElem?_append_right (by simp [b1.nb])]
  simp [b1.nb]
 rw [e4] at b4 g4 t4 o4 x4
 have g14:=(g2.trans g3).trans g4
 have ta:Tg w4 nb []:=(t2.gr g3).gr g4
 have tb:Tg w4 (nb+1) []:=t3.gr g4
 obtain ⟨b5,g5⟩:=b4.edge (k:=w.cur) (to:=nb) (args:=[]) (by omega) (by omega) ta rfl (by simp) (.inl h0)
 obtain ⟨o5,x5⟩:=o4.edge (j:=w.cur) (to:=nb) (args:=[]) (by rw [b4.nb];omega) (.inl rfl) (by simp)
 obtain ⟨b6,g6⟩:=b5.edge (k:=w.cur) (to:=nb+1) (args:=[]) (by omega) (by omega) (tb.gr g5) rfl (by simp) (.inr (by
  have:=(g14.trans g5).len w.cur;omega))
 obtain ⟨o6,x6⟩:=o5.edge (j:=w.cur) (to:=nb+1) (args:=[]) (by rw [b5.nb];omega) (.inl rfl) (by simp)
 obtain ⟨w6,e6⟩:∃ w6,jaw (jaw w4 w.cur nb []) w.cur (nb+1) []=w6:=⟨_,rfl⟩
 have kn6:w6.known=w1.known:=by rw [←e6];exact kn4
 have cu6:w6.cur=w.cur:=by rw [←e6];exact cu4
 rw [e6] at b6 g6 o6 x6
 have t6:Tg w6 (nb+2) [pk p.c 2,0]:=(t4.gr g5).gr g6
 have z1:up (up E w.cur) w.cur nb=0:=by rw [jfm (by omega),jfm (by omega)];exact (b.e0 (Nat.le_refl _)).1
 have hkn6:∀ u∈w6.known,KnW idom w6.blocks w.cur u:=fun u hu=>by have:=o6.kn u hu;rwa [cu6] at this
 obtain ⟨b7,g7,r7,k7⟩:=b6.way hc p w1.known.length (e:=nb+2) (k:=nb) true (by omega) (by omega) t6 z1
 obtain ⟨o7,kn7,x7,cu7⟩:=qcv b6 o6 hc p (e:=nb+2) (k:=nb) true (by omega) (by omega) t6 z1 i1 hkn6
 rw [kn6] at o7 kn7 x7 cu7
 obtain ⟨x,ex⟩:∃ x,jhl p (pk p.c 2) w1.known.length (nb+2) nb true w6=x:=⟨_,rfl⟩
 rw [ex] at b7 g7 k7 o7 kn7 x7 cu7
 have z2:up (up (up E w.cur) w.cur) nb (nb+1)=0:=by rw [jfm (by omega),jfm (by omega),jfm (by omega)];exact (b.e0 (by omega)).1
 have hkn7:∀ u∈x.2.known,KnW idom x.2.blocks w.cur u:=fun u hu=>(hkn6 u (by rw [kn6];exact kn7▸hu)).ext x7
 obtain ⟨o8,kn8,x8,cu8⟩:=qcv b7 o7 hc x.1 (e:=nb+2) (k:=nb+1) (decide (pk p.flags 2=1)) (by omega) (by omega) (t6.gr g7) z2 i2 hkn7
 rw [kn7] at o8 kn8 x8 cu8
 obtain ⟨y,ey⟩:∃ y,jhl x.1 (pk p.c 2) w1.known.length (nb+2) (nb+1) (decide (pk p.flags 2=1)) x.2=y:=⟨_,rfl⟩
 rw [ey] at o8 kn8 x8 cu8
 have eq:jex w p={ y.2 with cur:=nb+2,known:=y.2.known++(y.2.blocks.getD (nb+2) jha).params }:=by
  unfold jex
  simp only [e1,c1,b1.nb,e4,e6,ex,ey]
  rfl
 rw [eq]
 obtain ⟨t,ht,hp,_⟩:=(((x5.trans x6).trans x7).trans x8) _ _ end4
 refine o8.set (fun u hu=>?_)
 rcases List.mem_append.1 hu with hu | hu
 ·exact ((hkn7 u (by rw [kn7];exact kn8▸hu)).ext x8).down i3
 ·rw [List.getD_eq_getElem?_getD,ht] at hu
  exact ⟨nb+2,-1,⟨t,ht,.inl ⟨rfl,hu⟩⟩,.refl⟩
end
section
variable {w:Ms} {nv nb s:Nat} {L E:Nat->Nat} {idom:List Int}
theorem qf8 (b:Bd w nv nb s L E) (kk:Kok idom w) (h0:E w.cur=0) (p:Pc) (i1:idom[nb]?=some (w.cur:Int)) (i2:idom[nb+1]?=some (nb:Int)) (i3:idom[nb+1+1]?=some (nb:Int)):Kok idom (jfo w p):=by
 have hc:pk p.c 2<2:=pkl (by omega)
 have hcur:w.cur<nb:=by rw [←b.nb];exact b.v.cur
 obtain ⟨b1,g1,c1,l1,d1,r1,k1⟩:=b.newest hc p
 obtain ⟨o1,x1⟩:=kk.newest b.v hc p
 have m1:=(jhc b.v hc p).2.2.2.2.2.2.2.2.1
 obtain ⟨v,ev⟩:∃ v,jaf w (pk p.c 2) p=v:=⟨_,rfl⟩
 rw [ev] at b1 g1 c1 l1 d1 k1 o1 x1 m1
 obtain ⟨b2,g2,c2,l2,d2,r2,k2⟩:=b1.newest (cls:=0) (by omega) p
 obtain ⟨o2,x2⟩:=o1.newest b1.v (cls:=0) (by omega) p
 have m2:=(jhc b1.v (cls:=0) (by omega) p).2.2.2.2.2.2.2.2.1
 obtain ⟨u,eu⟩:∃ u,jaf v.2 0 p=u:=⟨_,rfl⟩
 rw [eu] at b2 g2 c2 l2 d2 k2 o2 x2 m2
 rw [c1] at b2 c2
 obtain ⟨b3,g3,t3⟩:=b2.block (cs:=[pk p.c 2,0]) (by simp) (fun c h=>by
  simp only [List.mem_cons,List.not_mem_nil,or_false] at h;omega)
 obtain ⟨o3,x3⟩:=o2.block [pk p.c 2,0]
 obtain ⟨w3,e3⟩:∃ w3,jag u.2 [pk p.c 2,0]=w3:=⟨_,rfl⟩
 have c3:(jag u.2 [pk p.c 2,0]).cur=w.cur:=c2
 have k3:(jag u.2 [pk p.c 2,0]).known=u.2.known:=rfl
 have end3:w3.blocks[nb]?=some ⟨List.range' u.2.values.length 2,[],[]⟩:=by
  rw [←e3]
  unfold jag
  simp only
  rw [List.getElem?_append_right (by simp [b2.nb])]
  simp [b2.nb]
 rw [e3] at b3 g3 t3 c3 o3 x3 k3
 have lv:v.1<w3.values.length:=Nat.lt_of_lt_of_le (Nat.lt_of_lt_of_le l1 g2.vlen) g3.vlen
 have lu:u.1<w3.values.length:=Nat.lt_of_lt_of_le l2 g3.vlen
 have dv:cl w3.values v.1=pk p.c 2:=((g3.cl (Nat.lt_of_lt_of_le l1 g2.vlen)).trans (g2.cl l1)).trans d1
 have du:cl w3.values u.1=0:=(g3.cl l2).trans d2
 have kv3:∀ y∈w3.known,KnW idom w3.blocks w.cur y:=fun y hy=>by have:=o3.kn y hy;rwa [c3] at this
 obtain ⟨b4,g4⟩:=b3.edge (k:=w.cur) (to:=nb) (args:=[v.1,u.1]) (by omega) (by omega) t3 (by simp [dv,du]) (fun x hx=>by
  simp only [List.mem_cons,List.not_mem_nil,or_false] at hx
  rcases hx with rfl | rfl<;>assumption) (.inl h0)
 obtain ⟨o4,x4⟩:=o3.edge (j:=w.cur) (to:=nb) (args:=[v.1,u.1]) (by rw [b3.nb];omega) (.inr c3.symm) (fun y hy=>by
  simp only [List.mem_cons,List.not_mem_nil,or_false] at hy
  rcases hy with rfl | rfl
  ·exact kv3 _ (by rw [k3,k2];exact List.mem_append_left _ m1)
  ·exact kv3 _ (by rw [k3];exact m2))
 obtain ⟨w4,e4⟩:∃ w4,jaw w3 w.cur nb [v.1,u.1]=w4:=⟨_,rfl⟩
 have k4:w4.known=w3.known:=by rw [←e4];rfl
 rw [e4] at b4 g4 o4 x4
 have t4:=t3.gr g4
 obtain ⟨y4,hy4,hp4,_⟩:=x4 _ _ end3
 have kn5:∀ x∈w4.known++(w4.blocks.getD nb jha).params,x<w4.values.length:=fun x hx=>by
  rcases List.mem_append.1 hx with hx | hx
  ·exact b4.v.kn x hx
  ·exact t4.params x hx
 have kw5:∀ x∈w4.known++(w4.blocks.getD nb jha).params,KnW idom w4.blocks nb x:=fun x hx=>by
  rcases List.mem_append.1 hx with hx | hx
  ·exact ((kv3 x (k4▸hx)).ext x4).down i1
  ·rw [List.getD_eq_getElem?_getD,hy4] at hx
   exact ⟨nb,-1,⟨y4,hy4,.inl ⟨rfl,hx⟩⟩,.refl⟩
 have b5:=b4.set (c:=nb) (by omega) kn5
 have o5:=o4.set (c:=nb) kw5
 have g5:=Gr.set w4 nb (w4.known++(w4.blocks.getD nb jha).params)
 obtain ⟨w5,e5⟩:∃ w5,({ w4 with cur:=nb,known:=w4.known++(w4.blocks.getD nb jha).params }:Ms)=w5:=⟨_,rfl⟩
 have c5:w5.cur=nb:=by rw [←e5]
 rw [e5] at b5 g5 o5
 obtain ⟨b6,g6,c6,n6,r6,k6⟩:=b5.lay { p with flags:=odd p.flags }
 obtain ⟨o6,x6⟩:=o5.lay b5.v { p with flags:=odd p.flags }
 obtain ⟨w6,e6⟩:∃ w6,jch w5 { p with flags:=odd p.flags }=w6:=⟨_,rfl⟩
 rw [e6] at b6 g6 c6 n6 k6 o6 x6
 rw [c5] at b6 n6 c6
 have kv6:∀ y∈w6.known,KnW idom w6.blocks nb y:=fun y hy=>by have:=o6.kn y hy;rwa [c6] at this
 obtain ⟨b7,g7,t7⟩:=b6.block (cs:=[]) (by simp) (by simp)
 obtain ⟨b8,g8,t8⟩:=b7.block (cs:=[]) (by simp) (by simp)
 obtain ⟨o7,x7⟩:=o6.block []
 obtain ⟨o8,x8⟩:=o7.block []
 obtain ⟨w8,e8⟩:∃ w8,jag (jag w6 []) []=w8:=⟨_,rfl⟩
 have k8:w8.known=w6.known:=by rw [←e8];rfl
 rw [e8] at b8 g8 t8 o8 x8
 have z4:up E w.cur nb=0:=by rw [jfm (by omega)];exact (b.e0 (Nat.le_refl _)).1
 obtain ⟨b9,g9⟩:=b8.edge (k:=nb) (to:=nb+1) (args:=[]) (by omega) (by omega) (t7.gr g8) rfl (by simp) (.inl z4)
 obtain ⟨o9,x9⟩:=o8.edge (j:=nb) (to:=nb+1) (args:=[]) (by rw [b8.nb];omega) (.inl rfl) (by simp)
 obtain ⟨b10,g10⟩:=b9.edge (k:=nb) (to:=nb+1+1) (args:=[]) (by omega) (by omega) (t8.gr g9) rfl (by simp) (.inr (by
  have:=((g7.trans g8).trans g9).len nb;omega))
 obtain ⟨o10,x10⟩:=o9.edge (j:=nb) (to:=nb+1+1) (args:=[]) (by rw [b9.nb];omega) (.inl rfl) (by simp)
 obtain ⟨w10,e10⟩:∃ w10,jaw (jaw w8 nb (nb+1) []) nb (nb+1+1) []=w10:=⟨_,rfl⟩
 have k10:w10.known=w6.known:=by rw [←e10];exact k8
 rw [e10] at b10 g10 o10 x10
 obtain ⟨q,eq⟩:∃ q:Pc,(⟨p.kind,inc p.op,inc p.a,p.b,p.c,p.limits,odd p.flags⟩:Pc)=q:=⟨_,rfl⟩
 have x610:=((x7.trans x8).trans x9).trans x10
 have b11:=b10.set (c:=nb+1) (kn:=w10.known) (by omega) b10.v.kn
 have o11:=o10.set (c:=nb+1) (kn:=w10.known) (fun y hy=>KnW.all x610 kv6 i2 y (k10▸hy))
 have g11:=Gr.set w10 (nb+1) w10.known
 obtain ⟨w11,e11⟩:∃ w11,({ w10 with cur:=nb+1,known:=w10.known }:Ms)=w11:=⟨_,rfl⟩
 have c11:w11.cur=nb+1:=by rw [←e11]
 have k11:w11.known=w6.known:=by rw [←e11];exact k10
 have x11:Ext w10.blocks w11.blocks:=by rw [←e11];exact Ext.refl _
 rw [e11] at b11 g11 o11
 obtain ⟨b12,g12,c12,n12,r12,k12⟩:=b11.lay q
 obtain ⟨o12,x12⟩:=o11.lay b11.v q
 obtain ⟨w12,e12⟩:∃ w12,jch w11 q=w12:=⟨_,rfl⟩
 rw [e12] at b12 g12 c12 n12 k12 o12 x12
 rw [c11] at b12 c12
 obtain ⟨b13,g13,c13,l13,d13,r13,k13⟩:=b12.newest hc q
 obtain ⟨o13,x13⟩:=o12.newest b12.v hc q
 have m13:=(jhc b12.v hc q).2.2.2.2.2.2.2.2.1
 obtain ⟨x,ex⟩:∃ x,jaf w12 (pk p.c 2) q=x:=⟨_,rfl⟩
 rw [ex] at b13 g13 c13 l13 d13 k13 o13 x13 m13
 rw [c12] at b13 c13
 obtain ⟨b14,g14,c14,l14,d14,r14,k14⟩:=b13.newest (cls:=0) (by omega) q
 obtain ⟨o14,x14⟩:=o13.newest b13.v (cls:=0) (by omega) q
 have m14:=(jhc b13.v (cls:=0) (by omega) q).2.2.2.2.2.2.2.2.1
 obtain ⟨y,ey⟩:∃ y,jaf x.2 0 q=y:=⟨_,rfl⟩
 rw [ey] at b14 g14 c14 l14 d14 k14 o14 x14 m14
 rw [c13] at b14 c14
 have kv14:∀ z∈y.2.known,KnW idom y.2.blocks (nb+1) z:=fun z hz=>by have:=o14.kn z hz;rwa [c14] at this
 obtain ⟨o15,x15⟩:=o14.edge (j:=nb+1) (to:=nb) (args:=[x.1,y.1]) (by rw [b14.nb];omega) (.inr c14.symm) (fun z hz=>by
  simp only [List.mem_cons,List.not_mem_nil,or_false] at hz
  rcases hz with rfl | rfl
  ·exact kv14 _ (by rw [k14];exact List.mem_append_left _ m13)
  ·exact kv14 _ m14)
 obtain ⟨w15,e15⟩:∃ w15,jaw y.2 (nb+1) nb [x.1,y.1]=w15:=⟨_,rfl⟩
 have k15:w15.known.take w6.known.length=w6.known:=by
  rw [←e15]
  simp only [jaw,k14,k13,k12,k11,List.append_assoc,List.take_left]
 rw [e15] at o15 x15
 have res:jfo w p={ w15 with cur:=nb+1+1,known:=w15.known.take w6.known.length }:=by
  unfold jfo
  simp only [ev,eu,b2.nb,e3,c3,e4]
  rw [show (w4.blocks.getD nb ⟨[],[],[]⟩).params=(w4.blocks.getD nb jha).params from rfl]
  simp only [e5,e6,b6.nb,e8,e10,e11,e12,eq,ex,ey,e15]
 rw [res,k15]
 exact o15.set (KnW.all ((((((x610).trans x11).trans x12).trans x13).trans x14).trans x15) kv6 i3)
end
theorem jp3:∀ (s:List Bool) (c:Nat),(jkj s c).length=3*s.length
 | [],c=>rfl
 | false::s,c=>by simp [jkj,jp3 s];omega
 | true::s,c=>by simp [jkj,jp3 s];omega
theorem jp4:∀ (s t:List Bool) (c:Nat),jkj (s++t) c=jkj s c++jkj t (c+3*s.length)
 | [],t,c=>by simp [jkj]
 | false::s,t,c=>by
  simp only [List.cons_append,jkj,jp4 s t,List.length_cons]
  rw [show c+3+3*s.length=c+3*(s.length+1) by omega]
 | true::s,t,c=>by
  simp only [List.cons_append,jkj,jp4 s t,List.length_cons]
  rw [show c+3+3*s.length=c+3*(s.length+1) by omega]
theorem j71 (s:List Bool):(jl0 s).length=1+3*s.length:=by unfold jl0;rw [List.length_cons,jp3];omega
theorem jrp (s:List Bool) (b:Bool):jl0 (s++[b])=jl0 s++jkj [b] (3*s.length):=by
 unfold jl0;rw [jp4,Nat.zero_add];rfl
theorem qau {α:Type} {l r:List α} {n i:Nat} (h:l.length=n):(l++r)[n+i]?=r[i]?:=by
 rw [List.getElem?_append_right (by omega),h,Nat.add_sub_cancel_left]
structure Pk3 (w:Ms) (j:Nat) (s:List Bool):Prop where
 p:Pok w j
 g:Gok w s
 k:Kok (jl0 s) w
theorem Pk3.piece {w:Ms} {j:Nat} {s:List Bool} (k:Pk3 w j s) (p:Pc):∃ t,Pk3 (jbe w p) (j+1) t:=by
 have hp:=k.p.piece p
 have b:=k.p.bd
 have hl:(gS s).length=w.blocks.length:=by rw [←k.g.g,jdv]
 rw [j1p] at hl
 have hc:=k.g.cur
 have hi:=j71 s
 have at0:∀ (b:Bool) (i:Nat),(jl0 (s++[b]))[w.blocks.length+i]?=(jkj [b] (3*s.length))[i]?:=fun b i=>by rw [jrp];exact qau (by omega)
 have e3:3*s.length=w.cur:=by omega
 have k0:∀ b,Kok (jl0 (s++[b])) w:=fun b=>by rw [jrp];exact k.k.app
 have key:∃ t,Gok (jbe w p) t/\Kok (jl0 t) (jbe w p):=by
  unfold jbe
  simp only
  split
  ·refine ⟨_,k.g.fork p,?_⟩
   have f0:=at0 false 0
   have f1:=at0 false 1
   have f2:=at0 false 2
   rw [e3] at f0 f1 f2
   exact qf7 b (k0 false) k.p.e0 p f0 f1 f2
  ·split
   ·refine ⟨_,k.g.loop p,?_⟩
    have f0:=at0 true 0
    have f1:=at0 true 1
    have f2:=at0 true 2
    rw [e3] at f0 f1 f2
    have en:w.cur+1=w.blocks.length:=hc
    exact qf8 b (k0 true) k.p.e0 p f0 (f1.trans (by rw [←en];rfl)) (f2.trans (by rw [←en];rfl))
   ·split
    ·exact ⟨s,⟨(jhg w p).1.trans k.g.g,by rw [(jhg w p).2,jkk];exact k.g.cur⟩,(k.k.lay k.p.v p).1⟩
    ·exact ⟨s,k.g,k.k⟩
 obtain ⟨t,h1,h2⟩:=key
 exact ⟨t,hp,h1,h2⟩
theorem Pk3.pieces:∀ (l:List Pc) {w:Ms} {j:Nat} {s:List Bool},Pk3 w j s->∃ t,Pk3 (l.foldl jbe w) (j+l.length) t
 | [],w,j,s,k=>⟨s,k⟩
 | p::l,w,j,s,k=>by
  obtain ⟨t,h⟩:=k.piece p
  obtain ⟨u,hu⟩:=Pk3.pieces l h
  refine ⟨u,?_⟩
  rw [List.foldl_cons,List.length_cons,show j+(l.length+1)=j+1+l.length by omega]
  exact hu
theorem j27 {m:Nat×Nat} (m1:2<=m.1/\m.1<=10) (m2:2<=m.2/\m.2<=10) (l:List Pc):∃ s,s.length<=5/\grL (jdl m l).blocks=gS s /\
 (∀ (k i:Nat) (b:Blk) (x:Ins) (o:Opd),(jdl m l).blocks[k]?=some b->b.instrs[i]?=some x->o∈x.ops->o.kind=1->juk (jl0 s) (jdl m l).blocks o.value k i) /\
 (∀ (k:Nat) (b:Blk) (e:Edg) (v:Nat),(jdl m l).blocks[k]?=some b->e∈b.edges->v∈e.args->juk (jl0 s) (jdl m l).blocks v k b.instrs.length):=by
 have k0:Pk3 (jbk m) 0 []:=⟨jia m1 m2,⟨rfl,rfl⟩,fun v hv=>by simp [jbk] at hv,fun k i b x o hb hx=>by
  unfold jbk at hb
  cases k with
  | zero=>simp at hb;rw [←hb] at hx;simp at hx
  | succ k=>simp at hb,fun k b e v hb he=>by
  unfold jbk at hb
  cases k with
  | zero=>simp at hb;rw [←hb] at he;simp at he
  | succ k=>simp at hb⟩
 obtain ⟨s,k⟩:=Pk3.pieces (l.take 24) k0
 have o:=(k.k.lay k.p.v ⟨0,0,1,0,0,0,3⟩).1
 have hg:grL (jdl m l).blocks=gS s:=(jhg _ _).1.trans k.g.g
 refine ⟨s,?_,hg,o.us,o.ed⟩
 have h1:=j1p s
 rw [←hg,jdv] at h1
 have h2:=(jt6 m1 m2 l).1.nb
 omega
end Go.Proofs.Ytaljcpoopmedmaa.Ms
namespace Go.Proofs.Ytaljcpoopmedmaa.Ev
open Go Go.RowKit
set_option linter.all false
set_option maxRecDepth 100000
def jwn:IC:=(.draw [((qA (.load 2 true (.g 20))),(.some [])),((qA (.call 38 [(.l 0)])),(.some [])),((qP (.len (.l 0))),.none),((qP (.fld 1 (.g 20))),.none),((qA (.load 1 false (.l 0))),(.some [2,3])),((qP (.len (.l 0))),.none),((qQ 16 (.bin .lt (.l 3) (.l 0))),.none)])
def j72:IC:=(.seq (.block 3 (.seq (.region [(qP (.ixs 2 (.g 7) (.g 10))),(qA (.load 2 true (.l 0))),(qB 5 (.new 51 [(.int .i64 0),.nilSlice])),(qA (.store 2 (.l 0) (.l 1)))]) (.seq (.region [(qP (.fld 2 (.g 11))),(qA (.load 1 false (.l 0))),(qP (.len (.l 0))),(qP (.bin .gt (.l 0) (qC 1))),(qP (.mv (.l 0))),(qR 0 true (.mv (.g 6))),(qR 1 true (.fld 0 (.g 5))),(qS 2 true (.load 1 false (.l 0))),(qR 3 true (.ixs 1 (.l 2) (.l 0))),(qS 4 true (.load 1 false (.l 0))),(qR 5 true (.len (.l 0))),(qR 6 true (.bin .gt (.l 0) (qC 1))),(qQ 4 (.pick (.l 7) (.l 0) (.c (.s (.bool false)))))]) (.cond (.g 4) (.seq (.region [(qQ 2 (.mv (qC 11)))]) .ret) .skip)))) (.region [(qP (.bin .add (.g 10) (qC 1))),(qQ 10 (.mv (.l 0)))]))
def j73:IC:=(.seq (.region [(qQ 8 (.bin .lt (.g 10) (.g 9)))]) (.seq (.cond (.g 8) .skip (.exit 2)) j72))
def j74:IC:=(.seq (.block 1 (.seq (.region [(qP (.ixs 3 (.g 12) (.g 15))),(qA (.load 3 true (.l 0))),(qB 11 (.new 36 [.nilSlice,.nilSlice,.nilSlice])),(qA (.store 3 (.l 0) (.l 1)))]) (.seq (.region [(qP (.fld 2 (.g 11))),(qB 7 (.load 1 false (.l 0))),(qQ 9 (.len (.l 0))),(qQ 10 (.mv (qC 0)))]) (.block 2 (.loop j73))))) (.region [(qP (.bin .add (.g 15) (qC 1))),(qQ 15 (.mv (.l 0)))]))
def j75:IC:=(.seq (.region [(qQ 13 (.bin .lt (.g 15) (.g 14)))]) (.seq (.cond (.g 13) .skip (.exit 0)) j74))
def j76:IC:=(.draw [((qA (.load 2 true (.g 20))),(.some [])),((qA (.load 2 true (.g 20))),(.some [0])),((qA (.load 2 true (.g 20))),(.some [0,1])),((qA (.call 38 [(.l 0)])),(.some [1,2])),((qA (.call 41 [(.l 2),(.l 0)])),(.some [3])),((qA (.call 40 [(.l 4),(.l 0)])),.none),((qQ 3 (.not (.l 0))),.none)])
def j77:IC:=(.seq (.region [(qQ 2 (.mv (qC 0)))]) .ret)
def j78:IC:=(.seq (.region [(qA (.load 2 true (.g 20))),(qA (.call 39 [(.l 0)])),(qQ 6 (.mv (.l 0)))]) (.seq (.seq (.region [(qP (.fld 1 (.g 20))),(qB 12 (.load 1 false (.l 0))),(qQ 14 (.len (.l 0))),(qQ 15 (.mv (qC 0)))]) (.block 0 (.loop j75))) (.seq (.seq j76 (.cond (.g 3) (.seq (.region [(qQ 2 (.mv (qC 10)))]) .ret) .skip)) j77)))
def jwo:IC:=(.seq (.seq jwn (.cond (.g 16) (.seq (.region [(qQ 2 (.mv (qC 16)))]) .ret) .skip)) j78)
def jul:IC:=(.seq (.region [(qB 20 (.box 26 (.g 0))),(qB 19 (.box 30 (.g 1))),(qQ 2 (.mv (qC 0)))]) (.seq (.seq (.region [(qA (.load 2 true (.g 20))),(qA (.load 2 true (.g 19))),(qA (.call 19 [(.l 1),(.l 0)])),(qQ 18 (.mv (.l 0)))]) (.seq (.region [(qP (.mv (.g 18))),(qQ 17 (.bin .ne (.l 0) (qC 0)))]) (.cond (.g 17) (.seq (.region [(qP (.mv (.g 18))),(qQ 2 (.mv (.l 0)))]) .ret) .skip))) jwo))
theorem j79:T 22=some (.mk jul 2 19 [(.tmp 2)]):=by kernel_rfl
open Go Go.RowKit Go.Proofs.Ytaljcpoopmedmaa.Ms
set_option maxHeartbeats 2000000
def qme (p:Nat×Int):List SV:=[si p.1,si p.2]
def fl2 (T:List (Nat×Int)):List SV:=(T.map qme).flatten
def spF (T:List (Nat×Int)) (l:List (Nat×(Nat×Int))):List (Nat×Int):=l.foldl (fun T e=>T.set e.1 e.2) T
def evP (b:Nat) (ps:List Nat):List (Nat×(Nat×Int)):=ps.map (fun v=>(v,(b,-1)))
def evO (b i:Nat) (ops:List Ms.Opd):List (Nat×(Nat×Int)):=(dfO ops).map (fun v=>(v,(b,(i:Int))))
def evI (b:Nat):Nat->List Ms.Ins->List (Nat×(Nat×Int))
 | _,[]=>[]
 | i,x::l=>evO b i x.ops++evI b (i+1) l
def evB (b:Nat) (x:Blk):List (Nat×(Nat×Int)):=evP b x.params++evI b 0 x.instrs
def evL:Nat->List Blk->List (Nat×(Nat×Int))
 | _,[]=>[]
 | k,x::l=>evB k x++evL (k+1) l
def jwp (f:Fc):List (Nat×Int):=spF (List.replicate f.values.length (0,0)) (evL 0 f.blocks)
structure SpI (hi:Hp) (f:Fc) (bF bA:Nat) (T:List (Nat×Int)):Prop where
 ok:Ok hi
 hs:T.length=f.values.length
 lt:bF<hi.next/\bA<hi.next
 pos:1<=bA/\bF≠bA
 xA:hi.get bA=some (.arr (fl2 T) 109)
section
variable {hi hj:Hp} {f:Fc} {bF bA:Nat} {T:List (Nat×Int)}
theorem SpI.keep (k:SpI hi f bF bA T) (ok:Ok hj) (hn:hi.next<=hj.next) (g:∀ n,n<hi.next->hj.get n=hi.get n):SpI hj f bF bA T :=
 ⟨ok,k.hs,⟨Nat.lt_of_lt_of_le k.lt.1 hn,Nat.lt_of_lt_of_le k.lt.2 hn⟩,k.pos,(g _ k.lt.2).trans k.xA⟩
end
end Go.Proofs.Ytaljcpoopmedmaa.Ev
