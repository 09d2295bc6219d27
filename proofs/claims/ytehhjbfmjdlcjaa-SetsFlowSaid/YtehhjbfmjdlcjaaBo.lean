/- What is needed at a block's beginning is made in a block that dominates it: nothing is needed at the first. -/
import Derived.Test.YtehhjbfmjdlcjaaBm
namespace Go.Proofs.Ytehhjbfmjdlcjaa.Ms
set_option linter.all false
set_option maxRecDepth 100000
open Go.Proofs.Ytehhjbfmjdlcjaa.Ev (FlOk)
variable {x:Int} {s:List Bool} {idom:List Int} {a b:Nat}
def qtp (idom:List Int) (a:Int):Nat->Int->Bool
 | 0,_=>false
 | n+1,b=>if a=b then true else if b<0 then false else if b.toNat<idom.length then qtp idom a n (idom.getD b.toNat 0) else false
theorem j3e:∀ (n:Nat) (b:Int),qtp idom a n b=true->Dom idom a b
 | 0,b,h=>by cases h
 | n+1,b,h=>by
  unfold qtp at h
  by_cases e:(a:Int)=b
  ·rw[←e];exact .refl
  ·rw[if_neg e] at h
   by_cases e2:b<0
   ·rw[if_pos e2] at h;cases h
   ·rw[if_neg e2] at h
    by_cases e3:b.toNat<idom.length
    ·rw[if_pos e3] at h
     obtain⟨m,rfl⟩:=Int.eq_ofNat_of_zero_le (show 0<=b by omega)
     have e4:((m:Nat):Int).toNat=m:=rfl
     rw[e4] at h e3
     refine .step (c:=idom.getD m 0) ?_ (j3e n _ h)
     rw[f0d,f0a e3];rfl
    ·rw[if_neg e3] at h;cases h
theorem Dom.trans {c:Int} (h1:Dom idom a b) (h2:Dom idom b c):Dom idom a c:=by
 induction h2 with
 | refl=>exact h1
 | step e _ ih=>exact .step e ih
theorem Dom.inv (h:Dom idom a x):x=a∨∃ (b:Nat) (c:Int),x=b/\idom[b]?=some c/\Dom idom a c:=by
 cases h with
 | refl=>exact .inl rfl
 | step e h=>exact .inr ⟨_,_,rfl,e,h⟩
theorem Dom.nonneg (h:Dom idom a x):0<=x:=by
 rcases h.inv with rfl | ⟨b,c,rfl,_⟩<;>omega
def qs5 (s:List Bool):Bool:=(List.range (gS s).length).all (fun(k:Nat)=>((gS s).getD k []).all (fun t=>qtp (jc5 s) ((jc5 s).getD t 0) ((jc5 s).length+1) k))
theorem qbe:(Go.Proofs.Ytehhjbfmjdlcjaa.Ev.shp 5).all qs5=true:=by kernel_rfl
theorem qea (hs:s.length<=5) {k t:Nat} {r:List Nat} (hr:(gS s)[k]?=some r) (ht:t∈r) (h:Dom (jc5 s) b t) (hne:b≠t):Dom (jc5 s) b k:=by
 rcases h.inv with e | ⟨t',c,e,h1,h2⟩
 ·exact absurd (Int.ofNat.inj e).symm hne
 ·obtain rfl:t=t':=Int.ofNat.inj e
  have hp:=Go.Proofs.Ytehhjbfmjdlcjaa.Ev.shp_all qbe hs
  unfold qs5 at hp
  have hk:=(f0q.1 hr).1
  have h3:=f2h.1 hp k (f2g.2 hk)
  rw[f0d,hr] at h3
  have h4:=f2h.1 h3 t ht
  rw[f0d,h1] at h4
  have hc:=h2.nonneg
  obtain⟨c',rfl⟩:=Int.eq_ofNat_of_zero_le hc
  exact h2.trans (j3e _ _ h4)
theorem jpy.made {l:List Blk} {v:Nat} {n:Int} {x:Blk} (h:jpy l v b n) (hx:l[b]?=some x):v∈jej x:=by
 obtain⟨y,h1,h2⟩:=h
 rw[hx] at h1;cases h1
 unfold jej
 rcases h2 with⟨_,h2⟩ | ⟨i,z,_,h3,h4⟩
 ·exact f1f _ h2
 ·exact f1a _ (List.mem_flatten.2 ⟨_,f1m.2 ⟨z,f0b h3,rfl⟩,h4⟩)
def RIn (s:List Bool) (bs:List Blk) (k u:Nat):Prop:=∃ b n,jpy bs u b n/\b≠k/\Dom (jc5 s) b k
def qw4 (s:List Bool) (bs:List Blk) (k u:Nat):Prop:=∃ b n,jpy bs u b n/\Dom (jc5 s) b k
theorem qs6 {m:Nat×Nat} {f:Fc} (o:FlOk m f s)
 (hu:∀ (k i:Nat) (b:Blk) (x:Ins) (p:Opd),f.blocks[k]?=some b->b.instrs[i]?=some x->p∈x.ops->p.kind=1->jpz (jc5 s) f.blocks p.value k i)
 (he:∀ (k:Nat) (b:Blk) (e:Edg) (v:Nat),f.blocks[k]?=some b->e∈b.edges->v∈e.args->jpz (jc5 s) f.blocks v k b.instrs.length) :
 Clo f.blocks (RIn s f.blocks) (qw4 s f.blocks) where
 out:=fun k b e u hb hm h=>by
  rcases h with h | ⟨d,n,h1,h2,h3⟩
  ·obtain⟨d,n,h1,h2⟩:=he k b e u hb hm h
   rcases h2 with⟨rfl,_⟩ | ⟨_,h2⟩
   ·exact⟨d,n,h1,.refl⟩
   ·exact⟨d,n,h1,h2⟩
  ·have hr:(gS s)[k]?=some (qdn b):=by rw[←o.hg];unfold grL;rw[f09,hb];rfl
   exact⟨d,n,h1,qea o.hs hr (f1m.2 ⟨e,hm,rfl⟩) h3 h2⟩
 inn:=fun k b u hb h hn=>by
  rcases h with⟨d,n,h1,h2⟩ | h
  ·exact⟨d,n,h1,fun e=>hn (h1.made (e▸hb)),h2⟩
  ·unfold j4t at h
   obtain⟨l,hl,hv⟩:=List.mem_flatten.1 h
   obtain⟨x,hx,rfl⟩:=f1m.1 hl
   unfold jps at hv
   obtain⟨p,hp,rfl⟩:=f1m.1 hv
   obtain⟨hp1,hp2⟩:=f11.1 hp
   obtain⟨i,hi⟩:=f2m hx
   obtain⟨d,n,h1,h2⟩:=hu k i b x p hb hi hp1 (of_decide_eq_true hp2)
   rcases h2 with⟨rfl,_⟩ | ⟨h2,h3⟩
   ·exact absurd (h1.made hb) hn
   ·exact⟨d,n,h1,h2,h3⟩
theorem j4s {bs:List Blk} {u:Nat}:¬ RIn s bs 0 u:=by
 rintro⟨b,n,h1,h2,h3⟩
 rcases h3.inv with e | ⟨t,c,e,h4,h5⟩
 ·exact h2 (Int.ofNat.inj e).symm
 ·have et:t=0:=(Int.ofNat.inj e).symm
  subst et
  have:c=-1:=by
   have h6:(jc5 s)[0]?=some (-1):=rfl
   rw[h6] at h4;cases h4;rfl
  subst this
  have:=h5.nonneg
  omega
end Go.Proofs.Ytehhjbfmjdlcjaa.Ms
namespace Go.Proofs.Ytehhjbfmjdlcjaa.Ev
open Go Go.RowKit Go.Proofs.Ytehhjbfmjdlcjaa.Ms
attribute [local go_sem] f0i f0r f0s decide_eq_true_eq decide_eq_false_iff_not f0f and_true true_and f0m f0o reduceCtorEq decide_true decide_false f00 f0v f0u f0l Option.some.injEq f0j not_true_eq_false not_false_eq_true Hp.next_push Hp.next_put f0t Int.reduceToNat Nat.reduceAdd Nat.reduceMul Nat.reduceEqDiff Int.reduceEq Int.reduceLT Int.reduceLE Int.reduceNeg Int.reduceAdd Int.reduceSub Int.reduceMul Int.reduceNe
attribute [local go_sem ↓] reduceIte
set_option linter.all false
set_option maxRecDepth 100000
set_option maxHeartbeats 4000000
variable {x0 x1 x2 x3 x17 x18 x19 x20 x21 x23 x24 x25:AV} {Q:Ex->St->Prop} {f:Fc} {N:Nat}
theorem qeb {m:Nat×Nat} (m1:2<=m.1/\m.1<=10) (m2:2<=m.2/\m.2<=10) (l:List Pc):∃ s,FlOk m (jd2 m l) s/\Clo (jd2 m l).blocks (RIn s (jd2 m l).blocks) (qw4 s (jd2 m l).blocks):=by
 obtain⟨k,kp,_⟩:=jt7 m1 m2 l
 obtain⟨s,h1,h2,h3,h4⟩:=jrs m1 m2 l
 obtain⟨_,⟨_,_,_,_,hv,_⟩,_⟩:=qap m1 m2 l
 have o:FlOk m (jd2 m l) s:=by
  refine⟨k,j2j kp,h1,h2,hv,⟨by have:=k.nb;omega,fun b hb=>by have:=k.blk b hb;omega,fun a i b x hb hx=>⟨(k.ins b (f0b hb) x (f0b hx)).nops,fun o ho hk=>jpz.kt kp (h3 a i b x o hb hx ho hk)⟩,fun a b e hb he=>⟨?_,fun v hv=>jpz.kt kp (h4 a b e v hb he hv)⟩⟩⟩
  obtain⟨_,_,t,h5,h6,_⟩:=k.edg b (f0b hb) e he
  have h7:=(k.blk t (f0b h5)).1
  have:=congrArg List.length h6
  simp only[f1d] at this
  omega
 exact⟨s,o,qs6 o h3 h4⟩
def eOp (ins:List (List Nat)) (n v:Nat) (w:Bool) (e:Ms.Edg):Bool:=w||jmg e.args v||jmg (jbh (ins.getD e.block []) n) v
theorem qs7 {ins:List (List Nat)} {n v:Nat} (hv:v<n):∀ (l:List Ms.Edg) (w:Bool),l.foldl (eOp ins n v) w=true↔(w=true∨∃ e∈l,v∈e.args∨jci (ins.getD e.block []) v=true)
 | [],w=>by simp
 | e::l,w=>by
  rw[f1r,qs7 hv l]
  unfold eOp
  rw[jm5 hv]
  simp only[f14,j3c,f0e,exists_eq_or_imp]
  constructor
  ·rintro(((h | h) | h) | h)
   ·exact .inl h
   ·exact .inr (.inl (.inl h))
   ·exact .inr (.inl (.inr h))
   ·exact .inr (.inr h)
  ·rintro(h | (h | h) | h)
   ·exact .inl (.inl (.inl h))
   ·exact .inl (.inl (.inr h))
   ·exact .inl (.inr h)
   ·exact .inr h
theorem qod {bs:List Ms.Blk} {ins outs:List (List Nat)} {k n v:Nat} {b:Ms.Blk} (fx:FxB bs ins outs k) (hb:bs[k]?=some b) (hv:v<n) :
 b.edges.foldl (eOp ins n v) false=jmg (jbh (outs.getD k []) n) v:=by
 rw[jm5 hv,f19,qs7 hv,(fx b hb).1 v]
 constructor
 ·rintro(h | h)
  ·cases h
  ·exact h
 ·exact .inr
theorem jxs (ws:List Nat) (n:Nat):(jbh ws n).length<=n:=by
 have:=f29 (jci ws) (List.range n)
 unfold jbh
 rwa [f3p] at this
theorem j0e {l:List (List Nat)} {n k:Nat} (h:k<l.length):(jcz n l)[k]?=some (jbh (l.getD k []) n):=by
 unfold jcz
 rw[f09,f0a h,f0d,f0a h];rfl
theorem qs8 {l:List Ms.Edg} {v nv sx:Nat} {ins outs:List (List Nat)} (hnv:nv<=10000) (hl:l.length<=1000) (he:∀ e∈l,e.args.length<=1000/\e.block<ins.length) {fw:Bool} {x4 x5 x13 x14 x15 x16:AV} :
 ∀ (d i:Nat) (_:i+d=l.length) {hi:Hp} (_:Ok hi) (_:sx<hi.next/\hi.get sx=some (.arr [jah jc8 (jcz nv ins),jah jc8 (jcz nv outs)] 52)) {w:Bool} (_:(l.drop i).foldl (eOp ins nv v) w=fw) {x7 x10:AV}
  (hQ:∀ hj x7 x10,Ok hj->hi.next<=hj.next->(∀ n,n<hi.next->hj.get n=hi.get n)->Q (.exit 4) (.mk [x0,x1,x2,x3,x4,x5,vi v,x7,vb fw,.s (jah jee l),x10,vi l.length,vi l.length,x13,x14,x15,x16,x17,x18,x19,x20,x21,.s (.ptr sx 0),x23,x24,x25] hj)),
  W FL2 jvc.loop (.mk [x0,x1,x2,x3,x4,x5,vi v,x7,vb w,.s (jah jee l),x10,vi l.length,vi i,x13,x14,x15,x16,x17,x18,x19,x20,x21,.s (.ptr sx 0),x23,x24,x25] hi) Q
 | 0,i,hd,hi,ok,hsx,w,hf,x7,x10,hQ=>by
  obtain rfl:i=l.length:=by omega
  rw[f2c] at hf
  have hf':w=fw:=hf
  subst hf'
  rw[jal]
  unfold jvc
  simp(disch:=first|omega|rfl|apply_rules[jaa,jab,jad]) only[go_sem,f0z]
  exact hQ hi _ _ ok (f0g _) (fun _ _=>rfl)
 | d+1,i,hd,hi,ok,⟨hs1,hs2⟩,w,hf,x7,x10,hQ=>by
  have hil:i<l.length:=by omega
  have hlt:(i:Int)<(l.length:Int):=by omega
  have hs:(i:Int)+1=((i+1:Nat):Int):=by omega
  obtain⟨e,hu⟩:∃ u,l[i]?=some u:=⟨_,f0a hil⟩
  obtain⟨he1,he2⟩:=he e (f0b hu)
  have hix:=jaj (enc:=jee) (size:=2) hu rfl
  have hxi:=jaj (enc:=jc8) (size:=1) (j0e (n:=nv) he2) rfl
  have hdr:l.drop i=e::l.drop (i+1):=by
   rw[f1e hil];congr 1;exact(f0q.1 hu).2
  rw[hdr,f1r] at hf
  unfold eOp at hf
  obtain⟨A,eA'⟩:∃ A,jmg e.args v=A:=⟨_,rfl⟩
  obtain⟨I,eI'⟩:∃ A,jmg (jbh (ins.getD e.block []) nv) v=A:=⟨_,rfl⟩
  rw[eA',eI'] at hf
  have hlw:=jxs (ins.getD e.block []) nv
  obtain⟨hA,eA,okA,nA,xA,gA⟩:=jbo ok [.int .i64 0,.nilSlice] (jee e) 56
  have hs3:=(gA _ hs1).trans hs2
  unfold jee at xA eA
  rw[jal]
  unfold jvc qa7
  cases w<;>cases A<;>cases I<;>simp(disch:=first|omega|rfl|apply_rules[jaa,jab,jad]) only[go_sem,jag,eq_true hlt,hix,jee,eA,xA,hs3,hxi,jc8,jls (show e.args.length<=10000 by omega),eA',jls (show(jbh (ins.getD e.block []) nv).length<=10000 by omega),eI',hs]<;>exact qs8 hnv hl he d (i+1) (by omega) okA ⟨by omega,hs3⟩ hf (fun hj x7 x10 o' n' g'=>hQ hj x7 x10 o' (by omega) (fun n hn=>(g' n (by omega)).trans (gA n hn)))
theorem qs9 {k bb sx:Nat} {b:Ms.Blk} {ins outs:List (List Nat)} (lv:LvOk f N) (hb:f.blocks[k]?=some b) (hli:ins.length=f.blocks.length) (hlo:outs.length=f.blocks.length) (fxb:FxB f.blocks ins outs k) :
 ∀ (d i:Nat) (_:i+d=f.values.length) {hi:Hp} (_:Ok hi) (_:bb<hi.next/\hi.get bb=some (.arr [jah jaq b.params,jah jc1 b.instrs,jah jee b.edges] 42)) (_:sx<hi.next/\hi.get sx=some (.arr [jah jc8 (jcz f.values.length ins),jah jc8 (jcz f.values.length outs)] 52)) {x4 x6 x7 x8 x9 x10 x11 x12 x14:AV}
  (hQ:∀ hj x4 x6 x7 x8 x9 x10 x11 x12 x14,Ok hj->hi.next<=hj.next->(∀ n,n<hi.next->hj.get n=hi.get n)->Q (.exit 2) (.mk [x0,x1,x2,x3,x4,vi k,x6,x7,x8,x9,x10,x11,x12,.s (.ptr bb 0),x14,vi f.values.length,vi f.values.length,x17,x18,x19,x20,x21,.s (.ptr sx 0),x23,x24,x25] hj)),
  W FL2 jvd.loop (.mk [x0,x1,x2,x3,x4,vi k,x6,x7,x8,x9,x10,x11,x12,.s (.ptr bb 0),x14,vi f.values.length,vi i,x17,x18,x19,x20,x21,.s (.ptr sx 0),x23,x24,x25] hi) Q
 | 0,i,hd,hi,ok,hbb,hsx,x4,x6,x7,x8,x9,x10,x11,x12,x14,hQ=>by
  obtain rfl:i=f.values.length:=by omega
  rw[jal]
  unfold jvd
  simp(disch:=first|omega|rfl|apply_rules[jaa,jab,jad]) only[go_sem,f0z]
  exact hQ hi _ _ _ _ _ _ _ _ _ ok (f0g _) (fun _ _=>rfl)
 | d+1,i,hd,hi,ok,⟨hb1,hb2⟩,⟨hs1,hs2⟩,x4,x6,x7,x8,x9,x10,x11,x12,x14,hQ=>by
  have hlt:(i:Int)<(f.values.length:Int):=by omega
  have hs:(i:Int)+1=((i+1:Nat):Int):=by omega
  have hkl:=(f0q.1 hb).1
  have hnv:=lv.nv
  obtain⟨p1,p2,p3,p4,p5,p6⟩:=lv.blk b (f0b hb)
  have hxo:=jaj (enc:=jc8) (size:=1) (j0e (n:=f.values.length) (show k<outs.length by omega)) rfl
  have hlw:=jxs (outs.getD k []) f.values.length
  have le:=jai (enc:=jee) (l:=b.edges)
  have law:=qod (v:=i) (n:=f.values.length) fxb hb (by omega)
  obtain⟨U,eU⟩:∃ U,jmg (jbh (outs.getD k []) f.values.length) i=U:=⟨_,rfl⟩
  rw[eU] at law
  rw[jal]
  unfold jvd qa8
  simp(disch:=first|omega|rfl|apply_rules[jaa,jab,jad]) only[go_sem,jag,eq_true hlt,hb2,le]
  refine qs8 (l:=b.edges) (v:=i) (ins:=ins) (outs:=outs) (nv:=f.values.length) (sx:=sx) hnv (by omega) (fun e he=>⟨by have:=(p6 e he).1;omega,by have:=(p6 e he).2.1;omega⟩) b.edges.length 0 (by omega) ok ⟨hs1,hs2⟩ law (fun hj x7 x10 oj nj gj=>?_)
  have hs3:=(gj sx hs1).trans hs2
  have hb3:=(gj bb hb1).trans hb2
  simp(disch:=first|omega|rfl|apply_rules[jaa,jab,jad]) only[go_sem,jag,hs3,hxo,jc8,jls (show(jbh (outs.getD k []) f.values.length).length<=10000 by omega),eU,hs,qbb,j3b]
  exact qs9 lv hb hli hlo fxb d (i+1) (by omega) oj ⟨by omega,hb3⟩ ⟨by omega,hs3⟩ (fun hk x4 x6 x7 x8 x9 x10 x11 x12 x14 o' n' g'=>hQ hk x4 x6 x7 x8 x9 x10 x11 x12 x14 o' (by omega) (fun n hn=>(g' n (by omega)).trans (gj n hn)))
theorem qta {fx sx:Nat} {ins outs:List (List Nat)} (lv:LvOk f N) (hli:ins.length=f.blocks.length) (hlo:outs.length=f.blocks.length) (hfx:∀ q,q<f.blocks.length->FxB f.blocks ins outs q) :
 ∀ (d i:Nat) (_:i+d=f.blocks.length) {hi:Hp} (_:Ok hi) (_:fx<hi.next/\hi.get fx=some (.arr [jah jaq f.values,jah ja1 f.blocks] 30)) (_:sx<hi.next/\hi.get sx=some (.arr [jah jc8 (jcz f.values.length ins),jah jc8 (jcz f.values.length outs)] 52)) {x4 x5 x6 x7 x8 x9 x10 x11 x12 x13 x14 x15 x16 x18:AV}
  (hQ:∀ hj x4 x5 x6 x7 x8 x9 x10 x11 x12 x13 x14 x15 x16 x18,Q (.exit 0) (.mk [x0,x1,x2,x3,x4,x5,x6,x7,x8,x9,x10,x11,x12,x13,x14,x15,x16,.s (jah ja1 f.blocks),x18,vi f.blocks.length,vi f.blocks.length,x21,.s (.ptr sx 0),x23,.s (.ptr fx 0),x25] hj)),
  W FL2 jve.loop (.mk [x0,x1,x2,x3,x4,x5,x6,x7,x8,x9,x10,x11,x12,x13,x14,x15,x16,.s (jah ja1 f.blocks),x18,vi f.blocks.length,vi i,x21,.s (.ptr sx 0),x23,.s (.ptr fx 0),x25] hi) Q
 | 0,i,hd,hi,ok,hff,hsx,x4,x5,x6,x7,x8,x9,x10,x11,x12,x13,x14,x15,x16,x18,hQ=>by
  obtain rfl:i=f.blocks.length:=by omega
  rw[jal]
  unfold jve
  simp(disch:=first|omega|rfl|apply_rules[jaa,jab,jad]) only[go_sem,f0z]
  exact hQ ..
 | d+1,i,hd,hi,ok,⟨hf1,hf2⟩,⟨hs1,hs2⟩,x4,x5,x6,x7,x8,x9,x10,x11,x12,x13,x14,x15,x16,x18,hQ=>by
  have hlt:(i:Int)<(f.blocks.length:Int):=by omega
  have hs:(i:Int)+1=((i+1:Nat):Int):=by omega
  obtain⟨b,hb⟩:∃ u,f.blocks[i]?=some u:=⟨_,f0a (by omega)⟩
  have hnb:=lv.nb
  have hnv:=lv.nv
  have hix:=jaj (enc:=ja1) (size:=3) hb rfl
  have lvv:=jai (enc:=jaq) (l:=f.values)
  obtain⟨hA,eA,okA,nA,xA,gA⟩:=jbo ok [.nilSlice,.nilSlice,.nilSlice] (ja1 b) 42
  have hf3:=(gA _ hf1).trans hf2
  have hs3:=(gA _ hs1).trans hs2
  unfold ja1 at xA eA
  rw[jal]
  unfold jve qa9
  simp(disch:=first|omega|rfl|apply_rules[jaa,jab,jad]) only[go_sem,jag,eq_true hlt,hix,ja1,eA,xA,hf3,lvv]
  refine qs9 lv hb hli hlo (hfx i (by omega)) f.values.length 0 (by omega) okA ⟨by omega,xA⟩ ⟨by omega,hs3⟩ (fun hj x4 x6 x7 x8 x9 x10 x11 x12 x14 oj nj gj=>?_)
  simp(disch:=first|omega|rfl|apply_rules[jaa,jab,jad]) only[go_sem,jag,hs]
  exact qta lv hli hlo hfx d (i+1) (by omega) oj ⟨by omega,(gj _ (by omega)).trans hf3⟩ ⟨by omega,(gj _ (by omega)).trans hs3⟩ hQ
theorem qoe {h:Hp} (ok:Ok h) {a b:Int} {l:List Pc} (ha:In6 a) (hb:In6 b) (pin:∀ q∈l,Pin q) {xl:SV} (lx:LstE jb3 7 xl l):WC FL2 4 [vi a,vi b,.s xl] h (fun v _=>v=.s (.bool true)):=by
 refine ja5 ((qd9 rfl rfl rfl rfl).trans (jqi rfl)) qwl rfl ?_
 unfold qgp
 obtain⟨m1,m2⟩:=j7r a b
 obtain⟨m,em⟩:∃ m,jqe a b=m:=⟨_,rfl⟩
 rw[em] at m1 m2
 obtain⟨s,o,clo⟩:=qeb m1 m2 l
 obtain⟨f,ef⟩:∃ f,jd2 m l=f:=⟨_,rfl⟩
 rw[ef] at o clo
 have hpos:=ok.pos
 have lv:=qob o.k o.hv
 have hnb:=lv.nb
 have hn1:=f1s.2 o.hne
 obtain⟨ins,outs,jj,hfx,hS⟩:=j3a o m1 m2
 have hfi:=(jj.lf _ _ clo).1
 have h00:jbh (ins.getD 0 []) f.values.length=[]:=by
  unfold jbh
  rw[List.filter_eq_nil_iff]
  intro u _ hu
  exact j4s (hfi 0 u hu)
 have hx0:jwg 1 (.s (jah jc8 (jcz f.values.length ins))) (.s (.int .i64 0))=some (.s (.cp (jc8 []))):=by
  have:=jaj (enc:=jc8) (size:=1) (j0e (l:=ins) (n:=f.values.length) (k:=0) (by rw[jj.li];omega)) rfl
  rw[h00] at this
  exact this
 obtain⟨hA,eA,okA,nA,xA,gA⟩:=jbo ok [.int .i64 0,.int .i64 0] [si m.1,si m.2] 25
 obtain⟨hB,eB,okB,nB,xB,gB⟩:=jbo okA [.nilSlice,.nilSlice] [jah jaq f.values,jah ja1 f.blocks] 30
 obtain⟨hC,eC,okC,nC,xC,gC⟩:=jbo okB [.nilSlice,.nilSlice] [jah jc8 (jcz f.values.length ins),jah jc8 (jcz f.values.length outs)] 52
 have yA:=(gB _ (by omega)).trans xA
 have zB:=(gC _ (by omega)).trans xB
 have nb2:hB.next=h.next+2:=by omega
 rw[nA] at eB xB zB
 rw[nb2] at eC xC
 have li:=jai (enc:=jc8) (l:=jcz f.values.length ins)
 have lo:=jai (enc:=jc8) (l:=jcz f.values.length outs)
 have lb:=jai (enc:=ja1) (l:=f.blocks)
 have e0:jah jaq []=.nilSlice:=rfl
 have hil:(jcz f.values.length ins).length=f.blocks.length:=by unfold jcz;rw[f1d];exact jj.li
 have hol:(jcz f.values.length outs).length=f.blocks.length:=by unfold jcz;rw[f1d];exact jj.lo
 have c1:(((jcz f.values.length ins).length:Int)≠(f.blocks.length:Int))=False:=eq_false (by omega)
 have c2:(((jcz f.values.length outs).length:Int)≠(f.blocks.length:Int))=False:=eq_false (by omega)
 simp(disch:=first|omega|rfl|apply_rules[jaa,jab,jad]) only[go_sem,jp4 ha hb,em,qoj,eA,nA,xA,j3d m1 m2 pin lx,ef,qeq,eB,yA,xB,hS,qd5,nb2,eC,zB,xC,li,lo,lb,c1,c2,hx0,jc8,e0,f0z]
 unfold qba
 simp(disch:=first|omega|rfl|apply_rules[jaa,jab,jad]) only[go_sem,zB,lb]
 refine qta lv jj.li jj.lo hfx f.blocks.length 0 (by omega) okC ⟨by omega,zB⟩ ⟨by omega,xC⟩ (fun hj x4 x5 x6 x7 x8 x9 x10 x11 x12 x13 x14 x15 x16 x18=>?_)
 simp(disch:=first|omega|rfl|apply_rules[jaa,jab,jad]) only[go_sem]
end Go.Proofs.Ytehhjbfmjdlcjaa.Ev
