/- Claims of a function that may be are apart. No program in sight. -/
import Derived.Test.YtalbjjoppndjjaaQf
namespace Go.Proofs.Ytalbjjoppndjjaa.Ev
open Go Go.RowKit Go.Proofs.Ytalbjjoppndjjaa.Ms
set_option linter.all false
variable {a b:Int} {g i:Nat} {xl:SV}
theorem qpx {m:Nat×Nat} (m1:2<=m.1/\m.1<=10) (m2:2<=m.2/\m.2<=10) (c:Nat):g2 m c<=10:=by unfold g2;split<;>omega
theorem qpy {m:Nat×Nat} {f:Fc} {x:Ms.Ins} (m1:2<=m.1/\m.1<=10) (m2:2<=m.2/\m.2<=10) (k:InsOk m f.values x):InC f x:=by
 have hn:=k.nops
 refine⟨⟨by omega,fun o ho=>⟨(k.opd o ho).val,?_⟩,fun o ho h5=>?_⟩,hn,k.nsp,fun r hr=>?_⟩
 .have q:=k.opd o ho
  have hl:=q.lim
  by_cases h4:o.limit=4
  .have:=q.fix h4;have:=qpx m1 m2 (cl f.values o.value);omega
  .by_cases h5:o.limit=5
   .obtain ⟨u,h6,_⟩:=k.reu o ho h5
    have:=(f0t.1 h6).1;omega
   .have:=q.zero (by omega);omega
 .obtain ⟨u,h6,_⟩:=k.reu o ho h5
  exact⟨u,h6⟩
 .obtain ⟨h1,h2⟩:=k.spo r hr
  have:=qpx m1 m2 r.1
  omega
theorem j2v {m:Nat×Nat} {f:Fc} (m1:2<=m.1/\m.1<=10) (m2:2<=m.2/\m.2<=10) (k:FcOk m f):BlC f :=
 ⟨k.nb.2,⟨by have:=k.nv;omega,k.cls⟩,fun b hb=>(k.blk b hb).2.1,fun b hb x hx=>qpy m1 m2 (k.ins b hb x hx)⟩
theorem C5.fields {x:C5} {c d e:Int} (h:x.l=[a,b,c,d,e]):x.a=a/\x.b=b/\x.c=c/\x.d=d/\x.e=e:=by
 unfold C5.l at h
 simpa using h
theorem j2w {e:Nat} {r:Nat×Nat} (he:e<=100000) (h1:r.1<=1000000) (h2:r.2<=1000000):(j2r e r).a=r.1/\(j2r e r).b=r.2/\(j2r e r).c=(e:Int)+1/\(j2r e r).d=(e:Int)+2/\(j2r e r).e=-1 :=
 C5.fields (C5.of_l (bd5 (c:=e+1) (d:=e+2) h1 h2 (by omega) (by omega) (by omega)))
theorem qtc {a n f t v:Nat} (h1:a<=1000000) (h2:n<=1000000) (h3:f<=1000000) (h4:t<=1000000) (h5:v<=1000000):(C5.of a n f t v).a=a/\(C5.of a n f t v).b=n/\(C5.of a n f t v).c=f/\(C5.of a n f t v).d=t/\(C5.of a n f t v).e=v :=
 C5.fields (C5.of_l (bd5 h1 h2 h3 h4 (by omega)))
def Ap (x y:C5):Prop:=¬ (x.a=y.a/\x.b=y.b)∨x.d<=y.c∨y.d<=x.c
theorem Ap.symm {x y:C5} (h:Ap x y):Ap y x:=by
 rcases h with h | h | h
 .exact .inl (fun e=>h ⟨e.1.symm,e.2.symm⟩)
 .exact .inr (.inr h)
 .exact .inr (.inl h)
theorem j95 (e:Nat) (o:Ms.Opd):e<=jdh e o/\jdh e o<toC e o/\toC e o<=e+2:=by
 unfold jdh toC
 split<;>split<;>omega
section
variable {m:Nat×Nat} {f:Fc} {x:Ms.Ins}
theorem ju5 (k:InC f x) (hv:f.values.length<=1000) (hc:∀ c∈f.values,c<2) {e:Nat} (he:e<=90000) {o:Ms.Opd} (ho:o∈x.ops) {c:C5} (h:c∈opC f.values x.ops e o):(jke x.ops o).limit=4/\c.a=cl f.values o.value/\c.b=(jke x.ops o).n/\c.c=jdh e o/\c.d=toC e o/\c.e=o.value:=by
 unfold opC at h
 split at h
 .rename_i h4
  obtain rfl:=f0i.1 h
  have:=j95 e o
  have h1:=jzr hc o.value
  have h2:=k.ops.srcn ho
  have h3:=(k.ops.val o ho).1
  exact⟨h4,qtc (by omega) (by omega) (by omega) (by omega) (by omega)⟩
 .simp at h
theorem qe1 (k:InC f x) (hv:f.values.length<=1000) (hc:∀ c∈f.values,c<2) {e:Nat} (he:e<=90000) {c:C5} (h:c∈j4g f.values x e):(e:Int)<=c.c/\c.c<c.d/\c.d<=(e:Int)+2:=by
 unfold j4g at h
 rcases f0e.1 h with h | h
 .obtain ⟨r,hr,rfl⟩:=f1q.1 h
  obtain⟨r1,r2⟩:=k.spo r hr
  obtain⟨_,_,h3,h4,_⟩:=j2w (e:=e) (r:=r) (by omega) (by omega) (by omega)
  rw[h3,h4];omega
 .obtain ⟨o,ho,h⟩:=List.mem_flatMap.1 h
  obtain⟨_,_,_,h3,h4,_⟩:=ju5 k hv hc he ho h
  have:=j95 e o
  rw[h3,h4];omega
theorem jxo {l:List (Nat×Nat)} (h:∀ (i:Nat) (q r:Nat×Nat),l[i]?=some q->l[i+1]?=some r->q.1<r.1∨(q.1=r.1/\q.2<r.2)):l.Pairwise (fun q r=>q.1<r.1∨(q.1=r.1/\q.2<r.2)):=by
 induction l with
 | nil=>exact .nil
 | cons a l ih =>
  have ih':=ih (fun i q r h1 h2=>h (i+1) q r (by simpa using h1) (by simpa using h2))
  refine List.pairwise_cons.2 ⟨fun b hb=>?_,ih'⟩
  cases l with
  | nil=>simp at hb
  | cons c l =>
   have h0:=h 0 a c rfl rfl
   rcases f0h.1 hb with rfl | hb
   .exact h0
   .have:=(List.pairwise_cons.1 ih').1 b hb
    omega
theorem qpz (k:InsOk m f.values x) (kc:InC f x) (hv:f.values.length<=1000) (hc:∀ c∈f.values,c<2) {e:Nat} (he:e<=90000):(j4g f.values x e).Pairwise Ap:=by
 have fixr:∀ o∈x.ops,(jke x.ops o).limit=4->jhm f.values x.ops o=some (cl f.values o.value,(jke x.ops o).n):=by
  intro o ho h4
  unfold jhm
  rw[if_pos h4]
  by_cases h5:o.limit=5
  .obtain ⟨u,h6,_,_,h7⟩:=k.reu o ho h5
   have:jke x.ops o=u:=by unfold jke;rw[if_pos h5,f0d,h6];rfl
   rw[this,h7]
  .have:jke x.ops o=o:=by unfold jke;rw[if_neg h5]
   rw[this]
 unfold j4g
 refine List.pairwise_append.2 ⟨?_,?_,?_⟩
 .rw [List.pairwise_map]
  refine(jxo k.ord).imp_of_mem (fun {q r} hq hr h=>.inl ?_)
  obtain⟨q1,q2⟩:=kc.spo q hq
  obtain⟨r1,r2⟩:=kc.spo r hr
  obtain⟨h1,h2,_⟩:=j2w (e:=e) (r:=q) (by omega) (by omega) (by omega)
  obtain⟨h3,h4,_⟩:=j2w (e:=e) (r:=r) (by omega) (by omega) (by omega)
  rw[h1,h2,h3,h4];omega
 .rw [List.pairwise_flatMap]
  refine⟨fun o ho=>?_,?_⟩
  .unfold opC;split<;>simp
  .rw [f2n]
   intro i j hi hj hij c hc1 d hd1
   obtain⟨a1,a2,a3,a4,a5,a6⟩:=ju5 kc hv hc he (f1k hi) hc1
   obtain⟨b1,b2,b3,b4,b5,b6⟩:=ju5 kc hv hc he (f1k hj) hd1
   by_cases hreg:c.a=d.a/\c.b=d.b
   .right
    have f1:=fixr _ (f1k hi) a1
    have f2:=fixr _ (f1k hj) b1
    have e1:cl f.values x.ops[i].value=cl f.values x.ops[j].value:=by have:=hreg.1;rw[a2,b2] at this;omega
    have e2:(jke x.ops x.ops[i]).n=(jke x.ops x.ops[j]).n:=by have:=hreg.2;rw[a3,b3] at this;omega
    rw[e1,e2] at f1
    obtain h | h:=(k.cla j i x.ops[j] x.ops[i] hij (f0a hj) (f0a hi)).2 _ f2 f1
    .obtain ⟨h5,hn⟩:=h
     obtain⟨u,h6,h7,h8,_⟩:=k.reu _ (f1k hj) h5
     rw[hn,f0a hi] at h6
     cases h6
     obtain⟨g1,g2⟩:=(k.opd _ (f1k hj)).reu h5
     left
     rw[a5,b4]
     unfold toC jdh
     rw[if_pos ⟨h7,h8⟩,if_pos ⟨g1,g2⟩]
     omega
    .obtain ⟨h5,hn⟩:=h
     obtain⟨u,h6,h7,h8,_⟩:=k.reu _ (f1k hi) h5
     rw[hn,f0a hj] at h6
     cases h6
     obtain⟨g1,g2⟩:=(k.opd _ (f1k hi)).reu h5
     right
     rw[b5,a4]
     unfold toC jdh
     rw[if_pos ⟨h7,h8⟩,if_pos ⟨g1,g2⟩]
     omega
   .exact .inl hreg
 .intro c hc1 d hd1
  obtain⟨r,hr,rfl⟩:=f1q.1 hc1
  obtain⟨o,ho,hd1⟩:=List.mem_flatMap.1 hd1
  obtain⟨b1,b2,b3,b4,b5,b6⟩:=ju5 kc hv hc he ho hd1
  obtain⟨r1,r2⟩:=kc.spo r hr
  obtain⟨h1,h2,_⟩:=j2w (e:=e) (r:=r) (by omega) (by omega) (by omega)
  have f1:=k.sp o ho _ (fixr o ho b1)
  refine .inl (fun hreg=>f1 ?_)
  rw[h1,h2,b2,b3] at hreg
  have:r=(cl f.values o.value,(jke x.ops o).n):=Prod.ext (by simp;omega) (by simp;omega)
  rw[←this];exact hr
end
section
variable {m:Nat×Nat} {f:Fc}
theorem ju6 (hv:f.values.length<=1000) (hc:∀ c∈f.values,c<2):∀ {l:List Ms.Ins} {e:Nat},(∀ x∈l,InC f x)->e+2*l.length<=90000->∀ c∈ju3 f.values e l,(e:Int)<=c.c/\c.c<c.d/\c.d<=(e:Int)+2*l.length
 | [],e,_,_,c,h=>by simp[ju3] at h
 | x::r,e,k,he,c,h=>by
  simp only[f0z] at he
  rw[ju3] at h
  rcases f0e.1 h with h | h
  .have:=qe1 (k x (by simp)) hv hc (by omega) h
   simp only[f0z];omega
  .have:=ju6 hv hc (e:=e+2) (fun y hy=>k y (f0s _ hy)) (by omega) c h
   simp only[f0z];omega
theorem j96 (hv:f.values.length<=1000) (hc:∀ c∈f.values,c<2):∀ {l:List Ms.Ins} {e:Nat},(∀ x∈l,InsOk m f.values x/\InC f x)->e+2*l.length<=90000->(ju3 f.values e l).Pairwise Ap
 | [],e,_,_=>.nil
 | x::r,e,k,he=>by
  simp only[f0z] at he
  rw[ju3]
  refine List.pairwise_append.2 ⟨qpz (k x (by simp)).1 (k x (by simp)).2 hv hc (by omega),j96 hv hc (fun y hy=>k y (f0s _ hy)) (by omega),fun c h1 d h2=>.inr (.inl ?_)⟩
  have a:=qe1 (k x (by simp)).2 hv hc (by omega) h1
  have b:=ju6 hv hc (e:=e+2) (fun y hy=>(k y (f0s _ hy)).2) (by omega) d h2
  omega
theorem jz2 (hv:f.values.length<=1000) (hc:∀ c∈f.values,c<2):∀ {l:List Ms.Blk} {s:Nat},(∀ b∈l,b.instrs.length<=40/\∀ x∈b.instrs,InC f x)->s+82*l.length<=90000->∀ c∈jxv f.values s l,(s:Int)<c.c/\c.c<c.d
 | [],s,_,_,c,h=>by simp[jxv] at h
 | b::r,s,k,he,c,h=>by
  simp only[f0z] at he
  have hb:=k b (by simp)
  have h40:=hb.1
  rw[jxv] at h
  rcases f0e.1 h with h | h
  .have:=ju6 hv hc (e:=s+1) hb.2 (by omega) c h
   omega
  .have:=jz2 hv hc (s:=s+2+2*b.instrs.length) (fun y hy=>k y (f0s _ hy)) (by omega) c h
   omega
theorem j97 (hv:f.values.length<=1000) (hc:∀ c∈f.values,c<2):∀ {l:List Ms.Blk} {s:Nat},(∀ b∈l,b.instrs.length<=40/\∀ x∈b.instrs,InsOk m f.values x/\InC f x)->s+82*l.length<=90000->(jxv f.values s l).Pairwise Ap
 | [],s,_,_=>.nil
 | b::r,s,k,he=>by
  simp only[f0z] at he
  have hb:=k b (by simp)
  have h40:=hb.1
  rw[jxv]
  refine List.pairwise_append.2 ⟨j96 hv hc hb.2 (by omega),j97 hv hc (fun y hy=>k y (f0s _ hy)) (by omega),fun c h1 d h2=>.inr (.inl ?_)⟩
  have a:=ju6 hv hc (e:=s+1) (fun x hx=>(hb.2 x hx).2) (by omega) c h1
  have b':=jz2 hv hc (s:=s+2+2*b.instrs.length) (fun y hy=>⟨(k y (f0s _ hy)).1,fun x hx=>((k y (f0s _ hy)).2 x hx).2⟩) (by omega) d h2
  omega
theorem jxp (m1:2<=m.1/\m.1<=10) (m2:2<=m.2/\m.2<=10) (k:FcOk m f):(jb8 f).Pairwise Ap/\∀ c∈jb8 f,c.c<c.d:=by
 have bc:=j2v m1 m2 k
 have nb:=bc.nb
 refine⟨j97 (m:=m) bc.fc.nv bc.fc.cls (fun b hb=>⟨bc.ni b hb,fun x hx=>⟨k.ins b hb x hx,bc.ins b hb x hx⟩⟩) (by omega),fun c hc=>(jz2 bc.fc.nv bc.fc.cls (s:=0) (l:=f.blocks) (fun b hb=>⟨bc.ni b hb,bc.ins b hb⟩) (by omega) c hc).2⟩
theorem jfv (m1:2<=m.1/\m.1<=10) (m2:2<=m.2/\m.2<=10) (k:FcOk m f):(jb8 f).Nodup:=by
 obtain⟨h1,h2⟩:=jxp m1 m2 k
 refine h1.imp_of_mem (fun {a b} ha hb h e=>?_)
 subst e
 have:=h2 a ha
 rcases h with h | h | h
 .exact h ⟨rfl,rfl⟩
 .omega
 .omega
theorem qcs (m1:2<=m.1/\m.1<=10) (m2:2<=m.2/\m.2<=10) (k:FcOk m f) {x y:C5} (hx:(srt (jb8 f))[i]?=some x) (hy:(srt (jb8 f))[i+1]?=some y):x.lt y/\(x.a=y.a->x.b=y.b->x.d<=y.c):=by
 obtain⟨h1,h2⟩:=jxp m1 m2 k
 have p1:(srt (jb8 f)).Pairwise Ap:=((jks _).pairwise_iff (fun h=>h.symm)).2 h1
 have p2:=jrw (jfv m1 m2 k)
 obtain⟨hi,ex⟩:=f0t.1 hx
 obtain⟨hj,ey⟩:=f0t.1 hy
 have a:=f2n.1 p1 i (i+1) hi hj (by omega)
 have b:=f2n.1 p2 i (i+1) hi hj (by omega)
 rw[ex,ey] at a b
 have c1:=h2 y ((jks _).mem_iff.1 (f0c hy))
 refine⟨b,fun e1 e2=>?_⟩
 unfold C5.lt at b
 rcases a with a | a | a
 .exact absurd ⟨e1,e2⟩ a
 .exact a
 .omega
end
attribute [local go_sem] Int.reduceToNat reduceCtorEq Nat.reduceAdd Nat.reduceMul Nat.reduceEqDiff Int.reduceEq Int.reduceLT Int.reduceLE Int.reduceNeg Int.reduceAdd Int.reduceSub Int.reduceMul Int.reduceNe
attribute [local go_sem ↓] reduceIte
set_option maxRecDepth 100000
set_option maxHeartbeats 8000000
theorem qtd {l:List C5} {c:C5} (h:l[i]?=some c):jsz 5 (.s (jae C5.s l)) (vi (i:Int))=some (.s (.cp [si c.a,si c.b,si c.c,si c.d,si c.e])):=jag (enc:=C5.s) (size:=5) h rfl
theorem qp0 {F:Fns} {l:List C5} (hl:l.length<=100000) (hlaw:∀ (i:Nat) (x y:C5),l[i]?=some x->l[i+1]?=some y->x.lt y/\(x.a=y.a->x.b=y.b->x.d<=y.c)) {x0 x1 x2 x3 x12 x13 x14 x15 x16 x17:AV} {Q:Ex->St->Prop}
 (hQ:∀ hj x4 x5 x6 x7 x8 x9 x11,Q (.exit 0) (.mk [x0,x1,x2,x3,x4,x5,x6,x7,x8,x9,.s (jae C5.s l),x11,x12,x13,x14,x15,x16,x17] hj)) :
 ∀ (d i:Nat) (_:i+d=l.length) {hi:Hp} (_:Ok hi) {x4 x5 x6 x7 x8 x9:AV},W F jkr.loop (.mk [x0,x1,x2,x3,x4,x5,x6,x7,x8,x9,.s (jae C5.s l),vi ((i+1:Nat):Int),x12,x13,x14,x15,x16,x17] hi) Q
 | 0,i,hd,hi,ok,x4,x5,x6,x7,x8,x9=>by
  have c0:(((i+1:Nat):Int)<(l.length:Int))=False:=eq_false (by omega)
  have ll:=jah (enc:=C5.s) (l:=l)
  rw[jaj]
  unfold jkr
  simp(disch:=first|omega|rfl) only[go_sem,ll,c0]
  exact hQ _ _ _ _ _ _ _ _
 | d+1,i,hd,hi,ok,x4,x5,x6,x7,x8,x9=>by
  have ll:=jah (enc:=C5.s) (l:=l)
  by_cases he:i+1=l.length
  .have c0:(((i+1:Nat):Int)<(l.length:Int))=False:=eq_false (by omega)
   rw[jaj]
   unfold jkr
   simp(disch:=first|omega|rfl) only[go_sem,ll,c0]
   exact hQ _ _ _ _ _ _ _ _
  .have hlt:((i+1:Nat):Int)<(l.length:Int):=by omega
   have hs:((i+1:Nat):Int)+1=((i+1+1:Nat):Int):=by omega
   have hs2:((i+1:Nat):Int) - 1=(i:Int):=by omega
   obtain⟨x,hx⟩:∃ u,l[i]?=some u:=⟨_,f0a (by omega)⟩
   obtain⟨y,hy⟩:∃ u,l[i+1]?=some u:=⟨_,f0a (by omega)⟩
   obtain⟨h1,h2⟩:=hlaw i x y hx hy
   have ix:=qtd hx
   have iy:=qtd hy
   have bx:=x.ok
   have bY:=y.ok
   obtain⟨hA,eA,okA,nA,xA,gA⟩:=jbv ok [.int .i64 0,.int .i64 0,.int .i64 0,.int .i64 0,.int .i64 0] [si x.a,si x.b,si x.c,si x.d,si x.e] 52
   obtain⟨hB,eB,okB,nB,xB,gB⟩:=jbv okA [.int .i64 0,.int .i64 0,.int .i64 0,.int .i64 0,.int .i64 0] [si y.a,si y.b,si y.c,si y.d,si y.e] 52
   have yA:=(gB _ (by omega)).trans xA
   rw[nA] at eB xB
   have ih:=fun x4 x5 x6 x7 x8 x9=>qp0 (F:=F) hl hlaw hQ d (i+1) (by omega) okB (x4:=x4) (x5:=x5) (x6:=x6) (x7:=x7) (x8:=x8) (x9:=x9)
   rw[jaj]
   unfold jkr j2o j2n
   unfold C5.lt at h1
   generalize x.a=xa at *
   generalize x.b=xb at *
   generalize x.c=xc at *
   generalize x.d=xd at *
   generalize x.e=xe at *
   generalize y.a=ya at *
   generalize y.b=yb at *
   generalize y.c=yc at *
   generalize y.d=yd at *
   generalize y.e=ye at *
   by_cases c1:xa<ya
   .have d1:(xa=ya/\xb=yb)=False:=eq_false (by omega)
    simp(disch:=first|omega|rfl) only[go_sem,jac,ll,eq_true hlt,hs2,ix,iy,eA,nA,eB,yA,xB,eq_true c1,jfd,qb2,d1,hs]
    exact ih _ _ _ _ _ _
   .have e1:xa=ya:=by omega
    subst e1
    by_cases c2:xb<yb
    .have d1:(True/\xb=yb)=False:=eq_false (by omega)
     have d2:(xb=yb)=False:=eq_false (by omega)
     simp(disch:=first|omega|rfl) only[go_sem,jac,ll,eq_true hlt,hs2,ix,iy,eA,nA,eB,yA,xB,eq_false c1,eq_true c2,jfd,qb2,d1,d2,and_false,hs]
     exact ih _ _ _ _ _ _
    .have e2:xb=yb:=by omega
     subst e2
     have h3:(yc<xd)=False:=eq_false (by have:=h2 rfl rfl;omega)
     by_cases c3:xc<yc
     .simp (disch:=first|omega|rfl) only[go_sem,jac,ll,eq_true hlt,hs2,ix,iy,eA,nA,eB,yA,xB,eq_false c1,eq_false c2,eq_true c3,jfd,qb2,and_self,decide_true,h3,hs]
      exact ih _ _ _ _ _ _
     .have e3:xc=yc:=by omega
      subst e3
      by_cases c4:xd<yd
      .simp (disch:=first|omega|rfl) only[go_sem,jac,ll,eq_true hlt,hs2,ix,iy,eA,nA,eB,yA,xB,eq_false c1,eq_false c2,eq_false c3,eq_true c4,jfd,qb2,and_self,decide_true,h3,hs]
       exact ih _ _ _ _ _ _
      .have e4:xd=yd:=by omega
       subst e4
       have c5:xe<ye:=by omega
       simp(disch:=first|omega|rfl) only[go_sem,jac,ll,eq_true hlt,hs2,ix,iy,eA,nA,eB,yA,xB,eq_false c1,eq_false c2,eq_false c3,eq_false c4,eq_true c5,jfd,qb2,and_self,decide_true,h3,hs]
       exact ih _ _ _ _ _ _
def qlj:Fc:=⟨[0],[⟨[],[⟨0,[⟨2,0,true,4,1⟩],[]⟩],[]⟩]⟩
section
variable {m:Nat×Nat}
theorem qlk (m1:2<=m.1/\m.1<=10) (m2:2<=m.2/\m.2<=10):InsOk m [0] ⟨0,[⟨2,0,true,4,1⟩],[]⟩:=by
 have hc0:cl [0] 0=0:=rfl
 have hg:g2 m 0=m.1:=rfl
 refine⟨by decide,by decide,by decide,fun o ho=>?_,fun o ho h=>?_,fun r hr=>by simp at hr,fun i q r h=>by simp at h,fun o ho r hr=>by simp,fun i j o p hij hi hj=>?_,fun c hc=>?_⟩
 .obtain rfl:=f0i.1 ho
  exact⟨.inr rfl,by decide,by decide,fun _=>by show 1<g2 m (cl [0] 0);rw[hc0,hg];omega,fun h=>by simp at h,fun h=>by simp at h⟩
 .obtain rfl:=f0i.1 ho
  simp at h
 .have:=(f0t.1 hi).1
  simp at this
  omega
 .show 0+List.countP (jck [0] c) [⟨2,0,true,4,1⟩]<g2 m c
  have h1:List.countP (jck [0] c) [(⟨2,0,true,4,1⟩:Ms.Opd)]<=1:=f3t
  have h2:2<=g2 m c:=by unfold g2;split<;>omega
  omega
theorem qp1 (m1:2<=m.1/\m.1<=10) (m2:2<=m.2/\m.2<=10):FlOk m qlj []:=by
 have hb:∀ b∈qlj.blocks,b=⟨[],[⟨0,[⟨2,0,true,4,1⟩],[]⟩],[]⟩:=fun b h=>f0i.1 h
 refine⟨⟨⟨by decide,by decide,by decide,fun b h=>by rw[hb b h];decide,by decide,fun b h x hx=>?_,fun b h=>by rw[hb b h];simp,fun b h e he=>?_,fun b h=>?_,fun b h v hv=>?_⟩,by decide,by decide,rfl,by decide⟩,⟨by decide,fun b h=>by rw[hb b h];decide,fun k i b x hk hi=>?_,fun k b e hk he=>?_⟩⟩
 .rw [hb b h] at hx
  obtain rfl:=f0i.1 hx
  exact qlk m1 m2
 .rw [hb b h] at he;simp at he
 .rw [hb b (f0c h)]
 .rw [hb b h] at hv;simp at hv
 .rw [hb b (f0c hk)] at hi
  obtain rfl:=f0i.1 (f0c hi)
  refine⟨by decide,fun o ho h=>?_⟩
  obtain rfl:=f0i.1 ho
  simp at h
 .rw [hb b (f0c hk)] at he;simp at he
theorem qll:jae C5.s (srt (jb8 qlj))=.lst [[si 0,si 1,si 2,si 3,si 0]]:=by
 have e1:jb8 qlj=[C5.of 0 1 2 3 0]:=rfl
 have e2:srt [C5.of 0 1 2 3 0]=[C5.of 0 1 2 3 0]:=List.perm_singleton.1 (jks _)
 rw[e1,e2]
 show SV.lst [(C5.of 0 1 2 3 0).s]=_
 rw[show(C5.of 0 1 2 3 0).s=[si 0,si 1,si 2,si 3,si 0] from C5.of_s (by decide)]
end
theorem ju7 {k:Bool} {h:Hp} {d b sz ty:Nat} {ex:Bool} {row row':List SV} (g:h.get b=some (.arr row ty)) (hl:row.length=sz) (hf:jgl (jfp k h d) row=some row') (hr:row'.length=sz):jfp k h (d+1) (.slice b 0 1 1 ex sz)=some (.lst [row']):=by
 show ob (rd h b 0 (Nat.mul 1 sz)) (fun cs=>ob (jgl (jfp k h d) cs) (fun cs=>ob (jmi sz 1 cs) (fun rows=>some (SV.lst rows))))=_
 have e:rd h b 0 (Nat.mul 1 sz)=some row:=by
  show ob (h.get b) _=_
  rw[g]
  show jby (1*sz) row=_
  exact(ja4 _).2 ⟨by omega,by rw[f2z (by omega)]⟩
 rw[e]
 show ob (jgl (jfp k h d) row) _=_
 rw[hf]
 show ob (jmi sz 1 row') _=_
 have e2:=jfy (sz:=sz) (L:=[row']) (fun r hr'=>by rw[f0i.1 hr'];exact hr)
 simp only[f0z,f1w,f0y,f18,List.flatten_nil,f05] at e2
 rw[e2]
 rfl
theorem qlm {h:Hp} {c d e:Nat} {m:Nat×Nat} (gc:h.get c=some (.arr [si 0] 3)) (gd:h.get d=some (.arr [si 2,si 0,.bool true,si 4,si 1] 59)) (ge:h.get e=some (.arr [si 0,.slice d 0 1 1 true 5,.nilSlice] 57)) (gg:h.get g=some (.arr [.nilSlice,.slice e 0 1 1 true 3,.nilSlice] 36)) :
 jvt true h 4 [.agg [.slice c 0 1 1 true 1,.slice g 0 1 1 true 3],.agg [si m.1,si m.2]]=some [.agg (jzj qlj),.agg [si m.1,si m.2]]:=by
 have f1:jfp true h 4 (.slice c 0 1 1 true 1)=some (.lst [[si 0]]):=ju7 (d:=3) gc rfl rfl rfl
 have f2:jfp true h 2 (.slice d 0 1 1 true 5)=some (.lst [[si 2,si 0,.bool true,si 4,si 1]]):=ju7 (d:=1) gd rfl rfl rfl
 have f3:jfp true h 3 (.slice e 0 1 1 true 3)=some (.lst [[si 0,.lst [[si 2,si 0,.bool true,si 4,si 1]],.nilSlice]]):=ju7 (d:=2) ge rfl (jbp rfl (jbp f2 (jm5 rfl))) rfl
 have f4:jfp true h 4 (.slice g 0 1 1 true 3)=some (.lst [[.nilSlice,.lst [[si 0,.lst [[si 2,si 0,.bool true,si 4,si 1]],.nilSlice]],.nilSlice]]):=ju7 (d:=3) gg rfl (jbp rfl (jbp f3 (jm5 rfl))) rfl
 show ob (ob (jgl (jfp true h 4) [.slice c 0 1 1 true 1,.slice g 0 1 1 true 3]) (fun x=>some (AV.agg x))) (fun x=>ob (ob (ob (jgl (jfp true h 4) [si m.1,si m.2]) (fun x=>some (AV.agg x))) (fun x=>some [x])) (fun r=>some (x::r)))=_
 rw[jbp f1 (jm5 f4)]
 rfl
section
variable {h:Hp} {m:Nat×Nat} {Q:AV->Hp->Prop}
theorem qct (m1:2<=m.1/\m.1<=10) (m2:2<=m.2/\m.2<=10) {c d e:Nat} (gc:h.get c=some (.arr [si 0] 3)) (gd:h.get d=some (.arr [si 2,si 0,.bool true,si 4,si 1] 59)) (ge:h.get e=some (.arr [si 0,.slice d 0 1 1 true 5,.nilSlice] 57)) (gg:h.get g=some (.arr [.nilSlice,.slice e 0 1 1 true 3,.nilSlice] 36)) :
 WC FC3 12 [.agg [.slice c 0 1 1 true 1,.slice g 0 1 1 true 3],.agg [si m.1,si m.2]] h Q=Q (.tup [(false,[.lst [[si 0,si 1,si 2,si 3,si 0]]]),(false,[si 0])]) h:=by
 have o:=qp1 m1 m2
 have hp:jmq false FC2 12 [.agg (jzj qlj),.agg [si m.1,si m.2]] (ql0 qlj):=j94 jdx o m1 m2 (j2v m1 m2 o.k) (jfv m1 m2 o.k)
 unfold ql0 at hp
 rw[qll] at hp
 exact jas (qgb rfl rfl ⟨_,4,qlm gc gd ge gg,hp⟩)
theorem jmm (ha:In6 a) (hb:In6 b):WC FC3 8 [vi a,vi b] h Q=Q (.agg (qly (jqp a b))) h:=jas ((j4i rfl rfl rfl).trans ((qcn rfl rfl rfl rfl rfl rfl rfl rfl rfl).trans (j36 ha hb)))
theorem jxq {l:List Pc} (m1:2<=m.1/\m.1<=10) (m2:2<=m.2/\m.2<=10) (pin:∀ q∈l,Pin q) (lx:LstE jb6 7 xl l):WC FC3 7 [.agg [si m.1,si m.2],.s xl] h Q=Q (.agg (jzj (jeh m l))) h:=jas ((j4i rfl rfl rfl).trans ((qcn rfl rfl rfl rfl rfl rfl rfl rfl rfl).trans (qg8 m1 m2 pin lx)))
theorem jz3 {f:Fc} (h1:f.blocks.length<=10000) (h2:∀ b∈f.blocks,b.instrs.length<=10000):WC FC3 9 [.agg [jae jat f.values,jae ja0 f.blocks]] h Q=Q (.s (jae jat (jau f.blocks))) h:=jas ((j4i rfl rfl rfl).trans ((qcn rfl rfl rfl rfl rfl rfl rfl rfl rfl).trans (jwx h1 h2)))
end
theorem qte {c d e a' b' c' d' e':Int}:qnr true true [false,false,false,false,false] (some (.agg [.int .i64 a,.int .i64 b,.int .i64 c,.int .i64 d,.int .i64 e])) (some (.agg [.int .i64 a',.int .i64 b',.int .i64 c',.int .i64 d',.int .i64 e']))=some (vb (!decide (a=a'/\b=b'/\c=c'/\d=d'/\e=e'))):=by
 show some (AV.s (SV.bool (jkt (oif (ieq a a') (oif (ieq b b') (oif (ieq c c') (oif (ieq d d') (oif (ieq e e') true false) false) false) false) false))))=_
 rw[jbm,jbm,jbm,jbm,jbm]
 by_cases h1:a=a'<;>by_cases h2:b=b'<;>by_cases h3:c=c'<;>by_cases h4:d=d'<;>by_cases h5:e=e'<;>simp[h1,h2,h3,h4,h5,jax]<;>rfl
theorem qp2 {h:Hp} (ok:Ok h) {l:List Pc} (ha:In6 a) (hb:In6 b) (pin:∀ q∈l,Pin q) (lx:LstE jb6 7 xl l):WC FC3 6 [vi a,vi b,.s xl] h (fun v _=>v=.s (.bool true)):=by
 refine jba ((j4i rfl rfl rfl).trans (qlz rfl rfl rfl rfl rfl rfl rfl rfl rfl rfl rfl rfl)) qph rfl ?_
 unfold j90
 obtain⟨m1,m2⟩:=j7r a b
 obtain⟨m,em⟩:∃ m,jqp a b=m:=⟨_,rfl⟩
 rw[em] at m1 m2
 obtain⟨s,o,_,_⟩:=j9s m1 m2 l
 obtain⟨f,ef⟩:∃ f,jeh m l=f:=⟨_,rfl⟩
 rw[ef] at o
 have bc:=j2v m1 m2 o.k
 have hcl:=ji5 bc
 have hp:=ok.pos
 obtain⟨hA,eA,okA,nA,xA,gA⟩:=jbv ok [.int .i64 0,.int .i64 0] [si m.1,si m.2] 30
 obtain⟨hB,eB,okB,nB,xB,gB⟩:=jbv okA [.nilSlice,.nilSlice] [jae jat f.values,jae ja0 f.blocks] 26
 obtain⟨hC,eC,okC,nC,xC,gC⟩:=jei okB [si 0] 3
 obtain⟨hD,eD,okD,nD,xD,gD⟩:=jei okC [si 2,si 0,.bool true,si 4,si 1] 59
 obtain⟨hE,eE,okE,nE,xE,gE⟩:=jei okD [si 0,.slice (h.next+3) 0 1 1 true 5,.nilSlice] 57
 obtain⟨hF,eF,okF,nF,xF,gF⟩:=jei okE [.nilSlice,.slice (h.next+4) 0 1 1 true 3,.nilSlice] 36
 have nb:hB.next=h.next+2:=by omega
 have nc:hC.next=h.next+3:=by omega
 have nd:hD.next=h.next+4:=by omega
 have ne:hE.next=h.next+5:=by omega
 have yA:=(gB _ (by omega)).trans xA
 have zA:=(gF _ (by omega)).trans ((gE _ (by omega)).trans ((gD _ (by omega)).trans ((gC _ (by omega)).trans yA)))
 rw[nA] at eB xB
 rw[nb] at xC
 rw[nc] at xD
 rw[nd] at xE
 rw[ne] at xF
 have zC:=(gF _ (by omega)).trans ((gE _ (by omega)).trans ((gD _ (by omega)).trans xC))
 have zD:=(gF _ (by omega)).trans ((gE _ (by omega)).trans xD)
 have zE:=(gF _ (by omega)).trans xE
 simp(disch:=first|omega|rfl) only[go_sem,jmm ha hb,em,qly,eA,nA,xA,jxq m1 m2 pin lx,ef,jzj,eB,yA,xB,j2u o m1 m2 bc (jfv m1 m2 o.k),ql0,eC,nb,eD,nc,eE,nd,eF,ne,zA]
 rw[qct m1 m2 zC zD zE xF]
 have i0:jsz 5 (.s (.lst [[si 0,si 1,si 2,si 3,si 0]])) (vi 0)=some (.s (.cp [si 0,si 1,si 2,si 3,si 0])):=rfl
 have l0:jxu (.s (.lst [[si 0,si 1,si 2,si 3,si 0]]))=some (vi 1):=rfl
 have n1:((0:Int)≠0)=False:=by simp
 have n2:((1:Int)≠1)=False:=by simp
 simp(disch:=first|omega|rfl) only[go_sem,i0,l0,n1,n2,jfd,qte,and_self]
 unfold j2p
 simp(disch:=first|omega|rfl) only[go_sem]
 refine qp0 (l:=srt (jb8 f)) (by rw[ji3];omega) (fun i x y hx hy=>qcs m1 m2 o.k hx hy) (fun hj x4 x5 x6 x7 x8 x9 x11=>?_) (srt (jb8 f)).length 0 (by omega) okF
 simp(disch:=first|omega|rfl) only[go_sem]
end Go.Proofs.Ytalbjjoppndjjaa.Ev
