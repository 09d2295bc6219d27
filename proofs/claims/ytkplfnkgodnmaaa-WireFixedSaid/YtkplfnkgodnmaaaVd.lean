/- Functions built of pieces: each instruction may be. No program in sight. -/
import Derived.Test.YtkplfnkgodnmaaaEnc
namespace Go.Proofs.Ytkplfnkgodnmaaa.Ms
set_option linter.all false
variable {l vs:List Nat} {a b:Ms} {e j r uses:Nat}
def cl (vs:List Nat) (v:Nat):Nat:=vs.getD v 0
structure OpdOk (m:Nat×Nat) (vs:List Nat) (o:Opd):Prop where
 kind:o.kind=1∨o.kind=2
 lim:1<=o.limit/\o.limit<=5
 val:o.value<vs.length
 fix:o.limit=4->o.n<g2 m (cl vs o.value)
 zero:o.limit<=3->o.n=0
 reu:o.limit=5->o.kind=2/\o.late=true
def jxt (vs:List Nat) (ops:List Opd) (o:Opd):Prop:=∃ u,ops[o.n]?=some u/\u.kind=1/\u.late=false/\cl vs u.value=cl vs o.value
def qe6 (ops:List Opd) (o:Opd):Opd:=if o.limit=5 then ops.getD o.n ⟨0,0,false,0,0⟩ else o
def j88 (vs:List Nat) (ops:List Opd) (o:Opd):Option (Nat×Nat):=if (qe6 ops o).limit=4 then some (cl vs (qe6 ops o).value,(qe6 ops o).n) else none
def jfj (vs:List Nat) (c:Nat) (o:Opd):Bool:=decide (cl vs o.value=c)&&(decide (o.limit≠1)&&decide (o.limit≠3))
structure InsOk (m:Nat×Nat) (vs:List Nat) (x:Ins):Prop where
 op:x.op<=255
 nops:x.ops.length<=6
 nsp:x.spoils.length<=20
 opd:∀ o∈x.ops,OpdOk m vs o
 reu:∀ o∈x.ops,o.limit=5->jxt vs x.ops o
 spo:∀ r∈x.spoils,r.1<2/\r.2<g2 m r.1
 ord:∀ (i:Nat) (q r:Nat×Nat),x.spoils[i]?=some q->x.spoils[i+1]?=some r->q.1<r.1∨(q.1=r.1/\q.2<r.2)
 sp:∀ o∈x.ops,∀ r,j88 vs x.ops o=some r->r∉x.spoils
 cla:∀ (i j:Nat) (o p:Opd),j<i->x.ops[i]?=some o->x.ops[j]?=some p->(o.limit=5->p.limit=5->o.n≠p.n)/\(∀ r,j88 vs x.ops o=some r->j88 vs x.ops p=some r->(o.limit=5/\o.n=j)∨(p.limit=5/\p.n=i))
 need:∀ c,c<2->x.spoils.countP (fun r=>decide (r.1=c))+x.ops.countP (jfj vs c)<g2 m c
theorem j7z {p:Nat×Nat} {c d x:Nat} (hc:c<2) (hd:d<2):g2 (s2 p c x) d=if d=c then x else g2 p d:=by
 unfold g2 s2
 have h1:c=0∨c=1:=by omega
 have h2:d=0∨d=1:=by omega
 rcases h1 with rfl | rfl<;>rcases h2 with rfl | rfl<;>rfl
theorem juv {v:Nat} (h:v<vs.length):cl (vs++l) v=cl vs v:=by
 unfold cl
 rw[f0n,f0n,f0v h]
theorem juw {c:Nat}:cl (vs++[c]) vs.length=c:=by
 unfold cl
 rw[f0n,f02 (f0d _)];simp
theorem j1u (h:∀ c∈vs,c<2) (v:Nat):cl vs v<2:=by
 unfold cl
 rw[f0n]
 cases e:vs[v]? with
 | none=>exact Nat.zero_lt_two
 | some c=>exact h c (f0c e)
structure IwOk (m:Nat×Nat) (vs:List Nat) (s:Iw):Prop where
 opd:∀ o∈s.ops,OpdOk m vs o
 reu:∀ o∈s.ops,o.limit=5->jxt vs s.ops o
 need:∀ c,c<2->s.ops.countP (jfj vs c)=g2 s.need c
 needlt:∀ c,c<2->g2 s.need c+1<=g2 m c
 fixle:∀ c,c<2->g2 s.fixed c<=g2 s.need c
 fixlt:∀ o∈s.ops,o.limit=4->o.n<g2 s.fixed (cl vs o.value)
 fixinj:∀ (i j:Nat) (o p:Opd),s.ops[i]?=some o->s.ops[j]?=some p->o.limit=4->p.limit=4->cl vs o.value=cl vs p.value->o.n=p.n->i=j
 reinj:∀ (i j:Nat) (o p:Opd),s.ops[i]?=some o->s.ops[j]?=some p->o.limit=5->p.limit=5->o.n=p.n->i=j
theorem jgy {α:Type} {l:List α} {a b:α} {i:Nat} (h:(l++[a])[i]?=some b):(i<l.length/\l[i]?=some b)∨(i=l.length/\b=a):=by
 rcases f0j i l.length with h1 | h1
 .rw [f0v h1] at h;exact .inl ⟨h1,h⟩
 .rw [f02 h1] at h
  right
  have h2:i - l.length=0:=by
   rcases f10 (i - l.length) with h3 | h3
   .exact h3
   .rw [f0t (by simp;omega)] at h;cases h
  rw[h2] at h
  exact⟨by omega,by simpa using h.symm⟩
theorem jxt.app {ops r:List Opd} {o:Opd} (h:jxt vs ops o):jxt vs (ops++r) o:=by
 obtain⟨u,h1,h2⟩:=h
 refine⟨u,?_,h2⟩
 rw[f0v]
 .exact h1
 .rcases f0j o.n ops.length with h3 | h3
  .exact h3
  .rw [f0t h3] at h1;cases h1
theorem IwOk.app {m:Nat×Nat} {s:Iw} (k:IwOk m vs s) (hcl:∀ v,cl vs v<2) {o:Opd} (h1:OpdOk m vs o) {need fixed:Nat×Nat} {lim:Nat}
 (h2:o.limit=5->jxt vs s.ops o/\∀ p∈s.ops,p.limit=5->p.n≠o.n)
 (hn:∀ c,c<2->g2 need c=g2 s.need c+if jfj vs c o=true then 1 else 0)
 (hl:∀ c,c<2->jfj vs c o=true->g2 s.need c+1<g2 m c)
 (hf:∀ c,c<2->g2 fixed c=g2 s.fixed c+if o.limit=4/\cl vs o.value=c then 1 else 0)
 (h4:o.limit=4->o.n=g2 s.fixed (cl vs o.value)):IwOk m vs ⟨s.ops++[o],lim,need,fixed⟩:=by
 refine⟨fun p hp=>?_,fun p hp h5=>?_,fun c hc=>?_,fun c hc=>?_,fun c hc=>?_,fun p hp h5=>?_,fun i j p q hp hq h5 h6 h7 h8=>?_,fun i j p q hp hq h5 h6 h7=>?_⟩
 .rcases f0f.1 hp with hp | hp
  .exact k.opd p hp
  .rw [f06.1 hp];exact h1
 .rcases f0f.1 hp with hp | hp
  .exact (k.reu p hp h5).app
  .obtain rfl:=f06.1 hp;exact(h2 h5).1.app
 .show (s.ops++[o]).countP (jfj vs c)=g2 need c
  rw[List.countP_append,k.need c hc,hn c hc,List.countP_singleton]
 .show g2 need c+1<=g2 m c
  rw[hn c hc]
  have:=k.needlt c hc
  split
  .rename_i h;have:=hl c hc h;omega
  .omega
 .show g2 fixed c<=g2 need c
  rw[hn c hc,hf c hc]
  have:=k.fixle c hc
  by_cases h5:o.limit=4/\cl vs o.value=c
  .have:jfj vs c o=true:=by unfold jfj;rw[h5.1,h5.2];simp
   rw[if_pos h5,if_pos this];omega
  .rw [if_neg h5];omega
 .show p.n<g2 fixed (cl vs p.value)
  rw[hf _ (hcl _)]
  rcases f0f.1 hp with hp | hp
  .have:=k.fixlt p hp h5;omega
  .obtain rfl:=f06.1 hp
   rw[if_pos ⟨h5,rfl⟩,h4 h5];omega
 .rcases jgy hp with⟨_,hp'⟩ | ⟨rfl,rfl⟩
  .rcases jgy hq with⟨_,hq'⟩ | ⟨rfl,rfl⟩
   .exact k.fixinj i j p q hp' hq' h5 h6 h7 h8
   .have:=k.fixlt p (f0c hp') h5
    rw[h8,h4 h6,←h7] at this;omega
  .rcases jgy hq with⟨_,hq'⟩ | ⟨rfl,rfl⟩
   .have:=k.fixlt q (f0c hq') h6
    rw[←h8,h4 h5,h7] at this;omega
   .rfl
 .rcases jgy hp with⟨_,hp'⟩ | ⟨rfl,rfl⟩
  .rcases jgy hq with⟨_,hq'⟩ | ⟨rfl,rfl⟩
   .exact k.reinj i j p q hp' hq' h5 h6 h7
   .exact absurd h7 ((h2 h6).2 p (f0c hp') h5)
  .rcases jgy hq with⟨_,hq'⟩ | ⟨rfl,rfl⟩
   .exact absurd h7.symm ((h2 h5).2 q (f0c hq') h6)
   .rfl
theorem IwOk.lim {m:Nat×Nat} {s:Iw} (k:IwOk m vs s) (hcl:∀ v,cl vs v<2) {wish kd v:Nat} {late:Bool} (hw:1<=wish/\wish<=4) (hk:kd=1∨kd=2) (hv:v<vs.length) {lim:Nat} :
 IwOk m vs ⟨s.ops++[⟨kd,v,late,(jjw m wish (cl vs v) s.need s.fixed).1,(jjw m wish (cl vs v) s.need s.fixed).2.1⟩],lim,(jjw m wish (cl vs v) s.need s.fixed).2.2.1,(jjw m wish (cl vs v) s.need s.fixed).2.2.2⟩/\(jjw m wish (cl vs v) s.need s.fixed).1≠5:=by
 have hc:=hcl v
 unfold jjw
 by_cases h1:wish=1∨wish=3∨g2 m (cl vs v)<=g2 s.need (cl vs v)+1
 .simp only[if_pos h1]
  have hlim:(if wish=3 then 3 else 1)=1∨(if wish=3 then 3 else 1)=3:=by split<;>simp
  generalize (if wish=3 then 3 else 1)=lm at *
  have hnp:∀ c,jfj vs c ⟨kd,v,late,lm,0⟩=false:=fun c=>by
   unfold jfj
   rcases hlim with rfl | rfl<;>simp
  refine⟨k.app hcl ⟨hk,by simp only;omega,hv,fun h=>by simp only at h;omega,fun _=>rfl,fun h=>by simp only at h;omega⟩ (fun h=>by simp only at h;omega) (fun c hc=>by rw[hnp];simp) (fun c hc h=>by rw[hnp] at h;cases h) (fun c hc=>?_) (fun h=>by simp only at h;omega),by omega⟩
  simp only
  rw[if_neg (by omega)];rfl
 .rw [if_neg h1]
  have h2:g2 s.need (cl vs v)+1<g2 m (cl vs v):=by omega
  by_cases h3:wish=4
  .simp only[if_pos h3]
   have hnp:∀ c,jfj vs c ⟨kd,v,late,4,g2 s.fixed (cl vs v)⟩=decide (cl vs v=c):=fun c=>by unfold jfj;simp
   have hfl:=k.fixle _ hc
   refine⟨k.app hcl ⟨hk,by simp,hv,fun h=>by simp only;omega,fun h=>by simp at h,fun h=>by simp at h⟩ (fun h=>by simp at h) (fun c hc'=>?_) (fun c hc' h=>?_) (fun c hc'=>?_) (fun _=>rfl),by simp⟩
   .rw [j7z hc hc',hnp]
    by_cases h:cl vs v=c
    .subst h;simp
    .simp only[decide_eq_true_eq];rw[if_neg (fun e=>h e.symm),if_neg h];rfl
   .rw [hnp] at h;rw[←of_decide_eq_true h];exact h2
   .rw [j7z hc hc']
    by_cases h:cl vs v=c
    .subst h;simp
    .rw [if_neg (fun e=>h e.symm),if_neg (fun e=>h e.2)];rfl
  .simp only[if_neg h3]
   have hnp:∀ c,jfj vs c ⟨kd,v,late,2,0⟩=decide (cl vs v=c):=fun c=>by unfold jfj;simp
   refine⟨k.app hcl ⟨hk,by simp,hv,fun h=>by simp at h,fun h=>rfl,fun h=>by simp at h⟩ (fun h=>by simp at h) (fun c hc'=>?_) (fun c hc' h=>?_) (fun c hc'=>by simp) (fun h=>by simp at h),by simp⟩
   .rw [j7z hc hc',hnp]
    by_cases h:cl vs v=c
    .subst h;simp
    .simp only[decide_eq_true_eq];rw[if_neg (fun e=>h e.symm),if_neg h];rfl
   .rw [hnp] at h;rw[←of_decide_eq_true h];exact h2
theorem IwOk.vals {m:Nat×Nat} {s:Iw} (k:IwOk m vs s) (c:Nat):IwOk m (vs++[c]) s:=by
 have e:∀ o∈s.ops,cl (vs++[c]) o.value=cl vs o.value:=fun o ho=>juv (k.opd o ho).val
 refine⟨fun o ho=>?_,fun o ho h=>?_,fun d hd=>?_,k.needlt,k.fixle,fun o ho h=>?_,fun i j o p hi hj h1 h2 h3 h4=>?_,k.reinj⟩
 .have:=k.opd o ho
  exact⟨this.kind,this.lim,by have:=this.val;simp;omega,fun h=>by rw[e o ho];exact this.fix h,this.zero,this.reu⟩
 .obtain ⟨u,h1,h2,h3,h4⟩:=k.reu o ho h
  exact⟨u,h1,h2,h3,by rw[e o ho,e u (f0c h1)];exact h4⟩
 .rw [←k.need d hd]
  refine List.countP_congr fun o ho=>?_
  unfold jfj;rw[e o ho]
 .rw [e o ho];exact k.fixlt o ho h
 .rw [e o (f0c hi),e p (f0c hj)] at h3
  exact k.fixinj i j o p hi hj h1 h2 h3 h4
theorem pkl {n:Int} {m:Nat} (hm:0<m):pk n m<m:=by
 have h1:=jzn n m (by omega)
 have h2:=jzo n m (by omega)
 unfold pk;omega
theorem jkb {p:Pc} {i:Nat}:jgg p i<2:=by
 unfold jgg
 have:p.c / 2 ^ i % 2<2:=Int.emod_lt_of_pos _ (by omega)
 omega
theorem jux (h:l≠[]) {i:Nat} (hi:i<l.length):l.getD i 0∈l:=by
 rw[f0n,f0b hi];exact f2r hi
structure Us (kn:List Nat) (s:Iw):Prop where
 one:∀ o∈s.ops,o.kind=1/\o.limit≠5/\o.value∈kn
theorem j1v {w:Ms} {p:Pc} {flags:Nat} (hm:∀ c∈w.values,c<2) (hk:∀ v∈w.known,v<w.values.length):∀ (d i:Nat) (s:Iw),w.known≠[]∨d=0->IwOk w.m w.values s->Us w.known s ->
 IwOk w.m w.values (ji9 w p flags d i s)/\Us w.known (ji9 w p flags d i s)/\(ji9 w p flags d i s).ops.length=s.ops.length+d
 | 0,i,s,_,k,u=>⟨k,u,rfl⟩
 | d+1,i,s,h,k,u=>by
  have hne:w.known≠[]:=h.resolve_right (by omega)
  have hmem:=jux hne (i:=pk (Int.tdiv p.a (i+1)) w.known.length) (pkl (f21.2 hne))
  have hv:=hk _ hmem
  have hl:=k.lim (j1u hm) (wish:=1+s.limits % 4) (kd:=1) (late:=decide (flags / 2 ^ (4+i) % 2=1)) (lim:=s.limits / 4) (by omega) (.inl rfl) hv
  have r:=j1v (p:=p) (flags:=flags) hm hk d (i+1) (qdr w p flags i s) (.inl hne) hl.1 ⟨fun o ho=>by
   rcases f0f.1 ho with ho | ho
   .exact u.one o ho
   .rw [f06.1 ho];exact⟨rfl,hl.2,hmem⟩⟩
  refine⟨r.1,r.2.1,r.2.2.trans ?_⟩
  show(s.ops++[_]).length+d=s.ops.length+(d+1)
  simp;omega
structure Df (m:Nat×Nat) (uses:Nat) (x:Iw×Nat×Ms):Prop where
 wm:x.2.2.m=m
 iw:IwOk m x.2.2.values x.1
 cls:∀ c∈x.2.2.values,c<2
 us:∀ i,i<uses->∃ u,x.1.ops[i]?=some u/\u.kind=1
 re:∀ o∈x.1.ops,o.limit=5->o.n=x.2.1
theorem j89 {m:Nat×Nat} {x:Iw×Nat×Ms} (k:Df m uses x) (p:Pc) (flags i:Nat) :
 (jpt p flags uses i x).2.2={ x.2.2 with values:=x.2.2.values++[jgg p i] }/\(∃ o,(jpt p flags uses i x).1.ops=x.1.ops++[o]/\o.kind=2/\o.value=x.2.2.values.length) /\
 IwOk m (x.2.2.values++[jgg p i]) (jpt p flags uses i x).1/\((∀ o∈x.1.ops,o.limit≠5)->Df m uses (jpt p flags uses i x)):=by
 have hc2:∀ c∈x.2.2.values++[jgg p i],c<2:=fun c hc=>by
  rcases f0f.1 hc with hc | hc
  .exact k.cls c hc
  .rw [f06.1 hc];exact jkb
 have kv:=k.iw.vals (jgg p i)
 have us':∀ (o:Opd) (j:Nat),j<uses->∃ u,(x.1.ops++[o])[j]?=some u/\u.kind=1:=fun o j hj=>by
  obtain⟨u,h1,h2⟩:=k.us j hj
  refine⟨u,?_,h2⟩
  rw[f0v]
  .exact h1
  .rcases f0j j x.1.ops.length with h3 | h3
   .exact h3
   .rw [f0t h3] at h1;cases h1
 unfold jpt
 simp only
 by_cases hr:1+x.1.limits % 5=5/\j09 x.2.2 p uses x.2.1 (jgg p i) x.1=true
 .rw [if_pos hr]
  have h:=hr.2
  unfold j09 at h
  simp only[f01,decide_eq_true_eq,f1w,k.wm] at h
  obtain⟨h1,h2,h3,h4,h5⟩:=h
  obtain⟨u,hu,hu2⟩:=k.us _ h1
  have eu:x.1.ops.getD (pk p.b (uses+1)) ⟨0,0,false,0,0⟩=u:=by rw[f0n,hu];rfl
  rw[eu] at h3 h5
  have hul:=(k.iw.opd u (f0c hu)).val
  have hnp:∀ c,jfj (x.2.2.values++[jgg p i]) c ⟨2,x.2.2.values.length,true,5,pk p.b (uses+1)⟩=decide (jgg p i=c):=fun c=>by
   unfold jfj;rw[juw];simp
  have hk:=kv.app (j1u hc2) (o:=⟨2,x.2.2.values.length,true,5,pk p.b (uses+1)⟩) (need:=s2 x.1.need (jgg p i) (g2 x.1.need (jgg p i)+1)) (fixed:=x.1.fixed) (lim:=x.1.limits / 5)
   ⟨.inr rfl,by simp,by simp,fun h=>by simp at h,fun h=>by simp at h,fun _=>⟨rfl,rfl⟩⟩
   (fun _=>⟨⟨u,hu,hu2,h3,by simp only;rw[juv hul,juw];exact h5⟩,fun q hq h=>by
    rw[k.re q hq h];exact fun e=>h2 e.symm⟩)
   (fun c hc=>by
    rw[j7z jkb hc,hnp]
    by_cases h:jgg p i=c
    .subst h;simp
    .simp only[decide_eq_true_eq];rw[if_neg (fun e=>h e.symm),if_neg h];rfl)
   (fun c hc h=>by rw[hnp] at h;rw[←of_decide_eq_true h];exact h4)
   (fun c hc=>by simp) (fun h=>by simp at h)
  refine⟨rfl,⟨_,rfl,rfl,rfl⟩,hk,fun hno=>⟨k.wm,hk,hc2,us' _,fun o ho h=>?_⟩⟩
  rcases f0f.1 ho with ho | ho
  .exact absurd h (hno o ho)
  .rw [f06.1 ho]
 .rw [if_neg hr]
  have hw:1<=(if 1+x.1.limits % 5=5 then 1 else 1+x.1.limits % 5)/\(if 1+x.1.limits % 5=5 then 1 else 1+x.1.limits % 5)<=4:=by split<;>omega
  have hl:=kv.lim (j1u hc2) (kd:=2) (v:=x.2.2.values.length) (late:=decide (flags / 2 ^ (9+i) % 2=1)) (lim:=x.1.limits / 5) hw (.inr rfl) (by simp)
  rw[juw,←k.wm] at hl
  rw[←k.wm]
  refine⟨rfl,⟨_,rfl,rfl,rfl⟩,hl.1,fun hno=>⟨rfl,hl.1,hc2,us' _,fun o ho h=>?_⟩⟩
  rcases f0f.1 ho with ho | ho
  .exact absurd h (hno o ho)
  .rw [f06.1 ho] at h;exact absurd h hl.2
theorem qdy {m:Nat×Nat} {x:Iw×Nat×Ms} (k:Df m uses x) (h5:∀ o∈x.1.ops,o.limit≠5) (p:Pc) (flags:Nat) {d:Nat} (hd:d=1∨d=2) :
 ∃ (cs:List Nat) (os:List Opd),(cs=[jgg p 0]∨cs=[jgg p 0,jgg p 1])/\cs.length=d/\(∀ c∈cs,c<2)/\(jja p flags uses d 0 x).2.2={ x.2.2 with values:=x.2.2.values++cs }/\(jja p flags uses d 0 x).1.ops=x.1.ops++os/\(∀ o∈os,o.kind=2)/\os.map (·.value)=List.range' x.2.2.values.length d /\
 IwOk m (x.2.2.values++cs) (jja p flags uses d 0 x).1:=by
 obtain⟨e1,⟨o1,e2,e3,e4⟩,e5,e6⟩:=j89 k p flags 0
 rcases hd with rfl | rfl
 .refine ⟨[jgg p 0],[o1],.inl rfl,rfl,fun c hc=>by rw[f06.1 hc];exact jkb,e1,e2,fun o ho=>by rw[f06.1 ho];exact e3,by simp[e4],e5⟩
 .obtain ⟨f1,⟨o2,f2,f3,f4⟩,f5,f6⟩:=j89 (e6 h5) p flags 1
  rw[e1] at f1 f4 f5
  refine⟨[jgg p 0,jgg p 1],[o1,o2],.inr rfl,rfl,fun c hc=>?_,?_,?_,fun o ho=>?_,?_,?_⟩
  .simp only[f0h,f2d,or_false] at hc
   rcases hc with rfl | rfl<;>exact jkb
  .exact f1.trans (by simp)
  .exact f2.trans (by rw[e2];simp)
  .simp only[f0h,f2d,or_false] at ho
   rcases ho with rfl | rfl<;>assumption
  .simp [e4,f4,List.range']
  .have:x.2.2.values++[jgg p 0,jgg p 1]=(x.2.2.values++[jgg p 0])++[jgg p 1]:=by simp
   rw[this];exact f5
theorem jbg (c r:Nat):∀ k,(jbx c r k).length=k
 | 0=>rfl
 | k+1=>by simp[jbx,jbg c r k]
theorem jb9 {c:Nat}:∀ {k i:Nat} {q:Nat×Nat},(jbx c r k)[i]?=some q->q=(c,r - (k - i))/\i<k
 | 0,i,q,h=>by simp[jbx] at h
 | k+1,0,q,h=>by
  simp only[jbx,f04,Option.some.injEq] at h
  exact⟨h.symm,by omega⟩
 | k+1,i+1,q,h=>by
  simp only[jbx,f2i] at h
  obtain⟨h1,h2⟩:=jb9 h
  exact⟨by rw[h1];congr 2;omega,by omega⟩
theorem jek {c k:Nat} {q:Nat×Nat} (h:q∈jbx c r k):q.1=c/\r - k<=q.2/\(k<=r->q.2<r):=by
 obtain⟨i,hi⟩:=f2h h
 obtain⟨rfl,h2⟩:=jb9 hi
 exact⟨rfl,by simp only;omega,fun h=>by simp only;omega⟩
theorem jmu {c k d:Nat}:(jbx c r k).countP (fun q=>decide (q.1=d))=if c=d then k else 0:=by
 by_cases h:c=d
 .rw [if_pos h,List.countP_eq_length.2 (fun q hq=>by rw[(jek hq).1];simpa using h),jbg]
 .rw [if_neg h,List.countP_eq_zero.2 (fun q hq=>by rw[(jek hq).1];simpa using h)]
theorem IwOk.fix_lt {m:Nat×Nat} {s:Iw} (k:IwOk m vs s) {i:Nat} {o:Opd} (ho:s.ops[i]?=some o) {r:Nat×Nat} (h:j88 vs s.ops o=some r) :
 ∃ j u,s.ops[j]?=some u/\u.limit=4/\r=(cl vs u.value,u.n)/\((o.limit≠5/\j=i/\u=o)∨(o.limit=5/\j=o.n)):=by
 unfold j88 at h
 split at h
 .rename_i h4
  unfold qe6 at h4 h
  by_cases h5:o.limit=5
  .rw [if_pos h5] at h4 h
   obtain⟨u,h6,_⟩:=k.reu o (f0c ho) h5
   rw[f0n,h6] at h4 h
   exact⟨o.n,u,h6,h4,(Option.some.inj h).symm,.inr ⟨h5,rfl⟩⟩
  .rw [if_neg h5] at h4 h
   exact⟨i,o,ho,h4,(Option.some.inj h).symm,.inl ⟨h5,rfl,rfl⟩⟩
 .cases h
theorem IwOk.ins {m:Nat×Nat} {s:Iw} (k:IwOk m vs s) (hcl:∀ v,cl vs v<2) (hm:m.1<=10/\m.2<=10) (hl:s.ops.length<=5) {op n1 n2:Nat} (hop:op<=255) (h1:n1<=m.1 - 1 - s.need.1) (h2:n2<=m.2 - 1 - s.need.2) :
 InsOk m vs ⟨op,s.ops,jbx 0 m.1 n1++jbx 1 m.2 n2⟩:=by
 have d0:s.need.1+1<=m.1:=k.needlt 0 (by omega)
 have d1:s.need.2+1<=m.2:=k.needlt 1 (by omega)
 have f0:s.fixed.1<=s.need.1:=k.fixle 0 (by omega)
 have f1:s.fixed.2<=s.need.2:=k.fixle 1 (by omega)
 have mem:∀ r∈jbx 0 m.1 n1++jbx 1 m.2 n2,r.1<2/\r.2<g2 m r.1/\g2 s.need r.1<r.2:=fun r hr=>by
  rcases f0f.1 hr with hr | hr
  .obtain ⟨e,h3,h4⟩:=jek hr
   have:=h4 (by omega)
   rw[e];refine⟨by omega,?_,?_⟩
   .show r.2<m.1;omega
   .show s.need.1<r.2;omega
  .obtain ⟨e,h3,h4⟩:=jek hr
   have:=h4 (by omega)
   rw[e];refine⟨by omega,?_,?_⟩
   .show r.2<m.2;omega
   .show s.need.2<r.2;omega
 refine⟨hop,f0w hl (by omega),?_,k.opd,k.reu,fun r hr=>⟨(mem r hr).1,(mem r hr).2.1⟩,fun i q r hq hr=>?_,fun o ho r hr hs=>?_,fun i j o p hij hi hj=>⟨fun h5 h6 e=>?_,fun r hr hs=>?_⟩,fun c hc=>?_⟩
 .simp only[f0g,jbg];omega
 .simp only at hq hr
  rcases f0j (i+1) n1 with h3 | h3
  .rw [f0v (by rw[jbg];omega)] at hq hr
   have a1:=jb9 hq
   have a2:=jb9 hr
   rw[a1.1,a2.1];right;refine⟨rfl,?_⟩
   simp only;omega
  .rw [f02 (by rw[jbg];omega)] at hr
   have a2:=jb9 hr
   rw[jbg] at a2
   rcases f0j i n1 with h4 | h4
   .rw [f0v (by rw[jbg];omega)] at hq
    have a1:=jb9 hq
    rw[a1.1,a2.1];left;exact Nat.zero_lt_one
   .rw [f02 (by rw[jbg];omega),jbg] at hq
    have a1:=jb9 hq
    rw[a1.1,a2.1];right;refine⟨rfl,?_⟩
    simp only;omega
 .obtain ⟨i,hi⟩:=f2h ho
  obtain⟨j,u,hu,hu4,e,_⟩:=k.fix_lt hi hr
  have h3:=k.fixlt u (f0c hu) hu4
  have h4:=(mem r hs).2.2
  rw[e] at h4
  have h5:=k.fixle _ (hcl u.value)
  simp only at h4;omega
 .have:=k.reinj i j o p hi hj h5 h6 e;omega
 .obtain ⟨a,u,hu,hu4,e,hx⟩:=k.fix_lt hi hr
  obtain⟨b,v,hv,hv4,e',hy⟩:=k.fix_lt hj hs
  rw[e] at e'
  have hab:=k.fixinj a b u v hu hv hu4 hv4 (Prod.mk.inj e').1 (Prod.mk.inj e').2
  subst hab
  rcases hx with⟨h5,rfl,_⟩ | ⟨h5,rfl⟩
  .rcases hy with⟨h6,rfl,_⟩ | ⟨h6,h7⟩
   .omega
   .exact .inr ⟨h6,h7.symm⟩
  .rcases hy with⟨h6,h7,_⟩ | ⟨h6,h7⟩
   .exact .inl ⟨h5,h7⟩
   .have:=k.reinj i j o p hi hj h5 h6 h7;omega
 .simp only[List.countP_append,jmu,k.need c hc]
  have:c=0∨c=1:=by omega
  rcases this with rfl | rfl
  .show (if 0=0 then n1 else 0)+(if 1=0 then n2 else 0)+s.need.1<m.1
   simp;omega
  .show (if 0=1 then n1 else 0)+(if 1=1 then n2 else 0)+s.need.2<m.2
   simp;omega
theorem j1w {w:Ms} (hm:(2<=w.m.1/\w.m.1<=10)/\(2<=w.m.2/\w.m.2<=10)) (hc:∀ c∈w.values,c<2) (hk:∀ v∈w.known,v<w.values.length) (p:Pc) :
 ∃ (cs:List Nat),(cs=[jgg p 0]∨cs=[jgg p 0,jgg p 1])/\(∀ c∈cs,c<2)/\(jcz w p).2={ w with values:=w.values++cs }/\InsOk w.m (w.values++cs) (jcz w p).1/\jgh (jcz w p).1=List.range' w.values.length cs.length/\(jcz w p).1.ops.length<=5/\∀ o∈(jcz w p).1.ops,o.kind=1->o.value∈w.known:=by
 have hcl:=j1u hc
 have h0:IwOk w.m w.values ⟨[],pk p.limits (2 ^ 40),(0,0),(0,0)⟩:=by
  refine⟨fun o ho=>by simp at ho,fun o ho=>by simp at ho,fun c hc=>?_,fun c hc=>?_,fun c hc=>f0d _,fun o ho=>by simp at ho,fun i j o q h=>by simp at h,fun i j o q h=>by simp at h⟩
  .show 0=g2 (0,0) c
   unfold g2;split<;>rfl
  .have h1:g2 (0,0) c=0:=by unfold g2;split<;>rfl
   show g2 (0,0) c+1<=g2 w.m c
   rw[h1];unfold g2;split<;>omega
 unfold jcz
 simp only
 have h1:=j1v (p:=p) (flags:=pk p.flags (2 ^ 30)) hc hk (if w.known=[] then 0 else pk p.flags (2 ^ 30) % 4) 0 ⟨[],pk p.limits (2 ^ 40),(0,0),(0,0)⟩ (by
  by_cases h:w.known=[]
  .right;rw[if_pos h]
  .exact .inl h) h0 ⟨fun o ho=>by simp at ho⟩
 have hd:(if w.known=[] then 0 else pk p.flags (2 ^ 30) % 4)<=3:=by split<;>omega
 generalize ji9 w p (pk p.flags (2 ^ 30)) (if w.known=[] then 0 else pk p.flags (2 ^ 30) % 4) 0 ⟨[],pk p.limits (2 ^ 40),(0,0),(0,0)⟩=s at *
 obtain⟨a1,a2,a3⟩:=h1
 simp only[f1j,f0y] at a3
 have df:Df w.m s.ops.length (s,s.ops.length,w):=⟨rfl,a1,hc,fun i hi=>⟨s.ops[i],f0b hi,(a2.one _ (f2r hi)).1⟩,fun o ho h=>absurd h (a2.one o ho).2.1⟩
 obtain⟨cs,os,b0,b1,b2,b3,b4,b5,b6,b7⟩:=qdy df (fun o ho=>(a2.one o ho).2.1) p (pk p.flags (2 ^ 30)) (d:=1+pk p.flags (2 ^ 30) / 2 ^ 8 % 2) (by omega)
 simp only at b3 b4 b6 b7
 generalize jja p (pk p.flags (2 ^ 30)) s.ops.length (1+pk p.flags (2 ^ 30) / 2 ^ 8 % 2) 0 (s,s.ops.length,w)=x at *
 have hcl':∀ v,cl (w.values++cs) v<2:=j1u (fun c h=>by
  rcases f0f.1 h with h | h
  .exact hc c h
  .exact b2 c h)
 have hol:os.length=cs.length:=by
  have:=congrArg List.length b6
  rw[f05,List.length_range'] at this;omega
 have hlen:x.1.ops.length<=5:=by rw[b4,f0g];omega
 have hpo:=pkl (n:=p.op) (m:=256) (by omega)
 refine⟨cs,b0,b2,b3,?_,?_,hlen,fun o ho hk1=>?_⟩
 .unfold j1a
  split
  .exact b7.ins hcl' ⟨hm.1.2,hm.2.2⟩ hlen (by omega) (Nat.min_le_right ..) (Nat.min_le_right ..)
  .exact b7.ins (n1:=0) (n2:=0) hcl' ⟨hm.1.2,hm.2.2⟩ hlen (by omega) (f1r _) (f1r _)
 .unfold jgh
  simp only
  rw[b4,List.filter_append,List.filter_eq_nil_iff.2 (fun o ho=>by rw[(a2.one o ho).1];simp),List.filter_eq_self.2 (fun o ho=>by simpa using b5 o ho),f1l,b6,b1]
 .rw [b4] at ho
  rcases f0f.1 ho with ho | ho
  .exact (a2.one o ho).2.2
  .rw [b5 o ho] at hk1;cases hk1
def jkc:Blk:=⟨[],[],[]⟩
def js9 (b:Blk):List Nat:=b.params++(b.instrs.map jgh).flatten
def jhh (l:List Blk):List Nat:=(l.map js9).flatten
def nI (w:Ms) (k:Nat):Nat:=(w.blocks.getD k jkc).instrs.length
def nE (w:Ms) (k:Nat):Nat:=(w.blocks.getD k jkc).edges.length
def sm (l:List Blk):Nat:=(l.map (fun b=>b.instrs.length)).sum
def jxu (vs:List Nat) (bs:List Blk) (e:Edg):Prop:=1<=e.block/\(∀ v∈e.args,v<vs.length)/\∃ t,bs[e.block]?=some t/\t.params.map (cl vs)=e.args.map (cl vs)/\∀ v∈t.params,v<vs.length
structure Vok (w:Ms):Prop where
 mm:(2<=w.m.1/\w.m.1<=10)/\(2<=w.m.2/\w.m.2<=10)
 cls:∀ c∈w.values,c<2
 kn:∀ v∈w.known,v<w.values.length
 cur:w.cur<w.blocks.length
 ins:∀ b∈w.blocks,∀ x∈b.instrs,InsOk w.m w.values x
 prm:∀ b∈w.blocks,∀ v∈b.params,v<w.values.length
 pl:∀ b∈w.blocks,b.params.length<=2
 edg:∀ b∈w.blocks,∀ e∈b.edges,jxu w.values w.blocks e
 ent:∀ b,w.blocks[0]?=some b->b.params=[]
 made:(jhh w.blocks).Perm (List.range w.values.length)
structure Gr (w w':Ms):Prop where
 m:w'.m=w.m
 vals:∃ l,w'.values=w.values++l
 blk:∀ (k:Nat) (t:Blk),w.blocks[k]?=some t->∃ t',w'.blocks[k]?=some t'/\t'.params=t.params
 len:∀ k,nI w k<=nI w' k
theorem Gr.refl (w:Ms):Gr w w:=⟨rfl,⟨[],by simp⟩,fun k t h=>⟨t,h,rfl⟩,fun k=>f0d _⟩
theorem Gr.trans {c:Ms} (x:Gr a b) (y:Gr b c):Gr a c:=by
 refine⟨y.m.trans x.m,?_,fun k t h=>?_,fun k=>f0w (x.len k) (y.len k)⟩
 .obtain ⟨l,h1⟩:=x.vals
  obtain⟨r,h2⟩:=y.vals
  exact⟨l++r,by rw[h2,h1,f0l]⟩
 .obtain ⟨t1,h1,e1⟩:=x.blk k t h
  obtain⟨t2,h2,e2⟩:=y.blk k t1 h1
  exact⟨t2,h2,e2.trans e1⟩
theorem Gr.vlen (x:Gr a b):a.values.length<=b.values.length:=by
 obtain⟨l,h⟩:=x.vals;rw[h];simp
theorem Gr.cl (x:Gr a b) {v:Nat} (h:v<a.values.length):cl b.values v=cl a.values v:=by
 obtain⟨l,e⟩:=x.vals;rw[e];exact juv h
def Tg (w:Ms) (e:Nat) (cs:List Nat):Prop:=∃ t,w.blocks[e]?=some t/\t.params.map (cl w.values)=cs/\∀ v∈t.params,v<w.values.length
theorem Tg.gr (x:Gr a b) {cs:List Nat} (h:Tg a e cs):Tg b e cs:=by
 obtain⟨t,h1,h2,h3⟩:=h
 obtain⟨t',h4,h5⟩:=x.blk e t h1
 refine⟨t',h4,?_,fun v hv=>f0m (h3 v (h5▸hv)) x.vlen⟩
 rw[h5,←h2]
 exact f1u fun v hv=>x.cl (h3 v hv)
theorem InsOk.app {m:Nat×Nat} {x:Ins} (k:InsOk m vs x) (l:List Nat):InsOk m (vs++l) x:=by
 have e:∀ o∈x.ops,cl (vs++l) o.value=cl vs o.value:=fun o ho=>juv (k.opd o ho).val
 have es:∀ o∈x.ops,j88 (vs++l) x.ops o=j88 vs x.ops o:=fun o ho=>by
  unfold j88
  have:qe6 x.ops o∈x.ops:=by
   unfold qe6
   split
   .rename_i h5
    obtain⟨u,h1,_⟩:=k.reu o ho h5
    rw[f0n,h1];exact f0c h1
   .exact ho
  rw[e _ this]
 refine⟨k.op,k.nops,k.nsp,fun o ho=>?_,fun o ho h=>?_,k.spo,k.ord,fun o ho r h=>k.sp o ho r (by rw[←es o ho];exact h),fun i j o p hij hi hj=>⟨(k.cla i j o p hij hi hj).1,fun r h1 h2=>(k.cla i j o p hij hi hj).2 r (by rw[←es o (f0c hi)];exact h1) (by rw[←es p (f0c hj)];exact h2)⟩,fun c hc=>?_⟩
 .have:=k.opd o ho
  exact⟨this.kind,this.lim,by have:=this.val;simp;omega,fun h=>by rw[e o ho];exact this.fix h,this.zero,this.reu⟩
 .obtain ⟨u,h1,h2,h3,h4⟩:=k.reu o ho h
  exact⟨u,h1,h2,h3,by rw[e o ho,e u (f0c h1)];exact h4⟩
 .have h1:=k.need c hc
  have h2:x.ops.countP (jfj (vs++l) c)=x.ops.countP (jfj vs c):=List.countP_congr fun o ho=>by unfold jfj;rw[e o ho]
  rw[h2];exact h1
theorem jd6 {l:List Blk} {k:Nat} {f:Blk->Blk} (hk:k<l.length):(l.modify k f).getD j jkc=if j=k then f (l.getD j jkc) else l.getD j jkc:=by
 rw[f0n,f0n,List.getElem?_modify]
 by_cases h:j=k
 .subst h
  rw[f0b hk];simp
 .have h':¬ k=j:=fun e=>h e.symm
  cases l[j]?<;>simp[h,h']
theorem jcs {l:List Blk} {k:Nat} {f:Blk->Blk} {b:Blk} (h:b∈l.modify k f):b∈l∨∃ c,c∈l/\l[k]?=some c/\b=f c:=by
 obtain⟨i,hi⟩:=f2h h
 rw[List.getElem?_modify] at hi
 cases e:l[i]? with
 | none=>rw[e] at hi;cases hi
 | some c =>
  rw[e] at hi
  by_cases hk:k=i
  .subst hk
   simp only[Option.map_eq_map,f1m,if_true,Option.some.injEq] at hi
   exact .inr ⟨c,f0c e,e,hi.symm⟩
  .simp only[Option.map_eq_map,f1m,if_neg hk,Option.some.injEq] at hi
   exact .inl (hi▸f0c e)
theorem jop {l:List Blk} {k:Nat} (hk:k<l.length):l=l.take k++(l.getD k jkc::l.drop (k+1))/\∀ f,l.modify k f=l.take k++(f (l.getD k jkc)::l.drop (k+1)):=by
 have e:l.getD k jkc=l[k]:=by rw[f0n,f0b hk];rfl
 refine⟨by rw[e];simp,fun f=>?_⟩
 rw[List.modify_eq_take_cons_drop hk,e]
theorem jgi (a b:List Blk):jhh (a++b)=jhh a++jhh b:=by unfold jhh;simp
theorem jq7 (a b:List Blk):sm (a++b)=sm a+sm b:=by unfold sm;simp
theorem j1x {l:List Blk} {k:Nat} (hk:k<l.length) (x:Ins):(jhh (jbf l k x)).Perm (jhh l++jgh x):=by
 obtain⟨h1,h2⟩:=jop hk
 unfold jbf
 rw[h2,jgi]
 conv=>rhs;rw[h1,jgi,f0l]
 refine List.Perm.append_left _ ?_
 show(js9 _++jhh _).Perm (js9 _++jhh _++jgh x)
 have:js9 { params:=(l.getD k jkc).params,instrs:=(l.getD k jkc).instrs++[x],edges:=(l.getD k jkc).edges }=js9 (l.getD k jkc)++jgh x:=by unfold js9;simp
 rw[this,f0l,f0l]
 exact List.Perm.append_left _ List.perm_append_comm
theorem qhr {l:List Blk} {k:Nat} (hk:k<l.length) (x:Ins):sm (jbf l k x)=sm l+1:=by
 obtain⟨h1,h2⟩:=jop hk
 unfold jbf
 rw[h2,jq7]
 conv=>rhs;rw[h1,jq7]
 simp[sm];omega
theorem j1y {l:List Blk} {k:Nat} (hk:k<l.length) (g:List Edg->List Edg):jhh (l.modify k (fun b=>{ b with edges:=g b.edges }))=jhh l/\sm (l.modify k (fun b=>{ b with edges:=g b.edges }))=sm l:=by
 obtain⟨h1,h2⟩:=jop hk
 rw[h2,jgi,jq7]
 refine⟨?_,?_⟩
 .conv=>rhs;rw[h1,jgi]
  rfl
 .conv=>rhs;rw[h1,jq7]
  rfl
theorem jxu.gr (x:Gr a b) {e:Edg} (h:jxu a.values a.blocks e):jxu b.values b.blocks e:=by
 obtain⟨h1,h2,t,h3,h4,h5⟩:=h
 obtain⟨t',h6,h7⟩:=x.blk _ t h3
 refine⟨h1,fun v hv=>f0m (h2 v hv) x.vlen,t',h6,?_,fun v hv=>f0m (h5 v (h7▸hv)) x.vlen⟩
 rw[h7,f1u (fun v hv=>x.cl (h5 v hv)),h4]
 exact(f1u (fun v hv=>x.cl (h2 v hv))).symm
theorem jh7 {l:List Blk} {k:Nat} {f:Blk->Blk} (hf:∀ b,(f b).params=b.params) {t:Blk} (h:l[j]?=some t):∃ t',(l.modify k f)[j]?=some t'/\t'.params=t.params:=by
 rw[List.getElem?_modify,h]
 by_cases e:k=j
 .exact ⟨f t,by simp[e],hf t⟩
 .exact ⟨t,by simp[e],rfl⟩
theorem jg7 {l:List Blk} {k:Nat} {f:Blk->Blk} (hf:∀ b,(f b).params=b.params) {t:Blk} (h:(l.modify k f)[j]?=some t):∃ t',l[j]?=some t'/\t.params=t'.params:=by
 rw[List.getElem?_modify] at h
 cases e:l[j]? with
 | none=>rw[e] at h;cases h
 | some c =>
  rw[e] at h
  by_cases hk:k=j
  .simp only[Option.map_eq_map,f1m,if_pos hk,Option.some.injEq] at h
   exact⟨c,rfl,by rw[←h];exact hf c⟩
  .simp only[Option.map_eq_map,f1m,if_neg hk,Option.some.injEq] at h
   exact⟨c,rfl,by rw[←h]⟩
theorem qhs {w:Ms} (v:Vok w) (p:Pc):Vok (jka w p)/\Gr w (jka w p)/\(jka w p).cur=w.cur/\(jka w p).blocks.length=w.blocks.length/\(jka w p).values.length<=w.values.length+2/\sm (jka w p).blocks=sm w.blocks+1 /\
 (∀ k,nI (jka w p) k=nI w k+if k=w.cur then 1 else 0)/\(∀ k,nE (jka w p) k=nE w k) /\
 ∃ cs,(cs=[jgg p 0]∨cs=[jgg p 0,jgg p 1])/\(jka w p).values=w.values++cs/\(jka w p).known=w.known++List.range' w.values.length cs.length:=by
 obtain⟨cs,h1,h2,h3,h4,h5,h6,h7⟩:=j1w v.mm v.cls v.kn p
 unfold jka
 simp only[h3,h5]
 obtain⟨x,hx⟩:∃ x,(jcz w p).1=x:=⟨_,rfl⟩
 rw[hx] at h4 h5 ⊢
 have hl:cs.length=1∨cs.length=2:=by rcases h1 with h | h<;>rw[h]<;>simp
 have gr:Gr w ⟨w.m,w.values++cs,jbf w.blocks w.cur x,w.cur,w.known++List.range' w.values.length cs.length,w.all+1⟩ :=
  ⟨rfl,⟨cs,rfl⟩,fun k t h=>jh7 (f:=fun b=>{ b with instrs:=b.instrs++[x] }) (fun _=>rfl) h,fun k=>by
   unfold nI jbf;simp only
   rw[jd6 v.cur]
   split
   .simp
   .exact f0d _⟩
 refine⟨⟨v.mm,fun c hc=>?_,fun u hu=>?_,by simp only[jbf,f2u];exact v.cur,fun b hb y hy=>?_,fun b hb u hu=>?_,fun b hb=>?_,fun b hb e he=>?_,fun b hb=>?_,?_⟩,gr,by first | rfl | trivial,by simp[jbf],by simp;omega,qhr v.cur x,fun k=>?_,fun k=>?_,cs,h1,rfl,rfl⟩
 .rcases f0f.1 hc with hc | hc
  .exact v.cls c hc
  .exact h2 c hc
 .rcases f0f.1 hu with hu | hu
  .have:=v.kn u hu;simp;omega
  .rw [List.mem_range'_1] at hu;simp;omega
 .rcases jcs hb with hb | ⟨c,hc,hc2,rfl⟩
  .exact (v.ins b hb y hy).app cs
  .rcases f0f.1 hy with hy | hy
   .exact (v.ins c hc y hy).app cs
   .rw [f06.1 hy];exact h4
 .rcases jcs hb with hb | ⟨c,hc,hc2,rfl⟩
  .have:=v.prm b hb u hu;simp;omega
  .have:=v.prm c hc u hu;simp;omega
 .rcases jcs hb with hb | ⟨c,hc,hc2,rfl⟩
  .exact v.pl b hb
  .exact v.pl c hc
 .rcases jcs hb with hb | ⟨c,hc,hc2,rfl⟩
  .exact (v.edg b hb e he).gr gr
  .exact (v.edg c hc e he).gr gr
 .obtain ⟨t,ht,e⟩:=jg7 (f:=fun b=>{ b with instrs:=b.instrs++[x] }) (fun _=>rfl) hb
  rw[e];exact v.ent t ht
 .refine (j1x v.cur x).trans ?_
  rw[h5]
  refine(v.made.append_right _).trans ?_
  rw[f0g,List.range_add,List.range'_eq_map_range]
 .unfold nI jbf;simp only
  rw[jd6 v.cur]
  split
  .simp
  .rfl
 .unfold nE jbf;simp only
  rw[jd6 v.cur]
  split<;>rfl
theorem qdz {w:Ms} (v:Vok w) (cs:List Nat) (h1:cs.length<=2) (h2:∀ c∈cs,c<2):Vok (ja2 w cs)/\Gr w (ja2 w cs)/\(ja2 w cs).blocks.length=w.blocks.length+1/\(ja2 w cs).values.length=w.values.length+cs.length/\sm (ja2 w cs).blocks=sm w.blocks /\
 (∀ k,nI (ja2 w cs) k=nI w k)/\(∀ k,nE (ja2 w cs) k=nE w k)/\Tg (ja2 w cs) w.blocks.length cs:=by
 have hg:∀ k,(w.blocks++[(⟨List.range' w.values.length cs.length,[],[]⟩:Blk)]).getD k jkc=w.blocks.getD k jkc∨(k=w.blocks.length/\(w.blocks++[(⟨List.range' w.values.length cs.length,[],[]⟩:Blk)]).getD k jkc=⟨List.range' w.values.length cs.length,[],[]⟩/\w.blocks.getD k jkc=jkc):=fun k=>by
  rw[f0n,f0n]
  rcases f2k k w.blocks.length with h | h | h
  .left;rw[f0v h]
  .right;subst h;simp
  .left;rw[f0t (by simp;omega),f0t (by omega)]
 have ni:∀ k,nI (ja2 w cs) k=nI w k:=fun k=>by
  unfold nI ja2;simp only
  rcases hg k with h | ⟨_,h,h'⟩
  .rw [h]
  .rw [h,h'];rfl
 have gr:Gr w (ja2 w cs):=⟨rfl,⟨cs,rfl⟩,fun k t h=>⟨t,(f0v (by
  rcases f0j k w.blocks.length with h3 | h3
  .exact h3
  .rw [f0t h3] at h;cases h)).trans h,rfl⟩,fun k=>f2j (ni k).symm⟩
 have hb':∀ b∈(ja2 w cs).blocks,b∈w.blocks∨b=⟨List.range' w.values.length cs.length,[],[]⟩:=fun b hb=>by
  rcases f0f.1 hb with hb | hb
  .exact .inl hb
  .exact .inr (f06.1 hb)
 have hpos:0<w.blocks.length:=by have:=v.cur;omega
 have hvl:(ja2 w cs).values.length=w.values.length+cs.length:=by simp[ja2]
 refine⟨⟨v.mm,fun c hc=>?_,fun u hu=>by have:=v.kn u hu;omega,by have:=v.cur;simp[ja2];omega,fun b hb y hy=>?_,fun b hb u hu=>?_,fun b hb=>?_,fun b hb e he=>?_,fun b hb=>?_,?_⟩,gr,by simp[ja2],hvl,?_,ni,fun k=>?_,?_⟩
 .rcases f0f.1 hc with hc | hc
  .exact v.cls c hc
  .exact h2 c hc
 .rcases hb' b hb with hb | rfl
  .exact (v.ins b hb y hy).app cs
  .cases hy
 .rcases hb' b hb with hb | rfl
  .have:=v.prm b hb u hu;omega
  .simp only[List.mem_range'_1] at hu;omega
 .rcases hb' b hb with hb | rfl
  .exact v.pl b hb
  .simpa using h1
 .rcases hb' b hb with hb | rfl
  .exact (v.edg b hb e he).gr gr
  .cases he
 .have:w.blocks[0]?=some b:=by
   unfold ja2 at hb;simp only at hb
   rwa [f0v hpos] at hb
  exact v.ent b this
 .show (jhh (w.blocks++[_])).Perm _
  rw[jgi,hvl,List.range_add]
  have:jhh [(⟨List.range' w.values.length cs.length,[],[]⟩:Blk)]=List.map (fun x=>w.values.length+x) (List.range cs.length):=by
   rw[←List.range'_eq_map_range];simp[jhh,js9]
  rw[this]
  exact v.made.append_right _
 .show sm (w.blocks++[_])=_
  rw[jq7];rfl
 .unfold nE ja2;simp only
  rcases hg k with h | ⟨_,h,h'⟩
  .rw [h]
  .rw [h,h'];rfl
 .refine ⟨⟨List.range' w.values.length cs.length,[],[]⟩,by simp[ja2],?_,fun u hu=>by simp only[List.mem_range'_1] at hu;omega⟩
  simp only[ja2]
  apply f2y
  intro i
  rw[f07]
  rcases f0j i cs.length with h | h
  .rw [List.getElem?_range' h,f0b h]
   simp only[f1m,Option.some.injEq]
   unfold cl
   rw[f0n,f02 (by omega)]
   rw[show w.values.length+1*i - w.values.length=i by omega,f0b h];rfl
  .rw [f0t (by simpa using h),f0t h];rfl
theorem qht {w:Ms} (v:Vok w) {k to:Nat} {args:List Nat} (hk:k<w.blocks.length) (h1:1<=to) (ht:Tg w to (args.map (cl w.values))) (ha:∀ u∈args,u<w.values.length):Vok (jdg w k to args)/\Gr w (jdg w k to args) /\
 (jdg w k to args).blocks.length=w.blocks.length/\sm (jdg w k to args).blocks=sm w.blocks/\(∀ j,nI (jdg w k to args) j=nI w j)/\(∀ j,nE (jdg w k to args) j=nE w j+if j=k then 1 else 0):=by
 have ni:∀ j,nI (jdg w k to args) j=nI w j:=fun j=>by
  unfold nI jdg;simp only
  rw[jd6 hk]
  split<;>rfl
 have gr:Gr w (jdg w k to args):=⟨rfl,⟨[],by simp[jdg]⟩,fun j t h=>jh7 (f:=fun b=>{ b with edges:=b.edges++[(⟨to,args⟩:Edg)] }) (fun _=>rfl) h,fun j=>f2j (ni j).symm⟩
 have md:=j1y hk (fun l=>l++[(⟨to,args⟩:Edg)])
 refine⟨⟨v.mm,v.cls,v.kn,by simp only[jdg,f2u];exact v.cur,fun b hb y hy=>?_,fun b hb u hu=>?_,fun b hb=>?_,fun b hb e he=>?_,fun b hb=>?_,?_⟩,gr,by simp[jdg],md.2,ni,fun j=>?_⟩
 .rcases jcs hb with hb | ⟨c,hc,hc2,rfl⟩
  .exact v.ins b hb y hy
  .exact v.ins c hc y hy
 .rcases jcs hb with hb | ⟨c,hc,hc2,rfl⟩
  .exact v.prm b hb u hu
  .exact v.prm c hc u hu
 .rcases jcs hb with hb | ⟨c,hc,hc2,rfl⟩
  .exact v.pl b hb
  .exact v.pl c hc
 .rcases jcs hb with hb | ⟨c,hc,hc2,rfl⟩
  .exact (v.edg b hb e he).gr gr
  .rcases f0f.1 he with he | he
   .exact (v.edg c hc e he).gr gr
   .rw [f06.1 he]
    obtain⟨t,h3,h4,h5⟩:=ht
    exact jxu.gr gr ⟨h1,ha,t,h3,h4,h5⟩
 .obtain ⟨t,ht,e⟩:=jg7 (f:=fun b=>{ b with edges:=b.edges++[(⟨to,args⟩:Edg)] }) (fun _=>rfl) hb
  rw[e];exact v.ent t ht
 .show (jhh (w.blocks.modify k _)).Perm _
  rw[md.1];exact v.made
 .unfold nE jdg;simp only
  rw[jd6 hk]
  split
  .simp
  .rfl
theorem Vok.set {w:Ms} (v:Vok w) {c:Nat} {kn:List Nat} (h1:c<w.blocks.length) (h2:∀ u∈kn,u<w.values.length):Vok { w with cur:=c,known:=kn } :=
 ⟨v.mm,v.cls,h2,h1,v.ins,v.prm,v.pl,v.edg,v.ent,v.made⟩
theorem Gr.set (w:Ms) (c:Nat) (kn:List Nat):Gr w { w with cur:=c,known:=kn }:=⟨rfl,⟨[],by simp⟩,fun k t h=>⟨t,h,rfl⟩,fun k=>f0d _⟩
theorem jq8 {w:Ms} {cls v:Nat}:∀ {n:Nat},n<=w.known.length->j1b w cls n=some v->v∈w.known/\cl w.values v=cls
 | 0,_,h=>by cases h
 | n+1,hn,h=>by
  unfold j1b at h
  simp only at h
  split at h
  .rename_i h1
   obtain rfl:=Option.some.inj h
   exact⟨by rw[f0n,f0b (by omega)];exact f2r _,h1⟩
  .exact jq8 (by omega) h
theorem jns {p:Pc} {cls i:Nat} (hc:cls<2) (hi:i<2):jgg { p with c:=3*(cls:Int) } i=cls:=by
 have h1:cls=0∨cls=1:=by omega
 have h2:i=0∨i=1:=by omega
 rcases h1 with rfl | rfl<;>rcases h2 with rfl | rfl<;>rfl
theorem j70 {w:Ms} (v:Vok w) {cls:Nat} (hc:cls<2) (p:Pc):Vok (jap w cls p).2/\Gr w (jap w cls p).2/\(jap w cls p).2.cur=w.cur/\(jap w cls p).2.blocks.length=w.blocks.length/\(jap w cls p).2.values.length<=w.values.length+2 /\
 sm (jap w cls p).2.blocks<=sm w.blocks+1/\(∀ k,nI (jap w cls p).2 k<=nI w k+if k=w.cur then 1 else 0)/\(∀ k,nE (jap w cls p).2 k=nE w k) /\
 (jap w cls p).1∈(jap w cls p).2.known/\cl (jap w cls p).2.values (jap w cls p).1=cls/\∃ r,(jap w cls p).2.known=w.known++r:=by
 unfold jap
 cases e:j1b w cls (w.known.length - pk p.b 3) with
 | some u =>
  simp only
  have h:=jq8 (by omega) e
  exact⟨v,Gr.refl w,trivial,trivial,by omega,by omega,fun k=>by omega,fun k=>trivial,h.1,h.2,[],by simp⟩
 | none =>
  simp only
  obtain⟨h1,h2,h3,h4,h5,h6,h7,h8,cs,h9,h10,h11⟩:=qhs v { p with c:=3*(cls:Int) }
  rw[jns hc (by omega),jns hc (by omega)] at h9
  have hne:(jka w { p with c:=3*(cls:Int) }).known≠[]:=by rw[h11];rcases h9 with rfl | rfl<;>simp[List.range']
  refine⟨h1,h2,h3,h4,h5,by omega,fun k=>f2j (h7 k),h8,jux hne (by have:=f21.2 hne;omega),?_,_,h11⟩
  rw[h10,h11]
  rcases h9 with rfl | rfl
  .have:(w.known++List.range' w.values.length [cls].length).getD ((w.known++List.range' w.values.length [cls].length).length - 1) 0=w.values.length:=by
    rw[f0n];simp[List.range']
   rw[this,juw]
  .have:(w.known++List.range' w.values.length [cls,cls].length).getD ((w.known++List.range' w.values.length [cls,cls].length).length - 1) 0=w.values.length+1:=by
    rw[f0n,f02 (by simp)];simp[List.range']
   rw[this]
   unfold cl
   rw[f0n,f02 (by omega)];simp
structure Bd (w:Ms) (nv nb s:Nat) (L E:Nat->Nat):Prop where
 v:Vok w
 nv:w.values.length<=nv
 nb:w.blocks.length=nb
 sum:sm w.blocks<=s
 i:∀ k,nI w k<=L k
 e:∀ k,nE w k=E k
 par:∀ k,1<nE w k->0<nI w k
def up (L:Nat->Nat) (k:Nat):Nat->Nat:=fun j=>L j+if j=k then 1 else 0
section
variable {w:Ms} {nv nb s:Nat} {L E:Nat->Nat}
theorem Bd.lay (b:Bd w nv nb s L E) (p:Pc):Bd (jka w p) (nv+2) nb (s+1) (up L w.cur) E/\Gr w (jka w p)/\(jka w p).cur=w.cur/\0<nI (jka w p) w.cur/\∃ r,(jka w p).known=w.known++r:=by
 obtain⟨h1,h2,h3,h4,h5,h6,h7,h8,cs,h9,h10,h11⟩:=qhs b.v p
 refine⟨⟨h1,by have:=b.nv;omega,h4.trans b.nb,by have:=b.sum;omega,fun k=>?_,fun k=>(h8 k).trans (b.e k),fun k hk=>?_⟩,h2,h3,by rw[h7,if_pos rfl];omega,_,h11⟩
 .rw [h7];have:=b.i k;unfold up;omega
 .rw [h8] at hk;have:=b.par k hk;rw[h7];omega
theorem Bd.newest (b:Bd w nv nb s L E) {cls:Nat} (hc:cls<2) (p:Pc):Bd (jap w cls p).2 (nv+2) nb (s+1) (up L w.cur) E/\Gr w (jap w cls p).2/\(jap w cls p).2.cur=w.cur/\(jap w cls p).1<(jap w cls p).2.values.length/\cl (jap w cls p).2.values (jap w cls p).1=cls/\∃ r,(jap w cls p).2.known=w.known++r:=by
 obtain⟨h1,h2,h3,h4,h5,h6,h7,h8,h9,h10,h11⟩:=j70 b.v hc p
 refine⟨⟨h1,by have:=b.nv;omega,h4.trans b.nb,by have:=b.sum;omega,fun k=>?_,fun k=>(h8 k).trans (b.e k),fun k hk=>?_⟩,h2,h3,h1.kn _ h9,h10,h11⟩
 .have:=h7 k;have:=b.i k;unfold up;omega
 .rw [h8] at hk;have:=b.par k hk;have:=h2.len k;omega
theorem Bd.block (b:Bd w nv nb s L E) {cs:List Nat} (h1:cs.length<=2) (h2:∀ c∈cs,c<2):Bd (ja2 w cs) (nv+cs.length) (nb+1) s L E/\Gr w (ja2 w cs)/\Tg (ja2 w cs) nb cs:=by
 obtain⟨a1,a2,a3,a4,a5,a6,a7,a8⟩:=qdz b.v cs h1 h2
 exact⟨⟨a1,by have:=b.nv;omega,by rw[a3,b.nb],by rw[a5];exact b.sum,fun k=>by rw[a6];exact b.i k,fun k=>by rw[a7];exact b.e k,fun k hk=>by rw[a6];rw[a7] at hk;exact b.par k hk⟩,a2,b.nb▸a8⟩
theorem Bd.edge (b:Bd w nv nb s L E) {k to:Nat} {args cs:List Nat} (hk:k<nb) (h1:1<=to) (ht:Tg w to cs) (hcs:args.map (cl w.values)=cs) (ha:∀ u∈args,u<w.values.length) (hp:E k=0∨0<nI w k):Bd (jdg w k to args) nv nb s L (up E k)/\Gr w (jdg w k to args):=by
 obtain⟨a1,a2,a3,a4,a5,a6⟩:=qht b.v (by rw[b.nb];exact hk) h1 (hcs▸ht) ha
 refine⟨⟨a1,b.nv,a3.trans b.nb,by rw[a4];exact b.sum,fun j=>by rw[a5];exact b.i j,fun j=>by rw[a6,b.e];rfl,fun j hj=>?_⟩,a2⟩
 rw[a6] at hj
 rw[a5]
 by_cases h:j=k
 .subst h
  rw[if_pos rfl] at hj
  rcases hp with hp | hp
  .rw [b.e,hp] at hj;omega
  .exact hp
 .rw [if_neg h] at hj;exact b.par j hj
theorem Bd.set (b:Bd w nv nb s L E) {c:Nat} {kn:List Nat} (h1:c<nb) (h2:∀ u∈kn,u<w.values.length):Bd { w with cur:=c,known:=kn } nv nb s L E :=
 ⟨b.v.set (by rw[b.nb];exact h1) h2,b.nv,b.nb,b.sum,b.i,b.e,b.par⟩
theorem Bd.le (b:Bd w nv nb s L E) {nv' s':Nat} {L':Nat->Nat} (h1:nv<=nv') (h2:s<=s') (h3:∀ k,L k<=L' k):Bd w nv' nb s' L' E :=
 ⟨b.v,f0w b.nv h1,b.nb,f0w b.sum h2,fun k=>f0w (b.i k) (h3 k),b.e,b.par⟩
theorem Bd.e0 (b:Bd w nv nb s L E) {k:Nat} (hk:nb<=k):E k=0/\nI w k=0:=by
 have:w.blocks.getD k jkc=jkc:=by rw[f0n,f0t (by rw[b.nb];exact hk)];rfl
 refine⟨?_,?_⟩
 .rw [←b.e];unfold nE;rw[this];rfl
 .unfold nI;rw[this];rfl
theorem Tg.params {w:Ms} {cs:List Nat} (h:Tg w e cs):∀ u∈(w.blocks.getD e jkc).params,u<w.values.length:=by
 obtain⟨t,h1,_,h3⟩:=h
 rw[f0n,h1];exact h3
theorem j71 {L:Nat->Nat} {k:Nat} (h:j≠k):up L k j=L j:=by unfold up;rw[if_neg h];rfl
theorem Bd.loop (b:Bd w nv nb s L E) (h0:E w.cur=0) (p:Pc) :
 Bd (j1c w p) (nv+14) (nb+3) (s+6) (up (up (up (up (up (up L w.cur) w.cur) nb) (nb+1)) (nb+1)) (nb+1)) (up (up (up (up E w.cur) nb) nb) (nb+1))/\Gr w (j1c w p)/\(j1c w p).cur=nb+2:=by
 have hc:pk p.c 2<2:=pkl (by omega)
 have hcur:w.cur<nb:=by rw[←b.nb];exact b.v.cur
 obtain⟨b1,g1,c1,l1,d1,r1,k1⟩:=b.newest hc p
 obtain⟨v,ev⟩:∃ v,jap w (pk p.c 2) p=v:=⟨_,rfl⟩
 rw[ev] at b1 g1 c1 l1 d1 k1
 obtain⟨b2,g2,c2,l2,d2,r2,k2⟩:=b1.newest (cls:=0) (by omega) p
 obtain⟨u,eu⟩:∃ u,jap v.2 0 p=u:=⟨_,rfl⟩
 rw[eu] at b2 g2 c2 l2 d2 k2
 rw[c1] at b2 c2
 obtain⟨b3,g3,t3⟩:=b2.block (cs:=[pk p.c 2,0]) (by simp) (fun c h=>by
  simp only[f0h,f2d,or_false] at h;omega)
 obtain⟨w3,e3⟩:∃ w3,ja2 u.2 [pk p.c 2,0]=w3:=⟨_,rfl⟩
 have c3:(ja2 u.2 [pk p.c 2,0]).cur=w.cur:=c2
 rw[e3] at b3 g3 t3 c3
 have lv:v.1<w3.values.length:=f0m (f0m l1 g2.vlen) g3.vlen
 have lu:u.1<w3.values.length:=f0m l2 g3.vlen
 have dv:cl w3.values v.1=pk p.c 2:=((g3.cl (f0m l1 g2.vlen)).trans (g2.cl l1)).trans d1
 have du:cl w3.values u.1=0:=(g3.cl l2).trans d2
 obtain⟨b4,g4⟩:=b3.edge (k:=w.cur) (to:=nb) (args:=[v.1,u.1]) (by omega) (by omega) t3 (by simp[dv,du]) (fun x hx=>by
  simp only[f0h,f2d,or_false] at hx
  rcases hx with rfl | rfl<;>assumption) (.inl h0)
 obtain⟨w4,e4⟩:∃ w4,jdg w3 w.cur nb [v.1,u.1]=w4:=⟨_,rfl⟩
 rw[e4] at b4 g4
 have t4:=t3.gr g4
 have kn5:∀ x∈w4.known++(w4.blocks.getD nb jkc).params,x<w4.values.length:=fun x hx=>by
  rcases f0f.1 hx with hx | hx
  .exact b4.v.kn x hx
  .exact t4.params x hx
 have b5:=b4.set (c:=nb) (by omega) kn5
 have g5:=Gr.set w4 nb (w4.known++(w4.blocks.getD nb jkc).params)
 obtain⟨w5,e5⟩:∃ w5,({ w4 with cur:=nb,known:=w4.known++(w4.blocks.getD nb jkc).params }:Ms)=w5:=⟨_,rfl⟩
 have c5:w5.cur=nb:=by rw[←e5]
 rw[e5] at b5 g5
 obtain⟨b6,g6,c6,n6,r6,k6⟩:=b5.lay { p with flags:=odd p.flags }
 obtain⟨w6,e6⟩:∃ w6,jka w5 { p with flags:=odd p.flags }=w6:=⟨_,rfl⟩
 rw[e6] at b6 g6 c6 n6 k6
 rw[c5] at b6 n6 c6
 obtain⟨b7,g7,t7⟩:=b6.block (cs:=[]) (by simp) (by simp)
 obtain⟨b8,g8,t8⟩:=b7.block (cs:=[]) (by simp) (by simp)
 obtain⟨w8,e8⟩:∃ w8,ja2 (ja2 w6 []) []=w8:=⟨_,rfl⟩
 rw[e8] at b8 g8 t8
 have z4:up E w.cur nb=0:=by rw[j71 (by omega)];exact(b.e0 (f0d _)).1
 obtain⟨b9,g9⟩:=b8.edge (k:=nb) (to:=nb+1) (args:=[]) (by omega) (by omega) (t7.gr g8) rfl (by simp) (.inl z4)
 obtain⟨b10,g10⟩:=b9.edge (k:=nb) (to:=nb+1+1) (args:=[]) (by omega) (by omega) (t8.gr g9) rfl (by simp) (.inr (by
  have:=((g7.trans g8).trans g9).len nb;omega))
 obtain⟨w10,e10⟩:∃ w10,jdg (jdg w8 nb (nb+1) []) nb (nb+1+1) []=w10:=⟨_,rfl⟩
 rw[e10] at b10 g10
 obtain⟨q,eq⟩:∃ q:Pc,(⟨p.kind,inc p.op,inc p.a,p.b,p.c,p.limits,odd p.flags⟩:Pc)=q:=⟨_,rfl⟩
 have b11:=b10.set (c:=nb+1) (kn:=w10.known) (by omega) b10.v.kn
 have g11:=Gr.set w10 (nb+1) w10.known
 obtain⟨w11,e11⟩:∃ w11,({ w10 with cur:=nb+1,known:=w10.known }:Ms)=w11:=⟨_,rfl⟩
 have c11:w11.cur=nb+1:=by rw[←e11]
 rw[e11] at b11 g11
 obtain⟨b12,g12,c12,n12,r12,k12⟩:=b11.lay q
 obtain⟨w12,e12⟩:∃ w12,jka w11 q=w12:=⟨_,rfl⟩
 rw[e12] at b12 g12 c12 n12 k12
 rw[c11] at b12 c12
 obtain⟨b13,g13,c13,l13,d13,r13,k13⟩:=b12.newest hc q
 obtain⟨x,ex⟩:∃ x,jap w12 (pk p.c 2) q=x:=⟨_,rfl⟩
 rw[ex] at b13 g13 c13 l13 d13 k13
 rw[c12] at b13 c13
 obtain⟨b14,g14,c14,l14,d14,r14,k14⟩:=b13.newest (cls:=0) (by omega) q
 obtain⟨y,ey⟩:∃ y,jap x.2 0 q=y:=⟨_,rfl⟩
 rw[ey] at b14 g14 c14 l14 d14 k14
 rw[c13] at b14 c14
 have gg:=(((((((((g5.trans g6).trans g7).trans g8).trans g9).trans g10).trans g11).trans g12).trans g13).trans g14)
 have lx:x.1<y.2.values.length:=f0m l13 g14.vlen
 have dx:cl y.2.values x.1=pk p.c 2:=(g14.cl l13).trans d13
 have z5:up (up (up E w.cur) nb) nb (nb+1)=0:=by rw[j71 (by omega),j71 (by omega),j71 (by omega)];exact(b.e0 (by omega)).1
 obtain⟨b15,g15⟩:=b14.edge (k:=nb+1) (to:=nb) (args:=[x.1,y.1]) (by omega) (by omega) (t4.gr gg) (by simp[dx,d14]) (fun z hz=>by
  simp only[f0h,f2d,or_false] at hz
  rcases hz with rfl | rfl<;>assumption) (.inl z5)
 obtain⟨w15,e15⟩:∃ w15,jdg y.2 (nb+1) nb [x.1,y.1]=w15:=⟨_,rfl⟩
 rw[e15] at b15 g15
 have res:j1c w p={ w15 with cur:=nb+1+1,known:=w15.known.take w6.known.length }:=by
  unfold j1c
  simp only[ev,eu,b2.nb,e3,c3,e4]
  rw[show(w4.blocks.getD nb ⟨[],[],[]⟩).params=(w4.blocks.getD nb jkc).params from rfl]
  simp only[e5,e6,b6.nb,e8,e10,e11,e12,eq,ex,ey,e15]
 rw[res]
 refine⟨(b15.set (c:=nb+1+1) (by omega) (fun z hz=>b15.v.kn z (List.mem_of_mem_take hz))).le (by simp) (by omega) (fun _=>f0d _),((((g1.trans g2).trans g3).trans g4).trans (gg.trans g15)).trans (Gr.set _ _ _),rfl⟩
end
structure Pok (w:Ms) (j:Nat):Prop where
 v:Vok w
 e0:nE w w.cur=0
 e2:∀ k,nE w k<=2
 par:∀ k,1<nE w k->0<nI w k
 i:∀ k,nI w k<=22
 nv:w.values.length<=126
 nb:w.blocks.length<=16
 sum:sm w.blocks<=j+2*w.blocks.length
structure FcOk (m:Nat×Nat) (f:Fc):Prop where
 nb:1<=f.blocks.length/\f.blocks.length<=16
 nv:f.values.length<=160
 cls:∀ c∈f.values,c<2
 blk:∀ b∈f.blocks,b.params.length<=5/\b.instrs.length<=40/\b.edges.length<=3
 all:sm f.blocks<=160
 ins:∀ b∈f.blocks,∀ x∈b.instrs,InsOk m f.values x
 par:∀ b∈f.blocks,1<b.edges.length->b.instrs≠[]
 edg:∀ b∈f.blocks,∀ e∈b.edges,jxu f.values f.blocks e
 ent:∀ b,f.blocks[0]?=some b->b.params=[]
 prm:∀ b∈f.blocks,∀ v∈b.params,v<f.values.length
end Go.Proofs.Ytkplfnkgodnmaaa.Ms
