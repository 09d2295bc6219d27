/- Functions built of pieces. -/
import Derived.Test.YtkpadfebkaangaaGreatDoorEnc
namespace Go.Proofs.YtkpadfebkaangaaGreatDoor.Ms
set_option linter.all false
variable {l vs:List Nat} {a b:Ms} {j r uses:Nat}
def cl (vs:List Nat) (v:Nat):Nat:=vs.getD v 0
structure OpdOk (m:Nat×Nat) (vs:List Nat) (o:Opd):Prop where
 kind:o.kind=1∨o.kind=2
 lim:1<=o.limit/\o.limit<=5
 val:o.value<vs.length
 fix:o.limit=4->o.n<g2 m (cl vs o.value)
 zero:o.limit<=3->o.n=0
 reu:o.limit=5->o.kind=2/\o.late=true
def j5t (vs:List Nat) (ops:List Opd) (o:Opd):Prop:=∃ u,ops[o.n]?=some u/\u.kind=1/\u.late=false/\cl vs u.value=cl vs o.value
def qh2 (ops:List Opd) (o:Opd):Opd:=if o.limit=5 then ops.getD o.n ⟨0,0,false,0,0⟩ else o
def jiq (vs:List Nat) (ops:List Opd) (o:Opd):Option (Nat×Nat):=if (qh2 ops o).limit=4 then some (cl vs (qh2 ops o).value,(qh2 ops o).n) else none
def jcz (vs:List Nat) (c:Nat) (o:Opd):Bool:=decide (cl vs o.value=c)&&(decide (o.limit≠1)&&decide (o.limit≠3))
structure InsOk (m:Nat×Nat) (vs:List Nat) (x:Ins):Prop where
 op:x.op<=255
 nops:x.ops.length<=6
 nsp:x.spoils.length<=20
 opd:∀ o∈x.ops,OpdOk m vs o
 reu:∀ o∈x.ops,o.limit=5->j5t vs x.ops o
 spo:∀ r∈x.spoils,r.1<2/\r.2<g2 m r.1
 ord:∀ (i:Nat) (q r:Nat×Nat),x.spoils[i]?=some q->x.spoils[i+1]?=some r->q.1<r.1∨(q.1=r.1/\q.2<r.2)
 sp:∀ o∈x.ops,∀ r,jiq vs x.ops o=some r->r∉x.spoils
 cla:∀ (i j:Nat) (o p:Opd),j<i->x.ops[i]?=some o->x.ops[j]?=some p->(o.limit=5->p.limit=5->o.n≠p.n)/\(∀ r,jiq vs x.ops o=some r->jiq vs x.ops p=some r->(o.limit=5/\o.n=j)∨(p.limit=5/\p.n=i))
 need:∀ c,c<2->x.spoils.countP (fun r=>decide (r.1=c))+x.ops.countP (jcz vs c)<g2 m c
theorem qf4 {p:Nat×Nat} {c d x:Nat} (hc:c<2) (hd:d<2):g2 (s2 p c x) d=if d=c then x else g2 p d:=by
 unfold g2 s2
 grind
theorem j1e {v:Nat} (h:v<vs.length):cl (vs++l) v=cl vs v:=by
 unfold cl
 grind
theorem j1f {c:Nat}:cl (vs++[c]) vs.length=c:=by
 unfold cl
 simp
theorem j5u (h:∀ c∈vs,c<2) (v:Nat):cl vs v<2:=by
 unfold cl
 rw[f0p]
 cases e:vs[v]? with
 | none=>simp
 | some c=>exact h c (f0c e)
structure IwOk (m:Nat×Nat) (vs:List Nat) (s:Iw):Prop where
 opd:∀ o∈s.ops,OpdOk m vs o
 reu:∀ o∈s.ops,o.limit=5->j5t vs s.ops o
 need:∀ c,c<2->s.ops.countP (jcz vs c)=g2 s.need c
 needlt:∀ c,c<2->g2 s.need c+1<=g2 m c
 fixle:∀ c,c<2->g2 s.fixed c<=g2 s.need c
 fixlt:∀ o∈s.ops,o.limit=4->o.n<g2 s.fixed (cl vs o.value)
 fixinj:∀ (i j:Nat) (o p:Opd),s.ops[i]?=some o->s.ops[j]?=some p->o.limit=4->p.limit=4->cl vs o.value=cl vs p.value->o.n=p.n->i=j
 reinj:∀ (i j:Nat) (o p:Opd),s.ops[i]?=some o->s.ops[j]?=some p->o.limit=5->p.limit=5->o.n=p.n->i=j
theorem jf3 {α:Type} {l:List α} {a b:α} {i:Nat} (h:(l++[a])[i]?=some b):(i<l.length/\l[i]?=some b)∨(i=l.length/\b=a):=by
 grind
theorem j5t.app {ops r:List Opd} {o:Opd} (h:j5t vs ops o):j5t vs (ops++r) o:=by
 obtain⟨u,h1,h2⟩:=h
 refine⟨u,?_,h2⟩
 grind
theorem IwOk.app {m:Nat×Nat} {s:Iw} (k:IwOk m vs s) (hcl:∀ v,cl vs v<2) {o:Opd} (h1:OpdOk m vs o) {need fixed:Nat×Nat} {lim:Nat}
 (h2:o.limit=5->j5t vs s.ops o/\∀ p∈s.ops,p.limit=5->p.n≠o.n)
 (hn:∀ c,c<2->g2 need c=g2 s.need c+if jcz vs c o=true then 1 else 0)
 (hl:∀ c,c<2->jcz vs c o=true->g2 s.need c+1<g2 m c)
 (hf:∀ c,c<2->g2 fixed c=g2 s.fixed c+if o.limit=4/\cl vs o.value=c then 1 else 0)
 (h4:o.limit=4->o.n=g2 s.fixed (cl vs o.value)):IwOk m vs ⟨s.ops++[o],lim,need,fixed⟩:=by
 refine⟨fun p hp=>?_,fun p hp h5=>?_,fun c hc=>?_,fun c hc=>?_,fun c hc=>?_,fun p hp h5=>?_,fun i j p q hp hq h5 h6 h7 h8=>?_,fun i j p q hp hq h5 h6 h7=>?_⟩
 .rcases f0e.1 hp with hp | hp
  .exact k.opd p hp
  grind
 .rcases f0e.1 hp with hp | hp
  .exact (k.reu p hp h5).app
  .obtain rfl:=f0v.1 hp;exact(h2 h5).1.app
 .show (s.ops++[o]).countP (jcz vs c)=g2 need c
  rw[List.countP_append,k.need c hc,hn c hc,List.countP_singleton]
 .show g2 need c+1<=g2 m c
  rw[hn c hc]
  have:=k.needlt c hc
  split
  .rename_i h;have:=hl c hc h;omega
  .omega
 .show g2 fixed c<=g2 need c
  rw[hn c hc,hf c hc]
  have:=k.fixle c hc
  by_cases h5:o.limit=4/\cl vs o.value=c
  .have:jcz vs c o=true:=by unfold jcz;rw[h5.1,h5.2];simp
   rw[if_pos h5,if_pos this];omega
  .rw [if_neg h5];omega
 .show p.n<g2 fixed (cl vs p.value)
  rw[hf _ (hcl _)]
  rcases f0e.1 hp with hp | hp
  .have:=k.fixlt p hp h5;omega
  .obtain rfl:=f0v.1 hp
   rw[if_pos ⟨h5,rfl⟩,h4 h5];omega
 .rcases jf3 hp with⟨_,hp'⟩ | ⟨rfl,rfl⟩
  .rcases jf3 hq with⟨_,hq'⟩ | ⟨rfl,rfl⟩
   .exact k.fixinj i j p q hp' hq' h5 h6 h7 h8
   .have:=k.fixlt p (f0c hp') h5
    rw[h8,h4 h6,←h7] at this;omega
  .rcases jf3 hq with⟨_,hq'⟩ | ⟨rfl,rfl⟩
   .have:=k.fixlt q (f0c hq') h6
    rw[←h8,h4 h5,h7] at this;omega
   .rfl
 .rcases jf3 hp with⟨_,hp'⟩ | ⟨rfl,rfl⟩
  .rcases jf3 hq with⟨_,hq'⟩ | ⟨rfl,rfl⟩
   .exact k.reinj i j p q hp' hq' h5 h6 h7
   .exact absurd h7 ((h2 h6).2 p (f0c hp') h5)
  .rcases jf3 hq with⟨_,hq'⟩ | ⟨rfl,rfl⟩
   .exact absurd h7.symm ((h2 h5).2 q (f0c hq') h6)
   .rfl
theorem IwOk.lim {m:Nat×Nat} {s:Iw} (k:IwOk m vs s) (hcl:∀ v,cl vs v<2) {wish kd v:Nat} {late:Bool} (hw:1<=wish/\wish<=4) (hk:kd=1∨kd=2) (hv:v<vs.length) {lim:Nat} :
 IwOk m vs ⟨s.ops++[⟨kd,v,late,(jbh m wish (cl vs v) s.need s.fixed).1,(jbh m wish (cl vs v) s.need s.fixed).2.1⟩],lim,(jbh m wish (cl vs v) s.need s.fixed).2.2.1,(jbh m wish (cl vs v) s.need s.fixed).2.2.2⟩/\(jbh m wish (cl vs v) s.need s.fixed).1≠5:=by
 have hc:=hcl v
 unfold jbh
 by_cases h1:wish=1∨wish=3∨g2 m (cl vs v)<=g2 s.need (cl vs v)+1
 .simp only[if_pos h1]
  have hlim:(if wish=3 then 3 else 1)=1∨(if wish=3 then 3 else 1)=3:=by split<;>simp
  generalize (if wish=3 then 3 else 1)=lm at *
  have hnp:∀ c,jcz vs c ⟨kd,v,late,lm,0⟩=false:=fun c=>by
   unfold jcz
   rcases hlim with rfl | rfl<;>simp
  refine⟨k.app hcl ⟨hk,by simp only;omega,hv,fun h=>by simp only at h;omega,fun _=>rfl,fun h=>by simp only at h;omega⟩ (fun h=>by simp only at h;omega) (fun c hc=>by rw[hnp];simp) (fun c hc h=>by rw[hnp] at h;cases h) (fun c hc=>?_) (fun h=>by simp only at h;omega),oa⟩
  grind
 .rw [if_neg h1]
  have h2:g2 s.need (cl vs v)+1<g2 m (cl vs v):=oa
  by_cases h3:wish=4
  .simp only[if_pos h3]
   have hnp:∀ c,jcz vs c ⟨kd,v,late,4,g2 s.fixed (cl vs v)⟩=decide (cl vs v=c):=fun c=>by unfold jcz;simp
   have hfl:=k.fixle _ hc
   refine⟨k.app hcl ⟨hk,se,hv,fun h=>by simp only;omega,fun h=>by simp at h,fun h=>by simp at h⟩ (fun h=>by simp at h) (fun c hc'=>?_) (fun c hc' h=>?_) (fun c hc'=>?_) (fun _=>rfl),se⟩
   .rw [qf4 hc hc',hnp]
    by_cases h:cl vs v=c
    .subst h;simp
    .simp only[decide_eq_true_eq];rw[if_neg (fun e=>h e.symm),if_neg h];rfl
   .rw [hnp] at h;rw[←of_decide_eq_true h];exact h2
   .rw [qf4 hc hc']
    by_cases h:cl vs v=c
    .subst h;simp
    .rw [if_neg (fun e=>h e.symm),if_neg (fun e=>h e.2)];rfl
  .simp only[if_neg h3]
   have hnp:∀ c,jcz vs c ⟨kd,v,late,2,0⟩=decide (cl vs v=c):=fun c=>by unfold jcz;simp
   refine⟨k.app hcl ⟨hk,se,hv,fun h=>by simp at h,fun h=>rfl,fun h=>by simp at h⟩ (fun h=>by simp at h) (fun c hc'=>?_) (fun c hc' h=>?_) (fun c hc'=>se) (fun h=>by simp at h),se⟩
   .rw [qf4 hc hc',hnp]
    by_cases h:cl vs v=c
    .subst h;simp
    .simp only[decide_eq_true_eq];rw[if_neg (fun e=>h e.symm),if_neg h];rfl
   .rw [hnp] at h;rw[←of_decide_eq_true h];exact h2
theorem IwOk.vals {m:Nat×Nat} {s:Iw} (k:IwOk m vs s) (c:Nat):IwOk m (vs++[c]) s:=by
 have e:∀ o∈s.ops,cl (vs++[c]) o.value=cl vs o.value:=fun o ho=>j1e (k.opd o ho).val
 refine⟨fun o ho=>?_,fun o ho h=>?_,fun d hd=>?_,k.needlt,k.fixle,fun o ho h=>?_,fun i j o p hi hj h1 h2 h3 h4=>?_,k.reinj⟩
 .have:=k.opd o ho
  exact⟨this.kind,this.lim,by have:=this.val;grind,fun h=>by rw[e o ho];exact this.fix h,this.zero,this.reu⟩
 .obtain ⟨u,h1,h2,h3,h4⟩:=k.reu o ho h
  exact⟨u,h1,h2,h3,by grind⟩
 .rw [←k.need d hd]
  refine List.countP_congr fun o ho=>?_
  unfold jcz;grind
 .rw [e o ho];exact k.fixlt o ho h
 .rw [e o (f0c hi),e p (f0c hj)] at h3
  exact k.fixinj i j o p hi hj h1 h2 h3 h4
theorem pkl {n:Int} {m:Nat} (hm:0<m):pk n m<m:=by
 have h2:=jy4 n m oa
 unfold pk;omega
theorem jnb {p:Pc} {i:Nat}:jgk p i<2:=by
 unfold jgk
 omega
theorem j1g (h:l≠[]) {i:Nat} (hi:i<l.length):l.getD i 0∈l:=by
 grind
structure Us (kn:List Nat) (s:Iw):Prop where
 one:∀ o∈s.ops,o.kind=1/\o.limit≠5/\o.value∈kn
theorem j9j {w:Ms} {p:Pc} {flags:Nat} (hm:∀ c∈w.values,c<2) (hk:∀ v∈w.known,v<w.values.length):∀ (d i:Nat) (s:Iw),w.known≠[]∨d=0->IwOk w.m w.values s->Us w.known s ->
 IwOk w.m w.values (jfg w p flags d i s)/\Us w.known (jfg w p flags d i s)/\(jfg w p flags d i s).ops.length=s.ops.length+d
 | 0,i,s,_,k,u=>⟨k,u,rfl⟩
 | d+1,i,s,h,k,u=>by
  have hne:w.known≠[]:=h.resolve_right oa
  have hmem:=j1g hne (i:=pk (Int.tdiv p.a (i+1)) w.known.length) (pkl (f1v.2 hne))
  have hv:=hk _ hmem
  have hl:=k.lim (j5u hm) (wish:=1+s.limits % 4) (kd:=1) (late:=decide (flags / 2 ^ (4+i) % 2=1)) (lim:=s.limits / 4) oa (.inl rfl) hv
  have r:=j9j (p:=p) (flags:=flags) hm hk d (i+1) (j00 w p flags i s) (.inl hne) hl.1 ⟨fun o ho=>by
   rcases f0e.1 ho with ho | ho
   .exact u.one o ho
   .rw [f0v.1 ho];exact⟨rfl,hl.2,hmem⟩⟩
  refine⟨r.1,r.2.1,r.2.2.trans ?_⟩
  show(s.ops++[_]).length+d=s.ops.length+(d+1)
  grind
structure Df (m:Nat×Nat) (uses:Nat) (x:Iw×Nat×Ms):Prop where
 wm:x.2.2.m=m
 iw:IwOk m x.2.2.values x.1
 cls:∀ c∈x.2.2.values,c<2
 us:∀ i,i<uses->∃ u,x.1.ops[i]?=some u/\u.kind=1
 re:∀ o∈x.1.ops,o.limit=5->o.n=x.2.1
theorem qh3 {m:Nat×Nat} {x:Iw×Nat×Ms} (k:Df m uses x) (p:Pc) (flags i:Nat) :
 (jfm p flags uses i x).2.2={ x.2.2 with values:=x.2.2.values++[jgk p i] }/\(∃ o,(jfm p flags uses i x).1.ops=x.1.ops++[o]/\o.kind=2/\o.value=x.2.2.values.length) /\
 IwOk m (x.2.2.values++[jgk p i]) (jfm p flags uses i x).1/\((∀ o∈x.1.ops,o.limit≠5)->Df m uses (jfm p flags uses i x)):=by
 have hc2:∀ c∈x.2.2.values++[jgk p i],c<2:=fun c hc=>by
  rcases f0e.1 hc with hc | hc
  .exact k.cls c hc
  grind[f0v,jnb]
 have kv:=k.iw.vals (jgk p i)
 have us':∀ (o:Opd) (j:Nat),j<uses->∃ u,(x.1.ops++[o])[j]?=some u/\u.kind=1:=fun o j hj=>by
  obtain⟨u,h1,h2⟩:=k.us j hj
  refine⟨u,?_,h2⟩
  rw[f07]
  .exact h1
  .rcases f0n j x.1.ops.length with h3 | h3
   .exact h3
   .rw [f0y h3] at h1;cases h1
 unfold jfm
 simp only
 by_cases hr:1+x.1.limits % 5=5/\jf1 x.2.2 p uses x.2.1 (jgk p i) x.1=true
 .rw [if_pos hr]
  have h:=hr.2
  unfold jf1 at h
  simp only[f05,decide_eq_true_eq,f2p,k.wm] at h
  obtain⟨h1,h2,h3,h4,h5⟩:=h
  obtain⟨u,hu,hu2⟩:=k.us _ h1
  have eu:x.1.ops.getD (pk p.b (uses+1)) ⟨0,0,false,0,0⟩=u:=by rw[f0p,hu];rfl
  rw[eu] at h3 h5
  have hul:=(k.iw.opd u (f0c hu)).val
  have hnp:∀ c,jcz (x.2.2.values++[jgk p i]) c ⟨2,x.2.2.values.length,true,5,pk p.b (uses+1)⟩=decide (jgk p i=c):=fun c=>by
   unfold jcz;rw[j1f];simp
  have hk:=kv.app (j5u hc2) (o:=⟨2,x.2.2.values.length,true,5,pk p.b (uses+1)⟩) (need:=s2 x.1.need (jgk p i) (g2 x.1.need (jgk p i)+1)) (fixed:=x.1.fixed) (lim:=x.1.limits / 5)
   ⟨.inr rfl,se,se,fun h=>by simp at h,fun h=>by simp at h,fun _=>⟨rfl,rfl⟩⟩
   (fun _=>⟨⟨u,hu,hu2,h3,by simp only;rw[j1e hul,j1f];exact h5⟩,fun q hq h=>by
    rw[k.re q hq h];exact fun e=>h2 e.symm⟩)
   (fun c hc=>by
    rw[qf4 jnb hc,hnp]
    by_cases h:jgk p i=c
    .subst h;simp
    .simp only[decide_eq_true_eq];rw[if_neg (fun e=>h e.symm),if_neg h];rfl)
   (fun c hc h=>by rw[hnp] at h;rw[←of_decide_eq_true h];exact h4)
   (fun c hc=>se) (fun h=>by simp at h)
  refine⟨rfl,⟨_,rfl,rfl,rfl⟩,hk,fun hno=>⟨k.wm,hk,hc2,us' _,fun o ho h=>?_⟩⟩
  rcases f0e.1 ho with ho | ho
  .exact absurd h (hno o ho)
  .rw [f0v.1 ho]
 .rw [if_neg hr]
  have hw:1<=(if 1+x.1.limits % 5=5 then 1 else 1+x.1.limits % 5)/\(if 1+x.1.limits % 5=5 then 1 else 1+x.1.limits % 5)<=4:=by split<;>omega
  have hl:=kv.lim (j5u hc2) (kd:=2) (v:=x.2.2.values.length) (late:=decide (flags / 2 ^ (9+i) % 2=1)) (lim:=x.1.limits / 5) hw (.inr rfl) se
  rw[j1f,←k.wm] at hl
  rw[←k.wm]
  refine⟨rfl,⟨_,rfl,rfl,rfl⟩,hl.1,fun hno=>⟨rfl,hl.1,hc2,us' _,fun o ho h=>?_⟩⟩
  rcases f0e.1 ho with ho | ho
  .exact absurd h (hno o ho)
  .rw [f0v.1 ho] at h;exact absurd h hl.2
theorem qm9 {m:Nat×Nat} {x:Iw×Nat×Ms} (k:Df m uses x) (h5:∀ o∈x.1.ops,o.limit≠5) (p:Pc) (flags:Nat) {d:Nat} (hd:d=1∨d=2) :
 ∃ (cs:List Nat) (os:List Opd),(cs=[jgk p 0]∨cs=[jgk p 0,jgk p 1])/\cs.length=d/\(∀ c∈cs,c<2)/\(jeb p flags uses d 0 x).2.2={ x.2.2 with values:=x.2.2.values++cs }/\(jeb p flags uses d 0 x).1.ops=x.1.ops++os/\(∀ o∈os,o.kind=2)/\os.map (·.value)=List.range' x.2.2.values.length d /\
 IwOk m (x.2.2.values++cs) (jeb p flags uses d 0 x).1:=by
 obtain⟨e1,⟨o1,e2,e3,e4⟩,e5,e6⟩:=qh3 k p flags 0
 rcases hd with rfl | rfl
 .refine ⟨[jgk p 0],[o1],.inl rfl,rfl,fun c hc=>by grind[f0v,jnb],e1,e2,fun o ho=>by grind,by grind,e5⟩
 .obtain ⟨f1,⟨o2,f2,f3,f4⟩,f5,f6⟩:=qh3 (e6 h5) p flags 1
  rw[e1] at f1 f4 f5
  refine⟨[jgk p 0,jgk p 1],[o1,o2],.inr rfl,rfl,fun c hc=>?_,?_,?_,fun o ho=>?_,?_,?_⟩
  .simp only[f0f,f1e,or_false] at hc
   rcases hc with rfl | rfl<;>exact jnb
  .exact f1.trans se
  .exact f2.trans (by rw[e2];simp)
  .simp only[f0f,f1e,or_false] at ho
   rcases ho with rfl | rfl<;>assumption
  .simp [e4,f4,List.range']
  .have:x.2.2.values++[jgk p 0,jgk p 1]=(x.2.2.values++[jgk p 0])++[jgk p 1]:=se
   rw[this];exact f5
theorem jb5 (c r:Nat):∀ k,(jbq c r k).length=k
 | 0=>rfl
 | k+1=>by simp[jbq,jb5 c r k]
theorem jc9 {c:Nat}:∀ {k i:Nat} {q:Nat×Nat},(jbq c r k)[i]?=some q->q=(c,r - (k - i))/\i<k
 | 0,i,q,h=>by trivial
 | k+1,0,q,h=>by
  simp only[jbq] at h
  grind
 | k+1,i+1,q,h=>by
  simp only[jbq] at h
  obtain⟨h1,h2⟩:=jc9 h
  grind
theorem jf4 {c k:Nat} {q:Nat×Nat} (h:q∈jbq c r k):q.1=c/\r - k<=q.2/\(k<=r->q.2<r):=by
 obtain⟨i,hi⟩:=f2o h
 obtain⟨rfl,h2⟩:=jc9 hi
 omega
theorem jqu {c k d:Nat}:(jbq c r k).countP (fun q=>decide (q.1=d))=if c=d then k else 0:=by
 by_cases h:c=d
 .rw [if_pos h,List.countP_eq_length.2 fun q hq=>by rw[(jf4 hq).1];grind,jb5]
 .rw [if_neg h,List.countP_eq_zero.2 fun q hq=>by rw[(jf4 hq).1];grind]
theorem IwOk.fix_lt {m:Nat×Nat} {s:Iw} (k:IwOk m vs s) {i:Nat} {o:Opd} (ho:s.ops[i]?=some o) {r:Nat×Nat} (h:jiq vs s.ops o=some r) :
 ∃ j u,s.ops[j]?=some u/\u.limit=4/\r=(cl vs u.value,u.n)/\((o.limit≠5/\j=i/\u=o)∨(o.limit=5/\j=o.n)):=by
 unfold jiq at h
 split at h
 .rename_i h4
  unfold qh2 at h4 h
  by_cases h5:o.limit=5
  .rw [if_pos h5] at h4 h
   obtain⟨u,h6,_⟩:=k.reu o (f0c ho) h5
   rw[f0p,h6] at h4 h
   exact⟨o.n,u,h6,h4,(Option.some.inj h).symm,.inr ⟨h5,rfl⟩⟩
  .rw [if_neg h5] at h4 h
   exact⟨i,o,ho,h4,(Option.some.inj h).symm,.inl ⟨h5,rfl,rfl⟩⟩
 grind
theorem IwOk.ins {m:Nat×Nat} {s:Iw} (k:IwOk m vs s) (hcl:∀ v,cl vs v<2) (hm:m.1<=10/\m.2<=10) (hl:s.ops.length<=5) {op n1 n2:Nat} (hop:op<=255) (h1:n1<=m.1 - 1 - s.need.1) (h2:n2<=m.2 - 1 - s.need.2) :
 InsOk m vs ⟨op,s.ops,jbq 0 m.1 n1++jbq 1 m.2 n2⟩:=by
 have d0:s.need.1+1<=m.1:=k.needlt 0 oa
 have d1:s.need.2+1<=m.2:=k.needlt 1 oa
 have f0:s.fixed.1<=s.need.1:=k.fixle 0 oa
 have f1:s.fixed.2<=s.need.2:=k.fixle 1 oa
 have mem:∀ r∈jbq 0 m.1 n1++jbq 1 m.2 n2,r.1<2/\r.2<g2 m r.1/\g2 s.need r.1<r.2:=fun r hr=>by
  rcases f0e.1 hr with hr | hr
  .obtain ⟨e,h3,h4⟩:=jf4 hr
   have:=h4 oa
   rw[e];refine⟨oa,?_,?_⟩
   .show r.2<m.1;omega
   .show s.need.1<r.2;omega
  .obtain ⟨e,h3,h4⟩:=jf4 hr
   have:=h4 oa
   rw[e];refine⟨oa,?_,?_⟩
   .show r.2<m.2;omega
   .show s.need.2<r.2;omega
 refine⟨hop,f02 hl oa,?_,k.opd,k.reu,fun r hr=>⟨(mem r hr).1,(mem r hr).2.1⟩,fun i q r hq hr=>?_,fun o ho r hr hs=>?_,fun i j o p hij hi hj=>⟨fun h5 h6 e=>?_,fun r hr hs=>?_⟩,fun c hc=>?_⟩
 .simp only[f0d,jb5];omega
 .simp only at hq hr
  rcases f0n (i+1) n1 with h3 | h3
  .rw [f07 (by rw[jb5];omega)] at hq hr
   have a1:=jc9 hq
   have a2:=jc9 hr
   rw[a1.1,a2.1];right;refine⟨rfl,?_⟩
   simp only;omega
  .rw [f0x (by rw[jb5];omega)] at hr
   have a2:=jc9 hr
   rw[jb5] at a2
   rcases f0n i n1 with h4 | h4
   .rw [f07 (by rw[jb5];omega)] at hq
    have a1:=jc9 hq
    rw[a1.1,a2.1];left;exact Nat.zero_lt_one
   .rw [f0x (by rw[jb5];omega),jb5] at hq
    have a1:=jc9 hq
    rw[a1.1,a2.1];right;refine⟨rfl,?_⟩
    simp only;omega
 .obtain ⟨i,hi⟩:=f2o ho
  obtain⟨j,u,hu,hu4,e,_⟩:=k.fix_lt hi hr
  have h3:=k.fixlt u (f0c hu) hu4
  have h4:=(mem r hs).2.2
  rw[e] at h4
  have h5:=k.fixle _ (hcl u.value)
  simp only at h4;omega
 .have:=k.reinj i j o p hi hj h5 h6 e;omega
 .obtain ⟨a,u,hu,hu4,e,hx⟩:=k.fix_lt hi hr
  obtain⟨b,v,hv,hv4,e',hy⟩:=k.fix_lt hj hs
  rw[e] at e'
  have hab:=k.fixinj a b u v hu hv hu4 hv4 (Prod.mk.inj e').1 (Prod.mk.inj e').2
  subst hab
  rcases hx with⟨h5,rfl,_⟩ | ⟨h5,rfl⟩
  .rcases hy with⟨h6,rfl,_⟩ | ⟨h6,h7⟩
   .omega
   .exact .inr ⟨h6,h7.symm⟩
  .rcases hy with⟨h6,h7,_⟩ | ⟨h6,h7⟩
   .exact .inl ⟨h5,h7⟩
   .have:=k.reinj i j o p hi hj h5 h6 h7;omega
 .simp only[List.countP_append,jqu,k.need c hc]
  have:c=0∨c=1:=oa
  rcases this with rfl | rfl
  .show (if 0=0 then n1 else 0)+(if 1=0 then n2 else 0)+s.need.1<m.1
   simp;omega
  .show (if 0=1 then n1 else 0)+(if 1=1 then n2 else 0)+s.need.2<m.2
   simp;omega
theorem jwr {w:Ms} (hm:(2<=w.m.1/\w.m.1<=10)/\(2<=w.m.2/\w.m.2<=10)) (hc:∀ c∈w.values,c<2) (hk:∀ v∈w.known,v<w.values.length) (p:Pc) :
 ∃ (cs:List Nat),(cs=[jgk p 0]∨cs=[jgk p 0,jgk p 1])/\(∀ c∈cs,c<2)/\(ja4 w p).2={ w with values:=w.values++cs }/\InsOk w.m (w.values++cs) (ja4 w p).1/\jdb (ja4 w p).1=List.range' w.values.length cs.length/\(ja4 w p).1.ops.length<=5/\∀ o∈(ja4 w p).1.ops,o.kind=1->o.value∈w.known:=by
 have hcl:=j5u hc
 have h0:IwOk w.m w.values ⟨[],pk p.limits (2 ^ 40),(0,0),(0,0)⟩:=by
  refine⟨fun o ho=>by simp at ho,fun o ho=>by simp at ho,fun c hc=>?_,fun c hc=>?_,fun c hc=>f0h _,fun o ho=>by simp at ho,fun i j o q h=>by simp at h,fun i j o q h=>by simp at h⟩
  .show 0=g2 (0,0) c
   unfold g2;split<;>rfl
  .have h1:g2 (0,0) c=0:=by unfold g2;split<;>rfl
   show g2 (0,0) c+1<=g2 w.m c
   rw[h1];unfold g2;split<;>omega
 unfold ja4
 simp only
 have h1:=j9j (p:=p) (flags:=pk p.flags (2 ^ 30)) hc hk (if w.known=[] then 0 else pk p.flags (2 ^ 30) % 4) 0 ⟨[],pk p.limits (2 ^ 40),(0,0),(0,0)⟩ (by
  by_cases h:w.known=[]
  .right;rw[if_pos h]
  .exact .inl h) h0 ⟨fun o ho=>by simp at ho⟩
 have hd:(if w.known=[] then 0 else pk p.flags (2 ^ 30) % 4)<=3:=by split<;>omega
 generalize jfg w p (pk p.flags (2 ^ 30)) (if w.known=[] then 0 else pk p.flags (2 ^ 30) % 4) 0 ⟨[],pk p.limits (2 ^ 40),(0,0),(0,0)⟩=s at *
 obtain⟨a1,a2,a3⟩:=h1
 simp only[f00,f1b] at a3
 have df:Df w.m s.ops.length (s,s.ops.length,w):=⟨rfl,a1,hc,fun i hi=>⟨s.ops[i],f0b hi,(a2.one _ (f23 hi)).1⟩,fun o ho h=>absurd h (a2.one o ho).2.1⟩
 obtain⟨cs,os,b0,b1,b2,b3,b4,b5,b6,b7⟩:=qm9 df (fun o ho=>(a2.one o ho).2.1) p (pk p.flags (2 ^ 30)) (d:=1+pk p.flags (2 ^ 30) / 2 ^ 8 % 2) oa
 simp only at b3 b4 b6 b7
 generalize jeb p (pk p.flags (2 ^ 30)) s.ops.length (1+pk p.flags (2 ^ 30) / 2 ^ 8 % 2) 0 (s,s.ops.length,w)=x at *
 have hcl':∀ v,cl (w.values++cs) v<2:=j5u (fun c h=>by
  rcases f0e.1 h with h | h
  .exact hc c h
  .exact b2 c h)
 have hol:os.length=cs.length:=by
  have:=congrArg List.length b6
  rw[f03,List.length_range'] at this;omega
 have hlen:x.1.ops.length<=5:=by rw[b4,f0d];omega
 have hpo:=pkl (n:=p.op) (m:=256) oa
 refine⟨cs,b0,b2,b3,?_,?_,hlen,fun o ho hk1=>?_⟩
 .unfold jgy
  split
  .exact b7.ins hcl' ⟨hm.1.2,hm.2.2⟩ hlen oa (Nat.min_le_right ..) (Nat.min_le_right ..)
  .exact b7.ins (n1:=0) (n2:=0) hcl' ⟨hm.1.2,hm.2.2⟩ hlen oa (f15 _) (f15 _)
 .unfold jdb
  simp only
  rw[b4,List.filter_append,List.filter_eq_nil_iff.2 (fun o ho=>by rw[(a2.one o ho).1];simp),List.filter_eq_self.2 (fun o ho=>by simpa using b5 o ho),f1m,b6,b1]
 .rw [b4] at ho
  rcases f0e.1 ho with ho | ho
  .exact (a2.one o ho).2.2
  .rw [b5 o ho] at hk1;cases hk1
def jg9:Blk:=⟨[],[],[]⟩
def js8 (b:Blk):List Nat:=b.params++(b.instrs.map jdb).flatten
def jdo (l:List Blk):List Nat:=(l.map js8).flatten
def nI (w:Ms) (k:Nat):Nat:=(w.blocks.getD k jg9).instrs.length
def nE (w:Ms) (k:Nat):Nat:=(w.blocks.getD k jg9).edges.length
def sm (l:List Blk):Nat:=(l.map (fun b=>b.instrs.length)).sum
def jqv (vs:List Nat) (bs:List Blk) (e:Edg):Prop:=1<=e.block/\(∀ v∈e.args,v<vs.length)/\∃ t,bs[e.block]?=some t/\t.params.map (cl vs)=e.args.map (cl vs)/\∀ v∈t.params,v<vs.length
structure Vok (w:Ms):Prop where
 mm:(2<=w.m.1/\w.m.1<=10)/\(2<=w.m.2/\w.m.2<=10)
 cls:∀ c∈w.values,c<2
 kn:∀ v∈w.known,v<w.values.length
 cur:w.cur<w.blocks.length
 ins:∀ b∈w.blocks,∀ x∈b.instrs,InsOk w.m w.values x
 prm:∀ b∈w.blocks,∀ v∈b.params,v<w.values.length
 pl:∀ b∈w.blocks,b.params.length<=2
 edg:∀ b∈w.blocks,∀ e∈b.edges,jqv w.values w.blocks e
 ent:∀ b,w.blocks[0]?=some b->b.params=[]
 made:(jdo w.blocks).Perm (List.range w.values.length)
structure Gr (w w':Ms):Prop where
 m:w'.m=w.m
 vals:∃ l,w'.values=w.values++l
 blk:∀ (k:Nat) (t:Blk),w.blocks[k]?=some t->∃ t',w'.blocks[k]?=some t'/\t'.params=t.params
 len:∀ k,nI w k<=nI w' k
theorem Gr.refl (w:Ms):Gr w w:=⟨rfl,⟨[],se⟩,fun k t h=>⟨t,h,rfl⟩,fun k=>f0h _⟩
theorem Gr.trans {c:Ms} (x:Gr a b) (y:Gr b c):Gr a c:=by
 refine⟨y.m.trans x.m,?_,fun k t h=>?_,fun k=>f02 (x.len k) (y.len k)⟩
 .obtain ⟨l,h1⟩:=x.vals
  obtain⟨r,h2⟩:=y.vals
  grind
 .obtain ⟨t1,h1,e1⟩:=x.blk k t h
  obtain⟨t2,h2,e2⟩:=y.blk k t1 h1
  grind
theorem Gr.vlen (x:Gr a b):a.values.length<=b.values.length:=by
 obtain⟨l,h⟩:=x.vals;grind
theorem Gr.cl (x:Gr a b) {v:Nat} (h:v<a.values.length):cl b.values v=cl a.values v:=by
 obtain⟨l,e⟩:=x.vals;grind[j1e]
def Tg (w:Ms) (e:Nat) (cs:List Nat):Prop:=∃ t,w.blocks[e]?=some t/\t.params.map (cl w.values)=cs/\∀ v∈t.params,v<w.values.length
theorem Tg.gr (x:Gr a b) {e:Nat} {cs:List Nat} (h:Tg a e cs):Tg b e cs:=by
 obtain⟨t,h1,h2,h3⟩:=h
 obtain⟨t',h4,h5⟩:=x.blk e t h1
 refine⟨t',h4,?_,fun v hv=>f0o (h3 v (h5▸hv)) x.vlen⟩
 rw[h5,←h2]
 exact List.map_congr_left fun v hv=>x.cl (h3 v hv)
theorem InsOk.app {m:Nat×Nat} {x:Ins} (k:InsOk m vs x) (l:List Nat):InsOk m (vs++l) x:=by
 have e:∀ o∈x.ops,cl (vs++l) o.value=cl vs o.value:=fun o ho=>j1e (k.opd o ho).val
 have es:∀ o∈x.ops,jiq (vs++l) x.ops o=jiq vs x.ops o:=fun o ho=>by
  unfold jiq
  have:qh2 x.ops o∈x.ops:=by
   unfold qh2
   split
   .rename_i h5
    obtain⟨u,h1,_⟩:=k.reu o ho h5
    grind
   omega
  grind
 refine⟨k.op,k.nops,k.nsp,fun o ho=>?_,fun o ho h=>?_,k.spo,k.ord,fun o ho r h=>k.sp o ho r (by grind),fun i j o p hij hi hj=>⟨(k.cla i j o p hij hi hj).1,fun r h1 h2=>(k.cla i j o p hij hi hj).2 r (by grind) (by rw[←es p (f0c hj)];exact h2)⟩,fun c hc=>?_⟩
 .have:=k.opd o ho
  exact⟨this.kind,this.lim,by have:=this.val;simp;omega,fun h=>by rw[e o ho];exact this.fix h,this.zero,this.reu⟩
 .obtain ⟨u,h1,h2,h3,h4⟩:=k.reu o ho h
  exact⟨u,h1,h2,h3,by rw[e o ho,e u (f0c h1)];exact h4⟩
 .have h1:=k.need c hc
  have h2:x.ops.countP (jcz (vs++l) c)=x.ops.countP (jcz vs c):=List.countP_congr fun o ho=>by unfold jcz;rw[e o ho]
  rw[h2];exact h1
theorem jg0 {l:List Blk} {k:Nat} {f:Blk->Blk} (hk:k<l.length):(l.modify k f).getD j jg9=if j=k then f (l.getD j jg9) else l.getD j jg9:=by
 grind
theorem jdt {l:List Blk} {k:Nat} {f:Blk->Blk} {b:Blk} (h:b∈l.modify k f):b∈l∨∃ c,c∈l/\l[k]?=some c/\b=f c:=by
 grind[f2o]
theorem js9 {l:List Blk} {k:Nat} (hk:k<l.length):l=l.take k++(l.getD k jg9::l.drop (k+1))/\∀ f,l.modify k f=l.take k++(f (l.getD k jg9)::l.drop (k+1)):=by
 simp_all[List.modify_eq_take_cons_drop]
theorem jhy (a b:List Blk):jdo (a++b)=jdo a++jdo b:=by unfold jdo;simp
theorem jpq (a b:List Blk):sm (a++b)=sm a+sm b:=by unfold sm;simp
theorem j9k {l:List Blk} {k:Nat} (hk:k<l.length) (x:Ins):(jdo (jax l k x)).Perm (jdo l++jdb x):=by
 obtain⟨h1,h2⟩:=js9 hk
 unfold jax
 rw[h2,jhy]
 conv=>rhs;rw[h1,jhy,f0g]
 refine List.Perm.append_left _ ?_
 show(js8 _++jdo _).Perm (js8 _++jdo _++jdb x)
 have:js8 { params:=(l.getD k jg9).params,instrs:=(l.getD k jg9).instrs++[x],edges:=(l.getD k jg9).edges }=js8 (l.getD k jg9)++jdb x:=by unfold js8;simp
 grind
theorem qst {l:List Blk} {k:Nat} (hk:k<l.length) (x:Ins):sm (jax l k x)=sm l+1:=by
 obtain⟨h1,h2⟩:=js9 hk
 unfold jax
 rw[h2,jpq]
 conv=>rhs;rw[h1,jpq]
 simp[sm];omega
theorem j9l {l:List Blk} {k:Nat} (hk:k<l.length) (g:List Edg->List Edg):jdo (l.modify k (fun b=>{ b with edges:=g b.edges }))=jdo l/\sm (l.modify k (fun b=>{ b with edges:=g b.edges }))=sm l:=by
 obtain⟨h1,h2⟩:=js9 hk
 rw[h2,jhy,jpq]
 refine⟨?_,?_⟩
 .conv=>rhs;rw[h1,jhy]
  rfl
 .conv=>rhs;rw[h1,jpq]
  rfl
theorem jqv.gr (x:Gr a b) {e:Edg} (h:jqv a.values a.blocks e):jqv b.values b.blocks e:=by
 obtain⟨h1,h2,t,h3,h4,h5⟩:=h
 obtain⟨t',h6,h7⟩:=x.blk _ t h3
 refine⟨h1,fun v hv=>f0o (h2 v hv) x.vlen,t',h6,?_,fun v hv=>f0o (h5 v (h7▸hv)) x.vlen⟩
 rw[h7,List.map_congr_left fun v hv=>x.cl (h5 v hv),h4]
 exact(List.map_congr_left fun v hv=>x.cl (h2 v hv)).symm
theorem jke {l:List Blk} {k:Nat} {f:Blk->Blk} (hf:∀ b,(f b).params=b.params) {t:Blk} (h:l[j]?=some t):∃ t',(l.modify k f)[j]?=some t'/\t'.params=t.params:=by
 grind
theorem ji0 {l:List Blk} {k:Nat} {f:Blk->Blk} (hf:∀ b,(f b).params=b.params) {t:Blk} (h:(l.modify k f)[j]?=some t):∃ t',l[j]?=some t'/\t.params=t'.params:=by
 grind
theorem qna {w:Ms} (v:Vok w) (p:Pc):Vok (jcp w p)/\Gr w (jcp w p)/\(jcp w p).cur=w.cur/\(jcp w p).blocks.length=w.blocks.length/\(jcp w p).values.length<=w.values.length+2/\sm (jcp w p).blocks=sm w.blocks+1 /\
 (∀ k,nI (jcp w p) k=nI w k+if k=w.cur then 1 else 0)/\(∀ k,nE (jcp w p) k=nE w k) /\
 ∃ cs,(cs=[jgk p 0]∨cs=[jgk p 0,jgk p 1])/\(jcp w p).values=w.values++cs/\(jcp w p).known=w.known++List.range' w.values.length cs.length:=by
 obtain⟨cs,h1,h2,h3,h4,h5,h6,h7⟩:=jwr v.mm v.cls v.kn p
 unfold jcp
 simp only[h3,h5]
 obtain⟨x,hx⟩:∃ x,(ja4 w p).1=x:=⟨_,rfl⟩
 rw[hx] at h4 h5 ⊢
 have hl:cs.length=1∨cs.length=2:=by rcases h1 with h | h<;>rw[h]<;>simp
 have gr:Gr w ⟨w.m,w.values++cs,jax w.blocks w.cur x,w.cur,w.known++List.range' w.values.length cs.length,w.all+1⟩ :=
  ⟨rfl,⟨cs,rfl⟩,fun k t h=>jke (f:=fun b=>{ b with instrs:=b.instrs++[x] }) (fun _=>rfl) h,fun k=>by
   unfold nI jax;simp only
   rw[jg0 v.cur]
   split
   .simp
   .exact f0h _⟩
 refine⟨⟨v.mm,fun c hc=>?_,fun u hu=>?_,by simp only[jax,f1d];exact v.cur,fun b hb y hy=>?_,fun b hb u hu=>?_,fun b hb=>?_,fun b hb e he=>?_,fun b hb=>?_,?_⟩,gr,by first | rfl | trivial,by simp[jax],by simp;omega,qst v.cur x,fun k=>?_,fun k=>?_,cs,h1,rfl,rfl⟩
 .rcases f0e.1 hc with hc | hc
  .exact v.cls c hc
  .exact h2 c hc
 .rcases f0e.1 hu with hu | hu
  .have:=v.kn u hu;simp;omega
  .rw [f2r] at hu;simp;omega
 .rcases jdt hb with hb | ⟨c,hc,hc2,rfl⟩
  .exact (v.ins b hb y hy).app cs
  .rcases f0e.1 hy with hy | hy
   .exact (v.ins c hc y hy).app cs
   .rw [f0v.1 hy];exact h4
 .rcases jdt hb with hb | ⟨c,hc,hc2,rfl⟩
  .have:=v.prm b hb u hu;simp;omega
  .have:=v.prm c hc u hu;simp;omega
 .rcases jdt hb with hb | ⟨c,hc,hc2,rfl⟩
  .exact v.pl b hb
  .exact v.pl c hc
 .rcases jdt hb with hb | ⟨c,hc,hc2,rfl⟩
  .exact (v.edg b hb e he).gr gr
  .exact (v.edg c hc e he).gr gr
 .obtain ⟨t,ht,e⟩:=ji0 (f:=fun b=>{ b with instrs:=b.instrs++[x] }) (fun _=>rfl) hb
  rw[e];exact v.ent t ht
 .refine (j9k v.cur x).trans ?_
  rw[h5]
  refine(v.made.append_right _).trans ?_
  rw[f0d,List.range_add,List.range'_eq_map_range]
 .unfold nI jax;simp only
  rw[jg0 v.cur]
  split
  .simp
  .rfl
 .unfold nE jax;simp only
  rw[jg0 v.cur]
  split<;>rfl
theorem qnb {w:Ms} (v:Vok w) (cs:List Nat) (h1:cs.length<=2) (h2:∀ c∈cs,c<2):Vok (jag w cs)/\Gr w (jag w cs)/\(jag w cs).blocks.length=w.blocks.length+1/\(jag w cs).values.length=w.values.length+cs.length/\sm (jag w cs).blocks=sm w.blocks /\
 (∀ k,nI (jag w cs) k=nI w k)/\(∀ k,nE (jag w cs) k=nE w k)/\Tg (jag w cs) w.blocks.length cs:=by
 have hg:∀ k,(w.blocks++[(⟨List.range' w.values.length cs.length,[],[]⟩:Blk)]).getD k jg9=w.blocks.getD k jg9∨(k=w.blocks.length/\(w.blocks++[(⟨List.range' w.values.length cs.length,[],[]⟩:Blk)]).getD k jg9=⟨List.range' w.values.length cs.length,[],[]⟩/\w.blocks.getD k jg9=jg9):=fun k=>by
  rw[f0p,f0p]
  rcases Nat.lt_trichotomy k w.blocks.length with h | h | h
  .left;rw[f07 h]
  .right;subst h;simp
  .left;rw[f0y (by simp;omega),f0y oa]
 have ni:∀ k,nI (jag w cs) k=nI w k:=fun k=>by
  unfold nI jag;simp only
  rcases hg k with h | ⟨_,h,h'⟩
  .rw [h]
  .rw [h,h'];rfl
 have gr:Gr w (jag w cs):=⟨rfl,⟨cs,rfl⟩,fun k t h=>⟨t,(f07 (by
  rcases f0n k w.blocks.length with h3 | h3
  .exact h3
  .rw [f0y h3] at h;cases h)).trans h,rfl⟩,fun k=>f2t (ni k).symm⟩
 have hb':∀ b∈(jag w cs).blocks,b∈w.blocks∨b=⟨List.range' w.values.length cs.length,[],[]⟩:=fun b hb=>by
  rcases f0e.1 hb with hb | hb
  .exact .inl hb
  .exact .inr (f0v.1 hb)
 have hpos:0<w.blocks.length:=by have:=v.cur;omega
 have hvl:(jag w cs).values.length=w.values.length+cs.length:=by simp[jag]
 refine⟨⟨v.mm,fun c hc=>?_,fun u hu=>by have:=v.kn u hu;omega,by have:=v.cur;simp[jag];omega,fun b hb y hy=>?_,fun b hb u hu=>?_,fun b hb=>?_,fun b hb e he=>?_,fun b hb=>?_,?_⟩,gr,by simp[jag],hvl,?_,ni,fun k=>?_,?_⟩
 .rcases f0e.1 hc with hc | hc
  .exact v.cls c hc
  .exact h2 c hc
 .rcases hb' b hb with hb | rfl
  .exact (v.ins b hb y hy).app cs
  .cases hy
 .rcases hb' b hb with hb | rfl
  .have:=v.prm b hb u hu;omega
  .simp only[f2r] at hu;omega
 .rcases hb' b hb with hb | rfl
  .exact v.pl b hb
  .simpa using h1
 .rcases hb' b hb with hb | rfl
  .exact (v.edg b hb e he).gr gr
  .cases he
 .have:w.blocks[0]?=some b:=by
   unfold jag at hb;simp only at hb
   rwa [f07 hpos] at hb
  exact v.ent b this
 .show (jdo (w.blocks++[_])).Perm _
  rw[jhy,hvl,List.range_add]
  have:jdo [(⟨List.range' w.values.length cs.length,[],[]⟩:Blk)]=List.map (fun x=>w.values.length+x) (List.range cs.length):=by
   rw[←List.range'_eq_map_range];simp[jdo,js8]
  rw[this]
  exact v.made.append_right _
 .show sm (w.blocks++[_])=_
  rw[jpq];rfl
 .unfold nE jag;simp only
  rcases hg k with h | ⟨_,h,h'⟩
  .rw [h]
  .rw [h,h'];rfl
 .refine ⟨⟨List.range' w.values.length cs.length,[],[]⟩,by simp[jag],?_,fun u hu=>by simp only[f2r] at hu;omega⟩
  simp only[jag]
  apply f2s
  intro i
  rw[f09]
  rcases f0n i cs.length with h | h
  .rw [List.getElem?_range' h,f0b h]
   simp only[f26,Option.some.injEq]
   unfold cl
   rw[f0p,f0x oa]
   rw[show w.values.length+1*i - w.values.length=i by omega,f0b h];rfl
  .rw [f0y (by simpa using h),f0y h];rfl
theorem qsu {w:Ms} (v:Vok w) {k to:Nat} {args:List Nat} (hk:k<w.blocks.length) (h1:1<=to) (ht:Tg w to (args.map (cl w.values))) (ha:∀ u∈args,u<w.values.length):Vok (jay w k to args)/\Gr w (jay w k to args) /\
 (jay w k to args).blocks.length=w.blocks.length/\sm (jay w k to args).blocks=sm w.blocks/\(∀ j,nI (jay w k to args) j=nI w j)/\(∀ j,nE (jay w k to args) j=nE w j+if j=k then 1 else 0):=by
 have ni:∀ j,nI (jay w k to args) j=nI w j:=fun j=>by
  unfold nI jay;grind
 have gr:Gr w (jay w k to args):=⟨rfl,⟨[],by simp[jay]⟩,fun j t h=>jke (f:=fun b=>{ b with edges:=b.edges++[(⟨to,args⟩:Edg)] }) (fun _=>rfl) h,fun j=>f2t (ni j).symm⟩
 have md:=j9l hk (fun l=>l++[(⟨to,args⟩:Edg)])
 refine⟨⟨v.mm,v.cls,v.kn,by simp only[jay,f1d];exact v.cur,fun b hb y hy=>?_,fun b hb u hu=>?_,fun b hb=>?_,fun b hb e he=>?_,fun b hb=>?_,?_⟩,gr,by simp[jay],md.2,ni,fun j=>?_⟩
 .rcases jdt hb with hb | ⟨c,hc,hc2,rfl⟩
  .exact v.ins b hb y hy
  .exact v.ins c hc y hy
 .rcases jdt hb with hb | ⟨c,hc,hc2,rfl⟩
  .exact v.prm b hb u hu
  .exact v.prm c hc u hu
 .rcases jdt hb with hb | ⟨c,hc,hc2,rfl⟩
  .exact v.pl b hb
  .exact v.pl c hc
 .rcases jdt hb with hb | ⟨c,hc,hc2,rfl⟩
  .exact (v.edg b hb e he).gr gr
  .rcases f0e.1 he with he | he
   .exact (v.edg c hc e he).gr gr
   .rw [f0v.1 he]
    obtain⟨t,h3,h4,h5⟩:=ht
    exact jqv.gr gr ⟨h1,ha,t,h3,h4,h5⟩
 .obtain ⟨t,ht,e⟩:=ji0 (f:=fun b=>{ b with edges:=b.edges++[(⟨to,args⟩:Edg)] }) (fun _=>rfl) hb
  rw[e];exact v.ent t ht
 .show (jdo (w.blocks.modify k _)).Perm _
  rw[md.1];exact v.made
 .unfold nE jay;simp only
  rw[jg0 hk]
  split
  .simp
  .rfl
theorem Vok.set {w:Ms} (v:Vok w) {c:Nat} {kn:List Nat} (h1:c<w.blocks.length) (h2:∀ u∈kn,u<w.values.length):Vok { w with cur:=c,known:=kn } :=
 ⟨v.mm,v.cls,h2,h1,v.ins,v.prm,v.pl,v.edg,v.ent,v.made⟩
theorem Gr.set (w:Ms) (c:Nat) (kn:List Nat):Gr w { w with cur:=c,known:=kn }:=⟨rfl,⟨[],se⟩,fun k t h=>⟨t,h,rfl⟩,fun k=>f0h _⟩
theorem jws {w:Ms} {cls v:Nat}:∀ {n:Nat},n<=w.known.length->jsy w cls n=some v->v∈w.known/\cl w.values v=cls
 | 0,_,h=>by cases h
 | n+1,hn,h=>by
  unfold jsy at h
  simp only at h
  split at h
  .rename_i h1
   obtain rfl:=Option.some.inj h
   exact⟨by grind,h1⟩
  .exact jws oa h
theorem jry {p:Pc} {cls i:Nat} (hc:cls<2) (hi:i<2):jgk { p with c:=3*(cls:Int) } i=cls:=by
 have h1:cls=0∨cls=1:=oa
 have h2:i=0∨i=1:=oa
 rcases h1 with rfl | rfl<;>rcases h2 with rfl | rfl<;>rfl
theorem jg1 {w:Ms} (v:Vok w) {cls:Nat} (hc:cls<2) (p:Pc):Vok (jac w cls p).2/\Gr w (jac w cls p).2/\(jac w cls p).2.cur=w.cur/\(jac w cls p).2.blocks.length=w.blocks.length/\(jac w cls p).2.values.length<=w.values.length+2 /\
 sm (jac w cls p).2.blocks<=sm w.blocks+1/\(∀ k,nI (jac w cls p).2 k<=nI w k+if k=w.cur then 1 else 0)/\(∀ k,nE (jac w cls p).2 k=nE w k) /\
 (jac w cls p).1∈(jac w cls p).2.known/\cl (jac w cls p).2.values (jac w cls p).1=cls/\∃ r,(jac w cls p).2.known=w.known++r:=by
 unfold jac
 cases e:jsy w cls (w.known.length - pk p.b 3) with
 | some u =>
  simp only
  have h:=jws oa e
  simp_all[Gr.refl,trivial]
 | none =>
  simp only
  obtain⟨h1,h2,h3,h4,h5,h6,h7,h8,cs,h9,h10,h11⟩:=qna v { p with c:=3*(cls:Int) }
  rw[jry hc oa,jry hc oa] at h9
  have hne:(jcp w { p with c:=3*(cls:Int) }).known≠[]:=by rw[h11];rcases h9 with rfl | rfl<;>simp[List.range']
  refine⟨h1,h2,h3,h4,h5,oa,fun k=>f2t (h7 k),h8,j1g hne (by have:=f1v.2 hne;omega),?_,_,h11⟩
  rw[h10,h11]
  rcases h9 with rfl | rfl
  .have:(w.known++List.range' w.values.length [cls].length).getD ((w.known++List.range' w.values.length [cls].length).length - 1) 0=w.values.length:=by
    rw[f0p];simp[List.range']
   rw[this,j1f]
  .have:(w.known++List.range' w.values.length [cls,cls].length).getD ((w.known++List.range' w.values.length [cls,cls].length).length - 1) 0=w.values.length+1:=by
    rw[f0p,f0x se];simp[List.range']
   rw[this]
   unfold cl
   rw[f0p,f0x oa];simp
structure Bd (w:Ms) (nv nb s:Nat) (L E:Nat->Nat):Prop where
 v:Vok w
 nv:w.values.length<=nv
 nb:w.blocks.length=nb
 sum:sm w.blocks<=s
 i:∀ k,nI w k<=L k
 e:∀ k,nE w k=E k
 par:∀ k,1<nE w k->0<nI w k
def up (L:Nat->Nat) (k:Nat):Nat->Nat:=fun j=>L j+if j=k then 1 else 0
section
variable {w:Ms} {nv nb s:Nat} {L E:Nat->Nat}
theorem Bd.lay (b:Bd w nv nb s L E) (p:Pc):Bd (jcp w p) (nv+2) nb (s+1) (up L w.cur) E/\Gr w (jcp w p)/\(jcp w p).cur=w.cur/\0<nI (jcp w p) w.cur/\∃ r,(jcp w p).known=w.known++r:=by
 obtain⟨h1,h2,h3,h4,h5,h6,h7,h8,cs,h9,h10,h11⟩:=qna b.v p
 refine⟨⟨h1,by have:=b.nv;omega,h4.trans b.nb,by have:=b.sum;omega,fun k=>?_,fun k=>(h8 k).trans (b.e k),fun k hk=>?_⟩,h2,h3,by grind,_,h11⟩
 .rw [h7];have:=b.i k;unfold up;omega
 .rw [h8] at hk;have:=b.par k hk;grind
theorem Bd.newest (b:Bd w nv nb s L E) {cls:Nat} (hc:cls<2) (p:Pc):Bd (jac w cls p).2 (nv+2) nb (s+1) (up L w.cur) E/\Gr w (jac w cls p).2/\(jac w cls p).2.cur=w.cur/\(jac w cls p).1<(jac w cls p).2.values.length/\cl (jac w cls p).2.values (jac w cls p).1=cls/\∃ r,(jac w cls p).2.known=w.known++r:=by
 obtain⟨h1,h2,h3,h4,h5,h6,h7,h8,h9,h10,h11⟩:=jg1 b.v hc p
 refine⟨⟨h1,by have:=b.nv;omega,h4.trans b.nb,by have:=b.sum;omega,fun k=>?_,fun k=>(h8 k).trans (b.e k),fun k hk=>?_⟩,h2,h3,h1.kn _ h9,h10,h11⟩
 .have:=h7 k;have:=b.i k;unfold up;omega
 .rw [h8] at hk;have:=b.par k hk;have:=h2.len k;omega
theorem Bd.block (b:Bd w nv nb s L E) {cs:List Nat} (h1:cs.length<=2) (h2:∀ c∈cs,c<2):Bd (jag w cs) (nv+cs.length) (nb+1) s L E/\Gr w (jag w cs)/\Tg (jag w cs) nb cs:=by
 obtain⟨a1,a2,a3,a4,a5,a6,a7,a8⟩:=qnb b.v cs h1 h2
 exact⟨⟨a1,by have:=b.nv;omega,by rw[a3,b.nb],by rw[a5];exact b.sum,fun k=>by rw[a6];exact b.i k,fun k=>by rw[a7];exact b.e k,fun k hk=>by rw[a6];rw[a7] at hk;exact b.par k hk⟩,a2,b.nb▸a8⟩
theorem Bd.edge (b:Bd w nv nb s L E) {k to:Nat} {args cs:List Nat} (hk:k<nb) (h1:1<=to) (ht:Tg w to cs) (hcs:args.map (cl w.values)=cs) (ha:∀ u∈args,u<w.values.length) (hp:E k=0∨0<nI w k):Bd (jay w k to args) nv nb s L (up E k)/\Gr w (jay w k to args):=by
 obtain⟨a1,a2,a3,a4,a5,a6⟩:=qsu b.v (by rw[b.nb];omega) h1 (hcs▸ht) ha
 refine⟨⟨a1,b.nv,a3.trans b.nb,by rw[a4];exact b.sum,fun j=>by rw[a5];exact b.i j,fun j=>by rw[a6,b.e];rfl,fun j hj=>?_⟩,a2⟩
 rw[a6] at hj
 rw[a5]
 by_cases h:j=k
 .subst h
  rw[if_pos rfl] at hj
  rcases hp with hp | hp
  .rw [b.e,hp] at hj;omega
  omega
 .rw [if_neg h] at hj;exact b.par j hj
theorem Bd.set (b:Bd w nv nb s L E) {c:Nat} {kn:List Nat} (h1:c<nb) (h2:∀ u∈kn,u<w.values.length):Bd { w with cur:=c,known:=kn } nv nb s L E :=
 ⟨b.v.set (by rw[b.nb];omega) h2,b.nv,b.nb,b.sum,b.i,b.e,b.par⟩
theorem Bd.le (b:Bd w nv nb s L E) {nv' s':Nat} {L':Nat->Nat} (h1:nv<=nv') (h2:s<=s') (h3:∀ k,L k<=L' k):Bd w nv' nb s' L' E :=
 ⟨b.v,f02 b.nv h1,b.nb,f02 b.sum h2,fun k=>f02 (b.i k) (h3 k),b.e,b.par⟩
theorem Bd.way (b:Bd w nv nb s L E) {cls:Nat} (hc:cls<2) (p:Pc) (before:Nat) {e k:Nat} (lay:Bool) (hk:k<nb) (he:1<=e) (ht:Tg w e [cls,0]) (hE:E k=0) :
 Bd (jif p cls before e k lay w).2 (nv+6) nb (s+3) (up (up (up L k) k) k) (up E k)/\Gr w (jif p cls before e k lay w).2/\∃ r,(jif p cls before e k lay w).2.known=(w.known++r).take before:=by
 have b0:Bd { w with cur:=k } nv nb s L E:=b.set (kn:=w.known) hk b.v.kn
 have g0:Gr w { w with cur:=k }:=Gr.set w k w.known
 obtain⟨q,hq⟩:∃ q:Pc,(if lay then { { p with a:=inc p.a } with op:=inc p.op } else { p with a:=inc p.a })=q:=⟨_,rfl⟩
 have h1:∃ w1,(if lay then jcp { w with cur:=k } q else { w with cur:=k })=w1/\Bd w1 (nv+2) nb (s+1) (up L k) E/\Gr w w1/\w1.cur=k/\∃ r,w1.known=w.known++r:=by
  cases lay with
  | true =>
   obtain⟨a1,a2,a3,a4,r,a5⟩:=b0.lay q
   exact⟨_,rfl,a1,g0.trans a2,a3,r,a5⟩
  | false=>exact⟨_,rfl,b0.le oa oa (fun j=>by unfold up;omega),g0,rfl,[],se⟩
 obtain⟨w1,e1,b1,g1,c1,r1,k1⟩:=h1
 obtain⟨b2,g2,c2,l2,d2,r2,k2⟩:=b1.newest hc q
 obtain⟨b3,g3,c3,l3,d3,r3,k3⟩:=b2.newest (cls:=0) oa q
 have l2':=f0o l2 g3.vlen
 have d2':=(g3.cl l2).trans d2
 obtain⟨b4,g4⟩:=b3.edge (k:=k) (to:=e) (args:=[(jac w1 cls q).1,(jac (jac w1 cls q).2 0 q).1]) hk he (((ht.gr g1).gr g2).gr g3) (by simp[d2',d3]) (fun u hu=>by
  simp only[f0f,f1e,or_false] at hu
  rcases hu with rfl | rfl<;>assumption) (.inl hE)
 rw[c1] at b2 b3
 rw[c2,c1] at b3
 have hcur:=b4.v.cur
 have eq:(jif p cls before e k lay w).2={ (jay (jac (jac w1 cls q).2 0 q).2 k e [(jac w1 cls q).1,(jac (jac w1 cls q).2 0 q).1]) with known:=(jay (jac (jac w1 cls q).2 0 q).2 k e [(jac w1 cls q).1,(jac (jac w1 cls q).2 0 q).1]).known.take before }:=by
  unfold jif
  simp only[hq,e1]
 rw[eq]
 refine⟨(b4.set (by rw[b4.nb] at hcur;exact hcur) (fun u hu=>b4.v.kn u (List.mem_of_mem_take hu))).le oa oa (fun j=>?_),(((g1.trans g2).trans g3).trans g4).trans (Gr.set _ _ _),r1++(r2++r3),?_⟩
 .rw [c1,c2,c1];exact f0h _
 .simp only[jay,k3,k2,k1,f0g]
theorem Bd.e0 (b:Bd w nv nb s L E) {k:Nat} (hk:nb<=k):E k=0/\nI w k=0:=by
 have:w.blocks.getD k jg9=jg9:=by rw[f0p,f0y (by rw[b.nb];omega)];rfl
 refine⟨?_,?_⟩
 .rw [←b.e];unfold nE;rw[this];rfl
 .unfold nI;rw[this];rfl
theorem Tg.params {w:Ms} {e:Nat} {cs:List Nat} (h:Tg w e cs):∀ u∈(w.blocks.getD e jg9).params,u<w.values.length:=by
 obtain⟨t,h1,_,h3⟩:=h
 grind
theorem jfh {L:Nat->Nat} {k:Nat} (h:j≠k):up L k j=L j:=by unfold up;grind
theorem Bd.fork (b:Bd w nv nb s L E) (h0:E w.cur=0) (p:Pc) :
 Bd (jfn w p) (nv+16) (nb+3) (s+7) (up (up (up (up (up (up (up L w.cur) nb) nb) nb) (nb+1)) (nb+1)) (nb+1)) (up (up (up (up E w.cur) w.cur) nb) (nb+1))/\Gr w (jfn w p)/\(jfn w p).cur=nb+2:=by
 have hc:pk p.c 2<2:=pkl oa
 obtain⟨w1,e1⟩:∃ w1,jcp w p=w1:=⟨_,rfl⟩
 obtain⟨b1,g1,c1,n1,r1,k1⟩:=b.lay p
 rw[e1] at b1 g1 c1 n1 k1
 have hcur:w.cur<nb:=by rw[←b.nb];exact b.v.cur
 obtain⟨w4,e4⟩:∃ w4,jag (jag (jag w1 []) []) [pk p.c 2,0]=w4:=⟨_,rfl⟩
 obtain⟨b2,g2,t2⟩:=b1.block (cs:=[]) se se
 obtain⟨b3,g3,t3⟩:=b2.block (cs:=[]) se se
 obtain⟨b4,g4,t4⟩:=b3.block (cs:=[pk p.c 2,0]) se (fun c h=>by
  simp only[f0f,f1e,or_false] at h;omega)
 rw[e4] at b4 g4 t4
 have g14:=(g2.trans g3).trans g4
 have ta:Tg w4 nb []:=(t2.gr g3).gr g4
 have tb:Tg w4 (nb+1) []:=t3.gr g4
 obtain⟨b5,g5⟩:=b4.edge (k:=w.cur) (to:=nb) (args:=[]) oa oa ta rfl se (.inl h0)
 obtain⟨b6,g6⟩:=b5.edge (k:=w.cur) (to:=nb+1) (args:=[]) oa oa (tb.gr g5) rfl se (.inr (by
  have:=(g14.trans g5).len w.cur;omega))
 obtain⟨w6,e6⟩:∃ w6,jay (jay w4 w.cur nb []) w.cur (nb+1) []=w6:=⟨_,rfl⟩
 rw[e6] at b6 g6
 have t6:Tg w6 (nb+2) [pk p.c 2,0]:=(t4.gr g5).gr g6
 have z1:up (up E w.cur) w.cur nb=0:=by rw[jfh oa,jfh oa];exact(b.e0 (f0h _)).1
 obtain⟨b7,g7,r7,k7⟩:=b6.way hc p w1.known.length (e:=nb+2) (k:=nb) true oa oa t6 z1
 obtain⟨x,ex⟩:∃ x,jif p (pk p.c 2) w1.known.length (nb+2) nb true w6=x:=⟨_,rfl⟩
 rw[ex] at b7 g7 k7
 have z2:up (up (up E w.cur) w.cur) nb (nb+1)=0:=by rw[jfh oa,jfh oa,jfh oa];exact(b.e0 oa).1
 obtain⟨b8,g8,r8,k8⟩:=b7.way hc x.1 w1.known.length (e:=nb+2) (k:=nb+1) (decide (pk p.flags 2=1)) oa oa (t6.gr g7) z2
 obtain⟨y,ey⟩:∃ y,jif x.1 (pk p.c 2) w1.known.length (nb+2) (nb+1) (decide (pk p.flags 2=1)) x.2=y:=⟨_,rfl⟩
 rw[ey] at b8 g8 k8
 have ht8:=((t6.gr g7).gr g8).params
 have eq:jfn w p={ y.2 with cur:=nb+2,known:=y.2.known++(y.2.blocks.getD (nb+2) jg9).params }:=by
  unfold jfn
  simp only[e1,c1,b1.nb,e4,e6,ex,ey]
  rfl
 rw[eq]
 refine⟨(b8.set (c:=nb+2) oa (fun u hu=>?_)).le se oa (fun _=>f0h _),(((((g1.trans g14).trans g5).trans g6).trans g7).trans g8).trans (Gr.set _ _ _),rfl⟩
 rcases f0e.1 hu with hu | hu
 .exact b8.v.kn u hu
 .exact ht8 u hu
theorem Bd.loop (b:Bd w nv nb s L E) (h0:E w.cur=0) (p:Pc) :
 Bd (jgl w p) (nv+14) (nb+3) (s+6) (up (up (up (up (up (up L w.cur) w.cur) nb) (nb+1)) (nb+1)) (nb+1)) (up (up (up (up E w.cur) nb) nb) (nb+1))/\Gr w (jgl w p)/\(jgl w p).cur=nb+2:=by
 have hc:pk p.c 2<2:=pkl oa
 have hcur:w.cur<nb:=by rw[←b.nb];exact b.v.cur
 obtain⟨b1,g1,c1,l1,d1,r1,k1⟩:=b.newest hc p
 obtain⟨v,ev⟩:∃ v,jac w (pk p.c 2) p=v:=⟨_,rfl⟩
 rw[ev] at b1 g1 c1 l1 d1 k1
 obtain⟨b2,g2,c2,l2,d2,r2,k2⟩:=b1.newest (cls:=0) oa p
 obtain⟨u,eu⟩:∃ u,jac v.2 0 p=u:=⟨_,rfl⟩
 rw[eu] at b2 g2 c2 l2 d2 k2
 rw[c1] at b2 c2
 obtain⟨b3,g3,t3⟩:=b2.block (cs:=[pk p.c 2,0]) se (fun c h=>by
  simp only[f0f,f1e,or_false] at h;omega)
 obtain⟨w3,e3⟩:∃ w3,jag u.2 [pk p.c 2,0]=w3:=⟨_,rfl⟩
 have c3:(jag u.2 [pk p.c 2,0]).cur=w.cur:=c2
 rw[e3] at b3 g3 t3 c3
 have lv:v.1<w3.values.length:=f0o (f0o l1 g2.vlen) g3.vlen
 have lu:u.1<w3.values.length:=f0o l2 g3.vlen
 have dv:cl w3.values v.1=pk p.c 2:=((g3.cl (f0o l1 g2.vlen)).trans (g2.cl l1)).trans d1
 have du:cl w3.values u.1=0:=(g3.cl l2).trans d2
 obtain⟨b4,g4⟩:=b3.edge (k:=w.cur) (to:=nb) (args:=[v.1,u.1]) oa oa t3 (by simp[dv,du]) (fun x hx=>by
  simp only[f0f,f1e,or_false] at hx
  rcases hx with rfl | rfl<;>assumption) (.inl h0)
 obtain⟨w4,e4⟩:∃ w4,jay w3 w.cur nb [v.1,u.1]=w4:=⟨_,rfl⟩
 rw[e4] at b4 g4
 have t4:=t3.gr g4
 have kn5:∀ x∈w4.known++(w4.blocks.getD nb jg9).params,x<w4.values.length:=fun x hx=>by
  rcases f0e.1 hx with hx | hx
  .exact b4.v.kn x hx
  .exact t4.params x hx
 have b5:=b4.set (c:=nb) oa kn5
 have g5:=Gr.set w4 nb (w4.known++(w4.blocks.getD nb jg9).params)
 obtain⟨w5,e5⟩:∃ w5,({ w4 with cur:=nb,known:=w4.known++(w4.blocks.getD nb jg9).params }:Ms)=w5:=⟨_,rfl⟩
 have c5:w5.cur=nb:=by rw[←e5]
 rw[e5] at b5 g5
 obtain⟨b6,g6,c6,n6,r6,k6⟩:=b5.lay { p with flags:=odd p.flags }
 obtain⟨w6,e6⟩:∃ w6,jcp w5 { p with flags:=odd p.flags }=w6:=⟨_,rfl⟩
 rw[e6] at b6 g6 c6 n6 k6
 rw[c5] at b6 n6 c6
 obtain⟨b7,g7,t7⟩:=b6.block (cs:=[]) se se
 obtain⟨b8,g8,t8⟩:=b7.block (cs:=[]) se se
 obtain⟨w8,e8⟩:∃ w8,jag (jag w6 []) []=w8:=⟨_,rfl⟩
 rw[e8] at b8 g8 t8
 have z4:up E w.cur nb=0:=by rw[jfh oa];exact(b.e0 (f0h _)).1
 obtain⟨b9,g9⟩:=b8.edge (k:=nb) (to:=nb+1) (args:=[]) oa oa (t7.gr g8) rfl se (.inl z4)
 obtain⟨b10,g10⟩:=b9.edge (k:=nb) (to:=nb+1+1) (args:=[]) oa oa (t8.gr g9) rfl se (.inr (by
  have:=((g7.trans g8).trans g9).len nb;omega))
 obtain⟨w10,e10⟩:∃ w10,jay (jay w8 nb (nb+1) []) nb (nb+1+1) []=w10:=⟨_,rfl⟩
 rw[e10] at b10 g10
 obtain⟨q,eq⟩:∃ q:Pc,(⟨p.kind,inc p.op,inc p.a,p.b,p.c,p.limits,odd p.flags⟩:Pc)=q:=⟨_,rfl⟩
 have b11:=b10.set (c:=nb+1) (kn:=w10.known) oa b10.v.kn
 have g11:=Gr.set w10 (nb+1) w10.known
 obtain⟨w11,e11⟩:∃ w11,({ w10 with cur:=nb+1,known:=w10.known }:Ms)=w11:=⟨_,rfl⟩
 have c11:w11.cur=nb+1:=by rw[←e11]
 rw[e11] at b11 g11
 obtain⟨b12,g12,c12,n12,r12,k12⟩:=b11.lay q
 obtain⟨w12,e12⟩:∃ w12,jcp w11 q=w12:=⟨_,rfl⟩
 rw[e12] at b12 g12 c12 n12 k12
 rw[c11] at b12 c12
 obtain⟨b13,g13,c13,l13,d13,r13,k13⟩:=b12.newest hc q
 obtain⟨x,ex⟩:∃ x,jac w12 (pk p.c 2) q=x:=⟨_,rfl⟩
 rw[ex] at b13 g13 c13 l13 d13 k13
 rw[c12] at b13 c13
 obtain⟨b14,g14,c14,l14,d14,r14,k14⟩:=b13.newest (cls:=0) oa q
 obtain⟨y,ey⟩:∃ y,jac x.2 0 q=y:=⟨_,rfl⟩
 rw[ey] at b14 g14 c14 l14 d14 k14
 rw[c13] at b14 c14
 have gg:=(((((((((g5.trans g6).trans g7).trans g8).trans g9).trans g10).trans g11).trans g12).trans g13).trans g14)
 have lx:x.1<y.2.values.length:=f0o l13 g14.vlen
 have dx:cl y.2.values x.1=pk p.c 2:=(g14.cl l13).trans d13
 have z5:up (up (up E w.cur) nb) nb (nb+1)=0:=by rw[jfh oa,jfh oa,jfh oa];exact(b.e0 oa).1
 obtain⟨b15,g15⟩:=b14.edge (k:=nb+1) (to:=nb) (args:=[x.1,y.1]) oa oa (t4.gr gg) (by simp[dx,d14]) (fun z hz=>by
  simp only[f0f,f1e,or_false] at hz
  rcases hz with rfl | rfl<;>assumption) (.inl z5)
 obtain⟨w15,e15⟩:∃ w15,jay y.2 (nb+1) nb [x.1,y.1]=w15:=⟨_,rfl⟩
 rw[e15] at b15 g15
 have res:jgl w p={ w15 with cur:=nb+1+1,known:=w15.known.take w6.known.length }:=by
  unfold jgl
  simp only[ev,eu,b2.nb,e3,c3,e4]
  rw[show(w4.blocks.getD nb ⟨[],[],[]⟩).params=(w4.blocks.getD nb jg9).params from rfl]
  simp only[e5,e6,b6.nb,e8,e10,e11,e12,eq,ex,ey,e15]
 rw[res]
 refine⟨(b15.set (c:=nb+1+1) oa (fun z hz=>b15.v.kn z (List.mem_of_mem_take hz))).le se oa (fun _=>f0h _),((((g1.trans g2).trans g3).trans g4).trans (gg.trans g15)).trans (Gr.set _ _ _),rfl⟩
end
structure Pok (w:Ms) (j:Nat):Prop where
 v:Vok w
 e0:nE w w.cur=0
 e2:∀ k,nE w k<=2
 par:∀ k,1<nE w k->0<nI w k
 i:∀ k,nI w k<=22
 nv:w.values.length<=126
 nb:w.blocks.length<=16
 sum:sm w.blocks<=j+2*w.blocks.length
theorem Pok.bd {w:Ms} (k:Pok w j):Bd w w.values.length w.blocks.length (sm w.blocks) (nI w) (nE w):=⟨k.v,f0h _,rfl,f0h _,fun _=>f0h _,fun _=>rfl,k.par⟩
theorem jta (w:Ms):lenOf w=nI w w.cur:=rfl
theorem Pok.piece {w:Ms} (k:Pok w j) (p:Pc):Pok (jbs w p) (j+1):=by
 have b:=k.bd
 have hcur:=k.v.cur
 unfold jbs
 simp only
 generalize hr:(decide (w.blocks.length+3<=16)&&(decide (lenOf w<20)&&decide (w.values.length<110)))=r
 by_cases hk0:pk p.kind 6=0/\r=true
 .rw [if_pos hk0]
  rw[hk0.2] at hr
  simp only[f05,decide_eq_true_eq] at hr
  obtain⟨h1,h2,h3⟩:=hr
  rw[jta] at h2
  obtain⟨f1,f2,f3⟩:=b.fork k.e0 p
  have hn:=fun i (hi:w.blocks.length<=i)=>b.e0 hi
  refine⟨f1.v,?_,fun i=>?_,f1.par,fun i=>?_,by have:=f1.nv;omega,by have:=f1.nb;omega,by have:=f1.sum;have:=f1.nb;have:=k.sum;omega⟩
  .rw [f1.e,f3,jfh oa,jfh oa,jfh oa,jfh oa];exact(hn _ oa).1
  .rw [f1.e]
   have:=k.e2 i
   have:=k.e0
   unfold up
   by_cases c1:i=w.cur
   .subst c1;rw[if_pos rfl,if_neg oa,if_neg oa];omega
   .rw [if_neg c1]
    by_cases c2:w.blocks.length<=i
    .rw [(hn i c2).1];split<;>split<;>omega
    .rw [if_neg oa,if_neg oa];omega
  .have hf:=f1.i i
   have hi:=k.i i
   unfold up at hf
   by_cases c1:i=w.cur
   .subst c1;rw[if_pos rfl,if_neg oa,if_neg oa] at hf;omega
   .rw [if_neg c1] at hf
    by_cases c2:w.blocks.length<=i
    .rw [(hn i c2).2] at hf
     split at hf<;>split at hf<;>omega
    .rw [if_neg oa,if_neg oa] at hf;omega
 .rw [if_neg hk0]
  by_cases hk1:pk p.kind 6=1/\r=true
  .rw [if_pos hk1]
   rw[hk1.2] at hr
   simp only[f05,decide_eq_true_eq] at hr
   obtain⟨h1,h2,h3⟩:=hr
   rw[jta] at h2
   obtain⟨f1,f2,f3⟩:=b.loop k.e0 p
   have hn:=fun i (hi:w.blocks.length<=i)=>b.e0 hi
   refine⟨f1.v,?_,fun i=>?_,f1.par,fun i=>?_,by have:=f1.nv;omega,by have:=f1.nb;omega,by have:=f1.sum;have:=f1.nb;have:=k.sum;omega⟩
   .rw [f1.e,f3,jfh oa,jfh oa,jfh oa,jfh oa];exact(hn _ oa).1
   .rw [f1.e]
    have:=k.e2 i
    have:=k.e0
    unfold up
    by_cases c1:i=w.cur
    .subst c1;rw[if_pos rfl,if_neg oa,if_neg oa];omega
    .rw [if_neg c1]
     by_cases c2:w.blocks.length<=i
     .rw [(hn i c2).1];split<;>split<;>omega
     .rw [if_neg oa,if_neg oa];omega
   .have hf:=f1.i i
    have hi:=k.i i
    unfold up at hf
    by_cases c1:i=w.cur
    .subst c1;rw[if_pos rfl,if_neg oa,if_neg oa] at hf;omega
    .rw [if_neg c1] at hf
     by_cases c2:w.blocks.length<=i
     .rw [(hn i c2).2] at hf
      split at hf<;>split at hf<;>omega
     .rw [if_neg oa,if_neg oa] at hf;omega
  .rw [if_neg hk1]
   by_cases h:lenOf w<20/\w.values.length<120
   .rw [if_pos h]
    obtain⟨h1,h2⟩:=h
    rw[jta] at h1
    obtain⟨f1,f2,f3,_⟩:=b.lay p
    refine⟨f1.v,by rw[f1.e,f3];exact k.e0,fun i=>by rw[f1.e];exact k.e2 i,f1.par,fun i=>?_,by have:=f1.nv;omega,by have:=f1.nb;have:=k.nb;omega,by have:=f1.sum;have:=f1.nb;have:=k.sum;omega⟩
    have hf:=f1.i i
    have hi:=k.i i
    unfold up at hf
    by_cases c1:i=w.cur
    .subst c1;rw[if_pos rfl] at hf;omega
    .rw [if_neg c1] at hf;omega
   .rw [if_neg h]
    exact⟨k.v,k.e0,k.e2,k.par,k.i,k.nv,k.nb,by have:=k.sum;omega⟩
theorem Pok.pieces:∀ (l:List Pc) {w:Ms} {j:Nat},Pok w j->Pok (l.foldl jbs w) (j+l.length)
 | [],w,j,k=>k
 | p::l,w,j,k=>by
  have:=Pok.pieces l (k.piece p)
  grind
theorem j9m:∀ (l:List Pc) (w:Ms) (j:Nat),Pok w j->(l.foldl jbs w).m=w.m
 | [],w,j,k=>rfl
 | p::l,w,j,k=>by
  rw[f25,j9m l _ _ (k.piece p)]
  have b:=k.bd
  unfold jbs
  simp only
  split
  .exact (b.fork k.e0 p).2.1.m
  .split
   .exact (b.loop k.e0 p).2.1.m
   .split
    .exact (b.lay p).2.1.m
    .rfl
structure FcOk (m:Nat×Nat) (f:Fc):Prop where
 nb:1<=f.blocks.length/\f.blocks.length<=16
 nv:f.values.length<=160
 cls:∀ c∈f.values,c<2
 blk:∀ b∈f.blocks,b.params.length<=5/\b.instrs.length<=40/\b.edges.length<=3
 all:sm f.blocks<=160
 ins:∀ b∈f.blocks,∀ x∈b.instrs,InsOk m f.values x
 par:∀ b∈f.blocks,1<b.edges.length->b.instrs≠[]
 edg:∀ b∈f.blocks,∀ e∈b.edges,jqv f.values f.blocks e
 ent:∀ b,f.blocks[0]?=some b->b.params=[]
 prm:∀ b∈f.blocks,∀ v∈b.params,v<f.values.length
theorem qh4 {l:List Blk} {b:Blk} (h:b∈l):∃ k,l.getD k jg9=b:=by
 obtain⟨k,hk⟩:=f2o h
 exact⟨k,by grind⟩
theorem jkf {m:Nat×Nat} (m1:2<=m.1/\m.1<=10) (m2:2<=m.2/\m.2<=10):Pok (jb7 m) 0:=by
 have v0:Vok (jb7 m):=⟨⟨m1,m2⟩,fun c h=>by trivial,fun c h=>by trivial,by simp[jb7],fun b hb x hx=>by
  rw[f0v.1 hb] at hx;grind,fun b hb x hx=>by
  rw[f0v.1 hb] at hx;grind,fun b hb=>by rw[f0v.1 hb];simp,fun b hb x hx=>by
  rw[f0v.1 hb] at hx;grind,fun b hb=>by simp[jb7] at hb;grind,by rfl⟩
 have z:∀ k,([⟨[],[],[]⟩]:List Blk).getD k jg9=jg9:=fun k=>by
  cases k<;>rfl
 exact⟨v0,rfl,fun k=>by unfold nE jb7;simp only;rw[z];decide,fun k h=>by unfold nE jb7 at h;simp only at h;rw[z] at h;simp[jg9] at h,fun k=>by unfold nI jb7;simp only;rw[z];exact f15 _,by simp[jb7],by simp[jb7],by simp[jb7,sm]⟩
theorem j1h {m:Nat×Nat} (m1:2<=m.1/\m.1<=10) (m2:2<=m.2/\m.2<=10) (l:List Pc):FcOk m (jev m l)/\(jdo (jev m l).blocks).Perm (List.range (jev m l).values.length)/\(jev m l).values.length<=128:=by
 have k0:=jkf m1 m2
 have k1:=k0.pieces (l.take 24)
 obtain⟨b,g,c,n,_⟩:=k1.bd.lay ⟨0,0,1,0,0,0,3⟩
 obtain⟨w,ew⟩:∃ w,(l.take 24).foldl jbs (jb7 m)=w:=⟨_,rfl⟩
 have hm:w.m=m:=by rw[←ew];exact j9m (l.take 24) (jb7 m) 0 k0
 rw[ew] at b g c n k1
 have lt:(l.take 24).length<=24:=by simp;omega
 have bl:∀ k,nI (jcp w ⟨0,0,1,0,0,0,3⟩) k<=23:=fun k=>by
  have hf:=b.i k
  have hi:=k1.i k
  unfold up at hf;split at hf<;>omega
 have be:∀ k,nE (jcp w ⟨0,0,1,0,0,0,3⟩) k<=2:=fun k=>by rw[b.e];exact k1.e2 k
 have nv:=b.nv
 have nb:=b.nb
 have nk:=k1.nv
 have nbk:=k1.nb
 have sk:=k1.sum
 have sb:=b.sum
 unfold jev
 simp only[ew]
 have vc:=b.v.cur
 have n1:1<=(jcp w ⟨0,0,1,0,0,0,3⟩).blocks.length:=oa
 have n2:(jcp w ⟨0,0,1,0,0,0,3⟩).blocks.length<=16:=oa
 have n3:(jcp w ⟨0,0,1,0,0,0,3⟩).values.length<=160:=oa
 have n4:sm (jcp w ⟨0,0,1,0,0,0,3⟩).blocks<=160:=oa
 have n5:(jcp w ⟨0,0,1,0,0,0,3⟩).values.length<=128:=oa
 refine⟨⟨⟨n1,n2⟩,n3,b.v.cls,fun x hx=>?_,n4,?_,fun x hx h=>?_,b.v.edg,b.v.ent,b.v.prm⟩,b.v.made,n5⟩
 .obtain ⟨k,e⟩:=qh4 hx
  have h1:=bl k
  have h2:=be k
  unfold nI at h1;unfold nE at h2
  rw[e] at h1 h2
  have:=b.v.pl x hx
  omega
 .have:=b.v.ins
  rw[g.m,hm] at this;exact this
 .obtain ⟨k,e⟩:=qh4 hx
  have h1:=b.par k
  unfold nI nE at h1
  rw[e] at h1
  have:=h1 h
  intro h2;rw[h2] at this;simp at this
end Go.Proofs.YtkpadfebkaangaaGreatDoor.Ms
