/- Functions built of pieces: each instruction may be. No program in sight. -/
import Derived.Test.YtdbklpgagdbpiaaDoorEnc
namespace Go.Proofs.YtdbklpgagdbpiaaDoor.Ms
set_option linter.all false
variable {l vs:List Nat} {a b:Ms} {j r uses:Nat}
def cl (vs:List Nat) (v:Nat):Nat:=vs.getD v 0
structure OpdOk (m:Nat×Nat) (vs:List Nat) (o:Opd):Prop where
 kind:o.kind=1∨o.kind=2
 lim:1<=o.limit/\o.limit<=5
 val:o.value<vs.length
 fix:o.limit=4->o.n<g2 m (cl vs o.value)
 zero:o.limit<=3->o.n=0
 reu:o.limit=5->o.kind=2/\o.late=true
def j5n (vs:List Nat) (ops:List Opd) (o:Opd):Prop:=∃ u,ops[o.n]?=some u/\u.kind=1/\u.late=false/\cl vs u.value=cl vs o.value
def qfg (ops:List Opd) (o:Opd):Opd:=if o.limit=5 then ops.getD o.n ⟨0,0,false,0,0⟩ else o
def ji7 (vs:List Nat) (ops:List Opd) (o:Opd):Option (Nat×Nat):=if (qfg ops o).limit=4 then some (cl vs (qfg ops o).value,(qfg ops o).n) else none
def jc5 (vs:List Nat) (c:Nat) (o:Opd):Bool:=decide (cl vs o.value=c)&&(decide (o.limit≠1)&&decide (o.limit≠3))
structure InsOk (m:Nat×Nat) (vs:List Nat) (x:Ins):Prop where
 op:x.op<=255
 nops:x.ops.length<=6
 nsp:x.spoils.length<=20
 opd:∀ o∈x.ops,OpdOk m vs o
 reu:∀ o∈x.ops,o.limit=5->j5n vs x.ops o
 spo:∀ r∈x.spoils,r.1<2/\r.2<g2 m r.1
 ord:∀ (i:Nat) (q r:Nat×Nat),x.spoils[i]?=some q->x.spoils[i+1]?=some r->q.1<r.1∨(q.1=r.1/\q.2<r.2)
 sp:∀ o∈x.ops,∀ r,ji7 vs x.ops o=some r->r∉x.spoils
 cla:∀ (i j:Nat) (o p:Opd),j<i->x.ops[i]?=some o->x.ops[j]?=some p->(o.limit=5->p.limit=5->o.n≠p.n)/\(∀ r,ji7 vs x.ops o=some r->ji7 vs x.ops p=some r->(o.limit=5/\o.n=j)∨(p.limit=5/\p.n=i))
 need:∀ c,c<2->x.spoils.countP (fun r=>decide (r.1=c))+x.ops.countP (jc5 vs c)<g2 m c
theorem qdi {p:Nat×Nat} {c d x:Nat} (hc:c<2) (hd:d<2):g2 (s2 p c x) d=if d=c then x else g2 p d:=by
 unfold g2 s2
 have h1:c=0∨c=1:=by omega
 have h2:d=0∨d=1:=by omega
 rcases h1 with rfl | rfl<;>rcases h2 with rfl | rfl<;>rfl
theorem j20 {v:Nat} (h:v<vs.length):cl (vs++l) v=cl vs v:=by
 unfold cl
 rw[f0f,f0f,f0t h]
theorem j21 {c:Nat}:cl (vs++[c]) vs.length=c:=by
 unfold cl
 rw[f0f,f0u (f0d _)];simp
theorem j5o (h:∀ c∈vs,c<2) (v:Nat):cl vs v<2:=by
 unfold cl
 rw[f0f]
 cases e:vs[v]? with
 | none=>exact Nat.zero_lt_two
 | some c=>exact h c (f0c e)
structure IwOk (m:Nat×Nat) (vs:List Nat) (s:Iw):Prop where
 opd:∀ o∈s.ops,OpdOk m vs o
 reu:∀ o∈s.ops,o.limit=5->j5n vs s.ops o
 need:∀ c,c<2->s.ops.countP (jc5 vs c)=g2 s.need c
 needlt:∀ c,c<2->g2 s.need c+1<=g2 m c
 fixle:∀ c,c<2->g2 s.fixed c<=g2 s.need c
 fixlt:∀ o∈s.ops,o.limit=4->o.n<g2 s.fixed (cl vs o.value)
 fixinj:∀ (i j:Nat) (o p:Opd),s.ops[i]?=some o->s.ops[j]?=some p->o.limit=4->p.limit=4->cl vs o.value=cl vs p.value->o.n=p.n->i=j
 reinj:∀ (i j:Nat) (o p:Opd),s.ops[i]?=some o->s.ops[j]?=some p->o.limit=5->p.limit=5->o.n=p.n->i=j
theorem jgg {α:Type} {l:List α} {a b:α} {i:Nat} (h:(l++[a])[i]?=some b):(i<l.length/\l[i]?=some b)∨(i=l.length/\b=a):=by
 rcases f0h i l.length with h1 | h1
 .rw [f0t h1] at h;exact .inl ⟨h1,h⟩
 .rw [f0u h1] at h
  right
  have h2:i - l.length=0:=by
   rcases f2o (i - l.length) with h3 | h3
   .exact h3
   .rw [f0p (by simp;omega)] at h;cases h
  rw[h2] at h
  exact⟨by omega,by simpa using h.symm⟩
theorem j5n.app {ops r:List Opd} {o:Opd} (h:j5n vs ops o):j5n vs (ops++r) o:=by
 obtain⟨u,h1,h2⟩:=h
 refine⟨u,?_,h2⟩
 rw[f0t]
 .exact h1
 .rcases f0h o.n ops.length with h3 | h3
  .exact h3
  .rw [f0p h3] at h1;cases h1
theorem IwOk.app {m:Nat×Nat} {s:Iw} (k:IwOk m vs s) (hcl:∀ v,cl vs v<2) {o:Opd} (h1:OpdOk m vs o) {need fixed:Nat×Nat} {lim:Nat}
 (h2:o.limit=5->j5n vs s.ops o/\∀ p∈s.ops,p.limit=5->p.n≠o.n)
 (hn:∀ c,c<2->g2 need c=g2 s.need c+if jc5 vs c o=true then 1 else 0)
 (hl:∀ c,c<2->jc5 vs c o=true->g2 s.need c+1<g2 m c)
 (hf:∀ c,c<2->g2 fixed c=g2 s.fixed c+if o.limit=4/\cl vs o.value=c then 1 else 0)
 (h4:o.limit=4->o.n=g2 s.fixed (cl vs o.value)):IwOk m vs ⟨s.ops++[o],lim,need,fixed⟩:=by
 refine⟨fun p hp=>?_,fun p hp h5=>?_,fun c hc=>?_,fun c hc=>?_,fun c hc=>?_,fun p hp h5=>?_,fun i j p q hp hq h5 h6 h7 h8=>?_,fun i j p q hp hq h5 h6 h7=>?_⟩
 .rcases f0e.1 hp with hp | hp
  .exact k.opd p hp
  .rw [f0q.1 hp];exact h1
 .rcases f0e.1 hp with hp | hp
  .exact (k.reu p hp h5).app
  .obtain rfl:=f0q.1 hp;exact(h2 h5).1.app
 .show (s.ops++[o]).countP (jc5 vs c)=g2 need c
  rw[List.countP_append,k.need c hc,hn c hc,List.countP_singleton]
 .show g2 need c+1<=g2 m c
  rw[hn c hc]
  have:=k.needlt c hc
  split
  .rename_i h;have:=hl c hc h;omega
  .omega
 .show g2 fixed c<=g2 need c
  rw[hn c hc,hf c hc]
  have:=k.fixle c hc
  by_cases h5:o.limit=4/\cl vs o.value=c
  .have:jc5 vs c o=true:=by unfold jc5;rw[h5.1,h5.2];simp
   rw[if_pos h5,if_pos this];omega
  .rw [if_neg h5];omega
 .show p.n<g2 fixed (cl vs p.value)
  rw[hf _ (hcl _)]
  rcases f0e.1 hp with hp | hp
  .have:=k.fixlt p hp h5;omega
  .obtain rfl:=f0q.1 hp
   rw[if_pos ⟨h5,rfl⟩,h4 h5];omega
 .rcases jgg hp with⟨_,hp'⟩ | ⟨rfl,rfl⟩
  .rcases jgg hq with⟨_,hq'⟩ | ⟨rfl,rfl⟩
   .exact k.fixinj i j p q hp' hq' h5 h6 h7 h8
   .have:=k.fixlt p (f0c hp') h5
    rw[h8,h4 h6,←h7] at this;omega
  .rcases jgg hq with⟨_,hq'⟩ | ⟨rfl,rfl⟩
   .have:=k.fixlt q (f0c hq') h6
    rw[←h8,h4 h5,h7] at this;omega
   .rfl
 .rcases jgg hp with⟨_,hp'⟩ | ⟨rfl,rfl⟩
  .rcases jgg hq with⟨_,hq'⟩ | ⟨rfl,rfl⟩
   .exact k.reinj i j p q hp' hq' h5 h6 h7
   .exact absurd h7 ((h2 h6).2 p (f0c hp') h5)
  .rcases jgg hq with⟨_,hq'⟩ | ⟨rfl,rfl⟩
   .exact absurd h7.symm ((h2 h5).2 q (f0c hq') h6)
   .rfl
theorem IwOk.lim {m:Nat×Nat} {s:Iw} (k:IwOk m vs s) (hcl:∀ v,cl vs v<2) {wish kd v:Nat} {late:Bool} (hw:1<=wish/\wish<=4) (hk:kd=1∨kd=2) (hv:v<vs.length) {lim:Nat} :
 IwOk m vs ⟨s.ops++[⟨kd,v,late,(jbc m wish (cl vs v) s.need s.fixed).1,(jbc m wish (cl vs v) s.need s.fixed).2.1⟩],lim,(jbc m wish (cl vs v) s.need s.fixed).2.2.1,(jbc m wish (cl vs v) s.need s.fixed).2.2.2⟩/\(jbc m wish (cl vs v) s.need s.fixed).1≠5:=by
 have hc:=hcl v
 unfold jbc
 by_cases h1:wish=1∨wish=3∨g2 m (cl vs v)<=g2 s.need (cl vs v)+1
 .simp only[if_pos h1]
  have hlim:(if wish=3 then 3 else 1)=1∨(if wish=3 then 3 else 1)=3:=by split<;>simp
  generalize (if wish=3 then 3 else 1)=lm at *
  have hnp:∀ c,jc5 vs c ⟨kd,v,late,lm,0⟩=false:=fun c=>by
   unfold jc5
   rcases hlim with rfl | rfl<;>simp
  refine⟨k.app hcl ⟨hk,by simp only;omega,hv,fun h=>by simp only at h;omega,fun _=>rfl,fun h=>by simp only at h;omega⟩ (fun h=>by simp only at h;omega) (fun c hc=>by rw[hnp];simp) (fun c hc h=>by rw[hnp] at h;cases h) (fun c hc=>?_) (fun h=>by simp only at h;omega),by omega⟩
  simp only
  rw[if_neg (by omega)];rfl
 .rw [if_neg h1]
  have h2:g2 s.need (cl vs v)+1<g2 m (cl vs v):=by omega
  by_cases h3:wish=4
  .simp only[if_pos h3]
   have hnp:∀ c,jc5 vs c ⟨kd,v,late,4,g2 s.fixed (cl vs v)⟩=decide (cl vs v=c):=fun c=>by unfold jc5;simp
   have hfl:=k.fixle _ hc
   refine⟨k.app hcl ⟨hk,by simp,hv,fun h=>by simp only;omega,fun h=>by simp at h,fun h=>by simp at h⟩ (fun h=>by simp at h) (fun c hc'=>?_) (fun c hc' h=>?_) (fun c hc'=>?_) (fun _=>rfl),by simp⟩
   .rw [qdi hc hc',hnp]
    by_cases h:cl vs v=c
    .subst h;simp
    .simp only[decide_eq_true_eq];rw[if_neg (fun e=>h e.symm),if_neg h];rfl
   .rw [hnp] at h;rw[←of_decide_eq_true h];exact h2
   .rw [qdi hc hc']
    by_cases h:cl vs v=c
    .subst h;simp
    .rw [if_neg (fun e=>h e.symm),if_neg (fun e=>h e.2)];rfl
  .simp only[if_neg h3]
   have hnp:∀ c,jc5 vs c ⟨kd,v,late,2,0⟩=decide (cl vs v=c):=fun c=>by unfold jc5;simp
   refine⟨k.app hcl ⟨hk,by simp,hv,fun h=>by simp at h,fun h=>rfl,fun h=>by simp at h⟩ (fun h=>by simp at h) (fun c hc'=>?_) (fun c hc' h=>?_) (fun c hc'=>by simp) (fun h=>by simp at h),by simp⟩
   .rw [qdi hc hc',hnp]
    by_cases h:cl vs v=c
    .subst h;simp
    .simp only[decide_eq_true_eq];rw[if_neg (fun e=>h e.symm),if_neg h];rfl
   .rw [hnp] at h;rw[←of_decide_eq_true h];exact h2
theorem IwOk.vals {m:Nat×Nat} {s:Iw} (k:IwOk m vs s) (c:Nat):IwOk m (vs++[c]) s:=by
 have e:∀ o∈s.ops,cl (vs++[c]) o.value=cl vs o.value:=fun o ho=>j20 (k.opd o ho).val
 refine⟨fun o ho=>?_,fun o ho h=>?_,fun d hd=>?_,k.needlt,k.fixle,fun o ho h=>?_,fun i j o p hi hj h1 h2 h3 h4=>?_,k.reinj⟩
 .have:=k.opd o ho
  exact⟨this.kind,this.lim,by have:=this.val;simp;omega,fun h=>by rw[e o ho];exact this.fix h,this.zero,this.reu⟩
 .obtain ⟨u,h1,h2,h3,h4⟩:=k.reu o ho h
  exact⟨u,h1,h2,h3,by rw[e o ho,e u (f0c h1)];exact h4⟩
 .rw [←k.need d hd]
  refine List.countP_congr fun o ho=>?_
  unfold jc5;rw[e o ho]
 .rw [e o ho];exact k.fixlt o ho h
 .rw [e o (f0c hi),e p (f0c hj)] at h3
  exact k.fixinj i j o p hi hj h1 h2 h3 h4
theorem pkl {n:Int} {m:Nat} (hm:0<m):pk n m<m:=by
 have h1:=jz1 n m (by omega)
 have h2:=jz2 n m (by omega)
 unfold pk;omega
theorem joa {p:Pc} {i:Nat}:jg4 p i<2:=by
 unfold jg4
 have:p.c / 2 ^ i % 2<2:=Int.emod_lt_of_pos _ (by omega)
 omega
theorem j22 (h:l≠[]) {i:Nat} (hi:i<l.length):l.getD i 0∈l:=by
 rw[f0f,f0b hi];exact f2z hi
structure Us (kn:List Nat) (s:Iw):Prop where
 one:∀ o∈s.ops,o.kind=1/\o.limit≠5/\o.value∈kn
theorem j80 {w:Ms} {p:Pc} {flags:Nat} (hm:∀ c∈w.values,c<2) (hk:∀ v∈w.known,v<w.values.length):∀ (d i:Nat) (s:Iw),w.known≠[]∨d=0->IwOk w.m w.values s->Us w.known s ->
 IwOk w.m w.values (jfu w p flags d i s)/\Us w.known (jfu w p flags d i s)/\(jfu w p flags d i s).ops.length=s.ops.length+d
 | 0,i,s,_,k,u=>⟨k,u,rfl⟩
 | d+1,i,s,h,k,u=>by
  have hne:w.known≠[]:=h.resolve_right (by omega)
  have hmem:=j22 hne (i:=pk (Int.tdiv p.a (i+1)) w.known.length) (pkl (f1w.2 hne))
  have hv:=hk _ hmem
  have hl:=k.lim (j5o hm) (wish:=1+s.limits % 4) (kd:=1) (late:=decide (flags / 2 ^ (4+i) % 2=1)) (lim:=s.limits / 4) (by omega) (.inl rfl) hv
  have r:=j80 (p:=p) (flags:=flags) hm hk d (i+1) (j2z w p flags i s) (.inl hne) hl.1 ⟨fun o ho=>by
   rcases f0e.1 ho with ho | ho
   .exact u.one o ho
   .rw [f0q.1 ho];exact⟨rfl,hl.2,hmem⟩⟩
  refine⟨r.1,r.2.1,r.2.2.trans ?_⟩
  show(s.ops++[_]).length+d=s.ops.length+(d+1)
  simp;omega
structure Df (m:Nat×Nat) (uses:Nat) (x:Iw×Nat×Ms):Prop where
 wm:x.2.2.m=m
 iw:IwOk m x.2.2.values x.1
 cls:∀ c∈x.2.2.values,c<2
 us:∀ i,i<uses->∃ u,x.1.ops[i]?=some u/\u.kind=1
 re:∀ o∈x.1.ops,o.limit=5->o.n=x.2.1
theorem qfh {m:Nat×Nat} {x:Iw×Nat×Ms} (k:Df m uses x) (p:Pc) (flags i:Nat) :
 (jfz p flags uses i x).2.2={ x.2.2 with values:=x.2.2.values++[jg4 p i] }/\(∃ o,(jfz p flags uses i x).1.ops=x.1.ops++[o]/\o.kind=2/\o.value=x.2.2.values.length) /\
 IwOk m (x.2.2.values++[jg4 p i]) (jfz p flags uses i x).1/\((∀ o∈x.1.ops,o.limit≠5)->Df m uses (jfz p flags uses i x)):=by
 have hc2:∀ c∈x.2.2.values++[jg4 p i],c<2:=fun c hc=>by
  rcases f0e.1 hc with hc | hc
  .exact k.cls c hc
  .rw [f0q.1 hc];exact joa
 have kv:=k.iw.vals (jg4 p i)
 have us':∀ (o:Opd) (j:Nat),j<uses->∃ u,(x.1.ops++[o])[j]?=some u/\u.kind=1:=fun o j hj=>by
  obtain⟨u,h1,h2⟩:=k.us j hj
  refine⟨u,?_,h2⟩
  rw[f0t]
  .exact h1
  .rcases f0h j x.1.ops.length with h3 | h3
   .exact h3
   .rw [f0p h3] at h1;cases h1
 unfold jfz
 simp only
 by_cases hr:1+x.1.limits % 5=5/\jge x.2.2 p uses x.2.1 (jg4 p i) x.1=true
 .rw [if_pos hr]
  have h:=hr.2
  unfold jge at h
  simp only[f0y,decide_eq_true_eq,f18,k.wm] at h
  obtain⟨h1,h2,h3,h4,h5⟩:=h
  obtain⟨u,hu,hu2⟩:=k.us _ h1
  have eu:x.1.ops.getD (pk p.b (uses+1)) ⟨0,0,false,0,0⟩=u:=by rw[f0f,hu];rfl
  rw[eu] at h3 h5
  have hul:=(k.iw.opd u (f0c hu)).val
  have hnp:∀ c,jc5 (x.2.2.values++[jg4 p i]) c ⟨2,x.2.2.values.length,true,5,pk p.b (uses+1)⟩=decide (jg4 p i=c):=fun c=>by
   unfold jc5;rw[j21];simp
  have hk:=kv.app (j5o hc2) (o:=⟨2,x.2.2.values.length,true,5,pk p.b (uses+1)⟩) (need:=s2 x.1.need (jg4 p i) (g2 x.1.need (jg4 p i)+1)) (fixed:=x.1.fixed) (lim:=x.1.limits / 5)
   ⟨.inr rfl,by simp,by simp,fun h=>by simp at h,fun h=>by simp at h,fun _=>⟨rfl,rfl⟩⟩
   (fun _=>⟨⟨u,hu,hu2,h3,by simp only;rw[j20 hul,j21];exact h5⟩,fun q hq h=>by
    rw[k.re q hq h];exact fun e=>h2 e.symm⟩)
   (fun c hc=>by
    rw[qdi joa hc,hnp]
    by_cases h:jg4 p i=c
    .subst h;simp
    .simp only[decide_eq_true_eq];rw[if_neg (fun e=>h e.symm),if_neg h];rfl)
   (fun c hc h=>by rw[hnp] at h;rw[←of_decide_eq_true h];exact h4)
   (fun c hc=>by simp) (fun h=>by simp at h)
  refine⟨rfl,⟨_,rfl,rfl,rfl⟩,hk,fun hno=>⟨k.wm,hk,hc2,us' _,fun o ho h=>?_⟩⟩
  rcases f0e.1 ho with ho | ho
  .exact absurd h (hno o ho)
  .rw [f0q.1 ho]
 .rw [if_neg hr]
  have hw:1<=(if 1+x.1.limits % 5=5 then 1 else 1+x.1.limits % 5)/\(if 1+x.1.limits % 5=5 then 1 else 1+x.1.limits % 5)<=4:=by split<;>omega
  have hl:=kv.lim (j5o hc2) (kd:=2) (v:=x.2.2.values.length) (late:=decide (flags / 2 ^ (9+i) % 2=1)) (lim:=x.1.limits / 5) hw (.inr rfl) (by simp)
  rw[j21,←k.wm] at hl
  rw[←k.wm]
  refine⟨rfl,⟨_,rfl,rfl,rfl⟩,hl.1,fun hno=>⟨rfl,hl.1,hc2,us' _,fun o ho h=>?_⟩⟩
  rcases f0e.1 ho with ho | ho
  .exact absurd h (hno o ho)
  .rw [f0q.1 ho] at h;exact absurd h hl.2
theorem qjc {m:Nat×Nat} {x:Iw×Nat×Ms} (k:Df m uses x) (h5:∀ o∈x.1.ops,o.limit≠5) (p:Pc) (flags:Nat) {d:Nat} (hd:d=1∨d=2) :
 ∃ (cs:List Nat) (os:List Opd),(cs=[jg4 p 0]∨cs=[jg4 p 0,jg4 p 1])/\cs.length=d/\(∀ c∈cs,c<2)/\(jek p flags uses d 0 x).2.2={ x.2.2 with values:=x.2.2.values++cs }/\(jek p flags uses d 0 x).1.ops=x.1.ops++os/\(∀ o∈os,o.kind=2)/\os.map (·.value)=List.range' x.2.2.values.length d /\
 IwOk m (x.2.2.values++cs) (jek p flags uses d 0 x).1:=by
 obtain⟨e1,⟨o1,e2,e3,e4⟩,e5,e6⟩:=qfh k p flags 0
 rcases hd with rfl | rfl
 .refine ⟨[jg4 p 0],[o1],.inl rfl,rfl,fun c hc=>by rw[f0q.1 hc];exact joa,e1,e2,fun o ho=>by rw[f0q.1 ho];exact e3,by simp[e4],e5⟩
 .obtain ⟨f1,⟨o2,f2,f3,f4⟩,f5,f6⟩:=qfh (e6 h5) p flags 1
  rw[e1] at f1 f4 f5
  refine⟨[jg4 p 0,jg4 p 1],[o1,o2],.inr rfl,rfl,fun c hc=>?_,?_,?_,fun o ho=>?_,?_,?_⟩
  .simp only[f0j,f1u,or_false] at hc
   rcases hc with rfl | rfl<;>exact joa
  .exact f1.trans (by simp)
  .exact f2.trans (by rw[e2];simp)
  .simp only[f0j,f1u,or_false] at ho
   rcases ho with rfl | rfl<;>assumption
  .simp [e4,f4,List.range']
  .have:x.2.2.values++[jg4 p 0,jg4 p 1]=(x.2.2.values++[jg4 p 0])++[jg4 p 1]:=by simp
   rw[this];exact f5
theorem jcc (c r:Nat):∀ k,(jbo c r k).length=k
 | 0=>rfl
 | k+1=>by simp[jbo,jcc c r k]
theorem jdb {c:Nat}:∀ {k i:Nat} {q:Nat×Nat},(jbo c r k)[i]?=some q->q=(c,r - (k - i))/\i<k
 | 0,i,q,h=>by simp[jbo] at h
 | k+1,0,q,h=>by
  simp only[jbo,f1a,Option.some.injEq] at h
  exact⟨h.symm,by omega⟩
 | k+1,i+1,q,h=>by
  simp only[jbo,f2t] at h
  obtain⟨h1,h2⟩:=jdb h
  exact⟨by rw[h1];congr 2;omega,by omega⟩
theorem jgh {c k:Nat} {q:Nat×Nat} (h:q∈jbo c r k):q.1=c/\r - k<=q.2/\(k<=r->q.2<r):=by
 obtain⟨i,hi⟩:=f22 h
 obtain⟨rfl,h2⟩:=jdb hi
 exact⟨rfl,by simp only;omega,fun h=>by simp only;omega⟩
theorem jr1 {c k d:Nat}:(jbo c r k).countP (fun q=>decide (q.1=d))=if c=d then k else 0:=by
 by_cases h:c=d
 .rw [if_pos h,List.countP_eq_length.2 (fun q hq=>by rw[(jgh hq).1];simpa using h),jcc]
 .rw [if_neg h,List.countP_eq_zero.2 (fun q hq=>by rw[(jgh hq).1];simpa using h)]
theorem IwOk.fix_lt {m:Nat×Nat} {s:Iw} (k:IwOk m vs s) {i:Nat} {o:Opd} (ho:s.ops[i]?=some o) {r:Nat×Nat} (h:ji7 vs s.ops o=some r) :
 ∃ j u,s.ops[j]?=some u/\u.limit=4/\r=(cl vs u.value,u.n)/\((o.limit≠5/\j=i/\u=o)∨(o.limit=5/\j=o.n)):=by
 unfold ji7 at h
 split at h
 .rename_i h4
  unfold qfg at h4 h
  by_cases h5:o.limit=5
  .rw [if_pos h5] at h4 h
   obtain⟨u,h6,_⟩:=k.reu o (f0c ho) h5
   rw[f0f,h6] at h4 h
   exact⟨o.n,u,h6,h4,(Option.some.inj h).symm,.inr ⟨h5,rfl⟩⟩
  .rw [if_neg h5] at h4 h
   exact⟨i,o,ho,h4,(Option.some.inj h).symm,.inl ⟨h5,rfl,rfl⟩⟩
 .cases h
theorem IwOk.ins {m:Nat×Nat} {s:Iw} (k:IwOk m vs s) (hcl:∀ v,cl vs v<2) (hm:m.1<=10/\m.2<=10) (hl:s.ops.length<=5) {op n1 n2:Nat} (hop:op<=255) (h1:n1<=m.1 - 1 - s.need.1) (h2:n2<=m.2 - 1 - s.need.2) :
 InsOk m vs ⟨op,s.ops,jbo 0 m.1 n1++jbo 1 m.2 n2⟩:=by
 have d0:s.need.1+1<=m.1:=k.needlt 0 (by omega)
 have d1:s.need.2+1<=m.2:=k.needlt 1 (by omega)
 have f0:s.fixed.1<=s.need.1:=k.fixle 0 (by omega)
 have f1:s.fixed.2<=s.need.2:=k.fixle 1 (by omega)
 have mem:∀ r∈jbo 0 m.1 n1++jbo 1 m.2 n2,r.1<2/\r.2<g2 m r.1/\g2 s.need r.1<r.2:=fun r hr=>by
  rcases f0e.1 hr with hr | hr
  .obtain ⟨e,h3,h4⟩:=jgh hr
   have:=h4 (by omega)
   rw[e];refine⟨by omega,?_,?_⟩
   .show r.2<m.1;omega
   .show s.need.1<r.2;omega
  .obtain ⟨e,h3,h4⟩:=jgh hr
   have:=h4 (by omega)
   rw[e];refine⟨by omega,?_,?_⟩
   .show r.2<m.2;omega
   .show s.need.2<r.2;omega
 refine⟨hop,f01 hl (by omega),?_,k.opd,k.reu,fun r hr=>⟨(mem r hr).1,(mem r hr).2.1⟩,fun i q r hq hr=>?_,fun o ho r hr hs=>?_,fun i j o p hij hi hj=>⟨fun h5 h6 e=>?_,fun r hr hs=>?_⟩,fun c hc=>?_⟩
 .simp only[f0k,jcc];omega
 .simp only at hq hr
  rcases f0h (i+1) n1 with h3 | h3
  .rw [f0t (by rw[jcc];omega)] at hq hr
   have a1:=jdb hq
   have a2:=jdb hr
   rw[a1.1,a2.1];right;refine⟨rfl,?_⟩
   simp only;omega
  .rw [f0u (by rw[jcc];omega)] at hr
   have a2:=jdb hr
   rw[jcc] at a2
   rcases f0h i n1 with h4 | h4
   .rw [f0t (by rw[jcc];omega)] at hq
    have a1:=jdb hq
    rw[a1.1,a2.1];left;exact Nat.zero_lt_one
   .rw [f0u (by rw[jcc];omega),jcc] at hq
    have a1:=jdb hq
    rw[a1.1,a2.1];right;refine⟨rfl,?_⟩
    simp only;omega
 .obtain ⟨i,hi⟩:=f22 ho
  obtain⟨j,u,hu,hu4,e,_⟩:=k.fix_lt hi hr
  have h3:=k.fixlt u (f0c hu) hu4
  have h4:=(mem r hs).2.2
  rw[e] at h4
  have h5:=k.fixle _ (hcl u.value)
  simp only at h4;omega
 .have:=k.reinj i j o p hi hj h5 h6 e;omega
 .obtain ⟨a,u,hu,hu4,e,hx⟩:=k.fix_lt hi hr
  obtain⟨b,v,hv,hv4,e',hy⟩:=k.fix_lt hj hs
  rw[e] at e'
  have hab:=k.fixinj a b u v hu hv hu4 hv4 (Prod.mk.inj e').1 (Prod.mk.inj e').2
  subst hab
  rcases hx with⟨h5,rfl,_⟩ | ⟨h5,rfl⟩
  .rcases hy with⟨h6,rfl,_⟩ | ⟨h6,h7⟩
   .omega
   .exact .inr ⟨h6,h7.symm⟩
  .rcases hy with⟨h6,h7,_⟩ | ⟨h6,h7⟩
   .exact .inl ⟨h5,h7⟩
   .have:=k.reinj i j o p hi hj h5 h6 h7;omega
 .simp only[List.countP_append,jr1,k.need c hc]
  have:c=0∨c=1:=by omega
  rcases this with rfl | rfl
  .show (if 0=0 then n1 else 0)+(if 1=0 then n2 else 0)+s.need.1<m.1
   simp;omega
  .show (if 0=1 then n1 else 0)+(if 1=1 then n2 else 0)+s.need.2<m.2
   simp;omega
theorem jxv {w:Ms} (hm:(2<=w.m.1/\w.m.1<=10)/\(2<=w.m.2/\w.m.2<=10)) (hc:∀ c∈w.values,c<2) (hk:∀ v∈w.known,v<w.values.length) (p:Pc) :
 ∃ (cs:List Nat),(cs=[jg4 p 0]∨cs=[jg4 p 0,jg4 p 1])/\(∀ c∈cs,c<2)/\(ja0 w p).2={ w with values:=w.values++cs }/\InsOk w.m (w.values++cs) (ja0 w p).1/\jdf (ja0 w p).1=List.range' w.values.length cs.length/\(ja0 w p).1.ops.length<=5/\∀ o∈(ja0 w p).1.ops,o.kind=1->o.value∈w.known:=by
 have hcl:=j5o hc
 have h0:IwOk w.m w.values ⟨[],pk p.limits (2 ^ 40),(0,0),(0,0)⟩:=by
  refine⟨fun o ho=>by simp at ho,fun o ho=>by simp at ho,fun c hc=>?_,fun c hc=>?_,fun c hc=>f0d _,fun o ho=>by simp at ho,fun i j o q h=>by simp at h,fun i j o q h=>by simp at h⟩
  .show 0=g2 (0,0) c
   unfold g2;split<;>rfl
  .have h1:g2 (0,0) c=0:=by unfold g2;split<;>rfl
   show g2 (0,0) c+1<=g2 w.m c
   rw[h1];unfold g2;split<;>omega
 unfold ja0
 simp only
 have h1:=j80 (p:=p) (flags:=pk p.flags (2 ^ 30)) hc hk (if w.known=[] then 0 else pk p.flags (2 ^ 30) % 4) 0 ⟨[],pk p.limits (2 ^ 40),(0,0),(0,0)⟩ (by
  by_cases h:w.known=[]
  .right;rw[if_pos h]
  .exact .inl h) h0 ⟨fun o ho=>by simp at ho⟩
 have hd:(if w.known=[] then 0 else pk p.flags (2 ^ 30) % 4)<=3:=by split<;>omega
 generalize jfu w p (pk p.flags (2 ^ 30)) (if w.known=[] then 0 else pk p.flags (2 ^ 30) % 4) 0 ⟨[],pk p.limits (2 ^ 40),(0,0),(0,0)⟩=s at *
 obtain⟨a1,a2,a3⟩:=h1
 simp only[f1b,f0z] at a3
 have df:Df w.m s.ops.length (s,s.ops.length,w):=⟨rfl,a1,hc,fun i hi=>⟨s.ops[i],f0b hi,(a2.one _ (f2z hi)).1⟩,fun o ho h=>absurd h (a2.one o ho).2.1⟩
 obtain⟨cs,os,b0,b1,b2,b3,b4,b5,b6,b7⟩:=qjc df (fun o ho=>(a2.one o ho).2.1) p (pk p.flags (2 ^ 30)) (d:=1+pk p.flags (2 ^ 30) / 2 ^ 8 % 2) (by omega)
 simp only at b3 b4 b6 b7
 generalize jek p (pk p.flags (2 ^ 30)) s.ops.length (1+pk p.flags (2 ^ 30) / 2 ^ 8 % 2) 0 (s,s.ops.length,w)=x at *
 have hcl':∀ v,cl (w.values++cs) v<2:=j5o (fun c h=>by
  rcases f0e.1 h with h | h
  .exact hc c h
  .exact b2 c h)
 have hol:os.length=cs.length:=by
  have:=congrArg List.length b6
  rw[f1d,List.length_range'] at this;omega
 have hlen:x.1.ops.length<=5:=by rw[b4,f0k];omega
 have hpo:=pkl (n:=p.op) (m:=256) (by omega)
 refine⟨cs,b0,b2,b3,?_,?_,hlen,fun o ho hk1=>?_⟩
 .unfold jho
  split
  .exact b7.ins hcl' ⟨hm.1.2,hm.2.2⟩ hlen (by omega) (Nat.min_le_right ..) (Nat.min_le_right ..)
  .exact b7.ins (n1:=0) (n2:=0) hcl' ⟨hm.1.2,hm.2.2⟩ hlen (by omega) (f14 _) (f14 _)
 .unfold jdf
  simp only
  rw[b4,List.filter_append,List.filter_eq_nil_iff.2 (fun o ho=>by rw[(a2.one o ho).1];simp),List.filter_eq_self.2 (fun o ho=>by simpa using b5 o ho),f1j,b6,b1]
 .rw [b4] at ho
  rcases f0e.1 ho with ho | ho
  .exact (a2.one o ho).2.2
  .rw [b5 o ho] at hk1;cases hk1
def jhp:Blk:=⟨[],[],[]⟩
def jr2 (b:Blk):List Nat:=b.params++(b.instrs.map jdf).flatten
def jdl (l:List Blk):List Nat:=(l.map jr2).flatten
def nI (w:Ms) (k:Nat):Nat:=(w.blocks.getD k jhp).instrs.length
def nE (w:Ms) (k:Nat):Nat:=(w.blocks.getD k jhp).edges.length
def sm (l:List Blk):Nat:=(l.map (fun b=>b.instrs.length)).sum
def jr3 (vs:List Nat) (bs:List Blk) (e:Edg):Prop:=1<=e.block/\(∀ v∈e.args,v<vs.length)/\∃ t,bs[e.block]?=some t/\t.params.map (cl vs)=e.args.map (cl vs)/\∀ v∈t.params,v<vs.length
structure Vok (w:Ms):Prop where
 mm:(2<=w.m.1/\w.m.1<=10)/\(2<=w.m.2/\w.m.2<=10)
 cls:∀ c∈w.values,c<2
 kn:∀ v∈w.known,v<w.values.length
 cur:w.cur<w.blocks.length
 ins:∀ b∈w.blocks,∀ x∈b.instrs,InsOk w.m w.values x
 prm:∀ b∈w.blocks,∀ v∈b.params,v<w.values.length
 pl:∀ b∈w.blocks,b.params.length<=2
 edg:∀ b∈w.blocks,∀ e∈b.edges,jr3 w.values w.blocks e
 ent:∀ b,w.blocks[0]?=some b->b.params=[]
 made:(jdl w.blocks).Perm (List.range w.values.length)
structure Gr (w w':Ms):Prop where
 m:w'.m=w.m
 vals:∃ l,w'.values=w.values++l
 blk:∀ (k:Nat) (t:Blk),w.blocks[k]?=some t->∃ t',w'.blocks[k]?=some t'/\t'.params=t.params
 len:∀ k,nI w k<=nI w' k
theorem Gr.refl (w:Ms):Gr w w:=⟨rfl,⟨[],by simp⟩,fun k t h=>⟨t,h,rfl⟩,fun k=>f0d _⟩
theorem Gr.trans {c:Ms} (x:Gr a b) (y:Gr b c):Gr a c:=by
 refine⟨y.m.trans x.m,?_,fun k t h=>?_,fun k=>f01 (x.len k) (y.len k)⟩
 .obtain ⟨l,h1⟩:=x.vals
  obtain⟨r,h2⟩:=y.vals
  exact⟨l++r,by rw[h2,h1,f0l]⟩
 .obtain ⟨t1,h1,e1⟩:=x.blk k t h
  obtain⟨t2,h2,e2⟩:=y.blk k t1 h1
  exact⟨t2,h2,e2.trans e1⟩
theorem Gr.vlen (x:Gr a b):a.values.length<=b.values.length:=by
 obtain⟨l,h⟩:=x.vals;rw[h];simp
theorem Gr.cl (x:Gr a b) {v:Nat} (h:v<a.values.length):cl b.values v=cl a.values v:=by
 obtain⟨l,e⟩:=x.vals;rw[e];exact j20 h
def Tg (w:Ms) (e:Nat) (cs:List Nat):Prop:=∃ t,w.blocks[e]?=some t/\t.params.map (cl w.values)=cs/\∀ v∈t.params,v<w.values.length
theorem Tg.gr (x:Gr a b) {e:Nat} {cs:List Nat} (h:Tg a e cs):Tg b e cs:=by
 obtain⟨t,h1,h2,h3⟩:=h
 obtain⟨t',h4,h5⟩:=x.blk e t h1
 refine⟨t',h4,?_,fun v hv=>f0m (h3 v (h5▸hv)) x.vlen⟩
 rw[h5,←h2]
 exact List.map_congr_left fun v hv=>x.cl (h3 v hv)
theorem InsOk.app {m:Nat×Nat} {x:Ins} (k:InsOk m vs x) (l:List Nat):InsOk m (vs++l) x:=by
 have e:∀ o∈x.ops,cl (vs++l) o.value=cl vs o.value:=fun o ho=>j20 (k.opd o ho).val
 have es:∀ o∈x.ops,ji7 (vs++l) x.ops o=ji7 vs x.ops o:=fun o ho=>by
  unfold ji7
  have:qfg x.ops o∈x.ops:=by
   unfold qfg
   split
   .rename_i h5
    obtain⟨u,h1,_⟩:=k.reu o ho h5
    rw[f0f,h1];exact f0c h1
   .exact ho
  rw[e _ this]
 refine⟨k.op,k.nops,k.nsp,fun o ho=>?_,fun o ho h=>?_,k.spo,k.ord,fun o ho r h=>k.sp o ho r (by rw[←es o ho];exact h),fun i j o p hij hi hj=>⟨(k.cla i j o p hij hi hj).1,fun r h1 h2=>(k.cla i j o p hij hi hj).2 r (by rw[←es o (f0c hi)];exact h1) (by rw[←es p (f0c hj)];exact h2)⟩,fun c hc=>?_⟩
 .have:=k.opd o ho
  exact⟨this.kind,this.lim,by have:=this.val;simp;omega,fun h=>by rw[e o ho];exact this.fix h,this.zero,this.reu⟩
 .obtain ⟨u,h1,h2,h3,h4⟩:=k.reu o ho h
  exact⟨u,h1,h2,h3,by rw[e o ho,e u (f0c h1)];exact h4⟩
 .have h1:=k.need c hc
  have h2:x.ops.countP (jc5 (vs++l) c)=x.ops.countP (jc5 vs c):=List.countP_congr fun o ho=>by unfold jc5;rw[e o ho]
  rw[h2];exact h1
theorem jfv {l:List Blk} {k:Nat} {f:Blk->Blk} (hk:k<l.length):(l.modify k f).getD j jhp=if j=k then f (l.getD j jhp) else l.getD j jhp:=by
 rw[f0f,f0f,f06]
 by_cases h:j=k
 .subst h
  rw[f0b hk];simp
 .have h':¬ k=j:=fun e=>h e.symm
  cases l[j]?<;>simp[h,h']
theorem jdv {l:List Blk} {k:Nat} {f:Blk->Blk} {b:Blk} (h:b∈l.modify k f):b∈l∨∃ c,c∈l/\l[k]?=some c/\b=f c:=by
 obtain⟨i,hi⟩:=f22 h
 rw[f06] at hi
 cases e:l[i]? with
 | none=>rw[e] at hi;cases hi
 | some c =>
  rw[e] at hi
  by_cases hk:k=i
  .subst hk
   simp only[f25,f1p,if_true,Option.some.injEq] at hi
   exact .inr ⟨c,f0c e,e,hi.symm⟩
  .simp only[f25,f1p,if_neg hk,Option.some.injEq] at hi
   exact .inl (hi▸f0c e)
theorem jvh {l:List Blk} {k:Nat} (hk:k<l.length):l=l.take k++(l.getD k jhp::l.drop (k+1))/\∀ f,l.modify k f=l.take k++(f (l.getD k jhp)::l.drop (k+1)):=by
 have e:l.getD k jhp=l[k]:=by rw[f0f,f0b hk];rfl
 refine⟨by rw[e];simp,fun f=>?_⟩
 rw[List.modify_eq_take_cons_drop hk,e]
theorem jin (a b:List Blk):jdl (a++b)=jdl a++jdl b:=by unfold jdl;simp
theorem jq3 (a b:List Blk):sm (a++b)=sm a+sm b:=by unfold sm;simp
theorem j81 {l:List Blk} {k:Nat} (hk:k<l.length) (x:Ins):(jdl (jau l k x)).Perm (jdl l++jdf x):=by
 obtain⟨h1,h2⟩:=jvh hk
 unfold jau
 rw[h2,jin]
 conv=>rhs;rw[h1,jin,f0l]
 refine List.Perm.append_left _ ?_
 show(jr2 _++jdl _).Perm (jr2 _++jdl _++jdf x)
 have:jr2 { params:=(l.getD k jhp).params,instrs:=(l.getD k jhp).instrs++[x],edges:=(l.getD k jhp).edges }=jr2 (l.getD k jhp)++jdf x:=by unfold jr2;simp
 rw[this,f0l,f0l]
 exact List.Perm.append_left _ List.perm_append_comm
theorem qpw {l:List Blk} {k:Nat} (hk:k<l.length) (x:Ins):sm (jau l k x)=sm l+1:=by
 obtain⟨h1,h2⟩:=jvh hk
 unfold jau
 rw[h2,jq3]
 conv=>rhs;rw[h1,jq3]
 simp[sm];omega
theorem j82 {l:List Blk} {k:Nat} (hk:k<l.length) (g:List Edg->List Edg):jdl (l.modify k (fun b=>{ b with edges:=g b.edges }))=jdl l/\sm (l.modify k (fun b=>{ b with edges:=g b.edges }))=sm l:=by
 obtain⟨h1,h2⟩:=jvh hk
 rw[h2,jin,jq3]
 refine⟨?_,?_⟩
 .conv=>rhs;rw[h1,jin]
  rfl
 .conv=>rhs;rw[h1,jq3]
  rfl
theorem jr3.gr (x:Gr a b) {e:Edg} (h:jr3 a.values a.blocks e):jr3 b.values b.blocks e:=by
 obtain⟨h1,h2,t,h3,h4,h5⟩:=h
 obtain⟨t',h6,h7⟩:=x.blk _ t h3
 refine⟨h1,fun v hv=>f0m (h2 v hv) x.vlen,t',h6,?_,fun v hv=>f0m (h5 v (h7▸hv)) x.vlen⟩
 rw[h7,List.map_congr_left (fun v hv=>x.cl (h5 v hv)),h4]
 exact(List.map_congr_left (fun v hv=>x.cl (h2 v hv))).symm
theorem jlb {l:List Blk} {k:Nat} {f:Blk->Blk} (hf:∀ b,(f b).params=b.params) {t:Blk} (h:l[j]?=some t):∃ t',(l.modify k f)[j]?=some t'/\t'.params=t.params:=by
 rw[f06,h]
 by_cases e:k=j
 .exact ⟨f t,by simp[e],hf t⟩
 .exact ⟨t,by simp[e],rfl⟩
theorem jjc {l:List Blk} {k:Nat} {f:Blk->Blk} (hf:∀ b,(f b).params=b.params) {t:Blk} (h:(l.modify k f)[j]?=some t):∃ t',l[j]?=some t'/\t.params=t'.params:=by
 rw[f06] at h
 cases e:l[j]? with
 | none=>rw[e] at h;cases h
 | some c =>
  rw[e] at h
  by_cases hk:k=j
  .simp only[f25,f1p,if_pos hk,Option.some.injEq] at h
   exact⟨c,rfl,by rw[←h];exact hf c⟩
  .simp only[f25,f1p,if_neg hk,Option.some.injEq] at h
   exact⟨c,rfl,by rw[←h]⟩
theorem qjd {w:Ms} (v:Vok w) (p:Pc):Vok (jcu w p)/\Gr w (jcu w p)/\(jcu w p).cur=w.cur/\(jcu w p).blocks.length=w.blocks.length/\(jcu w p).values.length<=w.values.length+2/\sm (jcu w p).blocks=sm w.blocks+1 /\
 (∀ k,nI (jcu w p) k=nI w k+if k=w.cur then 1 else 0)/\(∀ k,nE (jcu w p) k=nE w k) /\
 ∃ cs,(cs=[jg4 p 0]∨cs=[jg4 p 0,jg4 p 1])/\(jcu w p).values=w.values++cs/\(jcu w p).known=w.known++List.range' w.values.length cs.length:=by
 obtain⟨cs,h1,h2,h3,h4,h5,h6,h7⟩:=jxv v.mm v.cls v.kn p
 unfold jcu
 simp only[h3,h5]
 obtain⟨x,hx⟩:∃ x,(ja0 w p).1=x:=⟨_,rfl⟩
 rw[hx] at h4 h5 ⊢
 have hl:cs.length=1∨cs.length=2:=by rcases h1 with h | h<;>rw[h]<;>simp
 have gr:Gr w ⟨w.m,w.values++cs,jau w.blocks w.cur x,w.cur,w.known++List.range' w.values.length cs.length,w.all+1⟩ :=
  ⟨rfl,⟨cs,rfl⟩,fun k t h=>jlb (f:=fun b=>{ b with instrs:=b.instrs++[x] }) (fun _=>rfl) h,fun k=>by
   unfold nI jau;simp only
   rw[jfv v.cur]
   split
   .simp
   .exact f0d _⟩
 refine⟨⟨v.mm,fun c hc=>?_,fun u hu=>?_,by simp only[jau,f1g];exact v.cur,fun b hb y hy=>?_,fun b hb u hu=>?_,fun b hb=>?_,fun b hb e he=>?_,fun b hb=>?_,?_⟩,gr,by first | rfl | trivial,by simp[jau],by simp;omega,qpw v.cur x,fun k=>?_,fun k=>?_,cs,h1,rfl,rfl⟩
 .rcases f0e.1 hc with hc | hc
  .exact v.cls c hc
  .exact h2 c hc
 .rcases f0e.1 hu with hu | hu
  .have:=v.kn u hu;simp;omega
  .rw [f26] at hu;simp;omega
 .rcases jdv hb with hb | ⟨c,hc,hc2,rfl⟩
  .exact (v.ins b hb y hy).app cs
  .rcases f0e.1 hy with hy | hy
   .exact (v.ins c hc y hy).app cs
   .rw [f0q.1 hy];exact h4
 .rcases jdv hb with hb | ⟨c,hc,hc2,rfl⟩
  .have:=v.prm b hb u hu;simp;omega
  .have:=v.prm c hc u hu;simp;omega
 .rcases jdv hb with hb | ⟨c,hc,hc2,rfl⟩
  .exact v.pl b hb
  .exact v.pl c hc
 .rcases jdv hb with hb | ⟨c,hc,hc2,rfl⟩
  .exact (v.edg b hb e he).gr gr
  .exact (v.edg c hc e he).gr gr
 .obtain ⟨t,ht,e⟩:=jjc (f:=fun b=>{ b with instrs:=b.instrs++[x] }) (fun _=>rfl) hb
  rw[e];exact v.ent t ht
 .refine (j81 v.cur x).trans ?_
  rw[h5]
  refine(v.made.append_right _).trans ?_
  rw[f0k,List.range_add,List.range'_eq_map_range]
 .unfold nI jau;simp only
  rw[jfv v.cur]
  split
  .simp
  .rfl
 .unfold nE jau;simp only
  rw[jfv v.cur]
  split<;>rfl
theorem qje {w:Ms} (v:Vok w) (cs:List Nat) (h1:cs.length<=2) (h2:∀ c∈cs,c<2):Vok (jaf w cs)/\Gr w (jaf w cs)/\(jaf w cs).blocks.length=w.blocks.length+1/\(jaf w cs).values.length=w.values.length+cs.length/\sm (jaf w cs).blocks=sm w.blocks /\
 (∀ k,nI (jaf w cs) k=nI w k)/\(∀ k,nE (jaf w cs) k=nE w k)/\Tg (jaf w cs) w.blocks.length cs:=by
 have hg:∀ k,(w.blocks++[(⟨List.range' w.values.length cs.length,[],[]⟩:Blk)]).getD k jhp=w.blocks.getD k jhp∨(k=w.blocks.length/\(w.blocks++[(⟨List.range' w.values.length cs.length,[],[]⟩:Blk)]).getD k jhp=⟨List.range' w.values.length cs.length,[],[]⟩/\w.blocks.getD k jhp=jhp):=fun k=>by
  rw[f0f,f0f]
  rcases Nat.lt_trichotomy k w.blocks.length with h | h | h
  .left;rw[f0t h]
  .right;subst h;simp
  .left;rw[f0p (by simp;omega),f0p (by omega)]
 have ni:∀ k,nI (jaf w cs) k=nI w k:=fun k=>by
  unfold nI jaf;simp only
  rcases hg k with h | ⟨_,h,h'⟩
  .rw [h]
  .rw [h,h'];rfl
 have gr:Gr w (jaf w cs):=⟨rfl,⟨cs,rfl⟩,fun k t h=>⟨t,(f0t (by
  rcases f0h k w.blocks.length with h3 | h3
  .exact h3
  .rw [f0p h3] at h;cases h)).trans h,rfl⟩,fun k=>f2l (ni k).symm⟩
 have hb':∀ b∈(jaf w cs).blocks,b∈w.blocks∨b=⟨List.range' w.values.length cs.length,[],[]⟩:=fun b hb=>by
  rcases f0e.1 hb with hb | hb
  .exact .inl hb
  .exact .inr (f0q.1 hb)
 have hpos:0<w.blocks.length:=by have:=v.cur;omega
 have hvl:(jaf w cs).values.length=w.values.length+cs.length:=by simp[jaf]
 refine⟨⟨v.mm,fun c hc=>?_,fun u hu=>by have:=v.kn u hu;omega,by have:=v.cur;simp[jaf];omega,fun b hb y hy=>?_,fun b hb u hu=>?_,fun b hb=>?_,fun b hb e he=>?_,fun b hb=>?_,?_⟩,gr,by simp[jaf],hvl,?_,ni,fun k=>?_,?_⟩
 .rcases f0e.1 hc with hc | hc
  .exact v.cls c hc
  .exact h2 c hc
 .rcases hb' b hb with hb | rfl
  .exact (v.ins b hb y hy).app cs
  .cases hy
 .rcases hb' b hb with hb | rfl
  .have:=v.prm b hb u hu;omega
  .simp only[f26] at hu;omega
 .rcases hb' b hb with hb | rfl
  .exact v.pl b hb
  .simpa using h1
 .rcases hb' b hb with hb | rfl
  .exact (v.edg b hb e he).gr gr
  .cases he
 .have:w.blocks[0]?=some b:=by
   unfold jaf at hb;simp only at hb
   rwa [f0t hpos] at hb
  exact v.ent b this
 .show (jdl (w.blocks++[_])).Perm _
  rw[jin,hvl,List.range_add]
  have:jdl [(⟨List.range' w.values.length cs.length,[],[]⟩:Blk)]=List.map (fun x=>w.values.length+x) (List.range cs.length):=by
   rw[←List.range'_eq_map_range];simp[jdl,jr2]
  rw[this]
  exact v.made.append_right _
 .show sm (w.blocks++[_])=_
  rw[jq3];rfl
 .unfold nE jaf;simp only
  rcases hg k with h | ⟨_,h,h'⟩
  .rw [h]
  .rw [h,h'];rfl
 .refine ⟨⟨List.range' w.values.length cs.length,[],[]⟩,by simp[jaf],?_,fun u hu=>by simp only[f26] at hu;omega⟩
  simp only[jaf]
  apply f2u
  intro i
  rw[f09]
  rcases f0h i cs.length with h | h
  .rw [List.getElem?_range' h,f0b h]
   simp only[f1p,Option.some.injEq]
   unfold cl
   rw[f0f,f0u (by omega)]
   rw[show w.values.length+1*i - w.values.length=i by omega,f0b h];rfl
  .rw [f0p (by simpa using h),f0p h];rfl
theorem qpx {w:Ms} (v:Vok w) {k to:Nat} {args:List Nat} (hk:k<w.blocks.length) (h1:1<=to) (ht:Tg w to (args.map (cl w.values))) (ha:∀ u∈args,u<w.values.length):Vok (jav w k to args)/\Gr w (jav w k to args) /\
 (jav w k to args).blocks.length=w.blocks.length/\sm (jav w k to args).blocks=sm w.blocks/\(∀ j,nI (jav w k to args) j=nI w j)/\(∀ j,nE (jav w k to args) j=nE w j+if j=k then 1 else 0):=by
 have ni:∀ j,nI (jav w k to args) j=nI w j:=fun j=>by
  unfold nI jav;simp only
  rw[jfv hk]
  split<;>rfl
 have gr:Gr w (jav w k to args):=⟨rfl,⟨[],by simp[jav]⟩,fun j t h=>jlb (f:=fun b=>{ b with edges:=b.edges++[(⟨to,args⟩:Edg)] }) (fun _=>rfl) h,fun j=>f2l (ni j).symm⟩
 have md:=j82 hk (fun l=>l++[(⟨to,args⟩:Edg)])
 refine⟨⟨v.mm,v.cls,v.kn,by simp only[jav,f1g];exact v.cur,fun b hb y hy=>?_,fun b hb u hu=>?_,fun b hb=>?_,fun b hb e he=>?_,fun b hb=>?_,?_⟩,gr,by simp[jav],md.2,ni,fun j=>?_⟩
 .rcases jdv hb with hb | ⟨c,hc,hc2,rfl⟩
  .exact v.ins b hb y hy
  .exact v.ins c hc y hy
 .rcases jdv hb with hb | ⟨c,hc,hc2,rfl⟩
  .exact v.prm b hb u hu
  .exact v.prm c hc u hu
 .rcases jdv hb with hb | ⟨c,hc,hc2,rfl⟩
  .exact v.pl b hb
  .exact v.pl c hc
 .rcases jdv hb with hb | ⟨c,hc,hc2,rfl⟩
  .exact (v.edg b hb e he).gr gr
  .rcases f0e.1 he with he | he
   .exact (v.edg c hc e he).gr gr
   .rw [f0q.1 he]
    obtain⟨t,h3,h4,h5⟩:=ht
    exact jr3.gr gr ⟨h1,ha,t,h3,h4,h5⟩
 .obtain ⟨t,ht,e⟩:=jjc (f:=fun b=>{ b with edges:=b.edges++[(⟨to,args⟩:Edg)] }) (fun _=>rfl) hb
  rw[e];exact v.ent t ht
 .show (jdl (w.blocks.modify k _)).Perm _
  rw[md.1];exact v.made
 .unfold nE jav;simp only
  rw[jfv hk]
  split
  .simp
  .rfl
theorem Vok.set {w:Ms} (v:Vok w) {c:Nat} {kn:List Nat} (h1:c<w.blocks.length) (h2:∀ u∈kn,u<w.values.length):Vok { w with cur:=c,known:=kn } :=
 ⟨v.mm,v.cls,h2,h1,v.ins,v.prm,v.pl,v.edg,v.ent,v.made⟩
theorem Gr.set (w:Ms) (c:Nat) (kn:List Nat):Gr w { w with cur:=c,known:=kn }:=⟨rfl,⟨[],by simp⟩,fun k t h=>⟨t,h,rfl⟩,fun k=>f0d _⟩
theorem jxw {w:Ms} {cls v:Nat}:∀ {n:Nat},n<=w.known.length->jvg w cls n=some v->v∈w.known/\cl w.values v=cls
 | 0,_,h=>by cases h
 | n+1,hn,h=>by
  unfold jvg at h
  simp only at h
  split at h
  .rename_i h1
   obtain rfl:=Option.some.inj h
   exact⟨by rw[f0f,f0b (by omega)];exact f2z _,h1⟩
  .exact jxw (by omega) h
theorem jsw {p:Pc} {cls i:Nat} (hc:cls<2) (hi:i<2):jg4 { p with c:=3*(cls:Int) } i=cls:=by
 have h1:cls=0∨cls=1:=by omega
 have h2:i=0∨i=1:=by omega
 rcases h1 with rfl | rfl<;>rcases h2 with rfl | rfl<;>rfl
theorem jhq {w:Ms} (v:Vok w) {cls:Nat} (hc:cls<2) (p:Pc):Vok (jac w cls p).2/\Gr w (jac w cls p).2/\(jac w cls p).2.cur=w.cur/\(jac w cls p).2.blocks.length=w.blocks.length/\(jac w cls p).2.values.length<=w.values.length+2 /\
 sm (jac w cls p).2.blocks<=sm w.blocks+1/\(∀ k,nI (jac w cls p).2 k<=nI w k+if k=w.cur then 1 else 0)/\(∀ k,nE (jac w cls p).2 k=nE w k) /\
 (jac w cls p).1∈(jac w cls p).2.known/\cl (jac w cls p).2.values (jac w cls p).1=cls/\∃ r,(jac w cls p).2.known=w.known++r:=by
 unfold jac
 cases e:jvg w cls (w.known.length - pk p.b 3) with
 | some u =>
  simp only
  have h:=jxw (by omega) e
  exact⟨v,Gr.refl w,trivial,trivial,by omega,by omega,fun k=>by omega,fun k=>trivial,h.1,h.2,[],by simp⟩
 | none =>
  simp only
  obtain⟨h1,h2,h3,h4,h5,h6,h7,h8,cs,h9,h10,h11⟩:=qjd v { p with c:=3*(cls:Int) }
  rw[jsw hc (by omega),jsw hc (by omega)] at h9
  have hne:(jcu w { p with c:=3*(cls:Int) }).known≠[]:=by rw[h11];rcases h9 with rfl | rfl<;>simp[List.range']
  refine⟨h1,h2,h3,h4,h5,by omega,fun k=>f2l (h7 k),h8,j22 hne (by have:=f1w.2 hne;omega),?_,_,h11⟩
  rw[h10,h11]
  rcases h9 with rfl | rfl
  .have:(w.known++List.range' w.values.length [cls].length).getD ((w.known++List.range' w.values.length [cls].length).length - 1) 0=w.values.length:=by
    rw[f0f];simp[List.range']
   rw[this,j21]
  .have:(w.known++List.range' w.values.length [cls,cls].length).getD ((w.known++List.range' w.values.length [cls,cls].length).length - 1) 0=w.values.length+1:=by
    rw[f0f,f0u (by simp)];simp[List.range']
   rw[this]
   unfold cl
   rw[f0f,f0u (by omega)];simp
structure Bd (w:Ms) (nv nb s:Nat) (L E:Nat->Nat):Prop where
 v:Vok w
 nv:w.values.length<=nv
 nb:w.blocks.length=nb
 sum:sm w.blocks<=s
 i:∀ k,nI w k<=L k
 e:∀ k,nE w k=E k
 par:∀ k,1<nE w k->0<nI w k
def up (L:Nat->Nat) (k:Nat):Nat->Nat:=fun j=>L j+if j=k then 1 else 0
section
variable {w:Ms} {nv nb s:Nat} {L E:Nat->Nat}
theorem Bd.lay (b:Bd w nv nb s L E) (p:Pc):Bd (jcu w p) (nv+2) nb (s+1) (up L w.cur) E/\Gr w (jcu w p)/\(jcu w p).cur=w.cur/\0<nI (jcu w p) w.cur/\∃ r,(jcu w p).known=w.known++r:=by
 obtain⟨h1,h2,h3,h4,h5,h6,h7,h8,cs,h9,h10,h11⟩:=qjd b.v p
 refine⟨⟨h1,by have:=b.nv;omega,h4.trans b.nb,by have:=b.sum;omega,fun k=>?_,fun k=>(h8 k).trans (b.e k),fun k hk=>?_⟩,h2,h3,by rw[h7,if_pos rfl];omega,_,h11⟩
 .rw [h7];have:=b.i k;unfold up;omega
 .rw [h8] at hk;have:=b.par k hk;rw[h7];omega
theorem Bd.newest (b:Bd w nv nb s L E) {cls:Nat} (hc:cls<2) (p:Pc):Bd (jac w cls p).2 (nv+2) nb (s+1) (up L w.cur) E/\Gr w (jac w cls p).2/\(jac w cls p).2.cur=w.cur/\(jac w cls p).1<(jac w cls p).2.values.length/\cl (jac w cls p).2.values (jac w cls p).1=cls/\∃ r,(jac w cls p).2.known=w.known++r:=by
 obtain⟨h1,h2,h3,h4,h5,h6,h7,h8,h9,h10,h11⟩:=jhq b.v hc p
 refine⟨⟨h1,by have:=b.nv;omega,h4.trans b.nb,by have:=b.sum;omega,fun k=>?_,fun k=>(h8 k).trans (b.e k),fun k hk=>?_⟩,h2,h3,h1.kn _ h9,h10,h11⟩
 .have:=h7 k;have:=b.i k;unfold up;omega
 .rw [h8] at hk;have:=b.par k hk;have:=h2.len k;omega
theorem Bd.block (b:Bd w nv nb s L E) {cs:List Nat} (h1:cs.length<=2) (h2:∀ c∈cs,c<2):Bd (jaf w cs) (nv+cs.length) (nb+1) s L E/\Gr w (jaf w cs)/\Tg (jaf w cs) nb cs:=by
 obtain⟨a1,a2,a3,a4,a5,a6,a7,a8⟩:=qje b.v cs h1 h2
 exact⟨⟨a1,by have:=b.nv;omega,by rw[a3,b.nb],by rw[a5];exact b.sum,fun k=>by rw[a6];exact b.i k,fun k=>by rw[a7];exact b.e k,fun k hk=>by rw[a6];rw[a7] at hk;exact b.par k hk⟩,a2,b.nb▸a8⟩
theorem Bd.edge (b:Bd w nv nb s L E) {k to:Nat} {args cs:List Nat} (hk:k<nb) (h1:1<=to) (ht:Tg w to cs) (hcs:args.map (cl w.values)=cs) (ha:∀ u∈args,u<w.values.length) (hp:E k=0∨0<nI w k):Bd (jav w k to args) nv nb s L (up E k)/\Gr w (jav w k to args):=by
 obtain⟨a1,a2,a3,a4,a5,a6⟩:=qpx b.v (by rw[b.nb];exact hk) h1 (hcs▸ht) ha
 refine⟨⟨a1,b.nv,a3.trans b.nb,by rw[a4];exact b.sum,fun j=>by rw[a5];exact b.i j,fun j=>by rw[a6,b.e];rfl,fun j hj=>?_⟩,a2⟩
 rw[a6] at hj
 rw[a5]
 by_cases h:j=k
 .subst h
  rw[if_pos rfl] at hj
  rcases hp with hp | hp
  .rw [b.e,hp] at hj;omega
  .exact hp
 .rw [if_neg h] at hj;exact b.par j hj
theorem Bd.set (b:Bd w nv nb s L E) {c:Nat} {kn:List Nat} (h1:c<nb) (h2:∀ u∈kn,u<w.values.length):Bd { w with cur:=c,known:=kn } nv nb s L E :=
 ⟨b.v.set (by rw[b.nb];exact h1) h2,b.nv,b.nb,b.sum,b.i,b.e,b.par⟩
theorem Bd.le (b:Bd w nv nb s L E) {nv' s':Nat} {L':Nat->Nat} (h1:nv<=nv') (h2:s<=s') (h3:∀ k,L k<=L' k):Bd w nv' nb s' L' E :=
 ⟨b.v,f01 b.nv h1,b.nb,f01 b.sum h2,fun k=>f01 (b.i k) (h3 k),b.e,b.par⟩
theorem Bd.way (b:Bd w nv nb s L E) {cls:Nat} (hc:cls<2) (p:Pc) (before:Nat) {e k:Nat} (lay:Bool) (hk:k<nb) (he:1<=e) (ht:Tg w e [cls,0]) (hE:E k=0) :
 Bd (ji0 p cls before e k lay w).2 (nv+6) nb (s+3) (up (up (up L k) k) k) (up E k)/\Gr w (ji0 p cls before e k lay w).2/\∃ r,(ji0 p cls before e k lay w).2.known=(w.known++r).take before:=by
 have b0:Bd { w with cur:=k } nv nb s L E:=b.set (kn:=w.known) hk b.v.kn
 have g0:Gr w { w with cur:=k }:=Gr.set w k w.known
 obtain⟨q,hq⟩:∃ q:Pc,(if lay then { { p with a:=inc p.a } with op:=inc p.op } else { p with a:=inc p.a })=q:=⟨_,rfl⟩
 have h1:∃ w1,(if lay then jcu { w with cur:=k } q else { w with cur:=k })=w1/\Bd w1 (nv+2) nb (s+1) (up L k) E/\Gr w w1/\w1.cur=k/\∃ r,w1.known=w.known++r:=by
  cases lay with
  | true =>
   obtain⟨a1,a2,a3,a4,r,a5⟩:=b0.lay q
   exact⟨_,rfl,a1,g0.trans a2,a3,r,a5⟩
  | false=>exact⟨_,rfl,b0.le (by omega) (by omega) (fun j=>by unfold up;omega),g0,rfl,[],by simp⟩
 obtain⟨w1,e1,b1,g1,c1,r1,k1⟩:=h1
 obtain⟨b2,g2,c2,l2,d2,r2,k2⟩:=b1.newest hc q
 obtain⟨b3,g3,c3,l3,d3,r3,k3⟩:=b2.newest (cls:=0) (by omega) q
 have l2':=f0m l2 g3.vlen
 have d2':=(g3.cl l2).trans d2
 obtain⟨b4,g4⟩:=b3.edge (k:=k) (to:=e) (args:=[(jac w1 cls q).1,(jac (jac w1 cls q).2 0 q).1]) hk he (((ht.gr g1).gr g2).gr g3) (by simp[d2',d3]) (fun u hu=>by
  simp only[f0j,f1u,or_false] at hu
  rcases hu with rfl | rfl<;>assumption) (.inl hE)
 rw[c1] at b2 b3
 rw[c2,c1] at b3
 have hcur:=b4.v.cur
 have eq:(ji0 p cls before e k lay w).2={ (jav (jac (jac w1 cls q).2 0 q).2 k e [(jac w1 cls q).1,(jac (jac w1 cls q).2 0 q).1]) with known:=(jav (jac (jac w1 cls q).2 0 q).2 k e [(jac w1 cls q).1,(jac (jac w1 cls q).2 0 q).1]).known.take before }:=by
  unfold ji0
  simp only[hq,e1]
 rw[eq]
 refine⟨(b4.set (by rw[b4.nb] at hcur;exact hcur) (fun u hu=>b4.v.kn u (List.mem_of_mem_take hu))).le (by omega) (by omega) (fun j=>?_),(((g1.trans g2).trans g3).trans g4).trans (Gr.set _ _ _),r1++(r2++r3),?_⟩
 .rw [c1,c2,c1];exact f0d _
 .simp only[jav,k3,k2,k1,f0l]
theorem Bd.e0 (b:Bd w nv nb s L E) {k:Nat} (hk:nb<=k):E k=0/\nI w k=0:=by
 have:w.blocks.getD k jhp=jhp:=by rw[f0f,f0p (by rw[b.nb];exact hk)];rfl
 refine⟨?_,?_⟩
 .rw [←b.e];unfold nE;rw[this];rfl
 .unfold nI;rw[this];rfl
theorem Tg.params {w:Ms} {e:Nat} {cs:List Nat} (h:Tg w e cs):∀ u∈(w.blocks.getD e jhp).params,u<w.values.length:=by
 obtain⟨t,h1,_,h3⟩:=h
 rw[f0f,h1];exact h3
theorem jfw {L:Nat->Nat} {k:Nat} (h:j≠k):up L k j=L j:=by unfold up;rw[if_neg h];rfl
theorem Bd.fork (b:Bd w nv nb s L E) (h0:E w.cur=0) (p:Pc) :
 Bd (jf0 w p) (nv+16) (nb+3) (s+7) (up (up (up (up (up (up (up L w.cur) nb) nb) nb) (nb+1)) (nb+1)) (nb+1)) (up (up (up (up E w.cur) w.cur) nb) (nb+1))/\Gr w (jf0 w p)/\(jf0 w p).cur=nb+2:=by
 have hc:pk p.c 2<2:=pkl (by omega)
 obtain⟨w1,e1⟩:∃ w1,jcu w p=w1:=⟨_,rfl⟩
 obtain⟨b1,g1,c1,n1,r1,k1⟩:=b.lay p
 rw[e1] at b1 g1 c1 n1 k1
 have hcur:w.cur<nb:=by rw[←b.nb];exact b.v.cur
 obtain⟨w4,e4⟩:∃ w4,jaf (jaf (jaf w1 []) []) [pk p.c 2,0]=w4:=⟨_,rfl⟩
 obtain⟨b2,g2,t2⟩:=b1.block (cs:=[]) (by simp) (by simp)
 obtain⟨b3,g3,t3⟩:=b2.block (cs:=[]) (by simp) (by simp)
 obtain⟨b4,g4,t4⟩:=b3.block (cs:=[pk p.c 2,0]) (by simp) (fun c h=>by
  simp only[f0j,f1u,or_false] at h;omega)
 rw[e4] at b4 g4 t4
 have g14:=(g2.trans g3).trans g4
 have ta:Tg w4 nb []:=(t2.gr g3).gr g4
 have tb:Tg w4 (nb+1) []:=t3.gr g4
 obtain⟨b5,g5⟩:=b4.edge (k:=w.cur) (to:=nb) (args:=[]) (by omega) (by omega) ta rfl (by simp) (.inl h0)
 obtain⟨b6,g6⟩:=b5.edge (k:=w.cur) (to:=nb+1) (args:=[]) (by omega) (by omega) (tb.gr g5) rfl (by simp) (.inr (by
  have:=(g14.trans g5).len w.cur;omega))
 obtain⟨w6,e6⟩:∃ w6,jav (jav w4 w.cur nb []) w.cur (nb+1) []=w6:=⟨_,rfl⟩
 rw[e6] at b6 g6
 have t6:Tg w6 (nb+2) [pk p.c 2,0]:=(t4.gr g5).gr g6
 have z1:up (up E w.cur) w.cur nb=0:=by rw[jfw (by omega),jfw (by omega)];exact(b.e0 (f0d _)).1
 obtain⟨b7,g7,r7,k7⟩:=b6.way hc p w1.known.length (e:=nb+2) (k:=nb) true (by omega) (by omega) t6 z1
 obtain⟨x,ex⟩:∃ x,ji0 p (pk p.c 2) w1.known.length (nb+2) nb true w6=x:=⟨_,rfl⟩
 rw[ex] at b7 g7 k7
 have z2:up (up (up E w.cur) w.cur) nb (nb+1)=0:=by rw[jfw (by omega),jfw (by omega),jfw (by omega)];exact(b.e0 (by omega)).1
 obtain⟨b8,g8,r8,k8⟩:=b7.way hc x.1 w1.known.length (e:=nb+2) (k:=nb+1) (decide (pk p.flags 2=1)) (by omega) (by omega) (t6.gr g7) z2
 obtain⟨y,ey⟩:∃ y,ji0 x.1 (pk p.c 2) w1.known.length (nb+2) (nb+1) (decide (pk p.flags 2=1)) x.2=y:=⟨_,rfl⟩
 rw[ey] at b8 g8 k8
 have ht8:=((t6.gr g7).gr g8).params
 have eq:jf0 w p={ y.2 with cur:=nb+2,known:=y.2.known++(y.2.blocks.getD (nb+2) jhp).params }:=by
  unfold jf0
  simp only[e1,c1,b1.nb,e4,e6,ex,ey]
  rfl
 rw[eq]
 refine⟨(b8.set (c:=nb+2) (by omega) (fun u hu=>?_)).le (by simp) (by omega) (fun _=>f0d _),(((((g1.trans g14).trans g5).trans g6).trans g7).trans g8).trans (Gr.set _ _ _),rfl⟩
 rcases f0e.1 hu with hu | hu
 .exact b8.v.kn u hu
 .exact ht8 u hu
theorem Bd.loop (b:Bd w nv nb s L E) (h0:E w.cur=0) (p:Pc) :
 Bd (jg5 w p) (nv+14) (nb+3) (s+6) (up (up (up (up (up (up L w.cur) w.cur) nb) (nb+1)) (nb+1)) (nb+1)) (up (up (up (up E w.cur) nb) nb) (nb+1))/\Gr w (jg5 w p)/\(jg5 w p).cur=nb+2:=by
 have hc:pk p.c 2<2:=pkl (by omega)
 have hcur:w.cur<nb:=by rw[←b.nb];exact b.v.cur
 obtain⟨b1,g1,c1,l1,d1,r1,k1⟩:=b.newest hc p
 obtain⟨v,ev⟩:∃ v,jac w (pk p.c 2) p=v:=⟨_,rfl⟩
 rw[ev] at b1 g1 c1 l1 d1 k1
 obtain⟨b2,g2,c2,l2,d2,r2,k2⟩:=b1.newest (cls:=0) (by omega) p
 obtain⟨u,eu⟩:∃ u,jac v.2 0 p=u:=⟨_,rfl⟩
 rw[eu] at b2 g2 c2 l2 d2 k2
 rw[c1] at b2 c2
 obtain⟨b3,g3,t3⟩:=b2.block (cs:=[pk p.c 2,0]) (by simp) (fun c h=>by
  simp only[f0j,f1u,or_false] at h;omega)
 obtain⟨w3,e3⟩:∃ w3,jaf u.2 [pk p.c 2,0]=w3:=⟨_,rfl⟩
 have c3:(jaf u.2 [pk p.c 2,0]).cur=w.cur:=c2
 rw[e3] at b3 g3 t3 c3
 have lv:v.1<w3.values.length:=f0m (f0m l1 g2.vlen) g3.vlen
 have lu:u.1<w3.values.length:=f0m l2 g3.vlen
 have dv:cl w3.values v.1=pk p.c 2:=((g3.cl (f0m l1 g2.vlen)).trans (g2.cl l1)).trans d1
 have du:cl w3.values u.1=0:=(g3.cl l2).trans d2
 obtain⟨b4,g4⟩:=b3.edge (k:=w.cur) (to:=nb) (args:=[v.1,u.1]) (by omega) (by omega) t3 (by simp[dv,du]) (fun x hx=>by
  simp only[f0j,f1u,or_false] at hx
  rcases hx with rfl | rfl<;>assumption) (.inl h0)
 obtain⟨w4,e4⟩:∃ w4,jav w3 w.cur nb [v.1,u.1]=w4:=⟨_,rfl⟩
 rw[e4] at b4 g4
 have t4:=t3.gr g4
 have kn5:∀ x∈w4.known++(w4.blocks.getD nb jhp).params,x<w4.values.length:=fun x hx=>by
  rcases f0e.1 hx with hx | hx
  .exact b4.v.kn x hx
  .exact t4.params x hx
 have b5:=b4.set (c:=nb) (by omega) kn5
 have g5:=Gr.set w4 nb (w4.known++(w4.blocks.getD nb jhp).params)
 obtain⟨w5,e5⟩:∃ w5,({ w4 with cur:=nb,known:=w4.known++(w4.blocks.getD nb jhp).params }:Ms)=w5:=⟨_,rfl⟩
 have c5:w5.cur=nb:=by rw[←e5]
 rw[e5] at b5 g5
 obtain⟨b6,g6,c6,n6,r6,k6⟩:=b5.lay { p with flags:=odd p.flags }
 obtain⟨w6,e6⟩:∃ w6,jcu w5 { p with flags:=odd p.flags }=w6:=⟨_,rfl⟩
 rw[e6] at b6 g6 c6 n6 k6
 rw[c5] at b6 n6 c6
 obtain⟨b7,g7,t7⟩:=b6.block (cs:=[]) (by simp) (by simp)
 obtain⟨b8,g8,t8⟩:=b7.block (cs:=[]) (by simp) (by simp)
 obtain⟨w8,e8⟩:∃ w8,jaf (jaf w6 []) []=w8:=⟨_,rfl⟩
 rw[e8] at b8 g8 t8
 have z4:up E w.cur nb=0:=by rw[jfw (by omega)];exact(b.e0 (f0d _)).1
 obtain⟨b9,g9⟩:=b8.edge (k:=nb) (to:=nb+1) (args:=[]) (by omega) (by omega) (t7.gr g8) rfl (by simp) (.inl z4)
 obtain⟨b10,g10⟩:=b9.edge (k:=nb) (to:=nb+1+1) (args:=[]) (by omega) (by omega) (t8.gr g9) rfl (by simp) (.inr (by
  have:=((g7.trans g8).trans g9).len nb;omega))
 obtain⟨w10,e10⟩:∃ w10,jav (jav w8 nb (nb+1) []) nb (nb+1+1) []=w10:=⟨_,rfl⟩
 rw[e10] at b10 g10
 obtain⟨q,eq⟩:∃ q:Pc,(⟨p.kind,inc p.op,inc p.a,p.b,p.c,p.limits,odd p.flags⟩:Pc)=q:=⟨_,rfl⟩
 have b11:=b10.set (c:=nb+1) (kn:=w10.known) (by omega) b10.v.kn
 have g11:=Gr.set w10 (nb+1) w10.known
 obtain⟨w11,e11⟩:∃ w11,({ w10 with cur:=nb+1,known:=w10.known }:Ms)=w11:=⟨_,rfl⟩
 have c11:w11.cur=nb+1:=by rw[←e11]
 rw[e11] at b11 g11
 obtain⟨b12,g12,c12,n12,r12,k12⟩:=b11.lay q
 obtain⟨w12,e12⟩:∃ w12,jcu w11 q=w12:=⟨_,rfl⟩
 rw[e12] at b12 g12 c12 n12 k12
 rw[c11] at b12 c12
 obtain⟨b13,g13,c13,l13,d13,r13,k13⟩:=b12.newest hc q
 obtain⟨x,ex⟩:∃ x,jac w12 (pk p.c 2) q=x:=⟨_,rfl⟩
 rw[ex] at b13 g13 c13 l13 d13 k13
 rw[c12] at b13 c13
 obtain⟨b14,g14,c14,l14,d14,r14,k14⟩:=b13.newest (cls:=0) (by omega) q
 obtain⟨y,ey⟩:∃ y,jac x.2 0 q=y:=⟨_,rfl⟩
 rw[ey] at b14 g14 c14 l14 d14 k14
 rw[c13] at b14 c14
 have gg:=(((((((((g5.trans g6).trans g7).trans g8).trans g9).trans g10).trans g11).trans g12).trans g13).trans g14)
 have lx:x.1<y.2.values.length:=f0m l13 g14.vlen
 have dx:cl y.2.values x.1=pk p.c 2:=(g14.cl l13).trans d13
 have z5:up (up (up E w.cur) nb) nb (nb+1)=0:=by rw[jfw (by omega),jfw (by omega),jfw (by omega)];exact(b.e0 (by omega)).1
 obtain⟨b15,g15⟩:=b14.edge (k:=nb+1) (to:=nb) (args:=[x.1,y.1]) (by omega) (by omega) (t4.gr gg) (by simp[dx,d14]) (fun z hz=>by
  simp only[f0j,f1u,or_false] at hz
  rcases hz with rfl | rfl<;>assumption) (.inl z5)
 obtain⟨w15,e15⟩:∃ w15,jav y.2 (nb+1) nb [x.1,y.1]=w15:=⟨_,rfl⟩
 rw[e15] at b15 g15
 have res:jg5 w p={ w15 with cur:=nb+1+1,known:=w15.known.take w6.known.length }:=by
  unfold jg5
  simp only[ev,eu,b2.nb,e3,c3,e4]
  rw[show(w4.blocks.getD nb ⟨[],[],[]⟩).params=(w4.blocks.getD nb jhp).params from rfl]
  simp only[e5,e6,b6.nb,e8,e10,e11,e12,eq,ex,ey,e15]
 rw[res]
 refine⟨(b15.set (c:=nb+1+1) (by omega) (fun z hz=>b15.v.kn z (List.mem_of_mem_take hz))).le (by simp) (by omega) (fun _=>f0d _),((((g1.trans g2).trans g3).trans g4).trans (gg.trans g15)).trans (Gr.set _ _ _),rfl⟩
end
structure Pok (w:Ms) (j:Nat):Prop where
 v:Vok w
 e0:nE w w.cur=0
 e2:∀ k,nE w k<=2
 par:∀ k,1<nE w k->0<nI w k
 i:∀ k,nI w k<=22
 nv:w.values.length<=126
 nb:w.blocks.length<=16
 sum:sm w.blocks<=j+2*w.blocks.length
theorem Pok.bd {w:Ms} (k:Pok w j):Bd w w.values.length w.blocks.length (sm w.blocks) (nI w) (nE w):=⟨k.v,f0d _,rfl,f0d _,fun _=>f0d _,fun _=>rfl,k.par⟩
theorem jvi (w:Ms):lenOf w=nI w w.cur:=rfl
theorem Pok.piece {w:Ms} (k:Pok w j) (p:Pc):Pok (jbz w p) (j+1):=by
 have b:=k.bd
 have hcur:=k.v.cur
 unfold jbz
 simp only
 generalize hr:(decide (w.blocks.length+3<=16)&&(decide (lenOf w<20)&&decide (w.values.length<110)))=r
 by_cases hk0:pk p.kind 6=0/\r=true
 .rw [if_pos hk0]
  rw[hk0.2] at hr
  simp only[f0y,decide_eq_true_eq] at hr
  obtain⟨h1,h2,h3⟩:=hr
  rw[jvi] at h2
  obtain⟨f1,f2,f3⟩:=b.fork k.e0 p
  have hn:=fun i (hi:w.blocks.length<=i)=>b.e0 hi
  refine⟨f1.v,?_,fun i=>?_,f1.par,fun i=>?_,by have:=f1.nv;omega,by have:=f1.nb;omega,by have:=f1.sum;have:=f1.nb;have:=k.sum;omega⟩
  .rw [f1.e,f3,jfw (by omega),jfw (by omega),jfw (by omega),jfw (by omega)];exact(hn _ (by omega)).1
  .rw [f1.e]
   have:=k.e2 i
   have:=k.e0
   unfold up
   by_cases c1:i=w.cur
   .subst c1;rw[if_pos rfl,if_neg (by omega),if_neg (by omega)];omega
   .rw [if_neg c1]
    by_cases c2:w.blocks.length<=i
    .rw [(hn i c2).1];split<;>split<;>omega
    .rw [if_neg (by omega),if_neg (by omega)];omega
  .have hf:=f1.i i
   have hi:=k.i i
   unfold up at hf
   by_cases c1:i=w.cur
   .subst c1;rw[if_pos rfl,if_neg (by omega),if_neg (by omega)] at hf;omega
   .rw [if_neg c1] at hf
    by_cases c2:w.blocks.length<=i
    .rw [(hn i c2).2] at hf
     split at hf<;>split at hf<;>omega
    .rw [if_neg (by omega),if_neg (by omega)] at hf;omega
 .rw [if_neg hk0]
  by_cases hk1:pk p.kind 6=1/\r=true
  .rw [if_pos hk1]
   rw[hk1.2] at hr
   simp only[f0y,decide_eq_true_eq] at hr
   obtain⟨h1,h2,h3⟩:=hr
   rw[jvi] at h2
   obtain⟨f1,f2,f3⟩:=b.loop k.e0 p
   have hn:=fun i (hi:w.blocks.length<=i)=>b.e0 hi
   refine⟨f1.v,?_,fun i=>?_,f1.par,fun i=>?_,by have:=f1.nv;omega,by have:=f1.nb;omega,by have:=f1.sum;have:=f1.nb;have:=k.sum;omega⟩
   .rw [f1.e,f3,jfw (by omega),jfw (by omega),jfw (by omega),jfw (by omega)];exact(hn _ (by omega)).1
   .rw [f1.e]
    have:=k.e2 i
    have:=k.e0
    unfold up
    by_cases c1:i=w.cur
    .subst c1;rw[if_pos rfl,if_neg (by omega),if_neg (by omega)];omega
    .rw [if_neg c1]
     by_cases c2:w.blocks.length<=i
     .rw [(hn i c2).1];split<;>split<;>omega
     .rw [if_neg (by omega),if_neg (by omega)];omega
   .have hf:=f1.i i
    have hi:=k.i i
    unfold up at hf
    by_cases c1:i=w.cur
    .subst c1;rw[if_pos rfl,if_neg (by omega),if_neg (by omega)] at hf;omega
    .rw [if_neg c1] at hf
     by_cases c2:w.blocks.length<=i
     .rw [(hn i c2).2] at hf
      split at hf<;>split at hf<;>omega
     .rw [if_neg (by omega),if_neg (by omega)] at hf;omega
  .rw [if_neg hk1]
   by_cases h:lenOf w<20/\w.values.length<120
   .rw [if_pos h]
    obtain⟨h1,h2⟩:=h
    rw[jvi] at h1
    obtain⟨f1,f2,f3,_⟩:=b.lay p
    refine⟨f1.v,by rw[f1.e,f3];exact k.e0,fun i=>by rw[f1.e];exact k.e2 i,f1.par,fun i=>?_,by have:=f1.nv;omega,by have:=f1.nb;have:=k.nb;omega,by have:=f1.sum;have:=f1.nb;have:=k.sum;omega⟩
    have hf:=f1.i i
    have hi:=k.i i
    unfold up at hf
    by_cases c1:i=w.cur
    .subst c1;rw[if_pos rfl] at hf;omega
    .rw [if_neg c1] at hf;omega
   .rw [if_neg h]
    exact⟨k.v,k.e0,k.e2,k.par,k.i,k.nv,k.nb,by have:=k.sum;omega⟩
theorem Pok.pieces:∀ (l:List Pc) {w:Ms} {j:Nat},Pok w j->Pok (l.foldl jbz w) (j+l.length)
 | [],w,j,k=>k
 | p::l,w,j,k=>by
  have:=Pok.pieces l (k.piece p)
  rw[f23,f00,show j+(l.length+1)=j+1+l.length by omega]
  exact this
theorem j83:∀ (l:List Pc) (w:Ms) (j:Nat),Pok w j->(l.foldl jbz w).m=w.m
 | [],w,j,k=>rfl
 | p::l,w,j,k=>by
  rw[f23,j83 l _ _ (k.piece p)]
  have b:=k.bd
  unfold jbz
  simp only
  split
  .exact (b.fork k.e0 p).2.1.m
  .split
   .exact (b.loop k.e0 p).2.1.m
   .split
    .exact (b.lay p).2.1.m
    .rfl
structure FcOk (m:Nat×Nat) (f:Fc):Prop where
 nb:1<=f.blocks.length/\f.blocks.length<=16
 nv:f.values.length<=160
 cls:∀ c∈f.values,c<2
 blk:∀ b∈f.blocks,b.params.length<=5/\b.instrs.length<=40/\b.edges.length<=3
 all:sm f.blocks<=160
 ins:∀ b∈f.blocks,∀ x∈b.instrs,InsOk m f.values x
 par:∀ b∈f.blocks,1<b.edges.length->b.instrs≠[]
 edg:∀ b∈f.blocks,∀ e∈b.edges,jr3 f.values f.blocks e
 ent:∀ b,f.blocks[0]?=some b->b.params=[]
 prm:∀ b∈f.blocks,∀ v∈b.params,v<f.values.length
theorem qfi {l:List Blk} {b:Blk} (h:b∈l):∃ k,l.getD k jhp=b:=by
 obtain⟨k,hk⟩:=f22 h
 exact⟨k,by rw[f0f,hk];rfl⟩
theorem jlc {m:Nat×Nat} (m1:2<=m.1/\m.1<=10) (m2:2<=m.2/\m.2<=10):Pok (jbu m) 0:=by
 have v0:Vok (jbu m):=⟨⟨m1,m2⟩,fun c h=>by simp[jbu] at h,fun c h=>by simp[jbu] at h,by simp[jbu],fun b hb x hx=>by
  rw[f0q.1 hb] at hx;simp at hx,fun b hb x hx=>by
  rw[f0q.1 hb] at hx;simp at hx,fun b hb=>by rw[f0q.1 hb];simp,fun b hb x hx=>by
  rw[f0q.1 hb] at hx;simp at hx,fun b hb=>by simp[jbu] at hb;rw[←hb],by simp[jbu,jdl,jr2]⟩
 have z:∀ k,([⟨[],[],[]⟩]:List Blk).getD k jhp=jhp:=fun k=>by
  cases k<;>rfl
 exact⟨v0,rfl,fun k=>by unfold nE jbu;simp only;rw[z];exact f14 _,fun k h=>by unfold nE jbu at h;simp only at h;rw[z] at h;simp[jhp] at h,fun k=>by unfold nI jbu;simp only;rw[z];exact f14 _,by simp[jbu],by simp[jbu],by simp[jbu,sm]⟩
theorem j23 {m:Nat×Nat} (m1:2<=m.1/\m.1<=10) (m2:2<=m.2/\m.2<=10) (l:List Pc):FcOk m (jct m l)/\(jdl (jct m l).blocks).Perm (List.range (jct m l).values.length)/\(jct m l).values.length<=128:=by
 have k0:=jlc m1 m2
 have k1:=k0.pieces (l.take 24)
 obtain⟨b,g,c,n,_⟩:=k1.bd.lay ⟨0,0,1,0,0,0,3⟩
 obtain⟨w,ew⟩:∃ w,(l.take 24).foldl jbz (jbu m)=w:=⟨_,rfl⟩
 have hm:w.m=m:=by rw[←ew];exact j83 (l.take 24) (jbu m) 0 k0
 rw[ew] at b g c n k1
 have lt:(l.take 24).length<=24:=by simp;omega
 have bl:∀ k,nI (jcu w ⟨0,0,1,0,0,0,3⟩) k<=23:=fun k=>by
  have hf:=b.i k
  have hi:=k1.i k
  unfold up at hf;split at hf<;>omega
 have be:∀ k,nE (jcu w ⟨0,0,1,0,0,0,3⟩) k<=2:=fun k=>by rw[b.e];exact k1.e2 k
 have nv:=b.nv
 have nb:=b.nb
 have nk:=k1.nv
 have nbk:=k1.nb
 have sk:=k1.sum
 have sb:=b.sum
 unfold jct
 simp only[ew]
 have vc:=b.v.cur
 have n1:1<=(jcu w ⟨0,0,1,0,0,0,3⟩).blocks.length:=by omega
 have n2:(jcu w ⟨0,0,1,0,0,0,3⟩).blocks.length<=16:=by omega
 have n3:(jcu w ⟨0,0,1,0,0,0,3⟩).values.length<=160:=by omega
 have n4:sm (jcu w ⟨0,0,1,0,0,0,3⟩).blocks<=160:=by omega
 have n5:(jcu w ⟨0,0,1,0,0,0,3⟩).values.length<=128:=by omega
 refine⟨⟨⟨n1,n2⟩,n3,b.v.cls,fun x hx=>?_,n4,?_,fun x hx h=>?_,b.v.edg,b.v.ent,b.v.prm⟩,b.v.made,n5⟩
 .obtain ⟨k,e⟩:=qfi hx
  have h1:=bl k
  have h2:=be k
  unfold nI at h1;unfold nE at h2
  rw[e] at h1 h2
  have:=b.v.pl x hx
  omega
 .have:=b.v.ins
  rw[g.m,hm] at this;exact this
 .obtain ⟨k,e⟩:=qfi hx
  have h1:=b.par k
  unfold nI nE at h1
  rw[e] at h1
  have:=h1 h
  intro h2;rw[h2] at this;simp at this
end Go.Proofs.YtdbklpgagdbpiaaDoor.Ms
