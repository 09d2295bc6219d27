/- Functions built of pieces. -/
import Derived.Test.YtkpadfebkaangaaGreatDoorPlain
import Derived.Test.YtkpadfebkaangaaGreatDoorLz
namespace Go.Proofs.YtkpadfebkaangaaGreatDoor.Ms
set_option linter.all false
structure Pc where
 kind:Int
 op:Int
 a:Int
 b:Int
 c:Int
 limits:Int
 flags:Int
structure Opd where
 kind:Nat
 value:Nat
 late:Bool
 limit:Nat
 n:Nat
structure Ins where
 op:Nat
 ops:List Opd
 spoils:List (Nat×Nat)
structure Edg where
 block:Nat
 args:List Nat
structure Blk where
 params:List Nat
 instrs:List Ins
 edges:List Edg
structure Fc where
 values:List Nat
 blocks:List Blk
structure Ms where
 m:Nat×Nat
 values:List Nat
 blocks:List Blk
 cur:Nat
 known:List Nat
 all:Nat
def pk (n:Int) (many:Nat):Nat:=(pick n (many:Int)).toNat
def g2 (p:Nat×Nat) (c:Nat):Nat:=if c=0 then p.1 else p.2
def s2 (p:Nat×Nat) (c x:Nat):Nat×Nat:=if c=0 then (x,p.2) else (p.1,x)
def jbh (m:Nat×Nat) (wish c:Nat) (need fixed:Nat×Nat):Nat×Nat×(Nat×Nat)×(Nat×Nat) :=
 if wish=1∨wish=3∨g2 m c<=g2 need c+1 then (if wish=3 then 3 else 1,0,need,fixed)
 else if wish=4 then (4,g2 fixed c,s2 need c (g2 need c+1),s2 fixed c (g2 fixed c+1))
 else (2,0,s2 need c (g2 need c+1),fixed)
structure Iw where
 ops:List Opd
 limits:Nat
 need:Nat×Nat
 fixed:Nat×Nat
def j00 (w:Ms) (p:Pc) (flags i:Nat) (s:Iw):Iw :=
 let v:=w.known.getD (pk (Int.tdiv p.a (i+1)) w.known.length) 0
 let l:=jbh w.m (1+s.limits % 4) (w.values.getD v 0) s.need s.fixed
 ⟨s.ops++[⟨1,v,decide (flags / 2 ^ (4+i) % 2=1),l.1,l.2.1⟩],s.limits / 4,l.2.2.1,l.2.2.2⟩
def jfg (w:Ms) (p:Pc) (flags:Nat):Nat->Nat->Iw->Iw
 | 0,_,s=>s
 | k+1,i,s=>jfg w p flags k (i+1) (j00 w p flags i s)
def jf1 (w:Ms) (p:Pc) (uses reused cls:Nat) (s:Iw):Bool :=
 let k:=pk p.b (uses+1)
 let o:=s.ops.getD k ⟨0,0,false,0,0⟩
 decide (k<uses)&&(decide (k≠reused)&&(!o.late&&(decide (g2 s.need cls+1<g2 w.m cls)&&decide (w.values.getD o.value 0=cls))))
def jgk (p:Pc) (i:Nat):Nat:=(p.c / 2 ^ i % 2).toNat
def jfm (p:Pc) (flags uses i:Nat) (x:Iw×Nat×Ms):Iw×Nat×Ms :=
 let s:=x.1
 let w:=x.2.2
 let cls:=jgk p i
 let wish:=1+s.limits % 5
 let k:=pk p.b (uses+1)
 let v:=w.values.length
 let w':Ms:={ w with values:=w.values++[cls] }
 let late:=decide (flags / 2 ^ (9+i) % 2=1)
 if wish=5/\jf1 w p uses x.2.1 cls s=true then
  (⟨s.ops++[⟨2,v,true,5,k⟩],s.limits / 5,s2 s.need cls (g2 s.need cls+1),s.fixed⟩,k,w')
 else
  let l:=jbh w.m (if wish=5 then 1 else wish) cls s.need s.fixed
  (⟨s.ops++[⟨2,v,late,l.1,l.2.1⟩],s.limits / 5,l.2.2.1,l.2.2.2⟩,x.2.1,w')
def jeb (p:Pc) (flags uses:Nat):Nat->Nat->Iw×Nat×Ms->Iw×Nat×Ms
 | 0,_,x=>x
 | k+1,i,x=>jeb p flags uses k (i+1) (jfm p flags uses i x)
def jbq (c r:Nat):Nat->List (Nat×Nat)
 | 0=>[]
 | k+1=>(c,r - (k+1))::jbq c r k
def jgy (w:Ms) (p:Pc) (flags:Nat) (need:Nat×Nat):List (Nat×Nat) :=
 if flags / 2 ^ 12 % 3=0 then jbq 0 w.m.1 (min (pk p.b 4) (w.m.1 - 1 - need.1))++jbq 1 w.m.2 (min (pk p.b 4) (w.m.2 - 1 - need.2)) else []
def ja4 (w:Ms) (p:Pc):Ins×Ms :=
 let flags:=pk p.flags (2 ^ 30)
 let s:=jfg w p flags (if w.known=[] then 0 else flags % 4) 0 ⟨[],pk p.limits (2 ^ 40),(0,0),(0,0)⟩
 let uses:=s.ops.length
 let x:=jeb p flags uses (1+flags / 2 ^ 8 % 2) 0 (s,uses,w)
 (⟨pk p.op 256,x.1.ops,jgy w p flags x.1.need⟩,x.2.2)
def jdb (x:Ins):List Nat:=(x.ops.filter (fun o=>o.kind=2)).map (·.value)
def jax (l:List Blk) (k:Nat) (x:Ins):List Blk:=l.modify k (fun b=>{ b with instrs:=b.instrs++[x] })
def jcp (w:Ms) (p:Pc):Ms :=
 let y:=ja4 w p
 { y.2 with blocks:=jax y.2.blocks y.2.cur y.1,all:=y.2.all+1,known:=y.2.known++jdb y.1 }
def jag (w:Ms) (cs:List Nat):Ms :=
 { w with values:=w.values++cs,blocks:=w.blocks++[⟨List.range' w.values.length cs.length,[],[]⟩] }
def jay (w:Ms) (k to:Nat) (args:List Nat):Ms:={ w with blocks:=w.blocks.modify k (fun b=>{ b with edges:=b.edges++[⟨to,args⟩] }) }
def jsy (w:Ms) (cls:Nat):Nat->Option Nat
 | 0=>none
 | n+1=>let v:=w.known.getD n 0
  if w.values.getD v 0=cls then some v else jsy w cls n
def jac (w:Ms) (cls:Nat) (p:Pc):Nat×Ms :=
 match jsy w cls (w.known.length - pk p.b 3) with
 | some v=>(v,w)
 | none =>
  let w':=jcp w { p with c:=3*cls }
  (w'.known.getD (w'.known.length - 1) 0,w')
def inc (n:Int):Int:=if n=9223372036854775807 then -9223372036854775808 else n+1
def jif (p:Pc) (cls before:Nat) (e k:Nat) (lay:Bool) (w:Ms):Pc×Ms :=
 let p:={ p with a:=inc p.a }
 let w:={ w with cur:=k }
 let q:=if lay then { p with op:=inc p.op } else p
 let w:=if lay then jcp w q else w
 let v:=jac w cls q
 let z:=jac v.2 0 q
 let w:=jay z.2 k e [v.1,z.1]
 (q,{ w with known:=w.known.take before })
def jfn (w:Ms) (p:Pc):Ms :=
 let cls:=pk p.c 2
 let w:=jcp w p
 let k:=w.cur
 let before:=w.known.length
 let a:=w.blocks.length
 let w:=jag (jag (jag w []) []) [cls,0]
 let w:=jay (jay w k a []) k (a+1) []
 let x:=jif p cls before (a+2) a true w
 let y:=jif x.1 cls before (a+2) (a+1) (decide (pk p.flags 2=1)) x.2
 { y.2 with cur:=a+2,known:=y.2.known++(y.2.blocks.getD (a+2) ⟨[],[],[]⟩).params }
def odd (n:Int):Int:=n+(1 - n % 2)
def jgl (w:Ms) (p:Pc):Ms :=
 let cls:=pk p.c 2
 let v:=jac w cls p
 let u:=jac v.2 0 p
 let h:=u.2.blocks.length
 let w:=jag u.2 [cls,0]
 let w:=jay w w.cur h [v.1,u.1]
 let w:={ w with cur:=h,known:=w.known++(w.blocks.getD h ⟨[],[],[]⟩).params }
 let p:={ p with flags:=odd p.flags }
 let w:=jcp w p
 let before:=w.known.length
 let b:=w.blocks.length
 let w:=jag (jag w []) []
 let w:=jay (jay w h b []) h (b+1) []
 let p:={ p with a:=inc p.a,op:=inc p.op }
 let w:=jcp { w with cur:=b } p
 let x:=jac w cls p
 let y:=jac x.2 0 p
 let w:=jay y.2 b h [x.1,y.1]
 { w with known:=w.known.take before,cur:=b+1 }
def lenOf (w:Ms):Nat:=(w.blocks.getD w.cur ⟨[],[],[]⟩).instrs.length
def jbs (w:Ms) (p:Pc):Ms :=
 let j1b:=decide (w.blocks.length+3<=16)&&(decide (lenOf w<20)&&decide (w.values.length<110))
 let k:=pk p.kind 6
 if k=0/\j1b=true then jfn w p
 else if k=1/\j1b=true then jgl w p
 else if lenOf w<20/\w.values.length<120 then jcp w p
 else w
def jb7 (m:Nat×Nat):Ms:=⟨m,[],[⟨[],[],[]⟩],0,[],0⟩
def jev (m:Nat×Nat) (l:List Pc):Fc :=
 let w:=jcp ((l.take 24).foldl jbs (jb7 m)) ⟨0,0,1,0,0,0,3⟩
 ⟨w.values,w.blocks⟩
end Go.Proofs.YtkpadfebkaangaaGreatDoor.Ms
namespace Go.Proofs.YtkpadfebkaangaaGreatDoor.Ev
open Go Go.RowKit Go.Proofs.YtkpadfebkaangaaGreatDoor.Ms
set_option linter.all false
variable {rows:List (List SV)} {n1 n2 n3 ns':List Nat} {row:List SV} {w':Ms} {i p:Nat} {a b k:SV}
section
variable {α:Type}
inductive Rows (sz:Nat) (E:List SV->α->List Nat->Prop):List (List SV)->List α->List Nat->Prop
 | nil:Rows sz E [] [] []
 | cons {row:List SV} {a:α} {ns:List Nat} {rows:List (List SV)} {l:List α} {nss:List Nat}:row.length=sz->E row a ns->Rows sz E rows l nss->Rows sz E (row::rows) (a::l) (ns++nss)
def Sl (h:Hp) (ty sz:Nat) (ex:Bool) (E:List SV->α->List Nat->Prop) (x:SV) (l:List α) (ns:List Nat):Prop :=
 (l=[]/\x=.nilSlice/\ns=[])∨(l≠[]/\∃ b rows nss,x=.slice b 0 l.length l.length ex sz/\h.get b=some (.arr rows.flatten ty)/\Rows sz E rows l nss/\ns=b::nss)
variable {sz ty:Nat} {ex:Bool} {E E':List SV->α->List Nat->Prop} {h h':Hp} {x:SV} {l:List α} {ns:List Nat}
theorem Rows.len (k:Rows sz E rows l ns):rows.length=l.length/\rows.flatten.length=l.length*sz:=by
 induction k<;>grind
theorem Rows.imp (k:Rows sz E rows l ns) (hE:∀ row a ms,(∀ n∈ms,n∈ns)->E row a ms->E' row a ms):Rows sz E' rows l ns:=by
 induction k with
 | nil=>exact .nil
 | cons h1 h2 _ ih=>exact .cons h1 (hE _ _ _ (fun n hn=>f08 _ hn) h2) (ih fun row a ms hm=>hE row a ms fun n hn=>f04 _ (hm n hn))
theorem Rows.app {rows':List (List SV)} {l':List α} {ms:List Nat} (k:Rows sz E rows l ns) (k':Rows sz E rows' l' ms):Rows sz E (rows++rows') (l++l') (ns++ms):=by
 induction k with
 | nil=>grind
 | cons h3 h4 _ ih=>simpa[f0g] using Rows.cons h3 h4 ih
theorem Rows.at (k:Rows sz E rows l ns):∀ {i:Nat} {a:α},l[i]?=some a->∃ A row B R S ms M1 M2,rows=A++row::B/\l=R++a::S/\A.length=i/\R.length=i/\ns=M1++(ms++M2)/\row.length=sz/\E row a ms/\Rows sz E A R M1/\Rows sz E B S M2:=by
 induction k with
 | nil=>simp
 | @cons row b ms rows l nss h1 h2 h3 ih =>
  intro i a hi
  cases i with
  | zero =>
   simp only[f1p,Option.some.injEq] at hi
   subst hi
   exact⟨[],row,rows,[],l,ms,[],nss,rfl,rfl,rfl,rfl,se,h1,h2,.nil,h3⟩
  | succ i =>
   obtain⟨A,row',B,R,S,ms',M1,M2,e1,e2,e3,e4,e5,e6,e7,e8,e9⟩:=ih (by simpa using hi)
   exact⟨row::A,row',B,b::R,S,ms',ms++M1,M2,by rw[e1];rfl,by rw[e2];rfl,by simp[e3],by simp[e4],by rw[e5,f0g],e6,e7,.cons h1 h2 e8,e9⟩
theorem Rows.cells (k:Rows sz E rows l ns) {a:α} (hi:l[i]?=some a):∃ row ms,(rows.flatten.drop (i*sz)).take sz=row/\row.length=sz/\E row a ms/\(∀ n∈ms,n∈ns):=by
 obtain⟨A,row,B,R,S,ms,M1,M2,rfl,rfl,rfl,e4,rfl,e6,e7,e8,e9⟩:=k.at hi
 have hA:=e8.len
 grind
theorem Sl.imp (k:Sl h ty sz ex E x l ns) (hk:∀ n∈ns,h'.get n=h.get n) (hE:∀ row a ms,(∀ n∈ms,n∈ns)->E row a ms->E' row a ms):Sl h' ty sz ex E' x l ns:=by
 rcases k with k | ⟨h1,b,rows,nss,rfl,h2,h3,rfl⟩
 .exact .inl k
 .exact .inr ⟨h1,b,rows,nss,rfl,by grind,h3.imp fun row a ms hm=>hE row a ms fun n hn=>f01 _ (hm n hn),rfl⟩
theorem Sl.keep (k:Sl h ty sz ex E x l ns) (hk:∀ n∈ns,h'.get n=h.get n):Sl h' ty sz ex E x l ns:=k.imp hk fun _ _ _ _ h=>h
theorem Sl.len (k:Sl h ty sz ex E x l ns):jsn (.s x)=some (vi l.length):=by
 rcases k with⟨rfl,rfl,_⟩ | ⟨_,b,rows,nss,rfl,_⟩<;>rfl
theorem Sl.nil:Sl h ty sz ex E .nilSlice [] []:=.inl ⟨rfl,rfl,rfl⟩
theorem Sl.at (k:Sl h ty sz ex E x l ns) {a:α} (hi:l[i]?=some a):∃ b row ms,jqo sz (.s x) (vi (i:Int))=some (.s (.ptr b (i*sz)))/\rdB (h.get b) (i*sz) sz=some row/\row.length=sz/\E row a ms/\(∀ n∈ms,n∈ns)/\b∈ns:=by
 rcases k with⟨rfl,_,_⟩ | ⟨_,b,rows,nss,rfl,h2,h3,rfl⟩
 .grind
 .have hl:i<l.length:=by
   grind
  obtain⟨row,ms,e1,e2,e3,e4⟩:=h3.cells hi
  refine⟨b,row,ms,(jct hl).trans se,?_,e2,e3,fun n hn=>f01 _ (e4 n hn),se⟩
  grind[jhs,jcb,ja8,List.length_drop,Nat.mul_le_mul_right,f29]
theorem Sl.app {bytes b' o' mc':Nat} {ex':Bool} {rows':List (List SV)} {l':List α} {ms:List Nat} (k:Sl h ty sz false E x l ns) (ok:Ok h) (hlt:∀ n∈ns,1<=n/\n<h.next) (hr:rdB (h.get b') o' (l'.length*sz)=some rows'.flatten) (k':Rows sz E rows' l' ms) (hl:l'≠[]) (h1:(l.length+l'.length)*bytes<=1000000000) (h2:l.length+l'.length<=1000000000) :
 ∃ h1,jmr h ty sz bytes (.s x) (.s (.slice b' o' l'.length mc' ex' sz))=some (.s (.slice h.next 0 (l.length+l'.length) (l.length+l'.length) false sz),h1)/\Ok h1/\h1.next=h.next+1/\(∀ n,n≠h.next->(∀ b,ns.head?=some b->n≠b)->h1.get n=h.get n) /\
  (∀ {E':List SV->α->List Nat->Prop},(∀ row a m,(∀ n∈m,n∈ns.tail∨n∈ms)->E row a m->E' row a m)->Sl h1 ty sz false E' (.slice h.next 0 (l.length+l'.length) (l.length+l'.length) false sz) (l++l') (h.next::(ns.tail++ms))):=by
 obtain⟨m,hm⟩:∃ m,l'.length=m+1:=⟨l'.length - 1,by cases l' with
  | nil=>grind
  | cons a r=>simp⟩
 rcases k with⟨rfl,rfl,rfl⟩ | ⟨hne,b,rows,nss,rfl,hg,hR,rfl⟩
 .refine ⟨h.push (.arr rows'.flatten ty),?_,ja9 ok,rfl,fun n hn _=>by rw[ja3 ok,if_neg hn],fun hE=>?_⟩
  .rw [jqp,hr,hm]
   show jjm bytes (m+1) (nw h rows'.flatten ty _)=_
   rw[jm5 (by grind) (by simp only[f00,f1b,hm] at h2;exact h2),jvx ok]
   simp only[f00,f1b]
   rfl
  .refine .inr ⟨by simpa using hl,h.next,rows',ms,se,?_,k'.imp (fun row a m hm=>hE row a m (fun n hn=>.inr (hm n hn))),rfl⟩
   rw[ja3 ok,if_pos rfl]
 .have hb:=hlt b se
  have hl2:=hR.len
  refine⟨(h.put b none).push (.arr (rows.flatten++rows'.flatten) ty),?_,ja9 (jas ok),se,fun n hn hb'=>?_,fun hE=>?_⟩
  .rw [jms oa,hr,hg]
   exact qlp ok hl2.2 h1 h2
  .have e:n≠(h.put b none).next:=by rw[Hp.next_put];exact hn
   rw[ja3 (jas ok),if_neg e,jak ok hb.1,if_neg (hb' b rfl)]
  .refine .inr ⟨by simp[hl],h.next,rows++rows',nss++ms,se,?_,?_,rfl⟩
   .rw [ja3 (jas ok),if_pos (by rw[Hp.next_put]),f2g]
   .exact (hR.imp (fun row a m hm=>hE row a m (fun n hn=>.inl (hm n hn)))).app (k'.imp (fun row a m hm=>hE row a m (fun n hn=>.inr (hm n hn))))
theorem Sl.app1 {bytes:Nat} {a:α} {ms:List Nat} (k:Sl h ty sz false E x l ns) (ok:Ok h) (hlt:∀ n∈ns,1<=n/\n<h.next) (hr:row.length=sz) (hE:E row a ms) (h1:(l.length+1)*bytes<=1000000000) (h2:l.length+1<=1000000000) :
 ∃ h2,jmr (h.push (.arr row ty)) ty sz bytes (.s x) (.s (.slice h.next 0 1 1 true sz))=some (.s (.slice (h.next+1) 0 (l.length+1) (l.length+1) false sz),h2)/\Ok h2/\h2.next=h.next+2/\(∀ n,n<h.next->n∉ns->h2.get n=h.get n)/\(∀ n∈ns.tail,ns.Nodup->h2.get n=h.get n) /\
  (∀ {E':List SV->α->List Nat->Prop},(∀ row a m,(∀ n∈m,n∈ns.tail∨n∈ms)->E row a m->E' row a m)->Sl h2 ty sz false E' (.slice (h.next+1) 0 (l.length+1) (l.length+1) false sz) (l++[a]) ((h.next+1)::(ns.tail++ms))):=by
 have e1:∀ n,n<h.next->(h.push (AB.arr row ty)).get n=h.get n:=fun n hn=>by rw[ja3 ok,if_neg oa]
 have hrd:rdB ((h.push (AB.arr row ty)).get h.next) 0 ([a].length*sz)=some [row].flatten:=by
  rw[ja3 ok,if_pos rfl,jhs]
  refine(ja8 _).2 ⟨?_,?_⟩
  .show [a].length*sz<=row.length
   simp[hr]
  .show [row].flatten=row.take ([a].length*sz)
   simp[←hr]
 obtain⟨h3,e2,ok2,nx2,kp2,sl2⟩:=(k.keep (fun n hn=>e1 n (hlt n hn).2)).app (bytes:=bytes) (b':=h.next) (o':=0) (mc':=1) (ex':=true) (rows':=[row]) (l':=[a]) (ms:=ms) (ja9 ok) (fun n hn=>by have:=hlt n hn;rw[Hp.next_push];omega) hrd (by have:=Rows.cons hr hE (.nil (sz:=sz) (E:=E));rwa [f06] at this) se h1 h2
 refine⟨h3,e2,ok2,nx2,fun n hn hm=>?_,fun n hn hd=>?_,sl2⟩
 .exact (kp2 n (by rw[Hp.next_push];omega) (fun b hb e=>hm (e▸List.mem_of_mem_head? hb))).trans (e1 n hn)
 .have hn':=f0j hn
  have:=hlt n hn'
  refine(kp2 n (by rw[Hp.next_push];omega) (fun b hb e=>?_)).trans (e1 n this.2)
  cases ns with
  | nil=>cases hb
  | cons c r =>
   cases hb
   exact(f0r.1 hd).1 (e▸hn)
end
def jaf {α:Type} (enc:α->List SV):List α->SV
 | []=>.nilSlice
 | a::l=>.lst ((a::l).map enc)
def jav (n:Nat):List SV:=[si n]
def jbc (o:Opd):List SV:=[si o.kind,si o.value,.bool o.late,si o.limit,si o.n]
def jcq (r:Nat×Nat):List SV:=[si r.1,si r.2]
def jdd (x:Ins):List SV:=[si x.op,jaf jbc x.ops,jaf jcq x.spoils]
def jeo (e:Edg):List SV:=[si e.block,jaf jav e.args]
def ja6 (b:Blk):List SV:=[jaf jav b.params,jaf jdd b.instrs,jaf jeo b.edges]
def qp1 (f:Fc):List SV:=[jaf jav f.values,jaf ja6 f.blocks]
def jb8 (p:Pc):List SV:=[si p.kind,si p.op,si p.a,si p.b,si p.c,si p.limits,si p.flags]
section
variable {α:Type} {enc:α->List SV} {l:List α}
theorem qfr:jaf enc ([]:List α)=.nilSlice:=rfl
theorem j86 {a:α}:jaf enc (a::l)=.lst ((a::l).map enc):=rfl
theorem jah:jsn (.s (jaf enc l))=some (vi l.length):=by
 cases l with
 | nil=>rfl
 | cons a l=>rw[j86,jso,f03]
theorem jaj {size:Nat} {a:α} (hi:l[i]?=some a) (hs:(enc a).length=size):jqo size (.s (jaf enc l)) (vi (i:Int))=some (.s (.cp (enc a))):=by
 cases l with
 | nil=>grind
 | cons b l=>exact jm4 (by grind) hs
theorem jbd:grd (jaf enc l)=true:=by cases l<;>rfl
theorem jpk {f:SV->Option SV}:∀ {l r x y:List SV},jgb f l=some x->jgb f r=some y->jgb f (l++r)=some (x++y)
 | [],r,x,y,h,h'=>by cases h;grind
 | a::l,r,x,y,h,h'=>by
  obtain⟨b,h1,h2⟩:=jaa.1 (show ob (f a) (fun x=>ob (jgb f l) fun r=>some (x::r))=some x from h)
  obtain⟨z,h3,h4⟩:=jaa.1 h2
  cases h4
  exact jaa.2 ⟨b,h1,jaa.2 ⟨z++y,jpk h3 h',rfl⟩⟩
theorem qfs {f:SV->Option SV} {x:SV} (h:f a=some x):jgb f [a]=some [x]:=jaa.2 ⟨x,h,rfl⟩
theorem jau {f:SV->Option SV} {x:SV} {l r:List SV} (h:f a=some x) (h':jgb f l=some r):jgb f (a::l)=some (x::r):=jaa.2 ⟨x,h,jaa.2 ⟨r,h',rfl⟩⟩
theorem Rows.frz {sz:Nat} {E:List SV->α->List Nat->Prop} {f:SV->Option SV} {ns:List Nat} (k:Rows sz E rows l ns) (hE:∀ row a ms,E row a ms->jgb f row=some (enc a)):jgb f rows.flatten=some (l.map enc).flatten:=by
 induction k with
 | nil=>rfl
 | cons h1 h2 _ ih=>grind[jpk]
theorem jiy {sz:Nat}:∀ {L:List (List SV)},(∀ r∈L,r.length=sz)->jox sz L.length L.flatten=some L
 | [],_=>rfl
 | a::L,h=>by
  refine jaa.2 ⟨a,(ja8 _).2 ⟨by grind,?_⟩,jaa.2 ⟨L,?_,rfl⟩⟩
  .grind
  .rw [jcb,f0t,List.drop_append_of_le_length (f2t (h a se).symm),f2w (f2t (h a se)),f1m]
   exact jiy fun r hr=>h r (f01 _ hr)
theorem Sl.frz {h:Hp} {ty sz d:Nat} {ex k:Bool} {E:List SV->α->List Nat->Prop} {x:SV} {ns:List Nat} (s:Sl h ty sz ex E x l ns) (hE:∀ row a ms,E row a ms->jgb (jfl k h d) row=some (enc a)) (hn:∀ a,(enc a).length=sz):jfl k h (d+1) x=some (jaf enc l):=by
 rcases s with⟨rfl,rfl,_⟩ | ⟨hne,b,rows,nss,rfl,hg,hR,_⟩
 .rfl
 .obtain ⟨a,r,rfl⟩:∃ a r,l=a::r:=by cases l with
   | nil=>grind
   | cons a r=>simp
  have hl:=hR.len
  refine jaa.2 ⟨rows.flatten,?_,jaa.2 ⟨((a::r).map enc).flatten,hR.frz hE,jaa.2 ⟨(a::r).map enc,?_,rfl⟩⟩⟩
  .show rdB (h.get b) 0 ((r.length+1)*sz)=_
   rw[hg]
   show jbp ((r.length+1)*sz) rows.flatten=some rows.flatten
   refine(ja8 _).2 ⟨by rw[hl.2];exact f0h _,?_⟩
   grind
  grind[jiy,f1j,f03]
end
def EI (row:List SV) (n:Nat) (ns:List Nat):Prop:=row=[si n]/\ns=[]
def EO (row:List SV) (o:Opd) (ns:List Nat):Prop:=row=jbc o/\ns=[]
def ER (row:List SV) (r:Nat×Nat) (ns:List Nat):Prop:=row=jcq r/\ns=[]
structure Tys7 where
 int:Nat
 opd:Nat
 reg:Nat
 ins:Nat
 edg:Nat
 blk:Nat
 mas:Nat
section
variable (t:Tys7)
def EX (h:Hp) (row:List SV) (x:Ins) (ns:List Nat):Prop:=∃ a b n1 n2,row=[si x.op,a,b]/\Sl h t.opd 5 false EO a x.ops n1/\Sl h t.reg 2 false ER b x.spoils n2/\ns=n1++n2
def EE (h:Hp) (row:List SV) (e:Edg) (ns:List Nat):Prop:=∃ a,row=[si e.block,a]/\Sl h t.int 1 true EI a e.args ns
def EB (h:Hp) (row:List SV) (b:Blk) (ns:List Nat):Prop:=∃ p i e n1 n2 n3,row=[p,i,e]/\Sl h t.int 1 false EI p b.params n1/\Sl h t.ins 3 false (EX t h) i b.instrs n2/\Sl h t.edg 2 false (EE t h) e b.edges n3/\ns=n1++(n2++n3)
structure MR (h:Hp) (p:Nat) (w:Ms) (ns:List Nat):Prop where
 ex:∃ a b k n1 n2 n3,h.get p=some (.arr [si w.m.1,si w.m.2,a,b,si w.cur,k,si w.all] t.mas)/\Sl h t.int 1 false EI a w.values n1/\Sl h t.blk 3 false (EB t h) b w.blocks n2/\Sl h t.int 1 false EI k w.known n3/\ns=p::(n1++(n2++n3))
 nodup:ns.Nodup
 lt:∀ n∈ns,1<=n/\n<h.next
variable {t} {h h':Hp}
theorem EX.keep {x:Ins} {ns:List Nat} (k:EX t h row x ns) (hk:∀ n∈ns,h'.get n=h.get n):EX t h' row x ns:=by
 obtain⟨a,b,n1,n2,e,h1,h2,rfl⟩:=k
 exact⟨a,b,n1,n2,e,h1.keep fun n hn=>hk n (by grind),h2.keep fun n hn=>hk n (by grind),rfl⟩
theorem EE.keep {x:Edg} {ns:List Nat} (k:EE t h row x ns) (hk:∀ n∈ns,h'.get n=h.get n):EE t h' row x ns:=by
 obtain⟨a,e,h1⟩:=k
 exact⟨a,e,h1.keep hk⟩
theorem EB.keep {x:Blk} {ns:List Nat} (k:EB t h row x ns) (hk:∀ n∈ns,h'.get n=h.get n):EB t h' row x ns:=by
 obtain⟨p,i,e,n1,n2,n3,e1,h1,h2,h3,rfl⟩:=k
 exact⟨p,i,e,n1,n2,n3,e1,h1.keep fun n hn=>hk n (by grind),h2.imp (fun n hn=>hk n (by grind)) fun row a ms hm k=>k.keep fun n hn=>hk n (by grind),h3.imp (fun n hn=>hk n (by grind)) fun row a ms hm k=>k.keep fun n hn=>hk n (by grind),rfl⟩
theorem MR.keep {w:Ms} {ns:List Nat} (k:MR t h p w ns) (hk:∀ n∈ns,h'.get n=h.get n) (hn:h.next<=h'.next):MR t h' p w ns:=by
 obtain⟨⟨a,b,c,n1,n2,n3,h1,h2,h3,h4,rfl⟩,h5,h6⟩:=k
 refine⟨⟨a,b,c,n1,n2,n3,by grind,h2.keep fun n hn=>hk n (by grind),h3.imp (fun n hn=>hk n (by grind)) fun row a ms hm k=>k.keep fun n hn=>hk n (by grind),h4.keep fun n hn=>hk n (by grind),rfl⟩,h5,fun n hm=>⟨(h6 n hm).1,f0o (h6 n hm).2 hn⟩⟩
structure Mv (h h':Hp) (ns ns':List Nat):Prop where
 ok:Ok h'
 nx:h.next<=h'.next
 new:∀ n∈ns',n∈ns∨h.next<=n
 keep:∀ n,n<h.next->n∉ns->h'.get n=h.get n
theorem Mv.refl (k:Ok h) {ns:List Nat}:Mv h h ns ns:=⟨k,f0h _,fun n hn=>.inl hn,fun _ _ _=>rfl⟩
theorem Mv.trans {h'':Hp} {ns ns'':List Nat} (a:Mv h h' ns ns') (b:Mv h' h'' ns' ns''):Mv h h'' ns ns'' :=
 ⟨b.ok,f02 a.nx b.nx,fun n hn=>by
  rcases b.new n hn with h1 | h1
  .exact a.new n h1
  .exact .inr (f02 a.nx h1),fun n h1 h2=>by
  rw[b.keep n (f0o h1 a.nx) (fun h3=>by
   rcases a.new n h3 with h4 | h4
   .grind
   omega)]
  exact a.keep n h1 h2⟩
theorem MR.mk_put (ok:Ok h) (h1:Sl h t.int 1 false EI a w'.values n1) (h2:Sl h t.blk 3 false (EB t h) b w'.blocks n2) (h3:Sl h t.int 1 false EI k w'.known n3) (hd:(p::(n1++(n2++n3))).Nodup) (lt:∀ n∈p::(n1++(n2++n3)),1<=n/\n<h.next) :
 MR t (h.put p (some (.arr [si w'.m.1,si w'.m.2,a,b,si w'.cur,k,si w'.all] t.mas))) p w' (p::(n1++(n2++n3))):=by
 have hp:=(lt p se).1
 have kp:∀ n∈n1++(n2++n3),(h.put p (some (.arr [si w'.m.1,si w'.m.2,a,b,si w'.cur,k,si w'.all] t.mas))).get n=h.get n:=fun n hn=>by
  rw[jak ok hp,if_neg (fun(e:n=p)=>(f0r.1 hd).1 (e▸hn))]
 refine⟨⟨a,b,k,n1,n2,n3,by simp_all[jak,if_pos],h1.keep (fun n hn=>kp n (by grind)),h2.imp (fun n hn=>kp n (by grind)) (fun row a ms hm k=>k.keep (fun n hn=>kp n (by grind))),h3.keep (fun n hn=>kp n (by simp[hn])),rfl⟩,hd,fun n hn=>?_⟩
 grind[Hp.next_put]
theorem jcd {A ns B:List Nat} {N:Nat} (hd:(A++(ns++B)).Nodup) (lt:∀ n∈A++(ns++B),n<N) (h':ns'.Nodup) (hn:∀ n∈ns',n∈ns∨N<=n):(A++(ns'++B)).Nodup:=by
 rw[f0m,f0m] at hd
 obtain⟨d1,⟨d2,d3,d4⟩,d5⟩:=hd
 rw[f0m,f0m]
 refine⟨d1,⟨h',d3,fun a ha b hb e=>?_⟩,fun a ha b hb e=>?_⟩
 .subst e
  rcases hn a ha with h1 | h1
  .grind
  .have:=lt a (by grind);omega
 .subst e
  rcases f0e.1 hb with hb | hb
  .rcases hn a hb with h1 | h1
   .exact d5 a ha a (by simp[h1]) rfl
   .have:=lt a (by simp[ha]);omega
  .exact d5 a ha a (by simp[hb]) rfl
theorem jcr {ns ms:List Nat} {k:Nat} (hd:ns.Nodup) (hm:ms.Nodup) (hx:∀ n∈ms,n∉ns) (hk:k∉ns) (hk2:k∉ms):(k::(ns.tail++ms)).Nodup:=by
 grind
theorem MR.upd {h2:Hp} {n1' n2' n3':List Nat} (hd:(p::(n1++(n2++n3))).Nodup) (lt:∀ n∈p::(n1++(n2++n3)),1<=n/\n<h.next) (hpos:1<=h.next) (ok2:Ok h2) (nx:h.next<=h2.next)
 (s1:Sl h2 t.int 1 false EI a w'.values n1') (s2:Sl h2 t.blk 3 false (EB t h2) b w'.blocks n2') (s3:Sl h2 t.int 1 false EI k w'.known n3') (hd':(n1'++(n2'++n3')).Nodup) (hn:∀ n∈n1'++(n2'++n3'),(n∈n1++(n2++n3)∨h.next<=n)/\n<h2.next)
 (kp:∀ n,n<h.next->n∉p::(n1++(n2++n3))->h2.get n=h.get n) :
 MR t (h2.put p (some (.arr [si w'.m.1,si w'.m.2,a,b,si w'.cur,k,si w'.all] t.mas))) p w' (p::(n1'++(n2'++n3')))/\Mv h (h2.put p (some (.arr [si w'.m.1,si w'.m.2,a,b,si w'.cur,k,si w'.all] t.mas))) (p::(n1++(n2++n3))) (p::(n1'++(n2'++n3'))):=by
 have hp:=lt p se
 refine⟨MR.mk_put ok2 s1 s2 s3 (f0r.2 ⟨fun h1=>?_,hd'⟩) (fun n h1=>?_),⟨jas ok2,by simp_all,fun n h1=>?_,fun n h1 h3=>?_⟩⟩
 .rcases (hn p h1).1 with h3 | h3
  .exact (f0r.1 hd).1 h3
  .omega
 .rcases f0f.1 h1 with rfl | h1
  .exact ⟨hp.1,oa⟩
  .rcases (hn n h1).1 with h3 | h3
   .exact ⟨(lt n (f01 _ h3)).1,(hn n h1).2⟩
   .exact ⟨oa,(hn n h1).2⟩
 .rcases f0f.1 h1 with rfl | h1
  .exact .inl se
  .rcases (hn n h1).1 with h3 | h3
   .exact .inl (f01 _ h3)
   .exact .inr h3
 simp_all[jak,if_neg]
end
end Go.Proofs.YtkpadfebkaangaaGreatDoor.Ev
