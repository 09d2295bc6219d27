/- Code of functions as the interpreter has it prepared, cut at loops. -/
import Derived.Test.YtokcdoklcbgigaaUi
import Derived.Test.YtokcdoklcbgigaaVd
namespace Go.Proofs.Ytokcdoklcbgigaa.Ev
open Go Go.RowKit
set_option linter.all false
set_option maxRecDepth 100000
open Go Go.RowKit Go.Proofs.Ytokcdoklcbgigaa.Ms
variable {ns:List Nat} {row:List SV}
section
variable {α:Type}
def Gs (lo:Nat) (h:Hp) (ty sz:Nat) (E:List SV->α->List Nat->Prop) (x:SV) (l:List α):Prop :=
 ∃ ns,Sl h ty sz false E x l ns/\ns.Nodup/\∀ n∈ns,lo<=n/\n<h.next
variable {lo ty sz:Nat} {E:List SV->α->List Nat->Prop} {h h':Hp} {x:SV} {l:List α}
theorem Gs.nil:Gs lo h ty sz E .nilSlice []:=⟨[],.nil,.nil,by simp⟩
theorem Gs.len (k:Gs lo h ty sz E x l):jwr (.s x)=some (vi l.length):=by
 obtain ⟨ns,k,_⟩:=k
 exact k.len
theorem jx2:∀ {L:List (List SV)},(∀ r∈L,r.length=sz)->j01 sz L=some L.flatten
 | [],_=>rfl
 | a::L,hr=>by
  have e:j01 sz L=some L.flatten:=jx2 (fun r h=>hr r (f1d _ h))
  have ha:=hr a (by simp)
  show oif (Nat.beq (jcx a) sz) (ob (j01 sz L) (fun r=>some (jgq a r))) none=_
  rw [e,show Nat.beq (jcx a) sz=true by rw [jbj,ha];exact f11 sz]
  show some (jgq a L.flatten)=_
  rw [jc1];rfl
theorem Gs.app1 {bytes:Nat} {h1:Hp} {a:α} {ms:List Nat} {E1:List SV->α->List Nat->Prop} {E2:Hp->List SV->α->List Nat->Prop} (k:Gs lo h ty sz E x l) (hk:∀ row a m,(∀ n∈m,n<h.next)->E row a m->E1 row a m) (ok:Ok h1) (hn:h.next<=h1.next) (g:∀ n,n<h.next->h1.get n=h.get n) (hlo:lo<=h.next) (hl1:1<=lo)
 (hE:E1 row a ms) (hms:ms.Nodup) (hm:∀ n∈ms,h.next<=n/\n<h1.next) (hr:row.length=sz) (h1b:(l.length+1)*bytes<=1000000000) (h2b:l.length+1<=1000000000)
 (hE2:∀ h2,(∀ n∈ms,h2.get n=h1.get n)->∀ row a m,E1 row a m->(∀ n∈m,h2.get n=h1.get n)->E2 h2 row a m) :
 ∃ x' h2,jmp (h1.push (.arr row ty)) ty sz bytes (.s x) (.s (.slice h1.next 0 1 1 true sz))=some (.s x',h2)/\Ok h2/\h1.next<=h2.next/\(∀ n,n<lo->h2.get n=h.get n)/\Gs lo h2 ty sz (E2 h2) x' (l++[a]):=by
 obtain ⟨ns,s,nd,lt⟩:=k
 have s1:Sl h1 ty sz false E1 x l ns:=s.imp (fun n hn=>g n (lt n hn).2) (fun row a m hmm e=>hk row a m (fun n hn=>(lt n (hmm n hn)).2) e)
 obtain ⟨h2,e2,ok2,n2,kp2,kt2,sl2⟩:=s1.app1 (bytes:=bytes) ok (fun n hn'=>by have:=lt n hn';omega) hr hE h1b h2b
 have kms:∀ n∈ms,h2.get n=h1.get n:=fun n hn'=>kp2 n (hm n hn').2 (fun hc=>by have:=lt n hc;have:=hm n hn';omega)
 refine ⟨_,h2,e2,ok2,by omega,fun n hn'=>(kp2 n (by omega) (fun hc=>by have:=lt n hc;omega)).trans (g n (by omega)),_,sl2 (fun row a m hmm e=>hE2 h2 kms row a m e (fun n hn'=>?_)),?_,?_⟩
 ·rcases hmm n hn' with hc | hc
  ·exact kt2 n hc nd
  ·exact kms n hc
 ·refine jcg nd hms (fun n hn' hc=>?_) (fun hc=>?_) (fun hc=>?_)
  ·have:=lt n hc;have:=hm n hn';omega
  ·have:=lt _ hc;omega
  ·have:=hm _ hc;omega
 ·intro n hn'
  rcases f0h.1 hn' with rfl | hn'
  ·omega
  ·rcases f0g.1 hn' with hc | hc
   ·have:=lt n (f0r hc);omega
   ·have:=hm n hc;omega
end
def OX (h:Hp) (row:List SV) (x:Ms.Ins) (ns:List Nat):Prop:=∃ a b n1 n2 ex,row=[si x.op,a,b]/\Sl h tt.opd 5 ex EO a x.ops n1/\Sl h tt.reg 2 false ER b x.spoils n2/\ns=n1++n2
def OE (h:Hp) (row:List SV) (e:Ms.Edg) (ns:List Nat):Prop:=∃ a,row=[si e.block,a]/\Sl h tt.int 1 false EI a e.args ns
def OB (h:Hp) (row:List SV) (b:Blk) (ns:List Nat):Prop:=∃ p i e n1 n2 n3 ex,row=[p,i,e]/\Sl h tt.int 1 false EI p b.params n1/\Sl h tt.ins 3 false (OX h) i b.instrs n2/\Sl h tt.edg 2 ex (OE h) e b.edges n3/\ns=n1++(n2++n3)
section
variable {h h':Hp}
theorem OE.keep {x:Ms.Edg} (k:OE h row x ns) (hk:∀ n∈ns,h'.get n=h.get n):OE h' row x ns:=by
 obtain ⟨a,e,h1⟩:=k
 exact ⟨a,e,h1.keep hk⟩
theorem OX.keep {x:Ms.Ins} (k:OX h row x ns) (hk:∀ n∈ns,h'.get n=h.get n):OX h' row x ns:=by
 obtain ⟨a,b,n1,n2,ex,e,h1,h2,rfl⟩:=k
 exact ⟨a,b,n1,n2,ex,e,h1.keep (fun n hn=>hk n (by simp [hn])),h2.keep (fun n hn=>hk n (by simp [hn])),rfl⟩
theorem OB.keep {x:Blk} (k:OB h row x ns) (hk:∀ n∈ns,h'.get n=h.get n):OB h' row x ns:=by
 obtain ⟨p,i,e,n1,n2,n3,ex,e1,h1,h2,h3,rfl⟩:=k
 exact ⟨p,i,e,n1,n2,n3,ex,e1,h1.keep (fun n hn=>hk n (by simp [hn])),h2.imp (fun n hn=>hk n (by simp [hn])) (fun row a ms hm k=>k.keep (fun n hn=>hk n (by simp [hm n hn]))),h3.imp (fun n hn=>hk n (by simp [hn])) (fun row a ms hm k=>k.keep (fun n hn=>hk n (by simp [hm n hn]))),rfl⟩
variable {d:Nat} {k:Bool}
structure OF (h:Hp) (x:AV) (f:Fc) (na nb:List Nat):Prop where
 ex:∃ a b,x=.agg [a,b]/\Sl h tt.int 1 false EI a f.values na/\Sl h tt.blk 3 false (OB h) b f.blocks nb
 nd:(na++nb).Nodup
 lt:∀ n∈na++nb,1<=n/\n<h.next
theorem OF.keep {x:AV} {f:Fc} {na nb:List Nat} (o:OF h x f na nb) (hk:∀ n∈na++nb,h'.get n=h.get n) (hn:h.next<=h'.next):OF h' x f na nb:=by
 obtain ⟨⟨a,b,rfl,h1,h2⟩,nd,lt⟩:=o
 exact ⟨⟨a,b,rfl,h1.keep (fun n hn=>hk n (by simp [hn])),h2.imp (fun n hn=>hk n (by simp [hn])) (fun row a ms hm k=>k.keep (fun n hn=>hk n (by simp [hm n hn])))⟩,nd,fun n hm=>by have:=lt n hm;omega⟩
end
set_option maxHeartbeats 2000000
theorem qrh {h:Hp} (ok:Ok h) {b:Nat} (hb:1<=b) (x:Option AB):∃ hA,h.put b x=hA/\Ok hA/\hA.next=h.next/\hA.get b=x/\∀ n,n≠b->hA.get n=h.get n :=
 ⟨_,rfl,jad ok,Hp.next_put ..,by rw [jal ok hb,if_pos rfl],fun n hn=>by rw [jal ok hb,if_neg hn]⟩
section
variable {F:Fns}
structure Szs (f:Fc):Prop where
 v:f.values.length<=100000
 b:f.blocks.length<=10000
 bs:∀ b∈f.blocks,b.params.length<=10000/\b.instrs.length<=10000/\b.edges.length<=10000/\(∀ x∈b.instrs,x.ops.length<=10000/\x.spoils.length<=10000)/\∀ x∈b.edges,x.args.length<=10000
end
section
variable {F:Fns}
end
end Go.Proofs.Ytokcdoklcbgigaa.Ev
namespace Go.Proofs.Ytokcdoklcbgigaa.Ms
set_option linter.all false
variable {w:Ms} {m:Nat×Nat}
def LD (x:Ins):Prop:=∃ r o,x.ops=r++[o]/\o.kind=2
def AL (l:List Blk):Prop:=∀ b∈l,∀ x∈b.instrs,LD x
theorem jx3 (p:Pc) (flags uses i:Nat) (x:Iw×Nat×Ms):∃ o:Opd,(je8 p flags uses i x).1.ops=x.1.ops++[o]/\o.kind=2/\(je8 p flags uses i x).2.2.blocks=x.2.2.blocks:=by
 unfold je8
 simp only
 split
 ·exact ⟨_,rfl,rfl,rfl⟩
 ·exact ⟨_,rfl,rfl,rfl⟩
theorem jse (p:Pc) (flags uses:Nat):∀ (k i:Nat) (x:Iw×Nat×Ms),(∃ (r:List Opd) (o:Opd),(jd3 p flags uses (k+1) i x).1.ops=r++[o]/\o.kind=2)/\(jd3 p flags uses (k+1) i x).2.2.blocks=x.2.2.blocks
 | 0,i,x=>by
  obtain ⟨o,h1,h2,h3⟩:=jx3 p flags uses i x
  exact ⟨⟨_,o,h1,h2⟩,h3⟩
 | k+1,i,x=>by
  obtain ⟨o,h1,h2,h3⟩:=jx3 p flags uses i x
  have:=jse p flags uses k (i+1) (je8 p flags uses i x)
  exact ⟨this.1,this.2.trans h3⟩
theorem jma (w:Ms) (p:Pc):LD (ja2 w p).1/\(ja2 w p).2.blocks=w.blocks:=by
 unfold ja2
 simp only
 rw [Nat.add_comm 1]
 obtain ⟨⟨r,o,h1,h2⟩,h3⟩:=jse p (pk p.flags (2 ^ 30)) (jeq w p (pk p.flags (2 ^ 30)) (if w.known=[] then 0 else pk p.flags (2 ^ 30) % 4) 0 ⟨[],pk p.limits (2 ^ 40),(0,0),(0,0)⟩).ops.length (pk p.flags (2 ^ 30) / 2 ^ 8 % 2) 0 (jeq w p (pk p.flags (2 ^ 30)) (if w.known=[] then 0 else pk p.flags (2 ^ 30) % 4) 0 ⟨[],pk p.limits (2 ^ 40),(0,0),(0,0)⟩,(jeq w p (pk p.flags (2 ^ 30)) (if w.known=[] then 0 else pk p.flags (2 ^ 30) % 4) 0 ⟨[],pk p.limits (2 ^ 40),(0,0),(0,0)⟩).ops.length,w)
 exact ⟨⟨r,o,h1,h2⟩,h3⟩
theorem AL.modify {l:List Blk} (h:AL l) {k:Nat} {f:Blk->Blk} (hf:∀ b,(∀ x∈b.instrs,LD x)->∀ x∈(f b).instrs,LD x):AL (l.modify k f):=by
 intro b hb
 rcases jbq hb with hb | ⟨c,hc,_,rfl⟩
 ·exact h b hb
 ·exact hf c (h c hc)
theorem AL.lay (h:AL w.blocks) (p:Pc):AL (jcf w p).blocks:=by
 obtain ⟨h1,h2⟩:=jma w p
 unfold jcf
 simp only [h2]
 exact h.modify (fun b hb x hx=>by
  rcases f0g.1 hx with hx | hx
  ·exact hb x hx
  ·rw [f0w.1 hx];exact h1)
theorem AL.block (h:AL w.blocks) (cs:List Nat):AL (jak w cs).blocks:=fun b hb x hx=>by
 rcases f0g.1 hb with hb | hb
 ·exact h b hb x hx
 ·rw [f0w.1 hb] at hx;simp at hx
theorem AL.edge (h:AL w.blocks) (k to:Nat) (a:List Nat):AL (jaz w k to a).blocks:=h.modify (fun b hb=>hb)
theorem AL.newest (h:AL w.blocks) (c:Nat) (p:Pc):AL (jaf w c p).2.blocks:=by
 unfold jaf
 split
 ·exact h
 ·exact h.lay _
theorem AL.loop (h:AL w.blocks) (p:Pc):AL (jfa w p).blocks:=by
 unfold jfa
 simp only
 refine AL.edge ?_ _ _ _
 refine AL.newest ?_ _ _
 refine AL.newest ?_ _ _
 refine AL.lay ?_ _
 refine AL.edge ?_ _ _ _
 refine AL.edge ?_ _ _ _
 refine AL.block ?_ _
 refine AL.block ?_ _
 refine AL.lay ?_ _
 refine AL.edge ?_ _ _ _
 refine AL.block ?_ _
 refine AL.newest ?_ _ _
 exact AL.newest h _ _
theorem FcOk.value {f:Fc} (k:FcOk m f) (h:f.values.length<=159):FcOk m ⟨f.values++[0],f.blocks⟩ :=
 ⟨k.nb,by simp;omega,fun c hc=>by
  rcases f0g.1 hc with hc | hc
  ·exact k.cls c hc
  ·rw [f0w.1 hc];omega,k.blk,k.all,fun b hb x hx=>(k.ins b hb x hx).app [0],k.par,fun b hb e he=>by
  obtain ⟨h1,h2,t,h3,h4,h5⟩:=k.edg b hb e he
  refine ⟨h1,fun v hv=>by have:=h2 v hv;simp;omega,t,h3,?_,fun v hv=>by have:=h5 v hv;simp;omega⟩
  rw [f27 (fun v hv=>jr9 (h5 v hv)),h4]
  exact (f27 (fun v hv=>jr9 (h2 v hv))).symm,k.ent,fun b hb v hv=>by have:=k.prm b hb v hv;simp;omega⟩
theorem FcOk.instrs {f:Fc} (k:FcOk m f) {j:Nat} {g:List Ins->List Ins} (hg:∀ b∈f.blocks,(g b.instrs).length<=40/\(b.instrs≠[]->g b.instrs≠[])/\∀ x∈g b.instrs,InsOk m f.values x) (hs:sm (f.blocks.modify j (fun b=>{ b with instrs:=g b.instrs }))<=160):FcOk m ⟨f.values,f.blocks.modify j (fun b=>{ b with instrs:=g b.instrs })⟩:=by
 refine ⟨by simp only [f1m];exact k.nb,k.nv,k.cls,fun b hb=>?_,hs,fun b hb=>?_,fun b hb=>?_,fun b hb e he=>?_,fun b hb=>?_,fun b hb=>?_⟩
 ·rcases jbq hb with hb | ⟨c,hc,_,rfl⟩
  ·exact k.blk b hb
  ·have:=k.blk c hc;exact ⟨this.1,(hg c hc).1,this.2.2⟩
 ·rcases jbq hb with hb | ⟨c,hc,_,rfl⟩
  ·exact k.ins b hb
  ·exact (hg c hc).2.2
 ·rcases jbq hb with hb | ⟨c,hc,_,rfl⟩
  ·exact k.par b hb
  ·exact fun h=>(hg c hc).2.1 (k.par c hc h)
 ·have:jqa f.values f.blocks e:=by
   rcases jbq hb with hb | ⟨c,hc,_,rfl⟩
   ·exact k.edg b hb e he
   ·exact k.edg c hc e he
  obtain ⟨h1,h2,t,h3,h4,h5⟩:=this
  obtain ⟨t',h6,h7⟩:=jhm (k:=j) (f:=fun b=>{ b with instrs:=g b.instrs }) (fun _=>rfl) h3
  exact ⟨h1,h2,t',h6,by rw [h7];exact h4,by rw [h7];exact h5⟩
 ·obtain ⟨t,ht,e⟩:=jgp (f:=fun b=>{ b with instrs:=g b.instrs }) (fun _=>rfl) hb
  rw [e];exact k.ent t ht
 ·rcases jbq hb with hb | ⟨c,hc,_,rfl⟩
  ·exact k.prm b hb
  ·exact k.prm c hc
end Go.Proofs.Ytokcdoklcbgigaa.Ms
namespace Go.Proofs.Ytokcdoklcbgigaa.Ev
open Go Go.RowKit Go.Proofs.Ytokcdoklcbgigaa.Ms
set_option linter.all false
set_option maxRecDepth 100000
set_option maxHeartbeats 2000000
section
variable {F:Fns} {st fr:List AV} {es:List Ent} {h h2:Hp} {dst:Option Nat} {l:List (IOper×Option (List Nat))} {Q:Ex->St->Prop}
theorem j0s {e:TypeId} {size bytes:Nat} {ox oy:Od} {js:List Nat} {b o n mc sz:Nat} {ex:Bool} {w v:AV} (k:Ok h) (k2:Ok h2) (hx:ev st fr ox=some (.s (.slice b o n mc ex sz))) (hw:ev st fr oy=some w) (hs:sel es js []=some []) (hu:jgt es js b=true) {c:AB} (hb:h.get b=some c) (ha:jmp h e size bytes (.s (.slice b o n mc ex sz)) w=some (v,h2)) :
 WD F ((.mk dst (.a (.app e size bytes ox oy)) none,some js)::l) st es fr h Q=WD F l (v::st) (.mk [(b,Nat.succ b),(h.next,h2.next)] none::es) (jch fr dst v) h2 Q:=by
 rw [jy1 (x:=some (DR.mk v h2 (.mk [(b,Nat.succ b),(h.next,h2.next)] none))) (fun cl=>?_)]
 ·exact jb4
 ·cases h with
  | mk n1 t lo hid =>
  cases h2 with
  | mk n2 t2 lo2 hid2 =>
  obtain rfl:hid=[]:=k.hid
  obtain rfl:lo=0:=k.lo
  obtain rfl:hid2=[]:=k2.hid
  obtain rfl:lo2=0:=k2.lo
  have hc:jbz st fr (.a (.app e size bytes ox oy))=.app b:=by
   show jvq (ob (ev st fr ox) (fun v=>jew v none (fun b _ _ _ _ _=>some b))) Cls.app=_
   rw [hx];rfl
  have hi:iop cl st fr (.mk n1 t 0 []) (.a (.app e size bytes ox oy))=some (v,.mk n2 t2 0 []):=by
   show ob (ev st fr ox) (fun v=>ob (ev st fr oy) (fun w=>jmp (.mk n1 t 0 []) e size bytes v w))=_
   rw [hx,hw];exact ha
  show ob (sel es js []) (fun hid'=>Cls.casesOn (motive:=fun _=>Option DR) (jbz st fr (.a (.app e size bytes ox oy))) _ _ (fun b=>oif (jgt es js b) (oif (Nat.ble 0 b) (ob (Hp.get (.mk n1 t 0 hid') b) (fun _=>jkx cl st fr n1 t 0 0 [] hid' (.a (.app e size bytes ox oy)) (fun n'=>.mk [(b,Nat.succ b),(n1,n')] none))) none) none) _ _)=_
  rw [hs]
  show Cls.casesOn (motive:=fun _=>Option DR) (jbz st fr (.a (.app e size bytes ox oy))) _ _ (fun b=>oif (jgt es js b) (oif (Nat.ble 0 b) (ob (Hp.get (.mk n1 t 0 []) b) (fun _=>jkx cl st fr n1 t 0 0 [] [] (.a (.app e size bytes ox oy)) (fun n'=>.mk [(b,Nat.succ b),(n1,n')] none))) none) none) _ _=_
  rw [hc]
  show oif (jgt es js b) (oif (Nat.ble 0 b) (ob (Hp.get (.mk n1 t 0 []) b) (fun _=>ob (iop cl st fr (.mk n1 t 0 []) (.a (.app e size bytes ox oy))) _)) none) none=_
  rw [hu,hb,hi]
  cases b<;>rfl
end
section
variable {h:Hp} {x:AV} {f:Fc} {na nb:List Nat}
end
section
variable {h:Hp} {a b:SV} {f:Fc} {na nb:List Nat}
theorem OF.at (o:OF h (.agg [a,b]) f na nb) {k:Nat} {B:Ms.Blk} (hk:f.blocks[k]?=some B):∃ bb p i e np ni ne ex M1 M2 cells,jye 3 (.s b) (vi (k:Int))=some (.s (.ptr bb (k*3)))/\h.get bb=some (.arr cells 36)/\rdB (h.get bb) (k*3) 3=some [p,i,e] /\
 Sl h 3 1 false EI p B.params np/\Sl h 57 3 false (OX h) i B.instrs ni/\Sl h 53 2 ex (OE h) e B.edges ne/\nb=bb::(M1++((np++(ni++ne))++M2)) /\
 (∀ {j:Nat} {v:SV},j<3->∃ cells',jbr (k*3+j) [v] cells=some cells'/\∀ {N:Nat} {h':Hp} {B':Ms.Blk} {ms':List Nat},(∀ n∈na++nb,n<N)->h'.get bb=some (.arr cells' 36)->OB h' ([p,i,e].set j v) B' ms'->(∀ n∈na++(M1++M2),h'.get n=h.get n)->h.next<=h'.next->ms'.Nodup->(∀ n∈ms',(n∈np++(ni++ne)∨N<=n)/\n<h'.next) ->
  OF h' (.agg [a,b]) ⟨f.values,f.blocks.set k B'⟩ na (bb::(M1++(ms'++M2)))):=by
 obtain ⟨⟨a',b',e0,s1,s2⟩,nd,lt⟩:=o
 cases e0
 obtain ⟨bb,row,ms,M1,M2,cells,e1,e2,e3,e4,⟨p,i,e,np,ni,ne,ex,rfl,h1,h2,h3,rfl⟩,rfl,up⟩:=s2.upd hk
 refine ⟨bb,p,i,e,np,ni,ne,ex,M1,M2,cells,e1,e2,e3,h1,h2,h3,rfl,fun {j v} hj=>?_⟩
 obtain ⟨cells',e5,e6⟩:=up (j:=j) (v:=v) hj
 refine ⟨cells',e5,fun {N h' B' ms'} g0 g1 g2 g3 g4 g5 g6=>⟨⟨a,b,rfl,s1.keep (fun n hn=>g3 n (by simp [hn])),e6 g1 g2 (fun row a m hm e=>e.keep (fun n hn=>g3 n (by have:=hm n hn;simp only [f0g] at this ⊢;exact .inr this)))⟩,?_,fun n hn=>?_⟩⟩
 ·have nd':((na++(bb::M1))++((np++(ni++ne))++M2)).Nodup:=by simpa [f03] using nd
  have:=jfi (N:=N) nd' (fun n hn=>g0 n (by simpa [f03] using hn)) g5 (fun n hn=>(g6 n hn).1)
  simpa [f03] using this
 ·by_cases hm:n∈ms'
  ·have:=g6 n hm
   have hp:=lt bb (by simp)
   have hp2:=g0 bb (by simp)
   rcases this.1 with h4 | h4
   ·have:=lt n (by simp only [f0g,f0h] at h4 ⊢;exact .inr (.inr (.inr (.inl h4))))
    omega
   ·omega
  ·have:=lt n (by
    simp only [f0g,f0h] at hn ⊢
    rcases hn with h | h | h | h | h
    ·exact .inl h
    ·exact .inr (.inl h)
    ·exact .inr (.inr (.inl h))
    ·exact absurd h hm
    ·exact .inr (.inr (.inr (.inr h))))
   omega
theorem OF.value (o:OF h (.agg [a,b]) f na nb) (ok:Ok h) (hl:f.values.length<=1000):∃ a' h2 na',jmp (h.push (.arr [.int .i64 0] 3)) 3 1 8 (.s a) (.s (.slice h.next 0 1 1 true 1))=some (.s a',h2)/\Ok h2/\h.next<=h2.next/\(∀ n,n<h.next->n∉na->h2.get n=h.get n)/\OF h2 (.agg [a',b]) ⟨f.values++[0],f.blocks⟩ na' nb/\∀ n∈na',n∈na∨h.next<=n:=by
 obtain ⟨⟨a',b',e0,s1,s2⟩,nd,lt⟩:=o
 cases e0
 obtain ⟨d1,d2,d3⟩:=f00.1 nd
 have s1':Sl h 3 1 false EI a f.values na:=s1
 obtain ⟨h2,e2,ok2,n2,kp2,kt2,sl2⟩:=s1'.app1 (bytes:=8) (row:=[si 0]) (a:=0) (ms:=[]) ok (fun n hn=>lt n (by simp [hn])) rfl ⟨rfl,rfl⟩ (by omega) (by omega)
 have kb:∀ n∈nb,h2.get n=h.get n:=fun n hn=>kp2 n (lt n (by simp [hn])).2 (fun hc=>d3 n hc n hn rfl)
 refine ⟨_,h2,_,e2,ok2,by omega,kp2,⟨⟨_,b,rfl,sl2 (fun _ _ _ _ e=>e),s2.imp kb (fun row a m hm e=>e.keep (fun n hn=>kb n (hm n hn)))⟩,?_,fun n hn=>?_⟩,fun n hn=>?_⟩
 ·have hf:h.next+1∉na:=fun hn=>by have:=lt _ (f1i _ hn);omega
  refine f00.2 ⟨jcg d1 .nil (by simp) hf (by simp),d2,fun u hu v hv e=>?_⟩
  rcases f0h.1 hu with rfl | hu
  ·have:=lt v (by simp [hv]);omega
  ·exact d3 u (f0r (by simpa using hu)) v hv e
 ·rcases f0g.1 hn with hn | hn
  ·rcases f0h.1 hn with rfl | hn
   ·omega
   ·have:=lt n (f1i _ (f0r (by simpa using hn)));omega
  ·have:=lt n (by simp [hn]);omega
 ·rcases f0h.1 hn with rfl | hn
  ·exact .inr (by omega)
  ·exact .inl (f0r (by simpa using hn))
end
end Go.Proofs.Ytokcdoklcbgigaa.Ev
