/- What functions may be: each value is made once: the answer. -/
import Derived.Test.YtkplfnkgodnmaaaSi
namespace Go.Proofs.Ytkplfnkgodnmaaa.Ev
open Go Go.RowKit Go.Proofs.Ytkplfnkgodnmaaa.Ms
set_option linter.all false
set_option maxRecDepth 100000
set_option maxHeartbeats 2000000
variable {ms ns:List Nat} {row:List SV}
section
variable {h:Hp} {f:Fc} {m:Nat×Nat} {Q:AV->Hp->Prop}
end
section
variable {h:Hp} {f:Fc} {m:Nat×Nat} {Q:AV->Hp->Prop}
end
section
variable {α:Type}
def Gs (lo:Nat) (h:Hp) (ty sz:Nat) (E:List SV->α->List Nat->Prop) (x:SV) (l:List α):Prop :=
 ∃ ns,Sl h ty sz false E x l ns/\ns.Nodup/\∀ n∈ns,lo<=n/\n<h.next
variable {lo ty sz:Nat} {E:List SV->α->List Nat->Prop} {h h':Hp} {x:SV} {l:List α}
theorem Gs.nil:Gs lo h ty sz E .nilSlice []:=⟨[],.nil,.nil,by simp⟩
theorem Gs.len (k:Gs lo h ty sz E x l):jlz (.s x)=some (vi l.length):=by
 obtain⟨ns,k,_⟩:=k
 exact k.len
theorem jil:∀ {L:List (List SV)},(∀ r∈L,r.length=sz)->jim sz L=some L.flatten
 | [],_=>rfl
 | a::L,hr=>by
  have e:jim sz L=some L.flatten:=jil (fun r h=>hr r (f1b _ h))
  have ha:=hr a (by simp)
  show oif (Nat.beq (ja9 a) sz) (ob (jim sz L) (fun r=>some (jeq a r))) none=_
  rw[e,show Nat.beq (ja9 a) sz=true by rw[jas,ha];exact f1h sz]
  show some (jeq a L.flatten)=_
  rw[jb2];rfl
theorem Gs.app1 {bytes:Nat} {h1:Hp} {a:α} {E1:List SV->α->List Nat->Prop} {E2:Hp->List SV->α->List Nat->Prop} (k:Gs lo h ty sz E x l) (hk:∀ row a m,(∀ n∈m,n<h.next)->E row a m->E1 row a m) (ok:Ok h1) (hn:h.next<=h1.next) (g:∀ n,n<h.next->h1.get n=h.get n) (hlo:lo<=h.next) (hl1:1<=lo)
 (hE:E1 row a ms) (hms:ms.Nodup) (hm:∀ n∈ms,h.next<=n/\n<h1.next) (hr:row.length=sz) (h1b:(l.length+1)*bytes<=1000000000) (h2b:l.length+1<=1000000000)
 (hE2:∀ h2,(∀ n∈ms,h2.get n=h1.get n)->∀ row a m,E1 row a m->(∀ n∈m,h2.get n=h1.get n)->E2 h2 row a m) :
 ∃ x' h2,jjv (h1.push (.arr row ty)) ty sz bytes (.s x) (.s (.slice h1.next 0 1 1 true sz))=some (.s x',h2)/\Ok h2/\h1.next<=h2.next/\(∀ n,n<lo->h2.get n=h.get n)/\Gs lo h2 ty sz (E2 h2) x' (l++[a]):=by
 obtain⟨ns,s,nd,lt⟩:=k
 have s1:Sl h1 ty sz false E1 x l ns:=s.imp (fun n hn=>g n (lt n hn).2) (fun row a m hmm e=>hk row a m (fun n hn=>(lt n (hmm n hn)).2) e)
 obtain⟨h2,e2,ok2,n2,kp2,kt2,sl2⟩:=s1.app1 (bytes:=bytes) ok (fun n hn'=>by have:=lt n hn';omega) hr hE h1b h2b
 have kms:∀ n∈ms,h2.get n=h1.get n:=fun n hn'=>kp2 n (hm n hn').2 (fun hc=>by have:=lt n hc;have:=hm n hn';omega)
 refine⟨_,h2,e2,ok2,by omega,fun n hn'=>(kp2 n (by omega) (fun hc=>by have:=lt n hc;omega)).trans (g n (by omega)),_,sl2 (fun row a m hmm e=>hE2 h2 kms row a m e (fun n hn'=>?_)),?_,?_⟩
 .rcases hmm n hn' with hc | hc
  .exact kt2 n hc nd
  .exact kms n hc
 .refine jl2 nd hms (fun n hn' hc=>?_) (fun hc=>?_) (fun hc=>?_)
  .have:=lt n hc;have:=hm n hn';omega
  .have:=lt _ hc;omega
  .have:=hm _ hc;omega
 .intro n hn'
  rcases f0h.1 hn' with rfl | hn'
  .omega
  .rcases f0f.1 hn' with hc | hc
   .have:=lt n (f0r hc);omega
   .have:=hm n hc;omega
end
def OX (h:Hp) (row:List SV) (x:Ms.Ins) (ns:List Nat):Prop:=∃ a b n1 n2 ex,row=[si x.op,a,b]/\Sl h tt.opd 5 ex EO a x.ops n1/\Sl h tt.reg 2 false ER b x.spoils n2/\ns=n1++n2
def OE (h:Hp) (row:List SV) (e:Ms.Edg) (ns:List Nat):Prop:=∃ a,row=[si e.block,a]/\Sl h tt.int 1 false EI a e.args ns
def OB (h:Hp) (row:List SV) (b:Blk) (ns:List Nat):Prop:=∃ p i e n1 n2 n3 ex,row=[p,i,e]/\Sl h tt.int 1 false EI p b.params n1/\Sl h tt.ins 3 false (OX h) i b.instrs n2/\Sl h tt.edg 2 ex (OE h) e b.edges n3/\ns=n1++(n2++n3)
section
variable {h h':Hp}
theorem OE.keep {x:Ms.Edg} (k:OE h row x ns) (hk:∀ n∈ns,h'.get n=h.get n):OE h' row x ns:=by
 obtain⟨a,e,h1⟩:=k
 exact⟨a,e,h1.keep hk⟩
theorem OX.keep {x:Ms.Ins} (k:OX h row x ns) (hk:∀ n∈ns,h'.get n=h.get n):OX h' row x ns:=by
 obtain⟨a,b,n1,n2,ex,e,h1,h2,rfl⟩:=k
 exact⟨a,b,n1,n2,ex,e,h1.keep (fun n hn=>hk n (by simp[hn])),h2.keep (fun n hn=>hk n (by simp[hn])),rfl⟩
theorem OB.keep {x:Blk} (k:OB h row x ns) (hk:∀ n∈ns,h'.get n=h.get n):OB h' row x ns:=by
 obtain⟨p,i,e,n1,n2,n3,ex,e1,h1,h2,h3,rfl⟩:=k
 exact⟨p,i,e,n1,n2,n3,ex,e1,h1.keep (fun n hn=>hk n (by simp[hn])),h2.imp (fun n hn=>hk n (by simp[hn])) (fun row a ms hm k=>k.keep (fun n hn=>hk n (by simp[hm n hn]))),h3.imp (fun n hn=>hk n (by simp[hn])) (fun row a ms hm k=>k.keep (fun n hn=>hk n (by simp[hm n hn]))),rfl⟩
variable {d:Nat} {k:Bool}
theorem OE.frz {x:Ms.Edg} (e:OE h row x ms):je3 (jc0 k h (d+2)) row=some (jdu x):=by
 obtain⟨a,rfl,h1⟩:=e
 exact ja7 rfl (ja7 (h1.frz (fun _ _ _ e=>EI.frz e) (fun _=>rfl)) rfl)
theorem OX.frz {x:Ms.Ins} (e:OX h row x ms):je3 (jc0 k h (d+2)) row=some (jdh x):=by
 obtain⟨a,b,n1,n2,ex,rfl,h1,h2,rfl⟩:=e
 exact ja7 rfl (ja7 (h1.frz (fun _ _ _ e=>EO.frz e) (fun _=>rfl)) (ja7 (h2.frz (fun _ _ _ e=>ER.frz e) (fun _=>rfl)) rfl))
theorem OB.frz {x:Ms.Blk} (e:OB h row x ms):je3 (jc0 k h (d+3)) row=some (jax x):=by
 obtain⟨p,i,e,n1,n2,n3,ex,rfl,h1,h2,h3,rfl⟩:=e
 exact ja7 (h1.frz (fun _ _ _ e=>EI.frz e) (fun _=>rfl)) (ja7 (h2.frz (fun _ _ _ e=>OX.frz e) (fun _=>rfl)) (ja7 (h3.frz (fun _ _ _ e=>OE.frz e) (fun _=>rfl)) rfl))
structure OF (h:Hp) (x:AV) (f:Fc) (na nb:List Nat):Prop where
 ex:∃ a b,x=.agg [a,b]/\Sl h tt.int 1 false EI a f.values na/\Sl h tt.blk 3 false (OB h) b f.blocks nb
 nd:(na++nb).Nodup
 lt:∀ n∈na++nb,1<=n/\n<h.next
theorem OF.keep {x:AV} {f:Fc} {na nb:List Nat} (o:OF h x f na nb) (hk:∀ n∈na++nb,h'.get n=h.get n) (hn:h.next<=h'.next):OF h' x f na nb:=by
 obtain⟨⟨a,b,rfl,h1,h2⟩,nd,lt⟩:=o
 exact⟨⟨a,b,rfl,h1.keep (fun n hn=>hk n (by simp[hn])),h2.imp (fun n hn=>hk n (by simp[hn])) (fun row a ms hm k=>k.keep (fun n hn=>hk n (by simp[hm n hn])))⟩,nd,fun n hm=>by have:=lt n hm;omega⟩
end
end Go.Proofs.Ytkplfnkgodnmaaa.Ev
