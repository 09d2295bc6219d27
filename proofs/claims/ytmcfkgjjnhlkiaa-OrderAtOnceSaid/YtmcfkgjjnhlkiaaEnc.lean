/- Functions built of pieces: what the builder does, in plain terms. No program in sight. -/
import Derived.Test.YtmcfkgjjnhlkiaaPlain
import Derived.Test.YtmcfkgjjnhlkiaaLz
namespace Go.Proofs.Ytmcfkgjjnhlkiaa.Ms
set_option linter.all false
structure Pc where
 kind:Int
 op:Int
 a:Int
 b:Int
 c:Int
 limits:Int
 flags:Int
structure Opd where
 kind:Nat
 value:Nat
 late:Bool
 limit:Nat
 n:Nat
structure Ins where
 op:Nat
 ops:List Opd
 spoils:List (Nat×Nat)
structure Edg where
 block:Nat
 args:List Nat
structure Blk where
 params:List Nat
 instrs:List Ins
 edges:List Edg
structure Fc where
 values:List Nat
 blocks:List Blk
structure Ms where
 m:Nat×Nat
 values:List Nat
 blocks:List Blk
 cur:Nat
 known:List Nat
 all:Nat
def pk (n:Int) (many:Nat):Nat:=(pick n (many:Int)).toNat
def g2 (p:Nat×Nat) (c:Nat):Nat:=if c=0 then p.1 else p.2
def s2 (p:Nat×Nat) (c x:Nat):Nat×Nat:=if c=0 then (x,p.2) else (p.1,x)
structure Iw where
 ops:List Opd
 limits:Nat
 need:Nat×Nat
 fixed:Nat×Nat
end Go.Proofs.Ytmcfkgjjnhlkiaa.Ms
namespace Go.Proofs.Ytmcfkgjjnhlkiaa.Ev
open Go Go.RowKit Go.Proofs.Ytmcfkgjjnhlkiaa.Ms
set_option linter.all false
variable {rows rows':List (List SV)} {ms:List Nat} {row:List SV} {i:Nat} {a:SV}
section
variable {α:Type}
inductive Rows (sz:Nat) (E:List SV->α->List Nat->Prop):List (List SV)->List α->List Nat->Prop
 | nil:Rows sz E [] [] []
 | cons {row:List SV} {a:α} {ns:List Nat} {rows:List (List SV)} {l:List α} {nss:List Nat}:row.length=sz->E row a ns->Rows sz E rows l nss->Rows sz E (row::rows) (a::l) (ns++nss)
def Sl (h:Hp) (ty sz:Nat) (ex:Bool) (E:List SV->α->List Nat->Prop) (x:SV) (l:List α) (ns:List Nat):Prop :=
 (l=[]/\x=.nilSlice/\ns=[])∨(l≠[]/\∃ b rows nss,x=.slice b 0 l.length l.length ex sz/\h.get b=some (.arr rows.flatten ty)/\Rows sz E rows l nss/\ns=b::nss)
variable {sz ty:Nat} {ex:Bool} {E E':List SV->α->List Nat->Prop} {h h':Hp} {x:SV} {l:List α} {ns:List Nat}
theorem Rows.len (k:Rows sz E rows l ns):rows.length=l.length/\rows.flatten.length=l.length*sz:=by
 induction k with
 | nil=>simp
 | cons h1 _ _ ih=>simp[ih.1,ih.2,h1,f2c,f2q]
theorem Rows.imp (k:Rows sz E rows l ns) (hE:∀ row a ms,(∀ n∈ms,n∈ns)->E row a ms->E' row a ms):Rows sz E' rows l ns:=by
 induction k with
 | nil=>exact .nil
 | cons h1 h2 _ ih=>exact .cons h1 (hE _ _ _ (fun n hn=>List.mem_append_left _ hn) h2) (ih fun row a ms hm=>hE row a ms (fun n hn=>f2e _ (hm n hn)))
theorem Rows.app {l':List α} (k:Rows sz E rows l ns) (k':Rows sz E rows' l' ms):Rows sz E (rows++rows') (l++l') (ns++ms):=by
 induction k with
 | nil=>simpa using k'
 | cons h3 h4 _ ih=>simpa[f1b] using Rows.cons h3 h4 ih
theorem Rows.at (k:Rows sz E rows l ns):∀ {i:Nat} {a:α},l[i]?=some a->∃ A row B R S ms M1 M2,rows=A++row::B/\l=R++a::S/\A.length=i/\R.length=i/\ns=M1++(ms++M2)/\row.length=sz/\E row a ms/\Rows sz E A R M1/\Rows sz E B S M2:=by
 induction k with
 | nil=>intro i a hi;simp at hi
 | @cons row b ms rows l nss h1 h2 h3 ih =>
  intro i a hi
  cases i with
  | zero =>
   simp only[f0y,Option.some.injEq] at hi
   subst hi
   exact⟨[],row,rows,[],l,ms,[],nss,rfl,rfl,rfl,rfl,by simp,h1,h2,.nil,h3⟩
  | succ i =>
   obtain⟨A,row',B,R,S,ms',M1,M2,e1,e2,e3,e4,e5,e6,e7,e8,e9⟩:=ih (by simpa using hi)
   exact⟨row::A,row',B,b::R,S,ms',ms++M1,M2,by rw[e1];rfl,by rw[e2];rfl,by simp[e3],by simp[e4],by rw[e5,f1b],e6,e7,.cons h1 h2 e8,e9⟩
theorem Rows.cells (k:Rows sz E rows l ns) {a:α} (hi:l[i]?=some a):∃ row ms,(rows.flatten.drop (i*sz)).take sz=row/\row.length=sz/\E row a ms/\(∀ n∈ms,n∈ns):=by
 obtain⟨A,row,B,R,S,ms,M1,M2,rfl,rfl,rfl,e4,rfl,e6,e7,e8,e9⟩:=k.at hi
 refine⟨row,ms,?_,e6,e7,fun n hn=>by simp[hn]⟩
 have hA:=e8.len
 have hA2:A.flatten.length=A.length*sz:=by rw[←e4];exact hA.2
 rw[List.flatten_append,List.flatten_cons,f1q (f2l hA2.symm),f1k (f2l hA2)]
 rw[f2p,f04 (by omega),←e6,List.take_length]
theorem Sl.imp (k:Sl h ty sz ex E x l ns) (hk:∀ n∈ns,h'.get n=h.get n) (hE:∀ row a ms,(∀ n∈ms,n∈ns)->E row a ms->E' row a ms):Sl h' ty sz ex E' x l ns:=by
 rcases k with k | ⟨h1,b,rows,nss,rfl,h2,h3,rfl⟩
 .exact .inl k
 .exact .inr ⟨h1,b,rows,nss,rfl,by rw[hk b (by simp)];exact h2,h3.imp (fun row a ms hm=>hE row a ms (fun n hn=>f0p _ (hm n hn))),rfl⟩
theorem Sl.keep (k:Sl h ty sz ex E x l ns) (hk:∀ n∈ns,h'.get n=h.get n):Sl h' ty sz ex E x l ns:=k.imp hk (fun _ _ _ _ h=>h)
theorem Sl.len (k:Sl h ty sz ex E x l ns):jza (.s x)=some (vi l.length):=by
 rcases k with⟨rfl,rfl,_⟩ | ⟨_,b,rows,nss,rfl,_⟩<;>rfl
theorem Sl.nil:Sl h ty sz ex E .nilSlice [] []:=.inl ⟨rfl,rfl,rfl⟩
theorem Sl.at (k:Sl h ty sz ex E x l ns) {a:α} (hi:l[i]?=some a):∃ b row ms,ju2 sz (.s x) (vi (i:Int))=some (.s (.ptr b (i*sz)))/\rdB (h.get b) (i*sz) sz=some row/\row.length=sz/\E row a ms/\(∀ n∈ms,n∈ns)/\b∈ns:=by
 rcases k with⟨rfl,_,_⟩ | ⟨_,b,rows,nss,rfl,h2,h3,rfl⟩
 .simp at hi
 .have hl:i<l.length:=by
   rcases f0d i l.length with h | h
   .exact h
   .rw [f1a h] at hi;cases hi
  obtain⟨row,ms,e1,e2,e3,e4⟩:=h3.cells hi
  refine⟨b,row,ms,(jct hl).trans (by rw[f0l]),?_,e2,e3,fun n hn=>f0p _ (e4 n hn),by simp⟩
  rw[h2,jfx,jcj]
  refine(jap _).2 ⟨?_,e1.symm⟩
  rw[f1p,(h3.len).2]
  have:(i+1)*sz<=l.length*sz:=f15 _ hl
  rw[f2c] at this
  omega
theorem Sl.app {bytes b' o' mc':Nat} {ex':Bool} {l':List α} (k:Sl h ty sz false E x l ns) (ok:Ok h) (hlt:∀ n∈ns,1<=n/\n<h.next) (hr:rdB (h.get b') o' (l'.length*sz)=some rows'.flatten) (k':Rows sz E rows' l' ms) (hl:l'≠[]) (h1:(l.length+l'.length)*bytes<=1000000000) (h2:l.length+l'.length<=1000000000) :
 ∃ h1,j1o h ty sz bytes (.s x) (.s (.slice b' o' l'.length mc' ex' sz))=some (.s (.slice h.next 0 (l.length+l'.length) (l.length+l'.length) false sz),h1)/\Ok h1/\h1.next=h.next+1/\(∀ n,n≠h.next->(∀ b,ns.head?=some b->n≠b)->h1.get n=h.get n) /\
  (∀ {E':List SV->α->List Nat->Prop},(∀ row a m,(∀ n∈m,n∈ns.tail∨n∈ms)->E row a m->E' row a m)->Sl h1 ty sz false E' (.slice h.next 0 (l.length+l'.length) (l.length+l'.length) false sz) (l++l') (h.next::(ns.tail++ms))):=by
 obtain⟨m,hm⟩:∃ m,l'.length=m+1:=⟨l'.length - 1,by cases l' with
  | nil=>exact absurd rfl hl
  | cons a r=>simp⟩
 rcases k with⟨rfl,rfl,rfl⟩ | ⟨hne,b,rows,nss,rfl,hg,hR,rfl⟩
 .refine ⟨h.push (.arr rows'.flatten ty),?_,jc2 ok,rfl,fun n hn _=>by rw[jau ok,if_neg hn],fun hE=>?_⟩
  .rw [jfk,hr,hm]
   show jgs bytes (m+1) (nw h rows'.flatten ty _)=_
   rw[jnw (by simp only[f03,f0l,hm] at h1;exact h1) (by simp only[f03,f0l,hm] at h2;exact h2),jrx ok]
   simp only[f03,f0l]
   rfl
  .refine .inr ⟨by simpa using hl,h.next,rows',ms,by simp,?_,k'.imp (fun row a m hm=>hE row a m (fun n hn=>.inr (hm n hn))),rfl⟩
   rw[jau ok,if_pos rfl]
 .have hb:=hlt b (by simp)
  have hl2:=hR.len
  refine⟨(h.put b none).push (.arr (rows.flatten++rows'.flatten) ty),?_,jc2 (jfj ok),by simp,fun n hn hb'=>?_,fun hE=>?_⟩
  .rw [jea (by omega),hr,hg]
   exact jxt ok hl2.2 h1 h2
  .have e:n≠(h.put b none).next:=by rw[Hp.next_put];exact hn
   rw[jau (jfj ok),if_neg e,jdg ok hb.1,if_neg (hb' b rfl)]
  .refine .inr ⟨by simp[hl],h.next,rows++rows',nss++ms,by simp,?_,?_,rfl⟩
   .rw [jau (jfj ok),if_pos (by rw[Hp.next_put]),List.flatten_append]
   .exact (hR.imp (fun row a m hm=>hE row a m (fun n hn=>.inl (hm n hn)))).app (k'.imp (fun row a m hm=>hE row a m (fun n hn=>.inr (hm n hn))))
end
def jij {α:Type} (enc:α->List SV):List α->SV
 | []=>.nilSlice
 | a::l=>.lst ((a::l).map enc)
def jqo (n:Nat):List SV:=[si n]
def j9u (o:Opd):List SV:=[si o.kind,si o.value,.bool o.late,si o.limit,si o.n]
def j9v (r:Nat×Nat):List SV:=[si r.1,si r.2]
section
variable {α:Type} {enc:α->List SV} {l:List α}
theorem jyp {a:α}:jij enc (a::l)=.lst ((a::l).map enc):=rfl
theorem jyq:jza (.s (jij enc l))=some (vi l.length):=by
 cases l with
 | nil=>rfl
 | cons a l=>rw[jyp,jiw,f05]
theorem jyr {size:Nat} {a:α} (hi:l[i]?=some a) (hs:(enc a).length=size):ju2 size (.s (jij enc l)) (vi (i:Int))=some (.s (.cp (enc a))):=by
 cases l with
 | nil=>simp at hi
 | cons b l=>exact j0d (by rw[f1c,hi];rfl) hs
theorem joz:grd (jij enc l)=true:=by cases l<;>rfl
theorem jo0 {f:SV->Option SV} {x:SV} (h:f a=some x):jl8 f [a]=some [x]:=jaa.2 ⟨x,h,rfl⟩
theorem jys {f:SV->Option SV} {x:SV} {l r:List SV} (h:f a=some x) (h':jl8 f l=some r):jl8 f (a::l)=some (x::r):=jaa.2 ⟨x,h,jaa.2 ⟨r,h',rfl⟩⟩
theorem jfl {sz:Nat}:∀ {L:List (List SV)},(∀ r∈L,r.length=sz)->jl9 sz L.length L.flatten=some L
 | [],_=>rfl
 | a::L,h=>by
  refine jaa.2 ⟨a,(jap _).2 ⟨by rw[List.flatten_cons,f0j,h a (by simp)];omega,?_⟩,jaa.2 ⟨L,?_,rfl⟩⟩
  .rw [List.flatten_cons,f04 (f2l (h a (by simp)).symm),←h a (by simp),List.take_length]
  .rw [jcj,List.flatten_cons,f1q (f2l (h a (by simp)).symm),f1k (f2l (h a (by simp))),f2p]
   exact jfl (fun r hr=>h r (f0p _ hr))
end
def EI (row:List SV) (n:Nat) (ns:List Nat):Prop:=row=[si n]/\ns=[]
def EO (row:List SV) (o:Opd) (ns:List Nat):Prop:=row=j9u o/\ns=[]
def ER (row:List SV) (r:Nat×Nat) (ns:List Nat):Prop:=row=j9v r/\ns=[]
structure Tys7 where
 int:Nat
 opd:Nat
 reg:Nat
 ins:Nat
 edg:Nat
 blk:Nat
 mas:Nat
section
variable (t:Tys7)
def EX (h:Hp) (row:List SV) (x:Ins) (ns:List Nat):Prop:=∃ a b n1 n2,row=[si x.op,a,b]/\Sl h t.opd 5 false EO a x.ops n1/\Sl h t.reg 2 false ER b x.spoils n2/\ns=n1++n2
def EE (h:Hp) (row:List SV) (e:Edg) (ns:List Nat):Prop:=∃ a,row=[si e.block,a]/\Sl h t.int 1 true EI a e.args ns
def EB (h:Hp) (row:List SV) (b:Blk) (ns:List Nat):Prop:=∃ p i e n1 n2 n3,row=[p,i,e]/\Sl h t.int 1 false EI p b.params n1/\Sl h t.ins 3 false (EX t h) i b.instrs n2/\Sl h t.edg 2 false (EE t h) e b.edges n3/\ns=n1++(n2++n3)
structure MR (h:Hp) (p:Nat) (w:Ms) (ns:List Nat):Prop where
 ex:∃ a b k n1 n2 n3,h.get p=some (.arr [si w.m.1,si w.m.2,a,b,si w.cur,k,si w.all] t.mas)/\Sl h t.int 1 false EI a w.values n1/\Sl h t.blk 3 false (EB t h) b w.blocks n2/\Sl h t.int 1 false EI k w.known n3/\ns=p::(n1++(n2++n3))
 nodup:ns.Nodup
 lt:∀ n∈ns,1<=n/\n<h.next
variable {t} {h h':Hp}
theorem EX.keep {x:Ins} {ns:List Nat} (k:EX t h row x ns) (hk:∀ n∈ns,h'.get n=h.get n):EX t h' row x ns:=by
 obtain⟨a,b,n1,n2,e,h1,h2,rfl⟩:=k
 exact⟨a,b,n1,n2,e,h1.keep (fun n hn=>hk n (by simp[hn])),h2.keep (fun n hn=>hk n (by simp[hn])),rfl⟩
theorem EE.keep {x:Edg} {ns:List Nat} (k:EE t h row x ns) (hk:∀ n∈ns,h'.get n=h.get n):EE t h' row x ns:=by
 obtain⟨a,e,h1⟩:=k
 exact⟨a,e,h1.keep hk⟩
theorem EB.keep {x:Blk} {ns:List Nat} (k:EB t h row x ns) (hk:∀ n∈ns,h'.get n=h.get n):EB t h' row x ns:=by
 obtain⟨p,i,e,n1,n2,n3,e1,h1,h2,h3,rfl⟩:=k
 exact⟨p,i,e,n1,n2,n3,e1,h1.keep (fun n hn=>hk n (by simp[hn])),h2.imp (fun n hn=>hk n (by simp[hn])) (fun row a ms hm k=>k.keep (fun n hn=>hk n (by simp[hm n hn]))),h3.imp (fun n hn=>hk n (by simp[hn])) (fun row a ms hm k=>k.keep (fun n hn=>hk n (by simp[hm n hn]))),rfl⟩
theorem MR.keep {p:Nat} {w:Ms} {ns:List Nat} (k:MR t h p w ns) (hk:∀ n∈ns,h'.get n=h.get n) (hn:h.next<=h'.next):MR t h' p w ns:=by
 obtain⟨⟨a,b,c,n1,n2,n3,h1,h2,h3,h4,rfl⟩,h5,h6⟩:=k
 refine⟨⟨a,b,c,n1,n2,n3,by rw[hk p (by simp)];exact h1,h2.keep (fun n hn=>hk n (by simp[hn])),h3.imp (fun n hn=>hk n (by simp[hn])) (fun row a ms hm k=>k.keep (fun n hn=>hk n (by simp[hm n hn]))),h4.keep (fun n hn=>hk n (by simp[hn])),rfl⟩,h5,fun n hm=>⟨(h6 n hm).1,f0k (h6 n hm).2 hn⟩⟩
structure Mv (h h':Hp) (ns ns':List Nat):Prop where
 ok:Ok h'
 nx:h.next<=h'.next
 new:∀ n∈ns',n∈ns∨h.next<=n
 keep:∀ n,n<h.next->n∉ns->h'.get n=h.get n
theorem Mv.trans {h'':Hp} {ns ns' ns'':List Nat} (a:Mv h h' ns ns') (b:Mv h' h'' ns' ns''):Mv h h'' ns ns'' :=
 ⟨b.ok,f07 a.nx b.nx,fun n hn=>by
  rcases b.new n hn with h1 | h1
  .exact a.new n h1
  .exact .inr (f07 a.nx h1),fun n h1 h2=>by
  rw[b.keep n (f0k h1 a.nx) (fun h3=>by
   rcases a.new n h3 with h4 | h4
   .exact h2 h4
   .omega)]
  exact a.keep n h1 h2⟩
end
end Go.Proofs.Ytmcfkgjjnhlkiaa.Ev
