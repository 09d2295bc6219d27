/- The builders of functions: an instruction. -/
import Derived.Test.YtkplfnkgodnmaaaMa6
namespace Go.Proofs.Ytkplfnkgodnmaaa.Ev
open Go Go.RowKit Go.Proofs.Ytkplfnkgodnmaaa.Ms
set_option linter.all false
set_option maxRecDepth 100000
set_option maxHeartbeats 2000000
variable {n1 n2 n3:List Nat} {w:Ms} {N:Nat}
theorem jl3 {p:Pc} {flags:Nat} (hk:∀ v∈w.known,v<w.values.length):∀ (d i:Nat) (s:Iw),w.known≠[]∨d=0->(∀ o∈s.ops,o.value<w.values.length)->(ji9 w p flags d i s).ops.length=s.ops.length+d/\∀ o∈(ji9 w p flags d i s).ops,o.value<w.values.length
 | 0,i,s,_,h=>⟨rfl,h⟩
 | d+1,i,s,hn,h=>by
  have hn':w.known≠[]:=by
   rcases hn with h | h
   .exact h
   .omega
  have h1:=jl3 (p:=p) (flags:=flags) hk d (i+1) (qdr w p flags i s) (.inl hn') (fun o ho=>by
   unfold qdr at ho
   simp only[f0f,f06] at ho
   rcases ho with ho | rfl
   .exact h o ho
   .have hl:=qhp (n:=Int.tdiv p.a (i+1)) (f21.2 hn')
    rw[f0n,f0b hl]
    exact hk _ (f2r hl))
  refine⟨?_,h1.2⟩
  have:(qdr w p flags i s).ops.length=s.ops.length+1:=by unfold qdr;simp
  show(ji9 w p flags d (i+1) (qdr w p flags i s)).ops.length=_
  omega
section
variable {F:Fns} (B:Base F)
include B
end
theorem jfi {α:Type} {f:α->α}:∀ {l:List α} {i:Nat} {a:α},l[i]?=some a->l.modify i f=l.set i (f a)
 | [],i,a,h=>by simp at h
 | b::l,0,a,h=>by simp at h;subst h;rfl
 | b::l,i+1,a,h=>by
  have:=jfi (f:=f) (l:=l) (i:=i) (a:=a) (by simpa using h)
  simp[this]
theorem qdu {α:Type} {R S:List α} {a a':α} {i:Nat} (h:R.length=i):(R++a::S).set i a'=R++a'::S:=by
 subst h;simp
theorem js6 {sz:Nat} {A B:List (List SV)} {row:List SV} {i j:Nat} {v:SV} (hA:A.flatten.length=i*sz) (hj:j<row.length):jat (i*sz+j) [v] (A++row::B).flatten=some (A++(row.set j v)::B).flatten:=by
 refine(jb7 _).2 ⟨?_,?_⟩
 .simp only[f2l,f0u,f0g,f1x,hA];omega
 .have e1:(A++row::B).flatten=A.flatten++(row.take j++(row.drop j++B.flatten)):=by
   rw[f2l,f0u,←f0l (row.take j),List.take_append_drop]
  have e2:(A++(row.set j v)::B).flatten=A.flatten++(row.take j++(v::(row.drop (j+1)++B.flatten))):=by
   rw[f2l,f0u,List.set_eq_take_append_cons_drop,if_pos hj]
   simp
  have lt:(row.take j).length=j:=by simp;omega
  rw[e1,e2]
  have t1:(A.flatten++(row.take j++(row.drop j++B.flatten))).take (i*sz+j)=A.flatten++row.take j:=by
   rw[←f0l,f1g (by rw[f0g,hA,lt];exact f0d _),f2n (by rw[f0g,hA,lt];exact f0d _)]
  have t2:(A.flatten++(row.take j++(row.drop j++B.flatten))).drop (i*sz+j+1)=row.drop (j+1)++B.flatten:=by
   rw[←f0l,←f0l,f0l (A.flatten++row.take j),List.drop_append]
   have l1:(A.flatten++row.take j).length=i*sz+j:=by rw[f0g,hA,lt]
   rw[l1,f1t (by rw[l1];omega),f1l,show i*sz+j+1 - (i*sz+j)=1 by omega,f2c (by simp;omega),List.drop_drop]
  rw[f1x,t1,t2]
  simp
section
variable {α:Type} {sz ty:Nat} {ex:Bool} {E:List SV->α->List Nat->Prop} {h:Hp} {x:SV} {l:List α} {ns:List Nat}
theorem Sl.upd (k:Sl h ty sz ex E x l ns) {i:Nat} {a:α} (hi:l[i]?=some a):∃ b row ms M1 M2 cells,jj3 sz (.s x) (vi (i:Int))=some (.s (.ptr b (i*sz)))/\h.get b=some (.arr cells ty)/\rdB (h.get b) (i*sz) sz=some row/\row.length=sz/\E row a ms/\ns=b::(M1++(ms++M2)) /\
 (∀ {j:Nat} {v:SV},j<sz->∃ cells',jat (i*sz+j) [v] cells=some cells'/\∀ {h':Hp} {E':List SV->α->List Nat->Prop} {a':α} {ms':List Nat},h'.get b=some (.arr cells' ty)->E' (row.set j v) a' ms'->(∀ row a m,(∀ n∈m,n∈M1++M2)->E row a m->E' row a m)->Sl h' ty sz ex E' x (l.set i a') (b::(M1++(ms'++M2)))):=by
 obtain⟨b,row,ms,e1,e2,e3,e4,e5,e6⟩:=k.at hi
 rcases k with⟨rfl,_,_⟩ | ⟨hne,b',rows,nss,rfl,hg,hR,rfl⟩
 .simp at hi
 .have hl:i<l.length:=by
   rcases f0j i l.length with h | h
   .exact h
   .rw [f0t h] at hi;cases hi
  have hb:b=b':=by
   have:=jcc (size:=sz) (b:=b') (off:=0) (len:=l.length) (mc:=l.length) (sz:=sz) (ex:=ex) hl
   rw[this] at e1
   simp only[Option.some.injEq,AV.s.injEq,SV.ptr.injEq] at e1
   exact e1.1.symm
  subst hb
  obtain⟨A,row',B,R,S,ms',M1,M2,rfl,rfl,f3,f4,rfl,f6,f7,f8,f9⟩:=hR.at hi
  have hA:A.flatten.length=i*sz:=by rw[f8.len.2,f4]
  have hrow:row'=row:=by
   rw[hg,jdm,jaz] at e2
   obtain⟨_,h2⟩:=(jam _).1 e2
   rw[h2,f2l,f0u,f2c (f2j hA.symm),f1t (f2j hA),f1l,f1g (by omega),←f6,f22]
  subst hrow
  refine⟨b,row',ms',M1,M2,(A++row'::B).flatten,e1,hg,e2,f6,f7,rfl,fun {j v} hj=>⟨_,js6 hA (by omega),fun {h' E' a' ms''} hg' hE' hkeep=>?_⟩⟩
  refine .inr ⟨by simp,b,A++(row'.set j v)::B,M1++(ms''++M2),by simp,hg',?_,rfl⟩
  rw[qdu f4]
  exact(f8.imp (fun row a m hm=>hkeep row a m (fun n hn=>f2g _ (hm n hn)))).app (.cons (by simp[f6]) hE' (f9.imp (fun row a m hm=>hkeep row a m (fun n hn=>f19 _ (hm n hn)))))
end
def MRk (h:Hp) (p:Nat) (w:Ms) (n1 n2 n3:List Nat):Prop:=∃ a b k,h.get p=some (.arr [si w.m.1,si w.m.2,a,b,si w.cur,k,si w.all] tt.mas)/\Sl h tt.int 1 false EI a w.values n1/\Sl h tt.blk 3 false (EB tt h) b w.blocks n2/\Sl h tt.int 1 false EI k w.known n3/\(p::(n1++(n2++n3))).Nodup/\∀ n∈p::(n1++(n2++n3)),1<=n/\n<h.next
theorem MRk.mr {h:Hp} {p:Nat} (k:MRk h p w n1 n2 n3):MR tt h p w (p::(n1++(n2++n3))):=by
 obtain⟨a,b,c,h1,h2,h3,h4,h5,h6⟩:=k
 exact⟨⟨a,b,c,n1,n2,n3,h1,h2,h3,h4,rfl⟩,h5,h6⟩
theorem MRk.keep {h h':Hp} {p:Nat} (k:MRk h p w n1 n2 n3) (hk:∀ n∈p::(n1++(n2++n3)),h'.get n=h.get n) (hn:h.next<=h'.next):MRk h' p w n1 n2 n3:=by
 obtain⟨a,b,c,h1,h2,h3,h4,h5,h6⟩:=k
 exact⟨a,b,c,(hk p (by simp)).trans h1,h2.keep (fun n hn=>hk n (by simp[hn])),h3.imp (fun n hn=>hk n (by simp[hn])) (fun row a ms hm k=>k.keep (fun n hn=>hk n (by simp[hm n hn]))),h4.keep (fun n hn=>hk n (by simp[hn])),h5,fun n hm=>⟨(h6 n hm).1,f0m (h6 n hm).2 hn⟩⟩
theorem MRk.mk_put {h:Hp} {p:Nat} {w':Ms} {a b k:SV} (ok:Ok h) (h1:Sl h tt.int 1 false EI a w'.values n1) (h2:Sl h tt.blk 3 false (EB tt h) b w'.blocks n2) (h3:Sl h tt.int 1 false EI k w'.known n3) (hd:(p::(n1++(n2++n3))).Nodup) (lt:∀ n∈p::(n1++(n2++n3)),1<=n/\n<h.next) :
 MRk (h.put p (some (.arr [si w'.m.1,si w'.m.2,a,b,si w'.cur,k,si w'.all] tt.mas))) p w' n1 n2 n3:=by
 have hp:=(lt p (by simp)).1
 have kp:∀ n∈n1++(n2++n3),(h.put p (some (.arr [si w'.m.1,si w'.m.2,a,b,si w'.cur,k,si w'.all] tt.mas))).get n=h.get n:=fun n hn=>by
  rw[jba ok hp,if_neg (fun(e:n=p)=>(f09.1 hd).1 (e▸hn))]
 refine⟨a,b,k,by rw[jba ok hp,if_pos rfl],h1.keep (fun n hn=>kp n (by simp[hn])),h2.imp (fun n hn=>kp n (by simp[hn])) (fun row a ms hm k=>k.keep (fun n hn=>kp n (by simp[hm n hn]))),h3.keep (fun n hn=>kp n (by simp[hn])),hd,fun n hn=>?_⟩
 rw[Hp.next_put];exact lt n hn
section
variable {F:Fns} (B:Base F)
include B
end
theorem j1e {p:Pc} {flags uses:Nat}:∀ (d i:Nat) (x:Iw×Nat×Ms),∃ cs:List Nat,cs.length=d/\(∀ c∈cs,c<2)/\(jja p flags uses d i x).2.2={ x.2.2 with values:=x.2.2.values++cs }
 | 0,i,x=>⟨[],rfl,fun c hc=>by simp at hc,by simp[jja]⟩
 | d+1,i,x=>by
  have e:(jpt p flags uses i x).2.2={ x.2.2 with values:=x.2.2.values++[jgg p i] }:=by unfold jpt;simp only;split<;>rfl
  obtain⟨cs,h1,h2,h3⟩:=j1e (p:=p) (flags:=flags) (uses:=uses) d (i+1) (jpt p flags uses i x)
  refine⟨jgg p i::cs,by simp[h1],fun c hc=>?_,?_⟩
  .rcases f0h.1 hc with rfl | hc
   .exact qdt
   .exact h2 c hc
  .show (jja p flags uses d (i+1) (jpt p flags uses i x)).2.2=_
   rw[h3,e];simp
theorem j7t (w:Ms) (p:Pc):∃ cs:List Nat,cs.length<=2/\(∀ c∈cs,c<2)/\(jcz w p).2={ w with values:=w.values++cs }:=by
 unfold jcz
 simp only
 obtain⟨cs,h1,h2,h3⟩:=j1e (p:=p) (flags:=pk p.flags (2 ^ 30)) (uses:=(ji9 w p (pk p.flags (2 ^ 30)) (if w.known=[] then 0 else pk p.flags (2 ^ 30) % 4) 0 ⟨[],pk p.limits (2 ^ 40),(0,0),(0,0)⟩).ops.length) (1+pk p.flags (2 ^ 30) / 2 ^ 8 % 2) 0 (ji9 w p (pk p.flags (2 ^ 30)) (if w.known=[] then 0 else pk p.flags (2 ^ 30) % 4) 0 ⟨[],pk p.limits (2 ^ 40),(0,0),(0,0)⟩,(ji9 w p (pk p.flags (2 ^ 30)) (if w.known=[] then 0 else pk p.flags (2 ^ 30) % 4) 0 ⟨[],pk p.limits (2 ^ 40),(0,0),(0,0)⟩).ops.length,w)
 exact⟨cs,by omega,h2,h3⟩
theorem jq6 {p:Pc} {flags uses:Nat}:∀ (d i:Nat) (x:Iw×Nat×Ms),x.2.1<=uses->(jja p flags uses d i x).1.ops.length=x.1.ops.length+d/\((∀ o∈x.1.ops,o.value<x.2.2.values.length)->∀ o∈(jja p flags uses d i x).1.ops,o.value<(jja p flags uses d i x).2.2.values.length)
 | 0,i,x,_=>⟨rfl,id⟩
 | d+1,i,x,h=>by
  obtain⟨f1,f2,f3,f4⟩:=jxq (p:=p) (flags:=flags) (i:=i) h
  obtain⟨g1,g2⟩:=jq6 (p:=p) (flags:=flags) (uses:=uses) d (i+1) (jpt p flags uses i x) f1
  exact⟨by show(jja p flags uses d (i+1) (jpt p flags uses i x)).1.ops.length=_;omega,fun hx=>g2 (f4 hx)⟩
theorem jxr (wk:Wok w N) (p:Pc):(jcz w p).1.ops.length<=5/\∀ o∈(jcz w p).1.ops,o.value<(jcz w p).2.values.length:=by
 unfold jcz
 simp only
 have hd:(if w.known=[] then 0 else pk p.flags (2 ^ 30) % 4)<=3:=by split<;>omega
 have h1:=jl3 (p:=p) (flags:=pk p.flags (2 ^ 30)) wk.known (if w.known=[] then 0 else pk p.flags (2 ^ 30) % 4) 0 ⟨[],pk p.limits (2 ^ 40),(0,0),(0,0)⟩ (by
  by_cases h0:w.known=[]
  .right;rw[if_pos h0]
  .exact .inl h0) (fun o ho=>by simp at ho)
 generalize ji9 w p (pk p.flags (2 ^ 30)) (if w.known=[] then 0 else pk p.flags (2 ^ 30) % 4) 0 ⟨[],pk p.limits (2 ^ 40),(0,0),(0,0)⟩=s at *
 obtain⟨g1,g2⟩:=jq6 (p:=p) (flags:=pk p.flags (2 ^ 30)) (uses:=s.ops.length) (1+pk p.flags (2 ^ 30) / 2 ^ 8 % 2) 0 (s,s.ops.length,w) (f0d _)
 refine⟨?_,g2 h1.2⟩
 rw[g1]
 have:=h1.1
 simp only[f1j] at this ⊢
 omega
theorem Wok.instr (wk:Wok w N) (p:Pc):Wok (jcz w p).2 (N+2):=by
 obtain⟨cs,h1,h2,h3⟩:=j7t w p
 rw[h3]
 exact⟨wk.m1,wk.m2,fun x hx=>by
  rcases f0f.1 hx with h | h
  .exact wk.vals x h
  .exact h2 x h,fun v hv=>by have:=wk.known v hv;simp;omega,wk.cur,by have:=wk.nv;simp;omega,f0w wk.nb (by omega),f0w wk.nk (by omega),fun b hb=>by have:=wk.ni b hb;omega,f0w wk.na (by omega)⟩
theorem Wok.lay (wk:Wok w N) (p:Pc):Wok (jka w p) (N+10):=by
 have k:=wk.instr p
 have ho:=jxr wk p
 unfold jka
 have hdl:(jgh (jcz w p).1).length<=5:=by
  unfold jgh
  rw[f05]
  exact f0w (List.length_filter_le _ _) ho.1
 have hdv:∀ v∈jgh (jcz w p).1,v<(jcz w p).2.values.length:=fun v hv=>by
  unfold jgh at hv
  obtain⟨o,h1,rfl⟩:=f2a.1 hv
  exact ho.2 o (List.mem_filter.1 h1).1
 generalize jcz w p=y at *
 refine⟨k.m1,k.m2,k.vals,fun v hv=>?_,?_,by have:=k.nv;simp only;omega,?_,?_,fun b hb=>?_,?_⟩
 .rcases f0f.1 hv with h | h
  .exact k.known v h
  .exact hdv v h
 .show y.2.cur<(jbf y.2.blocks y.2.cur y.1).length
  unfold jbf;rw[f2u];exact k.cur
 .show (jbf y.2.blocks y.2.cur y.1).length<=_
  unfold jbf;rw[f2u];have:=k.nb;omega
 .have:=k.nk;simp only[f0g];omega
 .have hc:=f0b k.cur
  have hb':b∈jbf y.2.blocks y.2.cur y.1:=hb
  unfold jbf at hb'
  rw[jfi hc] at hb'
  rcases List.mem_or_eq_of_mem_set hb' with h | rfl
  .have:=k.ni b h;omega
  .have:=k.ni _ (f2r k.cur)
   simp only[f0g,f1x];omega
 .have:=k.na;simp only;omega
theorem js7 {A ns B ns':List Nat} (hd:(A++(ns++B)).Nodup) (h':ns'.Nodup) (hn:∀ n∈ns',n∈ns∨n∉A++(ns++B)):(A++(ns'++B)).Nodup:=by
 rw[f0s,f0s] at hd
 obtain⟨d1,⟨d2,d3,d4⟩,d5⟩:=hd
 rw[f0s,f0s]
 refine⟨d1,⟨h',d3,fun a ha b hb e=>?_⟩,fun a ha b hb e=>?_⟩
 .subst e
  rcases hn a ha with h1 | h1
  .exact d4 a h1 a hb rfl
  .exact h1 (by simp[hb])
 .subst e
  rcases f0f.1 hb with hb | hb
  .rcases hn a hb with h1 | h1
   .exact d5 a ha a (by simp[h1]) rfl
   .exact h1 (by simp[ha])
  .exact d5 a ha a (by simp[hb]) rfl
section
variable {F:Fns} (B:Base F)
include B
end
end Go.Proofs.Ytkplfnkgodnmaaa.Ev
