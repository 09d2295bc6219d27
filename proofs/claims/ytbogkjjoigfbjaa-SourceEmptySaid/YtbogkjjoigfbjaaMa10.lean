/- The builders of functions: an instruction. -/
import Derived.Test.YtbogkjjoigfbjaaMa6
namespace Go.Proofs.Ytbogkjjoigfbjaa.Ev
open Go Go.RowKit Go.Proofs.Ytbogkjjoigfbjaa.Ms
set_option linter.all false
set_option maxRecDepth 100000
set_option maxHeartbeats 2000000
variable {n1 n2 n3:List Nat} {w:Ms} {N:Nat}
theorem jmq {p:Pc} {flags:Nat} (hk:∀ v∈w.known,v<w.values.length):∀ (d i:Nat) (s:Iw),w.known≠[]∨d=0->(∀ o∈s.ops,o.value<w.values.length)->(jf5 w p flags d i s).ops.length=s.ops.length+d/\∀ o∈(jf5 w p flags d i s).ops,o.value<w.values.length
 | 0,i,s,_,h=>⟨rfl,h⟩
 | d+1,i,s,hn,h=>by
  have hn':w.known≠[]:=by
   rcases hn with h | h
   .exact h
   .omega
  have h1:=jmq (p:=p) (flags:=flags) hk d (i+1) (j50 w p flags i s) (.inl hn') (fun o ho=>by
   unfold j50 at ho
   simp only[f0i,f0v] at ho
   rcases ho with ho | rfl
   .exact h o ho
   .have hl:=jwt (n:=Int.tdiv p.a (i+1)) (f1h.2 hn')
    rw[f0c,f0f hl]
    exact hk _ (f1y hl))
  refine⟨?_,h1.2⟩
  have:(j50 w p flags i s).ops.length=s.ops.length+1:=by unfold j50;simp
  show(jf5 w p flags d (i+1) (j50 w p flags i s)).ops.length=_
  omega
section
variable {F:Fns} (B:Base F)
include B
end
theorem jek {α:Type} {f:α->α}:∀ {l:List α} {i:Nat} {a:α},l[i]?=some a->l.modify i f=l.set i (f a)
 | [],i,a,h=>by simp at h
 | b::l,0,a,h=>by simp at h;subst h;rfl
 | b::l,i+1,a,h=>by
  have:=jek (f:=f) (l:=l) (i:=i) (a:=a) (by simpa using h)
  simp[this]
theorem j52 {α:Type} {R S:List α} {a a':α} {i:Nat} (h:R.length=i):(R++a::S).set i a'=R++a'::S:=by
 subst h;simp
theorem jt1 {sz:Nat} {A B:List (List SV)} {row:List SV} {i j:Nat} {v:SV} (hA:A.flatten.length=i*sz) (hj:j<row.length):jbg (i*sz+j) [v] (A++row::B).flatten=some (A++(row.set j v)::B).flatten:=by
 refine(jcj _).2 ⟨?_,?_⟩
 .simp only[f1q,f1k,f0s,f1u,hA];omega
 .have e1:(A++row::B).flatten=A.flatten++(row.take j++(row.drop j++B.flatten)):=by
   rw[f1q,f1k,←f0u (row.take j),List.take_append_drop]
  have e2:(A++(row.set j v)::B).flatten=A.flatten++(row.take j++(v::(row.drop (j+1)++B.flatten))):=by
   rw[f1q,f1k,List.set_eq_take_append_cons_drop,if_pos hj]
   simp
  have lt:(row.take j).length=j:=by simp;omega
  rw[e1,e2]
  have t1:(A.flatten++(row.take j++(row.drop j++B.flatten))).take (i*sz+j)=A.flatten++row.take j:=by
   rw[←f0u,f10 (by rw[f0s,hA,lt];exact f0b _),List.take_of_length_le (by rw[f0s,hA,lt];exact f0b _)]
  have t2:(A.flatten++(row.take j++(row.drop j++B.flatten))).drop (i*sz+j+1)=row.drop (j+1)++B.flatten:=by
   rw[←f0u,←f0u,f0u (A.flatten++row.take j),List.drop_append]
   have l1:(A.flatten++row.take j).length=i*sz+j:=by rw[f0s,hA,lt]
   rw[l1,f13 (by rw[l1];omega),f1m,show i*sz+j+1 - (i*sz+j)=1 by omega,f1z (by simp;omega),List.drop_drop]
  rw[f1u,t1,t2]
  simp
section
variable {α:Type} {sz ty:Nat} {ex:Bool} {E:List SV->α->List Nat->Prop} {h:Hp} {x:SV} {l:List α} {ns:List Nat}
theorem Sl.upd (k:Sl h ty sz ex E x l ns) {i:Nat} {a:α} (hi:l[i]?=some a):∃ b row ms M1 M2 cells,jwo sz (.s x) (vi (i:Int))=some (.s (.ptr b (i*sz)))/\h.get b=some (.arr cells ty)/\rdB (h.get b) (i*sz) sz=some row/\row.length=sz/\E row a ms/\ns=b::(M1++(ms++M2)) /\
 (∀ {j:Nat} {v:SV},j<sz->∃ cells',jbg (i*sz+j) [v] cells=some cells'/\∀ {h':Hp} {E':List SV->α->List Nat->Prop} {a':α} {ms':List Nat},h'.get b=some (.arr cells' ty)->E' (row.set j v) a' ms'->(∀ row a m,(∀ n∈m,n∈M1++M2)->E row a m->E' row a m)->Sl h' ty sz ex E' x (l.set i a') (b::(M1++(ms'++M2)))):=by
 obtain⟨b,row,ms,e1,e2,e3,e4,e5,e6⟩:=k.at hi
 rcases k with⟨rfl,_,_⟩ | ⟨hne,b',rows,nss,rfl,hg,hR,rfl⟩
 .simp at hi
 .have hl:i<l.length:=by
   rcases f0e i l.length with h | h
   .exact h
   .rw [f0m h] at hi;cases hi
  have hb:b=b':=by
   have:=jch (size:=sz) (b:=b') (off:=0) (len:=l.length) (mc:=l.length) (sz:=sz) (ex:=ex) hl
   rw[this] at e1
   simp only[Option.some.injEq,AV.s.injEq,SV.ptr.injEq] at e1
   exact e1.1.symm
  subst hb
  obtain⟨A,row',B,R,S,ms',M1,M2,rfl,rfl,f3,f4,rfl,f6,f7,f8,f9⟩:=hR.at hi
  have hA:A.flatten.length=i*sz:=by rw[f8.len.2,f4]
  have hrow:row'=row:=by
   rw[hg,jds,jbk] at e2
   obtain⟨_,h2⟩:=(jaj _).1 e2
   rw[h2,f1q,f1k,f1z (f11 hA.symm),f13 (f11 hA),f1m,f10 (by omega),←f6,f18]
  subst hrow
  refine⟨b,row',ms',M1,M2,(A++row'::B).flatten,e1,hg,e2,f6,f7,rfl,fun {j v} hj=>⟨_,jt1 hA (by omega),fun {h' E' a' ms''} hg' hE' hkeep=>?_⟩⟩
  refine .inr ⟨by simp,b,A++(row'.set j v)::B,M1++(ms''++M2),by simp,hg',?_,rfl⟩
  rw[j52 f4]
  exact(f8.imp (fun row a m hm=>hkeep row a m (fun n hn=>List.mem_append_left _ (hm n hn)))).app (.cons (by simp[f6]) hE' (f9.imp (fun row a m hm=>hkeep row a m (fun n hn=>List.mem_append_right _ (hm n hn)))))
end
def MRk (h:Hp) (p:Nat) (w:Ms) (n1 n2 n3:List Nat):Prop:=∃ a b k,h.get p=some (.arr [si w.m.1,si w.m.2,a,b,si w.cur,k,si w.all] tt.mas)/\Sl h tt.int 1 false EI a w.values n1/\Sl h tt.blk 3 false (EB tt h) b w.blocks n2/\Sl h tt.int 1 false EI k w.known n3/\(p::(n1++(n2++n3))).Nodup/\∀ n∈p::(n1++(n2++n3)),1<=n/\n<h.next
theorem MRk.mr {h:Hp} {p:Nat} (k:MRk h p w n1 n2 n3):MR tt h p w (p::(n1++(n2++n3))):=by
 obtain⟨a,b,c,h1,h2,h3,h4,h5,h6⟩:=k
 exact⟨⟨a,b,c,n1,n2,n3,h1,h2,h3,h4,rfl⟩,h5,h6⟩
theorem MRk.keep {h h':Hp} {p:Nat} (k:MRk h p w n1 n2 n3) (hk:∀ n∈p::(n1++(n2++n3)),h'.get n=h.get n) (hn:h.next<=h'.next):MRk h' p w n1 n2 n3:=by
 obtain⟨a,b,c,h1,h2,h3,h4,h5,h6⟩:=k
 exact⟨a,b,c,(hk p (by simp)).trans h1,h2.keep (fun n hn=>hk n (by simp[hn])),h3.imp (fun n hn=>hk n (by simp[hn])) (fun row a ms hm k=>k.keep (fun n hn=>hk n (by simp[hm n hn]))),h4.keep (fun n hn=>hk n (by simp[hn])),h5,fun n hm=>⟨(h6 n hm).1,f0j (h6 n hm).2 hn⟩⟩
theorem MRk.mk_put {h:Hp} {p:Nat} {w':Ms} {a b k:SV} (ok:Ok h) (h1:Sl h tt.int 1 false EI a w'.values n1) (h2:Sl h tt.blk 3 false (EB tt h) b w'.blocks n2) (h3:Sl h tt.int 1 false EI k w'.known n3) (hd:(p::(n1++(n2++n3))).Nodup) (lt:∀ n∈p::(n1++(n2++n3)),1<=n/\n<h.next) :
 MRk (h.put p (some (.arr [si w'.m.1,si w'.m.2,a,b,si w'.cur,k,si w'.all] tt.mas))) p w' n1 n2 n3:=by
 have hp:=(lt p (by simp)).1
 have kp:∀ n∈n1++(n2++n3),(h.put p (some (.arr [si w'.m.1,si w'.m.2,a,b,si w'.cur,k,si w'.all] tt.mas))).get n=h.get n:=fun n hn=>by
  rw[jbi ok hp,if_neg (fun(e:n=p)=>(f1s.1 hd).1 (e▸hn))]
 refine⟨a,b,k,by rw[jbi ok hp,if_pos rfl],h1.keep (fun n hn=>kp n (by simp[hn])),h2.imp (fun n hn=>kp n (by simp[hn])) (fun row a ms hm k=>k.keep (fun n hn=>kp n (by simp[hm n hn]))),h3.keep (fun n hn=>kp n (by simp[hn])),hd,fun n hn=>?_⟩
 rw[Hp.next_put];exact lt n hn
section
variable {F:Fns} (B:Base F)
include B
end
theorem jz2 {p:Pc} {flags uses:Nat}:∀ (d i:Nat) (x:Iw×Nat×Ms),∃ cs:List Nat,cs.length=d/\(∀ c∈cs,c<2)/\(jfm p flags uses d i x).2.2={ x.2.2 with values:=x.2.2.values++cs }
 | 0,i,x=>⟨[],rfl,fun c hc=>by simp at hc,by simp[jfm]⟩
 | d+1,i,x=>by
  have e:(jiy p flags uses i x).2.2={ x.2.2 with values:=x.2.2.values++[jfl p i] }:=by unfold jiy;simp only;split<;>rfl
  obtain⟨cs,h1,h2,h3⟩:=jz2 (p:=p) (flags:=flags) (uses:=uses) d (i+1) (jiy p flags uses i x)
  refine⟨jfl p i::cs,by simp[h1],fun c hc=>?_,?_⟩
  .rcases f0o.1 hc with rfl | hc
   .exact j51
   .exact h2 c hc
  .show (jfm p flags uses d (i+1) (jiy p flags uses i x)).2.2=_
   rw[h3,e];simp
theorem jjy (w:Ms) (p:Pc):∃ cs:List Nat,cs.length<=2/\(∀ c∈cs,c<2)/\(jav w p).2={ w with values:=w.values++cs }:=by
 unfold jav
 simp only
 obtain⟨cs,h1,h2,h3⟩:=jz2 (p:=p) (flags:=pk p.flags (2 ^ 30)) (uses:=(jf5 w p (pk p.flags (2 ^ 30)) (if w.known=[] then 0 else pk p.flags (2 ^ 30) % 4) 0 ⟨[],pk p.limits (2 ^ 40),(0,0),(0,0)⟩).ops.length) (1+pk p.flags (2 ^ 30) / 2 ^ 8 % 2) 0 (jf5 w p (pk p.flags (2 ^ 30)) (if w.known=[] then 0 else pk p.flags (2 ^ 30) % 4) 0 ⟨[],pk p.limits (2 ^ 40),(0,0),(0,0)⟩,(jf5 w p (pk p.flags (2 ^ 30)) (if w.known=[] then 0 else pk p.flags (2 ^ 30) % 4) 0 ⟨[],pk p.limits (2 ^ 40),(0,0),(0,0)⟩).ops.length,w)
 exact⟨cs,by omega,h2,h3⟩
theorem jrq {p:Pc} {flags uses:Nat}:∀ (d i:Nat) (x:Iw×Nat×Ms),x.2.1<=uses->(jfm p flags uses d i x).1.ops.length=x.1.ops.length+d/\((∀ o∈x.1.ops,o.value<x.2.2.values.length)->∀ o∈(jfm p flags uses d i x).1.ops,o.value<(jfm p flags uses d i x).2.2.values.length)
 | 0,i,x,_=>⟨rfl,id⟩
 | d+1,i,x,h=>by
  obtain⟨f1,f2,f3,f4⟩:=jwv (p:=p) (flags:=flags) (i:=i) h
  obtain⟨g1,g2⟩:=jrq (p:=p) (flags:=flags) (uses:=uses) d (i+1) (jiy p flags uses i x) f1
  exact⟨by show(jfm p flags uses d (i+1) (jiy p flags uses i x)).1.ops.length=_;omega,fun hx=>g2 (f4 hx)⟩
theorem jww (wk:Wok w N) (p:Pc):(jav w p).1.ops.length<=5/\∀ o∈(jav w p).1.ops,o.value<(jav w p).2.values.length:=by
 unfold jav
 simp only
 have hd:(if w.known=[] then 0 else pk p.flags (2 ^ 30) % 4)<=3:=by split<;>omega
 have h1:=jmq (p:=p) (flags:=pk p.flags (2 ^ 30)) wk.known (if w.known=[] then 0 else pk p.flags (2 ^ 30) % 4) 0 ⟨[],pk p.limits (2 ^ 40),(0,0),(0,0)⟩ (by
  by_cases h0:w.known=[]
  .right;rw[if_pos h0]
  .exact .inl h0) (fun o ho=>by simp at ho)
 generalize jf5 w p (pk p.flags (2 ^ 30)) (if w.known=[] then 0 else pk p.flags (2 ^ 30) % 4) 0 ⟨[],pk p.limits (2 ^ 40),(0,0),(0,0)⟩=s at *
 obtain⟨g1,g2⟩:=jrq (p:=p) (flags:=pk p.flags (2 ^ 30)) (uses:=s.ops.length) (1+pk p.flags (2 ^ 30) / 2 ^ 8 % 2) 0 (s,s.ops.length,w) (f0b _)
 refine⟨?_,g2 h1.2⟩
 rw[g1]
 have:=h1.1
 simp only[f1l] at this ⊢
 omega
theorem Wok.instr (wk:Wok w N) (p:Pc):Wok (jav w p).2 (N+2):=by
 obtain⟨cs,h1,h2,h3⟩:=jjy w p
 rw[h3]
 exact⟨wk.m1,wk.m2,fun x hx=>by
  rcases f0i.1 hx with h | h
  .exact wk.vals x h
  .exact h2 x h,fun v hv=>by have:=wk.known v hv;simp;omega,wk.cur,by have:=wk.nv;simp;omega,f0t wk.nb (by omega),f0t wk.nk (by omega),fun b hb=>by have:=wk.ni b hb;omega,f0t wk.na (by omega)⟩
theorem Wok.lay (wk:Wok w N) (p:Pc):Wok (jcu w p) (N+10):=by
 have k:=wk.instr p
 have ho:=jww wk p
 unfold jcu
 have hdl:(jfn (jav w p).1).length<=5:=by
  unfold jfn
  rw[f1t]
  exact f0t (List.length_filter_le _ _) ho.1
 have hdv:∀ v∈jfn (jav w p).1,v<(jav w p).2.values.length:=fun v hv=>by
  unfold jfn at hv
  obtain⟨o,h1,rfl⟩:=List.mem_map.1 hv
  exact ho.2 o (List.mem_filter.1 h1).1
 generalize jav w p=y at *
 refine⟨k.m1,k.m2,k.vals,fun v hv=>?_,?_,by have:=k.nv;simp only;omega,?_,?_,fun b hb=>?_,?_⟩
 .rcases f0i.1 hv with h | h
  .exact k.known v h
  .exact hdv v h
 .show y.2.cur<(jak y.2.blocks y.2.cur y.1).length
  unfold jak;rw[f0x];exact k.cur
 .show (jak y.2.blocks y.2.cur y.1).length<=_
  unfold jak;rw[f0x];have:=k.nb;omega
 .have:=k.nk;simp only[f0s];omega
 .have hc:=f0f k.cur
  have hb':b∈jak y.2.blocks y.2.cur y.1:=hb
  unfold jak at hb'
  rw[jek hc] at hb'
  rcases List.mem_or_eq_of_mem_set hb' with h | rfl
  .have:=k.ni b h;omega
  .have:=k.ni _ (f1y k.cur)
   simp only[f0s,f1u];omega
 .have:=k.na;simp only;omega
theorem jt2 {A ns B ns':List Nat} (hd:(A++(ns++B)).Nodup) (h':ns'.Nodup) (hn:∀ n∈ns',n∈ns∨n∉A++(ns++B)):(A++(ns'++B)).Nodup:=by
 rw[f0y,f0y] at hd
 obtain⟨d1,⟨d2,d3,d4⟩,d5⟩:=hd
 rw[f0y,f0y]
 refine⟨d1,⟨h',d3,fun a ha b hb e=>?_⟩,fun a ha b hb e=>?_⟩
 .subst e
  rcases hn a ha with h1 | h1
  .exact d4 a h1 a hb rfl
  .exact h1 (by simp[hb])
 .subst e
  rcases f0i.1 hb with hb | hb
  .rcases hn a hb with h1 | h1
   .exact d5 a ha a (by simp[h1]) rfl
   .exact h1 (by simp[ha])
  .exact d5 a ha a (by simp[hb]) rfl
section
variable {F:Fns} (B:Base F)
include B
end
end Go.Proofs.Ytbogkjjoigfbjaa.Ev
