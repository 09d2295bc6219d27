/- Code of functions as the interpreter has it prepared, loads in no order. -/
import Derived.Test.YtkplfnkgodnmaaaWb
import Derived.Test.YtkplfnkgodnmaaaMc4
import Derived.Test.YtkplfnkgodnmaaaFj
import Derived.Test.YtkplfnkgodnmaaaOr
namespace Go.Proofs.Ytkplfnkgodnmaaa.Ev
open Go Go.RowKit
set_option linter.all false
set_option maxRecDepth 100000
def j4p:List (IOper×List Nat):=[(qA (.load 1 false (.g 0)),[]),(qA (.load 1 false (.g 1)),[0]),(qA (.call 17 [qa]),[1]),(qA (.bslice 3 1 [.int .i64 0] 1 [(0,(1,qa))]),[2]),(qA (.app 3 1 8 qd qa),[]),(qA (.store 1 (.g 0) qa),[])]
def jv7:IB:=.flo j4p
theorem qi0:TB 39 true=some (.mk jv7 2 0 []):=by kernel_rfl
def j4q:List (IOper×List Nat):=[(qF 6 0,[]),(qL,[]),(qA (.load 1 false (.g 1)),[0]),(qA (.call 18 [qa]),[1]),(qA (.bslice 3 1 [.int .i64 0] 1 [(0,(1,qa))]),[2]),(qA (.app 3 1 8 qd qa),[]),(qF 6 0,[]),(qA (.store 1 qa qb),[])]
def jv8:IB:=.flo j4q
theorem qi1:TB 20 true=some (.mk jv8 2 0 []):=by kernel_rfl
open Go Go.RowKit Go.Proofs.Ytkplfnkgodnmaaa.Ms
attribute [local go_sem] Int.reduceToNat reduceCtorEq Nat.reduceAdd Nat.reduceMul Nat.reduceEqDiff Int.reduceEq Int.reduceLT Int.reduceLE Int.reduceNeg Int.reduceAdd Int.reduceSub Int.reduceMul Int.reduceNe
attribute [local go_sem ↓] reduceIte
set_option maxHeartbeats 2000000
def j8f:FB1:=⟨39,jv7,2,0,[]⟩
def qi2:FB1:=⟨20,jv8,2,0,[]⟩
theorem qa8 (b o:Nat):eqN (.s (.ptr b o)) (.s (.ptr b o))=true:=by
 show oif (Nat.beq b b) (Nat.beq o o) false=true
 rw[f1h,f1h];rfl
theorem qi3 {F:Fns} {B:FuncId->Bool} {q:FB1} {vs:List AV} {h:Hp} (hl:vs.length=q.nargs) {R:AV->Hp->Prop} (k:WB F B q.ib (.mk (vs++jcf q.nslots) h) (j56 q.res R)):∃ v h',jeb (BX B q F) q.f vs h=some (v,h')/\R v h':=by
 obtain⟨v,h',h1,h2⟩:=j7w hl k
 exact⟨v,h',qk5 h1,h2⟩
structure LsS (lo p bb q2 q3:Nat) (h:Hp) (l:List Nat) (r:Rd):Prop where
 rd:RdS h p bb r
 c3:h.get q3=some (.arr [.ptr p 0] 55)
 c2:∃ x ns,h.get q2=some (.arr [x] 26)/\Sl h 3 1 false EI x l ns/\∀ n∈ns,lo<=n/\n<h.next/\n≠q2/\n≠q3
 ne:q2≠q3/\q2≠p/\q3≠p/\lo<=q2/\lo<=q3/\q2<h.next/\q3<h.next/\bb<lo/\p<lo/\1<=lo
theorem LsS.sm {lo p bb q2 q3:Nat} {h h':Hp} {l:List Nat} {r r':Rd} (k:LsS lo p bb q2 q3 h l r) (k':RdS h' p bb r') (m:Mv h h' [p] [p]):LsS lo p bb q2 q3 h' l r':=by
 obtain⟨x,ns,h1,h2,h3⟩:=k.c2
 obtain⟨a1,a2,a3,a4,a5,a6,a7,a8,a9,a10⟩:=k.ne
 have nx:=m.nx
 exact⟨k',(m.keep q3 a7 (by simpa using a3)).trans k.c3,⟨x,ns,(m.keep q2 a6 (by simpa using a2)).trans h1,h2.keep (fun n hn=>m.keep n (h3 n hn).2.1 (by have:=(h3 n hn).1;simp;omega)),fun n hn=>by have:=h3 n hn;omega⟩,⟨a1,a2,a3,a4,a5,by omega,by omega,a8,a9,a10⟩⟩
theorem qen {F:Fns} (f:RdF0 F) {lo p bb q2 q3:Nat} {h:Hp} {l:List Nat} {r:Rd} (hl:l.length<256) (k:LsS lo p bb q2 q3 h l r) :
 ∃ v h',jeb (BX noB j8f F) 39 [.s (.ptr q2 0),.s (.ptr q3 0)] h=some (v,h')/\LsS lo p bb q2 q3 h' (l++[(smF r).1]) (smF r).2/\(∀ n,n<lo->n≠p->h'.get n=h.get n)/\h.next<=h'.next:=by
 refine qi3 (q:=j8f) (R:=fun _ h'=>LsS lo p bb q2 q3 h' (l++[(smF r).1]) (smF r).2/\(∀ n,n<lo->n≠p->h'.get n=h.get n)/\h.next<=h'.next) rfl ?_
 show WB F noB jv7 (.mk [.s (.ptr q2 0),.s (.ptr q3 0)] h) (j56 [] _)
 unfold jv7 j4p
 obtain⟨x,ns,c1,c2,c3⟩:=k.c2
 obtain⟨a1,a2,a3,a4,a5,a6,a7,a8,a9,a10⟩:=k.ne
 have ok:=k.rd.ok
 have x3:=k.c3
 refine WB.flo ?_
 refine WL.ld (v:=.s x) (h':=h) rfl (by simp only[go_sem,c1]) (by simp) c2.eqN ?_
 refine WL.ld (v:=.s (.ptr p 0)) (h':=h) rfl (by simp only[go_sem,x3]) (fun j hj=>by simp at hj;subst hj;exact⟨_,rfl,.inl rfl⟩) (qa8 _ _) ?_
 refine WL.call (vs:=[.s (.ptr p 0)]) (by simp only[go_sem]) ?_
 refine WC.imp (jc9 f k.rd) ?_
 rintro _ h2 ⟨rfl,k1,m1⟩
 have k2:=k.sm k1 m1
 have ok2:=k1.ok
 obtain⟨b1,b2⟩:=k.rd.by.sm
 have nx:=m1.nx
 have y1:h2.get q2=some (.arr [x] 26):=(m1.keep q2 a6 (by simpa using a2)).trans c1
 have s2:Sl h2 3 1 false EI x l ns:=c2.keep (fun n hn=>m1.keep n (c3 n hn).2.1 (by have:=(c3 n hn).1;simp;omega))
 refine⟨fun j hj=>by simp at hj;subst hj;exact⟨_,rfl,jus,jut (h2:=h2) (by simp only[go_sem,y1]),c2.eqN⟩,?_⟩
 have p2:∀ n,n<h2.next->(h2.push (AB.arr [si (smF r).1] 3)).get n=h2.get n:=fun n hn=>by rw[jaq ok2,if_neg (by omega)]
 refine WL.mem (v:=.s (.slice h2.next 0 1 1 true 1)) (h':=h2.push (AB.arr [si (smF r).1] 3)) rfl rfl (by simp(disch:=first|omega|rfl) only[go_sem]) (fun j hj=>by simp at hj;subst hj;exact⟨_,rfl,jus,jut (h2:=h2.push (AB.arr [si (smF r).1] 3)) (by have:=(p2 q2 (by omega)).trans y1;simp only[go_sem,this]),c2.eqN⟩) ?_
 obtain⟨h4,e4,ok4,n4,kp4,kt4,sl4⟩:=s2.app1 (bytes:=8) (row:=[si (smF r).1]) (a:=(smF r).1) (ms:=[]) ok2 (fun n hn=>by have:=c3 n hn;omega) rfl ⟨rfl,rfl⟩ (by omega) (by omega)
 have sl5:=sl4 (E':=EI) (fun _ _ _ _ h=>h)
 refine WL.mem (v:=.s (.slice (h2.next+1) 0 (l.length+1) (l.length+1) false 1)) (h':=h4) rfl rfl (by simp only[go_sem,e4]) (fun j hj=>by simp at hj) ?_
 have q2n:q2∉ns:=fun hc=>(c3 q2 hc).2.2.1 rfl
 have q3n:q3∉ns:=fun hc=>(c3 q3 hc).2.2.2 rfl
 have b4:h4.get q2=some (.arr [x] 26):=(kp4 q2 (by omega) q2n).trans y1
 refine WL.mem (v:=.undef) (h':=h4.put q2 (some (.arr [.slice (h2.next+1) 0 (l.length+1) (l.length+1) false 1] 26))) rfl rfl (by simp(disch:=first|omega|rfl) only[go_sem,b4]) (fun j hj=>by simp at hj) ?_
 refine WL.nil ?_
 obtain⟨h5,e5,ok5,n5,x5,g5⟩:=jrx ok4 (b:=q2) (by omega) (some (.arr [.slice (h2.next+1) 0 (l.length+1) (l.length+1) false 1] 26))
 rw[e5]
 have pn:∀ n,n<lo->n∉ns:=fun n hn hc=>by have:=(c3 n hc).1;omega
 have low:∀ n,n<lo->h5.get n=h2.get n:=fun n hn=>(g5 n (by omega)).trans (kp4 n (by omega) (pn n hn))
 have tl:∀ n∈ns.tail,n∈ns:=fun n hn=>f0r hn
 have R5:RdS h5 p bb (smF r).2:=by
  obtain⟨z,r1,r2,r3⟩:=k1.ex
  refine⟨ok5,⟨z,(low p a9).trans r1,r2,?_⟩,⟨k1.p1.1,by omega,by omega,k1.p1.2.2.2⟩⟩
  rcases r3 with r3 | ⟨o,mc,ex,cells,ty,r4,r5,r6,r7⟩
  .exact .inl r3
  .exact .inr ⟨o,mc,ex,cells,ty,r4,r5,(low bb a8).trans r6,r7⟩
 have fin:LsS lo p bb q2 q3 h5 (l++[(smF r).1]) (smF r).2/\(∀ n,n<lo->n≠p->h5.get n=h.get n)/\h.next<=h5.next:=by
  refine⟨⟨R5,(g5 q3 (fun e=>a1 e.symm)).trans ((kp4 q3 (by omega) q3n).trans ((m1.keep q3 a7 (by simpa using a3)).trans x3)),⟨_,_,x5,sl5.keep (fun n hn=>g5 n (fun e=>?_)),fun n hn=>?_⟩,⟨a1,a2,a3,a4,a5,by omega,by omega,a8,a9,a10⟩⟩,fun n hn hne=>(low n hn).trans (m1.keep n (by omega) (by simpa using hne)),by omega⟩
  .subst e
   rcases f0h.1 hn with hn | hn
   .omega
   .exact q2n (tl n (by simpa using hn))
  .rcases f0h.1 hn with rfl | hn
   .omega
   .have:=c3 n (tl n (by simpa using hn));omega
 simp(disch:=first|omega|rfl) only[go_sem]
 exact fin
noncomputable def FW (F:Fns):Fns:=BX noB qi2 (BX noB j8f F)
theorem RdF0.up {F:Fns} (f:RdF0 F):RdF0 (FW F):=by
 refine⟨fun g hg vs h=>?_,f.t⟩
 have h1:Nat.beq g j8f.f=false:=by
  cases e:Nat.beq g j8f.f with
  | false=>rfl
  | true=>have:=f0k e;subst this;exact absurd hg (by decide)
 have h2:Nat.beq g qi2.f=false:=by
  cases e:Nat.beq g qi2.f with
  | false=>rfl
  | true=>have:=f0k e;subst this;exact absurd hg (by decide)
 exact(jd5 h2).trans ((jd5 h1).trans (f.x g hg vs h))
theorem qi4 {F G:Fns} {g:FuncId} {vs:List AV} {h:Hp} {R:AV->Hp->Prop} (e:jeb G g vs h=jeb F g vs h) (k:∃ v h',jeb F g vs h=some (v,h')/\R v h'):WC G g vs h R:=by
 obtain⟨v,h',h1,h2⟩:=k
 exact juo (e.trans h1) h2
def LsR (h:Hp) (p bb:Nat) (l:List Nat) (r:Rd):AV->Hp->Prop:=fun v h'=>∃ x ns,v=.s x/\Sl h' 3 1 false EI x l ns/\(∀ n∈ns,h.next<=n/\n<h'.next)/\RdS h' p bb r/\Mv h h' [p] [p]
theorem jtu {F:Fns} (f:RdF0 F) {p bb:Nat} {h:Hp} {r:Rd} (k:RdS h p bb r):WC (FW F) 21 [.s (.ptr p 0)] h (LsR h p bb (jep r).1 (jep r).2):=by
 have fu:=f.up
 refine jan (fu.x _ rfl _ _) ((congrFun fu.t _).trans ql1) rfl ?_
 unfold qaz
 have ok:=k.ok
 have hpos:=ok.pos
 obtain⟨q1,q2,q3,q4⟩:=k.p1
 obtain⟨hA,eA,okA,nA,xA,gA⟩:=jra ok [.ptr p 0] 55
 obtain⟨hB,eB,okB,nB,xB,gB⟩:=jra okA [.nilSlice] 26
 have yA:=(gB _ (by omega)).trans xA
 rw[nA] at xB
 have low:∀ n,n<h.next->hB.get n=h.get n:=fun n hn=>(gB n (by omega)).trans (gA n hn)
 have k0:LsS h.next p bb (h.next+1) h.next hB [] r:=⟨k.keep okB low (by omega),yA,⟨_,[],xB,.nil,by simp⟩,⟨by omega,by omega,by omega,by omega,by omega,by omega,by omega,q3,q2,by omega⟩⟩
 simp(disch:=first|omega|rfl) only[go_sem,eA,nA,eB,yA]
 refine WC.imp (jmf fu (P:=smF) (I:=fun l r h'=>LsS h.next p bb (h.next+1) h.next h' l r/\(∀ n,n<h.next->n≠p->h'.get n=h.get n)/\h.next<=h'.next) (fun l r h' i=>i.1.rd) (fun l r h' hl i _=>?_) (fun l r r' h' h2 i k' m=>⟨i.1.sm k' m,fun n hn hne=>(m.keep n (by have:=i.2.2;omega) (by simpa using hne)).trans (i.2.1 n hn hne),by have:=m.nx;have:=i.2.2;omega⟩) ⟨k0,fun n hn _=>low n hn,by omega⟩) ?_
 .obtain ⟨i1,i2,i3⟩:=i
  obtain⟨v,h2,e1,e2,e3,e4⟩:=qen f hl i1
  exact qi4 (F:=BX noB j8f F) (jd5 rfl) ⟨v,h2,e1,e2,fun n hn hne=>(e3 n hn hne).trans (i2 n hn hne),by omega⟩
 rintro _ hC ⟨k1,lo1,nx1⟩
 have okC:=k1.rd.ok
 obtain⟨x,ns,c1,c2,c3⟩:=k1.c2
 simp(disch:=first|omega|rfl) only[go_sem,c1]
 refine⟨x,ns,rfl,c2,fun n hn=>⟨(c3 n hn).1,(c3 n hn).2.1⟩,k1.rd,⟨okC,nx1,fun n hn=>.inl hn,fun n hn hne=>lo1 n hn (by simpa using hne)⟩⟩
theorem jhj {α:Type} {E:List SV->α->List Nat->Prop} {h:Hp} (ok:Ok h) {bx:Nat} {cells:List SV} {ty j sz ety bytes:Nat} {x:SV} {l:List α} {ns:List Nat} (hb:h.get bx=some (.arr cells ty)) (hb1:1<=bx/\bx<h.next) (hbn:bx∉ns) (s:Sl h ety sz false E x l ns) (hns:∀ n∈ns,1<=n/\n<h.next) (hnd:ns.Nodup)
 {row:List SV} {a:α} {ms:List Nat} (hr:row.length=sz) (hE:E row a ms) (hms:bx∉ms) (hms2:∀ n∈ms,n<h.next) (h1:(l.length+1)*bytes<=1000000000) (h2:l.length+1<=1000000000) :
 ∃ x' hM hN,jjv (h.push (.arr row ety)) ety sz bytes (.s x) (.s (.slice h.next 0 1 1 true sz))=some (.s x',hM)/\Ok hM/\hM.get bx=some (.arr cells ty)/\hM.put bx (some (.arr (cells.set j x') ty))=hN/\Ok hN/\hN.next=h.next+2/\hN.get bx=some (.arr (cells.set j x') ty)/\(∀ n,n<h.next->n≠bx->n∉ns->hN.get n=h.get n)/\(∀ n∈ns.tail,hN.get n=h.get n) /\
  (∀ {E':List SV->α->List Nat->Prop},(∀ row a m,(∀ n∈m,n∈ns.tail∨n∈ms)->E row a m->E' row a m)->Sl hN ety sz false E' x' (l++[a]) ((h.next+1)::(ns.tail++ms))):=by
 obtain⟨hM,e1,okM,nM,kM,tM,sM⟩:=s.app1 (bytes:=bytes) (row:=row) (a:=a) (ms:=ms) ok hns hr hE h1 h2
 have xM:=(kM bx hb1.2 hbn).trans hb
 obtain⟨hN,eN,okN,nN,xN,gN⟩:=jrx okM (b:=bx) hb1.1 (some (.arr (cells.set j (.slice (h.next+1) 0 (l.length+1) (l.length+1) false sz)) ty))
 have tl:∀ n∈ns.tail,n∈ns:=fun n hn=>f0r hn
 refine⟨_,hM,hN,e1,okM,xM,eN,okN,by omega,xN,fun n hn hne hm=>(gN n hne).trans (kM n hn hm),fun n hn=>(gN n (fun e=>hbn (e▸tl n hn))).trans (tM n hn hnd),fun hE'=>(sM hE').keep (fun n hn=>gN n (fun e=>?_))⟩
 subst e
 rcases f0h.1 hn with hn | hn
 .omega
 .rcases f0f.1 hn with hn | hn
  .exact hbn (tl n hn)
  .exact hms hn
theorem qn6:∀ b,b<256->b &&& 3=b % 4:=by decide
theorem qn7:∀ b,b<256->b &&& 4=if b / 4 % 2=1 then 4 else 0:=by decide
theorem ql9:∀ b,b<256->b &&& 15=b % 16:=by decide
theorem jtv {a b:Nat} (h:a<256) (h2:b<256):jcv .and (.int .i64 (a:Int)) (.int .i64 (b:Int))=some (vi ((a &&& b:Nat):Int)):=by
 show oif (inR .i64 (.ofNat a)) (oif (inR .i64 (.ofNat b)) (some (AV.s (.int .i64 (.ofNat (Nat.land a b))))) none) none=_
 rw[jrt (by omega),jrt (by omega)]
 rfl
structure InS (lo p bb bx:Nat) (h:Hp) (op:Nat) (l:List Ms.Opd) (g:List (Nat×Nat)) (r:Rd):Prop where
 rd:RdS h p bb r
 ex:∃ a b n1 n2,h.get bx=some (.arr [si op,a,b] 73)/\Sl h 92 5 false EO a l n1/\Sl h 94 2 false ER b g n2/\(n1++n2).Nodup/\∀ n∈n1++n2,lo<=n/\n<h.next/\n≠bx
 ne:lo<=bx/\bx<h.next/\bb<lo/\p<lo/\1<=lo
section
variable {lo p bb bx op:Nat} {h h':Hp} {l:List Ms.Opd} {g:List (Nat×Nat)} {r r':Rd}
theorem InS.mv (k:InS lo p bb bx h op l g r) (k':RdS h' p bb r') (hn:h.next<=h'.next) (hk:∀ n,n<h.next->n≠p->h'.get n=h.get n):InS lo p bb bx h' op l g r':=by
 obtain⟨a,b,n1,n2,h1,h2,h3,h4,h5⟩:=k.ex
 obtain⟨e1,e2,e3,e4,e5⟩:=k.ne
 exact⟨k',⟨a,b,n1,n2,(hk bx e2 (by omega)).trans h1,h2.keep (fun n hn=>hk n (h5 n (by simp[hn])).2.1 (by have:=(h5 n (by simp[hn])).1;omega)),h3.keep (fun n hn=>hk n (h5 n (by simp[hn])).2.1 (by have:=(h5 n (by simp[hn])).1;omega)),h4,fun n hn=>by have:=h5 n hn;omega⟩,⟨e1,by omega,e3,e4,e5⟩⟩
theorem InS.sm (k:InS lo p bb bx h op l g r) (k':RdS h' p bb r') (m:Mv h h' [p] [p]):InS lo p bb bx h' op l g r':=k.mv k' m.nx (fun n hn hne=>m.keep n hn (by simpa using hne))
theorem RdS.low {h h':Hp} {p bb lo:Nat} {r:Rd} (k:RdS h p bb r) (ok':Ok h') (hp:p<lo) (hb:bb<lo) (hk:∀ n,n<lo->h'.get n=h.get n) (hn:h.next<=h'.next):RdS h' p bb r:=by
 obtain⟨x,h1,h2,h3⟩:=k.ex
 obtain⟨q1,q2,q3,q4⟩:=k.p1
 refine⟨ok',⟨x,(hk p hp).trans h1,h2,?_⟩,⟨q1,by omega,by omega,q4⟩⟩
 rcases h3 with h3 | ⟨o,mc,ex,cells,ty,e,h4,h5,h6⟩
 .exact .inl h3
 .exact .inr ⟨o,mc,ex,cells,ty,e,h4,(hk bb hb).trans h5,h6⟩
theorem InS.opd (k:InS lo p bb bx h op l g r) (hl:l.length<=1000) (o:Ms.Opd):∃ a b a' hM hN,h.get bx=some (.arr [si op,a,b] 73)/\jjv (h.push (.arr (jbc o) 92)) 92 5 40 (.s a) (.s (.slice h.next 0 1 1 true 5))=some (.s a',hM)/\Ok hM/\hM.get bx=some (.arr [si op,a,b] 73) /\
 hM.put bx (some (.arr [si op,a',b] 73))=hN/\InS lo p bb bx hN op (l++[o]) g r/\(∀ n,n<lo->hN.get n=h.get n)/\h.next<=hN.next:=by
 obtain⟨a,b,n1,n2,h1,h2,h3,h4,h5⟩:=k.ex
 obtain⟨e1,e2,e3,e4,e5⟩:=k.ne
 have ok:=k.rd.ok
 obtain⟨d1,d2,d3⟩:=f0s.1 h4
 obtain⟨a',hM,hN,t1,t2,t3,t4,t5,t6,t7,t8,t9,t10⟩:=jhj (j:=1) (bytes:=40) (row:=jbc o) (a:=o) (ms:=[]) ok h1 ⟨by omega,e2⟩ (fun hc=>(h5 bx (by simp[hc])).2.2 rfl) h2 (fun n hn=>by have:=h5 n (by simp[hn]);omega) d1 rfl ⟨rfl,rfl⟩ (by simp) (by simp) (by omega) (by omega)
 have low:∀ n,n<lo->hN.get n=h.get n:=fun n hn=>t8 n (by omega) (by omega) (fun hc=>by have:=(h5 n (by simp[hc])).1;omega)
 have tl:∀ n∈n1.tail,n∈n1:=fun n hn=>f0r hn
 refine⟨a,b,a',hM,hN,h1,t1,t2,t3,t4,⟨k.rd.low t5 e4 e3 low (by omega),⟨a',b,(h.next+1)::(n1.tail++[]),n2,t7,t10 (fun _ _ _ _ e=>e),h3.keep (fun n hn=>t8 n (h5 n (by simp[hn])).2.1 (h5 n (by simp[hn])).2.2 (fun hc=>d3 n hc n hn rfl)),?_,fun n hn=>?_⟩,⟨e1,by omega,e3,e4,e5⟩⟩,low,by omega⟩
 .rw [f1d,f29]
  refine f09.2 ⟨fun hc=>?_,f0s.2 ⟨d1.sublist (f17 _),d2,fun u hu v hv e=>d3 u (tl u hu) v hv e⟩⟩
  rcases f0f.1 hc with hc | hc
  .have:=h5 _ (f2g _ (tl _ hc));omega
  .have:=h5 _ (f19 _ hc);omega
 .rw [f1d,f29] at hn
  rcases f0h.1 hn with rfl | hn
  .omega
  .have:=h5 n (by rcases f0f.1 hn with hn | hn<;>simp[hn,tl]);omega
theorem InS.reg (k:InS lo p bb bx h op l g r) (hl:g.length<=1000) (o:Nat×Nat):∃ a b b' hM hN,h.get bx=some (.arr [si op,a,b] 73)/\jjv (h.push (.arr (jcu o) 94)) 94 2 16 (.s b) (.s (.slice h.next 0 1 1 true 2))=some (.s b',hM)/\Ok hM/\hM.get bx=some (.arr [si op,a,b] 73) /\
 hM.put bx (some (.arr [si op,a,b'] 73))=hN/\InS lo p bb bx hN op l (g++[o]) r/\(∀ n,n<lo->hN.get n=h.get n)/\h.next<=hN.next:=by
 obtain⟨a,b,n1,n2,h1,h2,h3,h4,h5⟩:=k.ex
 obtain⟨e1,e2,e3,e4,e5⟩:=k.ne
 have ok:=k.rd.ok
 obtain⟨d1,d2,d3⟩:=f0s.1 h4
 obtain⟨a',hM,hN,t1,t2,t3,t4,t5,t6,t7,t8,t9,t10⟩:=jhj (j:=2) (bytes:=16) (row:=jcu o) (a:=o) (ms:=[]) ok h1 ⟨by omega,e2⟩ (fun hc=>(h5 bx (by simp[hc])).2.2 rfl) h3 (fun n hn=>by have:=h5 n (by simp[hn]);omega) d2 rfl ⟨rfl,rfl⟩ (by simp) (by simp) (by omega) (by omega)
 have low:∀ n,n<lo->hN.get n=h.get n:=fun n hn=>t8 n (by omega) (by omega) (fun hc=>by have:=(h5 n (by simp[hc])).1;omega)
 have tl:∀ n∈n2.tail,n∈n2:=fun n hn=>f0r hn
 refine⟨a,b,a',hM,hN,h1,t1,t2,t3,t4,⟨k.rd.low t5 e4 e3 low (by omega),⟨a,a',n1,(h.next+1)::(n2.tail++[]),t7,h2.keep (fun n hn=>t8 n (h5 n (by simp[hn])).2.1 (h5 n (by simp[hn])).2.2 (fun hc=>d3 n hn n hc rfl)),t10 (fun _ _ _ _ e=>e),?_,fun n hn=>?_⟩,⟨e1,by omega,e3,e4,e5⟩⟩,low,by omega⟩
 .rw [f1d]
  refine f0s.2 ⟨d1,f09.2 ⟨fun hc=>?_,d2.sublist (f17 _)⟩,fun u hu v hv e=>?_⟩
  .have:=h5 _ (f19 _ (tl _ hc));omega
  .rcases f0h.1 hv with hv | hv
   .have:=h5 u (by simp[hu]);omega
   .exact d3 u hu v (tl v hv) e
 .rw [f1d] at hn
  rcases f0f.1 hn with hn | hn
  .have:=h5 n (by simp[hn]);omega
  .rcases f0h.1 hn with rfl | hn
   .omega
   .have:=h5 n (by simp[tl n hn]);omega
end
set_option maxHeartbeats 4000000
section
variable {F:Fns} (f:RdF0 F) {lo p bb bx op:Nat} {Q:Ex->St->Prop}
include f
theorem qa9 {m:Nat} (hm:m<256) {x1 x2 x3 x4 x5 x6 x7 x15:AV} {g:List (Nat×Nat)} :
 ∀ (d i:Nat) (_:i+d=m) {hi:Hp} {l:List Ms.Opd} {r:Rd} (_:InS lo p bb bx hi op l g r) (_:l.length<=i) {x8 x10 x11 x12:AV}
  (hQ:∀ hj x8 x10 x11 x12 x14,InS lo p bb bx hj op (l++(manyF jkl d r).1) g (manyF jkl d r).2->(∀ n,n<lo->n≠p->hj.get n=hi.get n)->hi.next<=hj.next->Q (.exit 0) (.mk [.s (.ptr p 0),x1,x2,x3,x4,x5,x6,x7,x8,.s (.ptr bx 0),x10,x11,x12,vi m,x14,x15] hj)),
  W F jpp.loop (.mk [.s (.ptr p 0),x1,x2,x3,x4,x5,x6,x7,x8,.s (.ptr bx 0),x10,x11,x12,vi m,vi i,x15] hi) Q
 | 0,i,hd,hi,l,r,k,hl,x8,x10,x11,x12,hQ=>by
  obtain rfl:i=m:=by omega
  have ok:=k.rd.ok
  rw[jae]
  unfold jpp
  simp(disch:=first|omega|rfl) only[go_sem,f0q]
  exact hQ hi _ _ _ _ _ (by show InS lo p bb bx hi op (l++[]) g r;rw[f1d];exact k) (fun _ _ _=>rfl) (f0d _)
 | d+1,i,hd,hi,l,r,k,hl,x8,x10,x11,x12,hQ=>by
  have ok:=k.rd.ok
  have hlt:((i:Int)<(m:Int))=True:=eq_true (by omega)
  have hss:(i:Int)+1=((i+1:Nat):Int):=by omega
  obtain⟨b1,b2⟩:=k.rd.by.sm
  obtain⟨r1,e1⟩:∃ r1,(smF r).2=r1:=⟨_,rfl⟩
  obtain⟨v1,w1⟩:∃ v1,(smF r).1=v1:=⟨_,rfl⟩
  rw[w1] at b1
  have p1:=k.ne
  rw[jae]
  unfold jpp j4l
  simp(disch:=first|omega|rfl) only[go_sem,jac,hlt]
  refine WC.imp (jc9 f k.rd) ?_
  rintro _ hA ⟨rfl,kA,mA⟩
  have k1:=k.sm kA mA
  rw[e1] at kA k1
  have okA:=kA.ok
  have g1:jcv .and (.int .i64 (v1:Int)) (.int .i64 3)=some (vi ((v1 % 4:Nat):Int)):=by rw[←qn6 v1 b1];exact jtv (b:=3) b1 (by omega)
  have g2:jcv .and (.int .i64 (v1:Int)) (.int .i64 4)=some (vi ((if v1 / 4 % 2=1 then 4 else 0:Nat):Int)):=by rw[←qn7 v1 b1];exact jtv (b:=4) b1 (by omega)
  have g3:(v1:Int) / 2 ^ 3=((v1 / 8:Nat):Int):=by omega
  have g4:((((if v1 / 4 % 2=1 then 4 else 0:Nat):Int)=0)=(¬ v1 / 4 % 2=1)):=by
   apply propext
   split<;>simp_all
  rw[w1]
  simp(disch:=first|omega|rfl) only[go_sem,g1,g2,g3]
  refine WC.imp (jc9 f kA) ?_
  rintro _ hB ⟨rfl,kB,mB⟩
  have k2:=k1.sm kB mB
  obtain⟨r2,e2⟩:∃ r2,(smF r1).2=r2:=⟨_,rfl⟩
  obtain⟨v2,w2⟩:∃ v2,(smF r1).1=v2:=⟨_,rfl⟩
  rw[e2] at kB k2
  rw[w2]
  have okB:=kB.ok
  have g5:decide (((if v1 / 4 % 2=1 then 4 else 0:Nat):Int)≠0)=decide (v1 / 4 % 2=1):=by
   by_cases e:v1 / 4 % 2=1
   .simp [e]
   .simp [e]
  have nA:=mA.nx
  have nB:=mB.nx
  have hBp:hB.next≠p:=by have:=kB.p1.2.1;omega
  obtain⟨hC,eC,okC,nC,xC,gC⟩:=jhi okB [.int .i64 0,.int .i64 0,.bool false,.int .i64 0,.int .i64 0] [si (v1 % 4:Nat),si v2,.bool (decide (v1 / 4 % 2=1)),si (v1 / 8:Nat),.int .i64 0] 92
  have kC:=kB.keep okC gC (by omega)
  simp(disch:=first|omega|rfl) only[go_sem,g5,eC]
  refine WC.imp (jc9 f kC) ?_
  rintro _ hD ⟨rfl,kD,mD⟩
  obtain⟨r3,e3⟩:∃ r3,(smF r2).2=r3:=⟨_,rfl⟩
  obtain⟨v3,w3⟩:∃ v3,(smF r2).1=v3:=⟨_,rfl⟩
  rw[e3] at kD
  rw[w3]
  have okD:=kD.ok
  have nD:=mD.nx
  have xD:=(mD.keep hB.next (by omega) (by simpa using hBp)).trans xC
  obtain⟨hE,eE,okE,nE,xE,gE⟩:=jrx okD (b:=hB.next) (by have:=okB.pos;omega) (some (.arr [si (v1 % 4:Nat),si v2,.bool (decide (v1 / 4 % 2=1)),si (v1 / 8:Nat),si v3] 92))
  have kE:InS lo p bb bx hE op l g r3:=k2.mv (kD.low okE p1.2.2.2.1 p1.2.2.1 (fun n hn=>gE n (by have:=k2.ne;omega)) (by omega)) (by omega) (fun n hn hne=>(gE n (by omega)).trans ((mD.keep n (by omega) (by simpa using hne)).trans (gC n hn)))
  obtain⟨a,b,a',hM,hN,t1,t2,okM,t3,t4,kN,t5,t6⟩:=kE.opd (by omega) ⟨v1 % 4,v2,decide (v1 / 4 % 2=1),v1 / 8,v3⟩
  have okN:=kN.rd.ok
  have t2':jjv (hE.push (.arr [si (v1 % 4:Nat),si v2,.bool (decide (v1 / 4 % 2=1)),si (v1 / 8:Nat),si v3] 92)) 92 5 40 (.s a) (.s (.slice hE.next 0 1 1 true 5))=some (.s a',hM):=t2
  obtain⟨z,z1,z2,z3⟩:=kN.rd.ex
  have eo:jkl r=(⟨v1 % 4,v2,decide (v1 / 4 % 2=1),v1 / 8,v3⟩,r3):=by
   show((⟨(smF r).1 % 4,(smF (smF r).2).1,decide ((smF r).1 / 4 % 2=1),(smF r).1 / 8,(smF (smF (smF r).2).2).1⟩:Ms.Opd),(smF (smF (smF r).2).2).2)=_
   rw[e1,w1,e2,w2,e3,w3]
  have lowN:∀ n,n<lo->n≠p->hN.get n=hi.get n:=fun n hn hne=>by
   have:=k2.ne
   rw[t5 n hn,gE n (by omega),mD.keep n (by omega) (by simpa using hne),gC n (by omega),mB.keep n (by omega) (by simpa using hne),mA.keep n (by have:=k.ne;omega) (by simpa using hne)]
  simp(disch:=first|omega|rfl) only[go_sem,xD,eE,xE,t1,t2',t3,t4,z1]
  cases hs:r3.2 with
  | true =>
   simp(disch:=first|omega|rfl) only[go_sem]
   have em:manyF jkl (d+1) r=([⟨v1 % 4,v2,decide (v1 / 4 % 2=1),v1 / 8,v3⟩],r3):=by unfold manyF;rw[eo,if_pos hs]
   exact hQ hN _ _ _ _ _ (by rw[em];exact kN) lowN (by omega)
  | false =>
   have em:manyF jkl (d+1) r=(⟨v1 % 4,v2,decide (v1 / 4 % 2=1),v1 / 8,v3⟩::(manyF jkl d r3).1,(manyF jkl d r3).2):=by
    show(if (jkl r).2.2=true then ([(jkl r).1],(jkl r).2) else ((jkl r).1::(manyF jkl d (jkl r).2).1,(manyF jkl d (jkl r).2).2))=_
    rw[eo,if_neg (by simp[hs])]
   simp(disch:=first|omega|rfl) only[go_sem,jac,hss]
   exact qa9 hm d (i+1) (by omega) kN (by rw[f0g];show l.length+1<=i+1;omega) (fun hj x8 x10 x11 x12 x14 kj lj nj=>hQ hj x8 x10 x11 x12 x14 (by rw[em];rw[f0l] at kj;exact kj) (fun n hn hne=>(lj n hn hne).trans (lowN n hn hne)) (by omega))
end
theorem qba {F:Fns} (f:RdF0 F) {lo p bb bx op:Nat} {Q:Ex->St->Prop} {m:Nat} (hm:m<256) {x1 x7 x8 x10 x11 x12 x13 x14 x15:AV} {l:List Ms.Opd} :
 ∀ (d i:Nat) (_:i+d=m) {hi:Hp} {g:List (Nat×Nat)} {r:Rd} (_:InS lo p bb bx hi op l g r) (_:g.length<=i) {x2 x3 x4:AV}
  (hQ:∀ hj x2 x3 x4 x6,InS lo p bb bx hj op l (g++(manyF jmx d r).1) (manyF jmx d r).2->(∀ n,n<lo->n≠p->hj.get n=hi.get n)->hi.next<=hj.next->Q (.exit 2) (.mk [.s (.ptr p 0),x1,x2,x3,x4,vi m,x6,x7,x8,.s (.ptr bx 0),x10,x11,x12,x13,x14,x15] hj)),
  W F jpq.loop (.mk [.s (.ptr p 0),x1,x2,x3,x4,vi m,vi i,x7,x8,.s (.ptr bx 0),x10,x11,x12,x13,x14,x15] hi) Q
 | 0,i,hd,hi,g,r,k,hl,x2,x3,x4,hQ=>by
  obtain rfl:i=m:=by omega
  have ok:=k.rd.ok
  rw[jae]
  unfold jpq
  simp(disch:=first|omega|rfl) only[go_sem,f0q]
  exact hQ hi _ _ _ _ (by show InS lo p bb bx hi op l (g++[]) r;rw[f1d];exact k) (fun _ _ _=>rfl) (f0d _)
 | d+1,i,hd,hi,g,r,k,hl,x2,x3,x4,hQ=>by
  have ok:=k.rd.ok
  have hlt:((i:Int)<(m:Int))=True:=eq_true (by omega)
  have hss:(i:Int)+1=((i+1:Nat):Int):=by omega
  obtain⟨b1,b2⟩:=k.rd.by.sm
  obtain⟨r1,e1⟩:∃ r1,(smF r).2=r1:=⟨_,rfl⟩
  obtain⟨v1,w1⟩:∃ v1,(smF r).1=v1:=⟨_,rfl⟩
  rw[w1] at b1
  rw[jae]
  unfold jpq j4m
  simp(disch:=first|omega|rfl) only[go_sem,jac,hlt]
  refine WC.imp (jc9 f k.rd) ?_
  rintro _ hA ⟨rfl,kA,mA⟩
  have k1:=k.sm kA mA
  rw[e1] at kA k1
  rw[w1]
  have okA:=kA.ok
  have nA:=mA.nx
  have g1:jcv .and (.int .i64 (v1:Int)) (.int .i64 15)=some (vi ((v1 % 16:Nat):Int)):=by rw[←ql9 v1 b1];exact jtv (b:=15) b1 (by omega)
  have g3:(v1:Int) / 2 ^ 4=((v1 / 16:Nat):Int):=by omega
  obtain⟨a,b,b',hM,hN,t1,t2,okM,t3,t4,kN,t5,t6⟩:=k1.reg (by omega) (v1 / 16,v1 % 16)
  have okN:=kN.rd.ok
  have t2':jjv (hA.push (.arr [si (v1 / 16:Nat),si (v1 % 16:Nat)] 94)) 94 2 16 (.s b) (.s (.slice hA.next 0 1 1 true 2))=some (.s b',hM):=t2
  obtain⟨z,z1,z2,z3⟩:=kN.rd.ex
  have eo:jmx r=((v1 / 16,v1 % 16),r1):=by
   show(((smF r).1 / 16,(smF r).1 % 16),(smF r).2)=_
   rw[e1,w1]
  have lowN:∀ n,n<lo->n≠p->hN.get n=hi.get n:=fun n hn hne=>by
   rw[t5 n hn,mA.keep n (by have:=k.ne;omega) (by simpa using hne)]
  simp(disch:=first|omega|rfl) only[go_sem,g1,g3,t1,t2',t3,t4,z1]
  cases hs:r1.2 with
  | true =>
   simp(disch:=first|omega|rfl) only[go_sem]
   have em:manyF jmx (d+1) r=([(v1 / 16,v1 % 16)],r1):=by unfold manyF;rw[eo,if_pos hs]
   exact hQ hN _ _ _ _ (by rw[em];exact kN) lowN (by omega)
  | false =>
   have em:manyF jmx (d+1) r=((v1 / 16,v1 % 16)::(manyF jmx d r1).1,(manyF jmx d r1).2):=by
    show(if (jmx r).2.2=true then ([(jmx r).1],(jmx r).2) else ((jmx r).1::(manyF jmx d (jmx r).2).1,(manyF jmx d (jmx r).2).2))=_
    rw[eo,if_neg (by simp[hs])]
   simp(disch:=first|omega|rfl) only[go_sem,jac,hss]
   exact qba f hm d (i+1) (by omega) kN (by rw[f0g];show g.length+1<=i+1;omega) (fun hj x2 x3 x4 x6 kj lj nj=>hQ hj x2 x3 x4 x6 (by rw[em];rw[f0l] at kj;exact kj) (fun n hn hne=>(lj n hn hne).trans (lowN n hn hne)) (by omega))
def InR (h:Hp) (p bb:Nat) (x:Ms.Ins) (r:Rd):AV->Hp->Prop:=fun v h'=>∃ row ns,v=.agg row/\row.length=3/\OX h' row x ns/\ns.Nodup/\(∀ n∈ns,h.next<=n/\n<h'.next)/\RdS h' p bb r/\Mv h h' [p] [p]
theorem qeo {F:Fns} (f:RdF0 F) {p bb:Nat} {h:Hp} {r:Rd} (k:RdS h p bb r):WC F 41 [.s (.ptr p 0)] h (InR h p bb (jv0 r).1 (jv0 r).2):=by
 refine jan (f.x _ rfl _ _) ((congrFun f.t _).trans ql2) rfl ?_
 unfold qa0
 have ok:=k.ok
 have hpos:=ok.pos
 obtain⟨q1,q2,q3,q4⟩:=k.p1
 obtain⟨hA,eA,okA,nA,xA,gA⟩:=jra ok [.int .i64 0,.nilSlice,.nilSlice] 73
 have kA:=k.keep okA gA (by omega)
 simp(disch:=first|omega|rfl) only[go_sem,eA]
 refine WC.imp (jc9 f kA) ?_
 rintro _ hB ⟨rfl,kB,mB⟩
 have okB:=kB.ok
 have nB:=mB.nx
 obtain⟨r1,e1⟩:∃ r1,(smF r).2=r1:=⟨_,rfl⟩
 obtain⟨v1,w1⟩:∃ v1,(smF r).1=v1:=⟨_,rfl⟩
 rw[e1] at kB
 rw[w1]
 obtain⟨hC,eC,okC,nC,xC,gC⟩:=jhi okB [.int .i64 0,.nilSlice,.nilSlice] [si v1,.nilSlice,.nilSlice] 73
 have kC:=kB.keep okC gC (by omega)
 simp(disch:=first|omega|rfl) only[go_sem,eC]
 refine WC.imp (jc9 f kC) ?_
 rintro _ hD ⟨rfl,kD,mD⟩
 have okD:=kD.ok
 have nD:=mD.nx
 have b2:=kC.by.sm.1
 obtain⟨r2,e2⟩:∃ r2,(smF r1).2=r2:=⟨_,rfl⟩
 obtain⟨v2,w2⟩:∃ v2,(smF r1).1=v2:=⟨_,rfl⟩
 rw[e2] at kD
 rw[w2] at b2 ⊢
 simp(disch:=first|omega|rfl) only[go_sem]
 refine WC.imp (jc9 f kD) ?_
 rintro _ hE ⟨rfl,kE,mE⟩
 have okE:=kE.ok
 have nE:=mE.nx
 have b3:=kD.by.sm.1
 obtain⟨r3,e3⟩:∃ r3,(smF r2).2=r3:=⟨_,rfl⟩
 obtain⟨v3,w3⟩:∃ v3,(smF r2).1=v3:=⟨_,rfl⟩
 rw[e3] at kE
 rw[w3] at b3 ⊢
 have hBp:hB.next≠p:=by omega
 have xE:=(mE.keep hB.next (by omega) (by simpa using hBp)).trans ((mD.keep hB.next (by omega) (by simpa using hBp)).trans xC)
 have i0:InS hB.next p bb hB.next hE v1 [] [] r3:=⟨kE,⟨_,_,[],[],xE,.nil,.nil,by simp,by simp⟩,⟨f0d _,by omega,by omega,by omega,by omega⟩⟩
 simp(disch:=first|omega|rfl) only[go_sem]
 refine qa9 f (m:=v2) b2 v2 0 (by omega) i0 (by simp) (fun hF x8 x10 x11 x12 x14 i1 l1 n1=>?_)
 have okF:=i1.rd.ok
 simp(disch:=first|omega|rfl) only[go_sem]
 refine qba f (m:=v3) b3 v3 0 (by omega) i1 (by simp) (fun hG x2 x3 x4 x6 i2 l2 n2=>?_)
 have okG:=i2.rd.ok
 obtain⟨a,b,n1',n2',h1,h2,h3,h4,h5⟩:=i2.ex
 obtain⟨hH,eH,okH,nH,xH,gH⟩:=jrx okG (b:=h.next) (by omega) (some (.arr [si v1,a,b] 73))
 have lowG:∀ n,n<hB.next->n≠p->hG.get n=hB.get n:=fun n hn hne=>(l2 n hn hne).trans ((l1 n hn hne).trans ((mE.keep n (by omega) (by simpa using hne)).trans ((mD.keep n (by omega) (by simpa using hne)).trans (gC n hn))))
 have xG:hG.get h.next=some (.arr [.int .i64 0,.nilSlice,.nilSlice] 73):=(lowG h.next (by omega) (by omega)).trans ((mB.keep h.next (by omega) (by simp;omega)).trans xA)
 simp(disch:=first|omega|rfl) only[go_sem,h1,xG,eH,xH]
 have ei:jv0 r=(⟨v1,(manyF jkl v2 r3).1,(manyF jmx v3 (manyF jkl v2 r3).2).1⟩,(manyF jmx v3 (manyF jkl v2 r3).2).2):=by
  show((⟨(smF r).1,(manyF jkl (smF (smF r).2).1 (smF (smF (smF r).2).2).2).1,(manyF jmx (smF (smF (smF r).2).2).1 (manyF jkl (smF (smF r).2).1 (smF (smF (smF r).2).2).2).2).1⟩:Ms.Ins),(manyF jmx (smF (smF (smF r).2).2).1 (manyF jkl (smF (smF r).2).1 (smF (smF (smF r).2).2).2).2).2)=_
  rw[e1,w1,e2,w2,e3,w3]
 rw[ei]
 rw[f1l] at h2 h3
 have hk:∀ n∈n1'++n2',hH.get n=hG.get n:=fun n hn=>gH n (by have:=h5 n hn;omega)
 refine⟨_,n1'++n2',rfl,rfl,⟨a,b,n1',n2',false,rfl,h2.keep (fun n hn=>hk n (by simp[hn])),h3.keep (fun n hn=>hk n (by simp[hn])),rfl⟩,h4,fun n hn=>by have:=h5 n hn;omega,i2.rd.low (lo:=h.next) okH (by omega) (by omega) (fun n hn=>gH n (by omega)) (by omega),⟨okH,by omega,fun n hn=>.inl hn,fun n hn hne=>?_⟩⟩
 have hne':n≠p:=by simpa using hne
 exact(gH n (by omega)).trans ((lowG n (by omega) hne').trans ((mB.keep n (by omega) hne).trans (gA n hn)))
end Go.Proofs.Ytkplfnkgodnmaaa.Ev
