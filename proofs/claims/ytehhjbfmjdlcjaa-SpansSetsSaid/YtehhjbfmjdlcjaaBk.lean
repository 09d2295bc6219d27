/- Code of functions as the interpreter has it prepared: a range over a function. -/
import Derived.Test.YtehhjbfmjdlcjaaWb
import Derived.Test.YtehhjbfmjdlcjaaBf
import Derived.Test.YtehhjbfmjdlcjaaMc4
import Derived.Test.YtehhjbfmjdlcjaaUi
import Derived.Test.YtehhjbfmjdlcjaaBi
namespace Go.Proofs.Ytehhjbfmjdlcjaa.Ev
noncomputable section
open Go Go.RowKit
set_option linter.all false
set_option maxRecDepth 100000
def qcc:IC:=.region [qB 14 (.box 30 (.g 0)),qB 13 (.box 25 (.g 1)),qB 10 (.new 52 [.nilSlice,.nilSlice]),qQ 2 (.mv (qC 0))]
def qcd:IC:=.region [qA (.load 2 true (.g 14)),qA (.load 2 true (.g 13)),qA (.call 12 [qb,qa]),qP (.mv qa),qP (.ext 0 qa),qP (.ext 1 qb),qB 9 (.new 36 [.nilSlice,.nilSlice,.nilSlice]),qA (.store 3 qa qc),qQ 12 (.mv qc)]
def qce:IC:=.region [qM 12,qQ 11 (.bin .ne qa (qC 0))]
def qcf:IC:=.cond (.g 11) (qr [qP (.build [.nilSlice,.nilSlice] []),qM 12,qA (.store 2 (.g 10) qb),qQ 2 (.mv qb)] .ret) .skip
def qcg:IC:=.region [qA (.load 2 true (.g 14)),qF 0 9,qL,qA (.call 26 [qc,qa]),qT 4]
def qch:IC:=.region [qB 5 (.new 52 [.nilSlice,.nilSlice])]
def qci:IC:=.region [qF 1 14,qL,qQ 7 (.len qa),qQ 8 (.mv (qC 0))]
def j1a:IC:=.region [qQ 6 (.bin .lt (.g 8) (.g 7))]
def j1b:IC:=qX 6 0
def j4b:IC:=.region [qM 8,qT 3]
def qcj:List (IOper×List Nat):=[(qF 0 5,[]),(qL,[]),(qM 4,[]),(qN,[]),(qG 2,[]),(qL,[3]),(qM 3,[]),(qP (.ixs 1 qb qa),[]),(qL,[6]),(qF 0 14,[]),(qL,[1,4,8]),(qP (.len qa),[]),(qA (.call 27 [qd,qa]),[10]),(qA (.bslice 27 1 [.nilSlice] 1 [(0,(1,qa))]),[11]),(qA (.app 27 1 24 (.l 12) qa),[]),(qF 1 5,[]),(qL,[1,2,3,5,7,10,14]),(qM 4,[]),(qN,[]),(qG 3,[]),(qL,[3,5,6,7,9,11,14,18]),(qM 3,[]),(qP (.ixs 1 qb qa),[]),(qL,[6,8,9,10,12,14,17,21]),(qF 0 14,[]),(qL,[1,4,8,10,11,12,14,16,19,23]),(qP (.len qa),[]),(qA (.call 27 [qd,qa]),[10]),(qA (.bslice 27 1 [.nilSlice] 1 [(0,(1,qa))]),[11]),(qA (.app 27 1 24 (.l 12) qa),[]),(qF 0 5,[]),(qA (.store 1 qa (.l 16)),[]),(qF 1 5,[]),(qA (.store 1 qa qd),[])]
def j4c:IC:=.region [qI 8,qT 8]
def jvt:IB:=.seq (.c j1a) (.seq (.c j1b) (.seq (.block 1 (.seq (.c j4b) (.flo qcj))) (.c j4c)))
def j4d:IC:=.region [qA (.load 2 true (.g 5)),qA (.store 2 (.g 10) qa),qQ 2 (.mv (qC 0))]
def j4e:IC:=.ret
def j4f:IB:=.seq (.c qcc) (.seq (.c qcd) (.seq (.seq (.c qce) (.c qcf)) (.seq (.c qcg) (.seq (.c qch) (.seq (.seq (.c qci) (.block 0 (.loop jvt))) (.seq (.c j4d) (.c j4e)))))))
theorem quz:TB 13 true=some (.mk j4f 2 13 [(.cell 10 2 true),(.tmp 2)]):=by kernel_rfl
def qck:IC:=.seq (.block 1 (qr [qM 0,qM 5,qP (.ixs 1 qb qa),qL,qM 1,qQ 3 (.bin .eq qb qa)] (.cond (.g 3) (qr [qQ 2 (.mv (.c (.s (.bool true))))] .ret) .skip))) (.region [qM 5,qP (.bin .add qa (qC 1)),qT 5])
def jvu:IC:=.seq (qr [qM 5,qM 0,qP (.len qa),qQ 4 (.bin .lt qc qa)] (qX 4 0)) qck
def qii:IC:=qr [qQ 2 (.mv (.c (.s (.bool false))))] (.seq (qr [qQ 5 (.mv (qC 0))] (.block 0 (.loop jvu))) (qr [qQ 2 (.mv (.c (.s (.bool false))))] .ret))
theorem qyu:T 14=some (.mk qii 2 4 [(.tmp 2)]):=by kernel_rfl
open Go Go.RowKit Go.Proofs.Ytehhjbfmjdlcjaa.Ms
variable {x2:AV} {f:Fc} {n:Int} {s:List Bool} {ws:List Nat} {N:Nat} {m:Nat×Nat}
attribute [local go_sem] Int.reduceToNat reduceCtorEq Nat.reduceAdd Nat.reduceMul Nat.reduceEqDiff Int.reduceEq Int.reduceLT Int.reduceLE Int.reduceNeg Int.reduceAdd Int.reduceSub Int.reduceMul Int.reduceNe
attribute [local go_sem ↓] reduceIte
set_option maxHeartbeats 4000000
def EWr (row:List SV) (n:Nat) (ns:List Nat):Prop:=row=jm1 n/\ns=[]
theorem qu0:∀ (l:List Nat),Rows 1 EWr (l.map jm1) l []
 | []=>.nil
 | a::l=>by
  have:=Rows.cons (sz:=1) (E:=EWr) (row:=jm1 a) (a:=a) (ns:=[]) rfl ⟨rfl,rfl⟩ (qu0 l)
  exact this
theorem BW.frz {k:Bool} {h:Hp} {x:SV} {c:Nat} (b:BW h x N ws c) (h1:1<=N):jg3 k h 2 x=some (jae jm1 ws):=by
 obtain⟨ex,rfl⟩:=b.ex
 have hl:=b.wo.1
 have hne:ws≠[]:=by intro e;rw[e] at hl;simp at hl;omega
 have s:Sl h 124 1 ex EWr (.slice c 0 ws.length ws.length ex 1) ws [c]:=.inr ⟨hne,c,_,[],rfl,b.xc,qu0 ws,rfl⟩
 rw[hl] at s
 exact s.frz (enc:=jm1) (d:=1) (fun row a ms e=>by obtain⟨rfl,_⟩:=e;rfl) (fun _=>rfl)
def jv9 (l:List Nat) (n:Int):Bool:=l.any (fun x=>decide ((x:Int)=n))
theorem qu1 {F:Fns} {l:List Nat} (hl:l.length<=10000) {Q:Ex->St->Prop} :
 ∀ (rest done:List Nat) (_:done++rest=l) {hi:Hp} (_:Ok hi) {x3 x4:AV}
  (_:jv9 rest n=true->∀ x3 x4 x5,Q .ret (.mk [.s (jae jal l),vi n,vb true,x3,x4,x5] hi)) (_:jv9 rest n=false->∀ x3 x4 x5,Q (.exit 0) (.mk [.s (jae jal l),vi n,x2,x3,x4,x5] hi)),
  W F jvu.loop (.mk [.s (jae jal l),vi n,x2,x3,x4,vi done.length] hi) Q
 | [],done,hdn,hi,ok,x3,x4,h1,h2=>by
  rw[f1c] at hdn
  subst hdn
  have ll:=jaf (enc:=jal) (l:=done)
  rw[jai]
  unfold jvu
  simp(disch:=first|omega|rfl) only[go_sem,ll,f0o]
  exact h2 rfl _ _ _
 | v::rest,done,hdn,hi,ok,x3,x4,h1,h2=>by
  have ll:=jaf (enc:=jal) (l:=l)
  have hlt1:done.length<l.length:=by rw[←hdn];simp
  have hlt:(done.length:Int)<l.length:=by omega
  have hget:l[done.length]?=some v:=by rw[←hdn];simp
  have hix:=jag (enc:=jal) (size:=1) hget rfl
  have hdn':(done++[v])++rest=l:=by rw[←hdn];simp
  have hs:(done.length:Int)+1=(((done++[v]).length:Nat):Int):=by simp
  rw[jai]
  unfold jvu qck
  by_cases e:(v:Int)=n
  .have c1:((v:Int)=n)=True:=eq_true e
   simp(disch:=first|omega|rfl) only[go_sem,jab,ll,eq_true hlt,hix,jal,c1]
   exact h1 (by unfold jv9;simp[e]) _ _ _
  .have c1:((v:Int)=n)=False:=eq_false e
   have ed:jv9 (v::rest) n=jv9 rest n:=by unfold jv9;simp[e]
   simp(disch:=first|omega|rfl) only[go_sem,jab,ll,eq_true hlt,hix,jal,c1,hs]
   exact qu1 hl rest (done++[v]) hdn' ok (fun h=>h1 (ed.trans h)) (fun h=>h2 (ed.trans h))
theorem qu2 {F:Fns} {h:Hp} (ok:Ok h) {l:List Nat} (hl:l.length<=10000) (hX:jb9 F 14 [.s (jae jal l),vi n] h=none) (hT:jqt F 14=T 14):WC F 14 [.s (jae jal l),vi n] h (fun v h'=>∃ e,jf2 true h' e v=some (vb (jv9 l n))):=by
 refine ja3 hX (hT.trans qyu) rfl ?_
 unfold qii
 simp(disch:=first|omega|rfl) only[go_sem]
 refine qu1 hl l [] rfl ok (fun h x3 x4 x5=>?_) (fun h x3 x4 x5=>?_)
 .simp (disch:=first|omega|rfl) only[go_sem]
  rw[h];exact⟨1,rfl⟩
 .simp (disch:=first|omega|rfl) only[go_sem]
  rw[h];exact⟨1,rfl⟩
def SLv (f:FuncId):Bool:=Nat.beq f 64||Nat.beq f 27||Nat.beq f 14
def FL1:Fns:=PX SLv F12
theorem jm2 {f:FuncId} (h:(S1 f||Nat.beq f jfc.f||S3 f||S4 f||S5 f||S6 f||S7 f||S8 f||S9 f||S10 f||S11 f||S12 f)=false) {vs:List AV} {hp:Hp}:jb9 F12 f vs hp=none:=by
 simp only[Bool.or_eq_false_iff] at h
 obtain⟨⟨⟨⟨⟨⟨⟨⟨⟨⟨⟨h1,h2⟩,h3⟩,h4⟩,h5⟩,h6⟩,h7⟩,h8⟩,h9⟩,h10⟩,h11⟩,h12⟩:=h
 exact q1b h1 h2 h3 h4 h5 h6 h7 h8 h9 h10 h11 h12
theorem qyv:LvF F12 where
 none:=fun f hf vs h=>by
  simp only[f0e,f0t,or_false] at hf
  rcases hf with rfl | rfl | rfl | rfl | rfl | rfl | rfl | rfl | rfl<;>exact jm2 rfl
 T:=fun f=>rfl
theorem qyw:RdF FL1 where
 none:=fun f hf vs h=>by
  simp only[f0e,f0t,or_false] at hf
  rcases hf with rfl | rfl | rfl | rfl | rfl | rfl | rfl<;>exact(ja0 rfl).trans (jm2 rfl)
 T:=fun f=>rfl
 made:=fun h f b N hN h1 hv hb=>jba rfl (by simp only[jaq,jav,ja5,jbr,jaw,ja6,ja4,jbi,ja7,jbc,if_true]) (WC.imp (qbb qyv jda hN hv hb) (fun v h' ⟨x,c,e,_,_,_,_,_,bw⟩=>⟨2,by rw[e];exact jaa.2 ⟨_,bw.frz h1,rfl⟩⟩))
 list:=fun h N n ws hw hn hn2=>jba rfl (by simp only[jaq,jav,ja5,jbr,jaw,ja6,ja4,jbi,ja7,jbc,if_true]) (qa8 jda hw hn hn2 (jm2 rfl) rfl (fun _ _=>jm2 rfl) rfl)
theorem qyx:CmF FL1:=⟨qyw,fun vs h=>(ja0 rfl).trans (jm2 rfl)⟩
def FLB:Fns:=BX isB qvr FL1
theorem qyy {A:Nat->Int}:Env Try.prog A tys FLB:=j8x (je4 qyr) qux (qw2 qs0)
section
variable {h:Hp} {Q:AV->Hp->Prop}
theorem j4g {n c:Nat} (b:BW h (jb4 N c) N ws c) (h1:1<=N) (hn:n<=64*N) (hn2:n<=100000):jb9 FLB 27 [.s (jb4 N c),vi n] h=some (.s (jae jal (jbo ws n)),h):=by
 refine(jdd rfl).trans (qj2 rfl rfl ⟨[.s (jae jm1 ws),vi n],2,?_,qa8 jda b.wo hn hn2 (jm2 rfl) rfl (fun _ _=>jm2 rfl) rfl⟩)
 refine jaa.2 ⟨_,jaa.2 ⟨_,b.frz h1,rfl⟩,?_⟩
 rfl
theorem jqo {ord:List Nat} (ok:Ok h) (lv:LvOk f N) (hne:f.blocks≠[]) (ho:ord≠[]) (hol:ord.length<=1000) (hoq:∀ q∈ord,q<f.blocks.length) :
 WC FLB 26 [.agg [jae jal f.values,jae jax f.blocks],.s (jae jal ord)] h (qyt h f N ord):=j09 qyx ok lv hne ho hol hoq
end
def ELi (row:List SV) (l:List Nat) (ns:List Nat):Prop:=row=[jae jal l]/\ns=[]
structure SI (hi:Hp) (f:Fc) (N p ci co sx fx L:Nat) (ic oc:List Nat) (ins outs:List (List Nat)) (i:Nat) (ni no:List Nat) (xi xo:SV):Prop where
 ns:NS hi f N p ci co ic oc ins outs
 xs:hi.get sx=some (.arr [xi,xo] 52)
 xf:hi.get fx=some (.arr [jae jal f.values,jae jax f.blocks] 30)
 si:Sl hi 27 1 false ELi xi ((ins.take i).map (fun ws=>jbo ws f.values.length)) ni
 so:Sl hi 27 1 false ELi xo ((outs.take i).map (fun ws=>jbo ws f.values.length)) no
 ti:ni.tail=[]
 to:no.tail=[]
 bl:1<=sx/\sx<L/\1<=fx/\fx<L/\sx≠fx/\L<=hi.next
 bn:∀ n∈p::ci::co::(ic++oc),n<L/\n≠sx
 lo:∀ n∈ni++no,L<=n/\n<hi.next
 dj:∀ n∈ni,n∉no
theorem qij {BB:FuncId->Bool} {p ci co sx fx L:Nat} {ic oc:List Nat} {ins outs:List (List Nat)} (lv':LvOk f N) {x0 x1 x9 x10 x11 x12 x13:AV} {Q:Ex->St->Prop} :
 ∀ (dd i:Nat) (_:i+dd=f.blocks.length) {hi:Hp} {ni no:List Nat} {yi yo:SV} (_:SI hi f N p ci co sx fx L ic oc ins outs i ni no yi yo) {x3 x6:AV}
  (hQ:∀ hj ni no yi yo x3 x6,SI hj f N p ci co sx fx L ic oc ins outs f.blocks.length ni no yi yo->hi.next<=hj.next->(∀ n,n<L->n≠sx->hj.get n=hi.get n)->Q (.exit 0) (.mk [x0,x1,x2,x3,.s (.ptr p 0),.s (.ptr sx 0),x6,vi f.blocks.length,vi f.blocks.length,x9,x10,x11,x12,x13,.s (.ptr fx 0)] hj)),
  WB FLB BB (.loop jvt) (.mk [x0,x1,x2,x3,.s (.ptr p 0),.s (.ptr sx 0),x6,vi f.blocks.length,vi i,x9,x10,x11,x12,x13,.s (.ptr fx 0)] hi) Q
 | 0,i,hd,hi,ni,no,yi,yo,k,x3,x6,hQ=>by
  obtain rfl:i=f.blocks.length:=by omega
  refine WB.loop ?_
  unfold jvt
  refine WB.seq (WB.c ?_)
  unfold j1a
  simp(disch:=first|omega|rfl) only[go_sem,f0o]
  refine WB.seq (WB.c ?_)
  unfold j1b
  simp(disch:=first|omega|rfl) only[go_sem]
  exact hQ hi _ _ _ _ _ _ k (f0f _) (fun _ _ _=>rfl)
 | dd+1,i,hd,hi,ni,no,yi,yo,k,x3,x6,hQ=>by
  have hil:i<f.blocks.length:=by omega
  have hlt:(i:Int)<(f.blocks.length:Int):=by omega
  have hs:(i:Int)+1=((i+1:Nat):Int):=by omega
  have lv:=jaf (enc:=jal) (l:=f.values)
  have hnb:=lv'.nb
  have hnv:=lv'.nv
  have hN:=lv'.hN
  have hn1:=lv'.n1
  have ok:=k.ns.ok
  obtain⟨b1,b2,b3,b4,b5,b6⟩:=k.bl
  obtain⟨c,hc⟩:∃ c,oc[i]?=some c:=⟨_,f0a (by rw[k.ns.lo];exact hil)⟩
  obtain⟨d,hd'⟩:∃ d,ic[i]?=some d:=⟨_,f0a (by rw[k.ns.li];exact hil)⟩
  have hii:i<ins.length:=by rw[k.ns.mi];exact hil
  have hoo:i<outs.length:=by rw[k.ns.mo];exact hil
  have hsi:=jhq (c:=ci) (L:=f.blocks.length) (ex:=false) hil
  have hso:=jhq (c:=co) (L:=f.blocks.length) (ex:=false) hil
  have hri:=rdS (l:=ic.map (jb4 N)) (i:=i) (x:=jb4 N d) (ty:=80) (by rw[f0p,hd'];rfl)
  have hro:=rdS (l:=oc.map (jb4 N)) (i:=i) (x:=jb4 N c) (ty:=80) (by rw[f0p,hc];rfl)
  have lp:=k.bn p (by simp)
  have lci:=k.bn ci (by simp)
  have lco:=k.bn co (by simp)
  have hin:∀ n∈ni,L<=n/\n<hi.next:=fun n hn=>k.lo n (by simp[hn])
  have hon:∀ n∈no,L<=n/\n<hi.next:=fun n hn=>k.lo n (by simp[hn])
  have xs0:=k.xs
  have xf0:=k.xf
  have xp0:=k.ns.xp
  have xi0:=k.ns.xi
  have xo0:=k.ns.xo
  refine WB.loop ?_
  unfold jvt
  refine WB.seq (WB.c ?_)
  unfold j1a
  simp(disch:=first|omega|rfl) only[go_sem,eq_true hlt]
  refine WB.seq (WB.c ?_)
  unfold j1b
  simp(disch:=first|omega|rfl) only[go_sem]
  refine WB.seq (WB.block (WB.seq (WB.c ?_)))
  unfold j4b
  simp(disch:=first|omega|rfl) only[go_sem]
  refine WB.flo ?_
  unfold qcj
  refine WL.pure (v:=.s (.ptr sx 0)) (by simp only[go_sem]) ?_
  refine WL.ld (v:=.s yi) (h':=hi) rfl (by simp only[go_sem,xs0]) (fun j hj=>by simp at hj) (k.si.eqN) ?_
  refine WL.pure (v:=.s (.ptr p 0)) (by simp only[go_sem]) ?_
  refine WL.pure (v:=.s (.ptr p 0)) (by simp only[go_sem]) ?_
  refine WL.pure (v:=.s (.ptr p 2)) (by simp only[go_sem]) ?_
  refine WL.ld (v:=.s (.slice ci 0 f.blocks.length f.blocks.length false 1)) (h':=hi) rfl (by simp only[go_sem,xp0]) (fun j hj=>by simp only[f0e,f0t,or_false] at hj;subst hj;exact⟨_,rfl,.inl rfl⟩) (jhn) ?_
  refine WL.pure (v:=vi i) (by simp only[go_sem]) ?_
  refine WL.pure (v:=.s (.ptr ci i)) (by simp only[go_sem,hsi]) ?_
  refine WL.ld (v:=.s (jb4 N d)) (h':=hi) rfl (by simp only[go_sem,xi0,hri]) (fun j hj=>by simp only[f0e,f0t,or_false] at hj;subst hj;exact⟨_,rfl,.inl rfl⟩) (jhn) ?_
  refine WL.pure (v:=.s (.ptr fx 0)) (by simp only[go_sem]) ?_
  refine WL.ld (v:=.s (jae jal f.values)) (h':=hi) rfl (by simp only[go_sem,xf0]) (fun j hj=>by simp only[f0e,f0t,or_false] at hj;rcases hj with rfl | rfl | rfl<;>first | exact⟨_,rfl,.inl rfl⟩) (jnq _) ?_
  refine WL.pure (v:=vi f.values.length) (by simp only[go_sem,lv]) ?_
  refine WL.call (vs:=[.s (jb4 N d),vi f.values.length]) (by simp only[go_sem]) ?_
  refine jw5 (j4g (k.ns.bi i d hd') hn1 (by omega) (by omega)) ⟨(fun j hj=>by simp only[f0e,f0t,or_false] at hj;subst hj;exact⟨_,rfl,jd0,jd2 (h2:=hi) (by simp only[go_sem,xs0]),k.si.eqN⟩),?_⟩
  obtain⟨h1,eh1,ok1,nx1,xn1,gt1⟩:=jde ok [jae jal (jbo (ins.getD i []) f.values.length)] 27
  have xs1:=(gt1 sx (by omega)).trans xs0
  have xf1:=(gt1 fx (by omega)).trans xf0
  have xp1:=(gt1 p (by omega)).trans xp0
  have xi1:=(gt1 ci (by omega)).trans xi0
  have xo1:=(gt1 co (by omega)).trans xo0
  refine WL.mem (v:=.s (.slice hi.next 0 1 1 true 1)) (h':=h1) rfl rfl (by simp(disch:=first|omega|rfl) only[go_sem];first | rw[←eh1];rfl | (rw[←eh1])) (fun j hj=>by simp only[f0e,f0t,or_false] at hj;subst hj;exact⟨_,rfl,jd0,jd2 (h2:=h1) (by simp only[go_sem,xs1]),k.si.eqN⟩) ?_
  obtain⟨h2,e2,ok2,nx2,gt2,_,sl2⟩:=(k.si.keep (h':=hi) (fun n hn=>rfl)).app1 (bytes:=24) (row:=[jae jal (jbo (ins.getD i []) f.values.length)]) (a:=jbo (ins.getD i []) f.values.length) (ms:=[]) ok (fun n hn=>by have:=hin n hn;omega) rfl ⟨rfl,rfl⟩ (by simp only[f05,f1m];omega) (by simp only[f05,f1m];omega)
  rw[eh1] at e2
  obtain⟨yi1,ex2⟩:∃ x,SV.slice (hi.next+1) 0 (((ins.take i).map (fun ws=>jbo ws f.values.length)).length+1) (((ins.take i).map (fun ws=>jbo ws f.values.length)).length+1) false 1=x:=⟨_,rfl⟩
  rw[ex2] at e2 sl2
  have xs2:=(gt2 sx (by omega) (fun h=>by have:=hin _ h;omega)).trans xs0
  have xf2:=(gt2 fx (by omega) (fun h=>by have:=hin _ h;omega)).trans xf0
  have xp2:=(gt2 p (by omega) (fun h=>by have:=hin _ h;omega)).trans xp0
  have xi2:=(gt2 ci (by omega) (fun h=>by have:=hin _ h;omega)).trans xi0
  have xo2:=(gt2 co (by omega) (fun h=>by have:=hin _ h;omega)).trans xo0
  refine WL.mem (v:=.s yi1) (h':=h2) rfl rfl (by simp only[go_sem];exact e2) (fun j hj=>by simp at hj) ?_
  refine WL.pure (v:=.s (.ptr sx 1)) (by simp only[go_sem]) ?_
  refine WL.ld (v:=.s yo) (h':=h2) rfl (by simp only[go_sem,xs2]) (fun j hj=>by simp only[f0e,f0t,or_false] at hj;rcases hj with rfl | rfl | rfl | rfl | rfl | rfl | rfl<;>first | exact⟨_,rfl,.inl rfl⟩ | (refine⟨_,rfl,.inr ⟨h1,?_⟩⟩;simp only[go_sem,foE,xs1];done) | (refine⟨_,rfl,.inr ⟨hi,?_⟩⟩;simp only[go_sem,foE,xs0];done)) (k.so.eqN) ?_
  refine WL.pure (v:=.s (.ptr p 0)) (by simp only[go_sem]) ?_
  refine WL.pure (v:=.s (.ptr p 0)) (by simp only[go_sem]) ?_
  refine WL.pure (v:=.s (.ptr p 3)) (by simp only[go_sem]) ?_
  refine WL.ld (v:=.s (.slice co 0 f.blocks.length f.blocks.length false 1)) (h':=h2) rfl (by simp only[go_sem,xp2]) (fun j hj=>by simp only[f0e,f0t,or_false] at hj;rcases hj with rfl | rfl | rfl | rfl | rfl | rfl | rfl | rfl<;>first | exact⟨_,rfl,.inl rfl⟩ | (refine⟨_,rfl,.inr ⟨h1,?_⟩⟩;simp only[go_sem,foE,xp1];done) | (refine⟨_,rfl,.inr ⟨hi,?_⟩⟩;simp only[go_sem,foE,xp0];done)) (jhn) ?_
  refine WL.pure (v:=vi i) (by simp only[go_sem]) ?_
  refine WL.pure (v:=.s (.ptr co i)) (by simp only[go_sem,hso]) ?_
  refine WL.ld (v:=.s (jb4 N c)) (h':=h2) rfl (by simp only[go_sem,xo2,hro]) (fun j hj=>by simp only[f0e,f0t,or_false] at hj;rcases hj with rfl | rfl | rfl | rfl | rfl | rfl | rfl | rfl<;>first | exact⟨_,rfl,.inl rfl⟩ | (refine⟨_,rfl,.inr ⟨h1,?_⟩⟩;simp only[go_sem,foE,xo1,hro];done) | (refine⟨_,rfl,.inr ⟨hi,?_⟩⟩;simp only[go_sem,foE,xo0,hro];done)) (jhn) ?_
  refine WL.pure (v:=.s (.ptr fx 0)) (by simp only[go_sem]) ?_
  refine WL.ld (v:=.s (jae jal f.values)) (h':=h2) rfl (by simp only[go_sem,xf2]) (fun j hj=>by simp only[f0e,f0t,or_false] at hj;rcases hj with rfl | rfl | rfl | rfl | rfl | rfl | rfl | rfl | rfl | rfl<;>first | exact⟨_,rfl,.inl rfl⟩ | (refine⟨_,rfl,.inr ⟨h1,?_⟩⟩;simp only[go_sem,foE,xf1];done) | (refine⟨_,rfl,.inr ⟨hi,?_⟩⟩;simp only[go_sem,foE,xf0];done)) (jnq _) ?_
  refine WL.pure (v:=vi f.values.length) (by simp only[go_sem,lv]) ?_
  have gc2:h2.get c=hi.get c:=by
   have lc:=k.bn c (by simp[f0b hc])
   rw[gt2 c (by omega) (fun h=>by have:=hin _ h;omega)]
  refine WL.call (vs:=[.s (jb4 N c),vi f.values.length]) (by simp only[go_sem]) ?_
  refine jw5 (j4g ((k.ns.bo i c hc).keep gc2) hn1 (by omega) (by omega)) ⟨(fun j hj=>by simp only[f0e,f0t,or_false] at hj;subst hj;exact⟨_,rfl,jd0,jd2 (h2:=h2) (by simp only[go_sem,xs2]),k.so.eqN⟩),?_⟩
  obtain⟨h3,eh3,ok3,nx3,xn3,gt3⟩:=jde ok2 [jae jal (jbo (outs.getD i []) f.values.length)] 27
  have xs3:=(gt3 sx (by omega)).trans xs2
  have xf3:=(gt3 fx (by omega)).trans xf2
  have xp3:=(gt3 p (by omega)).trans xp2
  have xi3:=(gt3 ci (by omega)).trans xi2
  have xo3:=(gt3 co (by omega)).trans xo2
  refine WL.mem (v:=.s (.slice h2.next 0 1 1 true 1)) (h':=h3) rfl rfl (by simp(disch:=first|omega|rfl) only[go_sem];first | rw[←eh3];rfl | (rw[←eh3])) (fun j hj=>by simp only[f0e,f0t,or_false] at hj;subst hj;exact⟨_,rfl,jd0,jd2 (h2:=h3) (by simp only[go_sem,xs3]),k.so.eqN⟩) ?_
  obtain⟨h4,e4,ok4,nx4,gt4,_,sl4⟩:=(k.so.keep (h':=h2) (fun n hn=>gt2 n (by have:=hon n hn;omega) (fun h=>k.dj n h hn))).app1 (bytes:=24) (row:=[jae jal (jbo (outs.getD i []) f.values.length)]) (a:=jbo (outs.getD i []) f.values.length) (ms:=[]) ok2 (fun n hn=>by have:=hon n hn;omega) rfl ⟨rfl,rfl⟩ (by simp only[f05,f1m];omega) (by simp only[f05,f1m];omega)
  rw[eh3] at e4
  obtain⟨yo1,ex4⟩:∃ x,SV.slice (h2.next+1) 0 (((outs.take i).map (fun ws=>jbo ws f.values.length)).length+1) (((outs.take i).map (fun ws=>jbo ws f.values.length)).length+1) false 1=x:=⟨_,rfl⟩
  rw[ex4] at e4 sl4
  have xs4:=(gt4 sx (by omega) (fun h=>by have:=hon _ h;omega)).trans xs2
  have xf4:=(gt4 fx (by omega) (fun h=>by have:=hon _ h;omega)).trans xf2
  have xp4:=(gt4 p (by omega) (fun h=>by have:=hon _ h;omega)).trans xp2
  have xi4:=(gt4 ci (by omega) (fun h=>by have:=hon _ h;omega)).trans xi2
  have xo4:=(gt4 co (by omega) (fun h=>by have:=hon _ h;omega)).trans xo2
  refine WL.mem (v:=.s yo1) (h':=h4) rfl rfl (by simp only[go_sem];exact e4) (fun j hj=>by simp at hj) ?_
  refine WL.pure (v:=.s (.ptr sx 0)) (by simp only[go_sem]) ?_
  obtain⟨h5,eh5,ok5,nx5,xs5,gt5⟩:=jq7 ok4 b1 (some (.arr [yi1,yo] 52))
  refine WL.mem (v:=.undef) (h':=h5) rfl rfl (by simp(disch:=first|omega|rfl) only[go_sem,xs4,eh5]) (fun j hj=>by simp at hj) ?_
  refine WL.pure (v:=.s (.ptr sx 1)) (by simp only[go_sem]) ?_
  obtain⟨h6,eh6,ok6,nx6,xs6,gt6⟩:=jq7 ok5 b1 (some (.arr [yi1,yo1] 52))
  refine WL.mem (v:=.undef) (h':=h6) rfl rfl (by simp(disch:=first|omega|rfl) only[go_sem,xs5,eh6]) (fun j hj=>by simp at hj) ?_
  refine WL.nil ?_
  refine WB.c ?_
  unfold j4c
  simp(disch:=first|omega|rfl) only[go_sem,jab,hs]
  have g6:∀ n,n≠sx->h6.get n=h4.get n:=fun n hn=>by rw[gt6 n hn,gt5 n hn]
  have gA:∀ n,n<hi.next->n≠sx->n∉ni++no->h6.get n=hi.get n:=fun n hn hp hm=>by
   have m1:n∉ni:=fun h=>hm (by simp[h])
   have m2:n∉no:=fun h=>hm (by simp[h])
   rw[g6 n hp,gt4 n (by omega) m2,gt2 n (by omega) m1]
  have gL:∀ n,n<L->n≠sx->h6.get n=hi.get n:=fun n hn hp=>gA n (by omega) hp (fun hm=>by have:=(k.lo n hm).1;omega)
  have hni:=k.ti
  have hno:=k.to
  rw[hni] at sl2
  rw[hno] at sl4
  have tki:(ins.take i).map (fun ws=>jbo ws f.values.length)++[jbo (ins.getD i []) f.values.length]=(ins.take (i+1)).map (fun ws=>jbo ws f.values.length):=by
   rw[f15 hii,f2l]
   rw[f0c,f0a hii];rfl
  have tko:(outs.take i).map (fun ws=>jbo ws f.values.length)++[jbo (outs.getD i []) f.values.length]=(outs.take (i+1)).map (fun ws=>jbo ws f.values.length):=by
   rw[f15 hoo,f2l]
   rw[f0c,f0a hoo];rfl
  rw[tki] at sl2
  rw[tko] at sl4
  have k':SI h6 f N p ci co sx fx L ic oc ins outs (i+1) [hi.next+1] [h2.next+1] yi1 yo1:=by
   refine⟨k.ns.keep ok6 (by omega) (fun n hn=>gL n (k.bn n hn).1 (k.bn n hn).2),xs6,(gL fx b4 (fun e=>b5 e.symm)).trans k.xf,?_,?_,rfl,rfl,⟨b1,b2,b3,b4,b5,by omega⟩,k.bn,?_,?_⟩
   .exact (sl2 (fun _ _ _ _ h=>h)).keep (fun n hn=>by
     obtain rfl:=f0k.1 hn
     rw[g6 _ (by omega),gt4 _ (by omega) (fun h=>by have:=hon _ h;omega)])
   .exact (sl4 (fun _ _ _ _ h=>h)).keep (fun n hn=>by
     obtain rfl:=f0k.1 hn
     exact g6 _ (by omega))
   .intro n hn
    simp only[f0g,f0k] at hn
    rcases hn with rfl | rfl<;>omega
   .intro n hn hm
    obtain rfl:=f0k.1 hn
    have:=f0k.1 hm
    omega
  exact qij lv' dd (i+1) (by omega) k' (fun hj ni no yi yo x3 x6 kj nj gj=>hQ hj ni no yi yo x3 x6 kj (by omega) (fun n h1 h2=>(gj n h1 h2).trans (gL n h1 h2)))
theorem qqc (k:FcOk m f) (hv:f.values≠[]):LvOk f ((f.values.length+63) / 64):=by
 have hnv:=k.nv
 have hp:=f1g.2 hv
 refine⟨k.nb.2,by omega,rfl,by omega,fun b hb=>?_⟩
 have h1:=k.blk b hb
 refine⟨h1.1,h1.2.1,h1.2.2,k.prm b hb,fun x hx=>⟨(k.ins b hb x hx).nops,fun o ho=>((k.ins b hb x hx).opd o ho).val⟩,fun e he=>?_⟩
 obtain⟨_,h3,t,h4,h5,_⟩:=k.edg b hb e he
 have h6:=congrArg List.length h5
 simp only[f05] at h6
 have:=(k.blk t (f0b h4)).1
 exact⟨by omega,(f0h.1 h4).1,h3⟩
def q1c (s:List Bool):Bool:=(Nat.ble 1 (jkk s 0).length&&Nat.ble (jkk s 0).length 100)&&((jkk s 0).all (fun q=>Nat.blt q (1+3*s.length))&&(List.range (1+3*s.length)).all (fun q=>(jkk s 0).any (fun x=>Nat.beq x q)))
theorem qfy:(shp 5).all q1c=true:=by kernel_rfl
theorem qik (hs:s.length<=5):jkk s 0≠[]/\(jkk s 0).length<=100/\(∀ q∈jkk s 0,q<1+3*s.length)/\∀ q,q<1+3*s.length->q∈jkk s 0:=by
 have h:=qb7 qfy hs
 have ha:∀ {a b:Bool},(a&&b)=true->a=true/\b=true:=fun {a b} h=>by cases a<;>cases b<;>first | exact⟨rfl,rfl⟩ | cases h
 obtain⟨h12,h34⟩:=ha h
 obtain⟨h1,h2⟩:=ha h12
 obtain⟨h3,h4⟩:=ha h34
 refine⟨fun e=>(by rw[e] at h1;cases h1),f0m h2,fun q hq=>f0m (f24.1 h3 q hq),fun q hq=>?_⟩
 obtain⟨x,hx,e⟩:=f3x.1 (f24.1 h4 q (f2b.2 hq))
 obtain rfl:=f0w e
 exact hx
def jkw (l:List Nat):List SV:=[jae jal l]
def jm3 (n:Nat) (l:List (List Nat)):List (List Nat):=l.map (fun ws=>jbo ws n)
def qqd (n:Nat) (ins outs:List (List Nat)):AV:=.tup [(true,[jae jkw (jm3 n ins),jae jkw (jm3 n outs)]),(false,[si 0])]
def qyz:FB1:=⟨13,j4f,2,13,[(.cell 10 2 true),(.tmp 2)]⟩
def FLS:Fns:=BX noB qyz FLB
theorem qfz {h:Hp} {Q:AV->Hp->Prop} (o:FlOk m f s) (m1:2<=m.1/\m.1<=10) (m2:2<=m.2/\m.2<=10):WC FLB 12 [.agg [jae jal f.values,jae jax f.blocks],.agg [si m.1,si m.2]] h Q=Q (j52 s) h :=
 jap ((jdd rfl).trans ((ja0 rfl).trans (jba rfl (by simp only[jaq,jav,ja5,jbr,jaw,ja6,ja4,jbi,ja7,jbc,if_true]) (qcb jda o m1 m2))))
theorem qf0 {f:SV->Option SV} {a b x y:SV} (h1:f a=some x) (h2:f b=some y):jg5 f [a,b]=some [x,y]:=jb8 h1 (jh7 h2)
theorem qf1 {h:Hp} (ok:Ok h) (o:FlOk m f s) (m1:2<=m.1/\m.1<=10) (m2:2<=m.2/\m.2<=10) :
 WC FLS 13 [.agg [jae jal f.values,jae jax f.blocks],.agg [si m.1,si m.2]] h (fun v h'=>∃ ins outs,JJ f.values.length ((f.values.length+63) / 64) f.blocks ins outs/\(∀ q,q<f.blocks.length->FxB f.blocks ins outs q)/\∃ d,jf2 true h' d v=some (qqd f.values.length ins outs)):=by
 obtain⟨h1o,h2o,h3o,h4o⟩:=qik o.hs
 have hlen:=o.len
 have lv:=qqc o.k o.hv
 obtain⟨N,eN⟩:∃ N,(f.values.length+63) / 64=N:=⟨_,rfl⟩
 rw[eN] at lv ⊢
 refine qkt (q:=qyz) rfl ?_
 show WB FLB noB j4f (.mk ([.agg [jae jal f.values,jae jax f.blocks],.agg [si m.1,si m.2]]++jdb 13) h) (qc9 [(.cell 10 2 true),(.tmp 2)] _)
 unfold j4f
 have hpos:=ok.pos
 obtain⟨hA,eA,okA,nA,xA,gA⟩:=jde ok [jae jal f.values,jae jax f.blocks] 30
 obtain⟨hB,eB,okB,nB,xB,gB⟩:=jde okA [si m.1,si m.2] 25
 obtain⟨hC,eC,okC,nC,xC,gC⟩:=jde okB [.nilSlice,.nilSlice] 52
 have yA:=(gC _ (by omega)).trans ((gB _ (by omega)).trans xA)
 have yB:=(gC _ (by omega)).trans xB
 refine WB.seq (WB.c ?_)
 unfold qcc
 simp(disch:=first|omega|rfl) only[go_sem,eA,eB,eC]
 obtain⟨hD,eD,okD,nD,xD,gD⟩:=jbt okC [.nilSlice,.nilSlice,.nilSlice] [jae jal (jkk s 0),jae jjd (jeb s),jae jal (qh2 s)] 36
 have zA:=(gD _ (by omega)).trans yA
 have zC:=(gD _ (by omega)).trans xC
 refine WB.seq (WB.c ?_)
 unfold qcd
 simp(disch:=first|omega|rfl) only[go_sem,yA,yB,qfz o m1 m2,j52,j04,eD]
 refine WB.seq (WB.seq (WB.c ?_))
 unfold qce
 simp(disch:=first|omega|rfl) only[go_sem]
 refine WB.c ?_
 unfold qcf
 simp(disch:=first|omega|rfl) only[go_sem]
 refine WB.seq (WB.c ?_)
 unfold qcg
 simp(disch:=first|omega|rfl) only[go_sem,zA,xD]
 refine WC.imp (jqo okD lv o.hne h1o (by omega) (fun q hq=>by have:=h3o q hq;omega)) ?_
 rintro _ hE ⟨p,ci,co,ic,oc,ins,outs,rfl,ns,jj,fx,nE,gE⟩
 have okE:=ns.ok
 have wA:=(gE _ (by omega)).trans zA
 have wC:=(gE _ (by omega)).trans zC
 simp(disch:=first|omega|rfl) only[go_sem]
 obtain⟨hF,eF,okF,nF,xF,gF⟩:=jde okE [.nilSlice,.nilSlice] 52
 have vA:=(gF _ (by omega)).trans wA
 have vC:=(gF _ (by omega)).trans wC
 refine WB.seq (WB.c ?_)
 unfold qch
 simp(disch:=first|omega|rfl) only[go_sem,eF]
 have lb:=jaf (enc:=jax) (l:=f.blocks)
 refine WB.seq (WB.seq (WB.c ?_))
 unfold qci
 simp(disch:=first|omega|rfl) only[go_sem,vA,lb]
 have k0:SI hF f N p ci co hE.next h.next hF.next ic oc ins outs 0 [] [] .nilSlice .nilSlice:=⟨ns.keep okF (by omega) (fun n hn=>gF n (ns.lt n hn).2),xF,vA,Sl.nil,Sl.nil,rfl,rfl,⟨by omega,by omega,by omega,by omega,by omega,f0f _⟩,fun n hn=>by have:=(ns.lt n hn).2;omega,by simp,by simp⟩
 refine WB.block (qij lv f.blocks.length 0 (by omega) k0 (fun hj ni no yi yo x3 x6 kj nj gj=>?_))
 have okj:=kj.ns.ok
 have xsj:=kj.xs
 have uC:=(gj _ (by omega) (by omega)).trans vC
 obtain⟨hG,eG,okG,nG,xG,gG⟩:=jq7 okj (show 1<=hB.next by omega) (some (.arr [yi,yo] 52))
 refine WB.seq (WB.c ?_)
 unfold j4d
 simp(disch:=first|omega|rfl) only[go_sem,xsj,uC,eG]
 refine WB.c ?_
 unfold j4e
 simp(disch:=first|omega|rfl) only[go_sem,xG]
 refine⟨ins,outs,jj,fun q hq=>fx q (h4o q (by omega)),3,?_⟩
 have s1:=kj.si
 have s2:=kj.so
 rw[f2q (by rw[jj.li];exact f0f _)] at s1
 rw[f2q (by rw[jj.lo];exact f0f _)] at s2
 have k1:=s1.keep (h':=hG) (fun n hn=>gG n (by have:=kj.lo n (by simp[hn]);omega))
 have k2:=s2.keep (h':=hG) (fun n hn=>gG n (by have:=kj.lo n (by simp[hn]);omega))
 have e1:=k1.frz (enc:=jkw) (k:=true) (d:=2) (fun row a ms e=>by obtain⟨rfl,_⟩:=e;exact jh7 jkv) (fun _=>rfl)
 have e2:=k2.frz (enc:=jkw) (k:=true) (d:=2) (fun row a ms e=>by obtain⟨rfl,_⟩:=e;exact jh7 jkv) (fun _=>rfl)
 show ob (ob (jg5 (jg3 true hG 3) [yi,yo]) (fun x=>ob (qc8 (jg3 true hG 3) [(false,[.int .i64 0])]) (fun r=>some ((true,x)::r)))) (fun y=>some (AV.tup y))=_
 rw[qf0 e1 e2]
 rfl
def SL2 (f:FuncId):Bool:=Nat.beq f 13
def FL2:Fns:=PX SL2 FLS
theorem qy0 {A:Nat->Int}:Env Try.prog A tys FL2:=je4 (j8x qyy qgl (qw2 quz))
end
end Go.Proofs.Ytehhjbfmjdlcjaa.Ev
