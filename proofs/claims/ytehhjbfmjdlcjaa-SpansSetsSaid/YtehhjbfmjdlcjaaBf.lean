/- A range over a function in runs that keep something: its rule. No program in sight. -/
import Derived.Test.YtehhjbfmjdlcjaaWb
import Derived.Test.YtehhjbfmjdlcjaaEnc
import Derived.Test.YtehhjbfmjdlcjaaMc4
import Derived.Test.YtehhjbfmjdlcjaaBd
namespace Go.Proofs.Ytehhjbfmjdlcjaa.Ev
open Go Go.RowKit Go.Proofs.Ytehhjbfmjdlcjaa.Ms
set_option linter.all false
section
variable {F:Fns} {B:FuncId->Bool}
theorem j3w {ib:IC} {fr:List AV} {d bs off b o N:Nat} {es:List SV} {I:Nat->Hp->Prop}
 (step:∀ k h,k<N->I (k+1) h->∃ e,es[k]?=some e/\W F ib (.mk (jqu fr d (.s e)) h) (fun ex s=>ex=.normal/\∃ fr' h',s=.mk fr' h'/\jq0 h' bs off b o N es=true/\I k h')) :
 ∀ k h,k<=N->I k h->∃ m hf,rounds F m ib fr d bs off b o N es k h=some hf/\I 0 hf
 | 0,h,_,hI=>⟨0,h,rfl,hI⟩
 | k+1,h,hk,hI=>by
  obtain⟨e,he,n,ex,s',h1,rfl,fr',h',rfl,h2,h3⟩:=step k h (by omega) hI
  obtain⟨m,hf,h4,h5⟩:=j3w step k h' (by omega) h3
  have h1':=jc5 F (f1h n m) _ _ _ h1
  refine⟨max n m,hf,jaa.2 ⟨e,by rw[jcd];exact he,jaa.2 ⟨_,h1',?_⟩⟩,h5⟩
  exact jac.2 ⟨h2,ji4 (f1q n m) _ _ _ h4⟩
theorem WB.back {ib:IC} {fr:List AV} {h:Hp} {x:Od} {d:Nat} {Q:Ex->St->Prop} {gf bs off:Nat} {v0:SV} {rest:List SV} {b o N:Nat} {es:List SV} (I:Nat->Hp->Prop)
 (hx:ev [] fr x=some (.s (.func gf [(bs,off)]))) (hB:B gf=true) (hr:rd h bs off 1=some (v0::rest)) (hs:j5a h v0=some (b,o,N,es)) (h1:1<=N) (h2:N<=1000000) (h3:jq0 h bs off b o N es=true)
 (step:∀ k h,k<N->I (k+1) h->∃ e,es[k]?=some e/\W F ib (.mk (jqu fr d (.s e)) h) (fun ex s=>ex=.normal/\∃ fr' h',s=.mk fr' h'/\jq0 h' bs off b o N es=true/\I k h')) (h0:I N h) (hQ:∀ h',I 0 h'->Q .normal (.mk fr h')):WB F B (.back x d ib) (.mk fr h) Q:=by
 obtain⟨m,hf,h4,h5⟩:=j3w step N h (f0f _) h0
 refine⟨1,m,.normal,.mk fr hf,?_,hQ hf h5⟩
 show jmp F m B (.mk fr h) x d ib=_
 refine jaa.2 ⟨_,hx,?_⟩
 show oif (B gf) (jon F m fr h d ib bs off) none=_
 refine jac.2 ⟨hB,jaa.2 ⟨_,hr,?_⟩⟩
 exact jaa.2 ⟨_,hs,jac.2 ⟨f20 h1,jac.2 ⟨f20 h2,jac.2 ⟨h3,jaa.2 ⟨hf,h4,rfl⟩⟩⟩⟩⟩
end
theorem qhy (l:List Nat):jsl 1 (l.map jal)=some (l.map (fun(n:Nat)=>si (n:Int))):=by
 induction l with
 | nil=>rfl
 | cons a l ih =>
  show ob (jsl 1 (l.map jal)) (fun r=>some (jgn (jal a) r))=_
  rw[ih];rfl
theorem jsg (n:Int):j47 (si n) (si n)=true:=by
 show oif (Nat.beq (ikn .i64) (ikn .i64)) (ieq n n) false=true
 rw[f16]
 show ieq n n=true
 rw[jcq];simp
theorem jya:∀ l:List Nat,jze (l.map (fun(n:Nat)=>si (n:Int))) (l.map (fun(n:Nat)=>si (n:Int)))=true
 | []=>rfl
 | a::l=>by
  show oif (j47 (si a) (si a)) (jze (l.map (fun(n:Nat)=>si (n:Int))) (l.map (fun(n:Nat)=>si (n:Int)))) false=true
  rw[jsg];exact jya l
theorem qbd {h:Hp} {l:List Nat} (hl:l≠[]):j5a h (jae jal l)=some (0,0,l.length,l.map (fun(n:Nat)=>si (n:Int))):=by
 cases l with
 | nil=>exact absurd rfl hl
 | cons a l =>
  show ob (jsl 1 ((a::l).map jal)) (fun es=>some (0,0,jd3 es,es))=_
  rw[qhy]
  show some (0,0,jd3 ((a::l).map (fun(n:Nat)=>si (n:Int))),(a::l).map (fun(n:Nat)=>si (n:Int)))=_
  rw[jbw,f05]
theorem j3x {h:Hp} {bs off:Nat} {l:List Nat} (hl:l≠[]) (hr:rd h bs off 1=some [jae jal l]):jq0 h bs off 0 0 l.length (l.map (fun(n:Nat)=>si (n:Int)))=true:=by
 cases l with
 | nil=>exact absurd rfl hl
 | cons a l =>
  unfold jq0
  rw[hr]
  show oif (Nat.beq (jd3 ((a::l).map (fun(n:Nat)=>si (n:Int)))) (a::l).length) (qvh ((a::l).map (fun(n:Nat)=>si (n:Int))) [.lst ((a::l).map jal)]) false=true
  rw[jbw,f05,f16]
  show Option.rec (motive:=fun _=>Bool) false (fun x=>jze x ((a::l).map (fun(n:Nat)=>si (n:Int)))) (jsl 1 ((a::l).map jal))=true
  rw[qhy]
  exact jya _
open Go Go.RowKit
set_option maxRecDepth 100000
def qbe:IC:=.region [qB 13 (.box 30 (.g 0)),qQ 2 (.mv (.c (.s .nilPtr)))]
def qbf:IC:=.region [qA (.load 2 true (.g 13)),qP (.build [.nilSlice,.nilSlice,.nilSlice,.nilSlice] [(0,(2,qa))]),qA (.box 83 qa),qB 9 (.new 77 [.nilPtr]),qA (.store 1 qa qb)]
def qbg:IC:=.region [qF 1 13,qL,qQ 11 (.len qa),qQ 12 (.mv (qC 0))]
def j0z:IC:=.region [qQ 10 (.bin .lt (.g 12) (.g 11))]
def j00:IC:=qX 10 0
def qbh:List (IOper×List Nat):=[(qA (.load 1 false (.g 9)),[]),(qA (.load 1 false (.g 9)),[0]),(qA (.load 1 false (.g 9)),[0,1]),(qN,[]),(qG 2,[]),(qL,[3,4]),(qF 0 13,[]),(qL,[1,4,5,6]),(qP (.len qa),[]),(qA (.call 40 [qa]),[3,6,7,8]),(qA (.bslice 80 1 [.nilSlice] 1 [(0,(1,qa))]),[4,7,8,9]),(qA (.app 80 1 24 (.l 5) qa),[9,10]),(qA (.load 1 false (.g 9)),[0,1,2,4,6,9,10,11]),(qN,[]),(qG 3,[]),(qL,[3,4,5,7,9,12,13,14]),(qF 0 13,[]),(qL,[1,4,5,6,7,9,11,14,15,16]),(qP (.len qa),[]),(qA (.call 40 [qa]),[3,6,17,18]),(qA (.bslice 80 1 [.nilSlice] 1 [(0,(1,qa))]),[4,7,18,19]),(qA (.app 80 1 24 (.l 5) qa),[19,20]),(qP (.nchk (.l 21)),[]),(qG 2,[]),(qA (.store 1 qa (.l 12)),[22]),(qP (.nchk (.l 23)),[]),(qG 3,[]),(qA (.store 1 qa (.l 5)),[])]
def qbi:IC:=.region [qI 12,qT 12]
def jvj:IB:=.seq (.c j0z) (.seq (.c j00) (.seq (.block 1 (.flo qbh)) (.c qbi)))
def qbj:IC:=.region [qB 8 (.new 4 [.bool false]),qA (.store 1 qa (.c (.s (.bool true))))]
def j01:IC:=.region [qB 7 (.load 1 false (.g 8))]
def j02:IC:=qX 7 2
def j3y:IC:=.region [qA (.store 1 (.g 8) (.c (.s (.bool false))))]
def j3z:IC:=.region [qM 1,qB 6 (.call 41 [qa])]
def jnp:IC:=.block 5 (qr [qA (.load 1 false (.g 9)),qM 5,qB 4 (.call 42 [qb,qa])] (.cond (.g 4) (.region [qA (.store 1 (.g 8) (.c (.s (.bool true))))]) .skip))
def j30:IC:=.region [qB 3 (.load 1 false (.g 8))]
def j31:IC:=.region [qB 8 (.new 4 [.bool false]),qA (.store 1 qa (.g 3))]
def jqg:IB:=.seq (.seq (.c j01) (.c j02)) (.seq (.block 3 (.seq (.c j3y) (.seq (.c j3z) (.block 4 (.back (.g 6) 5 jnp))))) (.seq (.c j30) (.c j31)))
def j32:IC:=.region [qA (.load 1 false (.g 9)),qT 2]
def j33:IC:=.ret
def j34:IB:=.seq (.c qbe) (.seq (.c qbf) (.seq (.seq (.c qbg) (.block 0 (.loop jvj))) (.seq (.seq (.c qbj) (.block 2 (.loop jqg))) (.seq (.c j32) (.c j33)))))
theorem qs0:TB 26 true=some (.mk j34 2 12 [(.tmp 2)]):=by kernel_rfl
attribute [local go_sem] Int.reduceToNat reduceCtorEq Nat.reduceAdd Nat.reduceMul Nat.reduceEqDiff Int.reduceEq Int.reduceLT Int.reduceLE Int.reduceNeg Int.reduceAdd Int.reduceSub Int.reduceMul Int.reduceNe
attribute [local go_sem ↓] reduceIte
set_option maxHeartbeats 4000000
theorem jvk {α:Type} {f:α->α->Bool}:∀ {l:List α},(∀ a∈l,f a a=true)->eqL f l l=true
 | [],_=>rfl
 | a::l,h=>by
  show oif (f a a) (eqL f l l) false=true
  rw[h a (by simp)]
  exact jvk (fun b hb=>h b (by simp[hb]))
theorem jnq (l:List Nat):eqN (.s (jae jal l)) (.s (jae jal l))=true:=by
 cases l with
 | nil=>rfl
 | cons a l =>
  show eqL (eqL (eqS 8)) ((a::l).map jal) ((a::l).map jal)=true
  refine jvk (fun row hr=>?_)
  obtain⟨n,_,rfl⟩:=f1a.1 hr
  refine jvk (fun c hc=>?_)
  obtain rfl:=f0k.1 hc
  exact jsg (n:Int)
theorem jfg (b o:Nat):eqN (.s (.ptr b o)) (.s (.ptr b o))=true:=by
 show oif (Nat.beq b b) (Nat.beq o o) false=true
 rw[f16,f16];rfl
def EBt (N:Nat) (row:List SV) (d:Nat) (ns:List Nat):Prop:=row=[jb4 N d]/\ns=[]
structure CI (hi:Hp) (f:Fc) (N p bx fx L:Nat) (ic oc ni no:List Nat) (xi xo:SV):Prop where
 ok:Ok hi
 xb:hi.get bx=some (.arr [.ptr p 0] 77)
 xf:hi.get fx=some (.arr [jae jal f.values,jae jax f.blocks] 30)
 xp:hi.get p=some (.arr [jae jal f.values,jae jax f.blocks,xi,xo] 83)
 si:Sl hi 80 1 false (EBt N) xi ic ni
 so:Sl hi 80 1 false (EBt N) xo oc no
 ti:ni.tail=[]
 to:no.tail=[]
 bi:∀ c∈ic++oc,BW hi (jb4 N c) N (jgy N) c
 bl:1<=bx/\bx<L/\1<=fx/\fx<L/\1<=p/\p<L/\bx≠fx/\bx≠p/\fx≠p/\L<=hi.next
 lo:∀ n∈(ic++oc)++(ni++no),L<=n/\n<hi.next
 nd:(ic++oc).Nodup
 hd:∀ n∈ni++no,n∉ic++oc
 dj:∀ n∈ni,n∉no
section
variable {F:Fns} (B:RdF F)
include B
theorem qhz {BB:FuncId->Bool} {f:Fc} {N p bx fx L:Nat} (hv:f.values.length<=10000) (hN:(f.values.length+63) / 64=N) (hb:f.blocks.length<=16) {x0 x1 x2 x3 x4 x5 x6 x7 x8:AV} {Q:Ex->St->Prop} :
 ∀ (d i:Nat) (_:i+d=f.blocks.length) {hi:Hp} {ic oc ni no:List Nat} {xi xo:SV} (_:CI hi f N p bx fx L ic oc ni no xi xo) (_:ic.length=i/\oc.length=i) {x10:AV}
  (hQ:∀ hj ic oc ni no xi xo x10,CI hj f N p bx fx L ic oc ni no xi xo->ic.length=f.blocks.length/\oc.length=f.blocks.length->hi.next<=hj.next->(∀ n,n<L->n≠p->hj.get n=hi.get n)->Q (.exit 0) (.mk [x0,x1,x2,x3,x4,x5,x6,x7,x8,.s (.ptr bx 0),x10,vi f.blocks.length,vi f.blocks.length,.s (.ptr fx 0)] hj)),
  WB F BB (.loop jvj) (.mk [x0,x1,x2,x3,x4,x5,x6,x7,x8,.s (.ptr bx 0),x10,vi f.blocks.length,vi i,.s (.ptr fx 0)] hi) Q
 | 0,i,hd,hi,ic,oc,ni,no,xi,xo,k,hl,x10,hQ=>by
  obtain rfl:i=f.blocks.length:=by omega
  refine WB.loop ?_
  unfold jvj
  refine WB.seq (WB.c ?_)
  unfold j0z
  simp(disch:=first|omega|rfl) only[go_sem,f0o]
  refine WB.seq (WB.c ?_)
  unfold j00
  simp(disch:=first|omega|rfl) only[go_sem]
  exact hQ hi _ _ _ _ _ _ _ k hl (f0f _) (fun _ _ _=>rfl)
 | d+1,i,hd,hi,ic,oc,ni,no,xi,xo,k,hl,x10,hQ=>by
  have hlt:(i:Int)<(f.blocks.length:Int):=by omega
  have hs:(i:Int)+1=((i+1:Nat):Int):=by omega
  have lv:=jaf (enc:=jal) (l:=f.values)
  have ok:=k.ok
  obtain⟨b1,b2,b3,b4,b5,b6,b7,b8,b9,b10⟩:=k.bl
  have hin:∀ n∈ni,L<=n/\n<hi.next:=fun n hn=>k.lo n (by simp[hn])
  have hon:∀ n∈no,L<=n/\n<hi.next:=fun n hn=>k.lo n (by simp[hn])
  have xb0:=k.xb
  have xf0:=k.xf
  have xp0:=k.xp
  refine WB.loop ?_
  unfold jvj
  refine WB.seq (WB.c ?_)
  unfold j0z
  simp(disch:=first|omega|rfl) only[go_sem,eq_true hlt]
  refine WB.seq (WB.c ?_)
  unfold j00
  simp(disch:=first|omega|rfl) only[go_sem]
  refine WB.seq (WB.block (WB.flo ?_))
  unfold qbh
  refine WL.ld (v:=.s (.ptr p 0)) (h':=hi) rfl (by simp only[go_sem,xb0]) (fun j hj=>by simp at hj) (jfg _ _) ?_
  refine WL.ld (v:=.s (.ptr p 0)) (h':=hi) rfl (by simp only[go_sem,xb0]) (fun j hj=>by simp only[f0e,f0t,or_false] at hj;subst hj;exact⟨_,rfl,.inl rfl⟩) (jfg _ _) ?_
  refine WL.ld (v:=.s (.ptr p 0)) (h':=hi) rfl (by simp only[go_sem,xb0]) (fun j hj=>by simp only[f0e,f0t,or_false] at hj;rcases hj with rfl | rfl<;>first | exact⟨_,rfl,.inl rfl⟩) (jfg _ _) ?_
  refine WL.pure (v:=.s (.ptr p 0)) (by simp only[go_sem]) ?_
  refine WL.pure (v:=.s (.ptr p 2)) (by simp only[go_sem]) ?_
  refine WL.ld (v:=.s xi) (h':=hi) rfl (by simp only[go_sem,xp0]) (fun j hj=>by simp only[f0e,f0t,or_false] at hj;rcases hj with rfl | rfl<;>first | exact⟨_,rfl,.inl rfl⟩) (k.si.eqN) ?_
  refine WL.pure (v:=.s (.ptr fx 0)) (by simp only[go_sem]) ?_
  refine WL.ld (v:=.s (jae jal f.values)) (h':=hi) rfl (by simp only[go_sem,xf0]) (fun j hj=>by simp only[f0e,f0t,or_false] at hj;rcases hj with rfl | rfl | rfl | rfl<;>first | exact⟨_,rfl,.inl rfl⟩) (jnq _) ?_
  refine WL.pure (v:=vi f.values.length) (by simp only[go_sem,lv]) ?_
  refine WL.call (vs:=[vi f.values.length]) (by simp only[go_sem]) ?_
  refine WC.imp (j0y (F:=F) ok (n:=f.values.length) (by omega) (B.none _ (by simp) _ _) (B.T _)) ?_
  rintro _ h1 ⟨rfl,ok1,nx1,gt1,bw1⟩
  rw[hN] at bw1
  rw[hN]
  obtain⟨c1,ec1⟩:∃ c,hi.next=c:=⟨_,rfl⟩
  rw[ec1] at bw1 nx1
  rw[ec1]
  have xb1:=(gt1 bx (by omega)).trans xb0
  have xf1:=(gt1 fx (by omega)).trans xf0
  have xp1:=(gt1 p (by omega)).trans xp0
  refine⟨(fun j hj=>by simp only[f0e,f0t,or_false] at hj;rcases hj with rfl | rfl | rfl | rfl<;>first | (refine⟨_,rfl,jd0,jd2 (h2:=h1) ?_,k.si.eqN⟩;simp only[go_sem,xp1];done) | (refine⟨_,rfl,jd0,jd2 (h2:=h1) ?_,jfg _ _⟩;simp only[go_sem,xb1];done)),?_⟩
  obtain⟨h2,eh2,ok2,nx2,xn2,gt2⟩:=jde ok1 [jb4 N c1] 80
  have xb2:=(gt2 bx (by omega)).trans xb1
  have xf2:=(gt2 fx (by omega)).trans xf1
  have xp2:=(gt2 p (by omega)).trans xp1
  refine WL.mem (v:=.s (.slice h1.next 0 1 1 true 1)) (h':=h2) rfl rfl (by simp(disch:=first|omega|rfl) only[go_sem];first | rw[←eh2];rfl | (rw[←eh2])) (fun j hj=>by simp only[f0e,f0t,or_false] at hj;rcases hj with rfl | rfl | rfl | rfl<;>first | (refine⟨_,rfl,jd0,jd2 (h2:=h2) ?_,k.si.eqN⟩;simp only[go_sem,xp2];done) | (refine⟨_,rfl,jd0,jd2 (h2:=h2) ?_,jfg _ _⟩;simp only[go_sem,xb2];done)) ?_
  obtain⟨h3,e3,ok3,nx3,gt3,_,sl3⟩:=(k.si.keep (h':=h1) (fun n hn=>gt1 n (by have:=hin n hn;omega))).app1 (bytes:=24) (row:=[jb4 N c1]) (a:=c1) (ms:=[]) ok1 (fun n hn=>by have:=hin n hn;omega) rfl ⟨rfl,rfl⟩ (by omega) (by omega)
  rw[eh2] at e3
  obtain⟨xi1,ex3⟩:∃ x,SV.slice (h1.next+1) 0 (ic.length+1) (ic.length+1) false 1=x:=⟨_,rfl⟩
  rw[ex3] at e3 sl3
  have xb3:=(gt3 bx (by omega) (fun h=>by have:=hin _ h;omega)).trans xb1
  have xf3:=(gt3 fx (by omega) (fun h=>by have:=hin _ h;omega)).trans xf1
  have xp3:=(gt3 p (by omega) (fun h=>by have:=hin _ h;omega)).trans xp1
  refine WL.mem (v:=.s xi1) (h':=h3) rfl rfl (by simp only[go_sem];exact e3) (fun j hj=>by simp only[f0e,f0t,or_false] at hj;rcases hj with rfl | rfl<;>first | (refine⟨_,rfl,jd0,jd2 (h2:=h3) ?_,jfg _ _⟩;simp only[go_sem,xb3];done)) ?_
  refine WL.ld (v:=.s (.ptr p 0)) (h':=h3) rfl (by simp only[go_sem,xb3]) (fun j hj=>by simp only[f0e,f0t,or_false] at hj;rcases hj with rfl | rfl | rfl | rfl | rfl | rfl | rfl | rfl<;>first | exact⟨_,rfl,.inl rfl⟩ | (refine⟨_,rfl,.inr ⟨h2,?_⟩⟩;simp only[go_sem,foE,xb2];done) | (refine⟨_,rfl,.inr ⟨h1,?_⟩⟩;simp only[go_sem,foE,xb1];done) | (refine⟨_,rfl,.inr ⟨hi,?_⟩⟩;simp only[go_sem,foE,xb0];done)) (jfg _ _) ?_
  refine WL.pure (v:=.s (.ptr p 0)) (by simp only[go_sem]) ?_
  refine WL.pure (v:=.s (.ptr p 3)) (by simp only[go_sem]) ?_
  refine WL.ld (v:=.s xo) (h':=h3) rfl (by simp only[go_sem,xp3]) (fun j hj=>by simp only[f0e,f0t,or_false] at hj;rcases hj with rfl | rfl | rfl | rfl | rfl | rfl | rfl | rfl<;>first | exact⟨_,rfl,.inl rfl⟩ | (refine⟨_,rfl,.inr ⟨h2,?_⟩⟩;simp only[go_sem,foE,xp2];done) | (refine⟨_,rfl,.inr ⟨h1,?_⟩⟩;simp only[go_sem,foE,xp1];done) | (refine⟨_,rfl,.inr ⟨hi,?_⟩⟩;simp only[go_sem,foE,xp0];done)) (k.so.eqN) ?_
  refine WL.pure (v:=.s (.ptr fx 0)) (by simp only[go_sem]) ?_
  refine WL.ld (v:=.s (jae jal f.values)) (h':=h3) rfl (by simp only[go_sem,xf3]) (fun j hj=>by simp only[f0e,f0t,or_false] at hj;rcases hj with rfl | rfl | rfl | rfl | rfl | rfl | rfl | rfl | rfl | rfl<;>first | exact⟨_,rfl,.inl rfl⟩ | (refine⟨_,rfl,.inr ⟨h2,?_⟩⟩;simp only[go_sem,foE,xf2];done) | (refine⟨_,rfl,.inr ⟨h1,?_⟩⟩;simp only[go_sem,foE,xf1];done) | (refine⟨_,rfl,.inr ⟨hi,?_⟩⟩;simp only[go_sem,foE,xf0];done)) (jnq _) ?_
  refine WL.pure (v:=vi f.values.length) (by simp only[go_sem,lv]) ?_
  refine WL.call (vs:=[vi f.values.length]) (by simp only[go_sem]) ?_
  refine WC.imp (j0y (F:=F) ok3 (n:=f.values.length) (by omega) (B.none _ (by simp) _ _) (B.T _)) ?_
  rintro _ h4 ⟨rfl,ok4,nx4,gt4,bw4⟩
  rw[hN] at bw4
  rw[hN]
  obtain⟨c2,ec4⟩:∃ c,h3.next=c:=⟨_,rfl⟩
  rw[ec4] at bw4 nx4
  rw[ec4]
  have xb4:=(gt4 bx (by omega)).trans xb3
  have xf4:=(gt4 fx (by omega)).trans xf3
  have xp4:=(gt4 p (by omega)).trans xp3
  refine⟨(fun j hj=>by simp only[f0e,f0t,or_false] at hj;rcases hj with rfl | rfl | rfl | rfl<;>first | (refine⟨_,rfl,jd0,jd2 (h2:=h4) ?_,k.so.eqN⟩;simp only[go_sem,xp4];done) | (refine⟨_,rfl,jd0,jd2 (h2:=h4) ?_,jfg _ _⟩;simp only[go_sem,xb4];done)),?_⟩
  obtain⟨h5,eh5,ok5,nx5,xn5,gt5⟩:=jde ok4 [jb4 N c2] 80
  have xb5:=(gt5 bx (by omega)).trans xb4
  have xf5:=(gt5 fx (by omega)).trans xf4
  have xp5:=(gt5 p (by omega)).trans xp4
  refine WL.mem (v:=.s (.slice h4.next 0 1 1 true 1)) (h':=h5) rfl rfl (by simp(disch:=first|omega|rfl) only[go_sem];first | rw[←eh5];rfl | (rw[←eh5])) (fun j hj=>by simp only[f0e,f0t,or_false] at hj;rcases hj with rfl | rfl | rfl | rfl<;>first | (refine⟨_,rfl,jd0,jd2 (h2:=h5) ?_,k.so.eqN⟩;simp only[go_sem,xp5];done) | (refine⟨_,rfl,jd0,jd2 (h2:=h5) ?_,jfg _ _⟩;simp only[go_sem,xb5];done)) ?_
  obtain⟨h6,e6,ok6,nx6,gt6,_,sl6⟩:=(k.so.keep (h':=h4) (fun n hn=>(gt4 n (by have:=hon n hn;omega)).trans ((gt3 n (by have:=hon n hn;omega) (fun h=>k.dj n h hn)).trans (gt1 n (by have:=hon n hn;omega))))).app1 (bytes:=24) (row:=[jb4 N c2]) (a:=c2) (ms:=[]) ok4 (fun n hn=>by have:=hon n hn;omega) rfl ⟨rfl,rfl⟩ (by omega) (by omega)
  rw[eh5] at e6
  obtain⟨xo1,ex6⟩:∃ x,SV.slice (h4.next+1) 0 (oc.length+1) (oc.length+1) false 1=x:=⟨_,rfl⟩
  rw[ex6] at e6 sl6
  have xb6:=(gt6 bx (by omega) (fun h=>by have:=hon _ h;omega)).trans xb4
  have xf6:=(gt6 fx (by omega) (fun h=>by have:=hon _ h;omega)).trans xf4
  have xp6:=(gt6 p (by omega) (fun h=>by have:=hon _ h;omega)).trans xp4
  refine WL.mem (v:=.s xo1) (h':=h6) rfl rfl (by simp only[go_sem];exact e6) (fun j hj=>by simp only[f0e,f0t,or_false] at hj;rcases hj with rfl | rfl<;>first | (refine⟨_,rfl,jd0,jd2 (h2:=h6) ?_,jfg _ _⟩;simp only[go_sem,xb6];done)) ?_
  refine WL.pure (v:=.s (.ptr p 0)) (by simp only[go_sem]) ?_
  refine WL.pure (v:=.s (.ptr p 2)) (by simp only[go_sem]) ?_
  obtain⟨h7,eh7,ok7,nx7,xp7,gt7⟩:=jq7 ok6 b5 (some (.arr [jae jal f.values,jae jax f.blocks,xi1,xo] 83))
  have xb7:=(gt7 bx b8).trans xb6
  have xf7:=(gt7 fx b9).trans xf6
  refine WL.mem (v:=.undef) (h':=h7) rfl rfl (by simp(disch:=first|omega|rfl) only[go_sem,xp6,eh7]) (fun j hj=>by simp only[f0e,f0t,or_false] at hj;subst hj;(refine⟨_,rfl,jd0,jd2 (h2:=h7) ?_,jfg _ _⟩;simp only[go_sem,xb7];done)) ?_
  refine WL.pure (v:=.s (.ptr p 0)) (by simp only[go_sem]) ?_
  refine WL.pure (v:=.s (.ptr p 3)) (by simp only[go_sem]) ?_
  obtain⟨h8,eh8,ok8,nx8,xp8,gt8⟩:=jq7 ok7 b5 (some (.arr [jae jal f.values,jae jax f.blocks,xi1,xo1] 83))
  have xb8:=(gt8 bx b8).trans xb7
  have xf8:=(gt8 fx b9).trans xf7
  refine WL.mem (v:=.undef) (h':=h8) rfl rfl (by simp(disch:=first|omega|rfl) only[go_sem,xp7,eh8]) (fun j hj=>by simp at hj) ?_
  refine WL.nil ?_
  refine WB.c ?_
  unfold qbi
  simp(disch:=first|omega|rfl) only[go_sem,jab,hs]
  have gA:∀ n,n<hi.next->n≠p->n∉ni++no->h8.get n=hi.get n:=fun n hn hp hm=>by
   have m1:n∉ni:=fun h=>hm (by simp[h])
   have m2:n∉no:=fun h=>hm (by simp[h])
   rw[gt8 n hp,gt7 n hp,gt6 n (by omega) m2,gt4 n (by omega),gt3 n (by omega) m1,gt1 n (by omega)]
  have hni:=k.ti
  have hno:=k.to
  rw[hni] at sl3
  rw[hno] at sl6
  have hcl:∀ c∈ic++oc,L<=c/\c<hi.next:=fun c hc=>k.lo c (f06 _ hc)
  have hnl:∀ c∈ni++no,L<=c/\c<hi.next:=fun c hc=>k.lo c (f00 _ hc)
  have g8:∀ n,n≠p->n<h6.next->h8.get n=h6.get n:=fun n hp hn=>by rw[gt8 n hp,gt7 n hp]
  have w1:BW h8 (jb4 N c1) N (jgy N) c1:=BW.keep (x:=jb4 N c1) bw1 (by
   rw[g8 c1 (by omega) (by omega),gt6 c1 (by omega) (fun h=>by have:=hon _ h;omega),gt4 c1 (by omega),gt3 c1 (by omega) (fun h=>by have:=hin _ h;omega)])
  have w2:BW h8 (jb4 N c2) N (jgy N) c2:=BW.keep (x:=jb4 N c2) bw4 (by
   rw[g8 c2 (by omega) (by omega),gt6 c2 (by omega) (fun h=>by have:=hon _ h;omega)])
  have k':CI h8 f N p bx fx L (ic++[c1]) (oc++[c2]) [h1.next+1] [h4.next+1] xi1 xo1:=by
   refine⟨ok8,xb8,xf8,xp8,?_,?_,rfl,rfl,?_,⟨b1,b2,b3,b4,b5,b6,b7,b8,b9,by omega⟩,?_,?_,?_,?_⟩
   .exact (sl3 (fun _ _ _ _ h=>h)).keep (fun n hn=>by
     obtain rfl:=f0k.1 hn
     rw[g8 _ (by omega) (by omega),gt6 _ (by omega) (fun h=>by have:=hon _ h;omega),gt4 _ (by omega)])
   .exact (sl6 (fun _ _ _ _ h=>h)).keep (fun n hn=>by
     obtain rfl:=f0k.1 hn
     exact g8 _ (by omega) (by omega))
   .intro c hc
    simp only[f0g,f0k] at hc
    have old:c∈ic++oc->BW h8 (jb4 N c) N (jgy N) c:=fun hm=>BW.keep (k.bi c hm) (gA c (hcl c hm).2 (by have:=(hcl c hm).1;omega) (fun h=>k.hd c h hm))
    rcases hc with(h | rfl) | h | rfl
    .exact old (by simp[h])
    .exact w1
    .exact old (by simp[h])
    .exact w2
   .intro n hn
    simp only[f0g,f0k] at hn
    rcases hn with((h | rfl) | h | rfl) | rfl | rfl
    .have:=hcl n (by simp[h]);omega
    .omega
    .have:=hcl n (by simp[h]);omega
    .omega
    .omega
    .omega
   .obtain ⟨n1,n2,n3⟩:=f0l.1 k.nd
    have m1:∀ n∈ic,n<hi.next:=fun n hn=>(hcl n (by simp[hn])).2
    have m2:∀ n∈oc,n<hi.next:=fun n hn=>(hcl n (by simp[hn])).2
    refine f0l.2 ⟨f0l.2 ⟨n1,by simp,fun a ha b hb=>?_⟩,f0l.2 ⟨n2,by simp,fun a ha b hb=>?_⟩,fun a ha b hb=>?_⟩
    .obtain rfl:=f0k.1 hb;have:=m1 a ha;omega
    .obtain rfl:=f0k.1 hb;have:=m2 a ha;omega
    .simp only[f0g,f0k] at ha hb
     rcases ha with ha | rfl<;>rcases hb with hb | rfl
     .exact n3 a ha b hb
     .have:=m1 a ha;omega
     .have:=m2 b hb;omega
     .omega
   .intro n hn hm
    simp only[f0g,f0k] at hn hm
    rcases hm with(h | h) | h | h
    .have:=hcl n (by simp[h]);omega
    .omega
    .have:=hcl n (by simp[h]);omega
    .omega
   .intro n hn hm
    obtain rfl:=f0k.1 hn
    have:=f0k.1 hm
    omega
  exact qhz hv hN hb d (i+1) (by omega) k' ⟨by simp[hl.1],by simp[hl.2]⟩ (fun hj ic oc ni no xi xo x10 kj lj nj gj=>hQ hj ic oc ni no xi xo x10 kj lj (by omega) (fun n h1 h2=>(gj n h1 h2).trans (gA n (by omega) h2 (fun hm=>by have:=(hnl n hm).1;omega))))
end
end Go.Proofs.Ytehhjbfmjdlcjaa.Ev
namespace Go.Proofs.Ytehhjbfmjdlcjaa.Ms
open Go.Proofs.Ytehhjbfmjdlcjaa.Ev (jb2)
set_option linter.all false
structure Clo (bs:List Blk) (RI RO:Nat->Nat->Prop):Prop where
 out:∀ (k:Nat) (b:Blk) (e:Edg) (u:Nat),bs[k]?=some b->e∈b.edges->(u∈e.args∨RI e.block u)->RO k u
 inn:∀ (k:Nat) (b:Blk) (u:Nat),bs[k]?=some b->(RO k u∨u∈j3r b)->u∉jck b->RI k u
structure JJ (n W:Nat) (bs:List Blk) (ins outs:List (List Nat)):Prop where
 li:ins.length=bs.length
 lo:outs.length=bs.length
 wi:∀ x∈ins,WOk W x
 wo:∀ x∈outs,WOk W x
 jo:∀ (k:Nat) (b:Blk),bs[k]?=some b->∀ u,jbn (outs.getD k []) u=true->∃ e∈b.edges,u∈e.args∨jbn (ins.getD e.block []) u=true
 ji:∀ (k:Nat) (b:Blk),bs[k]?=some b->∀ u,jbn (ins.getD k []) u=true->(jbn (outs.getD k []) u=true∨u∈j3r b)/\u∉jck b
 lf:∀ (RI RO:Nat->Nat->Prop),Clo bs RI RO->(∀ k u,jbn (ins.getD k []) u=true->RI k u)/\∀ k u,jbn (outs.getD k []) u=true->RO k u
def FxB (bs:List Blk) (ins outs:List (List Nat)) (q:Nat):Prop :=
 ∀ b,bs[q]?=some b->(∀ u,jbn (outs.getD q []) u=true↔∃ e∈b.edges,u∈e.args∨jbn (ins.getD e.block []) u=true)/\∀ u,jbn (ins.getD q []) u=true↔((jbn (outs.getD q []) u=true∨u∈j3r b)/\u∉jck b)
def j03 (W n:Nat) (b:Blk) (q:Nat) (ins outs:List (List Nat)):List Nat:=qe9 W n b (jmb ins b (outs.getD q []))
def j5y (W n:Nat) (b:Blk) (q:Nat) (ins outs:List (List Nat)):List (List Nat):=ins.set q (jsc (ins.getD q []) (j03 W n b q ins outs))
def jqh (b:Blk) (q:Nat) (ins outs:List (List Nat)):List (List Nat):=outs.set q (jmb ins b (outs.getD q []))
section
variable {n W q:Nat} {bs:List Blk} {b:Blk} {ins outs:List (List Nat)}
theorem JJ.facts (k:JJ n W bs ins outs) (hW:n<=64*W) (lv:∀ b∈bs,LvB n bs.length b) (hb:bs[q]?=some b) :
 WOk W (ins.getD q [])/\WOk W (outs.getD q [])/\(WOk W (jmb ins b (outs.getD q []))/\∀ u,jbn (jmb ins b (outs.getD q [])) u=true↔(jbn (outs.getD q []) u=true∨∃ e∈b.edges,u∈e.args∨jbn (ins.getD e.block []) u=true)) /\
  (WOk W (j03 W n b q ins outs)/\∀ u,jbn (j03 W n b q ins outs) u=true↔((jbn (jmb ins b (outs.getD q [])) u=true∨u∈j3r b)/\u∉jck b)):=by
 have hq:=(f0h.1 hb).1
 have lb:=lv b (f0b hb)
 have w1:=j0x k.li k.wi hq
 have w2:=j0x k.lo k.wo hq
 have o1:=j3s k.li k.wi hW b.edges lb.to lb.args w2
 have o2:WOk W (jmb ins b (outs.getD q [])):=o1.1
 exact⟨w1,w2,o1,qlz lb hW o2⟩
theorem JJ.step (k:JJ n W bs ins outs) (hW:n<=64*W) (lv:∀ b∈bs,LvB n bs.length b) (hb:bs[q]?=some b):JJ n W bs (j5y W n b q ins outs) (jqh b q ins outs):=by
 obtain⟨w1,w2,⟨w3,o3⟩,w4,o4⟩:=k.facts hW lv hb
 have hq:=(f0h.1 hb).1
 have hqi:q<ins.length:=by rw[k.li];exact hq
 have hqo:q<outs.length:=by rw[k.lo];exact hq
 have hadd:∀ u,jbn (jsc (ins.getD q []) (j03 W n b q ins outs)) u=(jbn (ins.getD q []) u||jbn (j03 W n b q ins outs) u):=jvh (by rw[w1.1,w4.1])
 have mono:∀ j u,jbn (ins.getD j []) u=true->jbn ((j5y W n b q ins outs).getD j []) u=true:=by
  intro j u h
  unfold j5y
  rw[jb2 hqi]
  split
  .rename_i e
   subst e
   rw[hadd,h];rfl
  .exact h
 refine⟨by unfold j5y;rw[f1u];exact k.li,by unfold jqh;rw[f1u];exact k.lo,fun x hx=>?_,fun x hx=>?_,fun j c hc u hu=>?_,fun j c hc u hu=>?_,fun RI RO cl=>?_⟩
 .rcases f2x hx with h | rfl
  .exact k.wi x h
  .exact w1.add w4
 .rcases f2x hx with h | rfl
  .exact k.wo x h
  .exact w3
 .have base:(∃ e∈c.edges,u∈e.args∨jbn (ins.getD e.block []) u=true)->∃ e∈c.edges,u∈e.args∨jbn ((j5y W n b q ins outs).getD e.block []) u=true:=by
   rintro⟨e,he,h | h⟩
   .exact ⟨e,he,.inl h⟩
   .exact ⟨e,he,.inr (mono _ _ h)⟩
  unfold jqh at hu
  rw[jb2 hqo] at hu
  split at hu
  .rename_i e
   subst e
   rw[hb] at hc;cases hc
   rcases(o3 u).1 hu with h | h
   .exact base (k.jo q b hb u h)
   .exact base h
  .exact base (k.jo j c hc u hu)
 .unfold j5y at hu
  rw[jb2 hqi] at hu
  unfold jqh
  rw[jb2 hqo]
  split at hu
  .rename_i e
   subst e
   rw[hb] at hc;cases hc
   rw[if_pos rfl]
   rw[hadd,f1z] at hu
   rcases hu with h | h
   .obtain ⟨h1,h2⟩:=k.ji q b hb u h
    refine⟨?_,h2⟩
    rcases h1 with h1 | h1
    .exact .inl ((o3 u).2 (.inl h1))
    .exact .inr h1
   .exact (o4 u).1 h
  .rename_i e
   rw[if_neg e]
   exact k.ji j c hc u hu
 .obtain ⟨l1,l2⟩:=k.lf RI RO cl
  have hO:∀ u,jbn (jmb ins b (outs.getD q [])) u=true->RO q u:=fun u h=>by
   rcases(o3 u).1 h with h | ⟨e,he,h⟩
   .exact l2 q u h
   .exact cl.out q b e u hb he (h.imp id (l1 e.block u))
  refine⟨fun j u hu=>?_,fun j u hu=>?_⟩
  .unfold j5y at hu
   rw[jb2 hqi] at hu
   split at hu
   .rename_i e
    subst e
    rw[hadd,f1z] at hu
    rcases hu with h | h
    .exact l1 q u h
    .obtain ⟨h1,h2⟩:=(o4 u).1 h
     exact cl.inn q b u hb (h1.imp (hO u) id) h2
   .exact l1 j u hu
  .unfold jqh at hu
   rw[jb2 hqo] at hu
   split at hu
   .rename_i e
    subst e
    exact hO u hu
   .exact l2 j u hu
theorem JJ.same (k:JJ n W bs ins outs) (hW:n<=64*W) (lv:∀ b∈bs,LvB n bs.length b) (hb:bs[q]?=some b) (hn:j0w (ins.getD q []) (j03 W n b q ins outs)=false) :
 j5y W n b q ins outs=ins/\FxB bs ins (jqh b q ins outs) q/\∀ j,FxB bs ins outs j->FxB bs ins (jqh b q ins outs) j:=by
 obtain⟨w1,w2,⟨w3,o3⟩,w4,o4⟩:=k.facts hW lv hb
 have hq:=(f0h.1 hb).1
 have hqi:q<ins.length:=by rw[k.li];exact hq
 have hqo:q<outs.length:=by rw[k.lo];exact hq
 obtain⟨h1,h2⟩:=j5x (by rw[w1.1,w4.1]) hn
 have e1:j5y W n b q ins outs=ins:=by
  unfold j5y
  rw[h1]
  apply f1k
  intro j
  rw[f1s]
  by_cases e:q=j
  .subst e
   rw[if_pos rfl,if_pos hqi,f0c,f0a hqi]
   rfl
  .rw [if_neg e]
 have hfx:FxB bs ins (jqh b q ins outs) q:=by
  intro c hc
  rw[hb] at hc;cases hc
  unfold jqh
  rw[jb2 hqo,if_pos rfl]
  refine⟨fun u=>⟨fun h=>?_,fun h=>(o3 u).2 (.inr h)⟩,fun u=>⟨fun h=>?_,fun h=>h2 u ((o4 u).2 h)⟩⟩
  .rcases (o3 u).1 h with h | h
   .exact k.jo q b hb u h
   .exact h
  .obtain ⟨h3,h4⟩:=k.ji q b hb u h
   exact⟨h3.imp (fun h3=>(o3 u).2 (.inl h3)) id,h4⟩
 refine⟨e1,hfx,fun j hj=>?_⟩
 by_cases e:q=j
 .subst e;exact hfx
 .intro c hc
  obtain⟨h5,h6⟩:=hj c hc
  unfold jqh
  rw[jb2 hqo,if_neg e]
  exact⟨h5,h6⟩
end
theorem qbk:∀ (l:List Nat) (q x:Nat),q<l.length->(l.set q x).sum+l.getD q 0=l.sum+x
 | [],q,x,h=>by simp at h
 | a::l,0,x,h=>by simp;omega
 | a::l,q+1,x,h=>by
  have ih:=qbk l q x (by simpa using h)
  simp only[List.set_cons_succ,List.sum_cons,List.getD_cons_succ]
  omega
theorem qh0 {c:Nat}:∀ {l:List Nat},(∀ x∈l,x<=c)->l.sum<=l.length*c
 | [],_=>by simp
 | a::l,h=>by
  have h1:=h a (by simp)
  have h2:=qh0 (l:=l) (fun x hx=>h x (by simp[hx]))
  rw[List.sum_cons,f1d,f3m]
  omega
theorem jqi {p q:Nat->Bool}:∀ {l:List Nat},(∀ x∈l,p x=true->q x=true)->(∃ x∈l,p x=false/\q x=true)->l.countP p<l.countP q
 | [],_,⟨x,hx,_⟩=>by simp at hx
 | a::l,h,⟨x,hx,h1,h2⟩=>by
  have hm:l.countP p<=l.countP q:=List.countP_mono_left (fun y hy=>h y (by simp[hy]))
  rw[List.countP_cons,List.countP_cons]
  rcases f0e.1 hx with rfl | hx
  .rw [h1,h2];simp;omega
  .have ih:=jqi (l:=l) (fun y hy=>h y (by simp[hy])) ⟨x,hx,h1,h2⟩
   have ha:=h a (by simp)
   cases hp:p a with
   | false=>cases q a<;>simp<;>omega
   | true=>rw[ha hp];simp;omega
def qdb (W:Nat) (ws:List Nat):Nat:=(List.range (64*W)).countP (jbn ws)
def qh1 (W:Nat) (ins:List (List Nat)):Nat:=(ins.map (qdb W)).sum
theorem ql6 {W:Nat} (ins:List (List Nat)):qh1 W ins<=ins.length*(64*W):=by
 unfold qh1
 have:=qh0 (c:=64*W) (l:=ins.map (qdb W)) (fun x hx=>by
  obtain⟨ws,_,rfl⟩:=f1a.1 hx
  unfold qdb
  have:=f3t (p:=jbn ws) (l:=List.range (64*W))
  rwa [List.length_range] at this)
 rwa [f05] at this
theorem qfh {n W q:Nat} {bs:List Blk} {b:Blk} {ins outs:List (List Nat)} (k:JJ n W bs ins outs) (hW:n<=64*W) (lv:∀ b∈bs,LvB n bs.length b) (hb:bs[q]?=some b) (hn:j0w (ins.getD q []) (j03 W n b q ins outs)=true) :
 qh1 W ins<qh1 W (j5y W n b q ins outs):=by
 obtain⟨w1,w2,⟨w3,o3⟩,w4,o4⟩:=k.facts hW lv hb
 have hq:=(f0h.1 hb).1
 have hqi:q<ins.length:=by rw[k.li];exact hq
 obtain⟨u,h1,h2,h3⟩:=qa0 w1 w4 hn
 have hadd:∀ u,jbn (jsc (ins.getD q []) (j03 W n b q ins outs)) u=(jbn (ins.getD q []) u||jbn (j03 W n b q ins outs) u):=jvh (by rw[w1.1,w4.1])
 have hl:qdb W (ins.getD q [])<qdb W (jsc (ins.getD q []) (j03 W n b q ins outs)):=by
  unfold qdb
  refine jqi (fun x _ hx=>by rw[hadd,hx];rfl) ⟨u,f2b.2 h1,h3,by rw[hadd,h2];simp⟩
 unfold qh1 j5y
 rw[List.map_set]
 have hs:=qbk (ins.map (qdb W)) q (qdb W (jsc (ins.getD q []) (j03 W n b q ins outs))) (by rw[f05];exact hqi)
 have hg:(ins.map (qdb W)).getD q 0=qdb W (ins.getD q []):=by
  rw[f0c,f0c,f0p,f0a hqi]
  rfl
 rw[hg] at hs
 omega
end Go.Proofs.Ytehhjbfmjdlcjaa.Ms
