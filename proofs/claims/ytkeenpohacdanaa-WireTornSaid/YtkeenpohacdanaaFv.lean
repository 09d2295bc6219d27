/- Code of functions as the interpreter has it prepared, cut at loops. -/
import Derived.Test.YtkeenpohacdanaaMc4
import Derived.Test.YtkeenpohacdanaaFt
import Derived.Test.YtkeenpohacdanaaUi
namespace Go.Proofs.Ytkeenpohacdanaa.Ev
noncomputable section
open Go Go.RowKit
set_option linter.all false
set_option maxRecDepth 100000
def qg5:IC:=qr [qQ 4 (.mv (.c (.s (.bool false))))] (qr [qM 0,qM 1,qM 2,qA (.call 15 [qc,qb,qa,qC 1,qC 2,.c (.s .nilSlice)]),qA (.call 16 [qa]),qP (.mv qa),qP (.ext 0 qa),qP (.ext 1 qb),qQ 7 (.mv qb),qQ 6 (.mv qb)] (qr [qM 7,qM 3,qM 7,qP (.len qa),qP (.mm true qa (qC 1)),qA (.call 19 [qd,qa]),qP (.slice 1 (.l 5) .none (.some qa)),qA (.call 17 [qa]),qP (.mv qa),qP (.ext 0 qa),qP (.ext 1 qb),qA (.new 55 [.int .i64 0,.int .i64 0,.nilSlice,.nilSlice,.int .i64 0,.int .i64 0,.nilSlice]),qA (.store 7 qa qc),qQ 5 (.mv qc)] (qr [qM 6,qP (.bin .eq qa (qC 0)),qP (.mv qa),qR 0 true (.mv (.g 5)),qR 1 true (.bin .eq qa (qC 5)),qP (.pick qc qa (.c (.s (.bool false)))),qT 4] .ret)))
theorem qvn:T 7=some (.mk qg5 4 4 [(.tmp 4)]):=by kernel_rfl
open Go Go.RowKit Go.Proofs.Ytkeenpohacdanaa.Ms
variable {g:FuncId} {a:Int} {vs:List AV} {xl:SV}
set_option maxHeartbeats 4000000
theorem jv8 {α:Type} {B:α->List Nat} {c:α->Nat}:∀ {l:List α},(∀ a∈l,(B a).length<=c a)->(l.map B).flatten.length<=(l.map c).sum
 | [],_=>f0e _
 | a::l,h=>by
  rw[f1f,f03,f0j,f1f,List.sum_cons]
  exact Nat.add_le_add (h a (by simp)) (jv8 (fun b hb=>h b (by simp[hb])))
theorem jq4 {α:Type} (n:Nat):∀ l:List α,(l.map (fun _=>n)).sum=n*l.length
 | []=>rfl
 | a::l=>by rw[f1f,List.sum_cons,jq4 n l,f04,Nat.mul_succ,Nat.add_comm]
theorem qn3 (q:List Ms.Opd):((q.map j5o).flatten).length=3*q.length:=by
 induction q with
 | nil=>rfl
 | cons a q ih=>rw[f1f,f03,f0j,ih];show 3+_=3*(q.length+1);omega
theorem qbj {m:Nat×Nat} {f:Fc} (k:FcOk m f) (sd st:Nat):(jst ⟨m.1,m.2,sd,st,[],f⟩).length<=20000:=by
 have hb:∀ b∈f.blocks,(j5d b).length<=41*b.instrs.length+29:=fun b hb=>by
  obtain⟨h1,h2,h3⟩:=k.blk b hb
  have i1:(b.instrs.map jis).flatten.length<=41*b.instrs.length:=by
   rw[←jq4]
   refine jv8 (fun x hx=>?_)
   have i:=k.ins b hb x hx
   have:=i.nops
   have:=i.nsp
   unfold jis
   simp only[f0j,f04,f1l,f1a,qn3]
   omega
  have i2:(b.edges.map jnh).flatten.length<=7*b.edges.length:=by
   rw[←jq4]
   refine jv8 (fun e he=>?_)
   obtain⟨_,h4,t,h5,h6,_⟩:=k.edg b hb e he
   have h8:=congrArg List.length h6
   simp only[f1a] at h8
   have h9:=(k.blk t (f0c h5)).1
   show(e.block::e.args.length::e.args).length<=7
   simp only[f04]
   omega
  unfold j5d jri
  simp only[f0j,f04]
  omega
 have h1:(f.blocks.map j5d).flatten.length<=(f.blocks.map (fun b=>41*b.instrs.length+29)).sum:=jv8 hb
 have h2:(f.blocks.map (fun b=>41*b.instrs.length+29)).sum=41*sm f.blocks+29*f.blocks.length:=by
  unfold sm
  generalize f.blocks=q
  induction q with
  | nil=>rfl
  | cons a q ih=>simp only[f1f,List.sum_cons,f04,ih];omega
 have h3:=k.all
 have h4:=k.nb
 have h5:=k.nv
 unfold jst jri jct
 simp only[f0j,f04,f1l,List.map_nil,List.flatten_nil]
 omega
theorem j5j {m:Nat×Nat} {f:Fc} {sd st:Nat} (ok:OkS ⟨m.1,m.2,sd,st,[],f⟩) {k:Nat} (hk:k<(jst ⟨m.1,m.2,sd,st,[],f⟩).length) :
 ∃ v1 v2 v3 v4 r1 r2 r3 r4 r5,smF ((jst ⟨m.1,m.2,sd,st,[],f⟩).take k,false)=(v1,r1)/\smF r1=(v2,r2)/\jc6 r2=(v3,r3)/\jc6 r3=(v4,r4)/\smF r4=(0,r5)/\(eachR j3m (jdl r5).2).2.2=true:=by
 have sm1:∀ r:Rd,(smF r).2.1=r.1.drop 1:=fun r=>by obtain⟨l,s⟩:=r;cases l<;>rfl
 have sm0:∀ r:Rd,(smF r).1=r.1.headD 0:=fun r=>by obtain⟨l,s⟩:=r;cases l<;>rfl
 have wd:∀ r:Rd,(jc6 r).2.1=r.1.drop 4:=fun r=>by
  show(smF (smF (smF (smF r).2).2).2).2.1=_
  rw[sm1,sm1,sm1,sm1,f3e,f3e,f3e]
 have ht:=qw2 ok hk
 generalize hr:((jst ⟨m.1,m.2,sd,st,[],f⟩).take k,false)=r at ht
 have hz:(smF (jc6 (jc6 (smF (smF r).2).2).2).2).1=0:=by
  rw[sm0,wd,wd,sm1,sm1,←hr]
  simp only[f3e]
  show(((m.1::m.2::(jct sd++(jct st++(0::_)))).take k).drop 10).headD 0=0
  unfold jct
  simp only[f1i,f1g]
  rw[List.drop_take]
  cases k - 10<;>rfl
 refine⟨_,_,_,_,_,_,_,_,(smF (jc6 (jc6 (smF (smF r).2).2).2).2).2,rfl,rfl,rfl,rfl,?_,?_⟩
 .exact Prod.ext hz rfl
 .have e:(qoc r).2=(eachR j3m (jdl (eachR jc6 (jc6 (jc6 (smF (smF r).2).2).2).2).2).2).2:=rfl
  rw[e] at ht
  have e2:(eachR jc6 (jc6 (jc6 (smF (smF r).2).2).2).2).2=(smF (jc6 (jc6 (smF (smF r).2).2).2).2).2:=by
   show(eachF jc6 (smF (jc6 (jc6 (smF (smF r).2).2).2).2).1 _).2=_
   rw[hz];rfl
  rw[e2] at ht
  exact ht
theorem qr3 {l:List Nat} {i:Nat} (hi:i<l.length):qpp 1 (some (.s (jae jni l))) (some (vi (i:Int)))=some (.s (.lst ((l.take i).map jni))):=by
 cases l with
 | nil=>simp at hi
 | cons a l =>
  show oif (Nat.ble i (jcl ((a::l).map jni))) (oif (Nat.ble 0 i) (oif (jwc 1 ((a::l).map jni)) (ob (jbq (Nat.sub i 0) (jbv 0 ((a::l).map jni))) (fun r=>some (AV.s (.lst r)))) none) none) none=_
  have h1:jcl ((a::l).map jni)=(a::l).length:=by rw[jbf,f1a]
  have h2:Nat.ble i (jcl ((a::l).map jni))=true:=f11 (by rw[h1];omega)
  have h3:jbq (Nat.sub i 0) (jbv 0 ((a::l).map jni))=some (((a::l).take i).map jni):=(ja7 _).2 ⟨by show i<=(jbv 0 ((a::l).map jni)).length;rw[jbu,f1v,f1a];omega,by rw[jbu,List.map_take];rfl⟩
  rw[h2,h3]
  rfl
attribute [local go_sem] Int.reduceToNat reduceCtorEq Nat.reduceAdd Nat.reduceMul Nat.reduceEqDiff Int.reduceEq Int.reduceLT Int.reduceLE Int.reduceNeg Int.reduceAdd Int.reduceSub Int.reduceMul Int.reduceNe
attribute [local go_sem ↓] reduceIte
theorem qvo (h:Wf g=true) {h0:Hp}:jdg F11 g vs h0=none:=by
 unfold Wf at h
 simp only[f2s] at h
 rcases h with h | h | h | h | h<;>(have e:=f0n h;subst e;exact qr2 rfl rfl rfl rfl rfl rfl rfl rfl rfl rfl rfl)
theorem qvp (h:Xf g=true) {h0:Hp}:jdg F11 g vs h0=none:=by
 unfold Xf at h
 simp only[f2s] at h
 rcases h with h | h | h | h | h | h | h | h | h | h | h<;>(have e:=f0n h;subst e;exact qr2 rfl rfl rfl rfl rfl rfl rfl rfl rfl rfl rfl)
def SK1 (f:FuncId):Bool:=Nat.beq f 30
def FK1:Fns:=PX SK1 F11
def SK2 (f:FuncId):Bool:=Nat.beq f 16
def FK2:Fns:=PX SK2 FK1
def SK3 (f:FuncId):Bool:=Nat.beq f 17
def FK3:Fns:=PX SK3 (FW FK2)
theorem qvq {A:Nat->Int}:Env Try.prog A tys FK3:=jgt (j8j (j8j (jgt (jgt qvm)) j8n (qtv qqk)) j8n (qtv qql))
theorem wrK:WrF FK1:=⟨fun g hg vs h=>by
 refine(ja9 ?_).trans (qvo hg)
 cases e:SK1 g with
 | false=>rfl
 | true=>have:=f0n e;subst this;exact absurd hg (by decide),rfl⟩
theorem rdK:RdF0 FK2:=⟨fun g hg vs h=>by
 refine(ja9 ?_).trans ((ja9 ?_).trans (qvp hg))
 .cases e:SK2 g with
  | false=>rfl
  | true=>have:=f0n e;subst this;exact absurd hg (by decide)
 .cases e:SK1 g with
  | false=>rfl
  | true=>have:=f0n e;subst this;exact absurd hg (by decide),rfl⟩
section
variable {h:Hp} {m:Nat×Nat} {f:Fc} {s:List Bool} {Q:AV->Hp->Prop}
theorem qr4 (h1:SK3 g=false) (h2:Nat.beq g qsg.f=false) (h3:Nat.beq g qkl.f=false) (h4:SK2 g=false) (h5:SK1 g=false):jdg FK3 g vs h=jdg F11 g vs h:=(ja9 h1).trans ((jh4 h2).trans ((jh4 h3).trans ((ja9 h4).trans (ja9 h5))))
theorem qea (o:FlOk m f s) (m1:2<=m.1/\m.1<=10) (m2:2<=m.2/\m.2<=10):WC FK1 30 [.agg (jmo ⟨m.1,m.2,1,2,[],f⟩)] h Q=Q (vi 0) h :=
 jaq (jbh rfl (by unfold jmo;simp only[jas,jaz,jbb,jcp,ja0,jbc,ja6,jbm,jbd,jbj,if_true]) (qjw (fun vs h=>qr2 rfl rfl rfl rfl rfl rfl rfl rfl rfl rfl rfl) rfl jen (s:=⟨m.1,m.2,1,2,[],f⟩) (fun h Q=>qd9 o m1 m2) (show 1<=1073741824 by decide) (show 2<=5000 by decide) (show 0<=64 by decide) (by simp)))
theorem qn4 (o:FlOk m f s) (m1:2<=m.1/\m.1<=10) (m2:2<=m.2/\m.2<=10):WC FK3 16 [.agg (jmo ⟨m.1,m.2,1,2,[],f⟩)] h Q=Q (qse (byt (jst ⟨m.1,m.2,1,2,[],f⟩))) h :=
 jaq ((ja9 rfl).trans ((jh4 rfl).trans ((jh4 rfl).trans (jbh rfl (by unfold jmo;simp only[jas,jaz,jbb,jcp,ja0,jbc,ja6,jbm,jbd,jbj,if_true]) (qju wrK jen (qfq o.k m1 m2 (by decide) (by decide) (by decide) (by simp)) (qbj o.k 1 2) (fun h Q=>qea o m1 m2))))))
theorem j1e {b:Int} (ha:In6 a) (hb:In6 b):WC FK3 9 [vi a,vi b] h Q=Q (.agg (qpt (jmn a b))) h:=jaq ((qr4 rfl rfl rfl rfl rfl).trans ((ja9 rfl).trans ((qn0 rfl rfl).trans ((ja9 rfl).trans ((qun rfl rfl rfl rfl).trans (j48 ha hb))))))
theorem qeb {l:List Pc} (m1:2<=m.1/\m.1<=10) (m2:2<=m.2/\m.2<=10) (pin:∀ q∈l,Pin q) (lx:LstE jb4 7 xl l):WC FK3 8 [.agg [si m.1,si m.2],.s xl] h Q=Q (.agg (qpl (jeg m l))) h:=jaq ((qr4 rfl rfl rfl rfl rfl).trans ((ja9 rfl).trans ((qn0 rfl rfl).trans ((ja9 rfl).trans ((qun rfl rfl rfl rfl).trans (qjb m1 m2 pin lx))))))
theorem jmr {n k:Int} (h1:-9223372036854775808<=n) (h2:n<=9223372036854775807) (hm:0<k) (hm2:k<=9223372036854775807):WC FK3 19 [vi n,vi k] h Q=Q (vi (pick n k)) h:=jaq ((qr4 rfl rfl rfl rfl rfl).trans ((ja9 rfl).trans ((qn0 rfl rfl).trans ((ja9 rfl).trans ((qun rfl rfl rfl rfl).trans ((ja9 rfl).trans ((jh5.pk _ _).trans (jxf h1 h2 hm hm2))))))))
theorem qec {l:List Nat} (hl:l.length<=20000) (hb:∀ n∈l,n<256) {r1 r2 r3 r4 r5:Rd} {v1 v2 v3 v4:Nat} (e1:smF (l,false)=(v1,r1)) (e2:smF r1=(v2,r2)) (e3:jc6 r2=(v3,r3)) (e4:jc6 r3=(v4,r4)) (e5:smF r4=(0,r5)) (hs:(eachR j3m (jdl r5).2).2.2=true):WC FK3 17 [.s (.lst (l.map jni))] h Q=Q qku h :=
 jaq (jbh rfl rfl (qdw rdK jen hl hb e1 e2 e3 e4 e5 hs))
end
theorem j1f {F:Fns} {st fr:List AV} {es:List Ent} {h:Hp} {dst:Option Nat} {l:List (IOper×Option (List Nat))} {Q:Ex->St->Prop} {e:TypeId} {z:List SV} {js:List Nat} {hd:List (Nat×Nat)} (k:Ok h) (hs:sel es js []=some hd) (hh:jan hd h.next=false) :
 WD F ((.mk dst (.a (.new e z)) none,some js)::l) st es fr h Q=WD F l (.s (.ptr h.next 0)::st) (.mk [(h.next,Nat.succ h.next)] (some [])::es) (jcc fr dst (.s (.ptr h.next 0))) (h.push (.arr z e)) Q:=by
 rw[j4y (x:=some (DR.mk (.s (.ptr h.next 0)) (h.push (.arr z e)) (.mk [(h.next,Nat.succ h.next)] (some [])))) (fun cl=>?_)]
 .exact jb8
 .cases h with
  | mk n1 t lo hid =>
  obtain rfl:hid=[]:=k.hid
  obtain rfl:lo=0:=k.lo
  have hh':jan hd n1=false:=hh
  have hi:iop cl st fr (.mk n1 t n1 hd) (.a (.new e z))=some (.s (.ptr n1 0),.mk (Nat.succ n1) (t.put (Nat.succ n1) n1 (some (.arr z e))) n1 hd):=by
   show oif (jan hd n1) none (some (AV.s (.ptr n1 0),Hp.mk (Nat.succ n1) (t.put (Nat.succ n1) n1 (some (.arr z e))) n1 hd))=_
   rw[hh'];rfl
  show ob (sel es js []) (fun hid'=>jna cl st fr n1 t 0 n1 [] hid' (.a (.new e z)) (fun n'=>.mk [(n1,n')] (some [])))=_
  rw[hs]
  show ob (iop cl st fr (.mk n1 t n1 hd) (.a (.new e z))) _=_
  rw[hi]
  rfl
theorem qn5 {h:Hp} (ok:Ok h) {b:Int} {l:List Pc} (ha:In6 a) (hb:In6 b) (pin:∀ q∈l,Pin q) (lx:LstE jb4 7 xl l):WC FK3 15 [vi a,vi b,.s xl,vi 1,vi 2,.s .nilSlice] h (fun v h'=>v=.agg (jmo ⟨(jmn a b).1,(jmn a b).2,1,2,[],jeg (jmn a b) l⟩)/\Ok h'):=by
 refine jax ((qr4 rfl rfl rfl rfl rfl).trans (qr2 rfl rfl rfl rfl rfl rfl rfl rfl rfl rfl rfl)) qub rfl ?_
 unfold qfy
 have hpos:=ok.pos
 obtain⟨m1,m2⟩:=j8v a b
 obtain⟨m,em⟩:∃ m,jmn a b=m:=⟨_,rfl⟩
 rw[em] at m1 m2 ⊢
 obtain⟨hA,eA,okA,nA,xA,gA⟩:=jd4 ok [.int .i64 0,.int .i64 0,.nilSlice,.nilSlice,.int .i64 0,.int .i64 0,.nilSlice] 55
 obtain⟨hB,eB,okB,nB,xB,gB⟩:=jb5 okA [.int .i64 0,.int .i64 0] [si m.1,si m.2] 30
 have yA:=(gB h.next (by omega)).trans xA
 have g1:pick 1 1073741824=1:=by decide
 have g2:pick 2 400=2:=by decide
 obtain⟨hC,eC,okC,nC,xC,gC⟩:=jb5 okB [.int .i64 0,.int .i64 0,.nilSlice,.nilSlice,.int .i64 0,.int .i64 0,.nilSlice] [si m.1,si m.2,jae jav (jeg m l).values,jae ja4 (jeg m l).blocks,.int .i64 1,.int .i64 2,.nilSlice] 55
 have zC:hC.get h.next=some (.arr [.int .i64 0,.int .i64 0,.nilSlice,.nilSlice,.int .i64 0,.int .i64 0,.nilSlice] 55):=by rw[gC _ (by omega),gB _ (by omega)];exact xA
 obtain⟨hD,eD,okD,nD,xD,gD⟩:=j5p okC (b:=h.next) hpos (some (.arr [si m.1,si m.2,jae jav (jeg m l).values,jae ja4 (jeg m l).blocks,.int .i64 1,.int .i64 2,.nilSlice] 55))
 have hh:(hB.next<=hA.next/\hA.next<hB.next)=False:=eq_false (by omega)
 simp(disch:=first|omega|rfl) only[go_sem,eA,j1e ha hb,em,qpt,eB,xB,qeb m1 m2 pin lx,qpl,jmr (n:=1) (k:=1073741824) (by omega) (by omega) (by omega) (by omega),jmr (n:=2) (k:=400) (by omega) (by omega) (by omega) (by omega),g1,g2,hh]
 rw[j1f okB (hd:=[(hB.next,hB.next),(hB.next,hB.next),(hB.next,hB.next)]) rfl (by
  have e:∀ n:Nat,jan [(n,n),(n,n),(n,n)] n=false:=fun n=>by simp[jan,jap,jsz]
  exact e _)]
 simp(disch:=first|omega|rfl) only[go_sem,eC,f0r]
 rw[jag]
 unfold qac
 simp(disch:=first|omega|rfl) only[go_sem,f0r,xC,zC,eD,xD]
 exact⟨rfl,okD⟩
theorem qr5 {h:Hp} (ok:Ok h) {b n:Int} {l:List Pc} (ha:In6 a) (hb:In6 b) (hn:In6 n) (pin:∀ q∈l,Pin q) (lx:LstE jb4 7 xl l):WC FK3 7 [vi a,vi b,.s xl,vi n] h (fun v _=>v=.s (.bool true)):=by
 refine jax ((qr4 rfl rfl rfl rfl rfl).trans (qr2 rfl rfl rfl rfl rfl rfl rfl rfl rfl rfl rfl)) qvn rfl ?_
 unfold qg5
 obtain⟨m1,m2⟩:=j8v a b
 obtain⟨s,o,_,_⟩:=qnz m1 m2 l
 obtain⟨hn1,hn2⟩:=hn
 simp(disch:=first|omega|rfl) only[go_sem]
 refine WC.imp (qn5 ok ha hb pin lx) ?_
 rintro _ hA ⟨rfl,okA⟩
 obtain⟨m,em⟩:∃ m,jmn a b=m:=⟨_,rfl⟩
 rw[em] at m1 m2 o ⊢
 have oks:=qfq o.k m1 m2 (sd:=1) (st:=2) (by decide) (by decide) (j:=[]) (by decide) (by simp)
 have hl:=qbj o.k 1 2
 generalize hB:jst ⟨m.1,m.2,1,2,[],jeg m l⟩=B at hl
 have hb256:∀ q∈B,q<256:=by rw[←hB];exact qqb oks
 have eb:byt B=B:=j97 hb256
 have hpos:1<B.length:=by rw[←hB];exact Nat.succ_lt_succ (Nat.zero_lt_succ _)
 have c1:((B.length:Int)<=1)=False:=eq_false (by omega)
 have hk:=jfo (n:=n) (m:=B.length) (by omega)
 obtain⟨v1,v2,v3,v4,r1,r2,r3,r4,r5,t1,t2,t3,t4,t5,t6⟩:=j5j oks (k:=pk n B.length) (by rw[hB];exact hk)
 rw[hB] at t1
 have lB:=jah (enc:=jni) (l:=B)
 have wE:=fun(h:Hp) (Q:AV->Hp->Prop)=>qn4 (h:=h) (Q:=Q) o m1 m2
 rw[hB,eb] at wE
 have wP:=fun(h:Hp) (Q:AV->Hp->Prop)=>jmr (h:=h) (Q:=Q) (n:=n) (k:=(B.length:Int)) hn1 hn2 (by omega) (by omega)
 rw[jbl (show 0<B.length by omega)] at wP
 have sl:=qr3 hk
 have wD:=fun(h:Hp) (Q:AV->Hp->Prop)=>qec (h:=h) (Q:=Q) (l:=B.take (pk n B.length)) (by rw[f12];omega) (fun q hq=>hb256 q (List.mem_of_mem_take hq)) t1 t2 t3 t4 t5 t6
 simp(disch:=first|omega|rfl) only[go_sem,wE,qse,lB,c1,wP,jf6,sl,wD,qku]
 done
end
end Go.Proofs.Ytkeenpohacdanaa.Ev
