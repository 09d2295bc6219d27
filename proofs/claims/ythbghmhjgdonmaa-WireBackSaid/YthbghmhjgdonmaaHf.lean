/- Scripts with junk: how long they are; calls. -/
import Derived.Test.YthbghmhjgdonmaaHc
import Derived.Test.YthbghmhjgdonmaaUi
import Derived.Test.YthbghmhjgdonmaaOp
import Derived.Test.YthbghmhjgdonmaaLz
import Derived.Test.YthbghmhjgdonmaaMc4
namespace Go.Proofs.Ythbghmhjgdonmaa.Ev
noncomputable section
open Go Go.RowKit Go.Proofs.Ythbghmhjgdonmaa.Ms
set_option linter.all false
set_option maxRecDepth 100000
set_option maxHeartbeats 4000000
theorem jqf {α:Type} {B:α->List Nat} {c:α->Nat}:∀ {l:List α},(∀ a∈l,(B a).length<=c a)->(l.map B).flatten.length<=(l.map c).sum
 | [],_=>f0e _
 | a::l,h=>by
  rw[f1c,f03,f0j,f1c,List.sum_cons]
  exact Nat.add_le_add (h a (by simp)) (jqf (fun b hb=>h b (by simp[hb])))
theorem jks {α:Type} (n:Nat):∀ l:List α,(l.map (fun _=>n)).sum=n*l.length
 | []=>rfl
 | a::l=>by rw[f1c,List.sum_cons,jks n l,f02,Nat.mul_succ,Nat.add_comm]
theorem qmg (q:List Ms.Opd):((q.map j3z).flatten).length=3*q.length:=by
 induction q with
 | nil=>rfl
 | cons a q ih=>rw[f1c,f03,f0j,ih];show 3+_=3*(q.length+1);omega
theorem qci {m:Nat×Nat} {f:Fc} (k:FcOk m f) (sd st:Nat) {j:List Nat} (hj:j.length<=64):(jkx ⟨m.1,m.2,sd,st,j,f⟩).length<20000:=by
 have hb:∀ b∈f.blocks,(j3q b).length<=41*b.instrs.length+29:=fun b hb=>by
  obtain⟨h1,h2,h3⟩:=k.blk b hb
  have i1:(b.instrs.map jh9).flatten.length<=41*b.instrs.length:=by
   rw[←jks]
   refine jqf (fun x hx=>?_)
   have i:=k.ins b hb x hx
   have:=i.nops
   have:=i.nsp
   unfold jh9
   simp only[f0j,f02,f1l,f1a,qmg]
   omega
  have i2:(b.edges.map jmy).flatten.length<=7*b.edges.length:=by
   rw[←jks]
   refine jqf (fun e he=>?_)
   obtain⟨_,h4,t,h5,h6,_⟩:=k.edg b hb e he
   have h8:=congrArg List.length h6
   simp only[f1a] at h8
   have h9:=(k.blk t (f0c h5)).1
   show(e.block::e.args.length::e.args).length<=7
   simp only[f02]
   omega
  unfold j3q jqu
  simp only[f0j,f02]
  omega
 have h1:(f.blocks.map j3q).flatten.length<=(f.blocks.map (fun b=>41*b.instrs.length+29)).sum:=jqf hb
 have h2:(f.blocks.map (fun b=>41*b.instrs.length+29)).sum=41*sm f.blocks+29*f.blocks.length:=by
  unfold sm
  generalize f.blocks=q
  induction q with
  | nil=>rfl
  | cons a q ih=>simp only[f1c,List.sum_cons,f02,ih];omega
 have h6:(j.map jcv).flatten.length<=4*j.length:=by
  rw[←jks]
  exact jqf (fun n _=>f0e 4)
 have h3:=k.all
 have h4:=k.nb
 have h5:=k.nv
 unfold jkx jqu
 simp only[f0j,f02,f1l]
 unfold jcv at h6 ⊢
 simp only[f02,f1l]
 omega
theorem qt4 {g:FuncId} (h:Wf g=true) {vs:List AV} {h0:Hp}:jcw F11 g vs h0=none:=by
 unfold Wf at h
 simp only[f2s] at h
 rcases h with h | h | h | h | h<;>(have e:=f0n h;subst e;exact qme rfl rfl rfl rfl rfl rfl rfl rfl rfl rfl rfl)
theorem qt5 {g:FuncId} (h:Xf g=true) {vs:List AV} {h0:Hp}:jcw F11 g vs h0=none:=by
 unfold Xf at h
 simp only[f2s] at h
 rcases h with h | h | h | h | h | h | h | h | h | h | h<;>(have e:=f0n h;subst e;exact qme rfl rfl rfl rfl rfl rfl rfl rfl rfl rfl rfl)
def SK1 (f:FuncId):Bool:=Nat.beq f 28
def FK1:Fns:=PX SK1 F11
def SK2 (f:FuncId):Bool:=Nat.beq f 13
def FK2:Fns:=PX SK2 FK1
def SK3 (f:FuncId):Bool:=Nat.beq f 14
def FK3:Fns:=PX SK3 (FW FK2)
def SK4 (f:FuncId):Bool:=Nat.beq f 12
def FK4:Fns:=PX SK4 FK3
theorem qt6 {A:Nat->Int}:Env Try.prog A tys FK4:=je1 (je1 (j6r (j6r (je1 (je1 qt3)) j6v (qsd qo0)) j6v (qsd qo1)))
theorem wrK:WrF FK1:=⟨fun g hg vs h=>by
 refine(jay ?_).trans (qt4 hg)
 cases e:SK1 g with
 | false=>rfl
 | true=>have:=f0n e;subst this;exact absurd hg (by decide),rfl⟩
theorem rdK:RdF0 FK2:=⟨fun g hg vs h=>by
 refine(jay ?_).trans ((jay ?_).trans (qt5 hg))
 .cases e:SK2 g with
  | false=>rfl
  | true=>have:=f0n e;subst this;exact absurd hg (by decide)
 .cases e:SK1 g with
  | false=>rfl
  | true=>have:=f0n e;subst this;exact absurd hg (by decide),rfl⟩
theorem jzp {F:Fns} {st fr:List AV} {es:List Ent} {h:Hp} {dst:Option Nat} {l:List (IOper×Option (List Nat))} {Q:Ex->St->Prop} {e:TypeId} {z:List SV} {js:List Nat} {hd:List (Nat×Nat)} (k:Ok h) (hs:sel es js []=some hd) (hh:jan hd h.next=false) :
 WD F ((.mk dst (.a (.new e z)) none,some js)::l) st es fr h Q=WD F l (.s (.ptr h.next 0)::st) (.mk [(h.next,Nat.succ h.next)] (some [])::es) (jcp fr dst (.s (.ptr h.next 0))) (h.push (.arr z e)) Q:=by
 rw[j29 (x:=some (DR.mk (.s (.ptr h.next 0)) (h.push (.arr z e)) (.mk [(h.next,Nat.succ h.next)] (some [])))) (fun cl=>?_)]
 .exact jb4
 .cases h with
  | mk n1 t lo hid =>
  obtain rfl:hid=[]:=k.hid
  obtain rfl:lo=0:=k.lo
  have hh':jan hd n1=false:=hh
  have hi:iop cl st fr (.mk n1 t n1 hd) (.a (.new e z))=some (.s (.ptr n1 0),.mk (Nat.succ n1) (t.put (Nat.succ n1) n1 (some (.arr z e))) n1 hd):=by
   show oif (jan hd n1) none (some (AV.s (.ptr n1 0),Hp.mk (Nat.succ n1) (t.put (Nat.succ n1) n1 (some (.arr z e))) n1 hd))=_
   rw[hh'];rfl
  show ob (sel es js []) (fun hid'=>jmq cl st fr n1 t 0 n1 [] hid' (.a (.new e z)) (fun n'=>.mk [(n1,n')] (some [])))=_
  rw[hs]
  show ob (iop cl st fr (.mk n1 t n1 hd) (.a (.new e z))) _=_
  rw[hi]
  rfl
section
variable {h:Hp} {m:Nat×Nat} {f:Fc} {s:List Bool} {Q:AV->Hp->Prop}
theorem qq2 {g:FuncId} (h1:SK3 g=false) (h2:Nat.beq g qix.f=false) (h3:Nat.beq g j87.f=false) (h4:SK2 g=false) (h5:SK1 g=false) {vs:List AV}:jcw FK3 g vs h=jcw F11 g vs h:=(jay h1).trans ((jee h2).trans ((jee h3).trans ((jay h4).trans (jay h5))))
theorem jzq {a b:Int} (ha:In6 a) (hb:In6 b):WC FK3 8 [vi a,vi b] h Q=Q (.agg (qmt (jt6 a b))) h:=jao ((qq2 rfl rfl rfl rfl rfl).trans ((jay rfl).trans ((qmc rfl rfl).trans ((jay rfl).trans ((qso rfl rfl rfl rfl).trans (j3j ha hb))))))
theorem qcj {l:List Pc} (m1:2<=m.1/\m.1<=10) (m2:2<=m.2/\m.2<=10) (pin:∀ q∈l,Pin q) {xl:SV} (lx:LstE jb1 7 xl l):WC FK3 7 [.agg [si m.1,si m.2],.s xl] h Q=Q (.agg (qms (jel m l))) h:=jao ((qq2 rfl rfl rfl rfl rfl).trans ((jay rfl).trans ((qmc rfl rfl).trans ((jay rfl).trans ((qso rfl rfl rfl rfl).trans (qhq m1 m2 pin lx))))))
theorem j3u {n k:Int} (h1:-9223372036854775808<=n) (h2:n<=9223372036854775807) (hm:0<k) (hm2:k<=9223372036854775807):WC FK3 16 [vi n,vi k] h Q=Q (vi (pick n k)) h:=jao ((qq2 rfl rfl rfl rfl rfl).trans ((jay rfl).trans ((qmc rfl rfl).trans ((jay rfl).trans ((qso rfl rfl rfl rfl).trans ((jay rfl).trans ((jhi.pk _ _).trans (jv6 h1 h2 hm hm2))))))))
end
attribute [local go_sem] Int.reduceToNat reduceCtorEq Nat.reduceAdd Nat.reduceMul Nat.reduceEqDiff Int.reduceEq Int.reduceLT Int.reduceLE Int.reduceNeg Int.reduceAdd Int.reduceSub Int.reduceMul Int.reduceNe
attribute [local go_sem ↓] reduceIte
def jkS (l:List Int):List Nat:=(l.take 64).map (fun n=>pk n 1073741824)
theorem jxd {n:Int}:pick n 1073741824=((pk n 1073741824:Nat):Int):=jbj (m:=1073741824) (by omega)
theorem j3v {n:Int}:pick n 400=((pk n 400:Nat):Int):=jbj (m:=400) (by omega)
theorem qmh (l:List Int):(jkS l).length<=64:=by unfold jkS;rw[f1a,f1r];omega
theorem qqh (l:List Int):∀ n∈jkS l,n<1073741824:=fun n hn=>by
 unfold jkS at hn
 obtain⟨q,_,rfl⟩:=f1p.1 hn
 exact jem (by omega)
structure SjS (p g:Nat) (u:List SV) (h:Hp) (l:List Nat):Prop where
 ok:Ok h
 ex:∃ x ns,h.get p=some (.arr (u++[x]) 45)/\Sl h 3 1 false EI x l ns/\ns.Nodup/\∀ n∈ns,p<n/\n<h.next
 g0:h.get g=some (.arr [.int .i64 0,.int .i64 0,.nilSlice,.nilSlice,.int .i64 0,.int .i64 0,.nilSlice] 45)
 ne:1<=g/\g<p/\p<h.next
theorem qfd {F:Fns} {l:List Int} (hl:∀ n∈l,In6 n) {xl:SV} (lx:LstE jgv 1 xl l) (hP:∀ h n Q,In6 n->WC F 16 [vi n,vi 1073741824] h Q=Q (vi (pick n 1073741824)) h)
 {p g:Nat} {s1 s2 s3 s4 s5 s6:SV} {x0 x1 x2 x3 x4 x10:AV} {Q:Ex->St->Prop} :
 ∀ (d i:Nat) (_:i+d=min l.length 64) {hi:Hp} {ws:List Nat} (_:SjS p g [s1,s2,s3,s4,s5,s6] hi ws) (_:ws.length=i) {x8:AV}
  (hQ:∀ hj x8,SjS p g [s1,s2,s3,s4,s5,s6] hj (ws++((l.take 64).drop i).map (fun n=>pk n 1073741824))->Q (.exit 0) (.mk [x0,x1,x2,x3,x4,.s xl,.s (.ptr g 0),.s (.ptr p 0),x8,vi (min l.length 64:Nat),x10] hj)),
  W F jut.loop (.mk [x0,x1,x2,x3,x4,.s xl,.s (.ptr g 0),.s (.ptr p 0),x8,vi i,x10] hi) Q
 | 0,i,hd,hi,ws,k,hw,x8,hQ=>by
  have ok:=k.ok
  have ll:=lx.len
  rw[jag]
  unfold jut
  have hz:(l.take 64).drop i=[]:=f2u (by rw[f1r];omega)
  rw[hz,List.map_nil,f01] at hQ
  obtain rfl:i=min l.length 64:=by omega
  by_cases h64:l.length<=64
  .have e1:min l.length 64=l.length:=by omega
   rw[e1] at hQ ⊢
   simp(disch:=first|omega|rfl) only[go_sem,ll,f0q]
   exact hQ hi _ k
  .have e1:min l.length 64=64:=by omega
   have c1:(64:Int)<(l.length:Int):=by omega
   rw[e1] at hQ ⊢
   simp(disch:=first|omega|rfl) only[go_sem,ll,eq_true c1,f0q]
   exact hQ hi _ k
 | d+1,i,hd,hi,ws,k,hw,x8,hQ=>by
  have hil:i<l.length:=by omega
  have hlt:(i:Int)<(l.length:Int):=by omega
  have hl2:(i:Int)<64:=by omega
  have hss:(i:Int)+1=((i+1:Nat):Int):=by omega
  obtain⟨n,hn⟩:∃ n,l[i]?=some n:=⟨_,f0b hil⟩
  have hdr:(l.take 64).drop i=n::(l.take 64).drop (i+1):=by
   rw[f08 (by rw[f1r];omega)]
   congr 1
   rw[List.getElem_take,(f00.1 hn).2]
  have ok:=k.ok
  have ll:=lx.len
  have hix:=lx.at_ hn
  have hin:=hl n (f0c hn)
  have wP:=fun h Q=>hP h n Q hin
  rw[jxd] at wP
  obtain⟨x,ns,c1,s,nd,c3⟩:=k.ex
  obtain⟨g1,g2,g3⟩:=k.ne
  have r1:rdB (hi.get p) 6 1=some [x]:=by rw[c1];exact jrr rfl
  obtain⟨x',hM,hN,t1,t2,t3,t4,t5,t6,t7,t8,t9,t10⟩:=jhl (j:=6) (bytes:=8) (row:=[si (pk n 1073741824)]) (a:=pk n 1073741824) (ms:=[]) ok c1 ⟨by omega,g3⟩ (fun hc=>by have:=c3 p hc;omega) s (fun n hn=>by have:=c3 n hn;omega) nd rfl ⟨rfl,rfl⟩ (by simp) (by simp) (by omega) (by omega)
  have tl:∀ n∈ns.tail,n∈ns:=fun n hn=>f0g hn
  have t3':hM.get p=some (.arr [s1,s2,s3,s4,s5,s6,x] 45):=t3
  have t4':hM.put p (some (.arr [s1,s2,s3,s4,s5,s6,x'] 45))=hN:=t4
  have k':SjS p g [s1,s2,s3,s4,s5,s6] hN (ws++[pk n 1073741824]):=⟨t5,⟨x',_,t7,t10 (E':=EI) (fun _ _ _ _ e=>e),by
   rw[f01]
   exact f0s.2 ⟨fun hc=>by have:=c3 _ (tl _ hc);omega,nd.sublist (f16 _)⟩,fun n hn=>by
   rcases f0f.1 hn with rfl | hn
   .omega
   .have:=c3 n (tl n (by simpa using hn));omega⟩,(t8 g (by omega) (by omega) (fun hc=>by have:=c3 g hc;omega)).trans k.g0,⟨g1,g2,by omega⟩⟩
  have hQ':∀ hj x8,SjS p g [s1,s2,s3,s4,s5,s6] hj ((ws++[pk n 1073741824])++((l.take 64).drop (i+1)).map (fun n=>pk n 1073741824))->Q (.exit 0) (.mk [x0,x1,x2,x3,x4,.s xl,.s (.ptr g 0),.s (.ptr p 0),x8,vi (min l.length 64:Nat),x10] hj):=fun hj x8 kj=>hQ hj x8 (by rw[hdr,f1c];simpa[f0i] using kj)
  rw[jag]
  unfold jut j8x
  simp(disch:=first|omega|rfl) only[go_sem,jad,ll,eq_true hlt,eq_true hl2,r1,hix,jgv,wP,t1,t3',t4',hss]
  exact qfd hl lx hP d (i+1) (by omega) k' (by simp;omega) hQ'
theorem qmi {F:Fns} (hX:∀ vs h,jcw F 12 vs h=none) (hT:j4w F=T) {h:Hp} (ok:Ok h) {a b:Int} {xl xw:SV} {w:List Int} {seed steps:Int} {m:Nat×Nat} {f:Fc} (hw:∀ n∈w,In6 n) (lw:LstE jgv 1 xw w)
 (hM:∀ h Q,WC F 8 [vi a,vi b] h Q=Q (.agg (qmt m)) h) (hF:∀ h Q,WC F 7 [.agg [si m.1,si m.2],.s xl] h Q=Q (.agg (qms f)) h)
 (hP:∀ h n k Q,In6 n->0<k->k<=9223372036854775807->WC F 16 [vi n,vi k] h Q=Q (vi (pick n k)) h) (i4:In6 seed) (i5:In6 steps) :
 WC F 12 [vi a,vi b,.s xl,vi seed,vi steps,.s xw] h (fun v h'=>∃ d,jfr true h' d v=some (.agg (jfk ⟨m.1,m.2,pk seed 1073741824,pk steps 400,jkS w,f⟩))):=by
 refine jax (hX _ _) ((congrFun hT _).trans qsu) rfl ?_
 unfold qei
 have hpos:=ok.pos
 obtain⟨hA,eA,okA,nA,xA,gA⟩:=jdn ok [.int .i64 0,.int .i64 0,.nilSlice,.nilSlice,.int .i64 0,.int .i64 0,.nilSlice] 45
 obtain⟨hB,eB,okB,nB,xB,gB⟩:=jbt okA [.int .i64 0,.int .i64 0] [si m.1,si m.2] 30
 have yA:=(gB h.next (by omega)).trans xA
 have w1:=fun h Q=>hP h seed 1073741824 Q i4 (by omega) (by omega)
 have w2:=fun h Q=>hP h steps 400 Q i5 (by omega) (by omega)
 rw[jxd] at w1
 rw[j3v] at w2
 obtain⟨hC,eC,okC,nC,xC,gC⟩:=jbt okB [.int .i64 0,.int .i64 0,.nilSlice,.nilSlice,.int .i64 0,.int .i64 0,.nilSlice] [si m.1,si m.2,jae jas f.values,jae ja5 f.blocks,si (pk seed 1073741824),si (pk steps 400),.nilSlice] 45
 have zC:hC.get h.next=some (.arr [.int .i64 0,.int .i64 0,.nilSlice,.nilSlice,.int .i64 0,.int .i64 0,.nilSlice] 45):=by rw[gC _ (by omega),gB _ (by omega)];exact xA
 have hh:(hB.next<=hA.next/\hA.next<hB.next)=False:=eq_false (by omega)
 simp(disch:=first|omega|rfl) only[go_sem,eA,hM,qmt,eB,xB,hF,qms,w1,w2,hh]
 rw[jzp okB (hd:=[(hB.next,hB.next),(hB.next,hB.next),(hB.next,hB.next)]) rfl (by
  have e:∀ n:Nat,jan [(n,n),(n,n),(n,n)] n=false:=fun n=>by simp[jan,jau,jry]
  exact e _)]
 simp(disch:=first|omega|rfl) only[go_sem,eC,f0q]
 refine qfd hw lw (fun h n Q hn=>hP h n 1073741824 Q hn (by omega) (by omega)) (p:=hB.next) (g:=h.next) (min w.length 64) 0 (by omega) (ws:=[]) ⟨okC,⟨.nilSlice,[],xC,.nil,.nil,by simp⟩,zC,⟨by omega,by omega,by omega⟩⟩ rfl (fun hj x8 kj=>?_)
 rw[f1v,f1f] at kj
 have okj:=kj.ok
 obtain⟨x,ns,c1,s,nd,c3⟩:=kj.ex
 have g0:=kj.g0
 obtain⟨hD,eD,okD,nD,xD,gD⟩:=j15 okj (b:=h.next) hpos (some (.arr [si m.1,si m.2,jae jas f.values,jae ja5 f.blocks,si (pk seed 1073741824),si (pk steps 400),x] 45))
 have c1':hj.get hB.next=some (.arr [si m.1,si m.2,jae jas f.values,jae ja5 f.blocks,si (pk seed 1073741824),si (pk steps 400),x] 45):=c1
 simp(disch:=first|omega|rfl) only[go_sem,c1',g0,eD,xD]
 have s':=s.keep (h':=hD) (fun n hn=>gD n (by have:=c3 n hn;omega))
 refine⟨4,?_⟩
 have fv:jey true hD 4 (jae jas f.values)=some (jae jas f.values):=j2e
 have fb:jey true hD 4 (jae ja5 f.blocks)=some (jae ja5 f.blocks):=j2e
 exact jaa.2 ⟨_,jaq rfl (jaq rfl (jaq fv (jaq fb (jaq rfl (jaq rfl (jaq (s'.frz (fun _ _ _ e=>EI.frz e) (fun _=>rfl)) rfl)))))),rfl⟩
open Go Go.RowKit
variable {v:AV} {t:Nat}
theorem qqi {k:Bool} {h:Hp} {d:Nat} {n:Int} (e:jfr k h d v=some (vi n)):v=vi n:=by
 cases v with
 | s x =>
  obtain⟨y,h1,h2⟩:=jaa.1 (show ob (jey k h d x) (fun y=>some (AV.s y))=some (vi n) from e)
  simp only[Option.some.injEq,AV.s.injEq] at h2
  subst h2
  cases d with
  | zero=>cases h1
  | succ d =>
   cases x with
   | slice b off len mc ex sz =>
    cases len with
    | zero=>cases h1
    | succ len =>
     obtain⟨cs,_,h1⟩:=jaa.1 (show ob (rd h b off (Nat.mul (len+1) sz)) (fun cs=>ob (jf7 (jey k h d) cs) (fun cs=>ob (joc sz (len+1) cs) (fun rows=>some (SV.lst rows))))=_ from h1)
     obtain⟨cs,_,h1⟩:=jaa.1 h1
     obtain⟨cs,_,h1⟩:=jaa.1 h1
     cases h1
   | lst rows=>cases k<;>cases rows<;>cases h1
   | int k n=>cases h1;rfl
   | _=>cases h1
 | agg l =>
  obtain⟨y,h1,h2⟩:=jaa.1 (show ob (jf7 (jey k h d) l) (fun y=>some (AV.agg y))=some (vi n) from e)
  cases h2
 | tup l =>
  obtain⟨y,h1,h2⟩:=jaa.1 (show ob (j90 (jey k h d) l) (fun y=>some (AV.tup y))=some (vi n) from e)
  cases h2
 | _=>cases e
theorem jhd.scal {F:Fns} {f:FuncId} {us:List AV} {n:Int} (k:jhd true F f us (vi n)):jhd false F f us (vi n) :=
 WC.imp k (fun v h ⟨d,e⟩=>by rw[qqi e];exact⟨1,rfl⟩)
def j9t:IC:=.seq (.block 1 (.seq (.draw [(qM 0,.none),(qM 5,.none),(qP (.ixs 1 qb qa),.none),(qL,.some []),(qM 1,.none),(qM 5,.none),(qP (.ixs 1 qb qa),.none),(qL,.some [3]),(qQ 3 (.bin .ne (.l 4) qa),.none)]) (.cond (.g 3) (qr [qQ 2 (.mv (.c (.s (.bool false))))] .ret) .skip))) (.region [qM 5,qP (.bin .add qa (qC 1)),qT 5])
def ju5:IC:=.seq (qr [qM 5,qM 0,qP (.len qa),qQ 4 (.bin .lt qc qa)] (qX 4 0)) j9t
def j9u:IC:=.seq (qr [qQ 5 (.mv (qC 0))] (.block 0 (.loop ju5))) (qr [qQ 2 (.mv (.c (.s (.bool true))))] .ret)
def qfe:IC:=qr [qQ 2 (.mv (.c (.s (.bool false))))] (.seq (qr [qM 0,qP (.len qa),qM 1,qP (.len qa),qQ 6 (.bin .ne qc qa)] (.cond (.g 6) (qr [qQ 2 (.mv (.c (.s (.bool false))))] .ret) .skip)) j9u)
theorem qt7:T 41=some (.mk qfe 2 5 [(.tmp 2)]):=by kernel_rfl
def qff:IC:=qr [qB 8 (.box 45 (.g 0)),qB 7 (.box 45 (.g 1)),qQ 2 (.mv (.c (.s (.bool false))))] (qr [qA (.load 7 true (.g 8)),qA (.call 13 [qa]),qP (.mv qa),qP (.ext 0 qa),qP (.ext 1 qb),qQ 4 (.mv qb),qQ 6 (.mv qb)] (qr [qA (.load 7 true (.g 7)),qA (.call 13 [qa]),qP (.mv qa),qP (.ext 0 qa),qP (.ext 1 qb),qQ 3 (.mv qb),qQ 5 (.mv qb)] (qr [qM 6,qP (.bin .eq qa (qC 0)),qP (.mv qa),qR 0 true (.mv (.g 5)),qR 1 true (.bin .eq qa (qC 0)),qP (.pick qc qa (.c (.s (.bool false)))),qP (.mv qa),qR 0 true (.mv (.g 4)),qS 1 true (.strop 0 qa qa),qR 2 true (.mv (.g 3)),qS 3 true (.strop 0 qa qa),qS 4 true (.strop 1 qc qa),qP (.pick (.l 5) qa (.c (.s (.bool false)))),qP (.mv qa),qR 0 true (.mv (.g 4)),qR 1 true (.len qa),qR 2 true (.bin .gt qa (qC 0)),qP (.pick qd qa (.c (.s (.bool false)))),qP (.mv qa),qR 0 true (.fld 4 (.g 8)),qS 1 true (.load 1 false qa),qR 2 true (.fld 4 (.g 7)),qS 3 true (.load 1 false qa),qR 4 true (.bin .eq qc qa),qP (.pick (.l 5) qa (.c (.s (.bool false)))),qP (.mv qa),qR 0 true (.fld 5 (.g 8)),qS 1 true (.load 1 false qa),qR 2 true (.fld 5 (.g 7)),qS 3 true (.load 1 false qa),qR 4 true (.bin .eq qc qa),qP (.pick (.l 5) qa (.c (.s (.bool false)))),qP (.mv qa),qR 0 true (.fld 0 (.g 8)),qS 1 true (.load 2 true qa),qR 2 true (.fld 0 (.g 7)),qS 3 true (.load 2 true qa),qR 4 true (.eqv false true [false,false] qc qa),qP (.pick (.l 5) qa (.c (.s (.bool false)))),qP (.mv qa),qR 0 true (.fld 6 (.g 8)),qS 1 true (.load 1 false qa),qR 2 true (.fld 6 (.g 7)),qS 3 true (.load 1 false qa),qS 4 true (.call 41 [qc,qa]),qP (.pick (.l 5) qa (.c (.s (.bool false)))),qP (.mv qa),qR 0 true (.fld 2 (.g 8)),qR 1 true (.fld 0 qa),qS 2 true (.load 1 false qa),qR 3 true (.fld 2 (.g 7)),qR 4 true (.fld 0 qa),qS 5 true (.load 1 false qa),qS 6 true (.call 41 [qd,qa]),qP (.pick (.l 7) qa (.c (.s (.bool false)))),qP (.mv qa),qR 0 true (.fld 2 (.g 8)),qR 1 true (.fld 1 qa),qS 2 true (.load 1 false qa),qR 3 true (.len qa),qR 4 true (.fld 2 (.g 7)),qR 5 true (.fld 1 qa),qS 6 true (.load 1 false qa),qR 7 true (.len qa),qR 8 true (.bin .eq (.l 4) qa),qP (.pick (.l 9) qa (.c (.s (.bool false)))),qT 2] .ret)))
theorem qt8:T 15=some (.mk qff 2 7 [(.tmp 2)]):=by kernel_rfl
def qfg:IC:=qr [qQ 7 (.mv (.c (.s (.bool false))))] (qr [qM 0,qM 1,qM 2,qM 3,qM 4,qM 5,qA (.call 12 [.l 5,.l 4,qd,qc,qb,qa]),qB 13 (.new 45 [.int .i64 0,.int .i64 0,.nilSlice,.nilSlice,.int .i64 0,.int .i64 0,.nilSlice]),qA (.store 7 qa qb)] (qr [qA (.load 7 true (.g 13)),qA (.call 13 [qa]),qP (.mv qa),qP (.ext 0 qa),qP (.ext 1 qb),qQ 12 (.mv qb),qQ 11 (.mv qb)] (qr [qM 12,qA (.call 14 [qa]),qP (.mv qa),qP (.ext 0 qa),qP (.ext 1 qb),qB 8 (.new 45 [.int .i64 0,.int .i64 0,.nilSlice,.nilSlice,.int .i64 0,.int .i64 0,.nilSlice]),qA (.store 7 qa qc),qQ 10 (.mv qc)] (qr [qM 12,qA (.app 5 1 1 (.c (.s .nilSlice)) qa),qM 6,qA (.bslice 5 1 [.int .u8 0] 1 [(0,(1,qa))]),qA (.app 5 1 1 qc qa),qA (.call 14 [qa]),qP (.mv qa),qP (.ext 0 qa),qP (.ext 1 qb),qA (.new 45 [.int .i64 0,.int .i64 0,.nilSlice,.nilSlice,.int .i64 0,.int .i64 0,.nilSlice]),qA (.store 7 qa qc),qQ 9 (.mv qc)] (qr [qM 11,qP (.bin .eq qa (qC 0)),qP (.mv qa),qR 0 true (.mv (.g 10)),qR 1 true (.bin .eq qa (qC 0)),qP (.pick qc qa (.c (.s (.bool false)))),qP (.mv qa),qR 0 true (.mv (.g 9)),qR 1 true (.bin .eq qa (qC 4)),qP (.pick qc qa (.c (.s (.bool false)))),qP (.mv qa),qS 0 true (.load 7 true (.g 13)),qS 1 true (.load 7 true (.g 8)),qS 2 true (.call 15 [qb,qa]),qP (.pick qd qa (.c (.s (.bool false)))),qT 7] .ret)))))
theorem qt9:T 5=some (.mk qfg 7 7 [(.tmp 7)]):=by kernel_rfl
section
variable {F:Fns} {dst:Option Nat} {l:List IOper} {st fr:List AV} {h:Hp} {Q:Ex->St->Prop}
theorem qck {k:Nat} {x y:Od}:WO F (.mk dst (.a (.strop k x y)) none::l) st fr h Q=zmO F (jd8 st fr h (.strop k x y)) dst l st fr Q:=jic rfl
def qqj (h:Hp) (x:Option AV):R:=ob x (fun v=>ob (qcq v) (fun l=>ok (.s (.str l)) h))
theorem j9v {x y:Od}:jd8 st fr h (.strop 0 x y)=qqj h (ev st fr x):=rfl
def qqk (h:Hp) (x y:Option AV):R:=ob x (fun a=>ob y (fun b=>svc none a (fun a=>svc none b (fun b=>qna a (fun l=>qna b (fun r=>ok (.s (.bool (j98 l r))) h))))))
theorem j9w {x y:Od}:jd8 st fr h (.strop 1 x y)=qqk h (ev st fr x) (ev st fr y):=rfl
theorem qmj {b:List UInt8} (e:qcq v=some b):qqj h (some v)=some (.s (.str b),h):=by
 show ob (qcq v) _=_
 rw[e];rfl
theorem qmk {b:List UInt8}:qqk h (some (.s (.str b))) (some (.s (.str b)))=some (vb true,h):=by
 show some (AV.s (.bool (j98 b b)),h)=_
 rw[jr7,beq_self_eq_true]
end
theorem j9x:∀ l:List Nat,∃ b,qfq (l.map (fun n:Nat=>SV.int .u8 n))=some b
 | []=>⟨[],rfl⟩
 | a::l=>by
  obtain⟨b,e⟩:=j9x l
  refine⟨UInt8.ofNat (Int.toNat a)::b,?_⟩
  show ob (qfq (l.map (fun n:Nat=>SV.int .u8 n))) (fun l=>some (UInt8.ofNat (Int.toNat a)::l))=_
  rw[e];rfl
theorem qql (l:List Nat):∃ b,qcq (.s (jae jl9 l))=some b:=by
 cases l with
 | nil=>exact⟨[],rfl⟩
 | cons a l =>
  obtain⟨b,e⟩:=j9x (a::l)
  refine⟨b,?_⟩
  show ob (jmp 1 ((a::l).map jl9)) qfq=_
  have fl:jmp 1 ((a::l).map jl9)=some ((a::l).map (fun n:Nat=>SV.int .u8 n)):=by
   rw[jkh (fun r hr=>by obtain⟨n,_,rfl⟩:=f1p.1 hr;rfl)]
   congr 1
   generalize a::l=q
   induction q with
   | nil=>rfl
   | cons b q ih=>rw[f1c,f03,ih];rfl
  rw[fl]
  exact e
theorem qqm {F:Fns} {l:List Nat} (hl:l.length<=100000) {h:Hp} {x2 x6:AV} {Q:Ex->St->Prop} (hQ:∀ x3 x4,Q (.exit 0) (.mk [.s (jae jas l),.s (jae jas l),x2,x3,x4,vi l.length,x6] h)) :
 ∀ (d i:Nat) (_:i+d=l.length) (_:Ok h) {x3 x4:AV},W F ju5.loop (.mk [.s (jae jas l),.s (jae jas l),x2,x3,x4,vi i,x6] h) Q
 | 0,i,hd,ok,x3,x4=>by
  obtain rfl:i=l.length:=by omega
  have ll:=jah (enc:=jas) (l:=l)
  rw[jag]
  unfold ju5
  simp(disch:=first|omega|rfl) only[go_sem,ll,f0q]
  exact hQ _ _
 | d+1,i,hd,ok,x3,x4=>by
  have hlt:(i:Int)<(l.length:Int):=by omega
  have ll:=jah (enc:=jas) (l:=l)
  obtain⟨n,hn⟩:∃ n,l[i]?=some n:=⟨_,f0b (by omega)⟩
  have hix:=jai (enc:=jas) (size:=1) hn rfl
  have hs:(i:Int)+1=((i+1:Nat):Int):=by omega
  rw[jag]
  unfold ju5 j9t
  simp(disch:=first|omega|rfl) only[go_sem,jad,ll,eq_true hlt,hix,jas,ne_eq,hs]
  exact qqm hl hQ d (i+1) (by omega) ok
theorem qqn {F:Fns} {k:Bool} {h:Hp} (ok:Ok h) {l:List Nat} (hl:l.length<=100000) (hX:jcw F 41 [.s (jae jas l),.s (jae jas l)] h=none) (hT:j4w F 41=T 41) :
 WC F 41 [.s (jae jas l),.s (jae jas l)] h (fun v h'=>∃ d,jfr k h' d v=some (vb true)):=by
 refine jax hX (hT.trans qt7) rfl ?_
 unfold qfe
 have ll:=jah (enc:=jas) (l:=l)
 simp(disch:=first|omega|rfl) only[go_sem,ll,ne_eq]
 unfold j9u
 simp(disch:=first|omega|rfl) only[go_sem]
 refine qqm hl (fun x3 x4=>?_) l.length 0 (by omega) ok
 simp(disch:=first|omega|rfl) only[go_sem]
 exact⟨1,rfl⟩
def SK5 (f:FuncId):Bool:=Nat.beq f 41
def FK5:Fns:=PX SK5 FK4
theorem qua {A:Nat->Int}:Env Try.prog A tys FK5:=je1 qt6
section
variable {h:Hp} {m:Nat×Nat} {f:Fc} {s:List Bool} {Q:AV->Hp->Prop}
theorem qub {g:FuncId} (h0:SK4 g=false) (h1:SK3 g=false) (h2:Nat.beq g qix.f=false) (h3:Nat.beq g j87.f=false) (h4:SK2 g=false) (h5:SK1 g=false) {vs:List AV}:jcw FK4 g vs h=jcw F11 g vs h:=(jay h0).trans ((jay h1).trans ((jee h2).trans ((jee h3).trans ((jay h4).trans (jay h5)))))
theorem qfh {l:List Nat} (hl:l.length<=100000):WC FK5 41 [.s (jae jas l),.s (jae jas l)] h Q=Q (vb true) h :=
 jao (jbe rfl (by simp only[jat,ja1,ja9,jb7,ja2,jba,ja7,jbk,jbb,jbi,if_true]) (qqn jds hl ((qub rfl rfl rfl rfl rfl rfl).trans (qme rfl rfl rfl rfl rfl rfl rfl rfl rfl rfl rfl)) rfl))
structure ScOk (m:Nat×Nat) (f:Fc) (s:List Bool) (x:Scr):Prop where
 o:FlOk m f s
 m1:2<=m.1/\m.1<=10
 m2:2<=m.2/\m.2<=10
 e1:x.m1=m.1
 e2:x.m2=m.2
 ef:x.f=f
 sd:x.seed<=1073741824
 st:x.steps<=5000
 j1:x.junk.length<=64
 j2:∀ n∈x.junk,n<=1073741824
variable {x:Scr}
theorem ScOk.oks (k:ScOk m f s x):OkS x:=by
 obtain⟨o,m1,m2,e1,e2,ef,sd,st,j1,j2⟩:=k
 obtain⟨a,b,c,d,e,g⟩:=x
 simp only at e1 e2 ef sd st j1 j2
 subst e1 e2 ef
 exact qov o.k m1 m2 (by omega) (by omega) (by omega) (fun n hn=>by have:=j2 n hn;omega)
theorem ScOk.len (k:ScOk m f s x):(jkx x).length<20000:=by
 obtain⟨o,m1,m2,e1,e2,ef,sd,st,j1,j2⟩:=k
 obtain⟨a,b,c,d,e,g⟩:=x
 simp only at e1 e2 ef j1
 subst e1 e2 ef
 exact qci o.k _ _ j1
theorem ScOk.chk (k:ScOk m f s x):jhd true F11 28 [.agg (jfk x)] (vi 0):=by
 have hK:∀ h Q,WC F11 11 [.agg [jae jas x.f.values,jae ja5 x.f.blocks],.agg [si x.m1,si x.m2]] h Q=Q (vi 0) h:=fun h Q=>by
  rw[k.e1,k.e2,k.ef]
  exact qch k.o k.m1 k.m2
 exact qiw (fun vs h=>qme rfl rfl rfl rfl rfl rfl rfl rfl rfl rfl rfl) rfl jds (LstE.enc (fun _=>rfl)) hK k.sd k.st k.j1 k.j2
theorem ScOk.chk1 (k:ScOk m f s x):WC FK1 28 [.agg (jfk x)] h Q=Q (vi 0) h :=
 jao (jbe rfl (by unfold jfk;simp only[jat,ja1,ja9,jb7,ja2,jba,ja7,jbk,jbb,jbi,if_true]) k.chk)
theorem ScOk.enc (k:ScOk m f s x):WC FK5 13 [.agg (jfk x)] h Q=Q (qox (jkx x)) h:=by
 have e:=(qiv (kk:=true) wrK jds (LstE.enc (fun _=>rfl)) k.oks (Nat.le_of_lt k.len) (fun h Q=>k.chk1))
 rw[j8s (j8p k.oks)] at e
 exact jao ((jay rfl).trans ((jay rfl).trans ((jay rfl).trans ((jee rfl).trans ((jee rfl).trans (jbe rfl (by unfold jfk;simp only[jat,ja1,ja9,jb7,ja2,jba,ja7,jbk,jbb,jbi,if_true]) e))))))
theorem ScOk.dec (k:ScOk m f s x) {kk:Bool} {h:Hp} (ok:Ok h) {l:List Nat} (hl:l.length<=20000) (hb:∀ n∈l,n<256) {rest:List Nat} (e:qq1 (l,false)=(x,(rest,false))) :
 WC (FW FK2) 14 [.s (.lst (l.map jl9))] h (fun v h'=>∃ d,jfr kk h' d v=some (qi6 x rest)) :=
 qi7 rdK ok hl hb e (by rw[k.ef];exact k.o.hne) (fun h vs Q h1 h2=>jao ((jee rfl).trans ((jee rfl).trans ((jay rfl).trans (j5o rfl h1 ⟨_,4,h2,jhd.scal k.chk⟩)))))
theorem ScOk.dec5 (k:ScOk m f s x):WC FK5 14 [.s (.lst ((jkx x).map jl9))] h Q=Q (qi6 x []) h:=by
 have e:=j8o x k.oks []
 rw[f01] at e
 exact jao ((jay rfl).trans ((jay rfl).trans (jbe rfl rfl (k.dec jds (Nat.le_of_lt k.len) (j8p k.oks) e))))
theorem ScOk.dec6 (k:ScOk m f s x) {y:SV} (ht:t<256) (h1:grd y=false) (h2:jey true h 4 y=some (.lst ((jkx x++[t]).map jl9))):WC FK5 14 [.s y] h Q=Q (qi6 x [t]) h:=by
 have e:=j8o x k.oks [t]
 have p:jhd false (FW FK2) 14 [.s (.lst ((jkx x++[t]).map jl9))] (qi6 x [t]):=k.dec jds (by rw[f0j];have:=k.len;show _+1<=_;omega) (jih (j8p k.oks) (jb0 ht jwv)) e
 have z:jms true h 4 [.s y]=some [.s (.lst ((jkx x++[t]).map jl9))]:=by
  show ob (ob (jey true h 4 y) (fun y=>some (AV.s y))) (fun y=>ob (jms true h 4 []) (fun r=>some (y::r)))=_
  rw[h2];rfl
 have g:jin [.s y]=false:=by
  show oif (grd y) true false=false
  rw[h1];rfl
 exact jao ((jay rfl).trans ((jay rfl).trans (j5o rfl g ⟨_,4,z,p⟩)))
theorem qml (k:ScOk m f s x) (ok:Ok h):WC FK5 15 [.agg (jfk x),.agg (jfk x)] h (fun v h'=>v=vb true/\Ok h'):=by
 refine jax ((jay rfl).trans ((qub rfl rfl rfl rfl rfl rfl).trans (qme rfl rfl rfl rfl rfl rfl rfl rfl rfl rfl rfl))) qt8 rfl ?_
 unfold qff
 obtain⟨hA,eA,okA,nA,xA,gA⟩:=jdn ok (jfk x) 45
 obtain⟨hB,eB,okB,nB,xB,gB⟩:=jdn okA (jfk x) 45
 have yA:=(gB _ (by omega)).trans xA
 have wE:=fun(h:Hp) (Q:AV->Hp->Prop)=>k.enc (h:=h) (Q:=Q)
 obtain⟨b,hb⟩:=qql (jkx x)
 have lB:=jah (enc:=jl9) (l:=jkx x)
 have c1:((jkx x).length:Int)>0:=by
  have:0<(jkx x).length:=Nat.succ_pos _
  omega
 have lb:=jah (enc:=ja5) (l:=x.f.blocks)
 have s1:=fun(h:Hp) (Q:AV->Hp->Prop)=>qfh (h:=h) (Q:=Q) (l:=x.junk) (by have:=k.j1;omega)
 have s2:=fun(h:Hp) (Q:AV->Hp->Prop)=>qfh (h:=h) (Q:=Q) (l:=x.f.values) (by have:=k.oks.nv;omega)
 rw[nA] at xB
 unfold jfk at eA eB xB yA wE ⊢
 simp(disch:=first|omega|rfl) only[go_sem,eA,nA,eB,yA,xB,wE,qox,qck,j9v,j9w,qmj hb,qmk,lB,eq_true c1,s1,s2,lb,jp3,qok,and_self,decide_true]
 exact okB
end
theorem qqo {h:Hp} (ok:Ok h) {a b seed steps:Int} {l:List Pc} (ha:In6 a) (hb:In6 b) (pin:∀ q∈l,Pin q) {xl:SV} (lx:LstE jb1 7 xl l) (i4:In6 seed) (i5:In6 steps) {w:List Int} (hw:∀ n∈w,In6 n) {xw:SV} (lw:LstE jgv 1 xw w) (ht:t<256) :
 WC FK5 5 [vi a,vi b,.s xl,vi seed,vi steps,.s xw,.s (.int .u8 (t:Int))] h (fun v _=>v=.s (.bool true)):=by
 refine jax ((jay rfl).trans ((qub rfl rfl rfl rfl rfl rfl).trans (qme rfl rfl rfl rfl rfl rfl rfl rfl rfl rfl rfl))) qt9 rfl ?_
 unfold qfg
 obtain⟨m1,m2⟩:=qhp a b
 obtain⟨s,o,_,_⟩:=qmb m1 m2 l
 obtain⟨m,em⟩:∃ m,jt6 a b=m:=⟨_,rfl⟩
 obtain⟨x,ex⟩:∃ x:Scr,(⟨m.1,m.2,pk seed 1073741824,pk steps 400,jkS w,jel m l⟩:Scr)=x:=⟨_,rfl⟩
 have p1:=jem (n:=seed) (m:=1073741824) (by omega)
 have p2:=jem (n:=steps) (m:=400) (by omega)
 rw[em] at m1 m2 o
 have k:ScOk m (jel m l) s x:=by
  subst ex
  exact⟨o,m1,m2,rfl,rfl,rfl,Nat.le_of_lt p1,show pk steps 400<=5000 by omega,qmh w,fun n hn=>Nat.le_of_lt (qqh w n hn)⟩
 have wS:∀ h Q,WC FK5 12 [vi a,vi b,.s xl,vi seed,vi steps,.s xw] h Q=Q (.agg (jfk x)) h:=fun h Q=>by
  have e:=qmi (F:=FK3) (fun vs h=>(qq2 rfl rfl rfl rfl rfl).trans (qme rfl rfl rfl rfl rfl rfl rfl rfl rfl rfl rfl)) rfl jds (xl:=xl) (m:=m) (f:=jel m l) hw lw (fun h Q=>by rw[←em];exact jzq ha hb) (fun h Q=>qcj m1 m2 pin lx) (fun h n k Q hn h1 h2=>j3u hn.1 hn.2 h1 h2) i4 i5
  rw[ex] at e
  exact jao ((jay rfl).trans (jbe rfl (by
   show oif true (oif true (oif (grd xl) (oif true (oif true (oif (grd xw) true false) false) false) false) false) false=true
   rw[lx.grd,lw.grd];rfl) e))
 have wE:=fun(h:Hp) (Q:AV->Hp->Prop)=>k.enc (h:=h) (Q:=Q)
 have wD:=fun(h:Hp) (Q:AV->Hp->Prop)=>k.dec5 (h:=h) (Q:=Q)
 have hB:∃ c B,jkx x=c::B:=⟨_,_,rfl⟩
 have hlen:=k.len
 have hBe:jae jl9 (jkx x)=.lst ((jkx x).map jl9):=by obtain⟨c,B,e⟩:=hB;rw[e];rfl
 obtain⟨hA,eA,okA,nA,xA,gA⟩:=jbt ok [.int .i64 0,.int .i64 0,.nilSlice,.nilSlice,.int .i64 0,.int .i64 0,.nilSlice] (jfk x) 45
 obtain⟨hC,eC,okC,nC,xC,gC⟩:=jbt okA [.int .i64 0,.int .i64 0,.nilSlice,.nilSlice,.int .i64 0,.int .i64 0,.nilSlice] (jfk x) 45
 have yA:=(gC _ (by omega)).trans xA
 obtain⟨y,hD,e1,okD,nD,gD,ns,sD,dD,bD⟩:=qby (ty:=5) (sz:=1) (bytes:=1) (E:=EY) (enc:=jl9) (l:=jkx x) okC (fun _=>rfl) (fun _=>⟨rfl,rfl⟩) (by omega) (by omega)
 obtain⟨hE,e2,okE,nE,kE,_,sE⟩:=sD.app1 (bytes:=1) (row:=[.int .u8 (t:Int)]) (a:=t) (ms:=[]) okD (fun n hn=>by have:=bD n hn;omega) rfl ⟨rfl,rfl⟩ (by omega) (by omega)
 rw[hBe] at e1
 have fz:=(sE (E':=EY) (fun _ _ _ _ e=>e)).frz (enc:=jl9) (k:=true) (d:=3) (fun row a ms e=>by obtain⟨rfl,rfl⟩:=e;rfl) (fun _=>rfl)
 have fz':jey true hE 4 (.slice (hD.next+1) 0 ((jkx x).length+1) ((jkx x).length+1) false 1)=some (.lst ((jkx x++[t]).map jl9)):=by
  rw[fz]
  obtain⟨c,B,e⟩:=hB
  rw[e];rfl
 have w6:∀ Q,WC FK5 14 [.s (.slice (hD.next+1) 0 ((jkx x).length+1) ((jkx x).length+1) false 1)] hE Q=Q (qi6 x [t]) hE:=fun Q=>k.dec6 ht rfl fz'
 obtain⟨hG,eG,okG,nG,xG,gG⟩:=jbt okE [.int .i64 0,.int .i64 0,.nilSlice,.nilSlice,.int .i64 0,.int .i64 0,.nilSlice] [.int .i64 0,.int .i64 0,.nilSlice,.nilSlice,.int .i64 0,.int .i64 0,.nilSlice] 45
 have nsn:∀ n,n<hC.next->n∉ns:=fun n hn hc=>by have:=bD n hc;omega
 have zA:hG.get h.next=some (.arr (jfk x) 45):=by rw[gG _ (by omega),kE _ (by omega) (nsn _ (by omega)),gD _ (by omega)];exact yA
 have zC:hG.get hA.next=some (.arr (jfk x) 45):=by rw[gG _ (by omega),kE _ (by omega) (nsn _ (by omega)),gD _ (by omega)];exact xC
 have wR:=fun(h:Hp) (ok:Ok h)=>qml k ok
 unfold jfk at eA eC xA zA zC wS wE wR
 simp(disch:=first|omega|rfl) only[go_sem,wS,eA,xA,wE,qox,hBe,wD,qi6,jfk,eC,e1,e2,w6,eG,zA,zC]
 refine WC.imp (wR _ okG) ?_
 rintro _ h2 ⟨rfl,ok2⟩
 simp(disch:=first|omega|rfl) only[go_sem]
 done
end
end Go.Proofs.Ythbghmhjgdonmaa.Ev
