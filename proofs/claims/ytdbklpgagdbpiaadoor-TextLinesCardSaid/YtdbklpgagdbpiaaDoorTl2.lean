/- A script is checked and built; what answers for those who show it. -/
import Derived.Test.YtdbklpgagdbpiaaDoorSh2
namespace Go.Proofs.YtdbklpgagdbpiaaDoor.Ev
noncomputable section
open Go Go.RowKit Go.Proofs.YtdbklpgagdbpiaaDoor.Ms
attribute [local go_sem] Int.reduceToNat reduceCtorEq Nat.reduceAdd Nat.reduceMul Nat.reduceEqDiff Int.reduceEq Int.reduceLT Int.reduceLE Int.reduceNeg Int.reduceAdd Int.reduceSub Int.reduceMul Int.reduceNe
attribute [local go_sem ↓] reduceIte
set_option linter.all false
set_option maxRecDepth 100000
set_option maxHeartbeats 4000000
variable {x0 x1 x2 x3 x4 x8 x9 x11 x12 x15:AV} {a:Int} {fr st vs:List AV} {xj xl:SV}
def qsc (s:Scr) (xj:SV):List SV:=[si s.m1,si s.m2,jae jaz s.f.values,jae ja3 s.f.blocks,si s.seed,si s.steps,xj]
theorem qhe {F:Fns} {l:List Nat} (lj:LstE jaz 1 xj l) (hl:l.length<=64) (hj:∀ n∈l,n<=1073741824) {x10:AV} {Q:Ex->St->Prop} :
 ∀ (d i:Nat) (_:i+d=l.length) {hi:Hp} (_:Ok hi) {x2 x3 x5:AV}
  (hQ:∀ x2 x3 x5,Q (.exit 0) (.mk [x0,x1,x2,x3,.s xj,x5,vi l.length,vi l.length,x8,x9,x10,x11,x12] hi)),
  W F jwi.loop (.mk [x0,x1,x2,x3,.s xj,x5,vi l.length,vi i,x8,x9,x10,x11,x12] hi) Q
 | 0,i,hd,hi,ok,x2,x3,x5,hQ=>by
  obtain rfl:i=l.length:=by omega
  rw[jaj]
  unfold jwi
  simp(disch:=first|omega|rfl) only[go_sem,f0s]
  exact hQ _ _ _
 | d+1,i,hd,hi,ok,x2,x3,x5,hQ=>by
  have hil:i<l.length:=by omega
  have hlt:(i:Int)<(l.length:Int):=by omega
  have hss:(i:Int)+1=((i+1:Nat):Int):=by omega
  obtain⟨n,hn⟩:∃ n,l[i]?=some n:=⟨_,f0b hil⟩
  have hix:=lj.at_ hn
  have hn2:=hj n (f0c hn)
  have c1:((n:Int)<0)=False:=eq_false (by omega)
  have c2:(1073741824<(n:Int))=False:=eq_false (by omega)
  rw[jaj]
  unfold jwi qbo
  simp(disch:=first|omega|rfl) only[go_sem,jad,eq_true hlt,hix,jaz,c1,c2,hss]
  exact qhe lj hl hj d (i+1) (by omega) ok hQ
theorem qn5 {F:Fns} (hX:∀ vs h,jdx F 9 vs h=none) (hT:qcx F=T) {h:Hp} (ok:Ok h) {s:Scr} (lq:LstE jaz 1 xj s.junk) (hK:∀ h Q,WC F 20 [.agg [jae jaz s.f.values,jae ja3 s.f.blocks],.agg [si s.m1,si s.m2]] h Q=Q (vi 0) h) (h1:s.seed<=1073741824) (h2:s.steps<=5000) (h3:s.junk.length<=64) (h4:∀ n∈s.junk,n<=1073741824) :
 WC F 9 [.agg (qsc s xj)] h (fun v h'=>∃ d,jhz true h' d v=some (vi 0)):=by
 refine ja9 (hX _ _) ((congrFun hT _).trans qvk) rfl ?_
 unfold qgz qsc
 obtain⟨hA,eA,okA,nA,xA,gA⟩:=je0 ok [si s.m1,si s.m2,jae jaz s.f.values,jae ja3 s.f.blocks,si s.seed,si s.steps,xj] 31
 have lj:=lq.len
 have c1:((s.seed:Int)<0)=False:=eq_false (by omega)
 have c2:(1073741824<(s.seed:Int))=False:=eq_false (by omega)
 have c3:((s.steps:Int)<0)=False:=eq_false (by omega)
 have c4:(5000<(s.steps:Int))=False:=eq_false (by omega)
 have c5:(64<(s.junk.length:Int))=False:=eq_false (by omega)
 simp(disch:=first|omega|rfl) only[go_sem,eA,xA,hK]
 unfold qbr
 simp(disch:=first|omega|rfl) only[go_sem,xA,c1,c2,c3,c4]
 unfold qbq
 simp(disch:=first|omega|rfl) only[go_sem,xA,lj,c5]
 unfold qbp
 simp(disch:=first|omega|rfl) only[go_sem,xA,lj]
 refine qhe lq h3 h4 s.junk.length 0 (by omega) okA (fun x2 x3 x5=>?_)
 simp(disch:=first|omega|rfl) only[go_sem]
 exact⟨1,rfl⟩
def SK1 (f:FuncId):Bool:=Nat.beq f 9
def FK1:Fns:=PX SK1 F11
def FT0:Fns:=qdb FK1
def SSh (f:FuncId):Bool:=Nat.beq f 5
def FT1:Fns:=PX SSh FT0
theorem qxs {A:Nat->Int}:Env Tryd.prog A tys FT1:=jhx (j70 (jhx qvj))
theorem j1x {f:FuncId} (h1:Nat.beq f 12=false) (h2:Nat.beq f 21=false) (h3:Nat.beq f 15=false) {h:Hp}:jz4 f vs h=none:=by
 unfold jz4
 rw[h1,h2,h3];rfl
theorem jrt {F:Fns} {f:FuncId} {h:Hp} (hl:jz4 f vs h=none):jdx (qdb F) f vs h=jdx F f vs h:=by
 cases F with
 | mk T X =>
  show Option.rec (motive:=fun _=>R) (X f vs h) (fun r=>some r) (jz4 f vs h)=X f vs h
  rw[hl]
theorem qb2 {F:Fns} {f:FuncId} {h:Hp} {r:AV×Hp} (hl:jz4 f vs h=some r):jdx (qdb F) f vs h=some r:=by
 cases F with
 | mk T X =>
  show Option.rec (motive:=fun _=>R) (X f vs h) (fun r=>some r) (jz4 f vs h)=some r
  rw[hl]
theorem qvs {g:FuncId} (h:Bf g=true) {h0:Hp}:jdx FT0 g vs h0=none:=by
 unfold Bf at h
 simp only[f2v] at h
 rcases h with h | h | h | h | h | h<;>(have e:=f0i h;subst e;exact(jrt (j1x rfl rfl rfl)).trans ((jbk rfl).trans (qsz rfl rfl rfl rfl rfl rfl rfl rfl rfl rfl rfl)))
theorem blT:BlF FT0:=⟨fun g hg vs h=>qvs hg,rfl,fun f vs h r hr=>qb2 hr⟩
section
variable {h:Hp} {m:Nat×Nat} {f:Fc} {s:List Bool} {Q:AV->Hp->Prop}
structure ScG (f:Fc) (m:Nat×Nat) (s:List Bool) (x:Scr):Prop where
 o:FlOk m f s
 m1:2<=m.1/\m.1<=10
 m2:2<=m.2/\m.2<=10
 e1:x.m1=m.1
 e2:x.m2=m.2
 ef:x.f=f
 sd:x.seed<=1073741824
 st:x.steps<=5000
 j1:x.junk.length<=64
 j2:∀ n∈x.junk,n<=1073741824
theorem qn6 {x:Scr} (k:ScG f m s x):WC FT0 9 [.agg (jrs x)] h Q=Q (vi 0) h :=
 jaq ((jrt (j1x rfl rfl rfl)).trans (jbm rfl (by unfold jrs;simp only[jat,ja1,jbd,jcw,ja2,jbe,jbb,jbq,jbf,jbn,if_true]) (qn5 (fun vs h=>qsz rfl rfl rfl rfl rfl rfl rfl rfl rfl rfl rfl) rfl jex (s:=x) (LstE.enc (fun _=>rfl)) (fun h Q=>by rw[k.ef,k.e1,k.e2];exact qep k.o k.m1 k.m2) k.sd k.st k.j1 k.j2)))
theorem ScG.tks {x:Scr} (k:ScG f m s x):TkS x:=by
 have kc:=k.o.k
 have hnv:=kc.nv
 have hnb:=kc.nb
 have hm1:=k.m1
 have hm2:=k.m2
 have hg:∀ c,g2 m c<=10:=fun c=>by unfold g2;split<;>omega
 have ef:=k.ef
 subst ef
 refine⟨by rw[k.e1];omega,by rw[k.e2];omega,by have:=k.sd;omega,by have:=k.st;omega,by have:=k.j1;omega,fun n hn=>by have:=k.j2 n hn;omega,by omega,fun n hn=>by have:=kc.cls n hn;omega,by omega,fun b hb=>?_⟩
 obtain⟨h1,h2,h3⟩:=kc.blk b hb
 refine⟨by omega,fun v h=>by have:=kc.prm b hb v h;omega,by omega,fun y hy=>?_,by omega,fun e he=>?_⟩
 .have i:=kc.ins b hb y hy
  have h4:=i.op
  have h5:=i.nops
  have h6:=i.nsp
  refine⟨by omega,by omega,by omega,fun o ho=>?_,fun r hr=>?_⟩
  .have q:=i.opd o ho
   have h7:=q.lim
   have h8:=q.val
   refine⟨by have:=q.kind;omega,by omega,by omega,?_⟩
   by_cases e:o.limit=5
   .obtain ⟨u,hu,_⟩:=i.reu o ho e
    have:=(f0x.1 hu).1
    omega
   .by_cases e2:o.limit=4
    .have:=q.fix e2
     have:=hg (cl x.f.values o.value)
     omega
    .have:=q.zero (by omega)
     omega
  .obtain ⟨h7,h8⟩:=i.spo r hr
   have:=hg r.1
   exact⟨by omega,by omega⟩
 .obtain ⟨_,h4,t,h5,h6,_⟩:=kc.edg b hb e he
  have h7:=(f0x.1 h5).1
  have h8:=congrArg List.length h6
  simp only[f1d] at h8
  have h9:=(kc.blk t (f0c h5)).1
  exact⟨by omega,by omega,fun v hv'=>by have:=h4 v hv';omega⟩
def qwe (x:Scr):AV:=.tup [(false,[.str (j58 x)]),(false,[si 0])]
theorem qev {x:Scr} (k:ScG f m s x):WC FT1 5 [.agg (jrs x)] h Q=Q (qwe x) h :=
 jaq (jbm rfl (by unfold jrs;simp only[jat,ja1,jbd,jcw,ja2,jbe,jbb,jbq,jbf,jbn,if_true]) (qn4 blT jex k.tks (fun h Q=>qn6 k) (fun h'=>⟨2,rfl⟩)))
structure ScF (F:Fns):Prop where
 x:∀ vs h,jdx F 4 vs h=none
 t:qcx F=T
 m:∀ {a b:Int},In6 a->In6 b->∀ {h:Hp} {Q:AV->Hp->Prop},WC F 6 [vi a,vi b] h Q=Q (.agg (qqa (jm9 a b))) h
 f:∀ {m:Nat×Nat} {l:List Pc},(2<=m.1/\m.1<=10)->(2<=m.2/\m.2<=10)->(∀ q∈l,Pin q)->∀ {xl:SV},LstE jce 7 xl l->∀ {h:Hp} {Q:AV->Hp->Prop},WC F 7 [.agg [si m.1,si m.2],.s xl] h Q=Q (.agg (qpv (jct m l))) h
 p:∀ {n k:Int},-9223372036854775808<=n->n<=9223372036854775807->0<k->k<=9223372036854775807->∀ {h:Hp} {Q:AV->Hp->Prop},WC F 8 [vi n,vi k] h Q=Q (vi (pick n k)) h
theorem qsd {g:FuncId} (h1:SSh g=false) (h2:SK1 g=false) (h3:Nat.beq g 12=false) (h4:Nat.beq g 21=false) (h5:Nat.beq g 15=false):jdx FT1 g vs h=jdx F11 g vs h:=(jbk h1).trans ((jrt (j1x h3 h4 h5)).trans (jbk h2))
theorem scT:ScF FT1 where
 x:=fun vs h=>(qsd rfl rfl rfl rfl rfl).trans (qsz rfl rfl rfl rfl rfl rfl rfl rfl rfl rfl rfl)
 t:=rfl
 m:=fun {a b} ha hb {h Q}=>jaq ((qsd rfl rfl rfl rfl rfl).trans ((jbk rfl).trans ((qnx rfl rfl).trans ((jbk rfl).trans ((qun rfl rfl rfl rfl).trans (j50 ha hb))))))
 f:=fun {m l} m1 m2 pin {xl} lx {h Q}=>jaq ((qsd rfl rfl rfl rfl rfl).trans ((jbk rfl).trans ((qnx rfl rfl).trans ((jbk rfl).trans ((qun rfl rfl rfl rfl).trans (qjz m1 m2 pin lx))))))
 p:=fun {n k} h1 h2 hm hm2 {h Q}=>jaq ((qsd rfl rfl rfl rfl rfl).trans ((jbk rfl).trans ((qnx rfl rfl).trans ((jbk rfl).trans ((qun rfl rfl rfl rfl).trans ((jbk rfl).trans ((jio.pk _ _).trans (jx5 h1 h2 hm hm2))))))))
end
theorem j1y {F:Fns} {es:List Ent} {h:Hp} {dst:Option Nat} {l:List (IOper×Option (List Nat))} {Q:Ex->St->Prop} {e:TypeId} {z:List SV} {js:List Nat} {hd:List (Nat×Nat)} (k:Ok h) (hs:sel es js []=some hd) (hh:jao hd h.next=false) :
 WD F ((.mk dst (.a (.new e z)) none,some js)::l) st es fr h Q=WD F l (.s (.ptr h.next 0)::st) (.mk [(h.next,Nat.succ h.next)] (some [])::es) (jcn fr dst (.s (.ptr h.next 0))) (h.push (.arr z e)) Q:=by
 rw[jz0 (x:=some (DR.mk (.s (.ptr h.next 0)) (h.push (.arr z e)) (.mk [(h.next,Nat.succ h.next)] (some [])))) (fun cl=>?_)]
 .exact jcb
 .cases h with
  | mk n1 t lo hid =>
  obtain rfl:hid=[]:=k.hid
  obtain rfl:lo=0:=k.lo
  have hh':jao hd n1=false:=hh
  have hi:iop cl st fr (.mk n1 t n1 hd) (.a (.new e z))=some (.s (.ptr n1 0),.mk (Nat.succ n1) (t.put (Nat.succ n1) n1 (some (.arr z e))) n1 hd):=by
   show oif (jao hd n1) none (some (AV.s (.ptr n1 0),Hp.mk (Nat.succ n1) (t.put (Nat.succ n1) n1 (some (.arr z e))) n1 hd))=_
   rw[hh'];rfl
  show ob (sel es js []) (fun hid'=>jnw cl st fr n1 t 0 n1 [] hid' (.a (.new e z)) (fun n'=>.mk [(n1,n')] (some [])))=_
  rw[hs]
  show ob (iop cl st fr (.mk n1 t n1 hd) (.a (.new e z))) _=_
  rw[hi]
  rfl
theorem qn7 {F:Fns} (fs:ScF F) {h:Hp} (ok:Ok h) {b:Int} {l:List Pc} (ha:In6 a) (hb:In6 b) (pin:∀ q∈l,Pin q) (lx:LstE jce 7 xl l):WC F 4 [vi a,vi b,.s xl,vi 1,vi 2,.s .nilSlice] h (fun v h'=>v=.agg (jrs ⟨(jm9 a b).1,(jm9 a b).2,1,2,[],jct (jm9 a b) l⟩)/\Ok h'):=by
 refine ja9 (fs.x _ _) ((congrFun fs.t _).trans qvl) rfl ?_
 unfold qg0
 have hpos:=ok.pos
 obtain⟨m1,m2⟩:=j9r a b
 obtain⟨m,em⟩:∃ m,jm9 a b=m:=⟨_,rfl⟩
 rw[em] at m1 m2 ⊢
 obtain⟨hA,eA,okA,nA,xA,gA⟩:=je0 ok [.int .i64 0,.int .i64 0,.nilSlice,.nilSlice,.int .i64 0,.int .i64 0,.nilSlice] 31
 obtain⟨hB,eB,okB,nB,xB,gB⟩:=jc2 okA [.int .i64 0,.int .i64 0] [si m.1,si m.2] 25
 have yA:=(gB h.next (by omega)).trans xA
 have g1:pick 1 1073741824=1:=by decide
 have g2:pick 2 400=2:=by decide
 obtain⟨hC,eC,okC,nC,xC,gC⟩:=jc2 okB [.int .i64 0,.int .i64 0,.nilSlice,.nilSlice,.int .i64 0,.int .i64 0,.nilSlice] [si m.1,si m.2,jae jaz (jct m l).values,jae ja3 (jct m l).blocks,.int .i64 1,.int .i64 2,.nilSlice] 31
 have zC:hC.get h.next=some (.arr [.int .i64 0,.int .i64 0,.nilSlice,.nilSlice,.int .i64 0,.int .i64 0,.nilSlice] 31):=by rw[gC _ (by omega),gB _ (by omega)];exact xA
 obtain⟨hD,eD,okD,nD,xD,gD⟩:=qr9 okC (b:=h.next) hpos (some (.arr [si m.1,si m.2,jae jaz (jct m l).values,jae ja3 (jct m l).blocks,.int .i64 1,.int .i64 2,.nilSlice] 31))
 have hh:(hB.next<=hA.next/\hA.next<hB.next)=False:=eq_false (by omega)
 simp(disch:=first|omega|rfl) only[go_sem,eA,fs.m ha hb,em,qqa,eB,xB,fs.f m1 m2 pin lx,qpv,fs.p (n:=1) (k:=1073741824) (by omega) (by omega) (by omega) (by omega),fs.p (n:=2) (k:=400) (by omega) (by omega) (by omega) (by omega),g1,g2,hh]
 rw[j1y okB (hd:=[(hB.next,hB.next),(hB.next,hB.next),(hB.next,hB.next)]) rfl (by
  have e:∀ n:Nat,jao [(n,n),(n,n),(n,n)] n=false:=fun n=>by simp[jao,jap,jtj]
  exact e _)]
 simp(disch:=first|omega|rfl) only[go_sem,eC,f0s]
 rw[jaj]
 unfold qbs
 simp(disch:=first|omega|rfl) only[go_sem,f0s,xC,zC,eD,xD]
 exact⟨rfl,okD⟩
def nls (l:List UInt8):Nat:=l.count 10
theorem jht (a b:List UInt8):nls (a++b)=nls a+nls b:=List.count_append ..
theorem qb3:∀ (f n:Nat) (acc:List UInt8),nls (dig f n acc)=nls acc
 | 0,n,acc=>rfl
 | f+1,n,acc=>by
  show nls (oif (Nat.ble n 9) (UInt8.ofNat (48+n)::acc) (dig f (n / 10) (UInt8.ofNat (48+n % 10)::acc)))=_
  have key:∀ d,d<=9->nls (UInt8.ofNat (48+d)::acc)=nls acc:=fun d hd=>by
   unfold nls
   rw[List.count_cons_of_ne]
   intro e
   have:=congrArg UInt8.toNat e
   simp at this
   omega
  rw[jap]
  split
  .rename_i h
   exact key n (f0g h)
  .rw [qb3 f];exact key _ (by omega)
theorem jj4 (n:Nat):nls (ito n)=0:=qb3 19 n []
theorem jhu {α:Type} {f:α->List UInt8} {g:α->Nat} (hf:∀ a,nls (f a)=g a):∀ l:List α,nls ((l.map f).flatten)=(l.map g).sum
 | []=>rfl
 | a::l=>by rw[f1k,f1h,jht,hf,jhu hf l,f1k,List.sum_cons]
theorem jop {α:Type}:∀ l:List α,(l.map (fun _=>0)).sum=0
 | []=>rfl
 | a::l=>by rw[f1k,List.sum_cons,jop l]
theorem j1z {α:Type}:∀ l:List α,(l.map (fun _=>1)).sum=l.length
 | []=>rfl
 | a::l=>by rw[f1k,List.sum_cons,j1z l,f00];omega
theorem j10 (l:List Nat):nls (jlq l)=0:=by
 unfold jlq
 rw[jhu (g:=fun _=>0) (fun n=>by
  show nls ([32]++ito n)=0
  rw[jht,jj4];rfl),jop]
theorem qse (k:Nat):nls (kw k)=0:=by unfold kw;split<;>rfl
theorem qsf (k:Nat):nls (lw k)=0:=by unfold lw;split<;>rfl
theorem qn8 (o:Ms.Opd):nls (qb0 o)=0:=by
 unfold qb0 j57
 simp only[jht,qse,qsf,jj4]
 split<;>split<;>first | rfl | (simp only[jht,jj4];rfl)
theorem qn9 (r:Nat×Nat):nls (qer r)=0:=by
 unfold qer
 simp only[jht,jj4];rfl
theorem qoa (x:Ms.Ins):nls (qb1 x)=1:=by
 unfold qb1
 simp only[jht,jj4]
 rw[jhu (g:=fun _=>0) qn8,jhu (g:=fun _=>0) qn9,jop,jop];rfl
theorem qob (e:Ms.Edg):nls (qes e)=1:=by
 unfold qes
 simp only[jht,jj4,j10];rfl
theorem qoc (b:Ms.Blk):nls (qb8 b)=1+b.instrs.length+b.edges.length:=by
 unfold qb8
 simp only[jht,j10]
 rw[jhu (g:=fun _=>1) qoa,jhu (g:=fun _=>1) qob,j1z,j1z]
 show 0+0+1+_+_=_
 omega
theorem qod (s:Scr):nls (j58 s)=3+(s.f.blocks.map (fun b=>1+b.instrs.length+b.edges.length)).sum:=by
 unfold j58
 simp only[jht,j10,jj4]
 rw[jhu (g:=fun b=>1+b.instrs.length+b.edges.length) qoc]
 rfl
theorem qew {s:Scr} (k:TkS s):(j58 s).length<=1000000000:=by
 have q1:=jc3 s.seed
 have q2:=jc3 s.steps
 have q3:=jeb [s.m1,s.m2]
 have q4:=jeb s.junk
 have q5:=jeb s.f.values
 have q6:=k.nj
 have q7:=k.nv
 have q8:=k.nb
 have q9:=jhc (f:=qb8) (k:=600000) (l:=s.f.blocks) (fun y hy=>jwq (k.b y hy))
 unfold j58
 simp only[f0k,f00,f1b] at q3 ⊢
 omega
def qsg (x i:Option AV):Option AV:=ob x (fun v=>ob i (fun w=>svc none v (fun s=>SV.casesOn (motive_1:=fun _=>Option AV) s (fun _=>none) (fun _ _=>none) (fun _=>none) (fun _ _=>none) none (fun _ _ _ _ _ _=>none) none (fun _ _=>none) none none (fun _=>none)
 (fun l=>below w (jb2 l) (fun m=>ob (jec l m) (fun b=>some (.s (.int .u8 (Int.ofNat (UInt8.toNat b))))))) (fun _=>none) (fun _=>none) none (fun _=>none))))
theorem qb4 {x i:Od}:pop st fr (.stri x i)=qsg (ev st fr x) (ev st fr i):=rfl
theorem qex {l:List UInt8} {i:Nat} {b:UInt8} (hi:l[i]?=some b):qsg (some (.s (.str l))) (some (vi (i:Int)))=some (.s (.int .u8 (b.toNat:Int))):=by
 have hm:i<l.length:=(f0x.1 hi).1
 show below (vi (i:Int)) (jb2 l) (fun m=>ob (jec l m) (fun b=>some (AV.s (.int .u8 (Int.ofNat (UInt8.toNat b))))))=_
 rw[jg2 (by rw[ja7];exact hm),jcl,hi];rfl
section
variable {h:Hp} {Q:Ex->St->Prop}
theorem qsh {F:Fns} {l:List Ms.Blk} (hl:l.length<=100) (hb:∀ b∈l,b.instrs.length<=100/\b.edges.length<=100) {x5 x6 x7:AV} :
 ∀ (d i:Nat) (_:i+d=l.length) {hi:Hp} (_:Ok hi) {n:Nat} (_:n+300*d<=100000) {x9 x12:AV}
  (hQ:∀ hj x9 x12,Ok hj->Q (.exit 0) (.mk [x0,x1,x2,x3,x4,x5,x6,x7,x8,x9,vi ((n+((l.drop i).map (fun b=>1+b.instrs.length+b.edges.length)).sum:Nat):Int),.s (jae ja3 l),x12,vi l.length,vi l.length,x15] hj)),
  W F jwk.loop (.mk [x0,x1,x2,x3,x4,x5,x6,x7,x8,x9,vi (n:Int),.s (jae ja3 l),x12,vi l.length,vi i,x15] hi) Q
 | 0,i,hd,hi,ok,n,hw,x9,x12,hQ=>by
  obtain rfl:i=l.length:=by omega
  rw[jaj]
  unfold jwk
  simp(disch:=first|omega|rfl) only[go_sem,f0s]
  have:=hQ hi x9 (vb false) ok
  rw[f2r] at this
  exact this
 | d+1,i,hd,hi,ok,n,hw,x9,x12,hQ=>by
  have hil:i<l.length:=by omega
  have hlt:(i:Int)<(l.length:Int):=by omega
  have hss:(i:Int)+1=((i+1:Nat):Int):=by omega
  obtain⟨x,hx⟩:∃ n,l[i]?=some n:=⟨_,f0b hil⟩
  have hdr:l.drop i=x::l.drop (i+1):=by rw[f08 hil,(f0x.1 hx).2]
  have hix:=jah (enc:=ja3) (size:=3) hx rfl
  obtain⟨b1,b2⟩:=hb x (f0c hx)
  obtain⟨hA,eA,okA,nA,xA,gA⟩:=jc2 ok [.nilSlice,.nilSlice,.nilSlice] (ja3 x) 39
  have l1:=jag (enc:=jel) (l:=x.instrs)
  have l2:=jag (enc:=jgf) (l:=x.edges)
  have hsum:(n:Int)+(1+(x.instrs.length:Int)+(x.edges.length:Int))=((n+(1+(x.instrs.length+x.edges.length)):Nat):Int):=by omega
  unfold ja3 at xA eA
  rw[jaj]
  unfold jwk qbw
  simp(disch:=first|omega|rfl) only[go_sem,jad,eq_true hlt,hix,ja3,eA,xA,l1,l2,hsum,hss]
  refine qsh hl hb d (i+1) (by omega) okA (n:=n+(1+(x.instrs.length+x.edges.length))) (by omega) (fun hj x9 x12 okj=>?_)
  have:=hQ hj x9 x12 okj
  rw[hdr,f1k,List.sum_cons] at this
  have e:n+(1+x.instrs.length+x.edges.length+((l.drop (i+1)).map (fun b=>1+b.instrs.length+b.edges.length)).sum)=n+(1+(x.instrs.length+x.edges.length))+((l.drop (i+1)).map (fun b=>1+b.instrs.length+b.edges.length)).sum:=by omega
  rw[e] at this
  exact this
theorem qoe {F:Fns} {l:List UInt8} (hl:l.length<=1000000000) {x13 x14:AV} :
 ∀ (d i:Nat) (_:i+d=l.length) {n:Int} (_:-1000000000<=n - d/\n<=1000000000) {x5 x6:AV}
  (hQ:∀ x5 x6,Q (.exit 2) (.mk [x0,x1,x2,x3,x4,x5,x6,.s (.str l),vi l.length,x9,vi (n - (nls (l.drop i):Int)),x11,x12,x13,x14,x15] h)),
  W F jwl.loop (.mk [x0,x1,x2,x3,x4,x5,x6,.s (.str l),vi i,x9,vi n,x11,x12,x13,x14,x15] h) Q
 | 0,i,hd,n,hn,x5,x6,hQ=>by
  obtain rfl:i=l.length:=by omega
  rw[jaj]
  unfold jwl
  have hln:=j1w (l:=l) (by omega)
  simp(disch:=first|omega|rfl) only[go_sem,jcf,jcg,jch,jaw,jan,jci,jax,hln,f0s]
  have:=hQ x5 (vb false)
  rw[f2r] at this
  simpa[nls] using this
 | d+1,i,hd,n,hn,x5,x6,hQ=>by
  have hil:i<l.length:=by omega
  have hlt:(i:Int)<(l.length:Int):=by omega
  have hss:(i:Int)+1=((i+1:Nat):Int):=by omega
  obtain⟨b,hx⟩:∃ n,l[i]?=some n:=⟨_,f0b hil⟩
  have hdr:l.drop i=b::l.drop (i+1):=by rw[f08 hil,(f0x.1 hx).2]
  have hln:=j1w (l:=l) (by omega)
  have hst:=qex hx
  have hbe:jep .eq (.int .u8 (b.toNat:Int)) (.int .u8 10)=some (vb (decide ((b.toNat:Int)=10))):=by
   show some (AV.s (.bool (ieq (b.toNat:Int) 10)))=_
   rw[jc0]
  rw[jaj]
  unfold jwl qbx
  by_cases hb:b=10
  .have e:((b.toNat:Int)=10)=True:=eq_true (by rw[hb];rfl)
   simp(disch:=first|omega|rfl) only[go_sem,jcf,jcg,jch,jaw,jan,jci,jax,qb4,hln,hst,hbe,jad,eq_true hlt,e,hss]
   refine qoe hl d (i+1) (by omega) (n:=n - 1) (by omega) (fun x5 x6=>?_)
   have:=hQ x5 x6
   have e2:nls (l.drop i)=nls (l.drop (i+1))+1:=by rw[hdr,hb];exact List.count_cons_self
   rw[e2] at this
   have e3:n - 1 - (nls (l.drop (i+1)):Int)=n - ((nls (l.drop (i+1))+1:Nat):Int):=by omega
   rw[e3];exact this
  .have e:((b.toNat:Int)=10)=False:=eq_false (fun e=>hb (UInt8.toNat_inj.1 (by show b.toNat=10;omega)))
   simp(disch:=first|omega|rfl) only[go_sem,jcf,jcg,jch,jaw,jan,jci,jax,qb4,hln,hst,hbe,jad,eq_true hlt,e,hss]
   refine qoe hl d (i+1) (by omega) (n:=n) (by omega) (fun x5 x6=>?_)
   have:=hQ x5 x6
   have e2:nls (l.drop i)=nls (l.drop (i+1)):=by rw[hdr];exact List.count_cons_of_ne (fun e=>hb e)
   rw[e2] at this
   exact this
theorem qsi {h:Hp} (ok:Ok h) {b:Int} {l:List Pc} (ha:In6 a) (hb:In6 b) (pin:∀ q∈l,Pin q) (lx:LstE jce 7 xl l):WC FT1 3 [vi a,vi b,.s xl] h (fun v _=>v=.s (.bool true)):=by
 refine ja9 ((qsd rfl rfl rfl rfl rfl).trans (qsz rfl rfl rfl rfl rfl rfl rfl rfl rfl rfl rfl)) qvp rfl ?_
 unfold qg4
 obtain⟨m1,m2⟩:=j9r a b
 obtain⟨s,o,_,_⟩:=qnw m1 m2 l
 simp(disch:=first|omega|rfl) only[go_sem]
 refine WC.imp (qn7 scT ok ha hb pin lx) ?_
 rintro _ hA ⟨rfl,okA⟩
 obtain⟨m,em⟩:∃ m,jm9 a b=m:=⟨_,rfl⟩
 rw[em] at m1 m2 o ⊢
 have k:ScG (jct m l) m s ⟨m.1,m.2,1,2,[],jct m l⟩:=⟨o,m1,m2,rfl,rfl,rfl,(by decide:1<=1073741824),(by decide:2<=5000),by simp,by simp⟩
 have kt:=k.tks
 have hlen:=qew kt
 have hnl:=qod ⟨m.1,m.2,1,2,[],jct m l⟩
 obtain⟨hB,eB,okB,nB,xB,gB⟩:=jc2 okA [.int .i64 0,.int .i64 0,.nilSlice,.nilSlice,.int .i64 0,.int .i64 0,.nilSlice] (jrs ⟨m.1,m.2,1,2,[],jct m l⟩) 31
 have hsh:=fun(h:Hp) (Q:AV->Hp->Prop)=>qev (h:=h) (Q:=Q) k
 have lb:=jag (enc:=ja3) (l:=(jct m l).blocks)
 generalize hS:j58 ⟨m.1,m.2,1,2,[],jct m l⟩=S at hlen hnl
 unfold qwe at hsh
 rw[hS] at hsh
 have e7:jrs ⟨m.1,m.2,1,2,[],jct m l⟩=[si m.1,si m.2,jae jaz (jct m l).values,jae ja3 (jct m l).blocks,si 1,si 2,jae jaz []]:=rfl
 rw[e7] at eB xB
 rw[e7]
 rw[e7] at hsh
 simp(disch:=first|omega|rfl) only[go_sem,eB,xB,hsh,lb]
 have hnb:(jct m l).blocks.length<=100:=kt.nb
 have hbb:∀ b∈(jct m l).blocks,b.instrs.length<=100/\b.edges.length<=100:=fun b hb=>⟨(kt.b b hb).ni,by have:=(kt.b b hb).ne;omega⟩
 refine qsh hnb hbb (jct m l).blocks.length 0 (by omega) okB (n:=3) (by have:(jct m l).blocks.length<=100:=hnb;omega) (fun hC x9 x12 okC=>?_)
 rw[f11,←hnl]
 simp(disch:=first|omega|rfl) only[go_sem]
 have hcn:nls S<=S.length:=List.count_le_length
 have hsm:nls S<=S.length/\S.length<=1000000000:=⟨hcn,hlen⟩
 refine qoe hlen S.length 0 (by omega) (by omega) (fun x5 x6=>?_)
 rw[f11,Int.sub_self]
 simp(disch:=first|omega|rfl) only[go_sem]
 done
end
end
end Go.Proofs.YtdbklpgagdbpiaaDoor.Ev
