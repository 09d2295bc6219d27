/- Moves: a machine, places, cells: what the code tells. Conditions: the numbers' bounds. -/
import Derived.Test.YtmcfkgjjnhlkiaaCdY
import Derived.Test.YtmcfkgjjnhlkiaaEnc
namespace Go.Proofs.Ytmcfkgjjnhlkiaa.Ev
noncomputable section
open Go Go.RowKit Go.Proofs.Ytmcfkgjjnhlkiaa.Ms
attribute [local go_sem] Int.reduceToNat reduceCtorEq Nat.reduceAdd Nat.reduceMul Nat.reduceEqDiff Int.reduceEq Int.reduceLT Int.reduceLE Int.reduceNeg Int.reduceAdd Int.reduceSub Int.reduceMul Int.reduceNe
attribute [local go_sem ↓] reduceIte
set_option linter.all false
set_option maxRecDepth 100000
set_option maxHeartbeats 4000000
def G0:Fns:=.mk T (fun _ _ _=>none)
theorem j8j {A:Nat->Int}:Env Try.prog A tys G0 where
 tys:=j5m
 mix:=(env (A:=A) (ps:=[]) (fun i m r h=>by simp at h)).mix
 fn:=(env (A:=A) (ps:=[]) (fun i m r h=>by simp at h)).fn
 ext:=fun f vs h v h' hx=>by cases hx
theorem jbs {F:Fns} {f:FuncId} {vs:List AV} {h h':Hp} {u:AV} {Q:AV->Hp->Prop} (hx:jig F f vs h=some (u,h')):WC F f vs h Q=Q u h':=by
 refine propext ⟨fun⟨n,v,h1,h2,h3⟩=>?_,j5r hx⟩
 cases F with
 | mk T X =>
 have h4:Option.rec (motive:=fun _=>R) _ (fun r=>some r) (X f vs h)=some (v,h1):=h2
 rw[show X f vs h=some (u,h') from hx] at h4
 cases h4
 exact h3
theorem jo1 {n:Int} {m:Nat} (hm:0<m):pick n (m:Int)=(pk n m:Int):=by
 have:=jwe n (m:Int) (by omega)
 unfold pk
 omega
theorem jo2 {n:Int} {m:Nat} (hm:0<m):pk n m<m:=by
 have h1:=jwf n (m:Int) (by omega)
 have h2:=@jo1 n m hm
 omega
theorem jhw {n m:Int} (h1:-9223372036854775808<=n) (h2:n<=9223372036854775807) (hm:0<m) (hm2:m<=9223372036854775807) {h:Hp} {Q:AV->Hp->Prop} (hq:Q (vi (pick n m)) h):WC G0 5 [vi n,vi m] h Q:=by
 refine jbz rfl j7d rfl ?_
 unfold j04
 have h3:=jwe n m hm
 have h4:=jwf n m hm
 by_cases h0:n<0
 .simp (disch:=omega) only[jd5,joy,jhv,jwo,j2k,jwp,j2l,jrc,jr0,jn3,jm9,jwq,jwr,jr1,jny,jr2,jn1,jn0,jn4,jn2,jkr,jnz,jwt,jr3,jn5,jn6,jr4,jn8,jn7,joa,jn9,jks,je0,jkt,je1,jku,jdh,jkv,jr5,jgn,jev,jha,jj0,jfs,jj1,jm8,jew,jhb,jj2,jxv,jxx,jkw,jhr,jr6,job,jxz,jr8,jod,jof,jsa,jsc,jky,jse,jxw,jxy,jkx,jhs,jr7,joc,jx0,jr9,joe,jog,jsb,jsd,jkz,jsf,j7x,j7y,j7z,jrl,jnk,jj8,jj9,jka,jkb,jkc,jkd,jft,jfu,j70,j71,jrm,j2s,jke,jnl,jhg,jnm,jhh,j2t,jrn,jxh,jxi,jxj,jnn,jhi,jhj,jhk,jhl,jkf,jno,jkg,jkh,jhm,jex,jey,jki,jro,jrp,j3i,jso,jsp,jxk,jsi,jht,jkj,jnp,jkk,jx1,jk0,jrq,jrr,jx2,joh,jsg,jnq,jx6,jok,joj,jsh,jk1,joi,jnr,jkl,jns,jkm,jhn,jfv,jkn,jnt,jnu,jx3,jk2,jnv,jiw,jho,jko,jrt,jru,jrv,jf1,jc4,jf2,jxm,jxn,jxo,jxp,jxq,jxr,jx4,jk3,jx5,jk4,jya,j27,j28,jyb,j29,jsk,jsl,joq,jsm,jk8,jfz,jor,jhp,jc3,jhq,jyc,jos,j20,jfx,jkp,jsj,jk5,jol,j24,j25,jom,jon,jhu,jk7,jx7,jk6,joo,jx9,jop,jrz,jxu,jry,jnx,jfc,jfw,jyo,j3f,j3d,j3e,Int.reduceToNat,Int.cast_ofNat_Int,Int.natCast_zero,Int.natCast_one,↓reduceIte,decide_eq_true_eq,decide_eq_false_iff_not,f0i,and_true,true_and,List.cons_append,f2p,reduceCtorEq,decide_true,decide_false,Bool.not_true,Bool.not_false,f1j,f0l,Option.some.injEq,Bool.true_eq_false,Nat.reduceAdd,Nat.reduceMul,Nat.reduceEqDiff,Int.reduceEq,Int.reduceLT,Int.reduceLE,Int.reduceNeg,Int.reduceAdd,Int.reduceSub,Int.reduceMul,Int.reduceNe,not_true_eq_false,not_false_eq_true,Hp.next_push,Hp.next_put,f12,jow,jox,jf0,jgl,jkq,jk9,jla,jot,jou,j3a,jyd,jye,j3b,jyf,j3c,jyg,jyh,jyi,jyj,jyk,jyl,jov,jym,jyn,jsn,jfy,jct,-jc4,h0,jfb,jak,jrw]
  have e:(-(n+1)).tmod m=pick n m:=by
   unfold pick
   rw[if_pos h0]
   exact f1v (by omega)
  rw[if_neg (by omega),e,jfb (by omega) (by omega)]
  simp only[go_sem]
  exact hq
 .simp (disch:=omega) only[jd5,joy,jhv,jwo,j2k,jwp,j2l,jrc,jr0,jn3,jm9,jwq,jwr,jr1,jny,jr2,jn1,jn0,jn4,jn2,jkr,jnz,jwt,jr3,jn5,jn6,jr4,jn8,jn7,joa,jn9,jks,je0,jkt,je1,jku,jdh,jkv,jr5,jgn,jev,jha,jj0,jfs,jj1,jm8,jew,jhb,jj2,jxv,jxx,jkw,jhr,jr6,job,jxz,jr8,jod,jof,jsa,jsc,jky,jse,jxw,jxy,jkx,jhs,jr7,joc,jx0,jr9,joe,jog,jsb,jsd,jkz,jsf,j7x,j7y,j7z,jrl,jnk,jj8,jj9,jka,jkb,jkc,jkd,jft,jfu,j70,j71,jrm,j2s,jke,jnl,jhg,jnm,jhh,j2t,jrn,jxh,jxi,jxj,jnn,jhi,jhj,jhk,jhl,jkf,jno,jkg,jkh,jhm,jex,jey,jki,jro,jrp,j3i,jso,jsp,jxk,jsi,jht,jkj,jnp,jkk,jx1,jk0,jrq,jrr,jx2,joh,jsg,jnq,jx6,jok,joj,jsh,jk1,joi,jnr,jkl,jns,jkm,jhn,jfv,jkn,jnt,jnu,jx3,jk2,jnv,jiw,jho,jko,jrt,jru,jrv,jf1,jc4,jf2,jxm,jxn,jxo,jxp,jxq,jxr,jx4,jk3,jx5,jk4,jya,j27,j28,jyb,j29,jsk,jsl,joq,jsm,jk8,jfz,jor,jhp,jc3,jhq,jyc,jos,j20,jfx,jkp,jsj,jk5,jol,j24,j25,jom,jon,jhu,jk7,jx7,jk6,joo,jx9,jop,jrz,jxu,jry,jnx,jfc,jfw,jyo,j3f,j3d,j3e,Int.reduceToNat,Int.cast_ofNat_Int,Int.natCast_zero,Int.natCast_one,↓reduceIte,decide_eq_true_eq,decide_eq_false_iff_not,f0i,and_true,true_and,List.cons_append,f2p,reduceCtorEq,decide_true,decide_false,Bool.not_true,Bool.not_false,f1j,f0l,Option.some.injEq,Bool.true_eq_false,Nat.reduceAdd,Nat.reduceMul,Nat.reduceEqDiff,Int.reduceEq,Int.reduceLT,Int.reduceLE,Int.reduceNeg,Int.reduceAdd,Int.reduceSub,Int.reduceMul,Int.reduceNe,not_true_eq_false,not_false_eq_true,Hp.next_push,Hp.next_put,f12,jow,jox,jf0,jgl,jkq,jk9,jla,jot,jou,j3a,jyd,jye,j3b,jyf,j3c,jyg,jyh,jyi,jyj,jyk,jyl,jov,jym,jyn,jsn,jfy,jct,-jc4,h0,jfb,jak,jrw]
  have e:n.tmod m=pick n m:=by
   unfold pick
   rw[if_neg h0]
   exact f1v (by omega)
  rw[if_neg (by omega),e,jfb (by omega) (by omega)]
  simp only[go_sem]
  exact hq
def SG1 (f:FuncId):Bool:=Nat.beq f 5
def G1:Fns:=PX SG1 G0
theorem j8k {A:Nat->Int}:Env Try.prog A tys G1:=jwu j8j
def In6 (n:Int):Prop:=-9223372036854775808<=n/\n<=9223372036854775807
theorem jo3 {n:Int} {m:Nat} {h:Hp} {Q:AV->Hp->Prop} (hn:In6 n) (hm:0<m) (hm2:m<=1000000):WC G1 5 [vi n,vi (m:Int)] h Q=Q (vi ((pk n m:Nat):Int)) h:=by
 rw[←jo1 hm]
 exact jbs (jd4 rfl rfl (jhw hn.1 hn.2 (by omega) (by omega) ⟨1,rfl⟩))
theorem jqp {h:Hp} (ok:Ok h) (cs:List SV) (ty:Nat):∃ hA,h.push (AB.arr cs ty)=hA/\Ok hA/\hA.next=h.next+1/\hA.get h.next=some (.arr cs ty)/\∀ k,k<h.next->hA.get k=h.get k :=
 ⟨_,rfl,jc2 ok,Hp.next_push ..,by rw[jau ok,if_pos rfl],fun k hk=>by rw[jau ok,if_neg (by omega)]⟩
theorem jsq {h:Hp} (ok:Ok h) (zs cs:List SV) (ty:Nat):∃ hA,(h.push (AB.arr zs ty)).put h.next (some (.arr cs ty))=hA/\Ok hA/\hA.next=h.next+1/\hA.get h.next=some (.arr cs ty)/\∀ k,k<h.next->hA.get k=h.get k:=by
 have hp:=ok.pos
 exact⟨_,rfl,jfj (jc2 ok),by rw[Hp.next_put,Hp.next_push],by rw[jdg (jc2 ok) hp,if_pos rfl],fun k hk=>by rw[jdg (jc2 ok) hp,if_neg (by omega),jau ok,if_neg (by omega)]⟩
theorem j3j {h:Hp} (ok:Ok h) {a b:Int} (ha:In6 a) (hb:In6 b):WC G1 4 [vi a,vi b] h (fun v h'=>∃ d,jo7 true h' d v=some (.agg [si ((2+pk a 9:Nat):Int),si ((2+pk b 9:Nat):Int)])):=by
 refine jbz rfl j7e rfl ?_
 unfold j05
 have h1:=@jo2 a 9 (by omega)
 have h2:=@jo2 b 9 (by omega)
 have e1:(2:Int)+((pk a 9:Nat):Int)=((2+pk a 9:Nat):Int):=by omega
 have e2:(2:Int)+((pk b 9:Nat):Int)=((2+pk b 9:Nat):Int):=by omega
 have c9a:=fun(Q:AV->Hp->Prop) (h:Hp)=>@jo3 a 9 h Q ha (by omega) (by omega)
 have c9b:=fun(Q:AV->Hp->Prop) (h:Hp)=>@jo3 b 9 h Q hb (by omega) (by omega)
 obtain⟨hA,eA,okA,nA,xA,gA⟩:=jsq ok [.int .i64 0,.int .i64 0] [si ((2+pk a 9:Nat):Int),si ((2+pk b 9:Nat):Int)] 25
 generalize hx:2+pk a 9=x at *
 generalize hy:2+pk b 9=y at *
 generalize pk a 9=u at *
 generalize pk b 9=v at *
 simp only[Int.cast_ofNat_Int] at c9a c9b
 simp(disch:=first|omega|rfl) only[go_sem,jak,c9a,c9b,e1,e2,eA,xA]
 exact⟨1,rfl⟩
structure Pl where
 k:Nat
 c:Nat
 n:Nat
deriving DecidableEq
def jbm (p:Pl):List SV:=[si p.k,si p.c,si p.n]
def je3 (m:Nat×Nat) (n:Int) (c fr:Nat):Pl:=if pk n (g2 m c+fr)<g2 m c then ⟨1,c,pk n (g2 m c+fr)⟩ else ⟨2,0,pk n (g2 m c+fr) - g2 m c⟩
theorem j3k {h:Hp} (ok:Ok h) {m:Nat×Nat} (m1:2<=m.1/\m.1<=10) (m2:2<=m.2/\m.2<=10) {n:Int} (hn:In6 n) {c fr:Nat} (hc:c<2) (hf:fr<=100):WC G1 11 [.agg [si m.1,si m.2],vi n,vi c,vi fr] h (fun v h'=>∃ d,jo7 true h' d v=some (.agg (jbm (je3 m n c fr)))):=by
 refine jbz rfl j7f rfl ?_
 unfold j06
 have hp:=ok.pos
 obtain⟨g,hg⟩:∃ g,g2 m c=g:=⟨_,rfl⟩
 have hgb:2<=g/\g<=10:=by rw[←hg];unfold g2;split<;>omega
 have hk:=@jo2 n (g+fr) (by omega)
 have e1:(g:Int)+(fr:Int)=((g+fr:Nat):Int):=by omega
 have cp:=fun(Q:AV->Hp->Prop) (h:Hp)=>@jo3 n (g+fr) h Q hn (by omega) (by omega)
 obtain⟨hA,eA,okA,nA,xA,gA⟩:=jqp ok [si m.1,si m.2] 25
 have ix:∀ b,ju3 2 1 (.s (.ptr b 0)) (vi (c:Int))=some (.s (.ptr b c)):=fun b=>by
  have:c=0∨c=1:=by omega
  rcases this with rfl | rfl<;>rfl
 have rdm:rdB (some (.arr [si m.1,si m.2] 25)) c 1=some [si g]:=by
  have:c=0∨c=1:=by omega
  rcases this with rfl | rfl<;>(rw[←hg];rfl)
 obtain⟨hB,eB,okB,nB,xB,gB⟩:=jqp okA [.int .i64 0,.int .i64 0,.int .i64 0] 37
 have yA:=(gB _ (by omega)).trans xA
 unfold je3
 rw[hg]
 generalize hkk:pk n (g+fr)=k at *
 by_cases hlt:k<g
 .have c1:((k:Int)<(g:Int))=True:=eq_true (by omega)
  obtain⟨hC,eC⟩:∃ hC,hB.put (h.next+1) (some (.arr [si 1,si c,si k] 37))=hC:=⟨_,rfl⟩
  have xC:hC.get (h.next+1)=some (.arr [si 1,si c,si k] 37):=by rw[←eC,jdg okB (by omega),if_pos rfl]
  rw[nA] at xB
  simp(disch:=first|omega|rfl) only[go_sem,jak,eA,nA,eB,yA,xB,ix,rdm,e1,cp,c1,eC,xC]
  rw[if_pos hlt]
  exact⟨1,rfl⟩
 .have c1:((k:Int)<(g:Int))=False:=eq_false (by omega)
  have e2:(k:Int) - (g:Int)=((k - g:Nat):Int):=by omega
  obtain⟨hC,eC⟩:∃ hC,hB.put (h.next+1) (some (.arr [si 2,si 0,si ((k - g:Nat):Int)] 37))=hC:=⟨_,rfl⟩
  have xC:hC.get (h.next+1)=some (.arr [si 2,si 0,si ((k - g:Nat):Int)] 37):=by rw[←eC,jdg okB (by omega),if_pos rfl]
  rw[nA] at xB
  simp(disch:=first|omega|rfl) only[go_sem,jak,eA,nA,eB,yA,xB,ix,rdm,e1,cp,c1]
  unfold jww
  simp(disch:=first|omega|rfl) only[go_sem,jak,yA,xB,ix,rdm,e2,eC,xC]
  rw[if_neg hlt]
  exact⟨1,rfl⟩
def jav (p:Pl):Nat:=if p.k=2 then 100+p.n else 20*p.c+p.n
theorem j3l {h:Hp} (ok:Ok h) {p:Pl} (hk:p.k<=100) (hc:p.c<=100) (hn:p.n<=1000):WC G1 8 [.agg (jbm p)] h (fun v h'=>∃ d,jo7 true h' d v=some (vi (jav p))):=by
 refine jbz rfl j7g rfl ?_
 unfold j07 jbm
 have hp:=ok.pos
 obtain⟨hA,eA,okA,nA,xA,gA⟩:=jqp ok [si p.k,si p.c,si p.n] 37
 by_cases h2:p.k=2
 .have c1:((p.k:Int)=2)=True:=eq_true (by omega)
  have e1:(100:Int)+(p.n:Int)=((100+p.n:Nat):Int):=by omega
  simp(disch:=first|omega|rfl) only[go_sem,jak,eA,xA,c1,e1]
  unfold jav
  rw[if_pos h2]
  exact⟨1,rfl⟩
 .have c1:((p.k:Int)=2)=False:=eq_false (by omega)
  have e1:(20:Int)*(p.c:Int)+(p.n:Int)=((20*p.c+p.n:Nat):Int):=by omega
  simp(disch:=first|omega|rfl) only[go_sem,jak,eA,xA,c1]
  unfold jwx
  simp(disch:=first|omega|rfl) only[go_sem,jak,xA,e1]
  unfold jav
  rw[if_neg h2]
  exact⟨1,rfl⟩
def jcc (m:Nat×Nat) (p:Pl) (fr:Nat):Prop:=(p.k=2/\p.c=0/\p.n<fr)∨(p.k=1/\p.c<2/\p.n<g2 m p.c)
theorem j3m {h:Hp} (ok:Ok h) {m:Nat×Nat} (m1:2<=m.1/\m.1<=10) (m2:2<=m.2/\m.2<=10) {p:Pl} {fr:Nat} (hf:fr<=100) (k:jcc m p fr):WC G1 12 [.agg [si m.1,si m.2],.agg (jbm p),vi fr] h (fun v h'=>∃ d,jo7 true h' d v=some (vb true)):=by
 refine jbz rfl j7h rfl ?_
 unfold j08 jbm
 have hp:=ok.pos
 obtain⟨hA,eA,okA,nA,xA,gA⟩:=jqp ok [si m.1,si m.2] 25
 obtain⟨hB,eB,okB,nB,xB,gB⟩:=jqp okA [si p.k,si p.c,si p.n] 37
 have yA:=(gB _ (by omega)).trans xA
 rw[nA] at xB
 rcases k with⟨k1,k2,k3⟩ | ⟨k1,k2,k3⟩
 .have c1:((p.k:Int)=2)=True:=eq_true (by omega)
  have c2:((p.c:Int)=0)=True:=eq_true (by omega)
  have c3:((0:Int)<=(p.n:Int))=True:=eq_true (by omega)
  have c4:((p.n:Int)<(fr:Int))=True:=eq_true (by omega)
  simp(disch:=first|omega|rfl) only[go_sem,jak,eA,nA,eB,xB,c1,c2,c3,c4]
  exact⟨1,rfl⟩
 .have c0:((p.k:Int)=2)=False:=eq_false (by omega)
  have c1:((p.k:Int)=1)=True:=eq_true (by omega)
  have c2:((0:Int)<=(p.c:Int))=True:=eq_true (by omega)
  have c2':((p.c:Int)<2)=True:=eq_true (by omega)
  have c3:((0:Int)<=(p.n:Int))=True:=eq_true (by omega)
  obtain⟨g,hg⟩:∃ g,g2 m p.c=g:=⟨_,rfl⟩
  rw[hg] at k3
  have c4:((p.n:Int)<(g:Int))=True:=eq_true (by omega)
  have ix:∀ b,ju3 2 1 (.s (.ptr b 0)) (vi (p.c:Int))=some (.s (.ptr b p.c)):=fun b=>by
   have:p.c=0∨p.c=1:=by omega
   rcases this with h | h<;>(rw[h];rfl)
  have rdm:rdB (some (.arr [si m.1,si m.2] 25)) p.c 1=some [si g]:=by
   have:p.c=0∨p.c=1:=by omega
   rcases this with h | h<;>(rw[←hg,h];rfl)
  simp(disch:=first|omega|rfl) only[go_sem,jak,eA,nA,eB,xB,c0]
  unfold jwy
  simp(disch:=first|omega|rfl) only[go_sem,jak,xB,yA,c1,c2,c2',c3,ix,rdm,c4]
  exact⟨1,rfl⟩
theorem jqa {m:Nat×Nat} (m1:2<=m.1/\m.1<=10) (m2:2<=m.2/\m.2<=10) {n:Int} {c fr:Nat} (hc:c<2):jcc m (je3 m n c fr) fr/\((je3 m n c fr).k=1->(je3 m n c fr).c=c):=by
 obtain⟨g,hg⟩:∃ g,g2 m c=g:=⟨_,rfl⟩
 have hgb:2<=g/\g<=10:=by rw[←hg];unfold g2;split<;>omega
 have hk:=@jo2 n (g+fr) (by omega)
 unfold je3
 rw[hg]
 split
 .exact ⟨.inr ⟨rfl,hc,by rw[hg];assumption⟩,fun _=>rfl⟩
 .exact ⟨.inl ⟨rfl,rfl,by show pk n (g+fr) - g<fr;omega⟩,fun h=>by simp at h⟩
def SG2 (f:FuncId):Bool:=Nat.beq f 4||(Nat.beq f 11||(Nat.beq f 8||Nat.beq f 12))
def G2:Fns:=PX SG2 G1
theorem j8l {A:Nat->Int}:Env Try.prog A tys G2:=jwu j8k
theorem j6l {f:FuncId} (h2:SG2 f=false) (h1:SG1 f=false) {vs:List AV} {h:Hp}:jig G2 f vs h=none:=(jgk (S:=SG2) (F:=G1) h2).trans ((jgk (S:=SG1) (F:=G0) h1).trans rfl)
section
variable {h:Hp} {Q:AV->Hp->Prop} {m:Nat×Nat}
theorem jts {n:Int} {m:Nat} (hn:In6 n) (hm:0<m) (hm2:m<=1000000):WC G2 5 [vi n,vi (m:Int)] h Q=Q (vi ((pk n m:Nat):Int)) h:=by
 rw[←jo1 hm]
 exact jbs ((jgk rfl).trans (jd4 rfl rfl (jhw hn.1 hn.2 (by omega) (by omega) ⟨1,rfl⟩)))
theorem jtt (m1:2<=m.1/\m.1<=10) (m2:2<=m.2/\m.2<=10) {n:Int} (hn:In6 n) {c fr:Nat} (hc:c<2) (hf:fr<=100):WC G2 11 [.agg [si m.1,si m.2],vi n,vi c,vi fr] h Q=Q (.agg (jbm (je3 m n c fr))) h:=jbs (jd4 rfl rfl (j3k jp8 m1 m2 hn hc hf))
theorem jtu (m1:2<=m.1/\m.1<=10) (m2:2<=m.2/\m.2<=10) {p:Pl} {fr:Nat} (hf:fr<=100) (k:jcc m p fr):WC G2 12 [.agg [si m.1,si m.2],.agg (jbm p),vi fr] h Q=Q (vb true) h:=jbs (jd4 rfl rfl (j3m jp8 m1 m2 hf k))
end
open Go Go.Proofs.Ytmcfkgjjnhlkiaa.Ms
structure Mo where
 fr:Pl
 to:Pl
deriving DecidableEq
def j3n (σ:Pl->Pl) (x:Mo):Pl->Pl:=fun p=>if p=x.to then σ x.fr else σ p
def jdi (σ:Pl->Pl) (l:List Mo):Pl->Pl:=l.foldl j3n σ
theorem jqb (σ:Pl->Pl) (a b:List Mo):jdi σ (a++b)=jdi (jdi σ a) b:=by unfold jdi;rw[f2f]
def jmg (sc:Nat->Pl) (a b:Pl) (c:Nat):List Mo:=if a.k=2/\b.k=2 then [⟨a,sc c⟩,⟨sc c,b⟩] else [⟨a,b⟩]
theorem jtv (sc:Nat->Pl) (a b:Pl) (c:Nat):(jmg sc a b c).length<=2:=by unfold jmg;split<;>simp
theorem jqc {sc:Nat->Pl} {σ:Pl->Pl} {a b:Pl} {c:Nat} (hb:b≠sc c) {p:Pl} (hp:p≠sc c):jdi σ (jmg sc a b c) p=if p=b then σ a else σ p:=by
 unfold jmg
 split
 .show j3n (j3n σ ⟨a,sc c⟩) ⟨sc c,b⟩ p=_
  unfold j3n
  simp only[if_pos]
  by_cases h:p=b
  .rw [if_pos h,if_pos h]
  .rw [if_neg h,if_neg h,if_neg hp]
 .rfl
theorem jtw {α:Type} [DecidableEq α]:∀ {a b:List α},a.Nodup->(∀ x∈a,x∈b)->b.length<=a.length->∀ x∈b,x∈a
 | [],b,_,_,h,x,hx=>by
  have:b=[]:=f02 (by simpa using h)
  rw[this] at hx;simp at hx
 | y::a,b,hn,hs,h,x,hx=>by
  obtain⟨h1,h2⟩:=List.nodup_cons.1 hn
  have hy:=hs y (by simp)
  have hl:(b.erase y).length=b.length - 1:=List.length_erase_of_mem hy
  have ih:=jtw (a:=a) (b:=b.erase y) h2 (fun z hz=>(List.mem_erase_of_ne (fun e=>h1 (by rw[←e];exact hz))).2 (hs z (f0p _ hz))) (by simp at h;omega)
  by_cases e:x=y
  .subst e;simp
  .exact f0p _ (ih x ((List.mem_erase_of_ne e).2 hx))
theorem j1p {α β:Type} {f:α->β}:∀ {l:List α},(l.map f).Nodup->∀ {x y:α},x∈l->y∈l->f x=f y->x=y
 | [],_,x,y,hx,_,_=>by simp at hx
 | a::l,hn,x,y,hx,hy,e=>by
  rw[List.map_cons] at hn
  obtain⟨h1,h2⟩:=List.nodup_cons.1 hn
  rcases f0m.1 hx with e1 | hx1
  .rcases f0m.1 hy with e2 | hy1
   .rw [e1,e2]
   .exact absurd (f0o.2 ⟨y,hy1,by rw[←e,e1]⟩) h1
  .rcases f0m.1 hy with e2 | hy1
   .exact absurd (f0o.2 ⟨x,hx1,by rw[e,e2]⟩) h1
   .exact j1p h2 hx1 hy1 e
def je4 (l:List Mo) (x:Mo):Bool := !(l.any (fun y=>decide (y.fr=x.to)))
theorem jhx {l:List Mo} {x:Mo}:je4 l x=true↔∀ y∈l,y.fr≠x.to:=by
 unfold je4
 simp[List.any_eq_false]
theorem jsr {l:List Mo} {x:Mo}:je4 l x=false↔∃ y∈l,y.fr=x.to:=by
 unfold je4
 simp
structure DoI (sc:Nat->Pl) (sp:Pl) (L left out:List Mo):Prop where
 nd:(left.map (·.to)).Nodup
 src:∀ y∈left,∃ x∈L,x.to=y.to/\jdi id out y.fr=x.fr
 done:∀ x∈L,x.to∉left.map (·.to)->jdi id out x.to=x.fr
 rest:∀ p,(∀ c,p≠sc c)->p≠sp->p∉L.map (·.to)->jdi id out p=p
 gsc:∀ x∈L,∀ c,x.to≠sc c
 gsp:∀ x∈L,x.to≠sp
 nsp:∀ y∈left,y.to≠sp/\∀ c,y.to≠sc c/\y.fr≠sc c
 len:out.length+4*left.length<=4*L.length∨(out.length+4*left.length<=4*L.length+2/\∃ x∈left,je4 left x=true)
theorem DoI.free {sc:Nat->Pl} {sp:Pl} {L A B out:List Mo} {x:Mo} {c:Nat} (hL:(L.map (·.to)).Nodup) (k:DoI sc sp L (A++x::B) out) (hx:je4 (A++x::B) x=true):DoI sc sp L (A++B) (out++jmg sc x.fr x.to c):=by
 have hxm:x∈A++x::B:=by simp
 obtain⟨h1,h2⟩:=k.nsp x hxm
 have hf:=jhx.1 hx
 have hsub:∀ y∈A++B,y∈A++x::B:=fun y hy=>by
  rcases f1t.1 hy with h | h
  .exact List.mem_append_left _ h
  .exact f2e _ (f0p _ h)
 have hnd:=k.nd
 rw[f1h,List.map_cons,List.nodup_append] at hnd
 obtain⟨n1,n2,n3⟩:=hnd
 obtain⟨n4,n5⟩:=List.nodup_cons.1 n2
 have hE:∀ p,(∀ c,p≠sc c)->jdi id (out++jmg sc x.fr x.to c) p=if p=x.to then jdi id out x.fr else jdi id out p:=fun p hp=>by
  rw[jqb,jqc (h2 c).1 (hp c)]
 refine⟨?_,fun y hy=>?_,fun z hz hzn=>?_,fun p hp hsp hpl=>?_,k.gsc,k.gsp,fun y hy=>k.nsp y (hsub y hy),?_⟩
 .rw [f1h,List.nodup_append]
  exact⟨n1,n5,fun a ha b hb=>n3 a ha b (f0p _ hb)⟩
 .obtain ⟨z,hz,h3,h4⟩:=k.src y (hsub y hy)
  refine⟨z,hz,h3,?_⟩
  rw[hE _ (fun c=>((k.nsp y (hsub y hy)).2 c).2),if_neg (hf y (hsub y hy))]
  exact h4
 .by_cases e:z.to=x.to
  .obtain ⟨w,hw,h3,h4⟩:=k.src x hxm
   rw[e,hE _ (fun c=>(h2 c).1),if_pos rfl,h4]
   have:w=z:=j1p hL hw hz (h3.trans e.symm)
   rw[this]
  .have hzc:=k.gsc z hz
   rw[hE _ hzc,if_neg e]
   refine k.done z hz (fun hm=>hzn ?_)
   rw[f1h,List.map_cons] at hm
   rw[f1h]
   rcases f1t.1 hm with h | h
   .exact List.mem_append_left _ h
   .rcases f0m.1 h with h | h
    .exact absurd h e
    .exact f2e _ h
 .rw [hE _ hp,if_neg (fun e=>?_)]
  .exact k.rest p hp hsp hpl
  .obtain ⟨w,hw,h3,_⟩:=k.src x hxm
   exact hpl (f0o.2 ⟨w,hw,h3.trans e.symm⟩)
 .have h1:=jtv sc x.fr x.to c
  have h2:=k.len
  simp only[f0j,f0u] at h2 ⊢
  left
  rcases h2 with h2 | ⟨h2,_⟩<;>omega
theorem DoI.turn {sc:Nat->Pl} {sp:Pl} {L left out:List Mo} {x:Mo} {c:Nat} (hsc:∀ c,sp≠sc c) (k:DoI sc sp L (x::left) out) (hno:∀ y∈x::left,je4 (x::left) y=false) :
 DoI sc sp L ((x::left).map (fun y=>if y.fr=x.to then ⟨sp,y.to⟩ else y)) (out++jmg sc x.to sp c):=by
 have hto:((x::left).map (fun y=>if y.fr=x.to then (⟨sp,y.to⟩:Mo) else y)).map (·.to)=(x::left).map (·.to):=by
  rw[List.map_map]
  refine List.map_congr_left (fun y _=>?_)
  simp only[Function.comp]
  split<;>rfl
 have hin:∀ y∈x::left,y.fr∈(x::left).map (·.to):=by
  have h:=jtw (a:=(x::left).map (·.to)) (b:=(x::left).map (·.fr)) k.nd (fun t ht=>by
   obtain⟨y,hy,rfl⟩:=f0o.1 ht
   obtain⟨z,hz,e⟩:=jsr.1 (hno y hy)
   exact f0o.2 ⟨z,hz,e⟩) (by simp)
  exact fun y hy=>h _ (f0o.2 ⟨y,hy,rfl⟩)
 have hne:∀ y∈x::left,y.fr≠sp:=fun y hy e=>by
  obtain⟨z,hz,ez⟩:=f0o.1 (hin y hy)
  exact(k.nsp z hz).1 (ez.trans e)
 have hE:∀ p,(∀ c,p≠sc c)->jdi id (out++jmg sc x.to sp c) p=if p=sp then jdi id out x.to else jdi id out p:=fun p hp=>by
  rw[jqb,jqc (hsc c) (hp c)]
 have hx:x∈x::left:=by simp
 have hmem:∀ y'∈(x::left).map (fun y=>if y.fr=x.to then (⟨sp,y.to⟩:Mo) else y),∃ y∈x::left,y'.to=y.to/\((y.fr=x.to/\y'.fr=sp)∨(y.fr≠x.to/\y'.fr=y.fr)):=by
  intro y' hy'
  obtain⟨y,hy,rfl⟩:=f0o.1 hy'
  refine⟨y,hy,?_⟩
  split
  .exact ⟨rfl,.inl ⟨by assumption,rfl⟩⟩
  .exact ⟨rfl,.inr ⟨by assumption,rfl⟩⟩
 refine⟨by rw[hto];exact k.nd,fun y' hy'=>?_,fun z hz hzn=>?_,fun p hp hsp hpl=>?_,k.gsc,k.gsp,fun y' hy'=>?_,?_⟩
 .obtain ⟨y,hy,e1,e2⟩:=hmem y' hy'
  obtain⟨z,hz,h3,h4⟩:=k.src y hy
  refine⟨z,hz,h3.trans e1.symm,?_⟩
  rcases e2 with⟨e2,e3⟩ | ⟨e2,e3⟩
  .rw [e3,hE _ hsc,if_pos rfl,←e2];exact h4
  .rw [e3,hE _ (fun c=>((k.nsp y hy).2 c).2),if_neg (hne y hy)];exact h4
 .rw [hto] at hzn
  rw[hE _ (k.gsc z hz),if_neg (k.gsp z hz)];exact k.done z hz hzn
 .rw [hE _ hp,if_neg hsp];exact k.rest p hp hsp hpl
 .obtain ⟨y,hy,e1,e2⟩:=hmem y' hy'
  obtain⟨h1,h2⟩:=k.nsp y hy
  rw[e1]
  refine⟨h1,fun c=>⟨(h2 c).1,?_⟩⟩
  rcases e2 with⟨e2,e3⟩ | ⟨e2,e3⟩
  .rw [e3];exact hsc c
  .rw [e3];exact(h2 c).2
 .have h1:=jtv sc x.to sp c
  have h2:=k.len
  right
  have h3:out.length+4*(x::left).length<=4*L.length:=by
   rcases h2 with h2 | ⟨_,y,hy,h⟩
   .exact h2
   .rw [hno y hy] at h;cases h
  refine⟨by simp only[f0j,f05];omega,?_⟩
  refine⟨if x.fr=x.to then ⟨sp,x.to⟩ else x,by simp,jhx.2 (fun y' hy'=>?_)⟩
  have et:(if x.fr=x.to then (⟨sp,x.to⟩:Mo) else x).to=x.to:=by split<;>rfl
  rw[et]
  obtain⟨y,hy,e1,e2⟩:=hmem y' hy'
  rcases e2 with⟨e2,e3⟩ | ⟨e2,e3⟩
  .rw [e3];exact fun e=>(k.nsp x hx).1 e.symm
  .rw [e3];exact e2
theorem DoI.start {sc:Nat->Pl} {sp:Pl} {L:List Mo} (hL:(L.map (·.to)).Nodup) (gsc:∀ x∈L,∀ c,x.to≠sc c/\x.fr≠sc c) (gsp:∀ x∈L,x.to≠sp):DoI sc sp L (L.filter (fun x=>decide (x.fr≠x.to))) []:=by
 refine⟨?_,fun y hy=>⟨y,(f2d.1 hy).1,rfl,rfl⟩,fun x hx hn=>?_,fun p _ _ _=>rfl,fun x hx c=>(gsc x hx c).1,gsp,fun y hy=>?_,.inl ?_⟩
 .exact List.Nodup.sublist (List.Sublist.map _ List.filter_sublist) hL
 .show x.to=x.fr
  by_cases e:x.fr=x.to
  .exact e.symm
  .exact absurd (f0o.2 ⟨x,f2d.2 ⟨hx,by simpa using e⟩,rfl⟩) hn
 .have h:=(f2d.1 hy).1
  exact⟨gsp y h,gsc y h⟩
 .have:=List.length_filter_le (fun x=>decide (x.fr≠x.to)) L
  simp only[f03];omega
theorem DoI.finish {sc:Nat->Pl} {sp:Pl} {L out:List Mo} (k:DoI sc sp L [] out):(∀ x∈L,jdi id out x.to=x.fr)/\(∀ p,(∀ c,p≠sc c)->p≠sp->p∉L.map (·.to)->jdi id out p=p)/\out.length<=4*L.length:=by
 refine⟨fun x hx=>k.done x hx (by simp),k.rest,?_⟩
 rcases k.len with h | ⟨_,x,hx,_⟩
 .simpa using h
 .simp at hx
open Go Go.RowKit
def OL {α:Type} (ty sz:Nat) (enc:α->List SV) (h:Hp) (x:SV) (l:List α) (b:Nat):Prop :=
 (l=[]/\x=.nilSlice/\b=0)∨(l≠[]/\x=.slice b 0 l.length l.length false sz/\1<=b/\b<h.next/\h.get b=some (.arr (l.flatMap enc) ty))
section
variable {α:Type} {ty sz:Nat} {enc:α->List SV} {h h1:Hp} {x:SV} {l:List α} {b:Nat}
theorem jbk (hs:∀ a,(enc a).length=sz):∀ l:List α,(l.flatMap enc).length=l.length*sz
 | []=>by simp
 | a::l=>by rw[f01,f0j,jbk hs l,hs,f0u,f1l,f2k,f2q]
theorem OL.nil:OL ty sz enc h .nilSlice [] 0:=.inl ⟨rfl,rfl,rfl⟩
theorem OL.keep (k:OL ty sz enc h x l b) (hn:h.next<=h1.next) (g:1<=b->b<h.next->h1.get b=h.get b):OL ty sz enc h1 x l b:=by
 rcases k with k | ⟨h2,rfl,h3,h4,h5⟩
 .exact .inl k
 .exact .inr ⟨h2,rfl,h3,by omega,by rw[g h3 h4];exact h5⟩
theorem OL.len (k:OL ty sz enc h x l b):jza (.s x)=some (vi l.length):=by
 rcases k with⟨rfl,rfl,_⟩ | ⟨_,rfl,_⟩<;>rfl
theorem OL.lt (k:OL ty sz enc h x l b) (ok:Ok h):b<h.next:=by
 have:=ok.pos
 rcases k with⟨_,_,rfl⟩ | ⟨_,_,_,h4,_⟩<;>omega
theorem OL.app (k:OL ty sz enc h x l b) (hs:∀ a,(enc a).length=sz) (ok:Ok h) {cs:List α} (hc:cs≠[]) {bytes:Nat} (hb:(l.length+cs.length)*bytes<=1000000000) (hb2:l.length+cs.length<=1000000000) :
 ∃ x' h2,j1o (h.push (.arr (cs.flatMap enc) ty)) ty sz bytes (.s x) (.s (.slice h.next 0 cs.length cs.length true sz))=some (.s x',h2)/\Ok h2/\h2.next=h.next+2/\(∀ n,n<h.next->n≠b->h2.get n=h.get n)/\OL ty sz enc h2 x' (l++cs) (h.next+1):=by
 have ok1:Ok (h.push (.arr (cs.flatMap enc) ty)):=jc2 ok
 have hcl:1<=cs.length:=List.length_pos_iff.2 hc
 have hrd:rdB ((h.push (.arr (cs.flatMap enc) ty)).get h.next) 0 (cs.length*sz)=some (cs.flatMap enc):=by
  rw[jau ok,if_pos rfl,jfx]
  exact(jap _).2 ⟨by show cs.length*sz<=(cs.flatMap enc).length;rw[jbk hs];omega,by show cs.flatMap enc=(cs.flatMap enc).take (cs.length*sz);rw[f0s (by rw[jbk hs];omega)]⟩
 obtain⟨q,hq⟩:∃ q,cs.length=q+1:=⟨cs.length - 1,by omega⟩
 rcases k with⟨rfl,rfl,rfl⟩ | ⟨h2,rfl,h3,h4,h5⟩
 .refine ⟨.slice (h.next+1) 0 cs.length cs.length false sz,(h.push (.arr (cs.flatMap enc) ty)).push (.arr (cs.flatMap enc) ty),?_,jc2 ok1,by simp,fun n hn _=>?_,.inr ⟨by simpa using hc,by simp,by omega,by simp,?_⟩⟩
  .rw [jfk,hrd,hq]
   simp only[f03,f0l,hq] at hb hb2
   show jgs bytes (q+1) (nw _ (cs.flatMap enc) ty _)=_
   rw[jnw hb hb2,jrx ok1]
   rfl
  .rw [jau ok1,if_neg (by rw[Hp.next_push];omega),jau ok,if_neg (by omega)]
  .rw [jau ok1,if_pos (by rw[Hp.next_push])];simp
 .have e5:(h.push (.arr (cs.flatMap enc) ty)).get b=some (.arr (l.flatMap enc) ty):=by rw[jau ok,if_neg (by omega)];exact h5
  refine⟨.slice (h.next+1) 0 (l.length+cs.length) (l.length+cs.length) false sz,((h.push (.arr (cs.flatMap enc) ty)).put b none).push (.arr (l.flatMap enc++cs.flatMap enc) ty),?_,jc2 (jfj ok1),by simp,fun n hn hnb=>?_,.inr ⟨by simp[hc],by simp,by omega,by simp,?_⟩⟩
  .rw [jea hcl,hrd,e5]
   show j72 _ _ _ _ _ _ _ _ (cs.flatMap enc)=_
   rw[jxt ok1 (jbk hs l) hb hb2]
   simp
  .rw [jau (jfj ok1),if_neg (by simp;omega),jdg ok1 (by omega),if_neg hnb,jau ok,if_neg (by omega)]
  .rw [jau (jfj ok1),if_pos (by simp)];simp
end
def jad (x:Mo):List SV:=[si x.fr.k,si x.fr.c,si x.fr.n,si x.to.k,si x.to.c,si x.to.n]
def JC (m:Nat×Nat) (lv cl:SV) (fr:Nat) (ov:SV):List SV:=[si m.1,si m.2,lv,cl,si 2,si 0,si fr,ov]
def scr (m:Nat×Nat) (c:Nat):Pl:=⟨1,c,g2 m c⟩
theorem ju4 {h:Hp} (ok:Ok h) {b:Nat} (hb:1<=b) (x:Option AB):∃ hA,h.put b x=hA/\Ok hA/\hA.next=h.next/\hA.get b=x/\∀ n,n≠b->hA.get n=h.get n :=
 ⟨_,rfl,jfj ok,Hp.next_put ..,by rw[jdg ok hb,if_pos rfl],fun n hn=>by rw[jdg ok hb,if_neg hn]⟩
theorem j3o {F:Fns} {h:Hp} (ok:Ok h) {m:Nat×Nat} {lv cl ov:SV} {fr p c:Nat} (hc:c<2) (lp:p<h.next) (xp:h.get p=some (.arr (JC m lv cl fr ov) 51)) (hX:∀ vs h,jig F 22 vs h=none) (hT:jzv F 22=T 22) {Q:AV->Hp->Prop}
 (hQ:∀ h',Ok h'->h'.next=h.next+1->(∀ n,n<h.next->h'.get n=h.get n)->Q (.agg (jbm (scr m c))) h'):WC F 22 [.s (.ptr p 0),vi c] h Q:=by
 refine jbz (hX _ _) (hT.trans j7i) rfl ?_
 unfold j09
 unfold JC at xp
 obtain⟨g,hg⟩:∃ g,g2 m c=g:=⟨_,rfl⟩
 obtain⟨hA,eA,okA,nA,xA,gA⟩:=jqp ok [.int .i64 0,.int .i64 0,.int .i64 0] 37
 obtain⟨hB,eB,okB,nB,xB,gB⟩:=ju4 okA (b:=h.next) (by have:=ok.pos;omega) (some (.arr [si 1,si c,si g] 37))
 have yp:=(gA _ lp).trans xp
 have ix:∀ b,ju3 2 1 (.s (.ptr b 0)) (vi (c:Int))=some (.s (.ptr b c)):=fun b=>by
  have:c=0∨c=1:=by omega
  rcases this with rfl | rfl<;>rfl
 have rdm:rdB (some (.arr [si m.1,si m.2,lv,cl,si 2,si 0,si fr,ov] 51)) c 1=some [si g]:=by
  have:c=0∨c=1:=by omega
  rcases this with rfl | rfl<;>(rw[←hg];rfl)
 simp(disch:=first|omega|rfl) only[go_sem,eA,yp,xA,ix,rdm,eB,xB]
 have:=hQ hB okB (by omega) (fun n hn=>(gB n (by omega)).trans (gA n hn))
 unfold scr jbm at this
 rw[hg] at this
 exact this
theorem jaj (x:Mo):(jad x).length=6:=rfl
theorem jyt {F:Fns} {h:Hp} (ok:Ok h) {m:Nat×Nat} {lv cl ov:SV} {fr p c b:Nat} {a z:Pl} {out:List Mo} (hc:c<2) (lp:p<h.next) (p1:1<=p) (hpb:p≠b) (ho:out.length<=1000) (ol:OL 39 6 jad h ov out b) (xp:h.get p=some (.arr (JC m lv cl fr ov) 51)) (hX:∀ vs h,jig F 22 vs h=none) (hT:jzv F 22=T 22)
 (hX2:∀ vs h,jig F 16 vs h=none) (hT2:jzv F 16=T 16) {Q:AV->Hp->Prop}
 (hQ:∀ h' ov' b',Ok h'->h.next<=h'.next->OL 39 6 jad h' ov' (out++jmg (scr m) a z c) b'->h.next<=b'->h'.get p=some (.arr (JC m lv cl fr ov') 51)->(∀ n,n<h.next->n≠p->n≠b->h'.get n=h.get n)->Q (.tup []) h') :
 WC F 16 [.s (.ptr p 0),.agg (jbm a),.agg (jbm z),vi c] h Q:=by
 refine jbz (hX2 _ _) (hT2.trans j7j) rfl ?_
 unfold j1a jbm
 obtain⟨hA,eA,okA,nA,xA,gA⟩:=jqp ok [si a.k,si a.c,si a.n] 37
 obtain⟨hB,eB,okB,nB,xB,gB⟩:=jqp okA [si z.k,si z.c,si z.n] 37
 have yA:=(gB _ (by omega)).trans xA
 rw[nA] at xB
 have yp:=(gB _ (by omega)).trans ((gA _ lp).trans xp)
 have lb:=ol.lt ok
 have olB:=ol.keep (h1:=hB) (by omega) (fun _ h2=>(gB _ (by omega)).trans (gA _ h2))
 by_cases hk:a.k=2/\z.k=2
 .have c1:((a.k:Int)=2)=True:=eq_true (by omega)
  have c2:((z.k:Int)=2)=True:=eq_true (by omega)
  simp(disch:=first|omega|rfl) only[go_sem,eA,nA,eB,yA,xB,c1,c2]
  refine j3o okB (m:=m) (lv:=lv) (cl:=cl) (ov:=ov) (fr:=fr) hc (by omega) yp hX hT (fun hS okS nS gS=>?_)
  have pm:jmg (scr m) a z c=[⟨a,scr m c⟩,⟨scr m c,z⟩]:=by unfold jmg;rw[if_pos hk]
  obtain⟨g,hg⟩:∃ g,g2 m c=g:=⟨_,rfl⟩
  obtain⟨hE,eE,okE,nE,xE,gE⟩:=jsq okS [.int .i64 0,.int .i64 0,.int .i64 0] [si 1,si c,si g] 37
  have olE:=olB.keep (h1:=hE) (by omega) (fun _ h2=>(gE _ (by omega)).trans (gS _ h2))
  obtain⟨ov',hC,eC,okC,nC,gC,olC⟩:=olE.app jaj okE (cs:=[⟨a,scr m c⟩,⟨scr m c,z⟩]) (by simp) (bytes:=48) (by simp;omega) (by simp;omega)
  simp only[f01,f2h,f1n,f0u,f03,f0l,Nat.reduceAdd] at eC
  unfold jad at eC
  simp only[List.cons_append,f2p,scr,hg,Int.natCast_one] at eC
  have nS2:hS.next=h.next+3:=by omega
  have nE2:hE.next=h.next+4:=by omega
  rw[nE2] at eC
  rw[nS2] at xE eE
  have wA:=(gE _ (by omega)).trans ((gS _ (by omega)).trans yA)
  have wB:=(gE _ (by omega)).trans ((gS _ (by omega)).trans xB)
  have wp:=(gE _ (by omega)).trans ((gS _ (by omega)).trans yp)
  have zp:=(gC _ (by omega) hpb).trans wp
  unfold JC at wp zp
  obtain⟨hD,eD,okD,nD,xD,gD⟩:=ju4 okC p1 (some (.arr [si m.1,si m.2,lv,cl,si 2,si 0,si fr,ov'] 51))
  have fin:Q (.tup []) hD:=by
   refine hQ hD ov' (hE.next+1) okD (by omega) ?_ (by omega) xD (fun n h1 h2 h3=>(gD n h2).trans ((gC n (by omega) h3).trans ((gE n (by omega)).trans ((gS n (by omega)).trans ((gB n (by omega)).trans (gA n h1))))))
   rw[pm]
   exact olC.keep (by omega) (fun _ h2=>gD _ (by omega))
  unfold scr jbm
  rw[hg]
  simp(disch:=first|omega|rfl) only[go_sem,nS2,eE,wp,wA,wB,xE,nE2,eC,zp,eD]
  exact fin
 .have pm:jmg (scr m) a z c=[⟨a,z⟩]:=by unfold jmg;rw[if_neg hk]
  obtain⟨ov',hC,eC,okC,nC,gC,olC⟩:=olB.app jaj okB (cs:=[⟨a,z⟩]) (by simp) (bytes:=48) (by simp;omega) (by simp;omega)
  simp only[f01,f2h,f1n,f0u,f03,f0l] at eC
  unfold jad at eC
  have nB2:hB.next=h.next+2:=by omega
  rw[nB2] at eC
  have zp:=(gC _ (by omega) hpb).trans yp
  unfold JC at yp zp
  obtain⟨hD,eD,okD,nD,xD,gD⟩:=ju4 okC p1 (some (.arr [si m.1,si m.2,lv,cl,si 2,si 0,si fr,ov'] 51))
  have fin:Q (.tup []) hD:=by
   refine hQ hD ov' (hB.next+1) okD (by omega) ?_ (by omega) xD (fun n h1 h2 h3=>(gD n h2).trans ((gC n (by omega) h3).trans ((gB n (by omega)).trans (gA n h1))))
   rw[pm]
   exact olC.keep (by omega) (fun _ h2=>gD _ (by omega))
  by_cases c1:a.k=2
  .have d1:((a.k:Int)=2)=True:=eq_true (by omega)
   have d2:((z.k:Int)=2)=False:=eq_false (by omega)
   simp(disch:=first|omega|rfl) only[go_sem,eA,nA,eB,yA,xB,d1,d2]
   unfold jrf
   simp(disch:=first|omega|rfl) only[go_sem,yp,yA,xB,nB2,eC,zp,eD]
   exact fin
  .have d1:((a.k:Int)=2)=False:=eq_false (by omega)
   simp(disch:=first|omega|rfl) only[go_sem,eA,nA,eB,yA,xB,d1]
   unfold jrf
   simp(disch:=first|omega|rfl) only[go_sem,yp,yA,xB,nB2,eC,zp,eD]
   exact fin
end
end Go.Proofs.Ytmcfkgjjnhlkiaa.Ev
