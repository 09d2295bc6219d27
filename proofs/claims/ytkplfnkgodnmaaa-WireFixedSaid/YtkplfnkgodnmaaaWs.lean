/- A frozen number is that number. -/
import Derived.Test.YtkplfnkgodnmaaaOp
import Derived.Test.YtkplfnkgodnmaaaLz
import Derived.Test.YtkplfnkgodnmaaaWp
import Derived.Test.YtkplfnkgodnmaaaJy
import Derived.Test.YtkplfnkgodnmaaaMc4
import Derived.Test.YtkplfnkgodnmaaaOr
namespace Go.Proofs.Ytkplfnkgodnmaaa.Ev
noncomputable section
open Go Go.RowKit
set_option linter.all false
theorem qi6 {k:Bool} {h:Hp} {d:Nat} {v:AV} {n:Int} (e:jml k h d v=some (vi n)):v=vi n:=by
 cases v with
 | s x =>
  obtain⟨y,h1,h2⟩:=jaa.1 (show ob (jc0 k h d x) (fun y=>some (AV.s y))=some (vi n) from e)
  simp only[Option.some.injEq,AV.s.injEq] at h2
  subst h2
  cases d with
  | zero=>cases h1
  | succ d =>
   cases x with
   | slice b off len mc ex sz =>
    cases len with
    | zero=>cases h1
    | succ len =>
     obtain⟨cs,_,h1⟩:=jaa.1 (show ob (rd h b off (Nat.mul (len+1) sz)) (fun cs=>ob (je3 (jc0 k h d) cs) (fun cs=>ob (jlk sz (len+1) cs) (fun rows=>some (SV.lst rows))))=_ from h1)
     obtain⟨cs,_,h1⟩:=jaa.1 h1
     obtain⟨cs,_,h1⟩:=jaa.1 h1
     cases h1
   | lst rows=>cases k<;>cases rows<;>cases h1
   | int k n=>cases h1;rfl
   | _=>cases h1
 | agg l =>
  obtain⟨y,h1,h2⟩:=jaa.1 (show ob (je3 (jc0 k h d) l) (fun y=>some (AV.agg y))=some (vi n) from e)
  cases h2
 | tup l =>
  obtain⟨y,h1,h2⟩:=jaa.1 (show ob (j4x (jc0 k h d) l) (fun y=>some (AV.tup y))=some (vi n) from e)
  cases h2
 | _=>cases e
theorem je6.scal {F:Fns} {f:FuncId} {us:List AV} {n:Int} (k:je6 true F f us (vi n)):je6 false F f us (vi n) :=
 WC.imp k (fun v h ⟨d,e⟩=>by rw[qi6 e];exact⟨1,rfl⟩)
open Go Go.RowKit Go.Proofs.Ytkplfnkgodnmaaa.Ms
variable {X y:SV}
attribute [local go_sem] Int.reduceToNat reduceCtorEq Nat.reduceAdd Nat.reduceMul Nat.reduceEqDiff Int.reduceEq Int.reduceLT Int.reduceLE Int.reduceNeg Int.reduceAdd Int.reduceSub Int.reduceMul Int.reduceNe
attribute [local go_sem ↓] reduceIte
set_option maxRecDepth 100000
set_option maxHeartbeats 4000000
theorem qex {h:Hp} {d:Nat} {x:SV} (hg:grd x=true) (hf:jc0 true h d x=some y):y=x:=by
 cases d with
 | zero=>cases hf
 | succ d=>cases x<;>first | (cases hg;done) | exact(Option.some.inj (show some _=some y from hf)).symm
theorem jv9 {h:Hp} {d:Nat}:∀ {l r:List SV},jm0 l=true->je3 (jc0 true h d) l=some r->r=l
 | [],r,hg,hf=>by cases hf;rfl
 | a::l,r,hg,hf=>by
  obtain⟨g1,g2⟩:=jj6.1 (show oif (grd a) (jm0 l) false=true from hg)
  obtain⟨x,h1,h2⟩:=jaa.1 (show ob (jc0 true h d a) (fun x=>ob (je3 (jc0 true h d) l) (fun r=>some (x::r)))=some r from hf)
  obtain⟨r',h3,h4⟩:=jaa.1 h2
  cases h4
  rw[qex g1 h1,jv9 g2 h3]
theorem jtw {h:Hp} {d:Nat} {vs us:List SV} (hg:jfr [.agg vs]=true) (hf:jh3 true h d [.agg vs]=some [.agg us]):us=vs:=by
 have g:jm0 vs=true:=(jj6.1 (show oif (jm0 vs) true false=true from hg)).1
 obtain⟨x,h1,h2⟩:=jaa.1 (show ob (jml true h d (.agg vs)) (fun x=>ob (jh3 true h d []) (fun r=>some (x::r)))=some [.agg us] from hf)
 obtain⟨r',h3,h4⟩:=jaa.1 h2
 cases h3
 cases h4
 obtain⟨r,h5,h6⟩:=jaa.1 (show ob (je3 (jc0 true h d) vs) (fun y=>some (AV.agg y))=some (.agg us) from h1)
 cases h6
 exact jv9 g h5
def SW1 (f:FuncId):Bool:=Nat.beq f 12
def GW1:Fns:=PX SW1 (FJ GJ)
def SW2 (f:FuncId):Bool:=Nat.beq f 24
def GW2:Fns:=PX SW2 GW1
def SW3 (f:FuncId):Bool:=Nat.beq f 8
def GW3:Fns:=PX SW3 GW2
def SW4 (f:FuncId):Bool:=Nat.beq f 7
def GW4:Fns:=PX SW4 (FW GW3)
theorem qmb {A:Nat->Int}:Env Try.prog A tys JF0 where
 tys:=qf6
 mix:=(env (A:=A) (ps:=[]) (fun i m r h=>by simp at h)).mix
 fn:=(env (A:=A) (ps:=[]) (fun i m r h=>by simp at h)).fn
 ext:=fun f vs h v h' hx=>by cases hx
theorem qmc {A:Nat->Int}:Env Try.prog A tys GW4:=jnp (j85 (j85 (jnp (jnp (jnp (jnp (jnp qmb))))) j86 (qmp qi0)) j86 (qmp qi1))
theorem noJ {g:FuncId} (h1:SJ g=false) (h2:SVJ g=false) {vs:List AV} {h:Hp}:jeb (FJ GJ) g vs h=none:=(jcr h1).trans (jcr h2)
theorem wrW:WrF GW2:=⟨fun g hg vs h=>by
 unfold Wf at hg
 simp only[f20] at hg
 rcases hg with h | h | h | h | h<;>(have e:=f0k h;subst e;exact(jcr rfl).trans ((jcr rfl).trans (noJ rfl rfl))),rfl⟩
theorem rdW:RdF0 GW3:=⟨fun g hg vs h=>by
 unfold Xf at hg
 simp only[f20] at hg
 rcases hg with h | h | h | h | h | h | h | h | h | h | h<;>(have e:=f0k h;subst e;exact(jcr rfl).trans ((jcr rfl).trans ((jcr rfl).trans (noJ rfl rfl)))),rfl⟩
theorem j8n {s:Scr} (k:OkS s):Shrt s.f:=⟨by have:=k.nb;omega,fun b hb=>by have:=(k.b b hb).ni;omega,fun b hb e he=>by have:=(k.b b hb).e e he;omega⟩
theorem qn8 {s:Scr} (k:OkS s):∃ en:Int,je6 true GW1 24 [.agg (jik s)] (vi en):=by
 obtain⟨e,_,he⟩:=qeh (j8n k) (s.m1,s.m2)
 have hK:∀ h Q,WC GW1 12 [.agg [jag jak s.f.values,jag jax s.f.blocks],.agg [si s.m1,si s.m2]] h Q=Q (vi e) h:=fun h Q=>jd4 (jdl rfl (gd2 (gdA ja8 ja8) rfl) he)
 exact jtk (WC.imp (qev (F:=GW1) (fun vs h=>(jcr rfl).trans (noJ rfl rfl)) rfl ji8 (LstE.enc (fun _=>rfl)) hK) (fun v h' ⟨e,h1,_⟩=>⟨e,1,by rw[h1];rfl⟩))
section
variable {h:Hp} {s:Scr} {Q:AV->Hp->Prop} {l:List Nat}
theorem qi7:jfr [.agg (jik s)]=true:=by unfold jik;simp only[jx0,j4n,j8c,qiz,j4o,j8d,ja8,qem,j8e,jz9,if_true]
theorem qn9 (k:OkS s) (hl:(jtm s).length<=20000) (hc:je6 true GW1 24 [.agg (jik s)] (vi 0)):WC GW4 8 [.agg (jik s)] h Q=Q (qjm (jtm s)) h:=by
 have e:=qel (kk:=true) wrW ji8 (LstE.enc (fun _=>rfl)) k hl (fun h Q=>jd4 (jdl rfl qi7 hc))
 rw[j4c (qiw k)] at e
 exact jd4 ((jcr rfl).trans ((jd5 rfl).trans ((jd5 rfl).trans (jdl rfl qi7 e))))
theorem qi8:qjk (FW GW3) 400 7 [.s .nilSlice] (j43 5)=true:=by kernel_rfl
theorem qmy:WC GW4 7 [.s .nilSlice] h Q=Q (j43 5) h:=jd4 (jdl rfl rfl (j32 qi8))
theorem j8o {F:Fns} (f:RdF0 F) (ok:Ok h) (hl:20000<l.length) {kk:Bool}:WC (FW F) 7 [.s (.lst (l.map jfa))] h (fun v h'=>∃ d,jml kk h' d v=some (j43 1)):=by
 have fu:=f.up
 refine jan (fu.x _ rfl _ _) ((congrFun fu.t _).trans qa5) rfl ?_
 unfold jtr
 have hpos:=ok.pos
 obtain⟨hA,eA,okA,nA,xA,gA⟩:=jra ok [.int .i64 0,.int .i64 0,.nilSlice,.nilSlice,.int .i64 0,.int .i64 0,.nilSlice] 31
 obtain⟨hK,eK,okK,nK,xK,gK⟩:=jrx okA (b:=h.next) hpos (some (.arr [.int .i64 0,.int .i64 0,.nilSlice,.nilSlice,.int .i64 0,.int .i64 0,.nilSlice] 31))
 have ll:jlz (.s (.lst (l.map jfa)))=some (vi l.length):=by
  show some (vi ((ja9 (l.map jfa):Nat):Int))=_
  rw[jas,f05]
 have c1:(20000<(l.length:Int))=True:=eq_true (by omega)
 simp(disch:=first|omega|rfl) only[go_sem,eA,ll,c1,xA,eK,xK]
 exact⟨3,rfl⟩
theorem qoa (hb:∀ n∈l,n<256) (hy:(l=[]/\y=.nilSlice)∨(l≠[]/\grd y=false/\jc0 true h 4 y=some (.lst (l.map jfa)))) :
 (∃ en:Int,en≠0/\∀ Q,WC GW4 7 [.s y] h Q=Q (j43 en) h) ∨
 ∃ s:Scr,OkS s/\l=jtm s/\l.length<=20000/\je6 true GW1 24 [.agg (jik s)] (vi 0)/\∀ Q,WC GW4 7 [.s y] h Q=Q (.tup [(true,jik s),(false,[si 0])]) h:=by
 rcases hy with⟨rfl,rfl⟩ | ⟨hne,h1,h2⟩
 .exact .inl ⟨5,by omega,fun Q=>qmy⟩
 have z:jh3 true h 4 [.s y]=some [.s (.lst (l.map jfa))]:=by
  show ob (ob (jc0 true h 4 y) (fun y=>some (AV.s y))) (fun y=>ob (jh3 true h 4 []) (fun r=>some (y::r)))=_
  rw[h2];rfl
 have g:jfr [.s y]=false:=by
  show oif (grd y) true false=false
  rw[h1];rfl
 have fin:∀ {u:AV},je6 false (FW GW3) 7 [.s (.lst (l.map jfa))] u->∀ Q,WC GW4 7 [.s y] h Q=Q u h:=fun p Q=>jd4 (jz1 rfl g ⟨_,4,z,p⟩)
 rcases f0j 20000 l.length with hl | hl
 .exact .inl ⟨1,by omega,fin (j8o rdW ji8 hl)⟩
 obtain⟨s,⟨rest,fl⟩,e⟩:∃ s r,qjl (l,false)=(s,r):=⟨_,_,rfl⟩
 cases fl with
 | true=>exact .inl ⟨5,by omega,fin (j4r (en:=0) rdW ji8 hl hb e (fun h=>nomatch h))⟩
 | false =>
  obtain⟨k,hk⟩:=j8m l s rest hb e
  obtain⟨en,hen⟩:=qn8 k
  have d:je6 false (FW GW3) 7 [.s (.lst (l.map jfa))] (qi5 s rest false en):=j4r rdW ji8 hl hb e (fun _ h vs Q h2=>by
   cases g:jfr [.agg vs] with
   | false=>exact jd4 ((jd5 rfl).trans ((jd5 rfl).trans ((jcr rfl).trans (jz1 rfl g ⟨_,4,h2,je6.scal hen⟩))))
   | true =>
    obtain rfl:=jtw g h2
    exact jd4 ((jd5 rfl).trans ((jd5 rfl).trans ((jcr rfl).trans (jdl rfl g hen)))))
  cases rest with
  | cons q rest=>exact .inl ⟨4,by omega,fin d⟩
  | nil =>
   by_cases e0:en=0
   .subst e0
    exact .inr ⟨s,k,by rw[hk,f1d],hl,hen,fin d⟩
   .have er:qi5 s [] false en=j43 en:=if_neg e0
    rw[er] at d
    exact .inl ⟨en,e0,fin d⟩
end
def qbd:IC:=qr [qQ 1 (.mv (.c (.s (.bool false))))] (qr [qM 0,qA (.app 5 1 1 (.c (.s .nilSlice)) qa),qA (.call 7 [qa]),qP (.mv qa),qP (.ext 0 qa),qP (.ext 1 qb),qB 5 (.new 31 [.int .i64 0,.int .i64 0,.nilSlice,.nilSlice,.int .i64 0,.int .i64 0,.nilSlice]),qA (.store 7 qa qc),qQ 7 (.mv qc)] (.seq (qr [qM 7,qQ 6 (.bin .ne qa (qC 0))] (.cond (.g 6) (qr [qA (.call 7 [.c (.s .nilSlice)]),qP (.mv qa),qP (.ext 0 qa),qP (.ext 1 qb),qA (.new 31 [.int .i64 0,.int .i64 0,.nilSlice,.nilSlice,.int .i64 0,.int .i64 0,.nilSlice]),qA (.store 7 qa qc),qQ 4 (.mv qc)] (qr [qF 2 5,qG 1,qL,qP (.len qa),qP (.bin .eq qa (qC 0)),qP (.mv qa),qR 0 true (.mv (.g 4)),qR 1 true (.bin .eq qa (qC 5)),qP (.pick qc qa (.c (.s (.bool false)))),qT 1] .ret)) .skip)) (qr [qA (.load 7 true (.g 5)),qA (.call 8 [qa]),qP (.mv qa),qP (.ext 0 qa),qP (.ext 1 qb),qQ 2 (.mv qb),qQ 3 (.mv qb)] (qr [qM 3,qP (.bin .eq qa (qC 0)),qP (.mv qa),qR 0 true (.mv (.g 2)),qS 1 true (.strop 0 qa qa),qR 2 true (.mv (.g 0)),qS 3 true (.strop 0 qa qa),qS 4 true (.strop 1 qc qa),qP (.pick (.l 5) qa (.c (.s (.bool false)))),qT 1] .ret))))
theorem qmd:T 3=some (.mk qbd 1 7 [(.tmp 1)]):=by kernel_rfl
section
variable {F:Fns} {dst:Option Nat} {l:List IOper} {st fr:List AV} {h:Hp} {Q:Ex->St->Prop}
theorem j8p {k:Nat} {x y:Od}:WO F (.mk dst (.a (.strop k x y)) none::l) st fr h Q=zmO F (jcp st fr h (.strop k x y)) dst l st fr Q:=jd3 rfl
def qi9 (h:Hp) (x:Option AV):R:=ob x (fun v=>ob (j8v v) (fun l=>ok (.s (.str l)) h))
theorem j4t {x y:Od}:jcp st fr h (.strop 0 x y)=qi9 h (ev st fr x):=rfl
def qja (h:Hp) (x y:Option AV):R:=ob x (fun a=>ob y (fun b=>svc none a (fun a=>svc none b (fun b=>qfk a (fun l=>qfk b (fun r=>ok (.s (.bool (j49 l r))) h))))))
theorem j4u {x y:Od}:jcp st fr h (.strop 1 x y)=qja h (ev st fr x) (ev st fr y):=rfl
theorem qey {v:AV} {b:List UInt8} (e:j8v v=some b):qi9 h (some v)=some (.s (.str b),h):=by
 show ob (j8v v) _=_
 rw[e];rfl
theorem qez {b:List UInt8}:qja h (some (.s (.str b))) (some (.s (.str b)))=some (vb true,h):=by
 show some (AV.s (.bool (j49 b b)),h)=_
 rw[jn9,beq_self_eq_true]
end
theorem j4v:∀ l:List Nat,∃ b,qbk (l.map (fun n:Nat=>SV.int .u8 n))=some b
 | []=>⟨[],rfl⟩
 | a::l=>by
  obtain⟨b,e⟩:=j4v l
  refine⟨UInt8.ofNat (Int.toNat a)::b,?_⟩
  show ob (qbk (l.map (fun n:Nat=>SV.int .u8 n))) (fun l=>some (UInt8.ofNat (Int.toNat a)::l))=_
  rw[e];rfl
theorem qjb (l:List Nat):∃ b,j8v (.s (jag jfa l))=some b:=by
 cases l with
 | nil=>exact⟨[],rfl⟩
 | cons a l =>
  obtain⟨b,e⟩:=j4v (a::l)
  refine⟨b,?_⟩
  show ob (jim 1 ((a::l).map jfa)) qbk=_
  have fl:jim 1 ((a::l).map jfa)=some ((a::l).map (fun n:Nat=>SV.int .u8 n)):=by
   rw[jil (fun r hr=>by obtain⟨n,_,rfl⟩:=f2a.1 hr;rfl)]
   congr 1
   generalize a::l=q
   induction q with
   | nil=>rfl
   | cons b q ih=>rw[f08,f0u,ih];rfl
  rw[fl]
  exact e
theorem j4w {h:Hp} (ok:Ok h) {l:List Nat} (hl:l.length<=140737488355328) (hX:(l=[]/\X=.nilSlice)∨X=.lst (l.map jfa)) :
 ∃ y hA,jjv h 5 1 1 (.s .nilSlice) (.s X)=some (.s y,hA)/\Ok hA/\h.next<=hA.next/\((l=[]/\y=.nilSlice)∨(l≠[]/\grd y=false/\jc0 true hA 4 y=some (.lst (l.map jfa)))):=by
 rcases hX with⟨rfl,rfl⟩ | rfl
 .exact ⟨.nilSlice,h,rfl,ok,f0d _,.inl ⟨rfl,rfl⟩⟩
 cases l with
 | nil=>exact⟨.nilSlice,h,rfl,ok,f0d _,.inl ⟨rfl,rfl⟩⟩
 | cons a l =>
  have fl:jim 1 ((a::l).map jfa)=some ((a::l).map (fun n:Nat=>SV.int .u8 n)):=by
   rw[jil (fun r hr=>by obtain⟨n,_,rfl⟩:=f2a.1 hr;rfl)]
   congr 1
   generalize a::l=q
   induction q with
   | nil=>rfl
   | cons b q ih=>rw[f08,f0u,ih];rfl
  obtain⟨hA,eA,okA,nA,xA,gA⟩:=jra ok ((a::l).map (fun n:Nat=>SV.int .u8 n)) 5
  have e1:jjv h 5 1 1 (.s .nilSlice) (.s (.lst ((a::l).map jfa)))=some (.s (.slice h.next 0 (a::l).length (a::l).length false 1),hA):=by
   show ob (jim 1 ((a::l).map jfa)) (fun new=>_)=_
   rw[fl]
   show jft 1 (ja9 ((a::l).map jfa)) (nw h ((a::l).map (fun n:Nat=>SV.int .u8 n)) 5 (fun k h=>Ev.ok (.s (.slice k 0 (ja9 ((a::l).map jfa)) (ja9 ((a::l).map jfa)) false 1)) h))=_
   rw[jas,f05,jq0 (by omega) hl,jmr ok,eA]
   rfl
  have sl:Sl hA 5 1 false EY (.slice h.next 0 (a::l).length (a::l).length false 1) (a::l) [h.next]:=by
   have hR:∀ L:List Nat,Rows 1 EY (L.map jfa) L []:=fun L=>by
    induction L with
    | nil=>exact .nil
    | cons b L ih=>exact .cons (show(jfa b).length=1 from rfl) (show EY (jfa b) b [] from ⟨rfl,rfl⟩) ih
   refine .inr ⟨by simp,h.next,(a::l).map jfa,[],rfl,?_,hR _,rfl⟩
   rw[xA]
   congr 2
   generalize a::l=q
   induction q with
   | nil=>rfl
   | cons b q ih=>rw[f08,f08,f0u,←ih];rfl
  refine⟨_,hA,e1,okA,by omega,.inr ⟨by simp,rfl,?_⟩⟩
  exact sl.frz (enc:=jfa) (k:=true) (d:=3) (fun row a ms e=>by obtain⟨rfl,rfl⟩:=e;rfl) (fun _=>rfl)
theorem qjc {h:Hp} (ok:Ok h) {l:List Nat} (hb:∀ n∈l,n<256) (hl:l.length<=140737488355328) (hX:(l=[]/\X=.nilSlice)∨X=.lst (l.map jfa)) :
 WC GW4 3 [.s X] h (fun v _=>v=.s (.bool true)):=by
 refine jan ((jcr rfl).trans ((jd5 rfl).trans ((jd5 rfl).trans ((jcr rfl).trans ((jcr rfl).trans ((jcr rfl).trans (noJ rfl rfl))))))) qmd rfl ?_
 unfold qbd
 obtain⟨y,hA,e1,okA,nA,hy⟩:=j4w ok hl hX
 rcases qoa (h:=hA) hb hy with⟨en,e0,wD⟩ | ⟨s,k,rfl,h2,hc,wD⟩
 .have c0:(en≠0)=True:=eq_true e0
  obtain⟨hB,eB,okB,nB,xB,gB⟩:=jhi okA [.int .i64 0,.int .i64 0,.nilSlice,.nilSlice,.int .i64 0,.int .i64 0,.nilSlice] [.int .i64 0,.int .i64 0,.nilSlice,.nilSlice,.int .i64 0,.int .i64 0,.nilSlice] 31
  obtain⟨hC,eC,okC,nC,xC,gC⟩:=jhi okB [.int .i64 0,.int .i64 0,.nilSlice,.nilSlice,.int .i64 0,.int .i64 0,.nilSlice] [.int .i64 0,.int .i64 0,.nilSlice,.nilSlice,.int .i64 0,.int .i64 0,.nilSlice] 31
  have yB:=(gC _ (by omega)).trans xB
  have wN:=fun(h:Hp) (Q:AV->Hp->Prop)=>qmy (h:=h) (Q:=Q)
  simp(disch:=first|omega|rfl) only[go_sem,e1,wD,j43,eB,c0,wN,eC,yB]
  done
 .obtain ⟨hB,eB,okB,nB,xB,gB⟩:=jhi okA [.int .i64 0,.int .i64 0,.nilSlice,.nilSlice,.int .i64 0,.int .i64 0,.nilSlice] (jik s) 31
  have wE:=fun(h:Hp) (Q:AV->Hp->Prop)=>qn9 (h:=h) (Q:=Q) k h2 hc
  obtain⟨b,hbs⟩:=qjb (jtm s)
  have hB2:jag jfa (jtm s)=.lst ((jtm s).map jfa):=by
   obtain⟨c,B,e⟩:∃ c B,jtm s=c::B:=⟨_,_,rfl⟩
   rw[e];rfl
  have hX2:X=.lst ((jtm s).map jfa):=by
   rcases hX with⟨e,_⟩ | e
   .exact absurd e (by intro h;cases h)
   .exact e
  subst hX2
  rw[hB2] at hbs
  unfold jik at wD eB xB wE
  simp(disch:=first|omega|rfl) only[go_sem,e1,wD,eB,xB,wE,qjm,hB2,j8p,j4t,j4u,qey hbs,qez]
  done
end
end Go.Proofs.Ytkplfnkgodnmaaa.Ev
