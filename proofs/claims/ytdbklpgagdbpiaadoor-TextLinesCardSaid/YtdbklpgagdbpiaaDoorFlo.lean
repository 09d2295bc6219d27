/- A region that draws its order, in which all that touch memory stand in one order, but for loads: a load's value is looked at wherever it may come. No program in sight. -/
import Derived.Test.YtdbklpgagdbpiaaDoorIso
namespace Go.Proofs.YtdbklpgagdbpiaaDoor.Ev
noncomputable section
open Go
set_option linter.all false
variable {v:AV} {h:Hp} {fr:List AV} {d i j m:Nat}
def qjf (x y:SV):Bool :=
 SV.casesOn (motive_1:=fun _=>Bool) x (fun _=>eqS 9 x y) (fun _ _=>eqS 9 x y) (fun _=>eqS 9 x y)
  (fun b o=>SV.casesOn (motive_1:=fun _=>Bool) y (fun _=>false) (fun _ _=>false) (fun _=>false) (fun b' o'=>oif (Nat.beq b b') (Nat.beq o o') false) false (fun _ _ _ _ _ _=>false) false (fun _ _=>false) false false (fun _=>false) (fun _=>false) (fun _=>false) (fun _=>false) false (fun _=>false))
  (eqS 9 x y)
  (fun b o n m e z=>SV.casesOn (motive_1:=fun _=>Bool) y (fun _=>false) (fun _ _=>false) (fun _=>false) (fun _ _=>false) false (fun b' o' n' m' e' z'=>oif (Nat.beq b b') (oif (Nat.beq o o') (oif (Nat.beq n n') (oif (Nat.beq m m') (oif (qh6 e e') (Nat.beq z z') false) false) false) false) false) false (fun _ _=>false) false false (fun _=>false) (fun _=>false) (fun _=>false) (fun _=>false) false (fun _=>false))
  (eqS 9 x y) (fun _ _=>false) (eqS 9 x y) (eqS 9 x y) (fun _=>false) (fun _=>eqS 9 x y) (fun _=>eqS 9 x y) (fun _=>false) false (fun _=>false)
theorem jm2 (x y:SV) (h:qjf x y=true):x=y:=by
 cases x with
 | ptr b o=>cases y with
  | ptr b' o' =>
   have h':oif (Nat.beq b b') (Nat.beq o o') false=true:=h
   rw[jap] at h'
   split at h'
   .rename_i h1
    rw[jgt] at h1 h'
    rw[h1,h']
   .cases h'
  | _=>cases h
 | slice b o n m e z=>cases y with
  | slice b' o' n' m' e' z' =>
   have h':oif (Nat.beq b b') (oif (Nat.beq o o') (oif (Nat.beq n n') (oif (Nat.beq m m') (oif (qh6 e e') (Nat.beq z z') false) false) false) false) false=true:=h
   simp only[jap] at h'
   split at h'
   .rename_i h1
    split at h'
    .rename_i h2
     split at h'
     .rename_i h3
      split at h'
      .rename_i h4
       split at h'
       .rename_i h5
        rw[jgt] at h1 h2 h3 h4 h'
        rw[h1,h2,h3,h4,jmf h5,h']
       .cases h'
      .cases h'
     .cases h'
    .cases h'
   .cases h'
  | _=>cases h
 | func _ _=>cases h
 | map _=>cases h
 | cp _=>cases h
 | emp=>cases h
 | _=>exact jxn 9 _ _ h
def qv5 (p q:Bool×List SV):Bool:=oif (qh6 p.1 q.1) (eqL qjf p.2 q.2) false
theorem j5p (p q:Bool×List SV) (h:qv5 p q=true):p=q:=by
 have h':oif (qh6 p.1 q.1) (eqL qjf p.2 q.2) false=true:=h
 rw[jap] at h'
 split at h'
 .rename_i h1
  exact Prod.ext (jmf h1) (jfn jm2 h')
 .cases h'
def eqN (x y:AV):Bool :=
 AV.casesOn (motive:=fun _=>Bool) x
  (fun a=>AV.casesOn (motive:=fun _=>Bool) y (fun b=>qjf a b) (fun _=>false) (fun _=>false) false false)
  (fun a=>AV.casesOn (motive:=fun _=>Bool) y (fun _=>false) (fun b=>eqL qjf a b) (fun _=>false) false false)
  (fun a=>AV.casesOn (motive:=fun _=>Bool) y (fun _=>false) (fun _=>false) (fun b=>eqL qv5 a b) false false)
  (AV.casesOn (motive:=fun _=>Bool) y (fun _=>false) (fun _=>false) (fun _=>false) true false) false
theorem j84 (x y:AV) (h:eqN x y=true):x=y:=by
 cases x with
 | s a=>cases y with
  | s b=>exact congrArg _ (jm2 a b h)
  | _=>cases h
 | agg a=>cases y with
  | agg b=>exact congrArg _ (jfn jm2 h)
  | _=>cases h
 | tup a=>cases y with
  | tup b=>exact congrArg _ (jfn j5p h)
  | _=>cases h
 | undef=>cases y with
  | undef=>rfl
  | _=>cases h
 | any=>cases h
structure FE where
 ld:Bool
 ev:Hp->Option AV
 h:Hp
 v:AV
def j09 (op:IOp):Bool:=IOp.casesOn (motive:=fun _=>Bool) op (fun _=>false) (fun o=>AO.casesOn (motive:=fun _=>Bool) o (fun _ _=>false) (fun _ _=>false) (fun _ _ _ _ _=>false) (fun _ _ _ _ _ _=>false)
 (fun _ _ _=>true) (fun _ _ _=>false) (fun _ _=>false) (fun _ _=>false) (fun _ _ _ _ _=>false) (fun _ _ _=>false) (fun _ _=>false) (fun _=>false) (fun _ _ _ _ _ _=>false) (fun _ _ _ _ _=>false) (fun _ _ _=>true) (fun _ _=>false) (fun _ _ _=>false) (fun k _ _=>Nat.ble k 6) false)
def j1a (o:Option AV) (v:AV):Bool:=Option.rec (motive:=fun _=>Bool) false (fun x=>eqN x v) o
def jxx (p:FE->Bool) (es:List FE) (js:List Nat):Bool:=List.rec (motive:=fun _=>Bool) true (fun j _ ih=>Option.rec (motive:=fun _=>Bool) false (fun e=>oif (p e) ih false) (jec es j)) js
def jn0 (cl:FuncId->List AV->Hp->R) (st fr:List AV) (es:List FE) (h:Hp) (op:IOp) (js:List Nat):Option (AV×Hp×FE) :=
 ob (iop cl st fr h op) (fun p=>Bool.rec (motive:=fun _=>Option (AV×Hp×FE))
  (IOp.casesOn (motive:=fun _=>Option (AV×Hp×FE)) op (fun _=>some (p.1,h,.mk true (fun _=>some p.1) h p.1))
   (fun _=>oif (jxx (fun e=>oif e.ld (j1a (e.ev p.2) e.v) false) es js) (some (p.1,p.2,.mk false (fun _=>none) h .undef)) none))
  (oif (jxx (fun e=>oif e.ld true (j1a (ob (iop cl st fr e.h op) (fun q=>some q.1)) p.1)) es js) (some (p.1,h,.mk true (fun h'=>ob (iop cl st fr h' op) (fun q=>some q.1)) h p.1)) none) (j09 op))
def jr4 (cl:FuncId->List AV->Hp->R) (st fr:List AV) (es:List FE) (h:Hp) (op:IOp) (g:Option (Nat×Bool)) (js:List Nat):Option (AV×Hp×FE) :=
 ob (j6i st g) (fun b=>Bool.rec (motive:=fun _=>Option (AV×Hp×FE)) (some (.undef,h,.mk true (fun _=>some .undef) h .undef)) (jn0 cl st fr es h op js) b)
def jm3 (cl:FuncId->List AV->Hp->R) (l:List (IOper×List Nat)):List AV->List FE->List AV->Hp->Option St :=
 List.rec (motive:=fun _=>List AV->List FE->List AV->Hp->Option St) (fun _ _ fr h=>some (.mk fr h))
  (fun o _ ih st es fr h=>IOper.casesOn (motive:=fun _=>Option St) o.1 (fun dst op g=>ob (jr4 cl st fr es h op g o.2) (fun p=>ih (p.1::st) (p.2.2::es) (jcn fr dst p.1) p.2.1))) l
def j1b:Nat->List (IOper×Bool×Nat)->List (IOper×List Nat)
 | _,[]=>[]
 | k,(op,act,un)::r=>(op,bif act then jh6 un k 0 else [])::j1b (k+1) r
def qsr (T:Tr TI) (π:List Nat) (nt:Nat) (ops:List Oper):Option (List (IOper×List Nat)):=(qo4 T π nt [] [] [] 0 0 ops).map (j1b 0)
def qjg:List Bool->List (IOper×List Nat)->Bool
 | _,[]=>true
 | fs,(.mk _ op _,js)::r=>(j09 op||js.all (fun j=>fs.getD j false))&&qjg (j09 op::fs) r
theorem jxy:∀ (l:List (IOper×Bool×Nat)) (k:Nat),(j1b k l).length=l.length/\∀ i op act un,l[i]?=some (op,act,un)->(j1b k l)[i]?=some (op,bif act then jh6 un (k+i) 0 else [])
 | [],k=>by simp[j1b]
 | (op,act,un)::r,k=>by
  obtain⟨h1,h2⟩:=jxy r (k+1)
  refine⟨by simp[j1b,h1],fun i op' act' un' h=>?_⟩
  cases i with
  | zero =>
   simp only[f1a,Option.some.injEq,Prod.mk.injEq] at h
   obtain⟨rfl,rfl,rfl⟩:=h
   rfl
  | succ i =>
   have:=h2 i op' act' un' (by simpa using h)
   simp only[j1b,f2t]
   rw[this,show k+1+i=k+(i+1) by omega]
section
variable {P:Program} {A:Nat->Int} {T:Tr TI} {π:List Nat} {nt:Nat} {ops:Array Oper} {cl:FuncId->List AV->Hp->R} {V:Nat->AV} {H:Nat->Hp} {E:Nat->FE} {F:Nat->List AV}
 {φ φ0:Phi} {w w0:World} {L:Nat->Prop} {a a0:Act}
def jsO (T:Tr TI) (π:List Nat) (nt:Nat) (ops:Array Oper) (i:Nat):List Nat:=bif aO T π nt ops i then jh6 (unO T π nt ops i) i 0 else []
theorem j85 {l:List (IOper×List Nat)} (h:qsr T π nt ops.toList=some l):l.length=ops.size/\∀ i,i<ops.size->OpF T π nt ops i/\l[i]?=some (pO T π nt ops i,jsO T π nt ops i):=by
 obtain⟨l1,h1,rfl⟩:=f0a.1 h
 obtain⟨a1,a2⟩:=jpn T π nt ops ops.toList 0 l1 (fun k o hk=>by
  rw[f02] at hk
  simp[jc1,f0n,hk]) h1
 obtain⟨b1,b2⟩:=jxy l1 0
 refine⟨by rw[b1,a1];simp,fun i hi=>?_⟩
 have:=a2 i (by simpa using hi)
 rw[f0z] at this
 refine⟨this.1,?_⟩
 rw[b2 i _ _ _ this.2,f0z]
 rfl
theorem jvj (hi:aO T π nt ops i=true) (hj:j<i):(i - 1 - j)∈jsO T π nt ops i↔(aO T π nt ops j=true/\tb (mM ops i) j=false):=by
 unfold jsO
 rw[hi,cond_true,jl6]
 constructor
 .rintro ⟨o,h1,h2,h3⟩
  have e:i - 1 - o=j:=by omega
  rw[e,jks] at h3
  simp only[f0y,decide_eq_true_eq,f18] at h3
  exact⟨h3.1.2,h3.2⟩
 .rintro ⟨h1,h2⟩
  refine⟨i - 1 - j,by omega,by omega,?_⟩
  have e:i - 1 - (i - 1 - j)=j:=by omega
  rw[e,jks,h1,h2]
  simp[hj]
theorem jq4 {p:FE->Bool} {es:List FE}:∀ {js:List Nat},jxx p es js=true->∀ j∈js,∃ e,es[j]?=some e/\p e=true
 | [],_,j,hj=>by simp at hj
 | k::js,h,j,hj=>by
  have h':(Option.rec (motive:=fun _=>Bool) false (fun e=>oif (p e) (jxx p es js) false) (jec es k))=true:=h
  cases he:jec es k with
  | none=>rw[he] at h';cases h'
  | some e =>
   rw[he] at h'
   have h2:oif (p e) (jxx p es js) false=true:=h'
   rw[jap] at h2
   split at h2
   .rename_i h3
    rcases f0j.1 hj with rfl | h4
    .rw [jcl] at he;exact⟨e,he,h3⟩
    .exact jq4 h2 j h4
   .cases h2
theorem jxz {o:Option AV} (h:j1a o v=true):o=some v:=by
 cases o with
 | none=>cases h
 | some x=>rw[j84 x v h]
theorem j86 {op:IOp} (h:j09 op=true):(∃ n agg y,op=.a (.load n agg y))∨(∃ n size y,op=.a (.slicea n size y))∨∃ n x y,op=.a (.strop n x y)/\n<=6:=by
 cases op with
 | p _=>cases h
 | a o=>cases o<;>first | exact .inl ⟨_,_,_,rfl⟩ | exact .inr (.inl ⟨_,_,_,rfl⟩) | exact .inr (.inr ⟨_,_,_,rfl,f0g h⟩) | cases h
theorem jq5 {st:List AV} {h':Hp} {op:IOp} (hl:j09 op=true) (hv:iop cl st fr h op=some (v,h')):h'=h:=by
 rcases j86 hl with⟨n,agg,y,rfl⟩ | ⟨n,size,y,rfl⟩ | ⟨n,x,y,rfl,hn6⟩
 .obtain ⟨u,hu,h1⟩:=jaa.1 (show ob (ev st fr y) (fun v=>jev v (fun b o=>ob (rd h b o n) (fun cs=>ob (jfg agg cs) (fun v=>ok v h))) (fun cs=>ob (jbp n cs) (fun cs=>ob (jfg agg cs) (fun v=>ok v h))))=some (v,h') from hv)
  rcases jb6 h1 with⟨b,o,rfl,h2⟩ | ⟨cs,rfl,h2⟩
  .obtain ⟨cs,_,h3⟩:=jaa.1 h2
   obtain⟨_,_,h4⟩:=jaa.1 h3
   cases h4;rfl
  .obtain ⟨cs,_,h3⟩:=jaa.1 h2
   obtain⟨_,_,h4⟩:=jaa.1 h3
   cases h4;rfl
 .obtain ⟨u,hu,h1⟩:=jaa.1 (show jn4 st fr h n size y=some (v,h') from hv)
  rcases jb6 h1 with⟨b,o,rfl,h2⟩ | ⟨cs,rfl,h2⟩
  .obtain ⟨_,_,h4⟩:=jaa.1 h2
   cases h4;rfl
  .obtain ⟨_,_,h4⟩:=jaa.1 h2
   cases h4;rfl
 .exact jc9 hn6 (show jd1 st fr h n x y=some (v,h') from hv)
inductive FKind (T:Tr TI) (π:List Nat) (nt:Nat) (ops:Array Oper) (cl:FuncId->List AV->Hp->R) (V:Nat->AV) (H:Nat->Hp) (E:Nat->FE) (F:Nat->List AV) (i:Nat) (op:IOp):Bool->Prop where
 | skip:V i=.undef->H (i+1)=H i->(E i).ld=true->(∀ h,(E i).ev h=some (V i))->(E i).v=V i->FKind T π nt ops cl V H E F i op false
 | pure (po:PO):op=.p po->pop (jal V i) (F i) po=some (V i)->H (i+1)=H i->(E i).ld=true->aO T π nt ops i=false->FKind T π nt ops cl V H E F i op true
 | load:j09 op=true->iop cl (jal V i) (F i) (H i) op=some (V i,H i)->H (i+1)=H i->(E i).ld=true->(E i).v=V i->(∀ h,(E i).ev h=ob (iop cl (jal V i) (F i) h op) (fun q=>some q.1))->aO T π nt ops i=true ->
  (∀ j∈jsO T π nt ops i,∃ e,(jal E i)[j]?=some e/\(e.ld=true∨iop cl (jal V i) (F i) e.h op=some (V i,e.h)))->FKind T π nt ops cl V H E F i op true
 | chain:iop cl (jal V i) (F i) (H i) op=some (V i,H (i+1))->(E i).ld=false->(E i).h=H i->aO T π nt ops i=true ->
  (∀ j∈jsO T π nt ops i,∃ e,(jal E i)[j]?=some e/\e.ld=true/\e.ev (H (i+1))=some e.v)->FKind T π nt ops cl V H E F i op true
structure FCtx (T:Tr TI) (π:List Nat) (nt:Nat) (ops:Array Oper) (cl:FuncId->List AV->Hp->R) (V:Nat->AV) (H:Nat->Hp) (E:Nat->FE) (F:Nat->List AV):Prop where
 opf:∀ i,i<ops.size->OpF T π nt ops i
 run:∀ i,i<ops.size->∃ op g b,pO T π nt ops i=.mk (jfx π (dD ops i)) op g/\cOp T π (jal (dD ops) i) (jc1 ops i).op=some op/\joy (jal (dD ops) i) i (jc1 ops i).guard=some g/\jjf nt (dD ops i)=true/\j6i (jal V i) g=some b/\FKind T π nt ops cl V H E F i op b/\F (i+1)=jcn (F i) (jfx π (dD ops i)) (V i)
theorem FCtx.maskDep (c:FCtx T π nt ops cl V H E F) (hi:i<ops.size) (h:tb (mM ops i) j=true) :
 ∃ e∈(jc1 ops i).after.toList,Region.binds .any e=true/\e.on<i/\(j=e.on∨tb (mM ops e.on) j=true):=by
 obtain⟨h1,h2⟩:=jfe (c.opf i hi).msk
 rcases(h2 j).1 h with h3 | ⟨e,h3,h4,h5⟩
 .rw [jtv] at h3;cases h3
 .have hlt:=h1 e h3 h4
  refine⟨e,h3,h4,hlt,?_⟩
  rcases h5 with h5 | ⟨m',h5,h6⟩
  .exact .inl h5
  .rw [jbj (mM ops) hlt] at h5
   cases h5
   exact .inr h6
theorem FCtx.back (c:FCtx T π nt ops cl V H E F) (hi:i<ops.size) {e:Edge} (he:e∈(jc1 ops i).after.toList) (hb:Region.binds .any e=true):e.on<i :=
 (jfe (c.opf i hi).msk).1 e he hb
theorem FCtx.maskIn (c:FCtx T π nt ops cl V H E F) {L:Nat->Prop} (hL:jsp ops L):∀ (i j:Nat),i<ops.size->(∀ e∈(jc1 ops i).after.toList,Region.binds .any e=true->L e.on)->tb (mM ops i) j=true->L j:=by
 intro i
 induction i using Nat.strongRecOn with
 | _ i ih =>
  intro j hi hd h
  obtain⟨e,h1,h2,h3,h4⟩:=c.maskDep hi h
  rcases h4 with rfl | h4
  .exact hd e h1 h2
  .exact ih e.on h3 j (by omega) (hL e.on (by omega) (hd e h1 h2)) h4
theorem FCtx.maskLt (c:FCtx T π nt ops cl V H E F):∀ (i j:Nat),i<ops.size->tb (mM ops i) j=true->j<i:=by
 intro i
 induction i using Nat.strongRecOn with
 | _ i ih =>
  intro j hi h
  obtain⟨e,h1,h2,h3,h4⟩:=c.maskDep hi h
  rcases h4 with rfl | h4
  .exact h3
  .have:=ih e.on h3 j (by omega) h4
   omega
theorem FCtx.frame (c:FCtx T π nt ops cl V H E F) {t:Nat} (hj:idx t π 0=some j):∀ i,i<=ops.size->(∀ k,k<i->dD ops k≠some t)->(F i)[j]?=(F 0)[j]?
 | 0,_,_=>rfl
 | i+1,hi,h=>by
  obtain⟨op,g,b,_,_,_,_,_,_,h6⟩:=c.run i (by omega)
  have ih:=FCtx.frame c hj i (by omega) (fun k hk=>h k (by omega))
  rw[h6,←ih]
  cases hd:dD ops i with
  | none=>rfl
  | some d =>
   have hne:d≠t:=fun e=>h i (by omega) (by rw[hd,e])
   cases hc:jfx π (some d) with
   | none=>rfl
   | some j' =>
    have hj':idx d π 0=some j':=hc
    show(jr8 (F i) j' (V i))[j]?=_
    rw[jgj]
    have:j'≠j:=by
     rintro rfl
     have h1:=jcp hj
     rw[jcp hj'] at h1
     cases h1
     exact hne rfl
    rw[f1s this]
theorem jvk:∀ (l:List (Option Nat)) (k:Nat),l[k]?=some (some d)->∃ q,jne d l 0=some q
 | [],k,h=>by simp at h
 | x::l,k,h=>by
  rw[jes]
  by_cases e:x=some d
  .exact ⟨0,by rw[if_pos e]⟩
  .rw [if_neg e]
   cases k with
   | zero=>simp at h;exact absurd h e
   | succ k =>
    obtain⟨q,hq⟩:=jvk l k (by simpa using h)
    exact⟨q+1,by rw[hq];rfl⟩
theorem FCtx.distinct (c:FCtx T π nt ops cl V H E F) (hi:i<ops.size) (hj:j<i) (hd:dD ops i=some d):dD ops j≠some d:=by
 intro h
 have h1:=(c.opf i hi).fresh
 rw[hd] at h1
 simp only[jw2] at h1
 have h2:=jbj (dD ops) hj
 rw[h] at h2
 obtain⟨q,hq⟩:=jvk _ _ h2
 rw[hq] at h1
 cases h1
theorem FCtx.same (c:FCtx T π nt ops cl V H E F):∀ n,m<=n->n<=ops.size->(∀ k,m<=k->k<n->(E k).ld=true)->H n=H m
 | 0,h1,_,_=>by obtain rfl:m=0:=by omega
                rfl
 | n+1,h1,h2,h=>by
  rcases f0h n m with h3 | h3
  .obtain rfl:m=n+1:=by omega
   rfl
  .rw [←FCtx.same c n h3 (by omega) (fun k a b=>h k a (by omega))]
   obtain⟨op,g,b,_,_,_,_,_,hk,_⟩:=c.run n (by omega)
   have hn:=h n h3 (by omega)
   cases hk with
   | skip _ e _ _ _=>exact e
   | pure _ _ _ e _ _=>exact e
   | load _ _ e _ _ _ _ _=>exact e
   | chain _ e _ _ _=>rw[hn] at e;cases e
theorem FCtx.chainAct (c:FCtx T π nt ops cl V H E F) {k:Nat} (hk:k<ops.size) (h:(E k).ld=false):aO T π nt ops k=true/\(E k).h=H k/\∀ j∈jsO T π nt ops k,∃ e,(jal E k)[j]?=some e/\e.ld=true/\e.ev (H (k+1))=some e.v:=by
 obtain⟨op,g,b,_,_,_,_,_,hk',_⟩:=c.run k hk
 cases hk' with
 | skip _ _ e _ _=>rw[h] at e;cases e
 | pure _ _ _ _ e _=>rw[h] at e;cases e
 | load _ _ _ e _ _ _ _=>rw[h] at e;cases e
 | chain _ _ e1 e2 e3=>exact⟨e2,e1,e3⟩
structure FInv (A:Nat->Int) (T:Tr TI) (π:List Nat) (nt:Nat) (ops:Array Oper) (V:Nat->AV) (H:Nat->Hp) (E:Nat->FE) (φ0:Phi) (a0:Act) (w0:World) (L:Nat->Prop) (a:Act) (w:World):Prop where
 lt:∀ k,L k->k<ops.size
 closed:jsp ops L
 defers:a.defers=a0.defers
 size:a.tmps.size=a0.tmps.size
 slots:∀ t,(∀ j,j<ops.size->L j->dD ops j≠some t)->a.tmps.getD t undef=a0.tmps.getD t undef
 heap:∃ φ m,m<=ops.size/\(∀ k,k<ops.size->(E k).ld=false->(L k↔k<m))/\Step (fun n=>(H 0).lo<=n) φ0 φ (H 0) (H m) w0 w/\Rel A φ (H m) w/\∀ i d,L i->dD ops i=some d->cV A φ (V i) (a.tmps.getD d undef)
theorem qdj (c:FCtx T π nt ops cl V H E F) (k:FInv A T π nt ops V H E φ0 a0 w0 L a w) (hf:FrR A φ0 π (F 0) a0) (hi:i<ops.size) (hni:¬ L i)
 (hd:∀ e∈(jc1 ops i).after.toList,Region.binds .any e=true->L e.on) {φ:Phi} (hle:φ0.le φ) (hval:∀ i d,L i->dD ops i=some d->cV A φ (V i) (a.tmps.getD d undef)) :
 jkh A φ π (jal (dD ops) i) (jal V i) (F i) (jc1 ops i).op.operands.toList a.eval:=by
 intro x hx y v hy hv
 cases x with
 | tmp t =>
  simp only[cO] at hy
  split at hy
  .rename_i q hq
   cases hy
   have hv':jec (jal V i) q=some v:=hv
   rw[jcl] at hv'
   obtain⟨h1,h2⟩:=jiw hv'
   obtain⟨h3,h4⟩:=jiw (jiu hq)
   have hL:=c.maskIn k.closed i (i - 1 - q) hi hd (jgc (c.opf i hi).reads t hx q hq)
   have:=hval (i - 1 - q) t hL h4
   rw[h2] at this
   exact this
  .rename_i hnone
   split at hy
   .rename_i j hj
    cases hy
    have hv':jec (F i) j=some v:=hv
    rw[jcl] at hv'
    have hearly:∀ q,q<i->dD ops q≠some t:=by
     intro q hq e
     have h2:=jbj (dD ops) hq
     rw[e] at h2
     obtain⟨q',hq'⟩:=jvk _ _ h2
     rw[hq'] at hnone
     cases hnone
    rw[c.frame hj i (by omega) hearly] at hv'
    have h0:=hf t j v hj hv'
    have hsl:a.tmps.getD t undef=a0.tmps.getD t undef:=k.slots t (fun q hq hl e=>by
     rcases f0h q i with h | h
     .exact hearly q h e
     .have hqi:i<q:=by
       rcases f0h i q with h' | h'
       .exact h'
       .obtain rfl:q=i:=by omega
        exact absurd hl hni
      have hw:=(c.opf q hq).wr
      rw[e] at hw
      have hmem:t∈rD ops i:=jiy hx
      exact hni (c.maskIn k.closed q i hq (k.closed q hq hl) (jpq hw i hqi hmem)))
    show cV A _ v (a.tmps.getD t undef)
    rw[hsl]
    exact h0.mono hle
   .cases hy
 | const u =>
  obtain⟨z,hz,rfl⟩:=f0a.1 (show(jsa u).map .c=some y from hy)
  cases hv
  exact jie hz
 | func f =>
  cases hy
  cases hv
  exact⟨[],rfl,.nil⟩
 | global g =>
  simp only[cO] at hy
  cases hg:qhp g with
  | none=>rw[hg] at hy;cases hy
  | some cs =>
   rw[hg] at hy
   cases hy
   cases hv
   exact jzt _ hg
theorem FInv.put (c:FCtx T π nt ops cl V H E F) (k:FInv A T π nt ops V H E φ0 a0 w0 L a w) (hi:i<ops.size) (hni:¬ L i) (hd:∀ e∈(jc1 ops i).after.toList,Region.binds .any e=true->L e.on)
 (hnt:nt<=a0.tmps.size) (hds:jjf nt (dD ops i)=true) {φ φ':Phi} (hle:φ.le φ') (hval:∀ i d,L i->dD ops i=some d->cV A φ (V i) (a.tmps.getD d undef)) {rv:Value} {w':World} (hrv:cV A φ' (V i) rv) {m:Nat} (hm:m<=ops.size)
 (hiff:∀ k,k<ops.size->(E k).ld=false->((L k∨k=i)↔k<m)) (st:Step (fun n=>(H 0).lo<=n) φ0 φ' (H 0) (H m) w0 w') (r:Rel A φ' (H m) w') :
 FInv A T π nt ops V H E φ0 a0 w0 (fun j=>L j∨j=i) (a.put (jc1 ops i).dst rv) w':=by
 have hdst:∀ d,dD ops i=some d->d<a.tmps.size:=fun d h=>by
  rw[h] at hds
  have:Nat.ble (d+1) nt=true:=hds
  exact f0m (f0g this) (by rw[k.size];exact hnt)
 have get:∀ t,(a.put (jc1 ops i).dst rv).tmps.getD t undef=if dD ops i=some t then rv else a.tmps.getD t undef:=by
  intro t
  show(a.put (dD ops i) rv).tmps.getD t undef=_
  cases hdd:dD ops i with
  | none=>rfl
  | some d =>
   rw[jga (hdst d hdd)]
   by_cases e:t=d
   .subst e;simp
   .rw [if_neg e,if_neg (fun h=>e (by cases h;rfl))]
 refine⟨fun j hj=>?_,fun j hj hl e he hb=>?_,(jeh _ _).trans k.defers,(jck _ _).trans k.size,fun t ht=>?_,φ',m,hm,hiff,st,r,fun j d hj hdj=>?_⟩
 .rcases hj with hj | rfl
  .exact k.lt j hj
  .exact hi
 .rcases hl with hl | rfl
  .exact .inl (k.closed j hj hl e he hb)
  .exact .inl (hd e he hb)
 .rw [get t,if_neg (ht i hi (.inr rfl))]
  exact k.slots t (fun j hj hl=>ht j hj (.inl hl))
 .rw [get d]
  rcases hj with hj | rfl
  .have hne:dD ops i≠some d:=by
    intro h
    have hji:j≠i:=fun e=>by subst e;exact hni hj
    rcases Nat.lt_or_gt_of_ne hji with h1 | h1
    .exact c.distinct hi h1 h hdj
    .exact c.distinct (k.lt j hj) h1 hdj h
   rw[if_neg hne]
   exact(hval j d hj hdj).mono hle
  .rw [if_pos hdj]
   exact hrv
theorem FInv.at (c:FCtx T π nt ops cl V H E F) (k:FInv A T π nt ops V H E φ0 a0 w0 L a w) (hi:i<ops.size) (hni:¬ L i) (hd:∀ e∈(jc1 ops i).after.toList,Region.binds .any e=true->L e.on) (hch:(E i).ld=false) (hm:m<=ops.size)
 (hiff:∀ k,k<ops.size->(E k).ld=false->(L k↔k<m)):H i=H m/\∀ k,k<ops.size->(E k).ld=false->((L k∨k=i)↔k<i+1):=by
 have before:∀ j,j<i->(E j).ld=false->L j:=fun j hj hcj=>by
  cases hb:tb (mM ops i) j with
  | true=>exact c.maskIn k.closed i j hi hd hb
  | false =>
   exfalso
   obtain⟨_,_,h3⟩:=c.chainAct hi hch
   obtain⟨e,h4,h5,_⟩:=h3 _ ((jvj (c.chainAct hi hch).1 hj).2 ⟨(c.chainAct (by omega) hcj).1,hb⟩)
   rw[jbj E hj] at h4
   cases h4
   rw[hcj] at h5;cases h5
 have after:∀ j,j<ops.size->i<j->(E j).ld=false->¬ L j:=fun j hj hij hcj hl=>by
  cases hb:tb (mM ops j) i with
  | true=>exact hni (c.maskIn k.closed j i hj (k.closed j hj hl) hb)
  | false =>
   obtain⟨_,_,h3⟩:=c.chainAct hj hcj
   obtain⟨e,h4,h5,_⟩:=h3 _ ((jvj (c.chainAct hj hcj).1 hij).2 ⟨(c.chainAct hi hch).1,hb⟩)
   rw[jbj E hij] at h4
   cases h4
   rw[hch] at h5;cases h5
 refine⟨?_,fun q hq hcq=>⟨fun h=>?_,fun h=>?_⟩⟩
 .rcases f0h i m with h1 | h1
  .exact absurd ((hiff i hi hch).2 h1) hni
  .refine c.same i h1 (by omega) (fun q h2 h3=>?_)
   cases hq:(E q).ld with
   | true=>rfl
   | false =>
    have:=(hiff q (by omega) hq).1 (before q h3 hq)
    omega
 .rcases h with h | rfl
  .rcases f0h i q with h1 | h1
   .exact absurd h (after q hq h1 hcq)
   .omega
  .omega
 .rcases f1y.1 h with h1 | h1
  .exact .inl (before q h1 hcq)
  .exact .inr h1
theorem FInv.load (c:FCtx T π nt ops cl V H E F) (k:FInv A T π nt ops V H E φ0 a0 w0 L a w) (hi:i<ops.size) (hni:¬ L i) (hd:∀ e∈(jc1 ops i).after.toList,Region.binds .any e=true->L e.on) (hm:m<=ops.size)
 (hiff:∀ k,k<ops.size->(E k).ld=false->(L k↔k<m)) {op:IOp} (hld:j09 op=true) (h1:iop cl (jal V i) (F i) (H i) op=some (V i,H i)) (he:(E i).ld=true) (hv:(E i).v=V i) (hev:∀ h,(E i).ev h=ob (iop cl (jal V i) (F i) h op) (fun q=>some q.1)) (ha:aO T π nt ops i=true)
 (hjs:∀ j∈jsO T π nt ops i,∃ e,(jal E i)[j]?=some e/\(e.ld=true∨iop cl (jal V i) (F i) e.h op=some (V i,e.h))):iop cl (jal V i) (F i) (H m) op=some (V i,H m):=by
 rcases f0h i m with hlt | hge
 ·
  by_cases hex:∃ q,i<=q/\q<m/\(E q).ld=false
  ·
   have last:∀ n,n<=m->(∃ q,i<=q/\q<n/\(E q).ld=false)->∃ q,i<=q/\q<n/\(E q).ld=false/\∀ r,q<r->r<n->(E r).ld=true:=by
    intro n
    induction n with
    | zero=>rintro _ ⟨q,_,h,_⟩;omega
    | succ n ih =>
     rintro hn ⟨q,h2,h3,h4⟩
     cases hE:(E n).ld with
     | false=>exact⟨n,by omega,by omega,hE,fun r h5 h6=>by omega⟩
     | true =>
      have hqn:q≠n:=fun e=>by subst e;rw[hE] at h4;cases h4
      obtain⟨q',g1,g2,g3,g4⟩:=ih (by omega) ⟨q,h2,by omega,h4⟩
      refine⟨q',g1,by omega,g3,fun r h5 h6=>?_⟩
      rcases f1y.1 h6 with h7 | h7
      .exact g4 r h5 h7
      .subst h7;exact hE
   obtain⟨q,g1,g2,g3,g4⟩:=last m (f0d _) hex
   have hiq:i<q:=by
    rcases f0h i q with h | h
    .exact h
    .obtain rfl:i=q:=by omega
     rw[he] at g3;cases g3
   have hlq:=(hiff q (by omega) g3).2 g2
   obtain⟨a1,_,a3⟩:=c.chainAct (show q<ops.size by omega) g3
   have hb:tb (mM ops q) i=false:=by
    cases hb:tb (mM ops q) i with
    | false=>rfl
    | true=>exact absurd (c.maskIn k.closed q i (by omega) (k.closed q (by omega) hlq) hb) hni
   obtain⟨e,h4,_,h6⟩:=a3 _ ((jvj a1 hiq).2 ⟨ha,hb⟩)
   rw[jbj E hiq] at h4
   cases h4
   rw[hev,hv] at h6
   obtain⟨p,hp,h7⟩:=jaa.1 h6
   obtain⟨v,h'⟩:=p
   obtain rfl:=jq5 hld hp
   cases h7
   rw[c.same m (show q+1<=m by omega) hm (fun r h8 h9=>g4 r (by omega) h9)]
   exact hp
  .rw [c.same m (Nat.le_of_lt hlt) hm (fun q h2 h3=>by
    cases hE:(E q).ld with
    | true=>rfl
    | false=>exact absurd ⟨q,h2,h3,hE⟩ hex)]
   exact h1
 .by_cases hex:∃ q,m<=q/\q<i/\(E q).ld=false
  ·
   have first:∀ d n,n+d=i->(∃ q,n<=q/\q<i/\(E q).ld=false)->∃ q,n<=q/\q<i/\(E q).ld=false/\∀ r,n<=r->r<q->(E r).ld=true:=by
    intro d
    induction d with
    | zero=>rintro n e ⟨q,h1,h2,_⟩;omega
    | succ d ih =>
     rintro n e ⟨q,h2,h3,h4⟩
     cases hE:(E n).ld with
     | false=>exact⟨n,f0d _,by omega,hE,fun r h5 h6=>by omega⟩
     | true =>
      have hqn:q≠n:=fun e=>by subst e;rw[hE] at h4;cases h4
      obtain⟨q',g1,g2,g3,g4⟩:=ih (n+1) (by omega) ⟨q,by omega,h3,h4⟩
      refine⟨q',by omega,g2,g3,fun r h5 h6=>?_⟩
      rcases f0h n r with h7 | h7
      .exact g4 r h7 h6
      .obtain rfl:r=n:=by omega
       exact hE
   obtain⟨q,g1,g2,g3,g4⟩:=first (i - m) m (by omega) hex
   have hlq:¬ L q:=fun h=>by have:=(hiff q (by omega) g3).1 h;omega
   obtain⟨a1,a2,_⟩:=c.chainAct (show q<ops.size by omega) g3
   have hb:tb (mM ops i) q=false:=by
    cases hb:tb (mM ops i) q with
    | false=>rfl
    | true=>exact absurd (c.maskIn k.closed i q hi hd hb) hlq
   obtain⟨e,h4,h5⟩:=hjs _ ((jvj ha g2).2 ⟨a1,hb⟩)
   rw[jbj E g2] at h4
   cases h4
   rcases h5 with h5 | h5
   .rw [g3] at h5;cases h5
   .rw [a2] at h5
    rw[←c.same q g1 (by omega) g4]
    exact h5
  .rw [←c.same i hge (by omega) (fun q h2 h3=>by
    cases hE:(E q).ld with
    | true=>rfl
    | false=>exact absurd ⟨q,h2,h3,hE⟩ hex)]
   exact h1
theorem FInv.step (hT:Tys P T) (hclk:qcu P A cl) (c:FCtx T π nt ops cl V H E F) (hlo:∀ i,i<=ops.size->(H i).lo=(H 0).lo) (k0:Rel A φ0 (H 0) w0) (hf:FrR A φ0 π (F 0) a0) (hnt:nt<=a0.tmps.size) (k:FInv A T π nt ops V H E φ0 a0 w0 L a w) (hi:i<ops.size) (hni:¬ L i)
 (hd:∀ e∈(jc1 ops i).after.toList,Region.binds .any e=true->L e.on) {Q:Exit->Act->World->Prop} :
 if Region.wanted (jc1 ops i) (yielded ops a.tmps)=true then (jc1 ops i).wp P a w (fun a' w'=>FInv A T π nt ops V H E φ0 a0 w0 (fun j=>L j∨j=i) a' w') Q
 else FInv A T π nt ops V H E φ0 a0 w0 (fun j=>L j∨j=i) (a.put (jc1 ops i).dst undef) w:=by
 obtain⟨φ,m,hm,hiff,st,rel,hval⟩:=k.heap
 obtain⟨op,g,b,hpO,hop,hgd,hds,hgo,hk,hF⟩:=c.run i hi
 have hE:=qdj c k hf hi hni hd (st.le k0) hval
 have hwant:Region.wanted (jc1 ops i) (yielded ops a.tmps)=b:=by
  refine jjk (φ:=φ) (A:=A) (loc:=jal (dD ops) i) (st:=jal V i) (k:=i) (fun j hj=>?_) (fun j d hj hjd=>?_) (fun j want d v hgj hjd hjv=>?_) hgd hgo
  .rw [jbj (dD ops) hj]
   have:ops[j]?=some (jc1 ops j):=by simp[jc1,f0n,show j<ops.size by omega]
   rw[this];rfl
  .rw [jbj (dD ops) hj] at hjd
   obtain⟨_,_,_,_,_,_,hds',_,_,_⟩:=c.run j (by omega)
   have:dD ops j=some d:=Option.some.inj hjd
   rw[this] at hds'
   have h2:Nat.ble (d+1) nt=true:=hds'
   exact f0m (f0g h2) (by rw[k.size];exact hnt)
  .have hg:=(c.opf i hi).grd
   rw[hgj] at hg
   have hji:=c.maskLt i j hi hg
   have hLj:=c.maskIn k.closed i j hi hd hg
   rw[jbj V hji] at hjv
   cases hjv
   have h3:=jiu hjd
   rw[jbj (dD ops) hji] at h3
   exact hval j d hLj (Option.some.inj h3)
 have iffq:(E i).ld=true->∀ q,q<ops.size->(E q).ld=false->((L q∨q=i)↔q<m):=fun he q hq hcq=>by
  rw[←hiff q hq hcq]
  refine⟨fun h=>h.elim id (fun e=>?_),.inl⟩
  subst e;rw[he] at hcq;cases hcq
 have quiet:∀ rv,cV A φ (V i) rv->(E i).ld=true->FInv A T π nt ops V H E φ0 a0 w0 (fun j=>L j∨j=i) (a.put (jc1 ops i).dst rv) w:=fun rv hrv he =>
  k.put c hi hni hd hnt hds (Phi.le_refl _) hval hrv hm (iffq he) st rel
 rw[hwant]
 cases hk with
 | skip e1 e2 e3 e4 e5 =>
  simp only[f0v,if_false]
  exact quiet undef (by rw[e1];rfl) e3
 | pure po e1 e2 e3 e4 e5 =>
  simp only[if_true]
  subst e1
  obtain⟨rv,hr,hcv⟩:=jkl (w:=w) hT hE hop e2
  exact jdd hr rfl (quiet rv hcv e4)
 | load e1 e2 e3 e4 e5 e6 e7 e8 =>
  simp only[if_true]
  have hrun:=k.load c hi hni hd hm hiff e1 e2 e4 e5 e6 e7 e8
  refine jiv (cl:=cl) hT hclk hE rel hop hrun _ (.inr rfl) (fun φ' rv w' s' r' hcv=>?_)
  have s'':Step (fun n=>(H 0).lo<=n) φ φ' (H m) (H m) w w':=by rw[hlo m hm] at s';exact s'
  exact k.put c hi hni hd hnt hds (s'.le rel) hval hcv hm (iffq e4) (st.trans s'') r'
 | chain e1 e2 e3 e4 e5 =>
  simp only[if_true]
  obtain⟨heq,hiff'⟩:=k.at c hi hni hd e2 hm hiff
  rw[←heq] at rel st
  refine jiv (cl:=cl) hT hclk hE rel hop e1 _ (.inr rfl) (fun φ' rv w' s' r' hcv=>?_)
  have s'':Step (fun n=>(H 0).lo<=n) φ φ' (H i) (H (i+1)) w w':=by rw[hlo i (by omega)] at s';exact s'
  exact k.put c hi hni hd hnt hds (s'.le rel) hval hcv (show i+1<=ops.size by omega) hiff' (st.trans s'') r'
theorem jq6 {cl:FuncId->List AV->Hp->R}:∀ (l:List (IOper×List Nat)) (n:Nat) (V0:Nat->AV) (H0:Nat->Hp) (E0:Nat->FE) (F0:Nat->List AV) (s:St),jm3 cl l (jal V0 n) (jal E0 n) (F0 n) (H0 n)=some s ->
 ∃ (V:Nat->AV) (H:Nat->Hp) (E:Nat->FE) (F:Nat->List AV),(∀ j,j<n->V j=V0 j/\E j=E0 j)/\(∀ j,j<=n->H j=H0 j/\F j=F0 j) /\
  (∀ (k:Nat) (dst:Option Nat) (op:IOp) (g:Option (Nat×Bool)) (m:List Nat),l[k]?=some (.mk dst op g,m)->jr4 cl (jal V (n+k)) (F (n+k)) (jal E (n+k)) (H (n+k)) op g m=some (V (n+k),H (n+k+1),E (n+k))/\F (n+k+1)=jcn (F (n+k)) dst (V (n+k))) /\
  s=.mk (F (n+l.length)) (H (n+l.length))
 | [],n,V0,H0,E0,F0,s,h=>⟨V0,H0,E0,F0,fun _ _=>⟨rfl,rfl⟩,fun _ _=>⟨rfl,rfl⟩,fun k dst op g m hk=>by simp at hk,(Option.some.inj (show some (St.mk (F0 n) (H0 n))=some s from h)).symm⟩
 | (.mk dst op g,m)::l,n,V0,H0,E0,F0,s,h=>by
  obtain⟨d,hd,h1⟩:=jaa.1 (show ob (jr4 cl (jal V0 n) (F0 n) (jal E0 n) (H0 n) op g m) (fun p=>jm3 cl l (p.1::jal V0 n) (p.2.2::jal E0 n) (jcn (F0 n) dst p.1) p.2.1)=some s from h)
  obtain⟨v,h',e⟩:=d
  have e1:jal (fun j=>if j=n then v else V0 j) (n+1)=v::jal V0 n:=by
   simp only[jal,if_true]
   rw[jcq n (fun j hj=>by rw[if_neg (by omega)])]
  have e2:jal (fun j=>if j=n then e else E0 j) (n+1)=e::jal E0 n:=by
   simp only[jal,if_true]
   rw[jcq n (fun j hj=>by rw[if_neg (by omega)])]
  obtain⟨V,H,E,F,p1,p2,p3,p4⟩:=jq6 l (n+1) (fun j=>if j=n then v else V0 j) (fun j=>if j=n+1 then h' else H0 j) (fun j=>if j=n then e else E0 j) (fun j=>if j=n+1 then jcn (F0 n) dst v else F0 j) s (by
   rw[e1,e2]
   simp only[if_true]
   exact h1)
  refine⟨V,H,E,F,fun j hj=>?_,fun j hj=>?_,fun k dst' op' g' m' hk=>?_,?_⟩
  .obtain ⟨q1,q2⟩:=p1 j (by omega)
   rw[q1,q2,if_neg (by omega),if_neg (by omega)]
   exact⟨rfl,rfl⟩
  .obtain ⟨q1,q2⟩:=p2 j (by omega)
   rw[q1,q2,if_neg (by omega),if_neg (by omega)]
   exact⟨rfl,rfl⟩
  .cases k with
   | zero =>
    simp only[f1a,Option.some.injEq,Prod.mk.injEq,IOper.mk.injEq] at hk
    obtain⟨⟨rfl,rfl,rfl⟩,rfl⟩:=hk
    have r1:=(p1 n (by omega)).1
    have r2:=(p1 n (by omega)).2
    have r3:=(p2 (n+1) (by omega)).1
    have r4:=(p2 (n+1) (by omega)).2
    have r5:=(p2 n (by omega)).1
    have r6:=(p2 n (by omega)).2
    simp only[if_true] at r1 r2 r3 r4
    rw[if_neg (by omega)] at r5 r6
    have r7:jal V n=jal V0 n:=jcq n (fun j hj=>by rw[(p1 j (by omega)).1,if_neg (by omega)])
    have r8:jal E n=jal E0 n:=jcq n (fun j hj=>by rw[(p1 j (by omega)).2,if_neg (by omega)])
    simp only[f1i]
    rw[r1,r2,r3,r4,r5,r6,r7,r8]
    exact⟨hd,rfl⟩
   | succ k =>
    have:=p3 k dst' op' g' m' (by simpa using hk)
    rw[show n+1+k=n+(k+1) by omega] at this
    exact this
  .rw [p4]
   simp only[f00]
   rw[show n+1+l.length=n+(l.length+1) by omega]
theorem j5q {op:IOp} {g:Option (Nat×Bool)} (hop:pO T π nt ops i=.mk (jfx π (dD ops i)) op g) (h:jr4 cl (jal V i) (F i) (jal E i) (H i) op g (jsO T π nt ops i)=some (V i,H (i+1),E i)) :
 ∃ b,j6i (jal V i) g=some b/\FKind T π nt ops cl V H E F i op b:=by
 obtain⟨b,hb,h1⟩:=jaa.1 h
 refine⟨b,hb,?_⟩
 have ha:aO T π nt ops i=jth (.mk (jfx π (dD ops i)) op g):=by unfold aO;rw[hop]
 cases b with
 | false =>
  have h2:some (AV.undef,H i,FE.mk true (fun _=>some .undef) (H i) .undef)=some (V i,H (i+1),E i):=h1
  simp only[Option.some.injEq,Prod.mk.injEq] at h2
  obtain⟨h3,h4,h5⟩:=h2
  exact .skip h3.symm h4.symm (by rw[←h5]) (fun h=>by rw[←h5,←h3]) (by rw[←h5,←h3])
 | true =>
  obtain⟨p,hp,h2⟩:=jaa.1 (show jn0 cl (jal V i) (F i) (jal E i) (H i) op (jsO T π nt ops i)=some (V i,H (i+1),E i) from h1)
  obtain⟨v,h'⟩:=p
  cases op with
  | p po =>
   have h3:some (v,H i,FE.mk true (fun _=>some v) (H i) v)=some (V i,H (i+1),E i):=h2
   simp only[Option.some.injEq,Prod.mk.injEq] at h3
   obtain⟨h4,h5,h6⟩:=h3
   obtain⟨v',hv',h7⟩:=jaa.1 (show ob (pop (jal V i) (F i) po) (fun v=>ok v (H i))=some (v,h') from hp)
   cases h7
   exact .pure po rfl (by rw[←h4];exact hv') h5.symm (by rw[←h6]) (by rw[ha];rfl)
  | a ao =>
   cases hl:j09 (.a ao) with
   | true =>
    rw[hl] at h2
    obtain⟨h3,h4⟩:=jab.1 (show oif (jxx (fun e=>oif e.ld true (j1a (ob (iop cl (jal V i) (F i) e.h (.a ao)) (fun q=>some q.1)) v)) (jal E i) (jsO T π nt ops i)) (some (v,H i,FE.mk true (fun h'=>ob (iop cl (jal V i) (F i) h' (.a ao)) (fun q=>some q.1)) (H i) v)) none=some (V i,H (i+1),E i) from h2)
    simp only[Option.some.injEq,Prod.mk.injEq] at h4
    obtain⟨h5,h6,h7⟩:=h4
    obtain rfl:=jq5 hl hp
    refine .load hl (by rw[←h5];exact hp) h6.symm (by rw[←h7]) (by rw[←h7,←h5]) (fun h=>by rw[←h7]) (by rw[ha];rfl) (fun j hj=>?_)
    obtain⟨e,h8,h9⟩:=jq4 h3 j hj
    refine⟨e,h8,?_⟩
    rw[jap] at h9
    split at h9
    .rename_i h10;exact .inl h10
    .obtain ⟨q,hq,h10⟩:=jaa.1 (jxz h9)
     obtain⟨v2,h2'⟩:=q
     obtain rfl:=jq5 hl hq
     cases h10
     exact .inr (by rw[←h5];exact hq)
   | false =>
    rw[hl] at h2
    obtain⟨h3,h4⟩:=jab.1 (show oif (jxx (fun e=>oif e.ld (j1a (e.ev h') e.v) false) (jal E i) (jsO T π nt ops i)) (some (v,h',FE.mk false (fun _=>none) (H i) .undef)) none=some (V i,H (i+1),E i) from h2)
    simp only[Option.some.injEq,Prod.mk.injEq] at h4
    obtain⟨h5,h6,h7⟩:=h4
    refine .chain (by rw[←h5,←h6];exact hp) (by rw[←h7]) (by rw[←h7]) (by rw[ha];rfl) (fun j hj=>?_)
    obtain⟨e,h8,h9⟩:=jq4 h3 j hj
    refine⟨e,h8,?_⟩
    rw[jap] at h9
    split at h9
    .rename_i h10;exact⟨h10,by rw[←h6];exact jxz h9⟩
    .cases h9
theorem j87 (hmix:P.follows .mixedOrders=true) (hT:Tys P T) (hclk:qcu P A cl) (hcla:jkq cl) {l:List (IOper×List Nat)} (hc:qsr T π nt ops.toList=some l) {s:St} (hr:jm3 cl l [] [] fr h=some s)
 (k:Rel A φ0 h w) (hf:FrR A φ0 π fr a) (hnt:nt<=a.tmps.size) {id:Nat} {Q:Exit->Act->World->Prop}
 (hQ:∀ φ' fr' h' a' w',s=.mk fr' h'->Step (fun n=>h.lo<=n) φ0 φ' h h' w w'->Rel A φ' h' w'->FrR A φ' π fr' a'->a'.defers=a.defers->a'.tmps.size=a.tmps.size->Q .normal a' w') :
 (Code.region id ops true).wp P Q a w:=by
 obtain⟨hlen,hspec⟩:=j85 hc
 obtain⟨V,H,E,F,_,p2,p3,p4⟩:=jq6 l 0 (fun _=>.undef) (fun _=>h) (fun _=>.mk true (fun _=>none) h .undef) (fun _=>fr) s hr
 have hH0:H 0=h:=(p2 0 (f0d _)).1
 have hF0:F 0=fr:=(p2 0 (f0d _)).2
 have c:FCtx T π nt ops cl V H E F:=by
  refine⟨fun i hi=>(hspec i hi).1,fun i hi=>?_⟩
  obtain⟨ho,hl⟩:=hspec i hi
  obtain⟨hds,op,g,e1,e2,e3⟩:=jl9 ho.oper
  have hl':l[i]?=some (.mk (jfx π (dD ops i)) op g,jsO T π nt ops i):=by rw[hl,e1];rfl
  have:=p3 i _ op g _ hl'
  rw[f0z] at this
  obtain⟨b,hb,hk⟩:=j5q e1 this.1
  exact⟨op,g,b,e1,e2,e3,hds,hb,hk,this.2⟩
 have wfs:∀ i,i<=ops.size->WF (H i)/\(H i).lo=(H 0).lo:=by
  intro i
  induction i with
  | zero=>intro _;exact⟨by rw[hH0];exact k.wf,rfl⟩
  | succ i ih =>
   intro hi
   obtain⟨h1,h2⟩:=ih (by omega)
   obtain⟨op,g,b,_,_,_,_,_,hk,_⟩:=c.run i (by omega)
   cases hk with
   | skip _ e _ _ _=>rw[e];exact⟨h1,h2⟩
   | pure _ _ _ e _ _=>rw[e];exact⟨h1,h2⟩
   | load _ _ e _ _ _ _ _=>rw[e];exact⟨h1,h2⟩
   | chain e _ _ _ _ =>
    have a:=(jew h1 hcla e).2
    exact⟨a.wf,a.lo.trans h2⟩
 have k1:Rel A φ0 (H 0) { w with drawn:=w.drawn+1 }:=by rw[hH0];exact k.heap rfl
 have opAt_of:∀ (i:Nat) o,ops[i]?=some o->i<ops.size/\jc1 ops i=o:=fun i o ho =>
  ⟨(f05.1 ho).1,by simp[jc1,f0n,ho]⟩
 refine jja hmix (fun L a' w'=>FInv A T π nt ops V H E φ0 a { w with drawn:=w.drawn+1 } L a' w') ?_ ?_ ?_ ?_
 .intro i o ho e he hb
  obtain⟨hi,rfl⟩:=opAt_of i o ho
  exact c.back hi (by simpa using he) hb
 .refine ⟨fun _ h=>h.elim,fun _ _ h=>h.elim,rfl,rfl,fun _ _=>rfl,φ0,0,f14 _,fun q _ _=>⟨fun h=>h.elim,fun h=>by omega⟩,Step.refl _ k1 rfl rfl rfl rfl,k1,fun _ _ h=>h.elim⟩
 .intro L a' w' i o hI hni ho hdeps
  obtain⟨hi,rfl⟩:=opAt_of i o ho
  exact hI.step hT hclk c (fun i hi=>(wfs i hi).2) k1 (by rw[hF0];exact hf) hnt hi hni (fun e he hb=>hdeps e (by simpa using he) hb)
 .intro L a' w' hI hall
  obtain⟨φ,m,hm,hiff,st,r,hval⟩:=hI.heap
  have heq:H ops.size=H m:=c.same ops.size hm (f0d _) (fun q h1 h2=>by
   cases hE:(E q).ld with
   | true=>rfl
   | false=>have:=(hiff q h2 hE).1 (hall q h2);omega)
  rw[←heq] at st r
  rw[hH0] at st
  have st0:Step (fun n=>h.lo<=n) φ0 φ0 h h w { w with drawn:=w.drawn+1 }:=Step.refl _ k rfl rfl rfl rfl
  refine hQ φ (F ops.size) (H ops.size) a' w' ?_ (st0.trans st) r ?_ hI.defers hI.size
  .rw [p4,hlen,f0z]
  .intro t j v hj hv
   by_cases hex:∃ i,i<ops.size/\dD ops i=some t
   .obtain ⟨i,hi,hdi⟩:=hex
    have later:∀ m,i+1<=m->m<=ops.size->(F m)[j]?=(F (i+1))[j]?:=by
     intro m
     induction m with
     | zero=>intro h _;omega
     | succ m ih =>
      intro h1 h2
      rcases f0h i m with h3 | h3
      .rw [←ih (by omega) (by omega)]
       obtain⟨_,_,_,_,_,_,_,_,_,h6⟩:=c.run m (by omega)
       rw[h6]
       cases hd:dD ops m with
       | none=>rfl
       | some d =>
        have hne:d≠t:=fun e=>by subst e;exact c.distinct (show m<ops.size by omega) h3 hd hdi
        cases hcd:jfx π (some d) with
        | none=>rfl
        | some j' =>
         have hj':idx d π 0=some j':=hcd
         show(jr8 (F m) j' (V m))[j]?=_
         rw[jgj]
         have:j'≠j:=by
          rintro rfl
          have h1:=jcp hj
          rw[jcp hj'] at h1
          cases h1
          exact hne rfl
         rw[f1s this]
      .obtain rfl:i=m:=by omega
       rfl
    rw[later ops.size (by omega) (f0d _)] at hv
    obtain⟨_,_,_,_,_,_,_,_,_,h6⟩:=c.run i hi
    rw[h6,hdi] at hv
    have hcd:jfx π (some t)=some j:=hj
    rw[hcd] at hv
    have hv':(jr8 (F i) j (V i))[j]?=some v:=hv
    rw[jgj,f24] at hv'
    simp only[if_true] at hv'
    split at hv'
    .cases hv'
     exact hval i t (hall i hi) hdi
    .cases hv'
   .have hno:∀ i,i<ops.size->dD ops i≠some t:=fun i hi e=>hex ⟨i,hi,e⟩
    rw[c.frame hj ops.size (f0d _) hno,hF0] at hv
    have:=hf t j v hj hv
    rw[hI.slots t (fun i hi _=>hno i hi)]
    exact this.mono (st0.trans st |>.le k)
end
end
end Go.Proofs.YtdbklpgagdbpiaaDoor.Ev
