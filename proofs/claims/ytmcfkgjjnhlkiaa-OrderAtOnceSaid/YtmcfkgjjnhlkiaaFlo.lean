/- A region that draws its order, in which all that touch memory stand in one order, but for loads: a load's value is looked at wherever it may come. No program in sight. -/
import Derived.Test.YtmcfkgjjnhlkiaaIso
namespace Go.Proofs.Ytmcfkgjjnhlkiaa.Ev
noncomputable section
open Go
set_option linter.all false
variable {d i j m:Nat}
def j63 (x y:SV):Bool :=
 SV.casesOn (motive_1:=fun _=>Bool) x (fun _=>eqS 9 x y) (fun _ _=>eqS 9 x y) (fun _=>eqS 9 x y)
  (fun b o=>SV.casesOn (motive_1:=fun _=>Bool) y (fun _=>false) (fun _ _=>false) (fun _=>false) (fun b' o'=>oif (Nat.beq b b') (Nat.beq o o') false) false (fun _ _ _ _ _ _=>false) false (fun _ _=>false) false false (fun _=>false) (fun _=>false) (fun _=>false) (fun _=>false) false)
  (eqS 9 x y)
  (fun b o n m e z=>SV.casesOn (motive_1:=fun _=>Bool) y (fun _=>false) (fun _ _=>false) (fun _=>false) (fun _ _=>false) false (fun b' o' n' m' e' z'=>oif (Nat.beq b b') (oif (Nat.beq o o') (oif (Nat.beq n n') (oif (Nat.beq m m') (oif (j62 e e') (Nat.beq z z') false) false) false) false) false) false (fun _ _=>false) false false (fun _=>false) (fun _=>false) (fun _=>false) (fun _=>false) false)
  (eqS 9 x y) (fun _ _=>false) (eqS 9 x y) (eqS 9 x y) (fun _=>false) (fun _=>eqS 9 x y) (fun _=>eqS 9 x y) (fun _=>false) false
def j89 (p q:Bool×List SV):Bool:=oif (j62 p.1 q.1) (eqL j63 p.2 q.2) false
def eqN (x y:AV):Bool :=
 AV.casesOn (motive:=fun _=>Bool) x
  (fun a=>AV.casesOn (motive:=fun _=>Bool) y (fun b=>j63 a b) (fun _=>false) (fun _=>false) false false)
  (fun a=>AV.casesOn (motive:=fun _=>Bool) y (fun _=>false) (fun b=>eqL j63 a b) (fun _=>false) false false)
  (fun a=>AV.casesOn (motive:=fun _=>Bool) y (fun _=>false) (fun _=>false) (fun b=>eqL j89 a b) false false)
  (AV.casesOn (motive:=fun _=>Bool) y (fun _=>false) (fun _=>false) (fun _=>false) true false) false
structure FE where
 ld:Bool
 ev:Hp->Option AV
 h:Hp
 v:AV
def jv8 (op:IOp):Bool:=IOp.casesOn (motive:=fun _=>Bool) op (fun _=>false) (fun o=>AO.casesOn (motive:=fun _=>Bool) o (fun _ _=>false) (fun _ _=>false) (fun _ _ _ _ _=>false) (fun _ _ _ _ _ _=>false)
 (fun _ _ _=>true) (fun _ _ _=>false) (fun _ _=>false) (fun _ _=>false) (fun _ _ _ _ _=>false) (fun _ _ _=>false) (fun _ _=>false) (fun _=>false) (fun _ _ _ _ _ _=>false) (fun _ _ _ _ _=>false) (fun _ _ _=>false) (fun _ _=>false) (fun _ _ _=>false) (fun _ _ _=>false) false)
def j4d (o:Option AV) (v:AV):Bool:=Option.rec (motive:=fun _=>Bool) false (fun x=>eqN x v) o
def j5d (p:FE->Bool) (es:List FE) (js:List Nat):Bool:=List.rec (motive:=fun _=>Bool) true (fun j _ ih=>Option.rec (motive:=fun _=>Bool) false (fun e=>oif (p e) ih false) (jc5 es j)) js
def jp2 (cl:FuncId->List AV->Hp->R) (st fr:List AV) (es:List FE) (h:Hp) (op:IOp) (js:List Nat):Option (AV×Hp×FE) :=
 ob (iop cl st fr h op) (fun p=>Bool.rec (motive:=fun _=>Option (AV×Hp×FE))
  (IOp.casesOn (motive:=fun _=>Option (AV×Hp×FE)) op (fun _=>some (p.1,h,.mk true (fun _=>some p.1) h p.1))
   (fun _=>oif (j5d (fun e=>oif e.ld (j4d (e.ev p.2) e.v) false) es js) (some (p.1,p.2,.mk false (fun _=>none) h .undef)) none))
  (oif (j5d (fun e=>oif e.ld true (j4d (ob (iop cl st fr e.h op) (fun q=>some q.1)) p.1)) es js) (some (p.1,h,.mk true (fun h'=>ob (iop cl st fr h' op) (fun q=>some q.1)) h p.1)) none) (jv8 op))
def jv9 (cl:FuncId->List AV->Hp->R) (st fr:List AV) (es:List FE) (h:Hp) (op:IOp) (g:Option (Nat×Bool)) (js:List Nat):Option (AV×Hp×FE) :=
 ob (jy9 st g) (fun b=>Bool.rec (motive:=fun _=>Option (AV×Hp×FE)) (some (.undef,h,.mk true (fun _=>some .undef) h .undef)) (jp2 cl st fr es h op js) b)
def jul (cl:FuncId->List AV->Hp->R) (l:List (IOper×List Nat)):List AV->List FE->List AV->Hp->Option St :=
 List.rec (motive:=fun _=>List AV->List FE->List AV->Hp->Option St) (fun _ _ fr h=>some (.mk fr h))
  (fun o _ ih st es fr h=>IOper.casesOn (motive:=fun _=>Option St) o.1 (fun dst op g=>ob (jv9 cl st fr es h op g o.2) (fun p=>ih (p.1::st) (p.2.2::es) (jbc fr dst p.1) p.2.1))) l
def j5e:Nat->List (IOper×Bool×Nat)->List (IOper×List Nat)
 | _,[]=>[]
 | k,(op,act,un)::r=>(op,bif act then jfh un k 0 else [])::j5e (k+1) r
def j9a (T:Tr TI) (π:List Nat) (nt:Nat) (ops:List Oper):Option (List (IOper×List Nat)):=(j4z T π nt [] [] [] 0 0 ops).map (j5e 0)
def j5f:List Bool->List (IOper×List Nat)->Bool
 | _,[]=>true
 | fs,(.mk _ op _,js)::r=>(jv8 op||js.all (fun j=>fs.getD j false))&&j5f (jv8 op::fs) r
section
variable {P:Program} {A:Nat->Int} {T:Tr TI} {π:List Nat} {nt:Nat} {ops:Array Oper} {cl:FuncId->List AV->Hp->R} {V:Nat->AV} {H:Nat->Hp} {E:Nat->FE} {F:Nat->List AV}
 {φ φ0:Phi} {w w0:World} {L:Nat->Prop} {a a0:Act}
def jsO (T:Tr TI) (π:List Nat) (nt:Nat) (ops:Array Oper) (i:Nat):List Nat:=bif aO T π nt ops i then jfh (unO T π nt ops i) i 0 else []
theorem jm6 (hi:aO T π nt ops i=true) (hj:j<i):(i - 1 - j)∈jsO T π nt ops i↔(aO T π nt ops j=true/\tb (mM ops i) j=false):=by
 unfold jsO
 rw[hi,cond_true,jg2]
 constructor
 .rintro ⟨o,h1,h2,h3⟩
  have e:i - 1 - o=j:=by omega
  rw[e,jgh] at h3
  simp only[f0n,decide_eq_true_eq,f1s] at h3
  exact⟨h3.1.2,h3.2⟩
 .rintro ⟨h1,h2⟩
  refine⟨i - 1 - j,by omega,by omega,?_⟩
  have e:i - 1 - (i - 1 - j)=j:=by omega
  rw[e,jgh,h1,h2]
  simp[hj]
theorem jwa {op:IOp} (h:jv8 op=true):∃ n agg y,op=.a (.load n agg y):=by
 cases op with
 | p _=>cases h
 | a o=>cases o<;>first | exact⟨_,_,_,rfl⟩ | cases h
theorem jwb {st fr:List AV} {h h':Hp} {op:IOp} (hl:jv8 op=true) {v:AV} (hv:iop cl st fr h op=some (v,h')):h'=h:=by
 obtain⟨n,agg,y,rfl⟩:=jwa hl
 obtain⟨u,hu,h1⟩:=jaa.1 (show ob (ev st fr y) (fun v=>jcu v (fun b o=>ob (rd h b o n) (fun cs=>ob (jcv agg cs) (fun v=>ok v h))) (fun cs=>ob (ja5 n cs) (fun cs=>ob (jcv agg cs) (fun v=>ok v h))))=some (v,h') from hv)
 rcases jbl h1 with⟨b,o,rfl,h2⟩ | ⟨cs,rfl,h2⟩
 .obtain ⟨cs,_,h3⟩:=jaa.1 h2
  obtain⟨_,_,h4⟩:=jaa.1 h3
  cases h4;rfl
 .obtain ⟨cs,_,h3⟩:=jaa.1 h2
  obtain⟨_,_,h4⟩:=jaa.1 h3
  cases h4;rfl
inductive FKind (T:Tr TI) (π:List Nat) (nt:Nat) (ops:Array Oper) (cl:FuncId->List AV->Hp->R) (V:Nat->AV) (H:Nat->Hp) (E:Nat->FE) (F:Nat->List AV) (i:Nat) (op:IOp):Bool->Prop where
 | skip:V i=.undef->H (i+1)=H i->(E i).ld=true->(∀ h,(E i).ev h=some (V i))->(E i).v=V i->FKind T π nt ops cl V H E F i op false
 | pure (po:PO):op=.p po->pop (jae V i) (F i) po=some (V i)->H (i+1)=H i->(E i).ld=true->aO T π nt ops i=false->FKind T π nt ops cl V H E F i op true
 | load:jv8 op=true->iop cl (jae V i) (F i) (H i) op=some (V i,H i)->H (i+1)=H i->(E i).ld=true->(E i).v=V i->(∀ h,(E i).ev h=ob (iop cl (jae V i) (F i) h op) (fun q=>some q.1))->aO T π nt ops i=true ->
  (∀ j∈jsO T π nt ops i,∃ e,(jae E i)[j]?=some e/\(e.ld=true∨iop cl (jae V i) (F i) e.h op=some (V i,e.h)))->FKind T π nt ops cl V H E F i op true
 | chain:iop cl (jae V i) (F i) (H i) op=some (V i,H (i+1))->(E i).ld=false->(E i).h=H i->aO T π nt ops i=true ->
  (∀ j∈jsO T π nt ops i,∃ e,(jae E i)[j]?=some e/\e.ld=true/\e.ev (H (i+1))=some e.v)->FKind T π nt ops cl V H E F i op true
structure FCtx (T:Tr TI) (π:List Nat) (nt:Nat) (ops:Array Oper) (cl:FuncId->List AV->Hp->R) (V:Nat->AV) (H:Nat->Hp) (E:Nat->FE) (F:Nat->List AV):Prop where
 opf:∀ i,i<ops.size->OpF T π nt ops i
 run:∀ i,i<ops.size->∃ op g b,pO T π nt ops i=.mk (jdu π (dD ops i)) op g/\cOp T π (jae (dD ops) i) (jby ops i).op=some op/\ji0 (jae (dD ops) i) i (jby ops i).guard=some g/\jfo nt (dD ops i)=true/\jy9 (jae V i) g=some b/\FKind T π nt ops cl V H E F i op b/\F (i+1)=jbc (F i) (jdu π (dD ops i)) (V i)
theorem FCtx.maskDep (c:FCtx T π nt ops cl V H E F) (hi:i<ops.size) (h:tb (mM ops i) j=true) :
 ∃ e∈(jby ops i).after.toList,Region.binds .any e=true/\e.on<i/\(j=e.on∨tb (mM ops e.on) j=true):=by
 obtain⟨h1,h2⟩:=jcs (c.opf i hi).msk
 rcases(h2 j).1 h with h3 | ⟨e,h3,h4,h5⟩
 .rw [jmz] at h3;cases h3
 .have hlt:=h1 e h3 h4
  refine⟨e,h3,h4,hlt,?_⟩
  rcases h5 with h5 | ⟨m',h5,h6⟩
  .exact .inl h5
  .rw [jat (mM ops) hlt] at h5
   cases h5
   exact .inr h6
theorem FCtx.back (c:FCtx T π nt ops cl V H E F) (hi:i<ops.size) {e:Edge} (he:e∈(jby ops i).after.toList) (hb:Region.binds .any e=true):e.on<i :=
 (jcs (c.opf i hi).msk).1 e he hb
theorem FCtx.maskIn (c:FCtx T π nt ops cl V H E F) {L:Nat->Prop} (hL:jl3 ops L):∀ (i j:Nat),i<ops.size->(∀ e∈(jby ops i).after.toList,Region.binds .any e=true->L e.on)->tb (mM ops i) j=true->L j:=by
 intro i
 induction i using Nat.strongRecOn with
 | _ i ih =>
  intro j hi hd h
  obtain⟨e,h1,h2,h3,h4⟩:=c.maskDep hi h
  rcases h4 with rfl | h4
  .exact hd e h1 h2
  .exact ih e.on h3 j (by omega) (hL e.on (by omega) (hd e h1 h2)) h4
theorem jtj:∀ (l:List (Option Nat)) (k:Nat),l[k]?=some (some d)->∃ q,jh3 d l 0=some q
 | [],k,h=>by simp at h
 | x::l,k,h=>by
  rw[jcg]
  by_cases e:x=some d
  .exact ⟨0,by rw[if_pos e]⟩
  .rw [if_neg e]
   cases k with
   | zero=>simp at h;exact absurd h e
   | succ k =>
    obtain⟨q,hq⟩:=jtj l k (by simpa using h)
    exact⟨q+1,by rw[hq];rfl⟩
theorem FCtx.distinct (c:FCtx T π nt ops cl V H E F) (hi:i<ops.size) (hj:j<i) (hd:dD ops i=some d):dD ops j≠some d:=by
 intro h
 have h1:=(c.opf i hi).fresh
 rw[hd] at h1
 simp only[jph] at h1
 have h2:=jat (dD ops) hj
 rw[h] at h2
 obtain⟨q,hq⟩:=jtj _ _ h2
 rw[hq] at h1
 cases h1
theorem FCtx.same (c:FCtx T π nt ops cl V H E F):∀ n,m<=n->n<=ops.size->(∀ k,m<=k->k<n->(E k).ld=true)->H n=H m
 | 0,h1,_,_=>by obtain rfl:m=0:=by omega
                rfl
 | n+1,h1,h2,h=>by
  rcases f0d n m with h3 | h3
  .obtain rfl:m=n+1:=by omega
   rfl
  .rw [←FCtx.same c n h3 (by omega) (fun k a b=>h k a (by omega))]
   obtain⟨op,g,b,_,_,_,_,_,hk,_⟩:=c.run n (by omega)
   have hn:=h n h3 (by omega)
   cases hk with
   | skip _ e _ _ _=>exact e
   | pure _ _ _ e _ _=>exact e
   | load _ _ e _ _ _ _ _=>exact e
   | chain _ e _ _ _=>rw[hn] at e;cases e
theorem FCtx.chainAct (c:FCtx T π nt ops cl V H E F) {k:Nat} (hk:k<ops.size) (h:(E k).ld=false):aO T π nt ops k=true/\(E k).h=H k/\∀ j∈jsO T π nt ops k,∃ e,(jae E k)[j]?=some e/\e.ld=true/\e.ev (H (k+1))=some e.v:=by
 obtain⟨op,g,b,_,_,_,_,_,hk',_⟩:=c.run k hk
 cases hk' with
 | skip _ _ e _ _=>rw[h] at e;cases e
 | pure _ _ _ _ e _=>rw[h] at e;cases e
 | load _ _ _ e _ _ _ _=>rw[h] at e;cases e
 | chain _ _ e1 e2 e3=>exact⟨e2,e1,e3⟩
structure FInv (A:Nat->Int) (T:Tr TI) (π:List Nat) (nt:Nat) (ops:Array Oper) (V:Nat->AV) (H:Nat->Hp) (E:Nat->FE) (φ0:Phi) (a0:Act) (w0:World) (L:Nat->Prop) (a:Act) (w:World):Prop where
 lt:∀ k,L k->k<ops.size
 closed:jl3 ops L
 defers:a.defers=a0.defers
 size:a.tmps.size=a0.tmps.size
 slots:∀ t,(∀ j,j<ops.size->L j->dD ops j≠some t)->a.tmps.getD t undef=a0.tmps.getD t undef
 heap:∃ φ m,m<=ops.size/\(∀ k,k<ops.size->(E k).ld=false->(L k↔k<m))/\Step (fun n=>(H 0).lo<=n) φ0 φ (H 0) (H m) w0 w/\Rel A φ (H m) w/\∀ i d,L i->dD ops i=some d->cV A φ (V i) (a.tmps.getD d undef)
theorem FInv.put (c:FCtx T π nt ops cl V H E F) (k:FInv A T π nt ops V H E φ0 a0 w0 L a w) (hi:i<ops.size) (hni:¬ L i) (hd:∀ e∈(jby ops i).after.toList,Region.binds .any e=true->L e.on)
 (hnt:nt<=a0.tmps.size) (hds:jfo nt (dD ops i)=true) {φ φ':Phi} (hle:φ.le φ') (hval:∀ i d,L i->dD ops i=some d->cV A φ (V i) (a.tmps.getD d undef)) {rv:Value} {w':World} (hrv:cV A φ' (V i) rv) {m:Nat} (hm:m<=ops.size)
 (hiff:∀ k,k<ops.size->(E k).ld=false->((L k∨k=i)↔k<m)) (st:Step (fun n=>(H 0).lo<=n) φ0 φ' (H 0) (H m) w0 w') (r:Rel A φ' (H m) w') :
 FInv A T π nt ops V H E φ0 a0 w0 (fun j=>L j∨j=i) (a.put (jby ops i).dst rv) w':=by
 have hdst:∀ d,dD ops i=some d->d<a.tmps.size:=fun d h=>by
  rw[h] at hds
  have:Nat.ble (d+1) nt=true:=hds
  exact f0k (f0c this) (by rw[k.size];exact hnt)
 have get:∀ t,(a.put (jby ops i).dst rv).tmps.getD t undef=if dD ops i=some t then rv else a.tmps.getD t undef:=by
  intro t
  show(a.put (dD ops i) rv).tmps.getD t undef=_
  cases hdd:dD ops i with
  | none=>rfl
  | some d =>
   rw[jd2 (hdst d hdd)]
   by_cases e:t=d
   .subst e;simp
   .rw [if_neg e,if_neg (fun h=>e (by cases h;rfl))]
 refine⟨fun j hj=>?_,fun j hj hl e he hb=>?_,(jb9 _ _).trans k.defers,(jbb _ _).trans k.size,fun t ht=>?_,φ',m,hm,hiff,st,r,fun j d hj hdj=>?_⟩
 .rcases hj with hj | rfl
  .exact k.lt j hj
  .exact hi
 .rcases hl with hl | rfl
  .exact .inl (k.closed j hj hl e he hb)
  .exact .inl (hd e he hb)
 .rw [get t,if_neg (ht i hi (.inr rfl))]
  exact k.slots t (fun j hj hl=>ht j hj (.inl hl))
 .rw [get d]
  rcases hj with hj | rfl
  .have hne:dD ops i≠some d:=by
    intro h
    have hji:j≠i:=fun e=>by subst e;exact hni hj
    rcases Nat.lt_or_gt_of_ne hji with h1 | h1
    .exact c.distinct hi h1 h hdj
    .exact c.distinct (k.lt j hj) h1 hdj h
   rw[if_neg hne]
   exact(hval j d hj hdj).mono hle
  .rw [if_pos hdj]
   exact hrv
theorem FInv.at (c:FCtx T π nt ops cl V H E F) (k:FInv A T π nt ops V H E φ0 a0 w0 L a w) (hi:i<ops.size) (hni:¬ L i) (hd:∀ e∈(jby ops i).after.toList,Region.binds .any e=true->L e.on) (hch:(E i).ld=false) (hm:m<=ops.size)
 (hiff:∀ k,k<ops.size->(E k).ld=false->(L k↔k<m)):H i=H m/\∀ k,k<ops.size->(E k).ld=false->((L k∨k=i)↔k<i+1):=by
 have before:∀ j,j<i->(E j).ld=false->L j:=fun j hj hcj=>by
  cases hb:tb (mM ops i) j with
  | true=>exact c.maskIn k.closed i j hi hd hb
  | false =>
   exfalso
   obtain⟨_,_,h3⟩:=c.chainAct hi hch
   obtain⟨e,h4,h5,_⟩:=h3 _ ((jm6 (c.chainAct hi hch).1 hj).2 ⟨(c.chainAct (by omega) hcj).1,hb⟩)
   rw[jat E hj] at h4
   cases h4
   rw[hcj] at h5;cases h5
 have after:∀ j,j<ops.size->i<j->(E j).ld=false->¬ L j:=fun j hj hij hcj hl=>by
  cases hb:tb (mM ops j) i with
  | true=>exact hni (c.maskIn k.closed j i hj (k.closed j hj hl) hb)
  | false =>
   obtain⟨_,_,h3⟩:=c.chainAct hj hcj
   obtain⟨e,h4,h5,_⟩:=h3 _ ((jm6 (c.chainAct hj hcj).1 hij).2 ⟨(c.chainAct hi hch).1,hb⟩)
   rw[jat E hij] at h4
   cases h4
   rw[hch] at h5;cases h5
 refine⟨?_,fun q hq hcq=>⟨fun h=>?_,fun h=>?_⟩⟩
 .rcases f0d i m with h1 | h1
  .exact absurd ((hiff i hi hch).2 h1) hni
  .refine c.same i h1 (by omega) (fun q h2 h3=>?_)
   cases hq:(E q).ld with
   | true=>rfl
   | false =>
    have:=(hiff q (by omega) hq).1 (before q h3 hq)
    omega
 .rcases h with h | rfl
  .rcases f0d i q with h1 | h1
   .exact absurd h (after q hq h1 hcq)
   .omega
  .omega
 .rcases f08.1 h with h1 | h1
  .exact .inl (before q h1 hcq)
  .exact .inr h1
theorem FInv.load (c:FCtx T π nt ops cl V H E F) (k:FInv A T π nt ops V H E φ0 a0 w0 L a w) (hi:i<ops.size) (hni:¬ L i) (hd:∀ e∈(jby ops i).after.toList,Region.binds .any e=true->L e.on) (hm:m<=ops.size)
 (hiff:∀ k,k<ops.size->(E k).ld=false->(L k↔k<m)) {op:IOp} (hld:jv8 op=true) (h1:iop cl (jae V i) (F i) (H i) op=some (V i,H i)) (he:(E i).ld=true) (hv:(E i).v=V i) (hev:∀ h,(E i).ev h=ob (iop cl (jae V i) (F i) h op) (fun q=>some q.1)) (ha:aO T π nt ops i=true)
 (hjs:∀ j∈jsO T π nt ops i,∃ e,(jae E i)[j]?=some e/\(e.ld=true∨iop cl (jae V i) (F i) e.h op=some (V i,e.h))):iop cl (jae V i) (F i) (H m) op=some (V i,H m):=by
 rcases f0d i m with hlt | hge
 ·
  by_cases hex:∃ q,i<=q/\q<m/\(E q).ld=false
  ·
   have last:∀ n,n<=m->(∃ q,i<=q/\q<n/\(E q).ld=false)->∃ q,i<=q/\q<n/\(E q).ld=false/\∀ r,q<r->r<n->(E r).ld=true:=by
    intro n
    induction n with
    | zero=>rintro _ ⟨q,_,h,_⟩;omega
    | succ n ih =>
     rintro hn ⟨q,h2,h3,h4⟩
     cases hE:(E n).ld with
     | false=>exact⟨n,by omega,by omega,hE,fun r h5 h6=>by omega⟩
     | true =>
      have hqn:q≠n:=fun e=>by subst e;rw[hE] at h4;cases h4
      obtain⟨q',g1,g2,g3,g4⟩:=ih (by omega) ⟨q,h2,by omega,h4⟩
      refine⟨q',g1,by omega,g3,fun r h5 h6=>?_⟩
      rcases f08.1 h6 with h7 | h7
      .exact g4 r h5 h7
      .subst h7;exact hE
   obtain⟨q,g1,g2,g3,g4⟩:=last m (f0b _) hex
   have hiq:i<q:=by
    rcases f0d i q with h | h
    .exact h
    .obtain rfl:i=q:=by omega
     rw[he] at g3;cases g3
   have hlq:=(hiff q (by omega) g3).2 g2
   obtain⟨a1,_,a3⟩:=c.chainAct (show q<ops.size by omega) g3
   have hb:tb (mM ops q) i=false:=by
    cases hb:tb (mM ops q) i with
    | false=>rfl
    | true=>exact absurd (c.maskIn k.closed q i (by omega) (k.closed q (by omega) hlq) hb) hni
   obtain⟨e,h4,_,h6⟩:=a3 _ ((jm6 a1 hiq).2 ⟨ha,hb⟩)
   rw[jat E hiq] at h4
   cases h4
   rw[hev,hv] at h6
   obtain⟨p,hp,h7⟩:=jaa.1 h6
   obtain⟨v,h'⟩:=p
   obtain rfl:=jwb hld hp
   cases h7
   rw[c.same m (show q+1<=m by omega) hm (fun r h8 h9=>g4 r (by omega) h9)]
   exact hp
  .rw [c.same m (Nat.le_of_lt hlt) hm (fun q h2 h3=>by
    cases hE:(E q).ld with
    | true=>rfl
    | false=>exact absurd ⟨q,h2,h3,hE⟩ hex)]
   exact h1
 .by_cases hex:∃ q,m<=q/\q<i/\(E q).ld=false
  ·
   have first:∀ d n,n+d=i->(∃ q,n<=q/\q<i/\(E q).ld=false)->∃ q,n<=q/\q<i/\(E q).ld=false/\∀ r,n<=r->r<q->(E r).ld=true:=by
    intro d
    induction d with
    | zero=>rintro n e ⟨q,h1,h2,_⟩;omega
    | succ d ih =>
     rintro n e ⟨q,h2,h3,h4⟩
     cases hE:(E n).ld with
     | false=>exact⟨n,f0b _,by omega,hE,fun r h5 h6=>by omega⟩
     | true =>
      have hqn:q≠n:=fun e=>by subst e;rw[hE] at h4;cases h4
      obtain⟨q',g1,g2,g3,g4⟩:=ih (n+1) (by omega) ⟨q,by omega,h3,h4⟩
      refine⟨q',by omega,g2,g3,fun r h5 h6=>?_⟩
      rcases f0d n r with h7 | h7
      .exact g4 r h7 h6
      .obtain rfl:r=n:=by omega
       exact hE
   obtain⟨q,g1,g2,g3,g4⟩:=first (i - m) m (by omega) hex
   have hlq:¬ L q:=fun h=>by have:=(hiff q (by omega) g3).1 h;omega
   obtain⟨a1,a2,_⟩:=c.chainAct (show q<ops.size by omega) g3
   have hb:tb (mM ops i) q=false:=by
    cases hb:tb (mM ops i) q with
    | false=>rfl
    | true=>exact absurd (c.maskIn k.closed i q hi hd hb) hlq
   obtain⟨e,h4,h5⟩:=hjs _ ((jm6 ha g2).2 ⟨a1,hb⟩)
   rw[jat E g2] at h4
   cases h4
   rcases h5 with h5 | h5
   .rw [g3] at h5;cases h5
   .rw [a2] at h5
    rw[←c.same q g1 (by omega) g4]
    exact h5
  .rw [←c.same i hge (by omega) (fun q h2 h3=>by
    cases hE:(E q).ld with
    | true=>rfl
    | false=>exact absurd ⟨q,h2,h3,hE⟩ hex)]
   exact h1
end
end
end Go.Proofs.Ytmcfkgjjnhlkiaa.Ev
