/- Calls from what names nothing of the heap to what names nothing of the heap. -/
import Derived.Test.YtkpadfebkaangaaGreatDoorRun
namespace Go.Proofs.YtkpadfebkaangaaGreatDoor.Ev
noncomputable section
open Go
set_option linter.all false
def jgb (f:SV->Option SV) (l:List SV):Option (List SV) :=
 List.rec (some []) (fun a _ ih=>ob (f a) (fun x=>ob ih (fun r=>some (x::r)))) l
def jox (sz:Nat) (n:Nat):List SV->Option (List (List SV)) :=
 Nat.rec (fun _=>some []) (fun _ ih l=>ob (jbp sz l) (fun a=>ob (ih (jb9 sz l)) (fun r=>some (a::r)))) n
def jfl (k:Bool) (h:Hp) (d:Nat):SV->Option SV :=
 Nat.rec (fun _=>none)
  (fun _ ih x=>SV.casesOn (motive_1:=fun _=>Option SV) x (fun b=>some (.bool b)) (fun k n=>some (.int k n)) (fun e=>some (.sym e)) (fun _ _=>none) (some .nilPtr)
   (fun b off len _ _ sz=>Nat.casesOn len (some (.lst [])) (fun _=>ob (rd h b off (Nat.mul len sz)) (fun cs=>ob (jgb ih cs) (fun cs=>ob (jox sz len cs) (fun rows=>some (.lst rows))))))
   (some .nilSlice) (fun _ _=>none) (some .nilFunc) (some .nilMap) (fun _=>none) (fun l=>some (.str l)) (fun rows=>Bool.rec (List.casesOn rows (some (.lst [])) (fun _ _=>none)) (some (.lst rows)) k) (fun _=>none) (some (.lst [])) (fun _=>none)) d
def qc6 (f:SV->Option SV) (l:List (Bool×List SV)):Option (List (Bool×List SV)) :=
 List.rec (some []) (fun p _ ih=>ob (jgb f p.2) (fun x=>ob ih (fun r=>some ((p.1,x)::r)))) l
def jf9 (k:Bool) (h:Hp) (d:Nat) (v:AV):Option AV :=
 AV.casesOn v (fun x=>ob (jfl k h d x) (fun y=>some (.s y))) (fun l=>ob (jgb (jfl k h d) l) (fun y=>some (.agg y))) (fun l=>ob (qc6 (jfl k h d) l) (fun y=>some (.tup y))) none none
def qpx (v:AV):Bool:=AV.casesOn v grd qc4 (fun _=>false) false false
def ji5 (l:List AV):Bool:=List.rec true (fun a _ ih=>oif (qpx a) ih false) l
section
variable {P:Program} {T:Tr TI} {A:Nat->Int} {F:Fns} {φ:Phi} {h h':Hp} {w w':World}
theorem j0n {f:SV->Option SV}:∀ {l r:List SV},jgb f l=some r->r.length=l.length/\∀ (i:Nat) (y:SV),r[i]?=some y->∃ x,l[i]?=some x/\f x=some y
 | [],r,h=>by cases h;simp
 | a::l,r,h=>by
  obtain⟨x,h1,h2⟩:=jaa.1 (show ob (f a) (fun x=>ob (jgb f l) fun r=>some (x::r))=some r from h)
  obtain⟨r',h3,h4⟩:=jaa.1 h2
  obtain⟨h5,h6⟩:=j0n h3
  grind
theorem jrf {sz:Nat}:∀ {n:Nat} {l:List SV} {rows:List (List SV)},jox sz n l=some rows->rows.length=n/\(∀ (i:Nat) (row:List SV),rows[i]?=some row->row.length=sz)/\∀ (i j:Nat) (row:List SV) (x:SV),rows[i]?=some row->row[j]?=some x->l[i*sz+j]?=some x
 | 0,l,rows,h=>by cases h;simp
 | n+1,l,rows,h=>by
  obtain⟨a,h1,h2⟩:=jaa.1 (show ob (jbp sz l) (fun a=>ob (jox sz n (jb9 sz l)) (fun r=>some (a::r)))=some rows from h)
  obtain⟨r,h3,h4⟩:=jaa.1 h2
  cases h4
  obtain⟨h5,rfl⟩:=(ja8 _).1 h1
  rw[jcb] at h3
  obtain⟨h6,h7,h8⟩:=jrf h3
  refine⟨by grind,fun i row hr=>?_,fun i j row x hr hx=>?_⟩
  .grind
  .cases i with
   | zero =>
    simp only[f1p,Option.some.injEq] at hr
    subst hr
    rw[f2d] at hx
    split at hx
    .rw [f2a,f1b];exact hx
    .cases hx
   | succ i =>
    have:=h8 i j row x (by simpa using hr) hx
    rw[f1h] at this
    rw[f29,←this]
    congr 1
    omega
theorem jrg {k:Bool} (r:Rel A φ h w) {K:Nat->Option (Array Value)} (hK:k=true->∀ b cs,φ.k b=some cs->K b=some cs) (hn:∀ n L c ty,(h.get n).isSome=true->φ n=some L->w.heap[L.b]?=some (.cells c ty (0,0))->K L.b=some c) :
 ∀ (d:Nat) (x y:SV) (v:Value),jfl k h d x=some y->cS A φ x v->cD A K y v
 | 0,x,y,v,hf,_=>by trivial
 | d+1,x,y,v,hf,hc=>by
  cases x with
  | bool b=>cases hf;cases hc;exact .bool b
  | int k n=>cases hf;cases hc;exact .int k n
  | sym e=>cases hf;cases hc;exact .sym e
  | nilPtr=>cases hf;cases hc;exact .nilPtr
  | nilSlice=>cases hf;cases hc;exact .nilSlice
  | nilFunc=>cases hf;cases hc;exact .nilFunc
  | nilMap=>cases hf;cases hc;exact .nilMap
  | str l=>cases hf;cases hc;exact .str l
  | lst rows =>
   cases k with
   | true=>cases hf;exact cD.mono (hK rfl) hc
   | false =>
    cases rows with
    | cons a r=>cases hf
    | nil =>
     cases hf
     obtain⟨ad,cap,rfl,_⟩:=jgv (show cD A φ.k (.lst []) v from hc)
     exact .lst0 ad cap
  | emp=>cases hf;obtain⟨ad,rfl⟩:=hc;exact .lst0 ad 0
  | slice b off len mc ex sz =>
   obtain⟨L,ad,cap,q1,rfl,q2,q3,q4,q5⟩:=hc
   cases len with
   | zero=>cases hf;exact .lst0 ad cap
   | succ len =>
    obtain⟨cs,hrd,h1⟩:=jaa.1 (show ob (rd h b off (Nat.mul (len+1) sz)) (fun cs=>ob (jgb (jfl k h d) cs) (fun cs=>ob (jox sz (len+1) cs) (fun rows=>some (.lst rows))))=some y from hf)
    obtain⟨cs',hfz,h2⟩:=jaa.1 h1
    obtain⟨rows,hrows,h3⟩:=jaa.1 h2
    cases h3
    obtain⟨cs0,ty,hg,rfl,hl⟩:=joc hrd
    obtain⟨L',c,e1,e2,e3,e4,e5⟩:=r.blk b _ hg
    rw[q1] at e1
    cases e1
    obtain⟨g1,g2,g3⟩:=jrf hrows
    obtain⟨f1,f2⟩:=j0n hfz
    have had:ad=⟨L.b,L.o+off,none⟩:=by
     rcases q5 with⟨h,_⟩ | h
     .exact h
     .omega
    subst had
    have key:∀ (i j:Nat),∃ u,∀ (row:List SV) (x:SV),rows[i]?=some row->row[j]?=some x->c[L.o+off+i*sz+j]?=some u/\cD A K x u:=fun i j=>by
     cases hr:rows[i]? with
     | none=>exact⟨undef,fun _ _ h=>by cases h⟩
     | some row =>
      cases hx:row[j]? with
      | none=>exact⟨undef,fun row' x h h'=>by cases h;rw[hx] at h';cases h'⟩
      | some x =>
       have h4:=g3 i j row x hr hx
       obtain⟨x0,h5,h6⟩:=f2 _ _ h4
       rw[f2d] at h5
       split at h5
       .rw [f1h] at h5
        obtain⟨u,h7,h8⟩:=e5 _ _ h5
        refine⟨u,fun row' x' h h'=>?_⟩
        cases h
        rw[hx] at h'
        cases h'
        exact⟨by rw[←h7];congr 1;omega,jrg r hK hn d x0 x u h6 h8⟩
       .cases h5
    rw[←g1]
    refine .lst rows L.b (L.o+off) cap sz c (fun i j=>Classical.choose (key i j)) (hn b L c ty (by rw[hg];rfl) q1 e2) oa g2 (fun i j row x hr hx=>?_) (fun i j row x hr hx=>?_)
    .exact (Classical.choose_spec (key i j) row x hr hx).1
    .exact (Classical.choose_spec (key i j) row x hr hx).2
  | _=>cases hf
theorem jlr {f:SV->Option SV} {R:SV->Value->Prop} {S:SV->Value->Prop} (hf:∀ x y v,f x=some y->S x v->R y v):∀ {l r:List SV} {vs:List Value},jgb f l=some r->All2 S l vs->All2 R r vs
 | [],r,vs,h,ha=>by cases h;cases ha;exact .nil
 | a::l,r,vs,h,ha=>by
  obtain⟨x,h1,h2⟩:=jaa.1 (show ob (f a) (fun x=>ob (jgb f l) fun r=>some (x::r))=some r from h)
  obtain⟨r',h3,h4⟩:=jaa.1 h2
  cases h4
  cases ha with
  | cons h5 h6=>exact .cons (hf _ _ _ h1 h5) (jlr hf h3 h6)
theorem jls {k:Bool} (r:Rel A φ h w) {ψ:Phi} (hK:k=true->∀ b cs,φ.k b=some cs->ψ.k b=some cs) (hn:∀ n L c ty,(h.get n).isSome=true->φ n=some L->w.heap[L.b]?=some (.cells c ty (0,0))->ψ.k L.b=some c)
 {d:Nat} {x y:AV} {v:Value} (hf:jf9 k h d x=some y) (hc:cV A φ x v):cV A ψ y v:=by
 have one:∀ x y v,jfl k h d x=some y->cS A φ x v->cS A ψ y v:=fun x y v h1 h2=>(jrg r hK hn d x y v h1 h2).toS
 cases x with
 | s x =>
  obtain⟨y',h1,h2⟩:=jaa.1 (show ob (jfl k h d x) (fun y=>some (AV.s y))=some y from hf)
  cases h2
  exact one _ _ _ h1 hc
 | agg l =>
  obtain⟨y',h1,h2⟩:=jaa.1 (show ob (jgb (jfl k h d) l) (fun y=>some (AV.agg y))=some y from hf)
  cases h2
  obtain⟨vs,rfl,ha⟩:=hc
  exact⟨vs,rfl,jlr one h1 ha⟩
 | tup l =>
  obtain⟨y',h1,h2⟩:=jaa.1 (show ob (qc6 (jfl k h d) l) (fun y=>some (AV.tup y))=some y from hf)
  cases h2
  obtain⟨vs,rfl,ha⟩:=hc
  refine⟨vs,rfl,?_⟩
  clear hf
  induction ha generalizing y' with
  | nil=>cases h1;exact .nil
  | @cons p x l vs hp _ ih =>
   obtain⟨q,h3,h4⟩:=jaa.1 (show ob (jgb (jfl k h d) p.2) (fun x=>ob (qc6 (jfl k h d) l) (fun r=>some ((p.1,x)::r)))=some y' from h1)
   obtain⟨r',h5,h6⟩:=jaa.1 h4
   cases h6
   refine .cons ?_ (ih _ h5)
   unfold cV1 at hp ⊢
   simp only
   split
   .rename_i hb
    rw[if_pos hb] at hp
    grind[jlr]
   .rename_i hb
    rw[if_neg hb] at hp
    obtain⟨z,hz,hcz⟩:=hp
    rw[hz] at h3
    obtain⟨z',h7,h8⟩:=jaa.1 (show ob (jfl k h d z) (fun x=>ob (some []) (fun r=>some (x::r)))=some q from h3)
    cases h8
    exact⟨z',rfl,one _ _ _ h7 hcz⟩
 | _=>cases hf
theorem j69 {l:List SV} {vs:List Value} (hg:qc4 l=true) (ha:All2 (cS A φ) l vs) {ψ:Phi} (hk:ψ.k=φ.k):All2 (cS A ψ) l vs:=by
 induction ha with
 | nil=>exact .nil
 | @cons a b l r hab _ ih =>
  have h1:=j0a hg a se
  have h2:qc4 l=true:=by
   have h':oif (grd a) (qc4 l) false=true:=hg
   rw[h1] at h';trivial
  refine .cons ?_ (ih h2)
  have d:=cS.toD hab h1
  rw[←hk] at d
  exact d.toS
theorem qk1 {x:AV} {v:Value} (hg:qpx x=true) (hc:cV A φ x v) {ψ:Phi} (hk:ψ.k=φ.k):cV A ψ x v:=by
 cases x with
 | s x =>
  have d:=cS.toD (show cS A φ x v from hc) hg
  rw[←hk] at d
  exact d.toS
 | agg l =>
  obtain⟨vs,rfl,ha⟩:=hc
  exact⟨vs,rfl,j69 hg ha hk⟩
 | _=>trivial
theorem jvk:∀ {l:List AV} {vs:List Value},ji5 l=true->All2 (cV A φ) l vs->∀ {ψ:Phi},ψ.k=φ.k->All2 (cV A ψ) l vs
 | [],vs,_,ha,ψ,_=>by cases ha;exact .nil
 | a::l,vs,hg,ha,ψ,hk=>by
  cases ha with
  | cons h1 h2 =>
   have h':oif (qpx a) (ji5 l) false=true:=hg
   rw[jat] at h'
   split at h'
   .rename_i h3
    exact .cons (qk1 h3 h1 hk) (jvk h' h2 hk)
   grind
def jc7 (k:Nat->Option (Array Value)) (n:Nat) (w:World):Nat->Option (Array Value):=fun b=>if b<n then k b else match w.heap[b]? with
 | some (.cells cs _ _)=>some cs
 | _=>none
theorem jgf {k:Nat->Option (Array Value)} {n b:Nat} (hb:b<n):jc7 k n w b=k b:=if_pos hb
theorem jfc {k:Nat->Option (Array Value)} {n b:Nat} {cs:Array Value} (e:jc7 k n w b=some cs):(b<n/\k b=some cs)∨(n<=b/\∃ ty:TypeId×Nat×Nat,w.heap[b]?=some (.cells cs ty.1 ty.2)):=by
 unfold jc7 at e
 split at e
 .grind
 .split at e
  .simp_all
  grind
theorem jgg {k:Nat->Option (Array Value)} {n b:Nat} {cs:Array Value} {ty:TypeId} {fr:Nat×Nat} (hb:n<=b) (e:w.heap[b]?=some (.cells cs ty fr)):jc7 k n w b=some cs:=by
 unfold jc7
 grind
theorem j7a (env:Env P A T F) {n:Nat} {f:FuncId} {vs:List AV} {v:AV} {hi:Hp} (hr:jn2 F n f vs h0=some (v,hi)) {d:Nat} {u:AV} (hf:jf9 true hi d v=some u) (hg:ji5 vs=true) (rel:Rel A φ h w) (args:Array Value) (ha:All2 (cV A φ) vs args.toList) :
 Calls P f args w (fun e w'=>∃ rv φ',e=.returned rv/\Step (fun n=>h.lo<=n) φ φ' h h w w'/\Rel A φ' h w'/\cV A φ' u rv):=by
 have hk:jvj φ.k w:=rel.con
 haveI:=φ.g
 refine Calls.mono (jsj env hr hk args (jvk hg ha rfl)) ?_
 rintro e w' ⟨rv,φi,rfl,s,r,hcv⟩
 have old:∀ b,b<w.heap.size->w'.heap[b]?=w.heap[b]?:=fun b hb=>s.old b hb (fun n l h _=>h.elim)
 have hlt:∀ b cs,φ.k b=some cs->b<w.heap.size:=fun b cs e=>rel.conLt e
 have hkle:∀ b cs,φ.k b=some cs->jc7 φ.k w.heap.size w' b=some cs:=fun b cs e=>by rw[jgf (hlt b cs e)];exact e
 have hKi:∀ b cs,φi.k b=some cs->jc7 φ.k w.heap.size w' b=some cs:=fun b cs e=>by
  rcases f0n b w.heap.size with h1 | h1
  .rw [jgf h1]
   rcases s.knew b cs e with h2 | h2
   .exact h2
   .omega
  .obtain ⟨ty,h2⟩:=r.con b cs e
   exact jgg h1 h2
 have hle:φ.le ⟨φ.m,jc7 φ.k w.heap.size w',φ.g.mono hkle⟩:=⟨fun _ _ e=>e,hkle⟩
 refine⟨rv,⟨φ.m,jc7 φ.k w.heap.size w',φ.g.mono hkle⟩,rfl,⟨Abs.refl _ rel.wf,fun _ _=>rfl,hkle,fun b cs e=>?_,s.os,s.tape,s.output,s.size,fun b hb _=>old b hb,fun n L hn _ hL=>?_⟩,⟨rel.wf,rel.dom,fun n x hx=>?_,rel.inj,fun b cs e=>?_,fun n L hn hL=>?_⟩,?_⟩
 .rcases jfc e with⟨_,h1⟩ | ⟨h1,_⟩
  .exact .inl h1
  .exact .inr h1
 .rw [show(⟨φ.m,jc7 φ.k w.heap.size w',φ.g.mono hkle⟩:Phi) n=φ n from rfl,rel.dom n hn] at hL;cases hL
 .refine ((rel.blk n x hx).mono hle).world (fun L hL=>old _ ?_)
  obtain⟨L',hL',hb⟩:=(rel.blk n x hx).some_loc
  have e:L'=L:=Option.some.inj (hL'.symm.trans hL)
  rw[←e];exact hb
 .rcases jfc e with⟨h1,h2⟩ | ⟨_,h2⟩
  .obtain ⟨ty,h3⟩:=rel.con b cs h2
   exact⟨ty,by rw[old b h1];exact h3⟩
  .exact h2
 .obtain ⟨L',hL',hb⟩:=rel.loc hn
  have e:L'=L:=Option.some.inj (hL'.symm.trans hL)
  subst e
  show jc7 φ.k w.heap.size w' L'.b=none
  rw[jgf hb]
  exact rel.sep n L' hn hL'
 .refine jls r (ψ:=⟨φ.m,jc7 φ.k w.heap.size w',φ.g.mono hkle⟩) (fun _=>hKi) (fun n L c ty hn hL hc=>?_) hf hcv
  have h1:h0.next<=n:=by
   have:=Hp.get_isSome hn
   exact WF.one this.2
  rcases s.new n L h1 hn hL with h2 | ⟨_,_,h2,_⟩
  .exact jgg h2 hc
  .exact h2.elim
end
section
variable {P:Program} {T:Tr TI} {A:Nat->Int} {F:Fns} {φ:Phi} {h h':Hp} {w w':World}
def jqm (k:Bool) (h:Hp) (d:Nat) (l:List AV):Option (List AV) :=
 List.rec (some []) (fun a _ ih=>ob (jf9 k h d a) (fun x=>ob ih (fun r=>some (x::r)))) l
theorem joy {k:Bool} (r:Rel A φ h w) {ψ:Phi} (hK:k=true->∀ b cs,φ.k b=some cs->ψ.k b=some cs) (hn:∀ n L c ty,(h.get n).isSome=true->φ n=some L->w.heap[L.b]?=some (.cells c ty (0,0))->ψ.k L.b=some c)
 {d:Nat}:∀ {l us:List AV} {vs:List Value},jqm k h d l=some us->All2 (cV A φ) l vs->All2 (cV A ψ) us vs
 | [],us,vs,hf,ha=>by cases hf;cases ha;exact .nil
 | a::l,us,vs,hf,ha=>by
  obtain⟨x,h1,h2⟩:=jaa.1 (show ob (jf9 k h d a) (fun x=>ob (jqm k h d l) fun r=>some (x::r))=some us from hf)
  obtain⟨r',h3,h4⟩:=jaa.1 h2
  cases h4
  cases ha with
  | cons h5 h6=>exact .cons (jls r hK hn h1 h5) (joy r hK hn h3 h6)
theorem j4j (env:Env P A T F) {n:Nat} {f:FuncId} {vs us:List AV} {v:AV} {hi:Hp} {d d':Nat} (hz:jqm true h d vs=some us) (hr:jn2 F n f us h0=some (v,hi)) {u:AV} (hf:jf9 false hi d' v=some u) (rel:Rel A φ h w) (args:Array Value) (ha:All2 (cV A φ) vs args.toList) :
 Calls P f args w (fun e w'=>∃ rv φ',e=.returned rv/\Step (fun n=>h.lo<=n) φ φ' h h w w'/\Rel A φ' h w'/\cV A φ' u rv):=by
 have hk:jvj (jc7 φ.k 0 w) w:=fun b cs e=>by
  rcases jfc e with⟨h1,_⟩ | ⟨_,h1⟩
  .omega
  .exact h1
 have hKφ:∀ b cs,φ.k b=some cs->jc7 φ.k 0 w b=some cs:=fun b cs e=>by
  obtain⟨ty,h1⟩:=rel.con b cs e
  exact jgg (f15 _) h1
 haveI:GK (jc7 φ.k 0 w):=φ.g.mono hKφ
 have hus:All2 (cV A (qhp (jc7 φ.k 0 w))) us args.toList:=joy rel (ψ:=qhp (jc7 φ.k 0 w)) (fun _=>hKφ) (fun n L c ty hn hL hc=>jgg (k:=φ.k) (f15 _) hc) hz ha
 refine Calls.mono (jsj env hr hk args hus) ?_
 rintro e w' ⟨rv,φi,rfl,s,r,hcv⟩
 have old:∀ b,b<w.heap.size->w'.heap[b]?=w.heap[b]?:=fun b hb=>s.old b hb (fun n l h _=>h.elim)
 have hlt:∀ b cs,φ.k b=some cs->b<w.heap.size:=fun b cs e=>rel.conLt e
 have hkle:∀ b cs,φ.k b=some cs->jc7 φ.k w.heap.size w' b=some cs:=fun b cs e=>by rw[jgf (hlt b cs e)];exact e
 have hle:φ.le ⟨φ.m,jc7 φ.k w.heap.size w',φ.g.mono hkle⟩:=⟨fun _ _ e=>e,hkle⟩
 refine⟨rv,⟨φ.m,jc7 φ.k w.heap.size w',φ.g.mono hkle⟩,rfl,⟨Abs.refl _ rel.wf,fun _ _=>rfl,hkle,fun b cs e=>?_,s.os,s.tape,s.output,s.size,fun b hb _=>old b hb,fun n L hn _ hL=>?_⟩,⟨rel.wf,rel.dom,fun n x hx=>?_,rel.inj,fun b cs e=>?_,fun n L hn hL=>?_⟩,?_⟩
 .rcases jfc e with⟨_,h1⟩ | ⟨h1,_⟩
  .exact .inl h1
  .exact .inr h1
 .rw [show(⟨φ.m,jc7 φ.k w.heap.size w',φ.g.mono hkle⟩:Phi) n=φ n from rfl,rel.dom n hn] at hL;cases hL
 .refine ((rel.blk n x hx).mono hle).world (fun L hL=>old _ ?_)
  obtain⟨L',hL',hb⟩:=(rel.blk n x hx).some_loc
  have e:L'=L:=Option.some.inj (hL'.symm.trans hL)
  rw[←e];exact hb
 .rcases jfc e with⟨h1,h2⟩ | ⟨_,h2⟩
  .obtain ⟨ty,h3⟩:=rel.con b cs h2
   exact⟨ty,by rw[old b h1];exact h3⟩
  .exact h2
 .obtain ⟨L',hL',hb⟩:=rel.loc hn
  have e:L'=L:=Option.some.inj (hL'.symm.trans hL)
  subst e
  show jc7 φ.k w.heap.size w' L'.b=none
  rw[jgf hb]
  exact rel.sep n L' hn hL'
 .refine jls r (ψ:=⟨φ.m,jc7 φ.k w.heap.size w',φ.g.mono hkle⟩) (fun e=>by cases e) (fun n L c ty hn hL hc=>?_) hf hcv
  have h1:h0.next<=n:=by
   have:=Hp.get_isSome hn
   exact WF.one this.2
  rcases s.new n L h1 hn hL with h2 | ⟨_,_,h2,_⟩
  .exact jgg h2 hc
  .exact h2.elim
end
def eqL {α:Type} (f:α->α->Bool) (l:List α):List α->Bool :=
 List.rec (fun r=>List.casesOn r true (fun _ _=>false)) (fun a _ ih r=>List.casesOn r false (fun b r'=>oif (f a b) (ih r') false)) l
theorem jfd {α:Type} {f:α->α->Bool} (hf:∀ a b,f a b=true->a=b):∀ {l r:List α},eqL f l r=true->l=r
 | [],[],_=>rfl
 | [],_::_,h=>by cases h
 | _::_,[],h=>by cases h
 | a::l,b::r,h=>by
  have h':oif (f a b) (eqL f l r) false=true:=h
  rw[jat] at h'
  split at h'
  .rename_i h1
   rw[hf a b h1,jfd hf h']
  grind
def qk2 (a b:Bool):Bool:=oif a b (jis b)
theorem jlt {a b:Bool} (h:qk2 a b=true):a=b:=by cases a<;>cases b<;>first | rfl | cases h
theorem qdr (a b:UInt8) (h:Nat.beq (UInt8.toNat a) (UInt8.toNat b)=true):a=b:=by
 grind[jiu,UInt8.toNat_inj]
def eqS (d:Nat):SV->SV->Bool :=
 Nat.rec (fun _ _=>false)
  (fun _ ih x y=>SV.casesOn (motive_1:=fun _=>Bool) x
   (fun b=>SV.casesOn (motive_1:=fun _=>Bool) y (fun c=>qk2 b c) (fun _ _=>false) (fun _=>false) (fun _ _=>false) false (fun _ _ _ _ _ _=>false) false (fun _ _=>false) false false (fun _=>false) (fun _=>false) (fun _=>false) (fun _=>false) false (fun _=>false))
   (fun k m=>SV.casesOn (motive_1:=fun _=>Bool) y (fun _=>false) (fun q n=>oif (Nat.beq (ikn k) (ikn q)) (ieq m n) false) (fun _=>false) (fun _ _=>false) false (fun _ _ _ _ _ _=>false) false (fun _ _=>false) false false (fun _=>false) (fun _=>false) (fun _=>false) (fun _=>false) false (fun _=>false))
   (fun e=>SV.casesOn (motive_1:=fun _=>Bool) y (fun _=>false) (fun _ _=>false) (fun g=>qpt e g) (fun _ _=>false) false (fun _ _ _ _ _ _=>false) false (fun _ _=>false) false false (fun _=>false) (fun _=>false) (fun _=>false) (fun _=>false) false (fun _=>false))
   (fun _ _=>false)
   (SV.casesOn (motive_1:=fun _=>Bool) y (fun _=>false) (fun _ _=>false) (fun _=>false) (fun _ _=>false) true (fun _ _ _ _ _ _=>false) false (fun _ _=>false) false false (fun _=>false) (fun _=>false) (fun _=>false) (fun _=>false) false (fun _=>false))
   (fun _ _ _ _ _ _=>false)
   (SV.casesOn (motive_1:=fun _=>Bool) y (fun _=>false) (fun _ _=>false) (fun _=>false) (fun _ _=>false) false (fun _ _ _ _ _ _=>false) true (fun _ _=>false) false false (fun _=>false) (fun _=>false) (fun _=>false) (fun _=>false) false (fun _=>false))
   (fun _ _=>false)
   (SV.casesOn (motive_1:=fun _=>Bool) y (fun _=>false) (fun _ _=>false) (fun _=>false) (fun _ _=>false) false (fun _ _ _ _ _ _=>false) false (fun _ _=>false) true false (fun _=>false) (fun _=>false) (fun _=>false) (fun _=>false) false (fun _=>false))
   (SV.casesOn (motive_1:=fun _=>Bool) y (fun _=>false) (fun _ _=>false) (fun _=>false) (fun _ _=>false) false (fun _ _ _ _ _ _=>false) false (fun _ _=>false) false true (fun _=>false) (fun _=>false) (fun _=>false) (fun _=>false) false (fun _=>false))
   (fun _=>false)
   (fun l=>SV.casesOn (motive_1:=fun _=>Bool) y (fun _=>false) (fun _ _=>false) (fun _=>false) (fun _ _=>false) false (fun _ _ _ _ _ _=>false) false (fun _ _=>false) false false (fun _=>false) (fun r=>eqL (fun a b=>Nat.beq (UInt8.toNat a) (UInt8.toNat b)) l r) (fun _=>false) (fun _=>false) false (fun _=>false))
   (fun l=>SV.casesOn (motive_1:=fun _=>Bool) y (fun _=>false) (fun _ _=>false) (fun _=>false) (fun _ _=>false) false (fun _ _ _ _ _ _=>false) false (fun _ _=>false) false false (fun _=>false) (fun _=>false) (fun r=>eqL (eqL ih) l r) (fun _=>false) false (fun _=>false))
   (fun _=>false) false (fun _=>false)) d
theorem jvl:∀ (d:Nat) (x y:SV),eqS d x y=true->x=y
 | 0,x,y,h=>by cases h
 | d+1,x,y,h=>by
  cases x with
  | bool b=>cases y with
   | bool c=>exact congrArg _ (jlt h)
   | _=>cases h
  | int k m=>cases y with
   | int q n =>
    have h':oif (Nat.beq (ikn k) (ikn q)) (ieq m n) false=true:=h
    rw[jat] at h'
    split at h'
    .rename_i h1
     rw[jdi] at h'
     rw[jn7 h1,of_decide_eq_true h']
    .cases h'
   | _=>cases h
  | sym e=>cases y with
   | sym g=>exact congrArg _ (j33 _ _ h)
   | _=>cases h
  | nilPtr=>cases y with
   | nilPtr=>rfl
   | _=>cases h
  | nilSlice=>cases y with
   | nilSlice=>rfl
   | _=>cases h
  | nilFunc=>cases y with
   | nilFunc=>rfl
   | _=>cases h
  | nilMap=>cases y with
   | nilMap=>rfl
   | _=>cases h
  | str l=>cases y with
   | str r=>exact congrArg _ (jfd qdr h)
   | _=>cases h
  | lst l=>cases y with
   | lst r=>exact congrArg _ (jfd (fun a b hab=>jfd (jvl d) hab) h)
   | _=>cases h
  | _=>cases h
structure Row where
 f:FuncId
 us:List AV
 u:AV
def j7b (x y:SV):Bool :=
 SV.casesOn (motive_1:=fun _=>Bool) x (fun _=>eqS 9 x y) (fun _ _=>eqS 9 x y) (fun _=>eqS 9 x y)
  (fun b o=>SV.casesOn (motive_1:=fun _=>Bool) y (fun _=>false) (fun _ _=>false) (fun _=>false) (fun b' o'=>oif (Nat.beq b b') (Nat.beq o o') false) false (fun _ _ _ _ _ _=>false) false (fun _ _=>false) false false (fun _=>false) (fun _=>false) (fun _=>false) (fun _=>false) false (fun _=>false))
  (eqS 9 x y)
  (fun b o n m e z=>SV.casesOn (motive_1:=fun _=>Bool) y (fun _=>false) (fun _ _=>false) (fun _=>false) (fun _ _=>false) false (fun b' o' n' m' e' z'=>oif (Nat.beq b b') (oif (Nat.beq o o') (oif (Nat.beq n n') (oif (Nat.beq m m') (oif (qk2 e e') (Nat.beq z z') false) false) false) false) false) false (fun _ _=>false) false false (fun _=>false) (fun _=>false) (fun _=>false) (fun _=>false) false (fun _=>false))
  (eqS 9 x y) (fun _ _=>false) (eqS 9 x y) (eqS 9 x y) (fun _=>false) (fun _=>eqS 9 x y) (fun _=>eqS 9 x y) (fun _=>false) false (fun _=>false)
theorem jlu (x y:SV) (h:j7b x y=true):x=y:=by
 cases x with
 | ptr b o=>cases y with
  | ptr b' o' =>
   have h':oif (Nat.beq b b') (Nat.beq o o') false=true:=h
   grind[jat,jiu]
  | _=>cases h
 | slice b o n m e z=>cases y with
  | slice b' o' n' m' e' z' =>
   have h':oif (Nat.beq b b') (oif (Nat.beq o o') (oif (Nat.beq n n') (oif (Nat.beq m m') (oif (qk2 e e') (Nat.beq z z') false) false) false) false) false=true:=h
   grind[jat,jiu,jlt]
  | _=>cases h
 | func _ _=>cases h
 | map _=>cases h
 | cp _=>cases h
 | emp=>cases h
 | _=>exact jvl 9 _ _ h
def q0x (p q:Bool×List SV):Bool:=oif (qk2 p.1 q.1) (eqL j7b p.2 q.2) false
theorem j4k (p q:Bool×List SV) (h:q0x p q=true):p=q:=by
 have h':oif (qk2 p.1 q.1) (eqL j7b p.2 q.2) false=true:=h
 grind[jat,Prod.ext,jlt,jfd,jlu]
def eqN (x y:AV):Bool :=
 AV.casesOn x
  (fun a=>AV.casesOn y (fun b=>j7b a b) (fun _=>false) (fun _=>false) false false)
  (fun a=>AV.casesOn y (fun _=>false) (fun b=>eqL j7b a b) (fun _=>false) false false)
  (fun a=>AV.casesOn y (fun _=>false) (fun _=>false) (fun b=>eqL q0x a b) false false)
  (AV.casesOn y (fun _=>false) (fun _=>false) (fun _=>false) true false) false
theorem j7c (x y:AV) (h:eqN x y=true):x=y:=by
 cases x with
 | s a=>cases y with
  | s b=>exact congrArg _ (jlu a b h)
  | _=>cases h
 | agg a=>cases y with
  | agg b=>exact congrArg _ (jfd jlu h)
  | _=>cases h
 | tup a=>cases y with
  | tup b=>exact congrArg _ (jfd j4k h)
  | _=>cases h
 | undef=>cases y with
  | undef=>rfl
  | _=>cases h
 | any=>cases h
structure FE where
 ld:Bool
 ev:Hp->Option AV
 h:Hp
 v:AV
def jyi (op:IOp):Bool:=IOp.casesOn op (fun _=>false) (fun o=>AO.casesOn o (fun _ _=>false) (fun _ _=>false) (fun _ _ _ _ _=>false) (fun _ _ _ _ _ _=>false)
 (fun _ _ _=>true) (fun _ _ _=>false) (fun _ _=>false) (fun _ _=>false) (fun _ _ _ _ _=>false) (fun _ _ _=>false) (fun _ _=>false) (fun _=>false) (fun _ _ _ _ _ _=>false) (fun _ _ _ _ _=>false) (fun _ _ _=>true) (fun _ _=>false) (fun _ _ _=>false) (fun k _ _=>Nat.ble k 6) false)
def j4l (o:Option AV) (v:AV):Bool:=Option.rec false (fun x=>eqN x v) o
def jyj (p:FE->Bool) (es:List FE) (js:List Nat):Bool:=List.rec true (fun j _ ih=>Option.rec false (fun e=>oif (p e) ih false) (je6 es j)) js
def jmp (cl:FuncId->List AV->Hp->R) (st fr:List AV) (es:List FE) (h:Hp) (op:IOp) (js:List Nat):Option (AV×Hp×FE) :=
 ob (iop cl st fr h op) (fun p=>Bool.rec
  (IOp.casesOn op (fun _=>some (p.1,h,.mk true (fun _=>some p.1) h p.1))
   (fun _=>oif (jyj (fun e=>oif e.ld (j4l (e.ev p.2) e.v) false) es js) (some (p.1,p.2,.mk false (fun _=>none) h .undef)) none))
  (oif (jyj (fun e=>oif e.ld true (j4l (ob (iop cl st fr e.h op) (fun q=>some q.1)) p.1)) es js) (some (p.1,h,.mk true (fun h'=>ob (iop cl st fr h' op) (fun q=>some q.1)) h p.1)) none) (jyi op))
def jqn (cl:FuncId->List AV->Hp->R) (st fr:List AV) (es:List FE) (h:Hp) (op:IOp) (g:Option (Nat×Bool)) (js:List Nat):Option (AV×Hp×FE) :=
 ob (j6f st g) (fun b=>Bool.rec (some (.undef,h,.mk true (fun _=>some .undef) h .undef)) (jmp cl st fr es h op js) b)
def jlv (cl:FuncId->List AV->Hp->R) (l:List (IOper×List Nat)):List AV->List FE->List AV->Hp->Option St :=
 List.rec (fun _ _ fr h=>some (.mk fr h))
  (fun o _ ih st es fr h=>IOper.casesOn o.1 (fun dst op g=>ob (jqn cl st fr es h op g o.2) (fun p=>ih (p.1::st) (p.2.2::es) (jc0 fr dst p.1) p.2.1))) l
def jyk:Nat->List (IOper×Bool×Nat)->List (IOper×List Nat)
 | _,[]=>[]
 | k,(op,act,un)::r=>(op,bif act then jhj un k 0 else [])::jyk (k+1) r
def qur (T:Tr TI) (π:List Nat) (nt:Nat) (ops:List Oper):Option (List (IOper×List Nat)):=(qqs T π nt [] [] [] 0 0 ops).map (jyk 0)
def qq4:List Bool->List (IOper×List Nat)->Bool
 | _,[]=>true
 | fs,(.mk _ op _,js)::r=>(jyi op||js.all (fun j=>fs.getD j false))&&qq4 (jyi op::fs) r
theorem jvm:∀ (l:List (IOper×Bool×Nat)) (k:Nat),(jyk k l).length=l.length/\∀ i op act un,l[i]?=some (op,act,un)->(jyk k l)[i]?=some (op,bif act then jhj un (k+i) 0 else [])
 | [],k=>by simp[jyk]
 | (op,act,un)::r,k=>by
  obtain⟨h1,h2⟩:=jvm r (k+1)
  refine⟨by simp[jyk,h1],fun i op' act' un' h=>?_⟩
  cases i with
  | zero =>
   obtain⟨rfl,rfl,rfl⟩:=h
   rfl
  | succ i =>
   have:=h2 i op' act' un' (by grind)
   simp only[jyk,f2u]
   grind
section
variable {P:Program} {A:Nat->Int} {T:Tr TI} {π:List Nat} {nt:Nat} {ops:Array Oper} {cl:FuncId->List AV->Hp->R} {V:Nat->AV} {H:Nat->Hp} {E:Nat->FE} {F:Nat->List AV}
 {φ φ0:Phi} {w w0:World} {L:Nat->Prop} {a a0:Act}
def jsO (T:Tr TI) (π:List Nat) (nt:Nat) (ops:Array Oper) (i:Nat):List Nat:=bif aO T π nt ops i then jhj (unO T π nt ops i) i 0 else []
theorem j7d {l:List (IOper×List Nat)} (h:qur T π nt ops.toList=some l):l.length=ops.size/\∀ i,i<ops.size->OpF T π nt ops i/\l[i]?=some (pO T π nt ops i,jsO T π nt ops i):=by
 obtain⟨l1,h1,rfl⟩:=f0a.1 h
 obtain⟨a1,a2⟩:=jos T π nt ops ops.toList 0 l1 (fun k o hk=>by
  rw[f1g] at hk
  simp[jcw,hk]) h1
 obtain⟨b1,b2⟩:=jvm l1 0
 refine⟨by grind,fun i hi=>?_⟩
 have:=a2 i oa
 rw[f1b] at this
 refine⟨this.1,?_⟩
 rw[b2 i _ _ _ this.2,f1b]
 rfl
theorem jsk {i j:Nat} (hi:aO T π nt ops i=true) (hj:j<i):(i - 1 - j)∈jsO T π nt ops i↔(aO T π nt ops j=true/\tb (mM ops i) j=false):=by
 unfold jsO
 rw[hi,cond_true,jlm]
 grind[jm1]
theorem joz {p:FE->Bool} {es:List FE}:∀ {js:List Nat},jyj p es js=true->∀ j∈js,∃ e,es[j]?=some e/\p e=true
 | [],_,j,hj=>by grind
 | k::js,h,j,hj=>by
  have h':Option.rec  false (fun e=>oif (p e) (jyj p es js) false) (je6 es k)=true:=h
  cases he:je6 es k with
  | none=>simp_all
  | some e =>
   rw[he] at h'
   have h2:oif (p e) (jyj p es js) false=true:=h'
   rw[jat] at h2
   split at h2
   .rcases f0f.1 hj with rfl | h4
    .grind[jc3]
    .exact joz h2 j h4
   grind
theorem jvn {o:Option AV} {v:AV} (h:j4l o v=true):o=some v:=by
 cases o with
 | none=>cases h
 | some x=>rw[j7c x v h]
theorem j7e {op:IOp} (h:jyi op=true):(∃ n agg y,op=.a (.load n agg y))∨(∃ n size y,op=.a (.slicea n size y))∨∃ n x y,op=.a (.strop n x y)/\n<=6:=by
 cases op with
 | p _=>cases h
 | a o=>cases o<;>first | grind | rfl | exact .inr (.inr ⟨_,_,_,rfl,f0l h⟩) | cases h
theorem jo0 {st fr:List AV} {h h':Hp} {op:IOp} (hl:jyi op=true) {v:AV} (hv:iop cl st fr h op=some (v,h')):h'=h:=by
 rcases j7e hl with⟨n,agg,y,rfl⟩ | ⟨n,size,y,rfl⟩ | ⟨n,x,y,rfl,hn6⟩
 .obtain ⟨u,hu,h1⟩:=jaa.1 (show ob (ev st fr y) (fun v=>jeh v (fun b o=>ob (rd h b o n) fun cs=>ob (jgs agg cs) fun v=>ok v h) fun cs=>ob (jbp n cs) fun cs=>ob (jgs agg cs) fun v=>ok v h)=some (v,h') from hv)
  rcases jbz h1 with⟨b,o,rfl,h2⟩ | ⟨cs,rfl,h2⟩
  .obtain ⟨cs,_,h3⟩:=jaa.1 h2
   obtain⟨_,_,h4⟩:=jaa.1 h3
   cases h4;rfl
  .obtain ⟨cs,_,h3⟩:=jaa.1 h2
   obtain⟨_,_,h4⟩:=jaa.1 h3
   cases h4;rfl
 .obtain ⟨u,hu,h1⟩:=jaa.1 (show jmu st fr h n size y=some (v,h') from hv)
  rcases jbz h1 with⟨b,o,rfl,h2⟩ | ⟨cs,rfl,h2⟩
  .obtain ⟨_,_,h4⟩:=jaa.1 h2
   cases h4;rfl
  .obtain ⟨_,_,h4⟩:=jaa.1 h2
   cases h4;rfl
 .exact jc6 hn6 (show jdx st fr h n x y=some (v,h') from hv)
inductive FKind (T:Tr TI) (π:List Nat) (nt:Nat) (ops:Array Oper) (cl:FuncId->List AV->Hp->R) (V:Nat->AV) (H:Nat->Hp) (E:Nat->FE) (F:Nat->List AV) (i:Nat) (op:IOp):Bool->Prop where
 | skip:V i=.undef->H (i+1)=H i->(E i).ld=true->(∀ h,(E i).ev h=some (V i))->(E i).v=V i->FKind T π nt ops cl V H E F i op false
 | pure (po:PO):op=.p po->pop (jan V i) (F i) po=some (V i)->H (i+1)=H i->(E i).ld=true->aO T π nt ops i=false->FKind T π nt ops cl V H E F i op true
 | load:jyi op=true->iop cl (jan V i) (F i) (H i) op=some (V i,H i)->H (i+1)=H i->(E i).ld=true->(E i).v=V i->(∀ h,(E i).ev h=ob (iop cl (jan V i) (F i) h op) (fun q=>some q.1))->aO T π nt ops i=true ->
  (∀ j∈jsO T π nt ops i,∃ e,(jan E i)[j]?=some e/\(e.ld=true∨iop cl (jan V i) (F i) e.h op=some (V i,e.h)))->FKind T π nt ops cl V H E F i op true
 | chain:iop cl (jan V i) (F i) (H i) op=some (V i,H (i+1))->(E i).ld=false->(E i).h=H i->aO T π nt ops i=true ->
  (∀ j∈jsO T π nt ops i,∃ e,(jan E i)[j]?=some e/\e.ld=true/\e.ev (H (i+1))=some e.v)->FKind T π nt ops cl V H E F i op true
structure FCtx (T:Tr TI) (π:List Nat) (nt:Nat) (ops:Array Oper) (cl:FuncId->List AV->Hp->R) (V:Nat->AV) (H:Nat->Hp) (E:Nat->FE) (F:Nat->List AV):Prop where
 opf:∀ i,i<ops.size->OpF T π nt ops i
 run:∀ i,i<ops.size->∃ op g b,pO T π nt ops i=.mk (jmx π (dD ops i)) op g/\cOp T π (jan (dD ops) i) (jcw ops i).op=some op/\jn5 (jan (dD ops) i) i (jcw ops i).guard=some g/\jr5 nt (dD ops i)=true/\j6f (jan V i) g=some b/\FKind T π nt ops cl V H E F i op b/\F (i+1)=jc0 (F i) (jmx π (dD ops i)) (V i)
theorem FCtx.maskDep (c:FCtx T π nt ops cl V H E F) {i j:Nat} (hi:i<ops.size) (h:tb (mM ops i) j=true) :
 ∃ e∈(jcw ops i).after.toList,Region.binds .any e=true/\e.on<i/\(j=e.on∨tb (mM ops e.on) j=true):=by
 obtain⟨h1,h2⟩:=je2 (c.opf i hi).msk
 grind[jsf,jbk]
theorem FCtx.back (c:FCtx T π nt ops cl V H E F) {i:Nat} (hi:i<ops.size) {e:Edge} (he:e∈(jcw ops i).after.toList) (hb:Region.binds .any e=true):e.on<i :=
 (je2 (c.opf i hi).msk).1 e he hb
theorem FCtx.maskIn (c:FCtx T π nt ops cl V H E F) {L:Nat->Prop} (hL:jrb ops L):∀ (i j:Nat),i<ops.size->(∀ e∈(jcw ops i).after.toList,Region.binds .any e=true->L e.on)->tb (mM ops i) j=true->L j:=by
 intro i
 induction i using Nat.strongRecOn with
 | _ i ih =>
  intro j hi hd h
  obtain⟨e,h1,h2,h3,h4⟩:=c.maskDep hi h
  rcases h4 with rfl | h4
  .grind
  .exact ih e.on h3 j oa (hL e.on oa (hd e h1 h2)) h4
theorem FCtx.maskLt (c:FCtx T π nt ops cl V H E F):∀ (i j:Nat),i<ops.size->tb (mM ops i) j=true->j<i:=by
 intro i
 induction i using Nat.strongRecOn with
 | _ i ih =>
  intro j hi h
  obtain⟨e,h1,h2,h3,h4⟩:=c.maskDep hi h
  grind
theorem FCtx.frame (c:FCtx T π nt ops cl V H E F) {t j:Nat} (hj:idx t π 0=some j):∀ i,i<=ops.size->(∀ k,k<i->dD ops k≠some t)->(F i)[j]?=(F 0)[j]?
 | 0,_,_=>rfl
 | i+1,hi,h=>by
  obtain⟨op,g,b,_,_,_,_,_,_,h6⟩:=c.run i oa
  have ih:=FCtx.frame c hj i oa (fun k hk=>h k oa)
  rw[h6,←ih]
  cases hd:dD ops i with
  | none=>rfl
  | some d =>
   have hne:d≠t:=fun e=>h i oa (by grind)
   cases hc:jmx π (some d) with
   | none=>rfl
   | some j' =>
    have hj':idx d π 0=some j':=hc
    show(j3w (F i) j' (V i))[j]?=_
    rw[ji2]
    have:j'≠j:=by
     rintro rfl
     have h1:=jd7 hj
     rw[jd7 hj'] at h1
     cases h1
     exact hne rfl
    grind
theorem jsl {d:Nat}:∀ (l:List (Option Nat)) (k:Nat),l[k]?=some (some d)->∃ q,jmv d l 0=some q
 | [],k,h=>by grind
 | x::l,k,h=>by
  rw[jj2]
  by_cases e:x=some d
  .grind
  .rw [if_neg e]
   cases k with
   | zero=>grind
   | succ k =>
    obtain⟨q,hq⟩:=jsl l k (by assumption)
    grind
theorem FCtx.distinct (c:FCtx T π nt ops cl V H E F) {i j:Nat} (hi:i<ops.size) (hj:j<i) {d:Nat} (hd:dD ops i=some d):dD ops j≠some d:=by
 have h1:=(c.opf i hi).fresh
 simp only[ju2] at h1
 have h2:=jbk (dD ops) hj
 grind[jsl]
theorem FCtx.same (c:FCtx T π nt ops cl V H E F) {m:Nat}:∀ n,m<=n->n<=ops.size->(∀ k,m<=k->k<n->(E k).ld=true)->H n=H m
 | 0,h1,_,_=>by grind
 | n+1,h1,h2,h=>by
  rcases f0n n m with h3 | h3
  .grind
  .rw [←FCtx.same c n h3 oa (fun k a b=>h k a oa)]
   obtain⟨op,g,b,_,_,_,_,_,hk,_⟩:=c.run n oa
   have hn:=h n h3 oa
   cases hk<;>simp_all
theorem FCtx.chainAct (c:FCtx T π nt ops cl V H E F) {k:Nat} (hk:k<ops.size) (h:(E k).ld=false):aO T π nt ops k=true/\(E k).h=H k/\∀ j∈jsO T π nt ops k,∃ e,(jan E k)[j]?=some e/\e.ld=true/\e.ev (H (k+1))=some e.v:=by
 obtain⟨op,g,b,_,_,_,_,_,hk',_⟩:=c.run k hk
 cases hk'<;>simp_all
structure FInv (A:Nat->Int) (T:Tr TI) (π:List Nat) (nt:Nat) (ops:Array Oper) (V:Nat->AV) (H:Nat->Hp) (E:Nat->FE) (φ0:Phi) (a0:Act) (w0:World) (L:Nat->Prop) (a:Act) (w:World):Prop where
 lt:∀ k,L k->k<ops.size
 closed:jrb ops L
 defers:a.defers=a0.defers
 size:a.tmps.size=a0.tmps.size
 slots:∀ t,(∀ j,j<ops.size->L j->dD ops j≠some t)->a.tmps.getD t undef=a0.tmps.getD t undef
 heap:∃ φ m,m<=ops.size/\(∀ k,k<ops.size->(E k).ld=false->(L k↔k<m))/\Step (fun n=>(H 0).lo<=n) φ0 φ (H 0) (H m) w0 w/\Rel A φ (H m) w/\∀ i d,L i->dD ops i=some d->cV A φ (V i) (a.tmps.getD d undef)
theorem qds (c:FCtx T π nt ops cl V H E F) (k:FInv A T π nt ops V H E φ0 a0 w0 L a w) (hf:FrR A φ0 π (F 0) a0) {i:Nat} (hi:i<ops.size) (hni:¬ L i)
 (hd:∀ e∈(jcw ops i).after.toList,Region.binds .any e=true->L e.on) {φ:Phi} (hle:φ0.le φ) (hval:∀ i d,L i->dD ops i=some d->cV A φ (V i) (a.tmps.getD d undef)) :
 jmo A φ π (jan (dD ops) i) (jan V i) (F i) (jcw ops i).op.operands.toList a.eval:=by
 intro x hx y v hy hv
 cases x with
 | tmp t =>
  simp only[cO] at hy
  split at hy
  .rename_i q hq
   cases hy
   have hv':je6 (jan V i) q=some v:=hv
   rw[jc3] at hv'
   obtain⟨h1,h2⟩:=jh9 hv'
   obtain⟨h3,h4⟩:=jh9 (jh7 hq)
   have hL:=c.maskIn k.closed i (i - 1 - q) hi hd (jfy (c.opf i hi).reads t hx q hq)
   have:=hval (i - 1 - q) t hL h4
   rw[h2] at this
   trivial
  .rename_i hnone
   split at hy
   .rename_i j hj
    cases hy
    have hv':je6 (F i) j=some v:=hv
    rw[jc3] at hv'
    have hearly:∀ q,q<i->dD ops q≠some t:=by
     intro q hq e
     have h2:=jbk (dD ops) hq
     rw[e] at h2
     obtain⟨q',hq'⟩:=jsl _ _ h2
     rw[hq'] at hnone
     cases hnone
    rw[c.frame hj i oa hearly] at hv'
    have h0:=hf t j v hj hv'
    have hsl:a.tmps.getD t undef=a0.tmps.getD t undef:=k.slots t (fun q hq hl e=>by
     rcases f0n q i with h | h
     .exact hearly q h e
     .have hqi:i<q:=by
       rcases f0n i q with h' | h'
       .exact h'
       .obtain rfl:q=i:=oa
        exact absurd hl hni
      have hw:=(c.opf q hq).wr
      rw[e] at hw
      have hmem:t∈rD ops i:=jib hx
      exact hni (c.maskIn k.closed q i hq (k.closed q hq hl) (jov hw i hqi hmem)))
    show cV A _ v (a.tmps.getD t undef)
    rw[hsl]
    exact h0.mono hle
   .cases hy
 | const u =>
  obtain⟨z,hz,rfl⟩:=f0a.1 (show(jq2 u).map .c=some y from hy)
  cases hv
  exact jho hz
 | func f =>
  cases hy
  cases hv
  exact⟨[],rfl,.nil⟩
 | global g =>
  simp only[cO] at hy
  cases hg:qko g with
  | none=>rw[hg] at hy;cases hy
  | some cs =>
   rw[hg] at hy
   cases hy
   cases hv
   exact jyf _ hg
theorem FInv.put (c:FCtx T π nt ops cl V H E F) (k:FInv A T π nt ops V H E φ0 a0 w0 L a w) {i:Nat} (hi:i<ops.size) (hni:¬ L i) (hd:∀ e∈(jcw ops i).after.toList,Region.binds .any e=true->L e.on)
 (hnt:nt<=a0.tmps.size) (hds:jr5 nt (dD ops i)=true) {φ φ':Phi} (hle:φ.le φ') (hval:∀ i d,L i->dD ops i=some d->cV A φ (V i) (a.tmps.getD d undef)) {rv:Value} {w':World} (hrv:cV A φ' (V i) rv) {m:Nat} (hm:m<=ops.size)
 (hiff:∀ k,k<ops.size->(E k).ld=false->((L k∨k=i)↔k<m)) (st:Step (fun n=>(H 0).lo<=n) φ0 φ' (H 0) (H m) w0 w') (r:Rel A φ' (H m) w') :
 FInv A T π nt ops V H E φ0 a0 w0 (fun j=>L j∨j=i) (a.put (jcw ops i).dst rv) w':=by
 have hdst:∀ d,dD ops i=some d->d<a.tmps.size:=fun d h=>by
  rw[h] at hds
  have:Nat.ble (d+1) nt=true:=hds
  exact f0o (f0l this) (by rw[k.size];omega)
 have get:∀ t,(a.put (jcw ops i).dst rv).tmps.getD t undef=if dD ops i=some t then rv else a.tmps.getD t undef:=by
  intro t
  show(a.put (dD ops i) rv).tmps.getD t undef=_
  cases hdd:dD ops i with
  | none=>rfl
  | some d =>
   rw[jm0 (hdst d hdd)]
   grind
 refine⟨fun j hj=>?_,fun j hj hl e he hb=>?_,(jlk _ _).trans k.defers,(jj3 _ _).trans k.size,fun t ht=>?_,φ',m,hm,hiff,st,r,fun j d hj hdj=>?_⟩
 .rcases hj with hj | rfl
  .exact k.lt j hj
  .exact hi
 .rcases hl with hl | rfl
  .exact .inl (k.closed j hj hl e he hb)
  .exact .inl (hd e he hb)
 .rw [get t,if_neg (ht i hi (.inr rfl))]
  exact k.slots t (fun j hj hl=>ht j hj (.inl hl))
 .rw [get d]
  rcases hj with hj | rfl
  .have hne:dD ops i≠some d:=by
    intro h
    have hji:j≠i:=fun e=>by subst e;exact hni hj
    rcases Nat.lt_or_gt_of_ne hji with h1 | h1
    .exact c.distinct hi h1 h hdj
    .exact c.distinct (k.lt j hj) h1 hdj h
   rw[if_neg hne]
   exact(hval j d hj hdj).mono hle
  .rw [if_pos hdj]
   exact hrv
theorem FInv.at (c:FCtx T π nt ops cl V H E F) (k:FInv A T π nt ops V H E φ0 a0 w0 L a w) {i m:Nat} (hi:i<ops.size) (hni:¬ L i) (hd:∀ e∈(jcw ops i).after.toList,Region.binds .any e=true->L e.on) (hch:(E i).ld=false) (hm:m<=ops.size)
 (hiff:∀ k,k<ops.size->(E k).ld=false->(L k↔k<m)):H i=H m/\∀ k,k<ops.size->(E k).ld=false->((L k∨k=i)↔k<i+1):=by
 have before:∀ j,j<i->(E j).ld=false->L j:=fun j hj hcj=>by
  cases hb:tb (mM ops i) j with
  | true=>exact c.maskIn k.closed i j hi hd hb
  | false =>
   exfalso
   obtain⟨_,_,h3⟩:=c.chainAct hi hch
   obtain⟨e,h4,h5,_⟩:=h3 _ ((jsk (c.chainAct hi hch).1 hj).2 ⟨(c.chainAct oa hcj).1,hb⟩)
   grind[jbk]
 have after:∀ j,j<ops.size->i<j->(E j).ld=false->¬ L j:=fun j hj hij hcj hl=>by
  cases hb:tb (mM ops j) i with
  | true=>exact hni (c.maskIn k.closed j i hj (k.closed j hj hl) hb)
  | false =>
   obtain⟨_,_,h3⟩:=c.chainAct hj hcj
   obtain⟨e,h4,h5,_⟩:=h3 _ ((jsk (c.chainAct hj hcj).1 hij).2 ⟨(c.chainAct hi hch).1,hb⟩)
   rw[jbk E hij] at h4
   cases h4
   rw[hch] at h5;cases h5
 refine⟨?_,fun q hq hcq=>⟨fun h=>?_,fun h=>?_⟩⟩
 .rcases f0n i m with h1 | h1
  .exact absurd ((hiff i hi hch).2 h1) hni
  .refine c.same i h1 oa (fun q h2 h3=>?_)
   cases hq:(E q).ld with
   | true=>rfl
   | false =>
    have:=(hiff q oa hq).1 (before q h3 hq)
    omega
 .rcases h with h | rfl
  .rcases f0n i q with h1 | h1
   .exact absurd h (after q hq h1 hcq)
   .omega
  .omega
 grind
theorem FInv.load (c:FCtx T π nt ops cl V H E F) (k:FInv A T π nt ops V H E φ0 a0 w0 L a w) {i m:Nat} (hi:i<ops.size) (hni:¬ L i) (hd:∀ e∈(jcw ops i).after.toList,Region.binds .any e=true->L e.on) (hm:m<=ops.size)
 (hiff:∀ k,k<ops.size->(E k).ld=false->(L k↔k<m)) {op:IOp} (hld:jyi op=true) (h1:iop cl (jan V i) (F i) (H i) op=some (V i,H i)) (he:(E i).ld=true) (hv:(E i).v=V i) (hev:∀ h,(E i).ev h=ob (iop cl (jan V i) (F i) h op) (fun q=>some q.1)) (ha:aO T π nt ops i=true)
 (hjs:∀ j∈jsO T π nt ops i,∃ e,(jan E i)[j]?=some e/\(e.ld=true∨iop cl (jan V i) (F i) e.h op=some (V i,e.h))):iop cl (jan V i) (F i) (H m) op=some (V i,H m):=by
 rcases f0n i m with hlt | hge
 ·
  by_cases hex:∃ q,i<=q/\q<m/\(E q).ld=false
  ·
   have last:∀ n,n<=m->(∃ q,i<=q/\q<n/\(E q).ld=false)->∃ q,i<=q/\q<n/\(E q).ld=false/\∀ r,q<r->r<n->(E r).ld=true:=by
    intro n
    induction n with
    | zero=>rintro _ ⟨q,_,h,_⟩;omega
    | succ n ih =>
     rintro hn ⟨q,h2,h3,h4⟩
     cases hE:(E n).ld with
     | false=>exact⟨n,oa,oa,hE,fun r h5 h6=>oa⟩
     | true =>
      have hqn:q≠n:=fun e=>by subst e;rw[hE] at h4;cases h4
      obtain⟨q',g1,g2,g3,g4⟩:=ih oa ⟨q,h2,oa,h4⟩
      refine⟨q',g1,oa,g3,fun r h5 h6=>?_⟩
      rcases f2q.1 h6 with h7 | h7
      .exact g4 r h5 h7
      .subst h7;exact hE
   obtain⟨q,g1,g2,g3,g4⟩:=last m (f0h _) hex
   have hiq:i<q:=by
    rcases f0n i q with h | h
    .exact h
    .obtain rfl:i=q:=oa
     rw[he] at g3;cases g3
   have hlq:=(hiff q oa g3).2 g2
   obtain⟨a1,_,a3⟩:=c.chainAct (show q<ops.size by omega) g3
   have hb:tb (mM ops q) i=false:=by
    cases hb:tb (mM ops q) i with
    | false=>rfl
    | true=>exact absurd (c.maskIn k.closed q i oa (k.closed q oa hlq) hb) hni
   obtain⟨e,h4,_,h6⟩:=a3 _ ((jsk a1 hiq).2 ⟨ha,hb⟩)
   rw[jbk E hiq] at h4
   cases h4
   rw[hev,hv] at h6
   obtain⟨p,hp,h7⟩:=jaa.1 h6
   obtain⟨v,h'⟩:=p
   obtain rfl:=jo0 hld hp
   cases h7
   rw[c.same m (show q+1<=m by omega) hm (fun r h8 h9=>g4 r oa h9)]
   exact hp
  .rw [c.same m (Nat.le_of_lt hlt) hm (fun q h2 h3=>by
    cases hE:(E q).ld with
    | true=>rfl
    | false=>exact absurd ⟨q,h2,h3,hE⟩ hex)]
   exact h1
 .by_cases hex:∃ q,m<=q/\q<i/\(E q).ld=false
  ·
   have first:∀ d n,n+d=i->(∃ q,n<=q/\q<i/\(E q).ld=false)->∃ q,n<=q/\q<i/\(E q).ld=false/\∀ r,n<=r->r<q->(E r).ld=true:=by
    intro d
    induction d with
    | zero=>rintro n e ⟨q,h1,h2,_⟩;omega
    | succ d ih =>
     rintro n e ⟨q,h2,h3,h4⟩
     cases hE:(E n).ld with
     | false=>exact⟨n,f0h _,oa,hE,fun r h5 h6=>oa⟩
     | true =>
      have hqn:q≠n:=fun e=>by subst e;rw[hE] at h4;cases h4
      obtain⟨q',g1,g2,g3,g4⟩:=ih (n+1) oa ⟨q,oa,h3,h4⟩
      refine⟨q',oa,g2,g3,fun r h5 h6=>?_⟩
      rcases f0n n r with h7 | h7
      .exact g4 r h7 h6
      .obtain rfl:r=n:=oa
       exact hE
   obtain⟨q,g1,g2,g3,g4⟩:=first (i - m) m oa hex
   have hlq:¬ L q:=fun h=>by have:=(hiff q oa g3).1 h;omega
   obtain⟨a1,a2,_⟩:=c.chainAct (show q<ops.size by omega) g3
   have hb:tb (mM ops i) q=false:=by
    cases hb:tb (mM ops i) q with
    | false=>rfl
    | true=>exact absurd (c.maskIn k.closed i q hi hd hb) hlq
   obtain⟨e,h4,h5⟩:=hjs _ ((jsk ha g2).2 ⟨a1,hb⟩)
   rw[jbk E g2] at h4
   cases h4
   rcases h5 with h5 | h5
   .rw [g3] at h5;cases h5
   .rw [a2] at h5
    rw[←c.same q g1 oa g4]
    exact h5
  .rw [←c.same i hge oa (fun q h2 h3=>by
    cases hE:(E q).ld with
    | true=>rfl
    | false=>exact absurd ⟨q,h2,h3,hE⟩ hex)]
   exact h1
theorem FInv.step (hT:Tys P T) (hclk:qhi P A cl) (c:FCtx T π nt ops cl V H E F) (hlo:∀ i,i<=ops.size->(H i).lo=(H 0).lo) (k0:Rel A φ0 (H 0) w0) (hf:FrR A φ0 π (F 0) a0) (hnt:nt<=a0.tmps.size) (k:FInv A T π nt ops V H E φ0 a0 w0 L a w) {i:Nat} (hi:i<ops.size) (hni:¬ L i)
 (hd:∀ e∈(jcw ops i).after.toList,Region.binds .any e=true->L e.on) {Q:Exit->Act->World->Prop} :
 if Region.wanted (jcw ops i) (yielded ops a.tmps)=true then (jcw ops i).wp P a w (fun a' w'=>FInv A T π nt ops V H E φ0 a0 w0 (fun j=>L j∨j=i) a' w') Q
 else FInv A T π nt ops V H E φ0 a0 w0 (fun j=>L j∨j=i) (a.put (jcw ops i).dst undef) w:=by
 obtain⟨φ,m,hm,hiff,st,rel,hval⟩:=k.heap
 obtain⟨op,g,b,hpO,hop,hgd,hds,hgo,hk,hF⟩:=c.run i hi
 have hE:=qds c k hf hi hni hd (st.le k0) hval
 have hwant:Region.wanted (jcw ops i) (yielded ops a.tmps)=b:=by
  refine ji4 (φ:=φ) (A:=A) (loc:=jan (dD ops) i) (st:=jan V i) (k:=i) (fun j hj=>?_) (fun j d hj hjd=>?_) (fun j want d v hgj hjd hjv=>?_) hgd hgo
  .rw [jbk (dD ops) hj]
   have:ops[j]?=some (jcw ops j):=by simp[jcw,f0z,show j<ops.size by omega]
   rw[this];rfl
  .rw [jbk (dD ops) hj] at hjd
   obtain⟨_,_,_,_,_,_,hds',_,_,_⟩:=c.run j oa
   have:dD ops j=some d:=Option.some.inj hjd
   rw[this] at hds'
   have h2:Nat.ble (d+1) nt=true:=hds'
   exact f0o (f0l h2) (by rw[k.size];exact hnt)
  .have hg:=(c.opf i hi).grd
   rw[hgj] at hg
   have hji:=c.maskLt i j hi hg
   have hLj:=c.maskIn k.closed i j hi hd hg
   rw[jbk V hji] at hjv
   cases hjv
   have h3:=jh7 hjd
   rw[jbk (dD ops) hji] at h3
   exact hval j d hLj (Option.some.inj h3)
 have iffq:(E i).ld=true->∀ q,q<ops.size->(E q).ld=false->((L q∨q=i)↔q<m):=fun he q hq hcq=>by
  rw[←hiff q hq hcq]
  refine⟨fun h=>h.elim id (fun e=>?_),.inl⟩
  subst e;rw[he] at hcq;cases hcq
 have quiet:∀ rv,cV A φ (V i) rv->(E i).ld=true->FInv A T π nt ops V H E φ0 a0 w0 (fun j=>L j∨j=i) (a.put (jcw ops i).dst rv) w:=fun rv hrv he =>
  k.put c hi hni hd hnt hds (Phi.le_refl _) hval hrv hm (iffq he) st rel
 rw[hwant]
 cases hk with
 | skip e1 e2 e3 e4 e5 =>
  simp only[f1c,if_false]
  exact quiet undef (by rw[e1];rfl) e3
 | pure po e1 e2 e3 e4 e5 =>
  simp only[if_true]
  subst e1
  obtain⟨rv,hr,hcv⟩:=jom (w:=w) hT hE hop e2
  exact jh8 hr rfl (quiet rv hcv e4)
 | load e1 e2 e3 e4 e5 e6 e7 e8 =>
  simp only[if_true]
  have hrun:=k.load c hi hni hd hm hiff e1 e2 e4 e5 e6 e7 e8
  refine jj4 (cl:=cl) hT hclk hE rel hop hrun _ (.inr rfl) (fun φ' rv w' s' r' hcv=>?_)
  have s'':Step (fun n=>(H 0).lo<=n) φ φ' (H m) (H m) w w':=by rw[hlo m hm] at s';exact s'
  exact k.put c hi hni hd hnt hds (s'.le rel) hval hcv hm (iffq e4) (st.trans s'') r'
 | chain e1 e2 e3 e4 e5 =>
  simp only[if_true]
  obtain⟨heq,hiff'⟩:=k.at c hi hni hd e2 hm hiff
  rw[←heq] at rel st
  refine jj4 (cl:=cl) hT hclk hE rel hop e1 _ (.inr rfl) (fun φ' rv w' s' r' hcv=>?_)
  have s'':Step (fun n=>(H 0).lo<=n) φ φ' (H i) (H (i+1)) w w':=by rw[hlo i oa] at s';exact s'
  exact k.put c hi hni hd hnt hds (s'.le rel) hval hcv (show i+1<=ops.size by omega) hiff' (st.trans s'') r'
theorem jo1 {cl:FuncId->List AV->Hp->R}:∀ (l:List (IOper×List Nat)) (n:Nat) (V0:Nat->AV) (H0:Nat->Hp) (E0:Nat->FE) (F0:Nat->List AV) (s:St),jlv cl l (jan V0 n) (jan E0 n) (F0 n) (H0 n)=some s ->
 ∃ (V:Nat->AV) (H:Nat->Hp) (E:Nat->FE) (F:Nat->List AV),(∀ j,j<n->V j=V0 j/\E j=E0 j)/\(∀ j,j<=n->H j=H0 j/\F j=F0 j) /\
  (∀ (k:Nat) (dst:Option Nat) (op:IOp) (g:Option (Nat×Bool)) (m:List Nat),l[k]?=some (.mk dst op g,m)->jqn cl (jan V (n+k)) (F (n+k)) (jan E (n+k)) (H (n+k)) op g m=some (V (n+k),H (n+k+1),E (n+k))/\F (n+k+1)=jc0 (F (n+k)) dst (V (n+k))) /\
  s=.mk (F (n+l.length)) (H (n+l.length))
 | [],n,V0,H0,E0,F0,s,h=>⟨V0,H0,E0,F0,fun _ _=>⟨rfl,rfl⟩,fun _ _=>⟨rfl,rfl⟩,fun k dst op g m hk=>by grind,(Option.some.inj (show some (St.mk (F0 n) (H0 n))=some s from h)).symm⟩
 | (.mk dst op g,m)::l,n,V0,H0,E0,F0,s,h=>by
  obtain⟨d,hd,h1⟩:=jaa.1 (show ob (jqn cl (jan V0 n) (F0 n) (jan E0 n) (H0 n) op g m) (fun p=>jlv cl l (p.1::jan V0 n) (p.2.2::jan E0 n) (jc0 (F0 n) dst p.1) p.2.1)=some s from h)
  obtain⟨v,h',e⟩:=d
  have e1:jan (fun j=>if j=n then v else V0 j) (n+1)=v::jan V0 n:=by
   simp only[jan,if_true]
   rw[jcl n (fun j hj=>by rw[if_neg oa])]
  have e2:jan (fun j=>if j=n then e else E0 j) (n+1)=e::jan E0 n:=by
   simp only[jan,if_true]
   rw[jcl n (fun j hj=>by rw[if_neg oa])]
  obtain⟨V,H,E,F,p1,p2,p3,p4⟩:=jo1 l (n+1) (fun j=>if j=n then v else V0 j) (fun j=>if j=n+1 then h' else H0 j) (fun j=>if j=n then e else E0 j) (fun j=>if j=n+1 then jc0 (F0 n) dst v else F0 j) s (by
   rw[e1,e2]
   simp only[if_true]
   exact h1)
  refine⟨V,H,E,F,fun j hj=>?_,fun j hj=>?_,fun k dst' op' g' m' hk=>?_,?_⟩
  .obtain ⟨q1,q2⟩:=p1 j oa
   rw[q1,q2,if_neg oa,if_neg oa]
   exact⟨rfl,rfl⟩
  .obtain ⟨q1,q2⟩:=p2 j oa
   rw[q1,q2,if_neg oa,if_neg oa]
   exact⟨rfl,rfl⟩
  .cases k with
   | zero =>
    simp only[f1p,Option.some.injEq,Prod.mk.injEq,IOper.mk.injEq] at hk
    obtain⟨⟨rfl,rfl,rfl⟩,rfl⟩:=hk
    have r1:=(p1 n oa).1
    have r2:=(p1 n oa).2
    have r3:=(p2 (n+1) oa).1
    have r4:=(p2 (n+1) oa).2
    have r5:=(p2 n oa).1
    have r6:=(p2 n oa).2
    simp only[if_true] at r1 r2 r3 r4
    rw[if_neg oa] at r5 r6
    have r7:jan V n=jan V0 n:=jcl n (fun j hj=>by rw[(p1 j oa).1,if_neg oa])
    have r8:jan E n=jan E0 n:=jcl n (fun j hj=>by rw[(p1 j oa).2,if_neg oa])
    simp only[f1z]
    rw[r1,r2,r3,r4,r5,r6,r7,r8]
    exact⟨hd,rfl⟩
   | succ k =>
    have:=p3 k dst' op' g' m' (by simpa using hk)
    rw[show n+1+k=n+(k+1) by omega] at this
    exact this
  grind
theorem j4m {i:Nat} {op:IOp} {g:Option (Nat×Bool)} (hop:pO T π nt ops i=.mk (jmx π (dD ops i)) op g) (h:jqn cl (jan V i) (F i) (jan E i) (H i) op g (jsO T π nt ops i)=some (V i,H (i+1),E i)) :
 ∃ b,j6f (jan V i) g=some b/\FKind T π nt ops cl V H E F i op b:=by
 obtain⟨b,hb,h1⟩:=jaa.1 h
 refine⟨b,hb,?_⟩
 have ha:aO T π nt ops i=jr6 (.mk (jmx π (dD ops i)) op g):=by unfold aO;grind
 cases b with
 | false =>
  have h2:some (AV.undef,H i,FE.mk true (fun _=>some .undef) (H i) .undef)=some (V i,H (i+1),E i):=h1
  simp only[Option.some.injEq,Prod.mk.injEq] at h2
  obtain⟨h3,h4,h5⟩:=h2
  exact .skip h3.symm h4.symm (by grind) (fun h=>by rw[←h5,←h3]) (by grind)
 | true =>
  obtain⟨p,hp,h2⟩:=jaa.1 (show jmp cl (jan V i) (F i) (jan E i) (H i) op (jsO T π nt ops i)=some (V i,H (i+1),E i) from h1)
  obtain⟨v,h'⟩:=p
  cases op with
  | p po =>
   have h3:some (v,H i,FE.mk true (fun _=>some v) (H i) v)=some (V i,H (i+1),E i):=h2
   simp only[Option.some.injEq,Prod.mk.injEq] at h3
   obtain⟨h4,h5,h6⟩:=h3
   obtain⟨v',hv',h7⟩:=jaa.1 (show ob (pop (jan V i) (F i) po) (fun v=>ok v (H i))=some (v,h') from hp)
   cases h7
   exact .pure po rfl (by rw[←h4];exact hv') h5.symm (by rw[←h6]) (by rw[ha];rfl)
  | a ao =>
   cases hl:jyi (.a ao) with
   | true =>
    rw[hl] at h2
    obtain⟨h3,h4⟩:=jae.1 (show oif (jyj (fun e=>oif e.ld true (j4l (ob (iop cl (jan V i) (F i) e.h (.a ao)) (fun q=>some q.1)) v)) (jan E i) (jsO T π nt ops i)) (some (v,H i,FE.mk true (fun h'=>ob (iop cl (jan V i) (F i) h' (.a ao)) (fun q=>some q.1)) (H i) v)) none=some (V i,H (i+1),E i) from h2)
    simp only[Option.some.injEq,Prod.mk.injEq] at h4
    obtain⟨h5,h6,h7⟩:=h4
    obtain rfl:=jo0 hl hp
    refine .load hl (by rw[←h5];exact hp) h6.symm (by rw[←h7]) (by rw[←h7,←h5]) (fun h=>by rw[←h7]) (by rw[ha];rfl) (fun j hj=>?_)
    obtain⟨e,h8,h9⟩:=joz h3 j hj
    refine⟨e,h8,?_⟩
    rw[jat] at h9
    split at h9
    .rename_i h10;exact .inl h10
    .obtain ⟨q,hq,h10⟩:=jaa.1 (jvn h9)
     obtain⟨v2,h2'⟩:=q
     obtain rfl:=jo0 hl hq
     cases h10
     exact .inr (by rw[←h5];exact hq)
   | false =>
    rw[hl] at h2
    obtain⟨h3,h4⟩:=jae.1 (show oif (jyj (fun e=>oif e.ld (j4l (e.ev h') e.v) false) (jan E i) (jsO T π nt ops i)) (some (v,h',FE.mk false (fun _=>none) (H i) .undef)) none=some (V i,H (i+1),E i) from h2)
    simp only[Option.some.injEq,Prod.mk.injEq] at h4
    obtain⟨h5,h6,h7⟩:=h4
    refine .chain (by rw[←h5,←h6];exact hp) (by rw[←h7]) (by rw[←h7]) (by rw[ha];rfl) (fun j hj=>?_)
    obtain⟨e,h8,h9⟩:=joz h3 j hj
    refine⟨e,h8,?_⟩
    rw[jat] at h9
    split at h9
    .rename_i h10;exact⟨h10,by rw[←h6];exact jvn h9⟩
    .cases h9
theorem j7f (hmix:P.follows .mixedOrders=true) (hT:Tys P T) (hclk:qhi P A cl) (hcla:jj5 cl) {l:List (IOper×List Nat)} (hc:qur T π nt ops.toList=some l) {fr:List AV} {h:Hp} {s:St} (hr:jlv cl l [] [] fr h=some s)
 (k:Rel A φ0 h w) (hf:FrR A φ0 π fr a) (hnt:nt<=a.tmps.size) {id:Nat} {Q:Exit->Act->World->Prop}
 (hQ:∀ φ' fr' h' a' w',s=.mk fr' h'->Step (fun n=>h.lo<=n) φ0 φ' h h' w w'->Rel A φ' h' w'->FrR A φ' π fr' a'->a'.defers=a.defers->a'.tmps.size=a.tmps.size->Q .normal a' w') :
 (Code.region id ops true).wp P Q a w:=by
 obtain⟨hlen,hspec⟩:=j7d hc
 obtain⟨V,H,E,F,_,p2,p3,p4⟩:=jo1 l 0 (fun _=>.undef) (fun _=>h) (fun _=>.mk true (fun _=>none) h .undef) (fun _=>fr) s hr
 have hH0:H 0=h:=(p2 0 (f0h _)).1
 have hF0:F 0=fr:=(p2 0 (f0h _)).2
 have c:FCtx T π nt ops cl V H E F:=by
  refine⟨fun i hi=>(hspec i hi).1,fun i hi=>?_⟩
  obtain⟨ho,hl⟩:=hspec i hi
  obtain⟨hds,op,g,e1,e2,e3⟩:=jlq ho.oper
  have hl':l[i]?=some (.mk (jmx π (dD ops i)) op g,jsO T π nt ops i):=by rw[hl,e1];rfl
  have:=p3 i _ op g _ hl'
  rw[f1b] at this
  obtain⟨b,hb,hk⟩:=j4m e1 this.1
  exact⟨op,g,b,e1,e2,e3,hds,hb,hk,this.2⟩
 have wfs:∀ i,i<=ops.size->WF (H i)/\(H i).lo=(H 0).lo:=by
  intro i
  induction i with
  | zero=>intro _;exact⟨by rw[hH0];exact k.wf,rfl⟩
  | succ i ih =>
   intro hi
   obtain⟨h1,h2⟩:=ih oa
   obtain⟨op,g,b,_,_,_,_,_,hk,_⟩:=c.run i oa
   cases hk with
   | skip _ e _ _ _=>rw[e];exact⟨h1,h2⟩
   | pure _ _ _ e _ _=>rw[e];exact⟨h1,h2⟩
   | load _ _ e _ _ _ _ _=>rw[e];exact⟨h1,h2⟩
   | chain e _ _ _ _ =>
    have a:=(jen h1 hcla e).2
    exact⟨a.wf,a.lo.trans h2⟩
 have k1:Rel A φ0 (H 0) { w with drawn:=w.drawn+1 }:=by rw[hH0];exact k.heap rfl
 have opAt_of:∀ (i:Nat) o,ops[i]?=some o->i<ops.size/\jcw ops i=o:=fun i o ho =>
  ⟨(f2h.1 ho).1,by simp[jcw,f0z,ho]⟩
 refine jiv hmix (fun L a' w'=>FInv A T π nt ops V H E φ0 a { w with drawn:=w.drawn+1 } L a' w') ?_ ?_ ?_ ?_
 .intro i o ho e he hb
  obtain⟨hi,rfl⟩:=opAt_of i o ho
  exact c.back hi (by simpa using he) hb
 .refine ⟨fun _ h=>h.elim,fun _ _ h=>h.elim,rfl,rfl,fun _ _=>rfl,φ0,0,f15 _,fun q _ _=>⟨fun h=>h.elim,fun h=>oa⟩,Step.refl _ k1 rfl rfl rfl rfl,k1,fun _ _ h=>h.elim⟩
 .intro L a' w' i o hI hni ho hdeps
  obtain⟨hi,rfl⟩:=opAt_of i o ho
  exact hI.step hT hclk c (fun i hi=>(wfs i hi).2) k1 (by rw[hF0];exact hf) hnt hi hni (fun e he hb=>hdeps e (by simpa using he) hb)
 .intro L a' w' hI hall
  obtain⟨φ,m,hm,hiff,st,r,hval⟩:=hI.heap
  have heq:H ops.size=H m:=c.same ops.size hm (f0h _) (fun q h1 h2=>by
   cases hE:(E q).ld with
   | true=>rfl
   | false=>have:=(hiff q h2 hE).1 (hall q h2);omega)
  rw[←heq] at st r
  rw[hH0] at st
  have st0:Step (fun n=>h.lo<=n) φ0 φ0 h h w { w with drawn:=w.drawn+1 }:=Step.refl _ k rfl rfl rfl rfl
  refine hQ φ (F ops.size) (H ops.size) a' w' ?_ (st0.trans st) r ?_ hI.defers hI.size
  .rw [p4,hlen,f1b]
  .intro t j v hj hv
   by_cases hex:∃ i,i<ops.size/\dD ops i=some t
   .obtain ⟨i,hi,hdi⟩:=hex
    have later:∀ m,i+1<=m->m<=ops.size->(F m)[j]?=(F (i+1))[j]?:=by
     intro m
     induction m with
     | zero=>intro h _;omega
     | succ m ih =>
      intro h1 h2
      rcases f0n i m with h3 | h3
      .rw [←ih oa oa]
       obtain⟨_,_,_,_,_,_,_,_,_,h6⟩:=c.run m oa
       rw[h6]
       cases hd:dD ops m with
       | none=>rfl
       | some d =>
        have hne:d≠t:=fun e=>by subst e;exact c.distinct (show m<ops.size by omega) h3 hd hdi
        cases hcd:jmx π (some d) with
        | none=>rfl
        | some j' =>
         have hj':idx d π 0=some j':=hcd
         show(j3w (F m) j' (V m))[j]?=_
         rw[ji2]
         have:j'≠j:=by
          rintro rfl
          have h1:=jd7 hj
          rw[jd7 hj'] at h1
          cases h1
          exact hne rfl
         rw[f2f this]
      .obtain rfl:i=m:=oa
       rfl
    rw[later ops.size oa (f0h _)] at hv
    obtain⟨_,_,_,_,_,_,_,_,_,h6⟩:=c.run i hi
    rw[h6,hdi] at hv
    have hcd:jmx π (some t)=some j:=hj
    rw[hcd] at hv
    have hv':(j3w (F i) j (V i))[j]?=some v:=hv
    rw[ji2,List.getElem?_set] at hv'
    simp only[if_true] at hv'
    split at hv'
    .cases hv'
     exact hval i t (hall i hi) hdi
    .cases hv'
   .have hno:∀ i,i<ops.size->dD ops i≠some t:=fun i hi e=>hex ⟨i,hi,e⟩
    rw[c.frame hj ops.size (f0h _) hno,hF0] at hv
    have:=hf t j v hj hv
    rw[hI.slots t (fun i hi _=>hno i hi)]
    exact this.mono (st0.trans st |>.le k)
end
open Go Go.RowKit
variable {fl:Bool} {h h':Hp} {fr:List AV} {nt:Nat} {w:World}
def qus (P:Program) (gf:FuncId):Prop:=True
inductive IB where
 | c (ic:IC)
 | seq (a b:IB)
 | block (id:Nat) (b:IB)
 | loop (b:IB)
 | flo (l:List (IOper×List Nat))
 | cond (c:Od) (x y:IB)
def jiw:IB->Bool
 | .seq a b=>jiw a||jiw b
 | .block _ b=>jiw b
 | .loop b=>jiw b
 | .flo _=>true
 | .cond _ a b=>jiw a||jiw b
 | _=>false
def qk3 (T:Tr TI) (fl:Bool) (π:List Nat) (nt:Nat) (ops:List Oper):Option (List (IOper×List Nat)):=bif fl then (match qur T π nt ops with
 | some l=>bif qq4 [] l then some l else none
 | none=>none) else none
theorem j4n {T:Tr TI} {π:List Nat} {ops:List Oper} {l:List (IOper×List Nat)} (h:qk3 T fl π nt ops=some l):qur T π nt ops=some l:=by
 unfold qk3 at h
 grind
def cB (T:Tr TI) (fl:Bool) (π:List Nat) (nt:Nat):Code->Option IB
 | .seq a b=>match cB T fl π nt a,cB T fl π nt b with
  | some x,some y=>some (.seq x y)
  | _,_=>none
 | .block id b=>(cB T fl π nt b).map (.block id)
 | .loop b=>(cB T fl π nt b).map .loop
 | .region id ops true=>match qk3 T fl π nt ops.toList with
  | some l=>some (.flo l)
  | none=>(jgu T [] π nt (.region id ops true)).map .c
 | .cond c a b=>match cO π [] c,cB T fl π nt a,cB T fl π nt b with
  | some c',some x,some y=>bif jiw x||jiw y then some (.cond c' x y) else (jgu T [] π nt (.cond c a b)).map .c
  | _,_,_=>(jgu T [] π nt (.cond c a b)).map .c
 | c=>(jgu T [] π nt c).map .c
section
variable (F:Fns) (fuel:Nat) (B:FuncId->Bool)
def qvo (s:St) (l:List (IOper×List Nat)):Option (Ex×St):=St.casesOn s (fun fr h=>ob (jlv (jbv F (run F fuel)) l [] [] fr h) (fun s=>some (.normal,s)))
abbrev RB:=IB->St->Option (Ex×St)
def qvp (ih:RB) (s:St) (a b:IB):Option (Ex×St):=ob (ih a s) (fun p=>Ex.casesOn p.1 (ih b p.2) (fun _=>some p) (some p))
def qk4 (ih:RB) (s:St) (id:Nat) (b:IB):Option (Ex×St):=ob (ih b s) (fun p=>Ex.casesOn p.1 (some p) (fun k=>oif (Nat.beq k id) (some (.normal,p.2)) (some p)) (some p))
def qq5 (ih:RB) (s:St) (b:IB):Option (Ex×St):=ob (ih b s) (fun p=>Ex.casesOn p.1 (ih (.loop b) p.2) (fun _=>some p) (some p))
def qq6 (ih:RB) (s:St) (c:Od) (x y:IB):Option (Ex×St):=St.casesOn s (fun fr _=>ob (ev [] fr c) (fun v=>jgt v (fun t=>ih (oif t x y) s)))
def qq7 (_:FuncId->Bool) (ih:RB) (c:IB) (s:St):Option (Ex×St) :=
 IB.casesOn c (fun ic=>run F fuel ic s) (qvp ih s) (qk4 ih s) (qq5 ih s) (qvo F fuel s) (qq6 ih s)
def jk7 (n:Nat):RB:=Nat.rec (fun _ _=>none) (fun _ ih=>qq7 F fuel B ih) n
end
def j4o (d d':List Deferred) (w w':World):Prop:=d'=d
section
variable {P:Program} {A:Nat->Int} {T:Tr TI} {F:Fns} {fuel:Nat} {B:FuncId->Bool}
theorem j4o.refl (d:List Deferred) (w w':World):j4o d d w w':=rfl
def j4p (A:Nat->Int) (π:List Nat) (φ:Phi) (h:Hp) (w:World) (a:Act) (e:Ex) (s:St) (Q:Exit->Act->World->Prop):Prop :=
 ∀ φ' fr' h' a' w',s=.mk fr' h'->Step (fun n=>h.lo<=n) φ φ' h h' w w'->Rel A φ' h' w'->FrR A φ' π fr' a'->j4o a.defers a'.defers w w'->a'.tmps.size=a.tmps.size->Q (q0w e) a' w'
theorem j4p.trans {π:List Nat} {φ ψ:Phi} {w':World} {a a':Act} {e:Ex} {s:St} {Q:Exit->Act->World->Prop} (k:j4p A π φ h w a e s Q) (st:Step (fun n=>h.lo<=n) φ ψ h h' w w') (r:Rel A ψ h' w') (hd:j4o a.defers a'.defers w w') (hs:a'.tmps.size=a.tmps.size):j4p A π ψ h' w' a' e s Q :=
 fun φ' fr' h'' a'' w'' e1 s1 r1 f1 d1 z1=>k φ' fr' h'' a'' w'' e1 (st.trans' s1) r1 f1 (d1.trans hd) (z1.trans hs)
def qq8 (P:Program) (A:Nat->Int) (T:Tr TI) (F:Fns) (fuel:Nat) (B:FuncId->Bool) (n:Nat):Prop :=
 ∀ ib fr h e s,jk7 F fuel B n ib (.mk fr h)=some (e,s)->∀ code fl π nt,cB T fl π nt code=some ib->∀ φ a w,Rel A φ h w->FrR A φ π fr a->nt<=a.tmps.size->∀ Q,j4p A π φ h w a e s Q->code.wp P Q a w
def j7g (P:Program) (A:Nat->Int) (T:Tr TI) (F:Fns) (fuel:Nat) (B:FuncId->Bool) (n:Nat):Prop :=
 ∀ ib fr h e s,jk7 F fuel B n (.loop ib) (.mk fr h)=some (e,s)->∀ code fl π nt,cB T fl π nt code=some ib->∀ φ a w,Rel A φ h w->FrR A φ π fr a->nt<=a.tmps.size->∀ Q,j4p A π φ h w a e s Q->Code.rounds P code Q n a w
theorem qdt (env:Env P A T F) {ic:IC} {e:Ex} {s:St} (hr:run F fuel ic (.mk fr h)=some (e,s)) {code:Code} {π:List Nat} (hc:jgu T [] π nt code=some ic) {φ:Phi} {a:Act} (rel:Rel A φ h w) (hf:FrR A φ π fr a) (hnt:nt<=a.tmps.size) {Q:Exit->Act->World->Prop} (hQ:j4p A π φ h w a e s Q):code.wp P Q a w :=
 (jhq env fuel).1 ic fr h e s hr code [] π nt hc φ a w rel hf hnt Q fun φ' fr' h' a' w' es st r1 f1 d1 z1=>hQ φ' fr' h' a' w' es st r1 f1 (by grind[j4o.refl]) z1
theorem j4q (env:Env P A T F) (hB:∀ f,B f=true->qus P f):∀ n,qq8 P A T F fuel B n/\j7g P A T F fuel B n:=by
 intro n
 induction n with
 | zero=>exact⟨fun ic fr h e s hr=>(by cases hr),fun ic fr h e s hr=>(by cases hr)⟩
 | succ n ih =>
  obtain⟨ih1,ih2⟩:=ih
  have hL:j7g P A T F fuel B (n+1):=by
   intro ib fr h e s hr code fl π nt hc φ a w rel hf hnt Q hQ
   obtain⟨p,h1,h2⟩:=jaa.1 (show ob (jk7 F fuel B n ib (.mk fr h)) (fun p=>Ex.casesOn p.1 (jk7 F fuel B n (.loop ib) p.2) (fun _=>some p) (some p))=some (e,s) from hr)
   obtain⟨e1,s1⟩:=p
   rw[rounds_succ]
   refine ih1 _ _ _ _ _ h1 code fl π nt hc φ a w rel hf hnt _ ?_
   intro φ' fr' h' a' w' es st r1 f1 d1 z1
   subst es
   cases e1 with
   | normal=>exact ih2 _ _ _ _ _ h2 code fl π nt hc φ' a' w' r1 f1 (by rw[z1];exact hnt) Q (hQ.trans st r1 d1 z1)
   | exit id=>cases h2;exact hQ φ' fr' h' a' w' rfl st r1 f1 d1 z1
   | ret=>cases h2;exact hQ φ' fr' h' a' w' rfl st r1 f1 d1 z1
  refine⟨?_,hL⟩
  intro ib fr h e s hr code fl π nt hc φ a w rel hf hnt Q hQ
  have atom:∀ c,(jgu T [] π nt c).map IB.c=some ib->c.wp P Q a w:=by
   intro c hc
   obtain⟨ic,h1,rfl⟩:=f0a.1 hc
   exact qdt env (show run F fuel ic (.mk fr h)=some (e,s) from hr) h1 rel hf hnt hQ
  cases code with
  | seq x y =>
   simp only[cB] at hc
   split at hc
   .rename_i cx cy hx hy
    cases hc
    obtain⟨p,h1,h2⟩:=jaa.1 (show ob (jk7 F fuel B n cx (.mk fr h)) (fun p=>Ex.casesOn p.1 (jk7 F fuel B n cy p.2) (fun _=>some p) (some p))=some (e,s) from hr)
    obtain⟨e1,s1⟩:=p
    refine wp_seq (ih1 _ _ _ _ _ h1 x fl π nt hx φ a w rel hf hnt _ ?_)
    intro φ' fr' h' a' w' es st r1 f1 d1 z1
    subst es
    cases e1 with
    | normal=>exact ih1 _ _ _ _ _ h2 y fl π nt hy φ' a' w' r1 f1 (by rw[z1];exact hnt) Q (hQ.trans st r1 d1 z1)
    | exit id=>cases h2;exact hQ φ' fr' h' a' w' rfl st r1 f1 d1 z1
    | ret=>cases h2;exact hQ φ' fr' h' a' w' rfl st r1 f1 d1 z1
   .cases hc
  | block id b =>
   obtain⟨jb,hb,e'⟩:=f0a.1 (show(cB T fl π nt b).map (.block id)=some ib from hc)
   subst e'
   obtain⟨p,h1,h2⟩:=jaa.1 (show ob (jk7 F fuel B n jb (.mk fr h)) (fun p=>Ex.casesOn p.1 (some p) (fun k=>oif (Nat.beq k id) (some (.normal,p.2)) (some p)) (some p))=some (e,s) from hr)
   obtain⟨e1,s1⟩:=p
   refine wp_block (ih1 _ _ _ _ _ h1 b fl π nt hb φ a w rel hf hnt _ ?_)
   intro φ' fr' h' a' w' es st r1 f1 d1 z1
   subst es
   cases e1 with
   | normal=>cases h2;exact hQ φ' fr' h' a' w' rfl st r1 f1 d1 z1
   | exit j =>
    have h2':oif (Nat.beq j id) (some (Ex.normal,St.mk fr' h')) (some (.exit j,.mk fr' h'))=some (e,s):=h2
    rw[jat] at h2'
    show if j=id then Q .normal a' w' else Q (.exit j) a' w'
    split at h2'
    .rename_i hj
     rw[jiu] at hj
     cases h2'
     rw[if_pos hj]
     exact hQ φ' fr' h' a' w' rfl st r1 f1 d1 z1
    .rename_i hj
     rw[jiu] at hj
     cases h2'
     rw[if_neg hj]
     exact hQ φ' fr' h' a' w' rfl st r1 f1 d1 z1
   | ret=>cases h2;exact hQ φ' fr' h' a' w' rfl st r1 f1 d1 z1
  | loop b =>
   obtain⟨jb,hb,e'⟩:=f0a.1 (show(cB T fl π nt b).map .loop=some ib from hc)
   subst e'
   exact wp_loop_rounds (n+1) (hL _ _ _ _ _ hr b fl π nt hb φ a w rel hf hnt Q hQ)
  | rangeFunc g ps asg body=>exact atom _ hc
  | skip=>exact atom _ hc
  | region id ops draw =>
   cases draw with
   | false=>exact atom _ hc
   | true =>
    simp only[cB] at hc
    split at hc
    .rename_i l hl
     cases hc
     obtain⟨s1,h1,h2⟩:=jaa.1 (show ob (jlv (jbv F (run F fuel)) l [] [] fr h) (fun s=>some (.normal,s))=some (e,s) from hr)
     cases h2
     exact j7f env.mix env.tys (jfb env (jhq env fuel).1) (jsh (F:=F) (fun f vs h v h' hx=>(env.ext f vs h v h' hx).2.1) fuel).2 (j4n hl) h1 rel hf hnt (fun φ' fr' h' a' w' es st r1 f1 d1 z1=>hQ φ' fr' h' a' w' es st r1 f1 (by rw[d1];exact j4o.refl _ _ _) z1)
    .exact atom _ hc
  | cond c x y =>
   simp only[cB] at hc
   split at hc
   .rename_i c' cx cy hc' hx hy
    cases hfl:(jiw cx||jiw cy) with
    | false=>rw[hfl] at hc;exact atom _ hc
    | true =>
     rw[hfl] at hc
     cases hc
     obtain⟨v,h1,h2⟩:=jaa.1 (show ob (ev [] fr c') (fun v=>jgt v (fun t=>jk7 F fuel B n (oif t cx cy) (.mk fr h)))=some (e,s) from hr)
     obtain⟨t,rfl,h3⟩:=jda h2
     have hE:=jyg (A:=A) (φ:=φ) (loc:=[]) (st:=[]) hf (fun t i v hi=>by cases hi) [c]
     have hcv:a.eval c=.bool t:=hE c se _ _ hc' h1
     refine wp_cond hcv ?_
     rw[jat] at h3
     cases t with
     | true=>exact ih1 _ _ _ _ _ h3 x fl π nt hx φ a w rel hf hnt Q hQ
     | false=>exact ih1 _ _ _ _ _ h3 y fl π nt hy φ a w rel hf hnt Q hQ
   .exact atom _ hc
  | exit _=>exact atom _ hc
  | scope _=>exact atom _ hc
  | label _=>exact atom _ hc
  | goto _=>exact atom _ hc
  | ret=>exact atom _ hc
  | refuse _=>exact atom _ hc
theorem qvq (env:Env P A T F) (hB:∀ f,B f=true->qus P f) {n:Nat} {f:FuncId} {fn:Func} {b:Code} (hf:P.funcs[f]?=some fn) (hbody:fn.body=some b) {nargs nslots:Nat} (hna:nargs<=fn.ntmps) {acc:List Nat} {ib:IB}
 (hc:cB T fl (j31 0 nargs++acc) fn.ntmps b=some ib) {res:List IR} (hres:qc5 T (j31 0 nargs++acc) fn.results.toList=some res) {vs:List AV} {h h':Hp} {e:Ex} {s:St} {v0:AV} (hl:vs.length=nargs)
 (hrun:jk7 F fuel B n ib (.mk (vs++jdq nslots) h)=some (e,s)) (he:e=.normal∨e=.ret) (hr:jcj s res=some (v0,h')) :
 ∀ φ w (args:Array Value),Rel A φ h w->All2 (cV A φ) vs args.toList->Calls P f args w (fun e w'=>∃ rv φ',e=.returned rv/\Step (fun n=>h.lo<=n) φ φ' h h' w w'/\Rel A φ' h' w'/\cV A φ' v0 rv):=by
 intro φ w args rel ha
 have hal:=ha.len
 simp only[f16] at hal
 refine calls_of_wp hf hbody ?_
 refine(j4q env hB n).1 _ _ _ _ _ hrun b _ _ _ hc φ _ w rel (qhn ha hl acc) ?_ _ ?_
 .simp
  omega
 .intro φ' fr' h'' a' w' es st r1 f1 d1 z1
  subst es
  obtain⟨rfl,xs,hxs,hcase⟩:=jgw hr
  obtain⟨v',hv1,hv2⟩:=qho env.tys r1 f1 hres hxs hcase
  have key:a'.defers=[]/\∃ v,(results fn a'.tmps).run P w'=.ok v w'/\∃ rv φ'',Ending.returned v=.returned rv/\Step (fun n=>h.lo<=n) φ φ'' h h' w w'/\Rel A φ'' h' w'/\cV A φ'' v0 rv:=⟨d1,v',hv1,v',φ',rfl,st,r1,hv2⟩
  rcases he with rfl | rfl
  .exact key
  .exact key
theorem j7h {cl:FuncId->List AV->Hp->R} (hcla:jj5 cl) {st:List AV} {es:List FE} {op:IOp} {g:Option (Nat×Bool)} {js:List Nat} {v:AV} {x:FE} (k:WF h) (hd:jqn cl st fr es h op g js=some (v,h',x)):Abs (fun n=>h.lo<=n) h h':=by
 obtain⟨b,hb,h1⟩:=jaa.1 hd
 cases b with
 | false =>
  grind[Abs.refl]
 | true =>
  obtain⟨p,hp,h2⟩:=jaa.1 (show jmp cl st fr es h op js=some (v,h',x) from h1)
  obtain⟨v0,h0'⟩:=p
  have a:=(jen k hcla hp).2
  cases op with
  | p po =>
   have h3:some (v0,h,FE.mk true (fun _=>some v0) h v0)=some (v,h',x):=h2
   grind[Abs.refl]
  | a ao =>
   cases hl:jyi (.a ao) with
   | true =>
    simp_all[jae,Abs.refl]
   | false =>
    simp_all[jae]
theorem jvo {cl:FuncId->List AV->Hp->R} (hcla:jj5 cl):∀ (l:List (IOper×List Nat)) (st:List AV) (es:List FE) (fr:List AV) (h:Hp) (s:St),jlv cl l st es fr h=some s->WF h->∃ fr' h',s=.mk fr' h'/\Abs (fun n=>h.lo<=n) h h'
 | [],st,es,fr,h,s,hr,k=>⟨fr,h,Option.some.inj (show some (St.mk fr h)=some s from hr).symm,Abs.refl _ k⟩
 | (.mk dst op g,m)::l,st,es,fr,h,s,hr,k=>by
  obtain⟨d,hd,h1⟩:=jaa.1 (show ob (jqn cl st fr es h op g m) (fun p=>jlv cl l (p.1::st) (p.2.2::es) (jc0 fr dst p.1) p.2.1)=some s from hr)
  have a:=j7h hcla k hd
  obtain⟨fr',h'',e,a'⟩:=jvo hcla l _ _ _ _ s h1 a.wf
  exact⟨fr',h'',e,a.trans' a'⟩
theorem qdu (hX:∀ f vs h v h',jc1 F f vs h=some (v,h')->WF h->Abs (fun n=>h.lo<=n) h h'):∀ n ib fr h e s,jk7 F fuel B n ib (.mk fr h)=some (e,s)->WF h->∃ fr' h',s=.mk fr' h'/\Abs (fun n=>h.lo<=n) h h':=by
 intro n
 induction n with
 | zero=>intro ib fr h e s hr;cases hr
 | succ n ih =>
  intro ib fr h e s hr k
  cases ib with
  | c ic=>exact(jsh hX fuel).1 _ _ _ _ _ (show run F fuel ic (.mk fr h)=some (e,s) from hr) k
  | seq x y =>
   obtain⟨p,h1,h2⟩:=jaa.1 (show ob (jk7 F fuel B n x (.mk fr h)) (fun p=>Ex.casesOn p.1 (jk7 F fuel B n y p.2) (fun _=>some p) (some p))=some (e,s) from hr)
   obtain⟨e1,s1⟩:=p
   obtain⟨fr1,h3,rfl,a⟩:=ih _ _ _ _ _ h1 k
   cases e1 with
   | normal =>
    obtain⟨fr2,h4,rfl,a2⟩:=ih _ _ _ _ _ h2 a.wf
    exact⟨fr2,h4,rfl,a.trans' a2⟩
   | exit _=>cases h2;exact⟨_,_,rfl,a⟩
   | ret=>cases h2;exact⟨_,_,rfl,a⟩
  | block id b =>
   obtain⟨p,h1,h2⟩:=jaa.1 (show ob (jk7 F fuel B n b (.mk fr h)) (fun p=>Ex.casesOn p.1 (some p) (fun k=>oif (Nat.beq k id) (some (.normal,p.2)) (some p)) (some p))=some (e,s) from hr)
   obtain⟨e1,s1⟩:=p
   obtain⟨fr1,h3,rfl,a⟩:=ih _ _ _ _ _ h1 k
   cases e1 with
   | normal=>cases h2;exact⟨_,_,rfl,a⟩
   | exit j =>
    have h2':oif (Nat.beq j id) (some (Ex.normal,St.mk fr1 h3)) (some (.exit j,.mk fr1 h3))=some (e,s):=h2
    rw[jat] at h2'
    split at h2'<;>(cases h2';exact⟨_,_,rfl,a⟩)
   | ret=>cases h2;exact⟨_,_,rfl,a⟩
  | loop b =>
   obtain⟨p,h1,h2⟩:=jaa.1 (show ob (jk7 F fuel B n b (.mk fr h)) (fun p=>Ex.casesOn p.1 (jk7 F fuel B n (.loop b) p.2) (fun _=>some p) (some p))=some (e,s) from hr)
   obtain⟨e1,s1⟩:=p
   obtain⟨fr1,h3,rfl,a⟩:=ih _ _ _ _ _ h1 k
   cases e1 with
   | normal =>
    obtain⟨fr2,h4,rfl,a2⟩:=ih _ _ _ _ _ h2 a.wf
    exact⟨fr2,h4,rfl,a.trans' a2⟩
   | exit _=>cases h2;exact⟨_,_,rfl,a⟩
   | ret=>cases h2;exact⟨_,_,rfl,a⟩
  | cond c x y =>
   obtain⟨v,h1,h2⟩:=jaa.1 (show ob (ev [] fr c) (fun v=>jgt v (fun t=>jk7 F fuel B n (oif t x y) (.mk fr h)))=some (e,s) from hr)
   obtain⟨t,rfl,h3⟩:=jda h2
   exact ih _ _ _ _ _ h3 k
  | flo l =>
   obtain⟨s1,h1,h2⟩:=jaa.1 (show ob (jlv (jbv F (run F fuel)) l [] [] fr h) (fun s=>some (.normal,s))=some (e,s) from hr)
   cases h2
   exact jvo (jsh (F:=F) hX fuel).2 l _ _ _ _ _ h1 k
end
end
end Go.Proofs.YtkpadfebkaangaaGreatDoor.Ev
