/- Calls from what names nothing of the heap to what names nothing of the heap: run on an empty heap; what they return stays. No program in sight. -/
import Derived.Test.YtdbklpgagdbpiaaDoorRun
namespace Go.Proofs.YtdbklpgagdbpiaaDoor.Ev
noncomputable section
open Go
set_option linter.all false
variable {u v:AV} {f:FuncId} {hi:Hp} {vs:List AV} {b d n:Nat}
def jjl (f:SV->Option SV) (l:List SV):Option (List SV) :=
 List.rec (motive:=fun _=>Option (List SV)) (some []) (fun a _ ih=>ob (f a) (fun x=>ob ih (fun r=>some (x::r)))) l
def jsr (sz:Nat) (n:Nat):List SV->Option (List (List SV)) :=
 Nat.rec (motive:=fun _=>List SV->Option (List (List SV))) (fun _=>some []) (fun _ ih l=>ob (jbp sz l) (fun a=>ob (ih (jb4 sz l)) (fun r=>some (a::r)))) n
def jlt (k:Bool) (h:Hp) (d:Nat):SV->Option SV :=
 Nat.rec (motive:=fun _=>SV->Option SV) (fun _=>none)
  (fun _ ih x=>SV.casesOn (motive_1:=fun _=>Option SV) x (fun b=>some (.bool b)) (fun k n=>some (.int k n)) (fun e=>some (.sym e)) (fun _ _=>none) (some .nilPtr)
   (fun b off len _ _ sz=>Nat.casesOn (motive:=fun _=>Option SV) len (some (.lst [])) (fun _=>ob (rd h b off (Nat.mul len sz)) (fun cs=>ob (jjl ih cs) (fun cs=>ob (jsr sz len cs) (fun rows=>some (.lst rows))))))
   (some .nilSlice) (fun _ _=>none) (some .nilFunc) (some .nilMap) (fun _=>none) (fun l=>some (.str l)) (fun rows=>Bool.rec (motive:=fun _=>Option SV) (List.casesOn (motive:=fun _=>Option SV) rows (some (.lst [])) (fun _ _=>none)) (some (.lst rows)) k) (fun _=>none) (some (.lst [])) (fun _=>none)) d
def qh4 (f:SV->Option SV) (l:List (Bool×List SV)):Option (List (Bool×List SV)) :=
 List.rec (motive:=fun _=>Option (List (Bool×List SV))) (some []) (fun p _ ih=>ob (jjl f p.2) (fun x=>ob ih (fun r=>some ((p.1,x)::r)))) l
def jhz (k:Bool) (h:Hp) (d:Nat) (v:AV):Option AV :=
 AV.casesOn (motive:=fun _=>Option AV) v (fun x=>ob (jlt k h d x) (fun y=>some (.s y))) (fun l=>ob (jjl (jlt k h d) l) (fun y=>some (.agg y))) (fun l=>ob (qh4 (jlt k h d) l) (fun y=>some (.tup y))) none none
def qoj (v:AV):Bool:=AV.casesOn (motive:=fun _=>Bool) v grd jy8 (fun _=>false) false false
def jrx (l:List AV):Bool:=List.rec (motive:=fun _=>Bool) true (fun a _ ih=>oif (qoj a) ih false) l
section
variable {P:Program} {T:Tr TI} {A:Nat->Int} {F:Fns} {φ:Phi} {h h':Hp} {w w':World}
theorem j2r {f:SV->Option SV}:∀ {l r:List SV},jjl f l=some r->r.length=l.length/\∀ (i:Nat) (y:SV),r[i]?=some y->∃ x,l[i]?=some x/\f x=some y
 | [],r,h=>by cases h;exact⟨rfl,fun i y hy=>by simp at hy⟩
 | a::l,r,h=>by
  obtain⟨x,h1,h2⟩:=jaa.1 (show ob (f a) (fun x=>ob (jjl f l) (fun r=>some (x::r)))=some r from h)
  obtain⟨r',h3,h4⟩:=jaa.1 h2
  cases h4
  obtain⟨h5,h6⟩:=j2r h3
  refine⟨by simp[h5],fun i y hy=>?_⟩
  cases i with
  | zero=>simp at hy;subst hy;exact⟨a,rfl,h1⟩
  | succ i=>simpa using h6 i y (by simpa using hy)
theorem jss {sz:Nat}:∀ {n:Nat} {l:List SV} {rows:List (List SV)},jsr sz n l=some rows->rows.length=n/\(∀ (i:Nat) (row:List SV),rows[i]?=some row->row.length=sz)/\∀ (i j:Nat) (row:List SV) (x:SV),rows[i]?=some row->row[j]?=some x->l[i*sz+j]?=some x
 | 0,l,rows,h=>by cases h;exact⟨rfl,fun i row hr=>by simp at hr,fun i j row x hr=>by simp at hr⟩
 | n+1,l,rows,h=>by
  obtain⟨a,h1,h2⟩:=jaa.1 (show ob (jbp sz l) (fun a=>ob (jsr sz n (jb4 sz l)) (fun r=>some (a::r)))=some rows from h)
  obtain⟨r,h3,h4⟩:=jaa.1 h2
  cases h4
  obtain⟨h5,rfl⟩:=(ja5 _).1 h1
  rw[jb8] at h3
  obtain⟨h6,h7,h8⟩:=jss h3
  refine⟨by simp[h6],fun i row hr=>?_,fun i j row x hr hx=>?_⟩
  .cases i with
   | zero=>simp at hr;subst hr;simp;omega
   | succ i=>exact h7 i row (by simpa using hr)
  .cases i with
   | zero =>
    simp only[f1a,Option.some.injEq] at hr
    subst hr
    rw[f15] at hx
    split at hx
    .rw [f16,f0z];exact hx
    .cases hx
   | succ i =>
    have:=h8 i j row x (by simpa using hr) hx
    rw[f1f] at this
    rw[f27,←this]
    congr 1
    omega
theorem jst {k:Bool} (r:Rel A φ h w) {K:Nat->Option (Array Value)} (hK:k=true->∀ b cs,φ.k b=some cs->K b=some cs) (hn:∀ n L c ty,(h.get n).isSome=true->φ n=some L->w.heap[L.b]?=some (.cells c ty (0,0))->K L.b=some c) :
 ∀ (d:Nat) (x y:SV) (v:Value),jlt k h d x=some y->cS A φ x v->cD A K y v
 | 0,x,y,v,hf,_=>by cases hf
 | d+1,x,y,v,hf,hc=>by
  cases x with
  | bool b=>cases hf;cases hc;exact .bool b
  | int k n=>cases hf;cases hc;exact .int k n
  | sym e=>cases hf;cases hc;exact .sym e
  | nilPtr=>cases hf;cases hc;exact .nilPtr
  | nilSlice=>cases hf;cases hc;exact .nilSlice
  | nilFunc=>cases hf;cases hc;exact .nilFunc
  | nilMap=>cases hf;cases hc;exact .nilMap
  | str l=>cases hf;cases hc;exact .str l
  | lst rows =>
   cases k with
   | true=>cases hf;exact cD.mono (hK rfl) hc
   | false =>
    cases rows with
    | cons a r=>cases hf
    | nil =>
     cases hf
     obtain⟨ad,cap,rfl,_⟩:=je2 (show cD A φ.k (.lst []) v from hc)
     exact .lst0 ad cap
  | emp=>cases hf;obtain⟨ad,rfl⟩:=hc;exact .lst0 ad 0
  | slice b off len mc ex sz =>
   obtain⟨L,ad,cap,q1,rfl,q2,q3,q4,q5⟩:=hc
   cases len with
   | zero=>cases hf;exact .lst0 ad cap
   | succ len =>
    obtain⟨cs,hrd,h1⟩:=jaa.1 (show ob (rd h b off (Nat.mul (len+1) sz)) (fun cs=>ob (jjl (jlt k h d) cs) (fun cs=>ob (jsr sz (len+1) cs) (fun rows=>some (.lst rows))))=some y from hf)
    obtain⟨cs',hfz,h2⟩:=jaa.1 h1
    obtain⟨rows,hrows,h3⟩:=jaa.1 h2
    cases h3
    obtain⟨cs0,ty,hg,rfl,hl⟩:=jo3 hrd
    obtain⟨L',c,e1,e2,e3,e4,e5⟩:=r.blk b _ hg
    rw[q1] at e1
    cases e1
    obtain⟨g1,g2,g3⟩:=jss hrows
    obtain⟨f1,f2⟩:=j2r hfz
    have had:ad=⟨L.b,L.o+off,none⟩:=by
     rcases q5 with⟨h,_⟩ | h
     .exact h
     .omega
    subst had
    have key:∀ (i j:Nat),∃ u,∀ (row:List SV) (x:SV),rows[i]?=some row->row[j]?=some x->c[L.o+off+i*sz+j]?=some u/\cD A K x u:=fun i j=>by
     cases hr:rows[i]? with
     | none=>exact⟨undef,fun _ _ h=>by cases h⟩
     | some row =>
      cases hx:row[j]? with
      | none=>exact⟨undef,fun row' x h h'=>by cases h;rw[hx] at h';cases h'⟩
      | some x =>
       have h4:=g3 i j row x hr hx
       obtain⟨x0,h5,h6⟩:=f2 _ _ h4
       rw[f15] at h5
       split at h5
       .rw [f1f] at h5
        obtain⟨u,h7,h8⟩:=e5 _ _ h5
        refine⟨u,fun row' x' h h'=>?_⟩
        cases h
        rw[hx] at h'
        cases h'
        exact⟨by rw[←h7];congr 1;omega,jst r hK hn d x0 x u h6 h8⟩
       .cases h5
    rw[←g1]
    refine .lst rows L.b (L.o+off) cap sz c (fun i j=>Classical.choose (key i j)) (hn b L c ty (by rw[hg];rfl) q1 e2) (by omega) g2 (fun i j row x hr hx=>?_) (fun i j row x hr hx=>?_)
    .exact (Classical.choose_spec (key i j) row x hr hx).1
    .exact (Classical.choose_spec (key i j) row x hr hx).2
  | _=>cases hf
theorem jmd {f:SV->Option SV} {R:SV->Value->Prop} {S:SV->Value->Prop} (hf:∀ x y v,f x=some y->S x v->R y v):∀ {l r:List SV} {vs:List Value},jjl f l=some r->All2 S l vs->All2 R r vs
 | [],r,vs,h,ha=>by cases h;cases ha;exact .nil
 | a::l,r,vs,h,ha=>by
  obtain⟨x,h1,h2⟩:=jaa.1 (show ob (f a) (fun x=>ob (jjl f l) (fun r=>some (x::r)))=some r from h)
  obtain⟨r',h3,h4⟩:=jaa.1 h2
  cases h4
  cases ha with
  | cons h5 h6=>exact .cons (hf _ _ _ h1 h5) (jmd hf h3 h6)
theorem jme {k:Bool} (r:Rel A φ h w) {ψ:Phi} (hK:k=true->∀ b cs,φ.k b=some cs->ψ.k b=some cs) (hn:∀ n L c ty,(h.get n).isSome=true->φ n=some L->w.heap[L.b]?=some (.cells c ty (0,0))->ψ.k L.b=some c)
 {d:Nat} {x y:AV} {v:Value} (hf:jhz k h d x=some y) (hc:cV A φ x v):cV A ψ y v:=by
 have one:∀ x y v,jlt k h d x=some y->cS A φ x v->cS A ψ y v:=fun x y v h1 h2=>(jst r hK hn d x y v h1 h2).toS
 cases x with
 | s x =>
  obtain⟨y',h1,h2⟩:=jaa.1 (show ob (jlt k h d x) (fun y=>some (AV.s y))=some y from hf)
  cases h2
  exact one _ _ _ h1 hc
 | agg l =>
  obtain⟨y',h1,h2⟩:=jaa.1 (show ob (jjl (jlt k h d) l) (fun y=>some (AV.agg y))=some y from hf)
  cases h2
  obtain⟨vs,rfl,ha⟩:=hc
  exact⟨vs,rfl,jmd one h1 ha⟩
 | tup l =>
  obtain⟨y',h1,h2⟩:=jaa.1 (show ob (qh4 (jlt k h d) l) (fun y=>some (AV.tup y))=some y from hf)
  cases h2
  obtain⟨vs,rfl,ha⟩:=hc
  refine⟨vs,rfl,?_⟩
  clear hf
  induction ha generalizing y' with
  | nil=>cases h1;exact .nil
  | @cons p x l vs hp _ ih =>
   obtain⟨q,h3,h4⟩:=jaa.1 (show ob (jjl (jlt k h d) p.2) (fun x=>ob (qh4 (jlt k h d) l) (fun r=>some ((p.1,x)::r)))=some y' from h1)
   obtain⟨r',h5,h6⟩:=jaa.1 h4
   cases h6
   refine .cons ?_ (ih _ h5)
   unfold cV1 at hp ⊢
   simp only
   split
   .rename_i hb
    rw[if_pos hb] at hp
    obtain⟨vs,rfl,ha⟩:=hp
    exact⟨vs,rfl,jmd one h3 ha⟩
   .rename_i hb
    rw[if_neg hb] at hp
    obtain⟨z,hz,hcz⟩:=hp
    rw[hz] at h3
    obtain⟨z',h7,h8⟩:=jaa.1 (show ob (jlt k h d z) (fun x=>ob (some []) (fun r=>some (x::r)))=some q from h3)
    cases h8
    exact⟨z',rfl,one _ _ _ h7 hcz⟩
 | _=>cases hf
theorem j7h {l:List SV} {vs:List Value} (hg:jy8 l=true) (ha:All2 (cS A φ) l vs) {ψ:Phi} (hk:ψ.k=φ.k):All2 (cS A ψ) l vs:=by
 induction ha with
 | nil=>exact .nil
 | @cons a b l r hab _ ih =>
  have h1:=jtl hg a (by simp)
  have h2:jy8 l=true:=by
   have h':oif (grd a) (jy8 l) false=true:=hg
   rw[h1] at h';exact h'
  refine .cons ?_ (ih h2)
  have d:=cS.toD hab h1
  rw[←hk] at d
  exact d.toS
theorem qh5 {x:AV} {v:Value} (hg:qoj x=true) (hc:cV A φ x v) {ψ:Phi} (hk:ψ.k=φ.k):cV A ψ x v:=by
 cases x with
 | s x =>
  have d:=cS.toD (show cS A φ x v from hc) hg
  rw[←hk] at d
  exact d.toS
 | agg l =>
  obtain⟨vs,rfl,ha⟩:=hc
  exact⟨vs,rfl,j7h hg ha hk⟩
 | _=>cases hg
theorem jxm:∀ {l:List AV} {vs:List Value},jrx l=true->All2 (cV A φ) l vs->∀ {ψ:Phi},ψ.k=φ.k->All2 (cV A ψ) l vs
 | [],vs,_,ha,ψ,_=>by cases ha;exact .nil
 | a::l,vs,hg,ha,ψ,hk=>by
  cases ha with
  | cons h1 h2 =>
   have h':oif (qoj a) (jrx l) false=true:=hg
   rw[jap] at h'
   split at h'
   .rename_i h3
    exact .cons (qh5 h3 h1 hk) (jxm h' h2 hk)
   .cases h'
def jda (k:Nat->Option (Array Value)) (n:Nat) (w:World):Nat->Option (Array Value):=fun b=>if b<n then k b else match w.heap[b]? with
 | some (.cells cs _ _)=>some cs
 | _=>none
theorem jg0 {k:Nat->Option (Array Value)} (hb:b<n):jda k n w b=k b:=if_pos hb
theorem jfm {k:Nat->Option (Array Value)} {cs:Array Value} (e:jda k n w b=some cs):(b<n/\k b=some cs)∨(n<=b/\∃ ty:TypeId×Nat×Nat,w.heap[b]?=some (.cells cs ty.1 ty.2)):=by
 unfold jda at e
 split at e
 .rename_i h1;exact .inl ⟨h1,e⟩
 .rename_i h1
  split at e
  .rename_i cs' ty fr h2
   cases e
   exact .inr ⟨by omega,(ty,fr),h2⟩
  .cases e
theorem jg1 {k:Nat->Option (Array Value)} {cs:Array Value} {ty:TypeId} {fr:Nat×Nat} (hb:n<=b) (e:w.heap[b]?=some (.cells cs ty fr)):jda k n w b=some cs:=by
 unfold jda
 rw[if_neg (by omega),e]
theorem j7i (env:Env P A T F) (hr:jou F n f vs h0=some (v,hi)) (hf:jhz true hi d v=some u) (hg:jrx vs=true) (rel:Rel A φ h w) (args:Array Value) (ha:All2 (cV A φ) vs args.toList) :
 Calls P f args w (fun e w'=>∃ rv φ',e=.returned rv/\Step (fun n=>h.lo<=n) φ φ' h h w w'/\Rel A φ' h w'/\cV A φ' u rv):=by
 have hk:jxl φ.k w:=rel.con
 haveI:=φ.g
 refine Calls.mono (jty env hr hk args (jxm hg ha rfl)) ?_
 rintro e w' ⟨rv,φi,rfl,s,r,hcv⟩
 have old:∀ b,b<w.heap.size->w'.heap[b]?=w.heap[b]?:=fun b hb=>s.old b hb (fun n l h _=>h.elim)
 have hlt:∀ b cs,φ.k b=some cs->b<w.heap.size:=fun b cs e=>rel.conLt e
 have hkle:∀ b cs,φ.k b=some cs->jda φ.k w.heap.size w' b=some cs:=fun b cs e=>by rw[jg0 (hlt b cs e)];exact e
 have hKi:∀ b cs,φi.k b=some cs->jda φ.k w.heap.size w' b=some cs:=fun b cs e=>by
  rcases f0h b w.heap.size with h1 | h1
  .rw [jg0 h1]
   rcases s.knew b cs e with h2 | h2
   .exact h2
   .omega
  .obtain ⟨ty,h2⟩:=r.con b cs e
   exact jg1 h1 h2
 have hle:φ.le ⟨φ.m,jda φ.k w.heap.size w',φ.g.mono hkle⟩:=⟨fun _ _ e=>e,hkle⟩
 refine⟨rv,⟨φ.m,jda φ.k w.heap.size w',φ.g.mono hkle⟩,rfl,⟨Abs.refl _ rel.wf,fun _ _=>rfl,hkle,fun b cs e=>?_,s.os,s.tape,s.output,s.size,fun b hb _=>old b hb,fun n L hn _ hL=>?_⟩,⟨rel.wf,rel.dom,fun n x hx=>?_,rel.inj,fun b cs e=>?_,fun n L hn hL=>?_⟩,?_⟩
 .rcases jfm e with⟨_,h1⟩ | ⟨h1,_⟩
  .exact .inl h1
  .exact .inr h1
 .rw [show(⟨φ.m,jda φ.k w.heap.size w',φ.g.mono hkle⟩:Phi) n=φ n from rfl,rel.dom n hn] at hL;cases hL
 .refine ((rel.blk n x hx).mono hle).world (fun L hL=>old _ ?_)
  obtain⟨L',hL',hb⟩:=(rel.blk n x hx).some_loc
  have e:L'=L:=Option.some.inj (hL'.symm.trans hL)
  rw[←e];exact hb
 .rcases jfm e with⟨h1,h2⟩ | ⟨_,h2⟩
  .obtain ⟨ty,h3⟩:=rel.con b cs h2
   exact⟨ty,by rw[old b h1];exact h3⟩
  .exact h2
 .obtain ⟨L',hL',hb⟩:=rel.loc hn
  have e:L'=L:=Option.some.inj (hL'.symm.trans hL)
  subst e
  show jda φ.k w.heap.size w' L'.b=none
  rw[jg0 hb]
  exact rel.sep n L' hn hL'
 .refine jme r (ψ:=⟨φ.m,jda φ.k w.heap.size w',φ.g.mono hkle⟩) (fun _=>hKi) (fun n L c ty hn hL hc=>?_) hf hcv
  have h1:h0.next<=n:=by
   have:=Hp.get_isSome hn
   exact WF.one this.2
  rcases s.new n L h1 hn hL with h2 | ⟨_,_,h2,_⟩
  .exact jg1 h2 hc
  .exact h2.elim
end
section
variable {P:Program} {T:Tr TI} {A:Nat->Int} {F:Fns} {φ:Phi} {h h':Hp} {w w':World}
def jzw (k:Bool) (h:Hp) (d:Nat) (l:List AV):Option (List AV) :=
 List.rec (motive:=fun _=>Option (List AV)) (some []) (fun a _ ih=>ob (jhz k h d a) (fun x=>ob ih (fun r=>some (x::r)))) l
theorem jps {k:Bool} (r:Rel A φ h w) {ψ:Phi} (hK:k=true->∀ b cs,φ.k b=some cs->ψ.k b=some cs) (hn:∀ n L c ty,(h.get n).isSome=true->φ n=some L->w.heap[L.b]?=some (.cells c ty (0,0))->ψ.k L.b=some c)
 {d:Nat}:∀ {l us:List AV} {vs:List Value},jzw k h d l=some us->All2 (cV A φ) l vs->All2 (cV A ψ) us vs
 | [],us,vs,hf,ha=>by cases hf;cases ha;exact .nil
 | a::l,us,vs,hf,ha=>by
  obtain⟨x,h1,h2⟩:=jaa.1 (show ob (jhz k h d a) (fun x=>ob (jzw k h d l) (fun r=>some (x::r)))=some us from hf)
  obtain⟨r',h3,h4⟩:=jaa.1 h2
  cases h4
  cases ha with
  | cons h5 h6=>exact .cons (jme r hK hn h1 h5) (jps r hK hn h3 h6)
theorem j5a (env:Env P A T F) {us:List AV} {d':Nat} (hz:jzw true h d vs=some us) (hr:jou F n f us h0=some (v,hi)) (hf:jhz false hi d' v=some u) (rel:Rel A φ h w) (args:Array Value) (ha:All2 (cV A φ) vs args.toList) :
 Calls P f args w (fun e w'=>∃ rv φ',e=.returned rv/\Step (fun n=>h.lo<=n) φ φ' h h w w'/\Rel A φ' h w'/\cV A φ' u rv):=by
 have hk:jxl (jda φ.k 0 w) w:=fun b cs e=>by
  rcases jfm e with⟨h1,_⟩ | ⟨_,h1⟩
  .omega
  .exact h1
 have hKφ:∀ b cs,φ.k b=some cs->jda φ.k 0 w b=some cs:=fun b cs e=>by
  obtain⟨ty,h1⟩:=rel.con b cs e
  exact jg1 (f14 _) h1
 haveI:GK (jda φ.k 0 w):=φ.g.mono hKφ
 have hus:All2 (cV A (qfb (jda φ.k 0 w))) us args.toList:=jps rel (ψ:=qfb (jda φ.k 0 w)) (fun _=>hKφ) (fun n L c ty hn hL hc=>jg1 (k:=φ.k) (f14 _) hc) hz ha
 refine Calls.mono (jty env hr hk args hus) ?_
 rintro e w' ⟨rv,φi,rfl,s,r,hcv⟩
 have old:∀ b,b<w.heap.size->w'.heap[b]?=w.heap[b]?:=fun b hb=>s.old b hb (fun n l h _=>h.elim)
 have hlt:∀ b cs,φ.k b=some cs->b<w.heap.size:=fun b cs e=>rel.conLt e
 have hkle:∀ b cs,φ.k b=some cs->jda φ.k w.heap.size w' b=some cs:=fun b cs e=>by rw[jg0 (hlt b cs e)];exact e
 have hle:φ.le ⟨φ.m,jda φ.k w.heap.size w',φ.g.mono hkle⟩:=⟨fun _ _ e=>e,hkle⟩
 refine⟨rv,⟨φ.m,jda φ.k w.heap.size w',φ.g.mono hkle⟩,rfl,⟨Abs.refl _ rel.wf,fun _ _=>rfl,hkle,fun b cs e=>?_,s.os,s.tape,s.output,s.size,fun b hb _=>old b hb,fun n L hn _ hL=>?_⟩,⟨rel.wf,rel.dom,fun n x hx=>?_,rel.inj,fun b cs e=>?_,fun n L hn hL=>?_⟩,?_⟩
 .rcases jfm e with⟨_,h1⟩ | ⟨h1,_⟩
  .exact .inl h1
  .exact .inr h1
 .rw [show(⟨φ.m,jda φ.k w.heap.size w',φ.g.mono hkle⟩:Phi) n=φ n from rfl,rel.dom n hn] at hL;cases hL
 .refine ((rel.blk n x hx).mono hle).world (fun L hL=>old _ ?_)
  obtain⟨L',hL',hb⟩:=(rel.blk n x hx).some_loc
  have e:L'=L:=Option.some.inj (hL'.symm.trans hL)
  rw[←e];exact hb
 .rcases jfm e with⟨h1,h2⟩ | ⟨_,h2⟩
  .obtain ⟨ty,h3⟩:=rel.con b cs h2
   exact⟨ty,by rw[old b h1];exact h3⟩
  .exact h2
 .obtain ⟨L',hL',hb⟩:=rel.loc hn
  have e:L'=L:=Option.some.inj (hL'.symm.trans hL)
  subst e
  show jda φ.k w.heap.size w' L'.b=none
  rw[jg0 hb]
  exact rel.sep n L' hn hL'
 .refine jme r (ψ:=⟨φ.m,jda φ.k w.heap.size w',φ.g.mono hkle⟩) (fun e=>by cases e) (fun n L c ty hn hL hc=>?_) hf hcv
  have h1:h0.next<=n:=by
   have:=Hp.get_isSome hn
   exact WF.one this.2
  rcases s.new n L h1 hn hL with h2 | ⟨_,_,h2,_⟩
  .exact jg1 h2 hc
  .exact h2.elim
end
def eqL {α:Type} (f:α->α->Bool) (l:List α):List α->Bool :=
 List.rec (motive:=fun _=>List α->Bool) (fun r=>List.casesOn (motive:=fun _=>Bool) r true (fun _ _=>false)) (fun a _ ih r=>List.casesOn (motive:=fun _=>Bool) r false (fun b r'=>oif (f a b) (ih r') false)) l
theorem jfn {α:Type} {f:α->α->Bool} (hf:∀ a b,f a b=true->a=b):∀ {l r:List α},eqL f l r=true->l=r
 | [],[],_=>rfl
 | [],_::_,h=>by cases h
 | _::_,[],h=>by cases h
 | a::l,b::r,h=>by
  have h':oif (f a b) (eqL f l r) false=true:=h
  rw[jap] at h'
  split at h'
  .rename_i h1
   rw[hf a b h1,jfn hf h']
  .cases h'
def qh6 (a b:Bool):Bool:=oif a b (jhd b)
theorem jmf {a b:Bool} (h:qh6 a b=true):a=b:=by cases a<;>cases b<;>first | rfl | cases h
theorem qc0 (a b:UInt8) (h:Nat.beq (UInt8.toNat a) (UInt8.toNat b)=true):a=b:=by
 rw[jgt] at h
 exact UInt8.toNat_inj.1 h
def eqS (d:Nat):SV->SV->Bool :=
 Nat.rec (motive:=fun _=>SV->SV->Bool) (fun _ _=>false)
  (fun _ ih x y=>SV.casesOn (motive_1:=fun _=>Bool) x
   (fun b=>SV.casesOn (motive_1:=fun _=>Bool) y (fun c=>qh6 b c) (fun _ _=>false) (fun _=>false) (fun _ _=>false) false (fun _ _ _ _ _ _=>false) false (fun _ _=>false) false false (fun _=>false) (fun _=>false) (fun _=>false) (fun _=>false) false (fun _=>false))
   (fun k m=>SV.casesOn (motive_1:=fun _=>Bool) y (fun _=>false) (fun q n=>oif (Nat.beq (ikn k) (ikn q)) (ieq m n) false) (fun _=>false) (fun _ _=>false) false (fun _ _ _ _ _ _=>false) false (fun _ _=>false) false false (fun _=>false) (fun _=>false) (fun _=>false) (fun _=>false) false (fun _=>false))
   (fun e=>SV.casesOn (motive_1:=fun _=>Bool) y (fun _=>false) (fun _ _=>false) (fun g=>j59 e g) (fun _ _=>false) false (fun _ _ _ _ _ _=>false) false (fun _ _=>false) false false (fun _=>false) (fun _=>false) (fun _=>false) (fun _=>false) false (fun _=>false))
   (fun _ _=>false)
   (SV.casesOn (motive_1:=fun _=>Bool) y (fun _=>false) (fun _ _=>false) (fun _=>false) (fun _ _=>false) true (fun _ _ _ _ _ _=>false) false (fun _ _=>false) false false (fun _=>false) (fun _=>false) (fun _=>false) (fun _=>false) false (fun _=>false))
   (fun _ _ _ _ _ _=>false)
   (SV.casesOn (motive_1:=fun _=>Bool) y (fun _=>false) (fun _ _=>false) (fun _=>false) (fun _ _=>false) false (fun _ _ _ _ _ _=>false) true (fun _ _=>false) false false (fun _=>false) (fun _=>false) (fun _=>false) (fun _=>false) false (fun _=>false))
   (fun _ _=>false)
   (SV.casesOn (motive_1:=fun _=>Bool) y (fun _=>false) (fun _ _=>false) (fun _=>false) (fun _ _=>false) false (fun _ _ _ _ _ _=>false) false (fun _ _=>false) true false (fun _=>false) (fun _=>false) (fun _=>false) (fun _=>false) false (fun _=>false))
   (SV.casesOn (motive_1:=fun _=>Bool) y (fun _=>false) (fun _ _=>false) (fun _=>false) (fun _ _=>false) false (fun _ _ _ _ _ _=>false) false (fun _ _=>false) false true (fun _=>false) (fun _=>false) (fun _=>false) (fun _=>false) false (fun _=>false))
   (fun _=>false)
   (fun l=>SV.casesOn (motive_1:=fun _=>Bool) y (fun _=>false) (fun _ _=>false) (fun _=>false) (fun _ _=>false) false (fun _ _ _ _ _ _=>false) false (fun _ _=>false) false false (fun _=>false) (fun r=>eqL (fun a b=>Nat.beq (UInt8.toNat a) (UInt8.toNat b)) l r) (fun _=>false) (fun _=>false) false (fun _=>false))
   (fun l=>SV.casesOn (motive_1:=fun _=>Bool) y (fun _=>false) (fun _ _=>false) (fun _=>false) (fun _ _=>false) false (fun _ _ _ _ _ _=>false) false (fun _ _=>false) false false (fun _=>false) (fun _=>false) (fun r=>eqL (eqL ih) l r) (fun _=>false) false (fun _=>false))
   (fun _=>false) false (fun _=>false)) d
theorem jxn:∀ (d:Nat) (x y:SV),eqS d x y=true->x=y
 | 0,x,y,h=>by cases h
 | d+1,x,y,h=>by
  cases x with
  | bool b=>cases y with
   | bool c=>exact congrArg _ (jmf h)
   | _=>cases h
  | int k m=>cases y with
   | int q n =>
    have h':oif (Nat.beq (ikn k) (ikn q)) (ieq m n) false=true:=h
    rw[jap] at h'
    split at h'
    .rename_i h1
     rw[jc0] at h'
     rw[jlz h1,of_decide_eq_true h']
    .cases h'
   | _=>cases h
  | sym e=>cases y with
   | sym g=>exact congrArg _ (jl0 _ _ h)
   | _=>cases h
  | nilPtr=>cases y with
   | nilPtr=>rfl
   | _=>cases h
  | nilSlice=>cases y with
   | nilSlice=>rfl
   | _=>cases h
  | nilFunc=>cases y with
   | nilFunc=>rfl
   | _=>cases h
  | nilMap=>cases y with
   | nilMap=>rfl
   | _=>cases h
  | str l=>cases y with
   | str r=>exact congrArg _ (jfn qc0 h)
   | _=>cases h
  | lst l=>cases y with
   | lst r=>exact congrArg _ (jfn (fun a b hab=>jfn (jxn d) hab) h)
   | _=>cases h
  | _=>cases h
structure Row where
 f:FuncId
 us:List AV
 u:AV
end
end Go.Proofs.YtdbklpgagdbpiaaDoor.Ev
