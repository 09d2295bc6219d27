/- A range over a function, in whose rounds the interpreter runs the body: what a round is, in the fence. No program in sight. -/
import Derived.Test.YtdbklpgagdbpiaaDoorRun
import Derived.RangeFuncLeaves
import Derived.RangeFuncFrom
import Derived.RangeFuncCalls
import Derived.LoopNIn
import Derived.OrdersIn
import Derived.Test.YtdbklpgagdbpiaaDoorFlo
namespace Go.Proofs.YtdbklpgagdbpiaaDoor.Ev
noncomputable section
open Go Go.RowKit
set_option linter.all false
variable {fl:Bool} {fr:List AV} {c es:List SV} {N b d l o bs nt off nargs nslots:Nat} {w'':World}
def j24:Op->Bool
 | .defer _=>false
 | _=>true
theorem jvl {o:Op} (h:j24 o=true):∀ c,o≠.defer c:=by
 rintro c rfl;cases h
section
variable {P:Program}
theorem j5r {o:Oper} {a:Act} {w:World} {K:Act->World->Prop} {Q:Exit->Act->World->Prop} {n:Nat} (hd:∀ c,o.op≠.defer c) (h:o.wp P a w K Q):o.wpIn (Fence.wide.inRound l) n P a w K Q:=by
 refine⟨fun _ _=>trivial,?_⟩
 have e:o.semAt (Fence.wide.inRound l).round a.eval=execOp a.eval o:=Oper.semAt_some l a.eval o hd
 rw[e]
 unfold Oper.wp at h
 cases hr:(execOp a.eval o).run P w with
 | ok x w' =>
  rw[hr] at h
  cases x with
  | value v=>exact h
  | skip=>exact h
  | defer d=>exact h
  | enter f args=>exact⟨fun e=>(by cases e),CallsIn.inRound l (callsIn_wide.2 h)⟩
  | row r args =>
   refine⟨fun e=>(by cases e),fun c cs _=>?_⟩
   obtain⟨v,w'',h1,h2⟩:=(show Rows P r args w' _ from h) c cs
   exact⟨v,w'',h1,stepsIn_wide.2 h2⟩
  | _=>exact(show False from h).elim
 | halt x w' =>
  rw[hr] at h
  cases x<;>exact h
theorem jcv {ops:Array Oper} {Q:Exit->Act->World->Prop} {n:Nat} (hlo:¬ LetsOut Q) (hd:∀ (i:Nat) (o:Oper),ops[i]?=some o->∀ c,o.op≠.defer c) :
 ∀ (is:List Nat) (a:Act) (w:World),wpOps P ops Q is a w->wpOpsIn (Fence.wide.inRound l) n P ops Q is a w
 | [],a,w,h=>h
 | i::rest,a,w,h=>by
  simp only[wpOps] at h
  simp only[wpOpsIn]
  cases ho:ops[i]? with
  | none=>rw[ho] at h;exact jcv hlo hd rest a w h
  | some o =>
   rw[ho] at h
   simp only at h ⊢
   split at h
   .rename_i hw
    rw[if_pos hw]
    rcases h with h | ⟨_,h⟩
    .exact Oper.wpIn_mono (fun a w h=>jcv hlo hd rest a w h) (j5r (hd i o ho) h)
    .exact absurd h hlo
   .rename_i hw
    rw[if_neg hw]
    exact⟨fun _ _=>trivial,jcv hlo hd rest _ w h⟩
end
def ji8:Code->Bool
 | .skip=>true
 | .region _ ops false=>ops.toList.all (fun o=>j24 o.op)
 | .seq a b=>ji8 a&&ji8 b
 | .cond _ a b=>ji8 a&&ji8 b
 | .block _ b=>ji8 b
 | .loop b=>ji8 b
 | .exit _=>true
 | .ret=>true
 | _=>false
section
variable {P:Program} {A:Nat->Int} {T:Tr TI} {F:Fns}
def qjh (P:Program) (A:Nat->Int) (T:Tr TI) (F:Fns) (l m n:Nat):Prop :=
 ∀ ic fr h e s,run F n ic (.mk fr h)=some (e,s)->∀ code π nt,jed T [] π nt code=some ic->ji8 code=true->∀ φ a w,Rel A φ h w->FrR A φ π fr a->nt<=a.tmps.size->∀ Q,qh3 A π φ h w a e s Q->code.wpIn (Fence.wide.inRound l) m P Q a w
def j25 (P:Program) (A:Nat->Int) (T:Tr TI) (F:Fns) (l m n:Nat):Prop :=
 ∀ ib fr h e s,run F n (.loop ib) (.mk fr h)=some (e,s)->∀ code π nt,jed T [] π nt code=some ib->ji8 code=true->∀ φ a w,Rel A φ h w->FrR A φ π fr a->nt<=a.tmps.size->∀ Q,qh3 A π φ h w a e s Q->Code.roundsIn (Fence.wide.inRound l) m P code Q n a w
theorem j1c (env:Env P A T F) (l m:Nat):∀ n,qjh P A T F l m n/\j25 P A T F l m n:=by
 intro n
 induction n with
 | zero=>exact⟨fun ic fr h e s hr=>(by cases hr),fun ic fr h e s hr=>(by cases hr)⟩
 | succ n ih =>
  obtain⟨ih1,ih2⟩:=ih
  have hb:∀ f,(Fence.wide.inRound l).fn f:=fun _=>trivial
  have hcl:=jej env (jgz env n).1
  have hL:j25 P A T F l m (n+1):=by
   intro ib fr h e s hr code π nt hc hfl φ a w rel hf hnt Q hQ
   obtain⟨p,h1,h2⟩:=jaa.1 (show ob (run F n ib (.mk fr h)) (fun p=>Ex.casesOn (motive:=fun _=>Option (Ex×St)) p.1 (run F n (.loop ib) p.2) (fun _=>some p) (some p))=some (e,s) from hr)
   obtain⟨e1,s1⟩:=p
   rw[roundsIn_succ]
   refine ih1 _ _ _ _ _ h1 code π nt hc hfl φ a w rel hf hnt _ ?_
   intro φ' fr' h' a' w' es st r1 f1 d1 z1
   subst es
   cases e1 with
   | normal=>exact ih2 _ _ _ _ _ h2 code π nt hc hfl φ' a' w' r1 f1 (by rw[z1];exact hnt) Q (hQ.trans st d1 z1)
   | exit id=>cases h2;exact hQ φ' fr' h' a' w' rfl st r1 f1 d1 z1
   | ret=>cases h2;exact hQ φ' fr' h' a' w' rfl st r1 f1 d1 z1
  refine⟨?_,hL⟩
  intro ic fr h e s hr code π nt hc hfl φ a w rel hf hnt Q hQ
  cases code with
  | skip =>
   cases hc
   cases hr
   exact wpIn_skip (hQ φ fr h a w rfl (Step.refl _ rel rfl rfl rfl rfl) rel hf rfl rfl)
  | region id ops draw =>
   cases draw with
   | false =>
    obtain⟨k,hl,e⟩:=f0a.1 (show(jgi T π nt [] 0 ops.toList).map .region=some ic from by have hc':(bif qe3 [] ops.toList then (jf6 T [] π nt none [] ops.toList).map IC.region else (jgi T π nt [] 0 ops.toList).map IC.region)=some ic:=hc;rw[j2p] at hc';exact hc')
    subst e
    obtain⟨s1,h1,h2⟩:=jaa.1 (show ob (jru (jbr F (run F n)) k [] fr h) (fun s=>some (.normal,s))=some (e,s) from hr)
    cases h2
    refine wpIn_mono (Q:=fun e a' w'=>e=.normal/\Q .normal a' w') (wpIn_region (jcv (by rintro⟨_,_,h,_⟩;cases h) (fun i o ho=>jvl (f3b.1 hfl o (by rw[←f02] at ho;exact f0c ho))) _ a w ?_)) (fun e a' w' h=>by obtain⟨rfl,h⟩:=h;exact h)
    have hrange:List.range ops.size=List.range' 0 ops.toList.length:=by rw[List.range_eq_range'];simp
    rw[hrange]
    refine jmb env.tys hcl ops.toList 0 k [] fr h _ φ a w (fun j o hj=>by rw[f0z,←f02];exact hj) (by simp) hl h1 rel hf (fun t i v hi=>by cases hi) hnt (fun j d hj=>by omega) ?_
    intro φ' fr' h' a' w' es st r1 f1 d1 z1
    exact⟨rfl,hQ φ' fr' h' a' w' es st r1 f1 d1 z1⟩
   | true=>cases hfl
  | seq x y =>
   obtain⟨hx',hy'⟩:ji8 x=true/\ji8 y=true:=by simpa only[ji8,f0y] using hfl
   simp only[jed] at hc
   split at hc
   .rename_i cx cy hx hy
    cases hc
    obtain⟨p,h1,h2⟩:=jaa.1 (show ob (run F n cx (.mk fr h)) (fun p=>Ex.casesOn (motive:=fun _=>Option (Ex×St)) p.1 (run F n cy p.2) (fun _=>some p) (some p))=some (e,s) from hr)
    obtain⟨e1,s1⟩:=p
    refine wpIn_seq (ih1 _ _ _ _ _ h1 x π nt hx hx' φ a w rel hf hnt _ ?_)
    intro φ' fr' h' a' w' es st r1 f1 d1 z1
    subst es
    cases e1 with
    | normal=>exact ih1 _ _ _ _ _ h2 y π nt hy hy' φ' a' w' r1 f1 (by rw[z1];exact hnt) Q (hQ.trans st d1 z1)
    | exit id=>cases h2;exact hQ φ' fr' h' a' w' rfl st r1 f1 d1 z1
    | ret=>cases h2;exact hQ φ' fr' h' a' w' rfl st r1 f1 d1 z1
   .cases hc
  | cond c x y =>
   obtain⟨hx',hy'⟩:ji8 x=true/\ji8 y=true:=by simpa only[ji8,f0y] using hfl
   simp only[jed] at hc
   split at hc
   .rename_i c' cx cy hc' hx hy
    cases hc
    obtain⟨v,h1,h2⟩:=jaa.1 (show ob (ev [] fr c') (fun v=>jhe v (fun t=>run F n (oif t cx cy) (.mk fr h)))=some (e,s) from hr)
    obtain⟨t,rfl,h3⟩:=jcx h2
    have hE:=jhj (A:=A) (φ:=φ) (loc:=[]) (st:=[]) hf (fun t i v hi=>by cases hi) [c]
    have hcv:a.eval c=.bool t:=hE c (by simp) _ _ hc' h1
    refine wpIn_cond hcv ?_
    rw[jap] at h3
    cases t with
    | true=>exact ih1 _ _ _ _ _ h3 x π nt hx hx' φ a w rel hf hnt Q hQ
    | false=>exact ih1 _ _ _ _ _ h3 y π nt hy hy' φ a w rel hf hnt Q hQ
   .cases hc
  | block id b =>
   obtain⟨ib,hb',e⟩:=f0a.1 (show(jed T [] π nt b).map (.block id)=some ic from hc)
   subst e
   obtain⟨p,h1,h2⟩:=jaa.1 (show ob (run F n ib (.mk fr h)) (fun p=>Ex.casesOn (motive:=fun _=>Option (Ex×St)) p.1 (some p) (fun k=>oif (Nat.beq k id) (some (.normal,p.2)) (some p)) (some p))=some (e,s) from hr)
   obtain⟨e1,s1⟩:=p
   refine wpIn_block (ih1 _ _ _ _ _ h1 b π nt hb' hfl φ a w rel hf hnt _ ?_)
   intro φ' fr' h' a' w' es st r1 f1 d1 z1
   subst es
   cases e1 with
   | normal=>cases h2;exact hQ φ' fr' h' a' w' rfl st r1 f1 d1 z1
   | exit j =>
    have h2':oif (Nat.beq j id) (some (Ex.normal,St.mk fr' h')) (some (.exit j,.mk fr' h'))=some (e,s):=h2
    rw[jap] at h2'
    show if j=id then Q .normal a' w' else Q (.exit j) a' w'
    split at h2'
    .rename_i hj
     rw[jgt] at hj
     cases h2'
     rw[if_pos hj]
     exact hQ φ' fr' h' a' w' rfl st r1 f1 d1 z1
    .rename_i hj
     rw[jgt] at hj
     cases h2'
     rw[if_neg hj]
     exact hQ φ' fr' h' a' w' rfl st r1 f1 d1 z1
   | ret=>cases h2;exact hQ φ' fr' h' a' w' rfl st r1 f1 d1 z1
  | loop b =>
   obtain⟨ib,hb',e⟩:=f0a.1 (show(jed T [] π nt b).map .loop=some ic from hc)
   subst e
   exact wpIn_loop_rounds (n+1) (hL _ _ _ _ _ hr b π nt hb' hfl φ a w rel hf hnt Q hQ)
  | exit id =>
   cases hc
   cases hr
   exact wpIn_exit (hQ φ fr h a w rfl (Step.refl _ rel rfl rfl rfl rfl) rel hf rfl rfl)
  | ret =>
   cases hc
   cases hr
   exact wpIn_ret (hQ φ fr h a w rfl (Step.refl _ rel rfl rfl rfl rfl) rel hf rfl rfl)
  | _=>cases hfl
end
def qv6 (v:SV):Option (IntKind×Int):=SV.casesOn (motive_1:=fun _=>Option (IntKind×Int)) v (fun _=>none) (fun k n=>some (k,n)) (fun _=>none) (fun _ _=>none) none (fun _ _ _ _ _ _=>none) none (fun _ _=>none) none none (fun _=>none) (fun _=>none) (fun _=>none) (fun _=>none) none (fun _=>none)
def qdk (a b:SV):Bool:=Option.rec (motive:=fun _=>Bool) false (fun p=>Option.rec (motive:=fun _=>Bool) false (fun q=>oif (Nat.beq (ikn p.1) (ikn q.1)) (ieq p.2 q.2) false) (qv6 b)) (qv6 a)
def j6b (l:List SV):List SV->Bool :=
 List.rec (motive:=fun _=>List SV->Bool) (fun r=>List.casesOn (motive:=fun _=>Bool) r true (fun _ _=>false)) (fun a _ ih r=>List.casesOn (motive:=fun _=>Bool) r false (fun b r=>oif (qdk a b) (ih r) false)) l
def jvm:SV->Value
 | .int k n=>.int k n
 | _=>undef
theorem jsx {a b:SV} (h:qdk a b=true):a=b/\∃ k n,a=.int k n:=by
 cases a with
 | int k m =>
  cases b with
  | int k' n =>
   have h':oif (Nat.beq (ikn k) (ikn k')) (ieq m n) false=true:=h
   rw[jap] at h'
   split at h'
   .rename_i h1
    obtain rfl:=jlz h1
    rw[jc0,decide_eq_true_eq] at h'
    subst h'
    exact⟨rfl,_,_,rfl⟩
   .cases h'
  | _=>cases h
 | _=>cases h
theorem jld:∀ {l r:List SV},j6b l r=true->l=r/\∀ (A:Nat->Int) (φ:Phi) (vs:List Value),All2 (cS A φ) l vs->vs=l.map jvm
 | [],[],_=>⟨rfl,fun A φ vs ha=>by cases ha;rfl⟩
 | [],_::_,h=>by cases h
 | _::_,[],h=>by cases h
 | a::l,b::r,h=>by
  have h':oif (qdk a b) (j6b l r) false=true:=h
  rw[jap] at h'
  split at h'
  .rename_i h1
   obtain⟨rfl,k,n,rfl⟩:=jsx h1
   obtain⟨rfl,h2⟩:=jld h'
   refine⟨rfl,fun A φ vs ha=>?_⟩
   cases ha with
   | cons hx hr =>
    cases (show _=Value.int k n from hx)
    rw[h2 A φ _ hr]
    rfl
  .cases h'
def qt3 (b off len:Nat) (c:List SV):Bool :=
 List.casesOn (motive:=fun _=>Bool) c false (fun v r=>List.casesOn (motive:=fun _=>Bool) r
  (SV.casesOn (motive_1:=fun _=>Bool) v (fun _=>false) (fun _ _=>false) (fun _=>false) (fun _ _=>false) false (fun b' o n _ _ z=>oif (Nat.beq b b') (oif (Nat.beq off o) (oif (Nat.beq len n) (Nat.beq z 1) false) false) false) false (fun _ _=>false) false false (fun _=>false) (fun _=>false) (fun _=>false) (fun _=>false) false (fun _=>false))
  (fun _ _=>false))
theorem j88 {len:Nat} (h:qt3 b off len c=true):∃ mc ex,c=[.slice b off len mc ex 1]:=by
 match c,h with
 | [v],h =>
  cases v with
  | slice b' o n mc ex z =>
   have h':oif (Nat.beq b b') (oif (Nat.beq off o) (oif (Nat.beq len n) (Nat.beq z 1) false) false) false=true:=h
   simp only[jap] at h'
   split at h'
   .rename_i h1
    split at h'
    .rename_i h2
     split at h'
     .rename_i h3
      rw[jgt] at h1 h2 h3 h'
      subst h1 h2 h3 h'
      exact⟨mc,ex,rfl⟩
     .cases h'
    .cases h'
   .cases h'
  | _=>cases h
 | [],h=>cases h
 | _::_::_,h=>cases h
section
variable (F:Fns) (fuel:Nat)
def qt4 (es:List SV) (c:List SV):Bool :=
 List.casesOn (motive:=fun _=>Bool) c false (fun v r=>List.casesOn (motive:=fun _=>Bool) r
  (SV.casesOn (motive_1:=fun _=>Bool) v (fun _=>false) (fun _ _=>false) (fun _=>false) (fun _ _=>false) false (fun _ _ _ _ _ _=>false) false (fun _ _=>false) false false (fun _=>false) (fun _=>false)
   (fun rows=>Option.rec (motive:=fun _=>Bool) false (fun l=>j6b l es) (jww 1 rows)) (fun _=>false) false (fun _=>false))
  (fun _ _=>false))
def j1d (h:Hp) (bs off b o N:Nat) (es:List SV):Bool :=
 Option.rec (motive:=fun _=>Bool) false (fun c=>oif (qt3 b o N c) (Option.rec (motive:=fun _=>Bool) false (fun c=>j6b c es) (rd h b o N)) (oif (Nat.beq (jb2 es) N) (qt4 es c) false)) (rd h bs off 1)
def rounds (body:IC) (fr:List AV) (d bs off b o N:Nat) (es:List SV) (k:Nat):Hp->Option Hp :=
 Nat.rec (motive:=fun _=>Hp->Option Hp) (fun h=>some h) (fun j ih h=>ob (jec es j) (fun e=>ob (run F fuel body (.mk (jr8 fr d (.s e)) h)) (fun p =>
  Ex.casesOn (motive:=fun _=>Option Hp) p.1 (St.casesOn (motive:=fun _=>Option Hp) p.2 (fun _ h'=>oif (j1d h' bs off b o N es) (ih h') none)) (fun _=>none) none))) k
end
theorem j89 (h:qt4 es c=true):∃ rows,c=[.lst rows]/\jww 1 rows=some es/\j6b es es=true:=by
 match c,h with
 | [v],h =>
  cases v with
  | lst rows =>
   have h':Option.rec (motive:=fun _=>Bool) false (fun l=>j6b l es) (jww 1 rows)=true:=h
   cases hf:jww 1 rows with
   | none=>rw[hf] at h';cases h'
   | some l =>
    rw[hf] at h'
    obtain⟨rfl,_⟩:=jld (show j6b l es=true from h')
    exact⟨rows,rfl,hf,h'⟩
  | _=>cases h
 | [],h=>cases h
 | _::_::_,h=>cases h
theorem jvn:∀ {l r:List SV},j6b l r=true->∀ (A:Nat->Int) (φ:Phi),All2 (cS A φ) l (l.map jvm)
 | [],_,_,_,_=>.nil
 | _::_,[],h,_,_=>by cases h
 | a::l,b::r,h,A,φ=>by
  have h':oif (qdk a b) (j6b l r) false=true:=h
  rw[jap] at h'
  split at h'
  .rename_i h1
   obtain⟨rfl,k,n,rfl⟩:=jsx h1
   exact .cons rfl (jvn h' A φ)
  .cases h'
theorem jx0 {h:Hp} (k:j1d h bs off b o N es=true):((∃ mc ex,rd h bs off 1=some [.slice b o N mc ex 1]/\rd h b o N=some es)∨∃ rows,rd h bs off 1=some [.lst rows]/\jww 1 rows=some es/\es.length=N)/\∀ (A:Nat->Int) (φ:Phi),All2 (cS A φ) es (es.map jvm)/\∀ (vs:List Value),All2 (cS A φ) es vs->vs=es.map jvm:=by
 unfold j1d at k
 cases h1:rd h bs off 1 with
 | none=>rw[h1] at k;cases k
 | some c =>
  rw[h1] at k
  have k':oif (qt3 b o N c) (Option.rec (motive:=fun _=>Bool) false (fun c=>j6b c es) (rd h b o N)) (oif (Nat.beq (jb2 es) N) (qt4 es c) false)=true:=k
  rw[jap] at k'
  split at k'
  .rename_i h2
   obtain⟨mc,ex,rfl⟩:=j88 h2
   cases h3:rd h b o N with
   | none=>rw[h3] at k';cases k'
   | some c2 =>
    rw[h3] at k'
    obtain⟨rfl,h4⟩:=jld (show j6b c2 es=true from k')
    exact⟨.inl ⟨mc,ex,rfl,rfl⟩,fun A φ=>⟨jvn (show j6b c2 c2=true from k') A φ,h4 A φ⟩⟩
  .rw [jap] at k'
   split at k'
   .rename_i h2 h3
    obtain⟨rows,rfl,h4,h5⟩:=j89 k'
    rw[jgt,ja7] at h3
    exact⟨.inr ⟨rows,rfl,h4,h3⟩,fun A φ=>⟨jvn h5 A φ,(jld h5).2 A φ⟩⟩
   .cases k'
def qom (P:Program) (gf:FuncId):Prop :=
 qe5 P gf/\∀ (box:Addr) (N:Nat) (vs:List Value) (m l:Nat) (J:Nat->World->Prop) (W:World),vs.length=N->N<=1000000 ->
  (∀ k W W',W'.heap=W.heap->W'.os=W.os->W'.tape=W.tape->W'.output=W.output->J k W->J k W') ->
  (∀ k W,J k W->∃ ad cap,W.cell? box=some (.slice (some ad) N cap)/\∀ j v,vs[j]?=some v->W.cell? (ad.add j)=some v) ->
  (∀ k v W1,k<N->vs[N - 1 - k]?=some v->J k W1->YieldAt Fence.wide m P l #[.int .i64 ((N - 1 - k:Nat):Int),v] W1 fun e W'=>e=.returned (.bool true)/\J (k+1) W') ->
  J 0 W->CallsIn Fence.wide (m+1) P gf #[.func (.yield l) #[] #[],.pointer (some box)] W fun e W'=>(∃ v,e=.returned v)/\J N W'
section
variable {P:Program} {A:Nat->Int} {φ φ':Phi} {h h':Hp} {w W:World}
theorem Rel.putObj (k:Rel A φ h w) {o:Obj} (hl:w.heap[l]?=some o) (h1:∀ c t z,o≠.cells c t z) (h2:∀ e c,o≠.map e c) (o':Obj):Rel A φ h (w.putObj l o'):=by
 refine⟨k.wf,k.dom,fun n x hx=>(k.blk n x hx).world (fun L hL=>?_),k.inj,fun b cs e=>?_,k.sep⟩
 rotate_left
 .obtain ⟨ty,h9⟩:=k.con b cs e
  refine⟨ty,?_⟩
  rw[World.putObj_heap_other (fun e'=>by rw[e',hl] at h9;exact h1 _ _ _ (Option.some.inj h9))]
  exact h9
 refine World.putObj_heap_other (fun e=>?_)
 have hb:=k.blk n x hx
 cases x with
 | arr cs ty =>
  obtain⟨L',c,e1,e2,_⟩:=hb
  rw[hL] at e1;cases e1
  rw[e,hl] at e2
  exact h1 _ _ _ (Option.some.inj e2)
 | map va es =>
  obtain⟨L',es',cl,e1,e2,_⟩:=hb
  rw[hL] at e1;cases e1
  rw[e,hl] at e2
  exact h2 _ _ (Option.some.inj e2)
theorem Rel.notObj (k:Rel A φ h w) {o:Obj} (hl:w.heap[l]?=some o) (h1:∀ c t z,o≠.cells c t z) (h2:∀ e c,o≠.map e c) {n:Nat} {L:Lc} (hn:(h.get n).isSome=true) (hL:φ n=some L):L.b≠l:=by
 intro e
 cases hx:h.get n with
 | none=>rw[hx] at hn;cases hn
 | some x =>
  have hb:=k.blk n x hx
  cases x with
  | arr cs ty =>
   obtain⟨L',c,e1,e2,_⟩:=hb
   rw[hL] at e1;cases e1
   rw[e,hl] at e2
   exact h1 _ _ _ (Option.some.inj e2)
  | map va es =>
   obtain⟨L',es',cl,e1,e2,_⟩:=hb
   rw[hL] at e1;cases e1
   rw[e,hl] at e2
   exact h2 _ _ (Option.some.inj e2)
theorem Step.putObj {V:Nat->Prop} (s:Step V φ φ' h h' w W) (hl:w.heap.size<=l) (o':Obj):Step V φ φ' h h' w (W.putObj l o'):=by
 have hsz:(W.putObj l o').heap.size=W.heap.size:=by simp[World.putObj]
 exact⟨s.abs,s.ext,s.kle,s.knew,s.os,s.tape,s.output,(by rw[hsz];exact s.size),fun b hb hv=>(World.putObj_heap_other (by omega)).trans (s.old b hb hv),s.new⟩
theorem Step.allocObj {V:Nat->Prop} (s:Step V φ φ' h h' w W) (o':Obj):Step V φ φ' h h' w (W.alloc o'):=by
 have hs:(W.alloc o').heap.size=W.heap.size+1:=by simp
 refine⟨s.abs,s.ext,s.kle,s.knew,s.os,s.tape,s.output,by rw[hs];have:=s.size;omega,fun b hb hv=>?_,s.new⟩
 rw[(MapKept.heap_alloc W o').2 b (f0m hb s.size)]
 exact s.old b hb hv
theorem Rel.allocObj (k:Rel A φ h w) (o':Obj):Rel A φ h (w.alloc o') :=
 ⟨k.wf,k.dom,fun n x hx=>(k.blk n x hx).world (fun L hL=>by
  obtain⟨L',hL',hb⟩:=(k.blk n x hx).some_loc
  rw[hL] at hL';cases hL'
  exact(MapKept.heap_alloc w o').2 _ hb),k.inj,fun b cs e=>by
  obtain⟨ty,h9⟩:=k.con b cs e
  exact⟨ty,by rw[(MapKept.heap_alloc w o').2 b (k.conLt e)];exact h9⟩,k.sep⟩
end
section
variable {P:Program} {A:Nat->Int} {T:Tr TI} {F:Fns}
theorem j5s (env:Env P A T F) {fuel:Nat} {g:Operand} {tk tv d0 id:Nat} {o1:Oper} {body:Code} {ib:IC} {π:List Nat} {gf:FuncId}
 (hit:qom P gf) (ho1:o1.op=.assign (.tmp tv)) (hd1:o1.dst=some d0) (hg1:o1.guard=none) (hfl:ji8 body=true) (hc:jed T [] π nt body=some ib)
 (hd:idx d0 π 0=some d) (hk:idx tk π 0=none) (hv:idx tv π 0=none) (hkv:tk≠tv) (hbd:d0<nt) (hbv:tv<nt)
 {φ:Phi} {h:Hp} {w:World} {a:Act} {fr:List AV} (rel:Rel A φ h w) (hf:FrR A φ π fr a) (hnt:nt<=a.tmps.size)
 {bs off b o N:Nat} {es:List SV} {hfin:Hp} (hN:0<N) (hN2:N<=1000000) {box:Addr} (hgv:a.eval g=.func (.func gf) #[] #[.pointer (some box)]) (hbox:jnf φ bs off (.pointer (some box)))
 (has:j1d h bs off b o N es=true) (hr:rounds F fuel ib fr d bs off b o N es N h=some hfin) {Q:Exit->Act->World->Prop}
 (hQ:∀ φ' w' D,Step (fun n=>h.lo<=n) φ φ' h hfin w w'->Rel A φ' hfin w'->w.heap.size<=D->w'.heap[D]?=some (.deferred (some []))->Q .normal { a with defers:={ target:=.collected D,args:=#[] }::a.defers } w') :
 (Code.rangeFunc g #[tk,tv] (.region id #[o1] false) body).wp P Q a w:=by
 refine(wpIn_wide (n:=2)).1 (wpIn_rangeFunc ?_)
 intro fn _
 obtain⟨hsrc,hes⟩:=jx0 has
 have hall:=(hes A φ).1
 obtain⟨vs0,hvs0⟩:∃ vs0,es.map jvm=vs0:=⟨_,rfl⟩
 rw[hvs0] at hall
 have hvs0:=hvs0.symm
 have hlen:(es.map jvm).length=N:=by
  rcases hsrc with⟨mc,ex,hr1,hr2⟩ | ⟨rows,hr1,hr2,hr3⟩
  .obtain ⟨L,vs1,_,_,hall1,hlen0,_⟩:=je4 rel hr2
   rw[←(hes A φ).2 vs1 hall1];exact hlen0
  .rw [f1d];exact hr3
 obtain⟨Lx,hLx,hbx⟩:=hbox
 have hbx':box=⟨Lx.b,Lx.o+off,none⟩:=by simpa using hbx
 have hbsn:bs<h.next:=by
  rcases f0h bs h.next with h1 | h1
  .exact h1
  .rw [rel.dom bs h1] at hLx;cases hLx
 obtain⟨rec,hrec⟩:∃ rec:LoopState->Option Code->Loop,rec=fun st pe=>{ state:=st,pending:=pe,fn,tmps:=a.tmps,params:=#[tk,tv],assign:=.region id #[o1] false,body,defers:=w.heap.size }:=⟨_,rfl⟩
 let J:Nat->World->Prop:=fun k W=>∃ φ' h',rounds F fuel ib fr d bs off b o N es (N - k) h'=some hfin/\j1d h' bs off b o N es=true/\Step (fun n=>h.lo<=n) φ φ' h h' w W/\Rel A φ' h' W /\
  W.heap[w.heap.size+1]?=some (.loop (rec .ready none))/\W.heap[w.heap.size]?=some (.deferred (some []))
 have hframe:∀ k W W',W'.heap=W.heap->W'.os=W.os->W'.tape=W.tape->W'.output=W.output->J k W->J k W':=by
  rintro k W W' e1 e2 e3 e4 ⟨φ',h',q1,q2,s,r,q3,q4⟩
  refine⟨φ',h',q1,q2,⟨s.abs,s.ext,s.kle,s.knew,e2.trans s.os,e3.trans s.tape,e4.trans s.output,by rw[e1];exact s.size,fun p hp hv=>by rw[e1];exact s.old p hp hv,s.new⟩,r.heap e1,by rw[e1];exact q3,by rw[e1];exact q4⟩
 have hcells:∀ k W,J k W->∃ ad cap,W.cell? box=some (.slice (some ad) N cap)/\∀ j v,(es.map jvm)[j]?=some v->W.cell? (ad.add j)=some v:=by
  rintro k W ⟨φ',h',q1,q2,s,r,q3,q4⟩
  obtain⟨q5,q6⟩:=jx0 q2
  rcases q5 with⟨mc',ex',t1,t2⟩ | ⟨rows,t1,t2,t3⟩
  .obtain ⟨L1,us,u1,_,u2,u3,u4⟩:=je4 r t1
   rw[s.ext bs hbsn,hLx] at u1
   cases u1
   cases u2 with
   | @cons _ x _ us' hx hn =>
    cases hn
    obtain⟨L2,ad,cap,y1,rfl,y2,y3,y4,y5⟩:=hx
    have hcap:cap≠0:=by omega
    rcases y5 with⟨rfl,_⟩ | y5
    .refine ⟨⟨L2.b,L2.o+o,none⟩,cap,?_,fun j v hj=>?_⟩
     .have:=u4 0 _ rfl
      rw[hbx']
      simpa using this
     .obtain ⟨L3,vs3,z1,_,z2,z3,z4⟩:=je4 r t2
      rw[y1] at z1
      cases z1
      rw[←(q6 A φ').2 vs3 z2] at hj
      rw[jb1]
      exact z4 j v hj
    .exact absurd y5 hcap
  .obtain ⟨L1,us,u1,_,u2,u3,u4⟩:=je4 r t1
   rw[s.ext bs hbsn,hLx] at u1
   cases u1
   cases u2 with
   | @cons _ x _ us' hx hn =>
    cases hn
    obtain⟨ad,cap,news,rfl,z2,z3,z4⟩:=jis r (show cD A φ'.k (.lst rows) x from hx) t2
    have hrl:rows.length=N:=by
     have:=(jkp t2).1
     omega
    refine⟨ad,cap,?_,fun j v hj=>?_⟩
    .have:=u4 0 _ rfl
     rw[hbx',←hrl]
     simpa using this
    .rw [←(q6 A φ').2 news z2] at hj
     exact z4 j v hj
 obtain⟨W1,hW1⟩:∃ W1,(w.alloc (.deferred (some []))).alloc (.loop (rec .ready none))=W1:=⟨_,rfl⟩
 have hL1:W1.heap[w.heap.size+1]?=some (.loop (rec .ready none)):=by
  rw[←hW1];have:=(MapKept.heap_alloc (w.alloc (.deferred (some []))) (.loop (rec .ready none))).1;simpa using this
 have hK1:W1.heap[w.heap.size]?=some (.deferred (some [])):=by
  rw[←hW1,(MapKept.heap_alloc (w.alloc (.deferred (some []))) (.loop (rec .ready none))).2 _ (by simp)]
  exact(MapKept.heap_alloc w _).1
 have h0:J 0 W1:=by
  refine⟨φ,h,hr,has,?_,?_,hL1,hK1⟩
  .rw [←hW1];exact((Step.refl _ rel rfl rfl rfl rfl).allocObj _).allocObj _
  .rw [←hW1];exact(rel.allocObj _).allocObj _
 have hnl:∀ st pe,(∀ c t z,Obj.loop (rec st pe)≠.cells c t z)/\∀ e c,Obj.loop (rec st pe)≠.map e c:=fun st pe=>⟨fun c t z e=>by (cases e),fun e c e'=>by (cases e')⟩
 have hround:∀ k v W1,k<N->(es.map jvm)[N - 1 - k]?=some v->J k W1->YieldAt Fence.wide 0 P (w.heap.size+1) #[.int .i64 ((N - 1 - k:Nat):Int),v] W1 fun e W'=>e=.returned (.bool true)/\J (k+1) W':=by
  rintro k v W hkN hvk ⟨φ',h',q1,q2,s,r,q3,q4⟩
  rw[show N - k=(N - 1 - k)+1 by omega] at q1
  obtain⟨e0,he0,q5⟩:=jaa.1 (show ob (jec es (N - 1 - k)) (fun e=>ob (run F fuel ib (.mk (jr8 fr d (.s e)) h')) (fun p =>
   Ex.casesOn (motive:=fun _=>Option Hp) p.1 (St.casesOn (motive:=fun _=>Option Hp) p.2 (fun _ h'=>oif (j1d h' bs off b o N es) (rounds F fuel ib fr d bs off b o N es (N - 1 - k) h') none)) (fun _=>none) none))=some hfin from q1)
  obtain⟨p,hp,q6⟩:=jaa.1 q5
  obtain⟨ex0,st0⟩:=p
  cases ex0 with
  | exit id=>cases q6
  | ret=>cases q6
  | normal =>
  obtain⟨fr2,h2⟩:=st0
  obtain⟨q7,q8⟩:=jab.1 (show oif (j1d h2 bs off b o N es) (rounds F fuel ib fr d bs off b o N es (N - 1 - k) h2) none=some hfin from q6)
  rw[jcl] at he0
  have hve:cS A φ e0 v:=by
   obtain⟨u,hu,hc1⟩:=hall.get _ _ he0
   rw[hvs0,hvk] at hu
   cases hu
   exact hc1
  have hy:=run_yield (P:=P) (args:=#[.int .i64 ((N - 1 - k:Nat):Int),v]) q3 (by rw[hrec];rfl)
  rw[hrec] at hy
  refine⟨fn,_,_,body,hy,roundIn_of_wpIn trivial ?_⟩
  have hle:=s.le rel
  have hl0:w.heap.size<=w.heap.size+1:=Nat.le_succ _
  refine wpIn_region (jcv (by rintro⟨_,_,h⟩;exact h) (fun i q hq c=>?_) _ _ _ ?_)
  .have:q=o1:=by
    rcases i with _ | i
    .exact (Option.some.inj (show some o1=some q from hq)).symm
    .simp at hq
   subst this
   rw[ho1];intro e;cases e
  obtain⟨tm,htm⟩:∃ tm,(Array.zip #[tk,tv] #[Value.int .i64 ((N - 1 - k:Nat):Int),v]).foldl (fun t (p,v)=>t.setIfInBounds p v) a.tmps=tm:=⟨_,rfl⟩
  have htm':tm=(a.tmps.setIfInBounds tk (.int .i64 ((N - 1 - k:Nat):Int))).setIfInBounds tv v:=by rw[←htm,←Array.foldl_toList,Array.toList_zip];rfl
  have hsz:tm.size=a.tmps.size:=by rw[htm'];simp
  have hget:tm.getD tv undef=v:=by
   rw[htm',f0n,Array.getElem?_setIfInBounds_self_of_lt (by simp;omega)]
   rfl
  have hoth:∀ t,t≠tk->t≠tv->tm.getD t undef=a.tmps.getD t undef:=by
   intro t h1 h2
   rw[htm',f0n,f0n,Array.getElem?_setIfInBounds_ne (Ne.symm h2),Array.getElem?_setIfInBounds_ne (Ne.symm h1)]
  show wpOps P #[o1] _ [0] { tmps:=_,defers:=[] } W
  rw[htm]
  have hw1:∀ y,Region.wanted o1 y=true:=fun y=>by simp[Region.wanted,hg1]
  simp only[wpOps]
  rw[show(#[o1]:Array Oper)[0]?=some o1 from rfl]
  simp only[hw1,if_true]
  refine Or.inl (jdd (rv:=v) (n:=.value v) (w':=W) ?_ rfl ?_)
  .simp only[execOp,ho1]
   rw[show Act.eval { tmps:=tm,defers:=[] } (.tmp tv)=v from hget]
   rfl
  show ∃ w₂,_
  refine⟨_,run_beginRound q3 (by rw[hrec]),?_⟩
  have hW2l:(W.putObj (w.heap.size+1) (.loop { rec .ready none with state:=.busy })).heap[w.heap.size+1]?=some (.loop { rec .ready none with state:=.busy }):=World.putObj_heap_same (f05.1 q3).1
  have hW2d:(W.putObj (w.heap.size+1) (.loop { rec .ready none with state:=.busy })).heap[w.heap.size]?=some (.deferred (some [])):=(World.putObj_heap_other (by omega)).trans q4
  have r2:=r.putObj q3 (hnl _ _).1 (hnl _ _).2 (.loop { rec .ready none with state:=.busy })
  have s2:=s.putObj hl0 (.loop { rec .ready none with state:=.busy })
  have hfr:FrR A φ' π (jr8 fr d (.s e0)) (({ tmps:=tm,defers:=[] }:Act).put o1.dst v):=by
   intro t j u hj hu
   rw[hd1,jga (show d0<({ tmps:=tm,defers:=[] }:Act).tmps.size by show d0<tm.size;omega)]
   rw[jgj] at hu
   by_cases et:t=d0
   .subst et
    rw[if_pos rfl]
    rw[hd] at hj
    cases hj
    rw[f24] at hu
    rw[if_pos rfl] at hu
    split at hu
    .cases hu;exact(show cV A φ (.s e0) v from hve).mono hle
    .cases hu
   .rw [if_neg et]
    have hjd:d≠j:=by
     intro e
     subst e
     have h1:=jcp hd
     have h2:=jcp hj
     rw[h1] at h2
     exact et (Option.some.inj h2).symm
    rw[f1s hjd] at hu
    have h1:t≠tk:=fun e=>by subst e;rw[hk] at hj;cases hj
    have h2:t≠tv:=fun e=>by subst e;rw[hv] at hj;cases hj
    show cV A φ' u (tm.getD t undef)
    rw[hoth t h1 h2]
    exact(hf t j u hj hu).mono hle
  refine(j1c env (w.heap.size+1) 0 fuel).1 ib _ h' .normal (.mk fr2 h2) hp body π nt hc hfl φ' _ _ r2 hfr (by rw[jck];show nt<=tm.size;omega) _ ?_
  intro φ2 fr3 h3 a3 w3 es3 st3 r3 f3 d3 z3
  cases es3
  have hkeep:∀ (D:Nat) (ob:Obj),(∀ c t z,ob≠.cells c t z)->(∀ e c,ob≠.map e c)->(W.putObj (w.heap.size+1) (.loop { rec .ready none with state:=.busy })).heap[D]?=some ob->w3.heap[D]?=some ob:=by
   intro D ob n1 n2 hD
   rw[st3.old D (f05.1 hD).1 (fun n Ln _ hn hLn=>r2.notObj hD n1 n2 hn hLn)]
   exact hD
  have hl3:=hkeep _ _ (fun c t z e=>by cases e) (fun e c e'=>by cases e') hW2l
  have hd3:=hkeep _ _ (fun c t z e=>by cases e) (fun e c e'=>by cases e') hW2d
  refine⟨_,_,run_endRound none hl3,rfl,φ2,h2,?_,q7,?_,?_,?_,?_⟩
  .rw [show N - (k+1)=N - 1 - k by omega];exact q8
  .exact (s2.trans' st3).putObj hl0 _
  .exact r3.putObj hl3 (fun c t z e=>by cases e) (fun e c e'=>by cases e') _
  .rw [World.putObj_heap_same (f05.1 hl3).1,hrec]
   rfl
  .exact (World.putObj_heap_other (by omega)).trans hd3
 refine⟨w.heap.size+1,[{ target:=.collected w.heap.size,args:=#[] }],W1,{ target:=.fn (.func gf) #[.pointer (some box)],args:=#[.func (.yield (w.heap.size+1)) #[] #[]] },W1,gf,
  #[.func (.yield (w.heap.size+1)) #[] #[],.pointer (some box)],W1,?_,?_,fun _ _=>trivial,?_,fun e=>(by cases e),?_⟩
 .rw [←hW1,hrec];exact run_enterLoop_outer _ _ _ _ _
 .simp only[resolve,hgv]
  simp[go_sem]
 .simp only[invoke]
  exact jif hit.1 _
 .refine CallsIn.mono (hit.2 box N (es.map jvm) 0 (w.heap.size+1) J W1 hlen hN2 hframe hcells hround h0) ?_
  rintro e W2 ⟨⟨v,rfl⟩,φ',h',q1,q2,s,r,q3,q4⟩
  rw[Nat.sub_self] at q1
  cases (show some h'=some hfin from q1)
  refine⟨none,_,by have:=run_endLoop (P:=P) q3 (by rw[hrec];simp);rw[hrec] at this;exact this,?_⟩
  exact hQ φ' _ w.heap.size (s.putObj (Nat.le_succ _) _) (r.putObj q3 (hnl _ _).1 (hnl _ _).2 _) (f0d _) ((World.putObj_heap_other (by omega)).trans q4)
end
inductive IB where
 | c (ic:IC)
 | seq (a b:IB)
 | block (id:Nat) (b:IB)
 | loop (b:IB)
 | back (g:Od) (d:Nat) (b:IC)
 | flo (l:List (IOper×List Nat))
 | cond (c:Od) (x y:IB)
def jjd:IB->Bool
 | .seq a b=>jjd a||jjd b
 | .block _ b=>jjd b
 | .loop b=>jjd b
 | .flo _=>true
 | .cond _ a b=>jjd a||jjd b
 | _=>false
def qji {α:Type}:Option α->Bool
 | none=>true
 | some _=>false
def qjj (T:Tr TI) (fl:Bool) (π:List Nat) (nt:Nat) (ops:List Oper):Option (List (IOper×List Nat)):=bif fl then (match qsr T π nt ops with
 | some l=>bif qjg [] l then some l else none
 | none=>none) else none
theorem j5t {T:Tr TI} {π:List Nat} {ops:List Oper} {l:List (IOper×List Nat)} (h:qjj T fl π nt ops=some l):qsr T π nt ops=some l:=by
 unfold qjj at h
 cases fl with
 | false=>cases h
 | true =>
  simp only[cond_true] at h
  split at h
  .rename_i l' h'
   cases hb:qjg [] l' with
   | false=>rw[hb] at h;cases h
   | true=>rw[hb] at h;cases h;exact h'
  .cases h
def cB (T:Tr TI) (fl:Bool) (π:List Nat) (nt:Nat):Code->Option IB
 | .seq a b=>match cB T fl π nt a,cB T fl π nt b with
  | some x,some y=>some (.seq x y)
  | _,_=>none
 | .block id b=>(cB T fl π nt b).map (.block id)
 | .loop b=>(cB T fl π nt b).map .loop
 | .rangeFunc g ps asg body=>match ps.toList,asg with
  | [tk,tv],.region _ ops false=>match ops.toList with
   | [o1]=>match o1.op,o1.dst,o1.guard with
    | .assign (.tmp tv'),some d0,none=>match Nat.beq tv tv'&&(!Nat.beq tk tv&&(ji8 body&&(qji (idx tk π 0)&&(qji (idx tv π 0)&&(Nat.blt d0 nt&&Nat.blt tv nt))))) with
     | true=>match cO π [] g,idx d0 π 0,jed T [] π nt body with
      | some x,some d,some ib=>some (.back x d ib)
      | _,_,_=>none
     | false=>none
    | _,_,_=>none
   | _=>none
  | _,_=>none
 | .region id ops true=>match qjj T fl π nt ops.toList with
  | some l=>some (.flo l)
  | none=>(jed T [] π nt (.region id ops true)).map .c
 | .cond c a b=>match cO π [] c,cB T fl π nt a,cB T fl π nt b with
  | some c',some x,some y=>bif jjd x||jjd y then some (.cond c' x y) else (jed T [] π nt (.cond c a b)).map .c
  | _,_,_=>(jed T [] π nt (.cond c a b)).map .c
 | c=>(jed T [] π nt c).map .c
section
variable (F:Fns) (fuel:Nat) (B:FuncId->Bool)
def qdl (h:Hp) (v:SV):Option (Nat×Nat×Nat×List SV) :=
 jcz (.s v) none (fun b o N _ _ _=>ob (rd h b o N) (fun es=>some (b,o,N,es))) (fun rows=>ob (jww 1 rows) (fun es=>some (0,0,jb2 es,es))) none
def jsy (fr:List AV) (h:Hp) (d:Nat) (ib:IC) (bs off:Nat):Option (Ex×St) :=
 ob (rd h bs off 1) (fun c=>List.casesOn (motive:=fun _=>Option (Ex×St)) c none (fun v _=>ob (qdl h v) (fun q =>
                 oif (Nat.ble 1 q.2.2.1) (oif (Nat.ble q.2.2.1 1000000) (oif (j1d h bs off q.1 q.2.1 q.2.2.1 q.2.2.2) (ob (rounds F fuel ib fr d bs off q.1 q.2.1 q.2.2.1 q.2.2.2 q.2.2.1 h) (fun h'=>some (.normal,.mk fr h'))) none) none) none)))
def jq7 (s:St) (x:Od) (d:Nat) (ib:IC):Option (Ex×St) :=
 St.casesOn (motive:=fun _=>Option (Ex×St)) s (fun fr h=>ob (ev [] fr x) (fun v=>jwu v (fun gf caps=>oif (B gf) (List.casesOn (motive:=fun _=>Option (Ex×St)) caps none (fun p r=>List.casesOn (motive:=fun _=>Option (Ex×St)) r (jsy F fuel fr h d ib p.1 p.2) (fun _ _=>none))) none)))
def qt5 (s:St) (l:List (IOper×List Nat)):Option (Ex×St):=St.casesOn (motive:=fun _=>Option (Ex×St)) s (fun fr h=>ob (jm3 (jbr F (run F fuel)) l [] [] fr h) (fun s=>some (.normal,s)))
abbrev RB:=IB->St->Option (Ex×St)
def qt6 (ih:RB) (s:St) (a b:IB):Option (Ex×St):=ob (ih a s) (fun p=>Ex.casesOn (motive:=fun _=>Option (Ex×St)) p.1 (ih b p.2) (fun _=>some p) (some p))
def qjk (ih:RB) (s:St) (id:Nat) (b:IB):Option (Ex×St):=ob (ih b s) (fun p=>Ex.casesOn (motive:=fun _=>Option (Ex×St)) p.1 (some p) (fun k=>oif (Nat.beq k id) (some (.normal,p.2)) (some p)) (some p))
def qpy (ih:RB) (s:St) (b:IB):Option (Ex×St):=ob (ih b s) (fun p=>Ex.casesOn (motive:=fun _=>Option (Ex×St)) p.1 (ih (.loop b) p.2) (fun _=>some p) (some p))
def qpz (ih:RB) (s:St) (c:Od) (x y:IB):Option (Ex×St):=St.casesOn (motive:=fun _=>Option (Ex×St)) s (fun fr _=>ob (ev [] fr c) (fun v=>jhe v (fun t=>ih (oif t x y) s)))
def qp0 (ih:RB) (c:IB) (s:St):Option (Ex×St) :=
 IB.casesOn (motive:=fun _=>Option (Ex×St)) c (fun ic=>run F fuel ic s) (qt6 ih s) (qjk ih s) (qpy ih s) (jq7 F fuel B s) (qt5 F fuel s) (qpz ih s)
def jns (n:Nat):RB:=Nat.rec (motive:=fun _=>RB) (fun _ _=>none) (fun _ ih=>qp0 F fuel B ih) n
end
def jr5 (d d':List Deferred) (w w':World):Prop :=
 ∃ Ds:List Nat,d'=Ds.map (fun D=>({ target:=.collected D,args:=#[] }:Deferred))++d/\Ds.Pairwise (fun x y=>x≠y)/\∀ D∈Ds,w.heap.size<=D/\w'.heap[D]?=some (.deferred (some []))
section
variable {P:Program} {A:Nat->Int} {T:Tr TI} {F:Fns} {fuel:Nat} {B:FuncId->Bool}
theorem jr5.refl (d:List Deferred) (w w':World):jr5 d d w w':=⟨[],rfl,.nil,fun D h=>by simp at h⟩
theorem j5u {Ds:List Nat} {w':World} {φ φ':Phi} {h h':Hp} {V:Nat->Prop} (r:Rel A φ h w') (s:Step V φ φ' h h' w' w'') (hD:∀ D∈Ds,w'.heap[D]?=some (.deferred (some []))):∀ D∈Ds,w''.heap[D]?=some (.deferred (some [])):=by
 intro D hm
 have h1:=hD D hm
 rw[s.old D (f05.1 h1).1 (fun n L _ hn hL=>r.notObj h1 (fun c t z e=>by cases e) (fun e c e'=>by cases e') hn hL)]
 exact h1
theorem jr5.trans {d d' d'':List Deferred} {w w':World} {φ φ':Phi} {h h':Hp} {V:Nat->Prop} (m:jr5 d d' w w') (r:Rel A φ h w') (s:Step V φ φ' h h' w' w'') (hs:w.heap.size<=w'.heap.size) (m':jr5 d' d'' w' w''):jr5 d d'' w w'':=by
 have hl:∀ (D:Nat),w'.heap[D]?=some (.deferred (some []))->D<w'.heap.size:=fun D h1=>(f05.1 h1).1
 obtain⟨Ds0,e0,hp0,hD0⟩:=m
 have hk:=j5u r s (fun D hm=>(hD0 D hm).2)
 obtain⟨Ds1,e1,hp1,hD1⟩:=m'
 refine⟨Ds1++Ds0,by rw[e1,e0];simp,List.pairwise_append.2 ⟨hp1,hp0,fun x hx y hy e=>?_⟩,fun D hm=>?_⟩
 .have h1:=(hD1 x hx).1
  have h2:=hl y (hD0 y hy).2
  omega
 .rcases f0e.1 hm with h1 | h1
  .exact ⟨f01 hs (hD1 D h1).1,(hD1 D h1).2⟩
  .exact ⟨(hD0 D h1).1,hk D h1⟩
def j1e (A:Nat->Int) (π:List Nat) (φ:Phi) (h:Hp) (w:World) (a:Act) (e:Ex) (s:St) (Q:Exit->Act->World->Prop):Prop :=
 ∀ φ' fr' h' a' w',s=.mk fr' h'->Step (fun n=>h.lo<=n) φ φ' h h' w w'->Rel A φ' h' w'->FrR A φ' π fr' a'->jr5 a.defers a'.defers w w'->a'.tmps.size=a.tmps.size->Q (qvu e) a' w'
theorem j1e.trans {π:List Nat} {φ ψ:Phi} {h h':Hp} {w w':World} {a a':Act} {e:Ex} {s:St} {Q:Exit->Act->World->Prop} (k:j1e A π φ h w a e s Q) (st:Step (fun n=>h.lo<=n) φ ψ h h' w w') (r:Rel A ψ h' w') (hd:jr5 a.defers a'.defers w w') (hs:a'.tmps.size=a.tmps.size):j1e A π ψ h' w' a' e s Q :=
 fun φ' fr' h'' a'' w'' e1 s1 r1 f1 d1 z1=>k φ' fr' h'' a'' w'' e1 (st.trans' s1) r1 f1 (hd.trans r s1 st.size d1) (z1.trans hs)
def qp1 (P:Program) (A:Nat->Int) (T:Tr TI) (F:Fns) (fuel:Nat) (B:FuncId->Bool) (n:Nat):Prop :=
 ∀ ib fr h e s,jns F fuel B n ib (.mk fr h)=some (e,s)->∀ code fl π nt,cB T fl π nt code=some ib->∀ φ a w,Rel A φ h w->FrR A φ π fr a->nt<=a.tmps.size->∀ Q,j1e A π φ h w a e s Q->code.wp P Q a w
def j9a (P:Program) (A:Nat->Int) (T:Tr TI) (F:Fns) (fuel:Nat) (B:FuncId->Bool) (n:Nat):Prop :=
 ∀ ib fr h e s,jns F fuel B n (.loop ib) (.mk fr h)=some (e,s)->∀ code fl π nt,cB T fl π nt code=some ib->∀ φ a w,Rel A φ h w->FrR A φ π fr a->nt<=a.tmps.size->∀ Q,j1e A π φ h w a e s Q->Code.rounds P code Q n a w
theorem qdm (env:Env P A T F) {ic:IC} {h:Hp} {e:Ex} {s:St} (hr:run F fuel ic (.mk fr h)=some (e,s)) {code:Code} {π:List Nat} (hc:jed T [] π nt code=some ic) {φ:Phi} {a:Act} {w:World} (rel:Rel A φ h w) (hf:FrR A φ π fr a) (hnt:nt<=a.tmps.size) {Q:Exit->Act->World->Prop} (hQ:j1e A π φ h w a e s Q):code.wp P Q a w :=
 (jgz env fuel).1 ic fr h e s hr code [] π nt hc φ a w rel hf hnt Q (fun φ' fr' h' a' w' es st r1 f1 d1 z1=>hQ φ' fr' h' a' w' es st r1 f1 (by rw[d1];exact jr5.refl _ _ _) z1)
theorem j1f (env:Env P A T F) (hB:∀ f,B f=true->qom P f) {h:Hp} {e:Ex} {s:St} {x:Od} {ib:IC} (hr:jq7 F fuel B (.mk fr h) x d ib=some (e,s)) {g:Operand} {ps:Array Tmp} {asg body:Code} {π:List Nat}
 (hc:cB T fl π nt (.rangeFunc g ps asg body)=some (.back x d ib)) {φ:Phi} {a:Act} {w:World} (rel:Rel A φ h w) (hf:FrR A φ π fr a) (hnt:nt<=a.tmps.size) {Q:Exit->Act->World->Prop} (hQ:j1e A π φ h w a e s Q):(Code.rangeFunc g ps asg body).wp P Q a w:=by
 simp only[cB] at hc
 split at hc
 .rename_i tk tv id ops hps
  split at hc
  .rename_i o1 hops
   split at hc
   .rename_i tv' d0 h1 h2 h3
    split at hc
    .rename_i hcond
     simp only[f0y,f18] at hcond
     obtain⟨k1,k2,k3,k4,k5,k6,k7⟩:=hcond
     split at hc
     .rename_i x' d' ib' hg hd hib
      cases hc
      obtain rfl:=f0i k1
      have hps':ps=#[tk,tv]:=by rw[←f1x,hps]
      have hops':ops=#[o1]:=by rw[←f1x,hops]
      subst hps' hops'
      obtain⟨v,hv,hr1⟩:=jaa.1 hr
      obtain⟨gf,caps,rfl,hr2⟩:=jee hr1
      obtain⟨hb,hr3⟩:=jab.1 hr2
      match caps,hr3,hv with
      | [p],hr3,hv =>
       obtain⟨c,hc1,hr4⟩:=jaa.1 (show jsy F fuel fr h d ib p.1 p.2=some (e,s) from hr3)
       match c,hr4,hc1 with
       | v0::rest,hr4,hc1 =>
        obtain⟨⟨b,o,N,es⟩,_,hr5⟩:=jaa.1 (show ob (qdl h v0) (fun q =>
         oif (Nat.ble 1 q.2.2.1) (oif (Nat.ble q.2.2.1 1000000) (oif (j1d h p.1 p.2 q.1 q.2.1 q.2.2.1 q.2.2.2) (ob (rounds F fuel ib fr d p.1 p.2 q.1 q.2.1 q.2.2.1 q.2.2.2 q.2.2.1 h) (fun h'=>some (.normal,.mk fr h'))) none) none) none)=some (e,s) from hr4)
        obtain⟨hN,hr5⟩:=jab.1 hr5
        obtain⟨hN2,hr6⟩:=jab.1 hr5
        obtain⟨has,hr8⟩:=jab.1 hr6
        obtain⟨hfin,hrr,hr9⟩:=jaa.1 hr8
        cases hr9
        have hE:=jhj (A:=A) (φ:=φ) (loc:=[]) (st:=[]) hf (fun t i v hi=>by cases hi) [g]
        obtain⟨vs,hgv,hcv⟩:=(show ∃ vs:List Value,a.eval g=.func (.func gf) #[] vs.toArray/\All2 (fun p x=>jnf φ p.1 p.2 x) [p] vs from hE g (by simp) _ _ hg hv)
        cases hcv with
        | @cons _ pv _ _ hpv hn =>
         cases hn
         obtain⟨Lx,hLx,rfl⟩:=hpv
         have nn:∀ {t:Nat},qji (idx t π 0)=true->idx t π 0=none:=fun {t} h=>by
          cases hi:idx t π 0 with
          | none=>rfl
          | some _=>rw[hi] at h;cases h
         refine j5s env (hB gf hb) h1 h2 h3 k3 hib hd (nn k4) (nn k5) (fun e=>by subst e;simp at k2) (by simpa using k6) (by simpa using k7) rel hf hnt (f0g hN) (f0g hN2) hgv ⟨Lx,hLx,rfl⟩ has hrr ?_
         intro φ' w' D st r hD hDw
         exact hQ φ' fr hfin _ w' rfl st r (hf.mono (st.le rel)) ⟨[D],rfl,by simp,fun D' hm=>by simp at hm;subst hm;exact⟨hD,hDw⟩⟩ rfl
       | [],hr4,hc1=>cases hr4
      | [],hr3,hv=>cases hr3
      | _::_::_,hr3,hv=>cases hr3
     .cases hc
    .cases hc
   .cases hc
  .cases hc
 .cases hc
theorem j5v (env:Env P A T F) (hB:∀ f,B f=true->qom P f):∀ n,qp1 P A T F fuel B n/\j9a P A T F fuel B n:=by
 intro n
 induction n with
 | zero=>exact⟨fun ic fr h e s hr=>(by cases hr),fun ic fr h e s hr=>(by cases hr)⟩
 | succ n ih =>
  obtain⟨ih1,ih2⟩:=ih
  have hL:j9a P A T F fuel B (n+1):=by
   intro ib fr h e s hr code fl π nt hc φ a w rel hf hnt Q hQ
   obtain⟨p,h1,h2⟩:=jaa.1 (show ob (jns F fuel B n ib (.mk fr h)) (fun p=>Ex.casesOn (motive:=fun _=>Option (Ex×St)) p.1 (jns F fuel B n (.loop ib) p.2) (fun _=>some p) (some p))=some (e,s) from hr)
   obtain⟨e1,s1⟩:=p
   rw[rounds_succ]
   refine ih1 _ _ _ _ _ h1 code fl π nt hc φ a w rel hf hnt _ ?_
   intro φ' fr' h' a' w' es st r1 f1 d1 z1
   subst es
   cases e1 with
   | normal=>exact ih2 _ _ _ _ _ h2 code fl π nt hc φ' a' w' r1 f1 (by rw[z1];exact hnt) Q (hQ.trans st r1 d1 z1)
   | exit id=>cases h2;exact hQ φ' fr' h' a' w' rfl st r1 f1 d1 z1
   | ret=>cases h2;exact hQ φ' fr' h' a' w' rfl st r1 f1 d1 z1
  refine⟨?_,hL⟩
  intro ib fr h e s hr code fl π nt hc φ a w rel hf hnt Q hQ
  have atom:∀ c,(jed T [] π nt c).map IB.c=some ib->c.wp P Q a w:=by
   intro c hc
   obtain⟨ic,h1,rfl⟩:=f0a.1 hc
   exact qdm env (show run F fuel ic (.mk fr h)=some (e,s) from hr) h1 rel hf hnt hQ
  cases code with
  | seq x y =>
   simp only[cB] at hc
   split at hc
   .rename_i cx cy hx hy
    cases hc
    obtain⟨p,h1,h2⟩:=jaa.1 (show ob (jns F fuel B n cx (.mk fr h)) (fun p=>Ex.casesOn (motive:=fun _=>Option (Ex×St)) p.1 (jns F fuel B n cy p.2) (fun _=>some p) (some p))=some (e,s) from hr)
    obtain⟨e1,s1⟩:=p
    refine wp_seq (ih1 _ _ _ _ _ h1 x fl π nt hx φ a w rel hf hnt _ ?_)
    intro φ' fr' h' a' w' es st r1 f1 d1 z1
    subst es
    cases e1 with
    | normal=>exact ih1 _ _ _ _ _ h2 y fl π nt hy φ' a' w' r1 f1 (by rw[z1];exact hnt) Q (hQ.trans st r1 d1 z1)
    | exit id=>cases h2;exact hQ φ' fr' h' a' w' rfl st r1 f1 d1 z1
    | ret=>cases h2;exact hQ φ' fr' h' a' w' rfl st r1 f1 d1 z1
   .cases hc
  | block id b =>
   obtain⟨jb,hb,e'⟩:=f0a.1 (show(cB T fl π nt b).map (.block id)=some ib from hc)
   subst e'
   obtain⟨p,h1,h2⟩:=jaa.1 (show ob (jns F fuel B n jb (.mk fr h)) (fun p=>Ex.casesOn (motive:=fun _=>Option (Ex×St)) p.1 (some p) (fun k=>oif (Nat.beq k id) (some (.normal,p.2)) (some p)) (some p))=some (e,s) from hr)
   obtain⟨e1,s1⟩:=p
   refine wp_block (ih1 _ _ _ _ _ h1 b fl π nt hb φ a w rel hf hnt _ ?_)
   intro φ' fr' h' a' w' es st r1 f1 d1 z1
   subst es
   cases e1 with
   | normal=>cases h2;exact hQ φ' fr' h' a' w' rfl st r1 f1 d1 z1
   | exit j =>
    have h2':oif (Nat.beq j id) (some (Ex.normal,St.mk fr' h')) (some (.exit j,.mk fr' h'))=some (e,s):=h2
    rw[jap] at h2'
    show if j=id then Q .normal a' w' else Q (.exit j) a' w'
    split at h2'
    .rename_i hj
     rw[jgt] at hj
     cases h2'
     rw[if_pos hj]
     exact hQ φ' fr' h' a' w' rfl st r1 f1 d1 z1
    .rename_i hj
     rw[jgt] at hj
     cases h2'
     rw[if_neg hj]
     exact hQ φ' fr' h' a' w' rfl st r1 f1 d1 z1
   | ret=>cases h2;exact hQ φ' fr' h' a' w' rfl st r1 f1 d1 z1
  | loop b =>
   obtain⟨jb,hb,e'⟩:=f0a.1 (show(cB T fl π nt b).map .loop=some ib from hc)
   subst e'
   exact wp_loop_rounds (n+1) (hL _ _ _ _ _ hr b fl π nt hb φ a w rel hf hnt Q hQ)
  | rangeFunc g ps asg body =>
   cases ib with
   | back x d jb=>exact j1f env hB (show jq7 F fuel B (.mk fr h) x d jb=some (e,s) from hr) hc rel hf hnt hQ
   | _ =>
    simp only[cB] at hc
    repeat' (first | (cases hc;done) | split at hc)
  | skip=>exact atom _ hc
  | region id ops draw =>
   cases draw with
   | false=>exact atom _ hc
   | true =>
    simp only[cB] at hc
    split at hc
    .rename_i l hl
     cases hc
     obtain⟨s1,h1,h2⟩:=jaa.1 (show ob (jm3 (jbr F (run F fuel)) l [] [] fr h) (fun s=>some (.normal,s))=some (e,s) from hr)
     cases h2
     exact j87 env.mix env.tys (jej env (jgz env fuel).1) (jpr (F:=F) (fun f vs h v h' hx=>(env.ext f vs h v h' hx).2.1) fuel).2 (j5t hl) h1 rel hf hnt (fun φ' fr' h' a' w' es st r1 f1 d1 z1=>hQ φ' fr' h' a' w' es st r1 f1 (by rw[d1];exact jr5.refl _ _ _) z1)
    .exact atom _ hc
  | cond c x y =>
   simp only[cB] at hc
   split at hc
   .rename_i c' cx cy hc' hx hy
    cases hfl:(jjd cx||jjd cy) with
    | false=>rw[hfl] at hc;exact atom _ hc
    | true =>
     rw[hfl] at hc
     cases hc
     obtain⟨v,h1,h2⟩:=jaa.1 (show ob (ev [] fr c') (fun v=>jhe v (fun t=>jns F fuel B n (oif t cx cy) (.mk fr h)))=some (e,s) from hr)
     obtain⟨t,rfl,h3⟩:=jcx h2
     have hE:=jhj (A:=A) (φ:=φ) (loc:=[]) (st:=[]) hf (fun t i v hi=>by cases hi) [c]
     have hcv:a.eval c=.bool t:=hE c (by simp) _ _ hc' h1
     refine wp_cond hcv ?_
     rw[jap] at h3
     cases t with
     | true=>exact ih1 _ _ _ _ _ h3 x fl π nt hx φ a w rel hf hnt Q hQ
     | false=>exact ih1 _ _ _ _ _ h3 y fl π nt hy φ a w rel hf hnt Q hQ
   .exact atom _ hc
  | exit _=>exact atom _ hc
  | scope _=>exact atom _ hc
  | label _=>exact atom _ hc
  | goto _=>exact atom _ hc
  | ret=>exact atom _ hc
  | refuse _=>exact atom _ hc
theorem jnt {fn:Func} {tmps:Array Value} {R:Ending->World->Prop}:∀ (Ds:List Nat) (w:World),Ds.Pairwise (fun x y=>x≠y)->(∀ D∈Ds,w.heap[D]?=some (.deferred (some []))) ->
 (∀ w',w'.os=w.os->w'.tape=w.tape->w'.output=w.output->w'.heap.size=w.heap.size->(∀ k,(∀ D∈Ds,k≠D)->w'.heap[k]?=w.heap[k]?)->∃ v,(results fn tmps).run P w'=.ok v w'/\R (.returned v) w') ->
 LeavesInM Fence.wide 0 P fn tmps R (Ds.map (fun D=>({ target:=.collected D,args:=#[] }:Deferred))) .returning w
 | [],w,_,_,h=>h w rfl rfl rfl rfl (fun k _=>rfl)
 | D::Ds,w,hp,hD,h=>by
  refine⟨fun e=>(by cases e),.inl ⟨D,_,rfl,run_takeDeferred (hD D (by simp)),?_⟩⟩
  have hp':=List.pairwise_cons.1 hp
  refine jnt Ds _ hp'.2 (fun D' hm=>(World.putObj_heap_other (fun e=>hp'.1 D' hm e.symm)).trans (hD D' (by simp[hm]))) (fun w' e1 e2 e3 e4 e5=>?_)
  refine h w' e1 e2 e3 (by rw[e4];simp[World.putObj]) (fun k hk=>?_)
  rw[e5 k (fun D' hm=>hk D' (by simp[hm]))]
  exact World.putObj_heap_other (hk D (by simp))
theorem qp2 {φ:Phi} {vs:List AV} {args:Array Value} (ha:All2 (cV A φ) vs args.toList) {ntmps:Nat} (hl:vs.length=nargs) (acc:List Nat) :
 FrR A φ (j4t 0 nargs++acc) (vs++jdg nslots) { tmps:=args++Array.replicate (ntmps - args.size) undef,defers:=[] }:=by
 have hal:=ha.len
 simp only[f2g] at hal
 intro t j u hj hu
 rw[f2s] at hu
 split at hu
 .rename_i hlt
  have hjn:j<nargs:=by omega
  have:t=j:=by
   have h4:=jcp hj
   rw[f0t (by rw[jtx];exact hjn)] at h4
   have h5:=jkt nargs 0 [] j (by omega) (by omega)
   rw[f1c] at h5
   have h6:=jcp h5
   rw[Nat.sub_zero,h4] at h6
   exact Option.some.inj h6
  subst this
  obtain⟨x,hx,hcx⟩:=ha.get t u hu
  rw[f02] at hx
  have:(args++Array.replicate (ntmps - args.size) undef).getD t undef=x:=by
   rw[f0n,f13 (by omega),hx];rfl
  show cV A φ u ((args++Array.replicate (ntmps - args.size) undef).getD t undef)
  rw[this]
  exact hcx
 .rename_i hge
  obtain rfl:=jmc _ _ _ hu
  have htn:nargs<=t:=by
   rcases f0h t nargs with h4 | h4
   .rw [jkt _ 0 _ t (by omega) (by omega)] at hj
    have:t - 0=j:=Option.some.inj hj
    omega
   .exact h4
  show(args++Array.replicate (ntmps - args.size) undef).getD t undef=undef
  rw[f0n,Array.getElem?_append_right (by omega)]
  rw[Array.getElem?_replicate]
  split<;>rfl
theorem qt7 (env:Env P A T F) (hB:∀ f,B f=true->qom P f) {n:Nat} {f:FuncId} {fn:Func} {b:Code} (hf:P.funcs[f]?=some fn) (hbody:fn.body=some b) (hna:nargs<=fn.ntmps) {acc:List Nat} {ib:IB}
 (hc:cB T fl (j4t 0 nargs++acc) fn.ntmps b=some ib) {res:List IR} (hres:qck T (j4t 0 nargs++acc) fn.results.toList=some res) {vs:List AV} {h h':Hp} {e:Ex} {s:St} {v0:AV} (hl:vs.length=nargs)
 (hrun:jns F fuel B n ib (.mk (vs++jdg nslots) h)=some (e,s)) (he:e=.normal∨e=.ret) (hr:jco s res=some (v0,h')) :
 ∀ φ w (args:Array Value),Rel A φ h w->All2 (cV A φ) vs args.toList->Calls P f args w (fun e w'=>∃ rv φ',e=.returned rv/\Step (fun n=>h.lo<=n) φ φ' h h' w w'/\Rel A φ' h' w'/\cV A φ' v0 rv):=by
 intro φ w args rel ha
 have hal:=ha.len
 simp only[f2g] at hal
 refine(callsIn_wide (n:=0)).1 (callsIn_of_wp_marks hf hbody trivial (wpIn_wide.2 ?_))
 refine(j5v env hB n).1 _ _ _ _ _ hrun b _ _ _ hc φ _ w rel (qp2 ha hl acc) ?_ _ ?_
 .simp
  omega
 .intro φ' fr' h'' a' w' es st r1 f1 d1 z1
  subst es
  obtain⟨rfl,xs,hxs,hcase⟩:=jhk hr
  obtain⟨Ds,e1,hp,hD⟩:=d1
  have key:LeavesInM Fence.wide 0 P fn a'.tmps (fun e w'=>∃ rv φ',e=.returned rv/\Step (fun n=>h.lo<=n) φ φ' h h' w w'/\Rel A φ' h' w'/\cV A φ' v0 rv) a'.defers .returning w':=by
   rw[e1]
   simp only[f1c]
   refine jnt Ds w' hp (fun D hm=>(hD D hm).2) (fun w2 q1 q2 q3 q4 q5=>?_)
   have r2:Rel A φ' h' w2:=⟨r1.wf,r1.dom,fun m x hx=>(r1.blk m x hx).world (fun L hL=>q5 L.b (fun D hm e=>r1.notObj (hD D hm).2 (fun c t z e=>by cases e) (fun e c e'=>by cases e') (by rw[hx];rfl) hL e)),r1.inj,fun b cs e=>by
    obtain⟨ty,h9⟩:=r1.con b cs e
    exact⟨ty,by rw[q5 b (fun D hm e'=>by have:=(hD D hm).2;rw[←e',h9] at this;cases this)];exact h9⟩,r1.sep⟩
   have st2:Step (fun n=>h.lo<=n) φ φ' h h' w w2:=⟨st.abs,st.ext,st.kle,st.knew,q1.trans st.os,q2.trans st.tape,q3.trans st.output,by rw[q4];exact st.size,fun k hk hv=>(q5 k (fun D hm e=>by have:=(hD D hm).1;omega)).trans (st.old k hk hv),st.new⟩
   obtain⟨us,hus,hall⟩:=jku env.tys r2 f1 fn.results.toList _ xs hres hxs
   have hrun':∀ v',(if h:us.toArray.size=1 then us.toArray[0] else .tuple us.toArray)=v'->(results fn a'.tmps).run P w2=.ok v' w2:=by
    intro v' hv'
    unfold results
    have e1:fn.results=fn.results.toList.toArray:=by simp
    rw[e1]
    simp only[List.mapM_toArray,Sem.run_bind,Sem.run_map]
    erw [hus]
    simp only[Result.andThen_ok,Sem.run_pure,hv']
   have hfin:∃ v',(results fn a'.tmps).run P w2=.ok v' w2/\cV A φ' v0 v':=by
    have hlen':=hall.len
    rcases hcase with⟨rfl,rfl⟩ | ⟨p,rfl,hmk⟩ | ⟨h2x,rfl⟩
    .cases hall
     exact⟨_,hrun' _ rfl,⟨[],rfl,.nil⟩⟩
    .cases hall with
     | @cons _ u _ _ hu hn =>
      cases hn
      refine⟨u,hrun' u rfl,?_⟩
      unfold cV1 at hu
      rcases jgu hmk with⟨e2,rfl⟩ | ⟨e2,y,hy,rfl⟩
      .rw [if_pos e2] at hu;exact hu
      .rw [e2] at hu
       simp only[f0v,if_false] at hu
       obtain⟨y',h5,h6⟩:=hu
       rw[hy] at h5
       cases h5
       exact h6
    .refine ⟨.tuple us.toArray,hrun' _ ?_,⟨us,rfl,hall⟩⟩
     rw[dif_neg]
     simp only[f3e]
     omega
   obtain⟨v',hv1,hv2⟩:=hfin
   exact⟨v',hv1,v',φ',rfl,st2,r2,hv2⟩
  rcases he with rfl | rfl
  .exact key
  .exact key
theorem jsz (hX:∀ f vs h v h',jdx F f vs h=some (v,h')->WF h->Abs (fun n=>h.lo<=n) h h') {ib:IC}:∀ (k:Nat) (h h':Hp),rounds F fuel ib fr d bs off b o N es k h=some h'->WF h->Abs (fun n=>h.lo<=n) h h'
 | 0,h,h',hr,k=>by cases (show some h=some h' from hr);exact Abs.refl _ k
 | j+1,h,h',hr,k=>by
  obtain⟨e,_,h1⟩:=jaa.1 (show ob (jec es j) (fun e=>ob (run F fuel ib (.mk (jr8 fr d (.s e)) h)) (fun p =>
   Ex.casesOn (motive:=fun _=>Option Hp) p.1 (St.casesOn (motive:=fun _=>Option Hp) p.2 (fun _ h'=>oif (j1d h' bs off b o N es) (rounds F fuel ib fr d bs off b o N es j h') none)) (fun _=>none) none))=some h' from hr)
  obtain⟨p,hp,h2⟩:=jaa.1 h1
  obtain⟨ex,st⟩:=p
  obtain⟨fr1,h3,rfl,a⟩:=(jpr hX fuel).1 _ _ _ _ _ hp k
  cases ex with
  | normal =>
   obtain⟨_,h4⟩:=jab.1 (show oif (j1d h3 bs off b o N es) (rounds F fuel ib fr d bs off b o N es j h3) none=some h' from h2)
   exact a.trans' (jsz hX j _ _ h4 a.wf)
  | exit _=>cases h2
  | ret=>cases h2
theorem j9b {cl:FuncId->List AV->Hp->R} (hcla:jkq cl) {st:List AV} {es:List FE} {h h':Hp} {op:IOp} {g:Option (Nat×Bool)} {js:List Nat} {v:AV} {x:FE} (k:WF h) (hd:jr4 cl st fr es h op g js=some (v,h',x)):Abs (fun n=>h.lo<=n) h h':=by
 obtain⟨b,hb,h1⟩:=jaa.1 hd
 cases b with
 | false =>
  have h2:some (AV.undef,h,FE.mk true (fun _=>some .undef) h .undef)=some (v,h',x):=h1
  cases h2
  exact Abs.refl _ k
 | true =>
  obtain⟨p,hp,h2⟩:=jaa.1 (show jn0 cl st fr es h op js=some (v,h',x) from h1)
  obtain⟨v0,h0'⟩:=p
  have a:=(jew k hcla hp).2
  cases op with
  | p po =>
   have h3:some (v0,h,FE.mk true (fun _=>some v0) h v0)=some (v,h',x):=h2
   cases h3
   exact Abs.refl _ k
  | a ao =>
   cases hl:j09 (.a ao) with
   | true =>
    rw[hl] at h2
    obtain⟨_,h4⟩:=jab.1 (show oif (jxx (fun e=>oif e.ld true (j1a (ob (iop cl st fr e.h (.a ao)) (fun q=>some q.1)) v0)) es js) (some (v0,h,FE.mk true (fun h'=>ob (iop cl st fr h' (.a ao)) (fun q=>some q.1)) h v0)) none=some (v,h',x) from h2)
    cases h4
    exact Abs.refl _ k
   | false =>
    rw[hl] at h2
    obtain⟨_,h4⟩:=jab.1 (show oif (jxx (fun e=>oif e.ld (j1a (e.ev h0') e.v) false) es js) (some (v0,h0',FE.mk false (fun _=>none) h .undef)) none=some (v,h',x) from h2)
    cases h4
    exact a
theorem jx1 {cl:FuncId->List AV->Hp->R} (hcla:jkq cl):∀ (l:List (IOper×List Nat)) (st:List AV) (es:List FE) (fr:List AV) (h:Hp) (s:St),jm3 cl l st es fr h=some s->WF h->∃ fr' h',s=.mk fr' h'/\Abs (fun n=>h.lo<=n) h h'
 | [],st,es,fr,h,s,hr,k=>⟨fr,h,(Option.some.inj (show some (St.mk fr h)=some s from hr)).symm,Abs.refl _ k⟩
 | (.mk dst op g,m)::l,st,es,fr,h,s,hr,k=>by
  obtain⟨d,hd,h1⟩:=jaa.1 (show ob (jr4 cl st fr es h op g m) (fun p=>jm3 cl l (p.1::st) (p.2.2::es) (jcn fr dst p.1) p.2.1)=some s from hr)
  obtain⟨v,h',x⟩:=d
  have a:=j9b hcla k hd
  obtain⟨fr',h'',e,a'⟩:=jx1 hcla l _ _ _ _ s h1 a.wf
  exact⟨fr',h'',e,a.trans' a'⟩
theorem qdn (hX:∀ f vs h v h',jdx F f vs h=some (v,h')->WF h->Abs (fun n=>h.lo<=n) h h'):∀ n ib fr h e s,jns F fuel B n ib (.mk fr h)=some (e,s)->WF h->∃ fr' h',s=.mk fr' h'/\Abs (fun n=>h.lo<=n) h h':=by
 intro n
 induction n with
 | zero=>intro ib fr h e s hr;cases hr
 | succ n ih =>
  intro ib fr h e s hr k
  cases ib with
  | c ic=>exact(jpr hX fuel).1 _ _ _ _ _ (show run F fuel ic (.mk fr h)=some (e,s) from hr) k
  | seq x y =>
   obtain⟨p,h1,h2⟩:=jaa.1 (show ob (jns F fuel B n x (.mk fr h)) (fun p=>Ex.casesOn (motive:=fun _=>Option (Ex×St)) p.1 (jns F fuel B n y p.2) (fun _=>some p) (some p))=some (e,s) from hr)
   obtain⟨e1,s1⟩:=p
   obtain⟨fr1,h3,rfl,a⟩:=ih _ _ _ _ _ h1 k
   cases e1 with
   | normal =>
    obtain⟨fr2,h4,rfl,a2⟩:=ih _ _ _ _ _ h2 a.wf
    exact⟨fr2,h4,rfl,a.trans' a2⟩
   | exit _=>cases h2;exact⟨_,_,rfl,a⟩
   | ret=>cases h2;exact⟨_,_,rfl,a⟩
  | block id b =>
   obtain⟨p,h1,h2⟩:=jaa.1 (show ob (jns F fuel B n b (.mk fr h)) (fun p=>Ex.casesOn (motive:=fun _=>Option (Ex×St)) p.1 (some p) (fun k=>oif (Nat.beq k id) (some (.normal,p.2)) (some p)) (some p))=some (e,s) from hr)
   obtain⟨e1,s1⟩:=p
   obtain⟨fr1,h3,rfl,a⟩:=ih _ _ _ _ _ h1 k
   cases e1 with
   | normal=>cases h2;exact⟨_,_,rfl,a⟩
   | exit j =>
    have h2':oif (Nat.beq j id) (some (Ex.normal,St.mk fr1 h3)) (some (.exit j,.mk fr1 h3))=some (e,s):=h2
    rw[jap] at h2'
    split at h2'<;>(cases h2';exact⟨_,_,rfl,a⟩)
   | ret=>cases h2;exact⟨_,_,rfl,a⟩
  | loop b =>
   obtain⟨p,h1,h2⟩:=jaa.1 (show ob (jns F fuel B n b (.mk fr h)) (fun p=>Ex.casesOn (motive:=fun _=>Option (Ex×St)) p.1 (jns F fuel B n (.loop b) p.2) (fun _=>some p) (some p))=some (e,s) from hr)
   obtain⟨e1,s1⟩:=p
   obtain⟨fr1,h3,rfl,a⟩:=ih _ _ _ _ _ h1 k
   cases e1 with
   | normal =>
    obtain⟨fr2,h4,rfl,a2⟩:=ih _ _ _ _ _ h2 a.wf
    exact⟨fr2,h4,rfl,a.trans' a2⟩
   | exit _=>cases h2;exact⟨_,_,rfl,a⟩
   | ret=>cases h2;exact⟨_,_,rfl,a⟩
  | cond c x y =>
   obtain⟨v,h1,h2⟩:=jaa.1 (show ob (ev [] fr c) (fun v=>jhe v (fun t=>jns F fuel B n (oif t x y) (.mk fr h)))=some (e,s) from hr)
   obtain⟨t,rfl,h3⟩:=jcx h2
   exact ih _ _ _ _ _ h3 k
  | flo l =>
   obtain⟨s1,h1,h2⟩:=jaa.1 (show ob (jm3 (jbr F (run F fuel)) l [] [] fr h) (fun s=>some (.normal,s))=some (e,s) from hr)
   cases h2
   exact jx1 (jpr (F:=F) hX fuel).2 l _ _ _ _ _ h1 k
  | back x d jb =>
   obtain⟨v,hv,hr1⟩:=jaa.1 (show jq7 F fuel B (.mk fr h) x d jb=some (e,s) from hr)
   obtain⟨gf,caps,rfl,hr2⟩:=jee hr1
   obtain⟨hb,hr3⟩:=jab.1 hr2
   match caps,hr3 with
   | [p],hr3 =>
    obtain⟨c,hc1,hr4⟩:=jaa.1 (show jsy F fuel fr h d jb p.1 p.2=some (e,s) from hr3)
    match c,hr4 with
    | v0::rest,hr4 =>
     obtain⟨⟨b,o,N,es⟩,_,hr5⟩:=jaa.1 (show ob (qdl h v0) (fun q =>
      oif (Nat.ble 1 q.2.2.1) (oif (Nat.ble q.2.2.1 1000000) (oif (j1d h p.1 p.2 q.1 q.2.1 q.2.2.1 q.2.2.2) (ob (rounds F fuel jb fr d p.1 p.2 q.1 q.2.1 q.2.2.1 q.2.2.2 q.2.2.1 h) (fun h'=>some (.normal,.mk fr h'))) none) none) none)=some (e,s) from hr4)
     obtain⟨_,hr5⟩:=jab.1 hr5
     obtain⟨_,hr6⟩:=jab.1 hr5
     obtain⟨_,hr8⟩:=jab.1 hr6
     obtain⟨hfin,hrr,hr9⟩:=jaa.1 hr8
     cases hr9
     exact⟨_,_,rfl,jsz hX N h hfin hrr k⟩
    | [],hr4=>cases hr4
   | [],hr3=>cases hr3
   | _::_::_,hr3=>cases hr3
end
end
end Go.Proofs.YtdbklpgagdbpiaaDoor.Ev
