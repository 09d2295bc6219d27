/- Boxes that are filled once: they stay. A region without guards in which there are such. No program in sight. -/
import Derived.Test.YtalbjjoppndjjaaDrawS
import Derived.Tactics
import Derived.LoopN
import Derived.Below
namespace Go.Proofs.Ytalbjjoppndjjaa.Ev
open Go
set_option linter.all false
open Go Go.RowKit
variable {v:AV} {f:FuncId} {h h' h'':Hp} {fr vs:List AV} {n:Nat} {w w':World}
def j5i:Fns->FuncId->Option IF
 | .mk T _=>T
def jcp:Fns->FuncId->List AV->Hp->R
 | .mk _ X=>X
structure Env (P:Program) (A:Nat->Int) (T:Tr TI) (F:Fns):Prop where
 tys:Tys P T
 mix:P.follows .mixedOrders=true
 fn:∀ f i,j5i F f=some i->∃ fn cb acc,P.funcs[f]?=some fn/\qfi T cb acc fn=some i/\(fn.name == "runtime.NumGoroutine")=false
 ext:∀ f vs h v h',jcp F f vs h=some (v,h')->qlu P f/\(WF h->Abs (fun n=>h.lo<=n) h h')/\∀ φ w (args:Array Value),Rel A φ h w->All2 (cV A φ) vs args.toList ->
  Calls P f args w (fun e w'=>∃ rv φ',e=.returned rv/\Step (fun n=>h.lo<=n) φ φ' h h' w w'/\Rel A φ' h' w'/\cV A φ' v rv)
section
variable {F:Fns} {cl:FuncId->List AV->Hp->R}
theorem Abs.trans' (a:Abs (fun n=>h.lo<=n) h h') (b:Abs (fun n=>h'.lo<=n) h' h''):Abs (fun n=>h.lo<=n) h h'':=by
 rw[a.lo] at b;exact a.trans b
theorem qat {st:List AV} {es:List Ent} (k:WF h) (hcl:jjn cl) {op:IOp} {g:Option (Nat×Bool)} {m:Option (List Nat)} {e:Ent} (hv:jxs cl st fr es h op g m=some (.mk v h' e)):Abs (fun n=>h.lo<=n) h h':=by
 obtain⟨b,hb,hv1⟩:=jaa.1 hv
 cases b with
 | false =>
  have h8:some (DR.mk .undef h (.mk [] (some [])))=some (.mk v h' e):=hv1
  simp only[Option.some.injEq,DR.mk.injEq] at h8
  rw[←h8.2.1];exact Abs.refl _ k
 | true =>
  cases m with
  | none =>
   obtain⟨p,hp,h8⟩:=jaa.1 (show ob (iop cl st fr h op) (fun p=>some (.mk p.1 p.2 (.mk [] (some []))))=some (DR.mk v h' e) from hv1)
   obtain⟨v',h''⟩:=p
   simp only[Option.some.injEq,DR.mk.injEq] at h8
   obtain⟨rfl,rfl,h9⟩:=h8
   exact(jef k hcl hp).2
  | some js =>
   obtain⟨hid',v',h1',e',h8,h9,h10⟩:=joa (show jl8 cl st fr es h op js=some (.mk v h' e) from hv1)
   simp only[DR.mk.injEq] at h10
   obtain⟨rfl,rfl,rfl⟩:=h10
   have hsub:∀ n,jap h.hid n=true->jap hid' n=true:=fun n hn=>(jfn h8 n).2 (.inl hn)
   obtain⟨a1,a2,a3,a4,a5,a6⟩:=jm2 h9 k hcl hsub
   refine⟨⟨a1.pos,a1.top,f01 k.lo a2,a1.fresh⟩,a2,rfl,rfl,fun n hn hv=>a3 n (fun ht=>?_),a5,fun n h5 h6=>(a6 n h5 h6).2.1⟩
   rcases a4 n ht with⟨h5,_⟩ | ⟨h5,_,h6,_⟩
   .omega
   .rcases hv with hv | hv
    .exact hv h5
    .rw [hsub n hv] at h6;cases h6
theorem j0l (hcl:jjn cl):∀ (l:List (IOper×Option (List Nat))) (st:List AV) (es:List Ent) (fr:List AV) (h:Hp) (s:St),WF h->jx0 cl l st es fr h=some s->∃ fr' h',s=.mk fr' h'/\Abs (fun n=>h.lo<=n) h h'
 | [],st,es,fr,h,s,k,hv=>⟨fr,h,(Option.some.inj hv).symm,Abs.refl _ k⟩
 | (.mk dst op g,m)::l,st,es,fr,h,s,k,hv=>by
  obtain⟨d,hd,h1⟩:=jaa.1 (show ob (jxs cl st fr es h op g m) (fun p=>DR.casesOn (motive:=fun _=>Option St) p (fun v h' e=>jx0 cl l (v::st) (e::es) (jcs fr dst v) h'))=some s from hv)
  cases d with
  | mk v h' e =>
   have a:=qat k hcl hd
   obtain⟨fr',h'',e',a'⟩:=j0l hcl l _ _ _ h' s a.wf h1
   exact⟨fr',h'',e',a.trans' a'⟩
theorem jgk {l:List IR} (hr:jb9 (.mk fr h) l=some (v,h')) :
 h'=h/\∃ xs,jf4 fr h l=some xs/\((xs=[]/\v=.tup [])∨(∃ p,xs=[p]/\jf2 p.1 p.2=some v)∨(2<=xs.length/\v=.tup xs)):=by
 obtain⟨xs,hx,h1⟩:=jaa.1 (show ob (jf4 fr h l) (fun vs=>List.casesOn (motive:=fun _=>R) vs (ok (.tup []) h) (fun p r=>List.casesOn (motive:=fun _=>R) r (ob (jf2 p.1 p.2) (fun v=>ok v h)) (fun _ _=>ok (.tup vs) h)))=some (v,h') from hr)
 match xs,hx,h1 with
 | [],hx,h1=>cases h1;exact⟨rfl,[],hx,.inl ⟨rfl,rfl⟩⟩
 | [p],hx,h1 =>
  obtain⟨u,hu,h2⟩:=jaa.1 (show ob (jf2 p.1 p.2) (fun v=>ok v h)=some (v,h') from h1)
  cases h2
  exact⟨rfl,[p],hx,.inr (.inl ⟨p,rfl,hu⟩)⟩
 | p::q::r,hx,h1=>cases h1;exact⟨rfl,_,hx,.inr (.inr ⟨by simp,rfl⟩)⟩
theorem jq2 {ih:RC} (hr:jbt F ih f vs h=some (v,h')) :
 jcp F f vs h=some (v,h')∨∃ body nargs nslots res e s,j5i F f=some (.mk body nargs nslots res)/\vs.length=nargs/\ih body (.mk (vs++jc4 nslots) h)=some (e,s)/\(e=.normal∨e=.ret)/\jb9 s res=some (v,h'):=by
 cases F with
 | mk T X =>
 have h1:Option.rec (motive:=fun _=>R) (ob (T f) (fun fn=>IF.casesOn (motive:=fun _=>R) fn (fun body nargs nslots res=>oif (Nat.beq (jdc vs) nargs) (ob (ih body (.mk (jgi vs (jc4 nslots)) h)) (fun p =>
  Ex.casesOn (motive:=fun _=>R) p.1 (jb9 p.2 res) (fun _=>none) (jb9 p.2 res))) none))) (fun r=>some r) (X f vs h)=some (v,h'):=hr
 cases hx:X f vs h with
 | some u =>
  rw[hx] at h1
  cases h1
  exact .inl hx
 | none =>
  rw[hx] at h1
  obtain⟨fn,hfn,h2⟩:=jaa.1 h1
  cases fn with
  | mk body nargs nslots res =>
  obtain⟨h3,h4⟩:=jad.1 h2
  obtain⟨p,hp,h5⟩:=jaa.1 h4
  obtain⟨e,s⟩:=p
  rw[jgz,jbr] at h3
  rw[jct] at hp
  cases e with
  | normal=>exact .inr ⟨body,nargs,nslots,res,.normal,s,hfn,h3,hp,.inl rfl,h5⟩
  | ret=>exact .inr ⟨body,nargs,nslots,res,.ret,s,hfn,h3,hp,.inr rfl,h5⟩
  | exit id=>cases h5
theorem joc (hX:∀ f vs h v h',jcp F f vs h=some (v,h')->WF h->Abs (fun n=>h.lo<=n) h h'):∀ n,(∀ c fr h e s,run F n c (.mk fr h)=some (e,s)->WF h->∃ fr' h',s=.mk fr' h'/\Abs (fun n=>h.lo<=n) h h')/\jjn (jbt F (run F n)):=by
 intro n
 have cla:∀ n,(∀ c fr h e s,run F n c (.mk fr h)=some (e,s)->WF h->∃ fr' h',s=.mk fr' h'/\Abs (fun n=>h.lo<=n) h h')->jjn (jbt F (run F n)):=by
  intro n hn f vs h v h' k hr
  rcases jq2 hr with hx | ⟨body,nargs,nslots,res,e,s,_,_,h3,_,h5⟩
  .exact hX f vs h v h' hx k
  .obtain ⟨fr',h1,rfl,a⟩:=hn _ _ _ _ _ h3 k
   obtain⟨rfl,_⟩:=jgk h5
   exact a
 induction n with
 | zero=>exact⟨fun c fr h e s hr=>(by cases hr),cla 0 (fun c fr h e s hr=>by cases hr)⟩
 | succ n ih =>
  obtain⟨ih1,ih2⟩:=ih
  have main:∀ c fr h e s,run F (n+1) c (.mk fr h)=some (e,s)->WF h->∃ fr' h',s=.mk fr' h'/\Abs (fun n=>h.lo<=n) h h':=by
   intro c fr h e s hr k
   have hr':jz5 F (run F n) c (.mk fr h)=some (e,s):=hr
   cases c with
   | skip=>cases hr';exact⟨fr,h,rfl,Abs.refl _ k⟩
   | region ops =>
    obtain⟨s1,h1,h2⟩:=jaa.1 (show ob (jxz (jbt F (run F n)) ops [] fr h) (fun s=>some (.normal,s))=some (e,s) from hr')
    cases h2
    exact j0g ih2 _ _ _ _ _ k h1
   | draw ops =>
    obtain⟨s1,h1,h2⟩:=jaa.1 (show ob (jx0 (jbt F (run F n)) ops [] [] fr h) (fun s=>some (.normal,s))=some (e,s) from hr')
    cases h2
    exact j0l ih2 _ _ _ _ _ _ k h1
   | seq a b =>
    obtain⟨p,h1,h2⟩:=jaa.1 (show ob (run F n a (.mk fr h)) (fun p=>Ex.casesOn (motive:=fun _=>Option (Ex×St)) p.1 (run F n b p.2) (fun _=>some p) (some p))=some (e,s) from hr')
    obtain⟨e1,s1⟩:=p
    obtain⟨fr',h',rfl,a1⟩:=ih1 _ _ _ _ _ h1 k
    cases e1 with
    | normal =>
     obtain⟨fr'',h'',e2,a2⟩:=ih1 _ _ _ _ _ h2 a1.wf
     exact⟨fr'',h'',e2,a1.trans' a2⟩
    | exit id=>cases h2;exact⟨fr',h',rfl,a1⟩
    | ret=>cases h2;exact⟨fr',h',rfl,a1⟩
   | cond c x y =>
    obtain⟨v,h1,h2⟩:=jaa.1 (show ob (ev [] fr c) (fun v=>jif v (fun t=>run F n (oif t x y) (.mk fr h)))=some (e,s) from hr')
    obtain⟨t,rfl,h3⟩:=jdy h2
    exact ih1 _ _ _ _ _ h3 k
   | block id b =>
    obtain⟨p,h1,h2⟩:=jaa.1 (show ob (run F n b (.mk fr h)) (fun p=>Ex.casesOn (motive:=fun _=>Option (Ex×St)) p.1 (some p) (fun k=>oif (Nat.beq k id) (some (.normal,p.2)) (some p)) (some p))=some (e,s) from hr')
    obtain⟨e1,s1⟩:=p
    obtain⟨fr',h',rfl,a1⟩:=ih1 _ _ _ _ _ h1 k
    cases e1 with
    | normal=>cases h2;exact⟨fr',h',rfl,a1⟩
    | exit j =>
     have h2':oif (Nat.beq j id) (some (Ex.normal,St.mk fr' h')) (some (.exit j,.mk fr' h'))=some (e,s):=h2
     rw[jax] at h2'
     split at h2'<;>cases h2'<;>exact⟨fr',h',rfl,a1⟩
    | ret=>cases h2;exact⟨fr',h',rfl,a1⟩
   | loop b =>
    obtain⟨p,h1,h2⟩:=jaa.1 (show ob (run F n b (.mk fr h)) (fun p=>Ex.casesOn (motive:=fun _=>Option (Ex×St)) p.1 (run F n (.loop b) p.2) (fun _=>some p) (some p))=some (e,s) from hr')
    obtain⟨e1,s1⟩:=p
    obtain⟨fr',h',rfl,a1⟩:=ih1 _ _ _ _ _ h1 k
    cases e1 with
    | normal =>
     obtain⟨fr'',h'',e2,a2⟩:=ih1 _ _ _ _ _ h2 a1.wf
     exact⟨fr'',h'',e2,a1.trans' a2⟩
    | exit id=>cases h2;exact⟨fr',h',rfl,a1⟩
    | ret=>cases h2;exact⟨fr',h',rfl,a1⟩
   | exit id=>cases hr';exact⟨fr,h,rfl,Abs.refl _ k⟩
   | ret=>cases hr';exact⟨fr,h,rfl,Abs.refl _ k⟩
  exact⟨main,cla (n+1) main⟩
end
section
variable {P:Program} {A:Nat->Int} {T:Tr TI} {π:List Nat} {nt:Nat} {ops:Array Oper} {cl:FuncId->List AV->Hp->R}
theorem Step.trans' {φ ψ χ:Phi} {w'':World} (s:Step (fun n=>h.lo<=n) φ ψ h h' w w') (t:Step (fun n=>h'.lo<=n) ψ χ h' h'' w' w''):Step (fun n=>h.lo<=n) φ χ h h'' w w'':=by
 rw[s.abs.lo] at t;exact s.trans t
theorem jk7 (hT:Tys P T) (hclk:qc5 P A cl) {Q:Exit->Act->World->Prop}:∀ (r:List Oper) (k:Nat) (l:List IOper) (st fr:List AV) (h:Hp) (s:St) (φ:Phi) (a:Act) (w:World),(∀ j o,r[j]?=some o->ops[k+j]?=some o)->k+r.length=ops.size ->
 jii T π nt (jam (dD ops) k) k r=some l->jxz cl l st fr h=some s->Rel A φ h w->FrR A φ π fr a->LoR A φ (jam (dD ops) k) st a->nt<=a.tmps.size->(∀ j d,j<k->dD ops j=some d->d<a.tmps.size) ->
 (∀ φ' fr' h' a' w',s=.mk fr' h'->Step (fun n=>h.lo<=n) φ φ' h h' w w'->Rel A φ' h' w'->FrR A φ' π fr' a'->a'.defers=a.defers->a'.tmps.size=a.tmps.size->Q .normal a' w') ->
 wpOps P ops Q (List.range' k r.length) a w
 | [],k,l,st,fr,h,s,φ,a,w,hr,hk,hc,hi,rel,hf,hl,hnt,hd,hQ=>by
  cases hc
  exact hQ φ fr h a w (Option.some.inj (show some (St.mk fr h)=some s from hi)).symm (Step.refl _ rel rfl rfl rfl rfl) rel hf rfl rfl
 | o::r,k,l,st,fr,h,s,φ,a,w,hr,hk,hc,hi,rel,hf,hl,hnt,hd,hQ=>by
  have ho:ops[k]?=some o:=hr 0 o rfl
  have hoAt:jco ops k=o:=by simp[jco,f0k,ho]
  have hdk:dD ops k=o.dst:=by unfold dD;rw[hoAt]
  simp only[jii] at hc
  split at hc
  .rename_i ip l' hip hl'
   cases hc
   obtain⟨hds,op,g,rfl,hop,hg⟩:=jk6 hip
   obtain⟨p,hp,hi1⟩:=jaa.1 (show ob (qai cl st fr h op g) (fun p=>jxz cl l' (p.1::st) (jcs fr (jmz π o.dst) p.1) p.2)=some s from hi)
   obtain⟨v,h1⟩:=p
   obtain⟨b,hb,hp1⟩:=jaa.1 hp
   have hwant:Region.wanted o (yielded ops a.tmps)=b:=by
    refine jil (φ:=φ) (A:=A) (loc:=jam (dD ops) k) (st:=st) (k:=k) (fun j hj=>?_) (fun j d hj hjd=>?_) (fun j want d v _ hjd hjv=>hl d _ v hjd hjv) hg hb
    .rw [jbg (dD ops) hj]
     have:ops[j]?=some (jco ops j):=by
      have:j<ops.size:=by simp at hk;omega
      simp[jco,f0k,this]
     rw[this];rfl
    .rw [jbg (dD ops) hj] at hjd
     exact hd j d hj (Option.some.inj hjd)
   have next:∀ φ' rv w',Step (fun n=>h.lo<=n) φ φ' h h1 w w'->Rel A φ' h1 w'->cV A φ' v rv->wpOps P ops Q (List.range' (k+1) r.length) (a.put o.dst rv) w':=by
    intro φ' rv w' s1 r1 hcv
    have hle:=s1.le rel
    refine jk7 hT hclk r (k+1) l' (v::st) (jcs fr (jmz π o.dst) v) h1 s φ' (a.put o.dst rv) w' (fun j o' hj=>by have:=hr (j+1) o' (by simpa using hj);rw[←this];congr 1;omega) (by simp at hk;omega) ?_ hi1 r1 ((hf.mono hle).put hnt hds hcv) ?_ (by rw[jhu];exact hnt) (fun j d hj hjd=>?_) (fun φ'' fr' h' a' w'' e s2 r2 f2 d2 z2=>?_)
    .show jii T π nt (dD ops k::jam (dD ops) k) (k+1) r=some l'
     rw[hdk];exact hl'
    .show LoR A φ' (dD ops k::jam (dD ops) k) (v::st) (a.put o.dst rv)
     rw[hdk];exact(hl.mono hle).put hnt hds hcv
    .rw [jhu]
     rcases f1v.1 hj with h2 | h2
     .exact hd j d h2 hjd
     .subst h2
      rw[hdk] at hjd
      rw[hjd] at hds
      have:Nat.ble (d+1) nt=true:=hds
      exact f0n (f0l this) hnt
    .exact hQ φ'' fr' h' a' w'' e (s1.trans' s2) r2 f2 (d2.trans (jk1 _ _)) (z2.trans (jhu _ _))
   simp only[f0z,List.range'_succ,wpOps,ho]
   rw[hwant]
   cases b with
   | false =>
    simp only[f03,if_false]
    cases hp1
    exact next φ undef w (Step.refl _ rel rfl rfl rfl rfl) rel rfl
   | true =>
    simp only[if_true]
    exact .inl (jjm (cl:=cl) hT hclk (jr9 hf hl _) rel hop hp1 _ (.inr rfl) (fun φ' rv w' s1 r1 hcv=>next φ' rv w' s1 r1 hcv))
  .cases hc
end
section
variable {P:Program} {A:Nat->Int} {T:Tr TI} {F:Fns}
def qth:Ex->Exit
 | .normal=>.normal
 | .exit id=>.exit id
 | .ret=>.ret
def qfp (A:Nat->Int) (π:List Nat) (φ:Phi) (h:Hp) (w:World) (a:Act) (e:Ex) (s:St) (Q:Exit->Act->World->Prop):Prop :=
 ∀ φ' fr' h' a' w',s=.mk fr' h'->Step (fun n=>h.lo<=n) φ φ' h h' w w'->Rel A φ' h' w'->FrR A φ' π fr' a'->a'.defers=a.defers->a'.tmps.size=a.tmps.size->Q (qth e) a' w'
theorem qfp.trans {π:List Nat} {φ ψ:Phi} {a a':Act} {e:Ex} {s:St} {Q:Exit->Act->World->Prop} (k:qfp A π φ h w a e s Q) (st:Step (fun n=>h.lo<=n) φ ψ h h' w w') (hd:a'.defers=a.defers) (hs:a'.tmps.size=a.tmps.size):qfp A π ψ h' w' a' e s Q :=
 fun φ' fr' h'' a'' w'' e1 s1 r1 f1 d1 z1=>k φ' fr' h'' a'' w'' e1 (st.trans' s1) r1 f1 (d1.trans hd) (z1.trans hs)
def qms (P:Program) (A:Nat->Int) (T:Tr TI) (F:Fns) (n:Nat):Prop :=
 ∀ ic fr h e s,run F n ic (.mk fr h)=some (e,s)->∀ code cb π nt,jed T cb π nt code=some ic->∀ φ a w,Rel A φ h w->FrR A φ π fr a->nt<=a.tmps.size->∀ Q,qfp A π φ h w a e s Q->code.wp P Q a w
def qc9 (P:Program) (A:Nat->Int) (T:Tr TI) (F:Fns) (n:Nat):Prop :=
 ∀ ib fr h e s,run F n (.loop ib) (.mk fr h)=some (e,s)->∀ code cb π nt,jed T cb π nt code=some ib->∀ φ a w,Rel A φ h w->FrR A φ π fr a->nt<=a.tmps.size->∀ Q,qfp A π φ h w a e s Q->Code.rounds P code Q n a w
theorem jk8:∀ (n j:Nat) (v:AV),(jc4 n)[j]?=some v->v=.undef
 | 0,j,v,h=>by
  have:jc4 0=[]:=rfl
  rw[this] at h;simp at h
 | n+1,0,v,h=>by
  have:jc4 (n+1)=.undef::jc4 n:=rfl
  rw[this] at h;simpa using h.symm
 | n+1,j+1,v,h=>by
  have:jc4 (n+1)=.undef::jc4 n:=rfl
  rw[this] at h;exact jk8 n j v (by simpa using h)
theorem jjq:∀ (n k:Nat) (r:List Nat) (t:Nat),k<=t->t<k+n->idx t (j26 k n++r) 0=some (t - k)
 | 0,k,r,t,h1,h2=>by omega
 | n+1,k,r,t,h1,h2=>by
  simp only[j26,f1y,idx]
  by_cases e:k=t
  .subst e;rw[f2h];simp
  .have:Nat.beq k t=false:=by
    cases hb:Nat.beq k t with
    | false=>rfl
    | true=>exact absurd (f0x hb) e
   rw[this]
   simp only[cond_false]
   rw[jn5,jjq n (k+1) r t (by omega) (by omega)]
   simp
   omega
theorem jsc:∀ n k,(j26 k n).length=n
 | 0,k=>rfl
 | n+1,k=>by simp[j26,jsc n]
theorem jjr {π:List Nat} {φ:Phi} {a:Act} (hT:Tys P T) (rel:Rel A φ h w) (hf:FrR A φ π fr a):∀ (rs:List ResultVar) (l:List IR) (xs:List (Bool×List SV)),qal T π rs=some l->jf4 fr h l=some xs ->
 ∃ vs:List Value,(rs.mapM (fun | .tmp t=>pure (a.tmps.getD t undef) | .cell q t=>do loadVar t (←asAddr (a.tmps.getD q undef)):ResultVar->Sem Value)).run P w=.ok vs w/\All2 (fun p x=>cV1 A φ p.1 p.2 x) xs vs
 | [],l,xs,h1,h2=>by
  cases h1
  cases h2
  exact⟨[],rfl,.nil⟩
 | .tmp t::rs,l,xs,h1,h2=>by
  simp only[qal] at h1
  split at h1
  .rename_i j l' hj hl'
   cases h1
   obtain⟨x,hx,h3⟩:=jaa.1 (show ob (jmn fr h (.tmp j)) (fun v=>ob (jf4 fr h l') (fun x=>some (v::x)))=some xs from h2)
   obtain⟨ys,hys,h4⟩:=jaa.1 h3
   cases h4
   obtain⟨vs,hvs,ha⟩:=jjr hT rel hf rs l' ys hl' hys
   obtain⟨v,hv,h5⟩:=jaa.1 (show ob (jd3 fr j) (fun v=>AV.casesOn (motive:=fun _=>Option (Bool×List SV)) v (fun s=>some (false,[s])) (fun l=>some (true,l)) (fun _=>none) none none)=some x from hx)
   rw[jca] at hv
   have hc:=hf t j v hj hv
   refine⟨a.tmps.getD t undef::vs,by simp only[List.mapM_cons,Sem.run_bind,Sem.run_pure,Result.andThen_ok,hvs],.cons ?_ ha⟩
   cases v with
   | s y=>cases h5;exact⟨y,rfl,hc⟩
   | agg l=>cases h5;exact hc
   | _=>cases h5
  .cases h1
 | .cell q t::rs,l,xs,h1,h2=>by
  simp only[qal] at h1
  split at h1
  .rename_i j ti l' hj hti hl'
   cases hb:ti1 ti with
   | false=>rw[hb] at h1;cases h1
   | true =>
    rw[hb] at h1
    cases h1
    obtain⟨x,hx,h3⟩:=jaa.1 (show ob (jmn fr h (.cell j ti.size ti.agg)) (fun v=>ob (jf4 fr h l') (fun x=>some (v::x)))=some xs from h2)
    obtain⟨ys,hys,h4⟩:=jaa.1 h3
    cases h4
    obtain⟨vs,hvs,ha⟩:=jjr hT rel hf rs l' ys hl' hys
    obtain⟨v,hv,h5⟩:=jaa.1 (show ob (jd3 fr j) (fun v=>ju9 v (fun b off=>ob (rd h b off ti.size) (fun cs=>some (ti.agg,cs))))=some x from hx)
    obtain⟨b,off,rfl,h6⟩:=jje h5
    obtain⟨cs,hcs,h7⟩:=jaa.1 h6
    cases h7
    rw[jca] at hv
    obtain⟨lc,hlc,hval⟩:=(show jva φ b off (a.tmps.getD q undef) from hf q j _ hj hv)
    obtain⟨lc',us,e1,_,e2,e3,e4⟩:=jel rel hcs
    rw[hlc] at e1
    cases e1
    have kt:=hT t ti hti
    cases hag:ti.agg with
    | true =>
     have hl:=run_loadCells_list (P:=P) w ⟨lc.b,lc.o+off,none⟩ us (fun j u hj=>by rw[jcc];exact e4 j u hj)
     rw[e3] at hl
     have hcell:(do loadVar t (←asAddr (a.tmps.getD q undef)):Sem Value).run P w=.ok (.agg us.toArray) w:=by
      simp only[Sem.run_bind,Sem.run_pure,Result.andThen_ok,hval,asAddr,loadVar,kt.run_agg,hag,if_true,kt.run_size,hl]
     refine⟨.agg us.toArray::vs,?_,.cons ?_ ha⟩
     .rw [List.mapM_cons,Sem.run_bind]
      show Result.andThen ((do loadVar t (←asAddr (a.tmps.getD q undef)):Sem Value).run P w) _=_
      rw[hcell]
      simp only[Result.andThen_ok,Sem.run_bind,hvs,Sem.run_pure]
     .exact ⟨us,rfl,e2⟩
    | false =>
     have hsz:ti.size=1:=by
      simp only[ti1,hag,f3i,jgz] at hb;exact hb
     rw[hsz] at e3
     match us,e3,e2,e4 with
     | [u],_,e2,e4 =>
      have h8:=e4 0 u rfl
      rw[f1i] at h8
      cases e2 with
      | @cons s _ _ _ hs hn =>
       cases hn
       have hcell:(do loadVar t (←asAddr (a.tmps.getD q undef)):Sem Value).run P w=.ok u w:=by
        simp only[Sem.run_bind,Sem.run_pure,Result.andThen_ok,hval,asAddr,loadVar,kt.run_agg,hag,f03,if_false,run_load,h8]
       refine⟨u::vs,?_,.cons ?_ ha⟩
       .rw [List.mapM_cons,Sem.run_bind]
        show Result.andThen ((do loadVar t (←asAddr (a.tmps.getD q undef)):Sem Value).run P w) _=_
        rw[hcell]
        simp only[Result.andThen_ok,Sem.run_bind,hvs,Sem.run_pure]
       .exact ⟨s,rfl,hs⟩
  .cases h1
theorem jd0 (env:Env P A T F) (hs:qms P A T F n):qc5 P A (jbt F (run F n)):=by
 intro f vs h v0 h' hr
 have hT0:=env.tys
 rcases jq2 hr with hx | ⟨body,nargs,nslots,res,e,s,hT,hlen,hrun,he,hres⟩
 .obtain ⟨h1,_,h2⟩:=env.ext f vs h v0 h' hx
  exact⟨h1,h2⟩
 .obtain ⟨fn,cb,acc,h1,h2,h3⟩:=env.fn f _ hT
  unfold qfi at h2
  split at h2
  .cases h2
  .rename_i b hb
   dsimp only at h2
   split at h2
   .rename_i c r hc hr'
    cases h2
    refine⟨⟨fn,h1,by rw[hb];rfl,h3⟩,fun φ w args rel ha=>?_⟩
    have hal:=ha.len
    simp only[f16] at hal
    refine calls_of_wp h1 hb ?_
    refine hs _ _ _ _ _ hrun b _ _ _ hc φ _ w rel ?_ ?_ _ ?_
    .intro t j u hj hu
     rw[f2v] at hu
     split at hu
     .rename_i hlt
      have hjn:j<fn.params.size+fn.nfree:=by omega
      have:t=j:=by
       have h4:=jcx hj
       rw[f0j (by rw[jsc];exact hjn)] at h4
       have h5:=jjq (fn.params.size+fn.nfree) 0 [] j (by omega) (by omega)
       rw[f05] at h5
       have h6:=jcx h5
       rw[Nat.sub_zero,h4] at h6
       exact Option.some.inj h6
      subst this
      obtain⟨x,hx,hcx⟩:=ha.get t u hu
      rw[f09] at hx
      have:(args++Array.replicate (fn.ntmps - args.size) undef).getD t undef=x:=by
       rw[f0k,f2k (by omega),hx];rfl
      show cV A φ u ((args++Array.replicate (fn.ntmps - args.size) undef).getD t undef)
      rw[this]
      exact hcx
     .rename_i hge
      obtain rfl:=jk8 _ _ _ hu
      have htn:fn.params.size+fn.nfree<=t:=by
       rcases f0g t (fn.params.size+fn.nfree) with h4 | h4
       .rw [jjq _ 0 _ t (by omega) (by omega)] at hj
        have:t - 0=j:=Option.some.inj hj
        omega
       .exact h4
      show(args++Array.replicate (fn.ntmps - args.size) undef).getD t undef=undef
      rw[f0k,Array.getElem?_append_right (by omega)]
      rw[Array.getElem?_replicate]
      split<;>rfl
    .simp
     omega
    .intro φ' fr' h'' a' w' es st r1 f1 d1 z1
     subst es
     obtain⟨rfl,xs,hxs,hcase⟩:=jgk hres
     obtain⟨us,hus,hall⟩:=jjr hT0 r1 f1 fn.results.toList _ xs hr' hxs
     have hrun':∀ v',(if h:us.toArray.size=1 then us.toArray[0] else .tuple us.toArray)=v'->(results fn a'.tmps).run P w'=.ok v' w':=by
      intro v' hv'
      unfold results
      have e1:fn.results=fn.results.toList.toArray:=by simp
      rw[e1]
      simp only[List.mapM_toArray,Sem.run_bind,Sem.run_map]
      erw [hus]
      simp only[Result.andThen_ok,Sem.run_pure,hv']
     have hfin:∃ v',(results fn a'.tmps).run P w'=.ok v' w'/\cV A φ' v0 v':=by
      have hlen':=hall.len
      rcases hcase with⟨rfl,rfl⟩ | ⟨p,rfl,hmk⟩ | ⟨h2x,rfl⟩
      .cases hall
       exact⟨_,hrun' _ rfl,⟨[],rfl,.nil⟩⟩
      .cases hall with
       | @cons _ u _ _ hu hn =>
        cases hn
        refine⟨u,hrun' u rfl,?_⟩
        unfold cV1 at hu
        rcases jg7 hmk with⟨e2,rfl⟩ | ⟨e2,y,hy,rfl⟩
        .rw [if_pos e2] at hu;exact hu
        .rw [e2] at hu
         simp only[f03,if_false] at hu
         obtain⟨y',h5,h6⟩:=hu
         rw[hy] at h5
         cases h5
         exact h6
      .refine ⟨.tuple us.toArray,hrun' _ ?_,⟨us,rfl,hall⟩⟩
       rw[dif_neg]
       simp only[f2l]
       omega
     obtain⟨v',hv1,hv2⟩:=hfin
     have hbp:a'.defers=[]/\∃ v,(results fn a'.tmps).run P w'=.ok v w'/\∃ rv φ'',Ending.returned v=.returned rv/\Step (fun n=>h.lo<=n) φ φ'' h h' w w'/\Rel A φ'' h' w'/\cV A φ'' v0 rv:=⟨d1,v',hv1,v',φ',rfl,st,r1,hv2⟩
     rcases he with rfl | rfl
     .exact hbp
     .exact hbp
   .cases h2
theorem jf7 (env:Env P A T F):∀ n,qms P A T F n/\qc9 P A T F n:=by
 intro n
 induction n with
 | zero=>exact⟨fun ic fr h e s hr=>(by cases hr),fun ic fr h e s hr=>(by cases hr)⟩
 | succ n ih =>
  obtain⟨ih1,ih2⟩:=ih
  have hcl:=jd0 env ih1
  have habs:=(joc (F:=F) (fun f vs h v h' hx=>(env.ext f vs h v h' hx).2.1) n).2
  have hL:qc9 P A T F (n+1):=by
   intro ib fr h e s hr code cb π nt hc φ a w rel hf hnt Q hQ
   obtain⟨p,h1,h2⟩:=jaa.1 (show ob (run F n ib (.mk fr h)) (fun p=>Ex.casesOn (motive:=fun _=>Option (Ex×St)) p.1 (run F n (.loop ib) p.2) (fun _=>some p) (some p))=some (e,s) from hr)
   obtain⟨e1,s1⟩:=p
   rw[rounds_succ]
   refine ih1 _ _ _ _ _ h1 code cb π nt hc φ a w rel hf hnt _ ?_
   intro φ' fr' h' a' w' es st r1 f1 d1 z1
   subst es
   cases e1 with
   | normal=>exact ih2 _ _ _ _ _ h2 code cb π nt hc φ' a' w' r1 f1 (by rw[z1];exact hnt) Q (hQ.trans st d1 z1)
   | exit id=>cases h2;exact hQ φ' fr' h' a' w' rfl st r1 f1 d1 z1
   | ret=>cases h2;exact hQ φ' fr' h' a' w' rfl st r1 f1 d1 z1
  refine⟨?_,hL⟩
  intro ic fr h e s hr code cb π nt hc φ a w rel hf hnt Q hQ
  cases code with
  | skip =>
   cases hc
   cases hr
   exact wp_skip (hQ φ fr h a w rfl (Step.refl _ rel rfl rfl rfl rfl) rel hf rfl rfl)
  | region id ops draw =>
   cases draw with
   | false =>
    have hrange:List.range ops.size=List.range' 0 ops.toList.length:=by rw[List.range_eq_range'];simp
    obtain⟨l,hl,e⟩:=f0b.1 (show(jii T π nt [] 0 ops.toList).map .region=some ic from hc)
    subst e
    obtain⟨s1,h1,h2⟩:=jaa.1 (show ob (jxz (jbt F (run F n)) l [] fr h) (fun s=>some (.normal,s))=some (e,s) from hr)
    cases h2
    refine wp_region ?_
    rw[hrange]
    refine jk7 env.tys hcl ops.toList 0 l [] fr h _ φ a w (fun j o hj=>by rw[f0y,←f09];exact hj) (by simp) hl h1 rel hf (fun t i v hi=>by cases hi) hnt (fun j d hj=>by omega) ?_
    intro φ' fr' h' a' w' es st r1 f1 d1 z1
    exact hQ φ' fr' h' a' w' es st r1 f1 d1 z1
   | true =>
    obtain⟨l,hl,e⟩:=f0b.1 (show(j4v T π nt ops.toList).map .draw=some ic from hc)
    subst e
    obtain⟨s1,h1,h2⟩:=jaa.1 (show ob (jx0 (jbt F (run F n)) l [] [] fr h) (fun s=>some (.normal,s))=some (e,s) from hr)
    cases h2
    exact j3i env.mix env.tys hcl habs hl h1 rel hf hnt (fun φ' fr' h' a' w' es st r1 f1 d1 z1=>hQ φ' fr' h' a' w' es st r1 f1 d1 z1)
  | seq x y =>
   simp only[jed] at hc
   split at hc
   .rename_i cx cy hx hy
    cases hc
    obtain⟨p,h1,h2⟩:=jaa.1 (show ob (run F n cx (.mk fr h)) (fun p=>Ex.casesOn (motive:=fun _=>Option (Ex×St)) p.1 (run F n cy p.2) (fun _=>some p) (some p))=some (e,s) from hr)
    obtain⟨e1,s1⟩:=p
    refine wp_seq (ih1 _ _ _ _ _ h1 x cb π nt hx φ a w rel hf hnt _ ?_)
    intro φ' fr' h' a' w' es st r1 f1 d1 z1
    subst es
    cases e1 with
    | normal=>exact ih1 _ _ _ _ _ h2 y cb π nt hy φ' a' w' r1 f1 (by rw[z1];exact hnt) Q (hQ.trans st d1 z1)
    | exit id=>cases h2;exact hQ φ' fr' h' a' w' rfl st r1 f1 d1 z1
    | ret=>cases h2;exact hQ φ' fr' h' a' w' rfl st r1 f1 d1 z1
   .cases hc
  | cond c x y =>
   simp only[jed] at hc
   split at hc
   .rename_i c' cx cy hc' hx hy
    cases hc
    obtain⟨v,h1,h2⟩:=jaa.1 (show ob (ev [] fr c') (fun v=>jif v (fun t=>run F n (oif t cx cy) (.mk fr h)))=some (e,s) from hr)
    obtain⟨t,rfl,h3⟩:=jdy h2
    have hE:=jr9 (A:=A) (φ:=φ) (loc:=[]) (st:=[]) hf (fun t i v hi=>by cases hi) [c]
    have hcv:a.eval c=.bool t:=hE c (by simp) _ _ hc' h1
    refine wp_cond hcv ?_
    rw[jax] at h3
    cases t with
    | true=>exact ih1 _ _ _ _ _ h3 x cb π nt hx φ a w rel hf hnt Q hQ
    | false=>exact ih1 _ _ _ _ _ h3 y cb π nt hy φ a w rel hf hnt Q hQ
   .cases hc
  | block id b =>
   obtain⟨ib,hb,e⟩:=f0b.1 (show(jed T cb π nt b).map (.block id)=some ic from hc)
   subst e
   obtain⟨p,h1,h2⟩:=jaa.1 (show ob (run F n ib (.mk fr h)) (fun p=>Ex.casesOn (motive:=fun _=>Option (Ex×St)) p.1 (some p) (fun k=>oif (Nat.beq k id) (some (.normal,p.2)) (some p)) (some p))=some (e,s) from hr)
   obtain⟨e1,s1⟩:=p
   refine wp_block (ih1 _ _ _ _ _ h1 b cb π nt hb φ a w rel hf hnt _ ?_)
   intro φ' fr' h' a' w' es st r1 f1 d1 z1
   subst es
   cases e1 with
   | normal=>cases h2;exact hQ φ' fr' h' a' w' rfl st r1 f1 d1 z1
   | exit j =>
    have h2':oif (Nat.beq j id) (some (Ex.normal,St.mk fr' h')) (some (.exit j,.mk fr' h'))=some (e,s):=h2
    rw[jax] at h2'
    show if j=id then Q .normal a' w' else Q (.exit j) a' w'
    split at h2'
    .rename_i hj
     rw[jgz] at hj
     cases h2'
     rw[if_pos hj]
     exact hQ φ' fr' h' a' w' rfl st r1 f1 d1 z1
    .rename_i hj
     rw[jgz] at hj
     cases h2'
     rw[if_neg hj]
     exact hQ φ' fr' h' a' w' rfl st r1 f1 d1 z1
   | ret=>cases h2;exact hQ φ' fr' h' a' w' rfl st r1 f1 d1 z1
  | loop b =>
   obtain⟨ib,hb,e⟩:=f0b.1 (show(jed T cb π nt b).map .loop=some ic from hc)
   subst e
   exact wp_loop_rounds (n+1) (hL _ _ _ _ _ hr b cb π nt hb φ a w rel hf hnt Q hQ)
  | exit id =>
   cases hc
   cases hr
   exact wp_exit (hQ φ fr h a w rfl (Step.refl _ rel rfl rfl rfl rfl) rel hf rfl rfl)
  | ret =>
   cases hc
   cases hr
   exact wp_ret (hQ φ fr h a w rfl (Step.refl _ rel rfl rfl rfl rfl) rel hf rfl rfl)
  | _=>cases hc
def h0:Hp:=.mk 1 .leaf 0 []
def qab (k:Nat->Option (Array Value)):Phi:=⟨fun _=>none,k⟩
def jqk (k:Nat->Option (Array Value)) (w:World):Prop:=∀ b cs,k b=some cs->∃ ty:TypeId×Nat×Nat,w.heap[b]?=some (.cells cs ty.1 ty.2)
theorem jk9 (w:World):jqk (fun _=>none) w:=fun b cs e=>by cases e
theorem qmt {k:Nat->Option (Array Value)} (hk:jqk k w):Rel A (qab k) h0 w:=by
 have hget:∀ n,h0.get n=none:=fun n=>rfl
 refine⟨⟨f0f _,by decide,f10 _,fun n _=>rfl⟩,fun n _=>rfl,fun n x hx=>?_,fun n m l l' hn=>?_,hk,fun n L hn=>?_⟩
 .rw [hget] at hx;cases hx
 .rw [hget] at hn;cases hn
 .rw [hget] at hn;cases hn
theorem jm3 (env:Env P A T F) (hr:jih F n f vs h0=some (v,h')) {k:Nat->Option (Array Value)} (hk:jqk k w) (args:Array Value) (ha:All2 (cV A (qab k)) vs args.toList) :
 Calls P f args w (fun e w'=>∃ rv φ,e=.returned rv/\Step (fun _=>False) (qab k) φ h0 h' w w'/\Rel A φ h' w'/\cV A φ v rv):=by
 have hcl:=jd0 env (jf7 env n).1
 refine Calls.mono ((hcl f vs h0 v h' hr).2 _ w args (qmt hk) ha) ?_
 rintro e w' ⟨rv,φ',rfl,s,r,hcv⟩
 refine⟨rv,φ',rfl,⟨⟨s.abs.wf,s.abs.nx,s.abs.lo,s.abs.hid,fun n hn _=>?_,s.abs.live,s.abs.seen⟩,s.ext,s.kle,s.knew,s.os,s.tape,s.output,s.size,fun p hp _=>s.old p hp (fun n l _ hn=>?_),fun n L hn hl hL=>.inl ?_⟩,r,hcv⟩
 .cases h5:h'.tr.get n with
  | none=>rfl
  | some x =>
   have:=s.abs.live n hn (by rw[h5];rfl)
   cases this
 .have h1:h0.get n=none:=rfl
  rw[h1] at hn;cases hn
 .rcases s.new n L hn hl hL with h1 | ⟨m,M,_,h2,_⟩
  .exact h1
  .have h1:h0.get m=none:=rfl
   rw[h1] at h2;cases h2
theorem j5j (env:Env P A T F) (hr:jih F n f vs h0=some (v,h')) {k:Nat->Option (Array Value)} (hk:jqk k w) (args:Array Value) (ha:All2 (cV A (qab k)) vs args.toList) :
 Calls P f args w (fun e w'=>∃ rv φ,e=.returned rv/\Below w.heap.size w w'/\cV A φ v rv):=by
 refine Calls.mono (jm3 env hr hk args ha) ?_
 rintro e w' ⟨rv,φ',rfl,s,r,hcv⟩
 exact⟨rv,φ',rfl,⟨s.os,s.tape,s.output,s.size,fun k hk=>s.old k hk (fun n l h _=>h.elim)⟩,hcv⟩
def qmu:R->Bool
 | some (.s (.bool b),_)=>b
 | _=>false
theorem qau (env:Env P A T F) (hr:qmu (jih F n f vs h0)=true) {k:Nat->Option (Array Value)} (hk:jqk k w) (args:Array Value) (ha:All2 (cV A (qab k)) vs args.toList) :
 Calls P f args w (fun e w'=>e=.returned (.bool true)/\Below w.heap.size w w'):=by
 cases hrun:jih F n f vs h0 with
 | none=>rw[hrun] at hr;cases hr
 | some p =>
  obtain⟨v,h'⟩:=p
  rw[hrun] at hr
  match v,hrun,hr with
  | .s (.bool b),hrun,hr =>
   have hb:b=true:=hr
   subst hb
   refine Calls.mono (j5j env hrun hk args ha) ?_
   rintro e w' ⟨rv,φ,rfl,hbl,hcv⟩
   have:rv=.bool true:=hcv
   exact⟨by rw[this],hbl⟩
end
end Go.Proofs.Ytalbjjoppndjjaa.Ev
