/- Boxes that are filled once: they stay. A region without guards in which there are such. No program in sight. -/
import Derived.Test.YtdbklpgagdbpiaaDoorDrawS
import Derived.Tactics
import Derived.LoopN
import Derived.Below
namespace Go.Proofs.YtdbklpgagdbpiaaDoor.Ev
open Go
set_option linter.all false
inductive StC (T:Tr TI) (cb π:List Nat) (nt:Nat) (loc:List (Option Nat)) (o:Oper):Option (Nat×TypeId)->IOper->Option (Nat×TypeId)->Option Nat->Prop where
 | alloc (t:Nat) (e:TypeId) (ti:TI):o.op=.alloc e->o.dst=some t->jw0 loc t=true->jh1 T e=some ti->StC T cb π nt loc o none (.mk (jfx π (some t)) (.p (.mv (.c .any))) none) (some (t,e)) none
 | box (t:Nat) (e:TypeId) (x:Operand) (x':Od) (ti:TI):o.op=.box e x->o.dst=some t->jh1 T e=some ti->cO π loc x=some x'->StC T cb π nt loc o none (.mk (jfx π (some t)) (.a (.boxc ti.size x')) none) none (some t)
 | norm (op:IOp):cOp T π loc o.op=some op->StC T cb π nt loc o none (.mk (jfx π o.dst) op none) none o.dst
 | store (t:Nat) (e:TypeId) (v:Operand) (v':Od) (ti:TI):o.op=.store e (.tmp t) v->o.dst=none->jh4 t [v]=true->jh1 T e=some ti->cO π loc v=some v'->StC T cb π nt loc o (some (t,e)) (.mk (jfx π (some t)) (.a (.boxc ti.size v')) none) none (some t)
 | mid (t:Nat) (e:TypeId) (po:PO):jh4 t o.op.operands.toList=true->o.dst≠some t->cOp T π loc o.op=some (.p po)->StC T cb π nt loc o (some (t,e)) (.mk (jfx π o.dst) (.p po) none) (some (t,e)) o.dst
theorem j2p:∀ l:List Oper,qe3 [] l=false
 | []=>rfl
 | o::r=>by
  simp only[qe3,j2p r,Bool.or_false]
  split<;>rfl
theorem jzv {cb:List Nat} {o:Oper} {t:Nat} {e:TypeId} (h:j6l cb o=.alloc t e):o.op=.alloc e/\o.dst=some t:=by
 unfold j6l at h
 split at h
 .rename_i e' t' h1 h2
  cases hb:qci t' cb<;>rw[hb] at h<;>cases h
  exact⟨h1,h2⟩
 .rename_i e' x' t' h1 h2
  cases hb:qci t' cb<;>rw[hb] at h<;>cases h
 .cases h
theorem j7e {cb:List Nat} {o:Oper} {t:Nat} {e:TypeId} {x:Operand} (h:j6l cb o=.box t e x):o.op=.box e x/\o.dst=some t:=by
 unfold j6l at h
 split at h
 .rename_i e' t' h1 h2
  cases hb:qci t' cb<;>rw[hb] at h<;>cases h
 .rename_i e' x' t' h1 h2
  cases hb:qci t' cb<;>rw[hb] at h<;>cases h
  exact⟨h1,h2⟩
 .cases h
theorem jxk {o:Oper} {e:TypeId} {t:Nat} {v:Operand} (h:jzf o=some (e,t,v)):o.op=.store e (.tmp t) v:=by
 unfold jzf at h
 split at h
 .rename_i h1;cases h;exact h1
 .cases h
theorem j49 {T:Tr TI} {cb π:List Nat} {nt:Nat} {p p':Option (Nat×TypeId)} {loc:List (Option Nat)} {o:Oper} {io:IOper} {d':Option Nat} (h:j6m T cb π nt p loc o=some (io,p',d')) :
 o.guard=none/\jjf nt o.dst=true/\StC T cb π nt loc o p io p' d':=by
 unfold j6m at h
 split at h
 .cases h
 rename_i hg
 refine⟨hg,?_⟩
 cases hd:jjf nt o.dst with
 | false=>rw[hd] at h;cases h
 | true =>
  rw[hd] at h
  simp only[cond_true] at h
  refine⟨rfl,?_⟩
  split at h
  .split at h
   .rename_i t e hk
    obtain⟨h1,h2⟩:=jzv hk
    cases hn:jw0 loc t with
    | false=>rw[hn] at h;cases h
    | true =>
     rw[hn] at h
     simp only[cond_true] at h
     split at h
     .rename_i ti hti
      cases h
      exact .alloc t e ti h1 h2 hn hti
     .cases h
   .rename_i t e x hk
    obtain⟨h1,h2⟩:=j7e hk
    split at h
    .rename_i ti x' hti hx
     cases h
     exact .box t e x x' ti h1 h2 hti hx
    .cases h
   .split at h
    .rename_i op hop
     cases h
     exact .norm op hop
    .cases h
  .rename_i t e
   split at h
   .rename_i e' t' v hs
    have h1:=jxk hs
    cases hb:(Nat.beq e' e&&(Nat.beq t' t&&(jh4 t [v]&&qo3 o.dst))) with
    | false=>rw[hb] at h;cases h
    | true =>
     rw[hb] at h
     simp only[cond_true] at h
     simp only[f0y] at hb
     obtain⟨b1,b2,b3,b4⟩:=hb
     obtain rfl:=f0i b1
     obtain rfl:=f0i b2
     have hdn:o.dst=none:=by
      cases hd':o.dst with
      | none=>rfl
      | some _=>rw[hd'] at b4;cases b4
     split at h
     .rename_i ti v' hti hv
      cases h
      exact .store t' e' v v' ti h1 hdn b3 hti hv
     .cases h
   .cases hb:(jh4 t o.op.operands.toList&&dNe t o.dst) with
    | false=>rw[hb] at h;cases h
    | true =>
     rw[hb] at h
     simp only[cond_true,f0y] at h hb
     obtain⟨b1,b2⟩:=hb
     have hne:o.dst≠some t:=fun e'=>by
      rw[e'] at b2
      simp[dNe,f1l] at b2
     split at h
     .rename_i po hop
      cases h
      exact .mid t e po b1 hne hop
     .cases h
section
variable {P:Program} {A:Nat->Int} {T:Tr TI} {cb π:List Nat} {nt:Nat} {cl:FuncId->List AV->Hp->R} {φ φ0:Phi} {h hh:Hp} {w w0 w' w1 w2:World} {W:Nat->Prop}
theorem Rel.grow (k:Rel A φ h w) {c:Array Value} {ty:TypeId} (g:Grown w w' c ty):Step W φ φ h h w w'/\Rel A φ h w':=by
 refine⟨⟨Abs.refl W k.wf,fun _ _=>rfl,fun _ _ e=>e,fun _ _ e=>.inl e,g.os,g.tape,g.output,by rw[g.size];omega,fun b hb _=>g.old b hb,fun n L hn _ hL=>by rw[k.dom n hn] at hL;cases hL⟩,⟨k.wf,k.dom,fun n x hx=>?_,k.inj,fun b cs e=>?_,k.sep⟩⟩
 .refine (k.blk n x hx).world (fun L hL=>g.old _ ?_)
  obtain⟨L',hL',hb⟩:=(k.blk n x hx).some_loc
  rw[hL'] at hL
  cases hL
  exact hb
 .obtain ⟨ty',h3⟩:=k.con b cs e
  exact⟨ty',by rw[g.old b (k.conLt e)];exact h3⟩
theorem Rel.fill (s:Step W φ0 φ hh h w0 w1) (k:Rel A φ h w1) {b:Nat} {c:Array Value} {ty:TypeId} (hb:w0.heap.size<=b) (hk:φ.k b=none) (hn:∀ n L,(h.get n).isSome=true->φ n=some L->L.b≠b) (g:Changed w1 w2 b c ty) :
 Step W φ0 (φ.cst b c) hh h w0 w2/\Rel A (φ.cst b c) h w2/\φ.le (φ.cst b c):=by
 have hkc:∀ p cs,φ.k p=some cs->(φ.cst b c).k p=some cs:=fun p cs e=>by
  show(φ.k p).or (if p=b then some c else none)=some cs
  rw[e];rfl
 have hle:φ.le (φ.cst b c):=⟨fun _ _ e=>e,hkc⟩
 have hcase:∀ p cs,(φ.cst b c).k p=some cs->(p=b/\cs=c)∨(p≠b/\φ.k p=some cs):=fun p cs e=>by
  have e':(φ.k p).or (if p=b then some c else none)=some cs:=e
  cases hq:φ.k p with
  | some x =>
   rw[hq] at e'
   exact .inr ⟨(fun h1=>by subst h1;rw[hk] at hq;cases hq),e'⟩
  | none =>
   rw[hq,Option.none_or] at e'
   split at e'
   .rename_i h1;exact .inl ⟨h1,(Option.some.inj e').symm⟩
   .cases e'
 refine⟨⟨s.abs,s.ext,fun p cs e=>hkc p cs (s.kle p cs e),fun p cs e=>?_,g.os.trans s.os,g.tape.trans s.tape,g.output.trans s.output,by rw[g.size];exact s.size,fun p hp hv=>?_,s.new⟩,⟨k.wf,k.dom,fun n x hx=>?_,k.inj,fun p cs e=>?_,fun n L hl hL=>?_⟩,hle⟩
 .rcases hcase p cs e with⟨rfl,_⟩ | ⟨_,h1⟩
  .exact .inr hb
  .exact s.knew p cs h1
 .rw [g.old p (by omega)];exact s.old p hp hv
 .refine ((k.blk n x hx).mono hle).world (fun L hL=>g.old _ ?_)
  exact hn n L (by rw[hx];rfl) hL
 .rcases hcase p cs e with⟨rfl,rfl⟩ | ⟨h1,h2⟩
  .exact ⟨(ty,0,0),g.new⟩
  .obtain ⟨ty',h3⟩:=k.con p cs h2
   exact⟨ty',by rw[g.old p h1];exact h3⟩
 .have h1:=k.sep n L hl hL
  have h2:=hn n L hl hL
  show(φ.k L.b).or (if L.b=b then some c else none)=none
  rw[if_neg h2,h1];rfl
def qtf (T:Tr TI) (φ:Phi) (h:Hp) (loc:List (Option Nat)) (a:Act) (w0 w:World):Option (Nat×TypeId)->Prop
 | none=>True
 | some (t,e)=>∃ b zc ti,jh1 T e=some ti/\a.tmps.getD t undef=.pointer (some ⟨b,0,none⟩)/\w.heap[b]?=some (.cells zc e (0,0))/\zc.size=ti.size/\w0.heap.size<=b/\φ.k b=none/\(∀ n L,(h.get n).isSome=true->φ n=some L->L.b≠b)/\t<a.tmps.size/\jw0 loc t=true/\jjf nt (some t)=true
theorem qe9 {t:Nat} {a:Act} (hnt:nt<=a.tmps.size) (hd:jjf nt (some t)=true):t<a.tmps.size:=by
 have:Nat.ble (t+1) nt=true:=hd
 exact f0m (f0g this) hnt
theorem jma {loc:List (Option Nat)} {t:Nat} (h:jw0 loc t=true):jne t loc 0=none:=by
 unfold jw0 at h
 split at h
 .cases h
 .rename_i h1;exact h1
theorem j7f {st fr:List AV} {n:Nat} {x:Od} {v:AV} {h':Hp} {rv:Value} (hv:jnc st fr h n x=some (v,h')) (hc:∀ u,ev st fr x=some u->cV A φ u rv) :
 h'=h/\rv.cells.size=n/\(∀ u∈rv.cells.toList,u.oneCell'=true)/\∀ ψ:Phi,φ.le ψ->∀ b,ψ.k b=some rv.cells->cV A ψ v (.pointer (some ⟨b,0,none⟩)):=by
 obtain⟨u,hu,hv1⟩:=jaa.1 hv
 obtain⟨cs,hv2,ha⟩:=(hc u hu).cells hv1
 obtain⟨h1,hv3⟩:=jab.1 hv2
 obtain⟨h2,hv4⟩:=jab.1 hv3
 cases hv4
 rw[jgt,ja7] at h1
 have hl:=ha.len
 refine⟨rfl,by simp at hl;omega,jir ha,fun ψ hle b hb=>⟨b,0,_,hb,rfl,fun j y hy=>?_⟩⟩
 obtain⟨u',h3,h4⟩:=ha.get j y hy
 refine⟨u',by rw[f0z];simpa using h3,(h4.toD (jtl h2 y (f0c hy))).mono hle.con⟩
theorem jei (hT:Tys P T) (hclk:qcu P A cl) {ops:Array Oper} {Q:Exit->Act->World->Prop} {s:St}:∀ (r:List Oper) (p:Option (Nat×TypeId)) (loc:List (Option Nat)) (l:List IOper) (st fr:List AV) (h:Hp) (φ:Phi) (a:Act) (w:World),
 jf6 T cb π nt p loc r=some l->jru cl l st fr h=some s->Step (fun n=>hh.lo<=n) φ0 φ hh h w0 w->Rel A φ h w->FrR A φ π fr a->LoR A φ loc st a->nt<=a.tmps.size->qtf (nt:=nt) T φ h loc a w0 w p ->
 (∀ φ' fr' h' a' w',s=.mk fr' h'->Step (fun n=>hh.lo<=n) φ0 φ' hh h' w0 w'->Rel A φ' h' w'->FrR A φ' π fr' a'->a'.defers=a.defers->a'.tmps.size=a.tmps.size->Q .normal a' w') ->
 wpList P ops Q r a w
 | [],p,loc,l,st,fr,h,φ,a,w,hc,hi,S,rel,hf,hl,hnt,hp,hQ=>by
  cases p with
  | none =>
   cases hc
   exact hQ φ fr h a w (Option.some.inj (show some (St.mk fr h)=some s from hi)).symm S rel hf rfl rfl
  | some q=>cases hc
 | o::r,p,loc,l,st,fr,h,φ,a,w,hc,hi,S,rel,hf,hl,hnt,hp,hQ=>by
  have hc':(match j6m T cb π nt p loc o with
   | some (io,p',d')=>(jf6 T cb π nt p' (d'::loc) r).map fun l=>io::l
   | none=>none)=some l:=by
   cases p<;>exact hc
  cases hst:j6m T cb π nt p loc o with
  | none=>rw[hst] at hc';cases hc'
  | some q =>
   obtain⟨io,p',d'⟩:=q
   rw[hst] at hc'
   obtain⟨l',hl',rfl⟩:=f0a.1 hc'
   obtain⟨hg,hds,hstc⟩:=j49 hst
   have hwant:Region.wanted o (yielded ops a.tmps)=true:=by simp[Region.wanted,hg]
   simp only[wpList,hwant,if_true]
   refine .inl ?_
   cases hstc with
   | alloc t e ti h1 h2 h3 h4 =>
    obtain⟨z,hz,hza,hzl⟩:=(hT e ti h4).run_zero (w:=w)
    have g:=jgy (w:=w) z.cells e
    obtain⟨s1,r1⟩:=rel.grow (W:=fun n=>hh.lo<=n) g
    have hi1:jru cl l' (.any::st) (jcn fr (jfx π (some t)) .any) h=some s:=hi
    have hr:(execOp a.eval o).run P w=.ok (.value (.pointer (some ⟨w.heap.size,0,none⟩))) { w with heap:=w.heap.push (.cells z.cells e) }:=by
     simp only[execOp,h1,Instr.alloc,Sem.run_bind,hz,Result.andThen_ok,jit,Sem.run_pure]
    refine jdd hr rfl ?_
    rw[h2] at hds
    have ht:=qe9 hnt hds
    refine jei hT hclk r (some (t,e)) (none::loc) l' (.any::st) (jcn fr (jfx π (some t)) .any) h φ _ _ hl' hi1 (S.trans s1) r1 (by rw[h2];exact hf.put hnt hds trivial) ?_ (by rw[jck];exact hnt) ?_ (fun φ' fr' h' a' w' e1 S1 R1 F1 D1 Z1=>hQ φ' fr' h' a' w' e1 S1 R1 F1 (D1.trans (jeh _ _)) (Z1.trans (jck _ _)))
    .intro t' i u hi' hu
     rw[jes] at hi'
     simp only[reduceCtorEq,if_false] at hi'
     obtain⟨i',hq,rfl⟩:=f0a.1 hi'
     rw[h2,jga ht,if_neg]
     .exact hl t' i' u hq (by simpa using hu)
     .rintro rfl;rw[jma h3] at hq;cases hq
    .refine ⟨w.heap.size,z.cells,ti,h4,?_,g.new,by have:=(hza A φ).len;simp at this;omega,S.size,?_,fun n L hn hL e'=>?_,by rw[jck];exact ht,?_,hds⟩
     .rw [h2,jga ht,if_pos rfl]
     .cases hk:φ.k w.heap.size with
      | none=>rfl
      | some cs=>exact absurd (rel.conLt hk) (by omega)
     .obtain ⟨L',hL',hb⟩:=rel.loc hn
      rw[hL] at hL'
      cases hL'
      omega
     .unfold jw0
      rw[jes]
      simp only[reduceCtorEq,if_false]
      rw[jma h3]
      rfl
   | box t e x x' ti h1 h2 h3 h4 =>
    obtain⟨q,hq,hi1⟩:=jaa.1 (show ob (j4r cl st fr h (.a (.boxc ti.size x')) none) (fun p=>jru cl l' (p.1::st) (jcn fr (jfx π (some t)) p.1) p.2)=some s from hi)
    obtain⟨v,hv'⟩:=q
    obtain⟨b,hb,hq1⟩:=jaa.1 hq
    cases hb
    obtain⟨rfl,hsz,hone,hcv⟩:=j7f (A:=A) (φ:=φ) (rv:=a.eval x) (show jnc st fr h ti.size x'=some (v,hv') from hq1) (fun u hu=>jhj hf hl [x] x (by simp) _ _ h4 hu)
    have g:=jgy (w:=w) (a.eval x).cells e
    obtain⟨s1,r1⟩:=rel.cst (W:=fun n=>hh.lo<=n) g
    have hle:=s1.le rel
    have hr:(execOp a.eval o).run P w=.ok (.value (.pointer (some ⟨w.heap.size,0,none⟩))) { w with heap:=w.heap.push (.cells (a.eval x).cells e) }:=by
     simp only[execOp,h1,Instr.box,Sem.run_bind,Result.andThen_ok,jit,Sem.run_pure]
    refine jdd hr rfl ?_
    rw[h2] at hds ⊢
    have hval:=hcv _ hle w.heap.size (Phi.cst_same _ _ _ (by
     cases e9:φ.k w.heap.size with
     | none=>rfl
     | some cs=>exact absurd (rel.conLt e9) (by omega)))
    refine jei hT hclk r none (some t::loc) l' (v::st) (jcn fr (jfx π (some t)) v) _ _ _ _ hl' hi1 (S.trans s1) r1 ((hf.mono hle).put hnt hds hval) ((hl.mono hle).put hnt hds hval) (by rw[jck];exact hnt) trivial (fun φ' fr' h' a' w' e1 S1 R1 F1 D1 Z1=>hQ φ' fr' h' a' w' e1 S1 R1 F1 (D1.trans (jeh _ _)) (Z1.trans (jck _ _)))
   | norm op hop =>
    obtain⟨q,hq,hi1⟩:=jaa.1 (show ob (j4r cl st fr h op none) (fun p=>jru cl l' (p.1::st) (jcn fr (jfx π o.dst) p.1) p.2)=some s from hi)
    obtain⟨v,h1⟩:=q
    obtain⟨b,hb,hq1⟩:=jaa.1 hq
    cases hb
    refine jiv (cl:=cl) hT hclk (jhj hf hl _) rel hop hq1 _ (.inr rfl) (fun φ' rv w' s1 r1 hcv=>?_)
    have hle:=s1.le rel
    have s1':Step (fun n=>hh.lo<=n) φ φ' h h1 w w':=by rw[S.abs.lo] at s1;exact s1
    exact jei hT hclk r none (o.dst::loc) l' (v::st) (jcn fr (jfx π o.dst) v) h1 φ' _ _ hl' hi1 (S.trans s1') r1 ((hf.mono hle).put hnt hds hcv) ((hl.mono hle).put hnt hds hcv) (by rw[jck];exact hnt) trivial (fun φ' fr' h' a' w' e1 S1 R1 F1 D1 Z1=>hQ φ' fr' h' a' w' e1 S1 R1 F1 (D1.trans (jeh _ _)) (Z1.trans (jck _ _)))
   | store t e v v' ti h1 h2 h3 h4 h5 =>
    obtain⟨b,zc,ti',k1,k2,k3,k4,k5,k6,k7,k8,k9,k10⟩:=hp
    rw[h4] at k1
    cases k1
    obtain⟨q,hq,hi1⟩:=jaa.1 (show ob (j4r cl st fr h (.a (.boxc ti.size v')) none) (fun p=>jru cl l' (p.1::st) (jcn fr (jfx π (some t)) p.1) p.2)=some s from hi)
    obtain⟨u,hv'⟩:=q
    obtain⟨b',hb',hq1⟩:=jaa.1 hq
    cases hb'
    obtain⟨rfl,hsz,hone,hcv⟩:=j7f (A:=A) (φ:=φ) (rv:=a.eval v) (show jnc st fr h ti.size v'=some (u,hv') from hq1) (fun u hu=>jhj hf hl [v] v (by simp) _ _ h5 hu)
    have kt:=hT e ti h4
    have hst:=run_storeCells_at P b 0 e (a.eval v).cells.toList 0 zc w k3 (by simp;omega) hone
    have hfull:(zc.toList.take (0+0)++(a.eval v).cells.toList++zc.toList.drop (0+0+(a.eval v).cells.toList.length)).toArray=(a.eval v).cells:=by
     have:zc.toList.drop (a.eval v).cells.size=[]:=f2x (by simp;omega)
     simp[this]
    rw[hfull] at hst
    have hρ:a.eval (.tmp t)=.pointer (some ⟨b,0,none⟩):=k2
    have hr:(execOp a.eval o).run P w=.ok .skip (w.setRow b (a.eval v).cells):=by
     simp only[execOp,h1,Instr.storeAt,Instr.sureAddr,hρ,Sem.run_bind,Sem.run_pure,Result.andThen_ok,storeVar,kt.run_size,hsz,ne_eq,not_true_eq_false,if_false,hst]
    obtain⟨S1,r1,hle⟩:=Rel.fill S rel k5 k6 k7 (Changed.row k3 (a.eval v).cells)
    refine jdd hr rfl ?_
    rw[h2]
    have hval:=hcv _ hle b (Phi.cst_same _ _ _ k6)
    have same:∀ t':Nat,(a.put none undef).tmps.getD t' undef=a.tmps.getD t' undef:=fun _=>rfl
    refine jei hT hclk r none (some t::loc) l' (u::st) (jcn fr (jfx π (some t)) u) _ _ (a.put none undef) _ hl' hi1 S1 r1 ?_ ?_ hnt trivial hQ
    .intro t' j y hj hy
     by_cases e':t'=t
     .subst e'
      have hcd:jfx π (some t')=some j:=hj
      rw[hcd] at hy
      have hy':(jr8 fr j u)[j]?=some y:=hy
      rw[jgj,f24] at hy'
      simp only[if_true] at hy'
      split at hy'
      .cases hy';rw[same,k2];exact hval
      .cases hy'
     .refine (hf t' j y hj ?_).mono hle
      cases hcd:jfx π (some t) with
      | none=>rw[hcd] at hy;exact hy
      | some j' =>
       rw[hcd] at hy
       have hy':(jr8 fr j' u)[j]?=some y:=hy
       rw[jgj,f1s] at hy'
       .exact hy'
       .rintro rfl
        have h6:=jcp hj
        rw[jcp (show idx t π 0=some _ from hcd)] at h6
        cases h6
        exact e' rfl
    .intro t' i y hi' hy
     rw[jes] at hi'
     split at hi'
     .rename_i e'
      cases e'
      cases hi'
      simp only[f1a,Option.some.injEq] at hy
      subst hy
      rw[same,k2];exact hval
     .obtain ⟨i',hi'',rfl⟩:=f0a.1 hi'
      exact(hl t' i' y hi'' (by simpa using hy)).mono hle
   | mid t e po h1 h2 h3 =>
    obtain⟨b,zc,ti',k1,k2,k3,k4,k5,k6,k7,k8,k9,k10⟩:=hp
    obtain⟨q,hq,hi1⟩:=jaa.1 (show ob (j4r cl st fr h (.p po) none) (fun p=>jru cl l' (p.1::st) (jcn fr (jfx π o.dst) p.1) p.2)=some s from hi)
    obtain⟨v,hv'⟩:=q
    obtain⟨b',hb',hq1⟩:=jaa.1 hq
    cases hb'
    obtain⟨u,hu,hq2⟩:=jaa.1 (show ob (pop st fr po) (fun v=>ok v h)=some (v,hv') from hq1)
    cases hq2
    obtain⟨rv,hr,hcv⟩:=jkl (w:=w) hT (jhj hf hl _) h3 hu
    refine jdd hr rfl ?_
    refine jei hT hclk r (some (t,e)) (o.dst::loc) l' (v::st) (jcn fr (jfx π o.dst) v) _ _ _ _ hl' hi1 S rel (hf.put hnt hds hcv) (hl.put hnt hds hcv) (by rw[jck];exact hnt) ?_ (fun φ' fr' h' a' w' e1 S1 R1 F1 D1 Z1=>hQ φ' fr' h' a' w' e1 S1 R1 F1 (D1.trans (jeh _ _)) (Z1.trans (jck _ _)))
    refine⟨b,zc,ti',k1,?_,k3,k4,k5,k6,k7,by rw[jck];exact k8,?_,k10⟩
    .cases hd:o.dst with
     | none=>exact k2
     | some d =>
      rw[hd] at hds h2
      rw[jga (qe9 hnt hds),if_neg]
      .exact k2
      .rintro rfl;exact h2 rfl
    .unfold jw0
     rw[jes,if_neg h2,jma k9]
     rfl
end
open Go Go.RowKit
variable {v:AV} {f:FuncId} {h h' h'':Hp} {fr vs:List AV} {n:Nat} {w w':World}
def qcx:Fns->FuncId->Option IF
 | .mk T _=>T
def jdx:Fns->FuncId->List AV->Hp->R
 | .mk _ X=>X
structure Env (P:Program) (A:Nat->Int) (T:Tr TI) (F:Fns):Prop where
 tys:Tys P T
 mix:P.follows .mixedOrders=true
 fn:∀ f i,qcx F f=some i->∃ fn cb acc,P.funcs[f]?=some fn/\qht T cb acc fn=some i/\(fn.name == "runtime.NumGoroutine")=false
 ext:∀ f vs h v h',jdx F f vs h=some (v,h')->qe5 P f/\(WF h->Abs (fun n=>h.lo<=n) h h')/\∀ φ w (args:Array Value),Rel A φ h w->All2 (cV A φ) vs args.toList ->
  Calls P f args w (fun e w'=>∃ rv φ',e=.returned rv/\Step (fun n=>h.lo<=n) φ φ' h h' w w'/\Rel A φ' h' w'/\cV A φ' v rv)
section
variable {F:Fns} {cl:FuncId->List AV->Hp->R}
theorem Abs.trans' (a:Abs (fun n=>h.lo<=n) h h') (b:Abs (fun n=>h'.lo<=n) h' h''):Abs (fun n=>h.lo<=n) h h'':=by
 rw[a.lo] at b;exact a.trans b
theorem qcy {st:List AV} {es:List Ent} (k:WF h) (hcl:jkq cl) {op:IOp} {g:Option (Nat×Bool)} {m:Option (List Nat)} {e:Ent} (hv:jy9 cl st fr es h op g m=some (.mk v h' e)):Abs (fun n=>h.lo<=n) h h':=by
 obtain⟨b,hb,hv1⟩:=jaa.1 hv
 cases b with
 | false =>
  have h8:some (DR.mk .undef h (.mk [] (some [])))=some (.mk v h' e):=hv1
  simp only[Option.some.injEq,DR.mk.injEq] at h8
  rw[←h8.2.1];exact Abs.refl _ k
 | true =>
  cases m with
  | none =>
   obtain⟨p,hp,h8⟩:=jaa.1 (show ob (iop cl st fr h op) (fun p=>some (.mk p.1 p.2 (.mk [] (some []))))=some (DR.mk v h' e) from hv1)
   obtain⟨v',h''⟩:=p
   simp only[Option.some.injEq,DR.mk.injEq] at h8
   obtain⟨rfl,rfl,h9⟩:=h8
   exact(jew k hcl hp).2
  | some js =>
   obtain⟨hid',v',h1',e',h8,h9,h10⟩:=jpp (show jnd cl st fr es h op js=some (.mk v h' e) from hv1)
   simp only[DR.mk.injEq] at h10
   obtain⟨rfl,rfl,rfl⟩:=h10
   have hsub:∀ n,jao h.hid n=true->jao hid' n=true:=fun n hn=>(jgb h8 n).2 (.inl hn)
   obtain⟨a1,a2,a3,a4,a5,a6⟩:=jn7 h9 k hcl hsub
   refine⟨⟨a1.pos,a1.top,f01 k.lo a2,a1.fresh⟩,a2,rfl,rfl,fun n hn hv=>a3 n (fun ht=>?_),a5,fun n h5 h6=>(a6 n h5 h6).2.1⟩
   rcases a4 n ht with⟨h5,_⟩ | ⟨h5,_,h6,_⟩
   .omega
   .rcases hv with hv | hv
    .exact hv h5
    .rw [hsub n hv] at h6;cases h6
theorem j2q (hcl:jkq cl):∀ (l:List (IOper×Option (List Nat))) (st:List AV) (es:List Ent) (fr:List AV) (h:Hp) (s:St),WF h->jzd cl l st es fr h=some s->∃ fr' h',s=.mk fr' h'/\Abs (fun n=>h.lo<=n) h h'
 | [],st,es,fr,h,s,k,hv=>⟨fr,h,(Option.some.inj hv).symm,Abs.refl _ k⟩
 | (.mk dst op g,m)::l,st,es,fr,h,s,k,hv=>by
  obtain⟨d,hd,h1⟩:=jaa.1 (show ob (jy9 cl st fr es h op g m) (fun p=>DR.casesOn (motive:=fun _=>Option St) p (fun v h' e=>jzd cl l (v::st) (e::es) (jcn fr dst v) h'))=some s from hv)
  cases d with
  | mk v h' e =>
   have a:=qcy k hcl hd
   obtain⟨fr',h'',e',a'⟩:=j2q hcl l _ _ _ h' s a.wf h1
   exact⟨fr',h'',e',a.trans' a'⟩
theorem jhk {l:List IR} (hr:jco (.mk fr h) l=some (v,h')) :
 h'=h/\∃ xs,jgs fr h l=some xs/\((xs=[]/\v=.tup [])∨(∃ p,xs=[p]/\jfg p.1 p.2=some v)∨(2<=xs.length/\v=.tup xs)):=by
 obtain⟨xs,hx,h1⟩:=jaa.1 (show ob (jgs fr h l) (fun vs=>List.casesOn (motive:=fun _=>R) vs (ok (.tup []) h) (fun p r=>List.casesOn (motive:=fun _=>R) r (ob (jfg p.1 p.2) (fun v=>ok v h)) (fun _ _=>ok (.tup vs) h)))=some (v,h') from hr)
 match xs,hx,h1 with
 | [],hx,h1=>cases h1;exact⟨rfl,[],hx,.inl ⟨rfl,rfl⟩⟩
 | [p],hx,h1 =>
  obtain⟨u,hu,h2⟩:=jaa.1 (show ob (jfg p.1 p.2) (fun v=>ok v h)=some (v,h') from h1)
  cases h2
  exact⟨rfl,[p],hx,.inr (.inl ⟨p,rfl,hu⟩)⟩
 | p::q::r,hx,h1=>cases h1;exact⟨rfl,_,hx,.inr (.inr ⟨by simp,rfl⟩)⟩
theorem jsq {ih:RC} (hr:jbr F ih f vs h=some (v,h')) :
 jdx F f vs h=some (v,h')∨∃ body nargs nslots res e s,qcx F f=some (.mk body nargs nslots res)/\vs.length=nargs/\ih body (.mk (vs++jdg nslots) h)=some (e,s)/\(e=.normal∨e=.ret)/\jco s res=some (v,h'):=by
 cases F with
 | mk T X =>
 have h1:Option.rec (motive:=fun _=>R) (ob (T f) (fun fn=>IF.casesOn (motive:=fun _=>R) fn (fun body nargs nslots res=>oif (Nat.beq (jb2 vs) nargs) (ob (ih body (.mk (jgp vs (jdg nslots)) h)) (fun p =>
  Ex.casesOn (motive:=fun _=>R) p.1 (jco p.2 res) (fun _=>none) (jco p.2 res))) none))) (fun r=>some r) (X f vs h)=some (v,h'):=hr
 cases hx:X f vs h with
 | some u =>
  rw[hx] at h1
  cases h1
  exact .inl hx
 | none =>
  rw[hx] at h1
  obtain⟨fn,hfn,h2⟩:=jaa.1 h1
  cases fn with
  | mk body nargs nslots res =>
  obtain⟨h3,h4⟩:=jab.1 h2
  obtain⟨p,hp,h5⟩:=jaa.1 h4
  obtain⟨e,s⟩:=p
  rw[jgt,ja7] at h3
  rw[jc8] at hp
  cases e with
  | normal=>exact .inr ⟨body,nargs,nslots,res,.normal,s,hfn,h3,hp,.inl rfl,h5⟩
  | ret=>exact .inr ⟨body,nargs,nslots,res,.ret,s,hfn,h3,hp,.inr rfl,h5⟩
  | exit id=>cases h5
theorem jpr (hX:∀ f vs h v h',jdx F f vs h=some (v,h')->WF h->Abs (fun n=>h.lo<=n) h h'):∀ n,(∀ c fr h e s,run F n c (.mk fr h)=some (e,s)->WF h->∃ fr' h',s=.mk fr' h'/\Abs (fun n=>h.lo<=n) h h')/\jkq (jbr F (run F n)):=by
 intro n
 have cla:∀ n,(∀ c fr h e s,run F n c (.mk fr h)=some (e,s)->WF h->∃ fr' h',s=.mk fr' h'/\Abs (fun n=>h.lo<=n) h h')->jkq (jbr F (run F n)):=by
  intro n hn f vs h v h' k hr
  rcases jsq hr with hx | ⟨body,nargs,nslots,res,e,s,_,_,h3,_,h5⟩
  .exact hX f vs h v h' hx k
  .obtain ⟨fr',h1,rfl,a⟩:=hn _ _ _ _ _ h3 k
   obtain⟨rfl,_⟩:=jhk h5
   exact a
 induction n with
 | zero=>exact⟨fun c fr h e s hr=>(by cases hr),cla 0 (fun c fr h e s hr=>by cases hr)⟩
 | succ n ih =>
  obtain⟨ih1,ih2⟩:=ih
  have main:∀ c fr h e s,run F (n+1) c (.mk fr h)=some (e,s)->WF h->∃ fr' h',s=.mk fr' h'/\Abs (fun n=>h.lo<=n) h h':=by
   intro c fr h e s hr k
   have hr':j16 F (run F n) c (.mk fr h)=some (e,s):=hr
   cases c with
   | skip=>cases hr';exact⟨fr,h,rfl,Abs.refl _ k⟩
   | region ops =>
    obtain⟨s1,h1,h2⟩:=jaa.1 (show ob (jru (jbr F (run F n)) ops [] fr h) (fun s=>some (.normal,s))=some (e,s) from hr')
    cases h2
    exact j2k ih2 _ _ _ _ _ k h1
   | draw ops =>
    obtain⟨s1,h1,h2⟩:=jaa.1 (show ob (jzd (jbr F (run F n)) ops [] [] fr h) (fun s=>some (.normal,s))=some (e,s) from hr')
    cases h2
    exact j2q ih2 _ _ _ _ _ _ k h1
   | seq a b =>
    obtain⟨p,h1,h2⟩:=jaa.1 (show ob (run F n a (.mk fr h)) (fun p=>Ex.casesOn (motive:=fun _=>Option (Ex×St)) p.1 (run F n b p.2) (fun _=>some p) (some p))=some (e,s) from hr')
    obtain⟨e1,s1⟩:=p
    obtain⟨fr',h',rfl,a1⟩:=ih1 _ _ _ _ _ h1 k
    cases e1 with
    | normal =>
     obtain⟨fr'',h'',e2,a2⟩:=ih1 _ _ _ _ _ h2 a1.wf
     exact⟨fr'',h'',e2,a1.trans' a2⟩
    | exit id=>cases h2;exact⟨fr',h',rfl,a1⟩
    | ret=>cases h2;exact⟨fr',h',rfl,a1⟩
   | cond c x y =>
    obtain⟨v,h1,h2⟩:=jaa.1 (show ob (ev [] fr c) (fun v=>jhe v (fun t=>run F n (oif t x y) (.mk fr h)))=some (e,s) from hr')
    obtain⟨t,rfl,h3⟩:=jcx h2
    exact ih1 _ _ _ _ _ h3 k
   | block id b =>
    obtain⟨p,h1,h2⟩:=jaa.1 (show ob (run F n b (.mk fr h)) (fun p=>Ex.casesOn (motive:=fun _=>Option (Ex×St)) p.1 (some p) (fun k=>oif (Nat.beq k id) (some (.normal,p.2)) (some p)) (some p))=some (e,s) from hr')
    obtain⟨e1,s1⟩:=p
    obtain⟨fr',h',rfl,a1⟩:=ih1 _ _ _ _ _ h1 k
    cases e1 with
    | normal=>cases h2;exact⟨fr',h',rfl,a1⟩
    | exit j =>
     have h2':oif (Nat.beq j id) (some (Ex.normal,St.mk fr' h')) (some (.exit j,.mk fr' h'))=some (e,s):=h2
     rw[jap] at h2'
     split at h2'<;>cases h2'<;>exact⟨fr',h',rfl,a1⟩
    | ret=>cases h2;exact⟨fr',h',rfl,a1⟩
   | loop b =>
    obtain⟨p,h1,h2⟩:=jaa.1 (show ob (run F n b (.mk fr h)) (fun p=>Ex.casesOn (motive:=fun _=>Option (Ex×St)) p.1 (run F n (.loop b) p.2) (fun _=>some p) (some p))=some (e,s) from hr')
    obtain⟨e1,s1⟩:=p
    obtain⟨fr',h',rfl,a1⟩:=ih1 _ _ _ _ _ h1 k
    cases e1 with
    | normal =>
     obtain⟨fr'',h'',e2,a2⟩:=ih1 _ _ _ _ _ h2 a1.wf
     exact⟨fr'',h'',e2,a1.trans' a2⟩
    | exit id=>cases h2;exact⟨fr',h',rfl,a1⟩
    | ret=>cases h2;exact⟨fr',h',rfl,a1⟩
   | exit id=>cases hr';exact⟨fr,h,rfl,Abs.refl _ k⟩
   | ret=>cases hr';exact⟨fr,h,rfl,Abs.refl _ k⟩
  exact⟨main,cla (n+1) main⟩
end
section
variable {P:Program} {A:Nat->Int} {T:Tr TI} {π:List Nat} {nt:Nat} {ops:Array Oper} {cl:FuncId->List AV->Hp->R}
theorem Step.trans' {φ ψ χ:Phi} {w'':World} (s:Step (fun n=>h.lo<=n) φ ψ h h' w w') (t:Step (fun n=>h'.lo<=n) ψ χ h' h'' w' w''):Step (fun n=>h.lo<=n) φ χ h h'' w w'':=by
 rw[s.abs.lo] at t;exact s.trans t
theorem jmb (hT:Tys P T) (hclk:qcu P A cl) {Q:Exit->Act->World->Prop}:∀ (r:List Oper) (k:Nat) (l:List IOper) (st fr:List AV) (h:Hp) (s:St) (φ:Phi) (a:Act) (w:World),(∀ j o,r[j]?=some o->ops[k+j]?=some o)->k+r.length=ops.size ->
 jgi T π nt (jal (dD ops) k) k r=some l->jru cl l st fr h=some s->Rel A φ h w->FrR A φ π fr a->LoR A φ (jal (dD ops) k) st a->nt<=a.tmps.size->(∀ j d,j<k->dD ops j=some d->d<a.tmps.size) ->
 (∀ φ' fr' h' a' w',s=.mk fr' h'->Step (fun n=>h.lo<=n) φ φ' h h' w w'->Rel A φ' h' w'->FrR A φ' π fr' a'->a'.defers=a.defers->a'.tmps.size=a.tmps.size->Q .normal a' w') ->
 wpOps P ops Q (List.range' k r.length) a w
 | [],k,l,st,fr,h,s,φ,a,w,hr,hk,hc,hi,rel,hf,hl,hnt,hd,hQ=>by
  cases hc
  exact hQ φ fr h a w (Option.some.inj (show some (St.mk fr h)=some s from hi)).symm (Step.refl _ rel rfl rfl rfl rfl) rel hf rfl rfl
 | o::r,k,l,st,fr,h,s,φ,a,w,hr,hk,hc,hi,rel,hf,hl,hnt,hd,hQ=>by
  have ho:ops[k]?=some o:=hr 0 o rfl
  have hoAt:jc1 ops k=o:=by simp[jc1,f0n,ho]
  have hdk:dD ops k=o.dst:=by unfold dD;rw[hoAt]
  simp only[jgi] at hc
  split at hc
  .rename_i ip l' hip hl'
   cases hc
   obtain⟨hds,op,g,rfl,hop,hg⟩:=jl9 hip
   obtain⟨p,hp,hi1⟩:=jaa.1 (show ob (j4r cl st fr h op g) (fun p=>jru cl l' (p.1::st) (jcn fr (jfx π o.dst) p.1) p.2)=some s from hi)
   obtain⟨v,h1⟩:=p
   obtain⟨b,hb,hp1⟩:=jaa.1 hp
   have hwant:Region.wanted o (yielded ops a.tmps)=b:=by
    refine jjk (φ:=φ) (A:=A) (loc:=jal (dD ops) k) (st:=st) (k:=k) (fun j hj=>?_) (fun j d hj hjd=>?_) (fun j want d v _ hjd hjv=>hl d _ v hjd hjv) hg hb
    .rw [jbj (dD ops) hj]
     have:ops[j]?=some (jc1 ops j):=by
      have:j<ops.size:=by simp at hk;omega
      simp[jc1,f0n,this]
     rw[this];rfl
    .rw [jbj (dD ops) hj] at hjd
     exact hd j d hj (Option.some.inj hjd)
   have next:∀ φ' rv w',Step (fun n=>h.lo<=n) φ φ' h h1 w w'->Rel A φ' h1 w'->cV A φ' v rv->wpOps P ops Q (List.range' (k+1) r.length) (a.put o.dst rv) w':=by
    intro φ' rv w' s1 r1 hcv
    have hle:=s1.le rel
    refine jmb hT hclk r (k+1) l' (v::st) (jcn fr (jfx π o.dst) v) h1 s φ' (a.put o.dst rv) w' (fun j o' hj=>by have:=hr (j+1) o' (by simpa using hj);rw[←this];congr 1;omega) (by simp at hk;omega) ?_ hi1 r1 ((hf.mono hle).put hnt hds hcv) ?_ (by rw[jck];exact hnt) (fun j d hj hjd=>?_) (fun φ'' fr' h' a' w'' e s2 r2 f2 d2 z2=>?_)
    .show jgi T π nt (dD ops k::jal (dD ops) k) (k+1) r=some l'
     rw[hdk];exact hl'
    .show LoR A φ' (dD ops k::jal (dD ops) k) (v::st) (a.put o.dst rv)
     rw[hdk];exact(hl.mono hle).put hnt hds hcv
    .rw [jck]
     rcases f1y.1 hj with h2 | h2
     .exact hd j d h2 hjd
     .subst h2
      rw[hdk] at hjd
      rw[hjd] at hds
      have:Nat.ble (d+1) nt=true:=hds
      exact f0m (f0g this) hnt
    .exact hQ φ'' fr' h' a' w'' e (s1.trans' s2) r2 f2 (d2.trans (jeh _ _)) (z2.trans (jck _ _))
   simp only[f00,List.range'_succ,wpOps,ho]
   rw[hwant]
   cases b with
   | false =>
    simp only[f0v,if_false]
    cases hp1
    exact next φ undef w (Step.refl _ rel rfl rfl rfl rfl) rel rfl
   | true =>
    simp only[if_true]
    exact .inl (jiv (cl:=cl) hT hclk (jhj hf hl _) rel hop hp1 _ (.inr rfl) (fun φ' rv w' s1 r1 hcv=>next φ' rv w' s1 r1 hcv))
  .cases hc
end
section
variable {P:Program} {A:Nat->Int} {T:Tr TI} {F:Fns}
def qvu:Ex->Exit
 | .normal=>.normal
 | .exit id=>.exit id
 | .ret=>.ret
def qh3 (A:Nat->Int) (π:List Nat) (φ:Phi) (h:Hp) (w:World) (a:Act) (e:Ex) (s:St) (Q:Exit->Act->World->Prop):Prop :=
 ∀ φ' fr' h' a' w',s=.mk fr' h'->Step (fun n=>h.lo<=n) φ φ' h h' w w'->Rel A φ' h' w'->FrR A φ' π fr' a'->a'.defers=a.defers->a'.tmps.size=a.tmps.size->Q (qvu e) a' w'
theorem qh3.trans {π:List Nat} {φ ψ:Phi} {a a':Act} {e:Ex} {s:St} {Q:Exit->Act->World->Prop} (k:qh3 A π φ h w a e s Q) (st:Step (fun n=>h.lo<=n) φ ψ h h' w w') (hd:a'.defers=a.defers) (hs:a'.tmps.size=a.tmps.size):qh3 A π ψ h' w' a' e s Q :=
 fun φ' fr' h'' a'' w'' e1 s1 r1 f1 d1 z1=>k φ' fr' h'' a'' w'' e1 (st.trans' s1) r1 f1 (d1.trans hd) (z1.trans hs)
def qpd (P:Program) (A:Nat->Int) (T:Tr TI) (F:Fns) (n:Nat):Prop :=
 ∀ ic fr h e s,run F n ic (.mk fr h)=some (e,s)->∀ code cb π nt,jed T cb π nt code=some ic->∀ φ a w,Rel A φ h w->FrR A φ π fr a->nt<=a.tmps.size->∀ Q,qh3 A π φ h w a e s Q->code.wp P Q a w
def qfa (P:Program) (A:Nat->Int) (T:Tr TI) (F:Fns) (n:Nat):Prop :=
 ∀ ib fr h e s,run F n (.loop ib) (.mk fr h)=some (e,s)->∀ code cb π nt,jed T cb π nt code=some ib->∀ φ a w,Rel A φ h w->FrR A φ π fr a->nt<=a.tmps.size->∀ Q,qh3 A π φ h w a e s Q->Code.rounds P code Q n a w
theorem jmc:∀ (n j:Nat) (v:AV),(jdg n)[j]?=some v->v=.undef
 | 0,j,v,h=>by
  have:jdg 0=[]:=rfl
  rw[this] at h;simp at h
 | n+1,0,v,h=>by
  have:jdg (n+1)=.undef::jdg n:=rfl
  rw[this] at h;simpa using h.symm
 | n+1,j+1,v,h=>by
  have:jdg (n+1)=.undef::jdg n:=rfl
  rw[this] at h;exact jmc n j v (by simpa using h)
theorem jkt:∀ (n k:Nat) (r:List Nat) (t:Nat),k<=t->t<k+n->idx t (j4t k n++r) 0=some (t - k)
 | 0,k,r,t,h1,h2=>by omega
 | n+1,k,r,t,h1,h2=>by
  simp only[j4t,f12,idx]
  by_cases e:k=t
  .subst e;rw[f1l];simp
  .have:Nat.beq k t=false:=by
    cases hb:Nat.beq k t with
    | false=>rfl
    | true=>exact absurd (f0i hb) e
   rw[this]
   simp only[cond_false]
   rw[jpk,jkt n (k+1) r t (by omega) (by omega)]
   simp
   omega
theorem jtx:∀ n k,(j4t k n).length=n
 | 0,k=>rfl
 | n+1,k=>by simp[j4t,jtx n]
theorem jku {π:List Nat} {φ:Phi} {a:Act} (hT:Tys P T) (rel:Rel A φ h w) (hf:FrR A φ π fr a):∀ (rs:List ResultVar) (l:List IR) (xs:List (Bool×List SV)),qck T π rs=some l->jgs fr h l=some xs ->
 ∃ vs:List Value,(rs.mapM (fun | .tmp t=>pure (a.tmps.getD t undef) | .cell q t=>do loadVar t (←asAddr (a.tmps.getD q undef)):ResultVar->Sem Value)).run P w=.ok vs w/\All2 (fun p x=>cV1 A φ p.1 p.2 x) xs vs
 | [],l,xs,h1,h2=>by
  cases h1
  cases h2
  exact⟨[],rfl,.nil⟩
 | .tmp t::rs,l,xs,h1,h2=>by
  simp only[qck] at h1
  split at h1
  .rename_i j l' hj hl'
   cases h1
   obtain⟨x,hx,h3⟩:=jaa.1 (show ob (jnx fr h (.tmp j)) (fun v=>ob (jgs fr h l') (fun x=>some (v::x)))=some xs from h2)
   obtain⟨ys,hys,h4⟩:=jaa.1 h3
   cases h4
   obtain⟨vs,hvs,ha⟩:=jku hT rel hf rs l' ys hl' hys
   obtain⟨v,hv,h5⟩:=jaa.1 (show ob (jec fr j) (fun v=>AV.casesOn (motive:=fun _=>Option (Bool×List SV)) v (fun s=>some (false,[s])) (fun l=>some (true,l)) (fun _=>none) none none)=some x from hx)
   rw[jcl] at hv
   have hc:=hf t j v hj hv
   refine⟨a.tmps.getD t undef::vs,by simp only[List.mapM_cons,Sem.run_bind,Sem.run_pure,Result.andThen_ok,hvs],.cons ?_ ha⟩
   cases v with
   | s y=>cases h5;exact⟨y,rfl,hc⟩
   | agg l=>cases h5;exact hc
   | _=>cases h5
  .cases h1
 | .cell q t::rs,l,xs,h1,h2=>by
  simp only[qck] at h1
  split at h1
  .rename_i j ti l' hj hti hl'
   cases hb:ti1 ti with
   | false=>rw[hb] at h1;cases h1
   | true =>
    rw[hb] at h1
    cases h1
    obtain⟨x,hx,h3⟩:=jaa.1 (show ob (jnx fr h (.cell j ti.size ti.agg)) (fun v=>ob (jgs fr h l') (fun x=>some (v::x)))=some xs from h2)
    obtain⟨ys,hys,h4⟩:=jaa.1 h3
    cases h4
    obtain⟨vs,hvs,ha⟩:=jku hT rel hf rs l' ys hl' hys
    obtain⟨v,hv,h5⟩:=jaa.1 (show ob (jec fr j) (fun v=>jws v (fun b off=>ob (rd h b off ti.size) (fun cs=>some (ti.agg,cs))))=some x from hx)
    obtain⟨b,off,rfl,h6⟩:=jkf h5
    obtain⟨cs,hcs,h7⟩:=jaa.1 h6
    cases h7
    rw[jcl] at hv
    obtain⟨lc,hlc,hval⟩:=(show jnf φ b off (a.tmps.getD q undef) from hf q j _ hj hv)
    obtain⟨lc',us,e1,_,e2,e3,e4⟩:=je4 rel hcs
    rw[hlc] at e1
    cases e1
    have kt:=hT t ti hti
    cases hag:ti.agg with
    | true =>
     have hl:=run_loadCells_list (P:=P) w ⟨lc.b,lc.o+off,none⟩ us (fun j u hj=>by rw[jb1];exact e4 j u hj)
     rw[e3] at hl
     have hcell:(do loadVar t (←asAddr (a.tmps.getD q undef)):Sem Value).run P w=.ok (.agg us.toArray) w:=by
      simp only[Sem.run_bind,Sem.run_pure,Result.andThen_ok,hval,asAddr,loadVar,kt.run_agg,hag,if_true,kt.run_size,hl]
     refine⟨.agg us.toArray::vs,?_,.cons ?_ ha⟩
     .rw [List.mapM_cons,Sem.run_bind]
      show Result.andThen ((do loadVar t (←asAddr (a.tmps.getD q undef)):Sem Value).run P w) _=_
      rw[hcell]
      simp only[Result.andThen_ok,Sem.run_bind,hvs,Sem.run_pure]
     .exact ⟨us,rfl,e2⟩
    | false =>
     have hsz:ti.size=1:=by
      simp only[ti1,hag,f29,jgt] at hb;exact hb
     rw[hsz] at e3
     match us,e3,e2,e4 with
     | [u],_,e2,e4 =>
      have h8:=e4 0 u rfl
      rw[f1i] at h8
      cases e2 with
      | @cons s _ _ _ hs hn =>
       cases hn
       have hcell:(do loadVar t (←asAddr (a.tmps.getD q undef)):Sem Value).run P w=.ok u w:=by
        simp only[Sem.run_bind,Sem.run_pure,Result.andThen_ok,hval,asAddr,loadVar,kt.run_agg,hag,f0v,if_false,run_load,h8]
       refine⟨u::vs,?_,.cons ?_ ha⟩
       .rw [List.mapM_cons,Sem.run_bind]
        show Result.andThen ((do loadVar t (←asAddr (a.tmps.getD q undef)):Sem Value).run P w) _=_
        rw[hcell]
        simp only[Result.andThen_ok,Sem.run_bind,hvs,Sem.run_pure]
       .exact ⟨s,rfl,hs⟩
  .cases h1
theorem jej (env:Env P A T F) (hs:qpd P A T F n):qcu P A (jbr F (run F n)):=by
 intro f vs h v0 h' hr
 have hT0:=env.tys
 rcases jsq hr with hx | ⟨body,nargs,nslots,res,e,s,hT,hlen,hrun,he,hres⟩
 .obtain ⟨h1,_,h2⟩:=env.ext f vs h v0 h' hx
  exact⟨h1,h2⟩
 .obtain ⟨fn,cb,acc,h1,h2,h3⟩:=env.fn f _ hT
  unfold qht at h2
  split at h2
  .cases h2
  .rename_i b hb
   dsimp only at h2
   split at h2
   .rename_i c r hc hr'
    cases h2
    refine⟨⟨fn,h1,by rw[hb];rfl,h3⟩,fun φ w args rel ha=>?_⟩
    have hal:=ha.len
    simp only[f2g] at hal
    refine calls_of_wp h1 hb ?_
    refine hs _ _ _ _ _ hrun b _ _ _ hc φ _ w rel ?_ ?_ _ ?_
    .intro t j u hj hu
     rw[f2s] at hu
     split at hu
     .rename_i hlt
      have hjn:j<fn.params.size+fn.nfree:=by omega
      have:t=j:=by
       have h4:=jcp hj
       rw[f0t (by rw[jtx];exact hjn)] at h4
       have h5:=jkt (fn.params.size+fn.nfree) 0 [] j (by omega) (by omega)
       rw[f1c] at h5
       have h6:=jcp h5
       rw[Nat.sub_zero,h4] at h6
       exact Option.some.inj h6
      subst this
      obtain⟨x,hx,hcx⟩:=ha.get t u hu
      rw[f02] at hx
      have:(args++Array.replicate (fn.ntmps - args.size) undef).getD t undef=x:=by
       rw[f0n,f13 (by omega),hx];rfl
      show cV A φ u ((args++Array.replicate (fn.ntmps - args.size) undef).getD t undef)
      rw[this]
      exact hcx
     .rename_i hge
      obtain rfl:=jmc _ _ _ hu
      have htn:fn.params.size+fn.nfree<=t:=by
       rcases f0h t (fn.params.size+fn.nfree) with h4 | h4
       .rw [jkt _ 0 _ t (by omega) (by omega)] at hj
        have:t - 0=j:=Option.some.inj hj
        omega
       .exact h4
      show(args++Array.replicate (fn.ntmps - args.size) undef).getD t undef=undef
      rw[f0n,Array.getElem?_append_right (by omega)]
      rw[Array.getElem?_replicate]
      split<;>rfl
    .simp
     omega
    .intro φ' fr' h'' a' w' es st r1 f1 d1 z1
     subst es
     obtain⟨rfl,xs,hxs,hcase⟩:=jhk hres
     obtain⟨us,hus,hall⟩:=jku hT0 r1 f1 fn.results.toList _ xs hr' hxs
     have hrun':∀ v',(if h:us.toArray.size=1 then us.toArray[0] else .tuple us.toArray)=v'->(results fn a'.tmps).run P w'=.ok v' w':=by
      intro v' hv'
      unfold results
      have e1:fn.results=fn.results.toList.toArray:=by simp
      rw[e1]
      simp only[List.mapM_toArray,Sem.run_bind,Sem.run_map]
      erw [hus]
      simp only[Result.andThen_ok,Sem.run_pure,hv']
     have hfin:∃ v',(results fn a'.tmps).run P w'=.ok v' w'/\cV A φ' v0 v':=by
      have hlen':=hall.len
      rcases hcase with⟨rfl,rfl⟩ | ⟨p,rfl,hmk⟩ | ⟨h2x,rfl⟩
      .cases hall
       exact⟨_,hrun' _ rfl,⟨[],rfl,.nil⟩⟩
      .cases hall with
       | @cons _ u _ _ hu hn =>
        cases hn
        refine⟨u,hrun' u rfl,?_⟩
        unfold cV1 at hu
        rcases jgu hmk with⟨e2,rfl⟩ | ⟨e2,y,hy,rfl⟩
        .rw [if_pos e2] at hu;exact hu
        .rw [e2] at hu
         simp only[f0v,if_false] at hu
         obtain⟨y',h5,h6⟩:=hu
         rw[hy] at h5
         cases h5
         exact h6
      .refine ⟨.tuple us.toArray,hrun' _ ?_,⟨us,rfl,hall⟩⟩
       rw[dif_neg]
       simp only[f3e]
       omega
     obtain⟨v',hv1,hv2⟩:=hfin
     have hbp:a'.defers=[]/\∃ v,(results fn a'.tmps).run P w'=.ok v w'/\∃ rv φ'',Ending.returned v=.returned rv/\Step (fun n=>h.lo<=n) φ φ'' h h' w w'/\Rel A φ'' h' w'/\cV A φ'' v0 rv:=⟨d1,v',hv1,v',φ',rfl,st,r1,hv2⟩
     rcases he with rfl | rfl
     .exact hbp
     .exact hbp
   .cases h2
theorem jgz (env:Env P A T F):∀ n,qpd P A T F n/\qfa P A T F n:=by
 intro n
 induction n with
 | zero=>exact⟨fun ic fr h e s hr=>(by cases hr),fun ic fr h e s hr=>(by cases hr)⟩
 | succ n ih =>
  obtain⟨ih1,ih2⟩:=ih
  have hcl:=jej env ih1
  have habs:=(jpr (F:=F) (fun f vs h v h' hx=>(env.ext f vs h v h' hx).2.1) n).2
  have hL:qfa P A T F (n+1):=by
   intro ib fr h e s hr code cb π nt hc φ a w rel hf hnt Q hQ
   obtain⟨p,h1,h2⟩:=jaa.1 (show ob (run F n ib (.mk fr h)) (fun p=>Ex.casesOn (motive:=fun _=>Option (Ex×St)) p.1 (run F n (.loop ib) p.2) (fun _=>some p) (some p))=some (e,s) from hr)
   obtain⟨e1,s1⟩:=p
   rw[rounds_succ]
   refine ih1 _ _ _ _ _ h1 code cb π nt hc φ a w rel hf hnt _ ?_
   intro φ' fr' h' a' w' es st r1 f1 d1 z1
   subst es
   cases e1 with
   | normal=>exact ih2 _ _ _ _ _ h2 code cb π nt hc φ' a' w' r1 f1 (by rw[z1];exact hnt) Q (hQ.trans st d1 z1)
   | exit id=>cases h2;exact hQ φ' fr' h' a' w' rfl st r1 f1 d1 z1
   | ret=>cases h2;exact hQ φ' fr' h' a' w' rfl st r1 f1 d1 z1
  refine⟨?_,hL⟩
  intro ic fr h e s hr code cb π nt hc φ a w rel hf hnt Q hQ
  cases code with
  | skip =>
   cases hc
   cases hr
   exact wp_skip (hQ φ fr h a w rfl (Step.refl _ rel rfl rfl rfl rfl) rel hf rfl rfl)
  | region id ops draw =>
   cases draw with
   | false =>
    have hrange:List.range ops.size=List.range' 0 ops.toList.length:=by rw[List.range_eq_range'];simp
    cases hC:qe3 cb ops.toList with
    | true =>
     have hc':(bif qe3 cb ops.toList then (jf6 T cb π nt none [] ops.toList).map IC.region else (jgi T π nt [] 0 ops.toList).map IC.region)=some ic:=hc
     rw[hC] at hc'
     obtain⟨l,hl,e⟩:=f0a.1 (show(jf6 T cb π nt none [] ops.toList).map .region=some ic from hc')
     subst e
     obtain⟨s1,h1,h2⟩:=jaa.1 (show ob (jru (jbr F (run F n)) l [] fr h) (fun s=>some (.normal,s))=some (e,s) from hr)
     cases h2
     refine wp_region_list ?_
     refine jei env.tys hcl ops.toList none [] l [] fr h φ a w hl h1 (Step.refl _ rel rfl rfl rfl rfl) rel hf (fun t i v hi=>by cases hi) hnt trivial ?_
     intro φ' fr' h' a' w' es st r1 f1 d1 z1
     exact hQ φ' fr' h' a' w' es st r1 f1 d1 z1
    | false =>
     have hc':(bif qe3 cb ops.toList then (jf6 T cb π nt none [] ops.toList).map IC.region else (jgi T π nt [] 0 ops.toList).map IC.region)=some ic:=hc
     rw[hC] at hc'
     obtain⟨l,hl,e⟩:=f0a.1 (show(jgi T π nt [] 0 ops.toList).map .region=some ic from hc')
     subst e
     obtain⟨s1,h1,h2⟩:=jaa.1 (show ob (jru (jbr F (run F n)) l [] fr h) (fun s=>some (.normal,s))=some (e,s) from hr)
     cases h2
     refine wp_region ?_
     rw[hrange]
     refine jmb env.tys hcl ops.toList 0 l [] fr h _ φ a w (fun j o hj=>by rw[f0z,←f02];exact hj) (by simp) hl h1 rel hf (fun t i v hi=>by cases hi) hnt (fun j d hj=>by omega) ?_
     intro φ' fr' h' a' w' es st r1 f1 d1 z1
     exact hQ φ' fr' h' a' w' es st r1 f1 d1 z1
   | true =>
    obtain⟨l,hl,e⟩:=f0a.1 (show(j6n T π nt ops.toList).map .draw=some ic from hc)
    subst e
    obtain⟨s1,h1,h2⟩:=jaa.1 (show ob (jzd (jbr F (run F n)) l [] [] fr h) (fun s=>some (.normal,s))=some (e,s) from hr)
    cases h2
    exact j48 env.mix env.tys hcl habs hl h1 rel hf hnt (fun φ' fr' h' a' w' es st r1 f1 d1 z1=>hQ φ' fr' h' a' w' es st r1 f1 d1 z1)
  | seq x y =>
   simp only[jed] at hc
   split at hc
   .rename_i cx cy hx hy
    cases hc
    obtain⟨p,h1,h2⟩:=jaa.1 (show ob (run F n cx (.mk fr h)) (fun p=>Ex.casesOn (motive:=fun _=>Option (Ex×St)) p.1 (run F n cy p.2) (fun _=>some p) (some p))=some (e,s) from hr)
    obtain⟨e1,s1⟩:=p
    refine wp_seq (ih1 _ _ _ _ _ h1 x cb π nt hx φ a w rel hf hnt _ ?_)
    intro φ' fr' h' a' w' es st r1 f1 d1 z1
    subst es
    cases e1 with
    | normal=>exact ih1 _ _ _ _ _ h2 y cb π nt hy φ' a' w' r1 f1 (by rw[z1];exact hnt) Q (hQ.trans st d1 z1)
    | exit id=>cases h2;exact hQ φ' fr' h' a' w' rfl st r1 f1 d1 z1
    | ret=>cases h2;exact hQ φ' fr' h' a' w' rfl st r1 f1 d1 z1
   .cases hc
  | cond c x y =>
   simp only[jed] at hc
   split at hc
   .rename_i c' cx cy hc' hx hy
    cases hc
    obtain⟨v,h1,h2⟩:=jaa.1 (show ob (ev [] fr c') (fun v=>jhe v (fun t=>run F n (oif t cx cy) (.mk fr h)))=some (e,s) from hr)
    obtain⟨t,rfl,h3⟩:=jcx h2
    have hE:=jhj (A:=A) (φ:=φ) (loc:=[]) (st:=[]) hf (fun t i v hi=>by cases hi) [c]
    have hcv:a.eval c=.bool t:=hE c (by simp) _ _ hc' h1
    refine wp_cond hcv ?_
    rw[jap] at h3
    cases t with
    | true=>exact ih1 _ _ _ _ _ h3 x cb π nt hx φ a w rel hf hnt Q hQ
    | false=>exact ih1 _ _ _ _ _ h3 y cb π nt hy φ a w rel hf hnt Q hQ
   .cases hc
  | block id b =>
   obtain⟨ib,hb,e⟩:=f0a.1 (show(jed T cb π nt b).map (.block id)=some ic from hc)
   subst e
   obtain⟨p,h1,h2⟩:=jaa.1 (show ob (run F n ib (.mk fr h)) (fun p=>Ex.casesOn (motive:=fun _=>Option (Ex×St)) p.1 (some p) (fun k=>oif (Nat.beq k id) (some (.normal,p.2)) (some p)) (some p))=some (e,s) from hr)
   obtain⟨e1,s1⟩:=p
   refine wp_block (ih1 _ _ _ _ _ h1 b cb π nt hb φ a w rel hf hnt _ ?_)
   intro φ' fr' h' a' w' es st r1 f1 d1 z1
   subst es
   cases e1 with
   | normal=>cases h2;exact hQ φ' fr' h' a' w' rfl st r1 f1 d1 z1
   | exit j =>
    have h2':oif (Nat.beq j id) (some (Ex.normal,St.mk fr' h')) (some (.exit j,.mk fr' h'))=some (e,s):=h2
    rw[jap] at h2'
    show if j=id then Q .normal a' w' else Q (.exit j) a' w'
    split at h2'
    .rename_i hj
     rw[jgt] at hj
     cases h2'
     rw[if_pos hj]
     exact hQ φ' fr' h' a' w' rfl st r1 f1 d1 z1
    .rename_i hj
     rw[jgt] at hj
     cases h2'
     rw[if_neg hj]
     exact hQ φ' fr' h' a' w' rfl st r1 f1 d1 z1
   | ret=>cases h2;exact hQ φ' fr' h' a' w' rfl st r1 f1 d1 z1
  | loop b =>
   obtain⟨ib,hb,e⟩:=f0a.1 (show(jed T cb π nt b).map .loop=some ic from hc)
   subst e
   exact wp_loop_rounds (n+1) (hL _ _ _ _ _ hr b cb π nt hb φ a w rel hf hnt Q hQ)
  | exit id =>
   cases hc
   cases hr
   exact wp_exit (hQ φ fr h a w rfl (Step.refl _ rel rfl rfl rfl rfl) rel hf rfl rfl)
  | ret =>
   cases hc
   cases hr
   exact wp_ret (hQ φ fr h a w rfl (Step.refl _ rel rfl rfl rfl rfl) rel hf rfl rfl)
  | _=>cases hc
def h0:Hp:=.mk 1 .leaf 0 []
def qfb (k:Nat->Option (Array Value)) [g:GK k]:Phi:=⟨fun _=>none,k,g⟩
def jxl (k:Nat->Option (Array Value)) (w:World):Prop:=∀ b cs,k b=some cs->∃ ty:TypeId×Nat×Nat,w.heap[b]?=some (.cells cs ty.1 ty.2)
theorem qpe {k:Nat->Option (Array Value)} [GK k] (hk:jxl k w):Rel A (qfb k) h0 w:=by
 have hget:∀ n,h0.get n=none:=fun n=>rfl
 refine⟨⟨f0d _,by decide,f14 _,fun n _=>rfl⟩,fun n _=>rfl,fun n x hx=>?_,fun n m l l' hn=>?_,hk,fun n L hn=>?_⟩
 .rw [hget] at hx;cases hx
 .rw [hget] at hn;cases hn
 .rw [hget] at hn;cases hn
theorem jty (env:Env P A T F) (hr:jou F n f vs h0=some (v,h')) {k:Nat->Option (Array Value)} [GK k] (hk:jxl k w) (args:Array Value) (ha:All2 (cV A (qfb k)) vs args.toList) :
 Calls P f args w (fun e w'=>∃ rv φ,e=.returned rv/\Step (fun _=>False) (qfb k) φ h0 h' w w'/\Rel A φ h' w'/\cV A φ v rv):=by
 have hcl:=jej env (jgz env n).1
 refine Calls.mono ((hcl f vs h0 v h' hr).2 _ w args (qpe hk) ha) ?_
 rintro e w' ⟨rv,φ',rfl,s,r,hcv⟩
 refine⟨rv,φ',rfl,⟨⟨s.abs.wf,s.abs.nx,s.abs.lo,s.abs.hid,fun n hn _=>?_,s.abs.live,s.abs.seen⟩,s.ext,s.kle,s.knew,s.os,s.tape,s.output,s.size,fun p hp _=>s.old p hp (fun n l _ hn=>?_),fun n L hn hl hL=>.inl ?_⟩,r,hcv⟩
 .cases h5:h'.tr.get n with
  | none=>rfl
  | some x =>
   have:=s.abs.live n hn (by rw[h5];rfl)
   cases this
 .have h1:h0.get n=none:=rfl
  rw[h1] at hn;cases hn
 .rcases s.new n L hn hl hL with h1 | ⟨m,M,_,h2,_⟩
  .exact h1
  .have h1:h0.get m=none:=rfl
   rw[h1] at h2;cases h2
theorem j7g (env:Env P A T F) (hr:jou F n f vs h0=some (v,h')) {k:Nat->Option (Array Value)} [GK k] (hk:jxl k w) (args:Array Value) (ha:All2 (cV A (qfb k)) vs args.toList) :
 Calls P f args w (fun e w'=>∃ rv φ,e=.returned rv/\Below w.heap.size w w'/\cV A φ v rv):=by
 refine Calls.mono (jty env hr hk args ha) ?_
 rintro e w' ⟨rv,φ',rfl,s,r,hcv⟩
 exact⟨rv,φ',rfl,⟨s.os,s.tape,s.output,s.size,fun k hk=>s.old k hk (fun n l h _=>h.elim)⟩,hcv⟩
def qpf:R->Bool
 | some (.s (.bool b),_)=>b
 | _=>false
theorem qcz (env:Env P A T F) (hr:qpf (jou F n f vs h0)=true) {k:Nat->Option (Array Value)} [GK k] (hk:jxl k w) (args:Array Value) (ha:All2 (cV A (qfb k)) vs args.toList) :
 Calls P f args w (fun e w'=>e=.returned (.bool true)/\Below w.heap.size w w'):=by
 cases hrun:jou F n f vs h0 with
 | none=>rw[hrun] at hr;cases hr
 | some p =>
  obtain⟨v,h'⟩:=p
  rw[hrun] at hr
  match v,hrun,hr with
  | .s (.bool b),hrun,hr =>
   have hb:b=true:=hr
   subst hb
   refine Calls.mono (j7g env hrun hk args ha) ?_
   rintro e w' ⟨rv,φ,rfl,hbl,hcv⟩
   have:rv=.bool true:=hcv
   exact⟨by rw[this],hbl⟩
end
end Go.Proofs.YtdbklpgagdbpiaaDoor.Ev
