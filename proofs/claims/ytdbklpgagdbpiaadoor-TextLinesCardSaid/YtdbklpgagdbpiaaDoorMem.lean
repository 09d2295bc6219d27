/- Maps whose keys are structs of numbers and bools: the interpreter's against the model's. No program in sight. -/
import Derived.Test.YtdbklpgagdbpiaaDoorPopS
import Derived.MapKept
import Derived.Laws.AppendOwn
import Derived.Laws.MakeOwn
import Derived.LaidEqlPtr
import Derived.Laws.BytesArg
import Derived.Lib.AppendStr
import Derived.Laws.Strings
namespace Go.Proofs.YtdbklpgagdbpiaaDoor.Ev
open Go
set_option linter.all false
variable {m v:AV} {b neg okf:Bool} {rows:List (List SV)} {sig:List Bool} {z ds kc vc zs:List SV} {n sz size:Nat}
theorem j2f {β:Type} {h:Hp} {x:AB} {f:Nat->Hp->Option β} {r:β} (k:nwx h x f=some r) :
 0<=h.next/\jao h.hid h.next=false/\f h.next (h.push x)=some r:=by
 cases h with
 | mk n t lo hid =>
  have k':oif (Nat.ble 0 n) (oif (jao hid n) none (f n (.mk (Nat.succ n) (t.put (Nat.succ n) n (some x)) lo hid))) none=some r:=k
  obtain⟨h1,h2⟩:=jab.1 k'
  rw[jap] at h2
  split at h2
  .cases h2
  .rename_i h3;exact⟨f0g h1,Bool.eq_false_iff.2 h3,h2⟩
theorem j6y {a:Bool} (h:qcd a b=true):a=b:=by cases a<;>cases b<;>first | rfl | cases h
section
variable {st fr:List AV} {h h':Hp}
theorem jf8 {va:Bool} {cs:List SV} (hv:jc6 h va okf cs b=some (v,h')) :
 h'=h/\((okf=true/\v=.tup [(va,cs),(false,[.bool b])])∨(okf=false/\jfg va cs=some v)):=by
 unfold jc6 at hv
 cases okf with
 | true =>
  have hv':some (AV.tup [(va,cs),(false,[.bool b])],h)=some (v,h'):=hv
  simp only[Option.some.injEq,Prod.mk.injEq] at hv'
  exact⟨hv'.2.symm,.inl ⟨rfl,hv'.1.symm⟩⟩
 | false =>
  obtain⟨u,hu,h2⟩:=jaa.1 (show ob (jfg va cs) (fun v=>ok v h)=some (v,h') from hv)
  have h3:some (u,h)=some (v,h'):=h2
  simp only[Option.some.injEq,Prod.mk.injEq] at h3
  exact⟨h3.2.symm,.inr ⟨rfl,by rw[←h3.1];exact hu⟩⟩
theorem jpc {va:Bool} {x k:Od} (hv:jwx st fr h sig va z okf x k=some (v,h')) :
 ∃ m kv,ev st fr x=some m/\ev st fr k=some kv/\jy7 (kag sig) kv (fun kc=>oif (Nat.beq (jb2 kc) (jb2 sig)) (qhi m (jc6 h va okf z false) (fun b=>ob (h.get b) (fun B=>AB.casesOn (motive:=fun _=>R) B (fun _ _=>none)
  (fun va' es=>oif (qcd va va') (ob (jrv sig kc es) (fun r=>Option.rec (motive:=fun _=>R) (jc6 h va okf z false) (fun v=>jc6 h va okf v true) r)) none)))) none)=some (v,h'):=by
 obtain⟨m,hm,h1⟩:=jaa.1 hv
 obtain⟨kv,hk,h2⟩:=jaa.1 h1
 exact⟨m,kv,hm,hk,h2⟩
theorem jpd {va:Bool}
 (hv:qhi m (jc6 h va okf z false) (fun b=>ob (h.get b) (fun B=>AB.casesOn (motive:=fun _=>R) B (fun _ _=>none)
  (fun va' es=>oif (qcd va va') (ob (jrv sig kc es) (fun r=>Option.rec (motive:=fun _=>R) (jc6 h va okf z false) (fun v=>jc6 h va okf v true) r)) none)))=some (v,h')) :
 (m=.s .nilMap/\jc6 h va okf z false=some (v,h')) ∨
 ∃ b es r,m=.s (.map b)/\h.get b=some (.map va es)/\jrv sig kc es=some r/\((r=none/\jc6 h va okf z false=some (v,h'))∨∃ vc,r=some vc/\jc6 h va okf vc true=some (v,h')):=by
 rcases jw3 hv with⟨h1,h2⟩ | ⟨b,rfl,h2⟩
 .exact .inl ⟨h1,h2⟩
 .obtain ⟨B,hB,h3⟩:=jaa.1 h2
  cases B with
  | arr cs ty=>cases h3
  | map va' es =>
   obtain⟨h4,h5⟩:=jab.1 (show oif (qcd va va') (ob (jrv sig kc es) (fun r=>Option.rec (motive:=fun _=>R) (jc6 h va okf z false) (fun v=>jc6 h va okf v true) r)) none=some (v,h') from h3)
   obtain rfl:=j6y h4
   obtain⟨r,hr,h6⟩:=jaa.1 h5
   refine .inr ⟨b,es,r,rfl,hB,hr,?_⟩
   cases r with
   | none=>exact .inl ⟨rfl,h6⟩
   | some vc=>exact .inr ⟨vc,rfl,h6⟩
theorem jtr {x:AV} {β:Type} {f:List SV->Option β} {g:Bool} {r:β} (h:jy7 g x f=some r):∃ cs,f cs=some r:=by
 cases x with
 | s x =>
  have h':oif g none (f [x])=some r:=h
  rw[jap] at h'
  split at h'
  .cases h'
  .exact ⟨_,h'⟩
 | agg l=>exact⟨l,(jab.1 (show oif g (f l) none=some r from h)).2⟩
 | _=>cases h
theorem jw7 {va:Bool} {x k:Od} (hv:jwx st fr h sig va z okf x k=some (v,h')):h'=h:=by
 obtain⟨m,kv,_,_,h1⟩:=jpc hv
 obtain⟨kc,h2⟩:=jtr h1
 rcases jpd (jab.1 h2).2 with⟨_,h3⟩ | ⟨b,es,r,_,_,_,⟨_,h3⟩ | ⟨vc,_,h3⟩⟩
 .exact (jf8 h3).1
 .exact (jf8 h3).1
 .exact (jf8 h3).1
theorem jpe {va:Bool} {x k u:Od} (hv:jwy st fr h sig va x k u=some (v,h')) :
 ∃ m kv vv,ev st fr x=some m/\ev st fr k=some kv/\ev st fr u=some vv/\jy7 (kag sig) kv (fun kc=>oif (Nat.beq (jb2 kc) (jb2 sig)) (jy7 va vv (fun vc=>qhi m none (fun b=>oif (Nat.ble h.lo b) (ob (h.get b) (fun B=>AB.casesOn (motive:=fun _=>R) B (fun _ _=>none)
  (fun va' es=>oif (qcd va va') (ob (qcc sig kc vc es) (fun es'=>ok .undef (h.put b (some (.map va' es'))))) none))) none))) none)=some (v,h'):=by
 obtain⟨m,hm,h1⟩:=jaa.1 hv
 obtain⟨kv,hk,h2⟩:=jaa.1 h1
 obtain⟨vv,hu,h3⟩:=jaa.1 h2
 exact⟨m,kv,vv,hm,hk,hu,h3⟩
theorem jpf {va:Bool}
 (hv:qhi m none (fun b=>oif (Nat.ble h.lo b) (ob (h.get b) (fun B=>AB.casesOn (motive:=fun _=>R) B (fun _ _=>none)
  (fun va' es=>oif (qcd va va') (ob (qcc sig kc vc es) (fun es'=>ok .undef (h.put b (some (.map va' es'))))) none))) none)=some (v,h')) :
 ∃ b es es',m=.s (.map b)/\h.lo<=b/\h.get b=some (.map va es)/\qcc sig kc vc es=some es'/\v=.undef/\h'=h.put b (some (.map va es')):=by
 rcases jw3 hv with⟨h1,h2⟩ | ⟨b,rfl,h2⟩
 .cases h2
 .obtain ⟨h3,h4⟩:=jab.1 h2
  obtain⟨B,hB,h5⟩:=jaa.1 h4
  cases B with
  | arr cs ty=>cases h5
  | map va' es =>
   obtain⟨h6,h7⟩:=jab.1 (show oif (qcd va va') (ob (qcc sig kc vc es) (fun es'=>ok .undef (h.put b (some (.map va' es'))))) none=some (v,h') from h5)
   obtain rfl:=j6y h6
   obtain⟨es',h8,h9⟩:=jaa.1 h7
   have h10:some (AV.undef,h.put b (some (.map va es')))=some (v,h'):=h9
   simp only[Option.some.injEq,Prod.mk.injEq] at h10
   exact⟨b,es,es',rfl,f0g h3,hB,h8,h10.1.symm,h10.2.symm⟩
theorem j6z {va:Bool} {x k u:Od} (hv:jwy st fr h sig va x k u=some (v,h')) :
 ∃ b es es',h.lo<=b/\h.get b=some (.map va es)/\h'=h.put b (some (.map va es'))/\v=.undef:=by
 obtain⟨m,kv,vv,_,_,_,h1⟩:=jpe hv
 obtain⟨kc,h2⟩:=jtr h1
 obtain⟨vc,h3⟩:=jtr (jab.1 h2).2
 obtain⟨b,es,es',_,h4,h5,_,h6,h7⟩:=jpf h3
 exact⟨b,es,es',h4,h5,h7,h6⟩
end
section
variable {P:Program} {T:Tr TI} {w w':World} {A:Nat->Int} {φ:Phi} {h h':Hp}
theorem Rel.pushx (k:Rel A φ h w) (h1:0<=h.next) (h2:jao h.hid h.next=false) {x:AB} {L:Lc} (hLb:L.b=w.heap.size)
 (os:w'.os=w.os) (tape:w'.tape=w.tape) (output:w'.output=w.output) (size:w'.heap.size=w.heap.size+1) (old:∀ b,b<w.heap.size->w'.heap[b]?=w.heap[b]?)
 (hx:NmR A (φ.add h.next L) h.next x w') :
 Step (fun _=>False) φ (φ.add h.next L) h (h.push x) w w'/\Rel A (φ.add h.next L) (h.push x) w':=by
 have hle:=k.le_add L
 have hget:∀ n,n≠h.next->(h.push x).get n=h.get n:=fun n hn=>by
  rw[Hp.get_eq,Hp.get_eq,k.wf.push_ne h1 _ hn];rfl
 have hkn:φ.k L.b=none:=by
  cases e:φ.k L.b with
  | none=>rfl
  | some cs=>exact absurd (k.conLt e) (by omega)
 refine⟨⟨Abs.push _ k.wf h1 h2 _,fun n hn=>Phi.add_ne _ _ (by omega),fun _ _ e=>e,fun _ _ e=>.inl e,os,tape,output,by rw[size];omega,fun b hb _=>old b hb,fun n M hn hs hM=>?_⟩,⟨k.wf.push h1 _,fun n hn=>?_,fun n y hy=>?_,?_,fun b cs' e=>?_,fun n M hn hM=>?_⟩⟩
 .by_cases e:n=h.next
  .subst e;rw[Phi.add_same] at hM;cases hM;exact .inl (by rw[hLb];exact f0d _)
  .rw [Phi.add_ne _ _ e,k.dom n hn] at hM;cases hM
 .simp at hn;rw[Phi.add_ne _ _ (by omega)];exact k.dom n (by omega)
 .by_cases e:n=h.next
  .subst e
   obtain⟨_,hy⟩:=Hp.get_some hy
   rw[k.wf.push_same h1] at hy
   cases hy
   exact hx
  .rw [hget n e] at hy
   exact((k.blk n y hy).mono hle).world (fun M hM=>by
    rw[Phi.add_ne _ _ e] at hM
    obtain⟨M',hM',hb⟩:=(k.blk n y hy).some_loc
    rw[hM] at hM';cases hM'
    exact old _ hb)
 .have key:∀ n m L1 M,n=h.next->m≠h.next->((h.push x).get m).isSome=true->φ.add h.next L n=some L1->φ.add h.next L m=some M->L1.b≠M.b:=by
   intro n m L1 M en em hm hL hM
   subst en
   rw[hget m em] at hm
   rw[Phi.add_same] at hL
   rw[Phi.add_ne _ _ em] at hM
   cases hL
   obtain⟨M',hM',hb⟩:=k.loc hm
   rw[hM] at hM';cases hM'
   exact fun e=>by omega
  intro n m L1 M hn hm hL hM e
  by_cases en:n=h.next
  .by_cases em:m=h.next
   .rw [en,em]
   .exact absurd e (key n m L1 M en em hm hL hM)
  .by_cases em:m=h.next
   .exact absurd e.symm (key m n M L1 em en hn hM hL)
   .rw [hget n en] at hn
    rw[hget m em] at hm
    rw[Phi.add_ne _ _ en] at hL
    rw[Phi.add_ne _ _ em] at hM
    exact k.inj n m L1 M hn hm hL hM e
 .have e':φ.k b=some cs':=e
  obtain⟨ty',h3⟩:=k.con b cs' e'
  exact⟨ty',by rw[old b (k.conLt e')];exact h3⟩
 .show φ.k M.b=none
  by_cases en:n=h.next
  .subst en
   rw[Phi.add_same] at hM
   cases hM
   exact hkn
  .rw [hget n en] at hn
   rw[Phi.add_ne _ _ en] at hM
   exact k.sep n M hn hM
theorem Rel.putx (k:Rel A φ h w) {b:Nat} {y x:AB} (hg:h.get b=some y) {L:Lc} (h1:φ b=some L)
 (os:w'.os=w.os) (tape:w'.tape=w.tape) (output:w'.output=w.output) (size:w'.heap.size=w.heap.size) (old:∀ p,p≠L.b->w'.heap[p]?=w.heap[p]?)
 (hx:NmR A φ b x w'):Step (fun n=>n=b) φ φ h (h.put b (some x)) w w'/\Rel A φ (h.put b (some x)) w':=by
 have hgs:(h.get b).isSome=true:=by rw[hg];rfl
 obtain⟨e1,e2⟩:=Hp.get_isSome hgs
 have hget:∀ n,n≠b->(h.put b (some x)).get n=h.get n:=fun n hn=>by
  rw[Hp.get_eq,Hp.get_eq,k.wf.put_ne e2 _ hn,Hp.hid_put]
 have hsame:∀ n,((h.put b (some x)).get n).isSome=true->(h.get n).isSome=true:=fun n hn=>by
  by_cases e:n=b
  .subst e;exact hgs
  .rwa [hget n e] at hn
 refine⟨⟨Abs.put k.wf hgs _,fun _ _=>rfl,fun _ _ e=>e,fun _ _ e=>.inl e,os,tape,output,by rw[size];exact f0d _,fun p hp hv=>?_,fun n L a b c=>by rw[k.dom n a] at c;cases c⟩,⟨k.wf.put e2 _,by simpa using k.dom,fun n z hz=>?_,fun n m L M hn hm=>k.inj n m L M (hsame n hn) (hsame m hm),fun p cs' e=>?_,fun n M hn hM=>k.sep n M (hsame n hn) hM⟩⟩
 .exact old p (fun e=>hv b L rfl hgs h1 e.symm)
 .by_cases e:n=b
  .subst e
   obtain⟨_,hz⟩:=Hp.get_some hz
   rw[k.wf.put_same e2] at hz
   cases hz
   exact hx
  .rw [hget n e] at hz
   refine(k.blk n z hz).world (fun M hM=>old _ (fun e'=>e ?_))
   exact k.inj n b M L (by rw[hz];rfl) hgs hM h1 e'
 .obtain ⟨ty',h7⟩:=k.con p cs' e
  exact⟨ty',by rw[old p (fun e'=>by have:=k.sep b L hgs h1;rw[←e',e] at this;cases this)];exact h7⟩
theorem jl2 {α β:Type}:∀ {l:List α} {r:List β},l.length=r.length->kag l=kag r
 | [],[],_=>rfl
 | [_],[_],_=>rfl
 | _::_::_,_::_::_,_=>rfl
 | [],_::_,h=>by simp at h
 | _::_,[],h=>by simp at h
 | [_],_::_::_,h=>by simp at h
 | _::_::_,[_],h=>by simp at h
def qoi (d:TypeDesc) (sig:List Bool):Prop:=(∃ fs,d=.struct fs/\kag sig=true)∨(∃ k,d=.int k/\sig=[false])
theorem jsg {T:Tr TI} (hT:Tys P T) {t:TypeId} {x:List Bool×TI} (h:jze T t=some x) :
 ∃ kt e d,P.underlying t=some (.map kt e)/\P.underlying kt=some d/\qoi d x.1/\jgl P 10000 kt=some x.1/\TIok P e x.2/\ti1 x.2=true:=by
 unfold jze at h
 split at h
 .rename_i ti hti
  split at h
  .rename_i k e he
   split at h
   .rename_i q z hq hz
    obtain⟨d,h1,h2⟩:=(hT t ti hti).und
    rw[he] at h2
    obtain⟨d',h6,hko⟩:=(hT _ q hq).und
    cases hz1:ti1 z with
    | false=>rw[hz1] at h;cases h
    | true =>
     rw[hz1] at h
     simp only[cond_true] at h
     split at h
     .rename_i kk hkk
      cases h
      rw[hkk] at hko
      have hko':d'=.int kk:=hko
      subst hko'
      refine⟨k,e,_,h1.trans (congrArg some h2),h6,.inr ⟨kk,rfl,rfl⟩,?_,hT _ _ hz,hz1⟩
      show jgl P (9999+1) k=_
      unfold jgl
      rw[h6]
     .split at h
      .rename_i s hs
       cases hb:q.agg&&(kag s&&jwz q.kind) with
       | false=>rw[hb] at h;cases h
       | true =>
        rw[hb] at h
        cases h
        simp only[f0y] at hb
        obtain⟨h3,_⟩:=(hT _ q hq).eq s hs
        obtain⟨i,zz,d2,_,_,_,_,_,h6',h7,_⟩:=(hT _ q hq).ex
        have:∃ fs,d2=.struct fs:=by
         obtain⟨fs0,hfs0⟩:∃ fs,q.kind=.struct fs:=by
          have h8:=hb.2.2
          cases hk:q.kind<;>rw[hk] at h8<;>first | exact⟨_,rfl⟩ | cases h8
         rw[hfs0] at hko
         obtain⟨fields,hd',_⟩:=hko
         rw[h6] at h6'
         exact⟨fields,(Option.some.inj h6').symm.trans hd'⟩
        obtain⟨fs,rfl⟩:=this
        exact⟨k,e,_,h1.trans (congrArg some h2),h6',.inl ⟨fs,rfl,hb.2.1⟩,h3,hT _ _ hz,hz1⟩
      .cases h
   .cases h
  .cases h
 .cases h
theorem jkm:∀ (d:Nat) (t:TypeId) (sig:List Bool),jgl P d t=some sig->∀ (xs:List Value) (x:Value) (em:Bool),xs.length=sig.length ->
 jdh P t xs x->(Instr.checkKey em d t x).run P w=.ok () w:=by
 intro d
 induction d with
 | zero=>intro t sig h;cases h
 | succ d ih =>
  intro t sig h xs x em hl sx
  unfold jgl at h
  split at h
  .rename_i hu
   simp only[jdh,hu] at sx
   simp[Instr.checkKey,run_underlying hu]
  .rename_i k hu
   simp only[jdh,hu] at sx
   simp[Instr.checkKey,run_underlying hu]
  .rename_i fs hu
   split at h
   .cases h
   rename_i hst
   simp only[jdh,hu] at sx
   subst sx
   have fields:∀ (l:List Field) (off:Nat) (sig:List Bool),jgv P (jgl P d) l off=some sig->off+sig.length<=xs.length ->
    (forIn l PUnit.unit (fun f (_:PUnit)=>(do
     if f.name≠"_" then Instr.checkKey em d f.type (←part f.type xs.toArray f.offset)
     pure (ForInStep.yield PUnit.unit):Sem (ForInStep PUnit)))).run P w=.ok PUnit.unit w:=by
    intro l
    induction l with
    | nil=>intro off sig _ _;rfl
    | cons f l ihl =>
     intro off sig h hoff
     unfold jgv at h
     split at h
     .cases h
     rename_i hn
     split at h
     .cases h
     rename_i ho
     have ho':f.offset=off:=by simpa using ho
     split at h
     .rename_i s i hs hi
      split at h
      .rename_i hsz0
       obtain⟨hsz,hs0⟩:=hsz0
       split at h
       .rename_i r hr
        cases h
        simp only[f0k] at hoff
        obtain⟨a,pa,sa⟩:=jfc (w:=w) hs hi hsz (xs:=xs) (off:=off) (by omega)
        have h1:=ih f.type s hs _ a em (by simp;omega) sa
        have h2:=ihl (off+s.length) r hr (by omega)
        simp only[List.forIn_cons,Sem.run_bind,ho',hn,ne_eq,not_false_eq_true,if_true,pa,Result.andThen_ok,h1,Sem.run_pure]
        exact h2
       .cases h
      .cases h
     .cases h
   have:=fields fs.toList 0 sig h (by omega)
   simp only[Instr.checkKey,Sem.run_bind,run_underlying hu,Result.andThen_ok]
   simp at this
   simp
   rw[this]
   rfl
  .rename_i n el hu
   split at h
   .rename_i hc
    obtain⟨hs,hi⟩:=hc
    cases h
    obtain⟨i,hi,hsz⟩:=f0a.1 hi
    simp only[jdh,hu] at sx
    subst sx
    simp only[f2k] at hl
    have one:∀ j,j<n->∃ a,(part el xs.toArray (j*P.cellsOf el)).run P w=.ok a w/\(Instr.checkKey em d el a).run P w=.ok () w:=fun j hj=>by
     obtain⟨a,pa,sa⟩:=jfc (w:=w) hs hi hsz (xs:=xs) (off:=j) (by simp;omega)
     rw[show P.cellsOf el=1 by simp[Program.cellsOf,hi,hsz],f2h]
     exact⟨a,pa,ih el [false] hs _ a em (by simp;omega) sa⟩
    have items:∀ (m off:Nat),off+m<=n->(forIn (List.range' off m) PUnit.unit (fun j (_:PUnit)=>(do
     Instr.checkKey em d el (←part el xs.toArray (j*(←sizeOf el)))
     pure (ForInStep.yield PUnit.unit):Sem (ForInStep PUnit)))).run P w=.ok PUnit.unit w:=by
     intro m
     induction m with
     | zero=>intro off _;rfl
     | succ m ihm =>
      intro off hoff
      obtain⟨a,pa,ca⟩:=one off (by omega)
      rw[List.range'_succ]
      simp only[List.forIn_cons,Sem.run_bind,run_sizeOf w hi,pa,Result.andThen_ok,ca,Sem.run_pure]
      exact ihm (off+1) (by omega)
    have:=items n 0 (by omega)
    simp only[Instr.checkKey,Sem.run_bind,run_underlying hu,Result.andThen_ok,Std.Legacy.Range.forIn_eq_forIn_range',Std.Legacy.Range.size,Nat.sub_zero,Nat.add_one_sub_one,Nat.div_one]
    simp at this
    simp
    rw[this]
    rfl
   .cases h
  .cases h
theorem jni:∀ {sig:List Bool} {cs ds:List SV} {xs ys:List Value},jbh sig cs ds=some true->All2 (cS A φ) cs xs->All2 (cS A φ) ds ys->ys=xs
 | [],cs,ds,xs,ys,h,hx,hy=>by
  obtain⟨rfl,rfl,_⟩:=jby h
  cases hx;cases hy;rfl
 | s::sig,cs,ds,xs,ys,h,hx,hy=>by
  obtain⟨a,l',b,r',e1,e2,rfl,rfl,h1,h2,h3⟩:=jbt h
  have h3':e1=true/\e2=true:=by simpa using h3.symm
  obtain⟨rfl,rfl⟩:=h3'
  cases hx with
  | @cons _ x _ xs hx hxr =>
  cases hy with
  | @cons _ y _ ys hy hyr =>
  have ih:=jni h2 hxr hyr
  have:y=x:=by
   rcases jfb h1 hx hy with⟨_,p,q,rfl,rfl,e⟩ | ⟨_,k,m,n,rfl,rfl,e⟩
   .have:p=q:=by simpa using e.symm
    rw[this]
   .have:m=n:=by simpa using e.symm
    rw[this]
  rw[ih,this]
def qhw (A:Nat->Int) (φ:Phi) (va:Bool) (p:List SV×List SV) (e:MapEntry):Prop:=cV1 A φ (kag p.1) p.1 e.key/\cV1 A φ va p.2 e.val
theorem jpg {cs:List SV} {v:Value} (k:cV1 A φ (kag cs) cs v):∃ vs:List Value,All2 (cS A φ) cs vs/\((kag cs=true/\v=.agg vs.toArray)∨(kag cs=false/\vs=[v])):=by
 unfold cV1 at k
 cases hk:kag cs with
 | true=>rw[hk,if_pos rfl] at k;obtain⟨vs,e,h⟩:=k;exact⟨vs,h,.inl ⟨rfl,e⟩⟩
 | false =>
  rw[hk] at k
  simp only[f0v,if_false] at k
  obtain⟨x,e,h⟩:=k
  subst e
  exact⟨[v],.cons h .nil,.inr ⟨rfl,rfl⟩⟩
theorem jkn {kt:TypeId} {d:TypeDesc} (hu:P.underlying kt=some d) (hd:qoi d sig) {cs:List SV} {xs:List Value} {v:Value} (hl:cs.length=sig.length)
 (h:(kag cs=true/\v=.agg xs.toArray)∨(kag cs=false/\xs=[v])):jdh P kt xs v:=by
 have hk:=jl2 hl
 rcases hd with⟨fs,rfl,hs⟩ | ⟨k,rfl,rfl⟩
 .rw [hs] at hk
  rcases h with⟨_,h⟩ | ⟨h,_⟩
  .simp only[jdh,hu];exact h
  .rw [hk] at h;cases h
 .rcases h with⟨h,_⟩ | ⟨_,h⟩
  .rw [hk] at h;cases h
  .simp only[jdh,hu];exact h
theorem jjj {kt:TypeId} {d:TypeDesc} (hu:P.underlying kt=some d) (hd:qoi d sig) (hs:jgl P 10000 kt=some sig) {cs:List SV} {x y:Value} {e:Bool}
 (hx:cV1 A φ (kag cs) cs x) (hy:cV1 A φ (kag ds) ds y) (he:jbh sig cs ds=some e):(Op.equal kt x y).run P w=.ok e w:=by
 obtain⟨xs,hx1,hx2⟩:=jpg hx
 obtain⟨ys,hy1,hy2⟩:=jpg hy
 obtain⟨l1,l2⟩:=jeg he
 exact jse 10000 kt sig hs cs ds xs ys _ _ e hx1 hy1 he (jkn hu hd l1 hx2) (jkn hu hd l2 hy2)
theorem jhw {kt:TypeId} {d:TypeDesc} (hu:P.underlying kt=some d) (hd:qoi d sig) (hs:jgl P 10000 kt=some sig) {k:Value} (hk:cV1 A φ (kag kc) kc k) {va:Bool} :
 ∀ (es:List (List SV×List SV)) (es':List MapEntry) (i:Nat) (r:Option (List SV)),All2 (qhw A φ va) es es'->jrv sig kc es=some r ->
  ∃ rr,(Instr.findAsking kt k es' i).run P w=.ok rr w/\((r=none/\rr=none)∨∃ vc j v,r=some vc/\rr=some (j,v)/\cV1 A φ va vc v)
 | [],_,i,r,ha,h=>by
  cases ha
  cases (show some none=some r from h)
  exact⟨none,rfl,.inl ⟨rfl,rfl⟩⟩
 | p::es,_,i,r,ha,h=>by
  cases ha with
  | @cons _ e _ es' hp hrest =>
  obtain⟨b,hb,h1⟩:=jaa.1 (show ob (jbh sig kc p.1) (fun b=>oif b (some (some p.2)) (jrv sig kc es))=some r from h)
  have he:=jjj (w:=w) hu hd hs hk hp.1 hb
  cases b with
  | true =>
   cases (show some (some p.2)=some r from h1)
   exact⟨some (i,e.val),by simp[Instr.findAsking,he],.inr ⟨_,_,_,rfl,rfl,hp.2⟩⟩
  | false =>
   obtain⟨rr,h2,h3⟩:=jhw hu hd hs hk es es' (i+1) r hrest h1
   exact⟨rr,by simp[Instr.findAsking,he,h2],h3⟩
def qo8 (sig:List Bool) (kc:List SV):List (List SV×List SV)->Prop
 | []=>True
 | p::es=>∃ b,jbh sig kc p.1=some b/\(b=false->qo8 sig kc es)
theorem jsh:∀ {es:List (List SV×List SV)} {r:Option (List SV)},jrv sig kc es=some r->qo8 sig kc es
 | [],_,_=>trivial
 | p::es,r,h=>by
  obtain⟨b,hb,h1⟩:=jaa.1 (show ob (jbh sig kc p.1) (fun b=>oif b (some (some p.2)) (jrv sig kc es))=some r from h)
  refine⟨b,hb,fun e=>?_⟩
  subst e
  exact jsh (show jrv sig kc es=some r from h1)
theorem jph:∀ {es:List (List SV×List SV)} {r:List (List SV×List SV)},qcc sig kc vc es=some r->qo8 sig kc es
 | [],_,_=>trivial
 | p::es,r,h=>by
  obtain⟨b,hb,h1⟩:=jaa.1 (show ob (jbh sig kc p.1) (fun b=>oif b (some ((p.1,vc)::es)) (ob (qcc sig kc vc es) (fun l=>some (p::l))))=some r from h)
  refine⟨b,hb,fun e=>?_⟩
  subst e
  obtain⟨l,hl,_⟩:=jaa.1 h1
  exact jph hl
theorem jpi {kt:TypeId} {kk:IntKind} (hu:P.underlying kt=some (.int kk)) (hs:jgl P 10000 kt=some [false]) {k:Value} (hk:cV1 A φ (kag kc) kc k) {va:Bool} :
 ∀ (es:List (List SV×List SV)) (es':List MapEntry) (i:Nat),All2 (qhw A φ va) es es'->qo8 [false] kc es ->
  ∃ rr,Instr.findNow (.int kk) k es' i=some rr/\(Instr.findAsking kt k es' i).run P w=.ok rr w
 | [],_,i,ha,h=>by
  cases ha
  exact⟨none,rfl,rfl⟩
 | p::es,_,i,ha,h=>by
  cases ha with
  | @cons _ e _ es' hp hrest =>
  obtain⟨b,hb,h1⟩:=h
  have he:=jjj (w:=w) hu (.inr ⟨kk,rfl,rfl⟩) hs hk hp.1 hb
  obtain⟨l1,l2⟩:=jeg hb
  have hx:=hk
  have hy:=hp.1
  rw[show kag kc=false from jl2 (r:=[false]) l1] at hx
  rw[show kag p.1=false from jl2 (r:=[false]) l2] at hy
  unfold cV1 at hx hy
  simp only[f0v,if_false] at hx hy
  obtain⟨x,ex,hx⟩:=hx
  obtain⟨y,ey,hy⟩:=hy
  rw[ex,ey] at hb
  obtain⟨a,l',b',r',e1,e2,q1,q2,g1,g2,g3⟩:=jbt hb
  cases q1;cases q2
  obtain⟨_,_,rfl⟩:=jby g2
  have hsn:Instr.sameNow (.int kk) k e.key=some b:=by
   rcases jfb g1 hx hy with⟨q,_⟩ | ⟨_,k',m,n,h5,h6,rfl⟩
   .cases q
   .rw [h5,h6,g3];simp[Instr.sameNow]
  cases b with
  | true=>exact⟨some (i,e.val),by simp[Instr.findNow,hsn],by simp[Instr.findAsking,he]⟩
  | false =>
   obtain⟨rr,h2,h3⟩:=jpi hu hs hk es es' (i+1) hrest (h1 rfl)
   exact⟨rr,by simp[Instr.findNow,hsn,h2],by simp[Instr.findAsking,he,h3]⟩
theorem jhg {kt:TypeId} {d:TypeDesc} (hu:P.underlying kt=some d) (hd:qoi d sig) (hs:jgl P 10000 kt=some sig) {k:Value} (hk:cV1 A φ (kag kc) kc k) {va:Bool}
 {es:List (List SV×List SV)} {es':List MapEntry} (ha:All2 (qhw A φ va) es es') (hm:qo8 sig kc es) {rr:Option (Nat×Value)} (h:(Instr.findAsking kt k es' 0).run P w=.ok rr w) :
 (Instr.findKey kt k es').run P w=.ok rr w:=by
 rcases hd with⟨fs,rfl,_⟩ | ⟨kk,rfl,rfl⟩
 .cases es' with
  | nil =>
   have:rr=none:=by
    have h':Result.ok none w=Result.ok rr w:=h
    cases h';rfl
   subst this
   simp[Instr.findKey,run_underlying hu,Instr.findNow]
  | cons e es' =>
   have:Instr.findNow (.struct fs) k (e::es') 0=none:=by
    simp[Instr.findNow,Instr.sameNow]
   simp[Instr.findKey,run_underlying hu,this,h]
 .obtain ⟨r2,h2,h3⟩:=jpi (w:=w) hu hs hk es es' 0 ha hm
  have:r2=rr:=by
   rw[h] at h3
   injection h3 with h3
   exact h3.symm
  subst this
  simp[Instr.findKey,run_underlying hu,h2]
theorem jsi {kt:TypeId} {d:TypeDesc} (hu:P.underlying kt=some d) (hd:qoi d sig) (hs:jgl P 10000 kt=some sig) {k v:Value} (hk:cV1 A φ (kag kc) kc k) {va:Bool} (hv:cV1 A φ va vc v) :
 ∀ (es:List (List SV×List SV)) (es':List MapEntry) (i:Nat) (r:List (List SV×List SV)),All2 (qhw A φ va) es es'->qcc sig kc vc es=some r ->
  ((Instr.findAsking kt k es' i).run P w=.ok none w/\∀ born,All2 (qhw A φ va) r (es'++[{ key:=k,val:=v,born }])) ∨
  ∃ j e,(Instr.findAsking kt k es' i).run P w=.ok (some (i+j,e.val)) w/\es'[j]?=some e/\e.key=k/\(∃ ds,jbh sig kc ds=some true)/\All2 (qhw A φ va) r (es'.set j { e with key:=k,val:=v })
 | [],_,i,r,ha,h=>by
  cases ha
  cases (show some [(kc,vc)]=some r from h)
  exact .inl ⟨rfl,fun born=>.cons ⟨hk,hv⟩ .nil⟩
 | p::es,_,i,r,ha,h=>by
  cases ha with
  | @cons _ e _ es' hp hrest =>
  obtain⟨b,hb,h1⟩:=jaa.1 (show ob (jbh sig kc p.1) (fun b=>oif b (some ((p.1,vc)::es)) (ob (qcc sig kc vc es) (fun l=>some (p::l))))=some r from h)
  have he:=jjj (w:=w) hu hd hs hk hp.1 hb
  cases b with
  | true =>
   cases (show some ((p.1,vc)::es)=some r from h1)
   have hkey:e.key=k:=by
    obtain⟨xs,hx,hx2⟩:=jpg hk
    obtain⟨ys,hy,hy2⟩:=jpg hp.1
    obtain⟨l1,l2⟩:=jeg hb
    have hkk:kag kc=kag p.1:=jl2 (l1.trans l2.symm)
    have hxy:=jni hb hx hy
    subst hxy
    rcases hx2 with⟨g1,g2⟩ | ⟨g1,g2⟩<;>rcases hy2 with⟨g3,g4⟩ | ⟨g3,g4⟩
    .rw [g2,g4]
    .rw [hkk,g3] at g1;cases g1
    .rw [hkk,g3] at g1;cases g1
    .rw [g2] at g4;exact(List.cons.inj g4).1.symm
   refine .inr ⟨0,e,by simp[Instr.findAsking,he],rfl,hkey,⟨_,hb⟩,?_⟩
   exact .cons ⟨by show cV1 A φ (kag p.1) p.1 k;rw[←hkey];exact hp.1,hv⟩ hrest
  | false =>
   obtain⟨l,hl,h2⟩:=jaa.1 h1
   cases h2
   rcases jsi hu hd hs hk hv es es' (i+1) l hrest hl with⟨h3,h4⟩ | ⟨j,e',h3,h4,h5,h7,h6⟩
   .exact .inl ⟨by simp[Instr.findAsking,he,h3],fun born=>.cons hp (h4 born)⟩
   .refine .inr ⟨j+1,e',?_,by simpa using h4,h5,h7,.cons hp h6⟩
    simp[Instr.findAsking,he,h3]
    omega
theorem jhh:∀ {sig:List Bool} {cs ds:List SV} {xs:List Value},jbh sig cs ds=some true->All2 (cS A φ) cs xs->∀ n,(xs.zip xs).all (fun(x,y)=>Instr.sameBits n x y)=true
 | [],cs,ds,xs,h,ha,n=>by
  obtain⟨rfl,rfl,_⟩:=jby h
  cases ha;rfl
 | s::sig,cs,ds,xs,h,ha,n=>by
  obtain⟨a,l',b,r',e1,e2,rfl,rfl,h1,h2,h3⟩:=jbt h
  have h3':e1=true/\e2=true:=by simpa using h3.symm
  obtain⟨rfl,rfl⟩:=h3'
  cases ha with
  | @cons _ x _ xs hx hrest =>
  have ih:=jhh h2 hrest n
  have hb:Instr.sameBits n x x=true:=by
   cases s with
   | true =>
    obtain⟨p,rfl,_⟩:=jgw (show jnu a (fun x=>jnu b (fun y=>some (oif x y (jhd y))))=some true from h1)
    cases (show x=.bool p from hx)
    cases n<;>simp[Instr.sameBits]
   | false =>
    obtain⟨k,m,rfl,_⟩:=jh8 (show j6c a (fun k m=>j6c b (fun k' n=>oif (Nat.beq (ikn k) (ikn k')) (some (ieq m n)) none))=some true from h1)
    cases (show x=.int k m from hx)
    cases n<;>simp[Instr.sameBits]
  simp only[List.zip_cons_cons,List.all_cons,hb,Bool.true_and]
  exact ih
theorem jzj {k:Value} (hk:cV1 A φ (kag kc) kc k) (he:jbh sig kc ds=some true):(Instr.keyThatStays k k).run P w=.ok k w:=by
 obtain⟨xs,hx,hx2⟩:=jpg hk
 rcases hx2 with⟨_,rfl⟩ | ⟨_,rfl⟩
 .have:Instr.sameBits 10000 (.agg xs.toArray) (.agg xs.toArray)=true:=by
   show Instr.sameBits (9999+1) (.agg xs.toArray) (.agg xs.toArray)=true
   unfold Instr.sameBits
   simp only[BEq.rfl,Bool.true_and]
   exact jhh he hx 9999
  simp[Instr.keyThatStays,this]
 .have:=jhh he hx 10000
  simp only[List.zip_cons_cons,List.zip_nil_right,List.all_cons,List.all_nil,Bool.and_true] at this
  simp[Instr.keyThatStays,this]
theorem TIok.run_zero1 {e:TypeId} {z:TI} (k:TIok P e z):∃ zv,(zeroValue e).run P w=.ok zv w/\cV1 A φ z.agg z.zero zv:=by
 obtain⟨i,zv,d,h1,h2,h3,h4,h5,_⟩:=k.ex
 have hs:=k.shape i zv h1 h2
 refine⟨zv,by simp[zeroValue,typeInfo,h1,h2],?_⟩
 have ha:=h5 A φ
 unfold cV1
 rw[←hs]
 cases zv with
 | agg cs=>exact⟨cs.toList,by simp,ha⟩
 | _ =>
  simp only[j19,f0v,if_false]
  revert ha
  generalize z.zero=zs
  intro ha
  cases ha with
  | cons hx hn=>cases hn;exact⟨_,rfl,hx⟩
theorem jhi {va:Bool} {cs:List SV} (hv:jc6 h va okf cs b=some (v,h')) {u:Value} (hu:cV1 A φ va cs u) :
 cV A φ v (if okf=true then .tuple #[u,.bool b] else u):=by
 rcases(jf8 hv).2 with⟨rfl,rfl⟩ | ⟨rfl,hm⟩
 .exact ⟨[u,.bool b],rfl,.cons hu (.cons (by unfold cV1;exact⟨_,rfl,rfl⟩) .nil)⟩
 .simp only[f0v,if_false]
  unfold cV1 at hu
  rcases jgu hm with⟨rfl,rfl⟩ | ⟨rfl,s,rfl,rfl⟩
  .rw [if_pos rfl] at hu;exact hu
  .simp only[f0v,if_false] at hu
   obtain⟨x,e,hx⟩:=hu
   cases e
   exact hx
theorem j4x (es:Array MapEntry) (j:Nat) (e:MapEntry) (f:MapEntry->MapEntry) (h:es.toList[j]?=some e):(es.modify j f).toList=es.toList.set j (f e):=by
 apply f2u
 intro i
 rw[f02,Array.getElem?_modify,f24]
 rw[f02] at h
 split
 .rename_i hij
  subst hij
  have:j<es.toList.length:=by simpa using (f05.1 h).1
  rw[h,if_pos this]
  rfl
 .rw [f02]
end
def qo9:Next->Value->Prop
 | .value v,u=>v=u
 | .skip,u=>u=undef
 | _,_=>False
def jzk (h:Hp):Cls->Nat->Prop
 | .fresh,_=>False
 | .load _,_=>False
 | .app b,n=>n=b
 | .quiet,_=>False
 | .other,n=>h.lo<=n
def jb3 (A:Nat->Int) (W:Nat->Prop) (φ:Phi) (h:Hp) (w:World) (v:AV) (h':Hp) (r:Result Next):Prop :=
 ∃ n rv w' φ',r=.ok n w'/\qo9 n rv/\Step W φ φ' h h' w w'/\Rel A φ' h' w'/\cV A φ' v rv
section
variable {P:Program} {T:Tr TI} {w w':World} {A:Nat->Int} {φ:Phi} {h h':Hp} {π:List Nat} {loc:List (Option Nat)} {st fr:List AV} {ρ:Operand->Value} {W V:Nat->Prop}
theorem jb3.mono (hw:∀ n,W n->V n) {r:Result Next} (k:jb3 A W φ h w v h' r):jb3 A V φ h w v h' r :=
 let ⟨n,rv,w',φ',a,b,c,d,e⟩:=k;⟨n,rv,w',φ',a,b,c.mono hw,d,e⟩
theorem jeq (k:Rel A φ h w) {cs:List SV} {ty:TypeId} {g:Nat->AV} (hv:nw h cs ty (fun n h=>ok (g n) h)=some (v,h')) {c:Array Value} (gr:Grown w w' c ty)
 (hl:cs.length<=c.size) (hx:ty=bT->c.size=cs.length) (hc:∀ (i:Nat) sv,cs[i]?=some sv->∃ v,c[i]?=some v/\cS A φ sv v) :
 ∃ φ',Step (fun _=>False) φ φ' h h' w w'/\Rel A φ' h' w'/\φ' h.next=some ⟨w.heap.size,0,c.size⟩/\v=g h.next/\φ.le φ':=by
 obtain⟨h1,h2,h3⟩:=jtm hv
 cases h3
 obtain⟨s,r⟩:=k.push h1 h2 gr hl hx hc
 exact⟨_,s,r,Phi.add_same _ _ _,rfl,s.le k⟩
theorem jn6 {cs:List SV} {c:Array Value} (ha:All2 (cS A φ) cs c.toList):cs.length<=c.size/\∀ (i:Nat) sv,cs[i]?=some sv->∃ v,c[i]?=some v/\cS A φ sv v :=
 ⟨by have:=ha.len;simp at this;omega,fun i sv hi=>by obtain⟨v,h1,h2⟩:=ha.get i sv hi;exact⟨v,by simpa using h1,h2⟩⟩
theorem jko {cs:List SV} {c:Array Value} (ha:All2 (cS A φ) cs c.toList):c.size=cs.length:=by
 have:=ha.len;simp at this;omega
theorem je4 (k:Rel A φ h w) {b off:Nat} {xs:List SV} (hr:rd h b off n=some xs) :
 ∃ L vs,φ b=some L/\(h.get b).isSome=true/\All2 (cS A φ) xs vs/\vs.length=n/\∀ j v,vs[j]?=some v->w.cell? ⟨L.b,L.o+off+j,none⟩=some v:=by
 obtain⟨cs,ty,hg,rfl,hl⟩:=jo3 hr
 obtain⟨L,c,h1,h3,h4,h5,h6⟩:=k.blk b _ hg
 have hlen:off+n<=cs.length∨n=0:=by simp at hl;omega
 refine⟨L,(c.toList.drop (L.o+off)).take n,h1,by rw[hg];rfl,?_,?_,?_⟩
 .refine All2.of_get ?_ ?_
  .simp at hl ⊢;omega
  .intro i a b ha hb
   have hin:i<n:=by
    rcases f0h i n with h | h
    .exact h
    .rw [f0p (by simp;omega)] at ha;cases ha
   rw[f17 hin,f1f] at ha hb
   obtain⟨v,hv,hc⟩:=h6 _ _ ha
   rw[f02,f1r,hv] at hb
   cases hb
   exact hc
 .simp at hl ⊢;omega
 .intro j v hv
  have hin:j<n:=by
   rcases f0h j n with h | h
   .exact h
   .rw [f0p (by simp;omega)] at hv;cases hv
  rw[f17 hin,f1f] at hv
  simp only[World.cell?,h3]
  simpa using hv
theorem jw8 (k:Rel A φ h w) {b off m mc:Nat} {ex:Bool} {x:Value} (hx:cS A φ (.slice b off m mc ex sz) x) {xs:List SV} (hr:rd h b off n=some xs) (hn:m=0->n=0) :
 ∃ ad cap news,x=.slice (some ad) m cap/\All2 (cS A φ) xs news/\news.length=n/\∀ j u,news[j]?=some u->w.cell? (ad.add j)=some u:=by
 obtain⟨L,ad,cap,q1,rfl,q2,q3,q4,q5⟩:=hx
 obtain⟨L',vs,e1,_,e2,e3,e4⟩:=je4 k hr
 rw[q1] at e1
 cases e1
 refine⟨ad,cap,vs,rfl,e2,e3,fun j u hu=>?_⟩
 rcases q5 with⟨rfl,_⟩ | q5
 .rw [jb1];exact e4 j u hu
 .have:vs=[]:=f1n (by rw[e3];exact hn (by omega))
  rw[this] at hu
  cases hu
theorem jsj {R:SV->Value->Prop} {c:Array Value} {o:Nat} {cells:List SV} (h:∀ (j:Nat) (x:SV),cells[j]?=some x->∃ u,c[o+j]?=some u/\R x u) :
 ∃ vs,All2 R cells vs/\vs.length=cells.length/\∀ (j:Nat) (u:Value),vs[j]?=some u->c[o+j]?=some u:=by
 have hl:((c.toList.drop o).take cells.length).length=cells.length:=by
  rcases f2o cells.length with h0 | h0
  .rw [h0];simp
  .obtain ⟨u,h1,_⟩:=h (cells.length - 1) _ (f0b (by omega))
   have:=(f05.1 h1).1
   simp
   omega
 have hg:∀ (j:Nat) (u:Value),((c.toList.drop o).take cells.length)[j]?=some u->c[o+j]?=some u:=fun j u hu=>by
  rw[f15] at hu
  split at hu
  .rw [f1f] at hu
   simpa using hu
  .cases hu
 refine⟨_,All2.of_get hl.symm (fun i a b ha hb=>?_),hl,hg⟩
 obtain⟨u,h1,h2⟩:=h i a ha
 have:=hg i b hb
 rw[h1] at this
 cases this
 exact h2
theorem jir {xs:List SV} {vs:List Value} (ha:All2 (cS A φ) xs vs):∀ v∈vs,v.oneCell'=true:=by
 intro v hv
 induction ha with
 | nil=>cases hv
 | cons a _ ih=>rcases f0j.1 hv with rfl | h
                .exact a.one.1
                .exact ih h
theorem jkp:∀ {rows:List (List SV)} {l:List SV},jww size rows=some l->l.length=rows.length*size/\∀ (i j:Nat) (row:List SV) (x:SV),rows[i]?=some row->row[j]?=some x->row.length=size/\l[i*size+j]?=some x
 | [],l,h=>by cases h;exact⟨by simp,fun i j row x hr=>by simp at hr⟩
 | a::r,l,h=>by
  obtain⟨h1,h2⟩:=jab.1 (show oif (Nat.beq (jb2 a) size) (ob (jww size r) (fun r=>some (jgp a r))) none=some l from h)
  obtain⟨l',h3,h4⟩:=jaa.1 h2
  rw[jc8] at h4
  cases h4
  rw[jgt,ja7] at h1
  obtain⟨h5,h6⟩:=jkp h3
  refine⟨by rw[f0k,h5,f00,f27,h1];omega,fun i j row x hr hx=>?_⟩
  cases i with
  | zero =>
   simp only[f1a,Option.some.injEq] at hr
   subst hr
   have:=(f0x.1 hx).1
   exact⟨h1,by rw[f16,f0z,f0t this];exact hx⟩
  | succ i =>
   have hr':r[i]?=some row:=by simpa using hr
   obtain⟨h7,h8⟩:=h6 i j row x hr' hx
   refine⟨h7,?_⟩
   rw[f0u (by rw[h1,f27];omega),←h8]
   congr 1
   rw[h1,f27]
   omega
theorem qcn {l:List SV} (h:jww size rows=some l) (hs:0<size) {j:Nat} {x:SV} (hx:l[j]?=some x):∃ row,rows[j / size]?=some row/\row[j % size]?=some x:=by
 obtain⟨h1,h2⟩:=jkp h
 have hlt:j<rows.length*size:=by have:=(f0x.1 hx).1;omega
 have hq:j / size<rows.length:=Nat.div_lt_of_lt_mul (by rw[Nat.mul_comm];exact hlt)
 have hall:∀ {rows:List (List SV)} {l:List SV},jww size rows=some l->∀ row∈rows,row.length=size:=by
  intro rows
  induction rows with
  | nil=>intro l _ row hr;simp at hr
  | cons a r ih =>
   intro l h row hr
   obtain⟨h1,h2⟩:=jab.1 (show oif (Nat.beq (jb2 a) size) (ob (jww size r) (fun r=>some (jgp a r))) none=some l from h)
   obtain⟨l',h3,h4⟩:=jaa.1 h2
   rw[jgt,ja7] at h1
   rcases f0j.1 hr with rfl | h5
   .exact h1
   .exact ih h3 row h5
 have hrow:=hall h rows[j / size] (f2z hq)
 have hm:j % size<rows[j / size].length:=by rw[hrow];exact Nat.mod_lt _ hs
 refine⟨rows[j / size],f0b hq,?_⟩
 obtain⟨_,h3⟩:=h2 (j / size) (j % size) _ _ (f0b hq) (f0b hm)
 rw[show j / size*size+j % size=j by rw[Nat.mul_comm];exact Nat.div_add_mod j size,hx] at h3
 rw[f0b hm,h3]
theorem jis (k:Rel A φ h w) {x:Value} (hx:cD A φ.k (.lst rows) x) {xs:List SV} (hr:jww size rows=some xs) :
 ∃ ad cap news,x=.slice (some ad) rows.length cap/\All2 (cS A φ) xs news/\news.length=rows.length*size/\∀ (j:Nat) (u:Value),news[j]?=some u->w.cell? (ad.add j)=some u:=by
 obtain⟨ad,cap,rfl,hc,hcase⟩:=je2 hx
 obtain⟨h1,h2⟩:=jkp hr
 by_cases h0:xs=[]
 .subst h0
  exact⟨ad,cap,[],rfl,.nil,by simpa using h1,fun j u hj=>by simp at hj⟩
 .have hpos:0<xs.length:=by cases xs with | nil=>exact absurd rfl h0 | cons a t=>simp
  have hs:0<size:=by
   rcases f2o size with h | h
   .rw [h1,h,Nat.mul_zero] at hpos;omega
   .exact h
  rcases hcase with rfl | ⟨b,o,sz,cs,e1,rfl,e3,e4⟩
  .rw [h1] at hpos;simp at hpos
  .obtain ⟨ty,hb⟩:=k.con b cs e1
   have key:∀ (j:Nat) (x:SV),xs[j]?=some x->∃ u,cs[o+j]?=some u/\cD A φ.k x u:=fun j x hx=>by
    obtain⟨row,g1,g2⟩:=qcn hr hs hx
    obtain⟨u,g3,g4⟩:=e4 _ _ row x g1 g2
    have g5:sz=size:=by rw[←e3 _ _ g1];exact(h2 _ _ _ _ g1 g2).1
    refine⟨u,?_,g4⟩
    rw[←g3]
    congr 1
    rw[g5,f1r,show j / size*size+j % size=j by rw[Nat.mul_comm];exact Nat.div_add_mod j size]
   obtain⟨vs,a1,a2,a3⟩:=jsj key
   refine⟨_,cap,vs,rfl,a1.mono (fun _ _ h=>h.toS),by rw[a2,h1],fun j u hj=>?_⟩
   rw[jb1]
   simp only[World.cell?,hb]
   exact a3 j u hj
theorem jit (e:TypeId) (v:Value):(newVar e v).run P w=.ok ⟨w.heap.size,0,none⟩ { w with heap:=w.heap.push (.cells v.cells e) }:=by
 simp[newVar,newRow]
theorem jgy (c:Array Value) (e:TypeId):Grown w { w with heap:=w.heap.push (.cells c e) } c e:=.of rfl rfl rfl rfl
theorem qhx (hT:Tys P T) (k:Rel A φ h w) {o:Oper} {e:TypeId} (ho:o.op=.alloc e) {ti:TI} (hti:jh1 T e=some ti) (hv:qow h e ti.zero=some (v,h')) :
 jb3 A (fun _=>False) φ h w v h' ((execOp ρ o).run P w):=by
 obtain⟨z,hz,hza,_⟩:=(hT e ti hti).run_zero (w:=w)
 obtain⟨a1,a2⟩:=jn6 (hza A φ)
 obtain⟨φ',s,r,e1,rfl,_⟩:=jeq k hv (jgy z.cells e) a1 (fun _=>jko (hza A φ)) a2
 refine⟨.value (.pointer (some ⟨w.heap.size,0,none⟩)),.pointer (some ⟨w.heap.size,0,none⟩),_,φ',?_,rfl,s,r,⟨_,e1,rfl⟩⟩
 simp only[execOp,ho,Instr.alloc,Sem.run_bind,hz,Result.andThen_ok,jit,Sem.run_pure]
theorem qhy {o:Oper} (hE:jkh A φ π loc st fr o.op.operands.toList ρ) (k:Rel A φ h w) {e:TypeId} {x:Operand} {y:Od} (ho:o.op=.box e x) (hy:cO π loc x=some y) (hv:qox st fr h e y=some (v,h')) :
 jb3 A (fun _=>False) φ h w v h' ((execOp ρ o).run P w):=by
 obtain⟨u,hu,hv1⟩:=jaa.1 hv
 obtain⟨cs,hv1,ha⟩:=(hE _ (by rw[ho];simp[Op.operands]) _ _ hy hu).cells hv1
 obtain⟨a1,a2⟩:=jn6 ha
 obtain⟨φ',s,r,e1,rfl,_⟩:=jeq k hv1 (jgy (ρ x).cells e) a1 (fun _=>jko ha) a2
 refine⟨.value (.pointer (some ⟨w.heap.size,0,none⟩)),.pointer (some ⟨w.heap.size,0,none⟩),_,φ',?_,rfl,s,r,⟨_,e1,rfl⟩⟩
 simp only[execOp,ho,Instr.box,Sem.run_bind,Result.andThen_ok,jit,Sem.run_pure]
theorem jl3 {z:Array Value} (ha:All2 (cS A φ) zs z.toList) (h0:zs.length≠0) (n m:Nat) (hm:m=n*z.size):All2 (cS A φ) (rep zs n) ((Array.range m).map (z[· % z.size]!)).toList:=by
 subst hm
 have hl:=ha.len
 simp only[f2g] at hl
 refine All2.of_get (by rw[jti];simp[hl]) ?_
 intro i a b hi hb
 have hin:i<n*zs.length:=by
  rcases f0h i (n*zs.length) with h | h
  .exact h
  .rw [f0p (by rw[jti];omega)] at hi;cases hi
 rw[j6p zs n i hin] at hi
 obtain⟨v,hv,hc⟩:=ha.get _ _ hi
 rw[f02] at hv hb
 rw[hl] at hv hin
 rw[Array.getElem?_map,Array.getElem?_range] at hb
 rw[if_pos hin] at hb
 simp only[f1p,Option.some.injEq] at hb
 rw[←hb,getElem!_def,hv]
 exact hc
theorem j4y (hT:Tys P T) {o:Oper} (hE:jkh A φ π loc st fr o.op.operands.toList ρ) (k:Rel A φ h w) {t:TypeId} {ps:Array (Nat×Operand)} (ho:o.op=.buildSlice t n ps) {z:TypeId×TI} (hz:jbw T t=some z) (hn:Nat.ble (n*z.2.size) 16777216=true)
 {l:List (Nat×Nat×Od)} (hl:jh3 π loc (fun i=>some (i*z.2.size,z.2.size)) ps.toList=some l) {v:AV} (hv:j13 st fr h z.1 z.2.size (rep z.2.zero n) n l=some (v,h')) :
 jb3 A (fun _=>False) φ h w v h' ((execOp ρ o).run P w):=by
 obtain⟨k1,k2,k3⟩:=jbl hT hz
 obtain⟨zv,hzv,hza,hzl⟩:=k2.run_zero (w:=w)
 have hzs:zv.cells.size=z.2.size:=by have:=(hza A φ).len;simp at this;omega
 obtain⟨cs,hcs,hv1⟩:=jaa.1 hv
 have hble:=f0g hn
 have hb:=jl3 (hza A φ) (by omega) n (n*z.2.size) (by rw[hzs])
 obtain⟨arr',h1,h2⟩:=jiq hE ps.toList l _ cs _ (fun p hp=>by rw[ho];simp[Op.operands];exact⟨p.1,by simpa using hp⟩) hl hcs hb
 obtain⟨a1,a2⟩:=jn6 h2
 obtain⟨φ',s,r,e1,rfl,_⟩:=jeq k hv1 (jgy arr' z.1) a1 (fun _=>jko h2) a2
 have hps:(ps.map (fun x=>(x.1,ρ x.2))).toList=ps.toList.map (fun p=>(p.1,ρ p.2)):=by simp
 have hsz:arr'.size=n*z.2.size:=by
  have l1:=h2.len
  have:∀ (l:List (Nat×Nat×Od)) (cs cs':List SV),fill st fr l cs=some cs'->cs'.length=cs.length:=by
   intro l
   induction l with
   | nil=>intro cs cs' h;cases (show some cs=some cs' from h);rfl
   | cons p l ih =>
    obtain⟨off,m,y⟩:=p
    intro cs cs' h
    obtain⟨v,hv1,h3⟩:=jaa.1 (show ob (ev st fr y) (fun v=>cel v (fun xs=>oif (Nat.beq (jb2 xs) m) (ob (jbv off xs cs) (fill st fr l)) none))=some cs' from h)
    have:∃ xs,oif (Nat.beq (jb2 xs) m) (ob (jbv off xs cs) (fill st fr l)) none=some cs':=by
     cases v with
     | s x=>exact⟨_,h3⟩
     | agg l=>exact⟨_,h3⟩
     | _=>cases h3
    obtain⟨xs,h4⟩:=this
    obtain⟨_,h5⟩:=jab.1 h4
    obtain⟨c1,h6,h7⟩:=jaa.1 h5
    obtain⟨h8,rfl⟩:=(jf7 _).1 h6
    rw[ih _ _ h7]
    simp;omega
  have l2:=this _ _ _ hcs
  rw[jti,hzl] at l2
  simp at l1
  omega
 refine⟨.value (.slice (some ⟨w.heap.size,0,none⟩) n n),.slice (some ⟨w.heap.size,0,none⟩) n n,_,φ',?_,rfl,s,r,⟨_,_,_,e1,rfl,f0d _,f0d _,fun _=>rfl,.inl ⟨by simp,by simp[hsz]⟩⟩⟩
 have hgt:¬ (n*z.2.size>2 ^ 24):=by omega
 by_cases h0:n*z.2.size=0
 .have hn0:n=0:=by rcases Nat.mul_eq_zero.1 h0 with h | h<;>omega
  have hr0:(Array.range (n*z.2.size)).map (zv.cells[· % zv.cells.size]!)=#[]:=by rw[h0];simp
  rw[hr0] at h1
  subst hn0
  have hgt':¬ (0>2 ^ 24):=by decide
  have hr1:(Array.range 0).map (fun x=>(#[]:Array Value)[x % (#[]:Array Value).size]!)=#[]:=by simp
  simp only[execOp,ho,Instr.buildSlice,Sem.run_bind,run_underlying k1,Result.andThen_ok,k2.run_size,f16,hgt',if_false,if_true,Sem.run_pure,hps,hr1,h1]
  simp[newRow]
 .simp only[execOp,ho,Instr.buildSlice,Sem.run_bind,run_underlying k1,Result.andThen_ok,k2.run_size,hgt,if_false,h0,Sem.run_pure,hps,hzv]
  rw[h1]
  simp[newRow]
theorem jzl (hT:Tys P T) {o:Oper} (hE:jkh A φ π loc st fr o.op.operands.toList ρ) (k:Rel A φ h w) {t:TypeId} {l c:Operand} (ho:o.op=.makeSlice t l c) {z:TypeId×TI} (hz:jbw T t=some z)
 {l' c':Od} (hl:cO π loc l=some l') (hc:cO π loc c=some c') {v:AV} (hv:jgr st fr h z.1 z.2.size z.2.bytes z.2.zero l' c'=some (v,h')) :
 jb3 A (fun _=>False) φ h w v h' ((execOp ρ o).run P w):=by
 obtain⟨k1,k2,k3⟩:=jbl hT hz
 obtain⟨i,zv,d,q1,q2,q3,q4,hza,_,_,_,hzl⟩:=k2.ex
 have hzs:zv.cells.size=z.2.size:=by have:=(hza A φ).len;simp at this;omega
 obtain⟨u,hu,hv1⟩:=jaa.1 hv
 obtain⟨u',hu',hv2⟩:=jaa.1 hv1
 obtain⟨m,rfl,hv3⟩:=jfi hv2
 obtain⟨n,rfl,hv4⟩:=jfi hv3
 obtain⟨h1,hv5⟩:=jab.1 hv4
 obtain⟨h2,hv6⟩:=jab.1 hv5
 obtain⟨h3,hv7⟩:=jab.1 hv6
 have hmn:=f0g h1
 have hb:z.2.bytes*n<=1000000000:=f0g h2
 have hn:=f0g h3
 have e1:ρ l=.int .i64 (m:Int):=hE _ (by rw[ho];simp[Op.operands]) _ _ hl hu
 have e2:ρ c=.int .i64 (n:Int):=hE _ (by rw[ho];simp[Op.operands]) _ _ hc hu'
 have hbytes:(i.bytes:Int)*(n:Int)<=281474976710656:=by
  rw[q4,←Int.natCast_mul];omega
 have hr:=run_make (P:=P) w t z.1 i zv k1 q1 q2 .i64 .i64 m n (by omega) (by omega) hbytes (by omega)
 simp only[f1m] at hr
 have hm:=jl3 (hza A φ) (by omega) n (n*i.size) (by rw[hzs,q3])
 obtain⟨a1,a2⟩:=jn6 hm
 obtain⟨φ',s,r,e3,rfl,_⟩:=jeq k hv7 (Grown.alloc w (madeCells zv.cells (n*i.size)) z.1) a1 (fun _=>jko hm) a2
 refine⟨.value (.slice (some ⟨w.heap.size,0,none⟩) m n),.slice (some ⟨w.heap.size,0,none⟩) m n,_,φ',?_,rfl,s,r,⟨_,_,_,e3,rfl,f0d _,hmn,fun _=>rfl,.inl ⟨by simp,?_⟩⟩⟩
 .simp only[execOp,ho,e1,e2,Sem.run_bind,hr,Result.andThen_ok,Sem.run_pure]
 .simp [size_madeCells,q3]
theorem qco (hT:Tys P T) {o:Oper} (hE:jkh A φ π loc st fr o.op.operands.toList ρ) (k:Rel A φ h w) {t:TypeId} {x:Operand} (ho:o.op=.load t x) {ti:TI} (hti:jh1 T t=some ti) (h1:ti1 ti=true)
 {y:Od} (hy:cO π loc x=some y) {v:AV} (hv:jj8 st fr h ti.size ti.agg y=some (v,h')) :
 h'=h/\∃ rv,(execOp ρ o).run P w=.ok (.value rv) w/\cV A φ v rv:=by
 have kt:=hT t ti hti
 obtain⟨u,hu,hv1⟩:=jaa.1 hv
 have src:∃ b o cs v' vs,ρ x=.pointer (some ⟨b,o,none⟩)/\jfg ti.agg cs=some v'/\ok v' h=some (v,h')/\All2 (cS A φ) cs vs/\vs.length=ti.size/\∀ (j:Nat) (u:Value),vs[j]?=some u->w.cell? ⟨b,o+j,none⟩=some u:=by
  rcases jb6 hv1 with⟨b,off,rfl,hv2⟩ | ⟨cs0,rfl,hv2⟩
  .obtain ⟨cs,hcs,hv3⟩:=jaa.1 hv2
   obtain⟨v',hv',hv4⟩:=jaa.1 hv3
   obtain⟨L,hL,hρ⟩:=(show jnf φ b off (ρ x) from hE _ (by rw[ho];simp[Op.operands]) _ _ hy hu)
   obtain⟨L',vs,e1,_,e2,e3,e4⟩:=je4 k hcs
   rw[hL] at e1
   cases e1
   exact⟨_,_,cs,v',vs,hρ,hv',hv4,e2,e3,e4⟩
  .obtain ⟨cs,hcs,hv3⟩:=jaa.1 hv2
   obtain⟨v',hv',hv4⟩:=jaa.1 hv3
   obtain⟨b,o,c,q1,hρ,q2⟩:=(show cS A φ (.cp cs0) (ρ x) from hE _ (by rw[ho];simp[Op.operands]) _ _ hy hu)
   obtain⟨hl,rfl⟩:=(ja5 _).1 hcs
   obtain⟨vs,a1,a2,a3⟩:=jsj (R:=cD A φ.k) (cells:=cs0.take ti.size) (c:=c) (o:=o) (fun j x hx=>q2 j x (by
    rw[f15] at hx
    split at hx
    .exact hx
    .cases hx))
   obtain⟨ty,hc⟩:=k.con b c q1
   refine⟨b,o,_,v',vs,hρ,hv',hv4,a1.mono (fun _ _ h=>h.toS),by rw[a2,f10];omega,fun j u hj=>?_⟩
   simp only[World.cell?,hc]
   exact a3 j u hj
 obtain⟨b,o',cs,v',vs,hρ,hv',hv4,e2,e3,e4⟩:=src
 cases hv4
 refine⟨rfl,?_⟩
 rcases jgu hv' with⟨e,rfl⟩ | ⟨e,s,rfl,rfl⟩
 .refine ⟨.agg vs.toArray,?_,vs,rfl,e2⟩
  have hl:=run_loadCells_list (P:=P) w ⟨b,o',none⟩ vs (fun j u hj=>by rw[jb1];exact e4 j u hj)
  rw[e3] at hl
  simp only[execOp,ho,Instr.loadAt,Instr.sureAddr,hρ,Sem.run_bind,Sem.run_pure,Result.andThen_ok,loadVar,kt.run_agg,e,if_true,kt.run_size,hl]
 .cases e2 with
  | @cons _ rv _ rest hc _ =>
   refine⟨rv,?_,hc⟩
   have h4:=e4 0 rv rfl
   rw[f1i] at h4
   simp only[execOp,ho,Instr.loadAt,Instr.sureAddr,hρ,Sem.run_bind,Sem.run_pure,Result.andThen_ok,loadVar,kt.run_agg,e,f0v,if_false,run_load,h4]
theorem j60 (hT:Tys P T) {o:Oper} (hE:jkh A φ π loc st fr o.op.operands.toList ρ) (k:Rel A φ h w) {t:TypeId} {x y:Operand} (ho:o.op=.store t x y) {ti:TI} (hti:jh1 T t=some ti)
 {x' y':Od} (hx:cO π loc x=some x') (hy:cO π loc y=some y') {v:AV} (hv:jzb st fr h ti.size x' y'=some (v,h')) :
 jb3 A (jzk h (jcj st fr (.a (.store ti.size x' y')))) φ h w v h' ((execOp ρ o).run P w)/\jb3 A (fun n=>h.lo<=n) φ h w v h' ((execOp ρ o).run P w):=by
 have kt:=hT t ti hti
 obtain⟨p,hp,hv1⟩:=jaa.1 hv
 obtain⟨u,hu,hv2⟩:=jaa.1 hv1
 obtain⟨b,off,rfl,hv3⟩:=jkf hv2
 obtain⟨cs,hv3,ha⟩:=(hE _ (by rw[ho];simp[Op.operands]) _ _ hy hu).cells hv3
 obtain⟨hl,hv4⟩:=jab.1 hv3
 obtain⟨h1,hw,hv5⟩:=jaa.1 hv4
 cases hv5
 rw[jgt,ja7] at hl
 obtain⟨L,hL,hρ⟩:=(show jnf φ b off (ρ x) from hE _ (by rw[ho];simp[Op.operands]) _ _ hx hp)
 obtain⟨hlo,_⟩:=jjh hw
 obtain⟨L',c,ty,e1,_,e2,e3,e4⟩:=k.put hw ha
 rw[hL] at e1
 cases e1
 have hst:=run_storeCells_at P L.b (L.o+off) ty (ρ y).cells.toList 0 c w e2 (by simpa using e3) (jir ha)
 obtain⟨s,r⟩:=e4 _ (Changed.row e2 _)
 have hcls:jcj st fr (.a (.store ti.size x' y'))=.app b:=by
  show jtg (ob (ev st fr x') (fun v=>jws v (fun b _=>some b))) .app=_
  rw[hp];rfl
 have hm:jb3 A (fun n=>n=b) φ h w .undef h' ((execOp ρ o).run P w):=by
  refine⟨.skip,undef,_,φ,?_,rfl,s,r,rfl⟩
  have hsz:(ρ y).cells.size=ti.size:=by have:=ha.len;simp at this;omega
  simp only[execOp,ho,Instr.storeAt,Instr.sureAddr,hρ,Sem.run_bind,Sem.run_pure,Result.andThen_ok,storeVar,kt.run_size,hsz,ne_eq,not_true_eq_false,if_false,hst,f1i]
 rw[hcls]
 exact⟨hm,hm.mono (fun n e=>by subst e;exact hlo)⟩
theorem j4z (t ty e:TypeId) (i:TypeInfo) (ht:P.underlying t=some (.slice e)) (hi:P.info? e=some i)
 (b off n cap:Nat) (cur:Array Value) (ety:TypeId) (hg:w.heap[b]?=some (.cells cur ety (0,0)))
 (a:Addr) (m c:Nat) (news:List Value) (hl:news.length=m*i.size) (hnews:∀ j u,news[j]?=some u->w.cell? (a.add j)=some u) (h1:∀ u∈news,u.oneCell'=true)
 (hroom:n+m<=cap) (hfit:off+n*i.size+news.length<=cur.size) :
 (Builtin.append_ #[t,t] ty #[.slice (some ⟨b,off,none⟩) n cap,.slice (some a) m c]).run P w =
  .ok (.slice (some ⟨b,off,none⟩) (n+m) cap) (w.setRow b (cur.toList.take (off+n*i.size)++news++cur.toList.drop (off+n*i.size+news.length)).toArray):=by
 have hf:=run_firstCells_some (P:=P) w i.size m a m c news hl hnews
 have hst:=run_storeCells_at P b (off+n*i.size) ety news 0 cur w hg (by simpa using hfit) h1
 simp only[f1i] at hst
 simp[Builtin.append_,run_underlying ht,sizeOf,typeInfo,hi,Builtin.lenOf,hroom,hf,jb1,hst]
theorem jnj (t ty e:TypeId) (i:TypeInfo) (ht:P.underlying t=some (.slice e)) (hi:P.info? e=some i) (A0:Option Addr) (n cap:Nat) (hn:n<=cap) (B:Option Addr) (c:Nat) :
 (Builtin.append_ #[t,t] ty #[.slice A0 n cap,.slice B 0 c]).run P w=.ok (.slice A0 n cap) w:=by
 have hf:(Builtin.firstCells i.size 0 (.slice B 0 c)).run P w=.ok #[] w:=by
  cases B with
  | none=>rfl
  | some b=>simp[Builtin.firstCells,loadCells,loadCellsFrom]
 cases A0<;>simp[Builtin.append_,run_underlying ht,sizeOf,typeInfo,hi,Builtin.lenOf,hn,hf,storeCells]
theorem jfk {o:Oper} {args:Array Operand} {t:TypeId} (ho:o.op=.call ⟨.builtin .append,args,#[t,t]⟩) {x y:Operand} (hargs:args.toList=[x,y]) {rv:Value}
 (hr:(Builtin.append_ #[t,t] o.type #[ρ x,ρ y]).run P w=.ok rv w'):(execOp ρ o).run P w=.ok (.value rv) w':=by
 have e:args.map ρ=#[ρ x,ρ y]:=by rw[←f1x,f2d,hargs];rfl
 simp only[execOp,ho,resolve,invoke,builtin,Sem.run_bind,Sem.run_pure,Result.andThen_ok,e,hr]
theorem jnk {b:Nat} {c:Array Value} {ty:TypeId} (hb:w.heap[b]?=some (.cells c ty (0,0))) {k:Nat} (hn:n=0) :
 Changed w w b (c.toList.take k++[]++c.toList.drop (k+n)).toArray ty:=by
 subst hn
 refine⟨rfl,rfl,rfl,rfl,fun _ _=>rfl,?_⟩
 rw[hb]
 simp
noncomputable def slB (u:AV):Option Nat:=jhv u none (fun b _ _ _ _ _=>some b)
structure AppRuns (w:World) (E:TypeId) (i:TypeInfo) (zv:Value) (m:Nat) (news:List Value) (x:Value) (r:Result Next):Prop where
 zero:m=0->∀ A0 n cap,x=.slice A0 n cap->n<=cap->r=.ok (.value (.slice A0 n cap)) w
 nil:0<m->m*i.bytes<=281474976710656->(m:Int)<=9223372036854775807->x=.slice none 0 0->r=.ok (.value (.slice (some ⟨w.heap.size,0,none⟩) m (grownCap w m 0 E))) (w.drew.alloc (.cells (news.toArray++Builtin.zeroCells zv.cells (grownCap w m 0 E - m)) E))
 grow:∀ (b:Addr) sLen sCap (olds:List Value),x=.slice (some b) sLen sCap->olds.length=sLen*i.size->(∀ (j:Nat) v,olds[j]?=some v->w.cell? (b.add j)=some v)->sCap<sLen+m->((sLen+m:Nat):Int)<=9223372036854775807 ->
  Builtin.nextslicecap (sLen+m) sCap*i.bytes<=281474976710656->r=.ok (.value (.slice (some ⟨w.heap.size,0,none⟩) (sLen+m) (grownCap w (sLen+m) sCap E))) (w.drew.alloc (.cells (olds.toArray++news.toArray++Builtin.zeroCells zv.cells (grownCap w (sLen+m) sCap E - (sLen+m))) E))
 inn:∀ b off n cap cur (ety:TypeId),x=.slice (some ⟨b,off,none⟩) n cap->w.heap[b]?=some (.cells cur ety (0,0))->n+m<=cap->off+n*i.size+news.length<=cur.size ->
  r=.ok (.value (.slice (some ⟨b,off,none⟩) (n+m) cap)) (w.setRow b (cur.toList.take (off+n*i.size)++news++cur.toList.drop (off+n*i.size+news.length)).toArray)
theorem j2g (k:Rel A φ h w) {E:TypeId} (hEb:E≠bT) {i:TypeInfo} {zv:Value} {bytes:Nat} (q3:i.size=size) (q4:i.bytes=bytes) (hza:All2 (cS A φ) zs zv.cells.toList) (hzl:zs.length=size)
 {u:AV} {xv:Value} (hX:cV A φ u xv) {m:Nat} {new:List SV} {news:List Value} (hnv:All2 (cS A φ) new news) (hnl:news.length=m*size) {rn:Result Next} (Rn:AppRuns w E i zv m news xv rn) {v:AV} (hv5:jlx h E size bytes m u new=some (v,h')) :
 jb3 A (fun n=>slB u=some n) φ h w v h' rn/\jb3 A (fun n=>h.lo<=n) φ h w v h' rn:=by
 have stay:∀ (rv:Value),rn=.ok (.value rv) w->cV A φ v rv->h'=h->jb3 A (fun n=>slB u=some n) φ h w v h' rn/\jb3 A (fun n=>h.lo<=n) φ h w v h' rn:=by
  intro rv hr hcv e
  subst e
  exact⟨⟨_,rv,w,φ,hr,rfl,Step.refl _ k rfl rfl rfl rfl,k,hcv⟩,⟨_,rv,w,φ,hr,rfl,Step.refl _ k rfl rfl rfl rfl,k,hcv⟩⟩
 have hnl':news.length=m*i.size:=by rw[hnl,q3]
 have hone:=jir hnv
 have hnlen:=hnv.len
 rcases jay hv5 with⟨rfl,hv6⟩ | ⟨b,off,n,mc,ex,sz,rfl,hv6⟩ | ⟨rows,rfl,hv6⟩ | ⟨rfl,hv6⟩
 rotate_left 2
 .cases hv6
 ·
  obtain⟨adx,eX⟩:=(show cS A φ .emp xv from hX)
  cases m with
  | zero =>
   cases hv6
   exact stay (.slice (some adx) 0 0) (Rn.zero rfl _ _ _ eX (f0d _)) ⟨adx,rfl⟩ rfl
  | succ m =>
   obtain⟨hb,hv7⟩:=jab.1 (show oif (Nat.ble (Nat.mul (m+1) bytes) 140737488355328) (oif (Nat.ble (m+1) 140737488355328) (nw h new E (fun k h=>ok (.s (.slice k 0 (m+1) (m+1) false size)) h)) none) none=some (v,h') from hv6)
   obtain⟨hm,hv8⟩:=jab.1 hv7
   have hb':(m+1)*bytes<=140737488355328:=f0g hb
   have hm':=f0g hm
   have hr:=Rn.grow adx 0 0 [] eX (by simp) (by simp) (by omega) (by omega) (growslice_fits (by omega) (by rw[q4,f0z];omega))
   rw[f0z] at hr
   have hcap:=grownCap_ge w (m+1) 0 E
   have hzs:zv.cells.size=size:=by have:=hza.len;simp at this;omega
   obtain⟨φ',s,r,e1,rfl,_⟩:=jeq k hv8 (Grown.drew w ([].toArray++news.toArray++Builtin.zeroCells zv.cells (grownCap w (m+1) 0 E - (m+1))) E) (by simp;omega) (fun e=>absurd e hEb)
    (fun i sv hi=>by
     obtain⟨u,h1,h2⟩:=hnv.get i sv hi
     refine⟨u,?_,h2⟩
     have hlt:=(f0x.1 h1).1
     rw[f13 (by simpa using hlt)]
     simpa using h1)
   have fin:rn=.ok (.value (.slice (some ⟨w.heap.size,0,none⟩) (m+1) (grownCap w (m+1) 0 E))) _:=hr
   have hcs:cV A φ' (.s (.slice h.next 0 (m+1) (m+1) false size)) (.slice (some ⟨w.heap.size,0,none⟩) (m+1) (grownCap w (m+1) 0 E)):=by
    refine⟨_,_,_,e1,rfl,hcap,f0d _,(fun h=>nomatch h),.inl ⟨by simp,?_⟩⟩
    simp only[Array.size_append,f3e,f1b,size_zeroCells,hnl',hzs,q3,f0z]
    rw[←f28,Nat.add_sub_cancel' hcap]
    omega
   exact⟨⟨_,_,_,φ',fin,rfl,s.mono (fun _ h=>h.elim),r,hcs⟩,⟨_,_,_,φ',fin,rfl,s.mono (fun _ h=>h.elim),r,hcs⟩⟩
 ·
  have eX:xv=.slice none 0 0:=hX
  cases m with
  | zero =>
   cases hv6
   exact stay (.slice none 0 0) (Rn.zero rfl _ _ _ eX (f0d _)) rfl rfl
  | succ m =>
   obtain⟨hb,hv7⟩:=jab.1 (show oif (Nat.ble (Nat.mul (m+1) bytes) 140737488355328) (oif (Nat.ble (m+1) 140737488355328) (nw h new E (fun k h=>ok (.s (.slice k 0 (m+1) (m+1) false size)) h)) none) none=some (v,h') from hv6)
   obtain⟨hm,hv8⟩:=jab.1 hv7
   have hb':(m+1)*bytes<=140737488355328:=f0g hb
   have hm':=f0g hm
   have hr:=Rn.nil (by omega) (by rw[q4];omega) (by omega) eX
   have hcap:=grownCap_ge w (m+1) 0 E
   have hzs:zv.cells.size=size:=by have:=hza.len;simp at this;omega
   obtain⟨φ',s,r,e1,rfl,_⟩:=jeq k hv8 (Grown.drew w (news.toArray++Builtin.zeroCells zv.cells (grownCap w (m+1) 0 E - (m+1))) E) (by simp;omega) (fun e=>absurd e hEb)
    (fun i sv hi=>by
     obtain⟨u,h1,h2⟩:=hnv.get i sv hi
     refine⟨u,?_,h2⟩
     have hlt:=(f0x.1 h1).1
     rw[f13 (by simpa using hlt)]
     simpa using h1)
   have fin:rn=.ok (.value (.slice (some ⟨w.heap.size,0,none⟩) (m+1) (grownCap w (m+1) 0 E))) _:=hr
   have hcs:cV A φ' (.s (.slice h.next 0 (m+1) (m+1) false size)) (.slice (some ⟨w.heap.size,0,none⟩) (m+1) (grownCap w (m+1) 0 E)):=by
    refine⟨_,_,_,e1,rfl,hcap,f0d _,(fun h=>nomatch h),.inl ⟨by simp,?_⟩⟩
    simp only[Array.size_append,f3e,size_zeroCells,hnl',hzs,q3]
    rw[←f28,Nat.add_sub_cancel' hcap]
    omega
   exact⟨⟨_,_,_,φ',fin,rfl,s.mono (fun _ h=>h.elim),r,hcs⟩,⟨_,_,_,φ',fin,rfl,s.mono (fun _ h=>h.elim),r,hcs⟩⟩
 .obtain ⟨L,ad,cap,p1,p2,p3,p4,p5,p6⟩:=(show cS A φ (.slice b off n mc ex sz) xv from hX)
  have hcls:slB (.s (.slice b off n mc ex sz))=some b:=rfl
  rw[hcls]
  obtain⟨hsz,hv9⟩:=jab.1 hv6
  obtain rfl:=(f0i hsz).symm
  rw[jap] at hv9
  split at hv9
  ·
   rename_i hroom
   have hroom':n+m<=mc:=f0g hroom
   obtain⟨h1,hw,hv10⟩:=jaa.1 hv9
   cases hv10
   obtain⟨hlo,_⟩:=jjh hw
   obtain⟨L',c,ty,e1,_,e2,e3,e4⟩:=k.put hw hnv
   rw[p1] at e1
   cases e1
   have e3':L.o+(off+n*size)+news.length<=c.size:=e3
   have fin:∃ w',rn=.ok (.value (.slice (some ad) (n+m) cap)) w'/\Changed w w' L.b (c.toList.take (L.o+(off+n*size))++news++c.toList.drop (L.o+(off+n*size)+news.length)).toArray ty:=by
    rcases p6 with⟨rfl,p7⟩ | p6
    .refine ⟨_,Rn.inn L.b (L.o+off) n cap c ty p2 e2 (by omega) (by rw[q3];omega),?_⟩
     rw[q3,f1r]
     exact Changed.row e2 _
    .have hm0:m=0:=by omega
     have hn0:n=0:=by omega
     subst hm0 hn0
     have hnil:news=[]:=f1n (by rw[hnl',f16])
     refine⟨w,Rn.zero rfl _ _ _ p2 (by omega),?_⟩
     rw[hnil]
     exact jnk e2 rfl
   obtain⟨w',fin,hch⟩:=fin
   obtain⟨s,r⟩:=e4 w' hch
   have hcs:cV A φ (.s (.slice b off (n+m) mc ex size)) (.slice (some ad) (n+m) cap):=⟨L,ad,cap,p1,rfl,p3,hroom',p5,p6⟩
   exact⟨⟨_,_,w',φ,fin,rfl,s.mono (fun n e=>congrArg some e.symm),r,hcs⟩,⟨_,_,w',φ,fin,rfl,s.mono (fun n e=>by subst e;exact hlo),r,hcs⟩⟩
  .rename_i hroom
   have hroom':mc<n+m:=by
    rcases f0h mc (n+m) with h | h
    .exact h
    .exact absurd ((jtj _ _).symm▸h:Nat.ble (Nat.add n m) mc=true) hroom
   obtain⟨hb,hv11⟩:=jab.1 (show oif (Nat.ble (Nat.mul (Nat.add n m) bytes) 140737488355328) (oif (Nat.ble (Nat.add n m) 140737488355328) (jlw h E size b off n m ex new) none) none=some (v,h') from hv9)
   obtain⟨hm,hv12⟩:=jab.1 hv11
   have hb':(n+m)*bytes<=140737488355328:=f0g hb
   have hm':n+m<=140737488355328:=f0g hm
   obtain⟨ab,hab,hv13⟩:=jaa.1 hv12
   cases ab with
   | map va es=>cases hv13
   | arr cs ty =>
   obtain⟨old,hold,hv14⟩:=jaa.1 (show ob (jbp (Nat.mul n size) (jb4 off cs)) (fun old=>Bool.rec (motive:=fun _=>R)
    (oif (Nat.ble h.lo b) (oif (Nat.beq ty E) (nw (h.put b none) (jgp old new) E (fun k h=>ok (.s (.slice k 0 (Nat.add n m) (Nat.add n m) false size)) h)) none) none)
    (nw h (jgp old new) E (fun k h=>ok (.s (.slice k 0 (Nat.add n m) (Nat.add n m) false size)) h)) ex)=some (v,h') from hv13)
   have hrd:rd h b off (Nat.mul n size)=some old:=by
    show ob (h.get b) _=_
    rw[hab];exact hold
   obtain⟨L',olds,e1,hgs,hov,hol,hocells⟩:=je4 k hrd
   rw[p1] at e1
   cases e1
   have hol':olds.length=n*i.size:=by rw[hol,q3];rfl
   have holen:=hov.len
   have hocells':∀ j u,olds[j]?=some u->w.cell? (ad.add j)=some u:=by
    intro j u hj
    rcases p6 with⟨rfl,_⟩ | p6
    .rw [jb1];exact hocells j u hj
    .have:olds=[]:=f1n (by rw[hol'];have:n=0:=by omega
                           rw[this,f16])
     rw[this] at hj;cases hj
   have hzs:zv.cells.size=size:=by have:=hza.len;simp at this;omega
   rw[jc8] at hv14
   have hon:=hov.append hnv
   have hsm:(n+m)*i.bytes<=140737488355328:=by rw[q4];omega
   have grow:cap<n+m->∃ w1,Grown w w1 (olds.toArray++news.toArray++Builtin.zeroCells zv.cells (grownCap w (n+m) cap E - (n+m))) E /\
    rn=.ok (.value (.slice (some ⟨w.heap.size,0,none⟩) (n+m) (grownCap w (n+m) cap E))) w1:=by
    intro hg
    exact⟨_,Grown.drew w _ E,Rn.grow ad n cap olds p2 hol' hocells' hg (by omega) (growslice_fits hg hsm)⟩
   have hlen:(old++new).length=(n+m)*size:=by
    rw[f0k,holen,hnlen,hol,hnl];exact(f28 _ _ _).symm
   have hget:∀ (c:Array Value) (j:Nat) sv,(old++new)[j]?=some sv->∃ u,(olds.toArray++news.toArray++c)[j]?=some u/\cS A φ sv u:=by
    intro c j sv hj
    obtain⟨u,h1,h2⟩:=hon.get j sv hj
    have hlt:=(f0x.1 h1).1
    refine⟨u,?_,h2⟩
    rw[f13 (by simpa using hlt)]
    rw[←f20] at h1
    simpa using h1
   have hcap:=grownCap_ge w (n+m) cap E
   have hsize:(olds.toArray++news.toArray++Builtin.zeroCells zv.cells (grownCap w (n+m) cap E - (n+m))).size=grownCap w (n+m) cap E*size:=by
    simp only[Array.size_append,f3e,size_zeroCells,hol',hnl',hzs,q3]
    rw[←f28,←f28,Nat.add_sub_cancel' hcap]
   have hle:(n+m)*size<=grownCap w (n+m) cap E*size:=Nat.mul_le_mul_right _ hcap
   cases ex with
   | true =>
    have hcm:=p5 rfl
    obtain⟨w1,g,fin⟩:=grow (by omega)
    obtain⟨φ',s,r,e1,rfl,_⟩:=jeq k (show nw h (old++new) E (fun k h=>ok (.s (.slice k 0 (Nat.add n m) (Nat.add n m) false size)) h)=some (v,h') from hv14) g (by rw[hlen,hsize];exact hle) (fun e=>absurd e hEb) (hget _)
    have hcs:cV A φ' (.s (.slice h.next 0 (n+m) (n+m) false size)) (.slice (some ⟨w.heap.size,0,none⟩) (n+m) (grownCap w (n+m) cap E)) :=
     ⟨_,_,_,e1,rfl,hcap,f0d _,(fun h=>nomatch h),.inl ⟨by simp,by rw[hsize];simp⟩⟩
    exact⟨⟨_,_,_,φ',fin,rfl,s.mono (fun _ h=>h.elim),r,hcs⟩,⟨_,_,_,φ',fin,rfl,s.mono (fun _ h=>h.elim),r,hcs⟩⟩
   | false =>
    obtain⟨hlo,hv15⟩:=jab.1 (show oif (Nat.ble h.lo b) (oif (Nat.beq ty E) (nw (h.put b none) (old++new) E (fun k h=>ok (.s (.slice k 0 (Nat.add n m) (Nat.add n m) false size)) h)) none) none=some (v,h') from hv14)
    obtain⟨hty,hv16⟩:=jab.1 hv15
    have hlo':h.lo<=b:=f0g hlo
    obtain rfl:E=ty:=(f0i hty).symm
    by_cases hg:cap<n+m
    .obtain ⟨w1,g,fin⟩:=grow hg
     obtain⟨s1,r1⟩:=k.kill hgs
     obtain⟨φ',s,r,e1,rfl,_⟩:=jeq r1 hv16 g (by rw[hlen,hsize];exact hle) (fun e=>absurd e hEb) (hget _)
     rw[Hp.next_put] at e1
     have s2:=s1.trans (s.mono (V:=fun n=>n=b) (fun _ h=>h.elim))
     have hcs:cV A φ' (.s (.slice (h.put b none).next 0 (n+m) (n+m) false size)) (.slice (some ⟨w.heap.size,0,none⟩) (n+m) (grownCap w (n+m) cap E)):=by
      rw[Hp.next_put]
      exact⟨_,_,_,e1,rfl,hcap,f0d _,(fun h=>nomatch h),.inl ⟨by simp,by rw[hsize];simp⟩⟩
     exact⟨⟨_,_,_,φ',fin,rfl,s2.mono (fun n e=>congrArg some e.symm),r,hcs⟩,⟨_,_,_,φ',fin,rfl,s2.mono (fun n e=>by subst e;exact hlo'),r,hcs⟩⟩
    ·
     have hcap0:0<cap:=by omega
     rcases p6 with⟨rfl,p7⟩ | p6
     rotate_left
     .omega
     obtain⟨L',c,e1,hc1,hc2,hc3,hc4⟩:=k.blk b _ hab
     rw[p1] at e1
     cases e1
     obtain⟨hn1,hn2,hv17⟩:=jtm hv16
     cases hv17
     rw[Hp.next_put] at hn1 hn2
     rw[Hp.hid_put] at hn2
     have hmul:(n+m)*size<=cap*size:=Nat.mul_le_mul_right _ (by omega)
     rw[f28] at hmul
     have hnl2:news.length=m*size:=hnl
     have hfin:=Rn.inn L.b (L.o+off) n cap c _ p2 hc1 (by omega) (by rw[q3];omega)
     rw[q3] at hfin
     obtain⟨s,r⟩:=k.app hab p1 hc2 hn1 hn2 (Changed.row hc1 (c.toList.take (L.o+off+n*size)++news++c.toList.drop (L.o+off+n*size+news.length)).toArray) (by simp;omega) (L.o+off) (cs:=old++new) (by rw[hlen,f28];omega) hEb
      (fun j sv hj=>by
       rw[f2s] at hj
       simp only[f20,f0l]
       split at hj
       .rename_i hlt
        obtain⟨u,h1,h2⟩:=hov.get j sv hj
        refine⟨u,?_,h2⟩
        have h3:=hocells j u h1
        simp only[World.cell?,hc1] at h3
        have hlt':j<n*size:=by rw[holen,hol] at hlt;exact hlt
        rw[f0t (by simp;omega),f17 (by omega)]
        simpa using h3
       .rename_i hge
        obtain⟨u,h1,h2⟩:=hnv.get _ sv hj
        refine⟨u,?_,h2⟩
        have hlt:=(f0x.1 h1).1
        have hge':n*size<=j:=by rw[holen,hol] at hge;exact Nat.le_of_not_lt hge
        have hol2:old.length=n*size:=by rw[holen,hol];rfl
        rw[f0u (by simp;omega),f0t (by simp;omega),←h1]
        congr 1
        simp
        omega)
     have hcs:cV A (φ.add h.next ⟨L.b,L.o+off,L.lim⟩) (.s (.slice (h.put b none).next 0 (n+m) (n+m) false size)) (.slice (some ⟨L.b,L.o+off,none⟩) (n+m) cap):=by
      rw[Hp.next_put]
      exact⟨_,_,cap,Phi.add_same _ _ _,rfl,by omega,f0d _,(fun h=>nomatch h),.inl ⟨by simp,by simp;omega⟩⟩
     exact⟨⟨_,_,_,_,hfin,rfl,s.mono (fun n e=>congrArg some e.symm),r,hcs⟩,⟨_,_,_,_,hfin,rfl,s.mono (fun n e=>by subst e;exact hlo'),r,hcs⟩⟩
theorem qhz (hT:Tys P T) {o:Oper} (hE:jkh A φ π loc st fr o.op.operands.toList ρ) (k:Rel A φ h w) {args:Array Operand} {t:TypeId} (ho:o.op=.call ⟨.builtin .append,args,#[t,t]⟩) {z:TypeId×TI} (hz:jbw T t=some z) (hEb:z.1≠bT)
 {x y:Operand} (hargs:args.toList=[x,y]) {x' y':Od} (hx:cO π loc x=some x') (hy:cO π loc y=some y') {v:AV} (hv:qhm st fr h z.1 z.2.size z.2.bytes x' y'=some (v,h')) :
 jb3 A (fun n=>match jcj st fr (.a (.app z.1 z.2.size z.2.bytes x' y')) with | .app b=>n=b | _=>False) φ h w v h' ((execOp ρ o).run P w) /\
 jb3 A (fun n=>h.lo<=n) φ h w v h' ((execOp ρ o).run P w):=by
 obtain⟨k1,k2,k3⟩:=jbl hT hz
 obtain⟨i,zv,d,q1,q2,q3,q4,hza,_,_,_,hzl⟩:=k2.ex
 obtain⟨u,hu,hv1⟩:=jaa.1 hv
 obtain⟨u',hu',hv2⟩:=jaa.1 hv1
 have stay:∀ (rv:Value),(execOp ρ o).run P w=.ok (.value rv) w->cV A φ v rv->h'=h ->
  jb3 A (fun n=>match jcj st fr (.a (.app z.1 z.2.size z.2.bytes x' y')) with | .app b=>n=b | _=>False) φ h w v h' ((execOp ρ o).run P w)/\jb3 A (fun n=>h.lo<=n) φ h w v h' ((execOp ρ o).run P w):=by
  intro rv hr hcv e
  subst e
  exact⟨⟨_,rv,w,φ,hr,rfl,Step.refl _ k rfl rfl rfl rfl,k,hcv⟩,⟨_,rv,w,φ,hr,rfl,Step.refl _ k rfl rfl rfl rfl,k,hcv⟩⟩
 have hX:=hE _ (by rw[ho];exact jb0 (by rw[hargs];simp)) _ _ hx hu
 have hY:=hE _ (by rw[ho];exact jb0 (by rw[hargs];simp)) _ _ hy hu'
 have core:∀ (m:Nat) (new:List SV) (ad':Addr) (cap':Nat) (news:List Value),ρ y=.slice (some ad') m cap'->All2 (cS A φ) new news->news.length=m*z.2.size->(∀ (j:Nat) (u:Value),news[j]?=some u->w.cell? (ad'.add j)=some u) ->
  jlx h z.1 z.2.size z.2.bytes m u new=some (v,h')->jb3 A (fun n=>match jcj st fr (.a (.app z.1 z.2.size z.2.bytes x' y')) with | .app b=>n=b | _=>False) φ h w v h' ((execOp ρ o).run P w)/\jb3 A (fun n=>h.lo<=n) φ h w v h' ((execOp ρ o).run P w):=by
  intro m new ad' cap' news eY hnv hnl hcells hv5
  have hnl':news.length=m*i.size:=by rw[hnl,q3]
  have hone:=jir hnv
  obtain⟨m1,m2⟩:=j2g k hEb q3 q4 (hza A φ) hzl hX hnv hnl (rn:=(execOp ρ o).run P w) (i:=i) (zv:=zv)
   ⟨fun e A0 n cap eX hn=>jfk ho hargs (by subst e;rw[eX,eY];exact jnj t _ _ i k1 q1 A0 n cap hn _ _),
    fun h0 h48 h63 eX=>jfk ho hargs (by rw[eX,eY];exact run_append_nil (P:=P) w t o.type z.1 i zv k1 q1 q2 ad' m cap' news hnl' hcells h0 h63 h48),
    fun b sLen sCap olds eX hlo hoc hg h63 hfit=>jfk ho hargs (by rw[eX,eY];exact run_append_grow (P:=P) w t o.type z.1 i zv k1 q1 q2 b sLen sCap olds hlo hoc ad' m cap' news hnl' hcells hg h63 hfit),
    fun b off n cap cur ety eX hb hroom hfit=>jfk ho hargs (by rw[eX,eY];exact j4z t _ _ i k1 q1 b off n cap cur ety hb ad' m cap' news hnl' hcells hone hroom hfit)⟩ hv5
  refine⟨m1.mono (fun n hn=>?_),m2⟩
  have hcls:jcj st fr (.a (.app z.1 z.2.size z.2.bytes x' y'))=.app n:=by
   show jtg (ob (ev st fr x') (fun v=>jhv v none (fun b _ _ _ _ _=>some b))) .app=_
   rw[hu]
   show jtg (slB u) .app=_
   rw[hn];rfl
  rw[hcls]
 have nothing:∀ (B:Option Addr) (c':Nat),ρ y=.slice B 0 c'->qb7 u (ok u h)=some (v,h')->jb3 A (fun n=>match jcj st fr (.a (.app z.1 z.2.size z.2.bytes x' y')) with | .app b=>n=b | _=>False) φ h w v h' ((execOp ρ o).run P w)/\jb3 A (fun n=>h.lo<=n) φ h w v h' ((execOp ρ o).run P w):=by
  intro B c' eY hv3
  have key:∀ A0 n cap,ρ x=.slice A0 n cap->n<=cap->(execOp ρ o).run P w=.ok (.value (ρ x)) w:=fun A0 n cap e hn=>by
   refine jfk ho hargs ?_
   rw[e,eY]
   exact jnj t _ _ i k1 q1 A0 n cap hn B c'
  rcases jay hv3 with⟨rfl,hv4⟩ | ⟨b,off,n,mc,ex,sz,rfl,hv4⟩ | ⟨rows,rfl,hv4⟩ | ⟨rfl,hv4⟩
  .cases hv4
   exact stay _ (key _ _ _ (show ρ x=.slice none 0 0 from hX) (f0d _)) hX rfl
  .cases hv4
   obtain⟨L,ad,cap,p1,p2,p3,p4,_⟩:=(show cS A φ (.slice b off n mc ex sz) (ρ x) from hX)
   exact stay _ (key _ _ _ p2 (by omega)) hX rfl
  .cases hv4
   obtain⟨ad,cap,p1,p2,_⟩:=je2 (show cD A φ.k (.lst rows) (ρ x) from hX)
   exact stay _ (key _ _ _ p1 p2) hX rfl
  .cases hv4
   obtain⟨ad,p1⟩:=(show cS A φ .emp (ρ x) from hX)
   exact stay _ (key _ _ _ p1 (f0d _)) hX rfl
 rcases jay hv2 with⟨rfl,hv3⟩ | ⟨b',off',m,mc',ex',sz',rfl,hv3⟩ | ⟨rows,rfl,hv3⟩ | ⟨rfl,hv3⟩
 .exact nothing none 0 (show ρ y=.slice none 0 0 from hY) hv3
 .obtain ⟨new,hnew,hv5⟩:=jaa.1 hv3
  obtain⟨ad',cap',news,eY,hnv,hnl,hcells⟩:=jw8 k (show cS A φ (.slice b' off' m mc' ex' sz') (ρ y) from hY) hnew (fun e=>by rw[e];exact f16 _)
  exact core m new ad' cap' news eY hnv hnl hcells hv5
 .obtain ⟨new,hnew,hv5⟩:=jaa.1 hv3
  obtain⟨ad',cap',news,eY,hnv,hnl,hcells⟩:=jis k (show cD A φ.k (.lst rows) (ρ y) from hY) hnew
  rw[ja7] at hv5
  exact core rows.length new ad' cap' news eY hnv hnl hcells hv5
 .obtain ⟨ad,eY⟩:=(show cS A φ .emp (ρ y) from hY)
  exact nothing (some ad) 0 eY hv3
theorem jer {o:Oper} {bi:Builtin} {args:Array Operand} {ts:Array TypeId} (ho:o.op=.call ⟨.builtin bi,args,ts⟩) :
 ∃ cs,(execOp ρ o).run P w=(builtin bi ts o.type cs (args.map ρ)).run P w:=by
 simp only[execOp,ho,resolve,invoke,Sem.run_bind,Sem.run_pure,Result.andThen_ok]
 exact⟨_,rfl⟩
theorem qcp (hT:Tys P T) {o:Oper} (hE:jkh A φ π loc st fr o.op.operands.toList ρ) (k:Rel A φ h w) {args:Array Operand} {ts:Array TypeId} {t:TypeId} (ho:o.op=.call ⟨.builtin .copy,args,ts⟩) (ht:ts[0]?=some t) {z:TypeId×TI} (hz:jbw T t=some z)
 {x y:Operand} (hargs:args.toList=[x,y]) {x' y':Od} (hx:cO π loc x=some x') (hy:cO π loc y=some y') {v:AV} (hv:j6f st fr h z.2.size x' y'=some (v,h')) :
 jb3 A (fun n=>h.lo<=n) φ h w v h' ((execOp ρ o).run P w):=by
 obtain⟨k1,k2,k3⟩:=jbl hT hz
 obtain⟨u,hu,hv1⟩:=jaa.1 hv
 obtain⟨u',hu',hv2⟩:=jaa.1 hv1
 have e:args.map ρ=#[ρ x,ρ y]:=by rw[←f1x,f2d,hargs];rfl
 have hX:=hE _ (by rw[ho];exact jb0 (by rw[hargs];simp)) _ _ hx hu
 have hY:=hE _ (by rw[ho];exact jb0 (by rw[hargs];simp)) _ _ hy hu'
 have nothing:∀ A0 n c B m c',ρ x=.slice A0 n c->ρ y=.slice B m c'->(n=0∨m=0)->(execOp ρ o).run P w=.ok (.value (.int .i64 0)) w:=by
  intro A0 n c B m c' e1 e2 h0
  have hmin:Nat.min m n=0:=by
   show min m n=0
   rcases h0 with rfl | rfl<;>simp
  have hf:(Builtin.firstCells z.2.size 0 (.slice B m c')).run P w=.ok #[] w:=by
   cases B with
   | none=>rfl
   | some b=>simp[Builtin.firstCells,loadCells,loadCellsFrom]
  obtain⟨bs,hbs⟩:=jer (P:=P) (w:=w) (ρ:=ρ) ho
  rw[hbs,e,e1,e2]
  cases A0<;>simp[builtin,Builtin.copy_,ht,run_underlying k1,Builtin.lenOf,hmin,k2.run_size,hf,storeCells,goInt]
 have stay:(execOp ρ o).run P w=.ok (.value (.int .i64 0)) w->ok (.s (.int .i64 0)) h=some (v,h')->jb3 A (fun n=>h.lo<=n) φ h w v h' ((execOp ρ o).run P w):=by
  intro hr hv2
  cases hv2
  exact⟨_,_,w,φ,hr,rfl,Step.refl _ k rfl rfl rfl rfl,k,rfl⟩
 have from0:∀ A0 n c,ρ x=.slice A0 n c->n=0->qb7 u' (ok (.s (.int .i64 0)) h)=some (v,h')->jb3 A (fun n=>h.lo<=n) φ h w v h' ((execOp ρ o).run P w):=by
  intro A0 n c eX h0 hv3
  rcases jay hv3 with⟨rfl,hv4⟩ | ⟨b',off',m,mc',ex',sz',rfl,hv4⟩ | ⟨rows,rfl,hv4⟩ | ⟨rfl,hv4⟩
  .exact stay (nothing _ _ _ _ _ _ eX (show ρ y=.slice none 0 0 from hY) (.inl h0)) hv4
  .obtain ⟨L,ad,cap,p1,p2,_⟩:=(show cS A φ (.slice b' off' m mc' ex' sz') (ρ y) from hY)
   exact stay (nothing _ _ _ _ _ _ eX p2 (.inl h0)) hv4
  .obtain ⟨ad,cap,p1,_⟩:=je2 (show cD A φ.k (.lst rows) (ρ y) from hY)
   exact stay (nothing _ _ _ _ _ _ eX p1 (.inl h0)) hv4
  .obtain ⟨ad,p1⟩:=(show cS A φ .emp (ρ y) from hY)
   exact stay (nothing _ _ _ _ _ _ eX p1 (.inl h0)) hv4
 rcases jay hv2 with⟨rfl,hv3⟩ | ⟨b,off,n,mc,ex,sz,rfl,hv3⟩ | ⟨rows,rfl,hv3⟩ | ⟨rfl,hv3⟩
 .exact from0 _ _ _ (show ρ x=.slice none 0 0 from hX) rfl hv3
 rotate_left
 .cases hv3
 .obtain ⟨ad,eX⟩:=(show cS A φ .emp (ρ x) from hX)
  exact from0 _ _ _ eX rfl hv3
 .obtain ⟨L,ad,cap,p1,p2,p3,p4,p5,p6⟩:=(show cS A φ (.slice b off n mc ex sz) (ρ x) from hX)
  have core:∀ (m:Nat) (ad':Addr) (cap':Nat) (cs:List SV) (news:List Value),ρ y=.slice (some ad') m cap'->All2 (cS A φ) cs news->news.length=Nat.min m n*z.2.size->(∀ (j:Nat) (u:Value),news[j]?=some u->w.cell? (ad'.add j)=some u) ->
   ob (wr h b off cs) (fun h=>ok (.s (.int .i64 (Int.ofNat (Nat.min m n)))) h)=some (v,h')->jb3 A (fun n=>h.lo<=n) φ h w v h' ((execOp ρ o).run P w):=by
   intro m ad' cap' cs news eY hnv hnl hcells hv6
   obtain⟨h1,hw,hv7⟩:=jaa.1 hv6
   cases hv7
   obtain⟨hlo,_⟩:=jjh hw
   obtain⟨L',c,ty,e1,_,e2,e3,e4⟩:=k.put hw hnv
   rw[p1] at e1
   cases e1
   have fin:∃ w',(execOp ρ o).run P w=.ok (.value (.int .i64 (Nat.min m n))) w'/\Changed w w' L.b (c.toList.take (L.o+off)++news++c.toList.drop (L.o+off+news.length)).toArray ty:=by
    by_cases h0:n=0∨m=0
    .have hnil:news=[]:=f1n (by rw[hnl];show min m n*z.2.size=0;rcases h0 with rfl | rfl<;>simp)
     have hm0:Nat.min m n=0:=by show min m n=0;rcases h0 with rfl | rfl<;>simp
     refine⟨w,?_,by rw[hnil];exact jnk e2 rfl⟩
     rw[nothing _ _ _ _ _ _ p2 eY h0,hm0];rfl
    .have had:ad=⟨L.b,L.o+off,none⟩:=by
      rcases p6 with⟨h,_⟩ | h
      .exact h
      .omega
     have hf:=run_firstCells_some (P:=P) w z.2.size (Nat.min m n) ad' m cap' news hnl hcells
     have hst:=run_storeCells_at P L.b (L.o+off) ty news 0 c w e2 (by simpa using e3) (jir hnv)
     simp only[f1i] at hst
     refine⟨_,?_,Changed.row e2 _⟩
     obtain⟨bs,hbs⟩:=jer (P:=P) (w:=w) (ρ:=ρ) ho
     rw[hbs,e,p2,eY]
     simp[builtin,Builtin.copy_,ht,run_underlying k1,Builtin.lenOf,k2.run_size,hf,had,hst,goInt]
   obtain⟨w',fin,hch⟩:=fin
   obtain⟨s,r⟩:=e4 w' hch
   exact⟨_,_,w',φ,fin,rfl,s.mono (fun n e=>by subst e;exact hlo),r,rfl⟩
  have hmin:∀ m,oif (Nat.ble n m) n m=Nat.min m n:=fun m=>by
   rw[jap]
   show _=min m n
   split
   .rename_i hh;rw[jtj] at hh;omega
   .rename_i hh;rw[jtj] at hh;omega
  rcases jay hv3 with⟨rfl,hv5⟩ | ⟨b',off',m,mc',ex',sz',rfl,hv5⟩ | ⟨rows,rfl,hv5⟩ | ⟨rfl,hv5⟩
  .exact stay (nothing _ _ _ _ _ _ p2 (show ρ y=.slice none 0 0 from hY) (.inr rfl)) hv5
  .obtain ⟨cs,hcs,hv6⟩:=jaa.1 hv5
   rw[hmin] at hcs hv6
   obtain⟨ad',cap',news,eY,hnv,hnl,hcells⟩:=jw8 k (show cS A φ (.slice b' off' m mc' ex' sz') (ρ y) from hY) hcs (fun e=>by
    show min m n*z.2.size=0
    rw[e];simp)
   exact core m ad' cap' cs news eY hnv hnl hcells hv6
  .obtain ⟨all,hall,hv6⟩:=jaa.1 hv5
   obtain⟨cs,hcs,hv7⟩:=jaa.1 hv6
   rw[ja7,hmin] at hcs hv7
   obtain⟨ad',cap',news,eY,hnv,hnl,hcells⟩:=jis k (show cD A φ.k (.lst rows) (ρ y) from hY) hall
   obtain⟨hl,rfl⟩:=(ja5 _).1 hcs
   refine core rows.length ad' cap' _ (news.take (Nat.mul (Nat.min rows.length n) z.2.size)) eY (hnv.take _) ?_ (fun j u hj=>?_) hv7
   .have:=hnv.len
    rw[f10]
    exact Nat.min_eq_left (by omega)
   .rw [f15] at hj
    split at hj
    .exact hcells j u hj
    .cases hj
  .obtain ⟨ad',p1'⟩:=(show cS A φ .emp (ρ y) from hY)
   exact stay (nothing _ _ _ _ _ _ p2 p1' (.inr rfl)) hv5
theorem j61 (hT:Tys P T) {o:Oper} (hE:jkh A φ π loc st fr o.op.operands.toList ρ) (k:Rel A φ h w) {args:Array Operand} {ts:Array TypeId} {t:TypeId} (ho:o.op=.call ⟨.builtin .clear,args,ts⟩) (ht:ts[0]?=some t) {z:TypeId×TI} (hz:jbw T t=some z)
 {x:Operand} (hargs:args.toList=[x]) {x':Od} (hx:cO π loc x=some x') {v:AV} (hv:jzc st fr h z.2.zero x'=some (v,h')) :
 jb3 A (fun n=>h.lo<=n) φ h w v h' ((execOp ρ o).run P w):=by
 obtain⟨k1,k2,k3⟩:=jbl hT hz
 obtain⟨zv,hzv,hza,hzl⟩:=k2.run_zero (w:=w)
 obtain⟨u,hu,hv1⟩:=jaa.1 hv
 have e:args.map ρ=#[ρ x]:=by rw[←f1x,f2d,hargs];rfl
 have hX:=hE _ (by rw[ho];exact jb0 (by rw[hargs];simp)) _ _ hx hu
 have stay:(execOp ρ o).run P w=.ok (.value (.tuple #[])) w->ok (.tup []) h=some (v,h')->jb3 A (fun n=>h.lo<=n) φ h w v h' ((execOp ρ o).run P w):=by
  intro hr hv1
  cases hv1
  exact⟨_,_,w,φ,hr,rfl,Step.refl _ k rfl rfl rfl rfl,k,[],rfl,.nil⟩
 rcases jo4 hv1 with⟨rfl,hv2⟩ | ⟨b,off,n,mc,ex,sz,rfl,hv2⟩
 .refine stay ?_ hv2
  have eX:ρ x=.slice none 0 0:=hX
  obtain⟨bs,hbs⟩:=jer (P:=P) (w:=w) (ρ:=ρ) ho
  rw[hbs,e,eX]
  simp[builtin,Builtin.clear_,ht,run_underlying k1]
 .obtain ⟨L,ad,cap,p1,p2,p3,p4,p5,p6⟩:=(show cS A φ (.slice b off n mc ex sz) (ρ x) from hX)
  cases n with
  | zero =>
   refine stay ?_ hv2
   obtain⟨bs,hbs⟩:=jer (P:=P) (w:=w) (ρ:=ρ) ho
   rw[hbs,e,p2]
   simp[builtin,Builtin.clear_,ht,run_underlying k1]
  | succ n =>
   obtain⟨h1,hw,hv3⟩:=jaa.1 (show ob (wr h b off (rep z.2.zero (n+1))) (fun h=>ok (.tup []) h)=some (v,h') from hv2)
   cases hv3
   obtain⟨hlo,_⟩:=jjh hw
   have hm:=jl3 (hza A φ) (by omega) (n+1) _ rfl
   have hzc:(Builtin.zeroCells zv.cells (n+1)).toList=((Array.range ((n+1)*zv.cells.size)).map (zv.cells[· % zv.cells.size]!)).toList:=rfl
   rw[←hzc] at hm
   obtain⟨L',c,ty,e1,_,e2,e3,e4⟩:=k.put hw hm
   rw[p1] at e1
   cases e1
   have had:ad=⟨L.b,L.o+off,none⟩:=by
    rcases p6 with⟨h,_⟩ | h
    .exact h
    .omega
   have hst:=run_storeCells_at P L.b (L.o+off) ty (Builtin.zeroCells zv.cells (n+1)).toList 0 c w e2 (by simpa using e3) (jir hm)
   simp only[f1i] at hst
   obtain⟨s,r⟩:=e4 _ (Changed.row e2 _)
   refine⟨.value (.tuple #[]),.tuple #[],_,φ,?_,rfl,s.mono (fun n e=>by subst e;exact hlo),r,[],rfl,.nil⟩
   obtain⟨bs,hbs⟩:=jer (P:=P) (w:=w) (ρ:=ρ) ho
   rw[hbs,e,p2]
   simp[builtin,Builtin.clear_,ht,run_underlying k1,hzv,had,hst]
theorem j62 (k:Rel A φ h w) {o:Oper} {t:TypeId} (ho:o.op=.makeMap t none) {va:Bool} (hv:j6g h va=some (v,h')) :
 jb3 A (fun _=>False) φ h w v h' ((execOp ρ o).run P w):=by
 obtain⟨h1,h2,h3⟩:=j2f hv
 have h4:some (AV.s (.map h.next),h.push (.map va []))=some (v,h'):=h3
 simp only[Option.some.injEq,Prod.mk.injEq] at h4
 obtain⟨rfl,rfl⟩:=h4
 obtain⟨e1,e2⟩:=MapKept.heap_alloc w (.map #[] 0)
 obtain⟨s,r⟩:=k.pushx (w':=w.alloc (.map #[] 0)) h1 h2 (x:=.map va []) (L:=⟨w.heap.size,0,0⟩) rfl rfl rfl rfl (by show(w.heap.push (.map #[] 0)).size=_;simp) (fun b hb=>e2 b hb) ⟨_,#[],0,Phi.add_same _ _ _,e1,.nil⟩
 refine⟨.value (.map (some w.heap.size)),.map (some w.heap.size),_,_,?_,rfl,s,r,⟨_,Phi.add_same _ _ _,rfl⟩⟩
 simp only[execOp,ho,Instr.makeMap,f3i,Sem.run_bind,Sem.run_pure,run_newObj_alloc,Result.andThen_ok]
theorem qcq (hT:Tys P T) {o:Oper} (hE:jkh A φ π loc st fr o.op.operands.toList ρ) (k:Rel A φ h w) {t:TypeId} {x y:Operand} (ho:o.op=.lookup t x y okf) {z:List Bool×TI} (hz:jze T t=some z)
 {x' y':Od} (hx:cO π loc x=some x') (hy:cO π loc y=some y') {v:AV} (hv:jwx st fr h z.1 z.2.agg z.2.zero okf x' y'=some (v,h')) :
 h'=h/\∃ rv,(execOp ρ o).run P w=.ok (.value rv) w/\cV A φ v rv:=by
 refine⟨jw7 hv,?_⟩
 obtain⟨kt,e,dk,q1,q2,qd,q3,q4,q5⟩:=jsg hT hz
 obtain⟨m,kv,hm,hkv,h1⟩:=jpc hv
 have hme:=hE _ (by rw[ho];simp[Op.operands]) _ _ hx hm
 have hke:=hE _ (by rw[ho];simp[Op.operands]) _ _ hy hkv
 obtain⟨kc,xs,h2,hkc,h3⟩:=jib hke h1
 obtain⟨hl,h2⟩:=jab.1 h2
 rw[jgt,ja7,ja7] at hl
 have hkg:kag kc=kag z.1:=jl2 hl
 have hsh:(kag kc=true/\ρ y=.agg xs.toArray)∨(kag kc=false/\xs=[ρ y]):=by
  rw[←hkg] at h3
  split at h3
  .rename_i hq;exact .inl ⟨hq,h3⟩
  .rename_i hq;exact .inr ⟨by simpa using hq,h3⟩
 have hk1:cV1 A φ (kag kc) kc (ρ y):=by
  unfold cV1
  rcases hsh with⟨g1,g2⟩ | ⟨g1,g2⟩
  .rw [g1,if_pos rfl];exact⟨xs,g2,hkc⟩
  .rw [g1]
   simp only[f0v,if_false]
   subst g2
   cases hkc with | cons a b=>cases b;exact⟨_,rfl,a⟩
 have hlx:=hkc.len
 have hck:∀ em,(Instr.checkKey em 10000 kt (ρ y)).run P w=.ok () w:=fun em=>jkm 10000 kt z.1 q3 xs (ρ y) em (by omega) (jkn q2 qd hl hsh)
 obtain⟨zv,hzv,hz1⟩:=q4.run_zero1 (w:=w) (A:=A) (φ:=φ)
 rcases jpd h2 with⟨rfl,h4⟩ | ⟨b,es,r,rfl,hg,hf,h4⟩
 .have hρ:ρ x=.map none:=hme
  have hfk:=jhg (w:=w) (P:=P) (es:=[]) (va:=true) q2 qd q3 hk1 .nil trivial (rr:=none) rfl
  refine⟨_,?_,jhi h4 hz1⟩
  cases okf<;>simp[execOp,ho,Instr.lookup,run_underlying q1,hρ,hck,hfk,hzv]
 .obtain ⟨L,hL,hρ⟩:=(show ∃ L,φ b=some L/\ρ x=.map (some L.b) from hme)
  obtain⟨L',es',clock,e1,hh,hall⟩:=k.blk b _ hg
  rw[hL] at e1
  cases e1
  obtain⟨rr,hr,hrr⟩:=jhw (w:=w) q2 qd q3 hk1 es es'.toList 0 r hall hf
  have hfk:=jhg q2 qd q3 hk1 hall (jsh hf) hr
  have hgo:=MapKept.run_getObj_map (P:=P) hh
  rcases h4 with⟨rfl,h4⟩ | ⟨vc,rfl,h4⟩
  .rcases hrr with⟨_,rfl⟩ | ⟨vc,j,u,h5,_⟩
   .refine ⟨_,?_,jhi h4 hz1⟩
    cases okf<;>simp[execOp,ho,Instr.lookup,run_underlying q1,hρ,hgo,hck,hfk,hzv]
   .cases h5
  .rcases hrr with⟨h5,_⟩ | ⟨vc',j,u,h5,rfl,hu⟩
   .cases h5
   .cases h5
    refine⟨_,?_,jhi h4 hu⟩
    cases okf<;>simp[execOp,ho,Instr.lookup,run_underlying q1,hρ,hgo,hck,hfk]
theorem qcr (hT:Tys P T) {o:Oper} (hE:jkh A φ π loc st fr o.op.operands.toList ρ) (k:Rel A φ h w) {t:TypeId} {x y u:Operand} (ho:o.op=.mapUpdate t x y u) {z:List Bool×TI} (hz:jze T t=some z)
 {x' y' u':Od} (hx:cO π loc x=some x') (hy:cO π loc y=some y') (hu:cO π loc u=some u') {v:AV} (hv:jwy st fr h z.1 z.2.agg x' y' u'=some (v,h')) :
 jb3 A (fun n=>h.lo<=n) φ h w v h' ((execOp ρ o).run P w):=by
 obtain⟨kt,e,dk,q1,q2,qd,q3,q4,q5⟩:=jsg hT hz
 obtain⟨m,kv,vv,hm,hkv,hvv,h1⟩:=jpe hv
 have hme:=hE _ (by rw[ho];simp[Op.operands]) _ _ hx hm
 have hke:=hE _ (by rw[ho];simp[Op.operands]) _ _ hy hkv
 have hve:=hE _ (by rw[ho];simp[Op.operands]) _ _ hu hvv
 obtain⟨kc,xs,h2,hkc,h3⟩:=jib hke h1
 obtain⟨hl,h2⟩:=jab.1 h2
 rw[jgt,ja7,ja7] at hl
 have hkg:kag kc=kag z.1:=jl2 hl
 have hsh:(kag kc=true/\ρ y=.agg xs.toArray)∨(kag kc=false/\xs=[ρ y]):=by
  rw[←hkg] at h3
  split at h3
  .rename_i hq;exact .inl ⟨hq,h3⟩
  .rename_i hq;exact .inr ⟨by simpa using hq,h3⟩
 obtain⟨vc,ys,h4,hvc,h5⟩:=jib hve h2
 have hk1:cV1 A φ (kag kc) kc (ρ y):=by
  unfold cV1
  rcases hsh with⟨g1,g2⟩ | ⟨g1,g2⟩
  .rw [g1,if_pos rfl];exact⟨xs,g2,hkc⟩
  .rw [g1]
   simp only[f0v,if_false]
   subst g2
   cases hkc with | cons a b=>cases b;exact⟨_,rfl,a⟩
 have hv1:cV1 A φ z.2.agg vc (ρ u):=by
  unfold cV1
  split
  .rename_i hp;rw[if_pos hp] at h5;exact⟨ys,h5,hvc⟩
  .rename_i hp
   rw[if_neg hp] at h5
   subst h5
   cases hvc with | cons a b=>cases b;exact⟨_,rfl,a⟩
 have hlx:=hkc.len
 have hck:(Instr.checkKey false 10000 kt (ρ y)).run P w=.ok () w:=jkm 10000 kt z.1 q3 xs (ρ y) false (by omega) (jkn q2 qd hl hsh)
 obtain⟨b,es,es2,rfl,hlo,hg,hset,rfl,rfl⟩:=jpf h4
 obtain⟨L,hL,hρ⟩:=(show ∃ L,φ b=some L/\ρ x=.map (some L.b) from hme)
 obtain⟨L',es',clock,e1,hh,hall⟩:=k.blk b _ hg
 rw[hL] at e1
 cases e1
 have hgo:=MapKept.run_getObj_map (P:=P) hh
 have fin:∀ (es3:Array MapEntry) (clock':Nat),All2 (qhw A φ z.2.agg) es2 es3.toList->(execOp ρ o).run P w=.ok .skip { w with heap:=w.heap.setIfInBounds L.b (.map es3 clock') } ->
  jb3 A (fun n=>h.lo<=n) φ h w .undef (h.put b (some (.map z.2.agg es2))) ((execOp ρ o).run P w):=by
  intro es3 clock' ha hr
  obtain⟨g1,g2⟩:=MapKept.heap_set (o':=.map es3 clock') hh
  obtain⟨s,r⟩:=k.putx (w':={ w with heap:=w.heap.setIfInBounds L.b (.map es3 clock') }) (x:=.map z.2.agg es2) hg hL rfl rfl rfl (by simp) (fun p hp=>g2 p hp) ⟨L,es3,clock',hL,g1,ha⟩
  exact⟨.skip,undef,_,φ,hr,rfl,s.mono (fun n e=>by subst e;exact hlo),r,rfl⟩
 rcases jsi (w:=w) q2 qd q3 hk1 hv1 es es'.toList 0 es2 hall hset with⟨hr,ha⟩ | ⟨j,e',hr,hj,hkey,⟨ds,hds⟩,ha⟩
 .have hfk:=jhg q2 qd q3 hk1 hall (jph hset) hr
  refine fin (es'.push { key:=ρ y,val:=ρ u,born:=clock }) (clock+1) (by simpa using ha clock) ?_
  have hso:=MapKept.run_setObj_map (P:=P) (.map (es'.push { key:=ρ y,val:=ρ u,born:=clock }) (clock+1)) hh
  simp[execOp,ho,Instr.mapUpdate,run_underlying q1,hρ,hgo,hck,hfk,hso]
 .rw [f0z] at hr
  have hfk:=jhg q2 qd q3 hk1 hall (jph hset) hr
  have hst:=jzj (P:=P) (w:=w) hk1 hds
  have hj':es'[j]?=some e':=by rw[←f02];exact hj
  refine fin (es'.modify j fun e=>{ e with key:=ρ y,val:=ρ u }) clock (by rw[j4x _ _ _ _ hj];exact ha) ?_
  have hso:=MapKept.run_setObj_map (P:=P) (.map (es'.modify j fun e=>{ e with key:=ρ y,val:=ρ u }) clock) hh
  simp[execOp,ho,Instr.mapUpdate,run_underlying q1,hρ,hgo,hck,hfk,hj',hkey,hst,hso]
theorem jzm (hT:Tys P T) {t:TypeId} (h:jov T t=true):∃ e i,P.underlying t=some (.pointer e)/\P.info? e=some i/\i.size≠0:=by
 unfold jov at h
 split at h
 .rename_i ti hti
  split at h
  .rename_i e he
   split at h
   .rename_i z hz
    obtain⟨d,h1,h2⟩:=(hT t ti hti).und
    rw[he] at h2
    obtain⟨i,_,_,h3,_,h4,_⟩:=(hT e z hz).ex
    refine⟨e,i,h1.trans (congrArg some h2),h3,?_⟩
    rw[h4]
    intro e0
    rw[e0] at h
    cases h
   .cases h
  .cases h
 .cases h
theorem j2h {c:Bool}:oif b c false=true↔b=true/\c=true:=by cases b<;>cases c<;>decide
theorem jnl {t e:TypeId} (hu:P.underlying t=some (.pointer e)) (b:Option Addr):(Op.equal t (.pointer none) (.pointer b)).run P w=.ok b.isNone w:=by
 show(Op.equalIn (9999+1) t (.pointer none) (.pointer b)).run P w=_
 unfold Op.equalIn
 simp only[Sem.run_bind,run_underlying hu,Result.andThen_ok]
 cases b<;>rfl
theorem jts {t e:TypeId} (hu:P.underlying t=some (.pointer e)) (a:Addr):(Op.equal t (.pointer (some a)) (.pointer none)).run P w=.ok false w:=by
 show(Op.equalIn (9999+1) t (.pointer (some a)) (.pointer none)).run P w=_
 unfold Op.equalIn
 simp only[Sem.run_bind,run_underlying hu,Result.andThen_ok]
 rfl
theorem jzn (op:BinOp) (t:TypeId) (x y:Operand) (a b:Option Addr):(eqGuard op t x y (.pointer a) (.pointer b)).run P w=.ok () w:=by
 cases op<;>rfl
theorem j40 (k:Rel A φ h w) {t e:TypeId} {i:TypeInfo} (hu:P.underlying t=some (.pointer e)) (hi:P.info? e=some i) (hs:i.size≠0) {a b:SV} {r:Bool} (hv:qsj h a b=some r)
 {x y:Value} (hx:cS A φ a x) (hy:cS A φ b y):∃ p q,x=.pointer p/\y=.pointer q/\(Op.equal t x y).run P w=.ok r w:=by
 cases a with
 | nilPtr =>
  cases b with
  | nilPtr =>
   cases hv;cases hx;cases hy
   exact⟨_,_,rfl,rfl,jnl hu none⟩
  | ptr m j =>
   cases hv;cases hx
   obtain⟨L,_,rfl⟩:=(show jnf φ m j y from hy)
   exact⟨_,_,rfl,rfl,jnl hu _⟩
  | _=>cases hv
 | ptr n o =>
  obtain⟨L,hL,rfl⟩:=(show jnf φ n o x from hx)
  cases b with
  | nilPtr =>
   cases hv;cases hy
   exact⟨_,_,rfl,rfl,jts hu _⟩
  | ptr m j =>
   obtain⟨M,hM,rfl⟩:=(show jnf φ m j y from hy)
   refine⟨_,_,rfl,rfl,?_⟩
   have fin:∀ c:Bool,(Go.binOp .eql t (.pointer (some ⟨L.b,L.o+o,none⟩)) (.pointer (some ⟨M.b,M.o+j,none⟩))).run P w=.ok (.bool c) w->(Op.equal t (.pointer (some ⟨L.b,L.o+o,none⟩)) (.pointer (some ⟨M.b,M.o+j,none⟩))).run P w=.ok c w:=by
    intro c hc
    simp only[Go.binOp,Sem.run_bind] at hc
    cases he:(Op.equal t (.pointer (some ⟨L.b,L.o+o,none⟩)) (.pointer (some ⟨M.b,M.o+j,none⟩))).run P w with
    | ok e1 w1 =>
     rw[he] at hc
     simp at hc
     obtain⟨rfl,rfl⟩:=hc
     rfl
    | _=>rw[he] at hc;simp at hc
   have hv':oif (oif (Nat.beq n m) (Nat.beq o j) false) (some true) (ob (h.get n) (fun x=>ob (h.get m) (fun y=>AB.casesOn (motive:=fun _=>Option Bool) x (fun _ _=>AB.casesOn (motive:=fun _=>Option Bool) y (fun _ _=>some false) (fun _ _=>none)) (fun _ _=>none))))=some r:=hv
   rw[jap] at hv'
   split at hv'
   .rename_i hnm
    obtain⟨h1,h2⟩:=j2h.1 hnm
    obtain rfl:=f0i h1
    obtain rfl:=f0i h2
    cases hv'
    rw[hL] at hM
    cases hM
    exact fin _ (run_eql_ptr_same w _ hu hi)
   .rename_i hnm
    obtain⟨X,hX,h1⟩:=jaa.1 hv'
    obtain⟨Y,hY,h2⟩:=jaa.1 h1
    cases X with
    | map _ _=>cases h2
    | arr cs ty =>
    cases Y with
    | map _ _=>cases h2
    | arr ds ty' =>
    cases h2
    obtain⟨L',c,e1,e2,_⟩:=k.blk n _ hX
    obtain⟨M',c',e3,e4,_⟩:=k.blk m _ hY
    rw[hL] at e1;cases e1
    rw[hM] at e3;cases e3
    refine fin _ (run_eql_ptr_other w hu hi hs ?_ e2 e4)
    intro e
    have hb:L.b=M.b:=by injection e
    have:=k.inj n m L M (by rw[hX];rfl) (by rw[hY];rfl) hL hM hb
    subst this
    rw[hL] at hM
    cases hM
    have ho:L.o+o=L.o+j:=by injection e
    have:o=j:=by omega
    subst this
    exact hnm (j2h.2 ⟨f1l _,f1l _⟩)
  | _=>cases hv
 | _=>cases hv
theorem jsk {x y:Od} (hv:qcf st fr h neg x y=some (v,h')):h'=h/\∃ a b e,ev st fr x=some (.s a)/\ev st fr y=some (.s b)/\qsj h a b=some e/\v=.s (.bool (oif neg (jhd e) e)):=by
 obtain⟨a,ha,h1⟩:=jaa.1 hv
 obtain⟨b,hb,h2⟩:=jaa.1 h1
 cases a with
 | s a=>cases b with
  | s b =>
   obtain⟨e,he,h3⟩:=jaa.1 (show ob (qsj h a b) (fun e=>ok (.s (.bool (oif neg (jhd e) e))) h)=some (v,h') from h2)
   cases h3
   exact⟨rfl,a,b,e,ha,hb,he,rfl⟩
  | _=>cases h2
 | _=>cases h2
theorem qh0 (hT:Tys P T) {o:Oper} (hE:jkh A φ π loc st fr o.op.operands.toList ρ) (k:Rel A φ h w) {op:BinOp} {t:TypeId} {x y:Operand} {yt:TypeId} (ho:o.op=.binOp op t x y yt) (ht:jov T t=true) (hop:qhq op=some neg)
 {x' y':Od} (hx:cO π loc x=some x') (hy:cO π loc y=some y') {v:AV} (hv:qcf st fr h neg x' y'=some (v,h')) :
 h'=h/\∃ rv,(execOp ρ o).run P w=.ok (.value rv) w/\cV A φ v rv:=by
 obtain⟨rfl,a,b,e,ha,hb,he,rfl⟩:=jsk hv
 refine⟨rfl,?_⟩
 obtain⟨et,i,q1,q2,q3⟩:=jzm hT ht
 have hxe:cS A φ a (ρ x):=hE _ (by rw[ho];simp[Op.operands]) _ _ hx ha
 have hye:cS A φ b (ρ y):=hE _ (by rw[ho];simp[Op.operands]) _ _ hy hb
 obtain⟨p,q,e1,e2,e3⟩:=j40 k q1 q2 q3 he hxe hye
 have hg:=jzn (P:=P) (w:=w) op t x y p q
 rw[e1,e2] at e3
 rcases jfj hop with⟨rfl,rfl⟩ | ⟨rfl,rfl⟩
 .exact ⟨.bool e,by simp only[execOp,ho,e1,e2,Sem.run_bind,hg,Result.andThen_ok,Go.binOp];simp[e3],rfl⟩
 .exact ⟨.bool (!e),by simp only[execOp,ho,e1,e2,Sem.run_bind,hg,Result.andThen_ok,Go.binOp];simp[e3],by cases e<;>rfl⟩
theorem jw9:∀ {n:Nat} {l:List SV} {rows:List (List SV)},qce sz n l=some rows->rows.length=n/\(∀ (i:Nat) (row:List SV),rows[i]?=some row->row.length=sz)/\∀ (i j:Nat) (row:List SV) (x:SV),rows[i]?=some row->row[j]?=some x->l[i*sz+j]?=some x
 | 0,l,rows,h=>by
  cases h
  exact⟨rfl,fun i row h=>by simp at h,fun i j row x h=>by simp at h⟩
 | n+1,l,rows,h=>by
  obtain⟨a,h1,h2⟩:=jaa.1 (show ob (jbp sz l) (fun a=>ob (qce sz n (jb4 sz l)) (fun r=>some (a::r)))=some rows from h)
  obtain⟨r,h3,h4⟩:=jaa.1 h2
  cases h4
  obtain⟨h5,h6⟩:=(ja5 _).1 h1
  obtain⟨i1,i2,i3⟩:=jw9 h3
  have ha:a.length=sz:=by rw[h6,f10];omega
  refine⟨by simp[i1],fun i row hr=>?_,fun i j row x hr hx=>?_⟩
  .cases i with
   | zero=>simp at hr;subst hr;exact ha
   | succ i=>exact i2 i row (by simpa using hr)
  .cases i with
   | zero =>
    simp at hr;subst hr
    rw[f16,f0z]
    rw[h6] at hx
    obtain⟨q1,q2⟩:=f0x.1 hx
    rw[List.getElem_take] at q2
    rw[←q2]
    exact f0b _
   | succ i =>
    have:=i3 i j row x (by simpa using hr) hx
    rw[jb8,f1f] at this
    rw[f27]
    rw[show i*sz+sz+j=sz+(i*sz+j) by omega]
    exact this
theorem j41 (hT:Tys P T) {o:Oper} (hE:jkh A φ π loc st fr o.op.operands.toList ρ) (k:Rel A φ h w) {t:TypeId} {x:Operand} (ho:o.op=.slice t x none none none) {z:Nat×TI} (hz:jly T t=some z)
 {x':Od} (hx:cO π loc x=some x') {v:AV} (hv:jn4 st fr h z.1 z.2.size x'=some (v,h')) :
 jb3 A (fun _=>False) φ h w v h' ((execOp ρ o).run P w):=by
 obtain⟨e,q1,q2,q3⟩:=jh7 hT hz
 obtain⟨u,hu,hv1⟩:=jaa.1 hv
 have e0:∀ a:Addr,(if z.1=0 then a else a.add (0*z.2.size))=a:=by
  intro a
  split
  .rfl
  .rw [f16];unfold Addr.add;simp
 rcases jb6 hv1 with⟨b,off,rfl,hv2⟩ | ⟨cells,rfl,hv2⟩
 .obtain ⟨xs,hxs,hv3⟩:=jaa.1 hv2
  have hv4:some (AV.s (.slice b off z.1 z.1 true z.2.size),h)=some (v,h'):=hv3
  simp only[Option.some.injEq,Prod.mk.injEq] at hv4
  obtain⟨rfl,rfl⟩:=hv4
  obtain⟨L,hL,hρ⟩:=(show jnf φ b off (ρ x) from hE _ (by rw[ho];simp[Op.operands]) _ _ hx hu)
  obtain⟨cs,ty,hg,rfl,hl⟩:=jo3 hxs
  obtain⟨L',c,e1,h3,h4,h5,h6⟩:=k.blk b _ hg
  rw[hL] at e1
  cases e1
  have hfit:L.o+off+z.1*z.2.size<=L.lim∨z.1*z.2.size=0:=by
   have hl':Nat.mul z.1 z.2.size=z.1*z.2.size:=rfl
   rw[hl'] at hl
   simp at hl
   omega
  refine⟨.value (.slice (some ⟨L.b,L.o+off,none⟩) z.1 z.1),.slice (some ⟨L.b,L.o+off,none⟩) z.1 z.1,w,φ,?_,rfl,Step.refl _ k rfl rfl rfl rfl,k,⟨L,_,z.1,hL,rfl,f0d _,f0d _,fun _=>rfl,?_⟩⟩
  .simp [execOp,ho,Instr.sliceAt,Instr.sureAddr,run_underlying q1,Instr.sliceBounds,hρ,q2.run_size,Addr.add]
  .rcases hfit with h7 | h7
   .exact .inl ⟨rfl,h7⟩
   .exact .inr (by
     rcases Nat.mul_eq_zero.1 h7 with h8 | h8
     .exact h8
     .exact absurd h8 q3)
 .obtain ⟨rows,hr,hv3⟩:=jaa.1 hv2
  cases hv3
  obtain⟨b,o',cs,hk,hρ,hcs⟩:=(show ∃ b o cs,φ.k b=some cs/\ρ x=.pointer (some ⟨b,o,none⟩)/\∀ (j:Nat) (x:SV),cells[j]?=some x->∃ u,cs[o+j]?=some u/\cD A φ.k x u from hE _ (by rw[ho];simp[Op.operands]) _ _ hx hu)
  obtain⟨r1,r2,r3⟩:=jw9 hr
  have hcD:cD A φ.k (.lst rows) (.slice (some ⟨b,o',none⟩) rows.length z.1) :=
   .lst rows b o' z.1 z.2.size cs (fun i j=>(cs[o'+i*z.2.size+j]?).getD (.bool false)) hk (by omega) r2
    (fun i j row y h1 h2=>by
     obtain⟨u,h3,_⟩:=hcs _ _ (r3 i j row y h1 h2)
     rw[←f1r] at h3
     rw[h3];rfl)
    (fun i j row y h1 h2=>by
     obtain⟨u,h3,h4⟩:=hcs _ _ (r3 i j row y h1 h2)
     rw[←f1r] at h3
     simp only[h3,f1t]
     exact h4)
  rw[r1] at hcD
  refine⟨.value (.slice (some ⟨b,o',none⟩) z.1 z.1),.slice (some ⟨b,o',none⟩) z.1 z.1,w,φ,?_,rfl,Step.refl _ k rfl rfl rfl rfl,k,hcD⟩
  simp[execOp,ho,Instr.sliceAt,Instr.sureAddr,run_underlying q1,Instr.sliceBounds,hρ,q2.run_size,Addr.add]
theorem jic {β:Type} {v:SV} {f:List UInt8->Option β} {r:β} (h:jot v f=some r):∃ l,v=.str l/\f l=some r:=by
 cases v<;>first | exact⟨_,rfl,h⟩ | cases h
theorem jzo:∀ (l r:List UInt8),qhn l r=(l == r)
 | [],[]=>rfl
 | [],_::_=>rfl
 | _::_,[]=>rfl
 | a::l,b::r=>by
  show oif (Nat.beq a.toNat b.toNat) (qhn l r) false=_
  rw[jzo l r]
  by_cases e:a=b
  .subst e
   rw[f1l]
   show(l == r)=_
   simp
  .have e':Nat.beq a.toNat b.toNat=false:=by
    cases h:Nat.beq a.toNat b.toNat with
    | false=>rfl
    | true=>exact absurd (UInt8.toNat_inj.1 (f0i h)) e
   rw[e']
   show false=_
   simp[e]
theorem jpj:∀ {l:List SV} {b:List UInt8},qcg l=some b->∃ ns:List Int,l=ns.map (SV.int .u8)/\b=ns.map (fun n=>UInt8.ofNat n.toNat)
 | [],b,h=>by cases h;exact⟨[],rfl,rfl⟩
 | a::l,b,h=>by
  obtain⟨k,n,rfl,h1⟩:=jh8 (show j6c a (fun k n=>oif (Nat.beq (ikn k) 4) (ob (qcg l) (fun l=>some (UInt8.ofNat (Int.toNat n)::l))) none)=some b from h)
  obtain⟨h2,h3⟩:=jab.1 h1
  obtain⟨c,h4,h5⟩:=jaa.1 h3
  obtain⟨ns,rfl,rfl⟩:=jpj h4
  cases h5
  obtain rfl:k=.u8:=by cases k<;>first | rfl | cases h2
  exact⟨n::ns,rfl,rfl⟩
theorem jzp:∀ {ns:List Int} {news:List Value},All2 (cS A φ) (ns.map (SV.int .u8)) news->news=ns.map (Value.int .u8)
 | [],_,.nil=>rfl
 | n::ns,_,.cons h t=>by rw[jzp t];cases (show _=Value.int .u8 n from h);rfl
theorem jxa {β:Type} {x:Od} {f:List UInt8->Option β} {r:β} (h:ob (ev st fr x) (fun a=>svc none a (fun a=>jot a f))=some r):∃ l,ev st fr x=some (.s (.str l))/\f l=some r:=by
 obtain⟨a,ha,h1⟩:=jaa.1 h
 rcases jhf h1 with⟨s,rfl,h2⟩ | ⟨_,h2⟩
 .obtain ⟨l,rfl,h3⟩:=jic h2
  exact⟨l,ha,h3⟩
 .cases h2
theorem jid {β:Type} {x y:Od} {f:List UInt8->List UInt8->Option β} {r:β} (h:ob (ev st fr x) (fun a=>ob (ev st fr y) (fun b=>svc none a (fun a=>svc none b (fun b=>jot a (fun l=>jot b (fun q=>f l q))))))=some r):∃ l q,ev st fr x=some (.s (.str l))/\ev st fr y=some (.s (.str q))/\f l q=some r:=by
 obtain⟨a,ha,h1⟩:=jaa.1 h
 obtain⟨b,hb,h2⟩:=jaa.1 h1
 rcases jhf h2 with⟨s,rfl,h3⟩ | ⟨_,h3⟩
 .rcases jhf h3 with⟨t,rfl,h4⟩ | ⟨_,h4⟩
  .obtain ⟨l,rfl,h5⟩:=jic h4
   obtain⟨q,rfl,h6⟩:=jic h5
   exact⟨l,q,ha,hb,h6⟩
  .cases h4
 .cases h3
theorem jxb {β:Type} {v:SV} {f:Bool->Option β} {r:β} (h:qs7 v f=some r):∃ b,v=.ifc b/\f b=some r:=by
 cases v<;>first | exact⟨_,rfl,h⟩ | cases h
theorem jl4 {x y:Od} (hv:j4q st fr h neg x y=some (v,h')):h'=h/\∃ p q,ev st fr x=some (.s (.ifc p))/\ev st fr y=some (.s (.ifc q))/\¬ (p=true/\q=true)/\v=.s (.bool (if p=q then !neg else neg)):=by
 obtain⟨a,ha,h1⟩:=jaa.1 hv
 obtain⟨b,hb,h2⟩:=jaa.1 h1
 rcases jhf h2 with⟨s,rfl,h3⟩ | ⟨_,h3⟩
 .rcases jhf h3 with⟨t,rfl,h4⟩ | ⟨_,h4⟩
  .obtain ⟨p,rfl,h5⟩:=jxb h4
   obtain⟨q,rfl,h6⟩:=jxb h5
   cases p<;>cases q<;>cases neg<;>first | (cases h6;exact⟨rfl,_,_,ha,hb,by simp,rfl⟩) | (cases h6;done)
  .cases h4
 .cases h3
theorem jc9 (hn:n<=6) {x y:Od} (hv:jd1 st fr h n x y=some (v,h')):h'=h:=by
 match n,hv,hn with
 | 0,hv,_ =>
  obtain⟨a,ha,h1⟩:=jaa.1 (show ob (ev st fr x) (fun v=>ob (qsk v) (fun l=>ok (.s (.str l)) h))=some (v,h') from hv)
  obtain⟨l,hl,h2⟩:=jaa.1 h1
  cases h2;rfl
 | 1,hv,_=>obtain⟨_,_,_,_,h6⟩:=jid (show j6h st fr h false x y=some (v,h') from hv);cases h6;rfl
 | 2,hv,_=>obtain⟨_,_,_,_,h6⟩:=jid (show j6h st fr h true x y=some (v,h') from hv);cases h6;rfl
 | 3,hv,_ =>
  obtain⟨_,_,h6⟩:=jxa (show j14 st fr h x=some (v,h') from hv)
  obtain⟨_,h7⟩:=jab.1 h6
  cases h7;rfl
 | 4,hv,_ =>
  obtain⟨_,_,_,_,h6⟩:=jid (show jr9 st fr h x y=some (v,h') from hv)
  obtain⟨_,h7⟩:=jab.1 h6
  cases h7;rfl
 | 5,hv,_=>exact(jl4 (show j4q st fr h false x y=some (v,h') from hv)).1
 | 6,hv,_=>exact(jl4 (show j4q st fr h true x y=some (v,h') from hv)).1
theorem jtt (hT:Tys P T) {t:TypeId} (h:jen T t=true):∃ e,P.underlying t=some (.slice e)/\P.underlying e=some (.int .u8):=by
 unfold jen at h
 split at h
 .rename_i z hz
  obtain⟨h1,h2,_⟩:=jbl hT hz
  split at h
  .rename_i k hk
   obtain⟨d,h3,h4⟩:=h2.und
   rw[hk] at h4
   obtain rfl:k=.u8:=by cases k<;>first | rfl | cases h
   exact⟨_,h1,h3.trans (congrArg some h4)⟩
  .cases h
 .cases h
theorem qcs (hT:Tys P T) {o:Oper} (hE:jkh A φ π loc st fr o.op.operands.toList ρ) (k:Rel A φ h w) {s d:TypeId} {x:Operand} (ho:o.op=.convert s d x) (hs:jen T s=true) (hd:P.underlying d=some .string)
 {x' y':Od} (hx:cO π loc x=some x') {v:AV} (hv:jd1 st fr h 0 x' y'=some (v,h')) :
 ∃ rv,(execOp ρ o).run P w=.ok (.value rv) w/\cV A φ v rv:=by
 obtain⟨e,q1,q2⟩:=jtt hT hs
 obtain⟨a,ha,h1⟩:=jaa.1 (show ob (ev st fr x') (fun v=>ob (qsk v) (fun l=>ok (.s (.str l)) h))=some (v,h') from hv)
 obtain⟨l,hl,h2⟩:=jaa.1 h1
 cases h2
 have hX:cV A φ a (ρ x):=hE _ (by rw[ho];simp[Op.operands]) _ _ hx ha
 have run:∀ r,(convert s d (ρ x)).run P w=.ok r w->(execOp ρ o).run P w=.ok (.value r) w:=fun r hr=>by simp[execOp,ho,hr]
 have hz:l=[]->∀ ad,ρ x=.slice ad 0 0∨(∃ c,ρ x=.slice ad 0 c)->(convert s d (ρ x)).run P w=.ok (.string ⟨l.toArray⟩) w:=by
  rintro rfl ad hr
  have:∃ c,ρ x=.slice ad 0 c:=hr.elim (fun h=>⟨_,h⟩) id
  obtain⟨c,hr⟩:=this
  rw[hr]
  cases ad with
  | none=>rw[run_convert_bytes_nil w s e q1 q2 0 c d hd];rfl
  | some ad =>
   rw[run_convert_bytes_string w s d e (some ad) 0 c q1 q2 hd,run_bytesToString w ad 0 c [] (by
    have:=run_loadCells_list (P:=P) w ad [] (fun j v hj=>by cases hj)
    simpa using this)]
   rfl
 unfold qsk at hl
 cases a with
 | s sv =>
  cases sv with
  | nilSlice =>
   cases hl
   have hX':ρ x=.slice none 0 0:=hX
   exact⟨_,run _ (hz rfl none (.inl hX')),rfl⟩
  | emp =>
   cases hl
   obtain⟨ad,hX'⟩:=(show ∃ ad,ρ x=.slice (some ad) 0 0 from hX)
   exact⟨_,run _ (hz rfl (some ad) (.inl hX')),rfl⟩
  | lst rows =>
   obtain⟨xs,hxs,hl2⟩:=jaa.1 (show ob (jww 1 rows) qcg=some l from hl)
   obtain⟨ns,rfl,rfl⟩:=jpj hl2
   obtain⟨ad,cap,news,eX,hnv,hnl,hcells⟩:=jis k (show cD A φ.k (.lst rows) (ρ x) from hX) hxs
   have hn:=jzp hnv
   have hl2:=run_loadCells_list (P:=P) w ad news hcells
   rw[hnl,f2h,hn] at hl2
   refine⟨_,run (.string ⟨(ns.map (fun n:Int=>UInt8.ofNat n.toNat)).toArray⟩) ?_,rfl⟩
   rw[eX,run_convert_bytes_string w s d e (some ad) rows.length cap q1 q2 hd,run_bytesToString w ad rows.length cap ns hl2,foldl_push_bytes]
   simp[ByteArray.empty,ByteArray.emptyWithCapacity]
   rfl
  | _=>cases hl
 | _=>cases hl
theorem j63 (hT:Tys P T) {o:Oper} (hE:jkh A φ π loc st fr o.op.operands.toList ρ) {op:BinOp} {t:TypeId} {x y:Operand} {yt:TypeId} (ho:o.op=.binOp op t x y yt) (hop:qhq op=some neg)
 {x' y':Od} (hx:cO π loc x=some x') (hy:cO π loc y=some y') {v:AV} (hv:jd1 st fr h (bif neg then 2 else 1) x' y'=some (v,h')) :
 ∃ rv,(execOp ρ o).run P w=.ok (.value rv) w/\cV A φ v rv:=by
 have hv':j6h st fr h neg x' y'=some (v,h'):=by cases neg<;>exact hv
 obtain⟨l,r,ha,hb,h6⟩:=jid hv'
 have hX:ρ x=.string ⟨l.toArray⟩:=hE _ (by rw[ho];simp[Op.operands]) _ _ hx ha
 have hY:ρ y=.string ⟨r.toArray⟩:=hE _ (by rw[ho];simp[Op.operands]) _ _ hy hb
 rcases jfj hop with⟨rfl,rfl⟩ | ⟨rfl,rfl⟩
 .cases h6
  refine⟨.bool (l == r),?_,by rw[←jzo];rfl⟩
  simp[execOp,ho,hX,hY,eqGuard,Go.binOp,Op.stringOp]
 .cases h6
  refine⟨.bool (!(l == r)),?_,by rw[←jzo];show cS A φ (.bool (jhd (qhn l r))) (.bool (!qhn l r));cases qhn l r<;>rfl⟩
  simp[execOp,ho,hX,hY,eqGuard,Go.binOp,Op.stringOp]
theorem j42 {o:Oper} (hE:jkh A φ π loc st fr o.op.operands.toList ρ) {t:TypeId} {x y:Operand} {yt:TypeId} (ho:o.op=.binOp .add t x y yt)
 {x' y':Od} (hx:cO π loc x=some x') (hy:cO π loc y=some y') {v:AV} (hv:jd1 st fr h 4 x' y'=some (v,h')) :
 ∃ rv,(execOp ρ o).run P w=.ok (.value rv) w/\cV A φ v rv:=by
 obtain⟨l,r,ha,hb,h6⟩:=jid (show jr9 st fr h x' y'=some (v,h') from hv)
 obtain⟨h7,h8⟩:=jab.1 h6
 have h9:l.length+r.length<=1000000000:=by
  have:=f0g h7
  rw[ja7,ja7] at this
  exact this
 have hX:ρ x=.string ⟨l.toArray⟩:=hE _ (by rw[ho];simp[Op.operands]) _ _ hx ha
 have hY:ρ y=.string ⟨r.toArray⟩:=hE _ (by rw[ho];simp[Op.operands]) _ _ hy hb
 cases h8
 refine⟨.string ⟨(l++r).toArray⟩,?_,by rw[jc8];rfl⟩
 have e1:(⟨l.toArray⟩:ByteArray)++⟨r.toArray⟩=⟨(l++r).toArray⟩:=by
  apply ByteArray.ext
  simp[ByteArray.data_append]
 have e2:¬ (((⟨l.toArray⟩:ByteArray).size+(⟨r.toArray⟩:ByteArray).size:Nat):Int)>IntKind.i64.max:=by
  have h1:(⟨l.toArray⟩:ByteArray).size=l.length:=by simp[ByteArray.size]
  have h2:(⟨r.toArray⟩:ByteArray).size=r.length:=by simp[ByteArray.size]
  have h3:IntKind.i64.max=9223372036854775807:=by decide
  rw[h1,h2,h3]
  omega
 simp only[execOp,ho,hX,hY,eqGuard,Go.binOp,Op.stringOp,Sem.run_bind]
 rw[if_neg e2,e1]
 simp
theorem j43 (hT:Tys P T) {o:Oper} (hE:jkh A φ π loc st fr o.op.operands.toList ρ) {args:Array Operand} {ts:Array TypeId} (ho:o.op=.call ⟨.builtin .len,args,ts⟩) {t:TypeId} (ht:ts[0]?=some t) (hst:P.underlying t=some .string)
 {x:Operand} (hargs:args.toList=[x]) {x':Od} (hx:cO π loc x=some x') {v:AV} (hv:jd1 st fr h 3 x' x'=some (v,h')) :
 ∃ rv,(execOp ρ o).run P w=.ok (.value rv) w/\cV A φ v rv:=by
 obtain⟨l,ha,h6⟩:=jxa (show j14 st fr h x'=some (v,h') from hv)
 obtain⟨_,h8⟩:=jab.1 h6
 have hX:ρ x=.string ⟨l.toArray⟩:=hE _ (by rw[ho];exact jb0 (by rw[hargs];simp)) _ _ hx ha
 cases h8
 have ha2:args.map ρ=#[ρ x]:=by rw[←f1x,f2d,hargs];rfl
 refine⟨goInt (⟨l.toArray⟩:ByteArray).size,?_,?_⟩
 .simp only[execOp,ho,resolve,invoke,builtin,Sem.run_bind,Sem.run_pure,Result.andThen_ok,ha2,hX,Builtin.len_,ht]
  simp[run_underlying hst]
 .have h1:(⟨l.toArray⟩:ByteArray).size=l.length:=by simp[ByteArray.size]
  rw[h1,ja7];rfl
theorem jsl (l:List UInt8):u8s l=l.map (fun b=>.int .u8 (b.toNat:Int)):=by
 induction l with
 | nil=>rfl
 | cons a l ih=>show SV.int .u8 (Int.ofNat a.toNat)::u8s l=_;rw[ih];rfl
theorem j64:∀ (l:List UInt8),All2 (cS A φ) (l.map (fun b=>SV.int .u8 (b.toNat:Int))) (l.map (fun b=>Value.int .u8 (b.toNat:Int)))
 | []=>.nil
 | _::l=>.cons rfl (j64 l)
theorem jf9 {o:Oper} {args:Array Operand} {t u:TypeId} (ho:o.op=.call ⟨.builtin .append,args,#[t,u]⟩) {x y:Operand} (hargs:args.toList=[x,y]) {rv:Value}
 (hr:(Builtin.append_ #[t,u] o.type #[ρ x,ρ y]).run P w=.ok rv w'):(execOp ρ o).run P w=.ok (.value rv) w':=by
 have e:args.map ρ=#[ρ x,ρ y]:=by rw[←f1x,f2d,hargs];rfl
 simp only[execOp,ho,resolve,invoke,builtin,Sem.run_bind,Sem.run_pure,Result.andThen_ok,e,hr]
theorem jzq (t u ty e:TypeId) (i:TypeInfo) (ht:P.underlying t=some (.slice e)) (hu:P.underlying u=some .string) (hi:P.info? e=some i) (hs1:i.size=1)
 (b off n cap:Nat) (cur:Array Value) (ety:TypeId) (hg:w.heap[b]?=some (.cells cur ety (0,0))) (s:ByteArray)
 (hroom:n+s.size<=cap) (hfit:off+n+s.size<=cur.size) :
 (Builtin.append_ #[t,u] ty #[.slice (some ⟨b,off,none⟩) n cap,.string s]).run P w =
  .ok (.slice (some ⟨b,off,none⟩) (n+s.size) cap) (w.setRow b (cur.toList.take (off+n)++Lib.strCells s++cur.toList.drop (off+n+s.size)).toArray):=by
 have hf:=Lib.run_firstCells_string (P:=P) w 1 s
 have hst:=run_storeCells_at P b (off+n) ety (Lib.strCells s) 0 cur w hg (by simpa[Lib.strCells_length] using hfit) (Lib.strCells_oneCell s)
 simp only[f1i,Lib.strCells_length] at hst
 simp[Builtin.append_,run_underlying ht,run_underlying hu,sizeOf,typeInfo,hi,hs1,Builtin.lenOf,hroom,hf,jb1,hst]
theorem jtu (t u ty e:TypeId) (i:TypeInfo) (ht:P.underlying t=some (.slice e)) (hu:P.underlying u=some .string) (hi:P.info? e=some i) (A0:Option Addr) (n cap:Nat) (hn:n<=cap) (s:ByteArray) (h0:s.size=0) :
 (Builtin.append_ #[t,u] ty #[.slice A0 n cap,.string s]).run P w=.ok (.slice A0 n cap) w:=by
 have hf:(Builtin.firstCells i.size 0 (.string s)).run P w=.ok #[] w:=by simp[Builtin.firstCells]
 cases A0<;>simp[Builtin.append_,run_underlying ht,run_underlying hu,sizeOf,typeInfo,hi,Builtin.lenOf,h0,hn,hf,storeCells]
theorem j44 (hT:Tys P T) {o:Oper} (hE:jkh A φ π loc st fr o.op.operands.toList ρ) (k:Rel A φ h w) {args:Array Operand} {t t2:TypeId} (ho:o.op=.call ⟨.builtin .append,args,#[t,t2]⟩) {z:TypeId×TI} (hz:jbw T t=some z) (hEb:z.1≠bT)
 (hst:jc7 T t2=true) (hs1:z.2.size=1) (hb1:z.2.bytes=1) {x y:Operand} (hargs:args.toList=[x,y]) {x' y':Od} (hx:cO π loc x=some x') (hy:cO π loc y=some y') {v:AV} (hv:j15 st fr h z.1 x' y'=some (v,h')) :
 jb3 A (fun n=>h.lo<=n) φ h w v h' ((execOp ρ o).run P w):=by
 obtain⟨k1,k2,k3⟩:=jbl hT hz
 have hu2:=jji hT hst
 obtain⟨i,zv,d,q1,q2,q3,q4,hza,_,_,_,hzl⟩:=k2.ex
 obtain⟨u,hu,hv1⟩:=jaa.1 hv
 obtain⟨u',hu',hv2⟩:=jaa.1 hv1
 obtain⟨s',rfl,hv3⟩:=jca hv2
 obtain⟨l,rfl,hv4⟩:=jic hv3
 have hX:=hE _ (by rw[ho];exact jb0 (by rw[hargs];simp)) _ _ hx hu
 have hY:ρ y=.string ⟨l.toArray⟩:=hE _ (by rw[ho];exact jb0 (by rw[hargs];simp)) _ _ hy hu'
 have hsz:(⟨l.toArray⟩:ByteArray).size=l.length:=by simp[ByteArray.size]
 rw[ja7,jsl] at hv4
 have hsc:Lib.strCells ⟨l.toArray⟩=l.map (fun b=>Value.int .u8 (b.toNat:Int)):=by simp[Lib.strCells]
 have hnv:=j64 (A:=A) (φ:=φ) l
 have hi1:i.size=1:=q3.trans hs1
 have hnl:(l.map (fun b=>Value.int .u8 (b.toNat:Int))).length=l.length*1:=by simp
 exact(j2g k hEb (q3.trans hs1) (q4.trans hb1) (hza A φ) (hzl.trans hs1) hX hnv hnl (rn:=(execOp ρ o).run P w) (i:=i) (zv:=zv)
  ⟨fun e A0 n cap eX hn=>jf9 ho hargs (by rw[eX,hY];exact jtu t t2 _ _ i k1 hu2 q1 A0 n cap hn _ (by rw[hsz];exact e)),
   fun h0 h48 h63 eX=>jf9 ho hargs (by
    rw[eX,hY]
    have hr:=run_append_nil_string (P:=P) (w:=w) t t2 o.type z.1 i zv k1 hu2 q1 q2 ⟨l.toArray⟩ (by rw[hsz];exact h0) (by rw[hsz];exact h63) (by rw[hsz];exact h48)
    rw[hsz] at hr
    rw[hr]
    simp),
   fun b sLen sCap olds eX hlo hoc hg h63 hfit=>jf9 ho hargs (by
    rw[eX,hY]
    have hr:=Lib.run_append_grow_string (P:=P) (w:=w) t t2 o.type z.1 i zv k1 hu2 q1 q2 b sLen sCap olds hlo hoc ⟨l.toArray⟩ (by rw[hsz];exact hg) (by rw[hsz];exact h63) (by rw[hsz];exact hfit)
    rw[hsz,hsc] at hr
    exact hr),
   fun b off n cap cur ety eX hb hroom hfit=>jf9 ho hargs (by
    rw[eX,hY]
    have hr:=jzq (P:=P) t t2 o.type z.1 i k1 hu2 q1 hi1 b off n cap cur ety hb ⟨l.toArray⟩ (by rw[hsz];exact hroom) (by rw[hsz];rw[hi1] at hfit;simp at hfit;omega)
    rw[hsz,hsc] at hr
    rw[hr,hi1]
    simp)⟩ hv4).2
theorem jzr (hT:Tys P T) {t:TypeId} (h:jox T t=true):∃ ms,P.underlying t=some (.interface ms):=by
 unfold jox at h
 split at h
 .rename_i ti hti
  split at h
  .rename_i hk
   obtain⟨d,h1,h2⟩:=(hT _ _ hti).und
   rw[hk] at h2
   obtain⟨ms,h3⟩:=h2
   exact⟨ms,h1.trans (congrArg some h3)⟩
  .cases h
 .cases h
theorem jzs {y:Operand} {y':Od} (hy:cO π loc y=some y') (h:jow y'=true):y'=.c (.s (.ifc false))/\∃ c,y=.const c:=by
 unfold jow at h
 split at h
 .refine ⟨rfl,?_⟩
  cases y with
  | tmp t =>
   simp only[cO] at hy
   split at hy
   .cases hy
   .split at hy<;>cases hy
  | const c=>exact⟨c,rfl⟩
  | func f=>cases hy
  | global g =>
   simp only[cO] at hy
   split at hy<;>cases hy
 .cases h
theorem j65 (hT:Tys P T) {o:Oper} (hE:jkh A φ π loc st fr o.op.operands.toList ρ) {op:BinOp} {t:TypeId} {x y:Operand} {yt:TypeId} (ho:o.op=.binOp op t x y yt) (hop:qhq op=some neg) (ht:jox T t=true)
 {x' y':Od} (hx:cO π loc x=some x') (hy:cO π loc y=some y') (hn:jow y'=true) {v:AV} (hv:jd1 st fr h (bif neg then 6 else 5) x' y'=some (v,h')) :
 ∃ rv,(execOp ρ o).run P w=.ok (.value rv) w/\cV A φ v rv:=by
 obtain⟨ms,hu⟩:=jzr hT ht
 obtain⟨rfl,c,rfl⟩:=jzs hy hn
 have hv':j4q st fr h neg x' (.c (.s (.ifc false)))=some (v,h'):=by cases neg<;>exact hv
 obtain⟨_,p,q,ha,hb,hpq,rfl⟩:=jl4 hv'
 cases hb
 have hX:qhv p (ρ x):=hE _ (by rw[ho];simp[Op.operands]) _ _ hx ha
 have hY0:qhv false (ρ (.const c)):=hE _ (by rw[ho];simp[Op.operands]) _ _ hy (show ev st fr (.c (.s (.ifc false)))=some (.s (.ifc false)) from rfl)
 have hY:ρ (.const c)=.nilIface:=by
  rcases hY0 with⟨h1,_⟩ | ⟨_,h1⟩
  .cases h1
  .exact h1
 refine⟨.bool (if p=false then !neg else neg),?_,rfl⟩
 rcases hX with⟨rfl,tt,pp,h1⟩ | ⟨rfl,h1⟩
 .have eq0:(Op.equal t (.iface tt pp) .nilIface).run P w=.ok false w:=by
   show(Op.equalIn (9999+1) t (.iface tt pp) .nilIface).run P w=_
   unfold Op.equalIn
   simp only[Sem.run_bind,run_underlying hu,Result.andThen_ok]
   rfl
  rcases jfj hop with⟨rfl,rfl⟩ | ⟨rfl,rfl⟩
  .simp [execOp,ho,h1,hY,eqGuard,Go.binOp,eq0]
  .simp [execOp,ho,h1,hY,eqGuard,Go.binOp,eq0]
 .have eq0:(Op.equal t .nilIface .nilIface).run P w=.ok true w:=by
   show(Op.equalIn (9999+1) t .nilIface .nilIface).run P w=_
   unfold Op.equalIn
   simp only[Sem.run_bind,run_underlying hu,Result.andThen_ok]
   rfl
  rcases jfj hop with⟨rfl,rfl⟩ | ⟨rfl,rfl⟩
  .simp [execOp,ho,h1,hY,eqGuard,Go.binOp,eq0]
  .simp [execOp,ho,h1,hY,eqGuard,Go.binOp,eq0]
def j66:AO->Prop
 | .call _ _=>True
 | .callv _ _=>True
 | _=>False
theorem j67 (hT:Tys P T) {o:Oper} (hE:jkh A φ π loc st fr o.op.operands.toList ρ) (k:Rel A φ h w) {ao:AO} (hc:cOp T π loc o.op=some (.a ao)) (hn:¬ j66 ao) {cl:FuncId->List AV->Hp->R} (hv:aop cl st fr h ao=some (v,h')) :
 jb3 A (jzk h (jcj st fr (.a ao))) φ h w v h' ((execOp ρ o).run P w)/\jb3 A (fun n=>h.lo<=n) φ h w v h' ((execOp ρ o).run P w):=by
 have jfy:∀ {V:Nat->Prop},jb3 A (fun _=>False) φ h w v h' ((execOp ρ o).run P w)->jb3 A V φ h w v h' ((execOp ρ o).run P w):=fun k=>k.mono (fun _ h=>h.elim)
 cases hop:o.op with
 | alloc e =>
  rw[hop] at hc
  obtain⟨ti,hti,e⟩:=f0a.1 hc
  cases e
  have m:=qhx (ρ:=ρ) hT k hop hti hv
  exact⟨jfy m,jfy m⟩
 | box e x =>
  rw[hop] at hc
  obtain⟨y,hy,e⟩:=f0a.1 hc
  cases e
  have m:=qhy (P:=P) hE k hop hy hv
  exact⟨jfy m,jfy m⟩
 | buildSlice t n ps =>
  rw[hop] at hc
  simp only[cOp] at hc
  split at hc
  .rename_i z hz
   cases hb:Nat.ble (n*z.2.size) 16777216 with
   | true =>
    rw[hb] at hc
    obtain⟨l,hl,e⟩:=f0a.1 hc
    cases e
    have m:=j4y hT hE k hop hz hb hl hv
    exact⟨jfy m,jfy m⟩
   | false=>rw[hb] at hc;cases hc
  .cases hc
 | makeSlice t l c =>
  rw[hop] at hc
  simp only[cOp] at hc
  split at hc
  .rename_i z l' c' hz hl hc'
   cases hc
   have m:=jzl hT hE k hop hz hl hc' hv
   exact⟨jfy m,jfy m⟩
  .cases hc
 | load t x =>
  rw[hop] at hc
  simp only[cOp] at hc
  split at hc
  .rename_i ti y hti hy
   cases hb:ti1 ti with
   | true =>
    rw[hb] at hc
    cases hc
    obtain⟨rfl,rv,h1,h2⟩:=qco hT hE k hop hti hb hy hv
    have m:jb3 A (fun _=>False) φ h' w v h' ((execOp ρ o).run P w):=⟨_,rv,w,φ,h1,rfl,Step.refl _ k rfl rfl rfl rfl,k,h2⟩
    exact⟨jfy m,jfy m⟩
   | false=>rw[hb] at hc;cases hc
  .cases hc
 | store t x y =>
  rw[hop] at hc
  simp only[cOp] at hc
  split at hc
  .rename_i ti x' y' hti hx hy
   cases hc
   exact j60 hT hE k hop hti hx hy hv
  .cases hc
 | call c =>
  obtain⟨callee,args,ts⟩:=c
  rw[hop] at hc
  simp only[cOp,j6k] at hc
  split at hc
  .rename_i as has
   split at hc
   .cases hc;exact absurd trivial hn
   .obtain ⟨y,_,e⟩:=f0a.1 hc
    cases e;exact absurd trivial hn
   .rename_i b
    split at hc
    .rename_i x
     split at hc
     .rename_i t ht
      cases hst:jc7 T t with
      | false=>rw[hst] at hc;obtain⟨_,_,e⟩:=f0a.1 hc;cases e
      | true =>
       rw[hst] at hc
       cases hc
       obtain⟨q,ho,hx⟩:=jtp has
       obtain rfl:=jc9 (by decide) (show jd1 st fr h 3 x x=some (v,h') from hv)
       obtain⟨rv,h1,h2⟩:=j43 hT hE hop ht (jji hT hst) ho hx hv
       have m:jb3 A (fun _=>False) φ h' w v h' ((execOp ρ o).run P w):=⟨_,rv,w,φ,h1,rfl,Step.refl _ k rfl rfl rfl rfl,k,h2⟩
       exact⟨jfy m,jfy m⟩
     .cases hc
    .cases hc
    .cases hc
    .rename_i x y
     obtain⟨q,q',ho,hx,hy⟩:=jtq has
     split at hc
     .rename_i t ht
      obtain⟨z,hz,e⟩:=f0a.1 hc
      cases e
      have m:=qcp hT hE k hop ht hz ho hx hy hv
      exact⟨m,m⟩
     .cases hc
    .rename_i x
     obtain⟨q,ho,hx⟩:=jtp has
     split at hc
     .rename_i t ht
      obtain⟨z,hz,e⟩:=f0a.1 hc
      cases e
      have m:=j61 hT hE k hop ht hz ho hx hv
      exact⟨m,m⟩
     .cases hc
    .rename_i x y
     obtain⟨q,q',ho,hx,hy⟩:=jtq has
     split at hc
     .rename_i t u hts
      obtain⟨z,hz,hEb,⟨rfl,e⟩ | ⟨hu,hbt,hs1,hb1,e⟩⟩:=jkb hc
      .cases e
       have hts':ts=#[t,t]:=by rw[←f1x,hts]
       subst hts'
       obtain⟨m1,m2⟩:=qhz hT hE k hop hz hEb ho hx hy hv
       refine⟨m1.mono (fun n hn=>?_),m2⟩
       revert hn
       cases jcj st fr (.a (.app z.1 z.2.size z.2.bytes x y))<;>first | exact fun h=>h | exact fun h=>h.elim
      .cases e
       have hts':ts=#[t,u]:=by rw[←f1x,hts]
       subst hts'
       have m:=j44 hT hE k hop hz hEb hu hs1 hb1 ho hx hy (show j15 st fr h z.1 x y=some (v,h') from hv)
       exact⟨m,m⟩
     .cases hc
    .cases hc;cases hv
   .cases hc;cases hv
  .cases hc
 | makeMap t r =>
  rw[hop] at hc
  cases r with
  | none =>
   obtain⟨z,hz,e⟩:=f0a.1 hc
   cases e
   have m:=j62 (P:=P) (ρ:=ρ) k hop hv
   exact⟨jfy m,jfy m⟩
  | some _=>cases hc;cases hv
 | lookup t x y okf =>
  rw[hop] at hc
  simp only[cOp] at hc
  split at hc
  .rename_i z x' y' hz hx hy
   cases hc
   obtain⟨rfl,rv,h1,h2⟩:=qcq hT hE k hop hz hx hy hv
   have m:jb3 A (fun _=>False) φ h' w v h' ((execOp ρ o).run P w):=⟨_,rv,w,φ,h1,rfl,Step.refl _ k rfl rfl rfl rfl,k,h2⟩
   exact⟨jfy m,jfy m⟩
  .cases hc
 | mapUpdate t x y u =>
  rw[hop] at hc
  simp only[cOp] at hc
  split at hc
  .rename_i z x' y' u' hz hx hy hu
   cases hc
   have m:=qcr hT hE k hop hz hx hy hu hv
   exact⟨m,m⟩
  .cases hc
 | move x=>rw[hop] at hc;obtain⟨_,_,e⟩:=f0a.1 hc;cases e
 | assign x=>rw[hop] at hc;obtain⟨_,_,e⟩:=f0a.1 hc;cases e
 | pick c a b=>rw[hop] at hc;simp only[cOp] at hc;split at hc<;>cases hc
 | build t ps =>
  rw[hop] at hc
  simp only[cOp] at hc
  split at hc
  .split at hc
   .obtain ⟨_,_,e⟩:=f0a.1 hc;cases e
   .split at hc
    .obtain ⟨_,_,e⟩:=f0a.1 hc;cases e
    .cases hc
   .cases hc
  .cases hc
 | binOp op t x y yt =>
  rw[hop] at hc
  simp only[cOp] at hc
  split at hc
  .cases hi:j17 T t with
   | true=>rw[hi] at hc;obtain⟨_,_,e⟩:=f0a.1 hc;cases e
   | false =>
    rw[hi] at hc
    simp only[cond_false] at hc
    cases hsl:(jbw T t).isSome with
    | true=>rw[hsl] at hc;obtain⟨_,_,e⟩:=f0a.1 hc;cases e
    | false =>
     rename_i x' y' hx' hy'
     rw[hsl] at hc
     simp only[cond_false] at hc
     split at hc
     .cases hc
     .rename_i n hn' _
      cases hpt:jov T t with
      | false =>
       rw[hpt] at hc
       cases hst:jc7 T t with
       | false =>
        rw[hst] at hc
        simp only[cond_false] at hc
        cases hif:(jox T t&&jow y') with
        | false=>rw[hif] at hc;cases hc
        | true =>
         rw[hif] at hc
         cases hc
         obtain⟨hi1,hi2⟩:=f0y _ _▸hif
         obtain rfl:=jc9 (by cases n<;>decide) (show jd1 st fr h _ x' y'=some (v,h') from hv)
         obtain⟨rv,h1,h2⟩:=j65 hT hE hop hn' hi1 hx' hy' hi2 hv
         have m:jb3 A (fun _=>False) φ h' w v h' ((execOp ρ o).run P w):=⟨_,rv,w,φ,h1,rfl,Step.refl _ k rfl rfl rfl rfl,k,h2⟩
         exact⟨jfy m,jfy m⟩
       | true =>
        rw[hst] at hc
        cases hc
        obtain rfl:=jc9 (by cases n<;>decide) (show jd1 st fr h _ x' y'=some (v,h') from hv)
        obtain⟨rv,h1,h2⟩:=j63 hT hE hop hn' hx' hy' hv
        have m:jb3 A (fun _=>False) φ h' w v h' ((execOp ρ o).run P w):=⟨_,rv,w,φ,h1,rfl,Step.refl _ k rfl rfl rfl rfl,k,h2⟩
        exact⟨jfy m,jfy m⟩
      | true =>
       rw[hpt] at hc
       cases hc
       obtain⟨rfl,rv,h1,h2⟩:=qh0 hT hE k hop hpt hn' hx' hy' hv
       have m:jb3 A (fun _=>False) φ h' w v h' ((execOp ρ o).run P w):=⟨_,rv,w,φ,h1,rfl,Step.refl _ k rfl rfl rfl rfl,k,h2⟩
       exact⟨jfy m,jfy m⟩
     .split at hc
      .cases hst:jc7 T t with
       | false=>rw[hst] at hc;cases hc
       | true =>
        rw[hst] at hc
        cases hc
        obtain rfl:=jc9 (by decide) (show jd1 st fr h 4 x' y'=some (v,h') from hv)
        obtain⟨rv,h1,h2⟩:=j42 hE hop hx' hy' hv
        have m:jb3 A (fun _=>False) φ h' w v h' ((execOp ρ o).run P w):=⟨_,rv,w,φ,h1,rfl,Step.refl _ k rfl rfl rfl rfl,k,h2⟩
        exact⟨jfy m,jfy m⟩
      .cases hc
  .cases hc
 | unOp op t x=>rw[hop] at hc;cases op<;>first | (obtain⟨_,_,e⟩:=f0a.1 hc;cases e;done) | (cases hc;cases hv)
 | makeFunc fn fst caps =>
  rw[hop] at hc
  cases fn<;>first | (cases hc;cases hv;done) | skip
  simp only[cOp] at hc
  cases hb:Nat.beq fst.size 0 with
  | true=>rw[hb] at hc;obtain⟨_,_,e⟩:=f0a.1 hc;cases e
  | false=>rw[hb] at hc;cases hc
 | convert s d x =>
  rw[hop] at hc
  simp only[cOp] at hc
  split at hc
  .rename_i ts ti x' hs' hd' hx'
   split at hc
   .cases hc
   .rename_i hk
    cases hb:jen T s with
    | false=>rw[hb] at hc;cases hc
    | true =>
     rw[hb] at hc
     cases hc
     obtain rfl:=jc9 (by decide) (show jd1 st fr h 0 x' x'=some (v,h') from hv)
     obtain⟨d2,hd2,hk2⟩:=(hT _ _ hd').und
     rw[hk] at hk2
     obtain⟨rv,h1,h2⟩:=qcs (y':=x') hT hE k hop hb (hd2.trans (congrArg some hk2)) hx' hv
     have m:jb3 A (fun _=>False) φ h' w v h' ((execOp ρ o).run P w):=⟨_,rv,w,φ,h1,rfl,Step.refl _ k rfl rfl rfl rfl,k,h2⟩
     exact⟨jfy m,jfy m⟩
   .cases hc
  .cases hc
 | nilCheck x=>rw[hop] at hc;obtain⟨_,_,e⟩:=f0a.1 hc;cases e
 | slice t x lo hi mx =>
  rw[hop] at hc
  cases mx with
  | some m=>cases hi with
   | none=>cases hc;cases hv
   | some h=>simp only[cOp] at hc;split at hc<;>cases hc
  | none =>
   simp only[cOp] at hc
   split at hc
   .cases hc
   .rename_i x' hs hx hlo hhi
    obtain⟨z,hz,e⟩:=f0a.1 hc
    cases e
    have hl:lo=none:=by
     cases lo with
     | none=>rfl
     | some q=>obtain⟨_,_,e⟩:=f0a.1 (show(cO π loc q).map some=some none from hlo);cases e
    have hh:hi=none:=by
     cases hi with
     | none=>rfl
     | some q=>obtain⟨_,_,e⟩:=f0a.1 (show(cO π loc q).map some=some none from hhi);cases e
    subst hl hh
    have m:=j41 hT hE k hop hz hx hv
    exact⟨jfy m,jfy m⟩
   .cases hc
 | fieldAddr t x f=>rw[hop] at hc;simp only[cOp] at hc;split at hc<;>cases hc
 | field t x f =>
  rw[hop] at hc
  simp only[cOp] at hc
  split at hc
  .rename_i p _ _ _
   cases hb:ti1 p.2 with
   | true=>rw[hb] at hc;cases hc
   | false=>rw[hb] at hc;cases hc
  .cases hc
 | indexAddr t x i=>rw[hop] at hc;simp only[cOp] at hc;split at hc<;>cases hc
 | index t x i =>
  rw[hop] at hc
  simp only[cOp] at hc
  cases hst:jc7 T t with
  | true =>
   rw[hst] at hc
   simp only[cond_true] at hc
   split at hc<;>cases hc
  | false =>
  rw[hst] at hc
  simp only[cond_false] at hc
  split at hc
  .rename_i z _ _ _ _ _
   cases hb:ti1 z.2 with
   | true=>rw[hb] at hc;cases hc
   | false=>rw[hb] at hc;cases hc
  .cases hc
 | extract x i=>rw[hop] at hc;obtain⟨_,_,e⟩:=f0a.1 hc;cases e
 | _=>rw[hop] at hc;cases hc;cases hv
end
end Go.Proofs.YtdbklpgagdbpiaaDoor.Ev
