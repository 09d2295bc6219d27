/- A range over a function, in whose rounds the interpreter runs the body: what a round is, in the fence. No program in sight. -/
import Derived.Test.YtbogkjjoigfbjaaRun
import Derived.RangeFuncLeaves
import Derived.RangeFuncFrom
import Derived.RangeFuncCalls
import Derived.LoopNIn
import Derived.OrdersIn
import Derived.Test.YtbogkjjoigfbjaaFlo
namespace Go.Proofs.Ytbogkjjoigfbjaa.Ev
noncomputable section
open Go Go.RowKit
set_option linter.all false
variable {w' w'':World}
def j11:Op->Bool
 | .defer _=>false
 | _=>true
section
variable {P:Program}
end
def jso:Code->Bool
 | .skip=>true
 | .region _ ops false=>ops.toList.all (fun o=>j11 o.op)
 | .seq a b=>jso a&&jso b
 | .cond _ a b=>jso a&&jso b
 | .block _ b=>jso b
 | .loop b=>jso b
 | .exit _=>true
 | .ret=>true
 | _=>false
section
variable {P:Program} {A:Nat->Int} {T:Tr TI} {F:Fns}
end
def qau (v:SV):Option (IntKind×Int):=SV.casesOn (motive_1:=fun _=>Option (IntKind×Int)) v (fun _=>none) (fun k n=>some (k,n)) (fun _=>none) (fun _ _=>none) none (fun _ _ _ _ _ _=>none) none (fun _ _=>none) none none (fun _=>none) (fun _=>none) (fun _=>none) (fun _=>none) none
def j9k (a b:SV):Bool:=Option.rec (motive:=fun _=>Bool) false (fun p=>Option.rec (motive:=fun _=>Bool) false (fun q=>oif (Nat.beq (ikn p.1) (ikn q.1)) (ieq p.2 q.2) false) (qau b)) (qau a)
def qav (l:List SV):List SV->Bool :=
 List.rec (motive:=fun _=>List SV->Bool) (fun r=>List.casesOn (motive:=fun _=>Bool) r true (fun _ _=>false)) (fun a _ ih r=>List.casesOn (motive:=fun _=>Bool) r false (fun b r=>oif (j9k a b) (ih r) false)) l
def qbd (b off len:Nat) (c:List SV):Bool :=
 List.casesOn (motive:=fun _=>Bool) c false (fun v r=>List.casesOn (motive:=fun _=>Bool) r
  (SV.casesOn (motive_1:=fun _=>Bool) v (fun _=>false) (fun _ _=>false) (fun _=>false) (fun _ _=>false) false (fun b' o n _ _ z=>oif (Nat.beq b b') (oif (Nat.beq off o) (oif (Nat.beq len n) (Nat.beq z 1) false) false) false) false (fun _ _=>false) false false (fun _=>false) (fun _=>false) (fun _=>false) (fun _=>false) false)
  (fun _ _=>false))
section
variable (F:Fns) (fuel:Nat)
def qbe (es:List SV) (c:List SV):Bool :=
 List.casesOn (motive:=fun _=>Bool) c false (fun v r=>List.casesOn (motive:=fun _=>Bool) r
  (SV.casesOn (motive_1:=fun _=>Bool) v (fun _=>false) (fun _ _=>false) (fun _=>false) (fun _ _=>false) false (fun _ _ _ _ _ _=>false) false (fun _ _=>false) false false (fun _=>false) (fun _=>false)
   (fun rows=>Option.rec (motive:=fun _=>Bool) false (fun l=>qav l es) (jqh 1 rows)) (fun _=>false) false)
  (fun _ _=>false))
def j7q (h:Hp) (bs off b o N:Nat) (es:List SV):Bool :=
 Option.rec (motive:=fun _=>Bool) false (fun c=>oif (qbd b o N c) (Option.rec (motive:=fun _=>Bool) false (fun c=>qav c es) (rd h b o N)) (oif (Nat.beq (jbu es) N) (qbe es c) false)) (rd h bs off 1)
def rounds (body:IC) (fr:List AV) (d bs off b o N:Nat) (es:List SV) (k:Nat):Hp->Option Hp :=
 Nat.rec (motive:=fun _=>Hp->Option Hp) (fun h=>some h) (fun j ih h=>ob (jcq es j) (fun e=>ob (run F fuel body (.mk (jr4 fr d (.s e)) h)) (fun p =>
  Ex.casesOn (motive:=fun _=>Option Hp) p.1 (St.casesOn (motive:=fun _=>Option Hp) p.2 (fun _ h'=>oif (j7q h' bs off b o N es) (ih h') none)) (fun _=>none) none))) k
end
section
variable {P:Program} {A:Nat->Int} {φ φ':Phi} {h h':Hp} {w W:World}
theorem Rel.notObj (k:Rel A φ h w) {l:Nat} {o:Obj} (hl:w.heap[l]?=some o) (h1:∀ c t z,o≠.cells c t z) (h2:∀ e c,o≠.map e c) {n:Nat} {L:Lc} (hn:(h.get n).isSome=true) (hL:φ n=some L):L.b≠l:=by
 intro e
 cases hx:h.get n with
 | none=>rw[hx] at hn;cases hn
 | some x =>
  have hb:=k.blk n x hx
  cases x with
  | arr cs ty =>
   obtain⟨L',c,e1,e2,_⟩:=hb
   rw[hL] at e1;cases e1
   rw[e,hl] at e2
   exact h1 _ _ _ (Option.some.inj e2)
  | map va es =>
   obtain⟨L',es',cl,e1,e2,_⟩:=hb
   rw[hL] at e1;cases e1
   rw[e,hl] at e2
   exact h2 _ _ (Option.some.inj e2)
end
section
variable {P:Program} {A:Nat->Int} {T:Tr TI} {F:Fns}
end
inductive IB where
 | c (ic:IC)
 | seq (a b:IB)
 | block (id:Nat) (b:IB)
 | loop (b:IB)
 | back (g:Od) (d:Nat) (b:IC)
 | flo (l:List (IOper×List Nat))
def j7r {α:Type}:Option α->Bool
 | none=>true
 | some _=>false
def j9l (T:Tr TI) (fl:Bool) (π:List Nat) (nt:Nat) (ops:List Oper):Option (List (IOper×List Nat)):=bif fl then (match qbc T π nt ops with
 | some l=>bif j7p [] l then some l else none
 | none=>none) else none
def cB (T:Tr TI) (fl:Bool) (π:List Nat) (nt:Nat):Code->Option IB
 | .seq a b=>match cB T fl π nt a,cB T fl π nt b with
  | some x,some y=>some (.seq x y)
  | _,_=>none
 | .block id b=>(cB T fl π nt b).map (.block id)
 | .loop b=>(cB T fl π nt b).map .loop
 | .rangeFunc g ps asg body=>match ps.toList,asg with
  | [tk,tv],.region _ ops false=>match ops.toList with
   | [o1]=>match o1.op,o1.dst,o1.guard with
    | .assign (.tmp tv'),some d0,none=>match Nat.beq tv tv'&&(!Nat.beq tk tv&&(jso body&&(j7r (idx tk π 0)&&(j7r (idx tv π 0)&&(Nat.blt d0 nt&&Nat.blt tv nt))))) with
     | true=>match cO π [] g,idx d0 π 0,jf3 T [] π nt body with
      | some x,some d,some ib=>some (.back x d ib)
      | _,_,_=>none
     | false=>none
    | _,_,_=>none
   | _=>none
  | _,_=>none
 | .region id ops true=>match j9l T fl π nt ops.toList with
  | some l=>some (.flo l)
  | none=>(jf3 T [] π nt (.region id ops true)).map .c
 | c=>(jf3 T [] π nt c).map .c
section
variable (F:Fns) (fuel:Nat) (B:FuncId->Bool)
def j7s (h:Hp) (v:SV):Option (Nat×Nat×Nat×List SV) :=
 jbh (.s v) none (fun b o N _ _ _=>ob (rd h b o N) (fun es=>some (b,o,N,es))) (fun rows=>ob (jqh 1 rows) (fun es=>some (0,0,jbu es,es))) none
def ju0 (fr:List AV) (h:Hp) (d:Nat) (ib:IC) (bs off:Nat):Option (Ex×St) :=
 ob (rd h bs off 1) (fun c=>List.casesOn (motive:=fun _=>Option (Ex×St)) c none (fun v _=>ob (j7s h v) (fun q =>
                 oif (Nat.ble 1 q.2.2.1) (oif (Nat.ble q.2.2.1 1000000) (oif (j7q h bs off q.1 q.2.1 q.2.2.1 q.2.2.2) (ob (rounds F fuel ib fr d bs off q.1 q.2.1 q.2.2.1 q.2.2.2 q.2.2.1 h) (fun h'=>some (.normal,.mk fr h'))) none) none) none)))
def ju1 (s:St) (x:Od) (d:Nat) (ib:IC):Option (Ex×St) :=
 St.casesOn (motive:=fun _=>Option (Ex×St)) s (fun fr h=>ob (ev [] fr x) (fun v=>jr5 v (fun gf caps=>oif (B gf) (List.casesOn (motive:=fun _=>Option (Ex×St)) caps none (fun p r=>List.casesOn (motive:=fun _=>Option (Ex×St)) r (ju0 F fuel fr h d ib p.1 p.2) (fun _ _=>none))) none)))
def j9m (s:St) (l:List (IOper×List Nat)):Option (Ex×St):=St.casesOn (motive:=fun _=>Option (Ex×St)) s (fun fr h=>ob (jwh (jay F (run F fuel)) l [] [] fr h) (fun s=>some (.normal,s)))
abbrev RB:=IB->St->Option (Ex×St)
def j9n (ih:RB) (s:St) (a b:IB):Option (Ex×St):=ob (ih a s) (fun p=>Ex.casesOn (motive:=fun _=>Option (Ex×St)) p.1 (ih b p.2) (fun _=>some p) (some p))
def j4v (ih:RB) (s:St) (id:Nat) (b:IB):Option (Ex×St):=ob (ih b s) (fun p=>Ex.casesOn (motive:=fun _=>Option (Ex×St)) p.1 (some p) (fun k=>oif (Nat.beq k id) (some (.normal,p.2)) (some p)) (some p))
def j7t (ih:RB) (s:St) (b:IB):Option (Ex×St):=ob (ih b s) (fun p=>Ex.casesOn (motive:=fun _=>Option (Ex×St)) p.1 (ih (.loop b) p.2) (fun _=>some p) (some p))
def j7u (ih:RB) (c:IB) (s:St):Option (Ex×St) :=
 IB.casesOn (motive:=fun _=>Option (Ex×St)) c (fun ic=>run F fuel ic s) (j9n ih s) (j4v ih s) (j7t ih s) (ju1 F fuel B s) (j9m F fuel s)
def j12 (n:Nat):RB:=Nat.rec (motive:=fun _=>RB) (fun _ _=>none) (fun _ ih=>j7u F fuel B ih) n
end
def jrd (d d':List Deferred) (w w':World):Prop :=
 ∃ Ds:List Nat,d'=Ds.map (fun D=>({ target:=.collected D,args:=#[] }:Deferred))++d/\Ds.Pairwise (fun x y=>x≠y)/\∀ D∈Ds,w.heap.size<=D/\w'.heap[D]?=some (.deferred (some []))
section
variable {P:Program} {A:Nat->Int} {T:Tr TI} {F:Fns} {fuel:Nat} {B:FuncId->Bool}
theorem jrd.refl (d:List Deferred) (w w':World):jrd d d w w':=⟨[],rfl,.nil,fun D h=>by simp at h⟩
theorem jwi {Ds:List Nat} {φ φ':Phi} {h h':Hp} {V:Nat->Prop} (r:Rel A φ h w') (s:Step V φ φ' h h' w' w'') (hD:∀ D∈Ds,w'.heap[D]?=some (.deferred (some []))):∀ D∈Ds,w''.heap[D]?=some (.deferred (some [])):=by
 intro D hm
 have h1:=hD D hm
 rw[s.old D (f00.1 h1).1 (fun n L _ hn hL=>r.notObj h1 (fun c t z e=>by cases e) (fun e c e'=>by cases e') hn hL)]
 exact h1
theorem jrd.trans {d d' d'':List Deferred} {w:World} {φ φ':Phi} {h h':Hp} {V:Nat->Prop} (m:jrd d d' w w') (r:Rel A φ h w') (s:Step V φ φ' h h' w' w'') (hs:w.heap.size<=w'.heap.size) (m':jrd d' d'' w' w''):jrd d d'' w w'':=by
 have hl:∀ (D:Nat),w'.heap[D]?=some (.deferred (some []))->D<w'.heap.size:=fun D h1=>(f00.1 h1).1
 obtain⟨Ds0,e0,hp0,hD0⟩:=m
 have hk:=jwi r s (fun D hm=>(hD0 D hm).2)
 obtain⟨Ds1,e1,hp1,hD1⟩:=m'
 refine⟨Ds1++Ds0,by rw[e1,e0];simp,List.pairwise_append.2 ⟨hp1,hp0,fun x hx y hy e=>?_⟩,fun D hm=>?_⟩
 .have h1:=(hD1 x hx).1
  have h2:=hl y (hD0 y hy).2
  omega
 .rcases f0i.1 hm with h1 | h1
  .exact ⟨f0t hs (hD1 D h1).1,(hD1 D h1).2⟩
  .exact ⟨(hD0 D h1).1,hk D h1⟩
def j4w (A:Nat->Int) (π:List Nat) (φ:Phi) (h:Hp) (w:World) (a:Act) (e:Ex) (s:St) (Q:Exit->Act->World->Prop):Prop :=
 ∀ φ' fr' h' a' w',s=.mk fr' h'->Step (fun n=>h.lo<=n) φ φ' h h' w w'->Rel A φ' h' w'->FrR A φ' π fr' a'->jrd a.defers a'.defers w w'->a'.tmps.size=a.tmps.size->Q (qat e) a' w'
theorem j4w.trans {π:List Nat} {φ ψ:Phi} {h h':Hp} {w:World} {a a':Act} {e:Ex} {s:St} {Q:Exit->Act->World->Prop} (k:j4w A π φ h w a e s Q) (st:Step (fun n=>h.lo<=n) φ ψ h h' w w') (r:Rel A ψ h' w') (hd:jrd a.defers a'.defers w w') (hs:a'.tmps.size=a.tmps.size):j4w A π ψ h' w' a' e s Q :=
 fun φ' fr' h'' a'' w'' e1 s1 r1 f1 d1 z1=>k φ' fr' h'' a'' w'' e1 (st.trans' s1) r1 f1 (hd.trans r s1 st.size d1) (z1.trans hs)
end
end
end Go.Proofs.Ytbogkjjoigfbjaa.Ev
