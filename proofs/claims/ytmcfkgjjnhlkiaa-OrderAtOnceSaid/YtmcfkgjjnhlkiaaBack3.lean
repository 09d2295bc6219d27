/- A range over a function, in whose rounds the interpreter runs the body: what a round is, in the fence. No program in sight. -/
import Derived.Test.YtmcfkgjjnhlkiaaRun
import Derived.RangeFuncLeaves
import Derived.RangeFuncFrom
import Derived.RangeFuncCalls
import Derived.LoopNIn
import Derived.OrdersIn
import Derived.Test.YtmcfkgjjnhlkiaaFlo
namespace Go.Proofs.Ytmcfkgjjnhlkiaa.Ev
noncomputable section
open Go Go.RowKit
set_option linter.all false
variable {w' w'':World}
def jzz:Op->Bool
 | .defer _=>false
 | _=>true
section
variable {P:Program}
end
def jq8:Code->Bool
 | .skip=>true
 | .region _ ops false=>ops.toList.all (fun o=>jzz o.op)
 | .seq a b=>jq8 a&&jq8 b
 | .cond _ a b=>jq8 a&&jq8 b
 | .block _ b=>jq8 b
 | .loop b=>jq8 b
 | .exit _=>true
 | .ret=>true
 | _=>false
section
variable {P:Program} {A:Nat->Int} {T:Tr TI} {F:Fns}
end
def j8s (v:SV):Option (IntKind×Int):=SV.casesOn (motive_1:=fun _=>Option (IntKind×Int)) v (fun _=>none) (fun k n=>some (k,n)) (fun _=>none) (fun _ _=>none) none (fun _ _ _ _ _ _=>none) none (fun _ _=>none) none none (fun _=>none) (fun _=>none) (fun _=>none) (fun _=>none) none
def j64 (a b:SV):Bool:=Option.rec (motive:=fun _=>Bool) false (fun p=>Option.rec (motive:=fun _=>Bool) false (fun q=>oif (Nat.beq (ikn p.1) (ikn q.1)) (ieq p.2 q.2) false) (j8s b)) (j8s a)
def j8t (l:List SV):List SV->Bool :=
 List.rec (motive:=fun _=>List SV->Bool) (fun r=>List.casesOn (motive:=fun _=>Bool) r true (fun _ _=>false)) (fun a _ ih r=>List.casesOn (motive:=fun _=>Bool) r false (fun b r=>oif (j64 a b) (ih r) false)) l
def j9b (b off len:Nat) (c:List SV):Bool :=
 List.casesOn (motive:=fun _=>Bool) c false (fun v r=>List.casesOn (motive:=fun _=>Bool) r
  (SV.casesOn (motive_1:=fun _=>Bool) v (fun _=>false) (fun _ _=>false) (fun _=>false) (fun _ _=>false) false (fun b' o n _ _ z=>oif (Nat.beq b b') (oif (Nat.beq off o) (oif (Nat.beq len n) (Nat.beq z 1) false) false) false) false (fun _ _=>false) false false (fun _=>false) (fun _=>false) (fun _=>false) (fun _=>false) false)
  (fun _ _=>false))
section
variable (F:Fns) (fuel:Nat)
def j9c (es:List SV) (c:List SV):Bool :=
 List.casesOn (motive:=fun _=>Bool) c false (fun v r=>List.casesOn (motive:=fun _=>Bool) r
  (SV.casesOn (motive_1:=fun _=>Bool) v (fun _=>false) (fun _ _=>false) (fun _=>false) (fun _ _=>false) false (fun _ _ _ _ _ _=>false) false (fun _ _=>false) false false (fun _=>false) (fun _=>false)
   (fun rows=>Option.rec (motive:=fun _=>Bool) false (fun l=>j8t l es) (jt4 1 rows)) (fun _=>false) false)
  (fun _ _=>false))
def j5g (h:Hp) (bs off b o N:Nat) (es:List SV):Bool :=
 Option.rec (motive:=fun _=>Bool) false (fun c=>oif (j9b b o N c) (Option.rec (motive:=fun _=>Bool) false (fun c=>j8t c es) (rd h b o N)) (oif (Nat.beq (jbo es) N) (j9c es c) false)) (rd h bs off 1)
def rounds (body:IC) (fr:List AV) (d bs off b o N:Nat) (es:List SV) (k:Nat):Hp->Option Hp :=
 Nat.rec (motive:=fun _=>Hp->Option Hp) (fun h=>some h) (fun j ih h=>ob (jc5 es j) (fun e=>ob (run F fuel body (.mk (jsw fr d (.s e)) h)) (fun p =>
  Ex.casesOn (motive:=fun _=>Option Hp) p.1 (St.casesOn (motive:=fun _=>Option Hp) p.2 (fun _ h'=>oif (j5g h' bs off b o N es) (ih h') none)) (fun _=>none) none))) k
end
section
variable {P:Program} {A:Nat->Int} {φ φ':Phi} {h h':Hp} {w W:World}
theorem Rel.notObj (k:Rel A φ h w) {l:Nat} {o:Obj} (hl:w.heap[l]?=some o) (h1:∀ c t z,o≠.cells c t z) (h2:∀ e c,o≠.map e c) {n:Nat} {L:Lc} (hn:(h.get n).isSome=true) (hL:φ n=some L):L.b≠l:=by
 intro e
 cases hx:h.get n with
 | none=>rw[hx] at hn;cases hn
 | some x =>
  have hb:=k.blk n x hx
  cases x with
  | arr cs ty =>
   obtain⟨L',c,e1,e2,_⟩:=hb
   rw[hL] at e1;cases e1
   rw[e,hl] at e2
   exact h1 _ _ _ (Option.some.inj e2)
  | map va es =>
   obtain⟨L',es',cl,e1,e2,_⟩:=hb
   rw[hL] at e1;cases e1
   rw[e,hl] at e2
   exact h2 _ _ (Option.some.inj e2)
end
section
variable {P:Program} {A:Nat->Int} {T:Tr TI} {F:Fns}
end
inductive IB where
 | c (ic:IC)
 | seq (a b:IB)
 | block (id:Nat) (b:IB)
 | loop (b:IB)
 | back (g:Od) (d:Nat) (b:IC)
 | flo (l:List (IOper×List Nat))
def j5h {α:Type}:Option α->Bool
 | none=>true
 | some _=>false
def j65 (T:Tr TI) (fl:Bool) (π:List Nat) (nt:Nat) (ops:List Oper):Option (List (IOper×List Nat)):=bif fl then (match j9a T π nt ops with
 | some l=>bif j5f [] l then some l else none
 | none=>none) else none
def cB (T:Tr TI) (fl:Bool) (π:List Nat) (nt:Nat):Code->Option IB
 | .seq a b=>match cB T fl π nt a,cB T fl π nt b with
  | some x,some y=>some (.seq x y)
  | _,_=>none
 | .block id b=>(cB T fl π nt b).map (.block id)
 | .loop b=>(cB T fl π nt b).map .loop
 | .rangeFunc g ps asg body=>match ps.toList,asg with
  | [tk,tv],.region _ ops false=>match ops.toList with
   | [o1]=>match o1.op,o1.dst,o1.guard with
    | .assign (.tmp tv'),some d0,none=>match Nat.beq tv tv'&&(!Nat.beq tk tv&&(jq8 body&&(j5h (idx tk π 0)&&(j5h (idx tv π 0)&&(Nat.blt d0 nt&&Nat.blt tv nt))))) with
     | true=>match cO π [] g,idx d0 π 0,jff T [] π nt body with
      | some x,some d,some ib=>some (.back x d ib)
      | _,_,_=>none
     | false=>none
    | _,_,_=>none
   | _=>none
  | _,_=>none
 | .region id ops true=>match j65 T fl π nt ops.toList with
  | some l=>some (.flo l)
  | none=>(jff T [] π nt (.region id ops true)).map .c
 | c=>(jff T [] π nt c).map .c
section
variable (F:Fns) (fuel:Nat) (B:FuncId->Bool)
def j5i (h:Hp) (v:SV):Option (Nat×Nat×Nat×List SV) :=
 ja7 (.s v) none (fun b o N _ _ _=>ob (rd h b o N) (fun es=>some (b,o,N,es))) (fun rows=>ob (jt4 1 rows) (fun es=>some (0,0,jbo es,es))) none
def jtk (fr:List AV) (h:Hp) (d:Nat) (ib:IC) (bs off:Nat):Option (Ex×St) :=
 ob (rd h bs off 1) (fun c=>List.casesOn (motive:=fun _=>Option (Ex×St)) c none (fun v _=>ob (j5i h v) (fun q =>
                 oif (Nat.ble 1 q.2.2.1) (oif (Nat.ble q.2.2.1 1000000) (oif (j5g h bs off q.1 q.2.1 q.2.2.1 q.2.2.2) (ob (rounds F fuel ib fr d bs off q.1 q.2.1 q.2.2.1 q.2.2.2 q.2.2.1 h) (fun h'=>some (.normal,.mk fr h'))) none) none) none)))
def jtl (s:St) (x:Od) (d:Nat) (ib:IC):Option (Ex×St) :=
 St.casesOn (motive:=fun _=>Option (Ex×St)) s (fun fr h=>ob (ev [] fr x) (fun v=>jmi v (fun gf caps=>oif (B gf) (List.casesOn (motive:=fun _=>Option (Ex×St)) caps none (fun p r=>List.casesOn (motive:=fun _=>Option (Ex×St)) r (jtk F fuel fr h d ib p.1 p.2) (fun _ _=>none))) none)))
def j66 (s:St) (l:List (IOper×List Nat)):Option (Ex×St):=St.casesOn (motive:=fun _=>Option (Ex×St)) s (fun fr h=>ob (jul (jam F (run F fuel)) l [] [] fr h) (fun s=>some (.normal,s)))
abbrev RB:=IB->St->Option (Ex×St)
def j67 (ih:RB) (s:St) (a b:IB):Option (Ex×St):=ob (ih a s) (fun p=>Ex.casesOn (motive:=fun _=>Option (Ex×St)) p.1 (ih b p.2) (fun _=>some p) (some p))
def j2e (ih:RB) (s:St) (id:Nat) (b:IB):Option (Ex×St):=ob (ih b s) (fun p=>Ex.casesOn (motive:=fun _=>Option (Ex×St)) p.1 (some p) (fun k=>oif (Nat.beq k id) (some (.normal,p.2)) (some p)) (some p))
def j5j (ih:RB) (s:St) (b:IB):Option (Ex×St):=ob (ih b s) (fun p=>Ex.casesOn (motive:=fun _=>Option (Ex×St)) p.1 (ih (.loop b) p.2) (fun _=>some p) (some p))
def j5k (ih:RB) (c:IB) (s:St):Option (Ex×St) :=
 IB.casesOn (motive:=fun _=>Option (Ex×St)) c (fun ic=>run F fuel ic s) (j67 ih s) (j2e ih s) (j5j ih s) (jtl F fuel B s) (j66 F fuel s)
def jz0 (n:Nat):RB:=Nat.rec (motive:=fun _=>RB) (fun _ _=>none) (fun _ ih=>j5k F fuel B ih) n
end
def jum (d d':List Deferred) (w w':World):Prop :=
 ∃ Ds:List Nat,d'=Ds.map (fun D=>({ target:=.collected D,args:=#[] }:Deferred))++d/\Ds.Pairwise (fun x y=>x≠y)/\∀ D∈Ds,w.heap.size<=D/\w'.heap[D]?=some (.deferred (some []))
section
variable {P:Program} {A:Nat->Int} {T:Tr TI} {F:Fns} {fuel:Nat} {B:FuncId->Bool}
theorem jun {Ds:List Nat} {φ φ':Phi} {h h':Hp} {V:Nat->Prop} (r:Rel A φ h w') (s:Step V φ φ' h h' w' w'') (hD:∀ D∈Ds,w'.heap[D]?=some (.deferred (some []))):∀ D∈Ds,w''.heap[D]?=some (.deferred (some [])):=by
 intro D hm
 have h1:=hD D hm
 rw[s.old D (f0r.1 h1).1 (fun n L _ hn hL=>r.notObj h1 (fun c t z e=>by cases e) (fun e c e'=>by cases e') hn hL)]
 exact h1
theorem jum.trans {d d' d'':List Deferred} {w:World} {φ φ':Phi} {h h':Hp} {V:Nat->Prop} (m:jum d d' w w') (r:Rel A φ h w') (s:Step V φ φ' h h' w' w'') (hs:w.heap.size<=w'.heap.size) (m':jum d' d'' w' w''):jum d d'' w w'':=by
 have hl:∀ (D:Nat),w'.heap[D]?=some (.deferred (some []))->D<w'.heap.size:=fun D h1=>(f0r.1 h1).1
 obtain⟨Ds0,e0,hp0,hD0⟩:=m
 have hk:=jun r s (fun D hm=>(hD0 D hm).2)
 obtain⟨Ds1,e1,hp1,hD1⟩:=m'
 refine⟨Ds1++Ds0,by rw[e1,e0];simp,List.pairwise_append.2 ⟨hp1,hp0,fun x hx y hy e=>?_⟩,fun D hm=>?_⟩
 .have h1:=(hD1 x hx).1
  have h2:=hl y (hD0 y hy).2
  omega
 .rcases f1t.1 hm with h1 | h1
  .exact ⟨f07 hs (hD1 D h1).1,(hD1 D h1).2⟩
  .exact ⟨(hD0 D h1).1,hk D h1⟩
def j2f (A:Nat->Int) (π:List Nat) (φ:Phi) (h:Hp) (w:World) (a:Act) (e:Ex) (s:St) (Q:Exit->Act->World->Prop):Prop :=
 ∀ φ' fr' h' a' w',s=.mk fr' h'->Step (fun n=>h.lo<=n) φ φ' h h' w w'->Rel A φ' h' w'->FrR A φ' π fr' a'->jum a.defers a'.defers w w'->a'.tmps.size=a.tmps.size->Q (j8r e) a' w'
theorem j2f.trans {π:List Nat} {φ ψ:Phi} {h h':Hp} {w:World} {a a':Act} {e:Ex} {s:St} {Q:Exit->Act->World->Prop} (k:j2f A π φ h w a e s Q) (st:Step (fun n=>h.lo<=n) φ ψ h h' w w') (r:Rel A ψ h' w') (hd:jum a.defers a'.defers w w') (hs:a'.tmps.size=a.tmps.size):j2f A π ψ h' w' a' e s Q :=
 fun φ' fr' h'' a'' w'' e1 s1 r1 f1 d1 z1=>k φ' fr' h'' a'' w'' e1 (st.trans' s1) r1 f1 (hd.trans r s1 st.size d1) (z1.trans hs)
end
end
end Go.Proofs.Ytmcfkgjjnhlkiaa.Ev
