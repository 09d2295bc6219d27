/- A range over a function, in whose rounds the interpreter runs the body: what a round is, in the fence. No program in sight. -/
import Derived.Test.YthbghmhjgdonmaaRun
import Derived.RangeFuncLeaves
import Derived.RangeFuncFrom
import Derived.RangeFuncCalls
import Derived.LoopNIn
import Derived.OrdersIn
import Derived.Test.YthbghmhjgdonmaaFlo
namespace Go.Proofs.Ythbghmhjgdonmaa.Ev
noncomputable section
open Go Go.RowKit
set_option linter.all false
variable {w' w'':World}
def j0b:Op->Bool
 | .defer _=>false
 | _=>true
section
variable {P:Program}
end
def jra:Code->Bool
 | .skip=>true
 | .region _ ops false=>ops.toList.all (fun o=>j0b o.op)
 | .seq a b=>jra a&&jra b
 | .cond _ a b=>jra a&&jra b
 | .block _ b=>jra b
 | .loop b=>jra b
 | .exit _=>true
 | .ret=>true
 | _=>false
section
variable {P:Program} {A:Nat->Int} {T:Tr TI} {F:Fns}
end
def j8g (v:SV):Option (IntKind×Int):=SV.casesOn (motive_1:=fun _=>Option (IntKind×Int)) v (fun _=>none) (fun k n=>some (k,n)) (fun _=>none) (fun _ _=>none) none (fun _ _ _ _ _ _=>none) none (fun _ _=>none) none none (fun _=>none) (fun _=>none) (fun _=>none) (fun _=>none) none
def j68 (a b:SV):Bool:=Option.rec (motive:=fun _=>Bool) false (fun p=>Option.rec (motive:=fun _=>Bool) false (fun q=>oif (Nat.beq (ikn p.1) (ikn q.1)) (ieq p.2 q.2) false) (j8g b)) (j8g a)
def j8h (l:List SV):List SV->Bool :=
 List.rec (motive:=fun _=>List SV->Bool) (fun r=>List.casesOn (motive:=fun _=>Bool) r true (fun _ _=>false)) (fun a _ ih r=>List.casesOn (motive:=fun _=>Bool) r false (fun b r=>oif (j68 a b) (ih r) false)) l
def j80 (b off len:Nat) (c:List SV):Bool :=
 List.casesOn (motive:=fun _=>Bool) c false (fun v r=>List.casesOn (motive:=fun _=>Bool) r
  (SV.casesOn (motive_1:=fun _=>Bool) v (fun _=>false) (fun _ _=>false) (fun _=>false) (fun _ _=>false) false (fun b' o n _ _ z=>oif (Nat.beq b b') (oif (Nat.beq off o) (oif (Nat.beq len n) (Nat.beq z 1) false) false) false) false (fun _ _=>false) false false (fun _=>false) (fun _=>false) (fun _=>false) (fun _=>false) false)
  (fun _ _=>false))
section
variable (F:Fns) (fuel:Nat)
def j81 (es:List SV) (c:List SV):Bool :=
 List.casesOn (motive:=fun _=>Bool) c false (fun v r=>List.casesOn (motive:=fun _=>Bool) r
  (SV.casesOn (motive_1:=fun _=>Bool) v (fun _=>false) (fun _ _=>false) (fun _=>false) (fun _ _=>false) false (fun _ _ _ _ _ _=>false) false (fun _ _=>false) false false (fun _=>false) (fun _=>false)
   (fun rows=>Option.rec (motive:=fun _=>Bool) false (fun l=>j8h l es) (jt7 1 rows)) (fun _=>false) false)
  (fun _ _=>false))
def j5k (h:Hp) (bs off b o N:Nat) (es:List SV):Bool :=
 Option.rec (motive:=fun _=>Bool) false (fun c=>oif (j80 b o N c) (Option.rec (motive:=fun _=>Bool) false (fun c=>j8h c es) (rd h b o N)) (oif (Nat.beq (jbu es) N) (j81 es c) false)) (rd h bs off 1)
def rounds (body:IC) (fr:List AV) (d bs off b o N:Nat) (es:List SV) (k:Nat):Hp->Option Hp :=
 Nat.rec (motive:=fun _=>Hp->Option Hp) (fun h=>some h) (fun j ih h=>ob (jcl es j) (fun e=>ob (run F fuel body (.mk (jqr fr d (.s e)) h)) (fun p =>
  Ex.casesOn (motive:=fun _=>Option Hp) p.1 (St.casesOn (motive:=fun _=>Option Hp) p.2 (fun _ h'=>oif (j5k h' bs off b o N es) (ih h') none)) (fun _=>none) none))) k
end
section
variable {P:Program} {A:Nat->Int} {φ φ':Phi} {h h':Hp} {w W:World}
theorem Rel.notObj (k:Rel A φ h w) {l:Nat} {o:Obj} (hl:w.heap[l]?=some o) (h1:∀ c t z,o≠.cells c t z) (h2:∀ e c,o≠.map e c) {n:Nat} {L:Lc} (hn:(h.get n).isSome=true) (hL:φ n=some L):L.b≠l:=by
 intro e
 cases hx:h.get n with
 | none=>rw[hx] at hn;cases hn
 | some x =>
  have hb:=k.blk n x hx
  cases x with
  | arr cs ty =>
   obtain⟨L',c,e1,e2,_⟩:=hb
   rw[hL] at e1;cases e1
   rw[e,hl] at e2
   exact h1 _ _ _ (Option.some.inj e2)
  | map va es =>
   obtain⟨L',es',cl,e1,e2,_⟩:=hb
   rw[hL] at e1;cases e1
   rw[e,hl] at e2
   exact h2 _ _ (Option.some.inj e2)
end
section
variable {P:Program} {A:Nat->Int} {T:Tr TI} {F:Fns}
end
inductive IB where
 | c (ic:IC)
 | seq (a b:IB)
 | block (id:Nat) (b:IB)
 | loop (b:IB)
 | back (g:Od) (d:Nat) (b:IC)
 | flo (l:List (IOper×List Nat))
def j5l {α:Type}:Option α->Bool
 | none=>true
 | some _=>false
def j69 (T:Tr TI) (fl:Bool) (π:List Nat) (nt:Nat) (ops:List Oper):Option (List (IOper×List Nat)):=bif fl then (match j8z T π nt ops with
 | some l=>bif j5j [] l then some l else none
 | none=>none) else none
def cB (T:Tr TI) (fl:Bool) (π:List Nat) (nt:Nat):Code->Option IB
 | .seq a b=>match cB T fl π nt a,cB T fl π nt b with
  | some x,some y=>some (.seq x y)
  | _,_=>none
 | .block id b=>(cB T fl π nt b).map (.block id)
 | .loop b=>(cB T fl π nt b).map .loop
 | .rangeFunc g ps asg body=>match ps.toList,asg with
  | [tk,tv],.region _ ops false=>match ops.toList with
   | [o1]=>match o1.op,o1.dst,o1.guard with
    | .assign (.tmp tv'),some d0,none=>match Nat.beq tv tv'&&(!Nat.beq tk tv&&(jra body&&(j5l (idx tk π 0)&&(j5l (idx tv π 0)&&(Nat.blt d0 nt&&Nat.blt tv nt))))) with
     | true=>match cO π [] g,idx d0 π 0,jfl T [] π nt body with
      | some x,some d,some ib=>some (.back x d ib)
      | _,_,_=>none
     | false=>none
    | _,_,_=>none
   | _=>none
  | _,_=>none
 | .region id ops true=>match j69 T fl π nt ops.toList with
  | some l=>some (.flo l)
  | none=>(jfl T [] π nt (.region id ops true)).map .c
 | c=>(jfl T [] π nt c).map .c
section
variable (F:Fns) (fuel:Nat) (B:FuncId->Bool)
def j5m (h:Hp) (v:SV):Option (Nat×Nat×Nat×List SV) :=
 jbc (.s v) none (fun b o N _ _ _=>ob (rd h b o N) (fun es=>some (b,o,N,es))) (fun rows=>ob (jt7 1 rows) (fun es=>some (0,0,jbu es,es))) none
def jtl (fr:List AV) (h:Hp) (d:Nat) (ib:IC) (bs off:Nat):Option (Ex×St) :=
 ob (rd h bs off 1) (fun c=>List.casesOn (motive:=fun _=>Option (Ex×St)) c none (fun v _=>ob (j5m h v) (fun q =>
                 oif (Nat.ble 1 q.2.2.1) (oif (Nat.ble q.2.2.1 1000000) (oif (j5k h bs off q.1 q.2.1 q.2.2.1 q.2.2.2) (ob (rounds F fuel ib fr d bs off q.1 q.2.1 q.2.2.1 q.2.2.2 q.2.2.1 h) (fun h'=>some (.normal,.mk fr h'))) none) none) none)))
def jtm (s:St) (x:Od) (d:Nat) (ib:IC):Option (Ex×St) :=
 St.casesOn (motive:=fun _=>Option (Ex×St)) s (fun fr h=>ob (ev [] fr x) (fun v=>jqs v (fun gf caps=>oif (B gf) (List.casesOn (motive:=fun _=>Option (Ex×St)) caps none (fun p r=>List.casesOn (motive:=fun _=>Option (Ex×St)) r (jtl F fuel fr h d ib p.1 p.2) (fun _ _=>none))) none)))
def j7a (s:St) (l:List (IOper×List Nat)):Option (Ex×St):=St.casesOn (motive:=fun _=>Option (Ex×St)) s (fun fr h=>ob (juq (jat F (run F fuel)) l [] [] fr h) (fun s=>some (.normal,s)))
abbrev RB:=IB->St->Option (Ex×St)
def j7b (ih:RB) (s:St) (a b:IB):Option (Ex×St):=ob (ih a s) (fun p=>Ex.casesOn (motive:=fun _=>Option (Ex×St)) p.1 (ih b p.2) (fun _=>some p) (some p))
def j2v (ih:RB) (s:St) (id:Nat) (b:IB):Option (Ex×St):=ob (ih b s) (fun p=>Ex.casesOn (motive:=fun _=>Option (Ex×St)) p.1 (some p) (fun k=>oif (Nat.beq k id) (some (.normal,p.2)) (some p)) (some p))
def j5n (ih:RB) (s:St) (b:IB):Option (Ex×St):=ob (ih b s) (fun p=>Ex.casesOn (motive:=fun _=>Option (Ex×St)) p.1 (ih (.loop b) p.2) (fun _=>some p) (some p))
def j5o (ih:RB) (c:IB) (s:St):Option (Ex×St) :=
 IB.casesOn (motive:=fun _=>Option (Ex×St)) c (fun ic=>run F fuel ic s) (j7b ih s) (j2v ih s) (j5n ih s) (jtm F fuel B s) (j7a F fuel s)
def j0c (n:Nat):RB:=Nat.rec (motive:=fun _=>RB) (fun _ _=>none) (fun _ ih=>j5o F fuel B ih) n
end
def jp5 (d d':List Deferred) (w w':World):Prop :=
 ∃ Ds:List Nat,d'=Ds.map (fun D=>({ target:=.collected D,args:=#[] }:Deferred))++d/\Ds.Pairwise (fun x y=>x≠y)/\∀ D∈Ds,w.heap.size<=D/\w'.heap[D]?=some (.deferred (some []))
section
variable {P:Program} {A:Nat->Int} {T:Tr TI} {F:Fns} {fuel:Nat} {B:FuncId->Bool}
theorem jp5.refl (d:List Deferred) (w w':World):jp5 d d w w':=⟨[],rfl,.nil,fun D h=>by simp at h⟩
theorem jur {Ds:List Nat} {φ φ':Phi} {h h':Hp} {V:Nat->Prop} (r:Rel A φ h w') (s:Step V φ φ' h h' w' w'') (hD:∀ D∈Ds,w'.heap[D]?=some (.deferred (some []))):∀ D∈Ds,w''.heap[D]?=some (.deferred (some [])):=by
 intro D hm
 have h1:=hD D hm
 rw[s.old D (f00.1 h1).1 (fun n L _ hn hL=>r.notObj h1 (fun c t z e=>by cases e) (fun e c e'=>by cases e') hn hL)]
 exact h1
theorem jp5.trans {d d' d'':List Deferred} {w:World} {φ φ':Phi} {h h':Hp} {V:Nat->Prop} (m:jp5 d d' w w') (r:Rel A φ h w') (s:Step V φ φ' h h' w' w'') (hs:w.heap.size<=w'.heap.size) (m':jp5 d' d'' w' w''):jp5 d d'' w w'':=by
 have hl:∀ (D:Nat),w'.heap[D]?=some (.deferred (some []))->D<w'.heap.size:=fun D h1=>(f00.1 h1).1
 obtain⟨Ds0,e0,hp0,hD0⟩:=m
 have hk:=jur r s (fun D hm=>(hD0 D hm).2)
 obtain⟨Ds1,e1,hp1,hD1⟩:=m'
 refine⟨Ds1++Ds0,by rw[e1,e0];simp,List.pairwise_append.2 ⟨hp1,hp0,fun x hx y hy e=>?_⟩,fun D hm=>?_⟩
 .have h1:=(hD1 x hx).1
  have h2:=hl y (hD0 y hy).2
  omega
 .rcases f0i.1 hm with h1 | h1
  .exact ⟨f0v hs (hD1 D h1).1,(hD1 D h1).2⟩
  .exact ⟨(hD0 D h1).1,hk D h1⟩
def j2w (A:Nat->Int) (π:List Nat) (φ:Phi) (h:Hp) (w:World) (a:Act) (e:Ex) (s:St) (Q:Exit->Act->World->Prop):Prop :=
 ∀ φ' fr' h' a' w',s=.mk fr' h'->Step (fun n=>h.lo<=n) φ φ' h h' w w'->Rel A φ' h' w'->FrR A φ' π fr' a'->jp5 a.defers a'.defers w w'->a'.tmps.size=a.tmps.size->Q (j8f e) a' w'
theorem j2w.trans {π:List Nat} {φ ψ:Phi} {h h':Hp} {w:World} {a a':Act} {e:Ex} {s:St} {Q:Exit->Act->World->Prop} (k:j2w A π φ h w a e s Q) (st:Step (fun n=>h.lo<=n) φ ψ h h' w w') (r:Rel A ψ h' w') (hd:jp5 a.defers a'.defers w w') (hs:a'.tmps.size=a.tmps.size):j2w A π ψ h' w' a' e s Q :=
 fun φ' fr' h'' a'' w'' e1 s1 r1 f1 d1 z1=>k φ' fr' h'' a'' w'' e1 (st.trans' s1) r1 f1 (hd.trans r s1 st.size d1) (z1.trans hs)
end
end
end Go.Proofs.Ythbghmhjgdonmaa.Ev
