/- slices.Backward's closure hands on a slice's elements from its end on, whatever the rounds do that keeps the slice. -/
import Derived.Test.YtehhjbfmjdlcjaaBack3
import Derived.Shelf.Abstract
import Derived.WalkKit
import Derived.OwnWalkIn
import Derived.TacticsInMore
import Derived.LoopIn
import Derived.Test.YtehhjbfmjdlcjaaProg
namespace Go.Proofs.Ytehhjbfmjdlcjaa.Ev
open Go Go.RowKit Go.Shelf
set_option linter.all false
attribute [local go_sem] Oper.semAt_some
set_option maxRecDepth 100000 in
set_option maxHeartbeats 2000000 in
theorem qsq:qb8 Try.prog 60:=by
 refine⟨⟨_,Try.func60,by kernel_rfl,by kernel_rfl⟩,?_⟩
 intro box N vs m l J W hlen hN hframe hcells hY h0
 obtain⟨ad0,cap0,hbox,_⟩:=hcells 0 W h0
 refine callsIn_of_wp Try.func60 rfl trivial ?_ rfl
 simp only[Try.ntmps60,f3c,f1q,f2f,Nat.reduceAdd,Nat.reduceSub,Array.replicate_succ,Array.replicate_zero,List.push_toArray,List.append_toArray,f0o,f0m]
 gi_wp2
 gi_loopw [3] (fun i wr=>∃ k:Nat,k<=N/\i=.int .i64 ((N:Int) - 1 - (k:Int))/\J k wr) (fun i _=>(intOf i+1).toNat)
 case atStart=>exact⟨0,f2i _,by simp,h0⟩
 case round =>
  obtain⟨k,hk,rfl,hJs⟩:=hrel
  obtain⟨ad,cap,hb,hc⟩:=hcells k wr hJs
  by_cases hlt:k<N
  ·have hv:∃ v,vs[N - 1 - k]?=some v:=⟨vs[N - 1 - k],by rw[f0a (by omega)]⟩
   obtain⟨v,hv⟩:=hv
   obtain⟨fn,tmps,assign,body,hy,hR⟩:=hY k v wr hlt hv hJs
   have e1:((N - 1 - k:Nat):Int)=(N:Int) - 1 - (k:Int):=by omega
   rw[e1] at hy
   have e2:((N:Int) - 1 - (k:Int)).toNat=N - 1 - k:=by omega
   have hcv:wr.cell? (ad.add (((N:Int) - 1 - (k:Int)).toNat))=some v:=by rw[e2];exact hc _ _ hv
   gi_wp2
   refine hR.mono ?_
   rintro e W3 ⟨rfl,hJ3⟩
   gi_wp2
   go_roundw
   case rel=>exact⟨k+1,by omega,by simp;omega,hJ3⟩
   case measure=>simp[intOf];omega
  ·obtain rfl:k=N:=by omega
   gi_wp2
   go_end0
   exact⟨⟨_,rfl⟩,hJs⟩
end Go.Proofs.Ytehhjbfmjdlcjaa.Ev
