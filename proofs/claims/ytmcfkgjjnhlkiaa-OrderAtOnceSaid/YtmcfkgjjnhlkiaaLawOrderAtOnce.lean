/- The statement 'OrderAtOnce': its walk. Conditions: ints of 64 bits. -/
import Derived.Test.YtmcfkgjjnhlkiaaYs
import Derived.Test.YtmcfkgjjnhlkiaaRows
import Derived.Test.YtmcfkgjjnhlkiaaKit
import Derived.Test.YtmcfkgjjnhlkiaaRec
namespace Go.Proofs.Ytmcfkgjjnhlkiaa.orderAtOnce
open Go Go.RowKit Go.Proofs.Ytmcfkgjjnhlkiaa.Ev Go.Proofs.Ytmcfkgjjnhlkiaa.Ms
set_option linter.all false
theorem orderAtOnce_walk (W:World) (a0:Int) (i0:j4e a0) (a1:Int) (i1:j4e a1) (A2:Option Addr) (len2 cap2:Nat) (xs2:List (List Int)) (hl2:xs2.length=len2) (hc2:len2<=cap2) (hA2:A2=none->cap2=0) (hr2:Recs 3 W A2 xs2) (a3:Int) (i3:j4e a3) :
 Calls Try.prog 3 #[.int .i64 a0,.int .i64 a1,.slice A2 len2 cap2,.int .i64 a3] W fun e w'=>e=.returned (.bool true)/\Below W.heap.size W w':=by
 obtain⟨k,xl,hk,lx,pin,hcs⟩:=juy hl2 hc2 hA2 hr2
 exact jwv (j8q (A:=fun _=>0)) (d:=()) (j6c jp8 i0 i1 i3 pin lx) hk _ (.cons rfl (.cons rfl (.cons (hcs _) (.cons rfl .nil))))
open Go.ChangeShapes Go.WideShapes Go.ChangeAt Go.RowKit
open Go.ChangeMaps (open_string shut_string)
theorem own:ownKnob Try.prog.godebug=none:=by kernel_rfl
theorem laidOut:laidOutB Try.prog=true:=by kernel_rfl
set_option maxRecDepth 100000 in
theorem lifted (os:Os) (started:os.Started) (H:Type) (enc:TypeId×Value->H) :
 ReturnsInHanded {} Try.checked os 3 .any (Rows.orderAtOnceSpec.pre6 enc Try.prog Try.f3 Rows.orderAtOnceRow.domain false) (Rows.orderAtOnceSpec.post enc Try.prog Try.f3 false true false false):=by
 refine returnsInHanded_of_change_sized (C:=Try.checked) own started (by kernel_rfl) Try.func3
  (ChangeSpec.witness6 (enc:=enc) (C:=Try.checked) false ⟨#[],#[.int .i64 0,.int .i64 0,.slice none 0 0,.int .i64 0],[]⟩ 8 (by kernel_rfl) (by kernel_rfl) (by kernel_rfl) (by kernel_rfl)) ?_
 intro W base args ds gs before hval0 hW hcnd hsz0 _
 have hval:∀ (j:Nat) t v,Try.f3.params[j]?=some t->args[j]?=some v->Value.okWide Try.prog W .any base t v:=hval0
 have hW':=hW
 obtain⟨p,q,hA0,hV,rfl,hfz,hnd⟩:=hW
 have hA:DataW.TrodAll enc Try.prog W 0 (fun _=>true) true Try.f3.params.toList args.toList ds p:=hA0
 have hsz:(DataW.weightsEach Try.prog Try.f3.params.toList ds).all (·<=reachBytes)=true:=by
  obtain⟨rfl,rfl⟩:=trodVars_none hV
  have h1:Rows.orderAtOnceSpec.plain.varTypes Try.prog=[]:=rfl
  have h2:Try.checked.prog=Try.prog:=rfl
  simp only[h2,h1,List.append_nil] at hsz0
  exact hsz0
 rw[Try.params3] at hA hval hsz
 obtain⟨v0,vs0,d0,ds0,p0,q0,hargs,rfl,rfl,h0,r0⟩:=trodAll_cons hA
 obtain⟨v1,vs1,d1,ds1,p1,q1,rfl,rfl,rfl,h1,r1⟩:=trodAll_cons r0
 obtain⟨v2,vs2,d2,ds2,p2,q2,rfl,rfl,rfl,h2,r2⟩:=trodAll_cons r1
 obtain⟨v3,vs3,d3,ds3,p3,q3,rfl,rfl,rfl,h3,r3⟩:=trodAll_cons r2
 obtain⟨rfl,rfl,rfl⟩:=trodAll_nil r3
 obtain rfl:args=#[v0,v1,v2,v3]:=by cases args;simp_all
 obtain⟨rfl,rfl⟩:=trodVars_none hV
 have k0:=h0
 have lt0:∀ x∈p0,x.block<W.heap.size:=by obtain⟨m,hm⟩:=k0;exact DataW.trod_lt m _ _ _ hm
 obtain⟨a0,rfl,_,_,w0⟩:=open_int Try.underlying3 (hval 0 3 v0 rfl rfl) h0
 have k1:=h1
 have lt1:∀ x∈p1,x.block<W.heap.size:=by obtain⟨m,hm⟩:=k1;exact DataW.trod_lt m _ _ _ hm
 obtain⟨a1,rfl,_,_,w1⟩:=open_int Try.underlying3 (hval 1 3 v1 rfl rfl) h1
 have k2:=h2
 have lt2:∀ x∈p2,x.block<W.heap.size:=by obtain⟨m,hm⟩:=k2;exact DataW.trod_lt m _ _ _ hm
 obtain⟨A2,len2,cap2,xs2,rfl,hl2,hc2,hA2,hr2⟩:=jy7 (nf:=3) Try.underlying22 Try.underlying46 rfl (by omega) (by kernel_rfl) (by
  intro i f hf
  rcases i with _ | _ | _ | i<;>first | (simp at hf;subst hf;exact⟨rfl,by kernel_rfl,Try.underlying3⟩) | (simp at hf;done)) (hval 2 22 v2 rfl rfl) h2
 have k3:=h3
 have lt3:∀ x∈p3,x.block<W.heap.size:=by obtain⟨m,hm⟩:=k3;exact DataW.trod_lt m _ _ _ hm
 obtain⟨a3,rfl,_,_,w3⟩:=open_int Try.underlying3 (hval 3 3 v3 rfl rfl) h3
 clear hA0 hval0
 refine(orderAtOnce_walk W a0 (jfa w0) a1 (jfa w1) A2 len2 cap2 xs2 hl2 hc2 hA2 hr2 a3 (jfa w3)).mono fun e W' ⟨he,bel⟩=>?_
 subst he
 exact⟨_,rfl,_,_,_,[],_,[],hW',trodAll_mk1 (shut_bool Try.underlying4 _),(trodAll_cons_mk (Below.trod laidOut (by kernel_rfl) (of_decide_eq_true (by kernel_rfl)) k0 bel lt0) (trodAll_cons_mk (Below.trod laidOut (by kernel_rfl) (of_decide_eq_true (by kernel_rfl)) k1 bel lt1) (trodAll_cons_mk (Below.trod laidOut (by kernel_rfl) (of_decide_eq_true (by kernel_rfl)) k2 bel lt2) (trodAll_cons_mk (Below.trod laidOut (by kernel_rfl) (of_decide_eq_true (by kernel_rfl)) k3 bel lt3) trodAll_mk0)))),rfl,bel.frame _,fun h=>by cases h⟩
theorem over:Rows.orderAtOnceRow.holds Try.pinned (OpenSpec.ofChange Rows.orderAtOnceSpec) :=
 OpenClaim.holds_of_wide 3 Try.f3 rfl rfl rfl rfl rfl rfl rfl ⟨rfl,rfl,rfl,rfl,rfl⟩ rfl rfl rfl rfl rfl (by kernel_rfl) Try.func3 (by kernel_rfl)
  (of_decide_eq_true (by kernel_rfl)) (by unfold Func.isWrapper;first | (rw[if_pos (by decide +kernel)];kernel_rfl) | (rw[if_neg (by decide +kernel)];exact⟨rfl,rfl⟩))
  (fun os started H enc _=>lifted os started H enc)
theorem proved:Rows.OrderAtOnceSaid:=over
end Go.Proofs.Ytmcfkgjjnhlkiaa.orderAtOnce
