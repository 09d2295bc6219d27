/- Lists of ints that a caller hands over: what the interpreter sees of them; several lists at once. -/
import Derived.Test.YthbghmhjgdonmaaWPc
import Derived.Test.YthbghmhjgdonmaaGb
import Derived.Test.YthbghmhjgdonmaaHf
import Derived.Test.YthbghmhjgdonmaaRows
import Derived.Test.YthbghmhjgdonmaaKit
namespace Go.Proofs.Ythbghmhjgdonmaa
open Go.ChangeShapes Go.WideShapes Go.ChangeAt Go.RowKit
set_option linter.all false
theorem inu8_of_wf {n:Int} (h:(Lit.int .u8 n).wf=true):0<=n/\n<=255:=by
 simp[Lit.wf,IntKind.min,IntKind.max,IntKind.signed,IntKind.bits] at h
 omega
section
variable {H:Type} {enc:TypeId×Value->H} {P:Program} {W:World}
theorem open_nums1 {t e:TypeId} {k:IntKind} {v:Value} {d:DataW H} {ps:List MemPlace} {base:Nat} (ht:P.underlying t=some (.slice e)) (he:P.underlying e=some (.int k)) (hc:P.cellsOf e=1)
 (hv:Value.okWide P W .any base t v) (h:DataW.Trod enc P W 0 (fun _=>true) true t v d ps) :
 ∃ A len cap xs,v=.slice A len cap/\xs.length=len/\len<=cap/\(A=none->cap=0)/\j92 k W A xs/\(∀ x∈xs,(Lit.int k x).wf=true):=by
 obtain⟨A,len,cap,rfl⟩:=okWide_slice ht hv
 obtain⟨fuel,hf⟩:=h
 rcases open_ints ht he hc hf with⟨hcs,_⟩ | ⟨x,l,c,zs,hcs,_,hl,hm,hz,hx,hcell,hwz⟩
 .simp [Value.cells] at hcs
  obtain⟨rfl,rfl,rfl⟩:=hcs
  exact⟨_,_,_,[],rfl,rfl,by simp,fun _=>rfl,j92.nil _ _ _,by simp⟩
 .simp [Value.cells] at hcs
  obtain⟨rfl,rfl,rfl⟩:=hcs
  have hz':zs.length=cap:=by simpa using hz
  refine⟨_,_,_,zs.take len,rfl,by simp;omega,by omega,(by intro e;cases e),?_,fun y hy=>hwz y (List.mem_of_mem_take hy)⟩
  intro i hi
  have hi':i<len:=by simp at hi;omega
  have h0:=jnl (hcell 0 (by omega))
  rw[show x.add 0=x from by unfold Addr.add;simp] at h0
  refine⟨x.block,x.off,by rw[←h0],fun j hj=>?_⟩
  have hj':j<len:=by simp at hj;omega
  have hc:=hcell j (by omega)
  rw[j31 j hc (fun _=>trivial)] at hc
  rw[hc]
  simp[List.getElem?_eq_getElem (show j<zs.length by omega)]
end
end Go.Proofs.Ythbghmhjgdonmaa
namespace Go.Proofs.Ythbghmhjgdonmaa.Ev
open Go Go.RowKit Go.Proofs.Ythbghmhjgdonmaa.Ms
set_option linter.all false
def allK (W:World) (b:Nat):Option (Array Value):=match W.heap[b]? with
 | some (.cells c e fr)=>some c
 | _=>none
theorem allK_ok (W:World):job (allK W) W:=fun b cs h=>by
 unfold allK at h
 split at h
 .rename_i c e fr hb
  cases h
  exact⟨(e,fr),hb⟩
 .cases h
theorem allK_le {k:Nat->Option (Array Value)} {W:World} (hk:job k W):(j3x k).le (j3x (allK W)):=by
 refine⟨fun n L e=>?_,fun b cs e=>?_⟩
 .cases e
 .obtain ⟨ty,h⟩:=hk b cs e
  show allK W b=some cs
  unfold allK
  rw[h]
theorem ints_arg {W:World} {A2:Option Addr} {len cap:Nat} {xs:List Int} (hl:xs.length=len) (hc:len<=cap) (hA:A2=none->cap=0) (hr:j92 .i64 W A2 xs) :
 ∃ xl:SV,LstE jgv 1 xl xs/\∀ A,cS A (j3x (allK W)) xl (.slice A2 len cap):=by
 subst hl
 cases xs with
 | nil =>
  cases A2 with
  | none=>rw[hA rfl];exact⟨.nilSlice,LstE.enc (l:=[]) (fun _=>rfl),fun A=>rfl⟩
  | some ad=>exact⟨.lst [],LstE.emp,fun A=>.lst0 ad cap⟩
 | cons x0 xs =>
  obtain⟨b,off,rfl,hcell⟩:=hr 0 (by simp)
  have h0:=hcell 0 (by simp)
  obtain⟨cs,ty,fr,hb,_⟩:=jh3 h0
  have hget:∀ (i:Nat) (n:Int),(x0::xs)[i]?=some n->cs[off+i]?=some (.int .i64 n):=fun i n h1=>by
   obtain⟨h2,h3⟩:=List.getElem?_eq_some_iff.1 h1
   obtain⟨cs',ty',fr',hb',h4⟩:=jh3 (hcell i h2)
   rw[hb] at hb'
   cases hb'
   rw[h4,h3]
  have row:∀ (i:Nat) (r:List SV),((x0::xs).map jgv)[i]?=some r->∃ n,(x0::xs)[i]?=some n/\r=[si n]:=fun i r h=>by
   rw[List.getElem?_map] at h
   obtain⟨q,hq,rfl⟩:=Option.map_eq_some_iff.1 h
   exact⟨q,hq,rfl⟩
  have one:∀ (i j:Nat) (r:List SV) (y:SV),((x0::xs).map jgv)[i]?=some r->r[j]?=some y->∃ n,y=si n/\cs[off+i*1+j]?=some (.int .i64 n):=fun i j r y h1 h2=>by
   obtain⟨n,hn,rfl⟩:=row i r h1
   match j,h2 with
   | 0,h2=>cases h2;exact⟨n,rfl,by rw[Nat.mul_one,Nat.add_zero];exact hget i n hn⟩
  refine⟨jae jgv (x0::xs),LstE.enc (fun _=>rfl),fun A=>?_⟩
  have hrl:((x0::xs).map jgv).length=(x0::xs).length:=by simp
  rw[←hrl]
  refine cD.lst _ b off cap 1 cs (fun i j=>(cs[off+i*1+j]?).getD (.bool false)) ?_ (by have:=hc;simp at this ⊢;exact this) (fun i r h=>?_) (fun i j r y h1 h2=>?_) (fun i j r y h1 h2=>?_)
  .show allK W b=some cs
   unfold allK
   rw[hb]
  .obtain ⟨n,_,rfl⟩:=row i r h
   rfl
  .obtain ⟨n,rfl,h3⟩:=one i j r y h1 h2
   rw[h3];rfl
  .obtain ⟨n,rfl,h3⟩:=one i j r y h1 h2
   simp only[h3,Option.getD_some]
   exact .int _ _
end Go.Proofs.Ythbghmhjgdonmaa.Ev
namespace Go.Proofs.Ythbghmhjgdonmaa.wireBack
open Go Go.RowKit Go.Proofs.Ythbghmhjgdonmaa.Ev Go.Proofs.Ythbghmhjgdonmaa.Ms
set_option linter.all false
theorem wireBack_walk (W:World) (a0:Int) (i0:qcl a0) (a1:Int) (i1:qcl a1) (A2:Option Addr) (len2 cap2:Nat) (xs2:List (List Int)) (hl2:xs2.length=len2) (hc2:len2<=cap2) (hA2:A2=none->cap2=0) (hr2:Recs 7 W A2 xs2) (a3:Int) (i3:qcl a3) (a4:Int) (i4:qcl a4) (A5:Option Addr) (len5 cap5:Nat) (xs5:List Int) (hl5:xs5.length=len5) (hc5:len5<=cap5) (hA5:A5=none->cap5=0) (hr5:j92 .i64 W A5 xs5) (hw5:∀ x∈xs5,qcl x) (a6:Int) (i6:0<=a6/\a6<=255) :
 Calls Try.prog 5 #[.int .i64 a0,.int .i64 a1,.slice A2 len2 cap2,.int .i64 a3,.int .i64 a4,.slice A5 len5 cap5,.int .u8 a6] W fun e w'=>e=.returned (.bool true)/\Below W.heap.size W w':=by
 obtain⟨k,xl,hk,lx,pin,hcs⟩:=j3k hl2 hc2 hA2 hr2
 obtain⟨xw,lw,hcw⟩:=ints_arg hl5 hc5 hA5 hr5
 obtain⟨t,rfl⟩:=Int.eq_ofNat_of_zero_le i6.1
 exact j5p (qua (A:=fun _=>0)) (d:=()) (qqo jds i0 i1 pin lx i3 i4 hw5 lw (t:=t) (by omega)) (allK_ok W) _ (.cons rfl (.cons rfl (.cons ((hcs _).mono (allK_le hk)) (.cons rfl (.cons rfl (.cons (hcw _) (.cons rfl .nil)))))))
open Go.ChangeShapes Go.WideShapes Go.ChangeAt Go.RowKit
open Go.ChangeMaps (open_string shut_string)
theorem own:ownKnob Try.prog.godebug=none:=by kernel_rfl
theorem laidOut:laidOutB Try.prog=true:=by kernel_rfl
set_option maxRecDepth 100000 in
theorem lifted (os:Os) (started:os.Started) (H:Type) (enc:TypeId×Value->H) :
 ReturnsInHanded {} Try.checked os 5 .any (Rows.wireBackSpec.pre6 enc Try.prog Try.f5 Rows.wireBackRow.domain false) (Rows.wireBackSpec.post enc Try.prog Try.f5 false true false false):=by
 refine returnsInHanded_of_change_sized (C:=Try.checked) own started (by kernel_rfl) Try.func5
  (ChangeSpec.witness6 (enc:=enc) (C:=Try.checked) false ⟨#[],#[.int .i64 0,.int .i64 0,.slice none 0 0,.int .i64 0,.int .i64 0,.slice none 0 0,.int .u8 0],[]⟩ 8 (by kernel_rfl) (by kernel_rfl) (by kernel_rfl) (by kernel_rfl)) ?_
 intro W base args ds gs before hval0 hW hcnd hsz0 _
 have hval:∀ (j:Nat) t v,Try.f5.params[j]?=some t->args[j]?=some v->Value.okWide Try.prog W .any base t v:=hval0
 have hW':=hW
 obtain⟨p,q,hA0,hV,rfl,hfz,hnd⟩:=hW
 have hA:DataW.TrodAll enc Try.prog W 0 (fun _=>true) true Try.f5.params.toList args.toList ds p:=hA0
 have hsz:(DataW.weightsEach Try.prog Try.f5.params.toList ds).all (·<=reachBytes)=true:=by
  obtain⟨rfl,rfl⟩:=trodVars_none hV
  have h1:Rows.wireBackSpec.plain.varTypes Try.prog=[]:=rfl
  have h2:Try.checked.prog=Try.prog:=rfl
  simp only[h2,h1,List.append_nil] at hsz0
  exact hsz0
 rw[Try.params5] at hA hval hsz
 obtain⟨v0,vs0,d0,ds0,p0,q0,hargs,rfl,rfl,h0,r0⟩:=trodAll_cons hA
 obtain⟨v1,vs1,d1,ds1,p1,q1,rfl,rfl,rfl,h1,r1⟩:=trodAll_cons r0
 obtain⟨v2,vs2,d2,ds2,p2,q2,rfl,rfl,rfl,h2,r2⟩:=trodAll_cons r1
 obtain⟨v3,vs3,d3,ds3,p3,q3,rfl,rfl,rfl,h3,r3⟩:=trodAll_cons r2
 obtain⟨v4,vs4,d4,ds4,p4,q4,rfl,rfl,rfl,h4,r4⟩:=trodAll_cons r3
 obtain⟨v5,vs5,d5,ds5,p5,q5,rfl,rfl,rfl,h5,r5⟩:=trodAll_cons r4
 obtain⟨v6,vs6,d6,ds6,p6,q6,rfl,rfl,rfl,h6,r6⟩:=trodAll_cons r5
 obtain⟨rfl,rfl,rfl⟩:=trodAll_nil r6
 obtain rfl:args=#[v0,v1,v2,v3,v4,v5,v6]:=by cases args;simp_all
 obtain⟨rfl,rfl⟩:=trodVars_none hV
 have k0:=h0
 have lt0:∀ x∈p0,x.block<W.heap.size:=by obtain⟨m,hm⟩:=k0;exact DataW.trod_lt m _ _ _ hm
 obtain⟨a0,rfl,_,_,w0⟩:=open_int Try.underlying3 (hval 0 3 v0 rfl rfl) h0
 have k1:=h1
 have lt1:∀ x∈p1,x.block<W.heap.size:=by obtain⟨m,hm⟩:=k1;exact DataW.trod_lt m _ _ _ hm
 obtain⟨a1,rfl,_,_,w1⟩:=open_int Try.underlying3 (hval 1 3 v1 rfl rfl) h1
 have k2:=h2
 have lt2:∀ x∈p2,x.block<W.heap.size:=by obtain⟨m,hm⟩:=k2;exact DataW.trod_lt m _ _ _ hm
 obtain⟨A2,len2,cap2,xs2,rfl,hl2,hc2,hA2,hr2⟩:=j63 (nf:=7) Try.underlying22 Try.underlying62 rfl (by omega) (by kernel_rfl) (by
  intro i f hf
  rcases i with _ | _ | _ | _ | _ | _ | _ | i<;>first | (simp at hf;subst hf;exact⟨rfl,by kernel_rfl,Try.underlying3⟩) | (simp at hf;done)) (hval 2 22 v2 rfl rfl) h2
 have k3:=h3
 have lt3:∀ x∈p3,x.block<W.heap.size:=by obtain⟨m,hm⟩:=k3;exact DataW.trod_lt m _ _ _ hm
 obtain⟨a3,rfl,_,_,w3⟩:=open_int Try.underlying3 (hval 3 3 v3 rfl rfl) h3
 have k4:=h4
 have lt4:∀ x∈p4,x.block<W.heap.size:=by obtain⟨m,hm⟩:=k4;exact DataW.trod_lt m _ _ _ hm
 obtain⟨a4,rfl,_,_,w4⟩:=open_int Try.underlying3 (hval 4 3 v4 rfl rfl) h4
 have k5:=h5
 have lt5:∀ x∈p5,x.block<W.heap.size:=by obtain⟨m,hm⟩:=k5;exact DataW.trod_lt m _ _ _ hm
 obtain⟨A5,len5,cap5,xs5,rfl,hl5,hc5,hA5,hr5,hw5⟩:=open_nums1 Try.underlying23 Try.underlying3 (by kernel_rfl) (hval 5 23 v5 rfl rfl) h5
 have k6:=h6
 have lt6:∀ x∈p6,x.block<W.heap.size:=by obtain⟨m,hm⟩:=k6;exact DataW.trod_lt m _ _ _ hm
 obtain⟨a6,rfl,_,_,w6⟩:=open_int Try.underlying5 (hval 6 5 v6 rfl rfl) h6
 clear hA0 hval0
 refine(wireBack_walk W a0 (jeo w0) a1 (jeo w1) A2 len2 cap2 xs2 hl2 hc2 hA2 hr2 a3 (jeo w3) a4 (jeo w4) A5 len5 cap5 xs5 hl5 hc5 hA5 hr5 (fun x hx=>jeo (hw5 x hx)) a6 (inu8_of_wf w6)).mono fun e W' ⟨he,bel⟩=>?_
 subst he
 exact⟨_,rfl,_,_,_,[],_,[],hW',trodAll_mk1 (shut_bool Try.underlying4 _),(trodAll_cons_mk (Below.trod laidOut (by kernel_rfl) (of_decide_eq_true (by kernel_rfl)) k0 bel lt0) (trodAll_cons_mk (Below.trod laidOut (by kernel_rfl) (of_decide_eq_true (by kernel_rfl)) k1 bel lt1) (trodAll_cons_mk (Below.trod laidOut (by kernel_rfl) (of_decide_eq_true (by kernel_rfl)) k2 bel lt2) (trodAll_cons_mk (Below.trod laidOut (by kernel_rfl) (of_decide_eq_true (by kernel_rfl)) k3 bel lt3) (trodAll_cons_mk (Below.trod laidOut (by kernel_rfl) (of_decide_eq_true (by kernel_rfl)) k4 bel lt4) (trodAll_cons_mk (Below.trod laidOut (by kernel_rfl) (of_decide_eq_true (by kernel_rfl)) k5 bel lt5) (trodAll_cons_mk (Below.trod laidOut (by kernel_rfl) (of_decide_eq_true (by kernel_rfl)) k6 bel lt6) trodAll_mk0))))))),rfl,bel.frame _,fun h=>by cases h⟩
theorem over:Rows.wireBackRow.holds Try.pinned (OpenSpec.ofChange Rows.wireBackSpec) :=
 OpenClaim.holds_of_wide 5 Try.f5 rfl rfl rfl rfl rfl rfl rfl ⟨rfl,rfl,rfl,rfl,rfl⟩ rfl rfl rfl rfl rfl (by kernel_rfl) Try.func5 (by kernel_rfl)
  (of_decide_eq_true (by kernel_rfl)) (by unfold Func.isWrapper;first | (rw[if_pos (by decide +kernel)];kernel_rfl) | (rw[if_neg (by decide +kernel)];exact⟨rfl,rfl⟩))
  (fun os started H enc _=>lifted os started H enc)
theorem proved:Rows.WireBackSaid:=over
end Go.Proofs.Ythbghmhjgdonmaa.wireBack
