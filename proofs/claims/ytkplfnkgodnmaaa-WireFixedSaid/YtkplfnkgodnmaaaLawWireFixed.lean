/- Numbers of any kind that a caller hands over in a list: what the interpreter sees of them. -/
import Derived.Test.YtkplfnkgodnmaaaJy
import Derived.Test.YtkplfnkgodnmaaaKit
import Derived.Test.YtkplfnkgodnmaaaWs
import Derived.Test.YtkplfnkgodnmaaaRows
namespace Go.Proofs.Ytkplfnkgodnmaaa.Ev
open Go Go.RowKit Go.Proofs.Ytkplfnkgodnmaaa.Ms
set_option linter.all false
theorem jcell {w:World} {b k:Nat} {u:Value} (h:w.cell? ⟨b,k,none⟩=some u):∃ c e fr,w.heap[b]?=some (.cells c e fr)/\c[k]?=some u:=by
 unfold World.cell? at h
 simp only at h
 split at h
 .rename_i c e fr hb
  exact⟨c,_,_,hb,by simpa using h⟩
 .cases h
def jallK (W:World) (b:Nat):Option (Array Value):=match W.heap[b]? with
 | some (.cells c e fr)=>some c
 | _=>none
theorem jallK_ok (W:World):jqj (jallK W) W:=fun b cs h=>by
 unfold jallK at h
 split at h
 .rename_i c e fr hb
  cases h
  exact⟨(e,fr),hb⟩
 .cases h
theorem nums_arg {k:IntKind} {W:World} {A2:Option Addr} {len cap:Nat} {xs:List Int} (hl:xs.length=len) (hc:len<=cap) (hA:A2=none->cap=0) (hr:jzk k W A2 xs) :
 ∃ X:SV,((xs=[]/\X=.nilSlice)∨X=.lst (xs.map (fun n=>[SV.int k n])))/\∀ A,cS A (j5q (jallK W)) X (.slice A2 len cap):=by
 subst hl
 cases xs with
 | nil =>
  cases A2 with
  | none=>rw[hA rfl];exact⟨.nilSlice,.inl ⟨rfl,rfl⟩,fun A=>rfl⟩
  | some ad=>exact⟨.lst [],.inr rfl,fun A=>.lst0 ad cap⟩
 | cons x0 xs =>
  obtain⟨b,off,rfl,hcell⟩:=hr 0 (by simp)
  have h0:=hcell 0 (by simp)
  obtain⟨cs,ty,fr,hb,_⟩:=jcell h0
  have hget:∀ (i:Nat) (n:Int),(x0::xs)[i]?=some n->cs[off+i]?=some (.int k n):=fun i n h1=>by
   obtain⟨h2,h3⟩:=List.getElem?_eq_some_iff.1 h1
   obtain⟨cs',ty',fr',hb',h4⟩:=jcell (hcell i h2)
   rw[hb] at hb'
   cases hb'
   rw[h4,h3]
  have row:∀ (i:Nat) (r:List SV),((x0::xs).map (fun n=>[SV.int k n]))[i]?=some r->∃ n,(x0::xs)[i]?=some n/\r=[.int k n]:=fun i r h=>by
   rw[List.getElem?_map] at h
   obtain⟨q,hq,rfl⟩:=Option.map_eq_some_iff.1 h
   exact⟨q,hq,rfl⟩
  have one:∀ (i j:Nat) (r:List SV) (y:SV),((x0::xs).map (fun n=>[SV.int k n]))[i]?=some r->r[j]?=some y->∃ n,y=.int k n/\cs[off+i*1+j]?=some (.int k n):=fun i j r y h1 h2=>by
   obtain⟨n,hn,rfl⟩:=row i r h1
   match j,h2 with
   | 0,h2=>cases h2;exact⟨n,rfl,by rw[Nat.mul_one,Nat.add_zero];exact hget i n hn⟩
  refine⟨.lst ((x0::xs).map (fun n=>[SV.int k n])),.inr rfl,fun A=>?_⟩
  have hrl:((x0::xs).map (fun n=>[SV.int k n])).length=(x0::xs).length:=by simp
  rw[←hrl]
  refine cD.lst _ b off cap 1 cs (fun i j=>(cs[off+i*1+j]?).getD (.bool false)) ?_ (by have:=hc;simp at this ⊢;exact this) (fun i r h=>?_) (fun i j r y h1 h2=>?_) (fun i j r y h1 h2=>?_)
  .show jallK W b=some cs
   unfold jallK
   rw[hb]
  .obtain ⟨n,_,rfl⟩:=row i r h
   rfl
  .obtain ⟨n,rfl,h3⟩:=one i j r y h1 h2
   rw[h3];rfl
  .obtain ⟨n,rfl,h3⟩:=one i j r y h1 h2
   simp only[h3,Option.getD_some]
   exact .int _ _
end Go.Proofs.Ytkplfnkgodnmaaa.Ev
namespace Go.Proofs.Ytkplfnkgodnmaaa
open Go.ChangeShapes Go.WideShapes Go.ChangeAt Go.RowKit
set_option linter.all false
theorem inu8_of_wf {n:Int} (h:(Lit.int .u8 n).wf=true):0<=n/\n<=255:=by
 simp only[Lit.wf,Bool.and_eq_true,decide_eq_true_eq] at h
 exact h
section
variable {H:Type} {enc:TypeId×Value->H} {P:Program} {W:World}
theorem open_nums1 {t e:TypeId} {k:IntKind} {v:Value} {d:DataW H} {ps:List MemPlace} {base:Nat} (ht:P.underlying t=some (.slice e)) (he:P.underlying e=some (.int k)) (hc:P.cellsOf e=1)
 (hv:Value.okWide P W .any base t v) (h:DataW.Trod enc P W 0 (fun _=>true) true t v d ps) :
 ∃ A len cap xs,v=.slice A len cap/\xs.length=len/\len<=cap/\(A=none->cap=0)/\jzk k W A xs/\(∀ x∈xs,(Lit.int k x).wf=true):=by
 obtain⟨A,len,cap,rfl⟩:=okWide_slice ht hv
 obtain⟨fuel,hf⟩:=h
 rcases open_ints ht he hc hf with⟨hcs,_⟩ | ⟨x,l,c,zs,hcs,_,hl,hm,hz,hx,hcell,hwz⟩
 .simp [Value.cells] at hcs
  obtain⟨rfl,rfl,rfl⟩:=hcs
  exact⟨_,_,_,[],rfl,rfl,by simp,fun _=>rfl,jzk.nil _ _ _,by simp⟩
 .simp [Value.cells] at hcs
  obtain⟨rfl,rfl,rfl⟩:=hcs
  have hz':zs.length=cap:=by simpa using hz
  refine⟨_,_,_,zs.take len,rfl,by simp;omega,by omega,(by intro e;cases e),?_,fun y hy=>hwz y (List.mem_of_mem_take hy)⟩
  intro i hi
  have hi':i<len:=by simp at hi;omega
  have h0:=jls (hcell 0 (by omega))
  rw[show x.add 0=x from by unfold Addr.add;simp] at h0
  refine⟨x.block,x.off,by rw[←h0],fun j hj=>?_⟩
  have hj':j<len:=by simp at hj;omega
  have hc:=hcell j (by omega)
  rw[jqq j hc (fun _=>trivial)] at hc
  rw[hc]
  simp[List.getElem?_eq_getElem (show j<zs.length by omega)]
end
end Go.Proofs.Ytkplfnkgodnmaaa
namespace Go.Proofs.Ytkplfnkgodnmaaa.wireFixed
open Go Go.RowKit Go.Proofs.Ytkplfnkgodnmaaa.Ev Go.Proofs.Ytkplfnkgodnmaaa.Ms
set_option linter.all false
theorem wireFixed_walk (W:World) (A0:Option Addr) (len0 cap0:Nat) (xs0:List Int) (hs:len0<=140737488355328) (hl0:xs0.length=len0) (hc0:len0<=cap0) (hA0:A0=none->cap0=0) (hr0:jzk .u8 W A0 xs0) (hw:∀ x∈xs0,0<=x/\x<=255) :
 Calls Try.prog 3 #[.slice A0 len0 cap0] W fun e w'=>e=.returned (.bool true)/\Below W.heap.size W w':=by
 obtain⟨X,hX,hS⟩:=nums_arg hl0 hc0 hA0 hr0
 obtain⟨l,rfl,hb⟩:∃ l:List Nat,xs0=l.map (fun n:Nat=>(n:Int))/\∀ n∈l,n<256:=by
  refine⟨xs0.map Int.toNat,?_,fun n hn=>?_⟩
  .rw [List.map_map]
   have e:∀ L:List Int,(∀ x∈L,0<=x/\x<=255)->L=L.map ((fun n:Nat=>(n:Int)) ∘ Int.toNat):=fun L=>by
    induction L with
    | nil=>intro _;rfl
    | cons a L ih =>
     intro h
     rw[List.map_cons,←ih (fun x hx=>h x (List.mem_cons_of_mem _ hx))]
     congr 1
     have:=h a (by simp)
     show a=((Int.toNat a:Nat):Int)
     omega
   exact e xs0 hw
  .obtain ⟨x,hx,rfl⟩:=List.mem_map.1 hn
   have:=hw x hx
   omega
 rw[List.length_map] at hl0
 refine jz2 (qmc (A:=fun _=>0)) (d:=()) (qjc ji8 hb (by omega) (X:=X) ?_) (jallK_ok W) _ (.cons (hS _) .nil)
 rcases hX with⟨e,e2⟩ | e
 .exact .inl ⟨List.map_eq_nil_iff.1 e,e2⟩
 .refine .inr ?_
  rw[e,List.map_map]
  rfl
open Go.ChangeShapes Go.WideShapes Go.ChangeAt Go.RowKit
open Go.ChangeMaps (open_string shut_string)
theorem own:ownKnob Try.prog.godebug=none:=by kernel_rfl
theorem laidOut:laidOutB Try.prog=true:=by kernel_rfl
set_option maxRecDepth 100000 in
theorem lifted (os:Os) (started:os.Started) (H:Type) (enc:TypeId×Value->H) :
 ReturnsInHanded {} Try.checked os 3 .any (Rows.wireFixedSpec.pre6 enc Try.prog Try.f3 Rows.wireFixedRow.domain false) (Rows.wireFixedSpec.post enc Try.prog Try.f3 false true false false):=by
 refine returnsInHanded_of_change_sized (C:=Try.checked) own started (by kernel_rfl) Try.func3
  (ChangeSpec.witness6 (enc:=enc) (C:=Try.checked) false ⟨#[],#[.slice none 0 0],[]⟩ 8 (by kernel_rfl) (by kernel_rfl) (by kernel_rfl) (by kernel_rfl)) ?_
 intro W base args ds gs before hval0 hW hcnd hsz0 _
 have hval:∀ (j:Nat) t v,Try.f3.params[j]?=some t->args[j]?=some v->Value.okWide Try.prog W .any base t v:=hval0
 have hW':=hW
 obtain⟨p,q,hAW,hV,rfl,hfz,hnd⟩:=hW
 have hA:DataW.TrodAll enc Try.prog W 0 (fun _=>true) true Try.f3.params.toList args.toList ds p:=hAW
 have hsz:(DataW.weightsEach Try.prog Try.f3.params.toList ds).all (·<=reachBytes)=true:=by
  obtain⟨rfl,rfl⟩:=trodVars_none hV
  have h1:Rows.wireFixedSpec.plain.varTypes Try.prog=[]:=rfl
  have h2:Try.checked.prog=Try.prog:=rfl
  simp only[h2,h1,List.append_nil] at hsz0
  exact hsz0
 rw[Try.params3] at hA hval hsz
 obtain⟨v0,vs0,d0,ds0,p0,q0,hargs,rfl,rfl,h0,r0⟩:=trodAll_cons hA
 obtain⟨rfl,rfl,rfl⟩:=trodAll_nil r0
 obtain rfl:args=#[v0]:=by cases args;simp_all
 obtain⟨rfl,rfl⟩:=trodVars_none hV
 have k0:=h0
 have lt0:∀ x∈p0,x.block<W.heap.size:=by obtain⟨m,hm⟩:=k0;exact DataW.trod_lt m _ _ _ hm
 obtain⟨B0,lenB0,capB0,xsB0,eB0,hlB0,hmB0,hnB0,hwB0,hrB0⟩:=jzm Try.underlying22 Try.underlying5 (by kernel_rfl) (hval 0 22 v0 rfl rfl) h0
 have hrB0':lenB0*1<=140737488351232:=hrB0 140737488351232 (fun elems spare hd=>sized_slice hsz (j:=0) rfl (by rw[hd];rfl) Try.underlying22)
 obtain⟨A0,len0,cap0,xs0,rfl,hl0,hc0,hA0,hr0,hw0⟩:=open_nums1 Try.underlying22 Try.underlying5 (by kernel_rfl) (hval 0 22 v0 rfl rfl) h0
 obtain rfl:len0=lenB0:=by injection eB0
 clear hAW hval0
 refine(wireFixed_walk W A0 len0 cap0 xs0 (by omega) hl0 hc0 hA0 hr0 (fun x hx=>inu8_of_wf (hw0 x hx))).mono fun e W' ⟨he,bel⟩=>?_
 subst he
 exact⟨_,rfl,_,_,_,[],_,[],hW',trodAll_mk1 (shut_bool Try.underlying4 _),(trodAll_cons_mk (Below.trod laidOut (by kernel_rfl) (of_decide_eq_true (by kernel_rfl)) k0 bel lt0) trodAll_mk0),rfl,bel.frame _,fun h=>by cases h⟩
theorem over:Rows.wireFixedRow.holds Try.pinned (OpenSpec.ofChange Rows.wireFixedSpec) :=
 OpenClaim.holds_of_wide 3 Try.f3 rfl rfl rfl rfl rfl rfl rfl ⟨rfl,rfl,rfl,rfl,rfl⟩ rfl rfl rfl rfl rfl (by kernel_rfl) Try.func3 (by kernel_rfl)
  (of_decide_eq_true (by kernel_rfl)) (by unfold Func.isWrapper;first | (rw[if_pos (by decide +kernel)];kernel_rfl) | (rw[if_neg (by decide +kernel)];exact⟨rfl,rfl⟩))
  (fun os started H enc _=>lifted os started H enc)
theorem proved:Rows.WireFixedSaid:=over
end Go.Proofs.Ytkplfnkgodnmaaa.wireFixed
