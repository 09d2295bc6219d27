/- What a row's list of package-level variables gives. -/
import Derived.Test.YtkpadfebkaangaaGreatDoorLx
import Derived.Test.YtkpadfebkaangaaGreatDoorRows
import Derived.MakeChecks
import Derived.LaidLaws
import Derived.Lib.LaidTab
import Derived.OpenShut
import Derived.Test.YtkpadfebkaangaaGreatDoorRec
import Derived.Test.YtkpadfebkaangaaGreatDoorTki
namespace Go.Proofs.YtkpadfebkaangaaGreatDoor.Ev
open Go Go.RowKit
set_option linter.all false
variable {w:World}
theorem jio {P:Program}:∀ {l:List (String×DataW Unit)} {ps:List MemPlace},DataW.LaidVars P w l ps->∀ n d,(n,d)∈l ->
 ∃ g t cs fuel p,P.globalNamed n=some g/\(P.globals[g]?).map (·.type)=some t/\w.var? P n=some cs/\DataW.trod (fun _=>()) P w 0 (fun _=>true) false fuel t cs.toList=some (d,p)
 | [],ps,_,n,d,h=>by simp at h
 | (n0,d0)::l,ps,⟨g,t,cs,f,p,q,h1,h2,h3,h4,h5,_⟩,n,d,h=>by
  rcases f0f.1 h with h | h
  .cases h
   exact⟨g,t,cs,f,p,h1,h2,h3,h4⟩
  .exact jio h5 n d h
def j59 (W:World) (b:Nat):Option (Array Value):=match W.heap[b]? with
 | some (.cells c e fr)=>some c
 | _=>none
theorem qpr (W:World):jvj (j59 W) W:=fun b cs h=>by
 unfold j59 at h
 split at h
 .rename_i c e fr hb
  cases h
  exact⟨(e,fr),hb⟩
 .cases h
theorem jk3 {P:Program} {W:World} {n:String} {g:Nat} {cs:Array Value} (hg:P.globalNamed n=some g) (hv:W.var? P n=some cs):j59 W g=some cs:=by
 unfold World.var? at hv
 simp only[hg,Option.bind_some] at hv
 unfold j59
 split at hv
 .rename_i c a b e
  rw[e];exact hv
 .cases hv
theorem qc0 {W:World} {b k:Nat} {u:Value} (h:W.cell? ⟨b,k,none⟩=some u):∃ cs,j59 W b=some cs/\cs[k]?=some u:=by
 unfold World.cell? at h
 simp only at h
 split at h
 .rename_i c e fr hb
  refine⟨c,?_,by simpa using h⟩
  unfold j59
  rw[hb]
 .cases h
theorem jk4 {H:Type} {enc:TypeId×Value->H} {P:Program} {base:Nat} {sp:Nat->Bool} {held:Bool} {fuel:Nat} {t e:TypeId} {n:Nat} {cs:List Value} {ls:List (List UInt8)} {p:List MemPlace}
 (ht:P.underlying t=some (.array n e)) (he:P.underlying e=some .string) (hce:P.cellsOf e=1)
 (h:DataW.trod enc P w base sp held fuel t cs=some (.agg (ls.map fun l=>.lit (.string l)),p)):qpv (ls.map .str) cs=true:=by
 obtain⟨xs,m,rfl,hx,hl,hn,hel⟩:=DataW.trod_array ht h
 have hxs:xs.map (·.1)=ls.map fun l=>(DataW.lit (.string l):DataW H):=by
  have:=congrArg Prod.fst hx
  simpa using this.symm
 have hlen:ls.length=n:=by
  have:=congrArg List.length hxs
  simp at this
  omega
 have key:∀ (i:Nat) (l:List UInt8),ls[i]?=some l->∃ u,cs[i]?=some u/\sv1 (.str l) u=true:=fun i l hi=>by
  have hin:i<n:=by
   have:=(f0q.1 hi).1
   omega
  have h0:=hel i hin
  rw[hce,f12] at h0
  have hxi:(xs.map (·.1))[i]?=some (DataW.lit (.string l):DataW H):=by rw[hxs,f09,hi];rfl
  rw[f09] at hxi
  obtain⟨q,hq,hq2⟩:=f0a.1 hxi
  rw[hq] at h0
  obtain⟨s,h1,h2,_⟩:=DataW.trod_string he h0
  have h3:cs[i]?=some (.string s):=by
   have:=congrArg (·[0]?) h1
   simpa[f2d,f1h] using this
  refine⟨_,h3,?_⟩
  rw[h2] at hq2
  simp only[DataW.lit.injEq,Lit.string.injEq] at hq2
  subst hq2
  show(s.data.toList == s.data.toList)=true
  exact beq_self_eq_true _
 clear hx hxs hlen hel h hl hn
 induction ls generalizing cs with
 | nil=>rfl
 | cons l ls ih =>
  obtain⟨u,h1,h2⟩:=key 0 l rfl
  cases cs with
  | nil=>cases h1
  | cons c cs =>
   cases h1
   show(sv1 (.str l) u&&qpv (ls.map .str) cs)=true
   rw[h2,ih (cs:=cs) (fun i l hi=>key (i+1) l hi)]
   rfl
end Go.Proofs.YtkpadfebkaangaaGreatDoor.Ev
namespace Go.Proofs.YtkpadfebkaangaaGreatDoor
open Go.ChangeShapes Go.WideShapes Go.ChangeAt Go.RowKit
set_option linter.all false
section
variable {H:Type} {enc:TypeId×Value->H} {P:Program} {W:World}
theorem j54 {t e:TypeId} {k:IntKind} {v:Value} {d:DataW H} {ps:List MemPlace} {base:Nat} (ht:P.underlying t=some (.slice e)) (he:P.underlying e=some (.int k)) (hc:P.cellsOf e=1)
 (hv:Value.okWide P W .any base t v) (h:DataW.Trod enc P W 0 (fun _=>true) true t v d ps) :
 ∃ A len cap xs,v=.slice A len cap/\xs.length=len/\len<=cap/\(A=none->cap=0)/\qfe k W A xs/\(∀ x∈xs,(Lit.int k x).wf=true):=by
 obtain⟨A,len,cap,rfl⟩:=okWide_slice ht hv
 obtain⟨fuel,hf⟩:=h
 rcases open_ints ht he hc hf with⟨hcs,_⟩ | ⟨x,l,c,zs,hcs,_,hl,hm,hz,hx,hcell,hwz⟩
 .simp [Value.cells] at hcs
  obtain⟨rfl,rfl,rfl⟩:=hcs
  exact⟨_,_,_,[],rfl,rfl,se,fun _=>rfl,qfe.nil _ _ _,se⟩
 .simp [Value.cells] at hcs
  obtain⟨rfl,rfl,rfl⟩:=hcs
  have hz':zs.length=cap:=by simpa using hz
  refine⟨_,_,_,zs.take len,rfl,by simp;omega,oa,(by intro e;cases e),?_,fun y hy=>hwz y (List.mem_of_mem_take hy)⟩
  intro i hi
  have hi':i<len:=by simp at hi;omega
  have h0:=jpg (hcell 0 oa)
  rw[show x.add 0=x from by unfold Addr.add;simp] at h0
  refine⟨x.block,x.off,by rw[←h0],fun j hj=>?_⟩
  have hj':j<len:=by simp at hj;omega
  have hc:=hcell j oa
  rw[j8v j hc (fun _=>trivial)] at hc
  rw[hc]
  simp[f0b (show j<zs.length by omega)]
end
end Go.Proofs.YtkpadfebkaangaaGreatDoor
namespace Go.Proofs.YtkpadfebkaangaaGreatDoor.Ev
open Go Go.RowKit Go.Proofs.YtkpadfebkaangaaGreatDoor.Ms
set_option linter.all false
theorem jip {w:World} {b k:Nat} {u:Value} (h:w.cell? ⟨b,k,none⟩=some u):∃ c e fr,w.heap[b]?=some (.cells c e fr)/\c[k]?=some u:=by
 unfold World.cell? at h
 simp only at h
 split at h
 .rename_i c e fr hb
  exact⟨c,_,_,hb,by simpa using h⟩
 .cases h
def qke (x:List Int):Pc:=⟨x.getD 0 0,x.getD 1 0,x.getD 2 0,x.getD 3 0,x.getD 4 0,x.getD 5 0,x.getD 6 0⟩
theorem qc1:∀ {x:List Int},x.length=7->jb8 (qke x)=x.map (fun n=>si n)
 | [a,b,c,d,e,f,g],_=>rfl
theorem jz1 {W:World} {A2:Option Addr} {len cap:Nat} {xs:List (List Int)} (hl:xs.length=len) (hc:len<=cap) (hA:A2=none->cap=0) (hr:Recs 7 W A2 xs) :
 ∃ xl:SV,LstE jb8 7 xl (xs.map qke)/\(∀ q∈xs.map qke,Pin q)/\∀ A (φ:Phi),φ.k=j59 W->cS A φ xl (.slice A2 len cap):=by
 subst hl
 have pin:∀ q∈xs.map qke,Pin q:=fun q hq=>by
  obtain⟨x,hx,rfl⟩:=f1j.1 hq
  have hlen:=hr.len x hx
  have hw:=hr.wf x hx
  match x,hlen with
  | [a,b,c,d,e,f,g],_ =>
   have r:∀ n∈[a,b,c,d,e,f,g],-9223372036854775808<=n/\n<=9223372036854775807:=fun n hn=>je3 (hw n hn)
   exact⟨r a se,r b se,r c se,r d se,r e se,r f se,r g se⟩
 cases A2 with
 | none =>
  have h1:=hA rfl
  have h2:xs=[]:=f1i oa
  subst h2 h1
  exact⟨.nilSlice,LstE.enc (l:=[]) (fun _=>rfl),pin,fun A φ _=>rfl⟩
 | some ad =>
  rcases hr.at_ with rfl | ⟨b,off,e,hcell⟩
  .exact ⟨.lst [],LstE.emp,pin,fun A φ _=>.lst0 ad cap⟩
  .cases e
   cases xs with
   | nil=>exact⟨.lst [],LstE.emp,pin,fun A φ _=>.lst0 _ cap⟩
   | cons x0 xs =>
    have hx0:=hr.len x0 se
    obtain⟨n0,hn0⟩:∃ n,x0[0]?=some n:=⟨_,f0b oa⟩
    have hc0:=hcell 0 x0 0 n0 rfl hn0
    obtain⟨cs,ty,fr,hb,_⟩:=jip hc0
    have hget:∀ (i:Nat) (x:List Int) (j:Nat) (n:Int),(x0::xs)[i]?=some x->x[j]?=some n->cs[off+i*7+j]?=some (.int .i64 n):=fun i x j n h1 h2=>by
     obtain⟨cs',ty',fr',hb',h3⟩:=jip (hcell i x j n h1 h2)
     rw[hb] at hb'
     cases hb'
     exact h3
    have row:∀ (i:Nat) (r:List SV),(((x0::xs).map qke).map jb8)[i]?=some r->∃ x,(x0::xs)[i]?=some x/\r=x.map (fun n=>si n):=fun i r h=>by
     rw[f09,f09] at h
     obtain⟨q,hq,rfl⟩:=f0a.1 h
     obtain⟨x,hx,rfl⟩:=f0a.1 hq
     exact⟨x,hx,qc1 (hr.len x (f0c hx))⟩
    have one:∀ (i j:Nat) (r:List SV) (y:SV),(((x0::xs).map qke).map jb8)[i]?=some r->r[j]?=some y->∃ n,y=si n/\cs[off+i*7+j]?=some (.int .i64 n):=fun i j r y h1 h2=>by
     obtain⟨x,hx,rfl⟩:=row i r h1
     rw[f09] at h2
     obtain⟨n,hn,rfl⟩:=f0a.1 h2
     exact⟨n,rfl,hget i x j n hx hn⟩
    refine⟨jaf jb8 ((x0::xs).map qke),LstE.enc (fun _=>rfl),pin,fun A φ hφ=>?_⟩
    .have hrl:(((x0::xs).map qke).map jb8).length=(x0::xs).length:=se
     rw[←hrl]
     refine cD.lst _ b off cap 7 cs (fun i j=>(cs[off+i*7+j]?).getD (.bool false)) ?_ (by have:=hc;simp at this ⊢;exact this) (fun i r h=>?_) (fun i j r y h1 h2=>?_) (fun i j r y h1 h2=>?_)
     .rw [hφ]
      unfold j59
      rw[hb]
     .obtain ⟨x,hx,rfl⟩:=row i r h
      rw[f03];exact hr.len x (f0c hx)
     .obtain ⟨n,rfl,h3⟩:=one i j r y h1 h2
      rw[h3];rfl
     .obtain ⟨n,rfl,h3⟩:=one i j r y h1 h2
      simp only[h3,f1l]
      exact .int _ _
theorem qc2 {W:World} {A2:Option Addr} {len cap:Nat} {xs:List Int} (hl:xs.length=len) (hc:len<=cap) (hA:A2=none->cap=0) (hr:qfe .i64 W A2 xs) :
 ∃ xl:SV,LstE jhf 1 xl xs/\∀ A (φ:Phi),φ.k=j59 W->cS A φ xl (.slice A2 len cap):=by
 subst hl
 cases xs with
 | nil =>
  cases A2 with
  | none=>rw[hA rfl];exact⟨.nilSlice,LstE.enc (l:=[]) (fun _=>rfl),fun A φ _=>rfl⟩
  | some ad=>exact⟨.lst [],LstE.emp,fun A φ _=>.lst0 ad cap⟩
 | cons x0 xs =>
  obtain⟨b,off,rfl,hcell⟩:=hr 0 se
  have h0:=hcell 0 se
  obtain⟨cs,ty,fr,hb,_⟩:=jip h0
  have hget:∀ (i:Nat) (n:Int),(x0::xs)[i]?=some n->cs[off+i]?=some (.int .i64 n):=fun i n h1=>by
   obtain⟨h2,h3⟩:=f0q.1 h1
   obtain⟨cs',ty',fr',hb',h4⟩:=jip (hcell i h2)
   rw[hb] at hb'
   cases hb'
   rw[h4,h3]
  have row:∀ (i:Nat) (r:List SV),((x0::xs).map jhf)[i]?=some r->∃ n,(x0::xs)[i]?=some n/\r=[si n]:=fun i r h=>by
   rw[f09] at h
   obtain⟨q,hq,rfl⟩:=f0a.1 h
   exact⟨q,hq,rfl⟩
  have one:∀ (i j:Nat) (r:List SV) (y:SV),((x0::xs).map jhf)[i]?=some r->r[j]?=some y->∃ n,y=si n/\cs[off+i*1+j]?=some (.int .i64 n):=fun i j r y h1 h2=>by
   obtain⟨n,hn,rfl⟩:=row i r h1
   match j,h2 with
   | 0,h2=>cases h2;exact⟨n,rfl,by rw[f12,f1z];exact hget i n hn⟩
  refine⟨jaf jhf (x0::xs),LstE.enc (fun _=>rfl),fun A φ hφ=>?_⟩
  have hrl:((x0::xs).map jhf).length=(x0::xs).length:=se
  rw[←hrl]
  refine cD.lst _ b off cap 1 cs (fun i j=>(cs[off+i*1+j]?).getD (.bool false)) ?_ (by have:=hc;simp at this ⊢;exact this) (fun i r h=>?_) (fun i j r y h1 h2=>?_) (fun i j r y h1 h2=>?_)
  .rw [hφ]
   unfold j59
   rw[hb]
  .obtain ⟨x,hx,rfl⟩:=row i r h
   rfl
  .obtain ⟨n,rfl,h3⟩:=one i j r y h1 h2
   rw[h3];rfl
  .obtain ⟨n,rfl,h3⟩:=one i j r y h1 h2
   simp only[h3,f1l]
   exact .int _ _
end Go.Proofs.YtkpadfebkaangaaGreatDoor.Ev
namespace Go.Proofs.YtkpadfebkaangaaGreatDoor.textBack
open Go Go.RowKit Go.Proofs.YtkpadfebkaangaaGreatDoor.Ev Go.Proofs.YtkpadfebkaangaaGreatDoor.Ms
set_option linter.all false
set_option maxRecDepth 100000
theorem gk {W:World} (hL:laidMetH Tryz.prog Rows.textBackRow.laid W) (hs:W.ShapedOpen Tryz.prog):GK (j59 W):=by
 rw[MakeChecks.laidMetH_plain _ _ _ ka] at hL
 obtain⟨ps,hv,_,_⟩:=hL
 refine⟨fun g cells e=>?_,?_,?_,?_,?_⟩
 .unfold qko at e
  rw[jat] at e
  split at e
  .rename_i hg
   cases e
   rw[f0k hg]
   obtain⟨g',t,cs,f,p,h1,h2,h3,h4⟩:=jio hv "ostler/text.kinds" Rows.laid_ostler_text_kinds (f0c (i:=7) rfl)
   obtain rfl:=Option.some.inj ((show Tryz.prog.globalNamed "ostler/text.kinds"=some 0 by kernel_rfl).symm.trans h1)
   obtain rfl:=Option.some.inj ((show(Tryz.prog.globals[0]?).map (·.type)=some 115 by kernel_rfl).symm.trans h2)
   exact⟨cs,jk3 h1 h3,jk4 (ls:=[[],[117,115,101],[100,101,102]]) Tryz.underlying115 Tryz.underlying9 ka h4⟩
  .rw [jat] at e
   split at e
   .rename_i hg
    cases e
    rw[f0k hg]
    obtain⟨g',t,cs,f,p,h1,h2,h3,h4⟩:=jio hv "ostler/text.limits" Rows.laid_ostler_text_limits (f0c (i:=6) rfl)
    obtain rfl:=Option.some.inj ((show Tryz.prog.globalNamed "ostler/text.limits"=some 1 by kernel_rfl).symm.trans h1)
    obtain rfl:=Option.some.inj ((show(Tryz.prog.globals[1]?).map (·.type)=some 116 by kernel_rfl).symm.trans h2)
    exact⟨cs,jk3 h1 h3,jk4 (ls:=[[],[97,110,121],[114,101,103],[115,116,97,99,107],[102,105,120,101,100],[114,101,117,115,101]]) Tryz.underlying116 Tryz.underlying9 ka h4⟩
   .cases e
 .obtain ⟨m,hm⟩:=Tryz.laysM145.s1_3 W hs
  obtain⟨cs,h1,h2⟩:=qc0 (show W.cell? ⟨2,0,none⟩=some (.int .i64 m) from hm)
  exact⟨m,cs,h1,h2⟩
 .obtain ⟨g',t,cs,f,p,h1,h2,h3,h4⟩:=jio hv "internal/strconv.uint64pow10" Rows.laid_internal_strconv_uint64pow10 (f0c (i:=2) rfl)
  obtain rfl:=Option.some.inj ((show Tryz.prog.globalNamed "internal/strconv.uint64pow10"=some 3 by kernel_rfl).symm.trans h1)
  obtain rfl:=Option.some.inj ((show(Tryz.prog.globals[3]?).map (·.type)=some 160 by kernel_rfl).symm.trans h2)
  have hc:=Lib.cells_of_tab (zs:=Lib.pow10Tab) (k:=.u64) Tryz.underlying160 Tryz.underlying138 ka ka (by
   have e:(Rows.laid_internal_strconv_uint64pow10:DataW Unit)=Lib.tabData .u64 Lib.pow10Tab:=ka
   rw[←e];exact h4)
  rw[jk3 h1 h3]
  congr 1
  rw[←hc]
 .obtain ⟨g',t,cs,f,p,h1,h2,h3,h4⟩:=jio hv "strconv.ErrSyntax" Rows.laid_strconv_ErrSyntax (f0c (i:=5) rfl)
  obtain rfl:=Option.some.inj ((show Tryz.prog.globalNamed "strconv.ErrSyntax"=some 4 by kernel_rfl).symm.trans h1)
  obtain rfl:=Option.some.inj ((show(Tryz.prog.globals[4]?).map (·.type)=some 49 by kernel_rfl).symm.trans h2)
  obtain⟨_,u,v,hc,_,_⟩:=iface_of_trod Tryz.underlying49 h4
  exact⟨cs,.iface u v,jk3 h1 h3,by rw[←f1g,hc];rfl,.inr ⟨u,v,rfl⟩⟩
 .obtain ⟨g',t,cs,f,p,h1,h2,h3,h4⟩:=jio hv "strconv.ErrRange" Rows.laid_strconv_ErrRange (f0c (i:=4) rfl)
  obtain rfl:=Option.some.inj ((show Tryz.prog.globalNamed "strconv.ErrRange"=some 5 by kernel_rfl).symm.trans h1)
  obtain rfl:=Option.some.inj ((show(Tryz.prog.globals[5]?).map (·.type)=some 49 by kernel_rfl).symm.trans h2)
  obtain⟨_,u,v,hc,_,_⟩:=iface_of_trod Tryz.underlying49 h4
  exact⟨cs,.iface u v,jk3 h1 h3,by rw[←f1g,hc];rfl,.inr ⟨u,v,rfl⟩⟩
theorem juw (W:World) (g:GK (j59 W)) (a0:Int) (i0:qhu a0) (a1:Int) (i1:qhu a1) (A2:Option Addr) (len2 cap2:Nat) (xs2:List (List Int)) (hl2:xs2.length=len2) (hc2:len2<=cap2) (hA2:A2=none->cap2=0) (hr2:Recs 7 W A2 xs2) (a3:Int) (i3:qhu a3) (a4:Int) (i4:qhu a4) (A5:Option Addr) (len5 cap5:Nat) (xs5:List Int) (hl5:xs5.length=len5) (hc5:len5<=cap5) (hA5:A5=none->cap5=0) (hr5:qfe .i64 W A5 xs5) (hw5:∀ x∈xs5,qhu x) :
 Calls Tryz.prog 4 #[.int .i64 a0,.int .i64 a1,.slice A2 len2 cap2,.int .i64 a3,.int .i64 a4,.slice A5 len5 cap5] W fun e w'=>e=.returned (.bool true)/\Below W.heap.size W w':=by
 obtain⟨xl,lx,pin,hcs⟩:=jz1 hl2 hc2 hA2 hr2
 obtain⟨xw,lw,hcw⟩:=qc2 hl5 hc5 hA5 hr5
 exact j7p (q0v (A:=fun _=>0)) (d:=()) (qpq jdv i0 i1 pin lx i3 i4 hw5 lw) (qpr W) _ (.cons rfl (.cons rfl (.cons (hcs _ _ rfl) (.cons rfl (.cons rfl (.cons (hcw _ _ rfl) .nil))))))
end Go.Proofs.YtkpadfebkaangaaGreatDoor.textBack
