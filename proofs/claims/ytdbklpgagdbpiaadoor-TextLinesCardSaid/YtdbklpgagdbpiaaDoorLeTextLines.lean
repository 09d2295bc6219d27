/- What a row's list of package-level variables gives: they are among the constants. -/
import Derived.Test.YtdbklpgagdbpiaaDoorLx
import Derived.Test.YtdbklpgagdbpiaaDoorRows
import Derived.MakeChecks
import Derived.LaidLaws
import Derived.Lib.LaidTab
import Derived.OpenShut
import Derived.Test.YtdbklpgagdbpiaaDoorTl2
import Derived.Test.YtdbklpgagdbpiaaDoorRec
namespace Go.Proofs.YtdbklpgagdbpiaaDoor.Ev
open Go Go.RowKit
set_option linter.all false
theorem joq {P:Program} {w:World}:∀ {l:List (String×DataW Unit)} {ps:List MemPlace},DataW.LaidVars P w l ps->∀ n d,(n,d)∈l ->
 ∃ g t cs fuel p,P.globalNamed n=some g/\(P.globals[g]?).map (·.type)=some t/\w.var? P n=some cs/\DataW.trod (fun _=>()) P w 0 (fun _=>true) false fuel t cs.toList=some (d,p)
 | [],ps,_,n,d,h=>by simp at h
 | (n0,d0)::l,ps,⟨g,t,cs,f,p,q,h1,h2,h3,h4,h5,_⟩,n,d,h=>by
  rcases f0j.1 h with h | h
  .cases h
   exact⟨g,t,cs,f,p,h1,h2,h3,h4⟩
  .exact joq h5 n d h
def qhf (W:World) (b:Nat):Option (Array Value):=match W.heap[b]? with
 | some (.cells c e fr)=>some c
 | _=>none
theorem qof (W:World):jxl (qhf W) W:=fun b cs h=>by
 unfold qhf at h
 split at h
 .rename_i c e fr hb
  cases h
  exact⟨(e,fr),hb⟩
 .cases h
theorem jwr {P:Program} {W:World} {n:String} {g:Nat} {cs:Array Value} (hg:P.globalNamed n=some g) (hv:W.var? P n=some cs):qhf W g=some cs:=by
 unfold World.var? at hv
 simp only[hg,Option.bind_some] at hv
 unfold qhf
 split at hv
 .rename_i c a b e
  rw[e];exact hv
 .cases hv
theorem jls {H:Type} {enc:TypeId×Value->H} {P:Program} {w:World} {base:Nat} {sp:Nat->Bool} {held:Bool} {fuel:Nat} {t e:TypeId} {n:Nat} {cs:List Value} {ls:List (List UInt8)} {p:List MemPlace}
 (ht:P.underlying t=some (.array n e)) (he:P.underlying e=some .string) (hce:P.cellsOf e=1)
 (h:DataW.trod enc P w base sp held fuel t cs=some (.agg (ls.map fun l=>.lit (.string l)),p)):qoh (ls.map .str) cs=true:=by
 obtain⟨xs,m,rfl,hx,hl,hn,hel⟩:=DataW.trod_array ht h
 have hxs:xs.map (·.1)=ls.map fun l=>(DataW.lit (.string l):DataW H):=by
  have:=congrArg Prod.fst hx
  simpa using this.symm
 have hlen:ls.length=n:=by
  have:=congrArg List.length hxs
  simp at this
  omega
 have key:∀ (i:Nat) (l:List UInt8),ls[i]?=some l->∃ u,cs[i]?=some u/\sv1 (.str l) u=true:=fun i l hi=>by
  have hin:i<n:=by
   have:=(f0x.1 hi).1
   omega
  have h0:=hel i hin
  rw[hce,f2h] at h0
  have hxi:(xs.map (·.1))[i]?=some (DataW.lit (.string l):DataW H):=by rw[hxs,f09,hi];rfl
  rw[f09] at hxi
  obtain⟨q,hq,hq2⟩:=f0a.1 hxi
  rw[hq] at h0
  obtain⟨s,h1,h2,_⟩:=DataW.trod_string he h0
  have h3:cs[i]?=some (.string s):=by
   have:=congrArg (·[0]?) h1
   simpa[f15,f1f] using this
  refine⟨_,h3,?_⟩
  rw[h2] at hq2
  simp only[DataW.lit.injEq,Lit.string.injEq] at hq2
  subst hq2
  show(s.data.toList == s.data.toList)=true
  exact beq_self_eq_true _
 clear hx hxs hlen hel h hl hn
 induction ls generalizing cs with
 | nil=>rfl
 | cons l ls ih =>
  obtain⟨u,h1,h2⟩:=key 0 l rfl
  cases cs with
  | nil=>cases h1
  | cons c cs =>
   cases h1
   show(sv1 (.str l) u&&qoh (ls.map .str) cs)=true
   rw[h2,ih (cs:=cs) (fun i l hi=>key (i+1) l hi)]
   rfl
open Go Go.RowKit Go.Proofs.YtdbklpgagdbpiaaDoor.Ms
theorem jte {w:World} {b k:Nat} {u:Value} (h:w.cell? ⟨b,k,none⟩=some u):∃ c e fr,w.heap[b]?=some (.cells c e fr)/\c[k]?=some u:=by
 unfold World.cell? at h
 simp only at h
 split at h
 .rename_i c e fr hb
  exact⟨c,_,_,hb,by simpa using h⟩
 .cases h
def qhg (x:List Int):Pc:=⟨x.getD 0 0,x.getD 1 0,x.getD 2 0,x.getD 3 0,x.getD 4 0,x.getD 5 0,x.getD 6 0⟩
theorem qb6:∀ {x:List Int},x.length=7->jce (qhg x)=x.map (fun n=>si n)
 | [a,b,c,d,e,f,g],_=>rfl
theorem j11 {W:World} {A2:Option Addr} {len cap:Nat} {xs:List (List Int)} (hl:xs.length=len) (hc:len<=cap) (hA:A2=none->cap=0) (hr:Recs 7 W A2 xs) :
 ∃ xl:SV,LstE jce 7 xl (xs.map qhg)/\(∀ q∈xs.map qhg,Pin q)/\∀ A (φ:Phi),φ.k=qhf W->cS A φ xl (.slice A2 len cap):=by
 subst hl
 have pin:∀ q∈xs.map qhg,Pin q:=fun q hq=>by
  obtain⟨x,hx,rfl⟩:=f19.1 hq
  have hlen:=hr.len x hx
  have hw:=hr.wf x hx
  match x,hlen with
  | [a,b,c,d,e,f,g],_ =>
   have r:∀ n∈[a,b,c,d,e,f,g],-9223372036854775808<=n/\n<=9223372036854775807:=fun n hn=>jmj (hw n hn)
   exact⟨r a (by simp),r b (by simp),r c (by simp),r d (by simp),r e (by simp),r f (by simp),r g (by simp)⟩
 cases A2 with
 | none =>
  have h1:=hA rfl
  have h2:xs=[]:=f1n (by omega)
  subst h2 h1
  exact⟨.nilSlice,LstE.enc (l:=[]) (fun _=>rfl),pin,fun A φ _=>rfl⟩
 | some ad =>
  rcases hr.at_ with rfl | ⟨b,off,e,hcell⟩
  .exact ⟨.lst [],LstE.emp,pin,fun A φ _=>.lst0 ad cap⟩
  .cases e
   cases xs with
   | nil=>exact⟨.lst [],LstE.emp,pin,fun A φ _=>.lst0 _ cap⟩
   | cons x0 xs =>
    have hx0:=hr.len x0 (by simp)
    obtain⟨n0,hn0⟩:∃ n,x0[0]?=some n:=⟨_,f0b (by omega)⟩
    have hc0:=hcell 0 x0 0 n0 rfl hn0
    obtain⟨cs,ty,fr,hb,_⟩:=jte hc0
    have hget:∀ (i:Nat) (x:List Int) (j:Nat) (n:Int),(x0::xs)[i]?=some x->x[j]?=some n->cs[off+i*7+j]?=some (.int .i64 n):=fun i x j n h1 h2=>by
     obtain⟨cs',ty',fr',hb',h3⟩:=jte (hcell i x j n h1 h2)
     rw[hb] at hb'
     cases hb'
     exact h3
    have row:∀ (i:Nat) (r:List SV),(((x0::xs).map qhg).map jce)[i]?=some r->∃ x,(x0::xs)[i]?=some x/\r=x.map (fun n=>si n):=fun i r h=>by
     rw[f09,f09] at h
     obtain⟨q,hq,rfl⟩:=f0a.1 h
     obtain⟨x,hx,rfl⟩:=f0a.1 hq
     exact⟨x,hx,qb6 (hr.len x (f0c hx))⟩
    have one:∀ (i j:Nat) (r:List SV) (y:SV),(((x0::xs).map qhg).map jce)[i]?=some r->r[j]?=some y->∃ n,y=si n/\cs[off+i*7+j]?=some (.int .i64 n):=fun i j r y h1 h2=>by
     obtain⟨x,hx,rfl⟩:=row i r h1
     rw[f09] at h2
     obtain⟨n,hn,rfl⟩:=f0a.1 h2
     exact⟨n,rfl,hget i x j n hx hn⟩
    refine⟨jae jce ((x0::xs).map qhg),LstE.enc (fun _=>rfl),pin,fun A φ hφ=>?_⟩
    .have hrl:(((x0::xs).map qhg).map jce).length=(x0::xs).length:=by simp
     rw[←hrl]
     refine cD.lst _ b off cap 7 cs (fun i j=>(cs[off+i*7+j]?).getD (.bool false)) ?_ (by have:=hc;simp at this ⊢;exact this) (fun i r h=>?_) (fun i j r y h1 h2=>?_) (fun i j r y h1 h2=>?_)
     .rw [hφ]
      unfold qhf
      rw[hb]
     .obtain ⟨x,hx,rfl⟩:=row i r h
      rw[f1d];exact hr.len x (f0c hx)
     .obtain ⟨n,rfl,h3⟩:=one i j r y h1 h2
      rw[h3];rfl
     .obtain ⟨n,rfl,h3⟩:=one i j r y h1 h2
      simp only[h3,f1t]
      exact .int _ _
end Go.Proofs.YtdbklpgagdbpiaaDoor.Ev
namespace Go.Proofs.YtdbklpgagdbpiaaDoor.textLines
open Go Go.RowKit Go.Proofs.YtdbklpgagdbpiaaDoor.Ev Go.Proofs.YtdbklpgagdbpiaaDoor.Ms
set_option linter.all false
set_option maxRecDepth 100000
theorem gk {W:World} (hL:laidMetH Tryd.prog Rows.textLinesRow.laid W):GK (qhf W):=by
 rw[MakeChecks.laidMetH_plain _ _ _ (by kernel_rfl)] at hL
 obtain⟨ps,hv,_,_⟩:=hL
 refine⟨fun g cells e=>?_,?_⟩
 .unfold qhp at e
  rw[jap] at e
  split at e
  .rename_i hg
   cases e
   rw[f0i hg]
   obtain⟨g',t,cs,f,p,h1,h2,h3,h4⟩:=joq hv "ostler/text.kinds" Rows.laid_ostler_text_kinds (f0c (i:=4) rfl)
   obtain rfl:=Option.some.inj ((show Tryd.prog.globalNamed "ostler/text.kinds"=some 0 by kernel_rfl).symm.trans h1)
   obtain rfl:=Option.some.inj ((show(Tryd.prog.globals[0]?).map (·.type)=some 91 by kernel_rfl).symm.trans h2)
   exact⟨cs,jwr h1 h3,jls (ls:=[[],[117,115,101],[100,101,102]]) Tryd.underlying91 Tryd.underlying9 (by kernel_rfl) h4⟩
  .rw [jap] at e
   split at e
   .rename_i hg
    cases e
    rw[f0i hg]
    obtain⟨g',t,cs,f,p,h1,h2,h3,h4⟩:=joq hv "ostler/text.limits" Rows.laid_ostler_text_limits (f0c (i:=3) rfl)
    obtain rfl:=Option.some.inj ((show Tryd.prog.globalNamed "ostler/text.limits"=some 1 by kernel_rfl).symm.trans h1)
    obtain rfl:=Option.some.inj ((show(Tryd.prog.globals[1]?).map (·.type)=some 92 by kernel_rfl).symm.trans h2)
    exact⟨cs,jwr h1 h3,jls (ls:=[[],[97,110,121],[114,101,103],[115,116,97,99,107],[102,105,120,101,100],[114,101,117,115,101]]) Tryd.underlying92 Tryd.underlying9 (by kernel_rfl) h4⟩
   .cases e
 .obtain ⟨g',t,cs,f,p,h1,h2,h3,h4⟩:=joq hv "internal/strconv.uint64pow10" Rows.laid_internal_strconv_uint64pow10 (f0c (i:=2) rfl)
  obtain rfl:=Option.some.inj ((show Tryd.prog.globalNamed "internal/strconv.uint64pow10"=some 2 by kernel_rfl).symm.trans h1)
  obtain rfl:=Option.some.inj ((show(Tryd.prog.globals[2]?).map (·.type)=some 127 by kernel_rfl).symm.trans h2)
  have hc:=Lib.cells_of_tab (zs:=Lib.pow10Tab) (k:=.u64) Tryd.underlying127 Tryd.underlying110 (by kernel_rfl) (by kernel_rfl) (by
   have e:(Rows.laid_internal_strconv_uint64pow10:DataW Unit)=Lib.tabData .u64 Lib.pow10Tab:=by kernel_rfl
   rw[←e];exact h4)
  unfold qvt
  rw[jwr h1 h3]
  congr 1
  rw[←hc]
theorem jr7 (W:World) (g:GK (qhf W)) (a0:Int) (i0:qpl a0) (a1:Int) (i1:qpl a1) (A2:Option Addr) (len2 cap2:Nat) (xs2:List (List Int)) (hl2:xs2.length=len2) (hc2:len2<=cap2) (hA2:A2=none->cap2=0) (hr2:Recs 7 W A2 xs2) :
 Calls Tryd.prog 3 #[.int .i64 a0,.int .i64 a1,.slice A2 len2 cap2] W fun e w'=>e=.returned (.bool true)/\Below W.heap.size W w':=by
 obtain⟨xl,lx,pin,hcs⟩:=j11 hl2 hc2 hA2 hr2
 exact j7r (qxs (A:=fun _=>0)) (d:=()) (qsi jex i0 i1 pin lx) (qof W) _ (.cons rfl (.cons rfl (.cons (hcs _ _ rfl) .nil)))
end Go.Proofs.YtdbklpgagdbpiaaDoor.textLines
