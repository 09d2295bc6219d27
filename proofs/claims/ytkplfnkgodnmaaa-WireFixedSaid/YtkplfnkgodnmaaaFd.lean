/- Code of functions as the interpreter has it prepared, cut at loops. -/
import Derived.Test.YtkplfnkgodnmaaaMc4
import Derived.Test.YtkplfnkgodnmaaaVd
import Derived.Test.YtkplfnkgodnmaaaSb
namespace Go.Proofs.Ytkplfnkgodnmaaa.Ev
open Go Go.RowKit
set_option linter.all false
set_option maxRecDepth 100000
def j33:IC:=.seq (.block 1 (qr [qP (.ixs 1 (.g 3) (.g 6)),qL,qT 2] (.region [qM 0,qM 0,qN,qG 0,qL,qM 2,qP (.conv .u8 qa),qA (.bslice 5 1 [.int .u8 0] 1 [(0,(1,qa))]),qA (.app 5 1 1 qd qa),qP (.nchk (.l 8)),qG 0,qA (.store 1 qa qc)]))) (.region [qI 6,qT 6])
def jph:IC:=qr [qQ 4 (.bin .lt (.g 6) (.g 5))] (.seq (qX 4 0) j33)
def qak:IC:=qr [qQ 3 (.mv (.g 1)),qQ 5 (.len qa),qQ 6 (.mv (qC 0))] (.block 0 (.loop jph))
theorem qls:T 25=some (.mk qak 2 5 []):=by kernel_rfl
def qal:IC:=.region [qM 0,qM 1,qP (.bin .shr qa (.c (.s (.int .u64 24)))),qM 1,qP (.bin .shr qa (.c (.s (.int .u64 16)))),qM 1,qP (.bin .shr qa (.c (.s (.int .u64 8)))),qM 1,qA (.bslice 3 1 [.int .i64 0,.int .i64 0,.int .i64 0,.int .i64 0] 4 [(0,(1,.l 5)),(1,(1,qd)),(2,(1,qb)),(3,(1,qa))]),qA (.call 25 [.l 8,qa])]
theorem qlt:T 26=some (.mk qal 2 0 []):=by kernel_rfl
def qam:IC:=qr [qM 0,qM 1,qP (.len qa),qA (.bslice 3 1 [.int .i64 0] 1 [(0,(1,qa))]),qA (.call 25 [qd,qa])] (.region [qM 0,qM 1,qA (.call 25 [qb,qa])])
theorem qlu:T 27=some (.mk qam 2 0 []):=by kernel_rfl
def j34:IC:=.region [qM 0,qM 7,qF 3 9,qL,qP (.bin .mul (qC 8) qa),qP (.bin .add qd qa),qF 1 9,qL,qF 4 9,qL,qA (.bslice 3 1 [.int .i64 0,.int .i64 0,.int .i64 0] 3 [(0,(1,.l 4)),(1,(1,qc)),(2,(1,qa))]),qA (.call 25 [.l 10,qa])]
def j35:IC:=.seq (.block 1 (qr [qP (.ixs 5 (.g 10) (.g 13)),qK 5,qB 9 (.new 92 [.int .i64 0,.int .i64 0,.bool false,.int .i64 0,.int .i64 0]),qA (.store 5 qa qb)] (qr [qF 0 9,qL,qT 7] (.seq (qr [qF 2 9,qB 8 (.load 1 false qa)] (.cond (.g 8) (.region [qM 7,qP (.bin .add qa (qC 4)),qT 7]) .skip)) j34)))) (.region [qI 13,qT 13])
def jmd:IC:=qr [qQ 11 (.bin .lt (.g 13) (.g 12))] (.seq (qX 11 0) j35)
def j36:IC:=.seq (.block 3 (qr [qP (.ixs 2 (.g 3) (.g 6)),qK 2,qB 2 (.new 94 [.int .i64 0,.int .i64 0]),qA (.store 2 qa qb)] (.region [qM 0,qF 0 2,qL,qP (.bin .mul (qC 16) qa),qF 1 2,qL,qP (.bin .add qc qa),qA (.bslice 3 1 [.int .i64 0] 1 [(0,(1,qa))]),qA (.call 25 [.l 7,qa])]))) (.region [qI 6,qT 6])
def jpi:IC:=qr [qQ 4 (.bin .lt (.g 6) (.g 5))] (.seq (qX 4 2) j36)
def qan:IC:=qr [qB 14 (.box 73 (.g 1))] (qr [qM 0,qF 0 14,qL,qF 1 14,qL,qP (.len qa),qF 2 14,qL,qP (.len qa),qA (.bslice 3 1 [.int .i64 0,.int .i64 0,.int .i64 0] 3 [(0,(1,.l 6)),(1,(1,qd)),(2,(1,qa))]),qA (.call 25 [.l 9,qa])] (.seq (qr [qF 1 14,qB 10 (.load 1 false qa),qQ 12 (.len qa),qQ 13 (.mv (qC 0))] (.block 0 (.loop jmd))) (qr [qF 2 14,qB 3 (.load 1 false qa),qQ 5 (.len qa),qQ 6 (.mv (qC 0))] (.block 2 (.loop jpi)))))
theorem qlv:T 28=some (.mk qan 2 13 []):=by kernel_rfl
def jvv:IC:=.seq (.block 1 (qr [qP (.ixs 1 (.g 19) (.g 22)),qL,qT 18] (.region [qM 23,qM 18,qA (.call 26 [qb,qa])]))) (.region [qI 22,qT 22])
def jkh:IC:=qr [qQ 20 (.bin .lt (.g 22) (.g 21))] (.seq (qX 20 0) jvv)
def jvw:IC:=.seq (.block 5 (qr [qP (.ixs 3 (.g 9) (.g 12)),qK 3,qB 8 (.new 73 [.int .i64 0,.nilSlice,.nilSlice]),qA (.store 3 qa qb)] (.region [qM 23,qA (.load 3 true (.g 8)),qA (.call 28 [qb,qa])]))) (.region [qI 12,qT 12])
def jki:IC:=qr [qQ 10 (.bin .lt (.g 12) (.g 11))] (.seq (qX 10 4) jvw)
def jvx:IC:=.seq (.block 7 (qr [qP (.ixs 2 (.g 4) (.g 7)),qK 2,qB 3 (.new 76 [.int .i64 0,.nilSlice]),qA (.store 2 qa qb)] (qr [qM 23,qF 0 3,qL,qA (.bslice 3 1 [.int .i64 0] 1 [(0,(1,qa))]),qA (.call 25 [qd,qa])] (.region [qM 23,qF 1 3,qL,qA (.call 27 [qc,qa])])))) (.region [qI 7,qT 7])
def jkj:IC:=qr [qQ 5 (.bin .lt (.g 7) (.g 6))] (.seq (qX 5 6) jvx)
def jvy:IC:=.seq (.block 3 (qr [qP (.ixs 3 (.g 14) (.g 17)),qK 3,qB 13 (.new 54 [.nilSlice,.nilSlice,.nilSlice]),qA (.store 3 qa qb)] (qr [qM 23,qF 0 13,qL,qA (.call 27 [qc,qa])] (qr [qM 23,qF 1 13,qL,qP (.len qa),qA (.bslice 3 1 [.int .i64 0] 1 [(0,(1,qa))]),qA (.call 25 [.l 4,qa])] (.seq (qr [qF 1 13,qB 9 (.load 1 false qa),qQ 11 (.len qa),qQ 12 (.mv (qC 0))] (.block 4 (.loop jki))) (qr [qM 23,qF 2 13,qL,qP (.len qa),qA (.bslice 3 1 [.int .i64 0] 1 [(0,(1,qa))]),qA (.call 25 [.l 4,qa])] (qr [qF 2 13,qB 4 (.load 1 false qa),qQ 6 (.len qa),qQ 7 (.mv (qC 0))] (.block 6 (.loop jkj))))))))) (.region [qI 17,qT 17])
def jkk:IC:=qr [qQ 15 (.bin .lt (.g 17) (.g 16))] (.seq (qX 15 2) jvy)
def jvz:IC:=qr [qP (.build [.nilSlice] []),qA (.box 66 qa),qT 23] (qr [qM 23,qF 0 26,qG 0,qA (.slicea 2 1 qa),qA (.call 25 [qd,qa])] (qr [qM 23,qF 4 26,qL,qA (.call 26 [qc,qa])] (qr [qM 23,qF 5 26,qL,qA (.call 26 [qc,qa])] (qr [qM 23,qF 6 26,qL,qP (.len qa),qA (.bslice 3 1 [.int .i64 0] 1 [(0,(1,qa))]),qA (.call 25 [.l 4,qa])] (.seq (qr [qF 6 26,qB 19 (.load 1 false qa),qQ 21 (.len qa),qQ 22 (.mv (qC 0))] (.block 0 (.loop jkh))) (qr [qM 23,qF 2 26,qG 0,qL,qA (.call 27 [qd,qa])] (qr [qM 23,qF 2 26,qG 1,qL,qP (.len qa),qA (.bslice 3 1 [.int .i64 0] 1 [(0,(1,qa))]),qA (.call 25 [.l 5,qa])] (.seq (qr [qF 2 26,qG 1,qB 14 (.load 1 false qa),qQ 16 (.len qa),qQ 17 (.mv (qC 0))] (.block 2 (.loop jkk))) (qr [qM 23,qN,qG 0,qL,qT 2,qQ 1 (.mv (qC 0))] .ret)))))))))
def j37:IC:=qr [qB 26 (.box 31 (.g 0)),qQ 2 (.mv (.c (.s .nilSlice))),qQ 1 (.mv (qC 0))] (.seq (qr [qA (.load 7 true (.g 26)),qA (.call 24 [qa]),qT 25] (qr [qM 25,qQ 24 (.bin .ne qa (qC 0))] (.cond (.g 24) (qr [qM 25,qQ 2 (.mv (.c (.s .nilSlice))),qQ 1 (.mv qb)] .ret) .skip))) jvz)
theorem qiv:T 8=some (.mk j37 1 26 [(.tmp 2),(.tmp 1)]):=by kernel_rfl
end Go.Proofs.Ytkplfnkgodnmaaa.Ev
namespace Go.Proofs.Ytkplfnkgodnmaaa.Ms
set_option linter.all false
abbrev Rd:=List Nat×Bool
def smF (r:Rd):Nat×Rd :=
 match r.1 with
 | []=>(0,([],true))
 | b::l=>(b,(l,r.2))
def eachF {α:Type} (P:Rd->α×Rd):Nat->Rd->List α×Rd
 | 0,r=>([],r)
 | n+1,r=>if r.2=true then ([],r) else ((P r).1::(eachF P n (P r).2).1,(eachF P n (P r).2).2)
def eachR {α:Type} (P:Rd->α×Rd) (r:Rd):List α×Rd:=eachF P (smF r).1 (smF r).2
def manyF {α:Type} (P:Rd->α×Rd):Nat->Rd->List α×Rd
 | 0,r=>([],r)
 | n+1,r=>if (P r).2.2=true then ([(P r).1],(P r).2) else ((P r).1::(manyF P n (P r).2).1,(manyF P n (P r).2).2)
def jmw {α β:Type} (P:Rd->α×Rd) (Q:α->Rd->β×Rd) (r:Rd):β×Rd:=Q (P r).1 (P r).2
def j40 {α β:Type} (P:Rd->α×Rd) (f:α->β) (r:Rd):β×Rd:=(f (P r).1,(P r).2)
def jd7:Rd->Nat×Rd:=jmw smF fun a=>jmw smF fun b=>jmw smF fun c=>j40 smF fun d=>((a*256 ||| b)*256 ||| c)*256 ||| d
def jep:Rd->List Nat×Rd:=eachR smF
def jkl:Rd->Opd×Rd:=jmw smF fun b=>jmw smF fun v=>j40 smF fun n=>⟨b % 4,v,decide (b / 4 % 2=1),b / 8,n⟩
def jmx:Rd->(Nat×Nat)×Rd:=j40 smF fun n=>(n / 16,n % 16)
def jv0:Rd->Ins×Rd:=jmw smF fun op=>jmw smF fun k=>jmw smF fun s=>jmw (manyF jkl k) fun os=>j40 (manyF jmx s) fun rs=>⟨op,os,rs⟩
def j38:Rd->Edg×Rd:=jmw smF fun b=>j40 jep fun l=>⟨b,l⟩
def j41:Rd->Blk×Rd:=jmw jep fun p=>jmw (eachR jv0) fun i=>j40 (eachR j38) fun e=>⟨p,i,e⟩
structure Scr where
 m1:Nat
 m2:Nat
 seed:Nat
 steps:Nat
 junk:List Nat
 f:Fc
def qjl:Rd->Scr×Rd:=jmw smF fun a=>jmw smF fun b=>jmw jd7 fun s=>jmw jd7 fun t=>jmw (eachR jd7) fun j=>jmw jep fun v=>j40 (eachR j41) fun bs=>⟨a,b,s,t,j,⟨v,bs⟩⟩
def jau {α:Type} (P:Rd->α×Rd):Prop:=∀ l s,(P (l,s)).2.2=false->s=false/\∀ t,P (l++t,false)=((P (l,s)).1,((P (l,s)).2.1++t,false))
theorem jau.sm:jau smF:=by
 intro l s h
 cases l with
 | nil=>cases h
 | cons b l=>obtain rfl:s=false:=h;exact⟨rfl,fun t=>rfl⟩
theorem jau.and {α β:Type} {P:Rd->α×Rd} {Q:α->Rd->β×Rd} (hP:jau P) (hQ:∀ a,jau (Q a)):jau (jmw P Q):=by
 intro l s h
 have h':(Q (P (l,s)).1 (P (l,s)).2).2.2=false:=h
 obtain⟨l',s',e⟩:∃ l' s',(P (l,s)).2=(l',s'):=⟨_,_,rfl⟩
 rw[e] at h'
 obtain⟨rfl,h1⟩:=hQ _ _ _ h'
 obtain⟨rfl,h2⟩:=hP l s (by rw[e])
 refine⟨rfl,fun t=>?_⟩
 show Q (P (l++t,false)).1 (P (l++t,false)).2=_
 rw[h2 t,e]
 show Q (P (l,false)).1 (l'++t,false)=((Q (P (l,false)).1 (P (l,false)).2).1,((Q (P (l,false)).1 (P (l,false)).2).2.1++t,false))
 rw[e]
 exact h1 t
theorem jau.map {α β:Type} {P:Rd->α×Rd} {f:α->β} (hP:jau P):jau (j40 P f):=by
 intro l s h
 obtain⟨rfl,h2⟩:=hP l s h
 refine⟨rfl,fun t=>?_⟩
 show(f (P (l++t,false)).1,(P (l++t,false)).2)=_
 rw[h2 t]
 rfl
theorem jau.eachF {α:Type} {P:Rd->α×Rd} (hP:jau P):∀ n,jau (eachF P n)
 | 0=>fun l s h=>by obtain rfl:s=false:=h;exact⟨rfl,fun t=>rfl⟩
 | n+1=>fun l s h=>by
  cases s with
  | true=>cases h
  | false =>
   refine⟨rfl,fun t=>?_⟩
   obtain⟨l',s',e⟩:∃ l' s',(P (l,false)).2=(l',s'):=⟨_,_,rfl⟩
   have h':(Ms.eachF P n (P (l,false)).2).2.2=false:=h
   rw[e] at h'
   obtain⟨rfl,h1⟩:=jau.eachF hP n _ _ h'
   obtain⟨_,h2⟩:=hP l false (by rw[e])
   show((P (l++t,false)).1::(Ms.eachF P n (P (l++t,false)).2).1,(Ms.eachF P n (P (l++t,false)).2).2)=((P (l,false)).1::(Ms.eachF P n (P (l,false)).2).1,((Ms.eachF P n (P (l,false)).2).2.1++t,false))
   rw[h2 t,e,h1 t]
theorem jau.manyF {α:Type} {P:Rd->α×Rd} (hP:jau P):∀ n,jau (manyF P n)
 | 0=>fun l s h=>by obtain rfl:s=false:=h;exact⟨rfl,fun t=>rfl⟩
 | n+1=>fun l s h=>by
  obtain⟨l',s',e⟩:∃ l' s',(P (l,s)).2=(l',s'):=⟨_,_,rfl⟩
  unfold Ms.manyF at h ⊢
  rw[e] at h ⊢
  cases s' with
  | true=>cases h
  | false =>
   obtain⟨rfl,h2⟩:=hP l s (by rw[e])
   refine⟨rfl,fun t=>?_⟩
   simp only[h2 t,e]
   have h':(Ms.manyF P n (l',false)).2.2=false:=h
   obtain⟨_,h1⟩:=jau.manyF hP n _ _ h'
   simp only[h1 t]
   rfl
theorem jau.eachR {α:Type} {P:Rd->α×Rd} (hP:jau P):jau (eachR P):=jau.and (P:=smF) (Q:=Ms.eachF P) jau.sm (fun n=>jau.eachF hP n)
theorem jck:jau jd7:=jau.and .sm fun _=>jau.and .sm fun _=>jau.and .sm fun _=>jau.map .sm
theorem jdi:jau jep:=jau.eachR .sm
theorem jii:jau jkl:=jau.and .sm fun _=>jau.and .sm fun _=>jau.map .sm
theorem jpj:jau jv0:=jau.and .sm fun _=>jau.and .sm fun _=>jau.and .sm fun _=>jau.and (jau.manyF jii _) fun _=>jau.map (jau.manyF (jau.map .sm) _)
theorem jkm:jau j38:=jau.and .sm fun _=>jau.map jdi
theorem jfm:jau j41:=jau.and jdi fun _=>jau.and (jau.eachR jpj) fun _=>jau.map (jau.eachR jkm)
def jce (n:Nat):List Nat:=[n / 16777216 % 256,n / 65536 % 256,n / 256 % 256,n % 256]
def jpk (l:List Nat):List Nat:=l.length::l
def j39 (o:Opd):List Nat:=[o.kind+(if o.late=true then 4 else 0)+8*o.limit,o.value,o.n]
def jtl (r:Nat×Nat):Nat:=16*r.1+r.2
def jje (x:Ins):List Nat:=[x.op,x.ops.length,x.spoils.length]++((x.ops.map j39).flatten++x.spoils.map jtl)
def jpl (e:Edg):List Nat:=e.block::jpk e.args
def j42 (b:Blk):List Nat:=jpk b.params++(b.instrs.length::((b.instrs.map jje).flatten++(b.edges.length::(b.edges.map jpl).flatten)))
def jtm (s:Scr):List Nat:=[s.m1,s.m2]++(jce s.seed++(jce s.steps++(s.junk.length::((s.junk.map jce).flatten++(jpk s.f.values++(s.f.blocks.length::(s.f.blocks.map j42).flatten))))))
theorem j77 {n b:Nat} (h:b<256):n*256 ||| b=n*256+b:=by
 have:=Nat.shiftLeft_add_eq_or_of_lt (i:=8) (b:=b) (by simpa using h) n
 rw[Nat.shiftLeft_eq] at this
 exact this.symm
theorem jv1:∀ l:List Nat,(l.map (fun n=>[n])).flatten=l
 | []=>rfl
 | a::l=>by rw[f08,f0u,jv1 l];rfl
structure OkO (o:Opd):Prop where
 k:o.kind<4
 l:o.limit<32
 v:o.value<256
 n:o.n<256
structure OkI (x:Ins):Prop where
 op:x.op<256
 nops:x.ops.length<256
 nsp:x.spoils.length<256
 ops:∀ o∈x.ops,OkO o
 sp:∀ r∈x.spoils,r.1<16/\r.2<16
structure OkB (b:Blk):Prop where
 np:b.params.length<256
 p:∀ v∈b.params,v<256
 ni:b.instrs.length<256
 i:∀ x∈b.instrs,OkI x
 ne:b.edges.length<256
 e:∀ e∈b.edges,e.block<256/\e.args.length<256/\∀ v∈e.args,v<256
structure OkS (s:Scr):Prop where
 m1:s.m1<256
 m2:s.m2<256
 sd:s.seed<4294967296
 st:s.steps<4294967296
 nj:s.junk.length<256
 j:∀ n∈s.junk,n<4294967296
 nv:s.f.values.length<256
 v:∀ v∈s.f.values,v<256
 nb:s.f.blocks.length<256
 b:∀ b∈s.f.blocks,OkB b
theorem j78 (l:List (Nat×Nat)):(l.map (fun r=>[jtl r])).flatten=l.map jtl:=by
 induction l with
 | nil=>rfl
 | cons a l ih=>rw[f08,f0u,ih];rfl
theorem jme {α:Type} {B:α->List Nat} {l:List α} (h:∀ a∈l,∀ q∈B a,q<256):∀ q∈(l.map B).flatten,q<256:=fun q hq=>by
 obtain⟨s,hs,hq⟩:=List.mem_flatten.1 hq
 obtain⟨a,ha,rfl⟩:=f2a.1 hs
 exact h a ha q hq
theorem jij {a b:List Nat} (h1:∀ q∈a,q<256) (h2:∀ q∈b,q<256):∀ q∈a++b,q<256:=fun q hq=>(f0f.1 hq).elim (h1 q) (h2 q)
theorem jbo {a:Nat} {b:List Nat} (h1:a<256) (h2:∀ q∈b,q<256):∀ q∈a::b,q<256:=fun q hq=>(f0h.1 hq).elim (fun e=>e▸h1) (h2 q)
theorem jv2:∀ q∈([]:List Nat),q<256:=by simp
theorem jtn (n:Nat):∀ q∈jce n,q<256:=jbo (Nat.mod_lt _ (by omega)) (jbo (Nat.mod_lt _ (by omega)) (jbo (Nat.mod_lt _ (by omega)) (jbo (Nat.mod_lt _ (by omega)) jv2)))
theorem qiw {s:Scr} (k:OkS s):∀ q∈jtm s,q<256:=by
 refine jij (jbo k.m1 (jbo k.m2 jv2)) (jij (jtn _) (jij (jtn _) (jbo k.nj (jij (jme (fun n _=>jtn n)) (jij (jbo k.nv k.v) (jbo k.nb (jme (fun b hb=>?_))))))))
 have kb:=k.b b hb
 refine jij (jbo kb.np kb.p) (jbo kb.ni (jij (jme (fun x hx=>?_)) (jbo kb.ne (jme (fun e he=>?_)))))
 .have ki:=kb.i x hx
  refine jij (jbo ki.op (jbo ki.nops (jbo ki.nsp jv2))) (jij (jme (fun o ho=>?_)) (fun q hq=>?_))
  .have ko:=ki.ops o ho
   refine jbo ?_ (jbo ko.v (jbo ko.n jv2))
   have:=ko.k
   have:=ko.l
   cases o.late<;>simp<;>omega
  .obtain ⟨r,hr,rfl⟩:=f2a.1 hq
   have:=ki.sp r hr
   unfold jtl;omega
 .obtain ⟨h1,h2,h3⟩:=kb.e e he
  exact jbo h1 (jbo h2 h3)
end Go.Proofs.Ytkplfnkgodnmaaa.Ms
namespace Go.Proofs.Ytkplfnkgodnmaaa.Ev
open Go Go.RowKit Go.Proofs.Ytkplfnkgodnmaaa.Ms
attribute [local go_sem] Int.reduceToNat reduceCtorEq Nat.reduceAdd Nat.reduceMul Nat.reduceEqDiff Int.reduceEq Int.reduceLT Int.reduceLE Int.reduceNeg Int.reduceAdd Int.reduceSub Int.reduceMul Int.reduceNe
attribute [local go_sem ↓] reduceIte
set_option linter.all false
set_option maxRecDepth 100000
set_option maxHeartbeats 2000000
variable {x1 x14:AV} {Q:Ex->St->Prop} {xl:SV}
def EY (row:List SV) (n:Nat) (ns:List Nat):Prop:=row=[.int .u8 n]/\ns=[]
structure WrS (h:Hp) (p:Nat) (l:List Nat) (ns:List Nat):Prop where
 ok:Ok h
 ex:∃ x,h.get p=some (.arr [x] 66)/\Sl h 5 1 false EY x l ns
 p1:1<=p/\p<h.next
 pn:p∉ns
 lt:∀ n∈ns,1<=n/\n<h.next
section
variable {h h':Hp} {p:Nat} {l:List Nat} {ns:List Nat}
theorem WrS.keep (w:WrS h p l ns) (ok':Ok h') (hk:∀ n,n<h.next->h'.get n=h.get n) (hn:h.next<=h'.next):WrS h' p l ns:=by
 obtain⟨x,h1,h2⟩:=w.ex
 exact⟨ok',⟨x,(hk p w.p1.2).trans h1,h2.keep (fun n hm=>hk n (w.lt n hm).2)⟩,⟨w.p1.1,by have:=w.p1.2;omega⟩,w.pn,fun n hm=>by have:=w.lt n hm;omega⟩
theorem WrS.put (w:WrS h p l ns) (hl:l.length<=100000) (v:Nat):∃ x x' hM hN ns',h.get p=some (.arr [x] 66)/\jjv (h.push (.arr [.int .u8 v] 5)) 5 1 1 (.s x) (.s (.slice h.next 0 1 1 true 1))=some (.s x',hM)/\Ok hM/\hM.get p=some (.arr [x] 66) /\
 hM.put p (some (.arr [x'] 66))=hN/\Ok hN/\WrS hN p (l++[v]) ns'/\Mv h hN (p::ns) (p::ns'):=by
 obtain⟨x,h1,h2⟩:=w.ex
 have ok:=w.ok
 obtain⟨hp1,hp2⟩:=w.p1
 obtain⟨hM,e1,okM,nM,kM,_,sM⟩:=h2.app1 (bytes:=1) (row:=[.int .u8 (v:Int)]) (a:=v) (ms:=[]) ok w.lt rfl ⟨rfl,rfl⟩ (by omega) (by omega)
 have xM:=(kM p hp2 w.pn).trans h1
 have okN:Ok (hM.put p (some (.arr [.slice (h.next+1) 0 (l.length+1) (l.length+1) false 1] 66))):=jdf okM
 have nN:(hM.put p (some (.arr [.slice (h.next+1) 0 (l.length+1) (l.length+1) false 1] 66))).next=h.next+2:=by rw[Hp.next_put,nM]
 have gN:∀ n,n≠p->(hM.put p (some (.arr [.slice (h.next+1) 0 (l.length+1) (l.length+1) false 1] 66))).get n=hM.get n:=fun n hn=>by rw[jba okM hp1,if_neg hn]
 have tl:∀ n∈ns.tail,n∈ns:=fun n hn=>f0r hn
 have pt:p∉(h.next+1)::(ns.tail++[]):=fun hc=>by
  rcases f0h.1 hc with h3 | h3
  .omega
  .exact w.pn (tl p (by simpa using h3))
 refine⟨x,_,hM,_,(h.next+1)::(ns.tail++[]),h1,e1,okM,xM,rfl,okN,⟨okN,⟨_,by rw[jba okM hp1,if_pos rfl],(sM (E':=EY) (fun _ _ _ _ e=>e)).keep (fun n hn=>gN n (fun e=>pt (e▸hn)))⟩,⟨hp1,by rw[nN];omega⟩,pt,fun n hn=>?_⟩,⟨okN,by rw[nN];omega,fun n hn=>?_,fun n hn hm=>?_⟩⟩
 .rw [nN]
  rcases f0h.1 hn with rfl | hn
  .omega
  .have:=w.lt n (tl n (by simpa using hn));omega
 .rcases f0h.1 hn with rfl | hn
  .exact .inl (by simp)
  .rcases f0h.1 hn with rfl | hn
   .exact .inr (by omega)
   .exact .inl (f1b _ (tl n (by simpa using hn)))
 .rw [gN n (fun e=>hm (by simp[e]))]
  exact kM n hn (fun hc=>hm (f1b _ hc))
end
def RdL (h:Hp) (xl:SV) (l:List Nat) (own:List Nat):Prop:=xl=jag jak l∨∃ b o mc ex cells ty,xl=.slice b o l.length mc ex 1/\h.get b=some (.arr cells ty)/\b<h.next/\b∉own/\∀ (i n:Nat),l[i]?=some n->cells[o+i]?=some (si n)
theorem RdL.len {h:Hp} {l own:List Nat} (r:RdL h xl l own):jlz (.s xl)=some (vi l.length):=by
 rcases r with rfl | ⟨b,o,mc,ex,cells,ty,rfl,_⟩
 .exact jad
 .rfl
theorem RdL.mv {h h':Hp} {l own own':List Nat} (r:RdL h xl l own) (m:Mv h h' own own'):RdL h' xl l own':=by
 rcases r with rfl | ⟨b,o,mc,ex,cells,ty,rfl,h1,h2,h3,h4⟩
 .exact .inl rfl
 .exact .inr ⟨b,o,mc,ex,cells,ty,rfl,(m.keep b h2 h3).trans h1,f0m h2 m.nx,fun hc=>by
   rcases m.new b hc with h5 | h5
   .exact h3 h5
   .omega,h4⟩
theorem j4a (n:Nat):jnu .u8 (n:Int)=some (.s (.int .u8 ((n % 256:Nat):Int))):=by
 show oif (Nat.ble n 255) (some (AV.s (.int .u8 (n:Int)))) (some (AV.s (.int .u8 ((n % 256:Nat):Int))))=_
 rw[jaj]
 split
 .rename_i h
  rw[f2o (by have:=f0i h;omega)]
 .rfl
theorem j4b {F:Fns} {l:List Nat} (hl:l.length<=50000) {p:Nat} :
 ∀ (d i:Nat) (_:i+d=l.length) {hi:Hp} {ws ns:List Nat} (_:WrS hi p ws ns) (_:RdL hi xl l (p::ns)) (_:ws.length+d<=100000) {x2 x4:AV}
  (hQ:∀ hj ns' x2 x4,WrS hj p (ws++(l.drop i).map (fun n=>n % 256)) ns'->Mv hi hj (p::ns) (p::ns')->Q (.exit 0) (.mk [.s (.ptr p 0),x1,x2,.s xl,x4,vi l.length,vi l.length] hj)),
  W F jph.loop (.mk [.s (.ptr p 0),x1,x2,.s xl,x4,vi l.length,vi i] hi) Q
 | 0,i,hd,hi,ws,ns,w,r,hw,x2,x4,hQ=>by
  obtain rfl:i=l.length:=by omega
  rw[jae]
  unfold jph
  have ok:=w.ok
  simp(disch:=first|omega|rfl) only[go_sem,f0q]
  exact hQ hi ns _ _ (by rw[f2s];simpa using w) (Mv.refl ok)
 | d+1,i,hd,hi,ws,ns,w,r,hw,x2,x4,hQ=>by
  have hil:i<l.length:=by omega
  have hlt:(i:Int)<(l.length:Int):=by omega
  have hss:(i:Int)+1=((i+1:Nat):Int):=by omega
  obtain⟨n,hn⟩:∃ n,l[i]?=some n:=⟨_,f0b hil⟩
  have hdr:l.drop i=n::l.drop (i+1):=by rw[f0p hil,(f0e.1 hn).2]
  have ok:=w.ok
  obtain⟨x,x',hM,hN,ns',t1,t2,okM,t3,t4,okN,wN,mN⟩:=w.put (by omega) (n % 256)
  have rN:=r.mv mN
  have hQ':∀ hj ns'' x2 x4,WrS hj p ((ws++[n % 256])++(l.drop (i+1)).map (fun n=>n % 256)) ns''->Mv hN hj (p::ns') (p::ns'')->Q (.exit 0) (.mk [.s (.ptr p 0),x1,x2,.s xl,x4,vi l.length,vi l.length] hj):=fun hj ns'' x2 x4 w' m' =>
   hQ hj ns'' x2 x4 (by rw[hdr];simpa[f0l] using w') (mN.trans m')
  have hrow:hi.push (.arr [.int .u8 ((n % 256:Nat):Int)] 5)=hi.push (.arr [.int .u8 ((n % 256:Nat):Int)] 5):=rfl
  rw[jae]
  unfold jph j33
  rcases r with hxl | ⟨b,o,mc,ex,cells,ty,hxl,r1,r2,r3,r4⟩
  .have hix:jj3 1 (.s xl) (vi (i:Int))=some (.s (.cp (jak n))):=by rw[hxl];exact jaf (enc:=jak) (size:=1) hn rfl
   simp(disch:=first|omega|rfl) only[go_sem,jac,eq_true hlt,hix,jak,t1,j4a,t2,t3,t4,hss]
   exact j4b hl d (i+1) (by omega) wN rN (by simp;omega) hQ'
  .have hix:jj3 1 (.s xl) (vi (i:Int))=some (.s (.ptr b (o+i*1))):=by rw[hxl];exact jcc hil
   have hrd:rdB (hi.get b) (o+i*1) 1=some [si n]:=by rw[r1];exact j1t (by rw[f2w];exact r4 i n hn)
   simp(disch:=first|omega|rfl) only[go_sem,jac,eq_true hlt,hix,hrd,t1,j4a,t2,t3,t4,hss]
   exact j4b hl d (i+1) (by omega) wN rN (by simp;omega) hQ'
def Wf (f:FuncId):Bool:=Nat.beq f 25||(Nat.beq f 26||(Nat.beq f 27||(Nat.beq f 28||Nat.beq f 8)))
structure WrF (F:Fns):Prop where
 x:∀ f,Wf f=true->∀ vs h,jeb F f vs h=none
 t:jy6 F=T
def byt (l:List Nat):List Nat:=l.map (fun n=>n % 256)
theorem jd8 (a b:List Nat):byt (a++b)=byt a++byt b:=List.map_append ..
theorem jd9 (a:List Nat):(byt a).length=a.length:=f05 ..
theorem j4c:∀ {l:List Nat},(∀ n∈l,n<256)->byt l=l
 | [],_=>rfl
 | n::l,h=>by
  show n % 256::byt l=_
  rw[f2o (h n (by simp)),j4c (fun m hm=>h m (by simp[hm]))]
section
variable {F:Fns} {h:Hp} {p:Nat} {ws ns:List Nat}
def Wrn (h:Hp) (p:Nat) (ws ns l:List Nat):AV->Hp->Prop:=fun _ h'=>∃ ns',WrS h' p (ws++l) ns'/\Mv h h' (p::ns) (p::ns')
theorem jto (f:WrF F) (w:WrS h p ws ns) {l:List Nat} (r:RdL h xl l (p::ns)) (hw:ws.length+l.length<=50000):WC F 25 [.s (.ptr p 0),.s xl] h (Wrn h p ws ns (byt l)):=by
 refine jan (f.x _ rfl _ _) ((congrFun f.t _).trans qls) rfl ?_
 unfold qak
 have ok:=w.ok
 have ll:=r.len
 simp(disch:=first|omega|rfl) only[go_sem,ll]
 refine j4b (l:=l) (by omega) l.length 0 (by omega) w r (by omega) (fun hj ns' x2 x4 w' m'=>?_)
 simp(disch:=first|omega|rfl) only[go_sem]
 exact⟨ns',w',m'⟩
theorem wsb (f:WrF F) (w:WrS h p ws ns) {l:List Nat} {ty:Nat} (hw:ws.length+l.length<=50000):WC F 25 [.s (.ptr p 0),.s (.slice h.next 0 l.length l.length true 1)] (h.push (.arr (l.map (fun n:Nat=>si n)) ty)) (Wrn h p ws ns (byt l)):=by
 have ok:=w.ok
 obtain⟨hA,eA,okA,nA,xA,gA⟩:=jra ok (l.map (fun n:Nat=>si n)) ty
 rw[eA]
 have wA:=w.keep okA gA (by omega)
 have hpn:h.next∉p::ns:=fun hc=>by
  rcases f0h.1 hc with h1 | h1
  .have:=w.p1.2;omega
  .have:=w.lt _ h1;omega
 refine WC.imp (jto f wA (l:=l) (.inr ⟨h.next,0,l.length,true,_,ty,rfl,xA,by omega,hpn,fun i n hn=>by rw[f0y,f07,hn];rfl⟩) hw) ?_
 rintro v h' ⟨ns',w',m'⟩
 exact⟨ns',w',Mv.trans ⟨okA,by omega,fun n hn=>.inl hn,fun n hn _=>gA n hn⟩ m'⟩
theorem jtp (f:WrF F) (w:WrS h p ws ns) {l:List Nat} (hw:ws.length+l.length+1<=50000):WC F 27 [.s (.ptr p 0),.s (jag jak l)] h (Wrn h p ws ns (byt (jpk l))):=by
 refine jan (f.x _ rfl _ _) ((congrFun f.t _).trans qlu) rfl ?_
 unfold qam
 have ok:=w.ok
 have ll:=jad (enc:=jak) (l:=l)
 simp(disch:=first|omega|rfl) only[go_sem,ll]
 refine WC.imp (wsb f w (l:=[l.length]) (by simp;omega)) ?_
 rintro v hA ⟨n1,w1,m1⟩
 have ok1:=w1.ok
 simp(disch:=first|omega|rfl) only[go_sem]
 refine WC.imp (jto f w1 (l:=l) (.inl rfl) (by simp[byt];omega)) ?_
 rintro v hB ⟨n2,w2,m2⟩
 have ok2:=w2.ok
 simp(disch:=first|omega|rfl) only[go_sem]
 exact⟨n2,by rw[show byt (jpk l)=byt [l.length]++byt l from rfl,←f0l];exact w2,m1.trans m2⟩
theorem jtq (f:WrF F) (w:WrS h p ws ns) {n:Nat} (hw:ws.length+4<=50000):WC F 26 [.s (.ptr p 0),vi n] h (Wrn h p ws ns (jce n)):=by
 refine jan (f.x _ rfl _ _) ((congrFun f.t _).trans qlt) rfl ?_
 unfold qal
 have ok:=w.ok
 have s1:(n:Int) / 2 ^ 24=((n / 16777216:Nat):Int):=by omega
 have s2:(n:Int) / 2 ^ 16=((n / 65536:Nat):Int):=by omega
 have s3:(n:Int) / 2 ^ 8=((n / 256:Nat):Int):=by omega
 simp(disch:=first|omega|rfl) only[go_sem,s1,s2,s3]
 refine WC.imp (wsb f w (l:=[n / 16777216,n / 65536,n / 256,n]) (by simp;omega)) ?_
 rintro v hA ⟨n1,w1,m1⟩
 have ok1:=w1.ok
 simp(disch:=first|omega|rfl) only[go_sem]
 exact⟨n1,w1,m1⟩
end
theorem Mv.low {h h':Hp} (ok:Ok h') (hn:h.next<=h'.next) (g:∀ n,n<h.next->h'.get n=h.get n) (ns:List Nat):Mv h h' ns ns:=⟨ok,hn,fun n hm=>.inl hm,fun n hn _=>g n hn⟩
theorem qao {F:Fns} (f:WrF F) {l:List Ms.Opd} (hl:l.length<=10000) (hok:∀ o∈l,OkO o) {p:Nat} {x2 x3 x4 x5 x6:AV} :
 ∀ (d i:Nat) (_:i+d=l.length) {hi:Hp} {ws ns:List Nat} (_:WrS hi p ws ns) (_:ws.length+3*d<=40000) {x7 x8 x9 x11:AV}
  (hQ:∀ hj ns' x7 x8 x9 x11,WrS hj p (ws++byt ((l.drop i).map j39).flatten) ns'->Mv hi hj (p::ns) (p::ns')->Q (.exit 0) (.mk [.s (.ptr p 0),x1,x2,x3,x4,x5,x6,x7,x8,x9,.s (jag jbc l),x11,vi l.length,vi l.length,x14] hj)),
  W F jmd.loop (.mk [.s (.ptr p 0),x1,x2,x3,x4,x5,x6,x7,x8,x9,.s (jag jbc l),x11,vi l.length,vi i,x14] hi) Q
 | 0,i,hd,hi,ws,ns,w,hw,x7,x8,x9,x11,hQ=>by
  obtain rfl:i=l.length:=by omega
  rw[jae]
  unfold jmd
  have ok:=w.ok
  simp(disch:=first|omega|rfl) only[go_sem,f0q]
  exact hQ hi ns _ _ _ _ (by rw[f2s];simpa[byt] using w) (Mv.refl ok)
 | d+1,i,hd,hi,ws,ns,w,hw,x7,x8,x9,x11,hQ=>by
  have hil:i<l.length:=by omega
  have hlt:(i:Int)<(l.length:Int):=by omega
  have hss:(i:Int)+1=((i+1:Nat):Int):=by omega
  obtain⟨o,ho⟩:∃ n,l[i]?=some n:=⟨_,f0b hil⟩
  have hdr:l.drop i=o::l.drop (i+1):=by rw[f0p hil,(f0e.1 ho).2]
  have hix:=jaf (enc:=jbc) (size:=5) ho rfl
  obtain⟨hk,hlim,hv,hn⟩:=hok o (f0c ho)
  have ok:=w.ok
  obtain⟨hA,eA,okA,nA,xA,gA⟩:=jhi ok [.int .i64 0,.int .i64 0,.bool false,.int .i64 0,.int .i64 0] (jbc o) 92
  have wA:=w.keep okA gA (by omega)
  have s1:(o.kind:Int)+8*(o.limit:Int)=((o.kind+8*o.limit:Nat):Int):=by omega
  have s2:(o.kind:Int)+(4+8*(o.limit:Int))=((o.kind+4+8*o.limit:Nat):Int):=by omega
  unfold jbc at xA eA
  rw[jae]
  unfold jmd j35 j34
  have go:∀ {v:AV} {hB:Hp},Wrn hA p ws ns (byt (j39 o)) v hB->∃ n1,WrS hB p (ws++byt (j39 o)) n1/\Mv hi hB (p::ns) (p::n1):=fun⟨n1,w1,m1⟩=>⟨n1,w1,(Mv.low okA (by omega) gA _).trans m1⟩
  have fin:∀ {hB:Hp} {n1:List Nat} {x7 x8 x9 x11:AV},WrS hB p (ws++byt (j39 o)) n1->Mv hi hB (p::ns) (p::n1)->W F jmd.loop (.mk [.s (.ptr p 0),x1,x2,x3,x4,x5,x6,x7,x8,x9,.s (jag jbc l),x11,vi l.length,vi ((i+1:Nat):Int),x14] hB) Q:=fun {hB n1 x7 x8 x9 x11} w1 m1 =>
   qao f hl hok d (i+1) (by omega) w1 (by rw[f0g,jd9];show ws.length+3+3*d<=40000;omega) (fun hj ns' x7 x8 x9 x11 w' m'=>hQ hj ns' x7 x8 x9 x11 (by rw[hdr,f08,f0u,jd8,←f0l];exact w') (m1.trans m'))
  cases el:o.late with
  | false =>
   rw[el] at xA eA
   simp(disch:=first|omega|rfl) only[go_sem,jac,eq_true hlt,hix,jbc,el,eA,xA,s1]
   refine WC.imp (wsb f wA (l:=[o.kind+8*o.limit,o.value,o.n]) (by simp;omega)) ?_
   rintro v hB hW
   obtain⟨n1,w1,m1⟩:=go (v:=v) (hB:=hB) (by unfold j39;rw[el];exact hW)
   have okB:=w1.ok
   simp(disch:=first|omega|rfl) only[go_sem,jac,hss]
   exact fin w1 m1
  | true =>
   rw[el] at xA eA
   simp(disch:=first|omega|rfl) only[go_sem,jac,eq_true hlt,hix,jbc,el,eA,xA,s2]
   refine WC.imp (wsb f wA (l:=[o.kind+4+8*o.limit,o.value,o.n]) (by simp;omega)) ?_
   rintro v hB hW
   obtain⟨n1,w1,m1⟩:=go (v:=v) (hB:=hB) (by unfold j39;rw[el];exact hW)
   have okB:=w1.ok
   simp(disch:=first|omega|rfl) only[go_sem,jac,hss]
   exact fin w1 m1
theorem qap {F:Fns} (f:WrF F) {l:List (Nat×Nat)} (hl:l.length<=10000) (hok:∀ r∈l,r.1<16/\r.2<16) {p:Nat} {x7 x8 x9 x10 x11 x12 x13:AV} :
 ∀ (d i:Nat) (_:i+d=l.length) {hi:Hp} {ws ns:List Nat} (_:WrS hi p ws ns) (_:ws.length+d<=40000) {x2 x4:AV}
  (hQ:∀ hj ns' x2 x4,WrS hj p (ws++byt ((l.drop i).map jtl)) ns'->Mv hi hj (p::ns) (p::ns')->Q (.exit 2) (.mk [.s (.ptr p 0),x1,x2,.s (jag jcu l),x4,vi l.length,vi l.length,x7,x8,x9,x10,x11,x12,x13,x14] hj)),
  W F jpi.loop (.mk [.s (.ptr p 0),x1,x2,.s (jag jcu l),x4,vi l.length,vi i,x7,x8,x9,x10,x11,x12,x13,x14] hi) Q
 | 0,i,hd,hi,ws,ns,w,hw,x2,x4,hQ=>by
  obtain rfl:i=l.length:=by omega
  rw[jae]
  unfold jpi
  have ok:=w.ok
  simp(disch:=first|omega|rfl) only[go_sem,f0q]
  exact hQ hi ns _ _ (by rw[f2s];simpa[byt] using w) (Mv.refl ok)
 | d+1,i,hd,hi,ws,ns,w,hw,x2,x4,hQ=>by
  have hil:i<l.length:=by omega
  have hlt:(i:Int)<(l.length:Int):=by omega
  have hss:(i:Int)+1=((i+1:Nat):Int):=by omega
  obtain⟨r,hr⟩:∃ n,l[i]?=some n:=⟨_,f0b hil⟩
  have hdr:l.drop i=r::l.drop (i+1):=by rw[f0p hil,(f0e.1 hr).2]
  have hix:=jaf (enc:=jcu) (size:=2) hr rfl
  obtain⟨hc,hn⟩:=hok r (f0c hr)
  have ok:=w.ok
  obtain⟨hA,eA,okA,nA,xA,gA⟩:=jhi ok [.int .i64 0,.int .i64 0] (jcu r) 94
  have wA:=w.keep okA gA (by omega)
  have s1:16*(r.1:Int)+(r.2:Int)=((jtl r:Nat):Int):=by unfold jtl;omega
  unfold jcu at xA eA
  rw[jae]
  unfold jpi j36
  simp(disch:=first|omega|rfl) only[go_sem,jac,eq_true hlt,hix,jcu,eA,xA,s1]
  refine WC.imp (wsb f wA (l:=[jtl r]) (by simp;omega)) ?_
  rintro v hB ⟨n1,w1,m1⟩
  have okB:=w1.ok
  simp(disch:=first|omega|rfl) only[go_sem,jac,hss]
  exact qap f hl hok d (i+1) (by omega) w1 (by rw[f0g,jd9];show ws.length+1+d<=40000;omega) (fun hj ns' x2 x4 w' m'=>hQ hj ns' x2 x4 (by rw[hdr,f08,show jtl r::(l.drop (i+1)).map jtl=[jtl r]++(l.drop (i+1)).map jtl from rfl,jd8,←f0l];exact w') ((Mv.low okA (by omega) gA _).trans (m1.trans m')))
theorem qei {F:Fns} (f:WrF F) {h:Hp} {p:Nat} {ws ns:List Nat} (w:WrS h p ws ns) {x:Ms.Ins} (k:OkI x) (hw:ws.length+2000<=40000):WC F 28 [.s (.ptr p 0),.agg (jdh x)] h (Wrn h p ws ns (byt (jje x))):=by
 refine jan (f.x _ rfl _ _) ((congrFun f.t _).trans qlv) rfl ?_
 unfold qan
 have ok:=w.ok
 have hno:=k.nops
 have hns:=k.nsp
 obtain⟨hA,eA,okA,nA,xA,gA⟩:=jra ok (jdh x) 73
 have wA:=w.keep okA gA (by omega)
 have l1:=jad (enc:=jbc) (l:=x.ops)
 have l2:=jad (enc:=jcu) (l:=x.spoils)
 unfold jdh at xA eA
 simp(disch:=first|omega|rfl) only[go_sem,jdh,eA,xA,l1,l2]
 refine WC.imp (wsb f wA (l:=[x.op,x.ops.length,x.spoils.length]) (by simp;omega)) ?_
 rintro v hB ⟨n1,w1,m1⟩
 have okB:=w1.ok
 have hA0:h.next∉p::ns:=fun hc=>by
  rcases f0h.1 hc with h1 | h1
  .have:=w.p1.2;omega
  .have:=w.lt _ h1;omega
 have hA1:h.next∉p::n1:=fun hc=>by
  rcases m1.new _ hc with h1 | h1
  .exact hA0 h1
  .omega
 have xB:=(m1.keep h.next (by omega) hA0).trans xA
 have nB:=m1.nx
 have w1l:(ws++byt [x.op,x.ops.length,x.spoils.length]).length=ws.length+3:=by rw[f0g,jd9];rfl
 simp(disch:=first|omega|rfl) only[go_sem,xB,l1]
 refine qao f (by omega) k.ops x.ops.length 0 (by omega) w1 (by omega) (fun hC n2 x7 x8 x9 x11 w2 m2=>?_)
 have okC:=w2.ok
 have xC:=(m2.keep h.next (by omega) hA1).trans xB
 simp(disch:=first|omega|rfl) only[go_sem,xC,l2]
 have w2l:∀ q:List Ms.Opd,((q.map j39).flatten).length=3*q.length:=fun q=>by
  induction q with
  | nil=>rfl
  | cons a q ih=>rw[f08,f0u,f0g,ih];show 3+_=3*(q.length+1);omega
 refine qap f (by omega) k.sp x.spoils.length 0 (by omega) w2 (by rw[f0g,w1l,jd9,w2l,f1e];omega) (fun hD n3 x2 x4 w3 m3=>?_)
 have okD:=w3.ok
 simp(disch:=first|omega|rfl) only[go_sem]
 refine⟨n3,?_,(Mv.low okA (by omega) gA _).trans (m1.trans (m2.trans m3))⟩
 have e:byt (jje x)=byt [x.op,x.ops.length,x.spoils.length]++(byt ((x.ops.map j39).flatten)++byt (x.spoils.map jtl)):=by
  rw[←jd8,←jd8];rfl
 rw[e,←f0l,←f0l]
 exact w3
end Go.Proofs.Ytkplfnkgodnmaaa.Ev
