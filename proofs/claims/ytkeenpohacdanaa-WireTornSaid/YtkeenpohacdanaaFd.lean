/- Code of functions as the interpreter has it prepared, cut at loops. -/
import Derived.Test.YtkeenpohacdanaaMc4
import Derived.Test.YtkeenpohacdanaaVd
import Derived.Test.YtkeenpohacdanaaSb
namespace Go.Proofs.Ytkeenpohacdanaa.Ev
open Go Go.RowKit
set_option linter.all false
set_option maxRecDepth 100000
def j90:IC:=.seq (.block 1 (qr [qP (.ixs 1 (.g 3) (.g 6)),qL,qT 2] (.region [qM 0,qM 0,qN,qG 0,qL,qM 2,qP (.conv .u8 qa),qA (.bslice 5 1 [.int .u8 0] 1 [(0,(1,qa))]),qA (.app 5 1 1 qd qa),qP (.nchk (.l 8)),qG 0,qA (.store 1 qa qc)]))) (.region [qI 6,qT 6])
def jvp:IC:=qr [qQ 4 (.bin .lt (.g 6) (.g 5))] (.seq (qX 4 0) j90)
def qfl:IC:=qr [qQ 3 (.mv (.g 1)),qQ 5 (.len qa),qQ 6 (.mv (qC 0))] (.block 0 (.loop jvp))
theorem qt6:T 31=some (.mk qfl 2 5 []):=by kernel_rfl
def qfm:IC:=.region [qM 0,qM 1,qP (.bin .shr qa (.c (.s (.int .u64 24)))),qM 1,qP (.bin .shr qa (.c (.s (.int .u64 16)))),qM 1,qP (.bin .shr qa (.c (.s (.int .u64 8)))),qM 1,qA (.bslice 3 1 [.int .i64 0,.int .i64 0,.int .i64 0,.int .i64 0] 4 [(0,(1,.l 5)),(1,(1,qd)),(2,(1,qb)),(3,(1,qa))]),qA (.call 31 [.l 8,qa])]
theorem qt7:T 32=some (.mk qfm 2 0 []):=by kernel_rfl
def qfn:IC:=qr [qM 0,qM 1,qP (.len qa),qA (.bslice 3 1 [.int .i64 0] 1 [(0,(1,qa))]),qA (.call 31 [qd,qa])] (.region [qM 0,qM 1,qA (.call 31 [qb,qa])])
theorem qt8:T 33=some (.mk qfn 2 0 []):=by kernel_rfl
def j91:IC:=.region [qM 0,qM 7,qF 3 9,qL,qP (.bin .mul (qC 8) qa),qP (.bin .add qd qa),qF 1 9,qL,qF 4 9,qL,qA (.bslice 3 1 [.int .i64 0,.int .i64 0,.int .i64 0] 3 [(0,(1,.l 4)),(1,(1,qc)),(2,(1,qa))]),qA (.call 31 [.l 10,qa])]
def j92:IC:=.seq (.block 1 (qr [qP (.ixs 5 (.g 10) (.g 13)),qK 5,qB 9 (.new 46 [.int .i64 0,.int .i64 0,.bool false,.int .i64 0,.int .i64 0]),qA (.store 5 qa qb)] (qr [qF 0 9,qL,qT 7] (.seq (qr [qF 2 9,qB 8 (.load 1 false qa)] (.cond (.g 8) (.region [qM 7,qP (.bin .add qa (qC 4)),qT 7]) .skip)) j91)))) (.region [qI 13,qT 13])
def jqr:IC:=qr [qQ 11 (.bin .lt (.g 13) (.g 12))] (.seq (qX 11 0) j92)
def j93:IC:=.seq (.block 3 (qr [qP (.ixs 2 (.g 3) (.g 6)),qK 2,qB 2 (.new 116 [.int .i64 0,.int .i64 0]),qA (.store 2 qa qb)] (.region [qM 0,qF 0 2,qL,qP (.bin .mul (qC 16) qa),qF 1 2,qL,qP (.bin .add qc qa),qA (.bslice 3 1 [.int .i64 0] 1 [(0,(1,qa))]),qA (.call 31 [.l 7,qa])]))) (.region [qI 6,qT 6])
def jvq:IC:=qr [qQ 4 (.bin .lt (.g 6) (.g 5))] (.seq (qX 4 2) j93)
def qfo:IC:=qr [qB 14 (.box 44 (.g 1))] (qr [qM 0,qF 0 14,qL,qF 1 14,qL,qP (.len qa),qF 2 14,qL,qP (.len qa),qA (.bslice 3 1 [.int .i64 0,.int .i64 0,.int .i64 0] 3 [(0,(1,.l 6)),(1,(1,qd)),(2,(1,qa))]),qA (.call 31 [.l 9,qa])] (.seq (qr [qF 1 14,qB 10 (.load 1 false qa),qQ 12 (.len qa),qQ 13 (.mv (qC 0))] (.block 0 (.loop jqr))) (qr [qF 2 14,qB 3 (.load 1 false qa),qQ 5 (.len qa),qQ 6 (.mv (qC 0))] (.block 2 (.loop jvq)))))
theorem qt9:T 34=some (.mk qfo 2 13 []):=by kernel_rfl
def j3h:IC:=.seq (.block 1 (qr [qP (.ixs 1 (.g 19) (.g 22)),qL,qT 18] (.region [qM 23,qM 18,qA (.call 32 [qb,qa])]))) (.region [qI 22,qT 22])
def jnx:IC:=qr [qQ 20 (.bin .lt (.g 22) (.g 21))] (.seq (qX 20 0) j3h)
def j3i:IC:=.seq (.block 5 (qr [qP (.ixs 3 (.g 9) (.g 12)),qK 3,qB 8 (.new 44 [.int .i64 0,.nilSlice,.nilSlice]),qA (.store 3 qa qb)] (.region [qM 23,qA (.load 3 true (.g 8)),qA (.call 34 [qb,qa])]))) (.region [qI 12,qT 12])
def jny:IC:=qr [qQ 10 (.bin .lt (.g 12) (.g 11))] (.seq (qX 10 4) j3i)
def j3j:IC:=.seq (.block 7 (qr [qP (.ixs 2 (.g 4) (.g 7)),qK 2,qB 3 (.new 73 [.int .i64 0,.nilSlice]),qA (.store 2 qa qb)] (qr [qM 23,qF 0 3,qL,qA (.bslice 3 1 [.int .i64 0] 1 [(0,(1,qa))]),qA (.call 31 [qd,qa])] (.region [qM 23,qF 1 3,qL,qA (.call 33 [qc,qa])])))) (.region [qI 7,qT 7])
def jnz:IC:=qr [qQ 5 (.bin .lt (.g 7) (.g 6))] (.seq (qX 5 6) j3j)
def j3k:IC:=.seq (.block 3 (qr [qP (.ixs 3 (.g 14) (.g 17)),qK 3,qB 13 (.new 36 [.nilSlice,.nilSlice,.nilSlice]),qA (.store 3 qa qb)] (qr [qM 23,qF 0 13,qL,qA (.call 33 [qc,qa])] (qr [qM 23,qF 1 13,qL,qP (.len qa),qA (.bslice 3 1 [.int .i64 0] 1 [(0,(1,qa))]),qA (.call 31 [.l 4,qa])] (.seq (qr [qF 1 13,qB 9 (.load 1 false qa),qQ 11 (.len qa),qQ 12 (.mv (qC 0))] (.block 4 (.loop jny))) (qr [qM 23,qF 2 13,qL,qP (.len qa),qA (.bslice 3 1 [.int .i64 0] 1 [(0,(1,qa))]),qA (.call 31 [.l 4,qa])] (qr [qF 2 13,qB 4 (.load 1 false qa),qQ 6 (.len qa),qQ 7 (.mv (qC 0))] (.block 6 (.loop jnz))))))))) (.region [qI 17,qT 17])
def jn0:IC:=qr [qQ 15 (.bin .lt (.g 17) (.g 16))] (.seq (qX 15 2) j3k)
def j3l:IC:=qr [qP (.build [.nilSlice] []),qA (.box 82 qa),qT 23] (qr [qM 23,qF 0 26,qG 0,qA (.slicea 2 1 qa),qA (.call 31 [qd,qa])] (qr [qM 23,qF 4 26,qL,qA (.call 32 [qc,qa])] (qr [qM 23,qF 5 26,qL,qA (.call 32 [qc,qa])] (qr [qM 23,qF 6 26,qL,qP (.len qa),qA (.bslice 3 1 [.int .i64 0] 1 [(0,(1,qa))]),qA (.call 31 [.l 4,qa])] (.seq (qr [qF 6 26,qB 19 (.load 1 false qa),qQ 21 (.len qa),qQ 22 (.mv (qC 0))] (.block 0 (.loop jnx))) (qr [qM 23,qF 2 26,qG 0,qL,qA (.call 33 [qd,qa])] (qr [qM 23,qF 2 26,qG 1,qL,qP (.len qa),qA (.bslice 3 1 [.int .i64 0] 1 [(0,(1,qa))]),qA (.call 31 [.l 5,qa])] (.seq (qr [qF 2 26,qG 1,qB 14 (.load 1 false qa),qQ 16 (.len qa),qQ 17 (.mv (qC 0))] (.block 2 (.loop jn0))) (qr [qM 23,qN,qG 0,qL,qT 2,qQ 1 (.mv (qC 0))] .ret)))))))))
def j94:IC:=qr [qB 26 (.box 55 (.g 0)),qQ 2 (.mv (.c (.s .nilSlice))),qQ 1 (.mv (qC 0))] (.seq (qr [qA (.load 7 true (.g 26)),qA (.call 30 [qa]),qT 25] (qr [qM 25,qQ 24 (.bin .ne qa (qC 0))] (.cond (.g 24) (qr [qM 25,qQ 2 (.mv (.c (.s .nilSlice))),qQ 1 (.mv qb)] .ret) .skip))) j3l)
theorem qp9:T 16=some (.mk j94 1 26 [(.tmp 2),(.tmp 1)]):=by kernel_rfl
end Go.Proofs.Ytkeenpohacdanaa.Ev
namespace Go.Proofs.Ytkeenpohacdanaa.Ms
set_option linter.all false
abbrev Rd:=List Nat×Bool
def smF (r:Rd):Nat×Rd :=
 match r.1 with
 | []=>(0,([],true))
 | b::l=>(b,(l,r.2))
def eachF {α:Type} (P:Rd->α×Rd):Nat->Rd->List α×Rd
 | 0,r=>([],r)
 | n+1,r=>if r.2=true then ([],r) else ((P r).1::(eachF P n (P r).2).1,(eachF P n (P r).2).2)
def eachR {α:Type} (P:Rd->α×Rd) (r:Rd):List α×Rd:=eachF P (smF r).1 (smF r).2
def manyF {α:Type} (P:Rd->α×Rd):Nat->Rd->List α×Rd
 | 0,r=>([],r)
 | n+1,r=>if (P r).2.2=true then ([(P r).1],(P r).2) else ((P r).1::(manyF P n (P r).2).1,(manyF P n (P r).2).2)
def jvr {α β:Type} (P:Rd->α×Rd) (Q:α->Rd->β×Rd) (r:Rd):β×Rd:=Q (P r).1 (P r).2
def qfp {α β:Type} (P:Rd->α×Rd) (f:α->β) (r:Rd):β×Rd:=(f (P r).1,(P r).2)
def jc6:Rd->Nat×Rd:=jvr smF fun a=>jvr smF fun b=>jvr smF fun c=>qfp smF fun d=>((a*256 ||| b)*256 ||| c)*256 ||| d
def jdl:Rd->List Nat×Rd:=eachR smF
def jng:Rd->Opd×Rd:=jvr smF fun b=>jvr smF fun v=>qfp smF fun n=>⟨b % 4,v,decide (b / 4 % 2=1),b / 8,n⟩
def jq7:Rd->(Nat×Nat)×Rd:=qfp smF fun n=>(n / 16,n % 16)
def j00:Rd->Ins×Rd:=jvr smF fun op=>jvr smF fun k=>jvr smF fun s=>jvr (manyF jng k) fun os=>qfp (manyF jq7 s) fun rs=>⟨op,os,rs⟩
def j5n:Rd->Edg×Rd:=jvr smF fun b=>qfp jdl fun l=>⟨b,l⟩
def j3m:Rd->Blk×Rd:=jvr jdl fun p=>jvr (eachR j00) fun i=>qfp (eachR j5n) fun e=>⟨p,i,e⟩
structure Scr where
 m1:Nat
 m2:Nat
 seed:Nat
 steps:Nat
 junk:List Nat
 f:Fc
def qoc:Rd->Scr×Rd:=jvr smF fun a=>jvr smF fun b=>jvr jc6 fun s=>jvr jc6 fun t=>jvr (eachR jc6) fun j=>jvr jdl fun v=>qfp (eachR j3m) fun bs=>⟨a,b,s,t,j,⟨v,bs⟩⟩
def jdr {α:Type} (P:Rd->α×Rd):Prop:=∀ l s,(P (l,s)).2.2=false->s=false/\∀ t,P (l++t,false)=((P (l,s)).1,((P (l,s)).2.1++t,false))
theorem jdr.sm:jdr smF:=by
 intro l s h
 cases l with
 | nil=>cases h
 | cons b l=>obtain rfl:s=false:=h;exact⟨rfl,fun t=>rfl⟩
theorem jdr.and {α β:Type} {P:Rd->α×Rd} {Q:α->Rd->β×Rd} (hP:jdr P) (hQ:∀ a,jdr (Q a)):jdr (jvr P Q):=by
 intro l s h
 have h':(Q (P (l,s)).1 (P (l,s)).2).2.2=false:=h
 obtain⟨l',s',e⟩:∃ l' s',(P (l,s)).2=(l',s'):=⟨_,_,rfl⟩
 rw[e] at h'
 obtain⟨rfl,h1⟩:=hQ _ _ _ h'
 obtain⟨rfl,h2⟩:=hP l s (by rw[e])
 refine⟨rfl,fun t=>?_⟩
 show Q (P (l++t,false)).1 (P (l++t,false)).2=_
 rw[h2 t,e]
 show Q (P (l,false)).1 (l'++t,false)=((Q (P (l,false)).1 (P (l,false)).2).1,((Q (P (l,false)).1 (P (l,false)).2).2.1++t,false))
 rw[e]
 exact h1 t
theorem jdr.map {α β:Type} {P:Rd->α×Rd} {f:α->β} (hP:jdr P):jdr (qfp P f):=by
 intro l s h
 obtain⟨rfl,h2⟩:=hP l s h
 refine⟨rfl,fun t=>?_⟩
 show(f (P (l++t,false)).1,(P (l++t,false)).2)=_
 rw[h2 t]
 rfl
theorem jdr.eachF {α:Type} {P:Rd->α×Rd} (hP:jdr P):∀ n,jdr (eachF P n)
 | 0=>fun l s h=>by obtain rfl:s=false:=h;exact⟨rfl,fun t=>rfl⟩
 | n+1=>fun l s h=>by
  cases s with
  | true=>cases h
  | false =>
   refine⟨rfl,fun t=>?_⟩
   obtain⟨l',s',e⟩:∃ l' s',(P (l,false)).2=(l',s'):=⟨_,_,rfl⟩
   have h':(Ms.eachF P n (P (l,false)).2).2.2=false:=h
   rw[e] at h'
   obtain⟨rfl,h1⟩:=jdr.eachF hP n _ _ h'
   obtain⟨_,h2⟩:=hP l false (by rw[e])
   show((P (l++t,false)).1::(Ms.eachF P n (P (l++t,false)).2).1,(Ms.eachF P n (P (l++t,false)).2).2)=((P (l,false)).1::(Ms.eachF P n (P (l,false)).2).1,((Ms.eachF P n (P (l,false)).2).2.1++t,false))
   rw[h2 t,e,h1 t]
theorem jdr.manyF {α:Type} {P:Rd->α×Rd} (hP:jdr P):∀ n,jdr (manyF P n)
 | 0=>fun l s h=>by obtain rfl:s=false:=h;exact⟨rfl,fun t=>rfl⟩
 | n+1=>fun l s h=>by
  obtain⟨l',s',e⟩:∃ l' s',(P (l,s)).2=(l',s'):=⟨_,_,rfl⟩
  unfold Ms.manyF at h ⊢
  rw[e] at h ⊢
  cases s' with
  | true=>cases h
  | false =>
   obtain⟨rfl,h2⟩:=hP l s (by rw[e])
   refine⟨rfl,fun t=>?_⟩
   simp only[h2 t,e]
   have h':(Ms.manyF P n (l',false)).2.2=false:=h
   obtain⟨_,h1⟩:=jdr.manyF hP n _ _ h'
   simp only[h1 t]
   rfl
theorem jdr.eachR {α:Type} {P:Rd->α×Rd} (hP:jdr P):jdr (eachR P):=jdr.and (P:=smF) (Q:=Ms.eachF P) jdr.sm (fun n=>jdr.eachF hP n)
theorem jqs:jdr jc6:=jdr.and .sm fun _=>jdr.and .sm fun _=>jdr.and .sm fun _=>jdr.map .sm
theorem jqt:jdr jdl:=jdr.eachR .sm
theorem qdd:jdr jng:=jdr.and .sm fun _=>jdr.and .sm fun _=>jdr.map .sm
theorem qde:jdr j00:=jdr.and .sm fun _=>jdr.and .sm fun _=>jdr.and .sm fun _=>jdr.and (jdr.manyF qdd _) fun _=>jdr.map (jdr.manyF (jdr.map .sm) _)
theorem qdf:jdr j5n:=jdr.and .sm fun _=>jdr.map jqt
theorem qdg:jdr j3m:=jdr.and jqt fun _=>jdr.and (jdr.eachR qde) fun _=>jdr.map (jdr.eachR qdf)
theorem qdh:jdr qoc:=jdr.and .sm fun _=>jdr.and .sm fun _=>jdr.and jqs fun _=>jdr.and jqs fun _=>jdr.and (jdr.eachR jqs) fun _=>jdr.and jqt fun _=>jdr.map (jdr.eachR qdg)
def jct (n:Nat):List Nat:=[n / 16777216 % 256,n / 65536 % 256,n / 256 % 256,n % 256]
def jri (l:List Nat):List Nat:=l.length::l
def j5o (o:Opd):List Nat:=[o.kind+(if o.late=true then 4 else 0)+8*o.limit,o.value,o.n]
def jyq (r:Nat×Nat):Nat:=16*r.1+r.2
def jis (x:Ins):List Nat:=[x.op,x.ops.length,x.spoils.length]++((x.ops.map j5o).flatten++x.spoils.map jyq)
def jnh (e:Edg):List Nat:=e.block::jri e.args
def j5d (b:Blk):List Nat:=jri b.params++(b.instrs.length::((b.instrs.map jis).flatten++(b.edges.length::(b.edges.map jnh).flatten)))
def jst (s:Scr):List Nat:=[s.m1,s.m2]++(jct s.seed++(jct s.steps++(s.junk.length::((s.junk.map jct).flatten++(jri s.f.values++(s.f.blocks.length::(s.f.blocks.map j5d).flatten))))))
def Inv {α:Type} (P:Rd->α×Rd) (B:α->List Nat) (ok:α->Prop):Prop:=∀ a,ok a->∀ t,P (B a++t,false)=(a,(t,false))
theorem qdi {n b:Nat} (h:b<256):n*256 ||| b=n*256+b:=by
 have:=Nat.shiftLeft_add_eq_or_of_lt (i:=8) (b:=b) (by simpa using h) n
 rw[Nat.shiftLeft_eq] at this
 exact this.symm
theorem jvs:Inv jc6 jct (fun n=>n<4294967296):=by
 intro n hn t
 show(((n / 16777216 % 256*256 ||| n / 65536 % 256)*256 ||| n / 256 % 256)*256 ||| n % 256,(t,false))=_
 rw[qdi (f3o _ (by omega)),qdi (f3o _ (by omega)),qdi (f3o _ (by omega))]
 congr 1
 omega
theorem jx4 {α:Type} {P:Rd->α×Rd} {B:α->List Nat} {ok:α->Prop} (h:Inv P B ok):∀ (l:List α),(∀ a∈l,ok a)->∀ t,eachF P l.length ((l.map B).flatten++t,false)=(l,(t,false))
 | [],_,t=>rfl
 | a::l,hl,t=>by
  show(if false=true then _ else ((P ((B a++(l.map B).flatten)++t,false)).1::(eachF P l.length (P ((B a++(l.map B).flatten)++t,false)).2).1,(eachF P l.length (P ((B a++(l.map B).flatten)++t,false)).2).2))=_
  rw[f0i,h a (hl a (by simp)),if_neg (by simp)]
  simp only
  rw[jx4 h l (fun b hb=>hl b (by simp[hb]))]
theorem jvt {α:Type} {P:Rd->α×Rd} {B:α->List Nat} {ok:α->Prop} (h:Inv P B ok):∀ (l:List α),(∀ a∈l,ok a)->∀ t,manyF P l.length ((l.map B).flatten++t,false)=(l,(t,false))
 | [],_,t=>rfl
 | a::l,hl,t=>by
  show(if (P ((B a++(l.map B).flatten)++t,false)).2.2=true then _ else ((P ((B a++(l.map B).flatten)++t,false)).1::(manyF P l.length (P ((B a++(l.map B).flatten)++t,false)).2).1,(manyF P l.length (P ((B a++(l.map B).flatten)++t,false)).2).2))=_
  rw[f0i,h a (hl a (by simp)),if_neg (by simp)]
  simp only
  rw[jvt h l (fun b hb=>hl b (by simp[hb]))]
theorem jkv {α:Type} {P:Rd->α×Rd} {B:α->List Nat} {ok:α->Prop} (h:Inv P B ok):Inv (eachR P) (fun l=>l.length::(l.map B).flatten) (fun l=>∀ a∈l,ok a):=fun l hl t=>jx4 h l hl t
theorem qqa:Inv smF (fun n=>[n]) (fun _=>True):=fun n _ t=>rfl
theorem j3n:∀ l:List Nat,(l.map (fun n=>[n])).flatten=l
 | []=>rfl
 | a::l=>by rw[f1f,f03,j3n l];rfl
theorem jvu:Inv jdl jri (fun _=>True):=fun l _ t=>by
 have h:eachR smF (l.length::(l.map (fun n=>[n])).flatten++t,false)=(l,(t,false)):=jkv qqa l (fun _ _=>trivial) t
 rw[j3n] at h
 exact h
structure OkO (o:Opd):Prop where
 k:o.kind=1∨o.kind=2
 l:o.limit<=5
 v:o.value<256
 n:o.n<256
structure OkI (x:Ins):Prop where
 op:x.op<256
 nops:x.ops.length<256
 nsp:x.spoils.length<256
 ops:∀ o∈x.ops,OkO o
 sp:∀ r∈x.spoils,r.1<2/\r.2<16
structure OkB (b:Blk):Prop where
 np:b.params.length<256
 p:∀ v∈b.params,v<256
 ni:b.instrs.length<256
 i:∀ x∈b.instrs,OkI x
 ne:b.edges.length<256
 e:∀ e∈b.edges,e.block<256/\e.args.length<256/\∀ v∈e.args,v<256
structure OkS (s:Scr):Prop where
 m1:s.m1<256
 m2:s.m2<256
 sd:s.seed<4294967296
 st:s.steps<4294967296
 nj:s.junk.length<256
 j:∀ n∈s.junk,n<4294967296
 nv:s.f.values.length<256
 v:∀ v∈s.f.values,v<256
 nb:s.f.blocks.length<256
 b:∀ b∈s.f.blocks,OkB b
theorem qjl:Inv jng j5o OkO:=by
 rintro⟨k,v,late,lim,n⟩ ⟨hk,hl,hv,hn⟩ t
 simp only at hk hl
 show((⟨(k+(if late=true then 4 else 0)+8*lim) % 4,v,decide ((k+(if late=true then 4 else 0)+8*lim) / 4 % 2=1),(k+(if late=true then 4 else 0)+8*lim) / 8,n⟩:Opd),(t,false))=_
 have e1:(k+(if late=true then 4 else 0)+8*lim) % 4=k:=by cases late<;>simp<;>omega
 have e2:(k+(if late=true then 4 else 0)+8*lim) / 8=lim:=by cases late<;>simp<;>omega
 have e3:decide ((k+(if late=true then 4 else 0)+8*lim) / 4 % 2=1)=late:=by
  cases late
  .rw [decide_eq_false_iff_not];simp;omega
  .rw [decide_eq_true_eq];simp;omega
 rw[e1,e2,e3]
theorem qjm:Inv jq7 (fun r=>[jyq r]) (fun r=>r.2<16):=by
 rintro⟨c,n⟩ hn t
 simp only at hn
 show(((16*c+n) / 16,(16*c+n) % 16),(t,false))=_
 rw[show(16*c+n) / 16=c by omega,show(16*c+n) % 16=n by omega]
theorem qdj (l:List (Nat×Nat)):(l.map (fun r=>[jyq r])).flatten=l.map jyq:=by
 induction l with
 | nil=>rfl
 | cons a l ih=>rw[f1f,f03,ih];rfl
theorem qjn:Inv j00 jis OkI:=by
 intro x h t
 have h1:=jvt qjl x.ops h.ops (x.spoils.map jyq++t)
 have h2:=jvt qjm x.spoils (fun r hr=>(h.sp r hr).2) t
 rw[qdj] at h2
 show(let p:=manyF jng x.ops.length (((x.ops.map j5o).flatten++x.spoils.map jyq)++t,false);let q:=manyF jq7 x.spoils.length p.2;((⟨x.op,p.1,q.1⟩:Ins),q.2))=_
 rw[f0i,h1]
 simp only
 rw[h2]
theorem qjo:Inv j5n jnh (fun _=>True):=by
 intro e _ t
 show(let p:=jdl (jri e.args++t,false);((⟨e.block,p.1⟩:Edg),p.2))=_
 rw[jvu e.args trivial t]
theorem qjp:Inv j3m j5d OkB:=by
 intro b h t
 have h1:=jvu b.params trivial ((b.instrs.length::((b.instrs.map jis).flatten++(b.edges.length::(b.edges.map jnh).flatten)))++t)
 have h2:=jkv qjn b.instrs h.i ((b.edges.length::(b.edges.map jnh).flatten)++t)
 have h3:=jkv qjo b.edges (fun _ _=>trivial) t
 show(let p:=jdl ((jri b.params++(b.instrs.length::((b.instrs.map jis).flatten++(b.edges.length::(b.edges.map jnh).flatten))))++t,false);let i:=eachR j00 p.2;let e:=eachR j5n i.2;((⟨p.1,i.1,e.1⟩:Blk),e.2))=_
 rw[f0i,h1]
 simp only
 simp only[f1i,f0i] at h2 h3 ⊢
 rw[h2]
 simp only
 rw[h3]
theorem qjq:Inv qoc jst OkS:=by
 rintro⟨m1,m2,sd,st,j,⟨v,bs⟩⟩ h t
 have h1:=jvs sd h.sd
 have h2:=jvs st h.st
 have h3:=jkv jvs j h.j
 have h4:=jvu v trivial
 have h5:=jkv qjp bs h.b t
 show(let p:=jc6 ((jct sd++(jct st++(j.length::((j.map jct).flatten++(jri v++(bs.length::(bs.map j5d).flatten))))))++t,false);let q:=jc6 p.2;let x:=eachR jc6 q.2;let y:=jdl x.2;let z:=eachR j3m y.2;((⟨m1,m2,p.1,q.1,x.1,⟨y.1,z.1⟩⟩:Scr),z.2))=_
 simp only[f0i,f1i] at h1 h2 h3 h4 h5 ⊢
 rw[h1]
 simp only
 rw[h2]
 simp only
 rw[h3]
 simp only
 rw[h4]
 simp only
 rw[h5]
theorem qw2 {s:Scr} (h:OkS s) {k:Nat} (hk:k<(jst s).length):(qoc ((jst s).take k,false)).2.2=true:=by
 cases e:(qoc ((jst s).take k,false)).2.2 with
 | true=>rfl
 | false =>
  obtain⟨_,h1⟩:=qdh _ _ e
  have h2:=h1 ((jst s).drop k)
  rw[List.take_append_drop] at h2
  have h3:=qjq s h []
  rw[f06,h2] at h3
  have h4:(qoc ((jst s).take k,false)).2.1++(jst s).drop k=[]:=(Prod.mk.inj (Prod.mk.inj h3).2).1
  have h5:=congrArg List.length h4
  simp only[f0j,List.length_drop,f1l] at h5
  omega
theorem jqu {α:Type} {B:α->List Nat} {l:List α} (h:∀ a∈l,∀ q∈B a,q<256):∀ q∈(l.map B).flatten,q<256:=fun q hq=>by
 obtain⟨s,hs,hq⟩:=List.mem_flatten.1 hq
 obtain⟨a,ha,rfl⟩:=f1w.1 hs
 exact h a ha q hq
theorem jkw {a b:List Nat} (h1:∀ q∈a,q<256) (h2:∀ q∈b,q<256):∀ q∈a++b,q<256:=fun q hq=>(f0d.1 hq).elim (h1 q) (h2 q)
theorem jcb {a:Nat} {b:List Nat} (h1:a<256) (h2:∀ q∈b,q<256):∀ q∈a::b,q<256:=fun q hq=>(f0f.1 hq).elim (fun e=>e▸h1) (h2 q)
theorem j3o:∀ q∈([]:List Nat),q<256:=by simp
theorem j01 (n:Nat):∀ q∈jct n,q<256:=jcb (f3o _ (by omega)) (jcb (f3o _ (by omega)) (jcb (f3o _ (by omega)) (jcb (f3o _ (by omega)) j3o)))
theorem qqb {s:Scr} (k:OkS s):∀ q∈jst s,q<256:=by
 refine jkw (jcb k.m1 (jcb k.m2 j3o)) (jkw (j01 _) (jkw (j01 _) (jcb k.nj (jkw (jqu (fun n _=>j01 n)) (jkw (jcb k.nv k.v) (jcb k.nb (jqu (fun b hb=>?_))))))))
 have kb:=k.b b hb
 refine jkw (jcb kb.np kb.p) (jcb kb.ni (jkw (jqu (fun x hx=>?_)) (jcb kb.ne (jqu (fun e he=>?_)))))
 .have ki:=kb.i x hx
  refine jkw (jcb ki.op (jcb ki.nops (jcb ki.nsp j3o))) (jkw (jqu (fun o ho=>?_)) (fun q hq=>?_))
  .have ko:=ki.ops o ho
   refine jcb ?_ (jcb ko.v (jcb ko.n j3o))
   have:=ko.k
   have:=ko.l
   cases o.late<;>simp<;>omega
  .obtain ⟨r,hr,rfl⟩:=f1w.1 hq
   have:=ki.sp r hr
   unfold jyq;omega
 .obtain ⟨h1,h2,h3⟩:=kb.e e he
  exact jcb h1 (jcb h2 h3)
theorem qfq {m:Nat×Nat} {f:Fc} (k:FcOk m f) (m1:2<=m.1/\m.1<=10) (m2:2<=m.2/\m.2<=10) {sd st:Nat} (hs:sd<4294967296) (ht:st<4294967296) {j:List Nat} (hj:j.length<256) (hj2:∀ n∈j,n<4294967296):OkS ⟨m.1,m.2,sd,st,j,f⟩:=by
 have hv:=k.nv
 have hb:=k.nb
 have hg:∀ c,g2 m c<=10:=fun c=>by unfold g2;split<;>omega
 refine⟨show m.1<256 by omega,show m.2<256 by omega,hs,ht,hj,hj2,show f.values.length<256 by omega,fun v hv'=>by have:=k.cls v hv';omega,show f.blocks.length<256 by omega,fun b hb'=>?_⟩
 obtain⟨h1,h2,h3⟩:=k.blk b hb'
 refine⟨by omega,fun v h=>by have:=k.prm b hb' v h;omega,by omega,fun x hx=>?_,by omega,fun e he=>?_⟩
 .have i:=k.ins b hb' x hx
  have h4:=i.op
  have h5:=i.nops
  have h6:=i.nsp
  refine⟨by omega,by omega,by omega,fun o ho=>?_,fun r hr=>?_⟩
  .have q:=i.opd o ho
   have h7:=q.lim
   have h8:=q.val
   refine⟨q.kind,by omega,by omega,?_⟩
   by_cases e:o.limit=5
   .obtain ⟨u,hu,_⟩:=i.reu o ho e
    have:=(f02.1 hu).1
    omega
   .by_cases e2:o.limit=4
    .have:=q.fix e2
     have:=hg (cl f.values o.value)
     omega
    .have:=q.zero (by omega)
     omega
  .have:=i.spo r hr
   have:=hg r.1
   exact⟨by omega,by omega⟩
 .obtain ⟨_,h4,t,h5,h6,_⟩:=k.edg b hb' e he
  have h7:=(f02.1 h5).1
  have h8:=congrArg List.length h6
  simp only[f1a] at h8
  have h9:=(k.blk t (f0c h5)).1
  exact⟨by omega,by omega,fun v hv'=>by have:=h4 v hv';omega⟩
end Go.Proofs.Ytkeenpohacdanaa.Ms
namespace Go.Proofs.Ytkeenpohacdanaa.Ev
open Go Go.RowKit Go.Proofs.Ytkeenpohacdanaa.Ms
attribute [local go_sem] Int.reduceToNat reduceCtorEq Nat.reduceAdd Nat.reduceMul Nat.reduceEqDiff Int.reduceEq Int.reduceLT Int.reduceLE Int.reduceNeg Int.reduceAdd Int.reduceSub Int.reduceMul Int.reduceNe
attribute [local go_sem ↓] reduceIte
set_option linter.all false
set_option maxRecDepth 100000
set_option maxHeartbeats 2000000
variable {x1 x14:AV} {Q:Ex->St->Prop} {xl:SV}
def EY (row:List SV) (n:Nat) (ns:List Nat):Prop:=row=[.int .u8 n]/\ns=[]
structure WrS (h:Hp) (p:Nat) (l:List Nat) (ns:List Nat):Prop where
 ok:Ok h
 ex:∃ x,h.get p=some (.arr [x] 82)/\Sl h 5 1 false EY x l ns
 p1:1<=p/\p<h.next
 pn:p∉ns
 lt:∀ n∈ns,1<=n/\n<h.next
section
variable {h h':Hp} {p:Nat} {l:List Nat} {ns:List Nat}
theorem WrS.keep (w:WrS h p l ns) (ok':Ok h') (hk:∀ n,n<h.next->h'.get n=h.get n) (hn:h.next<=h'.next):WrS h' p l ns:=by
 obtain⟨x,h1,h2⟩:=w.ex
 exact⟨ok',⟨x,(hk p w.p1.2).trans h1,h2.keep (fun n hm=>hk n (w.lt n hm).2)⟩,⟨w.p1.1,by have:=w.p1.2;omega⟩,w.pn,fun n hm=>by have:=w.lt n hm;omega⟩
theorem WrS.put (w:WrS h p l ns) (hl:l.length<=100000) (v:Nat):∃ x x' hM hN ns',h.get p=some (.arr [x] 82)/\jk7 (h.push (.arr [.int .u8 v] 5)) 5 1 1 (.s x) (.s (.slice h.next 0 1 1 true 1))=some (.s x',hM)/\Ok hM/\hM.get p=some (.arr [x] 82) /\
 hM.put p (some (.arr [x'] 82))=hN/\Ok hN/\WrS hN p (l++[v]) ns'/\Mv h hN (p::ns) (p::ns'):=by
 obtain⟨x,h1,h2⟩:=w.ex
 have ok:=w.ok
 obtain⟨hp1,hp2⟩:=w.p1
 obtain⟨hM,e1,okM,nM,kM,_,sM⟩:=h2.app1 (bytes:=1) (row:=[.int .u8 (v:Int)]) (a:=v) (ms:=[]) ok w.lt rfl ⟨rfl,rfl⟩ (by omega) (by omega)
 have xM:=(kM p hp2 w.pn).trans h1
 have okN:Ok (hM.put p (some (.arr [.slice (h.next+1) 0 (l.length+1) (l.length+1) false 1] 82))):=jao okM
 have nN:(hM.put p (some (.arr [.slice (h.next+1) 0 (l.length+1) (l.length+1) false 1] 82))).next=h.next+2:=by rw[Hp.next_put,nM]
 have gN:∀ n,n≠p->(hM.put p (some (.arr [.slice (h.next+1) 0 (l.length+1) (l.length+1) false 1] 82))).get n=hM.get n:=fun n hn=>by rw[jaj okM hp1,if_neg hn]
 have tl:∀ n∈ns.tail,n∈ns:=fun n hn=>f0h hn
 have pt:p∉(h.next+1)::(ns.tail++[]):=fun hc=>by
  rcases f0f.1 hc with h3 | h3
  .omega
  .exact w.pn (tl p (by simpa using h3))
 refine⟨x,_,hM,_,(h.next+1)::(ns.tail++[]),h1,e1,okM,xM,rfl,okN,⟨okN,⟨_,by rw[jaj okM hp1,if_pos rfl],(sM (E':=EY) (fun _ _ _ _ e=>e)).keep (fun n hn=>gN n (fun e=>pt (e▸hn)))⟩,⟨hp1,by rw[nN];omega⟩,pt,fun n hn=>?_⟩,⟨okN,by rw[nN];omega,fun n hn=>?_,fun n hn hm=>?_⟩⟩
 .rw [nN]
  rcases f0f.1 hn with rfl | hn
  .omega
  .have:=w.lt n (tl n (by simpa using hn));omega
 .rcases f0f.1 hn with rfl | hn
  .exact .inl (by simp)
  .rcases f0f.1 hn with rfl | hn
   .exact .inr (by omega)
   .exact .inl (f0y _ (tl n (by simpa using hn)))
 .rw [gN n (fun e=>hm (by simp[e]))]
  exact kM n hn (fun hc=>hm (f0y _ hc))
end
def RdL (h:Hp) (xl:SV) (l:List Nat) (own:List Nat):Prop:=xl=jae jav l∨∃ b o mc ex cells ty,xl=.slice b o l.length mc ex 1/\h.get b=some (.arr cells ty)/\b<h.next/\b∉own/\∀ (i n:Nat),l[i]?=some n->cells[o+i]?=some (si n)
theorem RdL.len {h:Hp} {l own:List Nat} (r:RdL h xl l own):jsg (.s xl)=some (vi l.length):=by
 rcases r with rfl | ⟨b,o,mc,ex,cells,ty,rfl,_⟩
 .exact jah
 .rfl
theorem RdL.mv {h h':Hp} {l own own':List Nat} (r:RdL h xl l own) (m:Mv h h' own own'):RdL h' xl l own':=by
 rcases r with rfl | ⟨b,o,mc,ex,cells,ty,rfl,h1,h2,h3,h4⟩
 .exact .inl rfl
 .exact .inr ⟨b,o,mc,ex,cells,ty,rfl,(m.keep b h2 h3).trans h1,f0o h2 m.nx,fun hc=>by
   rcases m.new b hc with h5 | h5
   .exact h3 h5
   .omega,h4⟩
theorem j95 (n:Nat):j34 .u8 (n:Int)=some (.s (.int .u8 ((n % 256:Nat):Int))):=by
 show oif (Nat.ble n 255) (some (AV.s (.int .u8 (n:Int)))) (some (AV.s (.int .u8 ((n % 256:Nat):Int))))=_
 rw[jap]
 split
 .rename_i h
  rw[f2w (by have:=f0l h;omega)]
 .rfl
theorem j96 {F:Fns} {l:List Nat} (hl:l.length<=50000) {p:Nat} :
 ∀ (d i:Nat) (_:i+d=l.length) {hi:Hp} {ws ns:List Nat} (_:WrS hi p ws ns) (_:RdL hi xl l (p::ns)) (_:ws.length+d<=100000) {x2 x4:AV}
  (hQ:∀ hj ns' x2 x4,WrS hj p (ws++(l.drop i).map (fun n=>n % 256)) ns'->Mv hi hj (p::ns) (p::ns')->Q (.exit 0) (.mk [.s (.ptr p 0),x1,x2,.s xl,x4,vi l.length,vi l.length] hj)),
  W F jvp.loop (.mk [.s (.ptr p 0),x1,x2,.s xl,x4,vi l.length,vi i] hi) Q
 | 0,i,hd,hi,ws,ns,w,r,hw,x2,x4,hQ=>by
  obtain rfl:i=l.length:=by omega
  rw[jag]
  unfold jvp
  have ok:=w.ok
  simp(disch:=first|omega|rfl) only[go_sem,f0r]
  exact hQ hi ns _ _ (by rw[f20];simpa using w) (Mv.refl ok)
 | d+1,i,hd,hi,ws,ns,w,r,hw,x2,x4,hQ=>by
  have hil:i<l.length:=by omega
  have hlt:(i:Int)<(l.length:Int):=by omega
  have hss:(i:Int)+1=((i+1:Nat):Int):=by omega
  obtain⟨n,hn⟩:∃ n,l[i]?=some n:=⟨_,f0b hil⟩
  have hdr:l.drop i=n::l.drop (i+1):=by rw[f1c hil,(f02.1 hn).2]
  have ok:=w.ok
  obtain⟨x,x',hM,hN,ns',t1,t2,okM,t3,t4,okN,wN,mN⟩:=w.put (by omega) (n % 256)
  have rN:=r.mv mN
  have hQ':∀ hj ns'' x2 x4,WrS hj p ((ws++[n % 256])++(l.drop (i+1)).map (fun n=>n % 256)) ns''->Mv hN hj (p::ns') (p::ns'')->Q (.exit 0) (.mk [.s (.ptr p 0),x1,x2,.s xl,x4,vi l.length,vi l.length] hj):=fun hj ns'' x2 x4 w' m' =>
   hQ hj ns'' x2 x4 (by rw[hdr];simpa[f0i] using w') (mN.trans m')
  have hrow:hi.push (.arr [.int .u8 ((n % 256:Nat):Int)] 5)=hi.push (.arr [.int .u8 ((n % 256:Nat):Int)] 5):=rfl
  rw[jag]
  unfold jvp j90
  rcases r with hxl | ⟨b,o,mc,ex,cells,ty,hxl,r1,r2,r3,r4⟩
  .have hix:jxd 1 (.s xl) (vi (i:Int))=some (.s (.cp (jav n))):=by rw[hxl];exact jai (enc:=jav) (size:=1) hn rfl
   simp(disch:=first|omega|rfl) only[go_sem,jad,eq_true hlt,hix,jav,t1,j95,t2,t3,t4,hss]
   exact j96 hl d (i+1) (by omega) wN rN (by simp;omega) hQ'
  .have hix:jxd 1 (.s xl) (vi (i:Int))=some (.s (.ptr b (o+i*1))):=by rw[hxl];exact ja8 hil
   have hrd:rdB (hi.get b) (o+i*1) 1=some [si n]:=by rw[r1];exact j2t (by rw[f3k];exact r4 i n hn)
   simp(disch:=first|omega|rfl) only[go_sem,jad,eq_true hlt,hix,hrd,t1,j95,t2,t3,t4,hss]
   exact j96 hl d (i+1) (by omega) wN rN (by simp;omega) hQ'
def Wf (f:FuncId):Bool:=Nat.beq f 31||(Nat.beq f 32||(Nat.beq f 33||(Nat.beq f 34||Nat.beq f 16)))
structure WrF (F:Fns):Prop where
 x:∀ f,Wf f=true->∀ vs h,jdg F f vs h=none
 t:qb6 F=T
def byt (l:List Nat):List Nat:=l.map (fun n=>n % 256)
theorem jfj (a b:List Nat):byt (a++b)=byt a++byt b:=List.map_append ..
theorem jfk (a:List Nat):(byt a).length=a.length:=f1a ..
theorem j97:∀ {l:List Nat},(∀ n∈l,n<256)->byt l=l
 | [],_=>rfl
 | n::l,h=>by
  show n % 256::byt l=_
  rw[f2w (h n (by simp)),j97 (fun m hm=>h m (by simp[hm]))]
section
variable {F:Fns} {h:Hp} {p:Nat} {ws ns:List Nat}
def Wrn (h:Hp) (p:Nat) (ws ns l:List Nat):AV->Hp->Prop:=fun _ h'=>∃ ns',WrS h' p (ws++l) ns'/\Mv h h' (p::ns) (p::ns')
theorem j02 (f:WrF F) (w:WrS h p ws ns) {l:List Nat} (r:RdL h xl l (p::ns)) (hw:ws.length+l.length<=50000):WC F 31 [.s (.ptr p 0),.s xl] h (Wrn h p ws ns (byt l)):=by
 refine jax (f.x _ rfl _ _) ((congrFun f.t _).trans qt6) rfl ?_
 unfold qfl
 have ok:=w.ok
 have ll:=r.len
 simp(disch:=first|omega|rfl) only[go_sem,ll]
 refine j96 (l:=l) (by omega) l.length 0 (by omega) w r (by omega) (fun hj ns' x2 x4 w' m'=>?_)
 simp(disch:=first|omega|rfl) only[go_sem]
 exact⟨ns',w',m'⟩
theorem wsb (f:WrF F) (w:WrS h p ws ns) {l:List Nat} {ty:Nat} (hw:ws.length+l.length<=50000):WC F 31 [.s (.ptr p 0),.s (.slice h.next 0 l.length l.length true 1)] (h.push (.arr (l.map (fun n:Nat=>si n)) ty)) (Wrn h p ws ns (byt l)):=by
 have ok:=w.ok
 obtain⟨hA,eA,okA,nA,xA,gA⟩:=jd4 ok (l.map (fun n:Nat=>si n)) ty
 rw[eA]
 have wA:=w.keep okA gA (by omega)
 have hpn:h.next∉p::ns:=fun hc=>by
  rcases f0f.1 hc with h1 | h1
  .have:=w.p1.2;omega
  .have:=w.lt _ h1;omega
 refine WC.imp (j02 f wA (l:=l) (.inr ⟨h.next,0,l.length,true,_,ty,rfl,xA,by omega,hpn,fun i n hn=>by rw[f0x,f1b,hn];rfl⟩) hw) ?_
 rintro v h' ⟨ns',w',m'⟩
 exact⟨ns',w',Mv.trans ⟨okA,by omega,fun n hn=>.inl hn,fun n hn _=>gA n hn⟩ m'⟩
theorem j03 (f:WrF F) (w:WrS h p ws ns) {l:List Nat} (hw:ws.length+l.length+1<=50000):WC F 33 [.s (.ptr p 0),.s (jae jav l)] h (Wrn h p ws ns (byt (jri l))):=by
 refine jax (f.x _ rfl _ _) ((congrFun f.t _).trans qt8) rfl ?_
 unfold qfn
 have ok:=w.ok
 have ll:=jah (enc:=jav) (l:=l)
 simp(disch:=first|omega|rfl) only[go_sem,ll]
 refine WC.imp (wsb f w (l:=[l.length]) (by simp;omega)) ?_
 rintro v hA ⟨n1,w1,m1⟩
 have ok1:=w1.ok
 simp(disch:=first|omega|rfl) only[go_sem]
 refine WC.imp (j02 f w1 (l:=l) (.inl rfl) (by simp[byt];omega)) ?_
 rintro v hB ⟨n2,w2,m2⟩
 have ok2:=w2.ok
 simp(disch:=first|omega|rfl) only[go_sem]
 exact⟨n2,by rw[show byt (jri l)=byt [l.length]++byt l from rfl,←f0i];exact w2,m1.trans m2⟩
theorem j04 (f:WrF F) (w:WrS h p ws ns) {n:Nat} (hw:ws.length+4<=50000):WC F 32 [.s (.ptr p 0),vi n] h (Wrn h p ws ns (jct n)):=by
 refine jax (f.x _ rfl _ _) ((congrFun f.t _).trans qt7) rfl ?_
 unfold qfm
 have ok:=w.ok
 have s1:(n:Int) / 2 ^ 24=((n / 16777216:Nat):Int):=by omega
 have s2:(n:Int) / 2 ^ 16=((n / 65536:Nat):Int):=by omega
 have s3:(n:Int) / 2 ^ 8=((n / 256:Nat):Int):=by omega
 simp(disch:=first|omega|rfl) only[go_sem,s1,s2,s3]
 refine WC.imp (wsb f w (l:=[n / 16777216,n / 65536,n / 256,n]) (by simp;omega)) ?_
 rintro v hA ⟨n1,w1,m1⟩
 have ok1:=w1.ok
 simp(disch:=first|omega|rfl) only[go_sem]
 exact⟨n1,w1,m1⟩
end
theorem Mv.low {h h':Hp} (ok:Ok h') (hn:h.next<=h'.next) (g:∀ n,n<h.next->h'.get n=h.get n) (ns:List Nat):Mv h h' ns ns:=⟨ok,hn,fun n hm=>.inl hm,fun n hn _=>g n hn⟩
theorem qfr {F:Fns} (f:WrF F) {l:List Ms.Opd} (hl:l.length<=10000) (hok:∀ o∈l,OkO o) {p:Nat} {x2 x3 x4 x5 x6:AV} :
 ∀ (d i:Nat) (_:i+d=l.length) {hi:Hp} {ws ns:List Nat} (_:WrS hi p ws ns) (_:ws.length+3*d<=40000) {x7 x8 x9 x11:AV}
  (hQ:∀ hj ns' x7 x8 x9 x11,WrS hj p (ws++byt ((l.drop i).map j5o).flatten) ns'->Mv hi hj (p::ns) (p::ns')->Q (.exit 0) (.mk [.s (.ptr p 0),x1,x2,x3,x4,x5,x6,x7,x8,x9,.s (jae jbe l),x11,vi l.length,vi l.length,x14] hj)),
  W F jqr.loop (.mk [.s (.ptr p 0),x1,x2,x3,x4,x5,x6,x7,x8,x9,.s (jae jbe l),x11,vi l.length,vi i,x14] hi) Q
 | 0,i,hd,hi,ws,ns,w,hw,x7,x8,x9,x11,hQ=>by
  obtain rfl:i=l.length:=by omega
  rw[jag]
  unfold jqr
  have ok:=w.ok
  simp(disch:=first|omega|rfl) only[go_sem,f0r]
  exact hQ hi ns _ _ _ _ (by rw[f20];simpa[byt] using w) (Mv.refl ok)
 | d+1,i,hd,hi,ws,ns,w,hw,x7,x8,x9,x11,hQ=>by
  have hil:i<l.length:=by omega
  have hlt:(i:Int)<(l.length:Int):=by omega
  have hss:(i:Int)+1=((i+1:Nat):Int):=by omega
  obtain⟨o,ho⟩:∃ n,l[i]?=some n:=⟨_,f0b hil⟩
  have hdr:l.drop i=o::l.drop (i+1):=by rw[f1c hil,(f02.1 ho).2]
  have hix:=jai (enc:=jbe) (size:=5) ho rfl
  obtain⟨hk,hlim,hv,hn⟩:=hok o (f0c ho)
  have ok:=w.ok
  obtain⟨hA,eA,okA,nA,xA,gA⟩:=jb5 ok [.int .i64 0,.int .i64 0,.bool false,.int .i64 0,.int .i64 0] (jbe o) 46
  have wA:=w.keep okA gA (by omega)
  have s1:(o.kind:Int)+8*(o.limit:Int)=((o.kind+8*o.limit:Nat):Int):=by omega
  have s2:(o.kind:Int)+(4+8*(o.limit:Int))=((o.kind+4+8*o.limit:Nat):Int):=by omega
  unfold jbe at xA eA
  rw[jag]
  unfold jqr j92 j91
  have go:∀ {v:AV} {hB:Hp},Wrn hA p ws ns (byt (j5o o)) v hB->∃ n1,WrS hB p (ws++byt (j5o o)) n1/\Mv hi hB (p::ns) (p::n1):=fun⟨n1,w1,m1⟩=>⟨n1,w1,(Mv.low okA (by omega) gA _).trans m1⟩
  have fin:∀ {hB:Hp} {n1:List Nat} {x7 x8 x9 x11:AV},WrS hB p (ws++byt (j5o o)) n1->Mv hi hB (p::ns) (p::n1)->W F jqr.loop (.mk [.s (.ptr p 0),x1,x2,x3,x4,x5,x6,x7,x8,x9,.s (jae jbe l),x11,vi l.length,vi ((i+1:Nat):Int),x14] hB) Q:=fun {hB n1 x7 x8 x9 x11} w1 m1 =>
   qfr f hl hok d (i+1) (by omega) w1 (by rw[f0j,jfk];show ws.length+3+3*d<=40000;omega) (fun hj ns' x7 x8 x9 x11 w' m'=>hQ hj ns' x7 x8 x9 x11 (by rw[hdr,f1f,f03,jfj,←f0i];exact w') (m1.trans m'))
  cases el:o.late with
  | false =>
   rw[el] at xA eA
   simp(disch:=first|omega|rfl) only[go_sem,jad,eq_true hlt,hix,jbe,el,eA,xA,s1]
   refine WC.imp (wsb f wA (l:=[o.kind+8*o.limit,o.value,o.n]) (by simp;omega)) ?_
   rintro v hB hW
   obtain⟨n1,w1,m1⟩:=go (v:=v) (hB:=hB) (by unfold j5o;rw[el];exact hW)
   have okB:=w1.ok
   simp(disch:=first|omega|rfl) only[go_sem,jad,hss]
   exact fin w1 m1
  | true =>
   rw[el] at xA eA
   simp(disch:=first|omega|rfl) only[go_sem,jad,eq_true hlt,hix,jbe,el,eA,xA,s2]
   refine WC.imp (wsb f wA (l:=[o.kind+4+8*o.limit,o.value,o.n]) (by simp;omega)) ?_
   rintro v hB hW
   obtain⟨n1,w1,m1⟩:=go (v:=v) (hB:=hB) (by unfold j5o;rw[el];exact hW)
   have okB:=w1.ok
   simp(disch:=first|omega|rfl) only[go_sem,jad,hss]
   exact fin w1 m1
theorem qfs {F:Fns} (f:WrF F) {l:List (Nat×Nat)} (hl:l.length<=10000) (hok:∀ r∈l,r.1<2/\r.2<16) {p:Nat} {x7 x8 x9 x10 x11 x12 x13:AV} :
 ∀ (d i:Nat) (_:i+d=l.length) {hi:Hp} {ws ns:List Nat} (_:WrS hi p ws ns) (_:ws.length+d<=40000) {x2 x4:AV}
  (hQ:∀ hj ns' x2 x4,WrS hj p (ws++byt ((l.drop i).map jyq)) ns'->Mv hi hj (p::ns) (p::ns')->Q (.exit 2) (.mk [.s (.ptr p 0),x1,x2,.s (jae jdd l),x4,vi l.length,vi l.length,x7,x8,x9,x10,x11,x12,x13,x14] hj)),
  W F jvq.loop (.mk [.s (.ptr p 0),x1,x2,.s (jae jdd l),x4,vi l.length,vi i,x7,x8,x9,x10,x11,x12,x13,x14] hi) Q
 | 0,i,hd,hi,ws,ns,w,hw,x2,x4,hQ=>by
  obtain rfl:i=l.length:=by omega
  rw[jag]
  unfold jvq
  have ok:=w.ok
  simp(disch:=first|omega|rfl) only[go_sem,f0r]
  exact hQ hi ns _ _ (by rw[f20];simpa[byt] using w) (Mv.refl ok)
 | d+1,i,hd,hi,ws,ns,w,hw,x2,x4,hQ=>by
  have hil:i<l.length:=by omega
  have hlt:(i:Int)<(l.length:Int):=by omega
  have hss:(i:Int)+1=((i+1:Nat):Int):=by omega
  obtain⟨r,hr⟩:∃ n,l[i]?=some n:=⟨_,f0b hil⟩
  have hdr:l.drop i=r::l.drop (i+1):=by rw[f1c hil,(f02.1 hr).2]
  have hix:=jai (enc:=jdd) (size:=2) hr rfl
  obtain⟨hc,hn⟩:=hok r (f0c hr)
  have ok:=w.ok
  obtain⟨hA,eA,okA,nA,xA,gA⟩:=jb5 ok [.int .i64 0,.int .i64 0] (jdd r) 116
  have wA:=w.keep okA gA (by omega)
  have s1:16*(r.1:Int)+(r.2:Int)=((jyq r:Nat):Int):=by unfold jyq;omega
  unfold jdd at xA eA
  rw[jag]
  unfold jvq j93
  simp(disch:=first|omega|rfl) only[go_sem,jad,eq_true hlt,hix,jdd,eA,xA,s1]
  refine WC.imp (wsb f wA (l:=[jyq r]) (by simp;omega)) ?_
  rintro v hB ⟨n1,w1,m1⟩
  have okB:=w1.ok
  simp(disch:=first|omega|rfl) only[go_sem,jad,hss]
  exact qfs f hl hok d (i+1) (by omega) w1 (by rw[f0j,jfk];show ws.length+1+d<=40000;omega) (fun hj ns' x2 x4 w' m'=>hQ hj ns' x2 x4 (by rw[hdr,f1f,show jyq r::(l.drop (i+1)).map jyq=[jyq r]++(l.drop (i+1)).map jyq from rfl,jfj,←f0i];exact w') ((Mv.low okA (by omega) gA _).trans (m1.trans m')))
theorem qjr {F:Fns} (f:WrF F) {h:Hp} {p:Nat} {ws ns:List Nat} (w:WrS h p ws ns) {x:Ms.Ins} (k:OkI x) (hw:ws.length+2000<=40000):WC F 34 [.s (.ptr p 0),.agg (jd6 x)] h (Wrn h p ws ns (byt (jis x))):=by
 refine jax (f.x _ rfl _ _) ((congrFun f.t _).trans qt9) rfl ?_
 unfold qfo
 have ok:=w.ok
 have hno:=k.nops
 have hns:=k.nsp
 obtain⟨hA,eA,okA,nA,xA,gA⟩:=jd4 ok (jd6 x) 44
 have wA:=w.keep okA gA (by omega)
 have l1:=jah (enc:=jbe) (l:=x.ops)
 have l2:=jah (enc:=jdd) (l:=x.spoils)
 unfold jd6 at xA eA
 simp(disch:=first|omega|rfl) only[go_sem,jd6,eA,xA,l1,l2]
 refine WC.imp (wsb f wA (l:=[x.op,x.ops.length,x.spoils.length]) (by simp;omega)) ?_
 rintro v hB ⟨n1,w1,m1⟩
 have okB:=w1.ok
 have hA0:h.next∉p::ns:=fun hc=>by
  rcases f0f.1 hc with h1 | h1
  .have:=w.p1.2;omega
  .have:=w.lt _ h1;omega
 have hA1:h.next∉p::n1:=fun hc=>by
  rcases m1.new _ hc with h1 | h1
  .exact hA0 h1
  .omega
 have xB:=(m1.keep h.next (by omega) hA0).trans xA
 have nB:=m1.nx
 have w1l:(ws++byt [x.op,x.ops.length,x.spoils.length]).length=ws.length+3:=by rw[f0j,jfk];rfl
 simp(disch:=first|omega|rfl) only[go_sem,xB,l1]
 refine qfr f (by omega) k.ops x.ops.length 0 (by omega) w1 (by omega) (fun hC n2 x7 x8 x9 x11 w2 m2=>?_)
 have okC:=w2.ok
 have xC:=(m2.keep h.next (by omega) hA1).trans xB
 simp(disch:=first|omega|rfl) only[go_sem,xC,l2]
 have w2l:∀ q:List Ms.Opd,((q.map j5o).flatten).length=3*q.length:=fun q=>by
  induction q with
  | nil=>rfl
  | cons a q ih=>rw[f1f,f03,f0j,ih];show 3+_=3*(q.length+1);omega
 refine qfs f (by omega) k.sp x.spoils.length 0 (by omega) w2 (by rw[f0j,w1l,jfk,w2l,f1v];omega) (fun hD n3 x2 x4 w3 m3=>?_)
 have okD:=w3.ok
 simp(disch:=first|omega|rfl) only[go_sem]
 refine⟨n3,?_,(Mv.low okA (by omega) gA _).trans (m1.trans (m2.trans m3))⟩
 have e:byt (jis x)=byt [x.op,x.ops.length,x.spoils.length]++(byt ((x.ops.map j5o).flatten)++byt (x.spoils.map jyq)):=by
  rw[←jfj,←jfj];rfl
 rw[e,←f0i,←f0i]
 exact w3
end Go.Proofs.Ytkeenpohacdanaa.Ev
