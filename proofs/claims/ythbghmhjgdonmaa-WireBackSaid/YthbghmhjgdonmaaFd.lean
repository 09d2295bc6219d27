/- Code of functions as the interpreter has it prepared, cut at loops. -/
import Derived.Test.YthbghmhjgdonmaaMc4
import Derived.Test.YthbghmhjgdonmaaVd
import Derived.Test.YthbghmhjgdonmaaSb
namespace Go.Proofs.Ythbghmhjgdonmaa.Ev
open Go Go.RowKit
set_option linter.all false
set_option maxRecDepth 100000
def j8i:IC:=.seq (.block 1 (qr [qP (.ixs 1 (.g 3) (.g 6)),qL,qT 2] (.region [qM 0,qM 0,qN,qG 0,qL,qM 2,qP (.conv .u8 qa),qA (.bslice 5 1 [.int .u8 0] 1 [(0,(1,qa))]),qA (.app 5 1 1 qd qa),qP (.nchk (.l 8)),qG 0,qA (.store 1 qa qc)]))) (.region [qI 6,qT 6])
def jum:IC:=qr [qQ 4 (.bin .lt (.g 6) (.g 5))] (.seq (qX 4 0) j8i)
def qd6:IC:=qr [qQ 3 (.mv (.g 1)),qQ 5 (.len qa),qQ 6 (.mv (qC 0))] (.block 0 (.loop jum))
theorem qsp:T 29=some (.mk qd6 2 5 []):=by kernel_rfl
def qd7:IC:=.region [qM 0,qM 1,qP (.bin .shr qa (.c (.s (.int .u64 24)))),qM 1,qP (.bin .shr qa (.c (.s (.int .u64 16)))),qM 1,qP (.bin .shr qa (.c (.s (.int .u64 8)))),qM 1,qA (.bslice 3 1 [.int .i64 0,.int .i64 0,.int .i64 0,.int .i64 0] 4 [(0,(1,.l 5)),(1,(1,qd)),(2,(1,qb)),(3,(1,qa))]),qA (.call 29 [.l 8,qa])]
theorem qsq:T 30=some (.mk qd7 2 0 []):=by kernel_rfl
def qd8:IC:=qr [qM 0,qM 1,qP (.len qa),qA (.bslice 3 1 [.int .i64 0] 1 [(0,(1,qa))]),qA (.call 29 [qd,qa])] (.region [qM 0,qM 1,qA (.call 29 [qb,qa])])
theorem qsr:T 31=some (.mk qd8 2 0 []):=by kernel_rfl
def j8j:IC:=.region [qM 0,qM 7,qF 3 9,qL,qP (.bin .mul (qC 8) qa),qP (.bin .add qd qa),qF 1 9,qL,qF 4 9,qL,qA (.bslice 3 1 [.int .i64 0,.int .i64 0,.int .i64 0] 3 [(0,(1,.l 4)),(1,(1,qc)),(2,(1,qa))]),qA (.call 29 [.l 10,qa])]
def j8k:IC:=.seq (.block 1 (qr [qP (.ixs 5 (.g 10) (.g 13)),qK 5,qB 9 (.new 94 [.int .i64 0,.int .i64 0,.bool false,.int .i64 0,.int .i64 0]),qA (.store 5 qa qb)] (qr [qF 0 9,qL,qT 7] (.seq (qr [qF 2 9,qB 8 (.load 1 false qa)] (.cond (.g 8) (.region [qM 7,qP (.bin .add qa (qC 4)),qT 7]) .skip)) j8j)))) (.region [qI 13,qT 13])
def jp7:IC:=qr [qQ 11 (.bin .lt (.g 13) (.g 12))] (.seq (qX 11 0) j8k)
def j8l:IC:=.seq (.block 3 (qr [qP (.ixs 2 (.g 3) (.g 6)),qK 2,qB 2 (.new 116 [.int .i64 0,.int .i64 0]),qA (.store 2 qa qb)] (.region [qM 0,qF 0 2,qL,qP (.bin .mul (qC 16) qa),qF 1 2,qL,qP (.bin .add qc qa),qA (.bslice 3 1 [.int .i64 0] 1 [(0,(1,qa))]),qA (.call 29 [.l 7,qa])]))) (.region [qI 6,qT 6])
def jun:IC:=qr [qQ 4 (.bin .lt (.g 6) (.g 5))] (.seq (qX 4 2) j8l)
def qd9:IC:=qr [qB 14 (.box 81 (.g 1))] (qr [qM 0,qF 0 14,qL,qF 1 14,qL,qP (.len qa),qF 2 14,qL,qP (.len qa),qA (.bslice 3 1 [.int .i64 0,.int .i64 0,.int .i64 0] 3 [(0,(1,.l 6)),(1,(1,qd)),(2,(1,qa))]),qA (.call 29 [.l 9,qa])] (.seq (qr [qF 1 14,qB 10 (.load 1 false qa),qQ 12 (.len qa),qQ 13 (.mv (qC 0))] (.block 0 (.loop jp7))) (qr [qF 2 14,qB 3 (.load 1 false qa),qQ 5 (.len qa),qQ 6 (.mv (qC 0))] (.block 2 (.loop jun)))))
theorem qss:T 32=some (.mk qd9 2 13 []):=by kernel_rfl
def j1u:IC:=.seq (.block 1 (qr [qP (.ixs 1 (.g 19) (.g 22)),qL,qT 18] (.region [qM 23,qM 18,qA (.call 30 [qb,qa])]))) (.region [qI 22,qT 22])
def jnf:IC:=qr [qQ 20 (.bin .lt (.g 22) (.g 21))] (.seq (qX 20 0) j1u)
def j1v:IC:=.seq (.block 5 (qr [qP (.ixs 3 (.g 9) (.g 12)),qK 3,qB 8 (.new 81 [.int .i64 0,.nilSlice,.nilSlice]),qA (.store 3 qa qb)] (.region [qM 23,qA (.load 3 true (.g 8)),qA (.call 32 [qb,qa])]))) (.region [qI 12,qT 12])
def jng:IC:=qr [qQ 10 (.bin .lt (.g 12) (.g 11))] (.seq (qX 10 4) j1v)
def j1w:IC:=.seq (.block 7 (qr [qP (.ixs 2 (.g 4) (.g 7)),qK 2,qB 3 (.new 68 [.int .i64 0,.nilSlice]),qA (.store 2 qa qb)] (qr [qM 23,qF 0 3,qL,qA (.bslice 3 1 [.int .i64 0] 1 [(0,(1,qa))]),qA (.call 29 [qd,qa])] (.region [qM 23,qF 1 3,qL,qA (.call 31 [qc,qa])])))) (.region [qI 7,qT 7])
def jnh:IC:=qr [qQ 5 (.bin .lt (.g 7) (.g 6))] (.seq (qX 5 6) j1w)
def j1x:IC:=.seq (.block 3 (qr [qP (.ixs 3 (.g 14) (.g 17)),qK 3,qB 13 (.new 36 [.nilSlice,.nilSlice,.nilSlice]),qA (.store 3 qa qb)] (qr [qM 23,qF 0 13,qL,qA (.call 31 [qc,qa])] (qr [qM 23,qF 1 13,qL,qP (.len qa),qA (.bslice 3 1 [.int .i64 0] 1 [(0,(1,qa))]),qA (.call 29 [.l 4,qa])] (.seq (qr [qF 1 13,qB 9 (.load 1 false qa),qQ 11 (.len qa),qQ 12 (.mv (qC 0))] (.block 4 (.loop jng))) (qr [qM 23,qF 2 13,qL,qP (.len qa),qA (.bslice 3 1 [.int .i64 0] 1 [(0,(1,qa))]),qA (.call 29 [.l 4,qa])] (qr [qF 2 13,qB 4 (.load 1 false qa),qQ 6 (.len qa),qQ 7 (.mv (qC 0))] (.block 6 (.loop jnh))))))))) (.region [qI 17,qT 17])
def jni:IC:=qr [qQ 15 (.bin .lt (.g 17) (.g 16))] (.seq (qX 15 2) j1x)
def j1y:IC:=qr [qP (.build [.nilSlice] []),qA (.box 74 qa),qT 23] (qr [qM 23,qF 0 26,qG 0,qA (.slicea 2 1 qa),qA (.call 29 [qd,qa])] (qr [qM 23,qF 4 26,qL,qA (.call 30 [qc,qa])] (qr [qM 23,qF 5 26,qL,qA (.call 30 [qc,qa])] (qr [qM 23,qF 6 26,qL,qP (.len qa),qA (.bslice 3 1 [.int .i64 0] 1 [(0,(1,qa))]),qA (.call 29 [.l 4,qa])] (.seq (qr [qF 6 26,qB 19 (.load 1 false qa),qQ 21 (.len qa),qQ 22 (.mv (qC 0))] (.block 0 (.loop jnf))) (qr [qM 23,qF 2 26,qG 0,qL,qA (.call 31 [qd,qa])] (qr [qM 23,qF 2 26,qG 1,qL,qP (.len qa),qA (.bslice 3 1 [.int .i64 0] 1 [(0,(1,qa))]),qA (.call 29 [.l 5,qa])] (.seq (qr [qF 2 26,qG 1,qB 14 (.load 1 false qa),qQ 16 (.len qa),qQ 17 (.mv (qC 0))] (.block 2 (.loop jni))) (qr [qM 23,qN,qG 0,qL,qT 2,qQ 1 (.mv (qC 0))] .ret)))))))))
def j8m:IC:=qr [qB 26 (.box 45 (.g 0)),qQ 2 (.mv (.c (.s .nilSlice))),qQ 1 (.mv (qC 0))] (.seq (qr [qA (.load 7 true (.g 26)),qA (.call 28 [qa]),qT 25] (qr [qM 25,qQ 24 (.bin .ne qa (qC 0))] (.cond (.g 24) (qr [qM 25,qQ 2 (.mv (.c (.s .nilSlice))),qQ 1 (.mv qb)] .ret) .skip))) j1y)
theorem qot:T 13=some (.mk j8m 1 26 [(.tmp 2),(.tmp 1)]):=by kernel_rfl
end Go.Proofs.Ythbghmhjgdonmaa.Ev
namespace Go.Proofs.Ythbghmhjgdonmaa.Ms
set_option linter.all false
abbrev Rd:=List Nat×Bool
def smF (r:Rd):Nat×Rd :=
 match r.1 with
 | []=>(0,([],true))
 | b::l=>(b,(l,r.2))
def jl8 {α:Type} (P:Rd->α×Rd):Nat->Rd->List α×Rd
 | 0,r=>([],r)
 | n+1,r=>if r.2=true then ([],r) else ((P r).1::(jl8 P n (P r).2).1,(jl8 P n (P r).2).2)
def jen {α:Type} (P:Rd->α×Rd) (r:Rd):List α×Rd:=jl8 P (smF r).1 (smF r).2
def jcl {α:Type} (P:Rd->α×Rd):Nat->Rd->List α×Rd
 | 0,r=>([],r)
 | n+1,r=>if (P r).2.2=true then ([(P r).1],(P r).2) else ((P r).1::(jcl P n (P r).2).1,(jcl P n (P r).2).2)
def juo {α β:Type} (P:Rd->α×Rd) (Q:α->Rd->β×Rd) (r:Rd):β×Rd:=Q (P r).1 (P r).2
def qea {α β:Type} (P:Rd->α×Rd) (f:α->β) (r:Rd):β×Rd:=(f (P r).1,(P r).2)
def jed:Rd->Nat×Rd:=juo smF fun a=>juo smF fun b=>juo smF fun c=>qea smF fun d=>((a*256 ||| b)*256 ||| c)*256 ||| d
def jfa:Rd->List Nat×Rd:=jen smF
def jnj:Rd->Opd×Rd:=juo smF fun b=>juo smF fun v=>qea smF fun n=>⟨b % 4,v,decide (b / 4 % 2=1),b / 8,n⟩
def jqg:Rd->(Nat×Nat)×Rd:=qea smF fun n=>(n / 16,n % 16)
def j1z:Rd->Ins×Rd:=juo smF fun op=>juo smF fun k=>juo smF fun s=>juo (jcl jnj k) fun os=>qea (jcl jqg s) fun rs=>⟨op,os,rs⟩
def j8n:Rd->Edg×Rd:=juo smF fun b=>qea jfa fun l=>⟨b,l⟩
def j91:Rd->Blk×Rd:=juo jfa fun p=>juo (jen j1z) fun i=>qea (jen j8n) fun e=>⟨p,i,e⟩
structure Scr where
 m1:Nat
 m2:Nat
 seed:Nat
 steps:Nat
 junk:List Nat
 f:Fc
def qq1:Rd->Scr×Rd:=juo smF fun a=>juo smF fun b=>juo jed fun s=>juo jed fun t=>juo (jen jed) fun j=>juo jfa fun v=>qea (jen j91) fun bs=>⟨a,b,s,t,j,⟨v,bs⟩⟩
def jcv (n:Nat):List Nat:=[n / 16777216 % 256,n / 65536 % 256,n / 256 % 256,n % 256]
def jqu (l:List Nat):List Nat:=l.length::l
def j3z (o:Opd):List Nat:=[o.kind+(if o.late=true then 4 else 0)+8*o.limit,o.value,o.n]
def jxg (r:Nat×Nat):Nat:=16*r.1+r.2
def jh9 (x:Ins):List Nat:=[x.op,x.ops.length,x.spoils.length]++((x.ops.map j3z).flatten++x.spoils.map jxg)
def jmy (e:Edg):List Nat:=e.block::jqu e.args
def j3q (b:Blk):List Nat:=jqu b.params++(b.instrs.length::((b.instrs.map jh9).flatten++(b.edges.length::(b.edges.map jmy).flatten)))
def jkx (s:Scr):List Nat:=[s.m1,s.m2]++(jcv s.seed++(jcv s.steps++(s.junk.length::((s.junk.map jcv).flatten++(jqu s.f.values++(s.f.blocks.length::(s.f.blocks.map j3q).flatten))))))
def Inv {α:Type} (P:Rd->α×Rd) (B:α->List Nat) (ok:α->Prop):Prop:=∀ a,ok a->∀ t,P (B a++t,false)=(a,(t,false))
theorem qbz {n b:Nat} (h:b<256):n*256 ||| b=n*256+b:=by
 have:=Nat.shiftLeft_add_eq_or_of_lt (i:=8) (b:=b) (by simpa using h) n
 rw[Nat.shiftLeft_eq] at this
 exact this.symm
theorem jup:Inv jed jcv (fun n=>n<4294967296):=by
 intro n hn t
 show(((n / 16777216 % 256*256 ||| n / 65536 % 256)*256 ||| n / 256 % 256)*256 ||| n % 256,(t,false))=_
 rw[qbz (f3k _ (by omega)),qbz (f3k _ (by omega)),qbz (f3k _ (by omega))]
 congr 1
 omega
theorem jwu {α:Type} {P:Rd->α×Rd} {B:α->List Nat} {ok:α->Prop} (h:Inv P B ok):∀ (l:List α),(∀ a∈l,ok a)->∀ t,jl8 P l.length ((l.map B).flatten++t,false)=(l,(t,false))
 | [],_,t=>rfl
 | a::l,hl,t=>by
  show(if false=true then _ else ((P ((B a++(l.map B).flatten)++t,false)).1::(jl8 P l.length (P ((B a++(l.map B).flatten)++t,false)).2).1,(jl8 P l.length (P ((B a++(l.map B).flatten)++t,false)).2).2))=_
  rw[f0i,h a (hl a (by simp)),if_neg (by simp)]
  simp only
  rw[jwu h l (fun b hb=>hl b (by simp[hb]))]
theorem juq {α:Type} {P:Rd->α×Rd} {B:α->List Nat} {ok:α->Prop} (h:Inv P B ok):∀ (l:List α),(∀ a∈l,ok a)->∀ t,jcl P l.length ((l.map B).flatten++t,false)=(l,(t,false))
 | [],_,t=>rfl
 | a::l,hl,t=>by
  show(if (P ((B a++(l.map B).flatten)++t,false)).2.2=true then _ else ((P ((B a++(l.map B).flatten)++t,false)).1::(jcl P l.length (P ((B a++(l.map B).flatten)++t,false)).2).1,(jcl P l.length (P ((B a++(l.map B).flatten)++t,false)).2).2))=_
  rw[f0i,h a (hl a (by simp)),if_neg (by simp)]
  simp only
  rw[juq h l (fun b hb=>hl b (by simp[hb]))]
theorem jkj {α:Type} {P:Rd->α×Rd} {B:α->List Nat} {ok:α->Prop} (h:Inv P B ok):Inv (jen P) (fun l=>l.length::(l.map B).flatten) (fun l=>∀ a∈l,ok a):=fun l hl t=>jwu h l hl t
theorem qou:Inv smF (fun n=>[n]) (fun _=>True):=fun n _ t=>rfl
theorem j10:∀ l:List Nat,(l.map (fun n=>[n])).flatten=l
 | []=>rfl
 | a::l=>by rw[f1c,f03,j10 l];rfl
theorem jur:Inv jfa jqu (fun _=>True):=fun l _ t=>by
 have h:jen smF (l.length::(l.map (fun n=>[n])).flatten++t,false)=(l,(t,false)):=jkj qou l (fun _ _=>trivial) t
 rw[j10] at h
 exact h
structure OkO (o:Opd):Prop where
 k:o.kind=1∨o.kind=2
 l:o.limit<=5
 v:o.value<256
 n:o.n<256
structure OkI (x:Ins):Prop where
 op:x.op<256
 nops:x.ops.length<256
 nsp:x.spoils.length<256
 ops:∀ o∈x.ops,OkO o
 sp:∀ r∈x.spoils,r.1<2/\r.2<16
structure OkB (b:Blk):Prop where
 np:b.params.length<256
 p:∀ v∈b.params,v<256
 ni:b.instrs.length<256
 i:∀ x∈b.instrs,OkI x
 ne:b.edges.length<256
 e:∀ e∈b.edges,e.block<256/\e.args.length<256/\∀ v∈e.args,v<256
structure OkS (s:Scr):Prop where
 m1:s.m1<256
 m2:s.m2<256
 sd:s.seed<4294967296
 st:s.steps<4294967296
 nj:s.junk.length<256
 j:∀ n∈s.junk,n<4294967296
 nv:s.f.values.length<256
 v:∀ v∈s.f.values,v<256
 nb:s.f.blocks.length<256
 b:∀ b∈s.f.blocks,OkB b
theorem qin:Inv jnj j3z OkO:=by
 rintro⟨k,v,late,lim,n⟩ ⟨hk,hl,hv,hn⟩ t
 simp only at hk hl
 show((⟨(k+(if late=true then 4 else 0)+8*lim) % 4,v,decide ((k+(if late=true then 4 else 0)+8*lim) / 4 % 2=1),(k+(if late=true then 4 else 0)+8*lim) / 8,n⟩:Opd),(t,false))=_
 have e1:(k+(if late=true then 4 else 0)+8*lim) % 4=k:=by cases late<;>simp<;>omega
 have e2:(k+(if late=true then 4 else 0)+8*lim) / 8=lim:=by cases late<;>simp<;>omega
 have e3:decide ((k+(if late=true then 4 else 0)+8*lim) / 4 % 2=1)=late:=by
  cases late
  .rw [decide_eq_false_iff_not];simp;omega
  .rw [decide_eq_true_eq];simp;omega
 rw[e1,e2,e3]
theorem qio:Inv jqg (fun r=>[jxg r]) (fun r=>r.2<16):=by
 rintro⟨c,n⟩ hn t
 simp only at hn
 show(((16*c+n) / 16,(16*c+n) % 16),(t,false))=_
 rw[show(16*c+n) / 16=c by omega,show(16*c+n) % 16=n by omega]
theorem qb0 (l:List (Nat×Nat)):(l.map (fun r=>[jxg r])).flatten=l.map jxg:=by
 induction l with
 | nil=>rfl
 | cons a l ih=>rw[f1c,f03,ih];rfl
theorem qip:Inv j1z jh9 OkI:=by
 intro x h t
 have h1:=juq qin x.ops h.ops (x.spoils.map jxg++t)
 have h2:=juq qio x.spoils (fun r hr=>(h.sp r hr).2) t
 rw[qb0] at h2
 show(let p:=jcl jnj x.ops.length (((x.ops.map j3z).flatten++x.spoils.map jxg)++t,false);let q:=jcl jqg x.spoils.length p.2;((⟨x.op,p.1,q.1⟩:Ins),q.2))=_
 rw[f0i,h1]
 simp only
 rw[h2]
theorem qiq:Inv j8n jmy (fun _=>True):=by
 intro e _ t
 show(let p:=jfa (jqu e.args++t,false);((⟨e.block,p.1⟩:Edg),p.2))=_
 rw[jur e.args trivial t]
theorem qir:Inv j91 j3q OkB:=by
 intro b h t
 have h1:=jur b.params trivial ((b.instrs.length::((b.instrs.map jh9).flatten++(b.edges.length::(b.edges.map jmy).flatten)))++t)
 have h2:=jkj qip b.instrs h.i ((b.edges.length::(b.edges.map jmy).flatten)++t)
 have h3:=jkj qiq b.edges (fun _ _=>trivial) t
 show(let p:=jfa ((jqu b.params++(b.instrs.length::((b.instrs.map jh9).flatten++(b.edges.length::(b.edges.map jmy).flatten))))++t,false);let i:=jen j1z p.2;let e:=jen j8n i.2;((⟨p.1,i.1,e.1⟩:Blk),e.2))=_
 rw[f0i,h1]
 simp only
 simp only[f1k,f0i] at h2 h3 ⊢
 rw[h2]
 simp only
 rw[h3]
theorem j8o:Inv qq1 jkx OkS:=by
 rintro⟨m1,m2,sd,st,j,⟨v,bs⟩⟩ h t
 have h1:=jup sd h.sd
 have h2:=jup st h.st
 have h3:=jkj jup j h.j
 have h4:=jur v trivial
 have h5:=jkj qir bs h.b t
 show(let p:=jed ((jcv sd++(jcv st++(j.length::((j.map jcv).flatten++(jqu v++(bs.length::(bs.map j3q).flatten))))))++t,false);let q:=jed p.2;let x:=jen jed q.2;let y:=jfa x.2;let z:=jen j91 y.2;((⟨m1,m2,p.1,q.1,x.1,⟨y.1,z.1⟩⟩:Scr),z.2))=_
 simp only[f0i,f1k] at h1 h2 h3 h4 h5 ⊢
 rw[h1]
 simp only
 rw[h2]
 simp only
 rw[h3]
 simp only
 rw[h4]
 simp only
 rw[h5]
theorem jp8 {α:Type} {B:α->List Nat} {l:List α} (h:∀ a∈l,∀ q∈B a,q<256):∀ q∈(l.map B).flatten,q<256:=fun q hq=>by
 obtain⟨s,hs,hq⟩:=List.mem_flatten.1 hq
 obtain⟨a,ha,rfl⟩:=f1p.1 hs
 exact h a ha q hq
theorem jih {a b:List Nat} (h1:∀ q∈a,q<256) (h2:∀ q∈b,q<256):∀ q∈a++b,q<256:=fun q hq=>(f0d.1 hq).elim (h1 q) (h2 q)
theorem jb0 {a:Nat} {b:List Nat} (h1:a<256) (h2:∀ q∈b,q<256):∀ q∈a::b,q<256:=fun q hq=>(f0f.1 hq).elim (fun e=>e▸h1) (h2 q)
theorem jwv:∀ q∈([]:List Nat),q<256:=by simp
theorem jzc (n:Nat):∀ q∈jcv n,q<256:=jb0 (f3k _ (by omega)) (jb0 (f3k _ (by omega)) (jb0 (f3k _ (by omega)) (jb0 (f3k _ (by omega)) jwv)))
theorem j8p {s:Scr} (k:OkS s):∀ q∈jkx s,q<256:=by
 refine jih (jb0 k.m1 (jb0 k.m2 jwv)) (jih (jzc _) (jih (jzc _) (jb0 k.nj (jih (jp8 (fun n _=>jzc n)) (jih (jb0 k.nv k.v) (jb0 k.nb (jp8 (fun b hb=>?_))))))))
 have kb:=k.b b hb
 refine jih (jb0 kb.np kb.p) (jb0 kb.ni (jih (jp8 (fun x hx=>?_)) (jb0 kb.ne (jp8 (fun e he=>?_)))))
 .have ki:=kb.i x hx
  refine jih (jb0 ki.op (jb0 ki.nops (jb0 ki.nsp jwv))) (jih (jp8 (fun o ho=>?_)) (fun q hq=>?_))
  .have ko:=ki.ops o ho
   refine jb0 ?_ (jb0 ko.v (jb0 ko.n jwv))
   have:=ko.k
   have:=ko.l
   cases o.late<;>simp<;>omega
  .obtain ⟨r,hr,rfl⟩:=f1p.1 hq
   have:=ki.sp r hr
   unfold jxg;omega
 .obtain ⟨h1,h2,h3⟩:=kb.e e he
  exact jb0 h1 (jb0 h2 h3)
theorem qov {m:Nat×Nat} {f:Fc} (k:FcOk m f) (m1:2<=m.1/\m.1<=10) (m2:2<=m.2/\m.2<=10) {sd st:Nat} (hs:sd<4294967296) (ht:st<4294967296) {j:List Nat} (hj:j.length<256) (hj2:∀ n∈j,n<4294967296):OkS ⟨m.1,m.2,sd,st,j,f⟩:=by
 have hv:=k.nv
 have hb:=k.nb
 have hg:∀ c,g2 m c<=10:=fun c=>by unfold g2;split<;>omega
 refine⟨show m.1<256 by omega,show m.2<256 by omega,hs,ht,hj,hj2,show f.values.length<256 by omega,fun v hv'=>by have:=k.cls v hv';omega,show f.blocks.length<256 by omega,fun b hb'=>?_⟩
 obtain⟨h1,h2,h3⟩:=k.blk b hb'
 refine⟨by omega,fun v h=>by have:=k.prm b hb' v h;omega,by omega,fun x hx=>?_,by omega,fun e he=>?_⟩
 .have i:=k.ins b hb' x hx
  have h4:=i.op
  have h5:=i.nops
  have h6:=i.nsp
  refine⟨by omega,by omega,by omega,fun o ho=>?_,fun r hr=>?_⟩
  .have q:=i.opd o ho
   have h7:=q.lim
   have h8:=q.val
   refine⟨q.kind,by omega,by omega,?_⟩
   by_cases e:o.limit=5
   .obtain ⟨u,hu,_⟩:=i.reu o ho e
    have:=(f00.1 hu).1
    omega
   .by_cases e2:o.limit=4
    .have:=q.fix e2
     have:=hg (cl f.values o.value)
     omega
    .have:=q.zero (by omega)
     omega
  .have:=i.spo r hr
   have:=hg r.1
   exact⟨by omega,by omega⟩
 .obtain ⟨_,h4,t,h5,h6,_⟩:=k.edg b hb' e he
  have h7:=(f00.1 h5).1
  have h8:=congrArg List.length h6
  simp only[f1a] at h8
  have h9:=(k.blk t (f0c h5)).1
  exact⟨by omega,by omega,fun v hv'=>by have:=h4 v hv';omega⟩
end Go.Proofs.Ythbghmhjgdonmaa.Ms
namespace Go.Proofs.Ythbghmhjgdonmaa.Ev
open Go Go.RowKit Go.Proofs.Ythbghmhjgdonmaa.Ms
attribute [local go_sem] Int.reduceToNat reduceCtorEq Nat.reduceAdd Nat.reduceMul Nat.reduceEqDiff Int.reduceEq Int.reduceLT Int.reduceLE Int.reduceNeg Int.reduceAdd Int.reduceSub Int.reduceMul Int.reduceNe
attribute [local go_sem ↓] reduceIte
set_option linter.all false
set_option maxRecDepth 100000
set_option maxHeartbeats 2000000
variable {x1 x14:AV} {Q:Ex->St->Prop} {xl:SV}
def EY (row:List SV) (n:Nat) (ns:List Nat):Prop:=row=[.int .u8 n]/\ns=[]
structure WrS (h:Hp) (p:Nat) (l:List Nat) (ns:List Nat):Prop where
 ok:Ok h
 ex:∃ x,h.get p=some (.arr [x] 74)/\Sl h 5 1 false EY x l ns
 p1:1<=p/\p<h.next
 pn:p∉ns
 lt:∀ n∈ns,1<=n/\n<h.next
section
variable {h h':Hp} {p:Nat} {l:List Nat} {ns:List Nat}
theorem WrS.keep (w:WrS h p l ns) (ok':Ok h') (hk:∀ n,n<h.next->h'.get n=h.get n) (hn:h.next<=h'.next):WrS h' p l ns:=by
 obtain⟨x,h1,h2⟩:=w.ex
 exact⟨ok',⟨x,(hk p w.p1.2).trans h1,h2.keep (fun n hm=>hk n (w.lt n hm).2)⟩,⟨w.p1.1,by have:=w.p1.2;omega⟩,w.pn,fun n hm=>by have:=w.lt n hm;omega⟩
theorem WrS.put (w:WrS h p l ns) (hl:l.length<=100000) (v:Nat):∃ x x' hM hN ns',h.get p=some (.arr [x] 74)/\ji4 (h.push (.arr [.int .u8 v] 5)) 5 1 1 (.s x) (.s (.slice h.next 0 1 1 true 1))=some (.s x',hM)/\Ok hM/\hM.get p=some (.arr [x] 74) /\
 hM.put p (some (.arr [x'] 74))=hN/\Ok hN/\WrS hN p (l++[v]) ns'/\Mv h hN (p::ns) (p::ns'):=by
 obtain⟨x,h1,h2⟩:=w.ex
 have ok:=w.ok
 obtain⟨hp1,hp2⟩:=w.p1
 obtain⟨hM,e1,okM,nM,kM,_,sM⟩:=h2.app1 (bytes:=1) (row:=[.int .u8 (v:Int)]) (a:=v) (ms:=[]) ok w.lt rfl ⟨rfl,rfl⟩ (by omega) (by omega)
 have xM:=(kM p hp2 w.pn).trans h1
 have okN:Ok (hM.put p (some (.arr [.slice (h.next+1) 0 (l.length+1) (l.length+1) false 1] 74))):=jap okM
 have nN:(hM.put p (some (.arr [.slice (h.next+1) 0 (l.length+1) (l.length+1) false 1] 74))).next=h.next+2:=by rw[Hp.next_put,nM]
 have gN:∀ n,n≠p->(hM.put p (some (.arr [.slice (h.next+1) 0 (l.length+1) (l.length+1) false 1] 74))).get n=hM.get n:=fun n hn=>by rw[jaj okM hp1,if_neg hn]
 have tl:∀ n∈ns.tail,n∈ns:=fun n hn=>f0g hn
 have pt:p∉(h.next+1)::(ns.tail++[]):=fun hc=>by
  rcases f0f.1 hc with h3 | h3
  .omega
  .exact w.pn (tl p (by simpa using h3))
 refine⟨x,_,hM,_,(h.next+1)::(ns.tail++[]),h1,e1,okM,xM,rfl,okN,⟨okN,⟨_,by rw[jaj okM hp1,if_pos rfl],(sM (E':=EY) (fun _ _ _ _ e=>e)).keep (fun n hn=>gN n (fun e=>pt (e▸hn)))⟩,⟨hp1,by rw[nN];omega⟩,pt,fun n hn=>?_⟩,⟨okN,by rw[nN];omega,fun n hn=>?_,fun n hn hm=>?_⟩⟩
 .rw [nN]
  rcases f0f.1 hn with rfl | hn
  .omega
  .have:=w.lt n (tl n (by simpa using hn));omega
 .rcases f0f.1 hn with rfl | hn
  .exact .inl (by simp)
  .rcases f0f.1 hn with rfl | hn
   .exact .inr (by omega)
   .exact .inl (f0x _ (tl n (by simpa using hn)))
 .rw [gN n (fun e=>hm (by simp[e]))]
  exact kM n hn (fun hc=>hm (f0x _ hc))
end
def RdL (h:Hp) (xl:SV) (l:List Nat) (own:List Nat):Prop:=xl=jae jas l∨∃ b o mc ex cells ty,xl=.slice b o l.length mc ex 1/\h.get b=some (.arr cells ty)/\b<h.next/\b∉own/\∀ (i n:Nat),l[i]?=some n->cells[o+i]?=some (si n)
theorem RdL.len {h:Hp} {l own:List Nat} (r:RdL h xl l own):jri (.s xl)=some (vi l.length):=by
 rcases r with rfl | ⟨b,o,mc,ex,cells,ty,rfl,_⟩
 .exact jah
 .rfl
theorem RdL.mv {h h':Hp} {l own own':List Nat} (r:RdL h xl l own) (m:Mv h h' own own'):RdL h' xl l own':=by
 rcases r with rfl | ⟨b,o,mc,ex,cells,ty,rfl,h1,h2,h3,h4⟩
 .exact .inl rfl
 .exact .inr ⟨b,o,mc,ex,cells,ty,rfl,(m.keep b h2 h3).trans h1,f0m h2 m.nx,fun hc=>by
   rcases m.new b hc with h5 | h5
   .exact h3 h5
   .omega,h4⟩
theorem j8q (n:Nat):j2f .u8 (n:Int)=some (.s (.int .u8 ((n % 256:Nat):Int))):=by
 show oif (Nat.ble n 255) (some (AV.s (.int .u8 (n:Int)))) (some (AV.s (.int .u8 ((n % 256:Nat):Int))))=_
 rw[jau]
 split
 .rename_i h
  rw[f2w (by have:=f0o h;omega)]
 .rfl
theorem j8r {F:Fns} {l:List Nat} (hl:l.length<=50000) {p:Nat} :
 ∀ (d i:Nat) (_:i+d=l.length) {hi:Hp} {ws ns:List Nat} (_:WrS hi p ws ns) (_:RdL hi xl l (p::ns)) (_:ws.length+d<=100000) {x2 x4:AV}
  (hQ:∀ hj ns' x2 x4,WrS hj p (ws++(l.drop i).map (fun n=>n % 256)) ns'->Mv hi hj (p::ns) (p::ns')->Q (.exit 0) (.mk [.s (.ptr p 0),x1,x2,.s xl,x4,vi l.length,vi l.length] hj)),
  W F jum.loop (.mk [.s (.ptr p 0),x1,x2,.s xl,x4,vi l.length,vi i] hi) Q
 | 0,i,hd,hi,ws,ns,w,r,hw,x2,x4,hQ=>by
  obtain rfl:i=l.length:=by omega
  rw[jag]
  unfold jum
  have ok:=w.ok
  simp(disch:=first|omega|rfl) only[go_sem,f0q]
  exact hQ hi ns _ _ (by rw[f2z];simpa using w) (Mv.refl ok)
 | d+1,i,hd,hi,ws,ns,w,r,hw,x2,x4,hQ=>by
  have hil:i<l.length:=by omega
  have hlt:(i:Int)<(l.length:Int):=by omega
  have hss:(i:Int)+1=((i+1:Nat):Int):=by omega
  obtain⟨n,hn⟩:∃ n,l[i]?=some n:=⟨_,f0b hil⟩
  have hdr:l.drop i=n::l.drop (i+1):=by rw[f08 hil,(f00.1 hn).2]
  have ok:=w.ok
  obtain⟨x,x',hM,hN,ns',t1,t2,okM,t3,t4,okN,wN,mN⟩:=w.put (by omega) (n % 256)
  have rN:=r.mv mN
  have hQ':∀ hj ns'' x2 x4,WrS hj p ((ws++[n % 256])++(l.drop (i+1)).map (fun n=>n % 256)) ns''->Mv hN hj (p::ns') (p::ns'')->Q (.exit 0) (.mk [.s (.ptr p 0),x1,x2,.s xl,x4,vi l.length,vi l.length] hj):=fun hj ns'' x2 x4 w' m' =>
   hQ hj ns'' x2 x4 (by rw[hdr];simpa[f0i] using w') (mN.trans m')
  have hrow:hi.push (.arr [.int .u8 ((n % 256:Nat):Int)] 5)=hi.push (.arr [.int .u8 ((n % 256:Nat):Int)] 5):=rfl
  rw[jag]
  unfold jum j8i
  rcases r with hxl | ⟨b,o,mc,ex,cells,ty,hxl,r1,r2,r3,r4⟩
  .have hix:ju7 1 (.s xl) (vi (i:Int))=some (.s (.cp (jas n))):=by rw[hxl];exact jai (enc:=jas) (size:=1) hn rfl
   simp(disch:=first|omega|rfl) only[go_sem,jad,eq_true hlt,hix,jas,t1,j8q,t2,t3,t4,hss]
   exact j8r hl d (i+1) (by omega) wN rN (by simp;omega) hQ'
  .have hix:ju7 1 (.s xl) (vi (i:Int))=some (.s (.ptr b (o+i*1))):=by rw[hxl];exact jbc hil
   have hrd:rdB (hi.get b) (o+i*1) 1=some [si n]:=by rw[r1];exact jrr (by rw[f28];exact r4 i n hn)
   simp(disch:=first|omega|rfl) only[go_sem,jad,eq_true hlt,hix,hrd,t1,j8q,t2,t3,t4,hss]
   exact j8r hl d (i+1) (by omega) wN rN (by simp;omega) hQ'
def Wf (f:FuncId):Bool:=Nat.beq f 29||(Nat.beq f 30||(Nat.beq f 31||(Nat.beq f 32||Nat.beq f 13)))
structure WrF (F:Fns):Prop where
 x:∀ f,Wf f=true->∀ vs h,jcw F f vs h=none
 t:j4w F=T
def byt (l:List Nat):List Nat:=l.map (fun n=>n % 256)
theorem jfb (a b:List Nat):byt (a++b)=byt a++byt b:=List.map_append ..
theorem jfc (a:List Nat):(byt a).length=a.length:=f1a ..
theorem j8s:∀ {l:List Nat},(∀ n∈l,n<256)->byt l=l
 | [],_=>rfl
 | n::l,h=>by
  show n % 256::byt l=_
  rw[f2w (h n (by simp)),j8s (fun m hm=>h m (by simp[hm]))]
section
variable {F:Fns} {h:Hp} {p:Nat} {ws ns:List Nat}
def Wrn (h:Hp) (p:Nat) (ws ns l:List Nat):AV->Hp->Prop:=fun _ h'=>∃ ns',WrS h' p (ws++l) ns'/\Mv h h' (p::ns) (p::ns')
theorem jzd (f:WrF F) (w:WrS h p ws ns) {l:List Nat} (r:RdL h xl l (p::ns)) (hw:ws.length+l.length<=50000):WC F 29 [.s (.ptr p 0),.s xl] h (Wrn h p ws ns (byt l)):=by
 refine jax (f.x _ rfl _ _) ((congrFun f.t _).trans qsp) rfl ?_
 unfold qd6
 have ok:=w.ok
 have ll:=r.len
 simp(disch:=first|omega|rfl) only[go_sem,ll]
 refine j8r (l:=l) (by omega) l.length 0 (by omega) w r (by omega) (fun hj ns' x2 x4 w' m'=>?_)
 simp(disch:=first|omega|rfl) only[go_sem]
 exact⟨ns',w',m'⟩
theorem wsb (f:WrF F) (w:WrS h p ws ns) {l:List Nat} {ty:Nat} (hw:ws.length+l.length<=50000):WC F 29 [.s (.ptr p 0),.s (.slice h.next 0 l.length l.length true 1)] (h.push (.arr (l.map (fun n:Nat=>si n)) ty)) (Wrn h p ws ns (byt l)):=by
 have ok:=w.ok
 obtain⟨hA,eA,okA,nA,xA,gA⟩:=jdn ok (l.map (fun n:Nat=>si n)) ty
 rw[eA]
 have wA:=w.keep okA gA (by omega)
 have hpn:h.next∉p::ns:=fun hc=>by
  rcases f0f.1 hc with h1 | h1
  .have:=w.p1.2;omega
  .have:=w.lt _ h1;omega
 refine WC.imp (jzd f wA (l:=l) (.inr ⟨h.next,0,l.length,true,_,ty,rfl,xA,by omega,hpn,fun i n hn=>by rw[f0w,f1b,hn];rfl⟩) hw) ?_
 rintro v h' ⟨ns',w',m'⟩
 exact⟨ns',w',Mv.trans ⟨okA,by omega,fun n hn=>.inl hn,fun n hn _=>gA n hn⟩ m'⟩
theorem jze (f:WrF F) (w:WrS h p ws ns) {l:List Nat} (hw:ws.length+l.length+1<=50000):WC F 31 [.s (.ptr p 0),.s (jae jas l)] h (Wrn h p ws ns (byt (jqu l))):=by
 refine jax (f.x _ rfl _ _) ((congrFun f.t _).trans qsr) rfl ?_
 unfold qd8
 have ok:=w.ok
 have ll:=jah (enc:=jas) (l:=l)
 simp(disch:=first|omega|rfl) only[go_sem,ll]
 refine WC.imp (wsb f w (l:=[l.length]) (by simp;omega)) ?_
 rintro v hA ⟨n1,w1,m1⟩
 have ok1:=w1.ok
 simp(disch:=first|omega|rfl) only[go_sem]
 refine WC.imp (jzd f w1 (l:=l) (.inl rfl) (by simp[byt];omega)) ?_
 rintro v hB ⟨n2,w2,m2⟩
 have ok2:=w2.ok
 simp(disch:=first|omega|rfl) only[go_sem]
 exact⟨n2,by rw[show byt (jqu l)=byt [l.length]++byt l from rfl,←f0i];exact w2,m1.trans m2⟩
theorem jzf (f:WrF F) (w:WrS h p ws ns) {n:Nat} (hw:ws.length+4<=50000):WC F 30 [.s (.ptr p 0),vi n] h (Wrn h p ws ns (jcv n)):=by
 refine jax (f.x _ rfl _ _) ((congrFun f.t _).trans qsq) rfl ?_
 unfold qd7
 have ok:=w.ok
 have s1:(n:Int) / 2 ^ 24=((n / 16777216:Nat):Int):=by omega
 have s2:(n:Int) / 2 ^ 16=((n / 65536:Nat):Int):=by omega
 have s3:(n:Int) / 2 ^ 8=((n / 256:Nat):Int):=by omega
 simp(disch:=first|omega|rfl) only[go_sem,s1,s2,s3]
 refine WC.imp (wsb f w (l:=[n / 16777216,n / 65536,n / 256,n]) (by simp;omega)) ?_
 rintro v hA ⟨n1,w1,m1⟩
 have ok1:=w1.ok
 simp(disch:=first|omega|rfl) only[go_sem]
 exact⟨n1,w1,m1⟩
end
theorem Mv.low {h h':Hp} (ok:Ok h') (hn:h.next<=h'.next) (g:∀ n,n<h.next->h'.get n=h.get n) (ns:List Nat):Mv h h' ns ns:=⟨ok,hn,fun n hm=>.inl hm,fun n hn _=>g n hn⟩
theorem qeb {F:Fns} (f:WrF F) {l:List Ms.Opd} (hl:l.length<=10000) (hok:∀ o∈l,OkO o) {p:Nat} {x2 x3 x4 x5 x6:AV} :
 ∀ (d i:Nat) (_:i+d=l.length) {hi:Hp} {ws ns:List Nat} (_:WrS hi p ws ns) (_:ws.length+3*d<=40000) {x7 x8 x9 x11:AV}
  (hQ:∀ hj ns' x7 x8 x9 x11,WrS hj p (ws++byt ((l.drop i).map j3z).flatten) ns'->Mv hi hj (p::ns) (p::ns')->Q (.exit 0) (.mk [.s (.ptr p 0),x1,x2,x3,x4,x5,x6,x7,x8,x9,.s (jae jbg l),x11,vi l.length,vi l.length,x14] hj)),
  W F jp7.loop (.mk [.s (.ptr p 0),x1,x2,x3,x4,x5,x6,x7,x8,x9,.s (jae jbg l),x11,vi l.length,vi i,x14] hi) Q
 | 0,i,hd,hi,ws,ns,w,hw,x7,x8,x9,x11,hQ=>by
  obtain rfl:i=l.length:=by omega
  rw[jag]
  unfold jp7
  have ok:=w.ok
  simp(disch:=first|omega|rfl) only[go_sem,f0q]
  exact hQ hi ns _ _ _ _ (by rw[f2z];simpa[byt] using w) (Mv.refl ok)
 | d+1,i,hd,hi,ws,ns,w,hw,x7,x8,x9,x11,hQ=>by
  have hil:i<l.length:=by omega
  have hlt:(i:Int)<(l.length:Int):=by omega
  have hss:(i:Int)+1=((i+1:Nat):Int):=by omega
  obtain⟨o,ho⟩:∃ n,l[i]?=some n:=⟨_,f0b hil⟩
  have hdr:l.drop i=o::l.drop (i+1):=by rw[f08 hil,(f00.1 ho).2]
  have hix:=jai (enc:=jbg) (size:=5) ho rfl
  obtain⟨hk,hlim,hv,hn⟩:=hok o (f0c ho)
  have ok:=w.ok
  obtain⟨hA,eA,okA,nA,xA,gA⟩:=jbt ok [.int .i64 0,.int .i64 0,.bool false,.int .i64 0,.int .i64 0] (jbg o) 94
  have wA:=w.keep okA gA (by omega)
  have s1:(o.kind:Int)+8*(o.limit:Int)=((o.kind+8*o.limit:Nat):Int):=by omega
  have s2:(o.kind:Int)+(4+8*(o.limit:Int))=((o.kind+4+8*o.limit:Nat):Int):=by omega
  unfold jbg at xA eA
  rw[jag]
  unfold jp7 j8k j8j
  have go:∀ {v:AV} {hB:Hp},Wrn hA p ws ns (byt (j3z o)) v hB->∃ n1,WrS hB p (ws++byt (j3z o)) n1/\Mv hi hB (p::ns) (p::n1):=fun⟨n1,w1,m1⟩=>⟨n1,w1,(Mv.low okA (by omega) gA _).trans m1⟩
  have fin:∀ {hB:Hp} {n1:List Nat} {x7 x8 x9 x11:AV},WrS hB p (ws++byt (j3z o)) n1->Mv hi hB (p::ns) (p::n1)->W F jp7.loop (.mk [.s (.ptr p 0),x1,x2,x3,x4,x5,x6,x7,x8,x9,.s (jae jbg l),x11,vi l.length,vi ((i+1:Nat):Int),x14] hB) Q:=fun {hB n1 x7 x8 x9 x11} w1 m1 =>
   qeb f hl hok d (i+1) (by omega) w1 (by rw[f0j,jfc];show ws.length+3+3*d<=40000;omega) (fun hj ns' x7 x8 x9 x11 w' m'=>hQ hj ns' x7 x8 x9 x11 (by rw[hdr,f1c,f03,jfb,←f0i];exact w') (m1.trans m'))
  cases el:o.late with
  | false =>
   rw[el] at xA eA
   simp(disch:=first|omega|rfl) only[go_sem,jad,eq_true hlt,hix,jbg,el,eA,xA,s1]
   refine WC.imp (wsb f wA (l:=[o.kind+8*o.limit,o.value,o.n]) (by simp;omega)) ?_
   rintro v hB hW
   obtain⟨n1,w1,m1⟩:=go (v:=v) (hB:=hB) (by unfold j3z;rw[el];exact hW)
   have okB:=w1.ok
   simp(disch:=first|omega|rfl) only[go_sem,jad,hss]
   exact fin w1 m1
  | true =>
   rw[el] at xA eA
   simp(disch:=first|omega|rfl) only[go_sem,jad,eq_true hlt,hix,jbg,el,eA,xA,s2]
   refine WC.imp (wsb f wA (l:=[o.kind+4+8*o.limit,o.value,o.n]) (by simp;omega)) ?_
   rintro v hB hW
   obtain⟨n1,w1,m1⟩:=go (v:=v) (hB:=hB) (by unfold j3z;rw[el];exact hW)
   have okB:=w1.ok
   simp(disch:=first|omega|rfl) only[go_sem,jad,hss]
   exact fin w1 m1
theorem qec {F:Fns} (f:WrF F) {l:List (Nat×Nat)} (hl:l.length<=10000) (hok:∀ r∈l,r.1<2/\r.2<16) {p:Nat} {x7 x8 x9 x10 x11 x12 x13:AV} :
 ∀ (d i:Nat) (_:i+d=l.length) {hi:Hp} {ws ns:List Nat} (_:WrS hi p ws ns) (_:ws.length+d<=40000) {x2 x4:AV}
  (hQ:∀ hj ns' x2 x4,WrS hj p (ws++byt ((l.drop i).map jxg)) ns'->Mv hi hj (p::ns) (p::ns')->Q (.exit 2) (.mk [.s (.ptr p 0),x1,x2,.s (jae jc7 l),x4,vi l.length,vi l.length,x7,x8,x9,x10,x11,x12,x13,x14] hj)),
  W F jun.loop (.mk [.s (.ptr p 0),x1,x2,.s (jae jc7 l),x4,vi l.length,vi i,x7,x8,x9,x10,x11,x12,x13,x14] hi) Q
 | 0,i,hd,hi,ws,ns,w,hw,x2,x4,hQ=>by
  obtain rfl:i=l.length:=by omega
  rw[jag]
  unfold jun
  have ok:=w.ok
  simp(disch:=first|omega|rfl) only[go_sem,f0q]
  exact hQ hi ns _ _ (by rw[f2z];simpa[byt] using w) (Mv.refl ok)
 | d+1,i,hd,hi,ws,ns,w,hw,x2,x4,hQ=>by
  have hil:i<l.length:=by omega
  have hlt:(i:Int)<(l.length:Int):=by omega
  have hss:(i:Int)+1=((i+1:Nat):Int):=by omega
  obtain⟨r,hr⟩:∃ n,l[i]?=some n:=⟨_,f0b hil⟩
  have hdr:l.drop i=r::l.drop (i+1):=by rw[f08 hil,(f00.1 hr).2]
  have hix:=jai (enc:=jc7) (size:=2) hr rfl
  obtain⟨hc,hn⟩:=hok r (f0c hr)
  have ok:=w.ok
  obtain⟨hA,eA,okA,nA,xA,gA⟩:=jbt ok [.int .i64 0,.int .i64 0] (jc7 r) 116
  have wA:=w.keep okA gA (by omega)
  have s1:16*(r.1:Int)+(r.2:Int)=((jxg r:Nat):Int):=by unfold jxg;omega
  unfold jc7 at xA eA
  rw[jag]
  unfold jun j8l
  simp(disch:=first|omega|rfl) only[go_sem,jad,eq_true hlt,hix,jc7,eA,xA,s1]
  refine WC.imp (wsb f wA (l:=[jxg r]) (by simp;omega)) ?_
  rintro v hB ⟨n1,w1,m1⟩
  have okB:=w1.ok
  simp(disch:=first|omega|rfl) only[go_sem,jad,hss]
  exact qec f hl hok d (i+1) (by omega) w1 (by rw[f0j,jfc];show ws.length+1+d<=40000;omega) (fun hj ns' x2 x4 w' m'=>hQ hj ns' x2 x4 (by rw[hdr,f1c,show jxg r::(l.drop (i+1)).map jxg=[jxg r]++(l.drop (i+1)).map jxg from rfl,jfb,←f0i];exact w') ((Mv.low okA (by omega) gA _).trans (m1.trans m')))
theorem qis {F:Fns} (f:WrF F) {h:Hp} {p:Nat} {ws ns:List Nat} (w:WrS h p ws ns) {x:Ms.Ins} (k:OkI x) (hw:ws.length+2000<=40000):WC F 32 [.s (.ptr p 0),.agg (jdx x)] h (Wrn h p ws ns (byt (jh9 x))):=by
 refine jax (f.x _ rfl _ _) ((congrFun f.t _).trans qss) rfl ?_
 unfold qd9
 have ok:=w.ok
 have hno:=k.nops
 have hns:=k.nsp
 obtain⟨hA,eA,okA,nA,xA,gA⟩:=jdn ok (jdx x) 81
 have wA:=w.keep okA gA (by omega)
 have l1:=jah (enc:=jbg) (l:=x.ops)
 have l2:=jah (enc:=jc7) (l:=x.spoils)
 unfold jdx at xA eA
 simp(disch:=first|omega|rfl) only[go_sem,jdx,eA,xA,l1,l2]
 refine WC.imp (wsb f wA (l:=[x.op,x.ops.length,x.spoils.length]) (by simp;omega)) ?_
 rintro v hB ⟨n1,w1,m1⟩
 have okB:=w1.ok
 have hA0:h.next∉p::ns:=fun hc=>by
  rcases f0f.1 hc with h1 | h1
  .have:=w.p1.2;omega
  .have:=w.lt _ h1;omega
 have hA1:h.next∉p::n1:=fun hc=>by
  rcases m1.new _ hc with h1 | h1
  .exact hA0 h1
  .omega
 have xB:=(m1.keep h.next (by omega) hA0).trans xA
 have nB:=m1.nx
 have w1l:(ws++byt [x.op,x.ops.length,x.spoils.length]).length=ws.length+3:=by rw[f0j,jfc];rfl
 simp(disch:=first|omega|rfl) only[go_sem,xB,l1]
 refine qeb f (by omega) k.ops x.ops.length 0 (by omega) w1 (by omega) (fun hC n2 x7 x8 x9 x11 w2 m2=>?_)
 have okC:=w2.ok
 have xC:=(m2.keep h.next (by omega) hA1).trans xB
 simp(disch:=first|omega|rfl) only[go_sem,xC,l2]
 have w2l:∀ q:List Ms.Opd,((q.map j3z).flatten).length=3*q.length:=fun q=>by
  induction q with
  | nil=>rfl
  | cons a q ih=>rw[f1c,f03,f0j,ih];show 3+_=3*(q.length+1);omega
 refine qec f (by omega) k.sp x.spoils.length 0 (by omega) w2 (by rw[f0j,w1l,jfc,w2l,f1v];omega) (fun hD n3 x2 x4 w3 m3=>?_)
 have okD:=w3.ok
 simp(disch:=first|omega|rfl) only[go_sem]
 refine⟨n3,?_,(Mv.low okA (by omega) gA _).trans (m1.trans (m2.trans m3))⟩
 have e:byt (jh9 x)=byt [x.op,x.ops.length,x.spoils.length]++(byt ((x.ops.map j3z).flatten)++byt (x.spoils.map jxg)):=by
  rw[←jfb,←jfb];rfl
 rw[e,←f0i,←f0i]
 exact w3
end Go.Proofs.Ythbghmhjgdonmaa.Ev
