/- Code of functions as the interpreter has it prepared, cut at loops. -/
import Derived.Test.YthbghmhjgdonmaaMc4
import Derived.Test.YthbghmhjgdonmaaVd
import Derived.Test.YthbghmhjgdonmaaSb
namespace Go.Proofs.Ythbghmhjgdonmaa.Ev
open Go Go.RowKit
set_option linter.all false
set_option maxRecDepth 100000
def jy0:IC:=.seq (.block 1 (qr [qP (.ixs 1 (.g 3) (.g 6)),qL,qT 2] (.region [qM 0,qM 0,qN,qG 0,qL,qM 2,qP (.conv .u8 qa),qA (.bslice 5 1 [.int .u8 0] 1 [(0,(1,qa))]),qA (.app 5 1 1 qd qa),qP (.nchk (.l 8)),qG 0,qA (.store 1 qa qc)]))) (.region [qI 6,qT 6])
def jo7:IC:=qr [qQ 4 (.bin .lt (.g 6) (.g 5))] (.seq (qX 4 0) jy0)
def j1t:IC:=qr [qQ 3 (.mv (.g 1)),qQ 5 (.len qa),qQ 6 (.mv (qC 0))] (.block 0 (.loop jo7))
theorem j75:T 29=some (.mk j1t 2 5 []):=by kernel_rfl
def j1u:IC:=.region [qM 0,qM 1,qP (.bin .shr qa (.c (.s (.int .u64 24)))),qM 1,qP (.bin .shr qa (.c (.s (.int .u64 16)))),qM 1,qP (.bin .shr qa (.c (.s (.int .u64 8)))),qM 1,qA (.bslice 3 1 [.int .i64 0,.int .i64 0,.int .i64 0,.int .i64 0] 4 [(0,(1,.l 5)),(1,(1,qd)),(2,(1,qb)),(3,(1,qa))]),qA (.call 29 [.l 8,qa])]
theorem j76:T 30=some (.mk j1u 2 0 []):=by kernel_rfl
def j1v:IC:=qr [qM 0,qM 1,qP (.len qa),qA (.bslice 3 1 [.int .i64 0] 1 [(0,(1,qa))]),qA (.call 29 [qd,qa])] (.region [qM 0,qM 1,qA (.call 29 [qb,qa])])
theorem j77:T 31=some (.mk j1v 2 0 []):=by kernel_rfl
def jy1:IC:=.region [qM 0,qM 7,qF 3 9,qL,qP (.bin .mul (qC 8) qa),qP (.bin .add qd qa),qF 1 9,qL,qF 4 9,qL,qA (.bslice 3 1 [.int .i64 0,.int .i64 0,.int .i64 0] 3 [(0,(1,.l 4)),(1,(1,qc)),(2,(1,qa))]),qA (.call 29 [.l 10,qa])]
def jy2:IC:=.seq (.block 1 (qr [qP (.ixs 5 (.g 10) (.g 13)),qK 5,qB 9 (.new 94 [.int .i64 0,.int .i64 0,.bool false,.int .i64 0,.int .i64 0]),qA (.store 5 qa qb)] (qr [qF 0 9,qL,qT 7] (.seq (qr [qF 2 9,qB 8 (.load 1 false qa)] (.cond (.g 8) (.region [qM 7,qP (.bin .add qa (qC 4)),qT 7]) .skip)) jy1)))) (.region [qI 13,qT 13])
def jlu:IC:=qr [qQ 11 (.bin .lt (.g 13) (.g 12))] (.seq (qX 11 0) jy2)
def jy3:IC:=.seq (.block 3 (qr [qP (.ixs 2 (.g 3) (.g 6)),qK 2,qB 2 (.new 116 [.int .i64 0,.int .i64 0]),qA (.store 2 qa qb)] (.region [qM 0,qF 0 2,qL,qP (.bin .mul (qC 16) qa),qF 1 2,qL,qP (.bin .add qc qa),qA (.bslice 3 1 [.int .i64 0] 1 [(0,(1,qa))]),qA (.call 29 [.l 7,qa])]))) (.region [qI 6,qT 6])
def jo8:IC:=qr [qQ 4 (.bin .lt (.g 6) (.g 5))] (.seq (qX 4 2) jy3)
def j1w:IC:=qr [qB 14 (.box 81 (.g 1))] (qr [qM 0,qF 0 14,qL,qF 1 14,qL,qP (.len qa),qF 2 14,qL,qP (.len qa),qA (.bslice 3 1 [.int .i64 0,.int .i64 0,.int .i64 0] 3 [(0,(1,.l 6)),(1,(1,qd)),(2,(1,qa))]),qA (.call 29 [.l 9,qa])] (.seq (qr [qF 1 14,qB 10 (.load 1 false qa),qQ 12 (.len qa),qQ 13 (.mv (qC 0))] (.block 0 (.loop jlu))) (qr [qF 2 14,qB 3 (.load 1 false qa),qQ 5 (.len qa),qQ 6 (.mv (qC 0))] (.block 2 (.loop jo8)))))
theorem j78:T 32=some (.mk j1w 2 13 []):=by kernel_rfl
def jty:IC:=.seq (.block 1 (qr [qP (.ixs 1 (.g 19) (.g 22)),qL,qT 18] (.region [qM 23,qM 18,qA (.call 30 [qb,qa])]))) (.region [qI 22,qT 22])
def jja:IC:=qr [qQ 20 (.bin .lt (.g 22) (.g 21))] (.seq (qX 20 0) jty)
def jtz:IC:=.seq (.block 5 (qr [qP (.ixs 3 (.g 9) (.g 12)),qK 3,qB 8 (.new 81 [.int .i64 0,.nilSlice,.nilSlice]),qA (.store 3 qa qb)] (.region [qM 23,qA (.load 3 true (.g 8)),qA (.call 32 [qb,qa])]))) (.region [qI 12,qT 12])
def jjb:IC:=qr [qQ 10 (.bin .lt (.g 12) (.g 11))] (.seq (qX 10 4) jtz)
def jt0:IC:=.seq (.block 7 (qr [qP (.ixs 2 (.g 4) (.g 7)),qK 2,qB 3 (.new 68 [.int .i64 0,.nilSlice]),qA (.store 2 qa qb)] (qr [qM 23,qF 0 3,qL,qA (.bslice 3 1 [.int .i64 0] 1 [(0,(1,qa))]),qA (.call 29 [qd,qa])] (.region [qM 23,qF 1 3,qL,qA (.call 31 [qc,qa])])))) (.region [qI 7,qT 7])
def jjc:IC:=qr [qQ 5 (.bin .lt (.g 7) (.g 6))] (.seq (qX 5 6) jt0)
def jt1:IC:=.seq (.block 3 (qr [qP (.ixs 3 (.g 14) (.g 17)),qK 3,qB 13 (.new 36 [.nilSlice,.nilSlice,.nilSlice]),qA (.store 3 qa qb)] (qr [qM 23,qF 0 13,qL,qA (.call 31 [qc,qa])] (qr [qM 23,qF 1 13,qL,qP (.len qa),qA (.bslice 3 1 [.int .i64 0] 1 [(0,(1,qa))]),qA (.call 29 [.l 4,qa])] (.seq (qr [qF 1 13,qB 9 (.load 1 false qa),qQ 11 (.len qa),qQ 12 (.mv (qC 0))] (.block 4 (.loop jjb))) (qr [qM 23,qF 2 13,qL,qP (.len qa),qA (.bslice 3 1 [.int .i64 0] 1 [(0,(1,qa))]),qA (.call 29 [.l 4,qa])] (qr [qF 2 13,qB 4 (.load 1 false qa),qQ 6 (.len qa),qQ 7 (.mv (qC 0))] (.block 6 (.loop jjc))))))))) (.region [qI 17,qT 17])
def jjd:IC:=qr [qQ 15 (.bin .lt (.g 17) (.g 16))] (.seq (qX 15 2) jt1)
def jt2:IC:=qr [qP (.build [.nilSlice] []),qA (.box 74 qa),qT 23] (qr [qM 23,qF 0 26,qG 0,qA (.slicea 2 1 qa),qA (.call 29 [qd,qa])] (qr [qM 23,qF 4 26,qL,qA (.call 30 [qc,qa])] (qr [qM 23,qF 5 26,qL,qA (.call 30 [qc,qa])] (qr [qM 23,qF 6 26,qL,qP (.len qa),qA (.bslice 3 1 [.int .i64 0] 1 [(0,(1,qa))]),qA (.call 29 [.l 4,qa])] (.seq (qr [qF 6 26,qB 19 (.load 1 false qa),qQ 21 (.len qa),qQ 22 (.mv (qC 0))] (.block 0 (.loop jja))) (qr [qM 23,qF 2 26,qG 0,qL,qA (.call 31 [qd,qa])] (qr [qM 23,qF 2 26,qG 1,qL,qP (.len qa),qA (.bslice 3 1 [.int .i64 0] 1 [(0,(1,qa))]),qA (.call 29 [.l 5,qa])] (.seq (qr [qF 2 26,qG 1,qB 14 (.load 1 false qa),qQ 16 (.len qa),qQ 17 (.mv (qC 0))] (.block 2 (.loop jjd))) (qr [qM 23,qN,qG 0,qL,qT 2,qQ 1 (.mv (qC 0))] .ret)))))))))
def jy4:IC:=qr [qB 26 (.box 45 (.g 0)),qQ 2 (.mv (.c (.s .nilSlice))),qQ 1 (.mv (qC 0))] (.seq (qr [qA (.load 7 true (.g 26)),qA (.call 28 [qa]),qT 25] (qr [qM 25,qQ 24 (.bin .ne qa (qC 0))] (.cond (.g 24) (qr [qM 25,qQ 2 (.mv (.c (.s .nilSlice))),qQ 1 (.mv qb)] .ret) .skip))) jt2)
theorem j59:T 13=some (.mk jy4 1 26 [(.tmp 2),(.tmp 1)]):=by kernel_rfl
end Go.Proofs.Ythbghmhjgdonmaa.Ev
namespace Go.Proofs.Ythbghmhjgdonmaa.Ms
set_option linter.all false
abbrev Rd:=List Nat×Bool
def smF (r:Rd):Nat×Rd :=
 match r.1 with
 | []=>(0,([],true))
 | b::l=>(b,(l,r.2))
def j9l {α β:Type} (P:Rd->α×Rd) (f:α->β) (r:Rd):β×Rd:=(f (P r).1,(P r).2)
structure Scr where
 m1:Nat
 m2:Nat
 seed:Nat
 steps:Nat
 junk:List Nat
 f:Fc
def j6a {α:Type} (P:Rd->α×Rd):Prop:=∀ l s,(P (l,s)).2.2=false->s=false/\∀ t,P (l++t,false)=((P (l,s)).1,((P (l,s)).2.1++t,false))
theorem j6a.sm:j6a smF:=by
 intro l s h
 cases l with
 | nil=>cases h
 | cons b l=>obtain rfl:s=false:=h;exact⟨rfl,fun t=>rfl⟩
theorem j6a.map {α β:Type} {P:Rd->α×Rd} {f:α->β} (hP:j6a P):j6a (j9l P f):=by
 intro l s h
 obtain⟨rfl,h2⟩:=hP l s h
 refine⟨rfl,fun t=>?_⟩
 show(f (P (l++t,false)).1,(P (l++t,false)).2)=_
 rw[h2 t]
 rfl
def jbo (n:Nat):List Nat:=[n / 16777216 % 256,n / 65536 % 256,n / 256 % 256,n % 256]
def jqq (l:List Nat):List Nat:=l.length::l
def j02 (o:Opd):List Nat:=[o.kind+(if o.late=true then 4 else 0)+8*o.limit,o.value,o.n]
def jy5 (r:Nat×Nat):Nat:=16*r.1+r.2
def jlv (x:Ins):List Nat:=[x.op,x.ops.length,x.spoils.length]++((x.ops.map j02).flatten++x.spoils.map jy5)
def jsr (e:Edg):List Nat:=e.block::jqq e.args
def jy6 (b:Blk):List Nat:=jqq b.params++(b.instrs.length::((b.instrs.map jlv).flatten++(b.edges.length::(b.edges.map jsr).flatten)))
def jvd (s:Scr):List Nat:=[s.m1,s.m2]++(jbo s.seed++(jbo s.steps++(s.junk.length::((s.junk.map jbo).flatten++(jqq s.f.values++(s.f.blocks.length::(s.f.blocks.map jy6).flatten))))))
structure OkO (o:Opd):Prop where
 k:o.kind=1∨o.kind=2
 l:o.limit<=5
 v:o.value<256
 n:o.n<256
structure OkI (x:Ins):Prop where
 op:x.op<256
 nops:x.ops.length<256
 nsp:x.spoils.length<256
 ops:∀ o∈x.ops,OkO o
 sp:∀ r∈x.spoils,r.1<2/\r.2<16
structure OkB (b:Blk):Prop where
 np:b.params.length<256
 p:∀ v∈b.params,v<256
 ni:b.instrs.length<256
 i:∀ x∈b.instrs,OkI x
 ne:b.edges.length<256
 e:∀ e∈b.edges,e.block<256/\e.args.length<256/\∀ v∈e.args,v<256
structure OkS (s:Scr):Prop where
 m1:s.m1<256
 m2:s.m2<256
 sd:s.seed<4294967296
 st:s.steps<4294967296
 nj:s.junk.length<256
 j:∀ n∈s.junk,n<4294967296
 nv:s.f.values.length<256
 v:∀ v∈s.f.values,v<256
 nb:s.f.blocks.length<256
 b:∀ b∈s.f.blocks,OkB b
theorem jlw {α:Type} {B:α->List Nat} {l:List α} (h:∀ a∈l,∀ q∈B a,q<256):∀ q∈(l.map B).flatten,q<256:=fun q hq=>by
 obtain⟨s,hs,hq⟩:=List.mem_flatten.1 hq
 obtain⟨a,ha,rfl⟩:=List.mem_map.1 hs
 exact h a ha q hq
theorem jg4 {a b:List Nat} (h1:∀ q∈a,q<256) (h2:∀ q∈b,q<256):∀ q∈a++b,q<256:=fun q hq=>(f0i.1 hq).elim (h1 q) (h2 q)
theorem ja0 {a:Nat} {b:List Nat} (h1:a<256) (h2:∀ q∈b,q<256):∀ q∈a::b,q<256:=fun q hq=>(f0m.1 hq).elim (fun e=>e▸h1) (h2 q)
theorem jt3:∀ q∈([]:List Nat),q<256:=by simp
theorem jss (n:Nat):∀ q∈jbo n,q<256:=ja0 (Nat.mod_lt _ (by omega)) (ja0 (Nat.mod_lt _ (by omega)) (ja0 (Nat.mod_lt _ (by omega)) (ja0 (Nat.mod_lt _ (by omega)) jt3)))
theorem j6b {s:Scr} (k:OkS s):∀ q∈jvd s,q<256:=by
 refine jg4 (ja0 k.m1 (ja0 k.m2 jt3)) (jg4 (jss _) (jg4 (jss _) (ja0 k.nj (jg4 (jlw (fun n _=>jss n)) (jg4 (ja0 k.nv k.v) (ja0 k.nb (jlw (fun b hb=>?_))))))))
 have kb:=k.b b hb
 refine jg4 (ja0 kb.np kb.p) (ja0 kb.ni (jg4 (jlw (fun x hx=>?_)) (ja0 kb.ne (jlw (fun e he=>?_)))))
 .have ki:=kb.i x hx
  refine jg4 (ja0 ki.op (ja0 ki.nops (ja0 ki.nsp jt3))) (jg4 (jlw (fun o ho=>?_)) (fun q hq=>?_))
  .have ko:=ki.ops o ho
   refine ja0 ?_ (ja0 ko.v (ja0 ko.n jt3))
   have:=ko.k
   have:=ko.l
   cases o.late<;>simp<;>omega
  .obtain ⟨r,hr,rfl⟩:=List.mem_map.1 hq
   have:=ki.sp r hr
   unfold jy5;omega
 .obtain ⟨h1,h2,h3⟩:=kb.e e he
  exact ja0 h1 (ja0 h2 h3)
end Go.Proofs.Ythbghmhjgdonmaa.Ms
namespace Go.Proofs.Ythbghmhjgdonmaa.Ev
open Go Go.RowKit Go.Proofs.Ythbghmhjgdonmaa.Ms
attribute [local go_sem] Int.reduceToNat reduceCtorEq Nat.reduceAdd Nat.reduceMul Nat.reduceEqDiff Int.reduceEq Int.reduceLT Int.reduceLE Int.reduceNeg Int.reduceAdd Int.reduceSub Int.reduceMul Int.reduceNe
attribute [local go_sem ↓] reduceIte
set_option linter.all false
set_option maxRecDepth 100000
set_option maxHeartbeats 2000000
variable {x1 x14:AV} {Q:Ex->St->Prop} {xl:SV}
def EY (row:List SV) (n:Nat) (ns:List Nat):Prop:=row=[.int .u8 n]/\ns=[]
structure WrS (h:Hp) (p:Nat) (l:List Nat) (ns:List Nat):Prop where
 ok:Ok h
 ex:∃ x,h.get p=some (.arr [x] 74)/\Sl h 5 1 false EY x l ns
 p1:1<=p/\p<h.next
 pn:p∉ns
 lt:∀ n∈ns,1<=n/\n<h.next
section
variable {h h':Hp} {p:Nat} {l:List Nat} {ns:List Nat}
theorem WrS.keep (w:WrS h p l ns) (ok':Ok h') (hk:∀ n,n<h.next->h'.get n=h.get n) (hn:h.next<=h'.next):WrS h' p l ns:=by
 obtain⟨x,h1,h2⟩:=w.ex
 exact⟨ok',⟨x,(hk p w.p1.2).trans h1,h2.keep (fun n hm=>hk n (w.lt n hm).2)⟩,⟨w.p1.1,by have:=w.p1.2;omega⟩,w.pn,fun n hm=>by have:=w.lt n hm;omega⟩
theorem WrS.put (w:WrS h p l ns) (hl:l.length<=100000) (v:Nat):∃ x x' hM hN ns',h.get p=some (.arr [x] 74)/\jzm (h.push (.arr [.int .u8 v] 5)) 5 1 1 (.s x) (.s (.slice h.next 0 1 1 true 1))=some (.s x',hM)/\Ok hM/\hM.get p=some (.arr [x] 74) /\
 hM.put p (some (.arr [x'] 74))=hN/\Ok hN/\WrS hN p (l++[v]) ns'/\Mv h hN (p::ns) (p::ns'):=by
 obtain⟨x,h1,h2⟩:=w.ex
 have ok:=w.ok
 obtain⟨hp1,hp2⟩:=w.p1
 obtain⟨hM,e1,okM,nM,kM,_,sM⟩:=h2.app1 (bytes:=1) (row:=[.int .u8 (v:Int)]) (a:=v) (ms:=[]) ok w.lt rfl ⟨rfl,rfl⟩ (by omega) (by omega)
 have xM:=(kM p hp2 w.pn).trans h1
 have okN:Ok (hM.put p (some (.arr [.slice (h.next+1) 0 (l.length+1) (l.length+1) false 1] 74))):=jed okM
 have nN:(hM.put p (some (.arr [.slice (h.next+1) 0 (l.length+1) (l.length+1) false 1] 74))).next=h.next+2:=by rw[Hp.next_put,nM]
 have gN:∀ n,n≠p->(hM.put p (some (.arr [.slice (h.next+1) 0 (l.length+1) (l.length+1) false 1] 74))).get n=hM.get n:=fun n hn=>by rw[jbk okM hp1,if_neg hn]
 have tl:∀ n∈ns.tail,n∈ns:=fun n hn=>f1e hn
 have pt:p∉(h.next+1)::(ns.tail++[]):=fun hc=>by
  rcases f0m.1 hc with h3 | h3
  .omega
  .exact w.pn (tl p (by simpa using h3))
 refine⟨x,_,hM,_,(h.next+1)::(ns.tail++[]),h1,e1,okM,xM,rfl,okN,⟨okN,⟨_,by rw[jbk okM hp1,if_pos rfl],(sM (E':=EY) (fun _ _ _ _ e=>e)).keep (fun n hn=>gN n (fun e=>pt (e▸hn)))⟩,⟨hp1,by rw[nN];omega⟩,pt,fun n hn=>?_⟩,⟨okN,by rw[nN];omega,fun n hn=>?_,fun n hn hm=>?_⟩⟩
 .rw [nN]
  rcases f0m.1 hn with rfl | hn
  .omega
  .have:=w.lt n (tl n (by simpa using hn));omega
 .rcases f0m.1 hn with rfl | hn
  .exact .inl (by simp)
  .rcases f0m.1 hn with rfl | hn
   .exact .inr (by omega)
   .exact .inl (f1d _ (tl n (by simpa using hn)))
 .rw [gN n (fun e=>hm (by simp[e]))]
  exact kM n hn (fun hc=>hm (f1d _ hc))
end
def RdL (h:Hp) (xl:SV) (l:List Nat) (own:List Nat):Prop:=xl=jb6 jfn l∨∃ b o mc ex cells ty,xl=.slice b o l.length mc ex 1/\h.get b=some (.arr cells ty)/\b<h.next/\b∉own/\∀ (i n:Nat),l[i]?=some n->cells[o+i]?=some (si n)
theorem RdL.len {h:Hp} {l own:List Nat} (r:RdL h xl l own):jqp (.s xl)=some (vi l.length):=by
 rcases r with rfl | ⟨b,o,mc,ex,cells,ty,rfl,_⟩
 .exact jb5
 .rfl
theorem RdL.mv {h h':Hp} {l own own':List Nat} (r:RdL h xl l own) (m:Mv h h' own own'):RdL h' xl l own':=by
 rcases r with rfl | ⟨b,o,mc,ex,cells,ty,rfl,h1,h2,h3,h4⟩
 .exact .inl rfl
 .exact .inr ⟨b,o,mc,ex,cells,ty,rfl,(m.keep b h2 h3).trans h1,f0j h2 m.nx,fun hc=>by
   rcases m.new b hc with h5 | h5
   .exact h3 h5
   .omega,h4⟩
theorem jy7 (n:Nat):jve .u8 (n:Int)=some (.s (.int .u8 ((n % 256:Nat):Int))):=by
 show oif (Nat.ble n 255) (some (AV.s (.int .u8 (n:Int)))) (some (AV.s (.int .u8 ((n % 256:Nat):Int))))=_
 rw[jaf]
 split
 .rename_i h
  rw[f10 (by have:=f0b h;omega)]
 .rfl
theorem jy8 {F:Fns} {l:List Nat} (hl:l.length<=50000) {p:Nat} :
 ∀ (d i:Nat) (_:i+d=l.length) {hi:Hp} {ws ns:List Nat} (_:WrS hi p ws ns) (_:RdL hi xl l (p::ns)) (_:ws.length+d<=100000) {x2 x4:AV}
  (hQ:∀ hj ns' x2 x4,WrS hj p (ws++(l.drop i).map (fun n=>n % 256)) ns'->Mv hi hj (p::ns) (p::ns')->Q (.exit 0) (.mk [.s (.ptr p 0),x1,x2,.s xl,x4,vi l.length,vi l.length] hj)),
  W F jo7.loop (.mk [.s (.ptr p 0),x1,x2,.s xl,x4,vi l.length,vi i] hi) Q
 | 0,i,hd,hi,ws,ns,w,r,hw,x2,x4,hQ=>by
  obtain rfl:i=l.length:=by omega
  rw[jck]
  unfold jo7
  have ok:=w.ok
  simp(disch:=first|omega|rfl) only[go_sem,f2e]
  exact hQ hi ns _ _ (by rw[f14];simpa using w) (Mv.refl ok)
 | d+1,i,hd,hi,ws,ns,w,r,hw,x2,x4,hQ=>by
  have hil:i<l.length:=by omega
  have hlt:(i:Int)<(l.length:Int):=by omega
  have hss:(i:Int)+1=((i+1:Nat):Int):=by omega
  obtain⟨n,hn⟩:∃ n,l[i]?=some n:=⟨_,f0f hil⟩
  have hdr:l.drop i=n::l.drop (i+1):=by rw[f0w hil,(f0r.1 hn).2]
  have ok:=w.ok
  obtain⟨x,x',hM,hN,ns',t1,t2,okM,t3,t4,okN,wN,mN⟩:=w.put (by omega) (n % 256)
  have rN:=r.mv mN
  have hQ':∀ hj ns'' x2 x4,WrS hj p ((ws++[n % 256])++(l.drop (i+1)).map (fun n=>n % 256)) ns''->Mv hN hj (p::ns') (p::ns'')->Q (.exit 0) (.mk [.s (.ptr p 0),x1,x2,.s xl,x4,vi l.length,vi l.length] hj):=fun hj ns'' x2 x4 w' m' =>
   hQ hj ns'' x2 x4 (by rw[hdr];simpa[f0l] using w') (mN.trans m')
  have hrow:hi.push (.arr [.int .u8 ((n % 256:Nat):Int)] 5)=hi.push (.arr [.int .u8 ((n % 256:Nat):Int)] 5):=rfl
  rw[jck]
  unfold jo7 jy0
  rcases r with hxl | ⟨b,o,mc,ex,cells,ty,hxl,r1,r2,r3,r4⟩
  .have hix:jts 1 (.s xl) (vi (i:Int))=some (.s (.cp (jfn n))):=by rw[hxl];exact jc4 (enc:=jfn) (size:=1) hn rfl
   simp(disch:=first|omega|rfl) only[go_sem,jbx,eq_true hlt,hix,jfn,t1,jy7,t2,t3,t4,hss]
   exact jy8 hl d (i+1) (by omega) wN rN (by simp;omega) hQ'
  .have hix:jts 1 (.s xl) (vi (i:Int))=some (.s (.ptr b (o+i*1))):=by rw[hxl];exact jcd hil
   have hrd:rdB (hi.get b) (o+i*1) 1=some [si n]:=by rw[r1];exact j58 (by rw[Nat.mul_one];exact r4 i n hn)
   simp(disch:=first|omega|rfl) only[go_sem,jbx,eq_true hlt,hix,hrd,t1,jy7,t2,t3,t4,hss]
   exact jy8 hl d (i+1) (by omega) wN rN (by simp;omega) hQ'
def Wf (f:FuncId):Bool:=Nat.beq f 29||(Nat.beq f 30||(Nat.beq f 31||(Nat.beq f 32||Nat.beq f 13)))
structure WrF (F:Fns):Prop where
 x:∀ f,Wf f=true->∀ vs h,jgw F f vs h=none
 t:jz6 F=T
def byt (l:List Nat):List Nat:=l.map (fun n=>n % 256)
theorem jc7 (a b:List Nat):byt (a++b)=byt a++byt b:=List.map_append ..
theorem jc8 (a:List Nat):(byt a).length=a.length:=f2k ..
theorem jy9:∀ {l:List Nat},(∀ n∈l,n<256)->byt l=l
 | [],_=>rfl
 | n::l,h=>by
  show n % 256::byt l=_
  rw[f10 (h n (by simp)),jy9 (fun m hm=>h m (by simp[hm]))]
section
variable {F:Fns} {h:Hp} {p:Nat} {ws ns:List Nat}
def Wrn (h:Hp) (p:Nat) (ws ns l:List Nat):AV->Hp->Prop:=fun _ h'=>∃ ns',WrS h' p (ws++l) ns'/\Mv h h' (p::ns) (p::ns')
theorem jst (f:WrF F) (w:WrS h p ws ns) {l:List Nat} (r:RdL h xl l (p::ns)) (hw:ws.length+l.length<=50000):WC F 29 [.s (.ptr p 0),.s xl] h (Wrn h p ws ns (byt l)):=by
 refine jin (f.x _ rfl _ _) ((congrFun f.t _).trans j75) rfl ?_
 unfold j1t
 have ok:=w.ok
 have ll:=r.len
 simp(disch:=first|omega|rfl) only[go_sem,ll]
 refine jy8 (l:=l) (by omega) l.length 0 (by omega) w r (by omega) (fun hj ns' x2 x4 w' m'=>?_)
 simp(disch:=first|omega|rfl) only[go_sem]
 exact⟨ns',w',m'⟩
theorem wsb (f:WrF F) (w:WrS h p ws ns) {l:List Nat} {ty:Nat} (hw:ws.length+l.length<=50000):WC F 29 [.s (.ptr p 0),.s (.slice h.next 0 l.length l.length true 1)] (h.push (.arr (l.map (fun n:Nat=>si n)) ty)) (Wrn h p ws ns (byt l)):=by
 have ok:=w.ok
 obtain⟨hA,eA,okA,nA,xA,gA⟩:=j4m ok (l.map (fun n:Nat=>si n)) ty
 rw[eA]
 have wA:=w.keep okA gA (by omega)
 have hpn:h.next∉p::ns:=fun hc=>by
  rcases f0m.1 hc with h1 | h1
  .have:=w.p1.2;omega
  .have:=w.lt _ h1;omega
 refine WC.imp (jst f wA (l:=l) (.inr ⟨h.next,0,l.length,true,_,ty,rfl,xA,by omega,hpn,fun i n hn=>by rw[f01,f2l,hn];rfl⟩) hw) ?_
 rintro v h' ⟨ns',w',m'⟩
 exact⟨ns',w',Mv.trans ⟨okA,by omega,fun n hn=>.inl hn,fun n hn _=>gA n hn⟩ m'⟩
theorem jsu (f:WrF F) (w:WrS h p ws ns) {l:List Nat} (hw:ws.length+l.length+1<=50000):WC F 31 [.s (.ptr p 0),.s (jb6 jfn l)] h (Wrn h p ws ns (byt (jqq l))):=by
 refine jin (f.x _ rfl _ _) ((congrFun f.t _).trans j77) rfl ?_
 unfold j1v
 have ok:=w.ok
 have ll:=jb5 (enc:=jfn) (l:=l)
 simp(disch:=first|omega|rfl) only[go_sem,ll]
 refine WC.imp (wsb f w (l:=[l.length]) (by simp;omega)) ?_
 rintro v hA ⟨n1,w1,m1⟩
 have ok1:=w1.ok
 simp(disch:=first|omega|rfl) only[go_sem]
 refine WC.imp (jst f w1 (l:=l) (.inl rfl) (by simp[byt];omega)) ?_
 rintro v hB ⟨n2,w2,m2⟩
 have ok2:=w2.ok
 simp(disch:=first|omega|rfl) only[go_sem]
 exact⟨n2,by rw[show byt (jqq l)=byt [l.length]++byt l from rfl,←f0l];exact w2,m1.trans m2⟩
theorem jsv (f:WrF F) (w:WrS h p ws ns) {n:Nat} (hw:ws.length+4<=50000):WC F 30 [.s (.ptr p 0),vi n] h (Wrn h p ws ns (jbo n)):=by
 refine jin (f.x _ rfl _ _) ((congrFun f.t _).trans j76) rfl ?_
 unfold j1u
 have ok:=w.ok
 have s1:(n:Int) / 2 ^ 24=((n / 16777216:Nat):Int):=by omega
 have s2:(n:Int) / 2 ^ 16=((n / 65536:Nat):Int):=by omega
 have s3:(n:Int) / 2 ^ 8=((n / 256:Nat):Int):=by omega
 simp(disch:=first|omega|rfl) only[go_sem,s1,s2,s3]
 refine WC.imp (wsb f w (l:=[n / 16777216,n / 65536,n / 256,n]) (by simp;omega)) ?_
 rintro v hA ⟨n1,w1,m1⟩
 have ok1:=w1.ok
 simp(disch:=first|omega|rfl) only[go_sem]
 exact⟨n1,w1,m1⟩
end
theorem Mv.low {h h':Hp} (ok:Ok h') (hn:h.next<=h'.next) (g:∀ n,n<h.next->h'.get n=h.get n) (ns:List Nat):Mv h h' ns ns:=⟨ok,hn,fun n hm=>.inl hm,fun n hn _=>g n hn⟩
theorem j1x {F:Fns} (f:WrF F) {l:List Ms.Opd} (hl:l.length<=10000) (hok:∀ o∈l,OkO o) {p:Nat} {x2 x3 x4 x5 x6:AV} :
 ∀ (d i:Nat) (_:i+d=l.length) {hi:Hp} {ws ns:List Nat} (_:WrS hi p ws ns) (_:ws.length+3*d<=40000) {x7 x8 x9 x11:AV}
  (hQ:∀ hj ns' x7 x8 x9 x11,WrS hj p (ws++byt ((l.drop i).map j02).flatten) ns'->Mv hi hj (p::ns) (p::ns')->Q (.exit 0) (.mk [.s (.ptr p 0),x1,x2,x3,x4,x5,x6,x7,x8,x9,.s (jb6 ju1 l),x11,vi l.length,vi l.length,x14] hj)),
  W F jlu.loop (.mk [.s (.ptr p 0),x1,x2,x3,x4,x5,x6,x7,x8,x9,.s (jb6 ju1 l),x11,vi l.length,vi i,x14] hi) Q
 | 0,i,hd,hi,ws,ns,w,hw,x7,x8,x9,x11,hQ=>by
  obtain rfl:i=l.length:=by omega
  rw[jck]
  unfold jlu
  have ok:=w.ok
  simp(disch:=first|omega|rfl) only[go_sem,f2e]
  exact hQ hi ns _ _ _ _ (by rw[f14];simpa[byt] using w) (Mv.refl ok)
 | d+1,i,hd,hi,ws,ns,w,hw,x7,x8,x9,x11,hQ=>by
  have hil:i<l.length:=by omega
  have hlt:(i:Int)<(l.length:Int):=by omega
  have hss:(i:Int)+1=((i+1:Nat):Int):=by omega
  obtain⟨o,ho⟩:∃ n,l[i]?=some n:=⟨_,f0f hil⟩
  have hdr:l.drop i=o::l.drop (i+1):=by rw[f0w hil,(f0r.1 ho).2]
  have hix:=jc4 (enc:=ju1) (size:=5) ho rfl
  obtain⟨hk,hlim,hv,hn⟩:=hok o (f0k ho)
  have ok:=w.ok
  obtain⟨hA,eA,okA,nA,xA,gA⟩:=ju9 ok [.int .i64 0,.int .i64 0,.bool false,.int .i64 0,.int .i64 0] (ju1 o) 94
  have wA:=w.keep okA gA (by omega)
  have s1:(o.kind:Int)+8*(o.limit:Int)=((o.kind+8*o.limit:Nat):Int):=by omega
  have s2:(o.kind:Int)+(4+8*(o.limit:Int))=((o.kind+4+8*o.limit:Nat):Int):=by omega
  unfold ju1 at xA eA
  rw[jck]
  unfold jlu jy2 jy1
  have go:∀ {v:AV} {hB:Hp},Wrn hA p ws ns (byt (j02 o)) v hB->∃ n1,WrS hB p (ws++byt (j02 o)) n1/\Mv hi hB (p::ns) (p::n1):=fun⟨n1,w1,m1⟩=>⟨n1,w1,(Mv.low okA (by omega) gA _).trans m1⟩
  have fin:∀ {hB:Hp} {n1:List Nat} {x7 x8 x9 x11:AV},WrS hB p (ws++byt (j02 o)) n1->Mv hi hB (p::ns) (p::n1)->W F jlu.loop (.mk [.s (.ptr p 0),x1,x2,x3,x4,x5,x6,x7,x8,x9,.s (jb6 ju1 l),x11,vi l.length,vi ((i+1:Nat):Int),x14] hB) Q:=fun {hB n1 x7 x8 x9 x11} w1 m1 =>
   j1x f hl hok d (i+1) (by omega) w1 (by rw[f0d,jc8];show ws.length+3+3*d<=40000;omega) (fun hj ns' x7 x8 x9 x11 w' m'=>hQ hj ns' x7 x8 x9 x11 (by rw[hdr,f1c,f0s,jc7,←f0l];exact w') (m1.trans m'))
  cases el:o.late with
  | false =>
   rw[el] at xA eA
   simp(disch:=first|omega|rfl) only[go_sem,jbx,eq_true hlt,hix,ju1,el,eA,xA,s1]
   refine WC.imp (wsb f wA (l:=[o.kind+8*o.limit,o.value,o.n]) (by simp;omega)) ?_
   rintro v hB hW
   obtain⟨n1,w1,m1⟩:=go (v:=v) (hB:=hB) (by unfold j02;rw[el];exact hW)
   have okB:=w1.ok
   simp(disch:=first|omega|rfl) only[go_sem,jbx,hss]
   exact fin w1 m1
  | true =>
   rw[el] at xA eA
   simp(disch:=first|omega|rfl) only[go_sem,jbx,eq_true hlt,hix,ju1,el,eA,xA,s2]
   refine WC.imp (wsb f wA (l:=[o.kind+4+8*o.limit,o.value,o.n]) (by simp;omega)) ?_
   rintro v hB hW
   obtain⟨n1,w1,m1⟩:=go (v:=v) (hB:=hB) (by unfold j02;rw[el];exact hW)
   have okB:=w1.ok
   simp(disch:=first|omega|rfl) only[go_sem,jbx,hss]
   exact fin w1 m1
theorem j1y {F:Fns} (f:WrF F) {l:List (Nat×Nat)} (hl:l.length<=10000) (hok:∀ r∈l,r.1<2/\r.2<16) {p:Nat} {x7 x8 x9 x10 x11 x12 x13:AV} :
 ∀ (d i:Nat) (_:i+d=l.length) {hi:Hp} {ws ns:List Nat} (_:WrS hi p ws ns) (_:ws.length+d<=40000) {x2 x4:AV}
  (hQ:∀ hj ns' x2 x4,WrS hj p (ws++byt ((l.drop i).map jy5)) ns'->Mv hi hj (p::ns) (p::ns')->Q (.exit 2) (.mk [.s (.ptr p 0),x1,x2,.s (jb6 j0s l),x4,vi l.length,vi l.length,x7,x8,x9,x10,x11,x12,x13,x14] hj)),
  W F jo8.loop (.mk [.s (.ptr p 0),x1,x2,.s (jb6 j0s l),x4,vi l.length,vi i,x7,x8,x9,x10,x11,x12,x13,x14] hi) Q
 | 0,i,hd,hi,ws,ns,w,hw,x2,x4,hQ=>by
  obtain rfl:i=l.length:=by omega
  rw[jck]
  unfold jo8
  have ok:=w.ok
  simp(disch:=first|omega|rfl) only[go_sem,f2e]
  exact hQ hi ns _ _ (by rw[f14];simpa[byt] using w) (Mv.refl ok)
 | d+1,i,hd,hi,ws,ns,w,hw,x2,x4,hQ=>by
  have hil:i<l.length:=by omega
  have hlt:(i:Int)<(l.length:Int):=by omega
  have hss:(i:Int)+1=((i+1:Nat):Int):=by omega
  obtain⟨r,hr⟩:∃ n,l[i]?=some n:=⟨_,f0f hil⟩
  have hdr:l.drop i=r::l.drop (i+1):=by rw[f0w hil,(f0r.1 hr).2]
  have hix:=jc4 (enc:=j0s) (size:=2) hr rfl
  obtain⟨hc,hn⟩:=hok r (f0k hr)
  have ok:=w.ok
  obtain⟨hA,eA,okA,nA,xA,gA⟩:=ju9 ok [.int .i64 0,.int .i64 0] (j0s r) 116
  have wA:=w.keep okA gA (by omega)
  have s1:16*(r.1:Int)+(r.2:Int)=((jy5 r:Nat):Int):=by unfold jy5;omega
  unfold j0s at xA eA
  rw[jck]
  unfold jo8 jy3
  simp(disch:=first|omega|rfl) only[go_sem,jbx,eq_true hlt,hix,j0s,eA,xA,s1]
  refine WC.imp (wsb f wA (l:=[jy5 r]) (by simp;omega)) ?_
  rintro v hB ⟨n1,w1,m1⟩
  have okB:=w1.ok
  simp(disch:=first|omega|rfl) only[go_sem,jbx,hss]
  exact j1y f hl hok d (i+1) (by omega) w1 (by rw[f0d,jc8];show ws.length+1+d<=40000;omega) (fun hj ns' x2 x4 w' m'=>hQ hj ns' x2 x4 (by rw[hdr,f1c,show jy5 r::(l.drop (i+1)).map jy5=[jy5 r]++(l.drop (i+1)).map jy5 from rfl,jc7,←f0l];exact w') ((Mv.low okA (by omega) gA _).trans (m1.trans m')))
theorem j38 {F:Fns} (f:WrF F) {h:Hp} {p:Nat} {ws ns:List Nat} (w:WrS h p ws ns) {x:Ms.Ins} (k:OkI x) (hw:ws.length+2000<=40000):WC F 32 [.s (.ptr p 0),.agg (jvc x)] h (Wrn h p ws ns (byt (jlv x))):=by
 refine jin (f.x _ rfl _ _) ((congrFun f.t _).trans j78) rfl ?_
 unfold j1w
 have ok:=w.ok
 have hno:=k.nops
 have hns:=k.nsp
 obtain⟨hA,eA,okA,nA,xA,gA⟩:=j4m ok (jvc x) 81
 have wA:=w.keep okA gA (by omega)
 have l1:=jb5 (enc:=ju1) (l:=x.ops)
 have l2:=jb5 (enc:=j0s) (l:=x.spoils)
 unfold jvc at xA eA
 simp(disch:=first|omega|rfl) only[go_sem,jvc,eA,xA,l1,l2]
 refine WC.imp (wsb f wA (l:=[x.op,x.ops.length,x.spoils.length]) (by simp;omega)) ?_
 rintro v hB ⟨n1,w1,m1⟩
 have okB:=w1.ok
 have hA0:h.next∉p::ns:=fun hc=>by
  rcases f0m.1 hc with h1 | h1
  .have:=w.p1.2;omega
  .have:=w.lt _ h1;omega
 have hA1:h.next∉p::n1:=fun hc=>by
  rcases m1.new _ hc with h1 | h1
  .exact hA0 h1
  .omega
 have xB:=(m1.keep h.next (by omega) hA0).trans xA
 have nB:=m1.nx
 have w1l:(ws++byt [x.op,x.ops.length,x.spoils.length]).length=ws.length+3:=by rw[f0d,jc8];rfl
 simp(disch:=first|omega|rfl) only[go_sem,xB,l1]
 refine j1x f (by omega) k.ops x.ops.length 0 (by omega) w1 (by omega) (fun hC n2 x7 x8 x9 x11 w2 m2=>?_)
 have okC:=w2.ok
 have xC:=(m2.keep h.next (by omega) hA1).trans xB
 simp(disch:=first|omega|rfl) only[go_sem,xC,l2]
 have w2l:∀ q:List Ms.Opd,((q.map j02).flatten).length=3*q.length:=fun q=>by
  induction q with
  | nil=>rfl
  | cons a q ih=>rw[f1c,f0s,f0d,ih];show 3+_=3*(q.length+1);omega
 refine j1y f (by omega) k.sp x.spoils.length 0 (by omega) w2 (by rw[f0d,w1l,jc8,w2l,f1f];omega) (fun hD n3 x2 x4 w3 m3=>?_)
 have okD:=w3.ok
 simp(disch:=first|omega|rfl) only[go_sem]
 refine⟨n3,?_,(Mv.low okA (by omega) gA _).trans (m1.trans (m2.trans m3))⟩
 have e:byt (jlv x)=byt [x.op,x.ops.length,x.spoils.length]++(byt ((x.ops.map j02).flatten)++byt (x.spoils.map jy5)):=by
  rw[←jc7,←jc7];rfl
 rw[e,←f0l,←f0l]
 exact w3
end Go.Proofs.Ythbghmhjgdonmaa.Ev
