/- Open runs: strings. No program in sight. -/
import Derived.Test.YtdbklpgagdbpiaaDoorLz
import Derived.Test.YtdbklpgagdbpiaaDoorUi
import Derived.Test.YtdbklpgagdbpiaaDoorVd
namespace Go.Proofs.YtdbklpgagdbpiaaDoor.Ev
noncomputable section
open Go Go.RowKit
set_option linter.all false
section
variable {F:Fns} {s:St} {st fr:List AV} {h h':Hp} {Q:Ex->St->Prop} {l:List IOper} {dst:Option Nat} {v w:AV} {m:List (IOper×Option (List Nat))} {es:List Ent}
def qeq (a b:Option AV):Option AV:=ob a (fun a=>ob b (fun b=>svc none a (fun a=>svc none b (fun b=>jot a (fun l=>jot b (fun r=>oif (Nat.ble (Nat.add (jb2 l) (jb2 r)) 1000000000) (some (AV.s (.str (jgp l r)))) none))))))
theorem jea {l r:List UInt8} (hl:l.length+r.length<=1000000000):qeq (some (.s (.str l))) (some (.s (.str r)))=some (.s (.str (l++r))):=by
 show oif (Nat.ble (Nat.add (jb2 l) (jb2 r)) 1000000000) (some (AV.s (.str (jgp l r)))) none=_
 rw[ja7,ja7,jde (show Nat.add l.length r.length<=1000000000 from hl),jc8];rfl
theorem jrp {x y:Od}:jr9 st fr h x y=ob (qeq (ev st fr x) (ev st fr y)) (fun v=>ok v h):=by
 show ob (ev st fr x) (fun a=>ob (ev st fr y) (fun b=>svc none a (fun a=>svc none b (fun b=>jot a (fun l=>jot b (fun r=>oif (Nat.ble (Nat.add (jb2 l) (jb2 r)) 1000000000) (ok (.s (.str (jgp l r))) h) none))))))=_
 unfold qeq
 cases ev st fr x with
 | none=>rfl
 | some a =>
  show ob (ev st fr y) _=ob (ob (ev st fr y) _) _
  cases ev st fr y with
  | none=>rfl
  | some b =>
   show svc none a _=ob (svc none a _) _
   cases a with
   | s a =>
    show svc none b _=ob (svc none b _) _
    cases b with
    | s b =>
     show jot a _=ob (jot a _) _
     cases a with
     | str l =>
      show jot b _=ob (jot b _) _
      cases b with
      | str r =>
       show oif _ _ _=ob (oif _ _ _) _
       cases Nat.ble (Nat.add (jb2 l) (jb2 r)) 1000000000<;>rfl
      | _=>rfl
     | _=>rfl
    | _=>rfl
   | _=>rfl
theorem qgy {o:AO} {x:Option AV} (hc:o.calls=false) (ho:jdy st fr h o=ob x (fun v=>ok v h)):WO F (.mk dst (.a o) none::l) st fr h Q=zpO F x dst l st fr h Q:=by
 rw[jez hc,ho]
 cases x with
 | none=>exact propext ⟨fun⟨p,h1,_⟩=>(nomatch h1),fun⟨p,h1,_⟩=>(nomatch h1)⟩
 | some v=>exact propext ⟨fun⟨p,h1,h2⟩=>by cases h1;exact⟨v,rfl,h2⟩,fun⟨p,h1,h2⟩=>by cases h1;exact⟨(v,h),rfl,h2⟩⟩
theorem jcf {x y:Od}:WO F (.mk dst (.a (.strop 4 x y)) none::l) st fr h Q=zpO F (qeq (ev st fr x) (ev st fr y)) dst l st fr h Q:=qgy rfl jrp
def qs0 (a:Option AV):Option AV:=ob a (fun a=>svc none a (fun a=>jot a (fun l=>oif (Nat.ble (jb2 l) 1000000000) (some (AV.s (.int .i64 (Int.ofNat (jb2 l))))) none)))
theorem j1w {l:List UInt8} (hl:l.length<=1000000000):qs0 (some (.s (.str l)))=some (.s (.int .i64 (l.length:Int))):=by
 show oif (Nat.ble (jb2 l) 1000000000) (some (AV.s (.int .i64 (Int.ofNat (jb2 l))))) none=_
 rw[ja7,jde hl];rfl
theorem qbn {x:Od}:j14 st fr h x=ob (qs0 (ev st fr x)) (fun v=>ok v h):=by
 show ob (ev st fr x) (fun a=>svc none a (fun a=>jot a (fun l=>oif (Nat.ble (jb2 l) 1000000000) (ok (.s (.int .i64 (Int.ofNat (jb2 l)))) h) none)))=_
 unfold qs0
 cases ev st fr x with
 | none=>rfl
 | some a =>
  show svc none a _=ob (svc none a _) _
  cases a with
  | s a =>
   show jot a _=ob (jot a _) _
   cases a with
   | str l =>
    show oif _ _ _=ob (oif _ _ _) _
    cases Nat.ble (jb2 l) 1000000000<;>rfl
   | _=>rfl
  | _=>rfl
theorem jcg {x y:Od}:WO F (.mk dst (.a (.strop 3 x y)) none::l) st fr h Q=zpO F (qs0 (ev st fr x)) dst l st fr h Q:=qgy rfl qbn
theorem jch {x y:Od}:WD F ((.mk dst (.a (.strop 4 x y)) none,none)::m) st es fr h Q=zpD F (qeq (ev st fr x) (ev st fr y)) (.mk [] (some [])) dst m st es fr h Q:=by
 rw[jfo rfl,show jdy st fr h (.strop 4 x y)=jr9 st fr h x y from rfl,jrp]
 cases qeq (ev st fr x) (ev st fr y) with
 | none=>exact propext ⟨fun⟨p,h1,_⟩=>(nomatch h1),fun⟨p,h1,_⟩=>(nomatch h1)⟩
 | some v=>exact propext ⟨fun⟨p,h1,h2⟩=>by cases h1;exact⟨v,rfl,h2⟩,fun⟨p,h1,h2⟩=>by cases h1;exact⟨(v,h),rfl,h2⟩⟩
def qwb (F:Fns) (x:Option (List (Nat×Nat))) (o:Option AV) (dst:Option Nat) (m:List (IOper×Option (List Nat))) (st:List AV) (es:List Ent) (fr:List AV) (h:Hp) (Q:Ex->St->Prop):Prop:=obP x (fun _=>zpD F o (.mk [(h.next,h.next)] none) dst m st es fr h Q)
theorem jaw {x:List (Nat×Nat)} {o:Option AV}:qwb F (some x) o dst m st es fr h Q=zpD F o (.mk [(h.next,h.next)] none) dst m st es fr h Q:=jcb
theorem jan {x y:Od} {js:List Nat}:WD F ((.mk dst (.a (.strop 4 x y)) none,some js)::m) st es fr h Q=qwb F (sel es js h.hid) (qeq (ev st fr x) (ev st fr y)) dst m st es fr h Q:=by
 cases h with
 | mk k t lo hid =>
 rw[jz0 (x:=ob (sel es js hid) (fun hid'=>ob (qeq (ev st fr x) (ev st fr y)) (fun v=>some (DR.mk v (.mk k t lo hid) (.mk [(k,k)] none))))) (fun cl=>?_)]
 .refine propext ⟨fun⟨p,h1,h2⟩=>?_,fun⟨hid',h0,v,h1,h2⟩=>⟨.mk v (.mk k t lo hid) (.mk [(k,k)] none),jaa.2 ⟨hid',h0,jaa.2 ⟨v,h1,rfl⟩⟩,h2⟩⟩
  obtain⟨hid',h3,h4⟩:=jaa.1 h1
  obtain⟨v,h5,h6⟩:=jaa.1 h4
  cases h6
  exact⟨hid',h3,v,h5,h2⟩
 .show ob (sel es js hid) (fun hid'=>ob (jr9 st fr (.mk k t k hid') x y) (fun p=>Hp.casesOn (motive:=fun _=>Option DR) p.2 (fun n' t' _ _=>some (.mk p.1 (.mk n' t' lo hid) (.mk [(k,n')] none)))))=_
  congr 1
  funext hid'
  rw[jrp]
  cases qeq (ev st fr x) (ev st fr y)<;>rfl
def qwc (h:Hp) (e:TypeId) (a b:Option AV):R:=ob a (fun v=>ob b (fun w=>svc none w (fun w=>jot w (fun l=>jlx h e 1 1 (jb2 l) v (u8s l)))))
theorem jci {e:TypeId} {x y:Od}:WO F (.mk dst (.a (.strop (e+7) x y)) none::l) st fr h Q=zmO F (qwc h e (ev st fr x) (ev st fr y)) dst l st fr Q:=jez rfl
theorem jax {e:TypeId} {l:List UInt8}:qwc h e (some v) (some (.s (.str l)))=jlx h e 1 1 (jb2 l) v (u8s l):=rfl
end
set_option maxRecDepth 100000
def qbo:IC:=.seq (.block 1 (qr [qP (.ixs 1 (.g 4) (.g 7)),qL,qT 3] (qr [qM 3,qP (.bin .lt qa (qC 0)),qP (.mv qa),qR 0 false (.mv (.g 3)),qR 1 false (.bin .gt qa (qC 1073741824)),qQ 2 (.pick qc (.c (.s (.bool true))) qa)] (.cond (.g 2) (qr [qQ 1 (.mv (qC 2))] .ret) .skip)))) (.region [qI 7,qT 7])
def jwi:IC:=qr [qQ 5 (.bin .lt (.g 7) (.g 6))] (.seq (qX 5 0) qbo)
def qbp:IC:=.seq (qr [qF 6 12,qB 4 (.load 1 false qa),qQ 6 (.len qa),qQ 7 (.mv (qC 0))] (.block 0 (.loop jwi))) (qr [qQ 1 (.mv (qC 0))] .ret)
def qbq:IC:=.seq (qr [qF 6 12,qL,qP (.len qa),qQ 8 (.bin .gt qa (qC 64))] (.cond (.g 8) (qr [qQ 1 (.mv (qC 1))] .ret) .skip)) qbp
def qbr:IC:=.seq (qr [qF 4 12,qL,qP (.bin .lt qa (qC 0)),qP (.mv qa),qR 0 false (.fld 4 (.g 12)),qS 1 false (.load 1 false qa),qR 2 false (.bin .gt qa (qC 1073741824)),qP (.pick qd (.c (.s (.bool true))) qa),qP (.mv qa),qR 0 false (.fld 5 (.g 12)),qS 1 false (.load 1 false qa),qR 2 false (.bin .lt qa (qC 0)),qP (.pick qd (.c (.s (.bool true))) qa),qP (.mv qa),qR 0 false (.fld 5 (.g 12)),qS 1 false (.load 1 false qa),qR 2 false (.bin .gt qa (qC 5000)),qQ 9 (.pick qd (.c (.s (.bool true))) qa)] (.cond (.g 9) (qr [qQ 1 (.mv (qC 2))] .ret) .skip)) qbq
def qgz:IC:=qr [qB 12 (.box 31 (.g 0)),qQ 1 (.mv (qC 0))] (.seq (qr [qF 2 12,qK 2,qF 0 12,qK 2,qA (.call 20 [qc,qa]),qT 11] (qr [qM 11,qQ 10 (.bin .ne qa (qC 0))] (.cond (.g 10) (qr [qM 11,qT 1] .ret) .skip))) qbr)
theorem qvk:T 9=some (.mk qgz 1 12 [(.tmp 1)]):=by kernel_rfl
def qbs:IC:=.seq (qr [qM 9,qM 5,qP (.len qa),qP (.bin .lt qc qa),qP (.mv qa),qR 0 true (.mv (.g 9)),qR 1 true (.bin .lt qa (qC 64)),qQ 8 (.pick qc qa (.c (.s (.bool false))))] (qX 8 0)) (.seq (.block 1 (.draw [(qF 6 7,.none),(qL,.some []),(qM 5,.none),(qM 9,.none),(qP (.ixs 1 qb qa),.none),(qL,.some [3]),(qA (.call 8 [qa,qC 1073741824]),.some [4]),(qA (.bslice 3 1 [.int .i64 0] 1 [(0,(1,qa))]),.some [5]),(qA (.app 3 1 8 (.l 6) qa),.none),(qF 6 7,.none),(qA (.store 1 qa qb),.none)])) (.region [qM 9,qP (.bin .add qa (qC 1)),qT 9]))
def qg0:IC:=qr [qB 6 (.new 31 [.int .i64 0,.int .i64 0,.nilSlice,.nilSlice,.int .i64 0,.int .i64 0,.nilSlice])] (qr [qM 0,qM 1,qA (.call 6 [qb,qa]),qB 10 (.new 25 [.int .i64 0,.int .i64 0]),qA (.store 2 qa qb)] (.seq (.draw [(qA (.load 2 true (.g 10)),.some []),(qA (.load 2 true (.g 10)),.some [0]),(qM 2,.none),(qA (.call 7 [qb,qa]),.some [2]),(qM 3,.none),(qA (.call 8 [qa,qC 1073741824]),.some [4]),(qM 4,.none),(qA (.call 8 [qa,qC 400]),.some [6]),(qP (.build [.int .i64 0,.int .i64 0,.nilSlice,.nilSlice,.int .i64 0,.int .i64 0,.nilSlice] [(0,(2,.l 7)),(2,(2,.l 4)),(4,(1,qc)),(5,(1,qa))]),.none),(qB 7 (.new 31 [.int .i64 0,.int .i64 0,.nilSlice,.nilSlice,.int .i64 0,.int .i64 0,.nilSlice]),.some [1,3,5,7,8]),(qA (.store 7 qa qb),.none)]) (.seq (qr [qQ 9 (.mv (qC 0))] (.block 0 (.loop qbs))) (qr [qA (.load 7 true (.g 7)),qA (.store 7 (.g 6) qa)] .ret))))
theorem qvl:T 4=some (.mk qg0 6 5 [(.cell 6 7 true)]):=by kernel_rfl
def jrq:IC:=qr [qQ 4 (.bin .lt (.g 6) (.g 5))] (.seq (qX 4 0) (.seq (.block 1 (qr [qP (.ixs 1 (.g 3) (.g 6)),qL,qT 2] (.region [qM 0,qM 2,qA (.call 12 [qa]),qA (.strop 4 (.c (.s (.str [32]))) qa),qA (.call 10 [qd,qa])]))) (.region [qI 6,qT 6])))
def qg1:IC:=qr [qQ 3 (.mv (.g 1)),qQ 5 (.len qa),qQ 6 (.mv (qC 0))] (.block 0 (.loop jrq))
theorem qvm:T 11=some (.mk qg1 2 5 []):=by kernel_rfl
def j4i:IC:=.draw [(qM 0,.none),(qF 1 4,.none),(qL,.some []),(qA (.call 12 [qa]),.some []),(qA (.strop 4 (.c (.s (.str [32]))) qa),.some []),(qA (.strop 4 qa (.c (.s (.str [32])))),.some []),(qF 3 4,.none),(qL,.some [1,2,3,4]),(qP (.ixa 6 1 (.c (.s (.cp [.str [],.str [97,110,121],.str [114,101,103],.str [115,116,97,99,107],.str [102,105,120,101,100],.str [114,101,117,115,101]]))) qa),.none),(qL,.some [3,4,5,6]),(qA (.strop 4 (.l 4) qa),.none),(qA (.call 10 [.l 10,qa]),.none)]
def jwj:IC:=.seq j4i (qr [qF 3 4,qL,qQ 2 (.bin .ge qa (qC 4))] (.cond (.g 2) (.region [qM 0,qF 4 4,qL,qA (.call 12 [qa]),qA (.strop 4 (.c (.s (.str [32]))) qa),qA (.call 10 [.l 4,qa])]) .skip))
def qbt:IC:=qr [qB 4 (.box 73 (.g 1))] (qr [qM 0,qF 0 4,qL,qP (.ixa 3 1 (.c (.s (.cp [.str [],.str [117,115,101],.str [100,101,102]]))) qa),qL,qA (.strop 4 (.c (.s (.str [32]))) qa),qA (.call 10 [.l 5,qa])] (.seq (qr [qF 2 4,qB 3 (.load 1 false qa)] (.cond (.g 3) (.region [qM 0,qA (.call 10 [qa,.c (.s (.str [32,108,97,116,101]))])]) .skip)) jwj))
theorem qr6:T 23=some (.mk qbt 2 3 []):=by kernel_rfl
def jok:IC:=qr [qQ 9 (.bin .lt (.g 11) (.g 10))] (.seq (qX 9 0) (.seq (.block 1 (qr [qP (.ixs 5 (.g 8) (.g 11)),qK 5,qB 7 (.new 73 [.int .i64 0,.int .i64 0,.bool false,.int .i64 0,.int .i64 0]),qA (.store 5 qa qb)] (.region [qM 0,qA (.load 5 true (.g 7)),qA (.call 23 [qb,qa])]))) (.region [qI 11,qT 11])))
def j4j:IC:=.draw [(qM 0,.none),(qF 0 2,.none),(qL,.some []),(qA (.call 12 [qa]),.some []),(qA (.strop 4 (.c (.s (.str [32,115,112,111,105,108,115,32]))) qa),.some []),(qA (.strop 4 qa (.c (.s (.str [32])))),.some []),(qF 1 2,.none),(qL,.some [1,2,3,4]),(qA (.call 12 [qa]),.some [2,3]),(qA (.strop 4 qd qa),.none),(qA (.call 10 [.l 9,qa]),.none)]
def jol:IC:=qr [qQ 4 (.bin .lt (.g 6) (.g 5))] (.seq (qX 4 2) (.seq (.block 3 (qr [qP (.ixs 2 (.g 3) (.g 6)),qK 2,qB 2 (.new 76 [.int .i64 0,.int .i64 0]),qA (.store 2 qa qb)] j4j)) (.region [qI 6,qT 6])))
def qbu:IC:=qr [qB 12 (.box 59 (.g 1))] (qr [qM 0,qF 0 12,qL,qA (.call 12 [qa]),qA (.strop 4 (.c (.s (.str [111,112,32]))) qa),qA (.call 10 [.l 4,qa])] (.seq (qr [qF 1 12,qB 8 (.load 1 false qa),qQ 10 (.len qa),qQ 11 (.mv (qC 0))] (.block 0 (.loop jok))) (.seq (qr [qF 2 12,qB 3 (.load 1 false qa),qQ 5 (.len qa),qQ 6 (.mv (qC 0))] (.block 2 (.loop jol))) (.region [qM 0,qA (.call 13 [qa,.c (.s (.int .u8 10))])]))))
theorem qr7:T 14=some (.mk qbu 2 11 []):=by kernel_rfl
def j4k:IC:=.draw [(qF 4 21,.none),(qL,.some []),(qA (.call 12 [qa]),.some []),(qA (.strop 4 (.c (.s (.str [10,114,117,110,32]))) qa),.some []),(qA (.strop 4 qa (.c (.s (.str [32])))),.some []),(qF 5 21,.none),(qL,.some [1,2,3,4]),(qA (.call 12 [qa]),.some [2,3]),(qA (.strop 4 qd qa),.none),(qA (.call 10 [.g 18,qa]),.none)]
def j4l:IC:=.seq (.block 3 (qr [qP (.ixs 3 (.g 9) (.g 12)),qK 3,qB 8 (.new 59 [.int .i64 0,.nilSlice,.nilSlice]),qA (.store 3 qa qb)] (.region [qA (.load 3 true (.g 8)),qA (.call 14 [.g 18,qa])]))) (.region [qI 12,qT 12])
def jom:IC:=qr [qQ 10 (.bin .lt (.g 12) (.g 11))] (.seq (qX 10 2) j4l)
def j4m:IC:=.seq (.block 5 (qr [qP (.ixs 2 (.g 4) (.g 7)),qK 2,qB 3 (.new 62 [.int .i64 0,.nilSlice]),qA (.store 2 qa qb)] (qr [qF 0 3,qL,qA (.call 12 [qa]),qA (.strop 4 (.c (.s (.str [101,100,103,101,32]))) qa),qA (.call 10 [.g 18,qa])] (qr [qF 1 3,qL,qA (.call 11 [.g 18,qa])] (.region [qA (.call 13 [.g 18,.c (.s (.int .u8 10))])]))))) (.region [qI 7,qT 7])
def jon:IC:=qr [qQ 5 (.bin .lt (.g 7) (.g 6))] (.seq (qX 5 4) j4m)
def j4n:IC:=.seq (.block 1 (qr [qP (.ixs 3 (.g 14) (.g 17)),qK 3,qB 13 (.new 39 [.nilSlice,.nilSlice,.nilSlice]),qA (.store 3 qa qb)] (qr [qA (.call 10 [.g 18,.c (.s (.str [98,108,111,99,107]))])] (qr [qF 0 13,qL,qA (.call 11 [.g 18,qa])] (qr [qA (.call 13 [.g 18,.c (.s (.int .u8 10))])] (.seq (qr [qF 1 13,qB 9 (.load 1 false qa),qQ 11 (.len qa),qQ 12 (.mv (qC 0))] (.block 2 (.loop jom))) (qr [qF 2 13,qB 4 (.load 1 false qa),qQ 6 (.len qa),qQ 7 (.mv (qC 0))] (.block 4 (.loop jon))))))))) (.region [qI 17,qT 17])
def joo:IC:=qr [qQ 15 (.bin .lt (.g 17) (.g 16))] (.seq (qX 15 0) j4n)
def j4o:IC:=qr [qB 18 (.new 48 [.nilPtr,.nilSlice])] (qr [qA (.call 10 [.g 18,.c (.s (.str [109,97,99,104,105,110,101]))])] (qr [qF 0 21,qG 0,qA (.slicea 2 1 qa),qA (.call 11 [.g 18,qa])] (.seq j4k (qr [qF 6 21,qL,qA (.call 11 [.g 18,qa])] (qr [qA (.call 10 [.g 18,.c (.s (.str [10,118,97,108,117,101,115]))])] (qr [qF 2 21,qG 0,qL,qA (.call 11 [.g 18,qa])] (qr [qA (.call 13 [.g 18,.c (.s (.int .u8 10))])] (.seq (qr [qF 2 21,qG 1,qB 14 (.load 1 false qa),qQ 16 (.len qa),qQ 17 (.mv (qC 0))] (.block 0 (.loop joo))) (qr [qA (.call 15 [.g 18]),qT 2,qQ 1 (.mv (qC 0))] .ret)))))))))
def qbv:IC:=qr [qB 21 (.box 31 (.g 0)),qQ 2 (.mv (.c (.s (.str [])))),qQ 1 (.mv (qC 0))] (.seq (qr [qA (.load 7 true (.g 21)),qA (.call 9 [qa]),qT 20] (qr [qM 20,qQ 19 (.bin .ne qa (qC 0))] (.cond (.g 19) (qr [qM 20,qQ 2 (.mv (.c (.s (.str [])))),qQ 1 (.mv qb)] .ret) .skip))) j4o)
theorem qr8:T 5=some (.mk qbv 1 21 [(.tmp 2),(.tmp 1)]):=by kernel_rfl
def qg2:IC:=qr [qQ 3 (.mv (qC 0)),qQ 2 (.mv (.c (.s (.ifc false))))] (qr [qM 0,qA (.call 21 [qa])] (qr [qM 0,qM 0,qN,qG 1,qL,qM 1,qA (.strop (5+7) qb qa),qP (.nchk (.l 6)),qG 1,qA (.store 1 qa qc)] (qr [qM 1,qA (.strop 3 qa qa),qT 3,qQ 2 (.mv (.c (.s (.ifc false))))] .ret)))
theorem qvn:T 10=some (.mk qg2 2 2 [(.tmp 3),(.tmp 2)]):=by kernel_rfl
def qg3:IC:=qr [qQ 2 (.mv (.c (.s (.ifc false))))] (qr [qM 0,qA (.call 21 [qa])] (qr [qM 0,qM 0,qN,qG 1,qL,qM 1,qA (.bslice 5 1 [.int .u8 0] 1 [(0,(1,qa))]),qA (.app 5 1 1 qc qa),qP (.nchk (.l 7)),qG 1,qA (.store 1 qa qc)] (qr [qQ 2 (.mv (.c (.s (.ifc false))))] .ret)))
theorem qvo:T 13=some (.mk qg3 2 1 [(.tmp 2)]):=by kernel_rfl
def qbw:IC:=.seq (.block 1 (qr [qP (.ixs 3 (.g 11) (.g 14)),qK 3,qB 9 (.new 39 [.nilSlice,.nilSlice,.nilSlice]),qA (.store 3 qa qb)] (.region [qM 10,qF 1 9,qL,qP (.len qa),qP (.bin .add (qC 1) qa),qF 2 9,qL,qP (.len qa),qP (.bin .add qd qa),qP (.bin .add (.l 8) qa),qT 10]))) (.region [qI 14,qT 14])
def jwk:IC:=qr [qQ 12 (.bin .lt (.g 14) (.g 13))] (.seq (qX 12 0) qbw)
def qbx:IC:=.seq (.block 3 (qr [qM 7,qM 8,qP (.stri qb qa),qQ 5 (.bin .eq qa (.c (.s (.int .u8 10))))] (.cond (.g 5) (.region [qM 10,qP (.bin .sub qa (qC 1)),qT 10]) .skip))) (.region [qM 8,qP (.bin .add qa (qC 1)),qT 8])
def jwl:IC:=.seq (qr [qM 8,qM 7,qA (.strop 3 qa qa),qQ 6 (.bin .lt qc qa)] (qX 6 2)) qbx
def qg4:IC:=qr [qQ 3 (.mv (.c (.s (.bool false))))] (qr [qM 0,qM 1,qM 2,qA (.call 4 [qc,qb,qa,qC 1,qC 2,.c (.s .nilSlice)]),qB 15 (.new 31 [.int .i64 0,.int .i64 0,.nilSlice,.nilSlice,.int .i64 0,.int .i64 0,.nilSlice]),qA (.store 7 qa qb)] (qr [qA (.load 7 true (.g 15)),qA (.call 5 [qa]),qP (.mv qa),qP (.ext 0 qa),qP (.ext 1 qb),qQ 7 (.mv qb),qQ 4 (.mv qb)] (qr [qQ 10 (.mv (qC 3))] (.seq (qr [qF 2 15,qG 1,qB 11 (.load 1 false qa),qQ 13 (.len qa),qQ 14 (.mv (qC 0))] (.block 0 (.loop jwk))) (.seq (qr [qQ 8 (.mv (qC 0))] (.block 2 (.loop jwl))) (qr [qM 4,qP (.bin .eq qa (qC 0)),qP (.mv qa),qR 0 true (.mv (.g 10)),qR 1 true (.bin .eq qa (qC 0)),qP (.pick qc qa (.c (.s (.bool false)))),qT 3] .ret))))))
theorem qvp:T 3=some (.mk qg4 3 13 [(.tmp 3)]):=by kernel_rfl
theorem qr9 {h:Hp} (ok:Ok h) {b:Nat} (hb:1<=b) (x:Option AB):∃ hA,h.put b x=hA/\Ok hA/\hA.next=h.next/\hA.get b=x/\∀ n,n≠b->hA.get n=h.get n :=
 ⟨_,rfl,jas ok,Hp.next_put ..,by rw[jak ok hb,if_pos rfl],fun n hn=>by rw[jak ok hb,if_neg hn]⟩
end
end Go.Proofs.YtdbklpgagdbpiaaDoor.Ev
namespace Go.Proofs.YtdbklpgagdbpiaaDoor.Ms
set_option linter.all false
structure Scr where
 m1:Nat
 m2:Nat
 seed:Nat
 steps:Nat
 junk:List Nat
 f:Fc
structure OkO (o:Opd):Prop where
 k:o.kind<4
 l:o.limit<32
 v:o.value<256
 n:o.n<256
structure OkI (x:Ins):Prop where
 op:x.op<256
 nops:x.ops.length<256
 nsp:x.spoils.length<256
 ops:∀ o∈x.ops,OkO o
 sp:∀ r∈x.spoils,r.1<16/\r.2<16
structure OkB (b:Blk):Prop where
 np:b.params.length<256
 p:∀ v∈b.params,v<256
 ni:b.instrs.length<256
 i:∀ x∈b.instrs,OkI x
 ne:b.edges.length<256
 e:∀ e∈b.edges,e.block<256/\e.args.length<256/\∀ v∈e.args,v<256
structure OkS (s:Scr):Prop where
 m1:s.m1<256
 m2:s.m2<256
 sd:s.seed<4294967296
 st:s.steps<4294967296
 nj:s.junk.length<256
 j:∀ n∈s.junk,n<4294967296
 nv:s.f.values.length<256
 v:∀ v∈s.f.values,v<256
 nb:s.f.blocks.length<256
 b:∀ b∈s.f.blocks,OkB b
end Go.Proofs.YtdbklpgagdbpiaaDoor.Ms
