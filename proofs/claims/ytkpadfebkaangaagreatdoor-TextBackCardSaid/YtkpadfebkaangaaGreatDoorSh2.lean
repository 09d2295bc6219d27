/- Open runs: strings. No program in sight. -/
import Derived.Test.YtkpadfebkaangaaGreatDoorLz
import Derived.Test.YtkpadfebkaangaaGreatDoorUi
import Derived.Test.YtkpadfebkaangaaGreatDoorVd
import Derived.Test.YtkpadfebkaangaaGreatDoorLx
namespace Go.Proofs.YtkpadfebkaangaaGreatDoor.Ev
noncomputable section
open Go Go.RowKit
set_option linter.all false
section
variable {F:Fns} {s:St} {st fr:List AV} {h h':Hp} {Q:Ex->St->Prop} {l:List IOper} {dst:Option Nat} {v w:AV} {m:List (IOper×Option (List Nat))} {es:List Ent}
def qgq (a b:Option AV):Option AV:=ob a (fun a=>ob b (fun b=>svc none a (fun a=>svc none b (fun b=>jk6 a (fun l=>jk6 b (fun r=>oif (Nat.ble (Nat.add (jb6 l) (jb6 r)) 1000000000) (some (AV.s (.str (jf8 l r)))) none))))))
theorem jd5 {l r:List UInt8} (hl:l.length+r.length<=1000000000):qgq (some (.s (.str l))) (some (.s (.str r)))=some (.s (.str (l++r))):=by
 show oif (Nat.ble (Nat.add (jb6 l) (jb6 r)) 1000000000) (some (AV.s (.str (jf8 l r)))) none=_
 rw[jba,jba,jbn (show Nat.add l.length r.length<=1000000000 from hl),jcv];rfl
theorem jp4 {x y:Od}:jq1 st fr h x y=ob (qgq (ev st fr x) (ev st fr y)) (fun v=>ok v h):=by
 show ob (ev st fr x) (fun a=>ob (ev st fr y) (fun b=>svc none a (fun a=>svc none b (fun b=>jk6 a (fun l=>jk6 b (fun r=>oif (Nat.ble (Nat.add (jb6 l) (jb6 r)) 1000000000) (ok (.s (.str (jf8 l r))) h) none))))))=_
 unfold qgq
 cases ev st fr x with
 | none=>rfl
 | some a =>
  show ob (ev st fr y) _=ob (ob (ev st fr y) _) _
  cases ev st fr y with
  | none=>rfl
  | some b =>
   show svc none a _=ob (svc none a _) _
   cases a with
   | s a =>
    show svc none b _=ob (svc none b _) _
    cases b with
    | s b =>
     show jk6 a _=ob (jk6 a _) _
     cases a with
     | str l =>
      show jk6 b _=ob (jk6 b _) _
      cases b with
      | str r =>
       show oif _ _ _=ob (oif _ _ _) _
       cases Nat.ble (Nat.add (jb6 l) (jb6 r)) 1000000000<;>rfl
      | _=>rfl
     | _=>rfl
    | _=>rfl
   | _=>rfl
theorem jxc {o:AO} {x:Option AV} (hc:o.calls=false) (ho:jd8 st fr h o=ob x (fun v=>ok v h)):WO F (.mk dst (.a o) none::l) st fr h Q=zpO F x dst l st fr h Q:=by
 rw[jg6 hc,ho]
 cases x with
 | none=>exact propext ⟨fun⟨p,h1,_⟩=>(nomatch h1),fun⟨p,h1,_⟩=>(nomatch h1)⟩
 | some v=>exact propext ⟨fun⟨p,h1,h2⟩=>by cases h1;exact⟨v,rfl,h2⟩,fun⟨p,h1,h2⟩=>by cases h1;exact⟨(v,h),rfl,h2⟩⟩
theorem jce {x y:Od}:WO F (.mk dst (.a (.strop 4 x y)) none::l) st fr h Q=zpO F (qgq (ev st fr x) (ev st fr y)) dst l st fr h Q:=jxc rfl jp4
def qu5 (a:Option AV):Option AV:=ob a (fun a=>svc none a (fun a=>jk6 a (fun l=>oif (Nat.ble (jb6 l) 1000000000) (some (AV.s (.int .i64 (Int.ofNat (jb6 l))))) none)))
theorem jzn {l:List UInt8} (hl:l.length<=1000000000):qu5 (some (.s (.str l)))=some (.s (.int .i64 (l.length:Int))):=by
 show oif (Nat.ble (jb6 l) 1000000000) (some (AV.s (.int .i64 (Int.ofNat (jb6 l))))) none=_
 rw[jba,jbn hl];rfl
theorem qbg {x:Od}:jz3 st fr h x=ob (qu5 (ev st fr x)) (fun v=>ok v h):=by
 show ob (ev st fr x) (fun a=>svc none a (fun a=>jk6 a (fun l=>oif (Nat.ble (jb6 l) 1000000000) (ok (.s (.int .i64 (Int.ofNat (jb6 l)))) h) none)))=_
 unfold qu5
 cases ev st fr x with
 | none=>rfl
 | some a =>
  show svc none a _=ob (svc none a _) _
  cases a with
  | s a =>
   show jk6 a _=ob (jk6 a _) _
   cases a with
   | str l =>
    show oif _ _ _=ob (oif _ _ _) _
    cases Nat.ble (jb6 l) 1000000000<;>rfl
   | _=>rfl
  | _=>rfl
theorem jcf {x y:Od}:WO F (.mk dst (.a (.strop 3 x y)) none::l) st fr h Q=zpO F (qu5 (ev st fr x)) dst l st fr h Q:=jxc rfl qbg
theorem jcg {x y:Od}:WD F ((.mk dst (.a (.strop 4 x y)) none,none)::m) st es fr h Q=zpD F (qgq (ev st fr x) (ev st fr y)) (.mk [] (some [])) dst m st es fr h Q:=by
 rw[jix rfl,show jd8 st fr h (.strop 4 x y)=jq1 st fr h x y from rfl,jp4]
 cases qgq (ev st fr x) (ev st fr y) with
 | none=>exact propext ⟨fun⟨p,h1,_⟩=>(nomatch h1),fun⟨p,h1,_⟩=>(nomatch h1)⟩
 | some v=>exact propext ⟨fun⟨p,h1,h2⟩=>by cases h1;exact⟨v,rfl,h2⟩,fun⟨p,h1,h2⟩=>by cases h1;exact⟨(v,h),rfl,h2⟩⟩
def q1f (F:Fns) (x:Option (List (Nat×Nat))) (o:Option AV) (dst:Option Nat) (m:List (IOper×Option (List Nat))) (st:List AV) (es:List Ent) (fr:List AV) (h:Hp) (Q:Ex->St->Prop):Prop:=obP x (fun _=>zpD F o (.mk [(h.next,h.next)] none) dst m st es fr h Q)
theorem ja1 {x:List (Nat×Nat)} {o:Option AV}:q1f F (some x) o dst m st es fr h Q=zpD F o (.mk [(h.next,h.next)] none) dst m st es fr h Q:=jcy
theorem jap {x y:Od} {js:List Nat}:WD F ((.mk dst (.a (.strop 4 x y)) none,some js)::m) st es fr h Q=q1f F (sel es js h.hid) (qgq (ev st fr x) (ev st fr y)) dst m st es fr h Q:=by
 cases h with
 | mk k t lo hid =>
 rw[jyo (x:=ob (sel es js hid) (fun hid'=>ob (qgq (ev st fr x) (ev st fr y)) (fun v=>some (DR.mk v (.mk k t lo hid) (.mk [(k,k)] none))))) (fun cl=>?_)]
 .refine propext ⟨fun⟨p,h1,h2⟩=>?_,fun⟨hid',h0,v,h1,h2⟩=>⟨.mk v (.mk k t lo hid) (.mk [(k,k)] none),jaa.2 ⟨hid',h0,jaa.2 ⟨v,h1,rfl⟩⟩,h2⟩⟩
  obtain⟨hid',h3,h4⟩:=jaa.1 h1
  obtain⟨v,h5,h6⟩:=jaa.1 h4
  cases h6
  exact⟨hid',h3,v,h5,h2⟩
 .show ob (sel es js hid) (fun hid'=>ob (jq1 st fr (.mk k t k hid') x y) (fun p=>Hp.casesOn (motive:=fun _=>Option DR) p.2 (fun n' t' _ _=>some (.mk p.1 (.mk n' t' lo hid) (.mk [(k,n')] none)))))=_
  congr 1
  funext hid'
  rw[jp4]
  cases qgq (ev st fr x) (ev st fr y)<;>rfl
def q1g (h:Hp) (e:TypeId) (a b:Option AV):R:=ob a (fun v=>ob b (fun w=>svc none w (fun w=>jk6 w (fun l=>jlb h e 1 1 (jb6 l) v (u8s l)))))
theorem jch {e:TypeId} {x y:Od}:WO F (.mk dst (.a (.strop (e+7) x y)) none::l) st fr h Q=zmO F (q1g h e (ev st fr x) (ev st fr y)) dst l st fr Q:=jg6 rfl
theorem ja2 {e:TypeId} {l:List UInt8}:q1g h e (some v) (some (.s (.str l)))=jlb h e 1 1 (jb6 l) v (u8s l):=rfl
end
set_option maxRecDepth 100000
def qbh:IC:=.seq (.block 1 (qr [qP (.ixs 1 (.g 4) (.g 7)),qL,qT 3] (qr [qM 3,qP (.bin .lt qa (qC 0)),qP (.mv qa),qR 0 false (.mv (.g 3)),qR 1 false (.bin .gt qa (qC 1073741824)),qQ 2 (.pick qc (.c (.s (.bool true))) qa)] (.cond (.g 2) (qr [qQ 1 (.mv (qC 2))] .ret) .skip)))) (.region [qI 7,qT 7])
def jtv:IC:=qr [qQ 5 (.bin .lt (.g 7) (.g 6))] (.seq (qX 5 0) qbh)
def qbi:IC:=.seq (qr [qF 6 12,qB 4 (.load 1 false qa),qQ 6 (.len qa),qQ 7 (.mv (qC 0))] (.block 0 (.loop jtv))) (qr [qQ 1 (.mv (qC 0))] .ret)
def qbj:IC:=.seq (qr [qF 6 12,qL,qP (.len qa),qQ 8 (.bin .gt qa (qC 64))] (.cond (.g 8) (qr [qQ 1 (.mv (qC 1))] .ret) .skip)) qbi
def qbk:IC:=.seq (qr [qF 4 12,qL,qP (.bin .lt qa (qC 0)),qP (.mv qa),qR 0 false (.fld 4 (.g 12)),qS 1 false (.load 1 false qa),qR 2 false (.bin .gt qa (qC 1073741824)),qP (.pick qd (.c (.s (.bool true))) qa),qP (.mv qa),qR 0 false (.fld 5 (.g 12)),qS 1 false (.load 1 false qa),qR 2 false (.bin .lt qa (qC 0)),qP (.pick qd (.c (.s (.bool true))) qa),qP (.mv qa),qR 0 false (.fld 5 (.g 12)),qS 1 false (.load 1 false qa),qR 2 false (.bin .gt qa (qC 5000)),qQ 9 (.pick qd (.c (.s (.bool true))) qa)] (.cond (.g 9) (qr [qQ 1 (.mv (qC 2))] .ret) .skip)) qbj
def qje:IC:=qr [qB 12 (.box 34 (.g 0)),qQ 1 (.mv (qC 0))] (.seq (qr [qF 2 12,qK 2,qF 0 12,qK 2,qA (.call 23 [qc,qa]),qT 11] (qr [qM 11,qQ 10 (.bin .ne qa (qC 0))] (.cond (.g 10) (qr [qM 11,qT 1] .ret) .skip))) qbk)
theorem q0e:T 10=some (.mk qje 1 12 [(.tmp 1)]):=ka
def jtw:IC:=.seq (qr [qM 9,qM 5,qP (.len qa),qP (.bin .lt qc qa),qP (.mv qa),qR 0 true (.mv (.g 9)),qR 1 true (.bin .lt qa (qC 64)),qQ 8 (.pick qc qa (.c (.s (.bool false))))] (qX 8 0)) (.seq (.block 1 (.draw [(qF 6 7,.none),(qL,.some []),(qM 5,.none),(qM 9,.none),(qP (.ixs 1 qb qa),.none),(qL,.some [3]),(qA (.call 8 [qa,qC 1073741824]),.some [4]),(qA (.bslice 3 1 [.int .i64 0] 1 [(0,(1,qa))]),.some [5]),(qA (.app 3 1 8 (.l 6) qa),.none),(qF 6 7,.none),(qA (.store 1 qa qb),.none)])) (.region [qM 9,qP (.bin .add qa (qC 1)),qT 9]))
def qjf:IC:=qr [qB 6 (.new 34 Ze)] (qr [qM 0,qM 1,qA (.call 17 [qb,qa]),qB 10 (.new 28 Zf),qA (.store 2 qa qb)] (.seq (.draw [(qA (.load 2 true (.g 10)),.some []),(qA (.load 2 true (.g 10)),.some [0]),(qM 2,.none),(qA (.call 18 [qb,qa]),.some [2]),(qM 3,.none),(qA (.call 8 [qa,qC 1073741824]),.some [4]),(qM 4,.none),(qA (.call 8 [qa,qC 400]),.some [6]),(qP (.build Ze [(0,(2,.l 7)),(2,(2,.l 4)),(4,(1,qc)),(5,(1,qa))]),.none),(qB 7 (.new 34 Ze),.some [1,3,5,7,8]),(qA (.store 7 qa qb),.none)]) (.seq (qr [qQ 9 (.mv (qC 0))] (.block 0 (.loop jtw))) (qr [qA (.load 7 true (.g 7)),qA (.store 7 (.g 6) qa)] .ret))))
theorem q0f:T 6=some (.mk qjf 6 5 [(.cell 6 7 true)]):=ka
def jp5:IC:=qr [qQ 4 (.bin .lt (.g 6) (.g 5))] (.seq (qX 4 0) (.seq (.block 1 (qr [qP (.ixs 1 (.g 3) (.g 6)),qL,qT 2] (.region [qM 0,qM 2,qA (.call 13 [qa]),qA (.strop 4 (.c (.s (.str [32]))) qa),qA (.call 11 [qd,qa])]))) (.region [qI 6,qT 6])))
def qjg:IC:=qr [qQ 3 (.mv (.g 1)),qQ 5 (.len qa),qQ 6 (.mv (qC 0))] (.block 0 (.loop jp5))
theorem q0g:T 12=some (.mk qjg 2 5 []):=ka
def j2e:IC:=.draw [(qM 0,.none),(qF 1 4,.none),(qL,.some []),(qA (.call 13 [qa]),.some []),(qA (.strop 4 (.c (.s (.str [32]))) qa),.some []),(qA (.strop 4 qa (.c (.s (.str [32])))),.some []),(qF 3 4,.none),(qL,.some [1,2,3,4]),(qP (.ixa 6 1 (.c (.s (.cp [.str [],.str [97,110,121],.str [114,101,103],.str [115,116,97,99,107],.str [102,105,120,101,100],.str [114,101,117,115,101]]))) qa),.none),(qL,.some [3,4,5,6]),(qA (.strop 4 (.l 4) qa),.none),(qA (.call 11 [.l 10,qa]),.none)]
def jtx:IC:=.seq j2e (qr [qF 3 4,qL,qQ 2 (.bin .ge qa (qC 4))] (.cond (.g 2) (.region [qM 0,qF 4 4,qL,qA (.call 13 [qa]),qA (.strop 4 (.c (.s (.str [32]))) qa),qA (.call 11 [.l 4,qa])]) .skip))
def qbl:IC:=qr [qB 4 (.box 80 (.g 1))] (qr [qM 0,qF 0 4,qL,qP (.ixa 3 1 (.c (.s (.cp [.str [],.str [117,115,101],.str [100,101,102]]))) qa),qL,qA (.strop 4 (.c (.s (.str [32]))) qa),qA (.call 11 [.l 5,qa])] (.seq (qr [qF 2 4,qB 3 (.load 1 false qa)] (.cond (.g 3) (.region [qM 0,qA (.call 11 [qa,.c (.s (.str [32,108,97,116,101]))])]) .skip)) jtx))
theorem qtf:T 26=some (.mk qbl 2 3 []):=ka
def jni:IC:=qr [qQ 9 (.bin .lt (.g 11) (.g 10))] (.seq (qX 9 0) (.seq (.block 1 (qr [qP (.ixs 5 (.g 8) (.g 11)),qK 5,qB 7 (.new 80 Za),qA (.store 5 qa qb)] (.region [qM 0,qA (.load 5 true (.g 7)),qA (.call 26 [qb,qa])]))) (.region [qI 11,qT 11])))
def j2f:IC:=.draw [(qM 0,.none),(qF 0 2,.none),(qL,.some []),(qA (.call 13 [qa]),.some []),(qA (.strop 4 (.c (.s (.str [32,115,112,111,105,108,115,32]))) qa),.some []),(qA (.strop 4 qa (.c (.s (.str [32])))),.some []),(qF 1 2,.none),(qL,.some [1,2,3,4]),(qA (.call 13 [qa]),.some [2,3]),(qA (.strop 4 qd qa),.none),(qA (.call 11 [.l 9,qa]),.none)]
def jnj:IC:=qr [qQ 4 (.bin .lt (.g 6) (.g 5))] (.seq (qX 4 2) (.seq (.block 3 (qr [qP (.ixs 2 (.g 3) (.g 6)),qK 2,qB 2 (.new 83 Zf),qA (.store 2 qa qb)] j2f)) (.region [qI 6,qT 6])))
def qbm:IC:=qr [qB 12 (.box 62 (.g 1))] (qr [qM 0,qF 0 12,qL,qA (.call 13 [qa]),qA (.strop 4 (.c (.s (.str [111,112,32]))) qa),qA (.call 11 [.l 4,qa])] (.seq (qr [qF 1 12,qB 8 (.load 1 false qa),qQ 10 (.len qa),qQ 11 (.mv (qC 0))] (.block 0 (.loop jni))) (.seq (qr [qF 2 12,qB 3 (.load 1 false qa),qQ 5 (.len qa),qQ 6 (.mv (qC 0))] (.block 2 (.loop jnj))) (.region [qM 0,qA (.call 14 [qa,.c (.s (.int .u8 10))])]))))
theorem qtg:T 15=some (.mk qbm 2 11 []):=ka
def j2g:IC:=.draw [(qF 4 21,.none),(qL,.some []),(qA (.call 13 [qa]),.some []),(qA (.strop 4 (.c (.s (.str [10,114,117,110,32]))) qa),.some []),(qA (.strop 4 qa (.c (.s (.str [32])))),.some []),(qF 5 21,.none),(qL,.some [1,2,3,4]),(qA (.call 13 [qa]),.some [2,3]),(qA (.strop 4 qd qa),.none),(qA (.call 11 [.g 18,qa]),.none)]
def j2h:IC:=.seq (.block 3 (qr [qP (.ixs 3 (.g 9) (.g 12)),qK 3,qB 8 (.new 62 Zg),qA (.store 3 qa qb)] (.region [qA (.load 3 true (.g 8)),qA (.call 15 [.g 18,qa])]))) (.region [qI 12,qT 12])
def jnk:IC:=qr [qQ 10 (.bin .lt (.g 12) (.g 11))] (.seq (qX 10 2) j2h)
def j2i:IC:=.seq (.block 5 (qr [qP (.ixs 2 (.g 4) (.g 7)),qK 2,qB 3 (.new 65 Zh),qA (.store 2 qa qb)] (qr [qF 0 3,qL,qA (.call 13 [qa]),qA (.strop 4 (.c (.s (.str [101,100,103,101,32]))) qa),qA (.call 11 [.g 18,qa])] (qr [qF 1 3,qL,qA (.call 12 [.g 18,qa])] (.region [qA (.call 14 [.g 18,.c (.s (.int .u8 10))])]))))) (.region [qI 7,qT 7])
def jnl:IC:=qr [qQ 5 (.bin .lt (.g 7) (.g 6))] (.seq (qX 5 4) j2i)
def j2j:IC:=.seq (.block 1 (qr [qP (.ixs 3 (.g 14) (.g 17)),qK 3,qB 13 (.new 58 Zi),qA (.store 3 qa qb)] (qr [qA (.call 11 [.g 18,.c (.s (.str [98,108,111,99,107]))])] (qr [qF 0 13,qL,qA (.call 12 [.g 18,qa])] (qr [qA (.call 14 [.g 18,.c (.s (.int .u8 10))])] (.seq (qr [qF 1 13,qB 9 (.load 1 false qa),qQ 11 (.len qa),qQ 12 (.mv (qC 0))] (.block 2 (.loop jnk))) (qr [qF 2 13,qB 4 (.load 1 false qa),qQ 6 (.len qa),qQ 7 (.mv (qC 0))] (.block 4 (.loop jnl))))))))) (.region [qI 17,qT 17])
def jnm:IC:=qr [qQ 15 (.bin .lt (.g 17) (.g 16))] (.seq (qX 15 0) j2j)
def j2k:IC:=qr [qB 18 (.new 47 [.nilPtr,.nilSlice])] (qr [qA (.call 11 [.g 18,.c (.s (.str [109,97,99,104,105,110,101]))])] (qr [qF 0 21,qG 0,qA (.slicea 2 1 qa),qA (.call 12 [.g 18,qa])] (.seq j2g (qr [qF 6 21,qL,qA (.call 12 [.g 18,qa])] (qr [qA (.call 11 [.g 18,.c (.s (.str [10,118,97,108,117,101,115]))])] (qr [qF 2 21,qG 0,qL,qA (.call 12 [.g 18,qa])] (qr [qA (.call 14 [.g 18,.c (.s (.int .u8 10))])] (.seq (qr [qF 2 21,qG 1,qB 14 (.load 1 false qa),qQ 16 (.len qa),qQ 17 (.mv (qC 0))] (.block 0 (.loop jnm))) (qr [qA (.call 16 [.g 18]),qT 2,qQ 1 (.mv (qC 0))] .ret)))))))))
def qbn:IC:=qr [qB 21 (.box 34 (.g 0)),qQ 2 (.mv (.c (.s (.str [])))),qQ 1 (.mv (qC 0))] (.seq (qr [qA (.load 7 true (.g 21)),qA (.call 10 [qa]),qT 20] (qr [qM 20,qQ 19 (.bin .ne qa (qC 0))] (.cond (.g 19) (qr [qM 20,qQ 2 (.mv (.c (.s (.str [])))),qQ 1 (.mv qb)] .ret) .skip))) j2k)
theorem qth:T 5=some (.mk qbn 1 21 [(.tmp 2),(.tmp 1)]):=ka
def qjh:IC:=qr [qQ 3 (.mv (qC 0)),qQ 2 (.mv (.c (.s (.ifc false))))] (qr [qM 0,qA (.call 24 [qa])] (qr [qM 0,qM 0,qN,qG 1,qL,qM 1,qA (.strop (5+7) qb qa),qP (.nchk (.l 6)),qG 1,qA (.store 1 qa qc)] (qr [qM 1,qA (.strop 3 qa qa),qT 3,qQ 2 (.mv (.c (.s (.ifc false))))] .ret)))
theorem q0h:T 11=some (.mk qjh 2 2 [(.tmp 3),(.tmp 2)]):=ka
def qji:IC:=qr [qQ 2 (.mv (.c (.s (.ifc false))))] (qr [qM 0,qA (.call 24 [qa])] (qr [qM 0,qM 0,qN,qG 1,qL,qM 1,qA (.bslice 5 1 [.int .u8 0] 1 [(0,(1,qa))]),qA (.app 5 1 1 qc qa),qP (.nchk (.l 7)),qG 1,qA (.store 1 qa qc)] (qr [qQ 2 (.mv (.c (.s (.ifc false))))] .ret)))
theorem q0i:T 14=some (.mk qji 2 1 [(.tmp 2)]):=ka
theorem jxx {h:Hp} (ok:Ok h) {b:Nat} (hb:1<=b) (x:Option AB):∃ hA,h.put b x=hA/\Ok hA/\hA.next=h.next/\hA.get b=x/\∀ n,n≠b->hA.get n=h.get n :=
 ⟨_,rfl,jas ok,Hp.next_put ..,by rw[jak ok hb,if_pos rfl],fun n hn=>by rw[jak ok hb,if_neg hn]⟩
end
end Go.Proofs.YtkpadfebkaangaaGreatDoor.Ev
namespace Go.Proofs.YtkpadfebkaangaaGreatDoor.Ms
set_option linter.all false
abbrev Rd:=List Nat×Bool
def q49 {α β:Type} (P:Rd->α×Rd) (f:α->β) (r:Rd):β×Rd:=(f (P r).1,(P r).2)
structure Scr where
 m1:Nat
 m2:Nat
 seed:Nat
 steps:Nat
 junk:List Nat
 f:Fc
def q0j {α:Type} (P:Rd->α×Rd):Prop:=∀ l s,(P (l,s)).2.2=false->s=false/\∀ t,P (l++t,false)=((P (l,s)).1,((P (l,s)).2.1++t,false))
theorem q0j.map {α β:Type} {P:Rd->α×Rd} {f:α->β} (hP:q0j P):q0j (q49 P f):=by
 intro l s h
 obtain⟨rfl,h2⟩:=hP l s h
 refine⟨rfl,fun t=>?_⟩
 show(f (P (l++t,false)).1,(P (l++t,false)).2)=_
 rw[h2 t]
 rfl
def jdp (n:Nat):List Nat:=[n / 16777216 % 256,n / 65536 % 256,n / 256 % 256,n % 256]
def jxd (l:List Nat):List Nat:=l.length::l
def qc7 (o:Opd):List Nat:=[o.kind+(if o.late=true then 4 else 0)+8*o.limit,o.value,o.n]
def qbo (r:Nat×Nat):Nat:=16*r.1+r.2
def jl5 (x:Ins):List Nat:=[x.op,x.ops.length,x.spoils.length]++((x.ops.map qc7).flatten++x.spoils.map qbo)
def jxe (e:Edg):List Nat:=e.block::jxd e.args
def qbp (b:Blk):List Nat:=jxd b.params++(b.instrs.length::((b.instrs.map jl5).flatten++(b.edges.length::(b.edges.map jxe).flatten)))
def j2l (s:Scr):List Nat:=[s.m1,s.m2]++(jdp s.seed++(jdp s.steps++(s.junk.length::((s.junk.map jdp).flatten++(jxd s.f.values++(s.f.blocks.length::(s.f.blocks.map qbp).flatten))))))
structure OkO (o:Opd):Prop where
 k:o.kind<4
 l:o.limit<32
 v:o.value<256
 n:o.n<256
structure OkI (x:Ins):Prop where
 op:x.op<256
 nops:x.ops.length<256
 nsp:x.spoils.length<256
 ops:∀ o∈x.ops,OkO o
 sp:∀ r∈x.spoils,r.1<16/\r.2<16
structure OkB (b:Blk):Prop where
 np:b.params.length<256
 p:∀ v∈b.params,v<256
 ni:b.instrs.length<256
 i:∀ x∈b.instrs,OkI x
 ne:b.edges.length<256
 e:∀ e∈b.edges,e.block<256/\e.args.length<256/\∀ v∈e.args,v<256
structure OkS (s:Scr):Prop where
 m1:s.m1<256
 m2:s.m2<256
 sd:s.seed<4294967296
 st:s.steps<4294967296
 nj:s.junk.length<256
 j:∀ n∈s.junk,n<4294967296
 nv:s.f.values.length<256
 v:∀ v∈s.f.values,v<256
 nb:s.f.blocks.length<256
 b:∀ b∈s.f.blocks,OkB b
theorem jp6 {α:Type} {B:α->List Nat} {l:List α} (h:∀ a∈l,∀ q∈B a,q<256):∀ q∈(l.map B).flatten,q<256:=fun q hq=>by
 obtain⟨s,hs,hq⟩:=List.mem_flatten.1 hq
 obtain⟨a,ha,rfl⟩:=f1j.1 hs
 exact h a ha q hq
theorem jko {a b:List Nat} (h1:∀ q∈a,q<256) (h2:∀ q∈b,q<256):∀ q∈a++b,q<256:=fun q hq=>(f0e.1 hq).elim (h1 q) (h2 q)
theorem jci {a:Nat} {b:List Nat} (h1:a<256) (h2:∀ q∈b,q<256):∀ q∈a::b,q<256:=fun q hq=>(f0f.1 hq).elim (fun e=>e▸h1) (h2 q)
theorem j2m:∀ q∈([]:List Nat),q<256:=se
theorem jzo (n:Nat):∀ q∈jdp n,q<256:=jci (Nat.mod_lt _ oa) (jci (Nat.mod_lt _ oa) (jci (Nat.mod_lt _ oa) (jci (Nat.mod_lt _ oa) j2m)))
theorem qti {s:Scr} (k:OkS s):∀ q∈j2l s,q<256:=by
 refine jko (jci k.m1 (jci k.m2 j2m)) (jko (jzo _) (jko (jzo _) (jci k.nj (jko (jp6 (fun n _=>jzo n)) (jko (jci k.nv k.v) (jci k.nb (jp6 (fun b hb=>?_))))))))
 have kb:=k.b b hb
 refine jko (jci kb.np kb.p) (jci kb.ni (jko (jp6 (fun x hx=>?_)) (jci kb.ne (jp6 (fun e he=>?_)))))
 .have ki:=kb.i x hx
  refine jko (jci ki.op (jci ki.nops (jci ki.nsp j2m))) (jko (jp6 (fun o ho=>?_)) (fun q hq=>?_))
  .have ko:=ki.ops o ho
   refine jci ?_ (jci ko.v (jci ko.n j2m))
   have:=ko.k
   have:=ko.l
   cases o.late<;>simp<;>omega
  .obtain ⟨r,hr,rfl⟩:=f1j.1 hq
   have:=ki.sp r hr
   unfold qbo;omega
 .obtain ⟨h1,h2,h3⟩:=kb.e e he
  exact jci h1 (jci h2 h3)
theorem qtj {m:Nat×Nat} {f:Fc} (k:FcOk m f) (m1:2<=m.1/\m.1<=10) (m2:2<=m.2/\m.2<=10) {sd st:Nat} (hs:sd<4294967296) (ht:st<4294967296) {j:List Nat} (hj:j.length<256) (hj2:∀ n∈j,n<4294967296):OkS ⟨m.1,m.2,sd,st,j,f⟩:=by
 have hv:=k.nv
 have hb:=k.nb
 have hg:∀ c,g2 m c<=10:=fun c=>by unfold g2;split<;>omega
 refine⟨show m.1<256 by omega,show m.2<256 by omega,hs,ht,hj,hj2,show f.values.length<256 by omega,fun v hv'=>by have:=k.cls v hv';omega,show f.blocks.length<256 by omega,fun b hb'=>?_⟩
 obtain⟨h1,h2,h3⟩:=k.blk b hb'
 refine⟨oa,fun v h=>by have:=k.prm b hb' v h;omega,oa,fun x hx=>?_,oa,fun e he=>?_⟩
 .have i:=k.ins b hb' x hx
  have h4:=i.op
  have h5:=i.nops
  have h6:=i.nsp
  refine⟨oa,oa,oa,fun o ho=>?_,fun r hr=>?_⟩
  .have q:=i.opd o ho
   have h7:=q.lim
   have h8:=q.val
   refine⟨by have:=q.kind;omega,oa,oa,?_⟩
   by_cases e:o.limit=5
   .obtain ⟨u,hu,_⟩:=i.reu o ho e
    have:=(f0q.1 hu).1
    omega
   .by_cases e2:o.limit=4
    .have:=q.fix e2
     have:=hg (cl f.values o.value)
     omega
    .have:=q.zero oa
     omega
  .have:=i.spo r hr
   have:=hg r.1
   exact⟨oa,oa⟩
 .obtain ⟨_,h4,t,h5,h6,_⟩:=k.edg b hb' e he
  have h7:=(f0q.1 h5).1
  have h8:=congrArg List.length h6
  simp only[f03] at h8
  have h9:=(k.blk t (f0c h5)).1
  exact⟨oa,oa,fun v hv'=>by have:=h4 v hv';omega⟩
end Go.Proofs.YtkpadfebkaangaaGreatDoor.Ms
namespace Go.Proofs.YtkpadfebkaangaaGreatDoor.Ev
noncomputable section
open Go Go.RowKit Go.Proofs.YtkpadfebkaangaaGreatDoor.Ms
set_option linter.all false
set_option maxRecDepth 100000
set_option maxHeartbeats 2000000
variable {x0 x1 x2 x3 x4 x5 x6 x7 x8 x9 x10 x11 x12 x13 x14 x15 x16 x17 x19 x20 x21:AV} {xl:SV}
structure Bl (h:Hp) (p:Nat) (bs:List UInt8) (o:List Nat):Prop where
 ok:Ok h
 ex:∃ c x,h.get p=some (.arr [c,x] bT)/\(c=.nilPtr∨c=.ptr p 0)/\((bs=[]/\o=[]/\x=.nilSlice)∨(∃ m,o=[m]/\x=.slice m 0 bs.length bs.length false 1/\h.get m=some (.arr (u8s bs) 5)))
 p1:1<=p/\p<h.next
 pn:p∉o
 lt:∀ n∈o,1<=n/\n<h.next
section
variable {h h':Hp} {p:Nat} {bs:List UInt8} {o:List Nat}
theorem Bl.keep (w:Bl h p bs o) (ok':Ok h') (hk:∀ n,n<h.next->h'.get n=h.get n) (hn:h.next<=h'.next):Bl h' p bs o:=by
 obtain⟨c,x,h1,h2,h3⟩:=w.ex
 refine⟨ok',⟨c,x,(hk p w.p1.2).trans h1,h2,?_⟩,⟨w.p1.1,by have:=w.p1.2;omega⟩,w.pn,fun n hm=>by have:=w.lt n hm;omega⟩
 rcases h3 with h3 | ⟨m,rfl,h4,h5⟩
 .exact .inl h3
 .exact .inr ⟨m,rfl,h4,(hk m (w.lt m se).2).trans h5⟩
theorem qbq (w:Bl h p bs o):∃ hA x,qp0 [.s (.ptr p 0)] h=some (.tup [],hA)/\hA.get p=some (.arr [.ptr p 0,x] bT)/\Bl hA p bs o/\Mv h hA (p::o) (p::o):=by
 obtain⟨c,x,h1,h2,h3⟩:=w.ex
 have ok0:=w.ok
 obtain⟨hp1,hp2⟩:=w.p1
 rcases h2 with rfl | rfl
 .obtain ⟨hA,eA,okA,nA,xA,gA⟩:=jxx ok0 hp1 (some (.arr [.ptr p 0,x] bT))
  refine⟨hA,x,?_,xA,⟨okA,⟨_,x,xA,.inr rfl,?_⟩,⟨hp1,oa⟩,w.pn,fun n hn=>by have:=w.lt n hn;omega⟩,⟨okA,oa,fun n hn=>.inl hn,fun n hn hm=>gA n (fun e=>hm (by simp[e]))⟩⟩
  .unfold qp0
   simp only[h1,qpy]
   rw[show Nat.beq bT bT=true from f1w _]
   show ob (wr h p 0 [.ptr p 0]) (fun h'=>ok (.tup []) h')=_
   rw[qll ok0,h1,jsq]
   show ob (some (h.put p (some (.arr [.ptr p 0,x] bT)))) _=_
   rw[eA];rfl
  .rcases h3 with h3 | ⟨m,rfl,h4,h5⟩
   .exact .inl h3
   .exact .inr ⟨m,rfl,h4,(gA m (fun e=>w.pn (by simp[e]))).trans h5⟩
 .refine ⟨h,x,?_,h1,w,Mv.refl ok0⟩
  unfold qp0
  simp only[h1,qpy]
  rw[show Nat.beq bT bT=true from f1w _,show Nat.beq p p=true from f1w _]
  rfl
theorem qjj (w:Bl h p bs o) {s:List UInt8} (hs:s≠[]) (hl:bs.length+s.length<=1000000000) {c x:SV} (hg:h.get p=some (.arr [c,x] bT)):∃ x' hM hN m,jlb h 5 1 1 s.length (.s x) (u8s s)=some (.s x',hM)/\Ok hM/\hM.get p=some (.arr [c,x] bT) /\
 hM.put p (some (.arr [c,x'] bT))=hN/\Ok hN/\(c=.nilPtr∨c=.ptr p 0->Bl hN p (bs++s) [m])/\Mv h hN (p::o) [p,m]:=by
 obtain⟨c',x2,h1,h2,h3⟩:=w.ex
 rw[hg] at h1
 cases h1
 have ok0:=w.ok
 obtain⟨hp1,hp2⟩:=w.p1
 have hs0:0<s.length:=f1v.2 hs
 obtain⟨k,hk⟩:∃ k,s.length=k+1:=⟨s.length - 1,oa⟩
 rcases h3 with⟨rfl,rfl,rfl⟩ | ⟨m,rfl,rfl,h5⟩
 .obtain ⟨hM,eM,okM,nM,xM,gM⟩:=jdw ok0 (u8s s) 5
  obtain⟨hN,eN,okN,nN,xN,gN⟩:=jxx okM hp1 (some (.arr [c,.slice h.next 0 s.length s.length false 1] bT))
  refine⟨.slice h.next 0 s.length s.length false 1,hM,hN,h.next,?_,okM,(gM p hp2).trans hg,eN,okN,fun hc=>⟨okN,⟨c,_,xN,hc,.inr ⟨h.next,rfl,se,(gN _ oa).trans (by simpa using xM)⟩⟩,⟨hp1,oa⟩,by simp;omega,fun n hn=>by simp at hn;subst hn;have:=ok0.pos;omega⟩,⟨okN,oa,fun n hn=>?_,fun n hn hm=>?_⟩⟩
  .rw [hk]
   show jjm 1 (k+1) (nw h (u8s s) 5 (fun q h=>ok (.s (.slice q 0 (k+1) (k+1) false 1)) h))=_
   rw[jm5 oa oa,jvx ok0,eM];rfl
  .rcases f0f.1 hn with rfl | hn
   .exact .inl se
   .simp at hn;subst hn;exact .inr (f0h _)
  .rw [gN n (fun e=>hm (by simp[e]))];exact gM n hn
 .obtain ⟨hm1,hm2⟩:=w.lt m se
  have hpm:p≠m:=fun e=>w.pn (by simp[e])
  obtain⟨hK,eK,okK,nK,xK,gK⟩:=jxx ok0 hm1 none
  obtain⟨hM,eM,okM,nM,xM,gM⟩:=jdw okK (u8s (bs++s)) 5
  obtain⟨hN,eN,okN,nN,xN,gN⟩:=jxx okM hp1 (some (.arr [c,.slice h.next 0 (bs.length+s.length) (bs.length+s.length) false 1] bT))
  rw[nK] at xM gM nM
  have gp:hM.get p=some (.arr [c,.slice m 0 bs.length bs.length false 1] bT):=(gM p hp2).trans ((gK p hpm).trans hg)
  have e8:u8s (bs++s)=u8s bs++u8s s:=by rw[jq8,jq8,jq8,f20]
  have l8:(u8s bs).length=bs.length:=by rw[jq8,f03]
  refine⟨.slice h.next 0 (bs.length+s.length) (bs.length+s.length) false 1,hM,hN,h.next,?_,okM,gp,eN,okN,fun hc=>⟨okN,⟨c,_,xN,hc,.inr ⟨h.next,rfl,by rw[f0d],(gN _ oa).trans xM⟩⟩,⟨hp1,oa⟩,by simp;omega,fun n hn=>by simp at hn;subst hn;have:=ok0.pos;omega⟩,⟨okN,oa,fun n hn=>?_,fun n hn hm=>?_⟩⟩
  .have e1:Nat.ble (Nat.add bs.length s.length) bs.length=false:=by
    cases e:Nat.ble (Nat.add bs.length s.length) bs.length with
    | false=>rfl
    | true=>have:bs.length+s.length<=bs.length:=f0l e;omega
   show oif (Nat.beq 1 1) (oif (Nat.ble (Nat.add bs.length s.length) bs.length) _ (jjm 1 (Nat.add bs.length s.length) (jla h 5 1 m 0 bs.length s.length false (u8s s)))) none=_
   rw[e1]
   show jjm 1 (bs.length+s.length) (jla h 5 1 m 0 bs.length s.length false (u8s s))=_
   rw[jm5 oa oa]
   show ob (h.get m) _=_
   rw[h5]
   show ob (jbp (Nat.mul bs.length 1) (u8s bs)) (fun old=>oif (Nat.ble h.lo m) (oif (Nat.beq 5 5) (nw (h.put m none) (jf8 old (u8s s)) 5 (fun k h=>ok (.s (.slice k 0 (Nat.add bs.length s.length) (Nat.add bs.length s.length) false 1)) h)) none) none)=_
   rw[show jbp (Nat.mul bs.length 1) (u8s bs)=some (u8s bs) from (ja8 _).2 ⟨by rw[l8];exact f2t (f12 _),by rw[show Nat.mul bs.length 1=bs.length from f12 _,←l8,f2v]⟩]
   show oif (Nat.ble h.lo m) _ none=_
   rw[ok0.lo,show Nat.ble 0 m=true from jbn (f15 _)]
   show nw (h.put m none) (jf8 (u8s bs) (u8s s)) 5 (fun k h=>ok (.s (.slice k 0 (Nat.add bs.length s.length) (Nat.add bs.length s.length) false 1)) h)=_
   rw[eK,jvx okK,jcv,←e8,eM,nK];rfl
  .rcases f0f.1 hn with rfl | hn
   .exact .inl se
   .simp at hn;subst hn;exact .inr (f0h _)
  .rw [gN n (fun e=>hm (by simp[e])),gM n hn]
   exact gK n (fun e=>hm (by simp[e]))
end
def Bf (f:FuncId):Bool:=Nat.beq f 11||(Nat.beq f 14||(Nat.beq f 12||(Nat.beq f 26||(Nat.beq f 15||Nat.beq f 5))))
structure BlF (F:Fns):Prop where
 x:∀ f,Bf f=true->∀ vs h,jc1 F f vs h=none
 t:j4i F=T
 l:∀ f vs h r,jqt f vs h=some r->jc1 F f vs h=some r
section
variable {F:Fns} {h:Hp} {p:Nat} {bs:List UInt8} {o:List Nat}
def Bln (h:Hp) (p:Nat) (bs:List UInt8) (o:List Nat) (l:List UInt8):AV->Hp->Prop:=fun _ h'=>∃ m,Bl h' p (bs++l) [m]/\Mv h h' (p::o) [p,m]
theorem jep (f:BlF F) (w:Bl h p bs o) {s:List UInt8} (hs:s≠[]) (hl:bs.length+s.length<=1000000000):WC F 11 [.s (.ptr p 0),.s (.str s)] h (Bln h p bs o s):=by
 refine jaz (f.x _ rfl _ _) ((congrFun f.t _).trans q0h) rfl ?_
 unfold qjh
 obtain⟨hA,x,e1,xA,wA,mA⟩:=qbq w
 have okA:=wA.ok
 have hc:=fun(Q:AV->Hp->Prop)=>jam (F:=F) (Q:=Q) (f.l 24 _ _ _ (show jqt 24 [.s (.ptr p 0)] h=_ from e1))
 obtain⟨x',hM,hN,m,t1,okM,xM,eN,okN,wN,mN⟩:=qjj wA hs hl xA
 have hln:=jzn (l:=s) oa
 have hll:jb6 s=s.length:=jba s
 simp(disch:=go_num) only[go_sem,jce,jcf,jcg,ja1,jap,jch,ja2,hc,xA,hll,t1,xM,eN,hln]
 exact⟨m,wN (.inr rfl),mA.trans mN⟩
end
def ito (n:Nat):List UInt8:=dig 19 n []
theorem qbr:∀ (f n:Nat) (acc:List UInt8),(dig f n acc).length<=f+acc.length
 | 0,n,acc=>by show acc.length<=_;omega
 | f+1,n,acc=>by
  show(oif (Nat.ble n 9) (UInt8.ofNat (48+n)::acc) (dig f (n / 10) (UInt8.ofNat (48+n % 10)::acc))).length<=_
  rw[jat]
  split
  .simp;omega
  .have:=qbr f (n / 10) (UInt8.ofNat (48+n % 10)::acc)
   rw[f0i] at this;omega
theorem jcm (n:Nat):(ito n).length<=19:=qbr 19 n []
def ji1 (l:List Nat):List UInt8:=(l.map (fun n=>(32:UInt8)::ito n)).flatten
theorem jkp (n:Nat) (l:List Nat):ji1 (n::l)=32::ito n++ji1 l:=rfl
theorem jf5:∀ l:List Nat,(ji1 l).length<=20*l.length
 | []=>f0h _
 | n::l=>by have:=jf5 l;have:=jcm n;rw[jkp];simp;omega
def RdN (h:Hp) (xl:SV) (l:List Nat) (own:List Nat):Prop:=xl=jaf jav l∨∃ b o mc ex cells ty,xl=.slice b o l.length mc ex 1/\h.get b=some (.arr cells ty)/\b<h.next/\b∉own/\∀ (i n:Nat),l[i]?=some n->cells[o+i]?=some (si n)
theorem RdN.len {h:Hp} {l own:List Nat} (r:RdN h xl l own):jsn (.s xl)=some (vi l.length):=by
 rcases r with rfl | ⟨b,o,mc,ex,cells,ty,rfl,_⟩
 .exact jah
 .rfl
theorem RdN.mv {h h':Hp} {l own own':List Nat} (r:RdN h xl l own) (m:Mv h h' own own'):RdN h' xl l own':=by
 rcases r with rfl | ⟨b,o,mc,ex,cells,ty,rfl,h1,h2,h3,h4⟩
 .exact .inl rfl
 .exact .inr ⟨b,o,mc,ex,cells,ty,rfl,(m.keep b h2 h3).trans h1,f0o h2 m.nx,fun hc=>by
   rcases m.new b hc with h5 | h5
   .exact h3 h5
   .omega,h4⟩
section
variable {F:Fns} {h:Hp} {p:Nat} {bs:List UInt8} {o:List Nat}
theorem jex (f:BlF F) {n:Nat} (hn:n<=9223372036854775807) {Q:AV->Hp->Prop}:WC F 13 [vi (n:Int)] h Q=Q (.s (.str (ito n))) h:=by
 refine jam (f.l 13 _ _ _ ?_)
 show qux [.s (.int .i64 (Int.ofNat n))] h=_
 show oif (Nat.ble n 9223372036854775807) (some (AV.s (.str (dig 19 n [])),h)) none=_
 rw[jbn hn];rfl
def q1h (h:Hp) (p:Nat) (bs:List UInt8) (o:List Nat) (l:List UInt8):AV->Hp->Prop:=fun _ h'=>∃ o',Bl h' p (bs++l) o'/\Mv h h' (p::o) (p::o')
theorem jty (f:BlF F) (w:Bl h p bs o) (hl:bs.length+1<=1000000000):WC F 14 [.s (.ptr p 0),.s (.int .u8 10)] h (Bln h p bs o [10]):=by
 refine jaz (f.x _ rfl _ _) ((congrFun f.t _).trans q0i) rfl ?_
 unfold qji
 obtain⟨hA,x,e1,xA,wA,mA⟩:=qbq w
 have okA:=wA.ok
 have hc:=fun(Q:AV->Hp->Prop)=>jam (F:=F) (Q:=Q) (f.l 24 _ _ _ (show jqt 24 [.s (.ptr p 0)] h=_ from e1))
 obtain⟨hB,eB,okB,nB,xB,gB⟩:=jdw okA [.int .u8 10] 5
 have wB:=wA.keep okB gB oa
 have zB:=(gB p wA.p1.2).trans xA
 obtain⟨x',hM,hN,m,t1,okM,xM,eN,okN,wN,mN⟩:=qjj (s:=[10]) wB se (by simpa using hl) zB
 have t2:jmr hB 5 1 1 (.s x) (.s (.slice hA.next 0 1 1 true 1))=some (.s x',hM):=by
  show ob (rd hB hA.next 0 (Nat.mul 1 1)) (fun new=>jlb hB 5 1 1 1 (.s x) new)=_
  rw[qrn,xB]
  exact t1
 simp(disch:=go_num) only[go_sem,jce,jcf,jcg,ja1,jap,jch,ja2,hc,xA,eB,t2,xM,eN]
 exact⟨m,wN (.inr rfl),mA.trans (Mv.trans ⟨okB,oa,fun n hn=>.inl hn,fun n hn _=>gB n hn⟩ mN)⟩
theorem qjk (f:BlF F) {l:List Nat} (hb:∀ n∈l,n<=9223372036854775807) (hl:l.length<=10000000) {Q:Ex->St->Prop} :
 ∀ (d i:Nat) (_:i+d=l.length) {hi:Hp} {bs:List UInt8} {o:List Nat} (_:Bl hi p bs o) (_:RdN hi xl l (p::o)) (_:bs.length+20*d<=1000000000) {x2 x4:AV}
  (hQ:∀ hj o' x2 x4,Bl hj p (bs++ji1 (l.drop i)) o'->Mv hi hj (p::o) (p::o')->Q (.exit 0) (.mk [.s (.ptr p 0),x1,x2,.s xl,x4,vi l.length,vi l.length] hj)),
  W F jp5.loop (.mk [.s (.ptr p 0),x1,x2,.s xl,x4,vi l.length,vi i] hi) Q
 | 0,i,hd,hi,bs,o,w,r,hw,x2,x4,hQ=>by
  obtain rfl:i=l.length:=oa
  rw[jai]
  unfold jp5
  have ok:=w.ok
  simp(disch:=go_num) only[go_sem,f0s]
  exact hQ hi o _ _ (by rw[f1s];simpa[ji1] using w) (Mv.refl ok)
 | d+1,i,hd,hi,bs,o,w,r,hw,x2,x4,hQ=>by
  have hil:i<l.length:=oa
  have hlt:(i:Int)<(l.length:Int):=oa
  have hss:(i:Int)+1=((i+1:Nat):Int):=oa
  obtain⟨n,hn⟩:∃ n,l[i]?=some n:=⟨_,f0b hil⟩
  have hdr:l.drop i=n::l.drop (i+1):=by rw[f0w hil,(f0q.1 hn).2]
  have ok:=w.ok
  have hni:=jcm n
  have hit:=fun(h:Hp) (Q:AV->Hp->Prop)=>jex (h:=h) (Q:=Q) f (hb n (f0c hn))
  have hct:=jd5 (l:=[32]) (r:=ito n) (by simp;omega)
  have hlen:([32]++ito n).length<=20:=by simp;omega
  have step:∀ {x2':AV},WC F 11 [.s (.ptr p 0),.s (.str ([32]++ito n))] hi (fun v hj=>∀ x2 x4,W F jp5.loop (.mk [.s (.ptr p 0),x1,x2,.s xl,x4,vi l.length,vi ((i+1:Nat):Int)] hj) Q):=by
   intro x2'
   refine WC.imp (jep f w se oa) ?_
   rintro v hj ⟨m,w1,m1⟩ x2 x4
   exact qjk f hb hl d (i+1) oa w1 (r.mv m1) (by rw[f0d];omega) (fun hk o' x2 x4 w' m'=>hQ hk o' x2 x4 (by rw[hdr,jkp];simpa[f0g] using w') (m1.trans m'))
  rw[jai]
  unfold jp5
  rcases r with hxl | ⟨b,q,mc,ex,cells,ty,hxl,r1,r2,r3,r4⟩
  .have hix:jqo 1 (.s xl) (vi (i:Int))=some (.s (.cp (jav n))):=by rw[hxl];exact jaj (enc:=jav) (size:=1) hn rfl
   simp(disch:=go_num) only[go_sem,jce,jcf,jcg,ja1,jap,jch,ja2,jad,eq_true hlt,hix,jav,hit,hct]
   refine WC.imp (step (x2':=x2)) ?_
   intro v hj hh
   simp(disch:=go_num) only[go_sem,jad,hss]
   exact hh _ _
  .have hix:jqo 1 (.s xl) (vi (i:Int))=some (.s (.ptr b (q+i*1))):=by rw[hxl];exact jct hil
   have hrd:rdB (hi.get b) (q+i*1) 1=some [si n]:=by rw[r1];exact jwq (by rw[f12];exact r4 i n hn)
   simp(disch:=go_num) only[go_sem,jce,jcf,jcg,ja1,jap,jch,ja2,jad,eq_true hlt,hix,hrd,hit,hct]
   refine WC.imp (step (x2':=x2)) ?_
   intro v hj hh
   simp(disch:=go_num) only[go_sem,jad,hss]
   exact hh _ _
theorem jp7 (f:BlF F) (w:Bl h p bs o) {l:List Nat} (hb:∀ n∈l,n<=9223372036854775807) (hl:l.length<=10000000) (r:RdN h xl l (p::o)) (hw:bs.length+20*l.length<=1000000000):WC F 12 [.s (.ptr p 0),.s xl] h (q1h h p bs o (ji1 l)):=by
 refine jaz (f.x _ rfl _ _) ((congrFun f.t _).trans q0g) rfl ?_
 unfold qjg
 have ok:=w.ok
 have ll:=r.len
 simp(disch:=go_num) only[go_sem,ll]
 refine qjk f hb hl l.length 0 oa w r oa (fun hj o' x2 x4 w' m'=>?_)
 simp(disch:=go_num) only[go_sem]
 exact⟨o',by rw[f1f] at w';exact w',m'⟩
end
def kw:Nat->List UInt8
 | 1=>[117,115,101]
 | 2=>[100,101,102]
 | _=>[]
def lw:Nat->List UInt8
 | 1=>[97,110,121]
 | 2=>[114,101,103]
 | 3=>[115,116,97,99,107]
 | 4=>[102,105,120,101,100]
 | 5=>[114,101,117,115,101]
 | _=>[]
theorem qjl (k:Nat):(kw k).length<=3:=by unfold kw;split<;>simp
theorem qjm (k:Nat):(lw k).length<=5:=by unfold lw;split<;>simp
theorem q0k {k:Nat} (hk:k<=2):jbp 1 (jb9 (k*1) [SV.str [],.str [117,115,101],.str [100,101,102]])=some [.str (kw k)]:=by
 match k,hk with
 | 0,_=>rfl
 | 1,_=>rfl
 | 2,_=>rfl
theorem q0l {k:Nat} (hk:k<=5):jbp 1 (jb9 (k*1) [SV.str [],.str [97,110,121],.str [114,101,103],.str [115,116,97,99,107],.str [102,105,120,101,100],.str [114,101,117,115,101]])=some [.str (lw k)]:=by
 match k,hk with
 | 0,_=>rfl
 | 1,_=>rfl
 | 2,_=>rfl
 | 3,_=>rfl
 | 4,_=>rfl
 | 5,_=>rfl
def jxf (o:Ms.Opd):List UInt8:=((([32]++ito o.value)++[32])++lw o.limit)++(if 4<=o.limit then [32]++ito o.n else [])
def jzp (o:Ms.Opd):List UInt8:=([32]++kw o.kind)++((if o.late=true then [32,108,97,116,101] else [])++jxf o)
theorem jtz (o:Ms.Opd):(jzp o).length<=60:=by
 have h1:=qjl o.kind
 have h2:=qjm o.limit
 have h3:=jcm o.value
 have h4:=jcm o.n
 unfold jzp jxf
 simp only[f0d,f0i,f00]
 split<;>split<;>simp<;>omega
structure TkO (o:Ms.Opd):Prop where
 k:o.kind<=2
 l:o.limit<=5
 v:o.value<=9223372036854775807
 n:o.n<=9223372036854775807
section
variable {F:Fns} {h:Hp} {p:Nat} {bs:List UInt8} {o:List Nat}
theorem qop (f:BlF F) (w:Bl h p bs o) {x:Ms.Opd} (k:TkO x) (hw:bs.length<=900000000):WC F 26 [.s (.ptr p 0),.agg (jbc x)] h (q1h h p bs o (jzp x)):=by
 refine jaz (f.x _ rfl _ _) ((congrFun f.t _).trans qtf) rfl ?_
 unfold qbl jbc
 have ok:=w.ok
 have hki:=q0k k.k
 have hli:=q0l k.l
 have l1:=qjl x.kind
 have l2:=qjm x.limit
 have l3:=jcm x.value
 have l4:=jcm x.n
 obtain⟨hA,eA,okA,nA,xA,gA⟩:=jdw ok [si x.kind,si x.value,.bool x.late,si x.limit,si x.n] 80
 have wA:=w.keep okA gA oa
 have mA:Mv h hA (p::o) (p::o):=⟨okA,oa,fun n hn=>.inl hn,fun n hn _=>gA n hn⟩
 have c1:=jd5 (l:=[32]) (r:=kw x.kind) (by simp;omega)
 have c2:=jd5 (l:=[32]) (r:=ito x.value) (by simp;omega)
 have c3:=jd5 (l:=32::ito x.value) (r:=[32]) (by simp;omega)
 have c4:=jd5 (l:=32::(ito x.value++[32])) (r:=lw x.limit) (by simp;omega)
 have c5:=jd5 (l:=[32]) (r:=ito x.n) (by simp;omega)
 have i1:=fun(h:Hp) (Q:AV->Hp->Prop)=>jex (h:=h) (Q:=Q) f k.v
 have i2:=fun(h:Hp) (Q:AV->Hp->Prop)=>jex (h:=h) (Q:=Q) f k.n
 have hk3:x.kind<3:=by have:=k.k;omega
 have hl6:x.limit<6:=by have:=k.l;omega
 have fA:h.next∉p::o:=fun hc=>by
  rcases f0f.1 hc with h1 | h1
  .have:=w.p1.2;omega
  .have:=w.lt _ h1;omega
 have out:∀ {hi hj:Hp} {o1 o2:List Nat},h.next<hi.next/\h.next∉p::o1->Mv hi hj (p::o1) (p::o2)->h.next<hj.next/\h.next∉p::o2:=fun h0 m=>⟨f0o h0.1 m.nx,fun hc=>by
  rcases m.new _ hc with h1 | h1
  .exact h0.2 h1
  .have:=h0.1;omega⟩
 simp(disch:=go_num) only[go_sem,jce,jcf,jcg,ja1,jap,jch,ja2,eA,xA,hki,c1]
 refine WC.imp (jep f wA (s:=[32]++kw x.kind) se (by simp;omega)) ?_
 rintro v hB ⟨m1,w1,e1⟩
 have b1:=out ⟨oa,fA⟩ e1
 have xB:=(e1.keep h.next oa fA).trans xA
 have okB:=w1.ok
 have last:∀ {hC:Hp} {m2:Nat} {bs':List UInt8} {x2 x3:AV} {Q:AV->Hp->Prop},Bl hC p bs' [m2]->h.next<hC.next/\h.next∉[p,m2]->hC.get h.next=some (.arr [si x.kind,si x.value,.bool x.late,si x.limit,si x.n] 80)->bs'.length<=900000010 ->
  (∀ v hD m3,Bl hD p (bs'++jxf x) [m3]->Mv hC hD [p,m2] [p,m3]->Q v hD) ->
  W F jtx (.mk [.s (.ptr p 0),.agg [si x.kind,si x.value,.bool x.late,si x.limit,si x.n],x2,x3,.s (.ptr h.next 0)] hC) (jqh [] Q):=by
  intro hC m2 bs' x2 x3 Q w2 b2 xC hb hQ
  have okC:=w2.ok
  unfold jtx j2e
  have hh:(hC.next<=h.next/\h.next<hC.next)=False:=eq_false oa
  simp(disch:=go_num) only[go_sem,jce,jcf,jcg,ja1,jap,jch,ja2,xC,i1,c2,c3,c4,hli,hh]
  refine WC.imp (jep f w2 (s:=(([32]++ito x.value)++[32])++lw x.limit) se (by simp;omega)) ?_
  rintro v hD ⟨m3,w3,e3⟩
  have okD:=w3.ok
  have xD:=(e3.keep h.next b2.1 b2.2).trans xC
  by_cases h4:4<=x.limit
  .have q4:(4:Int)<=(x.limit:Int):=oa
   simp(disch:=go_num) only[go_sem,jce,jcf,jcg,ja1,jap,jch,ja2,xD,i2,c5,eq_true q4]
   refine WC.imp (jep f w3 (s:=[32]++ito x.n) se (by simp;omega)) ?_
   rintro v hE ⟨m4,w4,e4⟩
   have okE:=w4.ok
   simp(disch:=go_num) only[go_sem]
   refine hQ _ _ m4 ?_ (e3.trans e4)
   unfold jxf
   rw[if_pos h4,←f0g];exact w4
  .have q4:((4:Int)<=(x.limit:Int))=False:=eq_false oa
   simp(disch:=go_num) only[go_sem,jce,jcf,jcg,ja1,jap,jch,ja2,xD,q4]
   refine hQ _ _ m3 ?_ e3
   unfold jxf
   rw[if_neg h4,f06];exact w3
 cases el:x.late with
 | false =>
  rw[el] at xB last
  simp(disch:=go_num) only[go_sem,jce,jcf,jcg,ja1,jap,jch,ja2,xB]
  refine last w1 b1 xB (by simp;omega) (fun v hD m3 w3 e3=>⟨[m3],?_,mA.trans (e1.trans e3)⟩)
  unfold jzp
  rw[el,←f0g];exact w3
 | true =>
  rw[el] at xB last
  simp(disch:=go_num) only[go_sem,jce,jcf,jcg,ja1,jap,jch,ja2,xB]
  refine WC.imp (jep f w1 (s:=[32,108,97,116,101]) se (by simp;omega)) ?_
  rintro v hC ⟨m2,w2,e2⟩
  have okC:=w2.ok
  have b2:=out b1 e2
  have xC:=(e2.keep h.next b1.1 b1.2).trans xB
  simp(disch:=go_num) only[go_sem,jce,jcf,jcg,ja1,jap,jch,ja2]
  refine last w2 b2 xC (by simp;omega) (fun v hD m3 w3 e3=>⟨[m3],?_,mA.trans (e1.trans (e2.trans e3))⟩)
  unfold jzp
  rw[el,←f0g,←f0g];exact w3
end
def j51 (r:Nat×Nat):List UInt8:=(([32,115,112,111,105,108,115,32]++ito r.1)++[32])++ito r.2
def j2n (x:Ms.Ins):List UInt8:=((([111,112,32]++ito x.op)++(x.ops.map jzp).flatten)++(x.spoils.map j51).flatten)++[10]
theorem jt0 (r:Nat×Nat):(j51 r).length<=60:=by
 have h1:=jcm r.1
 have h2:=jcm r.2
 unfold j51;simp;omega
theorem jkq {α:Type} {f:α->List UInt8} {k:Nat} (hf:∀ a,(f a).length<=k):∀ l:List α,((l.map f).flatten).length<=k*l.length
 | []=>se
 | a::l=>by have:=jkq hf l;have:=hf a;rw[f0u,f0t,f0d,f0i,Nat.mul_succ];omega
structure TkI (x:Ms.Ins):Prop where
 op:x.op<=9223372036854775807
 nops:x.ops.length<=20
 nsp:x.spoils.length<=40
 ops:∀ o∈x.ops,TkO o
 sp:∀ r∈x.spoils,r.1<=9223372036854775807/\r.2<=9223372036854775807
theorem jt1 {x:Ms.Ins} (k:TkI x):(j2n x).length<=4000:=by
 have h1:=jcm x.op
 have h2:=jkq jtz x.ops
 have h3:=jkq jt0 x.spoils
 have:=k.nops
 have:=k.nsp
 unfold j2n
 simp only[f0d,f0i,f00]
 omega
section
variable {F:Fns} {h:Hp} {p:Nat} {bs:List UInt8} {o:List Nat}
theorem Bl.low {h h':Hp} {p:Nat} {o:List Nat} (ok:Ok h') (hn:h.next<=h'.next) (g:∀ n,n<h.next->h'.get n=h.get n):Mv h h' (p::o) (p::o):=⟨ok,hn,fun n hm=>.inl hm,fun n hn _=>g n hn⟩
theorem Bl.fresh (w:Bl h p bs o):h.next∉p::o:=fun hc=>by
 rcases f0f.1 hc with h1 | h1
 .have:=w.p1.2;omega
 .have:=w.lt _ h1;omega
theorem Bl.out {hi hj:Hp} {p n:Nat} {o1 o2:List Nat} (h0:n<hi.next/\n∉p::o1) (m:Mv hi hj (p::o1) (p::o2)):n<hj.next/\n∉p::o2:=⟨f0o h0.1 m.nx,fun hc=>by
 rcases m.new _ hc with h1 | h1
 .exact h0.2 h1
 .have:=h0.1;omega⟩
theorem qjn (f:BlF F) {l:List Ms.Opd} (hok:∀ o∈l,TkO o) (hl:l.length<=1000) {Q:Ex->St->Prop} :
 ∀ (d i:Nat) (_:i+d=l.length) {hi:Hp} {bs:List UInt8} {o:List Nat} (_:Bl hi p bs o) (_:bs.length+60*d<=900000000) {x7 x9:AV}
  (hQ:∀ hj o' x7 x9,Bl hj p (bs++((l.drop i).map jzp).flatten) o'->Mv hi hj (p::o) (p::o')->Q (.exit 0) (.mk [.s (.ptr p 0),x1,x2,x3,x4,x5,x6,x7,.s (jaf jbc l),x9,vi l.length,vi l.length,x12] hj)),
  W F jni.loop (.mk [.s (.ptr p 0),x1,x2,x3,x4,x5,x6,x7,.s (jaf jbc l),x9,vi l.length,vi i,x12] hi) Q
 | 0,i,hd,hi,bs,o,w,hw,x7,x9,hQ=>by
  obtain rfl:i=l.length:=oa
  rw[jai]
  unfold jni
  have ok:=w.ok
  simp(disch:=go_num) only[go_sem,f0s]
  exact hQ hi o _ _ (by rw[f1s];simpa using w) (Mv.refl ok)
 | d+1,i,hd,hi,bs,o,w,hw,x7,x9,hQ=>by
  have hil:i<l.length:=oa
  have hlt:(i:Int)<(l.length:Int):=oa
  have hss:(i:Int)+1=((i+1:Nat):Int):=oa
  obtain⟨x,hx⟩:∃ n,l[i]?=some n:=⟨_,f0b hil⟩
  have hdr:l.drop i=x::l.drop (i+1):=by rw[f0w hil,(f0q.1 hx).2]
  have hix:=jaj (enc:=jbc) (size:=5) hx rfl
  have ok:=w.ok
  have hxl:=jtz x
  obtain⟨hA,eA,okA,nA,xA,gA⟩:=jby ok Za (jbc x) 80
  have wA:=w.keep okA gA oa
  have run:=qop f wA (hok x (f0c hx)) oa
  unfold jbc at xA eA run
  rw[jai]
  unfold jni
  simp(disch:=go_num) only[go_sem,jad,eq_true hlt,hix,jbc,eA,xA]
  refine WC.imp run ?_
  rintro v hB ⟨o1,w1,m1⟩
  have okB:=w1.ok
  simp(disch:=go_num) only[go_sem,jad,hss]
  exact qjn f hok hl d (i+1) oa w1 (by rw[f0d];omega) (fun hj o' x7 x9 w' m'=>hQ hj o' x7 x9 (by rw[hdr,f0u,f0t,←f0g];exact w') ((Bl.low okA oa gA).trans (m1.trans m')))
theorem qjo (f:BlF F) {l:List (Nat×Nat)} (hok:∀ r∈l,r.1<=9223372036854775807/\r.2<=9223372036854775807) (hl:l.length<=1000) {Q:Ex->St->Prop} :
 ∀ (d i:Nat) (_:i+d=l.length) {hi:Hp} {bs:List UInt8} {o:List Nat} (_:Bl hi p bs o) (_:bs.length+60*d<=900000000) {x2 x4:AV}
  (hQ:∀ hj o' x2 x4,Bl hj p (bs++((l.drop i).map j51).flatten) o'->Mv hi hj (p::o) (p::o')->Q (.exit 2) (.mk [.s (.ptr p 0),x1,x2,.s (jaf jcq l),x4,vi l.length,vi l.length,x7,x8,x9,x10,x11,x12] hj)),
  W F jnj.loop (.mk [.s (.ptr p 0),x1,x2,.s (jaf jcq l),x4,vi l.length,vi i,x7,x8,x9,x10,x11,x12] hi) Q
 | 0,i,hd,hi,bs,o,w,hw,x2,x4,hQ=>by
  obtain rfl:i=l.length:=oa
  rw[jai]
  unfold jnj
  have ok:=w.ok
  simp(disch:=go_num) only[go_sem,f0s]
  exact hQ hi o _ _ (by rw[f1s];simpa using w) (Mv.refl ok)
 | d+1,i,hd,hi,bs,o,w,hw,x2,x4,hQ=>by
  have hil:i<l.length:=oa
  have hlt:(i:Int)<(l.length:Int):=oa
  have hss:(i:Int)+1=((i+1:Nat):Int):=oa
  obtain⟨x,hx⟩:∃ n,l[i]?=some n:=⟨_,f0b hil⟩
  have hdr:l.drop i=x::l.drop (i+1):=by rw[f0w hil,(f0q.1 hx).2]
  have hix:=jaj (enc:=jcq) (size:=2) hx rfl
  have ok:=w.ok
  have hxl:=jt0 x
  obtain⟨k1,k2⟩:=hok x (f0c hx)
  have q1:=jcm x.1
  have q2:=jcm x.2
  obtain⟨hA,eA,okA,nA,xA,gA⟩:=jby ok Zf (jcq x) 83
  have wA:=w.keep okA gA oa
  have i1:=fun(h:Hp) (Q:AV->Hp->Prop)=>jex (h:=h) (Q:=Q) f k1
  have i2:=fun(h:Hp) (Q:AV->Hp->Prop)=>jex (h:=h) (Q:=Q) f k2
  have c1:=jd5 (l:=[32,115,112,111,105,108,115,32]) (r:=ito x.1) (by simp;omega)
  have c2:=jd5 (l:=32::115::112::111::105::108::115::32::ito x.1) (r:=[32]) (by simp;omega)
  have c3:=jd5 (l:=32::115::112::111::105::108::115::32::(ito x.1++[32])) (r:=ito x.2) (by simp;omega)
  have hh:(hA.next<=hi.next/\hi.next<hA.next)=False:=eq_false oa
  unfold jcq at xA eA
  rw[jai]
  unfold jnj j2f
  simp(disch:=go_num) only[go_sem,jce,jcf,jcg,ja1,jap,jch,ja2,jad,eq_true hlt,hix,jcq,eA,xA,i1,i2,c1,c2,c3,hh]
  refine WC.imp (jep f wA (s:=j51 x) (by unfold j51;simp) oa) ?_
  rintro v hB ⟨m1,w1,e1⟩
  have okB:=w1.ok
  simp(disch:=go_num) only[go_sem,jad,hss]
  exact qjo f hok hl d (i+1) oa w1 (by rw[f0d];omega) (fun hj o' x2 x4 w' m'=>hQ hj o' x2 x4 (by rw[hdr,f0u,f0t,←f0g];exact w') ((Bl.low okA oa gA).trans (e1.trans m')))
theorem qoq (f:BlF F) (w:Bl h p bs o) {x:Ms.Ins} (k:TkI x) (hw:bs.length<=800000000):WC F 15 [.s (.ptr p 0),.agg (jdd x)] h (Bln h p bs o (j2n x)):=by
 refine jaz (f.x _ rfl _ _) ((congrFun f.t _).trans qtg) rfl ?_
 unfold qbm jdd
 have ok:=w.ok
 have l1:=jcm x.op
 have l2:=jkq jtz x.ops
 have l3:=jkq jt0 x.spoils
 have h1:=k.nops
 have h2:=k.nsp
 obtain⟨hA,eA,okA,nA,xA,gA⟩:=jdw ok [si x.op,jaf jbc x.ops,jaf jcq x.spoils] 62
 have wA:=w.keep okA gA oa
 have i1:=fun(h:Hp) (Q:AV->Hp->Prop)=>jex (h:=h) (Q:=Q) f k.op
 have c1:=jd5 (l:=[111,112,32]) (r:=ito x.op) (by simp;omega)
 have ll1:=jah (enc:=jbc) (l:=x.ops)
 have ll2:=jah (enc:=jcq) (l:=x.spoils)
 have fA:=w.fresh
 simp(disch:=go_num) only[go_sem,jce,jcf,jcg,ja1,jap,jch,ja2,eA,xA,i1,c1]
 refine WC.imp (jep f wA (s:=[111,112,32]++ito x.op) se (by simp;omega)) ?_
 rintro v hB ⟨m1,w1,e1⟩
 have okB:=w1.ok
 have b1:=Bl.out (n:=h.next) ⟨oa,fA⟩ e1
 have xB:=(e1.keep h.next oa fA).trans xA
 have n1:(bs++([111,112,32]++ito x.op)).length<=bs.length+22:=by simp;omega
 simp(disch:=go_num) only[go_sem,xB,ll1]
 refine qjn f k.ops oa x.ops.length 0 oa w1 oa (fun hC o2 x7 x9 w2 e2=>?_)
 rw[f1f] at w2
 have okC:=w2.ok
 have xC:=(e2.keep h.next b1.1 b1.2).trans xB
 have n2:((bs++([111,112,32]++ito x.op))++(x.ops.map jzp).flatten).length<=bs.length+60022:=by rw[f0d];omega
 simp(disch:=go_num) only[go_sem,xC,ll2]
 refine qjo f k.sp oa x.spoils.length 0 oa w2 oa (fun hD o3 x2 x4 w3 e3=>?_)
 rw[f1f] at w3
 have okD:=w3.ok
 have n3:(((bs++([111,112,32]++ito x.op))++(x.ops.map jzp).flatten)++(x.spoils.map j51).flatten).length<=bs.length+120022:=by rw[f0d];omega
 simp(disch:=go_num) only[go_sem]
 refine WC.imp (jty f w3 oa) ?_
 rintro v hE ⟨m4,w4,e4⟩
 simp(disch:=go_num) only[go_sem]
 refine⟨m4,?_,(Bl.low okA oa gA).trans (e1.trans (e2.trans (e3.trans e4)))⟩
 unfold j2n
 simpa only[f0g] using w4
end
set_option maxHeartbeats 4000000
def jec (s:Scr):List SV:=[si s.m1,si s.m2,jaf jav s.f.values,jaf ja6 s.f.blocks,si s.seed,si s.steps,jaf jav s.junk]
def j56 (e:Ms.Edg):List UInt8:=(([101,100,103,101,32]++ito e.block)++ji1 e.args)++[10]
def jzq (b:Ms.Blk):List UInt8:=((([98,108,111,99,107]++ji1 b.params)++[10])++(b.instrs.map j2n).flatten)++(b.edges.map j56).flatten
def jqx (s:Scr):List UInt8:=(((((([109,97,99,104,105,110,101]++ji1 [s.m1,s.m2])++((([10,114,117,110,32]++ito s.seed)++[32])++ito s.steps))++ji1 s.junk)++[10,118,97,108,117,101,115])++ji1 s.f.values)++[10])++(s.f.blocks.map jzq).flatten
structure TkE (e:Ms.Edg):Prop where
 b:e.block<=9223372036854775807
 na:e.args.length<=300
 a:∀ n∈e.args,n<=9223372036854775807
structure TkB (b:Ms.Blk):Prop where
 np:b.params.length<=300
 p:∀ n∈b.params,n<=9223372036854775807
 ni:b.instrs.length<=100
 i:∀ x∈b.instrs,TkI x
 ne:b.edges.length<=20
 e:∀ e∈b.edges,TkE e
structure TkS (s:Scr):Prop where
 m1:s.m1<=9223372036854775807
 m2:s.m2<=9223372036854775807
 sd:s.seed<=9223372036854775807
 st:s.steps<=9223372036854775807
 nj:s.junk.length<=300
 j:∀ n∈s.junk,n<=9223372036854775807
 nv:s.f.values.length<=300
 v:∀ n∈s.f.values,n<=9223372036854775807
 nb:s.f.blocks.length<=100
 b:∀ b∈s.f.blocks,TkB b
theorem j2o {e:Ms.Edg} (k:TkE e):(j56 e).length<=6100:=by
 have h1:=jcm e.block
 have h2:=jf5 e.args
 have:=k.na
 unfold j56;grind[f0d,f0i,f00]
theorem jd6 {α:Type} {f:α->List UInt8} {k:Nat}:∀ {l:List α} (_:∀ a∈l,(f a).length<=k),((l.map f).flatten).length<=k*l.length
 | [],_=>se
 | a::l,hf=>by have:=jd6 (l:=l) fun b hb=>hf b (by grind);grind[f0u,f0t,f0d,f0i,Nat.mul_succ]
theorem j2p {b:Ms.Blk} (k:TkB b):(jzq b).length<=600000:=by
 have h1:=jf5 b.params
 have h2:=jd6    fun x hx=>jt1 (k.i x hx)
 have h3:=jd6    fun x hx=>j2o (k.e x hx)
 have:=k.np
 have:=k.ni
 have:=k.ne
 unfold jzq;grind
def qtk (h:Hp) (n size:Nat) (x:Option AV):R:=ob x (fun v=>jeh v (fun b o=>ob (rd h b o (Nat.mul n size)) (fun _=>ok (.s (.slice b o n n true size)) h)) (fun cs=>ob (j6e size n cs) (fun rows=>ok (.s (.lst rows)) h)))
theorem qor {h:Hp} {st fr:List AV} {n size:Nat} {x:Od}:jd8 st fr h (.slicea n size x)=qtk h n size (ev st fr x):=rfl
theorem qgr {h:Hp} {n size b o:Nat} {row:List SV} (hr:rdB (h.get b) o (n*size)=some row):qtk h n size (some (.s (.ptr b o)))=some (.s (.slice b o n n true size),h):=by
 show ob (rdB (h.get b) o (n*size)) (fun _=>some (AV.s (.slice b o n n true size),h))=_
 rw[hr];rfl
theorem qos (l:List UInt8):j55 (u8s l)=some l:=by
 induction l with
 | nil=>rfl
 | cons a l ih =>
  show ob (j55 (u8s l)) (fun l=>some (UInt8.ofNat (Int.toNat (Int.ofNat a.toNat))::l))=_
  rw[ih]
  show some (UInt8.ofNat (Int.toNat a.toNat)::l)=_
  simp
theorem qgs (l:List UInt8):jpj (u8s l)=true:=by
 induction l with
 | nil=>rfl
 | cons a l ih =>
  show(inR .u8 (Int.ofNat a.toNat)&&jpj (u8s l))=true
  rw[ih,Bool.and_true]
  have:=a.toNat_lt
  exact jbn (show a.toNat<=255 by omega)
section
variable {F:Fns} {h:Hp} {p:Nat} {bs:List UInt8} {o:List Nat}
theorem qtl (w:Bl h p bs o) (hb:bs≠[]) (hl:bs.length<=1000000000):∃ h',qsl [.s (.ptr p 0)] h=some (.s (.str bs),h'):=by
 obtain⟨c,x,h1,h2,h3⟩:=w.ex
 rcases h3 with⟨h3,_⟩ | ⟨m,rfl,rfl,h5⟩
 .grind
 have ok0:=w.ok
 refine⟨h.put m none,?_⟩
 unfold qsl
 simp only[h1,qpy]
 rw[show Nat.beq bT bT=true from f1w _]
 simp only[h5,qpy]
 rw[show Nat.beq 5 5=true from rfl,ok0.lo,show Nat.ble 0 m=true from jbn (f15 _),show Nat.beq 1 1=true from rfl]
 have l8:(u8s bs).length=bs.length:=by rw[jq8,f03]
 have hr:rd h m 0 bs.length=some (u8s bs):=by
  rw[qrn,h5]
  show jbp bs.length (u8s bs)=_
  grind[ja8,f2v]
 show ob (rd h m 0 bs.length) _=_
 rw[hr]
 show ob (j55 (u8s bs)) _=_
 rw[qos]
 cases bs with
 | nil=>exact absurd rfl hb
 | cons a r =>
  show oif (Nat.ble (a::r).length 9223372036854775807) (oif (jpj (u8s (a::r))) (ok (.s (.str (a::r))) (h.put m none)) none) none=_
  rw[jbn (show(a::r).length<=9223372036854775807 by omega),qgs];rfl
theorem qjp (f:BlF F) {l:List Ms.Ins} (hok:∀ x∈l,TkI x) (hl:l.length<=1000) {Q:Ex->St->Prop} :
 ∀ (d i:Nat) (_:i+d=l.length) {hi:Hp} {bs:List UInt8} {o:List Nat} (_:Bl hi p bs o) (_:bs.length+4000*d<=700000000) {x8 x10:AV}
  (hQ:∀ hj o' x8 x10,Bl hj p (bs++((l.drop i).map j2n).flatten) o'->Mv hi hj (p::o) (p::o')->Q (.exit 2) (.mk [x0,x1,x2,x3,x4,x5,x6,x7,x8,.s (jaf jdd l),x10,vi l.length,vi l.length,x13,x14,x15,x16,x17,.s (.ptr p 0),x19,x20,x21] hj)),
  W F jnk.loop (.mk [x0,x1,x2,x3,x4,x5,x6,x7,x8,.s (jaf jdd l),x10,vi l.length,vi i,x13,x14,x15,x16,x17,.s (.ptr p 0),x19,x20,x21] hi) Q
 | 0,i,hd,hi,bs,o,w,hw,x8,x10,hQ=>by
  obtain rfl:i=l.length:=oa
  rw[jai]
  unfold jnk
  have ok:=w.ok
  simp(disch:=go_num) only[go_sem,f0s]
  grind[f1s,Mv.refl]
 | d+1,i,hd,hi,bs,o,w,hw,x8,x10,hQ=>by
  have hil:i<l.length:=oa
  have hlt:(i:Int)<(l.length:Int):=oa
  have hss:(i:Int)+1=((i+1:Nat):Int):=oa
  obtain⟨x,hx⟩:∃ n,l[i]?=some n:=⟨_,f0b hil⟩
  have hdr:l.drop i=x::l.drop (i+1):=by rw[f0w hil,(f0q.1 hx).2]
  have hix:=jaj (enc:=jdd) (size:=3) hx rfl
  have ok:=w.ok
  have kx:=hok x (f0c hx)
  have hxl:=jt1 kx
  obtain⟨hA,eA,okA,nA,xA,gA⟩:=jby ok Zg (jdd x) 62
  have wA:=w.keep okA gA oa
  have run:=qoq f wA kx oa
  unfold jdd at xA eA run
  rw[jai]
  unfold jnk j2h
  simp(disch:=go_num) only[go_sem,jad,eq_true hlt,hix,jdd,eA,xA]
  refine WC.imp run ?_
  rintro v hB ⟨m1,w1,e1⟩
  have okB:=w1.ok
  simp(disch:=go_num) only[go_sem,jad,hss]
  exact qjp f hok hl d (i+1) oa w1 (by rw[f0d];omega) (fun hj o' x8 x10 w' m'=>hQ hj o' x8 x10 (by rw[hdr,f0u,f0t,←f0g];exact w') ((Bl.low okA oa gA).trans (e1.trans m')))
theorem qjq (f:BlF F) {l:List Ms.Edg} (hok:∀ x∈l,TkE x) (hl:l.length<=1000) {Q:Ex->St->Prop} :
 ∀ (d i:Nat) (_:i+d=l.length) {hi:Hp} {bs:List UInt8} {o:List Nat} (_:Bl hi p bs o) (_:bs.length+6100*d<=700000000) {x3 x5:AV}
  (hQ:∀ hj o' x3 x5,Bl hj p (bs++((l.drop i).map j56).flatten) o'->Mv hi hj (p::o) (p::o')->Q (.exit 4) (.mk [x0,x1,x2,x3,.s (jaf jeo l),x5,vi l.length,vi l.length,x8,x9,x10,x11,x12,x13,x14,x15,x16,x17,.s (.ptr p 0),x19,x20,x21] hj)),
  W F jnl.loop (.mk [x0,x1,x2,x3,.s (jaf jeo l),x5,vi l.length,vi i,x8,x9,x10,x11,x12,x13,x14,x15,x16,x17,.s (.ptr p 0),x19,x20,x21] hi) Q
 | 0,i,hd,hi,bs,o,w,hw,x3,x5,hQ=>by
  obtain rfl:i=l.length:=oa
  rw[jai]
  unfold jnl
  have ok:=w.ok
  simp(disch:=go_num) only[go_sem,f0s]
  grind[f1s,Mv.refl]
 | d+1,i,hd,hi,bs,o,w,hw,x3,x5,hQ=>by
  have hil:i<l.length:=oa
  have hlt:(i:Int)<(l.length:Int):=oa
  have hss:(i:Int)+1=((i+1:Nat):Int):=oa
  obtain⟨x,hx⟩:∃ n,l[i]?=some n:=⟨_,f0b hil⟩
  have hdr:l.drop i=x::l.drop (i+1):=by rw[f0w hil,(f0q.1 hx).2]
  have hix:=jaj (enc:=jeo) (size:=2) hx rfl
  have ok:=w.ok
  have kx:=hok x (f0c hx)
  have hxl:=j2o kx
  have q1:=jcm x.block
  have q2:=jf5 x.args
  have q3:=kx.na
  obtain⟨hA,eA,okA,nA,xA,gA⟩:=jby ok Zh (jeo x) 65
  have wA:=w.keep okA gA oa
  have fA:=w.fresh
  have i1:=fun(h:Hp) (Q:AV->Hp->Prop)=>jex (h:=h) (Q:=Q) f kx.b
  have c1:=jd5 (l:=[101,100,103,101,32]) (r:=ito x.block) (by simp;omega)
  unfold jeo at xA eA
  rw[jai]
  unfold jnl j2i
  simp(disch:=go_num) only[go_sem,jce,jcf,jcg,ja1,jap,jch,ja2,jad,eq_true hlt,hix,jeo,eA,xA,i1,c1]
  refine WC.imp (jep f wA (s:=[101,100,103,101,32]++ito x.block) se (by simp;omega)) ?_
  rintro v hB ⟨m1,w1,e1⟩
  have okB:=w1.ok
  have b1:=Bl.out (n:=hi.next) ⟨oa,fA⟩ e1
  have xB:=(e1.keep hi.next oa fA).trans xA
  have n1:(bs++([101,100,103,101,32]++ito x.block)).length<=bs.length+24:=by simp;omega
  simp(disch:=go_num) only[go_sem,xB]
  refine WC.imp (jp7 f w1 kx.a oa (.inl rfl) oa) ?_
  rintro v hC ⟨o2,w2,e2⟩
  have okC:=w2.ok
  have n2:((bs++([101,100,103,101,32]++ito x.block))++ji1 x.args).length<=bs.length+6030:=by rw[f0d];omega
  simp(disch:=go_num) only[go_sem]
  refine WC.imp (jty f w2 oa) ?_
  rintro v hD ⟨m3,w3,e3⟩
  have okD:=w3.ok
  have w3':Bl hD p (bs++j56 x) [m3]:=by
   unfold j56
   simpa only[f0g] using w3
  simp(disch:=go_num) only[go_sem,jad,hss]
  exact qjq f hok hl d (i+1) oa w3' (by rw[f0d];omega) (fun hj o' x3 x5 w' m'=>hQ hj o' x3 x5 (by rw[hdr,f0u,f0t,←f0g];exact w') ((Bl.low okA oa gA).trans (e1.trans (e2.trans (e3.trans m')))))
theorem qjr (f:BlF F) {l:List Ms.Blk} (hok:∀ x∈l,TkB x) (hl:l.length<=100) {Q:Ex->St->Prop} :
 ∀ (d i:Nat) (_:i+d=l.length) {hi:Hp} {bs:List UInt8} {o:List Nat} (_:Bl hi p bs o) (_:bs.length+600000*d<=100000000) {x3 x4 x5 x6 x7 x8 x9 x10 x11 x12 x13 x15:AV}
  (hQ:∀ hj o' x3 x4 x5 x6 x7 x8 x9 x10 x11 x12 x13 x15,Bl hj p (bs++((l.drop i).map jzq).flatten) o'->Mv hi hj (p::o) (p::o')->Q (.exit 0) (.mk [x0,x1,x2,x3,x4,x5,x6,x7,x8,x9,x10,x11,x12,x13,.s (jaf ja6 l),x15,vi l.length,vi l.length,.s (.ptr p 0),x19,x20,x21] hj)),
  W F jnm.loop (.mk [x0,x1,x2,x3,x4,x5,x6,x7,x8,x9,x10,x11,x12,x13,.s (jaf ja6 l),x15,vi l.length,vi i,.s (.ptr p 0),x19,x20,x21] hi) Q
 | 0,i,hd,hi,bs,o,w,hw,x3,x4,x5,x6,x7,x8,x9,x10,x11,x12,x13,x15,hQ=>by
  obtain rfl:i=l.length:=oa
  rw[jai]
  unfold jnm
  have ok:=w.ok
  simp(disch:=go_num) only[go_sem,f0s]
  grind[f1s,Mv.refl]
 | d+1,i,hd,hi,bs,o,w,hw,x3,x4,x5,x6,x7,x8,x9,x10,x11,x12,x13,x15,hQ=>by
  have hil:i<l.length:=oa
  have hlt:(i:Int)<(l.length:Int):=oa
  have hss:(i:Int)+1=((i+1:Nat):Int):=oa
  obtain⟨x,hx⟩:∃ n,l[i]?=some n:=⟨_,f0b hil⟩
  have hdr:l.drop i=x::l.drop (i+1):=by rw[f0w hil,(f0q.1 hx).2]
  have hix:=jaj (enc:=ja6) (size:=3) hx rfl
  have ok:=w.ok
  have kx:=hok x (f0c hx)
  have hxl:=j2p kx
  have q2:=jf5 x.params
  have q3:=kx.np
  have q4:=jd6 (f:=j2n) (k:=4000) (l:=x.instrs) (fun y hy=>jt1 (kx.i y hy))
  have q5:=kx.ni
  have q6:=kx.ne
  obtain⟨hA,eA,okA,nA,xA,gA⟩:=jby ok Zi (ja6 x) 58
  have wA:=w.keep okA gA oa
  have fA:=w.fresh
  have l1:=jah (enc:=jdd) (l:=x.instrs)
  have l2:=jah (enc:=jeo) (l:=x.edges)
  unfold ja6 at xA eA
  rw[jai]
  unfold jnm j2j
  simp(disch:=go_num) only[go_sem,jce,jcf,jcg,ja1,jap,jch,ja2,jad,eq_true hlt,hix,ja6,eA,xA]
  refine WC.imp (jep f wA (s:=[98,108,111,99,107]) se (by simp;omega)) ?_
  rintro v hB ⟨m1,w1,e1⟩
  have okB:=w1.ok
  have b1:=Bl.out (n:=hi.next) ⟨oa,fA⟩ e1
  have xB:=(e1.keep hi.next oa fA).trans xA
  have n1:(bs++[98,108,111,99,107]).length=bs.length+5:=se
  simp(disch:=go_num) only[go_sem,xB]
  refine WC.imp (jp7 f w1 kx.p oa (.inl rfl) oa) ?_
  rintro v hC ⟨o2,w2,e2⟩
  have okC:=w2.ok
  have b2:=Bl.out b1 e2
  have xC:=(e2.keep hi.next b1.1 b1.2).trans xB
  have n2:((bs++[98,108,111,99,107])++ji1 x.params).length<=bs.length+6005:=by rw[f0d];omega
  simp(disch:=go_num) only[go_sem]
  refine WC.imp (jty f w2 oa) ?_
  rintro v hD ⟨m3,w3,e3⟩
  have okD:=w3.ok
  have b3:=Bl.out b2 e3
  have xD:=(e3.keep hi.next b2.1 b2.2).trans xC
  have n3:(((bs++[98,108,111,99,107])++ji1 x.params)++[10]).length<=bs.length+6006:=by rw[f0d];simp;omega
  simp(disch:=go_num) only[go_sem,xD,l1]
  refine qjp f kx.i oa x.instrs.length 0 oa w3 oa (fun hE o4 x8 x10 w4 e4=>?_)
  rw[f1f] at w4
  have okE:=w4.ok
  have xE:=(e4.keep hi.next b3.1 b3.2).trans xD
  have n4:((((bs++[98,108,111,99,107])++ji1 x.params)++[10])++(x.instrs.map j2n).flatten).length<=bs.length+406006:=by rw[f0d];omega
  simp(disch:=go_num) only[go_sem,xE,l2]
  refine qjq f kx.e oa x.edges.length 0 oa w4 oa (fun hG o5 x3 x5 w5 e5=>?_)
  rw[f1f] at w5
  have okG:=w5.ok
  have w5':Bl hG p (bs++jzq x) o5:=by
   unfold jzq
   simpa only[f0g] using w5
  simp(disch:=go_num) only[go_sem,jad,hss]
  exact qjr f hok hl d (i+1) oa w5' (by rw[f0d];omega) (fun hj o' x3 x4 x5 x6 x7 x8 x9 x10 x11 x12 x13 x15 w' m'=>hQ hj o' x3 x4 x5 x6 x7 x8 x9 x10 x11 x12 x13 x15 (by rw[hdr,f0u,f0t,←f0g];exact w') ((Bl.low okA oa gA).trans (e1.trans (e2.trans (e3.trans (e4.trans (e5.trans m')))))))
theorem qot (f:BlF F) {h:Hp} (ok:Ok h) {s:Scr} (k:TkS s) (hC:∀ h Q,WC F 10 [.agg (jec s)] h Q=Q (vi 0) h) {Q:AV->Hp->Prop} (hQ:∀ h',Q (.tup [(false,[.str (jqx s)]),(false,[si 0])]) h'):WC F 5 [.agg (jec s)] h Q:=by
 refine jaz (f.x _ rfl _ _) ((congrFun f.t _).trans qth) rfl ?_
 unfold qbn
 obtain⟨hA,eA,okA,nA,xA,gA⟩:=jdw ok (jec s) 34
 obtain⟨hB,eB,okB,nB,xB,gB⟩:=jdw okA [.nilPtr,.nilSlice] 47
 have hpos:=ok.pos
 have w0:Bl hB hA.next [] []:=⟨okB,⟨_,_,xB,.inl rfl,.inl ⟨rfl,rfl,rfl⟩⟩,⟨oa,oa⟩,se,se⟩
 have zA:=(gB h.next oa).trans xA
 have a0:h.next<hB.next/\h.next∉hA.next::([]:List Nat):=⟨oa,by simp;omega⟩
 have lb:=jah (enc:=ja6) (l:=s.f.blocks)
 have i1:=fun(h:Hp) (Q:AV->Hp->Prop)=>jex (h:=h) (Q:=Q) f k.sd
 have i2:=fun(h:Hp) (Q:AV->Hp->Prop)=>jex (h:=h) (Q:=Q) f k.st
 have q1:=jcm s.seed
 have q2:=jcm s.steps
 have q3:=jf5 [s.m1,s.m2]
 have q4:=jf5 s.junk
 have q5:=jf5 s.f.values
 have q6:=k.nj
 have q7:=k.nv
 have q8:=k.nb
 have q9:=jd6 (f:=jzq) (k:=600000) (l:=s.f.blocks) (fun y hy=>j2p (k.b y hy))
 have c1:=jd5 (l:=[10,114,117,110,32]) (r:=ito s.seed) (by simp;omega)
 have c2:=jd5 (l:=10::114::117::110::32::ito s.seed) (r:=[32]) (by simp;omega)
 have c3:=jd5 (l:=10::114::117::110::32::(ito s.seed++[32])) (r:=ito s.steps) (by simp;omega)
 have hC':=hC
 unfold jec at eA zA xA hC' ⊢
 simp(disch:=go_num) only[go_sem,jce,jcf,jcg,ja1,jap,jch,ja2,eA,xA,hC']
 unfold j2k
 simp(disch:=go_num) only[go_sem,jce,jcf,jcg,ja1,jap,jch,ja2,eB]
 refine WC.imp (jep f w0 (s:=[109,97,99,104,105,110,101]) se se) ?_
 rintro v h1 ⟨m1,w1,e1⟩
 have ok1:=w1.ok
 have b1:=Bl.out a0 e1
 have z1:=(e1.keep h.next a0.1 a0.2).trans zA
 have n1:([]++[109,97,99,104,105,110,101]:List UInt8).length=7:=rfl
 have hrow:rdB (h1.get h.next) 0 (2*1)=some [si s.m1,si s.m2]:=by rw[z1];rfl
 simp(disch:=go_num) only[go_sem,jce,jcf,jcg,ja1,jap,jch,ja2,qor,qgr hrow]
 refine WC.imp (jp7 f w1 (l:=[s.m1,s.m2]) (by simp;exact⟨k.m1,k.m2⟩) se (.inr ⟨h.next,0,2,true,_,_,rfl,z1,b1.1,b1.2,fun i n hi=>by
  match i,hi with
  | 0,hi=>cases hi;rfl
  | 1,hi=>cases hi;rfl⟩) (by rw[n1];simp)) ?_
 rintro v h2 ⟨o2,w2,e2⟩
 have ok2:=w2.ok
 have b2:=Bl.out b1 e2
 have z2:=(e2.keep h.next b1.1 b1.2).trans z1
 have n2:(([]++[109,97,99,104,105,110,101]:List UInt8)++ji1 [s.m1,s.m2]).length<=47:=by rw[f0d,n1];simp at q3;omega
 have hh:(h2.next<=h.next/\h.next<h2.next)=False:=eq_false oa
 unfold j2g
 simp(disch:=go_num) only[go_sem,jce,jcf,jcg,ja1,jap,jch,ja2,z2,i1,i2,c1,c2,c3,hh]
 refine WC.imp (jep f w2 (s:=(([10,114,117,110,32]++ito s.seed)++[32])++ito s.steps) se (by simp;simp at n2;omega)) ?_
 rintro v h3 ⟨m3,w3,e3⟩
 have ok3:=w3.ok
 have b3:=Bl.out b2 e3
 have z3:=(e3.keep h.next b2.1 b2.2).trans z2
 have n3:((([]++[109,97,99,104,105,110,101]:List UInt8)++ji1 [s.m1,s.m2])++((([10,114,117,110,32]++ito s.seed)++[32])++ito s.steps)).length<=100:=by rw[f0d];simp only[f0d,f0i,f00] at n2 ⊢;omega
 simp(disch:=go_num) only[go_sem,jce,jcf,jcg,ja1,jap,jch,ja2,z3]
 refine WC.imp (jp7 f w3 k.j oa (.inl rfl) oa) ?_
 rintro v h4 ⟨o4,w4,e4⟩
 have ok4:=w4.ok
 have b4:=Bl.out b3 e4
 have z4:=(e4.keep h.next b3.1 b3.2).trans z3
 have n4:(((([]++[109,97,99,104,105,110,101]:List UInt8)++ji1 [s.m1,s.m2])++((([10,114,117,110,32]++ito s.seed)++[32])++ito s.steps))++ji1 s.junk).length<=6100:=by rw[f0d];omega
 simp(disch:=go_num) only[go_sem,jce,jcf,jcg,ja1,jap,jch,ja2]
 refine WC.imp (jep f w4 (s:=[10,118,97,108,117,101,115]) se (by simp only[f0i,f00];omega)) ?_
 rintro v h5 ⟨m5,w5,e5⟩
 have ok5:=w5.ok
 have b5:=Bl.out b4 e5
 have z5:=(e5.keep h.next b4.1 b4.2).trans z4
 have n5:((((([]++[109,97,99,104,105,110,101]:List UInt8)++ji1 [s.m1,s.m2])++((([10,114,117,110,32]++ito s.seed)++[32])++ito s.steps))++ji1 s.junk)++[10,118,97,108,117,101,115]).length<=6107:=by rw[f0d];simp only[f0i,f00];omega
 simp(disch:=go_num) only[go_sem,jce,jcf,jcg,ja1,jap,jch,ja2,z5]
 refine WC.imp (jp7 f w5 k.v oa (.inl rfl) oa) ?_
 rintro v h6 ⟨o6,w6,e6⟩
 have ok6:=w6.ok
 have b6:=Bl.out b5 e6
 have z6:=(e6.keep h.next b5.1 b5.2).trans z5
 have n6:(((((([]++[109,97,99,104,105,110,101]:List UInt8)++ji1 [s.m1,s.m2])++((([10,114,117,110,32]++ito s.seed)++[32])++ito s.steps))++ji1 s.junk)++[10,118,97,108,117,101,115])++ji1 s.f.values).length<=12107:=by rw[f0d];omega
 simp(disch:=go_num) only[go_sem,jce,jcf,jcg,ja1,jap,jch,ja2]
 refine WC.imp (jty f w6 oa) ?_
 rintro v h7 ⟨m7,w7,e7⟩
 have ok7:=w7.ok
 have b7:=Bl.out b6 e7
 have z7:=(e7.keep h.next b6.1 b6.2).trans z6
 have n7:((((((([]++[109,97,99,104,105,110,101]:List UInt8)++ji1 [s.m1,s.m2])++((([10,114,117,110,32]++ito s.seed)++[32])++ito s.steps))++ji1 s.junk)++[10,118,97,108,117,101,115])++ji1 s.f.values)++[10]).length<=12108:=by rw[f0d];simp only[f0i,f00];omega
 simp(disch:=go_num) only[go_sem,jce,jcf,jcg,ja1,jap,jch,ja2,z7,lb]
 refine qjr f k.b q8 s.f.blocks.length 0 oa w7 oa (fun h8 o8 x3 x4 x5 x6 x7 x8 x9 x10 x11 x12 x13 x15 w8 e8=>?_)
 rw[f1f] at w8
 have ok8:=w8.ok
 have w8':Bl h8 hA.next (jqx s) o8:=by
  unfold jqx
  simpa only[f0g,f1m] using w8
 have hne:jqx s≠[]:=by unfold jqx;simp
 have hlen:(jqx s).length<=1000000000:=by
  unfold jqx
  simp only[f0d,f0i,f00] at n7 ⊢
  omega
 obtain⟨h9,hx⟩:=qtl w8' hne hlen
 have hs:=fun(Q:AV->Hp->Prop)=>jam (F:=F) (Q:=Q) (f.l 16 _ _ _ (show jqt 16 [.s (.ptr hA.next 0)] h8=_ from hx))
 simp(disch:=go_num) only[go_sem,jce,jcf,jcg,ja1,jap,jch,ja2,hs]
 exact hQ h9
end
end
end Go.Proofs.YtkpadfebkaangaaGreatDoor.Ev
