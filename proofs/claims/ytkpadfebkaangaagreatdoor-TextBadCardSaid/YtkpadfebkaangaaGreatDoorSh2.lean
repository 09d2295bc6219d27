/- Open runs: strings. No program in sight. -/
import Derived.Test.YtkpadfebkaangaaGreatDoorLz
import Derived.Test.YtkpadfebkaangaaGreatDoorUi
import Derived.Test.YtkpadfebkaangaaGreatDoorVd
import Derived.Test.YtkpadfebkaangaaGreatDoorLx
namespace Go.Proofs.YtkpadfebkaangaaGreatDoor.Ev
noncomputable section
open Go Go.RowKit
set_option linter.all false
section
variable {F:Fns} {s:St} {st fr:List AV} {h h':Hp} {Q:Ex->St->Prop} {l:List IOper} {dst:Option Nat} {v w:AV} {m:List (IOper×Option (List Nat))} {es:List Ent}
def qhh (a b:Option AV):Option AV:=ob a (fun a=>ob b (fun b=>svc none a (fun a=>svc none b (fun b=>jno a (fun l=>jno b (fun r=>oif (Nat.ble (Nat.add (jb3 l) (jb3 r)) 1000000000) (some (AV.s (.str (jgk l r)))) none))))))
theorem jds {l r:List UInt8} (hl:l.length+r.length<=1000000000):qhh (some (.s (.str l))) (some (.s (.str r)))=some (.s (.str (l++r))):=by
 show oif (Nat.ble (Nat.add (jb3 l) (jb3 r)) 1000000000) (some (AV.s (.str (jgk l r)))) none=_
 rw[ja4,ja4,jbl (show Nat.add l.length r.length<=1000000000 from hl),jc3];rfl
theorem jr5 {x y:Od}:jsz st fr h x y=ob (qhh (ev st fr x) (ev st fr y)) (fun v=>ok v h):=by
 show ob (ev st fr x) (fun a=>ob (ev st fr y) (fun b=>svc none a (fun a=>svc none b (fun b=>jno a (fun l=>jno b (fun r=>oif (Nat.ble (Nat.add (jb3 l) (jb3 r)) 1000000000) (ok (.s (.str (jgk l r))) h) none))))))=_
 unfold qhh
 cases ev st fr x with
 | none=>rfl
 | some a =>
  show ob (ev st fr y) _=ob (ob (ev st fr y) _) _
  cases ev st fr y with
  | none=>rfl
  | some b =>
   show svc none a _=ob (svc none a _) _
   cases a with
   | s a =>
    show svc none b _=ob (svc none b _) _
    cases b with
    | s b =>
     show jno a _=ob (jno a _) _
     cases a with
     | str l =>
      show jno b _=ob (jno b _) _
      cases b with
      | str r =>
       show oif _ _ _=ob (oif _ _ _) _
       cases Nat.ble (Nat.add (jb3 l) (jb3 r)) 1000000000<;>rfl
      | _=>rfl
     | _=>rfl
    | _=>rfl
   | _=>rfl
theorem j0c {o:AO} {x:Option AV} (hc:o.calls=false) (ho:jep st fr h o=ob x (fun v=>ok v h)):WO F (.mk dst (.a o) none::l) st fr h Q=zpO F x dst l st fr h Q:=by
 rw[jh7 hc,ho]
 cases x with
 | none=>exact propext ⟨fun⟨p,h1,_⟩=>(nomatch h1),fun⟨p,h1,_⟩=>(nomatch h1)⟩
 | some v=>exact propext ⟨fun⟨p,h1,h2⟩=>by cases h1;exact⟨v,rfl,h2⟩,fun⟨p,h1,h2⟩=>by cases h1;exact⟨(v,h),rfl,h2⟩⟩
theorem jbr {x y:Od}:WO F (.mk dst (.a (.strop 4 x y)) none::l) st fr h Q=zpO F (qhh (ev st fr x) (ev st fr y)) dst l st fr h Q:=j0c rfl jr5
def qxf (a:Option AV):Option AV:=ob a (fun a=>svc none a (fun a=>jno a (fun l=>oif (Nat.ble (jb3 l) 1000000000) (some (AV.s (.int .i64 (Int.ofNat (jb3 l))))) none)))
theorem jw0 {l:List UInt8} (hl:l.length<=1000000000):qxf (some (.s (.str l)))=some (.s (.int .i64 (l.length:Int))):=by
 show oif (Nat.ble (jb3 l) 1000000000) (some (AV.s (.int .i64 (Int.ofNat (jb3 l))))) none=_
 rw[ja4,jbl hl];rfl
theorem qdu {x:Od}:j3f st fr h x=ob (qxf (ev st fr x)) (fun v=>ok v h):=by
 show ob (ev st fr x) (fun a=>svc none a (fun a=>jno a (fun l=>oif (Nat.ble (jb3 l) 1000000000) (ok (.s (.int .i64 (Int.ofNat (jb3 l)))) h) none)))=_
 unfold qxf
 cases ev st fr x with
 | none=>rfl
 | some a =>
  show svc none a _=ob (svc none a _) _
  cases a with
  | s a =>
   show jno a _=ob (jno a _) _
   cases a with
   | str l =>
    show oif _ _ _=ob (oif _ _ _) _
    cases Nat.ble (jb3 l) 1000000000<;>rfl
   | _=>rfl
  | _=>rfl
theorem jbs {x y:Od}:WO F (.mk dst (.a (.strop 3 x y)) none::l) st fr h Q=zpO F (qxf (ev st fr x)) dst l st fr h Q:=j0c rfl qdu
theorem jbt {x y:Od}:WD F ((.mk dst (.a (.strop 4 x y)) none,none)::m) st es fr h Q=zpD F (qhh (ev st fr x) (ev st fr y)) (.mk [] (some [])) dst m st es fr h Q:=by
 rw[jjb rfl,show jep st fr h (.strop 4 x y)=jsz st fr h x y from rfl,jr5]
 cases qhh (ev st fr x) (ev st fr y) with
 | none=>exact propext ⟨fun⟨p,h1,_⟩=>(nomatch h1),fun⟨p,h1,_⟩=>(nomatch h1)⟩
 | some v=>exact propext ⟨fun⟨p,h1,h2⟩=>by cases h1;exact⟨v,rfl,h2⟩,fun⟨p,h1,h2⟩=>by cases h1;exact⟨(v,h),rfl,h2⟩⟩
def q3u (F:Fns) (x:Option (List (Nat×Nat))) (o:Option AV) (dst:Option Nat) (m:List (IOper×Option (List Nat))) (st:List AV) (es:List Ent) (fr:List AV) (h:Hp) (Q:Ex->St->Prop):Prop:=obP x (fun _=>zpD F o (.mk [(h.next,h.next)] none) dst m st es fr h Q)
theorem jat {x:List (Nat×Nat)} {o:Option AV}:q3u F (some x) o dst m st es fr h Q=zpD F o (.mk [(h.next,h.next)] none) dst m st es fr h Q:=jco
theorem jan {x y:Od} {js:List Nat}:WD F ((.mk dst (.a (.strop 4 x y)) none,some js)::m) st es fr h Q=q3u F (sel es js h.hid) (qhh (ev st fr x) (ev st fr y)) dst m st es fr h Q:=by
 cases h with
 | mk k t lo hid =>
 rw[jy1 (x:=ob (sel es js hid) (fun hid'=>ob (qhh (ev st fr x) (ev st fr y)) (fun v=>some (DR.mk v (.mk k t lo hid) (.mk [(k,k)] none))))) (fun cl=>?_)]
 .refine propext ⟨fun⟨p,h1,h2⟩=>?_,fun⟨hid',h0,v,h1,h2⟩=>⟨.mk v (.mk k t lo hid) (.mk [(k,k)] none),jaa.2 ⟨hid',h0,jaa.2 ⟨v,h1,rfl⟩⟩,h2⟩⟩
  obtain⟨hid',h3,h4⟩:=jaa.1 h1
  obtain⟨v,h5,h6⟩:=jaa.1 h4
  cases h6
  exact⟨hid',h3,v,h5,h2⟩
 .show ob (sel es js hid) (fun hid'=>ob (jsz st fr (.mk k t k hid') x y) (fun p=>Hp.casesOn (motive:=fun _=>Option DR) p.2 (fun n' t' _ _=>some (.mk p.1 (.mk n' t' lo hid) (.mk [(k,n')] none)))))=_
  congr 1
  funext hid'
  rw[jr5]
  cases qhh (ev st fr x) (ev st fr y)<;>rfl
def q3v (h:Hp) (e:TypeId) (a b:Option AV):R:=ob a (fun v=>ob b (fun w=>svc none w (fun w=>jno w (fun l=>jl6 h e 1 1 (jb3 l) v (u8s l)))))
theorem jbu {e:TypeId} {x y:Od}:WO F (.mk dst (.a (.strop (e+7) x y)) none::l) st fr h Q=zmO F (q3v h e (ev st fr x) (ev st fr y)) dst l st fr Q:=jh7 rfl
theorem jau {e:TypeId} {l:List UInt8}:q3v h e (some v) (some (.s (.str l)))=jl6 h e 1 1 (jb3 l) v (u8s l):=rfl
end
set_option maxRecDepth 100000
def qdv:IC:=.seq (.block 1 (qr [qP (.ixs 1 (.g 4) (.g 7)),qL,qT 3] (qr [qM 3,qP (.bin .lt qa (qC 0)),qP (.mv qa),qR 0 false (.mv (.g 3)),qR 1 false (.bin .gt qa (qC 1073741824)),qQ 2 (.pick qc (.c (.s (.bool true))) qa)] (.cond (.g 2) (qr [qQ 1 (.mv (qC 2))] .ret) .skip)))) (.region [qI 7,qT 7])
def jw1:IC:=qr [qQ 5 (.bin .lt (.g 7) (.g 6))] (.seq (qX 5 0) qdv)
def qdw:IC:=.seq (qr [qF 6 12,qB 4 (.load 1 false qa),qQ 6 (.len qa),qQ 7 (.mv (qC 0))] (.block 0 (.loop jw1))) (qr [qQ 1 (.mv (qC 0))] .ret)
def qdx:IC:=.seq (qr [qF 6 12,qL,qP (.len qa),qQ 8 (.bin .gt qa (qC 64))] (.cond (.g 8) (qr [qQ 1 (.mv (qC 1))] .ret) .skip)) qdw
def qdy:IC:=.seq (qr [qF 4 12,qL,qP (.bin .lt qa (qC 0)),qP (.mv qa),qR 0 false (.fld 4 (.g 12)),qS 1 false (.load 1 false qa),qR 2 false (.bin .gt qa (qC 1073741824)),qP (.pick qd (.c (.s (.bool true))) qa),qP (.mv qa),qR 0 false (.fld 5 (.g 12)),qS 1 false (.load 1 false qa),qR 2 false (.bin .lt qa (qC 0)),qP (.pick qd (.c (.s (.bool true))) qa),qP (.mv qa),qR 0 false (.fld 5 (.g 12)),qS 1 false (.load 1 false qa),qR 2 false (.bin .gt qa (qC 5000)),qQ 9 (.pick qd (.c (.s (.bool true))) qa)] (.cond (.g 9) (qr [qQ 1 (.mv (qC 2))] .ret) .skip)) qdx
def qj0:IC:=qr [qB 12 (.box 34 (.g 0)),qQ 1 (.mv (qC 0))] (.seq (qr [qF 2 12,qK 2,qF 0 12,qK 2,qA (.call 23 [qc,qa]),qT 11] (qr [qM 11,qQ 10 (.bin .ne qa (qC 0))] (.cond (.g 10) (qr [qM 11,qT 1] .ret) .skip))) qdy)
theorem q20:T 10=some (.mk qj0 1 12 [(.tmp 1)]):=ka
def qdz:IC:=.seq (qr [qM 9,qM 5,qP (.len qa),qP (.bin .lt qc qa),qP (.mv qa),qR 0 true (.mv (.g 9)),qR 1 true (.bin .lt qa (qC 64)),qQ 8 (.pick qc qa (.c (.s (.bool false))))] (qX 8 0)) (.seq (.block 1 (.draw [(qF 6 7,.none),(qL,.some []),(qM 5,.none),(qM 9,.none),(qP (.ixs 1 qb qa),.none),(qL,.some [3]),(qA (.call 8 [qa,qC 1073741824]),.some [4]),(qA (.bslice 3 1 [.int .i64 0] 1 [(0,(1,qa))]),.some [5]),(qA (.app 3 1 8 (.l 6) qa),.none),(qF 6 7,.none),(qA (.store 1 qa qb),.none)])) (.region [qM 9,qP (.bin .add qa (qC 1)),qT 9]))
def qj1:IC:=qr [qB 6 (.new 34 [.int .i64 0,.int .i64 0,.nilSlice,.nilSlice,.int .i64 0,.int .i64 0,.nilSlice])] (qr [qM 0,qM 1,qA (.call 17 [qb,qa]),qB 10 (.new 28 [.int .i64 0,.int .i64 0]),qA (.store 2 qa qb)] (.seq (.draw [(qA (.load 2 true (.g 10)),.some []),(qA (.load 2 true (.g 10)),.some [0]),(qM 2,.none),(qA (.call 18 [qb,qa]),.some [2]),(qM 3,.none),(qA (.call 8 [qa,qC 1073741824]),.some [4]),(qM 4,.none),(qA (.call 8 [qa,qC 400]),.some [6]),(qP (.build [.int .i64 0,.int .i64 0,.nilSlice,.nilSlice,.int .i64 0,.int .i64 0,.nilSlice] [(0,(2,.l 7)),(2,(2,.l 4)),(4,(1,qc)),(5,(1,qa))]),.none),(qB 7 (.new 34 [.int .i64 0,.int .i64 0,.nilSlice,.nilSlice,.int .i64 0,.int .i64 0,.nilSlice]),.some [1,3,5,7,8]),(qA (.store 7 qa qb),.none)]) (.seq (qr [qQ 9 (.mv (qC 0))] (.block 0 (.loop qdz))) (qr [qA (.load 7 true (.g 7)),qA (.store 7 (.g 6) qa)] .ret))))
theorem q21:T 6=some (.mk qj1 6 5 [(.cell 6 7 true)]):=ka
def jr6:IC:=qr [qQ 4 (.bin .lt (.g 6) (.g 5))] (.seq (qX 4 0) (.seq (.block 1 (qr [qP (.ixs 1 (.g 3) (.g 6)),qL,qT 2] (.region [qM 0,qM 2,qA (.call 13 [qa]),qA (.strop 4 (.c (.s (.str [32]))) qa),qA (.call 11 [qd,qa])]))) (.region [qI 6,qT 6])))
def qj2:IC:=qr [qQ 3 (.mv (.g 1)),qQ 5 (.len qa),qQ 6 (.mv (qC 0))] (.block 0 (.loop jr6))
theorem q22:T 12=some (.mk qj2 2 5 []):=ka
def j5o:IC:=.draw [(qM 0,.none),(qF 1 4,.none),(qL,.some []),(qA (.call 13 [qa]),.some []),(qA (.strop 4 (.c (.s (.str [32]))) qa),.some []),(qA (.strop 4 qa (.c (.s (.str [32])))),.some []),(qF 3 4,.none),(qL,.some [1,2,3,4]),(qP (.ixa 6 1 (.c (.s (.cp [.str [],.str [97,110,121],.str [114,101,103],.str [115,116,97,99,107],.str [102,105,120,101,100],.str [114,101,117,115,101]]))) qa),.none),(qL,.some [3,4,5,6]),(qA (.strop 4 (.l 4) qa),.none),(qA (.call 11 [.l 10,qa]),.none)]
def jw2:IC:=.seq j5o (qr [qF 3 4,qL,qQ 2 (.bin .ge qa (qC 4))] (.cond (.g 2) (.region [qM 0,qF 4 4,qL,qA (.call 13 [qa]),qA (.strop 4 (.c (.s (.str [32]))) qa),qA (.call 11 [.l 4,qa])]) .skip))
def qd0:IC:=qr [qB 4 (.box 80 (.g 1))] (qr [qM 0,qF 0 4,qL,qP (.ixa 3 1 (.c (.s (.cp [.str [],.str [117,115,101],.str [100,101,102]]))) qa),qL,qA (.strop 4 (.c (.s (.str [32]))) qa),qA (.call 11 [.l 5,qa])] (.seq (qr [qF 2 4,qB 3 (.load 1 false qa)] (.cond (.g 3) (.region [qM 0,qA (.call 11 [qa,.c (.s (.str [32,108,97,116,101]))])]) .skip)) jw2))
theorem qvz:T 26=some (.mk qd0 2 3 []):=ka
def jou:IC:=qr [qQ 9 (.bin .lt (.g 11) (.g 10))] (.seq (qX 9 0) (.seq (.block 1 (qr [qP (.ixs 5 (.g 8) (.g 11)),qK 5,qB 7 (.new 80 [.int .i64 0,.int .i64 0,.bool false,.int .i64 0,.int .i64 0]),qA (.store 5 qa qb)] (.region [qM 0,qA (.load 5 true (.g 7)),qA (.call 26 [qb,qa])]))) (.region [qI 11,qT 11])))
def j5p:IC:=.draw [(qM 0,.none),(qF 0 2,.none),(qL,.some []),(qA (.call 13 [qa]),.some []),(qA (.strop 4 (.c (.s (.str [32,115,112,111,105,108,115,32]))) qa),.some []),(qA (.strop 4 qa (.c (.s (.str [32])))),.some []),(qF 1 2,.none),(qL,.some [1,2,3,4]),(qA (.call 13 [qa]),.some [2,3]),(qA (.strop 4 qd qa),.none),(qA (.call 11 [.l 9,qa]),.none)]
def jov:IC:=qr [qQ 4 (.bin .lt (.g 6) (.g 5))] (.seq (qX 4 2) (.seq (.block 3 (qr [qP (.ixs 2 (.g 3) (.g 6)),qK 2,qB 2 (.new 83 [.int .i64 0,.int .i64 0]),qA (.store 2 qa qb)] j5p)) (.region [qI 6,qT 6])))
def qd1:IC:=qr [qB 12 (.box 62 (.g 1))] (qr [qM 0,qF 0 12,qL,qA (.call 13 [qa]),qA (.strop 4 (.c (.s (.str [111,112,32]))) qa),qA (.call 11 [.l 4,qa])] (.seq (qr [qF 1 12,qB 8 (.load 1 false qa),qQ 10 (.len qa),qQ 11 (.mv (qC 0))] (.block 0 (.loop jou))) (.seq (qr [qF 2 12,qB 3 (.load 1 false qa),qQ 5 (.len qa),qQ 6 (.mv (qC 0))] (.block 2 (.loop jov))) (.region [qM 0,qA (.call 14 [qa,.c (.s (.int .u8 10))])]))))
theorem qv0:T 15=some (.mk qd1 2 11 []):=ka
def j5q:IC:=.draw [(qF 4 21,.none),(qL,.some []),(qA (.call 13 [qa]),.some []),(qA (.strop 4 (.c (.s (.str [10,114,117,110,32]))) qa),.some []),(qA (.strop 4 qa (.c (.s (.str [32])))),.some []),(qF 5 21,.none),(qL,.some [1,2,3,4]),(qA (.call 13 [qa]),.some [2,3]),(qA (.strop 4 qd qa),.none),(qA (.call 11 [.g 18,qa]),.none)]
def j5r:IC:=.seq (.block 3 (qr [qP (.ixs 3 (.g 9) (.g 12)),qK 3,qB 8 (.new 62 [.int .i64 0,.nilSlice,.nilSlice]),qA (.store 3 qa qb)] (.region [qA (.load 3 true (.g 8)),qA (.call 15 [.g 18,qa])]))) (.region [qI 12,qT 12])
def jow:IC:=qr [qQ 10 (.bin .lt (.g 12) (.g 11))] (.seq (qX 10 2) j5r)
def j5s:IC:=.seq (.block 5 (qr [qP (.ixs 2 (.g 4) (.g 7)),qK 2,qB 3 (.new 65 [.int .i64 0,.nilSlice]),qA (.store 2 qa qb)] (qr [qF 0 3,qL,qA (.call 13 [qa]),qA (.strop 4 (.c (.s (.str [101,100,103,101,32]))) qa),qA (.call 11 [.g 18,qa])] (qr [qF 1 3,qL,qA (.call 12 [.g 18,qa])] (.region [qA (.call 14 [.g 18,.c (.s (.int .u8 10))])]))))) (.region [qI 7,qT 7])
def jox:IC:=qr [qQ 5 (.bin .lt (.g 7) (.g 6))] (.seq (qX 5 4) j5s)
def j5t:IC:=.seq (.block 1 (qr [qP (.ixs 3 (.g 14) (.g 17)),qK 3,qB 13 (.new 58 [.nilSlice,.nilSlice,.nilSlice]),qA (.store 3 qa qb)] (qr [qA (.call 11 [.g 18,.c (.s (.str [98,108,111,99,107]))])] (qr [qF 0 13,qL,qA (.call 12 [.g 18,qa])] (qr [qA (.call 14 [.g 18,.c (.s (.int .u8 10))])] (.seq (qr [qF 1 13,qB 9 (.load 1 false qa),qQ 11 (.len qa),qQ 12 (.mv (qC 0))] (.block 2 (.loop jow))) (qr [qF 2 13,qB 4 (.load 1 false qa),qQ 6 (.len qa),qQ 7 (.mv (qC 0))] (.block 4 (.loop jox))))))))) (.region [qI 17,qT 17])
def joy:IC:=qr [qQ 15 (.bin .lt (.g 17) (.g 16))] (.seq (qX 15 0) j5t)
def j5u:IC:=qr [qB 18 (.new 47 [.nilPtr,.nilSlice])] (qr [qA (.call 11 [.g 18,.c (.s (.str [109,97,99,104,105,110,101]))])] (qr [qF 0 21,qG 0,qA (.slicea 2 1 qa),qA (.call 12 [.g 18,qa])] (.seq j5q (qr [qF 6 21,qL,qA (.call 12 [.g 18,qa])] (qr [qA (.call 11 [.g 18,.c (.s (.str [10,118,97,108,117,101,115]))])] (qr [qF 2 21,qG 0,qL,qA (.call 12 [.g 18,qa])] (qr [qA (.call 14 [.g 18,.c (.s (.int .u8 10))])] (.seq (qr [qF 2 21,qG 1,qB 14 (.load 1 false qa),qQ 16 (.len qa),qQ 17 (.mv (qC 0))] (.block 0 (.loop joy))) (qr [qA (.call 16 [.g 18]),qT 2,qQ 1 (.mv (qC 0))] .ret)))))))))
def qd2:IC:=qr [qB 21 (.box 34 (.g 0)),qQ 2 (.mv (.c (.s (.str [])))),qQ 1 (.mv (qC 0))] (.seq (qr [qA (.load 7 true (.g 21)),qA (.call 10 [qa]),qT 20] (qr [qM 20,qQ 19 (.bin .ne qa (qC 0))] (.cond (.g 19) (qr [qM 20,qQ 2 (.mv (.c (.s (.str [])))),qQ 1 (.mv qb)] .ret) .skip))) j5u)
theorem qv1:T 5=some (.mk qd2 1 21 [(.tmp 2),(.tmp 1)]):=ka
def qj3:IC:=qr [qQ 3 (.mv (qC 0)),qQ 2 (.mv (.c (.s (.ifc false))))] (qr [qM 0,qA (.call 24 [qa])] (qr [qM 0,qM 0,qN,qG 1,qL,qM 1,qA (.strop (5+7) qb qa),qP (.nchk (.l 6)),qG 1,qA (.store 1 qa qc)] (qr [qM 1,qA (.strop 3 qa qa),qT 3,qQ 2 (.mv (.c (.s (.ifc false))))] .ret)))
theorem q23:T 11=some (.mk qj3 2 2 [(.tmp 3),(.tmp 2)]):=ka
def qj4:IC:=qr [qQ 2 (.mv (.c (.s (.ifc false))))] (qr [qM 0,qA (.call 24 [qa])] (qr [qM 0,qM 0,qN,qG 1,qL,qM 1,qA (.bslice 5 1 [.int .u8 0] 1 [(0,(1,qa))]),qA (.app 5 1 1 qc qa),qP (.nchk (.l 7)),qG 1,qA (.store 1 qa qc)] (qr [qQ 2 (.mv (.c (.s (.ifc false))))] .ret)))
theorem q24:T 14=some (.mk qj4 2 1 [(.tmp 2)]):=ka
theorem jx7 {h:Hp} (ok:Ok h) {b:Nat} (hb:1<=b) (x:Option AB):∃ hA,h.put b x=hA/\Ok hA/\hA.next=h.next/\hA.get b=x/\∀ n,n≠b->hA.get n=h.get n :=
 ⟨_,rfl,jas ok,Hp.next_put ..,by rw[jak ok hb,if_pos rfl],fun n hn=>by rw[jak ok hb,if_neg hn]⟩
end
end Go.Proofs.YtkpadfebkaangaaGreatDoor.Ev
namespace Go.Proofs.YtkpadfebkaangaaGreatDoor.Ms
set_option linter.all false
abbrev Rd:=List Nat×Bool
def q7p {α β:Type} (P:Rd->α×Rd) (f:α->β) (r:Rd):β×Rd:=(f (P r).1,(P r).2)
structure Scr where
 m1:Nat
 m2:Nat
 seed:Nat
 steps:Nat
 junk:List Nat
 f:Fc
def q25 {α:Type} (P:Rd->α×Rd):Prop:=∀ l s,(P (l,s)).2.2=false->s=false/\∀ t,P (l++t,false)=((P (l,s)).1,((P (l,s)).2.1++t,false))
theorem q25.map {α β:Type} {P:Rd->α×Rd} {f:α->β} (hP:q25 P):q25 (q7p P f):=by
 intro l s h
 obtain⟨rfl,h2⟩:=hP l s h
 refine⟨rfl,fun t=>?_⟩
 show(f (P (l++t,false)).1,(P (l++t,false)).2)=_
 rw[h2 t]
 rfl
structure OkO (o:Opd):Prop where
 k:o.kind<4
 l:o.limit<32
 v:o.value<256
 n:o.n<256
structure OkI (x:Ins):Prop where
 op:x.op<256
 nops:x.ops.length<256
 nsp:x.spoils.length<256
 ops:∀ o∈x.ops,OkO o
 sp:∀ r∈x.spoils,r.1<16/\r.2<16
structure OkB (b:Blk):Prop where
 np:b.params.length<256
 p:∀ v∈b.params,v<256
 ni:b.instrs.length<256
 i:∀ x∈b.instrs,OkI x
 ne:b.edges.length<256
 e:∀ e∈b.edges,e.block<256/\e.args.length<256/\∀ v∈e.args,v<256
structure OkS (s:Scr):Prop where
 m1:s.m1<256
 m2:s.m2<256
 sd:s.seed<4294967296
 st:s.steps<4294967296
 nj:s.junk.length<256
 j:∀ n∈s.junk,n<4294967296
 nv:s.f.values.length<256
 v:∀ v∈s.f.values,v<256
 nb:s.f.blocks.length<256
 b:∀ b∈s.f.blocks,OkB b
end Go.Proofs.YtkpadfebkaangaaGreatDoor.Ms
namespace Go.Proofs.YtkpadfebkaangaaGreatDoor.Ev
noncomputable section
open Go Go.RowKit Go.Proofs.YtkpadfebkaangaaGreatDoor.Ms
set_option linter.all false
set_option maxRecDepth 100000
set_option maxHeartbeats 2000000
variable {x0 x1 x2 x3 x4 x5 x6 x7 x8 x9 x10 x11 x12 x13 x14 x15 x16 x17 x19 x20 x21:AV} {xl:SV}
structure Bl (h:Hp) (p:Nat) (bs:List UInt8) (o:List Nat):Prop where
 ok:Ok h
 ex:∃ c x,h.get p=some (.arr [c,x] bT)/\(c=.nilPtr∨c=.ptr p 0)/\((bs=[]/\o=[]/\x=.nilSlice)∨(∃ m,o=[m]/\x=.slice m 0 bs.length bs.length false 1/\h.get m=some (.arr (u8s bs) 5)))
 p1:1<=p/\p<h.next
 pn:p∉o
 lt:∀ n∈o,1<=n/\n<h.next
section
variable {h h':Hp} {p:Nat} {bs:List UInt8} {o:List Nat}
theorem Bl.keep (w:Bl h p bs o) (ok':Ok h') (hk:∀ n,n<h.next->h'.get n=h.get n) (hn:h.next<=h'.next):Bl h' p bs o:=by
 obtain⟨c,x,h1,h2,h3⟩:=w.ex
 refine⟨ok',⟨c,x,(hk p w.p1.2).trans h1,h2,?_⟩,⟨w.p1.1,by have:=w.p1.2;omega⟩,w.pn,fun n hm=>by have:=w.lt n hm;omega⟩
 rcases h3 with h3 | ⟨m,rfl,h4,h5⟩
 .exact .inl h3
 .exact .inr ⟨m,rfl,h4,(hk m (w.lt m sc).2).trans h5⟩
theorem qd3 (w:Bl h p bs o):∃ hA x,qsa [.s (.ptr p 0)] h=some (.tup [],hA)/\hA.get p=some (.arr [.ptr p 0,x] bT)/\Bl hA p bs o/\Mv h hA (p::o) (p::o):=by
 obtain⟨c,x,h1,h2,h3⟩:=w.ex
 have ok0:=w.ok
 obtain⟨hp1,hp2⟩:=w.p1
 rcases h2 with rfl | rfl
 .obtain ⟨hA,eA,okA,nA,xA,gA⟩:=jx7 ok0 hp1 (some (.arr [.ptr p 0,x] bT))
  refine⟨hA,x,?_,xA,⟨okA,⟨_,x,xA,.inr rfl,?_⟩,⟨hp1,oa⟩,w.pn,fun n hn=>by have:=w.lt n hn;omega⟩,⟨okA,oa,fun n hn=>.inl hn,fun n hn hm=>gA n (fun e=>hm (by simp[e]))⟩⟩
  .unfold qsa
   simp only[h1,qlk]
   rw[show Nat.beq bT bT=true from f1v _]
   show ob (wr h p 0 [.ptr p 0]) (fun h'=>ok (.tup []) h')=_
   rw[qlq ok0,h1,jm4]
   show ob (some (h.put p (some (.arr [.ptr p 0,x] bT)))) _=_
   rw[eA];rfl
  .rcases h3 with h3 | ⟨m,rfl,h4,h5⟩
   .exact .inl h3
   .exact .inr ⟨m,rfl,h4,(gA m (fun e=>w.pn (by simp[e]))).trans h5⟩
 .refine ⟨h,x,?_,h1,w,Mv.refl ok0⟩
  unfold qsa
  simp only[h1,qlk]
  rw[show Nat.beq bT bT=true from f1v _,show Nat.beq p p=true from f1v _]
  rfl
theorem qj5 (w:Bl h p bs o) {s:List UInt8} (hs:s≠[]) (hl:bs.length+s.length<=1000000000) {c x:SV} (hg:h.get p=some (.arr [c,x] bT)):∃ x' hM hN m,jl6 h 5 1 1 s.length (.s x) (u8s s)=some (.s x',hM)/\Ok hM/\hM.get p=some (.arr [c,x] bT) /\
 hM.put p (some (.arr [c,x'] bT))=hN/\Ok hN/\(c=.nilPtr∨c=.ptr p 0->Bl hN p (bs++s) [m])/\Mv h hN (p::o) [p,m]:=by
 obtain⟨c',x2,h1,h2,h3⟩:=w.ex
 rw[hg] at h1
 cases h1
 have ok0:=w.ok
 obtain⟨hp1,hp2⟩:=w.p1
 have hs0:0<s.length:=f1u.2 hs
 obtain⟨k,hk⟩:∃ k,s.length=k+1:=⟨s.length - 1,oa⟩
 rcases h3 with⟨rfl,rfl,rfl⟩ | ⟨m,rfl,rfl,h5⟩
 .obtain ⟨hM,eM,okM,nM,xM,gM⟩:=jeb ok0 (u8s s) 5
  obtain⟨hN,eN,okN,nN,xN,gN⟩:=jx7 okM hp1 (some (.arr [c,.slice h.next 0 s.length s.length false 1] bT))
  refine⟨.slice h.next 0 s.length s.length false 1,hM,hN,h.next,?_,okM,(gM p hp2).trans hg,eN,okN,fun hc=>⟨okN,⟨c,_,xN,hc,.inr ⟨h.next,rfl,sc,(gN _ oa).trans (by simpa using xM)⟩⟩,⟨hp1,oa⟩,by simp;omega,fun n hn=>by simp at hn;subst hn;have:=ok0.pos;omega⟩,⟨okN,oa,fun n hn=>?_,fun n hn hm=>?_⟩⟩
  .rw [hk]
   show jj7 1 (k+1) (nw h (u8s s) 5 (fun q h=>ok (.s (.slice q 0 (k+1) (k+1) false 1)) h))=_
   rw[joj oa oa,jy4 ok0,eM];rfl
  .rcases f0e.1 hn with rfl | hn
   .exact .inl sc
   .simp at hn;subst hn;exact .inr (f0g _)
  .rw [gN n (fun e=>hm (by simp[e]))];exact gM n hn
 .obtain ⟨hm1,hm2⟩:=w.lt m sc
  have hpm:p≠m:=fun e=>w.pn (by simp[e])
  obtain⟨hK,eK,okK,nK,xK,gK⟩:=jx7 ok0 hm1 none
  obtain⟨hM,eM,okM,nM,xM,gM⟩:=jeb okK (u8s (bs++s)) 5
  obtain⟨hN,eN,okN,nN,xN,gN⟩:=jx7 okM hp1 (some (.arr [c,.slice h.next 0 (bs.length+s.length) (bs.length+s.length) false 1] bT))
  rw[nK] at xM gM nM
  have gp:hM.get p=some (.arr [c,.slice m 0 bs.length bs.length false 1] bT):=(gM p hp2).trans ((gK p hpm).trans hg)
  have e8:u8s (bs++s)=u8s bs++u8s s:=by rw[js7,js7,js7,f3c]
  have l8:(u8s bs).length=bs.length:=by rw[js7,f09]
  refine⟨.slice h.next 0 (bs.length+s.length) (bs.length+s.length) false 1,hM,hN,h.next,?_,okM,gp,eN,okN,fun hc=>⟨okN,⟨c,_,xN,hc,.inr ⟨h.next,rfl,by rw[f0f],(gN _ oa).trans xM⟩⟩,⟨hp1,oa⟩,by simp;omega,fun n hn=>by simp at hn;subst hn;have:=ok0.pos;omega⟩,⟨okN,oa,fun n hn=>?_,fun n hn hm=>?_⟩⟩
  .have e1:Nat.ble (Nat.add bs.length s.length) bs.length=false:=by
    cases e:Nat.ble (Nat.add bs.length s.length) bs.length with
    | false=>rfl
    | true=>have:bs.length+s.length<=bs.length:=f0j e;omega
   show oif (Nat.beq 1 1) (oif (Nat.ble (Nat.add bs.length s.length) bs.length) _ (jj7 1 (Nat.add bs.length s.length) (jl5 h 5 1 m 0 bs.length s.length false (u8s s)))) none=_
   rw[e1]
   show jj7 1 (bs.length+s.length) (jl5 h 5 1 m 0 bs.length s.length false (u8s s))=_
   rw[joj oa oa]
   show ob (h.get m) _=_
   rw[h5]
   show ob (jbp (Nat.mul bs.length 1) (u8s bs)) (fun old=>oif (Nat.ble h.lo m) (oif (Nat.beq 5 5) (nw (h.put m none) (jgk old (u8s s)) 5 (fun k h=>ok (.s (.slice k 0 (Nat.add bs.length s.length) (Nat.add bs.length s.length) false 1)) h)) none) none)=_
   rw[show jbp (Nat.mul bs.length 1) (u8s bs)=some (u8s bs) from (ja2 _).2 ⟨by rw[l8];exact f2w (f19 _),by rw[show Nat.mul bs.length 1=bs.length from f19 _,←l8,f2z]⟩]
   show oif (Nat.ble h.lo m) _ none=_
   rw[ok0.lo,show Nat.ble 0 m=true from jbl (f17 _)]
   show nw (h.put m none) (jgk (u8s bs) (u8s s)) 5 (fun k h=>ok (.s (.slice k 0 (Nat.add bs.length s.length) (Nat.add bs.length s.length) false 1)) h)=_
   rw[eK,jy4 okK,jc3,←e8,eM,nK];rfl
  .rcases f0e.1 hn with rfl | hn
   .exact .inl sc
   .simp at hn;subst hn;exact .inr (f0g _)
  .rw [gN n (fun e=>hm (by simp[e])),gM n hn]
   exact gK n (fun e=>hm (by simp[e]))
end
def Bf (f:FuncId):Bool:=Nat.beq f 11||(Nat.beq f 14||(Nat.beq f 12||(Nat.beq f 26||(Nat.beq f 15||Nat.beq f 5))))
structure BlF (F:Fns):Prop where
 x:∀ f,Bf f=true->∀ vs h,jdg F f vs h=none
 t:qe3 F=T
 l:∀ f vs h r,jsi f vs h=some r->jdg F f vs h=some r
section
variable {F:Fns} {h:Hp} {p:Nat} {bs:List UInt8} {o:List Nat}
def Bln (h:Hp) (p:Nat) (bs:List UInt8) (o:List Nat) (l:List UInt8):AV->Hp->Prop:=fun _ h'=>∃ m,Bl h' p (bs++l) [m]/\Mv h h' (p::o) [p,m]
theorem jew (f:BlF F) (w:Bl h p bs o) {s:List UInt8} (hs:s≠[]) (hl:bs.length+s.length<=1000000000):WC F 11 [.s (.ptr p 0),.s (.str s)] h (Bln h p bs o s):=by
 refine ja3 (f.x _ rfl _ _) ((congrFun f.t _).trans q23) rfl ?_
 unfold qj3
 obtain⟨hA,x,e1,xA,wA,mA⟩:=qd3 w
 have okA:=wA.ok
 have hc:=fun(Q:AV->Hp->Prop)=>jam (F:=F) (Q:=Q) (f.l 24 _ _ _ (show jsi 24 [.s (.ptr p 0)] h=_ from e1))
 obtain⟨x',hM,hN,m,t1,okM,xM,eN,okN,wN,mN⟩:=qj5 wA hs hl xA
 have hln:=jw0 (l:=s) oa
 have hll:jb3 s=s.length:=ja4 s
 simp(disch:=first|omega|rfl) only[go_sem,jbr,jbs,jbt,jat,jan,jbu,jau,hc,xA,hll,t1,xM,eN,hln]
 exact⟨m,wN (.inr rfl),mA.trans mN⟩
end
def ito (n:Nat):List UInt8:=dig 19 n []
theorem qd4:∀ (f n:Nat) (acc:List UInt8),(dig f n acc).length<=f+acc.length
 | 0,n,acc=>by show acc.length<=_;omega
 | f+1,n,acc=>by
  show(oif (Nat.ble n 9) (UInt8.ofNat (48+n)::acc) (dig f (n / 10) (UInt8.ofNat (48+n % 10)::acc))).length<=_
  rw[jav]
  split
  .simp;omega
  .have:=qd4 f (n / 10) (UInt8.ofNat (48+n % 10)::acc)
   rw[f0l] at this;omega
theorem jcs (n:Nat):(ito n).length<=19:=qd4 19 n []
def jjf (l:List Nat):List UInt8:=(l.map (fun n=>(32:UInt8)::ito n)).flatten
theorem jlk (n:Nat) (l:List Nat):jjf (n::l)=32::ito n++jjf l:=rfl
theorem jgb:∀ l:List Nat,(jjf l).length<=20*l.length
 | []=>f0g _
 | n::l=>by have:=jgb l;have:=jcs n;rw[jlk];simp;omega
def RdN (h:Hp) (xl:SV) (l:List Nat) (own:List Nat):Prop:=xl=jag jaz l∨∃ b o mc ex cells ty,xl=.slice b o l.length mc ex 1/\h.get b=some (.arr cells ty)/\b<h.next/\b∉own/\∀ (i n:Nat),l[i]?=some n->cells[o+i]?=some (si n)
theorem RdN.len {h:Hp} {l own:List Nat} (r:RdN h xl l own):jx6 (.s xl)=some (vi l.length):=by
 rcases r with rfl | ⟨b,o,mc,ex,cells,ty,rfl,_⟩
 .exact jal
 .rfl
theorem RdN.mv {h h':Hp} {l own own':List Nat} (r:RdN h xl l own) (m:Mv h h' own own'):RdN h' xl l own':=by
 rcases r with rfl | ⟨b,o,mc,ex,cells,ty,rfl,h1,h2,h3,h4⟩
 .exact .inl rfl
 .exact .inr ⟨b,o,mc,ex,cells,ty,rfl,(m.keep b h2 h3).trans h1,f0p h2 m.nx,fun hc=>by
   rcases m.new b hc with h5 | h5
   .exact h3 h5
   .omega,h4⟩
section
variable {F:Fns} {h:Hp} {p:Nat} {bs:List UInt8} {o:List Nat}
theorem je3 (f:BlF F) {n:Nat} (hn:n<=9223372036854775807) {Q:AV->Hp->Prop}:WC F 13 [vi (n:Int)] h Q=Q (.s (.str (ito n))) h:=by
 refine jam (f.l 13 _ _ _ ?_)
 show qxe [.s (.int .i64 (Int.ofNat n))] h=_
 show oif (Nat.ble n 9223372036854775807) (some (AV.s (.str (dig 19 n [])),h)) none=_
 rw[jbl hn];rfl
def q3w (h:Hp) (p:Nat) (bs:List UInt8) (o:List Nat) (l:List UInt8):AV->Hp->Prop:=fun _ h'=>∃ o',Bl h' p (bs++l) o'/\Mv h h' (p::o) (p::o')
theorem jw3 (f:BlF F) (w:Bl h p bs o) (hl:bs.length+1<=1000000000):WC F 14 [.s (.ptr p 0),.s (.int .u8 10)] h (Bln h p bs o [10]):=by
 refine ja3 (f.x _ rfl _ _) ((congrFun f.t _).trans q24) rfl ?_
 unfold qj4
 obtain⟨hA,x,e1,xA,wA,mA⟩:=qd3 w
 have okA:=wA.ok
 have hc:=fun(Q:AV->Hp->Prop)=>jam (F:=F) (Q:=Q) (f.l 24 _ _ _ (show jsi 24 [.s (.ptr p 0)] h=_ from e1))
 obtain⟨hB,eB,okB,nB,xB,gB⟩:=jeb okA [.int .u8 10] 5
 have wB:=wA.keep okB gB oa
 have zB:=(gB p wA.p1.2).trans xA
 obtain⟨x',hM,hN,m,t1,okM,xM,eN,okN,wN,mN⟩:=qj5 (s:=[10]) wB sc (by simpa using hl) zB
 have t2:joi hB 5 1 1 (.s x) (.s (.slice hA.next 0 1 1 true 1))=some (.s x',hM):=by
  show ob (rd hB hA.next 0 (Nat.mul 1 1)) (fun new=>jl6 hB 5 1 1 1 (.s x) new)=_
  rw[qti,xB]
  exact t1
 simp(disch:=first|omega|rfl) only[go_sem,jbr,jbs,jbt,jat,jan,jbu,jau,hc,xA,eB,t2,xM,eN]
 exact⟨m,wN (.inr rfl),mA.trans (Mv.trans ⟨okB,oa,fun n hn=>.inl hn,fun n hn _=>gB n hn⟩ mN)⟩
theorem qj6 (f:BlF F) {l:List Nat} (hb:∀ n∈l,n<=9223372036854775807) (hl:l.length<=10000000) {Q:Ex->St->Prop} :
 ∀ (d i:Nat) (_:i+d=l.length) {hi:Hp} {bs:List UInt8} {o:List Nat} (_:Bl hi p bs o) (_:RdN hi xl l (p::o)) (_:bs.length+20*d<=1000000000) {x2 x4:AV}
  (hQ:∀ hj o' x2 x4,Bl hj p (bs++jjf (l.drop i)) o'->Mv hi hj (p::o) (p::o')->Q (.exit 0) (.mk [.s (.ptr p 0),x1,x2,.s xl,x4,vi l.length,vi l.length] hj)),
  W F jr6.loop (.mk [.s (.ptr p 0),x1,x2,.s xl,x4,vi l.length,vi i] hi) Q
 | 0,i,hd,hi,bs,o,w,r,hw,x2,x4,hQ=>by
  obtain rfl:i=l.length:=oa
  rw[jah]
  unfold jr6
  have ok:=w.ok
  simp(disch:=first|omega|rfl) only[go_sem,f0s]
  exact hQ hi o _ _ (by rw[f2m];simpa[jjf] using w) (Mv.refl ok)
 | d+1,i,hd,hi,bs,o,w,r,hw,x2,x4,hQ=>by
  have hil:i<l.length:=oa
  have hlt:(i:Int)<(l.length:Int):=oa
  have hss:(i:Int)+1=((i+1:Nat):Int):=oa
  obtain⟨n,hn⟩:∃ n,l[i]?=some n:=⟨_,f0b hil⟩
  have hdr:l.drop i=n::l.drop (i+1):=by rw[f1c hil,(f0t.1 hn).2]
  have ok:=w.ok
  have hni:=jcs n
  have hit:=fun(h:Hp) (Q:AV->Hp->Prop)=>je3 (h:=h) (Q:=Q) f (hb n (f0c hn))
  have hct:=jds (l:=[32]) (r:=ito n) (by simp;omega)
  have hlen:([32]++ito n).length<=20:=by simp;omega
  have step:∀ {x2':AV},WC F 11 [.s (.ptr p 0),.s (.str ([32]++ito n))] hi (fun v hj=>∀ x2 x4,W F jr6.loop (.mk [.s (.ptr p 0),x1,x2,.s xl,x4,vi l.length,vi ((i+1:Nat):Int)] hj) Q):=by
   intro x2'
   refine WC.imp (jew f w sc oa) ?_
   rintro v hj ⟨m,w1,m1⟩ x2 x4
   exact qj6 f hb hl d (i+1) oa w1 (r.mv m1) (by rw[f0f];omega) (fun hk o' x2 x4 w' m'=>hQ hk o' x2 x4 (by rw[hdr,jlk];simpa[f0n] using w') (m1.trans m'))
  rw[jah]
  unfold jr6
  rcases r with hxl | ⟨b,q,mc,ex,cells,ty,hxl,r1,r2,r3,r4⟩
  .have hix:ju3 1 (.s xl) (vi (i:Int))=some (.s (.cp (jaz n))):=by rw[hxl];exact jai (enc:=jaz) (size:=1) hn rfl
   simp(disch:=first|omega|rfl) only[go_sem,jbr,jbs,jbt,jat,jan,jbu,jau,jae,eq_true hlt,hix,jaz,hit,hct]
   refine WC.imp (step (x2':=x2)) ?_
   intro v hj hh
   simp(disch:=first|omega|rfl) only[go_sem,jae,hss]
   exact hh _ _
  .have hix:ju3 1 (.s xl) (vi (i:Int))=some (.s (.ptr b (q+i*1))):=by rw[hxl];exact jbf hil
   have hrd:rdB (hi.get b) (q+i*1) 1=some [si n]:=by rw[r1];exact j4p (by rw[f19];exact r4 i n hn)
   simp(disch:=first|omega|rfl) only[go_sem,jbr,jbs,jbt,jat,jan,jbu,jau,jae,eq_true hlt,hix,hrd,hit,hct]
   refine WC.imp (step (x2':=x2)) ?_
   intro v hj hh
   simp(disch:=first|omega|rfl) only[go_sem,jae,hss]
   exact hh _ _
theorem jr7 (f:BlF F) (w:Bl h p bs o) {l:List Nat} (hb:∀ n∈l,n<=9223372036854775807) (hl:l.length<=10000000) (r:RdN h xl l (p::o)) (hw:bs.length+20*l.length<=1000000000):WC F 12 [.s (.ptr p 0),.s xl] h (q3w h p bs o (jjf l)):=by
 refine ja3 (f.x _ rfl _ _) ((congrFun f.t _).trans q22) rfl ?_
 unfold qj2
 have ok:=w.ok
 have ll:=r.len
 simp(disch:=first|omega|rfl) only[go_sem,ll]
 refine qj6 f hb hl l.length 0 oa w r oa (fun hj o' x2 x4 w' m'=>?_)
 simp(disch:=first|omega|rfl) only[go_sem]
 exact⟨o',by rw[f1w] at w';exact w',m'⟩
end
def kw:Nat->List UInt8
 | 1=>[117,115,101]
 | 2=>[100,101,102]
 | _=>[]
def lw:Nat->List UInt8
 | 1=>[97,110,121]
 | 2=>[114,101,103]
 | 3=>[115,116,97,99,107]
 | 4=>[102,105,120,101,100]
 | 5=>[114,101,117,115,101]
 | _=>[]
theorem qj7 (k:Nat):(kw k).length<=3:=by unfold kw;split<;>simp
theorem qj8 (k:Nat):(lw k).length<=5:=by unfold lw;split<;>simp
theorem q26 {k:Nat} (hk:k<=2):jbp 1 (jcb (k*1) [SV.str [],.str [117,115,101],.str [100,101,102]])=some [.str (kw k)]:=by
 match k,hk with
 | 0,_=>rfl
 | 1,_=>rfl
 | 2,_=>rfl
theorem q27 {k:Nat} (hk:k<=5):jbp 1 (jcb (k*1) [SV.str [],.str [97,110,121],.str [114,101,103],.str [115,116,97,99,107],.str [102,105,120,101,100],.str [114,101,117,115,101]])=some [.str (lw k)]:=by
 match k,hk with
 | 0,_=>rfl
 | 1,_=>rfl
 | 2,_=>rfl
 | 3,_=>rfl
 | 4,_=>rfl
 | 5,_=>rfl
def j0d (o:Ms.Opd):List UInt8:=((([32]++ito o.value)++[32])++lw o.limit)++(if 4<=o.limit then [32]++ito o.n else [])
def j22 (o:Ms.Opd):List UInt8:=([32]++kw o.kind)++((if o.late=true then [32,108,97,116,101] else [])++j0d o)
theorem jw4 (o:Ms.Opd):(j22 o).length<=60:=by
 have h1:=qj7 o.kind
 have h2:=qj8 o.limit
 have h3:=jcs o.value
 have h4:=jcs o.n
 unfold j22 j0d
 simp only[f0f,f0l,f06]
 split<;>split<;>simp<;>omega
structure TkO (o:Ms.Opd):Prop where
 k:o.kind<=2
 l:o.limit<=5
 v:o.value<=9223372036854775807
 n:o.n<=9223372036854775807
section
variable {F:Fns} {h:Hp} {p:Nat} {bs:List UInt8} {o:List Nat}
theorem qq5 (f:BlF F) (w:Bl h p bs o) {x:Ms.Opd} (k:TkO x) (hw:bs.length<=900000000):WC F 26 [.s (.ptr p 0),.agg (jbe x)] h (q3w h p bs o (j22 x)):=by
 refine ja3 (f.x _ rfl _ _) ((congrFun f.t _).trans qvz) rfl ?_
 unfold qd0 jbe
 have ok:=w.ok
 have hki:=q26 k.k
 have hli:=q27 k.l
 have l1:=qj7 x.kind
 have l2:=qj8 x.limit
 have l3:=jcs x.value
 have l4:=jcs x.n
 obtain⟨hA,eA,okA,nA,xA,gA⟩:=jeb ok [si x.kind,si x.value,.bool x.late,si x.limit,si x.n] 80
 have wA:=w.keep okA gA oa
 have mA:Mv h hA (p::o) (p::o):=⟨okA,oa,fun n hn=>.inl hn,fun n hn _=>gA n hn⟩
 have c1:=jds (l:=[32]) (r:=kw x.kind) (by simp;omega)
 have c2:=jds (l:=[32]) (r:=ito x.value) (by simp;omega)
 have c3:=jds (l:=32::ito x.value) (r:=[32]) (by simp;omega)
 have c4:=jds (l:=32::(ito x.value++[32])) (r:=lw x.limit) (by simp;omega)
 have c5:=jds (l:=[32]) (r:=ito x.n) (by simp;omega)
 have i1:=fun(h:Hp) (Q:AV->Hp->Prop)=>je3 (h:=h) (Q:=Q) f k.v
 have i2:=fun(h:Hp) (Q:AV->Hp->Prop)=>je3 (h:=h) (Q:=Q) f k.n
 have hk3:x.kind<3:=by have:=k.k;omega
 have hl6:x.limit<6:=by have:=k.l;omega
 have fA:h.next∉p::o:=fun hc=>by
  rcases f0e.1 hc with h1 | h1
  .have:=w.p1.2;omega
  .have:=w.lt _ h1;omega
 have out:∀ {hi hj:Hp} {o1 o2:List Nat},h.next<hi.next/\h.next∉p::o1->Mv hi hj (p::o1) (p::o2)->h.next<hj.next/\h.next∉p::o2:=fun h0 m=>⟨f0p h0.1 m.nx,fun hc=>by
  rcases m.new _ hc with h1 | h1
  .exact h0.2 h1
  .have:=h0.1;omega⟩
 simp(disch:=first|omega|rfl) only[go_sem,jbr,jbs,jbt,jat,jan,jbu,jau,eA,xA,hki,c1]
 refine WC.imp (jew f wA (s:=[32]++kw x.kind) sc (by simp;omega)) ?_
 rintro v hB ⟨m1,w1,e1⟩
 have b1:=out ⟨oa,fA⟩ e1
 have xB:=(e1.keep h.next oa fA).trans xA
 have okB:=w1.ok
 have last:∀ {hC:Hp} {m2:Nat} {bs':List UInt8} {x2 x3:AV} {Q:AV->Hp->Prop},Bl hC p bs' [m2]->h.next<hC.next/\h.next∉[p,m2]->hC.get h.next=some (.arr [si x.kind,si x.value,.bool x.late,si x.limit,si x.n] 80)->bs'.length<=900000010 ->
  (∀ v hD m3,Bl hD p (bs'++j0d x) [m3]->Mv hC hD [p,m2] [p,m3]->Q v hD) ->
  W F jw2 (.mk [.s (.ptr p 0),.agg [si x.kind,si x.value,.bool x.late,si x.limit,si x.n],x2,x3,.s (.ptr h.next 0)] hC) (jqh [] Q):=by
  intro hC m2 bs' x2 x3 Q w2 b2 xC hb hQ
  have okC:=w2.ok
  unfold jw2 j5o
  have hh:(hC.next<=h.next/\h.next<hC.next)=False:=eq_false oa
  simp(disch:=first|omega|rfl) only[go_sem,jbr,jbs,jbt,jat,jan,jbu,jau,xC,i1,c2,c3,c4,hli,hh]
  refine WC.imp (jew f w2 (s:=(([32]++ito x.value)++[32])++lw x.limit) sc (by simp;omega)) ?_
  rintro v hD ⟨m3,w3,e3⟩
  have okD:=w3.ok
  have xD:=(e3.keep h.next b2.1 b2.2).trans xC
  by_cases h4:4<=x.limit
  .have q4:(4:Int)<=(x.limit:Int):=oa
   simp(disch:=first|omega|rfl) only[go_sem,jbr,jbs,jbt,jat,jan,jbu,jau,xD,i2,c5,eq_true q4]
   refine WC.imp (jew f w3 (s:=[32]++ito x.n) sc (by simp;omega)) ?_
   rintro v hE ⟨m4,w4,e4⟩
   have okE:=w4.ok
   simp(disch:=first|omega|rfl) only[go_sem]
   refine hQ _ _ m4 ?_ (e3.trans e4)
   unfold j0d
   rw[if_pos h4,←f0n];exact w4
  .have q4:((4:Int)<=(x.limit:Int))=False:=eq_false oa
   simp(disch:=first|omega|rfl) only[go_sem,jbr,jbs,jbt,jat,jan,jbu,jau,xD,q4]
   refine hQ _ _ m3 ?_ e3
   unfold j0d
   rw[if_neg h4,f08];exact w3
 cases el:x.late with
 | false =>
  rw[el] at xB last
  simp(disch:=first|omega|rfl) only[go_sem,jbr,jbs,jbt,jat,jan,jbu,jau,xB]
  refine last w1 b1 xB (by simp;omega) (fun v hD m3 w3 e3=>⟨[m3],?_,mA.trans (e1.trans e3)⟩)
  unfold j22
  rw[el,←f0n];exact w3
 | true =>
  rw[el] at xB last
  simp(disch:=first|omega|rfl) only[go_sem,jbr,jbs,jbt,jat,jan,jbu,jau,xB]
  refine WC.imp (jew f w1 (s:=[32,108,97,116,101]) sc (by simp;omega)) ?_
  rintro v hC ⟨m2,w2,e2⟩
  have okC:=w2.ok
  have b2:=out b1 e2
  have xC:=(e2.keep h.next b1.1 b1.2).trans xB
  simp(disch:=first|omega|rfl) only[go_sem,jbr,jbs,jbt,jat,jan,jbu,jau]
  refine last w2 b2 xC (by simp;omega) (fun v hD m3 w3 e3=>⟨[m3],?_,mA.trans (e1.trans (e2.trans e3))⟩)
  unfold j22
  rw[el,←f0n,←f0n];exact w3
end
def j8l (r:Nat×Nat):List UInt8:=(([32,115,112,111,105,108,115,32]++ito r.1)++[32])++ito r.2
def j5v (x:Ms.Ins):List UInt8:=((([111,112,32]++ito x.op)++(x.ops.map j22).flatten)++(x.spoils.map j8l).flatten)++[10]
theorem jw5 (r:Nat×Nat):(j8l r).length<=60:=by
 have h1:=jcs r.1
 have h2:=jcs r.2
 unfold j8l;simp;omega
theorem jll {α:Type} {f:α->List UInt8} {k:Nat} (hf:∀ a,(f a).length<=k):∀ l:List α,((l.map f).flatten).length<=k*l.length
 | []=>sc
 | a::l=>by have:=jll hf l;have:=hf a;rw[f01,f03,f0f,f0l,Nat.mul_succ];omega
structure TkI (x:Ms.Ins):Prop where
 op:x.op<=9223372036854775807
 nops:x.ops.length<=20
 nsp:x.spoils.length<=40
 ops:∀ o∈x.ops,TkO o
 sp:∀ r∈x.spoils,r.1<=9223372036854775807/\r.2<=9223372036854775807
theorem jw6 {x:Ms.Ins} (k:TkI x):(j5v x).length<=4000:=by
 have h1:=jcs x.op
 have h2:=jll jw4 x.ops
 have h3:=jll jw5 x.spoils
 have:=k.nops
 have:=k.nsp
 unfold j5v
 simp only[f0f,f0l,f06]
 omega
section
variable {F:Fns} {h:Hp} {p:Nat} {bs:List UInt8} {o:List Nat}
theorem Bl.low {h h':Hp} {p:Nat} {o:List Nat} (ok:Ok h') (hn:h.next<=h'.next) (g:∀ n,n<h.next->h'.get n=h.get n):Mv h h' (p::o) (p::o):=⟨ok,hn,fun n hm=>.inl hm,fun n hn _=>g n hn⟩
theorem Bl.fresh (w:Bl h p bs o):h.next∉p::o:=fun hc=>by
 rcases f0e.1 hc with h1 | h1
 .have:=w.p1.2;omega
 .have:=w.lt _ h1;omega
theorem Bl.out {hi hj:Hp} {p n:Nat} {o1 o2:List Nat} (h0:n<hi.next/\n∉p::o1) (m:Mv hi hj (p::o1) (p::o2)):n<hj.next/\n∉p::o2:=⟨f0p h0.1 m.nx,fun hc=>by
 rcases m.new _ hc with h1 | h1
 .exact h0.2 h1
 .have:=h0.1;omega⟩
theorem qj9 (f:BlF F) {l:List Ms.Opd} (hok:∀ o∈l,TkO o) (hl:l.length<=1000) {Q:Ex->St->Prop} :
 ∀ (d i:Nat) (_:i+d=l.length) {hi:Hp} {bs:List UInt8} {o:List Nat} (_:Bl hi p bs o) (_:bs.length+60*d<=900000000) {x7 x9:AV}
  (hQ:∀ hj o' x7 x9,Bl hj p (bs++((l.drop i).map j22).flatten) o'->Mv hi hj (p::o) (p::o')->Q (.exit 0) (.mk [.s (.ptr p 0),x1,x2,x3,x4,x5,x6,x7,.s (jag jbe l),x9,vi l.length,vi l.length,x12] hj)),
  W F jou.loop (.mk [.s (.ptr p 0),x1,x2,x3,x4,x5,x6,x7,.s (jag jbe l),x9,vi l.length,vi i,x12] hi) Q
 | 0,i,hd,hi,bs,o,w,hw,x7,x9,hQ=>by
  obtain rfl:i=l.length:=oa
  rw[jah]
  unfold jou
  have ok:=w.ok
  simp(disch:=first|omega|rfl) only[go_sem,f0s]
  exact hQ hi o _ _ (by rw[f2m];simpa using w) (Mv.refl ok)
 | d+1,i,hd,hi,bs,o,w,hw,x7,x9,hQ=>by
  have hil:i<l.length:=oa
  have hlt:(i:Int)<(l.length:Int):=oa
  have hss:(i:Int)+1=((i+1:Nat):Int):=oa
  obtain⟨x,hx⟩:∃ n,l[i]?=some n:=⟨_,f0b hil⟩
  have hdr:l.drop i=x::l.drop (i+1):=by rw[f1c hil,(f0t.1 hx).2]
  have hix:=jai (enc:=jbe) (size:=5) hx rfl
  have ok:=w.ok
  have hxl:=jw4 x
  obtain⟨hA,eA,okA,nA,xA,gA⟩:=jci ok [.int .i64 0,.int .i64 0,.bool false,.int .i64 0,.int .i64 0] (jbe x) 80
  have wA:=w.keep okA gA oa
  have run:=qq5 f wA (hok x (f0c hx)) oa
  unfold jbe at xA eA run
  rw[jah]
  unfold jou
  simp(disch:=first|omega|rfl) only[go_sem,jae,eq_true hlt,hix,jbe,eA,xA]
  refine WC.imp run ?_
  rintro v hB ⟨o1,w1,m1⟩
  have okB:=w1.ok
  simp(disch:=first|omega|rfl) only[go_sem,jae,hss]
  exact qj9 f hok hl d (i+1) oa w1 (by rw[f0f];omega) (fun hj o' x7 x9 w' m'=>hQ hj o' x7 x9 (by rw[hdr,f01,f03,←f0n];exact w') ((Bl.low okA oa gA).trans (m1.trans m')))
theorem qka (f:BlF F) {l:List (Nat×Nat)} (hok:∀ r∈l,r.1<=9223372036854775807/\r.2<=9223372036854775807) (hl:l.length<=1000) {Q:Ex->St->Prop} :
 ∀ (d i:Nat) (_:i+d=l.length) {hi:Hp} {bs:List UInt8} {o:List Nat} (_:Bl hi p bs o) (_:bs.length+60*d<=900000000) {x2 x4:AV}
  (hQ:∀ hj o' x2 x4,Bl hj p (bs++((l.drop i).map j8l).flatten) o'->Mv hi hj (p::o) (p::o')->Q (.exit 2) (.mk [.s (.ptr p 0),x1,x2,.s (jag jda l),x4,vi l.length,vi l.length,x7,x8,x9,x10,x11,x12] hj)),
  W F jov.loop (.mk [.s (.ptr p 0),x1,x2,.s (jag jda l),x4,vi l.length,vi i,x7,x8,x9,x10,x11,x12] hi) Q
 | 0,i,hd,hi,bs,o,w,hw,x2,x4,hQ=>by
  obtain rfl:i=l.length:=oa
  rw[jah]
  unfold jov
  have ok:=w.ok
  simp(disch:=first|omega|rfl) only[go_sem,f0s]
  exact hQ hi o _ _ (by rw[f2m];simpa using w) (Mv.refl ok)
 | d+1,i,hd,hi,bs,o,w,hw,x2,x4,hQ=>by
  have hil:i<l.length:=oa
  have hlt:(i:Int)<(l.length:Int):=oa
  have hss:(i:Int)+1=((i+1:Nat):Int):=oa
  obtain⟨x,hx⟩:∃ n,l[i]?=some n:=⟨_,f0b hil⟩
  have hdr:l.drop i=x::l.drop (i+1):=by rw[f1c hil,(f0t.1 hx).2]
  have hix:=jai (enc:=jda) (size:=2) hx rfl
  have ok:=w.ok
  have hxl:=jw5 x
  obtain⟨k1,k2⟩:=hok x (f0c hx)
  have q1:=jcs x.1
  have q2:=jcs x.2
  obtain⟨hA,eA,okA,nA,xA,gA⟩:=jci ok [.int .i64 0,.int .i64 0] (jda x) 83
  have wA:=w.keep okA gA oa
  have i1:=fun(h:Hp) (Q:AV->Hp->Prop)=>je3 (h:=h) (Q:=Q) f k1
  have i2:=fun(h:Hp) (Q:AV->Hp->Prop)=>je3 (h:=h) (Q:=Q) f k2
  have c1:=jds (l:=[32,115,112,111,105,108,115,32]) (r:=ito x.1) (by simp;omega)
  have c2:=jds (l:=32::115::112::111::105::108::115::32::ito x.1) (r:=[32]) (by simp;omega)
  have c3:=jds (l:=32::115::112::111::105::108::115::32::(ito x.1++[32])) (r:=ito x.2) (by simp;omega)
  have hh:(hA.next<=hi.next/\hi.next<hA.next)=False:=eq_false oa
  unfold jda at xA eA
  rw[jah]
  unfold jov j5p
  simp(disch:=first|omega|rfl) only[go_sem,jbr,jbs,jbt,jat,jan,jbu,jau,jae,eq_true hlt,hix,jda,eA,xA,i1,i2,c1,c2,c3,hh]
  refine WC.imp (jew f wA (s:=j8l x) (by unfold j8l;simp) oa) ?_
  rintro v hB ⟨m1,w1,e1⟩
  have okB:=w1.ok
  simp(disch:=first|omega|rfl) only[go_sem,jae,hss]
  exact qka f hok hl d (i+1) oa w1 (by rw[f0f];omega) (fun hj o' x2 x4 w' m'=>hQ hj o' x2 x4 (by rw[hdr,f01,f03,←f0n];exact w') ((Bl.low okA oa gA).trans (e1.trans m')))
theorem qq6 (f:BlF F) (w:Bl h p bs o) {x:Ms.Ins} (k:TkI x) (hw:bs.length<=800000000):WC F 15 [.s (.ptr p 0),.agg (jeh x)] h (Bln h p bs o (j5v x)):=by
 refine ja3 (f.x _ rfl _ _) ((congrFun f.t _).trans qv0) rfl ?_
 unfold qd1 jeh
 have ok:=w.ok
 have l1:=jcs x.op
 have l2:=jll jw4 x.ops
 have l3:=jll jw5 x.spoils
 have h1:=k.nops
 have h2:=k.nsp
 obtain⟨hA,eA,okA,nA,xA,gA⟩:=jeb ok [si x.op,jag jbe x.ops,jag jda x.spoils] 62
 have wA:=w.keep okA gA oa
 have i1:=fun(h:Hp) (Q:AV->Hp->Prop)=>je3 (h:=h) (Q:=Q) f k.op
 have c1:=jds (l:=[111,112,32]) (r:=ito x.op) (by simp;omega)
 have ll1:=jal (enc:=jbe) (l:=x.ops)
 have ll2:=jal (enc:=jda) (l:=x.spoils)
 have fA:=w.fresh
 simp(disch:=first|omega|rfl) only[go_sem,jbr,jbs,jbt,jat,jan,jbu,jau,eA,xA,i1,c1]
 refine WC.imp (jew f wA (s:=[111,112,32]++ito x.op) sc (by simp;omega)) ?_
 rintro v hB ⟨m1,w1,e1⟩
 have okB:=w1.ok
 have b1:=Bl.out (n:=h.next) ⟨oa,fA⟩ e1
 have xB:=(e1.keep h.next oa fA).trans xA
 have n1:(bs++([111,112,32]++ito x.op)).length<=bs.length+22:=by simp;omega
 simp(disch:=first|omega|rfl) only[go_sem,xB,ll1]
 refine qj9 f k.ops oa x.ops.length 0 oa w1 oa (fun hC o2 x7 x9 w2 e2=>?_)
 rw[f1w] at w2
 have okC:=w2.ok
 have xC:=(e2.keep h.next b1.1 b1.2).trans xB
 have n2:((bs++([111,112,32]++ito x.op))++(x.ops.map j22).flatten).length<=bs.length+60022:=by rw[f0f];omega
 simp(disch:=first|omega|rfl) only[go_sem,xC,ll2]
 refine qka f k.sp oa x.spoils.length 0 oa w2 oa (fun hD o3 x2 x4 w3 e3=>?_)
 rw[f1w] at w3
 have okD:=w3.ok
 have n3:(((bs++([111,112,32]++ito x.op))++(x.ops.map j22).flatten)++(x.spoils.map j8l).flatten).length<=bs.length+120022:=by rw[f0f];omega
 simp(disch:=first|omega|rfl) only[go_sem]
 refine WC.imp (jw3 f w3 oa) ?_
 rintro v hE ⟨m4,w4,e4⟩
 simp(disch:=first|omega|rfl) only[go_sem]
 refine⟨m4,?_,(Bl.low okA oa gA).trans (e1.trans (e2.trans (e3.trans e4)))⟩
 unfold j5v
 simpa only[f0n] using w4
end
set_option maxHeartbeats 4000000
def jw7 (s:Scr):List SV:=[si s.m1,si s.m2,jag jaz s.f.values,jag ja6 s.f.blocks,si s.seed,si s.steps,jag jaz s.junk]
def j8o (e:Ms.Edg):List UInt8:=(([101,100,103,101,32]++ito e.block)++jjf e.args)++[10]
def j23 (b:Ms.Blk):List UInt8:=((([98,108,111,99,107]++jjf b.params)++[10])++(b.instrs.map j5v).flatten)++(b.edges.map j8o).flatten
def j0w (s:Scr):List UInt8:=(((((([109,97,99,104,105,110,101]++jjf [s.m1,s.m2])++((([10,114,117,110,32]++ito s.seed)++[32])++ito s.steps))++jjf s.junk)++[10,118,97,108,117,101,115])++jjf s.f.values)++[10])++(s.f.blocks.map j23).flatten
structure TkE (e:Ms.Edg):Prop where
 b:e.block<=9223372036854775807
 na:e.args.length<=300
 a:∀ n∈e.args,n<=9223372036854775807
structure TkB (b:Ms.Blk):Prop where
 np:b.params.length<=300
 p:∀ n∈b.params,n<=9223372036854775807
 ni:b.instrs.length<=100
 i:∀ x∈b.instrs,TkI x
 ne:b.edges.length<=20
 e:∀ e∈b.edges,TkE e
structure TkS (s:Scr):Prop where
 m1:s.m1<=9223372036854775807
 m2:s.m2<=9223372036854775807
 sd:s.seed<=9223372036854775807
 st:s.steps<=9223372036854775807
 nj:s.junk.length<=300
 j:∀ n∈s.junk,n<=9223372036854775807
 nv:s.f.values.length<=300
 v:∀ n∈s.f.values,n<=9223372036854775807
 nb:s.f.blocks.length<=100
 b:∀ b∈s.f.blocks,TkB b
theorem j5w {e:Ms.Edg} (k:TkE e):(j8o e).length<=6100:=by
 have h1:=jcs e.block
 have h2:=jgb e.args
 have:=k.na
 unfold j8o;grind[f0f,f0l,f06]
theorem jd9 {α:Type} {f:α->List UInt8} {k:Nat}:∀ {l:List α} (_:∀ a∈l,(f a).length<=k),((l.map f).flatten).length<=k*l.length
 | [],_=>sc
 | a::l,hf=>by have:=jd9 (l:=l) fun b hb=>hf b (by grind);grind[f01,f03,f0f,f0l,Nat.mul_succ]
theorem j5x {b:Ms.Blk} (k:TkB b):(j23 b).length<=600000:=by
 have h1:=jgb b.params
 have h2:=jd9    fun x hx=>jw6 (k.i x hx)
 have h3:=jd9    fun x hx=>j5w (k.e x hx)
 have:=k.np
 have:=k.ni
 have:=k.ne
 unfold j23;grind
def qv2 (h:Hp) (n size:Nat) (x:Option AV):R:=ob x (fun v=>jes v (fun b o=>ob (rd h b o (Nat.mul n size)) (fun _=>ok (.s (.slice b o n n true size)) h)) (fun cs=>ob (qfd size n cs) (fun rows=>ok (.s (.lst rows)) h)))
theorem qq7 {h:Hp} {st fr:List AV} {n size:Nat} {x:Od}:jep st fr h (.slicea n size x)=qv2 h n size (ev st fr x):=rfl
theorem qhi {h:Hp} {n size b o:Nat} {row:List SV} (hr:rdB (h.get b) o (n*size)=some row):qv2 h n size (some (.s (.ptr b o)))=some (.s (.slice b o n n true size),h):=by
 show ob (rdB (h.get b) o (n*size)) (fun _=>some (AV.s (.slice b o n n true size),h))=_
 rw[hr];rfl
theorem qq8 (l:List UInt8):qfe (u8s l)=some l:=by
 induction l with
 | nil=>rfl
 | cons a l ih =>
  show ob (qfe (u8s l)) (fun l=>some (UInt8.ofNat (Int.toNat (Int.ofNat a.toNat))::l))=_
  rw[ih]
  show some (UInt8.ofNat (Int.toNat a.toNat)::l)=_
  simp
theorem qhj (l:List UInt8):jr4 (u8s l)=true:=by
 induction l with
 | nil=>rfl
 | cons a l ih =>
  show(inR .u8 (Int.ofNat a.toNat)&&jr4 (u8s l))=true
  rw[ih,Bool.and_true]
  have:=a.toNat_lt
  exact jbl (show a.toNat<=255 by omega)
section
variable {F:Fns} {h:Hp} {p:Nat} {bs:List UInt8} {o:List Nat}
theorem qv3 (w:Bl h p bs o) (hb:bs≠[]) (hl:bs.length<=1000000000):∃ h',qvw [.s (.ptr p 0)] h=some (.s (.str bs),h'):=by
 obtain⟨c,x,h1,h2,h3⟩:=w.ex
 rcases h3 with⟨h3,_⟩ | ⟨m,rfl,rfl,h5⟩
 .grind
 have ok0:=w.ok
 refine⟨h.put m none,?_⟩
 unfold qvw
 simp only[h1,qlk]
 rw[show Nat.beq bT bT=true from f1v _]
 simp only[h5,qlk]
 rw[show Nat.beq 5 5=true from rfl,ok0.lo,show Nat.ble 0 m=true from jbl (f17 _),show Nat.beq 1 1=true from rfl]
 have l8:(u8s bs).length=bs.length:=by rw[js7,f09]
 have hr:rd h m 0 bs.length=some (u8s bs):=by
  rw[qti,h5]
  show jbp bs.length (u8s bs)=_
  grind[ja2,f2z]
 show ob (rd h m 0 bs.length) _=_
 rw[hr]
 show ob (qfe (u8s bs)) _=_
 rw[qq8]
 cases bs with
 | nil=>exact absurd rfl hb
 | cons a r =>
  show oif (Nat.ble (a::r).length 9223372036854775807) (oif (jr4 (u8s (a::r))) (ok (.s (.str (a::r))) (h.put m none)) none) none=_
  rw[jbl (show(a::r).length<=9223372036854775807 by omega),qhj];rfl
theorem qkb (f:BlF F) {l:List Ms.Ins} (hok:∀ x∈l,TkI x) (hl:l.length<=1000) {Q:Ex->St->Prop} :
 ∀ (d i:Nat) (_:i+d=l.length) {hi:Hp} {bs:List UInt8} {o:List Nat} (_:Bl hi p bs o) (_:bs.length+4000*d<=700000000) {x8 x10:AV}
  (hQ:∀ hj o' x8 x10,Bl hj p (bs++((l.drop i).map j5v).flatten) o'->Mv hi hj (p::o) (p::o')->Q (.exit 2) (.mk [x0,x1,x2,x3,x4,x5,x6,x7,x8,.s (jag jeh l),x10,vi l.length,vi l.length,x13,x14,x15,x16,x17,.s (.ptr p 0),x19,x20,x21] hj)),
  W F jow.loop (.mk [x0,x1,x2,x3,x4,x5,x6,x7,x8,.s (jag jeh l),x10,vi l.length,vi i,x13,x14,x15,x16,x17,.s (.ptr p 0),x19,x20,x21] hi) Q
 | 0,i,hd,hi,bs,o,w,hw,x8,x10,hQ=>by
  obtain rfl:i=l.length:=oa
  rw[jah]
  unfold jow
  have ok:=w.ok
  simp(disch:=first|omega|rfl) only[go_sem,f0s]
  grind[f2m,Mv.refl]
 | d+1,i,hd,hi,bs,o,w,hw,x8,x10,hQ=>by
  have hil:i<l.length:=oa
  have hlt:(i:Int)<(l.length:Int):=oa
  have hss:(i:Int)+1=((i+1:Nat):Int):=oa
  obtain⟨x,hx⟩:∃ n,l[i]?=some n:=⟨_,f0b hil⟩
  have hdr:l.drop i=x::l.drop (i+1):=by rw[f1c hil,(f0t.1 hx).2]
  have hix:=jai (enc:=jeh) (size:=3) hx rfl
  have ok:=w.ok
  have kx:=hok x (f0c hx)
  have hxl:=jw6 kx
  obtain⟨hA,eA,okA,nA,xA,gA⟩:=jci ok [.int .i64 0,.nilSlice,.nilSlice] (jeh x) 62
  have wA:=w.keep okA gA oa
  have run:=qq6 f wA kx oa
  unfold jeh at xA eA run
  rw[jah]
  unfold jow j5r
  simp(disch:=first|omega|rfl) only[go_sem,jae,eq_true hlt,hix,jeh,eA,xA]
  refine WC.imp run ?_
  rintro v hB ⟨m1,w1,e1⟩
  have okB:=w1.ok
  simp(disch:=first|omega|rfl) only[go_sem,jae,hss]
  exact qkb f hok hl d (i+1) oa w1 (by rw[f0f];omega) (fun hj o' x8 x10 w' m'=>hQ hj o' x8 x10 (by rw[hdr,f01,f03,←f0n];exact w') ((Bl.low okA oa gA).trans (e1.trans m')))
theorem qkc (f:BlF F) {l:List Ms.Edg} (hok:∀ x∈l,TkE x) (hl:l.length<=1000) {Q:Ex->St->Prop} :
 ∀ (d i:Nat) (_:i+d=l.length) {hi:Hp} {bs:List UInt8} {o:List Nat} (_:Bl hi p bs o) (_:bs.length+6100*d<=700000000) {x3 x5:AV}
  (hQ:∀ hj o' x3 x5,Bl hj p (bs++((l.drop i).map j8o).flatten) o'->Mv hi hj (p::o) (p::o')->Q (.exit 4) (.mk [x0,x1,x2,x3,.s (jag jgi l),x5,vi l.length,vi l.length,x8,x9,x10,x11,x12,x13,x14,x15,x16,x17,.s (.ptr p 0),x19,x20,x21] hj)),
  W F jox.loop (.mk [x0,x1,x2,x3,.s (jag jgi l),x5,vi l.length,vi i,x8,x9,x10,x11,x12,x13,x14,x15,x16,x17,.s (.ptr p 0),x19,x20,x21] hi) Q
 | 0,i,hd,hi,bs,o,w,hw,x3,x5,hQ=>by
  obtain rfl:i=l.length:=oa
  rw[jah]
  unfold jox
  have ok:=w.ok
  simp(disch:=first|omega|rfl) only[go_sem,f0s]
  grind[f2m,Mv.refl]
 | d+1,i,hd,hi,bs,o,w,hw,x3,x5,hQ=>by
  have hil:i<l.length:=oa
  have hlt:(i:Int)<(l.length:Int):=oa
  have hss:(i:Int)+1=((i+1:Nat):Int):=oa
  obtain⟨x,hx⟩:∃ n,l[i]?=some n:=⟨_,f0b hil⟩
  have hdr:l.drop i=x::l.drop (i+1):=by rw[f1c hil,(f0t.1 hx).2]
  have hix:=jai (enc:=jgi) (size:=2) hx rfl
  have ok:=w.ok
  have kx:=hok x (f0c hx)
  have hxl:=j5w kx
  have q1:=jcs x.block
  have q2:=jgb x.args
  have q3:=kx.na
  obtain⟨hA,eA,okA,nA,xA,gA⟩:=jci ok [.int .i64 0,.nilSlice] (jgi x) 65
  have wA:=w.keep okA gA oa
  have fA:=w.fresh
  have i1:=fun(h:Hp) (Q:AV->Hp->Prop)=>je3 (h:=h) (Q:=Q) f kx.b
  have c1:=jds (l:=[101,100,103,101,32]) (r:=ito x.block) (by simp;omega)
  unfold jgi at xA eA
  rw[jah]
  unfold jox j5s
  simp(disch:=first|omega|rfl) only[go_sem,jbr,jbs,jbt,jat,jan,jbu,jau,jae,eq_true hlt,hix,jgi,eA,xA,i1,c1]
  refine WC.imp (jew f wA (s:=[101,100,103,101,32]++ito x.block) sc (by simp;omega)) ?_
  rintro v hB ⟨m1,w1,e1⟩
  have okB:=w1.ok
  have b1:=Bl.out (n:=hi.next) ⟨oa,fA⟩ e1
  have xB:=(e1.keep hi.next oa fA).trans xA
  have n1:(bs++([101,100,103,101,32]++ito x.block)).length<=bs.length+24:=by simp;omega
  simp(disch:=first|omega|rfl) only[go_sem,xB]
  refine WC.imp (jr7 f w1 kx.a oa (.inl rfl) oa) ?_
  rintro v hC ⟨o2,w2,e2⟩
  have okC:=w2.ok
  have n2:((bs++([101,100,103,101,32]++ito x.block))++jjf x.args).length<=bs.length+6030:=by rw[f0f];omega
  simp(disch:=first|omega|rfl) only[go_sem]
  refine WC.imp (jw3 f w2 oa) ?_
  rintro v hD ⟨m3,w3,e3⟩
  have okD:=w3.ok
  have w3':Bl hD p (bs++j8o x) [m3]:=by
   unfold j8o
   simpa only[f0n] using w3
  simp(disch:=first|omega|rfl) only[go_sem,jae,hss]
  exact qkc f hok hl d (i+1) oa w3' (by rw[f0f];omega) (fun hj o' x3 x5 w' m'=>hQ hj o' x3 x5 (by rw[hdr,f01,f03,←f0n];exact w') ((Bl.low okA oa gA).trans (e1.trans (e2.trans (e3.trans m')))))
theorem qkd (f:BlF F) {l:List Ms.Blk} (hok:∀ x∈l,TkB x) (hl:l.length<=100) {Q:Ex->St->Prop} :
 ∀ (d i:Nat) (_:i+d=l.length) {hi:Hp} {bs:List UInt8} {o:List Nat} (_:Bl hi p bs o) (_:bs.length+600000*d<=100000000) {x3 x4 x5 x6 x7 x8 x9 x10 x11 x12 x13 x15:AV}
  (hQ:∀ hj o' x3 x4 x5 x6 x7 x8 x9 x10 x11 x12 x13 x15,Bl hj p (bs++((l.drop i).map j23).flatten) o'->Mv hi hj (p::o) (p::o')->Q (.exit 0) (.mk [x0,x1,x2,x3,x4,x5,x6,x7,x8,x9,x10,x11,x12,x13,.s (jag ja6 l),x15,vi l.length,vi l.length,.s (.ptr p 0),x19,x20,x21] hj)),
  W F joy.loop (.mk [x0,x1,x2,x3,x4,x5,x6,x7,x8,x9,x10,x11,x12,x13,.s (jag ja6 l),x15,vi l.length,vi i,.s (.ptr p 0),x19,x20,x21] hi) Q
 | 0,i,hd,hi,bs,o,w,hw,x3,x4,x5,x6,x7,x8,x9,x10,x11,x12,x13,x15,hQ=>by
  obtain rfl:i=l.length:=oa
  rw[jah]
  unfold joy
  have ok:=w.ok
  simp(disch:=first|omega|rfl) only[go_sem,f0s]
  grind[f2m,Mv.refl]
 | d+1,i,hd,hi,bs,o,w,hw,x3,x4,x5,x6,x7,x8,x9,x10,x11,x12,x13,x15,hQ=>by
  have hil:i<l.length:=oa
  have hlt:(i:Int)<(l.length:Int):=oa
  have hss:(i:Int)+1=((i+1:Nat):Int):=oa
  obtain⟨x,hx⟩:∃ n,l[i]?=some n:=⟨_,f0b hil⟩
  have hdr:l.drop i=x::l.drop (i+1):=by rw[f1c hil,(f0t.1 hx).2]
  have hix:=jai (enc:=ja6) (size:=3) hx rfl
  have ok:=w.ok
  have kx:=hok x (f0c hx)
  have hxl:=j5x kx
  have q2:=jgb x.params
  have q3:=kx.np
  have q4:=jd9 (f:=j5v) (k:=4000) (l:=x.instrs) (fun y hy=>jw6 (kx.i y hy))
  have q5:=kx.ni
  have q6:=kx.ne
  obtain⟨hA,eA,okA,nA,xA,gA⟩:=jci ok [.nilSlice,.nilSlice,.nilSlice] (ja6 x) 58
  have wA:=w.keep okA gA oa
  have fA:=w.fresh
  have l1:=jal (enc:=jeh) (l:=x.instrs)
  have l2:=jal (enc:=jgi) (l:=x.edges)
  unfold ja6 at xA eA
  rw[jah]
  unfold joy j5t
  simp(disch:=first|omega|rfl) only[go_sem,jbr,jbs,jbt,jat,jan,jbu,jau,jae,eq_true hlt,hix,ja6,eA,xA]
  refine WC.imp (jew f wA (s:=[98,108,111,99,107]) sc (by simp;omega)) ?_
  rintro v hB ⟨m1,w1,e1⟩
  have okB:=w1.ok
  have b1:=Bl.out (n:=hi.next) ⟨oa,fA⟩ e1
  have xB:=(e1.keep hi.next oa fA).trans xA
  have n1:(bs++[98,108,111,99,107]).length=bs.length+5:=sc
  simp(disch:=first|omega|rfl) only[go_sem,xB]
  refine WC.imp (jr7 f w1 kx.p oa (.inl rfl) oa) ?_
  rintro v hC ⟨o2,w2,e2⟩
  have okC:=w2.ok
  have b2:=Bl.out b1 e2
  have xC:=(e2.keep hi.next b1.1 b1.2).trans xB
  have n2:((bs++[98,108,111,99,107])++jjf x.params).length<=bs.length+6005:=by rw[f0f];omega
  simp(disch:=first|omega|rfl) only[go_sem]
  refine WC.imp (jw3 f w2 oa) ?_
  rintro v hD ⟨m3,w3,e3⟩
  have okD:=w3.ok
  have b3:=Bl.out b2 e3
  have xD:=(e3.keep hi.next b2.1 b2.2).trans xC
  have n3:(((bs++[98,108,111,99,107])++jjf x.params)++[10]).length<=bs.length+6006:=by rw[f0f];simp;omega
  simp(disch:=first|omega|rfl) only[go_sem,xD,l1]
  refine qkb f kx.i oa x.instrs.length 0 oa w3 oa (fun hE o4 x8 x10 w4 e4=>?_)
  rw[f1w] at w4
  have okE:=w4.ok
  have xE:=(e4.keep hi.next b3.1 b3.2).trans xD
  have n4:((((bs++[98,108,111,99,107])++jjf x.params)++[10])++(x.instrs.map j5v).flatten).length<=bs.length+406006:=by rw[f0f];omega
  simp(disch:=first|omega|rfl) only[go_sem,xE,l2]
  refine qkc f kx.e oa x.edges.length 0 oa w4 oa (fun hG o5 x3 x5 w5 e5=>?_)
  rw[f1w] at w5
  have okG:=w5.ok
  have w5':Bl hG p (bs++j23 x) o5:=by
   unfold j23
   simpa only[f0n] using w5
  simp(disch:=first|omega|rfl) only[go_sem,jae,hss]
  exact qkd f hok hl d (i+1) oa w5' (by rw[f0f];omega) (fun hj o' x3 x4 x5 x6 x7 x8 x9 x10 x11 x12 x13 x15 w' m'=>hQ hj o' x3 x4 x5 x6 x7 x8 x9 x10 x11 x12 x13 x15 (by rw[hdr,f01,f03,←f0n];exact w') ((Bl.low okA oa gA).trans (e1.trans (e2.trans (e3.trans (e4.trans (e5.trans m')))))))
theorem qq9 (f:BlF F) {h:Hp} (ok:Ok h) {s:Scr} (k:TkS s) (hC:∀ h Q,WC F 10 [.agg (jw7 s)] h Q=Q (vi 0) h) {Q:AV->Hp->Prop} (hQ:∀ h',Q (.tup [(false,[.str (j0w s)]),(false,[si 0])]) h'):WC F 5 [.agg (jw7 s)] h Q:=by
 refine ja3 (f.x _ rfl _ _) ((congrFun f.t _).trans qv1) rfl ?_
 unfold qd2
 obtain⟨hA,eA,okA,nA,xA,gA⟩:=jeb ok (jw7 s) 34
 obtain⟨hB,eB,okB,nB,xB,gB⟩:=jeb okA [.nilPtr,.nilSlice] 47
 have hpos:=ok.pos
 have w0:Bl hB hA.next [] []:=⟨okB,⟨_,_,xB,.inl rfl,.inl ⟨rfl,rfl,rfl⟩⟩,⟨oa,oa⟩,sc,sc⟩
 have zA:=(gB h.next oa).trans xA
 have a0:h.next<hB.next/\h.next∉hA.next::([]:List Nat):=⟨oa,by simp;omega⟩
 have lb:=jal (enc:=ja6) (l:=s.f.blocks)
 have i1:=fun(h:Hp) (Q:AV->Hp->Prop)=>je3 (h:=h) (Q:=Q) f k.sd
 have i2:=fun(h:Hp) (Q:AV->Hp->Prop)=>je3 (h:=h) (Q:=Q) f k.st
 have q1:=jcs s.seed
 have q2:=jcs s.steps
 have q3:=jgb [s.m1,s.m2]
 have q4:=jgb s.junk
 have q5:=jgb s.f.values
 have q6:=k.nj
 have q7:=k.nv
 have q8:=k.nb
 have q9:=jd9 (f:=j23) (k:=600000) (l:=s.f.blocks) (fun y hy=>j5x (k.b y hy))
 have c1:=jds (l:=[10,114,117,110,32]) (r:=ito s.seed) (by simp;omega)
 have c2:=jds (l:=10::114::117::110::32::ito s.seed) (r:=[32]) (by simp;omega)
 have c3:=jds (l:=10::114::117::110::32::(ito s.seed++[32])) (r:=ito s.steps) (by simp;omega)
 have hC':=hC
 unfold jw7 at eA zA xA hC' ⊢
 simp(disch:=first|omega|rfl) only[go_sem,jbr,jbs,jbt,jat,jan,jbu,jau,eA,xA,hC']
 unfold j5u
 simp(disch:=first|omega|rfl) only[go_sem,jbr,jbs,jbt,jat,jan,jbu,jau,eB]
 refine WC.imp (jew f w0 (s:=[109,97,99,104,105,110,101]) sc sc) ?_
 rintro v h1 ⟨m1,w1,e1⟩
 have ok1:=w1.ok
 have b1:=Bl.out a0 e1
 have z1:=(e1.keep h.next a0.1 a0.2).trans zA
 have n1:([]++[109,97,99,104,105,110,101]:List UInt8).length=7:=rfl
 have hrow:rdB (h1.get h.next) 0 (2*1)=some [si s.m1,si s.m2]:=by rw[z1];rfl
 simp(disch:=first|omega|rfl) only[go_sem,jbr,jbs,jbt,jat,jan,jbu,jau,qq7,qhi hrow]
 refine WC.imp (jr7 f w1 (l:=[s.m1,s.m2]) (by simp;exact⟨k.m1,k.m2⟩) sc (.inr ⟨h.next,0,2,true,_,_,rfl,z1,b1.1,b1.2,fun i n hi=>by
  match i,hi with
  | 0,hi=>cases hi;rfl
  | 1,hi=>cases hi;rfl⟩) (by rw[n1];simp)) ?_
 rintro v h2 ⟨o2,w2,e2⟩
 have ok2:=w2.ok
 have b2:=Bl.out b1 e2
 have z2:=(e2.keep h.next b1.1 b1.2).trans z1
 have n2:(([]++[109,97,99,104,105,110,101]:List UInt8)++jjf [s.m1,s.m2]).length<=47:=by rw[f0f,n1];simp at q3;omega
 have hh:(h2.next<=h.next/\h.next<h2.next)=False:=eq_false oa
 unfold j5q
 simp(disch:=first|omega|rfl) only[go_sem,jbr,jbs,jbt,jat,jan,jbu,jau,z2,i1,i2,c1,c2,c3,hh]
 refine WC.imp (jew f w2 (s:=(([10,114,117,110,32]++ito s.seed)++[32])++ito s.steps) sc (by simp;simp at n2;omega)) ?_
 rintro v h3 ⟨m3,w3,e3⟩
 have ok3:=w3.ok
 have b3:=Bl.out b2 e3
 have z3:=(e3.keep h.next b2.1 b2.2).trans z2
 have n3:((([]++[109,97,99,104,105,110,101]:List UInt8)++jjf [s.m1,s.m2])++((([10,114,117,110,32]++ito s.seed)++[32])++ito s.steps)).length<=100:=by rw[f0f];simp only[f0f,f0l,f06] at n2 ⊢;omega
 simp(disch:=first|omega|rfl) only[go_sem,jbr,jbs,jbt,jat,jan,jbu,jau,z3]
 refine WC.imp (jr7 f w3 k.j oa (.inl rfl) oa) ?_
 rintro v h4 ⟨o4,w4,e4⟩
 have ok4:=w4.ok
 have b4:=Bl.out b3 e4
 have z4:=(e4.keep h.next b3.1 b3.2).trans z3
 have n4:(((([]++[109,97,99,104,105,110,101]:List UInt8)++jjf [s.m1,s.m2])++((([10,114,117,110,32]++ito s.seed)++[32])++ito s.steps))++jjf s.junk).length<=6100:=by rw[f0f];omega
 simp(disch:=first|omega|rfl) only[go_sem,jbr,jbs,jbt,jat,jan,jbu,jau]
 refine WC.imp (jew f w4 (s:=[10,118,97,108,117,101,115]) sc (by simp only[f0l,f06];omega)) ?_
 rintro v h5 ⟨m5,w5,e5⟩
 have ok5:=w5.ok
 have b5:=Bl.out b4 e5
 have z5:=(e5.keep h.next b4.1 b4.2).trans z4
 have n5:((((([]++[109,97,99,104,105,110,101]:List UInt8)++jjf [s.m1,s.m2])++((([10,114,117,110,32]++ito s.seed)++[32])++ito s.steps))++jjf s.junk)++[10,118,97,108,117,101,115]).length<=6107:=by rw[f0f];simp only[f0l,f06];omega
 simp(disch:=first|omega|rfl) only[go_sem,jbr,jbs,jbt,jat,jan,jbu,jau,z5]
 refine WC.imp (jr7 f w5 k.v oa (.inl rfl) oa) ?_
 rintro v h6 ⟨o6,w6,e6⟩
 have ok6:=w6.ok
 have b6:=Bl.out b5 e6
 have z6:=(e6.keep h.next b5.1 b5.2).trans z5
 have n6:(((((([]++[109,97,99,104,105,110,101]:List UInt8)++jjf [s.m1,s.m2])++((([10,114,117,110,32]++ito s.seed)++[32])++ito s.steps))++jjf s.junk)++[10,118,97,108,117,101,115])++jjf s.f.values).length<=12107:=by rw[f0f];omega
 simp(disch:=first|omega|rfl) only[go_sem,jbr,jbs,jbt,jat,jan,jbu,jau]
 refine WC.imp (jw3 f w6 oa) ?_
 rintro v h7 ⟨m7,w7,e7⟩
 have ok7:=w7.ok
 have b7:=Bl.out b6 e7
 have z7:=(e7.keep h.next b6.1 b6.2).trans z6
 have n7:((((((([]++[109,97,99,104,105,110,101]:List UInt8)++jjf [s.m1,s.m2])++((([10,114,117,110,32]++ito s.seed)++[32])++ito s.steps))++jjf s.junk)++[10,118,97,108,117,101,115])++jjf s.f.values)++[10]).length<=12108:=by rw[f0f];simp only[f0l,f06];omega
 simp(disch:=first|omega|rfl) only[go_sem,jbr,jbs,jbt,jat,jan,jbu,jau,z7,lb]
 refine qkd f k.b q8 s.f.blocks.length 0 oa w7 oa (fun h8 o8 x3 x4 x5 x6 x7 x8 x9 x10 x11 x12 x13 x15 w8 e8=>?_)
 rw[f1w] at w8
 have ok8:=w8.ok
 have w8':Bl h8 hA.next (j0w s) o8:=by
  unfold j0w
  simpa only[f0n,f1d] using w8
 have hne:j0w s≠[]:=by unfold j0w;simp
 have hlen:(j0w s).length<=1000000000:=by
  unfold j0w
  simp only[f0f,f0l,f06] at n7 ⊢
  omega
 obtain⟨h9,hx⟩:=qv3 w8' hne hlen
 have hs:=fun(Q:AV->Hp->Prop)=>jam (F:=F) (Q:=Q) (f.l 16 _ _ _ (show jsi 16 [.s (.ptr hA.next 0)] h8=_ from hx))
 simp(disch:=first|omega|rfl) only[go_sem,jbr,jbs,jbt,jat,jan,jbu,jau,hs]
 exact hQ h9
end
end
end Go.Proofs.YtkpadfebkaangaaGreatDoor.Ev
