/- Runs of prepared functions with loads in no order. -/
import Derived.Test.YtkpadfebkaangaaGreatDoorWb
import Derived.Test.YtkpadfebkaangaaGreatDoorSh2
import Derived.Test.YtkpadfebkaangaaGreatDoorMc11
import Derived.Lib.AtoiTie
import Derived.Test.YtkpadfebkaangaaGreatDoorCdM
import Derived.Test.YtkpadfebkaangaaGreatDoorGb
import Derived.Test.YtkpadfebkaangaaGreatDoorMa10
namespace Go.Proofs.YtkpadfebkaangaaGreatDoor.Ev
noncomputable section
open Go Go.RowKit
set_option linter.all false
section
variable {F:Fns} {B:FuncId->Bool} {s:St} {fr:List AV} {h:Hp} {Q:Ex->St->Prop}
def qbs (F:Fns) (B:FuncId->Bool) (b:IB) (Q:Ex->St->Prop) (e:Ex) (s:St):Prop:=Ex.casesOn e (WB F B b s Q) (fun k=>Q (.exit k) s) (Q .ret s)
theorem jab {b:IB}:qbs F B b Q .normal s=WB F B b s Q:=rfl
theorem jl6 {b:IB} {k:Nat}:qbs F B b Q (.exit k) s=Q (.exit k) s:=rfl
theorem jkr {b:IB}:qbs F B b Q .ret s=Q .ret s:=rfl
def qgt (F:Fns) (B:FuncId->Bool) (b:IB) (Q:Ex->St->Prop) (e:Ex) (s:St):Prop:=Ex.casesOn e (WB F B (.loop b) s Q) (fun k=>Q (.exit k) s) (Q .ret s)
theorem jf6 {b:IB}:qgt F B b Q .normal s=WB F B (.loop b) s Q:=rfl
theorem jl7 {b:IB} {k:Nat}:qgt F B b Q (.exit k) s=Q (.exit k) s:=rfl
theorem jey {a:IC} {b:IB} (k:W F a s (qbs F B b Q)):WB F B (.seq (.c a) b) s Q:=WB.seq (WB.c k)
theorem juy {a b:IB} (k:WB F B a s (qbs F B b Q)):WB F B (.seq a b) s Q:=WB.seq k
theorem jft {a:IC} (k:W F a s Q):WB F B (.c a) s Q:=WB.c k
theorem qu6 {b:IB} (k:WB F B b s (qgt F B b Q)):WB F B (.loop b) s Q:=WB.loop k
theorem j57 {c:Od} {x y:IB} {t:Bool} (hv:ev [] fr c=some (.s (.bool t))) (k:WB F B (if t=true then x else y) (.mk fr h) Q):WB F B (.cond c x y) (.mk fr h) Q:=by
 obtain⟨n,m,e,s',h1,h2⟩:=k
 refine⟨n+1,m,e,s',?_,h2⟩
 show ob (ev [] fr c) (fun v=>jgt v (fun t=>jk7 F m B n (oif t x y) (.mk fr h)))=_
 rw[hv]
 show jk7 F m B n (oif t x y) (.mk fr h)=_
 rw[jat];exact h1
end
open Go Go.RowKit Go.Proofs.YtkpadfebkaangaaGreatDoor.Ms
variable {x1 x2 x3 x4 x5 x6 x7 x8 x9 x10 x11 x12 x13 x14 x16 x17:AV} {ex:Bool} {h4:Hp} {d i sz ty:Nat} {bl:SV}
def Wd (w:List UInt8):Prop:=(32:UInt8)∉w/\(10:UInt8)∉w
def jdf:List (List UInt8)->List UInt8
 | []=>[]
 | w::l=>32::w++jdf l
def jcx:List (List UInt8)->List UInt8
 | []=>[]
 | w::l=>w++jdf l
theorem jp8 (a b:List (List UInt8)):jdf (a++b)=jdf a++jdf b:=by
 induction a with
 | nil=>rfl
 | cons w a ih=>show 32::w++jdf (a++b)=32::w++jdf a++jdf b;rw[ih];simp
theorem j52 {w:List UInt8} (hw:(32:UInt8)∉w):jco 32 w=[w]:=by
 induction w with
 | nil=>rfl
 | cons a w ih =>
  have h1:a≠32:=fun e=>hw (by simp[e])
  have h2:(32:UInt8)∉w:=fun h=>hw (by simp[h])
  rw[jea,if_neg h1,ih h2]
theorem jzr {w r:List UInt8} (hw:(32:UInt8)∉w):jco 32 (w++32::r)=w::jco 32 r:=by
 induction w with
 | nil=>rw[f1m,jea,if_pos rfl]
 | cons a w ih =>
  have h1:a≠32:=fun e=>hw (by simp[e])
  have h2:(32:UInt8)∉w:=fun h=>hw (by simp[h])
  rw[f1x,jea,if_neg h1,ih h2]
theorem jr0:∀ {w:List UInt8} {l:List (List UInt8)},(∀ x∈w::l,(32:UInt8)∉x)->jco 32 (jcx (w::l))=w::l
 | w,[],h=>by
  show jco 32 (w++[])=_
  rw[f06];exact j52 (h w se)
 | w,v::l,h=>by
  show jco 32 (w++(32::v++jdf l))=_
  rw[show w++(32::v++jdf l)=w++32::(v++jdf l) from by simp,jzr (h w se)]
  exact congrArg _ (jr0 (w:=v) (l:=l) (fun x hx=>h x (by simp at hx ⊢;exact .inr hx)))
theorem qbt {a r:List UInt8} (ha:(10:UInt8)∉a):jy6 10 (a++10::r)=some (a,r):=by
 induction a with
 | nil=>rw[f1m,jkb,if_pos rfl]
 | cons b a ih =>
  have h1:b≠10:=fun e=>ha (by simp[e])
  have h2:(10:UInt8)∉a:=fun h=>ha (by simp[h])
  rw[f1x,jkb,if_neg h1,ih h2];rfl
theorem qgu {l:List (List UInt8)} (h:∀ x∈l,(10:UInt8)∉x):(10:UInt8)∉jdf l:=by
 induction l with
 | nil=>simp[jdf]
 | cons w l ih =>
  show(10:UInt8)∉32::w++jdf l
  simp only[f1x,f0f,f0e,not_or]
  exact⟨by decide,h w se,ih (fun x hx=>h x (by simp[hx]))⟩
theorem qgv {l:List (List UInt8)} (h:∀ x∈l,(10:UInt8)∉x):(10:UInt8)∉jcx l:=by
 cases l with
 | nil=>simp[jcx]
 | cons w l =>
  show(10:UInt8)∉w++jdf l
  simp only[f0e,not_or]
  exact⟨h w se,qgu (fun x hx=>h x (by simp[hx]))⟩
theorem qbu {n:Nat} (hn:n<10 ^ 19):ito n=Lib.decDigits n:=by
 show dig 19 n []=_
 rw[j83 19 n [] hn oa,f06]
theorem jt2:∀ (f n:Nat) (acc:List UInt8) (b:UInt8),b∈dig f n acc->b∈acc∨(48<=b.toNat/\b.toNat<=57)
 | 0,n,acc,b,h=>.inl h
 | f+1,n,acc,b,h=>by
  have h':b∈oif (Nat.ble n 9) (UInt8.ofNat (48+n)::acc) (dig f (n / 10) (UInt8.ofNat (48+n % 10)::acc)):=h
  have key:∀ d,d<=9->b∈UInt8.ofNat (48+d)::acc->b∈acc∨(48<=b.toNat/\b.toNat<=57):=fun d hd hb=>by
   rcases f0f.1 hb with rfl | hb
   .right;simp;omega
   .exact .inl hb
  rw[jat] at h'
  split at h'
  .rename_i e;exact key n (f0l e) h'
  .rcases jt2 f _ _ b h' with h2 | h2
   .exact key _ oa h2
   .exact .inr h2
theorem jp9 (n:Nat):Wd (ito n):=by
 have key:∀ b∈ito n,48<=b.toNat/\b.toNat<=57:=fun b hb=>by
  rcases jt2 19 n [] b hb with h | h
  .cases h
  .exact h
 exact⟨fun h=>by have:=key _ h;revert this;decide,fun h=>by have:=key _ h;revert this;decide⟩
theorem jjj:∀ (l:List UInt8) (acc:Nat) (b:UInt8),Lib.decFrom acc (l++[b])=(Lib.decFrom acc l).bind (fun n=>(Lib.digitVal b).map (fun d=>n*10+d))
 | [],acc,b=>by
  show Lib.decFrom acc [b]=_
  unfold Lib.decFrom
  cases h:Lib.digitVal b with
  | none=>simp[Lib.decFrom,h]
  | some d=>simp[Lib.decFrom,h]
 | a::l,acc,b=>by
  rw[f1x]
  unfold Lib.decFrom
  cases h:Lib.digitVal a with
  | none=>rfl
  | some d=>exact jjj l _ b
theorem jqa (hd:d<=9):Lib.digitVal (UInt8.ofNat (48+d))=some d:=by
 match d,hd with
 | 0,_=>rfl
 | 1,_=>rfl
 | 2,_=>rfl
 | 3,_=>rfl
 | 4,_=>rfl
 | 5,_=>rfl
 | 6,_=>rfl
 | 7,_=>rfl
 | 8,_=>rfl
 | 9,_=>rfl
theorem jqy (n:Nat):Lib.decFrom 0 (Lib.decDigits n)=some n:=by
 induction n using Nat.strongRecOn with
 | ind n ih =>
  rw[Lib.decDigits]
  by_cases h:n<10
  .rw [dif_pos h]
   have:=jjj [] 0 (UInt8.ofNat (48+n))
   rw[f1m] at this
   rw[this,jqa oa]
   simp[Lib.decFrom]
  .rw [dif_neg h,jjj,ih (n / 10) oa,jqa oa]
   show some (n / 10*10+n % 10)=some n
   congr 1
   omega
theorem jt3:∀ (f n k:Nat) (acc:List UInt8),n<10 ^ k->1<=k->(dig f n acc).length<=k+acc.length
 | 0,n,k,acc,_,_=>by show acc.length<=_;omega
 | f+1,n,k,acc,hn,hk=>by
  show(oif (Nat.ble n 9) (UInt8.ofNat (48+n)::acc) (dig f (n / 10) (UInt8.ofNat (48+n % 10)::acc))).length<=_
  rw[jat]
  split
  .rw [f0i];omega
  .rename_i h
   have h9:¬ n<=9:=fun e=>h (jbn e)
   have hk2:2<=k:=by
    rcases f0n k 2 with h2 | h2
    .have:k=1:=oa
     subst this;omega
    .exact h2
   obtain⟨j,rfl⟩:∃ j,k=j+1:=⟨k - 1,oa⟩
   have:=jt3 f (n / 10) j (UInt8.ofNat (48+n % 10)::acc) (by rw[Nat.pow_succ] at hn;omega) oa
   rw[f0i] at this;omega
theorem j2q {n:Nat} (hn:n<10 ^ 18):Lib.atoiAll (ito n)=.ok (n:Int):=by
 have hl:(ito n).length<=18:=jt3 19 n 18 [] hn oa
 rw[Lib.atoiAll_short _ hl]
 have hd:=jqy n
 rw[←qbu (f0o hn (by decide))] at hd
 cases h:ito n with
 | nil =>
  have:=qbu (n:=n) (f0o hn (by decide))
  rw[h] at this
  have h2:=Lib.decDigits_length n
  rw[←this] at h2
  exact absurd h2 (by unfold Lib.nDigits;split<;>simp)
 | cons b r =>
  have hm:48<=b.toNat/\b.toNat<=57:=by
   rcases jt2 19 n [] b (by show b∈ito n;rw[h];simp) with h1 | h1
   .cases h1
   .exact h1
  have n1:(b == 45)=false:=by rw[beq_eq_false_iff_ne];rintro rfl;revert hm;decide
  have n2:(b == 43)=false:=by rw[beq_eq_false_iff_ne];rintro rfl;revert hm;decide
  rw[h] at hd
  simp[Lib.atoi,n1,n2,Lib.decNat,hd,Lib.NumEnd.ofOption]
def jef:List UInt8:=[109,97,99,104,105,110,101]
def qbv:List UInt8:=[114,117,110]
def jfi:List UInt8:=[118,97,108,117,101,115]
def jgp:List UInt8:=[98,108,111,99,107]
def wOp:List UInt8:=[111,112]
def jxg:List UInt8:=[101,100,103,101]
def jqz:List UInt8:=[108,97,116,101]
def jeq:List UInt8:=[115,112,111,105,108,115]
def jxh (o:Ms.Opd):List (List UInt8):=kw o.kind::((if o.late=true then [jqz] else [])++(ito o.value::lw o.limit::(if 4<=o.limit then [ito o.n] else [])))
def jxy (r:Nat×Nat):List (List UInt8):=[jeq,ito r.1,ito r.2]
def jxz (x:Ms.Ins):List (List UInt8):=wOp::ito x.op::((x.ops.map jxh).flatten++(x.spoils.map jxy).flatten)
def jzs (e:Ms.Edg):List (List UInt8):=jxg::ito e.block::e.args.map ito
def j2r (b:Ms.Blk):List (List (List UInt8)):=(jgp::b.params.map ito)::(b.instrs.map jxz++b.edges.map jzs)
def qgw (s:Scr):List (List (List UInt8)):=[jef::[ito s.m1,ito s.m2],qbv::ito s.seed::ito s.steps::s.junk.map ito,jfi::s.f.values.map ito]
def j58 (s:Scr):List (List (List UInt8)):=qgw s++(s.f.blocks.map j2r).flatten
def txt (l:List (List (List UInt8))):List UInt8:=(l.map (fun ws=>jcx ws++[10])).flatten
theorem jt4 (a b:List (List (List UInt8))):txt (a++b)=txt a++txt b:=by unfold txt;rw[f20,f2g]
theorem jgq:∀ l:List Nat,jdf (l.map ito)=ji1 l
 | []=>rfl
 | n::l=>by rw[f0u,jkp,←jgq l];rfl
theorem jl8 {α:Type} {f:α->List (List UInt8)} {g:α->List UInt8} (hf:∀ a,jdf (f a)=g a):∀ l:List α,jdf ((l.map f).flatten)=(l.map g).flatten
 | []=>rfl
 | a::l=>by rw[f0u,f0t,jp8,hf,jl8 hf l,f0u,f0t]
theorem qbw (o:Ms.Opd):jdf (jxh o)=jzp o:=by
 unfold jxh jzp jxf
 cases o.late<;>by_cases h:4<=o.limit<;>simp[h,jdf,jp8,jqz]
theorem qbx (r:Nat×Nat):jdf (jxy r)=j51 r:=by
 unfold jxy j51
 simp[jdf,jeq]
theorem qby (x:Ms.Ins):jcx (jxz x)++[10]=j2n x:=by
 unfold jxz j2n
 show wOp++jdf (ito x.op::((x.ops.map jxh).flatten++(x.spoils.map jxy).flatten))++[10]=_
 show wOp++(32::ito x.op++jdf ((x.ops.map jxh).flatten++(x.spoils.map jxy).flatten))++[10]=_
 rw[jp8,jl8 qbw,jl8 qbx]
 simp[wOp]
theorem qbz (e:Ms.Edg):jcx (jzs e)++[10]=j56 e:=by
 unfold jzs j56
 show jxg++(32::ito e.block++jdf (e.args.map ito))++[10]=_
 rw[jgq]
 simp[jxg]
theorem jzt {α:Type} {f:α->List (List UInt8)} {g:α->List UInt8} (hf:∀ a,jcx (f a)++[10]=g a):∀ l:List α,txt (l.map f)=(l.map g).flatten
 | []=>rfl
 | a::l=>by
  have:=jzt hf l
  unfold txt at this ⊢
  rw[f0u,f0u,f0t,this,hf,f0u,f0t]
theorem qou (b:Ms.Blk):txt (j2r b)=jzq b:=by
 unfold j2r jzq
 rw[show(jgp::b.params.map ito)::(b.instrs.map jxz++b.edges.map jzs)=[jgp::b.params.map ito]++(b.instrs.map jxz++b.edges.map jzs) from rfl,jt4,jt4,jzt qby,jzt qbz]
 show(jgp++jdf (b.params.map ito)++[10])++[]++_=_
 rw[jgq]
 simp[jgp]
theorem j2s:∀ l:List Ms.Blk,txt ((l.map j2r).flatten)=(l.map jzq).flatten
 | []=>rfl
 | b::l=>by rw[f0u,f0t,jt4,qou,j2s l,f0u,f0t]
theorem qb0 (s:Scr):txt (j58 s)=jqx s:=by
 unfold j58
 rw[jt4,j2s]
 unfold jqx
 congr 1
 show(jef++jdf ([s.m1,s.m2].map ito)++[10])++((qbv++(32::ito s.seed++(32::ito s.steps++jdf (s.junk.map ito)))++[10])++((jfi++jdf (s.f.values.map ito)++[10])++[]))=_
 rw[jgq,jgq,jgq]
 simp[jef,qbv,jfi]
set_option maxRecDepth 100000
def j2t:IC:=qr [qM 0,qN,qG 0,qL,qP (.ixs 1 qa (qC 0)),qL,qT 2] (qr [qM 0,qM 0,qN,qG 0,qL,qP (.slice 1 qa (.some (qC 1)) .none),qP (.nchk (.l 5)),qG 0,qA (.store 1 qa qc)] (qr [qM 2,qT 1] .ret))
def qb1:IC:=qr [qQ 1 (.mv (.c (.s (.str []))))] (.seq (qr [qM 0,qN,qG 0,qL,qP (.len qa),qQ 3 (.bin .eq qa (qC 0))] (.cond (.g 3) (qr [qM 0,qN,qG 1,qA (.store 1 qa (.c (.s (.bool true))))] (qr [qQ 1 (.mv (.c (.s (.str []))))] .ret)) .skip)) j2t)
theorem qtm:T 33=some (.mk qb1 1 3 [(.tmp 1)]):=ka
def qb2:IC:=qr [qQ 1 (.mv (qC 0))] (qr [qM 0,qA (.call 33 [qa]),qT 4] (qr [qM 4,qA (.call 54 [qa]),qP (.mv qa),qP (.ext 0 qa),qP (.ext 1 qb),qQ 2 (.mv qb),qQ 3 (.mv qb)] (qr [qM 0,qM 0,qN,qG 1,qL,qP (.mv qa),qR 0 false (.mv (.g 3)),qS 1 false (.strop 6 qa (.c (.s (.ifc false)))),qP (.pick qc (.c (.s (.bool true))) qa),qP (.mv qa),qR 0 false (.mv (.g 2)),qS 1 false (.call 13 [qa]),qR 2 false (.mv (.g 4)),qS 3 false (.strop 2 qb qa),qP (.pick (.l 4) (.c (.s (.bool true))) qa),qP (.nchk (.l 14)),qG 1,qA (.store 1 qa qc)] (qr [qM 2,qT 1] .ret))))
theorem qtn:T 34=some (.mk qb2 1 4 [(.tmp 1)]):=ka
def j2u:IC:=.block 1 (.region [qM 2,qM 0,qA (.call 34 [qa]),qA (.bslice 3 1 [.int .i64 0] 1 [(0,(1,qa))]),qA (.app 3 1 8 qd qa),qT 2])
def jks:IC:=.seq (qr [qM 0,qN,qG 0,qL,qP (.len qa),qP (.bin .gt qa (qC 0)),qP (.mv qa),qR 0 true (.mv (.g 0)),qR 1 true (.nchk qa),qR 2 true (.fld 1 qa),qS 3 true (.load 1 false qa),qR 4 true (.not qa),qQ 3 (.pick (.l 5) qa (.c (.s (.bool false))))] (qX 3 0)) j2u
def qb3:IC:=qr [qQ 1 (.mv (.c (.s .nilSlice)))] (qr [qQ 2 (.mv (.c (.s .nilSlice)))] (.seq (.block 0 (.loop jks)) (qr [qM 2,qT 1] .ret)))
theorem qto:T 35=some (.mk qb3 1 3 [(.tmp 1)]):=ka
def j2v:IC:=.seq (.block 1 (qr [qM 7,qT 4] (qr [qM 1,qM 0,qM 4,qP (.ixs 1 qb qa),qL,qB 3 (.strop 1 (.l 4) qa)] (.cond (.g 3) (qr [qM 4,qT 2] .ret) .skip)))) (.region [qI 7,qT 7])
def jnn:IC:=qr [qQ 5 (.bin .lt (.g 7) (.g 6))] (.seq (qX 5 0) j2v)
def qb4:IC:=qr [qQ 2 (.mv (qC 0))] (.seq (qr [qM 0,qQ 6 (.len qa),qQ 7 (.mv (qC 0))] (.block 0 (.loop jnn))) (qr [qQ 2 (.mv (qC (-1)))] .ret))
theorem qtp:T 55=some (.mk qb4 2 6 [(.tmp 2)]):=ka
def qgx:IC:=.draw [(qP (.build Ze []),.none),(qM 9,.none),(qN,.none),(qG 7,.none),(qL,.some []),(qA (.store 7 (.g 12) (.l 4)),.some [0]),(qQ 2 (.mv qb),.none),(qQ 1 (.mv (qC 4)),.none)]
def j2w:IC:=qr [qM 9,qN,qG 7,qL,qP (.bin .add qa (qC 1)),qP (.nchk (.l 4)),qG 7,qA (.store 1 qa qc)] (.region [qM 6,qT 0])
def j2x:IC:=.block 1 (qr [qM 0,qA (.call 19 [qa,.c (.s (.str [10]))]),qP (.mv qa),qP (.ext 0 qa),qP (.ext 1 qb),qP (.ext 2 qc),qQ 8 (.mv qc),qQ 6 (.mv qc),qQ 10 (.mv qc)] (.seq (qr [qM 10,qP (.not qa),qP (.mv qa),qR 0 false (.mv (.g 9)),qR 1 false (.mv (.g 8)),qS 2 false (.call 20 [qb,qa]),qR 3 false (.not qa),qQ 7 (.pick (.l 4) (.c (.s (.bool true))) qa)] (.cond (.g 7) (.seq qgx .ret) .skip)) j2w))
def jik:IC:=.seq (qr [qM 0,qB 11 (.strop 2 qa (.c (.s (.str []))))] (qX 11 0)) j2x
def j2y:IC:=.draw [(qP (.build Ze []),.none),(qM 9,.none),(qN,.none),(qG 7,.none),(qL,.some []),(qA (.store 7 (.g 12) (.l 4)),.some [0]),(qQ 2 (.mv qb),.none),(qQ 1 (.mv (qC 5)),.none)]
def j2z:IC:=qr [qM 9,qN,qG 0,qK 7,qA (.store 7 (.g 12) qa),qQ 2 (.mv (qC 0)),qQ 1 (.mv (qC 0))] .ret
def jt5:IC:=.seq (qr [qM 9,qN,qG 0,qK 7,qA (.call 10 [qa]),qT 4] (qr [qM 4,qQ 3 (.bin .ne qa (qC 0))] (.cond (.g 3) (qr [qP (.build Ze []),qM 4,qA (.store 7 (.g 12) qb),qQ 2 (.mv (qC 0)),qQ 1 (.mv qc)] .ret) .skip))) j2z
def j20:IC:=qr [qP (.build Zd []),qA (.box 71 qa),qT 9] (.seq (.block 0 (.loop jik)) (.seq (qr [qM 9,qN,qG 7,qL,qQ 5 (.bin .lt qa (qC 3))] (.cond (.g 5) (.seq j2y .ret) .skip)) jt5))
def jzu:IC:=qr [qB 12 (.new 34 Ze),qQ 2 (.mv (qC 0)),qQ 1 (.mv (qC 0))] (.seq (qr [qM 0,qA (.strop 3 qa qa),qQ 13 (.bin .gt qa (qC 60000))] (.cond (.g 13) (qr [qP (.build Ze []),qA (.store 7 (.g 12) qa),qQ 2 (.mv (qC 0)),qQ 1 (.mv (qC 1))] .ret) .skip)) j20)
theorem qtq:T 7=some (.mk jzu 1 13 [(.cell 12 7 true),(.tmp 2),(.tmp 1)]):=ka
def qb5:IC:=qr [qQ 6 (.mv (.c (.s (.bool false))))] (qr [qM 0,qM 1,qM 2,qM 3,qM 4,qM 5,qA (.call 6 [.l 5,.l 4,qd,qc,qb,qa]),qB 12 (.new 34 Ze),qA (.store 7 qa qb)] (qr [qA (.load 7 true (.g 12)),qA (.call 5 [qa]),qP (.mv qa),qP (.ext 0 qa),qP (.ext 1 qb),qQ 11 (.mv qb),qQ 10 (.mv qb)] (qr [qM 11,qA (.call 7 [qa]),qP (.mv qa),qP (.ext 0 qa),qP (.ext 1 qb),qP (.ext 2 qc),qB 7 (.new 34 Ze),qA (.store 7 qa qd),qQ 8 (.mv qd),qQ 9 (.mv qd)] (qr [qM 10,qP (.bin .eq qa (qC 0)),qP (.mv qa),qR 0 true (.mv (.g 9)),qR 1 true (.bin .eq qa (qC 0)),qP (.pick qc qa (.c (.s (.bool false)))),qP (.mv qa),qR 0 true (.mv (.g 8)),qR 1 true (.bin .eq qa (qC 0)),qP (.pick qc qa (.c (.s (.bool false)))),qP (.mv qa),qR 0 true (.mv (.g 11)),qS 1 true (.strop 3 qa qa),qR 2 true (.bin .gt qa (qC 0)),qP (.pick qd qa (.c (.s (.bool false)))),qP (.mv qa),qS 0 true (.load 7 true (.g 12)),qS 1 true (.load 7 true (.g 7)),qS 2 true (.call 9 [qb,qa]),qP (.pick qd qa (.c (.s (.bool false)))),qT 6] .ret))))
theorem qtr:T 4=some (.mk qb5 6 7 [(.tmp 6)]):=ka
def j21:IC:=.region [qB 2 (.new 80 Za)]
def j22:IC:=.region [qM 1,qP (.build Za [(0,(1,qa))]),qB 5 (.new 80 Za),qA (.store 5 qa qb)]
def j23:IC:=.region [qM 0,qN,qG 0,qL,qP (.len qa),qP (.bin .gt qa (qC 0)),qP (.mv qa),qR 0 true (.mv (.g 0)),qR 1 true (.nchk qa),qR 2 true (.fld 0 qa),qS 3 true (.load 1 false qa),qR 4 true (.ixs 1 qa (qC 0)),qS 5 true (.load 1 false qa),qS 6 true (.strop 1 qa (.c (.s (.str [108,97,116,101])))),qQ 6 (.pick (.l 7) qa (.c (.s (.bool false))))]
def jno:IC:=.cond (.g 6) (qr [qF 2 5,qA (.store 1 qa (.c (.s (.bool true))))] (.region [qM 0,qA (.call 33 [qa])])) .skip
def jt6:IC:=.region [qM 0,qA (.call 34 [qa]),qF 1 5,qA (.store 1 qa qb)]
def jt7:List (IOper×List Nat):=[(qA (.slicea 6 1 (.c (.s (.cp [.str [],.str [97,110,121],.str [114,101,103],.str [115,116,97,99,107],.str [102,105,120,101,100],.str [114,101,117,115,101]])))),[]),(qM 0,[]),(qA (.call 33 [qa]),[1]),(qA (.call 55 [qc,qa]),[]),(qF 3 5,[]),(qA (.store 1 qa qb),[])]
def jt8:IC:=.region [qF 3 5,qL,qQ 4 (.bin .lt qa (qC 1))]
def jt9:IC:=.cond (.g 4) (.region [qM 0,qN,qG 1,qA (.store 1 qa (.c (.s (.bool true))))]) .skip
def jua:IC:=.region [qF 3 5,qL,qQ 3 (.bin .ge qa (qC 4))]
def jnp:IC:=.cond (.g 3) (.region [qM 0,qA (.call 34 [qa]),qF 4 5,qA (.store 1 qa qb)]) .skip
def jkt:IC:=.region [qA (.load 5 true (.g 5)),qA (.store 5 (.g 2) qa)]
def jku:IC:=.ret
def jnq:IB:=.seq (.seq (.c jt8) (.c jt9)) (.seq (.seq (.c jua) (.c jnp)) (.seq (.c jkt) (.c jku)))
def jub:IB:=.seq (.c j21) (.seq (.c j22) (.seq (.seq (.c j23) (.c jno)) (.seq (.c jt6) (.seq (.flo jt7) jnq))))
theorem qov:TB 56 true=some (.mk jub 2 5 [(.cell 2 5 true)]):=ka
def j24:IC:=.region [qB 1 (.new 62 Zg)]
def j25:IC:=.region [qM 0,qA (.call 34 [qa]),qP (.build Zg [(0,(1,qa))]),qB 4 (.new 62 Zg),qA (.store 3 qa qb)]
def juc:IC:=.region [qM 0,qN,qG 0,qL,qP (.len qa),qP (.bin .gt qa (qC 0)),qP (.mv qa),qR 0 true (.mv (.g 0)),qR 1 true (.nchk qa),qR 2 true (.fld 1 qa),qS 3 true (.load 1 false qa),qR 4 true (.not qa),qQ 7 (.pick (.l 5) qa (.c (.s (.bool false))))]
def jnr:IC:=qX 7 0
def j26:IC:=.region [qM 0,qA (.call 33 [qa]),qT 6]
def j27:IC:=.region [qA (.slicea 3 1 (.c (.s (.cp [.str [],.str [117,115,101],.str [100,101,102]])))),qM 6,qA (.call 55 [qb,qa]),qT 5]
def j28:IC:=.region [qM 5,qP (.bin .gt qa (qC 0)),qP (.mv qa),qR 0 true (.fld 2 (.g 4)),qS 1 true (.load 1 false qa),qR 2 true (.len qa),qR 3 true (.bin .eq qa (qC 0)),qP (.pick (.l 4) qa (.c (.s (.bool false)))),qT 3]
def j29:List (IOper×List Nat):=[(qF 1 4,[]),(qL,[]),(qM 0,[]),(qM 5,[]),(qA (.call 56 [qb,qa]),[2]),(qA (.bslice 80 5 Za 1 [(0,(5,qa))]),[3]),(qA (.app 80 5 40 (.l 4) qa),[]),(qF 1 4,[]),(qA (.store 1 qa qb),[])]
def jud:IB:=.flo j29
def j3a:IC:=.region [qM 6,qA (.strop 1 qa (.c (.s (.str [115,112,111,105,108,115])))),qT 2]
def j3b:List (IOper×List Nat):=[(qF 2 4,[]),(qL,[]),(qM 0,[]),(qA (.call 34 [qa]),[1]),(qM 0,[]),(qA (.call 34 [qa]),[3]),(qP (.build Zf [(0,(1,qc)),(1,(1,qa))]),[]),(qA (.bslice 83 2 Zf 1 [(0,(2,qa))]),[5]),(qA (.app 83 2 16 (.l 6) qa),[]),(qF 2 4,[]),(qA (.store 1 qa qb),[])]
def jue:IB:=.flo j3b
def j3c:IC:=.region [qM 0,qN,qG 1,qA (.store 1 qa (.c (.s (.bool true))))]
def juf:IB:=.c j3c
def jug:IB:=.seq (.c j3a) (.cond (.g 2) jue juf)
def jns:IB:=.seq (.seq (.c juc) (.c jnr)) (.block 1 (.seq (.c j26) (.seq (.c j27) (.block 2 (.seq (.c j28) (.cond (.g 3) jud jug))))))
def jxi:IC:=.region [qA (.load 3 true (.g 4)),qA (.store 3 (.g 1) qa)]
def jxj:IC:=.ret
def juh:IB:=.seq (.c jxi) (.c jxj)
def jui:IB:=.seq (.c j24) (.seq (.c j25) (.seq (.block 0 (.loop jns)) juh))
theorem qow:TB 36 true=some (.mk jui 1 7 [(.cell 1 3 true)]):=ka
def juj:IC:=.region [qQ 2 (.mv (.c (.s (.bool false))))]
def juk:IC:=.region [qM 1,qA (.call 32 [qa,.c (.s (.str [32]))]),qP (.build [.nilSlice,.bool false] [(0,(1,qa))]),qA (.box 95 qa),qT 18]
def jul:IC:=.region [qM 18,qA (.call 33 [qa]),qT 12]
def jum:IC:=.region [qM 0,qN,qG 0,qG 2,qG 1,qL,qT 8]
def jil:IC:=.region [qM 0,qN,qG 7,qB 17 (.load 1 false qa)]
def jim:IC:=.region [qP (.bin .eq (.g 17) (qC 0)),qT 16]
def j3d:IC:=.region [qQ 15 (.mv (qC 0))]
def jun:IC:=.region [qQ 14 (.bin .lt (.g 15) (qC 2))]
def juo:IC:=qX 14 1
def jxk:IC:=.region [qM 15,qT 13]
def j3e:List (IOper×List Nat):=[(qM 0,[]),(qM 13,[]),(qM 18,[]),(qA (.call 34 [qa]),[]),(qP (.nchk qd),[]),(qG 0,[]),(qG 0,[]),(qG 0,[]),(qP (.ixa 2 1 qa (.l 6)),[]),(qA (.store 1 qa (.l 5)),[])]
def jxl:IC:=.region [qI 15,qT 15]
def j3f:IB:=.c jxl
def j3g:IB:=.seq (.block 2 (.seq (.c jxk) (.flo j3e))) j3f
def jup:IB:=.seq (.c jun) (.seq (.c juo) j3g)
def jxm:IC:=.region [qM 12,qA (.strop 1 qa (.c (.s (.str [109,97,99,104,105,110,101])))),qP (.mv qa),qR 0 true (.mv (.g 18)),qR 1 true (.nchk qa),qR 2 true (.fld 1 qa),qS 3 true (.load 1 false qa),qR 4 true (.not qa),qP (.pick (.l 5) qa (.c (.s (.bool false)))),qP (.mv qa),qR 0 true (.mv (.g 18)),qR 1 true (.nchk qa),qR 2 true (.fld 0 qa),qS 3 true (.load 1 false qa),qR 4 true (.len qa),qR 5 true (.bin .eq qa (qC 0)),qP (.pick (.l 6) qa (.c (.s (.bool false)))),qT 2]
def jxn:IC:=.ret
def jnt:IB:=.seq (.seq (.c j3d) (.block 1 (.loop jup))) (.seq (.c jxm) (.c jxn))
def jkv:IC:=.region [qP (.bin .eq (.g 17) (qC 1)),qT 11]
def jkw:IC:=.cond (.g 11) (qr [qM 0,qM 18,qA (.call 34 [qa]),qP (.nchk qc),qG 0,qG 4,qA (.store 1 qa qd)] (qr [qM 0,qM 18,qA (.call 34 [qa]),qP (.nchk qc),qG 0,qG 5,qA (.store 1 qa qd)] (qr [qM 0,qM 18,qA (.call 35 [qa]),qP (.nchk qc),qG 0,qG 6,qA (.store 1 qa qd)] (qr [qM 12,qA (.strop 1 qa (.c (.s (.str [114,117,110])))),qP (.mv qa),qR 0 true (.mv (.g 18)),qR 1 true (.nchk qa),qR 2 true (.fld 1 qa),qS 3 true (.load 1 false qa),qR 4 true (.not qa),qP (.pick (.l 5) qa (.c (.s (.bool false)))),qT 2] .ret)))) (qr [qP (.bin .eq (.g 17) (qC 2)),qT 10] (.cond (.g 10) (qr [qM 0,qM 18,qA (.call 35 [qa]),qP (.nchk qc),qG 0,qG 2,qG 0,qA (.store 1 qa (.l 4))] (qr [qM 12,qA (.strop 1 qa (.c (.s (.str [118,97,108,117,101,115])))),qP (.mv qa),qR 0 true (.mv (.g 18)),qR 1 true (.nchk qa),qR 2 true (.fld 1 qa),qS 3 true (.load 1 false qa),qR 4 true (.not qa),qP (.pick (.l 5) qa (.c (.s (.bool false)))),qT 2] .ret)) .skip))
def jf7:IB:=.seq (.c jkv) (.c jkw)
def jkx:IC:=.region [qM 12,qB 9 (.strop 1 qa (.c (.s (.str [98,108,111,99,107]))))]
def jky:IC:=.cond (.g 9) (qr [qM 0,qM 8,qM 18,qA (.call 35 [qa]),qP (.build Zi [(0,(1,qa))]),qA (.bslice 58 3 Zi 1 [(0,(3,qa))]),qA (.app 58 3 72 (.l 4) qa),qP (.nchk (.l 6)),qG 0,qG 2,qG 1,qA (.store 1 qa (.l 4))] (qr [qM 18,qN,qG 1,qL,qP (.not qa),qT 2] .ret)) .skip
def jqb:IC:=.region [qM 8,qP (.len qa),qQ 7 (.bin .eq qa (qC 0))]
def jqc:IC:=.cond (.g 7) (qr [qQ 2 (.mv (.c (.s (.bool false))))] .ret) .skip
def jqd:IC:=.region [qM 8,qM 8,qP (.len qa),qP (.bin .sub qa (qC 1)),qP (.ixs 3 qd qa),qT 6]
def jhz:IC:=.region [qM 12,qA (.strop 1 qa (.c (.s (.str [111,112])))),qP (.mv qa),qR 0 true (.mv (.g 6)),qR 1 true (.nchk qa),qR 2 true (.fld 2 qa),qS 3 true (.load 1 false qa),qR 4 true (.len qa),qR 5 true (.bin .eq qa (qC 0)),qP (.pick (.l 6) qa (.c (.s (.bool false)))),qT 5]
def j3h:List (IOper×List Nat):=[(qM 6,[]),(qM 6,[]),(qN,[]),(qG 1,[]),(qL,[]),(qM 18,[]),(qA (.call 36 [qa]),[1]),(qA (.bslice 62 3 Zg 1 [(0,(3,qa))]),[2]),(qA (.app 62 3 56 qd qa),[]),(qP (.nchk (.l 8)),[]),(qG 1,[]),(qA (.store 1 qa qc),[])]
def jkz:IB:=.flo j3h
def jxo:IC:=.region [qM 12,qA (.strop 1 qa (.c (.s (.str [101,100,103,101])))),qT 4]
def jxp:IC:=.region [qM 18,qA (.call 34 [qa]),qP (.build Zh [(0,(1,qa))]),qB 3 (.new 65 Zh),qA (.store 2 qa qb)]
def jxq:IC:=.region [qM 18,qA (.call 35 [qa]),qF 1 3,qA (.store 1 qa qb)]
def j3i:List (IOper×List Nat):=[(qM 6,[]),(qM 6,[]),(qN,[]),(qG 2,[]),(qL,[]),(qA (.load 2 true (.g 3)),[0]),(qA (.bslice 65 2 Zh 1 [(0,(2,qa))]),[1]),(qA (.app 65 2 32 qc qa),[]),(qP (.nchk (.l 7)),[]),(qG 2,[]),(qA (.store 1 qa qc),[])]
def juq:IB:=.seq (.c jxp) (.seq (.c jxq) (.flo j3i))
def qb6:IC:=.region [qQ 2 (.mv (.c (.s (.bool false))))]
def qb7:IC:=.ret
def qgy:IB:=.seq (.c qb6) (.c qb7)
def jk0:IB:=.seq (.c jxo) (.cond (.g 4) juq qgy)
def jxr:IC:=.region [qM 18,qN,qG 1,qL,qP (.not qa),qT 2]
def jxs:IC:=.ret
def jnu:IB:=.seq (.c jxr) (.c jxs)
def qb8:IB:=.seq (.c juj) (.seq (.c juk) (.seq (.c jul) (.seq (.c jum) (.seq (.seq (.c jil) (.block 0 (.seq (.c jim) (.cond (.g 16) jnt jf7)))) (.seq (.seq (.c jkx) (.c jky)) (.seq (.seq (.c jqb) (.c jqc)) (.seq (.c jqd) (.seq (.block 3 (.seq (.c jhz) (.cond (.g 5) jkz jk0))) jnu))))))))
theorem qox:TB 20 true=some (.mk qb8 2 17 [(.tmp 2)]):=ka
set_option maxHeartbeats 2000000
section
variable {F:Fns} {st fr:List AV} {h:Hp} {Q:Ex->St->Prop} {l:List IOper} {dst:Option Nat}
def eqO (neg:Bool) (a b:Option AV):Option AV:=ob a (fun a=>ob b (fun b=>svc none a (fun a=>svc none b (fun b=>jk6 a (fun l=>jk6 b (fun r=>some (AV.s (.bool (oif neg (jis (j3z l r)) (j3z l r))))))))))
theorem jhb {l r:List UInt8}:eqO false (some (.s (.str l))) (some (.s (.str r)))=some (.s (.bool (l == r))):=by
 show some (AV.s (.bool (j3z l r)))=_
 rw[jli]
theorem qb9 {l r:List UInt8}:eqO true (some (.s (.str l))) (some (.s (.str r)))=some (.s (.bool (!(l == r)))):=by
 show some (AV.s (.bool (jis (j3z l r))))=_
 rw[jli];cases l == r<;>rfl
theorem j3j {neg:Bool} {x y:Od}:jx3 st fr h neg x y=ob (eqO neg (ev st fr x) (ev st fr y)) (fun v=>ok v h):=by
 unfold jx3 eqO
 cases ev st fr x with
 | none=>rfl
 | some a =>
  cases ev st fr y with
  | none=>rfl
  | some b =>
   cases a with
   | s a =>
    cases b with
    | s b =>
     cases a with
     | str l =>
      cases b<;>rfl
     | _=>rfl
    | _=>rfl
   | _=>rfl
theorem jhc {x y:Od}:WO F (.mk dst (.a (.strop 1 x y)) none::l) st fr h Q=zpO F (eqO false (ev st fr x) (ev st fr y)) dst l st fr h Q:=jxc rfl j3j
theorem qca {x y:Od}:WO F (.mk dst (.a (.strop 2 x y)) none::l) st fr h Q=zpO F (eqO true (ev st fr x) (ev st fr y)) dst l st fr h Q:=jxc rfl j3j
def nnO (a b:Option AV):Option AV:=ob a (fun a=>ob b (fun b=>svc none a (fun a=>svc none b (fun b=>qqn a (fun p=>qqn b (fun q=>oif p (oif q none (some (AV.s (.bool true)))) (some (.s (.bool (oif q true (jis true)))))))))))
theorem qgz {x y:Od}:ju0 st fr h true x y=ob (nnO (ev st fr x) (ev st fr y)) (fun v=>ok v h):=by
 unfold ju0 nnO
 cases ev st fr x with
 | none=>rfl
 | some a =>
  cases ev st fr y with
  | none=>rfl
  | some b =>
   cases a with
   | s a =>
    cases b with
    | s b =>
     cases a with
     | ifc p =>
      cases b with
      | ifc q=>cases p<;>cases q<;>rfl
      | _=>rfl
     | _=>rfl
    | _=>rfl
   | _=>rfl
theorem qjs {x y:Od}:WO F (.mk dst (.a (.strop 6 x y)) none::l) st fr h Q=zpO F (nnO (ev st fr x) (ev st fr y)) dst l st fr h Q:=jxc rfl qgz
end
def wsV (ws:List (List UInt8)):SV:=.lst (ws.map (fun w=>[SV.str w]))
def q1i (size:Nat) (x y:Option AV):Option AV:=ob x (fun v=>jdh v
 (ob (some 0) (fun hi'=>ob (ob y (fun x=>jk5 x (fun _ n=>Int.casesOn n (fun m=>some m) (fun _=>none)))) (fun lo'=>oif (Nat.beq (Nat.add hi' lo') 0) (some (AV.s .nilSlice)) none)))
 (fun b off len mc ex sz=>ob (some len) (fun hi'=>ob (ob y (fun x=>jk5 x (fun _ n=>Int.casesOn n (fun m=>some m) (fun _=>none)))) (fun lo' =>
  oif (Nat.ble hi' mc) (oif (Nat.ble lo' hi') (oif (Nat.beq sz size) (some (AV.s (.slice b (Nat.add off (Nat.mul lo' size)) (Nat.sub hi' lo') (Nat.sub mc lo') ex sz))) none) none) none)))
 (fun rows=>ob (some (jb6 rows)) (fun hi'=>ob (ob y (fun x=>jk5 x (fun _ n=>Int.casesOn n (fun m=>some m) (fun _=>none)))) (fun lo' =>
  oif (Nat.ble hi' (jb6 rows)) (oif (Nat.ble lo' hi') (oif (jq0 size rows) (ob (jbp (Nat.sub hi' lo') (jb9 lo' rows)) (fun r=>some (AV.s (.lst r)))) none) none) none)))
 (ob (some 0) (fun hi'=>ob (ob y (fun x=>jk5 x (fun _ n=>Int.casesOn n (fun m=>some m) (fun _=>none)))) (fun lo'=>oif (Nat.beq (Nat.add hi' lo') 0) (some (AV.s .emp)) none))))
theorem qts {st fr:List AV} {size:Nat} {x y:Od}:pop st fr (.slice size x (some y) none)=q1i size (ev st fr x) (ev st fr y):=rfl
theorem qcb:∀ ws:List (List UInt8),jq0 1 (ws.map (fun w=>[SV.str w]))=true
 | []=>rfl
 | w::ws=>rfl
theorem qoy {w:List UInt8} {ws:List (List UInt8)}:q1i 1 (some (.s (wsV (w::ws)))) (some (vi 1))=some (.s (wsV ws)):=by
 show oif (Nat.ble (jb6 ((w::ws).map fun w=>[SV.str w])) (jb6 ((w::ws).map fun w=>[SV.str w]))) (oif (Nat.ble 1 (jb6 ((w::ws).map fun w=>[SV.str w]))) (oif (jq0 1 ((w::ws).map fun w=>[SV.str w])) (ob (jbp (Nat.sub (jb6 ((w::ws).map fun w=>[SV.str w])) 1) (jb9 1 ((w::ws).map fun w=>[SV.str w]))) fun r=>some (AV.s (.lst r))) none) none) none=_
 rw[qcb,jba,jbn (f0h _),f03,jbn (show 1<=(w::ws).length by simp)]
 show ob (jbp (Nat.sub (ws.length+1) 1) (ws.map fun w=>[SV.str w])) (fun r=>some (AV.s (.lst r)))=_
 rw[(ja8 (r:=ws.map fun w=>[SV.str w]) _).2 ⟨se,by simp[List.take_of_length_le]⟩]
 rfl
theorem qcc {w:List UInt8} {ws:List (List UInt8)}:jqo 1 (.s (wsV (w::ws))) (vi 0)=some (.s (.cp [.str w])) :=
 jm4   rfl rfl
theorem jhd {ws:List (List UInt8)}:jsn (.s (wsV ws))=some (vi ws.length):=by
 show some (vi (jb6 (ws.map fun w=>[SV.str w]):Int))=_
 rw[jba,f03]
structure Wk (w:List UInt8):Prop where
 len:w.length<=4000000000
 pos:∀ v,Lib.atoiAll w=.ok v->0<=v/\v<=9223372036854775807
structure Tak (h:Hp) (t:Nat) (ws:List (List UInt8)) (b:Bool):Prop where
 ok:Ok h
 g:h.get t=some (.arr [wsV ws,.bool b] 95)
 p:1<=t/\t<h.next
 wk:∀ w∈ws,Wk w
 n:ws.length<=100000
theorem Tak.keep {h h':Hp} {t:Nat} {ws:List (List UInt8)} {b:Bool} (k:Tak h t ws b) (ok':Ok h') (hk:h'.get t=h.get t) (hn:h.next<=h'.next):Tak h' t ws b:=⟨ok',hk.trans k.g,by have:=k.p;omega,k.wk,k.n⟩
def Tf (f:FuncId):Bool:=Nat.beq f 33||(Nat.beq f 34||(Nat.beq f 35||(Nat.beq f 55||Nat.beq f 7)))
structure TkF (F:Fns):Prop where
 x:∀ f,Tf f=true->∀ vs h,jc1 F f vs h=none
 t:j4i F=T
 lib:∀ f vs h r,jqt f vs h=some r->jc1 F f vs h=some r
theorem Mv.at {h h':Hp} {p:Nat} (ok:Ok h') (hn:h.next<=h'.next) (g:∀ n,n≠p->n<h.next->h'.get n=h.get n):Mv h h' [p] [p]:=⟨ok,hn,fun n hm=>.inl hm,fun n h1 h2=>g n (fun e=>h2 (by grind)) h1⟩
def jdc (w:List UInt8):Int×Bool:=match Lib.atoiAll w with
 | .ok v=>(v,!(ito v.toNat == w))
 | .range=>(Lib.atoiSat w,true)
 | _=>(0,true)
theorem jeg {n:Nat} (hn:n<1000000000000000000):jdc (ito n)=((n:Int),false):=by
 unfold jdc
 grind[j2q,f1k]
theorem qtt {w:List UInt8} (k:Wk w):∃ x e,qsk w=.tup [(false,[.int .i64 x]),(false,[.ifc e])]/\jdc w=(x,e || !(ito x.toNat == w))/\(e=false->∃ n:Nat,x=n/\n<=9223372036854775807):=by
 unfold qsk jdc
 cases e:Lib.atoiAll w with
 | ok v =>
  obtain⟨h1,h2⟩:=k.pos v e
  exact⟨v,false,rfl,rfl,fun _=>⟨v.toNat,oa,oa⟩⟩
 | range=>simp
 | _=>simp
theorem Wk.nil:Wk []:=⟨se,fun v h=>by trivial⟩
theorem Wk.head {ws:List (List UInt8)} (h:∀ w∈ws,Wk w):Wk (ws.headD []):=by
 cases ws with
 | nil=>exact Wk.nil
 | cons w r=>grind
theorem qg0:jdc []=(0,true):=rfl
section
variable {F:Fns} {h:Hp} {t:Nat} {ws:List (List UInt8)} {b:Bool}
def Tkn (h:Hp) (t:Nat) (v0:AV) (ws:List (List UInt8)) (b:Bool):AV->Hp->Prop:=fun v h'=>v=v0/\Tak h' t ws b/\h'.next=h.next/\Mv h h' [t] [t]
theorem Tak.put (k:Tak h t ws b) {ws':List (List UInt8)} {b':Bool} (hs:∀ w∈ws',Wk w) (hn:ws'.length<=100000):∃ hA,h.put t (some (.arr [wsV ws',.bool b'] 95))=hA/\Tak hA t ws' b'/\hA.next=h.next/\Mv h hA [t] [t]:=by
 have p:=k.p
 obtain⟨hA,eA,okA,nA,xA,gA⟩:=jxx k.ok p.1 (some (.arr [wsV ws',.bool b'] 95))
 exact⟨hA,eA,⟨okA,xA,oa,hs,hn⟩,oa,Mv.at okA oa fun n h1 _=>gA n h1⟩
theorem jqe (f:TkF F) (k:Tak h t ws b):WC F 33 [.s (.ptr t 0)] h (Tkn h t (.s (.str (ws.headD []))) ws.tail (b||ws.isEmpty)):=by
 refine jaz (f.x _ rfl _ _) ((congrFun f.t _).trans qtm) rfl ?_
 unfold qb1
 have g:=k.g
 have ok:=k.ok
 have kn:=k.n
 cases ws with
 | nil =>
  obtain⟨hA,eA,kA,nA,mA⟩:=k.put (ws':=[]) (b':=true) se se
  have c1:((([]:List (List UInt8)).length:Int)=0)=True:=se
  simp(disch:=rfl) only[go_sem,g,jhd,c1,eA]
  exact⟨rfl,by grind,nA,mA⟩
 | cons w ws =>
  obtain⟨hA,eA,kA,nA,mA⟩:=k.put (ws':=ws) (b':=b) (fun x hx=>k.wk x (by simp[hx])) (by simp at kn;omega)
  have c1:(((w::ws).length:Int)=0)=False:=by simp;omega
  simp(disch:=go_num) only[go_sem,g,jhd,c1]
  unfold j2t
  simp(disch:=go_num) only[go_sem,g,qcc,qts,qoy,eA]
  exact⟨rfl,by simpa using kA,nA,mA⟩
theorem jga (f:TkF F) (k:Tak h t ws b):WC F 34 [.s (.ptr t 0)] h (Tkn h t (vi (jdc (ws.headD [])).1) ws.tail (b||(jdc (ws.headD [])).2)):=by
 refine jaz (f.x _ rfl _ _) ((congrFun f.t _).trans qtn) rfl ?_
 unfold qb2
 simp(disch:=rfl) only[go_sem]
 refine WC.imp (jqe f k) ?_
 rintro _ h1 ⟨rfl,k1,n1,m1⟩
 have g:=k1.g
 have ok1:=k1.ok
 have wk:=Wk.head k.wk
 obtain⟨x,e,ha,hv,hz⟩:=qtt wk
 obtain⟨w,ew⟩:∃ w,ws.headD []=w:=⟨_,rfl⟩
 have eb:(b||(jdc w).2)=((b||ws.isEmpty)||(e || !(ito x.toNat == w))):=by
  grind[qg0]
 rw[ew] at ha hv wk ⊢
 rw[eb,hv]
 obtain⟨b1,e1⟩:∃ b1,(b||ws.isEmpty)=b1:=⟨_,rfl⟩
 rw[e1] at g k1 ⊢
 have i1:=fun(h:Hp) (Q:AV->Hp->Prop)=>jam (Q:=Q) (f.lib _ _ _ _ (show jqt 54 [.s (.str w)] h=some (AV.tup [(false,[.int .i64 x]),(false,[.ifc e])],h) from by
  show oif (Nat.ble (jb6 w) 4000000000) (ok (qsk w) h) none=_
  rw[jba,jbn wk.len,ha];rfl))
 obtain⟨hA,eA,kA,nA,mA⟩:=k1.put (ws':=ws.tail) (b':=b1||(e || !(ito x.toNat == w))) k1.wk k1.n
 have fin:∀ v,v=vi x->Tkn h t (vi x) ws.tail (b1||(e || !(ito x.toNat == w))) v hA:=fun v hv=>⟨hv,kA,oa,m1.trans mA⟩
 cases b1 with
 | true =>
  have eA':h1.put t (some (.arr [wsV ws.tail,.bool true] 95))=hA:=eA
  simp(disch:=go_num) only[go_sem,i1,g,eA']
  exact fin _ rfl
 | false =>
  have n1:nnO (some (.s (.ifc e))) (some (.s (.ifc false)))=some (.s (.bool e)):=by cases e<;>rfl
  cases e with
  | true =>
   have eA':h1.put t (some (.arr [wsV ws.tail,.bool true] 95))=hA:=eA
   simp(disch:=go_num) only[go_sem,i1,g,qjs,n1,eA']
   exact fin _ rfl
  | false =>
   obtain⟨n,rfl,hn⟩:=hz rfl
   have i2:=fun(h:Hp) (Q:AV->Hp->Prop)=>jam (Q:=Q) (f.lib _ _ _ _ (show jqt 13 [.s (.int .i64 (n:Int))] h=some (.s (.str (ito n)),h) from by
    show oif (Nat.ble n 9223372036854775807) (ok (.s (.str (dig 19 n []))) h) none=_
    rw[jbn oa];rfl))
   rw[f1k] at eA fin ⊢
   have eA':h1.put t (some (.arr [wsV ws.tail,.bool (!(ito n == w))] 95))=hA:=eA
   simp(disch:=go_num) only[go_sem,i1,g,qjs,n1,i2,qca,qb9,eA']
   exact fin _ rfl
end
section
variable {F:Fns} {h:Hp} {t:Nat} {w:List UInt8} {ws:List (List UInt8)} {Q:Ex->St->Prop}
def EZ (row:List SV) (v:Int) (ns:List Nat):Prop:=row=[.int .i64 v]/\ns=[]
def jhg:List (List UInt8)->Bool->List Int×List (List UInt8)×Bool
 | [],b=>([],[],b)
 | w::ws,true=>([],w::ws,true)
 | w::ws,false=>((jdc w).1::(jhg ws (jdc w).2).1,(jhg ws (jdc w).2).2)
theorem qjt (f:TkF F) {h0:Hp} (ht:t<h0.next) :
 ∀ (ws:List (List UInt8)) (b:Bool) (done:List Int) (_:done.length+ws.length<=100000) {hi:Hp} {x:SV} {ns:List Nat} (_:Tak hi t ws b) (_:Mv h0 hi [t] [t]) (_:Sl hi 3 1 false EZ x done ns) (_:∀ n∈ns,h0.next<=n/\n<hi.next) {x3:AV}
  (hQ:∀ x3 hj x ns,Tak hj t (jhg ws b).2.1 (jhg ws b).2.2->Mv h0 hj [t] [t]->Sl hj 3 1 false EZ x (done++(jhg ws b).1) ns->(∀ n∈ns,h0.next<=n/\n<hj.next)->Q (.exit 0) (.mk [.s (.ptr t 0),x1,.s x,x3] hj)),
  W F jks.loop (.mk [.s (.ptr t 0),x1,.s x,x3] hi) Q
 | [],b,done,hl,hi,x,ns,k,m,sl,lo,x3,hQ=>by
  have g:=k.g
  have c1:((0:Int)<(([]:List (List UInt8)).length:Int))=False:=se
  rw[jai]
  unfold jks
  simp(disch:=rfl) only[go_sem,g,jhd,c1]
  exact hQ _ _ _ _ k m (by show Sl _ _ _ _ _ _ (done++[]) _;rw[f06];exact sl) lo
 | w::ws,true,done,hl,hi,x,ns,k,m,sl,lo,x3,hQ=>by
  have g:=k.g
  have c1:((0:Int)<((w::ws).length:Int))=True:=eq_true (by rw[f0i];omega)
  rw[jai]
  unfold jks
  simp(disch:=go_num) only[go_sem,g,jhd,c1]
  exact hQ _ _ _ _ k m (by show Sl _ _ _ _ _ _ (done++[]) _;rw[f06];exact sl) lo
 | w::ws,false,done,hl,hi,x,ns,k,m,sl,lo,x3,hQ=>by
  have g:=k.g
  have ok:=k.ok
  have p:=k.p
  rw[f0i] at hl
  have c1:((0:Int)<((w::ws).length:Int))=True:=eq_true (by rw[f0i];omega)
  rw[jai]
  unfold jks
  simp(disch:=go_num) only[go_sem,g,jhd,c1]
  unfold j2u
  simp(disch:=go_num) only[go_sem]
  refine WC.imp (jga f k) ?_
  rintro _ h1 ⟨rfl,k1,n1,m1⟩
  have ok1:=k1.ok
  have nx:=m.nx
  have sl1:=sl.keep (h':=h1) (fun u hu=>m1.keep u (lo u hu).2 (by have:=(lo u hu).1;simp;omega))
  obtain⟨h4,e4,ok4,n4,kp4,kt4,sl4⟩:=sl1.app1 (bytes:=8) (row:=[.int .i64 (jdc w).1]) (a:=(jdc w).1) (ms:=[]) ok1 (fun u hu=>by have:=lo u hu;have:=h0.next;omega) rfl ⟨rfl,rfl⟩ oa oa
  have sl5:=sl4 (E':=EZ) (fun _ _ _ _ h=>h)
  have e4':jmr (h1.push (.arr [.int .i64 (jdc ((w::ws).headD [])).1] 3)) 3 1 8 (.s x) (.s (.slice h1.next 0 1 1 true 1))=some (.s (.slice (h1.next+1) 0 (done.length+1) (done.length+1) false 1),h4):=e4
  simp(disch:=go_num) only[go_sem,e4']
  have tn:t∉ns:=fun hc=>by have:=lo t hc;omega
  refine qjt f ht ws (jdc w).2 (done++[(jdc w).1]) (by simp;omega) (x:=.slice (h1.next+1) 0 (done.length+1) (done.length+1) false 1) (k1.keep ok4 (kp4 t oa tn) oa) ⟨ok4,oa,fun u hu=>.inl hu,fun u hu hu2=>(kp4 u oa (fun hc=>by have:=lo u hc;omega)).trans ((m1.keep u oa hu2).trans (m.keep u hu hu2))⟩ sl5 (fun u hu=>?_) (fun x3 hj x ns k2 m2 s2 l2=>hQ x3 hj x ns k2 m2 (by rw[f0g] at s2;exact s2) l2)
  .rcases f0f.1 hu with rfl | hu
   .omega
   .have:=lo u (f0j (by simpa using hu));omega
def q5a (h:Hp) (t:Nat) (r:List Int×List (List UInt8)×Bool):AV->Hp->Prop:=fun v h'=>∃ x ns,v=.s x/\Sl h' 3 1 false EZ x r.1 ns/\(∀ n∈ns,h.next<=n/\n<h'.next)/\Tak h' t r.2.1 r.2.2/\Mv h h' [t] [t]
theorem jur (f:TkF F) {b:Bool} (k:Tak h t ws b):WC F 35 [.s (.ptr t 0)] h (q5a h t (jhg ws b)):=by
 refine jaz (f.x _ rfl _ _) ((congrFun f.t _).trans qto) rfl ?_
 unfold qb3
 have kn:=k.n
 simp   only[go_sem]
 refine qjt f k.p.2 ws b [] (by grind) k (Mv.refl k.ok) (.inl ⟨rfl,rfl,rfl⟩) se fun x3 hj x ns k1 m1 s1 lo=>?_
 simp   only[go_sem]
 exact⟨x,ns,rfl,s1,lo,k1,m1⟩
theorem jgr:∀ {l:List Nat},(∀ n∈l,n<1000000000000000000)->jhg (l.map ito) false=(l.map (fun(n:Nat)=>(n:Int)),[],false)
 | [],_=>rfl
 | n::l,h=>by
  show((jdc (ito n)).1::(jhg (l.map ito) (jdc (ito n)).2).1,(jhg (l.map ito) (jdc (ito n)).2).2)=_
  simp_all[jeg,jgr]
theorem Rows.unmap {α β:Type} {E:List SV->α->List Nat->Prop} {E':List SV->β->List Nat->Prop} {g:β->α} (hE:∀ row b ms,E row (g b) ms->E' row b ms):∀ {l:List β} {rows:List (List SV)} {ns:List Nat},Rows sz E rows (l.map g) ns->Rows sz E' rows l ns
 | [],_,_,k=>by cases k;exact .nil
 | b::l,_,_,k=>by cases k with | cons h1 h2 h3=>exact .cons h1 (hE _ _ _ h2) (Rows.unmap hE h3)
theorem Sl.unmap {α β:Type} {h:Hp} {E:List SV->α->List Nat->Prop} {E':List SV->β->List Nat->Prop} {g:β->α} {x:SV} {l:List β} {ns:List Nat} (hE:∀ row b ms,E row (g b) ms->E' row b ms) (s:Sl h ty sz ex E x (l.map g) ns):Sl h ty sz ex E' x l ns:=by
 rcases s with⟨h1,h2,h3⟩ | ⟨h1,b,rows,nss,h2,h3,h4,h5⟩
 .exact .inl ⟨List.map_eq_nil_iff.1 h1,h2,h3⟩
 .refine .inr ⟨fun e=>h1 (by grind),b,rows,nss,?_,h3,h4.unmap hE,h5⟩
  grind
def jk9 (w:List UInt8):List (List UInt8)->Nat->Int
 | [],_=>-1
 | a::r,i=>if a == w then (i:Int) else jk9 w r (i+1)
theorem qju {tb:List (List UInt8)} (hl:tb.length<=1000)
 (hR:∀ (i:Nat) x3 x4 x6 x7,jk9 w tb 0=i->Q .ret (.mk [.s (wsV tb),.s (.str w),vi i,x3,x4,x6,vi tb.length,x7] h))
 (hE:∀ x3 x4 x6 x7,jk9 w tb 0=-1->Q (.exit 0) (.mk [.s (wsV tb),.s (.str w),x2,x3,x4,x6,vi tb.length,x7] h)) :
 ∀ (rest done:List (List UInt8)) (_:done++rest=tb) (_:jk9 w tb 0=jk9 w rest done.length) {x3 x4 x5:AV},
  W F jnn.loop (.mk [.s (wsV tb),.s (.str w),x2,x3,x4,x5,vi tb.length,vi done.length] h) Q
 | [],done,hd,hi,x3,x4,x5=>by
  rw[f06] at hd
  subst hd
  rw[jai]
  unfold jnn
  simp(disch:=rfl) only[go_sem,f0s]
  exact hE _ _ _ _ hi
 | a::rest,done,hd,hi,x3,x4,x5=>by
  have hlen:done.length<tb.length:=by rw[←hd];simp
  have hlt:(done.length:Int)<(tb.length:Int):=oa
  have hix:jqo 1 (.s (wsV tb)) (vi (done.length:Int))=some (.s (.cp [.str a])):=jm4 (rows:=tb.map (fun w=>[SV.str w])) (by rw[←hd];simp) rfl
  rw[jai]
  unfold jnn j2v
  simp(disch:=go_num) only[go_sem,jad,eq_true hlt,hix,jhc,jhb]
  replace hi:jk9 w tb 0=if a == w then (done.length:Int) else jk9 w rest (done.length+1):=hi
  cases e:w == a with
  | true =>
   have e2:a == w:=by rw[beq_iff_eq] at e ⊢;exact e.symm
   rw[if_pos e2] at hi
   simp(disch:=go_num) only[go_sem]
   exact hR done.length _ _ _ _ hi
  | false =>
   have e2:¬ (a == w)=true:=by
    rw[beq_iff_eq];rintro rfl;simp at e
   rw[if_neg e2] at hi
   have hss:(done.length:Int)+1=(((done++[a]).length:Nat):Int):=se
   simp(disch:=go_num) only[go_sem,jad,hss]
   exact qju hl hR hE rest (done++[a]) (by rw[←hd];simp) (by rw[hi];simp)
theorem qcd (f:TkF F) {tb:List (List UInt8)} (hl:tb.length<=1000) {n:Int} (hn:jk9 w tb 0=n) {Q:AV->Hp->Prop} (hQ:Q (vi n) h):WC F 55 [.s (wsV tb),.s (.str w)] h Q:=by
 refine jaz (f.x _ rfl _ _) ((congrFun f.t _).trans qtp) rfl ?_
 unfold qb4
 simp(disch:=rfl) only[go_sem,jhd]
 refine qju hl (fun i x3 x4 x6 x7 e=>?_) (fun x3 x4 x6 x7 e=>?_) tb [] rfl rfl
 .simp (disch:=rfl) only[go_sem]
  grind
 .simp  only[go_sem]
  grind
end
def qoz:FB1:=⟨56,jub,2,5,[(.cell 2 5 true)]⟩
def LWs:List (List UInt8):=[[],[97,110,121],[114,101,103],[115,116,97,99,107],[102,105,120,101,100],[114,101,117,115,101]]
def KWs:List (List UInt8):=[[],[117,115,101],[100,101,102]]
def jez:List (List UInt8)->Bool×List (List UInt8)
 | []=>(false,[])
 | w::r=>if w == jqz then (true,r) else (false,w::r)
def jx0 (k:Int) (ws:List (List UInt8)) (b:Bool):List SV×List (List UInt8)×Bool :=
 if 4<=jk9 ((jez ws).2.tail.headD []) LWs 0 then
  ([.int .i64 k,.int .i64 (jdc ((jez ws).2.headD [])).1,.bool (jez ws).1,.int .i64 (jk9 ((jez ws).2.tail.headD []) LWs 0),.int .i64 (jdc ((jez ws).2.tail.tail.headD [])).1],(jez ws).2.tail.tail.tail,
   (((b||(jdc ((jez ws).2.headD [])).2)||(jez ws).2.tail.isEmpty)||decide (jk9 ((jez ws).2.tail.headD []) LWs 0<1))||(jdc ((jez ws).2.tail.tail.headD [])).2)
 else
  ([.int .i64 k,.int .i64 (jdc ((jez ws).2.headD [])).1,.bool (jez ws).1,.int .i64 (jk9 ((jez ws).2.tail.headD []) LWs 0),.int .i64 0],(jez ws).2.tail.tail,
   ((b||(jdc ((jez ws).2.headD [])).2)||(jez ws).2.tail.isEmpty)||decide (jk9 ((jez ws).2.tail.headD []) LWs 0<1))
section
variable {F:Fns} {h h0 h':Hp} {t:Nat} {ws ws':List (List UInt8)} {v v':AV} {cs:List SV} {b b':Bool}
structure TpS (h0 h:Hp) (t:Nat) (ws:List (List UInt8)) (b:Bool) (cs:List SV):Prop where
 k:Tak h t ws b
 n:h.next=h0.next+2
 g0:h.get h0.next=some (.arr Za 80)
 g1:h.get (h0.next+1)=some (.arr cs 80)
 m:Mv h0 h [t] [t]
 t0:t<h0.next
theorem TpS.put (s:TpS h0 h t ws b cs) (cs':List SV):∃ h',h.put (h0.next+1) (some (.arr cs' 80))=h'/\TpS h0 h' t ws b cs':=by
 have p:=s.k.p
 have t0:=s.t0
 obtain⟨hA,eA,okA,nA,xA,gA⟩:=jxx s.k.ok (b:=h0.next+1) oa (some (.arr cs' 80))
 exact⟨hA,eA,s.k.keep okA (gA t oa) oa,by have:=s.n;omega,(gA _ oa).trans s.g0,xA,⟨okA,by have:=s.n;omega,fun n hn=>.inl hn,fun n h1 h2=>(gA n oa).trans (s.m.keep n h1 h2)⟩,t0⟩
theorem TpS.nxt (s:TpS h0 h t ws b cs) (k':Tak h' t ws' b') (n':h'.next=h.next) (m:Mv h h' [t] [t]):TpS h0 h' t ws' b' cs:=by
 have t0:=s.t0
 have n:=s.n
 exact⟨k',oa,(m.keep _ oa (by simp;omega)).trans s.g0,(m.keep _ oa (by simp;omega)).trans s.g1,s.m.trans m,t0⟩
theorem qce:eqN (.s (wsV LWs)) (.s (wsV LWs))=true:=ka
def qu7 (h:Hp) (t:Nat) (r:List SV×List (List UInt8)×Bool):AV->Hp->Prop:=fun v h'=>v=.agg r.1/\Tak h' t r.2.1 r.2.2/\Mv h h' [t] [t]
theorem qo0 (f:TkF F) {kd:Int} (k:Tak h t ws b):WC (BX noB qoz F) 56 [.s (.ptr t 0),vi kd] h (qu7 h t (jx0 kd ws b)):=by
 refine qfq (q:=qoz) rfl ?_
 show WB F noB jub (.mk ([.s (.ptr t 0),vi kd]++jdq 5) h) (jqh [(.cell 2 5 true)] _)
 have ok:=k.ok
 have p:=k.p
 obtain⟨hA,eA,okA,nA,xA,gA⟩:=jdw ok Za 80
 obtain⟨hB,eB,okB,nB,xB,gB⟩:=jby okA Za [.int .i64 kd,.int .i64 0,.bool false,.int .i64 0,.int .i64 0] 80
 rw[nA] at eB nB xB gB
 have sB:TpS h hB t ws b [.int .i64 kd,.int .i64 0,.bool false,.int .i64 0,.int .i64 0]:=⟨k.keep okB ((gB t oa).trans (gA t oa)) oa,oa,(gB _ oa).trans xA,xB,⟨okB,oa,fun n hn=>.inl hn,fun n h1 _=>(gB n oa).trans (gA n oa)⟩,p.2⟩
 unfold jub
 refine jey ?_
 unfold j21
 simp(disch:=go_num) only[go_sem,eA,jab]
 refine jey ?_
 unfold j22
 simp(disch:=go_num) only[go_sem,eB,nA,jab]
 have g:=sB.k.g
 refine juy (jey ?_)
 unfold j23
 have last:∀ {hC:Hp} {x3 x4 x6:AV},TpS h hC t (jez ws).2 b [.int .i64 kd,.int .i64 0,.bool (jez ws).1,.int .i64 0,.int .i64 0] ->
  WB F noB (.seq (.c jt6) (.seq (.flo jt7) jnq)) (.mk [.s (.ptr t 0),vi kd,.s (.ptr h.next 0),x3,x4,.s (.ptr (h.next+1) 0),x6] hC) (jqh [(.cell 2 5 true)] (qu7 h t (jx0 kd ws b))):=by
  intro hC x3 x4 x6 sC
  unfold jx0
  obtain⟨⟨lt,w1⟩,el⟩:∃ z,jez ws=z:=⟨_,rfl⟩
  rw[el] at sC ⊢
  replace sC:TpS h hC t w1 b [.int .i64 kd,.int .i64 0,.bool lt,.int .i64 0,.int .i64 0]:=sC
  refine jey ?_
  unfold jt6
  simp(disch:=go_num) only[go_sem]
  refine WC.imp (jga f sC.k) ?_
  rintro _ hD ⟨rfl,kD,nD,mD⟩
  obtain⟨⟨v1,o1⟩,e1⟩:∃ z,jdc (w1.headD [])=z:=⟨_,rfl⟩
  rw[e1] at kD ⊢
  replace kD:Tak hD t w1.tail (b||o1):=kD
  have sD:=sC.nxt kD nD mD
  obtain⟨hE,eE,sE⟩:=sD.put [.int .i64 kd,.int .i64 v1,.bool lt,.int .i64 0,.int .i64 0]
  have g1:=sD.g1
  have okD:=kD.ok
  simp(disch:=go_num) only[go_sem,g1,eE,jab]
  refine juy (WB.flo ?_)
  unfold jt7
  refine WL.ld (v:=.s (wsV LWs)) (h':=hE) rfl rfl se qce ?_
  refine WL.pure (v:=.s (.ptr t 0)) (by simp only[go_sem]) ?_
  refine WL.call (vs:=[.s (.ptr t 0)]) (by simp only[go_sem]) ?_
  refine WC.imp (jqe f sE.k) ?_
  rintro _ hF ⟨rfl,kF,nF,mF⟩
  have sF:=sE.nxt kF nF mF
  refine⟨fun j hj=>by simp at hj;subst hj;exact⟨_,rfl,jf2,jg8 (h2:=hF) rfl,qce⟩,?_⟩
  refine WL.call (vs:=[.s (wsV LWs),.s (.str (w1.tail.headD []))]) (by simp only[go_sem]) ?_
  obtain⟨l,e2⟩:∃ l,jk9 (w1.tail.headD []) LWs 0=l:=⟨_,rfl⟩
  refine qcd f (by decide) e2 ?_
  rw[e2]
  refine⟨fun j hj=>by simp at hj,?_⟩
  refine WL.pure (v:=.s (.ptr (h.next+1) 3)) (by simp only[go_sem]) ?_
  obtain⟨hG,eG,sG⟩:=sF.put [.int .i64 kd,.int .i64 v1,.bool lt,.int .i64 l,.int .i64 0]
  have g2:=sF.g1
  have okF:=kF.ok
  refine WL.mem (v:=.undef) (h':=hG) rfl rfl (by simp(disch:=go_num) only[go_sem,g2,eG]) (fun j hj=>by simp at hj) ?_
  refine WL.nil ?_
  show WB F noB jnq _ _
  unfold jnq
  have g3:=sG.g1
  have okG:=sG.k.ok
  have fin:∀ {hH:Hp} {x3 x4 x6:AV} {r:List SV×List (List UInt8)×Bool},(∃ n:Int,r.1=[.int .i64 kd,.int .i64 v1,.bool lt,.int .i64 l,.int .i64 n])->TpS h hH t r.2.1 r.2.2 r.1->WB F noB (.seq (.c jkt) (.c jku)) (.mk [.s (.ptr t 0),vi kd,.s (.ptr h.next 0),x3,x4,.s (.ptr (h.next+1) 0),x6] hH) (jqh [(.cell 2 5 true)] (qu7 h t r)):=by
   rintro hH x3 x4 x6 ⟨r1,r2,r3⟩ ⟨n,rfl⟩ sH
   have g4:=sH.g1
   have g5:=sH.g0
   have okH:=sH.k.ok
   have pp:=ok.pos
   obtain⟨hI,eI,okI,nI,xI,gI⟩:=jxx okH (b:=h.next) pp (some (.arr [.int .i64 kd,.int .i64 v1,.bool lt,.int .i64 l,.int .i64 n] 80))
   refine jey ?_
   unfold jkt
   simp(disch:=go_num) only[go_sem,g4,g5,eI,jab]
   refine jft ?_
   unfold jku
   simp(disch:=go_num) only[go_sem,xI]
   exact⟨rfl,sH.k.keep okI (gI t (by have:=sH.t0;omega)) oa,⟨okI,by have:=sH.n;omega,fun n hn=>.inl hn,fun n h1 h2=>(gI n oa).trans (sH.m.keep n h1 h2)⟩⟩
  have mid:∀ {hH:Hp} {x3 x4 x6:AV} {b4:Bool},TpS h hH t w1.tail.tail b4 [.int .i64 kd,.int .i64 v1,.bool lt,.int .i64 l,.int .i64 0]->WB F noB (.seq (.seq (.c jua) (.c jnp)) (.seq (.c jkt) (.c jku))) (.mk [.s (.ptr t 0),vi kd,.s (.ptr h.next 0),x3,x4,.s (.ptr (h.next+1) 0),x6] hH)
   (jqh [(.cell 2 5 true)] (qu7 h t (if 4<=l then ([.int .i64 kd,.int .i64 v1,.bool lt,.int .i64 l,.int .i64 (jdc (w1.tail.tail.headD [])).1],w1.tail.tail.tail,b4||(jdc (w1.tail.tail.headD [])).2) else ([.int .i64 kd,.int .i64 v1,.bool lt,.int .i64 l,.int .i64 0],w1.tail.tail,b4)))):=by
   intro hH x3 x4 x6 b4 sH
   have g3:=sH.g1
   refine juy (jey ?_)
   unfold jua
   by_cases h4:4<=l
   .rw [if_pos h4]
    have c2:((4:Int)<=l)=True:=eq_true h4
    simp(disch:=go_num) only[go_sem,g3,c2,jab]
    refine jft ?_
    unfold jnp
    simp(disch:=go_num) only[go_sem]
    refine WC.imp (jga f sH.k) ?_
    rintro _ hJ ⟨rfl,kJ,nJ,mJ⟩
    have sJ:=sH.nxt kJ nJ mJ
    have okJ:=kJ.ok
    obtain⟨hI,eI,sI⟩:=sJ.put [.int .i64 kd,.int .i64 v1,.bool lt,.int .i64 l,.int .i64 (jdc (w1.tail.tail.headD [])).1]
    have g6:=sJ.g1
    simp(disch:=go_num) only[go_sem,g6,eI,jab]
    exact fin ⟨_,rfl⟩ sI
   .rw [if_neg h4]
    have c2:((4:Int)<=l)=False:=eq_false h4
    simp(disch:=go_num) only[go_sem,g3,c2,jab]
    refine jft ?_
    unfold jnp
    simp(disch:=go_num) only[go_sem,jab]
    exact fin ⟨_,rfl⟩ sH
  by_cases h1:l<1
  .have c1:(l<1)=True:=eq_true h1
   refine juy (jey ?_)
   unfold jt8
   simp(disch:=go_num) only[go_sem,g3,c1,jab]
   refine jft ?_
   unfold jt9
   obtain⟨hH,eH,kH,nH,mH⟩:=sG.k.put (ws':=w1.tail.tail) (b':=true) sG.k.wk sG.k.n
   have g5:=sG.k.g
   simp(disch:=go_num) only[go_sem,g5,eH,jab]
   rw[Bool.or_true]
   exact mid (sG.nxt kH nH mH)
  .have c1:(l<1)=False:=eq_false h1
   refine juy (jey ?_)
   unfold jt8
   simp(disch:=go_num) only[go_sem,g3,c1,jab]
   refine jft ?_
   unfold jt9
   simp(disch:=go_num) only[go_sem,jab]
   rw[Bool.or_false]
   exact mid sG
 cases ws with
 | nil =>
  have c1:((0:Int)<(([]:List (List UInt8)).length:Int))=False:=se
  simp(disch:=go_num) only[go_sem,g,jhd,c1,jab]
  refine jft ?_
  unfold jno
  simp(disch:=go_num) only[go_sem,jab]
  exact last sB
 | cons w r =>
  have c1:((0:Int)<((w::r).length:Int))=True:=eq_true (by rw[f0i];omega)
  cases el:(w == jqz) with
  | true =>
   have eL:jez (w::r)=(true,r):=by show(if (w == jqz)=true then (true,r) else (false,w::r))=_;rw[if_pos el]
   rw[eL] at last
   have c2:eqO false (some (.s (.str w))) (some (.s (.str [108,97,116,101])))=some (.s (.bool true)):=by rw[jhb];exact congrArg (fun b=>some (AV.s (.bool b))) el
   simp(disch:=go_num) only[go_sem,g,jhd,c1,qcc,jhc,c2,jab]
   refine jft ?_
   unfold jno
   obtain⟨hC,eC,sC⟩:=sB.put [.int .i64 kd,.int .i64 0,.bool true,.int .i64 0,.int .i64 0]
   have g1:=sB.g1
   simp(disch:=go_num) only[go_sem,g1,eC]
   refine WC.imp (jqe f sC.k) ?_
   rintro _ hD ⟨rfl,kD,nD,mD⟩
   have sD:=sC.nxt kD nD mD
   simp(disch:=go_num) only[go_sem,jab]
   exact last (by simpa using sD)
  | false =>
   have eL:jez (w::r)=(false,w::r):=by show(if (w == jqz)=true then (true,r) else (false,w::r))=_;rw[if_neg (by rw[el];simp)]
   rw[eL] at last
   have c2:eqO false (some (.s (.str w))) (some (.s (.str [108,97,116,101])))=some (.s (.bool false)):=by rw[jhb];exact congrArg (fun b=>some (AV.s (.bool b))) el
   simp(disch:=go_num) only[go_sem,g,jhd,c1,qcc,jhc,c2,jab]
   refine jft ?_
   unfold jno
   simp(disch:=go_num) only[go_sem,jab]
   exact last sB
end
def qu8:FB1:=⟨36,jui,1,7,[(.cell 1 3 true)]⟩
theorem TkF.up {F:Fns} {q:FB1} (f:TkF F) (h1:Tf q.f=false) (h2:∀ vs h,jqt q.f vs h=none):TkF (BX noB q F):=by
 refine⟨fun g hg vs h=>?_,f.t,fun g vs h r hr=>?_⟩
 .refine (jg7 ?_).trans (f.x g hg vs h)
  grind[f0k]
 .refine (jg7 ?_).trans (f.lib g vs h r hr)
  grind[f0k]
def EV (row a:List SV) (ns:List Nat):Prop:=row=a/\ns=[]
theorem qcf (ws:List (List UInt8)):(jez ws).2.length<=ws.length:=by
 cases ws with
 | nil=>decide
 | cons w r=>show(if (w == jqz)=true then (true,r) else (false,w::r)).2.length<=_;grind
theorem qg1 (k:Int) (ws:List (List UInt8)) (b:Bool):(jx0 k ws b).2.1.length<=ws.length:=by
 have:=qcf ws
 unfold jx0;grind
theorem qg2 (k:Int) (ws:List (List UInt8)) (b:Bool):(jx0 k ws b).1.length=5:=by unfold jx0;split<;>rfl
def jr1:Nat->List (List SV)->List (List SV)->List (List UInt8)->Bool->List (List SV)×List (List SV)×List (List UInt8)×Bool
 | 0,os,rs,ws,b=>(os,rs,ws,b)
 | _+1,os,rs,[],b=>(os,rs,[],b)
 | _+1,os,rs,w::r,true=>(os,rs,w::r,true)
 | n+1,os,rs,w::r,false =>
  if 0<jk9 w KWs 0/\rs.length=0 then jr1 n (os++[(jx0 (jk9 w KWs 0) r false).1]) rs (jx0 (jk9 w KWs 0) r false).2.1 (jx0 (jk9 w KWs 0) r false).2.2
  else if (w == jeq)=true then jr1 n os (rs++[[.int .i64 (jdc (r.headD [])).1,.int .i64 (jdc (r.tail.headD [])).1]]) r.tail.tail ((jdc (r.headD [])).2||(jdc (r.tail.headD [])).2)
  else jr1 n os rs r true
section
variable {F:Fns} {h h0 h':Hp} {t:Nat} {op:Int} {fl fl':Bool} {ws ws':List (List UInt8)} {os:List (List SV)} {rs:List (List SV)} {a b:SV} {n1 n2:List Nat} {Q:Ex->St->Prop}
structure TiS (h0 h:Hp) (t:Nat) (ws:List (List UInt8)) (fl:Bool) (op:Int) (os:List (List SV)) (rs:List (List SV)) (a b:SV) (n1 n2:List Nat):Prop where
 k:Tak h t ws fl
 g0:h.get h0.next=some (.arr Zg 62)
 g1:h.get (h0.next+1)=some (.arr [.int .i64 op,a,b] 62)
 s1:Sl h 80 5 false EV a os n1
 s2:Sl h 83 2 false EV b rs n2
 nd:(n1++n2).Nodup
 lo:∀ n∈n1++n2,h0.next+2<=n/\n<h.next
 m:Mv h0 h [t] [t]
 t0:t<h0.next
 nx:h0.next+2<=h.next
theorem TiS.nxt (s:TiS h0 h t ws fl op os rs a b n1 n2) (k':Tak h' t ws' fl') (m:Mv h h' [t] [t]):TiS h0 h' t ws' fl' op os rs a b n1 n2:=by
 have t0:=s.t0
 have nx:=s.nx
 have nx2:=m.nx
 have kp :=fun n hn=>m.keep n (s.lo n hn).2 (by have:=(s.lo n hn).1;grind)
 exact⟨k',(m.keep _ oa (by grind)).trans s.g0,(m.keep _ oa (by grind)).trans s.g1,s.s1.keep fun n hn=>kp n (by grind),s.s2.keep fun n hn=>kp n (by grind),s.nd,fun n hn=>by have:=s.lo n hn;omega,s.m.trans m,t0,oa⟩
theorem TiS.put {os':List (List SV)} {rs':List (List SV)} {a' b':SV} {n1' n2':List Nat} (s:TiS h0 h t ws fl op os rs a b n1 n2) (ok4:Ok h4) (nx4:h.next<=h4.next) (kp:∀ n,n<h.next->n∉n1++n2->h4.get n=h.get n)
 (s1:Sl h4 80 5 false EV a' os' n1') (s2:Sl h4 83 2 false EV b' rs' n2') (nd:(n1'++n2').Nodup) (lo:∀ n∈n1'++n2',(n∈n1++n2∨h.next<=n)/\n<h4.next) :
 h4.get (h0.next+1)=some (.arr [.int .i64 op,a,b] 62)/\∃ h5,h4.put (h0.next+1) (some (.arr [.int .i64 op,a',b'] 62))=h5/\TiS h0 h5 t ws fl op os' rs' a' b' n1' n2':=by
 have t0:=s.t0
 have nx:=s.nx
 have no:∀ n,n<h0.next+2->n∉n1++n2:=fun n hn hc=>by have:=s.lo n hc;omega
 obtain⟨h5,e5,ok5,n5,x5,g5⟩:=jxx ok4 (b:=h0.next+1) oa (some (.arr [.int .i64 op,a',b'] 62))
 have lo':∀ n∈n1'++n2',h0.next+2<=n/\n<h4.next:=fun n hn=>by
  grind
 refine⟨(kp _ oa (no _ oa)).trans s.g1,h5,e5,s.k.keep ok5 ((g5 t oa).trans (kp t oa (no t oa))) oa,?_,x5,s1.keep (fun n hn=>g5 n (by grind)),s2.keep (fun n hn=>g5 n (by have:=lo' n (by simp[hn]);omega)),nd,fun n hn=>by have:=lo' n hn;omega,⟨ok5,by have:=s.m.nx;omega,fun n hn=>.inl hn,fun n h1 h2=>?_⟩,t0,oa⟩
 .exact (g5 _ oa).trans ((kp _ oa (no _ oa)).trans s.g0)
 .exact (g5 n oa).trans ((kp n oa (no n oa)).trans (s.m.keep n h1 h2))
theorem TiS.opa (s:TiS h0 h t ws fl op os rs a b n1 n2) (o:List SV) (ho:o.length=5) (hl:os.length<=1000000) :
 ∃ h4 h5,jmr (h.push (.arr o 80)) 80 5 40 (.s a) (.s (.slice h.next 0 1 1 true 5))=some (.s (.slice (h.next+1) 0 (os.length+1) (os.length+1) false 5),h4)/\Ok h4/\h4.get (h0.next+1)=some (.arr [.int .i64 op,a,b] 62) /\
  h4.put (h0.next+1) (some (.arr [.int .i64 op,.slice (h.next+1) 0 (os.length+1) (os.length+1) false 5,b] 62))=h5/\TiS h0 h5 t ws fl op (os++[o]) rs (.slice (h.next+1) 0 (os.length+1) (os.length+1) false 5) b ((h.next+1)::(n1.tail++[])) n2:=by
 have nx:=s.nx
 obtain⟨h4,e4,ok4,nx4,kp4,kt4,sl4⟩:=s.s1.app1 (bytes:=40) (row:=o) (a:=o) (ms:=[]) s.k.ok (fun n hn=>by have:=s.lo n (by grind);omega) ho ⟨rfl,rfl⟩ oa oa
 have sl5:=sl4 (E':=EV) (fun _ _ _ _ h=>h)
 obtain⟨d1,d2,d3⟩:=f0m.1 s.nd
 have k2:∀ n∈n2,h4.get n=h.get n:=fun n hn=>kp4 n (s.lo n (by simp[hn])).2 (fun hc=>d3 n hc n hn rfl)
 obtain⟨g1,h5,e5,s5⟩:=s.put ok4 oa (fun n hn hc=>kp4 n hn (fun h1=>hc (by simp[h1]))) sl5 (s.s2.keep k2) (jcd (A:=[]) (B:=n2) (ns:=n1) (N:=h.next) s.nd (fun n hn=>(s.lo n (by simpa using hn)).2) (jcr d1 .nil se (fun hc=>by have:=s.lo _ (f08 n2 hc);omega) se) (fun n hn=>by
  rcases f0f.1 hn with rfl | hn
  .exact .inr oa
  .exact .inl (f0j (by simpa using hn)))) (fun n hn=>by
  rcases f0e.1 hn with hn | hn
  .rcases f0f.1 hn with rfl | hn
   .exact ⟨.inr oa,oa⟩
   .have h1:=f0j (l:=n1) (by simpa using hn)
    have:=s.lo n (by simp[h1])
    exact⟨.inl (by simp[h1]),oa⟩
  .have:=s.lo n (by simp[hn])
   exact⟨.inl (by simp[hn]),oa⟩)
 grind
theorem TiS.sp (s:TiS h0 h t ws fl op os rs a b n1 n2) (r:List SV) (hr:r.length=2) (hl:rs.length<=1000000) :
 ∃ h4 h5,jmr (h.push (.arr r 83)) 83 2 16 (.s b) (.s (.slice h.next 0 1 1 true 2))=some (.s (.slice (h.next+1) 0 (rs.length+1) (rs.length+1) false 2),h4)/\Ok h4/\h4.get (h0.next+1)=some (.arr [.int .i64 op,a,b] 62) /\
  h4.put (h0.next+1) (some (.arr [.int .i64 op,a,.slice (h.next+1) 0 (rs.length+1) (rs.length+1) false 2] 62))=h5/\TiS h0 h5 t ws fl op os (rs++[r]) a (.slice (h.next+1) 0 (rs.length+1) (rs.length+1) false 2) n1 ((h.next+1)::(n2.tail++[])):=by
 have nx:=s.nx
 obtain⟨h4,e4,ok4,nx4,kp4,kt4,sl4⟩:=s.s2.app1 (bytes:=16) (row:=r) (a:=r) (ms:=[]) s.k.ok (fun n hn=>by have:=s.lo n (by simp[hn]);omega) hr ⟨rfl,rfl⟩ oa oa
 have sl5:=sl4 (E':=EV) (fun _ _ _ _ h=>h)
 obtain⟨d1,d2,d3⟩:=f0m.1 s.nd
 have k1:∀ n∈n1,h4.get n=h.get n:=fun n hn=>kp4 n (s.lo n (by simp[hn])).2 (fun hc=>d3 n hn n hc rfl)
 have nd:=jcd (A:=n1) (B:=[]) (ns:=n2) (ns':=(h.next+1)::(n2.tail++[])) (N:=h.next) (by simpa using s.nd) (fun n hn=>(s.lo n (by simpa using hn)).2) (jcr d2 .nil se (fun hc=>by have:=s.lo _ (f04 n1 hc);omega) se) (fun n hn=>by
  rcases f0f.1 hn with rfl | hn
  .exact .inr oa
  .exact .inl (f0j (by simpa using hn)))
 obtain⟨g1,h5,e5,s5⟩:=s.put ok4 oa (fun n hn hc=>kp4 n hn (fun h1=>hc (by simp[h1]))) (s.s1.keep k1) sl5 (by simpa using nd) (fun n hn=>by
  rcases f0e.1 hn with hn | hn
  .have:=s.lo n (by simp[hn])
   exact⟨.inl (by simp[hn]),oa⟩
  .rcases f0f.1 hn with rfl | hn
   .exact ⟨.inr oa,oa⟩
   .have h1:=f0j (l:=n2) (by simpa using hn)
    have:=s.lo n (by simp[h1])
    exact⟨.inl (by simp[h1]),oa⟩)
 grind
theorem qtu {st fr:List AV}:jd8 st fr h (.slicea 3 1 (.c (.s (.cp [.str [],.str [117,115,101],.str [100,101,102]]))))=some (.s (wsV KWs),h):=rfl
theorem qtv (f:TkF F) {F':Fns} (eF:F'=BX noB qoz F) :
 ∀ (n:Nat) (os rs:List (List SV)) (ws:List (List UInt8)) (fl:Bool) (_:ws.length<=n) (_:os.length+rs.length+ws.length<=200000) {hi:Hp} {a b:SV} {n1 n2:List Nat} (_:TiS h0 hi t ws fl op os rs a b n1 n2) {x2 x3 x5 x6 x7:AV}
  (hQ:∀ hj a b n1 n2 x2 x3 x5 x6 x7,TiS h0 hj t (jr1 n os rs ws fl).2.2.1 (jr1 n os rs ws fl).2.2.2 op (jr1 n os rs ws fl).1 (jr1 n os rs ws fl).2.1 a b n1 n2->Q (.exit 0) (.mk [.s (.ptr t 0),.s (.ptr h0.next 0),x2,x3,.s (.ptr (h0.next+1) 0),x5,x6,x7] hj)),
  WB F' noB (.loop jns) (.mk [.s (.ptr t 0),.s (.ptr h0.next 0),x2,x3,.s (.ptr (h0.next+1) 0),x5,x6,x7] hi) Q:=by
 intro n
 have f':TkF F':=by rw[eF];exact f.up rfl (fun _ _=>rfl)
 have done:∀ {os rs:List (List SV)} {fl:Bool} {hi:Hp} {a b:SV} {n1 n2:List Nat} (_:TiS h0 hi t [] fl op os rs a b n1 n2) {x2 x3 x5 x6 x7:AV}
  (hQ:∀ hj a b n1 n2 x2 x3 x5 x6 x7,TiS h0 hj t [] fl op os rs a b n1 n2->Q (.exit 0) (.mk [.s (.ptr t 0),.s (.ptr h0.next 0),x2,x3,.s (.ptr (h0.next+1) 0),x5,x6,x7] hj)),
  WB F' noB (.loop jns) (.mk [.s (.ptr t 0),.s (.ptr h0.next 0),x2,x3,.s (.ptr (h0.next+1) 0),x5,x6,x7] hi) Q:=by
  intro os rs fl hi a b n1 n2 s x2 x3 x5 x6 x7 hQ
  have g:=s.k.g
  have c1:((0:Int)<(([]:List (List UInt8)).length:Int))=False:=se
  refine qu6 (juy (jey ?_))
  unfold juc
  simp(disch:=go_num) only[go_sem,g,jhd,c1,jab]
  refine jft ?_
  unfold jnr
  simp(disch:=go_num) only[go_sem,jl6,jl7]
  exact hQ _ _ _ _ _ _ _ _ _ _ s
 induction n with
 | zero =>
  intro os rs ws fl hw hl hi a b n1 n2 s x2 x3 x5 x6 x7 hQ
  obtain rfl:ws=[]:=f1i oa
  exact done s hQ
 | succ n ih =>
  intro os rs ws fl hw hl hi a b n1 n2 s x2 x3 x5 x6 x7 hQ
  cases ws with
  | nil=>exact done s hQ
  | cons w r =>
   have g:=s.k.g
   have g1:=s.g1
   have ok:=s.k.ok
   have lb:=s.s2.len
   rw[f0i] at hw hl
   have c1:((0:Int)<((w::r).length:Int))=True:=eq_true (by rw[f0i];omega)
   refine qu6 (juy (jey ?_))
   unfold juc
   simp(disch:=go_num) only[go_sem,g,jhd,c1,jab]
   cases fl with
   | true =>
    refine jft ?_
    unfold jnr
    simp(disch:=go_num) only[go_sem,jl6,jl7]
    exact hQ _ _ _ _ _ _ _ _ _ _ s
   | false =>
    refine jft ?_
    unfold jnr
    simp(disch:=go_num) only[go_sem,jab]
    refine WB.block (jey ?_)
    unfold j26
    simp(disch:=go_num) only[go_sem]
    refine WC.imp (jqe f' s.k) ?_
    rintro _ h1 ⟨rfl,k1,n1',m1⟩
    have s1:TiS h0 h1 t r false op os rs a b n1 n2:=s.nxt (by simpa using k1) m1
    have g2:=s1.g1
    have ok1:=s1.k.ok
    simp(disch:=go_num) only[go_sem,jab]
    refine jey ?_
    unfold j27
    simp(disch:=go_num) only[go_sem,qtu]
    obtain⟨kd,ek⟩:∃ kd,jk9 ((w::r).headD []) KWs 0=kd:=⟨_,rfl⟩
    have ek':jk9 w KWs 0=kd:=ek
    refine qcd f' (by decide) ek ?_
    simp(disch:=go_num) only[go_sem,jab]
    refine WB.block (jey ?_)
    unfold j28
    have neg:¬ (0<kd/\rs.length=0)->∀ x3,WB F' noB jug (.mk [.s (.ptr t 0),.s (.ptr h0.next 0),x2,x3,.s (.ptr (h0.next+1) 0),vi kd,.s (.str w),.s (.bool true)] h1) (qdv 2 (qdv 1 (qgt F' noB jns Q))):=by
     intro hne x3
     have eS:jr1 (n+1) os rs (w::r) false=if (w == jeq)=true then jr1 n os (rs++[[.int .i64 (jdc (r.headD [])).1,.int .i64 (jdc (r.tail.headD [])).1]]) r.tail.tail ((jdc (r.headD [])).2||(jdc (r.tail.headD [])).2) else jr1 n os rs r true:=by
      show(if 0<jk9 w KWs 0/\rs.length=0 then _ else _)=_
      rw[ek',if_neg hne]
     rw[eS] at hQ
     have e8:eqO false (some (.s (.str w))) (some (.s (.str [115,112,111,105,108,115])))=some (.s (.bool (w == jeq))):=jhb
     unfold jug
     refine jey ?_
     unfold j3a
     simp(disch:=go_num) only[go_sem,jhc,e8,jab]
     cases ew:(w == jeq) with
     | true =>
      rw[if_pos ew] at hQ
      refine j57 (t:=true) rfl ?_
      show WB F' noB jue _ _
      unfold jue
      refine WB.flo ?_
      unfold j3b
      refine WL.pure (v:=.s (.ptr (h0.next+1) 2)) (by simp only[go_sem]) ?_
      refine WL.ld (v:=.s b) (h':=h1) rfl (by simp only[go_sem,g2]) se s1.s2.eqN ?_
      refine WL.pure (v:=.s (.ptr t 0)) (by simp only[go_sem]) ?_
      refine WL.call (vs:=[.s (.ptr t 0)]) (by simp only[go_sem]) ?_
      refine WC.imp (jga f' s1.k) ?_
      rintro _ h2 ⟨rfl,k2,n2',m2⟩
      have s2:=s1.nxt k2 m2
      have g3:=s2.g1
      refine⟨fun j hj=>by simp at hj;subst hj;exact⟨_,rfl,jf2,jg8 (h2:=h2) (by simp only[go_sem,g3]),s1.s2.eqN⟩,?_⟩
      refine WL.pure (v:=.s (.ptr t 0)) (by simp only[go_sem]) ?_
      refine WL.call (vs:=[.s (.ptr t 0)]) (by simp only[go_sem]) ?_
      refine WC.imp (jga f' s2.k) ?_
      rintro _ h3 ⟨rfl,k3,n3',m3⟩
      have s3:=s2.nxt k3 m3
      have g4:=s3.g1
      have ok3:=s3.k.ok
      rw[f18] at s3
      refine⟨fun j hj=>by simp at hj;subst hj;exact⟨_,rfl,jf2,jg8 (h2:=h3) (by simp only[go_sem,g4]),s1.s2.eqN⟩,?_⟩
      refine WL.pure (v:=.agg [.int .i64 (jdc (r.headD [])).1,.int .i64 (jdc (r.tail.headD [])).1]) (by simp only[go_sem]) ?_
      obtain⟨h4,h5,e4,ok4,g5,e5,s5⟩:=s3.sp [.int .i64 (jdc (r.headD [])).1,.int .i64 (jdc (r.tail.headD [])).1] rfl oa
      have p4:(h3.push (AB.arr [.int .i64 (jdc (r.headD [])).1,.int .i64 (jdc (r.tail.headD [])).1] 83)).get (h0.next+1)=h3.get (h0.next+1):=by
       have:=s3.nx
       rw[ja3 ok3,if_neg oa]
      rw[g4] at p4
      refine WL.mem (v:=.s (.slice h3.next 0 1 1 true 2)) (h':=h3.push (AB.arr [.int .i64 (jdc (r.headD [])).1,.int .i64 (jdc (r.tail.headD [])).1] 83)) rfl rfl (by simp(disch:=go_num) only[go_sem]) (fun j hj'=>by simp at hj';subst hj';exact⟨_,rfl,jf2,jg8 (h2:=h3.push (AB.arr [.int .i64 (jdc (r.headD [])).1,.int .i64 (jdc (r.tail.headD [])).1] 83)) (by simp only[go_sem,p4]),s1.s2.eqN⟩) ?_
      refine WL.mem (v:=.s (.slice (h3.next+1) 0 (rs.length+1) (rs.length+1) false 2)) (h':=h4) rfl rfl (by simp only[go_sem];exact e4) (fun j hj=>by simp at hj) ?_
      refine WL.pure (v:=.s (.ptr (h0.next+1) 2)) (by simp only[go_sem]) ?_
      refine WL.mem (v:=.undef) (h':=h5) rfl rfl (by simp(disch:=go_num) only[go_sem,g5,e5]) (fun j hj=>by simp at hj) ?_
      refine WL.nil ?_
      simp only[jdj,jf6]
      exact ih os _ _ _ (by simp only[List.length_tail];omega) (by simp only[List.length_tail,f0d,f0i,f00];omega) s5 hQ
     | false =>
      rw[if_neg (by simp[ew])] at hQ
      refine j57 (t:=false) rfl ?_
      show WB F' noB juf _ _
      unfold juf
      refine jft ?_
      unfold j3c
      obtain⟨hH,eH,kH,nH,mH⟩:=s1.k.put (ws':=r) (b':=true) s1.k.wk s1.k.n
      have g5:=s1.k.g
      simp(disch:=go_num) only[go_sem,g5,eH,jdj,jf6]
      exact ih os rs r true oa oa (s1.nxt kH mH) hQ
    by_cases h0k:0<kd
    .have c2:((0:Int)<kd)=True:=eq_true h0k
     by_cases hr0:rs.length=0
     .have c3:((rs.length:Int)=0)=True:=eq_true oa
      simp(disch:=go_num) only[go_sem,c2,g2,lb,c3,jab]
      have eS:jr1 (n+1) os rs (w::r) false=jr1 n (os++[(jx0 kd r false).1]) rs (jx0 kd r false).2.1 (jx0 kd r false).2.2:=by
       show(if 0<jk9 w KWs 0/\rs.length=0 then _ else _)=_
       rw[ek',if_pos ⟨h0k,hr0⟩]
      rw[eS] at hQ
      refine j57 (t:=true) rfl ?_
      show WB F' noB jud _ _
      unfold jud
      refine WB.flo ?_
      unfold j29
      refine WL.pure (v:=.s (.ptr (h0.next+1) 1)) (by simp only[go_sem]) ?_
      refine WL.ld (v:=.s a) (h':=h1) rfl (by simp only[go_sem,g2]) se s1.s1.eqN ?_
      refine WL.pure (v:=.s (.ptr t 0)) (by simp only[go_sem]) ?_
      refine WL.pure (v:=vi kd) (by simp only[go_sem]) ?_
      refine WL.call (vs:=[.s (.ptr t 0),vi kd]) (by simp only[go_sem]) ?_
      refine WC.imp (by rw[eF];exact qo0 f s1.k) ?_
      rintro _ h2 ⟨rfl,k2,m2⟩
      obtain⟨⟨o,w2,fl2⟩,eo⟩:∃ z,jx0 kd r false=z:=⟨_,rfl⟩
      have lo:=qg1 kd r false
      have ro:=qg2 kd r false
      rw[eo] at hQ k2 lo ro ⊢
      replace k2:Tak h2 t w2 fl2:=k2
      replace lo:w2.length<=r.length:=lo
      replace ro:o.length=5:=ro
      have s2:=s1.nxt k2 m2
      have g3:=s2.g1
      have ok2:=s2.k.ok
      refine⟨fun j hj=>by simp at hj;subst hj;exact⟨_,rfl,jf2,jg8 (h2:=h2) (by simp only[go_sem,g3]),s1.s1.eqN⟩,?_⟩
      obtain⟨h4,h5,e4,ok4,g5,e5,s5⟩:=s2.opa o ro oa
      have p4:(h2.push (AB.arr o 80)).get (h0.next+1)=h2.get (h0.next+1):=by
       have:=s2.nx
       rw[ja3 ok2,if_neg oa]
      rw[g3] at p4
      obtain⟨o1,o2,o3,o4,o5,rfl⟩:∃ o1 o2 o3 o4 o5,o=[o1,o2,o3,o4,o5]:=by
       match o,ro with
       | [o1,o2,o3,o4,o5],_=>exact⟨o1,o2,o3,o4,o5,rfl⟩
      refine WL.mem (v:=.s (.slice h2.next 0 1 1 true 5)) (h':=h2.push (AB.arr [o1,o2,o3,o4,o5] 80)) rfl rfl (by simp(disch:=go_num) only[go_sem]) (fun j hj'=>by simp at hj';subst hj';exact⟨_,rfl,jf2,jg8 (h2:=h2.push (AB.arr [o1,o2,o3,o4,o5] 80)) (by simp only[go_sem,p4]),s1.s1.eqN⟩) ?_
      refine WL.mem (v:=.s (.slice (h2.next+1) 0 (os.length+1) (os.length+1) false 5)) (h':=h4) rfl rfl (by simp only[go_sem];exact e4) (fun j hj=>by simp at hj) ?_
      refine WL.pure (v:=.s (.ptr (h0.next+1) 1)) (by simp only[go_sem]) ?_
      refine WL.mem (v:=.undef) (h':=h5) rfl rfl (by simp(disch:=go_num) only[go_sem,g5,e5]) (fun j hj=>by simp at hj) ?_
      refine WL.nil ?_
      simp only[jdj,jf6]
      exact ih _ rs _ _ oa (by simp only[f0d,f0i,f00];omega) s5 hQ
     .have c3:((rs.length:Int)=0)=False:=eq_false oa
      simp(disch:=go_num) only[go_sem,c2,g2,lb,c3,jab]
      refine j57 (t:=false) rfl ?_
      exact neg (fun h=>hr0 h.2) _
    .have c2:((0:Int)<kd)=False:=eq_false h0k
     simp(disch:=go_num) only[go_sem,c2,jab]
     refine j57 (t:=false) rfl ?_
     exact neg (fun h=>h0k h.1) _
def inS (ws:List (List UInt8)) (b:Bool):Int×List (List SV)×List (List SV)×List (List UInt8)×Bool :=
 ((jdc (ws.headD [])).1,jr1 ws.length [] [] ws.tail (b||(jdc (ws.headD [])).2))
def q5b (h:Hp) (t:Nat) (r:Int×List (List SV)×List (List SV)×List (List UInt8)×Bool):AV->Hp->Prop:=fun v h'=>∃ a b n1 n2,v=.agg [.int .i64 r.1,a,b]/\Sl h' 80 5 false EV a r.2.1 n1/\Sl h' 83 2 false EV b r.2.2.1 n2/\(n1++n2).Nodup/\(∀ n∈n1++n2,h.next<=n/\n<h'.next)/\Tak h' t r.2.2.2.1 r.2.2.2.2/\Mv h h' [t] [t]
theorem qo1 (f:TkF F) (k:Tak h t ws fl):WC (BX noB qu8 (BX noB qoz F)) 36 [.s (.ptr t 0)] h (q5b h t (inS ws fl)):=by
 have f':TkF (BX noB qoz F):=f.up rfl (fun _ _=>rfl)
 refine qfq (q:=qu8) rfl ?_
 show WB _ noB jui (.mk ([.s (.ptr t 0)]++jdq 7) h) (jqh [(.cell 1 3 true)] _)
 have ok:=k.ok
 have p:=k.p
 have pp:=ok.pos
 have kn:=k.n
 obtain⟨hA,eA,okA,nA,xA,gA⟩:=jdw ok Zg 62
 have kA:Tak hA t ws fl:=k.keep okA (gA t oa) oa
 unfold jui
 refine jey ?_
 unfold j24
 simp(disch:=go_num) only[go_sem,eA,jab]
 refine jey ?_
 unfold j25
 simp(disch:=go_num) only[go_sem]
 refine WC.imp (jga f' kA) ?_
 rintro _ hB ⟨rfl,kB,nB,mB⟩
 have okB:=kB.ok
 obtain⟨hC,eC,okC,nC,xC,gC⟩:=jby okB Zg [.int .i64 (jdc (ws.headD [])).1,.nilSlice,.nilSlice] 62
 have eN:hB.next=h.next+1:=oa
 rw[eN] at eC nC xC gC
 simp(disch:=go_num) only[go_sem,eC,eN,jab]
 have s0:TiS h hC t ws.tail (fl||(jdc (ws.headD [])).2) (jdc (ws.headD [])).1 [] [] .nilSlice .nilSlice [] []:=⟨kB.keep okC (gC t oa) oa,(gC _ oa).trans ((mB.keep _ oa (by simp;omega)).trans xA),xC,.nil,.nil,se,se,⟨okC,oa,fun n hn=>.inl hn,fun n h1 h2=>(gC n oa).trans ((mB.keep n oa h2).trans (gA n h1))⟩,p.2,oa⟩
 refine WB.seq (WB.block (qtv f rfl ws.length [] [] ws.tail _ se (by simp;omega) s0 ?_))
 intro hj a b n1 n2 x2 x3 x5 x6 x7 sj
 obtain⟨⟨os,rs,w2,fl2⟩,er⟩:∃ z,jr1 ws.length [] [] ws.tail (fl||(jdc (ws.headD [])).2)=z:=⟨_,rfl⟩
 have er':inS ws fl=((jdc (ws.headD [])).1,os,rs,w2,fl2):=congrArg (fun z=>((jdc (ws.headD [])).1,z)) er
 rw[er] at sj
 rw[er']
 have okJ:=sj.k.ok
 have g0:=sj.g0
 have g1:=sj.g1
 obtain⟨hK,eK,okK,nK,xK,gK⟩:=jxx okJ (b:=h.next) pp (some (.arr [.int .i64 (jdc (ws.headD [])).1,a,b] 62))
 simp(disch:=go_num) only[go_sem]
 show WB _ noB juh _ _
 unfold juh
 refine jey ?_
 unfold jxi
 simp(disch:=go_num) only[go_sem,g1,g0,eK,jab]
 refine jft ?_
 unfold jxj
 simp(disch:=go_num) only[go_sem,xK]
 exact⟨a,b,n1,n2,rfl,sj.s1.keep (fun n hn=>gK n (by have:=sj.lo n (by simp[hn]);omega)),sj.s2.keep (fun n hn=>gK n (by have:=sj.lo n (by simp[hn]);omega)),sj.nd,fun n hn=>by have:=sj.lo n hn;omega,sj.k.keep okK (gK t oa) oa,⟨okK,by have:=sj.nx;omega,fun n hn=>.inl hn,fun n h1 h2=>(gK n oa).trans (sj.m.keep n h1 h2)⟩⟩
end
theorem qcg {α:Type} {E:List SV->α->List Nat->Prop} {h:Hp} (ok:Ok h) {bx:Nat} {cells:List SV} {j ety bytes:Nat} {x:SV} {l:List α} {ns:List Nat} (hb:h.get bx=some (.arr cells ty)) (hb1:1<=bx/\bx<h.next) (hbn:bx∉ns) (s:Sl h ety sz false E x l ns) (hns:∀ n∈ns,1<=n/\n<h.next) (hnd:ns.Nodup)
 {row:List SV} {a:α} {ms:List Nat} (hr:row.length=sz) (hE:E row a ms) (hms:bx∉ms) (hms2:∀ n∈ms,n<h.next) (h1:(l.length+1)*bytes<=1000000000) (h2:l.length+1<=1000000000) :
 ∃ x' hM hN,jmr (h.push (.arr row ety)) ety sz bytes (.s x) (.s (.slice h.next 0 1 1 true sz))=some (.s x',hM)/\Ok hM/\hM.get bx=some (.arr cells ty)/\hM.put bx (some (.arr (cells.set j x') ty))=hN/\Ok hN/\hN.next=h.next+2/\hN.get bx=some (.arr (cells.set j x') ty)/\(∀ n,n<h.next->n≠bx->n∉ns->hN.get n=h.get n)/\(∀ n∈ns.tail,hN.get n=h.get n) /\
  (∀ {E':List SV->α->List Nat->Prop},(∀ row a m,(∀ n∈m,n∈ns.tail∨n∈ms)->E row a m->E' row a m)->Sl hN ety sz false E' x' (l++[a]) ((h.next+1)::(ns.tail++ms))):=by
 obtain⟨hM,e1,okM,nM,kM,tM,sM⟩:=s.app1 (bytes:=bytes) (row:=row) (a:=a) (ms:=ms) ok hns hr hE h1 h2
 have xM:=(kM bx hb1.2 hbn).trans hb
 obtain⟨hN,eN,okN,nN,xN,gN⟩:=jxx okM (b:=bx) hb1.1 (some (.arr (cells.set j (.slice (h.next+1) 0 (l.length+1) (l.length+1) false sz)) ty))
 have tl:∀ n∈ns.tail,n∈ns:=fun n hn=>f0j hn
 refine⟨_,hM,hN,e1,okM,xM,eN,okN,oa,xN,fun n hn hne hm=>(gN n hne).trans (kM n hn hm),fun n hn=>(gN n (fun e=>hbn (e▸tl n hn))).trans (tM n hn hnd),fun hE'=>(sM hE').keep (fun n hn=>gN n fun e=>?_)⟩
 grind
def tkB:IB:=.seq (.seq (.c jkx) (.c jky)) (.seq (.seq (.c jqb) (.c jqc)) (.seq (.c jqd) (.seq (.block 3 (.seq (.c jhz) (.cond (.g 5) jkz jk0))) jnu)))
def tkR:IB:=.seq (.seq (.c jil) (.block 0 (.seq (.c jim) (.cond (.g 16) jnt jf7)))) tkB
def qc8:FB1:=⟨20,qb8,2,17,[(.tmp 2)]⟩
def TxB (h:Hp) (row:List SV) (b:Ms.Blk) (ns:List Nat):Prop:=∃ p i e n1 n2 n3,row=[p,i,e]/\Sl h 3 1 false EI p b.params n1/\Sl h 62 3 false (OX h) i b.instrs n2/\Sl h 65 2 false (OE h) e b.edges n3/\ns=n1++(n2++n3)
theorem TxB.keep {h h':Hp} {row:List SV} {x:Ms.Blk} {ns:List Nat} (k:TxB h row x ns) (hk:∀ n∈ns,h'.get n=h.get n):TxB h' row x ns:=by
 obtain⟨p,i,e,n1,n2,n3,e1,h1,h2,h3,rfl⟩:=k
 exact⟨p,i,e,n1,n2,n3,e1,h1.keep fun n hn=>hk n (by grind),h2.imp (fun n hn=>hk n (by grind)) fun row a ms hm k=>k.keep fun n hn=>hk n (by grind),h3.imp (fun n hn=>hk n (by grind)) fun row a ms hm k=>k.keep fun n hn=>hk n (by grind),rfl⟩
theorem TxB.frz {h:Hp} {k:Bool} {row:List SV} {x:Ms.Blk} {ms:List Nat} (e:TxB h row x ms):jgb (jfl k h (d+3)) row=some (ja6 x):=by
 obtain⟨p,i,e,n1,n2,n3,rfl,h1,h2,h3,rfl⟩:=e
 exact OB.frz ⟨p,i,e,n1,n2,n3,false,rfl,h1,h2,h3,rfl⟩
structure PtS (p t:Nat) (h:Hp) (s:Scr) (ln:Nat):Prop where
 ok:Ok h
 ex:∃ a b c n1 n2 n3,h.get p=some (.arr [si s.m1,si s.m2,a,b,si s.seed,si s.steps,c,si ln] 71)/\Sl h 3 1 false EI a s.f.values n1/\Sl h 58 3 false (TxB h) b s.f.blocks n2/\Sl h 3 1 false EI c s.junk n3/\(n1++(n2++n3)).Nodup/\∀ n∈n1++(n2++n3),p<n/\n<h.next/\n≠t
 p1:1<=p/\p<h.next/\p≠t
section
variable {p t t':Nat} {h h':Hp} {s s':Scr} {ln ln':Nat}
theorem PtS.mv (k:PtS p t h s ln) (ok':Ok h') (nx:h.next<=h'.next) (hk:∀ n,n<h.next->n≠t->h'.get n=h.get n):PtS p t h' s ln:=by
 obtain⟨a,b,c,n1,n2,n3,h1,h2,h3,h4,h5,h6⟩:=k.ex
 obtain⟨p1,p2,p3⟩:=k.p1
 have kk :=fun n hn=>hk n (h6 n hn).2.1 (h6 n hn).2.2
 exact⟨ok',⟨a,b,c,n1,n2,n3,(hk p p2 p3).trans h1,h2.keep (fun n hn=>kk n (by grind)),h3.imp (fun n hn=>kk n (by grind)) fun row a m hm e=>e.keep fun n hn=>kk n (by grind),h4.keep fun n hn=>kk n (by grind),h5,fun n hn=>by grind⟩,oa⟩
theorem PtS.tm (k:PtS p t h s ln) (ok':Ok h') (m:Mv h h' [t] [t]):PtS p t h' s ln:=k.mv ok' m.nx fun n hn hne=>m.keep n hn (by grind)
theorem PtS.setT (k:PtS p t h s ln) (ht:h.next<=t'∨t'=0):PtS p t' h s ln:=by
 obtain⟨a,b,c,n1,n2,n3,h1,h2,h3,h4,h5,h6⟩:=k.ex
 obtain⟨p1,p2,p3⟩:=k.p1
 exact⟨k.ok,⟨a,b,c,n1,n2,n3,h1,h2,h3,h4,h5,fun n hn=>by grind⟩,oa⟩
theorem PtS.lay (ok:Ok h) (p1:1<=p/\p<h.next/\p≠t) {a b c:SV} {n1 n2 n3:List Nat} (h2:Sl h 3 1 false EI a s.f.values n1) (h3:Sl h 58 3 false (TxB h) b s.f.blocks n2) (h4:Sl h 3 1 false EI c s.junk n3) (h5:(n1++(n2++n3)).Nodup) (h6:∀ n∈n1++(n2++n3),p<n/\n<h.next/\n≠t) (ln:Nat) :
 ∃ h',h.put p (some (.arr [si s.m1,si s.m2,a,b,si s.seed,si s.steps,c,si ln] 71))=h'/\PtS p t h' s ln/\h'.next=h.next/\∀ n,n≠p->h'.get n=h.get n:=by
 obtain⟨hA,eA,okA,nA,xA,gA⟩:=jxx ok p1.1 (some (.arr [si s.m1,si s.m2,a,b,si s.seed,si s.steps,c,si ln] 71))
 have kk:∀ n∈n1++(n2++n3),hA.get n=h.get n:=fun n hn=>gA n (by grind)
 exact⟨hA,eA,⟨okA,⟨a,b,c,n1,n2,n3,xA,h2.keep (fun n hn=>kk n (by grind)),h3.imp (fun n hn=>kk n (by grind)) (fun row a m hm e=>e.keep (fun n hn=>kk n (by grind))),h4.keep (fun n hn=>kk n (by grind)),h5,fun n hn=>by grind⟩,oa⟩,oa,fun n hn=>gA n hn⟩
end
def qtw (p:Nat) (h:Hp) (s:Scr) (ln:Nat):AV->Hp->Prop:=fun v h'=>v=.s (.bool true)/\PtS p 0 h' s ln/\(∀ n,n<p->h'.get n=h.get n)/\h.next<=h'.next
section
variable {F:Fns} {p t:Nat} {h:Hp} {s:Scr} {ln:Nat} {l w:List UInt8} {ws:List (List UInt8)}
def FTk (F:Fns):Fns:=BX noB qu8 (BX noB qoz F)
theorem TkF.up1 (f:TkF F):TkF (FTk F):=(f.up  rfl fun _ _=>rfl).up  rfl fun _ _=>rfl
theorem jin (f:TkF F) (k:PtS p 0 h s ln) (hs:jco 32 l=w::ws) (hl:l.length<=4000000000) (hw:∀ x∈w::ws,Wk x) (hn:ws.length<100000) {R:AV->Hp->Prop}
 (hQ:∀ h2 t b,h.next<=t->(∀ n,n<h.next->h2.get n=h.get n)->h.next<=h2.next->Tak h2 t ws false->PtS p t h2 s ln->(∃ a c,h2.get p=some (.arr [si s.m1,si s.m2,a,b,si s.seed,si s.steps,c,si ln] 71)) ->
  WB (FTk F) noB tkR (.mk [.s (.ptr p 0),.s (.str l),.s (.bool false),.undef,.undef,.undef,.undef,.undef,.s b,.undef,.undef,.undef,.s (.str w),.undef,.undef,.undef,.undef,.undef,.s (.ptr t 0)] h2) (jqh [(.tmp 2)] R)) :
 WC (BX noB qc8 (FTk F)) 20 [.s (.ptr p 0),.s (.str l)] h R:=by
 have f1:=f.up1
 refine qfq (q:=qc8) rfl ?_
 show WB (FTk F) noB (.seq (.c juj) (.seq (.c juk) (.seq (.c jul) (.seq (.c jum) tkR)))) (.mk ([.s (.ptr p 0),.s (.str l)]++jdq 17) h) (jqh [(.tmp 2)] R)
 have okh:=k.ok
 have pp:=okh.pos
 have i1:=fun(h:Hp) (Q:AV->Hp->Prop)=>jam (Q:=Q) (f1.lib _ _ _ _ (show jqt 32 [.s (.str l),.s (.str [32])] h=some (.s (wsV (w::ws)),h) from by
  show oif (Nat.ble (jb6 l) 4000000000) (ok (qzs 32 l) h) none=_
  rw[jba,jbn hl]
  unfold qzs
  rw[hs];rfl))
 obtain⟨hA,eA,okA,nA,xA,gA⟩:=jdw okh [wsV (w::ws),.bool false] 95
 refine jey ?_
 unfold juj
 simp(disch:=go_num) only[go_sem,jab]
 refine jey ?_
 unfold juk
 simp(disch:=go_num) only[go_sem,i1,eA,jab]
 have kA:Tak hA h.next (w::ws) false:=⟨okA,xA,oa,hw,by rw[f0i];omega⟩
 refine jey ?_
 unfold jul
 simp(disch:=go_num) only[go_sem]
 refine WC.imp (jqe f1 kA) ?_
 rintro _ hB ⟨rfl,kB,nB,mB⟩
 have kB':Tak hB h.next ws false:=by simpa using kB
 have sB:PtS p h.next hB s ln:=((k.setT (t':=h.next) (.inl (f0h _))).mv okA oa (fun n hn _=>gA n hn)).tm kB.ok mB
 obtain⟨a,b,c,n1,n2,n3,h1,h2,h3,h4,h5,h6⟩:=sB.ex
 simp(disch:=go_num) only[go_sem,jab]
 refine jey ?_
 unfold jum
 simp(disch:=go_num) only[go_sem,h1,jab]
 exact hQ hB h.next b (f0h _) (fun n hn=>(mB.keep n oa (by simp;omega)).trans (gA n hn)) oa kB' sB ⟨a,c,h1⟩
end
theorem Wk.ito {n:Nat} (hn:n<1000000000000000000):Wk (ito n):=by
 refine⟨by grind[jcm],fun v h=>?_⟩
 grind[j2q]
theorem Wk.of {w:List UInt8} (h:(match Lib.atoiAll w with | .ok v=>decide (0<=v/\v<=9223372036854775807) | _=>true)=true) (hl:w.length<=4000000000):Wk w:=by
 refine⟨hl,fun v e=>?_⟩
 grind
theorem Wk.itos {l:List Nat} (h:∀ n∈l,n<1000000000000000000):∀ w∈l.map Ev.ito,Wk w:=fun w hw=>by
 grind[f1j,Wk.ito]
theorem je5 {w:List UInt8} {ws:List (List UInt8)} (h:∀ x∈w::ws,Wd x):jco 32 (jcx (w::ws))=w::ws:=jr0 fun x hx=>(h x hx).1
section
variable {p t:Nat} {h hi:Hp} {s:Scr} {ln:Nat}
theorem PtS.blk (k:PtS p t hi s ln) (ok:Ok h) (hn:hi.next<=h.next) (hk:∀ n,n<hi.next->n≠t->h.get n=hi.get n) (ht:t<hi.next) (hl:s.f.blocks.length<=10000) {row:List SV} {x:Ms.Blk} {ms:List Nat} {G:Prop} (hr:row.length=3) (hx:G->TxB h row x ms) (hm:ms.Nodup) (hms:∀ n∈ms,hi.next<=n/\n<h.next) :
 ∃ a b c b' hM hN,h.get p=some (.arr [si s.m1,si s.m2,a,b,si s.seed,si s.steps,c,si ln] 71)/\jmr (h.push (.arr row 58)) 58 3 72 (.s b) (.s (.slice h.next 0 1 1 true 3))=some (.s b',hM)/\Ok hM/\hM.get p=some (.arr [si s.m1,si s.m2,a,b,si s.seed,si s.steps,c,si ln] 71) /\
  hM.put p (some (.arr [si s.m1,si s.m2,a,b',si s.seed,si s.steps,c,si ln] 71))=hN/\Ok hN/\hN.get p=some (.arr [si s.m1,si s.m2,a,b',si s.seed,si s.steps,c,si ln] 71)/\(G->PtS p t hN { s with f:={ s.f with blocks:=s.f.blocks++[x] } } ln)/\(∀ n,n<p->hN.get n=h.get n)/\h.next<=hN.next/\hN.get t=h.get t:=by
 obtain⟨a,b,c,n1,n2,n3,h1,h2,h3,h4,h5,h6⟩:=k.ex
 obtain⟨p1,p2,p3⟩:=k.p1
 have kk:∀ n∈n1++(n2++n3),h.get n=hi.get n:=fun n hn=>hk n (h6 n hn).2.1 (h6 n hn).2.2
 have g1:=(hk p p2 p3).trans h1
 have g2:=h2.keep (h':=h) (fun n hn=>kk n (by simp[hn]))
 have g3:Sl h 58 3 false (TxB h) b s.f.blocks n2:=h3.imp (fun n hn=>kk n (by simp[hn])) (fun row a m hm e=>e.keep (fun n hn=>kk n (by simp[hm n hn])))
 have g4:=h4.keep (h':=h) (fun n hn=>kk n (by simp[hn]))
 obtain⟨d1,d2',d4⟩:=f0m.1 h5
 obtain⟨d2,d3,d5⟩:=f0m.1 d2'
 obtain⟨b',hM,hN,t1,t2,t3,t4,t5,t6,t7,t8,t9,t10⟩:=qcg (E:=fun row y ms=>G->TxB h row y ms) (j:=3) (bytes:=72) ok g1 ⟨oa,oa⟩ (fun hc=>by have:=(h6 p (by simp[hc])).1;omega) (g3.imp (fun _ _=>rfl) (fun _ _ _ _ e _=>e)) (fun n hn=>by have:=h6 n (by simp[hn]);omega) d2 hr hx (fun hc=>by have:=hms p hc;omega) (fun n hn=>(hms n hn).2) oa oa
 have low:∀ n,n<p->hN.get n=h.get n:=fun n hn=>t8 n oa oa (fun hc=>by have:=(h6 n (by simp[hc])).1;omega)
 have o1:∀ n∈n1,hN.get n=h.get n:=fun n hn=>t8 n (by have:=h6 n (by simp[hn]);omega) (by have:=h6 n (by simp[hn]);omega) (fun hc=>d4 n hn n (by simp[hc]) rfl)
 have o3:∀ n∈n3,hN.get n=h.get n:=fun n hn=>t8 n (by have:=h6 n (by simp[hn]);omega) (by have:=h6 n (by simp[hn]);omega) (fun hc=>d5 n hc n hn rfl)
 have om:∀ n∈ms,hN.get n=h.get n:=fun n hn=>t8 n (hms n hn).2 (by have:=hms n hn;omega) (fun hc=>by have:=hms n hn;have:=h6 n (by simp[hc]);omega)
 have nd:=jcd (A:=n1) (ns:=n2) (B:=n3) (N:=hi.next) (ns':=(h.next+1)::(n2.tail++ms)) h5 (fun n hn=>(h6 n hn).2.1) (f0r.2 ⟨fun hc=>by
  rcases f0e.1 hc with hc | hc
  .have:=h6 (h.next+1) (by simp[f0j hc]);omega
  .have:=hms (h.next+1) hc;omega,f0m.2 ⟨d2.sublist (List.tail_sublist _),hm,fun u hu w hw e=>by
   have:=h6 u (by simp[f0j hu]);have:=hms w hw;omega⟩⟩) (fun n hn=>by
  rcases f0f.1 hn with hn | hn
  .exact .inr oa
  .rcases f0e.1 hn with hn | hn
   .exact .inl (f0j hn)
   .exact .inr (hms n hn).1)
 refine⟨a,b,c,b',hM,hN,g1,t1,t2,t3,t4,t5,t7,fun gg=>⟨t5,⟨a,b',c,n1,_,n3,t7,g2.keep o1,t10 (fun row a m hmm e=>(e gg).keep (fun n hn=>?_)),g4.keep o3,nd,fun n hn=>?_⟩,oa⟩,low,oa,t8 t oa oa (fun hc=>(h6 t (by simp[hc])).2.2 rfl)⟩
 .rcases hmm n hn with hc | hc
  .exact t9 n hc
  .exact om n hc
 .rcases f0e.1 hn with hn | hn
  .have:=h6 n (by simp[hn]);omega
  .rcases f0e.1 hn with hn | hn
   .rcases f0f.1 hn with rfl | hn
    .omega
    .rcases f0e.1 hn with hn | hn
     .have:=h6 n (by simp[f0j hn]);omega
     .have:=hms n hn;omega
   .have:=h6 n (by simp[hn]);omega
end
section
variable {F:Fns} {p t:Nat} {h:Hp} {s:Scr} {ln:Nat}
def q0m (s:Scr) (c n:Nat):Scr:=match c with
 | 0=>{ s with m1:=n }
 | _=>{ s with m2:=n }
theorem qch {F1:Fns} (f1:TkF F1) {c n:Nat} (hc:c=0∨c=1) (hn:n<1000000000000000000) {ws:List (List UInt8)} {h2:Hp} (kt:Tak h2 t (Ev.ito n::ws) false) (ks:PtS p t h2 s ln) {Q:Ex->St->Prop}
 (hQ:∀ h3 x13 x14,Tak h3 t ws false->PtS p t h3 (q0m s c n) ln->(∀ n,n<h2.next->n≠t->n≠p->h3.get n=h2.get n)->h2.next<=h3.next->WB F1 noB (.loop jup) (.mk [.s (.ptr p 0),x1,x2,x3,x4,x5,x6,x7,x8,x9,x10,x11,x12,x13,x14,vi ((c+1:Nat):Int),x16,x17,.s (.ptr t 0)] h3) Q) :
 WB F1 noB (.loop jup) (.mk [.s (.ptr p 0),x1,x2,x3,x4,x5,x6,x7,x8,x9,x10,x11,x12,x13,x14,vi (c:Int),x16,x17,.s (.ptr t 0)] h2) Q:=by
 refine qu6 (jey ?_)
 unfold jun
 have c1:((c:Int)<2)=True:=eq_true oa
 simp(disch:=go_num) only[go_sem,c1,jab]
 refine jey ?_
 unfold juo
 simp(disch:=go_num) only[go_sem,jab]
 unfold j3g
 refine juy (WB.block (jey ?_))
 unfold jxk
 simp(disch:=go_num) only[go_sem,jab]
 refine WB.flo ?_
 unfold j3e
 refine WL.pure (v:=.s (.ptr p 0)) (by simp only[go_sem]) ?_
 refine WL.pure (v:=vi (c:Int)) (by simp only[go_sem]) ?_
 refine WL.pure (v:=.s (.ptr t 0)) (by simp only[go_sem]) ?_
 refine WL.call (vs:=[.s (.ptr t 0)]) (by simp only[go_sem]) ?_
 refine WC.imp (jga f1 kt) ?_
 rintro _ h3 ⟨rfl,k3,n3,m3⟩
 have e1:jdc ((Ev.ito n::ws).headD [])=((n:Int),false):=jeg hn
 rw[e1] at k3 ⊢
 replace k3:Tak h3 t ws false:=k3
 have ks3:=ks.tm k3.ok m3
 have ok3:=k3.ok
 obtain⟨a,b,cc,n1,n2,n3',g1,g2,g3,g4,g5,g6⟩:=ks3.ex
 obtain⟨h4,e4,ks4,nx4,k4⟩:=PtS.lay (s:=q0m s c n) (a:=a) (b:=b) (c:=cc) ok3 ks3.p1 (by rcases hc with rfl | rfl<;>exact g2) (by rcases hc with rfl | rfl<;>exact g3) (by rcases hc with rfl | rfl<;>exact g4) g5 g6 ln
 refine⟨fun j hj=>by simp at hj,?_⟩
 refine WL.pure (v:=.s (.ptr p 0)) (by simp only[go_sem]) ?_
 refine WL.pure (v:=.s (.ptr p 0)) (by simp only[go_sem]) ?_
 refine WL.pure (v:=.s (.ptr p 0)) (by simp only[go_sem]) ?_
 refine WL.pure (v:=.s (.ptr p 0)) (by simp only[go_sem]) ?_
 refine WL.pure (v:=.s (.ptr p c)) (by rcases hc with rfl | rfl<;>simp(disch:=go_num) only[go_sem]) ?_
 refine WL.mem (v:=.undef) (h':=h4) rfl rfl (by rcases hc with rfl | rfl<;>· have e4':=e4;simp only[q0m] at e4';simp(disch:=go_num) only[go_sem,g1,e4']) (fun j hj=>by simp at hj) ?_
 refine WL.nil ?_
 simp only[jdj,jab]
 unfold j3f
 refine jft ?_
 unfold jxl
 have hss:(c:Int)+1=((c+1:Nat):Int):=oa
 simp(disch:=go_num) only[go_sem,jad,hss,jf6]
 exact hQ h4 _ _ (k3.keep ks4.ok (k4 t (by have:=ks.p1;omega)) oa) ks4 (fun n hn hne hnp=>(k4 n hnp).trans (m3.keep n hn (by simpa using hne))) oa
theorem qg3 (f:TkF F) (k:PtS p 0 h s 0) {a b:Nat} (ha:a<1000000000000000000) (hb:b<1000000000000000000) :
 WC (BX noB qc8 (FTk F)) 20 [.s (.ptr p 0),.s (.str (jcx [jef,Ev.ito a,Ev.ito b]))] h (qtw p h { s with m1:=a,m2:=b } 0):=by
 refine jin f k (w:=jef) (ws:=[Ev.ito a,Ev.ito b]) (je5 (fun x hx=>?_)) ?_ (fun x hx=>?_) se ?_
 .simp at hx;rcases hx with rfl | rfl | rfl
  .exact ⟨by decide,by decide⟩
  .exact jp9 _
  .exact jp9 _
 .have:=jcm a;have:=jcm b
  show(jef++((32::Ev.ito a)++((32::Ev.ito b)++[]))).length<=_
  simp[jef];omega
 .simp at hx;rcases hx with rfl | rfl | rfl
  .exact Wk.of ka (by decide)
  .exact Wk.ito ha
  .exact Wk.ito hb
 intro h2 t bl ht low nx kt ks ⟨a',c',hc⟩
 have ok2:=ks.ok
 unfold tkR
 refine juy (jey ?_)
 unfold jil
 simp(disch:=go_num) only[go_sem,hc,jab]
 refine WB.block (jey ?_)
 unfold jim
 simp(disch:=go_num) only[go_sem,jab]
 refine j57 (t:=true) rfl ?_
 show WB (FTk F) noB jnt _ _
 unfold jnt
 refine juy (jey ?_)
 unfold j3d
 simp(disch:=go_num) only[go_sem,jab]
 refine WB.block ?_
 refine qch f.up1 (c:=0) (.inl rfl) ha kt ks (fun h3 x13 x14 kt3 ks3 lo3 nx3=>?_)
 refine qch f.up1 (c:=1) (.inr rfl) hb kt3 ks3 (fun h4 x13 x14 kt4 ks4 lo4 nx4=>?_)
 refine qu6 (jey ?_)
 unfold jun
 have g:=kt4.g
 have e8:eqO false (some (.s (.str jef))) (some (.s (.str [109,97,99,104,105,110,101])))=some (.s (.bool true)):=by rw[jhb];rfl
 simp(disch:=go_num) only[go_sem,f0s,jab]
 refine jey ?_
 unfold juo
 simp(disch:=go_num) only[go_sem,jl6,jl7]
 refine jey ?_
 unfold jxm
 simp(disch:=go_num) only[go_sem,jhc,e8,g,jhd,jab]
 refine jft ?_
 unfold jxn
 simp(disch:=go_num) only[go_sem,jkr]
 have p1:=k.p1
 exact⟨rfl,ks4.setT (.inr rfl),fun n hn=>(lo4 n oa oa oa).trans ((lo3 n oa oa oa).trans (low n oa)),oa⟩
end
theorem ndZ {h:Hp} {x:SV} {l:List Int} {ns:List Nat} (s:Sl h ty 1 ex EZ x l ns):ns.Nodup:=by
 rcases s with⟨_,_,rfl⟩ | ⟨_,b,rows,nss,_,_,hR,rfl⟩
 .simp
 .have:∀ {rows:List (List SV)} {l:List Int} {ns:List Nat},Rows 1 EZ rows l ns->ns=[]:=fun k=>by
   induction k with
   | nil=>rfl
   | cons h1 h2 _ ih=>obtain⟨_,rfl⟩:=h2;grind
  grind
section
variable {p t:Nat} {h hi:Hp} {s:Scr} {ln:Nat}
theorem PtS.setv (k:PtS p t hi s ln) (ok:Ok h) (hn:hi.next<=h.next) (hk:∀ n,n<hi.next->n≠t->h.get n=hi.get n) (ht:t<hi.next) {x:SV} {l:List Nat} {ns:List Nat} (hx:Sl h 3 1 false EI x l ns) (hns:∀ n∈ns,hi.next<=n/\n<h.next) (nd:ns.Nodup) :
 ∃ a b c,h.get p=some (.arr [si s.m1,si s.m2,a,b,si s.seed,si s.steps,c,si ln] 71) /\
  (∃ hN,h.put p (some (.arr [si s.m1,si s.m2,a,b,si s.seed,si s.steps,x,si ln] 71))=hN/\PtS p t hN { s with junk:=l } ln/\hN.next=h.next/\∀ n,n≠p->hN.get n=h.get n) /\
  (∃ hN,h.put p (some (.arr [si s.m1,si s.m2,x,b,si s.seed,si s.steps,c,si ln] 71))=hN/\PtS p t hN { s with f:={ s.f with values:=l } } ln/\hN.next=h.next/\∀ n,n≠p->hN.get n=h.get n):=by
 have k':=k.mv ok hn hk
 obtain⟨a,b,c,n1,n2,n3,h1,h2,h3,h4,h5,h6⟩:=k.ex
 have p1:=k.p1
 have kk:∀ n∈n1++(n2++n3),h.get n=hi.get n:=fun n hn=>hk n (h6 n hn).2.1 (h6 n hn).2.2
 have g1:=(hk p p1.2.1 p1.2.2).trans h1
 have g2:=h2.keep (h':=h) (fun n hn=>kk n (by simp[hn]))
 have g3:Sl h 58 3 false (TxB h) b s.f.blocks n2:=h3.imp (fun n hn=>kk n (by simp[hn])) (fun row a m hm e=>e.keep (fun n hn=>kk n (by simp[hm n hn])))
 have g4:=h4.keep (h':=h) (fun n hn=>kk n (by simp[hn]))
 obtain⟨d1,d2',d4⟩:=f0m.1 h5
 obtain⟨d2,d3,d5⟩:=f0m.1 d2'
 have q1:=PtS.lay (p:=p) (t:=t) (s:={ s with junk:=l }) ok oa g2 g3 hx (f0m.2 ⟨d1,f0m.2 ⟨d2,nd,fun u hu w hw e=>by have:=h6 u (by simp[hu]);have:=hns w hw;omega⟩,fun u hu w hw e=>by
  rcases f0e.1 hw with hw | hw
  .exact d4 u hu w (by simp[hw]) e
  .have:=h6 u (by simp[hu]);have:=hns w hw;omega⟩) (fun n hn=>by
  rcases f0e.1 hn with hn | hn
  .have:=h6 n (by simp[hn]);omega
  .rcases f0e.1 hn with hn | hn
   .have:=h6 n (by simp[hn]);omega
   .have:=hns n hn;omega) ln
 have q2:=PtS.lay (p:=p) (t:=t) (s:={ s with f:={ s.f with values:=l } }) ok oa hx g3 g4 (f0m.2 ⟨nd,d2',fun u hu w hw e=>by have:=hns u hu;have:=h6 w (by simp only[f0e] at hw ⊢;exact .inr hw);omega⟩) (fun n hn=>by
  rcases f0e.1 hn with hn | hn
  .have:=hns n hn;omega
  .have:=h6 n (by simp only[f0e] at hn ⊢;exact .inr hn);omega) ln
 exact⟨a,b,c,g1,q1,q2⟩
end
section
variable {F:Fns} {p t:Nat} {h:Hp} {s:Scr} {ln:Nat}
theorem qo2 (f:TkF F) (hln:ln=1) (k:PtS p 0 h s ln) {a b:Nat} {l:List Nat} (ha:a<1000000000000000000) (hb:b<1000000000000000000) (hl:∀ n∈l,n<1000000000000000000) (hlen:l.length<=90000) (hj:(jcx (qbv::Ev.ito a::Ev.ito b::l.map Ev.ito)).length<=4000000000) :
 WC (BX noB qc8 (FTk F)) 20 [.s (.ptr p 0),.s (.str (jcx (qbv::Ev.ito a::Ev.ito b::l.map Ev.ito)))] h (qtw p h { s with seed:=a,steps:=b,junk:=l } ln):=by
 have f1:=f.up1
 refine jin f k (w:=qbv) (ws:=Ev.ito a::Ev.ito b::l.map Ev.ito) (je5 (fun x hx=>?_)) hj (fun x hx=>?_) (by simp;omega) ?_
 .simp only[f0f,f1j] at hx
  rcases hx with rfl | rfl | rfl | ⟨n,_,rfl⟩
  .exact ⟨by decide,by decide⟩
  .exact jp9 _
  .exact jp9 _
  .exact jp9 _
 .simp only[f0f] at hx
  rcases hx with rfl | rfl | rfl | hx
  .exact Wk.of ka (by decide)
  .exact Wk.ito ha
  .exact Wk.ito hb
  .exact Wk.itos hl x hx
 intro h2 t bl ht low nx kt ks ⟨a',c',hc⟩
 have ok2:=ks.ok
 have pp:=k.p1
 have c0:((ln:Int)=0)=False:=eq_false oa
 have c1:((ln:Int)=1)=True:=eq_true oa
 unfold tkR
 refine juy (jey ?_)
 unfold jil
 simp(disch:=go_num) only[go_sem,hc,jab]
 refine WB.block (jey ?_)
 unfold jim
 simp(disch:=go_num) only[go_sem,c0,jab]
 refine j57 (t:=false) rfl ?_
 show WB (FTk F) noB jf7 _ _
 unfold jf7
 refine jey ?_
 unfold jkv
 simp(disch:=go_num) only[go_sem,c1,jab]
 refine jft ?_
 unfold jkw
 simp(disch:=go_num) only[go_sem]
 refine WC.imp (jga f1 kt) ?_
 rintro _ h3 ⟨rfl,k3,nx3,m3⟩
 have e1:jdc ((Ev.ito a::Ev.ito b::l.map Ev.ito).headD [])=((a:Int),false):=jeg ha
 rw[e1] at k3 ⊢
 replace k3:Tak h3 t (Ev.ito b::l.map Ev.ito) false:=k3
 have ks3:=ks.tm k3.ok m3
 have ok3:=k3.ok
 have tp:=ks.p1
 obtain⟨a3,b3,c3,n1,n2,n3',g1,g2,g3,g4,g5,g6⟩:=ks3.ex
 obtain⟨h4,e4,ks4,nx4,q4⟩:=PtS.lay (s:={ s with seed:=a }) ok3 ks3.p1 g2 g3 g4 g5 g6 ln
 have k4:=k3.keep ks4.ok (q4 t oa) oa
 dsimp only at g1 e4
 simp(disch:=go_num) only[go_sem,g1,e4]
 refine WC.imp (jga f1 k4) ?_
 rintro _ h5 ⟨rfl,k5,nx5,m5⟩
 have e2:jdc ((Ev.ito b::l.map Ev.ito).headD [])=((b:Int),false):=jeg hb
 rw[e2] at k5 ⊢
 replace k5:Tak h5 t (l.map Ev.ito) false:=k5
 have ks5:=ks4.tm k5.ok m5
 have ok5:=k5.ok
 obtain⟨a5,b5,c5,n1,n2,n3',g1,g2,g3,g4,g5,g6⟩:=ks5.ex
 obtain⟨h6,e6,ks6,nx6,q6⟩:=PtS.lay (s:={ s with seed:=a,steps:=b }) ok5 ks5.p1 g2 g3 g4 g5 g6 ln
 have k6:=k5.keep ks6.ok (q6 t oa) oa
 dsimp only at g1 e6
 simp(disch:=go_num) only[go_sem,g1,e6]
 refine WC.imp (jur f1 k6) ?_
 rintro _ h7 ⟨x,ns,rfl,s7,lo7,k7,m7⟩
 rw[jgr hl] at s7 k7
 replace k7:Tak h7 t [] false:=k7
 have s7':=Sl.unmap (E':=EI) (g:=fun(n:Nat)=>(n:Int)) (fun _ _ _ e=>e) s7
 have ok7:=k7.ok
 have nx7:=m7.nx
 obtain⟨a7,b7,c7,g7,⟨h8,e8,ks8,nx8,q8⟩,_⟩:=ks6.setv ok7 m7.nx (fun n hn hne=>m7.keep n hn (by simpa using hne)) k6.p.2 s7' lo7 (ndZ s7)
 have k8:=k7.keep ks8.ok (q8 t oa) oa
 have g:=k8.g
 have ee:eqO false (some (.s (.str qbv))) (some (.s (.str [114,117,110])))=some (.s (.bool true)):=by rw[jhb];rfl
 dsimp only at g7 e8
 simp(disch:=go_num) only[go_sem,g7,e8,jhc,ee,g,jkr]
 exact⟨rfl,ks8.setT (.inr rfl),fun n hn=>(q8 n oa).trans ((m7.keep n oa (by simp;omega)).trans ((q6 n oa).trans ((m5.keep n oa (by simp;omega)).trans ((q4 n oa).trans ((m3.keep n oa (by simp;omega)).trans (low n oa)))))),oa⟩
theorem qg4 (f:TkF F) (hln:ln=2) (k:PtS p 0 h s ln) {l:List Nat} (hl:∀ n∈l,n<1000000000000000000) (hlen:l.length<=90000) (hj:(jcx (jfi::l.map Ev.ito)).length<=4000000000) :
 WC (BX noB qc8 (FTk F)) 20 [.s (.ptr p 0),.s (.str (jcx (jfi::l.map Ev.ito)))] h (qtw p h { s with f:={ s.f with values:=l } } ln):=by
 have f1:=f.up1
 refine jin f k (w:=jfi) (ws:=l.map Ev.ito) (je5 (fun x hx=>?_)) hj (fun x hx=>?_) (by simp;omega) ?_
 .simp only[f0f,f1j] at hx
  rcases hx with rfl | ⟨n,_,rfl⟩
  .exact ⟨by decide,by decide⟩
  .exact jp9 _
 .simp only[f0f] at hx
  rcases hx with rfl | hx
  .exact Wk.of ka (by decide)
  .exact Wk.itos hl x hx
 intro h2 t bl ht low nx kt ks ⟨a',c',hc⟩
 have ok2:=ks.ok
 have pp:=k.p1
 have c0:((ln:Int)=0)=False:=eq_false oa
 have c1:((ln:Int)=1)=False:=eq_false oa
 have c2:((ln:Int)=2)=True:=eq_true oa
 have tp:=ks.p1
 unfold tkR
 refine juy (jey ?_)
 unfold jil
 simp(disch:=go_num) only[go_sem,hc,jab]
 refine WB.block (jey ?_)
 unfold jim
 simp(disch:=go_num) only[go_sem,c0,jab]
 refine j57 (t:=false) rfl ?_
 show WB (FTk F) noB jf7 _ _
 unfold jf7
 refine jey ?_
 unfold jkv
 simp(disch:=go_num) only[go_sem,c1,jab]
 refine jft ?_
 unfold jkw
 simp(disch:=go_num) only[go_sem,c2]
 refine WC.imp (jur f1 kt) ?_
 rintro _ h7 ⟨x,ns,rfl,s7,lo7,k7,m7⟩
 rw[jgr hl] at s7 k7
 replace k7:Tak h7 t [] false:=k7
 have s7':=Sl.unmap (E':=EI) (g:=fun(n:Nat)=>(n:Int)) (fun _ _ _ e=>e) s7
 have ok7:=k7.ok
 have nx7:=m7.nx
 obtain⟨a7,b7,c7,g7,_,⟨h8,e8,ks8,nx8,q8⟩⟩:=ks.setv ok7 m7.nx (fun n hn hne=>m7.keep n hn (by simpa using hne)) kt.p.2 s7' lo7 (ndZ s7)
 have k8:=k7.keep ks8.ok (q8 t oa) oa
 have g:=k8.g
 have ee:eqO false (some (.s (.str jfi))) (some (.s (.str [118,97,108,117,101,115])))=some (.s (.bool true)):=by rw[jhb];rfl
 simp(disch:=go_num) only[go_sem,g7,e8,jhc,ee,g,jkr]
 exact⟨rfl,ks8.setT (.inr rfl),fun n hn=>(q8 n oa).trans ((m7.keep n oa (by simp;omega)).trans (low n oa)),oa⟩
theorem j3k {F1:Fns} {h2:Hp} {l w:List UInt8} {R:AV->Hp->Prop} (h3:3<=ln) (ks:PtS p t h2 s ln)
 (hQ:∀ x10 x11 x16 x17,WB F1 noB tkB (.mk [.s (.ptr p 0),.s (.str l),.s (.bool false),.undef,.undef,.undef,.undef,.undef,.s bl,.undef,x10,x11,.s (.str w),.undef,.undef,.undef,x16,x17,.s (.ptr t 0)] h2) (jqh [(.tmp 2)] R)) :
 WB F1 noB tkR (.mk [.s (.ptr p 0),.s (.str l),.s (.bool false),.undef,.undef,.undef,.undef,.undef,.s bl,.undef,.undef,.undef,.s (.str w),.undef,.undef,.undef,.undef,.undef,.s (.ptr t 0)] h2) (jqh [(.tmp 2)] R):=by
 obtain⟨a,b,c,n1,n2,n3,hc,_⟩:=ks.ex
 have c0:((ln:Int)=0)=False:=eq_false oa
 have c1:((ln:Int)=1)=False:=eq_false oa
 have c2:((ln:Int)=2)=False:=eq_false oa
 unfold tkR
 refine juy (jey ?_)
 unfold jil
 simp(disch:=go_num) only[go_sem,hc,jab]
 refine WB.block (jey ?_)
 unfold jim
 simp(disch:=go_num) only[go_sem,c0,jab]
 refine j57 (t:=false) rfl ?_
 show WB F1 noB jf7 _ _
 unfold jf7
 refine jey ?_
 unfold jkv
 simp(disch:=go_num) only[go_sem,c1,jab]
 refine jft ?_
 unfold jkw
 simp(disch:=go_num) only[go_sem,c2,jab]
 grind
def qtx (p:Nat) (h:Hp) (G:Prop) (s:Scr) (ln:Nat) (b:Bool):AV->Hp->Prop:=fun v h'=>v=.s (.bool b)/\(G->PtS p 0 h' s ln)/\(∀ n,n<p->h'.get n=h.get n)/\h.next<=h'.next/\Ok h'/\∃ m1 m2 a b sd st c,h'.get p=some (.arr [m1,m2,a,b,sd,st,c,si ln] 71)
theorem qo3 (f:TkF F) (h3:3<=ln) (k:PtS p 0 h s ln) {ln0:List UInt8} {ws:List (List UInt8)} {l:List Nat} (hs:jco 32 ln0=jgp::ws) (hj:ln0.length<=4000000000) (hw:∀ w∈ws,Wk w) (hn:ws.length<100000) (hb:s.f.blocks.length<=10000) :
 WC (BX noB qc8 (FTk F)) 20 [.s (.ptr p 0),.s (.str ln0)] h (qtx p h ((jhg ws false).1=l.map (fun(n:Nat)=>(n:Int))) { s with f:={ s.f with blocks:=s.f.blocks++[⟨l,[],[]⟩] } } ln (!(jhg ws false).2.2)):=by
 have f1:=f.up1
 refine jin f k hs hj (fun x hx=>?_) hn ?_
 .simp only[f0f] at hx
  rcases hx with rfl | hx
  .exact Wk.of ka (by decide)
  .exact hw x hx
 intro h2 t bl ht low nx kt ks ⟨a',c',hc⟩
 have ok2:=ks.ok
 have pp:=k.p1
 have tp:=ks.p1
 refine j3k h3 ks (fun x10 x11 x16 x17=>?_)
 unfold tkB
 refine juy (jey ?_)
 unfold jkx
 have ee:eqO false (some (.s (.str jgp))) (some (.s (.str [98,108,111,99,107])))=some (.s (.bool true)):=by rw[jhb];rfl
 simp(disch:=go_num) only[go_sem,jhc,ee,jab]
 refine jft ?_
 unfold jky
 simp(disch:=go_num) only[go_sem]
 refine WC.imp (jur f1 kt) ?_
 rintro _ h7 ⟨x,ns,rfl,s7,lo7,k7,m7⟩
 have ok7:=k7.ok
 have nx7:=m7.nx
 have ob:(jhg ws false).1=l.map (fun(n:Nat)=>(n:Int))->TxB h7 [x,.nilSlice,.nilSlice] (⟨l,[],[]⟩:Ms.Blk) ns:=fun e=>⟨x,_,_,ns,[],[],rfl,Sl.unmap (E':=EI) (g:=fun(n:Nat)=>(n:Int)) (fun _ _ _ e=>e) (e▸s7),.nil,.nil,se⟩
 obtain⟨a7,b7,c7,b',hM,hN,t1,t2,t3,t4,t5,okN,xN,t6,t7,t8,t9⟩:=ks.blk ok7 m7.nx (fun n hn hne=>m7.keep n hn (by simpa using hne)) kt.p.2 hb rfl ob (ndZ s7) lo7
 have eb:bl=b7:=by
  have h1:=(m7.keep p tp.2.1 (by simp;exact tp.2.2)).trans hc
  rw[t1] at h1
  simp only[Option.some.injEq,AB.arr.injEq,List.cons.injEq,and_true,true_and] at h1
  exact h1.2.1.symm
 subst eb
 have kN:=k7.keep okN t9 t8
 have g:=kN.g
 obtain⟨fl,efl⟩:∃ fl,(jhg ws false).2.2=fl:=⟨_,rfl⟩
 rw[efl] at g ⊢
 simp(disch:=go_num) only[go_sem,t2,t4,t5,g,jkr]
 exact⟨rfl,fun e=>(t6 e).setT (.inr rfl),fun n hn=>(t7 n hn).trans ((m7.keep n oa (by simp;omega)).trans (low n oa)),oa,okN,_,_,_,_,_,_,_,xN⟩
end
section
variable {p t:Nat} {h hi:Hp} {s:Scr} {ln:Nat}
theorem PtS.at (k:PtS p t h s ln) {blk:Ms.Blk} (hib:s.f.blocks[i]?=some blk) :
 ∃ a b c bb pp ia ee na nb nc cells,h.get p=some (.arr [si s.m1,si s.m2,a,b,si s.seed,si s.steps,c,si ln] 71)/\jsn (.s b)=some (vi s.f.blocks.length)/\jqo 3 (.s b) (vi (i:Int))=some (.s (.ptr bb (i*3)))/\h.get bb=some (.arr cells 58)/\rdB (h.get bb) (i*3) 3=some [pp,ia,ee] /\
  Sl h 3 1 false EI pp blk.params na/\Sl h 62 3 false (OX h) ia blk.instrs nb/\Sl h 65 2 false (OE h) ee blk.edges nc/\(bb::(na++(nb++nc))).Nodup/\(∀ n∈bb::(na++(nb++nc)),p<n/\n<h.next/\n≠t) /\
  (∀ {j:Nat} {v:SV},j<3->∃ cells',jbo (i*3+j) [v] cells=some cells'/\∀ {h5:Hp} {a':Ms.Blk} {ms':List Nat},Ok h5->h.next<=h5.next->h5.get bb=some (.arr cells' 58)->TxB h5 ([pp,ia,ee].set j v) a' ms'->ms'.Nodup->(∀ n∈ms',(n∈na++(nb++nc)∨h.next<=n)/\n<h5.next) ->
   (∀ n,n<h.next->n∉na++(nb++nc)->n≠bb->n≠t->h5.get n=h.get n)->(t<h.next)->PtS p t h5 { s with f:={ s.f with blocks:=s.f.blocks.set i a' } } ln):=by
 obtain⟨a,b,c,n1,n2,n3,h1,h2,h3,h4,h5,h6⟩:=k.ex
 obtain⟨p1,p2,p3⟩:=k.p1
 have lb:=h3.len
 obtain⟨bb,row,ms,M1,M2,cells,ix,hbg,hrd,hrl,⟨pp,ia,ee,na,nb,nc,rfl,sp,sI,sE,rfl⟩,rfl,hset⟩:=h3.upd hib
 have e0:n1++(bb::(M1++(na++(nb++nc)++M2))++n3)=(n1++(bb::M1))++((na++(nb++nc))++(M2++n3)):=by simp[f0g]
 have hd:=h5
 rw[e0] at hd
 obtain⟨d1,d2,d3⟩:=f0m.1 hd
 obtain⟨d4,d5,d6⟩:=f0m.1 d2
 have mem:∀ n∈na++(nb++nc),n∈n1++(bb::(M1++(na++(nb++nc)++M2))++n3):=fun n hn=>by rw[e0];simp only[f0e,f0f] at hn ⊢;exact .inr (.inl hn)
 have bin:bb∉na++(nb++nc):=fun hc=>d3 bb se bb (f08 _ hc) rfl
 refine⟨a,b,c,bb,pp,ia,ee,na,nb,nc,cells,h1,lb,ix,hbg,hrd,sp,sI,sE,f0r.2 ⟨bin,d4⟩,fun n hn=>?_,fun {j v} hj=>?_⟩
 .rcases f0f.1 hn with rfl | hn
  .exact h6 n se
  .exact h6 n (mem n hn)
 obtain⟨cells',q1,q2⟩:=hset (j:=j) (v:=v) hj
 refine⟨cells',q1,fun {g a' ms'} okg nx hg hE hnd hms hk ht=>?_⟩
 have o1:∀ n,(n∈n1∨n∈M1∨n∈M2∨n∈n3)->n<h.next/\p<n/\n≠t/\g.get n=h.get n:=fun n hn=>by
  have hm:n∈n1++(bb::(M1++(na++(nb++nc)++M2))++n3):=by
   rw[e0];simp only[f0e,f0f]
   rcases hn with hn | hn | hn | hn<;>simp[hn]
  have:=h6 n hm
  refine⟨this.2.1,this.1,this.2.2,hk n this.2.1 (fun hc=>?_) ?_ this.2.2⟩
  .rcases hn with hn | hn | hn | hn
   .exact d3 n (by simp[hn]) n (f08 _ hc) rfl
   .exact d3 n (by simp[hn]) n (f08 _ hc) rfl
   .exact d6 n hc n (by simp[hn]) rfl
   .exact d6 n hc n (by simp[hn]) rfl
  .rintro rfl
   rcases hn with hn | hn | hn | hn
   .exact (f0m.1 d1).2.2 n hn n se rfl
   .exact (f0r.1 (f0m.1 d1).2.1).1 hn
   .exact d3 n se n (by simp[hn]) rfl
   .exact d3 n se n (by simp[hn]) rfl
 have bp:=h6 bb se
 have nd:=jcd (A:=n1++(bb::M1)) (ns:=na++(nb++nc)) (B:=M2++n3) (N:=h.next) (ns':=ms') hd (fun n hn=>(h6 n (by rw[e0];exact hn)).2.1) hnd (fun n hn=>(hms n hn).1)
 have xp:g.get p=h.get p:=hk p p2 (fun hc=>by have:=h6 p (mem p hc);omega) oa p3
 refine⟨okg,⟨a,b,c,n1,_,n3,xp.trans h1,h2.keep (fun n hn=>(o1 n (.inl hn)).2.2.2),q2 hg hE (fun row a m hm e=>e.keep (fun n hn=>(o1 n ?_).2.2.2)),h4.keep (fun n hn=>(o1 n (by simp[hn])).2.2.2),?_,fun n hn=>?_⟩,oa⟩
 .rcases f0e.1 (hm n hn) with hc | hc
  .exact .inr (.inl hc)
  .exact .inr (.inr (.inl hc))
 .have e1:n1++((bb::(M1++(ms'++M2)))++n3)=(n1++(bb::M1))++(ms'++(M2++n3)):=by simp[f0g]
  rw[e1];exact nd
 .simp only[f0e,f0f] at hn
  rcases hn with hn | (rfl | hn | hn | hn) | hn
  .have:=o1 n (.inl hn);omega
  .omega
  .have:=o1 n (.inr (.inl hn));omega
  .have:=hms n hn
   rcases this.1 with hc | hc
   .have:=h6 n (mem n hc);omega
   .omega
  .have:=o1 n (.inr (.inr (.inl hn)));omega
  .have:=o1 n (.inr (.inr (.inr hn)));omega
end
def tkE:IB:=.seq (.block 3 (.seq (.c jhz) (.cond (.g 5) jkz jk0))) jnu
section
variable {F:Fns} {p t:Nat} {h:Hp} {s:Scr} {ln:Nat} {w:List UInt8} {ws:List (List UInt8)}
theorem j3l {F1:Fns} {h2:Hp} {l:List UInt8} {R:AV->Hp->Prop} {a' c':SV} {blk:Ms.Blk} (hwb:(w == jgp)=false) (h3:3<=ln) (ks:PtS p t h2 s ln) (hc:h2.get p=some (.arr [si s.m1,si s.m2,a',bl,si s.seed,si s.steps,c',si ln] 71)) (hi:i+1=s.f.blocks.length) (hib:s.f.blocks[i]?=some blk) (hl:s.f.blocks.length<=10000)
 (hQ:∀ bb pp ia ee na nb nc cells,h2.get bb=some (.arr cells 58)->rdB (h2.get bb) (i*3) 3=some [pp,ia,ee]->Sl h2 3 1 false EI pp blk.params na->Sl h2 62 3 false (OX h2) ia blk.instrs nb->Sl h2 65 2 false (OE h2) ee blk.edges nc->(bb::(na++(nb++nc))).Nodup->(∀ n∈bb::(na++(nb++nc)),p<n/\n<h2.next/\n≠t) ->
  (∀ {j:Nat} {v:SV},j<3->∃ cells',jbo (i*3+j) [v] cells=some cells'/\∀ {h5:Hp} {a':Ms.Blk} {ms':List Nat},Ok h5->h2.next<=h5.next->h5.get bb=some (.arr cells' 58)->TxB h5 ([pp,ia,ee].set j v) a' ms'->ms'.Nodup->(∀ n∈ms',(n∈na++(nb++nc)∨h2.next<=n)/\n<h5.next) ->
   (∀ n,n<h2.next->n∉na++(nb++nc)->n≠bb->n≠t->h5.get n=h2.get n)->(t<h2.next)->PtS p t h5 { s with f:={ s.f with blocks:=s.f.blocks.set i a' } } ln) ->
  ∀ x7 x9 x10 x11 x16 x17,WB F1 noB tkE (.mk [.s (.ptr p 0),.s (.str l),.s (.bool false),.undef,.undef,.undef,.s (.ptr bb (i*3)),x7,.s bl,x9,x10,x11,.s (.str w),.undef,.undef,.undef,x16,x17,.s (.ptr t 0)] h2) (jqh [(.tmp 2)] R)) :
 WB F1 noB tkR (.mk [.s (.ptr p 0),.s (.str l),.s (.bool false),.undef,.undef,.undef,.undef,.undef,.s bl,.undef,.undef,.undef,.s (.str w),.undef,.undef,.undef,.undef,.undef,.s (.ptr t 0)] h2) (jqh [(.tmp 2)] R):=by
 refine j3k h3 ks (fun x10 x11 x16 x17=>?_)
 obtain⟨a,b,c,bb,pp,ia,ee,na,nb,nc,cells,g1,lb,ix,hbg,hrd,sp,sI,sE,hd,hlt,hset⟩:=ks.at hib
 have eb:bl=b:=by
  rw[g1] at hc
  simp only[Option.some.injEq,AB.arr.injEq,List.cons.injEq,and_true,true_and] at hc
  exact hc.2.1.symm
 subst eb
 have e1:eqO false (some (.s (.str w))) (some (.s (.str [98,108,111,99,107])))=some (.s (.bool false)):=by rw[jhb];exact congrArg (fun b=>some (AV.s (.bool b))) hwb
 have c1:((s.f.blocks.length:Int)=0)=False:=eq_false oa
 have hss:(s.f.blocks.length:Int) - 1=(i:Int):=oa
 unfold tkB
 refine juy (jey ?_)
 unfold jkx
 simp(disch:=go_num) only[go_sem,jhc,e1,jab]
 refine jft ?_
 unfold jky
 simp(disch:=go_num) only[go_sem,jab]
 refine juy (jey ?_)
 unfold jqb
 simp(disch:=go_num) only[go_sem,lb,c1,jab]
 refine jft ?_
 unfold jqc
 simp(disch:=go_num) only[go_sem,jab]
 refine jey ?_
 unfold jqd
 simp(disch:=go_num) only[go_sem,lb,jad,hss,ix,jab]
 exact hQ bb pp ia ee na nb nc cells hbg hrd sp sI sE hd hlt hset _ _ _ _ _ _
theorem qjv {F1:Fns} {fl:Bool} {wr:List (List UInt8)} {R:AV->Hp->Prop} {x0 x15:AV} (kt:Tak h4 t wr fl) (hR:R (.s (.bool (!fl))) h4) :
 WB F1 noB jnu (.mk [x0,x1,.s (.bool false),x3,x4,x5,x6,x7,x8,x9,x10,x11,x12,x13,x14,x15,x16,x17,.s (.ptr t 0)] h4) (jqh [(.tmp 2)] R):=by
 have g:=kt.g
 refine jey ?_
 unfold jxr
 simp   only[go_sem,g]
 refine jft ?_
 unfold jxs
 simp   only[go_sem]
 omega
theorem qty (f:TkF F) (h3:3<=ln) (k:PtS p 0 h s ln) {ln0:List UInt8} {blk:Ms.Blk} (hs:jco 32 ln0=wOp::ws) (hj:ln0.length<=4000000000) (hw:∀ x∈ws,Wk x) (hn:ws.length<100000) (hi:i+1=s.f.blocks.length) (hib:s.f.blocks[i]?=some blk) (hl:s.f.blocks.length<=10000) (hlb:blk.instrs.length<=10000) (he:blk.edges=[]) (x:Ms.Ins) :
 WC (BX noB qc8 (FTk F)) 20 [.s (.ptr p 0),.s (.str ln0)] h (qtx p h ((inS ws false).1=x.op/\(inS ws false).2.1=x.ops.map jbc/\(inS ws false).2.2.1=x.spoils.map jcq) { s with f:={ s.f with blocks:=s.f.blocks.set i { blk with instrs:=blk.instrs++[x] } } } ln (!(inS ws false).2.2.2.2)):=by
 refine jin f k hs hj (fun x hx=>?_) hn ?_
 .simp only[f0f] at hx
  rcases hx with rfl | hx
  .exact Wk.of ka (by decide)
  .exact hw x hx
 intro h2 t bl ht low nx kt ks ⟨a',c',hc⟩
 have ok2:=ks.ok
 have pp:=k.p1
 have tp:=ks.p1
 refine j3l (by decide) h3 ks hc hi hib hl ?_
 intro bb p' ia ee na nb nc cells hbg hrd sp sI sE hd hlt hset x7 x9 x10 x11 x16 x17
 have rd2:=jd1 (j:=2) (c:=ee) hrd rfl
 have rd1:=jd1 (j:=1) (c:=ia) hrd rfl
 have le:=sE.len
 rw[he] at le
 have e1:eqO false (some (.s (.str wOp))) (some (.s (.str [111,112])))=some (.s (.bool true)):=by rw[jhb];rfl
 unfold tkE
 refine juy (WB.block (jey ?_))
 unfold jhz
 simp(disch:=go_num) only[go_sem,jhc,e1,rd2,le,f00,jab]
 refine j57 (t:=true) rfl ?_
 show WB (FTk F) noB jkz _ _
 unfold jkz
 refine WB.flo ?_
 unfold j3h
 have hbb:=hlt bb se
 refine WL.pure (v:=.s (.ptr bb (i*3))) (by simp only[go_sem]) ?_
 refine WL.pure (v:=.s (.ptr bb (i*3))) (by simp only[go_sem]) ?_
 refine WL.pure (v:=.s (.ptr bb (i*3))) (by simp only[go_sem]) ?_
 refine WL.pure (v:=.s (.ptr bb (i*3+1))) (by simp only[go_sem]) ?_
 refine WL.ld (v:=.s ia) (h':=h2) rfl (by simp only[go_sem,rd1]) se sI.eqN ?_
 refine WL.pure (v:=.s (.ptr t 0)) (by simp only[go_sem]) ?_
 refine WL.call (vs:=[.s (.ptr t 0)]) (by simp only[go_sem]) ?_
 refine WC.imp (qo1 f kt) ?_
 rintro _ hA ⟨ax,bx,m1,m2,rfl,s1,s2,nd12,lt12,kA,mA⟩
 obtain⟨⟨op,os,rs,wr,fl⟩,er⟩:∃ z,inS ws false=z:=⟨_,rfl⟩
 rw[er] at s1 s2 kA ⊢
 replace kA:Tak hA t wr fl:=kA
 have okA:=kA.ok
 have nA:=mA.nx
 have keepA:∀ n,n<h2.next->n≠t->hA.get n=h2.get n:=fun n hn hne=>mA.keep n hn (by simpa using hne)
 have hbgA:=(keepA bb hbb.2.1 hbb.2.2).trans hbg
 have rd1A:rdB (hA.get bb) (i*3+1) 1=some [ia]:=by rw[keepA bb hbb.2.1 hbb.2.2];exact rd1
 refine⟨fun j hj=>by simp at hj;subst hj;exact⟨_,rfl,jf2,jg8 (h2:=hA) (by simp only[go_sem,rd1A]),sI.eqN⟩,?_⟩
 have pB:(hA.push (AB.arr [.int .i64 op,ax,bx] 62)).get bb=some (.arr cells 58):=by rw[ja3 okA,if_neg oa];exact hbgA
 have rd1B:rdB (some (AB.arr cells 58)) (i*3+1) 1=some [ia]:=by rw[←hbg];exact rd1
 refine WL.mem (v:=.s (.slice hA.next 0 1 1 true 3)) (h':=hA.push (AB.arr [.int .i64 op,ax,bx] 62)) rfl rfl (by simp(disch:=go_num) only[go_sem]) (fun j hj'=>by simp at hj';subst hj';exact⟨_,rfl,jf2,jg8 (h2:=hA.push (AB.arr [.int .i64 op,ax,bx] 62)) (by simp only[go_sem,pB,rd1B]),sI.eqN⟩) ?_
 have memb:∀ n∈nb,n∈bb::(na++(nb++nc)):=fun n hn=>by simp[hn]
 have sIA:Sl hA 62 3 false (fun row y ms=>(op=x.op/\os=x.ops.map jbc/\rs=x.spoils.map jcq)->OX hA row y ms) ia blk.instrs nb:=sI.imp (fun n hn=>keepA n (hlt n (memb n hn)).2.1 (hlt n (memb n hn)).2.2) (fun row y ms hm e _=>e.keep (fun n hn=>keepA n (hlt n (memb n (hm n hn))).2.1 (hlt n (memb n (hm n hn))).2.2))
 obtain⟨hB,e4,okB,nB,kpB,ktB,slB⟩:=sIA.app1 (bytes:=56) (row:=[.int .i64 op,ax,bx]) (a:=x) (ms:=m1++m2) okA (fun n hn=>by have:=hlt n (memb n hn);omega) rfl (fun⟨g1,g2,g3⟩=>⟨ax,bx,m1,m2,false,by rw[g1],Sl.unmap (E':=EO) (g:=jbc) (fun _ _ _ e=>e) (by rw[←g2];exact s1),Sl.unmap (E':=ER) (g:=jcq) (fun _ _ _ e=>e) (by rw[←g3];exact s2),rfl⟩) oa oa
 refine WL.mem (v:=.s (.slice (hA.next+1) 0 (blk.instrs.length+1) (blk.instrs.length+1) false 3)) (h':=hB) rfl rfl (by simp only[go_sem];exact e4) (fun j hj=>by simp at hj) ?_
 refine WL.pure (v:=.s (.ptr bb (i*3))) (by simp only[go_sem]) ?_
 refine WL.pure (v:=.s (.ptr bb (i*3+1))) (by simp only[go_sem]) ?_
 have hd2:=(f0r.1 hd).2
 have bn:bb∉nb:=fun hc=>(f0r.1 hd).1 (by simp[hc])
 have hbgB:hB.get bb=some (.arr cells 58):=(kpB bb oa bn).trans hbgA
 obtain⟨cells',q1,q2⟩:=hset (j:=1) (v:=.slice (hA.next+1) 0 (blk.instrs.length+1) (blk.instrs.length+1) false 3) oa
 obtain⟨hC,eC,okC,nC,xC,gC⟩:=jxx okB (b:=bb) oa (some (.arr cells' 58))
 refine WL.mem (v:=.undef) (h':=hC) rfl rfl (by simp(disch:=go_num) only[go_sem,hbgB,q1,eC]) (fun j hj=>by simp at hj) ?_
 refine WL.nil ?_
 simp only[jdj,jab]
 have tnb:t∉nb:=fun hc=>(hlt t (memb t hc)).2.2 rfl
 have kC:Tak hC t wr fl:=kA.keep okC ((gC t oa).trans (kpB t (by have:=kt.p;omega) tnb)) oa
 have keepC:∀ n,n<h2.next->n∉nb->n≠bb->n≠t->hC.get n=h2.get n:=fun n h1 h2 h3 h4=>(gC n h3).trans ((kpB n oa h2).trans (keepA n h1 h4))
 obtain⟨d1,d2,d3⟩:=f0m.1 hd2
 obtain⟨d4,d5,d6⟩:=f0m.1 d2
 have oA:∀ n∈na,hC.get n=h2.get n:=fun n hn=>keepC n (hlt n (by simp[hn])).2.1 (fun hc=>d3 n hn n (by simp[hc]) rfl) (fun e=>(f0r.1 hd).1 (by simp[←e,hn])) (hlt n (by simp[hn])).2.2
 have oC:∀ n∈nc,hC.get n=h2.get n:=fun n hn=>keepC n (hlt n (by simp[hn])).2.1 (fun hc=>d6 n hc n hn rfl) (fun e=>(f0r.1 hd).1 (by simp[←e,hn])) (hlt n (by simp[hn])).2.2
 have oB:∀ n∈nb.tail,hC.get n=hA.get n:=fun n hn=>(gC n (fun e=>bn (e▸f0j hn))).trans (ktB n hn d4)
 have oM:∀ n∈m1++m2,hC.get n=hA.get n:=fun n hn=>(gC n (by have:=lt12 n hn;omega)).trans (kpB n (lt12 n hn).2 (fun hc=>by have:=lt12 n hn;have:=hlt n (memb n hc);omega))
 refine qjv kC ⟨rfl,fun gg=>?_,fun n hn=>(keepC n oa (fun hc=>by have:=hlt n (memb n hc);omega) oa oa).trans (low n oa),oa,okC,_,_,_,_,_,_,_,(keepC p tp.2.1 (fun hc=>by have:=hlt p (memb p hc);omega) oa tp.2.2).trans hc⟩
 have nm:∀ n∈(hA.next+1)::(nb.tail++(m1++m2)),(n∈nb∨h2.next<=n)/\n<hC.next:=fun n hn=>by
  rcases f0f.1 hn with rfl | hn
  .omega
  .rcases f0e.1 hn with hn | hn
   .have h1:=f0j hn
    have:=hlt n (memb n h1)
    exact⟨.inl h1,oa⟩
   .have:=lt12 n hn;omega
 have ndB:((hA.next+1)::(nb.tail++(m1++m2))).Nodup:=f0r.2 ⟨fun hc=>by
  rcases f0e.1 hc with hc | hc
  .have:=hlt _ (memb _ (f0j hc));omega
  .have:=lt12 _ hc;omega,f0m.2 ⟨d4.sublist (List.tail_sublist _),nd12,fun u hu v hv e=>by have:=hlt u (memb u (f0j hu));have:=lt12 v hv;omega⟩⟩
 have nd:=jcd (A:=na) (ns:=nb) (B:=nc) (N:=h2.next) (ns':=(hA.next+1)::(nb.tail++(m1++m2))) hd2 (fun n hn=>(hlt n (by simp only[f0f];exact .inr hn)).2.1) ndB (fun n hn=>(nm n hn).1)
 refine(q2 (a':={ blk with instrs:=blk.instrs++[x] }) (ms':=na++(((hA.next+1)::(nb.tail++(m1++m2)))++nc)) okC oa xC ⟨p',_,ee,na,_,nc,rfl,sp.keep oA,?_,sE.imp oC (fun row y ms hm e=>e.keep (fun n hn=>oC n (hm n hn))),rfl⟩ nd (fun n hn=>?_) (fun n h1 h2 h3 h4=>keepC n h1 (fun hc=>h2 (by simp[hc])) h3 h4) kt.p.2).setT (.inr rfl)
 .have s9:Sl hB 62 3 false (OX hC) (.slice (hA.next+1) 0 (blk.instrs.length+1) (blk.instrs.length+1) false 3) (blk.instrs++[x]) ((hA.next+1)::(nb.tail++(m1++m2))):=slB (fun row y ms hm e=>(e gg).keep (fun n hn=>by
   rcases hm n hn with hc | hc
   .exact oB n hc
   .exact oM n hc))
  exact s9.keep (fun n hn=>gC n (by
   rintro rfl
   rcases(nm n hn).1 with hc | hc
   .exact bn hc
   .omega))
 .simp only[f0e] at hn
  rcases hn with hn | hn | hn
  .have:=hlt n (by simp[hn]);exact⟨.inl (by simp[hn]),oa⟩
  .have:=nm n (by simp only[f0f,f0e] at hn ⊢;exact hn)
   exact⟨this.1.imp (fun h=>by simp[h]) id,this.2⟩
  .have:=hlt n (by simp[hn]);exact⟨.inl (by simp[hn]),oa⟩
end
section
variable {F:Fns} {p t:Nat} {h:Hp} {s:Scr} {ln:Nat} {w:List UInt8} {ws:List (List UInt8)}
theorem qtz {v:Int} {x:SV} (hx:eqN (.s x) (.s x)=true):eqN (.agg [.int .i64 v,x]) (.agg [.int .i64 v,x])=true:=by
 have h1:j7b (.int .i64 v) (.int .i64 v)=true:=by
  show ieq v v=true
  simp[jdi]
 have h2:j7b x x=true:=hx
 show oif (j7b (.int .i64 v) (.int .i64 v)) (oif (j7b x x) true false) false=true
 rw[h1,h2];rfl
theorem qg5 (f:TkF F) (h3:3<=ln) (k:PtS p 0 h s ln) {ln0:List UInt8} {blk:Ms.Blk} (hs:jco 32 ln0=jxg::ws) (hj:ln0.length<=4000000000) (hw:∀ x∈ws,Wk x) (hn:ws.length<100000) (hi:i+1=s.f.blocks.length) (hib:s.f.blocks[i]?=some blk) (hl:s.f.blocks.length<=10000) (hlb:blk.edges.length<=10000) (x:Ms.Edg) :
 WC (BX noB qc8 (FTk F)) 20 [.s (.ptr p 0),.s (.str ln0)] h (qtx p h ((jdc (ws.headD [])).1=x.block/\(jhg ws.tail (false||(jdc (ws.headD [])).2)).1=x.args.map (fun(n:Nat)=>(n:Int))) { s with f:={ s.f with blocks:=s.f.blocks.set i { blk with edges:=blk.edges++[x] } } } ln (!(jhg ws.tail (false||(jdc (ws.headD [])).2)).2.2)):=by
 have f1:=f.up1
 refine jin f k hs hj (fun x hx=>?_) hn ?_
 .simp only[f0f] at hx
  rcases hx with rfl | hx
  .exact Wk.of ka (by decide)
  .exact hw x hx
 intro h2 t bl ht low nx kt ks ⟨a',c',hc⟩
 have ok2:=ks.ok
 have pp:=k.p1
 have tp:=ks.p1
 refine j3l (by decide) h3 ks hc hi hib hl ?_
 intro bb p' ia ee na nb nc cells hbg hrd sp sI sE hd hlt hset x7 x9 x10 x11 x16 x17
 have rd2:=jd1 (j:=2) (c:=ee) hrd rfl
 have e1:eqO false (some (.s (.str jxg))) (some (.s (.str [111,112])))=some (.s (.bool false)):=by rw[jhb];rfl
 have e2:eqO false (some (.s (.str jxg))) (some (.s (.str [101,100,103,101])))=some (.s (.bool true)):=by rw[jhb];rfl
 unfold tkE
 refine juy (WB.block (jey ?_))
 unfold jhz
 simp(disch:=go_num) only[go_sem,jhc,e1,jab]
 refine j57 (t:=false) rfl ?_
 show WB (FTk F) noB jk0 _ _
 unfold jk0
 refine jey ?_
 unfold jxo
 simp(disch:=go_num) only[go_sem,jhc,e2,jab]
 refine j57 (t:=true) rfl ?_
 show WB (FTk F) noB juq _ _
 unfold juq
 refine jey ?_
 unfold jxp
 simp(disch:=go_num) only[go_sem]
 refine WC.imp (jga f1 kt) ?_
 rintro _ hA ⟨rfl,kA,nA,mA⟩
 obtain⟨⟨v,o1⟩,ev⟩:∃ z,jdc (ws.headD [])=z:=⟨_,rfl⟩
 rw[ev] at kA ⊢
 replace kA:Tak hA t ws.tail (false||o1):=kA
 have okA:=kA.ok
 obtain⟨hB,eB,okB,nB,xB,gB⟩:=jby okA Zh [.int .i64 v,.nilSlice] 65
 have kB:=kA.keep okB (gB t (by have:=kA.p;omega)) oa
 simp(disch:=go_num) only[go_sem,eB,jab]
 refine jey ?_
 unfold jxq
 simp(disch:=go_num) only[go_sem]
 refine WC.imp (jur f1 kB) ?_
 rintro _ hC ⟨y,ns,rfl,s7,lo7,kC,mC⟩
 obtain⟨⟨l,wr,fl⟩,er⟩:∃ z,jhg ws.tail (false||o1)=z:=⟨_,rfl⟩
 rw[er] at s7 kC
 have er':jhg ws.tail (false||(v,o1).2)=(l,wr,fl):=er
 rw[er']
 replace s7:Sl hC 3 1 false EZ y l ns:=s7
 replace kC:Tak hC t wr fl:=kC
 have okC:=kC.ok
 have nC:=mC.nx
 have ht2:=kt.p
 have xC:hC.get hA.next=some (.arr [.int .i64 v,.nilSlice] 65):=(mC.keep hA.next oa (by simp;omega)).trans xB
 obtain⟨hD,eD,okD,nD,xD,gD⟩:=jxx okC (b:=hA.next) oa (some (.arr [.int .i64 v,y] 65))
 simp(disch:=go_num) only[go_sem,xC,eD,jab]
 have kD:Tak hD t wr fl:=kC.keep okD (gD t oa) oa
 have keepD:∀ n,n<h2.next->n≠t->hD.get n=h2.get n:=fun n hn hne=>(gD n oa).trans ((mC.keep n oa (by simpa using hne)).trans ((gB n oa).trans (mA.keep n hn (by simpa using hne))))
 have s8:Sl hD 3 1 false EZ y l ns:=s7.keep (fun n hn=>gD n (by have:=lo7 n hn;omega))
 have hbb:=hlt bb se
 have hbgD:=(keepD bb hbb.2.1 hbb.2.2).trans hbg
 have rd2D:rdB (hD.get bb) (i*3+2) 1=some [ee]:=by rw[keepD bb hbb.2.1 hbb.2.2];exact rd2
 refine WB.flo ?_
 unfold j3i
 refine WL.pure (v:=.s (.ptr bb (i*3))) (by simp only[go_sem]) ?_
 refine WL.pure (v:=.s (.ptr bb (i*3))) (by simp only[go_sem]) ?_
 refine WL.pure (v:=.s (.ptr bb (i*3))) (by simp only[go_sem]) ?_
 refine WL.pure (v:=.s (.ptr bb (i*3+2))) (by simp only[go_sem]) ?_
 refine WL.ld (v:=.s ee) (h':=hD) rfl (by simp only[go_sem,rd2D]) se sE.eqN ?_
 refine WL.ld (v:=.agg [.int .i64 v,y]) (h':=hD) rfl (by simp only[go_sem,xD]) (fun j hj=>by simp at hj;subst hj;exact⟨_,rfl,.inl jf2⟩) (qtz s8.eqN) ?_
 have pE:(hD.push (AB.arr [.int .i64 v,y] 65)).get bb=some (.arr cells 58):=by rw[ja3 okD,if_neg oa];exact hbgD
 have rd2E:rdB (some (AB.arr cells 58)) (i*3+2) 1=some [ee]:=by rw[←hbg];exact rd2
 refine WL.mem (v:=.s (.slice hD.next 0 1 1 true 2)) (h':=hD.push (AB.arr [.int .i64 v,y] 65)) rfl rfl (by simp(disch:=go_num) only[go_sem]) (fun j hj'=>by simp at hj';subst hj';exact⟨_,rfl,jf2,jg8 (h2:=hD.push (AB.arr [.int .i64 v,y] 65)) (by simp only[go_sem,pE,rd2E]),sE.eqN⟩) ?_
 have memc:∀ n∈nc,n∈bb::(na++(nb++nc)):=fun n hn=>by simp[hn]
 have sED:Sl hD 65 2 false (fun row z ms=>(v=x.block/\l=x.args.map (fun(n:Nat)=>(n:Int)))->OE hD row z ms) ee blk.edges nc:=sE.imp (fun n hn=>keepD n (hlt n (memc n hn)).2.1 (hlt n (memc n hn)).2.2) (fun row z ms hm e _=>e.keep (fun n hn=>keepD n (hlt n (memc n (hm n hn))).2.1 (hlt n (memc n (hm n hn))).2.2))
 obtain⟨hE,e4,okE,nE,kpE,ktE,slE⟩:=sED.app1 (bytes:=32) (row:=[.int .i64 v,y]) (a:=x) (ms:=ns) okD (fun n hn=>by have:=hlt n (memc n hn);omega) rfl (fun⟨g1,g2⟩=>⟨y,by rw[g1],Sl.unmap (E':=EI) (g:=fun(n:Nat)=>(n:Int)) (fun _ _ _ e=>e) (by rw[←g2];exact s8)⟩) oa oa
 refine WL.mem (v:=.s (.slice (hD.next+1) 0 (blk.edges.length+1) (blk.edges.length+1) false 2)) (h':=hE) rfl rfl (by simp only[go_sem];exact e4) (fun j hj=>by simp at hj) ?_
 refine WL.pure (v:=.s (.ptr bb (i*3))) (by simp only[go_sem]) ?_
 refine WL.pure (v:=.s (.ptr bb (i*3+2))) (by simp only[go_sem]) ?_
 have hd2:=(f0r.1 hd).2
 have bn:bb∉nc:=fun hc=>(f0r.1 hd).1 (by simp[hc])
 have hbgE:hE.get bb=some (.arr cells 58):=(kpE bb oa bn).trans hbgD
 obtain⟨cells',q1,q2⟩:=hset (j:=2) (v:=.slice (hD.next+1) 0 (blk.edges.length+1) (blk.edges.length+1) false 2) oa
 obtain⟨hF,eF,okF,nF,xF,gF⟩:=jxx okE (b:=bb) oa (some (.arr cells' 58))
 refine WL.mem (v:=.undef) (h':=hF) rfl rfl (by simp(disch:=go_num) only[go_sem,hbgE,q1,eF]) (fun j hj=>by simp at hj) ?_
 refine WL.nil ?_
 simp only[jdj,jab]
 have tnc:t∉nc:=fun hc=>(hlt t (memc t hc)).2.2 rfl
 have kF:Tak hF t wr fl:=kD.keep okF ((gF t oa).trans (kpE t oa tnc)) oa
 have keepF:∀ n,n<h2.next->n∉nc->n≠bb->n≠t->hF.get n=h2.get n:=fun n h1 h2 h3 h4=>(gF n h3).trans ((kpE n oa h2).trans (keepD n h1 h4))
 obtain⟨d1,d2,d3⟩:=f0m.1 hd2
 obtain⟨d4,d5,d6⟩:=f0m.1 d2
 have oA:∀ n∈na,hF.get n=h2.get n:=fun n hn=>keepF n (hlt n (by simp[hn])).2.1 (fun hc=>d3 n hn n (by simp[hc]) rfl) (fun e=>(f0r.1 hd).1 (by simp[←e,hn])) (hlt n (by simp[hn])).2.2
 have oI:∀ n∈nb,hF.get n=h2.get n:=fun n hn=>keepF n (hlt n (by simp[hn])).2.1 (fun hc=>d6 n hn n hc rfl) (fun e=>(f0r.1 hd).1 (by simp[←e,hn])) (hlt n (by simp[hn])).2.2
 have oE:∀ n∈nc.tail,hF.get n=hD.get n:=fun n hn=>(gF n (fun e=>bn (e▸f0j hn))).trans (ktE n hn d5)
 have oM:∀ n∈ns,hF.get n=hD.get n:=fun n hn=>(gF n (by have:=lo7 n hn;omega)).trans (kpE n (by have:=lo7 n hn;omega) (fun hc=>by have:=lo7 n hn;have:=hlt n (memc n hc);omega))
 refine qjv kF ⟨rfl,fun gg=>?_,fun n hn=>(keepF n oa (fun hc=>by have:=hlt n (memc n hc);omega) oa oa).trans (low n oa),oa,okF,_,_,_,_,_,_,_,(keepF p tp.2.1 (fun hc=>by have:=hlt p (memc p hc);omega) oa tp.2.2).trans hc⟩
 have nm:∀ n∈(hD.next+1)::(nc.tail++ns),(n∈nc∨h2.next<=n)/\n<hF.next:=fun n hn=>by
  rcases f0f.1 hn with rfl | hn
  .omega
  .rcases f0e.1 hn with hn | hn
   .have h1:=f0j hn
    have:=hlt n (memc n h1)
    exact⟨.inl h1,oa⟩
   .have:=lo7 n hn;omega
 have ndB:((hD.next+1)::(nc.tail++ns)).Nodup:=f0r.2 ⟨fun hc=>by
  rcases f0e.1 hc with hc | hc
  .have:=hlt _ (memc _ (f0j hc));omega
  .have:=lo7 _ hc;omega,f0m.2 ⟨d5.sublist (List.tail_sublist _),ndZ s7,fun u hu v hv e=>by have:=hlt u (memc u (f0j hu));have:=lo7 v hv;omega⟩⟩
 have nd:(na++(nb++((hD.next+1)::(nc.tail++ns)))).Nodup:=by
  have e0:na++(nb++nc)=(na++nb)++(nc++[]):=se
  have:=jcd (A:=na++nb) (ns:=nc) (B:=[]) (N:=h2.next) (ns':=(hD.next+1)::(nc.tail++ns)) (by rw[←e0];exact hd2) (fun n hn=>(hlt n (by rw[←e0] at hn;simp only[f0f];exact .inr hn)).2.1) ndB (fun n hn=>(nm n hn).1)
  simpa using this
 refine(q2 (a':={ blk with edges:=blk.edges++[x] }) (ms':=na++(nb++((hD.next+1)::(nc.tail++ns)))) okF oa xF ⟨p',ia,_,na,nb,_,rfl,sp.keep oA,sI.imp oI (fun row y ms hm e=>e.keep (fun n hn=>oI n (hm n hn))),?_,rfl⟩ nd (fun n hn=>?_) (fun n h1 h2 h3 h4=>keepF n h1 (fun hc=>h2 (by simp[hc])) h3 h4) kt.p.2).setT (.inr rfl)
 .have s9:Sl hE 65 2 false (OE hF) (.slice (hD.next+1) 0 (blk.edges.length+1) (blk.edges.length+1) false 2) (blk.edges++[x]) ((hD.next+1)::(nc.tail++ns)):=slE (fun row y ms hm e=>(e gg).keep (fun n hn=>by
   rcases hm n hn with hc | hc
   .exact oE n hc
   .exact oM n hc))
  exact s9.keep (fun n hn=>gF n (by
   rintro rfl
   rcases(nm n hn).1 with hc | hc
   .exact bn hc
   .omega))
 .simp only[f0e] at hn
  rcases hn with hn | hn | hn
  .have:=hlt n (by simp[hn]);exact⟨.inl (by simp[hn]),oa⟩
  .have:=hlt n (by simp[hn]);exact⟨.inl (by simp[hn]),oa⟩
  .have:=nm n (by simp only[f0f,f0e] at hn ⊢;exact hn)
   exact⟨this.1.imp (fun h=>by simp[h]) id,this.2⟩
end
end
end Go.Proofs.YtkpadfebkaangaaGreatDoor.Ev
