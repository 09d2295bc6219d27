/- Code of functions as the interpreter has it prepared, cut at loops. -/
import Derived.Test.YtaljcpoopmedmaaDa
namespace Go.Proofs.Ytaljcpoopmedmaa.Ev
open Go Go.RowKit
set_option linter.all false
set_option maxRecDepth 100000
def j8w:IC:=(.seq (.block 3 (.seq (.region [(qP (.ixs 1 (.g 36) (.g 39))),(qA (.load 1 false (.l 0))),(qQ 34 (.mv (.l 0)))]) (.region [(qP (.mv (.g 35))),(qP (.mv (.g 34))),(qP (.mv (.g 33))),(qP (.ixs 1 (.l 2) (.l 1))),(qA (.store 1 (.l 0) (.l 1)))]))) (.region [(qP (.bin .add (.g 39) (qC 1))),(qQ 39 (.mv (.l 0)))]))
def jus:IC:=(.seq (.region [(qQ 37 (.bin .lt (.g 39) (.g 38)))]) (.seq (.cond (.g 37) .skip (.exit 2)) j8w))
def j8x:IC:=(.seq (.block 7 (.seq (.region [(qP (.ixs 5 (.g 24) (.g 27))),(qA (.load 5 true (.l 0))),(qB 23 (.new 48 [(.int .i64 0),(.int .i64 0),(.bool false),(.int .i64 0),(.int .i64 0)])),(qA (.store 5 (.l 0) (.l 1)))]) (.seq (.region [(qP (.fld 0 (.g 23))),(qA (.load 1 false (.l 0))),(qQ 22 (.bin .eq (.l 0) (qC 2)))]) (.cond (.g 22) (.region [(qP (.mv (.g 35))),(qP (.fld 1 (.g 23))),(qA (.load 1 false (.l 0))),(qP (.mv (.g 33))),(qP (.ixs 1 (.l 3) (.l 1))),(qA (.store 1 (.l 0) (.l 1)))]) .skip)))) (.region [(qP (.bin .add (.g 27) (qC 1))),(qQ 27 (.mv (.l 0)))]))
def jut:IC:=(.seq (.region [(qQ 25 (.bin .lt (.g 27) (.g 26)))]) (.seq (.cond (.g 25) .skip (.exit 6)) j8x))
def j8y:IC:=(.seq (.block 5 (.seq (.region [(qP (.ixs 3 (.g 29) (.g 32))),(qA (.load 3 true (.l 0))),(qB 28 (.new 46 [(.int .i64 0),.nilSlice,.nilSlice])),(qA (.store 3 (.l 0) (.l 1)))]) (.seq (.region [(qP (.fld 1 (.g 28))),(qB 24 (.load 1 false (.l 0))),(qQ 26 (.len (.l 0))),(qQ 27 (.mv (qC 0)))]) (.block 6 (.loop jut))))) (.region [(qP (.bin .add (.g 32) (qC 1))),(qQ 32 (.mv (.l 0)))]))
def juu:IC:=(.seq (.region [(qQ 30 (.bin .lt (.g 32) (.g 31)))]) (.seq (.cond (.g 30) .skip (.exit 4)) j8y))
def j8z:IC:=(.seq (.block 1 (.seq (.region [(qP (.mv (.g 44))),(qP (.ixs 3 (.g 41) (.g 44))),(qA (.load 3 true (.l 0))),(qB 40 (.new 36 [.nilSlice,.nilSlice,.nilSlice])),(qQ 33 (.mv (.l 3))),(qA (.store 3 (.l 1) (.l 2)))]) (.seq (.seq (.region [(qP (.fld 0 (.g 40))),(qB 36 (.load 1 false (.l 0))),(qQ 38 (.len (.l 0))),(qQ 39 (.mv (qC 0)))]) (.block 2 (.loop jus))) (.seq (.region [(qP (.fld 1 (.g 40))),(qB 29 (.load 1 false (.l 0))),(qQ 31 (.len (.l 0))),(qQ 32 (.mv (qC 0)))]) (.block 4 (.loop juu)))))) (.region [(qP (.bin .add (.g 44) (qC 1))),(qQ 44 (.mv (.l 0)))]))
def juv:IC:=(.seq (.region [(qQ 42 (.bin .lt (.g 44) (.g 43)))]) (.seq (.cond (.g 42) .skip (.exit 0)) j8z))
def j80:IC:=(.draw [((qP (.fld 0 (.g 5))),.none),((qA (.load 1 false (.l 0))),(.some [])),((qP (.bin .eq (.l 0) (qC 1))),.none),((qP (.mv (.l 0))),.none),((qS 0 true (.load 3 true (.g 46))),(.some [])),((qR 1 true (.mv (.g 35))),.none),((qR 2 true (.fld 1 (.g 5))),.none),((qS 3 true (.load 1 false (.l 0))),(.some [2])),((qR 4 true (.ixs 1 (.l 2) (.l 0))),.none),((qS 5 true (.load 1 false (.l 0))),(.some [4])),((qR 6 true (.mv (.g 17))),.none),((qS 7 true (.call 24 [(.l 6),(.l 1),(.l 0)])),.none),((qR 8 true (.not (.l 0))),.none),((qQ 4 (.pick (.l 9) (.l 0) (.c (.s (.bool false))))),.none)])
def j81:IC:=(.seq (.block 13 (.seq (.region [(qP (.ixs 5 (.g 6) (.g 9))),(qA (.load 5 true (.l 0))),(qB 5 (.new 48 [(.int .i64 0),(.int .i64 0),(.bool false),(.int .i64 0),(.int .i64 0)])),(qA (.store 5 (.l 0) (.l 1)))]) (.seq j80 (.cond (.g 4) (.seq (.region [(qQ 3 (.mv (.c (.s (.bool false)))))]) .ret) .skip)))) (.region [(qP (.bin .add (.g 9) (qC 1))),(qQ 9 (.mv (.l 0)))]))
def juw:IC:=(.seq (.region [(qQ 7 (.bin .lt (.g 9) (.g 8)))]) (.seq (.cond (.g 7) .skip (.exit 12)) j81))
def j82:IC:=(.seq (.block 11 (.seq (.region [(qP (.ixs 3 (.g 11) (.g 14))),(qA (.load 3 true (.l 0))),(qB 10 (.new 46 [(.int .i64 0),.nilSlice,.nilSlice])),(qA (.store 3 (.l 0) (.l 1)))]) (.seq (.region [(qP (.fld 1 (.g 10))),(qB 6 (.load 1 false (.l 0))),(qQ 8 (.len (.l 0))),(qQ 9 (.mv (qC 0)))]) (.block 12 (.loop juw))))) (.region [(qP (.bin .add (.g 14) (qC 1))),(qQ 14 (.mv (.l 0)))]))
def jux:IC:=(.seq (.region [(qQ 12 (.bin .lt (.g 14) (.g 13)))]) (.seq (.cond (.g 12) .skip (.exit 10)) j82))
def jzr:IC:=(.seq (.region [(qP (.fld 1 (.g 15))),(qB 11 (.load 1 false (.l 0))),(qQ 13 (.len (.l 0))),(qQ 14 (.mv (qC 0)))]) (.block 10 (.loop jux)))
def j83:IC:=(.seq (.block 9 (.seq (.region [(qP (.mv (.g 21))),(qP (.ixs 3 (.g 18) (.g 21))),(qA (.load 3 true (.l 0))),(qB 15 (.new 36 [.nilSlice,.nilSlice,.nilSlice])),(qQ 17 (.mv (.l 3))),(qA (.store 3 (.l 1) (.l 2)))]) (.seq (.seq (.region [(qA (.load 3 true (.g 46))),(qP (.mv (.g 17))),(qA (.call 24 [(.l 1),(qC 0),(.l 0)])),(qP (.not (.l 0))),(qP (.mv (.l 0))),(qR 0 false (.mv (.g 17))),(qR 1 false (.bin .gt (.l 0) (qC 0))),(qR 2 false (.mv (.l 0))),(qR 0 true (.fld 1 (.g 46))),(qS 1 true (.load 1 false (.l 0))),(qR 2 true (.mv (.g 17))),(qR 3 true (.ixs 1 (.l 1) (.l 0))),(qS 4 true (.load 1 false (.l 0))),(qR 5 true (.bin .lt (.l 0) (qC 0))),(qR 9 false (.pick (.l 6) (.l 0) (.c (.s (.bool false))))),(qQ 16 (.pick (.l 10) (.c (.s (.bool true))) (.l 0)))]) (.cond (.g 16) (.seq (.region [(qQ 3 (.mv (.c (.s (.bool false)))))]) .ret) .skip)) jzr))) (.region [(qP (.bin .add (.g 21) (qC 1))),(qQ 21 (.mv (.l 0)))]))
def juy:IC:=(.seq (.region [(qQ 19 (.bin .lt (.g 21) (.g 20)))]) (.seq (.cond (.g 19) .skip (.exit 8)) j83))
def j84:IC:=(.seq (.region [(qP (.fld 0 (.g 48))),(qA (.load 1 false (.l 0))),(qP (.len (.l 0))),(qA (.mkslice 3 1 8 [(.int .i64 0)] (.l 0) (.l 0))),(qQ 35 (.mv (.l 0)))]) (.seq (.seq (.region [(qP (.fld 1 (.g 48))),(qB 41 (.load 1 false (.l 0))),(qQ 43 (.len (.l 0))),(qQ 44 (.mv (qC 0)))]) (.block 0 (.loop juv))) (.seq (.seq (.region [(qP (.fld 1 (.g 48))),(qB 18 (.load 1 false (.l 0))),(qQ 20 (.len (.l 0))),(qQ 21 (.mv (qC 0)))]) (.block 8 (.loop juy))) (.seq (.region [(qQ 3 (.mv (.c (.s (.bool true)))))]) .ret))))
def qdj:IC:=(.seq (.region [(qQ 3 (.mv (.c (.s (.bool false)))))]) (.seq (.region [(qP (.mv (.g 0))),(qP (.mv (.g 1))),(qA (.call 17 [(.l 1),(.l 0)])),(qB 49 (.new 30 [(.int .i64 0),(.int .i64 0)])),(qA (.store 2 (.l 0) (.l 1)))]) (.seq (.region [(qA (.load 2 true (.g 49))),(qP (.mv (.g 2))),(qA (.call 16 [(.l 1),(.l 0)])),(qB 48 (.new 26 [.nilSlice,.nilSlice])),(qA (.store 2 (.l 0) (.l 1)))]) (.seq (.region [(qA (.load 2 true (.g 48))),(qA (.load 2 true (.g 49))),(qA (.call 23 [(.l 1),(.l 0)])),(qP (.mv (.l 0))),(qP (.ext 0 (.l 0))),(qP (.ext 1 (.l 1))),(qB 46 (.new 53 [.nilSlice,.nilSlice,.nilSlice])),(qA (.store 3 (.l 0) (.l 2))),(qQ 47 (.mv (.l 2)))]) (.seq (.seq (.region [(qP (.mv (.g 47))),(qP (.bin .ne (.l 0) (qC 0))),(qP (.mv (.l 0))),(qR 0 false (.fld 1 (.g 46))),(qS 1 false (.load 1 false (.l 0))),(qR 2 false (.len (.l 0))),(qR 3 false (.fld 1 (.g 48))),(qS 4 false (.load 1 false (.l 0))),(qR 5 false (.len (.l 0))),(qR 6 false (.bin .ne (.l 3) (.l 0))),(qP (.pick (.l 7) (.c (.s (.bool true))) (.l 0))),(qP (.mv (.l 0))),(qR 0 false (.fld 1 (.g 46))),(qS 1 false (.load 1 false (.l 0))),(qR 2 false (.ixs 1 (.l 0) (qC 0))),(qS 3 false (.load 1 false (.l 0))),(qR 4 false (.bin .ne (.l 0) (qC (-1)))),(qQ 45 (.pick (.l 5) (.c (.s (.bool true))) (.l 0)))]) (.cond (.g 45) (.seq (.region [(qQ 3 (.mv (.c (.s (.bool false)))))]) .ret) .skip)) j84)))))
theorem qr1:T 10=some (.mk qdj 3 47 [(.tmp 3)]):=by kernel_rfl
open Go Go.RowKit Go.Proofs.Ytaljcpoopmedmaa.Ms
attribute [local go_sem] Int.cast_ofNat_Int Int.natCast_zero Int.natCast_one decide_eq_true_eq decide_eq_false_iff_not Bool.false_eq_true and_true true_and List.cons_append List.nil_append reduceCtorEq decide_true decide_false Bool.not_true Bool.not_false Nat.add_zero Nat.zero_add Option.some.injEq Bool.true_eq_false not_true_eq_false not_false_eq_true Hp.next_push Hp.next_put Nat.add_assoc Int.reduceToNat Nat.reduceAdd Nat.reduceMul Nat.reduceEqDiff Int.reduceEq Int.reduceLT Int.reduceLE Int.reduceNeg Int.reduceAdd Int.reduceSub Int.reduceMul Int.reduceNe
attribute [local go_sem ↓] reduceIte
set_option maxHeartbeats 2000000
def fl1 (T:List (Nat×Int)):List SV:=T.map (fun p=>si (p.1:Int))
structure MdI (hi:Hp) (f:Fc) (bA:Nat) (T:List (Nat×Int)):Prop where
 ok:Ok hi
 hs:T.length=f.values.length
 lt:1<=bA/\bA<hi.next
 xA:hi.get bA=some (.arr (fl1 T) 3)
section
variable {hi hj:Hp} {f:Fc} {bA:Nat} {T:List (Nat×Int)}
theorem MdI.keep (k:MdI hi f bA T) (ok:Ok hj) (hn:hi.next<=hj.next) (g:∀ n,n<hi.next->hj.get n=hi.get n):MdI hj f bA T :=
 ⟨ok,k.hs,⟨k.lt.1,Nat.lt_of_lt_of_le k.lt.2 hn⟩,(g _ k.lt.2).trans k.xA⟩
theorem MdI.tell (k:MdI hi f bA T) {v:Nat} (hv:v<f.values.length) (p:Nat×Int):wrB hi bA (hi.get bA) v [si (p.1:Int)]=some (hi.put bA (some (.arr (fl1 (T.set v p)) 3)))/\MdI (hi.put bA (some (.arr (fl1 (T.set v p)) 3))) f bA (T.set v p):=by
 have hvT:v<T.length:=by rw [k.hs];exact hv
 refine ⟨?_,⟨jad k.ok,by rw [List.length_set];exact k.hs,by rw [Hp.next_put];exact k.lt,by rw [jaj k.ok k.lt.1,if_pos rfl]⟩⟩
 rw [k.xA,jlt,jjg (by unfold fl1;rw [List.length_map];exact hvT)]
 show some (hi.put bA (some (.arr ((fl1 T).set v (si (p.1:Int))) 3)))=_
 unfold fl1
 rw [List.map_set]
end
theorem qo2 {f:Fc} {ps:List Nat} {b bA:Nat} (hl:ps.length<=10000) (hp:∀ v∈ps,v<f.values.length) {x0 x1 x2 x3 x4 x5 x6 x7 x8 x9 x10 x11 x12 x13 x14 x15 x16 x17 x18 x19 x20 x21 x22 x23 x24 x25 x26 x27 x28 x29 x30 x31 x32 x40 x41 x42 x43 x44 x45 x46 x47 x48 x49:AV} {Q:Ex->St->Prop} :
 ∀ (rest done:List Nat) (_:done++rest=ps) {T:List (Nat×Int)} {hi:Hp} (_:MdI hi f bA T) {x34 x37:AV}
  (hQ:∀ hj x34 x37,MdI hj f bA (spF T (evP b rest))->hj.next=hi.next->(∀ n,n≠bA->hj.get n=hi.get n)->Q (.exit 2) (.mk [x0,x1,x2,x3,x4,x5,x6,x7,x8,x9,x10,x11,x12,x13,x14,x15,x16,x17,x18,x19,x20,x21,x22,x23,x24,x25,x26,x27,x28,x29,x30,x31,x32,vi b,x34,.s (.slice bA 0 f.values.length f.values.length true 1),.s (jah jaz ps),x37,vi ps.length,vi ps.length,x40,x41,x42,x43,x44,x45,x46,x47,x48,x49] hj)),
  W F13 jus.loop (.mk [x0,x1,x2,x3,x4,x5,x6,x7,x8,x9,x10,x11,x12,x13,x14,x15,x16,x17,x18,x19,x20,x21,x22,x23,x24,x25,x26,x27,x28,x29,x30,x31,x32,vi b,x34,.s (.slice bA 0 f.values.length f.values.length true 1),.s (jah jaz ps),x37,vi ps.length,vi done.length,x40,x41,x42,x43,x44,x45,x46,x47,x48,x49] hi) Q
 | [],done,hdn,T,hi,I,x34,x37,hQ=>by
  rw [List.append_nil] at hdn
  subst hdn
  rw [jan]
  unfold jus
  simp (disch:=first|omega|simp only[List.length]|apply_rules[jaa,jac,jad]) only [go_sem,Int.lt_irrefl]
  exact hQ hi _ _ I rfl (fun _ _=>rfl)
 | v::rest,done,hdn,T,hi,I,x34,x37,hQ=>by
  have hlt1:done.length<ps.length:=by rw [←hdn];simp
  have hlt:(done.length:Int)<ps.length:=by omega
  have hget:ps[done.length]?=some v:=by rw [←hdn];simp
  have hv:=hp v (List.mem_of_getElem? hget)
  have hix:=jak (enc:=jaz) (size:=1) hget rfl
  have hdn':(done++[v])++rest=ps:=by rw [←hdn];simp
  have hs:(done.length:Int)+1=(((done++[v]).length:Nat):Int):=by simp
  have ok:=I.ok
  have hxi:=ja5 (size:=1) (b:=bA) (off:=0) (len:=f.values.length) (mc:=f.values.length) (sz:=1) (ex:=true) (m:=v) hv
  rw [Nat.zero_add,Nat.mul_one] at hxi
  obtain ⟨t1,t2⟩:=I.tell hv (b,-1)
  simp only at t1
  rw [jan]
  unfold jus j8w
  simp (disch:=first|omega|simp only[List.length]|apply_rules[jaa,jac,jad]) only [go_sem,jag,eq_true hlt,hix,jaz,hxi,t1,hs]
  exact qo2 hl hp rest (done++[v]) hdn' t2 (fun hj x34 x37 J n g=>hQ hj x34 x37 J (n.trans (Hp.next_put ..)) (fun m hm=>(g m hm).trans (by rw [jaj I.ok I.lt.1,if_neg hm])))
theorem qks {f:Fc} {l:List Ms.Opd} {b bA:Nat} (i:Nat) (hl:l.length<=10000) (hp:∀ o∈l,o.value<f.values.length) {x0 x1 x2 x3 x4 x5 x6 x7 x8 x9 x10 x11 x12 x13 x14 x15 x16 x17 x18 x19 x20 x21 x28 x29 x30 x31 x32 x34 x36 x37 x38 x39 x40 x41 x42 x43 x44 x45 x46 x47 x48 x49:AV} {Q:Ex->St->Prop} :
 ∀ (rest done:List Ms.Opd) (_:done++rest=l) {T:List (Nat×Int)} {hi:Hp} (_:MdI hi f bA T) {x22 x23 x25:AV}
  (hQ:∀ hj x22 x23 x25,MdI hj f bA (spF T (evO b i rest))->hi.next<=hj.next->(∀ n,n<hi.next->n≠bA->hj.get n=hi.get n)->Q (.exit 6) (.mk [x0,x1,x2,x3,x4,x5,x6,x7,x8,x9,x10,x11,x12,x13,x14,x15,x16,x17,x18,x19,x20,x21,x22,x23,.s (jah jbc l),x25,vi l.length,vi l.length,x28,x29,x30,x31,x32,vi b,x34,.s (.slice bA 0 f.values.length f.values.length true 1),x36,x37,x38,x39,x40,x41,x42,x43,x44,x45,x46,x47,x48,x49] hj)),
  W F13 jut.loop (.mk [x0,x1,x2,x3,x4,x5,x6,x7,x8,x9,x10,x11,x12,x13,x14,x15,x16,x17,x18,x19,x20,x21,x22,x23,.s (jah jbc l),x25,vi l.length,vi done.length,x28,x29,x30,x31,x32,vi b,x34,.s (.slice bA 0 f.values.length f.values.length true 1),x36,x37,x38,x39,x40,x41,x42,x43,x44,x45,x46,x47,x48,x49] hi) Q
 | [],done,hdn,T,hi,I,x22,x23,x25,hQ=>by
  rw [List.append_nil] at hdn
  subst hdn
  rw [jan]
  unfold jut
  simp (disch:=first|omega|simp only[List.length]|apply_rules[jaa,jac,jad]) only [go_sem,Int.lt_irrefl]
  exact hQ hi _ _ _ I (Nat.le_refl _) (fun _ _ _=>rfl)
 | o::rest,done,hdn,T,hi,I,x22,x23,x25,hQ=>by
  have hlt1:done.length<l.length:=by rw [←hdn];simp
  have hlt:(done.length:Int)<l.length:=by omega
  have hget:l[done.length]?=some o:=by rw [←hdn];simp
  have hv:=hp o (List.mem_of_getElem? hget)
  have hix:=jak (enc:=jbc) (size:=5) hget rfl
  have hdn':(done++[o])++rest=l:=by rw [←hdn];simp
  have hs:(done.length:Int)+1=(((done++[o]).length:Nat):Int):=by simp
  have ok:=I.ok
  obtain ⟨hA,eA,okA,nA,xA,gA⟩:=jcs ok [.int .i64 0,.int .i64 0,.bool false,.int .i64 0,.int .i64 0] (jbc o) 48
  have IA:=I.keep okA (by omega) gA
  unfold jbc at xA eA
  rw [jan]
  unfold jut j8x
  by_cases e:o.kind=2
  ·have c1:((o.kind:Int)=2)=True:=by simp;omega
   have ed:evO b i (o::rest)=(o.value,(b,(i:Int)))::evO b i rest:=by unfold evO dfO;rw [List.filter_cons_of_pos (by simpa using e)];rfl
   have hxi:=ja5 (size:=1) (b:=bA) (off:=0) (len:=f.values.length) (mc:=f.values.length) (sz:=1) (ex:=true) (m:=o.value) hv
   rw [Nat.zero_add,Nat.mul_one] at hxi
   obtain ⟨t1,t2⟩:=IA.tell hv (b,(i:Int))
   simp only at t1
   simp (disch:=first|omega|simp only[List.length]|apply_rules[jaa,jac,jad]) only [go_sem,jag,eq_true hlt,hix,jbc,eA,xA,c1,hxi,t1,hs]
   exact qks i hl hp rest (done++[o]) hdn' t2 (fun hj x22 x23 x25 J n g=>hQ hj x22 x23 x25 (by rw [ed];exact J) (by rw [Hp.next_put] at n;omega) (fun m hm hne=>(g m (by rw [Hp.next_put];omega) hne).trans ((by rw [jaj IA.ok IA.lt.1,if_neg hne]:_=hA.get m).trans (gA m hm))))
  ·have c1:((o.kind:Int)=2)=False:=by simp;omega
   have ed:evO b i (o::rest)=evO b i rest:=by unfold evO dfO;rw [List.filter_cons_of_neg (by simpa using e)]
   simp (disch:=first|omega|simp only[List.length]|apply_rules[jaa,jac,jad]) only [go_sem,jag,eq_true hlt,hix,jbc,eA,xA,c1,hs]
   exact qks i hl hp rest (done++[o]) hdn' IA (fun hj x22 x23 x25 J n g=>hQ hj x22 x23 x25 (by rw [ed];exact J) (by omega) (fun m hm hne=>(g m (by omega) hne).trans (gA m hm)))
theorem qo3 {f:Fc} {l:List Ms.Ins} {b bA:Nat} (hl:l.length<=10000) (hp:∀ x∈l,x.ops.length<=6/\∀ o∈x.ops,o.value<f.values.length) {x0 x1 x2 x3 x4 x5 x6 x7 x8 x9 x10 x11 x12 x13 x14 x15 x16 x17 x18 x19 x20 x21 x34 x36 x37 x38 x39 x40 x41 x42 x43 x44 x45 x46 x47 x48 x49:AV} {Q:Ex->St->Prop} :
 ∀ (rest done:List Ms.Ins) (_:done++rest=l) {T:List (Nat×Int)} {hi:Hp} (_:MdI hi f bA T) {x22 x23 x24 x25 x26 x27 x28 x30:AV}
  (hQ:∀ hj x22 x23 x24 x25 x26 x27 x28 x30,MdI hj f bA (spF T (evI b done.length rest))->hi.next<=hj.next->(∀ n,n<hi.next->n≠bA->hj.get n=hi.get n)->Q (.exit 4) (.mk [x0,x1,x2,x3,x4,x5,x6,x7,x8,x9,x10,x11,x12,x13,x14,x15,x16,x17,x18,x19,x20,x21,x22,x23,x24,x25,x26,x27,x28,.s (jah jdw l),x30,vi l.length,vi l.length,vi b,x34,.s (.slice bA 0 f.values.length f.values.length true 1),x36,x37,x38,x39,x40,x41,x42,x43,x44,x45,x46,x47,x48,x49] hj)),
  W F13 juu.loop (.mk [x0,x1,x2,x3,x4,x5,x6,x7,x8,x9,x10,x11,x12,x13,x14,x15,x16,x17,x18,x19,x20,x21,x22,x23,x24,x25,x26,x27,x28,.s (jah jdw l),x30,vi l.length,vi done.length,vi b,x34,.s (.slice bA 0 f.values.length f.values.length true 1),x36,x37,x38,x39,x40,x41,x42,x43,x44,x45,x46,x47,x48,x49] hi) Q
 | [],done,hdn,T,hi,I,x22,x23,x24,x25,x26,x27,x28,x30,hQ=>by
  rw [List.append_nil] at hdn
  subst hdn
  rw [jan]
  unfold juu
  simp (disch:=first|omega|simp only[List.length]|apply_rules[jaa,jac,jad]) only [go_sem,Int.lt_irrefl]
  exact hQ hi _ _ _ _ _ _ _ _ I (Nat.le_refl _) (fun _ _ _=>rfl)
 | x::rest,done,hdn,T,hi,I,x22,x23,x24,x25,x26,x27,x28,x30,hQ=>by
  have hlt1:done.length<l.length:=by rw [←hdn];simp
  have hlt:(done.length:Int)<l.length:=by omega
  have hget:l[done.length]?=some x:=by rw [←hdn];simp
  have hv:=hp x (List.mem_of_getElem? hget)
  have hix:=jak (enc:=jdw) (size:=3) hget rfl
  have hdn':(done++[x])++rest=l:=by rw [←hdn];simp
  have hl2:(done++[x]).length=done.length+1:=by simp
  have hs:(done.length:Int)+1=(((done++[x]).length:Nat):Int):=by simp
  have ok:=I.ok
  obtain ⟨hA,eA,okA,nA,xA,gA⟩:=jcs ok [.int .i64 0,.nilSlice,.nilSlice] (jdw x) 46
  have IA:=I.keep okA (by omega) gA
  have l1:=jal (enc:=jbc) (l:=x.ops)
  unfold jdw at xA eA
  rw [jan]
  unfold juu j8y
  simp (disch:=first|omega|simp only[List.length]|apply_rules[jaa,jac,jad]) only [go_sem,jag,eq_true hlt,hix,jdw,eA,xA,l1]
  refine qks done.length (by omega) hv.2 x.ops [] rfl IA (fun hj x22 x23 x25 J n g=>?_)
  simp (disch:=first|omega|simp only[List.length]|apply_rules[jaa,jac,jad]) only [go_sem,jag,hs]
  exact qo3 hl hp rest (done++[x]) hdn' J (fun hk x22 x23 x24 x25 x26 x27 x28 x30 J' n' g'=>hQ hk x22 x23 x24 x25 x26 x27 x28 x30 (by unfold evI;rw [jl6,←hl2];exact J') (by omega) (fun m hm hne=>(g' m (by omega) hne).trans ((g m (by omega) hne).trans (gA m hm))))
theorem qo4 {f:Fc} {bA:Nat} (hl:f.blocks.length<=10000) (hp:∀ b∈f.blocks,b.params.length<=10000/\b.instrs.length<=10000/\(∀ v∈b.params,v<f.values.length)/\∀ x∈b.instrs,x.ops.length<=6/\∀ o∈x.ops,o.value<f.values.length) {x0 x1 x2 x3 x4 x5 x6 x7 x8 x9 x10 x11 x12 x13 x14 x15 x16 x17 x18 x19 x20 x21 x45 x46 x47 x48 x49:AV} {Q:Ex->St->Prop} :
 ∀ (rest done:List Blk) (_:done++rest=f.blocks) {T:List (Nat×Int)} {hi:Hp} (_:MdI hi f bA T) {x22 x23 x24 x25 x26 x27 x28 x29 x30 x31 x32 x33 x34 x36 x37 x38 x39 x40 x42:AV}
  (hQ:∀ hj x22 x23 x24 x25 x26 x27 x28 x29 x30 x31 x32 x33 x34 x36 x37 x38 x39 x40 x42,MdI hj f bA (spF T (evL done.length rest))->hi.next<=hj.next->(∀ n,n<hi.next->n≠bA->hj.get n=hi.get n)->Q (.exit 0) (.mk [x0,x1,x2,x3,x4,x5,x6,x7,x8,x9,x10,x11,x12,x13,x14,x15,x16,x17,x18,x19,x20,x21,x22,x23,x24,x25,x26,x27,x28,x29,x30,x31,x32,x33,x34,.s (.slice bA 0 f.values.length f.values.length true 1),x36,x37,x38,x39,x40,.s (jah ja3 f.blocks),x42,vi f.blocks.length,vi f.blocks.length,x45,x46,x47,x48,x49] hj)),
  W F13 juv.loop (.mk [x0,x1,x2,x3,x4,x5,x6,x7,x8,x9,x10,x11,x12,x13,x14,x15,x16,x17,x18,x19,x20,x21,x22,x23,x24,x25,x26,x27,x28,x29,x30,x31,x32,x33,x34,.s (.slice bA 0 f.values.length f.values.length true 1),x36,x37,x38,x39,x40,.s (jah ja3 f.blocks),x42,vi f.blocks.length,vi done.length,x45,x46,x47,x48,x49] hi) Q
 | [],done,hdn,T,hi,I,x22,x23,x24,x25,x26,x27,x28,x29,x30,x31,x32,x33,x34,x36,x37,x38,x39,x40,x42,hQ=>by
  rw [List.append_nil] at hdn
  rw [jan,hdn]
  unfold juv
  simp (disch:=first|omega|simp only[List.length]|apply_rules[jaa,jac,jad]) only [go_sem,Int.lt_irrefl]
  exact hQ hi _ _ _ _ _ _ _ _ _ _ _ _ _ _ _ _ _ _ _ I (Nat.le_refl _) (fun _ _ _=>rfl)
 | b::rest,done,hdn,T,hi,I,x22,x23,x24,x25,x26,x27,x28,x29,x30,x31,x32,x33,x34,x36,x37,x38,x39,x40,x42,hQ=>by
  have hlt1:done.length<f.blocks.length:=by rw [←hdn];simp
  have hlt:(done.length:Int)<f.blocks.length:=by omega
  have hget:f.blocks[done.length]?=some b:=by rw [←hdn];simp
  obtain ⟨p1,p2,p3,p4⟩:=hp b (List.mem_of_getElem? hget)
  have hix:=jak (enc:=ja3) (size:=3) hget rfl
  have hdn':(done++[b])++rest=f.blocks:=by rw [←hdn];simp
  have hl2:(done++[b]).length=done.length+1:=by simp
  have hs:(done.length:Int)+1=(((done++[b]).length:Nat):Int):=by simp
  have ok:=I.ok
  obtain ⟨hA,eA,okA,nA,xA,gA⟩:=jcs ok [.nilSlice,.nilSlice,.nilSlice] (ja3 b) 36
  have IA:=I.keep okA (by omega) gA
  have l1:=jal (enc:=jaz) (l:=b.params)
  have l2:=jal (enc:=jdw) (l:=b.instrs)
  have hneA:hi.next≠bA:=by have:=I.lt;omega
  unfold ja3 at xA eA
  rw [jan]
  unfold juv j8z
  simp (disch:=first|omega|simp only[List.length]|apply_rules[jaa,jac,jad]) only [go_sem,jag,eq_true hlt,hix,ja3,eA,xA,l1]
  refine qo2 p1 p3 b.params [] rfl IA (fun hj x34 x37 J n g=>?_)
  have xJ:=(g _ hneA).trans xA
  simp (disch:=first|omega|simp only[List.length]|apply_rules[jaa,jac,jad]) only [go_sem,xJ,l2]
  refine qo3 p2 p4 b.instrs [] rfl J (fun hk x22 x23 x24 x25 x26 x27 x28 x30 J' n' g'=>?_)
  simp (disch:=first|omega|simp only[List.length]|apply_rules[jaa,jac,jad]) only [go_sem,jag,hs]
  exact qo4 hl hp rest (done++[b]) hdn' J' (fun h2 x22 x23 x24 x25 x26 x27 x28 x29 x30 x31 x32 x33 x34 x36 x37 x38 x39 x40 x42 J2 n2 g2=>hQ h2 x22 x23 x24 x25 x26 x27 x28 x29 x30 x31 x32 x33 x34 x36 x37 x38 x39 x40 x42 (by
   unfold evL evB
   rw [jl6,jl6,←hl2];exact J2) (by omega) (fun m hm hne=>(g2 m (by omega) hne).trans ((g' m (by omega) hne).trans ((g m hne).trans (gA m hm)))))
theorem qkt {idom:List Int} (hdec:∀ (i:Nat) (c:Int),idom[i]?=some c->c<i) {a:Nat} {b:Int} (h:Dom idom a b):∀ {k:Nat},b<k->dmF idom a k b=true:=by
 induction h with
 | refl =>
  intro k hk
  cases k with
  | zero=>omega
  | succ k=>unfold dmF;rw [if_neg (by omega),if_pos rfl]
 | @step b c h1 h2 ih =>
  intro k hk
  cases k with
  | zero=>omega
  | succ k =>
   unfold dmF
   rw [if_neg (by omega)]
   split
   ·rfl
   ·rw [Int.toNat_natCast,List.getD_eq_getElem?_getD,h1]
    exact ih (by have:=hdec b c h1;omega)
def iaB (s:List Bool):Bool:=(List.range (jbd s).length).all (fun (k:Nat)=>dmF (jbd s) 0 ((jbd s).length+1) k&&(decide ((jbd s).getD k 0<k)&&(k == 0||decide (0<=(jbd s).getD k (-1)))))
theorem qku:(shp 5).all iaB=true:=by kernel_rfl
theorem qdk {s:List Bool} (hs:s.length<=5) {k:Nat} (hk:k<(jbd s).length):dmF (jbd s) 0 ((jbd s).length+1) k=true/\∃ c,(jbd s)[k]?=some c/\c<k/\(k≠0->0<=c):=by
 have h1:=jzp qku hs
 unfold iaB at h1
 rw [List.all_eq_true] at h1
 have h2:=h1 k (List.mem_range.2 hk)
 obtain ⟨c,hc⟩:∃ c,(jbd s)[k]?=some c:=⟨_,List.getElem?_eq_getElem hk⟩
 simp only [List.getD_eq_getElem?_getD,hc,Option.getD_some,Bool.and_eq_true,decide_eq_true_eq,Bool.or_eq_true,beq_iff_eq] at h2
 exact ⟨h2.1,c,hc,h2.2.1,fun h=>h2.2.2.resolve_left h⟩
theorem qo5 {f:Fc} {s:List Bool} (hs:s.length<=5) {v k i:Nat} (hk:k<(jbd s).length) (h:KT (jbd s) (jc0 f) v k i):∃ b:Nat,((jc0 f).map (·.1))[v]?=some b/\dmF (jbd s) b ((jbd s).length+1) k=true:=by
 obtain ⟨⟨b,n⟩,h1,h2⟩:=h
 refine ⟨b,by rw [List.getElem?_map,h1];rfl,?_⟩
 have hdec:∀ (i:Nat) (c:Int),(jbd s)[i]?=some c->c<i:=fun i c hc=>by
  have hi:i<(jbd s).length:=by
   rcases Nat.lt_or_ge i (jbd s).length with h | h
   ·exact h
   ·rw [List.getElem?_eq_none h] at hc;cases hc
  obtain ⟨_,c',h3,h4,_⟩:=qdk hs hi
  rw [hc] at h3;cases h3;exact h4
 have hd:Dom (jbd s) b k:=by
  rcases h2 with ⟨e,_⟩ | ⟨_,e⟩
  ·simp only at e;subst e;exact .refl
  ·exact e
 exact qkt hdec hd (by omega)
structure IaK (hi:Hp) (f:Fc) (s:List Bool) (bT bA:Nat):Prop where
 ok:Ok hi
 lt:bT<hi.next/\bA<hi.next
 xT:hi.get bT=some (.arr [jah jaz (jp0 s 0),jah jfl (jbd s),jah jaz (j86 s)] 53)
 xA:hi.get bA=some (.arr (fl1 (jc0 f)) 3)
theorem IaK.keep {hi hj:Hp} {f:Fc} {s:List Bool} {bT bA:Nat} (k:IaK hi f s bT bA) (ok:Ok hj) (hn:hi.next<=hj.next) (g:∀ n,n<hi.next->hj.get n=hi.get n):IaK hj f s bT bA :=
 ⟨ok,⟨Nat.lt_of_lt_of_le k.lt.1 hn,Nat.lt_of_lt_of_le k.lt.2 hn⟩,(g _ k.lt.1).trans k.xT,(g _ k.lt.2).trans k.xA⟩
theorem qkv {f:Fc} {s:List Bool} (hs5:s.length<=5) {l:List Ms.Opd} {k i bT bA:Nat} (hk:k<(jbd s).length) (hl:l.length<=10000) (hp:∀ o∈l,o.value<f.values.length/\(o.kind=1->KT (jbd s) (jc0 f) o.value k i)) {x0 x1 x2 x3 x10 x11 x12 x13 x14 x15 x16 x18 x19 x20 x21 x22 x23 x24 x25 x26 x27 x28 x29 x30 x31 x32 x33 x34 x36 x37 x38 x39 x40 x41 x42 x43 x44 x45 x47 x48 x49:AV} {Q:Ex->St->Prop} :
 ∀ (d j:Nat) (_:j+d=l.length) {hi:Hp} (_:IaK hi f s bT bA) {x4 x5 x7:AV}
  (hQ:∀ hj x4 x5 x7,IaK hj f s bT bA->hi.next<=hj.next->(∀ n,n<hi.next->hj.get n=hi.get n)->Q (.exit 12) (.mk [x0,x1,x2,x3,x4,x5,.s (jah jbc l),x7,vi l.length,vi l.length,x10,x11,x12,x13,x14,x15,x16,vi k,x18,x19,x20,x21,x22,x23,x24,x25,x26,x27,x28,x29,x30,x31,x32,x33,x34,.s (.slice bA 0 f.values.length f.values.length true 1),x36,x37,x38,x39,x40,x41,x42,x43,x44,x45,.s (.ptr bT 0),x47,x48,x49] hj)),
  W F13 juw.loop (.mk [x0,x1,x2,x3,x4,x5,.s (jah jbc l),x7,vi l.length,vi j,x10,x11,x12,x13,x14,x15,x16,vi k,x18,x19,x20,x21,x22,x23,x24,x25,x26,x27,x28,x29,x30,x31,x32,x33,x34,.s (.slice bA 0 f.values.length f.values.length true 1),x36,x37,x38,x39,x40,x41,x42,x43,x44,x45,.s (.ptr bT 0),x47,x48,x49] hi) Q
 | 0,j,hd,hi,I,x4,x5,x7,hQ=>by
  obtain rfl:j=l.length:=by omega
  rw [jan]
  unfold juw
  simp (disch:=first|omega|simp only[List.length]|apply_rules[jaa,jac,jad]) only [go_sem,Int.lt_irrefl]
  exact hQ hi _ _ _ I (Nat.le_refl _) (fun _ _=>rfl)
 | d+1,j,hd,hi,I,x4,x5,x7,hQ=>by
  have hlt:(j:Int)<(l.length:Int):=by omega
  obtain ⟨o,hio⟩:∃ y,l[j]?=some y:=⟨_,List.getElem?_eq_getElem (by omega)⟩
  obtain ⟨hv,ho⟩:=hp o (List.mem_of_getElem? hio)
  have hix:=jak (enc:=jbc) (size:=5) hio rfl
  have hs:(j:Int)+1=((j+1:Nat):Int):=by omega
  have ok:=I.ok
  obtain ⟨hA,eA,okA,nA,xA,gA⟩:=jcs ok [.int .i64 0,.int .i64 0,.bool false,.int .i64 0,.int .i64 0] (jbc o) 48
  have IA:=I.keep okA (by omega) gA
  have xT:=IA.xT
  have hh:∀ n:Nat,(hA.next<=n/\n<hA.next)=False:=fun n=>eq_false (by omega)
  unfold jbc at xA eA
  rw [jan]
  unfold juw j81 j80
  by_cases e:o.kind=1
  ·have c1:((o.kind:Int)=1)=True:=by simp;omega
   obtain ⟨b,hb1,hb2⟩:=qo5 hs5 hk (ho e)
   have hxi:=ja5 (size:=1) (b:=bA) (off:=0) (len:=f.values.length) (mc:=f.values.length) (sz:=1) (ex:=true) (m:=o.value) hv
   rw [Nat.zero_add,Nat.mul_one] at hxi
   have hrd:rdB (hA.get bA) o.value 1=some [si (b:Int)]:=by
    rw [IA.xA]
    refine j6s ?_
    rw [List.getElem?_map] at hb1
    unfold fl1
    rw [List.getElem?_map]
    cases hq:(jc0 f)[o.value]? with
    | none=>rw [hq] at hb1;cases hb1
    | some p=>rw [hq] at hb1;cases hb1;rfl
   simp (disch:=first|omega|simp only[List.length]|apply_rules[jaa,jac,jad]) only [go_sem,jag,eq_true hlt,hix,jbc,eA,xA,xT,c1,hxi,hrd,j17 hs5 (Int.ofNat_lt.2 hk) hb2,hh,hs]
   exact qkv hs5 hk hl hp d (j+1) (by omega) IA (fun hj x4 x5 x7 J n g=>hQ hj x4 x5 x7 J (by omega) (fun m hm=>(g m (by omega)).trans (gA m hm)))
  ·have c1:((o.kind:Int)=1)=False:=by simp;omega
   simp (disch:=first|omega|simp only[List.length]|apply_rules[jaa,jac,jad]) only [go_sem,jag,eq_true hlt,hix,jbc,eA,xA,c1,hh,hs]
   exact qkv hs5 hk hl hp d (j+1) (by omega) IA (fun hj x4 x5 x7 J n g=>hQ hj x4 x5 x7 J (by omega) (fun m hm=>(g m (by omega)).trans (gA m hm)))
theorem qkw {f:Fc} {s:List Bool} (hs5:s.length<=5) {l:List Ms.Ins} {k bT bA:Nat} (hk:k<(jbd s).length) (hl:l.length<=10000) (hp:∀ (i:Nat) (x:Ms.Ins),l[i]?=some x->x.ops.length<=6/\∀ o∈x.ops,o.value<f.values.length/\(o.kind=1->KT (jbd s) (jc0 f) o.value k i)) {x0 x1 x2 x3 x15 x16 x18 x19 x20 x21 x22 x23 x24 x25 x26 x27 x28 x29 x30 x31 x32 x33 x34 x36 x37 x38 x39 x40 x41 x42 x43 x44 x45 x47 x48 x49:AV} {Q:Ex->St->Prop} :
 ∀ (d j:Nat) (_:j+d=l.length) {hi:Hp} (_:IaK hi f s bT bA) {x4 x5 x6 x7 x8 x9 x10 x12:AV}
  (hQ:∀ hj x4 x5 x6 x7 x8 x9 x10 x12,IaK hj f s bT bA->Q (.exit 10) (.mk [x0,x1,x2,x3,x4,x5,x6,x7,x8,x9,x10,.s (jah jdw l),x12,vi l.length,vi l.length,x15,x16,vi k,x18,x19,x20,x21,x22,x23,x24,x25,x26,x27,x28,x29,x30,x31,x32,x33,x34,.s (.slice bA 0 f.values.length f.values.length true 1),x36,x37,x38,x39,x40,x41,x42,x43,x44,x45,.s (.ptr bT 0),x47,x48,x49] hj)),
  W F13 jux.loop (.mk [x0,x1,x2,x3,x4,x5,x6,x7,x8,x9,x10,.s (jah jdw l),x12,vi l.length,vi j,x15,x16,vi k,x18,x19,x20,x21,x22,x23,x24,x25,x26,x27,x28,x29,x30,x31,x32,x33,x34,.s (.slice bA 0 f.values.length f.values.length true 1),x36,x37,x38,x39,x40,x41,x42,x43,x44,x45,.s (.ptr bT 0),x47,x48,x49] hi) Q
 | 0,j,hd,hi,I,x4,x5,x6,x7,x8,x9,x10,x12,hQ=>by
  obtain rfl:j=l.length:=by omega
  rw [jan]
  unfold jux
  simp (disch:=first|omega|simp only[List.length]|apply_rules[jaa,jac,jad]) only [go_sem,Int.lt_irrefl]
  exact hQ hi _ _ _ _ _ _ _ _ I
 | d+1,j,hd,hi,I,x4,x5,x6,x7,x8,x9,x10,x12,hQ=>by
  have hlt:(j:Int)<(l.length:Int):=by omega
  obtain ⟨x,hio⟩:∃ y,l[j]?=some y:=⟨_,List.getElem?_eq_getElem (by omega)⟩
  obtain ⟨h1,h2⟩:=hp j x hio
  have hix:=jak (enc:=jdw) (size:=3) hio rfl
  have hs:(j:Int)+1=((j+1:Nat):Int):=by omega
  have ok:=I.ok
  obtain ⟨hA,eA,okA,nA,xA,gA⟩:=jcs ok [.int .i64 0,.nilSlice,.nilSlice] (jdw x) 46
  have IA:=I.keep okA (by omega) gA
  have l1:=jal (enc:=jbc) (l:=x.ops)
  unfold jdw at xA eA
  rw [jan]
  unfold jux j82
  simp (disch:=first|omega|simp only[List.length]|apply_rules[jaa,jac,jad]) only [go_sem,jag,eq_true hlt,hix,jdw,eA,xA,l1]
  refine qkv hs5 hk (by omega) h2 x.ops.length 0 (by omega) IA (fun hj x4 x5 x7 J n g=>?_)
  simp (disch:=first|omega|simp only[List.length]|apply_rules[jaa,jac,jad]) only [go_sem,jag,hs]
  exact qkw hs5 hk hl hp d (j+1) (by omega) J hQ
theorem qkx {m:Nat×Nat} {f:Fc} {s:List Bool} (o:FlOk m f s) {bT bA:Nat} {x0 x1 x2 x3 x22 x23 x24 x25 x26 x27 x28 x29 x30 x31 x32 x33 x34 x36 x37 x38 x39 x40 x41 x42 x43 x44 x45 x47 x48 x49:AV} {Q:Ex->St->Prop} :
 ∀ (d j:Nat) (_:j+d=f.blocks.length) {hi:Hp} (_:IaK hi f s bT bA) {x4 x5 x6 x7 x8 x9 x10 x11 x12 x13 x14 x15 x16 x17 x19:AV}
  (hQ:∀ hj x4 x5 x6 x7 x8 x9 x10 x11 x12 x13 x14 x15 x16 x17 x19,Q (.exit 8) (.mk [x0,x1,x2,x3,x4,x5,x6,x7,x8,x9,x10,x11,x12,x13,x14,x15,x16,x17,.s (jah ja3 f.blocks),x19,vi f.blocks.length,vi f.blocks.length,x22,x23,x24,x25,x26,x27,x28,x29,x30,x31,x32,x33,x34,.s (.slice bA 0 f.values.length f.values.length true 1),x36,x37,x38,x39,x40,x41,x42,x43,x44,x45,.s (.ptr bT 0),x47,x48,x49] hj)),
  W F13 juy.loop (.mk [x0,x1,x2,x3,x4,x5,x6,x7,x8,x9,x10,x11,x12,x13,x14,x15,x16,x17,.s (jah ja3 f.blocks),x19,vi f.blocks.length,vi j,x22,x23,x24,x25,x26,x27,x28,x29,x30,x31,x32,x33,x34,.s (.slice bA 0 f.values.length f.values.length true 1),x36,x37,x38,x39,x40,x41,x42,x43,x44,x45,.s (.ptr bT 0),x47,x48,x49] hi) Q
 | 0,j,hd,hi,I,x4,x5,x6,x7,x8,x9,x10,x11,x12,x13,x14,x15,x16,x17,x19,hQ=>by
  obtain rfl:j=f.blocks.length:=by omega
  rw [jan]
  unfold juy
  simp (disch:=first|omega|simp only[List.length]|apply_rules[jaa,jac,jad]) only [go_sem,Int.lt_irrefl]
  exact hQ hi _ _ _ _ _ _ _ _ _ _ _ _ _ _ _
 | d+1,j,hd,hi,I,x4,x5,x6,x7,x8,x9,x10,x11,x12,x13,x14,x15,x16,x17,x19,hQ=>by
  have nb:=o.k.nb
  have hlt:(j:Int)<(f.blocks.length:Int):=by omega
  obtain ⟨b,hio⟩:∃ y,f.blocks[j]?=some y:=⟨_,List.getElem?_eq_getElem (by omega)⟩
  have hbm:=List.mem_of_getElem? hio
  have hbk:=o.k.blk b hbm
  have hjl:j<(jbd s).length:=by rw [jkj,←o.len];omega
  have hix:=jak (enc:=ja3) (size:=3) hio rfl
  have hs:(j:Int)+1=((j+1:Nat):Int):=by omega
  have ok:=I.ok
  obtain ⟨hA,eA,okA,nA,xA,gA⟩:=jcs ok [.nilSlice,.nilSlice,.nilSlice] (ja3 b) 36
  have IA:=I.keep okA (by omega) gA
  have xT:=IA.xT
  have l1:=jal (enc:=jdw) (l:=b.instrs)
  obtain ⟨hd1,c,hc,_,hc0⟩:=qdk o.hs hjl
  have ic:=jak (enc:=jfl) (size:=1) hc rfl
  have hdm:=fun {h:Hp} {Q:AV->Hp->Prop}=>j17 (h:=h) (Q:=Q) o.hs (a:=0) (Int.ofNat_lt.2 hjl) hd1
  have rest:∀ (i:Nat) (x:Ms.Ins),b.instrs[i]?=some x->x.ops.length<=6/\∀ p∈x.ops,p.value<f.values.length/\(p.kind=1->KT (jbd s) (jc0 f) p.value j i):=fun i x hx =>
   ⟨(o.us.us j i b x hio hx).1,fun p hp=>⟨((o.k.ins b hbm x (List.mem_of_getElem? hx)).opd p hp).val,(o.us.us j i b x hio hx).2 p hp⟩⟩
  unfold ja3 at xA eA
  rw [jan]
  unfold juy j83
  by_cases e:j=0
  ·have c1:(0<(j:Int))=False:=eq_false (by omega)
   simp (disch:=first|omega|simp only[List.length]|apply_rules[jaa,jac,jad]) only [go_sem,jag,eq_true hlt,hix,ja3,eA,xA,xT,hdm,c1]
   unfold jzr
   simp (disch:=first|omega|simp only[List.length]|apply_rules[jaa,jac,jad]) only [go_sem,xA,l1]
   refine qkw o.hs hjl (by omega) rest b.instrs.length 0 (by omega) IA (fun hj x4 x5 x6 x7 x8 x9 x10 x12 J=>?_)
   simp (disch:=first|omega|simp only[List.length]|apply_rules[jaa,jac,jad]) only [go_sem,jag,hs]
   exact qkx o d (j+1) (by omega) J hQ
  ·have c1:(0<(j:Int))=True:=eq_true (by omega)
   have c2:(c<0)=False:=eq_false (by have:=hc0 e;omega)
   simp (disch:=first|omega|simp only[List.length]|apply_rules[jaa,jac,jad]) only [go_sem,jag,eq_true hlt,hix,ja3,eA,xA,xT,hdm,c1,ic,jfl,c2]
   unfold jzr
   simp (disch:=first|omega|simp only[List.length]|apply_rules[jaa,jac,jad]) only [go_sem,xA,l1]
   refine qkw o.hs hjl (by omega) rest b.instrs.length 0 (by omega) IA (fun hj x4 x5 x6 x7 x8 x9 x10 x12 J=>?_)
   simp (disch:=first|omega|simp only[List.length]|apply_rules[jaa,jac,jad]) only [go_sem,jag,hs]
   exact qkx o d (j+1) (by omega) J hQ
theorem qo6 {h:Hp} (ok:Ok h) {a b:Int} {l:List Pc} (ha:In6 a) (hb:In6 b) (pin:∀ q∈l,Pin q) {xl:SV} (lx:LstE jb4 7 xl l):WC F13 10 [vi a,vi b,.s xl] h (fun v _=>v=.s (.bool true)):=by
 refine jbg (qts rfl rfl rfl rfl rfl rfl rfl rfl rfl rfl rfl rfl rfl) qr1 rfl ?_
 unfold qdj
 obtain ⟨m1,m2⟩:=qfp a b
 obtain ⟨m,em⟩:∃ m,jt2 a b=m:=⟨_,rfl⟩
 rw [em] at m1 m2
 obtain ⟨s,o,_,_⟩:=qkm m1 m2 l
 obtain ⟨f,ef⟩:∃ f,jfo m l=f:=⟨_,rfl⟩
 rw [ef] at o
 have nbk:=o.k.nb
 have nvk:=o.k.nv
 obtain ⟨hA,eA,okA,nA,xA,gA⟩:=jcs ok [.int .i64 0,.int .i64 0] [si m.1,si m.2] 30
 obtain ⟨hB,eB,okB,nB,xB,gB⟩:=jcs okA [.nilSlice,.nilSlice] [jah jaz f.values,jah ja3 f.blocks] 26
 obtain ⟨hC,eC,okC,nC,xC,gC⟩:=jcs okB [.nilSlice,.nilSlice,.nilSlice] [jah jaz (jp0 s 0),jah jfl (jbd s),jah jaz (j86 s)] 53
 obtain ⟨hD,eD,okD,nD,xD,gD⟩:=jfk okC (rep [.int .i64 0] f.values.length) 3
 rw [j72] at xD
 have hfl:fl1 (List.replicate f.values.length ((0:Nat),(0:Int)))=List.replicate f.values.length (.int .i64 0):=by unfold fl1;rw [List.map_replicate];rfl
 rw [←hfl] at xD
 have yA:=(gB _ (by omega)).trans xA
 have zA:=(gC _ (by omega)).trans yA
 have zB:=(gC _ (by omega)).trans xB
 have wB:=(gD _ (by omega)).trans zB
 have wC:=(gD _ (by omega)).trans xC
 have nb:hB.next=h.next+2:=by omega
 have nc:hC.next=h.next+3:=by omega
 rw [nA] at eB xB zB wB
 rw [nb] at eC xC wC
 rw [nc] at xD
 have l1:=jal (enc:=ja3) (l:=f.blocks)
 have l2:=jal (enc:=jfl) (l:=jbd s)
 have l3:=jal (enc:=jaz) (l:=f.values)
 have i0:jyb 1 (.s (jah jfl (jbd s))) (vi 0)=some (.s (.cp (jfl (-1)))):=jak (enc:=jfl) (size:=1) (i:=0) (a:=-1) rfl rfl
 have c1:(((jbd s).length:Int)≠(f.blocks.length:Int))=False:=by rw [jkj,o.len];simp
 have hmk:=jsr (e:=3) (size:=1) (bytes:=8) (z:=[.int .i64 0]) (m:=f.values.length) okC (by omega) (by omega)
 rw [eD,nc] at hmk
 simp (disch:=first|omega|simp only[List.length]|apply_rules[jaa,jac,jad]) only [go_sem,j3i,nb,eC,zA,zB,jw8 ha hb,em,qmm,eA,nA,xA,j8v m1 m2 pin lx,ef,ql9,eB,yA,xB,qbh o m1 m2,qbe,xC,l1,l2,c1,i0,jfl]
 unfold j84
 simp (disch:=first|omega|simp only[List.length]|apply_rules[jaa,jac,jad]) only [go_sem,zB,l3,hmk,wB,l1]
 have I:MdI hD f (h.next+3) (List.replicate f.values.length (0,0)):=⟨okD,List.length_replicate,⟨by omega,by omega⟩,xD⟩
 refine qo4 (by omega) (jzl o.k) f.blocks [] rfl I (fun hj x22 x23 x24 x25 x26 x27 x28 x29 x30 x31 x32 x33 x34 x36 x37 x38 x39 x40 x42 J n g=>?_)
 have vB:=(g (h.next+1) (by omega) (by omega)).trans wB
 have vC:=(g (h.next+2) (by omega) (by omega)).trans wC
 simp (disch:=first|omega|simp only[List.length]|apply_rules[jaa,jac,jad]) only [go_sem,vB,l1]
 refine qkx o f.blocks.length 0 (by omega) (bT:=h.next+2) (bA:=h.next+3) ⟨J.ok,⟨by omega,J.lt.2⟩,vC,J.xA⟩ (fun hk x4 x5 x6 x7 x8 x9 x10 x11 x12 x13 x14 x15 x16 x17 x19=>?_)
 simp (disch:=first|omega|simp only[List.length]|apply_rules[jaa,jac,jad]) only [go_sem]
end Go.Proofs.Ytaljcpoopmedmaa.Ev
