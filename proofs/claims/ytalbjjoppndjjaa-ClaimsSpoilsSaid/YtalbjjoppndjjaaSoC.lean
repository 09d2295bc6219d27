/- Claims as five numbers, their order, and what the sort makes of a list of them. No program in sight. -/
import Derived.Test.YtalbjjoppndjjaaMc4
import Derived.Shelf.SlSortCmp.WholeK
import Derived.Test.YtalbjjoppndjjaaMc11
namespace Go.Proofs.Ytalbjjoppndjjaa.Ev
open Go Go.Sort
set_option linter.all false
structure C5 where
 a:Int
 b:Int
 c:Int
 d:Int
 e:Int
 ok:∀ v∈[a,b,c,d,e],-1152921504606846976<=v/\v<=1152921504606846976
instance:Inhabited C5:=⟨⟨0,0,0,0,0,by decide⟩⟩
def C5.l (x:C5):List Int:=[x.a,x.b,x.c,x.d,x.e]
theorem C5.inj {x y:C5} (h:x.l=y.l):x=y:=by
 cases x;cases y
 simp only[C5.l,List.cons.injEq,and_true] at h
 obtain⟨rfl,rfl,rfl,rfl,rfl⟩:=h
 rfl
def C5.v (x:C5):List Value:=x.l.map (Value.int .i64)
def C5.s (x:C5):List SV:=x.l.map (SV.int .i64)
theorem C5.v_len (x:C5):x.v.length=5:=rfl
theorem C5.s_len (x:C5):x.s.length=5:=rfl
def or5 (a b c d e:Int):Int:=if a≠0 then a else if b≠0 then b else if c≠0 then c else if d≠0 then d else e
def cf5 (x y:C5):Int:=or5 (x.a - y.a) (x.b - y.b) (x.c - y.c) (x.d - y.d) (x.e - y.e)
def C5.lt (x y:C5):Prop:=x.a<y.a∨x.a=y.a/\(x.b<y.b∨x.b=y.b/\(x.c<y.c∨x.c=y.c/\(x.d<y.d∨x.d=y.d/\x.e<y.e)))
theorem qey (x y:C5):cf5 x y<0↔x.lt y:=by
 unfold cf5 or5 C5.lt
 by_cases h1:x.a - y.a=0
 .by_cases h2:x.b - y.b=0
  .by_cases h3:x.c - y.c=0
   .by_cases h4:x.d - y.d=0
    .simp only[h1,h2,h3,h4,ne_eq,not_true_eq_false,if_false];omega
    .simp only[h1,h2,h3,h4,ne_eq,not_true_eq_false,not_false_eq_true,if_false,if_true];omega
   .simp only[h1,h2,h3,ne_eq,not_true_eq_false,not_false_eq_true,if_false,if_true];omega
  .simp only[h1,h2,ne_eq,not_true_eq_false,not_false_eq_true,if_false,if_true];omega
 .simp only[h1,ne_eq,not_false_eq_true,if_true];omega
theorem C5.lt_irrefl (x:C5):¬ x.lt x:=by unfold C5.lt;omega
theorem C5.lt_trans {x y z:C5} (h:x.lt y) (k:y.lt z):x.lt z:=by unfold C5.lt at *;omega
theorem C5.lt_or {x y:C5} (h:¬ y.lt x):x.lt y∨x=y:=by
 by_cases k:x.lt y
 .exact .inl k
 .refine .inr (C5.inj ?_)
  unfold C5.lt at h k
  simp only[C5.l,List.cons.injEq,and_true]
  omega
theorem j2q (x y:C5):ltOf cf5 x y=decide (cf5 x y<0):=rfl
theorem ju0 {x y:C5}:ltOf cf5 x y=true↔x.lt y:=by rw[j2q,decide_eq_true_iff,qey]
theorem jeb {x y:C5}:ltOf cf5 x y=false↔¬ x.lt y:=by rw[j2q,decide_eq_false_iff_not,qey]
theorem qtx:SWO (ltOf cf5) where
 irrefl x:=jeb.2 x.lt_irrefl
 trans x y z h k:=ju0.2 (C5.lt_trans (ju0.1 h) (ju0.1 k))
 ntrans x y z h k:=by
  refine jeb.2 fun q=>?_
  rcases C5.lt_or (jeb.1 h) with h1 | h1
  .exact jeb.1 k (C5.lt_or (jeb.1 h) |>.elim (fun _=>by
    rcases C5.lt_or (jeb.1 k) with k1 | k1
    .exact absurd (C5.lt_trans (C5.lt_trans k1 h1) q) (C5.lt_irrefl _)
    .subst k1;exact absurd (C5.lt_trans h1 q) (C5.lt_irrefl _)) (fun e=>by subst e;exact absurd h1 (C5.lt_irrefl _)))
  .subst h1;exact jeb.1 k q
def qco (xs:List C5):Array C5:=pdq (ltOf cf5) xs.toArray 0 xs.length (Lib.bitLen xs.length) true true
def srt (xs:List C5):List C5:=(qco xs).toList
theorem ju1 (xs:List C5):PermIn 0 xs.length xs.toArray (qco xs)/\SortedIn (ltOf cf5) 0 xs.length (qco xs) :=
 pdq_sorts (ltOf cf5) qtx xs.toArray 0 xs.length (Lib.bitLen xs.length) true true (f10 _) (by simp) (.inl rfl)
theorem jqe (xs:List C5):(qco xs).size=xs.length:=by have:=(ju1 xs).1.1;simpa using this
theorem ji3 (xs:List C5):(srt xs).length=xs.length:=by rw[srt,f16,jqe]
theorem jks (xs:List C5):(srt xs).Perm xs:=by
 have h:=(ju1 xs).1.2.2
 have e1:(qco xs).extract 0 xs.length=qco xs:=by rw[←jqe xs,Array.extract_size]
 have e2:xs.toArray.extract 0 xs.length=xs.toArray:=by conv=>lhs;rw[show xs.length=xs.toArray.size from by simp,Array.extract_size]
 rw[e1,e2] at h
 exact h
theorem j4e (xs:List C5):(srt xs).Pairwise (fun x y=>x.lt y∨x=y):=by
 rw[f2n]
 intro i j hi hj hij
 rw[ji3] at hi hj
 have h:=(ju1 xs).2 i j (f10 _) hij hj
 have e:∀ k (h1:k<(srt xs).length),(srt xs)[k]=((qco xs)[k]!):=fun k h1=>by
  rw[getElem!_pos (qco xs) k (by rw[jqe];rwa [ji3] at h1)];rfl
 rw[e,e]
 exact C5.lt_or (jeb.1 h)
theorem jrt {α:Type} [Inhabited α] (enc:α->List Value) (k:Nat) (hk:∀ x,(enc x).length=k) (k0:0<k) (xs:List α):flatK enc k xs.toArray=(xs.flatMap enc).toArray:=by
 have hl:∀ l:List α,(l.flatMap enc).length=l.length*k:=fun l=>by
  induction l with
  | nil=>simp
  | cons x l ih=>rw[f19,f0w,ih,hk,f0z,f2x,f3y,Nat.add_comm]
 refine ext_get! (by simp[hl]) fun t ht=>?_
 have ht':t<xs.length*k:=by simpa using ht
 rw[get_flatK _ _ _ t (by simpa using ht')]
 have main:∀ (l:List α) (t:Nat),t<l.length*k->∃ v,(l.flatMap enc)[t]?=some v/\∃ x,l[t / k]?=some x/\(enc x)[t % k]?=some v:=by
  intro l
  induction l with
  | nil=>intro t ht;simp at ht
  | cons x l ih =>
   intro t ht
   rw[f19]
   rcases f0g t k with h | h
   .refine ⟨(enc x)[t]'(by rw[hk];exact h),by rw[f0j (by rw[hk];exact h)];simp[hk,h],x,by rw[Nat.div_eq_of_lt h];rfl,by rw[f3m h];simp[hk,h]⟩
   .have h2:t - k<l.length*k:=by rw[f0z,f2x,f3y] at ht;omega
    obtain⟨v,h3,y,h4,h5⟩:=ih (t - k) h2
    obtain⟨u,rfl⟩:∃ u,t=u+k:=⟨t - k,by omega⟩
    rw[Nat.add_sub_cancel] at h3 h4 h5
    refine⟨v,by rw[f0m (by rw[hk];exact h),hk,Nat.add_sub_cancel];exact h3,y,?_,?_⟩
    .rw [Nat.add_div_right _ k0,f2e];exact h4
    .rw [Nat.add_mod_right];exact h5
 obtain⟨v,h1,x,h2,h3⟩:=main xs t ht'
 have e1:(xs.toArray[t / k]!)=x:=by simp[Array.getElem!_eq_getD,f0k,h2]
 rw[e1]
 simp[List.getElem!_eq_getElem?_getD,Array.getElem!_eq_getD,f0k,h1,h3]
open Go Go.RowKit
set_option maxRecDepth 100000
theorem jc9 (xs:List C5):(xs.flatMap C5.s).length=xs.length*5:=by
 induction xs with
 | nil=>rfl
 | cons x l ih=>rw[f19,f0w,ih,C5.s_len,f0z];omega
def C5.of (a b c d e:Int):C5:=if k:∀ v∈[a,b,c,d,e],-1152921504606846976<=v/\v<=1152921504606846976 then ⟨a,b,c,d,e,k⟩ else default
theorem jru:∀ {L:List (List SV)},(∀ r∈L,r.length=5)->jqg 5 L=some L.flatten
 | [],_=>rfl
 | a::L,hr=>by
  have e:jqg 5 L=some L.flatten:=jru (fun r h=>hr r (f0s _ h))
  have ha:=hr a (by simp)
  show oif (Nat.beq (jdc a) 5) (ob (jqg 5 L) (fun r=>some (jgi a r))) none=_
  rw[e,show Nat.beq (jdc a) 5=true by rw[jbr,ha];rfl]
  show some (jgi a L.flatten)=_
  rw[jct];rfl
theorem C5.of_l {a b c d e:Int} (k:∀ v∈[a,b,c,d,e],-1152921504606846976<=v/\v<=1152921504606846976):(C5.of a b c d e).l=[a,b,c,d,e]:=by
 unfold C5.of;rw[dif_pos k];rfl
theorem C5.of_s {a b c d e:Int} (k:∀ v∈[a,b,c,d,e],-1152921504606846976<=v/\v<=1152921504606846976):(C5.of a b c d e).s=[si a,si b,si c,si d,si e]:=by
 unfold C5.s;rw[C5.of_l k];rfl
def CR (lo:Nat) (h:Hp) (x:SV) (l:List C5):Prop :=
 (l=[]/\x=.nilSlice)∨(l≠[]/\∃ b,x=.slice b 0 l.length l.length false 5/\lo<=b/\b<h.next/\h.get b=some (.arr (l.flatMap C5.s) 52))
section
variable {lo:Nat} {h h1:Hp} {x:SV} {l:List C5}
theorem CR.nil:CR lo h .nilSlice []:=.inl ⟨rfl,rfl⟩
theorem CR.keep (k:CR lo h x l) (hn:h.next<=h1.next) (g:∀ n,lo<=n->n<h.next->h1.get n=h.get n):CR lo h1 x l:=by
 rcases k with k | ⟨h2,b,rfl,h3,h4,h5⟩
 .exact .inl k
 .exact .inr ⟨h2,b,rfl,h3,by omega,by rw[g b h3 h4];exact h5⟩
theorem CR.len (k:CR lo h x l):jxu (.s x)=some (vi l.length):=by
 rcases k with⟨rfl,rfl⟩ | ⟨_,b,rfl,_⟩<;>rfl
theorem CR.app1 (k:CR lo h x l) (ok:Ok h) (hl:1<=lo) (hlo:lo<=h.next) (c:C5) (hb:l.length<=100000) :
 ∃ x' h2,jo8 (h.push (.arr c.s 52)) 52 5 40 (.s x) (.s (.slice h.next 0 1 1 true 5))=some (.s x',h2)/\Ok h2/\h.next<=h2.next/\(∀ n,n<lo->h2.get n=h.get n)/\CR lo h2 x' (l++[c]):=by
 have ok1:Ok (h.push (.arr c.s 52)):=jaq ok
 have hrd:rdB ((h.push (.arr c.s 52)).get h.next) 0 (1*5)=some c.s:=by
  rw[jal ok,if_pos rfl]
  rfl
 rcases k with⟨rfl,rfl⟩ | ⟨h2,b,rfl,h3,h4,h5⟩
 .refine ⟨.slice (h.next+1) 0 1 1 false 5,(h.push (.arr c.s 52)).push (.arr c.s 52),?_,jaq ok1,by simp;omega,fun n hn=>?_,.inr ⟨by simp,h.next+1,rfl,by omega,by simp,?_⟩⟩
  .rw [jic,hrd]
   show jgj 40 1 (nw _ c.s 52 _)=_
   rw[jjz (by omega) (by omega),jsy ok1]
   rfl
  .rw [jal ok1,if_neg (by rw[Hp.next_push];omega),jal ok,if_neg (by omega)]
  .rw [jal ok1,if_pos (by rw[Hp.next_push])];simp
 .have e5:(h.push (.arr c.s 52)).get b=some (.arr (l.flatMap C5.s) 52):=by rw[jal ok,if_neg (by omega)];exact h5
  refine⟨.slice (h.next+1) 0 (l.length+1) (l.length+1) false 5,((h.push (.arr c.s 52)).put b none).push (.arr (l.flatMap C5.s++c.s) 52),?_,jaq (jao ok1),by simp;omega,fun n hn=>?_,.inr ⟨by simp,h.next+1,by simp,by omega,by simp,?_⟩⟩
  .rw [jeg (by omega),hrd,e5]
   show qrd _ _ _ _ _ _ _ _ c.s=_
   rw[js0 ok1 (jc9 l) (by omega) (by omega)]
   simp
  .rw [jal (jao ok1),if_neg (by simp;omega),jai ok1 (by omega),if_neg (by omega),jal ok,if_neg (by omega)]
  .rw [jal (jao ok1),if_pos (by simp)];simp
theorem CR.appL (k:CR lo h x l) (ok:Ok h) (hl:1<=lo) (hlo:lo<=h.next) (cs:List C5) (hb:l.length+cs.length<=100000) :
 ∃ x' h2,jo8 h 52 5 40 (.s x) (.s (jae C5.s cs))=some (.s x',h2)/\Ok h2/\h.next<=h2.next/\(∀ n,n<lo->h2.get n=h.get n)/\CR lo h2 x' (l++cs):=by
 cases cs with
 | nil =>
  refine⟨x,h,?_,ok,f0f _,fun _ _=>rfl,by simpa using k⟩
  rcases k with⟨rfl,rfl⟩ | ⟨_,b,rfl,_⟩
  .exact jv9
  .exact jqn
 | cons c cs =>
  have hfl:jqg 5 ((c::cs).map C5.s)=some ((c::cs).flatMap C5.s):=by
   rw[jru (fun r h=>by obtain⟨a,_,rfl⟩:=f1q.1 h;rfl),List.flatMap_def]
  rcases k with⟨rfl,rfl⟩ | ⟨h2,b,rfl,h3,h4,h5⟩
  .refine ⟨.slice h.next 0 (c::cs).length (c::cs).length false 5,h.push (.arr ((c::cs).flatMap C5.s) 52),?_,jaq ok,by simp,fun n hn=>?_,.inr ⟨by simp,h.next,rfl,hlo,by simp,?_⟩⟩
   .show ob (jqg 5 ((c::cs).map C5.s)) (fun new=>Nat.casesOn (motive:=fun _=>R) (jdc ((c::cs).map C5.s)) (Ev.ok (.s .nilSlice) h) (fun _=>jgj 40 (jdc ((c::cs).map C5.s)) (nw h new 52 (fun k h=>Ev.ok (.s (.slice k 0 (jdc ((c::cs).map C5.s)) (jdc ((c::cs).map C5.s)) false 5)) h))))=_
    rw[hfl,jbr,f1c]
    show jgj 40 (cs.length+1) (nw h ((c::cs).flatMap C5.s) 52 (fun k h=>Ev.ok (.s (.slice k 0 (cs.length+1) (cs.length+1) false 5)) h))=_
    simp only[f0z,f1w] at hb
    rw[jjz (by omega) (by omega),jsy ok]
    rfl
   .rw [jal ok,if_neg (by omega)]
   .rw [jal ok,if_pos rfl];rfl
  .refine ⟨.slice h.next 0 (l++(c::cs)).length (l++(c::cs)).length false 5,(h.put b none).push (.arr (l.flatMap C5.s++(c::cs).flatMap C5.s) 52),?_,jaq (jao ok),by simp,fun n hn=>?_,.inr ⟨by simp,h.next,rfl,hlo,by simp,?_⟩⟩
   .show ob (jqg 5 ((c::cs).map C5.s)) (fun new=>oif (Nat.beq 5 5) (oif (Nat.ble (Nat.add l.length (jdc ((c::cs).map C5.s))) l.length) _ (jgj 40 (Nat.add l.length (jdc ((c::cs).map C5.s))) (jfw h 52 5 b 0 l.length (jdc ((c::cs).map C5.s)) false new))) none)=_
    rw[hfl,jbr,f1c]
    have hb2:Nat.ble (Nat.add l.length (c::cs).length) l.length=false:=by
     cases e:Nat.ble (Nat.add l.length (c::cs).length) l.length with
     | false=>rfl
     | true =>
      have h1:=f0l e
      have h2:Nat.add l.length (c::cs).length=l.length+(cs.length+1):=rfl
      omega
    show oif (Nat.ble (Nat.add l.length (c::cs).length) l.length) _ (jgj 40 (Nat.add l.length (c::cs).length) (jfw h 52 5 b 0 l.length (c::cs).length false ((c::cs).flatMap C5.s)))=_
    rw[hb2]
    show jgj 40 (l.length+(c::cs).length) (jfw h 52 5 b 0 l.length (c::cs).length false ((c::cs).flatMap C5.s))=_
    have e:=js0 (e:=52) (size:=5) (bytes:=40) (b:=b) (new:=(c::cs).flatMap C5.s) (n:=l.length) (m:=(c::cs).length) ok (jc9 l) (by omega) (by omega)
    rw[←h5] at e
    rw[f0w]
    exact e
   .rw [jal (jao ok),if_neg (by simp;omega),jai ok (by omega),if_neg (by omega)]
   .rw [jal (jao ok),if_pos (by simp)];simp
theorem jxj {kk:Bool} {d:Nat}:∀ l:List Int,jgl (jfp kk h (d+1)) (l.map (SV.int .i64))=some (l.map (SV.int .i64))
 | []=>rfl
 | a::l=>jbp rfl (jxj l)
theorem CR.frz {kk:Bool} (k:CR lo h x l):jfp kk h 2 x=some (jae C5.s l):=by
 rcases k with⟨rfl,rfl⟩ | ⟨h2,b,rfl,h3,h4,h5⟩
 .rfl
 .have s:Sl h 52 5 false (fun row (a:C5) ns=>row=a.s/\ns=[]) (.slice b 0 l.length l.length false 5) l [b]:=by
   refine .inr ⟨h2,b,l.map C5.s,[],rfl,by rw[h5,List.flatMap_def],?_,rfl⟩
   clear h2 h5
   induction l with
   | nil=>exact .nil
   | cons a l ih=>exact .cons (ns:=[]) rfl ⟨rfl,rfl⟩ ih
  exact s.frz (enc:=C5.s) (d:=1) (fun row a ms e=>by obtain⟨rfl,_⟩:=e;exact jxj (d:=0) a.l) (fun _=>rfl)
end
open Go Go.Sort Go.RowKit
section
variable {P:Program} {A:Nat->Int} {φ:Phi} {h h':Hp} {w w':World} {W:Nat->Prop}
theorem Rel.grows (k:Rel A φ h w) (os:w'.os=w.os) (tape:w'.tape=w.tape) (output:w'.output=w.output) (size:w.heap.size<=w'.heap.size) (old:∀ b,b<w.heap.size->w'.heap[b]?=w.heap[b]?) :
 Step W φ φ h h w w'/\Rel A φ h w':=by
 refine⟨⟨Abs.refl W k.wf,fun _ _=>rfl,fun _ _ e=>e,fun _ _ e=>.inl e,os,tape,output,size,fun b hb _=>old b hb,fun n L hn _ hL=>by rw[k.dom n hn] at hL;cases hL⟩,⟨k.wf,k.dom,fun n x hx=>?_,k.inj,fun b cs e=>?_,k.sep⟩⟩
 .refine (k.blk n x hx).world (fun L hL=>old _ ?_)
  obtain⟨L',hL',hb⟩:=(k.blk n x hx).some_loc
  rw[hL'] at hL
  cases hL
  exact hb
 .obtain ⟨ty',h3⟩:=k.con b cs e
  exact⟨ty',by rw[old b (k.conLt e)];exact h3⟩
theorem jxk:∀ (l:List Int),All2 (cS A φ) (l.map (SV.int .i64)) (l.map (Value.int .i64))
 | []=>.nil
 | a::l=>.cons rfl (jxk l)
theorem jxl (xs:List C5):All2 (cS A φ) (xs.flatMap C5.s) (xs.flatMap C5.v):=by
 have e1:xs.flatMap C5.s=(xs.flatMap C5.l).map (SV.int .i64):=by rw[List.map_flatMap];rfl
 have e2:xs.flatMap C5.v=(xs.flatMap C5.l).map (Value.int .i64):=by rw[List.map_flatMap];rfl
 rw[e1,e2];exact jxk _
theorem jml:∀ {l:List Int} {vs:List Value},All2 (cS A φ) (l.map (SV.int .i64)) vs->vs=l.map (Value.int .i64)
 | [],_,.nil=>rfl
 | a::l,_,.cons h k=>by rw[jml k];exact congrArg (·::_) h
theorem jxm {xs:List C5} {vs:List Value} (k:All2 (cS A φ) (xs.flatMap C5.s) vs):vs=xs.flatMap C5.v:=by
 have e1:xs.flatMap C5.s=(xs.flatMap C5.l).map (SV.int .i64):=by rw[List.map_flatMap];rfl
 have e2:xs.flatMap C5.v=(xs.flatMap C5.l).map (Value.int .i64):=by rw[List.map_flatMap];rfl
 rw[e1] at k;rw[e2];exact jml k
theorem j4f {ρ:Go.Shelf.Ren} (L:SlLaysF0.n6 P ρ) (aE:∀ w,(isAgg (ρ.t 24)).run P w=.ok true w) (zE:∀ w,(Go.sizeOf (ρ.t 24)).run P w=.ok 5 w) {od:FuncId} (eg:∀ args w,(callFunc od args).run P w=.ok (.enter od args) w)
 (hord:∀ (x y:C5) (W:World),Calls P od #[.agg x.v.toArray,.agg y.v.toArray] W fun e w'=>e=.returned (.int .i64 (cf5 x y))/\∃ q os,w'=grow (W.drewN q) os)
 (rel:Rel A φ h w) {b off mc:Nat} {ex:Bool} {xs:List C5} (hx:1<=xs.length) (hsz:xs.length<4611686018427387904) (hr:rd h b off (xs.length*5)=some (xs.flatMap C5.s)) (hw:wr h b off ((srt xs).flatMap C5.s)=some h')
 (args:Array Value) (ha:All2 (cV A φ) [.s (.slice b off xs.length mc ex 5),.s (.func od [])] args.toList) :
 Calls P (ρ.f 6) args w (fun e w'=>∃ rv φ',e=.returned rv/\Step (fun n=>h.lo<=n) φ φ' h h' w w'/\Rel A φ' h' w'/\cV A φ' (.tup []) rv):=by
 obtain⟨v1,v2,rfl,hv1,hv2⟩:∃ v1 v2,args=#[v1,v2]/\cS A φ (.slice b off xs.length mc ex 5) v1/\cS A φ (.func od []) v2:=by
  obtain⟨l⟩:=args
  cases ha with
  | cons h1 h2=>cases h2 with
   | cons h3 h4=>cases h4 with
    | nil=>exact⟨_,_,rfl,h1,h3⟩
 obtain⟨L1,ad,cap,hL1,rfl,q1,q2,q3,q4⟩:=hv1
 obtain⟨us,rfl,hus⟩:=hv2
 cases hus
 have hcap:1<=cap:=by omega
 obtain⟨rfl,q5⟩:ad=⟨L1.b,L1.o+off,none⟩/\L1.o+off+cap*5<=L1.lim:=by rcases q4 with q4 | q4;exact q4;omega
 obtain⟨L2,vs,p1,p2,p3,p4,p5⟩:=jel rel hr
 rw[hL1] at p1
 cases p1
 obtain rfl:=jxm p3
 obtain⟨L3,c,ty,r1,r2,r3,r4,r5⟩:=rel.put hw (jxl (srt xs))
 rw[hL1] at r1
 cases r1
 have hblk:L1.b<w.heap.size:=(f06.1 r3).1
 have hH:HoldsK C5.v 5 w L1.b (L1.o+off) xs.toArray:=by
  intro j hj
  rw[jrt C5.v 5 C5.v_len (by omega)] at hj ⊢
  have hj':j<(xs.flatMap C5.v).length:=by simpa using hj
  refine⟨?_,?_⟩
  .rw [p5 j _ (f0a hj'),getElem!_pos _ j hj]
   rfl
  .simp [World.frozen?,r3]
 have hcmp:CmpLays P od #[] C5.v 5 cf5 L1.b (L1.o+off) xs.toArray.size w:=fun _ _ _ _ x y=>hord x y _
 have hc:=AnyQ.slices_SortFunc_eq L 5 aE zE C5.v C5.v_len (fun x v hv=>by
  simp only[C5.v,C5.l,f3v,List.map_nil,f0h,f1f,or_false] at hv
  rcases hv with rfl | rfl | rfl | rfl | rfl<;>rfl) cf5 qtx od #[] L1.b (L1.o+off) cap xs.toArray w eg hcmp hH hblk (by simpa using hsz)
 have ed:pdq (ltOf cf5) xs.toArray 0 xs.toArray.size (Lib.bitLen xs.toArray.size) true true=(srt xs).toArray:=by
  simp only[f2l,srt,qco,Array.toArray_toList]
 rw[ed] at hc
 simp only[f2l] at hc
 refine Calls.mono hc ?_
 rintro e w' ⟨rfl,n,os,rfl⟩
 have hF:=jrt C5.v 5 C5.v_len (by omega) (srt xs)
 have s1:Step (fun n=>h.lo<=n) φ φ h h w (Sort.ahead w n):=Step.refl _ rel rfl rfl rfl rfl
 have k1:Rel A φ h (Sort.ahead w n):=rel.heap rfl
 obtain⟨L4,c4,ty4,t1,t2,t3,t4,t5⟩:=k1.put hw (jxl (srt xs))
 rw[hL1] at t1
 cases t1
 have e4:c4=c/\ty4=ty:=by
  have t3':w.heap[L1.b]?=some (.cells c4 ty4 (0,0)):=t3
  rw[r3] at t3'
  cases t3'
  exact⟨rfl,rfl⟩
 obtain⟨rfl,rfl⟩:=e4
 have hch:Changed (Sort.ahead w n) (putRowK C5.v 5 (Sort.ahead w n) L1.b (L1.o+off) (srt xs).toArray) L1.b (c4.toList.take (L1.o+off)++(srt xs).flatMap C5.v++c4.toList.drop (L1.o+off+((srt xs).flatMap C5.v).length)).toArray ty4:=by
  unfold putRowK putRow mapBlock
  rw[hF]
  refine⟨rfl,rfl,rfl,by simp,fun k hk=>?_,?_⟩
  .simp only[Array.getElem?_modify]
   rw[if_neg (fun e=>hk e.symm)]
  .simp only[Array.getElem?_modify,if_true]
   rw[t3]
   simp only[f1o,onCells,Option.some.injEq,Obj.cells.injEq,and_true]
   apply Array.ext_getElem?
   intro i
   simp only[putCells,Array.getElem?_mapIdx,f2l,f2p,f0q]
   rcases f0g i (L1.o+off) with h1 | h1
   .rw [f0j (by simp;omega),f1u h1]
    have:¬ (L1.o+off<=i/\i<L1.o+off+((srt xs).flatMap C5.v).length):=by omega
    simp only[if_neg this,f09,Option.map_id']
   .rw [f0m (by simp;omega)]
    have e0:(List.take (L1.o+off) c4.toList).length=L1.o+off:=by simp;omega
    rw[e0]
    rcases f0g i (L1.o+off+((srt xs).flatMap C5.v).length) with h2 | h2
    .rw [f0j (by omega),f12 (by omega)]
     have h3:i - (L1.o+off)<((srt xs).flatMap C5.v).length:=by omega
     simp only[if_pos (And.intro h1 h2),f1o,f0a h3]
     rw[getElem!_pos _ _ (by simpa using h3)]
     simp
    .rw [f0m (by omega),f1g]
     have:¬ (L1.o+off<=i/\i<L1.o+off+((srt xs).flatMap C5.v).length):=by omega
     simp only[if_neg this,Option.map_id',f09]
     congr 1
     omega
 obtain⟨s2,k2⟩:=t5 _ hch
 have hlo:=(jg8 hw).1
 have s2':Step (fun n=>h.lo<=n) φ φ h h' _ _:=s2.mono (fun n e=>by subst e;exact hlo)
 obtain⟨s3,k3⟩:=k2.grows (W:=fun n=>h.lo<=n) (w':=sortWorldK C5.v 5 w L1.b (L1.o+off) n (srt xs).toArray os) rfl rfl rfl (by simp[sortWorldK]) (fun b hb=>by
  simp only[sortWorldK];exact heap_grow_old _ _ hb)
 exact⟨_,φ,rfl,(s1.trans s2').trans s3,k3,[],rfl,.nil⟩
end
end Go.Proofs.Ytalbjjoppndjjaa.Ev
