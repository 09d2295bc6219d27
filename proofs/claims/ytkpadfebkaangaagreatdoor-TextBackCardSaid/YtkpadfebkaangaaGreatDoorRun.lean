/- A region that draws its order. -/
import Derived.Test.YtkpadfebkaangaaGreatDoorAbs
import Derived.Orders
import Derived.Tactics
import Derived.LoopN
import Derived.Below
namespace Go.Proofs.YtkpadfebkaangaaGreatDoor.Ev
noncomputable section
open Go
set_option linter.all false
section
variable {P:Program} {Q:Exit->Act->World->Prop}
def jj6 (listed:Array Bool):Nat:=(listed.toList.filter (fun b => !b)).length
theorem jmi (listed:Array Bool) (i:Nat) (h:listed.getD i true=false):jj6 (listed.setIfInBounds i true)+1=jj6 listed:=by
 obtain⟨l⟩:=listed
 have hi:i<l.length:=by
  rcases f0n i l.length with h1 | h1
  .exact h1
  .simp [h1] at h
 have hv:l[i]=false:=by simpa[hi] using h
 simp only[jj6,List.setIfInBounds_toArray]
 clear h
 induction l generalizing i with
 | nil=>simp at hi
 | cons b l ih =>
  cases i with
  | zero=>simp at hv;subst hv;simp
  | succ i =>
   have:=ih i (by simpa using hi) (by simpa using hv)
   simp only[List.set_cons_succ,List.filter_cons]
   split<;>simp_all
theorem jll {ops:Array Oper} {listed:Array Bool} {i:Nat} (h:i∈Region.ready .any ops listed) :
 listed.getD i true=false/\∃ o,ops[i]?=some o/\∀ e∈o.after,Region.binds .any e=true->listed.getD e.on false=true:=by
 simp only[Region.ready,List.mem_filter,f05,f2p] at h
 obtain⟨_,h1,h2⟩:=h
 cases ho:ops[i]? with
 | none=>simp[ho] at h2
 | some o =>
  refine⟨h1,o,rfl,fun e he hb=>?_⟩
  simp only[ho,f26,f1l] at h2
  have:=(Array.all_eq_true'.1 h2) e he
  simpa[hb] using this
theorem jvc {ops:Array Oper} (I:Array Bool->Act->World->Prop)
 (hstep:∀ listed a w i,I listed a w->i∈Region.ready .any ops listed->wpOp P ops Q i (fun a' w'=>I (listed.setIfInBounds i true) a' w') a w)
 (hend:∀ listed a w,I listed a w->Region.ready .any ops listed=[]->Q .normal a w) :
 ∀ (fuel:Nat) (listed:Array Bool) (a:Act) (w:World),jj6 listed<=fuel->I listed a w->wpAny P .any ops Q fuel listed a w
 | 0,listed,a,w,hf,hi=>by
  have:Region.ready .any ops listed=[]:=by
   rw[List.eq_nil_iff_forall_not_mem]
   intro i h
   have:=jmi listed i (jll h).1
   omega
  exact⟨this,hend _ _ _ hi this⟩
 | fuel+1,listed,a,w,hf,hi=>by
  refine⟨fun h=>hend _ _ _ hi h,fun i h=>?_⟩
  have hu:=jmi listed i (jll h).1
  exact wpOp_mono (fun a' w' hi'=>jvc I hstep hend fuel _ a' w' oa hi') (hstep _ _ _ _ hi h)
theorem jiv {ops:Array Oper} {id:Nat} {a:Act} {w:World} (hm:P.follows .mixedOrders=true) (I:(Nat->Prop)->Act->World->Prop)
 (hback:∀ (i:Nat) o,ops[i]?=some o->∀ e∈o.after,Region.binds .any e=true->e.on<i)
 (h0:I (fun _=>False) a { w with drawn:=w.drawn+1 })
 (hstep:∀ L a w (i:Nat) o,I L a w->¬ L i->ops[i]?=some o->(∀ e∈o.after,Region.binds .any e=true->L e.on) ->
  if Region.wanted o (yielded ops a.tmps)=true then o.wp P a w (fun a' w'=>I (fun j=>L j∨j=i) a' w') Q else I (fun j=>L j∨j=i) (a.put o.dst undef) w)
 (hend:∀ L a w,I L a w->(∀ i,i<ops.size->L i)->Q .normal a w):(Code.region id ops true).wp P Q a w:=by
 refine wp_region_any hm (jvc (fun listed a w=>listed.size=ops.size/\I (fun j=>listed.getD j false=true) a w) ?_ ?_ _ _ _ _ (by simp[jj6]) ⟨se,?_⟩)
 .intro listed a w i ⟨hsz,hI⟩ hr
  obtain⟨hli,o,ho,hdeps⟩:=jll hr
  have hin:i<ops.size:=(f2h.1 ho).1
  have hnl:¬ listed.getD i false=true:=by
   have:listed.getD i false=listed.getD i true:=by simp[f0z,f19 (show i<listed.size by omega)]
   rw[this,hli];simp
  have hset:(fun j=>(listed.setIfInBounds i true).getD j false=true)=(fun j=>listed.getD j false=true∨j=i):=by
   funext j
   by_cases e:j=i
   .subst e;simp[f0z,hsz,hin]
   .simp [f0z,Ne.symm e,e]
  have hs:=hstep _ a w i o hI hnl ho hdeps
  have key:∀ a' w',I (fun j=>listed.getD j false=true∨j=i) a' w'->(listed.setIfInBounds i true).size=ops.size/\I (fun j=>(listed.setIfInBounds i true).getD j false=true) a' w':=fun a' w' h=>⟨by simpa using hsz,by rw[hset];exact h⟩
  simp only[wpOp,ho]
  split
  .rename_i hw
   rw[if_pos hw] at hs
   exact .inl (Oper.wp_mono key hs)
  .rename_i hw
   rw[if_neg hw] at hs
   exact key _ _ hs
 .intro listed a w ⟨hsz,hI⟩ hr
  refine hend _ a w hI ?_
  have key:∀ k,k<=ops.size->∀ j,j<k->listed.getD j false=true:=by
   intro k
   induction k with
   | zero=>intro _ j hj;omega
   | succ k ih =>
    intro hk j hj
    rcases f2q.1 hj with h | h
    .exact ih oa j h
    .subst h
     cases hc:listed.getD j false with
     | true=>rfl
     | false =>
      exfalso
      have hmem:j∈Region.ready .any ops listed:=by
       have e1:listed.getD j true=listed.getD j false:=by simp[f0z,f19 (show j<listed.size by omega)]
       simp only[Region.ready,List.mem_filter,List.mem_range,f05,f2p]
       refine⟨oa,by rw[e1,hc],?_⟩
       have ho:ops[j]?=some ops[j]:=f19 oa
       simp only[ho,f26,f1l]
       rw[Array.all_eq_true']
       intro e he
       cases hb:Region.binds .any e with
       | false=>rfl
       | true=>simpa using ih oa e.on (hback j _ ho e he hb)
      rw[hr] at hmem
      cases hmem
  exact fun i hi=>key ops.size (f0h _) i hi
 .have:(fun j=>(Array.replicate ops.size false).getD j false=true)=(fun _:Nat=>False):=by
   funext j
   by_cases h:j<ops.size<;>simp[f0z,h]
  rw[this]
  exact h0
end
theorem jvd (m n:Nat):tb m n=m.testBit n:=by
 unfold tb Nat.testBit
 rw[f10,jiu]
 have h1:Nat.land (Nat.shiftRight m n) 1=(m >>> n) % 2:=f11 _
 have h2:1 &&& (m >>> n)=(m >>> n) % 2:=by rw[Nat.and_comm];exact f11 _
 rw[h1,h2]
 have:=Nat.mod_two_eq_zero_or_one (m >>> n)
 rcases this with h | h<;>simp[h]
theorem jsf (n:Nat):tb 0 n=false:=by rw[jvd];simp
theorem j62 (a b n:Nat):tb (Nat.lor a b) n=(tb a n||tb b n):=by
 rw[jvd,jvd,jvd];exact Nat.testBit_or a b n
theorem qhj (k n:Nat):tb (Nat.shiftLeft 1 k) n=(k == n):=by
 rw[jvd]
 have:Nat.shiftLeft 1 k=2 ^ k:=Nat.one_shiftLeft k
 rw[this,Nat.testBit_two_pow]
 by_cases h:k=n<;>simp[h]
theorem qk0 (a b n:Nat):tb (Nat.xor a (Nat.land a b)) n=(tb a n && !tb b n):=by
 rw[jvd,jvd,jvd]
 have h1:(Nat.xor a (Nat.land a b)).testBit n=((a.testBit n) ^^ ((Nat.land a b).testBit n)):=Nat.testBit_xor a (Nat.land a b) n
 have h2:(Nat.land a b).testBit n=(a.testBit n&&b.testBit n):=Nat.testBit_and a b n
 rw[h1,h2]
 cases a.testBit n<;>cases b.testBit n<;>rfl
def jan {α:Type} (f:Nat->α):Nat->List α
 | 0=>[]
 | i+1=>f i::jan f i
theorem joq {α:Type} (f:Nat->α):∀ i,(jan f i).length=i
 | 0=>rfl
 | i+1=>by simp[jan,joq f i]
theorem jor {α:Type} (f:Nat->α):∀ i k,k<i->(jan f i)[k]?=some (f (i - 1 - k))
 | 0,k,h=>oa
 | i+1,0,h=>by simp[jan]
 | i+1,k+1,h=>by
  simp only[jan,f2u]
  rw[jor f i k oa]
  congr 2
  omega
theorem jbk {α:Type} (f:Nat->α) {i j:Nat} (h:j<i):(jan f i)[i - 1 - j]?=some (f j):=by
 rw[jor f i _ oa]
 congr 2
 omega
theorem jh9 {α:Type} {f:Nat->α} {i k:Nat} {x:α} (h:(jan f i)[k]?=some x):k<i/\f (i - 1 - k)=x:=by
 have hk:k<i:=by
  rcases f0n k i with h1 | h1
  .exact h1
  .rw [f0y (by rw[joq];omega)] at h;cases h
 rw[jor f i k hk] at h
 exact⟨hk,Option.some.inj h⟩
theorem je2 {ms:List Nat} {k:Nat}:∀ {es:List Edge} {acc m:Nat},ju1 ms k es acc=some m ->
 (∀ e∈es,Region.binds .any e=true->e.on<k)/\∀ j,tb m j=true↔tb acc j=true∨∃ e∈es,Region.binds .any e=true/\(j=e.on∨∃ m',ms[k - 1 - e.on]?=some m'/\tb m' j=true)
 | [],acc,m,h=>by cases h;simp
 | e::es,acc,m,h=>by
  simp only[ju1] at h
  cases hb:Region.binds .any e with
  | false =>
   rw[hb] at h
   simp only[cond_false] at h
   obtain⟨h1,h2⟩:=je2 h
   refine⟨fun e' he' hb'=>?_,fun j=>?_⟩
   .rcases f0f.1 he' with rfl | h3
    .rw [hb] at hb';cases hb'
    .exact h1 e' h3 hb'
   .rw [h2]
    simp[hb]
  | true =>
   rw[hb] at h
   simp only[cond_true] at h
   cases hl:Nat.blt e.on k with
   | false=>rw[hl] at h;cases h
   | true =>
    rw[hl] at h
    simp only[cond_true] at h
    split at h
    .rename_i m' hm'
     obtain⟨h1,h2⟩:=je2 h
     have hlt:e.on<k:=f0l hl
     refine⟨fun e' he' hb'=>?_,fun j=>?_⟩
     .rcases f0f.1 he' with rfl | h3
      .exact hlt
      .exact h1 e' h3 hb'
     .rw [h2,j62,j62,qhj]
      simp only[f2b,beq_iff_eq,f0f]
      constructor
      .rintro (((h3 | h3) | h3) | ⟨e',h3,h4,h5⟩)
       .exact .inl h3
       .exact .inr ⟨e,.inl rfl,hb,.inl h3.symm⟩
       .exact .inr ⟨e,.inl rfl,hb,.inr ⟨m',hm',h3⟩⟩
       .exact .inr ⟨e',.inr h3,h4,h5⟩
      .rintro (h3 | ⟨e',rfl | h3,h4,h5⟩)
       .exact .inl (.inl (.inl h3))
       .rcases h5 with h5 | ⟨m'',h5,h6⟩
        .exact .inl (.inl (.inr h5.symm))
        .rw [hm'] at h5;cases h5;exact .inl (.inr h6)
       .exact .inr ⟨e',h3,h4,h5⟩
    .cases h
theorem jlm {un:Nat}:∀ {k o0 j:Nat},j∈jhj un k o0↔∃ o,j=o0+o/\o<k/\tb un (k - 1 - o)=true
 | 0,o0,j=>by simp[jhj]
 | k+1,o0,j=>by
  have ih:=@jlm un k (o0+1) j
  simp only[jhj]
  have aux:(∃ o,j=o0+o/\o<k+1/\tb un (k+1 - 1 - o)=true)↔(j=o0/\tb un k=true)∨∃ o,j=o0+1+o/\o<k/\tb un (k - 1 - o)=true:=by
   constructor
   .rintro ⟨o,h1,h2,h3⟩
    cases o with
    | zero=>exact .inl ⟨h1,by simpa using h3⟩
    | succ o=>exact .inr ⟨o,oa,oa,by rw[←h3];congr 1;omega⟩
   .rintro (⟨h1,h2⟩ | ⟨o,h1,h2,h3⟩)
    .exact ⟨0,oa,oa,by simpa using h2⟩
    .exact ⟨o+1,oa,oa,by rw[←h3];congr 1;omega⟩
  rw[aux]
  cases hb:tb un k with
  | true=>simp only[cond_true,f0f,ih,and_true]
  | false=>simp only[cond_false,ih,f1c,and_false,false_or]
section
variable (T:Tr TI) (π:List Nat) (nt:Nat) (ops:Array Oper)
def jcw (i:Nat):Oper:=ops.getD i default
def dD (i:Nat):Option Nat:=(jcw ops i).dst
def rD (i:Nat):List Nat:=jn6 (jcw ops i).op.operands.toList
def rM:Nat->List Nat
 | 0=>[]
 | i+1=>((ju1 (rM i) i (jcw ops i).after.toList 0).getD 0)::rM i
def mM (i:Nat):Nat:=(ju1 (rM ops i) i (jcw ops i).after.toList 0).getD 0
theorem qqy:∀ i,rM ops i=jan (mM ops) i
 | 0=>rfl
 | i+1=>by
  show mM ops i::rM ops i=mM ops i::jan (mM ops) i
  rw[qqy i]
def pO (i:Nat):IOper:=(j30 T π nt (jan (dD ops) i) i (jcw ops i)).getD (.mk none (.a .bad) none)
def aO (i:Nat):Bool:=jr6 (pO T π nt ops i)
def j4e:Nat->Nat
 | 0=>0
 | i+1=>bif aO T π nt ops i then Nat.lor (j4e i) (Nat.shiftLeft 1 i) else j4e i
def unO (i:Nat):Nat:=Nat.xor (j4e T π nt ops i) (Nat.land (j4e T π nt ops i) (mM ops i))
theorem jve:∀ i j,tb (j4e T π nt ops i) j=(decide (j<i)&&aO T π nt ops j)
 | 0,j=>by simp[j4e,jsf]
 | i+1,j=>by
  have ih:=jve i j
  simp only[j4e]
  cases ha:aO T π nt ops i with
  | true =>
   simp only[cond_true,j62,qhj,ih]
   by_cases e:i=j
   .subst e;simp[ha]
   .have h1:(i == j)=false:=by simpa using e
    have h2:decide (j<i+1)=decide (j<i):=by rw[decide_eq_decide];omega
    rw[h1,h2,Bool.or_false]
  | false =>
   simp only[cond_false,ih]
   by_cases e:i=j
   .subst e;simp[ha]
   .have h2:decide (j<i+1)=decide (j<i):=by rw[decide_eq_decide];omega
    rw[h2]
theorem jm1 (i j:Nat):tb (unO T π nt ops i) j=(decide (j<i)&&aO T π nt ops j && !tb (mM ops i) j):=by
 unfold unO
 rw[qk0,jve]
structure OpF (i:Nat):Prop where
 oper:j30 T π nt (jan (dD ops) i) i (jcw ops i)=some (pO T π nt ops i)
 msk:ju1 (jan (mM ops) i) i (jcw ops i).after.toList 0=some (mM ops i)
 reads:jhi (jan (dD ops) i) i (mM ops i) (jcw ops i).op.operands.toList=true
 grd:jx5 (mM ops i) (jcw ops i).guard=true
 fresh:ju2 (jan (dD ops) i) (dD ops i)=true
 wr:qkq (jan (rD ops) i) (mM ops i) (dD ops i)=true
theorem jos:∀ (r:List Oper) (n:Nat) (l:List (IOper×Bool×Nat)),(∀ k o,r[k]?=some o->jcw ops (n+k)=o) ->
 qqs T π nt (jan (dD ops) n) (jan (rD ops) n) (jan (mM ops) n) (j4e T π nt ops n) n r=some l ->
 l.length=r.length/\∀ k,k<r.length->OpF T π nt ops (n+k)/\l[k]?=some (pO T π nt ops (n+k),aO T π nt ops (n+k),unO T π nt ops (n+k))
 | [],n,l,hr,h=>by cases h;simp
 | o::r,n,l,hr,h=>by
  have ho:jcw ops n=o:=hr 0 o rfl
  subst ho
  simp only[qqs] at h
  split at h
  .rename_i ip m hip hm
   have e1:pO T π nt ops n=ip:=by unfold pO;rw[hip];rfl
   have e2:mM ops n=m:=by unfold mM;rw[qqy,hm];rfl
   subst e1 e2
   cases hb:(jhi (jan (dD ops) n) n (mM ops n) (jcw ops n).op.operands.toList&&(jx5 (mM ops n) (jcw ops n).guard&&(ju2 (jan (dD ops) n) (jcw ops n).dst&&qkq (jan (rD ops) n) (mM ops n) (jcw ops n).dst))) with
   | false=>rw[hb] at h;cases h
   | true =>
    rw[hb] at h
    simp only[cond_true] at h
    simp only[f05] at hb
    obtain⟨b1,b2,b3,b4⟩:=hb
    split at h
    .rename_i l' hl'
     cases h
     obtain⟨i1,i2⟩:=jos r (n+1) l' (fun k o hk=>by have:=hr (k+1) o (by simpa using hk);rw[←this];congr 1;omega) hl'
     refine⟨by simp[i1],fun k hk=>?_⟩
     cases k with
     | zero=>exact⟨⟨hip,hm,b1,b2,b3,b4⟩,rfl⟩
     | succ k =>
      have:=i2 k (by simpa using hk)
      rw[show n+1+k=n+(k+1) by omega] at this
      exact⟨this.1,by simpa using this.2⟩
    .cases h
  .cases h
def jfa:List (IOper×Bool×Nat)->Bool
 | []=>false
 | (_,act,un)::r=>jfa r||(act && !(Nat.beq un 0))
theorem jvf:∀ (l:List (IOper×Bool×Nat)) (k:Nat),(qkr k l).2=jfa l/\(qkr k l).1.length=l.length /\
 ∀ i op act un,l[i]?=some (op,act,un)->(qkr k l).1[i]?=some (op,bif act&&jfa (l.drop i) then some (jhj un (k+i) 0) else none)
 | [],k=>by simp[qkr,jfa]
 | (op,act,un)::r,k=>by
  obtain⟨i1,i2,i3⟩:=jvf r (k+1)
  simp only[qkr]
  refine⟨by rw[i1];rfl,by simp[i2],fun i op' act' un' h=>?_⟩
  cases i with
  | zero =>
   simp only[f1p,Option.some.injEq,Prod.mk.injEq] at h
   obtain⟨rfl,rfl,rfl⟩:=h
   simp only[f1p,f1f,jfa,f1z,i1]
  | succ i =>
   simp only[f2u] at h ⊢
   rw[i3 i op' act' un' h]
   simp only[List.drop_succ_cons]
   rw[show k+1+i=k+(i+1) by omega]
theorem jmj:∀ (l:List (IOper×Bool×Nat)),jfa l=true↔∃ (i:Nat) (op:IOper) (un:Nat),l[i]?=some (op,true,un)/\un≠0
 | []=>by simp[jfa]
 | (op,act,un)::r=>by
  simp only[jfa,f2b,jmj r,f05,f2p]
  constructor
  .rintro (⟨i,op',un',h1,h2⟩ | ⟨rfl,h⟩)
   .exact ⟨i+1,op',un',by simpa using h1,h2⟩
   .exact ⟨0,op,un,rfl,fun e=>by subst e;simp at h⟩
  .rintro ⟨i,op',un',h1,h2⟩
   cases i with
   | zero =>
    simp only[f1p,Option.some.injEq,Prod.mk.injEq] at h1
    obtain⟨rfl,rfl,rfl⟩:=h1
    exact .inr ⟨rfl,by cases h:Nat.beq un 0 with
                       | false=>rfl
                       | true=>exact absurd (f0k h) h2⟩
   | succ i=>exact .inl ⟨i,op',un',by simpa using h1,h2⟩
def md (i:Nat):Option (List Nat) :=
 open Classical in if aO T π nt ops i = true ∧ ∃ j, i ≤ j ∧ j < ops.size ∧ aO T π nt ops j = true ∧ unO T π nt ops j ≠ 0 then some (jhj (unO T π nt ops i) i 0) else none
theorem j4f {l:List (IOper×Option (List Nat))} (h:j6j T π nt ops.toList=some l) :
 l.length=ops.size/\∀ i,i<ops.size->OpF T π nt ops i/\l[i]?=some (pO T π nt ops i,md T π nt ops i):=by
 unfold j6j at h
 split at h
 .rename_i l1 h1
  cases h
  obtain⟨a1,a2⟩:=jos T π nt ops ops.toList 0 l1 (fun k o hk=>by
   rw[f1g] at hk
   simp[jcw,f0z,hk]) h1
  obtain⟨_,b2,b3⟩:=jvf l1 0
  refine⟨by rw[b2,a1];simp,fun i hi=>?_⟩
  have:=a2 i (by simpa using hi)
  rw[f1b] at this
  refine⟨this.1,?_⟩
  rw[b3 i _ _ _ this.2]
  congr 2
  rw[f1b]
  unfold md
  have hbad:jfa (l1.drop i)=true↔∃ j,i<=j/\j<ops.size/\aO T π nt ops j=true/\unO T π nt ops j≠0:=by
   rw[jmj]
   constructor
   .rintro ⟨k,op,un,h2,h3⟩
    rw[f1h] at h2
    have hk:i+k<ops.toList.length:=by
     have:=(f0q.1 h2).1
     rw[a1] at this
     exact this
    have h4:=(a2 (i+k) hk).2
    rw[f1b] at h4
    rw[h4] at h2
    simp only[Option.some.injEq,Prod.mk.injEq] at h2
    exact⟨i+k,oa,by simpa using hk,h2.2.1,by rw[h2.2.2];exact h3⟩
   .rintro ⟨j,h2,h3,h4,h5⟩
    have h6:=(a2 j (by simpa using h3)).2
    rw[f1b,h4] at h6
    exact⟨j - i,_,_,by rw[f1h,show i+(j - i)=j by omega];exact h6,h5⟩
  by_cases hc:aO T π nt ops i=true/\∃ j,i<=j/\j<ops.size/\aO T π nt ops j=true/\unO T π nt ops j≠0
  .rw [if_pos hc,hc.1,hbad.2 hc.2];rfl
  .rw [if_neg hc]
   cases ha:aO T π nt ops i with
   | false=>rfl
   | true =>
    have:jfa (l1.drop i)=false:=by
     cases hb:jfa (l1.drop i) with
     | false=>rfl
     | true=>exact absurd ⟨ha,hbad.1 hb⟩ hc
    rw[this];rfl
 .cases h
end
theorem jcl {α:Type} {f g:Nat->α}:∀ i,(∀ j,j<i->f j=g j)->jan f i=jan g i
 | 0,_=>rfl
 | i+1,h=>by simp only[jan];rw[h i oa,jcl i (fun j hj=>h j oa)]
theorem jq9 {cl:FuncId->List AV->Hp->R}:∀ (l:List (IOper×Option (List Nat))) (n:Nat) (V0:Nat->AV) (H0:Nat->Hp) (E0:Nat->Ent) (F0:Nat->List AV) (s:St),jx4 cl l (jan V0 n) (jan E0 n) (F0 n) (H0 n)=some s ->
 ∃ (V:Nat->AV) (H:Nat->Hp) (E:Nat->Ent) (F:Nat->List AV),(∀ j,j<n->V j=V0 j/\E j=E0 j)/\(∀ j,j<=n->H j=H0 j/\F j=F0 j) /\
  (∀ (k:Nat) (dst:Option Nat) (op:IOp) (g:Option (Nat×Bool)) (m:Option (List Nat)),l[k]?=some (.mk dst op g,m)->jxw cl (jan V (n+k)) (F (n+k)) (jan E (n+k)) (H (n+k)) op g m=some (.mk (V (n+k)) (H (n+k+1)) (E (n+k)))/\F (n+k+1)=jc0 (F (n+k)) dst (V (n+k))) /\
  s=.mk (F (n+l.length)) (H (n+l.length))
 | [],n,V0,H0,E0,F0,s,h=>⟨V0,H0,E0,F0,fun _ _=>⟨rfl,rfl⟩,fun _ _=>⟨rfl,rfl⟩,fun k dst op g m hk=>by simp at hk,(Option.some.inj (show some (St.mk (F0 n) (H0 n))=some s from h)).symm⟩
 | (.mk dst op g,m)::l,n,V0,H0,E0,F0,s,h=>by
  obtain⟨d,hd,h1⟩:=jaa.1 (show ob (jxw cl (jan V0 n) (F0 n) (jan E0 n) (H0 n) op g m) (fun p=>DR.casesOn p (fun v h' e=>jx4 cl l (v::jan V0 n) (e::jan E0 n) (jc0 (F0 n) dst v) h'))=some s from h)
  cases d with
  | mk v h' e =>
  have e1:jan (fun j=>if j=n then v else V0 j) (n+1)=v::jan V0 n:=by
   simp only[jan,if_true]
   rw[jcl n (fun j hj=>by rw[if_neg oa])]
  have e2:jan (fun j=>if j=n then e else E0 j) (n+1)=e::jan E0 n:=by
   simp only[jan,if_true]
   rw[jcl n (fun j hj=>by rw[if_neg oa])]
  obtain⟨V,H,E,F,p1,p2,p3,p4⟩:=jq9 l (n+1) (fun j=>if j=n then v else V0 j) (fun j=>if j=n+1 then h' else H0 j) (fun j=>if j=n then e else E0 j) (fun j=>if j=n+1 then jc0 (F0 n) dst v else F0 j) s (by
   rw[e1,e2]
   simp only[if_true]
   exact h1)
  refine⟨V,H,E,F,fun j hj=>?_,fun j hj=>?_,fun k dst' op' g' m' hk=>?_,?_⟩
  .obtain ⟨q1,q2⟩:=p1 j oa
   rw[q1,q2,if_neg oa,if_neg oa]
   exact⟨rfl,rfl⟩
  .obtain ⟨q1,q2⟩:=p2 j oa
   rw[q1,q2,if_neg oa,if_neg oa]
   exact⟨rfl,rfl⟩
  .cases k with
   | zero =>
    simp only[f1p,Option.some.injEq,Prod.mk.injEq,IOper.mk.injEq] at hk
    obtain⟨⟨rfl,rfl,rfl⟩,rfl⟩:=hk
    have r1:=(p1 n oa).1
    have r2:=(p1 n oa).2
    have r3:=(p2 (n+1) oa).1
    have r4:=(p2 (n+1) oa).2
    have r5:=(p2 n oa).1
    have r6:=(p2 n oa).2
    simp only[if_true] at r1 r2 r3 r4
    rw[if_neg oa] at r5 r6
    have r7:jan V n=jan V0 n:=jcl n (fun j hj=>by rw[(p1 j oa).1,if_neg oa])
    have r8:jan E n=jan E0 n:=jcl n (fun j hj=>by rw[(p1 j oa).2,if_neg oa])
    simp only[f1z]
    rw[r1,r2,r3,r4,r5,r6,r7,r8]
    exact⟨hd,rfl⟩
   | succ k =>
    have:=p3 k dst' op' g' m' (by simpa using hk)
    rw[show n+1+k=n+(k+1) by omega] at this
    exact this
  .rw [p4]
   simp only[f0i]
   rw[show n+1+l.length=n+(l.length+1) by omega]
def j4g:Ent->List (Nat×Nat)
 | .mk iv _=>iv
def qqz:Ent->Option (List Nat)
 | .mk _ fp=>fp
theorem j63 (l r:List (Nat×Nat)) (n:Nat):jaq (jf8 l r) n=(jaq l n||jaq r n):=by
 induction l with
 | nil=>rw[jcv];simp[jaq]
 | cons p l ih =>
  have h1:∀ q:List (Nat×Nat),jaq (p::q) n=oif (Nat.ble p.1 n) (oif (Nat.ble (Nat.succ n) p.2) true (jaq q n)) (jaq q n):=fun _=>rfl
  have h2:jf8 (p::l) r=p::jf8 l r:=rfl
  rw[h2,h1,h1,ih]
  simp only[jat]
  cases Nat.ble p.1 n<;>cases Nat.ble (Nat.succ n) p.2<;>simp
theorem jb0 (p:Nat×Nat) (q:List (Nat×Nat)) (n:Nat):jaq (p::q) n=true↔(p.1<=n/\n<p.2)∨jaq q n=true:=by
 have h1:jaq (p::q) n=oif (Nat.ble p.1 n) (oif (Nat.ble (Nat.succ n) p.2) true (jaq q n)) (jaq q n):=rfl
 rw[h1]
 simp only[jat,jr7]
 by_cases h2:p.1<=n<;>by_cases h3:Nat.succ n<=p.2<;>simp[h2,h3]<;>omega
theorem jdz (n:Nat):jaq [] n=false:=rfl
theorem jfx {es:List Ent} {hid:List (Nat×Nat)}:∀ {js:List Nat} {r:List (Nat×Nat)},sel es js hid=some r ->
 ∀ n,jaq r n=true↔jaq hid n=true∨∃ j∈js,∃ e,es[j]?=some e/\jaq (j4g e) n=true
 | [],r,h,n=>by cases h;simp
 | j::js,r,h,n=>by
  obtain⟨e,he,h1⟩:=jaa.1 (show ob (je6 es j) (fun e=>ob (sel es js hid) (fun l=>Ent.casesOn e (fun iv _=>some (jf8 iv l))))=some r from h)
  obtain⟨l,hl,h2⟩:=jaa.1 h1
  rw[jc3] at he
  cases e with
  | mk iv fp =>
   cases h2
   rw[j63,f2b,jfx hl n]
   constructor
   .rintro (h3 | h3 | ⟨j',h3,e',h4,h5⟩)
    .exact .inr ⟨j,se,_,he,h3⟩
    .exact .inl h3
    .exact .inr ⟨j',by simp[h3],e',h4,h5⟩
   .rintro (h3 | ⟨j',h3,e',h4,h5⟩)
    .exact .inr (.inl h3)
    .rcases f0f.1 h3 with rfl | h3
     .rw [he] at h4;cases h4;exact .inl h5
     .exact .inr (.inr ⟨j',h3,e',h4,h5⟩)
theorem jra {b:Nat}:∀ {l:List Nat},j6g b l=true->b∉l
 | [],_=>se
 | n::l,h=>by
  have h':oif (Nat.beq n b) false (j6g b l)=true:=h
  rw[jat] at h'
  split at h'
  .cases h'
  .rename_i h1
   rw[jiu] at h1
   simp only[f0f,not_or]
   exact⟨fun e=>h1 e.symm,jra h'⟩
theorem jot {es:List Ent} {b:Nat}:∀ {js:List Nat},jjn es js b=true->∀ j∈js,∃ e ns,es[j]?=some e/\qqz e=some ns/\b∉ns
 | [],_,j,hj=>by simp at hj
 | j::js,h,j',hj=>by
  have h':(Option.rec false (fun e=>Ent.casesOn e (fun _ fp=>Option.rec false (fun ns=>oif (j6g b ns) (jjn es js b) false) fp)) (je6 es j))=true:=h
  cases he:je6 es j with
  | none=>rw[he] at h';cases h'
  | some e =>
   rw[he] at h'
   cases e with
   | mk iv fp =>
    cases fp with
    | none=>cases h'
    | some ns =>
     have h2:oif (j6g b ns) (jjn es js b) false=true:=h'
     rw[jat] at h2
     split at h2
     .rename_i h3
      rw[jc3] at he
      rcases f0f.1 hj with rfl | hj
      .exact ⟨_,ns,he,rfl,jra h3⟩
      .exact jot h2 j' hj
     .cases h2
section
variable {st fr:List AV} {h h':Hp} {cl:FuncId->List AV->Hp->R}
theorem j0h {op:IOp} {x:Nat} (hc:jca st fr op=.load x):∃ n agg y off,op=.a (.load n agg y)/\ev st fr y=some (.s (.ptr x off)):=by
 cases op with
 | p po=>cases hc
 | a ao =>
  cases ao with
  | load n agg y =>
   have hc':jr4 (ob (ev st fr y) (fun v=>jeh v (fun b _=>some (Cls.load b)) (fun _=>some .quiet))) (fun c=>c)=.load x:=hc
   cases he:ob (ev st fr y) (fun v=>jeh v (fun b _=>some (Cls.load b)) (fun _=>some .quiet)) with
   | none=>rw[he] at hc';cases hc'
   | some b =>
    rw[he] at hc'
    obtain⟨v,hv,h2⟩:=jaa.1 he
    rcases jbz h2 with⟨b,off,rfl,h3⟩ | ⟨cs,rfl,h3⟩
    .cases h3
     cases hc'
     exact⟨n,agg,y,off,rfl,hv⟩
    .cases h3
     cases hc'
  | app e size bytes y z =>
   have hc':jr4 (ob (ev st fr y) (fun v=>jit v none (fun b _ _ _ _ _=>some b))) .app=.load x:=hc
   cases he:ob (ev st fr y) (fun v=>jit v none (fun b _ _ _ _ _=>some b))<;>rw[he] at hc'<;>cases hc'
  | store n y z =>
   have hc':jr4 (ob (ev st fr y) (fun v=>jux v (fun b _=>some b))) .app=.load x:=hc
   cases he:ob (ev st fr y) (fun v=>jux v (fun b _=>some b))<;>rw[he] at hc'<;>cases hc'
  | _=>cases hc
theorem j0i {n:Nat} {agg:Bool} {y:Od} {b off:Nat} (hy:ev st fr y=some (.s (.ptr b off))) {v:AV} (hv:iop cl st fr h (.a (.load n agg y))=some (v,h')) :
 h'=h/\(h.get b).isSome=true/\∀ h2:Hp,h2.get b=h.get b->iop cl st fr h2 (.a (.load n agg y))=some (v,h2):=by
 obtain⟨u,hu,h1⟩:=jaa.1 (show jjl st fr h n agg y=some (v,h') from hv)
 rw[hy] at hu
 cases hu
 obtain⟨cs,hcs,h3⟩:=jaa.1 (show ob (rd h b off n) (fun cs=>ob (jgs agg cs) (fun v=>ok v h))=some (v,h') from h1)
 obtain⟨v',hv',h4⟩:=jaa.1 h3
 cases h4
 obtain⟨cs0,ty,hg,_,_⟩:=joc hcs
 refine⟨rfl,by rw[hg];rfl,fun h2 e=>?_⟩
 have:rd h2 b off n=some cs:=by
  have h5:rd h2 b off n=ob (h2.get b) (fun x=>AB.casesOn x (fun cs _=>jbp n (jb9 off cs)) (fun _ _=>none)):=rfl
  have h6:rd h b off n=ob (h.get b) (fun x=>AB.casesOn x (fun cs _=>jbp n (jb9 off cs)) (fun _ _=>none)):=rfl
  rw[h5,e,←h6,hcs]
 show jjl st fr h2 n agg y=_
 unfold jjl
 rw[hy]
 show ob (rd h2 b off n) (fun cs=>ob (jgs agg cs) (fun v=>ok v h2))=_
 rw[this]
 show ob (jgs agg cs) (fun v=>ok v h2)=_
 rw[hv']
 rfl
theorem j64 {ao:AO} (hc:jca st fr (.a ao)=.fresh) {v:AV} (hv:iop cl st fr h (.a ao)=some (v,h')) :
 ∃ (cs:List SV) (ty:TypeId) (g:Nat->AV),∀ h2,iop cl st fr h2 (.a ao)=nw h2 cs ty (fun n h=>ok (g n) h):=by
 cases ao with
 | new e z=>exact⟨z,e,fun n=>.s (.ptr n 0),fun _=>rfl⟩
 | box e x =>
  obtain⟨u,hu,hv1⟩:=jaa.1 (show ob (ev st fr x) (fun v=>cel v (fun cs=>nw h cs e (fun n h=>ok (.s (.ptr n 0)) h)))=some (v,h') from hv)
  have key:∀ h2,iop cl st fr h2 (.a (.box e x))=cel u (fun cs=>nw h2 cs e (fun n h=>ok (.s (.ptr n 0)) h)):=by
   intro h2
   show ob (ev st fr x) (fun v=>cel v (fun cs=>nw h2 cs e (fun n h=>ok (.s (.ptr n 0)) h)))=_
   rw[hu];rfl
  cases u with
  | s x=>exact⟨[x],e,fun n=>.s (.ptr n 0),key⟩
  | agg l=>exact⟨l,e,fun n=>.s (.ptr n 0),key⟩
  | _=>cases hv1
 | bslice e size z len ps =>
  obtain⟨u,hu,hv1⟩:=jaa.1 (show ob (fill st fr ps z) (fun cs=>nw h cs e (fun n h=>ok (.s (.slice n 0 len len true size)) h))=some (v,h') from hv)
  refine⟨u,e,fun n=>.s (.slice n 0 len len true size),fun h2=>?_⟩
  show ob (fill st fr ps z) (fun cs=>nw h2 cs e (fun n h=>ok (.s (.slice n 0 len len true size)) h))=_
  rw[hu];rfl
 | mkslice e size bytes z l c =>
  obtain⟨u,hu,hv1⟩:=jaa.1 (show jgc st fr h e size bytes z l c=some (v,h') from hv)
  obtain⟨u',hu',hv2⟩:=jaa.1 hv1
  obtain⟨m,rfl,hv3⟩:=je8 hv2
  obtain⟨n,rfl,hv4⟩:=je8 hv3
  obtain⟨h1,hv5⟩:=jae.1 hv4
  obtain⟨h2,hv6⟩:=jae.1 hv5
  obtain⟨h3,hv7⟩:=jae.1 hv6
  refine⟨rep z n,e,fun b=>.s (.slice b 0 m n true size),fun h2'=>?_⟩
  show jgc st fr h2' e size bytes z l c=_
  unfold jgc
  rw[hu]
  show ob (ev st fr c) _=_
  rw[hu']
  show oif (Nat.ble m n) (oif (Nat.ble (Nat.mul bytes n) 1000000000) (oif (Nat.ble n 1000000000) _ none) none) none=_
  rw[h1,h2,h3]
  rfl
 | load n agg y =>
  have hc':jr4 (ob (ev st fr y) (fun v=>jeh v (fun b _=>some (Cls.load b)) (fun _=>some .quiet))) (fun c=>c)=.fresh:=hc
  cases he:ob (ev st fr y) (fun v=>jeh v (fun b _=>some (Cls.load b)) (fun _=>some .quiet)) with
  | none=>rw[he] at hc';cases hc'
  | some c =>
   rw[he] at hc'
   obtain⟨v,hv,h2⟩:=jaa.1 he
   rcases jbz h2 with⟨b,off,rfl,h3⟩ | ⟨cs,rfl,h3⟩<;>cases h3<;>cases hc'
 | app e size bytes y z =>
  have hc':jr4 (ob (ev st fr y) (fun v=>jit v none (fun b _ _ _ _ _=>some b))) .app=.fresh:=hc
  cases he:ob (ev st fr y) (fun v=>jit v none (fun b _ _ _ _ _=>some b))<;>rw[he] at hc'<;>cases hc'
 | store n y z =>
  have hc':jr4 (ob (ev st fr y) (fun v=>jux v (fun b _=>some b))) .app=.fresh:=hc
  cases he:ob (ev st fr y) (fun v=>jux v (fun b _=>some b))<;>rw[he] at hc'<;>cases hc'
 | _=>cases hc
theorem jvg {op:IOp} (hc:jca st fr op=.quiet) {v:AV} (hv:iop cl st fr h op=some (v,h')):h'=h/\∀ h2,iop cl st fr h2 op=some (v,h2):=by
 cases op with
 | p po=>cases hc
 | a ao =>
  cases ao with
  | load n agg y =>
   have hc':jr4 (ob (ev st fr y) (fun v=>jeh v (fun b _=>some (Cls.load b)) (fun _=>some .quiet))) (fun c=>c)=.quiet:=hc
   cases he:ob (ev st fr y) (fun v=>jeh v (fun b _=>some (Cls.load b)) (fun _=>some .quiet)) with
   | none=>rw[he] at hc';cases hc'
   | some c =>
    rw[he] at hc'
    obtain⟨u,hu,h2⟩:=jaa.1 he
    rcases jbz h2 with⟨b,off,rfl,h3⟩ | ⟨cs,rfl,h3⟩
    .cases h3;cases hc'
    .obtain ⟨u',hu',h4⟩:=jaa.1 (show jjl st fr h n agg y=some (v,h') from hv)
     rw[hu] at hu'
     cases hu'
     obtain⟨cs',h5,h6⟩:=jaa.1 (show ob (jbp n cs) (fun cs=>ob (jgs agg cs) (fun v=>ok v h))=some (v,h') from h4)
     obtain⟨v',h7,h8⟩:=jaa.1 h6
     cases h8
     refine⟨rfl,fun h2=>?_⟩
     show jjl st fr h2 n agg y=_
     unfold jjl
     rw[hu]
     show ob (jbp n cs) (fun cs=>ob (jgs agg cs) (fun v=>ok v h2))=_
     rw[h5]
     show ob (jgs agg cs') (fun v=>ok v h2)=_
     rw[h7]
     rfl
  | boxc e x=>cases (show(none:R)=some (v,h') from hv)
  | app e size bytes y z =>
   have hc':jr4 (ob (ev st fr y) (fun v=>jit v none (fun b _ _ _ _ _=>some b))) .app=.quiet:=hc
   cases he:ob (ev st fr y) (fun v=>jit v none (fun b _ _ _ _ _=>some b))<;>rw[he] at hc'<;>cases hc'
  | store n y z =>
   have hc':jr4 (ob (ev st fr y) (fun v=>jux v (fun b _=>some b))) .app=.quiet:=hc
   cases he:ob (ev st fr y) (fun v=>jux v (fun b _=>some b))<;>rw[he] at hc'<;>cases hc'
  | _=>cases hc
inductive HeadR (cl:FuncId->List AV->Hp->R) (st fr:List AV) (es:List Ent) (h:Hp) (op:IOp) (js:List Nat) (hid':List (Nat×Nat)) (v:AV):Hp->Ent->Prop where
 | fresh (h1:Hp):jca st fr op=.fresh->iop cl st fr (.mk h.next h.tr h.next hid') op=some (v,h1)->HeadR cl st fr es h op js hid' v h1 (.mk [(h.next,h1.next)] (some []))
 | load (x:Nat) (h1:Hp):jca st fr op=.load x->iop cl st fr (.mk h.next h.tr h.next hid') op=some (v,h1)->HeadR cl st fr es h op js hid' v h1 (.mk [] (some [x]))
 | app (b:Nat) (h1:Hp):jca st fr op=.app b->jjn es js b=true->h.lo<=b->((Hp.mk h.next h.tr h.lo hid').get b).isSome=true->iop cl st fr (.mk h.next h.tr h.lo hid') op=some (v,h1)->HeadR cl st fr es h op js hid' v h1 (.mk [(b,b+1),(h.next,h1.next)] none)
 | quiet (h1:Hp):jca st fr op=.quiet->iop cl st fr (.mk h.next h.tr h.next hid') op=some (v,h1)->HeadR cl st fr es h op js hid' v h1 (.mk [] (some []))
 | other (h1:Hp):jca st fr op=.other->iop cl st fr (.mk h.next h.tr h.next hid') op=some (v,h1)->HeadR cl st fr es h op js hid' v h1 (.mk [(h.next,h1.next)] none)
theorem jou {es:List Ent} {op:IOp} {js:List Nat} {d:DR} (hd:jma cl st fr es h op js=some d) :
 ∃ hid' v h1 e,sel es js h.hid=some hid'/\HeadR cl st fr es h op js hid' v h1 e/\d=.mk v (.mk h1.next h1.tr h.lo h.hid) e:=by
 cases h with
 | mk n t lo hid =>
 obtain⟨hid',hs,h2⟩:=jaa.1 (show ob (sel es js hid) (fun hid' =>
  Cls.casesOn (jca st fr op)
   (jmm cl st fr n t lo n hid hid' op (fun n'=>.mk [(n,n')] (some [])))
   (fun x=>jmm cl st fr n t lo n hid hid' op (fun _=>.mk [] (some [x])))
   (fun b=>oif (jjn es js b) (oif (Nat.ble lo b) (ob (Hp.get (.mk n t lo hid') b) (fun _=>jmm cl st fr n t lo lo hid hid' op (fun n'=>.mk [(b,Nat.succ b),(n,n')] none))) none) none)
   (jmm cl st fr n t lo n hid hid' op (fun _=>.mk [] (some [])))
   (jmm cl st fr n t lo n hid hid' op (fun n'=>.mk [(n,n')] none)))=some d from hd)
 cases hc:jca st fr op with
 | fresh =>
  rw[hc] at h2
  obtain⟨v,h1,h3,rfl⟩:=jhp h2
  exact⟨hid',v,h1,_,hs,.fresh h1 hc h3,rfl⟩
 | load x =>
  rw[hc] at h2
  obtain⟨v,h1,h3,rfl⟩:=jhp h2
  exact⟨hid',v,h1,_,hs,.load x h1 hc h3,rfl⟩
 | app b =>
  rw[hc] at h2
  obtain⟨h3,h4⟩:=jae.1 h2
  obtain⟨h5,h6⟩:=jae.1 h4
  obtain⟨x,hx,h7⟩:=jaa.1 h6
  obtain⟨v,h1,h8,rfl⟩:=jhp h7
  exact⟨hid',v,h1,_,hs,.app b h1 hc h3 (f0l h5) (by show(Hp.get (.mk n t lo hid') b).isSome=true;rw[hx];rfl) h8,rfl⟩
 | quiet =>
  rw[hc] at h2
  obtain⟨v,h1,h3,rfl⟩:=jhp h2
  exact⟨hid',v,h1,_,hs,.quiet h1 hc h3,rfl⟩
 | other =>
  rw[hc] at h2
  obtain⟨v,h1,h3,rfl⟩:=jhp h2
  exact⟨hid',v,h1,_,hs,.other h1 hc h3,rfl⟩
end
abbrev Tch (E:Nat->Ent) (i n:Nat):Prop:=jaq (j4g (E i)) n=true
structure DCtx (T:Tr TI) (π:List Nat) (nt:Nat) (ops:Array Oper) (cl:FuncId->List AV->Hp->R) (V:Nat->AV) (H:Nat->Hp) (E:Nat->Ent) (F:Nat->List AV):Prop where
 opf:∀ i,i<ops.size->OpF T π nt ops i
 run:∀ i,i<ops.size->∃ op g,pO T π nt ops i=.mk (jmx π (dD ops i)) op g/\cOp T π (jan (dD ops) i) (jcw ops i).op=some op/\jn5 (jan (dD ops) i) i (jcw ops i).guard=some g/\jr5 nt (dD ops i)=true /\
  jxw cl (jan V i) (F i) (jan E i) (H i) op g (md T π nt ops i)=some (.mk (V i) (H (i+1)) (E i))/\F (i+1)=jc0 (F i) (jmx π (dD ops i)) (V i)
 wf:WF (H 0)
 cla:jj5 cl
inductive Kind (T:Tr TI) (π:List Nat) (nt:Nat) (ops:Array Oper) (cl:FuncId->List AV->Hp->R) (V:Nat->AV) (H:Nat->Hp) (E:Nat->Ent) (F:Nat->List AV) (i:Nat) (op:IOp):Bool->Prop where
 | skip:V i=.undef->H (i+1)=H i->E i=.mk [] (some [])->Kind T π nt ops cl V H E F i op false
 | pure (po:PO):op=.p po->pop (jan V i) (F i) po=some (V i)->H (i+1)=H i->E i=.mk [] (some [])->aO T π nt ops i=false->Kind T π nt ops cl V H E F i op true
 | head (js:List Nat) (hid':List (Nat×Nat)) (h1:Hp):md T π nt ops i=some js->sel (jan E i) js (H i).hid=some hid'->HeadR cl (jan V i) (F i) (jan E i) (H i) op js hid' (V i) h1 (E i)->H (i+1)=.mk h1.next h1.tr (H i).lo (H i).hid->Kind T π nt ops cl V H E F i op true
 | tail:md T π nt ops i=none->aO T π nt ops i=true->iop cl (jan V i) (F i) (H i) op=some (V i,H (i+1))->E i=.mk [] (some [])->Kind T π nt ops cl V H E F i op true
section
variable {T:Tr TI} {π:List Nat} {nt:Nat} {ops:Array Oper} {cl:FuncId->List AV->Hp->R} {V:Nat->AV} {H:Nat->Hp} {E:Nat->Ent} {F:Nat->List AV}
theorem DCtx.kind (c:DCtx T π nt ops cl V H E F) {i:Nat} (hi:i<ops.size) :
 ∃ op g b,pO T π nt ops i=.mk (jmx π (dD ops i)) op g/\cOp T π (jan (dD ops) i) (jcw ops i).op=some op/\jn5 (jan (dD ops) i) i (jcw ops i).guard=some g/\jr5 nt (dD ops i)=true/\j6f (jan V i) g=some b/\Kind T π nt ops cl V H E F i op b/\F (i+1)=jc0 (F i) (jmx π (dD ops i)) (V i):=by
 obtain⟨op,g,h1,h2,h3,h4,h5,h6⟩:=c.run i hi
 obtain⟨b,hb,h7⟩:=jaa.1 h5
 refine⟨op,g,b,h1,h2,h3,h4,hb,?_,h6⟩
 have ha:aO T π nt ops i=jr6 (.mk (jmx π (dD ops i)) op g):=by unfold aO;grind
 cases b with
 | false =>
  have h8:some (DR.mk .undef (H i) (.mk [] (some [])))=some (.mk (V i) (H (i+1)) (E i)):=h7
  simp only[Option.some.injEq,DR.mk.injEq] at h8
  exact .skip h8.1.symm h8.2.1.symm h8.2.2.symm
 | true =>
  cases hm:md T π nt ops i with
  | none =>
   rw[hm] at h7
   obtain⟨p,hp,h8⟩:=jaa.1 (show ob (iop cl (jan V i) (F i) (H i) op) (fun p=>some (.mk p.1 p.2 (.mk [] (some []))))=some (DR.mk (V i) (H (i+1)) (E i)) from h7)
   obtain⟨v,h'⟩:=p
   simp only[Option.some.injEq,DR.mk.injEq] at h8
   obtain⟨rfl,rfl,h9⟩:=h8
   cases op with
   | p po =>
    obtain⟨v',hv',h10⟩:=jaa.1 (show ob (pop (jan V i) (F i) po) (fun v=>ok v (H i))=some (V i,H (i+1)) from hp)
    have h11:v'=V i/\H i=H (i+1):=by simpa[ok] using h10
    exact .pure po rfl (by grind) h11.2.symm h9.symm (by rw[ha];rfl)
   | a ao=>exact .tail hm (by rw[ha];rfl) hp h9.symm
  | some js =>
   rw[hm] at h7
   obtain⟨hid',v,h1',e,h8,h9,h10⟩:=jou (show jma cl (jan V i) (F i) (jan E i) (H i) op js=some (.mk (V i) (H (i+1)) (E i)) from h7)
   simp only[DR.mk.injEq] at h10
   obtain⟨rfl,h11,rfl⟩:=h10
   exact .head js hid' h1' hm h8 h9 h11
theorem jm2 {st fr:List AV} {es:List Ent} {h:Hp} {op:IOp} {js:List Nat} {hid':List (Nat×Nat)} {v:AV} {h1:Hp} {e:Ent} (hr:HeadR cl st fr es h op js hid' v h1 e) (wf:WF h) (hcl:jj5 cl) (hsub:∀ n,jaq h.hid n=true->jaq hid' n=true) :
 WF h1/\h.next<=h1.next/\(∀ n,¬ jaq (j4g e) n=true->h1.tr.get n=h.tr.get n) /\
 (∀ n,jaq (j4g e) n=true->(h.next<=n/\n<h1.next)∨(h.lo<=n/\n<h.next/\jaq hid' n=false/\(h.tr.get n).isSome=true/\jca st fr op=.app n)) /\
 (∀ n,n<h.next->(h1.tr.get n).isSome=true->(h.tr.get n).isSome=true) /\
 (∀ n,h.next<=n->n<h1.next->jaq hid' n=false/\jaq h.hid n=false/\jaq (j4g e) n=true):=by
 have seen:∀ lo',Abs (jx9 (.mk h.next h.tr lo' hid') (jca st fr op)) (.mk h.next h.tr lo' hid') h1->∀ n,h.next<=n->n<h1.next->jaq hid' n=false/\jaq h.hid n=false:=by
  intro lo' a n h2 h3
  have h4:=a.seen n h2 h3
  refine⟨h4,?_⟩
  cases h5:jaq h.hid n with
  | false=>rfl
  | true=>have h6:=hsub n h5;rw[show jaq hid' n=false from h4] at h6;grind
 have out:∀ {lo'},Abs (jx9 (.mk h.next h.tr lo' hid') (jca st fr op)) (.mk h.next h.tr lo' hid') h1->∀ n,h1.next<=n->h1.tr.get n=h.tr.get n:=fun a n hn=>by
  rw[a.wf.fresh n hn,wf.fresh n (f02 a.nx hn)]
 have wf':∀ lo',lo'<=h.next->WF (.mk h.next h.tr lo' hid'):=fun lo' hl=>⟨wf.pos,wf.top,hl,wf.fresh⟩
 have new:∀ (iv:List (Nat×Nat)),Abs (jx9 (.mk h.next h.tr h.next hid') (jca st fr op)) (.mk h.next h.tr h.next hid') h1->(∀ n,n<h.next->¬ jx9 (.mk h.next h.tr h.next hid') (jca st fr op) n) ->
  (∀ n,jaq iv n=true↔(h.next<=n/\n<h1.next)) ->
  WF h1/\h.next<=h1.next/\(∀ n,¬ jaq iv n=true->h1.tr.get n=h.tr.get n) /\
  (∀ n,jaq iv n=true->(h.next<=n/\n<h1.next)∨(h.lo<=n/\n<h.next/\jaq hid' n=false/\(h.tr.get n).isSome=true/\jca st fr op=.app n)) /\
  (∀ n,n<h.next->(h1.tr.get n).isSome=true->(h.tr.get n).isSome=true) /\
  (∀ n,h.next<=n->n<h1.next->jaq hid' n=false/\jaq h.hid n=false/\jaq iv n=true):=by
  intro iv a hw hiv
  refine⟨a.wf,a.nx,fun n hn=>?_,fun n hn=>.inl ((hiv n).1 hn),fun n hn hs=>a.live n hn hs,fun n h2 h3=>?_⟩
  .rcases f0n n h.next with h2 | h2
   .exact a.keep n h2 (.inl (hw n h2))
   .rcases f0n n h1.next with h3 | h3
    .exact absurd ((hiv n).2 ⟨h2,h3⟩) hn
    .exact out a n h3
  .obtain ⟨h4,h5⟩:=seen _ a n h2 h3
   exact⟨h4,h5,(hiv n).2 ⟨h2,h3⟩⟩
 cases hr with
 | fresh _ hc hi =>
  have a:=(jen (wf' _ (f0h _)) hcl hi).1
  exact new _ a (fun n hn h=>by rw[hc] at h;exact h) (fun n=>by simp[j4g,jb0,jdz])
 | load x _ hc hi =>
  have a:=(jen (wf' _ (f0h _)) hcl hi).1
  obtain⟨n',agg,y,off,rfl,hy⟩:=j0h hc
  obtain⟨rfl,_,_⟩:=j0i hy hi
  exact new _ a (fun n hn h=>by rw[hc] at h;exact h) (fun n=>by
   show jaq [] n=true↔h.next<=n/\n<h.next
   simp[jdz])
 | quiet _ hc hi =>
  have a:=(jen (wf' _ (f0h _)) hcl hi).1
  obtain⟨rfl,_⟩:=jvg hc hi
  exact new _ a (fun n hn h=>by rw[hc] at h;exact h) (fun n=>by
   show jaq [] n=true↔h.next<=n/\n<h.next
   simp[jdz])
 | other _ hc hi =>
  have a:=(jen (wf' _ (f0h _)) hcl hi).1
  exact new _ a (fun n hn h'=>by rw[hc] at h';exact absurd (show h.next<=n from h') oa) (fun n=>by simp[j4g,jb0,jdz])
 | app b _ hc hu hlo hg hi =>
  have a:=(jen (wf' _ wf.lo) hcl hi).1
  obtain⟨g1,g2⟩:=Hp.get_isSome hg
  have hb:b<h.next:=wf.lt g2
  have hiv:∀ n,jaq [(b,b+1),(h.next,h1.next)] n=true↔n=b∨(h.next<=n/\n<h1.next):=fun n=>by
   simp only[jb0,jdz,f1c,or_false]
   constructor
   .rintro (h | h)
    .exact .inl oa
    .exact .inr h
   .rintro (h | h)
    .exact .inl oa
    .exact .inr h
  refine⟨a.wf,a.nx,fun n hn=>?_,fun n hn=>?_,fun n hn hs=>a.live n hn hs,fun n h2 h3=>?_⟩
  .have hn':=fun h=>hn ((hiv n).2 h)
   rcases f0n n h.next with h2 | h2
   .exact a.keep n h2 (.inl (fun h=>by rw[hc] at h;exact hn' (.inl h)))
   .rcases f0n n h1.next with h3 | h3
    .exact absurd (.inr ⟨h2,h3⟩) hn'
    .exact out a n h3
  .rcases (hiv n).1 hn with rfl | h2
   .exact .inr ⟨hlo,hb,g1,g2,hc⟩
   .exact .inl h2
  .obtain ⟨h4,h5⟩:=seen _ a n h2 h3
   exact⟨h4,h5,(hiv n).2 (.inr ⟨h2,h3⟩)⟩
structure StepA (H:Nat->Hp) (E:Nat->Ent) (i:Nat) (isT:Prop):Prop where
 wf:WF (H (i+1))
 nx:(H i).next<=(H (i+1)).next
 lo:(H (i+1)).lo=(H i).lo
 hid:(H (i+1)).hid=(H i).hid
 same:¬ isT->∀ n,¬ Tch E i n->(H (i+1)).tr.get n=(H i).tr.get n
 tch:∀ n,Tch E i n->((H i).next<=n/\n<(H (i+1)).next)∨((H i).lo<=n/\n<(H i).next/\jaq (H i).hid n=false/\((H i).tr.get n).isSome=true)
 live:∀ n,n<(H i).next->((H (i+1)).tr.get n).isSome=true->((H i).tr.get n).isSome=true
 seen:∀ n,(H i).next<=n->n<(H (i+1)).next->jaq (H i).hid n=false/\(¬ isT->Tch E i n)
theorem DCtx.stepA (c:DCtx T π nt ops cl V H E F) {i:Nat} (hi:i<ops.size) (wf:WF (H i)):StepA H E i (aO T π nt ops i=true/\md T π nt ops i=none):=by
 obtain⟨op,g,b,h1,h2,h3,h4,hb,hk,h6⟩:=c.kind hi
 have quiet:H (i+1)=H i->E i=.mk [] (some [])->StepA H E i (aO T π nt ops i=true/\md T π nt ops i=none):=by
  intro e1 e2
  refine⟨by grind,by grind,by grind,by grind,fun _ n _=>by grind,fun n hn=>?_,fun n _ hs=>by grind,fun n h5 h6=>by rw[e1] at h6;omega⟩
  have hn':jaq (j4g (E i)) n=true:=hn
  rw[e2] at hn';trivial
 cases hk with
 | skip e1 e2 e3=>exact quiet e2 e3
 | pure po e1 e2 e3 e4 e5=>exact quiet e3 e4
 | head js hid' h1' hm hs hr he =>
  obtain⟨a1,a2,a3,a4,a5,a6⟩:=jm2 hr wf c.cla (fun n hn=>(jfx hs n).2 (.inl hn))
  have hlo:=wf.lo
  have en:(H (i+1)).next=h1'.next:=by rw[he];rfl
  have et:(H (i+1)).tr=h1'.tr:=by rw[he];rfl
  have el:(H (i+1)).lo=(H i).lo:=by rw[he];rfl
  have eh:(H (i+1)).hid=(H i).hid:=by rw[he];rfl
  refine⟨⟨by rw[en];exact a1.pos,by rw[en];exact a1.top,by rw[el,en];exact f02 hlo a2,by rw[en,et];exact a1.fresh⟩,by rw[en];exact a2,el,eh,fun _ n hn=>by rw[et];exact a3 n hn,fun n hn=>?_,by rw[et];exact a5,fun n h5 h6=>by rw[en] at h6;exact⟨(a6 n h5 h6).2.1,fun _=>(a6 n h5 h6).2.2⟩⟩
  rw[en]
  rcases a4 n hn with h | ⟨h5,h7,h8,h9,_⟩
  .exact .inl h
  .refine .inr ⟨h5,h7,?_,h9⟩
   cases h10:jaq (H i).hid n with
   | false=>rfl
   | true=>have:=(jfx hs n).2 (.inl h10);rw[h8] at this;cases this
 | tail hm ha hi' he =>
  have a:=(jen wf c.cla hi').2
  refine⟨a.wf,a.nx,a.lo,a.hid,fun h=>absurd ⟨ha,hm⟩ h,fun n hn=>?_,a.live,fun n h5 h6=>⟨a.seen n h5 h6,fun h=>absurd ⟨ha,hm⟩ h⟩⟩
  have hn':jaq (j4g (E i)) n=true:=hn
  rw[he] at hn';cases hn'
theorem DCtx.wfs (c:DCtx T π nt ops cl V H E F):∀ i,i<=ops.size->WF (H i)/\(H i).lo=(H 0).lo/\(H i).hid=(H 0).hid
 | 0,_=>⟨c.wf,rfl,rfl⟩
 | i+1,hi=>by
  obtain⟨h1,h2,h3⟩:=DCtx.wfs c i oa
  have s:=c.stepA (show i<ops.size by omega) h1
  exact⟨s.wf,s.lo.trans h2,s.hid.trans h3⟩
theorem DCtx.step (c:DCtx T π nt ops cl V H E F) {i:Nat} (hi:i<ops.size):StepA H E i (aO T π nt ops i=true/\md T π nt ops i=none):=c.stepA hi (c.wfs i oa).1
theorem DCtx.mono (c:DCtx T π nt ops cl V H E F) {i:Nat}:∀ j,i<=j->j<=ops.size->(H i).next<=(H j).next
 | 0,h1,h2=>by grind
 | j+1,h1,h2=>by
  rcases f0n i (j+1) with h3 | h3
  .exact f02 (DCtx.mono c j oa oa) (c.step (show j<ops.size by omega)).nx
  grind
def j0j (T:Tr TI) (π:List Nat) (nt:Nat) (ops:Array Oper) (i:Nat):Prop:=∀ j,j<i->¬ (aO T π nt ops j=true/\md T π nt ops j=none)
theorem DCtx.last (c:DCtx T π nt ops cl V H E F) (n:Nat):∀ i,i<=ops.size->j0j T π nt ops i ->
 ((∀ j,j<i->¬ Tch E j n)/\(H i).tr.get n=(H 0).tr.get n)∨∃ k,k<i/\Tch E k n/\(∀ j,k<j->j<i->¬ Tch E j n)/\(H i).tr.get n=(H (k+1)).tr.get n
 | 0,_,_=>.inl ⟨fun j hj=>oa,rfl⟩
 | i+1,hi,ht=>by
  have s:=c.step (show i<ops.size by omega)
  by_cases h:Tch E i n
  .grind
  .have e:=s.same (ht i oa) n h
   rcases DCtx.last c n i oa fun j hj=>ht j oa with⟨h1,h2⟩ | ⟨k,h1,h2,h3,h4⟩
   .grind
   grind
theorem DCtx.live (c:DCtx T π nt ops cl V H E F) {n:Nat} (hn:n<(H 0).next):∀ i,i<=ops.size->((H i).tr.get n).isSome=true->((H 0).tr.get n).isSome=true
 | 0,_,h=>h
 | i+1,hi,h=>by
  have s:=c.step (show i<ops.size by omega)
  exact DCtx.live c hn i oa (s.live n (f0o hn (c.mono i oa oa)) h)
theorem DCtx.maskDep (c:DCtx T π nt ops cl V H E F) {i j:Nat} (hi:i<ops.size) (h:tb (mM ops i) j=true) :
 ∃ e∈(jcw ops i).after.toList,Region.binds .any e=true/\e.on<i/\(j=e.on∨tb (mM ops e.on) j=true):=by
 obtain⟨h1,h2⟩:=je2 (c.opf i hi).msk
 grind[jsf,jbk]
theorem DCtx.back (c:DCtx T π nt ops cl V H E F) {i:Nat} (hi:i<ops.size) {e:Edge} (he:e∈(jcw ops i).after.toList) (hb:Region.binds .any e=true):e.on<i :=
 (je2 (c.opf i hi).msk).1 e he hb
def jrb (ops:Array Oper) (L:Nat->Prop):Prop:=∀ i,i<ops.size->L i->∀ e∈(jcw ops i).after.toList,Region.binds .any e=true->L e.on
theorem DCtx.maskIn (c:DCtx T π nt ops cl V H E F) {L:Nat->Prop} (hL:jrb ops L):∀ (i j:Nat),i<ops.size->(∀ e∈(jcw ops i).after.toList,Region.binds .any e=true->L e.on)->tb (mM ops i) j=true->L j:=by
 intro i
 induction i using Nat.strongRecOn with
 | _ i ih =>
  intro j hi hd h
  obtain⟨e,h1,h2,h3,h4⟩:=c.maskDep hi h
  rcases h4 with rfl | h4
  .grind
  .exact ih e.on h3 j oa (hL e.on oa (hd e h1 h2)) h4
theorem DCtx.maskLt (c:DCtx T π nt ops cl V H E F):∀ (i j:Nat),i<ops.size->tb (mM ops i) j=true->j<i:=by
 intro i
 induction i using Nat.strongRecOn with
 | _ i ih =>
  intro j hi h
  obtain⟨e,h1,h2,h3,h4⟩:=c.maskDep hi h
  grind
theorem qhk {i j:Nat} {js:List Nat} (hm:md T π nt ops i=some js) (hj:j<i):(i - 1 - j)∈js↔(aO T π nt ops j=true/\tb (mM ops i) j=false):=by
 unfold md at hm
 split at hm
 .cases hm
  rw[jlm]
  constructor
  .rintro ⟨o,h1,h2,h3⟩
   have e:i - 1 - o=j:=oa
   simp_all[jm1,f05,decide_eq_true_eq,f2p]
  .rintro ⟨h1,h2⟩
   refine⟨i - 1 - j,oa,oa,?_⟩
   grind[jm1]
 grind
theorem jln {i:Nat} {js:List Nat} (hm:md T π nt ops i=some js):aO T π nt ops i=true/\j0j T π nt ops i:=by
 unfold md at hm
 split at hm
 .rename_i hc
  refine⟨hc.1,fun j hj ⟨h1,h2⟩=>?_⟩
  obtain⟨k,h3,h4,h5,h6⟩:=hc.2
  unfold md at h2
  rw[if_pos ⟨h1,k,oa,h4,h5,h6⟩] at h2
  grind
 grind
theorem jlp {i:Nat} (hi:i<ops.size) (ha:aO T π nt ops i=true) (hm:md T π nt ops i=none) :
 (∀ j,j<i->aO T π nt ops j=true->tb (mM ops i) j=true)/\∀ k,i<=k->k<ops.size->aO T π nt ops k=true->md T π nt ops k=none/\∀ j,j<k->aO T π nt ops j=true->tb (mM ops k) j=true:=by
 have hno:∀ k,i<=k->k<ops.size->aO T π nt ops k=true->unO T π nt ops k=0:=by
  unfold md at hm
  simp_all
 have hall:∀ k,i<=k->k<ops.size->aO T π nt ops k=true->∀ j,j<k->aO T π nt ops j=true->tb (mM ops k) j=true:=by
  intro k h1 h2 h3 j hj h4
  have h5:=jm1 T π nt ops k j
  grind[jsf]
 unfold md
 grind
end
def cut (φ:Phi) (m:Nat):Phi:=⟨fun n=>if n<m then φ n else none,φ.k,φ.g⟩
theorem jmk (φ:Phi) (m n:Nat):cut φ m n=if n<m then φ n else none:=rfl
theorem Phi.ext {φ ψ:Phi} (h:∀ n,φ n=ψ n) (k:φ.k=ψ.k):φ=ψ:=by
 obtain⟨a,b,_⟩:=φ
 obtain⟨c,d,_⟩:=ψ
 have h' :=funext h
 grind
theorem j0k {φ:Phi} {m:Nat}:(cut φ m).le φ:=by
 refine⟨fun n L h=>?_,fun _ _ h=>h⟩
 grind[jmk]
theorem jia {φ ψ:Phi} {m m':Nat} (h:φ.le ψ) (hm:m<=m'):(cut φ m).le (cut ψ m'):=by
 refine⟨fun n L e=>?_,h.con⟩
 rw[jmk] at e ⊢
 split at e
 .rw [if_pos oa];exact h.nm n L e
 grind
theorem jdg {φ:Phi} {m n:Nat} {L:Lc} (h:cut φ m n=some L):n<m/\φ n=some L:=by
 grind[jmk]
theorem qhl {φ:Phi} {m n:Nat} (h:n<m):cut φ m n=φ n:=by rw[jmk,if_pos h]
theorem NmR.loc {A:Nat->Int} {φ:Phi} {n:Nat} {x:AB} {w:World} (k:NmR A φ n x w):∃ L,φ n=some L/\L.b<w.heap.size:=k.some_loc
def jql (ops:Array Oper) (H:Nat->Hp) (E:Nat->Ent) (L:Nat->Prop) (n:Nat):Prop :=
 ((∀ k,k<ops.size->L k->¬ Tch E k n)/\((H 0).get n).isSome=true)∨∃ k,k<ops.size/\L k/\Tch E k n/\(∀ k',k'<ops.size->L k'->k<k'->¬ Tch E k' n)/\((H (k+1)).get n).isSome=true
structure HInv (A:Nat->Int) (ops:Array Oper) (H:Nat->Hp) (E:Nat->Ent) (φ0:Phi) (w0:World) (L:Nat->Prop) (φ:Phi) (w:World):Prop where
 agree:∀ n,n<(H 0).next->φ n=φ0 n
 dom:∀ n l,φ n=some l->n<(H 0).next∨∃ k,k<ops.size/\L k/\(H k).next<=n/\n<(H (k+1)).next
 unt:∀ n x,(∀ k,k<ops.size->L k->¬ Tch E k n)->(H 0).get n=some x->NmR A (cut φ (H 0).next) n x w
 tch:∀ k n x,k<ops.size->L k->Tch E k n->(∀ k',k'<ops.size->L k'->k<k'->¬ Tch E k' n)->(H (k+1)).get n=some x->NmR A (cut φ (H (k+1)).next) n x w
 inj:∀ n n' l l',jql ops H E L n->jql ops H E L n'->φ n=some l->φ n'=some l'->l.b=l'.b->n=n'
 os:w.os=w0.os
 tape:w.tape=w0.tape
 output:w.output=w0.output
 size:w0.heap.size<=w.heap.size
 old:∀ b,b<w0.heap.size->(∀ n l,(H 0).lo<=n->((H 0).get n).isSome=true->φ0 n=some l->l.b≠b)->w.heap[b]?=w0.heap[b]?
 con:∀ b cs,φ.k b=some cs->∃ ty:TypeId×Nat×Nat,w.heap[b]?=some (.cells cs ty.1 ty.2)
 sep:∀ n l,jql ops H E L n->φ n=some l->φ.k l.b=none
 kle:∀ b cs,φ0.k b=some cs->φ.k b=some cs
 knew:∀ b cs,φ.k b=some cs->φ0.k b=some cs∨w0.heap.size<=b
 new:∀ n l,(H 0).next<=n->jql ops H E L n->φ n=some l->w0.heap.size<=l.b∨∃ m M,(H 0).lo<=m/\((H 0).get m).isSome=true/\φ0 m=some M/\M.b=l.b
section
variable {P:Program} {A:Nat->Int} {T:Tr TI} {π:List Nat} {nt:Nat} {ops:Array Oper} {cl:FuncId->List AV->Hp->R} {V:Nat->AV} {H:Nat->Hp} {E:Nat->Ent} {F:Nat->List AV}
 {φ φ0:Phi} {w w0:World} {L:Nat->Prop}
theorem jde {α:Type} {o:Option α} (h:o.isSome=true):∃ x,o=some x:=by
 cases o<;>simp_all
theorem HInv.pres_loc (k:HInv A ops H E φ0 w0 L φ w) {n:Nat} (h:jql ops H E L n):∃ l,φ n=some l/\l.b<w.heap.size:=by
 rcases h with⟨h1,h2⟩ | ⟨j,h1,h2,h3,h4,h5⟩
 .obtain ⟨x,hx⟩:=jde h2
  obtain⟨l,h3,h4⟩:=(k.unt n x h1 hx).some_loc
  exact⟨l,(jdg h3).2,h4⟩
 .obtain ⟨x,hx⟩:=jde h5
  obtain⟨l,h6,h7⟩:=(k.tch j n x h1 h2 h3 h4 hx).some_loc
  exact⟨l,(jdg h6).2,h7⟩
theorem jsg (c:DCtx T π nt ops cl V H E F) {k n:Nat} (hk:k<ops.size) (h:Tch E k n):aO T π nt ops k=true/\md T π nt ops k≠none:=by
 obtain⟨op,g,b,_,_,_,_,_,hk',_⟩:=c.kind hk
 have h':jaq (j4g (E k)) n=true:=h
 cases hk' with
 | skip _ _ e=>rw[e] at h';trivial
 | pure _ _ _ _ e _=>rw[e] at h';trivial
 | head js _ _ hm _ _ _=>grind[jln]
 | tail _ _ _ e=>rw[e] at h';trivial
theorem jvh (c:DCtx T π nt ops cl V H E F) {n:Nat} (hn:n<(H 0).next) (h:jql ops H E L n):((H 0).get n).isSome=true:=by
 rcases h with⟨_,h⟩ | ⟨k,h1,_,_,_,h5⟩
 .omega
 .obtain ⟨g1,g2⟩:=Hp.get_isSome h5
  rw[(c.wfs (k+1) oa).2.2] at g1
  exact Hp.isSome_get g1 (c.live hn (k+1) oa g2)
theorem HInv.vis (c:DCtx T π nt ops cl V H E F) (k:HInv A ops H E φ0 w0 L φ w) {i:Nat} (hi:i<=ops.size) (ht:j0j T π nt ops i) {n:Nat} {x:AB} (hx:(H i).tr.get n=some x) (hh:jaq (H 0).hid n=false)
 (h1:∀ j,j<i->Tch E j n->L j) (h2:∀ j,j<ops.size->L j->i<=j->¬ Tch E j n):jql ops H E L n/\NmR A (cut φ (H i).next) n x w:=by
 rcases c.last n i hi ht with⟨h3,h4⟩ | ⟨j,h3,h4,h5,h6⟩
 .have hall:∀ j,j<ops.size->L j->¬ Tch E j n:=fun j hj hl=>by
   grind
  have hg:(H 0).get n=some x:=by simp_all[Hp.get_eq,if_neg]
  exact⟨.inl ⟨hall,by grind⟩,(k.unt n x hall hg).mono (jia (Phi.le_refl _) (c.mono i oa hi))⟩
 .have hl:=h1 j h3 h4
  have hlast:∀ j',j'<ops.size->L j'->j<j'->¬ Tch E j' n:=fun j' hj' hl' hlt=>by
   rcases f0n j' i with h | h
   .exact h5 j' hlt h
   .exact h2 j' hj' hl' h
  have hg:(H (j+1)).get n=some x:=by
   rw[Hp.get_eq,(c.wfs (j+1) oa).2.2,if_neg (by rw[hh];simp),←h6];exact hx
  exact⟨.inr ⟨j,oa,hl,h4,hlast,by rw[hg];rfl⟩,(k.tch j n x oa hl h4 hlast hg).mono (jia (Phi.le_refl _) (c.mono i oa hi))⟩
theorem HInv.quiet (k:HInv A ops H E φ0 w0 L φ w) {i:Nat} (hi:∀ n,¬ Tch E i n):HInv A ops H E φ0 w0 (fun j=>L j∨j=i) φ w:=by
 have pr:∀ n,jql ops H E (fun j=>L j∨j=i) n->jql ops H E L n:=by
  rintro n (⟨h1,h2⟩ | ⟨j,h1,h2,h3,h4,h5⟩)
  .exact .inl ⟨fun j hj hl=>h1 j hj (.inl hl),h2⟩
  .rcases h2 with h2 | rfl
   .exact .inr ⟨j,h1,h2,h3,fun j' hj' hl'=>h4 j' hj' (.inl hl'),h5⟩
   grind
 refine⟨k.agree,fun n l h=>?_,fun n x h=>k.unt n x fun j hj hl=>h j hj (.inl hl),fun j n x h1 h2 h3 h4=>?_,fun n n' l l' h h'=>k.inj n n' l l' (pr n h) (pr n' h'),k.os,k.tape,k.output,k.size,k.old,k.con,fun n l h=>k.sep n l (pr n h),k.kle,k.knew,fun n l h h'=>k.new n l h (pr n h')⟩
 .rcases k.dom n l h with h | ⟨j,h1,h2,h3⟩
  .omega
  grind
 .rcases h2 with h2 | rfl
  .exact k.tch j n x h1 h2 h3 fun j' hj' hl'=>h4 j' hj' (.inl hl')
  grind
theorem HInv.full (c:DCtx T π nt ops cl V H E F) (k:HInv A ops H E φ0 w0 L φ w) {i:Nat} (hi:i<=ops.size) (ht:j0j T π nt ops i) (h1:∀ j,j<i->aO T π nt ops j=true->L j) (h2:∀ j,j<ops.size->L j->aO T π nt ops j=true->j<i) :
 Rel A φ (H i) w/\Step (fun n=>(H 0).lo<=n) φ0 φ (H 0) (H i) w0 w:=by
 obtain⟨wf,hlo,hhid⟩:=c.wfs i hi
 have vis:∀ n x,(H i).get n=some x->jql ops H E L n/\NmR A (cut φ (H i).next) n x w:=fun n x hx=>by
  obtain⟨g1,g2⟩:=Hp.get_some hx
  rw[hhid] at g1
  exact k.vis c hi ht g2 g1 (fun j hj h=>h1 j hj (jsg c oa h).1) (fun j hj hl hij h=>by grind[jsg])
 have pres:∀ n,((H i).get n).isSome=true->jql ops H E L n:=fun n hn=>by
  obtain⟨x,hx⟩:=jde hn
  exact(vis n x hx).1
 have mono0:=c.mono (i:=0) i oa hi
 refine⟨⟨wf,fun n hn=>?_,fun n x hx=>(vis n x hx).2.mono j0k,fun n m l l' hn hm=>k.inj n m l l' (pres n hn) (pres m hm),k.con,fun n l hn hl=>k.sep n l (pres n hn) hl⟩,
  ⟨⟨wf,mono0,hlo,hhid,fun n hn hv=>?_,fun n hn=>c.live hn i hi,fun n hn hlt=>?_⟩,k.agree,k.kle,k.knew,k.os,k.tape,k.output,k.size,k.old,fun n l hn hs hL=>k.new n l hn (pres n hs) hL⟩⟩
 .cases e:φ n with
  | none=>rfl
  | some l =>
   rcases k.dom n l e with h3 | ⟨j,h3,h4,h5,h6⟩
   .omega
   .have ha:aO T π nt ops j=true:=by
     have s:=c.step h3
     by_cases hT:aO T π nt ops j=true/\md T π nt ops j=none
     .exact hT.1
     .exact (jsg c h3 ((s.seen n h5 h6).2 hT)).1
    have:=c.mono (i:=j+1) i (by have:=h2 j h3 h4 ha;omega) hi
    omega
 .rcases c.last n i hi ht with⟨_,h4⟩ | ⟨j,h3,h4,_,_⟩
  .exact h4
  .exfalso
   have s:=c.step (show j<ops.size by omega)
   obtain⟨_,jlo,jhid⟩:=c.wfs j oa
   rcases s.tch n h4 with⟨h5,_⟩ | ⟨h5,_,h6,_⟩
   .have:=c.mono (i:=0) j oa oa
    omega
   .rcases hv with hv | hv
    .exact hv (by rw[←jlo];exact h5)
    .rw [jhid,hv] at h6;cases h6
 ·
  have key:∀ j,j<=i->n<(H j).next->jaq (H 0).hid n=false:=by
   intro j
   induction j with
   | zero=>intro _ h;omega
   | succ j ih =>
    intro hj h
    rcases f0n n (H j).next with h3 | h3
    .exact ih oa h3
    .have:=((c.step (show j<ops.size by omega)).seen n h3 h).1
     rwa [(c.wfs j oa).2.2] at this
  exact key i (f0h _) hlt
theorem jyh {st fr:List AV} {es:List Ent} {h:Hp} {op:IOp} {js:List Nat} {hid':List (Nat×Nat)} {v:AV} {h1:Hp} {e:Ent} (hr:HeadR cl st fr es h op js hid' v h1 e) {n:Nat} (hc:jca st fr op=.app n):jjn es js n=true:=by
 cases hr<;>simp_all
theorem later (c:DCtx T π nt ops cl V H E F) (hL:jrb ops L) {i k:Nat} (hk:k<ops.size) (hlk:L k) (hni:¬ L i) (hik:i<k) (ha:aO T π nt ops i=true) {n:Nat} (h:Tch E k n) :
 (H (i+1)).next<=n∨(¬ Tch E i n/\∃ ns,qqz (E i)=some ns/\n∉ns):=by
 obtain⟨op,g,b,_,_,_,_,_,hk',_⟩:=c.kind hk
 have h':jaq (j4g (E k)) n=true:=h
 cases hk' with
 | skip _ _ e=>rw[e] at h';trivial
 | pure _ _ _ _ e _=>rw[e] at h';trivial
 | tail _ _ _ e=>rw[e] at h';trivial
 | head js hid' h1' hm hs hr he =>
  have hjs:(k - 1 - i)∈js:=(qhk hm hik).2 ⟨ha,by
   cases hb:tb (mM ops k) i with
   | false=>rfl
   | true=>exact absurd (c.maskIn hL k i hk (hL k hk hlk) hb) hni⟩
  obtain⟨_,_,_,a4,_,_⟩:=jm2 hr (c.wfs k oa).1 c.cla (fun n hn=>(jfx hs n).2 (.inl hn))
  rcases a4 n h' with⟨h3,_⟩ | ⟨_,_,h3,_,h4⟩
  .exact .inl (f02 (c.mono (i:=i+1) k oa oa) h3)
  .refine .inr ⟨fun h5=>?_,?_⟩
   .have:=(jfx hs n).2 (.inr ⟨_,hjs,_,jbk E hik,h5⟩)
    rw[h3] at this;cases this
   .obtain ⟨e,ns,h5,h6,h7⟩:=jot (jyh hr h4) _ hjs
    rw[jbk E hik] at h5
    cases h5
    exact⟨ns,h6,h7⟩
theorem j65 {st fr:List AV} {es:List Ent} {h:Hp} {op:IOp} {js:List Nat} {hid':List (Nat×Nat)} {v:AV} {h1:Hp} {e:Ent} (hr:HeadR cl st fr es h op js hid' v h1 e) (wf:WF h) (hcl:jj5 cl) (ha:jr6 (.mk none op none)=true) :
 ∃ lo'' hid'' h2,lo''<=h.next/\iop cl st fr (.mk h.next h.tr lo'' hid'') op=some (v,h2)/\h2.tr=h1.tr/\h2.next=h1.next/\h2.hid=hid'' /\
  (∀ n,(h.tr.get n).isSome=true->jaq hid'' n=false->jaq hid' n=false/\(qqz e=none∨qqz e=some [n])) /\
  (∀ n,n<h.next->jx9 (.mk h.next h.tr lo'' hid'') (jca st fr op) n->jca st fr op=.app n) /\
  (∀ n,h.next<=n->n<h1.next->jaq hid' n=false->jaq hid'' n=false)/\(∀ n,jca st fr op=.app n->jaq hid'' n=false):=by
 cases hr with
 | fresh _ hc hi =>
  cases op with
  | p po=>trivial
  | a ao =>
  obtain⟨cs,ty,g,hg⟩:=j64 hc hi
  rw[hg] at hi
  obtain⟨n1,n2,n3⟩:=jr8 hi
  refine⟨h.next,[(0,h.next)],(Hp.mk h.next h.tr h.next [(0,h.next)]).push (.arr cs ty),f0h _,?_,?_,?_,rfl,fun n hn hh=>?_,fun n hn hw=>?_,fun n h3 _ _=>?_,fun n h3=>?_⟩
  .rw [hg]
   have n1':0<=h.next:=n1
   show oif (Nat.ble 0 h.next) (oif (jaq [(0,h.next)] h.next) none _) none=_
   have e1:jaq [(0,h.next)] h.next=false:=by
    cases e:jaq [(0,h.next)] h.next with
    | false=>rfl
    | true=>rw[jb0] at e;rw[jdz] at e;simp at e
   rw[e1,show Nat.ble 0 h.next=true from (jr7 _ _).symm▸n1']
   have:g h.next=v:=by
    have:=n3
    simp only[ok,Option.some.injEq,Prod.mk.injEq] at this
    exact this.1
   rw[←this]
   rfl
  .have:(Hp.mk h.next h.tr h.next hid').push (.arr cs ty)=h1:=by
    simp only[ok,Option.some.injEq,Prod.mk.injEq] at n3
    exact n3.2
   rw[←this];rfl
  .have:(Hp.mk h.next h.tr h.next hid').push (.arr cs ty)=h1:=by
    simp only[ok,Option.some.injEq,Prod.mk.injEq] at n3
    exact n3.2
   rw[←this];rfl
  .have hlt:=wf.lt hn
   have:jaq [(0,h.next)] n=true:=by rw[jb0];exact .inl ⟨se,hlt⟩
   rw[this] at hh;cases hh
  .rw [hc] at hw;exact hw.elim
  .cases e:jaq [(0,h.next)] n with
   | false=>rfl
   | true=>rw[jb0] at e;rw[jdz] at e;simp at e;omega
  .rw [hc] at h3;cases h3
 | load x _ hc hi =>
  obtain⟨n',agg,y,off,rfl,hy⟩:=j0h hc
  obtain⟨rfl,hx,hall⟩:=j0i hy hi
  obtain⟨g1,g2⟩:=Hp.get_isSome hx
  have hxl:x<h.next:=wf.lt g2
  have hin:∀ n,n<h.next->(jaq [(0,x),(x+1,h.next)] n=false↔n=x):=by
   intro n hn
   cases e:jaq [(0,x),(x+1,h.next)] n with
   | false =>
    refine⟨fun _=>?_,fun _=>rfl⟩
    have hne:¬ ((0<=n/\n<x)∨((x+1<=n/\n<h.next)∨False)):=fun hh=>by
     have:jaq [(0,x),(x+1,h.next)] n=true:=by rw[jb0,jb0,jdz];simpa using hh
     rw[this] at e;cases e
    omega
   | true =>
    refine⟨(fun h=>by cases h),fun h=>?_⟩
    rw[jb0,jb0,jdz] at e
    simp at e
    omega
  refine⟨h.next,[(0,x),(x+1,h.next)],_,f0h _,hall (.mk h.next h.tr h.next [(0,x),(x+1,h.next)]) ?_,rfl,rfl,rfl,fun n hn hh=>?_,fun n hn hw=>?_,fun n h3 h4=>by
   have h4':n<h.next:=h4
   omega,fun n h3=>?_⟩
  .have e1:jaq (Hp.mk h.next h.tr h.next [(0,x),(x+1,h.next)]).hid x=false:=(hin x hxl).2 rfl
   rw[Hp.get_eq,Hp.get_eq,e1,g1]
   rfl
  .have hlt:=wf.lt hn
   have:n=x:=(hin n hlt).1 hh
   subst this
   exact⟨g1,.inr rfl⟩
  .rw [hc] at hw;exact hw.elim
  .rw [hc] at h3;cases h3
 | quiet _ hc hi =>
  obtain⟨rfl,hall⟩:=jvg hc hi
  have hin:∀ n,n<h.next->jaq [(0,h.next)] n=true:=fun n hn=>by rw[jb0];exact .inl ⟨se,hn⟩
  refine⟨h.next,[(0,h.next)],.mk h.next h.tr h.next [(0,h.next)],f0h _,hall _,rfl,rfl,rfl,fun n hn hh=>?_,fun n hn hw=>?_,fun n h3 h4=>by
   have h4':n<h.next:=h4
   omega,fun n h3=>?_⟩
  .rw [hin n (wf.lt hn)] at hh;cases hh
  .rw [hc] at hw;exact hw.elim
  .rw [hc] at h3;cases h3
 | other _ hc hi =>
  have a:h1.hid=hid':=(jen (h:=.mk h.next h.tr h.next hid') ⟨wf.pos,wf.top,f0h _,wf.fresh⟩ hcl hi).2.hid
  refine⟨h.next,hid',h1,f0h _,hi,rfl,rfl,a,fun n hn hh=>⟨hh,.inl rfl⟩,fun n hn hw=>?_,fun n _ _ h3=>h3,fun n h3=>?_⟩
  .rw [hc] at hw
   exact absurd (show h.next<=n from hw) oa
  .rw [hc] at h3;cases h3
 | app b _ hc hu hlo hg hi =>
  have a:h1.hid=hid':=(jen (h:=.mk h.next h.tr h.lo hid') ⟨wf.pos,wf.top,wf.lo,wf.fresh⟩ hcl hi).2.hid
  refine⟨h.lo,hid',h1,wf.lo,hi,rfl,rfl,a,fun n hn hh=>⟨hh,.inl rfl⟩,fun n hn hw=>?_,fun n _ _ h3=>h3,fun n h3=>?_⟩
  .rw [hc] at hw ⊢
   rw[show n=b from hw]
  .rw [hc] at h3
   cases h3
   exact(Hp.get_isSome hg).1
theorem j66 (hT:Tys P T) (hclk:qhi P A cl) (c:DCtx T π nt ops cl V H E F) (hL:jrb ops L) {i:Nat} (hi:i<ops.size) (hni:¬ L i)
 (hd:∀ e∈(jcw ops i).after.toList,Region.binds .any e=true->L e.on) (k:HInv A ops H E φ0 w0 L φ w) {op:IOp} {js:List Nat} {hid':List (Nat×Nat)} {h1:Hp} (hop:cOp T π (jan (dD ops) i) (jcw ops i).op=some op) (hact:jr6 (.mk none op none)=true)
 (hm:md T π nt ops i=some js) (hs:sel (jan E i) js (H i).hid=some hid') (hr:HeadR cl (jan V i) (F i) (jan E i) (H i) op js hid' (V i) h1 (E i)) (he:H (i+1)=.mk h1.next h1.tr (H i).lo (H i).hid) {a:Act}
 (hE:jmo A (cut φ (H i).next) π (jan (dD ops) i) (jan V i) (F i) (jcw ops i).op.operands.toList a.eval) {K:Act->World->Prop} {Q:Exit->Act->World->Prop}
 (hK:∀ φ' rv w',HInv A ops H E φ0 w0 (fun j=>L j∨j=i) φ' w'->φ.le φ'->cV A (cut φ' (H (i+1)).next) (V i) rv->K (a.put (jcw ops i).dst rv) w'):(jcw ops i).wp P a w K Q:=by
 obtain⟨wf,hlo,hhid⟩:=c.wfs i oa
 obtain⟨hai,hnt⟩:=jln hm
 have en:(H (i+1)).next=h1.next:=by rw[he];rfl
 have et:(H (i+1)).tr=h1.tr:=by rw[he];rfl
 have eh:(H (i+1)).hid=(H 0).hid:=(c.wfs (i+1) oa).2.2
 have hsub:∀ n,jaq (H i).hid n=true->jaq hid' n=true:=fun n hn=>(jfx hs n).2 (.inl hn)
 obtain⟨a1,a2,a3,a4,a5,a6⟩:=jm2 hr wf c.cla hsub
 obtain⟨lo'',hid'',h2,b1,b2,b3,b4,b5,b6,b7,b8,b9⟩:=j65 hr wf c.cla hact
 have stp:=c.step hi
 have n0:(H 0).next<=(H i).next:=c.mono i oa oa
 have vis:∀ n x,(Hp.mk (H i).next (H i).tr lo'' hid'').get n=some x->jql ops H E L n/\NmR A (cut φ (H i).next) n x w:=by
  intro n x hx
  obtain⟨g1,g2⟩:=Hp.get_some hx
  have g2':(H i).tr.get n=some x:=g2
  have hlt:n<(H i).next:=wf.lt (by rw[g2'];rfl)
  obtain⟨g3,g4⟩:=b6 n (by rw[g2'];rfl) g1
  have g5:jaq (H 0).hid n=false:=by
   cases e:jaq (H 0).hid n with
   | false=>rfl
   | true=>have:=hsub n (by rw[hhid];exact e);rw[g3] at this;cases this
  refine k.vis c oa hnt g2' g5 (fun j hj hTj=>?_) (fun j hj hlj hij hTj=>?_)
  .have haj:=(jsg c oa hTj).1
   cases hb:tb (mM ops i) j with
   | true=>exact c.maskIn hL i j hi hd hb
   | false =>
    exfalso
    have:=(jfx hs n).2 (.inr ⟨_,(qhk hm hj).2 ⟨haj,hb⟩,_,jbk E hj,hTj⟩)
    rw[g3] at this;cases this
  .rcases f0n i j with hlt' | hge
   .rcases later c hL hj hlj hni hlt' hai hTj with h3 | ⟨_,ns,h4,h5⟩
    .have:=stp.nx;omega
    .rcases g4 with g4 | g4
     .rw [g4] at h4;cases h4
     .rw [g4] at h4;cases h4;exact h5 se
   .obtain rfl:j=i:=oa
    exact hni hlj
 have presv:∀ n,((Hp.mk (H i).next (H i).tr lo'' hid'').get n).isSome=true->jql ops H E L n:=fun n hn=>by
  obtain⟨x,hx⟩:=jde hn
  exact(vis n x hx).1
 have rel:Rel A (cut φ (H i).next) (.mk (H i).next (H i).tr lo'' hid'') w:=by
  refine⟨⟨wf.pos,wf.top,b1,wf.fresh⟩,fun n hn=>?_,fun n x hx=>(vis n x hx).2,fun n m l l' hn hm' hl hl' e=>k.inj n m l l' (presv n hn) (presv m hm') (jdg hl).2 (jdg hl').2 e,k.con,fun n l hn hl=>k.sep n l (presv n hn) (jdg hl).2⟩
  rw[jmk,if_neg (show ¬ n<(H i).next by have:(H i).next<=n:=hn;omega)]
 refine jj4 (cl:=cl) hT hclk hE rel hop b2 _ (.inl rfl) ?_
 intro φ' rv w' s r hcv
 have dom':∀ n,(H (i+1)).next<=n->φ' n=none:=fun n hn=>r.dom n (by rw[b4,←en];exact hn)
 have ext':∀ n,n<(H i).next->φ' n=φ n:=fun n hn=>by rw[s.ext n hn,qhl hn]
 have newnone:∀ n,(H i).next<=n->n<(H (i+1)).next->φ n=none:=by
  intro n h3 h4
  cases e:φ n with
  | none=>rfl
  | some l =>
   exfalso
   rcases k.dom n l e with h5 | ⟨j,h5,h6,h7,h8⟩
   .omega
   .rcases f0n j i with h9 | h9
    .have:=c.mono (i:=j+1) i oa oa;omega
    .rcases f0n i j with h10 | h10
     .have:=c.mono (i:=i+1) j oa oa;omega
     .obtain rfl:j=i:=oa
      exact hni h6
 let ψ:Phi:=⟨fun n=>if (H i).next<=n/\n<(H (i+1)).next then φ' n else φ n,φ'.k,φ'.g⟩
 have ψnew:∀ n,(H i).next<=n->n<(H (i+1)).next->ψ n=φ' n:=fun n h3 h4=>if_pos ⟨h3,h4⟩
 have ψold:∀ n,¬ ((H i).next<=n/\n<(H (i+1)).next)->ψ n=φ n:=fun n h3=>if_neg h3
 have φψ:φ.le ψ:=by
  refine⟨fun n l h3=>?_,s.kle⟩
  by_cases h4:(H i).next<=n/\n<(H (i+1)).next
  .rw [newnone n h4.1 h4.2] at h3;cases h3
  .rw [ψold n h4];exact h3
 have φ'ψ:φ'=cut ψ (H (i+1)).next:=by
  refine Phi.ext (fun n=>?_) rfl
  rw[jmk]
  by_cases h3:n<(H (i+1)).next
  .rw [if_pos h3]
   rcases f0n n (H i).next with h4 | h4
   .rw [ext' n h4,ψold n oa]
   .rw [ψnew n h4 h3]
  .rw [if_neg h3];exact dom' n oa
 have wapp:∀ m M,jx9 (.mk (H i).next (H i).tr lo'' hid'') (jca (jan V i) (F i) op) m->((Hp.mk (H i).next (H i).tr lo'' hid'').get m).isSome=true->cut φ (H i).next m=some M->jql ops H E L m/\Tch E i m/\φ m=some M/\m<(H i).next/\(H i).lo<=m:=by
  intro m M h3 h4 h5
  obtain⟨h6,h7⟩:=jdg h5
  have hcls:=b7 m h6 h3
  have htch:Tch E i m:=by
   have h8:qqz (E i)=none/\jaq (j4g (E i)) m=true:=by
    clear hK b2 s
    generalize E i=e at hr
    cases hr with
    | fresh _ hc _=>rw[hc] at hcls;cases hcls
    | load x _ hc _=>rw[hc] at hcls;cases hcls
    | quiet _ hc _=>rw[hc] at hcls;cases hcls
    | other _ hc _=>rw[hc] at hcls;cases hcls
    | app b _ hc _ _ _ _ =>
     rw[hc] at hcls;cases hcls
     refine⟨rfl,?_⟩
     show jaq [(m,m+1),((H i).next,h1.next)] m=true
     rw[jb0];exact .inl ⟨se,se⟩
   exact h8.2
  refine⟨presv m h4,htch,h7,h6,?_⟩
  rcases a4 m htch with⟨h8,_⟩ | ⟨h8,_⟩
  .omega
  .exact h8
 have keepw:∀ n l,jql ops H E L n->¬ Tch E i n->φ n=some l->l.b<w.heap.size->w'.heap[l.b]?=w.heap[l.b]?:=by
  intro n l h3 h4 h5 h6
  refine s.old l.b h6 (fun m M h7 h8 h9 e=>?_)
  obtain⟨p1,p2,p3,_,_⟩:=wapp m M h7 h8 h9
  exact h4 (by have:=k.inj m n M l p1 h3 p3 h5 e;subst this;exact p2)
 have h2get:∀ n x,Tch E i n->(H (i+1)).get n=some x->h2.get n=some x:=by
  intro n x h3 h4
  obtain⟨g1,g2⟩:=Hp.get_some h4
  rw[et] at g2
  rw[Hp.get_eq,b5,b3,if_neg ?_]
  .exact g2
  .rcases a4 n h3 with⟨h5,h6⟩ | ⟨_,_,_,_,h6⟩
   .rw [b8 n h5 h6 (a6 n h5 h6).1];simp
   .rw [b9 n h6];simp
 have φ'at:∀ n,Tch E i n->ψ n=φ' n:=by
  intro n h3
  rcases a4 n h3 with⟨h5,h6⟩ | ⟨_,h5,_⟩
  .exact ψnew n h5 (by rw[en];exact h6)
  .rw [ψold n oa,ext' n h5]
 have untouched:∀ j n,j<ops.size->L j->Tch E j n->(∀ k',k'<ops.size->(L k'∨k'=i)->j<k'->¬ Tch E k' n)->¬ Tch E i n:=by
  intro j n h3 h4 h5 h6 h7
  rcases f0n j i with h8 | h8
  .exact h6 i hi (.inr rfl) h8 h7
  .have hij:i<j:=by
    rcases f0n i j with h | h
    .exact h
    .obtain rfl:j=i:=oa
     exact absurd h4 hni
   rcases later c hL h3 h4 hni hij hai h5 with h9 | ⟨h9,_⟩
   .rcases a4 n h7 with⟨_,h10⟩ | ⟨_,h10,_⟩
    .rw [en] at h9;omega
    .have:=stp.nx;omega
   .exact h9 h7
 have presOr:∀ n,jql ops H E (fun j=>L j∨j=i) n->(Tch E i n/\(h2.get n).isSome=true/\ψ n=φ' n)∨(¬ Tch E i n/\jql ops H E L n/\ψ n=φ n):=by
  have old:∀ n,¬ Tch E i n->ψ n=φ n:=fun n h3=>ψold n (fun h4=>h3 ((stp.seen n h4.1 h4.2).2 (fun h=>by rw[hm] at h;exact absurd h.2 se)))
  rintro n (⟨h3,h4⟩ | ⟨j,h3,h4,h5,h6,h7⟩)
  .have h8:=h3 i hi (.inr rfl)
   exact .inr ⟨h8,.inl ⟨fun j hj hl=>h3 j hj (.inl hl),h4⟩,old n h8⟩
  .rcases h4 with h4 | rfl
   .have h8:=untouched j n h3 h4 h5 h6
    exact .inr ⟨h8,.inr ⟨j,h3,h4,h5,fun j' hj' hl'=>h6 j' hj' (.inl hl'),h7⟩,old n h8⟩
   .obtain ⟨x,hx⟩:=jde h7
    exact .inl ⟨h5,by rw[h2get n x h5 hx];rfl,φ'at n h5⟩
 have qkg:∀ n n' l l',Tch E i n->(h2.get n).isSome=true->φ' n=some l->¬ Tch E i n'->jql ops H E L n'->φ n'=some l'->l.b≠l'.b:=by
  intro n n' l l' h3 h4 h5 h6 h7 h8 e
  obtain⟨l'',h9,h10⟩:=k.pres_loc h7
  rw[h8] at h9
  cases h9
  rcases a4 n h3 with⟨h11,h12⟩ | ⟨_,h11,_,h12,h13⟩
  .rcases s.new n l h11 h4 h5 with h14 | ⟨m,M,h14,h15,h16,h17⟩
   .omega
   .obtain ⟨p1,p2,p3,_,_⟩:=wapp m M h14 h15 h16
    exact h6 (by have:=k.inj m n' M l' p1 h7 p3 h8 oa;subst this;exact p2)
  .have hv:((Hp.mk (H i).next (H i).tr lo'' hid'').get n).isSome=true:=Hp.isSome_get (show jaq hid'' n=false from b9 n h13) h12
   rw[ext' n h11] at h5
   exact h6 (by have:=k.inj n n' l l' (presv n hv) h7 h5 h8 e;subst this;exact h3)
 refine hK ψ rv w' ⟨fun n hn=>?_,fun n l hl=>?_,fun n x h3 h4=>?_,fun j n x h3 h4 h5 h6 h7=>?_,fun n n' l l' h3 h4 h5 h6 h7=>?_,s.os.trans k.os,s.tape.trans k.tape,s.output.trans k.output,f02 k.size s.size,fun b hb hv=>?_,r.con,fun n l h3 h5=>?_,fun b cs e=>s.kle b cs (k.kle b cs e),fun b cs e=>(s.knew b cs e).elim (k.knew b cs) (fun h=>.inr (f02 k.size h)),fun n l h3 h4 h5=>?_⟩ φψ (by rw[←φ'ψ];exact hcv)
 .rw [ψold n oa];exact k.agree n hn
 .by_cases h3:(H i).next<=n/\n<(H (i+1)).next
  .exact .inr ⟨i,hi,.inr rfl,h3⟩
  .rw [ψold n h3] at hl
   rcases k.dom n l hl with h4 | ⟨j,h4,h5,h6⟩
   .exact .inl h4
   .exact .inr ⟨j,h4,.inl h5,h6⟩
 .have h5:=k.unt n x (fun j hj hl=>h3 j hj (.inl hl)) h4
  have hp:jql ops H E L n:=.inl ⟨fun j hj hl=>h3 j hj (.inl hl),by rw[h4];rfl⟩
  refine(h5.mono (jia φψ (f0h _))).world (fun l hl=>?_)
  obtain⟨l',hl1,hl2⟩:=h5.some_loc
  have e1:=φψ.nm n l' (jdg hl1).2
  rw[(jdg hl).2] at e1
  cases e1
  exact keepw n l hp (h3 i hi (.inr rfl)) (jdg hl1).2 hl2
 .rcases h4 with h4 | rfl
  .have hnt':=untouched j n h3 h4 h5 h6
   have h8:=k.tch j n x h3 h4 h5 (fun k' hk' hl'=>h6 k' hk' (.inl hl')) h7
   have hp:jql ops H E L n:=.inr ⟨j,h3,h4,h5,fun k' hk' hl'=>h6 k' hk' (.inl hl'),by rw[h7];rfl⟩
   refine(h8.mono (jia φψ (f0h _))).world (fun l hl=>?_)
   obtain⟨l',hl1,hl2⟩:=h8.some_loc
   have e1:=φψ.nm n l' (jdg hl1).2
   rw[(jdg hl).2] at e1
   cases e1
   exact keepw n l hp hnt' (jdg hl1).2 hl2
  .rw [←φ'ψ]
   exact r.blk n x (h2get n x h5 h7)
 .rcases presOr n h3 with⟨p1,p2,p3⟩ | ⟨p1,p2,p3⟩<;>rcases presOr n' h4 with⟨q1,q2,q3⟩ | ⟨q1,q2,q3⟩<;>rw[p3] at h5<;>rw[q3] at h6
  .exact r.inj n n' l l' p2 q2 h5 h6 h7
  .exact absurd h7 (qkg n n' l l' p1 p2 h5 q1 q2 h6)
  .exact absurd h7.symm (qkg n' n l' l q1 q2 h6 p1 p2 h5)
  .exact k.inj n n' l l' p2 q2 h5 h6 h7
 .rw [←k.old b hb hv]
  refine s.old b (f0o hb k.size) (fun m M h3 h4 h5 e=>?_)
  obtain⟨p1,p2,p3,p4,p5⟩:=wapp m M h3 h4 h5
  rw[hlo] at p5
  rcases f0n m (H 0).next with h6 | h6
  .exact hv m M p5 (jvh c h6 p1) (by rw[←k.agree m h6];exact p3) e
  .rcases k.new m M h6 p1 p3 with h7 | ⟨m',M',h7,h8,h9,h10⟩
   .omega
   .exact hv m' M' h7 h8 h9 oa
 .show φ'.k l.b=none
  rcases presOr n h3 with⟨p1,p2,p3⟩ | ⟨p1,p2,p3⟩
  .rw [p3] at h5
   exact r.sep n l p2 h5
  .rw [p3] at h5
   obtain⟨l',hl1,hl2⟩:=k.pres_loc p2
   rw[h5] at hl1
   cases hl1
   cases e:φ'.k l.b with
   | none=>rfl
   | some cs =>
    rcases s.knew _ _ e with h6 | h6
    .have h7:=k.sep n l p2 h5
     rw[show(cut φ (H i).next).k=φ.k from rfl,h7] at h6
     cases h6
    .omega
 .rcases presOr n h4 with⟨p1,p2,p3⟩ | ⟨p1,p2,p3⟩
  .rw [p3] at h5
   have old:∀ m M,(H 0).lo<=m->jql ops H E L m->φ m=some M->M.b=l.b->w0.heap.size<=l.b∨∃ m M,(H 0).lo<=m/\((H 0).get m).isSome=true/\φ0 m=some M/\M.b=l.b:=by
    intro m M h6 h7 h8 h9
    rcases f0n m (H 0).next with h10 | h10
    .exact .inr ⟨m,M,h6,jvh c h10 h7,by rw[←k.agree m h10];exact h8,h9⟩
    .rw [←h9];exact k.new m M h10 h7 h8
   rcases a4 n p1 with⟨h6,h7⟩ | ⟨h6,h7,_,h8,h9⟩
   .rcases s.new n l h6 p2 h5 with h10 | ⟨m,M,h10,h11,h12,h13⟩
    .exact .inl (f02 k.size h10)
    .obtain ⟨q1,q2,q3,q4,q5⟩:=wapp m M h10 h11 h12
     exact old m M (by rw[←hlo];exact q5) q1 q3 h13
   .have hv:((Hp.mk (H i).next (H i).tr lo'' hid'').get n).isSome=true:=Hp.isSome_get (show jaq hid'' n=false from b9 n h9) h8
    rw[ext' n h7] at h5
    exact old n l (by rw[←hlo];exact h6) (presv n hv) h5 rfl
  .rw [p3] at h5
   exact k.new n l h3 p2 h5
end
section
variable {P:Program} {A:Nat->Int} {T:Tr TI} {π:List Nat} {nt:Nat} {ops:Array Oper} {cl:FuncId->List AV->Hp->R} {V:Nat->AV} {H:Nat->Hp} {E:Nat->Ent} {F:Nat->List AV}
 {φ φ0:Phi} {w w0:World} {L:Nat->Prop} {a a0:Act}
theorem jlq {loc:List (Option Nat)} {i:Nat} {o:Oper} {ip:IOper} (h:j30 T π nt loc i o=some ip) :
 jr5 nt o.dst=true/\∃ op g,ip=.mk (jmx π o.dst) op g/\cOp T π loc o.op=some op/\jn5 loc i o.guard=some g:=by
 unfold j30 at h
 grind
theorem DCtx.frame (c:DCtx T π nt ops cl V H E F) {t j:Nat} (hj:idx t π 0=some j):∀ i,i<=ops.size->(∀ k,k<i->dD ops k≠some t)->(F i)[j]?=(F 0)[j]?
 | 0,_,_=>rfl
 | i+1,hi,h=>by
  obtain⟨op,g,b,_,_,_,_,_,_,h6⟩:=c.kind (show i<ops.size by omega)
  have ih:=DCtx.frame c hj i oa (fun k hk=>h k oa)
  rw[h6,←ih]
  cases hd:dD ops i with
  | none=>rfl
  | some d =>
   have hne:d≠t:=fun e=>h i oa (by grind)
   cases hc:jmx π (some d) with
   | none=>rfl
   | some j' =>
    have hj':idx d π 0=some j':=hc
    show(j3w (F i) j' (V i))[j]?=_
    rw[ji2]
    have:j'≠j:=by
     rintro rfl
     have h1:=jd7 hj
     rw[jd7 hj'] at h1
     cases h1
     exact hne rfl
    grind
theorem jfy {loc:List (Option Nat)} {k m:Nat}:∀ {os:List Operand},jhi loc k m os=true->∀ t,Operand.tmp t∈os->∀ i,jmv t loc 0=some i->tb m (k - 1 - i)=true
 | [],_,t,ht,_,_=>by grind
 | o::os,h,t,ht,i,hi=>by
  cases o with
  | tmp u =>
   simp only[jhi,f05] at h
   rcases f0f.1 ht with e | ht
   .grind
   .exact jfy h.2 t ht i hi
  | _ =>
   simp only[jhi] at h
   rcases f0f.1 ht with e | ht
   .grind
   .exact jfy h t ht i hi
theorem jvi {x:Nat}:∀ {l:List Nat},x∈l->qup x l=true
 | [],h=>by grind
 | a::l,h=>by
  simp only[qup,f2b,jiu]
  rcases f0f.1 h with rfl | h
  .omega
  simp_all[jvi]
theorem jib {t:Nat}:∀ {os:List Operand},Operand.tmp t∈os->t∈jn6 os
 | [],h=>by grind
 | o::os,h=>by
  cases o with
  | tmp u =>
   simp only[jn6]
   rcases f0f.1 h with e | h
   .grind
   simp_all[jib]
  | _ =>
   simp only[jn6]
   simp_all[jib]
theorem qdo (l:List (List Nat)):qdf l=l.length:=by
 induction l with
 | nil=>rfl
 | cons a l ih=>simp[qdf,ih]
theorem jov {d m:Nat} {f:Nat->List Nat}:∀ {i:Nat},quq d m (jan f i)=true->∀ j,j<i->d∈f j->tb m j=true
 | 0,_,j,hj,_=>oa
 | i+1,h,j,hj,hd=>by
  simp only[jan,quq,f05,qdo,joq] at h
  rcases f2q.1 hj with h1 | h1
  .exact jov h.2 j h1 hd
  grind[jvi]
theorem DCtx.distinct (c:DCtx T π nt ops cl V H E F) {i j:Nat} (hi:i<ops.size) (hj:j<i) {d:Nat} (hd:dD ops i=some d):dD ops j≠some d:=by
 have h1:=(c.opf i hi).fresh
 simp only[ju2] at h1
 have h2:=jbk (dD ops) hj
 have:∀ (l:List (Option Nat)) (k:Nat),l[k]?=some (some d)->∃ q,jmv d l 0=some q:=by
  intro l
  induction l with
  | nil=>simp
  | cons x l ih =>
   grind[jj2]
 grind
structure RInv (A:Nat->Int) (T:Tr TI) (π:List Nat) (nt:Nat) (ops:Array Oper) (V:Nat->AV) (H:Nat->Hp) (E:Nat->Ent) (φ0:Phi) (a0:Act) (w0:World) (L:Nat->Prop) (a:Act) (w:World):Prop where
 lt:∀ k,L k->k<ops.size
 closed:jrb ops L
 defers:a.defers=a0.defers
 size:a.tmps.size=a0.tmps.size
 slots:∀ t,(∀ j,j<ops.size->L j->dD ops j≠some t)->a.tmps.getD t undef=a0.tmps.getD t undef
 heap:∃ φ,(∀ n,n<(H 0).next->φ n=φ0 n)/\(∀ i d,L i->dD ops i=some d->cV A (cut φ (H (i+1)).next) (V i) (a.tmps.getD d undef)) /\
  (((∀ k,L k->¬ (aO T π nt ops k=true/\md T π nt ops k=none))/\HInv A ops H E φ0 w0 L φ w) ∨
   ∃ t,L t/\(aO T π nt ops t=true/\md T π nt ops t=none)/\(∀ k,L k->(aO T π nt ops k=true/\md T π nt ops k=none)->k<=t)/\Step (fun n=>(H 0).lo<=n) φ0 φ (H 0) (H (t+1)) w0 w/\Rel A φ (H (t+1)) w)
theorem j67 (c:DCtx T π nt ops cl V H E F) (k:RInv A T π nt ops V H E φ0 a0 w0 L a w) (k0:Rel A φ0 (H 0) w0) (hf:FrR A φ0 π (F 0) a0) {i:Nat} (hi:i<ops.size) (hni:¬ L i)
 (hd:∀ e∈(jcw ops i).after.toList,Region.binds .any e=true->L e.on) {φ:Phi} (hag:∀ n,n<(H 0).next->φ n=φ0 n) (hkk:∀ b cs,φ0.k b=some cs->φ.k b=some cs) (hval:∀ i d,L i->dD ops i=some d->cV A (cut φ (H (i+1)).next) (V i) (a.tmps.getD d undef)) :
 jmo A (cut φ (H i).next) π (jan (dD ops) i) (jan V i) (F i) (jcw ops i).op.operands.toList a.eval:=by
 intro x hx y v hy hv
 have φ0le:φ0.le (cut φ (H i).next):=by
  refine⟨fun n l e=>?_,hkk⟩
  have hn:n<(H 0).next:=by
   rcases f0n n (H 0).next with h | h
   .omega
   .rw [k0.dom n h] at e;cases e
  rw[qhl (f0o hn (c.mono i oa oa)),hag n hn]
  omega
 cases x with
 | tmp t =>
  simp only[cO] at hy
  split at hy
  .rename_i q hq
   cases hy
   have hv':je6 (jan V i) q=some v:=hv
   rw[jc3] at hv'
   obtain⟨h1,h2⟩:=jh9 hv'
   obtain⟨h3,h4⟩:=jh9 (jh7 hq)
   have hL:=c.maskIn k.closed i (i - 1 - q) hi hd (jfy (c.opf i hi).reads t hx q hq)
   have:=hval (i - 1 - q) t hL h4
   rw[h2] at this
   exact this.mono (jia (Phi.le_refl _) (c.mono i oa oa))
  .rename_i hnone
   split at hy
   .rename_i j hj
    cases hy
    have hv':je6 (F i) j=some v:=hv
    rw[jc3] at hv'
    have hearly:∀ q,q<i->dD ops q≠some t:=by
     intro q hq e
     have h2:=jbk (dD ops) hq
     rw[e] at h2
     have:∀ (l:List (Option Nat)) (k:Nat),l[k]?=some (some t)->jmv t l 0≠none:=by
      intro l
      induction l with
      | nil=>intro k h;simp at h
      | cons x l ih =>
       intro k h
       rw[jj2]
       by_cases e:x=some t
       .rw [if_pos e];simp
       .rw [if_neg e]
        cases k with
        | zero=>simp at h;exact absurd h e
        | succ k =>
         have:=ih k (by simpa using h)
         simpa using this
     exact this _ _ h2 hnone
    rw[c.frame hj i oa hearly] at hv'
    have h0:=hf t j v hj hv'
    have hsl:a.tmps.getD t undef=a0.tmps.getD t undef:=k.slots t (fun q hq hl e=>by
     rcases f0n q i with h | h
     .exact hearly q h e
     .have hqi:i<q:=by
       rcases f0n i q with h' | h'
       .exact h'
       .obtain rfl:q=i:=oa
        exact absurd hl hni
      have hw:=(c.opf q hq).wr
      rw[e] at hw
      have hmem:t∈rD ops i:=jib hx
      exact hni (c.maskIn k.closed q i hq (k.closed q hq hl) (jov hw i hqi hmem)))
    show cV A _ v (a.tmps.getD t undef)
    rw[hsl]
    exact h0.mono φ0le
   .cases hy
 | const u =>
  obtain⟨z,hz,rfl⟩:=f0a.1 (show(jq2 u).map .c=some y from hy)
  cases hv
  exact jho hz
 | func f =>
  cases hy
  cases hv
  exact⟨[],rfl,.nil⟩
 | global g =>
  simp only[cO] at hy
  cases hg:qko g with
  | none=>rw[hg] at hy;cases hy
  | some cs =>
   rw[hg] at hy
   cases hy
   cases hv
   exact jyf _ hg
theorem RInv.put (c:DCtx T π nt ops cl V H E F) (k:RInv A T π nt ops V H E φ0 a0 w0 L a w) {i:Nat} (hi:i<ops.size) (hni:¬ L i) (hd:∀ e∈(jcw ops i).after.toList,Region.binds .any e=true->L e.on)
 (hnt:nt<=a0.tmps.size) (hds:jr5 nt (dD ops i)=true) {φ φ':Phi} (hag:∀ n,n<(H 0).next->φ' n=φ0 n) (hle:φ.le φ') (hval:∀ i d,L i->dD ops i=some d->cV A (cut φ (H (i+1)).next) (V i) (a.tmps.getD d undef)) {rv:Value} {w':World}
 (hrv:cV A (cut φ' (H (i+1)).next) (V i) rv)
 (hh:((∀ k,(L k∨k=i)->¬ (aO T π nt ops k=true/\md T π nt ops k=none))/\HInv A ops H E φ0 w0 (fun j=>L j∨j=i) φ' w') ∨
  ∃ t,(L t∨t=i)/\(aO T π nt ops t=true/\md T π nt ops t=none)/\(∀ k,(L k∨k=i)->(aO T π nt ops k=true/\md T π nt ops k=none)->k<=t)/\Step (fun n=>(H 0).lo<=n) φ0 φ' (H 0) (H (t+1)) w0 w'/\Rel A φ' (H (t+1)) w') :
 RInv A T π nt ops V H E φ0 a0 w0 (fun j=>L j∨j=i) (a.put (jcw ops i).dst rv) w':=by
 have hdst:∀ d,dD ops i=some d->d<a.tmps.size:=fun d h=>by
  rw[h] at hds
  have:Nat.ble (d+1) nt=true:=hds
  exact f0o (f0l this) (by rw[k.size];omega)
 have get:∀ t,(a.put (jcw ops i).dst rv).tmps.getD t undef=if dD ops i=some t then rv else a.tmps.getD t undef:=by
  intro t
  show(a.put (dD ops i) rv).tmps.getD t undef=_
  cases hdd:dD ops i with
  | none=>rfl
  | some d =>
   rw[jm0 (hdst d hdd)]
   grind
 refine⟨fun j hj=>?_,fun j hj hl e he hb=>?_,(jlk _ _).trans k.defers,(jj3 _ _).trans k.size,fun t ht=>?_,φ',hag,fun j d hj hdj=>?_,hh⟩
 .rcases hj with hj | rfl
  .exact k.lt j hj
  .exact hi
 .rcases hl with hl | rfl
  .exact .inl (k.closed j hj hl e he hb)
  .exact .inl (hd e he hb)
 .rw [get t,if_neg (ht i hi (.inr rfl))]
  exact k.slots t (fun j hj hl=>ht j hj (.inl hl))
 .rw [get d]
  rcases hj with hj | rfl
  .have hne:dD ops i≠some d:=by
    intro h
    have hji:j≠i:=fun e=>by subst e;exact hni hj
    rcases Nat.lt_or_gt_of_ne hji with h1 | h1
    .exact c.distinct hi h1 h hdj
    .exact c.distinct (k.lt j hj) h1 hdj h
   rw[if_neg hne]
   exact(hval j d hj hdj).mono (jia hle (f0h _))
  .rw [if_pos hdj]
   exact hrv
theorem RInv.step (hT:Tys P T) (hclk:qhi P A cl) (c:DCtx T π nt ops cl V H E F) (k0:Rel A φ0 (H 0) w0) (hf:FrR A φ0 π (F 0) a0) (hnt:nt<=a0.tmps.size) (k:RInv A T π nt ops V H E φ0 a0 w0 L a w) {i:Nat} (hi:i<ops.size) (hni:¬ L i)
 (hd:∀ e∈(jcw ops i).after.toList,Region.binds .any e=true->L e.on) {Q:Exit->Act->World->Prop} :
 if Region.wanted (jcw ops i) (yielded ops a.tmps)=true then (jcw ops i).wp P a w (fun a' w'=>RInv A T π nt ops V H E φ0 a0 w0 (fun j=>L j∨j=i) a' w') Q
 else RInv A T π nt ops V H E φ0 a0 w0 (fun j=>L j∨j=i) (a.put (jcw ops i).dst undef) w:=by
 obtain⟨φ,hag,hval,hheap⟩:=k.heap
 obtain⟨op,g,b,hpO,hop,hgd,hds,hgo,hk,hF⟩:=c.kind hi
 have hkk:∀ b cs,φ0.k b=some cs->φ.k b=some cs:=by
  rcases hheap with⟨_,hv⟩ | ⟨_,_,_,_,sv,_⟩
  .exact hv.kle
  .exact sv.kle
 have hE:=j67 c k k0 hf hi hni hd hag hkk hval
 have hopAt:ops[i]?=some (jcw ops i):=by simp[jcw,f0z,hi]
 have hwant:Region.wanted (jcw ops i) (yielded ops a.tmps)=b:=by
  refine ji4 (φ:=φ) (A:=A) (loc:=jan (dD ops) i) (st:=jan V i) (k:=i) (fun j hj=>?_) (fun j d hj hjd=>?_) (fun j want d v hgj hjd hjv=>?_) hgd hgo
  .rw [jbk (dD ops) hj]
   have:ops[j]?=some (jcw ops j):=by simp[jcw,f0z,show j<ops.size by omega]
   rw[this];rfl
  .rw [jbk (dD ops) hj] at hjd
   obtain⟨_,_,_,_,_,_,hds',_,_,_⟩:=c.kind (show j<ops.size by omega)
   have:dD ops j=some d:=Option.some.inj hjd
   rw[this] at hds'
   have h2:Nat.ble (d+1) nt=true:=hds'
   exact f0o (f0l h2) (by rw[k.size];exact hnt)
  .have hg:=(c.opf i hi).grd
   rw[hgj] at hg
   have hji:=c.maskLt i j hi hg
   have hLj:=c.maskIn k.closed i j hi hd hg
   rw[jbk V hji] at hjv
   cases hjv
   have h3:=jh7 hjd
   rw[jbk (dD ops) hji] at h3
   exact(hval j d hLj (Option.some.inj h3)).mono j0k
 have quiet:∀ rv,cV A (cut φ (H (i+1)).next) (V i) rv->H (i+1)=H i->E i=.mk [] (some [])->RInv A T π nt ops V H E φ0 a0 w0 (fun j=>L j∨j=i) (a.put (jcw ops i).dst rv) w:=by
  intro rv hrv e1 e2
  refine k.put c hi hni hd hnt hds hag (Phi.le_refl _) hval hrv ?_
  have hno:∀ n,¬ Tch E i n:=fun n h=>by
   have h':jaq (j4g (E i)) n=true:=h
   rw[e2] at h';cases h'
  by_cases hTi:aO T π nt ops i=true/\md T π nt ops i=none
  ·
   obtain⟨t1,t2⟩:=jlp hi hTi.1 hTi.2
   have before:∀ j,j<i->aO T π nt ops j=true->L j:=fun j hj ha=>c.maskIn k.closed i j hi hd (t1 j hj ha)
   have notafter:∀ j,L j->aO T π nt ops j=true->j<i:=by
    intro j hj ha
    rcases f0n j i with h | h
    .exact h
    .have hij:i<j:=by
      rcases f0n i j with h' | h'
      .exact h'
      .obtain rfl:j=i:=oa
       exact absurd hj hni
     exact absurd (c.maskIn k.closed j i (k.lt j hj) (k.closed j (k.lt j hj) hj) ((t2 j oa (k.lt j hj) ha).2 i hij hTi.1)) hni
   refine .inr ⟨i,.inr rfl,hTi,fun q hq hT'=>?_,?_⟩
   .rcases hq with hq | rfl
    .have:=notafter q hq hT'.1;omega
    .exact f0h _
   .rw [e1]
    rcases hheap with⟨hn,hv⟩ | ⟨t,ht1,ht2,ht3,ht4,ht5⟩
    .obtain ⟨r,s⟩:=hv.full c oa (fun j hj h=>hn j (before j hj h.1) h) before (fun j hj hl ha=>notafter j hl ha)
     exact⟨s,r⟩
    .have hti:=notafter t ht1 ht2.1
     have same:∀ j,t+1<=j->j<=i->H j=H (t+1):=by
      intro j
      induction j with
      | zero=>intro h _;omega
      | succ j ih =>
       intro h1 h2
       rcases f0n t j with h3 | h3
       .rw [←ih oa oa]
        have hna:aO T π nt ops j=false:=by
         cases ha:aO T π nt ops j with
         | false=>rfl
         | true =>
          have:=(jlp (k.lt t ht1) ht2.1 ht2.2).2 j oa oa ha
          have:=ht3 j (before j oa ha) ⟨ha,this.1⟩
          omega
        obtain⟨op',g',b',hpO',_,_,_,_,hk',_⟩:=c.kind (show j<ops.size by omega)
        cases hk' with
        | skip _ e _=>exact e
        | pure _ _ _ e _ _=>exact e
        | head js _ _ hm _ _ _=>rw[(jln hm).1] at hna;cases hna
        | tail _ ha _ _=>rw[ha] at hna;cases hna
       .obtain rfl:t=j:=oa
        rfl
     rw[same i oa (f0h _)]
     exact⟨ht4,ht5⟩
  .rcases hheap with⟨hn,hv⟩ | ⟨t,ht1,ht2,ht3,ht4,ht5⟩
   .refine .inl ⟨fun q hq=>?_,hv.quiet hno⟩
    rcases hq with hq | rfl
    .exact hn q hq
    .exact hTi
   .refine .inr ⟨t,.inl ht1,ht2,fun q hq hT'=>?_,ht4,ht5⟩
    rcases hq with hq | rfl
    .exact ht3 q hq hT'
    .exact absurd hT' hTi
 rw[hwant]
 have hdd:(jcw ops i).dst=dD ops i:=rfl
 cases hk with
 | skip e1 e2 e3 =>
  simp only[f1c,if_false]
  exact quiet undef (by rw[e1];rfl) e2 e3
 | pure po e1 e2 e3 e4 e5 =>
  simp only[if_true]
  subst e1
  obtain⟨rv,hr,hcv⟩:=jom (w:=w) hT hE hop e2
  exact jh8 hr rfl (quiet rv (by rw[e3];exact hcv) e3 e4)
 | head js hid' h1 hm hs hr he =>
  simp only[if_true]
  have hmh:=jln hm
  have hnt':∀ q,L q->¬ (aO T π nt ops q=true/\md T π nt ops q=none):=by
   intro q hq hTq
   rcases f0n q i with h | h
   .exact hmh.2 q h hTq
   .have hiq:i<q:=by
     rcases f0n i q with h' | h'
     .exact h'
     .obtain rfl:q=i:=oa
      exact absurd hq hni
    exact hni (c.maskIn k.closed q i (k.lt q hq) (k.closed q (k.lt q hq) hq) ((jlp (k.lt q hq) hTq.1 hTq.2).1 i hiq hmh.1))
  rcases hheap with⟨hn,hv⟩ | ⟨t,ht1,ht2,_⟩
  .have hact:jr6 (.mk none op none)=true:=by
    have h2:aO T π nt ops i=jr6 (.mk (jmx π (dD ops i)) op g):=by unfold aO;rw[hpO]
    rw[hmh.1] at h2
    exact h2.symm
   refine j66 hT hclk c k.closed hi hni hd hv hop hact hm hs hr he hE (fun φ' rv w' hv' hle hcv=>?_)
   refine k.put c hi hni hd hnt hds (fun n hn'=>?_) hle hval hcv (.inl ⟨fun q hq=>?_,hv'⟩)
   .exact hv'.agree n hn'
   .rcases hq with hq | rfl
    .exact hn q hq
    .intro h;rw[hm] at h;cases h.2
  .exact absurd ht2 (hnt' t ht1)
 | tail hm ha hiop he =>
  simp only[if_true]
  obtain⟨t1,t2⟩:=jlp hi ha hm
  have before:∀ j,j<i->aO T π nt ops j=true->L j:=fun j hj ha=>c.maskIn k.closed i j hi hd (t1 j hj ha)
  have notafter:∀ j,L j->aO T π nt ops j=true->j<i:=by
   intro j hj ha'
   rcases f0n j i with h | h
   .exact h
   .have hij:i<j:=by
     rcases f0n i j with h' | h'
     .exact h'
     .obtain rfl:j=i:=oa
      exact absurd hj hni
    exact absurd (c.maskIn k.closed j i (k.lt j hj) (k.closed j (k.lt j hj) hj) ((t2 j oa (k.lt j hj) ha').2 i hij ha)) hni
  have hmain:Rel A φ (H i) w/\Step (fun n=>(H 0).lo<=n) φ0 φ (H 0) (H i) w0 w:=by
   rcases hheap with⟨hn,hv⟩ | ⟨t,ht1,ht2,ht3,ht4,ht5⟩
   .exact hv.full c oa (fun j hj h=>hn j (before j hj h.1) h) before (fun j hj hl ha=>notafter j hl ha)
   .have hti:=notafter t ht1 ht2.1
    have same:∀ j,t+1<=j->j<=i->H j=H (t+1):=by
     intro j
     induction j with
     | zero=>intro h _;omega
     | succ j ih =>
      intro h1 h2
      rcases f0n t j with h3 | h3
      .rw [←ih oa oa]
       have hna:aO T π nt ops j=false:=by
        cases ha':aO T π nt ops j with
        | false=>rfl
        | true =>
         have:=(jlp (k.lt t ht1) ht2.1 ht2.2).2 j oa oa ha'
         have:=ht3 j (before j oa ha') ⟨ha',this.1⟩
         omega
       obtain⟨op',g',b',hpO',_,_,_,_,hk',_⟩:=c.kind (show j<ops.size by omega)
       cases hk' with
       | skip _ e _=>exact e
       | pure _ _ _ e _ _=>exact e
       | head js _ _ hm _ _ _=>rw[(jln hm).1] at hna;cases hna
       | tail _ ha _ _=>rw[ha] at hna;cases hna
      .obtain rfl:t=j:=oa
       rfl
    rw[same i oa (f0h _)]
    exact⟨ht5,ht4⟩
  obtain⟨r,s⟩:=hmain
  have hE':jmo A φ π (jan (dD ops) i) (jan V i) (F i) (jcw ops i).op.operands.toList a.eval:=fun x hx y v hy hv=>(hE x hx y v hy hv).mono j0k
  refine jj4 (cl:=cl) hT hclk hE' r hop hiop _ (.inr rfl) (fun φ' rv w' s' r' hcv=>?_)
  have hlo:=(c.wfs i oa).2.1
  have s'':Step (fun n=>(H 0).lo<=n) φ φ' (H i) (H (i+1)) w w':=by rw[hlo] at s';exact s'
  have st:=s.trans s''
  refine k.put c hi hni hd hnt hds (fun n hn'=>st.ext n hn') (s'.le r) hval ?_ (.inr ⟨i,.inr rfl,⟨ha,hm⟩,fun q hq hT'=>?_,st,r'⟩)
  .have:cut φ' (H (i+1)).next=φ':=by
    refine Phi.ext (fun n=>?_) rfl
    rw[jmk]
    split
    .rfl
    .rename_i h;exact(r'.dom n oa).symm
   rw[this];exact hcv
  .rcases hq with hq | rfl
   .have:=notafter q hq hT'.1;omega
   .exact f0h _
theorem j4h (hmix:P.follows .mixedOrders=true) (hT:Tys P T) (hclk:qhi P A cl) (hcla:jj5 cl) {l:List (IOper×Option (List Nat))} (hc:j6j T π nt ops.toList=some l) {fr:List AV} {h:Hp} {s:St} (hr:jx4 cl l [] [] fr h=some s)
 (k:Rel A φ0 h w) (hf:FrR A φ0 π fr a) (hnt:nt<=a.tmps.size) {id:Nat} {Q:Exit->Act->World->Prop}
 (hQ:∀ φ' fr' h' a' w',s=.mk fr' h'->Step (fun n=>h.lo<=n) φ0 φ' h h' w w'->Rel A φ' h' w'->FrR A φ' π fr' a'->a'.defers=a.defers->a'.tmps.size=a.tmps.size->Q .normal a' w') :
 (Code.region id ops true).wp P Q a w:=by
 obtain⟨hlen,hspec⟩:=j4f T π nt ops hc
 obtain⟨V,H,E,F,_,p2,p3,p4⟩:=jq9 l 0 (fun _=>.undef) (fun _=>h) (fun _=>.mk [] none) (fun _=>fr) s hr
 have hH0:H 0=h:=(p2 0 (f0h _)).1
 have hF0:F 0=fr:=(p2 0 (f0h _)).2
 have c:DCtx T π nt ops cl V H E F:=by
  refine⟨fun i hi=>(hspec i hi).1,fun i hi=>?_,by rw[hH0];exact k.wf,hcla⟩
  obtain⟨ho,hl⟩:=hspec i hi
  obtain⟨hds,op,g,e1,e2,e3⟩:=jlq ho.oper
  have hl':l[i]?=some (.mk (jmx π (dD ops i)) op g,md T π nt ops i):=by rw[hl,e1];rfl
  have:=p3 i _ op g _ hl'
  rw[f1b] at this
  exact⟨op,g,e1,e2,e3,hds,this.1,this.2⟩
 have k1:Rel A φ0 (H 0) { w with drawn:=w.drawn+1 }:=by rw[hH0];exact k.heap rfl
 have opAt_of:∀ (i:Nat) o,ops[i]?=some o->i<ops.size/\jcw ops i=o:=fun i o ho =>
  ⟨(f2h.1 ho).1,by simp[jcw,f0z,ho]⟩
 refine jiv hmix (fun L a' w'=>RInv A T π nt ops V H E φ0 a { w with drawn:=w.drawn+1 } L a' w') ?_ ?_ ?_ ?_
 .intro i o ho e he hb
  obtain⟨hi,rfl⟩:=opAt_of i o ho
  exact c.back hi (by simpa using he) hb
 .refine ⟨fun _ h=>h.elim,fun _ _ h=>h.elim,rfl,rfl,fun _ _=>rfl,φ0,fun _ _=>rfl,fun _ _ h=>h.elim,.inl ⟨fun _ h=>h.elim,?_⟩⟩
  refine⟨fun _ _=>rfl,fun n lc hl=>?_,fun n x _ hx=>?_,fun _ _ _ _ h=>h.elim,fun n n' lc lc' hn hn'=>?_,rfl,rfl,rfl,f0h _,fun _ _ _=>rfl,k1.con,fun n lc hn hl=>?_,fun _ _ e=>e,fun _ _ e=>.inl e,fun n lc hn hp hl=>?_⟩
  .rcases f0n n (H 0).next with h1 | h1
   .exact .inl h1
   .rw [k1.dom n h1] at hl;cases hl
  .have:=k1.blk n x hx
   have e:cut φ0 (H 0).next=φ0:=by
    refine Phi.ext (fun m=>?_) rfl
    rw[jmk]
    split
    .rfl
    .rename_i h;exact(k1.dom m oa).symm
   rw[e];exact this
  .rcases hn with⟨_,hn⟩ | ⟨_,_,h,_⟩
   .rcases hn' with⟨_,hn'⟩ | ⟨_,_,h,_⟩
    .exact k1.inj n n' lc lc' hn hn'
    .exact h.elim
   .exact h.elim
  .rcases hn with⟨_,hn⟩ | ⟨_,_,h,_⟩
   .exact k1.sep n lc hn hl
   .exact h.elim
  .rw [k1.dom n hn] at hl;cases hl
 .intro L a' w' i o hI hni ho hdeps
  obtain⟨hi,rfl⟩:=opAt_of i o ho
  exact hI.step hT hclk c k1 (by rw[hF0];exact hf) hnt hi hni (fun e he hb=>hdeps e (by simpa using he) hb)
 .intro L a' w' hI hall
  obtain⟨φ,hag,hval,hheap⟩:=hI.heap
  have hend:Rel A φ (H ops.size) w'/\Step (fun n=>(H 0).lo<=n) φ0 φ (H 0) (H ops.size) { w with drawn:=w.drawn+1 } w':=by
   rcases hheap with⟨hn,hv⟩ | ⟨t,ht1,ht2,ht3,ht4,ht5⟩
   .exact hv.full c (f0h _) (fun j hj h=>hn j (hall j hj) h) (fun j hj _=>hall j hj) (fun j hj _ _=>hj)
   .have same:∀ j,t+1<=j->j<=ops.size->H j=H (t+1):=by
     intro j
     induction j with
     | zero=>intro h _;omega
     | succ j ih =>
      intro h1 h2
      rcases f0n t j with h3 | h3
      .rw [←ih oa oa]
       have hna:aO T π nt ops j=false:=by
        cases ha':aO T π nt ops j with
        | false=>rfl
        | true =>
         have:=(jlp (hI.lt t ht1) ht2.1 ht2.2).2 j oa oa ha'
         have:=ht3 j (hall j oa) ⟨ha',this.1⟩
         omega
       obtain⟨op',g',b',hpO',_,_,_,_,hk',_⟩:=c.kind (show j<ops.size by omega)
       cases hk' with
       | skip _ e _=>exact e
       | pure _ _ _ e _ _=>exact e
       | head js _ _ hm _ _ _=>rw[(jln hm).1] at hna;cases hna
       | tail _ ha _ _=>rw[ha] at hna;cases hna
      .obtain rfl:t=j:=oa
       rfl
    rw[same ops.size (hI.lt t ht1) (f0h _)]
    exact⟨ht5,ht4⟩
  obtain⟨r,st⟩:=hend
  rw[hH0] at st
  have st0:Step (fun n=>h.lo<=n) φ0 φ0 h h w { w with drawn:=w.drawn+1 }:=Step.refl _ k rfl rfl rfl rfl
  refine hQ φ (F ops.size) (H ops.size) a' w' ?_ (st0.trans st) r ?_ hI.defers hI.size
  .rw [p4,hlen,f1b]
  .intro t j v hj hv
   by_cases hex:∃ i,i<ops.size/\dD ops i=some t
   .obtain ⟨i,hi,hdi⟩:=hex
    have later:∀ m,i+1<=m->m<=ops.size->(F m)[j]?=(F (i+1))[j]?:=by
     intro m
     induction m with
     | zero=>intro h _;omega
     | succ m ih =>
      intro h1 h2
      rcases f0n i m with h3 | h3
      .rw [←ih oa oa]
       obtain⟨_,_,_,_,_,_,_,_,_,h6⟩:=c.kind (show m<ops.size by omega)
       rw[h6]
       cases hd:dD ops m with
       | none=>rfl
       | some d =>
        have hne:d≠t:=fun e=>by subst e;exact c.distinct (show m<ops.size by omega) h3 hd hdi
        cases hcd:jmx π (some d) with
        | none=>rfl
        | some j' =>
         have hj':idx d π 0=some j':=hcd
         show(j3w (F m) j' (V m))[j]?=_
         rw[ji2]
         have:j'≠j:=by
          rintro rfl
          have h1:=jd7 hj
          rw[jd7 hj'] at h1
          cases h1
          exact hne rfl
         rw[f2f this]
      .obtain rfl:i=m:=oa
       rfl
    rw[later ops.size oa (f0h _)] at hv
    obtain⟨_,_,_,_,_,_,_,_,_,h6⟩:=c.kind hi
    rw[h6,hdi] at hv
    have hcd:jmx π (some t)=some j:=hj
    rw[hcd] at hv
    have hv':(j3w (F i) j (V i))[j]?=some v:=hv
    rw[ji2,List.getElem?_set] at hv'
    simp only[if_true] at hv'
    split at hv'
    .cases hv'
     exact(hval i t (hall i hi) hdi).mono j0k
    .cases hv'
   .have hno:∀ i,i<ops.size->dD ops i≠some t:=fun i hi e=>hex ⟨i,hi,e⟩
    rw[c.frame hj ops.size (f0h _) hno,hF0] at hv
    have:=hf t j v hj hv
    rw[hI.slots t (fun i hi _=>hno i hi)]
    have hkk:∀ b cs,φ0.k b=some cs->φ.k b=some cs:=by
     rcases hheap with⟨_,hv⟩ | ⟨_,_,_,_,sv,_⟩
     .exact hv.kle
     .exact sv.kle
    have hle:φ0.le φ:=by
     refine⟨fun n lc e=>?_,hkk⟩
     have hn:n<(H 0).next:=by
      rcases f0n n (H 0).next with h1 | h1
      .exact h1
      .rw [k1.dom n h1] at e;cases e
     rw[hag n hn];exact e
    exact this.mono hle
end
open Go Go.RowKit
variable {v:AV} {f:FuncId} {h h' h'':Hp} {fr vs:List AV} {n:Nat} {w w':World}
def j4i:Fns->FuncId->Option IF
 | .mk T _=>T
def jc1:Fns->FuncId->List AV->Hp->R
 | .mk _ X=>X
structure Env (P:Program) (A:Nat->Int) (T:Tr TI) (F:Fns):Prop where
 tys:Tys P T
 mix:P.follows .mixedOrders=true
 fn:∀ f i,j4i F f=some i->∃ fn cb acc,P.funcs[f]?=some fn/\qks T cb acc fn=some i/\(fn.name == "runtime.NumGoroutine")=false
 ext:∀ f vs h v h',jc1 F f vs h=some (v,h')->qky P f/\(WF h->Abs (fun n=>h.lo<=n) h h')/\∀ φ w (args:Array Value),Rel A φ h w->All2 (cV A φ) vs args.toList ->
  Calls P f args w (fun e w'=>∃ rv φ',e=.returned rv/\Step (fun n=>h.lo<=n) φ φ' h h' w w'/\Rel A φ' h' w'/\cV A φ' v rv)
section
variable {F:Fns} {cl:FuncId->List AV->Hp->R}
theorem Abs.trans' (a:Abs (fun n=>h.lo<=n) h h') (b:Abs (fun n=>h'.lo<=n) h' h''):Abs (fun n=>h.lo<=n) h h'':=by
 rw[a.lo] at b;exact a.trans b
theorem qdp {st:List AV} {es:List Ent} (k:WF h) (hcl:jj5 cl) {op:IOp} {g:Option (Nat×Bool)} {m:Option (List Nat)} {e:Ent} (hv:jxw cl st fr es h op g m=some (.mk v h' e)):Abs (fun n=>h.lo<=n) h h':=by
 obtain⟨b,hb,hv1⟩:=jaa.1 hv
 cases b with
 | false =>
  grind[Option.some.injEq,DR.mk.injEq,Abs.refl]
 | true =>
  cases m with
  | none =>
   obtain⟨p,hp,h8⟩:=jaa.1 (show ob (iop cl st fr h op) (fun p=>some (.mk p.1 p.2 (.mk [] (some []))))=some (DR.mk v h' e) from hv1)
   obtain⟨rfl,rfl,h9⟩:=h8
   exact(jen k hcl hp).2
  | some js =>
   obtain⟨hid',v',h1',e',h8,h9,h10⟩:=jou (show jma cl st fr es h op js=some (.mk v h' e) from hv1)
   simp only[DR.mk.injEq] at h10
   obtain⟨rfl,rfl,rfl⟩:=h10
   have hsub:∀ n,jaq h.hid n=true->jaq hid' n=true:=fun n hn=>(jfx h8 n).2 (.inl hn)
   obtain⟨a1,a2,a3,a4,a5,a6⟩:=jm2 h9 k hcl hsub
   refine⟨⟨a1.pos,a1.top,f02 k.lo a2,a1.fresh⟩,a2,rfl,rfl,fun n hn hv=>a3 n (fun ht=>?_),a5,fun n h5 h6=>(a6 n h5 h6).2.1⟩
   grind
theorem j0l (hcl:jj5 cl):∀ (l:List (IOper×Option (List Nat))) (st:List AV) (es:List Ent) (fr:List AV) (h:Hp) (s:St),WF h->jx4 cl l st es fr h=some s->∃ fr' h',s=.mk fr' h'/\Abs (fun n=>h.lo<=n) h h'
 | [],st,es,fr,h,s,k,hv=>⟨fr,h,Option.some.inj hv.symm,Abs.refl _ k⟩
 | (.mk dst op g,m)::l,st,es,fr,h,s,k,hv=>by
  obtain⟨d,hd,h1⟩:=jaa.1 (show ob (jxw cl st fr es h op g m) (fun p=>DR.casesOn  p fun v h' e=>jx4 cl l (v::st) (e::es) (jc0 fr dst v) h')=some s from hv)
  cases d with
  | mk v h' e =>
   have a:=qdp k hcl hd
   obtain⟨fr',h'',e',a'⟩:=j0l hcl l _ _ _ h' s a.wf h1
   exact⟨fr',h'',e',a.trans' a'⟩
theorem jgw {l:List IR} (hr:jcj (.mk fr h) l=some (v,h')) :
 h'=h/\∃ xs,jfu fr h l=some xs/\((xs=[]/\v=.tup [])∨(∃ p,xs=[p]/\jgs p.1 p.2=some v)∨(2<=xs.length/\v=.tup xs)):=by
 obtain⟨xs,hx,h1⟩:=jaa.1 (show ob (jfu fr h l) (fun vs=>List.casesOn  vs (ok (.tup []) h) fun p r=>List.casesOn  r (ob (jgs p.1 p.2) fun v=>ok v h) fun _ _=>ok (.tup vs) h)=some (v,h') from hr)
 match xs,hx,h1 with
 | [],hx,h1=>cases h1;grind
 | [p],hx,h1 =>
  obtain⟨u,hu,h2⟩:=jaa.1 (show ob (jgs p.1 p.2) (fun v=>ok v h)=some (v,h') from h1)
  cases h2
  grind
 | p::q::r,hx,h1=>cases h1;grind
theorem jrc {ih:RC} (hr:jbv F ih f vs h=some (v,h')) :
 jc1 F f vs h=some (v,h')∨∃ body nargs nslots res e s,j4i F f=some (.mk body nargs nslots res)/\vs.length=nargs/\ih body (.mk (vs++jdq nslots) h)=some (e,s)/\(e=.normal∨e=.ret)/\jcj s res=some (v,h'):=by
 cases F with
 | mk T X =>
 have h1:Option.rec (ob (T f) (fun fn=>IF.casesOn fn (fun body nargs nslots res=>oif (Nat.beq (jb6 vs) nargs) (ob (ih body (.mk (jf8 vs (jdq nslots)) h)) (fun p =>
  Ex.casesOn  p.1 (jcj p.2 res) (fun _=>none) (jcj p.2 res))) none))) (fun r=>some r) (X f vs h)=some (v,h'):=hr
 cases hx:X f vs h with
 | some u =>
  rw[hx] at h1
  cases h1
  exact .inl hx
 | none =>
  rw[hx] at h1
  obtain⟨fn,hfn,h2⟩:=jaa.1 h1
  cases fn with
  | mk body nargs nslots res =>
  obtain⟨h3,h4⟩:=jae.1 h2
  obtain⟨p,hp,h5⟩:=jaa.1 h4
  obtain⟨e,s⟩:=p
  rw[jiu,jba] at h3
  rw[jcv] at hp
  cases e with
  | normal=>exact .inr ⟨body,nargs,nslots,res,.normal,s,hfn,h3,hp,.inl rfl,h5⟩
  | ret=>exact .inr ⟨body,nargs,nslots,res,.ret,s,hfn,h3,hp,.inr rfl,h5⟩
  | exit id=>grind
theorem jsh (hX:∀ f vs h v h',jc1 F f vs h=some (v,h')->WF h->Abs (fun n=>h.lo<=n) h h'):∀ n,(∀ c fr h e s,run F n c (.mk fr h)=some (e,s)->WF h->∃ fr' h',s=.mk fr' h'/\Abs (fun n=>h.lo<=n) h h')/\jj5 (jbv F (run F n)):=by
 intro n
 have cla:∀ n,(∀ c fr h e s,run F n c (.mk fr h)=some (e,s)->WF h->∃ fr' h',s=.mk fr' h'/\Abs (fun n=>h.lo<=n) h h')->jj5 (jbv F (run F n)):=by
  intro n hn f vs h v h' k hr
  rcases jrc hr with hx | ⟨body,nargs,nslots,res,e,s,_,_,h3,_,h5⟩
  .grind
  grind[jgw]
 induction n with
 | zero=>exact⟨fun c fr h e s hr=>(by cases hr),cla 0 (fun c fr h e s hr=>by cases hr)⟩
 | succ n ih =>
  obtain⟨ih1,ih2⟩:=ih
  have main:∀ c fr h e s,run F (n+1) c (.mk fr h)=some (e,s)->WF h->∃ fr' h',s=.mk fr' h'/\Abs (fun n=>h.lo<=n) h h':=by
   intro c fr h e s hr k
   have hr':jz6 F (run F n) c (.mk fr h)=some (e,s):=hr
   cases c with
   | skip=>cases hr';exact⟨fr,h,rfl,Abs.refl _ k⟩
   | region ops =>
    obtain⟨s1,h1,h2⟩:=jaa.1 (show ob (jz5 (jbv F (run F n)) ops [] fr h) (fun s=>some (.normal,s))=some (e,s) from hr')
    cases h2
    exact j0g ih2 _ _ _ _ _ k h1
   | draw ops =>
    obtain⟨s1,h1,h2⟩:=jaa.1 (show ob (jx4 (jbv F (run F n)) ops [] [] fr h) (fun s=>some (.normal,s))=some (e,s) from hr')
    cases h2
    exact j0l ih2 _ _ _ _ _ _ k h1
   | seq a b =>
    obtain⟨p,h1,h2⟩:=jaa.1 (show ob (run F n a (.mk fr h)) (fun p=>Ex.casesOn p.1 (run F n b p.2) (fun _=>some p) (some p))=some (e,s) from hr')
    obtain⟨e1,s1⟩:=p
    obtain⟨fr',h',rfl,a1⟩:=ih1 _ _ _ _ _ h1 k
    cases e1 with
    | normal =>
     obtain⟨fr'',h'',e2,a2⟩:=ih1 _ _ _ _ _ h2 a1.wf
     exact⟨fr'',h'',e2,a1.trans' a2⟩
    | exit id=>cases h2;exact⟨fr',h',rfl,a1⟩
    | ret=>cases h2;exact⟨fr',h',rfl,a1⟩
   | cond c x y =>
    obtain⟨v,h1,h2⟩:=jaa.1 (show ob (ev [] fr c) (fun v=>jgt v (fun t=>run F n (oif t x y) (.mk fr h)))=some (e,s) from hr')
    obtain⟨t,rfl,h3⟩:=jda h2
    exact ih1 _ _ _ _ _ h3 k
   | block id b =>
    obtain⟨p,h1,h2⟩:=jaa.1 (show ob (run F n b (.mk fr h)) (fun p=>Ex.casesOn p.1 (some p) (fun k=>oif (Nat.beq k id) (some (.normal,p.2)) (some p)) (some p))=some (e,s) from hr')
    obtain⟨e1,s1⟩:=p
    obtain⟨fr',h',rfl,a1⟩:=ih1 _ _ _ _ _ h1 k
    cases e1 with
    | normal=>cases h2;exact⟨fr',h',rfl,a1⟩
    | exit j =>
     have h2':oif (Nat.beq j id) (some (Ex.normal,St.mk fr' h')) (some (.exit j,.mk fr' h'))=some (e,s):=h2
     rw[jat] at h2'
     split at h2'<;>cases h2'<;>exact⟨fr',h',rfl,a1⟩
    | ret=>cases h2;exact⟨fr',h',rfl,a1⟩
   | loop b =>
    obtain⟨p,h1,h2⟩:=jaa.1 (show ob (run F n b (.mk fr h)) (fun p=>Ex.casesOn p.1 (run F n (.loop b) p.2) (fun _=>some p) (some p))=some (e,s) from hr')
    obtain⟨e1,s1⟩:=p
    obtain⟨fr',h',rfl,a1⟩:=ih1 _ _ _ _ _ h1 k
    cases e1 with
    | normal =>
     obtain⟨fr'',h'',e2,a2⟩:=ih1 _ _ _ _ _ h2 a1.wf
     exact⟨fr'',h'',e2,a1.trans' a2⟩
    | exit id=>cases h2;exact⟨fr',h',rfl,a1⟩
    | ret=>cases h2;exact⟨fr',h',rfl,a1⟩
   | exit id=>cases hr';exact⟨fr,h,rfl,Abs.refl _ k⟩
   | ret=>cases hr';exact⟨fr,h,rfl,Abs.refl _ k⟩
  exact⟨main,cla (n+1) main⟩
end
section
variable {P:Program} {A:Nat->Int} {T:Tr TI} {π:List Nat} {nt:Nat} {ops:Array Oper} {cl:FuncId->List AV->Hp->R}
theorem Step.trans' {φ ψ χ:Phi} {w'':World} (s:Step (fun n=>h.lo<=n) φ ψ h h' w w') (t:Step (fun n=>h'.lo<=n) ψ χ h' h'' w' w''):Step (fun n=>h.lo<=n) φ χ h h'' w w'':=by
 rw[s.abs.lo] at t;exact s.trans t
theorem jrd (hT:Tys P T) (hclk:qhi P A cl) {Q:Exit->Act->World->Prop}:∀ (r:List Oper) (k:Nat) (l:List IOper) (st fr:List AV) (h:Hp) (s:St) (φ:Phi) (a:Act) (w:World),(∀ j o,r[j]?=some o->ops[k+j]?=some o)->k+r.length=ops.size ->
 jld T π nt (jan (dD ops) k) k r=some l->jz5 cl l st fr h=some s->Rel A φ h w->FrR A φ π fr a->LoR A φ (jan (dD ops) k) st a->nt<=a.tmps.size->(∀ j d,j<k->dD ops j=some d->d<a.tmps.size) ->
 (∀ φ' fr' h' a' w',s=.mk fr' h'->Step (fun n=>h.lo<=n) φ φ' h h' w w'->Rel A φ' h' w'->FrR A φ' π fr' a'->a'.defers=a.defers->a'.tmps.size=a.tmps.size->Q .normal a' w') ->
 wpOps P ops Q (List.range' k r.length) a w
 | [],k,l,st,fr,h,s,φ,a,w,hr,hk,hc,hi,rel,hf,hl,hnt,hd,hQ=>by
  cases hc
  exact hQ φ fr h a w (Option.some.inj (show some (St.mk fr h)=some s from hi)).symm (Step.refl _ rel rfl rfl rfl rfl) rel hf rfl rfl
 | o::r,k,l,st,fr,h,s,φ,a,w,hr,hk,hc,hi,rel,hf,hl,hnt,hd,hQ=>by
  have ho:ops[k]?=some o:=hr 0 o rfl
  have hoAt:jcw ops k=o:=by simp[jcw,f0z,ho]
  have hdk:dD ops k=o.dst:=by unfold dD;rw[hoAt]
  simp only[jld] at hc
  split at hc
  .rename_i ip l' hip hl'
   cases hc
   obtain⟨hds,op,g,rfl,hop,hg⟩:=jlq hip
   obtain⟨p,hp,hi1⟩:=jaa.1 (show ob (qdd cl st fr h op g) (fun p=>jz5 cl l' (p.1::st) (jc0 fr (jmx π o.dst) p.1) p.2)=some s from hi)
   obtain⟨v,h1⟩:=p
   obtain⟨b,hb,hp1⟩:=jaa.1 hp
   have hwant:Region.wanted o (yielded ops a.tmps)=b:=by
    refine ji4 (φ:=φ) (A:=A) (loc:=jan (dD ops) k) (st:=st) (k:=k) (fun j hj=>?_) (fun j d hj hjd=>?_) (fun j want d v _ hjd hjv=>hl d _ v hjd hjv) hg hb
    .rw [jbk (dD ops) hj]
     have:ops[j]?=some (jcw ops j):=by
      have:j<ops.size:=by simp at hk;omega
      simp[jcw,f0z,this]
     rw[this];rfl
    .rw [jbk (dD ops) hj] at hjd
     exact hd j d hj (Option.some.inj hjd)
   have next:∀ φ' rv w',Step (fun n=>h.lo<=n) φ φ' h h1 w w'->Rel A φ' h1 w'->cV A φ' v rv->wpOps P ops Q (List.range' (k+1) r.length) (a.put o.dst rv) w':=by
    intro φ' rv w' s1 r1 hcv
    have hle:=s1.le rel
    refine jrd hT hclk r (k+1) l' (v::st) (jc0 fr (jmx π o.dst) v) h1 s φ' (a.put o.dst rv) w' (fun j o' hj=>by have:=hr (j+1) o' (by simpa using hj);rw[←this];congr 1;omega) (by simp at hk;omega) ?_ hi1 r1 ((hf.mono hle).put hnt hds hcv) ?_ (by rw[jj3];exact hnt) (fun j d hj hjd=>?_) (fun φ'' fr' h' a' w'' e s2 r2 f2 d2 z2=>?_)
    .show jld T π nt (dD ops k::jan (dD ops) k) (k+1) r=some l'
     rw[hdk];exact hl'
    .show LoR A φ' (dD ops k::jan (dD ops) k) (v::st) (a.put o.dst rv)
     rw[hdk];exact(hl.mono hle).put hnt hds hcv
    .rw [jj3]
     rcases f2q.1 hj with h2 | h2
     .exact hd j d h2 hjd
     .subst h2
      rw[hdk] at hjd
      rw[hjd] at hds
      have:Nat.ble (d+1) nt=true:=hds
      exact f0o (f0l this) hnt
    .exact hQ φ'' fr' h' a' w'' e (s1.trans' s2) r2 f2 (d2.trans (jlk _ _)) (z2.trans (jj3 _ _))
   simp only[f0i,List.range'_succ,wpOps,ho]
   rw[hwant]
   cases b with
   | false =>
    simp only[f1c,if_false]
    cases hp1
    exact next φ undef w (Step.refl _ rel rfl rfl rfl rfl) rel rfl
   | true =>
    simp only[if_true]
    exact .inl (jj4 (cl:=cl) hT hclk (jyg hf hl _) rel hop hp1 _ (.inr rfl) (fun φ' rv w' s1 r1 hcv=>next φ' rv w' s1 r1 hcv))
  grind
end
section
variable {P:Program} {A:Nat->Int} {T:Tr TI} {F:Fns}
def q0w:Ex->Exit
 | .normal=>.normal
 | .exit id=>.exit id
 | .ret=>.ret
def qq0 (A:Nat->Int) (π:List Nat) (φ:Phi) (h:Hp) (w:World) (a:Act) (e:Ex) (s:St) (Q:Exit->Act->World->Prop):Prop :=
 ∀ φ' fr' h' a' w',s=.mk fr' h'->Step (fun n=>h.lo<=n) φ φ' h h' w w'->Rel A φ' h' w'->FrR A φ' π fr' a'->a'.defers=a.defers->a'.tmps.size=a.tmps.size->Q (q0w e) a' w'
theorem qq0.trans {π:List Nat} {φ ψ:Phi} {a a':Act} {e:Ex} {s:St} {Q:Exit->Act->World->Prop} (k:qq0 A π φ h w a e s Q) (st:Step (fun n=>h.lo<=n) φ ψ h h' w w') (hd:a'.defers=a.defers) (hs:a'.tmps.size=a.tmps.size):qq0 A π ψ h' w' a' e s Q :=
 fun φ' fr' h'' a'' w'' e1 s1 r1 f1 d1 z1=>k φ' fr' h'' a'' w'' e1 (st.trans' s1) r1 f1 (d1.trans hd) (z1.trans hs)
def qq1 (P:Program) (A:Nat->Int) (T:Tr TI) (F:Fns) (n:Nat):Prop :=
 ∀ ic fr h e s,run F n ic (.mk fr h)=some (e,s)->∀ code cb π nt,jgu T cb π nt code=some ic->∀ φ a w,Rel A φ h w->FrR A φ π fr a->nt<=a.tmps.size->∀ Q,qq0 A π φ h w a e s Q->code.wp P Q a w
def qhm (P:Program) (A:Nat->Int) (T:Tr TI) (F:Fns) (n:Nat):Prop :=
 ∀ ib fr h e s,run F n (.loop ib) (.mk fr h)=some (e,s)->∀ code cb π nt,jgu T cb π nt code=some ib->∀ φ a w,Rel A φ h w->FrR A φ π fr a->nt<=a.tmps.size->∀ Q,qq0 A π φ h w a e s Q->Code.rounds P code Q n a w
theorem jre:∀ (n j:Nat) (v:AV),(jdq n)[j]?=some v->v=.undef
 | 0,j,v,h=>by
  trivial
 | n+1,0,v,h=>by
  have:jdq (n+1)=.undef::jdq n:=rfl
  grind
 | n+1,j+1,v,h=>by
  have:jdq (n+1)=.undef::jdq n:=rfl
  exact jre n j v (by grind)
theorem jsi:∀ (n k:Nat) (r:List Nat) (t:Nat),k<=t->t<k+n->idx t (j31 k n++r) 0=some (t - k)
 | 0,k,r,t,h1,h2=>oa
 | n+1,k,r,t,h1,h2=>by
  simp only[j31,f1x,idx]
  by_cases e:k=t
  .simp_all
  .have:Nat.beq k t=false:=by
    grind[f0k]
   rw[this]
   rw[jop,jsi n (k+1) r t oa oa]
   grind
theorem j0m:∀ n k,(j31 k n).length=n
 | 0,k=>rfl
 | n+1,k=>by simp[j31,j0m n]
theorem jow {π:List Nat} {φ:Phi} {a:Act} (hT:Tys P T) (rel:Rel A φ h w) (hf:FrR A φ π fr a):∀ (rs:List ResultVar) (l:List IR) (xs:List (Bool×List SV)),qc5 T π rs=some l->jfu fr h l=some xs ->
 ∃ vs:List Value,(rs.mapM (fun | .tmp t=>pure (a.tmps.getD t undef) | .cell q t=>do loadVar t (←asAddr (a.tmps.getD q undef)):ResultVar->Sem Value)).run P w=.ok vs w/\All2 (fun p x=>cV1 A φ p.1 p.2 x) xs vs
 | [],l,xs,h1,h2=>by
  cases h1
  cases h2
  exact⟨[],rfl,.nil⟩
 | .tmp t::rs,l,xs,h1,h2=>by
  simp only[qc5] at h1
  split at h1
  .rename_i j l' hj hl'
   cases h1
   obtain⟨x,hx,h3⟩:=jaa.1 (show ob (jmn fr h (.tmp j)) (fun v=>ob (jfu fr h l') (fun x=>some (v::x)))=some xs from h2)
   obtain⟨ys,hys,h4⟩:=jaa.1 h3
   cases h4
   obtain⟨vs,hvs,ha⟩:=jow hT rel hf rs l' ys hl' hys
   obtain⟨v,hv,h5⟩:=jaa.1 (show ob (je6 fr j) (fun v=>AV.casesOn v (fun s=>some (false,[s])) (fun l=>some (true,l)) (fun _=>none) none none)=some x from hx)
   rw[jc3] at hv
   have hc:=hf t j v hj hv
   refine⟨a.tmps.getD t undef::vs,by simp only[List.mapM_cons,Sem.run_bind,Sem.run_pure,Result.andThen_ok,hvs],.cons ?_ ha⟩
   cases v with
   | s y=>cases h5;exact⟨y,rfl,hc⟩
   | agg l=>cases h5;exact hc
   | _=>cases h5
  grind
 | .cell q t::rs,l,xs,h1,h2=>by
  simp only[qc5] at h1
  split at h1
  .rename_i j ti l' hj hti hl'
   cases hb:ti1 ti with
   | false=>rw[hb] at h1;cases h1
   | true =>
    rw[hb] at h1
    cases h1
    obtain⟨x,hx,h3⟩:=jaa.1 (show ob (jmn fr h (.cell j ti.size ti.agg)) (fun v=>ob (jfu fr h l') (fun x=>some (v::x)))=some xs from h2)
    obtain⟨ys,hys,h4⟩:=jaa.1 h3
    cases h4
    obtain⟨vs,hvs,ha⟩:=jow hT rel hf rs l' ys hl' hys
    obtain⟨v,hv,h5⟩:=jaa.1 (show ob (je6 fr j) (fun v=>jux v (fun b off=>ob (rd h b off ti.size) (fun cs=>some (ti.agg,cs))))=some x from hx)
    obtain⟨b,off,rfl,h6⟩:=jjv h5
    obtain⟨cs,hcs,h7⟩:=jaa.1 h6
    cases h7
    rw[jc3] at hv
    obtain⟨lc,hlc,hval⟩:=(show jqj φ b off (a.tmps.getD q undef) from hf q j _ hj hv)
    obtain⟨lc',us,e1,_,e2,e3,e4⟩:=jj1 rel hcs
    rw[hlc] at e1
    cases e1
    have kt:=hT t ti hti
    cases hag:ti.agg with
    | true =>
     have hl:=run_loadCells_list (P:=P) w ⟨lc.b,lc.o+off,none⟩ us (fun j u hj=>by rw[jcc];exact e4 j u hj)
     rw[e3] at hl
     have hcell:(do loadVar t (←asAddr (a.tmps.getD q undef)):Sem Value).run P w=.ok (.agg us.toArray) w:=by
      simp only[Sem.run_bind,Sem.run_pure,Result.andThen_ok,hval,asAddr,loadVar,kt.run_agg,hag,if_true,kt.run_size,hl]
     refine⟨.agg us.toArray::vs,?_,.cons ?_ ha⟩
     .rw [List.mapM_cons,Sem.run_bind]
      show Result.andThen ((do loadVar t (←asAddr (a.tmps.getD q undef)):Sem Value).run P w) _=_
      rw[hcell]
      simp only[Result.andThen_ok,Sem.run_bind,hvs,Sem.run_pure]
     .exact ⟨us,rfl,e2⟩
    | false =>
     have hsz:ti.size=1:=by
      simp only[ti1,hag,f18,jiu] at hb;exact hb
     rw[hsz] at e3
     match us,e3,e2,e4 with
     | [u],_,e2,e4 =>
      have h8:=e4 0 u rfl
      rw[f1z] at h8
      cases e2 with
      | @cons s _ _ _ hs hn =>
       cases hn
       have hcell:(do loadVar t (←asAddr (a.tmps.getD q undef)):Sem Value).run P w=.ok u w:=by
        simp only[Sem.run_bind,Sem.run_pure,Result.andThen_ok,hval,asAddr,loadVar,kt.run_agg,hag,f1c,if_false,run_load,h8]
       refine⟨u::vs,?_,.cons ?_ ha⟩
       .rw [List.mapM_cons,Sem.run_bind]
        show Result.andThen ((do loadVar t (←asAddr (a.tmps.getD q undef)):Sem Value).run P w) _=_
        rw[hcell]
        simp only[Result.andThen_ok,Sem.run_bind,hvs,Sem.run_pure]
       .exact ⟨s,rfl,hs⟩
  .cases h1
theorem qhn {φ:Phi} {args:Array Value} (ha:All2 (cV A φ) vs args.toList) {nargs nslots ntmps:Nat} (hl:vs.length=nargs) (acc:List Nat) :
 FrR A φ (j31 0 nargs++acc) (vs++jdq nslots) { tmps:=args++Array.replicate (ntmps - args.size) undef,defers:=[] }:=by
 have hal:=ha.len
 simp only[f16] at hal
 intro t j u hj hu
 rw[f2n] at hu
 split at hu
 .rename_i hlt
  have hjn:j<nargs:=oa
  have:t=j:=by
   have h4:=jd7 hj
   rw[f07 (by rw[j0m];exact hjn)] at h4
   have h5:=jsi nargs 0 [] j oa oa
   rw[f06] at h5
   have h6:=jd7 h5
   rw[Nat.sub_zero,h4] at h6
   exact Option.some.inj h6
  subst this
  obtain⟨x,hx,hcx⟩:=ha.get t u hu
  rw[f1g] at hx
  have:(args++Array.replicate (ntmps - args.size) undef).getD t undef=x:=by
   rw[f0z,f14 oa,hx];rfl
  show cV A φ u ((args++Array.replicate (ntmps - args.size) undef).getD t undef)
  rw[this]
  exact hcx
 .rename_i hge
  obtain rfl:=jre _ _ _ hu
  have htn:nargs<=t:=by
   rcases f0n t nargs with h4 | h4
   .rw [jsi _ 0 _ t oa oa] at hj
    have:t - 0=j:=Option.some.inj hj
    omega
   .exact h4
  show(args++Array.replicate (ntmps - args.size) undef).getD t undef=undef
  rw[f0z,Array.getElem?_append_right oa]
  rw[Array.getElem?_replicate]
  split<;>rfl
theorem qho {fn:Func} {φ':Phi} {a':Act} {π':List Nat} {fr':List AV} {res:List IR} {xs:List (Bool×List SV)} {v0:AV} (hT:Tys P T) (r:Rel A φ' h' w') (f:FrR A φ' π' fr' a') (hr:qc5 T π' fn.results.toList=some res) (hxs:jfu fr' h' res=some xs)
 (hcase:xs=[]/\v0=.tup []∨(∃ p,xs=[p]/\jgs p.1 p.2=some v0)∨(2<=xs.length/\v0=.tup xs)):∃ v',(results fn a'.tmps).run P w'=.ok v' w'/\cV A φ' v0 v':=by
 obtain⟨us,hus,hall⟩:=jow hT r f fn.results.toList _ xs hr hxs
 have hrun':∀ v',(if h:us.toArray.size=1 then us.toArray[0] else .tuple us.toArray)=v'->(results fn a'.tmps).run P w'=.ok v' w':=by
  intro v' hv'
  unfold results
  have e1:fn.results=fn.results.toList.toArray:=se
  rw[e1]
  simp only[List.mapM_toArray,Sem.run_bind,Sem.run_map]
  erw [hus]
  simp only[Result.andThen_ok,Sem.run_pure,hv']
 have hlen':=hall.len
 rcases hcase with⟨rfl,rfl⟩ | ⟨p,rfl,hmk⟩ | ⟨h2x,rfl⟩
 .cases hall
  exact⟨_,hrun' _ rfl,⟨[],rfl,.nil⟩⟩
 .cases hall with
  | @cons _ u _ _ hu hn =>
   cases hn
   refine⟨u,hrun' u rfl,?_⟩
   unfold cV1 at hu
   rcases jjs hmk with⟨e2,rfl⟩ | ⟨e2,y,hy,rfl⟩
   .rw [if_pos e2] at hu;exact hu
   .rw [e2] at hu
    simp only[f1c,if_false] at hu
    obtain⟨y',h5,h6⟩:=hu
    rw[hy] at h5
    cases h5
    exact h6
 .refine ⟨.tuple us.toArray,hrun' _ ?_,⟨us,rfl,hall⟩⟩
  rw[dif_neg]
  simp only[List.size_toArray]
  omega
theorem jfb (env:Env P A T F) (hs:qq1 P A T F n):qhi P A (jbv F (run F n)):=by
 intro f vs h v0 h' hr
 have hT0:=env.tys
 rcases jrc hr with hx | ⟨body,nargs,nslots,res,e,s,hT,hlen,hrun,he,hres⟩
 .obtain ⟨h1,_,h2⟩:=env.ext f vs h v0 h' hx
  exact⟨h1,h2⟩
 .obtain ⟨fn,cb,acc,h1,h2,h3⟩:=env.fn f _ hT
  unfold qks at h2
  split at h2
  .cases h2
  .rename_i b hb
   dsimp only at h2
   split at h2
   .rename_i c r hc hr'
    cases h2
    refine⟨⟨fn,h1,by rw[hb];rfl,h3⟩,fun φ w args rel ha=>?_⟩
    have hal:=ha.len
    simp only[f16] at hal
    refine calls_of_wp h1 hb ?_
    refine hs _ _ _ _ _ hrun b _ _ _ hc φ _ w rel ?_ ?_ _ ?_
    .exact qhn ha hlen acc
    .simp
     omega
    .intro φ' fr' h'' a' w' es st r1 f1 d1 z1
     subst es
     obtain⟨rfl,xs,hxs,hcase⟩:=jgw hres
     obtain⟨v',hv1,hv2⟩:=qho hT0 r1 f1 hr' hxs hcase
     have hbp:a'.defers=[]/\∃ v,(results fn a'.tmps).run P w'=.ok v w'/\∃ rv φ'',Ending.returned v=.returned rv/\Step (fun n=>h.lo<=n) φ φ'' h h' w w'/\Rel A φ'' h' w'/\cV A φ'' v0 rv:=⟨d1,v',hv1,v',φ',rfl,st,r1,hv2⟩
     rcases he with rfl | rfl
     .exact hbp
     .exact hbp
   .cases h2
theorem jhq (env:Env P A T F):∀ n,qq1 P A T F n/\qhm P A T F n:=by
 intro n
 induction n with
 | zero=>exact⟨fun ic fr h e s hr=>(by cases hr),fun ic fr h e s hr=>(by cases hr)⟩
 | succ n ih =>
  obtain⟨ih1,ih2⟩:=ih
  have hcl:=jfb env ih1
  have habs:=(jsh (F:=F) (fun f vs h v h' hx=>(env.ext f vs h v h' hx).2.1) n).2
  have hL:qhm P A T F (n+1):=by
   intro ib fr h e s hr code cb π nt hc φ a w rel hf hnt Q hQ
   obtain⟨p,h1,h2⟩:=jaa.1 (show ob (run F n ib (.mk fr h)) (fun p=>Ex.casesOn p.1 (run F n (.loop ib) p.2) (fun _=>some p) (some p))=some (e,s) from hr)
   obtain⟨e1,s1⟩:=p
   rw[rounds_succ]
   refine ih1 _ _ _ _ _ h1 code cb π nt hc φ a w rel hf hnt _ ?_
   intro φ' fr' h' a' w' es st r1 f1 d1 z1
   subst es
   cases e1 with
   | normal=>exact ih2 _ _ _ _ _ h2 code cb π nt hc φ' a' w' r1 f1 (by rw[z1];exact hnt) Q (hQ.trans st d1 z1)
   | exit id=>cases h2;exact hQ φ' fr' h' a' w' rfl st r1 f1 d1 z1
   | ret=>cases h2;exact hQ φ' fr' h' a' w' rfl st r1 f1 d1 z1
  refine⟨?_,hL⟩
  intro ic fr h e s hr code cb π nt hc φ a w rel hf hnt Q hQ
  cases code with
  | skip =>
   cases hc
   cases hr
   exact wp_skip (hQ φ fr h a w rfl (Step.refl _ rel rfl rfl rfl rfl) rel hf rfl rfl)
  | region id ops draw =>
   cases draw with
   | false =>
    have hrange:List.range ops.size=List.range' 0 ops.toList.length:=by rw[List.range_eq_range'];simp
    obtain⟨l,hl,e⟩:=f0a.1 (show(jld T π nt [] 0 ops.toList).map .region=some ic from hc)
    subst e
    obtain⟨s1,h1,h2⟩:=jaa.1 (show ob (jz5 (jbv F (run F n)) l [] fr h) (fun s=>some (.normal,s))=some (e,s) from hr)
    cases h2
    refine wp_region ?_
    rw[hrange]
    refine jrd env.tys hcl ops.toList 0 l [] fr h _ φ a w (fun j o hj=>by rw[f1b,←f1g];exact hj) se hl h1 rel hf (fun t i v hi=>by cases hi) hnt (fun j d hj=>oa) ?_
    intro φ' fr' h' a' w' es st r1 f1 d1 z1
    exact hQ φ' fr' h' a' w' es st r1 f1 d1 z1
   | true =>
    obtain⟨l,hl,e⟩:=f0a.1 (show(j6j T π nt ops.toList).map .draw=some ic from hc)
    subst e
    obtain⟨s1,h1,h2⟩:=jaa.1 (show ob (jx4 (jbv F (run F n)) l [] [] fr h) (fun s=>some (.normal,s))=some (e,s) from hr)
    cases h2
    exact j4h env.mix env.tys hcl habs hl h1 rel hf hnt (fun φ' fr' h' a' w' es st r1 f1 d1 z1=>hQ φ' fr' h' a' w' es st r1 f1 d1 z1)
  | seq x y =>
   simp only[jgu] at hc
   split at hc
   .rename_i cx cy hx hy
    cases hc
    obtain⟨p,h1,h2⟩:=jaa.1 (show ob (run F n cx (.mk fr h)) (fun p=>Ex.casesOn p.1 (run F n cy p.2) (fun _=>some p) (some p))=some (e,s) from hr)
    obtain⟨e1,s1⟩:=p
    refine wp_seq (ih1 _ _ _ _ _ h1 x cb π nt hx φ a w rel hf hnt _ ?_)
    intro φ' fr' h' a' w' es st r1 f1 d1 z1
    subst es
    cases e1 with
    | normal=>exact ih1 _ _ _ _ _ h2 y cb π nt hy φ' a' w' r1 f1 (by rw[z1];exact hnt) Q (hQ.trans st d1 z1)
    | exit id=>cases h2;exact hQ φ' fr' h' a' w' rfl st r1 f1 d1 z1
    | ret=>cases h2;exact hQ φ' fr' h' a' w' rfl st r1 f1 d1 z1
   .cases hc
  | cond c x y =>
   simp only[jgu] at hc
   split at hc
   .rename_i c' cx cy hc' hx hy
    cases hc
    obtain⟨v,h1,h2⟩:=jaa.1 (show ob (ev [] fr c') (fun v=>jgt v (fun t=>run F n (oif t cx cy) (.mk fr h)))=some (e,s) from hr)
    obtain⟨t,rfl,h3⟩:=jda h2
    have hE:=jyg (A:=A) (φ:=φ) (loc:=[]) (st:=[]) hf (fun t i v hi=>by cases hi) [c]
    have hcv:a.eval c=.bool t:=hE c se _ _ hc' h1
    refine wp_cond hcv ?_
    rw[jat] at h3
    cases t with
    | true=>exact ih1 _ _ _ _ _ h3 x cb π nt hx φ a w rel hf hnt Q hQ
    | false=>exact ih1 _ _ _ _ _ h3 y cb π nt hy φ a w rel hf hnt Q hQ
   .cases hc
  | block id b =>
   obtain⟨ib,hb,e⟩:=f0a.1 (show(jgu T cb π nt b).map (.block id)=some ic from hc)
   subst e
   obtain⟨p,h1,h2⟩:=jaa.1 (show ob (run F n ib (.mk fr h)) (fun p=>Ex.casesOn p.1 (some p) (fun k=>oif (Nat.beq k id) (some (.normal,p.2)) (some p)) (some p))=some (e,s) from hr)
   obtain⟨e1,s1⟩:=p
   refine wp_block (ih1 _ _ _ _ _ h1 b cb π nt hb φ a w rel hf hnt _ ?_)
   intro φ' fr' h' a' w' es st r1 f1 d1 z1
   subst es
   cases e1 with
   | normal=>cases h2;exact hQ φ' fr' h' a' w' rfl st r1 f1 d1 z1
   | exit j =>
    have h2':oif (Nat.beq j id) (some (Ex.normal,St.mk fr' h')) (some (.exit j,.mk fr' h'))=some (e,s):=h2
    rw[jat] at h2'
    show if j=id then Q .normal a' w' else Q (.exit j) a' w'
    split at h2'
    .rename_i hj
     rw[jiu] at hj
     cases h2'
     rw[if_pos hj]
     exact hQ φ' fr' h' a' w' rfl st r1 f1 d1 z1
    .rename_i hj
     rw[jiu] at hj
     cases h2'
     rw[if_neg hj]
     exact hQ φ' fr' h' a' w' rfl st r1 f1 d1 z1
   | ret=>cases h2;exact hQ φ' fr' h' a' w' rfl st r1 f1 d1 z1
  | loop b =>
   obtain⟨ib,hb,e⟩:=f0a.1 (show(jgu T cb π nt b).map .loop=some ic from hc)
   subst e
   exact wp_loop_rounds (n+1) (hL _ _ _ _ _ hr b cb π nt hb φ a w rel hf hnt Q hQ)
  | exit id =>
   cases hc
   cases hr
   exact wp_exit (hQ φ fr h a w rfl (Step.refl _ rel rfl rfl rfl rfl) rel hf rfl rfl)
  | ret =>
   cases hc
   cases hr
   exact wp_ret (hQ φ fr h a w rfl (Step.refl _ rel rfl rfl rfl rfl) rel hf rfl rfl)
  | _=>cases hc
def h0:Hp:=.mk 1 .leaf 0 []
def qhp (k:Nat->Option (Array Value)) [g:GK k]:Phi:=⟨fun _=>none,k,g⟩
def jvj (k:Nat->Option (Array Value)) (w:World):Prop:=∀ b cs,k b=some cs->∃ ty:TypeId×Nat×Nat,w.heap[b]?=some (.cells cs ty.1 ty.2)
theorem qq2 {k:Nat->Option (Array Value)} [GK k] (hk:jvj k w):Rel A (qhp k) h0 w:=by
 have hget:∀ n,h0.get n=none:=fun n=>rfl
 refine⟨⟨f0h _,by decide,f15 _,fun n _=>rfl⟩,fun n _=>rfl,fun n x hx=>?_,fun n m l l' hn=>?_,hk,fun n L hn=>?_⟩
 .grind
 .grind
 grind
theorem jsj (env:Env P A T F) (hr:jn2 F n f vs h0=some (v,h')) {k:Nat->Option (Array Value)} [GK k] (hk:jvj k w) (args:Array Value) (ha:All2 (cV A (qhp k)) vs args.toList) :
 Calls P f args w (fun e w'=>∃ rv φ,e=.returned rv/\Step (fun _=>False) (qhp k) φ h0 h' w w'/\Rel A φ h' w'/\cV A φ v rv):=by
 have hcl:=jfb env (jhq env n).1
 refine Calls.mono ((hcl f vs h0 v h' hr).2 _ w args (qq2 hk) ha) ?_
 rintro e w' ⟨rv,φ',rfl,s,r,hcv⟩
 refine⟨rv,φ',rfl,⟨⟨s.abs.wf,s.abs.nx,s.abs.lo,s.abs.hid,fun n hn _=>?_,s.abs.live,s.abs.seen⟩,s.ext,s.kle,s.knew,s.os,s.tape,s.output,s.size,fun p hp _=>s.old p hp fun n l _ hn=>?_,fun n L hn hl hL=>.inl ?_⟩,r,hcv⟩
 .cases h5:h'.tr.get n with
  | none=>rfl
  | some x =>
   have:=s.abs.live n hn (by grind)
   trivial
 .trivial
 .rcases s.new n L hn hl hL with h1 | ⟨m,M,_,h2,_⟩
  .omega
  trivial
theorem j68 (env:Env P A T F) (hr:jn2 F n f vs h0=some (v,h')) {k:Nat->Option (Array Value)} [GK k] (hk:jvj k w) (args:Array Value) (ha:All2 (cV A (qhp k)) vs args.toList) :
 Calls P f args w (fun e w'=>∃ rv φ,e=.returned rv/\Below w.heap.size w w'/\cV A φ v rv):=by
 refine Calls.mono (jsj env hr hk args ha) ?_
 rintro e w' ⟨rv,φ',rfl,s,r,hcv⟩
 exact⟨rv,φ',rfl,⟨s.os,s.tape,s.output,s.size,fun k hk=>s.old k hk fun n l h _=>h.elim⟩,hcv⟩
def qq3:R->Bool
 | some (.s (.bool b),_)=>b
 | _=>false
theorem qdq (env:Env P A T F) (hr:qq3 (jn2 F n f vs h0)=true) {k:Nat->Option (Array Value)} [GK k] (hk:jvj k w) (args:Array Value) (ha:All2 (cV A (qhp k)) vs args.toList) :
 Calls P f args w (fun e w'=>e=.returned (.bool true)/\Below w.heap.size w w'):=by
 cases hrun:jn2 F n f vs h0 with
 | none=>rw[hrun] at hr;trivial
 | some p =>
  obtain⟨v,h'⟩:=p
  rw[hrun] at hr
  match v,hrun,hr with
  | .s (.bool b),hrun,hr =>
   have hb :=hr
   subst hb
   refine Calls.mono (j68 env hrun hk args ha) ?_
   rintro e w' ⟨rv,φ,rfl,hbl,hcv⟩
   have:rv=.bool true:=hcv
   grind
end
end
end Go.Proofs.YtkpadfebkaangaaGreatDoor.Ev
