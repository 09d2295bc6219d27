/- A region that draws its order: what its preparation has looked at. No program in sight. -/
import Derived.Test.YtdbklpgagdbpiaaDoorAbs
import Derived.Orders
namespace Go.Proofs.YtdbklpgagdbpiaaDoor.Ev
noncomputable section
open Go
set_option linter.all false
variable {v:AV} {js:List Nat} {b i j k n:Nat}
section
variable {P:Program} {Q:Exit->Act->World->Prop}
def jkr (listed:Array Bool):Nat:=(listed.toList.filter (fun b => !b)).length
theorem jno (listed:Array Bool) (i:Nat) (h:listed.getD i true=false):jkr (listed.setIfInBounds i true)+1=jkr listed:=by
 obtain⟨l⟩:=listed
 have hi:i<l.length:=by
  rcases f0h i l.length with h1 | h1
  .exact h1
  .simp [h1] at h
 have hv:l[i]=false:=by simpa[hi] using h
 simp only[jkr,List.setIfInBounds_toArray]
 clear h
 induction l generalizing i with
 | nil=>simp at hi
 | cons b l ih =>
  cases i with
  | zero=>simp at hv;subst hv;simp
  | succ i =>
   have:=ih i (by simpa using hi) (by simpa using hv)
   simp only[List.set_cons_succ,List.filter_cons]
   split<;>simp_all
theorem jl5 {ops:Array Oper} {listed:Array Bool} (h:i∈Region.ready .any ops listed) :
 listed.getD i true=false/\∃ o,ops[i]?=some o/\∀ e∈o.after,Region.binds .any e=true->listed.getD e.on false=true:=by
 simp only[Region.ready,List.mem_filter,f0y,f18] at h
 obtain⟨_,h1,h2⟩:=h
 cases ho:ops[i]? with
 | none=>simp[ho] at h2
 | some o =>
  refine⟨h1,o,rfl,fun e he hb=>?_⟩
  simp only[ho,f1p,f1t] at h2
  have:=(Array.all_eq_true'.1 h2) e he
  simpa[hb] using this
theorem jxd {ops:Array Oper} (I:Array Bool->Act->World->Prop)
 (hstep:∀ listed a w i,I listed a w->i∈Region.ready .any ops listed->wpOp P ops Q i (fun a' w'=>I (listed.setIfInBounds i true) a' w') a w)
 (hend:∀ listed a w,I listed a w->Region.ready .any ops listed=[]->Q .normal a w) :
 ∀ (fuel:Nat) (listed:Array Bool) (a:Act) (w:World),jkr listed<=fuel->I listed a w->wpAny P .any ops Q fuel listed a w
 | 0,listed,a,w,hf,hi=>by
  have:Region.ready .any ops listed=[]:=by
   rw[List.eq_nil_iff_forall_not_mem]
   intro i h
   have:=jno listed i (jl5 h).1
   omega
  exact⟨this,hend _ _ _ hi this⟩
 | fuel+1,listed,a,w,hf,hi=>by
  refine⟨fun h=>hend _ _ _ hi h,fun i h=>?_⟩
  have hu:=jno listed i (jl5 h).1
  exact wpOp_mono (fun a' w' hi'=>jxd I hstep hend fuel _ a' w' (by omega) hi') (hstep _ _ _ _ hi h)
theorem jja {ops:Array Oper} {id:Nat} {a:Act} {w:World} (hm:P.follows .mixedOrders=true) (I:(Nat->Prop)->Act->World->Prop)
 (hback:∀ (i:Nat) o,ops[i]?=some o->∀ e∈o.after,Region.binds .any e=true->e.on<i)
 (h0:I (fun _=>False) a { w with drawn:=w.drawn+1 })
 (hstep:∀ L a w (i:Nat) o,I L a w->¬ L i->ops[i]?=some o->(∀ e∈o.after,Region.binds .any e=true->L e.on) ->
  if Region.wanted o (yielded ops a.tmps)=true then o.wp P a w (fun a' w'=>I (fun j=>L j∨j=i) a' w') Q else I (fun j=>L j∨j=i) (a.put o.dst undef) w)
 (hend:∀ L a w,I L a w->(∀ i,i<ops.size->L i)->Q .normal a w):(Code.region id ops true).wp P Q a w:=by
 refine wp_region_any hm (jxd (fun listed a w=>listed.size=ops.size/\I (fun j=>listed.getD j false=true) a w) ?_ ?_ _ _ _ _ (by simp[jkr]) ⟨by simp,?_⟩)
 .intro listed a w i ⟨hsz,hI⟩ hr
  obtain⟨hli,o,ho,hdeps⟩:=jl5 hr
  have hin:i<ops.size:=(f05.1 ho).1
  have hnl:¬ listed.getD i false=true:=by
   have:listed.getD i false=listed.getD i true:=by simp[f0n,f2j (show i<listed.size by omega)]
   rw[this,hli];simp
  have hset:(fun j=>(listed.setIfInBounds i true).getD j false=true)=(fun j=>listed.getD j false=true∨j=i):=by
   funext j
   by_cases e:j=i
   .subst e;simp[f0n,hsz,hin]
   .simp [f0n,Ne.symm e,e]
  have hs:=hstep _ a w i o hI hnl ho hdeps
  have key:∀ a' w',I (fun j=>listed.getD j false=true∨j=i) a' w'->(listed.setIfInBounds i true).size=ops.size/\I (fun j=>(listed.setIfInBounds i true).getD j false=true) a' w':=fun a' w' h=>⟨by simpa using hsz,by rw[hset];exact h⟩
  simp only[wpOp,ho]
  split
  .rename_i hw
   rw[if_pos hw] at hs
   exact .inl (Oper.wp_mono key hs)
  .rename_i hw
   rw[if_neg hw] at hs
   exact key _ _ hs
 .intro listed a w ⟨hsz,hI⟩ hr
  refine hend _ a w hI ?_
  have key:∀ k,k<=ops.size->∀ j,j<k->listed.getD j false=true:=by
   intro k
   induction k with
   | zero=>intro _ j hj;omega
   | succ k ih =>
    intro hk j hj
    rcases f1y.1 hj with h | h
    .exact ih (by omega) j h
    .subst h
     cases hc:listed.getD j false with
     | true=>rfl
     | false =>
      exfalso
      have hmem:j∈Region.ready .any ops listed:=by
       have e1:listed.getD j true=listed.getD j false:=by simp[f0n,f2j (show j<listed.size by omega)]
       simp only[Region.ready,List.mem_filter,List.mem_range,f0y,f18]
       refine⟨by omega,by rw[e1,hc],?_⟩
       have ho:ops[j]?=some ops[j]:=f2j (by omega)
       simp only[ho,f1p,f1t]
       rw[Array.all_eq_true']
       intro e he
       cases hb:Region.binds .any e with
       | false=>rfl
       | true=>simpa using ih (by omega) e.on (hback j _ ho e he hb)
      rw[hr] at hmem
      cases hmem
  exact fun i hi=>key ops.size (f0d _) i hi
 .have:(fun j=>(Array.replicate ops.size false).getD j false=true)=(fun _:Nat=>False):=by
   funext j
   by_cases h:j<ops.size<;>simp[f0n,h]
  rw[this]
  exact h0
end
theorem jxe (m n:Nat):tb m n=m.testBit n:=by
 unfold tb Nat.testBit
 rw[f1z,jgt]
 have h1:Nat.land (Nat.shiftRight m n) 1=(m >>> n) % 2:=f2a _
 have h2:1 &&& (m >>> n)=(m >>> n) % 2:=by rw[Nat.and_comm];exact f2a _
 rw[h1,h2]
 have:=Nat.mod_two_eq_zero_or_one (m >>> n)
 rcases this with h | h<;>simp[h]
theorem jtv (n:Nat):tb 0 n=false:=by rw[jxe];simp
theorem j68 (a b n:Nat):tb (Nat.lor a b) n=(tb a n||tb b n):=by
 rw[jxe,jxe,jxe];exact Nat.testBit_or a b n
theorem qe6 (k n:Nat):tb (Nat.shiftLeft 1 k) n=(k == n):=by
 rw[jxe]
 have:Nat.shiftLeft 1 k=2 ^ k:=Nat.one_shiftLeft k
 rw[this,Nat.testBit_two_pow]
 by_cases h:k=n<;>simp[h]
theorem qh2 (a b n:Nat):tb (Nat.xor a (Nat.land a b)) n=(tb a n && !tb b n):=by
 rw[jxe,jxe,jxe]
 have h1:(Nat.xor a (Nat.land a b)).testBit n=((a.testBit n) ^^ ((Nat.land a b).testBit n)):=Nat.testBit_xor a (Nat.land a b) n
 have h2:(Nat.land a b).testBit n=(a.testBit n&&b.testBit n):=Nat.testBit_and a b n
 rw[h1,h2]
 cases a.testBit n<;>cases b.testBit n<;>rfl
def jal {α:Type} (f:Nat->α):Nat->List α
 | 0=>[]
 | i+1=>f i::jal f i
theorem jpl {α:Type} (f:Nat->α):∀ i,(jal f i).length=i
 | 0=>rfl
 | i+1=>by simp[jal,jpl f i]
theorem jpm {α:Type} (f:Nat->α):∀ i k,k<i->(jal f i)[k]?=some (f (i - 1 - k))
 | 0,k,h=>by omega
 | i+1,0,h=>by simp[jal]
 | i+1,k+1,h=>by
  simp only[jal,f2t]
  rw[jpm f i k (by omega)]
  congr 2
  omega
theorem jbj {α:Type} (f:Nat->α) (h:j<i):(jal f i)[i - 1 - j]?=some (f j):=by
 rw[jpm f i _ (by omega)]
 congr 2
 omega
theorem jiw {α:Type} {f:Nat->α} {x:α} (h:(jal f i)[k]?=some x):k<i/\f (i - 1 - k)=x:=by
 have hk:k<i:=by
  rcases f0h k i with h1 | h1
  .exact h1
  .rw [f0p (by rw[jpl];omega)] at h;cases h
 rw[jpm f i k hk] at h
 exact⟨hk,Option.some.inj h⟩
theorem jfe {ms:List Nat}:∀ {es:List Edge} {acc m:Nat},jw1 ms k es acc=some m ->
 (∀ e∈es,Region.binds .any e=true->e.on<k)/\∀ j,tb m j=true↔tb acc j=true∨∃ e∈es,Region.binds .any e=true/\(j=e.on∨∃ m',ms[k - 1 - e.on]?=some m'/\tb m' j=true)
 | [],acc,m,h=>by cases h;simp
 | e::es,acc,m,h=>by
  simp only[jw1] at h
  cases hb:Region.binds .any e with
  | false =>
   rw[hb] at h
   simp only[cond_false] at h
   obtain⟨h1,h2⟩:=jfe h
   refine⟨fun e' he' hb'=>?_,fun j=>?_⟩
   .rcases f0j.1 he' with rfl | h3
    .rw [hb] at hb';cases hb'
    .exact h1 e' h3 hb'
   .rw [h2]
    simp[hb]
  | true =>
   rw[hb] at h
   simp only[cond_true] at h
   cases hl:Nat.blt e.on k with
   | false=>rw[hl] at h;cases h
   | true =>
    rw[hl] at h
    simp only[cond_true] at h
    split at h
    .rename_i m' hm'
     obtain⟨h1,h2⟩:=jfe h
     have hlt:e.on<k:=f0g hl
     refine⟨fun e' he' hb'=>?_,fun j=>?_⟩
     .rcases f0j.1 he' with rfl | h3
      .exact hlt
      .exact h1 e' h3 hb'
     .rw [h2,j68,j68,qe6]
      simp only[f2v,beq_iff_eq,f0j]
      constructor
      .rintro (((h3 | h3) | h3) | ⟨e',h3,h4,h5⟩)
       .exact .inl h3
       .exact .inr ⟨e,.inl rfl,hb,.inl h3.symm⟩
       .exact .inr ⟨e,.inl rfl,hb,.inr ⟨m',hm',h3⟩⟩
       .exact .inr ⟨e',.inr h3,h4,h5⟩
      .rintro (h3 | ⟨e',rfl | h3,h4,h5⟩)
       .exact .inl (.inl (.inl h3))
       .rcases h5 with h5 | ⟨m'',h5,h6⟩
        .exact .inl (.inl (.inr h5.symm))
        .rw [hm'] at h5;cases h5;exact .inl (.inr h6)
       .exact .inr ⟨e',h3,h4,h5⟩
    .cases h
theorem jl6 {un:Nat}:∀ {k o0 j:Nat},j∈jh6 un k o0↔∃ o,j=o0+o/\o<k/\tb un (k - 1 - o)=true
 | 0,o0,j=>by simp[jh6]
 | k+1,o0,j=>by
  have ih:=@jl6 un k (o0+1) j
  simp only[jh6]
  have aux:(∃ o,j=o0+o/\o<k+1/\tb un (k+1 - 1 - o)=true)↔(j=o0/\tb un k=true)∨∃ o,j=o0+1+o/\o<k/\tb un (k - 1 - o)=true:=by
   constructor
   .rintro ⟨o,h1,h2,h3⟩
    cases o with
    | zero=>exact .inl ⟨h1,by simpa using h3⟩
    | succ o=>exact .inr ⟨o,by omega,by omega,by rw[←h3];congr 1;omega⟩
   .rintro (⟨h1,h2⟩ | ⟨o,h1,h2,h3⟩)
    .exact ⟨0,by omega,by omega,by simpa using h2⟩
    .exact ⟨o+1,by omega,by omega,by rw[←h3];congr 1;omega⟩
  rw[aux]
  cases hb:tb un k with
  | true=>simp only[cond_true,f0j,ih,and_true]
  | false=>simp only[cond_false,ih,f0v,and_false,false_or]
section
variable (T:Tr TI) (π:List Nat) (nt:Nat) (ops:Array Oper)
def jc1 (i:Nat):Oper:=ops.getD i default
def dD (i:Nat):Option Nat:=(jc1 ops i).dst
def rD (i:Nat):List Nat:=joz (jc1 ops i).op.operands.toList
def rM:Nat->List Nat
 | 0=>[]
 | i+1=>((jw1 (rM i) i (jc1 ops i).after.toList 0).getD 0)::rM i
def mM (i:Nat):Nat:=(jw1 (rM ops i) i (jc1 ops i).after.toList 0).getD 0
theorem qpb:∀ i,rM ops i=jal (mM ops) i
 | 0=>rfl
 | i+1=>by
  show mM ops i::rM ops i=mM ops i::jal (mM ops) i
  rw[qpb i]
def pO (i:Nat):IOper:=(j4s T π nt (jal (dD ops) i) i (jc1 ops i)).getD (.mk none (.a .bad) none)
def aO (i:Nat):Bool:=jth (pO T π nt ops i)
def j45:Nat->Nat
 | 0=>0
 | i+1=>bif aO T π nt ops i then Nat.lor (j45 i) (Nat.shiftLeft 1 i) else j45 i
def unO (i:Nat):Nat:=Nat.xor (j45 T π nt ops i) (Nat.land (j45 T π nt ops i) (mM ops i))
theorem jxf:∀ i j,tb (j45 T π nt ops i) j=(decide (j<i)&&aO T π nt ops j)
 | 0,j=>by simp[j45,jtv]
 | i+1,j=>by
  have ih:=jxf i j
  simp only[j45]
  cases ha:aO T π nt ops i with
  | true =>
   simp only[cond_true,j68,qe6,ih]
   by_cases e:i=j
   .subst e;simp[ha]
   .have h1:(i == j)=false:=by simpa using e
    have h2:decide (j<i+1)=decide (j<i):=by rw[decide_eq_decide];omega
    rw[h1,h2,Bool.or_false]
  | false =>
   simp only[cond_false,ih]
   by_cases e:i=j
   .subst e;simp[ha]
   .have h2:decide (j<i+1)=decide (j<i):=by rw[decide_eq_decide];omega
    rw[h2]
theorem jks (i j:Nat):tb (unO T π nt ops i) j=(decide (j<i)&&aO T π nt ops j && !tb (mM ops i) j):=by
 unfold unO
 rw[qh2,jxf]
structure OpF (i:Nat):Prop where
 oper:j4s T π nt (jal (dD ops) i) i (jc1 ops i)=some (pO T π nt ops i)
 msk:jw1 (jal (mM ops) i) i (jc1 ops i).after.toList 0=some (mM ops i)
 reads:jh5 (jal (dD ops) i) i (mM ops i) (jc1 ops i).op.operands.toList=true
 grd:jzg (mM ops i) (jc1 ops i).guard=true
 fresh:jw2 (jal (dD ops) i) (dD ops i)=true
 wr:qhr (jal (rD ops) i) (mM ops i) (dD ops i)=true
theorem jpn:∀ (r:List Oper) (n:Nat) (l:List (IOper×Bool×Nat)),(∀ k o,r[k]?=some o->jc1 ops (n+k)=o) ->
 qo4 T π nt (jal (dD ops) n) (jal (rD ops) n) (jal (mM ops) n) (j45 T π nt ops n) n r=some l ->
 l.length=r.length/\∀ k,k<r.length->OpF T π nt ops (n+k)/\l[k]?=some (pO T π nt ops (n+k),aO T π nt ops (n+k),unO T π nt ops (n+k))
 | [],n,l,hr,h=>by cases h;simp
 | o::r,n,l,hr,h=>by
  have ho:jc1 ops n=o:=hr 0 o rfl
  subst ho
  simp only[qo4] at h
  split at h
  .rename_i ip m hip hm
   have e1:pO T π nt ops n=ip:=by unfold pO;rw[hip];rfl
   have e2:mM ops n=m:=by unfold mM;rw[qpb,hm];rfl
   subst e1 e2
   cases hb:(jh5 (jal (dD ops) n) n (mM ops n) (jc1 ops n).op.operands.toList&&(jzg (mM ops n) (jc1 ops n).guard&&(jw2 (jal (dD ops) n) (jc1 ops n).dst&&qhr (jal (rD ops) n) (mM ops n) (jc1 ops n).dst))) with
   | false=>rw[hb] at h;cases h
   | true =>
    rw[hb] at h
    simp only[cond_true] at h
    simp only[f0y] at hb
    obtain⟨b1,b2,b3,b4⟩:=hb
    split at h
    .rename_i l' hl'
     cases h
     obtain⟨i1,i2⟩:=jpn r (n+1) l' (fun k o hk=>by have:=hr (k+1) o (by simpa using hk);rw[←this];congr 1;omega) hl'
     refine⟨by simp[i1],fun k hk=>?_⟩
     cases k with
     | zero=>exact⟨⟨hip,hm,b1,b2,b3,b4⟩,rfl⟩
     | succ k =>
      have:=i2 k (by simpa using hk)
      rw[show n+1+k=n+(k+1) by omega] at this
      exact⟨this.1,by simpa using this.2⟩
    .cases h
  .cases h
def jfl:List (IOper×Bool×Nat)->Bool
 | []=>false
 | (_,act,un)::r=>jfl r||(act && !(Nat.beq un 0))
theorem jxg:∀ (l:List (IOper×Bool×Nat)) (k:Nat),(qhs k l).2=jfl l/\(qhs k l).1.length=l.length /\
 ∀ i op act un,l[i]?=some (op,act,un)->(qhs k l).1[i]?=some (op,bif act&&jfl (l.drop i) then some (jh6 un (k+i) 0) else none)
 | [],k=>by simp[qhs,jfl]
 | (op,act,un)::r,k=>by
  obtain⟨i1,i2,i3⟩:=jxg r (k+1)
  simp only[qhs]
  refine⟨by rw[i1];rfl,by simp[i2],fun i op' act' un' h=>?_⟩
  cases i with
  | zero =>
   simp only[f1a,Option.some.injEq,Prod.mk.injEq] at h
   obtain⟨rfl,rfl,rfl⟩:=h
   simp only[f1a,f11,jfl,f1i,i1]
  | succ i =>
   simp only[f2t] at h ⊢
   rw[i3 i op' act' un' h]
   simp only[List.drop_succ_cons]
   rw[show k+1+i=k+(i+1) by omega]
theorem jnp:∀ (l:List (IOper×Bool×Nat)),jfl l=true↔∃ (i:Nat) (op:IOper) (un:Nat),l[i]?=some (op,true,un)/\un≠0
 | []=>by simp[jfl]
 | (op,act,un)::r=>by
  simp only[jfl,f2v,jnp r,f0y,f18]
  constructor
  .rintro (⟨i,op',un',h1,h2⟩ | ⟨rfl,h⟩)
   .exact ⟨i+1,op',un',by simpa using h1,h2⟩
   .exact ⟨0,op,un,rfl,fun e=>by subst e;simp at h⟩
  .rintro ⟨i,op',un',h1,h2⟩
   cases i with
   | zero =>
    simp only[f1a,Option.some.injEq,Prod.mk.injEq] at h1
    obtain⟨rfl,rfl,rfl⟩:=h1
    exact .inr ⟨rfl,by cases h:Nat.beq un 0 with
                       | false=>rfl
                       | true=>exact absurd (f0i h) h2⟩
   | succ i=>exact .inl ⟨i,op',un',by simpa using h1,h2⟩
def md (i:Nat):Option (List Nat) :=
 open Classical in if aO T π nt ops i = true ∧ ∃ j, i ≤ j ∧ j < ops.size ∧ aO T π nt ops j = true ∧ unO T π nt ops j ≠ 0 then some (jh6 (unO T π nt ops i) i 0) else none
theorem j46 {l:List (IOper×Option (List Nat))} (h:j6n T π nt ops.toList=some l) :
 l.length=ops.size/\∀ i,i<ops.size->OpF T π nt ops i/\l[i]?=some (pO T π nt ops i,md T π nt ops i):=by
 unfold j6n at h
 split at h
 .rename_i l1 h1
  cases h
  obtain⟨a1,a2⟩:=jpn T π nt ops ops.toList 0 l1 (fun k o hk=>by
   rw[f02] at hk
   simp[jc1,f0n,hk]) h1
  obtain⟨_,b2,b3⟩:=jxg l1 0
  refine⟨by rw[b2,a1];simp,fun i hi=>?_⟩
  have:=a2 i (by simpa using hi)
  rw[f0z] at this
  refine⟨this.1,?_⟩
  rw[b3 i _ _ _ this.2]
  congr 2
  rw[f0z]
  unfold md
  have hbad:jfl (l1.drop i)=true↔∃ j,i<=j/\j<ops.size/\aO T π nt ops j=true/\unO T π nt ops j≠0:=by
   rw[jnp]
   constructor
   .rintro ⟨k,op,un,h2,h3⟩
    rw[f1f] at h2
    have hk:i+k<ops.toList.length:=by
     have:=(f0x.1 h2).1
     rw[a1] at this
     exact this
    have h4:=(a2 (i+k) hk).2
    rw[f0z] at h4
    rw[h4] at h2
    simp only[Option.some.injEq,Prod.mk.injEq] at h2
    exact⟨i+k,by omega,by simpa using hk,h2.2.1,by rw[h2.2.2];exact h3⟩
   .rintro ⟨j,h2,h3,h4,h5⟩
    have h6:=(a2 j (by simpa using h3)).2
    rw[f0z,h4] at h6
    exact⟨j - i,_,_,by rw[f1f,show i+(j - i)=j by omega];exact h6,h5⟩
  by_cases hc:aO T π nt ops i=true/\∃ j,i<=j/\j<ops.size/\aO T π nt ops j=true/\unO T π nt ops j≠0
  .rw [if_pos hc,hc.1,hbad.2 hc.2];rfl
  .rw [if_neg hc]
   cases ha:aO T π nt ops i with
   | false=>rfl
   | true =>
    have:jfl (l1.drop i)=false:=by
     cases hb:jfl (l1.drop i) with
     | false=>rfl
     | true=>exact absurd ⟨ha,hbad.1 hb⟩ hc
    rw[this];rfl
 .cases h
end
theorem jcq {α:Type} {f g:Nat->α}:∀ i,(∀ j,j<i->f j=g j)->jal f i=jal g i
 | 0,_=>rfl
 | i+1,h=>by simp only[jal];rw[h i (by omega),jcq i (fun j hj=>h j (by omega))]
theorem jsn {cl:FuncId->List AV->Hp->R}:∀ (l:List (IOper×Option (List Nat))) (n:Nat) (V0:Nat->AV) (H0:Nat->Hp) (E0:Nat->Ent) (F0:Nat->List AV) (s:St),jzd cl l (jal V0 n) (jal E0 n) (F0 n) (H0 n)=some s ->
 ∃ (V:Nat->AV) (H:Nat->Hp) (E:Nat->Ent) (F:Nat->List AV),(∀ j,j<n->V j=V0 j/\E j=E0 j)/\(∀ j,j<=n->H j=H0 j/\F j=F0 j) /\
  (∀ (k:Nat) (dst:Option Nat) (op:IOp) (g:Option (Nat×Bool)) (m:Option (List Nat)),l[k]?=some (.mk dst op g,m)->jy9 cl (jal V (n+k)) (F (n+k)) (jal E (n+k)) (H (n+k)) op g m=some (.mk (V (n+k)) (H (n+k+1)) (E (n+k)))/\F (n+k+1)=jcn (F (n+k)) dst (V (n+k))) /\
  s=.mk (F (n+l.length)) (H (n+l.length))
 | [],n,V0,H0,E0,F0,s,h=>⟨V0,H0,E0,F0,fun _ _=>⟨rfl,rfl⟩,fun _ _=>⟨rfl,rfl⟩,fun k dst op g m hk=>by simp at hk,(Option.some.inj (show some (St.mk (F0 n) (H0 n))=some s from h)).symm⟩
 | (.mk dst op g,m)::l,n,V0,H0,E0,F0,s,h=>by
  obtain⟨d,hd,h1⟩:=jaa.1 (show ob (jy9 cl (jal V0 n) (F0 n) (jal E0 n) (H0 n) op g m) (fun p=>DR.casesOn (motive:=fun _=>Option St) p (fun v h' e=>jzd cl l (v::jal V0 n) (e::jal E0 n) (jcn (F0 n) dst v) h'))=some s from h)
  cases d with
  | mk v h' e =>
  have e1:jal (fun j=>if j=n then v else V0 j) (n+1)=v::jal V0 n:=by
   simp only[jal,if_true]
   rw[jcq n (fun j hj=>by rw[if_neg (by omega)])]
  have e2:jal (fun j=>if j=n then e else E0 j) (n+1)=e::jal E0 n:=by
   simp only[jal,if_true]
   rw[jcq n (fun j hj=>by rw[if_neg (by omega)])]
  obtain⟨V,H,E,F,p1,p2,p3,p4⟩:=jsn l (n+1) (fun j=>if j=n then v else V0 j) (fun j=>if j=n+1 then h' else H0 j) (fun j=>if j=n then e else E0 j) (fun j=>if j=n+1 then jcn (F0 n) dst v else F0 j) s (by
   rw[e1,e2]
   simp only[if_true]
   exact h1)
  refine⟨V,H,E,F,fun j hj=>?_,fun j hj=>?_,fun k dst' op' g' m' hk=>?_,?_⟩
  .obtain ⟨q1,q2⟩:=p1 j (by omega)
   rw[q1,q2,if_neg (by omega),if_neg (by omega)]
   exact⟨rfl,rfl⟩
  .obtain ⟨q1,q2⟩:=p2 j (by omega)
   rw[q1,q2,if_neg (by omega),if_neg (by omega)]
   exact⟨rfl,rfl⟩
  .cases k with
   | zero =>
    simp only[f1a,Option.some.injEq,Prod.mk.injEq,IOper.mk.injEq] at hk
    obtain⟨⟨rfl,rfl,rfl⟩,rfl⟩:=hk
    have r1:=(p1 n (by omega)).1
    have r2:=(p1 n (by omega)).2
    have r3:=(p2 (n+1) (by omega)).1
    have r4:=(p2 (n+1) (by omega)).2
    have r5:=(p2 n (by omega)).1
    have r6:=(p2 n (by omega)).2
    simp only[if_true] at r1 r2 r3 r4
    rw[if_neg (by omega)] at r5 r6
    have r7:jal V n=jal V0 n:=jcq n (fun j hj=>by rw[(p1 j (by omega)).1,if_neg (by omega)])
    have r8:jal E n=jal E0 n:=jcq n (fun j hj=>by rw[(p1 j (by omega)).2,if_neg (by omega)])
    simp only[f1i]
    rw[r1,r2,r3,r4,r5,r6,r7,r8]
    exact⟨hd,rfl⟩
   | succ k =>
    have:=p3 k dst' op' g' m' (by simpa using hk)
    rw[show n+1+k=n+(k+1) by omega] at this
    exact this
  .rw [p4]
   simp only[f00]
   rw[show n+1+l.length=n+(l.length+1) by omega]
def j47:Ent->List (Nat×Nat)
 | .mk iv _=>iv
def qpc:Ent->Option (List Nat)
 | .mk _ fp=>fp
theorem j69 (l r:List (Nat×Nat)) (n:Nat):jao (jgp l r) n=(jao l n||jao r n):=by
 induction l with
 | nil=>rw[jc8];simp[jao]
 | cons p l ih =>
  have h1:∀ q:List (Nat×Nat),jao (p::q) n=oif (Nat.ble p.1 n) (oif (Nat.ble (Nat.succ n) p.2) true (jao q n)) (jao q n):=fun _=>rfl
  have h2:jgp (p::l) r=p::jgp l r:=rfl
  rw[h2,h1,h1,ih]
  simp only[jap]
  cases Nat.ble p.1 n<;>cases Nat.ble (Nat.succ n) p.2<;>simp
theorem jb7 (p:Nat×Nat) (q:List (Nat×Nat)) (n:Nat):jao (p::q) n=true↔(p.1<=n/\n<p.2)∨jao q n=true:=by
 have h1:jao (p::q) n=oif (Nat.ble p.1 n) (oif (Nat.ble (Nat.succ n) p.2) true (jao q n)) (jao q n):=rfl
 rw[h1]
 simp only[jap,jtj]
 by_cases h2:p.1<=n<;>by_cases h3:Nat.succ n<=p.2<;>simp[h2,h3]<;>omega
theorem jd4 (n:Nat):jao [] n=false:=rfl
theorem jgb {es:List Ent} {hid:List (Nat×Nat)}:∀ {js:List Nat} {r:List (Nat×Nat)},sel es js hid=some r ->
 ∀ n,jao r n=true↔jao hid n=true∨∃ j∈js,∃ e,es[j]?=some e/\jao (j47 e) n=true
 | [],r,h,n=>by cases h;simp
 | j::js,r,h,n=>by
  obtain⟨e,he,h1⟩:=jaa.1 (show ob (jec es j) (fun e=>ob (sel es js hid) (fun l=>Ent.casesOn (motive:=fun _=>Option (List (Nat×Nat))) e (fun iv _=>some (jgp iv l))))=some r from h)
  obtain⟨l,hl,h2⟩:=jaa.1 h1
  rw[jcl] at he
  cases e with
  | mk iv fp =>
   cases h2
   rw[j69,f2v,jgb hl n]
   constructor
   .rintro (h3 | h3 | ⟨j',h3,e',h4,h5⟩)
    .exact .inr ⟨j,by simp,_,he,h3⟩
    .exact .inl h3
    .exact .inr ⟨j',by simp[h3],e',h4,h5⟩
   .rintro (h3 | ⟨j',h3,e',h4,h5⟩)
    .exact .inr (.inl h3)
    .rcases f0j.1 h3 with rfl | h3
     .rw [he] at h4;cases h4;exact .inl h5
     .exact .inr (.inr ⟨j',h3,e',h4,h5⟩)
theorem jso:∀ {l:List Nat},j6j b l=true->b∉l
 | [],_=>by simp
 | n::l,h=>by
  have h':oif (Nat.beq n b) false (j6j b l)=true:=h
  rw[jap] at h'
  split at h'
  .cases h'
  .rename_i h1
   rw[jgt] at h1
   simp only[f0j,not_or]
   exact⟨fun e=>h1 e.symm,jso h'⟩
theorem jpo {es:List Ent}:∀ {js:List Nat},jka es js b=true->∀ j∈js,∃ e ns,es[j]?=some e/\qpc e=some ns/\b∉ns
 | [],_,j,hj=>by simp at hj
 | j::js,h,j',hj=>by
  have h':(Option.rec (motive:=fun _=>Bool) false (fun e=>Ent.casesOn (motive:=fun _=>Bool) e (fun _ fp=>Option.rec (motive:=fun _=>Bool) false (fun ns=>oif (j6j b ns) (jka es js b) false) fp)) (jec es j))=true:=h
  cases he:jec es j with
  | none=>rw[he] at h';cases h'
  | some e =>
   rw[he] at h'
   cases e with
   | mk iv fp =>
    cases fp with
    | none=>cases h'
    | some ns =>
     have h2:oif (j6j b ns) (jka es js b) false=true:=h'
     rw[jap] at h2
     split at h2
     .rename_i h3
      rw[jcl] at he
      rcases f0j.1 hj with rfl | hj
      .exact ⟨_,ns,he,rfl,jso h3⟩
      .exact jpo h2 j' hj
     .cases h2
section
variable {st fr:List AV} {h h':Hp} {cl:FuncId->List AV->Hp->R}
theorem j2l {op:IOp} {x:Nat} (hc:jcj st fr op=.load x):∃ n agg y off,op=.a (.load n agg y)/\ev st fr y=some (.s (.ptr x off)):=by
 cases op with
 | p po=>cases hc
 | a ao =>
  cases ao with
  | load n agg y =>
   have hc':jtg (ob (ev st fr y) (fun v=>jev v (fun b _=>some (Cls.load b)) (fun _=>some .quiet))) (fun c=>c)=.load x:=hc
   cases he:ob (ev st fr y) (fun v=>jev v (fun b _=>some (Cls.load b)) (fun _=>some .quiet)) with
   | none=>rw[he] at hc';cases hc'
   | some b =>
    rw[he] at hc'
    obtain⟨v,hv,h2⟩:=jaa.1 he
    rcases jb6 h2 with⟨b,off,rfl,h3⟩ | ⟨cs,rfl,h3⟩
    .cases h3
     cases hc'
     exact⟨n,agg,y,off,rfl,hv⟩
    .cases h3
     cases hc'
  | app e size bytes y z =>
   have hc':jtg (ob (ev st fr y) (fun v=>jhv v none (fun b _ _ _ _ _=>some b))) .app=.load x:=hc
   cases he:ob (ev st fr y) (fun v=>jhv v none (fun b _ _ _ _ _=>some b))<;>rw[he] at hc'<;>cases hc'
  | store n y z =>
   have hc':jtg (ob (ev st fr y) (fun v=>jws v (fun b _=>some b))) .app=.load x:=hc
   cases he:ob (ev st fr y) (fun v=>jws v (fun b _=>some b))<;>rw[he] at hc'<;>cases hc'
  | _=>cases hc
theorem j2m {agg:Bool} {y:Od} {off:Nat} (hy:ev st fr y=some (.s (.ptr b off))) (hv:iop cl st fr h (.a (.load n agg y))=some (v,h')) :
 h'=h/\(h.get b).isSome=true/\∀ h2:Hp,h2.get b=h.get b->iop cl st fr h2 (.a (.load n agg y))=some (v,h2):=by
 obtain⟨u,hu,h1⟩:=jaa.1 (show jj8 st fr h n agg y=some (v,h') from hv)
 rw[hy] at hu
 cases hu
 obtain⟨cs,hcs,h3⟩:=jaa.1 (show ob (rd h b off n) (fun cs=>ob (jfg agg cs) (fun v=>ok v h))=some (v,h') from h1)
 obtain⟨v',hv',h4⟩:=jaa.1 h3
 cases h4
 obtain⟨cs0,ty,hg,_,_⟩:=jo3 hcs
 refine⟨rfl,by rw[hg];rfl,fun h2 e=>?_⟩
 have:rd h2 b off n=some cs:=by
  have h5:rd h2 b off n=ob (h2.get b) (fun x=>AB.casesOn (motive:=fun _=>Option (List SV)) x (fun cs _=>jbp n (jb4 off cs)) (fun _ _=>none)):=rfl
  have h6:rd h b off n=ob (h.get b) (fun x=>AB.casesOn (motive:=fun _=>Option (List SV)) x (fun cs _=>jbp n (jb4 off cs)) (fun _ _=>none)):=rfl
  rw[h5,e,←h6,hcs]
 show jj8 st fr h2 n agg y=_
 unfold jj8
 rw[hy]
 show ob (rd h2 b off n) (fun cs=>ob (jfg agg cs) (fun v=>ok v h2))=_
 rw[this]
 show ob (jfg agg cs) (fun v=>ok v h2)=_
 rw[hv']
 rfl
theorem j7a {ao:AO} (hc:jcj st fr (.a ao)=.fresh) (hv:iop cl st fr h (.a ao)=some (v,h')) :
 ∃ (cs:List SV) (ty:TypeId) (g:Nat->AV),∀ h2,iop cl st fr h2 (.a ao)=nw h2 cs ty (fun n h=>ok (g n) h):=by
 cases ao with
 | new e z=>exact⟨z,e,fun n=>.s (.ptr n 0),fun _=>rfl⟩
 | box e x =>
  obtain⟨u,hu,hv1⟩:=jaa.1 (show ob (ev st fr x) (fun v=>cel v (fun cs=>nw h cs e (fun n h=>ok (.s (.ptr n 0)) h)))=some (v,h') from hv)
  have key:∀ h2,iop cl st fr h2 (.a (.box e x))=cel u (fun cs=>nw h2 cs e (fun n h=>ok (.s (.ptr n 0)) h)):=by
   intro h2
   show ob (ev st fr x) (fun v=>cel v (fun cs=>nw h2 cs e (fun n h=>ok (.s (.ptr n 0)) h)))=_
   rw[hu];rfl
  cases u with
  | s x=>exact⟨[x],e,fun n=>.s (.ptr n 0),key⟩
  | agg l=>exact⟨l,e,fun n=>.s (.ptr n 0),key⟩
  | _=>cases hv1
 | bslice e size z len ps =>
  obtain⟨u,hu,hv1⟩:=jaa.1 (show ob (fill st fr ps z) (fun cs=>nw h cs e (fun n h=>ok (.s (.slice n 0 len len true size)) h))=some (v,h') from hv)
  refine⟨u,e,fun n=>.s (.slice n 0 len len true size),fun h2=>?_⟩
  show ob (fill st fr ps z) (fun cs=>nw h2 cs e (fun n h=>ok (.s (.slice n 0 len len true size)) h))=_
  rw[hu];rfl
 | mkslice e size bytes z l c =>
  obtain⟨u,hu,hv1⟩:=jaa.1 (show jgr st fr h e size bytes z l c=some (v,h') from hv)
  obtain⟨u',hu',hv2⟩:=jaa.1 hv1
  obtain⟨m,rfl,hv3⟩:=jfi hv2
  obtain⟨n,rfl,hv4⟩:=jfi hv3
  obtain⟨h1,hv5⟩:=jab.1 hv4
  obtain⟨h2,hv6⟩:=jab.1 hv5
  obtain⟨h3,hv7⟩:=jab.1 hv6
  refine⟨rep z n,e,fun b=>.s (.slice b 0 m n true size),fun h2'=>?_⟩
  show jgr st fr h2' e size bytes z l c=_
  unfold jgr
  rw[hu]
  show ob (ev st fr c) _=_
  rw[hu']
  show oif (Nat.ble m n) (oif (Nat.ble (Nat.mul bytes n) 1000000000) (oif (Nat.ble n 1000000000) _ none) none) none=_
  rw[h1,h2,h3]
  rfl
 | load n agg y =>
  have hc':jtg (ob (ev st fr y) (fun v=>jev v (fun b _=>some (Cls.load b)) (fun _=>some .quiet))) (fun c=>c)=.fresh:=hc
  cases he:ob (ev st fr y) (fun v=>jev v (fun b _=>some (Cls.load b)) (fun _=>some .quiet)) with
  | none=>rw[he] at hc';cases hc'
  | some c =>
   rw[he] at hc'
   obtain⟨v,hv,h2⟩:=jaa.1 he
   rcases jb6 h2 with⟨b,off,rfl,h3⟩ | ⟨cs,rfl,h3⟩<;>cases h3<;>cases hc'
 | app e size bytes y z =>
  have hc':jtg (ob (ev st fr y) (fun v=>jhv v none (fun b _ _ _ _ _=>some b))) .app=.fresh:=hc
  cases he:ob (ev st fr y) (fun v=>jhv v none (fun b _ _ _ _ _=>some b))<;>rw[he] at hc'<;>cases hc'
 | store n y z =>
  have hc':jtg (ob (ev st fr y) (fun v=>jws v (fun b _=>some b))) .app=.fresh:=hc
  cases he:ob (ev st fr y) (fun v=>jws v (fun b _=>some b))<;>rw[he] at hc'<;>cases hc'
 | _=>cases hc
theorem jxh {op:IOp} (hc:jcj st fr op=.quiet) (hv:iop cl st fr h op=some (v,h')):h'=h/\∀ h2,iop cl st fr h2 op=some (v,h2):=by
 cases op with
 | p po=>cases hc
 | a ao =>
  cases ao with
  | load n agg y =>
   have hc':jtg (ob (ev st fr y) (fun v=>jev v (fun b _=>some (Cls.load b)) (fun _=>some .quiet))) (fun c=>c)=.quiet:=hc
   cases he:ob (ev st fr y) (fun v=>jev v (fun b _=>some (Cls.load b)) (fun _=>some .quiet)) with
   | none=>rw[he] at hc';cases hc'
   | some c =>
    rw[he] at hc'
    obtain⟨u,hu,h2⟩:=jaa.1 he
    rcases jb6 h2 with⟨b,off,rfl,h3⟩ | ⟨cs,rfl,h3⟩
    .cases h3;cases hc'
    .obtain ⟨u',hu',h4⟩:=jaa.1 (show jj8 st fr h n agg y=some (v,h') from hv)
     rw[hu] at hu'
     cases hu'
     obtain⟨cs',h5,h6⟩:=jaa.1 (show ob (jbp n cs) (fun cs=>ob (jfg agg cs) (fun v=>ok v h))=some (v,h') from h4)
     obtain⟨v',h7,h8⟩:=jaa.1 h6
     cases h8
     refine⟨rfl,fun h2=>?_⟩
     show jj8 st fr h2 n agg y=_
     unfold jj8
     rw[hu]
     show ob (jbp n cs) (fun cs=>ob (jfg agg cs) (fun v=>ok v h2))=_
     rw[h5]
     show ob (jfg agg cs') (fun v=>ok v h2)=_
     rw[h7]
     rfl
  | boxc e x =>
   obtain⟨u,hu,hv1⟩:=jaa.1 (show jnc st fr h e x=some (v,h') from hv)
   have key:∀ h2,iop cl st fr h2 (.a (.boxc e x))=cel u (fun cs=>oif (Nat.beq (jb2 cs) e) (oif (jy8 cs) (ok (.s (.cp cs)) h2) none) none):=fun h2=>by
    show jnc st fr h2 e x=_
    unfold jnc
    rw[hu];rfl
   cases u with
   | s y =>
    obtain⟨h0,hv2⟩:=jab.1 (show oif (Nat.beq (jb2 [y]) e) (oif (jy8 [y]) (ok (.s (.cp [y])) h) none) none=some (v,h') from hv1)
    obtain⟨h1,hv3⟩:=jab.1 hv2
    cases hv3
    exact⟨rfl,fun h2=>(key h2).trans (jab.2 ⟨h0,jab.2 ⟨h1,rfl⟩⟩)⟩
   | agg l =>
    obtain⟨h0,hv2⟩:=jab.1 (show oif (Nat.beq (jb2 l) e) (oif (jy8 l) (ok (.s (.cp l)) h) none) none=some (v,h') from hv1)
    obtain⟨h1,hv3⟩:=jab.1 hv2
    cases hv3
    exact⟨rfl,fun h2=>(key h2).trans (jab.2 ⟨h0,jab.2 ⟨h1,rfl⟩⟩)⟩
   | _=>cases hv1
  | app e size bytes y z =>
   have hc':jtg (ob (ev st fr y) (fun v=>jhv v none (fun b _ _ _ _ _=>some b))) .app=.quiet:=hc
   cases he:ob (ev st fr y) (fun v=>jhv v none (fun b _ _ _ _ _=>some b))<;>rw[he] at hc'<;>cases hc'
  | store n y z =>
   have hc':jtg (ob (ev st fr y) (fun v=>jws v (fun b _=>some b))) .app=.quiet:=hc
   cases he:ob (ev st fr y) (fun v=>jws v (fun b _=>some b))<;>rw[he] at hc'<;>cases hc'
  | _=>cases hc
inductive HeadR (cl:FuncId->List AV->Hp->R) (st fr:List AV) (es:List Ent) (h:Hp) (op:IOp) (js:List Nat) (hid':List (Nat×Nat)) (v:AV):Hp->Ent->Prop where
 | fresh (h1:Hp):jcj st fr op=.fresh->iop cl st fr (.mk h.next h.tr h.next hid') op=some (v,h1)->HeadR cl st fr es h op js hid' v h1 (.mk [(h.next,h1.next)] (some []))
 | load (x:Nat) (h1:Hp):jcj st fr op=.load x->iop cl st fr (.mk h.next h.tr h.next hid') op=some (v,h1)->HeadR cl st fr es h op js hid' v h1 (.mk [] (some [x]))
 | app (b:Nat) (h1:Hp):jcj st fr op=.app b->jka es js b=true->h.lo<=b->((Hp.mk h.next h.tr h.lo hid').get b).isSome=true->iop cl st fr (.mk h.next h.tr h.lo hid') op=some (v,h1)->HeadR cl st fr es h op js hid' v h1 (.mk [(b,b+1),(h.next,h1.next)] none)
 | quiet (h1:Hp):jcj st fr op=.quiet->iop cl st fr (.mk h.next h.tr h.next hid') op=some (v,h1)->HeadR cl st fr es h op js hid' v h1 (.mk [] (some []))
 | other (h1:Hp):jcj st fr op=.other->iop cl st fr (.mk h.next h.tr h.next hid') op=some (v,h1)->HeadR cl st fr es h op js hid' v h1 (.mk [(h.next,h1.next)] none)
theorem jpp {es:List Ent} {op:IOp} {d:DR} (hd:jnd cl st fr es h op js=some d) :
 ∃ hid' v h1 e,sel es js h.hid=some hid'/\HeadR cl st fr es h op js hid' v h1 e/\d=.mk v (.mk h1.next h1.tr h.lo h.hid) e:=by
 cases h with
 | mk n t lo hid =>
 obtain⟨hid',hs,h2⟩:=jaa.1 (show ob (sel es js hid) (fun hid' =>
  Cls.casesOn (motive:=fun _=>Option DR) (jcj st fr op)
   (jnw cl st fr n t lo n hid hid' op (fun n'=>.mk [(n,n')] (some [])))
   (fun x=>jnw cl st fr n t lo n hid hid' op (fun _=>.mk [] (some [x])))
   (fun b=>oif (jka es js b) (oif (Nat.ble lo b) (ob (Hp.get (.mk n t lo hid') b) (fun _=>jnw cl st fr n t lo lo hid hid' op (fun n'=>.mk [(b,Nat.succ b),(n,n')] none))) none) none)
   (jnw cl st fr n t lo n hid hid' op (fun _=>.mk [] (some [])))
   (jnw cl st fr n t lo n hid hid' op (fun n'=>.mk [(n,n')] none)))=some d from hd)
 cases hc:jcj st fr op with
 | fresh =>
  rw[hc] at h2
  obtain⟨v,h1,h3,rfl⟩:=jig h2
  exact⟨hid',v,h1,_,hs,.fresh h1 hc h3,rfl⟩
 | load x =>
  rw[hc] at h2
  obtain⟨v,h1,h3,rfl⟩:=jig h2
  exact⟨hid',v,h1,_,hs,.load x h1 hc h3,rfl⟩
 | app b =>
  rw[hc] at h2
  obtain⟨h3,h4⟩:=jab.1 h2
  obtain⟨h5,h6⟩:=jab.1 h4
  obtain⟨x,hx,h7⟩:=jaa.1 h6
  obtain⟨v,h1,h8,rfl⟩:=jig h7
  exact⟨hid',v,h1,_,hs,.app b h1 hc h3 (f0g h5) (by show(Hp.get (.mk n t lo hid') b).isSome=true;rw[hx];rfl) h8,rfl⟩
 | quiet =>
  rw[hc] at h2
  obtain⟨v,h1,h3,rfl⟩:=jig h2
  exact⟨hid',v,h1,_,hs,.quiet h1 hc h3,rfl⟩
 | other =>
  rw[hc] at h2
  obtain⟨v,h1,h3,rfl⟩:=jig h2
  exact⟨hid',v,h1,_,hs,.other h1 hc h3,rfl⟩
end
abbrev Tch (E:Nat->Ent) (i n:Nat):Prop:=jao (j47 (E i)) n=true
structure DCtx (T:Tr TI) (π:List Nat) (nt:Nat) (ops:Array Oper) (cl:FuncId->List AV->Hp->R) (V:Nat->AV) (H:Nat->Hp) (E:Nat->Ent) (F:Nat->List AV):Prop where
 opf:∀ i,i<ops.size->OpF T π nt ops i
 run:∀ i,i<ops.size->∃ op g,pO T π nt ops i=.mk (jfx π (dD ops i)) op g/\cOp T π (jal (dD ops) i) (jc1 ops i).op=some op/\joy (jal (dD ops) i) i (jc1 ops i).guard=some g/\jjf nt (dD ops i)=true /\
  jy9 cl (jal V i) (F i) (jal E i) (H i) op g (md T π nt ops i)=some (.mk (V i) (H (i+1)) (E i))/\F (i+1)=jcn (F i) (jfx π (dD ops i)) (V i)
 wf:WF (H 0)
 cla:jkq cl
inductive Kind (T:Tr TI) (π:List Nat) (nt:Nat) (ops:Array Oper) (cl:FuncId->List AV->Hp->R) (V:Nat->AV) (H:Nat->Hp) (E:Nat->Ent) (F:Nat->List AV) (i:Nat) (op:IOp):Bool->Prop where
 | skip:V i=.undef->H (i+1)=H i->E i=.mk [] (some [])->Kind T π nt ops cl V H E F i op false
 | pure (po:PO):op=.p po->pop (jal V i) (F i) po=some (V i)->H (i+1)=H i->E i=.mk [] (some [])->aO T π nt ops i=false->Kind T π nt ops cl V H E F i op true
 | head (js:List Nat) (hid':List (Nat×Nat)) (h1:Hp):md T π nt ops i=some js->sel (jal E i) js (H i).hid=some hid'->HeadR cl (jal V i) (F i) (jal E i) (H i) op js hid' (V i) h1 (E i)->H (i+1)=.mk h1.next h1.tr (H i).lo (H i).hid->Kind T π nt ops cl V H E F i op true
 | tail:md T π nt ops i=none->aO T π nt ops i=true->iop cl (jal V i) (F i) (H i) op=some (V i,H (i+1))->E i=.mk [] (some [])->Kind T π nt ops cl V H E F i op true
section
variable {T:Tr TI} {π:List Nat} {nt:Nat} {ops:Array Oper} {cl:FuncId->List AV->Hp->R} {V:Nat->AV} {H:Nat->Hp} {E:Nat->Ent} {F:Nat->List AV}
theorem DCtx.kind (c:DCtx T π nt ops cl V H E F) (hi:i<ops.size) :
 ∃ op g b,pO T π nt ops i=.mk (jfx π (dD ops i)) op g/\cOp T π (jal (dD ops) i) (jc1 ops i).op=some op/\joy (jal (dD ops) i) i (jc1 ops i).guard=some g/\jjf nt (dD ops i)=true/\j6i (jal V i) g=some b/\Kind T π nt ops cl V H E F i op b/\F (i+1)=jcn (F i) (jfx π (dD ops i)) (V i):=by
 obtain⟨op,g,h1,h2,h3,h4,h5,h6⟩:=c.run i hi
 obtain⟨b,hb,h7⟩:=jaa.1 h5
 refine⟨op,g,b,h1,h2,h3,h4,hb,?_,h6⟩
 have ha:aO T π nt ops i=jth (.mk (jfx π (dD ops i)) op g):=by unfold aO;rw[h1]
 cases b with
 | false =>
  have h8:some (DR.mk .undef (H i) (.mk [] (some [])))=some (.mk (V i) (H (i+1)) (E i)):=h7
  simp only[Option.some.injEq,DR.mk.injEq] at h8
  exact .skip h8.1.symm h8.2.1.symm h8.2.2.symm
 | true =>
  cases hm:md T π nt ops i with
  | none =>
   rw[hm] at h7
   obtain⟨p,hp,h8⟩:=jaa.1 (show ob (iop cl (jal V i) (F i) (H i) op) (fun p=>some (.mk p.1 p.2 (.mk [] (some []))))=some (DR.mk (V i) (H (i+1)) (E i)) from h7)
   obtain⟨v,h'⟩:=p
   simp only[Option.some.injEq,DR.mk.injEq] at h8
   obtain⟨rfl,rfl,h9⟩:=h8
   cases op with
   | p po =>
    obtain⟨v',hv',h10⟩:=jaa.1 (show ob (pop (jal V i) (F i) po) (fun v=>ok v (H i))=some (V i,H (i+1)) from hp)
    have h11:v'=V i/\H i=H (i+1):=by simpa[ok] using h10
    exact .pure po rfl (by rw[←h11.1];exact hv') h11.2.symm h9.symm (by rw[ha];rfl)
   | a ao=>exact .tail hm (by rw[ha];rfl) hp h9.symm
  | some js =>
   rw[hm] at h7
   obtain⟨hid',v,h1',e,h8,h9,h10⟩:=jpp (show jnd cl (jal V i) (F i) (jal E i) (H i) op js=some (.mk (V i) (H (i+1)) (E i)) from h7)
   simp only[DR.mk.injEq] at h10
   obtain⟨rfl,h11,rfl⟩:=h10
   exact .head js hid' h1' hm h8 h9 h11
theorem jn7 {st fr:List AV} {es:List Ent} {h:Hp} {op:IOp} {hid':List (Nat×Nat)} {h1:Hp} {e:Ent} (hr:HeadR cl st fr es h op js hid' v h1 e) (wf:WF h) (hcl:jkq cl) (hsub:∀ n,jao h.hid n=true->jao hid' n=true) :
 WF h1/\h.next<=h1.next/\(∀ n,¬ jao (j47 e) n=true->h1.tr.get n=h.tr.get n) /\
 (∀ n,jao (j47 e) n=true->(h.next<=n/\n<h1.next)∨(h.lo<=n/\n<h.next/\jao hid' n=false/\(h.tr.get n).isSome=true/\jcj st fr op=.app n)) /\
 (∀ n,n<h.next->(h1.tr.get n).isSome=true->(h.tr.get n).isSome=true) /\
 (∀ n,h.next<=n->n<h1.next->jao hid' n=false/\jao h.hid n=false/\jao (j47 e) n=true):=by
 have seen:∀ lo',Abs (jzk (.mk h.next h.tr lo' hid') (jcj st fr op)) (.mk h.next h.tr lo' hid') h1->∀ n,h.next<=n->n<h1.next->jao hid' n=false/\jao h.hid n=false:=by
  intro lo' a n h2 h3
  have h4:=a.seen n h2 h3
  refine⟨h4,?_⟩
  cases h5:jao h.hid n with
  | false=>rfl
  | true=>have h6:=hsub n h5;rw[show jao hid' n=false from h4] at h6;cases h6
 have out:∀ {lo'},Abs (jzk (.mk h.next h.tr lo' hid') (jcj st fr op)) (.mk h.next h.tr lo' hid') h1->∀ n,h1.next<=n->h1.tr.get n=h.tr.get n:=fun a n hn=>by
  rw[a.wf.fresh n hn,wf.fresh n (f01 a.nx hn)]
 have wf':∀ lo',lo'<=h.next->WF (.mk h.next h.tr lo' hid'):=fun lo' hl=>⟨wf.pos,wf.top,hl,wf.fresh⟩
 have new:∀ (iv:List (Nat×Nat)),Abs (jzk (.mk h.next h.tr h.next hid') (jcj st fr op)) (.mk h.next h.tr h.next hid') h1->(∀ n,n<h.next->¬ jzk (.mk h.next h.tr h.next hid') (jcj st fr op) n) ->
  (∀ n,jao iv n=true↔(h.next<=n/\n<h1.next)) ->
  WF h1/\h.next<=h1.next/\(∀ n,¬ jao iv n=true->h1.tr.get n=h.tr.get n) /\
  (∀ n,jao iv n=true->(h.next<=n/\n<h1.next)∨(h.lo<=n/\n<h.next/\jao hid' n=false/\(h.tr.get n).isSome=true/\jcj st fr op=.app n)) /\
  (∀ n,n<h.next->(h1.tr.get n).isSome=true->(h.tr.get n).isSome=true) /\
  (∀ n,h.next<=n->n<h1.next->jao hid' n=false/\jao h.hid n=false/\jao iv n=true):=by
  intro iv a hw hiv
  refine⟨a.wf,a.nx,fun n hn=>?_,fun n hn=>.inl ((hiv n).1 hn),fun n hn hs=>a.live n hn hs,fun n h2 h3=>?_⟩
  .rcases f0h n h.next with h2 | h2
   .exact a.keep n h2 (.inl (hw n h2))
   .rcases f0h n h1.next with h3 | h3
    .exact absurd ((hiv n).2 ⟨h2,h3⟩) hn
    .exact out a n h3
  .obtain ⟨h4,h5⟩:=seen _ a n h2 h3
   exact⟨h4,h5,(hiv n).2 ⟨h2,h3⟩⟩
 cases hr with
 | fresh _ hc hi =>
  have a:=(jew (wf' _ (f0d _)) hcl hi).1
  exact new _ a (fun n hn h=>by rw[hc] at h;exact h) (fun n=>by simp[j47,jb7,jd4])
 | load x _ hc hi =>
  have a:=(jew (wf' _ (f0d _)) hcl hi).1
  obtain⟨n',agg,y,off,rfl,hy⟩:=j2l hc
  obtain⟨rfl,_,_⟩:=j2m hy hi
  exact new _ a (fun n hn h=>by rw[hc] at h;exact h) (fun n=>by
   show jao [] n=true↔h.next<=n/\n<h.next
   simp[jd4])
 | quiet _ hc hi =>
  have a:=(jew (wf' _ (f0d _)) hcl hi).1
  obtain⟨rfl,_⟩:=jxh hc hi
  exact new _ a (fun n hn h=>by rw[hc] at h;exact h) (fun n=>by
   show jao [] n=true↔h.next<=n/\n<h.next
   simp[jd4])
 | other _ hc hi =>
  have a:=(jew (wf' _ (f0d _)) hcl hi).1
  exact new _ a (fun n hn h'=>by rw[hc] at h';exact absurd (show h.next<=n from h') (by omega)) (fun n=>by simp[j47,jb7,jd4])
 | app b _ hc hu hlo hg hi =>
  have a:=(jew (wf' _ wf.lo) hcl hi).1
  obtain⟨g1,g2⟩:=Hp.get_isSome hg
  have hb:b<h.next:=wf.lt g2
  have hiv:∀ n,jao [(b,b+1),(h.next,h1.next)] n=true↔n=b∨(h.next<=n/\n<h1.next):=fun n=>by
   simp only[jb7,jd4,f0v,or_false]
   constructor
   .rintro (h | h)
    .exact .inl (by omega)
    .exact .inr h
   .rintro (h | h)
    .exact .inl (by omega)
    .exact .inr h
  refine⟨a.wf,a.nx,fun n hn=>?_,fun n hn=>?_,fun n hn hs=>a.live n hn hs,fun n h2 h3=>?_⟩
  .have hn':=fun h=>hn ((hiv n).2 h)
   rcases f0h n h.next with h2 | h2
   .exact a.keep n h2 (.inl (fun h=>by rw[hc] at h;exact hn' (.inl h)))
   .rcases f0h n h1.next with h3 | h3
    .exact absurd (.inr ⟨h2,h3⟩) hn'
    .exact out a n h3
  .rcases (hiv n).1 hn with rfl | h2
   .exact .inr ⟨hlo,hb,g1,g2,hc⟩
   .exact .inl h2
  .obtain ⟨h4,h5⟩:=seen _ a n h2 h3
   exact⟨h4,h5,(hiv n).2 (.inr ⟨h2,h3⟩)⟩
structure StepA (H:Nat->Hp) (E:Nat->Ent) (i:Nat) (isT:Prop):Prop where
 wf:WF (H (i+1))
 nx:(H i).next<=(H (i+1)).next
 lo:(H (i+1)).lo=(H i).lo
 hid:(H (i+1)).hid=(H i).hid
 same:¬ isT->∀ n,¬ Tch E i n->(H (i+1)).tr.get n=(H i).tr.get n
 tch:∀ n,Tch E i n->((H i).next<=n/\n<(H (i+1)).next)∨((H i).lo<=n/\n<(H i).next/\jao (H i).hid n=false/\((H i).tr.get n).isSome=true)
 live:∀ n,n<(H i).next->((H (i+1)).tr.get n).isSome=true->((H i).tr.get n).isSome=true
 seen:∀ n,(H i).next<=n->n<(H (i+1)).next->jao (H i).hid n=false/\(¬ isT->Tch E i n)
theorem DCtx.stepA (c:DCtx T π nt ops cl V H E F) (hi:i<ops.size) (wf:WF (H i)):StepA H E i (aO T π nt ops i=true/\md T π nt ops i=none):=by
 obtain⟨op,g,b,h1,h2,h3,h4,hb,hk,h6⟩:=c.kind hi
 have quiet:H (i+1)=H i->E i=.mk [] (some [])->StepA H E i (aO T π nt ops i=true/\md T π nt ops i=none):=by
  intro e1 e2
  refine⟨by rw[e1];exact wf,by rw[e1];exact f0d _,by rw[e1],by rw[e1],fun _ n _=>by rw[e1],fun n hn=>?_,fun n _ hs=>by rwa [e1] at hs,fun n h5 h6=>by rw[e1] at h6;omega⟩
  have hn':jao (j47 (E i)) n=true:=hn
  rw[e2] at hn';cases hn'
 cases hk with
 | skip e1 e2 e3=>exact quiet e2 e3
 | pure po e1 e2 e3 e4 e5=>exact quiet e3 e4
 | head js hid' h1' hm hs hr he =>
  obtain⟨a1,a2,a3,a4,a5,a6⟩:=jn7 hr wf c.cla (fun n hn=>(jgb hs n).2 (.inl hn))
  have hlo:=wf.lo
  have en:(H (i+1)).next=h1'.next:=by rw[he];rfl
  have et:(H (i+1)).tr=h1'.tr:=by rw[he];rfl
  have el:(H (i+1)).lo=(H i).lo:=by rw[he];rfl
  have eh:(H (i+1)).hid=(H i).hid:=by rw[he];rfl
  refine⟨⟨by rw[en];exact a1.pos,by rw[en];exact a1.top,by rw[el,en];exact f01 hlo a2,by rw[en,et];exact a1.fresh⟩,by rw[en];exact a2,el,eh,fun _ n hn=>by rw[et];exact a3 n hn,fun n hn=>?_,by rw[et];exact a5,fun n h5 h6=>by rw[en] at h6;exact⟨(a6 n h5 h6).2.1,fun _=>(a6 n h5 h6).2.2⟩⟩
  rw[en]
  rcases a4 n hn with h | ⟨h5,h7,h8,h9,_⟩
  .exact .inl h
  .refine .inr ⟨h5,h7,?_,h9⟩
   cases h10:jao (H i).hid n with
   | false=>rfl
   | true=>have:=(jgb hs n).2 (.inl h10);rw[h8] at this;cases this
 | tail hm ha hi' he =>
  have a:=(jew wf c.cla hi').2
  refine⟨a.wf,a.nx,a.lo,a.hid,fun h=>absurd ⟨ha,hm⟩ h,fun n hn=>?_,a.live,fun n h5 h6=>⟨a.seen n h5 h6,fun h=>absurd ⟨ha,hm⟩ h⟩⟩
  have hn':jao (j47 (E i)) n=true:=hn
  rw[he] at hn';cases hn'
theorem DCtx.wfs (c:DCtx T π nt ops cl V H E F):∀ i,i<=ops.size->WF (H i)/\(H i).lo=(H 0).lo/\(H i).hid=(H 0).hid
 | 0,_=>⟨c.wf,rfl,rfl⟩
 | i+1,hi=>by
  obtain⟨h1,h2,h3⟩:=DCtx.wfs c i (by omega)
  have s:=c.stepA (show i<ops.size by omega) h1
  exact⟨s.wf,s.lo.trans h2,s.hid.trans h3⟩
theorem DCtx.step (c:DCtx T π nt ops cl V H E F) (hi:i<ops.size):StepA H E i (aO T π nt ops i=true/\md T π nt ops i=none):=c.stepA hi (c.wfs i (by omega)).1
theorem DCtx.mono (c:DCtx T π nt ops cl V H E F):∀ j,i<=j->j<=ops.size->(H i).next<=(H j).next
 | 0,h1,h2=>by obtain rfl:i=0:=by omega
               exact f0d _
 | j+1,h1,h2=>by
  rcases f0h i (j+1) with h3 | h3
  .exact f01 (DCtx.mono c j (by omega) (by omega)) (c.step (show j<ops.size by omega)).nx
  .obtain rfl:i=j+1:=by omega
   exact f0d _
def j2n (T:Tr TI) (π:List Nat) (nt:Nat) (ops:Array Oper) (i:Nat):Prop:=∀ j,j<i->¬ (aO T π nt ops j=true/\md T π nt ops j=none)
theorem DCtx.last (c:DCtx T π nt ops cl V H E F) (n:Nat):∀ i,i<=ops.size->j2n T π nt ops i ->
 ((∀ j,j<i->¬ Tch E j n)/\(H i).tr.get n=(H 0).tr.get n)∨∃ k,k<i/\Tch E k n/\(∀ j,k<j->j<i->¬ Tch E j n)/\(H i).tr.get n=(H (k+1)).tr.get n
 | 0,_,_=>.inl ⟨fun j hj=>by omega,rfl⟩
 | i+1,hi,ht=>by
  have s:=c.step (show i<ops.size by omega)
  by_cases h:Tch E i n
  .exact .inr ⟨i,by omega,h,fun j h1 h2=>by omega,rfl⟩
  .have e:=s.same (ht i (by omega)) n h
   rcases DCtx.last c n i (by omega) (fun j hj=>ht j (by omega)) with⟨h1,h2⟩ | ⟨k,h1,h2,h3,h4⟩
   .refine .inl ⟨fun j hj=>?_,e.trans h2⟩
    rcases f1y.1 hj with h3 | h3
    .exact h1 j h3
    .subst h3;exact h
   .refine .inr ⟨k,by omega,h2,fun j h5 h6=>?_,e.trans h4⟩
    rcases f1y.1 h6 with h7 | h7
    .exact h3 j h5 h7
    .subst h7;exact h
theorem DCtx.live (c:DCtx T π nt ops cl V H E F) (hn:n<(H 0).next):∀ i,i<=ops.size->((H i).tr.get n).isSome=true->((H 0).tr.get n).isSome=true
 | 0,_,h=>h
 | i+1,hi,h=>by
  have s:=c.step (show i<ops.size by omega)
  exact DCtx.live c hn i (by omega) (s.live n (f0m hn (c.mono i (by omega) (by omega))) h)
theorem DCtx.maskDep (c:DCtx T π nt ops cl V H E F) (hi:i<ops.size) (h:tb (mM ops i) j=true) :
 ∃ e∈(jc1 ops i).after.toList,Region.binds .any e=true/\e.on<i/\(j=e.on∨tb (mM ops e.on) j=true):=by
 obtain⟨h1,h2⟩:=jfe (c.opf i hi).msk
 rcases(h2 j).1 h with h3 | ⟨e,h3,h4,h5⟩
 .rw [jtv] at h3;cases h3
 .have hlt:=h1 e h3 h4
  refine⟨e,h3,h4,hlt,?_⟩
  rcases h5 with h5 | ⟨m',h5,h6⟩
  .exact .inl h5
  .rw [jbj (mM ops) hlt] at h5
   cases h5
   exact .inr h6
theorem DCtx.back (c:DCtx T π nt ops cl V H E F) (hi:i<ops.size) {e:Edge} (he:e∈(jc1 ops i).after.toList) (hb:Region.binds .any e=true):e.on<i :=
 (jfe (c.opf i hi).msk).1 e he hb
def jsp (ops:Array Oper) (L:Nat->Prop):Prop:=∀ i,i<ops.size->L i->∀ e∈(jc1 ops i).after.toList,Region.binds .any e=true->L e.on
theorem DCtx.maskIn (c:DCtx T π nt ops cl V H E F) {L:Nat->Prop} (hL:jsp ops L):∀ (i j:Nat),i<ops.size->(∀ e∈(jc1 ops i).after.toList,Region.binds .any e=true->L e.on)->tb (mM ops i) j=true->L j:=by
 intro i
 induction i using Nat.strongRecOn with
 | _ i ih =>
  intro j hi hd h
  obtain⟨e,h1,h2,h3,h4⟩:=c.maskDep hi h
  rcases h4 with rfl | h4
  .exact hd e h1 h2
  .exact ih e.on h3 j (by omega) (hL e.on (by omega) (hd e h1 h2)) h4
theorem DCtx.maskLt (c:DCtx T π nt ops cl V H E F):∀ (i j:Nat),i<ops.size->tb (mM ops i) j=true->j<i:=by
 intro i
 induction i using Nat.strongRecOn with
 | _ i ih =>
  intro j hi h
  obtain⟨e,h1,h2,h3,h4⟩:=c.maskDep hi h
  rcases h4 with rfl | h4
  .exact h3
  .have:=ih e.on h3 j (by omega) h4
   omega
theorem qe7 (hm:md T π nt ops i=some js) (hj:j<i):(i - 1 - j)∈js↔(aO T π nt ops j=true/\tb (mM ops i) j=false):=by
 unfold md at hm
 split at hm
 .cases hm
  rw[jl6]
  constructor
  .rintro ⟨o,h1,h2,h3⟩
   have e:i - 1 - o=j:=by omega
   rw[e,jks] at h3
   simp only[f0y,decide_eq_true_eq,f18] at h3
   exact⟨h3.1.2,h3.2⟩
  .rintro ⟨h1,h2⟩
   refine⟨i - 1 - j,by omega,by omega,?_⟩
   have e:i - 1 - (i - 1 - j)=j:=by omega
   rw[e,jks,h1,h2]
   simp[hj]
 .cases hm
theorem jl7 (hm:md T π nt ops i=some js):aO T π nt ops i=true/\j2n T π nt ops i:=by
 unfold md at hm
 split at hm
 .rename_i hc
  refine⟨hc.1,fun j hj ⟨h1,h2⟩=>?_⟩
  obtain⟨k,h3,h4,h5,h6⟩:=hc.2
  unfold md at h2
  rw[if_pos ⟨h1,k,by omega,h4,h5,h6⟩] at h2
  cases h2
 .cases hm
theorem jl8 (hi:i<ops.size) (ha:aO T π nt ops i=true) (hm:md T π nt ops i=none) :
 (∀ j,j<i->aO T π nt ops j=true->tb (mM ops i) j=true)/\∀ k,i<=k->k<ops.size->aO T π nt ops k=true->md T π nt ops k=none/\∀ j,j<k->aO T π nt ops j=true->tb (mM ops k) j=true:=by
 have hno:∀ k,i<=k->k<ops.size->aO T π nt ops k=true->unO T π nt ops k=0:=by
  intro k h1 h2 h3
  unfold md at hm
  split at hm
  .cases hm
  .rename_i hc
   rcases f2o (unO T π nt ops k) with h | h
   .exact h
   .exact absurd ⟨ha,k,h1,h2,h3,by omega⟩ hc
 have hall:∀ k,i<=k->k<ops.size->aO T π nt ops k=true->∀ j,j<k->aO T π nt ops j=true->tb (mM ops k) j=true:=by
  intro k h1 h2 h3 j hj h4
  have h5:=jks T π nt ops k j
  rw[hno k h1 h2 h3,jtv,h4] at h5
  cases h6:tb (mM ops k) j with
  | true=>rfl
  | false=>rw[h6] at h5;simp[hj] at h5
 refine⟨fun j hj h=>hall i (f0d _) hi ha j hj h,fun k h1 h2 h3=>⟨?_,hall k h1 h2 h3⟩⟩
 unfold md
 rw[if_neg]
 rintro⟨_,j,h4,h5,h6,h7⟩
 exact h7 (hno j (by omega) h5 h6)
end
end
end Go.Proofs.YtdbklpgagdbpiaaDoor.Ev
