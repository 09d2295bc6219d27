/- Each of the interpreter's operations on values does what the model's does. No program in sight. -/
import Derived.Test.YtdbklpgagdbpiaaDoorPure
import Derived.Laws.StructEq
import Derived.ChangeKeysEq
namespace Go.Proofs.YtdbklpgagdbpiaaDoor.Ev
open Go
set_option linter.all false
variable {e ex:Bool} {m n:Int} {fr st:List AV} {l r:List SV} {b hi lo mc sz size:Nat}
section
variable {P:Program} {T:Tr TI} {w:World} {A:Nat->Int} {φ:Phi}
def jkh (A:Nat->Int) (φ:Phi) (π:List Nat) (loc:List (Option Nat)) (st fr:List AV) (os:List Operand) (ρ:Operand->Value):Prop :=
 ∀ x,x∈os->∀ y v,cO π loc x=some y->ev st fr y=some v->cV A φ v (ρ x)
theorem jb0 {c:Callee} {args:Array Operand} {ts:Array TypeId} {x:Operand} (h:x∈args.toList):x∈(Op.call ⟨c,args,ts⟩).operands.toList:=by
 simp only[Op.operands,Call.operands,Array.toList_append,f0e]
 exact .inr h
theorem j4v {f:Operand} {args:Array Operand} {ts:Array TypeId}:f∈(Op.call ⟨.value f,args,ts⟩).operands.toList:=by
 simp[Op.operands,Call.operands]
theorem jki {α β:Type} {f:α->Sem β} {g:α->β}:∀ (l:List α),(∀ x∈l,(f x).run P w=.ok (g x) w)->(l.mapM f).run P w=.ok (l.map g) w
 | [],_=>by simp
 | a::l,h=>by
  have ih:=jki l (fun x hx=>h x (by simp[hx]))
  simp[h a (by simp),ih]
theorem qcm {α β:Type} {f:α->Sem β} {g:α->β} (l:Array α) (h:∀ x∈l.toList,(f x).run P w=.ok (g x) w):(l.mapM f).run P w=.ok (l.map g) w:=by
 obtain⟨l⟩:=l
 simp only[List.mapM_toArray,Sem.run_map,jki l h,Result.andThen_ok,List.map_toArray]
theorem jw4 (off:Nat):∀ (l:List Value) (k:Nat) (arr:Array Value),off+k+l.length<=arr.size ->
 ((l.zipIdx k).foldl (fun a p=>a.setIfInBounds (off+p.2) p.1) arr).toList=arr.toList.take (off+k)++(l++arr.toList.drop (off+k+l.length))
 | [],k,arr,h=>by simp
 | v::l,k,arr,h=>by
  simp only[f00] at h
  rw[List.zipIdx_cons,f23,jw4 off l (k+1) _ (by simp;omega)]
  have e:=list_seg_step arr.toList (off+k) v l (by simp;omega)
  simp only[Array.toList_setIfInBounds,f00]
  have e1:off+(k+1)=off+k+1:=by omega
  rw[e1]
  simpa[f0l] using e
theorem j4w (off:Nat) (cs arr:Array Value) (h:off+cs.size<=arr.size) :
 (cs.zipIdx.foldl (fun a (p:Value×Nat)=>a.setIfInBounds (off+p.2) p.1) arr).toList=arr.toList.take off++(cs.toList++arr.toList.drop (off+cs.size)):=by
 have:=jw4 off cs.toList 0 arr (by simpa using h)
 rw[←Array.foldl_toList,Array.toList_zipIdx]
 simpa using this
theorem jiq {π:List Nat} {loc:List (Option Nat)} {os:List Operand} {ρ:Operand->Value} (hE:jkh A φ π loc st fr os ρ) {place:Nat->Option (Nat×Nat)} :
 ∀ (ps:List (Nat×Operand)) (l:List (Nat×Nat×Od)) (cs cs':List SV) (arr:Array Value),(∀ p,p∈ps->p.2∈os)->jh3 π loc place ps=some l->fill st fr l cs=some cs'->All2 (cS A φ) cs arr.toList ->
  ∃ arr':Array Value,Instr.fill place arr (ps.map fun p=>(p.1,ρ p.2))=some arr'/\All2 (cS A φ) cs' arr'.toList
 | [],l,cs,cs',arr,hm,h,h',ha=>by
  simp[jh3] at h
  subst h
  cases (show some cs=some cs' from h')
  exact⟨arr,rfl,ha⟩
 | (i,o)::ps,l,cs,cs',arr,hm,h,h',ha=>by
  simp only[jh3] at h
  split at h
  .rename_i off n y l' hp ho hl
   cases h
   have h2:ob (ev st fr y) (fun v=>cel v (fun xs=>oif (Nat.beq (jb2 xs) n) (ob (jbv off xs cs) (fill st fr l')) none))=some cs':=h'
   obtain⟨v,hv,h3⟩:=jaa.1 h2
   obtain⟨xs,h4,h5⟩:=(hE _ (hm (i,o) (by simp)) _ _ ho hv).cells h3
   obtain⟨h6,h7⟩:=jab.1 h4
   obtain⟨cs1,h8,h9⟩:=jaa.1 h7
   obtain⟨h10,rfl⟩:=(jf7 _).1 h8
   rw[jgt,ja7] at h6
   have hxl:=h5.len
   have hal:=ha.len
   simp only[f2g] at hxl hal
   have hfc:=j4w off (ρ o).cells arr (by omega)
   obtain⟨arr',h11,h12⟩:=jiq hE ps l' _ cs' _ (fun p hp=>hm p (by simp[hp])) hl h9 (by rw[hfc];exact(ha.take off).append (h5.append (by rw[hxl];exact ha.drop _)))
   refine⟨arr',?_,h12⟩
   simp only[f1k,Instr.fill,hp]
   rw[if_neg (by simp;omega)]
   exact h11
  .cases h
theorem jcm {π:List Nat} {loc:List (Option Nat)} {os:List Operand} {ρ:Operand->Value} (hE:jkh A φ π loc st fr os ρ) {x:Option Operand} (hm:∀ o,x=some o->o∈os) {y:Option Od} {e n:Nat} (h:cOo π loc x=some y) (h':jnv st fr y e=some n) :
 (x=none/\n=e)∨∃ o k,x=some o/\ρ o=.int k (n:Int):=by
 cases x with
 | none =>
  cases (show some none=some y from h)
  exact .inl ⟨rfl,(Option.some.inj (show some e=some n from h')).symm⟩
 | some o =>
  obtain⟨z,hz,rfl⟩:=f0a.1 (show(cO π loc o).map some=some y from h)
  obtain⟨v,hv,h2⟩:=jaa.1 (show ob (ev st fr z) (fun x=>jn3 x (fun _ n=>Int.casesOn (motive:=fun _=>Option Nat) n (fun m=>some m) (fun _=>none)))=some n from h')
  obtain⟨k,i,rfl,h3⟩:=jd3 h2
  cases i with
  | ofNat m=>cases h3;exact .inr ⟨o,k,rfl,hE _ (hm o rfl) _ _ hz hv⟩
  | negSucc m=>cases h3
theorem jkj {t e:TypeId} (hu:P.underlying t=some (.slice e)) (hs:(sizeOf e).run P w=.ok size w) (a:Option Addr) (len cap lo hi:Nat) (x y:Option Value)
 (hx:(x=none/\lo=0)∨∃ k,x=some (.int k (lo:Int))) (hy:(y=none/\hi=len)∨∃ k,y=some (.int k (hi:Int))) (h1:lo<=hi) (h2:hi<=cap) :
 (Instr.sliceAt t (.slice a len cap) x y none).run P w=.ok (.slice (if cap=lo then a else a.map (·.add (lo*size))) (hi - lo) (cap - lo)) w:=by
 have h1':(lo:Int)<=(hi:Int):=by omega
 have h2':(hi:Int)<=(cap:Int):=by omega
 rcases hx with⟨rfl,rfl⟩ | ⟨k,rfl⟩<;>rcases hy with⟨rfl,rfl⟩ | ⟨k',rfl⟩ <;>
  simp[Instr.sliceAt,run_underlying hu,Instr.slice,Instr.sliceBounds,Instr.sliceBound,asIntOf,hs,h1,h2]<;>first | (intros;omega) | skip
theorem jl1 {t e:TypeId} (hu:P.underlying t=some (.slice e)) (hs:(sizeOf e).run P w=.ok size w) (a:Option Addr) (len cap lo hi m:Nat) (x:Option Value) (k' k2:IntKind)
 (hx:(x=none/\lo=0)∨∃ k,x=some (.int k (lo:Int))) (h1:lo<=hi) (h2:hi<=m) (h3:m<=cap) :
 (Instr.sliceAt t (.slice a len cap) x (some (.int k' (hi:Int))) (some (.int k2 (m:Int)))).run P w=.ok (.slice (if m=lo then a else a.map (·.add (lo*size))) (hi - lo) (m - lo)) w:=by
 have h1':(lo:Int)<=(hi:Int):=by omega
 have h2':(hi:Int)<=(m:Int):=by omega
 have h3':(m:Int)<=(cap:Int):=by omega
 rcases hx with⟨rfl,rfl⟩ | ⟨k,rfl⟩ <;>
  simp[Instr.sliceAt,run_underlying hu,Instr.slice,Instr.sliceBounds,Instr.sliceBound,asIntOf,hs,h1,h2,h3]
theorem jb1 (b o n:Nat):(⟨b,o,none⟩:Addr).add n=⟨b,o+n,none⟩:=by
 unfold Addr.add
 split
 .rename_i h;simp[h]
 .rfl
theorem jzi {e:TypeId} {off len:Nat} {t:TypeId} {x:Value} (hx:cS A φ (.slice b off len mc ex sz) x) (hu:P.underlying t=some (.slice e)) (hs:(sizeOf e).run P w=.ok size w)
 {u v:Option Value} (hu':(u=none/\lo=0)∨∃ k,u=some (.int k (lo:Int))) (hv':(v=none/\hi=len)∨∃ k,v=some (.int k (hi:Int))) (h1:hi<=mc) (h2:lo<=hi) (h3:sz=size) :
 ∃ rv,(Instr.sliceAt t x u v none).run P w=.ok rv w/\cS A φ (.slice b (off+lo*size) (hi - lo) (mc - lo) ex sz) rv:=by
 subst h3
 obtain⟨L,ad,cap,k1,rfl,k2,k3,k4,k5⟩:=hx
 refine⟨_,jkj hu hs (some ad) len cap lo hi u v hu' hv' h2 (by omega),?_⟩
 refine⟨L,if cap=lo then ad else ad.add (lo*sz),cap - lo,k1,?_,by omega,by omega,fun h=>by have:=k4 h;omega,?_⟩
 .split<;>rfl
 .by_cases hc:cap=lo
  .exact .inr (by omega)
  .rw [if_neg hc]
   rcases k5 with⟨rfl,k6⟩ | k6
   .refine .inl ⟨by rw[jb1];congr 1;omega,?_⟩
    have:cap*sz=lo*sz+(cap - lo)*sz:=by rw[←f28];congr 1;omega
    omega
   .omega
theorem jw5 {e:TypeId} {off len m:Nat} {t:TypeId} {x:Value} (hx:cS A φ (.slice b off len mc ex sz) x) (hu:P.underlying t=some (.slice e)) (hs:(sizeOf e).run P w=.ok size w)
 {u:Option Value} (hu':(u=none/\lo=0)∨∃ k,u=some (.int k (lo:Int))) (k' k2:IntKind) (h1:m<=mc) (h0:hi<=m) (h2:lo<=hi) (h3:sz=size) :
 ∃ rv,(Instr.sliceAt t x u (some (.int k' (hi:Int))) (some (.int k2 (m:Int)))).run P w=.ok rv w/\cS A φ (.slice b (off+lo*size) (hi - lo) (m - lo) true sz) rv:=by
 subst h3
 obtain⟨L,ad,cap,q1,rfl,q2,q3,q4,q5⟩:=hx
 refine⟨_,jl1 hu hs (some ad) len cap lo hi m u k' k2 hu' h2 h0 (by omega),?_⟩
 refine⟨L,if m=lo then ad else ad.add (lo*sz),m - lo,q1,?_,by omega,by omega,fun h=>by omega,?_⟩
 .split<;>rfl
 .by_cases hc:m=lo
  .exact .inr (by omega)
  .rw [if_neg hc]
   rcases q5 with⟨rfl,q6⟩ | q6
   .refine .inl ⟨by rw[jb1];congr 1;omega,?_⟩
    have:m*sz=lo*sz+(m - lo)*sz:=by rw[←f28];congr 1;omega
    have:m*sz<=cap*sz:=Nat.mul_le_mul_right _ (by omega)
    omega
   .omega
theorem jsd {t:TypeId} {ti:TI} (k:TIok P t ti) (k1:ti1 ti=true) {off:Nat} {cs:List SV} {arr:Array Value} (ha:All2 (cS A φ) cs arr.toList) {xs:List SV} {v:AV}
 (h:jbp ti.size (jb4 off cs)=some xs) (h':jfg ti.agg xs=some v):∃ rv,(part t arr off).run P w=.ok rv w/\cV A φ v rv:=by
 rw[jb8] at h
 obtain⟨h1,rfl⟩:=(ja5 _).1 h
 simp only[List.length_drop] at h1
 have hal:=ha.len
 simp only[f2g] at hal
 rcases jgu h' with⟨e,rfl⟩ | ⟨e,s,hs,rfl⟩
 .refine ⟨.agg (arr.extract off (off+ti.size)),by simp[part,k.run_agg,e,k.run_size],(arr.extract off (off+ti.size)).toList,by rw[Array.toArray_toList],?_⟩
  have:=(ha.drop off).take ti.size
  simpa[Array.toList_extract,List.extract_eq_take_drop] using this
 .have hsz:ti.size=1:=by
   simp only[ti1,e,f29,jgt] at k1;exact k1
  have:(cs.drop off)[0]?=some s:=by
   have:((cs.drop off).take ti.size)[0]?=some s:=by rw[hs];rfl
   rwa [f17 (by omega)] at this
  rw[f1f,f1i] at this
  obtain⟨v,hv,hc⟩:=ha.get _ _ this
  rw[f02] at hv
  exact⟨v,by simp[part,k.run_agg,e,hv],hc⟩
theorem j6t {k:IntKind} (as:Array TypeId) (t:TypeId):(Builtin.max_ as t #[.int k m,.int k n]).run P w=.ok (.int k (oif (ile m n) n m)) w:=by
 have e:(Builtin.max_ as t #[.int k m,.int k n]).run P w=.ok (.int k (if n>m then n else m)) w:=by
  simp[Builtin.max_,Builtin.max2]
 rw[e,jap,jd2]
 congr 2
 by_cases h:m<=n<;>by_cases h':n>m<;>simp[h,h']<;>omega
theorem j6u {k:IntKind} (as:Array TypeId) (t:TypeId):(Builtin.min_ as t #[.int k m,.int k n]).run P w=.ok (.int k (oif (ile m n) m n)) w:=by
 have e:(Builtin.min_ as t #[.int k m,.int k n]).run P w=.ok (.int k (if n<m then n else m)) w:=by
  simp[Builtin.min_,Builtin.min2]
 rw[e,jap,jd2]
 congr 2
 by_cases h:m<=n<;>by_cases h':n<m<;>simp[h,h']<;>omega
end
section
variable {P:Program} {T:Tr TI} {w:World} {A:Nat->Int} {φ:Phi}
theorem jfb {isB:Bool} {a b:SV} {x y:Value} (h:qog isB a b=some e) (hx:cS A φ a x) (hy:cS A φ b y) :
 (isB=true/\∃ p q,x=.bool p/\y=.bool q/\e=(p == q))∨(isB=false/\∃ k m n,x=.int k m/\y=.int k n/\e=(m == n)):=by
 cases isB with
 | true =>
  obtain⟨p,rfl,h1⟩:=jgw (show jnu a (fun x=>jnu b (fun y=>some (oif x y (jhd y))))=some e from h)
  obtain⟨q,rfl,h2⟩:=jgw h1
  cases h2
  exact .inl ⟨rfl,p,q,hx,hy,by cases p<;>cases q<;>rfl⟩
 | false =>
  obtain⟨k,m,rfl,h1⟩:=jh8 (show j6c a (fun k m=>j6c b (fun k' n=>oif (Nat.beq (ikn k) (ikn k')) (some (ieq m n)) none))=some e from h)
  obtain⟨k',n,rfl,h2⟩:=jh8 h1
  obtain⟨h3,h4⟩:=jab.1 h2
  obtain rfl:=jlz h3
  cases h4
  exact .inr ⟨rfl,k,m,n,hx,hy,by rw[jc0,f1z];simp⟩
theorem jby (h:jbh [] l r=some e):l=[]/\r=[]/\e=true:=by
 cases l with
 | nil=>cases r with
  | nil=>exact⟨rfl,rfl,(Option.some.inj (show some true=some e from h)).symm⟩
  | cons b r=>cases h
 | cons a l=>cases h
theorem jbt {s:Bool} {g:List Bool} (h:jbh (s::g) l r=some e) :
 ∃ a l' b r' e1 e2,l=a::l'/\r=b::r'/\qog s a b=some e1/\jbh g l' r'=some e2/\e=(e1&&e2):=by
 cases l with
 | nil=>cases h
 | cons a l=>cases r with
  | nil=>cases h
  | cons b r =>
   obtain⟨e1,h1,h2⟩:=jaa.1 (show ob (qog s a b) (fun x=>ob (jbh g l r) (fun e=>some (oif x e false)))=some e from h)
   obtain⟨e2,h3,h4⟩:=jaa.1 h2
   cases h4
   exact⟨a,l,b,r,e1,e2,rfl,rfl,h1,h3,by cases e1<;>rfl⟩
theorem jeg:∀ {g:List Bool} {l r:List SV} {e:Bool},jbh g l r=some e->l.length=g.length/\r.length=g.length
 | [],l,r,e,h=>by obtain⟨rfl,rfl,_⟩:=jby h;exact⟨rfl,rfl⟩
 | s::g,l,r,e,h=>by
  obtain⟨a,l',b,r',e1,e2,rfl,rfl,_,h2,_⟩:=jbt h
  obtain⟨h3,h4⟩:=jeg h2
  simp[h3,h4]
theorem jpa:∀ {g g':List Bool} {l r:List SV} {e:Bool},jbh (g++g') l r=some e ->
 ∃ e1 e2,jbh g (l.take g.length) (r.take g.length)=some e1/\jbh g' (l.drop g.length) (r.drop g.length)=some e2/\e=(e1&&e2)
 | [],g',l,r,e,h=>⟨true,e,rfl,by simpa using h,by simp⟩
 | s::g,g',l,r,e,h=>by
  obtain⟨a,l',b,r',e1,e2,rfl,rfl,h1,h2,rfl⟩:=jbt h
  obtain⟨e3,e4,h3,h4,rfl⟩:=jpa h2
  refine⟨e1&&e3,e4,?_,by simpa using h4,by simp[Bool.and_assoc]⟩
  have:jbh (s::g) (a::l'.take g.length) (b::r'.take g.length)=some (oif e1 e3 false):=by
   show ob (qog s a b) (fun x=>ob (jbh g (l'.take g.length) (r'.take g.length)) (fun e=>some (oif x e false)))=_
   rw[h1,h3];rfl
  simp only[f00,List.take_succ_cons]
  rw[this];cases e1<;>rfl
def jdh (P:Program) (t:TypeId) (xs:List Value) (x:Value):Prop :=
 match P.underlying t with
 | some (.struct _)=>x=.agg xs.toArray
 | some (.array _ _)=>x=.agg xs.toArray
 | _=>xs=[x]
theorem jfc {d:Nat} {t:TypeId} {s:List Bool} (h:jgl P d t=some s) {i:TypeInfo} (hi:P.info? t=some i) (hs:i.size=s.length) {xs:List Value} {off:Nat} (hl:off+s.length<=xs.length) :
 ∃ x,(part t xs.toArray off).run P w=.ok x w/\jdh P t ((xs.drop off).take s.length) x:=by
 cases d with
 | zero=>cases h
 | succ d =>
  unfold jgl at h
  split at h
  .rename_i hu
   cases h
   have hlt:off<xs.length:=by simp at hl;omega
   refine⟨xs[off],by simp[part,isAgg,run_underlying hu,hlt],?_⟩
   simp only[jdh,hu]
   rw[f08 hlt];rfl
  .rename_i k hu
   cases h
   have hlt:off<xs.length:=by simp at hl;omega
   refine⟨xs[off],by simp[part,isAgg,run_underlying hu,hlt],?_⟩
   simp only[jdh,hu]
   rw[f08 hlt];rfl
  .rename_i fs hu
   refine⟨.agg (xs.toArray.extract off (off+i.size)),by simp[part,isAgg,run_underlying hu,sizeOf,typeInfo,hi],?_⟩
   simp only[jdh,hu]
   rw[hs]
   congr 1
   simp[List.extract_eq_take_drop]
  .rename_i n e hu
   refine⟨.agg (xs.toArray.extract off (off+i.size)),by simp[part,isAgg,run_underlying hu,sizeOf,typeInfo,hi],?_⟩
   simp only[jdh,hu]
   rw[hs]
   congr 1
   simp[List.extract_eq_take_drop]
  .cases h
theorem jse:∀ (d:Nat) (t:TypeId) (sig:List Bool),jgl P d t=some sig->∀ (cs ds:List SV) (xs ys:List Value) (x y:Value) (e:Bool),All2 (cS A φ) cs xs->All2 (cS A φ) ds ys->jbh sig cs ds=some e ->
 jdh P t xs x->jdh P t ys y->(Op.equalIn d t x y).run P w=.ok e w:=by
 intro d
 induction d with
 | zero=>intro t sig h;cases h
 | succ d ih =>
  intro t sig h cs ds xs ys x y e hx hy he sx sy
  have fields:∀ (fs:List Field) (off:Nat) (sig:List Bool),jgv P (jgl P d) fs off=some sig->∀ (cs ds:List SV) (e:Bool),All2 (cS A φ) cs (xs.drop off)->All2 (cS A φ) ds (ys.drop off)->jbh sig cs ds=some e ->
   (Op.eqFields d xs.toArray ys.toArray fs).run P w=.ok e w:=by
   intro fs
   induction fs with
   | nil =>
    intro off sig h cs ds e _ _ he
    cases (show some []=some sig from h)
    obtain⟨_,_,rfl⟩:=jby he
    rfl
   | cons f fs ihf =>
    intro off sig h cs ds e hx hy he
    unfold jgv at h
    split at h
    .cases h
    rename_i hn
    split at h
    .cases h
    rename_i ho
    have ho':f.offset=off:=by simpa using ho
    split at h
    .rename_i s i hs hi
     split at h
     .rename_i hsz0
      obtain⟨hsz,hs0⟩:=hsz0
      split at h
      .rename_i l hl
       cases h
       obtain⟨e1,e2,h1,h2,rfl⟩:=jpa he
       obtain⟨l1,l2⟩:=jeg he
       have hxl:=hx.len
       have hyl:=hy.len
       simp only[f0k,List.length_drop] at l1 l2 hxl hyl
       obtain⟨a,pa,sa⟩:=jfc (w:=w) hs hi hsz (xs:=xs) (off:=off) (by omega)
       obtain⟨b,pb,sb⟩:=jfc (w:=w) hs hi hsz (xs:=ys) (off:=off) (by omega)
       have hi1:=ih f.type s hs _ _ _ _ a b e1 (hx.take s.length) (hy.take s.length) h1 sa sb
       have hi2:=ihf (off+s.length) l hl _ _ e2 (by simpa[List.drop_drop] using hx.drop s.length) (by simpa[List.drop_drop] using hy.drop s.length) h2
       simp only[Op.eqFields,hn,ne_eq,not_false_eq_true,if_true,Sem.run_bind,ho',pa,pb,Result.andThen_ok,hi1]
       cases e1
       .rfl
       .simpa using hi2
      .cases h
     .cases h
    .cases h
  unfold jgl at h
  split at h
  .rename_i hu
   cases h
   simp only[jdh,hu] at sx sy
   subst sx sy
   obtain⟨a,l',b,r',e1,e2,rfl,rfl,h1,h2,rfl⟩:=jbt he
   obtain⟨rfl,rfl,rfl⟩:=jby h2
   cases hx with | cons hx _=>cases hy with | cons hy _ =>
   rcases jfb h1 hx hy with⟨_,p,q,rfl,rfl,rfl⟩ | ⟨h,_⟩
   .rw [run_equalIn_bool' (h:=hu)];simp
   .cases h
  .rename_i k hu
   cases h
   simp only[jdh,hu] at sx sy
   subst sx sy
   obtain⟨a,l',b,r',e1,e2,rfl,rfl,h1,h2,rfl⟩:=jbt he
   obtain⟨rfl,rfl,rfl⟩:=jby h2
   cases hx with | cons hx _=>cases hy with | cons hy _ =>
   rcases jfb h1 hx hy with⟨h,_⟩ | ⟨_,k',m,n,rfl,rfl,rfl⟩
   .cases h
   .rw [run_equalIn_int (h:=hu)];simp
  .rename_i fs hu
   split at h
   .cases h
   rename_i hst
   simp only[jdh,hu] at sx sy
   subst sx sy
   have hf:P.fieldsOf t=fs:=by simp[Program.fieldsOf,hu]
   rw[run_equalIn_struct (ht:=by rw[hf];exact hu) (hp:=by simpa using hst),hf]
   exact fields fs.toList 0 sig h cs ds e (by simpa using hx) (by simpa using hy) he
  .rename_i n el hu
   split at h
   .rename_i hc
    obtain⟨hs,hi⟩:=hc
    cases h
    obtain⟨i,hi,hsz⟩:=f0a.1 hi
    simp only[jdh,hu] at sx sy
    subst sx sy
    have c1:P.cellsOf el=1:=by simp[Program.cellsOf,hi,hsz]
    have items:∀ (m off:Nat) (cs ds:List SV) (e:Bool),All2 (cS A φ) cs (xs.drop off)->All2 (cS A φ) ds (ys.drop off)->jbh (List.replicate m false) cs ds=some e ->
     (Op.eqItems d el 1 xs.toArray ys.toArray (List.range' off m)).run P w=.ok e w:=by
     intro m
     induction m with
     | zero =>
      intro off cs ds e _ _ he
      obtain⟨_,_,rfl⟩:=jby he
      rfl
     | succ m ihm =>
      intro off cs ds e hx hy he
      obtain⟨a,l',b,r',e1,e2,rfl,rfl,h1,h2,rfl⟩:=jbt he
      have hxl:=hx.len
      have hyl:=hy.len
      simp only[f00,List.length_drop] at hxl hyl
      obtain⟨a',pa,sa⟩:=jfc (w:=w) hs hi hsz (xs:=xs) (off:=off) (by simp;omega)
      obtain⟨b',pb,sb⟩:=jfc (w:=w) hs hi hsz (xs:=ys) (off:=off) (by simp;omega)
      have hi1:=ih el [false] hs [a] [b] _ _ a' b' e1 (hx.take 1) (hy.take 1) (by
       show ob (qog false a b) (fun x=>ob (jbh [] [] []) (fun e=>some (oif x e false)))=some e1
       rw[h1]
       show some (oif e1 true false)=some e1
       cases e1<;>rfl) sa sb
      have hi2:=ihm (off+1) l' r' e2 (by simpa[List.drop_drop] using hx.drop 1) (by simpa[List.drop_drop] using hy.drop 1) h2
      rw[List.range'_succ]
      simp only[Op.eqItems,Sem.run_bind,f2h,pa,pb,Result.andThen_ok,hi1]
      cases e1
      .rfl
      .simpa using hi2
    rw[run_equalIn_array w d xs.toArray ys.toArray hu hi,c1,List.range_eq_range']
    exact items n 0 cs ds e (by simpa using hx) (by simpa using hy) he
   .cases h
  .cases h
end
end Go.Proofs.YtdbklpgagdbpiaaDoor.Ev
