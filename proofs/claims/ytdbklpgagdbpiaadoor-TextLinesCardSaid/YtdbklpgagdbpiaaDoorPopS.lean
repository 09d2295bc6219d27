/- Each of the interpreter's operations on values does what the model's does: all of them. No program in sight. -/
import Derived.Test.YtdbklpgagdbpiaaDoorEql
namespace Go.Proofs.YtdbklpgagdbpiaaDoor.Ev
open Go
set_option linter.all false
variable {v:AV}
section
variable {P:Program} {T:Tr TI} {w:World} {A:Nat->Int} {φ:Phi} {π:List Nat} {loc:List (Option Nat)} {st fr:List AV} {ρ:Operand->Value}
theorem j6v (hT:Tys P T) {t:TypeId} {q:Bool×List Bool} (h:qta T t=some q):∃ ti,TIok P t ti/\ti.agg=q.1/\ti.eq=some q.2:=by
 unfold qta at h
 split at h
 .rename_i ti hti
  obtain⟨s,hs,rfl⟩:=f0a.1 h
  exact⟨ti,hT t ti hti,rfl,hs⟩
 .cases h
theorem jfj {op:BinOp} {n:Bool} (h:qhq op=some n):(op=.eql/\n=false)∨(op=.neq/\n=true):=by
 cases op<;>simp[qhq] at h<;>simp[h]
theorem jpb (op:BinOp) (t:TypeId) (x y:Operand) (k k':IntKind) (m n:Int):(eqGuard op t x y (.int k m) (.int k' n)).run P w=.ok () w:=by
 cases op<;>rfl
theorem je3 (op:BinOp) (t:TypeId) (x y:Operand) (a b:Option Addr) (l c m d:Nat):(eqGuard op t x y (.slice a l c) (.slice b m d)).run P w=.ok () w:=by
 cases op<;>rfl
theorem jnh (t e:TypeId) (hu:P.underlying t=some (.slice e)) (a:Option Addr) (l c:Nat):(Op.equalIn 10000 t (.slice a l c) (.slice none 0 0)).run P w=.ok a.isNone w:=by
 show(Op.equalIn (9999+1) t (.slice a l c) (.slice none 0 0)).run P w=.ok a.isNone w
 unfold Op.equalIn
 simp only[Sem.run_bind,run_underlying hu,Result.andThen_ok]
 cases a<;>rfl
theorem j2d (t e:TypeId) (hu:P.underlying t=some (.slice e)) (a:Option Addr) (l c:Nat):(Go.binOp .eql t (.slice a l c) (.slice none 0 0)).run P w=.ok (.bool a.isNone) w:=by
 simp only[Go.binOp]
 simp[Op.equal,Op.maxDepth,jnh t e hu]
theorem j2e (t e:TypeId) (hu:P.underlying t=some (.slice e)) (a:Option Addr) (l c:Nat):(Go.binOp .neq t (.slice a l c) (.slice none 0 0)).run P w=.ok (.bool (!a.isNone)) w:=by
 simp only[Go.binOp]
 simp[Op.equal,Op.maxDepth,jnh t e hu]
theorem jw6 (op:BinOp) (t:TypeId) (x y:Operand) (m n:Bool):(eqGuard op t x y (.bool m) (.bool n)).run P w=.ok () w:=by
 cases op<;>rfl
theorem j6w {o:BO} {a b:SV} (h:jep o a b=some v):(∀ x,cS A φ a x->∃ k m,x=.int k m)/\(∀ y,cS A φ b y->∃ k m,y=.int k m):=by
 cases a with
 | int k m =>
  refine⟨fun x hx=>⟨k,m,hx⟩,?_⟩
  cases b with
  | int k' n=>exact fun y hy=>⟨k',n,hy⟩
  | sym e=>exact fun y hy=>⟨_,_,hy⟩
  | _=>cases h
 | sym e =>
  refine⟨fun x hx=>⟨_,_,hx⟩,?_⟩
  obtain⟨e',h1,h2⟩:=j2a (show vSx b (fun e'=>jwv o e e')=some v from h)
  exact fun y hy=>⟨_,_,h1 _ _ _ hy⟩
 | _=>cases h
theorem jkk {S:List Operand} (hE:jkh A φ π loc st fr S ρ):∀ (os:List Operand) (l:List Od) (vs:List AV),(∀ x,x∈os->x∈S)->cOs π loc os=some l->evs st fr l=some vs->All2 (cV A φ) vs (os.map ρ)
 | [],l,vs,hm,h,h'=>by
  cases (show some []=some l from h)
  cases (show some []=some vs from h')
  exact .nil
 | o::os,l,vs,hm,h,h'=>by
  simp only[cOs] at h
  split at h
  .rename_i y l' hy hl
   cases h
   obtain⟨v,hv,h2⟩:=jaa.1 (show ob (ev st fr y) (fun v=>ob (evs st fr l') (fun r=>some (v::r)))=some vs from h')
   obtain⟨r,hr,h3⟩:=jaa.1 h2
   cases h3
   exact .cons (hE _ (hm o (by simp)) _ _ hy hv) (jkk hE os l' r (fun x hx=>hm x (by simp[hx])) hl hr)
  .cases h
theorem jsf:∀ (vs:List AV) (l:List (Nat×Nat)) (xs:List Value),qez vs=some l->All2 (cV A φ) vs xs->All2 (fun p x=>jnf φ p.1 p.2 x) l xs
 | [],l,xs,h,hx=>by
  cases hx
  cases (show some []=some l from h)
  exact .nil
 | v::vs,l,xs,h,hx=>by
  cases hx with
  | cons hv hr =>
   obtain⟨b,o,rfl,h1⟩:=jkf (show jws v (fun b o=>ob (qez vs) (fun r=>some ((b,o)::r)))=some l from h)
   obtain⟨r,h2,h3⟩:=jaa.1 h1
   cases h3
   exact .cons hv (jsf vs r _ h2 hr)
theorem jib {g:Bool} {x:AV} {v:Value} {β:Type} {f:List SV->Option β} {r:β} (k:cV A φ x v) (h:jy7 g x f=some r) :
 ∃ cs xs,f cs=some r/\All2 (cS A φ) cs xs/\if g=true then v=.agg xs.toArray else xs=[v]:=by
 cases x with
 | s x =>
  have h':oif g none (f [x])=some r:=h
  rw[jap] at h'
  split at h'
  .cases h'
  .rename_i hg
   exact⟨[x],[v],h',.cons k .nil,by rw[if_neg hg]⟩
 | agg l =>
  obtain⟨h1,h2⟩:=jab.1 (show oif g (f l) none=some r from h)
  obtain⟨xs,rfl,hx⟩:=k
  exact⟨l,xs,h2,hx,by rw[if_pos h1]⟩
 | _=>cases h
theorem jtp {os:List Operand} {x:Od} (h:cOs π loc os=some [x]):∃ o,os=[o]/\cO π loc o=some x:=by
 cases os with
 | nil=>cases h
 | cons o os =>
  simp only[cOs] at h
  split at h
  .rename_i y l hy hl
   cases h
   cases os with
   | nil=>exact⟨o,rfl,hy⟩
   | cons o' os=>simp only[cOs] at hl;split at hl<;>cases hl
  .cases h
theorem jtq {os:List Operand} {x y:Od} (h:cOs π loc os=some [x,y]):∃ o o',os=[o,o']/\cO π loc o=some x/\cO π loc o'=some y:=by
 cases os with
 | nil=>cases h
 | cons o os =>
  simp only[cOs] at h
  split at h
  .rename_i z l hz hl
   cases h
   obtain⟨o',rfl,ho'⟩:=jtp hl
   exact⟨o,o',rfl,hz,ho'⟩
  .cases h
theorem j6x {b o:Nat} {c:Array Value} {cs:List SV} (h1:φ.k b=some c) (h2:∀ (j:Nat) (x:SV),cs[j]?=some x->∃ u,c[o+j]?=some u/\cD A φ.k x u) (n:Nat):cS A φ (.cp (jb4 n cs)) (.pointer (some ⟨b,o+n,none⟩)) :=
 ⟨b,o+n,c,h1,rfl,fun j x hx=>by rw[jb8,f1f] at hx;rw[f1r];exact h2 _ _ hx⟩
theorem jkl (hT:Tys P T) {o:Oper} (hE:jkh A φ π loc st fr o.op.operands.toList ρ) {po:PO} (hc:cOp T π loc o.op=some (.p po)) (hv:pop st fr po=some v) :
 ∃ rv,(execOp ρ o).run P w=.ok (.value rv) w/\cV A φ v rv:=by
 obtain⟨dst,op,type,pos,after,guard⟩:=o
 cases op with
 | move x =>
  obtain⟨y,hy,e⟩:=f0a.1 hc
  cases e
  exact⟨_,rfl,hE _ (by simp[Op.operands]) _ _ hy hv⟩
 | assign x =>
  obtain⟨y,hy,e⟩:=f0a.1 hc
  cases e
  exact⟨_,rfl,hE _ (by simp[Op.operands]) _ _ hy hv⟩
 | pick c a b =>
  simp only[cOp] at hc
  split at hc
  .rename_i c' a' b' h1 h2 h3
   cases hc
   obtain⟨u,hu,hv1⟩:=jaa.1 (show ob (ev st fr c') (fun v=>jhe v (fun t=>ev st fr (oif t a' b')))=some v from hv)
   obtain⟨t,rfl,hv2⟩:=jcx hv1
   have hρ:ρ c=.bool t:=hE _ (by simp[Op.operands]) _ _ h1 hu
   rw[jap] at hv2
   cases t
   .exact ⟨ρ b,by simp[execOp,hρ,asBool],hE _ (by simp[Op.operands]) _ _ h3 hv2⟩
   .exact ⟨ρ a,by simp[execOp,hρ,asBool],hE _ (by simp[Op.operands]) _ _ h2 hv2⟩
  .cases hc
 | build t ps =>
  simp only[cOp] at hc
  split at hc
  .rename_i ti hti
   have kt:=hT t ti hti
   obtain⟨d,hd,hk⟩:=kt.und
   obtain⟨z,hz,hza,_⟩:=kt.run_zero (w:=w)
   split at hc
   .rename_i fs hfs
    rw[hfs] at hk
    obtain⟨fields,rfl,rfl,hfi⟩:=hk
    obtain⟨l,hl,e⟩:=f0a.1 hc
    cases e
    obtain⟨cs,hcs,e⟩:=jaa.1 (show ob (fill st fr l ti.zero) (fun cs=>some (.agg cs))=some v from hv)
    cases e
    let place:Nat->Option (Nat×Nat):=fun i=>(fields.map (fun f=>(f.offset,P.cellsOf f.type)))[i]?
    have hm:(fields.mapM (fun(f:Field)=>do pure (f.offset,←sizeOf f.type))).run P w=.ok (fields.map (fun f=>(f.offset,P.cellsOf f.type))) w :=
     qcm fields (fun f hf=>by obtain⟨i,hi⟩:=hfi f hf;simp[sizeOf,typeInfo,hi,Program.cellsOf])
    have hl':∀ (ps:List (Nat×Operand)) l,jh3 π loc (fun i=>match (fields.toList.map (fun f=>(f.offset,f.type)))[i]? with | some (off,e)=>(jh1 T e).map fun z=>(off,z.size) | none=>none) ps=some l->jh3 π loc place ps=some l:=by
     intro ps
     induction ps with
     | nil=>intro l h;exact h
     | cons p ps ih =>
      obtain⟨i,o⟩:=p
      intro l h
      simp only[jh3] at h ⊢
      split at h
      .rename_i off n x l1 hp ho hl1
       have:place i=some (off,n):=by
        simp only[f09] at hp
        simp only[place,Array.getElem?_map]
        rw[←f02]
        cases hf:fields.toList[i]? with
        | none=>rw[hf] at hp;cases hp
        | some f =>
         rw[hf] at hp
         simp only[f1p] at hp ⊢
         obtain⟨ti',hti',e⟩:=f0a.1 hp
         cases e
         obtain⟨i',z',d',q1,q2,q3,_⟩:=(hT _ _ hti').ex
         simp[Program.cellsOf,q1,q3]
       rw[this,ho,ih _ hl1]
       exact h
      .cases h
    obtain⟨arr',h1,h2⟩:=jiq hE (place:=place) ps.toList l ti.zero cs z.cells (fun p hp=>by simp[Op.operands];exact⟨p.1,by simpa using hp⟩) (hl' _ _ hl) hcs (hza A φ)
    refine⟨.agg arr',?_,arr'.toList,by simp,h2⟩
    have hps:(ps.map (fun x=>(x.1,ρ x.2))).toList=ps.toList.map (fun p=>(p.1,ρ p.2)):=by simp
    simp only[execOp,Instr.build,Sem.run_bind,hz,Result.andThen_ok,run_underlying hd,hm,hps]
    have h1':Instr.fill (fun x=>(fields.map (fun f=>(f.offset,P.cellsOf f.type)))[x]?) z.cells (ps.toList.map (fun p=>(p.1,ρ p.2)))=some arr':=h1
    rw[h1']
    rfl
   .rename_i n e he
    rw[he] at hk
    cases hk
    split at hc
    .rename_i z' hz'
     obtain⟨l,hl,e⟩:=f0a.1 hc
     cases e
     obtain⟨cs,hcs,e⟩:=jaa.1 (show ob (fill st fr l ti.zero) (fun cs=>some (.agg cs))=some v from hv)
     cases e
     obtain⟨arr',h1,h2⟩:=jiq hE ps.toList l ti.zero cs z.cells (fun p hp=>by simp[Op.operands];exact⟨p.1,by simpa using hp⟩) hl hcs (hza A φ)
     refine⟨.agg arr',?_,arr'.toList,by simp,h2⟩
     have hps:(ps.map (fun x=>(x.1,ρ x.2))).toList=ps.toList.map (fun p=>(p.1,ρ p.2)):=by simp
     simp only[execOp,Instr.build,Sem.run_bind,hz,Result.andThen_ok,run_underlying hd,(hT _ _ hz').run_size,hps,h1]
     rfl
    .cases hc
   .cases hc
  .cases hc
 | binOp op t x y yt =>
  simp only[cOp] at hc
  split at hc
  .rename_i x' y' hx hy
   cases hi:j17 T t with
   | true =>
    rw[hi] at hc
    obtain⟨o',ho,e⟩:=f0a.1 hc
    cases e
    obtain rfl:=j6s ho
    obtain⟨a,ha,hv1⟩:=jaa.1 (show ob (ev st fr x') (fun a=>ob (ev st fr y') (fun b=>svc none a (fun a=>svc none b (fun b=>jep o' a b))))=some v from hv)
    obtain⟨b,hb,hv2⟩:=jaa.1 hv1
    obtain⟨a,rfl,hv3⟩:=jca hv2
    obtain⟨b,rfl,hv4⟩:=jca hv3
    have h1:=hE _ (by simp[Op.operands]) _ _ hx ha
    have h2:=hE _ (by simp[Op.operands]) _ _ hy hb
    obtain⟨rv,h3,h4⟩:=jzh (w:=w) (P:=P) hv4 h1 h2 t
    obtain⟨i1,i2⟩:=j6w (A:=A) (φ:=φ) hv4
    obtain⟨k,m,e1⟩:=i1 _ h1
    obtain⟨k',n,e2⟩:=i2 _ h2
    refine⟨rv,?_,h4⟩
    rw[e1,e2] at h3
    simp only[execOp,e1,e2,Sem.run_bind,jpb,Result.andThen_ok,h3]
    rfl
   | false =>
    rw[hi] at hc
    simp only[cond_false] at hc
    cases hsl:(jbw T t).isSome with
    | true =>
     rw[hsl] at hc
     simp only[cond_true] at hc
     obtain⟨n,hn,e⟩:=f0a.1 hc
     cases e
     obtain⟨zz,hz⟩:=Option.isSome_iff_exists.1 hsl
     obtain⟨k1,_,_⟩:=jbl hT hz
     obtain⟨a,ha,hv1⟩:=jaa.1 (show qe1 st fr n x' y'=some v from hv)
     obtain⟨b,hb,hv2⟩:=jaa.1 hv1
     rcases jay hv2 with⟨rfl,hv3⟩ | ⟨_,_,_,_,_,_,_,hv3⟩ | ⟨_,_,hv3⟩ | ⟨_,hv3⟩
     .have hy1:ρ y=.slice none 0 0:=hE _ (by simp[Op.operands]) _ _ hy hb
      have nonnil:∀ ad n' c',ρ x=.slice (some ad) n' c'->some (AV.s (.bool n))=some v->∃ rv,(execOp ρ ⟨dst,.binOp op t x y yt,type,pos,after,guard⟩).run P w=.ok (.value rv) w/\cV A φ v rv:=by
       intro ad n' c' hx1 hv4
       cases hv4
       rcases jfj hn with⟨rfl,rfl⟩ | ⟨rfl,rfl⟩
       .exact ⟨.bool false,by simp only[execOp,hx1,hy1,Sem.run_bind,je3,Result.andThen_ok,j2d t _ k1];rfl,rfl⟩
       .exact ⟨.bool true,by simp only[execOp,hx1,hy1,Sem.run_bind,je3,Result.andThen_ok,j2e t _ k1];rfl,rfl⟩
      rcases jay hv3 with⟨rfl,hv4⟩ | ⟨b1,off,len,mc,ex,sz,rfl,hv4⟩ | ⟨rows,rfl,hv4⟩ | ⟨rfl,hv4⟩
      .have hx1:ρ x=.slice none 0 0:=hE _ (by simp[Op.operands]) _ _ hx ha
       cases hv4
       rcases jfj hn with⟨rfl,rfl⟩ | ⟨rfl,rfl⟩
       .exact ⟨.bool true,by simp only[execOp,hx1,hy1,Sem.run_bind,je3,Result.andThen_ok,j2d t _ k1];rfl,rfl⟩
       .exact ⟨.bool false,by simp only[execOp,hx1,hy1,Sem.run_bind,je3,Result.andThen_ok,j2e t _ k1];rfl,rfl⟩
      .obtain ⟨L,ad,cap,_,hx1,_⟩:=(show cS A φ (.slice b1 off len mc ex sz) (ρ x) from hE _ (by simp[Op.operands]) _ _ hx ha)
       exact nonnil _ _ _ hx1 hv4
      .obtain ⟨ad,cap,hx1,_⟩:=je2 (show cD A φ.k (.lst rows) (ρ x) from hE _ (by simp[Op.operands]) _ _ hx ha)
       exact nonnil _ _ _ hx1 hv4
      .obtain ⟨ad,hx1⟩:=(show cS A φ .emp (ρ x) from hE _ (by simp[Op.operands]) _ _ hx ha)
       exact nonnil _ _ _ hx1 hv4
     .cases hv3
     .cases hv3
     .cases hv3
    | false =>
    rw[hsl] at hc
    simp only[cond_false] at hc
    split at hc
    .rename_i n q hn hq
     cases hc
     obtain⟨ti,kt,hag,heq⟩:=j6v hT hq
     obtain⟨hsig,hgd⟩:=kt.eq _ heq
     obtain⟨i,z,d,_,_,_,_,_,hu,hagB,_⟩:=kt.ex
     obtain⟨a,ha,hv5⟩:=jaa.1 (show ob (ev st fr x') (fun a=>ob (ev st fr y') (fun b=>jy7 q.1 a (fun as=>jy7 q.1 b (fun bs=>ob (jbh q.2 as bs) (fun e=>some (.s (.bool (oif n (jhd e) e))))))))=some v from hv)
     obtain⟨b,hb,hv6⟩:=jaa.1 hv5
     obtain⟨cs,xs,hv6,h1,h2⟩:=jib (hE _ (by simp[Op.operands]) _ _ hx ha) hv6
     obtain⟨ds,ys,hv6,h3,h4⟩:=jib (hE _ (by simp[Op.operands]) _ _ hy hb) hv6
     obtain⟨e,he,hv7⟩:=jaa.1 hv6
     cases hv7
     have shape:∀ zs u,(if q.1=true then u=.agg zs.toArray else zs=[u])->jdh P t zs u:=by
      intro zs u h
      rw[←hag,hagB] at h
      unfold jdh
      rw[hu]
      cases d<;>simp[qtd] at h ⊢<;>try exact h
      all_goals (rw[jgl,hu] at hsig;cases hsig)
     have hr:=jse (w:=w) 10000 t q.2 hsig cs ds xs ys _ _ e h1 h3 he (shape _ _ h2) (shape _ _ h4)
     have hg:∀ op,(eqGuard op t x y (ρ x) (ρ y)).run P w=.ok () w:=by
      intro op
      cases hq1:q.1 with
      | true =>
       rw[hq1,if_pos rfl] at h2 h4
       rw[h2,h4]
       exact run_eqGuard_agg w op t x y _ _ hgd
      | false =>
       rw[hq1] at h2 h4
       simp only[f0v,if_false] at h2 h4
       subst h2 h4
       obtain⟨a',l',b',r',e1,e2,rfl,rfl,g1,g2,rfl⟩:=jbt (s:=(q.2.headD true)) (g:=q.2.tail) (by
        cases hq2:q.2 with
        | nil=>rw[hq2] at he;obtain⟨rfl,_,_⟩:=jby he;cases h1
        | cons s g=>rw[hq2] at he;exact he)
       cases h1 with | cons h1 _=>cases h3 with | cons h3 _ =>
       rcases jfb g1 h1 h3 with⟨_,p,q,e1,e2,_⟩ | ⟨_,k,m,n,e1,e2,_⟩
       .rw [e1,e2];exact jw6 op t x y p q
       .rw [e1,e2];exact jpb op t x y k k m n
     have hbin:(Go.binOp (if n then .neq else .eql) t (ρ x) (ρ y)).run P w=.ok (.bool (oif n (jhd e) e)) w:=by
      have gen:∀ u v,ρ x=u->ρ y=v->((∃ us vs,u=.agg us/\v=.agg vs)∨(∃ p q,u=.bool p/\v=.bool q)∨∃ k m n,u=.int k m/\v=.int k n/\e=(m == n))->(Go.binOp (if n then .neq else .eql) t u v).run P w=.ok (.bool (oif n (jhd e) e)) w:=by
       intro u v hu' hv' h
       rw[hu',hv'] at hr
       rcases h with⟨us,vs,rfl,rfl⟩ | ⟨p,q,rfl,rfl⟩ | ⟨k,m,n',rfl,rfl,rfl⟩<;>cases n<;>simp[Go.binOp,Op.equal,Op.maxDepth,Op.intCmp,hr,oif,jgk,bne]
      refine gen _ _ rfl rfl ?_
      cases hq1:q.1 with
      | true =>
       rw[hq1,if_pos rfl] at h2 h4
       exact .inl ⟨_,_,h2,h4⟩
      | false =>
       rw[hq1] at h2 h4
       simp only[f0v,if_false] at h2 h4
       subst h2 h4
       cases hq2:q.2 with
       | nil=>rw[hq2] at he;obtain⟨rfl,_,_⟩:=jby he;cases h1
       | cons s g =>
        rw[hq2] at he
        obtain⟨a',l',b',r',e1',e2',rfl,rfl,g1,g2,rfl⟩:=jbt he
        have g2':jbh [] l' r'=some e2':=by
         obtain⟨l1,_⟩:=jeg he
         have hg:g=[]:=by
          cases h1 with | cons _ h1=>cases h1;simpa using l1.symm
         rw[←hg];exact g2
        cases h1 with | cons h1 _=>cases h3 with | cons h3 _ =>
        rcases jfb g1 h1 h3 with⟨_,p,q,e1,e2,_⟩ | ⟨hs,k,m,n,e1,e2,e3⟩
        .exact .inr (.inl ⟨p,q,e1,e2⟩)
        .obtain ⟨_,_,rfl⟩:=jby g2'
         exact .inr (.inr ⟨k,m,n,e1,e2,by rw[e3];simp⟩)
     rcases jfj hn with⟨rfl,rfl⟩ | ⟨rfl,rfl⟩
     .refine ⟨_,?_,rfl⟩
      have hb':=hbin
      simp only[f0v,if_false] at hb'
      simp only[execOp,Sem.run_bind,hg,Result.andThen_ok,hb']
      rfl
     .refine ⟨_,?_,rfl⟩
      have hb':=hbin
      simp only[if_true] at hb'
      simp only[execOp,Sem.run_bind,hg,Result.andThen_ok,hb']
      rfl
    .cases hpt:jov T t with
     | true=>rw[hpt] at hc;cases hc
     | false =>
      rw[hpt] at hc
      cases hst:jc7 T t with
      | true=>rw[hst] at hc;cases hc
      | false =>
       rw[hst] at hc
       rename_i y' _ _ _ _ _
       cases hif:(jox T t&&jow y') with
       | true=>simp only[hif] at hc;cases hc
       | false=>simp only[hif] at hc;cases hc
    .split at hc
     .cases hst:jc7 T t with
      | true=>rw[hst] at hc;cases hc
      | false=>rw[hst] at hc;cases hc
     .cases hc
  .cases hc
 | unOp op t x =>
  cases op with
  | not =>
   obtain⟨y,hy,e⟩:=f0a.1 hc
   cases e
   obtain⟨u,hu,hv1⟩:=jaa.1 (show ob (ev st fr y) (fun v=>jhe v (fun b=>some (.s (.bool (jhd b)))))=some v from hv)
   obtain⟨b,rfl,hv2⟩:=jcx hv1
   cases hv2
   have hρ:ρ x=.bool b:=hE _ (by simp[Op.operands]) _ _ hy hu
   exact⟨.bool (!b),by simp[execOp,hρ,Op.unary],by rw[jgk];rfl⟩
  | neg =>
   obtain⟨y,hy,e⟩:=f0a.1 hc
   cases e
   obtain⟨u,hu,hv3⟩:=jaa.1 (show ob (ev st fr y) (fun v=>jn3 v (fun k n=>j6a k (-n)))=some v from hv)
   obtain⟨k,n,rfl,hv4⟩:=jd3 hv3
   obtain⟨rfl,e⟩:=jkg hv4
   have hρ:ρ x=.int k n:=hE _ (by simp[Op.operands]) _ _ hy hu
   exact⟨.int k (-n),by simp[execOp,hρ,Op.unary,Op.intArith,e],rfl⟩
  | _=>cases hc
 | makeFunc fn fst caps =>
  cases fn with
  | func f =>
   simp only[cOp] at hc
   cases hb:Nat.beq fst.size 0 with
   | false=>rw[hb] at hc;cases hc
   | true =>
    rw[hb] at hc
    obtain⟨l,hl,e⟩:=f0a.1 hc
    cases e
    rw[jgt] at hb
    have hf:fst=#[]:=by simpa using hb
    subst hf
    obtain⟨vs,hvs,hv1⟩:=jaa.1 (show ob (evs st fr l) (fun vs=>ob (qez vs) (fun ps=>some (.s (.func f ps))))=some v from hv)
    obtain⟨ps,hps,hv2⟩:=jaa.1 hv1
    cases hv2
    refine⟨.func (.func f) #[] (caps.map ρ),by simp[execOp,Instr.makeFunc],(caps.toList.map ρ),by rw[←f2d,Array.toArray_toList],jsf _ _ _ hps (jkk hE _ _ _ (fun x hx=>by simpa[Op.operands] using hx) hl hvs)⟩
  | _=>cases hc
 | convert s d x =>
  simp only[cOp] at hc
  split at hc
  .rename_i ts ti y hs hd hy
   split at hc
   .rename_i k hk
    cases hc
    obtain⟨d1,hd1,_⟩:=(hT _ _ hs).und
    obtain⟨d2,hd2,hk2⟩:=(hT _ _ hd).und
    rw[hk] at hk2
    cases hk2
    obtain⟨u,hu,hv1⟩:=jaa.1 (show ob (ev st fr y) (fun v=>jn3 v (fun _ n=>qcb k n))=some v from hv)
    obtain⟨k',n,rfl,hv2⟩:=jd3 hv1
    have hρ:ρ x=.int k' n:=hE _ (by simp[Op.operands]) _ _ hy hu
    have hr:(execOp ρ ⟨dst,.convert s d x,type,pos,after,guard⟩).run P w=.ok (.value (.int k (k.wrap n))) w:=by
     simp[execOp,hρ,Go.convert,run_underlying hd1,run_underlying hd2,Conv.intToInt]
    refine⟨_,hr,?_⟩
    unfold qcb at hv2
    rw[jap] at hv2
    split at hv2
    .rename_i h1;cases hv2;rw[jkd h1];rfl
    .cases k<;>first | (cases hv2;done) | skip
     cases n with
     | ofNat m =>
      cases hv2
      show Value.int _ _=_
      congr 1
     | negSucc m=>cases hv2
   .cases hb:jen T s with
    | true=>rw[hb] at hc;cases hc
    | false=>rw[hb] at hc;cases hc
   .cases hc
  .cases hc
 | nilCheck x =>
  obtain⟨y,hy,e⟩:=f0a.1 hc
  cases e
  obtain⟨u,hu,hv1⟩:=jaa.1 (show ob (ev st fr y) (fun v=>jev v (fun b o=>some (.s (.ptr b o))) (fun cs=>some (.s (.cp cs))))=some v from hv)
  rcases jb6 hv1 with⟨b,o,rfl,hv2⟩ | ⟨cs,rfl,hv2⟩
  .cases hv2
   obtain⟨L,hL,hρ⟩:=(show jnf φ b o (ρ x) from hE _ (by simp[Op.operands]) _ _ hy hu)
   exact⟨ρ x,by simp[execOp,hρ],⟨L,hL,hρ⟩⟩
  .cases hv2
   obtain⟨b,o,c,h1,hρ,h2⟩:=(show cS A φ (.cp cs) (ρ x) from hE _ (by simp[Op.operands]) _ _ hy hu)
   exact⟨ρ x,by simp[execOp,hρ],⟨b,o,c,h1,hρ,h2⟩⟩
 | slice t x lo hi mx =>
  cases mx with
  | some m =>
   cases hi with
   | none=>cases hc
   | some hi =>
   simp only[cOp] at hc
   split at hc
   .rename_i z x' lo' hi' mx' h1 h2 h3 h4 h5
    cases hc
    obtain⟨k1,k2,k3⟩:=jbl hT h1
    obtain⟨u,hu,hv1⟩:=jaa.1 (show j12 st fr z.2.size x' lo' hi' mx'=some v from hv)
    obtain⟨hi1,hh,hv2⟩:=jaa.1 hv1
    obtain⟨lo1,hl,hv3⟩:=jaa.1 hv2
    obtain⟨m1,hm,hv4⟩:=jaa.1 hv3
    have hx:=hE _ (by simp[Op.operands]) _ _ h2 hu
    have conv:∀ {o:Option Operand} {e n:Nat},((o=none/\n=e)∨∃ q k,o=some q/\ρ q=.int k (n:Int))->(o.map ρ=none/\n=e)∨∃ k,o.map ρ=some (.int k (n:Int)):=by
     rintro o e n (⟨rfl,rfl⟩ | ⟨q,k,rfl,h⟩)
     .exact .inl ⟨rfl,rfl⟩
     .exact .inr ⟨k,by simp[h]⟩
    have bl:=conv (jcm hE (fun o e=>by simp[Op.operands,e]) h3 hl)
    have bh:∃ k,ρ hi=.int k (hi1:Int):=by
     rcases jcm hE (fun o e=>by simp[Op.operands] at e ⊢;simp[e]) h4 hh with⟨h,_⟩ | ⟨q,k,h,hq⟩
     .cases h
     .cases h;exact⟨k,hq⟩
    have bm:∃ k,ρ m=.int k (m1:Int):=by
     rcases jcm hE (fun o e=>by simp[Op.operands] at e ⊢;simp[e]) h5 hm with⟨h,_⟩ | ⟨q,k,h,hq⟩
     .cases h
     .cases h;exact⟨k,hq⟩
    obtain⟨kh,bh⟩:=bh
    obtain⟨km,bm⟩:=bm
    have none3:∀ ad n' c',ρ x=.slice (some ad) n' c'->oif (Nat.beq (Nat.add m1 (Nat.add hi1 lo1)) 0) (some (AV.s .emp)) none=some v->∃ rv,(execOp ρ ⟨dst,.slice t x lo (some hi) (some m),type,pos,after,guard⟩).run P w=.ok (.value rv) w/\cV A φ v rv:=by
     intro ad n' c' hρ hv5
     obtain⟨h0,hv6⟩:=jab.1 hv5
     cases hv6
     rw[jgt] at h0
     have h0':m1+(hi1+lo1)=0:=h0
     obtain rfl:m1=0:=by omega
     obtain rfl:hi1=0:=by omega
     obtain rfl:lo1=0:=by omega
     have hr:=jl1 (w:=w) (lo:=0) (hi:=0) (m:=0) k1 k2.run_size (some ad) n' c' (lo.map ρ) kh km bl (f0d _) (f0d _) (f14 _)
     refine⟨.slice (some ad) 0 0,?_,ad,rfl⟩
     simp only[execOp,hρ,Sem.run_bind,f1p,bh,bm,hr,Result.andThen_ok]
     rfl
    rcases jay hv4 with⟨rfl,hv5⟩ | ⟨b,off,len,mc,ex,sz,rfl,hv5⟩ | ⟨rows,rfl,hv5⟩ | ⟨rfl,hv5⟩
    rotate_left 2
    .obtain ⟨ad,cap,hρ,_⟩:=je2 (show cD A φ.k (.lst rows) (ρ x) from hx)
     exact none3 _ _ _ hρ hv5
    .obtain ⟨ad,hρ⟩:=(show cS A φ .emp (ρ x) from hx)
     exact none3 _ _ _ hρ hv5
    .obtain ⟨h0,hv6⟩:=jab.1 hv5
     cases hv6
     rw[jgt] at h0
     have h0':m1+(hi1+lo1)=0:=h0
     obtain rfl:m1=0:=by omega
     obtain rfl:hi1=0:=by omega
     obtain rfl:lo1=0:=by omega
     have hρ:ρ x=.slice none 0 0:=hx
     have hr:=jl1 (w:=w) (lo:=0) (hi:=0) (m:=0) k1 k2.run_size none 0 0 (lo.map ρ) kh km bl (f0d _) (f0d _) (f0d _)
     refine⟨.slice none 0 0,?_,rfl⟩
     simp only[execOp,hρ,Sem.run_bind,f1p,bh,bm,hr,Result.andThen_ok]
     rfl
    .obtain ⟨h6,hv6⟩:=jab.1 hv5
     obtain⟨h7,hv7⟩:=jab.1 hv6
     obtain⟨h8,hv8⟩:=jab.1 hv7
     obtain⟨h9,hv9⟩:=jab.1 hv8
     cases hv9
     obtain⟨rv,hr,hcs⟩:=jw5 (A:=A) (φ:=φ) (w:=w) (show cS A φ (.slice b off len mc ex sz) (ρ x) from hx) k1 k2.run_size bl kh km (f0g h6) (f0g h7) (f0g h8) (f0i h9)
     refine⟨rv,?_,hcs⟩
     simp only[execOp,Sem.run_bind,f1p,bh,bm,hr,Result.andThen_ok]
     rfl
   .cases hc
  | none =>
   simp only[cOp] at hc
   split at hc
   .rename_i z x' lo' hi' h1 h2 h3 h4
    cases hc
    obtain⟨k1,k2,k3⟩:=jbl hT h1
    obtain⟨u,hu,hv1⟩:=jaa.1 (show j6e st fr z.2.size x' lo' hi'=some v from hv)
    have hx:=hE _ (by simp[Op.operands]) _ _ h2 hu
    have conv:∀ {o:Option Operand} {e n:Nat},((o=none/\n=e)∨∃ q k,o=some q/\ρ q=.int k (n:Int))->(o.map ρ=none/\n=e)∨∃ k,o.map ρ=some (.int k (n:Int)):=by
     rintro o e n (⟨rfl,rfl⟩ | ⟨q,k,rfl,h⟩)
     .exact .inl ⟨rfl,rfl⟩
     .exact .inr ⟨k,by simp[h]⟩
    rcases jay hv1 with⟨rfl,hv2⟩ | ⟨b,off,len,mc,ex,sz,rfl,hv2⟩ | ⟨rows,rfl,hv2⟩ | ⟨rfl,hv2⟩
    rotate_left 2
    .obtain ⟨hi1,hh,hv3⟩:=jaa.1 hv2
     obtain⟨lo1,hl,hv4⟩:=jaa.1 hv3
     obtain⟨h5,hv5⟩:=jab.1 hv4
     obtain⟨h6,hv6⟩:=jab.1 hv5
     obtain⟨h7,hv7⟩:=jab.1 hv6
     obtain⟨r,hr,hv8⟩:=jaa.1 hv7
     cases hv8
     rw[jtj] at h5 h6
     rw[ja7] at hh h5
     obtain⟨ad,cap,hρ,hc,hcase⟩:=je2 (show cD A φ.k (.lst rows) (ρ x) from hx)
     have hb:=conv (jcm hE (fun o e=>by simp[Op.operands,e]) h4 hh)
     have hrun:=jkj (w:=w) (lo:=lo1) (hi:=hi1) k1 k2.run_size (some ad) rows.length cap (lo.map ρ) (hi.map ρ) (conv (jcm hE (fun o e=>by simp[Op.operands,e]) h3 hl)) hb h6 (by omega)
     rw[jb8] at hr
     obtain⟨h8,rfl⟩:=(ja5 _).1 hr
     refine⟨_,by simp only[execOp,hρ,Sem.run_bind,f3i,hrun,Result.andThen_ok];rfl,?_⟩
     show cD A φ.k (.lst ((rows.drop lo1).take (hi1 - lo1))) (.slice (if cap=lo1 then some ad else some (ad.add (lo1*z.2.size))) (hi1 - lo1) (cap - lo1))
     rcases hcase with rfl | ⟨b,o,sz,cs,e1,rfl,e3,e4⟩
     .have e1:lo1=0:=by simp at h5;omega
      have e2:hi1=0:=by simpa using h5
      subst e1 e2
      simp only[f16]
      split<;>exact .lst0 _ _
     .by_cases e5:cap=lo1
      .have:hi1 - lo1=0:=by omega
       rw[if_pos e5,this]
       simp only[List.take_zero]
       exact .lst0 _ _
      .rw [if_neg e5]
       by_cases e6:rows=[]
       .subst e6
        have:hi1 - lo1=0:=by simp at h5;omega
        rw[this]
        simp only[List.take_zero]
        exact .lst0 _ _
       .have hsz:sz=z.2.size:=by
         cases rows with
         | nil=>exact absurd rfl e6
         | cons a t =>
          have h9:Nat.beq (jb2 a) z.2.size=true:=h7
          rw[jgt,ja7] at h9
          rw[←h9]
          exact(e3 0 a rfl).symm
        rw[jb1,←hsz]
        exact qcl e1 hc e3 e4 (by omega)
    .obtain ⟨hi1,hh,hv3⟩:=jaa.1 hv2
     obtain⟨lo1,hl,hv4⟩:=jaa.1 hv3
     obtain⟨h0,hv5⟩:=jab.1 hv4
     cases hv5
     rw[jgt] at h0
     have e1:hi1=0:=by have:hi1+lo1=0:=h0;omega
     have e2:lo1=0:=by have:hi1+lo1=0:=h0;omega
     subst e1 e2
     obtain⟨ad,hρ⟩:=(show cS A φ .emp (ρ x) from hx)
     have hr:=jkj (w:=w) (lo:=0) (hi:=0) k1 k2.run_size (some ad) 0 0 (lo.map ρ) (hi.map ρ) (conv (jcm hE (fun o e=>by simp[Op.operands,e]) h3 hl)) (conv (jcm hE (fun o e=>by simp[Op.operands,e]) h4 hh)) (f0d _) (f0d _)
     refine⟨.slice (some ad) 0 0,?_,ad,rfl⟩
     simp only[execOp,hρ,Sem.run_bind,f3i,hr,Result.andThen_ok]
     rfl
    .obtain ⟨hi1,hh,hv3⟩:=jaa.1 hv2
     obtain⟨lo1,hl,hv4⟩:=jaa.1 hv3
     obtain⟨h0,hv5⟩:=jab.1 hv4
     cases hv5
     rw[jgt] at h0
     have e1:hi1=0:=by have:hi1+lo1=0:=h0;omega
     have e2:lo1=0:=by have:hi1+lo1=0:=h0;omega
     subst e1 e2
     have hρ:ρ x=.slice none 0 0:=hx
     have hr:=jkj (w:=w) (lo:=0) (hi:=0) k1 k2.run_size none 0 0 (lo.map ρ) (hi.map ρ) (conv (jcm hE (fun o e=>by simp[Op.operands,e]) h3 hl)) (conv (jcm hE (fun o e=>by simp[Op.operands,e]) h4 hh)) (f0d _) (f0d _)
     refine⟨.slice none 0 0,?_,rfl⟩
     simp only[execOp,hρ,Sem.run_bind,f3i,hr,Result.andThen_ok]
     rfl
    .obtain ⟨hi1,hh,hv6⟩:=jaa.1 hv2
     obtain⟨lo1,hl,hv7⟩:=jaa.1 hv6
     obtain⟨h5,hv8⟩:=jab.1 hv7
     obtain⟨h6,hv9⟩:=jab.1 hv8
     obtain⟨h7,hv10⟩:=jab.1 hv9
     cases hv10
     obtain⟨rv,hr,hcs⟩:=jzi (A:=A) (φ:=φ) (w:=w) (show cS A φ (.slice b off len mc ex sz) (ρ x) from hx) k1 k2.run_size (conv (jcm hE (fun o e=>by simp[Op.operands,e]) h3 hl)) (conv (jcm hE (fun o e=>by simp[Op.operands,e]) h4 hh)) (f0g h5) (f0g h6) (f0i h7)
     refine⟨rv,?_,hcs⟩
     simp only[execOp,Sem.run_bind,f3i,hr,Result.andThen_ok]
     rfl
   .obtain ⟨_,_,e⟩:=f0a.1 hc;cases e
   .cases hc
 | fieldAddr t x f =>
  simp only[cOp] at hc
  split at hc
  .rename_i p x' h1 h2
   cases hc
   obtain⟨fields,fd,k1,k2,k3,k4,k5⟩:=jke hT h1
   obtain⟨u,hu,hv1⟩:=jaa.1 (show ob (ev st fr x') (fun v=>jev v (fun b o=>some (.s (.ptr b (Nat.add o p.1)))) (fun cs=>some (.s (.cp (jb4 p.1 cs)))))=some v from hv)
   rcases jb6 hv1 with⟨b,o,rfl,hv2⟩ | ⟨cs,rfl,hv2⟩
   rotate_left
   .cases hv2
    obtain⟨b,o,c,h1',hρ,h2'⟩:=(show cS A φ (.cp cs) (ρ x) from hE _ (by simp[Op.operands]) _ _ h2 hu)
    refine⟨.pointer (some ⟨b,o+p.1,none⟩),?_,j6x h1' h2' p.1⟩
    simp only[execOp,Instr.fieldAt,hρ,Sem.run_bind,run_underlying k1,Result.andThen_ok,k2,Instr.sureAddr,Sem.run_pure,fieldPlace,k4.run_size,k5,if_false,jb1,k3]
   cases hv2
   obtain⟨L,hL,hρ⟩:=(show jnf φ b o (ρ x) from hE _ (by simp[Op.operands]) _ _ h2 hu)
   refine⟨.pointer (some ⟨L.b,L.o+(o+p.1),none⟩),?_,L,hL,rfl⟩
   simp only[execOp,Instr.fieldAt,hρ,Sem.run_bind,run_underlying k1,Result.andThen_ok,k2,Instr.sureAddr,Sem.run_pure,fieldPlace,k4.run_size,k5,if_false,jb1,k3,f1r]
  .cases hc
 | field t x f =>
  simp only[cOp] at hc
  split at hc
  .rename_i p x' h1 h2
   cases hb:ti1 p.2 with
   | false=>rw[hb] at hc;cases hc
   | true =>
    rw[hb] at hc
    cases hc
    obtain⟨fields,fd,k1,k2,k3,k4,k5⟩:=jke hT h1
    obtain⟨u,hu,hv1⟩:=jaa.1 (show ob (ev st fr x') (fun v=>AV.casesOn (motive:=fun _=>Option AV) v (fun _=>none) (fun cs=>ob (jbp p.2.size (jb4 p.1 cs)) (fun cs=>jfg p.2.agg cs)) (fun _=>none) none none)=some v from hv)
    cases u with
    | agg cs =>
     obtain⟨xs,hxs,hv2⟩:=jaa.1 hv1
     obtain⟨vs,hρ,ha⟩:=(show ∃ vs:List Value,ρ x=.agg vs.toArray/\All2 (cS A φ) cs vs from hE _ (by simp[Op.operands]) _ _ h2 hu)
     obtain⟨rv,hr,hcv⟩:=jsd (w:=w) k4 hb (arr:=vs.toArray) (by simpa using ha) hxs hv2
     refine⟨rv,?_,hcv⟩
     simp only[execOp,Instr.field,hρ,Sem.run_bind,run_underlying k1,Result.andThen_ok,k2,asAgg,Sem.run_pure,k3,hr]
    | _=>cases hv1
  .cases hc
 | indexAddr t x i =>
  simp only[cOp] at hc
  split at hc
  .rename_i z x' i' h1 h3 h4
   cases hc
   obtain⟨k1,k2,k3⟩:=jbl hT h1
   obtain⟨u,hu,hv1⟩:=jaa.1 (show qor st fr z.2.size x' i'=some v from hv)
   obtain⟨u2,hu2,hv2⟩:=jaa.1 hv1
   rcases jay hv2 with⟨_,hv3⟩ | ⟨b,off,len,mc,ex,sz,rfl,hv3⟩ | ⟨rows,rfl,hv3⟩ | ⟨_,hv3⟩
   .cases hv3
   rotate_left
   .obtain ⟨k,m,rfl,hm,hv4⟩:=jfa hv3
    obtain⟨row,hrow,hv5⟩:=jaa.1 hv4
    obtain⟨hsz,hv6⟩:=jab.1 hv5
    cases hv6
    rw[ja7] at hm
    rw[jgt,ja7] at hsz
    rw[jcl] at hrow
    have hi:ρ i=.int k (m:Int):=hE _ (by simp[Op.operands]) _ _ h4 hu2
    obtain⟨ad,cap,hρ,hc,hcase⟩:=je2 (show cD A φ.k (.lst rows) (ρ x) from hE _ (by simp[Op.operands]) _ _ h3 hu)
    rcases hcase with rfl | ⟨b,o,sz,cs,e1,rfl,e3,e4⟩
    .simp at hm
    have e5:sz=z.2.size:=by rw[←e3 m row hrow,hsz]
    refine⟨.pointer (some ⟨b,o+m*z.2.size,none⟩),?_,b,o+m*z.2.size,cs,e1,rfl,fun j y hy=>by rw[←e5];exact e4 m j row y hrow hy⟩
    have hlt:(0:Int)<=(m:Int)/\(m:Int)<(rows.length:Int):=by omega
    simp only[execOp,Instr.indexAt,hρ,hi,asIntOf,Sem.run_bind,Sem.run_pure,run_underlying k1,Result.andThen_ok]
    rw[if_pos hlt]
    simp only[Sem.run_bind,k2.run_size,Result.andThen_ok,Sem.run_pure,f1m,jb1]
   .cases hv3
   obtain⟨k,m,rfl,hm,hv4⟩:=jfa hv3
   cases hv4
   have hi:ρ i=.int k (m:Int):=hE _ (by simp[Op.operands]) _ _ h4 hu2
   obtain⟨L,ad,cap,q1,hρ,q2,q3,q4,q5⟩:=(show cS A φ (.slice b off len mc ex sz) (ρ x) from hE _ (by simp[Op.operands]) _ _ h3 hu)
   have had:ad=⟨L.b,L.o+off,none⟩:=by
    rcases q5 with⟨h,_⟩ | h
    .exact h
    .omega
   refine⟨.pointer (some ⟨L.b,L.o+(off+m*z.2.size),none⟩),?_,L,q1,rfl⟩
   have hlt:(0:Int)<=(m:Int)/\(m:Int)<(len:Int):=by omega
   simp only[execOp,Instr.indexAt,hρ,hi,asIntOf,Sem.run_bind,Sem.run_pure,run_underlying k1,Result.andThen_ok]
   rw[if_pos hlt]
   simp only[Sem.run_bind,k2.run_size,Result.andThen_ok,Sem.run_pure,f1m,had,jb1,f1r]
  .rename_i z x' i' h1 h2 h3 h4
   cases hc
   obtain⟨e,k1,k2,k3⟩:=jh7 hT h2
   obtain⟨u,hu,hv5⟩:=jaa.1 (show qoq st fr z.1 z.2.size x' i'=some v from hv)
   obtain⟨u2,hu2,hv6⟩:=jaa.1 hv5
   rcases jb6 hv6 with⟨b,off,rfl,hv7⟩ | ⟨cs,rfl,hv7⟩
   rotate_left
   .obtain ⟨k,m,rfl,hm,hv8⟩:=jfa hv7
    cases hv8
    have hi:ρ i=.int k (m:Int):=hE _ (by simp[Op.operands]) _ _ h4 hu2
    obtain⟨b,o,c,h1',hρ,h2'⟩:=(show cS A φ (.cp cs) (ρ x) from hE _ (by simp[Op.operands]) _ _ h3 hu)
    refine⟨.pointer (some ⟨b,o+m*z.2.size,none⟩),?_,j6x h1' h2' _⟩
    have hlt:(0:Int)<=(m:Int)/\(m:Int)<(z.1:Int):=by omega
    simp only[execOp,Instr.indexAt,hρ,hi,asIntOf,Sem.run_bind,Sem.run_pure,run_underlying k1,Result.andThen_ok,Instr.sureAddr]
    rw[if_pos hlt]
    simp only[Sem.run_bind,k2.run_size,Result.andThen_ok,Sem.run_pure,f1m,jb1]
   obtain⟨k,m,rfl,hm,hv8⟩:=jfa hv7
   cases hv8
   have hi:ρ i=.int k (m:Int):=hE _ (by simp[Op.operands]) _ _ h4 hu2
   obtain⟨L,hL,hρ⟩:=(show jnf φ b off (ρ x) from hE _ (by simp[Op.operands]) _ _ h3 hu)
   refine⟨.pointer (some ⟨L.b,L.o+(off+m*z.2.size),none⟩),?_,L,hL,rfl⟩
   have hlt:(0:Int)<=(m:Int)/\(m:Int)<(z.1:Int):=by omega
   simp only[execOp,Instr.indexAt,hρ,hi,asIntOf,Sem.run_bind,Sem.run_pure,run_underlying k1,Result.andThen_ok,Instr.sureAddr]
   rw[if_pos hlt]
   simp only[Sem.run_bind,k2.run_size,Result.andThen_ok,Sem.run_pure,f1m,jb1,f1r]
  .cases hc
 | index t x i =>
  simp only[cOp] at hc
  cases hst:jc7 T t with
  | true =>
   rw[hst] at hc
   simp only[cond_true] at hc
   split at hc
   .rename_i x' i' h2 h3
    cases hc
    have k1:=jji hT hst
    obtain⟨u,hu,hv1⟩:=jaa.1 (show qe0 st fr x' i'=some v from hv)
    obtain⟨u2,hu2,hv2⟩:=jaa.1 hv1
    obtain⟨s,rfl,hv3⟩:=jca hv2
    cases s with
    | str l =>
     obtain⟨k,m,rfl,hm,hv4⟩:=jfa (show below u2 (jb2 l) (fun m=>ob (jec l m) (fun b=>some (.s (.int .u8 (Int.ofNat (UInt8.toNat b))))))=some v from hv3)
     obtain⟨b,hb,hv5⟩:=jaa.1 hv4
     cases hv5
     rw[jcl] at hb
     have hi:ρ i=.int k (m:Int):=hE _ (by simp[Op.operands]) _ _ h3 hu2
     have hρ:ρ x=.string ⟨l.toArray⟩:=hE _ (by simp[Op.operands]) _ _ h2 hu
     have hlt:(0:Int)<=(m:Int):=by omega
     have hg:(⟨l.toArray⟩:ByteArray)[m]?=some b:=by
      have hm2:m<(⟨l.toArray⟩:ByteArray).size:=by
       show m<l.toArray.size
       rw[ja7] at hm
       simpa using hm
      rw[getElem?_pos (⟨l.toArray⟩:ByteArray) m hm2]
      have hb2:l.toArray[m]?=some b:=by simpa using hb
      obtain⟨h7,h8⟩:=f05.1 hb2
      exact congrArg some h8
     refine⟨.int .u8 (b.toNat:Int),?_,rfl⟩
     simp only[execOp,Instr.index,hρ,hi,asIntOf,Sem.run_bind,Sem.run_pure,run_underlying k1,Result.andThen_ok,if_pos hlt,f1m,hg]
    | _=>cases hv3
   .cases hc
  | false =>
  rw[hst] at hc
  simp only[cond_false] at hc
  split at hc
  .rename_i z x' i' h1 h2 h3
   cases hb:ti1 z.2 with
   | false=>rw[hb] at hc;cases hc
   | true =>
    rw[hb] at hc
    cases hc
    obtain⟨e,k1,k2,k3⟩:=jh7 hT h1
    obtain⟨u,hu,hv1⟩:=jaa.1 (show ob (ev st fr x') (fun v=>ob (ev st fr i') (fun w=>AV.casesOn (motive:=fun _=>Option AV) v (fun _=>none) (fun cs=>below w z.1 (fun m=>ob (jbp z.2.size (jb4 (Nat.mul m z.2.size) cs)) (fun cs=>jfg z.2.agg cs))) (fun _=>none) none none))=some v from hv)
    obtain⟨u2,hu2,hv2⟩:=jaa.1 hv1
    cases u with
    | agg cs =>
     obtain⟨k,m,rfl,hm,hv3⟩:=jfa hv2
     obtain⟨xs,hxs,hv4⟩:=jaa.1 hv3
     have hi:ρ i=.int k (m:Int):=hE _ (by simp[Op.operands]) _ _ h3 hu2
     obtain⟨vs,hρ,ha⟩:=(show ∃ vs:List Value,ρ x=.agg vs.toArray/\All2 (cS A φ) cs vs from hE _ (by simp[Op.operands]) _ _ h2 hu)
     obtain⟨rv,hr,hcv⟩:=jsd (w:=w) k2 hb (arr:=vs.toArray) (by simpa using ha) hxs hv4
     refine⟨rv,?_,hcv⟩
     have hlt:(0:Int)<=(m:Int)/\(m:Int)<(z.1:Int):=by omega
     have hr':(part e vs.toArray (m*z.2.size)).run P w=.ok rv w:=hr
     simp only[execOp,Instr.index,hρ,hi,asIntOf,Sem.run_bind,Sem.run_pure,run_underlying k1,Result.andThen_ok]
     rw[if_pos hlt]
     simp only[Sem.run_bind,k2.run_size,Result.andThen_ok,Sem.run_pure,f1m,hr']
    | _=>cases hv2
  .cases hc
 | extract x i =>
  obtain⟨y,hy,e⟩:=f0a.1 hc
  cases e
  obtain⟨u,hu,hv1⟩:=jaa.1 (show ob (ev st fr y) (fun v=>AV.casesOn (motive:=fun _=>Option AV) v (fun _=>none) (fun _=>none) (fun l=>ob (jec l i) (fun p=>jfg p.1 p.2)) none none)=some v from hv)
  cases u with
  | tup l =>
   obtain⟨p,hp,hv2⟩:=jaa.1 hv1
   rw[jcl] at hp
   obtain⟨vs,hρ,ha⟩:=(show ∃ vs:List Value,ρ x=.tuple vs.toArray/\All2 (fun p x=>cV1 A φ p.1 p.2 x) l vs from hE _ (by simp[Op.operands]) _ _ hy hu)
   obtain⟨rv,h1,h2⟩:=ha.get _ _ hp
   refine⟨rv,by simp[execOp,hρ,Instr.extract,h1],?_⟩
   unfold cV1 at h2
   rcases jgu hv2 with⟨e,rfl⟩ | ⟨e,s,hs,rfl⟩
   .rw [if_pos e] at h2;exact h2
   .rw [e] at h2
    simp only[f0v,if_false] at h2
    obtain⟨s',h3,h4⟩:=h2
    rw[hs] at h3
    cases h3
    exact h4
  | _=>cases hv1
 | call c =>
  obtain⟨callee,args,argTypes⟩:=c
  simp only[cOp,j6k] at hc
  split at hc
  .rename_i as has
   split at hc
   .cases hc
   .obtain ⟨y,_,e⟩:=f0a.1 hc
    cases e
   .rename_i b
    split at hc
    .rename_i x
     split at hc
     .rename_i t ht
      cases hst:jc7 T t with
      | true=>rw[hst] at hc;cases hc
      | false =>
      rw[hst] at hc
      simp only[cond_false] at hc
      obtain⟨z,hz,e⟩:=f0a.1 hc
      cases e
      obtain⟨k1,_,_⟩:=jbl hT hz
      obtain⟨o,ho,hx⟩:=jtp has
      have hargs:args.map ρ=#[ρ o]:=by rw[←f1x,f2d,ho];rfl
      obtain⟨u,hu,hv1⟩:=jaa.1 (show qot st fr x=some v from hv)
      have hr:∀ a n c,ρ o=.slice a n c->(execOp ρ ⟨dst,.call ⟨.builtin .len,args,argTypes⟩,type,pos,after,guard⟩).run P w=.ok (.value (goInt n)) w:=by
       intro a n c h
       simp only[execOp,resolve,invoke,builtin,Sem.run_bind,Sem.run_pure,Result.andThen_ok,hargs,h,Builtin.len_,ht]
       simp[run_underlying k1]
      rcases jay hv1 with⟨rfl,hv2⟩ | ⟨b,off,len,mc,ex,sz,rfl,hv2⟩ | ⟨rows,rfl,hv2⟩ | ⟨rfl,hv2⟩
      rotate_left 2
      .cases hv2
       obtain⟨ad,cap,hρ,_⟩:=je2 (show cD A φ.k (.lst rows) (ρ o) from hE _ (jb0 (by rw[ho];simp)) _ _ hx hu)
       exact⟨_,hr _ _ _ hρ,by rw[ja7];rfl⟩
      .cases hv2
       obtain⟨ad,hρ⟩:=(show cS A φ .emp (ρ o) from hE _ (jb0 (by rw[ho];simp)) _ _ hx hu)
       exact⟨_,hr _ _ _ hρ,rfl⟩
      .cases hv2
       exact⟨_,hr _ _ _ (hE _ (jb0 (by rw[ho];simp)) _ _ hx hu),rfl⟩
      .cases hv2
       obtain⟨L,ad,cap,q1,hρ,_⟩:=(show cS A φ (.slice b off len mc ex sz) (ρ o) from hE _ (jb0 (by rw[ho];simp)) _ _ hx hu)
       exact⟨_,hr _ _ _ hρ,rfl⟩
     .cases hc
    .rename_i x y
     cases hc
     obtain⟨o,o',ho,hx,hy⟩:=jtq has
     have hargs:args.map ρ=#[ρ o,ρ o']:=by rw[←f1x,f2d,ho];rfl
     obtain⟨u,hu,hv1⟩:=jaa.1 (show ob (ev st fr x) (fun a=>ob (ev st fr y) (fun b=>jn3 a (fun k m=>jn3 b (fun k' n=>oif (Nat.beq (ikn k) (ikn k')) (some (.s (.int k (oif (ile m n) (oif true n m) (oif true m n))))) none))))=some v from hv)
     obtain⟨u',hu',hv2⟩:=jaa.1 hv1
     obtain⟨k,m,rfl,hv3⟩:=jd3 hv2
     obtain⟨k',n,rfl,hv4⟩:=jd3 hv3
     obtain⟨hk,hv5⟩:=jab.1 hv4
     obtain rfl:=jlz hk
     cases hv5
     refine⟨_,?_,rfl⟩
     have h1:ρ o=.int k m:=hE _ (jb0 (by rw[ho];simp)) _ _ hx hu
     have h2:ρ o'=.int k n:=hE _ (jb0 (by rw[ho];simp)) _ _ hy hu'
     simp only[execOp,resolve,invoke,builtin,Sem.run_bind,Sem.run_pure,Result.andThen_ok,hargs,h1,h2,j6t]
     rfl
    .rename_i x y
     cases hc
     obtain⟨o,o',ho,hx,hy⟩:=jtq has
     have hargs:args.map ρ=#[ρ o,ρ o']:=by rw[←f1x,f2d,ho];rfl
     obtain⟨u,hu,hv1⟩:=jaa.1 (show ob (ev st fr x) (fun a=>ob (ev st fr y) (fun b=>jn3 a (fun k m=>jn3 b (fun k' n=>oif (Nat.beq (ikn k) (ikn k')) (some (.s (.int k (oif (ile m n) (oif false n m) (oif false m n))))) none))))=some v from hv)
     obtain⟨u',hu',hv2⟩:=jaa.1 hv1
     obtain⟨k,m,rfl,hv3⟩:=jd3 hv2
     obtain⟨k',n,rfl,hv4⟩:=jd3 hv3
     obtain⟨hk,hv5⟩:=jab.1 hv4
     obtain rfl:=jlz hk
     cases hv5
     refine⟨_,?_,rfl⟩
     have h1:ρ o=.int k m:=hE _ (jb0 (by rw[ho];simp)) _ _ hx hu
     have h2:ρ o'=.int k n:=hE _ (jb0 (by rw[ho];simp)) _ _ hy hu'
     simp only[execOp,resolve,invoke,builtin,Sem.run_bind,Sem.run_pure,Result.andThen_ok,hargs,h1,h2,j6u]
     rfl
    .split at hc
     .obtain ⟨_,_,e⟩:=f0a.1 hc;cases e
     .cases hc
    .split at hc
     .obtain ⟨_,_,e⟩:=f0a.1 hc;cases e
     .cases hc
    .split at hc
     .obtain ⟨_,_,_,⟨_,e⟩ | ⟨_,_,_,_,e⟩⟩:=jkb hc<;>cases e
     .cases hc
    .cases hc
   .cases hc
  .cases hc
 | alloc e=>obtain⟨_,_,e⟩:=f0a.1 hc;cases e
 | box e x=>obtain⟨_,_,e⟩:=f0a.1 hc;cases e
 | buildSlice t n ps =>
  simp only[cOp] at hc
  split at hc
  .rename_i z hz
   cases hb:Nat.ble (n*z.2.size) 16777216 with
   | true=>rw[hb] at hc;obtain⟨_,_,e⟩:=f0a.1 hc;cases e
   | false=>rw[hb] at hc;cases hc
  .cases hc
 | load t x =>
  simp only[cOp] at hc
  split at hc
  .rename_i ti y _ _
   cases hb:ti1 ti with
   | true=>rw[hb] at hc;cases hc
   | false=>rw[hb] at hc;cases hc
  .cases hc
 | store t x v=>simp only[cOp] at hc;split at hc<;>cases hc
 | makeSlice t l c=>simp only[cOp] at hc;split at hc<;>cases hc
 | makeMap t r=>cases r with
  | none=>obtain⟨_,_,e⟩:=f0a.1 hc;cases e
  | some _=>cases hc
 | lookup t x k okf=>simp only[cOp] at hc;split at hc<;>cases hc
 | mapUpdate t x k v=>simp only[cOp] at hc;split at hc<;>cases hc
 | _=>cases hc
end
end Go.Proofs.YtdbklpgagdbpiaaDoor.Ev
