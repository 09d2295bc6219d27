/- Code of functions as the interpreter has it prepared: a range over a function. -/
import Derived.Test.YtehhjbfmjdlcjaaWb
import Derived.Test.YtehhjbfmjdlcjaaBf
import Derived.Test.YtehhjbfmjdlcjaaMc4
import Derived.Test.YtehhjbfmjdlcjaaUi
import Derived.Test.YtehhjbfmjdlcjaaBi
namespace Go.Proofs.Ytehhjbfmjdlcjaa.Ev
open Go Go.RowKit
set_option linter.all false
set_option maxRecDepth 100000
open Go Go.RowKit Go.Proofs.Ytehhjbfmjdlcjaa.Ms
set_option maxHeartbeats 4000000
variable {f:Fc} {s:List Bool} {N:Nat} {m:Nat×Nat}
def EWr (row:List SV) (n:Nat) (ns:List Nat):Prop:=row=jnj n/\ns=[]
theorem que:∀ (l:List Nat),Rows 1 EWr (l.map jnj) l []
 | []=>.nil
 | a::l=>by
  have:=Rows.cons (sz:=1) (E:=EWr) (row:=jnj a) (a:=a) (ns:=[]) rfl ⟨rfl,rfl⟩ (que l)
  exact this
theorem BW.frz {k:Bool} {h:Hp} {x:SV} {c:Nat} {ws:List Nat} (b:BW h x N ws c) (h1:1<=N):jhh k h 2 x=some (jae jnj ws):=by
 obtain⟨ex,rfl⟩:=b.ex
 have hl:=b.wo.1
 have hne:ws≠[]:=by intro e;rw[e] at hl;simp at hl;omega
 have s:Sl h 124 1 ex EWr (.slice c 0 ws.length ws.length ex 1) ws [c]:=.inr ⟨hne,c,_,[],rfl,b.xc,que ws,rfl⟩
 rw[hl] at s
 exact s.frz (enc:=jnj) (d:=1) (fun row a ms e=>by obtain⟨rfl,_⟩:=e;rfl) (fun _=>rfl)
def SLv (f:FuncId):Bool:=Nat.beq f 64||Nat.beq f 27||Nat.beq f 14
noncomputable def FL1:Fns:=PX SLv F12
theorem jq3 {f:FuncId} (h:(S1 f||Nat.beq f jfa.f||S3 f||S4 f||S5 f||S6 f||S7 f||S8 f||S9 f||S10 f||S11 f||S12 f)=false) {vs:List AV} {hp:Hp}:jcj F12 f vs hp=none:=by
 simp only[Bool.or_eq_false_iff] at h
 obtain⟨⟨⟨⟨⟨⟨⟨⟨⟨⟨⟨h1,h2⟩,h3⟩,h4⟩,h5⟩,h6⟩,h7⟩,h8⟩,h9⟩,h10⟩,h11⟩,h12⟩:=h
 exact q0p h1 h2 h3 h4 h5 h6 h7 h8 h9 h10 h11 h12
theorem qya:LvF F12 where
 none:=fun f hf vs h=>by
  simp only[f0e,f01,or_false] at hf
  rcases hf with rfl | rfl | rfl | rfl | rfl | rfl | rfl | rfl | rfl<;>exact jq3 rfl
 T:=fun f=>rfl
theorem qyb:RdF FL1 where
 none:=fun f hf vs h=>by
  simp only[f0e,f01,or_false] at hf
  rcases hf with rfl | rfl | rfl | rfl | rfl | rfl | rfl<;>exact(jbb rfl).trans (jq3 rfl)
 T:=fun f=>rfl
 made:=fun h f b N hN h1 hv hb=>jbf rfl (by simp only[jat,ja0,ja7,jb0,ja1,ja8,ja5,jbj,ja9,jbg,if_true]) (WC.imp (qa1 qya jdo hN hv hb) (fun v h' ⟨x,c,e,_,_,_,_,_,bw⟩=>⟨2,by rw[e];exact jaa.2 ⟨_,bw.frz h1,rfl⟩⟩))
 list:=fun h N n ws hw hn hn2=>jbf rfl (by simp only[jat,ja0,ja7,jb0,ja1,ja8,ja5,jbj,ja9,jbg,if_true]) (qle jdo hw hn hn2 (jq3 rfl) rfl (fun _ _=>jq3 rfl) rfl)
theorem qyc:CmF FL1:=⟨qyb,fun vs h=>(jbb rfl).trans (jq3 rfl)⟩
noncomputable def FLB:Fns:=BX isB qu8 FL1
theorem qyd {A:Nat->Int}:Env Try.prog A tys FLB:=qf2 (jfw qx7) quc (qy1 qsg)
section
variable {h:Hp} {Q:AV->Hp->Prop}
theorem j09 {ord:List Nat} (ok:Ok h) (lv:LvOk f N) (hne:f.blocks≠[]) (ho:ord≠[]) (hol:ord.length<=1000) (hoq:∀ q∈ord,q<f.blocks.length) :
 WC FLB 26 [.agg [jae jal f.values,jae jaw f.blocks],.s (jae jal ord)] h (qx9 h f N ord):=j08 qyc ok lv hne ho hol hoq
end
def ELi (row:List SV) (l:List Nat) (ns:List Nat):Prop:=row=[jae jal l]/\ns=[]
structure SI (hi:Hp) (f:Fc) (N p ci co sx fx L:Nat) (ic oc:List Nat) (ins outs:List (List Nat)) (i:Nat) (ni no:List Nat) (xi xo:SV):Prop where
 ns:NS hi f N p ci co ic oc ins outs
 xs:hi.get sx=some (.arr [xi,xo] 52)
 xf:hi.get fx=some (.arr [jae jal f.values,jae jaw f.blocks] 30)
 si:Sl hi 27 1 false ELi xi ((ins.take i).map (fun ws=>jfp ws f.values.length)) ni
 so:Sl hi 27 1 false ELi xo ((outs.take i).map (fun ws=>jfp ws f.values.length)) no
 ti:ni.tail=[]
 to:no.tail=[]
 bl:1<=sx/\sx<L/\1<=fx/\fx<L/\sx≠fx/\L<=hi.next
 bn:∀ n∈p::ci::co::(ic++oc),n<L/\n≠sx
 lo:∀ n∈ni++no,L<=n/\n<hi.next
 dj:∀ n∈ni,n∉no
theorem qpr (k:FcOk m f) (hv:f.values≠[]):LvOk f ((f.values.length+63) / 64):=by
 have hnv:=k.nv
 have hp:=f1g.2 hv
 refine⟨k.nb.2,by omega,rfl,by omega,fun b hb=>?_⟩
 have h1:=k.blk b hb
 refine⟨h1.1,h1.2.1,h1.2.2,k.prm b hb,fun x hx=>⟨(k.ins b hb x hx).nops,fun o ho=>((k.ins b hb x hx).opd o ho).val⟩,fun e he=>?_⟩
 obtain⟨_,h3,t,h4,h5,_⟩:=k.edg b hb e he
 have h6:=congrArg List.length h5
 simp only[f1b] at h6
 have:=(k.blk t (f0b h4)).1
 exact⟨by omega,(f0h.1 h4).1,h3⟩
def q0q (s:List Bool):Bool:=(Nat.ble 1 (jk1 s 0).length&&Nat.ble (jk1 s 0).length 100)&&((jk1 s 0).all (fun q=>Nat.blt q (1+3*s.length))&&(List.range (1+3*s.length)).all (fun q=>(jk1 s 0).any (fun x=>Nat.beq x q)))
theorem qfk:(shp 5).all q0q=true:=by kernel_rfl
theorem quf (hs:s.length<=5):jk1 s 0≠[]/\(jk1 s 0).length<=100/\(∀ q∈jk1 s 0,q<1+3*s.length)/\∀ q,q<1+3*s.length->q∈jk1 s 0:=by
 have h:=qbx qfk hs
 have ha:∀ {a b:Bool},(a&&b)=true->a=true/\b=true:=fun {a b} h=>by cases a<;>cases b<;>first | exact⟨rfl,rfl⟩ | cases h
 obtain⟨h12,h34⟩:=ha h
 obtain⟨h1,h2⟩:=ha h12
 obtain⟨h3,h4⟩:=ha h34
 refine⟨fun e=>(by rw[e] at h1;cases h1),f0m h2,fun q hq=>f0m (f20.1 h3 q hq),fun q hq=>?_⟩
 obtain⟨x,hx,e⟩:=List.any_eq_true.1 (f20.1 h4 q (f2f.2 hq))
 obtain rfl:=f0v e
 exact hx
theorem qfl {h:Hp} {Q:AV->Hp->Prop} (o:FlOk m f s) (m1:2<=m.1/\m.1<=10) (m2:2<=m.2/\m.2<=10):WC FLB 12 [.agg [jae jal f.values,jae jaw f.blocks],.agg [si m.1,si m.2]] h Q=Q (qb2 s) h :=
 jaq ((jil rfl).trans ((jbb rfl).trans (jbf rfl (by simp only[jat,ja0,ja7,jb0,ja1,ja8,ja5,jbj,ja9,jbg,if_true]) (qpn jdo o m1 m2))))
end Go.Proofs.Ytehhjbfmjdlcjaa.Ev
