/- What the interpreter leaves of its own heap, whatever the world. No program in sight. -/
import Derived.Test.YtehhjbfmjdlcjaaStep
namespace Go.Proofs.Ytehhjbfmjdlcjaa.Ev
open Go
set_option linter.all false
section
variable {h h':Hp} {st fr:List AV} {W V:Nat->Prop}
def jjn (cl:FuncId->List AV->Hp->R):Prop:=∀ f vs h v h',WF h->cl f vs h=some (v,h')->Abs (fun n=>h.lo<=n) h h'
theorem Abs.any (k:Abs (fun _=>False) h h'):Abs W h h':=k.mono (fun _ h=>h.elim)
theorem jl0 (k:WF h) {cs:List SV} {ty:TypeId} {g:Nat->AV} {v:AV} (hv:nw h cs ty (fun n h=>ok (g n) h)=some (v,h')):Abs (fun _=>False) h h':=by
 obtain⟨h1,h2,h3⟩:=jry hv
 cases h3
 exact Abs.push _ k h1 h2 _
theorem j0s (k:WF h) {b off:Nat} {xs:List SV} (hw:wr h b off xs=some h'):Abs (fun n=>n=b) h h'/\h.lo<=b:=by
 obtain⟨hlo,cs,ty,hg,_,rfl⟩:=jnf hw
 exact⟨Abs.put k (by rw[hg];rfl) _,hlo⟩
theorem qg9 (k:WF h) {e:TypeId} {size bytes:Nat} {x y:Od} {v:AV} (hv:qgx st fr h e size bytes x y=some (v,h')) :
 Abs (jxu h (jb2 st fr (.a (.app e size bytes x y)))) h h'/\Abs (fun n=>h.lo<=n) h h':=by
 obtain⟨u,hu,hv1⟩:=jac.1 hv
 obtain⟨u',hu',hv2⟩:=jac.1 hv1
 have stay:ok u h=some (v,h')->Abs (jxu h (jb2 st fr (.a (.app e size bytes x y)))) h h'/\Abs (fun n=>h.lo<=n) h h':=by
  intro hv2
  cases hv2
  exact⟨Abs.refl _ k,Abs.refl _ k⟩
 have any:qbf u (ok u h)=some (v,h')->Abs (jxu h (jb2 st fr (.a (.app e size bytes x y)))) h h'/\Abs (fun n=>h.lo<=n) h h':=by
  intro hv3
  rcases ja2 hv3 with⟨_,hv4⟩ | ⟨_,_,_,_,_,_,_,hv4⟩ | ⟨_,_,hv4⟩ | ⟨_,hv4⟩<;>exact stay hv4
 have core:∀ (m:Nat) (new:List SV),j3h h e size bytes m u new=some (v,h')->Abs (jxu h (jb2 st fr (.a (.app e size bytes x y)))) h h'/\Abs (fun n=>h.lo<=n) h h':=by
  intro m new hv5
  have fresh:Nat.casesOn (motive:=fun _=>R) m (ok u h) (fun _=>jkk bytes m (nw h new e (fun k h=>ok (.s (.slice k 0 m m false size)) h)))=some (v,h')->Abs (jxu h (jb2 st fr (.a (.app e size bytes x y)))) h h'/\Abs (fun n=>h.lo<=n) h h':=by
   intro hv6
   cases m with
   | zero=>exact stay hv6
   | succ m =>
    obtain⟨_,hv7⟩:=jae.1 (show oif (Nat.ble (Nat.mul (m+1) bytes) 1000000000) (oif (Nat.ble (m+1) 1000000000) (nw h new e (fun k h=>ok (.s (.slice k 0 (m+1) (m+1) false size)) h)) none) none=some (v,h') from hv6)
    obtain⟨_,hv8⟩:=jae.1 hv7
    have a:=jl0 k hv8
    exact⟨a.any,a.any⟩
  rcases ja2 hv5 with⟨rfl,hv6⟩ | ⟨b,off,n,mc,ex,sz,rfl,hv6⟩ | ⟨_,_,hv6⟩ | ⟨rfl,hv6⟩
  ·exact fresh hv6
  rotate_left
  ·cases hv6
  ·exact fresh hv6
  ·have hcls:jb2 st fr (.a (.app e size bytes x y))=.app b:=by
    show jvm (ob (ev st fr x) (fun v=>ji8 v none (fun b _ _ _ _ _=>some b))) .app=_
    rw[hu];rfl
   rw[hcls]
   obtain⟨_,hv9⟩:=jae.1 hv6
   rw[jaw] at hv9
   split at hv9
   ·obtain⟨h1,hw,hv10⟩:=jac.1 hv9
    cases hv10
    obtain⟨a,hlo⟩:=j0s k hw
    exact⟨a,a.mono (fun n e=>by subst e;exact hlo)⟩
   ·obtain⟨_,hv11⟩:=jae.1 (show oif (Nat.ble (Nat.mul (Nat.add n m) bytes) 1000000000) (oif (Nat.ble (Nat.add n m) 1000000000) (jij h e size b off n m ex new) none) none=some (v,h') from hv9)
    obtain⟨_,hv12⟩:=jae.1 hv11
    obtain⟨ab,hab,hv13⟩:=jac.1 hv12
    cases ab with
    | map va es=>cases hv13
    | arr cs ty =>
    obtain⟨old,hold,hv14⟩:=jac.1 (show ob (jb5 (Nat.mul n size) (jcj off cs)) (fun old=>Bool.rec (motive:=fun _=>R)
     (oif (Nat.ble h.lo b) (oif (Nat.beq ty e) (nw (h.put b none) (jgo old new) e (fun k h=>ok (.s (.slice k 0 (Nat.add n m) (Nat.add n m) false size)) h)) none) none)
     (nw h (jgo old new) e (fun k h=>ok (.s (.slice k 0 (Nat.add n m) (Nat.add n m) false size)) h)) ex)=some (v,h') from hv13)
    cases ex with
    | true =>
     have a:=jl0 k (show nw h (jgo old new) e (fun k h=>ok (.s (.slice k 0 (Nat.add n m) (Nat.add n m) false size)) h)=some (v,h') from hv14)
     exact⟨a.any,a.any⟩
    | false =>
     obtain⟨hlo,hv15⟩:=jae.1 (show oif (Nat.ble h.lo b) (oif (Nat.beq ty e) (nw (h.put b none) (jgo old new) e (fun k h=>ok (.s (.slice k 0 (Nat.add n m) (Nat.add n m) false size)) h)) none) none=some (v,h') from hv14)
     obtain⟨_,hv16⟩:=jae.1 hv15
     have hlo':h.lo<=b:=f0w hlo
     have a1:=Abs.put k (show(h.get b).isSome=true by rw[hab];rfl) none
     have a2:=(jl0 a1.wf hv16).any (W:=fun n=>n=b)
     have a:=a1.trans a2
     exact⟨a,a.mono (fun n e=>by subst e;exact hlo')⟩
 rcases ja2 hv2 with⟨_,hv3⟩ | ⟨b',off',m,mc',ex',sz',rfl,hv3⟩ | ⟨rows,_,hv3⟩ | ⟨_,hv3⟩
 ·exact any hv3
 ·obtain⟨new,hnew,hv5⟩:=jac.1 hv3
  exact core m new hv5
 ·obtain⟨new,hnew,hv5⟩:=jac.1 hv3
  exact core (jd4 rows) new hv5
 ·exact any hv3
theorem jeo (k:WF h) {cl:FuncId->List AV->Hp->R} (hcl:jjn cl) {op:IOp} {v:AV} (hv:iop cl st fr h op=some (v,h')) :
 Abs (jxu h (jb2 st fr op)) h h'/\Abs (fun n=>h.lo<=n) h h':=by
 have jq2:Abs (fun _=>False) h h'->Abs (jxu h (jb2 st fr op)) h h'/\Abs (fun n=>h.lo<=n) h h':=fun a=>⟨a.any,a.any⟩
 cases op with
 | p po =>
  obtain⟨v',hv',h2⟩:=jac.1 (show ob (pop st fr po) (fun v=>ok v h)=some (v,h') from hv)
  cases h2
  exact jq2 (Abs.refl _ k)
 | a ao =>
  cases ao with
  | new e z=>exact jq2 (jl0 k (show nw h z e (fun n h=>ok (.s (.ptr n 0)) h)=some (v,h') from hv))
  | box e x =>
   obtain⟨u,hu,hv1⟩:=jac.1 (show ob (ev st fr x) (fun v=>cel v (fun cs=>nw h cs e (fun n h=>ok (.s (.ptr n 0)) h)))=some (v,h') from hv)
   cases u with
   | s x=>exact jq2 (jl0 k (show nw h [x] e (fun n h=>ok (.s (.ptr n 0)) h)=some (v,h') from hv1))
   | agg l=>exact jq2 (jl0 k (show nw h l e (fun n h=>ok (.s (.ptr n 0)) h)=some (v,h') from hv1))
   | _=>cases hv1
  | bslice e size z len ps =>
   obtain⟨u,hu,hv1⟩:=jac.1 (show ob (fill st fr ps z) (fun cs=>nw h cs e (fun n h=>ok (.s (.slice n 0 len len true size)) h))=some (v,h') from hv)
   exact jq2 (jl0 k hv1)
  | mkslice e size bytes z l c =>
   obtain⟨u,hu,hv1⟩:=jac.1 (show jf8 st fr h e size bytes z l c=some (v,h') from hv)
   obtain⟨u',hu',hv2⟩:=jac.1 hv1
   obtain⟨m,_,hv3⟩:=je5 hv2
   obtain⟨n,_,hv4⟩:=je5 hv3
   obtain⟨_,hv5⟩:=jae.1 hv4
   obtain⟨_,hv6⟩:=jae.1 hv5
   obtain⟨_,hv7⟩:=jae.1 hv6
   exact jq2 (jl0 k hv7)
  | load n agg x =>
   obtain⟨u,hu,hv1⟩:=jac.1 (show ji9 st fr h n agg x=some (v,h') from hv)
   rcases jc2 hv1 with⟨b,off,_,hv2⟩ | ⟨cs0,_,hv2⟩
   ·obtain⟨cs,hcs,hv3⟩:=jac.1 hv2
    obtain⟨v',hv',hv4⟩:=jac.1 hv3
    cases hv4
    exact jq2 (Abs.refl _ k)
   ·obtain⟨cs,hcs,hv3⟩:=jac.1 hv2
    obtain⟨v',hv',hv4⟩:=jac.1 hv3
    cases hv4
    exact jq2 (Abs.refl _ k)
  | store n x y =>
   obtain⟨p,hp,hv1⟩:=jac.1 (show jxx st fr h n x y=some (v,h') from hv)
   obtain⟨u,hu,hv2⟩:=jac.1 hv1
   obtain⟨b,off,hpb,hv3⟩:=jje hv2
   have:∃ cs,oif (Nat.beq (jd4 cs) n) (ob (wr h b off cs) (fun h=>ok .undef h)) none=some (v,h'):=by
    cases u with
    | s x=>exact⟨_,hv3⟩
    | agg l=>exact⟨_,hv3⟩
    | _=>cases hv3
   obtain⟨cs,hv4⟩:=this
   obtain⟨_,hv5⟩:=jae.1 hv4
   obtain⟨h1,hw,hv6⟩:=jac.1 hv5
   cases hv6
   obtain⟨a,hlo⟩:=j0s k hw
   have a':=a.mono (V:=fun n=>h.lo<=n) (fun n e=>by subst e;exact hlo)
   subst hpb
   have hcls:jb2 st fr (.a (.store n x y))=.app b:=by
    show jvm (ob (ev st fr x) (fun v=>jvf v (fun b _=>some b))) .app=_
    rw[hp];rfl
   rw[hcls]
   exact⟨a,a'⟩
  | call f as =>
   obtain⟨vs,hvs,hv1⟩:=jac.1 (show ob (evs st fr as) (fun vs=>cl f vs h)=some (v,h') from hv)
   have a:=hcl _ _ _ _ _ k hv1
   exact⟨a,a⟩
  | callv x as =>
   obtain⟨u,hu,hv1⟩:=jac.1 (show ob (ev st fr x) (fun v=>jvl v (fun f caps=>ob (evs st fr as) (fun vs=>cl f (jgo vs (jf7 caps)) h)))=some (v,h') from hv)
   obtain⟨f,caps,_,hv2⟩:=jd6 hv1
   obtain⟨vs,hvs,hv3⟩:=jac.1 hv2
   have a:=hcl _ _ _ _ _ k hv3
   exact⟨a,a⟩
  | app e size bytes x y=>exact qg9 k hv
  | copy size x y =>
   obtain⟨u,hu,hv1⟩:=jac.1 (show j4y st fr h size x y=some (v,h') from hv)
   obtain⟨u',hu',hv2⟩:=jac.1 hv1
   have stay:ok (.s (.int .i64 0)) h=some (v,h')->Abs (fun n=>h.lo<=n) h h':=by
    intro hv
    cases hv
    exact Abs.refl _ k
   have any:∀ w,qbf w (ok (.s (.int .i64 0)) h)=some (v,h')->Abs (fun n=>h.lo<=n) h h':=by
    intro w hv3
    rcases ja2 hv3 with⟨_,hv4⟩ | ⟨_,_,_,_,_,_,_,hv4⟩ | ⟨_,_,hv4⟩ | ⟨_,hv4⟩<;>exact stay hv4
   rcases ja2 hv2 with⟨_,hv3⟩ | ⟨b,off,n,mc,ex,sz,_,hv3⟩ | ⟨_,_,hv3⟩ | ⟨_,hv3⟩
   ·exact⟨any _ hv3,any _ hv3⟩
   rotate_left
   ·cases hv3
   ·exact⟨any _ hv3,any _ hv3⟩
   ·rcases ja2 hv3 with⟨_,hv4⟩ | ⟨b',off',m,mc',ex',sz',_,hv4⟩ | ⟨rows,_,hv4⟩ | ⟨_,hv4⟩
    ·exact⟨stay hv4,stay hv4⟩
    ·obtain⟨cs,hcs,hv5⟩:=jac.1 hv4
     obtain⟨h1,hw,hv6⟩:=jac.1 hv5
     cases hv6
     obtain⟨a,hlo⟩:=j0s k hw
     have a':=a.mono (V:=fun n=>h.lo<=n) (fun n e=>by subst e;exact hlo)
     exact⟨a',a'⟩
    ·obtain⟨al,hal,hv5⟩:=jac.1 hv4
     obtain⟨cs,hcs,hv5⟩:=jac.1 hv5
     obtain⟨h1,hw,hv6⟩:=jac.1 hv5
     cases hv6
     obtain⟨a,hlo⟩:=j0s k hw
     have a':=a.mono (V:=fun n=>h.lo<=n) (fun n e=>by subst e;exact hlo)
     exact⟨a',a'⟩
    ·exact⟨stay hv4,stay hv4⟩
  | clear z x=>cases (show(none:R)=some (v,h') from hv)
  | mkmap va=>cases (show(none:R)=some (v,h') from hv)
  | look sig va z okf x y=>cases (show(none:R)=some (v,h') from hv)
  | mupd sig va x y u=>cases (show(none:R)=some (v,h') from hv)
  | slicea n size x=>cases (show(none:R)=some (v,h') from hv)
  | boxc e x=>cases (show(none:R)=some (v,h') from hv)
  | peq neg x y=>cases (show(none:R)=some (v,h') from hv)
  | bad=>cases hv
theorem qb0 (k:WF h) {cl:FuncId->List AV->Hp->R} (hcl:jjn cl) {op:IOp} {g:Option (Nat×Bool)} {v:AV} (hv:qbr cl st fr h op g=some (v,h')):Abs (fun n=>h.lo<=n) h h':=by
 obtain⟨b,hb,hv1⟩:=jac.1 hv
 cases b with
 | false=>cases hv1;exact Abs.refl _ k
 | true=>exact(jeo k hcl hv1).2
theorem j0t {cl:FuncId->List AV->Hp->R} (hcl:jjn cl):∀ (l:List IOper) (st fr:List AV) (h:Hp) (s:St),WF h->jxy cl l st fr h=some s->∃ fr' h',s=.mk fr' h'/\Abs (fun n=>h.lo<=n) h h'
 | [],st,fr,h,s,k,hv=>by cases hv;exact⟨fr,h,rfl,Abs.refl _ k⟩
 | .mk dst op g::l,st,fr,h,s,k,hv=>by
  obtain⟨p,hp,hv1⟩:=jac.1 (show ob (qbr cl st fr h op g) (fun p=>jxy cl l (p.1::st) (jc0 fr dst p.1) p.2)=some s from hv)
  have a:=qb0 k hcl (v:=p.1) (h':=p.2) hp
  obtain⟨fr',h',e,a'⟩:=j0t hcl l _ _ _ s a.wf hv1
  have a'':Abs (fun n=>h.lo<=n) p.2 h':=by rw[←a.lo];exact a'
  exact⟨fr',h',e,a.trans a''⟩
theorem jhe {cl:FuncId->List AV->Hp->R} {n:Nat} {t:Tr AB} {lo lo':Nat} {hid hid':List (Nat×Nat)} {op:IOp} {e:Nat->Ent} {d:DR} (hv:jmi cl st fr n t lo lo' hid hid' op e=some d) :
 ∃ v h1,iop cl st fr (.mk n t lo' hid') op=some (v,h1)/\d=.mk v (.mk h1.next h1.tr lo hid) (e h1.next):=by
 obtain⟨p,hp,hv1⟩:=jac.1 hv
 obtain⟨v,h1⟩:=p
 cases h1 with
 | mk n' t' a b =>
  cases hv1
  exact⟨v,_,hp,rfl⟩
end
end Go.Proofs.Ytehhjbfmjdlcjaa.Ev
