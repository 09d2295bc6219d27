/- The builders of functions: instructions, one def. -/
import Derived.Test.YtalbjjoppndjjaaMa3
namespace Go.Proofs.Ytalbjjoppndjjaa.Ev
open Go Go.RowKit Go.Proofs.Ytalbjjoppndjjaa.Ms
attribute [local go_sem] Int.reduceToNat reduceCtorEq Nat.reduceAdd Nat.reduceMul Nat.reduceEqDiff Int.reduceEq Int.reduceLT Int.reduceLE Int.reduceNeg Int.reduceAdd Int.reduceSub Int.reduceMul Int.reduceNe
attribute [local go_sem ↓] reduceIte
set_option linter.all false
set_option maxRecDepth 100000
set_option maxHeartbeats 2000000
variable {a0 a1 a2 a3 x5 x6 x8 x9 x10 x11 x12 x13 x14 x15 x16 x17 x18 x19 x24:AV} {Q:Ex->St->Prop} {h hi:Hp} {ns' nso nss:List Nat} {w:Ms} {pc:Pc} {xo xs:SV}
def rz (r uses:Nat):Int:=if r=uses then -1 else r
theorem qm8 {p:Nat×Nat} {c:Nat} (hc:c<2):jby 1 (jci (c*1) [si p.1,si p.2])=some [si (g2 p c)]:=by
 have:c=0∨c=1:=by omega
 rcases this with rfl | rfl<;>rfl
theorem qrv {p:Nat×Nat} {c z:Nat} (hc:c<2):jbq (c*1) [si z] [si p.1,si p.2]=some [si (s2 p c z).1,si (s2 p c z).2]:=by
 have:c=0∨c=1:=by omega
 rcases this with rfl | rfl<;>rfl
theorem qgz {p:Nat×Nat} {c:Nat} {r:List SV} (hc:c<2):jby 1 (jci (c*1) (si p.1::si p.2::r))=some [si (g2 p c)]:=by
 have:c=0∨c=1:=by omega
 rcases this with rfl | rfl<;>rfl
section
variable {F:Fns} (B:Base F)
include B
theorem qbo {p:Nat} {ns:List Nat} (pin:Pin pc) {N:Nat} (wk:Wok w N) (hN:N<=100000) {s:Iw} (I:Iv h hi p w ns ns' pc s [] xo .nilSlice nso []) {i uses rd:Nat} (hi2:i<1+pk pc.flags 1073741824 / 2 ^ 8 % 2) (hl:s.ops.length=uses+i) (hu:uses<=3) (hops:∀ o∈s.ops,o.value<w.values.length) (hrd:rd<=uses)
 {x9 x10 x11 x12 x14 x16 x17 x18 a0 a1 a2 a3:AV} {Q:Ex->St->Prop} (hQ:∀ hj ns' xo nso x9 x10 x11 x12 x14 x16 x17 x18,Iv h hj p (jeq pc (pk pc.flags 1073741824) uses i (s,rd,w)).2.2 ns ns' pc (jeq pc (pk pc.flags 1073741824) uses i (s,rd,w)).1 [] xo .nilSlice nso []->W F jdj.loop (.mk (frD h p pc x9 x10 x11 x12 (vi (rz (jeq pc (pk pc.flags 1073741824) uses i (s,rd,w)).2.1 uses)) x14 (vi uses) x16 x17 x18 (vi ↑(i+1)) a0 (vi ↑(jeq pc (pk pc.flags 1073741824) uses i (s,rd,w)).1.limits) a1 a2 a3) hj) Q) :
 W F jdj.loop (.mk (frD h p pc x9 x10 x11 x12 (vi (rz rd uses)) x14 (vi uses) x16 x17 x18 (vi ↑i) a0 (vi ↑s.limits) a1 a2 a3) hi) Q:=by
 rw[jaj]
 unfold jdj jrb
 have I0:=I
 obtain⟨ok,nx,mr,mv,hp,hr,hx,hn,hf,so,ss,lo,ln,nd,b1,b2⟩:=I
 obtain⟨⟨a,b,k,n1,n2,n3,hg,hv,hb,hk,e0⟩,hd',hlt⟩:=id mr
 have hp0:=hlt p (by simp[e0])
 have hpl:=ln p (by simp[e0])
 have hfl:pk pc.flags 1073741824<1073741824:=jfz (by omega)
 obtain⟨⟨q1,q2⟩,⟨q3,q4⟩,⟨q5,q6⟩,⟨q7,q8⟩,⟨q9,q10⟩,⟨q11,q12⟩,⟨q13,q14⟩⟩:=pin
 have hf8:pk pc.flags 1073741824 / 2 ^ 8<1073741824:=by have:=f3z (pk pc.flags 1073741824) (2 ^ 8);omega
 have hcnd:(i:Int)<1+((pk pc.flags 1073741824 / 2 ^ 8:Nat):Int) % 2:=by omega
 obtain⟨fs,hfs⟩:∃ fs,pk pc.flags 1073741824 / 2 ^ (9+i)=fs:=⟨_,rfl⟩
 have hfs2:fs<1073741824:=by have:=f3z (pk pc.flags 1073741824) (2 ^ (9+i));omega
 have hi3:i<=1:=by omega
 obtain⟨ci,hci⟩:∃ ci,pc.c / 2 ^ i=ci:=⟨_,rfl⟩
 have hci2:-9223372036854775808<=ci/\ci<=9223372036854775807:=by
  have:i=0∨i=1:=by omega
  rcases this with rfl | rfl
  .rw [←hci];simp;omega
  .rw [←hci];simp;omega
 obtain⟨cls,hcls⟩:∃ cls,jgd pc i=cls:=⟨_,rfl⟩
 have hcl:ci % 2=(cls:Int):=by
  rw[←hcls,←hci];unfold jgd
  have:=f3s (pc.c / 2 ^ i) (by omega:(2:Int)≠0)
  omega
 have hc2:cls<2:=by omega
 have hwi:(1+(s.limits:Int) % 5)=((1+s.limits % 5:Nat):Int):=by omega
 obtain⟨wi,hwi2⟩:∃ wi,1+s.limits % 5=wi:=⟨_,rfl⟩
 have hu1:((uses:Int)+1)=((uses+1:Nat):Int):=by omega
 obtain⟨kn,hkn⟩:∃ kn,pk pc.b (uses+1)=kn:=⟨_,rfl⟩
 have hkl:kn<uses+1:=by rw[←hkn];exact jfz (by omega)
 obtain⟨hA,eA⟩:∃ hA,hA=(hi.push (AB.arr [SV.int IntKind.i64 0,SV.int IntKind.i64 0,SV.bool false,SV.int IntKind.i64 0,SV.int IntKind.i64 0] 59)).put hi.next (some (AB.arr [SV.int IntKind.i64 2,SV.int IntKind.i64 0,SV.bool (decide (fs % 2=1)),SV.int IntKind.i64 0,SV.int IntKind.i64 0] 59)):=⟨_,rfl⟩
 have okA:Ok hA:=by rw[eA];exact jao (jaq ok)
 have gA:∀ n,n<hi.next->hA.get n=hi.get n:=fun n hn=>by
  rw[eA,jai (jaq ok) ok.pos,jal ok,if_neg (by omega),if_neg (by omega)]
 have oA:hA.get hi.next=some (AB.arr [si (2:Nat),si (0:Nat),SV.bool (decide (fs % 2=1)),si (0:Nat),si (0:Nat)] 59):=by
  rw[eA,jai (jaq ok) ok.pos,if_pos rfl];rfl
 have nA:hA.next=hi.next+1:=by rw[eA,Hp.next_put,Hp.next_push]
 have IA:Iv h hA p w ns ns' pc { s with limits:=s.limits / 5 } [] xo .nilSlice nso []:=I0.upd okA (by omega) (fun n hn=>.inl hn) (mr.keep (fun n hn=>gA n (hlt n hn).2) (by omega)) ((gA _ (by omega)).trans hn) ((gA _ (by omega)).trans hf) (fun n h1 _ _ _ _=>gA n h1) b1 (by omega)
 have hoN:h.next+5<=hi.next/\hi.next<hA.next/\hi.next∉nso/\hi.next∉ns':=⟨by omega,by omega,fun h1=>by have:=(lo hi.next (by simp[h1])).2;omega,fun h1=>by have:=(hlt hi.next h1).2;omega⟩
 have tl:∀ {wi':Nat} {x11 x14 x16:AV},jeq pc (pk pc.flags 1073741824) uses i (s,rd,w)=(⟨s.ops++[⟨2,w.values.length,decide (fs % 2=1),(jbb w.m wi' cls s.need s.fixed).1,(jbb w.m wi' cls s.need s.fixed).2.1⟩],s.limits / 5,(jbb w.m wi' cls s.need s.fixed).2.2.1,(jbb w.m wi' cls s.need s.fixed).2.2.2⟩,rd,{ w with values:=w.values++[cls] }) ->
  W F jd1 (.mk (frD h p pc x9 (.s (.ptr hi.next 0)) x11 (vi cls) (vi (rz rd uses)) x14 (vi uses) x16 (vi wi') (vb true) (vi ↑i) a0 (vi ↑(s.limits / 5)) a1 a2 a3) hA) (qf5 3 (j3u F (.region [(.mk .none (.p (.mv (.g 19))) .none),(.mk .none (.p (.bin .add (.l 0) (.c (.s (.int .i64 1))))) .none),(.mk (.some 19) (.p (.mv (.l 0))) .none)]) (j3v F jdj Q))):=by
  intro wi' x11 x14 x16 hD
  refine j32 B wk hN IA (by simp only;omega) hc2 oA hoN (fun hj ns'' xo' nso' x9' I4=>?_)
  simp(disch:=first|omega|rfl|simp only[List.length]) only[go_sem,jac]
  rw[hD] at hQ
  exact hQ _ _ _ _ _ _ _ _ _ _ _ _ I4
 by_cases hw5:(wi:Int)=5
 .have hw:wi=5:=by omega
  have fail:jfr w pc uses rd cls s=false->∀ {x11 x14 x16:AV},W F jd1 (.mk (frD h p pc x9 (.s (.ptr hi.next 0)) x11 (vi cls) (vi (rz rd uses)) x14 (vi uses) x16 (vi ((1:Nat):Int)) (vb true) (vi ↑i) a0 (vi ↑(s.limits / 5)) a1 a2 a3) hA) (qf5 3 (j3u F (.region [(.mk .none (.p (.mv (.g 19))) .none),(.mk .none (.p (.bin .add (.l 0) (.c (.s (.int .i64 1))))) .none),(.mk (.some 19) (.p (.mv (.l 0))) .none)]) (j3v F jdj Q))):=fun hre=>tl (by
   unfold jeq
   simp only[hwi2,hcls,hfs,hw,hre,f03,and_false,if_false,if_true])
  have gx:∀ {b:Nat},b<hi.next->hA.get b=hi.get b:=fun h1=>gA _ h1
  by_cases cA:(kn:Int)<uses
  .obtain ⟨ok1,hok1⟩:∃ o,s.ops[kn]?=some o:=⟨_,f0a (by omega)⟩
   obtain⟨ob1,orow,oms,oe1,oe2,oe3,⟨rfl,rfl⟩,oe5,oe6⟩:=so.at hok1
   have hob:=lo ob1 (by simp[oe6])
   have eo2:=jgc (j:=2) (c:=.bool ok1.late) oe2 rfl
   have eo1:=jgc (j:=1) (c:=si ok1.value) oe2 rfl
   obtain⟨vc,hvc⟩:∃ c,w.values[ok1.value]?=some c:=⟨_,f0a (hops _ (f0c hok1))⟩
   obtain⟨vb1,vrow,vms,ve1,ve2,ve3,⟨rfl,rfl⟩,ve5,ve6⟩:=hv.at hvc
   have hvb:=hlt vb1 (by simp[e0,ve6])
   have hreu:jfr w pc uses rd cls s=(decide (kn<uses)&&(decide (kn≠rd)&&(!ok1.late&&(decide (g2 s.need cls+1<g2 w.m cls)&&decide (vc=cls))))):=by
    unfold jfr
    simp only[hkn,f0d,hok1,f1r,hvc]
   have en:=qm8 (p:=s.need) hc2
   have er:=qgz (p:=w.m) (r:=[a,b,si w.cur,k,si w.all]) hc2
   have ew:jbq (cls*1) [SV.int IntKind.i64 (↑(g2 s.need cls)+1)] [si ↑s.need.1,si ↑s.need.2]=some [si ↑(s2 s.need cls (g2 s.need cls+1)).1,si ↑(s2 s.need cls (g2 s.need cls+1)).2]:=by
    have:=qrv (p:=s.need) (z:=g2 s.need cls+1) hc2
    rw[show((g2 s.need cls+1:Nat):Int)=↑(g2 s.need cls)+1 from by omega] at this
    exact this
   have hgl:g2 s.need cls<=10:=by unfold g2;split<;>omega
   have rzne:(¬ (kn:Int)=rz rd uses)↔kn≠rd:=by unfold rz;split<;>omega
   by_cases cB:(kn:Int)=rz rd uses
   .have hre:jfr w pc uses rd cls s=false:=by
     have:¬ kn≠rd:=fun h1=>rzne.2 h1 cB
     rw[hreu];simp[this]
    simp(disch:=first|omega|rfl|simp only[List.length]) only[go_sem,jff,jfg,jfh,jfi,jfj,jbw,jan,jak,ja8 B,hp,ji6,jdm,jdn,ji7,ji8,and_false,false_and,if_false,je8,je9,jdd,jde,jdf,jdg,jiw,jbs,hfs,hwi,hwi2,hcnd,hci,hcl,jgn,hw5,jac,jb6,hu1,hkn,cA,eq_true cB,ne_eq]
    rw[←eA]
    exact fail hre
   .have hB:kn≠rd:=rzne.1 cB
    have cA':kn<uses:=by omega
    by_cases cC:ok1.late=true
    .have hre:jfr w pc uses rd cls s=false:=by rw[hreu];simp[cC]
     simp(disch:=first|omega|rfl|simp only[List.length]) only[go_sem,jff,jfg,jfh,jfi,jfj,jbw,jan,jak,ja8 B,hp,hx,ji6,jdm,jdn,ji7,ji8,and_false,false_and,if_false,je8,je9,jdd,jde,jdf,jdg,jiw,jbs,hfs,hwi,hwi2,hcnd,hci,hcl,jgn,hw5,jac,jb6,hu1,hkn,cA,cB,cC,ne_eq,oe1,eo2]
     rw[←eA]
     exact fail hre
    .have cC':ok1.late=false:=by simpa using cC
     rw[cC'] at eo2
     by_cases cD:(g2 s.need cls:Int)+1<g2 w.m cls
     .have cD':g2 s.need cls+1<g2 w.m cls:=by omega
      by_cases cE:(vc:Int)=cls
      .have cE':vc=cls:=by omega
       have hre:jfr w pc uses rd cls s=true:=by rw[hreu];simp[cA',hB,cC',cD',cE']
       simp(disch:=first|omega|rfl|simp only[List.length]) only[go_sem,jff,jfg,jfh,jfi,jfj,jbw,jan,jak,ja8 B,hp,hx,hn,hg,ji6,jdm,jdn,ji7,ji8,and_false,false_and,if_false,je8,je9,jdd,jde,jdf,jdg,jiw,jbs,hfs,hwi,hwi2,hcnd,hci,hcl,jgn,hw5,jac,jb6,hu1,hkn,cA,cB,cC',ne_eq,oe1,eo2,en,er,cD,eq_true cE,eo1,ve1,ve2,ew]
       rw[←eA]
       obtain⟨hB2,eB⟩:∃ hB2,hB2=(((hA.put (h.next+3) (some (AB.arr [si ↑(s2 s.need cls (g2 s.need cls+1)).1,si ↑(s2 s.need cls (g2 s.need cls+1)).2] 3))).put hi.next (some (AB.arr [SV.int IntKind.i64 2,SV.int IntKind.i64 0,SV.bool true,SV.int IntKind.i64 0,SV.int IntKind.i64 0] 59))).put hi.next (some (AB.arr [SV.int IntKind.i64 2,SV.int IntKind.i64 0,SV.bool true,SV.int IntKind.i64 5,SV.int IntKind.i64 0] 59))).put hi.next (some (AB.arr [SV.int IntKind.i64 2,SV.int IntKind.i64 0,SV.bool true,SV.int IntKind.i64 5,SV.int IntKind.i64 kn] 59)):=⟨_,rfl⟩
       rw[←eB]
       have okB:Ok hB2:=by rw[eB];exact jao (jao (jao (jao okA)))
       have ph:=ok.pos
       have gB:∀ n,n≠h.next+3->n≠hi.next->hB2.get n=hA.get n:=fun n h1 h2=>by
        rw[eB,jai (jao (jao (jao okA))) ph,if_neg h2,jai (jao (jao okA)) ph,if_neg h2,jai (jao okA) ph,if_neg h2,jai okA (by omega),if_neg h1]
       have nB:hB2.get (h.next+3)=some (AB.arr [si ↑(s2 s.need cls (g2 s.need cls+1)).1,si ↑(s2 s.need cls (g2 s.need cls+1)).2] 3):=by
        rw[eB,jai (jao (jao (jao okA))) ph,if_neg (by omega),jai (jao (jao okA)) ph,if_neg (by omega),jai (jao okA) ph,if_neg (by omega),jai okA (by omega),if_pos rfl]
       have oB:hB2.get hi.next=some (AB.arr [si (2:Nat),si (0:Nat),SV.bool true,si (5:Nat),si kn] 59):=by
        rw[eB,jai (jao (jao (jao okA))) ph,if_pos rfl];rfl
       have xB:hB2.next=hi.next+1:=by rw[eB,Hp.next_put,Hp.next_put,Hp.next_put,Hp.next_put,nA]
       clear eB
       have hm1:=wk.m1
       have hm2:=wk.m2
       have hb1:(s2 s.need cls (g2 s.need cls+1)).1<=10/\(s2 s.need cls (g2 s.need cls+1)).2<=10/\s.fixed.1<=(s2 s.need cls (g2 s.need cls+1)).1/\s.fixed.2<=(s2 s.need cls (g2 s.need cls+1)).2:=by
        have hc3:cls=0∨cls=1:=by omega
        rcases hc3 with h0 | h0
        .simp only[h0,g2,s2,if_true] at cD' ⊢;omega
        .simp only[h0,g2,s2,Nat.one_ne_zero,if_false] at cD' ⊢;omega
       have IB:=IA.upd (hj:=hB2) (w':=w) (ns2:=ns') (need:=s2 s.need cls (g2 s.need cls+1)) (fixed:=s.fixed) (lim:=s.limits / 5) okB (by omega) (fun n hn=>.inl hn) (mr.keep (fun n hn=>(gB n (by have:=ln n hn;omega) (by have:=(hlt n hn).2;omega)).trans (gA n (hlt n hn).2)) (by omega)) nB ((gB _ (by omega) (by omega)).trans IA.hf) (fun n h1 h3' h4 h5 h6=>gB n h4 (by
        rcases h6 with h6 | h6 | h6
        .omega
        .omega
        .have:=(lo n h6).2;omega)) hb1 (by omega)
       refine j33 B wk hN IB (by simp only;omega) hc2 oB ⟨by omega,by omega,hoN.2.2⟩ (fun hj ns'' xo' nso' x9' I4=>?_)
       simp(disch:=first|omega|rfl|simp only[List.length]) only[go_sem,jac]
       have hD:jeq pc (pk pc.flags 1073741824) uses i (s,rd,w)=(⟨s.ops++[⟨2,w.values.length,true,5,kn⟩],s.limits / 5,s2 s.need cls (g2 s.need cls+1),s.fixed⟩,kn,{ w with values:=w.values++[cls] }):=by
        unfold jeq
        simp only[hwi2,hcls,hw,hre,and_self,if_true,hkn]
       rw[hD] at hQ
       have hrz:rz kn uses=(kn:Int):=by unfold rz;rw[if_neg (by omega)]
       simp only[hrz] at hQ
       exact hQ _ _ _ _ _ _ _ _ _ _ _ _ I4
      .have cE':¬ vc=cls:=by omega
       have hre:jfr w pc uses rd cls s=false:=by rw[hreu];simp[cE']
       simp(disch:=first|omega|rfl|simp only[List.length]) only[go_sem,jff,jfg,jfh,jfi,jfj,jbw,jan,jak,ja8 B,hp,hx,hn,hg,ji6,jdm,jdn,ji7,ji8,and_false,false_and,if_false,je8,je9,jdd,jde,jdf,jdg,jiw,jbs,hfs,hwi,hwi2,hcnd,hci,hcl,jgn,hw5,jac,jb6,hu1,hkn,cA,cB,cC',ne_eq,oe1,eo2,en,er,cD,cE,eo1,ve1,ve2]
       rw[←eA]
       exact fail hre
     .have cD':¬ g2 s.need cls+1<g2 w.m cls:=by omega
      have hre:jfr w pc uses rd cls s=false:=by rw[hreu];simp[cD']
      simp(disch:=first|omega|rfl|simp only[List.length]) only[go_sem,jff,jfg,jfh,jfi,jfj,jbw,jan,jak,ja8 B,hp,hx,hn,hg,ji6,jdm,jdn,ji7,ji8,and_false,false_and,if_false,je8,je9,jdd,jde,jdf,jdg,jiw,jbs,hfs,hwi,hwi2,hcnd,hci,hcl,jgn,hw5,jac,jb6,hu1,hkn,cA,cB,cC',ne_eq,oe1,eo2,en,er,cD]
      rw[←eA]
      exact fail hre
  .have hre:jfr w pc uses rd cls s=false:=by
    unfold jfr
    have:¬ kn<uses:=by omega
    simp[hkn,this]
   simp(disch:=first|omega|rfl|simp only[List.length]) only[go_sem,jff,jfg,jfh,jfi,jfj,jbw,jan,jak,ja8 B,hp,ji6,jdm,jdn,ji7,ji8,and_false,false_and,if_false,je8,je9,jdd,jde,jdf,jdg,jiw,jbs,hfs,hwi,hwi2,hcnd,hci,hcl,jgn,hw5,jac,jb6,hu1,hkn,cA]
   rw[←eA]
   exact fail hre
 .simp (disch:=first|omega|rfl|simp only[List.length]) only[go_sem,jff,jfg,jfh,jfi,jfj,jbw,jan,jak,ja8 B,hp,ji6,jdm,jdn,ji7,ji8,and_false,false_and,if_false,je8,je9,jdd,jde,jdf,jdg,jiw,jbs,hfs,hwi,hwi2,hcnd,hci,hcl,jgn,hw5,jac,jb6]
  rw[←eA]
  refine tl ?_
  have hw:¬ wi=5:=by omega
  unfold jeq
  simp only[hwi2,hcls,hfs,hw,false_and,if_false]
end
theorem jrf {p:Pc} {flags uses i:Nat} {x:Iw×Nat×Ms} (hr:x.2.1<=uses):(jeq p flags uses i x).2.1<=uses/\(jeq p flags uses i x).1.ops.length=x.1.ops.length+1/\(jeq p flags uses i x).2.2={ x.2.2 with values:=x.2.2.values++[jgd p i] }/\((∀ o∈x.1.ops,o.value<x.2.2.values.length)->∀ o∈(jeq p flags uses i x).1.ops,o.value<(jeq p flags uses i x).2.2.values.length):=by
 have hk:pk p.b (uses+1)<uses+1:=jfz (by omega)
 unfold jeq
 simp only
 split
 .refine ⟨by simp only;omega,by simp,rfl,fun h o ho=>?_⟩
  simp only[f0e,f0i,f0w,f2r] at ho ⊢
  rcases ho with ho | rfl
  .have:=h o ho;omega
  .simp
 .refine ⟨hr,by simp,rfl,fun h o ho=>?_⟩
  simp only[f0e,f0i,f0w,f2r] at ho ⊢
  rcases ho with ho | rfl
  .have:=h o ho;omega
  .simp
theorem jt0 {p:Pc} {i:Nat}:jgd p i<2:=by
 unfold jgd
 have h1:=f3s (p.c / 2 ^ i) (by omega:(2:Int)≠0)
 have h2:=f3o (p.c / 2 ^ i) (by omega:(0:Int)<2)
 omega
theorem Wok.value {N c:Nat} (k:Wok w N) (hc:c<2):Wok { w with values:=w.values++[c] } (N+1) :=
 ⟨k.m1,k.m2,fun x hx=>by
  rcases f0e.1 hx with h | h
  .exact k.vals x h
  .simp at h;omega,fun v hv=>by have:=k.known v hv;simp;omega,k.cur,by simp;exact k.nv,f2m k.nb,f2m k.nk,fun b hb=>by have:=k.ni b hb;omega,f2m k.na⟩
section
variable {F:Fns} (B:Base F)
include B
theorem jwd {p:Nat} {ns:List Nat} (pin:Pin pc) {uses:Nat} (hu:uses<=3):∀ (d:Nat) {hi:Hp} {w:Ms} {N:Nat} (_:Wok w N) (_:N+d<=100000) {ns':List Nat} {s:Iw} {xo:SV} {nso:List Nat} (_:Iv h hi p w ns ns' pc s [] xo .nilSlice nso []) {i rd:Nat} (_:i+d=1+pk pc.flags 1073741824 / 2 ^ 8 % 2) (_:s.ops.length=uses+i) (_:∀ o∈s.ops,o.value<w.values.length) (_:rd<=uses)
 {x9 x10 x11 x12 x14 x16 x17 x18:AV} (hQ:∀ hj ns' xo nso x9 x10 x11 x12 x13 x14 x16 x17 x18,Iv h hj p (jdu pc (pk pc.flags 1073741824) uses d i (s,rd,w)).2.2 ns ns' pc (jdu pc (pk pc.flags 1073741824) uses d i (s,rd,w)).1 [] xo .nilSlice nso []->Wok (jdu pc (pk pc.flags 1073741824) uses d i (s,rd,w)).2.2 (N+d)->(jdu pc (pk pc.flags 1073741824) uses d i (s,rd,w)).2.2.m=w.m->Q (.exit 2) (.mk (frD h p pc x9 x10 x11 x12 x13 x14 (vi uses) x16 x17 x18 (vi ↑(i+d)) a0 (vi ↑(jdu pc (pk pc.flags 1073741824) uses d i (s,rd,w)).1.limits) a1 a2 a3) hj)),
 W F jdj.loop (.mk (frD h p pc x9 x10 x11 x12 (vi (rz rd uses)) x14 (vi uses) x16 x17 x18 (vi ↑i) a0 (vi ↑s.limits) a1 a2 a3) hi) Q
 | 0,hi,w,N,wk,hN,ns',s,xo,nso,I,i,rd,hi2,hl,hops,hrd,x9,x10,x11,x12,x14,x16,x17,x18,hQ=>by
  rw[jaj]
  unfold jdj
  have hfl:pk pc.flags 1073741824<1073741824:=jfz (by omega)
  have hf8:pk pc.flags 1073741824 / 2 ^ 8<1073741824:=by have:=f3z (pk pc.flags 1073741824) (2 ^ 8);omega
  have hcnd:¬ (i:Int)<1+((pk pc.flags 1073741824 / 2 ^ 8:Nat):Int) % 2:=by omega
  simp(disch:=first|omega|rfl|simp only[List.length]) only[go_sem,je8,je9,jdd,jde,jdf,jdg,jiw,jbs,hcnd,jac,ji6,jdm,jdn,ji7,ji8,and_false,false_and,if_false]
  exact hQ hi ns' xo nso _ _ _ _ _ _ _ _ _ I wk rfl
 | d+1,hi,w,N,wk,hN,ns',s,xo,nso,I,i,rd,hi2,hl,hops,hrd,x9,x10,x11,x12,x14,x16,x17,x18,hQ=>by
  refine qbo B pin wk (by omega) I (by omega) hl hu hops hrd (fun hj ns' xo nso y9 y10 y11 y12 y14 y16 y17 y18 I'=>?_)
  obtain⟨f1,f2,f3,f4⟩:=jrf (p:=pc) (flags:=pk pc.flags 1073741824) (uses:=uses) (i:=i) (x:=(s,rd,w)) hrd
  have e1:jdu pc (pk pc.flags 1073741824) uses (d+1) i (s,rd,w)=jdu pc (pk pc.flags 1073741824) uses d (i+1) (jeq pc (pk pc.flags 1073741824) uses i (s,rd,w)):=rfl
  rw[e1] at hQ
  have f5:(jeq pc (pk pc.flags 1073741824) uses i (s,rd,w)).2.2.m=w.m:=by rw[f3]
  have wk':Wok (jeq pc (pk pc.flags 1073741824) uses i (s,rd,w)).2.2 (N+1):=by rw[f3];exact wk.value jt0
  generalize jeq pc (pk pc.flags 1073741824) uses i (s,rd,w)=y at *
  obtain⟨s',rd',w'⟩:=y
  refine jwd pin hu d wk' (by omega) I' (by omega) (by rw[f2,hl];omega) (f4 hops) f1 (fun hj ns' xo nso y9 y10 y11 y12 y13 y14 y16 y17 y18 I'' wk'' hm=>?_)
  have e2:i+1+d=i+(d+1):=by omega
  rw[e2]
  have e3:N+1+d=N+(d+1):=by omega
  rw[e3] at wk''
  exact hQ hj ns' xo nso _ _ _ _ _ _ _ _ _ I'' wk'' (hm.trans f5)
end
theorem Iv.appR {p:Nat} {ns:List Nat} {s:Iw} {sp:List (Nat×Nat)} (I:Iv h hi p w ns ns' pc s sp xo xs nso nss) (hl:sp.length<=100) (o:Nat×Nat) :
 ∃ h4 nss',jo8 (hi.push (.arr (jcr o) 48)) 48 2 16 (.s xs) (.s (.slice hi.next 0 1 1 true 2))=some (.s (.slice (hi.next+1) 0 (sp.length+1) (sp.length+1) false 2),h4)/\Ok h4/\h4.get (h.next+2)=some (.arr [si (pk pc.op 256),xo,xs] 57) /\
  Iv h (h4.put (h.next+2) (some (.arr [si (pk pc.op 256),xo,.slice (hi.next+1) 0 (sp.length+1) (sp.length+1) false 2] 57))) p w ns ns' pc s (sp++[o]) xo (.slice (hi.next+1) 0 (sp.length+1) (sp.length+1) false 2) nso nss':=by
 obtain⟨ok,nx,mr0,mv0,hp,hr,hx,hn0,hf0,so,ss,lo,ln,nd,b1,b2⟩:=I
 have hlo:∀ n∈nss,h.next+5<=n/\n<hi.next:=fun n hn=>lo n (by simp[hn])
 have hnd:=f0r.1 nd
 have hnd2:=f0r.1 hnd.2.1
 obtain⟨h4,e4,ok4,nx4,kp4,kt4,sl4⟩:=ss.app1 (bytes:=16) (row:=jcr o) (a:=o) (ms:=[]) ok (fun n hn=>by have:=hlo n hn;omega) rfl ⟨rfl,rfl⟩ (by omega) (by omega)
 have nsl:∀ n,n<h.next+5->n∉nss:=fun n h1 h2'=>by have:=(hlo n h2').1;omega
 refine⟨h4,(hi.next+1)::(nss.tail++[]),e4,ok4,(kp4 _ (by omega) (nsl _ (by omega))).trans hx,?_⟩
 have g5:∀ n,n≠h.next+2->(h4.put (h.next+2) (some (AB.arr [si ↑(pk pc.op 256),xo,SV.slice (hi.next+1) 0 (sp.length+1) (sp.length+1) false 2] 57))).get n=h4.get n:=fun n hn=>by
  rw[jai ok4 (by omega),if_neg hn]
 have x5:(h4.put (h.next+2) (some (AB.arr [si ↑(pk pc.op 256),xo,SV.slice (hi.next+1) 0 (sp.length+1) (sp.length+1) false 2] 57))).get (h.next+2)=some (AB.arr [si ↑(pk pc.op 256),xo,SV.slice (hi.next+1) 0 (sp.length+1) (sp.length+1) false 2] 57):=by
  rw[jai ok4 (by omega),if_pos rfl]
 have n5:(h4.put (h.next+2) (some (AB.arr [si ↑(pk pc.op 256),xo,SV.slice (hi.next+1) 0 (sp.length+1) (sp.length+1) false 2] 57))).next=hi.next+2:=by
  rw[Hp.next_put,nx4]
 have ok5:Ok (h4.put (h.next+2) (some (AB.arr [si ↑(pk pc.op 256),xo,SV.slice (hi.next+1) 0 (sp.length+1) (sp.length+1) false 2] 57))):=jao ok4
 generalize h4.put (h.next+2) (some (AB.arr [si ↑(pk pc.op 256),xo,SV.slice (hi.next+1) 0 (sp.length+1) (sp.length+1) false 2] 57))=h5 at g5 x5 n5 ok5
 have k5:∀ n,n<hi.next->n≠h.next+2->n∉nss->h5.get n=hi.get n:=fun n h1 h2' h5'=>(g5 n h2').trans (kp4 n h1 h5')
 have dj:∀ n∈ns',n∉nss:=fun n hn h1=>hnd.2.2 n hn n (by simp[h1]) rfl
 refine⟨ok5,by omega,mr0.keep (fun n hn=>k5 n (mr0.lt n hn).2 (by have:=ln n hn;omega) (dj n hn)) (by omega),⟨ok5,by have:=mv0.nx;omega,mv0.new,fun n h1 h2'=>(k5 n (by omega) (by omega) (nsl n (by omega))).trans (mv0.keep n h1 h2')⟩,
  (k5 _ (by omega) (by omega) (nsl _ (by omega))).trans hp,(k5 _ (by omega) (by omega) (nsl _ (by omega))).trans hr,x5,(k5 _ (by omega) (by omega) (nsl _ (by omega))).trans hn0,(k5 _ (by omega) (by omega) (nsl _ (by omega))).trans hf0,
  so.keep (fun n hn=>k5 n (lo n (by simp[hn])).2 (by have:=(lo n (by simp[hn])).1;omega) (fun h1=>hnd2.2.2 n hn n h1 rfl)),?_,fun n hn=>?_,ln,?_,b1,b2⟩
 .exact (sl4 (E':=ER) (fun _ _ _ _ h=>h)).keep (h':=h5) (fun n hn=>g5 n (by
   rcases f0h.1 hn with rfl | hn
   .omega
   .have:=(hlo n (f0p (by simpa using hn))).1;omega))
 .rcases f0e.1 hn with hn | hn
  .have:=lo n (by simp[hn]);omega
  .rcases f0h.1 hn with rfl | hn
   .omega
   .have:=hlo n (f0p (by simpa using hn));omega
 .have e:ns'++(nso++nss)=(ns'++nso)++(nss++[]):=by simp
  have e':ns'++(nso++((hi.next+1)::(nss.tail++[])))=(ns'++nso)++(((hi.next+1)::(nss.tail++[]))++[]):=by simp
  rw[e']
  rw[e] at nd
  refine jge (ns:=nss) (B:=[]) (N:=hi.next) nd (fun n hn=>?_) (jc7 hnd2.2.1 .nil (by simp) (fun h1=>by have:=(hlo _ h1).2;omega) (by simp)) (fun n hn=>?_)
  .rw [←e] at hn
   rcases f0e.1 hn with hn | hn
   .exact (mr0.lt n hn).2
   .exact (lo n hn).2
  .rcases f0h.1 hn with rfl | hn
   .exact .inr (by omega)
   .exact .inl (f0p (by simpa using hn))
noncomputable abbrev frE (h:Hp) (p:Nat) (pc:Pc) (x3 x4 x5 x6 x7 x8 x9 x10 x11 x12 x13 x14 x15 x16 x17 x18 x19 a0 x24 a1 a2 a3:AV):List AV:=[.s (.ptr p 0),.agg (jb6 pc),.s (.ptr (h.next+1) 0),x3,x4,x5,x6,x7,x8,x9,x10,x11,x12,x13,x14,x15,x16,x17,x18,x19,.s (.ptr (h.next+2) 0),a0,.s (.slice (h.next+4) 0 2 2 true 1),.s (.slice (h.next+3) 0 2 2 true 1),x24,a1,a2,vi ↑(pk pc.flags 1073741824),a3,.s (.ptr h.next 0)]
section
variable {F:Fns} (B:Base F)
include B
theorem jrg {p:Nat} {ns:List Nat} {s:Iw} {c:Nat} (hc:c<2) (hm:g2 w.m c<=10):∀ (k:Nat) (_:k<g2 w.m c) {hi:Hp} {sp:List (Nat×Nat)} {xs:SV} {nss:List Nat} (_:Iv h hi p w ns ns' pc s sp xo xs nso nss) (_:sp.length+k<=100) {x3:AV}
 (hQ:∀ hj xs nss x3,Iv h hj p w ns ns' pc s (sp++jbk c (g2 w.m c) k) xo xs nso nss->Q (.exit 6) (.mk (frE h p pc x3 (vi 0) x5 x6 (vi c) x8 x9 x10 x11 x12 x13 x14 x15 x16 x17 x18 x19 a0 x24 a1 a2 a3) hj)),
 W F jhz.loop (.mk (frE h p pc x3 (vi k) x5 x6 (vi c) x8 x9 x10 x11 x12 x13 x14 x15 x16 x17 x18 x19 a0 x24 a1 a2 a3) hi) Q
 | 0,hk,hi,sp,xs,nss,I,hl,x3,hQ=>by
  rw[jaj]
  unfold jhz
  simp(disch:=first|omega|rfl|simp only[List.length]) only[go_sem,je8,je9,jdd,jde,jdf,jdg,jiw,jbs,jac,ji6,jdm,jdn,ji7,ji8,and_false,false_and,if_false,f0u]
  have:=hQ hi xs nss (vb false) (by rw[show jbk c (g2 w.m c) 0=[] from rfl,f05];exact I)
  exact this
 | k+1,hk,hi,sp,xs,nss,I,hl,x3,hQ=>by
  rw[jaj]
  unfold jhz jrc
  have I0:=I
  obtain⟨ok,nx,mr,mv,hp,hr,hx,hn,hf,so,ss,lo,ln,nd,b1,b2⟩:=I
  obtain⟨⟨a,b,kk,n1,n2,n3,hg,hv,hb,hk',e0⟩,hd',hlt⟩:=id mr
  have hp0:=hlt p (by simp[e0])
  have hpl:=ln p (by simp[e0])
  have er:=qgz (p:=w.m) (r:=[a,b,si w.cur,kk,si w.all]) hc
  have hk1:(0:Int)<((k+1:Nat):Int):=by omega
  have hsub:(g2 w.m c:Int) - ((k+1:Nat):Int)=((g2 w.m c - (k+1):Nat):Int):=by omega
  have hdec:((k+1:Nat):Int) - 1=(k:Int):=by omega
  obtain⟨h4,nss',e4,ok4,x4,I4⟩:=I0.appR (by omega) (c,g2 w.m c - (k+1))
  have e4':jo8 (hi.push (AB.arr [si ↑c,SV.int IntKind.i64 ↑(g2 w.m c - (k+1))] 48)) 48 2 16 (AV.s xs) (AV.s (SV.slice hi.next 0 1 1 true 2))=some (.s (.slice (hi.next+1) 0 (sp.length+1) (sp.length+1) false 2),h4):=e4
  simp(disch:=first|omega|rfl|simp only[List.length]) only[go_sem,je8,je9,jdd,jde,jdf,jdg,jiw,jbs,jac,ji6,jdm,jdn,ji7,ji8,and_false,false_and,if_false,hk1,hx,hg,er,hsub,hdec,e4',x4]
  refine jrg hc hm k (by omega) I4 (by simp;omega) (fun hj xs nss x3 I5=>?_)
  rw[f0q] at I5
  exact hQ hj xs nss x3 I5
theorem jrh {p:Nat} {ns:List Nat} (pin:Pin pc) {N:Nat} (wk:Wok w N) {s:Iw} {c:Nat} (hc:c<2) (hnd:g2 s.need c<g2 w.m c) {sp:List (Nat×Nat)} (I:Iv h hi p w ns ns' pc s sp xo xs nso nss) (hl:sp.length<=50) {x3 x4:AV}
 (hQ:∀ hj xs nss x3 x4 x5 x6,Iv h hj p w ns ns' pc s (sp++jbk c (g2 w.m c) (min (pk pc.b 4) (g2 w.m c - 1 - g2 s.need c))) xo xs nso nss->W F jga.loop (.mk (frE h p pc x3 x4 x5 x6 (vi ((c+1:Nat):Int)) x8 x9 x10 x11 x12 x13 x14 x15 x16 x17 x18 x19 a0 x24 a1 a2 a3) hj) Q) :
 W F jga.loop (.mk (frE h p pc x3 x4 x5 x6 (vi c) x8 x9 x10 x11 x12 x13 x14 x15 x16 x17 x18 x19 a0 x24 a1 a2 a3) hi) Q:=by
 rw[jaj]
 unfold jga jrd
 have I0:=I
 obtain⟨ok,nx,mr,mv,hp,hr,hx,hn,hf,so,ss,lo,ln,nd,b1,b2⟩:=I
 obtain⟨⟨a,b,kk,n1,n2,n3,hg,hv,hb,hk',e0⟩,hd',hlt⟩:=id mr
 have hp0:=hlt p (by simp[e0])
 have hpl:=ln p (by simp[e0])
 obtain⟨⟨q1,q2⟩,⟨q3,q4⟩,⟨q5,q6⟩,⟨q7,q8⟩,⟨q9,q10⟩,⟨q11,q12⟩,⟨q13,q14⟩⟩:=pin
 have er:=qgz (p:=w.m) (r:=[a,b,si w.cur,kk,si w.all]) hc
 have en:=qm8 (p:=s.need) hc
 have hm1:=wk.m1
 have hm2:=wk.m2
 have hgm:g2 w.m c<=10:=by unfold g2;split<;>omega
 have hc1:(c:Int)<2:=by omega
 have hpk:pk pc.b 4<4:=jfz (by omega)
 have hmin:(if (pk pc.b 4:Int)<=(g2 w.m c:Int) - 1 - (g2 s.need c:Int) then (pk pc.b 4:Int) else (g2 w.m c:Int) - 1 - (g2 s.need c:Int))=((min (pk pc.b 4) (g2 w.m c - 1 - g2 s.need c):Nat):Int):=by
  rw[Nat.min_def]
  split<;>split<;>omega
 simp(disch:=first|omega|rfl|simp only[List.length]) only[go_sem,je8,je9,jdd,jde,jdf,jdg,jiw,jbs,jff,jfg,jfh,jfi,jfj,jbw,jan,jak,ja8 B,jac,ji6,jdm,jdn,ji7,ji8,and_false,false_and,if_false,hp,hn,jb6,hc1,hg,er,en,hmin]
 refine jrg B hc hgm _ (by omega) I0 (by omega) (fun hj xs nss x3 I5=>?_)
 simp(disch:=first|omega|rfl|simp only[List.length]) only[go_sem,jac]
 exact hQ hj xs nss _ _ _ _ I5
end
end Go.Proofs.Ytalbjjoppndjjaa.Ev
