/- The builders of functions: instructions, one def. -/
import Derived.Test.YtdbklpgagdbpiaaDoorMa3
namespace Go.Proofs.YtdbklpgagdbpiaaDoor.Ev
open Go Go.RowKit Go.Proofs.YtdbklpgagdbpiaaDoor.Ms
attribute [local go_sem] Int.reduceToNat reduceCtorEq Nat.reduceAdd Nat.reduceMul Nat.reduceEqDiff Int.reduceEq Int.reduceLT Int.reduceLE Int.reduceNeg Int.reduceAdd Int.reduceSub Int.reduceMul Int.reduceNe
attribute [local go_sem ↓] reduceIte
set_option linter.all false
set_option maxRecDepth 100000
set_option maxHeartbeats 2000000
variable {a0 a1 a2 a3 x5 x6 x8 x9 x10 x11 x12 x13 x14 x15 x16 x17 x18 x19 x24:AV} {Q:Ex->St->Prop} {h hi:Hp} {ns' nso nss:List Nat} {w:Ms} {pc:Pc} {xo xs:SV}
def rz (r uses:Nat):Int:=if r=uses then -1 else r
theorem qp3 {p:Nat×Nat} {c:Nat} (hc:c<2):jbp 1 (jb4 (c*1) [si p.1,si p.2])=some [si (g2 p c)]:=by
 have:c=0∨c=1:=by omega
 rcases this with rfl | rfl<;>rfl
theorem qua {p:Nat×Nat} {c z:Nat} (hc:c<2):jbv (c*1) [si z] [si p.1,si p.2]=some [si (s2 p c z).1,si (s2 p c z).2]:=by
 have:c=0∨c=1:=by omega
 rcases this with rfl | rfl<;>rfl
theorem qjp {p:Nat×Nat} {c:Nat} {r:List SV} (hc:c<2):jbp 1 (jb4 (c*1) (si p.1::si p.2::r))=some [si (g2 p c)]:=by
 have:c=0∨c=1:=by omega
 rcases this with rfl | rfl<;>rfl
section
variable {F:Fns} (B:Base F)
include B
theorem qds {p:Nat} {ns:List Nat} (pin:Pin pc) {N:Nat} (wk:Wok w N) (hN:N<=100000) {s:Iw} (I:Iv h hi p w ns ns' pc s [] xo .nilSlice nso []) {i uses rd:Nat} (hi2:i<1+pk pc.flags 1073741824 / 2 ^ 8 % 2) (hl:s.ops.length=uses+i) (hu:uses<=3) (hops:∀ o∈s.ops,o.value<w.values.length) (hrd:rd<=uses)
 {x9 x10 x11 x12 x14 x16 x17 x18 a0 a1 a2 a3:AV} {Q:Ex->St->Prop} (hQ:∀ hj ns' xo nso x9 x10 x11 x12 x14 x16 x17 x18,Iv h hj p (jfz pc (pk pc.flags 1073741824) uses i (s,rd,w)).2.2 ns ns' pc (jfz pc (pk pc.flags 1073741824) uses i (s,rd,w)).1 [] xo .nilSlice nso []->W F jdw.loop (.mk (frD h p pc x9 x10 x11 x12 (vi (rz (jfz pc (pk pc.flags 1073741824) uses i (s,rd,w)).2.1 uses)) x14 (vi uses) x16 x17 x18 (vi ↑(i+1)) a0 (vi ↑(jfz pc (pk pc.flags 1073741824) uses i (s,rd,w)).1.limits) a1 a2 a3) hj) Q) :
 W F jdw.loop (.mk (frD h p pc x9 x10 x11 x12 (vi (rz rd uses)) x14 (vi uses) x16 x17 x18 (vi ↑i) a0 (vi ↑s.limits) a1 a2 a3) hi) Q:=by
 rw[jaj]
 unfold jdw js1
 have I0:=I
 obtain⟨ok,nx,mr,mv,hp,hr,hx,hn,hf,so,ss,lo,ln,nd,b1,b2⟩:=I
 obtain⟨⟨a,b,k,n1,n2,n3,hg,hv,hb,hk,e0⟩,hd',hlt⟩:=id mr
 have hp0:=hlt p (by simp[e0])
 have hpl:=ln p (by simp[e0])
 have hfl:pk pc.flags 1073741824<1073741824:=jgo (by omega)
 obtain⟨⟨q1,q2⟩,⟨q3,q4⟩,⟨q5,q6⟩,⟨q7,q8⟩,⟨q9,q10⟩,⟨q11,q12⟩,⟨q13,q14⟩⟩:=pin
 have hf8:pk pc.flags 1073741824 / 2 ^ 8<1073741824:=by have:=f3j (pk pc.flags 1073741824) (2 ^ 8);omega
 have hcnd:(i:Int)<1+((pk pc.flags 1073741824 / 2 ^ 8:Nat):Int) % 2:=by omega
 obtain⟨fs,hfs⟩:∃ fs,pk pc.flags 1073741824 / 2 ^ (9+i)=fs:=⟨_,rfl⟩
 have hfs2:fs<1073741824:=by have:=f3j (pk pc.flags 1073741824) (2 ^ (9+i));omega
 have hi3:i<=1:=by omega
 obtain⟨ci,hci⟩:∃ ci,pc.c / 2 ^ i=ci:=⟨_,rfl⟩
 have hci2:-9223372036854775808<=ci/\ci<=9223372036854775807:=by
  have:i=0∨i=1:=by omega
  rcases this with rfl | rfl
  .rw [←hci];simp;omega
  .rw [←hci];simp;omega
 obtain⟨cls,hcls⟩:∃ cls,jg4 pc i=cls:=⟨_,rfl⟩
 have hcl:ci % 2=(cls:Int):=by
  rw[←hcls,←hci];unfold jg4
  have:=Int.emod_nonneg (pc.c / 2 ^ i) (by omega:(2:Int)≠0)
  omega
 have hc2:cls<2:=by omega
 have hwi:(1+(s.limits:Int) % 5)=((1+s.limits % 5:Nat):Int):=by omega
 obtain⟨wi,hwi2⟩:∃ wi,1+s.limits % 5=wi:=⟨_,rfl⟩
 have hu1:((uses:Int)+1)=((uses+1:Nat):Int):=by omega
 obtain⟨kn,hkn⟩:∃ kn,pk pc.b (uses+1)=kn:=⟨_,rfl⟩
 have hkl:kn<uses+1:=by rw[←hkn];exact jgo (by omega)
 obtain⟨hA,eA⟩:∃ hA,hA=(hi.push (AB.arr [SV.int IntKind.i64 0,SV.int IntKind.i64 0,SV.bool false,SV.int IntKind.i64 0,SV.int IntKind.i64 0] 73)).put hi.next (some (AB.arr [SV.int IntKind.i64 2,SV.int IntKind.i64 0,SV.bool (decide (fs % 2=1)),SV.int IntKind.i64 0,SV.int IntKind.i64 0] 73)):=⟨_,rfl⟩
 have okA:Ok hA:=by rw[eA];exact jas (ja4 ok)
 have gA:∀ n,n<hi.next->hA.get n=hi.get n:=fun n hn=>by
  rw[eA,jak (ja4 ok) ok.pos,ja6 ok,if_neg (by omega),if_neg (by omega)]
 have oA:hA.get hi.next=some (AB.arr [si (2:Nat),si (0:Nat),SV.bool (decide (fs % 2=1)),si (0:Nat),si (0:Nat)] 73):=by
  rw[eA,jak (ja4 ok) ok.pos,if_pos rfl];rfl
 have nA:hA.next=hi.next+1:=by rw[eA,Hp.next_put,Hp.next_push]
 have IA:Iv h hA p w ns ns' pc { s with limits:=s.limits / 5 } [] xo .nilSlice nso []:=I0.upd okA (by omega) (fun n hn=>.inl hn) (mr.keep (fun n hn=>gA n (hlt n hn).2) (by omega)) ((gA _ (by omega)).trans hn) ((gA _ (by omega)).trans hf) (fun n h1 _ _ _ _=>gA n h1) b1 (by omega)
 have hoN:h.next+5<=hi.next/\hi.next<hA.next/\hi.next∉nso/\hi.next∉ns':=⟨by omega,by omega,fun h1=>by have:=(lo hi.next (by simp[h1])).2;omega,fun h1=>by have:=(hlt hi.next h1).2;omega⟩
 have tl:∀ {wi':Nat} {x11 x14 x16:AV},jfz pc (pk pc.flags 1073741824) uses i (s,rd,w)=(⟨s.ops++[⟨2,w.values.length,decide (fs % 2=1),(jbc w.m wi' cls s.need s.fixed).1,(jbc w.m wi' cls s.need s.fixed).2.1⟩],s.limits / 5,(jbc w.m wi' cls s.need s.fixed).2.2.1,(jbc w.m wi' cls s.need s.fixed).2.2.2⟩,rd,{ w with values:=w.values++[cls] }) ->
  W F jem (.mk (frD h p pc x9 (.s (.ptr hi.next 0)) x11 (vi cls) (vi (rz rd uses)) x14 (vi uses) x16 (vi wi') (vb true) (vi ↑i) a0 (vi ↑(s.limits / 5)) a1 a2 a3) hA) (qh7 3 (j5b F (.region [(.mk .none (.p (.mv (.g 19))) .none),(.mk .none (.p (.bin .add (.l 0) (.c (.s (.int .i64 1))))) .none),(.mk (.some 19) (.p (.mv (.l 0))) .none)]) (j5c F jdw Q))):=by
  intro wi' x11 x14 x16 hD
  refine j5x B wk hN IA (by simp only;omega) hc2 oA hoN (fun hj ns'' xo' nso' x9' I4=>?_)
  simp(disch:=first|omega|rfl|simp only[List.length]) only[go_sem,jad]
  rw[hD] at hQ
  exact hQ _ _ _ _ _ _ _ _ _ _ _ _ I4
 by_cases hw5:(wi:Int)=5
 .have hw:wi=5:=by omega
  have fail:jge w pc uses rd cls s=false->∀ {x11 x14 x16:AV},W F jem (.mk (frD h p pc x9 (.s (.ptr hi.next 0)) x11 (vi cls) (vi (rz rd uses)) x14 (vi uses) x16 (vi ((1:Nat):Int)) (vb true) (vi ↑i) a0 (vi ↑(s.limits / 5)) a1 a2 a3) hA) (qh7 3 (j5b F (.region [(.mk .none (.p (.mv (.g 19))) .none),(.mk .none (.p (.bin .add (.l 0) (.c (.s (.int .i64 1))))) .none),(.mk (.some 19) (.p (.mv (.l 0))) .none)]) (j5c F jdw Q))):=fun hre=>tl (by
   unfold jfz
   simp only[hwi2,hcls,hfs,hw,hre,f0v,and_false,if_false,if_true])
  have gx:∀ {b:Nat},b<hi.next->hA.get b=hi.get b:=fun h1=>gA _ h1
  by_cases cA:(kn:Int)<uses
  .obtain ⟨ok1,hok1⟩:∃ o,s.ops[kn]?=some o:=⟨_,f0b (by omega)⟩
   obtain⟨ob1,orow,oms,oe1,oe2,oe3,⟨rfl,rfl⟩,oe5,oe6⟩:=so.at hok1
   have hob:=lo ob1 (by simp[oe6])
   have eo2:=jg3 (j:=2) (c:=.bool ok1.late) oe2 rfl
   have eo1:=jg3 (j:=1) (c:=si ok1.value) oe2 rfl
   obtain⟨vc,hvc⟩:∃ c,w.values[ok1.value]?=some c:=⟨_,f0b (hops _ (f0c hok1))⟩
   obtain⟨vb1,vrow,vms,ve1,ve2,ve3,⟨rfl,rfl⟩,ve5,ve6⟩:=hv.at hvc
   have hvb:=hlt vb1 (by simp[e0,ve6])
   have hreu:jge w pc uses rd cls s=(decide (kn<uses)&&(decide (kn≠rd)&&(!ok1.late&&(decide (g2 s.need cls+1<g2 w.m cls)&&decide (vc=cls))))):=by
    unfold jge
    simp only[hkn,f0f,hok1,f1t,hvc]
   have en:=qp3 (p:=s.need) hc2
   have er:=qjp (p:=w.m) (r:=[a,b,si w.cur,k,si w.all]) hc2
   have ew:jbv (cls*1) [SV.int IntKind.i64 (↑(g2 s.need cls)+1)] [si ↑s.need.1,si ↑s.need.2]=some [si ↑(s2 s.need cls (g2 s.need cls+1)).1,si ↑(s2 s.need cls (g2 s.need cls+1)).2]:=by
    have:=qua (p:=s.need) (z:=g2 s.need cls+1) hc2
    rw[show((g2 s.need cls+1:Nat):Int)=↑(g2 s.need cls)+1 from by omega] at this
    exact this
   have hgl:g2 s.need cls<=10:=by unfold g2;split<;>omega
   have rzne:(¬ (kn:Int)=rz rd uses)↔kn≠rd:=by unfold rz;split<;>omega
   by_cases cB:(kn:Int)=rz rd uses
   .have hre:jge w pc uses rd cls s=false:=by
     have:¬ kn≠rd:=fun h1=>rzne.2 h1 cB
     rw[hreu];simp[this]
    simp(disch:=first|omega|rfl|simp only[List.length]) only[go_sem,jf1,jf2,jf3,jf4,jf5,jb5,jam,jai,jba B,hp,jj5,jdz,jd0,jj6,jj7,and_false,false_and,if_false,jfs,jft,jdo,jdp,jdq,jdr,jjy,jbs,hfs,hwi,hwi2,hcnd,hci,hcl,jhl,hw5,jad,jce,hu1,hkn,cA,eq_true cB,ne_eq]
    rw[←eA]
    exact fail hre
   .have hB:kn≠rd:=rzne.1 cB
    have cA':kn<uses:=by omega
    by_cases cC:ok1.late=true
    .have hre:jge w pc uses rd cls s=false:=by rw[hreu];simp[cC]
     simp(disch:=first|omega|rfl|simp only[List.length]) only[go_sem,jf1,jf2,jf3,jf4,jf5,jb5,jam,jai,jba B,hp,hx,jj5,jdz,jd0,jj6,jj7,and_false,false_and,if_false,jfs,jft,jdo,jdp,jdq,jdr,jjy,jbs,hfs,hwi,hwi2,hcnd,hci,hcl,jhl,hw5,jad,jce,hu1,hkn,cA,cB,cC,ne_eq,oe1,eo2]
     rw[←eA]
     exact fail hre
    .have cC':ok1.late=false:=by simpa using cC
     rw[cC'] at eo2
     by_cases cD:(g2 s.need cls:Int)+1<g2 w.m cls
     .have cD':g2 s.need cls+1<g2 w.m cls:=by omega
      by_cases cE:(vc:Int)=cls
      .have cE':vc=cls:=by omega
       have hre:jge w pc uses rd cls s=true:=by rw[hreu];simp[cA',hB,cC',cD',cE']
       simp(disch:=first|omega|rfl|simp only[List.length]) only[go_sem,jf1,jf2,jf3,jf4,jf5,jb5,jam,jai,jba B,hp,hx,hn,hg,jj5,jdz,jd0,jj6,jj7,and_false,false_and,if_false,jfs,jft,jdo,jdp,jdq,jdr,jjy,jbs,hfs,hwi,hwi2,hcnd,hci,hcl,jhl,hw5,jad,jce,hu1,hkn,cA,cB,cC',ne_eq,oe1,eo2,en,er,cD,eq_true cE,eo1,ve1,ve2,ew]
       rw[←eA]
       obtain⟨hB2,eB⟩:∃ hB2,hB2=(((hA.put (h.next+3) (some (AB.arr [si ↑(s2 s.need cls (g2 s.need cls+1)).1,si ↑(s2 s.need cls (g2 s.need cls+1)).2] 3))).put hi.next (some (AB.arr [SV.int IntKind.i64 2,SV.int IntKind.i64 0,SV.bool true,SV.int IntKind.i64 0,SV.int IntKind.i64 0] 73))).put hi.next (some (AB.arr [SV.int IntKind.i64 2,SV.int IntKind.i64 0,SV.bool true,SV.int IntKind.i64 5,SV.int IntKind.i64 0] 73))).put hi.next (some (AB.arr [SV.int IntKind.i64 2,SV.int IntKind.i64 0,SV.bool true,SV.int IntKind.i64 5,SV.int IntKind.i64 kn] 73)):=⟨_,rfl⟩
       rw[←eB]
       have okB:Ok hB2:=by rw[eB];exact jas (jas (jas (jas okA)))
       have ph:=ok.pos
       have gB:∀ n,n≠h.next+3->n≠hi.next->hB2.get n=hA.get n:=fun n h1 h2=>by
        rw[eB,jak (jas (jas (jas okA))) ph,if_neg h2,jak (jas (jas okA)) ph,if_neg h2,jak (jas okA) ph,if_neg h2,jak okA (by omega),if_neg h1]
       have nB:hB2.get (h.next+3)=some (AB.arr [si ↑(s2 s.need cls (g2 s.need cls+1)).1,si ↑(s2 s.need cls (g2 s.need cls+1)).2] 3):=by
        rw[eB,jak (jas (jas (jas okA))) ph,if_neg (by omega),jak (jas (jas okA)) ph,if_neg (by omega),jak (jas okA) ph,if_neg (by omega),jak okA (by omega),if_pos rfl]
       have oB:hB2.get hi.next=some (AB.arr [si (2:Nat),si (0:Nat),SV.bool true,si (5:Nat),si kn] 73):=by
        rw[eB,jak (jas (jas (jas okA))) ph,if_pos rfl];rfl
       have xB:hB2.next=hi.next+1:=by rw[eB,Hp.next_put,Hp.next_put,Hp.next_put,Hp.next_put,nA]
       clear eB
       have hm1:=wk.m1
       have hm2:=wk.m2
       have hb1:(s2 s.need cls (g2 s.need cls+1)).1<=10/\(s2 s.need cls (g2 s.need cls+1)).2<=10/\s.fixed.1<=(s2 s.need cls (g2 s.need cls+1)).1/\s.fixed.2<=(s2 s.need cls (g2 s.need cls+1)).2:=by
        have hc3:cls=0∨cls=1:=by omega
        rcases hc3 with h0 | h0
        .simp only[h0,g2,s2,if_true] at cD' ⊢;omega
        .simp only[h0,g2,s2,Nat.one_ne_zero,if_false] at cD' ⊢;omega
       have IB:=IA.upd (hj:=hB2) (w':=w) (ns2:=ns') (need:=s2 s.need cls (g2 s.need cls+1)) (fixed:=s.fixed) (lim:=s.limits / 5) okB (by omega) (fun n hn=>.inl hn) (mr.keep (fun n hn=>(gB n (by have:=ln n hn;omega) (by have:=(hlt n hn).2;omega)).trans (gA n (hlt n hn).2)) (by omega)) nB ((gB _ (by omega) (by omega)).trans IA.hf) (fun n h1 h3' h4 h5 h6=>gB n h4 (by
        rcases h6 with h6 | h6 | h6
        .omega
        .omega
        .have:=(lo n h6).2;omega)) hb1 (by omega)
       refine j5y B wk hN IB (by simp only;omega) hc2 oB ⟨by omega,by omega,hoN.2.2⟩ (fun hj ns'' xo' nso' x9' I4=>?_)
       simp(disch:=first|omega|rfl|simp only[List.length]) only[go_sem,jad]
       have hD:jfz pc (pk pc.flags 1073741824) uses i (s,rd,w)=(⟨s.ops++[⟨2,w.values.length,true,5,kn⟩],s.limits / 5,s2 s.need cls (g2 s.need cls+1),s.fixed⟩,kn,{ w with values:=w.values++[cls] }):=by
        unfold jfz
        simp only[hwi2,hcls,hw,hre,and_self,if_true,hkn]
       rw[hD] at hQ
       have hrz:rz kn uses=(kn:Int):=by unfold rz;rw[if_neg (by omega)]
       simp only[hrz] at hQ
       exact hQ _ _ _ _ _ _ _ _ _ _ _ _ I4
      .have cE':¬ vc=cls:=by omega
       have hre:jge w pc uses rd cls s=false:=by rw[hreu];simp[cE']
       simp(disch:=first|omega|rfl|simp only[List.length]) only[go_sem,jf1,jf2,jf3,jf4,jf5,jb5,jam,jai,jba B,hp,hx,hn,hg,jj5,jdz,jd0,jj6,jj7,and_false,false_and,if_false,jfs,jft,jdo,jdp,jdq,jdr,jjy,jbs,hfs,hwi,hwi2,hcnd,hci,hcl,jhl,hw5,jad,jce,hu1,hkn,cA,cB,cC',ne_eq,oe1,eo2,en,er,cD,cE,eo1,ve1,ve2]
       rw[←eA]
       exact fail hre
     .have cD':¬ g2 s.need cls+1<g2 w.m cls:=by omega
      have hre:jge w pc uses rd cls s=false:=by rw[hreu];simp[cD']
      simp(disch:=first|omega|rfl|simp only[List.length]) only[go_sem,jf1,jf2,jf3,jf4,jf5,jb5,jam,jai,jba B,hp,hx,hn,hg,jj5,jdz,jd0,jj6,jj7,and_false,false_and,if_false,jfs,jft,jdo,jdp,jdq,jdr,jjy,jbs,hfs,hwi,hwi2,hcnd,hci,hcl,jhl,hw5,jad,jce,hu1,hkn,cA,cB,cC',ne_eq,oe1,eo2,en,er,cD]
      rw[←eA]
      exact fail hre
  .have hre:jge w pc uses rd cls s=false:=by
    unfold jge
    have:¬ kn<uses:=by omega
    simp[hkn,this]
   simp(disch:=first|omega|rfl|simp only[List.length]) only[go_sem,jf1,jf2,jf3,jf4,jf5,jb5,jam,jai,jba B,hp,jj5,jdz,jd0,jj6,jj7,and_false,false_and,if_false,jfs,jft,jdo,jdp,jdq,jdr,jjy,jbs,hfs,hwi,hwi2,hcnd,hci,hcl,jhl,hw5,jad,jce,hu1,hkn,cA]
   rw[←eA]
   exact fail hre
 .simp (disch:=first|omega|rfl|simp only[List.length]) only[go_sem,jf1,jf2,jf3,jf4,jf5,jb5,jam,jai,jba B,hp,jj5,jdz,jd0,jj6,jj7,and_false,false_and,if_false,jfs,jft,jdo,jdp,jdq,jdr,jjy,jbs,hfs,hwi,hwi2,hcnd,hci,hcl,jhl,hw5,jad,jce]
  rw[←eA]
  refine tl ?_
  have hw:¬ wi=5:=by omega
  unfold jfz
  simp only[hwi2,hcls,hfs,hw,false_and,if_false]
end
theorem js4 {p:Pc} {flags uses i:Nat} {x:Iw×Nat×Ms} (hr:x.2.1<=uses):(jfz p flags uses i x).2.1<=uses/\(jfz p flags uses i x).1.ops.length=x.1.ops.length+1/\(jfz p flags uses i x).2.2={ x.2.2 with values:=x.2.2.values++[jg4 p i] }/\((∀ o∈x.1.ops,o.value<x.2.2.values.length)->∀ o∈(jfz p flags uses i x).1.ops,o.value<(jfz p flags uses i x).2.2.values.length):=by
 have hk:pk p.b (uses+1)<uses+1:=jgo (by omega)
 unfold jfz
 simp only
 split
 .refine ⟨by simp only;omega,by simp,rfl,fun h o ho=>?_⟩
  simp only[f0e,f0q,f0k,f2n] at ho ⊢
  rcases ho with ho | rfl
  .have:=h o ho;omega
  .simp
 .refine ⟨hr,by simp,rfl,fun h o ho=>?_⟩
  simp only[f0e,f0q,f0k,f2n] at ho ⊢
  rcases ho with ho | rfl
  .have:=h o ho;omega
  .simp
theorem jvp {p:Pc} {i:Nat}:jg4 p i<2:=by
 unfold jg4
 have h1:=Int.emod_nonneg (p.c / 2 ^ i) (by omega:(2:Int)≠0)
 have h2:=Int.emod_lt_of_pos (p.c / 2 ^ i) (by omega:(0:Int)<2)
 omega
theorem Wok.value {N c:Nat} (k:Wok w N) (hc:c<2):Wok { w with values:=w.values++[c] } (N+1) :=
 ⟨k.m1,k.m2,fun x hx=>by
  rcases f0e.1 hx with h | h
  .exact k.vals x h
  .simp at h;omega,fun v hv=>by have:=k.known v hv;simp;omega,k.cur,by simp;exact k.nv,f2i k.nb,f2i k.nk,fun b hb=>by have:=k.ni b hb;omega,f2i k.na⟩
section
variable {F:Fns} (B:Base F)
include B
theorem jx8 {p:Nat} {ns:List Nat} (pin:Pin pc) {uses:Nat} (hu:uses<=3):∀ (d:Nat) {hi:Hp} {w:Ms} {N:Nat} (_:Wok w N) (_:N+d<=100000) {ns':List Nat} {s:Iw} {xo:SV} {nso:List Nat} (_:Iv h hi p w ns ns' pc s [] xo .nilSlice nso []) {i rd:Nat} (_:i+d=1+pk pc.flags 1073741824 / 2 ^ 8 % 2) (_:s.ops.length=uses+i) (_:∀ o∈s.ops,o.value<w.values.length) (_:rd<=uses)
 {x9 x10 x11 x12 x14 x16 x17 x18:AV} (hQ:∀ hj ns' xo nso x9 x10 x11 x12 x13 x14 x16 x17 x18,Iv h hj p (jek pc (pk pc.flags 1073741824) uses d i (s,rd,w)).2.2 ns ns' pc (jek pc (pk pc.flags 1073741824) uses d i (s,rd,w)).1 [] xo .nilSlice nso []->Wok (jek pc (pk pc.flags 1073741824) uses d i (s,rd,w)).2.2 (N+d)->(jek pc (pk pc.flags 1073741824) uses d i (s,rd,w)).2.2.m=w.m->Q (.exit 2) (.mk (frD h p pc x9 x10 x11 x12 x13 x14 (vi uses) x16 x17 x18 (vi ↑(i+d)) a0 (vi ↑(jek pc (pk pc.flags 1073741824) uses d i (s,rd,w)).1.limits) a1 a2 a3) hj)),
 W F jdw.loop (.mk (frD h p pc x9 x10 x11 x12 (vi (rz rd uses)) x14 (vi uses) x16 x17 x18 (vi ↑i) a0 (vi ↑s.limits) a1 a2 a3) hi) Q
 | 0,hi,w,N,wk,hN,ns',s,xo,nso,I,i,rd,hi2,hl,hops,hrd,x9,x10,x11,x12,x14,x16,x17,x18,hQ=>by
  rw[jaj]
  unfold jdw
  have hfl:pk pc.flags 1073741824<1073741824:=jgo (by omega)
  have hf8:pk pc.flags 1073741824 / 2 ^ 8<1073741824:=by have:=f3j (pk pc.flags 1073741824) (2 ^ 8);omega
  have hcnd:¬ (i:Int)<1+((pk pc.flags 1073741824 / 2 ^ 8:Nat):Int) % 2:=by omega
  simp(disch:=first|omega|rfl|simp only[List.length]) only[go_sem,jfs,jft,jdo,jdp,jdq,jdr,jjy,jbs,hcnd,jad,jj5,jdz,jd0,jj6,jj7,and_false,false_and,if_false]
  exact hQ hi ns' xo nso _ _ _ _ _ _ _ _ _ I wk rfl
 | d+1,hi,w,N,wk,hN,ns',s,xo,nso,I,i,rd,hi2,hl,hops,hrd,x9,x10,x11,x12,x14,x16,x17,x18,hQ=>by
  refine qds B pin wk (by omega) I (by omega) hl hu hops hrd (fun hj ns' xo nso y9 y10 y11 y12 y14 y16 y17 y18 I'=>?_)
  obtain⟨f1,f2,f3,f4⟩:=js4 (p:=pc) (flags:=pk pc.flags 1073741824) (uses:=uses) (i:=i) (x:=(s,rd,w)) hrd
  have e1:jek pc (pk pc.flags 1073741824) uses (d+1) i (s,rd,w)=jek pc (pk pc.flags 1073741824) uses d (i+1) (jfz pc (pk pc.flags 1073741824) uses i (s,rd,w)):=rfl
  rw[e1] at hQ
  have f5:(jfz pc (pk pc.flags 1073741824) uses i (s,rd,w)).2.2.m=w.m:=by rw[f3]
  have wk':Wok (jfz pc (pk pc.flags 1073741824) uses i (s,rd,w)).2.2 (N+1):=by rw[f3];exact wk.value jvp
  generalize jfz pc (pk pc.flags 1073741824) uses i (s,rd,w)=y at *
  obtain⟨s',rd',w'⟩:=y
  refine jx8 pin hu d wk' (by omega) I' (by omega) (by rw[f2,hl];omega) (f4 hops) f1 (fun hj ns' xo nso y9 y10 y11 y12 y13 y14 y16 y17 y18 I'' wk'' hm=>?_)
  have e2:i+1+d=i+(d+1):=by omega
  rw[e2]
  have e3:N+1+d=N+(d+1):=by omega
  rw[e3] at wk''
  exact hQ hj ns' xo nso _ _ _ _ _ _ _ _ _ I'' wk'' (hm.trans f5)
end
theorem Iv.appR {p:Nat} {ns:List Nat} {s:Iw} {sp:List (Nat×Nat)} (I:Iv h hi p w ns ns' pc s sp xo xs nso nss) (hl:sp.length<=100) (o:Nat×Nat) :
 ∃ h4 nss',juf (hi.push (.arr (jds o) 76)) 76 2 16 (.s xs) (.s (.slice hi.next 0 1 1 true 2))=some (.s (.slice (hi.next+1) 0 (sp.length+1) (sp.length+1) false 2),h4)/\Ok h4/\h4.get (h.next+2)=some (.arr [si (pk pc.op 256),xo,xs] 59) /\
  Iv h (h4.put (h.next+2) (some (.arr [si (pk pc.op 256),xo,.slice (hi.next+1) 0 (sp.length+1) (sp.length+1) false 2] 59))) p w ns ns' pc s (sp++[o]) xo (.slice (hi.next+1) 0 (sp.length+1) (sp.length+1) false 2) nso nss':=by
 obtain⟨ok,nx,mr0,mv0,hp,hr,hx,hn0,hf0,so,ss,lo,ln,nd,b1,b2⟩:=I
 have hlo:∀ n∈nss,h.next+5<=n/\n<hi.next:=fun n hn=>lo n (by simp[hn])
 have hnd:=f0r.1 nd
 have hnd2:=f0r.1 hnd.2.1
 obtain⟨h4,e4,ok4,nx4,kp4,kt4,sl4⟩:=ss.app1 (bytes:=16) (row:=jds o) (a:=o) (ms:=[]) ok (fun n hn=>by have:=hlo n hn;omega) rfl ⟨rfl,rfl⟩ (by omega) (by omega)
 have nsl:∀ n,n<h.next+5->n∉nss:=fun n h1 h2'=>by have:=(hlo n h2').1;omega
 refine⟨h4,(hi.next+1)::(nss.tail++[]),e4,ok4,(kp4 _ (by omega) (nsl _ (by omega))).trans hx,?_⟩
 have g5:∀ n,n≠h.next+2->(h4.put (h.next+2) (some (AB.arr [si ↑(pk pc.op 256),xo,SV.slice (hi.next+1) 0 (sp.length+1) (sp.length+1) false 2] 59))).get n=h4.get n:=fun n hn=>by
  rw[jak ok4 (by omega),if_neg hn]
 have x5:(h4.put (h.next+2) (some (AB.arr [si ↑(pk pc.op 256),xo,SV.slice (hi.next+1) 0 (sp.length+1) (sp.length+1) false 2] 59))).get (h.next+2)=some (AB.arr [si ↑(pk pc.op 256),xo,SV.slice (hi.next+1) 0 (sp.length+1) (sp.length+1) false 2] 59):=by
  rw[jak ok4 (by omega),if_pos rfl]
 have n5:(h4.put (h.next+2) (some (AB.arr [si ↑(pk pc.op 256),xo,SV.slice (hi.next+1) 0 (sp.length+1) (sp.length+1) false 2] 59))).next=hi.next+2:=by
  rw[Hp.next_put,nx4]
 have ok5:Ok (h4.put (h.next+2) (some (AB.arr [si ↑(pk pc.op 256),xo,SV.slice (hi.next+1) 0 (sp.length+1) (sp.length+1) false 2] 59))):=jas ok4
 generalize h4.put (h.next+2) (some (AB.arr [si ↑(pk pc.op 256),xo,SV.slice (hi.next+1) 0 (sp.length+1) (sp.length+1) false 2] 59))=h5 at g5 x5 n5 ok5
 have k5:∀ n,n<hi.next->n≠h.next+2->n∉nss->h5.get n=hi.get n:=fun n h1 h2' h5'=>(g5 n h2').trans (kp4 n h1 h5')
 have dj:∀ n∈ns',n∉nss:=fun n hn h1=>hnd.2.2 n hn n (by simp[h1]) rfl
 refine⟨ok5,by omega,mr0.keep (fun n hn=>k5 n (mr0.lt n hn).2 (by have:=ln n hn;omega) (dj n hn)) (by omega),⟨ok5,by have:=mv0.nx;omega,mv0.new,fun n h1 h2'=>(k5 n (by omega) (by omega) (nsl n (by omega))).trans (mv0.keep n h1 h2')⟩,
  (k5 _ (by omega) (by omega) (nsl _ (by omega))).trans hp,(k5 _ (by omega) (by omega) (nsl _ (by omega))).trans hr,x5,(k5 _ (by omega) (by omega) (nsl _ (by omega))).trans hn0,(k5 _ (by omega) (by omega) (nsl _ (by omega))).trans hf0,
  so.keep (fun n hn=>k5 n (lo n (by simp[hn])).2 (by have:=(lo n (by simp[hn])).1;omega) (fun h1=>hnd2.2.2 n hn n h1 rfl)),?_,fun n hn=>?_,ln,?_,b1,b2⟩
 .exact (sl4 (E':=ER) (fun _ _ _ _ h=>h)).keep (h':=h5) (fun n hn=>g5 n (by
   rcases f0j.1 hn with rfl | hn
   .omega
   .have:=(hlo n (f0o (by simpa using hn))).1;omega))
 .rcases f0e.1 hn with hn | hn
  .have:=lo n (by simp[hn]);omega
  .rcases f0j.1 hn with rfl | hn
   .omega
   .have:=hlo n (f0o (by simpa using hn));omega
 .have e:ns'++(nso++nss)=(ns'++nso)++(nss++[]):=by simp
  have e':ns'++(nso++((hi.next+1)::(nss.tail++[])))=(ns'++nso)++(((hi.next+1)::(nss.tail++[]))++[]):=by simp
  rw[e']
  rw[e] at nd
  refine jg6 (ns:=nss) (B:=[]) (N:=hi.next) nd (fun n hn=>?_) (jdk hnd2.2.1 .nil (by simp) (fun h1=>by have:=(hlo _ h1).2;omega) (by simp)) (fun n hn=>?_)
  .rw [←e] at hn
   rcases f0e.1 hn with hn | hn
   .exact (mr0.lt n hn).2
   .exact (lo n hn).2
  .rcases f0j.1 hn with rfl | hn
   .exact .inr (by omega)
   .exact .inl (f0o (by simpa using hn))
noncomputable abbrev frE (h:Hp) (p:Nat) (pc:Pc) (x3 x4 x5 x6 x7 x8 x9 x10 x11 x12 x13 x14 x15 x16 x17 x18 x19 a0 x24 a1 a2 a3:AV):List AV:=[.s (.ptr p 0),.agg (jce pc),.s (.ptr (h.next+1) 0),x3,x4,x5,x6,x7,x8,x9,x10,x11,x12,x13,x14,x15,x16,x17,x18,x19,.s (.ptr (h.next+2) 0),a0,.s (.slice (h.next+4) 0 2 2 true 1),.s (.slice (h.next+3) 0 2 2 true 1),x24,a1,a2,vi ↑(pk pc.flags 1073741824),a3,.s (.ptr h.next 0)]
section
variable {F:Fns} (B:Base F)
include B
theorem js5 {p:Nat} {ns:List Nat} {s:Iw} {c:Nat} (hc:c<2) (hm:g2 w.m c<=10):∀ (k:Nat) (_:k<g2 w.m c) {hi:Hp} {sp:List (Nat×Nat)} {xs:SV} {nss:List Nat} (_:Iv h hi p w ns ns' pc s sp xo xs nso nss) (_:sp.length+k<=100) {x3:AV}
 (hQ:∀ hj xs nss x3,Iv h hj p w ns ns' pc s (sp++jbo c (g2 w.m c) k) xo xs nso nss->Q (.exit 6) (.mk (frE h p pc x3 (vi 0) x5 x6 (vi c) x8 x9 x10 x11 x12 x13 x14 x15 x16 x17 x18 x19 a0 x24 a1 a2 a3) hj)),
 W F ji1.loop (.mk (frE h p pc x3 (vi k) x5 x6 (vi c) x8 x9 x10 x11 x12 x13 x14 x15 x16 x17 x18 x19 a0 x24 a1 a2 a3) hi) Q
 | 0,hk,hi,sp,xs,nss,I,hl,x3,hQ=>by
  rw[jaj]
  unfold ji1
  simp(disch:=first|omega|rfl|simp only[List.length]) only[go_sem,jfs,jft,jdo,jdp,jdq,jdr,jjy,jbs,jad,jj5,jdz,jd0,jj6,jj7,and_false,false_and,if_false,f0s]
  have:=hQ hi xs nss (vb false) (by rw[show jbo c (g2 w.m c) 0=[] from rfl,f1c];exact I)
  exact this
 | k+1,hk,hi,sp,xs,nss,I,hl,x3,hQ=>by
  rw[jaj]
  unfold ji1 js2
  have I0:=I
  obtain⟨ok,nx,mr,mv,hp,hr,hx,hn,hf,so,ss,lo,ln,nd,b1,b2⟩:=I
  obtain⟨⟨a,b,kk,n1,n2,n3,hg,hv,hb,hk',e0⟩,hd',hlt⟩:=id mr
  have hp0:=hlt p (by simp[e0])
  have hpl:=ln p (by simp[e0])
  have er:=qjp (p:=w.m) (r:=[a,b,si w.cur,kk,si w.all]) hc
  have hk1:(0:Int)<((k+1:Nat):Int):=by omega
  have hsub:(g2 w.m c:Int) - ((k+1:Nat):Int)=((g2 w.m c - (k+1):Nat):Int):=by omega
  have hdec:((k+1:Nat):Int) - 1=(k:Int):=by omega
  obtain⟨h4,nss',e4,ok4,x4,I4⟩:=I0.appR (by omega) (c,g2 w.m c - (k+1))
  have e4':juf (hi.push (AB.arr [si ↑c,SV.int IntKind.i64 ↑(g2 w.m c - (k+1))] 76)) 76 2 16 (AV.s xs) (AV.s (SV.slice hi.next 0 1 1 true 2))=some (.s (.slice (hi.next+1) 0 (sp.length+1) (sp.length+1) false 2),h4):=e4
  simp(disch:=first|omega|rfl|simp only[List.length]) only[go_sem,jfs,jft,jdo,jdp,jdq,jdr,jjy,jbs,jad,jj5,jdz,jd0,jj6,jj7,and_false,false_and,if_false,hk1,hx,hg,er,hsub,hdec,e4',x4]
  refine js5 hc hm k (by omega) I4 (by simp;omega) (fun hj xs nss x3 I5=>?_)
  rw[f0l] at I5
  exact hQ hj xs nss x3 I5
theorem js6 {p:Nat} {ns:List Nat} (pin:Pin pc) {N:Nat} (wk:Wok w N) {s:Iw} {c:Nat} (hc:c<2) (hnd:g2 s.need c<g2 w.m c) {sp:List (Nat×Nat)} (I:Iv h hi p w ns ns' pc s sp xo xs nso nss) (hl:sp.length<=50) {x3 x4:AV}
 (hQ:∀ hj xs nss x3 x4 x5 x6,Iv h hj p w ns ns' pc s (sp++jbo c (g2 w.m c) (min (pk pc.b 4) (g2 w.m c - 1 - g2 s.need c))) xo xs nso nss->W F jg7.loop (.mk (frE h p pc x3 x4 x5 x6 (vi ((c+1:Nat):Int)) x8 x9 x10 x11 x12 x13 x14 x15 x16 x17 x18 x19 a0 x24 a1 a2 a3) hj) Q) :
 W F jg7.loop (.mk (frE h p pc x3 x4 x5 x6 (vi c) x8 x9 x10 x11 x12 x13 x14 x15 x16 x17 x18 x19 a0 x24 a1 a2 a3) hi) Q:=by
 rw[jaj]
 unfold jg7 js3
 have I0:=I
 obtain⟨ok,nx,mr,mv,hp,hr,hx,hn,hf,so,ss,lo,ln,nd,b1,b2⟩:=I
 obtain⟨⟨a,b,kk,n1,n2,n3,hg,hv,hb,hk',e0⟩,hd',hlt⟩:=id mr
 have hp0:=hlt p (by simp[e0])
 have hpl:=ln p (by simp[e0])
 obtain⟨⟨q1,q2⟩,⟨q3,q4⟩,⟨q5,q6⟩,⟨q7,q8⟩,⟨q9,q10⟩,⟨q11,q12⟩,⟨q13,q14⟩⟩:=pin
 have er:=qjp (p:=w.m) (r:=[a,b,si w.cur,kk,si w.all]) hc
 have en:=qp3 (p:=s.need) hc
 have hm1:=wk.m1
 have hm2:=wk.m2
 have hgm:g2 w.m c<=10:=by unfold g2;split<;>omega
 have hc1:(c:Int)<2:=by omega
 have hpk:pk pc.b 4<4:=jgo (by omega)
 have hmin:(if (pk pc.b 4:Int)<=(g2 w.m c:Int) - 1 - (g2 s.need c:Int) then (pk pc.b 4:Int) else (g2 w.m c:Int) - 1 - (g2 s.need c:Int))=((min (pk pc.b 4) (g2 w.m c - 1 - g2 s.need c):Nat):Int):=by
  rw[Nat.min_def]
  split<;>split<;>omega
 simp(disch:=first|omega|rfl|simp only[List.length]) only[go_sem,jfs,jft,jdo,jdp,jdq,jdr,jjy,jbs,jf1,jf2,jf3,jf4,jf5,jb5,jam,jai,jba B,jad,jj5,jdz,jd0,jj6,jj7,and_false,false_and,if_false,hp,hn,jce,hc1,hg,er,en,hmin]
 refine js5 B hc hgm _ (by omega) I0 (by omega) (fun hj xs nss x3 I5=>?_)
 simp(disch:=first|omega|rfl|simp only[List.length]) only[go_sem,jad]
 exact hQ hj xs nss _ _ _ _ I5
end
end Go.Proofs.YtdbklpgagdbpiaaDoor.Ev
