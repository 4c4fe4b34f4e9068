/- The reference's form of expressions. -/
import Derived.Test.YteaoocedcjijdaaGreatDoorSEK80
import Derived.Test.YteaoocedcjijdaaGreatDoorPuA
import Derived.KernelRfl
import Derived.Test.YteaoocedcjijdaaGreatDoorSEK1
set_option linter.all false
set_option linter.unusedVariables false
set_option linter.unusedSimpArgs false
namespace Go.Ev
open Go
set_option maxRecDepth 100000
set_option maxHeartbeats 4000000
theorem rexpr_spec:∀(s:Nat) {nd:Nd},nd.count≤s→∀{lo:Nat} {h:AHeap} {kv:AV} {Q:QR},KidsR lo h nd.kids kv→nd.longB=false→(∀h',Fr h.n h h'→Q (.ret (.bool nd.exprF)) h')→WF F 31 [.agg (ndC nd kv)] h Q:=by
 intro s
 induction s with
 | zero=>intro nd h0;cases nd;simp [Nd.count] at h0
 | succ s ih=>
  intro nd hs lo h kv Q hk hlg hQ
  have hcnt:nd.count=1+cntL nd.kids:=by cases nd;rfl
  rw[longB_eq,Bool.or_eq_false_iff] at hlg
  have hnm:nd.name.length<2^62:=by have:=of_decide_eq_false hlg.1;omega
  rw[exprF_eq] at hQ
  have hsm:=hk.small
  have hlks:=hlg.2
  clear hlg
  generalize nd.kids=ks at hk hcnt hsm hlks hQ
  refine WF.code F31 rfl ?_
  simp(disch:=(try simp only[hN]);omega)only[go_sem,simprocAttr,hk.flat.1,hk.flat.2,hk.len]
  have hkf:=hk.flat
  generalize hH:AHeap.alloc _ _=H
  have Hn:H.n=h.n+1:=by rw[←hH];simp(disch:=(try simp only[hN]);omega)only[go_sem,simprocAttr]
  have H0:H.get h.n=some ⟨0,.cells .own 0 (ndC nd kv)⟩:=by rw[←hH];simp(disch:=(try simp only[hN]);omega)only[go_sem,simprocAttr]
  have Hf:Fr h.n h H:=by rw[←hH];exact ⟨by (try simp only[hN]);omega,fun b hb hne=>by (try simp only[hN] at hb hne);simp(disch:=(try simp only[hN]);omega)only[go_sem,simprocAttr]⟩
  clear hH
  have hfr:∀h1,Fr H.n H h1→Fr h.n h h1:=fun h1 f1=>Hf.trans ⟨f1.n,fun b hb _=>f1.all (by omega)⟩
  refine fcut1 (fun a h'=>Fr h.n h h'∧h.n+1≤h'.n∧h'.get h.n=some ⟨0,.cells .own 0 (ndC nd kv)⟩∧a.tm.get 1=some (.ptr h.n 0)∧a.tm.get 3=some (.bool (exprA nd).1)∧a.tm.get 4=some (.int .i64 (((exprA nd).2:Nat):Int))∧a.df=[]) ?_ ?_
  ·(first|refine kA (fun e25=>?_) (fun e25=>?_)|refine kB (fun e25=>?_) (fun e25=>?_)|refine kC (fun e25=>?_) (fun e25=>?_)|refine kD (fun e25=>?_) (fun e25=>?_)|refine kE (fun e25=>?_) (fun e25=>?_)|refine kF (fun e25=>?_) (fun e25=>?_))
   ·have kd:nd.kind=25:=by simpa using e25
    have hA:exprA nd=(decide (0≤nd.n)&&bareB nd [] 0 nd.n 0,0):=by unfold exprA;rw[if_pos kd]
    simp(disch:=(try simp only[hN]);omega)only[go_sem,simprocAttr,H0,hkf.1,hkf.2]
    refine fields_spec hkf.1 hkf.2 (by decide) (by decide) fun h1 f1=>?_
    have hn1:=f1.n;try simp only[hN] at hn1
    have q0:h1.get h.n=some ⟨0,.cells .own 0 (ndC nd kv)⟩:=by rw[f1.all (by omega)];exact H0
    rw[bare_n] at hA
    simp(disch:=(try simp only[hN]);omega)only[go_sem,simprocAttr]
    (first|refine kA (fun g=>?_) (fun g=>?_)|refine kB (fun g=>?_) (fun g=>?_)|refine kC (fun g=>?_) (fun g=>?_)|refine kD (fun g=>?_) (fun g=>?_)|refine kE (fun g=>?_) (fun g=>?_)|refine kF (fun g=>?_) (fun g=>?_))<;>simp(disch:=(try simp only[hN]);omega)only[go_sem,simprocAttr,g,q0]
    ·exact ⟨hfr _ f1,by omega,by rw[hA,show fldB true false false false nd=true from g,Bool.and_true],by rw[hA];rfl⟩
    ·exact ⟨hfr _ f1,by omega,by rw[hA,show fldB true false false false nd=false from g,Bool.and_false],by rw[hA];rfl⟩
   have k25:nd.kind≠25:=by simpa using e25
   simp(disch:=(try simp only[hN]);omega)only[go_sem,simprocAttr]
   (first|refine kA (fun e26=>?_) (fun e26=>?_)|refine kB (fun e26=>?_) (fun e26=>?_)|refine kC (fun e26=>?_) (fun e26=>?_)|refine kD (fun e26=>?_) (fun e26=>?_)|refine kE (fun e26=>?_) (fun e26=>?_)|refine kF (fun e26=>?_) (fun e26=>?_))
   ·have kd:nd.kind=26:=by simpa using e26
    have hA:exprA nd=(bareB nd [] 0 0 nd.bits,0):=by unfold exprA;rw[if_neg k25,if_pos kd]
    simp(disch:=(try simp only[hN]);omega)only[go_sem,simprocAttr,H0,hkf.1,hkf.2]
    refine fields_spec hkf.1 hkf.2 (by decide) (by decide) fun h1 f1=>?_
    have hn1:=f1.n;try simp only[hN] at hn1
    have q0:h1.get h.n=some ⟨0,.cells .own 0 (ndC nd kv)⟩:=by rw[f1.all (by omega)];exact H0
    rw[bare_b] at hA
    simp(disch:=(try simp only[hN]);omega)only[go_sem,simprocAttr,q0]
    exact ⟨hfr _ f1,by omega,by rw[hA];rfl,by rw[hA];rfl⟩
   have k26:nd.kind≠26:=by simpa using e26
   simp(disch:=(try simp only[hN]);omega)only[go_sem,simprocAttr]
   (first|refine kA (fun e27=>?_) (fun e27=>?_)|refine kB (fun e27=>?_) (fun e27=>?_)|refine kC (fun e27=>?_) (fun e27=>?_)|refine kD (fun e27=>?_) (fun e27=>?_)|refine kE (fun e27=>?_) (fun e27=>?_)|refine kF (fun e27=>?_) (fun e27=>?_))
   ·have kd:nd.kind=27:=by simpa using e27
    have hA:exprA nd=(((nd.n==0)||(nd.n==1))&&bareB nd [] 0 nd.n 0,0):=by unfold exprA;rw[if_neg k25,if_neg k26,if_pos kd]
    simp(disch:=(try simp only[hN]);omega)only[go_sem,simprocAttr,H0,hkf.1,hkf.2]
    refine fields_spec hkf.1 hkf.2 (by decide) (by decide) fun h1 f1=>?_
    have hn1:=f1.n;try simp only[hN] at hn1
    have q0:h1.get h.n=some ⟨0,.cells .own 0 (ndC nd kv)⟩:=by rw[f1.all (by omega)];exact H0
    rw[bare_n] at hA
    simp(disch:=(try simp only[hN]);omega)only[go_sem,simprocAttr]
    (first|refine kA (fun g=>?_) (fun g=>?_)|refine kB (fun g=>?_) (fun g=>?_)|refine kC (fun g=>?_) (fun g=>?_)|refine kD (fun g=>?_) (fun g=>?_)|refine kE (fun g=>?_) (fun g=>?_)|refine kF (fun g=>?_) (fun g=>?_))<;>simp(disch:=(try simp only[hN]);omega)only[go_sem,simprocAttr,g,q0]
    ·(first|refine kA (fun g0=>?_) (fun g0=>?_)|refine kB (fun g0=>?_) (fun g0=>?_)|refine kC (fun g0=>?_) (fun g0=>?_)|refine kD (fun g0=>?_) (fun g0=>?_)|refine kE (fun g0=>?_) (fun g0=>?_)|refine kF (fun g0=>?_) (fun g0=>?_))<;>simp(disch:=(try simp only[hN]);omega)only[go_sem,simprocAttr,g0,q0]
     ·exact ⟨hfr _ f1,by omega,by rw[hA,g0,show fldB true false false false nd=true from g,Bool.and_true,Bool.false_or],by rw[hA];rfl⟩
     ·exact ⟨hfr _ f1,by omega,by rw[hA,g0,show fldB true false false false nd=true from g];rfl,by rw[hA];rfl⟩
    ·exact ⟨hfr _ f1,by omega,by rw[hA,show fldB true false false false nd=false from g,Bool.and_false],by rw[hA];rfl⟩
   have k27:nd.kind≠27:=by simpa using e27
   simp(disch:=(try simp only[hN]);omega)only[go_sem,simprocAttr]
   (first|refine kA (fun e28=>?_) (fun e28=>?_)|refine kB (fun e28=>?_) (fun e28=>?_)|refine kC (fun e28=>?_) (fun e28=>?_)|refine kD (fun e28=>?_) (fun e28=>?_)|refine kE (fun e28=>?_) (fun e28=>?_)|refine kF (fun e28=>?_) (fun e28=>?_))
   ·have kd:nd.kind=28:=by simpa using e28
    have hA:exprA nd=(wordB nd.name&&bareB nd nd.name 0 0 0,0):=by unfold exprA;rw[if_neg k25,if_neg k26,if_neg k27,if_pos kd]
    simp(disch:=(try simp only[hN]);omega)only[go_sem,simprocAttr,H0,hkf.1,hkf.2]
    refine fields_spec hkf.1 hkf.2 (by decide) (by decide) fun h1 f1=>?_
    have hn1:=f1.n;try simp only[hN] at hn1
    have q0:h1.get h.n=some ⟨0,.cells .own 0 (ndC nd kv)⟩:=by rw[f1.all (by omega)];exact H0
    rw[bare_w] at hA
    simp(disch:=(try simp only[hN]);omega)only[go_sem,simprocAttr]
    (first|refine kA (fun g=>?_) (fun g=>?_)|refine kB (fun g=>?_) (fun g=>?_)|refine kC (fun g=>?_) (fun g=>?_)|refine kD (fun g=>?_) (fun g=>?_)|refine kE (fun g=>?_) (fun g=>?_)|refine kF (fun g=>?_) (fun g=>?_))<;>simp(disch:=(try simp only[hN]);omega)only[go_sem,simprocAttr,g,q0]
    ·refine rword_spec hnm fun h2 f2=>?_
     have hn2:=f2.n;try simp only[hN] at hn2
     have f12:Fr H.n H h2:=f1.trans ⟨f2.n,fun b hb _=>f2.all (by omega)⟩
     have q2:h2.get h.n=some ⟨0,.cells .own 0 (ndC nd kv)⟩:=by rw[f2.all (by omega)];exact q0
     simp(disch:=(try simp only[hN]);omega)only[go_sem,simprocAttr,q2]
     exact ⟨hfr _ f12,by omega,by rw[hA,show fldB false false true false nd=true from g,Bool.and_true,wordB_eq],by rw[hA];rfl⟩
    ·exact ⟨hfr _ f1,by omega,by rw[hA,show fldB false false true false nd=false from g,Bool.and_false],by rw[hA];rfl⟩
   have k28:nd.kind≠28:=by simpa using e28
   simp(disch:=(try simp only[hN]);omega)only[go_sem,simprocAttr]
   (first|refine kA (fun e29=>?_) (fun e29=>?_)|refine kB (fun e29=>?_) (fun e29=>?_)|refine kC (fun e29=>?_) (fun e29=>?_)|refine kD (fun e29=>?_) (fun e29=>?_)|refine kE (fun e29=>?_) (fun e29=>?_)|refine kF (fun e29=>?_) (fun e29=>?_))
   ·have kd:nd.kind=29:=by simpa using e29
    have hA:exprA nd=(wordB nd.name&&bareB nd nd.name 0 0 0,1):=by unfold exprA;rw[if_neg k25,if_neg k26,if_neg k27,if_neg k28,if_pos kd]
    simp(disch:=(try simp only[hN]);omega)only[go_sem,simprocAttr,H0,hkf.1,hkf.2]
    refine fields_spec hkf.1 hkf.2 (by decide) (by decide) fun h1 f1=>?_
    have hn1:=f1.n;try simp only[hN] at hn1
    have q0:h1.get h.n=some ⟨0,.cells .own 0 (ndC nd kv)⟩:=by rw[f1.all (by omega)];exact H0
    rw[bare_w] at hA
    simp(disch:=(try simp only[hN]);omega)only[go_sem,simprocAttr]
    (first|refine kA (fun g=>?_) (fun g=>?_)|refine kB (fun g=>?_) (fun g=>?_)|refine kC (fun g=>?_) (fun g=>?_)|refine kD (fun g=>?_) (fun g=>?_)|refine kE (fun g=>?_) (fun g=>?_)|refine kF (fun g=>?_) (fun g=>?_))<;>simp(disch:=(try simp only[hN]);omega)only[go_sem,simprocAttr,g,q0]
    ·refine rword_spec hnm fun h2 f2=>?_
     have hn2:=f2.n;try simp only[hN] at hn2
     have f12:Fr H.n H h2:=f1.trans ⟨f2.n,fun b hb _=>f2.all (by omega)⟩
     have q2:h2.get h.n=some ⟨0,.cells .own 0 (ndC nd kv)⟩:=by rw[f2.all (by omega)];exact q0
     simp(disch:=(try simp only[hN]);omega)only[go_sem,simprocAttr,q2]
     exact ⟨hfr _ f12,by omega,by rw[hA,show fldB false false true false nd=true from g,Bool.and_true,wordB_eq],by rw[hA];rfl⟩
    ·exact ⟨hfr _ f1,by omega,by rw[hA,show fldB false false true false nd=false from g,Bool.and_false],by rw[hA];rfl⟩
   have k29:nd.kind≠29:=by simpa using e29
   simp(disch:=(try simp only[hN]);omega)only[go_sem,simprocAttr]
   (first|refine kA (fun e30=>?_) (fun e30=>?_)|refine kB (fun e30=>?_) (fun e30=>?_)|refine kC (fun e30=>?_) (fun e30=>?_)|refine kD (fun e30=>?_) (fun e30=>?_)|refine kE (fun e30=>?_) (fun e30=>?_)|refine kF (fun e30=>?_) (fun e30=>?_))
   ·have kd:nd.kind=30:=by simpa using e30
    have hA:exprA nd=(opB nd.name&&bareB nd nd.name 0 0 0,1):=by unfold exprA;rw[if_neg k25,if_neg k26,if_neg k27,if_neg k28,if_neg k29,if_pos kd]
    simp(disch:=(try simp only[hN]);omega)only[go_sem,simprocAttr,H0,hkf.1,hkf.2]
    refine fields_spec hkf.1 hkf.2 (by decide) (by decide) fun h1 f1=>?_
    have hn1:=f1.n;try simp only[hN] at hn1
    have q0:h1.get h.n=some ⟨0,.cells .own 0 (ndC nd kv)⟩:=by rw[f1.all (by omega)];exact H0
    rw[bare_w] at hA
    simp(disch:=(try simp only[hN]);omega)only[go_sem,simprocAttr]
    (first|refine kA (fun g=>?_) (fun g=>?_)|refine kB (fun g=>?_) (fun g=>?_)|refine kC (fun g=>?_) (fun g=>?_)|refine kD (fun g=>?_) (fun g=>?_)|refine kE (fun g=>?_) (fun g=>?_)|refine kF (fun g=>?_) (fun g=>?_))<;>simp(disch:=(try simp only[hN]);omega)only[go_sem,simprocAttr,g,q0]
    ·have hA1:exprA nd=(opB nd.name,1):=by rw[hA,show fldB false false true false nd=true from g,Bool.and_true]
     unfold opB at hA1
     (first|refine kA (fun g1=>?_) (fun g1=>?_)|refine kB (fun g1=>?_) (fun g1=>?_)|refine kC (fun g1=>?_) (fun g1=>?_)|refine kD (fun g1=>?_) (fun g1=>?_)|refine kE (fun g1=>?_) (fun g1=>?_)|refine kF (fun g1=>?_) (fun g1=>?_))<;>simp(disch:=(try simp only[hN]);omega)only[go_sem,simprocAttr,g1,q0]
     ·(first|refine kA (fun g2=>?_) (fun g2=>?_)|refine kB (fun g2=>?_) (fun g2=>?_)|refine kC (fun g2=>?_) (fun g2=>?_)|refine kD (fun g2=>?_) (fun g2=>?_)|refine kE (fun g2=>?_) (fun g2=>?_)|refine kF (fun g2=>?_) (fun g2=>?_))<;>simp(disch:=(try simp only[hN]);omega)only[go_sem,simprocAttr,g2,q0]
      ·(first|refine kA (fun g3=>?_) (fun g3=>?_)|refine kB (fun g3=>?_) (fun g3=>?_)|refine kC (fun g3=>?_) (fun g3=>?_)|refine kD (fun g3=>?_) (fun g3=>?_)|refine kE (fun g3=>?_) (fun g3=>?_)|refine kF (fun g3=>?_) (fun g3=>?_))<;>simp(disch:=(try simp only[hN]);omega)only[go_sem,simprocAttr,g3,q0]
       ·exact ⟨hfr _ f1,by omega,by rw[hA1,g1,g2,g3];rfl,by rw[hA1];rfl⟩
       ·exact ⟨hfr _ f1,by omega,by rw[hA1,g3,Bool.or_true,Bool.true_or],by rw[hA1];rfl⟩
      ·exact ⟨hfr _ f1,by omega,by rw[hA1,g2,Bool.or_true,Bool.true_or,Bool.true_or],by rw[hA1];rfl⟩
     ·exact ⟨hfr _ f1,by omega,by rw[hA1,g1,Bool.true_or,Bool.true_or,Bool.true_or],by rw[hA1];rfl⟩
    ·exact ⟨hfr _ f1,by omega,by rw[hA,show fldB false false true false nd=false from g,Bool.and_false],by rw[hA];rfl⟩
   have k30:nd.kind≠30:=by simpa using e30
   simp(disch:=(try simp only[hN]);omega)only[go_sem,simprocAttr]
   (first|refine kA (fun e31=>?_) (fun e31=>?_)|refine kB (fun e31=>?_) (fun e31=>?_)|refine kC (fun e31=>?_) (fun e31=>?_)|refine kD (fun e31=>?_) (fun e31=>?_)|refine kE (fun e31=>?_) (fun e31=>?_)|refine kF (fun e31=>?_) (fun e31=>?_))
   ·have kd:nd.kind=31:=by simpa using e31
    have hA:exprA nd=(decide (0<rankN nd.name)&&bareB nd nd.name 0 0 0,2):=by unfold exprA;rw[if_neg k25,if_neg k26,if_neg k27,if_neg k28,if_neg k29,if_neg k30,if_pos kd]
    simp(disch:=(try simp only[hN]);omega)only[go_sem,simprocAttr,H0,hkf.1,hkf.2]
    refine fields_spec hkf.1 hkf.2 (by decide) (by decide) fun h1 f1=>?_
    have hn1:=f1.n;try simp only[hN] at hn1
    have q0:h1.get h.n=some ⟨0,.cells .own 0 (ndC nd kv)⟩:=by rw[f1.all (by omega)];exact H0
    rw[bare_w] at hA
    simp(disch:=(try simp only[hN]);omega)only[go_sem,simprocAttr]
    (first|refine kA (fun g=>?_) (fun g=>?_)|refine kB (fun g=>?_) (fun g=>?_)|refine kC (fun g=>?_) (fun g=>?_)|refine kD (fun g=>?_) (fun g=>?_)|refine kE (fun g=>?_) (fun g=>?_)|refine kF (fun g=>?_) (fun g=>?_))<;>simp(disch:=(try simp only[hN]);omega)only[go_sem,simprocAttr,g,q0]
    ·refine rrank_spec ?_
     have hd:decide ((rankN nd.name:Int)>0)=decide (0<rankN nd.name):=by rw[decide_eq_decide];omega
     simp(disch:=(try simp only[hN]);omega)only[go_sem,simprocAttr,q0]
     exact ⟨hfr _ f1,by omega,by rw[hA,show fldB false false true false nd=true from g,Bool.and_true,hd],by rw[hA];rfl⟩
    ·exact ⟨hfr _ f1,by omega,by rw[hA,show fldB false false true false nd=false from g,Bool.and_false],by rw[hA];rfl⟩
   have k31:nd.kind≠31:=by simpa using e31
   have hA:exprA nd=(false,0):=by unfold exprA;rw[if_neg k25,if_neg k26,if_neg k27,if_neg k28,if_neg k29,if_neg k30,if_neg k31]
   simp(disch:=(try simp only[hN]);omega)only[go_sem,simprocAttr,H0]
   exact ⟨hfr _ (Fr.refl _ _),by omega,by rw[hA],by rw[hA];rfl⟩
  ·rintro ⟨t,df⟩ h1 ⟨f1,hn1,q0,k1,k3,k4,kdf⟩
   simp only at k1 k3 k4 kdf
   subst kdf
   generalize hok:(exprA nd).1=ok at k3 hQ
   generalize hm:(exprA nd).2=m at k4 hQ
   simp(disch:=(try simp only[hN]);omega)only[go_sem,simprocAttr,k1,k3]
   (first|refine kA (fun g=>?_) (fun g=>?_)|refine kB (fun g=>?_) (fun g=>?_)|refine kC (fun g=>?_) (fun g=>?_)|refine kD (fun g=>?_) (fun g=>?_)|refine kE (fun g=>?_) (fun g=>?_)|refine kF (fun g=>?_) (fun g=>?_))<;>simp(disch:=(try simp only[hN]);omega)only[go_sem,simprocAttr,g,k1,k4,q0,hk.len]
   ·have hok1:ok=true:=by simpa using g
    subst hok1
    (first|refine kA (fun g2=>?_) (fun g2=>?_)|refine kB (fun g2=>?_) (fun g2=>?_)|refine kC (fun g2=>?_) (fun g2=>?_)|refine kD (fun g2=>?_) (fun g2=>?_)|refine kE (fun g2=>?_) (fun g2=>?_)|refine kF (fun g2=>?_) (fun g2=>?_))<;>simp(disch:=(try simp only[hN]);omega)only[go_sem,simprocAttr,g2,k1,q0,hk.len]
    ·have hne:¬ks.length=m:=fun e=>by rw[e] at g2;simp at g2
     refine useB (hQ _ f1) ?_
     rw[decide_eq_false hne];rfl
    ·have hm2:ks.length=m:=by
      have:(ks.length:Int)=(m:Int):=by simpa using g2
      omega
     rw[decide_eq_true hm2,Bool.true_and,Bool.true_and] at hQ
     clear hok hm k3 k4 g g2
     refine wp_loop (fun n a h'=>∃i:Nat,n=ks.length-i∧i≤ks.length∧Fr h1.n h1 h'∧exprsF (ks.take i)=true∧a.tm.get 98=some kv∧a.tm.get 99=some (.int .i64 (ks.length:Int))∧a.tm.get 100=some (.int .i64 (i:Int))∧a.df=[]) ?_ ks.length ?_
     ·rintro n ⟨t4,df4⟩ h4 ⟨i,hn,hi,f4,hx,w98,w99,w100,wdf⟩
      simp only at w98 w99 w100 wdf
      subst wdf
      have hn4:=f4.n;try simp only[hN] at hn4
      simp(disch:=(try simp only[hN]);omega)only[go_sem,simprocAttr,w99,w100]
      (first|refine kA (fun hlt=>?_) (fun hlt=>?_)|refine kB (fun hlt=>?_) (fun hlt=>?_)|refine kC (fun hlt=>?_) (fun hlt=>?_)|refine kD (fun hlt=>?_) (fun hlt=>?_)|refine kE (fun hlt=>?_) (fun hlt=>?_)|refine kF (fun hlt=>?_) (fun hlt=>?_))
      ·have hil:i<ks.length:=(by have:=of_decide_eq_true hlt;omega)
       have hstep:=cntL_take hil
       have hle:=cntL_le (ns:=ks) (i+1)
       have hxt:=exprsF_take hil
       have hxg:=exprsF_get hil
       have hlk:=longsB_get hil hlks
       cases hk with
       | nil=>simp at hil
       | emp=>simp at hil
       | row g1 g0 g2 g3 g4 gr g5=>
        rename_i b ver o c md ex bs css
        obtain ⟨kv',hr,hk'⟩:=g5.get hil
        rw[←row_sub (o:=o) gr (by omega)] at hr
        have f14:Fr h.n h h4:=f1.trans ⟨f4.n,fun b hb _=>f4.all (by omega)⟩
        have g4':h4.get b=some ⟨ver,.cells md 9 bs⟩:=by rw[f14.all g3];exact g4
        generalize ks[i]=nd1 at hr hk' hstep hxt hxg hlk
        simp(disch:=(try simp only[hN]);omega)only[go_sem,simprocAttr,w98,w99,w100,Int.toNat_natCast,g4',hr,hk'.flat.1,hk'.flat.2]
        refine ih (by omega) (hk'.keep (Nat.le_refl _) (by simp only[hN];omega) fun b' hb1 hb2=>?_) hlk ?_
        ·simp(disch:=(try simp only[hN]);omega)only[go_sem,simprocAttr,f14.all]
        ·intro h5 f5
         have hn5:=f5.n;try simp only[hN] at hn5
         simp(disch:=(try simp only[hN]);omega)only[go_sem,simprocAttr]
         (first|refine kA (fun e=>?_) (fun e=>?_)|refine kB (fun e=>?_) (fun e=>?_)|refine kC (fun e=>?_) (fun e=>?_)|refine kD (fun e=>?_) (fun e=>?_)|refine kE (fun e=>?_) (fun e=>?_)|refine kF (fun e=>?_) (fun e=>?_))<;>simp(disch:=(try simp only[hN]);omega)only[go_sem,simprocAttr,e,w98,w99,w100]
         ·refine useB (hQ _ (f14.trans ⟨by (try simp only[hN]);omega,fun b hb hne=>by (try simp only[hN] at hb hne);simp(disch:=(try simp only[hN]);omega)only[go_sem,simprocAttr,f5.old]⟩)) ?_
          exact hxg (by simpa using e)
         ·exact ⟨_,hn ▸ Nat.sub_lt_sub_left hil (Nat.lt_succ_self i),i+1,rfl,hil,⟨by (try simp only[hN]);omega,fun b hb hne=>by (try simp only[hN] at hb hne);simp(disch:=(try simp only[hN]);omega)only[go_sem,simprocAttr,f5.old,f4.old]⟩,by rw[hxt,hx];simpa using e,rfl⟩
      ·have hil:i=ks.length:=by have:=of_decide_eq_false hlt;omega
       subst hil
       rw[List.take_length] at hx
       simp(disch:=(try simp only[hN]);omega)only[go_sem,simprocAttr]
       exact useB (hQ _ (f1.trans ⟨f4.n,fun b hb _=>f4.all (by omega)⟩)) hx
     ·exact ⟨0,rfl,Nat.zero_le _,Fr.refl _ _,rfl,by simp(disch:=(try simp only[hN]);omega)only[go_sem,simprocAttr],by simp(disch:=(try simp only[hN]);omega)only[go_sem,simprocAttr],by simp(disch:=(try simp only[hN]);omega)only[go_sem,simprocAttr],rfl⟩
   ·have hok1:ok=false:=by simpa using g
    refine useB (hQ _ f1) ?_
    rw[hok1];rfl
theorem hex_one {r:Nat} (h:r<16):([48,49,50,51,52,53,54,55,56,57,97,98,99,100,101,102].drop r).take (r+1-r)=[dgB r]:=by
 have:(List.range 16).all (fun r=>([48,49,50,51,52,53,54,55,56,57,97,98,99,100,101,102]:Bs).drop r |>.take (r+1-r) |> (·==[dgB r]))=true:=by decide
 simpa using List.all_eq_true.1 this r (List.mem_range.2 h)
theorem rdigits_spec {b L f u:Nat} {h:AHeap} {Q:QR} (hb:b=10∨b=16) (hL:L≤f) (hf:f≤20) (hu:u<b^f) (hu2:u<2^64) (hQ:Q (.ret (.str (rdig b L f u []))) h):WF F 67 [.int .u64 (u:Int),.int .u64 (b:Int),.int .i64 (L:Int)] h Q:=by
 refine WF.code F67 rfl ?_
 simp(disch:=(try simp only[hN]);omega)only[go_sem,simprocAttr]
 refine wp_loop (fun n a h'=>∃(u':Nat) (s:Bs),h'=h∧rdig b L f u []=rdig b L n u' s∧u'<b^n∧u'<2^64∧L≤n+s.length∧n+s.length=f∧a.tm.get 0=some (.int .u64 (u':Int))∧a.tm.get 1=some (.int .u64 (b:Int))∧a.tm.get 2=some (.int .i64 (L:Int))∧a.tm.get 7=some (.str s)∧a.df=[]) ?_ f ?_
 ·rintro n ⟨t,df⟩ h2 ⟨u',s,rfl,hr,hun,hu3,hLn,hns,k0,k1,k2,k7,hdf⟩
  simp only at k0 k1 k2 k7 hdf
  subst hdf
  have goon:(0<u'∨s.length<L)→∃g,n=g+1:=by
   intro hc
   cases n with
   | zero=>
    have:u'=0:=by simpa using hun
    omega
   | succ g=>exact ⟨g,rfl⟩
  have hr16:u' % b<16:=by rcases hb with rfl|rfl<;>omega
  have hrem:((u':Int).tmod (b:Int))=((u' % b:Nat):Int):=rfl
  have hquo:((u':Int).tdiv (b:Int))=((u' / b:Nat):Int):=rfl
  have hb0:((b:Int)==0)=false:=by rcases hb with rfl|rfl<;>rfl
  have hone:=hex_one hr16
  have hdiv:u' / b≤u':=Nat.div_le_self _ _
  have hdb:∀g,u'<b^(g+1)→u' / b<b^g:=fun g hg=>by rw[Nat.pow_succ] at hg;exact Nat.div_lt_of_lt_mul (by rw[Nat.mul_comm];exact hg)
  generalize hrd:u' % b=r at hr16 hrem hone
  generalize hqd:u' / b=q at hquo hdiv hdb
  have hlen:s.length≤20:=by omega
  have hb1:bnd (some (.int .u64 ((r:Int)+1))) 16 16=some (r+1):=by
   simp only[bnd]
   rw[decide_eq_true (show (0:Int)≤(r:Int)+1 by omega),decide_eq_true (show (r:Int)+1≤((16:Nat):Int) by omega)]
   exact congrArg some (by omega)
  have hb2:bnd (some (.int .u64 (r:Int))) 0 (r+1)=some r:=by
   simp only[bnd]
   rw[decide_eq_true (show (0:Int)≤(r:Int) by omega),decide_eq_true (show (r:Int)≤((r+1:Nat):Int) by omega)]
   exact congrArg some (by omega)
  have exit:¬(0<u'∨s.length<L)→rdig b L f u []=s:=fun hc=>by
   rw[hr]
   cases n with
   | zero=>rfl
   | succ g=>simp only[rdig];rw[if_neg hc]
  have step:∀g,n=g+1→(0<u'∨s.length<L)→rdig b L f u []=rdig b L g q (dgB r::s):=fun g hg hc=>by
   rw[hr,hg]
   simp only[rdig]
   rw[if_pos hc,hqd,hrd]
  simp(disch:=(try simp only[hN]);omega)only[go_sem,simprocAttr,k0,k2,k7]
  (first|refine kA (fun g1=>?_) (fun g1=>?_)|refine kB (fun g1=>?_) (fun g1=>?_)|refine kC (fun g1=>?_) (fun g1=>?_)|refine kD (fun g1=>?_) (fun g1=>?_)|refine kE (fun g1=>?_) (fun g1=>?_)|refine kF (fun g1=>?_) (fun g1=>?_))<;>simp(disch:=(try simp only[hN]);omega)only[go_sem,simprocAttr,g1,k2,k7]
  ·have hu0:¬0<u':=by have:=of_decide_eq_false g1;omega
   (first|refine kA (fun g2=>?_) (fun g2=>?_)|refine kB (fun g2=>?_) (fun g2=>?_)|refine kC (fun g2=>?_) (fun g2=>?_)|refine kD (fun g2=>?_) (fun g2=>?_)|refine kE (fun g2=>?_) (fun g2=>?_)|refine kF (fun g2=>?_) (fun g2=>?_))<;>simp(disch:=(try simp only[hN]);omega)only[go_sem,simprocAttr,g2,k7]
   ·have hc:0<u'∨s.length<L:=.inr (by have:=of_decide_eq_true g2;omega)
    obtain ⟨g,hg⟩:=goon hc
    subst hg
    simp(disch:=(try simp only[hN]);omega)only[go_sem,simprocAttr,k0,k1,k7,hrem,hquo,hb0,hb1,hb2,hone,List.singleton_append,List.length_cons]
    exact ⟨g,Nat.lt_succ_self g,q,dgB r::s,step g rfl hc,hdb g hun,by omega,by simp only[List.length_cons];omega,by simp only[List.length_cons];omega,rfl,k2,rfl⟩
   ·have hc:¬(0<u'∨s.length<L):=by have:=of_decide_eq_false g2;omega
    rw[exit hc] at hQ
    exact hQ
  ·have hc:0<u'∨s.length<L:=.inl (by have:=of_decide_eq_true g1;omega)
   obtain ⟨g,hg⟩:=goon hc
   subst hg
   simp(disch:=(try simp only[hN]);omega)only[go_sem,simprocAttr,k0,k1,k7,hrem,hquo,hb0,hb1,hb2,hone,List.singleton_append,List.length_cons]
   exact ⟨g,Nat.lt_succ_self g,q,dgB r::s,step g rfl hc,hdb g hun,by omega,by simp only[List.length_cons];omega,by simp only[List.length_cons];omega,rfl,k2,rfl⟩
 ·exact ⟨u,[],rfl,rfl,hu,hu2,by simpa using hL,by simp,by simp(disch:=(try simp only[hN]);omega)only[go_sem,simprocAttr],by simp(disch:=(try simp only[hN]);omega)only[go_sem,simprocAttr],by simp(disch:=(try simp only[hN]);omega)only[go_sem,simprocAttr],by simp(disch:=(try simp only[hN]);omega)only[go_sem,simprocAttr],rfl⟩
theorem tz64_spec {h:AHeap} {Q:QR} (hG:GH h) (hQ:Q (.ret (.int .i64 4)) h):WF F 191 [.int .u64 16] h Q:=by
 refine WF.code F191 rfl ?_
 have ht:h.get 20=some ⟨0,.cells .tab 0 (db64L.map (.int .u8))⟩:=hG.tb _ _ rfl
 have a1:binA .and (.int .u64 16) (.int .u64 (wr .u64 (-16)))=some (.int .u64 16):=by kernel_rfl
 simp(disch:=(try simp only[hN]);omega)only[go_sem,simprocAttr,a1]
 have a2:wr .u64 (16*285870213051353865)=4573923408821661840:=by kernel_rfl
 have a3:binA .shr (.int .u64 4573923408821661840) (.int .u64 58)=some (.int .u64 15):=by kernel_rfl
 have a4:(db64L.map (AV.int .u8))[15]?=some (.int .u8 4):=by kernel_rfl
 simp(disch:=(try simp only[hN]);omega)only[go_sem,simprocAttr,a2,a3,ht,a4]
 exact hQ
theorem tz_spec {h:AHeap} {Q:QR} (hG:GH h) (hQ:Q (.ret (.int .i64 4)) h):WF F 184 [.int .u64 16] h Q:=by
 refine WF.code F184 rfl ?_
 simp(disch:=(try simp only[hN]);omega)only[go_sem,simprocAttr]
 refine tz64_spec hG ?_
 simp(disch:=(try simp only[hN]);omega)only[go_sem,simprocAttr]
 exact hQ
theorem p2_spec {h:AHeap} {Q:QR} (hQ:Q (.ret (.bool true)) h):WF F 183 [.int .i64 16] h Q:=by
 refine WF.code F183 rfl ?_
 have a1:binA .and (.int .i64 16) (.int .i64 15)=some (.int .i64 0):=by kernel_rfl
 simp(disch:=(try simp only[hN]);omega)only[go_sem,simprocAttr,a1]
 exact hQ
theorem bytesOf_map:∀(S:Bs),bytesOf (S.map fun c=>.int .u8 (c.toNat:Int))=some S
 | []=>rfl
 | c::r=>by
  simp only[List.map_cons,bytesOf,bytesOf_map r,Int.toNat_natCast,UInt8.ofNat_toNat]
def d36:Bs:=[48,49,50,51,52,53,54,55,56,57,97,98,99,100,101,102,103,104,105,106,107,108,109,110,111,112,113,114,115,116,117,118,119,120,121,122]
theorem d36_get {r:Nat} (h:r<16):d36[r]?=some (dgB r):=by
 have:(List.range 16).all (fun r=>d36[r]?==some (dgB r))=true:=by decide
 simpa using List.all_eq_true.1 this r (List.mem_range.2 h)
theorem and15 {u:Nat} (h:u<2^64):binA .and (.int .u64 (u:Int)) (.int .u64 15)=some (.int .u64 ((u % 16:Nat):Int)):=by
 simp only[binA,intBin,decide_true,cond_true]
 have e:((BitVec.ofInt IntKind.u64.bits (u:Int) &&& BitVec.ofInt IntKind.u64.bits 15).toNat)=u % 16:=by
  rw[BitVec.toNat_and]
  have e1:(BitVec.ofInt IntKind.u64.bits (u:Int)).toNat=u:=by
   rw[BitVec.toNat_ofInt]
   show ((u:Int) % ((2^64:Nat):Int)).toNat=u
   omega
  have e2:(BitVec.ofInt IntKind.u64.bits 15).toNat=2^4-1:=rfl
  rw[e1,e2,Nat.and_two_pow_sub_one_eq_mod]
 rw[e]
 congr 2
 have:u % 16<16:=Nat.mod_lt _ (by decide)
 show IntKind.u64.wrap ((u % 16:Nat):Int)=_
 have h2:(2:Int)^IntKind.u64.bits=18446744073709551616:=by decide
 simp only[IntKind.wrap,show IntKind.u64.signed=false from rfl,Bool.false_and,Bool.false_eq_true,if_false,h2]
 omega
theorem shr4 {u:Nat}:binA .shr (.int .u64 (u:Int)) (.int .u64 4)=some (.int .u64 ((u / 16:Nat):Int)):=by
 have h2:(2:Int)^min (Int.toNat 4) IntKind.u64.bits=((16:Nat):Int):=by decide
 simp only[binA,shiftA,h2,decide_eq_false (show ¬(4:Int)<0 by decide),cond_false]
 rw[Int.fdiv_eq_ediv_of_nonneg _ (by decide),←Int.natCast_ediv]
theorem digN_step {g u:Nat} (h:16≤u):digN 16 (g+1) u=digN 16 g (u / 16)++[dgB (u % 16)]:=by
 unfold digN
 rw[if_neg (by omega),if_neg (by omega)]
 simp only[digD]
 rw[if_neg (by omega)]
theorem digN_last {g u:Nat} (h:u<16) (hu:u<16^g):digN 16 g u=[dgB u]:=by
 unfold digN
 by_cases h0:u=0
 ·subst h0;rfl
 ·rw[if_neg h0]
  cases g with
  | zero=>simp at hu;omega
  | succ g=>
   simp only[digD]
   rw[if_neg h0,Nat.div_eq_of_lt h,digD_zero,Nat.mod_eq_of_lt h];rfl
def cellB (c:UInt8):AV:=.int .u8 (c.toNat:Int)
theorem lay_front {V:List AV} {i:Nat} {c:UInt8} {S:Bs} (hV:V.length=65) (hi:i<65) (hd:V.drop (i+1)=S.map cellB):∃V',lay V i [cellB c]=some V'∧V'.length=65∧V'.drop i=(c::S).map cellB:=by
 refine ⟨V.take i++([cellB c]++V.drop (i+1)),?_,?_,?_⟩
 ·unfold lay
  rw[show (i+[cellB c].length).ble V.length=true from Nat.ble_eq_true_of_le (by simp;omega)]
  rfl
 ·simp;omega
 ·rw[List.drop_append_of_le_length (by simp;omega),List.drop_eq_nil_of_le (by simp;omega),hd]
  rfl
theorem fbits_spec {u:Nat} {h:AHeap} {Q:QR} (hG:GH h) (hu:u<2^64) (hQ:∀h',Fr h.n h h'→Q (.ret (.tuple [.nilSlice,.str (digN 16 16 u)])) h') :
  WF F 169 [.nilSlice,.int .u64 (u:Int),.int .i64 16,.bool false,.bool false] h Q:=by
 refine WF.code F169 rfl ?_
 simp(disch:=(try simp only[hN]);omega)only[go_sem,simprocAttr]
 refine p2_spec ?_
 simp(disch:=(try simp only[hN]);omega)only[go_sem,simprocAttr]
 generalize hH:AHeap.alloc _ _=H
 have HG:GH H:=by rw[←hH];exact hG.alloc _
 have Hf:Fr h.n h H:=by rw[←hH];exact ⟨by (try simp only[hN]);omega,fun b hb hne=>by (try simp only[hN] at hb hne);simp(disch:=(try simp only[hN]);omega)only[go_sem,simprocAttr]⟩
 have Hn:H.n=h.n+1:=by rw[←hH];simp(disch:=(try simp only[hN]);omega)only[go_sem,simprocAttr]
 obtain ⟨V0,H0,HV⟩:∃V,H.get h.n=some ⟨0,.cells .own 0 V⟩∧V.length=65:=by
  refine ⟨List.replicate 65 (.int .u8 0),?_,rfl⟩
  rw[←hH];(first|(simp(disch:=(try simp only[hN]);omega)only[go_sem,simprocAttr];done)|(simp(disch:=(try simp only[hN]);omega)only[go_sem,simprocAttr];rfl))
 clear hH
 refine tz_spec HG ?_
 simp(disch:=(try simp only[hN]);omega)only[go_sem,simprocAttr]
 refine wp_loop (fun n a h'=>∃(u' i v:Nat) (S:Bs) (V:List AV),n=i∧Fr h.n h h'∧h.n+1≤h'.n∧h'.get h.n=some ⟨v,.cells .own 0 V⟩∧V.length=65∧V.drop i=S.map cellB∧u'<2^64∧(∃g,g+S.length=16∧u'<16^g∧digN 16 16 u=digN 16 g u'++S)∧i+S.length=65∧a.tm.get 1=some (.int .u64 (u':Int))∧a.tm.get 3=some (.bool false)∧a.tm.get 4=some (.bool false)∧a.tm.get 10=some .nilSlice∧a.tm.get 12=some (.ptr h.n 0)∧a.tm.get 13=some (.int .i64 (i:Int))∧a.tm.get 14=some (.int .u64 4)∧a.tm.get 15=some (.int .u64 16)∧a.tm.get 16=some (.int .u64 15)∧a.df=[]) ?_ 65 ?_
 ·rintro n ⟨t,df⟩ h2 ⟨u',i,v,S,V,hn,f2,hn2,q0,hVl,hVd,hu3,⟨g,hgs,hug,hdg⟩,hiS,k1,k3,k4,k10,k12,k13,k14,k15,k16,hdf⟩
  simp only at k1 k3 k4 k10 k12 k13 k14 k15 k16 hdf
  subst hdf
  have hi:i=i-1+1:=by omega
  simp(disch:=(try simp only[hN]);omega)only[go_sem,simprocAttr,k1,k15]
  (first|refine kA (fun hlt=>?_) (fun hlt=>?_)|refine kB (fun hlt=>?_) (fun hlt=>?_)|refine kC (fun hlt=>?_) (fun hlt=>?_)|refine kD (fun hlt=>?_) (fun hlt=>?_)|refine kE (fun hlt=>?_) (fun hlt=>?_)|refine kF (fun hlt=>?_) (fun hlt=>?_))
  ·have h16:16≤u':=(by have:=of_decide_eq_true hlt;omega)
   obtain ⟨g,rfl⟩:∃g',g=g'+1:=by
    cases g with
    | zero=>simp at hug;omega
    | succ g=>exact ⟨g,rfl⟩
   have hr:u' % 16<16:=Nat.mod_lt _ (by decide)
   have hst:=digN_step (g:=g) h16
   have hd36:=d36_get hr
   have ha:=and15 hu3
   have hs:=shr4 (u:=u')
   rw[hi] at hVd
   obtain ⟨V',hl1,hl2,hl3⟩:=lay_front (c:=dgB (u' % 16)) hVl (by omega) hVd
   have hug2:u' / 16<16^g:=by rw[Nat.pow_succ] at hug;omega
   have hq:u' / 16≤u':=Nat.div_le_self _ _
   have ei:((i:Int)-1)=((i-1:Nat):Int):=by omega
   have c1:(decide ((0:Int)≤((i-1:Nat):Int))&&decide (((i-1:Nat):Int)<((65:Nat):Int)))=true:=by simp;omega
   generalize hrr:u' % 16=r at hr hst hd36 ha hl1 hl3
   generalize hqq:u' / 16=q at hst hs hug2 hq
   unfold d36 at hd36
   unfold cellB at hl1
   simp(disch:=(try simp only[hN]);omega)only[go_sem,simprocAttr,k1,k12,k13,k14,k16,ei,ha,hs,hd36,c1,q0,hl1,Int.toNat_natCast,Nat.mul_one,Nat.zero_add]
   refine ⟨i-1,by omega,q,i-1,v+1,dgB r::S,V',rfl,f2.updNew (by omega) _ _,hn2,rfl,hl2,hl3,by omega,⟨g,by simp only[List.length_cons];omega,hug2,by rw[hdg,hst];simp⟩,by simp only[List.length_cons];omega,rfl,k3,k4,k10,rfl,k15⟩
  ·have h16:u'<16:=by have:=of_decide_eq_false hlt;omega
   have hd36:=d36_get h16
   have hla:=digN_last h16 hug
   rw[hi] at hVd
   obtain ⟨V',hl1,hl2,hl3⟩:=lay_front (c:=dgB u') hVl (by omega) hVd
   have ei:((i:Int)-1)=((i-1:Nat):Int):=by omega
   have c1:(decide ((0:Int)≤((i-1:Nat):Int))&&decide (((i-1:Nat):Int)<((65:Nat):Int)))=true:=by simp;omega
   unfold d36 at hd36
   unfold cellB at hl1
   simp(disch:=(try simp only[hN]);omega)only[go_sem,simprocAttr,k1,k12,k13,ei,hd36,c1,q0,hl1,Int.toNat_natCast,Nat.mul_one,Nat.zero_add]
   have hrow:row V' (i-1) (65-(i-1))=some ((dgB u'::S).map cellB):=by
    rw[row_mk (by omega),hl3,List.take_of_length_le (by simp;omega)]
   have hby:=bytesOf_map (dgB u'::S)
   have hb2:bnd (some (.int .i64 ((i-1:Nat):Int))) 0 65=some (i-1):=by
    simp only[bnd]
    rw[decide_eq_true (show (0:Int)≤((i-1:Nat):Int) by omega),decide_eq_true (show ((i-1:Nat):Int)≤((65:Nat):Int) by omega)]
    exact congrArg some (by omega)
   have hb3:Nat.beq 65 (i-1)=false:=beqF (by omega)
   have hb4:(65-(i-1)).beq 0=false:=beqF (by omega)
   have hres:digN 16 16 u=dgB u'::S:=by rw[hdg,hla];rfl
   generalize hL:(dgB u'::S).map cellB=L at hrow
   have hby2:bytesOf L=some (dgB u'::S):=by rw[←hL];exact hby
   have hf2:Fr h.n h (h2.upd h.n (v+1) (.cells .own 0 V')):=f2.updNew (by omega) _ _
   have qq:(h2.upd h.n (v+1) (.cells .own 0 V')).get h.n=some ⟨v+1,.cells .own 0 V'⟩:=by simp(disch:=(try simp only[hN]);omega)only[go_sem,simprocAttr]
   generalize hX:h2.upd h.n (v+1) (.cells .own 0 V')=X at hf2 qq
   have hb5:decide (65=i-1)=false:=decide_eq_false (by omega)
   have hb6:decide (65-(i-1)=0)=false:=decide_eq_false (by omega)
   generalize i-1=j at hb2 hb5 hb6 hrow
   simp(disch:=(try simp only[hN]);omega)only[go_sem,simprocAttr,k3,k4,k10]
   simp(disch:=(try simp only[hN]);omega)only[go_sem,simprocAttr,k10,k12,hb2,hb5,hb6,Nat.mul_one,Nat.zero_add,qq,hrow,hby2]
   rw[hres] at hQ
   exact hQ _ hf2
 ·refine ⟨u,65,0,[],V0,rfl,Hf,by omega,H0,HV,by rw[List.drop_eq_nil_of_le (by omega)];rfl,hu,⟨16,rfl,by omega,by simp⟩,rfl,?_,?_,?_,?_,?_,?_,?_,?_,?_,rfl⟩<;>(first|(simp(disch:=(try simp only[hN]);omega)only[go_sem,simprocAttr];done)|(simp(disch:=(try simp only[hN]);omega)only[go_sem,simprocAttr];rfl))
theorem fmtU1_spec {u:Nat} {h:AHeap} {Q:QR} (hG:GH h) (hu:u<2^64) (hQ:∀h',Fr h.n h h'→Q (.ret (.str (digN 16 16 u))) h'):WF F 142 [.int .u64 (u:Int),.int .i64 16] h Q:=by
 refine WF.code F142 rfl ?_
 simp(disch:=(try simp only[hN]);omega)only[go_sem,simprocAttr]
 refine fbits_spec hG hu fun h1 f1=>?_
 simp(disch:=(try simp only[hN]);omega)only[go_sem,simprocAttr]
 exact hQ _ f1
theorem fmtU_spec {u:Nat} {h:AHeap} {Q:QR} (hG:GH h) (hu:u<2^64) (hQ:∀h',Fr h.n h h'→Q (.ret (.str (digN 16 16 u))) h'):WF F 100 [.int .u64 (u:Int),.int .i64 16] h Q:=by
 refine WF.code F100 rfl ?_
 simp(disch:=(try simp only[hN]);omega)only[go_sem,simprocAttr]
 refine fmtU1_spec hG hu fun h1 f1=>?_
 simp(disch:=(try simp only[hN]);omega)only[go_sem,simprocAttr]
 exact hQ _ f1
theorem itoa_spec {n:Int} {h:AHeap} {Q:QR} (hG:GH h) (h0:0≤n) (h1:n≤9223372036854775807) (hQ:Q (.ret (.str (digN 10 20 n.toNat))) h):WF F 99 [.int .i64 n] h Q:=by
 refine WF.prim (p:=pIt) F99 ?_ hQ
 have ht:h.get 17=some ⟨0,.cells .tab 0 (pow10L.map (.int .u64))⟩:=hG.tb _ _ rfl
 have he:eqInts (pow10L.map (.int .u64)) pow10L=true:=by kernel_rfl
 simp only[pIt,ht,he,decide_eq_true h0,decide_eq_true h1,Bool.and_self,cond_true]
theorem rep_zeros:∀n,repS [48] n=zeros n
 | 0=>rfl
 | n+1=>by simp only[repS,rep_zeros n,zeros,List.replicate_succ];rfl
theorem rep_spec {s:Bs} {n:Nat} {h:AHeap} {Q:QR} (hn:s.length*n≤140737488355328) (hn2:n≤9223372036854775807) (hQ:Q (.ret (.str (repS s n))) h):WF F 101 [.str s,.int .i64 (n:Int)] h Q:=by
 refine WF.prim (p:=pRe) F101 ?_ hQ
 simp only[pRe,Int.toNat_natCast,decide_eq_true (show (0:Int)≤(n:Int) by omega),Nat.ble_eq_true_of_le hn,Nat.ble_eq_true_of_le hn2,Bool.and_self,cond_true]
def rankedN (n:Nd):Nat:=if n.kind=31 then rankN n.name else 6
theorem ranked_spec {nd:Nd} {kv:AV} {h:AHeap} {Q:QR} (hkf:kv.flat=true) (hkc:kv.cells=[kv]) (hQ:∀h',Fr h.n h h'→Q (.ret (.int .i64 (rankedN nd:Int))) h'):WF F 103 [.agg (ndC nd kv)] h Q:=by
 refine WF.code F103 rfl ?_
 simp(disch:=(try simp only[hN]);omega)only[go_sem,simprocAttr,hkf,hkc]
 (first|refine kA (fun e=>?_) (fun e=>?_)|refine kB (fun e=>?_) (fun e=>?_)|refine kC (fun e=>?_) (fun e=>?_)|refine kD (fun e=>?_) (fun e=>?_)|refine kE (fun e=>?_) (fun e=>?_)|refine kF (fun e=>?_) (fun e=>?_))
 ·have:nd.kind≠31:=by simpa using e
  simp(disch:=(try simp only[hN]);omega)only[go_sem,simprocAttr]
  have hr:(6:Int)=((rankedN nd:Nat):Int):=by unfold rankedN;rw[if_neg this];rfl
  rw[hr]
  exact hQ _ ⟨by (try simp only[hN]);omega,fun b hb hne=>by (try simp only[hN] at hb hne);simp(disch:=(try simp only[hN]);omega)only[go_sem,simprocAttr]⟩
 ·have:nd.kind=31:=by simpa using e
  simp(disch:=(try simp only[hN]);omega)only[go_sem,simprocAttr]
  refine rank_spec fun h1 f1=>?_
  have hn1:=f1.n;try simp only[hN] at hn1
  simp(disch:=(try simp only[hN]);omega)only[go_sem,simprocAttr]
  have hr:rankN nd.name=rankedN nd:=by unfold rankedN;rw[if_pos this]
  rw[hr]
  exact hQ _ ⟨by (try simp only[hN]);omega,fun b hb hne=>by (try simp only[hN] at hb hne);simp(disch:=(try simp only[hN]);omega)only[go_sem,simprocAttr,f1.old]⟩
theorem rankOf_le:∀(i:Nat) (l:List (List Bs)) (s:Bs),rkOf i l s≤i+l.length
 | i,[],s=>by simp [rkOf]
 | i,r::l,s=>by
  simp only[rkOf]
  split
  ·simp only[List.length_cons];omega
  ·have:=rankOf_le (i+1) l s
   simp only[List.length_cons];omega
theorem rankN_le (s:Bs):rankN s≤5:=by have:=rankOf_le 0 rks s;exact this
structure TxOk (nd:Nd):Prop where
 small:nd.count≤3000
 form:nd.exprF=true
 long:nd.longB=false
 rng:nd.rngB=true
theorem TxOk.len {nd:Nd} (k:TxOk nd):nd.txt.length≤930000:=by have:=txt_le nd k.long;have:=k.small;omega
def ExSpec (nd:Nd):Prop:=∀{lo:Nat} {h:AHeap} {kv:AV} {Q:QR},GH h→KidsR lo h nd.kids kv→(∀h',Fr h.n h h'→Q (.ret (.str nd.txt)) h')→WF F 58 [.agg (ndC nd kv)] h Q
theorem kid_spec {nd:Nd} (k:TxOk nd) (ex:ExSpec nd) {least lo:Nat} {h:AHeap} {kv:AV} {Q:QR} (hl:least≤6) (hG:GH h) (hk:KidsR lo h nd.kids kv) (hQ:∀h',Fr h.n h h'→Q (.ret (.str (nd.txtW least))) h'):WF F 102 [.agg (ndC nd kv),.int .i64 (least:Int)] h Q:=by
 have hkf:=hk.flat
 have hlen:=k.len
 refine WF.code F102 rfl ?_
 simp(disch:=(try simp only[hN]);omega)only[go_sem,simprocAttr,hkf.1,hkf.2]
 have hk0:KidsR lo (h.alloc (.cells .own 0 (ndC nd kv))) nd.kids kv:=hk.keep (Nat.le_refl _) (by simp only[hN];omega) fun b' hb1 hb2=>by simp(disch:=(try simp only[hN]);omega)only[go_sem,simprocAttr]
 have hG0:GH (h.alloc (.cells .own 0 (ndC nd kv))):=hG.alloc _
 have f0:Fr h.n h (h.alloc (.cells .own 0 (ndC nd kv))):=⟨by (try simp only[hN]);omega,fun b hb hne=>by (try simp only[hN] at hb hne);simp(disch:=(try simp only[hN]);omega)only[go_sem,simprocAttr]⟩
 refine ranked_spec hkf.1 hkf.2 fun h1 f1=>?_
 have hn1:=f1.n;try simp only[hN] at hn1
 have q1:h1.get h.n=some ⟨0,.cells .own 0 (ndC nd kv)⟩:=by rw[f1.all (by simp only[hN];omega)];simp(disch:=(try simp only[hN]);omega)only[go_sem,simprocAttr]
 have hk1:KidsR lo h1 nd.kids kv:=hk0.fr f1 (.inr (Nat.le_refl _))
 have hG1:GH h1:=f1.gh hG0.n hG0
 have f01:Fr h.n h h1:=f0.trans ⟨f1.n,fun b hb _=>f1.all (by simp only[AHeap.alloc_n] at hb ⊢;omega)⟩
 simp(disch:=(try simp only[hN]);omega)only[go_sem,simprocAttr]
 (first|refine kA (fun e=>?_) (fun e=>?_)|refine kB (fun e=>?_) (fun e=>?_)|refine kC (fun e=>?_) (fun e=>?_)|refine kD (fun e=>?_) (fun e=>?_)|refine kE (fun e=>?_) (fun e=>?_)|refine kF (fun e=>?_) (fun e=>?_))<;>simp(disch:=(try simp only[hN]);omega)only[go_sem,simprocAttr,q1,hkf.1,hkf.2]
 ·have hlt:rankedN nd<least:=by have:=of_decide_eq_true e;omega
  refine ex hG1 hk1 fun h2 f2=>?_
  have hn2:=f2.n;try simp only[hN] at hn2
  have hw:nd.txtW least=40::nd.txt++[41]:=by
   unfold Nd.txtW wrapB
   unfold rankedN at hlt
   by_cases h31:nd.kind=31
   ·rw[if_pos h31] at hlt
    rw[if_pos ⟨h31,hlt⟩]
   ·rw[if_neg h31] at hlt;omega
  rw[hw] at hQ
  simp(disch:=(try simp only[hN]);omega)only[go_sem,simprocAttr,List.singleton_append,List.length_cons]
  exact hQ _ (f01.trans ⟨f2.n,fun b hb _=>f2.all (by omega)⟩)
 ·have hge:¬rankedN nd<least:=by have:=of_decide_eq_false e;omega
  refine ex hG1 hk1 fun h2 f2=>?_
  have hw:nd.txtW least=nd.txt:=by
   unfold Nd.txtW wrapB
   unfold rankedN at hge
   rw[if_neg]
   rintro ⟨h31,hlt⟩
   rw[if_pos h31] at hge
   exact hge hlt
  rw[hw] at hQ
  simp(disch:=(try simp only[hN]);omega)only[go_sem,simprocAttr]
  exact hQ _ (f01.trans ⟨f2.n,fun b hb _=>f2.all (by omega)⟩)
theorem useS {Q:QR} {h:AHeap} {a b:Bs} (hQ:Q (.ret (.str a)) h) (e:a=b):Q (.ret (.str b)) h:=e ▸ hQ
theorem exprsF_all {ns:List Nd} {i:Nat} (h:i<ns.length) (hf:exprsF ns=true):ns[i].exprF=true:=by
 cases q:ns[i].exprF with
 | true=>rfl
 | false=>rw[exprsF_get h q] at hf;cases hf
theorem cntL_get {ns:List Nd} {i:Nat} (h:i<ns.length):ns[i].count≤cntL ns:=by
 have:=cntL_take h
 have:=cntL_le (ns:=ns) (i+1)
 omega
theorem TxOk.kid {nd:Nd} (k:TxOk nd) {i:Nat} (h:i<nd.kids.length):TxOk nd.kids[i]∧nd.kids[i].count<nd.count:=by
 have hc:nd.count=1+cntL nd.kids:=by cases nd;rfl
 have h1:=cntL_get h
 have h2:=k.form
 have h3:=k.long
 have h4:=k.rng
 rw[exprF_eq,Bool.and_eq_true,Bool.and_eq_true] at h2
 rw[longB_eq,Bool.or_eq_false_iff] at h3
 rw[rngB_eq,Bool.and_eq_true] at h4
 exact ⟨⟨by have:=k.small;omega,exprsF_all h h2.2,longsB_get h h3.2,rngsB_get h h4.2⟩,by omega⟩
theorem kid1 {lo:Nat} {h:AHeap} {x:Nd} {kv:AV} (k:KidsR lo h [x] kv):∃b ver o c md ex bs kx,kv=.slice b o 1 c ex∧b<h.n∧h.get b=some ⟨ver,.cells md 9 bs⟩∧row bs o 9=some (ndC x kx)∧KidsR lo h x.kids kx:=by
 cases k with
 | row h1 h0 h2 h3 h4 h5 h6=>
  cases h6 with
  | cons k1 k2=>
   cases k2
   rw[List.append_nil] at h5
   exact ⟨_,_,_,_,_,_,_,_,rfl,h3,h4,h5,k1⟩
theorem kid2 {lo:Nat} {h:AHeap} {x y:Nd} {kv:AV} (k:KidsR lo h [x,y] kv):∃b ver o c md ex bs kx ky,kv=.slice b o 2 c ex∧b<h.n∧h.get b=some ⟨ver,.cells md 9 bs⟩∧row bs o 9=some (ndC x kx)∧row bs (o+9) 9=some (ndC y ky)∧KidsR lo h x.kids kx∧KidsR lo h y.kids ky:=by
 cases k with
 | row h1 h0 h2 h3 h4 h5 h6=>
  cases h6 with
  | cons k1 k2=>
   cases k2 with
   | cons k3 k4=>
    cases k4
    rw[List.append_nil] at h5
    refine ⟨_,_,_,_,_,_,_,_,_,rfl,h3,h4,?_,?_,k1,k3⟩
    ·have:=row_sub (i:=0) (k:=9) h5 (by simp)
     rw[Nat.add_zero] at this
     rw[this];rfl
    ·rw[row_sub (i:=9) (k:=9) h5 (by simp)];rfl
theorem expr_spec:∀(s:Nat) {nd:Nd},nd.count≤s→TxOk nd→ExSpec nd:=by
 intro s
 induction s with
 | zero=>intro nd h0;cases nd;simp [Nd.count] at h0
 | succ s ih=>
  intro nd hs k lo h kv Q hG hk hQ
  have hkf:=hk.flat
  have hform:=k.form
  rw[exprF_eq,Bool.and_eq_true,Bool.and_eq_true,decide_eq_true_eq] at hform
  obtain ⟨⟨hA,hmany⟩,_⟩:=hform
  have hrng:=k.rng
  rw[rngB_eq,Bool.and_eq_true] at hrng
  have hr:=hrng.1
  simp only[inR,Bool.and_eq_true,decide_eq_true_eq] at hr
  have htx:=txt_eq nd
  have hlen:=k.len
  have hnm:nd.name.length≤300:=by have:=k.long;rw[longB_eq,Bool.or_eq_false_iff] at this;have:=of_decide_eq_false this.1;omega
  refine WF.code F58 rfl ?_
  simp(disch:=(try simp only[hN]);omega)only[go_sem,simprocAttr,hkf.1,hkf.2]
  generalize hH:AHeap.alloc _ _=H
  have Hn:H.n=h.n+1:=by rw[←hH];simp(disch:=(try simp only[hN]);omega)only[go_sem,simprocAttr]
  have H0:H.get h.n=some ⟨0,.cells .own 0 (ndC nd kv)⟩:=by rw[←hH];simp(disch:=(try simp only[hN]);omega)only[go_sem,simprocAttr]
  have Hf:Fr h.n h H:=by rw[←hH];exact ⟨by (try simp only[hN]);omega,fun b hb hne=>by (try simp only[hN] at hb hne);simp(disch:=(try simp only[hN]);omega)only[go_sem,simprocAttr]⟩
  have HG:GH H:=Hf.gh hG.n hG
  have Hk:KidsR lo H nd.kids kv:=hk.fr Hf (.inr (Nat.le_refl _))
  clear hH hk
  have hfr:∀{h1},Fr H.n H h1→Fr h.n h h1:=fun f1=>Hf.trans ⟨f1.n,fun b hb _=>f1.all (by omega)⟩
  (first|refine kA (fun e25=>?_) (fun e25=>?_)|refine kB (fun e25=>?_) (fun e25=>?_)|refine kC (fun e25=>?_) (fun e25=>?_)|refine kD (fun e25=>?_) (fun e25=>?_)|refine kE (fun e25=>?_) (fun e25=>?_)|refine kF (fun e25=>?_) (fun e25=>?_))
  ·have kd:nd.kind=25:=by simpa using e25
   unfold exprA at hA
   rw[if_pos kd] at hA
   simp only[Bool.and_eq_true,decide_eq_true_eq] at hA
   simp(disch:=(try simp only[hN]);omega)only[go_sem,simprocAttr,H0]
   refine itoa_spec HG hA.1 hr.1.1 ?_
   simp(disch:=(try simp only[hN]);omega)only[go_sem,simprocAttr]
   unfold txtA at htx
   rw[if_pos kd] at htx
   rw[←htx]
   exact hQ _ Hf
  have k25:nd.kind≠25:=by simpa using e25
  simp(disch:=(try simp only[hN]);omega)only[go_sem,simprocAttr]
  (first|refine kA (fun e26=>?_) (fun e26=>?_)|refine kB (fun e26=>?_) (fun e26=>?_)|refine kC (fun e26=>?_) (fun e26=>?_)|refine kD (fun e26=>?_) (fun e26=>?_)|refine kE (fun e26=>?_) (fun e26=>?_)|refine kF (fun e26=>?_) (fun e26=>?_))
  ·have kd:nd.kind=26:=by simpa using e26
   have eb:nd.bits=((nd.bits.toNat:Nat):Int):=by omega
   have hu:nd.bits.toNat<2^64:=by omega
   simp(disch:=(try simp only[hN]);omega)only[go_sem,simprocAttr,H0]
   rw[eb]
   refine fmtU_spec HG hu fun h1 f1=>?_
   have hn1:=f1.n;try simp only[hN] at hn1
   unfold txtA at htx
   rw[if_neg k25,if_pos kd] at htx
   have hdl:=digN_le 16 16 nd.bits.toNat (by decide)
   generalize digN 16 16 nd.bits.toNat=D at htx hdl
   have es:((16:Int)-(D.length:Int))=((16-D.length:Nat):Int):=by omega
   simp(disch:=(try simp only[hN]);omega)only[go_sem,simprocAttr,es]
   refine rep_spec (by simp;omega) (by omega) ?_
   rw[rep_zeros]
   have zl:(zeros (16-D.length)).length=16-D.length:=by simp [zeros]
   generalize zeros (16-D.length)=Z at htx zl
   simp(disch:=(try simp only[hN]);omega)only[go_sem,simprocAttr,List.singleton_append,List.length_cons,List.cons_append,List.nil_append]
   rw[←htx]
   exact hQ _ (hfr f1)
  have k26:nd.kind≠26:=by simpa using e26
  simp(disch:=(try simp only[hN]);omega)only[go_sem,simprocAttr]
  (first|refine kA (fun e27=>?_) (fun e27=>?_)|refine kB (fun e27=>?_) (fun e27=>?_)|refine kC (fun e27=>?_) (fun e27=>?_)|refine kD (fun e27=>?_) (fun e27=>?_)|refine kE (fun e27=>?_) (fun e27=>?_)|refine kF (fun e27=>?_) (fun e27=>?_))
  ·have kd:nd.kind=27:=by simpa using e27
   unfold exprA at hA
   rw[if_neg k25,if_neg k26,if_pos kd] at hA
   simp only[Bool.and_eq_true,Bool.or_eq_true,beq_iff_eq] at hA
   unfold txtA at htx
   rw[if_neg k25,if_neg k26,if_pos kd] at htx
   simp(disch:=(try simp only[hN]);omega)only[go_sem,simprocAttr,H0]
   rcases hA.1 with h0|h0
   ·rw[if_neg (by omega)] at htx
    simp(disch:=(try simp only[hN]);omega)only[go_sem,simprocAttr,h0]
    rw[←htx]
    exact hQ _ Hf
   ·rw[if_pos h0] at htx
    simp(disch:=(try simp only[hN]);omega)only[go_sem,simprocAttr,h0]
    rw[←htx]
    exact hQ _ Hf
  have k27:nd.kind≠27:=by simpa using e27
  simp(disch:=(try simp only[hN]);omega)only[go_sem,simprocAttr]
  (first|refine kA (fun e28=>?_) (fun e28=>?_)|refine kB (fun e28=>?_) (fun e28=>?_)|refine kC (fun e28=>?_) (fun e28=>?_)|refine kD (fun e28=>?_) (fun e28=>?_)|refine kE (fun e28=>?_) (fun e28=>?_)|refine kF (fun e28=>?_) (fun e28=>?_))
  ·have kd:nd.kind=28:=by simpa using e28
   unfold txtA at htx
   rw[if_neg k25,if_neg k26,if_neg k27,if_pos kd] at htx
   simp(disch:=(try simp only[hN]);omega)only[go_sem,simprocAttr,H0]
   rw[←htx]
   exact hQ _ Hf
  have k28:nd.kind≠28:=by simpa using e28
  simp(disch:=(try simp only[hN]);omega)only[go_sem,simprocAttr]
  unfold txtA at htx
  rw[if_neg k25,if_neg k26,if_neg k27,if_neg k28] at htx
  unfold exprA at hA hmany
  rw[if_neg k25,if_neg k26,if_neg k27,if_neg k28] at hA hmany
  have hkid:∀i (hi:i<nd.kids.length),TxOk nd.kids[i]∧ExSpec nd.kids[i]:=fun i hi=>⟨(k.kid hi).1,ih (by have:=(k.kid hi).2;omega) (k.kid hi).1⟩
  generalize nd.kids=ks at Hk htx hmany hkid
  (first|refine kA (fun e29=>?_) (fun e29=>?_)|refine kB (fun e29=>?_) (fun e29=>?_)|refine kC (fun e29=>?_) (fun e29=>?_)|refine kD (fun e29=>?_) (fun e29=>?_)|refine kE (fun e29=>?_) (fun e29=>?_)|refine kF (fun e29=>?_) (fun e29=>?_))
  ·have kd:nd.kind=29:=by simpa using e29
   rw[if_pos kd] at hmany
   obtain ⟨x,rfl⟩:∃x,ks=[x]:=List.length_eq_one_iff.1 hmany
   obtain ⟨b,ver,o,c,md,ex,bs,kx,rfl,hb1,hb2,hrow,hkx⟩:=kid1 Hk
   obtain ⟨okx,exx⟩:=hkid 0 (by simp)
   simp only[List.getElem_cons_zero] at okx exx
   simp only[kidTx,if_pos kd] at htx
   have hlx:=okx.len
   have hxf:=hkx.flat
   simp(disch:=(try simp only[hN]);omega)only[go_sem,simprocAttr,H0,hb2,hrow,Nat.zero_mul,Nat.add_zero]
   refine exx HG hkx fun h1 f1=>?_
   have hn1:=f1.n;try simp only[hN] at hn1
   simp(disch:=(try simp only[hN]);omega)only[go_sem,simprocAttr,f1.all,H0,hb2,hb1,Hn,List.length_append,List.length_cons,List.length_nil]
   refine useS (hQ _ (hfr f1)) ?_
   rw[htx];simp
  have k29:nd.kind≠29:=by simpa using e29
  rw[if_neg k29] at hmany hA
  simp(disch:=(try simp only[hN]);omega)only[go_sem,simprocAttr]
  (first|refine kA (fun e30=>?_) (fun e30=>?_)|refine kB (fun e30=>?_) (fun e30=>?_)|refine kC (fun e30=>?_) (fun e30=>?_)|refine kD (fun e30=>?_) (fun e30=>?_)|refine kE (fun e30=>?_) (fun e30=>?_)|refine kF (fun e30=>?_) (fun e30=>?_))
  ·have kd:nd.kind=30:=by simpa using e30
   rw[if_pos kd] at hmany hA
   obtain ⟨x,rfl⟩:∃x,ks=[x]:=List.length_eq_one_iff.1 hmany
   obtain ⟨b,ver,o,c,md,ex,bs,kx,rfl,hb1,hb2,hrow,hkx⟩:=kid1 Hk
   obtain ⟨okx,exx⟩:=hkid 0 (by simp)
   simp only[List.getElem_cons_zero] at okx exx
   simp only[kidTx,if_neg k29] at htx
   have hlx:=okx.len
   have hxf:=hkx.flat
   simp(disch:=(try simp only[hN]);omega)only[go_sem,simprocAttr,H0]
   (first|refine kA (fun g=>?_) (fun g=>?_)|refine kB (fun g=>?_) (fun g=>?_)|refine kC (fun g=>?_) (fun g=>?_)|refine kD (fun g=>?_) (fun g=>?_)|refine kE (fun g=>?_) (fun g=>?_)|refine kF (fun g=>?_) (fun g=>?_))
   ·have h1n:1<nd.name.length:=by have:=of_decide_eq_true g;omega
    rw[if_pos h1n] at htx
    simp(disch:=(try simp only[hN]);omega)only[go_sem,simprocAttr,H0,hb2,hrow,Nat.zero_mul,Nat.add_zero]
    refine exx HG hkx fun h1 f1=>?_
    have hn1:=f1.n;try simp only[hN] at hn1
    simp(disch:=(try simp only[hN]);omega)only[go_sem,simprocAttr,f1.all,H0,hb2,hb1,Hn,List.length_append,List.length_cons,List.length_nil]
    refine useS (hQ _ (hfr f1)) ?_
    rw[htx];simp
   ·have h1n:¬1<nd.name.length:=by have:=of_decide_eq_false g;omega
    rw[if_neg h1n] at htx
    simp(disch:=(try simp only[hN]);omega)only[go_sem,simprocAttr,H0,hb2,hrow,Nat.zero_mul,Nat.add_zero]
    refine kid_spec okx exx (least:=6) (by decide) HG hkx fun h1 f1=>?_
    have hn1:=f1.n;try simp only[hN] at hn1
    have hlw:(x.txtW 6).length≤930002:=by have:=wrapB_le 6 x x.txt;unfold Nd.txtW;omega
    simp(disch:=(try simp only[hN]);omega)only[go_sem,simprocAttr,f1.all,H0,hb2,hb1,Hn,List.length_append,List.length_cons,List.length_nil]
    refine useS (hQ _ (hfr f1)) ?_
    rw[htx];rfl
  have k30:nd.kind≠30:=by simpa using e30
  rw[if_neg k30] at hmany hA
  by_cases kd:nd.kind=31
  ·rw[if_pos kd] at hmany hA
   obtain ⟨x,y,rfl⟩:∃x y,ks=[x,y]:=by
    match ks,hmany with
    | [x,y],_=>exact ⟨x,y,rfl⟩
   obtain ⟨b,ver,o,c,md,ex,bs,kx,ky,rfl,hb1,hb2,hrow,hrow2,hkx,hky⟩:=kid2 Hk
   obtain ⟨okx,exx⟩:=hkid 0 (by simp)
   obtain ⟨oky,exy⟩:=hkid 1 (by simp)
   simp only[List.getElem_cons_zero,List.getElem_cons_succ] at okx exx oky exy
   simp only[kidTx] at htx
   have hlx:=okx.len
   have hly:=oky.len
   have hrk:=rankN_le nd.name
   simp(disch:=(try simp only[hN]);omega)only[go_sem,simprocAttr,H0,hkf.1,hkf.2]
   refine ranked_spec (nd:=nd) hkf.1 hkf.2 fun h1 f1=>?_
   have hn1:=f1.n;try simp only[hN] at hn1
   have hrd:rankedN nd=rankN nd.name:=by unfold rankedN;rw[if_pos kd]
   rw[hrd]
   have p0:h1.get h.n=some ⟨0,.cells .own 0 (ndC nd (.slice b o 2 c ex))⟩:=by rw[f1.all (by omega)];exact H0
   have p2:h1.get b=some ⟨ver,.cells md 9 bs⟩:=by rw[f1.all hb1];exact hb2
   have hk1:KidsR lo h1 x.kids kx:=hkx.fr f1 (.inr (Nat.le_refl _))
   have hk2:KidsR lo h1 y.kids ky:=hky.fr f1 (.inr (Nat.le_refl _))
   have G1:GH h1:=f1.gh HG.n HG
   have F1:Fr h.n h h1:=hfr f1
   clear f1 hfr hkx hky Hk Hf
   generalize rankN nd.name=R at hrk htx
   have e1:((R:Int)+1)=((R+1:Nat):Int):=by omega
   simp(disch:=(try simp only[hN]);omega)only[go_sem,simprocAttr]
   (first|refine kA (fun e3=>?_) (fun e3=>?_)|refine kB (fun e3=>?_) (fun e3=>?_)|refine kC (fun e3=>?_) (fun e3=>?_)|refine kD (fun e3=>?_) (fun e3=>?_)|refine kE (fun e3=>?_) (fun e3=>?_)|refine kF (fun e3=>?_) (fun e3=>?_))<;>simp(disch:=(try simp only[hN]);omega)only[go_sem,simprocAttr,e3]
   ·have hR:R=3:=by
     have:(R:Int)=3:=by simpa using e3
     omega
    rw[if_pos hR] at htx
    simp(disch:=(try simp only[hN]);omega)only[go_sem,simprocAttr,p0,p2,hrow,hrow2,Nat.zero_mul,Nat.add_zero,Nat.one_mul]
    refine kid_spec okx exx (least:=4) (by decide) G1 hk1 fun h2 f2=>?_
    have hn2:=f2.n;try simp only[hN] at hn2
    have r0:h2.get h.n=some ⟨0,.cells .own 0 (ndC nd (.slice b o 2 c ex))⟩:=by rw[f2.all (by omega)];exact p0
    have r2:h2.get b=some ⟨ver,.cells md 9 bs⟩:=by rw[f2.all (by omega)];exact p2
    have hk3:KidsR lo h2 y.kids ky:=hk2.fr f2 (.inr (Nat.le_refl _))
    have G2:GH h2:=f2.gh G1.n G1
    have hlw:(x.txtW 4).length≤930002:=by have:=wrapB_le 4 x x.txt;unfold Nd.txtW;omega
    simp(disch:=(try simp only[hN]);omega)only[go_sem,simprocAttr,p0,p2,r0,r2,e1,hrow2,List.length_append,List.length_cons,List.length_nil,Nat.one_mul]
    refine kid_spec oky exy (least:=R+1) (by omega) G2 hk3 fun h3 f3=>?_
    have hn3:=f3.n;try simp only[hN] at hn3
    have t0:h3.get h.n=some ⟨0,.cells .own 0 (ndC nd (.slice b o 2 c ex))⟩:=by rw[f3.all (by omega)];exact r0
    have t2:h3.get b=some ⟨ver,.cells md 9 bs⟩:=by rw[f3.all (by omega)];exact r2
    have hlw2:(y.txtW (R+1)).length≤930002:=by have:=wrapB_le (R+1) y y.txt;unfold Nd.txtW;omega
    simp(disch:=(try simp only[hN]);omega)only[go_sem,simprocAttr,p0,p2,r0,r2,t0,t2,List.length_append,List.length_cons,List.length_nil]
    refine useS (hQ _ ((F1.trans ⟨f2.n,fun b hb _=>f2.all (by omega)⟩).trans ⟨f3.n,fun b hb _=>f3.all (by omega)⟩)) ?_
    rw[htx];simp [Nd.txtW]
   ·have hR:R≠3:=by intro q;subst q;simp at e3
    rw[if_neg hR] at htx
    simp(disch:=(try simp only[hN]);omega)only[go_sem,simprocAttr,p0,p2,hrow,hrow2,Nat.zero_mul,Nat.add_zero,Nat.one_mul]
    refine kid_spec okx exx (least:=R) (by omega) G1 hk1 fun h2 f2=>?_
    have hn2:=f2.n;try simp only[hN] at hn2
    have r0:h2.get h.n=some ⟨0,.cells .own 0 (ndC nd (.slice b o 2 c ex))⟩:=by rw[f2.all (by omega)];exact p0
    have r2:h2.get b=some ⟨ver,.cells md 9 bs⟩:=by rw[f2.all (by omega)];exact p2
    have hk3:KidsR lo h2 y.kids ky:=hk2.fr f2 (.inr (Nat.le_refl _))
    have G2:GH h2:=f2.gh G1.n G1
    have hlw:(x.txtW R).length≤930002:=by have:=wrapB_le R x x.txt;unfold Nd.txtW;omega
    simp(disch:=(try simp only[hN]);omega)only[go_sem,simprocAttr,p0,p2,r0,r2,e1,hrow2,List.length_append,List.length_cons,List.length_nil,Nat.one_mul]
    refine kid_spec oky exy (least:=R+1) (by omega) G2 hk3 fun h3 f3=>?_
    have hn3:=f3.n;try simp only[hN] at hn3
    have t0:h3.get h.n=some ⟨0,.cells .own 0 (ndC nd (.slice b o 2 c ex))⟩:=by rw[f3.all (by omega)];exact r0
    have t2:h3.get b=some ⟨ver,.cells md 9 bs⟩:=by rw[f3.all (by omega)];exact r2
    have hlw2:(y.txtW (R+1)).length≤930002:=by have:=wrapB_le (R+1) y y.txt;unfold Nd.txtW;omega
    simp(disch:=(try simp only[hN]);omega)only[go_sem,simprocAttr,p0,p2,r0,r2,t0,t2,List.length_append,List.length_cons,List.length_nil]
    refine useS (hQ _ ((F1.trans ⟨f2.n,fun b hb _=>f2.all (by omega)⟩).trans ⟨f3.n,fun b hb _=>f3.all (by omega)⟩)) ?_
    rw[htx];simp [Nd.txtW]
  ·rw[if_neg kd] at hA
   cases hA
theorem wrap_ne {nd:Nd} {l:Nat} {s:Bs} (h:nd.kind≠31):wrapB l nd s=s:=by unfold wrapB;rw[if_neg];rintro ⟨h1,_⟩;exact h h1
def WrSpec (nd:Nd):Prop:=∀{least lo:Nat} {h:AHeap} {kv:AV} {Q:QR},least≤6→GH h→KidsR lo h nd.kids kv→(∀h',Fr h.n h h'→Q (.ret (.str (nd.txtW least))) h')→WF F 32 [.agg (ndC nd kv),.int .i64 (least:Int)] h Q
theorem write_spec:∀(s:Nat) {nd:Nd},nd.count≤s→TxOk nd→WrSpec nd:=by
 intro s
 induction s with
 | zero=>intro nd h0;cases nd;simp [Nd.count] at h0
 | succ s ih=>
  intro nd hs k least lo h kv Q hl hG hk hQ
  have hkf:=hk.flat
  have hform:=k.form
  rw[exprF_eq,Bool.and_eq_true,Bool.and_eq_true,decide_eq_true_eq] at hform
  obtain ⟨⟨hA,hmany⟩,_⟩:=hform
  have hrng:=k.rng
  rw[rngB_eq,Bool.and_eq_true] at hrng
  have hr:=hrng.1
  simp only[inR,Bool.and_eq_true,decide_eq_true_eq] at hr
  have htx:=txt_eq nd
  have hnm:nd.name.length≤300:=by have:=k.long;rw[longB_eq,Bool.or_eq_false_iff] at this;have:=of_decide_eq_false this.1;omega
  have hne:nd.kind≠31→∀h',Fr h.n h h'→Q (.ret (.str nd.txt)) h':=fun q h' f=>by have:=hQ h' f;unfold Nd.txtW at this;rwa[wrap_ne q] at this
  refine WF.code F32 rfl ?_
  simp(disch:=(try simp only[hN]);omega)only[go_sem,simprocAttr,hkf.1,hkf.2]
  generalize hH:AHeap.alloc _ _=H
  have Hn:H.n=h.n+1:=by rw[←hH];simp(disch:=(try simp only[hN]);omega)only[go_sem,simprocAttr]
  have H0:H.get h.n=some ⟨0,.cells .own 0 (ndC nd kv)⟩:=by rw[←hH];simp(disch:=(try simp only[hN]);omega)only[go_sem,simprocAttr]
  have Hf:Fr h.n h H:=by rw[←hH];exact ⟨by (try simp only[hN]);omega,fun b hb hne=>by (try simp only[hN] at hb hne);simp(disch:=(try simp only[hN]);omega)only[go_sem,simprocAttr]⟩
  have HG:GH H:=Hf.gh hG.n hG
  have Hk:KidsR lo H nd.kids kv:=hk.fr Hf (.inr (Nat.le_refl _))
  clear hH hk
  have hfr:∀{h1},Fr H.n H h1→Fr h.n h h1:=fun f1=>Hf.trans ⟨f1.n,fun b hb _=>f1.all (by omega)⟩
  (first|refine kA (fun e25=>?_) (fun e25=>?_)|refine kB (fun e25=>?_) (fun e25=>?_)|refine kC (fun e25=>?_) (fun e25=>?_)|refine kD (fun e25=>?_) (fun e25=>?_)|refine kE (fun e25=>?_) (fun e25=>?_)|refine kF (fun e25=>?_) (fun e25=>?_))
  ·have kd:nd.kind=25:=by simpa using e25
   have hQ:=hne (by omega)
   unfold exprA at hA
   rw[if_pos kd] at hA
   simp only[Bool.and_eq_true,decide_eq_true_eq] at hA
   have eb:nd.n=((nd.n.toNat:Nat):Int):=by omega
   have hu:nd.n.toNat<2^64:=by omega
   have hw:IntKind.u64.wrap nd.n=nd.n:=by rw[eb];simp only[IntKind.wrap,show IntKind.u64.signed=false from rfl,show IntKind.u64.bits=64 from rfl,Bool.false_and,Bool.false_eq_true,if_false];omega
   unfold txtA at htx
   rw[if_pos kd,←rdig_one (by decide) 20 (by decide) (by omega)] at htx
   simp(disch:=(try simp only[hN]);omega)only[go_sem,simprocAttr,H0,hw]
   rw[eb]
   refine rdigits_spec (b:=10) (L:=1) (f:=20) (.inl rfl) (by decide) (by decide) (by omega) hu ?_
   simp(disch:=(try simp only[hN]);omega)only[go_sem,simprocAttr]
   rw[←htx]
   exact hQ _ Hf
  have k25:nd.kind≠25:=by simpa using e25
  simp(disch:=(try simp only[hN]);omega)only[go_sem,simprocAttr]
  (first|refine kA (fun e26=>?_) (fun e26=>?_)|refine kB (fun e26=>?_) (fun e26=>?_)|refine kC (fun e26=>?_) (fun e26=>?_)|refine kD (fun e26=>?_) (fun e26=>?_)|refine kE (fun e26=>?_) (fun e26=>?_)|refine kF (fun e26=>?_) (fun e26=>?_))
  ·have kd:nd.kind=26:=by simpa using e26
   have hQ:=hne (by omega)
   have eb:nd.bits=((nd.bits.toNat:Nat):Int):=by omega
   have hu:nd.bits.toNat<2^64:=by omega
   unfold txtA at htx
   rw[if_neg k25,if_pos kd] at htx
   have hdl:=digN_le 16 16 nd.bits.toNat (by decide)
   have hra:=rdig_all (b:=16) (u:=nd.bits.toNat) (by decide) 16 (by decide) (by omega)
   simp(disch:=(try simp only[hN]);omega)only[go_sem,simprocAttr,H0]
   rw[eb]
   refine rdigits_spec (b:=16) (L:=16) (f:=16) (.inr rfl) (by decide) (by decide) (by omega) hu ?_
   rw[hra]
   generalize digN 16 16 nd.bits.toNat=D at htx hdl
   have zl:(zeros (16-D.length)).length=16-D.length:=by simp [zeros]
   generalize zeros (16-D.length)=Z at htx zl
   simp(disch:=(try simp only[hN]);omega)only[go_sem,simprocAttr,List.length_append,List.singleton_append,List.length_cons,List.cons_append,List.nil_append]
   rw[←htx]
   exact hQ _ Hf
  have k26:nd.kind≠26:=by simpa using e26
  simp(disch:=(try simp only[hN]);omega)only[go_sem,simprocAttr]
  (first|refine kA (fun e27=>?_) (fun e27=>?_)|refine kB (fun e27=>?_) (fun e27=>?_)|refine kC (fun e27=>?_) (fun e27=>?_)|refine kD (fun e27=>?_) (fun e27=>?_)|refine kE (fun e27=>?_) (fun e27=>?_)|refine kF (fun e27=>?_) (fun e27=>?_))
  ·have kd:nd.kind=27:=by simpa using e27
   have hQ:=hne (by omega)
   unfold exprA at hA
   rw[if_neg k25,if_neg k26,if_pos kd] at hA
   simp only[Bool.and_eq_true,Bool.or_eq_true,beq_iff_eq] at hA
   unfold txtA at htx
   rw[if_neg k25,if_neg k26,if_pos kd] at htx
   simp(disch:=(try simp only[hN]);omega)only[go_sem,simprocAttr,H0]
   rcases hA.1 with h0|h0
   ·rw[if_neg (by omega)] at htx
    simp(disch:=(try simp only[hN]);omega)only[go_sem,simprocAttr,h0]
    rw[←htx]
    exact hQ _ Hf
   ·rw[if_pos h0] at htx
    simp(disch:=(try simp only[hN]);omega)only[go_sem,simprocAttr,h0]
    rw[←htx]
    exact hQ _ Hf
  have k27:nd.kind≠27:=by simpa using e27
  simp(disch:=(try simp only[hN]);omega)only[go_sem,simprocAttr]
  (first|refine kA (fun e28=>?_) (fun e28=>?_)|refine kB (fun e28=>?_) (fun e28=>?_)|refine kC (fun e28=>?_) (fun e28=>?_)|refine kD (fun e28=>?_) (fun e28=>?_)|refine kE (fun e28=>?_) (fun e28=>?_)|refine kF (fun e28=>?_) (fun e28=>?_))
  ·have kd:nd.kind=28:=by simpa using e28
   have hQ:=hne (by omega)
   unfold txtA at htx
   rw[if_neg k25,if_neg k26,if_neg k27,if_pos kd] at htx
   simp(disch:=(try simp only[hN]);omega)only[go_sem,simprocAttr,H0]
   rw[←htx]
   exact hQ _ Hf
  have k28:nd.kind≠28:=by simpa using e28
  simp(disch:=(try simp only[hN]);omega)only[go_sem,simprocAttr]
  unfold txtA at htx
  rw[if_neg k25,if_neg k26,if_neg k27,if_neg k28] at htx
  unfold exprA at hA hmany
  rw[if_neg k25,if_neg k26,if_neg k27,if_neg k28] at hA hmany
  have hkid:∀i (hi:i<nd.kids.length),TxOk nd.kids[i]∧WrSpec nd.kids[i]:=fun i hi=>⟨(k.kid hi).1,ih (by have:=(k.kid hi).2;omega) (k.kid hi).1⟩
  generalize hks:nd.kids=ks at Hk htx hmany hkid
  (first|refine kA (fun e29=>?_) (fun e29=>?_)|refine kB (fun e29=>?_) (fun e29=>?_)|refine kC (fun e29=>?_) (fun e29=>?_)|refine kD (fun e29=>?_) (fun e29=>?_)|refine kE (fun e29=>?_) (fun e29=>?_)|refine kF (fun e29=>?_) (fun e29=>?_))
  ·have kd:nd.kind=29:=by simpa using e29
   have hQ:=hne (by omega)
   rw[if_pos kd] at hmany
   obtain ⟨x,rfl⟩:∃x,ks=[x]:=List.length_eq_one_iff.1 hmany
   obtain ⟨b,ver,o,c,md,ex,bs,kx,rfl,hb1,hb2,hrow,hkx⟩:=kid1 Hk
   obtain ⟨okx,exx⟩:=hkid 0 (by simp)
   simp only[List.getElem_cons_zero] at okx exx
   simp only[kidTx,if_pos kd] at htx
   have hlx:=okx.len
   have hxf:=hkx.flat
   simp(disch:=(try simp only[hN]);omega)only[go_sem,simprocAttr,H0,hb2,hrow,Nat.zero_mul,Nat.add_zero]
   refine exx (least:=0) (by decide) HG hkx fun h1 f1=>?_
   have hn1:=f1.n;try simp only[hN] at hn1
   have hlw:(x.txtW 0).length≤930002:=by have:=wrapB_le 0 x x.txt;unfold Nd.txtW;omega
   have hw0:x.txtW 0=x.txt:=by unfold Nd.txtW wrapB;rw[if_neg];rintro ⟨_,q⟩;exact Nat.not_lt_zero _ q
   simp(disch:=(try simp only[hN]);omega)only[go_sem,simprocAttr,f1.all,H0,hb2,hb1,Hn,List.length_append,List.length_cons,List.length_nil]
   refine useS (hQ _ (hfr f1)) ?_
   rw[htx,hw0];simp
  have k29:nd.kind≠29:=by simpa using e29
  rw[if_neg k29] at hmany hA
  simp(disch:=(try simp only[hN]);omega)only[go_sem,simprocAttr]
  (first|refine kA (fun e30=>?_) (fun e30=>?_)|refine kB (fun e30=>?_) (fun e30=>?_)|refine kC (fun e30=>?_) (fun e30=>?_)|refine kD (fun e30=>?_) (fun e30=>?_)|refine kE (fun e30=>?_) (fun e30=>?_)|refine kF (fun e30=>?_) (fun e30=>?_))
  ·have kd:nd.kind=30:=by simpa using e30
   have hQ:=hne (by omega)
   rw[if_pos kd] at hmany hA
   obtain ⟨x,rfl⟩:∃x,ks=[x]:=List.length_eq_one_iff.1 hmany
   obtain ⟨b,ver,o,c,md,ex,bs,kx,rfl,hb1,hb2,hrow,hkx⟩:=kid1 Hk
   obtain ⟨okx,exx⟩:=hkid 0 (by simp)
   simp only[List.getElem_cons_zero] at okx exx
   simp only[kidTx,if_neg k29] at htx
   have hlx:=okx.len
   have hxf:=hkx.flat
   have hw0:x.txtW 0=x.txt:=by unfold Nd.txtW wrapB;rw[if_neg];rintro ⟨_,q⟩;exact Nat.not_lt_zero _ q
   rw[Bool.and_eq_true] at hA
   have hop:=hA.1
   simp only[opB,Bool.or_eq_true,beq_iff_eq] at hop
   simp(disch:=(try simp only[hN]);omega)only[go_sem,simprocAttr,H0]
   (first|refine kA (fun g1=>?_) (fun g1=>?_)|refine kB (fun g1=>?_) (fun g1=>?_)|refine kC (fun g1=>?_) (fun g1=>?_)|refine kD (fun g1=>?_) (fun g1=>?_)|refine kE (fun g1=>?_) (fun g1=>?_)|refine kF (fun g1=>?_) (fun g1=>?_))<;>simp(disch:=(try simp only[hN]);omega)only[go_sem,simprocAttr,g1,H0]
   ·(first|refine kA (fun g2=>?_) (fun g2=>?_)|refine kB (fun g2=>?_) (fun g2=>?_)|refine kC (fun g2=>?_) (fun g2=>?_)|refine kD (fun g2=>?_) (fun g2=>?_)|refine kE (fun g2=>?_) (fun g2=>?_)|refine kF (fun g2=>?_) (fun g2=>?_))<;>simp(disch:=(try simp only[hN]);omega)only[go_sem,simprocAttr,g2,H0]
    ·have h1n:nd.name=[102,108,111,97,116]:=by simpa using g2
     rw[if_pos (by rw[h1n];decide)] at htx
     simp(disch:=(try simp only[hN]);omega)only[go_sem,simprocAttr,H0,hb2,hrow,Nat.zero_mul,Nat.add_zero]
     refine exx (least:=0) (by decide) HG hkx fun h1 f1=>?_
     have hn1:=f1.n;try simp only[hN] at hn1
     have hlw:(x.txtW 0).length≤930002:=by rw[hw0];omega
     simp(disch:=(try simp only[hN]);omega)only[go_sem,simprocAttr,f1.all,H0,hb2,hb1,Hn,List.length_append,List.length_cons,List.length_nil]
     refine useS (hQ _ (hfr f1)) ?_
     rw[htx,hw0];simp
    ·have n1:nd.name≠[105,110,116]:=by simpa using g1
     have n2:nd.name≠[102,108,111,97,116]:=by simpa using g2
     have h1n:¬1<nd.name.length:=by
      rcases hop with ((q|q)|q)|q
      ·rw[q];decide
      ·rw[q];decide
      ·exact absurd q n1
      ·exact absurd q n2
     rw[if_neg h1n] at htx
     simp(disch:=(try simp only[hN]);omega)only[go_sem,simprocAttr,H0,hb2,hrow,Nat.zero_mul,Nat.add_zero]
     refine exx (least:=6) (by decide) HG hkx fun h1 f1=>?_
     have hn1:=f1.n;try simp only[hN] at hn1
     have hlw:(x.txtW 6).length≤930002:=by have:=wrapB_le 6 x x.txt;unfold Nd.txtW;omega
     simp(disch:=(try simp only[hN]);omega)only[go_sem,simprocAttr,f1.all,H0,hb2,hb1,Hn,List.length_append,List.length_cons,List.length_nil]
     refine useS (hQ _ (hfr f1)) ?_
     rw[htx];rfl
   ·have h1n:nd.name=[105,110,116]:=by simpa using g1
    rw[if_pos (by rw[h1n];decide)] at htx
    simp(disch:=(try simp only[hN]);omega)only[go_sem,simprocAttr,H0,hb2,hrow,Nat.zero_mul,Nat.add_zero]
    refine exx (least:=0) (by decide) HG hkx fun h1 f1=>?_
    have hn1:=f1.n;try simp only[hN] at hn1
    have hlw:(x.txtW 0).length≤930002:=by rw[hw0];omega
    simp(disch:=(try simp only[hN]);omega)only[go_sem,simprocAttr,f1.all,H0,hb2,hb1,Hn,List.length_append,List.length_cons,List.length_nil]
    refine useS (hQ _ (hfr f1)) ?_
    rw[htx,hw0];simp
  have k30:nd.kind≠30:=by simpa using e30
  rw[if_neg k30] at hmany hA
  by_cases kd:nd.kind=31
  ·rw[if_pos kd] at hmany hA
   obtain ⟨x,y,rfl⟩:∃x y,ks=[x,y]:=by
    match ks,hmany with
    | [x,y],_=>exact ⟨x,y,rfl⟩
   obtain ⟨b,ver,o,c,md,ex,bs,kx,ky,rfl,hb1,hb2,hrow,hrow2,hkx,hky⟩:=kid2 Hk
   obtain ⟨okx,exx⟩:=hkid 0 (by simp)
   obtain ⟨oky,exy⟩:=hkid 1 (by simp)
   simp only[List.getElem_cons_zero,List.getElem_cons_succ] at okx exx oky exy
   simp only[kidTx] at htx
   have hlx:=okx.len
   have hly:=oky.len
   have hrk:=rankN_le nd.name
   have hQ2:∀h',Fr h.n h h'→Q (.ret (.str (if rankN nd.name<least then 40::nd.txt++[41] else nd.txt))) h':=by
    intro h' f
    have:=hQ h' f
    unfold Nd.txtW wrapB at this
    by_cases q:rankN nd.name<least
    ·rw[if_pos ⟨kd,q⟩] at this;rwa[if_pos q]
    ·rw[if_neg (fun r=>q r.2)] at this;rwa[if_neg q]
   clear hQ hne
   simp(disch:=(try simp only[hN]);omega)only[go_sem,simprocAttr,H0]
   refine rrank_spec ?_
   have F1:Fr h.n h H:=Hf
   clear hfr Hk Hf
   generalize rankN nd.name=R at hrk htx hQ2
   have e1:((R:Int)+1)=((R+1:Nat):Int):=by omega
   simp(disch:=(try simp only[hN]);omega)only[go_sem,simprocAttr]
   (first|refine kA (fun e3=>?_) (fun e3=>?_)|refine kB (fun e3=>?_) (fun e3=>?_)|refine kC (fun e3=>?_) (fun e3=>?_)|refine kD (fun e3=>?_) (fun e3=>?_)|refine kE (fun e3=>?_) (fun e3=>?_)|refine kF (fun e3=>?_) (fun e3=>?_))<;>simp(disch:=(try simp only[hN]);omega)only[go_sem,simprocAttr,e3]
   ·have hR:R=3:=by
     have:(R:Int)=3:=by simpa using e3
     omega
    rw[if_pos hR] at htx
    simp(disch:=(try simp only[hN]);omega)only[go_sem,simprocAttr,H0,hb2,hrow,hrow2,Nat.zero_mul,Nat.add_zero,Nat.one_mul]
    refine exx (least:=4) (by decide) HG hkx fun h2 f2=>?_
    have hn2:=f2.n;try simp only[hN] at hn2
    have r0:h2.get h.n=some ⟨0,.cells .own 0 (ndC nd (.slice b o 2 c ex))⟩:=by rw[f2.all (by omega)];exact H0
    have r2:h2.get b=some ⟨ver,.cells md 9 bs⟩:=by rw[f2.all (by omega)];exact hb2
    have hk3:KidsR lo h2 y.kids ky:=hky.fr f2 (.inr (Nat.le_refl _))
    have G2:GH h2:=f2.gh HG.n HG
    have hlw:(x.txtW 4).length≤930002:=by have:=wrapB_le 4 x x.txt;unfold Nd.txtW;omega
    simp(disch:=(try simp only[hN]);omega)only[go_sem,simprocAttr,H0,hb2,r0,r2,e1,hrow2,List.length_append,List.length_cons,List.length_nil,Nat.one_mul]
    refine exy (least:=R+1) (by omega) G2 hk3 fun h3 f3=>?_
    have hn3:=f3.n;try simp only[hN] at hn3
    have t0:h3.get h.n=some ⟨0,.cells .own 0 (ndC nd (.slice b o 2 c ex))⟩:=by rw[f3.all (by omega)];exact r0
    have t2:h3.get b=some ⟨ver,.cells md 9 bs⟩:=by rw[f3.all (by omega)];exact r2
    have hlw2:(y.txtW (R+1)).length≤930002:=by have:=wrapB_le (R+1) y y.txt;unfold Nd.txtW;omega
    have Fe:Fr h.n h h3:=(F1.trans ⟨f2.n,fun b hb _=>f2.all (by omega)⟩).trans ⟨f3.n,fun b hb _=>f3.all (by omega)⟩
    simp(disch:=(try simp only[hN]);omega)only[go_sem,simprocAttr,H0,hb2,r0,r2,t0,t2,List.length_append,List.length_cons,List.length_nil]
    (first|refine kA (fun e4=>?_) (fun e4=>?_)|refine kB (fun e4=>?_) (fun e4=>?_)|refine kC (fun e4=>?_) (fun e4=>?_)|refine kD (fun e4=>?_) (fun e4=>?_)|refine kE (fun e4=>?_) (fun e4=>?_)|refine kF (fun e4=>?_) (fun e4=>?_))<;>simp(disch:=(try simp only[hN]);omega)only[go_sem,simprocAttr,e4,List.length_append,List.length_cons,List.length_nil]
    ·have hlt:R<least:=by have:=of_decide_eq_true e4;omega
     refine useS (hQ2 _ Fe) ?_
     rw[if_pos hlt,htx];simp [Nd.txtW]
    ·have hlt:¬R<least:=by have:=of_decide_eq_false e4;omega
     refine useS (hQ2 _ Fe) ?_
     rw[if_neg hlt,htx];simp [Nd.txtW]
   ·have hR:R≠3:=by intro q;subst q;simp at e3
    rw[if_neg hR] at htx
    simp(disch:=(try simp only[hN]);omega)only[go_sem,simprocAttr,H0,hb2,hrow,hrow2,Nat.zero_mul,Nat.add_zero,Nat.one_mul]
    refine exx (least:=R) (by omega) HG hkx fun h2 f2=>?_
    have hn2:=f2.n;try simp only[hN] at hn2
    have r0:h2.get h.n=some ⟨0,.cells .own 0 (ndC nd (.slice b o 2 c ex))⟩:=by rw[f2.all (by omega)];exact H0
    have r2:h2.get b=some ⟨ver,.cells md 9 bs⟩:=by rw[f2.all (by omega)];exact hb2
    have hk3:KidsR lo h2 y.kids ky:=hky.fr f2 (.inr (Nat.le_refl _))
    have G2:GH h2:=f2.gh HG.n HG
    have hlw:(x.txtW R).length≤930002:=by have:=wrapB_le R x x.txt;unfold Nd.txtW;omega
    simp(disch:=(try simp only[hN]);omega)only[go_sem,simprocAttr,H0,hb2,r0,r2,e1,hrow2,List.length_append,List.length_cons,List.length_nil,Nat.one_mul]
    refine exy (least:=R+1) (by omega) G2 hk3 fun h3 f3=>?_
    have hn3:=f3.n;try simp only[hN] at hn3
    have t0:h3.get h.n=some ⟨0,.cells .own 0 (ndC nd (.slice b o 2 c ex))⟩:=by rw[f3.all (by omega)];exact r0
    have t2:h3.get b=some ⟨ver,.cells md 9 bs⟩:=by rw[f3.all (by omega)];exact r2
    have hlw2:(y.txtW (R+1)).length≤930002:=by have:=wrapB_le (R+1) y y.txt;unfold Nd.txtW;omega
    have Fe:Fr h.n h h3:=(F1.trans ⟨f2.n,fun b hb _=>f2.all (by omega)⟩).trans ⟨f3.n,fun b hb _=>f3.all (by omega)⟩
    simp(disch:=(try simp only[hN]);omega)only[go_sem,simprocAttr,H0,hb2,r0,r2,t0,t2,List.length_append,List.length_cons,List.length_nil]
    (first|refine kA (fun e4=>?_) (fun e4=>?_)|refine kB (fun e4=>?_) (fun e4=>?_)|refine kC (fun e4=>?_) (fun e4=>?_)|refine kD (fun e4=>?_) (fun e4=>?_)|refine kE (fun e4=>?_) (fun e4=>?_)|refine kF (fun e4=>?_) (fun e4=>?_))<;>simp(disch:=(try simp only[hN]);omega)only[go_sem,simprocAttr,e4,List.length_append,List.length_cons,List.length_nil]
    ·have hlt:R<least:=by have:=of_decide_eq_true e4;omega
     refine useS (hQ2 _ Fe) ?_
     rw[if_pos hlt,htx];simp [Nd.txtW]
    ·have hlt:¬R<least:=by have:=of_decide_eq_false e4;omega
     refine useS (hQ2 _ Fe) ?_
     rw[if_neg hlt,htx];simp [Nd.txtW]
  ·exfalso
   rw[if_neg kd] at hA
   exact absurd hA (by decide)
theorem gh_hq:GH hq:=by
 have hn:hq.n=21+17:=rfl
 refine ⟨by omega,fun g hg=>?_,fun g hg=>?_,fun g vs hg=>?_⟩
 ·have:=knG_lt hg
  rw[hq_get,if_pos (by omega),if_pos (by omega),if_pos hg];rfl
 ·have:=knG_lt hg
  rw[hq_get,if_pos (by omega),if_neg (by omega),if_neg (by omega),Nat.add_sub_cancel_left,if_pos hg]
 ·have:=dtG_lt hg
  rw[hq_get,if_pos (by omega),if_neg (by omega),if_pos (by omega),hg]
def numGs:List Nat:=[2,3,4,5,6,7,8,1,0,9,10,11,12,13,14,15,16]
theorem numGs_get:∀i,i<17→numGs[i]?=some (gi (i+1)):=by decide
theorem kn_all:∀g,g<17→knG g=true:=by decide
theorem gi_lt (e:Nat) (h1:1≤e) (h2:e≤17):gi e<17:=by
  have:∀e,e<18→gi e<17:=by decide
  exact this e (by omega)
theorem gi_inj {e e':Nat} (h1:1≤e) (h2:e≤17) (h3:1≤e') (h4:e'≤17) (h:gi e=gi e'):e=e':=by
 have:∀e,e<18→∀e',e'<18→1≤e→1≤e'→gi e=gi e'→e=e':=by decide
 exact this e (by omega) e' (by omega) h1 h3 h
theorem txt_inj:∀g,g<17→∀g',g'<17→g≠g'→txt g≠txt g':=by decide
theorem pIs_eq {h:AHeap} (hG:GH h) {e e':Nat} (h1:1≤e) (h2:e≤17) (h3:1≤e') (h4:e'≤17):pIs [errAV e,errAV e'] h=some (.ret (.bool (decide (e=e'))),h):=by
 have a1:=hG.st _ (kn_all _ (gi_lt e h1 h2))
 have a2:=hG.st _ (kn_all _ (gi_lt e' h3 h4))
 simp only[errAV,errG,pIs,Nat.beq_refl,Bool.and_true,cond_true,a1,a2]
 by_cases he:e=e'
 ·subst he
  simp [beq_nat]
 ·have hg:gi e≠gi e':=fun q=>he (gi_inj h1 h2 h3 h4 q)
  have ht:(txt (gi e)==txt (gi e'))=false:=beq_eq_false_iff_ne.2 (txt_inj _ (gi_lt e h1 h2) _ (gi_lt e' h3 h4) hg)
  simp [beq_nat,ht,he,hg]
theorem num_spec {h:AHeap} (hG:GH h) {e:Nat} (h1:1≤e) (h2:e≤17) {Q:QR} (hQ:∀h',Fr h.n h h'→Q (.ret (.int .i64 (e:Int))) h'):WF F 16 [errAV e] h Q:=by
 refine WF.code F16 rfl ?_
 have gg:∀g,g<17→h.get g=some ⟨0,.cells .ro 0 [errG g]⟩:=fun g hg=>hG.gl g (kn_all g hg)
 simp(disch:=(try simp only[hN]);omega)only[go_sem,simprocAttr,gg]
 refine wp_loop (fun n a h'=>∃i:Nat,n=17-i∧i<e∧h'=h.alloc (.cells .own 1 (numGs.map errG))∧a.tm.get 0=some (errAV e)∧a.tm.get 26=some (.slice h.n 0 17 17 true)∧a.tm.get 27=some (.int .i64 17)∧a.tm.get 28=some (.int .i64 (i:Int))∧a.df=[]) ?_ 17 ?_
 ·rintro n ⟨t,df⟩ h' ⟨i,hn,hi,rfl,k0,k26,k27,k28,hdf⟩
  simp only at k0 k26 k27 k28 hdf
  subst hdf
  have hG1:=hG.alloc (.cells .own 1 (numGs.map errG))
  have hlt:((i:Int)<17)=True:=by simp;omega
  have hlt2:((i:Int)<((17:Nat):Int))=True:=by simp;omega
  have hg:(numGs.map errG)[i]?=some (errAV (i+1)):=by rw[List.getElem?_map,numGs_get i (by omega)];rfl
  simp(disch:=(try simp only[hN]);omega)only[go_sem,simprocAttr,k0,k26,k27,k28,hlt,hlt2,Nat.mul_one,hg]
  refine WF.prim F43 (pIs_eq hG1 h1 h2 (by omega) (by omega)) ?_
  simp(disch:=(try simp only[hN]);omega)only[go_sem,simprocAttr]
  (first|refine kA (fun he=>?_) (fun he=>?_)|refine kB (fun he=>?_) (fun he=>?_)|refine kC (fun he=>?_) (fun he=>?_)|refine kD (fun he=>?_) (fun he=>?_)|refine kE (fun he=>?_) (fun he=>?_)|refine kF (fun he=>?_) (fun he=>?_))
  ·have he':e=i+1:=of_decide_eq_true he
   simp(disch:=(try simp only[hN]);omega)only[go_sem,simprocAttr,k28]
   subst he'
   exact hQ _ (Fr.alloc (Fr.refl _ _) _)
  ·have he':¬e=i+1:=of_decide_eq_false he
   simp(disch:=(try simp only[hN]);omega)only[go_sem,simprocAttr,k0,k26,k27,k28]
   exact ⟨_,by omega,i+1,rfl,by omega,rfl⟩
 ·simp(disch:=(try simp only[hN]);omega)only[go_sem,simprocAttr]
  exact ⟨0,rfl,by omega,rfl,rfl⟩
theorem low_alloc {h:AHeap} {o:AObj} (hL:LowEq hq h):LowEq hq (h.alloc o):=
 ⟨Nat.le_succ_of_le hL.1,fun b x q=>(hL.2 b x q).imp id fun r=>by
  have hn:hq.n=21+17:=rfl
  have h1:=hL.1
  have hb:b<21+17:=by
   by_cases hb:b<21+17
   ·exact hb
   ·rw[hq_get,if_neg hb] at q;cases q
  rw[AHeap.get_alloc,if_neg (by omega)];exact r⟩
theorem sexpr_spec {nd:Nd} {lo:Nat} {h:AHeap} {kv:AV} {Q:QR} (hG:GH h) (hk:KidsR lo h nd.kids kv) (hlong:nd.longB=false) (hsm:nd.count≤3000) (hrng:nd.rngB=true)
  (hQ:∀h',Fr h.n h h'→Q (.ret (.tuple (bif nd.exprF then [.str nd.txt,.nilIface] else [.str [],errAV 9]))) h'):WF F 24 [.agg (ndC nd kv)] h Q:=by
 have hkf:=hk.flat
 refine WF.code F24 rfl ?_
 simp(disch:=(try simp only[hN]);omega)only[go_sem,simprocAttr,hkf.1,hkf.2]
 generalize hH:AHeap.alloc _ _=H
 have Hn:H.n=h.n+1:=by rw[←hH];simp(disch:=(try simp only[hN]);omega)only[go_sem,simprocAttr]
 have H0:H.get h.n=some ⟨0,.cells .own 0 (ndC nd kv)⟩:=by rw[←hH];simp(disch:=(try simp only[hN]);omega)only[go_sem,simprocAttr]
 have Hf:Fr h.n h H:=by rw[←hH];exact ⟨by (try simp only[hN]);omega,fun b hb hne=>by (try simp only[hN] at hb hne);simp(disch:=(try simp only[hN]);omega)only[go_sem,simprocAttr]⟩
 have HG:GH H:=Hf.gh hG.n hG
 have Hk:KidsR lo H nd.kids kv:=hk.fr Hf (.inr (Nat.le_refl _))
 clear hH hk
 refine inForm_spec (b:=nd.exprF) HG ?_ ?_
 ·intro h1 Q1 f1 hG1 hA
  have hn1:=f1.n;try simp only[hN] at hn1
  refine WF.code F56 rfl ?_
  have q1:h1.get h.n=some ⟨0,.cells .own 0 (ndC nd kv)⟩:=by rw[f1.all (by omega)];exact H0
  have hk1:KidsR lo h1 nd.kids kv:=Hk.fr f1 (.inr (Nat.le_refl _))
  simp(disch:=(try simp only[hN]);omega)only[go_sem,simprocAttr,q1]
  have f2:Fr h1.n h1 (h1.alloc (.cells .own 0 [])):=⟨by (try simp only[hN]);omega,fun b hb hne=>by (try simp only[hN] at hb hne);simp(disch:=(try simp only[hN]);omega)only[go_sem,simprocAttr]⟩
  refine fexpr_spec _ (Nat.le_refl _) (hG1.alloc _) (hk1.fr f2 (.inr (Nat.le_refl _))) hlong ?_
  intro h2 g2
  have hn2:=g2.n;try simp only[hN] at hn2
  have:=hA h2 (f2.trans ⟨g2.n,fun b hb _=>g2.all hb⟩)
  constructor
  ·intro e
   simp(disch:=(try simp only[hN]);omega)only[go_sem,simprocAttr]
   exact this.1 e
  ·intro e
   simp(disch:=(try simp only[hN]);omega)only[go_sem,simprocAttr,formStop]
   exact this.2 e
 ·intro h1 f1
  have hn1:=f1.n;try simp only[hN] at hn1
  have q1:h1.get h.n=some ⟨0,.cells .own 0 (ndC nd kv)⟩:=by rw[f1.all (by omega)];exact H0
  have hk1:KidsR lo h1 nd.kids kv:=Hk.fr f1 (.inr (Nat.le_refl _))
  have hG1:GH h1:=f1.gh HG.n HG
  have f01:Fr h.n h h1:=Hf.trans ⟨f1.n,fun b hb _=>f1.all (by omega)⟩
  cases hw:nd.exprF with
  | true=>
   rw[hw] at hQ
   simp(disch:=(try simp only[hN]);omega)only[go_sem,simprocAttr,eqT,eqK,q1,hkf.1,hkf.2]
   refine expr_spec _ (Nat.le_refl _) ⟨hsm,hw,hlong,hrng⟩ hG1 hk1 fun h2 f2=>?_
   simp(disch:=(try simp only[hN]);omega)only[go_sem,simprocAttr]
   exact hQ _ (f01.trans ⟨f2.n,fun b hb _=>f2.all (by omega)⟩)
  | false=>
   rw[hw] at hQ
   simp(disch:=(try simp only[hN]);omega)only[go_sem,simprocAttr,eqT,eqK,errAV,errG]
   exact hQ _ f01
theorem exprs_law {nd:Nd} {lo:Nat} {h:AHeap} {kv:AV} (hk:KidsR lo h nd.kids kv) (hrng:nd.rngB=true) (hL:LowEq hq h) (hG:GH h):WF F 8 [.agg (ndC nd kv)] h (fun r _=>r=.ret (.bool true)):=by
 have hkf:=hk.flat
 refine WF.code F8 rfl ?_
 simp(disch:=(try simp only[hN]);omega)only[go_sem,simprocAttr,hkf.1,hkf.2]
 generalize hH:AHeap.alloc _ _=H
 have Hn:H.n=h.n+1:=by rw[←hH];simp(disch:=(try simp only[hN]);omega)only[go_sem,simprocAttr]
 have H0:H.get h.n=some ⟨0,.cells .own 0 (ndC nd kv)⟩:=by rw[←hH];simp(disch:=(try simp only[hN]);omega)only[go_sem,simprocAttr]
 have Hf:Fr h.n h H:=by rw[←hH];exact ⟨by (try simp only[hN]);omega,fun b hb hne=>by (try simp only[hN] at hb hne);simp(disch:=(try simp only[hN]);omega)only[go_sem,simprocAttr]⟩
 have HG:GH H:=Hf.gh hG.n hG
 have HL:LowEq hq H:=by rw[←hH];exact low_alloc hL
 have Hk:KidsR lo H nd.kids kv:=hk.fr Hf (.inr (Nat.le_refl _))
 clear hH hk
 refine alive_spec HL ?_
 simp(disch:=(try simp only[hN]);omega)only[go_sem,simprocAttr,H0,hkf.1,hkf.2]
 refine big_spec Hk fun h1 f1=>?_
 have hn1:=f1.n;try simp only[hN] at hn1
 cases hb:bigB nd with
 | true=>simp(disch:=(try simp only[hN]);omega)only[go_sem,simprocAttr]
 | false=>
  have q1:h1.get h.n=some ⟨0,.cells .own 0 (ndC nd kv)⟩:=by rw[f1.all (by omega)];exact H0
  have hk1:KidsR lo h1 nd.kids kv:=Hk.fr f1 (.inr (Nat.le_refl _))
  have hG1:GH h1:=f1.gh HG.n HG
  have hbb:=hb
  simp only[bigB,Bool.or_eq_false_iff,decide_eq_false_iff_not] at hbb
  have hsm:nd.count≤3000:=by have:=hbb.1.1;omega
  have hlong:nd.longB=false:=hbb.2
  simp(disch:=(try simp only[hN]);omega)only[go_sem,simprocAttr,q1,hkf.1,hkf.2]
  refine sexpr_spec hG1 hk1 hlong hsm hrng fun h2 f2=>?_
  have hn2:=f2.n;try simp only[hN] at hn2
  have q2:h2.get h.n=some ⟨0,.cells .own 0 (ndC nd kv)⟩:=by rw[f2.all (by omega)];exact q1
  have hk2:KidsR lo h2 nd.kids kv:=hk1.fr f2 (.inr (Nat.le_refl _))
  have hG2:GH h2:=f2.gh hG1.n hG1
  cases hw:nd.exprF with
  | true=>
   simp(disch:=(try simp only[hN]);omega)only[go_sem,simprocAttr,hw,q2,hkf.1,hkf.2]
   refine rexpr_spec _ (Nat.le_refl _) hk2 hlong fun h3 f3=>?_
   have hn3:=f3.n;try simp only[hN] at hn3
   have q3:h3.get h.n=some ⟨0,.cells .own 0 (ndC nd kv)⟩:=by rw[f3.all (by omega)];exact q2
   have hk3:KidsR lo h3 nd.kids kv:=hk2.fr f3 (.inr (Nat.le_refl _))
   have hG3:GH h3:=f3.gh hG2.n hG2
   simp(disch:=(try simp only[hN]);omega)only[go_sem,simprocAttr,hw,q3,hkf.1,hkf.2,eqT,eqK]
   have hw0:nd.txtW 0=nd.txt:=by unfold Nd.txtW wrapB;rw[if_neg];rintro ⟨_,q⟩;exact Nat.not_lt_zero _ q
   refine write_spec _ (Nat.le_refl _) ⟨hsm,hw,hlong,hrng⟩ (least:=0) (by decide) hG3 hk3 fun h4 f4=>?_
   rw[hw0]
   simp(disch:=(try simp only[hN]);omega)only[go_sem,simprocAttr]
  | false=>
   simp(disch:=(try simp only[hN]);omega)only[go_sem,simprocAttr,hw,q2,hkf.1,hkf.2]
   refine rexpr_spec _ (Nat.le_refl _) hk2 hlong fun h3 f3=>?_
   have hn3:=f3.n;try simp only[hN] at hn3
   have hG3:GH h3:=f3.gh hG2.n hG2
   simp(disch:=(try simp only[hN]);omega)only[go_sem,simprocAttr,hw]
   refine num_spec hG3 (e:=9) (by decide) (by decide) fun h4 f4=>?_
   simp(disch:=(try simp only[hN]);omega)only[go_sem,simprocAttr,eqT,eqK]
end Go.Ev
