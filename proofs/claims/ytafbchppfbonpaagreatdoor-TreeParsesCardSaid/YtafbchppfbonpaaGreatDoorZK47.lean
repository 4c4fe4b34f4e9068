/- The document's reader of trees: operands; expressions. -/
import Derived.Test.YtafbchppfbonpaaGreatDoorZK25
import Derived.Test.YtafbchppfbonpaaGreatDoorPuA
import Derived.Test.YtafbchppfbonpaaGreatDoorEvB
set_option linter.all false
set_option linter.unusedVariables false
set_option linter.unusedSimpArgs false
namespace Go.Ev
open Go
set_option maxRecDepth 100000
set_option maxHeartbeats 4000000
theorem isT_kind {ws:List Bs} {E:Nat} {ts:List Tok} (h:isT ws ts=true):((hdT E ts).kind=2∨(hdT E ts).kind=5)∧ws.contains (hdT E ts).text=true:=by
 cases ts with
 | nil=>simp [isT] at h
 | cons t ts=>
  simp only[isT,Bool.and_eq_true,Bool.or_eq_true,decide_eq_true_eq] at h
  exact h
theorem isT_two {a b:Bs} {ts:List Tok}:isT [a,b] ts=(isT [a] ts||isT [b] ts):=by
 cases ts with
 | nil=>rfl
 | cons t ts=>
  simp only[isT,List.contains_cons,List.contains_nil,Bool.or_false]
  cases (decide (t.kind=2)||decide (t.kind=5))<;>simp
theorem RInv.le {h h':AHeap} {r E nx e q:Nat} {all:List Tok} (p:RInv h r E all nx e q) (hn:h.n≤h'.n) (f:∀b,b≤r→h'.get b=h.get b):RInv h' r E all nx e q:=by
 obtain ⟨ver,v,h1,h2,h3,h4⟩:=p.st
 have:=p.hi
 refine ⟨by omega,p.nxl,p.small,ver,v,by rw[f r (Nat.le_refl _)];exact h1,h2,h3,h4.imp id ?_⟩
 rintro ⟨b,vb,c,ex,g1,g2,g3⟩
 exact ⟨b,vb,c,ex,g1,g2,by rw[f b (by omega)];exact g3⟩
theorem RInv.step2 {h h':AHeap} {r E nx e q nx' e' q' ver ver':Nat} {v:AV} {all:List Tok} (p:RInv h r E all nx e q) (hn0:h.n≤h'.n) (f:∀b,b<r→h'.get b=h.get b) (hn:nx'≤all.length) (h0:h.get r=some ⟨ver,.cells .own 0 [v,.int .i64 (E:Int),.int .i64 (nx:Int),.int .i64 (e:Int),.int .i64 (q:Int)]⟩) (h1:h'.get r=some ⟨ver',.cells .own 0 [v,.int .i64 (E:Int),.int .i64 (nx':Int),.int .i64 (e':Int),.int .i64 (q':Int)]⟩):RInv h' r E all nx' e' q':=by
 obtain ⟨ver2,v2,g1,g2,g3,g4⟩:=p.st
 rw[h0] at g1
 cases g1
 have:=p.hi
 refine ⟨by omega,hn,p.small,ver',v,h1,g2,g3,g4.imp id ?_⟩
 rintro ⟨b,vb,c,ex,g1,g2,g3⟩
 exact ⟨b,vb,c,ex,g1,g2,by rw[f b (by omega)];exact g3⟩
theorem runary_bad {h:AHeap} {r E nx e q:Nat} {all:List Tok} {lv:Int} (hp:RInv h r E all nx e q) (he:e≠0) {Q:QR} (hQ:∀h',Fr h.n h h'→Q (.ret (.agg (ndC (.mk 0 (hdT E (all.drop nx)).pos [] 0 0 0 0 0 []) .nilSlice))) h'):WF F 32 [.ptr r 0,.int .i64 lv] h Q:=by
 refine WF.code F32 rfl ?_
 have hlt:=hp.hi
 simp(disch:=(try simp only[hN]);omega)only[go_sem,simprocAttr]
 refine place_tok (hp.fr ⟨by (try simp only[hN]);omega,fun b hb hne=>by (try simp only[hN] at hb hne);simp(disch:=(try simp only[hN]);omega)only[go_sem,simprocAttr]⟩) ?_
 obtain ⟨ver,v,h1,h2,h3,h4⟩:=hp.st
 have e0:((e:Int) != 0)=true:=by simp;omega
 simp(disch:=(try simp only[hN]);omega)only[go_sem,simprocAttr,h1,e0]
 exact hQ _ ⟨by (try simp only[hN]);omega,fun b hb hne=>by (try simp only[hN] at hb hne);simp(disch:=(try simp only[hN]);omega)only[go_sem,simprocAttr]⟩
theorem runary_tok {E:Nat} {u x:PT} (hu:RSpec 32 [] E u) (hue:ErrP u) (hx:RSpec 15 [.int .i64 1] E x) (hxe:ErrP x):RSpec 32 [] E (fun lv ts=>if isT [[45],[33]] ts then (if lv=16 then .error (3,(hdT E ts).pos) else match u (lv+1) ts.tail with
    | .error e=>.error e
    | .ok (k,ts')=>.ok (.mk 30 (hdT E ts).pos (hdT E ts).text 0 0 0 0 0 [k],ts')) else primP E x lv ts):=by
 intro h r lv nx q all Q hlv hp hz hQ
 simp only at hz hQ
 refine WF.code F32 rfl ?_
 have hlt:=hp.hi
 simp(disch:=(try simp only[hN]);omega)only[go_sem,simprocAttr,List.cons_append,List.nil_append]
 refine place_tok (hp.fr ⟨by (try simp only[hN]);omega,fun b hb hne=>by (try simp only[hN] at hb hne);simp(disch:=(try simp only[hN]);omega)only[go_sem,simprocAttr]⟩) ?_
 obtain ⟨ver,v,h1,h2,h3,h4⟩:=hp.st
 have e0:((0:Int) != 0)=false:=rfl
 simp(disch:=(try simp only[hN]);omega)only[go_sem,simprocAttr,h1,e0,Int.natCast_zero]
 generalize hH:AHeap.upd _ _ _ _=H
 have hHn:H.n=h.n+2:=by rw[←hH];simp(disch:=(try simp only[hN]);omega)only[go_sem,simprocAttr]
 have hH0:H.get h.n=some ⟨0,.cells .own 0 zN⟩:=by rw[←hH];simp(disch:=(try simp only[hN]);omega)only[go_sem,simprocAttr]
 have hH1:H.get (h.n+1)=some ⟨1,.cells .own 0 [.int .i64 0,.int .i64 ((hdT E (all.drop nx)).pos:Int),.str [],.int .i64 0,.int .i64 0,.int .i64 0,.int .i64 0,.int .u64 0,.nilSlice]⟩:=by rw[←hH];simp(disch:=(try simp only[hN]);omega)only[go_sem,simprocAttr]
 have hHo:∀b',b'<h.n→H.get b'=h.get b':=fun b' hb'=>by rw[←hH];simp(disch:=(try simp only[hN]);omega)only[go_sem,simprocAttr]
 clear hH h1 h2 h3 h4
 have hpH:RInv H r E all nx 0 q:=hp.fr ⟨by omega,fun b hb _=>hHo b hb⟩
 refine sees_tok hpH ?_
 intro h1 hf1
 have hn1:=hf1.n;try simp only[hN] at hn1
 have hp1:=hpH.fr hf1
 have q0:=(hf1.all (b:=h.n) (by omega)).trans hH0
 have q1:=(hf1.all (b:=h.n+1) (by omega)).trans hH1
 have hfo:∀b',b'<h.n→h1.get b'=h.get b':=fun b' hb'=>by rw[hf1.all (by omega),hHo b' hb']
 clear hf1 hpH hH0 hH1 hHo
 have s1:=seesT_is (w:=[45]) (by simp) (ts:=all.drop nx)
 have s2:=seesT_is (w:=[33]) (by simp) (ts:=all.drop nx)
 have s3:=seesT_is (w:=[105,110,116]) (by simp) (ts:=all.drop nx)
 have s4:=seesT_is (w:=[102,108,111,97,116]) (by simp) (ts:=all.drop nx)
 have s5:=seesT_is (w:=[116,114,117,101]) (by simp) (ts:=all.drop nx)
 have s6:=seesT_is (w:=[102,97,108,115,101]) (by simp) (ts:=all.drop nx)
 have htx:∀ws,isT ws (all.drop nx)=true→seesT 0 (all.drop nx)=(hdT E (all.drop nx)).text:=fun ws hw=>by
  rw[isR_text hw,←hdT_text (E:=E) (isT_ne hw)]
 have htl:(all.drop nx).tail=all.drop (nx+1):=List.tail_drop
 have el:((lv:Int)+1)=((lv+1:Nat):Int):=by omega
 rw[htl] at hz hQ
 generalize hS:seesT 0 (all.drop nx)=S at s1 s2 s3 s4 s5 s6 htx
 simp(disch:=(try simp only[hN]);omega)only[go_sem,simprocAttr]
 by_cases hm:isT [[45],[33]] (all.drop nx)=true
 ·rw[if_pos hm] at hz hQ
  have hSt:=htx _ hm
  have hw:isT [S] (all.drop nx)=true:=by
   obtain ⟨k1,k2⟩:=isT_kind (E:=E) hm
   cases hd:all.drop nx with
   | nil=>rw[hd] at hm;simp [isT] at hm
   | cons t ts=>
    rw[hd] at hSt k1
    simp only[isT,hdT] at k1 hSt ⊢
    rw[hSt]
    simpa using k1
  have hm2:(S==[45]||S==[33])=true:=by rw[s1,s2,←isT_two];exact hm
  have hS0:S≠[]:=by rintro rfl;cases hm2
  cases c1:(S==[45])
  ·cases c2:(S==[33])
   ·rw[c1,c2] at hm2;cases hm2
   ·simp(disch:=(try simp only[hN]);omega)only[go_sem,simprocAttr,c1,c2]
    refine level_tok hS0 hlv hp1 ?_
    unfold LevQ
    rw[if_pos rfl,if_pos hw]
    by_cases h16:lv=16
    ·rw[if_pos h16] at hQ ⊢
     intro h2 hf2 hp2
     have hn2:=hf2.n;try simp only[hN] at hn2
     have r1:=(hf2.old (h.n+1) (by omega) (by omega)).trans q1
     have r0:=(hf2.old h.n (by omega) (by omega)).trans q0
     simp(disch:=(try simp only[hN]);omega)only[go_sem,simprocAttr,r1]
     refine runary_bad (hp2.fr' (q':=h.n+1) (Fr.trans (Fr.upd _ _ _) (Fr.upd _ _ _)) (by omega)) (by decide) ?_
     intro h3 hf3
     have hn3:=hf3.n;try simp only[hN] at hn3
     simp(disch:=(try simp only[hN]);omega)only[go_sem,simprocAttr,hf3.old,r0]
     refine hQ _ (.mk 30 (hdT E (all.drop nx)).pos S 0 0 0 0 0 []) _ nx (by decide) ⟨by (try simp only[hN]);omega,fun b hb hne=>by (try simp only[hN] at hb hne);simp(disch:=(try simp only[hN]);omega)only[go_sem,simprocAttr,hf3.old,hf2.old,hfo]⟩ ?_ rfl rfl
     exact hp2.le (by simp only[hN];omega) fun b hb=>by simp(disch:=(try simp only[hN]);omega)only[go_sem,simprocAttr,hf3.old]
    ·rw[if_neg h16] at hQ hz ⊢
     intro h2 hf2 hp2
     have hn2:=hf2.n;try simp only[hN] at hn2
     have r1:=(hf2.old (h.n+1) (by omega) (by omega)).trans q1
     have r0:=(hf2.old h.n (by omega) (by omega)).trans q0
     simp(disch:=(try simp only[hN]);omega)only[go_sem,simprocAttr,r1,el]
     have hz2:u (lv+1) (all.drop (nx+1))≠.error (0,0):=by intro e;rw[e] at hz;exact hz rfl
     refine hu (lv:=lv+1) (by omega) (hp2.fr' (q':=h.n+1) (Fr.trans (Fr.upd _ _ _) (Fr.upd _ _ _)) (by omega)) hz2 (RQ.all hz2 (hue.ne hz2) ?_)
     intro h3 m kv nx3 e3 p3 hf3 hp3 k1 k2 hc
     have hn3:=hf3.n;try simp only[hN] at hn3
     rw[←hSt] at hQ
     simp(disch:=(try simp only[hN]);omega)only[go_sem,simprocAttr,hf3.old,r0,k1,k2]
     refine hQ.use (nx':=nx3) (e:=e3) (p:=p3) (n:=.mk 30 (hdT E (all.drop nx)).pos S 0 0 0 0 0 [m]) ⟨by (try simp only[hN]);omega,fun b hb hne=>by (try simp only[hN] at hb hne);simp(disch:=(try simp only[hN]);omega)only[go_sem,simprocAttr,hf3.old,hf2.old,hfo]⟩ (hp3.le (by simp only[hN];omega) fun b hb=>by simp(disch:=(try simp only[hN]);omega)only[go_sem,simprocAttr]) rfl rfl (hc.imp (fun g=>⟨g.1,g.2.1,?_,?_⟩) (fun g=>⟨g.1,?_⟩))
     ·exact KidsR.one (ver:=0) (kv:=kv) (g.2.2.1.keep (by simp only[hN];omega) (by simp only[hN];omega) fun b hb1 hb2=>by simp only[AHeap.upd_n] at hb1;simp(disch:=(try simp only[hN]);omega)only[go_sem,simprocAttr]) (by omega) (by simp only[hN];omega) (by simp(disch:=(try simp only[hN]);omega)only[go_sem,simprocAttr])
     ·rw[g.2.2.2]
     ·rw[g.2]
  ·simp(disch:=(try simp only[hN]);omega)only[go_sem,simprocAttr,c1]
   refine level_tok hS0 hlv hp1 ?_
   unfold LevQ
   rw[if_pos rfl,if_pos hw]
   by_cases h16:lv=16
   ·rw[if_pos h16] at hQ ⊢
    intro h2 hf2 hp2
    have hn2:=hf2.n;try simp only[hN] at hn2
    have r1:=(hf2.old (h.n+1) (by omega) (by omega)).trans q1
    have r0:=(hf2.old h.n (by omega) (by omega)).trans q0
    simp(disch:=(try simp only[hN]);omega)only[go_sem,simprocAttr,r1]
    refine runary_bad (hp2.fr' (q':=h.n+1) (Fr.trans (Fr.upd _ _ _) (Fr.upd _ _ _)) (by omega)) (by decide) ?_
    intro h3 hf3
    have hn3:=hf3.n;try simp only[hN] at hn3
    simp(disch:=(try simp only[hN]);omega)only[go_sem,simprocAttr,hf3.old,r0]
    refine hQ _ (.mk 30 (hdT E (all.drop nx)).pos S 0 0 0 0 0 []) _ nx (by decide) ⟨by (try simp only[hN]);omega,fun b hb hne=>by (try simp only[hN] at hb hne);simp(disch:=(try simp only[hN]);omega)only[go_sem,simprocAttr,hf3.old,hf2.old,hfo]⟩ ?_ rfl rfl
    exact hp2.le (by simp only[hN];omega) fun b hb=>by simp(disch:=(try simp only[hN]);omega)only[go_sem,simprocAttr,hf3.old]
   ·rw[if_neg h16] at hQ hz ⊢
    intro h2 hf2 hp2
    have hn2:=hf2.n;try simp only[hN] at hn2
    have r1:=(hf2.old (h.n+1) (by omega) (by omega)).trans q1
    have r0:=(hf2.old h.n (by omega) (by omega)).trans q0
    simp(disch:=(try simp only[hN]);omega)only[go_sem,simprocAttr,r1,el]
    have hz2:u (lv+1) (all.drop (nx+1))≠.error (0,0):=by intro e;rw[e] at hz;exact hz rfl
    refine hu (lv:=lv+1) (by omega) (hp2.fr' (q':=h.n+1) (Fr.trans (Fr.upd _ _ _) (Fr.upd _ _ _)) (by omega)) hz2 (RQ.all hz2 (hue.ne hz2) ?_)
    intro h3 m kv nx3 e3 p3 hf3 hp3 k1 k2 hc
    have hn3:=hf3.n;try simp only[hN] at hn3
    rw[←hSt] at hQ
    simp(disch:=(try simp only[hN]);omega)only[go_sem,simprocAttr,hf3.old,r0,k1,k2]
    refine hQ.use (nx':=nx3) (e:=e3) (p:=p3) (n:=.mk 30 (hdT E (all.drop nx)).pos S 0 0 0 0 0 [m]) ⟨by (try simp only[hN]);omega,fun b hb hne=>by (try simp only[hN] at hb hne);simp(disch:=(try simp only[hN]);omega)only[go_sem,simprocAttr,hf3.old,hf2.old,hfo]⟩ (hp3.le (by simp only[hN];omega) fun b hb=>by simp(disch:=(try simp only[hN]);omega)only[go_sem,simprocAttr]) rfl rfl (hc.imp (fun g=>⟨g.1,g.2.1,?_,?_⟩) (fun g=>⟨g.1,?_⟩))
    ·exact KidsR.one (ver:=0) (kv:=kv) (g.2.2.1.keep (by simp only[hN];omega) (by simp only[hN];omega) fun b hb1 hb2=>by simp only[AHeap.upd_n] at hb1;simp(disch:=(try simp only[hN]);omega)only[go_sem,simprocAttr]) (by omega) (by simp only[hN];omega) (by simp(disch:=(try simp only[hN]);omega)only[go_sem,simprocAttr])
    ·rw[g.2.2.2]
    ·rw[g.2]
 ·rw[if_neg hm] at hz hQ
  have hm2:(S==[45]||S==[33])=false:=by rw[s1,s2,←isT_two];simpa using hm
  rw[Bool.or_eq_false_iff] at hm2
  obtain ⟨c1,c2⟩:=hm2
  simp(disch:=(try simp only[hN]);omega)only[go_sem,simprocAttr,c1,c2]
  cases c3:(S==[105,110,116])
  ·cases c4:(S==[102,108,111,97,116])
   ·simp(disch:=(try simp only[hN]);omega)only[go_sem,simprocAttr,c3,c4]
    cases c5:(S==[116,114,117,101])
    case true=>
     have hi:=(s5.symm.trans c5)
     obtain ⟨kk,_⟩:=isT_kind (E:=E) hi
     have hSt:=htx _ hi
     unfold primP at hz hQ
     rw[if_neg (by omega),if_neg (by omega),if_neg (by omega)] at hQ
     simp only[(s5.symm.trans c5),if_true,if_false,Bool.false_eq_true,htl] at hQ
     have hnx:=drop_ne (isT_ne hi)
     obtain ⟨ver,v,i1,i2,i3,i4⟩:=hp1.st
     have hsm:=hp.small
     simp(disch:=(try simp only[hN]);omega)only[go_sem,simprocAttr,c5,i1,i3.1,i3.2,q1,q0]
     refine hQ _ .nilSlice (nx+1) rfl ⟨by (try simp only[hN]);omega,fun b hb hne=>by (try simp only[hN] at hb hne);simp(disch:=(try simp only[hN]);omega)only[go_sem,simprocAttr,hfo]⟩ (hp1.step2 (ver':=ver+1) (by simp only[hN];omega) (fun b hb=>by simp(disch:=(try simp only[hN]);omega)only[go_sem,simprocAttr]) hnx i1 (by (first|(simp(disch:=(try simp only[hN]);omega)only[go_sem,simprocAttr];done)|(simp(disch:=(try simp only[hN]);omega)only[go_sem,simprocAttr];rfl)))) .nil
    cases c6:(S==[102,97,108,115,101])
    case true=>
     have hi:=(s6.symm.trans c6)
     obtain ⟨kk,_⟩:=isT_kind (E:=E) hi
     have hSt:=htx _ hi
     unfold primP at hz hQ
     rw[if_neg (by omega),if_neg (by omega),if_neg (by omega)] at hQ
     simp only[(s5.symm.trans c5),(s6.symm.trans c6),if_true,if_false,Bool.false_eq_true,htl] at hQ
     have hnx:=drop_ne (isT_ne hi)
     obtain ⟨ver,v,i1,i2,i3,i4⟩:=hp1.st
     have hsm:=hp.small
     simp(disch:=(try simp only[hN]);omega)only[go_sem,simprocAttr,c5,c6,i1,i3.1,i3.2,q1,q0]
     refine hQ _ .nilSlice (nx+1) rfl ⟨by (try simp only[hN]);omega,fun b hb hne=>by (try simp only[hN] at hb hne);simp(disch:=(try simp only[hN]);omega)only[go_sem,simprocAttr,hfo]⟩ (hp1.step2 (ver':=ver+1) (by simp only[hN];omega) (fun b hb=>by simp(disch:=(try simp only[hN]);omega)only[go_sem,simprocAttr]) hnx i1 (by (first|(simp(disch:=(try simp only[hN]);omega)only[go_sem,simprocAttr];done)|(simp(disch:=(try simp only[hN]);omega)only[go_sem,simprocAttr];rfl)))) .nil
    have n3:isT [[105,110,116],[102,108,111,97,116]] (all.drop nx)=false:=by rw[isT_two,←s3,←s4,c3,c4];rfl
    have n5:isT [[116,114,117,101]] (all.drop nx)=false:=by rw[←s5,c5]
    have n6:isT [[102,97,108,115,101]] (all.drop nx)=false:=by rw[←s6,c6]
    simp(disch:=(try simp only[hN]);omega)only[go_sem,simprocAttr,c5,c6]
    refine kind_tok hp1 ?_
    simp only[kindT,if_true]
    by_cases k3:(hdT E (all.drop nx)).kind=3
    ·have kN:=k3
     have ek:(((hdT E (all.drop nx)).kind:Int)==3)=true:=by simp;omega
     simp(disch:=(try simp only[hN]);omega)only[go_sem,simprocAttr,ek]
     have hpr:primP E x lv (all.drop nx)=.ok (.mk 25 (hdT E (all.drop nx)).pos [] 0 (hdT E (all.drop nx)).n 0 0 0 [],all.drop (nx+1)):=by
      unfold primP
      rw[if_pos kN]
      rw[htl]
     rw[hpr] at hQ
     refine token_tok (k:=3) (by decide) (show RInv h1 r E all nx 0 q from hp1) ?_
     unfold TokQ'
     rw[if_pos rfl,if_pos kN]
     intro h2 hf2 hp2
     have hn2:=hf2.n;try simp only[hN] at hn2
     have r1:=(hf2.old (h.n+1) (by omega) (by omega)).trans q1
     have r0:=(hf2.old h.n (by omega) (by omega)).trans q0
     simp(disch:=(try simp only[hN]);omega)only[go_sem,simprocAttr,tokAV,r1,r0]
     exact hQ _ .nilSlice (nx+1) rfl ⟨by (try simp only[hN]);omega,fun b hb hne=>by (try simp only[hN] at hb hne);simp(disch:=(try simp only[hN]);omega)only[go_sem,simprocAttr,hf2.old,hfo]⟩ (hp2.le (by simp only[hN];omega) fun b hb=>by simp(disch:=(try simp only[hN]);omega)only[go_sem,simprocAttr]) .nil
    have ek3:(((hdT E (all.drop nx)).kind:Int)==3)=false:=by simp;omega
    simp(disch:=(try simp only[hN]);omega)only[go_sem,simprocAttr,ek3]
    refine kind_tok hp1 ?_
    simp only[kindT,if_true]
    by_cases k4:(hdT E (all.drop nx)).kind=4
    ·have kN:=k4
     have ek:(((hdT E (all.drop nx)).kind:Int)==4)=true:=by simp;omega
     simp(disch:=(try simp only[hN]);omega)only[go_sem,simprocAttr,ek]
     have hpr:primP E x lv (all.drop nx)=.ok (.mk 26 (hdT E (all.drop nx)).pos [] 0 0 0 0 (hdT E (all.drop nx)).bits [],all.drop (nx+1)):=by
      unfold primP
      rw[if_neg k3,if_pos kN]
      rw[htl]
     rw[hpr] at hQ
     refine token_tok (k:=4) (by decide) (show RInv h1 r E all nx 0 q from hp1) ?_
     unfold TokQ'
     rw[if_pos rfl,if_pos kN]
     intro h2 hf2 hp2
     have hn2:=hf2.n;try simp only[hN] at hn2
     have r1:=(hf2.old (h.n+1) (by omega) (by omega)).trans q1
     have r0:=(hf2.old h.n (by omega) (by omega)).trans q0
     simp(disch:=(try simp only[hN]);omega)only[go_sem,simprocAttr,tokAV,r1,r0]
     exact hQ _ .nilSlice (nx+1) rfl ⟨by (try simp only[hN]);omega,fun b hb hne=>by (try simp only[hN] at hb hne);simp(disch:=(try simp only[hN]);omega)only[go_sem,simprocAttr,hf2.old,hfo]⟩ (hp2.le (by simp only[hN];omega) fun b hb=>by simp(disch:=(try simp only[hN]);omega)only[go_sem,simprocAttr]) .nil
    have ek4:(((hdT E (all.drop nx)).kind:Int)==4)=false:=by simp;omega
    simp(disch:=(try simp only[hN]);omega)only[go_sem,simprocAttr,ek4]
    refine kind_tok hp1 ?_
    simp only[kindT,if_true]
    by_cases k1':(hdT E (all.drop nx)).kind=1
    ·have ek:(((hdT E (all.drop nx)).kind:Int)==1)=true:=by simp;omega
     have hpr:primP E x lv (all.drop nx)=nameP E x lv (all.drop nx):=by
      unfold primP
      rw[if_neg k3,if_neg k4,if_pos k1']
     rw[hpr] at hz hQ
     simp(disch:=(try simp only[hN]);omega)only[go_sem,simprocAttr,ek]
     refine rtarget_tok hx hxe hlv hp1 k1' hz (RQ.all hz ((nameP_errP hxe).ne hz) ?_)
     intro h2 m kv nx2 e2 p2 hf2 hp2 f1 f2 hc
     have hn2:=hf2.n;try simp only[hN] at hn2
     have r0:=(hf2.old h.n (by omega) (by omega)).trans q0
     simp(disch:=(try simp only[hN]);omega)only[go_sem,simprocAttr,r0,f1,f2]
     refine hQ.use (nx':=nx2) (e:=e2) (p:=p2) ⟨by (try simp only[hN]);omega,fun b hb hne=>by (try simp only[hN] at hb hne);simp(disch:=(try simp only[hN]);omega)only[go_sem,simprocAttr,hf2.old,hfo]⟩ (hp2.le (by simp only[hN];omega) fun b hb=>by simp(disch:=(try simp only[hN]);omega)only[go_sem,simprocAttr]) f1 f2 (hc.imp (fun g=>⟨g.1,g.2.1,?_,g.2.2.2⟩) id)
     exact g.2.2.1.keep (by omega) (by simp only[hN];omega) fun b hb1 hb2=>by simp(disch:=(try simp only[hN]);omega)only[go_sem,simprocAttr]
    have ek1:(((hdT E (all.drop nx)).kind:Int)==1)=false:=by simp;omega
    have hpr:primP E x lv (all.drop nx)=inP E [40] [41] x lv (all.drop nx):=by
     unfold primP
     rw[if_neg k3,if_neg k4,if_neg k1',n5,n6,n3]
     rfl
    rw[hpr] at hz hQ
    simp(disch:=(try simp only[hN]);omega)only[go_sem,simprocAttr,ek1]
    refine level_tok (by simp) hlv hp1 ?_
    unfold LevQ
    rw[if_pos rfl]
    unfold inP at hz hQ
    by_cases hb:isT [[40]] (all.drop nx)=true
    ·rw[if_pos hb] at hz hQ ⊢
     by_cases h16:lv=16
     ·rw[if_pos h16] at hQ ⊢
      intro h3 hf3 hp3
      have hn3:=hf3.n;try simp only[hN] at hn3
      have r03:=(hf3.old h.n (by omega) (by omega)).trans q0
      simp(disch:=(try simp only[hN]);omega)only[go_sem,simprocAttr]
      refine rexpr_bad hp3 (by decide) ?_
      intro h4 hf4
      have hn4:=hf4.n;try simp only[hN] at hn4
      have r04:=(hf4.all (b:=h.n) (by omega)).trans r03
      simp(disch:=(try simp only[hN]);omega)only[go_sem,simprocAttr]
      refine eat_tok (by simp) (show RInv _ r E all nx _ _ from (hp3.fr hf4).le (by simp only[hN];omega) fun b hb=>by simp(disch:=(try simp only[hN]);omega)only[go_sem,simprocAttr]) ?_
      unfold EatQ
      rw[if_neg (by decide)]
      intro h5 hf5 hp5
      have hn5:=hf5.n;try simp only[hN] at hn5
      simp(disch:=(try simp only[hN]);omega)only[go_sem,simprocAttr,hf5.old,r04]
      exact hQ _ (.mk 0 0 [] 0 0 0 0 0 []) _ _ (by decide) ⟨by (try simp only[hN]);omega,fun b hb hne=>by (try simp only[hN] at hb hne);simp(disch:=(try simp only[hN]);omega)only[go_sem,simprocAttr,hf5.old,hf4.old,hf3.old,hfo]⟩ (hp5.le (by simp only[hN];omega) fun b hb=>by simp(disch:=(try simp only[hN]);omega)only[go_sem,simprocAttr]) rfl rfl
     ·rw[if_neg h16] at hz hQ ⊢
      rw[htl] at hz hQ
      have hz2:x (lv+1) (all.drop (nx+1))≠.error (0,0):=by intro e;rw[e] at hz;exact hz rfl
      intro h3 hf3 hp3
      have hn3:=hf3.n;try simp only[hN] at hn3
      have r03:=(hf3.old h.n (by omega) (by omega)).trans q0
      simp(disch:=(try simp only[hN]);omega)only[go_sem,simprocAttr,el]
      refine hx (lv:=lv+1) (by omega) hp3 hz2 (RQ.all hz2 (hxe.ne hz2) ?_)
      intro h4 m kv nx4 e4 p4 hf4 hp4 f1 f2 hc
      have hn4:=hf4.n;try simp only[hN] at hn4
      have r04:=(hf4.old h.n (by omega) (by omega)).trans r03
      simp(disch:=(try simp only[hN]);omega)only[go_sem,simprocAttr,f1,f2]
      refine eat_tok (by simp) (show RInv _ r E all nx4 e4 p4 from hp4.le (by simp only[hN];omega) fun b hb=>by simp(disch:=(try simp only[hN]);omega)only[go_sem,simprocAttr]) ?_
      unfold EatQ
      rcases hc with ⟨rfl,rfl,hk,hxx⟩|⟨he,hxx⟩
      ·rw[hxx] at hQ hz
       simp only at hQ hz
       rw[if_pos rfl]
       by_cases hb:isT [[41]] (all.drop nx4)=true
       ·rw[if_pos hb] at hQ ⊢
        intro h5 hf5 hp5
        have hn5:=hf5.n;try simp only[hN] at hn5
        simp(disch:=(try simp only[hN]);omega)only[go_sem,simprocAttr,hf5.old,r04,f1,f2]
        refine hQ _ _ (nx4+1) List.tail_drop.symm ⟨by (try simp only[hN]);omega,fun b hb hne=>by (try simp only[hN] at hb hne);simp(disch:=(try simp only[hN]);omega)only[go_sem,simprocAttr,hf5.old,hf4.old,hf3.old,hfo]⟩ (hp5.le (by simp only[hN];omega) fun b hb=>by simp(disch:=(try simp only[hN]);omega)only[go_sem,simprocAttr]) ?_
        exact hk.keep (by omega) (by simp only[hN];omega) fun b hb1 hb2=>by simp(disch:=(try simp only[hN]);omega)only[go_sem,simprocAttr,hf5.old]
       ·rw[if_neg hb] at hQ ⊢
        intro h5 hf5 hp5
        have hn5:=hf5.n;try simp only[hN] at hn5
        simp(disch:=(try simp only[hN]);omega)only[go_sem,simprocAttr,hf5.old,r04,f1,f2]
        exact hQ _ m _ _ (by decide) ⟨by (try simp only[hN]);omega,fun b hb hne=>by (try simp only[hN] at hb hne);simp(disch:=(try simp only[hN]);omega)only[go_sem,simprocAttr,hf5.old,hf4.old,hf3.old,hfo]⟩ (hp5.le (by simp only[hN];omega) fun b hb=>by simp(disch:=(try simp only[hN]);omega)only[go_sem,simprocAttr]) f1 f2
      ·rw[hxx] at hQ
       rw[if_neg he]
       intro h5 hf5 hp5
       have hn5:=hf5.n;try simp only[hN] at hn5
       simp(disch:=(try simp only[hN]);omega)only[go_sem,simprocAttr,hf5.old,r04,f1,f2]
       exact hQ _ m _ _ he ⟨by (try simp only[hN]);omega,fun b hb hne=>by (try simp only[hN] at hb hne);simp(disch:=(try simp only[hN]);omega)only[go_sem,simprocAttr,hf5.old,hf4.old,hf3.old,hfo]⟩ (hp5.le (by simp only[hN];omega) fun b hb=>by simp(disch:=(try simp only[hN]);omega)only[go_sem,simprocAttr]) f1 f2
    ·rw[if_neg hb] at hz hQ ⊢
     intro h3 hf3 hp3
     have hn3:=hf3.n;try simp only[hN] at hn3
     have r03:=(hf3.old h.n (by omega) (by omega)).trans q0
     simp(disch:=(try simp only[hN]);omega)only[go_sem,simprocAttr]
     refine rexpr_bad hp3 (by decide) ?_
     intro h4 hf4
     have hn4:=hf4.n;try simp only[hN] at hn4
     have r04:=(hf4.all (b:=h.n) (by omega)).trans r03
     simp(disch:=(try simp only[hN]);omega)only[go_sem,simprocAttr]
     refine eat_tok (by simp) (show RInv _ r E all nx _ _ from (hp3.fr hf4).le (by simp only[hN];omega) fun b hb=>by simp(disch:=(try simp only[hN]);omega)only[go_sem,simprocAttr]) ?_
     unfold EatQ
     rw[if_neg (by decide)]
     intro h5 hf5 hp5
     have hn5:=hf5.n;try simp only[hN] at hn5
     simp(disch:=(try simp only[hN]);omega)only[go_sem,simprocAttr,hf5.old,r04]
     exact hQ _ (.mk 0 0 [] 0 0 0 0 0 []) _ _ (by decide) ⟨by (try simp only[hN]);omega,fun b hb hne=>by (try simp only[hN] at hb hne);simp(disch:=(try simp only[hN]);omega)only[go_sem,simprocAttr,hf5.old,hf4.old,hf3.old,hfo]⟩ (hp5.le (by simp only[hN];omega) fun b hb=>by simp(disch:=(try simp only[hN]);omega)only[go_sem,simprocAttr]) rfl rfl
   ·simp(disch:=(try simp only[hN]);omega)only[go_sem,simprocAttr,c3,c4]
    have hi:isT [[105,110,116],[102,108,111,97,116]] (all.drop nx)=true:=by rw[isT_two,←s3,←s4];simp [c4]
    obtain ⟨kk,_⟩:=isT_kind (E:=E) hi
    have hSt:=htx _ hi
    have n5:isT [[116,114,117,101]] (all.drop nx)=false:=by rw[←s5];simp [beq_iff_eq.1 c4]
    have n6:isT [[102,97,108,115,101]] (all.drop nx)=false:=by rw[←s6];simp [beq_iff_eq.1 c4]
    unfold primP at hz hQ
    rw[if_neg (by omega),if_neg (by omega),if_neg (by omega),n5,n6,hi] at hz hQ
    simp only[Bool.false_eq_true,if_false,if_true,htl] at hz hQ
    have hnx:=drop_ne (isT_ne hi)
    obtain ⟨ver,v,i1,i2,i3,i4⟩:=hp1.st
    have hsm:=hp.small
    rw[←hSt] at hQ
    simp(disch:=(try simp only[hN]);omega)only[go_sem,simprocAttr,c3,c4,i1,i3.1,i3.2,q1]
    generalize hI:AHeap.upd (AHeap.upd _ _ _ _) (h.n+1) _ _=I
    have hIn:I.n=h1.n:=by rw[←hI];simp(disch:=(try simp only[hN]);omega)only[go_sem,simprocAttr]
    have hI1:I.get (h.n+1)=some ⟨3,.cells .own 0 [.int .i64 30,.int .i64 ((hdT E (all.drop nx)).pos:Int),.str S,.int .i64 0,.int .i64 0,.int .i64 0,.int .i64 0,.int .u64 0,.nilSlice]⟩:=by rw[←hI];simp(disch:=(try simp only[hN]);omega)only[go_sem,simprocAttr]
    have hI0:I.get h.n=some ⟨0,.cells .own 0 zN⟩:=by rw[←hI];simp(disch:=(try simp only[hN]);omega)only[go_sem,simprocAttr,q0]
    have hIf:∀b',b'<h.n→b'≠r→I.get b'=h.get b':=fun b' hb1 hb2=>by rw[←hI];simp(disch:=(try simp only[hN]);omega)only[go_sem,simprocAttr,hfo]
    have hpI:RInv I r E all (nx+1) 0 q:=hp1.step2 (ver':=ver+1) (by omega) (fun b hb=>by rw[←hI];simp(disch:=(try simp only[hN]);omega)only[go_sem,simprocAttr]) hnx i1 (by rw[←hI];(first|(simp(disch:=(try simp only[hN]);omega)only[go_sem,simprocAttr];done)|(simp(disch:=(try simp only[hN]);omega)only[go_sem,simprocAttr];rfl)))
    clear hI i1 i2 i3 i4 hp1
    refine level_tok (by simp) hlv hpI ?_
    unfold LevQ
    rw[if_pos rfl]
    unfold inP at hz hQ
    by_cases hb:isT [[40]] (all.drop (nx+1))=true
    ·rw[if_pos hb] at hz hQ ⊢
     by_cases h16:lv=16
     ·rw[if_pos h16] at hQ ⊢
      intro h3 hf3 hp3
      have hn3:=hf3.n;try simp only[hN] at hn3
      have r13:=(hf3.old (h.n+1) (by omega) (by omega)).trans hI1
      have r03:=(hf3.old h.n (by omega) (by omega)).trans hI0
      have hfo3:∀b',b'<h.n→b'≠r→h3.get b'=h.get b':=fun b' hb1 hb2=>by rw[hf3.old b' (by omega) hb2,hIf b' hb1 hb2]
      simp(disch:=(try simp only[hN]);omega)only[go_sem,simprocAttr]
      refine rexpr_bad hp3 (by decide) ?_
      intro h4 hf4
      have hn4:=hf4.n;try simp only[hN] at hn4
      have r14:=(hf4.all (b:=h.n+1) (by omega)).trans r13
      have r04:=(hf4.all (b:=h.n) (by omega)).trans r03
      simp(disch:=(try simp only[hN]);omega)only[go_sem,simprocAttr,r14]
      refine eat_tok (by simp) (show RInv _ r E all (nx+1) _ _ from (hp3.fr hf4).le (by simp only[hN];omega) fun b hb=>by simp(disch:=(try simp only[hN]);omega)only[go_sem,simprocAttr]) ?_
      unfold EatQ
      rw[if_neg (by decide)]
      intro h5 hf5 hp5
      have hn5:=hf5.n;try simp only[hN] at hn5
      simp(disch:=(try simp only[hN]);omega)only[go_sem,simprocAttr,hf5.old,r04]
      exact hQ _ (.mk 30 (hdT E (all.drop nx)).pos S 0 0 0 0 0 []) _ _ (by decide) ⟨by (try simp only[hN]);omega,fun b hb hne=>by (try simp only[hN] at hb hne);simp(disch:=(try simp only[hN]);omega)only[go_sem,simprocAttr,hf5.old,hf4.old,hfo3]⟩ (hp5.le (by simp only[hN];omega) fun b hb=>by simp(disch:=(try simp only[hN]);omega)only[go_sem,simprocAttr]) rfl rfl
     ·rw[if_neg h16] at hz hQ ⊢
      have htl2:(all.drop (nx+1)).tail=all.drop (nx+1+1):=List.tail_drop
      rw[htl2] at hz hQ
      have hz2:x (lv+1) (all.drop (nx+1+1))≠.error (0,0):=by intro e;rw[e] at hz;exact hz rfl
      intro h3 hf3 hp3
      have hn3:=hf3.n;try simp only[hN] at hn3
      have r13:=(hf3.old (h.n+1) (by omega) (by omega)).trans hI1
      have r03:=(hf3.old h.n (by omega) (by omega)).trans hI0
      have hfo3:∀b',b'<h.n→b'≠r→h3.get b'=h.get b':=fun b' hb1 hb2=>by rw[hf3.old b' (by omega) hb2,hIf b' hb1 hb2]
      simp(disch:=(try simp only[hN]);omega)only[go_sem,simprocAttr,el]
      refine hx (lv:=lv+1) (by omega) hp3 hz2 (RQ.all hz2 (hxe.ne hz2) ?_)
      intro h4 m kv nx4 e4 p4 hf4 hp4 k1 k2 hc
      have hn4:=hf4.n;try simp only[hN] at hn4
      have r14:=(hf4.old (h.n+1) (by omega) (by omega)).trans r13
      have r04:=(hf4.old h.n (by omega) (by omega)).trans r03
      simp(disch:=(try simp only[hN]);omega)only[go_sem,simprocAttr,r14,k1,k2]
      refine eat_tok (by simp) (show RInv _ r E all nx4 e4 p4 from hp4.le (by simp only[hN];omega) fun b hb=>by simp(disch:=(try simp only[hN]);omega)only[go_sem,simprocAttr]) ?_
      unfold EatQ
      rcases hc with ⟨rfl,rfl,hk,hxx⟩|⟨he,hxx⟩
      ·rw[hxx] at hQ hz
       simp only at hQ hz
       rw[if_pos rfl]
       by_cases hb:isT [[41]] (all.drop nx4)=true
       ·rw[if_pos hb] at hQ ⊢
        intro h5 hf5 hp5
        have hn5:=hf5.n;try simp only[hN] at hn5
        simp(disch:=(try simp only[hN]);omega)only[go_sem,simprocAttr,hf5.old,r04]
        refine hQ _ _ (nx4+1) List.tail_drop.symm ⟨by (try simp only[hN]);omega,fun b hb hne=>by (try simp only[hN] at hb hne);simp(disch:=(try simp only[hN]);omega)only[go_sem,simprocAttr,hf5.old,hf4.old,hfo3]⟩ (hp5.le (by simp only[hN];omega) fun b hb=>by simp(disch:=(try simp only[hN]);omega)only[go_sem,simprocAttr]) ?_
        exact KidsR.one (ver:=0) (kv:=kv) (hk.keep (by omega) (by simp only[hN];omega) fun b hb1 hb2=>by simp(disch:=(try simp only[hN]);omega)only[go_sem,simprocAttr,hf5.old]) (by omega) (by simp only[hN];omega) (by simp(disch:=(try simp only[hN]);omega)only[go_sem,simprocAttr,hf5.old])
       ·rw[if_neg hb] at hQ ⊢
        intro h5 hf5 hp5
        have hn5:=hf5.n;try simp only[hN] at hn5
        simp(disch:=(try simp only[hN]);omega)only[go_sem,simprocAttr,hf5.old,r04]
        exact hQ _ (.mk 30 (hdT E (all.drop nx)).pos S 0 0 0 0 0 []) _ _ (by decide) ⟨by (try simp only[hN]);omega,fun b hb hne=>by (try simp only[hN] at hb hne);simp(disch:=(try simp only[hN]);omega)only[go_sem,simprocAttr,hf5.old,hf4.old,hfo3]⟩ (hp5.le (by simp only[hN];omega) fun b hb=>by simp(disch:=(try simp only[hN]);omega)only[go_sem,simprocAttr]) rfl rfl
      ·rw[hxx] at hQ
       rw[if_neg he]
       intro h5 hf5 hp5
       have hn5:=hf5.n;try simp only[hN] at hn5
       simp(disch:=(try simp only[hN]);omega)only[go_sem,simprocAttr,hf5.old,r04]
       exact hQ _ (.mk 30 (hdT E (all.drop nx)).pos S 0 0 0 0 0 []) _ _ he ⟨by (try simp only[hN]);omega,fun b hb hne=>by (try simp only[hN] at hb hne);simp(disch:=(try simp only[hN]);omega)only[go_sem,simprocAttr,hf5.old,hf4.old,hfo3]⟩ (hp5.le (by simp only[hN];omega) fun b hb=>by simp(disch:=(try simp only[hN]);omega)only[go_sem,simprocAttr]) rfl rfl
    ·rw[if_neg hb] at hz hQ ⊢
     intro h3 hf3 hp3
     have hn3:=hf3.n;try simp only[hN] at hn3
     have r13:=(hf3.old (h.n+1) (by omega) (by omega)).trans hI1
     have r03:=(hf3.old h.n (by omega) (by omega)).trans hI0
     have hfo3:∀b',b'<h.n→b'≠r→h3.get b'=h.get b':=fun b' hb1 hb2=>by rw[hf3.old b' (by omega) hb2,hIf b' hb1 hb2]
     simp(disch:=(try simp only[hN]);omega)only[go_sem,simprocAttr]
     refine rexpr_bad hp3 (by decide) ?_
     intro h4 hf4
     have hn4:=hf4.n;try simp only[hN] at hn4
     have r14:=(hf4.all (b:=h.n+1) (by omega)).trans r13
     have r04:=(hf4.all (b:=h.n) (by omega)).trans r03
     simp(disch:=(try simp only[hN]);omega)only[go_sem,simprocAttr,r14]
     refine eat_tok (by simp) (show RInv _ r E all (nx+1) _ _ from (hp3.fr hf4).le (by simp only[hN];omega) fun b hb=>by simp(disch:=(try simp only[hN]);omega)only[go_sem,simprocAttr]) ?_
     unfold EatQ
     rw[if_neg (by decide)]
     intro h5 hf5 hp5
     have hn5:=hf5.n;try simp only[hN] at hn5
     simp(disch:=(try simp only[hN]);omega)only[go_sem,simprocAttr,hf5.old,r04]
     exact hQ _ (.mk 30 (hdT E (all.drop nx)).pos S 0 0 0 0 0 []) _ _ (by decide) ⟨by (try simp only[hN]);omega,fun b hb hne=>by (try simp only[hN] at hb hne);simp(disch:=(try simp only[hN]);omega)only[go_sem,simprocAttr,hf5.old,hf4.old,hfo3]⟩ (hp5.le (by simp only[hN];omega) fun b hb=>by simp(disch:=(try simp only[hN]);omega)only[go_sem,simprocAttr]) rfl rfl
  ·simp(disch:=(try simp only[hN]);omega)only[go_sem,simprocAttr,c3]
   have hi:isT [[105,110,116],[102,108,111,97,116]] (all.drop nx)=true:=by rw[isT_two,←s3,←s4];simp [c3]
   obtain ⟨kk,_⟩:=isT_kind (E:=E) hi
   have hSt:=htx _ hi
   have n5:isT [[116,114,117,101]] (all.drop nx)=false:=by rw[←s5];simp [beq_iff_eq.1 c3]
   have n6:isT [[102,97,108,115,101]] (all.drop nx)=false:=by rw[←s6];simp [beq_iff_eq.1 c3]
   unfold primP at hz hQ
   rw[if_neg (by omega),if_neg (by omega),if_neg (by omega),n5,n6,hi] at hz hQ
   simp only[Bool.false_eq_true,if_false,if_true,htl] at hz hQ
   have hnx:=drop_ne (isT_ne hi)
   obtain ⟨ver,v,i1,i2,i3,i4⟩:=hp1.st
   have hsm:=hp.small
   rw[←hSt] at hQ
   simp(disch:=(try simp only[hN]);omega)only[go_sem,simprocAttr,c3,i1,i3.1,i3.2,q1]
   generalize hI:AHeap.upd (AHeap.upd _ _ _ _) (h.n+1) _ _=I
   have hIn:I.n=h1.n:=by rw[←hI];simp(disch:=(try simp only[hN]);omega)only[go_sem,simprocAttr]
   have hI1:I.get (h.n+1)=some ⟨3,.cells .own 0 [.int .i64 30,.int .i64 ((hdT E (all.drop nx)).pos:Int),.str S,.int .i64 0,.int .i64 0,.int .i64 0,.int .i64 0,.int .u64 0,.nilSlice]⟩:=by rw[←hI];simp(disch:=(try simp only[hN]);omega)only[go_sem,simprocAttr]
   have hI0:I.get h.n=some ⟨0,.cells .own 0 zN⟩:=by rw[←hI];simp(disch:=(try simp only[hN]);omega)only[go_sem,simprocAttr,q0]
   have hIf:∀b',b'<h.n→b'≠r→I.get b'=h.get b':=fun b' hb1 hb2=>by rw[←hI];simp(disch:=(try simp only[hN]);omega)only[go_sem,simprocAttr,hfo]
   have hpI:RInv I r E all (nx+1) 0 q:=hp1.step2 (ver':=ver+1) (by omega) (fun b hb=>by rw[←hI];simp(disch:=(try simp only[hN]);omega)only[go_sem,simprocAttr]) hnx i1 (by rw[←hI];(first|(simp(disch:=(try simp only[hN]);omega)only[go_sem,simprocAttr];done)|(simp(disch:=(try simp only[hN]);omega)only[go_sem,simprocAttr];rfl)))
   clear hI i1 i2 i3 i4 hp1
   refine level_tok (by simp) hlv hpI ?_
   unfold LevQ
   rw[if_pos rfl]
   unfold inP at hz hQ
   by_cases hb:isT [[40]] (all.drop (nx+1))=true
   ·rw[if_pos hb] at hz hQ ⊢
    by_cases h16:lv=16
    ·rw[if_pos h16] at hQ ⊢
     intro h3 hf3 hp3
     have hn3:=hf3.n;try simp only[hN] at hn3
     have r13:=(hf3.old (h.n+1) (by omega) (by omega)).trans hI1
     have r03:=(hf3.old h.n (by omega) (by omega)).trans hI0
     have hfo3:∀b',b'<h.n→b'≠r→h3.get b'=h.get b':=fun b' hb1 hb2=>by rw[hf3.old b' (by omega) hb2,hIf b' hb1 hb2]
     simp(disch:=(try simp only[hN]);omega)only[go_sem,simprocAttr]
     refine rexpr_bad hp3 (by decide) ?_
     intro h4 hf4
     have hn4:=hf4.n;try simp only[hN] at hn4
     have r14:=(hf4.all (b:=h.n+1) (by omega)).trans r13
     have r04:=(hf4.all (b:=h.n) (by omega)).trans r03
     simp(disch:=(try simp only[hN]);omega)only[go_sem,simprocAttr,r14]
     refine eat_tok (by simp) (show RInv _ r E all (nx+1) _ _ from (hp3.fr hf4).le (by simp only[hN];omega) fun b hb=>by simp(disch:=(try simp only[hN]);omega)only[go_sem,simprocAttr]) ?_
     unfold EatQ
     rw[if_neg (by decide)]
     intro h5 hf5 hp5
     have hn5:=hf5.n;try simp only[hN] at hn5
     simp(disch:=(try simp only[hN]);omega)only[go_sem,simprocAttr,hf5.old,r04]
     exact hQ _ (.mk 30 (hdT E (all.drop nx)).pos S 0 0 0 0 0 []) _ _ (by decide) ⟨by (try simp only[hN]);omega,fun b hb hne=>by (try simp only[hN] at hb hne);simp(disch:=(try simp only[hN]);omega)only[go_sem,simprocAttr,hf5.old,hf4.old,hfo3]⟩ (hp5.le (by simp only[hN];omega) fun b hb=>by simp(disch:=(try simp only[hN]);omega)only[go_sem,simprocAttr]) rfl rfl
    ·rw[if_neg h16] at hz hQ ⊢
     have htl2:(all.drop (nx+1)).tail=all.drop (nx+1+1):=List.tail_drop
     rw[htl2] at hz hQ
     have hz2:x (lv+1) (all.drop (nx+1+1))≠.error (0,0):=by intro e;rw[e] at hz;exact hz rfl
     intro h3 hf3 hp3
     have hn3:=hf3.n;try simp only[hN] at hn3
     have r13:=(hf3.old (h.n+1) (by omega) (by omega)).trans hI1
     have r03:=(hf3.old h.n (by omega) (by omega)).trans hI0
     have hfo3:∀b',b'<h.n→b'≠r→h3.get b'=h.get b':=fun b' hb1 hb2=>by rw[hf3.old b' (by omega) hb2,hIf b' hb1 hb2]
     simp(disch:=(try simp only[hN]);omega)only[go_sem,simprocAttr,el]
     refine hx (lv:=lv+1) (by omega) hp3 hz2 (RQ.all hz2 (hxe.ne hz2) ?_)
     intro h4 m kv nx4 e4 p4 hf4 hp4 k1 k2 hc
     have hn4:=hf4.n;try simp only[hN] at hn4
     have r14:=(hf4.old (h.n+1) (by omega) (by omega)).trans r13
     have r04:=(hf4.old h.n (by omega) (by omega)).trans r03
     simp(disch:=(try simp only[hN]);omega)only[go_sem,simprocAttr,r14,k1,k2]
     refine eat_tok (by simp) (show RInv _ r E all nx4 e4 p4 from hp4.le (by simp only[hN];omega) fun b hb=>by simp(disch:=(try simp only[hN]);omega)only[go_sem,simprocAttr]) ?_
     unfold EatQ
     rcases hc with ⟨rfl,rfl,hk,hxx⟩|⟨he,hxx⟩
     ·rw[hxx] at hQ hz
      simp only at hQ hz
      rw[if_pos rfl]
      by_cases hb:isT [[41]] (all.drop nx4)=true
      ·rw[if_pos hb] at hQ ⊢
       intro h5 hf5 hp5
       have hn5:=hf5.n;try simp only[hN] at hn5
       simp(disch:=(try simp only[hN]);omega)only[go_sem,simprocAttr,hf5.old,r04]
       refine hQ _ _ (nx4+1) List.tail_drop.symm ⟨by (try simp only[hN]);omega,fun b hb hne=>by (try simp only[hN] at hb hne);simp(disch:=(try simp only[hN]);omega)only[go_sem,simprocAttr,hf5.old,hf4.old,hfo3]⟩ (hp5.le (by simp only[hN];omega) fun b hb=>by simp(disch:=(try simp only[hN]);omega)only[go_sem,simprocAttr]) ?_
       exact KidsR.one (ver:=0) (kv:=kv) (hk.keep (by omega) (by simp only[hN];omega) fun b hb1 hb2=>by simp(disch:=(try simp only[hN]);omega)only[go_sem,simprocAttr,hf5.old]) (by omega) (by simp only[hN];omega) (by simp(disch:=(try simp only[hN]);omega)only[go_sem,simprocAttr,hf5.old])
      ·rw[if_neg hb] at hQ ⊢
       intro h5 hf5 hp5
       have hn5:=hf5.n;try simp only[hN] at hn5
       simp(disch:=(try simp only[hN]);omega)only[go_sem,simprocAttr,hf5.old,r04]
       exact hQ _ (.mk 30 (hdT E (all.drop nx)).pos S 0 0 0 0 0 []) _ _ (by decide) ⟨by (try simp only[hN]);omega,fun b hb hne=>by (try simp only[hN] at hb hne);simp(disch:=(try simp only[hN]);omega)only[go_sem,simprocAttr,hf5.old,hf4.old,hfo3]⟩ (hp5.le (by simp only[hN];omega) fun b hb=>by simp(disch:=(try simp only[hN]);omega)only[go_sem,simprocAttr]) rfl rfl
     ·rw[hxx] at hQ
      rw[if_neg he]
      intro h5 hf5 hp5
      have hn5:=hf5.n;try simp only[hN] at hn5
      simp(disch:=(try simp only[hN]);omega)only[go_sem,simprocAttr,hf5.old,r04]
      exact hQ _ (.mk 30 (hdT E (all.drop nx)).pos S 0 0 0 0 0 []) _ _ he ⟨by (try simp only[hN]);omega,fun b hb hne=>by (try simp only[hN] at hb hne);simp(disch:=(try simp only[hN]);omega)only[go_sem,simprocAttr,hf5.old,hf4.old,hfo3]⟩ (hp5.le (by simp only[hN];omega) fun b hb=>by simp(disch:=(try simp only[hN]);omega)only[go_sem,simprocAttr]) rfl rfl
   ·rw[if_neg hb] at hz hQ ⊢
    intro h3 hf3 hp3
    have hn3:=hf3.n;try simp only[hN] at hn3
    have r13:=(hf3.old (h.n+1) (by omega) (by omega)).trans hI1
    have r03:=(hf3.old h.n (by omega) (by omega)).trans hI0
    have hfo3:∀b',b'<h.n→b'≠r→h3.get b'=h.get b':=fun b' hb1 hb2=>by rw[hf3.old b' (by omega) hb2,hIf b' hb1 hb2]
    simp(disch:=(try simp only[hN]);omega)only[go_sem,simprocAttr]
    refine rexpr_bad hp3 (by decide) ?_
    intro h4 hf4
    have hn4:=hf4.n;try simp only[hN] at hn4
    have r14:=(hf4.all (b:=h.n+1) (by omega)).trans r13
    have r04:=(hf4.all (b:=h.n) (by omega)).trans r03
    simp(disch:=(try simp only[hN]);omega)only[go_sem,simprocAttr,r14]
    refine eat_tok (by simp) (show RInv _ r E all (nx+1) _ _ from (hp3.fr hf4).le (by simp only[hN];omega) fun b hb=>by simp(disch:=(try simp only[hN]);omega)only[go_sem,simprocAttr]) ?_
    unfold EatQ
    rw[if_neg (by decide)]
    intro h5 hf5 hp5
    have hn5:=hf5.n;try simp only[hN] at hn5
    simp(disch:=(try simp only[hN]);omega)only[go_sem,simprocAttr,hf5.old,r04]
    exact hQ _ (.mk 30 (hdT E (all.drop nx)).pos S 0 0 0 0 0 []) _ _ (by decide) ⟨by (try simp only[hN]);omega,fun b hb hne=>by (try simp only[hN] at hb hne);simp(disch:=(try simp only[hN]);omega)only[go_sem,simprocAttr,hf5.old,hf4.old,hfo3]⟩ (hp5.le (by simp only[hN];omega) fun b hb=>by simp(disch:=(try simp only[hN]);omega)only[go_sem,simprocAttr]) rfl rfl
theorem rexprOf_tok {E:Nat} {u:PT} (hu:RSpec 32 [] E u) (hue:ErrP u):RSpec 15 [.int .i64 1] E (exprOf u):=
 rexpr_row (k:=1) (by decide) (by decide) (rowP_errP (rowP_errP (rowP_errP (rowP_errP hue)))) (rexpr_row (k:=2) (by decide) (by decide) (rowP_errP (rowP_errP (rowP_errP hue))) (rexpr_row (k:=3) (by decide) (by decide) (rowP_errP (rowP_errP hue)) (rexpr_row (k:=4) (by decide) (by decide) (rowP_errP hue) (rexpr_row (k:=5) (by decide) (by decide) hue (rexpr_un hu)))))
theorem runary_all {E:Nat} (f:Nat):RSpec 32 [] E (unP E f):=by
 induction f with
 | zero=>intro h r lv nx q all Q hlv hp hz hQ;exact absurd rfl hz
 | succ f ih=>
  have e:unP E (f+1)=(fun lv ts=>if isT [[45],[33]] ts then (if lv=16 then .error (3,(hdT E ts).pos) else match unP E f (lv+1) ts.tail with
    | .error e=>.error e
    | .ok (k,ts')=>.ok (.mk 30 (hdT E ts).pos (hdT E ts).text 0 0 0 0 0 [k],ts')) else primP E (exprOf (unP E f)) lv ts):=rfl
  intro h r lv nx q all Q hlv hp hz hQ
  rw[e] at hz hQ
  exact runary_tok ih (unP_errP f) (rexprOf_tok ih (unP_errP f)) (exprOf_errP (unP_errP f)) hlv hp hz hQ
theorem rexpr_all {E:Nat} (f:Nat):RSpec 15 [.int .i64 1] E (exprP E f):=rexprOf_tok (runary_all f) (unP_errP f)
theorem toks_err0 {N:Nat}:∀(f:Nat) (l:Bs) (n:Nat) (e p:Nat),l.length<f→toksL N f l n=.error (e,p)→e≠0:=by
 intro f l n e p hf h
 have:=toksL_err (N:=N) f l n hf
 rw[h] at this
 exact fun e0=>by have:=this.1.1;omega
theorem tokens_err0 {s:Bs} {e p:Nat} (h:tokens s=.error (e,p)):e≠0:=by
 unfold tokens at h
 split at h
 ·cases h;decide
 ·exact toks_err0 _ _ _ _ _ (by have:=(skip_suf' s).length_le;omega) h
def RReadQ (h:AHeap) (Q:QR):Except Err Nd→Prop
 | .error (e,p)=>∀h',Fr h.n h h'→Q (.ret (.tuple [.agg zN,.int .i64 (e:Int),.int .i64 (p:Int)])) h'
 | .ok n=>∀h' kv,Fr h.n h h'→KidsR h.n h' n.kids kv→Q (.ret (.tuple [.agg (ndC n kv),.int .i64 0,.int .i64 0])) h'
def StA {α:Type} (all:List Tok) (e q:Nat) (R:Except Err (α×List Tok)) (x:α) (nx' e' q':Nat):Prop:=
 (e=0→(e'=0∧q'=q∧R=.ok (x,all.drop nx'))∨(e'≠0∧R=.error (e',q')))∧(e≠0→e'=e∧q'=q)
def StM (all:List Tok) (e q:Nat) (R:Except Err (List Tok)) (nx' e' q':Nat):Prop:=
 (e=0→(e'=0∧q'=q∧R=.ok (all.drop nx'))∨(e'≠0∧R=.error (e',q')))∧(e≠0→e'=e∧q'=q)
theorem drop_tail {all:List Tok} {nx:Nat}:(all.drop nx).tail=all.drop (nx+1):=by rw[List.tail_drop]
theorem EatQ.all {h:AHeap} {r E nx e q:Nat} {all:List Tok} {w:Bs} {P:AHeap→Prop} (hP:∀h' nx' e' q',Fr r h h'→RInv h' r E all nx' e' q'→StM all e q (mustP E w (all.drop nx)) nx' e' q'→P h'):EatQ h r E all nx e q w P:=by
 unfold EatQ
 split
 ·rename_i he
  subst he
  split
  ·rename_i hi
   intro h' hf hp
   exact hP h' _ _ _ hf hp ⟨fun _=>.inl ⟨rfl,rfl,by rw[mustP,if_pos hi,drop_tail]⟩,fun h=>absurd rfl h⟩
  ·rename_i hi
   intro h' hf hp
   exact hP h' _ _ _ hf hp ⟨fun _=>.inr ⟨by decide,by rw[mustP,if_neg hi]⟩,fun h=>absurd rfl h⟩
 ·rename_i he
  intro h' hf hp
  exact hP h' _ _ _ hf hp ⟨fun h=>absurd h he,fun _=>⟨rfl,rfl⟩⟩
theorem TokQ'.all {h:AHeap} {r E nx e q k:Nat} {all:List Tok} {P:AV→AHeap→Prop} (hP:∀h' nx' e' q' (t:Tok),Fr r h h'→RInv h' r E all nx' e' q'→StA all e q (takeP E k (all.drop nx)) t nx' e' q'→P (tokAV t) h'):TokQ' h r E all nx e q k P:=by
 unfold TokQ'
 split
 ·rename_i he
  subst he
  split
  ·rename_i hi
   intro h' hf hp
   exact hP h' _ _ _ _ hf hp ⟨fun _=>.inl ⟨rfl,rfl,by rw[takeP,if_pos hi,drop_tail]⟩,fun h=>absurd rfl h⟩
  ·rename_i hi
   intro h' hf hp
   exact hP h' _ _ _ ⟨0,[],0,0,0⟩ hf hp ⟨fun _=>.inr ⟨by decide,by rw[takeP,if_neg hi]⟩,fun h=>absurd rfl h⟩
 ·rename_i he
  intro h' hf hp
  exact hP h' _ _ _ ⟨0,[],0,0,0⟩ hf hp ⟨fun h=>absurd h he,fun _=>⟨rfl,rfl⟩⟩
theorem LevQ.all {h:AHeap} {r E nx e q lv:Nat} {all:List Tok} {w:Bs} {P:AHeap→Prop} (hP:∀h' nx' e' q',Fr r h h'→RInv h' r E all nx' e' q'→StM all e q (openP E w lv (all.drop nx)) nx' e' q'→P h'):LevQ h r E all nx e q lv w P:=by
 unfold LevQ
 split
 ·rename_i he
  subst he
  split
  ·rename_i hi
   split
   ·rename_i h16
    intro h' hf hp
    exact hP h' _ _ _ hf hp ⟨fun _=>.inr ⟨by decide,by rw[openP,if_pos hi,if_pos h16]⟩,fun h=>absurd rfl h⟩
   ·rename_i h16
    intro h' hf hp
    exact hP h' _ _ _ hf hp ⟨fun _=>.inl ⟨rfl,rfl,by rw[openP,if_pos hi,if_neg h16,drop_tail]⟩,fun h=>absurd rfl h⟩
  ·rename_i hi
   intro h' hf hp
   exact hP h' _ _ _ hf hp ⟨fun _=>.inr ⟨by decide,by rw[openP,if_neg hi]⟩,fun h=>absurd rfl h⟩
 ·rename_i he
  intro h' hf hp
  exact hP h' _ _ _ hf hp ⟨fun h=>absurd h he,fun _=>⟨rfl,rfl⟩⟩
theorem rexpr_st {h:AHeap} {r E nx e q:Nat} {all:List Tok} {lv:Nat} (hlv:e=0→lv≤16) (hp:RInv h r E all nx e q) {Q:QR}
  (hQ:∀h' n kv nx' e' q',Fr r h h'→RInv h' r E all nx' e' q'→kv.flat=true→kv.cells=[kv]→StA all e q (exprT E lv (all.drop nx)) n nx' e' q'→(e'=0→KidsR h.n h' n.kids kv)→Q (.ret (.agg (ndC n kv))) h'):WF F 15 [.ptr r 0,.int .i64 1,.int .i64 (lv:Int)] h Q:=by
 by_cases he:e=0
 ·subst he
  have hz:=(exprT_fine (E:=E) lv (all.drop nx)).ne
  refine rexpr_all ((all.drop nx).length+1) (hlv rfl) hp hz ?_
  refine RQ.all hz ((exprOf_errP (unP_errP _)).ne hz) ?_
  intro h' n kv nx' e' p hf hp' k1 k2 hc
  refine hQ h' n kv nx' e' p hf hp' k1 k2 ⟨fun _=>?_,fun h=>absurd rfl h⟩ ?_
  ·rcases hc with ⟨rfl,rfl,_,hr⟩|⟨h1,hr⟩
   ·exact .inl ⟨rfl,rfl,hr⟩
   ·exact .inr ⟨h1,hr⟩
  ·intro h0
   rcases hc with ⟨_,_,hk,_⟩|⟨h1,_⟩
   ·exact hk
   ·exact absurd h0 h1
 ·refine rexpr_bad hp he ?_
  intro h' hf
  exact hQ h' (.mk 0 0 [] 0 0 0 0 0 []) .nilSlice nx e q (hf.any (Nat.le_refl _)) (hp.fr hf) rfl rfl ⟨fun h=>absurd h he,fun _=>⟨rfl,rfl⟩⟩ fun h=>absurd h he
def blkV:AV→Option Nat
 | .slice b _ _ _ _=>some b
 | _=>none
def GKids (lo:Nat) (h:AHeap) (v:AV) (ns:List Nd):Prop:=∃css,Sl 9 lo h v ns.length css∧RowsS (fun x=>lo≤x∧blkV v≠some x) h ns css
theorem GKids.nil {lo:Nat} {h:AHeap}:GKids lo h .nilSlice []:=⟨[],Sl.nil,.nil⟩
theorem GKids.flat {lo:Nat} {h:AHeap} {v:AV} {ns:List Nd} (g:GKids lo h v ns):v.flat=true∧v.cells=[v]:=by
 obtain ⟨css,h1,_⟩:=g;exact h1.flat
theorem GKids.len {lo:Nat} {h:AHeap} {v:AV} {ns:List Nd} (g:GKids lo h v ns):lenA v=some (ns.length:Int):=by
 obtain ⟨css,h1,_⟩:=g;exact h1.len
theorem GKids.keep {lo:Nat} {h h':AHeap} {v:AV} {ns:List Nd} (g:GKids lo h v ns) (hn:h.n≤h'.n) (f:∀b ver es css,lo≤b→b<h.n→h.get b=some ⟨ver,.cells es 9 css⟩→h'.get b=h.get b):GKids lo h' v ns:=by
 obtain ⟨css,⟨h0,h1⟩,h2⟩:=g
 refine ⟨css,⟨h0,h1.imp id ?_⟩,h2.keep9 (fun _ hb _=>hb) hn fun b ver md cs hb hl hg=>f b ver md cs hb.1 hl hg⟩
 rintro ⟨hp,b,ver,e,g1,g2,g3⟩
 exact ⟨hp,b,ver,e,g1,Nat.lt_of_lt_of_le g2 hn,(f b ver _ _ g1 g2 g3).trans g3⟩
theorem GKids.fr {lo r:Nat} {h h':AHeap} {v:AV} {ns:List Nd} (g:GKids lo h v ns) (f:Fr r h h') (hr:r<lo∨h.n≤r):GKids lo h' v ns:=g.keep f.n fun b _ _ _ h1 h2 _=>f.old b h2 (by omega)
theorem GKids.kids {lo:Nat} {h:AHeap} {v:AV} {ns:List Nd} (g:GKids lo h v ns) (hs:ns.length<2^61):KidsR lo h ns v:=by
 obtain ⟨css,⟨h0,h1⟩,h2⟩:=g
 rcases h1 with ⟨e,rfl⟩|⟨hp,b,ver,rfl,g1,g2,g3⟩
 ·have:ns=[]:=List.length_eq_zero_iff.1 e
  subst this;exact .nil
 ·exact KidsS.own (by intro e;rw[e] at hp;simp at hp) hs g1 g2 g3 (h2.keep9 (fun _ hb _=>hb.1) (Nat.le_refl _) fun _ _ _ _ _ _ _=>rfl)
theorem RowsS.app {S:Nat→Prop} {h:AHeap}:{ns:List Nd}→{css:List AV}→RowsS S h ns css→{n:Nd}→{kv:AV}→KidsS S h n.kids kv→RowsS S h (ns++[n]) (css++ndC n kv)
 | _,_,.nil,n,kv,k=>by
  have:=RowsS.cons k (RowsS.nil (S:=S) (h:=h))
  rwa[List.append_nil] at this
 | _,_,.cons k0 r,n,kv,k=>by
  rw[List.cons_append,List.append_assoc]
  exact .cons k0 (r.app k)
theorem Sl.app2 {es lo n bytes:Nat} {h:AHeap} {v:AV} {cs new:List AV} (s:Sl es lo h v n cs) (hlo:lo≤h.n) (hnew:new.length=es) (hflat:allFlat new=true) (hroom:(n+1)*bytes≤room) (hn:n+1≤room) :
  ∃h',appendA h es bytes v 1 new=some (.slice h.n 0 (n+1) (n+1) false,h')∧Sl es lo h' (.slice h.n 0 (n+1) (n+1) false) (n+1) (cs++new)∧h'.n=h.n+1∧h'.get h.n=some ⟨0,.cells .own es (cs++new)⟩∧∀b,b<h.n→blkV v≠some b→h'.get b=h.get b:=by
 obtain ⟨hl,⟨rfl,rfl⟩|⟨hpos,b,ver,rfl,h1,h2,h3⟩⟩:=s
 ·have hcs:cs=[]:=List.length_eq_zero_iff.1 (by simpa using hl)
  subst hcs
  refine ⟨h.alloc (.cells .own es new),?_,⟨by simp [hnew],.inr ⟨by omega,h.n,0,rfl,hlo,by rw[AHeap.alloc_n];omega,by rw[AHeap.get_alloc,if_pos rfl];rfl⟩⟩,rfl,by rw[AHeap.get_alloc,if_pos rfl];rfl,fun b hb _=>by rw[AHeap.get_alloc,if_neg (by omega)]⟩
  simp only[appendA,hnew,hflat,beq_nat,ble_nat,Nat.one_mul,decide_true,Bool.not_true,Bool.or_false,cond_false,Nat.add_one_ne_zero,decide_false,cond_true]
  rw[decide_eq_true (show 1≤room by decide),decide_eq_true (show bytes≤room by omega)]
  rfl
 ·have hrow:row cs 0 (n*es)=some cs:=by
   rw[←hl]
   simp [row,ble_nat]
  refine ⟨(h.upd b (ver+1) .dead).alloc (.cells .own es (cs++new)),?_,⟨by rw[List.length_append,hl,hnew];exact (Nat.succ_mul n es).symm,.inr ⟨by omega,h.n,0,rfl,by omega,by rw[AHeap.alloc_n,AHeap.upd_n];omega,by rw[AHeap.get_alloc,AHeap.upd_n,if_pos rfl]⟩⟩,rfl,by rw[AHeap.get_alloc,AHeap.upd_n,if_pos rfl],fun b' hb hne=>by rw[AHeap.get_alloc,if_neg (by rw[AHeap.upd_n];omega),AHeap.get_upd,if_neg (by rintro rfl;exact hne rfl)]⟩
  have e1:¬n+1≤n:=by omega
  have e2:¬n=0:=by omega
  simp only[appendA,h3,hnew,hflat,hrow,beq_nat,ble_nat,Nat.one_mul,decide_true,Bool.not_true,Bool.or_false,cond_false,Nat.add_one_ne_zero,decide_false,cond_true,e1,e2,decide_eq_true hroom,decide_eq_true hn,Bool.and_true]
theorem Sl.blk {es lo n:Nat} {h:AHeap} {v:AV} {cs:List AV} (s:Sl es lo h v n cs) {b:Nat} (hb:blkV v=some b):lo≤b∧b<h.n:=by
 obtain ⟨_,⟨_,rfl⟩|⟨_,c,ver,rfl,h1,h2,_⟩⟩:=s
 ·cases hb
 ·cases hb;exact ⟨h1,h2⟩
theorem GKids.blk {lo:Nat} {h:AHeap} {v:AV} {ns:List Nd} (g:GKids lo h v ns) {b:Nat} (hb:blkV v=some b):lo≤b∧b<h.n:=by
 obtain ⟨css,h1,_⟩:=g;exact h1.blk hb
theorem GKids.append {lo m:Nat} {h:AHeap} {v kv:AV} {ns:List Nd} {n:Nd} (g:GKids lo h v ns) (hlo:lo≤h.n) (hs:ns.length<2^36) (hk:KidsR m h n.kids kv) (hm:lo≤m) (hv:∀b,blkV v=some b→b<m) :
  ∃v' h',appendA h 9 96 v 1 (ndC n kv)=some (v',h')∧GKids lo h' v' (ns++[n])∧blkV v'=some h.n∧h'.n=h.n+1∧∀b,b<h.n→blkV v≠some b→h'.get b=h.get b:=by
 obtain ⟨css,hsl,hr⟩:=g
 obtain ⟨h',h1,h2,h3,h4,h5⟩:=hsl.app2 (bytes:=96) (new:=ndC n kv) hlo rfl (by simp only[ndC,allFlat,List.all_cons,List.all_nil,hk.flat.1];rfl) (by simp only[room];omega) (by simp only[room];omega)
 refine ⟨_,h',h1,⟨css++ndC n kv,?_,?_⟩,rfl,h3,h5⟩
 ·rw[List.length_append];exact h2
 ·refine RowsS.app (hr.keep9 (fun b hb hl=>⟨hb.1,by simp [blkV];omega⟩) (by omega) fun b _ _ _ hb hl _=>h5 b hl hb.2) (KidsS.keep9 (fun b hb hl=>⟨Nat.le_trans hm hb,by simp [blkV];omega⟩) (by omega) (fun b _ _ _ hb hl _=>h5 b hl ?_) hk)
  intro e
  have:=hv b e
  omega
def GK (g:Prop) (lo:Nat) (h:AHeap) (v:AV) (ns:List Nd):Prop:=
 ∃css:List AV,css.length=ns.length*9∧((ns=[]∧v=.nilSlice)∨∃b ver ex,v=.slice b 0 ns.length ns.length ex∧(ns=[]→ex=true)∧lo≤b∧b<h.n∧h.get b=some ⟨ver,.cells .own 9 css⟩)∧(g→RowsS (fun x=>lo≤x∧blkV v≠some x) h ns css)
theorem GK.nil {g:Prop} {lo:Nat} {h:AHeap}:GK g lo h .nilSlice []:=⟨[],rfl,.inl ⟨rfl,rfl⟩,fun _=>.nil⟩
theorem GK.flat {g:Prop} {lo:Nat} {h:AHeap} {v:AV} {ns:List Nd} (k:GK g lo h v ns):v.flat=true∧v.cells=[v]:=by
 obtain ⟨css,_,⟨_,rfl⟩|⟨b,ver,ex,rfl,_⟩,_⟩:=k<;>exact ⟨rfl,rfl⟩
theorem GK.blk {g:Prop} {lo:Nat} {h:AHeap} {v:AV} {ns:List Nd} (k:GK g lo h v ns) {b:Nat} (hb:blkV v=some b):lo≤b∧b<h.n∧∃ver css,h.get b=some ⟨ver,.cells .own 9 css⟩:=by
 obtain ⟨css,_,⟨_,rfl⟩|⟨c,ver,ex,rfl,_,h1,h2,h3⟩,_⟩:=k
 ·cases hb
 ·cases hb;exact ⟨h1,h2,ver,css,h3⟩
theorem GK.keep {g g':Prop} {lo:Nat} {h h':AHeap} {v:AV} {ns:List Nd} (k:GK g lo h v ns) (hg:g'→g) (hn:h.n≤h'.n) (f:∀b ver css,lo≤b→b<h.n→h.get b=some ⟨ver,.cells .own 9 css⟩→h'.get b=h.get b) (f2:g'→∀b ver md css,lo≤b→b<h.n→h.get b=some ⟨ver,.cells md 9 css⟩→h'.get b=h.get b):GK g' lo h' v ns:=by
 obtain ⟨css,hl,h1,h2⟩:=k
 refine ⟨css,hl,h1.imp id ?_,fun hg'=>(h2 (hg hg')).keep9 (fun _ hb _=>hb) hn fun b ver md cs hb hl hgt=>f2 hg' b ver md cs hb.1 hl hgt⟩
 rintro ⟨b,ver,ex,e,g0,g1,g2,g3⟩
 exact ⟨b,ver,ex,e,g0,g1,Nat.lt_of_lt_of_le g2 hn,(f b ver _ g1 g2 g3).trans g3⟩
theorem GK.fr {g:Prop} {lo r:Nat} {h h':AHeap} {v:AV} {ns:List Nd} (k:GK g lo h v ns) (f:Fr r h h') (hr:r<lo∨h.n≤r):GK g lo h' v ns:=k.keep id f.n (fun b _ _ h1 h2 _=>f.old b h2 (by omega)) fun _ b _ _ _ h1 h2 _=>f.old b h2 (by omega)
theorem GK.weak {g g':Prop} {lo:Nat} {h:AHeap} {v:AV} {ns:List Nd} (k:GK g lo h v ns) (hg:g'→g):GK g' lo h v ns:=k.keep hg (Nat.le_refl _) (fun _ _ _ _ _ _=>rfl) fun _ _ _ _ _ _ _ _=>rfl
theorem GK.kids {g:Prop} {lo:Nat} {h:AHeap} {v:AV} {ns:List Nd} (k:GK g lo h v ns) (hg:g) (hs:ns.length<2^61):KidsR lo h ns v:=by
 obtain ⟨css,hl,h1,h2⟩:=k
 rcases h1 with ⟨rfl,rfl⟩|⟨b,ver,ex,rfl,g0,g1,g2,g3⟩
 ·exact .nil
 ·cases ns with
  | nil=>exact .emp
  | cons n ns=>exact KidsS.own (by simp) hs g1 g2 g3 ((h2 hg).keep9 (fun _ hb _=>hb.1) (Nat.le_refl _) fun _ _ _ _ _ _ _=>rfl)
theorem GK.one {g:Prop} {lo b ver:Nat} {h:AHeap} {x:Nd} {xv:AV} (hlo:lo≤b) (hb:b<h.n) (hg:h.get b=some ⟨ver,.cells .own 9 (ndC x xv)⟩) (hfree:g→KidsS (fun c=>lo≤c∧c≠b) h x.kids xv):GK g lo h (.slice b 0 1 1 true) [x]:=by
 refine ⟨ndC x xv,rfl,.inr ⟨b,ver,true,rfl,fun _=>rfl,hlo,hb,hg⟩,fun hgg=>?_⟩
 have:=RowsS.cons (n:=x) (kv:=xv) (KidsS.keep9 (S':=fun y=>lo≤y∧blkV (.slice b 0 1 1 true)≠some y) (fun c hc _=>⟨hc.1,by simp only[blkV,ne_eq,Option.some.injEq];exact fun e=>hc.2 e.symm⟩) (Nat.le_refl _) (fun _ _ _ _ _ _ _=>rfl) (hfree hgg)) RowsS.nil
 rwa[List.append_nil] at this
theorem GK.append {g g':Prop} {lo m:Nat} {h:AHeap} {v kv:AV} {ns:List Nd} {n:Nd} (k:GK g lo h v ns) (hlo:lo≤h.n) (hs:ns.length<2^36) (hfl:kv.flat=true) (hk:g'→g∧KidsR m h n.kids kv) (hm:lo≤m) (hv:∀b,blkV v=some b→b<m) :
  ∃v' h',appendA h 9 96 v 1 (ndC n kv)=some (v',h')∧GK g' lo h' v' (ns++[n])∧blkV v'=some h.n∧h'.n=h.n+1∧∀b,b<h.n→blkV v≠some b→h'.get b=h.get b:=by
 obtain ⟨css,hl,h1,h2⟩:=k
 have hfl':allFlat (ndC n kv)=true:=by simp only[ndC,allFlat,List.all_cons,List.all_nil,hfl];rfl
 have l9:(ndC n kv).length=9:=rfl
 have hroom:decide (ns.length+1≤room)=true:=decide_eq_true (by simp only[room];omega)
 have hroom2:decide ((ns.length+1)*96≤room)=true:=decide_eq_true (by simp only[room];omega)
 have fin:∀h':AHeap,h'.n=h.n+1→h'.get h.n=some ⟨0,.cells .own 9 (css++ndC n kv)⟩→(∀b,b<h.n→blkV v≠some b→h'.get b=h.get b)→GK g' lo h' (.slice h.n 0 (ns.length+1) (ns.length+1) false) (ns++[n]):=by
  intro h' q1 q2 q3
  refine ⟨css++ndC n kv,by rw[List.length_append,List.length_append,hl];exact (Nat.succ_mul _ 9).symm,.inr ⟨h.n,0,false,by rw[List.length_append];rfl,fun e=>by simp at e,hlo,by omega,q2⟩,fun hg'=>?_⟩
  obtain ⟨hg,hkk⟩:=hk hg'
  refine RowsS.app ((h2 hg).keep9 (fun b hb hl=>⟨hb.1,by simp [blkV];omega⟩) (by omega) fun b _ _ _ hb hl _=>q3 b hl hb.2) (KidsS.keep9 (fun b hb hl=>⟨Nat.le_trans hm hb,by simp [blkV];omega⟩) (by omega) (fun b _ _ _ hb hl _=>q3 b hl ?_) hkk)
  intro e
  have:=hv b e
  omega
 rcases h1 with ⟨rfl,rfl⟩|⟨b,ver,ex,rfl,g0,g1,g2,g3⟩
 ·have hcs:css=[]:=List.length_eq_zero_iff.1 (by simpa using hl)
  subst hcs
  refine ⟨_,h.alloc (.cells .own 9 (ndC n kv)),?_,fin _ rfl (by rw[AHeap.get_alloc,if_pos rfl];rfl) fun b hb _=>by rw[AHeap.get_alloc,if_neg (by omega)],rfl,rfl,fun b hb _=>by rw[AHeap.get_alloc,if_neg (by omega)]⟩
  simp only[appendA,l9,hfl',beq_nat,ble_nat,Nat.one_mul,decide_true,Bool.not_true,Bool.or_false,cond_false,Nat.add_one_ne_zero,decide_false,cond_true]
  rw[decide_eq_true (show 1≤room by decide),decide_eq_true (show 96≤room by decide)]
  rfl
 ·have hrow:row css 0 (ns.length*9)=some css:=by
   rw[←hl]
   simp [row,ble_nat]
  have e1:¬ns.length+1≤ns.length:=by omega
  cases ex with
  | true=>
   refine ⟨_,h.alloc (.cells .own 9 (css++ndC n kv)),?_,fin _ rfl (by rw[AHeap.get_alloc,if_pos rfl]) fun b hb _=>by rw[AHeap.get_alloc,if_neg (by omega)],rfl,rfl,fun b hb _=>by rw[AHeap.get_alloc,if_neg (by omega)]⟩
   simp only[appendA,g3,l9,hfl',hrow,beq_nat,ble_nat,Nat.one_mul,decide_true,Bool.not_true,Bool.or_false,cond_false,Nat.add_one_ne_zero,decide_false,cond_true,e1,hroom,hroom2,Bool.and_true]
  | false=>
   have e2:¬ns.length=0:=fun e=>by have:=g0 (List.length_eq_zero_iff.1 e);cases this
   have hf:∀b',b'<h.n→blkV (.slice b 0 ns.length ns.length false)≠some b'→((h.upd b (ver+1) .dead).alloc (.cells .own 9 (css++ndC n kv))).get b'=h.get b':=fun b' hb hne=>by rw[AHeap.get_alloc,if_neg (by rw[AHeap.upd_n];omega),AHeap.get_upd,if_neg (by rintro rfl;exact hne rfl)]
   refine ⟨_,(h.upd b (ver+1) .dead).alloc (.cells .own 9 (css++ndC n kv)),?_,fin _ rfl (by rw[AHeap.get_alloc,AHeap.upd_n,if_pos rfl]) hf,rfl,rfl,hf⟩
   simp only[appendA,g3,l9,hfl',hrow,beq_nat,ble_nat,Nat.one_mul,decide_true,Bool.not_true,Bool.or_false,cond_false,Nat.add_one_ne_zero,decide_false,cond_true,e1,e2,hroom,hroom2,Bool.and_true]
theorem PInv.le {h h':AHeap} {r E lv:Nat} {ts:List Tok} (p:PInv h r E ts lv) (hn:h.n≤h'.n) (f:∀b,b≤r→h'.get b=h.get b):PInv h' r E ts lv:=by
 obtain ⟨ver,v,h1,h2⟩:=p.st
 have hi:=p.hi
 have lo:=p.lo
 refine ⟨⟨by have:=p.gh.n;omega,fun g hg=>(f g (by omega)).trans (p.gh.gl g hg),fun g hg=>(f _ (by omega)).trans (p.gh.st g hg)⟩,p.lo,by omega,p.lvl,ver,v,(f r (Nat.le_refl _)).trans h1,?_⟩
 ·rcases h2 with q|⟨b,ver,k,all,h1,h2,h4,h5⟩
  ·exact .inl q
  ·exact .inr ⟨b,ver,k,all,h1,h2,by rw[f b (by omega)];exact h4,h5⟩
def PX {α:Type} (h:AHeap) (r E lv:Nat) (Q:QR) (P:α→AHeap→Prop):Except Err (α×List Tok)→Prop
 | .error (e,p)=>∀h',Fr r h h'→Q (treeStop e p) h'
 | .ok (x,ts')=>∀h',Fr r h h'→PInv h' r E ts' lv→P x h'
def typWs:List Bs:=[[105,110,116],[102,108,111,97,116],[98,111,111,108]]
theorem typN_find (t:Tok) (hk:t.kind=2):findW t.text typWs 0+1=(typN t:Int):=by
 unfold typN typWs
 rw[if_pos hk]
 by_cases c1:t.text=[105,110,116]
 ·rw[c1];rfl
 by_cases c2:t.text=[102,108,111,97,116]
 ·rw[c2];rfl
 by_cases c3:t.text=[98,111,111,108]
 ·rw[c3];rfl
 rw[if_neg c1,if_neg c2,if_neg c3]
 have e1:(t.text==[105,110,116])=false:=by simp [c1]
 have e2:(t.text==[102,108,111,97,116])=false:=by simp [c2]
 have e3:(t.text==[98,111,111,108])=false:=by simp [c3]
 simp [findW,e1,e2,e3]
theorem typ_tok {E r lv:Nat} {ts:List Tok} {h:AHeap} (hp:PInv h r E ts lv) {Q:QR} (hQ:PX h r E lv Q (fun (y:Nat) h'=>Q (.ret (.int .i64 (y:Int))) h') (typP E ts)):WF F 26 [.ptr r 0] h Q:=by
 refine WF.code F26 rfl ?_
 have hlt:=hp.hi
 simp(disch:=(try simp only[hN]);omega)only[go_sem,simprocAttr]
 refine here_tok (hp.fr ⟨by (try simp only[hN]);omega,fun b hb hne=>by (try simp only[hN] at hb hne);simp(disch:=(try simp only[hN]);omega)only[go_sem,simprocAttr]⟩) ?_
 intro h1 hf1
 have hn1:=hf1.n;try simp only[hN] at hn1
 have hb1:h1.get h.n=some ⟨0,.cells .own 1 (typWs.map .str)⟩:=by simp(disch:=(try simp only[hN]);omega)only[go_sem,simprocAttr,hf1.old];rfl
 have hp1:PInv h1 r E ts lv:=hp.fr ⟨by (try simp only[hN]);omega,fun b hb hne=>by (try simp only[hN] at hb hne);simp(disch:=(try simp only[hN]);omega)only[go_sem,simprocAttr,hf1.old]⟩
 have hf:∀b',b'<h.n→h1.get b'=h.get b':=fun b' hb'=>by simp(disch:=(try simp only[hN]);omega)only[go_sem,simprocAttr,hf1.old]
 clear hf1
 simp(disch:=(try simp only[hN]);omega)only[go_sem,simprocAttr,tokAV]
 refine sIndex (ws:=typWs) hb1 (by decide) ?_
 simp(disch:=(try simp only[hN]);omega)only[go_sem,simprocAttr]
 refine here_tok hp1 ?_
 intro h2 hf2
 have hn2:=hf2.n;try simp only[hN] at hn2
 have hp2:=hp1.fr hf2
 unfold typP at hQ
 by_cases hk:(hdT E ts).kind=2
 ·have hfd:=typN_find _ hk
  have ek:(((hdT E ts).kind:Int) != 2)=false:=by simp;omega
  by_cases hy:typN (hdT E ts)=0
  ·rw[if_pos hy] at hQ
   have el:decide (findW (hdT E ts).text typWs 0<0)=true:=decide_eq_true (by omega)
   simp(disch:=(try simp only[hN]);omega)only[go_sem,simprocAttr,tokAV,ek,el]
   refine wrong_tok hp2 ?_
   intro h3 hf3
   have hn3:=hf3.n;try simp only[hN] at hn3
   simp(disch:=(try simp only[hN]);omega)only[go_sem,simprocAttr]
   exact hQ _ ⟨by (try simp only[hN]);omega,fun b hb hne=>by (try simp only[hN] at hb hne);simp(disch:=(try simp only[hN]);omega)only[go_sem,simprocAttr,hf3.old,hf2.old,hf]⟩
  ·rw[if_neg hy] at hQ
   have el:decide (findW (hdT E ts).text typWs 0<0)=false:=decide_eq_false (by omega)
   obtain ⟨ver,v,hr,ht⟩:=hp2.st
   obtain ⟨c,o,vc,cs,rfl,hc,hcr,ht'⟩:=ht.slc (hdT_ne (E:=E) (by omega))
   have hpos:0<ts.length:=List.length_pos_iff.2 (hdT_ne (E:=E) (by omega))
   have c1:bnd (some (.int .i64 1)) 0 ts.length=some 1:=bnd_num (i:=1) (by omega)
   have c2:ts.length.beq 0=false:=by rw[beq_nat];exact decide_eq_false (by omega)
   have e1:(1+findW (hdT E ts).text typWs 0)=(typN (hdT E ts):Int):=by omega
   have hb3:typN (hdT E ts)≤3:=by unfold typN;(repeat' split)<;>omega
   simp(disch:=(try simp only[hN]);omega)only[go_sem,simprocAttr,tokAV,ek,el,hr,hc,c1,c2,Option.isSome_none,Bool.and_false,cond_false,e1]
   exact hQ _ ⟨by (try simp only[hN]);omega,fun b hb hne=>by (try simp only[hN] at hb hne);simp(disch:=(try simp only[hN]);omega)only[go_sem,simprocAttr,hf2.old,hf]⟩ (hp2.step (ver:=ver+1) (Fr.upd _ _ _) (by simp(disch:=(try simp only[hN]);omega)only[go_sem,simprocAttr]) ht' hp.lvl)
 ·have hy:typN (hdT E ts)=0:=by unfold typN;rw[if_neg hk]
  rw[if_pos hy] at hQ
  have ek:(((hdT E ts).kind:Int) != 2)=true:=by simp;omega
  simp(disch:=(try simp only[hN]);omega)only[go_sem,simprocAttr,tokAV,ek]
  refine wrong_tok hp2 ?_
  intro h3 hf3
  have hn3:=hf3.n;try simp only[hN] at hn3
  simp(disch:=(try simp only[hN]);omega)only[go_sem,simprocAttr]
  exact hQ _ ⟨by (try simp only[hN]);omega,fun b hb hne=>by (try simp only[hN] at hb hne);simp(disch:=(try simp only[hN]);omega)only[go_sem,simprocAttr,hf3.old,hf2.old,hf]⟩
theorem sized_tok {E r lv:Nat} {ts:List Tok} {h:AHeap} (hp:PInv h r E ts lv) {Q:QR} (hQ:PX h r E lv Q (fun (y:Nat) h'=>Q (.ret (.int .i64 (y:Int))) h') (sizedP E ts)):WF F 25 [.ptr r 0] h Q:=by
 refine WF.code F25 rfl ?_
 have hlt:=hp.hi
 simp(disch:=(try simp only[hN]);omega)only[go_sem,simprocAttr]
 unfold sizedP mustP takeP at hQ
 refine must_tok hp ?_
 by_cases c1:isT [[91]] ts=true
 ·rw[if_pos c1] at hQ ⊢
  simp only at hQ
  intro h1 hf1 hp1
  have hn1:=hf1.n;try simp only[hN] at hn1
  simp(disch:=(try simp only[hN]);omega)only[go_sem,simprocAttr]
  refine take_tok (k:=3) hp1 (by decide) ?_
  by_cases c2:(hdT E ts.tail).kind=3
  ·rw[if_pos c2] at hQ ⊢
   simp only at hQ
   intro h2 hf2 hp2
   have hn2:=hf2.n;try simp only[hN] at hn2
   simp(disch:=(try simp only[hN]);omega)only[go_sem,simprocAttr,tokAV]
   refine must_tok hp2 ?_
   by_cases c3:isT [[93]] ts.tail.tail=true
   ·rw[if_pos c3] at hQ ⊢
    intro h3 hf3 hp3
    have hn3:=hf3.n;try simp only[hN] at hn3
    simp(disch:=(try simp only[hN]);omega)only[go_sem,simprocAttr]
    exact hQ _ ((hf1.trans hf2).trans hf3) hp3
   ·rw[if_neg c3] at hQ ⊢
    intro h3 hf3
    simp(disch:=(try simp only[hN]);omega)only[go_sem,simprocAttr]
    exact hQ _ ((hf1.trans hf2).trans hf3)
  ·rw[if_neg c2] at hQ ⊢
   intro h2 hf2
   simp(disch:=(try simp only[hN]);omega)only[go_sem,simprocAttr]
   exact hQ _ (hf1.trans hf2)
 ·rw[if_neg c1] at hQ ⊢
  intro h1 hf1
  simp(disch:=(try simp only[hN]);omega)only[go_sem,simprocAttr]
  exact hQ _ hf1
theorem exprT_tok {E:Nat}:PSpec 19 E (exprT E):=by
 intro h r lv ts Q hp hz hQ
 exact exprOf_tok (unary_tok (ts.length+1)) hp hz hQ
theorem args_tok {E r lv:Nat} {ts:List Tok} {h:AHeap} (hp:PInv h r E ts lv) (hsm:ts.length≤2000) {Q:QR} (hQ:PX h r E lv Q (fun ns h'=>∀v,KidsR h.n h' ns v→Q (.ret v) h') (argsP E lv ts)):WF F 82 [.ptr r 0] h Q:=by
 refine WF.code F82 rfl ?_
 have hlt:=hp.hi
 simp(disch:=(try simp only[hN]);omega)only[go_sem,simprocAttr]
 unfold argsP openP at hQ
 refine open_tok hp ?_
 by_cases c1:isT [[40]] ts=true
 ·rw[if_pos c1] at hQ ⊢
  by_cases h16:lv=16
  ·rw[if_pos h16] at hQ ⊢
   intro h1 hf1
   simp(disch:=(try simp only[hN]);omega)only[go_sem,simprocAttr]
   exact hQ _ hf1
  ·rw[if_neg h16] at hQ ⊢
   simp only at hQ
   intro h1 hf1 hp1
   have hn1:=hf1.n;try simp only[hN] at hn1
   have hlt1:=hp1.hi
   have htl:ts.tail.length≤2000:=by rw[List.length_tail];omega
   generalize ts.tail=ts1 at *
   simp(disch:=(try simp only[hN]);omega)only[go_sem,simprocAttr]
   refine is_tok (ws:=[[41]]) (md:=.own) (ver:=0) (E:=E) (ts:=ts1) (lv:=lv+1) (hp1.fr ⟨by (try simp only[hN]);omega,fun b hb hne=>by (try simp only[hN] at hb hne);simp(disch:=(try simp only[hN]);omega)only[go_sem,simprocAttr]⟩) (by (first|(simp(disch:=(try simp only[hN]);omega)only[go_sem,simprocAttr,List.map];done)|(simp(disch:=(try simp only[hN]);omega)only[go_sem,simprocAttr,List.map];rfl))) (by simp only[hN];omega) (show 1<2^62 by decide) ?_
   intro h2 hf2
   have hn2:=hf2.n;try simp only[hN] at hn2
   have hp2:PInv h2 r E ts1 (lv+1):=hp1.fr ⟨by (try simp only[hN]);omega,fun b hb hne=>by (try simp only[hN] at hb hne);simp(disch:=(try simp only[hN]);omega)only[go_sem,simprocAttr,hf2.old]⟩
   have hfo:∀b',b'<h.n→b'≠r→h2.get b'=h.get b':=fun b' hb1 hb2=>by simp(disch:=(try simp only[hN]);omega)only[go_sem,simprocAttr,hf2.old,hf1.old]
   have hR:∃R,commaP E (exprT E (lv+1)) ts1=R:=⟨_,rfl⟩
   obtain ⟨R,hR⟩:=hR
   rw[hR] at hQ
   have hz:R≠.error (0,0):=by
    rw[←hR]
    exact (commaP_fine (E:=E) (x:=exprT E (lv+1)) (fun ts=>exprT_fine (lv+1) ts) ts1).ne
   obtain ⟨f,bm,hfl,hbm,hfm⟩:∃f bm,f≤2001∧isT [[41]] ts1=!bm∧((bm=true∧commaL E (exprT E (lv+1)) f [] ts1=R)∨(bm=false∧R=.ok ([],ts1))):=by
    unfold commaP at hR
    cases hi:isT [[41]] ts1 with
    | true=>rw[if_pos hi] at hR;exact ⟨0,false,by omega,rfl,.inr ⟨rfl,hR.symm⟩⟩
    | false=>rw[if_neg (by rw[hi];decide)] at hR;exact ⟨_,true,by omega,rfl,.inl ⟨rfl,hR⟩⟩
   rw[hbm]
   simp(disch:=(try simp only[hN]);omega)only[go_sem,simprocAttr,Bool.not_not]
   have hn0:h.n≤h2.n:=by omega
   clear hf2 hp1 hbm hR hn1
   refine wp_loopx 0 (fun g a h'=>∃b v ns ts2,GKids h.n h' v ns∧PInv h' r E ts2 (lv+1)∧h.n≤h'.n∧(∀b',b'<h.n→b'≠r→h'.get b'=h.get b')∧ns.length+g≤2001∧((b=true∧commaL E (exprT E (lv+1)) g ns ts2=R)∨(b=false∧R=.ok (ns,ts2)))∧a.tm.get 0=some (.ptr r 0)∧a.tm.get 3=some v∧a.tm.get 4=some (.bool b)∧a.df=[])
    (fun a h'=>∃v ns ts2,GKids h.n h' v ns∧PInv h' r E ts2 (lv+1)∧h.n≤h'.n∧(∀b',b'<h.n→b'≠r→h'.get b'=h.get b')∧ns.length≤2001∧R=.ok (ns,ts2)∧a.tm.get 0=some (.ptr r 0)∧a.tm.get 3=some v∧a.df=[]) ?_ ?_ f ?_
   ·rintro g ⟨t,df⟩ h3 ⟨b,v,ns,ts2,hg,hp3,hn3,hf3,hlen,hc,k0,k3,k4,hdf⟩
    simp only at k0 k3 k4 hdf
    subst hdf
    have hlt3:=hp3.hi
    rcases hc with ⟨rfl,hcl⟩|⟨rfl,hcl⟩
    ·cases g with
     | zero=>exact absurd hcl.symm hz
     | succ g=>
      rw[commaL] at hcl
      simp(disch:=(try simp only[hN]);omega)only[go_sem,simprocAttr,k0,k3,k4]
      have hxn:exprT E (lv+1) ts2≠.error (0,0):=(exprT_fine (E:=E) (lv+1) ts2).ne
      refine exprT_tok hp3 hxn ?_
      cases hx:exprT E (lv+1) ts2 with
      | error e=>
       obtain ⟨e,p⟩:=e
       rw[hx] at hcl
       simp only at hcl
       rw[←hcl] at hQ
       intro h4 hf4
       simp(disch:=(try simp only[hN]);omega)only[go_sem,simprocAttr]
       exact hQ _ ⟨by have:=hf4.n;omega,fun b hb hne=>by rw[hf4.old b (by omega) hne,hf3 b hb hne]⟩
      | ok y=>
       obtain ⟨m,ts3⟩:=y
       rw[hx] at hcl
       simp only at hcl
       intro h4 kv hf4 hp4 hk4
       have hn4:=hf4.n;try simp only[hN] at hn4
       simp(disch:=(try simp only[hN]);omega)only[go_sem,simprocAttr,hk4.flat.1,hk4.flat.2]
       have hg4:GKids h.n (h4.alloc (.cells .own 9 (ndC m kv))) v ns:=(hg.fr hf4 (.inl hlt)).fr (Fr.alloc (Fr.refl h4.n h4) _) (.inr (Nat.le_refl _))
       obtain ⟨v5,h5,happ,hg5,hb5,hn5,ho5⟩:=hg4.append (by simp only[hN];omega) (by omega) (hk4.keep (lo':=h3.n) (Nat.le_refl _) (by simp only[hN];omega) fun b hb1 hb2=>by simp(disch:=(try simp only[hN]);omega)only[go_sem,simprocAttr]) hn3 (fun b hb=>(hg.blk hb).2)
       have hf5:∀b',b'<h.n→b'≠r→h5.get b'=h.get b':=fun b' hb1 hb2=>by
        rw[ho5 b' (by simp only[hN];omega) (fun e=>by have:=hg.blk e;omega)]
        simp(disch:=(try simp only[hN]);omega)only[go_sem,simprocAttr,hf4.old,hf3]
       have hp5:PInv h5 r E ts3 (lv+1):=hp4.le (by rw[hn5];simp(disch:=(try simp only[hN]);omega)only[go_sem,simprocAttr];omega) fun b hb=>by
        rw[ho5 b (by simp only[hN];omega) (fun e=>by have:=hg.blk e;omega)]
        simp(disch:=(try simp only[hN]);omega)only[go_sem,simprocAttr]
       simp only[AHeap.alloc_n] at hn5
       simp(disch:=(try simp only[hN]);omega)only[go_sem,simprocAttr,ndC] at happ
       simp(disch:=(try simp only[hN]);omega)only[go_sem,simprocAttr,happ,k0,k3,k4]
       refine maybe_tok hp5 ?_
       by_cases c3:isT [[44]] ts3=true
       ·rw[if_pos c3] at hcl ⊢
        intro h6 hf6 hp6
        have hn6:=hf6.n;try simp only[hN] at hn6
        simp(disch:=(try simp only[hN]);omega)only[go_sem,simprocAttr,k0,k3,k4]
        exact ⟨g,Nat.lt_succ_self _,true,v5,ns++[m],_,hg5.fr hf6 (.inl hlt),hp6,by omega,fun b hb1 hb2=>by rw[hf6.old b (by omega) hb2,hf5 b hb1 hb2],by simp;omega,.inl ⟨rfl,hcl⟩,rfl,rfl⟩
       ·rw[if_neg c3] at hcl ⊢
        intro h6 hf6
        have hn6:=hf6.n;try simp only[hN] at hn6
        simp(disch:=(try simp only[hN]);omega)only[go_sem,simprocAttr,k0,k3,k4]
        exact ⟨g,Nat.lt_succ_self _,false,v5,ns++[m],_,hg5.fr hf6 (.inr (Nat.le_refl _)),hp5.fr hf6,by omega,fun b hb1 hb2=>by rw[hf6.all (by omega),hf5 b hb1 hb2],by simp;omega,.inr ⟨rfl,hcl.symm⟩,rfl,rfl⟩
    ·simp(disch:=(try simp only[hN]);omega)only[go_sem,simprocAttr,k0,k3,k4]
     exact ⟨v,ns,ts2,hg,hp3,hn3,hf3,by omega,hcl,rfl⟩
   ·rintro ⟨t,df⟩ h3 ⟨v,ns,ts2,hg,hp3,hn3,hf3,hlen,hcl,k0,k3,hdf⟩
    simp only at k0 k3 hdf
    subst hdf
    rw[hcl] at hQ
    simp only[mustP] at hQ
    simp(disch:=(try simp only[hN]);omega)only[go_sem,simprocAttr,k0,k3]
    refine close_tok (lv:=lv) hp3 ?_
    by_cases c2:isT [[41]] ts2=true
    ·rw[if_pos c2] at hQ ⊢
     intro h4 hf4 hp4
     have hn4:=hf4.n;try simp only[hN] at hn4
     simp(disch:=(try simp only[hN]);omega)only[go_sem,simprocAttr,k3]
     exact hQ _ ⟨by omega,fun b hb hne=>by rw[hf4.old b (by omega) hne,hf3 b hb hne]⟩ hp4 v ((hg.fr hf4 (.inl hlt)).kids (by omega))
    ·rw[if_neg c2] at hQ ⊢
     intro h4 hf4
     have hn4:=hf4.n;try simp only[hN] at hn4
     simp(disch:=(try simp only[hN]);omega)only[go_sem,simprocAttr]
     exact hQ _ ⟨by omega,fun b hb hne=>by rw[hf4.old b (by omega) hne,hf3 b hb hne]⟩
   ·refine ⟨bm,.nilSlice,[],ts1,GKids.nil,hp2,hn0,hfo,?_,hfm,?_⟩
    ·simpa using hfl
    ·simp(disch:=(try simp only[hN]);omega)only[go_sem,simprocAttr]
 ·rw[if_neg c1] at hQ ⊢
  intro h1 hf1
  simp(disch:=(try simp only[hN]);omega)only[go_sem,simprocAttr]
  exact hQ _ hf1
def PSpecT (fid E:Nat) (u:PT):Prop:=∀{h:AHeap} {r lv:Nat} {ts:List Tok} {Q:QR},PInv h r E ts lv→ts.length≤2000→PQ h r E lv Q (u lv ts)→WF F fid [.ptr r 0] h Q
theorem nameP_ne {E:Nat} {lv:Nat} {ts:List Tok} (hne:ts≠[]):nameP E (exprP E (ts.length+1)) lv ts≠.error (0,0):=by
 unfold nameP
 split
 ·have h1:=inP_fine (E:=E) (a:=[91]) (b:=[93]) (exprP_fine (E:=E) ts.length) lv ts.tail (by rw[List.length_tail];omega)
  cases hx:inP E [91] [93] (exprP E (ts.length+1)) lv ts.tail with
  | error e=>
   rw[hx] at h1
   intro e0
   simp only[Except.error.injEq] at e0
   subst e0
   rcases h1 with h|h<;>cases h
  | ok y=>obtain ⟨k,ts'⟩:=y;intro e;cases e
 ·intro e;cases e
theorem target_tok {E:Nat}:PSpecT 87 E (targetP E):=by
 intro h r lv ts Q hp hsm hQ
 unfold targetP at hQ
 by_cases hk:(hdT E ts).kind=1
 ·rw[if_pos hk] at hQ
  refine name_tok (exprOf_tok (unary_tok (ts.length+1))) hp hk ?_ hQ
  exact nameP_ne (hdT_ne (E:=E) (by omega))
 ·rw[if_neg hk] at hQ
  refine WF.code F87 rfl ?_
  simp(disch:=(try simp only[hN]);omega)only[go_sem,simprocAttr]
  refine take_tok (k:=1) (E:=E) (lv:=lv) (ts:=ts) (hp.fr ⟨by (try simp only[hN]);omega,fun b hb hne=>by (try simp only[hN] at hb hne);simp(disch:=(try simp only[hN]);omega)only[go_sem,simprocAttr]⟩) (by decide) ?_
  rw[if_neg hk]
  intro h1 hf1
  have hn1:=hf1.n;try simp only[hN] at hn1
  simp(disch:=(try simp only[hN]);omega)only[go_sem,simprocAttr]
  exact hQ _ ⟨by (try simp only[hN]);omega,fun b hb hne=>by (try simp only[hN] at hb hne);simp(disch:=(try simp only[hN]);omega)only[go_sem,simprocAttr,hf1.old]⟩
theorem named_tok {E kd what:Nat} (hw:what≤2) {h:AHeap} {r lv:Nat} {ts:List Tok} {Q:QR} (hp:PInv h r E ts lv) (hne:ts≠[]) (hsm:ts.length≤2000) (hQ:PQ h r E lv Q (namedP E kd what lv ts)):WF F 83 [.ptr r 0,.int .i64 (kd:Int),.int .i64 (what:Int)] h Q:=by
 refine WF.code F83 rfl ?_
 have hlt:=hp.hi
 simp(disch:=(try simp only[hN]);omega)only[go_sem,simprocAttr]
 refine here_tok (hp.fr ⟨by (try simp only[hN]);omega,fun b hb hne=>by (try simp only[hN] at hb hne);simp(disch:=(try simp only[hN]);omega)only[go_sem,simprocAttr]⟩) ?_
 intro h1 hf1
 have hn1:=hf1.n;try simp only[hN] at hn1
 have hp1:PInv h1 r E ts lv:=hp.fr ⟨by (try simp only[hN]);omega,fun b hb hne=>by (try simp only[hN] at hb hne);simp(disch:=(try simp only[hN]);omega)only[go_sem,simprocAttr,hf1.old]⟩
 have hf:∀b',b'<h.n→h1.get b'=h.get b':=fun b' hb'=>by simp(disch:=(try simp only[hN]);omega)only[go_sem,simprocAttr,hf1.old]
 have q0:h1.get h.n=some ⟨0,.cells .own 0 zN⟩:=by simp(disch:=(try simp only[hN]);omega)only[go_sem,simprocAttr,hf1.old]
 clear hf1
 obtain ⟨ver,v,hr,ht⟩:=hp1.st
 obtain ⟨c,o,vc,cs,rfl,hc,hcr,ht'⟩:=ht.slc hne
 have hpos:0<ts.length:=List.length_pos_iff.2 hne
 have c1:bnd (some (.int .i64 1)) 0 ts.length=some 1:=bnd_num (i:=1) (by omega)
 have c2:ts.length.beq 0=false:=by rw[beq_nat];exact decide_eq_false (by omega)
 simp(disch:=(try simp only[hN]);omega)only[go_sem,simprocAttr,tokAV,hr,hc,c1,c2,Option.isSome_none,Bool.and_false,cond_false]
 generalize hH:AHeap.upd (AHeap.upd _ _ _ _) r _ _=H
 have hHn:H.n=h1.n+1:=by rw[←hH];simp(disch:=(try simp only[hN]);omega)only[go_sem,simprocAttr]
 have hH1:H.get h1.n=some ⟨1,.cells .own 0 [.int .i64 (kd:Int),.int .i64 ((hdT E ts).pos:Int),.str [],.int .i64 0,.int .i64 0,.int .i64 0,.int .i64 0,.int .u64 0,.nilSlice]⟩:=by rw[←hH];simp(disch:=(try simp only[hN]);omega)only[go_sem,simprocAttr]
 have hH0:H.get h.n=some ⟨0,.cells .own 0 zN⟩:=by rw[←hH];simp(disch:=(try simp only[hN]);omega)only[go_sem,simprocAttr,q0]
 have hHf:∀b',b'<h.n→b'≠r→H.get b'=h.get b':=fun b' hb1 hb2=>by rw[←hH];simp(disch:=(try simp only[hN]);omega)only[go_sem,simprocAttr,hf]
 have hpH:PInv H r E ts.tail lv:=by
  have g0:PInv ((h1.alloc (.cells .own 0 zN)).upd h1.n 1 (.cells .own 0 [.int .i64 (kd:Int),.int .i64 ((hdT E ts).pos:Int),.str [],.int .i64 0,.int .i64 0,.int .i64 0,.int .i64 0,.int .u64 0,.nilSlice])) r E ts lv:=hp1.le (by simp only[hN];omega) fun b hb=>by simp(disch:=(try simp only[hN]);omega)only[go_sem,simprocAttr]
  rw[←hH]
  exact g0.step (ver:=ver+1) (Fr.upd _ _ _) (by simp(disch:=(try simp only[hN]);omega)only[go_sem,simprocAttr]) (ht'.fr (q:=h1.n) (r:=r) (h:=h1) ⟨by simp(disch:=(try simp only[hN]);omega)only[go_sem,simprocAttr];omega,fun b hb hne=>by simp(disch:=(try simp only[hN]);omega)only[go_sem,simprocAttr]⟩ (by omega) (by omega)) hp1.lvl
 clear hH hr ht ht' hc hp1 hf q0
 have hsm1:ts.tail.length≤2000:=by rw[List.length_tail];omega
 unfold namedP takeP mustP at hQ
 generalize (hdT E ts).pos=P at *
 generalize ts.tail=ts1 at *
 refine take_tok (k:=1) hpH (by decide) ?_
 by_cases hk:(hdT E ts1).kind=1
 ·rw[if_pos hk] at hQ ⊢
  simp only at hQ
  intro h2 hf2 hp2
  have hn2:=hf2.n;try simp only[hN] at hn2
  have r1:=(hf2.old h1.n (by omega) (by omega)).trans hH1
  have r0:=(hf2.old h.n (by omega) (by omega)).trans hH0
  have hsm2:ts1.tail.length≤2000:=by rw[List.length_tail];omega
  simp(disch:=(try simp only[hN]);omega)only[go_sem,simprocAttr,tokAV,r1]
  generalize (hdT E ts1).text=T at *
  generalize ts1.tail=ts2 at *
  by_cases w0:what=0
  ·subst w0
   rw[if_pos rfl] at hQ
   have e0:((0:Int)==0)=true:=rfl
   simp(disch:=(try simp only[hN]);omega)only[go_sem,simprocAttr,e0,Int.natCast_zero,r0]
   refine hQ _ .nilSlice ⟨by (try simp only[hN]);omega,fun b hb hne=>by (try simp only[hN] at hb hne);simp(disch:=(try simp only[hN]);omega)only[go_sem,simprocAttr,hf2.old,hHf]⟩ (hp2.le (by simp only[hN];omega) fun b hb=>by simp(disch:=(try simp only[hN]);omega)only[go_sem,simprocAttr]) .nil
  ·rw[if_neg w0] at hQ
   have e0:((what:Int)==0)=false:=by simp;omega
   simp(disch:=(try simp only[hN]);omega)only[go_sem,simprocAttr,e0]
   refine must_tok (hp2.le (h':=h2.upd h1.n 2 _) (by simp only[hN];omega) fun b hb=>by simp(disch:=(try simp only[hN]);omega)only[go_sem,simprocAttr]) ?_
   by_cases c3:isT [[44]] ts2=true
   ·rw[if_pos c3] at hQ ⊢
    simp only at hQ
    intro h3 hf3 hp3
    have hn3:=hf3.n;try simp only[hN] at hn3
    have s1:h3.get h1.n=some ⟨2,.cells .own 0 [.int .i64 (kd:Int),.int .i64 (P:Int),.str T,.int .i64 0,.int .i64 0,.int .i64 0,.int .i64 0,.int .u64 0,.nilSlice]⟩:=by simp(disch:=(try simp only[hN]);omega)only[go_sem,simprocAttr,hf3.old]
    have s0:h3.get h.n=some ⟨0,.cells .own 0 zN⟩:=by simp(disch:=(try simp only[hN]);omega)only[go_sem,simprocAttr,hf3.old,r0]
    have hf3':∀b',b'<h.n→b'≠r→h3.get b'=h.get b':=fun b' hb1 hb2=>by simp(disch:=(try simp only[hN]);omega)only[go_sem,simprocAttr,hf3.old,hf2.old,hHf]
    have hlt3:=hp3.hi
    have hsm3:ts2.tail.length≤2000:=by rw[List.length_tail];omega
    clear r1 r0 hf2 hHf hp2 hpH hH1 hH0 hf3
    generalize ts2.tail=ts3 at *
    by_cases w1:what=1
    ·subst w1
     simp only[if_true] at hQ
     have e1:(((1:Nat):Int)==1)=true:=rfl
     simp(disch:=(try simp only[hN]);omega)only[go_sem,simprocAttr,e1]
     refine exprT_tok hp3 (exprT_fine (E:=E) lv ts3).ne ?_
     cases hx:exprT E lv ts3 with
     | error e=>
      obtain ⟨e,p⟩:=e
      rw[hx] at hQ
      intro h4 hf4
      have hn4:=hf4.n;try simp only[hN] at hn4
      simp(disch:=(try simp only[hN]);omega)only[go_sem,simprocAttr]
      exact hQ _ ⟨by (try simp only[hN]);omega,fun b hb hne=>by (try simp only[hN] at hb hne);simp(disch:=(try simp only[hN]);omega)only[go_sem,simprocAttr,hf4.old,hf3']⟩
     | ok y=>
      obtain ⟨m,ts4⟩:=y
      rw[hx] at hQ
      intro h4 kv hf4 hp4 hk4
      have hn4:=hf4.n;try simp only[hN] at hn4
      have u1:=(hf4.old h1.n (by omega) (by omega)).trans s1
      have u0:=(hf4.old h.n (by omega) (by omega)).trans s0
      simp(disch:=(try simp only[hN]);omega)only[go_sem,simprocAttr,u1,u0,hk4.flat.1,hk4.flat.2]
      refine hQ _ _ ⟨by (try simp only[hN]);omega,fun b hb hne=>by (try simp only[hN] at hb hne);simp(disch:=(try simp only[hN]);omega)only[go_sem,simprocAttr,hf4.old,hf3']⟩ (hp4.le (by simp only[hN];omega) fun b hb=>by simp(disch:=(try simp only[hN]);omega)only[go_sem,simprocAttr]) ?_
      exact KidsR.one (ver:=0) (kv:=kv) (hk4.keep (by omega) (by simp only[hN];omega) fun b hb1 hb2=>by simp(disch:=(try simp only[hN]);omega)only[go_sem,simprocAttr]) (by omega) (by simp only[hN];omega) (by simp(disch:=(try simp only[hN]);omega)only[go_sem,simprocAttr])
    ·have w2:what=2:=by omega
     subst w2
     simp only[if_neg (show ¬2=1 by decide)] at hQ
     have e1:(((2:Nat):Int)==1)=false:=rfl
     simp(disch:=(try simp only[hN]);omega)only[go_sem,simprocAttr,e1]
     refine target_tok hp3 hsm3 ?_
     cases hx:targetP E lv ts3 with
     | error e=>
      obtain ⟨e,p⟩:=e
      rw[hx] at hQ
      intro h4 hf4
      have hn4:=hf4.n;try simp only[hN] at hn4
      simp(disch:=(try simp only[hN]);omega)only[go_sem,simprocAttr]
      exact hQ _ ⟨by (try simp only[hN]);omega,fun b hb hne=>by (try simp only[hN] at hb hne);simp(disch:=(try simp only[hN]);omega)only[go_sem,simprocAttr,hf4.old,hf3']⟩
     | ok y=>
      obtain ⟨m,ts4⟩:=y
      rw[hx] at hQ
      intro h4 kv hf4 hp4 hk4
      have hn4:=hf4.n;try simp only[hN] at hn4
      have u1:=(hf4.old h1.n (by omega) (by omega)).trans s1
      have u0:=(hf4.old h.n (by omega) (by omega)).trans s0
      simp(disch:=(try simp only[hN]);omega)only[go_sem,simprocAttr,u1,u0,hk4.flat.1,hk4.flat.2]
      refine hQ _ _ ⟨by (try simp only[hN]);omega,fun b hb hne=>by (try simp only[hN] at hb hne);simp(disch:=(try simp only[hN]);omega)only[go_sem,simprocAttr,hf4.old,hf3']⟩ (hp4.le (by simp only[hN];omega) fun b hb=>by simp(disch:=(try simp only[hN]);omega)only[go_sem,simprocAttr]) ?_
      exact KidsR.one (ver:=0) (kv:=kv) (hk4.keep (by omega) (by simp only[hN];omega) fun b hb1 hb2=>by simp(disch:=(try simp only[hN]);omega)only[go_sem,simprocAttr]) (by omega) (by simp only[hN];omega) (by simp(disch:=(try simp only[hN]);omega)only[go_sem,simprocAttr])
   ·rw[if_neg c3] at hQ ⊢
    intro h3 hf3
    have hn3:=hf3.n;try simp only[hN] at hn3
    simp(disch:=(try simp only[hN]);omega)only[go_sem,simprocAttr]
    exact hQ _ ⟨by (try simp only[hN]);omega,fun b hb hne=>by (try simp only[hN] at hb hne);simp(disch:=(try simp only[hN]);omega)only[go_sem,simprocAttr,hf3.old,hf2.old,hHf]⟩
 ·rw[if_neg hk] at hQ ⊢
  intro h2 hf2
  have hn2:=hf2.n;try simp only[hN] at hn2
  simp(disch:=(try simp only[hN]);omega)only[go_sem,simprocAttr]
  exact hQ _ ⟨by (try simp only[hN]);omega,fun b hb hne=>by (try simp only[hN] at hb hne);simp(disch:=(try simp only[hN]);omega)only[go_sem,simprocAttr,hf2.old,hHf]⟩
end Go.Ev
