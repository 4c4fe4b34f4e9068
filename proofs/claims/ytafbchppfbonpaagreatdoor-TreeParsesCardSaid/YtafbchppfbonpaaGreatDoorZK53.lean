/- The tree's reader: statements that begin with a word. -/
import Derived.Test.YtafbchppfbonpaaGreatDoorZK47
set_option linter.all false
set_option linter.unusedVariables false
set_option linter.unusedSimpArgs false
namespace Go.Ev
open Go
set_option maxRecDepth 100000
set_option maxHeartbeats 4000000
theorem tok5 {all:List Tok} {k i:Nat} {t:Tok} (h:all[k]?=some t) {j:Nat} (hj:j<5) {x:AV} (hx:(tokAV t).cells[j]?=some x) (hi:i=k*5+j):(toksAV all)[i]?=some x:=by
 subst hi
 exact (flat_get (f:=fun t=>(tokAV t).cells) (fun _=>rfl) h hj).trans hx
theorem worded_tok {E:Nat} {h:AHeap} {r lv:Nat} {ts:List Tok} {Q:QR} (hp:PInv h r E ts lv) (hk1:(hdT E ts).kind=1) (hsm:ts.length≤2000) (hQ:PQ h r E lv Q (wordedP E lv ts)):WF F 81 [.ptr r 0] h Q:=by
 refine WF.code F81 rfl ?_
 have hlt:=hp.hi
 have hne:=hdT_ne (E:=E) (ts:=ts) (by omega)
 simp(disch:=(try simp only[hN]);omega)only[go_sem,simprocAttr]
 refine here_tok (hp.fr ⟨by (try simp only[hN]);omega,fun b hb hne=>by (try simp only[hN] at hb hne);simp(disch:=(try simp only[hN]);omega)only[go_sem,simprocAttr]⟩) ?_
 intro h1 hf1
 have hn1:=hf1.n;try simp only[hN] at hn1
 have hp1:PInv h1 r E ts lv:=hp.fr ⟨by (try simp only[hN]);omega,fun b hb hne=>by (try simp only[hN] at hb hne);simp(disch:=(try simp only[hN]);omega)only[go_sem,simprocAttr,hf1.old]⟩
 have hf:∀b',b'<h.n→h1.get b'=h.get b':=fun b' hb'=>by simp(disch:=(try simp only[hN]);omega)only[go_sem,simprocAttr,hf1.old]
 have q0:h1.get h.n=some ⟨0,.cells .own 0 zN⟩:=by simp(disch:=(try simp only[hN]);omega)only[go_sem,simprocAttr,hf1.old]
 clear hf1
 obtain ⟨ver,v,hr,ht⟩:=hp1.st
 have hlen:=ht.len
 have hlp:ts.length≥1:=List.length_pos_iff.2 hne
 simp(disch:=(try simp only[hN]);omega)only[go_sem,simprocAttr,tokAV,hr,hlen]
 refine want_cut (fun a h'=>h'=h1∧(mark2 ts [58,61]=false∧mark2 ts [40]=false)∧a.tm.get 0=some (.ptr r 0)∧a.tm.get 2=some (.ptr h.n 0)∧a.tm.get 3=some (.int .i64 ((hdT E ts).pos:Int))∧a.df=[]) ?_ ?_
 ·match ts,hne with
  | [t0],_=>
   have g1:decide ((([t0]:List Tok).length:Int)>1)=false:=rfl
   simp(disch:=(try simp only[hN]);omega)only[go_sem,simprocAttr,g1]
   exact ⟨rfl,rfl⟩
  | t0::t1::tl,_=>
   have g1:decide (((t0::t1::tl).length:Int)>1)=true:=decide_eq_true (by simp only[List.length_cons];omega)
   have g2:decide ((1:Int)<((t0::t1::tl).length:Int))=true:=decide_eq_true (by simp only[List.length_cons];omega)
   rcases ht with ⟨e,_⟩|⟨b,vb,k,all,rfl,hb,hc,hd⟩
   ·cases e
   have ha1:all[k+1]?=some t1:=by
    have:=congrArg (fun l=>l[1]?) hd
    simpa using this
   have u0:(toksAV all)[k*5+5]?=some (.int .i64 (t1.kind:Int)):=tok5 (k:=k+1) (j:=0) ha1 (by decide) rfl (by omega)
   have u1:(toksAV all)[k*5+5+1]?=some (.str t1.text):=tok5 (k:=k+1) (j:=1) ha1 (by decide) rfl (by omega)
   generalize hn:((t0::t1::tl).length:Int)=N at *
   have hsm1:(t1::tl).length≤2000:=by simp only[List.length_cons] at hsm ⊢;omega
   have hsm2:tl.length≤2000:=by simp only[List.length_cons] at hsm ⊢;omega
   cases hk5:((t1.kind:Int)==5)
   ·have hm:∀w,mark2 (t0::t1::tl) w=false:=fun w=>by
     have:¬t1.kind=5:=fun e=>by rw[e] at hk5;cases hk5
     simp [mark2,this]
    simp(disch:=(try simp only[hN]);omega)only[go_sem,simprocAttr,g1,g2,hr,hc,u0,hk5]
    exact ⟨hm _,hm _⟩
   have hk5':t1.kind=5:=by
     have:(t1.kind:Int)=5:=by simpa using hk5
     omega
   cases ha:(t1.text==[58,61])
   ·cases hbr:(t1.text==[40])
    ·have hm1:mark2 (t0::t1::tl) [58,61]=false:=by simp only[mark2,ha,Bool.and_false]
     have hm2:mark2 (t0::t1::tl) [40]=false:=by simp only[mark2,hbr,Bool.and_false]
     simp(disch:=(try simp only[hN]);omega)only[go_sem,simprocAttr,g1,g2,hr,hc,u0,u1,hk5,ha,hbr]
     exact ⟨hm1,hm2⟩
    ·have hm1:mark2 (t0::t1::tl) [58,61]=false:=by simp only[mark2,ha,Bool.and_false]
     have hm2:mark2 (t0::t1::tl) [40]=true:=by simp [mark2,hbr,hk5']
     unfold wordedP at hQ
     rw[hm1,hm2] at hQ
     simp only[Bool.false_eq_true,if_false,if_true,List.tail_cons] at hQ
     simp(disch:=(try simp only[hN]);omega)only[go_sem,simprocAttr,g1,g2,hr,hc,u0,u1,hk5,ha,hbr]
     refine take_tok (k:=1) hp1 (by decide) ?_
     rw[if_pos hk1]
     intro h2 hf2 hp2
     have hn2:=hf2.n;try simp only[hN] at hn2
     have r0:=(hf2.old h.n (by omega) (by omega)).trans q0
     simp(disch:=(try simp only[hN]);omega)only[go_sem,simprocAttr,tokAV,r0]
     refine args_tok (hp2.le (by simp only[hN];omega) fun b hb=>by simp(disch:=(try simp only[hN]);omega)only[go_sem,simprocAttr]) (by rw[List.tail_cons];exact hsm1) ?_
     rw[List.tail_cons]
     cases hx:argsP E lv (t1::tl) with
     | error e=>
      obtain ⟨e,p⟩:=e
      rw[hx] at hQ
      intro h3 hf3
      have hn3:=hf3.n;try simp only[hN] at hn3
      simp(disch:=(try simp only[hN]);omega)only[go_sem,simprocAttr]
      exact hQ _ ⟨by (try simp only[hN]);omega,fun b hb hne=>by (try simp only[hN] at hb hne);simp(disch:=(try simp only[hN]);omega)only[go_sem,simprocAttr,hf3.old,hf2.old,hf]⟩
     | ok y=>
      obtain ⟨ks,ts3⟩:=y
      rw[hx] at hQ
      intro h3 hf3 hp3 kv hk3
      have hn3:=hf3.n;try simp only[hN] at hn3
      have s0:h3.get h.n=some ⟨0,.cells .own 0 zN⟩:=by simp(disch:=(try simp only[hN]);omega)only[go_sem,simprocAttr,hf3.old,r0]
      simp(disch:=(try simp only[hN]);omega)only[go_sem,simprocAttr,hf3.old,hk3.flat.1,hk3.flat.2,s0,r0,zN]
      exact hQ _ kv ⟨by (try simp only[hN]);omega,fun b hb hne=>by (try simp only[hN] at hb hne);simp(disch:=(try simp only[hN]);omega)only[go_sem,simprocAttr,hf3.old,hf2.old,hf]⟩ (hp3.le (by simp only[hN];omega) fun b hb=>by simp(disch:=(try simp only[hN]);omega)only[go_sem,simprocAttr]) (hk3.keep (by simp only[hN];omega) (by simp only[hN];omega) fun b hb1 hb2=>by simp only[AHeap.alloc_n,AHeap.upd_n] at hb1;simp(disch:=(try simp only[hN]);omega)only[go_sem,simprocAttr])
   ·have ha':t1.text=[58,61]:=eq_of_beq ha
    have hm1:mark2 (t0::t1::tl) [58,61]=true:=by simp [mark2,ha',hk5']
    unfold wordedP at hQ
    rw[hm1] at hQ
    simp only[if_true,List.tail_cons] at hQ
    simp(disch:=(try simp only[hN]);omega)only[go_sem,simprocAttr,g1,g2,hr,hc,u0,u1,hk5,ha]
    refine take_tok (k:=1) hp1 (by decide) ?_
    rw[if_pos hk1]
    intro h2 hf2 hp2
    have hn2:=hf2.n;try simp only[hN] at hn2
    have r0:=(hf2.old h.n (by omega) (by omega)).trans q0
    have hm:isT [[58,61]] (t0::t1::tl).tail=true:=by simp [isT,hk5',ha']
    simp(disch:=(try simp only[hN]);omega)only[go_sem,simprocAttr,tokAV,r0]
    refine must_tok (hp2.le (by simp only[hN];omega) fun b hb=>by simp(disch:=(try simp only[hN]);omega)only[go_sem,simprocAttr]) ?_
    rw[if_pos hm]
    intro h3 hf3 hp3
    have hn3:=hf3.n;try simp only[hN] at hn3
    have s0:h3.get h.n=some ⟨0,.cells .own 0 zN⟩:=by simp(disch:=(try simp only[hN]);omega)only[go_sem,simprocAttr,hf3.old,r0]
    simp(disch:=(try simp only[hN]);omega)only[go_sem,simprocAttr]
    refine exprT_tok hp3 (exprT_fine (E:=E) lv _).ne ?_
    rw[List.tail_cons,List.tail_cons]
    cases hx:exprT E lv tl with
    | error e=>
     obtain ⟨e,p⟩:=e
     rw[hx] at hQ
     intro h4 hf4
     have hn4:=hf4.n;try simp only[hN] at hn4
     simp(disch:=(try simp only[hN]);omega)only[go_sem,simprocAttr]
     exact hQ _ ⟨by (try simp only[hN]);omega,fun b hb hne=>by (try simp only[hN] at hb hne);simp(disch:=(try simp only[hN]);omega)only[go_sem,simprocAttr,hf4.old,hf3.old,hf2.old,hf]⟩
    | ok y=>
     obtain ⟨m,ts3⟩:=y
     rw[hx] at hQ
     intro h4 kv hf4 hp4 hk4
     have hn4:=hf4.n;try simp only[hN] at hn4
     have v0:h4.get h.n=some ⟨0,.cells .own 0 zN⟩:=by simp(disch:=(try simp only[hN]);omega)only[go_sem,simprocAttr,hf4.old,s0]
     simp(disch:=(try simp only[hN]);omega)only[go_sem,simprocAttr,hf4.old,hf3.old,hk4.flat.1,hk4.flat.2,v0,s0,r0,zN]
     refine hQ _ _ ⟨by (try simp only[hN]);omega,fun b hb hne=>by (try simp only[hN] at hb hne);simp(disch:=(try simp only[hN]);omega)only[go_sem,simprocAttr,hf4.old,hf3.old,hf2.old,hf]⟩ (hp4.le (by simp only[hN];omega) fun b hb=>by simp(disch:=(try simp only[hN]);omega)only[go_sem,simprocAttr]) ?_
     exact KidsR.one (ver:=0) (kv:=kv) (hk4.keep (by omega) (by simp only[hN];omega) fun b hb1 hb2=>by simp(disch:=(try simp only[hN]);omega)only[go_sem,simprocAttr]) (by omega) (by simp only[hN];omega) (by simp(disch:=(try simp only[hN]);omega)only[go_sem,simprocAttr])
 ·rintro ⟨t,df⟩ h2 ⟨rfl,⟨m1,m2⟩,k0,k2,k3,hdf⟩
  simp only at k0 k2 k3 hdf
  subst hdf
  unfold wordedP at hQ
  rw[m1,m2] at hQ
  simp only[Bool.false_eq_true,if_false] at hQ
  simp(disch:=(try simp only[hN]);omega)only[go_sem,simprocAttr,k0,k2,k3]
  refine target_tok hp1 hsm ?_
  have hfi:=targetP_fine (E:=E) lv ts
  generalize (hdT E ts).pos=P at *
  cases hx:targetP E lv ts with
  | error e=>
   obtain ⟨e,p⟩:=e
   rw[hx] at hQ
   intro h3 hf3
   have hn3:=hf3.n;try simp only[hN] at hn3
   simp(disch:=(try simp only[hN]);omega)only[go_sem,simprocAttr]
   exact hQ _ ⟨by (try simp only[hN]);omega,fun b hb hne=>by (try simp only[hN] at hb hne);simp(disch:=(try simp only[hN]);omega)only[go_sem,simprocAttr,hf3.old,hf]⟩
  | ok y=>
   obtain ⟨m,ts1⟩:=y
   rw[hx] at hQ hfi
   simp only[FE] at hQ hfi
   intro h3 kv hf3 hp3 hk3
   have hn3:=hf3.n;try simp only[hN] at hn3
   have r0:=(hf3.old h.n (by omega) (by omega)).trans q0
   simp(disch:=(try simp only[hN]);omega)only[go_sem,simprocAttr,k0,k2,k3,hk3.flat.1,hk3.flat.2]
   cases hk28:(m.kind==28)
   ·simp(disch:=(try simp only[hN]);omega)only[go_sem,simprocAttr,k0,k2,k3]
    refine must_tok (hp3.le (by simp only[hN];omega) fun b hb=>by simp(disch:=(try simp only[hN]);omega)only[go_sem,simprocAttr]) ?_
    by_cases hm:isT [[61]] ts1=true
    ·simp only[mustP,if_pos hm] at hQ
     rw[if_pos hm]
     intro h5 hf5 hp5
     have hn5:=hf5.n;try simp only[hN] at hn5
     have t0:h5.get h.n=some ⟨0,.cells .own 0 zN⟩:=by simp(disch:=(try simp only[hN]);omega)only[go_sem,simprocAttr,hf5.old,hf3.old,q0,r0,zN]
     have t1:h5.get h3.n=some ⟨1,.cells .own 0 (ndC m kv)⟩:=by simp(disch:=(try simp only[hN]);omega)only[go_sem,simprocAttr,hf5.old,hf3.old,ndC]
     have hk5:KidsR (h.n+1) h5 m.kids kv:=hk3.keep (by omega) (by omega) fun b hb1 hb2=>by simp(disch:=(try simp only[hN]);omega)only[go_sem,simprocAttr,hf5.old,hf3.old]
     have hf':∀b',b'<h.n→b'≠r→h5.get b'=h.get b':=fun b' hb' hr'=>by simp(disch:=(try simp only[hN]);omega)only[go_sem,simprocAttr,hf5.old,hf3.old,hf3.old,hf]
     clear hf5 hf3 hk3
     simp(disch:=(try simp only[hN]);omega)only[go_sem,simprocAttr,t1,ndC,k0,k2,k3]
     refine exprT_tok hp5 (exprT_fine (E:=E) lv _).ne ?_
     cases hx:exprT E lv ts1.tail with
     | error e=>
      obtain ⟨e,p⟩:=e
      rw[hx] at hQ
      intro h6 hf6
      have hn6:=hf6.n;try simp only[hN] at hn6
      simp(disch:=(try simp only[hN]);omega)only[go_sem,simprocAttr,k0,k2,k3,hf6.old,t1]
      exact hQ _ ⟨by (try simp only[hN]);omega,fun b hb hne=>by (try simp only[hN] at hb hne);simp(disch:=(try simp only[hN]);omega)only[go_sem,simprocAttr,hf6.old,hf']⟩
     | ok y=>
      obtain ⟨m2,ts3⟩:=y
      rw[hx] at hQ
      intro h6 kv2 hf6 hp6 hk6
      have hn6:=hf6.n;try simp only[hN] at hn6
      have u0:h6.get h.n=some ⟨0,.cells .own 0 zN⟩:=by simp(disch:=(try simp only[hN]);omega)only[go_sem,simprocAttr,hf6.old,t0]
      have u1:h6.get h3.n=some ⟨1,.cells .own 0 (ndC m kv)⟩:=by simp(disch:=(try simp only[hN]);omega)only[go_sem,simprocAttr,hf6.old,t1]
      simp(disch:=(try simp only[hN]);omega)only[go_sem,simprocAttr,hf6.old,hk5.flat.1,hk5.flat.2,hk6.flat.1,hk6.flat.2,u0,u1,t1,t0,zN,ndC,k0,k2,k3]
      refine hQ _ _ ⟨by (try simp only[hN]);omega,fun b hb hne=>by (try simp only[hN] at hb hne);simp(disch:=(try simp only[hN]);omega)only[go_sem,simprocAttr,hf6.old,hf']⟩ (hp6.le (by simp only[hN];omega) fun b hb=>by simp(disch:=(try simp only[hN]);omega)only[go_sem,simprocAttr]) ?_
      exact KidsR.two (n:=m) (m:=m2) (ver:=0) (kv:=kv) (mv:=kv2) (hk5.keep (by omega) (by simp only[hN];omega) fun b hb1 hb2=>by simp(disch:=(try simp only[hN]);omega)only[go_sem,simprocAttr,hf6.old]) (hk6.keep (by omega) (by simp only[hN];omega) fun b hb1 hb2=>by simp(disch:=(try simp only[hN]);omega)only[go_sem,simprocAttr]) (by omega) (by simp only[hN];omega) (by simp(disch:=(try simp only[hN]);omega)only[go_sem,simprocAttr,ndC,List.cons_append,List.nil_append])
    ·simp only[mustP,if_neg hm] at hQ
     rw[if_neg hm]
     intro h5 hf5
     have hn5:=hf5.n;try simp only[hN] at hn5
     simp(disch:=(try simp only[hN]);omega)only[go_sem,simprocAttr]
     exact hQ _ ⟨by (try simp only[hN]);omega,fun b hb hne=>by (try simp only[hN] at hb hne);simp(disch:=(try simp only[hN]);omega)only[go_sem,simprocAttr,hf5.old,hf3.old,hf3.old,hf]⟩
   ·simp(disch:=(try simp only[hN]);omega)only[go_sem,simprocAttr,k0,k2,k3]
    refine is_tok (ws:=[[61]]) (md:=.own) (ver:=0) (E:=E) (ts:=ts1) (lv:=lv) (hp3.le (by simp only[hN];omega) fun b hb=>by simp(disch:=(try simp only[hN]);omega)only[go_sem,simprocAttr]) (by (first|(simp(disch:=(try simp only[hN]);omega)only[go_sem,simprocAttr,List.map];done)|(simp(disch:=(try simp only[hN]);omega)only[go_sem,simprocAttr,List.map];rfl))) (by simp only[hN];omega) (show 1<2^62 by decide) ?_
    intro h4 hf4
    have hn4:=hf4.n;try simp only[hN] at hn4
    have hp4:PInv h4 r E ts1 lv:=hp3.le (by omega) fun b hb=>by simp(disch:=(try simp only[hN]);omega)only[go_sem,simprocAttr,hf4.old]
    cases hi:isT [[61]] ts1
    ·have hi':¬isT [[61]] ts1=true:=by rw[hi];decide
     simp only[mustP,if_neg hi'] at hQ
     simp(disch:=(try simp only[hN]);omega)only[go_sem,simprocAttr,k0,k2,k3]
     refine wrong_tok hp4 ?_
     intro h5 hf5
     have hn5:=hf5.n;try simp only[hN] at hn5
     simp(disch:=(try simp only[hN]);omega)only[go_sem,simprocAttr]
     exact hQ _ ⟨by (try simp only[hN]);omega,fun b hb hne=>by (try simp only[hN] at hb hne);simp(disch:=(try simp only[hN]);omega)only[go_sem,simprocAttr,hf5.old,hf4.old,hf3.old,hf]⟩
    ·simp(disch:=(try simp only[hN]);omega)only[go_sem,simprocAttr,k0,k2,k3]
     refine must_tok hp4 ?_
     by_cases hm:isT [[61]] ts1=true
     ·simp only[mustP,if_pos hm] at hQ
      rw[if_pos hm]
      intro h5 hf5 hp5
      have hn5:=hf5.n;try simp only[hN] at hn5
      have t0:h5.get h.n=some ⟨0,.cells .own 0 zN⟩:=by simp(disch:=(try simp only[hN]);omega)only[go_sem,simprocAttr,hf5.old,hf4.old,q0,r0,zN]
      have t1:h5.get h3.n=some ⟨1,.cells .own 0 (ndC m kv)⟩:=by simp(disch:=(try simp only[hN]);omega)only[go_sem,simprocAttr,hf5.old,hf4.old,ndC]
      have hk5:KidsR (h.n+1) h5 m.kids kv:=hk3.keep (by omega) (by omega) fun b hb1 hb2=>by simp(disch:=(try simp only[hN]);omega)only[go_sem,simprocAttr,hf5.old,hf4.old]
      have hf':∀b',b'<h.n→b'≠r→h5.get b'=h.get b':=fun b' hb' hr'=>by simp(disch:=(try simp only[hN]);omega)only[go_sem,simprocAttr,hf5.old,hf4.old,hf3.old,hf]
      clear hf5 hf4 hf3 hk3
      simp(disch:=(try simp only[hN]);omega)only[go_sem,simprocAttr,t1,ndC,k0,k2,k3]
      refine exprT_tok hp5 (exprT_fine (E:=E) lv _).ne ?_
      cases hx:exprT E lv ts1.tail with
      | error e=>
       obtain ⟨e,p⟩:=e
       rw[hx] at hQ
       intro h6 hf6
       have hn6:=hf6.n;try simp only[hN] at hn6
       simp(disch:=(try simp only[hN]);omega)only[go_sem,simprocAttr,k0,k2,k3,hf6.old,t1]
       exact hQ _ ⟨by (try simp only[hN]);omega,fun b hb hne=>by (try simp only[hN] at hb hne);simp(disch:=(try simp only[hN]);omega)only[go_sem,simprocAttr,hf6.old,hf']⟩
      | ok y=>
       obtain ⟨m2,ts3⟩:=y
       rw[hx] at hQ
       intro h6 kv2 hf6 hp6 hk6
       have hn6:=hf6.n;try simp only[hN] at hn6
       have u0:h6.get h.n=some ⟨0,.cells .own 0 zN⟩:=by simp(disch:=(try simp only[hN]);omega)only[go_sem,simprocAttr,hf6.old,t0]
       have u1:h6.get h3.n=some ⟨1,.cells .own 0 (ndC m kv)⟩:=by simp(disch:=(try simp only[hN]);omega)only[go_sem,simprocAttr,hf6.old,t1]
       simp(disch:=(try simp only[hN]);omega)only[go_sem,simprocAttr,hf6.old,hk5.flat.1,hk5.flat.2,hk6.flat.1,hk6.flat.2,u0,u1,t1,t0,zN,ndC,k0,k2,k3]
       refine hQ _ _ ⟨by (try simp only[hN]);omega,fun b hb hne=>by (try simp only[hN] at hb hne);simp(disch:=(try simp only[hN]);omega)only[go_sem,simprocAttr,hf6.old,hf']⟩ (hp6.le (by simp only[hN];omega) fun b hb=>by simp(disch:=(try simp only[hN]);omega)only[go_sem,simprocAttr]) ?_
       exact KidsR.two (n:=m) (m:=m2) (ver:=0) (kv:=kv) (mv:=kv2) (hk5.keep (by omega) (by simp only[hN];omega) fun b hb1 hb2=>by simp(disch:=(try simp only[hN]);omega)only[go_sem,simprocAttr,hf6.old]) (hk6.keep (by omega) (by simp only[hN];omega) fun b hb1 hb2=>by simp(disch:=(try simp only[hN]);omega)only[go_sem,simprocAttr]) (by omega) (by simp only[hN];omega) (by simp(disch:=(try simp only[hN]);omega)only[go_sem,simprocAttr,ndC,List.cons_append,List.nil_append])
     ·simp only[mustP,if_neg hm] at hQ
      rw[if_neg hm]
      intro h5 hf5
      have hn5:=hf5.n;try simp only[hN] at hn5
      simp(disch:=(try simp only[hN]);omega)only[go_sem,simprocAttr]
      exact hQ _ ⟨by (try simp only[hN]);omega,fun b hb hne=>by (try simp only[hN] at hb hne);simp(disch:=(try simp only[hN]);omega)only[go_sem,simprocAttr,hf5.old,hf4.old,hf3.old,hf]⟩
theorem isT_key {E:Nat} {w:Bs} {ts:List Tok} (hk:(hdT E ts).kind=2) (hw:(hdT E ts).text=w):isT [w] ts=true:=by
 cases ts with
 | nil=>cases hk
 | cons t tl=>simp only[hdT] at hk hw;simp [isT,hk,hw]
theorem eq_bs {a b:Bs} (h:a=b):(a==b)=true:=by subst h;exact beq_self_eq_true _
theorem ne_bs {a b:Bs} (h:¬a=b):(a==b)=false:=by cases hb:(a==b);rfl;exact absurd (eq_of_beq hb) h
theorem simple_tok {E:Nat}:PSpecT 73 E (simpleP E):=by
 intro h r lv ts Q hp hsm hQ
 refine WF.code F73 rfl ?_
 have hlt:=hp.hi
 simp(disch:=(try simp only[hN]);omega)only[go_sem,simprocAttr]
 refine here_tok (E:=E) (lv:=lv) (ts:=ts) (hp.fr ⟨by (try simp only[hN]);omega,fun b hb hne=>by (try simp only[hN] at hb hne);simp(disch:=(try simp only[hN]);omega)only[go_sem,simprocAttr]⟩) ?_
 intro h1 hf1
 have hn1:=hf1.n;try simp only[hN] at hn1
 have q0:h1.get h.n=some ⟨0,.cells .own 0 zN⟩:=by simp(disch:=(try simp only[hN]);omega)only[go_sem,simprocAttr,hf1.old]
 have hf:∀b',b'<h.n→h1.get b'=h.get b':=fun b' hb'=>by simp(disch:=(try simp only[hN]);omega)only[go_sem,simprocAttr,hf1.old]
 have hp1:PInv h1 r E ts lv:=hp.fr ⟨by (try simp only[hN]);omega,fun b hb hne=>by (try simp only[hN] at hb hne);simp(disch:=(try simp only[hN]);omega)only[go_sem,simprocAttr,hf]⟩
 have hlt1:=hp1.hi
 clear hf1
 simp(disch:=(try simp only[hN]);omega)only[go_sem,simprocAttr,tokAV]
 generalize hH:(h1.alloc (AObj.cells Md.own 0 [AV.int IntKind.i64 0,AV.str [],AV.int IntKind.i64 0,AV.int IntKind.u64 0,AV.int IntKind.i64 0])).upd h1.n 1 (AObj.cells Md.own 0 [AV.int IntKind.i64 ((hdT E ts).kind:Int),AV.str (hdT E ts).text,AV.int IntKind.i64 ((hdT E ts).n:Int),AV.int IntKind.u64 ((hdT E ts).bits:Int),AV.int IntKind.i64 ((hdT E ts).pos:Int)])=H
 have hHn:H.n=h1.n+1:=by rw[←hH];simp(disch:=(try simp only[hN]);omega)only[go_sem,simprocAttr]
 have hH1:∀b',b'<h1.n→H.get b'=h1.get b':=fun b' hb'=>by rw[←hH];simp(disch:=(try simp only[hN]);omega)only[go_sem,simprocAttr]
 have hHt:H.get h1.n=some ⟨1,.cells .own 0 [.int .i64 ((hdT E ts).kind:Int),.str (hdT E ts).text,.int .i64 ((hdT E ts).n:Int),.int .u64 ((hdT E ts).bits:Int),.int .i64 ((hdT E ts).pos:Int)]⟩:=by rw[←hH];simp(disch:=(try simp only[hN]);omega)only[go_sem,simprocAttr]
 have hpH:PInv H r E ts lv:=hp1.fr ⟨by omega,fun b hb _=>hH1 b hb⟩
 have q0:H.get h.n=some ⟨0,.cells .own 0 zN⟩:=by rw[hH1 _ (by omega)];exact q0
 have hf:∀b',b'<h.n→H.get b'=h.get b':=fun b' hb'=>by rw[hH1 _ (by omega),hf _ hb']
 generalize h1.n=B at *
 clear hH1 hp1 hH
 unfold simpleP at hQ
 by_cases k1:(hdT E ts).kind=1
 ·rw[if_pos k1] at hQ
  have e1:(((hdT E ts).kind:Int)==1)=true:=by simp [k1]
  simp(disch:=(try simp only[hN]);omega)only[go_sem,simprocAttr,hHt,e1]
  refine worded_tok hpH k1 hsm ?_
  cases hx:wordedP E lv ts with
  | error e=>
   obtain ⟨e,p⟩:=e
   rw[hx] at hQ
   intro h2 hf2
   have hn2:=hf2.n;try simp only[hN] at hn2
   simp(disch:=(try simp only[hN]);omega)only[go_sem,simprocAttr]
   exact hQ _ ⟨by (try simp only[hN]);omega,fun b hb hne=>by (try simp only[hN] at hb hne);simp(disch:=(try simp only[hN]);omega)only[go_sem,simprocAttr,hf2.old,hf]⟩
  | ok y=>
   obtain ⟨k,ts2⟩:=y
   rw[hx] at hQ
   intro h2 kv hf2 hp2 hk2
   have hn2:=hf2.n;try simp only[hN] at hn2
   have q3:=(hf2.old h.n (by omega) (by omega)).trans q0
   simp(disch:=(try simp only[hN]);omega)only[go_sem,simprocAttr,q3,zN,hk2.flat.1,hk2.flat.2]
   exact hQ _ kv ⟨by (try simp only[hN]);omega,fun b hb hne=>by (try simp only[hN] at hb hne);simp(disch:=(try simp only[hN]);omega)only[go_sem,simprocAttr,hf2.old,hf]⟩ (hp2.fr' (q:=h.n) (Fr.upd _ _ _) hlt) (hk2.keep (by omega) (by simp only[hN];omega) fun b hb1 hb2=>by simp(disch:=(try simp only[hN]);omega)only[go_sem,simprocAttr])
 rw[if_neg k1] at hQ
 have e1:(((hdT E ts).kind:Int)==1)=false:=by simp;omega
 by_cases k2:(hdT E ts).kind≠2
 ·rw[if_pos k2] at hQ
  have e2:(((hdT E ts).kind:Int) != 2)=true:=by simp;omega
  simp(disch:=(try simp only[hN]);omega)only[go_sem,simprocAttr,hHt,e1,e2]
  refine wrong_tok hpH ?_
  intro h2 hf2
  have hn2:=hf2.n;try simp only[hN] at hn2
  simp(disch:=(try simp only[hN]);omega)only[go_sem,simprocAttr]
  exact hQ _ ⟨by (try simp only[hN]);omega,fun b hb hne=>by (try simp only[hN] at hb hne);simp(disch:=(try simp only[hN]);omega)only[go_sem,simprocAttr,hf2.old,hf]⟩
 rw[if_neg k2] at hQ
 have k2:(hdT E ts).kind=2:=by omega
 have e2:(((hdT E ts).kind:Int) != 2)=false:=by simp [k2]
 simp(disch:=(try simp only[hN]);omega)only[go_sem,simprocAttr,hHt,e1,e2]
 clear e1 e2
 have hne:=hdT_ne (E:=E) (ts:=ts) (by omega)
 by_cases g:(hdT E ts).text=[103,111]
 ·rw[if_pos g] at hQ
  simp(disch:=(try simp only[hN]);omega)only[go_sem,simprocAttr,hHt,eq_bs g]
  refine must_tok hpH ?_
  rw[if_pos (isT_key k2 g)]
  intro h2 hf2 hp2
  have hn2:=hf2.n;try simp only[hN] at hn2
  have r1:=(hf2.old B (by omega) (by omega)).trans hHt
  have r0:=(hf2.old h.n (by omega) (by omega)).trans q0
  have hf':∀b',b'<h.n→b'≠r→h2.get b'=h.get b':=fun b' hb1 hb2=>by simp(disch:=(try simp only[hN]);omega)only[go_sem,simprocAttr,hf2.old,hf]
  clear hf2 hf hHt q0
  have d1:decide (B=h2.n)=false:=decide_eq_false (by omega)
  have d2:decide (h2.n=B)=false:=decide_eq_false (by omega)
  simp(disch:=(try simp only[hN]);omega)only[go_sem,simprocAttr,r1,d1]
  unfold goP takeP at hQ
  have hsm1:ts.tail.length≤2000:=by rw[List.length_tail];omega
  generalize (hdT E ts).pos=P at *
  generalize ts.tail=ts1 at *
  refine take_tok (k:=1) (hp2.le (by simp only[hN];omega) fun b hb=>by simp(disch:=(try simp only[hN]);omega)only[go_sem,simprocAttr]) (by decide) ?_
  by_cases hk:(hdT E ts1).kind=1
  ·rw[if_pos hk] at hQ ⊢
   simp only at hQ
   intro h3 hf3 hp3
   have hn3:=hf3.n;try simp only[hN] at hn3
   have s1:h3.get B=h2.get B:=by simp(disch:=(try simp only[hN]);omega)only[go_sem,simprocAttr,hf3.old]
   have s2:h3.get h2.n=some ⟨0,.cells .own 0 zN⟩:=by simp(disch:=(try simp only[hN]);omega)only[go_sem,simprocAttr,hf3.old,zN]
   have s0:h3.get h.n=some ⟨0,.cells .own 0 zN⟩:=by simp(disch:=(try simp only[hN]);omega)only[go_sem,simprocAttr,hf3.old,r0,zN]
   have hf3':∀b',b'<h.n→b'≠r→h3.get b'=h.get b':=fun b' hb1 hb2=>by simp(disch:=(try simp only[hN]);omega)only[go_sem,simprocAttr,hf3.old,hf']
   have hsm2:ts1.tail.length≤2000:=by rw[List.length_tail];omega
   rw[r1] at s1
   clear hf3 hf'
   simp(disch:=(try simp only[hN]);omega)only[go_sem,simprocAttr,tokAV,s1,s2,r1,zN,d1,d2]
   refine args_tok (hp3.le (by simp only[hN];omega) fun b hb=>by simp(disch:=(try simp only[hN]);omega)only[go_sem,simprocAttr]) hsm2 ?_
   cases hx:argsP E lv ts1.tail with
   | error e=>
    obtain ⟨e,p⟩:=e
    rw[hx] at hQ
    intro h4 hf4
    have hn4:=hf4.n;try simp only[hN] at hn4
    simp(disch:=(try simp only[hN]);omega)only[go_sem,simprocAttr]
    exact hQ _ ⟨by (try simp only[hN]);omega,fun b hb hne=>by (try simp only[hN] at hb hne);simp(disch:=(try simp only[hN]);omega)only[go_sem,simprocAttr,hf4.old,hf3']⟩
   | ok y=>
    obtain ⟨ks,ts4⟩:=y
    rw[hx] at hQ
    intro h4 hf4 hp4 kv hk4
    have hn4:=hf4.n;try simp only[hN] at hn4
    have t2:h4.get h2.n=some ⟨1,.cells .own 0 [.int .i64 12,.int .i64 (P:Int),.str (hdT E ts1).text,.int .i64 0,.int .i64 0,.int .i64 0,.int .i64 0,.int .u64 0,.nilSlice]⟩:=by simp(disch:=(try simp only[hN]);omega)only[go_sem,simprocAttr,hf4.old]
    have t0:h4.get h.n=some ⟨0,.cells .own 0 zN⟩:=by simp(disch:=(try simp only[hN]);omega)only[go_sem,simprocAttr,hf4.old,s0]
    have hf4':∀b',b'<h.n→b'≠r→h4.get b'=h.get b':=fun b' hb1 hb2=>by simp(disch:=(try simp only[hN]);omega)only[go_sem,simprocAttr,hf4.old,hf3']
    clear hf4 hf3'
    simp(disch:=(try simp only[hN]);omega)only[go_sem,simprocAttr,t2,t0,zN,hk4.flat.1,hk4.flat.2]
    exact hQ _ kv ⟨by (try simp only[hN]);omega,fun b hb hne=>by (try simp only[hN] at hb hne);simp(disch:=(try simp only[hN]);omega)only[go_sem,simprocAttr,hf4']⟩ (hp4.le (by simp only[hN];omega) fun b hb=>by simp(disch:=(try simp only[hN]);omega)only[go_sem,simprocAttr]) (hk4.keep (by simp only[hN];omega) (by simp only[hN];omega) fun b hb1 hb2=>by simp only[AHeap.alloc_n,AHeap.upd_n] at hb1;simp(disch:=(try simp only[hN]);omega)only[go_sem,simprocAttr])
  ·rw[if_neg hk] at hQ ⊢
   intro h3 hf3
   have hn3:=hf3.n;try simp only[hN] at hn3
   simp(disch:=(try simp only[hN]);omega)only[go_sem,simprocAttr,r1,hf3.old]
   exact hQ _ ⟨by (try simp only[hN]);omega,fun b hb hne=>by (try simp only[hN] at hb hne);simp(disch:=(try simp only[hN]);omega)only[go_sem,simprocAttr,hf3.old,hf']⟩
 rw[if_neg g] at hQ
 simp(disch:=(try simp only[hN]);omega)only[go_sem,simprocAttr,hHt,ne_bs g]
 clear g
 by_cases g:(hdT E ts).text=[108,111,99,107]
 ·rw[if_pos g] at hQ
  simp(disch:=(try simp only[hN]);omega)only[go_sem,simprocAttr,hHt,eq_bs g]
  refine named_tok (kd:=14) (what:=0) (by decide) hpH hne hsm ?_
  cases hx:namedP E 14 0 lv ts with
  | error e=>
   obtain ⟨e,p⟩:=e
   rw[hx] at hQ
   intro h2 hf2
   have hn2:=hf2.n;try simp only[hN] at hn2
   simp(disch:=(try simp only[hN]);omega)only[go_sem,simprocAttr]
   exact hQ _ ⟨by (try simp only[hN]);omega,fun b hb hne=>by (try simp only[hN] at hb hne);simp(disch:=(try simp only[hN]);omega)only[go_sem,simprocAttr,hf2.old,hf]⟩
  | ok y=>
   obtain ⟨k,ts2⟩:=y
   rw[hx] at hQ
   intro h2 kv hf2 hp2 hk2
   have hn2:=hf2.n;try simp only[hN] at hn2
   have q3:=(hf2.old h.n (by omega) (by omega)).trans q0
   simp(disch:=(try simp only[hN]);omega)only[go_sem,simprocAttr,q3,zN,hk2.flat.1,hk2.flat.2]
   exact hQ _ kv ⟨by (try simp only[hN]);omega,fun b hb hne=>by (try simp only[hN] at hb hne);simp(disch:=(try simp only[hN]);omega)only[go_sem,simprocAttr,hf2.old,hf]⟩ (hp2.fr' (q:=h.n) (Fr.upd _ _ _) hlt) (hk2.keep (by omega) (by simp only[hN];omega) fun b hb1 hb2=>by simp(disch:=(try simp only[hN]);omega)only[go_sem,simprocAttr])
 rw[if_neg g] at hQ
 simp(disch:=(try simp only[hN]);omega)only[go_sem,simprocAttr,hHt,ne_bs g]
 clear g
 by_cases g:(hdT E ts).text=[117,110,108,111,99,107]
 ·rw[if_pos g] at hQ
  simp(disch:=(try simp only[hN]);omega)only[go_sem,simprocAttr,hHt,eq_bs g]
  refine named_tok (kd:=15) (what:=0) (by decide) hpH hne hsm ?_
  cases hx:namedP E 15 0 lv ts with
  | error e=>
   obtain ⟨e,p⟩:=e
   rw[hx] at hQ
   intro h2 hf2
   have hn2:=hf2.n;try simp only[hN] at hn2
   simp(disch:=(try simp only[hN]);omega)only[go_sem,simprocAttr]
   exact hQ _ ⟨by (try simp only[hN]);omega,fun b hb hne=>by (try simp only[hN] at hb hne);simp(disch:=(try simp only[hN]);omega)only[go_sem,simprocAttr,hf2.old,hf]⟩
  | ok y=>
   obtain ⟨k,ts2⟩:=y
   rw[hx] at hQ
   intro h2 kv hf2 hp2 hk2
   have hn2:=hf2.n;try simp only[hN] at hn2
   have q3:=(hf2.old h.n (by omega) (by omega)).trans q0
   simp(disch:=(try simp only[hN]);omega)only[go_sem,simprocAttr,q3,zN,hk2.flat.1,hk2.flat.2]
   exact hQ _ kv ⟨by (try simp only[hN]);omega,fun b hb hne=>by (try simp only[hN] at hb hne);simp(disch:=(try simp only[hN]);omega)only[go_sem,simprocAttr,hf2.old,hf]⟩ (hp2.fr' (q:=h.n) (Fr.upd _ _ _) hlt) (hk2.keep (by omega) (by simp only[hN];omega) fun b hb1 hb2=>by simp(disch:=(try simp only[hN]);omega)only[go_sem,simprocAttr])
 rw[if_neg g] at hQ
 simp(disch:=(try simp only[hN]);omega)only[go_sem,simprocAttr,hHt,ne_bs g]
 clear g
 by_cases g:(hdT E ts).text=[115,101,110,100]
 ·rw[if_pos g] at hQ
  simp(disch:=(try simp only[hN]);omega)only[go_sem,simprocAttr,hHt,eq_bs g]
  refine named_tok (kd:=16) (what:=1) (by decide) hpH hne hsm ?_
  cases hx:namedP E 16 1 lv ts with
  | error e=>
   obtain ⟨e,p⟩:=e
   rw[hx] at hQ
   intro h2 hf2
   have hn2:=hf2.n;try simp only[hN] at hn2
   simp(disch:=(try simp only[hN]);omega)only[go_sem,simprocAttr]
   exact hQ _ ⟨by (try simp only[hN]);omega,fun b hb hne=>by (try simp only[hN] at hb hne);simp(disch:=(try simp only[hN]);omega)only[go_sem,simprocAttr,hf2.old,hf]⟩
  | ok y=>
   obtain ⟨k,ts2⟩:=y
   rw[hx] at hQ
   intro h2 kv hf2 hp2 hk2
   have hn2:=hf2.n;try simp only[hN] at hn2
   have q3:=(hf2.old h.n (by omega) (by omega)).trans q0
   simp(disch:=(try simp only[hN]);omega)only[go_sem,simprocAttr,q3,zN,hk2.flat.1,hk2.flat.2]
   exact hQ _ kv ⟨by (try simp only[hN]);omega,fun b hb hne=>by (try simp only[hN] at hb hne);simp(disch:=(try simp only[hN]);omega)only[go_sem,simprocAttr,hf2.old,hf]⟩ (hp2.fr' (q:=h.n) (Fr.upd _ _ _) hlt) (hk2.keep (by omega) (by simp only[hN];omega) fun b hb1 hb2=>by simp(disch:=(try simp only[hN]);omega)only[go_sem,simprocAttr])
 rw[if_neg g] at hQ
 simp(disch:=(try simp only[hN]);omega)only[go_sem,simprocAttr,hHt,ne_bs g]
 clear g
 by_cases g:(hdT E ts).text=[114,101,99,118]
 ·rw[if_pos g] at hQ
  simp(disch:=(try simp only[hN]);omega)only[go_sem,simprocAttr,hHt,eq_bs g]
  refine named_tok (kd:=17) (what:=2) (by decide) hpH hne hsm ?_
  cases hx:namedP E 17 2 lv ts with
  | error e=>
   obtain ⟨e,p⟩:=e
   rw[hx] at hQ
   intro h2 hf2
   have hn2:=hf2.n;try simp only[hN] at hn2
   simp(disch:=(try simp only[hN]);omega)only[go_sem,simprocAttr]
   exact hQ _ ⟨by (try simp only[hN]);omega,fun b hb hne=>by (try simp only[hN] at hb hne);simp(disch:=(try simp only[hN]);omega)only[go_sem,simprocAttr,hf2.old,hf]⟩
  | ok y=>
   obtain ⟨k,ts2⟩:=y
   rw[hx] at hQ
   intro h2 kv hf2 hp2 hk2
   have hn2:=hf2.n;try simp only[hN] at hn2
   have q3:=(hf2.old h.n (by omega) (by omega)).trans q0
   simp(disch:=(try simp only[hN]);omega)only[go_sem,simprocAttr,q3,zN,hk2.flat.1,hk2.flat.2]
   exact hQ _ kv ⟨by (try simp only[hN]);omega,fun b hb hne=>by (try simp only[hN] at hb hne);simp(disch:=(try simp only[hN]);omega)only[go_sem,simprocAttr,hf2.old,hf]⟩ (hp2.fr' (q:=h.n) (Fr.upd _ _ _) hlt) (hk2.keep (by omega) (by simp only[hN];omega) fun b hb1 hb2=>by simp(disch:=(try simp only[hN]);omega)only[go_sem,simprocAttr])
 rw[if_neg g] at hQ
 simp(disch:=(try simp only[hN]);omega)only[go_sem,simprocAttr,hHt,ne_bs g]
 clear g
 by_cases g:(hdT E ts).text=[97,100,100]
 ·rw[if_pos g] at hQ
  simp(disch:=(try simp only[hN]);omega)only[go_sem,simprocAttr,hHt,eq_bs g]
  refine named_tok (kd:=18) (what:=1) (by decide) hpH hne hsm ?_
  cases hx:namedP E 18 1 lv ts with
  | error e=>
   obtain ⟨e,p⟩:=e
   rw[hx] at hQ
   intro h2 hf2
   have hn2:=hf2.n;try simp only[hN] at hn2
   simp(disch:=(try simp only[hN]);omega)only[go_sem,simprocAttr]
   exact hQ _ ⟨by (try simp only[hN]);omega,fun b hb hne=>by (try simp only[hN] at hb hne);simp(disch:=(try simp only[hN]);omega)only[go_sem,simprocAttr,hf2.old,hf]⟩
  | ok y=>
   obtain ⟨k,ts2⟩:=y
   rw[hx] at hQ
   intro h2 kv hf2 hp2 hk2
   have hn2:=hf2.n;try simp only[hN] at hn2
   have q3:=(hf2.old h.n (by omega) (by omega)).trans q0
   simp(disch:=(try simp only[hN]);omega)only[go_sem,simprocAttr,q3,zN,hk2.flat.1,hk2.flat.2]
   exact hQ _ kv ⟨by (try simp only[hN]);omega,fun b hb hne=>by (try simp only[hN] at hb hne);simp(disch:=(try simp only[hN]);omega)only[go_sem,simprocAttr,hf2.old,hf]⟩ (hp2.fr' (q:=h.n) (Fr.upd _ _ _) hlt) (hk2.keep (by omega) (by simp only[hN];omega) fun b hb1 hb2=>by simp(disch:=(try simp only[hN]);omega)only[go_sem,simprocAttr])
 rw[if_neg g] at hQ
 simp(disch:=(try simp only[hN]);omega)only[go_sem,simprocAttr,hHt,ne_bs g]
 clear g
 by_cases g:(hdT E ts).text=[112,117,116]
 ·rw[if_pos g] at hQ
  simp(disch:=(try simp only[hN]);omega)only[go_sem,simprocAttr,hHt,eq_bs g]
  refine named_tok (kd:=19) (what:=1) (by decide) hpH hne hsm ?_
  cases hx:namedP E 19 1 lv ts with
  | error e=>
   obtain ⟨e,p⟩:=e
   rw[hx] at hQ
   intro h2 hf2
   have hn2:=hf2.n;try simp only[hN] at hn2
   simp(disch:=(try simp only[hN]);omega)only[go_sem,simprocAttr]
   exact hQ _ ⟨by (try simp only[hN]);omega,fun b hb hne=>by (try simp only[hN] at hb hne);simp(disch:=(try simp only[hN]);omega)only[go_sem,simprocAttr,hf2.old,hf]⟩
  | ok y=>
   obtain ⟨k,ts2⟩:=y
   rw[hx] at hQ
   intro h2 kv hf2 hp2 hk2
   have hn2:=hf2.n;try simp only[hN] at hn2
   have q3:=(hf2.old h.n (by omega) (by omega)).trans q0
   simp(disch:=(try simp only[hN]);omega)only[go_sem,simprocAttr,q3,zN,hk2.flat.1,hk2.flat.2]
   exact hQ _ kv ⟨by (try simp only[hN]);omega,fun b hb hne=>by (try simp only[hN] at hb hne);simp(disch:=(try simp only[hN]);omega)only[go_sem,simprocAttr,hf2.old,hf]⟩ (hp2.fr' (q:=h.n) (Fr.upd _ _ _) hlt) (hk2.keep (by omega) (by simp only[hN];omega) fun b hb1 hb2=>by simp(disch:=(try simp only[hN]);omega)only[go_sem,simprocAttr])
 rw[if_neg g] at hQ
 simp(disch:=(try simp only[hN]);omega)only[go_sem,simprocAttr,hHt,ne_bs g]
 clear g
 by_cases g:(hdT E ts).text=[103,101,116]
 ·rw[if_pos g] at hQ
  simp(disch:=(try simp only[hN]);omega)only[go_sem,simprocAttr,hHt,eq_bs g]
  refine named_tok (kd:=20) (what:=2) (by decide) hpH hne hsm ?_
  cases hx:namedP E 20 2 lv ts with
  | error e=>
   obtain ⟨e,p⟩:=e
   rw[hx] at hQ
   intro h2 hf2
   have hn2:=hf2.n;try simp only[hN] at hn2
   simp(disch:=(try simp only[hN]);omega)only[go_sem,simprocAttr]
   exact hQ _ ⟨by (try simp only[hN]);omega,fun b hb hne=>by (try simp only[hN] at hb hne);simp(disch:=(try simp only[hN]);omega)only[go_sem,simprocAttr,hf2.old,hf]⟩
  | ok y=>
   obtain ⟨k,ts2⟩:=y
   rw[hx] at hQ
   intro h2 kv hf2 hp2 hk2
   have hn2:=hf2.n;try simp only[hN] at hn2
   have q3:=(hf2.old h.n (by omega) (by omega)).trans q0
   simp(disch:=(try simp only[hN]);omega)only[go_sem,simprocAttr,q3,zN,hk2.flat.1,hk2.flat.2]
   exact hQ _ kv ⟨by (try simp only[hN]);omega,fun b hb hne=>by (try simp only[hN] at hb hne);simp(disch:=(try simp only[hN]);omega)only[go_sem,simprocAttr,hf2.old,hf]⟩ (hp2.fr' (q:=h.n) (Fr.upd _ _ _) hlt) (hk2.keep (by omega) (by simp only[hN];omega) fun b hb1 hb2=>by simp(disch:=(try simp only[hN]);omega)only[go_sem,simprocAttr])
 rw[if_neg g] at hQ
 simp(disch:=(try simp only[hN]);omega)only[go_sem,simprocAttr,hHt,ne_bs g]
 clear g
 by_cases g:(hdT E ts).text=[114,101,116,117,114,110]
 ·rw[if_pos g] at hQ
  simp(disch:=(try simp only[hN]);omega)only[go_sem,simprocAttr,hHt,eq_bs g]
  refine must_tok hpH ?_
  rw[if_pos (isT_key k2 g)]
  intro h2 hf2 hp2
  have hn2:=hf2.n;try simp only[hN] at hn2
  have r1:=(hf2.old B (by omega) (by omega)).trans hHt
  have r0:=(hf2.old h.n (by omega) (by omega)).trans q0
  simp(disch:=(try simp only[hN]);omega)only[go_sem,simprocAttr,r1,r0,zN]
  exact hQ _ .nilSlice ⟨by (try simp only[hN]);omega,fun b hb hne=>by (try simp only[hN] at hb hne);simp(disch:=(try simp only[hN]);omega)only[go_sem,simprocAttr,hf2.old,hf]⟩ (hp2.fr' (q:=h.n) (Fr.upd _ _ _) hlt) .nil
 rw[if_neg g] at hQ
 simp(disch:=(try simp only[hN]);omega)only[go_sem,simprocAttr,hHt,ne_bs g]
 clear g
 unfold failP mustP at hQ
 refine must_tok hpH ?_
 by_cases g:isT [[102,97,105,108]] ts=true
 ·rw[if_pos g] at hQ ⊢
  simp only at hQ
  intro h2 hf2 hp2
  have hn2:=hf2.n;try simp only[hN] at hn2
  have r1:=(hf2.old B (by omega) (by omega)).trans hHt
  have r0:=(hf2.old h.n (by omega) (by omega)).trans q0
  have hf':∀b',b'<h.n→b'≠r→h2.get b'=h.get b':=fun b' hb1 hb2=>by simp(disch:=(try simp only[hN]);omega)only[go_sem,simprocAttr,hf2.old,hf]
  clear hf2 hf hHt q0
  simp(disch:=(try simp only[hN]);omega)only[go_sem,simprocAttr,r1]
  refine exprT_tok hp2 (exprT_fine (E:=E) lv _).ne ?_
  cases hx:exprT E lv ts.tail with
  | error e=>
   obtain ⟨e,p⟩:=e
   rw[hx] at hQ
   intro h3 hf3
   have hn3:=hf3.n;try simp only[hN] at hn3
   have s1:=(hf3.old B (by omega) (by omega)).trans r1
   simp(disch:=(try simp only[hN]);omega)only[go_sem,simprocAttr,s1,r1]
   exact hQ _ ⟨by (try simp only[hN]);omega,fun b hb hne=>by (try simp only[hN] at hb hne);simp(disch:=(try simp only[hN]);omega)only[go_sem,simprocAttr,hf3.old,hf']⟩
  | ok y=>
   obtain ⟨m,ts3⟩:=y
   rw[hx] at hQ
   intro h3 kv hf3 hp3 hk3
   have hn3:=hf3.n;try simp only[hN] at hn3
   have s1:=(hf3.old B (by omega) (by omega)).trans r1
   have s0:=(hf3.old h.n (by omega) (by omega)).trans r0
   simp(disch:=(try simp only[hN]);omega)only[go_sem,simprocAttr,s1,s0,r1,zN,hk3.flat.1,hk3.flat.2]
   exact hQ _ _ ⟨by (try simp only[hN]);omega,fun b hb hne=>by (try simp only[hN] at hb hne);simp(disch:=(try simp only[hN]);omega)only[go_sem,simprocAttr,hf3.old,hf']⟩ (hp3.le (by simp only[hN];omega) fun b hb=>by simp(disch:=(try simp only[hN]);omega)only[go_sem,simprocAttr]) (KidsR.one (n:=m) (ver:=0) (kv:=kv) (hk3.keep (by omega) (by simp only[hN];omega) fun b hb1 hb2=>by simp(disch:=(try simp only[hN]);omega)only[go_sem,simprocAttr]) (by omega) (by simp only[hN];omega) (by simp(disch:=(try simp only[hN]);omega)only[go_sem,simprocAttr]))
 ·rw[if_neg g] at hQ ⊢
  intro h2 hf2
  have hn2:=hf2.n;try simp only[hN] at hn2
  simp(disch:=(try simp only[hN]);omega)only[go_sem,simprocAttr]
  exact hQ _ ⟨by (try simp only[hN]);omega,fun b hb hne=>by (try simp only[hN] at hb hne);simp(disch:=(try simp only[hN]);omega)only[go_sem,simprocAttr,hf2.old,hf]⟩
def MkOk (all:List Tok):Prop:=∀t∈all,(t.kind=5→∀c r,t.text=c::r→isLetter c=false)∧(t.kind=2→∀c r,t.text=c::r→isLetter c=true)
theorem sees_word {e E nx:Nat} {all:List Tok} (hmk:MkOk all) {w:Bs} {c:UInt8} {r:Bs} (hw:w=c::r) (hc:isLetter c=true) (h:seesT e (all.drop nx)=w):e=0∧nx<all.length∧(hdT E (all.drop nx)).kind=2∧(hdT E (all.drop nx)).text=w:=by
 unfold seesT at h
 split at h
 ·rename_i he
  cases hd:all.drop nx with
  | nil=>rw[hd] at h;rw[hw] at h;cases h
  | cons t ts=>
   rw[hd] at h
   have hmem:t∈all:=List.mem_of_mem_drop (hd ▸ List.mem_cons_self)
   have hlt:nx<all.length:=drop_ne (by rw[hd];exact List.cons_ne_nil _ _)
   simp only at h
   split at h
   ·rename_i hk
    rcases hk with hk|hk
    ·exact ⟨he,hlt,hk,h⟩
    ·have:=(hmk t hmem).1 hk c r (h.trans hw)
     rw[this] at hc;cases hc
   ·rw[hw] at h;cases h
 ·rw[hw] at h;cases h
theorem sees_of {E:Nat} {ts:List Tok} {w:Bs} (hk:(hdT E ts).kind=2) (ht:(hdT E ts).text=w):seesT 0 ts=w:=by
 cases ts with
 | nil=>cases hk
 | cons t ts=>simp only[hdT] at hk ht;simp [seesT,hk,ht]
theorem rtyp_tok {h:AHeap} {r E nx e q:Nat} {all:List Tok} (hmk:MkOk all) (hp:RInv h r E all nx e q) {Q:QR} (hQ:∀h' nx' e' q' (y:Nat),Fr r h h'→RInv h' r E all nx' e' q'→StA all e q (typP E (all.drop nx)) y nx' e' q'→Q (.ret (.int .i64 (y:Int))) h'):WF F 59 [.ptr r 0] h Q:=by
 refine WF.code F59 rfl ?_
 have hlt:=hp.hi
 simp(disch:=(try simp only[hN]);omega)only[go_sem,simprocAttr]
 refine sees_tok hp ?_
 intro h1 hf1
 have hn1:=hf1.n;try simp only[hN] at hn1
 have hp1:=hp.fr hf1
 have good:∀(w:Bs) (k:Nat),seesT e (all.drop nx)=w→(∃c s,w=c::s∧isLetter c=true)→(∀t:Tok,t.kind=2→t.text=w→typN t=k)→k≠0→e=0∧nx<all.length∧typP E (all.drop nx)=.ok (k,all.drop (nx+1)):=by
  intro w k hs ⟨c,s,hw,hc⟩ ht hk
  obtain ⟨h0,h1,h2,h3⟩:=sees_word (E:=E) hmk hw hc hs
  have:=ht _ h2 h3
  exact ⟨h0,h1,by rw[typP,this,if_neg hk,drop_tail]⟩
 obtain ⟨ver,v,hr,hl,hfl,hb⟩:=hp1.st
 have hsm:=hp1.small
 have e1:((nx:Int)+1)=((nx+1:Nat):Int):=by omega
 simp(disch:=(try simp only[hN]);omega)only[go_sem,simprocAttr]
 by_cases g1:seesT e (all.drop nx)=[105,110,116]
 ·obtain ⟨rfl,hnx,hty⟩:=good _ 1 g1 ⟨_,_,rfl,rfl⟩ (fun t h2 h3=>by simp [typN,h2,h3]) (by decide)
  simp(disch:=(try simp only[hN]);omega)only[go_sem,simprocAttr,eq_bs g1,hr,e1]
  exact hQ _ (nx+1) 0 q 1 ⟨by (try simp only[hN]);omega,fun b hb hne=>by (try simp only[hN] at hb hne);simp(disch:=(try simp only[hN]);omega)only[go_sem,simprocAttr,hf1.old]⟩ (hp1.step (ver:=ver) (ver':=ver+1) (Fr.upd _ _ _) (by omega) hr (by simp(disch:=(try simp only[hN]);omega)only[go_sem,simprocAttr])) ⟨fun _=>.inl ⟨rfl,rfl,hty⟩,fun h=>absurd rfl h⟩
 simp(disch:=(try simp only[hN]);omega)only[go_sem,simprocAttr,ne_bs g1]
 by_cases g2:seesT e (all.drop nx)=[102,108,111,97,116]
 ·obtain ⟨rfl,hnx,hty⟩:=good _ 2 g2 ⟨_,_,rfl,rfl⟩ (fun t h2 h3=>by simp [typN,h2,h3]) (by decide)
  simp(disch:=(try simp only[hN]);omega)only[go_sem,simprocAttr,eq_bs g2,hr,e1]
  exact hQ _ (nx+1) 0 q 2 ⟨by (try simp only[hN]);omega,fun b hb hne=>by (try simp only[hN] at hb hne);simp(disch:=(try simp only[hN]);omega)only[go_sem,simprocAttr,hf1.old]⟩ (hp1.step (ver:=ver) (ver':=ver+1) (Fr.upd _ _ _) (by omega) hr (by simp(disch:=(try simp only[hN]);omega)only[go_sem,simprocAttr])) ⟨fun _=>.inl ⟨rfl,rfl,hty⟩,fun h=>absurd rfl h⟩
 simp(disch:=(try simp only[hN]);omega)only[go_sem,simprocAttr,ne_bs g2]
 by_cases g3:seesT e (all.drop nx)=[98,111,111,108]
 ·obtain ⟨rfl,hnx,hty⟩:=good _ 3 g3 ⟨_,_,rfl,rfl⟩ (fun t h2 h3=>by simp [typN,h2,h3]) (by decide)
  simp(disch:=(try simp only[hN]);omega)only[go_sem,simprocAttr,eq_bs g3,hr,e1]
  exact hQ _ (nx+1) 0 q 3 ⟨by (try simp only[hN]);omega,fun b hb hne=>by (try simp only[hN] at hb hne);simp(disch:=(try simp only[hN]);omega)only[go_sem,simprocAttr,hf1.old]⟩ (hp1.step (ver:=ver) (ver':=ver+1) (Fr.upd _ _ _) (by omega) hr (by simp(disch:=(try simp only[hN]);omega)only[go_sem,simprocAttr])) ⟨fun _=>.inl ⟨rfl,rfl,hty⟩,fun h=>absurd rfl h⟩
 simp(disch:=(try simp only[hN]);omega)only[go_sem,simprocAttr,ne_bs g3]
 refine fail_tok (k:=2) hp1 ?_
 intro h2 hf2 hp2
 have hn2:=hf2.n;try simp only[hN] at hn2
 simp(disch:=(try simp only[hN]);omega)only[go_sem,simprocAttr]
 refine hQ _ nx _ _ 0 ⟨by (try simp only[hN]);omega,fun b hb hne=>by (try simp only[hN] at hb hne);simp(disch:=(try simp only[hN]);omega)only[go_sem,simprocAttr,hf2.old,hf1.old]⟩ hp2 ⟨fun he=>.inr ?_,fun he=>by rw[if_neg he,if_neg he];exact ⟨rfl,rfl⟩⟩
 subst he
 refine ⟨by decide,?_⟩
 have:typN (hdT E (all.drop nx))=0:=by
  unfold typN
  split
  ·rename_i hk
   split
   ·rename_i ht;exact absurd (sees_of hk ht) g1
   split
   ·rename_i ht;exact absurd (sees_of hk ht) g2
   split
   ·rename_i ht;exact absurd (sees_of hk ht) g3
   ·rfl
  ·rfl
 rw[typP,if_pos this]
 rfl
theorem args_st {all:List Tok} {E lv nx e q nx1 e1 q1 nx2 e2 q2 nx3 e3 q3:Nat} {ns:List Nd} (s1:StM all e q (openP E [40] lv (all.drop nx)) nx1 e1 q1) (s2:StA all e1 q1 (commaP E (exprT E (lv+1)) (all.drop nx1)) ns nx2 e2 q2) (s3:StM all e2 q2 (mustP E [41] (all.drop nx2)) nx3 e3 q3):StA all e q (argsP E lv (all.drop nx)) ns nx3 e3 q3:=by
 refine ⟨fun he=>?_,fun he=>?_⟩
 ·skip
  rcases s1.1 he with ⟨h1,rfl,r1⟩|⟨h1,r1⟩
  ·skip
   rcases s2.1 h1 with ⟨h2,rfl,r2⟩|⟨h2,r2⟩
   ·skip
    rcases s3.1 h2 with ⟨h3,rfl,r3⟩|⟨h3,r3⟩
    ·skip
     exact .inl ⟨h3,rfl,by simp only[argsP,r1,r2,r3]⟩
    ·skip
     exact .inr ⟨h3,by simp only[argsP,r1,r2,r3]⟩
   ·skip
    obtain ⟨rfl,rfl⟩:=s3.2 h2
    exact .inr ⟨h2,by simp only[argsP,r1,r2]⟩
  ·skip
   obtain ⟨rfl,rfl⟩:=s2.2 h1
   obtain ⟨rfl,rfl⟩:=s3.2 h1
   exact .inr ⟨h1,by simp only[argsP,r1]⟩
 ·obtain ⟨rfl,rfl⟩:=s1.2 he
  obtain ⟨rfl,rfl⟩:=s2.2 he
  obtain ⟨rfl,rfl⟩:=s3.2 he
  exact ⟨rfl,rfl⟩
theorem rlist_tok {h:AHeap} {r E nx e q lv:Nat} {all:List Tok} (hlv:lv≤16) (hp:RInv h r E all nx e q) {Q:QR} (hQ:∀h' ns v nx' e' q',Fr r h h'→RInv h' r E all nx' e' q'→v.flat=true→v.cells=[v]→StA all e q (argsP E lv (all.drop nx)) ns nx' e' q'→(e'=0→KidsR h.n h' ns v)→Q (.ret v) h'):WF F 84 [.ptr r 0,.int .i64 (lv:Int)] h Q:=by
 refine WF.code F84 rfl ?_
 have hlt:=hp.hi
 simp(disch:=(try simp only[hN]);omega)only[go_sem,simprocAttr]
 refine level_tok (by decide) hlv (hp.fr ⟨by (try simp only[hN]);omega,fun b hb hne=>by (try simp only[hN] at hb hne);simp(disch:=(try simp only[hN]);omega)only[go_sem,simprocAttr]⟩) ?_
 refine LevQ.all ?_
 intro h1 nx1 e1 q1 hf1 hp1 s1
 have hn1:=hf1.n;try simp only[hN] at hn1
 have hg1:GK (e1=0) h.n h1 (.slice h.n 0 0 0 true) []:=⟨[],rfl,.inr ⟨h.n,0,true,rfl,fun _=>rfl,Nat.le_refl _,by omega,by simp(disch:=(try simp only[hN]);omega)only[go_sem,simprocAttr,hf1.old]⟩,fun _=>.nil⟩
 have hfo:∀b',b'<h.n→b'≠r→h1.get b'=h.get b':=fun b' hb1 hb2=>by simp(disch:=(try simp only[hN]);omega)only[go_sem,simprocAttr,hf1.old]
 clear hf1
 simp(disch:=(try simp only[hN]);omega)only[go_sem,simprocAttr]
 refine sees_tok hp1 ?_
 intro h2 hf2
 have hn2:=hf2.n;try simp only[hN] at hn2
 have hp2:=hp1.fr hf2
 have hg2:=hg1.fr hf2 (.inr (Nat.le_refl _))
 have hfo:∀b',b'<h.n→b'≠r→h2.get b'=h.get b':=fun b' hb1 hb2=>by rw[hf2.all (by omega),hfo b' hb1 hb2]
 have hn0:h.n≤h2.n:=by omega
 clear hf2 hp1 hg1 hn1 hn2
 have hlv1:e1=0→lv+1≤16:=by
  intro h0
  by_cases he:e=0
  ·rcases s1.1 he with ⟨_,_,r1⟩|⟨h1,_⟩
   ·have:=(open_ok r1).2.2.1;omega
   ·exact absurd h0 h1
  ·have:=(s1.2 he).1;omega
 have hR:∃R,commaP E (exprT E (lv+1)) (all.drop nx1)=R:=⟨_,rfl⟩
 obtain ⟨R,hR⟩:=hR
 have hz:R≠.error (0,0):=by
  rw[←hR]
  exact (commaP_fine (E:=E) (x:=exprT E (lv+1)) (fun ts=>exprT_fine (lv+1) ts) _).ne
 by_cases g41:seesT e1 (all.drop nx1)=[41]
 ·have he1:e1=0:=by
   by_cases h0:e1=0
   ·exact h0
   ·simp [seesT,h0] at g41
  subst he1
  have hi:isT [[41]] (all.drop nx1)=true:=by rw[←seesT_is (by decide),g41];rfl
  have s2:StA all 0 q1 (commaP E (exprT E (lv+1)) (all.drop nx1)) ([]:List Nd) nx1 0 q1:=⟨fun _=>.inl ⟨rfl,rfl,by rw[commaP,if_pos hi]⟩,fun h=>absurd rfl h⟩
  simp(disch:=(try simp only[hN]);omega)only[go_sem,simprocAttr,bne,eq_bs g41]
  refine eat_tok (by decide) hp2 ?_
  refine EatQ.all ?_
  intro h3 nx3 e3 q3 hf3 hp3 s3
  have hn3:=hf3.n;try simp only[hN] at hn3
  have hk3:=(hg2.kids rfl (by decide)).fr hf3 (.inl hlt)
  simp(disch:=(try simp only[hN]);omega)only[go_sem,simprocAttr]
  exact hQ _ [] _ nx3 e3 q3 ⟨by (try simp only[hN]);omega,fun b hb hne=>by (try simp only[hN] at hb hne);simp(disch:=(try simp only[hN]);omega)only[go_sem,simprocAttr,hf3.old,hfo]⟩ hp3 rfl rfl (args_st s1 s2 s3) fun _=>hk3
 ·simp(disch:=(try simp only[hN]);omega)only[go_sem,simprocAttr,bne,ne_bs g41]
  refine wp_loopx 0 (fun g a h'=>∃ns v nx' e' q',GK (e'=0) h.n h' v ns∧RInv h' r E all nx' e' q'∧h.n≤h'.n∧(∀b',b'<h.n→b'≠r→h'.get b'=h.get b')∧ns.length+g≤2001∧(e'=0→e1=0∧q'=q1∧commaL E (exprT E (lv+1)) g ns (all.drop nx')=R)∧(e'≠0→StA all e1 q1 R ns nx' e' q')∧a.tm.get 0=some (.ptr r 0)∧a.tm.get 1=some (.int .i64 (lv:Int))∧a.tm.get 5=some v∧a.df=[])
   (fun a h'=>∃ns v nx' e' q',GK (e'=0) h.n h' v ns∧RInv h' r E all nx' e' q'∧h.n≤h'.n∧(∀b',b'<h.n→b'≠r→h'.get b'=h.get b')∧ns.length≤2001∧StA all e1 q1 R ns nx' e' q'∧a.tm.get 0=some (.ptr r 0)∧a.tm.get 5=some v∧a.df=[]) ?_ ?_ ((all.drop nx1).length+1) ?_
  ·rintro g ⟨t,df⟩ h3 ⟨ns,v,nx',e',q',hg,hp3,hn3,hf3,hlen,hgood,hbad,k0,k1,k5,hdf⟩
   simp only at k0 k1 k5 hdf
   subst hdf
   have hlt3:=hp3.hi
   obtain ⟨ver,vv,hr,hl,_,_⟩:=hp3.st
   by_cases he':e'=0
   ·obtain ⟨he1,hq,hcl⟩:=hgood he'
    subst he' he1 hq
    cases g with
    | zero=>exact absurd hcl.symm hz
    | succ g=>
     rw[commaL] at hcl
     have i0:(((0:Nat):Int)==0)=true:=rfl
     have i1:((lv:Int)+1)=((lv+1:Nat):Int):=by omega
     simp(disch:=(try simp only[hN]);omega)only[go_sem,simprocAttr,k0,k1,k5,hr,i0,i1]
     refine rexpr_st (fun _=>hlv1 rfl) hp3 ?_
     intro h4 n kv nx4 e4 q4 hf4 hp4 f1 f2 st4 hk4
     have hn4:=hf4.n;try simp only[hN] at hn4
     have hg4:GK (0=0) h.n (h4.alloc (.cells .own 9 (ndC n kv))) v ns:=(hg.fr hf4 (.inl hlt)).fr (Fr.alloc (Fr.refl h4.n h4) _) (.inr (Nat.le_refl _))
     obtain ⟨v5,h5,happ,hg5,hb5,hn5,ho5⟩:=hg4.append (g':=e4=0) (kv:=kv) (n:=n) (m:=h3.n) (by simp only[hN];omega) (by omega) f1 (fun h0=>⟨rfl,(hk4 h0).keep (lo':=h3.n) (Nat.le_refl _) (by simp only[hN];omega) fun b hb1 hb2=>by simp(disch:=(try simp only[hN]);omega)only[go_sem,simprocAttr]⟩) hn3 (fun b hb=>(hg.blk hb).2.1)
     have hf5:∀b',b'<h.n→b'≠r→h5.get b'=h.get b':=fun b' hb1 hb2=>by
      rw[ho5 b' (by simp only[hN];omega) (fun e=>by have:=hg.blk e;omega)]
      simp(disch:=(try simp only[hN]);omega)only[go_sem,simprocAttr,hf4.old,hf3]
     have hp5:RInv h5 r E all nx4 e4 q4:=hp4.le (by rw[hn5];simp(disch:=(try simp only[hN]);omega)only[go_sem,simprocAttr];omega) fun b hb=>by
      rw[ho5 b (by simp only[hN];omega) (fun e=>by have:=hg.blk e;omega)]
      simp(disch:=(try simp only[hN]);omega)only[go_sem,simprocAttr]
     simp only[AHeap.alloc_n] at hn5
     simp only[ndC] at happ
     simp(disch:=(try simp only[hN]);omega)only[go_sem,simprocAttr,f1,f2,happ,k0,k1,k5]
     refine sees_tok hp5 ?_
     intro h6 hf6
     have hn6:=hf6.n;try simp only[hN] at hn6
     have hp6:=hp5.fr hf6
     have hg6:=hg5.fr hf6 (.inr (Nat.le_refl _))
     have hf6':∀b',b'<h.n→b'≠r→h6.get b'=h.get b':=fun b' hb1 hb2=>by rw[hf6.all (by omega),hf5 b' hb1 hb2]
     obtain ⟨ver6,vv6,hr6,_,_,_⟩:=hp6.st
     clear hf6 hp5 hg5 hf5 happ ho5 hg4 hf4
     by_cases g44:seesT e4 (all.drop nx4)=[44]
     ·have he4:e4=0:=by
       by_cases h0:e4=0
       ·exact h0
       ·simp [seesT,h0] at g44
      subst he4
      have hi:isT [[44]] (all.drop nx4)=true:=by rw[←seesT_is (by decide),g44];rfl
      have hnx:nx4<all.length:=drop_ne (isT_ne hi)
      have hsm:=hp6.small
      rcases st4.1 rfl with ⟨_,hq4,hx⟩|⟨h0,_⟩
      ·rw[hx] at hcl
       simp only[if_pos hi,drop_tail] at hcl
       have i2:((nx4:Int)+1)=((nx4+1:Nat):Int):=by omega
       simp(disch:=(try simp only[hN]);omega)only[go_sem,simprocAttr,bne,eq_bs g44,k0,k1,k5,hr6,i2]
       refine ⟨g,Nat.lt_succ_self _,ns++[n],v5,nx4+1,0,q4,hg6.fr (Fr.upd _ _ _) (.inl hlt),hp6.step (ver:=ver6) (ver':=ver6+1) (Fr.upd _ _ _) (by omega) hr6 (by simp(disch:=(try simp only[hN]);omega)only[go_sem,simprocAttr]),by omega,fun b hb1 hb2=>by simp(disch:=(try simp only[hN]);omega)only[go_sem,simprocAttr,hf6'],by rw[List.length_append,List.length_cons,List.length_nil];omega,fun _=>⟨hq4,hcl⟩,fun h=>absurd rfl h,rfl⟩
      ·exact absurd rfl h0
     ·simp(disch:=(try simp only[hN]);omega)only[go_sem,simprocAttr,bne,ne_bs g44,k0,k1,k5]
      refine ⟨ns++[n],v5,nx4,e4,q4,hg6,hp6,by omega,hf6',by rw[List.length_append,List.length_cons,List.length_nil];omega,⟨fun _=>?_,fun h=>absurd rfl h⟩,rfl⟩
      rcases st4.1 rfl with ⟨h0,hq4,hx⟩|⟨h0,hx⟩
      ·subst h0
       have hi:¬isT [[44]] (all.drop nx4)=true:=by rw[←seesT_is (by decide)];intro h;exact g44 (eq_of_beq h)
       rw[hx] at hcl
       simp only[if_neg hi] at hcl
       exact .inl ⟨rfl,hq4,hcl.symm⟩
      ·rw[hx] at hcl
       exact .inr ⟨h0,hcl.symm⟩
   ·have i0:((e':Int)==0)=false:=by simp;omega
    simp(disch:=(try simp only[hN]);omega)only[go_sem,simprocAttr,k0,k1,k5,hr,i0]
    exact ⟨ns,v,nx',e',q',hg,hp3,hn3,hf3,by omega,hbad he',rfl⟩
  ·rintro ⟨t,df⟩ h3 ⟨ns,v,nx',e',q',hg,hp3,hn3,hf3,hlen,s2,k0,k5,hdf⟩
   simp only at k0 k5 hdf
   subst hdf
   rw[←hR] at s2
   simp(disch:=(try simp only[hN]);omega)only[go_sem,simprocAttr,k0,k5]
   refine eat_tok (by decide) hp3 ?_
   refine EatQ.all ?_
   intro h4 nx4 e4 q4 hf4 hp4 s3
   have hn4:=hf4.n;try simp only[hN] at hn4
   have hg4:=hg.fr hf4 (.inl hlt)
   simp(disch:=(try simp only[hN]);omega)only[go_sem,simprocAttr,k0,k5]
   refine hQ _ ns _ nx4 e4 q4 ⟨by (try simp only[hN]);omega,fun b hb hne=>by (try simp only[hN] at hb hne);simp(disch:=(try simp only[hN]);omega)only[go_sem,simprocAttr,hf4.old,hf3]⟩ hp4 hg.flat.1 hg.flat.2 (args_st s1 s2 s3) fun h0=>hg4.kids ?_ (by omega)
   by_cases he':e'=0
   ·exact he'
   ·have:=(s3.2 he').1;omega
  ·refine ⟨[],_,nx1,e1,q1,hg2,hp2,hn0,hfo,?_,fun h0=>⟨h0,rfl,?_⟩,fun h0=>⟨fun h=>absurd h h0,fun _=>⟨rfl,rfl⟩⟩,?_⟩
   ·have:=hp2.small
    rw[List.length_nil,List.length_drop];omega
   ·subst h0
    have hi:¬isT [[41]] (all.drop nx1)=true:=by rw[←seesT_is (by decide)];intro h;exact g41 (eq_of_beq h)
    rw[←hR,commaP,if_neg hi]
   ·simp(disch:=(try simp only[hN]);omega)only[go_sem,simprocAttr]
theorem rtarget_st {h:AHeap} {r E nx e q lv:Nat} {all:List Tok} (hlv:lv≤16) (hp:RInv h r E all nx e q) {Q:QR}
  (hQ:∀h' n kv nx' e' q',Fr r h h'→RInv h' r E all nx' e' q'→kv.flat=true→kv.cells=[kv]→StA all e q (targetP E lv (all.drop nx)) n nx' e' q'→(e'=0→KidsR h.n h' n.kids kv)→Q (.ret (.agg (ndC n kv))) h'):WF F 58 [.ptr r 0,.int .i64 (lv:Int)] h Q:=by
 by_cases he:e=0
 ·subst he
  by_cases hk:(hdT E (all.drop nx)).kind=1
  ·have hne:=hdT_ne (E:=E) (ts:=all.drop nx) (by omega)
   have hz:=nameP_ne (E:=E) (lv:=lv) hne
   refine rtarget_tok (rexpr_all ((all.drop nx).length+1)) (exprOf_errP (unP_errP _)) hlv hp hk hz ?_
   refine RQ.all hz ((nameP_errP (exprOf_errP (unP_errP _))).ne hz) ?_
   intro h' n kv nx' e' p hf hp' k1 k2 hc
   refine hQ h' n kv nx' e' p hf hp' k1 k2 ⟨fun _=>?_,fun h=>absurd rfl h⟩ ?_
   ·rw[targetP,if_pos hk]
    rcases hc with ⟨rfl,rfl,_,hr⟩|⟨h1,hr⟩
    ·exact .inl ⟨rfl,rfl,hr⟩
    ·exact .inr ⟨h1,hr⟩
   ·intro h0
    rcases hc with ⟨_,_,hk,_⟩|⟨h1,_⟩
    ·exact hk
    ·exact absurd h0 h1
  ·refine WF.code F58 rfl ?_
   have hlt:=hp.hi
   obtain ⟨ver,v,hr,hl,_,_⟩:=hp.st
   have e0:((0:Int) != 0)=false:=rfl
   simp(disch:=(try simp only[hN]);omega)only[go_sem,simprocAttr,hr,Int.natCast_zero,e0]
   refine token_tok (k:=1) (by decide) (hp.fr ⟨by (try simp only[hN]);omega,fun b hb hne=>by (try simp only[hN] at hb hne);simp(disch:=(try simp only[hN]);omega)only[go_sem,simprocAttr]⟩) ?_
   unfold TokQ'
   rw[if_pos rfl,if_neg hk]
   intro h1 hf1 hp1
   have hn1:=hf1.n;try simp only[hN] at hn1
   have q0:h1.get h.n=some ⟨0,.cells .own 0 zN⟩:=by simp(disch:=(try simp only[hN]);omega)only[go_sem,simprocAttr,hf1.old,zN]
   simp(disch:=(try simp only[hN]);omega)only[go_sem,simprocAttr,zT]
   refine sees_tok (hp1.le (by simp only[hN];omega) fun b hb=>by simp(disch:=(try simp only[hN]);omega)only[go_sem,simprocAttr]) ?_
   intro h2 hf2
   have hn2:=hf2.n;try simp only[hN] at hn2
   have s0:seesT 2 (all.drop nx)=[]:=rfl
   have g0:(([]:Bs)==[91])=false:=rfl
   have q2:h2.get h.n=some ⟨0,.cells .own 0 zN⟩:=by simp(disch:=(try simp only[hN]);omega)only[go_sem,simprocAttr,hf2.old,q0]
   simp(disch:=(try simp only[hN]);omega)only[go_sem,simprocAttr,s0,g0,hf2.old,q2,q0,zN]
   refine hQ _ (.mk 28 0 [] 0 0 0 0 0 []) .nilSlice nx 2 _ ?_ ?_ rfl rfl ⟨fun _=>.inr ⟨by decide,by rw[targetP,if_neg hk]⟩,fun h=>absurd rfl h⟩ fun h=>by cases h
   ·exact ⟨by (try simp only[hN]);omega,fun b hb hne=>by (try simp only[hN] at hb hne);simp(disch:=(try simp only[hN]);omega)only[go_sem,simprocAttr,hf2.old,hf1.old]⟩
   ·exact hp1.le (by simp only[hN];omega) fun b hb=>by simp(disch:=(try simp only[hN]);omega)only[go_sem,simprocAttr,hf2.old]
 ·refine WF.code F58 rfl ?_
  have hlt:=hp.hi
  obtain ⟨ver,v,hr,hl,_,_⟩:=hp.st
  have e0:((e:Int) != 0)=true:=by simp;omega
  simp(disch:=(try simp only[hN]);omega)only[go_sem,simprocAttr,hr,e0,zN]
  refine hQ _ (.mk 0 0 [] 0 0 0 0 0 []) .nilSlice nx e q ?_ ?_ rfl rfl ⟨fun h=>absurd h he,fun _=>⟨rfl,rfl⟩⟩ fun h=>absurd h he
  ·exact ⟨by (try simp only[hN]);omega,fun b hb hne=>by (try simp only[hN] at hb hne);simp(disch:=(try simp only[hN]);omega)only[go_sem,simprocAttr]⟩
  ·exact hp.le (by simp only[hN];omega) fun b hb=>by simp(disch:=(try simp only[hN]);omega)only[go_sem,simprocAttr]
theorem rblock_bad {h:AHeap} {r E nx e q:Nat} {all:List Tok} {lv:Int} (hp:RInv h r E all nx e q) (he:e≠0) {Q:QR} (hQ:∀h',Fr h.n h h'→Q (.ret (.agg (ndC (nd0 9 (hdT E (all.drop nx)).pos [] []) .nilSlice))) h'):WF F 60 [.ptr r 0,.int .i64 lv] h Q:=by
 refine WF.code F60 rfl ?_
 have hlt:=hp.hi
 simp(disch:=(try simp only[hN]);omega)only[go_sem,simprocAttr]
 refine place_tok (hp.fr ⟨by (try simp only[hN]);omega,fun b hb hne=>by (try simp only[hN] at hb hne);simp(disch:=(try simp only[hN]);omega)only[go_sem,simprocAttr]⟩) ?_
 obtain ⟨ver,v,hr,hl,_,_⟩:=hp.st
 have e0:((e:Int) != 0)=true:=by simp;omega
 simp(disch:=(try simp only[hN]);omega)only[go_sem,simprocAttr,hr,e0,zN]
 exact hQ _ ⟨by (try simp only[hN]);omega,fun b hb hne=>by (try simp only[hN] at hb hne);simp(disch:=(try simp only[hN]);omega)only[go_sem,simprocAttr]⟩
def RSpecB (m fid E:Nat) (u:PT):Prop:=∀{h:AHeap} {r lv nx q:Nat} {all:List Tok} {Q:QR},MkOk all→lv≤16→RInv h r E all nx 0 q→(all.drop nx).length<m→(∀h' n kv nx' e' q',Fr r h h'→RInv h' r E all nx' e' q'→kv.flat=true→kv.cells=[kv]→StA all 0 q (u lv (all.drop nx)) n nx' e' q'→(e'=0→KidsR h.n h' n.kids kv)→Q (.ret (.agg (ndC n kv))) h')→WF F fid [.ptr r 0,.int .i64 (lv:Int)] h Q
theorem block_st {all:List Tok} {E lv nx q nx1 e1 q1 nx2 e2 q2 nx3 e3 q3:Nat} {st:PT} {ns:List Nd} (s1:StM all 0 q (openP E [123] lv (all.drop nx)) nx1 e1 q1) (s2:StA all e1 q1 (upToL (st (lv+1)) (isT [[125]]) ((all.drop nx1).length+1) [] (all.drop nx1)) ns nx2 e2 q2) (hstop:e2=0→isT [[125]] (all.drop nx2)=true) (s3:StM all e2 q2 (mustP E [125] (all.drop nx2)) nx3 e3 q3):StA all 0 q (blockOf E st lv (all.drop nx)) (nd0 9 (hdT E (all.drop nx)).pos [] ns) nx3 e3 q3:=by
 refine ⟨fun he=>?_,fun he=>absurd rfl he⟩
 rcases s1.1 rfl with ⟨h1,rfl,r1⟩|⟨h1,r1⟩
 ·rcases s2.1 h1 with ⟨h2,rfl,r2⟩|⟨h2,r2⟩
  ·have hi:=hstop h2
   rcases s3.1 h2 with ⟨h3,rfl,r3⟩|⟨h3,r3⟩
   ·rw[mustP,if_pos hi] at r3
    refine .inl ⟨h3,rfl,?_⟩
    simp only[blockOf,r1,r2,Except.ok.inj r3]
   ·rw[mustP,if_pos hi] at r3;cases r3
  ·obtain ⟨rfl,rfl⟩:=s3.2 h2
   exact .inr ⟨h2,by simp only[blockOf,r1,r2]⟩
 ·obtain ⟨rfl,rfl⟩:=s2.2 h1
  obtain ⟨rfl,rfl⟩:=s3.2 h1
  exact .inr ⟨h1,by simp only[blockOf,r1]⟩
theorem rblock_tok {E m:Nat} {st:PT} (hs:RSpecB m 74 E st) (hfs:FineM m st):RSpecB (m+1) 60 E (blockOf E st):=by
 intro h r lv nx q all Q hmk hlv hp hm hQ
 refine WF.code F60 rfl ?_
 have hlt:=hp.hi
 have hsm:=hp.small
 simp(disch:=(try simp only[hN]);omega)only[go_sem,simprocAttr]
 refine place_tok (hp.fr ⟨by (try simp only[hN]);omega,fun b hb hne=>by (try simp only[hN] at hb hne);simp(disch:=(try simp only[hN]);omega)only[go_sem,simprocAttr]⟩) ?_
 obtain ⟨ver,v,hr,_,_,_⟩:=hp.st
 have e0:((0:Int) != 0)=false:=rfl
 simp(disch:=(try simp only[hN]);omega)only[go_sem,simprocAttr,hr,Int.natCast_zero,e0,zN]
 clear hr
 refine level_tok (by decide) hlv (hp.le (by simp only[hN];omega) fun b hb=>by simp(disch:=(try simp only[hN]);omega)only[go_sem,simprocAttr]) ?_
 refine LevQ.all ?_
 intro h1 nx1 e1 q1 hf1 hp1 s1
 have hn1:=hf1.n;try simp only[hN] at hn1
 have b1:h1.get (h.n+1)=some ⟨1,.cells .own 0 (ndC (nd0 9 (hdT E (all.drop nx)).pos [] []) .nilSlice)⟩:=by simp(disch:=(try simp only[hN]);omega)only[go_sem,simprocAttr,hf1.old,ndC,nd0,Nd.kind,Nd.pos,Nd.name,Nd.typ,Nd.n,Nd.size,Nd.obj,Nd.bits]
 have q0:h1.get h.n=some ⟨0,.cells .own 0 zN⟩:=by simp(disch:=(try simp only[hN]);omega)only[go_sem,simprocAttr,hf1.old,zN]
 have hfo:∀b',b'<h.n→b'≠r→h1.get b'=h.get b':=fun b' hb1 hb2=>by simp(disch:=(try simp only[hN]);omega)only[go_sem,simprocAttr,hf1.old]
 have hlv1:e1=0→lv+1≤16∧(all.drop nx1).length<m:=by
  intro h0
  rcases s1.1 rfl with ⟨_,_,r1⟩|⟨h1,_⟩
  ·have:=open_ok r1
   exact ⟨by omega,by omega⟩
  ·exact absurd h0 h1
 have hR:∃R,upToL (st (lv+1)) (isT [[125]]) ((all.drop nx1).length+1) [] (all.drop nx1)=R:=⟨_,rfl⟩
 obtain ⟨R,hR⟩:=hR
 have hz:e1=0→R≠.error (0,0):=by
  intro h0
  rw[←hR]
  exact (upToL_fine (hfs (lv+1)) ((all.drop nx1).length+1) [] (all.drop nx1) (by omega) (hlv1 h0).2).ne
 generalize hP:(hdT E (all.drop nx)).pos=P at *
 clear hf1
 simp(disch:=(try simp only[hN]);omega)only[go_sem,simprocAttr]
 refine wp_loopx 0 (fun g a h'=>∃ns v nx' e' q' v2,GK (e'=0) h.n h' v ns∧RInv h' r E all nx' e' q'∧h'.get (h.n+1)=some ⟨v2,.cells .own 0 (ndC (nd0 9 P [] []) v)⟩∧h'.get h.n=some ⟨0,.cells .own 0 zN⟩∧h.n+1<h'.n∧(∀b',b'<h.n→b'≠r→h'.get b'=h.get b')∧ns.length+g≤2001∧(e'=0→e1=0∧q'=q1∧upToL (st (lv+1)) (isT [[125]]) g ns (all.drop nx')=R∧(all.drop nx').length<m)∧(e'≠0→StA all e1 q1 R ns nx' e' q')∧a.tm.get 0=some (.ptr r 0)∧a.tm.get 1=some (.int .i64 (lv:Int))∧a.tm.get 4=some (.ptr h.n 0)∧a.tm.get 5=some (.ptr (h.n+1) 0)∧a.df=[])
  (fun a h'=>∃ns v nx' e' q' v2,GK (e'=0) h.n h' v ns∧RInv h' r E all nx' e' q'∧h'.get (h.n+1)=some ⟨v2,.cells .own 0 (ndC (nd0 9 P [] []) v)⟩∧h'.get h.n=some ⟨0,.cells .own 0 zN⟩∧h.n+1<h'.n∧(∀b',b'<h.n→b'≠r→h'.get b'=h.get b')∧ns.length≤2001∧StA all e1 q1 R ns nx' e' q'∧(e'=0→isT [[125]] (all.drop nx')=true)∧a.tm.get 0=some (.ptr r 0)∧a.tm.get 4=some (.ptr h.n 0)∧a.tm.get 5=some (.ptr (h.n+1) 0)∧a.df=[]) ?_ ?_ ((all.drop nx1).length+1) ?_
 ·rintro g ⟨t,df⟩ h3 ⟨ns,v,nx',e',q',v2,hg,hp3,b3,q3,hn3,hf3,hlen,hgood,hbad,k0,k1,k4,k5,hdf⟩
  simp only at k0 k1 k4 k5 hdf
  subst hdf
  have hlt3:=hp3.hi
  obtain ⟨ver,vv,hr,_,_,_⟩:=hp3.st
  by_cases he':e'=0
  ·obtain ⟨he1,hq,hcl,hm3⟩:=hgood he'
   subst he' he1 hq
   cases g with
   | zero=>exact absurd hcl.symm (hz rfl)
   | succ g=>
    rw[upToL] at hcl
    have i0:(((0:Nat):Int)==0)=true:=rfl
    have i1:((lv:Int)+1)=((lv+1:Nat):Int):=by omega
    simp(disch:=(try simp only[hN]);omega)only[go_sem,simprocAttr,k0,k1,k4,k5,hr,i0,Int.natCast_zero]
    refine sees_tok hp3 ?_
    intro h4 hf4
    have hn4:=hf4.n;try simp only[hN] at hn4
    have hp4:=hp3.fr hf4
    have hg4:=hg.fr hf4 (.inr (Nat.le_refl _))
    have b4:=(hf4.all (b:=h.n+1) (by omega)).trans b3
    have q4:=(hf4.all (b:=h.n) (by omega)).trans q3
    have hf4':∀b',b'<h.n→b'≠r→h4.get b'=h.get b':=fun b' hb1 hb2=>by rw[hf4.all (by omega),hf3 b' hb1 hb2]
    clear hf4 hp3 hg b3 q3 hf3 hr
    cases hi:isT [[125]] (all.drop nx')
    ·rw[if_neg (by rw[hi];decide)] at hcl
     have g1:(seesT 0 (all.drop nx')==[125])=false:=by rw[seesT_is (by decide)];exact hi
     have b4l:h4.get (h.n+1)=some ⟨v2,.cells .own 0 [.int .i64 9,.int .i64 (P:Int),.str [],.int .i64 0,.int .i64 0,.int .i64 0,.int .i64 0,.int .u64 0,v]⟩:=b4
     simp(disch:=(try simp only[hN]);omega)only[go_sem,simprocAttr,k0,k1,k4,k5,bne,g1,b4l,i1]
     refine hs hmk (hlv1 rfl).1 hp4 hm3 ?_
     intro h5 n kv nx5 e5 q5 hf5 hp5 f1 f2 st5 hk5
     have hn5:=hf5.n;try simp only[hN] at hn5
     have b5l:=(hf5.old (h.n+1) (by omega) (by omega)).trans b4l
     have q5:=(hf5.old h.n (by omega) (by omega)).trans q4
     have hg5:GK (0=0) h.n (h5.alloc (.cells .own 9 (ndC n kv))) v ns:=(hg4.fr hf5 (.inl hlt)).fr (Fr.alloc (Fr.refl h5.n h5) _) (.inr (Nat.le_refl _))
     obtain ⟨v6,h6,happ,hg6,hb6,hn6,ho6⟩:=hg5.append (g':=e5=0) (kv:=kv) (n:=n) (m:=h4.n) (by simp only[hN];omega) (by omega) f1 (fun h0=>⟨rfl,(hk5 h0).keep (lo':=h4.n) (Nat.le_refl _) (by simp only[hN];omega) fun b hb1 hb2=>by simp(disch:=(try simp only[hN]);omega)only[go_sem,simprocAttr]⟩) (by omega) (fun b hb=>(hg4.blk hb).2.1)
     have hvB:blkV v≠some (h.n+1):=fun e=>by
      obtain ⟨_,_,_,_,hc⟩:=hg4.blk e
      rw[b4] at hc;cases hc
     have hvN:blkV v≠some h.n:=fun e=>by
      obtain ⟨_,_,_,_,hc⟩:=hg4.blk e
      rw[q4] at hc;cases hc
     have b6:h6.get (h.n+1)=some ⟨v2,.cells .own 0 [.int .i64 9,.int .i64 (P:Int),.str [],.int .i64 0,.int .i64 0,.int .i64 0,.int .i64 0,.int .u64 0,v]⟩:=by rw[ho6 (h.n+1) (by simp only[hN];omega) hvB];simp(disch:=(try simp only[hN]);omega)only[go_sem,simprocAttr,b5l]
     have q6:h6.get h.n=some ⟨0,.cells .own 0 zN⟩:=by rw[ho6 h.n (by simp only[hN];omega) hvN];simp(disch:=(try simp only[hN]);omega)only[go_sem,simprocAttr,q5]
     have hf6:∀b',b'<h.n→b'≠r→h6.get b'=h.get b':=fun b' hb1 hb2=>by
      rw[ho6 b' (by simp only[hN];omega) (fun e=>by have:=(hg4.blk e).1;omega)]
      simp(disch:=(try simp only[hN]);omega)only[go_sem,simprocAttr,hf5.old,hf4']
     have hp6:RInv h6 r E all nx5 e5 _:=hp5.le (by rw[hn6];simp(disch:=(try simp only[hN]);omega)only[go_sem,simprocAttr];omega) fun b hb=>by
      rw[ho6 b (by simp only[hN];omega) (fun e=>by have:=(hg4.blk e).1;omega)]
      simp(disch:=(try simp only[hN]);omega)only[go_sem,simprocAttr]
     simp only[AHeap.alloc_n] at hn6
     simp only[ndC] at happ
     simp(disch:=(try simp only[hN]);omega)only[go_sem,simprocAttr,k0,k1,k4,k5,f1,f2,happ,b5l,b4l,b6,hg6.flat.1,hg6.flat.2]
     refine ⟨g,Nat.lt_succ_self _,ns++[n],v6,nx5,e5,_,v2+1,hg6.keep id (by simp only[hN];omega) (fun b _ _ hb1 hb2 hb3=>?_) (fun _ b _ _ _ hb1 hb2 hb3=>?_),hp6.le (by simp only[hN];omega) (fun b hb=>by simp(disch:=(try simp only[hN]);omega)only[go_sem,simprocAttr]),rfl,q6,by omega,fun b hb1 hb2=>by simp(disch:=(try simp only[hN]);omega)only[go_sem,simprocAttr,hf6],by rw[List.length_append,List.length_cons,List.length_nil];omega,?_,?_⟩
     ·have:b≠h.n+1:=by rintro rfl;rw[b6] at hb3;cases hb3
      simp(disch:=(try simp only[hN]);omega)only[go_sem,simprocAttr]
     ·have:b≠h.n+1:=by rintro rfl;rw[b6] at hb3;cases hb3
      simp(disch:=(try simp only[hN]);omega)only[go_sem,simprocAttr]
     ·intro h0
      rcases st5.1 rfl with ⟨_,hq5,hx⟩|⟨h1,_⟩
      ·have hfn:=hfs (lv+1) (all.drop nx') hm3
       rw[hx] at hcl hfn
       simp only[FE] at hfn
       exact ⟨hq5,hcl,by omega⟩
      ·exact absurd h0 h1
     ·intro h0
      refine ⟨fun _=>.inr ?_,fun h=>absurd rfl h⟩
      rcases st5.1 rfl with ⟨h1,_,_⟩|⟨h1,hx⟩
      ·exact absurd h1 h0
      ·rw[hx] at hcl
       exact ⟨h1,hcl.symm⟩
    ·rw[if_pos hi] at hcl
     have g1:(seesT 0 (all.drop nx')==[125])=true:=by rw[seesT_is (by decide)];exact hi
     simp(disch:=(try simp only[hN]);omega)only[go_sem,simprocAttr,k0,k1,k4,k5,bne,g1]
     exact ⟨ns,v,nx',0,_,v2,hg4,hp4,b4,q4,by omega,hf4',by omega,⟨fun _=>.inl ⟨rfl,rfl,hcl.symm⟩,fun h=>absurd rfl h⟩,fun _=>hi⟩
  ·have i0:((e':Int)==0)=false:=by simp;omega
   simp(disch:=(try simp only[hN]);omega)only[go_sem,simprocAttr,k0,k1,k4,k5,hr,i0]
   exact ⟨ns,v,nx',e',q',v2,hg,hp3,b3,q3,hn3,hf3,by omega,hbad he',fun h=>absurd h he'⟩
 ·rintro ⟨t,df⟩ h3 ⟨ns,v,nx',e',q',v2,hg,hp3,b3,q3,hn3,hf3,hlen,s2,hstop,k0,k4,k5,hdf⟩
  simp only at k0 k4 k5 hdf
  subst hdf
  rw[←hR] at s2
  simp(disch:=(try simp only[hN]);omega)only[go_sem,simprocAttr,k0,k4,k5]
  refine eat_tok (by decide) hp3 ?_
  refine EatQ.all ?_
  intro h4 nx4 e4 q4 hf4 hp4 s3
  have hn4:=hf4.n;try simp only[hN] at hn4
  have b4:h4.get (h.n+1)=some ⟨v2,.cells .own 0 [.int .i64 9,.int .i64 (P:Int),.str [],.int .i64 0,.int .i64 0,.int .i64 0,.int .i64 0,.int .u64 0,v]⟩:=(hf4.old (h.n+1) (by omega) (by omega)).trans b3
  have q4:=(hf4.old h.n (by omega) (by omega)).trans q3
  have hg4:=hg.fr hf4 (.inl hlt)
  have hst:=block_st s1 s2 hstop s3
  rw[hP] at hst
  simp(disch:=(try simp only[hN]);omega)only[go_sem,simprocAttr,k0,k4,k5,b4,q4,hg.flat.1,hg.flat.2,zN]
  refine hQ _ (nd0 9 P [] ns) v nx4 e4 _ ?_ ?_ hg.flat.1 hg.flat.2 hst fun h0=>?_
  ·exact ⟨by (try simp only[hN]);omega,fun b hb hne=>by (try simp only[hN] at hb hne);simp(disch:=(try simp only[hN]);omega)only[go_sem,simprocAttr,hf4.old,hf3]⟩
  ·exact hp4.le (by simp only[hN];omega) fun b hb=>by simp(disch:=(try simp only[hN]);omega)only[go_sem,simprocAttr]
  ·refine (hg4.kids ?_ (by omega)).keep9 (Nat.le_refl _) (by simp only[hN];omega) fun b _ _ _ hb1 hb2 hb3=>?_
   ·by_cases he':e'=0
    ·exact he'
    ·have:=(s3.2 he').1;omega
   ·have:b≠h.n:=by rintro rfl;rw[q4] at hb3;cases hb3
    simp(disch:=(try simp only[hN]);omega)only[go_sem,simprocAttr]
 ·refine ⟨[],.nilSlice,nx1,e1,q1,1,GK.nil,hp1,b1,q0,by omega,hfo,?_,fun h0=>⟨h0,rfl,hR,(hlv1 h0).2⟩,fun h0=>⟨fun h=>absurd h h0,fun _=>⟨rfl,rfl⟩⟩,?_⟩
  ·rw[List.length_nil,List.length_drop];omega
  ·simp(disch:=(try simp only[hN]);omega)only[go_sem,simprocAttr]
end Go.Ev
