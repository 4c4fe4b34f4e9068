/- The tree's reader: statements (printed by gen56.py). -/
import Derived.Test.YtafbchppfbonpaaGreatDoorZK70
import Derived.Test.YtafbchppfbonpaaGreatDoorPuA
import Derived.Test.YtafbchppfbonpaaGreatDoorZK25
set_option linter.all false
set_option linter.unusedVariables false
set_option linter.unusedSimpArgs false
namespace Go.Ev
open Go
set_option maxRecDepth 100000
set_option maxHeartbeats 4000000
theorem stmt_tok {E m:Nat} {b:PT} (hb:PSpecB m 28 E b) (hfb:FineM m b):PSpecB m 49 E (stmtP E b):=by
 intro h r lv ts Q hp hsm hm hQ
 refine WF.code F49 rfl ?_
 have hlt:=hp.hi
 simp(disch:=(try simp only[hN]);omega)only[go_sem,simprocAttr]
 refine here_tok (E:=E) (lv:=lv) (ts:=ts) (hp.fr ⟨by (try simp only[hN]);omega,fun b hb hne=>by (try simp only[hN] at hb hne);simp(disch:=(try simp only[hN]);omega)only[go_sem,simprocAttr]⟩) ?_
 intro h1 hf1
 have hn1:=hf1.n;try simp only[hN] at hn1
 have q0:h1.get h.n=some ⟨0,.cells .own 0 zN⟩:=by simp(disch:=(try simp only[hN]);omega)only[go_sem,simprocAttr,hf1.old]
 have hf:∀b',b'<h.n→h1.get b'=h.get b':=fun b' hb'=>by simp(disch:=(try simp only[hN]);omega)only[go_sem,simprocAttr,hf1.old]
 have hp1:PInv h1 r E ts lv:=hp.fr ⟨by (try simp only[hN]);omega,fun b hb hne=>by (try simp only[hN] at hb hne);simp(disch:=(try simp only[hN]);omega)only[go_sem,simprocAttr,hf]⟩
 clear hf1
 simp(disch:=(try simp only[hN]);omega)only[go_sem,simprocAttr,tokAV]
 refine maybe_tok hp1 ?_
 unfold stmtP at hQ
 by_cases ci:isT [[105,102]] ts=true
 ·rw[if_pos ci] at hQ ⊢
  unfold ifP at hQ
  intro h3 hf3 hp3
  have hn3:=hf3.n;try simp only[hN] at hn3
  have r0:=(hf3.old h.n (by omega) (by omega)).trans q0
  have hfr:∀b',b'<h.n→b'≠r→h3.get b'=h.get b':=fun b' hb1 hb2=>by simp(disch:=(try simp only[hN]);omega)only[go_sem,simprocAttr,hf3.old,hf]
  have htl:=tail_lt (isT_ne ci)
  clear hf3 hf hp1 q0 ci hp
  generalize (hdT E ts).pos=P at *
  generalize ts.tail=ts1 at *
  simp(disch:=(try simp only[hN]);omega)only[go_sem,simprocAttr]
  have hfe:=exprT_fine (E:=E) lv ts1
  refine exprT_tok hp3 hfe.ne ?_
  cases hx:exprT E lv ts1 with
  | error e=>
   obtain ⟨e,p⟩:=e
   rw[hx] at hQ
   intro h4 hf4
   have hn4:=hf4.n;try simp only[hN] at hn4
   simp(disch:=(try simp only[hN]);omega)only[go_sem,simprocAttr]
   exact hQ _ ⟨by (try simp only[hN]);omega,fun b hb hne=>by (try simp only[hN] at hb hne);simp(disch:=(try simp only[hN]);omega)only[go_sem,simprocAttr,hf4.old,hfr]⟩
  | ok y=>
   obtain ⟨c,ts2⟩:=y
   rw[hx] at hQ hfe
   simp only[FE] at hfe
   simp only at hQ
   intro h4 kc hf4 hp4 hk4
   have hn4:=hf4.n;try simp only[hN] at hn4
   have r4:=(hf4.old h.n (by omega) (by omega)).trans r0
   have hf4':∀b',b'<h.n→b'≠r→h4.get b'=h.get b':=fun b' hb1 hb2=>by simp(disch:=(try simp only[hN]);omega)only[go_sem,simprocAttr,hf4.old,hfr]
   clear hf4 hfr r0 hp3
   simp(disch:=(try simp only[hN]);omega)only[go_sem,simprocAttr,hk4.flat.1,hk4.flat.2]
   generalize hH:AHeap.upd (AHeap.alloc (AHeap.alloc _ _) _) _ _ _=H
   have hHn:H.n=h4.n+2:=by rw[←hH];simp(disch:=(try simp only[hN]);omega)only[go_sem,simprocAttr]
   have c0:H.get h4.n=some ⟨0,.cells .own 9 (ndC c kc)⟩:=by rw[←hH];simp(disch:=(try simp only[hN]);omega)only[go_sem,simprocAttr,ndC]
   have b0:H.get (h4.n+1)=some ⟨1,.cells .own 0 [.int .i64 21,.int .i64 (P:Int),.str [],.int .i64 0,.int .i64 0,.int .i64 0,.int .i64 0,.int .u64 0,.slice h4.n 0 1 1 true]⟩:=by rw[←hH];simp(disch:=(try simp only[hN]);omega)only[go_sem,simprocAttr]
   have q0:H.get h.n=some ⟨0,.cells .own 0 zN⟩:=by rw[←hH];simp(disch:=(try simp only[hN]);omega)only[go_sem,simprocAttr,r4,zN]
   have hpH:PInv H r E ts2 lv:=by rw[←hH];exact hp4.le (by simp only[hN];omega) fun b hb=>by simp(disch:=(try simp only[hN]);omega)only[go_sem,simprocAttr]
   have hfH:∀b',b'<h.n→b'≠r→H.get b'=h.get b':=fun b' hb1 hb2=>by rw[←hH];simp(disch:=(try simp only[hN]);omega)only[go_sem,simprocAttr,hf4']
   have hkc:KidsR (h.n+1) H c.kids kc:=by rw[←hH];exact hk4.keep (by omega) (by simp only[hN];omega) fun b hb1 hb2=>by simp(disch:=(try simp only[hN]);omega)only[go_sem,simprocAttr]
   clear hH hf4' hk4 hp4 r4
   have hs2:ts2.length≤2000:=by omega
   have hm2:ts2.length<m:=by omega
   refine hb hpH hs2 hm2 ?_
   have hfb2:=hfb lv ts2 hm2
   cases hy:b lv ts2 with
   | error e=>
    obtain ⟨e,p⟩:=e
    rw[hy] at hQ
    intro h5 hf5
    have hn5:=hf5.n;try simp only[hN] at hn5
    have b5:=(hf5.old (h4.n+1) (by omega) (by omega)).trans b0
    simp(disch:=(try simp only[hN]);omega)only[go_sem,simprocAttr,b5,b0]
    exact hQ _ ⟨by (try simp only[hN]);omega,fun b hb hne=>by (try simp only[hN] at hb hne);simp(disch:=(try simp only[hN]);omega)only[go_sem,simprocAttr,hf5.old,hfH]⟩
   | ok y=>
    obtain ⟨x,ts3⟩:=y
    rw[hy] at hQ hfb2
    simp only[FE] at hfb2
    simp only at hQ
    intro h5 kx hf5 hp5 hk5
    have hn5:=hf5.n;try simp only[hN] at hn5
    have b5:=(hf5.old (h4.n+1) (by omega) (by omega)).trans b0
    have c5:=(hf5.old h4.n (by omega) (by omega)).trans c0
    have r5:=(hf5.old h.n (by omega) (by omega)).trans q0
    have hf5':∀b',b'<h.n→b'≠r→h5.get b'=h.get b':=fun b' hb1 hb2=>by simp(disch:=(try simp only[hN]);omega)only[go_sem,simprocAttr,hf5.old,hfH]
    have hkc5:KidsR (h.n+1) (h5.alloc (.cells .own 9 (ndC x kx))) c.kids kc:=hkc.keep (Nat.le_refl _) (by simp only[hN];omega) fun b hb1 hb2=>by simp(disch:=(try simp only[hN]);omega)only[go_sem,simprocAttr,hf5.old]
    have hkx5:KidsR (h.n+1) (h5.alloc (.cells .own 9 (ndC x kx))) x.kids kx:=hk5.keep (by omega) (by simp only[hN];omega) fun b hb1 hb2=>by simp(disch:=(try simp only[hN]);omega)only[go_sem,simprocAttr]
    obtain ⟨v6,h6,happ,hg6,hb6,hn6,ho6⟩:=one_app (lo:=h.n+1) (h:=h5.alloc (.cells .own 9 (ndC x kx))) (b:=h4.n) (ver:=0) (x:=c) (n:=x) (xv:=kc) (kv:=kx) (by simp(disch:=(try simp only[hN]);omega)only[go_sem,simprocAttr,c5]) (by simp only[hN];omega) (by simp only[hN];omega) hkc5 hkx5
    have hf6:∀b',b'<h5.n→h6.get b'=h5.get b':=fun b' hb1=>by rw[ho6 b' (by simp only[hN];omega)];simp(disch:=(try simp only[hN]);omega)only[go_sem,simprocAttr]
    simp only[AHeap.alloc_n] at hn6
    have b6:=(hf6 (h4.n+1) (by omega)).trans b5
    have r6:=(hf6 h.n (by omega)).trans r5
    have hp6:PInv h6 r E ts3 lv:=hp5.le (by omega) fun b hb=>hf6 b (by omega)
    have hf6':∀b',b'<h.n→b'≠r→h6.get b'=h.get b':=fun b' hb1 hb2=>by simp(disch:=(try simp only[hN]);omega)only[go_sem,simprocAttr,hf6,hf5']
    have flx:=hk5.flat
    clear hf6 ho6 hf5 hf5' hkc5 hkx5 hk5 hp5 hkc hfH hpH c5 c0 r5 q0
    simp only[ndC] at happ
    simp(disch:=(try simp only[hN]);omega)only[go_sem,simprocAttr,flx.1,flx.2,happ,b5,b0,b6,hg6.flat.1,hg6.flat.2]
    clear happ b5 b0
    generalize hH:AHeap.upd h6 _ _ _=H7
    have hHn7:H7.n=h6.n:=by rw[←hH];simp(disch:=(try simp only[hN]);omega)only[go_sem,simprocAttr]
    have b7:H7.get (h4.n+1)=some ⟨2,.cells .own 0 [.int .i64 21,.int .i64 (P:Int),.str [],.int .i64 0,.int .i64 0,.int .i64 0,.int .i64 0,.int .u64 0,v6]⟩:=by rw[←hH];simp(disch:=(try simp only[hN]);omega)only[go_sem,simprocAttr]
    have r7:H7.get h.n=some ⟨0,.cells .own 0 zN⟩:=by rw[←hH];simp(disch:=(try simp only[hN]);omega)only[go_sem,simprocAttr,r6]
    have hp7:PInv H7 r E ts3 lv:=by rw[←hH];exact hp6.le (by simp only[hN];omega) fun b hb=>by simp(disch:=(try simp only[hN]);omega)only[go_sem,simprocAttr]
    have hf7:∀b',b'<h.n→b'≠r→H7.get b'=h.get b':=fun b' hb1 hb2=>by rw[←hH];simp(disch:=(try simp only[hN]);omega)only[go_sem,simprocAttr,hf6']
    have hg7:GKids (h.n+1) H7 v6 [c,x]:=by
     rw[←hH]
     refine hg6.keep (by simp only[hN];omega) fun b _ _ _ hb1 hb2 hb3=>?_
     have:b≠h4.n+1:=by rintro rfl;rw[b6] at hb3;cases hb3
     simp(disch:=(try simp only[hN]);omega)only[go_sem,simprocAttr]
    clear hH b6 hp6 hf6' hg6
    refine maybe_tok hp7 ?_
    by_cases ce:isT [[101,108,115,101]] ts3=true
    ·rw[if_pos ce] at hQ ⊢
     intro h8 hf8 hp8
     have hn8:=hf8.n;try simp only[hN] at hn8
     have b8:=(hf8.old (h4.n+1) (by omega) (by omega)).trans b7
     have r8:=(hf8.old h.n (by omega) (by omega)).trans r7
     have hg8:=hg7.fr hf8 (.inl (by omega))
     have hf8':∀b',b'<h.n→b'≠r→h8.get b'=h.get b':=fun b' hb1 hb2=>by simp(disch:=(try simp only[hN]);omega)only[go_sem,simprocAttr,hf8.old,hf7]
     have htl3:=tail_lt (isT_ne ce)
     clear hf8 hf7 hg7 hp7 b7 r7
     simp(disch:=(try simp only[hN]);omega)only[go_sem,simprocAttr,b8]
     have hs4:ts3.tail.length≤2000:=by omega
     have hm4:ts3.tail.length<m:=by omega
     refine hb hp8 hs4 hm4 ?_
     cases hz:b lv ts3.tail with
     | error e=>
      obtain ⟨e,p⟩:=e
      rw[hz] at hQ
      intro h9 hf9
      have hn9:=hf9.n;try simp only[hN] at hn9
      have b9:=(hf9.old (h4.n+1) (by omega) (by omega)).trans b8
      simp(disch:=(try simp only[hN]);omega)only[go_sem,simprocAttr,b9,b8]
      exact hQ _ ⟨by (try simp only[hN]);omega,fun b hb hne=>by (try simp only[hN] at hb hne);simp(disch:=(try simp only[hN]);omega)only[go_sem,simprocAttr,hf9.old,hf8']⟩
     | ok y=>
      obtain ⟨z,ts4⟩:=y
      rw[hz] at hQ
      simp only at hQ
      intro h9 kz hf9 hp9 hk9
      have hn9:=hf9.n;try simp only[hN] at hn9
      have b9:=(hf9.old (h4.n+1) (by omega) (by omega)).trans b8
      have r9:=(hf9.old h.n (by omega) (by omega)).trans r8
      have hg9:GKids (h.n+1) (h9.alloc (.cells .own 9 (ndC z kz))) v6 [c,x]:=(hg8.fr hf9 (.inl (by omega))).fr (Fr.alloc (Fr.refl h9.n h9) _) (.inr (Nat.le_refl _))
      obtain ⟨v10,h10,happ,hg10,hb10,hn10,ho10⟩:=hg9.append (by simp only[hN];omega) (show 2<2^36 by decide) (hk9.keep (lo':=h8.n) (Nat.le_refl _) (by simp only[hN];omega) fun b hb1 hb2=>by simp(disch:=(try simp only[hN]);omega)only[go_sem,simprocAttr]) (by omega) (fun b hb=>(hg8.blk hb).2)
      have hv6:blkV v6=some (h5.n+1):=hb6
      have hf10:∀b',b'<h5.n→h10.get b'=h9.get b':=fun b' hb1=>by rw[ho10 b' (by simp only[hN];omega) (by rw[hv6];simp only[ne_eq,Option.some.injEq];omega)];simp(disch:=(try simp only[hN]);omega)only[go_sem,simprocAttr]
      simp only[AHeap.alloc_n] at hn10
      have b10:=(hf10 (h4.n+1) (by omega)).trans b9
      have r10:=(hf10 h.n (by omega)).trans r9
      have hp10:PInv h10 r E ts4 lv:=hp9.le (by omega) fun b hb=>hf10 b (by omega)
      have hf10':∀b',b'<h.n→b'≠r→h10.get b'=h.get b':=fun b' hb1 hb2=>by simp(disch:=(try simp only[hN]);omega)only[go_sem,simprocAttr,hf10,hf9.old,hf8']
      have flz:=hk9.flat
      clear hf10 ho10 hf9 hf8' hk9 hp9 hp8 hg9 hg8 r8 r9
      simp only[ndC] at happ
      simp(disch:=(try simp only[hN]);omega)only[go_sem,simprocAttr,flz.1,flz.2,happ,b9,b8,b10,hg10.flat.1,hg10.flat.2,r10,zN]
      exact hQ _ _ ⟨by (try simp only[hN]);omega,fun b hb hne=>by (try simp only[hN] at hb hne);simp(disch:=(try simp only[hN]);omega)only[go_sem,simprocAttr,hf10']⟩ (hp10.le (by simp only[hN];omega) fun b hb=>by simp(disch:=(try simp only[hN]);omega)only[go_sem,simprocAttr]) ((hg10.kids (show 3<2^61 by decide)).keep9 (by omega) (by simp only[hN];omega) fun b _ _ _ hb1 hb2 hb3=>by
       have:b≠h4.n+1:=by rintro rfl;rw[b10] at hb3;cases hb3
       simp(disch:=(try simp only[hN]);omega)only[go_sem,simprocAttr])
    ·rw[if_neg ce] at hQ ⊢
     intro h8 hf8
     have hn8:=hf8.n;try simp only[hN] at hn8
     have b8:=(hf8.old (h4.n+1) (by omega) (by omega)).trans b7
     have r8:=(hf8.old h.n (by omega) (by omega)).trans r7
     have hg8:=hg7.fr hf8 (.inr (by omega))
     have hp8:=hp7.fr hf8
     simp(disch:=(try simp only[hN]);omega)only[go_sem,simprocAttr,b8,r8,zN,hg8.flat.1,hg8.flat.2]
     exact hQ _ _ ⟨by (try simp only[hN]);omega,fun b hb hne=>by (try simp only[hN] at hb hne);simp(disch:=(try simp only[hN]);omega)only[go_sem,simprocAttr,hf8.old,hf7]⟩ (hp8.le (by simp only[hN];omega) fun b hb=>by simp(disch:=(try simp only[hN]);omega)only[go_sem,simprocAttr]) ((hg8.kids (show 2<2^61 by decide)).keep9 (by omega) (by simp only[hN];omega) fun b _ _ _ hb1 hb2 hb3=>by simp(disch:=(try simp only[hN]);omega)only[go_sem,simprocAttr])
 rw[if_neg ci] at hQ ⊢
 intro h2 hf2
 have hn2:=hf2.n;try simp only[hN] at hn2
 have hp2:=hp1.fr hf2
 have q2:=(hf2.old h.n (by omega) (by omega)).trans q0
 have hf2':∀b',b'<h.n→h2.get b'=h.get b':=fun b' hb'=>by simp(disch:=(try simp only[hN]);omega)only[go_sem,simprocAttr,hf2.old,hf]
 clear hf hf2 hp1 q0 ci
 simp(disch:=(try simp only[hN]);omega)only[go_sem,simprocAttr]
 have q0:=q2
 have hf:=hf2'
 have hp1:=hp2
 refine maybe_tok hp2 ?_
 by_cases ci:isT [[119,104,105,108,101]] ts=true
 ·rw[if_pos ci] at hQ ⊢
  unfold whileP at hQ
  intro h3 hf3 hp3
  have hn3:=hf3.n;try simp only[hN] at hn3
  have r0:=(hf3.old h.n (by omega) (by omega)).trans q0
  have hfr:∀b',b'<h.n→b'≠r→h3.get b'=h.get b':=fun b' hb1 hb2=>by simp(disch:=(try simp only[hN]);omega)only[go_sem,simprocAttr,hf3.old,hf]
  have htl:=tail_lt (isT_ne ci)
  clear hf3 hf hp1 q0 ci hp
  generalize (hdT E ts).pos=P at *
  generalize ts.tail=ts1 at *
  simp(disch:=(try simp only[hN]);omega)only[go_sem,simprocAttr]
  have hfe:=exprT_fine (E:=E) lv ts1
  refine exprT_tok hp3 hfe.ne ?_
  cases hx:exprT E lv ts1 with
  | error e=>
   obtain ⟨e,p⟩:=e
   rw[hx] at hQ
   intro h4 hf4
   have hn4:=hf4.n;try simp only[hN] at hn4
   simp(disch:=(try simp only[hN]);omega)only[go_sem,simprocAttr]
   exact hQ _ ⟨by (try simp only[hN]);omega,fun b hb hne=>by (try simp only[hN] at hb hne);simp(disch:=(try simp only[hN]);omega)only[go_sem,simprocAttr,hf4.old,hfr]⟩
  | ok y=>
   obtain ⟨c,ts2⟩:=y
   rw[hx] at hQ hfe
   simp only[FE] at hfe
   simp only at hQ
   intro h4 kc hf4 hp4 hk4
   have hn4:=hf4.n;try simp only[hN] at hn4
   have r4:=(hf4.old h.n (by omega) (by omega)).trans r0
   have hf4':∀b',b'<h.n→b'≠r→h4.get b'=h.get b':=fun b' hb1 hb2=>by simp(disch:=(try simp only[hN]);omega)only[go_sem,simprocAttr,hf4.old,hfr]
   clear hf4 hfr r0 hp3
   simp(disch:=(try simp only[hN]);omega)only[go_sem,simprocAttr,hk4.flat.1,hk4.flat.2]
   generalize hH:AHeap.upd (AHeap.alloc (AHeap.alloc _ _) _) _ _ _=H
   have hHn:H.n=h4.n+2:=by rw[←hH];simp(disch:=(try simp only[hN]);omega)only[go_sem,simprocAttr]
   have c0:H.get h4.n=some ⟨0,.cells .own 9 (ndC c kc)⟩:=by rw[←hH];simp(disch:=(try simp only[hN]);omega)only[go_sem,simprocAttr,ndC]
   have b0:H.get (h4.n+1)=some ⟨1,.cells .own 0 [.int .i64 22,.int .i64 (P:Int),.str [],.int .i64 0,.int .i64 0,.int .i64 0,.int .i64 0,.int .u64 0,.slice h4.n 0 1 1 true]⟩:=by rw[←hH];simp(disch:=(try simp only[hN]);omega)only[go_sem,simprocAttr]
   have q0:H.get h.n=some ⟨0,.cells .own 0 zN⟩:=by rw[←hH];simp(disch:=(try simp only[hN]);omega)only[go_sem,simprocAttr,r4,zN]
   have hpH:PInv H r E ts2 lv:=by rw[←hH];exact hp4.le (by simp only[hN];omega) fun b hb=>by simp(disch:=(try simp only[hN]);omega)only[go_sem,simprocAttr]
   have hfH:∀b',b'<h.n→b'≠r→H.get b'=h.get b':=fun b' hb1 hb2=>by rw[←hH];simp(disch:=(try simp only[hN]);omega)only[go_sem,simprocAttr,hf4']
   have hkc:KidsR (h.n+1) H c.kids kc:=by rw[←hH];exact hk4.keep (by omega) (by simp only[hN];omega) fun b hb1 hb2=>by simp(disch:=(try simp only[hN]);omega)only[go_sem,simprocAttr]
   clear hH hf4' hk4 hp4 r4
   have hs2:ts2.length≤2000:=by omega
   have hm2:ts2.length<m:=by omega
   refine hb hpH hs2 hm2 ?_
   have hfb2:=hfb lv ts2 hm2
   cases hy:b lv ts2 with
   | error e=>
    obtain ⟨e,p⟩:=e
    rw[hy] at hQ
    intro h5 hf5
    have hn5:=hf5.n;try simp only[hN] at hn5
    have b5:=(hf5.old (h4.n+1) (by omega) (by omega)).trans b0
    simp(disch:=(try simp only[hN]);omega)only[go_sem,simprocAttr,b5,b0]
    exact hQ _ ⟨by (try simp only[hN]);omega,fun b hb hne=>by (try simp only[hN] at hb hne);simp(disch:=(try simp only[hN]);omega)only[go_sem,simprocAttr,hf5.old,hfH]⟩
   | ok y=>
    obtain ⟨x,ts3⟩:=y
    rw[hy] at hQ hfb2
    simp only[FE] at hfb2
    simp only at hQ
    intro h5 kx hf5 hp5 hk5
    have hn5:=hf5.n;try simp only[hN] at hn5
    have b5:=(hf5.old (h4.n+1) (by omega) (by omega)).trans b0
    have c5:=(hf5.old h4.n (by omega) (by omega)).trans c0
    have r5:=(hf5.old h.n (by omega) (by omega)).trans q0
    have hf5':∀b',b'<h.n→b'≠r→h5.get b'=h.get b':=fun b' hb1 hb2=>by simp(disch:=(try simp only[hN]);omega)only[go_sem,simprocAttr,hf5.old,hfH]
    have hkc5:KidsR (h.n+1) (h5.alloc (.cells .own 9 (ndC x kx))) c.kids kc:=hkc.keep (Nat.le_refl _) (by simp only[hN];omega) fun b hb1 hb2=>by simp(disch:=(try simp only[hN]);omega)only[go_sem,simprocAttr,hf5.old]
    have hkx5:KidsR (h.n+1) (h5.alloc (.cells .own 9 (ndC x kx))) x.kids kx:=hk5.keep (by omega) (by simp only[hN];omega) fun b hb1 hb2=>by simp(disch:=(try simp only[hN]);omega)only[go_sem,simprocAttr]
    obtain ⟨v6,h6,happ,hg6,hb6,hn6,ho6⟩:=one_app (lo:=h.n+1) (h:=h5.alloc (.cells .own 9 (ndC x kx))) (b:=h4.n) (ver:=0) (x:=c) (n:=x) (xv:=kc) (kv:=kx) (by simp(disch:=(try simp only[hN]);omega)only[go_sem,simprocAttr,c5]) (by simp only[hN];omega) (by simp only[hN];omega) hkc5 hkx5
    have hf6:∀b',b'<h5.n→h6.get b'=h5.get b':=fun b' hb1=>by rw[ho6 b' (by simp only[hN];omega)];simp(disch:=(try simp only[hN]);omega)only[go_sem,simprocAttr]
    simp only[AHeap.alloc_n] at hn6
    have b6:=(hf6 (h4.n+1) (by omega)).trans b5
    have r6:=(hf6 h.n (by omega)).trans r5
    have hp6:PInv h6 r E ts3 lv:=hp5.le (by omega) fun b hb=>hf6 b (by omega)
    have hf6':∀b',b'<h.n→b'≠r→h6.get b'=h.get b':=fun b' hb1 hb2=>by simp(disch:=(try simp only[hN]);omega)only[go_sem,simprocAttr,hf6,hf5']
    have flx:=hk5.flat
    clear hf6 ho6 hf5 hf5' hkc5 hkx5 hk5 hp5 hkc hfH hpH c5 c0 r5 q0
    simp only[ndC] at happ
    simp(disch:=(try simp only[hN]);omega)only[go_sem,simprocAttr,flx.1,flx.2,happ,b5,b0,b6,hg6.flat.1,hg6.flat.2]
    clear happ b5 b0
    generalize hH:AHeap.upd h6 _ _ _=H7
    have hHn7:H7.n=h6.n:=by rw[←hH];simp(disch:=(try simp only[hN]);omega)only[go_sem,simprocAttr]
    have b7:H7.get (h4.n+1)=some ⟨2,.cells .own 0 [.int .i64 22,.int .i64 (P:Int),.str [],.int .i64 0,.int .i64 0,.int .i64 0,.int .i64 0,.int .u64 0,v6]⟩:=by rw[←hH];simp(disch:=(try simp only[hN]);omega)only[go_sem,simprocAttr]
    have r7:H7.get h.n=some ⟨0,.cells .own 0 zN⟩:=by rw[←hH];simp(disch:=(try simp only[hN]);omega)only[go_sem,simprocAttr,r6]
    have hp7:PInv H7 r E ts3 lv:=by rw[←hH];exact hp6.le (by simp only[hN];omega) fun b hb=>by simp(disch:=(try simp only[hN]);omega)only[go_sem,simprocAttr]
    have hf7:∀b',b'<h.n→b'≠r→H7.get b'=h.get b':=fun b' hb1 hb2=>by rw[←hH];simp(disch:=(try simp only[hN]);omega)only[go_sem,simprocAttr,hf6']
    have hg7:GKids (h.n+1) H7 v6 [c,x]:=by
     rw[←hH]
     refine hg6.keep (by simp only[hN];omega) fun b _ _ _ hb1 hb2 hb3=>?_
     have:b≠h4.n+1:=by rintro rfl;rw[b6] at hb3;cases hb3
     simp(disch:=(try simp only[hN]);omega)only[go_sem,simprocAttr]
    clear hH b6 hp6 hf6' hg6
    simp(disch:=(try simp only[hN]);omega)only[go_sem,simprocAttr,b7,r7,r6,zN,hg7.flat.1,hg7.flat.2]
    exact hQ _ _ ⟨by (try simp only[hN]);omega,fun b hb hne=>by (try simp only[hN] at hb hne);simp(disch:=(try simp only[hN]);omega)only[go_sem,simprocAttr,hf7]⟩ (hp7.le (by simp only[hN];omega) fun b hb=>by simp(disch:=(try simp only[hN]);omega)only[go_sem,simprocAttr]) ((hg7.kids (show 2<2^61 by decide)).keep9 (by omega) (by simp only[hN];omega) fun b _ _ _ hb1 hb2 hb3=>by simp(disch:=(try simp only[hN]);omega)only[go_sem,simprocAttr])
 rw[if_neg ci] at hQ ⊢
 intro h3 hf3
 have hn3:=hf3.n;try simp only[hN] at hn3
 have hp3:=hp2.fr hf3
 have q3:=(hf3.old h.n (by omega) (by omega)).trans q0
 have hf3':∀b',b'<h.n→h3.get b'=h.get b':=fun b' hb'=>by simp(disch:=(try simp only[hN]);omega)only[go_sem,simprocAttr,hf3.old,hf]
 clear hf hf3 hp1 hp2 hf2' q0 q2 ci
 simp(disch:=(try simp only[hN]);omega)only[go_sem,simprocAttr]
 unfold semiP at hQ
 refine simple_tok hp3 hsm ?_
 cases hx:simpleP E lv ts with
 | error e=>
  obtain ⟨e,p⟩:=e
  rw[hx] at hQ
  intro h4 hf4
  have hn4:=hf4.n;try simp only[hN] at hn4
  simp(disch:=(try simp only[hN]);omega)only[go_sem,simprocAttr]
  exact hQ _ ⟨by (try simp only[hN]);omega,fun b hb hne=>by (try simp only[hN] at hb hne);simp(disch:=(try simp only[hN]);omega)only[go_sem,simprocAttr,hf4.old,hf3']⟩
 | ok y=>
  obtain ⟨n,ts1⟩:=y
  rw[hx] at hQ
  simp only[mustP] at hQ
  intro h4 kv hf4 hp4 hk4
  have hn4:=hf4.n;try simp only[hN] at hn4
  have q4:=(hf4.old h.n (by omega) (by omega)).trans q3
  have hf4':∀b',b'<h.n→b'≠r→h4.get b'=h.get b':=fun b' hb1 hb2=>by simp(disch:=(try simp only[hN]);omega)only[go_sem,simprocAttr,hf4.old,hf3']
  clear hf4 hf3' q3
  simp(disch:=(try simp only[hN]);omega)only[go_sem,simprocAttr,hk4.flat.1,hk4.flat.2]
  refine must_tok (hp4.le (by simp only[hN];omega) fun b hb=>by simp(disch:=(try simp only[hN]);omega)only[go_sem,simprocAttr]) ?_
  by_cases cm:isT [[59]] ts1=true
  ·rw[if_pos cm] at hQ ⊢
   simp only at hQ
   intro h5 hf5 hp5
   have hn5:=hf5.n;try simp only[hN] at hn5
   have b5:h5.get h4.n=some ⟨1,.cells .own 0 (ndC n kv)⟩:=by simp(disch:=(try simp only[hN]);omega)only[go_sem,simprocAttr,hf5.old,ndC]
   have q5:h5.get h.n=some ⟨0,.cells .own 0 zN⟩:=by simp(disch:=(try simp only[hN]);omega)only[go_sem,simprocAttr,hf5.old,q4,zN]
   have hk5:KidsR h.n h5 n.kids kv:=hk4.keep (by omega) (by omega) fun b hb1 hb2=>by simp(disch:=(try simp only[hN]);omega)only[go_sem,simprocAttr,hf5.old]
   have hf5':∀b',b'<h.n→b'≠r→h5.get b'=h.get b':=fun b' hb1 hb2=>by simp(disch:=(try simp only[hN]);omega)only[go_sem,simprocAttr,hf5.old,hf4']
   clear hf5 hf4' hk4
   simp(disch:=(try simp only[hN]);omega)only[go_sem,simprocAttr,b5,q5,zN,ndC,hk5.flat.1,hk5.flat.2]
   exact hQ _ kv ⟨by (try simp only[hN]);omega,fun b hb hne=>by (try simp only[hN] at hb hne);simp(disch:=(try simp only[hN]);omega)only[go_sem,simprocAttr,hf5']⟩ (hp5.le (by simp only[hN];omega) fun b hb=>by simp(disch:=(try simp only[hN]);omega)only[go_sem,simprocAttr]) (hk5.keep9 (Nat.le_refl _) (by simp only[hN];omega) fun b _ _ _ hb1 hb2 hb3=>by
    have:b≠h.n:=by rintro rfl;rw[q5] at hb3;cases hb3
    simp(disch:=(try simp only[hN]);omega)only[go_sem,simprocAttr])
  ·rw[if_neg cm] at hQ ⊢
   intro h5 hf5
   have hn5:=hf5.n;try simp only[hN] at hn5
   simp(disch:=(try simp only[hN]);omega)only[go_sem,simprocAttr]
   exact hQ _ ⟨by (try simp only[hN]);omega,fun b hb hne=>by (try simp only[hN] at hb hne);simp(disch:=(try simp only[hN]);omega)only[go_sem,simprocAttr,hf5.old,hf4']⟩
theorem blockP_tok {E:Nat}:∀f,PSpecB f 28 E (blockP E f)
 | 0=>fun _ _ h _=>absurd h (Nat.not_lt_zero _)
 | f+1=>fun h1 h2 h3 h4=>by
  rw[blockP] at h4
  exact block_tok (stmt_tok (blockP_tok f) (blockP_fine f)) (stmtP_fine (blockP_fine f)) h1 h2 h3 h4
theorem lay_end {css zs new:List AV} {o:Nat} (hl:css.length=o) (h:new.length=zs.length):lay (css++zs) o new=some (css++new):=by
 subst hl
 simp [lay,ble_nat,h]
theorem GKids.zapp {lo m:Nat} {h:AHeap} {v kv:AV} {ns:List Nd} {n:Nd} (g:GKids lo h v ns) (hlo:lo≤h.n) (hs:ns.length<2^36) (hk:KidsR m h n.kids kv) (hm:lo≤m) (hv:∀b,blkV v=some b→b<m) :
  ∃h' css,appendA h 9 96 v 1 zN=some (.slice h.n 0 (ns.length+1) (ns.length+1) false,h')∧h'.n=h.n+1∧h'.get h.n=some ⟨0,.cells .own 9 (css++zN)⟩∧lay (css++zN) (ns.length*9) (ndC n kv)=some (css++ndC n kv)∧GKids lo (h'.upd h.n 1 (.cells .own 9 (css++ndC n kv))) (.slice h.n 0 (ns.length+1) (ns.length+1) false) (ns++[n])∧∀b,b<h.n→blkV v≠some b→h'.get b=h.get b:=by
 obtain ⟨css,hsl,hr⟩:=g
 obtain ⟨h',h1,h2,h3,h4,h5⟩:=hsl.app2 (bytes:=96) (new:=zN) hlo rfl rfl (by simp only[room];omega) (by simp only[room];omega)
 refine ⟨h',css,h1,h3,h4,lay_end hsl.1 rfl,⟨css++ndC n kv,?_,?_⟩,h5⟩
 ·rw[List.length_append]
  refine ⟨by rw[List.length_append,hsl.1];exact (Nat.succ_mul _ 9).symm,.inr ⟨Nat.succ_pos _,h.n,1,rfl,hlo,by rw[AHeap.upd_n];omega,by rw[AHeap.get_upd,if_pos rfl]⟩⟩
 ·have hu:∀b,b<h.n→(h'.upd h.n 1 (.cells .own 9 (css++ndC n kv))).get b=h'.get b:=fun b hb=>by rw[AHeap.get_upd,if_neg (by omega)]
  refine RowsS.app (hr.keep9 (fun b hb hl=>⟨hb.1,by simp [blkV];omega⟩) (by rw[AHeap.upd_n];omega) fun b _ _ _ hb hl _=>(hu b hl).trans (h5 b hl hb.2)) (KidsS.keep9 (fun b hb hl=>⟨Nat.le_trans hm hb,by simp [blkV];omega⟩) (by rw[AHeap.upd_n];omega) (fun b _ _ _ hb hl _=>(hu b hl).trans (h5 b hl ?_)) hk)
  intro e
  have:=hv b e
  omega
def Fr2 (r b:Nat) (h h':AHeap):Prop:=h.n≤h'.n∧∀x,x<h.n→x≠r→x≠b→h'.get x=h.get x
theorem params_tok {E r lv b ver:Nat} {k p:Int} {nm:Bs} {ts:List Tok} {h:AHeap} (hp:PInv h r E ts lv) (hsm:ts.length≤2000) (hrb:r<b) (hbn:b<h.n) (hb:h.get b=some ⟨ver,.cells .own 0 [.int .i64 k,.int .i64 p,.str nm,.int .i64 0,.int .i64 0,.int .i64 0,.int .i64 0,.int .u64 0,.nilSlice]⟩) {Q:QR}
  (hQ:match paramsP E ts with
   | .error (e,p)=>∀h',Fr2 r b h h'→Q (treeStop e p) h'
   | .ok (ns,ts')=>∀h' v ver',Fr2 r b h h'→PInv h' r E ts' lv→h'.get b=some ⟨ver',.cells .own 0 [.int .i64 k,.int .i64 p,.str nm,.int .i64 0,.int .i64 (ns.length:Int),.int .i64 0,.int .i64 0,.int .u64 0,v]⟩→GKids h.n h' v ns→Q (.ret undefA) h'):WF F 27 [.ptr r 0,.ptr b 0] h Q:=by
 refine WF.code F27 rfl ?_
 have hlt:=hp.hi
 simp(disch:=(try simp only[hN]);omega)only[go_sem,simprocAttr]
 unfold paramsP mustP at hQ
 refine must_tok hp ?_
 by_cases c1:isT [[40]] ts=true
 ·rw[if_pos c1] at hQ ⊢
  simp only at hQ
  intro h1 hf1 hp1
  have hn1:=hf1.n;try simp only[hN] at hn1
  have hlt1:=hp1.hi
  have htl:=tail_lt (isT_ne c1)
  generalize ts.tail=ts1 at *
  simp(disch:=(try simp only[hN]);omega)only[go_sem,simprocAttr]
  refine is_tok (ws:=[[41]]) (md:=.own) (ver:=0) (E:=E) (ts:=ts1) (lv:=lv) (hp1.fr ⟨by (try simp only[hN]);omega,fun b hb hne=>by (try simp only[hN] at hb hne);simp(disch:=(try simp only[hN]);omega)only[go_sem,simprocAttr]⟩) (by (first|(simp(disch:=(try simp only[hN]);omega)only[go_sem,simprocAttr,List.map];done)|(simp(disch:=(try simp only[hN]);omega)only[go_sem,simprocAttr,List.map];rfl))) (by simp only[hN];omega) (show 1<2^62 by decide) ?_
  intro h2 hf2
  have hn2:=hf2.n;try simp only[hN] at hn2
  have hp2:PInv h2 r E ts1 lv:=hp1.fr ⟨by (try simp only[hN]);omega,fun b hb hne=>by (try simp only[hN] at hb hne);simp(disch:=(try simp only[hN]);omega)only[go_sem,simprocAttr,hf2.old]⟩
  have hfo:∀b',b'<h.n→b'≠r→h2.get b'=h.get b':=fun b' hb1 hb2=>by simp(disch:=(try simp only[hN]);omega)only[go_sem,simprocAttr,hf2.old,hf1.old]
  have b2:=(hfo b hbn (by omega)).trans hb
  have hR:∃R,commaP E (paramP E) ts1=R:=⟨_,rfl⟩
  obtain ⟨R,hR⟩:=hR
  rw[hR] at hQ
  have hz:R≠.error (0,0):=by
   rw[←hR]
   exact (commaP_fine (E:=E) (x:=paramP E) (fun ts=>paramP_fine ts) ts1).ne
  obtain ⟨f,bm,hfl,hbm,hfm⟩:∃f bm,f≤2001∧isT [[41]] ts1=!bm∧((bm=true∧commaL E (paramP E) f [] ts1=R)∨(bm=false∧R=.ok ([],ts1))):=by
   unfold commaP at hR
   cases hi:isT [[41]] ts1 with
   | true=>rw[if_pos hi] at hR;exact ⟨0,false,by omega,rfl,.inr ⟨rfl,hR.symm⟩⟩
   | false=>rw[if_neg (by rw[hi];decide)] at hR;exact ⟨_,true,by omega,rfl,.inl ⟨rfl,hR⟩⟩
  rw[hbm]
  simp(disch:=(try simp only[hN]);omega)only[go_sem,simprocAttr,Bool.not_not]
  have hn0:h.n≤h2.n:=by omega
  have hfo2:Fr2 r b h h2:=⟨hn0,fun x h1 h2 _=>hfo x h1 h2⟩
  clear hf2 hp1 hbm hR hn1 hf1 hfo
  refine wp_loopx 0 (fun g a h'=>∃c v ns ts2 v2,GKids h.n h' v ns∧PInv h' r E ts2 lv∧Fr2 r b h h'∧h'.get b=some ⟨v2,.cells .own 0 [.int .i64 k,.int .i64 p,.str nm,.int .i64 0,.int .i64 (ns.length:Int),.int .i64 0,.int .i64 0,.int .u64 0,v]⟩∧ns.length+g≤2001∧((c=true∧commaL E (paramP E) g ns ts2=R)∨(c=false∧R=.ok (ns,ts2)))∧a.tm.get 0=some (.ptr r 0)∧a.tm.get 1=some (.ptr b 0)∧a.tm.get 4=some (.bool c)∧a.df=[])
   (fun a h'=>∃v ns ts2 v2,GKids h.n h' v ns∧PInv h' r E ts2 lv∧Fr2 r b h h'∧h'.get b=some ⟨v2,.cells .own 0 [.int .i64 k,.int .i64 p,.str nm,.int .i64 0,.int .i64 (ns.length:Int),.int .i64 0,.int .i64 0,.int .u64 0,v]⟩∧ns.length≤2001∧R=.ok (ns,ts2)∧a.tm.get 0=some (.ptr r 0)∧a.tm.get 1=some (.ptr b 0)∧a.df=[]) ?_ ?_ f ?_
  ·rintro g ⟨t,df⟩ h3 ⟨c,v,ns,ts2,v2,hg,hp3,hfo3,b3,hlen,hc,k0,k1,k4,hdf⟩
   simp only at k0 k1 k4 hdf
   subst hdf
   have hlt3:=hp3.hi
   obtain ⟨hn3,hf3⟩:=hfo3
   rcases hc with ⟨rfl,hcl⟩|⟨rfl,hcl⟩
   ·cases g with
    | zero=>exact absurd hcl.symm hz
    | succ g=>
     rw[commaL] at hcl
     unfold paramP takeP at hcl
     simp(disch:=(try simp only[hN]);omega)only[go_sem,simprocAttr,k0,k1,k4]
     refine take_tok (k:=1) hp3 (by decide) ?_
     by_cases hk:(hdT E ts2).kind=1
     ·rw[if_pos hk] at hcl ⊢
      simp only at hcl
      intro h4 hf4 hp4
      have hn4:=hf4.n;try simp only[hN] at hn4
      have b4:=(hf4.old b (by omega) (by omega)).trans b3
      have hg4:=hg.fr hf4 (.inl hlt)
      have hf4':∀x,x<h.n→x≠r→x≠b→h4.get x=h.get x:=fun x h1 h2 h3=>by simp(disch:=(try simp only[hN]);omega)only[go_sem,simprocAttr,hf4.old,hf3]
      clear hf4 hf3 b3 hg hp3
      generalize ts2.tail=ts3 at *
      have d1:decide (b=h4.n+1)=false:=decide_eq_false (by omega)
      have d2:decide (h4.n=h4.n+1)=false:=decide_eq_false (by omega)
      simp(disch:=(try simp only[hN]);omega)only[go_sem,simprocAttr,tokAV,k0,k1,k4,b4,d1,d2]
      generalize hH:AHeap.alloc (AHeap.upd (AHeap.alloc _ _) _ _ _) _=H
      have hHn:H.n=h4.n+2:=by rw[←hH];simp(disch:=(try simp only[hN]);omega)only[go_sem,simprocAttr]
      have t0:H.get h4.n=some ⟨1,.cells .own 0 [.int .i64 ((hdT E ts2).kind:Int),.str (hdT E ts2).text,.int .i64 ((hdT E ts2).n:Int),.int .u64 ((hdT E ts2).bits:Int),.int .i64 ((hdT E ts2).pos:Int)]⟩:=by rw[←hH];simp(disch:=(try simp only[hN]);omega)only[go_sem,simprocAttr]
      have z0:H.get (h4.n+1)=some ⟨0,.cells .own 9 zN⟩:=by rw[←hH];simp(disch:=(try simp only[hN]);omega)only[go_sem,simprocAttr,zN]
      have b5:H.get b=some ⟨v2,.cells .own 0 [.int .i64 k,.int .i64 p,.str nm,.int .i64 0,.int .i64 (ns.length:Int),.int .i64 0,.int .i64 0,.int .u64 0,v]⟩:=by rw[←hH];simp(disch:=(try simp only[hN]);omega)only[go_sem,simprocAttr,b4]
      have hpH:PInv H r E ts3 lv:=by rw[←hH];exact hp4.le (by simp only[hN];omega) fun b hb=>by simp(disch:=(try simp only[hN]);omega)only[go_sem,simprocAttr]
      have hfH:∀x,x<h.n→x≠r→x≠b→H.get x=h.get x:=fun x h1 h2 h3=>by rw[←hH];simp(disch:=(try simp only[hN]);omega)only[go_sem,simprocAttr,hf4']
      have hgH:GKids h.n H v ns:=by rw[←hH];exact hg4.keep (by simp only[hN];omega) fun b _ _ _ hb1 hb2 hb3=>by simp(disch:=(try simp only[hN]);omega)only[go_sem,simprocAttr]
      have hlt4:=hp4.hi
      clear hH hf4' hg4 hp4
      generalize (hdT E ts2).pos=P at *
      generalize (hdT E ts2).text=T at *
      generalize (hdT E ts2).kind=K at *
      generalize (hdT E ts2).n=KN at *
      generalize (hdT E ts2).bits=KB at *
      refine typ_tok hpH ?_
      cases hy:typP E ts3 with
      | error e=>
       obtain ⟨e,p⟩:=e
       rw[hy] at hcl
       simp only at hcl
       rw[←hcl] at hQ
       intro h5 hf5
       have hn5:=hf5.n;try simp only[hN] at hn5
       have b6:=(hf5.old b (by omega) (by omega)).trans b5
       have t6:=(hf5.old h4.n (by omega) (by omega)).trans t0
       have z6:=(hf5.old (h4.n+1) (by omega) (by omega)).trans z0
       simp(disch:=(try simp only[hN]);omega)only[go_sem,simprocAttr,b6,b5,t6,t0,z0,z6,hgH.len]
       exact hQ _ ⟨by omega,fun x h1 h2 h3=>by simp(disch:=(try simp only[hN]);omega)only[go_sem,simprocAttr,hf5.old,hfH]⟩
      | ok y=>
       obtain ⟨y,ts4⟩:=y
       rw[hy] at hcl
       simp only at hcl
       intro h5 hf5 hp5
       have hn5:=hf5.n;try simp only[hN] at hn5
       have b6:=(hf5.old b (by omega) (by omega)).trans b5
       have t6:=(hf5.old h4.n (by omega) (by omega)).trans t0
       have z6:=(hf5.old (h4.n+1) (by omega) (by omega)).trans z0
       have hg5:=hgH.fr hf5 (.inl hlt)
       obtain ⟨h6,css,happ,hn6,g6,hlay,hg6,ho6⟩:=hg5.zapp (m:=h5.n) (n:=.mk 8 P T y 0 0 0 0 []) (kv:=.nilSlice) (by omega) (by omega) .nil (by omega) (fun b hb=>(hg5.blk hb).2)
       have d3:decide (h5.n=b)=false:=decide_eq_false (by omega)
       have hvb:∀x,x<h.n→blkV v≠some x:=fun x hx e=>by have:=hgH.blk e;omega
       have b7:h6.get b=some ⟨v2,.cells .own 0 [.int .i64 k,.int .i64 p,.str nm,.int .i64 0,.int .i64 (ns.length:Int),.int .i64 0,.int .i64 0,.int .u64 0,v]⟩:=(ho6 b (by omega) (hvb b hbn)).trans b6
       simp only[ndC,zN,Nd.kind,Nd.pos,Nd.name,Nd.typ,Nd.n,Nd.size,Nd.obj,Nd.bits] at happ hlay
       simp(disch:=(try simp only[hN]);omega)only[go_sem,simprocAttr,b6,b5,t6,t0,z6,z0,zN,hg5.len,happ,g6,hlay,b7,d3,k0,k1,k4]
       generalize hH:AHeap.upd (AHeap.upd (AHeap.upd _ _ _ _) _ _ _) _ _ _=H7
       have hHn7:H7.n=h6.n:=by rw[←hH];simp(disch:=(try simp only[hN]);omega)only[go_sem,simprocAttr]
       have b8:H7.get b=some ⟨v2+1+1,.cells .own 0 [.int .i64 k,.int .i64 p,.str nm,.int .i64 0,.int .i64 ((ns++[Nd.mk 8 P T y 0 0 0 0 []]).length:Int),.int .i64 0,.int .i64 0,.int .u64 0,.slice h5.n 0 (ns.length+1) (ns.length+1) false]⟩:=by rw[←hH];simp(disch:=(try simp only[hN]);omega)only[go_sem,simprocAttr,List.length_append,List.length_cons,List.length_nil];rfl
       have hp7:PInv H7 r E ts4 lv:=by
        rw[←hH]
        exact hp5.le (by simp only[hN];omega) fun x hx=>by
         simp(disch:=(try simp only[hN]);omega)only[go_sem,simprocAttr]
         exact ho6 x (by omega) (hvb x (by omega))
       have hf7:∀x,x<h.n→x≠r→x≠b→H7.get x=h.get x:=fun x h1 h2 h3=>by
        rw[←hH]
        simp(disch:=(try simp only[hN]);omega)only[go_sem,simprocAttr]
        rw[ho6 x (by omega) (hvb x (by omega))]
        simp(disch:=(try simp only[hN]);omega)only[go_sem,simprocAttr,hf5.old,hfH]
       have hg7:GKids h.n H7 (.slice h5.n 0 (ns.length+1) (ns.length+1) false) (ns++[Nd.mk 8 P T y 0 0 0 0 []]):=by
        rw[←hH]
        exact hg6.keep (by simp only[hN];omega) fun x _ _ _ hb1 hb2 hb3=>by simp(disch:=(try simp only[hN]);omega)only[go_sem,simprocAttr,ndC,Nd.kind,Nd.pos,Nd.name,Nd.typ,Nd.n,Nd.size,Nd.obj,Nd.bits]
       clear hH hg6 ho6 b7 hlay happ g6 hf5 hfH hgH hg5 hpH hp5 b6 t6 z6 z0 b5 t0
       refine maybe_tok hp7 ?_
       by_cases c3:isT [[44]] ts4=true
       ·rw[if_pos c3] at hcl ⊢
        intro h8 hf8 hp8
        have hn8:=hf8.n;try simp only[hN] at hn8
        have b9:=(hf8.old b (by omega) (by omega)).trans b8
        simp(disch:=(try simp only[hN]);omega)only[go_sem,simprocAttr,k0,k1,k4]
        exact ⟨g,Nat.lt_succ_self _,true,_,_,_,_,hg7.fr hf8 (.inl hlt),hp8,⟨by omega,fun x h1 h2 h3=>by rw[hf8.old x (by omega) h2,hf7 x h1 h2 h3]⟩,b9,by rw[List.length_append,List.length_cons,List.length_nil];omega,.inl ⟨rfl,hcl⟩,rfl⟩
       ·rw[if_neg c3] at hcl ⊢
        intro h8 hf8
        have hn8:=hf8.n;try simp only[hN] at hn8
        have b9:=(hf8.old b (by omega) (by omega)).trans b8
        simp(disch:=(try simp only[hN]);omega)only[go_sem,simprocAttr,k0,k1,k4]
        exact ⟨g,Nat.lt_succ_self _,false,_,_,_,_,hg7.fr hf8 (.inr (Nat.le_refl _)),hp7.fr hf8,⟨by omega,fun x h1 h2 h3=>by rw[hf8.all (by omega),hf7 x h1 h2 h3]⟩,b9,by rw[List.length_append,List.length_cons,List.length_nil];omega,.inr ⟨rfl,hcl.symm⟩,rfl⟩
     ·rw[if_neg hk] at hcl ⊢
      simp only at hcl
      rw[←hcl] at hQ
      intro h4 hf4
      have hn4:=hf4.n;try simp only[hN] at hn4
      simp(disch:=(try simp only[hN]);omega)only[go_sem,simprocAttr]
      exact hQ _ ⟨by omega,fun x h1 h2 h3=>by simp(disch:=(try simp only[hN]);omega)only[go_sem,simprocAttr,hf4.old,hf3]⟩
   ·simp(disch:=(try simp only[hN]);omega)only[go_sem,simprocAttr,k0,k1,k4]
    exact ⟨v,ns,ts2,v2,hg,hp3,⟨hn3,hf3⟩,b3,by omega,hcl⟩
  ·rintro ⟨t,df⟩ h3 ⟨v,ns,ts2,v2,hg,hp3,⟨hn3,hf3⟩,b3,hlen,hcl,k0,k1,hdf⟩
   simp only at k0 k1 hdf
   subst hdf
   rw[hcl] at hQ
   simp only at hQ
   simp(disch:=(try simp only[hN]);omega)only[go_sem,simprocAttr,k0,k1]
   refine must_tok hp3 ?_
   by_cases c2:isT [[41]] ts2=true
   ·rw[if_pos c2] at hQ ⊢
    intro h4 hf4 hp4
    have hn4:=hf4.n;try simp only[hN] at hn4
    have b4:=(hf4.old b (by omega) (by omega)).trans b3
    simp(disch:=(try simp only[hN]);omega)only[go_sem,simprocAttr]
    exact hQ _ _ _ ⟨by omega,fun x h1 h2 h3=>by simp(disch:=(try simp only[hN]);omega)only[go_sem,simprocAttr,hf4.old,hf3]⟩ hp4 b4 (hg.fr hf4 (.inl hlt))
   ·rw[if_neg c2] at hQ ⊢
    intro h4 hf4
    have hn4:=hf4.n;try simp only[hN] at hn4
    simp(disch:=(try simp only[hN]);omega)only[go_sem,simprocAttr]
    exact hQ _ ⟨by omega,fun x h1 h2 h3=>by simp(disch:=(try simp only[hN]);omega)only[go_sem,simprocAttr,hf4.old,hf3]⟩
  ·refine ⟨bm,.nilSlice,[],ts1,ver,GKids.nil,hp2,hfo2,b2,?_,hfm,?_⟩
   ·simpa using hfl
   ·simp(disch:=(try simp only[hN]);omega)only[go_sem,simprocAttr]
 ·rw[if_neg c1] at hQ ⊢
  intro h1 hf1
  have hn1:=hf1.n;try simp only[hN] at hn1
  simp(disch:=(try simp only[hN]);omega)only[go_sem,simprocAttr]
  exact hQ _ ⟨by omega,fun x h1 h2 h3=>by simp(disch:=(try simp only[hN]);omega)only[go_sem,simprocAttr,hf1.old]⟩
theorem commaL_len {E:Nat} {x:List Tok→PR} (hx:∀ts,FE ts 1 (x ts)):∀(f:Nat) (acc:List Nd) (ts:List Tok) (ns:List Nd) (ts':List Tok),commaL E x f acc ts=.ok (ns,ts')→ns.length+ts'.length≤acc.length+ts.length
 | 0,_,_,_,_,h=>by cases h
 | f+1,acc,ts,ns,ts',h=>by
  rw[commaL] at h
  have h1:=hx ts
  cases hy:x ts with
  | error e=>rw[hy] at h;cases h
  | ok y=>
   obtain ⟨n,ts1⟩:=y
   rw[hy] at h h1
   simp only[FE] at h h1
   split at h
   ·have:=commaL_len hx f _ _ _ _ h
    have ht:=tail_le (ts:=ts1)
    rw[List.length_append,List.length_cons,List.length_nil] at this
    omega
   ·cases h
    rw[List.length_append,List.length_cons,List.length_nil]
    omega
theorem paramsP_len {E:Nat} {ts ts':List Tok} {ns:List Nd} (h:paramsP E ts=.ok (ns,ts')) (hs:ts.length≤2000):ns.length≤2000:=by
 unfold paramsP at h
 cases h1:mustP E [40] ts with
 | error e=>rw[h1] at h;cases h
 | ok ts1=>
  obtain ⟨_,_,l1⟩:=must_ok h1
  rw[h1] at h
  simp only at h
  cases h2:commaP E (paramP E) ts1 with
  | error e=>rw[h2] at h;cases h
  | ok y=>
   obtain ⟨n2,ts2⟩:=y
   rw[h2] at h
   simp only at h
   have hl:n2.length≤ts1.length:=by
    unfold commaP at h2
    split at h2
    ·cases h2;simp
    ·have:=commaL_len (E:=E) (x:=paramP E) paramP_fine _ _ _ _ _ h2
     simp only[List.length_nil] at this
     omega
   cases h3:mustP E [41] ts2 with
   | error e=>rw[h3] at h;cases h
   | ok ts3=>rw[h3] at h;cases h;omega
theorem decl_tok {E r lv:Nat} {ts:List Tok} {h:AHeap} {Q:QR} (hp:PInv h r E ts 0) (hsm:ts.length≤2000) (hQ:PQ h r E 0 Q (declP E ts)):WF F 13 [.ptr r 0] h Q:=by
 refine WF.code F13 rfl ?_
 have hlt:=hp.hi
 simp(disch:=(try simp only[hN]);omega)only[go_sem,simprocAttr]
 refine here_tok (E:=E) (lv:=0) (ts:=ts) (hp.fr ⟨by (try simp only[hN]);omega,fun b hb hne=>by (try simp only[hN] at hb hne);simp(disch:=(try simp only[hN]);omega)only[go_sem,simprocAttr]⟩) ?_
 intro h1 hf1
 have hn1:=hf1.n;try simp only[hN] at hn1
 have q0:h1.get h.n=some ⟨0,.cells .own 0 zN⟩:=by simp(disch:=(try simp only[hN]);omega)only[go_sem,simprocAttr,hf1.old]
 have hf:∀b',b'<h.n→h1.get b'=h.get b':=fun b' hb'=>by simp(disch:=(try simp only[hN]);omega)only[go_sem,simprocAttr,hf1.old]
 have hp1:PInv h1 r E ts 0:=hp.fr ⟨by (try simp only[hN]);omega,fun b hb hne=>by (try simp only[hN] at hb hne);simp(disch:=(try simp only[hN]);omega)only[go_sem,simprocAttr,hf]⟩
 clear hf1
 simp(disch:=(try simp only[hN]);omega)only[go_sem,simprocAttr,tokAV]
 generalize hH:AHeap.alloc (AHeap.upd (AHeap.alloc _ _) _ _ _) _=H
 have hHn:H.n=h1.n+2:=by rw[←hH];simp(disch:=(try simp only[hN]);omega)only[go_sem,simprocAttr]
 have t0:H.get h1.n=some ⟨1,.cells .own 0 [.int .i64 ((hdT E ts).kind:Int),.str (hdT E ts).text,.int .i64 ((hdT E ts).n:Int),.int .u64 ((hdT E ts).bits:Int),.int .i64 ((hdT E ts).pos:Int)]⟩:=by rw[←hH];simp(disch:=(try simp only[hN]);omega)only[go_sem,simprocAttr]
 have w0:H.get (h1.n+1)=some ⟨0,.cells .own 1 (([[118,97,114],[109,117,116,101,120],[99,104,97,110],[97,116,111,109,105,99],[102,117,110,99]]:List Bs).map .str)⟩:=by rw[←hH];(first|(simp(disch:=(try simp only[hN]);omega)only[go_sem,simprocAttr,List.map];done)|(simp(disch:=(try simp only[hN]);omega)only[go_sem,simprocAttr,List.map];rfl))
 have hpH:PInv H r E ts 0:=by rw[←hH];exact hp1.le (by simp only[hN];omega) fun b hb=>by simp(disch:=(try simp only[hN]);omega)only[go_sem,simprocAttr]
 have q0:H.get h.n=some ⟨0,.cells .own 0 zN⟩:=by rw[←hH];simp(disch:=(try simp only[hN]);omega)only[go_sem,simprocAttr,q0]
 have hf:∀b',b'<h.n→H.get b'=h.get b':=fun b' hb'=>by rw[←hH];simp(disch:=(try simp only[hN]);omega)only[go_sem,simprocAttr,hf]
 clear hH hp1 hp
 refine is_tok (ws:=[[118,97,114],[109,117,116,101,120],[99,104,97,110],[97,116,111,109,105,99],[102,117,110,99]]) (md:=.own) (ver:=0) (E:=E) (ts:=ts) (lv:=0) hpH w0 (by omega) (show 5<2^62 by decide) ?_
 intro h2 hf2
 have hn2:=hf2.n;try simp only[hN] at hn2
 have t2:=(hf2.old h1.n (by omega) (by omega)).trans t0
 have q2:=(hf2.old h.n (by omega) (by omega)).trans q0
 have hp2:PInv h2 r E ts 0:=hpH.fr hf2
 have hf:∀b',b'<h.n→h2.get b'=h.get b':=fun b' hb'=>by simp(disch:=(try simp only[hN]);omega)only[go_sem,simprocAttr,hf2.old,hf]
 generalize h1.n=B at *
 clear hf2 hpH w0 t0 q0
 unfold declP takeP at hQ
 cases c0:isT [[118,97,114],[109,117,116,101,120],[99,104,97,110],[97,116,111,109,105,99],[102,117,110,99]] ts
 ·rw[if_neg (by rw[c0];decide)] at hQ
  simp(disch:=(try simp only[hN]);omega)only[go_sem,simprocAttr]
  refine wrong_tok hp2 ?_
  intro h3 hf3
  have hn3:=hf3.n;try simp only[hN] at hn3
  simp(disch:=(try simp only[hN]);omega)only[go_sem,simprocAttr]
  exact hQ _ ⟨by (try simp only[hN]);omega,fun b hb hne=>by (try simp only[hN] at hb hne);simp(disch:=(try simp only[hN]);omega)only[go_sem,simprocAttr,hf3.old,hf]⟩
 ·rw[if_pos c0] at hQ
  have hne:=isT_ne c0
  obtain ⟨ver,v,hr,ht⟩:=hp2.st
  obtain ⟨c,o,vc,cs,rfl,hc,hcr,ht'⟩:=ht.slc hne
  have hpos:0<ts.length:=List.length_pos_iff.2 hne
  have c1:bnd (some (.int .i64 1)) 0 ts.length=some 1:=bnd_num (i:=1) (by omega)
  have c2:ts.length.beq 0=false:=by rw[beq_nat];exact decide_eq_false (by omega)
  have d1:decide (B=h2.n)=false:=decide_eq_false (by omega)
  have d2:decide (h2.n=B)=false:=decide_eq_false (by omega)
  simp(disch:=(try simp only[hN]);omega)only[go_sem,simprocAttr,hr,hc,c1,c2,Option.isSome_none,Bool.and_false,cond_false,t2,d1,d2]
  have htl:=tail_lt hne
  generalize hH:AHeap.alloc (AHeap.upd _ r _ _) _=H
  have hHn:H.n=h2.n+1:=by rw[←hH];simp(disch:=(try simp only[hN]);omega)only[go_sem,simprocAttr]
  have t0:H.get B=some ⟨1,.cells .own 0 [.int .i64 ((hdT E ts).kind:Int),.str (hdT E ts).text,.int .i64 ((hdT E ts).n:Int),.int .u64 ((hdT E ts).bits:Int),.int .i64 ((hdT E ts).pos:Int)]⟩:=by rw[←hH];simp(disch:=(try simp only[hN]);omega)only[go_sem,simprocAttr,t2]
  have n0:H.get h2.n=some ⟨0,.cells .own 0 zN⟩:=by rw[←hH];simp(disch:=(try simp only[hN]);omega)only[go_sem,simprocAttr,zN]
  have q0:H.get h.n=some ⟨0,.cells .own 0 zN⟩:=by rw[←hH];simp(disch:=(try simp only[hN]);omega)only[go_sem,simprocAttr,q2]
  have hpH:PInv H r E ts.tail 0:=by
   rw[←hH]
   have:=hp2.step (ver:=ver+1) (h':=h2.upd r (ver+1) (.cells .own 0 [.slice c (o+5) (ts.length-1) (ts.length-1) false,.int .i64 (E:Int),.int .i64 0])) (Fr.upd _ _ _) (by simp(disch:=(try simp only[hN]);omega)only[go_sem,simprocAttr]) ht' hp2.lvl
   exact this.fr ⟨by simp(disch:=(try simp only[hN]);omega)only[go_sem,simprocAttr];omega,fun b hb _=>by simp only[AHeap.upd_n] at hb;simp(disch:=(try simp only[hN]);omega)only[go_sem,simprocAttr]⟩
  have hfH:∀b',b'<h.n→b'≠r→H.get b'=h.get b':=fun b' hb1 hb2=>by rw[←hH];simp(disch:=(try simp only[hN]);omega)only[go_sem,simprocAttr,hf]
  clear hH hr ht ht' hc hcr hp2 hf t2 q2 hpos c1 c2 c0 hne
  generalize (hdT E ts).pos=P at *
  generalize (hdT E ts).text=T at *
  generalize (hdT E ts).kind=K at *
  generalize (hdT E ts).n=KN at *
  generalize (hdT E ts).bits=KB at *
  have hsm1:ts.tail.length≤2000:=by omega
  generalize ts.tail=ts1 at *
  have hfe:=takeP_fine (E:=E) (k:=1) (by decide) (ts:=ts1)
  unfold takeP at hfe
  refine take_tok (k:=1) hpH (by decide) ?_
  by_cases hk:(hdT E ts1).kind=1
  ·rw[if_pos hk] at hQ hfe ⊢
   simp only[FE] at hQ hfe
   intro h3 hf3 hp3
   have hn3:=hf3.n;try simp only[hN] at hn3
   have t3:=(hf3.old B (by omega) (by omega)).trans t0
   have n3:=(hf3.old h2.n (by omega) (by omega)).trans n0
   have q3:=(hf3.old h.n (by omega) (by omega)).trans q0
   have hf3':∀b',b'<h.n→b'≠r→h3.get b'=h.get b':=fun b' hb1 hb2=>by simp(disch:=(try simp only[hN]);omega)only[go_sem,simprocAttr,hf3.old,hfH]
   clear hf3 hfH q0 hpH
   simp(disch:=(try simp only[hN]);omega)only[go_sem,simprocAttr,tokAV,t3,n3,t0,n0,zN,d1,d2]
   generalize (hdT E ts1).text=M at *
   generalize ts1.tail=ts2 at *
   generalize hH:AHeap.upd h3 h2.n _ _=H4
   have hHn4:H4.n=h3.n:=by rw[←hH];simp(disch:=(try simp only[hN]);omega)only[go_sem,simprocAttr]
   have t4:H4.get B=some ⟨1,.cells .own 0 [.int .i64 (K:Int),.str T,.int .i64 (KN:Int),.int .u64 (KB:Int),.int .i64 (P:Int)]⟩:=by rw[←hH];simp(disch:=(try simp only[hN]);omega)only[go_sem,simprocAttr,t3]
   have n4:H4.get h2.n=some ⟨1,.cells .own 0 [.int .i64 0,.int .i64 (P:Int),.str M,.int .i64 0,.int .i64 0,.int .i64 0,.int .i64 0,.int .u64 0,.nilSlice]⟩:=by rw[←hH];simp(disch:=(try simp only[hN]);omega)only[go_sem,simprocAttr]
   have q4:H4.get h.n=some ⟨0,.cells .own 0 zN⟩:=by rw[←hH];simp(disch:=(try simp only[hN]);omega)only[go_sem,simprocAttr,q3]
   have hp4:PInv H4 r E ts2 0:=by rw[←hH];exact hp3.le (by simp only[hN];omega) fun b hb=>by simp(disch:=(try simp only[hN]);omega)only[go_sem,simprocAttr]
   have hf4:∀b',b'<h.n→b'≠r→H4.get b'=h.get b':=fun b' hb1 hb2=>by rw[←hH];simp(disch:=(try simp only[hN]);omega)only[go_sem,simprocAttr,hf3']
   clear hH hf3' hp3 t3 n3 q3 n0 t0
   unfold mustP at hQ
   by_cases g:T=[109,117,116,101,120]
   ·rw[if_pos g] at hQ
    simp(disch:=(try simp only[hN]);omega)only[go_sem,simprocAttr,t4,n4,eq_bs g]
    generalize hH:AHeap.upd H4 h2.n _ _=HX
    have hnHX:HX.n=H4.n:=by rw[←hH];simp(disch:=(try simp only[hN]);omega)only[go_sem,simprocAttr]
    have nHX:HX.get h2.n=some ⟨2,.cells .own 0 [.int .i64 4,.int .i64 (P:Int),.str M,.int .i64 0,.int .i64 0,.int .i64 0,.int .i64 0,.int .u64 0,.nilSlice]⟩:=by rw[←hH];simp(disch:=(try simp only[hN]);omega)only[go_sem,simprocAttr]
    have qHX:HX.get h.n=some ⟨0,.cells .own 0 zN⟩:=by rw[←hH];simp(disch:=(try simp only[hN]);omega)only[go_sem,simprocAttr,q4]
    have hpHX:PInv HX r E ts2 0:=by rw[←hH];exact hp4.le (by simp only[hN];omega) fun b hb=>by simp(disch:=(try simp only[hN]);omega)only[go_sem,simprocAttr]
    have hfHX:∀b',b'<h.n→b'≠r→HX.get b'=h.get b':=fun b' hb1 hb2=>by rw[←hH];simp(disch:=(try simp only[hN]);omega)only[go_sem,simprocAttr,hf4]
    clear hH
    refine must_tok hpHX ?_
    by_cases cm:isT [[59]] ts2=true
    ·rw[if_pos cm] at hQ ⊢
     simp only at hQ
     intro h9 hf9 hp9
     have hn9:=hf9.n;try simp only[hN] at hn9
     have n9:=(hf9.old h2.n (by omega) (by omega)).trans nHX
     have q9:=(hf9.old h.n (by omega) (by omega)).trans qHX
     simp(disch:=(try simp only[hN]);omega)only[go_sem,simprocAttr,n9,q9,zN]
     exact hQ _ .nilSlice ⟨by (try simp only[hN]);omega,fun b hb hne=>by (try simp only[hN] at hb hne);simp(disch:=(try simp only[hN]);omega)only[go_sem,simprocAttr,hf9.old,hfHX]⟩ (hp9.le (by simp only[hN];omega) fun b hb=>by simp(disch:=(try simp only[hN]);omega)only[go_sem,simprocAttr]) .nil
    ·rw[if_neg cm] at hQ ⊢
     intro h9 hf9
     have hn9:=hf9.n;try simp only[hN] at hn9
     simp(disch:=(try simp only[hN]);omega)only[go_sem,simprocAttr]
     exact hQ _ ⟨by (try simp only[hN]);omega,fun b hb hne=>by (try simp only[hN] at hb hne);simp(disch:=(try simp only[hN]);omega)only[go_sem,simprocAttr,hf9.old,hfHX]⟩
   rw[if_neg g] at hQ
   simp(disch:=(try simp only[hN]);omega)only[go_sem,simprocAttr,t4,n4,ne_bs g]
   clear g
   by_cases g:T=[97,116,111,109,105,99]
   ·rw[if_pos g] at hQ
    simp(disch:=(try simp only[hN]);omega)only[go_sem,simprocAttr,t4,n4,eq_bs g]
    generalize hH:AHeap.upd H4 h2.n _ _=HX
    have hnHX:HX.n=H4.n:=by rw[←hH];simp(disch:=(try simp only[hN]);omega)only[go_sem,simprocAttr]
    have nHX:HX.get h2.n=some ⟨2,.cells .own 0 [.int .i64 6,.int .i64 (P:Int),.str M,.int .i64 0,.int .i64 0,.int .i64 0,.int .i64 0,.int .u64 0,.nilSlice]⟩:=by rw[←hH];simp(disch:=(try simp only[hN]);omega)only[go_sem,simprocAttr]
    have qHX:HX.get h.n=some ⟨0,.cells .own 0 zN⟩:=by rw[←hH];simp(disch:=(try simp only[hN]);omega)only[go_sem,simprocAttr,q4]
    have hpHX:PInv HX r E ts2 0:=by rw[←hH];exact hp4.le (by simp only[hN];omega) fun b hb=>by simp(disch:=(try simp only[hN]);omega)only[go_sem,simprocAttr]
    have hfHX:∀b',b'<h.n→b'≠r→HX.get b'=h.get b':=fun b' hb1 hb2=>by rw[←hH];simp(disch:=(try simp only[hN]);omega)only[go_sem,simprocAttr,hf4]
    clear hH
    refine must_tok hpHX ?_
    by_cases cm:isT [[59]] ts2=true
    ·rw[if_pos cm] at hQ ⊢
     simp only at hQ
     intro h9 hf9 hp9
     have hn9:=hf9.n;try simp only[hN] at hn9
     have n9:=(hf9.old h2.n (by omega) (by omega)).trans nHX
     have q9:=(hf9.old h.n (by omega) (by omega)).trans qHX
     simp(disch:=(try simp only[hN]);omega)only[go_sem,simprocAttr,n9,q9,zN]
     exact hQ _ .nilSlice ⟨by (try simp only[hN]);omega,fun b hb hne=>by (try simp only[hN] at hb hne);simp(disch:=(try simp only[hN]);omega)only[go_sem,simprocAttr,hf9.old,hfHX]⟩ (hp9.le (by simp only[hN];omega) fun b hb=>by simp(disch:=(try simp only[hN]);omega)only[go_sem,simprocAttr]) .nil
    ·rw[if_neg cm] at hQ ⊢
     intro h9 hf9
     have hn9:=hf9.n;try simp only[hN] at hn9
     simp(disch:=(try simp only[hN]);omega)only[go_sem,simprocAttr]
     exact hQ _ ⟨by (try simp only[hN]);omega,fun b hb hne=>by (try simp only[hN] at hb hne);simp(disch:=(try simp only[hN]);omega)only[go_sem,simprocAttr,hf9.old,hfHX]⟩
   rw[if_neg g] at hQ
   simp(disch:=(try simp only[hN]);omega)only[go_sem,simprocAttr,t4,n4,ne_bs g]
   clear g
   by_cases g:T=[99,104,97,110]
   ·rw[if_pos g] at hQ
    simp(disch:=(try simp only[hN]);omega)only[go_sem,simprocAttr,t4,n4,eq_bs g]
    refine sized_tok hp4 ?_
    cases hx:sizedP E ts2 with
    | error e=>
     obtain ⟨e,p⟩:=e
     rw[hx] at hQ
     intro h5 hf5
     have hn5:=hf5.n;try simp only[hN] at hn5
     simp(disch:=(try simp only[hN]);omega)only[go_sem,simprocAttr]
     exact hQ _ ⟨by (try simp only[hN]);omega,fun b hb hne=>by (try simp only[hN] at hb hne);simp(disch:=(try simp only[hN]);omega)only[go_sem,simprocAttr,hf5.old,hf4]⟩
    | ok y=>
     obtain ⟨n,ts5⟩:=y
     rw[hx] at hQ
     simp only at hQ
     intro h5 hf5 hp5
     have hn5:=hf5.n;try simp only[hN] at hn5
     have n5:=(hf5.old h2.n (by omega) (by omega)).trans n4
     have q5:=(hf5.old h.n (by omega) (by omega)).trans q4
     have hf5':∀b',b'<h.n→b'≠r→h5.get b'=h.get b':=fun b' hb1 hb2=>by simp(disch:=(try simp only[hN]);omega)only[go_sem,simprocAttr,hf5.old,hf4]
     clear hf5 hf4
     simp(disch:=(try simp only[hN]);omega)only[go_sem,simprocAttr,n5]
     generalize hH:AHeap.upd (AHeap.upd h5 h2.n _ _) h2.n _ _=HX
     have hnHX:HX.n=h5.n:=by rw[←hH];simp(disch:=(try simp only[hN]);omega)only[go_sem,simprocAttr]
     have nHX:HX.get h2.n=some ⟨3,.cells .own 0 [.int .i64 5,.int .i64 (P:Int),.str M,.int .i64 0,.int .i64 (n:Int),.int .i64 0,.int .i64 0,.int .u64 0,.nilSlice]⟩:=by rw[←hH];simp(disch:=(try simp only[hN]);omega)only[go_sem,simprocAttr]
     have qHX:HX.get h.n=some ⟨0,.cells .own 0 zN⟩:=by rw[←hH];simp(disch:=(try simp only[hN]);omega)only[go_sem,simprocAttr,q5]
     have hpHX:PInv HX r E ts5 0:=by rw[←hH];exact hp5.le (by simp only[hN];omega) fun b hb=>by simp(disch:=(try simp only[hN]);omega)only[go_sem,simprocAttr]
     have hfHX:∀b',b'<h.n→b'≠r→HX.get b'=h.get b':=fun b' hb1 hb2=>by rw[←hH];simp(disch:=(try simp only[hN]);omega)only[go_sem,simprocAttr,hf5']
     clear hH
     clear hf5' n5 q5 hp5
     refine typ_tok hpHX ?_
     cases hx:typP E ts5 with
     | error e=>
      obtain ⟨e,p⟩:=e
      rw[hx] at hQ
      intro h5 hf5
      have hn5:=hf5.n;try simp only[hN] at hn5
      simp(disch:=(try simp only[hN]);omega)only[go_sem,simprocAttr]
      exact hQ _ ⟨by (try simp only[hN]);omega,fun b hb hne=>by (try simp only[hN] at hb hne);simp(disch:=(try simp only[hN]);omega)only[go_sem,simprocAttr,hf5.old,hfHX]⟩
     | ok y=>
      obtain ⟨y,ts6⟩:=y
      rw[hx] at hQ
      simp only at hQ
      intro h6 hf6 hp6
      have hn6:=hf6.n;try simp only[hN] at hn6
      have n6:=(hf6.old h2.n (by omega) (by omega)).trans nHX
      have q6:=(hf6.old h.n (by omega) (by omega)).trans qHX
      have hf6':∀b',b'<h.n→b'≠r→h6.get b'=h.get b':=fun b' hb1 hb2=>by simp(disch:=(try simp only[hN]);omega)only[go_sem,simprocAttr,hf6.old,hfHX]
      clear hf6 hfHX
      simp(disch:=(try simp only[hN]);omega)only[go_sem,simprocAttr,n6]
      generalize hH:AHeap.upd h6 h2.n _ _=HY
      have hnHY:HY.n=h6.n:=by rw[←hH];simp(disch:=(try simp only[hN]);omega)only[go_sem,simprocAttr]
      have nHY:HY.get h2.n=some ⟨4,.cells .own 0 [.int .i64 5,.int .i64 (P:Int),.str M,.int .i64 (y:Int),.int .i64 (n:Int),.int .i64 0,.int .i64 0,.int .u64 0,.nilSlice]⟩:=by rw[←hH];simp(disch:=(try simp only[hN]);omega)only[go_sem,simprocAttr]
      have qHY:HY.get h.n=some ⟨0,.cells .own 0 zN⟩:=by rw[←hH];simp(disch:=(try simp only[hN]);omega)only[go_sem,simprocAttr,q6]
      have hpHY:PInv HY r E ts6 0:=by rw[←hH];exact hp6.le (by simp only[hN];omega) fun b hb=>by simp(disch:=(try simp only[hN]);omega)only[go_sem,simprocAttr]
      have hfHY:∀b',b'<h.n→b'≠r→HY.get b'=h.get b':=fun b' hb1 hb2=>by rw[←hH];simp(disch:=(try simp only[hN]);omega)only[go_sem,simprocAttr,hf6']
      clear hH
      refine must_tok hpHY ?_
      by_cases cm:isT [[59]] ts6=true
      ·rw[if_pos cm] at hQ ⊢
       simp only at hQ
       intro h9 hf9 hp9
       have hn9:=hf9.n;try simp only[hN] at hn9
       have n9:=(hf9.old h2.n (by omega) (by omega)).trans nHY
       have q9:=(hf9.old h.n (by omega) (by omega)).trans qHY
       simp(disch:=(try simp only[hN]);omega)only[go_sem,simprocAttr,n9,q9,zN]
       exact hQ _ .nilSlice ⟨by (try simp only[hN]);omega,fun b hb hne=>by (try simp only[hN] at hb hne);simp(disch:=(try simp only[hN]);omega)only[go_sem,simprocAttr,hf9.old,hfHY]⟩ (hp9.le (by simp only[hN];omega) fun b hb=>by simp(disch:=(try simp only[hN]);omega)only[go_sem,simprocAttr]) .nil
      ·rw[if_neg cm] at hQ ⊢
       intro h9 hf9
       have hn9:=hf9.n;try simp only[hN] at hn9
       simp(disch:=(try simp only[hN]);omega)only[go_sem,simprocAttr]
       exact hQ _ ⟨by (try simp only[hN]);omega,fun b hb hne=>by (try simp only[hN] at hb hne);simp(disch:=(try simp only[hN]);omega)only[go_sem,simprocAttr,hf9.old,hfHY]⟩
   rw[if_neg g] at hQ
   simp(disch:=(try simp only[hN]);omega)only[go_sem,simprocAttr,t4,n4,ne_bs g]
   clear g
   by_cases g:T=[102,117,110,99]
   ·rw[if_pos g] at hQ
    simp(disch:=(try simp only[hN]);omega)only[go_sem,simprocAttr,t4,n4,eq_bs g]
    generalize hH:AHeap.upd H4 h2.n _ _=HX
    have hnHX:HX.n=H4.n:=by rw[←hH];simp(disch:=(try simp only[hN]);omega)only[go_sem,simprocAttr]
    have nHX:HX.get h2.n=some ⟨2,.cells .own 0 [.int .i64 7,.int .i64 (P:Int),.str M,.int .i64 0,.int .i64 0,.int .i64 0,.int .i64 0,.int .u64 0,.nilSlice]⟩:=by rw[←hH];simp(disch:=(try simp only[hN]);omega)only[go_sem,simprocAttr]
    have qHX:HX.get h.n=some ⟨0,.cells .own 0 zN⟩:=by rw[←hH];simp(disch:=(try simp only[hN]);omega)only[go_sem,simprocAttr,q4]
    have hpHX:PInv HX r E ts2 0:=by rw[←hH];exact hp4.le (by simp only[hN];omega) fun b hb=>by simp(disch:=(try simp only[hN]);omega)only[go_sem,simprocAttr]
    have hfHX:∀b',b'<h.n→b'≠r→HX.get b'=h.get b':=fun b' hb1 hb2=>by rw[←hH];simp(disch:=(try simp only[hN]);omega)only[go_sem,simprocAttr,hf4]
    clear hH
    have hs2:ts2.length≤2000:=by omega
    have hpe:=paramsP_fine (E:=E) (ts:=ts2)
    refine params_tok (b:=h2.n) (ver:=2) hpHX hs2 (by omega) (by omega) nHX ?_
    cases hx:paramsP E ts2 with
    | error e=>
     obtain ⟨e,p⟩:=e
     rw[hx] at hQ
     intro h5 hf5
     obtain ⟨hn5,ho5⟩:=hf5
     simp(disch:=(try simp only[hN]);omega)only[go_sem,simprocAttr]
     exact hQ _ ⟨by omega,fun b hb hne=>by rw[ho5 b (by omega) hne (by omega),hfHX b hb hne]⟩
    | ok y=>
     obtain ⟨ps,ts3⟩:=y
     rw[hx] at hQ hpe
     simp only[FE] at hQ hpe
     intro h5 v ver5 hfo hp5 n5 hg5
     obtain ⟨hn5,ho5⟩:=hfo
     have q5:=(ho5 h.n (by omega) (by omega) (by omega)).trans qHX
     have hf5:∀b',b'<h.n→b'≠r→h5.get b'=h.get b':=fun b' hb1 hb2=>by rw[ho5 b' (by omega) hb2 (by omega),hfHX b' hb1 hb2]
     have d3:decide (h2.n=h5.n)=false:=decide_eq_false (by omega)
     have hpl:ps.length≤2000:=paramsP_len hx hs2
     have hlt5:=hp5.hi
     clear ho5 hfHX qHX nHX hpHX hp4 hf4 q4 n4 t4
     simp(disch:=(try simp only[hN]);omega)only[go_sem,simprocAttr,n5,d3]
     have hs3:ts3.length≤2000:=by omega
     refine blockP_tok (ts3.length+1) (hp5.le (by simp only[hN];omega) fun b hb=>by simp(disch:=(try simp only[hN]);omega)only[go_sem,simprocAttr]) hs3 (Nat.lt_succ_self _) ?_
     cases hy:blockP E (ts3.length+1) 0 ts3 with
     | error e=>
      obtain ⟨e,p⟩:=e
      rw[hy] at hQ
      intro h6 hf6
      have hn6:=hf6.n;try simp only[hN] at hn6
      have n6:h6.get h2.n=h5.get h2.n:=by simp(disch:=(try simp only[hN]);omega)only[go_sem,simprocAttr,hf6.old]
      have z6:h6.get h5.n=some ⟨0,.cells .own 9 zN⟩:=by simp(disch:=(try simp only[hN]);omega)only[go_sem,simprocAttr,hf6.old,zN]
      rw[n5] at n6
      simp(disch:=(try simp only[hN]);omega)only[go_sem,simprocAttr,n5,n6,z6,hg5.len]
      exact hQ _ ⟨by (try simp only[hN]);omega,fun b hb hne=>by (try simp only[hN] at hb hne);simp(disch:=(try simp only[hN]);omega)only[go_sem,simprocAttr,hf6.old,hf5]⟩
     | ok y=>
      obtain ⟨x,ts4⟩:=y
      rw[hy] at hQ
      simp only at hQ
      intro h6 kx hf6 hp6 hk6
      have hn6:=hf6.n;try simp only[hN] at hn6
      have n6:h6.get h2.n=h5.get h2.n:=by simp(disch:=(try simp only[hN]);omega)only[go_sem,simprocAttr,hf6.old]
      have z6:h6.get h5.n=some ⟨0,.cells .own 9 zN⟩:=by simp(disch:=(try simp only[hN]);omega)only[go_sem,simprocAttr,hf6.old,zN]
      have q6:h6.get h.n=some ⟨0,.cells .own 0 zN⟩:=by simp(disch:=(try simp only[hN]);omega)only[go_sem,simprocAttr,hf6.old,q5,zN]
      rw[n5] at n6
      have hg6:GKids HX.n h6 v ps:=hg5.keep (by omega) fun b _ _ _ hb1 hb2 _=>by simp(disch:=(try simp only[hN]);omega)only[go_sem,simprocAttr,hf6.old]
      have hk6':KidsR (h5.n+1) h6 x.kids kx:=hk6.keep (by simp only[hN];omega) (Nat.le_refl _) fun _ _ _=>rfl
      have hf6':∀b',b'<h.n→b'≠r→h6.get b'=h.get b':=fun b' hb1 hb2=>by simp(disch:=(try simp only[hN]);omega)only[go_sem,simprocAttr,hf6.old,hf5]
      obtain ⟨h7,css,happ,hn7,g7,hlay,hg7,ho7⟩:=hg6.zapp (m:=h5.n+1) (n:=x) (kv:=kx) (by omega) (by omega) hk6' (by omega) (fun b hb=>by have:=(hg5.blk hb).2;omega)
      have hv:∀b,b<HX.n→blkV v≠some b:=fun b hb e=>by have:=hg5.blk e;omega
      have n7:=(ho7 h2.n (by omega) (hv _ (by omega))).trans n6
      have q7:=(ho7 h.n (by omega) (hv _ (by omega))).trans q6
      have hf7:∀b',b'<h.n→b'≠r→h7.get b'=h.get b':=fun b' hb1 hb2=>by rw[ho7 b' (by omega) (hv _ (by omega)),hf6' b' hb1 hb2]
      have hp7:PInv h7 r E ts4 0:=hp6.le (by omega) fun b hb=>ho7 b (by omega) (hv _ (by omega))
      have d4:decide (h6.n=h2.n)=false:=decide_eq_false (by omega)
      have fl:=hk6.flat
      have hl:=hg5.len
      clear hf6 hk6 hk6' hf6' hg5 hg6 ho7 hp6 q6 hf5 q5
      simp only[ndC,zN] at happ hlay
      simp(disch:=(try simp only[hN]);omega)only[go_sem,simprocAttr,n5,n6,z6,zN,hl,happ,g7,hlay,n7,d4,q7,fl.1,fl.2]
      exact hQ _ _ ⟨by (try simp only[hN]);omega,fun b hb hne=>by (try simp only[hN] at hb hne);simp(disch:=(try simp only[hN]);omega)only[go_sem,simprocAttr,hf7]⟩ (hp7.le (by simp only[hN];omega) fun b hb=>by simp(disch:=(try simp only[hN]);omega)only[go_sem,simprocAttr]) ((hg7.kids (by rw[List.length_append,List.length_cons,List.length_nil];omega)).keep9 (by omega) (by simp only[hN];omega) fun b _ _ _ hb1 hb2 hb3=>by simp(disch:=(try simp only[hN]);omega)only[go_sem,simprocAttr,ndC])
   rw[if_neg g] at hQ
   simp(disch:=(try simp only[hN]);omega)only[go_sem,simprocAttr,t4,n4,ne_bs g]
   clear g
   generalize hH:AHeap.upd H4 h2.n _ _=HV
   have hnHV:HV.n=H4.n:=by rw[←hH];simp(disch:=(try simp only[hN]);omega)only[go_sem,simprocAttr]
   have nHV:HV.get h2.n=some ⟨2,.cells .own 0 [.int .i64 2,.int .i64 (P:Int),.str M,.int .i64 0,.int .i64 0,.int .i64 0,.int .i64 0,.int .u64 0,.nilSlice]⟩:=by rw[←hH];simp(disch:=(try simp only[hN]);omega)only[go_sem,simprocAttr]
   have qHV:HV.get h.n=some ⟨0,.cells .own 0 zN⟩:=by rw[←hH];simp(disch:=(try simp only[hN]);omega)only[go_sem,simprocAttr,q4]
   have hpHV:PInv HV r E ts2 0:=by rw[←hH];exact hp4.le (by simp only[hN];omega) fun b hb=>by simp(disch:=(try simp only[hN]);omega)only[go_sem,simprocAttr]
   have hfHV:∀b',b'<h.n→b'≠r→HV.get b'=h.get b':=fun b' hb1 hb2=>by rw[←hH];simp(disch:=(try simp only[hN]);omega)only[go_sem,simprocAttr,hf4]
   have tHV:HV.get B=some ⟨1,.cells .own 0 [.int .i64 (K:Int),.str T,.int .i64 (KN:Int),.int .u64 (KB:Int),.int .i64 (P:Int)]⟩:=by rw[←hH];simp(disch:=(try simp only[hN]);omega)only[go_sem,simprocAttr,t4]
   clear hH
   refine is_tok (ws:=[[91]]) (md:=.own) (ver:=0) (E:=E) (ts:=ts2) (lv:=0) (hpHV.fr ⟨by (try simp only[hN]);omega,fun b hb hne=>by (try simp only[hN] at hb hne);simp(disch:=(try simp only[hN]);omega)only[go_sem,simprocAttr]⟩) (by (first|(simp(disch:=(try simp only[hN]);omega)only[go_sem,simprocAttr,List.map];done)|(simp(disch:=(try simp only[hN]);omega)only[go_sem,simprocAttr,List.map];rfl))) (by simp only[hN];omega) (show 1<2^62 by decide) ?_
   intro h7 hf7
   have hn7:=hf7.n;try simp only[hN] at hn7
   have n7:h7.get h2.n=HV.get h2.n:=by simp(disch:=(try simp only[hN]);omega)only[go_sem,simprocAttr,hf7.old]
   have q7:h7.get h.n=HV.get h.n:=by simp(disch:=(try simp only[hN]);omega)only[go_sem,simprocAttr,hf7.old]
   rw[nHV] at n7
   rw[qHV] at q7
   have hp7:PInv h7 r E ts2 0:=hpHV.fr ⟨by (try simp only[hN]);omega,fun b hb hne=>by (try simp only[hN] at hb hne);simp(disch:=(try simp only[hN]);omega)only[go_sem,simprocAttr,hf7.old]⟩
   have hfr7:∀b',b'<h.n→b'≠r→h7.get b'=h.get b':=fun b' hb1 hb2=>by simp(disch:=(try simp only[hN]);omega)only[go_sem,simprocAttr,hf7.old,hfHV]
   clear hf7 hfHV hpHV qHV nHV tHV hp4 hf4 q4 n4 t4
   cases ci:isT [[91]] ts2
   ·rw[if_neg (by rw[ci];decide)] at hQ
    simp(disch:=(try simp only[hN]);omega)only[go_sem,simprocAttr]
    refine typ_tok hp7 ?_
    cases hx:typP E ts2 with
    | error e=>
     obtain ⟨e,p⟩:=e
     rw[hx] at hQ
     intro h5 hf5
     have hn5:=hf5.n;try simp only[hN] at hn5
     simp(disch:=(try simp only[hN]);omega)only[go_sem,simprocAttr]
     exact hQ _ ⟨by (try simp only[hN]);omega,fun b hb hne=>by (try simp only[hN] at hb hne);simp(disch:=(try simp only[hN]);omega)only[go_sem,simprocAttr,hf5.old,hfr7]⟩
    | ok y=>
     obtain ⟨y,ts6⟩:=y
     rw[hx] at hQ
     simp only at hQ
     intro h6 hf6 hp6
     have hn6:=hf6.n;try simp only[hN] at hn6
     have n6:=(hf6.old h2.n (by omega) (by omega)).trans n7
     have q6:=(hf6.old h.n (by omega) (by omega)).trans q7
     have hf6':∀b',b'<h.n→b'≠r→h6.get b'=h.get b':=fun b' hb1 hb2=>by simp(disch:=(try simp only[hN]);omega)only[go_sem,simprocAttr,hf6.old,hfr7]
     clear hf6 hfr7
     simp(disch:=(try simp only[hN]);omega)only[go_sem,simprocAttr,n6]
     generalize hH:AHeap.upd h6 h2.n _ _=HY
     have hnHY:HY.n=h6.n:=by rw[←hH];simp(disch:=(try simp only[hN]);omega)only[go_sem,simprocAttr]
     have nHY:HY.get h2.n=some ⟨3,.cells .own 0 [.int .i64 2,.int .i64 (P:Int),.str M,.int .i64 (y:Int),.int .i64 0,.int .i64 0,.int .i64 0,.int .u64 0,.nilSlice]⟩:=by rw[←hH];simp(disch:=(try simp only[hN]);omega)only[go_sem,simprocAttr]
     have qHY:HY.get h.n=some ⟨0,.cells .own 0 zN⟩:=by rw[←hH];simp(disch:=(try simp only[hN]);omega)only[go_sem,simprocAttr,q6]
     have hpHY:PInv HY r E ts6 0:=by rw[←hH];exact hp6.le (by simp only[hN];omega) fun b hb=>by simp(disch:=(try simp only[hN]);omega)only[go_sem,simprocAttr]
     have hfHY:∀b',b'<h.n→b'≠r→HY.get b'=h.get b':=fun b' hb1 hb2=>by rw[←hH];simp(disch:=(try simp only[hN]);omega)only[go_sem,simprocAttr,hf6']
     clear hH
     refine must_tok hpHY ?_
     by_cases cm:isT [[59]] ts6=true
     ·rw[if_pos cm] at hQ ⊢
      simp only at hQ
      intro h9 hf9 hp9
      have hn9:=hf9.n;try simp only[hN] at hn9
      have n9:=(hf9.old h2.n (by omega) (by omega)).trans nHY
      have q9:=(hf9.old h.n (by omega) (by omega)).trans qHY
      simp(disch:=(try simp only[hN]);omega)only[go_sem,simprocAttr,n9,q9,zN]
      exact hQ _ .nilSlice ⟨by (try simp only[hN]);omega,fun b hb hne=>by (try simp only[hN] at hb hne);simp(disch:=(try simp only[hN]);omega)only[go_sem,simprocAttr,hf9.old,hfHY]⟩ (hp9.le (by simp only[hN];omega) fun b hb=>by simp(disch:=(try simp only[hN]);omega)only[go_sem,simprocAttr]) .nil
     ·rw[if_neg cm] at hQ ⊢
      intro h9 hf9
      have hn9:=hf9.n;try simp only[hN] at hn9
      simp(disch:=(try simp only[hN]);omega)only[go_sem,simprocAttr]
      exact hQ _ ⟨by (try simp only[hN]);omega,fun b hb hne=>by (try simp only[hN] at hb hne);simp(disch:=(try simp only[hN]);omega)only[go_sem,simprocAttr,hf9.old,hfHY]⟩
   ·rw[if_pos ci] at hQ
    simp(disch:=(try simp only[hN]);omega)only[go_sem,simprocAttr]
    refine sized_tok hp7 ?_
    cases hx:sizedP E ts2 with
    | error e=>
     obtain ⟨e,p⟩:=e
     rw[hx] at hQ
     intro h5 hf5
     have hn5:=hf5.n;try simp only[hN] at hn5
     simp(disch:=(try simp only[hN]);omega)only[go_sem,simprocAttr]
     exact hQ _ ⟨by (try simp only[hN]);omega,fun b hb hne=>by (try simp only[hN] at hb hne);simp(disch:=(try simp only[hN]);omega)only[go_sem,simprocAttr,hf5.old,hfr7]⟩
    | ok y=>
     obtain ⟨n,ts5⟩:=y
     rw[hx] at hQ
     simp only at hQ
     intro h5 hf5 hp5
     have hn5:=hf5.n;try simp only[hN] at hn5
     have n5:=(hf5.old h2.n (by omega) (by omega)).trans n7
     have q5:=(hf5.old h.n (by omega) (by omega)).trans q7
     have hf5':∀b',b'<h.n→b'≠r→h5.get b'=h.get b':=fun b' hb1 hb2=>by simp(disch:=(try simp only[hN]);omega)only[go_sem,simprocAttr,hf5.old,hfr7]
     clear hf5 hfr7
     simp(disch:=(try simp only[hN]);omega)only[go_sem,simprocAttr,n5]
     generalize hH:AHeap.upd (AHeap.upd h5 h2.n _ _) h2.n _ _=HX
     have hnHX:HX.n=h5.n:=by rw[←hH];simp(disch:=(try simp only[hN]);omega)only[go_sem,simprocAttr]
     have nHX:HX.get h2.n=some ⟨4,.cells .own 0 [.int .i64 3,.int .i64 (P:Int),.str M,.int .i64 0,.int .i64 (n:Int),.int .i64 0,.int .i64 0,.int .u64 0,.nilSlice]⟩:=by rw[←hH];simp(disch:=(try simp only[hN]);omega)only[go_sem,simprocAttr]
     have qHX:HX.get h.n=some ⟨0,.cells .own 0 zN⟩:=by rw[←hH];simp(disch:=(try simp only[hN]);omega)only[go_sem,simprocAttr,q5]
     have hpHX:PInv HX r E ts5 0:=by rw[←hH];exact hp5.le (by simp only[hN];omega) fun b hb=>by simp(disch:=(try simp only[hN]);omega)only[go_sem,simprocAttr]
     have hfHX:∀b',b'<h.n→b'≠r→HX.get b'=h.get b':=fun b' hb1 hb2=>by rw[←hH];simp(disch:=(try simp only[hN]);omega)only[go_sem,simprocAttr,hf5']
     clear hH
     clear hf5' n5 q5 hp5
     refine typ_tok hpHX ?_
     cases hx:typP E ts5 with
     | error e=>
      obtain ⟨e,p⟩:=e
      rw[hx] at hQ
      intro h5 hf5
      have hn5:=hf5.n;try simp only[hN] at hn5
      simp(disch:=(try simp only[hN]);omega)only[go_sem,simprocAttr]
      exact hQ _ ⟨by (try simp only[hN]);omega,fun b hb hne=>by (try simp only[hN] at hb hne);simp(disch:=(try simp only[hN]);omega)only[go_sem,simprocAttr,hf5.old,hfHX]⟩
     | ok y=>
      obtain ⟨y,ts6⟩:=y
      rw[hx] at hQ
      simp only at hQ
      intro h6 hf6 hp6
      have hn6:=hf6.n;try simp only[hN] at hn6
      have n6:=(hf6.old h2.n (by omega) (by omega)).trans nHX
      have q6:=(hf6.old h.n (by omega) (by omega)).trans qHX
      have hf6':∀b',b'<h.n→b'≠r→h6.get b'=h.get b':=fun b' hb1 hb2=>by simp(disch:=(try simp only[hN]);omega)only[go_sem,simprocAttr,hf6.old,hfHX]
      clear hf6 hfHX
      simp(disch:=(try simp only[hN]);omega)only[go_sem,simprocAttr,n6]
      generalize hH:AHeap.upd h6 h2.n _ _=HY
      have hnHY:HY.n=h6.n:=by rw[←hH];simp(disch:=(try simp only[hN]);omega)only[go_sem,simprocAttr]
      have nHY:HY.get h2.n=some ⟨5,.cells .own 0 [.int .i64 3,.int .i64 (P:Int),.str M,.int .i64 (y:Int),.int .i64 (n:Int),.int .i64 0,.int .i64 0,.int .u64 0,.nilSlice]⟩:=by rw[←hH];simp(disch:=(try simp only[hN]);omega)only[go_sem,simprocAttr]
      have qHY:HY.get h.n=some ⟨0,.cells .own 0 zN⟩:=by rw[←hH];simp(disch:=(try simp only[hN]);omega)only[go_sem,simprocAttr,q6]
      have hpHY:PInv HY r E ts6 0:=by rw[←hH];exact hp6.le (by simp only[hN];omega) fun b hb=>by simp(disch:=(try simp only[hN]);omega)only[go_sem,simprocAttr]
      have hfHY:∀b',b'<h.n→b'≠r→HY.get b'=h.get b':=fun b' hb1 hb2=>by rw[←hH];simp(disch:=(try simp only[hN]);omega)only[go_sem,simprocAttr,hf6']
      clear hH
      refine must_tok hpHY ?_
      by_cases cm:isT [[59]] ts6=true
      ·rw[if_pos cm] at hQ ⊢
       simp only at hQ
       intro h9 hf9 hp9
       have hn9:=hf9.n;try simp only[hN] at hn9
       have n9:=(hf9.old h2.n (by omega) (by omega)).trans nHY
       have q9:=(hf9.old h.n (by omega) (by omega)).trans qHY
       simp(disch:=(try simp only[hN]);omega)only[go_sem,simprocAttr,n9,q9,zN]
       exact hQ _ .nilSlice ⟨by (try simp only[hN]);omega,fun b hb hne=>by (try simp only[hN] at hb hne);simp(disch:=(try simp only[hN]);omega)only[go_sem,simprocAttr,hf9.old,hfHY]⟩ (hp9.le (by simp only[hN];omega) fun b hb=>by simp(disch:=(try simp only[hN]);omega)only[go_sem,simprocAttr]) .nil
      ·rw[if_neg cm] at hQ ⊢
       intro h9 hf9
       have hn9:=hf9.n;try simp only[hN] at hn9
       simp(disch:=(try simp only[hN]);omega)only[go_sem,simprocAttr]
       exact hQ _ ⟨by (try simp only[hN]);omega,fun b hb hne=>by (try simp only[hN] at hb hne);simp(disch:=(try simp only[hN]);omega)only[go_sem,simprocAttr,hf9.old,hfHY]⟩
  ·rw[if_neg hk] at hQ ⊢
   intro h3 hf3
   have hn3:=hf3.n;try simp only[hN] at hn3
   have t3:=(hf3.old B (by omega) (by omega)).trans t0
   have n3:=(hf3.old h2.n (by omega) (by omega)).trans n0
   simp(disch:=(try simp only[hN]);omega)only[go_sem,simprocAttr,t3,t0,n0,n3]
   exact hQ _ ⟨by (try simp only[hN]);omega,fun b hb hne=>by (try simp only[hN] at hb hne);simp(disch:=(try simp only[hN]);omega)only[go_sem,simprocAttr,hf3.old,hfH]⟩
theorem prog_tok {E r:Nat} {ts:List Tok} {h:AHeap} {Q:QR} (hp:PInv h r E ts 0) (hsm:ts.length≤2000) (hQ:PQ h r E 0 Q (progP E (ts.length+1) 0 ts)):WF F 11 [.ptr r 0] h Q:=by
 refine WF.code F11 rfl ?_
 have hlt:=hp.hi
 simp(disch:=(try simp only[hN]);omega)only[go_sem,simprocAttr]
 refine here_tok (E:=E) (lv:=0) (ts:=ts) (hp.fr ⟨by (try simp only[hN]);omega,fun b hb hne=>by (try simp only[hN] at hb hne);simp(disch:=(try simp only[hN]);omega)only[go_sem,simprocAttr]⟩) ?_
 intro h1 hf1
 have hn1:=hf1.n;try simp only[hN] at hn1
 have hp1:PInv h1 r E ts 0:=hp.fr ⟨by (try simp only[hN]);omega,fun b hb hne=>by (try simp only[hN] at hb hne);simp(disch:=(try simp only[hN]);omega)only[go_sem,simprocAttr,hf1.old]⟩
 simp(disch:=(try simp only[hN]);omega)only[go_sem,simprocAttr,tokAV]
 unfold progP at hQ
 have hR:∃R,upToL (declP E) List.isEmpty (ts.length+1) [] ts=R:=⟨_,rfl⟩
 obtain ⟨R,hR⟩:=hR
 rw[hR] at hQ
 have hz:R≠.error (0,0):=by
  rw[←hR]
  exact (upToL_fine (m:=ts.length+1) (fun ts _=>declP_fine ts) (ts.length+1) [] ts (Nat.lt_succ_self _) (Nat.lt_succ_self _)).ne
 generalize (hdT E ts).pos=P at *
 generalize hH:AHeap.upd (AHeap.alloc _ _) h1.n _ _=H
 have hHn:H.n=h1.n+1:=by rw[←hH];simp(disch:=(try simp only[hN]);omega)only[go_sem,simprocAttr]
 have b0:H.get h1.n=some ⟨1,.cells .own 0 (ndC (nd0 1 P [] []) .nilSlice)⟩:=by rw[←hH];simp(disch:=(try simp only[hN]);omega)only[go_sem,simprocAttr,ndC,nd0,Nd.kind,Nd.pos,Nd.name,Nd.typ,Nd.n,Nd.size,Nd.obj,Nd.bits]
 have q0:H.get h.n=some ⟨0,.cells .own 0 zN⟩:=by rw[←hH];simp(disch:=(try simp only[hN]);omega)only[go_sem,simprocAttr,hf1.old,zN]
 have hpH:PInv H r E ts 0:=by rw[←hH];exact hp1.le (by simp only[hN];omega) fun b hb=>by simp(disch:=(try simp only[hN]);omega)only[go_sem,simprocAttr]
 have hfH:∀b',b'<h.n→b'≠r→H.get b'=h.get b':=fun b' hb1 hb2=>by rw[←hH];simp(disch:=(try simp only[hN]);omega)only[go_sem,simprocAttr,hf1.old]
 have hnf:ts.length+1≤2001:=by omega
 generalize ts.length+1=fu at *
 generalize h1.n=B at *
 clear hH hf1 hp1 hp
 refine wp_loopx 0 (fun g a h'=>∃v ns ts2 v2,GKids h.n h' v ns∧PInv h' r E ts2 0∧h'.get B=some ⟨v2,.cells .own 0 (ndC (nd0 1 P [] []) v)⟩∧h'.get h.n=some ⟨0,.cells .own 0 zN⟩∧B<h'.n∧(∀b',b'<h.n→b'≠r→h'.get b'=h.get b')∧ns.length+g≤2001∧ts2.length≤2000∧upToL (declP E) List.isEmpty g ns ts2=R∧a.tm.get 0=some (.ptr r 0)∧a.tm.get 2=some (.ptr h.n 0)∧a.tm.get 3=some (.ptr B 0)∧a.df=[])
  (fun a h'=>∃v ns ts2 v2,GKids h.n h' v ns∧PInv h' r E ts2 0∧h'.get B=some ⟨v2,.cells .own 0 (ndC (nd0 1 P [] []) v)⟩∧h'.get h.n=some ⟨0,.cells .own 0 zN⟩∧B<h'.n∧(∀b',b'<h.n→b'≠r→h'.get b'=h.get b')∧ns.length≤2001∧R=.ok (ns,ts2)∧a.tm.get 0=some (.ptr r 0)∧a.tm.get 2=some (.ptr h.n 0)∧a.tm.get 3=some (.ptr B 0)∧a.df=[]) ?_ ?_ fu ?_
 ·rintro g ⟨t,df⟩ h4 ⟨v,ns,ts2,v2,hg4,hp4,b4,q4,hn4,hf4',hlen,hs2,hcl,k0,k2,k3,hdf⟩
  simp only at k0 k2 k3 hdf
  subst hdf
  have hlt3:=hp4.hi
  cases g with
  | zero=>exact absurd hcl.symm hz
  | succ g=>
   rw[upToL] at hcl
   obtain ⟨ver,tv,hr,ht⟩:=hp4.st
   have htl:=ht.len
   cases ts2 with
   | nil=>
    simp only[List.isEmpty_nil,if_true] at hcl
    have e0:decide ((([]:List Tok).length:Int)>0)=false:=rfl
    simp(disch:=(try simp only[hN]);omega)only[go_sem,simprocAttr,k0,k2,k3,hr,htl,e0]
    exact ⟨v,ns,[],v2,hg4,hp4,b4,q4,by omega,hf4',by omega,hcl.symm⟩
   | cons t0 tl=>
    simp only[List.isEmpty_cons,Bool.false_eq_true,if_false] at hcl
    have e0:decide (((t0::tl).length:Int)>0)=true:=decide_eq_true (by rw[List.length_cons];omega)
    generalize t0::tl=ts2 at *
    have b4l:h4.get B=some ⟨v2,.cells .own 0 [.int .i64 1,.int .i64 (P:Int),.str [],.int .i64 0,.int .i64 0,.int .i64 0,.int .i64 0,.int .u64 0,v]⟩:=b4
    simp(disch:=(try simp only[hN]);omega)only[go_sem,simprocAttr,k0,k2,k3,hr,htl,e0,b4l]
    clear hr ht htl e0
    refine decl_tok (lv:=0) hp4 hs2 ?_
    have hfn:=declP_fine (E:=E) ts2
    cases hx:declP E ts2 with
    | error e=>
     obtain ⟨e,p⟩:=e
     rw[hx] at hcl
     simp only at hcl
     rw[←hcl] at hQ
     intro h5 hf5
     have hn5:=hf5.n;try simp only[hN] at hn5
     have b5l:=(hf5.old B (by omega) (by omega)).trans b4l
     simp(disch:=(try simp only[hN]);omega)only[go_sem,simprocAttr,b5l,b4l]
     exact hQ _ ⟨by (try simp only[hN]);omega,fun b hb hne=>by (try simp only[hN] at hb hne);simp(disch:=(try simp only[hN]);omega)only[go_sem,simprocAttr,hf5.old,hf4']⟩
    | ok y=>
     obtain ⟨n,ts3⟩:=y
     rw[hx] at hcl
     simp only at hcl
     rw[hx] at hfn
     simp only[FE] at hfn
     intro h5 kv hf5 hp5 hk5
     have hn5:=hf5.n;try simp only[hN] at hn5
     have b5l:=(hf5.old B (by omega) (by omega)).trans b4l
     have q5:=(hf5.old h.n (by omega) (by omega)).trans q4
     have hg5:GKids h.n (h5.alloc (.cells .own 9 (ndC n kv))) v ns:=(hg4.fr hf5 (.inl hlt)).fr (Fr.alloc (Fr.refl h5.n h5) _) (.inr (Nat.le_refl _))
     obtain ⟨v6,h6,happ,hg6,hb6,hn6,ho6⟩:=hg5.append (by simp only[hN];omega) (by omega) (hk5.keep (lo':=h4.n) (Nat.le_refl _) (by simp only[hN];omega) fun b hb1 hb2=>by simp(disch:=(try simp only[hN]);omega)only[go_sem,simprocAttr]) (by omega) (fun b hb=>(hg4.blk hb).2)
     have hvB:blkV v≠some B:=fun e=>by
      obtain ⟨css,hsl,_⟩:=hg4
      obtain ⟨_,⟨_,rfl⟩|⟨_,c,ver,rfl,_,_,hc⟩⟩:=hsl
      ·cases e
      ·cases e;rw[b4] at hc;cases hc
     have hvN:blkV v≠some h.n:=fun e=>by
      obtain ⟨css,hsl,_⟩:=hg4
      obtain ⟨_,⟨_,rfl⟩|⟨_,c,ver,rfl,_,_,hc⟩⟩:=hsl
      ·cases e
      ·cases e;rw[q4] at hc;cases hc
     have b6:h6.get B=some ⟨v2,.cells .own 0 [.int .i64 1,.int .i64 (P:Int),.str [],.int .i64 0,.int .i64 0,.int .i64 0,.int .i64 0,.int .u64 0,v]⟩:=by rw[ho6 B (by simp only[hN];omega) hvB];simp(disch:=(try simp only[hN]);omega)only[go_sem,simprocAttr,b5l]
     have q6:h6.get h.n=some ⟨0,.cells .own 0 zN⟩:=by rw[ho6 h.n (by simp only[hN];omega) hvN];simp(disch:=(try simp only[hN]);omega)only[go_sem,simprocAttr,q5]
     have hf6:∀b',b'<h.n→b'≠r→h6.get b'=h.get b':=fun b' hb1 hb2=>by
      rw[ho6 b' (by simp only[hN];omega) (fun e=>by have:=hg4.blk e;omega)]
      simp(disch:=(try simp only[hN]);omega)only[go_sem,simprocAttr,hf5.old,hf4']
     have hp6:PInv h6 r E ts3 0:=hp5.le (by rw[hn6];simp(disch:=(try simp only[hN]);omega)only[go_sem,simprocAttr];omega) fun b hb=>by
      rw[ho6 b (by simp only[hN];omega) (fun e=>by have:=hg4.blk e;omega)]
      simp(disch:=(try simp only[hN]);omega)only[go_sem,simprocAttr]
     simp only[AHeap.alloc_n] at hn6
     simp only[ndC] at happ
     simp(disch:=(try simp only[hN]);omega)only[go_sem,simprocAttr,k0,k2,k3,hk5.flat.1,hk5.flat.2,happ,b5l,b4l,b6,hg6.flat.1,hg6.flat.2]
     refine ⟨g,Nat.lt_succ_self _,v6,ns++[n],ts3,v2+1,hg6.keep (by simp only[hN];omega) (fun b _ _ _ hb1 hb2 hb3=>?_),hp6.le (by simp only[hN];omega) (fun b hb=>by simp(disch:=(try simp only[hN]);omega)only[go_sem,simprocAttr]),rfl,q6,by omega,fun b hb1 hb2=>by simp(disch:=(try simp only[hN]);omega)only[go_sem,simprocAttr,hf6],by rw[List.length_append];simp only[List.length_cons,List.length_nil];omega,by omega,hcl⟩
     have:b≠B:=by rintro rfl;rw[b6] at hb3;cases hb3
     simp(disch:=(try simp only[hN]);omega)only[go_sem,simprocAttr]
 ·rintro ⟨t,df⟩ h3 ⟨v,ns,ts2,v2,hg,hp3,b3,q3,hn3,hf3,hlen,hcl,k0,k2,k3,hdf⟩
  simp only at k0 k2 k3 hdf
  subst hdf
  rw[hcl] at hQ
  have hlt4:=hp3.hi
  have b4:h3.get B=some ⟨v2,.cells .own 0 [.int .i64 1,.int .i64 (P:Int),.str [],.int .i64 0,.int .i64 0,.int .i64 0,.int .i64 0,.int .u64 0,v]⟩:=b3
  have hg4:=hg.kids (by omega)
  simp(disch:=(try simp only[hN]);omega)only[go_sem,simprocAttr,k0,k2,k3,b4,q3,hg.flat.1,hg.flat.2,zN]
  exact hQ _ v ⟨by (try simp only[hN]);omega,fun b hb hne=>by (try simp only[hN] at hb hne);simp(disch:=(try simp only[hN]);omega)only[go_sem,simprocAttr,hf3]⟩ (hp3.le (by simp only[hN];omega) fun b hb=>by simp(disch:=(try simp only[hN]);omega)only[go_sem,simprocAttr]) (hg4.keep9 (Nat.le_refl _) (by simp only[hN];omega) fun b _ _ _ hb1 hb2 hb3=>by
   have:b≠h.n:=by rintro rfl;rw[q3] at hb3;cases hb3
   simp(disch:=(try simp only[hN]);omega)only[go_sem,simprocAttr])
 ·refine ⟨.nilSlice,[],ts,1,GKids.nil,hpH,b0,q0,by omega,hfH,by simpa using hnf,hsm,hR,?_⟩
  simp(disch:=(try simp only[hN]);omega)only[go_sem,simprocAttr]
theorem read_tokS {fid:Nat} {p:Nat→Nat→PT} (hP:∀{E r:Nat} {ts:List Tok} {h:AHeap} {Q:QR},PInv h r E ts 0→ts.length≤2000→PQ h r E 0 Q (p E (ts.length+1) 0 ts)→WF F fid [.ptr r 0] h Q) {s:Bs} (hlen:s.length<2^62) {h:AHeap} (hG:GH h) {Q:QR} (hQ:ReadQ h Q (readP p s)):WF F 10 [.str s,.func (.func fid) [] []] h Q:=by
 refine WF.code F10 rfl ?_
 simp(disch:=(try simp only[hN]);omega)only[go_sem,simprocAttr]
 refine tokens_spec ((hG.alloc _).alloc _) hlen ?_
 unfold readP at hQ
 cases hts:tokens s with
 | error x=>
  obtain ⟨e,q⟩:=x
  rw[hts] at hQ
  intro h1 hf1
  have hn1:=hf1.n;try simp only[hN] at hn1
  have d1:decide (h.n+1=h.n)=false:=decide_eq_false (by omega)
  simp(disch:=(try simp only[hN]);omega)only[go_sem,simprocAttr,hf1.old,d1]
  refine hQ _ ?_
  exact ⟨by (try simp only[hN]);omega,fun b hb hne=>by (try simp only[hN] at hb hne);simp(disch:=(try simp only[hN]);omega)only[go_sem,simprocAttr,hf1.old]⟩
 | ok ts=>
  rw[hts] at hQ
  simp only at hQ
  intro h1 v1 hf1 hts1
  have hn1:=hf1.n;try simp only[hN] at hn1
  have hG1:GH h1:=hf1.gh (by have:=hG.n;simp(disch:=(try simp only[hN]);omega)only[go_sem,simprocAttr];omega) ((hG.alloc _).alloc _)
  simp(disch:=(try simp only[hN]);omega)only[go_sem,simprocAttr,hf1.old,eqT_nil,hts1.flat.1,hts1.flat.2]
  have hf:∀b',b'<h.n→h1.get b'=h.get b':=fun b' hb'=>by simp(disch:=(try simp only[hN]);omega)only[go_sem,simprocAttr,hf1.old]
  have q4:h1.get h.n=some ⟨0,.cells .own 0 zN⟩:=by simp(disch:=(try simp only[hN]);omega)only[go_sem,simprocAttr,hf1.old]
  have ht0:TokR h1 h1.n ts v1:=by
   obtain ⟨_,⟨h0,rfl⟩|⟨hpos,b,ver,rfl,hb1,hb2,hb3⟩⟩:=hts1
   ·exact .inl ⟨List.length_eq_zero_iff.1 h0,rfl⟩
   ·exact .inr ⟨b,ver,0,ts,by simp,hb2,hb3,rfl⟩
  generalize hH:((h1.upd (h.n+1) 1 (.cells .own 0 [.nilIface,.int .i64 0])).alloc (.cells .own 0 [v1,.int .i64 (s.length:Int),.int .i64 0]))=H
  have hHn:H.n=h1.n+1:=by rw[←hH];simp(disch:=(try simp only[hN]);omega)only[go_sem,simprocAttr]
  have hH1:∀b',b'<h1.n→b'≠h.n+1→H.get b'=h1.get b':=fun b' hb' hn'=>by rw[←hH];simp(disch:=(try simp only[hN]);omega)only[go_sem,simprocAttr]
  have hH5:H.get (h.n+1)=some ⟨1,.cells .own 0 [.nilIface,.int .i64 0]⟩:=by rw[←hH];simp(disch:=(try simp only[hN]);omega)only[go_sem,simprocAttr]
  have hHr:H.get h1.n=some ⟨0,.cells .own 0 [v1,.int .i64 (s.length:Int),.int .i64 0]⟩:=by rw[←hH];simp(disch:=(try simp only[hN]);omega)only[go_sem,simprocAttr]
  have ht:TokR H h1.n ts v1:=by
   obtain ⟨_,⟨h0,rfl⟩|⟨hpos,b,ver,rfl,hb1,hb2,hb3⟩⟩:=hts1
   ·exact .inl ⟨List.length_eq_zero_iff.1 h0,rfl⟩
   ·simp only[AHeap.alloc_n] at hb1
    exact .inr ⟨b,ver,0,ts,by simp,hb2,by rw[hH1 _ hb2 (by omega)];exact hb3,rfl⟩
  have hn0:=hG.n
  have hGH:GH H:=(show Fr (h.n+1) h1 H from ⟨by omega,fun b hb hne=>hH1 b hb hne⟩).gh (by omega) hG1
  have hpH:PInv H h1.n s.length ts 0:=⟨hGH,by omega,by omega,by omega,0,v1,hHr,ht⟩
  have q4:H.get h.n=some ⟨0,.cells .own 0 zN⟩:=by rw[hH1 _ (by omega) (by omega)];exact q4
  have hf:∀b',b'<h.n→H.get b'=h.get b':=fun b' hb'=>by rw[hH1 _ (by omega) (by omega)];exact hf _ hb'
  generalize h1.n=r at *
  clear hH hH1 hHr ht ht0 hG1 hf1 hts1 hGH
  simp only[List.nil_append,List.append_nil]
  refine hP hpH (tokens_len hts) ?_
  cases hx:p s.length (ts.length+1) 0 ts with
  | error x=>
   obtain ⟨e,q⟩:=x
   rw[hx] at hQ
   intro h2 hf2
   have hn2:=hf2.n;try simp only[hN] at hn2
   have q42:h2.get h.n=some ⟨0,.cells .own 0 zN⟩:=by rw[hf2.old _ (by omega) (by omega)];exact q4
   have q52:h2.get (h.n+1)=some ⟨1,.cells .own 0 [.nilIface,.int .i64 0]⟩:=by rw[hf2.old _ (by omega) (by omega)];exact hH5
   simp(disch:=(try simp only[hN]);omega)only[go_sem,simprocAttr,List.append_nil,List.nil_append]
   refine trecover_stop (n:=.mk 0 0 [] 0 0 0 0 0 []) q42 q52 (by omega) (by omega) (by omega) ?_
   rintro h3 hn3 hf3 ⟨v3,q43⟩ ⟨v4,q53⟩
   simp(disch:=(try simp only[hN]);omega)only[go_sem,simprocAttr,q43,q53]
   refine hQ _ ⟨by omega,fun b hb _=>?_⟩
   rw[hf3 _ (by omega) (by omega) (by omega),hf2.old _ (by omega) (by omega)]
   exact hf _ hb
  | ok y=>
   obtain ⟨n,ts'⟩:=y
   rw[hx] at hQ
   intro h2 kv hf2 hp2 hk2
   have hn2:=hf2.n;try simp only[hN] at hn2
   have q42:h2.get h.n=some ⟨0,.cells .own 0 zN⟩:=by rw[hf2.old _ (by omega) (by omega)];exact q4
   have q52:h2.get (h.n+1)=some ⟨1,.cells .own 0 [.nilIface,.int .i64 0]⟩:=by rw[hf2.old _ (by omega) (by omega)];exact hH5
   obtain ⟨vr,v,hr,htr⟩:=hp2.st
   have hlt2:=hp2.hi
   simp(disch:=(try simp only[hN]);omega)only[go_sem,simprocAttr,q42,q52,hk2.flat.1,hk2.flat.2,hr,htr.len]
   cases ts' with
   | nil=>
    have c0:decide ((0:Int)>0)=false:=rfl
    simp(disch:=(try simp only[hN]);omega)only[go_sem,simprocAttr,List.length_nil,Int.natCast_zero,c0,q42,q52,hk2.flat.1,hk2.flat.2]
    refine trecover_ret ?_
    simp(disch:=(try simp only[hN]);omega)only[go_sem,simprocAttr,q42,q52,hk2.flat.1,hk2.flat.2]
    refine hQ _ kv ⟨by (try simp only[hN]);omega,fun b hb hne=>by (try simp only[hN] at hb hne);simp(disch:=(try simp only[hN]);omega)only[go_sem,simprocAttr,hf2.old,hf]⟩ (hk2.keep (by omega) (by simp(disch:=(try simp only[hN]);omega)only[go_sem,simprocAttr];exact Nat.le_refl _) fun b hb1 hb2=>by simp(disch:=(try simp only[hN]);omega)only[go_sem,simprocAttr])
   | cons t ts'=>
    have c1:decide (((ts'.length+1:Nat):Int)>0)=true:=decide_eq_true (by omega)
    simp(disch:=(try simp only[hN]);omega)only[go_sem,simprocAttr,c1]
    refine wrong_tok (hp2.loc (by omega) (by omega) q42) ?_
    intro h3 hf3
    have hn3:=hf3.n;try simp only[hN] at hn3
    have q43:h3.get h.n=some ⟨1,.cells .own 0 (ndC n kv)⟩:=by simp(disch:=(try simp only[hN]);omega)only[go_sem,simprocAttr,hf3.old]
    have q53:h3.get (h.n+1)=some ⟨1,.cells .own 0 [.nilIface,.int .i64 0]⟩:=by rw[hf3.old _ (by simp only[hN];omega) (by simp only[hN];omega),AHeap.get_upd,if_neg (by omega)];exact q52
    simp(disch:=(try simp only[hN]);omega)only[go_sem,simprocAttr,List.append_nil,List.nil_append]
    refine trecover_stop (n:=n) q43 q53 (by omega) (by omega) (by omega) ?_
    rintro h4 hn4 hf4 ⟨v3,q44⟩ ⟨v4,q54⟩
    simp(disch:=(try simp only[hN]);omega)only[go_sem,simprocAttr,q44,q54]
    refine hQ _ ⟨by omega,fun b hb _=>?_⟩
    rw[hf4 _ (by omega) (by omega) (by omega),hf3.old _ (by simp only[hN];omega) (by simp only[hN];omega),AHeap.get_upd,if_neg (by omega),hf2.old _ (by omega) (by omega)]
    exact hf _ hb
theorem parse_read {s:Bs} (hlen:s.length<2^62) {h:AHeap} (hG:GH h) {Q:QR} (hQ:ReadQ h Q (parseS s)):WF F 5 [.str s] h Q:=by
 refine WF.code F5 rfl ?_
 simp(disch:=(try simp only[hN]);omega)only[go_sem,simprocAttr]
 refine read_tokS (p:=progP) prog_tok hlen ((hG.alloc _).alloc _) ?_
 change ReadQ _ _ (parseS s)
 cases hx:parseS s with
 | error x=>
  obtain ⟨e,q⟩:=x
  rw[hx] at hQ
  intro h1 hf1
  have hn1:=hf1.n;try simp only[hN] at hn1
  simp(disch:=(try simp only[hN]);omega)only[go_sem,simprocAttr,hf1.old]
  exact hQ _ ⟨by (try simp only[hN]);omega,fun b hb hne=>by (try simp only[hN] at hb hne);simp(disch:=(try simp only[hN]);omega)only[go_sem,simprocAttr,hf1.old]⟩
 | ok n=>
  rw[hx] at hQ
  intro h1 kv hf1 hk1
  have hn1:=hf1.n;try simp only[hN] at hn1
  simp(disch:=(try simp only[hN]);omega)only[go_sem,simprocAttr,hf1.old,hk1.flat.1,hk1.flat.2]
  exact hQ _ kv ⟨by (try simp only[hN]);omega,fun b hb hne=>by (try simp only[hN] at hb hne);simp(disch:=(try simp only[hN]);omega)only[go_sem,simprocAttr,hf1.old]⟩ (hk1.keep (by simp only[hN];omega) (by simp(disch:=(try simp only[hN]);omega)only[go_sem,simprocAttr];exact Nat.le_refl _) fun b hb1 hb2=>by simp only[AHeap.alloc_n] at hb1;simp(disch:=(try simp only[hN]);omega)only[go_sem,simprocAttr])
theorem RowsS.get {lo:Nat} {h:AHeap}:{ns:List Nd}→{css:List AV}→RowsR lo h ns css→∀{i:Nat} (hi:i<ns.length),∃kv,row css (i*9) 9=some (ndC ns[i] kv)∧KidsR lo h ns[i].kids kv
 | _,_,.nil,i,hi=>absurd hi (Nat.not_lt_zero _)
 | _,_,.cons (n:=n) (ns:=ns) (kv:=kv) (css:=css) k r,0,_=>by
  refine ⟨kv,?_,k⟩
  have:((ndC n kv++css).drop 0).take 9=ndC n kv:=by simp [ndC]
  unfold row
  rw[Nat.zero_mul,ble_nat,decide_eq_true (by simp [ndC])]
  simp [ndC]
 | _,_,.cons (n:=n) (ns:=ns) (kv:=kv) (css:=css) k r,i+1,hi=>by
  obtain ⟨kv',h1,h2⟩:=r.get (i:=i) (by simpa using hi)
  refine ⟨kv',?_,h2⟩
  have e:(i+1)*9=i*9+1+1+1+1+1+1+1+1+1:=by omega
  rw[e]
  simp only[ndC,List.cons_append,List.nil_append,row_tl]
  exact h1
theorem KidsR.len {lo:Nat} {h:AHeap} {ns:List Nd} {v:AV} (k:KidsR lo h ns v):lenA v=some (ns.length:Int):=by
 cases k<;>rfl
theorem KidsR.small {lo:Nat} {h:AHeap} {ns:List Nd} {v:AV} (k:KidsR lo h ns v):ns.length<2^61:=by
 cases k with
 | nil=>simp
 | emp=>simp
 | row _ h0 _ _ _ _ _=>exact h0
end Go.Ev
