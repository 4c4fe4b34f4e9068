/- The tree's reader: is, wrong, must, take, maybe, open, close. -/
import Derived.Test.YtafbchppfbonpaaGreatDoorZK41
set_option linter.all false
set_option linter.unusedVariables false
set_option linter.unusedSimpArgs false
namespace Go.Ev
open Go
set_option maxRecDepth 100000
set_option maxHeartbeats 4000000
attribute [go_sem] treeStop
theorem is_tok {E r lv b ver cap:Nat} {ws:List Bs} {ex:Bool} {md:Md} {ts:List Tok} {h:AHeap} (hp:PInv h r E ts lv) (hb:h.get b=some ⟨ver,.cells md 1 (ws.map .str)⟩) (hbn:b<h.n) (hl:ws.length<2^62) {Q:QR} (hQ:∀h',Fr h.n h h'→Q (.ret (.bool (isT ws ts))) h'):WF F 23 [.ptr r 0,.slice b 0 ws.length cap ex] h Q:=by
 refine WF.code F23 rfl ?_
 simp(disch:=(try simp only[hN]);omega)only[go_sem,simprocAttr]
 refine here_tok hp ?_
 intro h1 hf1
 have hn1:=hf1.n;try simp only[hN] at hn1
 have hb1:h1.get b=some ⟨ver,.cells md 1 (ws.map .str)⟩:=by rw[hf1.all hbn];exact hb
 simp(disch:=(try simp only[hN]);omega)only[go_sem,simprocAttr,tokAV]
 cases ts with
 | nil=>
  simp(disch:=(try simp only[hN]);omega)only[go_sem,simprocAttr,hdT]
  exact hQ _ ⟨by (try simp only[hN]);omega,fun b hb hne=>by (try simp only[hN] at hb hne);simp(disch:=(try simp only[hN]);omega)only[go_sem,simprocAttr,hf1.old]⟩
 | cons t ts=>
  simp(disch:=(try simp only[hN]);omega)only[go_sem,simprocAttr,hdT]
  by_cases k2:t.kind=2
  ·have e:((t.kind:Int)==2)=true:=by simp [k2]
   simp(disch:=(try simp only[hN]);omega)only[go_sem,simprocAttr,e]
   refine sContains (ws:=ws) (ver:=ver) (md:=md) (by rw[AHeap.get_upd,AHeap.get_alloc];simp only[if_neg (show ¬b=h1.n by omega)];exact hb1) hl ?_
   simp(disch:=(try simp only[hN]);omega)only[go_sem,simprocAttr]
   have e2:isT ws (t::ts)=ws.contains t.text:=by simp [isT,k2]
   rw[←e2]
   exact hQ _ ⟨by (try simp only[hN]);omega,fun b hb hne=>by (try simp only[hN] at hb hne);simp(disch:=(try simp only[hN]);omega)only[go_sem,simprocAttr,hf1.old]⟩
  ·have e:((t.kind:Int)==2)=false:=by simpa using fun h:(t.kind:Int)=2=>k2 (by omega)
   by_cases k5:t.kind=5
   ·have e5:((t.kind:Int)==5)=true:=by simp [k5]
    simp(disch:=(try simp only[hN]);omega)only[go_sem,simprocAttr,e,e5]
    refine sContains (ws:=ws) (ver:=ver) (md:=md) (by rw[AHeap.get_upd,AHeap.get_alloc];simp only[if_neg (show ¬b=h1.n by omega)];exact hb1) hl ?_
    simp(disch:=(try simp only[hN]);omega)only[go_sem,simprocAttr]
    have e2:isT ws (t::ts)=ws.contains t.text:=by simp [isT,k5]
    rw[←e2]
    exact hQ _ ⟨by (try simp only[hN]);omega,fun b hb hne=>by (try simp only[hN] at hb hne);simp(disch:=(try simp only[hN]);omega)only[go_sem,simprocAttr,hf1.old]⟩
   ·have e5:((t.kind:Int)==5)=false:=by simpa using fun h:(t.kind:Int)=5=>k5 (by omega)
    simp(disch:=(try simp only[hN]);omega)only[go_sem,simprocAttr,e,e5]
    have e2:isT ws (t::ts)=false:=by simp [isT,k2,k5]
    rw[←e2]
    exact hQ _ ⟨by (try simp only[hN]);omega,fun b hb hne=>by (try simp only[hN] at hb hne);simp(disch:=(try simp only[hN]);omega)only[go_sem,simprocAttr,hf1.old]⟩
theorem wrong_tok {E r lv:Nat} {ts:List Tok} {h:AHeap} (hp:PInv h r E ts lv) {Q:QR} (hQ:∀h',Fr h.n h h'→Q (treeStop 2 (hdT E ts).pos) h'):WF F 22 [.ptr r 0] h Q:=by
 refine WF.code F22 rfl ?_
 simp(disch:=(try simp only[hN]);omega)only[go_sem,simprocAttr,hp.gh.g2]
 refine here_tok hp ?_
 intro h1 hf1
 have hn1:=hf1.n;try simp only[hN] at hn1
 have hn0:=hp.gh.n
 have q:h1.get 1=h.get 1:=hf1.all (by omega)
 simp(disch:=(try simp only[hN]);omega)only[go_sem,simprocAttr,tokAV,q]
 exact hQ _ hf1
theorem TokR.slc {h:AHeap} {r:Nat} {ts:List Tok} {v:AV} (t:TokR h r ts v) (hne:ts≠[]):∃b o ver cs,v=.slice b o ts.length ts.length false∧h.get b=some ⟨ver,.cells .own 5 cs⟩∧b<r∧TokR h r ts.tail (.slice b (o+5) (ts.length-1) (ts.length-1) false):=by
 rcases t with ⟨rfl,rfl⟩|⟨b,ver2,k,all,rfl,hb,hc,hd⟩
 ·exact absurd rfl hne
 ·refine ⟨b,_,_,_,rfl,hc,hb,.inr ⟨b,ver2,k+1,all,?_,hb,hc,?_⟩⟩
  ·rw[List.length_tail,Nat.add_mul]
  ·rw[←List.tail_drop,hd]
theorem take_tok {E r lv k:Nat} {ts:List Tok} {h:AHeap} (hp:PInv h r E ts lv) (hk:k≠0) {Q:QR}
  (hQ:if (hdT E ts).kind=k then ∀h',Fr r h h'→PInv h' r E ts.tail lv→Q (.ret (tokAV (hdT E ts))) h' else ∀h',Fr r h h'→Q (treeStop 2 (hdT E ts).pos) h'):WF F 24 [.ptr r 0,.int .i64 (k:Int)] h Q:=by
 refine WF.code F24 rfl ?_
 have hlt:=hp.hi
 simp(disch:=(try simp only[hN]);omega)only[go_sem,simprocAttr]
 have hp0:=hp.fr (Fr.alloc (Fr.refl h.n h) (.cells .own 0 [.int .i64 0,.str [],.int .i64 0,.int .u64 0,.int .i64 0]))
 refine here_tok hp0 ?_
 intro h1 hf1
 have hn1:=hf1.n;try simp only[hN] at hn1
 simp(disch:=(try simp only[hN]);omega)only[go_sem,simprocAttr,tokAV]
 by_cases hh:(hdT E ts).kind=k
 ·rw[if_pos hh] at hQ
  have e:(((hdT E ts).kind:Int) != (k:Int))=false:=by simp [hh]
  obtain ⟨ver,v,hr,ht⟩:=hp.st
  obtain ⟨b,o,ver2,cs,rfl,hc,hb,ht'⟩:=ht.slc (hdT_ne (E:=E) (by omega))
  have hpos:0<ts.length:=List.length_pos_iff.2 (hdT_ne (E:=E) (by omega))
  have c1:bnd (some (.int .i64 1)) 0 ts.length=some 1:=bnd_num (i:=1) (by omega)
  have c2:ts.length.beq 0=false:=by rw[beq_nat];exact decide_eq_false (by omega)
  have q1:h1.get r=some ⟨ver,.cells .own 0 [.slice b o ts.length ts.length false,.int .i64 (E:Int),.int .i64 (lv:Int)]⟩:=by rw[hf1.all (by simp only[hN];omega),AHeap.get_alloc,if_neg (by omega)];exact hr
  have q2:h1.get b=some ⟨ver2,.cells .own 5 cs⟩:=by rw[hf1.all (by simp only[hN];omega),AHeap.get_alloc,if_neg (by omega)];exact hc
  have q3:=hf1.all (b:=h.n) (by simp only[hN];omega)
  rw[AHeap.get_alloc,if_pos rfl] at q3
  have g1:(h.n=r)=False:=by simp;omega
  have g2:(h1.n=r)=False:=by simp;omega
  have g3:(h1.n=b)=False:=by simp;omega
  simp(disch:=(try simp only[hN]);omega)only[go_sem,simprocAttr,e,q1,q2,q3,c1,c2,Option.isSome_none,Bool.and_false,cond_false]
  have hf:∀b',b'<h.n→h1.get b'=h.get b':=fun b' hb'=>by rw[hf1.all (by simp only[hN];omega),AHeap.get_alloc,if_neg (by omega)]
  refine hQ _ ?_ ?_
  ·exact ⟨by (try simp only[hN]);omega,fun b hb hne=>by (try simp only[hN] at hb hne);simp(disch:=(try simp only[hN]);omega)only[go_sem,simprocAttr,hf]⟩
  ·exact hp.step (ver:=ver+1) ⟨by (try simp only[hN]);omega,fun b hb hne=>by (try simp only[hN] at hb hne);simp(disch:=(try simp only[hN]);omega)only[go_sem,simprocAttr,hf]⟩ (by simp(disch:=(try simp only[hN]);omega)only[go_sem,simprocAttr]) ht' hp.lvl
 ·rw[if_neg hh] at hQ
  have e:(((hdT E ts).kind:Int) != (k:Int))=true:=by simp;omega
  simp(disch:=(try simp only[hN]);omega)only[go_sem,simprocAttr,e]
  refine wrong_tok (hp.fr (ts:=ts) (h':=(h1.alloc (.cells .own 0 [.int .i64 0,.str [],.int .i64 0,.int .u64 0,.int .i64 0])).upd h1.n 1 (.cells .own 0 [.int .i64 ((hdT E ts).kind:Int),.str (hdT E ts).text,.int .i64 ((hdT E ts).n:Int),.int .u64 ((hdT E ts).bits:Int),.int .i64 ((hdT E ts).pos:Int)])) ⟨by (try simp only[hN]);omega,fun b hb hne=>by (try simp only[hN] at hb hne);simp(disch:=(try simp only[hN]);omega)only[go_sem,simprocAttr,hf1.old]⟩) ?_
  intro h2 hf2
  have hn2:=hf2.n;try simp only[hN] at hn2
  simp(disch:=(try simp only[hN]);omega)only[go_sem,simprocAttr]
  exact hQ _ ⟨by (try simp only[hN]);omega,fun b hb hne=>by (try simp only[hN] at hb hne);simp(disch:=(try simp only[hN]);omega)only[go_sem,simprocAttr,hf2.old,hf1.old]⟩
theorem must_tok {E r lv:Nat} {w:Bs} {ts:List Tok} {h:AHeap} (hp:PInv h r E ts lv) {Q:QR}
  (hQ:if isT [w] ts=true then ∀h',Fr r h h'→PInv h' r E ts.tail lv→Q (.ret (tokAV (hdT E ts))) h' else ∀h',Fr r h h'→Q (treeStop 2 (hdT E ts).pos) h'):WF F 29 [.ptr r 0,.str w] h Q:=by
 refine WF.code F29 rfl ?_
 have hlt:=hp.hi
 simp(disch:=(try simp only[hN]);omega)only[go_sem,simprocAttr]
 refine is_tok (ws:=[w]) (md:=.own) (ver:=0) (E:=E) (ts:=ts) (lv:=lv) (hp.fr ⟨by (try simp only[hN]);omega,fun b hb hne=>by (try simp only[hN] at hb hne);simp(disch:=(try simp only[hN]);omega)only[go_sem,simprocAttr]⟩) (by (first|(simp(disch:=(try simp only[hN]);omega)only[go_sem,simprocAttr,List.map];done)|(simp(disch:=(try simp only[hN]);omega)only[go_sem,simprocAttr,List.map];rfl))) (by simp only[hN];omega) (show 1<2^62 by decide) ?_
 intro h1 hf1
 have hn1:=hf1.n;try simp only[hN] at hn1
 simp(disch:=(try simp only[hN]);omega)only[go_sem,simprocAttr]
 by_cases hh:isT [w] ts=true
 ·rw[if_pos hh] at hQ
  obtain ⟨ver,v,hr,ht⟩:=hp.st
  obtain ⟨b,o,ver2,cs,rfl,hc,hb,ht'⟩:=ht.slc (isT_ne hh)
  have hpos:0<ts.length:=List.length_pos_iff.2 (isT_ne hh)
  have c1:bnd (some (.int .i64 1)) 0 ts.length=some 1:=bnd_num (i:=1) (by omega)
  have c2:ts.length.beq 0=false:=by rw[beq_nat];exact decide_eq_false (by omega)
  simp(disch:=(try simp only[hN]);omega)only[go_sem,simprocAttr,hh]
  refine here_tok (hp.fr (ts:=ts) (h':=h1) ⟨by (try simp only[hN]);omega,fun b hb hne=>by (try simp only[hN] at hb hne);simp(disch:=(try simp only[hN]);omega)only[go_sem,simprocAttr,hf1.old]⟩) ?_
  intro h2 hf2
  have hn2:=hf2.n;try simp only[hN] at hn2
  have hf:∀b',b'<h.n→h2.get b'=h.get b':=fun b' hb'=>by simp(disch:=(try simp only[hN]);omega)only[go_sem,simprocAttr,hf2.old,hf1.old]
  have q1:=(hf r (by omega)).trans hr
  have q2:=(hf b (by omega)).trans hc
  have q3:h2.get h.n=some ⟨0,.cells .own 0 [.int .i64 0,.str [],.int .i64 0,.int .u64 0,.int .i64 0]⟩:=by simp(disch:=(try simp only[hN]);omega)only[go_sem,simprocAttr,hf2.old,hf1.old]
  have g1:(h.n=r)=False:=by simp;omega
  have g2:(h2.n=r)=False:=by simp;omega
  have g3:(h2.n=b)=False:=by simp;omega
  simp(disch:=(try simp only[hN]);omega)only[go_sem,simprocAttr,tokAV,q1,q2,q3,c1,c2,Option.isSome_none,Bool.and_false,cond_false]
  refine hQ _ ?_ ?_
  ·exact ⟨by (try simp only[hN]);omega,fun b hb hne=>by (try simp only[hN] at hb hne);simp(disch:=(try simp only[hN]);omega)only[go_sem,simprocAttr,hf]⟩
  ·exact hp.step (ver:=ver+1) ⟨by (try simp only[hN]);omega,fun b hb hne=>by (try simp only[hN] at hb hne);simp(disch:=(try simp only[hN]);omega)only[go_sem,simprocAttr,hf]⟩ (by simp(disch:=(try simp only[hN]);omega)only[go_sem,simprocAttr]) ht' hp.lvl
 ·rw[if_neg hh] at hQ
  have hh':isT [w] ts=false:=by simpa using hh
  simp(disch:=(try simp only[hN]);omega)only[go_sem,simprocAttr,hh']
  refine wrong_tok (hp.fr (ts:=ts) (h':=h1) ⟨by (try simp only[hN]);omega,fun b hb hne=>by (try simp only[hN] at hb hne);simp(disch:=(try simp only[hN]);omega)only[go_sem,simprocAttr,hf1.old]⟩) ?_
  intro h2 hf2
  have hn2:=hf2.n;try simp only[hN] at hn2
  simp(disch:=(try simp only[hN]);omega)only[go_sem,simprocAttr]
  exact hQ _ ⟨by (try simp only[hN]);omega,fun b hb hne=>by (try simp only[hN] at hb hne);simp(disch:=(try simp only[hN]);omega)only[go_sem,simprocAttr,hf2.old,hf1.old]⟩
theorem maybe_tok {E r lv:Nat} {w:Bs} {ts:List Tok} {h:AHeap} (hp:PInv h r E ts lv) {Q:QR}
  (hQ:if isT [w] ts=true then ∀h',Fr r h h'→PInv h' r E ts.tail lv→Q (.ret (.bool true)) h' else ∀h',Fr h.n h h'→Q (.ret (.bool false)) h'):WF F 47 [.ptr r 0,.str w] h Q:=by
 refine WF.code F47 rfl ?_
 have hlt:=hp.hi
 simp(disch:=(try simp only[hN]);omega)only[go_sem,simprocAttr]
 refine is_tok (ws:=[w]) (md:=.own) (ver:=0) (E:=E) (ts:=ts) (lv:=lv) (hp.fr ⟨by (try simp only[hN]);omega,fun b hb hne=>by (try simp only[hN] at hb hne);simp(disch:=(try simp only[hN]);omega)only[go_sem,simprocAttr]⟩) (by (first|(simp(disch:=(try simp only[hN]);omega)only[go_sem,simprocAttr,List.map];done)|(simp(disch:=(try simp only[hN]);omega)only[go_sem,simprocAttr,List.map];rfl))) (by simp only[hN];omega) (show 1<2^62 by decide) ?_
 intro h1 hf1
 have hn1:=hf1.n;try simp only[hN] at hn1
 simp(disch:=(try simp only[hN]);omega)only[go_sem,simprocAttr]
 have hf:∀b',b'<h.n→h1.get b'=h.get b':=fun b' hb'=>by simp(disch:=(try simp only[hN]);omega)only[go_sem,simprocAttr,hf1.old]
 by_cases hh:isT [w] ts=true
 ·rw[if_pos hh] at hQ
  obtain ⟨ver,v,hr,ht⟩:=hp.st
  obtain ⟨b,o,ver2,cs,rfl,hc,hb,ht'⟩:=ht.slc (isT_ne hh)
  have hpos:0<ts.length:=List.length_pos_iff.2 (isT_ne hh)
  have c1:bnd (some (.int .i64 1)) 0 ts.length=some 1:=bnd_num (i:=1) (by omega)
  have c2:ts.length.beq 0=false:=by rw[beq_nat];exact decide_eq_false (by omega)
  have q1:=(hf r (by omega)).trans hr
  have q2:=(hf b (by omega)).trans hc
  simp(disch:=(try simp only[hN]);omega)only[go_sem,simprocAttr,hh,q1,q2,c1,c2,Option.isSome_none,Bool.and_false,cond_false]
  refine hQ _ ?_ ?_
  ·exact ⟨by (try simp only[hN]);omega,fun b hb hne=>by (try simp only[hN] at hb hne);simp(disch:=(try simp only[hN]);omega)only[go_sem,simprocAttr,hf]⟩
  ·exact hp.step (ver:=ver+1) ⟨by (try simp only[hN]);omega,fun b hb hne=>by (try simp only[hN] at hb hne);simp(disch:=(try simp only[hN]);omega)only[go_sem,simprocAttr,hf]⟩ (by simp(disch:=(try simp only[hN]);omega)only[go_sem,simprocAttr]) ht' hp.lvl
 ·rw[if_neg hh] at hQ
  have hh':isT [w] ts=false:=by simpa using hh
  simp(disch:=(try simp only[hN]);omega)only[go_sem,simprocAttr,hh']
  exact hQ _ ⟨by (try simp only[hN]);omega,fun b hb hne=>by (try simp only[hN] at hb hne);simp(disch:=(try simp only[hN]);omega)only[go_sem,simprocAttr,hf]⟩
theorem open_tok {E r lv:Nat} {w:Bs} {ts:List Tok} {h:AHeap} (hp:PInv h r E ts lv) {Q:QR}
  (hQ:if isT [w] ts=true then (if lv=16 then ∀h',Fr r h h'→Q (treeStop 3 (hdT E ts).pos) h' else ∀h',Fr r h h'→PInv h' r E ts.tail (lv+1)→Q (.ret (tokAV (hdT E ts))) h') else ∀h',Fr r h h'→Q (treeStop 2 (hdT E ts).pos) h'):WF F 48 [.ptr r 0,.str w] h Q:=by
 refine WF.code F48 rfl ?_
 have hlt:=hp.hi
 have hlv:=hp.lvl
 have hn0:=hp.gh.n
 simp(disch:=(try simp only[hN]);omega)only[go_sem,simprocAttr]
 refine is_tok (ws:=[w]) (md:=.own) (ver:=0) (E:=E) (ts:=ts) (lv:=lv) (hp.fr ⟨by (try simp only[hN]);omega,fun b hb hne=>by (try simp only[hN] at hb hne);simp(disch:=(try simp only[hN]);omega)only[go_sem,simprocAttr]⟩) (by (first|(simp(disch:=(try simp only[hN]);omega)only[go_sem,simprocAttr,List.map];done)|(simp(disch:=(try simp only[hN]);omega)only[go_sem,simprocAttr,List.map];rfl))) (by simp only[hN];omega) (show 1<2^62 by decide) ?_
 intro h1 hf1
 have hn1:=hf1.n;try simp only[hN] at hn1
 have hf:∀b',b'<h.n→h1.get b'=h.get b':=fun b' hb'=>by simp(disch:=(try simp only[hN]);omega)only[go_sem,simprocAttr,hf1.old]
 have hp1:PInv h1 r E ts lv:=hp.fr ⟨by (try simp only[hN]);omega,fun b hb hne=>by (try simp only[hN] at hb hne);simp(disch:=(try simp only[hN]);omega)only[go_sem,simprocAttr,hf]⟩
 obtain ⟨ver,v,hr,ht⟩:=hp.st
 have q1:=(hf r (by omega)).trans hr
 simp(disch:=(try simp only[hN]);omega)only[go_sem,simprocAttr]
 by_cases hh:isT [w] ts=true
 ·rw[if_pos hh] at hQ
  by_cases h16:lv=16
  ·rw[if_pos h16] at hQ
   have e:((lv:Int)==16)=true:=by simp [h16]
   simp(disch:=(try simp only[hN]);omega)only[go_sem,simprocAttr,hh,q1,e,hp1.gh.g3]
   refine here_tok hp1 ?_
   intro h2 hf2
   have hn2:=hf2.n;try simp only[hN] at hn2
   have q:h2.get 2=h1.get 2:=hf2.all (by omega)
   simp(disch:=(try simp only[hN]);omega)only[go_sem,simprocAttr,tokAV,q]
   exact hQ _ ⟨by (try simp only[hN]);omega,fun b hb hne=>by (try simp only[hN] at hb hne);simp(disch:=(try simp only[hN]);omega)only[go_sem,simprocAttr,hf2.old,hf]⟩
  ·rw[if_neg h16] at hQ
   have e:((lv:Int)==16)=false:=by simp;omega
   simp(disch:=(try simp only[hN]);omega)only[go_sem,simprocAttr,hh,q1,e]
   have ep:((lv:Int)+1)=((lv+1:Nat):Int):=by omega
   rw[ep]
   refine must_tok (E:=E) (lv:=lv+1) (ts:=ts) (hp1.step (ver:=ver+1) (Fr.upd _ _ _) (by simp(disch:=(try simp only[hN]);omega)only[go_sem,simprocAttr,ht.flat.1,ht.flat.2]) (ht.fr (q:=r) ⟨by (try simp only[hN]);omega,fun b hb hne=>by (try simp only[hN] at hb hne);simp(disch:=(try simp only[hN]);omega)only[go_sem,simprocAttr,hf]⟩ hlt (by omega)) (by omega)) ?_
   rw[if_pos hh]
   intro h2 hf2 hp2
   have hn2:=hf2.n;try simp only[hN] at hn2
   have q3:h2.get h.n=some ⟨0,.cells .own 0 [.int .i64 0,.str [],.int .i64 0,.int .u64 0,.int .i64 0]⟩:=by simp(disch:=(try simp only[hN]);omega)only[go_sem,simprocAttr,hf2.old,hf1.old]
   simp(disch:=(try simp only[hN]);omega)only[go_sem,simprocAttr,tokAV,q3]
   refine hQ _ ?_ ?_
   ·exact ⟨by (try simp only[hN]);omega,fun b hb hne=>by (try simp only[hN] at hb hne);simp(disch:=(try simp only[hN]);omega)only[go_sem,simprocAttr,hf2.old,hf]⟩
   ·exact hp2.fr' (q:=h.n) (Fr.upd _ _ _) hlt
 ·rw[if_neg hh] at hQ
  have hh':isT [w] ts=false:=by simpa using hh
  simp(disch:=(try simp only[hN]);omega)only[go_sem,simprocAttr,hh']
  refine wrong_tok hp1 ?_
  intro h2 hf2
  have hn2:=hf2.n;try simp only[hN] at hn2
  simp(disch:=(try simp only[hN]);omega)only[go_sem,simprocAttr]
  exact hQ _ ⟨by (try simp only[hN]);omega,fun b hb hne=>by (try simp only[hN] at hb hne);simp(disch:=(try simp only[hN]);omega)only[go_sem,simprocAttr,hf2.old,hf]⟩
attribute [go_sem] ndC
theorem close_tok {E r lv:Nat} {w:Bs} {ts:List Tok} {h:AHeap} (hp:PInv h r E ts (lv+1)) {Q:QR}
  (hQ:if isT [w] ts=true then ∀h',Fr r h h'→PInv h' r E ts.tail lv→Q (.ret (.tuple [])) h' else ∀h',Fr r h h'→Q (treeStop 2 (hdT E ts).pos) h'):WF F 50 [.ptr r 0,.str w] h Q:=by
 refine WF.code F50 rfl ?_
 have hlv:=hp.lvl
 simp(disch:=(try simp only[hN]);omega)only[go_sem,simprocAttr]
 refine must_tok hp ?_
 by_cases hh:isT [w] ts=true
 ·rw[if_pos hh] at hQ ⊢
  intro h1 hf1 hp1
  obtain ⟨ver,v,hr,ht⟩:=hp1.st
  have hlt:=hp1.hi
  have ep:(((lv+1:Nat):Int)-1)=(lv:Int):=by omega
  simp(disch:=(try simp only[hN]);omega)only[go_sem,simprocAttr,tokAV,hr,ep]
  exact hQ _ (hf1.upd' _ _) (hp1.step (ver:=ver+1) (Fr.upd _ _ _) (by simp(disch:=(try simp only[hN]);omega)only[go_sem,simprocAttr,ht.flat.1,ht.flat.2]) ht (by omega))
 ·rw[if_neg hh] at hQ ⊢
  intro h1 hf1
  simp(disch:=(try simp only[hN]);omega)only[go_sem,simprocAttr]
  exact hQ _ hf1
def PQ (h:AHeap) (r E lv:Nat) (Q:QR):PR→Prop
 | .error (e,p)=>∀h',Fr r h h'→Q (treeStop e p) h'
 | .ok (n,ts')=>∀h' kv,Fr r h h'→PInv h' r E ts' lv→KidsR h.n h' n.kids kv→Q (.ret (.agg (ndC n kv))) h'
def PSpec (fid E:Nat) (u:PT):Prop:=∀{h:AHeap} {r lv:Nat} {ts:List Tok} {Q:QR},PInv h r E ts lv→u lv ts≠.error (0,0)→PQ h r E lv Q (u lv ts)→WF F fid [.ptr r 0] h Q
theorem KidsR.one {lo b ver:Nat} {h:AHeap} {ex:Bool} {n:Nd} {kv:AV} (k:KidsR lo h n.kids kv) (hb:lo≤b) (hn:b<h.n) (hg:h.get b=some ⟨ver,.cells .own 9 (ndC n kv)⟩):KidsR lo h [n] (.slice b 0 1 1 ex):=
 KidsS.own (by simp) (show 1<2^61 by decide) hb hn hg (by have:=RowsS.cons k RowsS.nil;rwa[List.append_nil] at this)
theorem KidsR.two {lo b ver:Nat} {h:AHeap} {ex:Bool} {n m:Nd} {kv mv:AV} (k:KidsR lo h n.kids kv) (k2:KidsR lo h m.kids mv) (hb:lo≤b) (hn:b<h.n) (hg:h.get b=some ⟨ver,.cells .own 9 (ndC n kv++ndC m mv)⟩):KidsR lo h [n,m] (.slice b 0 2 2 ex):=
 KidsS.own (by simp) (show 2<2^61 by decide) hb hn hg (by have:=RowsS.cons k (RowsS.cons k2 RowsS.nil);rwa[List.append_nil] at this)
theorem name_tok {E:Nat} {x:PT} (hx:PSpec 19 E x) {h:AHeap} {r lv:Nat} {ts:List Tok} {Q:QR} (hp:PInv h r E ts lv) (h1k:(hdT E ts).kind=1) (hz:nameP E x lv ts≠.error (0,0)) (hQ:PQ h r E lv Q (nameP E x lv ts)):WF F 87 [.ptr r 0] h Q:=by
 refine WF.code F87 rfl ?_
 have hlt:=hp.hi
 simp(disch:=(try simp only[hN]);omega)only[go_sem,simprocAttr]
 refine take_tok (k:=1) (E:=E) (lv:=lv) (ts:=ts) (hp.fr ⟨by (try simp only[hN]);omega,fun b hb hne=>by (try simp only[hN] at hb hne);simp(disch:=(try simp only[hN]);omega)only[go_sem,simprocAttr]⟩) (by decide) ?_
 rw[if_pos h1k]
 intro h1 hf1 hp1
 have hn1:=hf1.n;try simp only[hN] at hn1
 simp(disch:=(try simp only[hN]);omega)only[go_sem,simprocAttr,tokAV]
 have hf:∀b',b'<h.n→b'≠r→h1.get b'=h.get b':=fun b' hb' hn'=>by simp(disch:=(try simp only[hN]);omega)only[go_sem,simprocAttr,hf1.old]
 have q0:h1.get h.n=some ⟨0,.cells .own 0 [.int .i64 0,.int .i64 0,.str [],.int .i64 0,.int .i64 0,.int .i64 0,.int .i64 0,.int .u64 0,.nilSlice]⟩:=by simp(disch:=(try simp only[hN]);omega)only[go_sem,simprocAttr,hf1.old]
 generalize hts:ts.tail=ts1 at hp1
 simp only[nameP,hts] at hz hQ
 have hlt1:=hp1.hi
 generalize hdT E ts=t at *
 refine is_tok (ws:=[[91]]) (md:=.own) (ver:=0) (E:=E) (ts:=ts1) (lv:=lv) (hp1.fr ⟨by (try simp only[hN]);omega,fun b hb hne=>by (try simp only[hN] at hb hne);simp(disch:=(try simp only[hN]);omega)only[go_sem,simprocAttr]⟩) (by (first|(simp(disch:=(try simp only[hN]);omega)only[go_sem,simprocAttr,List.map];done)|(simp(disch:=(try simp only[hN]);omega)only[go_sem,simprocAttr,List.map];rfl))) (by simp only[hN];omega) (show 1<2^62 by decide) ?_
 intro h2 hf2
 have hn2:=hf2.n;try simp only[hN] at hn2
 by_cases hh:isT [[91]] ts1=true
 ·rw[if_pos hh] at hz hQ
  simp only[inP,hh,if_true] at hz hQ
  simp(disch:=(try simp only[hN]);omega)only[go_sem,simprocAttr,hh,hf2.old]
  refine open_tok (E:=E) (lv:=lv) (ts:=ts1) (hp1.fr ⟨by (try simp only[hN]);omega,fun b hb hne=>by (try simp only[hN] at hb hne);simp(disch:=(try simp only[hN]);omega)only[go_sem,simprocAttr,hf2.old]⟩) ?_
  rw[if_pos hh]
  by_cases h16:lv=16
  ·rw[if_pos h16] at hQ ⊢
   intro h3 hf3
   have hn3:=hf3.n;try simp only[hN] at hn3
   simp(disch:=(try simp only[hN]);omega)only[go_sem,simprocAttr]
   exact hQ _ ⟨by (try simp only[hN]);omega,fun b hb hne=>by (try simp only[hN] at hb hne);simp(disch:=(try simp only[hN]);omega)only[go_sem,simprocAttr,hf3.old,hf2.old,hf]⟩
  ·rw[if_neg h16] at hQ hz ⊢
   intro h3 hf3 hp3
   have hn3:=hf3.n;try simp only[hN] at hn3
   simp(disch:=(try simp only[hN]);omega)only[go_sem,simprocAttr,tokAV]
   refine hx hp3 ?_ ?_
   ·intro e;rw[e] at hz;exact hz rfl
   cases hxx:x (lv+1) ts1.tail with
   | error e=>
    obtain ⟨e,p⟩:=e
    rw[hxx] at hQ
    intro h4 hf4
    have hn4:=hf4.n;try simp only[hN] at hn4
    simp(disch:=(try simp only[hN]);omega)only[go_sem,simprocAttr]
    exact hQ _ ⟨by (try simp only[hN]);omega,fun b hb hne=>by (try simp only[hN] at hb hne);simp(disch:=(try simp only[hN]);omega)only[go_sem,simprocAttr,hf4.old,hf3.old,hf2.old,hf]⟩
   | ok y=>
    obtain ⟨k,ts2⟩:=y
    rw[hxx] at hQ hz
    intro h4 kv hf4 hp4 hk4
    have hn4:=hf4.n;try simp only[hN] at hn4
    have q4:h4.get (h1.n+1)=some ⟨2,.cells .own 0 [.int .i64 29,.int .i64 (t.pos:Int),.str t.text,.int .i64 0,.int .i64 0,.int .i64 0,.int .i64 0,.int .u64 0,.nilSlice]⟩:=by simp(disch:=(try simp only[hN]);omega)only[go_sem,simprocAttr,hf4.old,hf3.old]
    simp(disch:=(try simp only[hN]);omega)only[go_sem,simprocAttr,q4,hk4.flat.1,hk4.flat.2]
    refine close_tok (E:=E) (lv:=lv) (ts:=ts2) ((hp4.fr (h':=h4.alloc (.cells .own 9 (ndC k kv))) ⟨by (try simp only[hN]);omega,fun b hb hne=>by (try simp only[hN] at hb hne);simp(disch:=(try simp only[hN]);omega)only[go_sem,simprocAttr]⟩).fr' (q:=h1.n+1) (Fr.upd _ _ _) (by omega)) ?_
    simp only at hQ
    by_cases hb:isT [[93]] ts2=true
    ·rw[if_pos hb] at hQ ⊢
     intro h5 hf5 hp5
     have hn5:=hf5.n;try simp only[hN] at hn5
     have q5:h5.get h.n=some ⟨0,.cells .own 0 [.int .i64 0,.int .i64 0,.str [],.int .i64 0,.int .i64 0,.int .i64 0,.int .i64 0,.int .u64 0,.nilSlice]⟩:=by simp(disch:=(try simp only[hN]);omega)only[go_sem,simprocAttr,hf5.old,hf4.old,hf3.old,hf2.old,q0]
     have q6:h5.get (h1.n+1)=some ⟨3,.cells .own 0 [.int .i64 29,.int .i64 (t.pos:Int),.str t.text,.int .i64 0,.int .i64 0,.int .i64 0,.int .i64 0,.int .u64 0,.slice h4.n 0 1 1 true]⟩:=by simp(disch:=(try simp only[hN]);omega)only[go_sem,simprocAttr,hf5.old]
     simp(disch:=(try simp only[hN]);omega)only[go_sem,simprocAttr,q5,q6]
     refine hQ _ _ ⟨by (try simp only[hN]);omega,fun b hb hne=>by (try simp only[hN] at hb hne);simp(disch:=(try simp only[hN]);omega)only[go_sem,simprocAttr,hf5.old,hf4.old,hf3.old,hf2.old,hf]⟩ (hp5.fr' (q:=h.n) (Fr.upd _ _ _) hlt) ?_
     refine KidsR.one (ver:=0) (kv:=kv) (hk4.keep (by omega) (by simp only[hN];omega) fun b hb1 hb2=>by simp(disch:=(try simp only[hN]);omega)only[go_sem,simprocAttr,hf5.old]) (by omega) (by simp only[hN];omega) (by simp(disch:=(try simp only[hN]);omega)only[go_sem,simprocAttr,hf5.old])
    ·rw[if_neg hb] at hQ ⊢
     intro h5 hf5
     have hn5:=hf5.n;try simp only[hN] at hn5
     simp(disch:=(try simp only[hN]);omega)only[go_sem,simprocAttr]
     exact hQ _ ⟨by (try simp only[hN]);omega,fun b hb hne=>by (try simp only[hN] at hb hne);simp(disch:=(try simp only[hN]);omega)only[go_sem,simprocAttr,hf5.old,hf4.old,hf3.old,hf2.old,hf]⟩
 ·rw[if_neg hh] at hz hQ
  have hh':isT [[91]] ts1=false:=by simpa using hh
  simp(disch:=(try simp only[hN]);omega)only[go_sem,simprocAttr,hh',hf2.old,q0]
  refine hQ _ .nilSlice ⟨by (try simp only[hN]);omega,fun b hb hne=>by (try simp only[hN] at hb hne);simp(disch:=(try simp only[hN]);omega)only[go_sem,simprocAttr,hf2.old,hf]⟩ ((hp1.fr (h':=h2) ⟨by (try simp only[hN]);omega,fun b hb hne=>by (try simp only[hN] at hb hne);simp(disch:=(try simp only[hN]);omega)only[go_sem,simprocAttr,hf2.old]⟩).fr' (q:=h.n) (Fr.upd _ _ _) hlt) ?_
  exact .nil
structure RInv (h:AHeap) (r E:Nat) (all:List Tok) (nx e q:Nat):Prop where
 hi:r<h.n
 nxl:nx≤all.length
 small:all.length≤2000
 st:∃ver v,h.get r=some ⟨ver,.cells .own 0 [v,.int .i64 (E:Int),.int .i64 (nx:Int),.int .i64 (e:Int),.int .i64 (q:Int)]⟩∧lenA v=some (all.length:Int)∧(v.flat=true∧v.cells=[v])∧(all=[]∨∃b vb c ex,v=.slice b 0 all.length c ex∧b<r∧h.get b=some ⟨vb,.cells .own 5 (toksAV all)⟩)
theorem RInv.fr' {h h':AHeap} {q' r E nx e q:Nat} {all:List Tok} (p:RInv h r E all nx e q) (f:Fr q' h h') (hq:r<q'):RInv h' r E all nx e q:=by
 obtain ⟨ver,v,h1,h2,h3,h4⟩:=p.st
 have:=p.hi
 refine ⟨Nat.lt_of_lt_of_le p.hi f.n,p.nxl,p.small,ver,v,by rw[f.old r p.hi (by omega)];exact h1,h2,h3,h4.imp id ?_⟩
 rintro ⟨b,vb,c,ex,g1,g2,g3⟩
 exact ⟨b,vb,c,ex,g1,g2,by rw[f.old b (by omega) (by omega)];exact g3⟩
theorem RInv.fr {h h':AHeap} {r E nx e q:Nat} {all:List Tok} (p:RInv h r E all nx e q) (f:Fr h.n h h'):RInv h' r E all nx e q:=p.fr' f p.hi
theorem RInv.step {h h':AHeap} {r E nx e q nx' e' q' ver ver':Nat} {v:AV} {all:List Tok} (p:RInv h r E all nx e q) (f:Fr r h h') (hn:nx'≤all.length) (h0:h.get r=some ⟨ver,.cells .own 0 [v,.int .i64 (E:Int),.int .i64 (nx:Int),.int .i64 (e:Int),.int .i64 (q:Int)]⟩) (h1:h'.get r=some ⟨ver',.cells .own 0 [v,.int .i64 (E:Int),.int .i64 (nx':Int),.int .i64 (e':Int),.int .i64 (q':Int)]⟩):RInv h' r E all nx' e' q':=by
 obtain ⟨ver2,v2,g1,g2,g3,g4⟩:=p.st
 rw[h0] at g1
 cases g1
 have:=p.hi
 refine ⟨Nat.lt_of_lt_of_le p.hi f.n,hn,p.small,ver',v,h1,g2,g3,g4.imp id ?_⟩
 rintro ⟨b,vb,c,ex,g1,g2,g3⟩
 exact ⟨b,vb,c,ex,g1,g2,by rw[f.old b (by omega) (by omega)];exact g3⟩
theorem RInv.tok {h:AHeap} {r E nx e q:Nat} {all:List Tok} (p:RInv h r E all nx e q) (hn:nx<all.length):∃ver b vb c ex t ts,h.get r=some ⟨ver,.cells .own 0 [.slice b 0 all.length c ex,.int .i64 (E:Int),.int .i64 (nx:Int),.int .i64 (e:Int),.int .i64 (q:Int)]⟩∧b<r∧h.get b=some ⟨vb,.cells .own 5 (toksAV all)⟩∧all.drop nx=t::ts∧row (toksAV all) (nx*5) 5=some (tokAV t).cells:=by
 obtain ⟨ver,v,h1,h2,h3,h4|⟨b,vb,c,ex,rfl,g2,g3⟩⟩:=p.st
 ·rw[h4] at hn;simp at hn
 ·refine ⟨ver,b,vb,c,ex,all[nx],all.drop (nx+1),h1,g2,g3,List.drop_eq_getElem_cons hn,?_⟩
  exact flat_row (f:=fun t=>(tokAV t).cells) (fun _=>rfl) (List.getElem?_eq_getElem hn)
theorem row5 {vs:List AV} {o:Nat} {t:Tok} (h:row vs o 5=some (tokAV t).cells):vs[o]?=some (.int .i64 (t.kind:Int))∧vs[o+1]?=some (.str t.text)∧vs[o+4]?=some (.int .i64 (t.pos:Int)):=by
 have g:∀i x,(tokAV t).cells[i]?=some x→vs[o+i]?=some x:=by
  intro i x hx
  obtain ⟨h1,h2⟩:=row_inv h
  rw[h2,List.getElem?_take] at hx
  split at hx
  ·rw[List.getElem?_drop] at hx;exact hx
  ·cases hx
 exact ⟨g 0 _ rfl,g 1 _ rfl,g 4 _ rfl⟩
theorem place_tok {h:AHeap} {r E nx e q:Nat} {all:List Tok} (hp:RInv h r E all nx e q) {Q:QR} (hQ:Q (.ret (.int .i64 ((hdT E (all.drop nx)).pos:Int))) h):WF F 35 [.ptr r 0] h Q:=by
 refine WF.code F35 rfl ?_
 by_cases hn:nx<all.length
 ·obtain ⟨ver,b,vb,c,ex,t,ts,h1,hb,h2,hd,hr⟩:=hp.tok hn
  obtain ⟨r0,r1,r4⟩:=row5 hr
  rw[hd] at hQ
  have g1:decide ((nx:Int)<(all.length:Int))=true:=decide_eq_true (by omega)
  simp(disch:=(try simp only[hN]);omega)only[go_sem,simprocAttr,h1,g1,h2,Int.toNat_natCast,Nat.zero_add,r4]
  exact hQ
 ·obtain ⟨ver,v,h1,h2,h3,h4⟩:=hp.st
  have hd:all.drop nx=[]:=List.drop_of_length_le (by omega)
  rw[hd] at hQ
  have g1:decide ((nx:Int)<(all.length:Int))=false:=decide_eq_false (by omega)
  simp(disch:=(try simp only[hN]);omega)only[go_sem,simprocAttr,h1,h2,g1]
  exact hQ
def seesT (e:Nat) (ts:List Tok):Bs:=if e=0 then match ts with|[]=>[]|t::_=>(if t.kind=2∨t.kind=5 then t.text else []) else []
theorem seesT_is {w:Bs} (hw:w≠[]) {ts:List Tok}:(seesT 0 ts==w)=isT [w] ts:=by
 cases ts with
 | nil=>simp [seesT,isT];exact fun h=>hw h
 | cons t ts=>
  simp only[seesT,isT,if_true]
  by_cases hk:t.kind=2∨t.kind=5
  ·rw[if_pos hk]
   have:(decide (t.kind=2)||decide (t.kind=5))=true:=by simpa using hk
   rw[this,Bool.true_and,List.contains_cons]
   simp
  ·rw[if_neg hk]
   have:(decide (t.kind=2)||decide (t.kind=5))=false:=by simpa using hk
   rw[this,Bool.false_and]
   simp
   exact fun h=>hw h
theorem sees_tok {h:AHeap} {r E nx e q:Nat} {all:List Tok} (hp:RInv h r E all nx e q) {Q:QR} (hQ:∀h',Fr h.n h h'→Q (.ret (.str (seesT e (all.drop nx)))) h'):WF F 34 [.ptr r 0] h Q:=by
 refine WF.code F34 rfl ?_
 have hlt:=hp.hi
 by_cases he:e=0
 ·subst he
  have e0:((0:Int) != 0)=false:=rfl
  by_cases hn:nx<all.length
  ·obtain ⟨ver,b,vb,c,ex,t,ts,h1,hb,h2,hd,hr⟩:=hp.tok hn
   have g1:decide ((nx:Int)≥(all.length:Int))=false:=decide_eq_false (by omega)
   have g2:decide ((nx:Int)<(all.length:Int))=true:=decide_eq_true (by omega)
   rw[hd] at hQ
   have d1:decide (r=h.n)=false:=decide_eq_false (by omega)
   have d2:decide (b=h.n)=false:=decide_eq_false (by omega)
   simp(disch:=(try simp only[hN]);omega)only[go_sem,simprocAttr,h1,g1,g2,h2,Int.toNat_natCast,Nat.zero_add,hr,e0,tokAV,Int.natCast_zero,d1,d2]
   by_cases k2:t.kind=2
   ·have e2:((t.kind:Int)==2)=true:=by simp [k2]
    simp(disch:=(try simp only[hN]);omega)only[go_sem,simprocAttr,e2]
    have:seesT 0 (t::ts)=t.text:=by simp [seesT,k2]
    rw[this] at hQ
    exact hQ _ ⟨by (try simp only[hN]);omega,fun b hb hne=>by (try simp only[hN] at hb hne);simp(disch:=(try simp only[hN]);omega)only[go_sem,simprocAttr]⟩
   ·have e2:((t.kind:Int)==2)=false:=by simp;omega
    by_cases k5:t.kind=5
    ·have e5:((t.kind:Int)==5)=true:=by simp [k5]
     simp(disch:=(try simp only[hN]);omega)only[go_sem,simprocAttr,e2,e5]
     have:seesT 0 (t::ts)=t.text:=by simp [seesT,k5]
     rw[this] at hQ
     exact hQ _ ⟨by (try simp only[hN]);omega,fun b hb hne=>by (try simp only[hN] at hb hne);simp(disch:=(try simp only[hN]);omega)only[go_sem,simprocAttr]⟩
    ·have e5:((t.kind:Int)==5)=false:=by simp;omega
     simp(disch:=(try simp only[hN]);omega)only[go_sem,simprocAttr,e2,e5]
     have:seesT 0 (t::ts)=[]:=by simp [seesT,k2,k5]
     rw[this] at hQ
     exact hQ _ ⟨by (try simp only[hN]);omega,fun b hb hne=>by (try simp only[hN] at hb hne);simp(disch:=(try simp only[hN]);omega)only[go_sem,simprocAttr]⟩
  ·obtain ⟨ver,v,h1,h2,h3,h4⟩:=hp.st
   have hd:all.drop nx=[]:=List.drop_of_length_le (by omega)
   rw[hd] at hQ
   have g1:decide ((nx:Int)≥(all.length:Int))=true:=decide_eq_true (by omega)
   simp(disch:=(try simp only[hN]);omega)only[go_sem,simprocAttr,h1,h2,g1,e0,Int.natCast_zero]
   exact hQ _ (Fr.refl _ _)
 ·obtain ⟨ver,v,h1,h2,h3,h4⟩:=hp.st
  have e0:((e:Int) != 0)=true:=by simp;omega
  have:seesT e (all.drop nx)=[]:=by simp [seesT,he]
  rw[this] at hQ
  simp(disch:=(try simp only[hN]);omega)only[go_sem,simprocAttr,h1,h2,e0]
  exact hQ _ (Fr.refl _ _)
def kindT (e E:Nat) (ts:List Tok):Nat:=if e=0 then (hdT E ts).kind else 0
theorem kind_tok {h:AHeap} {r E nx e q:Nat} {all:List Tok} (hp:RInv h r E all nx e q) {Q:QR} (hQ:Q (.ret (.int .i64 (kindT e E (all.drop nx):Int))) h):WF F 56 [.ptr r 0] h Q:=by
 refine WF.code F56 rfl ?_
 have hlt:=hp.hi
 by_cases he:e=0
 ·subst he
  have e0:((0:Int) != 0)=false:=rfl
  by_cases hn:nx<all.length
  ·obtain ⟨ver,b,vb,c,ex,t,ts,h1,hb,h2,hd,hr⟩:=hp.tok hn
   obtain ⟨r0,r1,r4⟩:=row5 hr
   have g1:decide ((nx:Int)≥(all.length:Int))=false:=decide_eq_false (by omega)
   have g2:decide ((nx:Int)<(all.length:Int))=true:=decide_eq_true (by omega)
   rw[hd] at hQ
   simp(disch:=(try simp only[hN]);omega)only[go_sem,simprocAttr,h1,g1,g2,h2,Int.toNat_natCast,Nat.zero_add,Nat.add_zero,r0,e0,Int.natCast_zero]
   exact hQ
  ·obtain ⟨ver,v,h1,h2,h3,h4⟩:=hp.st
   have hd:all.drop nx=[]:=List.drop_of_length_le (by omega)
   rw[hd] at hQ
   have g1:decide ((nx:Int)≥(all.length:Int))=true:=decide_eq_true (by omega)
   simp(disch:=(try simp only[hN]);omega)only[go_sem,simprocAttr,h1,h2,g1,e0,Int.natCast_zero]
   exact hQ
 ·obtain ⟨ver,v,h1,h2,h3,h4⟩:=hp.st
  have e0:((e:Int) != 0)=true:=by simp;omega
  simp only[kindT,if_neg he] at hQ
  simp(disch:=(try simp only[hN]);omega)only[go_sem,simprocAttr,h1,h2,e0]
  exact hQ
theorem fail_tok {h:AHeap} {r E nx e q k:Nat} {all:List Tok} (hp:RInv h r E all nx e q) {Q:QR} (hQ:∀h',Fr r h h'→RInv h' r E all nx (if e=0 then k else e) (if e=0 then (hdT E (all.drop nx)).pos else q)→Q (.ret (.tuple [])) h'):WF F 17 [.ptr r 0,.int .i64 (k:Int)] h Q:=by
 refine WF.code F17 rfl ?_
 have hlt:=hp.hi
 obtain ⟨ver,v,h1,h2,h3,h4⟩:=hp.st
 by_cases he:e=0
 ·subst he
  rw[if_pos rfl,if_pos rfl] at hQ
  have e0:((0:Int)==0)=true:=rfl
  simp(disch:=(try simp only[hN]);omega)only[go_sem,simprocAttr,h1,Int.natCast_zero,e0]
  refine place_tok hp ?_
  simp(disch:=(try simp only[hN]);omega)only[go_sem,simprocAttr,h1,h3.1,h3.2]
  refine hQ _ ⟨by (try simp only[hN]);omega,fun b hb hne=>by (try simp only[hN] at hb hne);simp(disch:=(try simp only[hN]);omega)only[go_sem,simprocAttr]⟩ (hp.step ⟨by (try simp only[hN]);omega,fun b hb hne=>by (try simp only[hN] at hb hne);simp(disch:=(try simp only[hN]);omega)only[go_sem,simprocAttr]⟩ hp.nxl h1 (ver':=ver+2) (by simp(disch:=(try simp only[hN]);omega)only[go_sem,simprocAttr,h3.1,h3.2]))
 ·rw[if_neg he,if_neg he] at hQ
  have e0:((e:Int)==0)=false:=by simp;omega
  simp(disch:=(try simp only[hN]);omega)only[go_sem,simprocAttr,h1,e0]
  exact hQ _ (Fr.refl _ _) hp
def EatQ (h:AHeap) (r E:Nat) (all:List Tok) (nx e q:Nat) (w:Bs) (P:AHeap→Prop):Prop:=
 if e=0 then
  if isT [w] (all.drop nx)=true then ∀h',Fr r h h'→RInv h' r E all (nx+1) 0 q→P h'
  else ∀h',Fr r h h'→RInv h' r E all nx 2 (hdT E (all.drop nx)).pos→P h'
 else ∀h',Fr r h h'→RInv h' r E all nx e q→P h'
theorem drop_ne {α:Type} {l:List α} {n:Nat} (h:l.drop n≠[]):n<l.length:=by
 rcases Nat.lt_or_ge n l.length with g|g
 ·exact g
 ·exact absurd (List.drop_of_length_le g) h
theorem eat_tok {h:AHeap} {r E nx e q:Nat} {all:List Tok} {w:Bs} (hw:w≠[]) (hp:RInv h r E all nx e q) {Q:QR} (hQ:EatQ h r E all nx e q w (Q (.ret (.tuple [])))):WF F 55 [.ptr r 0,.str w] h Q:=by
 refine WF.code F55 rfl ?_
 have hlt:=hp.hi
 simp(disch:=(try simp only[hN]);omega)only[go_sem,simprocAttr]
 refine sees_tok hp ?_
 intro h1 hf1
 have hn1:=hf1.n;try simp only[hN] at hn1
 have hp1:=hp.fr hf1
 unfold EatQ at hQ
 by_cases he:e=0
 ·subst he
  rw[if_pos rfl] at hQ
  have hs:=seesT_is hw (ts:=all.drop nx)
  generalize seesT 0 (all.drop nx)=S at hs
  by_cases hi:isT [w] (all.drop nx)=true
  ·rw[if_pos hi] at hQ
   rw[hi] at hs
   have hn:=drop_ne (isT_ne hi)
   obtain ⟨ver,v,g1,g2,g3,g4⟩:=hp1.st
   have hsm:=hp.small
   simp(disch:=(try simp only[hN]);omega)only[go_sem,simprocAttr,hs,g1,g3.1,g3.2]
   refine hQ _ ⟨by (try simp only[hN]);omega,fun b hb hne=>by (try simp only[hN] at hb hne);simp(disch:=(try simp only[hN]);omega)only[go_sem,simprocAttr,hf1.old]⟩ (hp1.step (ver':=ver+1) ⟨by (try simp only[hN]);omega,fun b hb hne=>by (try simp only[hN] at hb hne);simp(disch:=(try simp only[hN]);omega)only[go_sem,simprocAttr]⟩ hn g1 (by (first|(simp(disch:=(try simp only[hN]);omega)only[go_sem,simprocAttr,g3.1,g3.2];done)|(simp(disch:=(try simp only[hN]);omega)only[go_sem,simprocAttr,g3.1,g3.2];rfl))))
  ·rw[if_neg hi] at hQ
   have hi':isT [w] (all.drop nx)=false:=by simpa using hi
   rw[hi'] at hs
   simp(disch:=(try simp only[hN]);omega)only[go_sem,simprocAttr,hs]
   refine fail_tok hp1 ?_
   intro h2 hf2 hp2
   have hn2:=hf2.n;try simp only[hN] at hn2
   simp(disch:=(try simp only[hN]);omega)only[go_sem,simprocAttr]
   exact hQ _ ⟨by (try simp only[hN]);omega,fun b hb hne=>by (try simp only[hN] at hb hne);simp(disch:=(try simp only[hN]);omega)only[go_sem,simprocAttr,hf2.old,hf1.old]⟩ hp2
 ·rw[if_neg he] at hQ
  have hs:seesT e (all.drop nx)=[]:=by simp [seesT,he]
  rw[hs]
  have h0:(([]:Bs)==w)=false:=by cases w with|nil=>exact absurd rfl hw|cons c w=>rfl
  simp(disch:=(try simp only[hN]);omega)only[go_sem,simprocAttr,h0]
  refine fail_tok hp1 ?_
  rw[if_neg he,if_neg he]
  intro h2 hf2 hp2
  have hn2:=hf2.n;try simp only[hN] at hn2
  simp(disch:=(try simp only[hN]);omega)only[go_sem,simprocAttr]
  exact hQ _ ⟨by (try simp only[hN]);omega,fun b hb hne=>by (try simp only[hN] at hb hne);simp(disch:=(try simp only[hN]);omega)only[go_sem,simprocAttr,hf2.old,hf1.old]⟩ hp2
def TokQ' (h:AHeap) (r E:Nat) (all:List Tok) (nx e q k:Nat) (P:AV→AHeap→Prop):Prop:=
 if e=0 then
  if (hdT E (all.drop nx)).kind=k then ∀h',Fr r h h'→RInv h' r E all (nx+1) 0 q→P (tokAV (hdT E (all.drop nx))) h'
  else ∀h',Fr r h h'→RInv h' r E all nx 2 (hdT E (all.drop nx)).pos→P (.agg zT) h'
 else ∀h',Fr r h h'→RInv h' r E all nx e q→P (.agg zT) h'
theorem token_tok {h:AHeap} {r E nx e q k:Nat} {all:List Tok} (hk:k≠0) (hp:RInv h r E all nx e q) {Q:QR} (hQ:TokQ' h r E all nx e q k (fun v=>Q (.ret v))):WF F 57 [.ptr r 0,.int .i64 (k:Int)] h Q:=by
 refine WF.code F57 rfl ?_
 have hlt:=hp.hi
 simp(disch:=(try simp only[hN]);omega)only[go_sem,simprocAttr]
 have hp1:RInv (h.alloc (.cells .own 0 zT)) r E all nx e q:=hp.fr ⟨by (try simp only[hN]);omega,fun b hb hne=>by (try simp only[hN] at hb hne);simp(disch:=(try simp only[hN]);omega)only[go_sem,simprocAttr]⟩
 refine kind_tok hp1 ?_
 unfold TokQ' at hQ
 by_cases he:e=0
 ·subst he
  rw[if_pos rfl] at hQ
  simp only[kindT,if_true]
  by_cases hi:(hdT E (all.drop nx)).kind=k
  ·rw[if_pos hi] at hQ
   have hn:nx<all.length:=drop_ne (hdT_ne (E:=E) (by omega))
   obtain ⟨ver,b,vb,c,ex,t,ts,h1,hb,h2,hd,hr⟩:=hp.tok hn
   have g1:decide ((nx:Int)<(all.length:Int))=true:=decide_eq_true (by omega)
   have g2:((nx:Int)+1-1)=(nx:Int):=by omega
   have hsm:=hp.small
   have hi2:(((hdT E (all.drop nx)).kind:Int) != (k:Int))=false:=by simp;omega
   have d1:decide (r=h.n)=false:=decide_eq_false (by omega)
   have d2:decide (b=h.n)=false:=decide_eq_false (by omega)
   have d3:decide (b=r)=false:=decide_eq_false (by omega)
   rw[hd] at hQ hi2 ⊢
   simp(disch:=(try simp only[hN]);omega)only[go_sem,simprocAttr,hi2,h1,h2,g1,g2,hr,Int.toNat_natCast,Nat.zero_add,tokAV,d1,d2,d3]
   refine hQ _ ⟨by (try simp only[hN]);omega,fun b hb hne=>by (try simp only[hN] at hb hne);simp(disch:=(try simp only[hN]);omega)only[go_sem,simprocAttr]⟩ (hp.step (ver':=ver+1) ⟨by (try simp only[hN]);omega,fun b hb hne=>by (try simp only[hN] at hb hne);simp(disch:=(try simp only[hN]);omega)only[go_sem,simprocAttr]⟩ hn h1 (by (first|(simp(disch:=(try simp only[hN]);omega)only[go_sem,simprocAttr];done)|(simp(disch:=(try simp only[hN]);omega)only[go_sem,simprocAttr];rfl))))
  ·rw[if_neg hi] at hQ
   have hi2:(((hdT E (all.drop nx)).kind:Int) != (k:Int))=true:=by simp;omega
   simp(disch:=(try simp only[hN]);omega)only[go_sem,simprocAttr,hi2]
   refine fail_tok hp1 ?_
   intro h2 hf2 hp2
   have hn2:=hf2.n;try simp only[hN] at hn2
   simp(disch:=(try simp only[hN]);omega)only[go_sem,simprocAttr,hf2.old]
   exact hQ _ ⟨by (try simp only[hN]);omega,fun b hb hne=>by (try simp only[hN] at hb hne);simp(disch:=(try simp only[hN]);omega)only[go_sem,simprocAttr,hf2.old]⟩ (hp2.fr' (q':=h.n) (Fr.upd _ _ _) hlt)
 ·rw[if_neg he] at hQ
  have hi2:((kindT e E (all.drop nx):Int) != (k:Int))=true:=by simp [kindT,he];omega
  simp(disch:=(try simp only[hN]);omega)only[go_sem,simprocAttr,hi2]
  refine fail_tok hp1 ?_
  rw[if_neg he,if_neg he]
  intro h2 hf2 hp2
  have hn2:=hf2.n;try simp only[hN] at hn2
  simp(disch:=(try simp only[hN]);omega)only[go_sem,simprocAttr,hf2.old]
  exact hQ _ ⟨by (try simp only[hN]);omega,fun b hb hne=>by (try simp only[hN] at hb hne);simp(disch:=(try simp only[hN]);omega)only[go_sem,simprocAttr,hf2.old]⟩ (hp2.fr' (q':=h.n) (Fr.upd _ _ _) hlt)
def LevQ (h:AHeap) (r E:Nat) (all:List Tok) (nx e q lv:Nat) (w:Bs) (P:AHeap→Prop):Prop:=
 if e=0 then
  if isT [w] (all.drop nx)=true then
   if lv=16 then ∀h',Fr r h h'→RInv h' r E all nx 3 (hdT E (all.drop nx)).pos→P h'
   else ∀h',Fr r h h'→RInv h' r E all (nx+1) 0 q→P h'
  else ∀h',Fr r h h'→RInv h' r E all nx 2 (hdT E (all.drop nx)).pos→P h'
 else ∀h',Fr r h h'→RInv h' r E all nx e q→P h'
theorem level_tok {h:AHeap} {r E nx e q lv:Nat} {all:List Tok} {w:Bs} (hw:w≠[]) (hlv:lv≤16) (hp:RInv h r E all nx e q) {Q:QR} (hQ:LevQ h r E all nx e q lv w (Q (.ret (.tuple [])))):WF F 54 [.ptr r 0,.str w,.int .i64 (lv:Int)] h Q:=by
 refine WF.code F54 rfl ?_
 have hlt:=hp.hi
 simp(disch:=(try simp only[hN]);omega)only[go_sem,simprocAttr]
 refine sees_tok hp ?_
 intro h1 hf1
 have hn1:=hf1.n;try simp only[hN] at hn1
 have hp1:=hp.fr hf1
 unfold LevQ at hQ
 by_cases he:e=0
 ·subst he
  rw[if_pos rfl] at hQ
  have hs:=seesT_is hw (ts:=all.drop nx)
  generalize seesT 0 (all.drop nx)=S at hs
  by_cases hi:isT [w] (all.drop nx)=true
  ·rw[if_pos hi] at hQ
   rw[hi] at hs
   by_cases h16:lv=16
   ·subst h16
    rw[if_pos rfl] at hQ
    have g1:decide (((16:Nat):Int)≥16)=true:=rfl
    simp(disch:=(try simp only[hN]);omega)only[go_sem,simprocAttr,hs,g1]
    refine fail_tok (k:=3) hp1 ?_
    intro h2 hf2 hp2
    have hn2:=hf2.n;try simp only[hN] at hn2
    simp(disch:=(try simp only[hN]);omega)only[go_sem,simprocAttr]
    exact hQ _ ⟨by (try simp only[hN]);omega,fun b hb hne=>by (try simp only[hN] at hb hne);simp(disch:=(try simp only[hN]);omega)only[go_sem,simprocAttr,hf2.old,hf1.old]⟩ hp2
   ·rw[if_neg h16] at hQ
    have g1:decide ((lv:Int)≥16)=false:=decide_eq_false (by omega)
    simp(disch:=(try simp only[hN]);omega)only[go_sem,simprocAttr,hs,g1]
    refine eat_tok hw hp1 ?_
    unfold EatQ
    rw[if_pos rfl,if_pos hi]
    intro h2 hf2 hp2
    have hn2:=hf2.n;try simp only[hN] at hn2
    simp(disch:=(try simp only[hN]);omega)only[go_sem,simprocAttr]
    exact hQ _ ⟨by (try simp only[hN]);omega,fun b hb hne=>by (try simp only[hN] at hb hne);simp(disch:=(try simp only[hN]);omega)only[go_sem,simprocAttr,hf2.old,hf1.old]⟩ hp2
  ·rw[if_neg hi] at hQ
   have hi':isT [w] (all.drop nx)=false:=by simpa using hi
   rw[hi'] at hs
   simp(disch:=(try simp only[hN]);omega)only[go_sem,simprocAttr,hs]
   refine eat_tok hw hp1 ?_
   unfold EatQ
   rw[if_pos rfl,if_neg hi]
   intro h2 hf2 hp2
   have hn2:=hf2.n;try simp only[hN] at hn2
   simp(disch:=(try simp only[hN]);omega)only[go_sem,simprocAttr]
   exact hQ _ ⟨by (try simp only[hN]);omega,fun b hb hne=>by (try simp only[hN] at hb hne);simp(disch:=(try simp only[hN]);omega)only[go_sem,simprocAttr,hf2.old,hf1.old]⟩ hp2
 ·rw[if_neg he] at hQ
  have hs:seesT e (all.drop nx)=[]:=by simp [seesT,he]
  rw[hs]
  have h0:(([]:Bs)==w)=false:=by cases w with|nil=>exact absurd rfl hw|cons c w=>rfl
  simp(disch:=(try simp only[hN]);omega)only[go_sem,simprocAttr,h0]
  refine eat_tok hw hp1 ?_
  unfold EatQ
  rw[if_neg he]
  intro h2 hf2 hp2
  have hn2:=hf2.n;try simp only[hN] at hn2
  simp(disch:=(try simp only[hN]);omega)only[go_sem,simprocAttr]
  exact hQ _ ⟨by (try simp only[hN]);omega,fun b hb hne=>by (try simp only[hN] at hb hne);simp(disch:=(try simp only[hN]);omega)only[go_sem,simprocAttr,hf2.old,hf1.old]⟩ hp2
def rankT (s:Bs):Nat:=
 if s=[124,124] then 1 else if s=[38,38] then 2 else if s=[61,61]∨s=[33,61]∨s=[60]∨s=[60,61]∨s=[62]∨s=[62,61] then 3
 else if s=[43]∨s=[45] then 4 else if s=[42]∨s=[47]∨s=[37] then 5 else 0
theorem rank_tok {s:Bs} {h:AHeap} {Q:QR} (hQ:Q (.ret (.int .i64 (rankT s:Int))) h):WF F 33 [.str s] h Q:=by
 refine WF.code F33 rfl ?_
 simp(disch:=(try simp only[hN]);omega)only[go_sem,simprocAttr]
 (first|refine kA (fun k0=>?_) (fun k0=>?_)|refine kB (fun k0=>?_) (fun k0=>?_)|refine kC (fun k0=>?_) (fun k0=>?_)|refine kD (fun k0=>?_) (fun k0=>?_)|refine kE (fun k0=>?_) (fun k0=>?_)|refine kF (fun k0=>?_) (fun k0=>?_))
 ·have:s=[124,124]:=by simpa using k0
  subst this
  simp(disch:=(try simp only[hN]);omega)only[go_sem,simprocAttr]
  exact hQ
 simp(disch:=(try simp only[hN]);omega)only[go_sem,simprocAttr]
 (first|refine kA (fun k1=>?_) (fun k1=>?_)|refine kB (fun k1=>?_) (fun k1=>?_)|refine kC (fun k1=>?_) (fun k1=>?_)|refine kD (fun k1=>?_) (fun k1=>?_)|refine kE (fun k1=>?_) (fun k1=>?_)|refine kF (fun k1=>?_) (fun k1=>?_))
 ·have:s=[38,38]:=by simpa using k1
  subst this
  simp(disch:=(try simp only[hN]);omega)only[go_sem,simprocAttr]
  exact hQ
 simp(disch:=(try simp only[hN]);omega)only[go_sem,simprocAttr]
 (first|refine kA (fun k2=>?_) (fun k2=>?_)|refine kB (fun k2=>?_) (fun k2=>?_)|refine kC (fun k2=>?_) (fun k2=>?_)|refine kD (fun k2=>?_) (fun k2=>?_)|refine kE (fun k2=>?_) (fun k2=>?_)|refine kF (fun k2=>?_) (fun k2=>?_))
 ·have:s=[61,61]:=by simpa using k2
  subst this
  simp(disch:=(try simp only[hN]);omega)only[go_sem,simprocAttr]
  exact hQ
 simp(disch:=(try simp only[hN]);omega)only[go_sem,simprocAttr]
 (first|refine kA (fun k3=>?_) (fun k3=>?_)|refine kB (fun k3=>?_) (fun k3=>?_)|refine kC (fun k3=>?_) (fun k3=>?_)|refine kD (fun k3=>?_) (fun k3=>?_)|refine kE (fun k3=>?_) (fun k3=>?_)|refine kF (fun k3=>?_) (fun k3=>?_))
 ·have:s=[33,61]:=by simpa using k3
  subst this
  simp(disch:=(try simp only[hN]);omega)only[go_sem,simprocAttr]
  exact hQ
 simp(disch:=(try simp only[hN]);omega)only[go_sem,simprocAttr]
 (first|refine kA (fun k4=>?_) (fun k4=>?_)|refine kB (fun k4=>?_) (fun k4=>?_)|refine kC (fun k4=>?_) (fun k4=>?_)|refine kD (fun k4=>?_) (fun k4=>?_)|refine kE (fun k4=>?_) (fun k4=>?_)|refine kF (fun k4=>?_) (fun k4=>?_))
 ·have:s=[60]:=by simpa using k4
  subst this
  simp(disch:=(try simp only[hN]);omega)only[go_sem,simprocAttr]
  exact hQ
 simp(disch:=(try simp only[hN]);omega)only[go_sem,simprocAttr]
 (first|refine kA (fun k5=>?_) (fun k5=>?_)|refine kB (fun k5=>?_) (fun k5=>?_)|refine kC (fun k5=>?_) (fun k5=>?_)|refine kD (fun k5=>?_) (fun k5=>?_)|refine kE (fun k5=>?_) (fun k5=>?_)|refine kF (fun k5=>?_) (fun k5=>?_))
 ·have:s=[60,61]:=by simpa using k5
  subst this
  simp(disch:=(try simp only[hN]);omega)only[go_sem,simprocAttr]
  exact hQ
 simp(disch:=(try simp only[hN]);omega)only[go_sem,simprocAttr]
 (first|refine kA (fun k6=>?_) (fun k6=>?_)|refine kB (fun k6=>?_) (fun k6=>?_)|refine kC (fun k6=>?_) (fun k6=>?_)|refine kD (fun k6=>?_) (fun k6=>?_)|refine kE (fun k6=>?_) (fun k6=>?_)|refine kF (fun k6=>?_) (fun k6=>?_))
 ·have:s=[62]:=by simpa using k6
  subst this
  simp(disch:=(try simp only[hN]);omega)only[go_sem,simprocAttr]
  exact hQ
 simp(disch:=(try simp only[hN]);omega)only[go_sem,simprocAttr]
 (first|refine kA (fun k7=>?_) (fun k7=>?_)|refine kB (fun k7=>?_) (fun k7=>?_)|refine kC (fun k7=>?_) (fun k7=>?_)|refine kD (fun k7=>?_) (fun k7=>?_)|refine kE (fun k7=>?_) (fun k7=>?_)|refine kF (fun k7=>?_) (fun k7=>?_))
 ·have:s=[62,61]:=by simpa using k7
  subst this
  simp(disch:=(try simp only[hN]);omega)only[go_sem,simprocAttr]
  exact hQ
 simp(disch:=(try simp only[hN]);omega)only[go_sem,simprocAttr]
 (first|refine kA (fun k8=>?_) (fun k8=>?_)|refine kB (fun k8=>?_) (fun k8=>?_)|refine kC (fun k8=>?_) (fun k8=>?_)|refine kD (fun k8=>?_) (fun k8=>?_)|refine kE (fun k8=>?_) (fun k8=>?_)|refine kF (fun k8=>?_) (fun k8=>?_))
 ·have:s=[43]:=by simpa using k8
  subst this
  simp(disch:=(try simp only[hN]);omega)only[go_sem,simprocAttr]
  exact hQ
 simp(disch:=(try simp only[hN]);omega)only[go_sem,simprocAttr]
 (first|refine kA (fun k9=>?_) (fun k9=>?_)|refine kB (fun k9=>?_) (fun k9=>?_)|refine kC (fun k9=>?_) (fun k9=>?_)|refine kD (fun k9=>?_) (fun k9=>?_)|refine kE (fun k9=>?_) (fun k9=>?_)|refine kF (fun k9=>?_) (fun k9=>?_))
 ·have:s=[45]:=by simpa using k9
  subst this
  simp(disch:=(try simp only[hN]);omega)only[go_sem,simprocAttr]
  exact hQ
 simp(disch:=(try simp only[hN]);omega)only[go_sem,simprocAttr]
 (first|refine kA (fun k10=>?_) (fun k10=>?_)|refine kB (fun k10=>?_) (fun k10=>?_)|refine kC (fun k10=>?_) (fun k10=>?_)|refine kD (fun k10=>?_) (fun k10=>?_)|refine kE (fun k10=>?_) (fun k10=>?_)|refine kF (fun k10=>?_) (fun k10=>?_))
 ·have:s=[42]:=by simpa using k10
  subst this
  simp(disch:=(try simp only[hN]);omega)only[go_sem,simprocAttr]
  exact hQ
 simp(disch:=(try simp only[hN]);omega)only[go_sem,simprocAttr]
 (first|refine kA (fun k11=>?_) (fun k11=>?_)|refine kB (fun k11=>?_) (fun k11=>?_)|refine kC (fun k11=>?_) (fun k11=>?_)|refine kD (fun k11=>?_) (fun k11=>?_)|refine kE (fun k11=>?_) (fun k11=>?_)|refine kF (fun k11=>?_) (fun k11=>?_))
 ·have:s=[47]:=by simpa using k11
  subst this
  simp(disch:=(try simp only[hN]);omega)only[go_sem,simprocAttr]
  exact hQ
 simp(disch:=(try simp only[hN]);omega)only[go_sem,simprocAttr]
 (first|refine kA (fun k12=>?_) (fun k12=>?_)|refine kB (fun k12=>?_) (fun k12=>?_)|refine kC (fun k12=>?_) (fun k12=>?_)|refine kD (fun k12=>?_) (fun k12=>?_)|refine kE (fun k12=>?_) (fun k12=>?_)|refine kF (fun k12=>?_) (fun k12=>?_))
 ·have:s=[37]:=by simpa using k12
  subst this
  simp(disch:=(try simp only[hN]);omega)only[go_sem,simprocAttr]
  exact hQ
 simp(disch:=(try simp only[hN]);omega)only[go_sem,simprocAttr]
 have:rankT s=0:=by simp at *;simp [rankT, *]
 rw[this] at hQ
 exact hQ
def opsR (k:Nat):List Bs:=if k=1 then [[124,124]] else if k=2 then [[38,38]] else if k=3 then [[61,61],[33,61],[60],[60,61],[62],[62,61]] else if k=4 then [[43],[45]] else [[42],[47],[37]]
theorem rank_is {k:Nat} (h1:1≤k) (h5:k≤5) {ts:List Tok}:(rankT (seesT 0 ts)=k)↔isT (opsR k) ts=true:=by
 have hr:∀s:Bs,rankT s=k↔(opsR k).contains s=true:=by
  intro s
  have hk:k=1∨k=2∨k=3∨k=4∨k=5:=by omega
  unfold rankT
  by_cases c1:s=[124,124]
  ·subst c1;rcases hk with rfl|rfl|rfl|rfl|rfl<;>decide
  by_cases c2:s=[38,38]
  ·subst c2;rcases hk with rfl|rfl|rfl|rfl|rfl<;>decide
  rw[if_neg c1,if_neg c2]
  by_cases c3:s=[61,61]∨s=[33,61]∨s=[60]∨s=[60,61]∨s=[62]∨s=[62,61]
  ·rw[if_pos c3]
   rcases c3 with rfl|rfl|rfl|rfl|rfl|rfl<;>(rcases hk with rfl|rfl|rfl|rfl|rfl<;>decide)
  rw[if_neg c3]
  by_cases c4:s=[43]∨s=[45]
  ·rw[if_pos c4]
   rcases c4 with rfl|rfl<;>(rcases hk with rfl|rfl|rfl|rfl|rfl<;>decide)
  rw[if_neg c4]
  by_cases c5:s=[42]∨s=[47]∨s=[37]
  ·rw[if_pos c5]
   rcases c5 with rfl|rfl|rfl<;>(rcases hk with rfl|rfl|rfl|rfl|rfl<;>decide)
  rw[if_neg c5]
  simp only[not_or] at c3 c4 c5
  refine ⟨fun e=>by omega,fun e=>?_⟩
  exfalso
  rcases hk with rfl|rfl|rfl|rfl|rfl<;>simp [opsR,c1,c2,c3,c4,c5] at e
 rw[hr]
 cases ts with
 | nil=>
  have:(opsR k).contains (seesT 0 [])=false:=by
   have hk:k=1∨k=2∨k=3∨k=4∨k=5:=by omega
   rcases hk with rfl|rfl|rfl|rfl|rfl<;>rfl
  rw[this];simp [isT]
 | cons t ts=>
  simp only[seesT,isT,if_true]
  by_cases hk:t.kind=2∨t.kind=5
  ·rw[if_pos hk]
   have:(decide (t.kind=2)||decide (t.kind=5))=true:=by simpa using hk
   rw[this,Bool.true_and]
  ·rw[if_neg hk]
   have:(decide (t.kind=2)||decide (t.kind=5))=false:=by simpa using hk
   rw[this,Bool.false_and]
   have h0:(opsR k).contains []=false:=by
    have hk:k=1∨k=2∨k=3∨k=4∨k=5:=by omega
    rcases hk with rfl|rfl|rfl|rfl|rfl<;>rfl
   rw[h0]
theorem prim_tok {E:Nat} {x:PT} (hx:PSpec 19 E x):PSpec 90 E (primP E x):=by
 intro h r lv ts Q hp hz hQ
 refine WF.code F90 rfl ?_
 have hlt:=hp.hi
 simp(disch:=(try simp only[hN]);omega)only[go_sem,simprocAttr]
 refine here_tok (E:=E) (lv:=lv) (ts:=ts) (hp.fr ⟨by (try simp only[hN]);omega,fun b hb hne=>by (try simp only[hN] at hb hne);simp(disch:=(try simp only[hN]);omega)only[go_sem,simprocAttr]⟩) ?_
 intro h1 hf1
 have hn1:=hf1.n;try simp only[hN] at hn1
 have q0:h1.get h.n=some ⟨0,.cells .own 0 [.int .i64 0,.int .i64 0,.str [],.int .i64 0,.int .i64 0,.int .i64 0,.int .i64 0,.int .u64 0,.nilSlice]⟩:=by simp(disch:=(try simp only[hN]);omega)only[go_sem,simprocAttr,hf1.old]
 have hf:∀b',b'<h.n→h1.get b'=h.get b':=fun b' hb'=>by simp(disch:=(try simp only[hN]);omega)only[go_sem,simprocAttr,hf1.old]
 have hp1:PInv h1 r E ts lv:=hp.fr ⟨by (try simp only[hN]);omega,fun b hb hne=>by (try simp only[hN] at hb hne);simp(disch:=(try simp only[hN]);omega)only[go_sem,simprocAttr,hf]⟩
 have hlt1:=hp1.hi
 clear hf1
 simp(disch:=(try simp only[hN]);omega)only[go_sem,simprocAttr,tokAV]
 generalize hH:(h1.alloc (AObj.cells Md.own 0 [AV.int IntKind.i64 0,AV.str [],AV.int IntKind.i64 0,AV.int IntKind.u64 0,AV.int IntKind.i64 0])).upd h1.n 1 (AObj.cells Md.own 0 [AV.int IntKind.i64 ((hdT E ts).kind:Int),AV.str (hdT E ts).text,AV.int IntKind.i64 ((hdT E ts).n:Int),AV.int IntKind.u64 ((hdT E ts).bits:Int),AV.int IntKind.i64 ((hdT E ts).pos:Int)])=H
 have hHn:H.n=h1.n+1:=by rw[←hH];simp(disch:=(try simp only[hN]);omega)only[go_sem,simprocAttr]
 have hH1:∀b',b'<h1.n→H.get b'=h1.get b':=fun b' hb'=>by rw[←hH];simp(disch:=(try simp only[hN]);omega)only[go_sem,simprocAttr]
 have hHt:H.get h1.n=some ⟨1,.cells .own 0 [.int .i64 ((hdT E ts).kind:Int),.str (hdT E ts).text,.int .i64 ((hdT E ts).n:Int),.int .u64 ((hdT E ts).bits:Int),.int .i64 ((hdT E ts).pos:Int)]⟩:=by rw[←hH];simp(disch:=(try simp only[hN]);omega)only[go_sem,simprocAttr]
 have hpH:PInv H r E ts lv:=hp1.fr ⟨by omega,fun b hb _=>hH1 b hb⟩
 have q0:H.get h.n=some ⟨0,.cells .own 0 [.int .i64 0,.int .i64 0,.str [],.int .i64 0,.int .i64 0,.int .i64 0,.int .i64 0,.int .u64 0,.nilSlice]⟩:=by rw[hH1 _ (by omega)];exact q0
 have hf:∀b',b'<h.n→H.get b'=h.get b':=fun b' hb'=>by rw[hH1 _ (by omega),hf _ hb']
 generalize h1.n=B at *
 clear hH1 hp1 hH
 simp only[primP] at hz hQ
 by_cases k3:(hdT E ts).kind=3
 ·rw[if_pos k3] at hz hQ
  have e3:(((hdT E ts).kind:Int)==3)=true:=by simp [k3]
  simp(disch:=(try simp only[hN]);omega)only[go_sem,simprocAttr,hHt,e3]
  refine take_tok (k:=3) (E:=E) (lv:=lv) (ts:=ts) hpH (by decide) ?_
  rw[if_pos k3]
  intro h2 hf2 hp2
  have hn2:=hf2.n;try simp only[hN] at hn2
  have q2:h2.get B=H.get B:=hf2.old _ (by omega) (by omega)
  have q3:h2.get h.n=H.get h.n:=hf2.old _ (by omega) (by omega)
  simp(disch:=(try simp only[hN]);omega)only[go_sem,simprocAttr,tokAV,q2,q3,hHt,q0]
  refine hQ _ .nilSlice ⟨by (try simp only[hN]);omega,fun b hb hne=>by (try simp only[hN] at hb hne);simp(disch:=(try simp only[hN]);omega)only[go_sem,simprocAttr,hf2.old,hf]⟩ (hp2.fr' (q:=h.n) (Fr.upd _ _ _) hlt) .nil
 rw[if_neg k3] at hz hQ
 have e3:(((hdT E ts).kind:Int)==3)=false:=by simp;omega
 by_cases k4:(hdT E ts).kind=4
 ·rw[if_pos k4] at hz hQ
  have e4:(((hdT E ts).kind:Int)==4)=true:=by simp [k4]
  simp(disch:=(try simp only[hN]);omega)only[go_sem,simprocAttr,hHt,e3,e4]
  refine take_tok (k:=4) (E:=E) (lv:=lv) (ts:=ts) hpH (by decide) ?_
  rw[if_pos k4]
  intro h2 hf2 hp2
  have hn2:=hf2.n;try simp only[hN] at hn2
  have q2:h2.get B=H.get B:=hf2.old _ (by omega) (by omega)
  have q3:h2.get h.n=H.get h.n:=hf2.old _ (by omega) (by omega)
  simp(disch:=(try simp only[hN]);omega)only[go_sem,simprocAttr,tokAV,q2,q3,hHt,q0]
  refine hQ _ .nilSlice ⟨by (try simp only[hN]);omega,fun b hb hne=>by (try simp only[hN] at hb hne);simp(disch:=(try simp only[hN]);omega)only[go_sem,simprocAttr,hf2.old,hf]⟩ (hp2.fr' (q:=h.n) (Fr.upd _ _ _) hlt) .nil
 rw[if_neg k4] at hz hQ
 have e4:(((hdT E ts).kind:Int)==4)=false:=by simp;omega
 by_cases k1:(hdT E ts).kind=1
 ·rw[if_pos k1] at hz hQ
  have e1:(((hdT E ts).kind:Int)==1)=true:=by simp [k1]
  simp(disch:=(try simp only[hN]);omega)only[go_sem,simprocAttr,hHt,e3,e4,e1]
  refine name_tok hx hpH k1 hz ?_
  cases hy:nameP E x lv ts with
  | error e=>
   obtain ⟨e,p⟩:=e
   rw[hy] at hQ
   intro h2 hf2
   have hn2:=hf2.n;try simp only[hN] at hn2
   simp(disch:=(try simp only[hN]);omega)only[go_sem,simprocAttr]
   exact hQ _ ⟨by (try simp only[hN]);omega,fun b hb hne=>by (try simp only[hN] at hb hne);simp(disch:=(try simp only[hN]);omega)only[go_sem,simprocAttr,hf2.old,hf]⟩
  | ok y=>
   obtain ⟨k,ts2⟩:=y
   rw[hy] at hQ
   intro h2 kv hf2 hp2 hk2
   have hn2:=hf2.n;try simp only[hN] at hn2
   have q3:h2.get h.n=H.get h.n:=hf2.old _ (by omega) (by omega)
   simp(disch:=(try simp only[hN]);omega)only[go_sem,simprocAttr,q3,q0,hk2.flat.1,hk2.flat.2]
   exact hQ _ kv ⟨by (try simp only[hN]);omega,fun b hb hne=>by (try simp only[hN] at hb hne);simp(disch:=(try simp only[hN]);omega)only[go_sem,simprocAttr,hf2.old,hf]⟩ (hp2.fr' (q:=h.n) (Fr.upd _ _ _) hlt) (hk2.keep (by omega) (by simp only[hN];omega) fun b hb1 hb2=>by simp(disch:=(try simp only[hN]);omega)only[go_sem,simprocAttr])
 rw[if_neg k1] at hz hQ
 have e1:(((hdT E ts).kind:Int)==1)=false:=by simp;omega
 simp(disch:=(try simp only[hN]);omega)only[go_sem,simprocAttr,hHt,e3,e4,e1]
 refine maybe_tok (E:=E) (lv:=lv) (ts:=ts) hpH ?_
 by_cases kt:isT [[116,114,117,101]] ts=true
 ·rw[if_pos kt] at hz hQ ⊢
  intro h2 hf2 hp2
  have hn2:=hf2.n;try simp only[hN] at hn2
  have q2:h2.get B=H.get B:=hf2.old _ (by omega) (by omega)
  have q3:h2.get h.n=H.get h.n:=hf2.old _ (by omega) (by omega)
  simp(disch:=(try simp only[hN]);omega)only[go_sem,simprocAttr,q2,q3,hHt,q0]
  refine hQ _ .nilSlice ⟨by (try simp only[hN]);omega,fun b hb hne=>by (try simp only[hN] at hb hne);simp(disch:=(try simp only[hN]);omega)only[go_sem,simprocAttr,hf2.old,hf]⟩ (hp2.fr' (q:=h.n) (Fr.upd _ _ _) hlt) .nil
 rw[if_neg kt] at hz hQ ⊢
 intro h2 hf2
 have hn2:=hf2.n;try simp only[hN] at hn2
 simp(disch:=(try simp only[hN]);omega)only[go_sem,simprocAttr]
 have hp2:=hpH.fr hf2
 refine maybe_tok (E:=E) (lv:=lv) (ts:=ts) hp2 ?_
 by_cases kf:isT [[102,97,108,115,101]] ts=true
 ·rw[if_pos kf] at hz hQ ⊢
  intro h3 hf3 hp3
  have hn3:=hf3.n;try simp only[hN] at hn3
  have q2:h3.get B=H.get B:=(hf3.old _ (by omega) (by omega)).trans (hf2.old _ (by omega) (by omega))
  have q3:h3.get h.n=H.get h.n:=(hf3.old _ (by omega) (by omega)).trans (hf2.old _ (by omega) (by omega))
  simp(disch:=(try simp only[hN]);omega)only[go_sem,simprocAttr,q2,q3,hHt,q0]
  refine hQ _ .nilSlice ⟨by (try simp only[hN]);omega,fun b hb hne=>by (try simp only[hN] at hb hne);simp(disch:=(try simp only[hN]);omega)only[go_sem,simprocAttr,hf3.old,hf2.old,hf]⟩ (hp3.fr' (q:=h.n) (Fr.upd _ _ _) hlt) .nil
 rw[if_neg kf] at hz hQ ⊢
 intro h3 hf3
 have hn3:=hf3.n;try simp only[hN] at hn3
 have hp3:=hp2.fr hf3
 simp(disch:=(try simp only[hN]);omega)only[go_sem,simprocAttr]
 refine is_tok (ws:=[[105,110,116],[102,108,111,97,116]]) (md:=.own) (ver:=0) (E:=E) (ts:=ts) (lv:=lv) (hp3.fr ⟨by (try simp only[hN]);omega,fun b hb hne=>by (try simp only[hN] at hb hne);simp(disch:=(try simp only[hN]);omega)only[go_sem,simprocAttr]⟩) (by (first|(simp(disch:=(try simp only[hN]);omega)only[go_sem,simprocAttr,List.map];done)|(simp(disch:=(try simp only[hN]);omega)only[go_sem,simprocAttr,List.map];rfl))) (by simp only[hN];omega) (show 2<2^62 by decide) ?_
 intro h4 hf4
 have hn4:=hf4.n;try simp only[hN] at hn4
 have q2:h4.get B=H.get B:=by simp(disch:=(try simp only[hN]);omega)only[go_sem,simprocAttr,hf4.old,hf3.old,hf2.old]
 have q3:h4.get h.n=H.get h.n:=by simp(disch:=(try simp only[hN]);omega)only[go_sem,simprocAttr,hf4.old,hf3.old,hf2.old]
 have hp4:PInv h4 r E ts lv:=hp3.fr ⟨by (try simp only[hN]);omega,fun b hb hne=>by (try simp only[hN] at hb hne);simp(disch:=(try simp only[hN]);omega)only[go_sem,simprocAttr,hf4.old]⟩
 have hf':∀b',b'<h.n→h4.get b'=h.get b':=fun b' hb'=>by rw[←hf b' hb'];simp(disch:=(try simp only[hN]);omega)only[go_sem,simprocAttr,hf4.old,hf3.old,hf2.old]
 have hn:B+1≤h4.n:=by omega
 rw[hHt] at q2
 rw[q0] at q3
 clear hf4 hp3 hp2 hf2 hf3 hn2 hn3 hn4 hf hpH hHt q0 hHn e3 e4 e1 kf kt
 by_cases kc:isT [[105,110,116],[102,108,111,97,116]] ts=true
 ·rw[if_pos kc] at hz hQ
  obtain ⟨ver,v,hr,ht⟩:=hp4.st
  obtain ⟨b,o,ver2,cs,rfl,hc,hb,ht'⟩:=ht.slc (isT_ne kc)
  have hpos:0<ts.length:=List.length_pos_iff.2 (isT_ne kc)
  have c1:bnd (some (.int .i64 1)) 0 ts.length=some 1:=bnd_num (i:=1) (by omega)
  have c2:ts.length.beq 0=false:=by rw[beq_nat];exact decide_eq_false (by omega)
  simp(disch:=(try simp only[hN]);omega)only[go_sem,simprocAttr,kc,hr,hc,c1,c2,Option.isSome_none,Bool.and_false,cond_false]
  have hp5:PInv (h4.upd r (ver+1) (.cells .own 0 [.slice b (o+5) (ts.length-1) (ts.length-1) false,.int .i64 (E:Int),.int .i64 (lv:Int)])) r E ts.tail lv:=hp4.step (ver:=ver+1) (Fr.upd _ _ _) (by simp(disch:=(try simp only[hN]);omega)only[go_sem,simprocAttr]) ht' hp4.lvl
  have hn5:h4.n=(h4.upd r (ver+1) (.cells .own 0 [.slice b (o+5) (ts.length-1) (ts.length-1) false,.int .i64 (E:Int),.int .i64 (lv:Int)])).n:=rfl
  have hf5:∀b',b'≠r→(h4.upd r (ver+1) (.cells .own 0 [.slice b (o+5) (ts.length-1) (ts.length-1) false,.int .i64 (E:Int),.int .i64 (lv:Int)])).get b'=h4.get b':=fun b' hb'=>by rw[AHeap.get_upd,if_neg hb']
  generalize h4.upd r (ver+1) (.cells .own 0 [.slice b (o+5) (ts.length-1) (ts.length-1) false,.int .i64 (E:Int),.int .i64 (lv:Int)])=h5 at *
  simp only[inP] at hz hQ
  refine open_tok hp5 ?_
  by_cases hh:isT [[40]] ts.tail=true
  ·rw[if_pos hh] at hz hQ ⊢
   by_cases h16:lv=16
   ·rw[if_pos h16] at hQ ⊢
    intro h6 hf6
    have hn6:=hf6.n;try simp only[hN] at hn6
    simp(disch:=(try simp only[hN]);omega)only[go_sem,simprocAttr]
    exact hQ _ ⟨by (try simp only[hN]);omega,fun b hb hne=>by (try simp only[hN] at hb hne);simp(disch:=(try simp only[hN]);omega)only[go_sem,simprocAttr,hf6.old,hf5,hf']⟩
   ·rw[if_neg h16] at hQ hz ⊢
    intro h6 hf6 hp6
    have hn6:=hf6.n;try simp only[hN] at hn6
    have q6:h6.get B=h4.get B:=by simp(disch:=(try simp only[hN]);omega)only[go_sem,simprocAttr,hf6.old,hf5]
    rw[q2] at q6
    have d1:decide (B=h6.n)=false:=decide_eq_false (by omega)
    simp(disch:=(try simp only[hN]);omega)only[go_sem,simprocAttr,tokAV,q6,d1]
    refine hx (hp6.fr (h':=h6.alloc (.cells .own 0 [.int .i64 0,.int .i64 0,.str [],.int .i64 0,.int .i64 0,.int .i64 0,.int .i64 0,.int .u64 0,.nilSlice])) ⟨by (try simp only[hN]);omega,fun b hb hne=>by (try simp only[hN] at hb hne);simp(disch:=(try simp only[hN]);omega)only[go_sem,simprocAttr]⟩) ?_ ?_
    ·intro e;rw[e] at hz;exact hz rfl
    cases hxx:x (lv+1) ts.tail.tail with
    | error e=>
     obtain ⟨e,p⟩:=e
     rw[hxx] at hQ
     intro h7 hf7
     have hn7:=hf7.n;try simp only[hN] at hn7
     have q7:h7.get B=h6.get B:=by simp(disch:=(try simp only[hN]);omega)only[go_sem,simprocAttr,hf7.old]
     have q8:h7.get h6.n=some ⟨0,.cells .own 0 [.int .i64 0,.int .i64 0,.str [],.int .i64 0,.int .i64 0,.int .i64 0,.int .i64 0,.int .u64 0,.nilSlice]⟩:=by simp(disch:=(try simp only[hN]);omega)only[go_sem,simprocAttr,hf7.old]
     simp(disch:=(try simp only[hN]);omega)only[go_sem,simprocAttr,q7,q8,q6]
     exact hQ _ ⟨by (try simp only[hN]);omega,fun b hb hne=>by (try simp only[hN] at hb hne);simp(disch:=(try simp only[hN]);omega)only[go_sem,simprocAttr,hf7.old,hf6.old,hf5,hf']⟩
    | ok y=>
     obtain ⟨k,ts2⟩:=y
     rw[hxx] at hQ hz
     intro h7 kv hf7 hp7 hk7
     have hn7:=hf7.n;try simp only[hN] at hn7
     have q7:h7.get B=h6.get B:=by simp(disch:=(try simp only[hN]);omega)only[go_sem,simprocAttr,hf7.old]
     have q8:h7.get h6.n=some ⟨0,.cells .own 0 [.int .i64 0,.int .i64 0,.str [],.int .i64 0,.int .i64 0,.int .i64 0,.int .i64 0,.int .u64 0,.nilSlice]⟩:=by simp(disch:=(try simp only[hN]);omega)only[go_sem,simprocAttr,hf7.old]
     simp(disch:=(try simp only[hN]);omega)only[go_sem,simprocAttr,q7,q8,q6,hk7.flat.1,hk7.flat.2]
     refine close_tok (E:=E) (lv:=lv) (ts:=ts2) ((hp7.fr (h':=h7.alloc (.cells .own 9 (ndC k kv))) ⟨by (try simp only[hN]);omega,fun b hb hne=>by (try simp only[hN] at hb hne);simp(disch:=(try simp only[hN]);omega)only[go_sem,simprocAttr]⟩).fr' (q:=h6.n) (Fr.upd _ _ _) (by omega)) ?_
     simp only at hQ
     by_cases hb:isT [[41]] ts2=true
     ·rw[if_pos hb] at hQ ⊢
      intro h8 hf8 hp8
      have hn8:=hf8.n;try simp only[hN] at hn8
      have q9:h8.get h.n=h4.get h.n:=by simp(disch:=(try simp only[hN]);omega)only[go_sem,simprocAttr,hf8.old,hf7.old,hf6.old,hf5]
      rw[q3] at q9
      have q10:h8.get h6.n=some ⟨1,.cells .own 0 [.int .i64 30,.int .i64 ((hdT E ts).pos:Int),.str (hdT E ts).text,.int .i64 0,.int .i64 0,.int .i64 0,.int .i64 0,.int .u64 0,.slice h7.n 0 1 1 true]⟩:=by simp(disch:=(try simp only[hN]);omega)only[go_sem,simprocAttr,hf8.old]
      simp(disch:=(try simp only[hN]);omega)only[go_sem,simprocAttr,q9,q10]
      refine hQ _ _ ⟨by (try simp only[hN]);omega,fun b hb hne=>by (try simp only[hN] at hb hne);simp(disch:=(try simp only[hN]);omega)only[go_sem,simprocAttr,hf8.old,hf7.old,hf6.old,hf5,hf']⟩ (hp8.fr' (q:=h.n) (Fr.upd _ _ _) hlt) ?_
      refine KidsR.one (ver:=0) (kv:=kv) (hk7.keep (by simp only[AHeap.alloc_n];omega) (by simp only[AHeap.alloc_n,AHeap.upd_n];omega) fun b hb1 hb2=>by simp only[AHeap.alloc_n] at hb1;simp(disch:=(try simp only[hN]);omega)only[go_sem,simprocAttr,hf8.old]) (by omega) (by simp only[hN];omega) (by simp(disch:=(try simp only[hN]);omega)only[go_sem,simprocAttr,hf8.old])
     ·rw[if_neg hb] at hQ ⊢
      intro h8 hf8
      have hn8:=hf8.n;try simp only[hN] at hn8
      simp(disch:=(try simp only[hN]);omega)only[go_sem,simprocAttr]
      exact hQ _ ⟨by (try simp only[hN]);omega,fun b hb hne=>by (try simp only[hN] at hb hne);simp(disch:=(try simp only[hN]);omega)only[go_sem,simprocAttr,hf8.old,hf7.old,hf6.old,hf5,hf']⟩
  ·rw[if_neg hh] at hz hQ ⊢
   intro h6 hf6
   have hn6:=hf6.n;try simp only[hN] at hn6
   simp(disch:=(try simp only[hN]);omega)only[go_sem,simprocAttr]
   exact hQ _ ⟨by (try simp only[hN]);omega,fun b hb hne=>by (try simp only[hN] at hb hne);simp(disch:=(try simp only[hN]);omega)only[go_sem,simprocAttr,hf6.old,hf5,hf']⟩
 ·rw[if_neg kc] at hz hQ
  have hh':isT [[105,110,116],[102,108,111,97,116]] ts=false:=by simpa using kc
  simp(disch:=(try simp only[hN]);omega)only[go_sem,simprocAttr,hh']
  simp only[inP] at hz hQ
  refine open_tok hp4 ?_
  by_cases hh:isT [[40]] ts=true
  ·rw[if_pos hh] at hz hQ ⊢
   by_cases h16:lv=16
   ·rw[if_pos h16] at hQ ⊢
    intro h6 hf6
    have hn6:=hf6.n;try simp only[hN] at hn6
    simp(disch:=(try simp only[hN]);omega)only[go_sem,simprocAttr]
    exact hQ _ ⟨by (try simp only[hN]);omega,fun b hb hne=>by (try simp only[hN] at hb hne);simp(disch:=(try simp only[hN]);omega)only[go_sem,simprocAttr,hf6.old,hf']⟩
   ·rw[if_neg h16] at hQ hz ⊢
    intro h6 hf6 hp6
    have hn6:=hf6.n;try simp only[hN] at hn6
    simp(disch:=(try simp only[hN]);omega)only[go_sem,simprocAttr,tokAV]
    refine hx hp6 ?_ ?_
    ·intro e;rw[e] at hz;exact hz rfl
    cases hxx:x (lv+1) ts.tail with
    | error e=>
     obtain ⟨e,p⟩:=e
     rw[hxx] at hQ
     intro h7 hf7
     have hn7:=hf7.n;try simp only[hN] at hn7
     simp(disch:=(try simp only[hN]);omega)only[go_sem,simprocAttr]
     exact hQ _ ⟨by (try simp only[hN]);omega,fun b hb hne=>by (try simp only[hN] at hb hne);simp(disch:=(try simp only[hN]);omega)only[go_sem,simprocAttr,hf7.old,hf6.old,hf']⟩
    | ok y=>
     obtain ⟨k,ts2⟩:=y
     rw[hxx] at hQ hz
     intro h7 kv hf7 hp7 hk7
     have hn7:=hf7.n;try simp only[hN] at hn7
     simp(disch:=(try simp only[hN]);omega)only[go_sem,simprocAttr,hk7.flat.1,hk7.flat.2]
     refine close_tok (E:=E) (lv:=lv) (ts:=ts2) (hp7.fr ⟨by (try simp only[hN]);omega,fun b hb hne=>by (try simp only[hN] at hb hne);simp(disch:=(try simp only[hN]);omega)only[go_sem,simprocAttr]⟩) ?_
     simp only at hQ
     by_cases hb:isT [[41]] ts2=true
     ·rw[if_pos hb] at hQ ⊢
      intro h8 hf8 hp8
      have hn8:=hf8.n;try simp only[hN] at hn8
      have q9:h8.get h.n=h4.get h.n:=by simp(disch:=(try simp only[hN]);omega)only[go_sem,simprocAttr,hf8.old,hf7.old,hf6.old]
      rw[q3] at q9
      have q10:h8.get h7.n=some ⟨1,.cells .own 0 (ndC k kv)⟩:=by simp(disch:=(try simp only[hN]);omega)only[go_sem,simprocAttr,hf8.old]
      simp(disch:=(try simp only[hN]);omega)only[go_sem,simprocAttr,q9,q10,hk7.flat.1,hk7.flat.2]
      exact hQ _ kv ⟨by (try simp only[hN]);omega,fun b hb hne=>by (try simp only[hN] at hb hne);simp(disch:=(try simp only[hN]);omega)only[go_sem,simprocAttr,hf8.old,hf7.old,hf6.old,hf']⟩ (hp8.fr' (q:=h.n) (Fr.upd _ _ _) hlt) (hk7.keep (by omega) (by simp only[hN];omega) fun b hb1 hb2=>by simp(disch:=(try simp only[hN]);omega)only[go_sem,simprocAttr,hf8.old])
     ·rw[if_neg hb] at hQ ⊢
      intro h8 hf8
      have hn8:=hf8.n;try simp only[hN] at hn8
      simp(disch:=(try simp only[hN]);omega)only[go_sem,simprocAttr]
      exact hQ _ ⟨by (try simp only[hN]);omega,fun b hb hne=>by (try simp only[hN] at hb hne);simp(disch:=(try simp only[hN]);omega)only[go_sem,simprocAttr,hf8.old,hf7.old,hf6.old,hf']⟩
  ·rw[if_neg hh] at hz hQ ⊢
   intro h6 hf6
   have hn6:=hf6.n;try simp only[hN] at hn6
   simp(disch:=(try simp only[hN]);omega)only[go_sem,simprocAttr]
   exact hQ _ ⟨by (try simp only[hN]);omega,fun b hb hne=>by (try simp only[hN] at hb hne);simp(disch:=(try simp only[hN]);omega)only[go_sem,simprocAttr,hf6.old,hf']⟩
theorem hdT_text {E:Nat} {ts:List Tok} (h:ts≠[]):hdT E ts=hdT 0 ts:=by cases ts;exact absurd rfl h;rfl
theorem row_tok {fid E:Nat} {u:PT} (hu:PSpec fid E u) {many:Bool} {ops:List Bs} {h:AHeap} {r lv b ver cap:Nat} {ex:Bool} {ts:List Tok} {Q:QR} (hp:PInv h r E ts lv) (hb:h.get b=some ⟨ver,.cells .own 1 (ops.map .str)⟩) (hbn:b<h.n) (hbr:b≠r) (hl:ops.length<2^62) (hz:rowP many ops u lv ts≠.error (0,0)) (hQ:PQ h r E lv Q (rowP many ops u lv ts)):WF F 39 [.ptr r 0,.func (.func fid) [.ptr r 0] [],.bool many,.slice b 0 ops.length cap ex] h Q:=by
 refine WF.code F39 rfl ?_
 have hlt:=hp.hi
 simp(disch:=(try simp only[hN]);omega)only[go_sem,simprocAttr,List.append_nil]
 unfold rowP at hz hQ
 refine hu (hp.fr (h':=h.alloc (.cells .own 0 [.int .i64 0,.int .i64 0,.str [],.int .i64 0,.int .i64 0,.int .i64 0,.int .i64 0,.int .u64 0,.nilSlice])) ⟨by (try simp only[hN]);omega,fun b hb hne=>by (try simp only[hN] at hb hne);simp(disch:=(try simp only[hN]);omega)only[go_sem,simprocAttr]⟩) ?_ ?_
 ·intro e;rw[e] at hz;exact hz rfl
 cases hx:u lv ts with
 | error e=>
  obtain ⟨e,p⟩:=e
  rw[hx] at hQ
  intro h1 hf1
  have hn1:=hf1.n;try simp only[hN] at hn1
  simp(disch:=(try simp only[hN]);omega)only[go_sem,simprocAttr]
  exact hQ _ ⟨by (try simp only[hN]);omega,fun b hb hne=>by (try simp only[hN] at hb hne);simp(disch:=(try simp only[hN]);omega)only[go_sem,simprocAttr,hf1.old]⟩
 | ok y=>
  obtain ⟨n,ts1⟩:=y
  rw[hx] at hQ hz
  simp only at hQ hz
  intro h1 kv hf1 hp1 hk1
  have hn1:=hf1.n;try simp only[hN] at hn1
  have q0:h1.get h.n=some ⟨0,.cells .own 0 [.int .i64 0,.int .i64 0,.str [],.int .i64 0,.int .i64 0,.int .i64 0,.int .i64 0,.int .u64 0,.nilSlice]⟩:=by simp(disch:=(try simp only[hN]);omega)only[go_sem,simprocAttr,hf1.old]
  have qb:h1.get b=some ⟨ver,.cells .own 1 (ops.map .str)⟩:=by rw[hf1.old _ (by simp only[hN];omega) hbr,AHeap.get_alloc,if_neg (by omega)];exact hb
  have hf:∀b',b'<h.n→b'≠r→h1.get b'=h.get b':=fun b' hb' hr'=>by simp(disch:=(try simp only[hN]);omega)only[go_sem,simprocAttr,hf1.old]
  have hk1:KidsR (h.n+1) h1 n.kids kv:=hk1.keep (Nat.le_refl _) (Nat.le_refl _) fun _ _ _=>rfl
  clear hf1
  simp(disch:=(try simp only[hN]);omega)only[go_sem,simprocAttr,hk1.flat.1,hk1.flat.2]
  generalize hfu:ts1.length+1=fu at hz hQ
  clear hfu
  refine wp_loop (fun f a h'=>∃nd ts2 kv2 v2,rowL u many ops lv f nd ts2=rowL u many ops lv fu n ts1∧h'.get h1.n=some ⟨v2,.cells .own 0 (ndC nd kv2)⟩∧PInv h' r E ts2 lv∧KidsR (h.n+1) h' nd.kids kv2∧h1.n+1≤h'.n∧(∀b',b'<h1.n→b'≠r→h'.get b'=h1.get b')∧a.tm.get 0=some (.ptr r 0)∧a.tm.get 1=some (.func (.func fid) [.ptr r 0] [])∧a.tm.get 2=some (.bool many)∧a.tm.get 3=some (.slice b 0 ops.length cap ex)∧a.tm.get 8=some (.ptr h.n 0)∧a.tm.get 9=some (.ptr h1.n 0)∧a.df=[]) ?_ fu ?_
  ·rintro f ⟨t,df⟩ h2 ⟨nd,ts2,kv2,v2,hR,q9,hp2,hk2,hn2,hf2,k0,k1,k2,k3,k8,k9,hdf⟩
   simp only at k0 k1 k2 k3 k8 k9 hdf
   subst hdf
   have hlt1:=hp1.hi
   have qb2:h2.get b=some ⟨ver,.cells .own 1 (ops.map .str)⟩:=by rw[hf2 _ (by omega) hbr];exact qb
   have q02:h2.get h.n=some ⟨0,.cells .own 0 [.int .i64 0,.int .i64 0,.str [],.int .i64 0,.int .i64 0,.int .i64 0,.int .i64 0,.int .u64 0,.nilSlice]⟩:=by rw[hf2 _ (by omega) (by omega)];exact q0
   cases f with
   | zero=>rw[←hR] at hz;exact absurd rfl hz
   | succ f=>
    rw[←hR] at hz hQ
    rw[rowL] at hR hz hQ
    simp(disch:=(try simp only[hN]);omega)only[go_sem,simprocAttr,k0,k1,k2,k3,k8,k9]
    refine is_tok (md:=.own) (ver:=ver) hp2 qb2 (by omega) hl ?_
    intro h3 hf3
    have hn3:=hf3.n;try simp only[hN] at hn3
    have hp3:=hp2.fr hf3
    have q93:h3.get h1.n=some ⟨v2,.cells .own 0 (ndC nd kv2)⟩:=by rw[hf3.old _ (by omega) (by omega)];exact q9
    by_cases hi:isT ops ts2=true
    ·rw[if_pos hi] at hz hQ hR
     simp(disch:=(try simp only[hN]);omega)only[go_sem,simprocAttr,hi,k0,k1,k2,k3,k8,k9]
     refine here_tok (E:=E) (lv:=lv) (ts:=ts2) hp3 ?_
     intro h4 hf4
     have hn4:=hf4.n;try simp only[hN] at hn4
     have hp4:=hp3.fr hf4
     have q94:h4.get h1.n=some ⟨v2,.cells .own 0 (ndC nd kv2)⟩:=by rw[hf4.old _ (by omega) (by omega)];exact q93
     obtain ⟨vr,v,hr,ht⟩:=hp4.st
     obtain ⟨c,o,vc,cs,rfl,hc,hcr,ht'⟩:=ht.slc (isT_ne hi)
     have hpos:0<ts2.length:=List.length_pos_iff.2 (isT_ne hi)
     have c1:bnd (some (.int .i64 1)) 0 ts2.length=some 1:=bnd_num (i:=1) (by omega)
     have c2:ts2.length.beq 0=false:=by rw[beq_nat];exact decide_eq_false (by omega)
     have g1:(h1.n=r)=False:=by simp;omega
     simp(disch:=(try simp only[hN]);omega)only[go_sem,simprocAttr,tokAV,k0,k1,k2,k3,k8,k9,hr,hc,c1,c2,q94,Option.isSome_none,Bool.and_false,cond_false,List.append_nil]
     have hE:(hdT E ts2).text=(hdT 0 ts2).text:=congrArg Tok.text (hdT_text (isT_ne hi))
     rw[hE]
     have hp5:PInv (h4.upd r (vr+1) (.cells .own 0 [.slice c (o+5) (ts2.length-1) (ts2.length-1) false,.int .i64 (E:Int),.int .i64 (lv:Int)])) r E ts2.tail lv:=hp4.step (ver:=vr+1) (Fr.upd _ _ _) (by simp(disch:=(try simp only[hN]);omega)only[go_sem,simprocAttr]) ht' hp4.lvl
     have q04:h4.get h.n=some ⟨0,.cells .own 0 [.int .i64 0,.int .i64 0,.str [],.int .i64 0,.int .i64 0,.int .i64 0,.int .i64 0,.int .u64 0,.nilSlice]⟩:=by rw[hf4.old _ (by omega) (by omega),hf3.old _ (by omega) (by omega)];exact q02
     have hf4':∀b',b'<h1.n→b'≠r→h4.get b'=h1.get b':=fun b' hb' hr'=>by rw[hf4.old _ (by omega) (by omega),hf3.old _ (by omega) (by omega)];exact hf2 _ hb' hr'
     have hk4:KidsR (h.n+1) h4 nd.kids kv2:=hk2.keep (Nat.le_refl _) (by omega) fun b' hb1 hb2=>by rw[hf4.old _ (by omega) (by omega),hf3.old _ (by omega) (by omega)]
     have hn4':h1.n+1≤h4.n:=by omega
     have hlt4:=hp4.hi
     clear hf4 hf3 hf2 q02 q93 q9 hp3 hp2 hk2 hn2 hn3 hn4 qb2 hr hc ht ht' hp4 hE
     refine hu hp5 ?_ ?_
     ·intro e;rw[e] at hz;exact hz rfl
     cases hxx:u lv ts2.tail with
     | error e=>
      obtain ⟨e,p⟩:=e
      rw[hxx] at hQ
      intro h5 hf5
      have hn5:=hf5.n;try simp only[hN] at hn5
      have q95:h5.get h1.n=some ⟨v2,.cells .own 0 (ndC nd kv2)⟩:=by rw[hf5.old _ (by simp only[hN];omega) (by omega),AHeap.get_upd,if_neg (by omega)];exact q94
      simp(disch:=(try simp only[hN]);omega)only[go_sem,simprocAttr,q94,q95]
      exact hQ _ ⟨by (try simp only[hN]);omega,fun b hb hne=>by (try simp only[hN] at hb hne);simp(disch:=(try simp only[hN]);omega)only[go_sem,simprocAttr,hf5.old,hf4',hf]⟩
     | ok y=>
      obtain ⟨k,ts3⟩:=y
      rw[hxx] at hQ hz hR
      simp only at hQ hz hR
      intro h5 kv3 hf5 hp6 hk5
      have hn5:=hf5.n;try simp only[hN] at hn5
      have q95:h5.get h1.n=some ⟨v2,.cells .own 0 (ndC nd kv2)⟩:=by rw[hf5.old _ (by simp only[hN];omega) (by omega),AHeap.get_upd,if_neg (by omega)];exact q94
      have q05:h5.get h.n=some ⟨0,.cells .own 0 [.int .i64 0,.int .i64 0,.str [],.int .i64 0,.int .i64 0,.int .i64 0,.int .i64 0,.int .u64 0,.nilSlice]⟩:=by rw[hf5.old _ (by simp only[hN];omega) (by omega),AHeap.get_upd,if_neg (by omega)];exact q04
      simp(disch:=(try simp only[hN]);omega)only[go_sem,simprocAttr,q94,q95,hk4.flat.1,hk4.flat.2,hk5.flat.1,hk5.flat.2,k0,k1,k2,k3,k8,k9]
      have hk6:∀v3,KidsR (h.n+1) ((h5.alloc (.cells .own 9 (ndC nd kv2++ndC k kv3))).upd h1.n v3 (.cells .own 0 [.int .i64 31,.int .i64 nd.pos,.str (hdT 0 ts2).text,.int .i64 0,.int .i64 0,.int .i64 0,.int .i64 0,.int .u64 0,.slice h5.n 0 2 2 true])) [nd,k] (.slice h5.n 0 2 2 true):=by
       intro v3
       refine KidsR.two (ver:=0) (kv:=kv2) (mv:=kv3) (hk4.keep9 (Nat.le_refl _) (by simp only[hN];omega) fun b' _ _ _ hb1 hb2 hb3=>?_) (hk5.keep9 (by simp only[hN];omega) (by simp only[hN];omega) fun b' _ _ _ hb1 hb2 hb3=>?_) (by omega) (by simp only[hN];omega) (by simp(disch:=(try simp only[hN]);omega)only[go_sem,simprocAttr])
       ·by_cases hb9:b'=h1.n
        ·subst hb9;rw[q94] at hb3;cases hb3
        ·rw[AHeap.get_upd,if_neg hb9,AHeap.get_alloc,if_neg (by omega),hf5.old _ (by simp only[hN];omega) (by omega),AHeap.get_upd,if_neg (by omega)]
       ·by_cases hb9:b'=h1.n
        ·subst hb9;rw[q95] at hb3;cases hb3
        ·rw[AHeap.get_upd,if_neg hb9,AHeap.get_alloc,if_neg (by omega)]
      cases many with
      | true=>
       simp(disch:=(try simp only[hN]);omega)only[go_sem,simprocAttr,k0,k1,k2,k3,k8,k9]
       refine ⟨f,Nat.lt_succ_self _,binN nd (hdT 0 ts2).text k,ts3,_,_,hR,rfl,(hp6.fr (h':=h5.alloc (.cells .own 9 (ndC nd kv2++ndC k kv3))) ⟨by (try simp only[hN]);omega,fun b hb hne=>by (try simp only[hN] at hb hne);simp(disch:=(try simp only[hN]);omega)only[go_sem,simprocAttr]⟩).fr' (q:=h1.n) (Fr.upd _ _ _) (by omega),hk6 _,by omega,fun b' hb1 hb2=>by simp(disch:=(try simp only[hN]);omega)only[go_sem,simprocAttr,hf5.old,hf4']⟩
      | false=>
       simp(disch:=(try simp only[hN]);omega)only[go_sem,simprocAttr,k0,k1,k2,k3,k8,k9,q05]
       refine hQ _ _ ⟨by (try simp only[hN]);omega,fun b hb hne=>by (try simp only[hN] at hb hne);simp(disch:=(try simp only[hN]);omega)only[go_sem,simprocAttr,hf5.old,hf4',hf]⟩ (((hp6.fr (h':=h5.alloc (.cells .own 9 (ndC nd kv2++ndC k kv3))) ⟨by (try simp only[hN]);omega,fun b hb hne=>by (try simp only[hN] at hb hne);simp(disch:=(try simp only[hN]);omega)only[go_sem,simprocAttr]⟩).fr' (q:=h1.n) (Fr.upd _ _ _) (by omega)).fr' (q:=h.n) (Fr.upd _ _ _) hlt) ((hk6 (v2+1)).keep (by omega) (by simp(disch:=(try simp only[hN]);omega)only[go_sem,simprocAttr];exact Nat.le_refl _) fun b' hb1 hb2=>?_)
       rw[AHeap.get_upd,if_neg (by omega)]
       rfl
    ·rw[if_neg hi] at hz hQ
     have hi':isT ops ts2=false:=by simpa using hi
     have q03:h3.get h.n=some ⟨0,.cells .own 0 [.int .i64 0,.int .i64 0,.str [],.int .i64 0,.int .i64 0,.int .i64 0,.int .i64 0,.int .u64 0,.nilSlice]⟩:=by rw[hf3.old _ (by omega) (by omega)];exact q02
     simp(disch:=(try simp only[hN]);omega)only[go_sem,simprocAttr,hi',k0,k1,k2,k3,k8,k9,q93,q03,hk2.flat.1,hk2.flat.2]
     exact hQ _ kv2 ⟨by (try simp only[hN]);omega,fun b hb hne=>by (try simp only[hN] at hb hne);simp(disch:=(try simp only[hN]);omega)only[go_sem,simprocAttr,hf3.old,hf2,hf]⟩ (hp3.fr' (q:=h.n) (Fr.upd _ _ _) hlt) (hk2.keep (by omega) (by simp only[hN];omega) fun b' hb1 hb2=>by simp(disch:=(try simp only[hN]);omega)only[go_sem,simprocAttr,hf3.old])
  ·refine ⟨n,ts1,kv,1,rfl,by simp(disch:=(try simp only[hN]);omega)only[go_sem,simprocAttr],hp1.fr ⟨by (try simp only[hN]);omega,fun b hb hne=>by (try simp only[hN] at hb hne);simp(disch:=(try simp only[hN]);omega)only[go_sem,simprocAttr]⟩,hk1.keep (Nat.le_refl _) (by simp only[hN];omega) fun b' hb1 hb2=>by simp(disch:=(try simp only[hN]);omega)only[go_sem,simprocAttr],by simp(disch:=(try simp only[hN]);omega)only[go_sem,simprocAttr];omega,fun b' hb1 hb2=>by simp(disch:=(try simp only[hN]);omega)only[go_sem,simprocAttr],?_⟩
   simp(disch:=(try simp only[hN]);omega)only[go_sem,simprocAttr]
end Go.Ev
