/- The document's reader of programs: statements (printed by gen68.py). -/
import Derived.Test.YtafbchppfbonpaaGreatDoorZK53
import Derived.Test.YtafbchppfbonpaaGreatDoorPuA
set_option linter.all false
set_option linter.unusedVariables false
set_option linter.unusedSimpArgs false
namespace Go.Ev
open Go
set_option maxRecDepth 100000
set_option maxHeartbeats 4000000
section
variable {F:FT} (I:AAct→AHeap→Prop) {x x' z y:MCode} {c:AV} {i:Nat} {a:AAct} {h:AHeap} {K:Post}
theorem bl_mono {K K':Post} (hK:∀e a h,K e a h→K' e a h) (e:AExit) (a:AAct) (h:AHeap) (w:blP i K e a h):blP i K' e a h:=by
 cases e with
 | exit j=>
  simp only[blP] at w ⊢
  cases hj:j.beq i<;>rw[hj] at w<;>exact hK _ _ _ w
 | norm=>simp only[blP] at w ⊢;exact hK _ _ _ w
 | ret=>simp only[blP] at w ⊢;exact hK _ _ _ w
 | pan v=>simp only[blP] at w ⊢;exact hK _ _ _ w
theorem cond_cut1 (w:condP (wpC F x) (wpC F x') c a h (blP i (cutP I K))) (hI:∀a h,I a h→wpC F y a h K):condP (wpC F x) (wpC F x') c a h (blP i (sqP (wpC F y) K)):=by
 unfold condP at w ⊢
 split at w
 ·exact wpC_mono x (bl_mono (cutP_sq (F:=F) (I:=I) hI)) a h w
 ·exact wpC_mono x' (bl_mono (cutP_sq (F:=F) (I:=I) hI)) a h w
 ·exact w
theorem cond_cut2 (w:condP (wpC F x) (wpC F x') c a h (sqP (wpC F z) (blP i (cutP I K)))) (hI:∀a h,I a h→wpC F y a h K):condP (wpC F x) (wpC F x') c a h (sqP (wpC F z) (blP i (sqP (wpC F y) K))):=by
 unfold condP at w ⊢
 split at w
 ·exact wpC_mono x (sq_mono (bl_mono (cutP_sq (F:=F) (I:=I) hI))) a h w
 ·exact wpC_mono x' (sq_mono (bl_mono (cutP_sq (F:=F) (I:=I) hI))) a h w
 ·exact w
end
theorem sees_mark {nx:Nat} {all:List Tok} (hmk:MkOk all) {w:Bs} {c:UInt8} {r:Bs} (hw:w=c::r) (hc:isLetter c=false) {t:Tok} {ts:List Tok} (hd:all.drop nx=t::ts):(decide (t.kind=5)&&t.text==w)=(seesT 0 (all.drop nx)==w):=by
 have hmem:t∈all:=List.mem_of_mem_drop (hd ▸ List.mem_cons_self)
 rw[hd]
 simp only[seesT,if_true]
 by_cases h5:t.kind=5
 ·simp [h5]
 ·have d5:decide (t.kind=5)=false:=decide_eq_false h5
  rw[d5,Bool.false_and]
  symm
  by_cases h2:t.kind=2
  ·rw[if_pos (.inl h2),beq_eq_false_iff_ne]
   intro h
   have:=(hmk t hmem).2 h2 c r (h.trans hw)
   rw[this] at hc;cases hc
  ·rw[if_neg (by rintro (h|h);exact h2 h;exact h5 h),hw];rfl
theorem mark2_sees {nx:Nat} {all:List Tok} (hmk:MkOk all) {w:Bs} {c:UInt8} {r:Bs} (hw:w=c::r) (hc:isLetter c=false) (hnx:nx<all.length):mark2 (all.drop nx) w=(seesT 0 (all.drop (nx+1))==w):=by
 rw[List.drop_eq_getElem_cons hnx]
 cases hd:all.drop (nx+1) with
 | nil=>rw[hw];rfl
 | cons t ts=>
  have:=sees_mark hmk hw hc hd
  rw[hd] at this
  exact this
theorem semi_st {all:List Tok} {E lv nx q nx1 e1 q1 nx2 e2 q2:Nat} {b:PT} {n:Nd} (hs:stmtP E b lv (all.drop nx)=semiP E (simpleP E) lv (all.drop nx)) (s1:StA all 0 q (simpleP E lv (all.drop nx)) n nx1 e1 q1) (s2:StM all e1 q1 (mustP E [59] (all.drop nx1)) nx2 e2 q2):StA all 0 q (stmtP E b lv (all.drop nx)) n nx2 e2 q2:=by
 rw[hs]
 refine ⟨fun he=>?_,fun he=>absurd rfl he⟩
 rcases s1.1 rfl with ⟨h1,rfl,r1⟩|⟨h1,r1⟩
 ·rcases s2.1 h1 with ⟨h2,rfl,r2⟩|⟨h2,r2⟩
  ·exact .inl ⟨h2,rfl,by simp only[semiP,r1,r2]⟩
  ·exact .inr ⟨h2,by simp only[semiP,r1,r2]⟩
 ·obtain ⟨rfl,rfl⟩:=s2.2 h1
  exact .inr ⟨h1,by simp only[semiP,r1]⟩
theorem rblock_st {E m:Nat} {b:PT} (hb:RSpecB m 60 E b) {h:AHeap} {r nx e q lv:Nat} {all:List Tok} (hmk:MkOk all) (hlv:lv≤16) (hp:RInv h r E all nx e q) (hm:e=0→(all.drop nx).length<m) {Q:QR}
  (hQ:∀h' n kv nx' e' q',Fr r h h'→RInv h' r E all nx' e' q'→kv.flat=true→kv.cells=[kv]→StA all e q (b lv (all.drop nx)) n nx' e' q'→(e'=0→KidsR h.n h' n.kids kv)→Q (.ret (.agg (ndC n kv))) h'):WF F 60 [.ptr r 0,.int .i64 (lv:Int)] h Q:=by
 by_cases he:e=0
 ·subst he
  exact hb hmk hlv hp (hm rfl) hQ
 ·refine rblock_bad hp he ?_
  intro h' hf
  exact hQ h' _ .nilSlice nx e q (hf.any (Nat.le_refl _)) (hp.fr hf) rfl rfl ⟨fun h=>absurd h he,fun _=>⟨rfl,rfl⟩⟩ fun h=>absurd h he
theorem rstmt_tok {E m:Nat} {b:PT} (hb:RSpecB m 60 E b) (hfb:FineM m b):RSpecB m 74 E (stmtP E b):=by
 intro h r lv nx q all Q hmk hlv hp hm hQ
 refine WF.code F74 rfl ?_
 have hlt:=hp.hi
 have hsm:=hp.small
 simp(disch:=(try simp only[hN]);omega)only[go_sem,simprocAttr]
 refine place_tok (hp.fr ⟨by (try simp only[hN]);omega,fun b hb hne=>by (try simp only[hN] at hb hne);simp(disch:=(try simp only[hN]);omega)only[go_sem,simprocAttr]⟩) ?_
 generalize hP:(hdT E (all.drop nx)).pos=P
 simp(disch:=(try simp only[hN]);omega)only[go_sem,simprocAttr,zN]
 generalize hH:AHeap.upd (AHeap.alloc (AHeap.alloc _ _) _) _ _ _=H
 have hHn:H.n=h.n+2:=by rw[←hH];simp(disch:=(try simp only[hN]);omega)only[go_sem,simprocAttr]
 have b0:H.get (h.n+1)=some ⟨1,.cells .own 0 [.int .i64 0,.int .i64 (P:Int),.str [],.int .i64 0,.int .i64 0,.int .i64 0,.int .i64 0,.int .u64 0,.nilSlice]⟩:=by rw[←hH];simp(disch:=(try simp only[hN]);omega)only[go_sem,simprocAttr]
 have q0:H.get h.n=some ⟨0,.cells .own 0 zN⟩:=by rw[←hH];simp(disch:=(try simp only[hN]);omega)only[go_sem,simprocAttr,zN]
 have hpH:RInv H r E all nx 0 q:=by rw[←hH];exact hp.le (by simp only[hN];omega) fun b hb=>by simp(disch:=(try simp only[hN]);omega)only[go_sem,simprocAttr]
 have hfH:∀b',b'<h.n→b'≠r→H.get b'=h.get b':=fun b' hb1 hb2=>by rw[←hH];simp(disch:=(try simp only[hN]);omega)only[go_sem,simprocAttr]
 clear hH hp
 refine kind_tok hpH ?_
 have hkt:kindT 0 E (all.drop nx)=(hdT E (all.drop nx)).kind:=if_pos rfl
 rw[hkt]
 obtain ⟨ver,vv,hr,hvl,_,_⟩:=hpH.st
 by_cases k1:(hdT E (all.drop nx)).kind=1
 ·have e1:(((hdT E (all.drop nx)).kind:Int)==1)=true:=by simp [k1]
  have hne:=hdT_ne (E:=E) (ts:=all.drop nx) (by omega)
  have hnx:nx<all.length:=drop_ne hne
  have i1:((nx:Int)+1)=((nx+1:Nat):Int):=by omega
  simp(disch:=(try simp only[hN]);omega)only[go_sem,simprocAttr,e1,hr,i1]
  have hp1:RInv (H.upd r (ver+1) (.cells .own 0 [vv,.int .i64 (E:Int),.int .i64 ((nx+1:Nat):Int),.int .i64 0,.int .i64 (q:Int)])) r E all (nx+1) 0 q:=hpH.step (ver:=ver) (ver':=ver+1) (Fr.upd _ _ _) (by omega) hr (by simp(disch:=(try simp only[hN]);omega)only[go_sem,simprocAttr])
  refine sees_tok hp1 ?_
  intro h1 hf1
  have hn1:=hf1.n;try simp only[hN] at hn1
  have r1:h1.get r=some ⟨ver+1,.cells .own 0 [vv,.int .i64 (E:Int),.int .i64 ((nx+1:Nat):Int),.int .i64 0,.int .i64 (q:Int)]⟩:=by simp(disch:=(try simp only[hN]);omega)only[go_sem,simprocAttr,hf1.old]
  have p1:=hp1.fr hf1
  have b1:h1.get (h.n+1)=some ⟨1,.cells .own 0 [.int .i64 0,.int .i64 (P:Int),.str [],.int .i64 0,.int .i64 0,.int .i64 0,.int .i64 0,.int .u64 0,.nilSlice]⟩:=by simp(disch:=(try simp only[hN]);omega)only[go_sem,simprocAttr,hf1.old,b0]
  have q1:h1.get h.n=some ⟨0,.cells .own 0 zN⟩:=by simp(disch:=(try simp only[hN]);omega)only[go_sem,simprocAttr,hf1.old,q0]
  have hf1':∀b',b'<h.n→b'≠r→h1.get b'=h.get b':=fun b' hb1 hb2=>by simp(disch:=(try simp only[hN]);omega)only[go_sem,simprocAttr,hf1.old,hfH]
  clear hf1 hp1 hpH hr b0 q0 hfH
  simp(disch:=(try simp only[hN]);omega)only[go_sem,simprocAttr,r1]
  generalize hH2:AHeap.upd h1 r _ _=H2
  have hHn2:H2.n=h1.n:=by rw[←hH2];simp(disch:=(try simp only[hN]);omega)only[go_sem,simprocAttr]
  have b2:H2.get (h.n+1)=some ⟨1,.cells .own 0 [.int .i64 0,.int .i64 (P:Int),.str [],.int .i64 0,.int .i64 0,.int .i64 0,.int .i64 0,.int .u64 0,.nilSlice]⟩:=by rw[←hH2];simp(disch:=(try simp only[hN]);omega)only[go_sem,simprocAttr,b1]
  have q2:H2.get h.n=some ⟨0,.cells .own 0 zN⟩:=by rw[←hH2];simp(disch:=(try simp only[hN]);omega)only[go_sem,simprocAttr,q1]
  have p2:RInv H2 r E all nx 0 q:=p1.step (ver:=ver+1) (ver':=ver+1+1) (by rw[←hH2];exact Fr.upd _ _ _) (by omega) r1 (by rw[←hH2];simp(disch:=(try simp only[hN]);omega)only[go_sem,simprocAttr])
  have hf2:∀b',b'<h.n→b'≠r→H2.get b'=h.get b':=fun b' hb1 hb2=>by rw[←hH2];simp(disch:=(try simp only[hN]);omega)only[go_sem,simprocAttr,hf1']
  clear hH2 hf1' q1 b1 p1 r1
  refine cond_cut1 (fun a h'=>∃n v nx' e' q' v2,h'.get (h.n+1)=some ⟨v2,.cells .own 0 (ndC n v)⟩∧v.flat=true∧v.cells=[v]∧h'.get h.n=some ⟨0,.cells .own 0 zN⟩∧h.n+1<h'.n∧RInv h' r E all nx' e' q'∧(∀b',b'<h.n→b'≠r→h'.get b'=h.get b')∧StA all 0 q (simpleP E lv (all.drop nx)) n nx' e' q'∧(e'=0→KidsR h.n h' n.kids v)∧a.tm.get 0=some (.ptr r 0)∧a.tm.get 4=some (.ptr h.n 0)∧a.tm.get 5=some (.ptr (h.n+1) 0)∧a.df=[]) ?_ ?_
  ·obtain ⟨t0,hd0⟩:∃t0,all.drop nx=t0::all.drop (nx+1):=⟨all[nx],List.drop_eq_getElem_cons hnx⟩
   have hS:simpleP E lv (all.drop nx)=wordedP E lv (all.drop nx):=by rw[simpleP,if_pos k1]
   have hT1:(all.drop nx).tail=all.drop (nx+1):=drop_tail
   have hT2:(all.drop nx).tail.tail=all.drop (nx+2):=by rw[drop_tail,drop_tail]
   have hm1:=mark2_sees hmk (w:=[58,61]) rfl (by decide) hnx
   have hm2:=mark2_sees hmk (w:=[40]) rfl (by decide) hnx
   by_cases g:seesT 0 (all.drop (nx+1))=[58,61]
   ·have hnx1:nx+1<all.length:=drop_ne (by intro e;rw[e] at g;cases g)
    rw[eq_bs g] at hm1
    simp(disch:=(try simp only[hN]);omega)only[go_sem,simprocAttr,eq_bs g]
    refine token_tok (k:=1) (by decide) p2 ?_
    unfold TokQ'
    rw[if_pos rfl,if_pos k1]
    intro h3 hf3 p3
    have hn3:=hf3.n;try simp only[hN] at hn3
    have b3:=(hf3.old (h.n+1) (by omega) (by omega)).trans b2
    have q3:=(hf3.old h.n (by omega) (by omega)).trans q2
    have hf3':∀b',b'<h.n→b'≠r→h3.get b'=h.get b':=fun b' hb1 hb2=>by simp(disch:=(try simp only[hN]);omega)only[go_sem,simprocAttr,hf3.old,hf2]
    obtain ⟨ver3,vv3,r3,_,_,_⟩:=p3.st
    have hlt3:=p3.hi
    have i2:(((nx+1:Nat):Int)+1)=((nx+2:Nat):Int):=by omega
    clear hf3 hf2 p2 b2 q2
    generalize hTx:(hdT E (all.drop nx)).text=T at *
    simp(disch:=(try simp only[hN]);omega)only[go_sem,simprocAttr,tokAV,hTx,b3,r3,i2]
    generalize hH3:AHeap.upd _ r _ _=H3
    have hHn3:H3.n=h3.n:=by rw[←hH3];simp(disch:=(try simp only[hN]);omega)only[go_sem,simprocAttr]
    have b4:H3.get (h.n+1)=some ⟨3,.cells .own 0 [.int .i64 11,.int .i64 (P:Int),.str T,.int .i64 0,.int .i64 0,.int .i64 0,.int .i64 0,.int .u64 0,.nilSlice]⟩:=by rw[←hH3];simp(disch:=(try simp only[hN]);omega)only[go_sem,simprocAttr]
    have q4:H3.get h.n=some ⟨0,.cells .own 0 zN⟩:=by rw[←hH3];simp(disch:=(try simp only[hN]);omega)only[go_sem,simprocAttr,q3]
    have p4:RInv H3 r E all (nx+2) 0 q:=by
     rw[←hH3]
     exact p3.step2 (ver:=ver3) (ver':=ver3+1) (by simp only[hN];omega) (fun b hb=>by simp(disch:=(try simp only[hN]);omega)only[go_sem,simprocAttr]) (by omega) r3 (by simp(disch:=(try simp only[hN]);omega)only[go_sem,simprocAttr])
    have hf4:∀b',b'<h.n→b'≠r→H3.get b'=h.get b':=fun b' hb1 hb2=>by rw[←hH3];simp(disch:=(try simp only[hN]);omega)only[go_sem,simprocAttr,hf3']
    clear hH3 r3 b3 q3 p3 hf3'
    refine rexpr_st (fun _=>hlv) p4 ?_
    intro h5 n kv nx5 e5 q5 hf5 hp5 f1 f2 st5 hk5
    have hn5:=hf5.n;try simp only[hN] at hn5
    have b5:=(hf5.old (h.n+1) (by omega) (by omega)).trans b4
    have q5':=(hf5.old h.n (by omega) (by omega)).trans q4
    simp(disch:=(try simp only[hN]);omega)only[go_sem,simprocAttr,f1,f2,b5]
    have s1:StA all 0 q (simpleP E lv (all.drop nx)) (nd0 11 P T [n]) nx5 e5 q5:=by
     refine ⟨fun _=>?_,fun h=>absurd rfl h⟩
     rcases st5.1 rfl with ⟨h0,hq,hx⟩|⟨h0,hx⟩
     ·exact .inl ⟨h0,hq,by rw[hS,wordedP,hm1,if_pos rfl,hT2,hx,hP,hTx]⟩
     ·exact .inr ⟨h0,by rw[hS,wordedP,hm1,if_pos rfl,hT2,hx]⟩
    refine ⟨nd0 11 P T [n],_,nx5,e5,q5,_,rfl,rfl,rfl,?_,?_,?_,?_,s1,fun h0=>?_⟩
    ·exact q5'
    ·omega
    ·exact hp5.le (by simp only[hN];omega) fun b hb=>by simp(disch:=(try simp only[hN]);omega)only[go_sem,simprocAttr]
    ·exact fun b' hb1 hb2=>by simp(disch:=(try simp only[hN]);omega)only[go_sem,simprocAttr,hf5.old,hf4]
    ·exact KidsR.one (n:=n) (ver:=0) (kv:=kv) ((hk5 h0).keep (by omega) (by simp only[hN];omega) fun b hb1 hb2=>by simp(disch:=(try simp only[hN]);omega)only[go_sem,simprocAttr]) (by omega) (by simp only[hN];omega) (by simp(disch:=(try simp only[hN]);omega)only[go_sem,simprocAttr])
   ·rw[ne_bs g] at hm1
    simp(disch:=(try simp only[hN]);omega)only[go_sem,simprocAttr,ne_bs g]
    by_cases g2:seesT 0 (all.drop (nx+1))=[40]
    ·rw[eq_bs g2] at hm2
     simp(disch:=(try simp only[hN]);omega)only[go_sem,simprocAttr,eq_bs g2]
     refine token_tok (k:=1) (by decide) p2 ?_
     unfold TokQ'
     rw[if_pos rfl,if_pos k1]
     intro h3 hf3 p3
     have hn3:=hf3.n;try simp only[hN] at hn3
     have b3:=(hf3.old (h.n+1) (by omega) (by omega)).trans b2
     have q3:=(hf3.old h.n (by omega) (by omega)).trans q2
     have hf3':∀b',b'<h.n→b'≠r→h3.get b'=h.get b':=fun b' hb1 hb2=>by simp(disch:=(try simp only[hN]);omega)only[go_sem,simprocAttr,hf3.old,hf2]
     have hlt3:=p3.hi
     clear hf3 hf2 p2 b2 q2
     generalize hTx:(hdT E (all.drop nx)).text=T at *
     simp(disch:=(try simp only[hN]);omega)only[go_sem,simprocAttr,tokAV,hTx,b3]
     generalize hHH:AHeap.upd _ (h.n+1) _ _=HC
     have hnHC:HC.n=h3.n:=by rw[←hHH];simp(disch:=(try simp only[hN]);omega)only[go_sem,simprocAttr]
     have bHC:HC.get (h.n+1)=some ⟨3,.cells .own 0 [.int .i64 13,.int .i64 (P:Int),.str T,.int .i64 0,.int .i64 0,.int .i64 0,.int .i64 0,.int .u64 0,.nilSlice]⟩:=by rw[←hHH];simp(disch:=(try simp only[hN]);omega)only[go_sem,simprocAttr]
     have qHC:HC.get h.n=some ⟨0,.cells .own 0 zN⟩:=by rw[←hHH];simp(disch:=(try simp only[hN]);omega)only[go_sem,simprocAttr,q3]
     have pHC:RInv HC r E all (nx+1) 0 q:=by
      rw[←hHH]
      exact p3.le (by simp only[hN];omega) fun b hb=>by simp(disch:=(try simp only[hN]);omega)only[go_sem,simprocAttr]
     have fHC:∀b',b'<h.n→b'≠r→HC.get b'=h.get b':=fun b' hb1 hb2=>by rw[←hHH];simp(disch:=(try simp only[hN]);omega)only[go_sem,simprocAttr,hf3']
     clear hHH
     refine rlist_tok hlv pHC ?_
     intro h5 ns v nx5 e5 q5 hf5 hp5 f1 f2 st5 hk5
     have hn5:=hf5.n;try simp only[hN] at hn5
     have b5:=(hf5.old (h.n+1) (by omega) (by omega)).trans bHC
     have q5':=(hf5.old h.n (by omega) (by omega)).trans qHC
     simp(disch:=(try simp only[hN]);omega)only[go_sem,simprocAttr,f1,f2,b5]
     have s1:StA all 0 q (simpleP E lv (all.drop nx)) (nd0 13 P T ns) nx5 e5 q5:=by
      refine ⟨fun _=>?_,fun h=>absurd rfl h⟩
      rcases st5.1 rfl with ⟨h0,hq,hx⟩|⟨h0,hx⟩
      ·exact .inl ⟨h0,hq,by rw[hS,wordedP,hm1,if_neg (by decide),hm2,if_pos rfl,hT1,hx,hP,hTx]⟩
      ·exact .inr ⟨h0,by rw[hS,wordedP,hm1,if_neg (by decide),hm2,if_pos rfl,hT1,hx]⟩
     refine ⟨nd0 13 P T ns,_,nx5,e5,q5,_,rfl,f1,f2,?_,?_,?_,?_,s1,fun h0=>?_⟩
     ·exact q5'
     ·omega
     ·exact hp5.le (by simp only[hN];omega) fun b hb=>by simp(disch:=(try simp only[hN]);omega)only[go_sem,simprocAttr]
     ·exact fun b' hb1 hb2=>by simp(disch:=(try simp only[hN]);omega)only[go_sem,simprocAttr,hf5.old,fHC]
     ·exact (hk5 h0).keep9 (by omega) (by simp only[hN];omega) fun b _ _ _ hb1 hb2 hb3=>by simp(disch:=(try simp only[hN]);omega)only[go_sem,simprocAttr]
    ·rw[ne_bs g2] at hm2
     simp(disch:=(try simp only[hN]);omega)only[go_sem,simprocAttr,ne_bs g2,b2]
     generalize hHH:AHeap.upd _ (h.n+1) _ _=HC
     have hnHC:HC.n=H2.n:=by rw[←hHH];simp(disch:=(try simp only[hN]);omega)only[go_sem,simprocAttr]
     have bHC:HC.get (h.n+1)=some ⟨2,.cells .own 0 [.int .i64 10,.int .i64 (P:Int),.str [],.int .i64 0,.int .i64 0,.int .i64 0,.int .i64 0,.int .u64 0,.nilSlice]⟩:=by rw[←hHH];simp(disch:=(try simp only[hN]);omega)only[go_sem,simprocAttr]
     have qHC:HC.get h.n=some ⟨0,.cells .own 0 zN⟩:=by rw[←hHH];simp(disch:=(try simp only[hN]);omega)only[go_sem,simprocAttr,q2]
     have pHC:RInv HC r E all nx 0 q:=by
      rw[←hHH]
      exact p2.le (by simp only[hN];omega) fun b hb=>by simp(disch:=(try simp only[hN]);omega)only[go_sem,simprocAttr]
     have fHC:∀b',b'<h.n→b'≠r→HC.get b'=h.get b':=fun b' hb1 hb2=>by rw[←hHH];simp(disch:=(try simp only[hN]);omega)only[go_sem,simprocAttr,hf2]
     clear hHH
     refine rtarget_st hlv pHC ?_
     intro h3 x xv nx3 e3 q3 hf3 p3 fx1 fx2 st3 hkx
     have hn3:=hf3.n;try simp only[hN] at hn3
     have b3:=(hf3.old (h.n+1) (by omega) (by omega)).trans bHC
     have q3':=(hf3.old h.n (by omega) (by omega)).trans qHC
     have hf3':∀b',b'<h.n→b'≠r→h3.get b'=h.get b':=fun b' hb1 hb2=>by simp(disch:=(try simp only[hN]);omega)only[go_sem,simprocAttr,hf3.old,fHC]
     simp(disch:=(try simp only[hN]);omega)only[go_sem,simprocAttr,fx1,fx2,zN]
     generalize hHH:AHeap.upd _ h3.n _ _=HD
     have hnHD:HD.n=h3.n+1:=by rw[←hHH];simp(disch:=(try simp only[hN]);omega)only[go_sem,simprocAttr]
     have bHD:HD.get (h.n+1)=some ⟨2,.cells .own 0 [.int .i64 10,.int .i64 (P:Int),.str [],.int .i64 0,.int .i64 0,.int .i64 0,.int .i64 0,.int .u64 0,.nilSlice]⟩:=by rw[←hHH];simp(disch:=(try simp only[hN]);omega)only[go_sem,simprocAttr,b3]
     have qHD:HD.get h.n=some ⟨0,.cells .own 0 zN⟩:=by rw[←hHH];simp(disch:=(try simp only[hN]);omega)only[go_sem,simprocAttr,q3']
     have pHD:RInv HD r E all nx3 e3 q3:=by
      rw[←hHH]
      exact p3.le (by simp only[hN];omega) fun b hb=>by simp(disch:=(try simp only[hN]);omega)only[go_sem,simprocAttr]
     have fHD:∀b',b'<h.n→b'≠r→HD.get b'=h.get b':=fun b' hb1 hb2=>by rw[←hHH];simp(disch:=(try simp only[hN]);omega)only[go_sem,simprocAttr,hf3']
     have xHD:HD.get h3.n=some ⟨1,.cells .own 0 (ndC x xv)⟩:=by rw[←hHH];simp(disch:=(try simp only[hN]);omega)only[go_sem,simprocAttr]
     have kHD:e3=0→KidsR HC.n HD x.kids xv:=fun h0=>by rw[←hHH];exact (hkx h0).keep (Nat.le_refl _) (by simp only[hN];omega) fun b hb1 hb2=>by simp(disch:=(try simp only[hN]);omega)only[go_sem,simprocAttr]
     clear hHH
     refine eat_tok (by decide) pHD ?_
     refine EatQ.all ?_
     intro h4 nx4 e4 q4 hf4 p4 s4
     have hn4:=hf4.n;try simp only[hN] at hn4
     have b4:=(hf4.old (h.n+1) (by omega) (by omega)).trans bHD
     have q4':=(hf4.old h.n (by omega) (by omega)).trans qHD
     have x4:=(hf4.old h3.n (by omega) (by omega)).trans xHD
     have k4:e3=0→KidsR HC.n h4 x.kids xv:=fun h0=>(kHD h0).fr hf4 (.inl (by omega))
     have hf4':∀b',b'<h.n→b'≠r→h4.get b'=h.get b':=fun b' hb1 hb2=>by simp(disch:=(try simp only[hN]);omega)only[go_sem,simprocAttr,hf4.old,fHD]
     simp only[ndC] at x4
     simp(disch:=(try simp only[hN]);omega)only[go_sem,simprocAttr,x4]
     refine rexpr_st (fun _=>hlv) p4 ?_
     intro h5 n kv nx5 e5 q5 hf5 hp5 f1 f2 st5 hk5
     have hn5:=hf5.n;try simp only[hN] at hn5
     have b5:=(hf5.old (h.n+1) (by omega) (by omega)).trans b4
     have q5':=(hf5.old h.n (by omega) (by omega)).trans q4'
     have x5:=(hf5.old h3.n (by omega) (by omega)).trans x4
     simp(disch:=(try simp only[hN]);omega)only[go_sem,simprocAttr,f1,f2,fx1,fx2,b5,x5,x4]
     have s1:StA all 0 q (simpleP E lv (all.drop nx)) (nd0 10 P [] [x,n]) nx5 e5 q5:=by
      refine ⟨fun he=>?_,fun he=>absurd rfl he⟩
      rcases st3.1 rfl with ⟨h0,rfl,w0⟩|⟨h0,w0⟩
      ·skip
       rcases s4.1 h0 with ⟨h1,rfl,w1⟩|⟨h1,w1⟩
       ·skip
        rcases st5.1 h1 with ⟨h2,rfl,w2⟩|⟨h2,w2⟩
        ·skip
         exact .inl ⟨h2,rfl,by simp only[hS,wordedP,hm1,hm2,Bool.false_eq_true,if_false,w0,w1,w2,hP]⟩
        ·skip
         exact .inr ⟨h2,by simp only[hS,wordedP,hm1,hm2,Bool.false_eq_true,if_false,w0,w1,w2]⟩
       ·skip
        obtain ⟨rfl,rfl⟩:=st5.2 h1
        exact .inr ⟨h1,by simp only[hS,wordedP,hm1,hm2,Bool.false_eq_true,if_false,w0,w1]⟩
      ·skip
       obtain ⟨rfl,rfl⟩:=s4.2 h0
       obtain ⟨rfl,rfl⟩:=st5.2 h0
       exact .inr ⟨h0,by simp only[hS,wordedP,hm1,hm2,Bool.false_eq_true,if_false,w0]⟩
     have z4:e5=0→e4=0:=fun h0=>by by_cases h1:e4=0;exact h1;have:=(st5.2 h1).1;omega
     have z3:e4=0→e3=0:=fun h0=>by by_cases h1:e3=0;exact h1;have:=(s4.2 h1).1;omega
     refine ⟨nd0 10 P [] [x,n],_,nx5,e5,q5,_,rfl,rfl,rfl,?_,?_,?_,?_,s1,fun h0=>?_⟩
     ·exact q5'
     ·omega
     ·exact hp5.le (by simp only[hN];omega) fun b hb=>by simp(disch:=(try simp only[hN]);omega)only[go_sem,simprocAttr]
     ·exact fun b' hb1 hb2=>by simp(disch:=(try simp only[hN]);omega)only[go_sem,simprocAttr,hf5.old,hf4']
     ·exact KidsR.two (n:=x) (m:=n) (ver:=0) (kv:=xv) (mv:=kv) (((k4 (z3 (z4 h0))).fr hf5 (.inl (by omega))).keep (by omega) (by simp only[hN];omega) fun b hb1 hb2=>by simp(disch:=(try simp only[hN]);omega)only[go_sem,simprocAttr]) ((hk5 h0).keep (by omega) (by simp only[hN];omega) fun b hb1 hb2=>by simp(disch:=(try simp only[hN]);omega)only[go_sem,simprocAttr]) (by omega) (by simp only[hN];omega) (by simp(disch:=(try simp only[hN]);omega)only[go_sem,simprocAttr,List.cons_append,List.nil_append])
  ·have hi1:∀w,isT [w] (all.drop nx)=false:=fun w=>by
    cases hd:all.drop nx with
    | nil=>rfl
    | cons t ts=>rw[hd] at k1;simp only[hdT] at k1;simp [isT,k1]
   have hs0:stmtP E b lv (all.drop nx)=semiP E (simpleP E) lv (all.drop nx):=by
    rw[stmtP,if_neg (by rw[hi1];decide),if_neg (by rw[hi1];decide)]
   rintro ⟨t,df⟩ X ⟨n,v,nx',e',q',v2,bX,f1,f2,qX,hnX,pX,hfX,st,hk,k0,k4,k5,hdf⟩
   simp only at k0 k4 k5 hdf
   subst hdf
   simp(disch:=(try simp only[hN]);omega)only[go_sem,simprocAttr,k0,k4,k5]
   refine eat_tok (by decide) pX ?_
   refine EatQ.all ?_
   intro Y nxY eY qY hfY pY s2
   have hnY:=hfY.n;try simp only[hN] at hnY
   have bY:=(hfY.old (h.n+1) (by omega) (by omega)).trans bX
   have qY0:=(hfY.old h.n (by omega) (by omega)).trans qX
   have hltY:=pY.hi
   simp(disch:=(try simp only[hN]);omega)only[go_sem,simprocAttr,k0,k4,k5,bY,qY0,f1,f2,ndC,zN]
   refine hQ _ n v nxY eY qY ?_ ?_ f1 f2 (semi_st hs0 st s2) fun h0=>?_
   ·exact ⟨by (try simp only[hN]);omega,fun b hb hne=>by (try simp only[hN] at hb hne);simp(disch:=(try simp only[hN]);omega)only[go_sem,simprocAttr,hfY.old,hfX]⟩
   ·exact pY.le (by simp only[hN];omega) fun b hb=>by simp(disch:=(try simp only[hN]);omega)only[go_sem,simprocAttr]
   ·refine ((hk ?_).fr hfY (.inl hlt)).keep9 (Nat.le_refl _) (by simp only[hN];omega) fun b _ _ _ hb1 hb2 hb3=>?_
    ·by_cases he':e'=0
     ·exact he'
     ·have:=(s2.2 he').1;omega
    ·have:b≠h.n:=by rintro rfl;rw[qY0] at hb3;cases hb3
     simp(disch:=(try simp only[hN]);omega)only[go_sem,simprocAttr]
 ·have e1:(((hdT E (all.drop nx)).kind:Int)==1)=false:=by simp;omega
  simp(disch:=(try simp only[hN]);omega)only[go_sem,simprocAttr,e1]
  refine sees_tok hpH ?_
  intro h1 hf1
  have hn1:=hf1.n;try simp only[hN] at hn1
  have p1:=hpH.fr hf1
  have b1:=(hf1.all (b:=h.n+1) (by omega)).trans b0
  have q1:=(hf1.all (b:=h.n) (by omega)).trans q0
  have f1':∀b',b'<h.n→b'≠r→h1.get b'=h.get b':=fun b' hb1 hb2=>by simp(disch:=(try simp only[hN]);omega)only[go_sem,simprocAttr,hf1.old,hfH]
  have hltr:=p1.hi
  clear hf1 hpH hr hvl b0 q0 hfH
  obtain ⟨ver1,vv1,r1,_,_,_⟩:=p1.st
  have i1:((nx:Int)+1)=((nx+1:Nat):Int):=by omega
  have hT1:(all.drop nx).tail=all.drop (nx+1):=drop_tail
  simp(disch:=(try simp only[hN]);omega)only[go_sem,simprocAttr]
  refine cond_cut2 (fun a h'=>∃n v nx' e' q' v2,stmtP E b lv (all.drop nx)=semiP E (simpleP E) lv (all.drop nx)∧h'.get (h.n+1)=some ⟨v2,.cells .own 0 (ndC n v)⟩∧v.flat=true∧v.cells=[v]∧h'.get h.n=some ⟨0,.cells .own 0 zN⟩∧h.n+1<h'.n∧RInv h' r E all nx' e' q'∧(∀b',b'<h.n→b'≠r→h'.get b'=h.get b')∧StA all 0 q (simpleP E lv (all.drop nx)) n nx' e' q'∧(e'=0→KidsR h.n h' n.kids v)∧a.tm.get 0=some (.ptr r 0)∧a.tm.get 4=some (.ptr h.n 0)∧a.tm.get 5=some (.ptr (h.n+1) 0)∧a.df=[]) ?_ ?_
  ·by_cases gi:seesT 0 (all.drop nx)=[105,102]
   ·obtain ⟨_,hnx,k2,ht⟩:=sees_word (E:=E) hmk rfl (by decide) gi
    have hI:isT [[105,102]] (all.drop nx)=true:=isT_key k2 ht
    simp(disch:=(try simp only[hN]);omega)only[go_sem,simprocAttr,eq_bs gi,r1,i1,b1]
    generalize hHH:AHeap.upd (AHeap.upd h1 r _ _) _ _ _=HN
    have hnHN:HN.n=h1.n:=by rw[←hHH];simp(disch:=(try simp only[hN]);omega)only[go_sem,simprocAttr]
    have bHN:HN.get (h.n+1)=some ⟨2,.cells .own 0 [.int .i64 22,.int .i64 (P:Int),.str [],.int .i64 0,.int .i64 0,.int .i64 0,.int .i64 0,.int .u64 0,.nilSlice]⟩:=by rw[←hHH];simp(disch:=(try simp only[hN]);omega)only[go_sem,simprocAttr]
    have qHN:HN.get h.n=some ⟨0,.cells .own 0 zN⟩:=by rw[←hHH];simp(disch:=(try simp only[hN]);omega)only[go_sem,simprocAttr,q1]
    have pHN:RInv HN r E all (nx+1) 0 q:=by
     rw[←hHH]
     exact p1.step2 (ver:=ver1) (ver':=ver1+1) (by simp only[hN];omega) (fun b hb=>by simp(disch:=(try simp only[hN]);omega)only[go_sem,simprocAttr]) (by omega) r1 (by simp(disch:=(try simp only[hN]);omega)only[go_sem,simprocAttr])
    have fHN:∀b',b'<h.n→b'≠r→HN.get b'=h.get b':=fun b' hb1 hb2=>by rw[←hHH];simp(disch:=(try simp only[hN]);omega)only[go_sem,simprocAttr,f1']
    clear hHH
    refine rexpr_st (fun _=>hlv) pHN ?_
    intro h5 c kc nx5 e5 q5 hf5 hp5 f1 f2 st5 hk5
    have hn5:=hf5.n;try simp only[hN] at hn5
    have b5:=(hf5.old (h.n+1) (by omega) (by omega)).trans bHN
    have q5':=(hf5.old h.n (by omega) (by omega)).trans qHN
    have hl5:e5=0→(all.drop nx5).length<m:=by
     intro h0
     rcases st5.1 rfl with ⟨_,_,hx⟩|⟨h1,_⟩
     ·have:=exprT_fine (E:=E) lv (all.drop (nx+1))
      rw[hx] at this
      simp only[FE] at this
      simp only[List.length_drop] at this hm ⊢
      omega
     ·exact absurd h0 h1
    simp(disch:=(try simp only[hN]);omega)only[go_sem,simprocAttr,f1,f2,b5]
    generalize hHH:AHeap.upd (AHeap.alloc h5 _) _ _ _=HD
    have hnHD:HD.n=h5.n+1:=by rw[←hHH];simp(disch:=(try simp only[hN]);omega)only[go_sem,simprocAttr]
    have bHD:HD.get (h.n+1)=some ⟨3,.cells .own 0 [.int .i64 22,.int .i64 (P:Int),.str [],.int .i64 0,.int .i64 0,.int .i64 0,.int .i64 0,.int .u64 0,.slice h5.n 0 1 1 true]⟩:=by rw[←hHH];simp(disch:=(try simp only[hN]);omega)only[go_sem,simprocAttr]
    have qHD:HD.get h.n=some ⟨0,.cells .own 0 zN⟩:=by rw[←hHH];simp(disch:=(try simp only[hN]);omega)only[go_sem,simprocAttr,q5']
    have pHD:RInv HD r E all nx5 e5 q5:=by
     rw[←hHH]
     exact hp5.le (by simp only[hN];omega) fun b hb=>by simp(disch:=(try simp only[hN]);omega)only[go_sem,simprocAttr]
    have fHD:∀b',b'<h.n→b'≠r→HD.get b'=h.get b':=fun b' hb1 hb2=>by rw[←hHH];simp(disch:=(try simp only[hN]);omega)only[go_sem,simprocAttr,hf5.old,fHN]
    have cHD:HD.get h5.n=some ⟨0,.cells .own 9 (ndC c kc)⟩:=by rw[←hHH];simp(disch:=(try simp only[hN]);omega)only[go_sem,simprocAttr,ndC]
    have kHD:GK (e5=0) HN.n HD (.slice h5.n 0 1 1 true) [c]:=GK.one (ver:=0) (by omega) (by omega) cHD fun h0=>KidsS.keep9 (S':=fun x=>HN.n≤x∧x≠h5.n) (fun b hb hl=>⟨hb,by omega⟩) (by omega) (fun b _ _ _ hb hl _=>by rw[←hHH];simp(disch:=(try simp only[hN]);omega)only[go_sem,simprocAttr]) (hk5 h0)
    clear hHH
    refine rblock_st hb hmk hlv pHD hl5 ?_
    intro h6 x kx nx6 e6 q6 hf6 hp6 g1 g2 st6 hk6
    have hn6:=hf6.n;try simp only[hN] at hn6
    have z6:e6=0→e5=0:=fun h0=>by by_cases h1:e5=0;exact h1;have:=(st6.2 h1).1;omega
    have b6:=(hf6.old (h.n+1) (by omega) (by omega)).trans bHD
    have q6':=(hf6.old h.n (by omega) (by omega)).trans qHD
    have hg6:GK (e5=0) HN.n (h6.alloc (.cells .own 9 (ndC x kx))) (.slice h5.n 0 1 1 true) [c]:=(kHD.fr hf6 (.inl (by omega))).fr (Fr.alloc (Fr.refl h6.n h6) _) (.inr (Nat.le_refl _))
    obtain ⟨v7,h7,happ,hg7,hb7,hn7,ho7⟩:=hg6.append (g':=e6=0) (kv:=kx) (n:=x) (m:=HD.n) (by simp only[hN];omega) (show 1<2^36 by decide) g1 (fun h0=>⟨z6 h0,(hk6 h0).keep (lo':=HD.n) (Nat.le_refl _) (by simp only[hN];omega) fun b hb1 hb2=>by simp(disch:=(try simp only[hN]);omega)only[go_sem,simprocAttr]⟩) (by omega) (fun b hb=>(kHD.blk hb).2.1)
    have ho:∀b',b'<h5.n→h7.get b'=h6.get b':=fun b' hb1=>by rw[ho7 b' (by simp only[hN];omega) (by simp only[blkV,ne_eq,Option.some.injEq];omega)];simp(disch:=(try simp only[hN]);omega)only[go_sem,simprocAttr]
    simp only[AHeap.alloc_n] at hn7
    have b7:=(ho (h.n+1) (by omega)).trans b6
    have q7:=(ho h.n (by omega)).trans q6'
    have f7:∀b',b'<h.n→b'≠r→h7.get b'=h.get b':=fun b' hb1 hb2=>by simp(disch:=(try simp only[hN]);omega)only[go_sem,simprocAttr,ho,hf6.old,fHD]
    have p7:RInv h7 r E all nx6 e6 q6:=hp6.le (by omega) fun b hb=>ho b (by omega)
    simp only[ndC] at happ
    simp(disch:=(try simp only[hN]);omega)only[go_sem,simprocAttr,g1,g2,happ,b6,bHD,b7,hg7.flat.1,hg7.flat.2,eq_bs gi]
    generalize hHH:AHeap.upd (AHeap.upd h7 _ _ _) _ _ _=HE
    have hnHE:HE.n=h7.n:=by rw[←hHH];simp(disch:=(try simp only[hN]);omega)only[go_sem,simprocAttr]
    have bHE:HE.get (h.n+1)=some ⟨5,.cells .own 0 [.int .i64 21,.int .i64 (P:Int),.str [],.int .i64 0,.int .i64 0,.int .i64 0,.int .i64 0,.int .u64 0,v7]⟩:=by rw[←hHH];simp(disch:=(try simp only[hN]);omega)only[go_sem,simprocAttr]
    have qHE:HE.get h.n=some ⟨0,.cells .own 0 zN⟩:=by rw[←hHH];simp(disch:=(try simp only[hN]);omega)only[go_sem,simprocAttr,q7]
    have pHE:RInv HE r E all nx6 e6 q6:=by
     rw[←hHH]
     exact p7.le (by simp only[hN];omega) fun b hb=>by simp(disch:=(try simp only[hN]);omega)only[go_sem,simprocAttr]
    have fHE:∀b',b'<h.n→b'≠r→HE.get b'=h.get b':=fun b' hb1 hb2=>by rw[←hHH];simp(disch:=(try simp only[hN]);omega)only[go_sem,simprocAttr,f7]
    have gHE:GK (e6=0) HN.n HE v7 [c,x]:=by rw[←hHH];exact hg7.keep id (by simp only[hN];omega) (fun b _ _ hb1 hb2 hb3=>by simp(disch:=(try simp only[hN]);omega)only[go_sem,simprocAttr]) fun _ b _ _ _ hb1 hb2 hb3=>by simp(disch:=(try simp only[hN]);omega)only[go_sem,simprocAttr]
    clear hHH
    refine sees_tok pHE ?_
    intro h8 hf8
    have hn8:=hf8.n;try simp only[hN] at hn8
    have p8:=pHE.fr hf8
    have b8:=(hf8.all (b:=h.n+1) (by omega)).trans bHE
    have q8:=(hf8.all (b:=h.n) (by omega)).trans qHE
    have gg8:=gHE.fr hf8 (.inr (Nat.le_refl _))
    have f8:∀b',b'<h.n→b'≠r→h8.get b'=h.get b':=fun b' hb1 hb2=>by simp(disch:=(try simp only[hN]);omega)only[go_sem,simprocAttr,hf8.old,fHE]
    have v7b:=hb7
    clear hf8 fHE gHE pHE qHE bHE
    obtain ⟨ver8,vv8,r8,_,_,_⟩:=p8.st
    by_cases ge:seesT e6 (all.drop nx6)=[101,108,115,101]
    ·obtain ⟨he6,hnx6,k26,ht6⟩:=sees_word (E:=E) hmk rfl (by decide) ge
     have hI6:isT [[101,108,115,101]] (all.drop nx6)=true:=isT_key k26 ht6
     have i6:((nx6:Int)+1)=((nx6+1:Nat):Int):=by omega
     have hl6:(all.drop (nx6+1)).length<m:=by
      have h5:=hl5 (z6 he6)
      rcases st6.1 (z6 he6) with ⟨_,_,hx⟩|⟨h1,_⟩
      ·have:=hfb lv (all.drop nx5) h5
       rw[hx] at this
       simp only[FE] at this
       simp only[List.length_drop] at this h5 ⊢
       omega
      ·exact absurd he6 h1
     subst he6
     simp(disch:=(try simp only[hN]);omega)only[go_sem,simprocAttr,eq_bs ge,r8,i6,b8]
     generalize hHH:AHeap.upd h8 r _ _=HF
     have hnHF:HF.n=h8.n:=by rw[←hHH];simp(disch:=(try simp only[hN]);omega)only[go_sem,simprocAttr]
     have bHF:HF.get (h.n+1)=some ⟨5,.cells .own 0 [.int .i64 21,.int .i64 (P:Int),.str [],.int .i64 0,.int .i64 0,.int .i64 0,.int .i64 0,.int .u64 0,v7]⟩:=by rw[←hHH];simp(disch:=(try simp only[hN]);omega)only[go_sem,simprocAttr,b8]
     have qHF:HF.get h.n=some ⟨0,.cells .own 0 zN⟩:=by rw[←hHH];simp(disch:=(try simp only[hN]);omega)only[go_sem,simprocAttr,q8]
     have pHF:RInv HF r E all (nx6+1) 0 q6:=by
      rw[←hHH]
      exact p8.step2 (ver:=ver8) (ver':=ver8+1) (by simp only[hN];omega) (fun b hb=>by simp(disch:=(try simp only[hN]);omega)only[go_sem,simprocAttr]) (by omega) r8 (by simp(disch:=(try simp only[hN]);omega)only[go_sem,simprocAttr])
     have fHF:∀b',b'<h.n→b'≠r→HF.get b'=h.get b':=fun b' hb1 hb2=>by rw[←hHH];simp(disch:=(try simp only[hN]);omega)only[go_sem,simprocAttr,f8]
     have gHF:GK (0=0) HN.n HF v7 [c,x]:=by rw[←hHH];exact gg8.fr (Fr.upd _ _ _) (.inl (by omega))
     clear hHH
     refine rblock_st hb hmk hlv pHF (fun _=>hl6) ?_
     intro h9 y ky nx9 e9 q9 hf9 hp9 y1 y2 st9 hk9
     have hn9:=hf9.n;try simp only[hN] at hn9
     have b9:=(hf9.old (h.n+1) (by omega) (by omega)).trans bHF
     have q9':=(hf9.old h.n (by omega) (by omega)).trans qHF
     have hg9:GK (0=0) HN.n (h9.alloc (.cells .own 9 (ndC y ky))) v7 [c,x]:=(gHF.fr hf9 (.inl (by omega))).fr (Fr.alloc (Fr.refl h9.n h9) _) (.inr (Nat.le_refl _))
     obtain ⟨v10,h10,happ2,hg10,hb10,hn10,ho10⟩:=hg9.append (g':=e9=0) (kv:=ky) (n:=y) (m:=HF.n) (by simp only[hN];omega) (show 2<2^36 by decide) y1 (fun h0=>⟨rfl,(hk9 h0).keep (lo':=HF.n) (Nat.le_refl _) (by simp only[hN];omega) fun b hb1 hb2=>by simp(disch:=(try simp only[hN]);omega)only[go_sem,simprocAttr]⟩) (by omega) (fun b hb=>(gHF.blk hb).2.1)
     have hb7':blkV v7=some (h6.n+1):=hb7
     have ho':∀b',b'<h5.n→h10.get b'=h9.get b':=fun b' hb1=>by rw[ho10 b' (by simp only[hN];omega) (by rw[hb7'];simp only[ne_eq,Option.some.injEq];omega)];simp(disch:=(try simp only[hN]);omega)only[go_sem,simprocAttr]
     simp only[AHeap.alloc_n] at hn10
     have b10:=(ho' (h.n+1) (by omega)).trans b9
     have q10:=(ho' h.n (by omega)).trans q9'
     have f10:∀b',b'<h.n→b'≠r→h10.get b'=h.get b':=fun b' hb1 hb2=>by simp(disch:=(try simp only[hN]);omega)only[go_sem,simprocAttr,ho',hf9.old,fHF]
     have p10:RInv h10 r E all nx9 e9 q9:=hp9.le (by omega) fun b hb=>ho' b (by omega)
     simp only[ndC] at happ2
     simp(disch:=(try simp only[hN]);omega)only[go_sem,simprocAttr,y1,y2,happ2,b9,bHF,b10,q10,hg10.flat.1,hg10.flat.2,zN]
     have s1:StA all 0 q (stmtP E b lv (all.drop nx)) (nd0 21 P [] [c,x,y]) nx9 e9 q9:=by
      refine ⟨fun he=>?_,fun he=>absurd rfl he⟩
      rcases st5.1 rfl with ⟨h0,rfl,w0⟩|⟨h0,w0⟩
      ·skip
       rcases st6.1 h0 with ⟨h1,rfl,w1⟩|⟨h1,w1⟩
       ·skip
        rcases st9.1 rfl with ⟨h2,rfl,w2⟩|⟨h2,w2⟩
        ·exact .inl ⟨h2,rfl,by simp only[stmtP,if_pos hI,ifP,drop_tail,w0,w1,if_pos hI6,w2,hP]⟩
        ·exact .inr ⟨h2,by simp only[stmtP,if_pos hI,ifP,drop_tail,w0,w1,if_pos hI6,w2]⟩
       ·exact absurd rfl h1
      ·exact absurd (z6 rfl) h0
     refine hQ _ (nd0 21 P [] [c,x,y]) v10 nx9 e9 q9 ?_ ?_ hg10.flat.1 hg10.flat.2 s1 fun h0=>?_
     ·exact ⟨by (try simp only[hN]);omega,fun b hb hne=>by (try simp only[hN] at hb hne);simp(disch:=(try simp only[hN]);omega)only[go_sem,simprocAttr,f10]⟩
     ·exact p10.le (by simp only[hN];omega) fun b hb=>by simp(disch:=(try simp only[hN]);omega)only[go_sem,simprocAttr]
     ·exact (hg10.kids h0 (show 3<2^61 by decide)).keep9 (by omega) (by simp only[hN];omega) fun b _ _ _ hb1 hb2 hb3=>by simp(disch:=(try simp only[hN]);omega)only[go_sem,simprocAttr]
    ·simp(disch:=(try simp only[hN]);omega)only[go_sem,simprocAttr,ne_bs ge,b8,q8,gg8.flat.1,gg8.flat.2,zN]
     have hE6:e6=0→¬isT [[101,108,115,101]] (all.drop nx6)=true:=fun h0=>by subst h0;rw[←seesT_is (by decide)];intro h;exact ge (eq_of_beq h)
     have s1:StA all 0 q (stmtP E b lv (all.drop nx)) (nd0 21 P [] [c,x]) nx6 e6 q6:=by
      refine ⟨fun he=>?_,fun he=>absurd rfl he⟩
      rcases st5.1 rfl with ⟨h0,rfl,w0⟩|⟨h0,w0⟩
      ·skip
       rcases st6.1 h0 with ⟨h1,rfl,w1⟩|⟨h1,w1⟩
       ·exact .inl ⟨h1,rfl,by simp only[stmtP,if_pos hI,ifP,drop_tail,w0,w1,if_neg (hE6 h1),hP]⟩
       ·exact .inr ⟨h1,by simp only[stmtP,if_pos hI,ifP,drop_tail,w0,w1]⟩
      ·obtain ⟨rfl,rfl⟩:=st6.2 h0
       exact .inr ⟨h0,by simp only[stmtP,if_pos hI,ifP,drop_tail,w0]⟩
     refine hQ _ (nd0 21 P [] [c,x]) v7 nx6 e6 q6 ?_ ?_ gg8.flat.1 gg8.flat.2 s1 fun h0=>?_
     ·exact ⟨by (try simp only[hN]);omega,fun b hb hne=>by (try simp only[hN] at hb hne);simp(disch:=(try simp only[hN]);omega)only[go_sem,simprocAttr,f8]⟩
     ·exact p8.le (by simp only[hN];omega) fun b hb=>by simp(disch:=(try simp only[hN]);omega)only[go_sem,simprocAttr]
     ·exact (gg8.kids h0 (show 2<2^61 by decide)).keep9 (by omega) (by simp only[hN];omega) fun b _ _ _ hb1 hb2 hb3=>by simp(disch:=(try simp only[hN]);omega)only[go_sem,simprocAttr]
   simp(disch:=(try simp only[hN]);omega)only[go_sem,simprocAttr,ne_bs gi]
   by_cases gw:seesT 0 (all.drop nx)=[119,104,105,108,101]
   ·obtain ⟨_,hnx,k2,ht⟩:=sees_word (E:=E) hmk rfl (by decide) gw
    have hI:isT [[119,104,105,108,101]] (all.drop nx)=true:=isT_key k2 ht
    simp(disch:=(try simp only[hN]);omega)only[go_sem,simprocAttr,eq_bs gw,r1,i1,b1]
    generalize hHH:AHeap.upd (AHeap.upd h1 r _ _) _ _ _=HN
    have hnHN:HN.n=h1.n:=by rw[←hHH];simp(disch:=(try simp only[hN]);omega)only[go_sem,simprocAttr]
    have bHN:HN.get (h.n+1)=some ⟨2,.cells .own 0 [.int .i64 22,.int .i64 (P:Int),.str [],.int .i64 0,.int .i64 0,.int .i64 0,.int .i64 0,.int .u64 0,.nilSlice]⟩:=by rw[←hHH];simp(disch:=(try simp only[hN]);omega)only[go_sem,simprocAttr]
    have qHN:HN.get h.n=some ⟨0,.cells .own 0 zN⟩:=by rw[←hHH];simp(disch:=(try simp only[hN]);omega)only[go_sem,simprocAttr,q1]
    have pHN:RInv HN r E all (nx+1) 0 q:=by
     rw[←hHH]
     exact p1.step2 (ver:=ver1) (ver':=ver1+1) (by simp only[hN];omega) (fun b hb=>by simp(disch:=(try simp only[hN]);omega)only[go_sem,simprocAttr]) (by omega) r1 (by simp(disch:=(try simp only[hN]);omega)only[go_sem,simprocAttr])
    have fHN:∀b',b'<h.n→b'≠r→HN.get b'=h.get b':=fun b' hb1 hb2=>by rw[←hHH];simp(disch:=(try simp only[hN]);omega)only[go_sem,simprocAttr,f1']
    clear hHH
    refine rexpr_st (fun _=>hlv) pHN ?_
    intro h5 c kc nx5 e5 q5 hf5 hp5 f1 f2 st5 hk5
    have hn5:=hf5.n;try simp only[hN] at hn5
    have b5:=(hf5.old (h.n+1) (by omega) (by omega)).trans bHN
    have q5':=(hf5.old h.n (by omega) (by omega)).trans qHN
    have hl5:e5=0→(all.drop nx5).length<m:=by
     intro h0
     rcases st5.1 rfl with ⟨_,_,hx⟩|⟨h1,_⟩
     ·have:=exprT_fine (E:=E) lv (all.drop (nx+1))
      rw[hx] at this
      simp only[FE] at this
      simp only[List.length_drop] at this hm ⊢
      omega
     ·exact absurd h0 h1
    simp(disch:=(try simp only[hN]);omega)only[go_sem,simprocAttr,f1,f2,b5]
    generalize hHH:AHeap.upd (AHeap.alloc h5 _) _ _ _=HD
    have hnHD:HD.n=h5.n+1:=by rw[←hHH];simp(disch:=(try simp only[hN]);omega)only[go_sem,simprocAttr]
    have bHD:HD.get (h.n+1)=some ⟨3,.cells .own 0 [.int .i64 22,.int .i64 (P:Int),.str [],.int .i64 0,.int .i64 0,.int .i64 0,.int .i64 0,.int .u64 0,.slice h5.n 0 1 1 true]⟩:=by rw[←hHH];simp(disch:=(try simp only[hN]);omega)only[go_sem,simprocAttr]
    have qHD:HD.get h.n=some ⟨0,.cells .own 0 zN⟩:=by rw[←hHH];simp(disch:=(try simp only[hN]);omega)only[go_sem,simprocAttr,q5']
    have pHD:RInv HD r E all nx5 e5 q5:=by
     rw[←hHH]
     exact hp5.le (by simp only[hN];omega) fun b hb=>by simp(disch:=(try simp only[hN]);omega)only[go_sem,simprocAttr]
    have fHD:∀b',b'<h.n→b'≠r→HD.get b'=h.get b':=fun b' hb1 hb2=>by rw[←hHH];simp(disch:=(try simp only[hN]);omega)only[go_sem,simprocAttr,hf5.old,fHN]
    have cHD:HD.get h5.n=some ⟨0,.cells .own 9 (ndC c kc)⟩:=by rw[←hHH];simp(disch:=(try simp only[hN]);omega)only[go_sem,simprocAttr,ndC]
    have kHD:GK (e5=0) HN.n HD (.slice h5.n 0 1 1 true) [c]:=GK.one (ver:=0) (by omega) (by omega) cHD fun h0=>KidsS.keep9 (S':=fun x=>HN.n≤x∧x≠h5.n) (fun b hb hl=>⟨hb,by omega⟩) (by omega) (fun b _ _ _ hb hl _=>by rw[←hHH];simp(disch:=(try simp only[hN]);omega)only[go_sem,simprocAttr]) (hk5 h0)
    clear hHH
    refine rblock_st hb hmk hlv pHD hl5 ?_
    intro h6 x kx nx6 e6 q6 hf6 hp6 g1 g2 st6 hk6
    have hn6:=hf6.n;try simp only[hN] at hn6
    have z6:e6=0→e5=0:=fun h0=>by by_cases h1:e5=0;exact h1;have:=(st6.2 h1).1;omega
    have b6:=(hf6.old (h.n+1) (by omega) (by omega)).trans bHD
    have q6':=(hf6.old h.n (by omega) (by omega)).trans qHD
    have hg6:GK (e5=0) HN.n (h6.alloc (.cells .own 9 (ndC x kx))) (.slice h5.n 0 1 1 true) [c]:=(kHD.fr hf6 (.inl (by omega))).fr (Fr.alloc (Fr.refl h6.n h6) _) (.inr (Nat.le_refl _))
    obtain ⟨v7,h7,happ,hg7,hb7,hn7,ho7⟩:=hg6.append (g':=e6=0) (kv:=kx) (n:=x) (m:=HD.n) (by simp only[hN];omega) (show 1<2^36 by decide) g1 (fun h0=>⟨z6 h0,(hk6 h0).keep (lo':=HD.n) (Nat.le_refl _) (by simp only[hN];omega) fun b hb1 hb2=>by simp(disch:=(try simp only[hN]);omega)only[go_sem,simprocAttr]⟩) (by omega) (fun b hb=>(kHD.blk hb).2.1)
    have ho:∀b',b'<h5.n→h7.get b'=h6.get b':=fun b' hb1=>by rw[ho7 b' (by simp only[hN];omega) (by simp only[blkV,ne_eq,Option.some.injEq];omega)];simp(disch:=(try simp only[hN]);omega)only[go_sem,simprocAttr]
    simp only[AHeap.alloc_n] at hn7
    have b7:=(ho (h.n+1) (by omega)).trans b6
    have q7:=(ho h.n (by omega)).trans q6'
    have f7:∀b',b'<h.n→b'≠r→h7.get b'=h.get b':=fun b' hb1 hb2=>by simp(disch:=(try simp only[hN]);omega)only[go_sem,simprocAttr,ho,hf6.old,fHD]
    have p7:RInv h7 r E all nx6 e6 q6:=hp6.le (by omega) fun b hb=>ho b (by omega)
    simp only[ndC] at happ
    simp(disch:=(try simp only[hN]);omega)only[go_sem,simprocAttr,g1,g2,happ,b6,bHD,b7,q7,hg7.flat.1,hg7.flat.2,zN,ne_bs gi,ne_bs gi]
    have hIf:¬isT [[105,102]] (all.drop nx)=true:=by rw[←seesT_is (by decide)];intro h;exact gi (eq_of_beq h)
    have s1:StA all 0 q (stmtP E b lv (all.drop nx)) (nd0 22 P [] [c,x]) nx6 e6 q6:=by
     refine ⟨fun he=>?_,fun he=>absurd rfl he⟩
     rcases st5.1 rfl with ⟨h0,rfl,w0⟩|⟨h0,w0⟩
     ·skip
      rcases st6.1 h0 with ⟨h1,rfl,w1⟩|⟨h1,w1⟩
      ·skip
       exact .inl ⟨h1,rfl,by simp only[stmtP,if_neg hIf,if_pos hI,whileP,drop_tail,w0,w1,hP]⟩
      ·skip
       exact .inr ⟨h1,by simp only[stmtP,if_neg hIf,if_pos hI,whileP,drop_tail,w0,w1]⟩
     ·skip
      obtain ⟨rfl,rfl⟩:=st6.2 h0
      exact .inr ⟨h0,by simp only[stmtP,if_neg hIf,if_pos hI,whileP,drop_tail,w0]⟩
    refine hQ _ (nd0 22 P [] [c,x]) v7 nx6 e6 q6 ?_ ?_ hg7.flat.1 hg7.flat.2 s1 fun h0=>?_
    ·exact ⟨by (try simp only[hN]);omega,fun b hb hne=>by (try simp only[hN] at hb hne);simp(disch:=(try simp only[hN]);omega)only[go_sem,simprocAttr,f7]⟩
    ·exact p7.le (by simp only[hN];omega) fun b hb=>by simp(disch:=(try simp only[hN]);omega)only[go_sem,simprocAttr]
    ·exact (hg7.kids h0 (show 2<2^61 by decide)).keep9 (by omega) (by simp only[hN];omega) fun b _ _ _ hb1 hb2 hb3=>by simp(disch:=(try simp only[hN]);omega)only[go_sem,simprocAttr]
   have hs0:stmtP E b lv (all.drop nx)=semiP E (simpleP E) lv (all.drop nx):=by
    rw[stmtP,if_neg (by rw[←seesT_is (by decide)];intro h;exact gi (eq_of_beq h)),if_neg (by rw[←seesT_is (by decide)];intro h;exact gw (eq_of_beq h))]
   simp(disch:=(try simp only[hN]);omega)only[go_sem,simprocAttr,ne_bs gw]
   by_cases g_return:seesT 0 (all.drop nx)=[114,101,116,117,114,110]
   ·obtain ⟨_,hnx,k2,ht⟩:=sees_word (E:=E) hmk rfl (by decide) g_return
    have hS:simpleP E lv (all.drop nx)=Except.ok (nd0 23 (hdT E (all.drop nx)).pos [] [],(all.drop nx).tail):=by simp [simpleP,k2,ht]
    simp(disch:=(try simp only[hN]);omega)only[go_sem,simprocAttr,eq_bs g_return,r1,i1,b1]
    have s1:StA all 0 q (simpleP E lv (all.drop nx)) (nd0 23 P [] []) (nx+1) 0 q:=⟨fun _=>.inl ⟨rfl,rfl,by rw[hS,hP,hT1]⟩,fun h=>absurd rfl h⟩
    refine ⟨nd0 23 P [] [],_,nx+1,0,q,_,hs0,rfl,rfl,rfl,?_,?_,?_,?_,s1,fun h0=>?_⟩
    ·exact q1
    ·omega
    ·exact p1.step2 (ver:=ver1) (ver':=ver1+1) (by simp only[hN];omega) (fun b hb=>by simp(disch:=(try simp only[hN]);omega)only[go_sem,simprocAttr]) (by omega) r1 (by simp(disch:=(try simp only[hN]);omega)only[go_sem,simprocAttr])
    ·exact fun b' hb1 hb2=>by simp(disch:=(try simp only[hN]);omega)only[go_sem,simprocAttr,f1']
    ·exact .nil
   simp(disch:=(try simp only[hN]);omega)only[go_sem,simprocAttr,ne_bs g_return]
   by_cases g_fail:seesT 0 (all.drop nx)=[102,97,105,108]
   ·obtain ⟨_,hnx,k2,ht⟩:=sees_word (E:=E) hmk rfl (by decide) g_fail
    have hS:simpleP E lv (all.drop nx)=failP E lv (all.drop nx):=by simp [simpleP,k2,ht]
    simp(disch:=(try simp only[hN]);omega)only[go_sem,simprocAttr,eq_bs g_fail,r1,i1,b1]
    have hI:isT [[102,97,105,108]] (all.drop nx)=true:=isT_key k2 ht
    generalize hHH:AHeap.upd (AHeap.upd h1 r _ _) _ _ _=HN
    have hnHN:HN.n=h1.n:=by rw[←hHH];simp(disch:=(try simp only[hN]);omega)only[go_sem,simprocAttr]
    have bHN:HN.get (h.n+1)=some ⟨2,.cells .own 0 [.int .i64 24,.int .i64 (P:Int),.str [],.int .i64 0,.int .i64 0,.int .i64 0,.int .i64 0,.int .u64 0,.nilSlice]⟩:=by rw[←hHH];simp(disch:=(try simp only[hN]);omega)only[go_sem,simprocAttr]
    have qHN:HN.get h.n=some ⟨0,.cells .own 0 zN⟩:=by rw[←hHH];simp(disch:=(try simp only[hN]);omega)only[go_sem,simprocAttr,q1]
    have pHN:RInv HN r E all (nx+1) 0 q:=by
     rw[←hHH]
     exact p1.step2 (ver:=ver1) (ver':=ver1+1) (by simp only[hN];omega) (fun b hb=>by simp(disch:=(try simp only[hN]);omega)only[go_sem,simprocAttr]) (by omega) r1 (by simp(disch:=(try simp only[hN]);omega)only[go_sem,simprocAttr])
    have fHN:∀b',b'<h.n→b'≠r→HN.get b'=h.get b':=fun b' hb1 hb2=>by rw[←hHH];simp(disch:=(try simp only[hN]);omega)only[go_sem,simprocAttr,f1']
    clear hHH
    refine rexpr_st (fun _=>hlv) pHN ?_
    intro h5 n kv nx5 e5 q5 hf5 hp5 f1 f2 st5 hk5
    have hn5:=hf5.n;try simp only[hN] at hn5
    have b5:=(hf5.old (h.n+1) (by omega) (by omega)).trans bHN
    have q5':=(hf5.old h.n (by omega) (by omega)).trans qHN
    simp(disch:=(try simp only[hN]);omega)only[go_sem,simprocAttr,f1,f2,b5]
    have s1:StA all 0 q (simpleP E lv (all.drop nx)) (nd0 24 P [] [n]) nx5 e5 q5:=by
     refine ⟨fun he=>?_,fun he=>absurd rfl he⟩
     rcases st5.1 rfl with ⟨h0,rfl,w0⟩|⟨h0,w0⟩
     ·skip
      exact .inl ⟨h0,rfl,by simp only[hS,failP,mustP,hI,if_true,hT1,w0,hP]<;>rfl⟩
     ·skip
      exact .inr ⟨h0,by simp only[hS,failP,mustP,hI,if_true,hT1,w0]<;>rfl⟩
    refine ⟨nd0 24 P [] [n],_,nx5,e5,q5,_,hs0,rfl,rfl,rfl,?_,?_,?_,?_,s1,fun h0=>?_⟩
    ·exact q5'
    ·omega
    ·exact hp5.le (by simp only[hN];omega) fun b hb=>by simp(disch:=(try simp only[hN]);omega)only[go_sem,simprocAttr]
    ·exact fun b' hb1 hb2=>by simp(disch:=(try simp only[hN]);omega)only[go_sem,simprocAttr,hf5.old,fHN]
    ·exact KidsR.one (n:=n) (ver:=0) (kv:=kv) ((hk5 h0).keep (by omega) (by simp only[hN];omega) fun b hb1 hb2=>by simp(disch:=(try simp only[hN]);omega)only[go_sem,simprocAttr]) (by omega) (by simp only[hN];omega) (by simp(disch:=(try simp only[hN]);omega)only[go_sem,simprocAttr])
   simp(disch:=(try simp only[hN]);omega)only[go_sem,simprocAttr,ne_bs g_fail]
   by_cases g_go:seesT 0 (all.drop nx)=[103,111]
   ·obtain ⟨_,hnx,k2,ht⟩:=sees_word (E:=E) hmk rfl (by decide) g_go
    have hS:simpleP E lv (all.drop nx)=goP E lv (all.drop nx):=by simp [simpleP,k2,ht]
    simp(disch:=(try simp only[hN]);omega)only[go_sem,simprocAttr,eq_bs g_go,r1,i1,b1]
    generalize hHH:AHeap.upd h1 r _ _=HN
    have hnHN:HN.n=h1.n:=by rw[←hHH];simp(disch:=(try simp only[hN]);omega)only[go_sem,simprocAttr]
    have bHN:HN.get (h.n+1)=some ⟨1,.cells .own 0 [.int .i64 0,.int .i64 (P:Int),.str [],.int .i64 0,.int .i64 0,.int .i64 0,.int .i64 0,.int .u64 0,.nilSlice]⟩:=by rw[←hHH];simp(disch:=(try simp only[hN]);omega)only[go_sem,simprocAttr,b1]
    have qHN:HN.get h.n=some ⟨0,.cells .own 0 zN⟩:=by rw[←hHH];simp(disch:=(try simp only[hN]);omega)only[go_sem,simprocAttr,q1]
    have pHN:RInv HN r E all (nx+1) 0 q:=by
     rw[←hHH]
     exact p1.step2 (ver:=ver1) (ver':=ver1+1) (by simp only[hN];omega) (fun b hb=>by simp(disch:=(try simp only[hN]);omega)only[go_sem,simprocAttr]) (by omega) r1 (by simp(disch:=(try simp only[hN]);omega)only[go_sem,simprocAttr])
    have fHN:∀b',b'<h.n→b'≠r→HN.get b'=h.get b':=fun b' hb1 hb2=>by rw[←hHH];simp(disch:=(try simp only[hN]);omega)only[go_sem,simprocAttr,f1']
    clear hHH
    refine token_tok (k:=1) (by decide) pHN ?_
    refine TokQ'.all ?_
    intro h3 nx3 e3 q3 tk hf3 p3 st3
    have hn3:=hf3.n;try simp only[hN] at hn3
    have b3:=(hf3.old (h.n+1) (by omega) (by omega)).trans bHN
    have q3':=(hf3.old h.n (by omega) (by omega)).trans qHN
    have f3:∀b',b'<h.n→b'≠r→h3.get b'=h.get b':=fun b' hb1 hb2=>by simp(disch:=(try simp only[hN]);omega)only[go_sem,simprocAttr,hf3.old,fHN]
    have hlt3:=p3.hi
    clear hf3 fHN
    simp(disch:=(try simp only[hN]);omega)only[go_sem,simprocAttr,tokAV,b3]
    generalize hHH:AHeap.upd (AHeap.upd h3 _ _ _) (h.n+1) _ _=HC
    have hnHC:HC.n=h3.n:=by rw[←hHH];simp(disch:=(try simp only[hN]);omega)only[go_sem,simprocAttr]
    have bHC:HC.get (h.n+1)=some ⟨3,.cells .own 0 [.int .i64 12,.int .i64 (P:Int),.str tk.text,.int .i64 0,.int .i64 0,.int .i64 0,.int .i64 0,.int .u64 0,.nilSlice]⟩:=by rw[←hHH];simp(disch:=(try simp only[hN]);omega)only[go_sem,simprocAttr]
    have qHC:HC.get h.n=some ⟨0,.cells .own 0 zN⟩:=by rw[←hHH];simp(disch:=(try simp only[hN]);omega)only[go_sem,simprocAttr,q3']
    have pHC:RInv HC r E all nx3 e3 q3:=by
     rw[←hHH]
     exact p3.le (by simp only[hN];omega) fun b hb=>by simp(disch:=(try simp only[hN]);omega)only[go_sem,simprocAttr]
    have fHC:∀b',b'<h.n→b'≠r→HC.get b'=h.get b':=fun b' hb1 hb2=>by rw[←hHH];simp(disch:=(try simp only[hN]);omega)only[go_sem,simprocAttr,f3]
    clear hHH
    refine rlist_tok hlv pHC ?_
    intro h5 ns v nx5 e5 q5 hf5 hp5 f1 f2 st5 hk5
    have hn5:=hf5.n;try simp only[hN] at hn5
    have b5:=(hf5.old (h.n+1) (by omega) (by omega)).trans bHC
    have q5':=(hf5.old h.n (by omega) (by omega)).trans qHC
    simp(disch:=(try simp only[hN]);omega)only[go_sem,simprocAttr,f1,f2,b5]
    have s1:StA all 0 q (simpleP E lv (all.drop nx)) (nd0 12 P tk.text ns) nx5 e5 q5:=by
     refine ⟨fun he=>?_,fun he=>absurd rfl he⟩
     rcases st3.1 rfl with ⟨h0,rfl,w0⟩|⟨h0,w0⟩
     ·skip
      rcases st5.1 h0 with ⟨h1,rfl,w1⟩|⟨h1,w1⟩
      ·skip
       exact .inl ⟨h1,rfl,by simp only[hS,goP,hT1,w0,w1,hP]<;>rfl⟩
      ·skip
       exact .inr ⟨h1,by simp only[hS,goP,hT1,w0,w1]<;>rfl⟩
     ·skip
      obtain ⟨rfl,rfl⟩:=st5.2 h0
      exact .inr ⟨h0,by simp only[hS,goP,hT1,w0]<;>rfl⟩
    refine ⟨nd0 12 P tk.text ns,_,nx5,e5,q5,_,hs0,rfl,f1,f2,?_,?_,?_,?_,s1,fun h0=>?_⟩
    ·exact q5'
    ·omega
    ·exact hp5.le (by simp only[hN];omega) fun b hb=>by simp(disch:=(try simp only[hN]);omega)only[go_sem,simprocAttr]
    ·exact fun b' hb1 hb2=>by simp(disch:=(try simp only[hN]);omega)only[go_sem,simprocAttr,hf5.old,fHC]
    ·exact (hk5 h0).keep9 (by omega) (by simp only[hN];omega) fun b _ _ _ hb1 hb2 hb3=>by simp(disch:=(try simp only[hN]);omega)only[go_sem,simprocAttr]
   simp(disch:=(try simp only[hN]);omega)only[go_sem,simprocAttr,ne_bs g_go]
   by_cases g_lock:seesT 0 (all.drop nx)=[108,111,99,107]
   ·obtain ⟨_,hnx,k2,ht⟩:=sees_word (E:=E) hmk rfl (by decide) g_lock
    have hS:simpleP E lv (all.drop nx)=namedP E 14 0 lv (all.drop nx):=by simp [simpleP,k2,ht]
    simp(disch:=(try simp only[hN]);omega)only[go_sem,simprocAttr,eq_bs g_lock,r1,i1,b1]
    generalize hHH:AHeap.upd h1 r _ _=HN
    have hnHN:HN.n=h1.n:=by rw[←hHH];simp(disch:=(try simp only[hN]);omega)only[go_sem,simprocAttr]
    have bHN:HN.get (h.n+1)=some ⟨1,.cells .own 0 [.int .i64 0,.int .i64 (P:Int),.str [],.int .i64 0,.int .i64 0,.int .i64 0,.int .i64 0,.int .u64 0,.nilSlice]⟩:=by rw[←hHH];simp(disch:=(try simp only[hN]);omega)only[go_sem,simprocAttr,b1]
    have qHN:HN.get h.n=some ⟨0,.cells .own 0 zN⟩:=by rw[←hHH];simp(disch:=(try simp only[hN]);omega)only[go_sem,simprocAttr,q1]
    have pHN:RInv HN r E all (nx+1) 0 q:=by
     rw[←hHH]
     exact p1.step2 (ver:=ver1) (ver':=ver1+1) (by simp only[hN];omega) (fun b hb=>by simp(disch:=(try simp only[hN]);omega)only[go_sem,simprocAttr]) (by omega) r1 (by simp(disch:=(try simp only[hN]);omega)only[go_sem,simprocAttr])
    have fHN:∀b',b'<h.n→b'≠r→HN.get b'=h.get b':=fun b' hb1 hb2=>by rw[←hHH];simp(disch:=(try simp only[hN]);omega)only[go_sem,simprocAttr,f1']
    clear hHH
    refine token_tok (k:=1) (by decide) pHN ?_
    refine TokQ'.all ?_
    intro h3 nx3 e3 q3 tk hf3 p3 st3
    have hn3:=hf3.n;try simp only[hN] at hn3
    have b3:=(hf3.old (h.n+1) (by omega) (by omega)).trans bHN
    have q3':=(hf3.old h.n (by omega) (by omega)).trans qHN
    have f3:∀b',b'<h.n→b'≠r→h3.get b'=h.get b':=fun b' hb1 hb2=>by simp(disch:=(try simp only[hN]);omega)only[go_sem,simprocAttr,hf3.old,fHN]
    have hlt3:=p3.hi
    clear hf3 fHN
    simp(disch:=(try simp only[hN]);omega)only[go_sem,simprocAttr,tokAV,b3,eq_bs g_lock]
    have s1:StA all 0 q (simpleP E lv (all.drop nx)) (nd0 14 P tk.text []) nx3 e3 q3:=by
     refine ⟨fun he=>?_,fun he=>absurd rfl he⟩
     rcases st3.1 rfl with ⟨h0,rfl,w0⟩|⟨h0,w0⟩
     ·skip
      exact .inl ⟨h0,rfl,by simp only[hS,namedP,if_true,hT1,w0,hP]<;>rfl⟩
     ·skip
      exact .inr ⟨h0,by simp only[hS,namedP,if_true,hT1,w0]<;>rfl⟩
    refine ⟨nd0 14 P tk.text [],_,nx3,e3,q3,_,hs0,rfl,rfl,rfl,?_,?_,?_,?_,s1,fun h0=>?_⟩
    ·exact q3'
    ·omega
    ·exact p3.le (by simp only[hN];omega) fun b hb=>by simp(disch:=(try simp only[hN]);omega)only[go_sem,simprocAttr]
    ·exact fun b' hb1 hb2=>by simp(disch:=(try simp only[hN]);omega)only[go_sem,simprocAttr,f3]
    ·exact .nil
   simp(disch:=(try simp only[hN]);omega)only[go_sem,simprocAttr,ne_bs g_lock]
   by_cases g_unlock:seesT 0 (all.drop nx)=[117,110,108,111,99,107]
   ·obtain ⟨_,hnx,k2,ht⟩:=sees_word (E:=E) hmk rfl (by decide) g_unlock
    have hS:simpleP E lv (all.drop nx)=namedP E 15 0 lv (all.drop nx):=by simp [simpleP,k2,ht]
    simp(disch:=(try simp only[hN]);omega)only[go_sem,simprocAttr,eq_bs g_unlock,r1,i1,b1]
    generalize hHH:AHeap.upd h1 r _ _=HN
    have hnHN:HN.n=h1.n:=by rw[←hHH];simp(disch:=(try simp only[hN]);omega)only[go_sem,simprocAttr]
    have bHN:HN.get (h.n+1)=some ⟨1,.cells .own 0 [.int .i64 0,.int .i64 (P:Int),.str [],.int .i64 0,.int .i64 0,.int .i64 0,.int .i64 0,.int .u64 0,.nilSlice]⟩:=by rw[←hHH];simp(disch:=(try simp only[hN]);omega)only[go_sem,simprocAttr,b1]
    have qHN:HN.get h.n=some ⟨0,.cells .own 0 zN⟩:=by rw[←hHH];simp(disch:=(try simp only[hN]);omega)only[go_sem,simprocAttr,q1]
    have pHN:RInv HN r E all (nx+1) 0 q:=by
     rw[←hHH]
     exact p1.step2 (ver:=ver1) (ver':=ver1+1) (by simp only[hN];omega) (fun b hb=>by simp(disch:=(try simp only[hN]);omega)only[go_sem,simprocAttr]) (by omega) r1 (by simp(disch:=(try simp only[hN]);omega)only[go_sem,simprocAttr])
    have fHN:∀b',b'<h.n→b'≠r→HN.get b'=h.get b':=fun b' hb1 hb2=>by rw[←hHH];simp(disch:=(try simp only[hN]);omega)only[go_sem,simprocAttr,f1']
    clear hHH
    refine token_tok (k:=1) (by decide) pHN ?_
    refine TokQ'.all ?_
    intro h3 nx3 e3 q3 tk hf3 p3 st3
    have hn3:=hf3.n;try simp only[hN] at hn3
    have b3:=(hf3.old (h.n+1) (by omega) (by omega)).trans bHN
    have q3':=(hf3.old h.n (by omega) (by omega)).trans qHN
    have f3:∀b',b'<h.n→b'≠r→h3.get b'=h.get b':=fun b' hb1 hb2=>by simp(disch:=(try simp only[hN]);omega)only[go_sem,simprocAttr,hf3.old,fHN]
    have hlt3:=p3.hi
    clear hf3 fHN
    simp(disch:=(try simp only[hN]);omega)only[go_sem,simprocAttr,tokAV,b3,ne_bs g_lock]
    have s1:StA all 0 q (simpleP E lv (all.drop nx)) (nd0 15 P tk.text []) nx3 e3 q3:=by
     refine ⟨fun he=>?_,fun he=>absurd rfl he⟩
     rcases st3.1 rfl with ⟨h0,rfl,w0⟩|⟨h0,w0⟩
     ·skip
      exact .inl ⟨h0,rfl,by simp only[hS,namedP,if_true,hT1,w0,hP]<;>rfl⟩
     ·skip
      exact .inr ⟨h0,by simp only[hS,namedP,if_true,hT1,w0]<;>rfl⟩
    refine ⟨nd0 15 P tk.text [],_,nx3,e3,q3,_,hs0,rfl,rfl,rfl,?_,?_,?_,?_,s1,fun h0=>?_⟩
    ·exact q3'
    ·omega
    ·exact p3.le (by simp only[hN];omega) fun b hb=>by simp(disch:=(try simp only[hN]);omega)only[go_sem,simprocAttr]
    ·exact fun b' hb1 hb2=>by simp(disch:=(try simp only[hN]);omega)only[go_sem,simprocAttr,f3]
    ·exact .nil
   simp(disch:=(try simp only[hN]);omega)only[go_sem,simprocAttr,ne_bs g_unlock]
   by_cases g_send:seesT 0 (all.drop nx)=[115,101,110,100]
   ·obtain ⟨_,hnx,k2,ht⟩:=sees_word (E:=E) hmk rfl (by decide) g_send
    have hS:simpleP E lv (all.drop nx)=namedP E 16 1 lv (all.drop nx):=by simp [simpleP,k2,ht]
    simp(disch:=(try simp only[hN]);omega)only[go_sem,simprocAttr,eq_bs g_send,r1,i1,b1]
    generalize hHH:AHeap.upd h1 r _ _=HN
    have hnHN:HN.n=h1.n:=by rw[←hHH];simp(disch:=(try simp only[hN]);omega)only[go_sem,simprocAttr]
    have bHN:HN.get (h.n+1)=some ⟨1,.cells .own 0 [.int .i64 0,.int .i64 (P:Int),.str [],.int .i64 0,.int .i64 0,.int .i64 0,.int .i64 0,.int .u64 0,.nilSlice]⟩:=by rw[←hHH];simp(disch:=(try simp only[hN]);omega)only[go_sem,simprocAttr,b1]
    have qHN:HN.get h.n=some ⟨0,.cells .own 0 zN⟩:=by rw[←hHH];simp(disch:=(try simp only[hN]);omega)only[go_sem,simprocAttr,q1]
    have pHN:RInv HN r E all (nx+1) 0 q:=by
     rw[←hHH]
     exact p1.step2 (ver:=ver1) (ver':=ver1+1) (by simp only[hN];omega) (fun b hb=>by simp(disch:=(try simp only[hN]);omega)only[go_sem,simprocAttr]) (by omega) r1 (by simp(disch:=(try simp only[hN]);omega)only[go_sem,simprocAttr])
    have fHN:∀b',b'<h.n→b'≠r→HN.get b'=h.get b':=fun b' hb1 hb2=>by rw[←hHH];simp(disch:=(try simp only[hN]);omega)only[go_sem,simprocAttr,f1']
    clear hHH
    refine token_tok (k:=1) (by decide) pHN ?_
    refine TokQ'.all ?_
    intro h3 nx3 e3 q3 tk hf3 p3 st3
    have hn3:=hf3.n;try simp only[hN] at hn3
    have b3:=(hf3.old (h.n+1) (by omega) (by omega)).trans bHN
    have q3':=(hf3.old h.n (by omega) (by omega)).trans qHN
    have f3:∀b',b'<h.n→b'≠r→h3.get b'=h.get b':=fun b' hb1 hb2=>by simp(disch:=(try simp only[hN]);omega)only[go_sem,simprocAttr,hf3.old,fHN]
    have hlt3:=p3.hi
    clear hf3 fHN
    simp(disch:=(try simp only[hN]);omega)only[go_sem,simprocAttr,tokAV,b3]
    generalize hHH:AHeap.upd h3 (h.n+1) _ _=HC
    have hnHC:HC.n=h3.n:=by rw[←hHH];simp(disch:=(try simp only[hN]);omega)only[go_sem,simprocAttr]
    have bHC:HC.get (h.n+1)=some ⟨2,.cells .own 0 [.int .i64 0,.int .i64 (P:Int),.str tk.text,.int .i64 0,.int .i64 0,.int .i64 0,.int .i64 0,.int .u64 0,.nilSlice]⟩:=by rw[←hHH];simp(disch:=(try simp only[hN]);omega)only[go_sem,simprocAttr]
    have qHC:HC.get h.n=some ⟨0,.cells .own 0 zN⟩:=by rw[←hHH];simp(disch:=(try simp only[hN]);omega)only[go_sem,simprocAttr,q3']
    have pHC:RInv HC r E all nx3 e3 q3:=by
     rw[←hHH]
     exact p3.le (by simp only[hN];omega) fun b hb=>by simp(disch:=(try simp only[hN]);omega)only[go_sem,simprocAttr]
    have fHC:∀b',b'<h.n→b'≠r→HC.get b'=h.get b':=fun b' hb1 hb2=>by rw[←hHH];simp(disch:=(try simp only[hN]);omega)only[go_sem,simprocAttr,f3]
    clear hHH
    refine eat_tok (by decide) pHC ?_
    refine EatQ.all ?_
    intro h4 nx4 e4 q4 hf4 p4 s4
    have hn4:=hf4.n;try simp only[hN] at hn4
    have b4:=(hf4.old (h.n+1) (by omega) (by omega)).trans bHC
    have q4':=(hf4.old h.n (by omega) (by omega)).trans qHC
    have f4:∀b',b'<h.n→b'≠r→h4.get b'=h.get b':=fun b' hb1 hb2=>by simp(disch:=(try simp only[hN]);omega)only[go_sem,simprocAttr,hf4.old,fHC]
    clear hf4 fHC
    simp(disch:=(try simp only[hN]);omega)only[go_sem,simprocAttr]
    refine rexpr_st (fun _=>hlv) p4 ?_
    intro h5 n kv nx5 e5 q5 hf5 hp5 f1 f2 st5 hk5
    have hn5:=hf5.n;try simp only[hN] at hn5
    have b5:=(hf5.old (h.n+1) (by omega) (by omega)).trans b4
    have q5':=(hf5.old h.n (by omega) (by omega)).trans q4'
    simp(disch:=(try simp only[hN]);omega)only[go_sem,simprocAttr,f1,f2,b5,eq_bs g_send]
    have s1:StA all 0 q (simpleP E lv (all.drop nx)) (nd0 16 P tk.text [n]) nx5 e5 q5:=by
     refine ⟨fun he=>?_,fun he=>absurd rfl he⟩
     rcases st3.1 rfl with ⟨h0,rfl,w0⟩|⟨h0,w0⟩
     ·skip
      rcases s4.1 h0 with ⟨h1,rfl,w1⟩|⟨h1,w1⟩
      ·skip
       rcases st5.1 h1 with ⟨h2,rfl,w2⟩|⟨h2,w2⟩
       ·skip
        exact .inl ⟨h2,rfl,by simp only[hS,namedP,show ¬((1:Nat)=0) by decide,eq_self,if_false,if_true,hT1,w0,w1,w2,hP]<;>rfl⟩
       ·skip
        exact .inr ⟨h2,by simp only[hS,namedP,show ¬((1:Nat)=0) by decide,eq_self,if_false,if_true,hT1,w0,w1,w2]<;>rfl⟩
      ·skip
       obtain ⟨rfl,rfl⟩:=st5.2 h1
       exact .inr ⟨h1,by simp only[hS,namedP,show ¬((1:Nat)=0) by decide,eq_self,if_false,if_true,hT1,w0,w1]<;>rfl⟩
     ·skip
      obtain ⟨rfl,rfl⟩:=s4.2 h0
      obtain ⟨rfl,rfl⟩:=st5.2 h0
      exact .inr ⟨h0,by simp only[hS,namedP,show ¬((1:Nat)=0) by decide,eq_self,if_false,if_true,hT1,w0]<;>rfl⟩
    refine ⟨nd0 16 P tk.text [n],_,nx5,e5,q5,_,hs0,rfl,rfl,rfl,?_,?_,?_,?_,s1,fun h0=>?_⟩
    ·exact q5'
    ·omega
    ·exact hp5.le (by simp only[hN];omega) fun b hb=>by simp(disch:=(try simp only[hN]);omega)only[go_sem,simprocAttr]
    ·exact fun b' hb1 hb2=>by simp(disch:=(try simp only[hN]);omega)only[go_sem,simprocAttr,hf5.old,f4]
    ·exact KidsR.one (n:=n) (ver:=0) (kv:=kv) ((hk5 h0).keep (by omega) (by simp only[hN];omega) fun b hb1 hb2=>by simp(disch:=(try simp only[hN]);omega)only[go_sem,simprocAttr]) (by omega) (by simp only[hN];omega) (by simp(disch:=(try simp only[hN]);omega)only[go_sem,simprocAttr])
   simp(disch:=(try simp only[hN]);omega)only[go_sem,simprocAttr,ne_bs g_send]
   by_cases g_add:seesT 0 (all.drop nx)=[97,100,100]
   ·obtain ⟨_,hnx,k2,ht⟩:=sees_word (E:=E) hmk rfl (by decide) g_add
    have hS:simpleP E lv (all.drop nx)=namedP E 18 1 lv (all.drop nx):=by simp [simpleP,k2,ht]
    simp(disch:=(try simp only[hN]);omega)only[go_sem,simprocAttr,eq_bs g_add,r1,i1,b1]
    generalize hHH:AHeap.upd h1 r _ _=HN
    have hnHN:HN.n=h1.n:=by rw[←hHH];simp(disch:=(try simp only[hN]);omega)only[go_sem,simprocAttr]
    have bHN:HN.get (h.n+1)=some ⟨1,.cells .own 0 [.int .i64 0,.int .i64 (P:Int),.str [],.int .i64 0,.int .i64 0,.int .i64 0,.int .i64 0,.int .u64 0,.nilSlice]⟩:=by rw[←hHH];simp(disch:=(try simp only[hN]);omega)only[go_sem,simprocAttr,b1]
    have qHN:HN.get h.n=some ⟨0,.cells .own 0 zN⟩:=by rw[←hHH];simp(disch:=(try simp only[hN]);omega)only[go_sem,simprocAttr,q1]
    have pHN:RInv HN r E all (nx+1) 0 q:=by
     rw[←hHH]
     exact p1.step2 (ver:=ver1) (ver':=ver1+1) (by simp only[hN];omega) (fun b hb=>by simp(disch:=(try simp only[hN]);omega)only[go_sem,simprocAttr]) (by omega) r1 (by simp(disch:=(try simp only[hN]);omega)only[go_sem,simprocAttr])
    have fHN:∀b',b'<h.n→b'≠r→HN.get b'=h.get b':=fun b' hb1 hb2=>by rw[←hHH];simp(disch:=(try simp only[hN]);omega)only[go_sem,simprocAttr,f1']
    clear hHH
    refine token_tok (k:=1) (by decide) pHN ?_
    refine TokQ'.all ?_
    intro h3 nx3 e3 q3 tk hf3 p3 st3
    have hn3:=hf3.n;try simp only[hN] at hn3
    have b3:=(hf3.old (h.n+1) (by omega) (by omega)).trans bHN
    have q3':=(hf3.old h.n (by omega) (by omega)).trans qHN
    have f3:∀b',b'<h.n→b'≠r→h3.get b'=h.get b':=fun b' hb1 hb2=>by simp(disch:=(try simp only[hN]);omega)only[go_sem,simprocAttr,hf3.old,fHN]
    have hlt3:=p3.hi
    clear hf3 fHN
    simp(disch:=(try simp only[hN]);omega)only[go_sem,simprocAttr,tokAV,b3]
    generalize hHH:AHeap.upd h3 (h.n+1) _ _=HC
    have hnHC:HC.n=h3.n:=by rw[←hHH];simp(disch:=(try simp only[hN]);omega)only[go_sem,simprocAttr]
    have bHC:HC.get (h.n+1)=some ⟨2,.cells .own 0 [.int .i64 0,.int .i64 (P:Int),.str tk.text,.int .i64 0,.int .i64 0,.int .i64 0,.int .i64 0,.int .u64 0,.nilSlice]⟩:=by rw[←hHH];simp(disch:=(try simp only[hN]);omega)only[go_sem,simprocAttr]
    have qHC:HC.get h.n=some ⟨0,.cells .own 0 zN⟩:=by rw[←hHH];simp(disch:=(try simp only[hN]);omega)only[go_sem,simprocAttr,q3']
    have pHC:RInv HC r E all nx3 e3 q3:=by
     rw[←hHH]
     exact p3.le (by simp only[hN];omega) fun b hb=>by simp(disch:=(try simp only[hN]);omega)only[go_sem,simprocAttr]
    have fHC:∀b',b'<h.n→b'≠r→HC.get b'=h.get b':=fun b' hb1 hb2=>by rw[←hHH];simp(disch:=(try simp only[hN]);omega)only[go_sem,simprocAttr,f3]
    clear hHH
    refine eat_tok (by decide) pHC ?_
    refine EatQ.all ?_
    intro h4 nx4 e4 q4 hf4 p4 s4
    have hn4:=hf4.n;try simp only[hN] at hn4
    have b4:=(hf4.old (h.n+1) (by omega) (by omega)).trans bHC
    have q4':=(hf4.old h.n (by omega) (by omega)).trans qHC
    have f4:∀b',b'<h.n→b'≠r→h4.get b'=h.get b':=fun b' hb1 hb2=>by simp(disch:=(try simp only[hN]);omega)only[go_sem,simprocAttr,hf4.old,fHC]
    clear hf4 fHC
    simp(disch:=(try simp only[hN]);omega)only[go_sem,simprocAttr]
    refine rexpr_st (fun _=>hlv) p4 ?_
    intro h5 n kv nx5 e5 q5 hf5 hp5 f1 f2 st5 hk5
    have hn5:=hf5.n;try simp only[hN] at hn5
    have b5:=(hf5.old (h.n+1) (by omega) (by omega)).trans b4
    have q5':=(hf5.old h.n (by omega) (by omega)).trans q4'
    simp(disch:=(try simp only[hN]);omega)only[go_sem,simprocAttr,f1,f2,b5,ne_bs g_send,eq_bs g_add]
    have s1:StA all 0 q (simpleP E lv (all.drop nx)) (nd0 18 P tk.text [n]) nx5 e5 q5:=by
     refine ⟨fun he=>?_,fun he=>absurd rfl he⟩
     rcases st3.1 rfl with ⟨h0,rfl,w0⟩|⟨h0,w0⟩
     ·skip
      rcases s4.1 h0 with ⟨h1,rfl,w1⟩|⟨h1,w1⟩
      ·skip
       rcases st5.1 h1 with ⟨h2,rfl,w2⟩|⟨h2,w2⟩
       ·skip
        exact .inl ⟨h2,rfl,by simp only[hS,namedP,show ¬((1:Nat)=0) by decide,eq_self,if_false,if_true,hT1,w0,w1,w2,hP]<;>rfl⟩
       ·skip
        exact .inr ⟨h2,by simp only[hS,namedP,show ¬((1:Nat)=0) by decide,eq_self,if_false,if_true,hT1,w0,w1,w2]<;>rfl⟩
      ·skip
       obtain ⟨rfl,rfl⟩:=st5.2 h1
       exact .inr ⟨h1,by simp only[hS,namedP,show ¬((1:Nat)=0) by decide,eq_self,if_false,if_true,hT1,w0,w1]<;>rfl⟩
     ·skip
      obtain ⟨rfl,rfl⟩:=s4.2 h0
      obtain ⟨rfl,rfl⟩:=st5.2 h0
      exact .inr ⟨h0,by simp only[hS,namedP,show ¬((1:Nat)=0) by decide,eq_self,if_false,if_true,hT1,w0]<;>rfl⟩
    refine ⟨nd0 18 P tk.text [n],_,nx5,e5,q5,_,hs0,rfl,rfl,rfl,?_,?_,?_,?_,s1,fun h0=>?_⟩
    ·exact q5'
    ·omega
    ·exact hp5.le (by simp only[hN];omega) fun b hb=>by simp(disch:=(try simp only[hN]);omega)only[go_sem,simprocAttr]
    ·exact fun b' hb1 hb2=>by simp(disch:=(try simp only[hN]);omega)only[go_sem,simprocAttr,hf5.old,f4]
    ·exact KidsR.one (n:=n) (ver:=0) (kv:=kv) ((hk5 h0).keep (by omega) (by simp only[hN];omega) fun b hb1 hb2=>by simp(disch:=(try simp only[hN]);omega)only[go_sem,simprocAttr]) (by omega) (by simp only[hN];omega) (by simp(disch:=(try simp only[hN]);omega)only[go_sem,simprocAttr])
   simp(disch:=(try simp only[hN]);omega)only[go_sem,simprocAttr,ne_bs g_add]
   by_cases g_put:seesT 0 (all.drop nx)=[112,117,116]
   ·obtain ⟨_,hnx,k2,ht⟩:=sees_word (E:=E) hmk rfl (by decide) g_put
    have hS:simpleP E lv (all.drop nx)=namedP E 19 1 lv (all.drop nx):=by simp [simpleP,k2,ht]
    simp(disch:=(try simp only[hN]);omega)only[go_sem,simprocAttr,eq_bs g_put,r1,i1,b1]
    generalize hHH:AHeap.upd h1 r _ _=HN
    have hnHN:HN.n=h1.n:=by rw[←hHH];simp(disch:=(try simp only[hN]);omega)only[go_sem,simprocAttr]
    have bHN:HN.get (h.n+1)=some ⟨1,.cells .own 0 [.int .i64 0,.int .i64 (P:Int),.str [],.int .i64 0,.int .i64 0,.int .i64 0,.int .i64 0,.int .u64 0,.nilSlice]⟩:=by rw[←hHH];simp(disch:=(try simp only[hN]);omega)only[go_sem,simprocAttr,b1]
    have qHN:HN.get h.n=some ⟨0,.cells .own 0 zN⟩:=by rw[←hHH];simp(disch:=(try simp only[hN]);omega)only[go_sem,simprocAttr,q1]
    have pHN:RInv HN r E all (nx+1) 0 q:=by
     rw[←hHH]
     exact p1.step2 (ver:=ver1) (ver':=ver1+1) (by simp only[hN];omega) (fun b hb=>by simp(disch:=(try simp only[hN]);omega)only[go_sem,simprocAttr]) (by omega) r1 (by simp(disch:=(try simp only[hN]);omega)only[go_sem,simprocAttr])
    have fHN:∀b',b'<h.n→b'≠r→HN.get b'=h.get b':=fun b' hb1 hb2=>by rw[←hHH];simp(disch:=(try simp only[hN]);omega)only[go_sem,simprocAttr,f1']
    clear hHH
    refine token_tok (k:=1) (by decide) pHN ?_
    refine TokQ'.all ?_
    intro h3 nx3 e3 q3 tk hf3 p3 st3
    have hn3:=hf3.n;try simp only[hN] at hn3
    have b3:=(hf3.old (h.n+1) (by omega) (by omega)).trans bHN
    have q3':=(hf3.old h.n (by omega) (by omega)).trans qHN
    have f3:∀b',b'<h.n→b'≠r→h3.get b'=h.get b':=fun b' hb1 hb2=>by simp(disch:=(try simp only[hN]);omega)only[go_sem,simprocAttr,hf3.old,fHN]
    have hlt3:=p3.hi
    clear hf3 fHN
    simp(disch:=(try simp only[hN]);omega)only[go_sem,simprocAttr,tokAV,b3]
    generalize hHH:AHeap.upd h3 (h.n+1) _ _=HC
    have hnHC:HC.n=h3.n:=by rw[←hHH];simp(disch:=(try simp only[hN]);omega)only[go_sem,simprocAttr]
    have bHC:HC.get (h.n+1)=some ⟨2,.cells .own 0 [.int .i64 0,.int .i64 (P:Int),.str tk.text,.int .i64 0,.int .i64 0,.int .i64 0,.int .i64 0,.int .u64 0,.nilSlice]⟩:=by rw[←hHH];simp(disch:=(try simp only[hN]);omega)only[go_sem,simprocAttr]
    have qHC:HC.get h.n=some ⟨0,.cells .own 0 zN⟩:=by rw[←hHH];simp(disch:=(try simp only[hN]);omega)only[go_sem,simprocAttr,q3']
    have pHC:RInv HC r E all nx3 e3 q3:=by
     rw[←hHH]
     exact p3.le (by simp only[hN];omega) fun b hb=>by simp(disch:=(try simp only[hN]);omega)only[go_sem,simprocAttr]
    have fHC:∀b',b'<h.n→b'≠r→HC.get b'=h.get b':=fun b' hb1 hb2=>by rw[←hHH];simp(disch:=(try simp only[hN]);omega)only[go_sem,simprocAttr,f3]
    clear hHH
    refine eat_tok (by decide) pHC ?_
    refine EatQ.all ?_
    intro h4 nx4 e4 q4 hf4 p4 s4
    have hn4:=hf4.n;try simp only[hN] at hn4
    have b4:=(hf4.old (h.n+1) (by omega) (by omega)).trans bHC
    have q4':=(hf4.old h.n (by omega) (by omega)).trans qHC
    have f4:∀b',b'<h.n→b'≠r→h4.get b'=h.get b':=fun b' hb1 hb2=>by simp(disch:=(try simp only[hN]);omega)only[go_sem,simprocAttr,hf4.old,fHC]
    clear hf4 fHC
    simp(disch:=(try simp only[hN]);omega)only[go_sem,simprocAttr]
    refine rexpr_st (fun _=>hlv) p4 ?_
    intro h5 n kv nx5 e5 q5 hf5 hp5 f1 f2 st5 hk5
    have hn5:=hf5.n;try simp only[hN] at hn5
    have b5:=(hf5.old (h.n+1) (by omega) (by omega)).trans b4
    have q5':=(hf5.old h.n (by omega) (by omega)).trans q4'
    simp(disch:=(try simp only[hN]);omega)only[go_sem,simprocAttr,f1,f2,b5,ne_bs g_send,ne_bs g_add]
    have s1:StA all 0 q (simpleP E lv (all.drop nx)) (nd0 19 P tk.text [n]) nx5 e5 q5:=by
     refine ⟨fun he=>?_,fun he=>absurd rfl he⟩
     rcases st3.1 rfl with ⟨h0,rfl,w0⟩|⟨h0,w0⟩
     ·skip
      rcases s4.1 h0 with ⟨h1,rfl,w1⟩|⟨h1,w1⟩
      ·skip
       rcases st5.1 h1 with ⟨h2,rfl,w2⟩|⟨h2,w2⟩
       ·skip
        exact .inl ⟨h2,rfl,by simp only[hS,namedP,show ¬((1:Nat)=0) by decide,eq_self,if_false,if_true,hT1,w0,w1,w2,hP]<;>rfl⟩
       ·skip
        exact .inr ⟨h2,by simp only[hS,namedP,show ¬((1:Nat)=0) by decide,eq_self,if_false,if_true,hT1,w0,w1,w2]<;>rfl⟩
      ·skip
       obtain ⟨rfl,rfl⟩:=st5.2 h1
       exact .inr ⟨h1,by simp only[hS,namedP,show ¬((1:Nat)=0) by decide,eq_self,if_false,if_true,hT1,w0,w1]<;>rfl⟩
     ·skip
      obtain ⟨rfl,rfl⟩:=s4.2 h0
      obtain ⟨rfl,rfl⟩:=st5.2 h0
      exact .inr ⟨h0,by simp only[hS,namedP,show ¬((1:Nat)=0) by decide,eq_self,if_false,if_true,hT1,w0]<;>rfl⟩
    refine ⟨nd0 19 P tk.text [n],_,nx5,e5,q5,_,hs0,rfl,rfl,rfl,?_,?_,?_,?_,s1,fun h0=>?_⟩
    ·exact q5'
    ·omega
    ·exact hp5.le (by simp only[hN];omega) fun b hb=>by simp(disch:=(try simp only[hN]);omega)only[go_sem,simprocAttr]
    ·exact fun b' hb1 hb2=>by simp(disch:=(try simp only[hN]);omega)only[go_sem,simprocAttr,hf5.old,f4]
    ·exact KidsR.one (n:=n) (ver:=0) (kv:=kv) ((hk5 h0).keep (by omega) (by simp only[hN];omega) fun b hb1 hb2=>by simp(disch:=(try simp only[hN]);omega)only[go_sem,simprocAttr]) (by omega) (by simp only[hN];omega) (by simp(disch:=(try simp only[hN]);omega)only[go_sem,simprocAttr])
   simp(disch:=(try simp only[hN]);omega)only[go_sem,simprocAttr,ne_bs g_put]
   by_cases g_recv:seesT 0 (all.drop nx)=[114,101,99,118]
   ·obtain ⟨_,hnx,k2,ht⟩:=sees_word (E:=E) hmk rfl (by decide) g_recv
    have hS:simpleP E lv (all.drop nx)=namedP E 17 2 lv (all.drop nx):=by simp [simpleP,k2,ht]
    simp(disch:=(try simp only[hN]);omega)only[go_sem,simprocAttr,eq_bs g_recv,r1,i1,b1]
    generalize hHH:AHeap.upd h1 r _ _=HN
    have hnHN:HN.n=h1.n:=by rw[←hHH];simp(disch:=(try simp only[hN]);omega)only[go_sem,simprocAttr]
    have bHN:HN.get (h.n+1)=some ⟨1,.cells .own 0 [.int .i64 0,.int .i64 (P:Int),.str [],.int .i64 0,.int .i64 0,.int .i64 0,.int .i64 0,.int .u64 0,.nilSlice]⟩:=by rw[←hHH];simp(disch:=(try simp only[hN]);omega)only[go_sem,simprocAttr,b1]
    have qHN:HN.get h.n=some ⟨0,.cells .own 0 zN⟩:=by rw[←hHH];simp(disch:=(try simp only[hN]);omega)only[go_sem,simprocAttr,q1]
    have pHN:RInv HN r E all (nx+1) 0 q:=by
     rw[←hHH]
     exact p1.step2 (ver:=ver1) (ver':=ver1+1) (by simp only[hN];omega) (fun b hb=>by simp(disch:=(try simp only[hN]);omega)only[go_sem,simprocAttr]) (by omega) r1 (by simp(disch:=(try simp only[hN]);omega)only[go_sem,simprocAttr])
    have fHN:∀b',b'<h.n→b'≠r→HN.get b'=h.get b':=fun b' hb1 hb2=>by rw[←hHH];simp(disch:=(try simp only[hN]);omega)only[go_sem,simprocAttr,f1']
    clear hHH
    refine token_tok (k:=1) (by decide) pHN ?_
    refine TokQ'.all ?_
    intro h3 nx3 e3 q3 tk hf3 p3 st3
    have hn3:=hf3.n;try simp only[hN] at hn3
    have b3:=(hf3.old (h.n+1) (by omega) (by omega)).trans bHN
    have q3':=(hf3.old h.n (by omega) (by omega)).trans qHN
    have f3:∀b',b'<h.n→b'≠r→h3.get b'=h.get b':=fun b' hb1 hb2=>by simp(disch:=(try simp only[hN]);omega)only[go_sem,simprocAttr,hf3.old,fHN]
    have hlt3:=p3.hi
    clear hf3 fHN
    simp(disch:=(try simp only[hN]);omega)only[go_sem,simprocAttr,tokAV,b3]
    generalize hHH:AHeap.upd h3 (h.n+1) _ _=HC
    have hnHC:HC.n=h3.n:=by rw[←hHH];simp(disch:=(try simp only[hN]);omega)only[go_sem,simprocAttr]
    have bHC:HC.get (h.n+1)=some ⟨2,.cells .own 0 [.int .i64 0,.int .i64 (P:Int),.str tk.text,.int .i64 0,.int .i64 0,.int .i64 0,.int .i64 0,.int .u64 0,.nilSlice]⟩:=by rw[←hHH];simp(disch:=(try simp only[hN]);omega)only[go_sem,simprocAttr]
    have qHC:HC.get h.n=some ⟨0,.cells .own 0 zN⟩:=by rw[←hHH];simp(disch:=(try simp only[hN]);omega)only[go_sem,simprocAttr,q3']
    have pHC:RInv HC r E all nx3 e3 q3:=by
     rw[←hHH]
     exact p3.le (by simp only[hN];omega) fun b hb=>by simp(disch:=(try simp only[hN]);omega)only[go_sem,simprocAttr]
    have fHC:∀b',b'<h.n→b'≠r→HC.get b'=h.get b':=fun b' hb1 hb2=>by rw[←hHH];simp(disch:=(try simp only[hN]);omega)only[go_sem,simprocAttr,f3]
    clear hHH
    refine eat_tok (by decide) pHC ?_
    refine EatQ.all ?_
    intro h4 nx4 e4 q4 hf4 p4 s4
    have hn4:=hf4.n;try simp only[hN] at hn4
    have b4:=(hf4.old (h.n+1) (by omega) (by omega)).trans bHC
    have q4':=(hf4.old h.n (by omega) (by omega)).trans qHC
    have f4:∀b',b'<h.n→b'≠r→h4.get b'=h.get b':=fun b' hb1 hb2=>by simp(disch:=(try simp only[hN]);omega)only[go_sem,simprocAttr,hf4.old,fHC]
    clear hf4 fHC
    simp(disch:=(try simp only[hN]);omega)only[go_sem,simprocAttr]
    refine rtarget_st hlv p4 ?_
    intro h5 n kv nx5 e5 q5 hf5 hp5 f1 f2 st5 hk5
    have hn5:=hf5.n;try simp only[hN] at hn5
    have b5:=(hf5.old (h.n+1) (by omega) (by omega)).trans b4
    have q5':=(hf5.old h.n (by omega) (by omega)).trans q4'
    simp(disch:=(try simp only[hN]);omega)only[go_sem,simprocAttr,f1,f2,b5,eq_bs g_recv]
    have s1:StA all 0 q (simpleP E lv (all.drop nx)) (nd0 17 P tk.text [n]) nx5 e5 q5:=by
     refine ⟨fun he=>?_,fun he=>absurd rfl he⟩
     rcases st3.1 rfl with ⟨h0,rfl,w0⟩|⟨h0,w0⟩
     ·skip
      rcases s4.1 h0 with ⟨h1,rfl,w1⟩|⟨h1,w1⟩
      ·skip
       rcases st5.1 h1 with ⟨h2,rfl,w2⟩|⟨h2,w2⟩
       ·skip
        exact .inl ⟨h2,rfl,by simp only[hS,namedP,show ¬((2:Nat)=0) by decide,show ¬((2:Nat)=1) by decide,if_false,if_true,hT1,w0,w1,w2,hP]<;>rfl⟩
       ·skip
        exact .inr ⟨h2,by simp only[hS,namedP,show ¬((2:Nat)=0) by decide,show ¬((2:Nat)=1) by decide,if_false,if_true,hT1,w0,w1,w2]<;>rfl⟩
      ·skip
       obtain ⟨rfl,rfl⟩:=st5.2 h1
       exact .inr ⟨h1,by simp only[hS,namedP,show ¬((2:Nat)=0) by decide,show ¬((2:Nat)=1) by decide,if_false,if_true,hT1,w0,w1]<;>rfl⟩
     ·skip
      obtain ⟨rfl,rfl⟩:=s4.2 h0
      obtain ⟨rfl,rfl⟩:=st5.2 h0
      exact .inr ⟨h0,by simp only[hS,namedP,show ¬((2:Nat)=0) by decide,show ¬((2:Nat)=1) by decide,if_false,if_true,hT1,w0]<;>rfl⟩
    refine ⟨nd0 17 P tk.text [n],_,nx5,e5,q5,_,hs0,rfl,rfl,rfl,?_,?_,?_,?_,s1,fun h0=>?_⟩
    ·exact q5'
    ·omega
    ·exact hp5.le (by simp only[hN];omega) fun b hb=>by simp(disch:=(try simp only[hN]);omega)only[go_sem,simprocAttr]
    ·exact fun b' hb1 hb2=>by simp(disch:=(try simp only[hN]);omega)only[go_sem,simprocAttr,hf5.old,f4]
    ·exact KidsR.one (n:=n) (ver:=0) (kv:=kv) ((hk5 h0).keep (by omega) (by simp only[hN];omega) fun b hb1 hb2=>by simp(disch:=(try simp only[hN]);omega)only[go_sem,simprocAttr]) (by omega) (by simp only[hN];omega) (by simp(disch:=(try simp only[hN]);omega)only[go_sem,simprocAttr])
   simp(disch:=(try simp only[hN]);omega)only[go_sem,simprocAttr,ne_bs g_recv]
   by_cases g_get:seesT 0 (all.drop nx)=[103,101,116]
   ·obtain ⟨_,hnx,k2,ht⟩:=sees_word (E:=E) hmk rfl (by decide) g_get
    have hS:simpleP E lv (all.drop nx)=namedP E 20 2 lv (all.drop nx):=by simp [simpleP,k2,ht]
    simp(disch:=(try simp only[hN]);omega)only[go_sem,simprocAttr,eq_bs g_get,r1,i1,b1]
    generalize hHH:AHeap.upd h1 r _ _=HN
    have hnHN:HN.n=h1.n:=by rw[←hHH];simp(disch:=(try simp only[hN]);omega)only[go_sem,simprocAttr]
    have bHN:HN.get (h.n+1)=some ⟨1,.cells .own 0 [.int .i64 0,.int .i64 (P:Int),.str [],.int .i64 0,.int .i64 0,.int .i64 0,.int .i64 0,.int .u64 0,.nilSlice]⟩:=by rw[←hHH];simp(disch:=(try simp only[hN]);omega)only[go_sem,simprocAttr,b1]
    have qHN:HN.get h.n=some ⟨0,.cells .own 0 zN⟩:=by rw[←hHH];simp(disch:=(try simp only[hN]);omega)only[go_sem,simprocAttr,q1]
    have pHN:RInv HN r E all (nx+1) 0 q:=by
     rw[←hHH]
     exact p1.step2 (ver:=ver1) (ver':=ver1+1) (by simp only[hN];omega) (fun b hb=>by simp(disch:=(try simp only[hN]);omega)only[go_sem,simprocAttr]) (by omega) r1 (by simp(disch:=(try simp only[hN]);omega)only[go_sem,simprocAttr])
    have fHN:∀b',b'<h.n→b'≠r→HN.get b'=h.get b':=fun b' hb1 hb2=>by rw[←hHH];simp(disch:=(try simp only[hN]);omega)only[go_sem,simprocAttr,f1']
    clear hHH
    refine token_tok (k:=1) (by decide) pHN ?_
    refine TokQ'.all ?_
    intro h3 nx3 e3 q3 tk hf3 p3 st3
    have hn3:=hf3.n;try simp only[hN] at hn3
    have b3:=(hf3.old (h.n+1) (by omega) (by omega)).trans bHN
    have q3':=(hf3.old h.n (by omega) (by omega)).trans qHN
    have f3:∀b',b'<h.n→b'≠r→h3.get b'=h.get b':=fun b' hb1 hb2=>by simp(disch:=(try simp only[hN]);omega)only[go_sem,simprocAttr,hf3.old,fHN]
    have hlt3:=p3.hi
    clear hf3 fHN
    simp(disch:=(try simp only[hN]);omega)only[go_sem,simprocAttr,tokAV,b3]
    generalize hHH:AHeap.upd h3 (h.n+1) _ _=HC
    have hnHC:HC.n=h3.n:=by rw[←hHH];simp(disch:=(try simp only[hN]);omega)only[go_sem,simprocAttr]
    have bHC:HC.get (h.n+1)=some ⟨2,.cells .own 0 [.int .i64 0,.int .i64 (P:Int),.str tk.text,.int .i64 0,.int .i64 0,.int .i64 0,.int .i64 0,.int .u64 0,.nilSlice]⟩:=by rw[←hHH];simp(disch:=(try simp only[hN]);omega)only[go_sem,simprocAttr]
    have qHC:HC.get h.n=some ⟨0,.cells .own 0 zN⟩:=by rw[←hHH];simp(disch:=(try simp only[hN]);omega)only[go_sem,simprocAttr,q3']
    have pHC:RInv HC r E all nx3 e3 q3:=by
     rw[←hHH]
     exact p3.le (by simp only[hN];omega) fun b hb=>by simp(disch:=(try simp only[hN]);omega)only[go_sem,simprocAttr]
    have fHC:∀b',b'<h.n→b'≠r→HC.get b'=h.get b':=fun b' hb1 hb2=>by rw[←hHH];simp(disch:=(try simp only[hN]);omega)only[go_sem,simprocAttr,f3]
    clear hHH
    refine eat_tok (by decide) pHC ?_
    refine EatQ.all ?_
    intro h4 nx4 e4 q4 hf4 p4 s4
    have hn4:=hf4.n;try simp only[hN] at hn4
    have b4:=(hf4.old (h.n+1) (by omega) (by omega)).trans bHC
    have q4':=(hf4.old h.n (by omega) (by omega)).trans qHC
    have f4:∀b',b'<h.n→b'≠r→h4.get b'=h.get b':=fun b' hb1 hb2=>by simp(disch:=(try simp only[hN]);omega)only[go_sem,simprocAttr,hf4.old,fHC]
    clear hf4 fHC
    simp(disch:=(try simp only[hN]);omega)only[go_sem,simprocAttr]
    refine rtarget_st hlv p4 ?_
    intro h5 n kv nx5 e5 q5 hf5 hp5 f1 f2 st5 hk5
    have hn5:=hf5.n;try simp only[hN] at hn5
    have b5:=(hf5.old (h.n+1) (by omega) (by omega)).trans b4
    have q5':=(hf5.old h.n (by omega) (by omega)).trans q4'
    simp(disch:=(try simp only[hN]);omega)only[go_sem,simprocAttr,f1,f2,b5,ne_bs g_recv]
    have s1:StA all 0 q (simpleP E lv (all.drop nx)) (nd0 20 P tk.text [n]) nx5 e5 q5:=by
     refine ⟨fun he=>?_,fun he=>absurd rfl he⟩
     rcases st3.1 rfl with ⟨h0,rfl,w0⟩|⟨h0,w0⟩
     ·skip
      rcases s4.1 h0 with ⟨h1,rfl,w1⟩|⟨h1,w1⟩
      ·skip
       rcases st5.1 h1 with ⟨h2,rfl,w2⟩|⟨h2,w2⟩
       ·skip
        exact .inl ⟨h2,rfl,by simp only[hS,namedP,show ¬((2:Nat)=0) by decide,show ¬((2:Nat)=1) by decide,if_false,if_true,hT1,w0,w1,w2,hP]<;>rfl⟩
       ·skip
        exact .inr ⟨h2,by simp only[hS,namedP,show ¬((2:Nat)=0) by decide,show ¬((2:Nat)=1) by decide,if_false,if_true,hT1,w0,w1,w2]<;>rfl⟩
      ·skip
       obtain ⟨rfl,rfl⟩:=st5.2 h1
       exact .inr ⟨h1,by simp only[hS,namedP,show ¬((2:Nat)=0) by decide,show ¬((2:Nat)=1) by decide,if_false,if_true,hT1,w0,w1]<;>rfl⟩
     ·skip
      obtain ⟨rfl,rfl⟩:=s4.2 h0
      obtain ⟨rfl,rfl⟩:=st5.2 h0
      exact .inr ⟨h0,by simp only[hS,namedP,show ¬((2:Nat)=0) by decide,show ¬((2:Nat)=1) by decide,if_false,if_true,hT1,w0]<;>rfl⟩
    refine ⟨nd0 20 P tk.text [n],_,nx5,e5,q5,_,hs0,rfl,rfl,rfl,?_,?_,?_,?_,s1,fun h0=>?_⟩
    ·exact q5'
    ·omega
    ·exact hp5.le (by simp only[hN];omega) fun b hb=>by simp(disch:=(try simp only[hN]);omega)only[go_sem,simprocAttr]
    ·exact fun b' hb1 hb2=>by simp(disch:=(try simp only[hN]);omega)only[go_sem,simprocAttr,hf5.old,f4]
    ·exact KidsR.one (n:=n) (ver:=0) (kv:=kv) ((hk5 h0).keep (by omega) (by simp only[hN];omega) fun b hb1 hb2=>by simp(disch:=(try simp only[hN]);omega)only[go_sem,simprocAttr]) (by omega) (by simp only[hN];omega) (by simp(disch:=(try simp only[hN]);omega)only[go_sem,simprocAttr])
   simp(disch:=(try simp only[hN]);omega)only[go_sem,simprocAttr,ne_bs g_get]
   have hE:simpleP E lv (all.drop nx)=.error (2,P):=by
    unfold simpleP
    rw[if_neg k1]
    by_cases k2:(hdT E (all.drop nx)).kind=2
    ·rw[if_neg (by omega),if_neg fun h=>g_go (sees_of k2 h),if_neg fun h=>g_lock (sees_of k2 h),if_neg fun h=>g_unlock (sees_of k2 h),if_neg fun h=>g_send (sees_of k2 h),if_neg fun h=>g_recv (sees_of k2 h),if_neg fun h=>g_add (sees_of k2 h),if_neg fun h=>g_put (sees_of k2 h),if_neg fun h=>g_get (sees_of k2 h),if_neg fun h=>g_return (sees_of k2 h)]
     have hfl:¬isT [[102,97,105,108]] (all.drop nx)=true:=by rw[←seesT_is (by decide)];intro h;exact g_fail (eq_of_beq h)
     simp only[failP,mustP,if_neg hfl,hP]
    ·rw[if_pos k2,hP]
   refine fail_tok (k:=2) p1 ?_
   intro h3 hf3 p3
   have hn3:=hf3.n;try simp only[hN] at hn3
   rw[if_pos rfl,if_pos rfl] at p3
   have b3:=(hf3.old (h.n+1) (by omega) (by omega)).trans b1
   have q3':=(hf3.old h.n (by omega) (by omega)).trans q1
   have f3:∀b',b'<h.n→b'≠r→h3.get b'=h.get b':=fun b' hb1 hb2=>by simp(disch:=(try simp only[hN]);omega)only[go_sem,simprocAttr,hf3.old,f1']
   simp(disch:=(try simp only[hN]);omega)only[go_sem,simprocAttr]
   have s1:StA all 0 q (simpleP E lv (all.drop nx)) (.mk 0 P [] 0 0 0 0 0 []) nx 2 (hdT E (all.drop nx)).pos:=⟨fun _=>.inr ⟨by decide,by rw[hE,hP]⟩,fun h=>absurd rfl h⟩
   exact ⟨.mk 0 P [] 0 0 0 0 0 [],.nilSlice,nx,2,_,1,hs0,b3,rfl,rfl,q3',by omega,p3,f3,s1,fun h=>by cases h⟩
  ·skip
   rintro ⟨t,df⟩ X ⟨n,v,nx',e',q',v2,hs0,bX,f1,f2,qX,hnX,pX,hfX,st,hk,k0,k4,k5,hdf⟩
   simp only at k0 k4 k5 hdf
   subst hdf
   simp(disch:=(try simp only[hN]);omega)only[go_sem,simprocAttr,k0,k4,k5]
   refine eat_tok (by decide) pX ?_
   refine EatQ.all ?_
   intro Y nxY eY qY hfY pY s2
   have hnY:=hfY.n;try simp only[hN] at hnY
   have bY:=(hfY.old (h.n+1) (by omega) (by omega)).trans bX
   have qY0:=(hfY.old h.n (by omega) (by omega)).trans qX
   have hltY:=pY.hi
   simp(disch:=(try simp only[hN]);omega)only[go_sem,simprocAttr,k0,k4,k5,bY,qY0,f1,f2,ndC,zN]
   refine hQ _ n v nxY eY qY ?_ ?_ f1 f2 (semi_st hs0 st s2) fun h0=>?_
   ·exact ⟨by (try simp only[hN]);omega,fun b hb hne=>by (try simp only[hN] at hb hne);simp(disch:=(try simp only[hN]);omega)only[go_sem,simprocAttr,hfY.old,hfX]⟩
   ·exact pY.le (by simp only[hN];omega) fun b hb=>by simp(disch:=(try simp only[hN]);omega)only[go_sem,simprocAttr]
   ·refine ((hk ?_).fr hfY (.inl hlt)).keep9 (Nat.le_refl _) (by simp only[hN];omega) fun b _ _ _ hb1 hb2 hb3=>?_
    ·by_cases he':e'=0
     ·exact he'
     ·have:=(s2.2 he').1;omega
    ·have:b≠h.n:=by rintro rfl;rw[qY0] at hb3;cases hb3
     simp(disch:=(try simp only[hN]);omega)only[go_sem,simprocAttr]
theorem rblockP_tok {E:Nat}:∀f,RSpecB f 60 E (blockP E f)
 | 0=>fun _ _ _ h=>absurd h (Nat.not_lt_zero _)
 | f+1=>fun h1 h2 h3 h4 h5=>rblock_tok (rstmt_tok (rblockP_tok f) (blockP_fine f)) (stmtP_fine (blockP_fine f)) h1 h2 h3 h4 h5
def MkT (t:Tok):Prop:=(t.kind=5→∀c r,t.text=c::r→isLetter c=false)∧(t.kind=2→∀c r,t.text=c::r→isLetter c=true)
theorem next_mk {N:Nat} {l r:Bs} {t:Tok} (h:nextTok N l=.ok (t,r)):MkT t:=by
 cases l with
 | nil=>cases h
 | cons c l=>
  simp only[nextTok] at h
  split at h
  ·rename_i hc
   simp only[wordTok] at h
   split at h
   ·cases h
   ·cases h
    refine ⟨fun hk=>?_,fun _ c' r' ht=>?_⟩
    ·simp only at hk;split at hk<;>cases hk
    ·simp only[List.takeWhile_cons] at ht
     split at ht
     ·cases ht;exact hc
     ·cases ht
  ·rename_i hc
   split at h
   ·rw[numTok_eq] at h
    split at h
    ·obtain ⟨rfl,_,_⟩:=aloneE_ok h
     exact ⟨fun hk=>(by cases hk),fun hk=>(by cases hk)⟩
    ·cases h
   ·split at h
    ·simp only[fltTok] at h
     split at h
     ·obtain ⟨rfl,_,_⟩:=aloneE_ok h
      exact ⟨fun hk=>(by cases hk),fun hk=>(by cases hk)⟩
     ·cases h
    ·have hc':isLetter c=false:=by simpa using hc
     simp only[markTok] at h
     split at h
     ·cases h
      refine ⟨fun _ c' r' ht=>?_,fun hk=>by cases hk⟩
      simp only[List.take_succ_cons] at ht
      cases ht;exact hc'
     ·split at h
      ·cases h
       refine ⟨fun _ c' r' ht=>?_,fun hk=>by cases hk⟩
       cases ht;exact hc'
      ·cases h
theorem toksL_mk {N:Nat}:∀(f:Nat) (l:Bs) (n:Nat) (ts:List Tok),toksL N f l n=.ok ts→∀t∈ts,MkT t
 | 0,_,_,_,h=>by cases h
 | f+1,l,n,ts,h=>by
  simp only[toksL] at h
  split at h
  ·cases h;intro t ht;cases ht
  ·split at h
   ·cases h
   ·cases hx:nextTok N l with
    | error e=>rw[hx] at h;cases h
    | ok x=>
     obtain ⟨t,r⟩:=x
     rw[hx] at h
     simp only at h
     cases hy:toksL N f (skip r) (n+1) with
     | error e=>rw[hy] at h;cases h
     | ok us=>
      rw[hy] at h
      cases h
      intro t' ht
      rcases List.mem_cons.1 ht with rfl|ht
      ·exact next_mk hx
      ·exact toksL_mk f _ _ _ hy t' ht
theorem tokens_mk {s:Bs} {ts:List Tok} (h:tokens s=.ok ts):MkOk ts:=by
 unfold tokens at h
 split at h
 ·cases h
 ·exact toksL_mk _ _ _ _ h
end Go.Ev
