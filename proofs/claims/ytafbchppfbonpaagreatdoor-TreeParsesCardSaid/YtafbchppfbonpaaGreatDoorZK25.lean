/- The tree's reader: expressions. -/
import Derived.Test.YtafbchppfbonpaaGreatDoorZK21
import Derived.Test.YtafbchppfbonpaaGreatDoorEvB
import Derived.Test.YtafbchppfbonpaaGreatDoorPuA
set_option linter.all false
set_option linter.unusedVariables false
set_option linter.unusedSimpArgs false
namespace Go.Ev
open Go
set_option maxRecDepth 100000
set_option maxHeartbeats 4000000
theorem prod_tok {E:Nat} {u:PT} (hu:PSpec 88 E u):PSpec 85 E (rowP true [[42],[47],[37]] u):=by
 intro h r lv ts Q hp hz hQ
 refine WF.code F85 rfl ?_
 have hlt:=hp.hi
 simp(disch:=(try simp only[hN]);omega)only[go_sem,simprocAttr,List.map]
 refine row_tok (ops:=[[42],[47],[37]]) (ver:=0) hu (hp.fr (h':=(h.alloc (.cells .own 0 [.int .i64 0,.int .i64 0,.str [],.int .i64 0,.int .i64 0,.int .i64 0,.int .i64 0,.int .u64 0,.nilSlice])).alloc (.cells .own 1 (List.map .str [[42],[47],[37]]))) ⟨by (try simp only[hN]);omega,fun b hb hne=>by (try simp only[hN] at hb hne);simp(disch:=(try simp only[hN]);omega)only[go_sem,simprocAttr]⟩) (by (first|(simp(disch:=(try simp only[hN]);omega)only[go_sem,simprocAttr,List.map];done)|(simp(disch:=(try simp only[hN]);omega)only[go_sem,simprocAttr,List.map];rfl))) (by simp only[hN];omega) (by omega) (show 3<2^62 by decide) hz ?_
 cases hy:rowP true [[42],[47],[37]] u lv ts with
 | error e=>
  obtain ⟨e,p⟩:=e
  rw[hy] at hQ
  intro h2 hf2
  have hn2:=hf2.n;try simp only[hN] at hn2
  simp(disch:=(try simp only[hN]);omega)only[go_sem,simprocAttr]
  exact hQ _ ⟨by (try simp only[hN]);omega,fun b hb hne=>by (try simp only[hN] at hb hne);simp(disch:=(try simp only[hN]);omega)only[go_sem,simprocAttr,hf2.old]⟩
 | ok y=>
  obtain ⟨k,ts2⟩:=y
  rw[hy] at hQ
  intro h2 kv hf2 hp2 hk2
  have hn2:=hf2.n;try simp only[hN] at hn2
  have q3:h2.get h.n=some ⟨0,.cells .own 0 [.int .i64 0,.int .i64 0,.str [],.int .i64 0,.int .i64 0,.int .i64 0,.int .i64 0,.int .u64 0,.nilSlice]⟩:=by simp(disch:=(try simp only[hN]);omega)only[go_sem,simprocAttr,hf2.old]
  simp(disch:=(try simp only[hN]);omega)only[go_sem,simprocAttr,q3,hk2.flat.1,hk2.flat.2]
  exact hQ _ kv ⟨by (try simp only[hN]);omega,fun b hb hne=>by (try simp only[hN] at hb hne);simp(disch:=(try simp only[hN]);omega)only[go_sem,simprocAttr,hf2.old]⟩ (hp2.fr' (q:=h.n) (Fr.upd _ _ _) hlt) (hk2.keep (by simp only[hN];omega) (by simp(disch:=(try simp only[hN]);omega)only[go_sem,simprocAttr];exact Nat.le_refl _) fun b hb1 hb2=>by simp only[AHeap.alloc_n] at hb1;simp(disch:=(try simp only[hN]);omega)only[go_sem,simprocAttr])
theorem sum_tok {E:Nat} {u:PT} (hu:PSpec 85 E u):PSpec 75 E (rowP true [[43],[45]] u):=by
 intro h r lv ts Q hp hz hQ
 refine WF.code F75 rfl ?_
 have hlt:=hp.hi
 simp(disch:=(try simp only[hN]);omega)only[go_sem,simprocAttr,List.map]
 refine row_tok (ops:=[[43],[45]]) (ver:=0) hu (hp.fr (h':=(h.alloc (.cells .own 0 [.int .i64 0,.int .i64 0,.str [],.int .i64 0,.int .i64 0,.int .i64 0,.int .i64 0,.int .u64 0,.nilSlice])).alloc (.cells .own 1 (List.map .str [[43],[45]]))) ⟨by (try simp only[hN]);omega,fun b hb hne=>by (try simp only[hN] at hb hne);simp(disch:=(try simp only[hN]);omega)only[go_sem,simprocAttr]⟩) (by (first|(simp(disch:=(try simp only[hN]);omega)only[go_sem,simprocAttr,List.map];done)|(simp(disch:=(try simp only[hN]);omega)only[go_sem,simprocAttr,List.map];rfl))) (by simp only[hN];omega) (by omega) (show 2<2^62 by decide) hz ?_
 cases hy:rowP true [[43],[45]] u lv ts with
 | error e=>
  obtain ⟨e,p⟩:=e
  rw[hy] at hQ
  intro h2 hf2
  have hn2:=hf2.n;try simp only[hN] at hn2
  simp(disch:=(try simp only[hN]);omega)only[go_sem,simprocAttr]
  exact hQ _ ⟨by (try simp only[hN]);omega,fun b hb hne=>by (try simp only[hN] at hb hne);simp(disch:=(try simp only[hN]);omega)only[go_sem,simprocAttr,hf2.old]⟩
 | ok y=>
  obtain ⟨k,ts2⟩:=y
  rw[hy] at hQ
  intro h2 kv hf2 hp2 hk2
  have hn2:=hf2.n;try simp only[hN] at hn2
  have q3:h2.get h.n=some ⟨0,.cells .own 0 [.int .i64 0,.int .i64 0,.str [],.int .i64 0,.int .i64 0,.int .i64 0,.int .i64 0,.int .u64 0,.nilSlice]⟩:=by simp(disch:=(try simp only[hN]);omega)only[go_sem,simprocAttr,hf2.old]
  simp(disch:=(try simp only[hN]);omega)only[go_sem,simprocAttr,q3,hk2.flat.1,hk2.flat.2]
  exact hQ _ kv ⟨by (try simp only[hN]);omega,fun b hb hne=>by (try simp only[hN] at hb hne);simp(disch:=(try simp only[hN]);omega)only[go_sem,simprocAttr,hf2.old]⟩ (hp2.fr' (q:=h.n) (Fr.upd _ _ _) hlt) (hk2.keep (by simp only[hN];omega) (by simp(disch:=(try simp only[hN]);omega)only[go_sem,simprocAttr];exact Nat.le_refl _) fun b hb1 hb2=>by simp only[AHeap.alloc_n] at hb1;simp(disch:=(try simp only[hN]);omega)only[go_sem,simprocAttr])
theorem cmp_tok {E:Nat} {u:PT} (hu:PSpec 75 E u):PSpec 61 E (rowP false [[61,61],[33,61],[60],[60,61],[62],[62,61]] u):=by
 intro h r lv ts Q hp hz hQ
 refine WF.code F61 rfl ?_
 have hlt:=hp.hi
 simp(disch:=(try simp only[hN]);omega)only[go_sem,simprocAttr,List.map]
 refine row_tok (ops:=[[61,61],[33,61],[60],[60,61],[62],[62,61]]) (ver:=0) hu (hp.fr (h':=(h.alloc (.cells .own 0 [.int .i64 0,.int .i64 0,.str [],.int .i64 0,.int .i64 0,.int .i64 0,.int .i64 0,.int .u64 0,.nilSlice])).alloc (.cells .own 1 (List.map .str [[61,61],[33,61],[60],[60,61],[62],[62,61]]))) ⟨by (try simp only[hN]);omega,fun b hb hne=>by (try simp only[hN] at hb hne);simp(disch:=(try simp only[hN]);omega)only[go_sem,simprocAttr]⟩) (by (first|(simp(disch:=(try simp only[hN]);omega)only[go_sem,simprocAttr,List.map];done)|(simp(disch:=(try simp only[hN]);omega)only[go_sem,simprocAttr,List.map];rfl))) (by simp only[hN];omega) (by omega) (show 6<2^62 by decide) hz ?_
 cases hy:rowP false [[61,61],[33,61],[60],[60,61],[62],[62,61]] u lv ts with
 | error e=>
  obtain ⟨e,p⟩:=e
  rw[hy] at hQ
  intro h2 hf2
  have hn2:=hf2.n;try simp only[hN] at hn2
  simp(disch:=(try simp only[hN]);omega)only[go_sem,simprocAttr]
  exact hQ _ ⟨by (try simp only[hN]);omega,fun b hb hne=>by (try simp only[hN] at hb hne);simp(disch:=(try simp only[hN]);omega)only[go_sem,simprocAttr,hf2.old]⟩
 | ok y=>
  obtain ⟨k,ts2⟩:=y
  rw[hy] at hQ
  intro h2 kv hf2 hp2 hk2
  have hn2:=hf2.n;try simp only[hN] at hn2
  have q3:h2.get h.n=some ⟨0,.cells .own 0 [.int .i64 0,.int .i64 0,.str [],.int .i64 0,.int .i64 0,.int .i64 0,.int .i64 0,.int .u64 0,.nilSlice]⟩:=by simp(disch:=(try simp only[hN]);omega)only[go_sem,simprocAttr,hf2.old]
  simp(disch:=(try simp only[hN]);omega)only[go_sem,simprocAttr,q3,hk2.flat.1,hk2.flat.2]
  exact hQ _ kv ⟨by (try simp only[hN]);omega,fun b hb hne=>by (try simp only[hN] at hb hne);simp(disch:=(try simp only[hN]);omega)only[go_sem,simprocAttr,hf2.old]⟩ (hp2.fr' (q:=h.n) (Fr.upd _ _ _) hlt) (hk2.keep (by simp only[hN];omega) (by simp(disch:=(try simp only[hN]);omega)only[go_sem,simprocAttr];exact Nat.le_refl _) fun b hb1 hb2=>by simp only[AHeap.alloc_n] at hb1;simp(disch:=(try simp only[hN]);omega)only[go_sem,simprocAttr])
theorem and_tok {E:Nat} {u:PT} (hu:PSpec 61 E u):PSpec 40 E (rowP true [[38,38]] u):=by
 intro h r lv ts Q hp hz hQ
 refine WF.code F40 rfl ?_
 have hlt:=hp.hi
 simp(disch:=(try simp only[hN]);omega)only[go_sem,simprocAttr,List.map]
 refine row_tok (ops:=[[38,38]]) (ver:=0) hu (hp.fr (h':=(h.alloc (.cells .own 0 [.int .i64 0,.int .i64 0,.str [],.int .i64 0,.int .i64 0,.int .i64 0,.int .i64 0,.int .u64 0,.nilSlice])).alloc (.cells .own 1 (List.map .str [[38,38]]))) ⟨by (try simp only[hN]);omega,fun b hb hne=>by (try simp only[hN] at hb hne);simp(disch:=(try simp only[hN]);omega)only[go_sem,simprocAttr]⟩) (by (first|(simp(disch:=(try simp only[hN]);omega)only[go_sem,simprocAttr,List.map];done)|(simp(disch:=(try simp only[hN]);omega)only[go_sem,simprocAttr,List.map];rfl))) (by simp only[hN];omega) (by omega) (show 1<2^62 by decide) hz ?_
 cases hy:rowP true [[38,38]] u lv ts with
 | error e=>
  obtain ⟨e,p⟩:=e
  rw[hy] at hQ
  intro h2 hf2
  have hn2:=hf2.n;try simp only[hN] at hn2
  simp(disch:=(try simp only[hN]);omega)only[go_sem,simprocAttr]
  exact hQ _ ⟨by (try simp only[hN]);omega,fun b hb hne=>by (try simp only[hN] at hb hne);simp(disch:=(try simp only[hN]);omega)only[go_sem,simprocAttr,hf2.old]⟩
 | ok y=>
  obtain ⟨k,ts2⟩:=y
  rw[hy] at hQ
  intro h2 kv hf2 hp2 hk2
  have hn2:=hf2.n;try simp only[hN] at hn2
  have q3:h2.get h.n=some ⟨0,.cells .own 0 [.int .i64 0,.int .i64 0,.str [],.int .i64 0,.int .i64 0,.int .i64 0,.int .i64 0,.int .u64 0,.nilSlice]⟩:=by simp(disch:=(try simp only[hN]);omega)only[go_sem,simprocAttr,hf2.old]
  simp(disch:=(try simp only[hN]);omega)only[go_sem,simprocAttr,q3,hk2.flat.1,hk2.flat.2]
  exact hQ _ kv ⟨by (try simp only[hN]);omega,fun b hb hne=>by (try simp only[hN] at hb hne);simp(disch:=(try simp only[hN]);omega)only[go_sem,simprocAttr,hf2.old]⟩ (hp2.fr' (q:=h.n) (Fr.upd _ _ _) hlt) (hk2.keep (by simp only[hN];omega) (by simp(disch:=(try simp only[hN]);omega)only[go_sem,simprocAttr];exact Nat.le_refl _) fun b hb1 hb2=>by simp only[AHeap.alloc_n] at hb1;simp(disch:=(try simp only[hN]);omega)only[go_sem,simprocAttr])
theorem expr_tok {E:Nat} {u:PT} (hu:PSpec 40 E u):PSpec 19 E (rowP true [[124,124]] u):=by
 intro h r lv ts Q hp hz hQ
 refine WF.code F19 rfl ?_
 have hlt:=hp.hi
 simp(disch:=(try simp only[hN]);omega)only[go_sem,simprocAttr,List.map]
 refine row_tok (ops:=[[124,124]]) (ver:=0) hu (hp.fr (h':=(h.alloc (.cells .own 0 [.int .i64 0,.int .i64 0,.str [],.int .i64 0,.int .i64 0,.int .i64 0,.int .i64 0,.int .u64 0,.nilSlice])).alloc (.cells .own 1 (List.map .str [[124,124]]))) ⟨by (try simp only[hN]);omega,fun b hb hne=>by (try simp only[hN] at hb hne);simp(disch:=(try simp only[hN]);omega)only[go_sem,simprocAttr]⟩) (by (first|(simp(disch:=(try simp only[hN]);omega)only[go_sem,simprocAttr,List.map];done)|(simp(disch:=(try simp only[hN]);omega)only[go_sem,simprocAttr,List.map];rfl))) (by simp only[hN];omega) (by omega) (show 1<2^62 by decide) hz ?_
 cases hy:rowP true [[124,124]] u lv ts with
 | error e=>
  obtain ⟨e,p⟩:=e
  rw[hy] at hQ
  intro h2 hf2
  have hn2:=hf2.n;try simp only[hN] at hn2
  simp(disch:=(try simp only[hN]);omega)only[go_sem,simprocAttr]
  exact hQ _ ⟨by (try simp only[hN]);omega,fun b hb hne=>by (try simp only[hN] at hb hne);simp(disch:=(try simp only[hN]);omega)only[go_sem,simprocAttr,hf2.old]⟩
 | ok y=>
  obtain ⟨k,ts2⟩:=y
  rw[hy] at hQ
  intro h2 kv hf2 hp2 hk2
  have hn2:=hf2.n;try simp only[hN] at hn2
  have q3:h2.get h.n=some ⟨0,.cells .own 0 [.int .i64 0,.int .i64 0,.str [],.int .i64 0,.int .i64 0,.int .i64 0,.int .i64 0,.int .u64 0,.nilSlice]⟩:=by simp(disch:=(try simp only[hN]);omega)only[go_sem,simprocAttr,hf2.old]
  simp(disch:=(try simp only[hN]);omega)only[go_sem,simprocAttr,q3,hk2.flat.1,hk2.flat.2]
  exact hQ _ kv ⟨by (try simp only[hN]);omega,fun b hb hne=>by (try simp only[hN] at hb hne);simp(disch:=(try simp only[hN]);omega)only[go_sem,simprocAttr,hf2.old]⟩ (hp2.fr' (q:=h.n) (Fr.upd _ _ _) hlt) (hk2.keep (by simp only[hN];omega) (by simp(disch:=(try simp only[hN]);omega)only[go_sem,simprocAttr];exact Nat.le_refl _) fun b hb1 hb2=>by simp only[AHeap.alloc_n] at hb1;simp(disch:=(try simp only[hN]);omega)only[go_sem,simprocAttr])
theorem exprOf_tok {E:Nat} {u:PT} (hu:PSpec 88 E u):PSpec 19 E (exprOf u):=expr_tok (and_tok (cmp_tok (sum_tok (prod_tok hu))))
theorem unary_tok {E:Nat} (f:Nat):PSpec 88 E (unP E f):=by
 induction f with
 | zero=>intro h r lv ts Q hp hz hQ;exact absurd rfl hz
 | succ f unary_ih=>
  intro h r lv ts Q hp hz hQ
  refine WF.code F88 rfl ?_
  have hlt:=hp.hi
  simp(disch:=(try simp only[hN]);omega)only[go_sem,simprocAttr]
  rw[unP] at hz hQ
  refine is_tok (ws:=[[45],[33]]) (md:=.own) (ver:=0) (E:=E) (ts:=ts) (lv:=lv) (hp.fr ⟨by (try simp only[hN]);omega,fun b hb hne=>by (try simp only[hN] at hb hne);simp(disch:=(try simp only[hN]);omega)only[go_sem,simprocAttr]⟩) (by (first|(simp(disch:=(try simp only[hN]);omega)only[go_sem,simprocAttr,List.map];done)|(simp(disch:=(try simp only[hN]);omega)only[go_sem,simprocAttr,List.map];rfl))) (by simp only[hN];omega) (show 2<2^62 by decide) ?_
  intro h1 hf1
  have hn1:=hf1.n;try simp only[hN] at hn1
  have hf:∀b',b'<h.n→h1.get b'=h.get b':=fun b' hb'=>by simp(disch:=(try simp only[hN]);omega)only[go_sem,simprocAttr,hf1.old]
  have q0:h1.get h.n=some ⟨0,.cells .own 0 [.int .i64 0,.int .i64 0,.str [],.int .i64 0,.int .i64 0,.int .i64 0,.int .i64 0,.int .u64 0,.nilSlice]⟩:=by simp(disch:=(try simp only[hN]);omega)only[go_sem,simprocAttr,hf1.old]
  have hp1:PInv h1 r E ts lv:=hp.fr ⟨by (try simp only[hN]);omega,fun b hb hne=>by (try simp only[hN] at hb hne);simp(disch:=(try simp only[hN]);omega)only[go_sem,simprocAttr,hf]⟩
  clear hf1
  by_cases hi:isT [[45],[33]] ts=true
  ·rw[if_pos hi] at hz hQ
   simp(disch:=(try simp only[hN]);omega)only[go_sem,simprocAttr,hi]
   refine here_tok (E:=E) (lv:=lv) (ts:=ts) hp1 ?_
   intro h2 hf2
   have hn2:=hf2.n;try simp only[hN] at hn2
   have hp2:=hp1.fr hf2
   simp(disch:=(try simp only[hN]);omega)only[go_sem,simprocAttr,tokAV]
   refine open_tok hp2 ?_
   have hop:isT [(hdT E ts).text] ts=true:=by
    cases ts with
    | nil=>exact absurd rfl (isT_ne hi)
    | cons t ts=>
     simp only[isT,Bool.and_eq_true] at hi ⊢
     exact ⟨hi.1,by simp [hdT]⟩
   rw[if_pos hop]
   by_cases h16:lv=16
   ·rw[if_pos h16] at hQ ⊢
    intro h6 hf6
    have hn6:=hf6.n;try simp only[hN] at hn6
    simp(disch:=(try simp only[hN]);omega)only[go_sem,simprocAttr]
    exact hQ _ ⟨by (try simp only[hN]);omega,fun b hb hne=>by (try simp only[hN] at hb hne);simp(disch:=(try simp only[hN]);omega)only[go_sem,simprocAttr,hf6.old,hf2.old,hf]⟩
   ·rw[if_neg h16] at hQ hz ⊢
    intro h6 hf6 hp6
    have hn6:=hf6.n;try simp only[hN] at hn6
    have hlt6:=hp6.hi
    have d1:decide (h6.n=h6.n+1)=false:=decide_eq_false (by omega)
    simp(disch:=(try simp only[hN]);omega)only[go_sem,simprocAttr,tokAV,d1]
    generalize hG:((h6.alloc (.cells .own 0 [.int .i64 0,.str [],.int .i64 0,.int .u64 0,.int .i64 0])).upd h6.n 1 (.cells .own 0 [.int .i64 ((hdT E ts).kind:Int),.str (hdT E ts).text,.int .i64 ((hdT E ts).n:Int),.int .u64 ((hdT E ts).bits:Int),.int .i64 ((hdT E ts).pos:Int)])).alloc (.cells .own 0 [.int .i64 0,.int .i64 0,.str [],.int .i64 0,.int .i64 0,.int .i64 0,.int .i64 0,.int .u64 0,.nilSlice])=G
    have hGn:G.n=h6.n+2:=by rw[←hG];simp(disch:=(try simp only[hN]);omega)only[go_sem,simprocAttr]
    have hG1:∀b',b'<h6.n→G.get b'=h6.get b':=fun b' hb'=>by rw[←hG];simp(disch:=(try simp only[hN]);omega)only[go_sem,simprocAttr]
    have hGt:G.get h6.n=some ⟨1,.cells .own 0 [.int .i64 ((hdT E ts).kind:Int),.str (hdT E ts).text,.int .i64 ((hdT E ts).n:Int),.int .u64 ((hdT E ts).bits:Int),.int .i64 ((hdT E ts).pos:Int)]⟩:=by rw[←hG];simp(disch:=(try simp only[hN]);omega)only[go_sem,simprocAttr]
    have hGz:G.get (h6.n+1)=some ⟨0,.cells .own 0 [.int .i64 0,.int .i64 0,.str [],.int .i64 0,.int .i64 0,.int .i64 0,.int .i64 0,.int .u64 0,.nilSlice]⟩:=by rw[←hG];simp(disch:=(try simp only[hN]);omega)only[go_sem,simprocAttr]
    have hpG:PInv G r E ts.tail (lv+1):=hp6.fr ⟨by omega,fun b hb _=>hG1 b hb⟩
    have q6:h6.get h.n=some ⟨0,.cells .own 0 [.int .i64 0,.int .i64 0,.str [],.int .i64 0,.int .i64 0,.int .i64 0,.int .i64 0,.int .u64 0,.nilSlice]⟩:=by rw[hf6.old _ (by omega) (by omega),hf2.old _ (by omega) (by omega)];exact q0
    have hf':∀b',b'<h.n→b'≠r→G.get b'=h.get b':=fun b' hb' hr'=>by rw[hG1 _ (by omega),hf6.old _ (by omega) hr',hf2.old _ (by omega) (by omega)];exact hf _ hb'
    have hlv:=hp6.lvl
    clear hf6 hf2 hf hG hp6 hp2 hp1 hop hi q0
    refine unary_ih hpG ?_ ?_
    ·intro e;rw[e] at hz;exact hz rfl
    cases hxx:unP E f (lv+1) ts.tail with
    | error e=>
     obtain ⟨e,p⟩:=e
     rw[hxx] at hQ
     intro h7 hf7
     have hn7:=hf7.n;try simp only[hN] at hn7
     have q7:h7.get h6.n=G.get h6.n:=hf7.old _ (by omega) (by omega)
     have q8:h7.get (h6.n+1)=G.get (h6.n+1):=hf7.old _ (by omega) (by omega)
     simp(disch:=(try simp only[hN]);omega)only[go_sem,simprocAttr,q7,q8,hGt,hGz]
     exact hQ _ ⟨by (try simp only[hN]);omega,fun b hb hne=>by (try simp only[hN] at hb hne);simp(disch:=(try simp only[hN]);omega)only[go_sem,simprocAttr,hf7.old,hf']⟩
    | ok y=>
     obtain ⟨k,ts2⟩:=y
     rw[hxx] at hQ hz
     intro h7 kv hf7 hp7 hk7
     have hn7:=hf7.n;try simp only[hN] at hn7
     have q7:h7.get h6.n=G.get h6.n:=hf7.old _ (by omega) (by omega)
     have q8:h7.get (h6.n+1)=G.get (h6.n+1):=hf7.old _ (by omega) (by omega)
     have q9:h7.get h.n=h6.get h.n:=by rw[hf7.old _ (by omega) (by omega)];exact hG1 _ (by omega)
     obtain ⟨vr,v,hr,ht⟩:=hp7.st
     have hlt7:=hp7.hi
     have ep:(((lv+1:Nat):Int)-1)=(lv:Int):=by omega
     have g1:(h6.n+1=r)=False:=by simp;omega
     have g2:(h.n=r)=False:=by simp;omega
     rw[q6] at q9
     rw[hGt] at q7
     rw[hGz] at q8
     simp(disch:=(try simp only[hN]);omega)only[go_sem,simprocAttr,q7,q8,q9,hGt,hGz,hk7.flat.1,hk7.flat.2,hr,ep]
     have hpa:=(hp7.fr (h':=h7.alloc (.cells .own 9 (ndC k kv))) ⟨by (try simp only[hN]);omega,fun b hb hne=>by (try simp only[hN] at hb hne);simp(disch:=(try simp only[hN]);omega)only[go_sem,simprocAttr]⟩).fr' (q:=h6.n+1) (Fr.upd _ 1 (.cells .own 0 [.int .i64 30,.int .i64 ((hdT E ts).pos:Int),.str (hdT E ts).text,.int .i64 0,.int .i64 0,.int .i64 0,.int .i64 0,.int .u64 0,.slice h7.n 0 1 1 true])) (by omega)
     have hpb:=hpa.step (lv':=lv) (ver:=vr+1) (v:=v) (ts':=ts2) (Fr.upd _ (vr+1) (.cells .own 0 [v,.int .i64 (E:Int),.int .i64 (lv:Int)])) (by simp(disch:=(try simp only[hN]);omega)only[go_sem,simprocAttr]) (ht.fr (q:=h6.n+1) (⟨by (try simp only[hN]);omega,fun b hb hne=>by (try simp only[hN] at hb hne);simp(disch:=(try simp only[hN]);omega)only[go_sem,simprocAttr]⟩:Fr (h6.n+1) h7 _) hlt7 (by omega)) (by omega)
     refine hQ _ _ ⟨by (try simp only[hN]);omega,fun b hb hne=>by (try simp only[hN] at hb hne);simp(disch:=(try simp only[hN]);omega)only[go_sem,simprocAttr,hf7.old,hf']⟩ (hpb.fr' (q:=h.n) (Fr.upd _ _ _) hlt) ?_
     exact KidsR.one (ver:=0) (kv:=kv) (hk7.keep (by omega) (by simp only[hN];omega) fun b hb1 hb2=>by simp(disch:=(try simp only[hN]);omega)only[go_sem,simprocAttr]) (by omega) (by simp only[hN];omega) (by simp(disch:=(try simp only[hN]);omega)only[go_sem,simprocAttr])
  ·rw[if_neg hi] at hz hQ
   have hi':isT [[45],[33]] ts=false:=by simpa using hi
   simp(disch:=(try simp only[hN]);omega)only[go_sem,simprocAttr,hi']
   refine prim_tok (exprOf_tok unary_ih) hp1 hz ?_
   cases hy:primP E (exprOf (unP E f)) lv ts with
   | error e=>
    obtain ⟨e,p⟩:=e
    rw[hy] at hQ
    intro h2 hf2
    have hn2:=hf2.n;try simp only[hN] at hn2
    simp(disch:=(try simp only[hN]);omega)only[go_sem,simprocAttr]
    exact hQ _ ⟨by (try simp only[hN]);omega,fun b hb hne=>by (try simp only[hN] at hb hne);simp(disch:=(try simp only[hN]);omega)only[go_sem,simprocAttr,hf2.old,hf]⟩
   | ok y=>
    obtain ⟨k,ts2⟩:=y
    rw[hy] at hQ
    intro h2 kv hf2 hp2 hk2
    have hn2:=hf2.n;try simp only[hN] at hn2
    have q3:h2.get h.n=some ⟨0,.cells .own 0 [.int .i64 0,.int .i64 0,.str [],.int .i64 0,.int .i64 0,.int .i64 0,.int .i64 0,.int .u64 0,.nilSlice]⟩:=by rw[hf2.old _ (by omega) (by omega)];exact q0
    simp(disch:=(try simp only[hN]);omega)only[go_sem,simprocAttr,q3,hk2.flat.1,hk2.flat.2]
    exact hQ _ kv ⟨by (try simp only[hN]);omega,fun b hb hne=>by (try simp only[hN] at hb hne);simp(disch:=(try simp only[hN]);omega)only[go_sem,simprocAttr,hf2.old,hf]⟩ (hp2.fr' (q:=h.n) (Fr.upd _ _ _) hlt) (hk2.keep (by omega) (by simp(disch:=(try simp only[hN]);omega)only[go_sem,simprocAttr];exact Nat.le_refl _) fun b hb1 hb2=>by simp(disch:=(try simp only[hN]);omega)only[go_sem,simprocAttr])
def zN:List AV:=[.int .i64 0,.int .i64 0,.str [],.int .i64 0,.int .i64 0,.int .i64 0,.int .i64 0,.int .u64 0,.nilSlice]
attribute [go_sem] zN
theorem trecover_ret {o b:Nat} {h:AHeap} {Q:AHeap→Prop} (hQ:Q h):WDef F 21 [.ptr o 0,.ptr b 0] .ret h Q:=by
 refine WDef.code F21 rfl ?_
 simp(disch:=(try simp only[hN]);omega)only[go_sem,simprocAttr,eqT,eqK]
 exact hQ
theorem trecover_stop {o b e p v1 v2:Nat} {h:AHeap} {n:Nd} {kv x2 x3:AV} {Q:AHeap→Prop} (ho:h.get o=some ⟨v1,.cells .own 0 (ndC n kv)⟩) (hb:h.get b=some ⟨v2,.cells .own 0 [x2,x3]⟩) (hob:o≠b) (hon:o<h.n) (hbn:b<h.n)
  (hQ:∀h',h.n≤h'.n→(∀c,c<h.n→c≠o→c≠b→h'.get c=h.get c)→(∃v,h'.get o=some ⟨v,.cells .own 0 zN⟩)→(∃v,h'.get b=some ⟨v,.cells .own 0 [errAV e,.int .i64 (p:Int)]⟩)→Q h') :
  WDef F 21 [.ptr o 0,.ptr b 0] (.pan (.iface 60 (.agg [errAV e,.int .i64 (p:Int)]))) h Q:=by
 refine WDef.code F21 rfl ?_
 have d1:decide (h.n=o)=false:=decide_eq_false (by omega)
 simp(disch:=(try simp only[hN]);omega)only[go_sem,simprocAttr,eqT,eqK,Nat.beq_refl,List.getElem?_cons_zero,ho,hb,d1]
 exact hQ _ (by simp only[AHeap.alloc_n,AHeap.upd_n];omega) (fun c hc h1 h2=>by simp(disch:=(try simp only[hN]);omega)only[go_sem,simprocAttr]) ⟨v1+1,by simp(disch:=(try simp only[hN]);omega)only[go_sem,simprocAttr]⟩ ⟨v2+1,by simp(disch:=(try simp only[hN]);omega)only[go_sem,simprocAttr]⟩
theorem PInv.loc {h:AHeap} {r E lv q v0 v1:Nat} {ts:List Tok} {cs:List AV} {o:AObj} (p:PInv h r E ts lv) (hq:18+17≤q) (hqr:q≠r) (hg:h.get q=some ⟨v0,.cells .own 0 cs⟩):PInv (h.upd q v1 o) r E ts lv:=by
 obtain ⟨ver,v,h1,h2⟩:=p.st
 refine ⟨p.gh.upd hq _ _,p.lo,p.hi,p.lvl,ver,v,by rw[AHeap.get_upd,if_neg (Ne.symm hqr)];exact h1,?_⟩
 rcases h2 with h2|⟨b,vb,k,all,e1,e2,e3,e4⟩
 ·exact .inl h2
 ·refine .inr ⟨b,vb,k,all,e1,e2,?_,e4⟩
  rw[AHeap.get_upd,if_neg (by rintro rfl;rw[hg] at e3;cases e3)]
  exact e3
def ReadQ (h:AHeap) (Q:QR):Except Err Nd→Prop
 | .error (e,p)=>∀h',Fr h.n h h'→Q (.ret (.tuple [.agg zN,.agg [errAV e,.int .i64 (p:Int)]])) h'
 | .ok n=>∀h' kv,Fr h.n h h'→KidsR h.n h' n.kids kv→Q (.ret (.tuple [.agg (ndC n kv),.agg [.nilIface,.int .i64 0]])) h'
theorem read_tok {fid:Nat} {p:Nat→Nat→PT} (hP:∀E f,PSpec fid E (p E f)) (hF:∀E f,Fine f (p E (f+1))) {s:Bs} (hlen:s.length<2^62) {h:AHeap} (hG:GH h) {Q:QR} (hQ:ReadQ h Q (readP p s)):WF F 10 [.str s,.func (.func fid) [] []] h Q:=by
 refine WF.code F10 rfl ?_
 simp(disch:=(try simp only[hN]);omega)only[go_sem,simprocAttr]
 refine tokens_spec ((hG.alloc _).alloc _) hlen ?_
 unfold readP at hQ
 cases hts:tokens s with
 | error x=>
  obtain ⟨e,q⟩:=x
  rw[hts] at hQ
  intro h1 hf1
  have hn1:=hf1.n;try simp only[hN] at hn1
  have d1:decide (h.n+1=h.n)=false:=decide_eq_false (by omega)
  simp(disch:=(try simp only[hN]);omega)only[go_sem,simprocAttr,hf1.old,d1]
  refine hQ _ ?_
  exact ⟨by (try simp only[hN]);omega,fun b hb hne=>by (try simp only[hN] at hb hne);simp(disch:=(try simp only[hN]);omega)only[go_sem,simprocAttr,hf1.old]⟩
 | ok ts=>
  rw[hts] at hQ
  simp only at hQ
  intro h1 v1 hf1 hts1
  have hn1:=hf1.n;try simp only[hN] at hn1
  have hG1:GH h1:=hf1.gh (by have:=hG.n;simp(disch:=(try simp only[hN]);omega)only[go_sem,simprocAttr];omega) ((hG.alloc _).alloc _)
  simp(disch:=(try simp only[hN]);omega)only[go_sem,simprocAttr,hf1.old,eqT_nil,hts1.flat.1,hts1.flat.2]
  have hf:∀b',b'<h.n→h1.get b'=h.get b':=fun b' hb'=>by simp(disch:=(try simp only[hN]);omega)only[go_sem,simprocAttr,hf1.old]
  have q4:h1.get h.n=some ⟨0,.cells .own 0 zN⟩:=by simp(disch:=(try simp only[hN]);omega)only[go_sem,simprocAttr,hf1.old]
  have ht0:TokR h1 h1.n ts v1:=by
   obtain ⟨_,⟨h0,rfl⟩|⟨hpos,b,ver,rfl,hb1,hb2,hb3⟩⟩:=hts1
   ·exact .inl ⟨List.length_eq_zero_iff.1 h0,rfl⟩
   ·exact .inr ⟨b,ver,0,ts,by simp,hb2,hb3,rfl⟩
  generalize hH:((h1.upd (h.n+1) 1 (.cells .own 0 [.nilIface,.int .i64 0])).alloc (.cells .own 0 [v1,.int .i64 (s.length:Int),.int .i64 0]))=H
  have hHn:H.n=h1.n+1:=by rw[←hH];simp(disch:=(try simp only[hN]);omega)only[go_sem,simprocAttr]
  have hH1:∀b',b'<h1.n→b'≠h.n+1→H.get b'=h1.get b':=fun b' hb' hn'=>by rw[←hH];simp(disch:=(try simp only[hN]);omega)only[go_sem,simprocAttr]
  have hH5:H.get (h.n+1)=some ⟨1,.cells .own 0 [.nilIface,.int .i64 0]⟩:=by rw[←hH];simp(disch:=(try simp only[hN]);omega)only[go_sem,simprocAttr]
  have hHr:H.get h1.n=some ⟨0,.cells .own 0 [v1,.int .i64 (s.length:Int),.int .i64 0]⟩:=by rw[←hH];simp(disch:=(try simp only[hN]);omega)only[go_sem,simprocAttr]
  have ht:TokR H h1.n ts v1:=by
   obtain ⟨_,⟨h0,rfl⟩|⟨hpos,b,ver,rfl,hb1,hb2,hb3⟩⟩:=hts1
   ·exact .inl ⟨List.length_eq_zero_iff.1 h0,rfl⟩
   ·simp only[AHeap.alloc_n] at hb1
    exact .inr ⟨b,ver,0,ts,by simp,hb2,by rw[hH1 _ hb2 (by omega)];exact hb3,rfl⟩
  have hn0:=hG.n
  have hGH:GH H:=(show Fr (h.n+1) h1 H from ⟨by omega,fun b hb hne=>hH1 b hb hne⟩).gh (by omega) hG1
  have hpH:PInv H h1.n s.length ts 0:=⟨hGH,by omega,by omega,by omega,0,v1,hHr,ht⟩
  have q4:H.get h.n=some ⟨0,.cells .own 0 zN⟩:=by rw[hH1 _ (by omega) (by omega)];exact q4
  have hf:∀b',b'<h.n→H.get b'=h.get b':=fun b' hb'=>by rw[hH1 _ (by omega) (by omega)];exact hf _ hb'
  generalize h1.n=r at *
  clear hH hH1 hHr ht ht0 hG1 hf1 hts1 hGH
  have hfine:=hF s.length ts.length 0 ts (Nat.le_refl _)
  simp only[List.nil_append,List.append_nil]
  refine hP s.length (ts.length+1) hpH ?_ ?_
  ·intro e;rw[e] at hfine;rcases hfine with h|h<;>exact absurd h (by decide)
  cases hx:p s.length (ts.length+1) 0 ts with
  | error x=>
   obtain ⟨e,q⟩:=x
   rw[hx] at hQ
   intro h2 hf2
   have hn2:=hf2.n;try simp only[hN] at hn2
   have q42:h2.get h.n=some ⟨0,.cells .own 0 zN⟩:=by rw[hf2.old _ (by omega) (by omega)];exact q4
   have q52:h2.get (h.n+1)=some ⟨1,.cells .own 0 [.nilIface,.int .i64 0]⟩:=by rw[hf2.old _ (by omega) (by omega)];exact hH5
   simp(disch:=(try simp only[hN]);omega)only[go_sem,simprocAttr,List.append_nil,List.nil_append]
   refine trecover_stop (n:=.mk 0 0 [] 0 0 0 0 0 []) q42 q52 (by omega) (by omega) (by omega) ?_
   rintro h3 hn3 hf3 ⟨v3,q43⟩ ⟨v4,q53⟩
   simp(disch:=(try simp only[hN]);omega)only[go_sem,simprocAttr,q43,q53]
   refine hQ _ ⟨by omega,fun b hb _=>?_⟩
   rw[hf3 _ (by omega) (by omega) (by omega),hf2.old _ (by omega) (by omega)]
   exact hf _ hb
  | ok y=>
   obtain ⟨n,ts'⟩:=y
   rw[hx] at hQ
   intro h2 kv hf2 hp2 hk2
   have hn2:=hf2.n;try simp only[hN] at hn2
   have q42:h2.get h.n=some ⟨0,.cells .own 0 zN⟩:=by rw[hf2.old _ (by omega) (by omega)];exact q4
   have q52:h2.get (h.n+1)=some ⟨1,.cells .own 0 [.nilIface,.int .i64 0]⟩:=by rw[hf2.old _ (by omega) (by omega)];exact hH5
   obtain ⟨vr,v,hr,htr⟩:=hp2.st
   have hlt2:=hp2.hi
   simp(disch:=(try simp only[hN]);omega)only[go_sem,simprocAttr,q42,q52,hk2.flat.1,hk2.flat.2,hr,htr.len]
   cases ts' with
   | nil=>
    have c0:decide ((0:Int)>0)=false:=rfl
    simp(disch:=(try simp only[hN]);omega)only[go_sem,simprocAttr,List.length_nil,Int.natCast_zero,c0,q42,q52,hk2.flat.1,hk2.flat.2]
    refine trecover_ret ?_
    simp(disch:=(try simp only[hN]);omega)only[go_sem,simprocAttr,q42,q52,hk2.flat.1,hk2.flat.2]
    refine hQ _ kv ⟨by (try simp only[hN]);omega,fun b hb hne=>by (try simp only[hN] at hb hne);simp(disch:=(try simp only[hN]);omega)only[go_sem,simprocAttr,hf2.old,hf]⟩ (hk2.keep (by omega) (by simp(disch:=(try simp only[hN]);omega)only[go_sem,simprocAttr];exact Nat.le_refl _) fun b hb1 hb2=>by simp(disch:=(try simp only[hN]);omega)only[go_sem,simprocAttr])
   | cons t ts'=>
    have c1:decide (((ts'.length+1:Nat):Int)>0)=true:=decide_eq_true (by omega)
    simp(disch:=(try simp only[hN]);omega)only[go_sem,simprocAttr,c1]
    refine wrong_tok (hp2.loc (by omega) (by omega) q42) ?_
    intro h3 hf3
    have hn3:=hf3.n;try simp only[hN] at hn3
    have q43:h3.get h.n=some ⟨1,.cells .own 0 (ndC n kv)⟩:=by simp(disch:=(try simp only[hN]);omega)only[go_sem,simprocAttr,hf3.old]
    have q53:h3.get (h.n+1)=some ⟨1,.cells .own 0 [.nilIface,.int .i64 0]⟩:=by rw[hf3.old _ (by simp only[hN];omega) (by simp only[hN];omega),AHeap.get_upd,if_neg (by omega)];exact q52
    simp(disch:=(try simp only[hN]);omega)only[go_sem,simprocAttr,List.append_nil,List.nil_append]
    refine trecover_stop (n:=n) q43 q53 (by omega) (by omega) (by omega) ?_
    rintro h4 hn4 hf4 ⟨v3,q44⟩ ⟨v4,q54⟩
    simp(disch:=(try simp only[hN]);omega)only[go_sem,simprocAttr,q44,q54]
    refine hQ _ ⟨by omega,fun b hb _=>?_⟩
    rw[hf4 _ (by omega) (by omega) (by omega),hf3.old _ (by simp only[hN];omega) (by simp only[hN];omega),AHeap.get_upd,if_neg (by omega),hf2.old _ (by omega) (by omega)]
    exact hf _ hb
theorem expr_read {s:Bs} (hlen:s.length<2^62) {h:AHeap} (hG:GH h) {Q:QR} (hQ:ReadQ h Q (exprS s)):WF F 9 [.str s] h Q:=by
 refine WF.code F9 rfl ?_
 simp(disch:=(try simp only[hN]);omega)only[go_sem,simprocAttr]
 refine read_tok (p:=exprP) (fun E f=>exprOf_tok (unary_tok f)) (fun E f=>exprP_fine f) hlen ((hG.alloc _).alloc _) ?_
 change ReadQ _ _ (exprS s)
 cases hx:exprS s with
 | error x=>
  obtain ⟨e,q⟩:=x
  rw[hx] at hQ
  intro h1 hf1
  have hn1:=hf1.n;try simp only[hN] at hn1
  simp(disch:=(try simp only[hN]);omega)only[go_sem,simprocAttr,hf1.old]
  exact hQ _ ⟨by (try simp only[hN]);omega,fun b hb hne=>by (try simp only[hN] at hb hne);simp(disch:=(try simp only[hN]);omega)only[go_sem,simprocAttr,hf1.old]⟩
 | ok n=>
  rw[hx] at hQ
  intro h1 kv hf1 hk1
  have hn1:=hf1.n;try simp only[hN] at hn1
  simp(disch:=(try simp only[hN]);omega)only[go_sem,simprocAttr,hf1.old,hk1.flat.1,hk1.flat.2]
  exact hQ _ kv ⟨by (try simp only[hN]);omega,fun b hb hne=>by (try simp only[hN] at hb hne);simp(disch:=(try simp only[hN]);omega)only[go_sem,simprocAttr,hf1.old]⟩ (hk1.keep (by simp only[hN];omega) (by simp(disch:=(try simp only[hN]);omega)only[go_sem,simprocAttr];exact Nat.le_refl _) fun b hb1 hb2=>by simp only[AHeap.alloc_n] at hb1;simp(disch:=(try simp only[hN]);omega)only[go_sem,simprocAttr])
def RQ (h:AHeap) (r E:Nat) (all:List Tok) (q:Nat) (Q:QR):PR→Prop
 | .ok (n,ts')=>∀h' kv nx',all.drop nx'=ts'→Fr r h h'→RInv h' r E all nx' 0 q→KidsR h.n h' n.kids kv→Q (.ret (.agg (ndC n kv))) h'
 | .error (e,p)=>∀h' n kv nx',e≠0→Fr r h h'→RInv h' r E all nx' e p→kv.flat=true→kv.cells=[kv]→Q (.ret (.agg (ndC n kv))) h'
def RSpec (fid:FuncId) (pre:List AV) (E:Nat) (u:PT):Prop:=∀{h:AHeap} {r lv nx q:Nat} {all:List Tok} {Q:QR},lv≤16→RInv h r E all nx 0 q→u lv (all.drop nx)≠.error (0,0)→RQ h r E all q Q (u lv (all.drop nx))→WF F fid (.ptr r 0::(pre++[.int .i64 (lv:Int)])) h Q
theorem rexpr_bad {h:AHeap} {r E nx e q:Nat} {all:List Tok} {k lv:Int} (hp:RInv h r E all nx e q) (he:e≠0) {Q:QR} (hQ:∀h',Fr h.n h h'→Q (.ret (.agg zN)) h'):WF F 15 [.ptr r 0,.int .i64 k,.int .i64 lv] h Q:=by
 refine WF.code F15 rfl ?_
 have hlt:=hp.hi
 obtain ⟨ver,v,h1,h2,h3,h4⟩:=hp.st
 have e0:((e:Int) != 0)=true:=by simp;omega
 simp(disch:=(try simp only[hN]);omega)only[go_sem,simprocAttr,h1,e0]
 exact hQ _ ⟨by (try simp only[hN]);omega,fun b hb hne=>by (try simp only[hN] at hb hne);simp(disch:=(try simp only[hN]);omega)only[go_sem,simprocAttr]⟩
theorem rexpr_un {E:Nat} {u:PT} (hu:RSpec 32 [] E u):RSpec 15 [.int .i64 6] E u:=by
 intro h r lv nx q all Q hlv hp hz hQ
 refine WF.code F15 rfl ?_
 have hlt:=hp.hi
 obtain ⟨ver,v,h1,h2,h3,h4⟩:=hp.st
 have e0:((0:Int) != 0)=false:=rfl
 simp(disch:=(try simp only[hN]);omega)only[go_sem,simprocAttr,h1,Int.natCast_zero,e0,List.cons_append,List.nil_append]
 have hp1:RInv (h.alloc (.cells .own 0 zN)) r E all nx 0 q:=hp.fr ⟨by (try simp only[hN]);omega,fun b hb hne=>by (try simp only[hN] at hb hne);simp(disch:=(try simp only[hN]);omega)only[go_sem,simprocAttr]⟩
 refine hu hlv hp1 hz ?_
 cases hx:u lv (all.drop nx) with
 | error e=>
  obtain ⟨e,p⟩:=e
  rw[hx] at hQ
  intro h2 n kv nx' he hf2 hp2 k1 k2
  have hn2:=hf2.n;try simp only[hN] at hn2
  simp(disch:=(try simp only[hN]);omega)only[go_sem,simprocAttr,hf2.old,k1,k2]
  exact hQ _ n kv nx' he ⟨by (try simp only[hN]);omega,fun b hb hne=>by (try simp only[hN] at hb hne);simp(disch:=(try simp only[hN]);omega)only[go_sem,simprocAttr,hf2.old]⟩ (hp2.fr' (q':=h.n) (Fr.upd _ _ _) hlt) k1 k2
 | ok y=>
  obtain ⟨n,ts'⟩:=y
  rw[hx] at hQ
  intro h2 kv nx' hd hf2 hp2 hk2
  have hn2:=hf2.n;try simp only[hN] at hn2
  simp(disch:=(try simp only[hN]);omega)only[go_sem,simprocAttr,hf2.old,hk2.flat.1,hk2.flat.2]
  exact hQ _ kv nx' hd ⟨by (try simp only[hN]);omega,fun b hb hne=>by (try simp only[hN] at hb hne);simp(disch:=(try simp only[hN]);omega)only[go_sem,simprocAttr,hf2.old]⟩ (hp2.fr' (q':=h.n) (Fr.upd _ _ _) hlt) (hk2.keep (by simp only[hN];omega) (by simp(disch:=(try simp only[hN]);omega)only[go_sem,simprocAttr];exact Nat.le_refl _) fun b hb1 hb2=>by simp only[AHeap.alloc_n] at hb1;simp(disch:=(try simp only[hN]);omega)only[go_sem,simprocAttr])
theorem RQ.all {h:AHeap} {r E q:Nat} {all:List Tok} {Q:QR} {R:PR} (hR:R≠.error (0,0)) (hR0:∀e p,R=.error (e,p)→e≠0)
  (w:∀h' n kv nx' e p,Fr r h h'→RInv h' r E all nx' e p→kv.flat=true→kv.cells=[kv]→((e=0∧p=q∧KidsR h.n h' n.kids kv∧R=.ok (n,all.drop nx'))∨(e≠0∧R=.error (e,p)))→Q (.ret (.agg (ndC n kv))) h'):RQ h r E all q Q R:=by
 cases R with
 | error x=>
  obtain ⟨e,p⟩:=x
  intro h' n kv nx' he hf hp f1 f2
  exact w h' n kv nx' e p hf hp f1 f2 (.inr ⟨he,rfl⟩)
 | ok y=>
  obtain ⟨n,ts'⟩:=y
  intro h' kv nx' hd hf hp hk
  exact w h' n kv nx' 0 q hf hp hk.flat.1 hk.flat.2 (.inl ⟨rfl,rfl,hk,by rw[hd]⟩)
theorem RQ.use {h h':AHeap} {r E q:Nat} {all:List Tok} {Q:QR} {R:PR} (hQ:RQ h r E all q Q R) {n:Nd} {kv:AV} {nx' e p:Nat} (hf:Fr r h h') (hp:RInv h' r E all nx' e p) (f1:kv.flat=true) (f2:kv.cells=[kv]) (hc:(e=0∧p=q∧KidsR h.n h' n.kids kv∧R=.ok (n,all.drop nx'))∨(e≠0∧R=.error (e,p))):Q (.ret (.agg (ndC n kv))) h':=by
 rcases hc with ⟨rfl,rfl,hk,rfl⟩|⟨he,rfl⟩
 ·exact hQ h' kv nx' rfl hf hp hk
 ·exact hQ h' n kv nx' he hf hp f1 f2
theorem isR_text {ops:List Bs} {ts:List Tok} (h:isT ops ts=true):seesT 0 ts=(hdT 0 ts).text:=by
 cases ts with
 | nil=>simp [isT] at h
 | cons t ts=>
  simp only[isT,Bool.and_eq_true,Bool.or_eq_true,decide_eq_true_eq] at h
  simp only[seesT,if_true,hdT]
  rw[if_pos h.1]
theorem rexpr_row {E k:Nat} (hk1:1≤k) (hk5:k≤5) {u:PT} (hF:∀lv ts e p,u lv ts=.error (e,p)→e≠0∨(e,p)=(0,0)) (hu:RSpec 15 [.int .i64 ((k+1:Nat):Int)] E u):RSpec 15 [.int .i64 (k:Int)] E (rowP (decide (k≠3)) (opsR k) u):=by
 intro h r lv nx q all Q hlv hp hz hQ
 refine WF.code F15 rfl ?_
 have hlt:=hp.hi
 obtain ⟨ver,v,h1,h2,h3,h4⟩:=hp.st
 have e0:((0:Int) != 0)=false:=rfl
 have g5:decide ((k:Int)>5)=false:=decide_eq_false (by omega)
 have ek:((k:Int)+1)=((k+1:Nat):Int):=by omega
 simp(disch:=(try simp only[hN]);omega)only[go_sem,simprocAttr,h1,Int.natCast_zero,e0,List.cons_append,List.nil_append,g5,ek]
 have hp1:RInv (h.alloc (.cells .own 0 zN)) r E all nx 0 q:=hp.fr ⟨by (try simp only[hN]);omega,fun b hb hne=>by (try simp only[hN] at hb hne);simp(disch:=(try simp only[hN]);omega)only[go_sem,simprocAttr]⟩
 clear h1 h2 h3 h4
 have hu1:u lv (all.drop nx)≠.error (0,0):=by
  intro e;unfold rowP at hz;rw[e] at hz;exact hz rfl
 have hR0:∃R,rowP (decide (k≠3)) (opsR k) u lv (all.drop nx)=R:=⟨_,rfl⟩
 obtain ⟨R,hR⟩:=hR0
 rw[hR] at hz hQ
 unfold rowP at hR
 generalize hmany:decide (k≠3)=many at hR
 refine hu hlv hp1 hu1 (RQ.all hu1 (fun e p he=>by rcases hF _ _ _ _ he with g|g;exact g;rw[he,g] at hu1;exact absurd rfl hu1) ?_)
 intro h1 n kv nx1 e p hf1 hp2 k1 k2 hc
 have hn1:=hf1.n;try simp only[hN] at hn1
 have q0:h1.get h.n=some ⟨0,.cells .own 0 zN⟩:=by simp(disch:=(try simp only[hN]);omega)only[go_sem,simprocAttr,hf1.old]
 have hf:∀b',b'<h.n→b'≠r→h1.get b'=h.get b':=fun b' hb' hr'=>by simp(disch:=(try simp only[hN]);omega)only[go_sem,simprocAttr,hf1.old]
 obtain ⟨fu,hfu⟩:∃fu,(e=0∧p=q∧KidsR (h.n+1) h1 n.kids kv∧rowL u many (opsR k) lv fu n (all.drop nx1)=R)∨(e≠0∧R=.error (e,p)):=by
  rcases hc with ⟨rfl,rfl,hk,hx⟩|⟨he,hx⟩
  ·rw[hx] at hR
   exact ⟨_,.inl ⟨rfl,rfl,hk,hR⟩⟩
  ·rw[hx] at hR
   exact ⟨0,.inr ⟨he,hR.symm⟩⟩
 clear hc hf1 hR
 simp(disch:=(try simp only[hN]);omega)only[go_sem,simprocAttr,k1,k2]
 refine wp_loopx 0 (fun f a h'=>∃nd nx2 kv2 v2 e p,h'.get h1.n=some ⟨v2,.cells .own 0 (ndC nd kv2)⟩∧RInv h' r E all nx2 e p∧(kv2.flat=true∧kv2.cells=[kv2])∧h1.n+1≤h'.n∧(∀b',b'<h1.n→b'≠r→h'.get b'=h1.get b')∧((e=0∧p=q∧KidsR (h.n+1) h' nd.kids kv2∧rowL u many (opsR k) lv f nd (all.drop nx2)=R)∨(e≠0∧R=.error (e,p)))∧a.tm.get 0=some (.ptr r 0)∧a.tm.get 1=some (.int .i64 (k:Int))∧a.tm.get 2=some (.int .i64 (lv:Int))∧a.tm.get 6=some (.ptr h.n 0)∧a.tm.get 7=some (.ptr h1.n 0)∧a.df=[])
  (fun a h'=>∃nd nx2 kv2 v2 e p,h'.get h1.n=some ⟨v2,.cells .own 0 (ndC nd kv2)⟩∧RInv h' r E all nx2 e p∧(kv2.flat=true∧kv2.cells=[kv2])∧h1.n+1≤h'.n∧(∀b',b'<h1.n→b'≠r→h'.get b'=h1.get b')∧((e=0∧p=q∧KidsR (h.n+1) h' nd.kids kv2∧R=.ok (nd,all.drop nx2))∨(e≠0∧R=.error (e,p)))∧a.tm.get 6=some (.ptr h.n 0)∧a.tm.get 7=some (.ptr h1.n 0)∧a.df=[]) ?_ ?_ fu ?_
 ·rintro f ⟨t,df⟩ h2 ⟨nd,nx2,kv2,v2,e,p,qX,hp2,⟨f1,f2⟩,hn2,hf2,hc,j0,j1,j2,j6,j7,hdf⟩
  simp only at j0 j1 j2 j6 j7 hdf
  subst hdf
  have hlt2:=hp2.hi
  obtain ⟨ver,v,g1,g2,g3,g4⟩:=hp2.st
  rcases hc with ⟨rfl,rfl,hk2,hrow⟩|⟨he,hrow⟩
  ·cases f with
   | zero=>exact absurd hrow.symm hz
   | succ f=>
    have e0:((0:Int)==0)=true:=rfl
    simp(disch:=(try simp only[hN]);omega)only[go_sem,simprocAttr,j0,j1,j2,j6,j7,g1,Int.natCast_zero,e0]
    refine sees_tok hp2 ?_
    intro h3 hf3
    have hn3:=hf3.n;try simp only[hN] at hn3
    have hp3:=hp2.fr hf3
    simp(disch:=(try simp only[hN]);omega)only[go_sem,simprocAttr,j0,j1,j2,j6,j7]
    refine rank_tok ?_
    have hrk:=rank_is hk1 hk5 (ts:=all.drop nx2)
    rw[rowL] at hrow
    by_cases hi:isT (opsR k) (all.drop nx2)=true
    ·rw[if_pos hi] at hrow
     have hrk':=hrk.2 hi
     rw[hrk']
     have eb:((k:Int)==(k:Int))=true:=beq_self_eq_true _
     have hS:=isR_text hi
     simp(disch:=(try simp only[hN]);omega)only[go_sem,simprocAttr,j0,j1,j2,j6,j7,eb]
     refine sees_tok hp3 ?_
     rw[hS]
     intro h4 hf4
     have hn4:=hf4.n;try simp only[hN] at hn4
     have hp4:=hp3.fr hf4
     obtain ⟨ver4,v4,i1,i2,i3,i4⟩:=hp4.st
     have hnx:=drop_ne (isT_ne hi)
     have hsm:=hp.small
     simp(disch:=(try simp only[hN]);omega)only[go_sem,simprocAttr,j0,j1,j2,j6,j7,i1,i3.1,i3.2,ek]
     have htl:(all.drop nx2).tail=all.drop (nx2+1):=List.tail_drop
     have hp5:RInv (h4.upd r (ver4+1) (.cells .own 0 [v4,.int .i64 (E:Int),.int .i64 ((nx2:Int)+1),.int .i64 0,.int .i64 (p:Int)])) r E all (nx2+1) 0 p:=hp4.step (Fr.upd _ _ _) hnx i1 (by (first|(simp(disch:=(try simp only[hN]);omega)only[go_sem,simprocAttr];done)|(simp(disch:=(try simp only[hN]);omega)only[go_sem,simprocAttr];rfl)))
     have qX4:h4.get h1.n=some ⟨v2,.cells .own 0 (ndC nd kv2)⟩:=by rw[hf4.all (by omega),hf3.all (by omega)];exact qX
     have hf4':∀b',b'<h1.n→b'≠r→h4.get b'=h1.get b':=fun b' hb' hr'=>by rw[hf4.all (by omega),hf3.all (by omega)];exact hf2 _ hb' hr'
     have hk4:KidsR (h.n+1) h4 nd.kids kv2:=hk2.keep (Nat.le_refl _) (by omega) fun b' hb1 hb2=>by rw[hf4.all (by omega),hf3.all (by omega)]
     have hlt4:=hp4.hi
     have hn4':h1.n+1≤h4.n:=by omega
     clear hf4 hf3 hf2 qX hp3 hp2 hk2 hn2 hn3 hn4 g1 g2 g3 g4 i1 i2 i3 i4 hp4
     rw[htl] at hrow
     generalize (hdT 0 (all.drop nx2)).text=OP at *
     have hz2:u lv (all.drop (nx2+1))≠.error (0,0):=by
      intro e;rw[e] at hrow;exact hz hrow.symm
     refine hu hlv hp5 hz2 (RQ.all hz2 (fun e p he=>by rcases hF _ _ _ _ he with g|g;exact g;rw[he,g] at hz2;exact absurd rfl hz2) ?_)
     intro h5 m kv5 nx5 e5 p5 hf5 hp6 k51 k52 hc5
     have hn5:=hf5.n;try simp only[hN] at hn5
     have q95:h5.get h1.n=some ⟨v2,.cells .own 0 (ndC nd kv2)⟩:=by rw[hf5.old _ (by simp only[hN];omega) (by omega),AHeap.get_upd,if_neg (by omega)];exact qX4
     simp(disch:=(try simp only[hN]);omega)only[go_sem,simprocAttr,q95,f1,f2,k51,k52,j0,j1,j2,j6,j7]
     generalize hI:AHeap.upd (AHeap.alloc _ _) h1.n _ _=I
     have hIn:I.n=h5.n+2:=by rw[←hI];simp(disch:=(try simp only[hN]);omega)only[go_sem,simprocAttr]
     have hIX:I.get h1.n=some ⟨v2+1,.cells .own 0 (ndC (binN nd OP m) (.slice (h5.n+1) 0 2 2 true))⟩:=by rw[←hI];simp(disch:=(try simp only[hN]);omega)only[go_sem,simprocAttr];rfl
     have hIo:∀b',b'<h5.n→b'≠h1.n→I.get b'=h5.get b':=fun b' hb1 hb2=>by rw[←hI];simp(disch:=(try simp only[hN]);omega)only[go_sem,simprocAttr]
     have hI2:I.get (h5.n+1)=some ⟨0,.cells .own 9 (ndC nd kv2++ndC m kv5)⟩:=by rw[←hI];simp(disch:=(try simp only[hN]);omega)only[go_sem,simprocAttr];rfl
     clear hI
     have hp7:RInv I r E all nx5 e5 p5:=hp6.fr' (q':=h1.n) ⟨by omega,fun b hb hne=>hIo b hb hne⟩ (by omega)
     have hIf:∀b',b'<h1.n→b'≠r→I.get b'=h1.get b':=fun b' hb1 hb2=>by rw[hIo b' (by omega) (by omega),hf5.old b' (by simp only[hN];omega) hb2,AHeap.get_upd,if_neg hb2];exact hf4' b' hb1 hb2
     have hk6:(e5=0∧p5=p∧KidsR (h.n+1) I (binN nd OP m).kids (.slice (h5.n+1) 0 2 2 true)∧u lv (all.drop (nx2+1))=.ok (m,all.drop nx5))∨(e5≠0∧u lv (all.drop (nx2+1))=.error (e5,p5)):=by
      refine hc5.imp (fun g=>⟨g.1,g.2.1,?_,g.2.2.2⟩) id
      refine KidsR.two (ver:=0) (kv:=kv2) (mv:=kv5) (hk4.keep9 (Nat.le_refl _) (by omega) fun b' _ _ _ hb1 hb2 hb3=>?_) (g.2.2.1.keep9 (by simp only[hN];omega) (by omega) fun b' _ _ _ hb1 hb2 hb3=>?_) (by omega) (by omega) hI2
      ·by_cases hb9:b'=h1.n
       ·subst hb9;rw[qX4] at hb3;cases hb3
       ·rw[hIo b' (by omega) hb9,hf5.old _ (by simp only[hN];omega) (by omega),AHeap.get_upd,if_neg (by omega)]
      ·by_cases hb9:b'=h1.n
       ·subst hb9;rw[q95] at hb3;cases hb3
       ·rw[hIo b' (by omega) hb9]
     clear hc5 hf5 hIo hI2 q95 hk4
     cases many with
     | true=>
      have k3:k≠3:=of_decide_eq_true hmany
      have eb3:((k:Int)==3)=false:=by simp;omega
      simp(disch:=(try simp only[hN]);omega)only[go_sem,simprocAttr,eb3,j0,j1,j2,j6,j7]
      refine ⟨f,Nat.lt_succ_self _,binN nd OP m,nx5,_,_,e5,p5,hIX,hp7,⟨rfl,rfl⟩,by omega,hIf,?_⟩
      rcases hk6 with ⟨rfl,rfl,hk,hx⟩|⟨he,hx⟩
      ·rw[hx] at hrow
       exact .inl ⟨rfl,rfl,hk,hrow⟩
      ·rw[hx] at hrow
       exact .inr ⟨he,hrow.symm⟩
     | false=>
      have k3:k=3:=by
       have:=of_decide_eq_false hmany
       omega
      have eb3:((k:Int)==3)=true:=by simp;omega
      simp(disch:=(try simp only[hN]);omega)only[go_sem,simprocAttr,eb3,j0,j1,j2,j6,j7]
      refine ⟨binN nd OP m,nx5,_,_,e5,p5,hIX,hp7,⟨rfl,rfl⟩,by omega,hIf,?_⟩
      rcases hk6 with ⟨rfl,rfl,hk,hx⟩|⟨he,hx⟩
      ·rw[hx] at hrow
       exact .inl ⟨rfl,rfl,hk,hrow.symm⟩
      ·rw[hx] at hrow
       exact .inr ⟨he,hrow.symm⟩
    ·rw[if_neg hi] at hrow
     have hrk':¬rankT (seesT 0 (all.drop nx2))=k:=fun hh=>hi (hrk.1 hh)
     generalize rankT (seesT 0 (all.drop nx2))=rk at hrk' ⊢
     have eb:((rk:Int)==(k:Int))=false:=by simp;omega
     simp(disch:=(try simp only[hN]);omega)only[go_sem,simprocAttr,j0,j1,j2,j6,j7,eb]
     exact ⟨nd,nx2,kv2,v2,0,p,by rw[hf3.all (by omega)];exact qX,hp3,⟨f1,f2⟩,by omega,fun b hb hr=>by rw[hf3.all (by omega)];exact hf2 b hb hr,.inl ⟨rfl,rfl,hk2.fr hf3 (.inr (Nat.le_refl _)),hrow.symm⟩⟩
  ·have e0:((e:Int)==0)=false:=by simp;omega
   simp(disch:=(try simp only[hN]);omega)only[go_sem,simprocAttr,j0,j1,j2,j6,j7,g1,e0]
   exact ⟨nd,nx2,kv2,v2,e,p,qX,hp2,⟨f1,f2⟩,hn2,hf2,.inr ⟨he,hrow⟩⟩
 ·rintro ⟨t,df⟩ h2 ⟨nd,nx2,kv2,v2,e,p,qX,hp2,⟨f1,f2⟩,hn2,hf2,hc,j6,j7,hdf⟩
  simp only at j6 j7 hdf
  subst hdf
  have q02:h2.get h.n=some ⟨0,.cells .own 0 zN⟩:=by rw[hf2 _ (by omega) (by omega)];exact q0
  simp(disch:=(try simp only[hN]);omega)only[go_sem,simprocAttr,j6,j7,qX,f1,f2,q02]
  refine hQ.use (nx':=nx2) (e:=e) (p:=p) ⟨by (try simp only[hN]);omega,fun b hb hne=>by (try simp only[hN] at hb hne);simp(disch:=(try simp only[hN]);omega)only[go_sem,simprocAttr,hf2,hf]⟩ (hp2.fr' (q':=h.n) (Fr.upd _ _ _) hlt) f1 f2 (hc.imp (fun g=>⟨g.1,g.2.1,?_,g.2.2.2⟩) id)
  exact g.2.2.1.keep (by omega) (by simp(disch:=(try simp only[hN]);omega)only[go_sem,simprocAttr];exact Nat.le_refl _) fun b' hb1 hb2=>by simp(disch:=(try simp only[hN]);omega)only[go_sem,simprocAttr]
 ·refine ⟨n,nx1,kv,1,e,p,by simp(disch:=(try simp only[hN]);omega)only[go_sem,simprocAttr],hp2.fr ⟨by (try simp only[hN]);omega,fun b hb hne=>by (try simp only[hN] at hb hne);simp(disch:=(try simp only[hN]);omega)only[go_sem,simprocAttr]⟩,⟨k1,k2⟩,by simp(disch:=(try simp only[hN]);omega)only[go_sem,simprocAttr];omega,fun b' hb1 hb2=>by simp(disch:=(try simp only[hN]);omega)only[go_sem,simprocAttr],hfu.imp (fun g=>⟨g.1,g.2.1,g.2.2.1.keep (Nat.le_refl _) (by simp only[hN];omega) fun b' hb1 hb2=>by simp(disch:=(try simp only[hN]);omega)only[go_sem,simprocAttr],g.2.2.2⟩) id,?_⟩
  simp(disch:=(try simp only[hN]);omega)only[go_sem,simprocAttr]
def ErrP (u:PT):Prop:=∀lv ts e p,u lv ts=.error (e,p)→e≠0∨(e,p)=(0,0)
theorem rowL_errP {u:PT} (hu:ErrP u) {many:Bool} {ops:List Bs} {lv:Nat}:∀(f:Nat) (n:Nd) (ts:List Tok) (e p:Nat),rowL u many ops lv f n ts=.error (e,p)→e≠0∨(e,p)=(0,0)
 | 0,_,_,e,p,h=>by cases h;exact .inr rfl
 | f+1,n,ts,e,p,h=>by
  rw[rowL] at h
  split at h
  ·cases hx:u lv ts.tail with
   | error x=>rw[hx] at h;cases h;exact hu _ _ _ _ hx
   | ok y=>
    obtain ⟨k,ts'⟩:=y
    rw[hx] at h
    simp only at h
    split at h
    ·exact rowL_errP hu f _ _ _ _ h
    ·cases h
  ·cases h
theorem rowP_errP {u:PT} (hu:ErrP u) {many:Bool} {ops:List Bs}:ErrP (rowP many ops u):=by
 intro lv ts e p h
 unfold rowP at h
 cases hx:u lv ts with
 | error x=>rw[hx] at h;cases h;exact hu _ _ _ _ hx
 | ok y=>obtain ⟨k,ts'⟩:=y;rw[hx] at h;exact rowL_errP hu _ _ _ _ _ h
theorem exprOf_errP {u:PT} (hu:ErrP u):ErrP (exprOf u):=rowP_errP (rowP_errP (rowP_errP (rowP_errP (rowP_errP hu))))
theorem inP_errP {E:Nat} {a b:Bs} {x:PT} (hx:ErrP x):ErrP (inP E a b x):=by
 intro lv ts e p h
 unfold inP at h
 split at h
 ·split at h
  ·cases h;exact .inl (by decide)
  ·cases hy:x (lv+1) ts.tail with
   | error y=>rw[hy] at h;cases h;exact hx _ _ _ _ hy
   | ok y=>
    obtain ⟨k,ts'⟩:=y
    rw[hy] at h
    simp only at h
    split at h
    ·cases h
    ·cases h;exact .inl (by decide)
 ·cases h;exact .inl (by decide)
theorem nameP_errP {E:Nat} {x:PT} (hx:ErrP x):ErrP (nameP E x):=by
 intro lv ts e p h
 unfold nameP at h
 split at h
 ·cases hy:inP E [91] [93] x lv ts.tail with
  | error y=>rw[hy] at h;cases h;exact inP_errP hx _ _ _ _ hy
  | ok y=>obtain ⟨k,ts'⟩:=y;rw[hy] at h;cases h
 ·cases h
theorem primP_errP {E:Nat} {x:PT} (hx:ErrP x):ErrP (primP E x):=by
 intro lv ts e p h
 unfold primP at h
 split at h
 ·cases h
 split at h
 ·cases h
 split at h
 ·exact nameP_errP hx _ _ _ _ h
 split at h
 ·cases h
 split at h
 ·cases h
 split at h
 ·cases hy:inP E [40] [41] x lv ts.tail with
  | error y=>rw[hy] at h;cases h;exact inP_errP hx _ _ _ _ hy
  | ok y=>obtain ⟨k,ts'⟩:=y;rw[hy] at h;cases h
 ·exact inP_errP hx _ _ _ _ h
theorem unP_errP {E:Nat}:∀f,ErrP (unP E f)
 | 0=>by intro lv ts e p h;cases h;exact .inr rfl
 | f+1=>by
  intro lv ts e p h
  rw[unP] at h
  split at h
  ·split at h
   ·cases h;exact .inl (by decide)
   ·cases hy:unP E f (lv+1) ts.tail with
    | error y=>rw[hy] at h;cases h;exact unP_errP f _ _ _ _ hy
    | ok y=>obtain ⟨k,ts'⟩:=y;rw[hy] at h;cases h
  ·exact primP_errP (exprOf_errP (unP_errP f)) lv ts e p h
theorem ErrP.ne {u:PT} (hu:ErrP u) {lv:Nat} {ts:List Tok} (hz:u lv ts≠.error (0,0)):∀e p,u lv ts=.error (e,p)→e≠0:=by
 intro e p he
 rcases hu _ _ _ _ he with g|g
 ·exact g
 ·rw[he,g] at hz;exact absurd rfl hz
theorem rtarget_tok {E:Nat} {x:PT} (hx:RSpec 15 [.int .i64 1] E x) (hxe:ErrP x) {h:AHeap} {r lv nx q:Nat} {all:List Tok} {Q:QR} (hlv:lv≤16) (hp:RInv h r E all nx 0 q) (h1k:(hdT E (all.drop nx)).kind=1) (hz:nameP E x lv (all.drop nx)≠.error (0,0)) (hQ:RQ h r E all q Q (nameP E x lv (all.drop nx))):WF F 58 [.ptr r 0,.int .i64 (lv:Int)] h Q:=by
 refine WF.code F58 rfl ?_
 have hlt:=hp.hi
 obtain ⟨ver,v,h1,h2,h3,h4⟩:=hp.st
 have e0:((0:Int) != 0)=false:=rfl
 simp(disch:=(try simp only[hN]);omega)only[go_sem,simprocAttr,h1,Int.natCast_zero,e0]
 have hp1:RInv (h.alloc (.cells .own 0 zN)) r E all nx 0 q:=hp.fr ⟨by (try simp only[hN]);omega,fun b hb hne=>by (try simp only[hN] at hb hne);simp(disch:=(try simp only[hN]);omega)only[go_sem,simprocAttr]⟩
 clear h1 h2 h3 h4
 refine token_tok (k:=1) (by decide) hp1 ?_
 unfold TokQ'
 rw[if_pos rfl,if_pos h1k]
 intro h1 hf1 hp2
 have hn1:=hf1.n;try simp only[hN] at hn1
 have q0:h1.get h.n=some ⟨0,.cells .own 0 zN⟩:=by simp(disch:=(try simp only[hN]);omega)only[go_sem,simprocAttr,hf1.old]
 have hf:∀b',b'<h.n→b'≠r→h1.get b'=h.get b':=fun b' hb' hr'=>by simp(disch:=(try simp only[hN]);omega)only[go_sem,simprocAttr,hf1.old]
 have htl:(all.drop nx).tail=all.drop (nx+1):=List.tail_drop
 unfold nameP at hz hQ
 rw[htl] at hz hQ
 clear hf1
 generalize hdT E (all.drop nx)=t at *
 simp(disch:=(try simp only[hN]);omega)only[go_sem,simprocAttr,tokAV]
 refine sees_tok (hp2.fr ⟨by (try simp only[hN]);omega,fun b hb hne=>by (try simp only[hN] at hb hne);simp(disch:=(try simp only[hN]);omega)only[go_sem,simprocAttr]⟩) ?_
 intro h2 hf2
 have hn2:=hf2.n;try simp only[hN] at hn2
 have hs:=seesT_is (w:=[91]) (by simp) (ts:=all.drop (nx+1))
 generalize seesT 0 (all.drop (nx+1))=S at hs ⊢
 have q1:h2.get (h1.n+1)=some ⟨1,.cells .own 0 [.int .i64 28,.int .i64 (t.pos:Int),.str t.text,.int .i64 0,.int .i64 0,.int .i64 0,.int .i64 0,.int .u64 0,.nilSlice]⟩:=by simp(disch:=(try simp only[hN]);omega)only[go_sem,simprocAttr,hf2.old]
 have q02:h2.get h.n=some ⟨0,.cells .own 0 zN⟩:=by simp(disch:=(try simp only[hN]);omega)only[go_sem,simprocAttr,hf2.old,q0]
 have hp3:RInv h2 r E all (nx+1) 0 q:=hp2.fr' (q':=h1.n) ⟨by omega,fun b hb _=>by simp(disch:=(try simp only[hN]);omega)only[go_sem,simprocAttr,hf2.old]⟩ hp2.hi
 have hff:∀b',b'<h.n→b'≠r→h2.get b'=h.get b':=fun b' hb' hr'=>by simp(disch:=(try simp only[hN]);omega)only[go_sem,simprocAttr,hf2.old,hf]
 have hlt2:=hp2.hi
 clear hf2 hf hp2 q0
 by_cases hi:isT [[91]] (all.drop (nx+1))=true
 ·rw[if_pos hi] at hz hQ
  rw[hi] at hs
  simp only[inP,hi,if_true] at hz hQ
  simp(disch:=(try simp only[hN]);omega)only[go_sem,simprocAttr,hs,q1]
  generalize hH:AHeap.upd _ _ _ _=H
  have hHn:H.n=h2.n:=by rw[←hH];simp(disch:=(try simp only[hN]);omega)only[go_sem,simprocAttr]
  have hH1:H.get (h1.n+1)=some ⟨2,.cells .own 0 [.int .i64 29,.int .i64 (t.pos:Int),.str t.text,.int .i64 0,.int .i64 0,.int .i64 0,.int .i64 0,.int .u64 0,.nilSlice]⟩:=by rw[←hH];simp(disch:=(try simp only[hN]);omega)only[go_sem,simprocAttr]
  have hHo:∀b',b'≠h1.n+1→H.get b'=h2.get b':=fun b' hb'=>by rw[←hH];simp(disch:=(try simp only[hN]);omega)only[go_sem,simprocAttr]
  clear hH
  have hp4:RInv H r E all (nx+1) 0 q:=hp3.fr' (q':=h1.n+1) ⟨by omega,fun b hb hne=>hHo b hne⟩ (by omega)
  clear q1 hp3
  refine level_tok (by simp) hlv hp4 ?_
  unfold LevQ
  rw[if_pos rfl,if_pos hi]
  by_cases h16:lv=16
  ·rw[if_pos h16] at hQ ⊢
   intro h3 hf3 hp5
   have hn3:=hf3.n;try simp only[hN] at hn3
   simp(disch:=(try simp only[hN]);omega)only[go_sem,simprocAttr]
   refine rexpr_bad hp5 (by decide) ?_
   intro h4 hf4
   have hn4:=hf4.n;try simp only[hN] at hn4
   have hp6:=hp5.fr hf4
   have r1:h4.get (h1.n+1)=_:=(hf4.all (by omega)).trans ((hf3.old _ (by omega) (by omega)).trans hH1)
   have r0:h4.get h.n=_:=(hf4.all (by omega)).trans ((hf3.old _ (by omega) (by omega)).trans ((hHo _ (by omega)).trans q02))
   simp(disch:=(try simp only[hN]);omega)only[go_sem,simprocAttr,r1]
   refine eat_tok (by simp) ((hp6.fr (h':=h4.alloc (.cells .own 9 zN)) ⟨by (try simp only[hN]);omega,fun b hb hne=>by (try simp only[hN] at hb hne);simp(disch:=(try simp only[hN]);omega)only[go_sem,simprocAttr]⟩).fr' (q':=h1.n+1) (Fr.upd _ _ _) (by omega)) ?_
   unfold EatQ
   rw[if_neg (by decide)]
   intro h5 hf5 hp7
   have hn5:=hf5.n;try simp only[hN] at hn5
   simp(disch:=(try simp only[hN]);omega)only[go_sem,simprocAttr,hf5.old,r0]
   exact hQ _ (.mk 29 t.pos t.text 0 0 0 0 0 []) _ _ (by decide) ⟨by (try simp only[hN]);omega,fun b hb hne=>by (try simp only[hN] at hb hne);simp(disch:=(try simp only[hN]);omega)only[go_sem,simprocAttr,hf5.old,hf4.old,hf3.old,hHo,hff]⟩ (hp7.fr' (q':=h.n) (Fr.upd _ _ _) hlt) rfl rfl
  ·rw[if_neg h16] at hQ hz ⊢
   intro h3 hf3 hp5
   have hn3:=hf3.n;try simp only[hN] at hn3
   have el:((lv:Int)+1)=((lv+1:Nat):Int):=by omega
   simp(disch:=(try simp only[hN]);omega)only[go_sem,simprocAttr,el]
   have htl2:(all.drop (nx+1)).tail=all.drop (nx+1+1):=List.tail_drop
   rw[htl2] at hz hQ
   have hz2:x (lv+1) (all.drop (nx+1+1))≠.error (0,0):=by intro e;rw[e] at hz;exact hz rfl
   refine hx (lv:=lv+1) (by omega) hp5 hz2 (RQ.all hz2 (hxe.ne hz2) ?_)
   intro h4 m kv nx4 e4 p4 hf4 hp6 k1 k2 hc
   have hn4:=hf4.n;try simp only[hN] at hn4
   have r1:h4.get (h1.n+1)=_:=(hf4.old _ (by omega) (by omega)).trans ((hf3.old _ (by omega) (by omega)).trans hH1)
   have r0:h4.get h.n=_:=(hf4.old _ (by omega) (by omega)).trans ((hf3.old _ (by omega) (by omega)).trans ((hHo _ (by omega)).trans q02))
   simp(disch:=(try simp only[hN]);omega)only[go_sem,simprocAttr,r1,k1,k2]
   refine eat_tok (by simp) ((hp6.fr (h':=h4.alloc (.cells .own 9 (ndC m kv))) ⟨by (try simp only[hN]);omega,fun b hb hne=>by (try simp only[hN] at hb hne);simp(disch:=(try simp only[hN]);omega)only[go_sem,simprocAttr]⟩).fr' (q':=h1.n+1) (Fr.upd _ _ _) (by omega)) ?_
   unfold EatQ
   rcases hc with ⟨rfl,rfl,hk,hxx⟩|⟨he,hxx⟩
   ·rw[hxx] at hQ hz
    simp only at hQ hz
    rw[if_pos rfl]
    by_cases hb:isT [[93]] (all.drop nx4)=true
    ·rw[if_pos hb] at hQ ⊢
     intro h5 hf5 hp7
     have hn5:=hf5.n;try simp only[hN] at hn5
     simp(disch:=(try simp only[hN]);omega)only[go_sem,simprocAttr,hf5.old,r0]
     refine hQ _ _ (nx4+1) List.tail_drop.symm ⟨by (try simp only[hN]);omega,fun b hb hne=>by (try simp only[hN] at hb hne);simp(disch:=(try simp only[hN]);omega)only[go_sem,simprocAttr,hf5.old,hf4.old,hf3.old,hHo,hff]⟩ (hp7.fr' (q':=h.n) (Fr.upd _ _ _) hlt) ?_
     exact KidsR.one (ver:=0) (kv:=kv) (hk.keep (by omega) (by simp only[hN];omega) fun b hb1 hb2=>by simp(disch:=(try simp only[hN]);omega)only[go_sem,simprocAttr,hf5.old]) (by omega) (by simp only[hN];omega) (by simp(disch:=(try simp only[hN]);omega)only[go_sem,simprocAttr,hf5.old])
    ·rw[if_neg hb] at hQ ⊢
     intro h5 hf5 hp7
     have hn5:=hf5.n;try simp only[hN] at hn5
     simp(disch:=(try simp only[hN]);omega)only[go_sem,simprocAttr,hf5.old,r0]
     exact hQ _ (.mk 29 t.pos t.text 0 0 0 0 0 []) _ _ (by decide) ⟨by (try simp only[hN]);omega,fun b hb hne=>by (try simp only[hN] at hb hne);simp(disch:=(try simp only[hN]);omega)only[go_sem,simprocAttr,hf5.old,hf4.old,hf3.old,hHo,hff]⟩ (hp7.fr' (q':=h.n) (Fr.upd _ _ _) hlt) rfl rfl
   ·rw[hxx] at hQ
    rw[if_neg he]
    intro h5 hf5 hp7
    have hn5:=hf5.n;try simp only[hN] at hn5
    simp(disch:=(try simp only[hN]);omega)only[go_sem,simprocAttr,hf5.old,r0]
    exact hQ _ (.mk 29 t.pos t.text 0 0 0 0 0 []) _ _ he ⟨by (try simp only[hN]);omega,fun b hb hne=>by (try simp only[hN] at hb hne);simp(disch:=(try simp only[hN]);omega)only[go_sem,simprocAttr,hf5.old,hf4.old,hf3.old,hHo,hff]⟩ (hp7.fr' (q':=h.n) (Fr.upd _ _ _) hlt) rfl rfl
 ·rw[if_neg hi] at hz hQ
  have hi':isT [[91]] (all.drop (nx+1))=false:=by simpa using hi
  rw[hi'] at hs
  simp(disch:=(try simp only[hN]);omega)only[go_sem,simprocAttr,hs,q1,q02]
  exact hQ _ .nilSlice (nx+1) rfl ⟨by (try simp only[hN]);omega,fun b hb hne=>by (try simp only[hN] at hb hne);simp(disch:=(try simp only[hN]);omega)only[go_sem,simprocAttr,hff]⟩ (hp3.fr' (q':=h.n) (Fr.upd _ _ _) hlt) .nil
end Go.Ev
