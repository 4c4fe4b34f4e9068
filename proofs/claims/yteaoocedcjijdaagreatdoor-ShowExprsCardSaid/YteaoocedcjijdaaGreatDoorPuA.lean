/- Tokens, without any program: what the lexer computes. -/
set_option linter.all false
set_option linter.unusedVariables false
set_option linter.unusedSimpArgs false
namespace Go.Ev
def isDigit (c:UInt8):Bool:=decide (48≤c.toNat)&&decide (c.toNat≤57)
def isLetter (c:UInt8):Bool:=(decide (97≤c.toNat)&&decide (c.toNat≤122))||(decide (65≤c.toNat)&&decide (c.toNat≤90))||decide (c.toNat=95)
def isWord (c:UInt8):Bool:=isLetter c||isDigit c
def isBlank (c:UInt8):Bool:=decide (c.toNat=32)||decide (c.toNat=9)||decide (c.toNat=10)||decide (c.toNat=13)
def notNL (c:UInt8):Bool:=!decide (c.toNat=10)
abbrev Bs:=List UInt8
structure Tok where
 kind:Nat
 text:Bs
 n:Nat
 bits:Nat
 pos:Nat
 deriving DecidableEq,Inhabited
abbrev Err:=Nat×Nat
def keys:List Bs:=[[97,100,100],[97,116,111,109,105,99],[98,111,111,108],[99,104,97,110],[101,108,115,101],[102,97,105,108],[102,97,108,115,101],[102,108,111,97,116],[102,117,110,99],[103,101,116],[103,111],[105,102],[105,110,116],[108,111,99,107],[109,117,116,101,120],[112,117,116],[114,101,99,118],[114,101,116,117,114,110],[115,101,110,100],[116,114,117,101],[117,110,108,111,99,107],[118,97,114],[119,104,105,108,101]]
def marks2:List Bs:=[[58,61],[61,61],[33,61],[60,61],[62,61],[38,38],[124,124]]
def marks1:Bs:=[43,45,42,47,37,60,62,61,33,40,41,123,125,91,93,44,59]
def hexs:Bs:=[48,49,50,51,52,53,54,55,56,57,97,98,99,100,101,102]
def findB (c:Nat):Bs→Nat→Int
 | [],_=>-1
 | x::r,i=>bif x.toNat.beq c then i else findB c r (i+1)
def hasP (a b:Bs):Bool:=a.take b.length==b
def skip1 (l:Bs):Bs:=
 let l1:=l.dropWhile isBlank
 if hasP l1 [47,47] then l1.dropWhile notNL else l1
def skipL:Nat→Bs→Bs
 | 0,l=>l
 | n+1,l=>if (skip1 l).length=l.length then l else skipL n (skip1 l)
def skip (l:Bs):Bs:=skipL l.length l
def headB (p:UInt8→Bool):Bs→Bool
 | c::_=>p c
 | []=>false
def aloneE (N:Nat) (l:Bs) (x:Tok):Except Err (Tok×Bs):=
 if headB isWord l then .error (2,N-l.length) else .ok (x,l)
def wordTok (N:Nat) (l:Bs):Except Err (Tok×Bs):=
 let t:=l.takeWhile isWord
 if 24<t.length then .error (6,N-l.length) else .ok (⟨if keys.contains t then 2 else 1,t,0,0,N-l.length⟩,l.dropWhile isWord)
def decVal (t:Bs):Nat:=t.foldl (fun v c=>10*v+(c.toNat-48)) 0
def numTok (N:Nat) (l:Bs):Except Err (Tok×Bs):=
 let zero:=match l with|c::_=>decide (c.toNat=48)|[]=>false
 let t:=if zero then [48] else l.takeWhile isDigit
 let r:=if zero then l.drop 1 else l.dropWhile isDigit
 if decVal t<2^63 then aloneE N r ⟨3,t,decVal t,0,N-l.length⟩ else .error (1,N-l.length)
def hexVal (t:Bs):Nat:=t.foldl (fun v c=>(16*v % 2^64) ||| (findB c.toNat hexs 0).toNat) 0
def isHex (c:UInt8):Bool:=decide (0≤findB c.toNat hexs 0)
def fltTok (N:Nat) (l:Bs):Except Err (Tok×Bs):=
 let d:=(l.drop 1).take 16
 if d.length=16∧d.all isHex=true then aloneE N (l.drop 17) ⟨4,l.take 17,0,hexVal d,N-l.length⟩ else .error (2,N-l.length)
def markTok (N:Nat) (l:Bs):Except Err (Tok×Bs):=
 if marks2.any (hasP l) then .ok (⟨5,l.take 2,0,0,N-l.length⟩,l.drop 2)
 else match l with
  | c::r=>if 0≤findB c.toNat marks1 0 then .ok (⟨5,[c],0,0,N-l.length⟩,r) else .error (2,N-l.length)
  | []=>.error (2,N)
def nextTok (N:Nat) (l:Bs):Except Err (Tok×Bs):=
 match l with
 | c::_=>if isLetter c then wordTok N l else if isDigit c then numTok N l else if c.toNat=35 then fltTok N l else markTok N l
 | []=>.error (2,N)
def toksL (N:Nat):Nat→Bs→Nat→Except Err (List Tok)
 | 0,_,_=>.error (0,0)
 | f+1,l,n=>
  if l=[] then .ok []
  else if n=2000 then .error (6,N-l.length)
  else match nextTok N l with
   | .error e=>.error e
   | .ok (t,r)=>match toksL N f (skip r) (n+1) with
    | .error e=>.error e
    | .ok ts=>.ok (t::ts)
def tokens (s:Bs):Except Err (List Tok):=
 if 8192<s.length then .error (6,0) else toksL s.length (s.length+1) (skip s) 0
end Go.Ev
namespace Go.Ev
def dgB (c:Nat):UInt8:=hexs.getD c 0
def digD (b:Nat):Nat→Nat→Bs
 | 0,_=>[]
 | f+1,u=>if u=0 then [] else digD b f (u / b)++[dgB (u % b)]
def digN (b f u:Nat):Bs:=if u=0 then [48] else digD b f u
def rdig (b L:Nat):Nat→Nat→Bs→Bs
 | 0,_,s=>s
 | f+1,u,s=>if 0<u∨s.length<L then rdig b L f (u / b) (dgB (u % b)::s) else s
def zeros (n:Nat):Bs:=List.replicate n 48
theorem digD_zero (b:Nat):∀f,digD b f 0=[]
 | 0=>rfl
 | f+1=>by simp [digD]
theorem rdig_eq {b L:Nat} (hb:2≤b):∀(f u:Nat) (s:Bs),u<b^f→L≤f+s.length→rdig b L f u s=zeros (L-(digD b f u).length-s.length)++digD b f u++s
 | 0,u,s,hu,hl=>by
  have:u=0:=by simpa using hu
  subst this
  have e:L-(digD b 0 0).length-s.length=0:=by simp [digD];omega
  rw[e]
  simp [rdig,digD,zeros]
 | f+1,u,s,hu,hl=>by
  simp only[rdig]
  have hu2:u / b<b^f:=by
   rw[Nat.pow_succ] at hu
   exact Nat.div_lt_of_lt_mul (by rw[Nat.mul_comm];exact hu)
  by_cases h:0<u∨s.length<L
  ·rw[if_pos h,rdig_eq hb f (u / b) _ hu2 (by simp;omega)]
   by_cases h0:u=0
   ·subst h0
    simp only[Nat.zero_div,Nat.zero_mod,digD_zero,List.append_nil,List.length_nil,List.length_cons]
    have hl:s.length<L:=h.resolve_left (by omega)
    have e:L-0-s.length=(L-0-(s.length+1))+1:=by omega
    rw[e]
    unfold zeros
    rw[List.replicate_succ']
    simp [dgB,hexs]
   ·simp only[digD,if_neg h0,List.length_append,List.length_cons,List.length_nil]
    have e:L-(digD b f (u / b)).length-(s.length+1)=L-((digD b f (u / b)).length+(0+1))-s.length:=by omega
    rw[e]
    simp
  ·have h0:u=0:=by omega
   subst h0
   rw[if_neg h]
   simp only[digD_zero,List.length_nil,List.append_nil]
   have e:L-0-s.length=0:=by omega
   rw[e]
   rfl
theorem rdig_one {b u:Nat} (hb:2≤b) (f:Nat) (hf:1≤f) (hu:u<b^f):rdig b 1 f u []=digN b f u:=by
 rw[rdig_eq hb f u [] hu (by simp;omega)]
 unfold digN
 by_cases h:u=0
 ·subst h
  rw[if_pos rfl,digD_zero]
  rfl
 ·rw[if_neg h]
  have:1≤(digD b f u).length:=by
   cases f with
   | zero=>omega
   | succ f=>simp [digD,h]
  have e:1-(digD b f u).length-([]:Bs).length=0:=by simp;omega
  rw[e]
  simp [zeros]
theorem rdig_all {b u:Nat} (hb:2≤b) (f:Nat) (hf:1≤f) (hu:u<b^f):rdig b f f u []=zeros (f-(digN b f u).length)++digN b f u:=by
 rw[rdig_eq hb f u [] hu (by simp)]
 unfold digN
 by_cases h:u=0
 ·subst h
  rw[if_pos rfl,digD_zero]
  simp only[List.length_nil,List.length_cons,List.append_nil]
  have e:f-0-0=(f-(0+1))+1:=by omega
  rw[e]
  unfold zeros
  rw[List.replicate_succ']
 ·rw[if_neg h]
  simp
end Go.Ev
namespace Go.Ev
theorem takeWhile_ne {p:UInt8→Bool} {c:UInt8} {l:Bs} (h:p c=true):(c::l).takeWhile p≠[]:=by
 rw[List.takeWhile_cons,if_pos h];exact List.cons_ne_nil _ _
theorem aloneE_ok {N:Nat} {l r:Bs} {x t:Tok} (h:aloneE N l x=.ok (t,r)):t=x∧r=l∧headB isWord l=false:=by
 unfold aloneE at h
 split at h
 ·cases h
 ·rename_i hw
  cases h
  exact ⟨rfl,rfl,by simpa using hw⟩
def numZero (l:Bs):Bool:=match l with|c::_=>decide (c.toNat=48)|[]=>false
def numText (l:Bs):Bs:=if numZero l then [48] else l.takeWhile isDigit
def numRest (l:Bs):Bs:=if numZero l then l.drop 1 else l.dropWhile isDigit
theorem numTok_eq (N:Nat) (l:Bs):numTok N l=if decVal (numText l)<2^63 then aloneE N (numRest l) ⟨3,numText l,decVal (numText l),0,N-l.length⟩ else .error (1,N-l.length):=rfl
theorem nextTok_ok {N:Nat} {l r:Bs} {t:Tok} (h:nextTok N l=.ok (t,r)):l=t.text++r∧t.text≠[]∧t.pos=N-l.length:=by
 cases l with
 | nil=>cases h
 | cons c l=>
  simp only[nextTok] at h
  split at h
  ·rename_i hc
   simp only[wordTok] at h
   split at h
   ·cases h
   ·cases h
    refine ⟨(List.takeWhile_append_dropWhile).symm,?_,rfl⟩
    exact takeWhile_ne (by simp [isWord,hc])
  ·split at h
   ·rename_i hc
    rw[numTok_eq] at h
    split at h
    ·obtain ⟨rfl,rfl,_⟩:=aloneE_ok h
     simp only[numText,numRest,numZero]
     by_cases hz:c.toNat=48
     ·have hc48:c=48:=by
       apply UInt8.toNat_inj.1;rw[hz];rfl
      simp [hc48]
     ·simp only[hz,decide_false,Bool.false_eq_true,if_false]
      exact ⟨(List.takeWhile_append_dropWhile).symm,takeWhile_ne hc,trivial⟩
    ·cases h
   ·split at h
    ·simp only[fltTok] at h
     split at h
     ·rename_i hd
      obtain ⟨rfl,rfl,_⟩:=aloneE_ok h
      refine ⟨(List.take_append_drop 17 _).symm,?_,rfl⟩
      simp
     ·cases h
    ·simp only[markTok] at h
     split at h
     ·cases h
      exact ⟨(List.take_append_drop 2 _).symm,by simp,rfl⟩
     ·split at h
      ·cases h
       exact ⟨rfl,List.cons_ne_nil _ _,rfl⟩
      ·cases h
theorem nextTok_len {N:Nat} {l r:Bs} {t:Tok} (h:nextTok N l=.ok (t,r)):r.length<l.length:=by
 obtain ⟨h1,h2,_⟩:=nextTok_ok h
 rw[h1,List.length_append]
 have:=List.length_pos_iff.2 h2
 omega
end Go.Ev
namespace Go.Ev
inductive Nd where
 | mk (kind pos:Int) (name:Bs) (typ n size obj bits:Int) (kids:List Nd)
def Nd.kind:Nd→Int|⟨k,_,_,_,_,_,_,_,_⟩=>k
def Nd.pos:Nd→Int|⟨_,k,_,_,_,_,_,_,_⟩=>k
def Nd.name:Nd→Bs|⟨_,_,k,_,_,_,_,_,_⟩=>k
def Nd.typ:Nd→Int|⟨_,_,_,k,_,_,_,_,_⟩=>k
def Nd.n:Nd→Int|⟨_,_,_,_,k,_,_,_,_⟩=>k
def Nd.size:Nd→Int|⟨_,_,_,_,_,k,_,_,_⟩=>k
def Nd.obj:Nd→Int|⟨_,_,_,_,_,_,k,_,_⟩=>k
def Nd.bits:Nd→Int|⟨_,_,_,_,_,_,_,k,_⟩=>k
def Nd.kids:Nd→List Nd|⟨_,_,_,_,_,_,_,_,k⟩=>k
end Go.Ev
namespace Go.Ev
def wordB (s:Bs):Bool:=match tokens s with
 | .ok [t]=>((t.kind:Int)==1)&&(t.text==s)
 | _=>false
def wchars:Nat→Bs→Bool
 | _,[]=>true
 | i,c::r=>(isLetter c||(decide (0<i)&&isDigit c))&&wchars (i+1) r
def rwordB (s:Bs):Bool:=wchars 0 s&&decide (1≤s.length)&&decide (s.length≤24)&&!keys.contains s
theorem wchars_pos:∀(l:Bs) (i:Nat),0<i→wchars i l=l.all isWord
 | [],_,_=>rfl
 | c::r,i,h=>by
  simp only[wchars,List.all_cons,wchars_pos r (i+1) (by omega),decide_eq_true h,Bool.true_and,isWord]
theorem w_twall {p:UInt8→Bool}:∀{l:Bs},l.all p=true→l.takeWhile p=l∧l.dropWhile p=[]
 | [],_=>⟨rfl,rfl⟩
 | c::r,h=>by
  simp only[List.all_cons,Bool.and_eq_true] at h
  obtain ⟨h1,h2⟩:=w_twall h.2
  exact ⟨by rw[List.takeWhile_cons,if_pos h.1,h1],by rw[List.dropWhile_cons,if_pos h.1,h2]⟩
theorem mem_tw {p:UInt8→Bool}:∀{l:Bs} {x:UInt8},x∈l.takeWhile p→p x=true
 | [],x,h=>by simp at h
 | c::r,x,h=>by
  rw[List.takeWhile_cons] at h
  split at h
  ·rename_i hc
   rcases List.mem_cons.1 h with rfl|h
   ·exact hc
   ·exact mem_tw h
  ·simp at h
theorem skip1_letter {c:UInt8} {r:Bs} (hc:isLetter c=true):skip1 (c::r)=c::r:=by
 have hb:isBlank c=false:=by
  simp only[isLetter,isBlank,Bool.or_eq_true,Bool.and_eq_true,decide_eq_true_eq,Bool.or_eq_false_iff,decide_eq_false_iff_not] at hc ⊢
  omega
 have hp:hasP (c::r) [47,47]=false:=by
  unfold hasP
  have:¬c=47:=fun e=>by subst e;revert hc;decide
  cases r with
  | nil=>simp
  | cons d r=>simp [this]
 unfold skip1
 simp only[List.dropWhile_cons,hb,Bool.false_eq_true,if_false,hp]
theorem skip_letter {c:UInt8} {r:Bs} (hc:isLetter c=true):skip (c::r)=c::r:=by
 unfold skip
 simp only[List.length_cons,skipL,skip1_letter hc,if_true]
theorem w_skipnil:skip []=[]:=rfl
theorem w_dwlen {p:UInt8→Bool}:∀(l:Bs),(l.dropWhile p).length≤l.length
 | []=>Nat.le_refl _
 | c::r=>by
  rw[List.dropWhile_cons]
  split
  ·have:=w_dwlen (p:=p) r
   simp only[List.length_cons];omega
  ·exact Nat.le_refl _
theorem w_skip1 (l:Bs):(skip1 l).length≤l.length:=by
 unfold skip1
 simp only
 split
 ·exact Nat.le_trans (w_dwlen _) (w_dwlen _)
 ·exact w_dwlen _
theorem w_skipL:∀(n:Nat) (l:Bs),(skipL n l).length≤l.length
 | 0,l=>Nat.le_refl _
 | n+1,l=>by
  simp only[skipL]
  split
  ·exact Nat.le_refl _
  ·exact Nat.le_trans (w_skipL n _) (w_skip1 l)
theorem w_skip (l:Bs):(skip l).length≤l.length:=w_skipL _ _
theorem w_next1 {N:Nat} {l r:Bs} {t:Tok} (h:nextTok N l=.ok (t,r)) (hk:t.kind=1):headB isLetter l=true∧(l.takeWhile isWord).length≤24∧keys.contains (l.takeWhile isWord)=false∧t.text=l.takeWhile isWord∧r=l.dropWhile isWord:=by
 cases l with
 | nil=>cases h
 | cons c l=>
  simp only[nextTok] at h
  split at h
  ·rename_i hc
   simp only[wordTok] at h
   split at h
   ·cases h
   ·rename_i hl
    cases h
    refine ⟨hc,by omega,?_,rfl,rfl⟩
    simp only at hk
    cases e:keys.contains ((c::l).takeWhile isWord) with
    | false=>rfl
    | true=>rw[e] at hk;simp at hk
  ·exfalso
   split at h
   ·rw[numTok_eq] at h
    split at h
    ·obtain ⟨rfl,_,_⟩:=aloneE_ok h
     simp at hk
    ·cases h
   ·split at h
    ·simp only[fltTok] at h
     split at h
     ·obtain ⟨rfl,_,_⟩:=aloneE_ok h
      simp at hk
     ·cases h
    ·simp only[markTok] at h
     split at h
     ·cases h;simp at hk
     ·split at h
      ·cases h;simp at hk
      ·cases h
theorem w_toks1 {N f n:Nat} {l:Bs} {t:Tok} (h:toksL N f l n=.ok [t]):∃r,nextTok N l=.ok (t,r):=by
 cases f with
 | zero=>cases h
 | succ f=>
  simp only[toksL] at h
  split at h
  ·cases h
  ·split at h
   ·cases h
   ·split at h
    ·cases h
    ·rename_i t' r hq
     split at h
     ·cases h
     ·rename_i ts hts
      simp only[Except.ok.injEq,List.cons.injEq] at h
      obtain ⟨rfl,rfl⟩:=h
      exact ⟨r,hq⟩
theorem wordB_eq (s:Bs):wordB s=rwordB s:=by
 rw[Bool.eq_iff_iff]
 constructor
 ·intro h
  unfold wordB at h
  split at h
  ·rename_i t ht
   simp only[Bool.and_eq_true,beq_iff_eq] at h
   obtain ⟨hk,htx⟩:=h
   replace hk:t.kind=1:=by omega
   unfold tokens at ht
   split at ht
   ·cases ht
   ·obtain ⟨r,hn⟩:=w_toks1 ht
    obtain ⟨g1,g2,g3,g4,g5⟩:=w_next1 hn hk
    have hlen:=w_skip s
    have hsplit:skip s=s++r:=by
     conv=>lhs;rw[←List.takeWhile_append_dropWhile (p:=isWord) (l:=skip s)]
     rw[←g4,←g5,htx]
    have hr:r=[]:=by
     have:=congrArg List.length hsplit
     rw[List.length_append] at this
     exact List.length_eq_zero_iff.1 (by omega)
    subst hr
    rw[List.append_nil] at hsplit
    rw[hsplit] at g1 g2 g3 g4 g5
    rw[htx] at g4
    rw[←g4] at g2 g3
    cases s with
    | nil=>cases g1
    | cons c r=>
     have hall:(c::r).all isWord=true:=by
      rw[List.all_eq_true]
      intro x hx
      have h4:(c::r)=(c::r).takeWhile isWord:=g4
      rw[h4] at hx
      exact mem_tw hx
     simp only[List.all_cons,Bool.and_eq_true] at hall
     simp only[rwordB,wchars,wchars_pos r 1 (by omega),Bool.and_eq_true,Bool.or_eq_true,decide_eq_true_eq,List.length_cons,Bool.not_eq_true']
     have g1':isLetter c=true:=g1
     exact ⟨⟨⟨⟨.inl g1',hall.2⟩,by omega⟩,g2⟩,g3⟩
  ·cases h
 ·intro h
  cases s with
  | nil=>simp [rwordB] at h
  | cons c r=>
   simp only[rwordB,wchars,wchars_pos r 1 (by omega),Bool.and_eq_true,Bool.or_eq_true,decide_eq_true_eq,List.length_cons,Bool.not_eq_true'] at h
   obtain ⟨⟨⟨⟨h1,h2⟩,_⟩,h3⟩,h4⟩:=h
   have hc:isLetter c=true:=by
    rcases h1 with h1|h1
    ·exact h1
    ·exact absurd h1.1 (by omega)
   have hall:(c::r).all isWord=true:=by
    simp only[List.all_cons,Bool.and_eq_true]
    exact ⟨by simp [isWord,hc],h2⟩
   obtain ⟨t1,t2⟩:=w_twall hall
   have hn:nextTok (r.length+1) (c::r)=.ok (⟨1,c::r,0,0,0⟩,[]):=by
    simp only[nextTok,hc,if_true,wordTok,t1,t2,h4]
    rw[if_neg (by simp only[List.length_cons];omega)]
    simp
   unfold wordB tokens
   rw[if_neg (by simp only[List.length_cons];omega),skip_letter hc]
   simp only[List.length_cons,toksL,hn,w_skipnil]
   simp
end Go.Ev
namespace Go.Ev
mutual
def Nd.count:Nd→Nat
 | ⟨_,_,_,_,_,_,_,_,ks⟩=>1+cntL ks
def cntL:List Nd→Nat
 | []=>0
 | k::ks=>k.count+cntL ks
end
mutual
def Nd.depth:Nd→Nat
 | ⟨_,_,_,_,_,_,_,_,ks⟩=>1+dptL ks
def dptL:List Nd→Nat
 | []=>0
 | k::ks=>max k.depth (dptL ks)
end
mutual
def Nd.same:Nd→Nd→Bool
 | ⟨k,_,m,t,n,s,o,b,ks⟩,⟨k',_,m',t',n',s',o',b',ks'⟩=>k==k'&&m==m'&&t==t'&&n==n'&&s==s'&&o==o'&&b==b'&&sameL ks ks'
def sameL:List Nd→List Nd→Bool
 | [],[]=>true
 | k::ks,k'::ks'=>k.same k'&&sameL ks ks'
 | _,_=>false
end
theorem cntL_append:∀(a b:List Nd),cntL (a++b)=cntL a+cntL b
 | [],b=>by simp [cntL]
 | k::a,b=>by simp [cntL,cntL_append a b,Nat.add_assoc]
theorem cntL_take {ns:List Nd} {i:Nat} (h:i<ns.length):cntL (ns.take (i+1))=cntL (ns.take i)+ns[i].count:=by
 rw[List.take_succ_eq_append_getElem h,cntL_append]
 simp [cntL]
theorem cntL_le {ns:List Nd} (i:Nat):cntL (ns.take i)≤cntL ns:=by
 have:=congrArg cntL (List.take_append_drop i ns)
 rw[cntL_append] at this
 omega
theorem dptL_append:∀(a b:List Nd),dptL (a++b)=max (dptL a) (dptL b)
 | [],b=>by simp [dptL]
 | k::a,b=>by simp [dptL,dptL_append a b,Nat.max_assoc]
theorem dptL_take {ns:List Nd} {i:Nat} (h:i<ns.length):dptL (ns.take (i+1))=max (dptL (ns.take i)) ns[i].depth:=by
 rw[List.take_succ_eq_append_getElem h,dptL_append]
 simp [dptL]
end Go.Ev
namespace Go.Ev
def bareB (n:Nd) (nm:Bs) (t k bits:Int):Bool:=(n.name==nm)&&(n.typ==t)&&(n.n==k)&&(n.size==0)&&(n.obj==0)&&(n.bits==bits)
def rks:List (List Bs):=[[[124,124]],[[38,38]],[[61,61],[33,61],[60],[60,61],[62],[62,61]],[[43],[45]],[[42],[47],[37]]]
def rkOf:Nat→List (List Bs)→Bs→Nat
 | _,[],_=>0
 | i,l::r,s=>if l.contains s then i+1 else rkOf (i+1) r s
def rankN (s:Bs):Nat:=rkOf 0 rks s
def opB (s:Bs):Bool:=(s==[45])||(s==[33])||(s==[105,110,116])||(s==[102,108,111,97,116])
def exprA (n:Nd):Bool×Nat:=
 if n.kind=25 then (decide (0≤n.n)&&bareB n [] 0 n.n 0,0)
 else if n.kind=26 then (bareB n [] 0 0 n.bits,0)
 else if n.kind=27 then (((n.n==0)||(n.n==1))&&bareB n [] 0 n.n 0,0)
 else if n.kind=28 then (wordB n.name&&bareB n n.name 0 0 0,0)
 else if n.kind=29 then (wordB n.name&&bareB n n.name 0 0 0,1)
 else if n.kind=30 then (opB n.name&&bareB n n.name 0 0 0,1)
 else if n.kind=31 then (decide (0<rankN n.name)&&bareB n n.name 0 0 0,2)
 else (false,0)
mutual
def Nd.exprF:Nd→Bool
 | ⟨k,p,m,t,n,s,o,b,ks⟩=>(exprA ⟨k,p,m,t,n,s,o,b,ks⟩).1&&decide (ks.length=(exprA ⟨k,p,m,t,n,s,o,b,ks⟩).2)&&exprsF ks
def exprsF:List Nd→Bool
 | []=>true
 | k::ks=>k.exprF&&exprsF ks
end
theorem exprF_eq (n:Nd):n.exprF=((exprA n).1&&decide (n.kids.length=(exprA n).2)&&exprsF n.kids):=by cases n;rfl
theorem exprsF_take {ns:List Nd} {i:Nat} (h:i<ns.length):exprsF (ns.take (i+1))=(exprsF (ns.take i)&&ns[i].exprF):=by
 induction ns generalizing i with
 | nil=>simp at h
 | cons k ks ih=>
  cases i with
  | zero=>simp [exprsF]
  | succ i=>simp only[List.take_succ_cons,exprsF,List.getElem_cons_succ,ih (by simpa using h),Bool.and_assoc]
theorem exprsF_get {ns:List Nd} {i:Nat} (h:i<ns.length) (hf:ns[i].exprF=false):exprsF ns=false:=by
 induction ns generalizing i with
 | nil=>simp at h
 | cons k ks ih=>
  cases i with
  | zero=>simp only[List.getElem_cons_zero] at hf;simp [exprsF,hf]
  | succ i=>simp only[List.getElem_cons_succ] at hf;simp [exprsF,ih (by simpa using h) hf]
mutual
def Nd.longB:Nd→Bool
 | ⟨_,_,m,_,_,_,_,_,ks⟩=>decide (300<m.length)||longsB ks
def longsB:List Nd→Bool
 | []=>false
 | k::ks=>k.longB||longsB ks
end
theorem longB_eq (n:Nd):n.longB=(decide (300<n.name.length)||longsB n.kids):=by cases n;rfl
theorem longsB_get {ns:List Nd} {i:Nat} (h:i<ns.length) (hf:longsB ns=false):ns[i].longB=false:=by
 induction ns generalizing i with
 | nil=>simp at h
 | cons k ks ih=>
  simp only[longsB,Bool.or_eq_false_iff] at hf
  cases i with
  | zero=>exact hf.1
  | succ i=>simpa using ih (by simpa using h) hf.2
theorem longsB_take {ns:List Nd} {i:Nat} (h:i<ns.length):longsB (ns.take (i+1))=(longsB (ns.take i)||ns[i].longB):=by
 induction ns generalizing i with
 | nil=>simp at h
 | cons k ks ih=>
  cases i with
  | zero=>simp [longsB]
  | succ i=>simp only[List.take_succ_cons,longsB,List.getElem_cons_succ,ih (by simpa using h),Bool.or_assoc]
theorem longsB_true {ns:List Nd} {i:Nat} (h:i<ns.length) (hf:ns[i].longB=true):longsB ns=true:=by
 induction ns generalizing i with
 | nil=>simp at h
 | cons k ks ih=>
  cases i with
  | zero=>simp only[List.getElem_cons_zero] at hf;simp [longsB,hf]
  | succ i=>simp only[List.getElem_cons_succ] at hf;simp [longsB,ih (by simpa using h) hf]
end Go.Ev
namespace Go.Ev
def wrapB (least:Nat) (n:Nd) (s:Bs):Bs:=if n.kind=31∧rankN n.name<least then 40::s++[41] else s
def txtA (n:Nd) (k:List (Nd×Bs)):Bs:=
 if n.kind=25 then digN 10 20 n.n.toNat
 else if n.kind=26 then 35::(zeros (16-(digN 16 16 n.bits.toNat).length)++digN 16 16 n.bits.toNat)
 else if n.kind=27 then (if n.n=1 then [116,114,117,101] else [102,97,108,115,101])
 else if n.kind=28 then n.name
 else match k with
 | [(_,a)]=>if n.kind=29 then n.name++(91::a++[93]) else if 1<n.name.length then n.name++(40::a++[41]) else n.name++wrapB 6 (k.headD (.mk 0 0 [] 0 0 0 0 0 [],[])).1 a
 | [(x,a),(y,b)]=>wrapB (if rankN n.name=3 then 4 else rankN n.name) x a++(32::n.name++(32::wrapB (rankN n.name+1) y b))
 | _=>[]
mutual
def Nd.txt:Nd→Bs
 | ⟨k,p,m,t,n,s,o,b,ks⟩=>txtA ⟨k,p,m,t,n,s,o,b,ks⟩ (kidTx ks)
def kidTx:List Nd→List (Nd×Bs)
 | []=>[]
 | k::ks=>(k,k.txt)::kidTx ks
end
theorem txt_eq (n:Nd):n.txt=txtA n (kidTx n.kids):=by cases n;rfl
def Nd.txtW (n:Nd) (least:Nat):Bs:=wrapB least n n.txt
theorem digD_le (b:Nat):∀(f u:Nat),(digD b f u).length≤f
 | 0,_=>Nat.le_refl _
 | f+1,u=>by
  simp only[digD]
  split
  ·simp
  ·have:=digD_le b f (u / b)
   simp;omega
theorem digN_le (b f u:Nat) (hf:1≤f):(digN b f u).length≤f:=by
 unfold digN
 split
 ·simpa using hf
 ·exact digD_le b f u
theorem wrapB_le (least:Nat) (n:Nd) (s:Bs):(wrapB least n s).length≤s.length+2:=by
 unfold wrapB
 split
 ·simp
 ·omega
theorem txtA_le (n:Nd) (k:List (Nd×Bs)) (hn:n.name.length≤300):(txtA n k).length≤310+(k.map fun x=>x.2.length).sum:=by
 unfold txtA
 split
 ·have:=digN_le 10 20 n.n.toNat (by decide);omega
 ·split
  ·have:=digN_le 16 16 n.bits.toNat (by decide)
   simp [zeros];omega
  ·split
   ·split<;>simp<;>omega
   ·split
    ·omega
    ·split
     ·rename_i x a
      split
      ·simp;omega
      ·split
       ·simp;omega
       ·have:=wrapB_le 6 x a
        simp;omega
     ·rename_i x a y b
      have h1:=wrapB_le (if rankN n.name=3 then 4 else rankN n.name) x a
      have h2:=wrapB_le (rankN n.name+1) y b
      simp;omega
     ·simp
mutual
theorem txt_le:∀(n:Nd),n.longB=false→n.txt.length≤310*n.count
 | ⟨k,p,m,t,n,s,o,b,ks⟩,h=>by
  simp only[Nd.longB,Bool.or_eq_false_iff,decide_eq_false_iff_not] at h
  have h1:=txtA_le ⟨k,p,m,t,n,s,o,b,ks⟩ (kidTx ks) (by show m.length≤300;omega)
  have h2:=kidTx_le ks h.2
  simp only[Nd.txt,Nd.count]
  omega
theorem kidTx_le:∀(ks:List Nd),longsB ks=false→((kidTx ks).map fun x=>x.2.length).sum≤310*cntL ks
 | [],_=>by simp [kidTx]
 | k::ks,h=>by
  simp only[longsB,Bool.or_eq_false_iff] at h
  have h1:=txt_le k h.1
  have h2:=kidTx_le ks h.2
  simp only[kidTx,List.map_cons,List.sum_cons,cntL]
  omega
end
def inR (n:Nd):Bool:=decide (n.n≤9223372036854775807)&&decide (0≤n.bits)&&decide (n.bits≤18446744073709551615)
mutual
def Nd.rngB:Nd→Bool
 | ⟨k,p,m,t,n,s,o,b,ks⟩=>inR ⟨k,p,m,t,n,s,o,b,ks⟩&&rngsB ks
def rngsB:List Nd→Bool
 | []=>true
 | k::ks=>k.rngB&&rngsB ks
end
theorem rngB_eq (n:Nd):n.rngB=(inR n&&rngsB n.kids):=by cases n;rfl
theorem rngsB_get {ns:List Nd} {i:Nat} (h:i<ns.length) (hf:rngsB ns=true):ns[i].rngB=true:=by
 induction ns generalizing i with
 | nil=>simp at h
 | cons k ks ih=>
  simp only[rngsB,Bool.and_eq_true] at hf
  cases i with
  | zero=>exact hf.1
  | succ i=>simpa using ih (by simpa using h) hf.2
end Go.Ev
namespace Go.Ev
end Go.Ev
namespace Go.Ev
def fldB (fn ft fw fb:Bool) (n:Nd):Bool:=(fn||n.n==0)&&(ft||n.typ==0)&&(fw||n.name==[])&&(fb||n.bits==0)&&(n.size==0)&&(n.obj==0)
theorem bare_n (n:Nd):bareB n [] 0 n.n 0=fldB true false false false n:=by
 simp only[bareB,fldB,beq_self_eq_true,Bool.true_or,Bool.false_or,Bool.and_true,Bool.true_and]
 rw[Bool.eq_iff_iff];simp only[Bool.and_eq_true];constructor<;>(rintro ⟨⟨⟨⟨h1,h2⟩,h3⟩,h4⟩,h5⟩;simp only[*,and_self])
theorem bare_b (n:Nd):bareB n [] 0 0 n.bits=fldB false false false true n:=by
 simp only[bareB,fldB,beq_self_eq_true,Bool.true_or,Bool.false_or,Bool.and_true,Bool.true_and]
 rw[Bool.eq_iff_iff];simp only[Bool.and_eq_true];constructor<;>(rintro ⟨⟨⟨⟨h1,h2⟩,h3⟩,h4⟩,h5⟩;simp only[*,and_self])
theorem bare_w (n:Nd):bareB n n.name 0 0 0=fldB false false true false n:=by
 simp only[bareB,fldB,beq_self_eq_true,Bool.true_or,Bool.false_or,Bool.and_true,Bool.true_and]
 rw[Bool.eq_iff_iff];simp only[Bool.and_eq_true];constructor<;>(rintro ⟨⟨⟨⟨h1,h2⟩,h3⟩,h4⟩,h5⟩;simp only[*,and_self])
end Go.Ev
