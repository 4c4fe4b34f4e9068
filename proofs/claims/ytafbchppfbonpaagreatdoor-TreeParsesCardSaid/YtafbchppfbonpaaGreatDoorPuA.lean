/- Tokens, without any program: what the lexer computes. -/
set_option linter.all false
set_option linter.unusedVariables false
set_option linter.unusedSimpArgs false
namespace Go.Ev
def isDigit (c:UInt8):Bool:=decide (48≤c.toNat)&&decide (c.toNat≤57)
def isLetter (c:UInt8):Bool:=(decide (97≤c.toNat)&&decide (c.toNat≤122))||(decide (65≤c.toNat)&&decide (c.toNat≤90))||decide (c.toNat=95)
def isWord (c:UInt8):Bool:=isLetter c||isDigit c
def isBlank (c:UInt8):Bool:=decide (c.toNat=32)||decide (c.toNat=9)||decide (c.toNat=10)||decide (c.toNat=13)
def notNL (c:UInt8):Bool:=!decide (c.toNat=10)
abbrev Bs:=List UInt8
structure Tok where
 kind:Nat
 text:Bs
 n:Nat
 bits:Nat
 pos:Nat
 deriving DecidableEq,Inhabited
abbrev Err:=Nat×Nat
def keys:List Bs:=[[97,100,100],[97,116,111,109,105,99],[98,111,111,108],[99,104,97,110],[101,108,115,101],[102,97,105,108],[102,97,108,115,101],[102,108,111,97,116],[102,117,110,99],[103,101,116],[103,111],[105,102],[105,110,116],[108,111,99,107],[109,117,116,101,120],[112,117,116],[114,101,99,118],[114,101,116,117,114,110],[115,101,110,100],[116,114,117,101],[117,110,108,111,99,107],[118,97,114],[119,104,105,108,101]]
def marks2:List Bs:=[[58,61],[61,61],[33,61],[60,61],[62,61],[38,38],[124,124]]
def marks1:Bs:=[43,45,42,47,37,60,62,61,33,40,41,123,125,91,93,44,59]
def hexs:Bs:=[48,49,50,51,52,53,54,55,56,57,97,98,99,100,101,102]
def findB (c:Nat):Bs→Nat→Int
 | [],_=>-1
 | x::r,i=>bif x.toNat.beq c then i else findB c r (i+1)
def hasP (a b:Bs):Bool:=a.take b.length==b
def skip1 (l:Bs):Bs:=
 let l1:=l.dropWhile isBlank
 if hasP l1 [47,47] then l1.dropWhile notNL else l1
def skipL:Nat→Bs→Bs
 | 0,l=>l
 | n+1,l=>if (skip1 l).length=l.length then l else skipL n (skip1 l)
def skip (l:Bs):Bs:=skipL l.length l
def headB (p:UInt8→Bool):Bs→Bool
 | c::_=>p c
 | []=>false
def aloneE (N:Nat) (l:Bs) (x:Tok):Except Err (Tok×Bs):=
 if headB isWord l then .error (2,N-l.length) else .ok (x,l)
def wordTok (N:Nat) (l:Bs):Except Err (Tok×Bs):=
 let t:=l.takeWhile isWord
 if 24<t.length then .error (6,N-l.length) else .ok (⟨if keys.contains t then 2 else 1,t,0,0,N-l.length⟩,l.dropWhile isWord)
def decVal (t:Bs):Nat:=t.foldl (fun v c=>10*v+(c.toNat-48)) 0
def numTok (N:Nat) (l:Bs):Except Err (Tok×Bs):=
 let zero:=match l with|c::_=>decide (c.toNat=48)|[]=>false
 let t:=if zero then [48] else l.takeWhile isDigit
 let r:=if zero then l.drop 1 else l.dropWhile isDigit
 if decVal t<2^63 then aloneE N r ⟨3,t,decVal t,0,N-l.length⟩ else .error (1,N-l.length)
def hexVal (t:Bs):Nat:=t.foldl (fun v c=>(16*v % 2^64) ||| (findB c.toNat hexs 0).toNat) 0
def isHex (c:UInt8):Bool:=decide (0≤findB c.toNat hexs 0)
def fltTok (N:Nat) (l:Bs):Except Err (Tok×Bs):=
 let d:=(l.drop 1).take 16
 if d.length=16∧d.all isHex=true then aloneE N (l.drop 17) ⟨4,l.take 17,0,hexVal d,N-l.length⟩ else .error (2,N-l.length)
def markTok (N:Nat) (l:Bs):Except Err (Tok×Bs):=
 if marks2.any (hasP l) then .ok (⟨5,l.take 2,0,0,N-l.length⟩,l.drop 2)
 else match l with
  | c::r=>if 0≤findB c.toNat marks1 0 then .ok (⟨5,[c],0,0,N-l.length⟩,r) else .error (2,N-l.length)
  | []=>.error (2,N)
def nextTok (N:Nat) (l:Bs):Except Err (Tok×Bs):=
 match l with
 | c::_=>if isLetter c then wordTok N l else if isDigit c then numTok N l else if c.toNat=35 then fltTok N l else markTok N l
 | []=>.error (2,N)
def toksL (N:Nat):Nat→Bs→Nat→Except Err (List Tok)
 | 0,_,_=>.error (0,0)
 | f+1,l,n=>
  if l=[] then .ok []
  else if n=2000 then .error (6,N-l.length)
  else match nextTok N l with
   | .error e=>.error e
   | .ok (t,r)=>match toksL N f (skip r) (n+1) with
    | .error e=>.error e
    | .ok ts=>.ok (t::ts)
def tokens (s:Bs):Except Err (List Tok):=
 if 8192<s.length then .error (6,0) else toksL s.length (s.length+1) (skip s) 0
end Go.Ev
namespace Go.Ev
theorem takeWhile_ne {p:UInt8→Bool} {c:UInt8} {l:Bs} (h:p c=true):(c::l).takeWhile p≠[]:=by
 rw[List.takeWhile_cons,if_pos h];exact List.cons_ne_nil _ _
theorem aloneE_ok {N:Nat} {l r:Bs} {x t:Tok} (h:aloneE N l x=.ok (t,r)):t=x∧r=l∧headB isWord l=false:=by
 unfold aloneE at h
 split at h
 ·cases h
 ·rename_i hw
  cases h
  exact ⟨rfl,rfl,by simpa using hw⟩
def numZero (l:Bs):Bool:=match l with|c::_=>decide (c.toNat=48)|[]=>false
def numText (l:Bs):Bs:=if numZero l then [48] else l.takeWhile isDigit
def numRest (l:Bs):Bs:=if numZero l then l.drop 1 else l.dropWhile isDigit
theorem numTok_eq (N:Nat) (l:Bs):numTok N l=if decVal (numText l)<2^63 then aloneE N (numRest l) ⟨3,numText l,decVal (numText l),0,N-l.length⟩ else .error (1,N-l.length):=rfl
theorem nextTok_ok {N:Nat} {l r:Bs} {t:Tok} (h:nextTok N l=.ok (t,r)):l=t.text++r∧t.text≠[]∧t.pos=N-l.length:=by
 cases l with
 | nil=>cases h
 | cons c l=>
  simp only[nextTok] at h
  split at h
  ·rename_i hc
   simp only[wordTok] at h
   split at h
   ·cases h
   ·cases h
    refine ⟨(List.takeWhile_append_dropWhile).symm,?_,rfl⟩
    exact takeWhile_ne (by simp [isWord,hc])
  ·split at h
   ·rename_i hc
    rw[numTok_eq] at h
    split at h
    ·obtain ⟨rfl,rfl,_⟩:=aloneE_ok h
     simp only[numText,numRest,numZero]
     by_cases hz:c.toNat=48
     ·have hc48:c=48:=by
       apply UInt8.toNat_inj.1;rw[hz];rfl
      simp [hc48]
     ·simp only[hz,decide_false,Bool.false_eq_true,if_false]
      exact ⟨(List.takeWhile_append_dropWhile).symm,takeWhile_ne hc,trivial⟩
    ·cases h
   ·split at h
    ·simp only[fltTok] at h
     split at h
     ·rename_i hd
      obtain ⟨rfl,rfl,_⟩:=aloneE_ok h
      refine ⟨(List.take_append_drop 17 _).symm,?_,rfl⟩
      simp
     ·cases h
    ·simp only[markTok] at h
     split at h
     ·cases h
      exact ⟨(List.take_append_drop 2 _).symm,by simp,rfl⟩
     ·split at h
      ·cases h
       exact ⟨rfl,List.cons_ne_nil _ _,rfl⟩
      ·cases h
theorem nextTok_len {N:Nat} {l r:Bs} {t:Tok} (h:nextTok N l=.ok (t,r)):r.length<l.length:=by
 obtain ⟨h1,h2,_⟩:=nextTok_ok h
 rw[h1,List.length_append]
 have:=List.length_pos_iff.2 h2
 omega
end Go.Ev
namespace Go.Ev
theorem isDigit_iff {c:UInt8}:isDigit c=true↔48≤c.toNat∧c.toNat≤57:=by simp [isDigit]
end Go.Ev
namespace Go.Ev
theorem dropWhile_blanks {b s:Bs} (hb:b.all isBlank=true):(b++s).dropWhile isBlank=s.dropWhile isBlank:=by
 induction b with
 | nil=>rfl
 | cons c b ih=>
  simp only[List.all_cons,Bool.and_eq_true] at hb
  rw[List.cons_append,List.dropWhile_cons,if_pos hb.1,ih hb.2]
theorem skip1_le (l:Bs):(skip1 l).length≤l.length:=by
 unfold skip1
 simp only
 have h1:=(List.dropWhile_suffix isBlank (l:=l)).length_le
 split
 ·exact Nat.le_trans (List.dropWhile_suffix notNL (l:=l.dropWhile isBlank)).length_le h1
 ·exact h1
theorem skip1_suf' (l:Bs):skip1 l <:+ l:=by
 unfold skip1
 simp only
 split
 ·exact (List.dropWhile_suffix _).trans (List.dropWhile_suffix _)
 ·exact List.dropWhile_suffix _
theorem skipL_fuel':∀(n m:Nat) (l:Bs),l.length≤n→l.length≤m→skipL n l=skipL m l:=by
 intro n
 induction n with
 | zero=>
  intro m l h1 _
  have hl:l=[]:=List.length_eq_zero_iff.1 (by omega)
  subst hl
  cases m with
  | zero=>rfl
  | succ m=>simp [skipL,skip1,hasP]
 | succ n ih=>
  intro m l h1 h2
  cases m with
  | zero=>
   have hl:l=[]:=List.length_eq_zero_iff.1 (by omega)
   subst hl
   simp [skipL,skip1,hasP]
  | succ m=>
   simp only[skipL]
   split
   ·rfl
   ·rename_i hne
    have:=skip1_le l
    exact ih m _ (by omega) (by omega)
theorem skip_eq' (l:Bs):skip l=if (skip1 l).length=l.length then l else skip (skip1 l):=by
 have h:skip l=skipL (l.length+1) l:=skipL_fuel' _ _ _ (Nat.le_refl _) (by omega)
 rw[h]
 simp only[skipL]
 split
 ·rfl
 ·exact skipL_fuel' _ _ _ (skip1_le l) (Nat.le_refl _)
theorem skip_skip1 (l:Bs):skip (skip1 l)=skip l:=by
 rw[skip_eq' l]
 split
 ·rename_i h
  rw[(skip1_suf' l).eq_of_length h]
  rw[skip_eq',if_pos h]
 ·rfl
theorem skip_blanks {b s:Bs} (hb:b.all isBlank=true):skip (b++s)=skip s:=by
 have h:skip1 (b++s)=skip1 s:=by simp only[skip1,dropWhile_blanks hb]
 rw[←skip_skip1 (b++s),h,skip_skip1]
theorem skip_suf' (l:Bs):skip l <:+ l:=by
 suffices ∀n (l:Bs),l.length≤n→skip l <:+ l from this _ l (Nat.le_refl _)
 intro n
 induction n with
 | zero=>
  intro l h
  have hl:l=[]:=List.length_eq_zero_iff.1 (by omega)
  subst hl
  exact List.suffix_refl _
 | succ n ih=>
  intro l h
  rw[skip_eq']
  split
  ·exact List.suffix_refl _
  ·have:=skip1_le l
   exact (ih _ (by omega)).trans (skip1_suf' l)
def Tok.move (m:Nat) (t:Tok):Tok:={ t with pos:=t.pos+m }
def blk (k:Nat):Bs:=(List.range k).map fun i=>[32,10,9,13].getD (i % 4) 0
def okErr (N:Nat) {α:Type}:Except Err α→Prop
 | .ok _=>True
 | .error (e,p)=>(1≤e∧e≤17)∧p≤N
theorem aloneE_err {N:Nat} {l:Bs} {t:Tok}:okErr N (aloneE N l t):=by
 unfold aloneE
 split
 ·exact ⟨by decide,by omega⟩
 ·trivial
theorem next_err {N:Nat} {l:Bs}:okErr N (nextTok N l):=by
 cases l with
 | nil=>exact ⟨by decide,Nat.le_refl _⟩
 | cons c l=>
  simp only[nextTok]
  split
  ·simp only[wordTok]
   split
   ·exact ⟨by decide,by omega⟩
   ·trivial
  ·split
   ·rw[numTok_eq]
    split
    ·exact aloneE_err
    ·exact ⟨by decide,by omega⟩
   ·split
    ·simp only[fltTok]
     split
     ·exact aloneE_err
     ·exact ⟨by decide,by omega⟩
    ·simp only[markTok]
     split
     ·trivial
     ·split
      ·trivial
      ·exact ⟨by decide,by omega⟩
theorem toksL_err {N:Nat}:∀(f:Nat) (l:Bs) (n:Nat),l.length<f→okErr N (toksL N f l n):=by
 intro f
 induction f with
 | zero=>intro l n h;omega
 | succ f ih=>
  intro l n hf
  simp only[toksL]
  split
  ·trivial
  ·split
   ·exact ⟨by decide,by omega⟩
   ·have h0:=next_err (N:=N) (l:=l)
    cases hx:nextTok N l with
    | error e=>rw[hx] at h0;exact h0
    | ok x=>
     obtain ⟨t,r⟩:=x
     have h1:=nextTok_len hx
     have h2:=(skip_suf' r).length_le
     have h3:=ih (skip r) (n+1) (by omega)
     simp only
     cases hy:toksL N f (skip r) (n+1) with
     | error e=>rw[hy] at h3;exact h3
     | ok ts=>trivial
theorem tokens_err (s:Bs):okErr s.length (tokens s):=by
 unfold tokens
 split
 ·exact ⟨by decide,by omega⟩
 ·exact toksL_err _ _ _ (by have:=(skip_suf' s).length_le;omega)
theorem toksL_len {N:Nat}:∀(f:Nat) (l:Bs) (n:Nat) (ts:List Tok),n≤2000→toksL N f l n=.ok ts→n+ts.length≤2000:=by
 intro f
 induction f with
 | zero=>intro l n ts _ h;cases h
 | succ f ih=>
  intro l n ts hn h
  simp only[toksL] at h
  split at h
  ·cases h;simpa using hn
  ·split at h
   ·cases h
   ·cases hx:nextTok N l with
    | error e=>rw[hx] at h;cases h
    | ok x=>
     obtain ⟨t,r⟩:=x
     rw[hx] at h
     simp only at h
     cases hy:toksL N f (skip r) (n+1) with
     | error e=>rw[hy] at h;cases h
     | ok us=>
      rw[hy] at h
      cases h
      have:=ih (skip r) (n+1) us (by omega) hy
      simp only[List.length_cons]
      omega
theorem tokens_len {s:Bs} {ts:List Tok} (h:tokens s=.ok ts):ts.length≤2000:=by
 unfold tokens at h
 split at h
 ·cases h
 ·have:=toksL_len _ _ _ _ (by decide) h
  omega
theorem toksL_pos {N:Nat}:∀(f:Nat) (l:Bs) (n:Nat) (ts:List Tok),toksL N f l n=.ok ts→∀t∈ts,t.pos≤N:=by
 intro f
 induction f with
 | zero=>intro l n ts h;cases h
 | succ f ih=>
  intro l n ts h
  simp only[toksL] at h
  split at h
  ·cases h;intro t ht;cases ht
  ·split at h
   ·cases h
   ·cases hx:nextTok N l with
    | error e=>rw[hx] at h;cases h
    | ok x=>
     obtain ⟨t,r⟩:=x
     rw[hx] at h
     simp only at h
     cases hy:toksL N f (skip r) (n+1) with
     | error e=>rw[hy] at h;cases h
     | ok us=>
      rw[hy] at h
      cases h
      intro t' ht
      rcases List.mem_cons.1 ht with rfl|ht
      ·have:=(nextTok_ok hx).2.2
       omega
      ·exact ih _ _ _ hy t' ht
end Go.Ev
namespace Go.Ev
theorem hasP_2 {l:Bs} {x y:UInt8} (h:hasP l [x,y]=true):∃r,l=x::y::r:=by
 have h1:=beq_iff_eq.1 h
 match l,h1 with
 | a::b::r,h1=>simp at h1;obtain ⟨rfl,rfl⟩:=h1;exact ⟨r,rfl⟩
 | [a],h1=>simp at h1
 | [],h1=>simp at h1
def Gap (r:Bs):Prop:=r=[]∨∃x,r=32::x
theorem Gap.word {r:Bs} (h:Gap r):headB isWord r=false:=by
 rcases h with rfl|⟨x,rfl⟩<;>rfl
theorem Gap.digit {r:Bs} (h:Gap r):headB isDigit r=false:=by
 rcases h with rfl|⟨x,rfl⟩<;>rfl
theorem marks2_len:∀m∈marks2,m.length=2∧m[1]?≠some 32:=by decide
theorem skip_of_normal {c:UInt8} {l:Bs} (h1:isBlank c=false) (h2:hasP (c::l) [47,47]=false):skip (c::l)=c::l:=by
 have hd:(c::l).dropWhile isBlank=c::l:=by rw[List.dropWhile_cons,if_neg (by simp [h1])]
 have e:skip1 (c::l)=c::l:=by
  unfold skip1
  simp only[hd,h2,Bool.false_eq_true,if_false]
 rw[skip_eq',if_pos (by rw[e])]
end Go.Ev
namespace Go.Ev
inductive Nd where
 | mk (kind pos:Int) (name:Bs) (typ n size obj bits:Int) (kids:List Nd)
def Nd.kind:Nd→Int|⟨k,_,_,_,_,_,_,_,_⟩=>k
def Nd.pos:Nd→Int|⟨_,k,_,_,_,_,_,_,_⟩=>k
def Nd.name:Nd→Bs|⟨_,_,k,_,_,_,_,_,_⟩=>k
def Nd.typ:Nd→Int|⟨_,_,_,k,_,_,_,_,_⟩=>k
def Nd.n:Nd→Int|⟨_,_,_,_,k,_,_,_,_⟩=>k
def Nd.size:Nd→Int|⟨_,_,_,_,_,k,_,_,_⟩=>k
def Nd.obj:Nd→Int|⟨_,_,_,_,_,_,k,_,_⟩=>k
def Nd.bits:Nd→Int|⟨_,_,_,_,_,_,_,k,_⟩=>k
def Nd.kids:Nd→List Nd|⟨_,_,_,_,_,_,_,_,k⟩=>k
def hdT (E:Nat):List Tok→Tok
 | []=>⟨0,[],0,0,E⟩
 | t::_=>t
def isT (ws:List Bs):List Tok→Bool
 | []=>false
 | t::_=>(decide (t.kind=2)||decide (t.kind=5))&&ws.contains t.text
abbrev PR:=Except Err (Nd×List Tok)
abbrev PT:=Nat→List Tok→PR
def binN (n:Nd) (op:Bs) (k:Nd):Nd:=.mk 31 n.pos op 0 0 0 0 0 [n,k]
def rowL (u:PT) (many:Bool) (ops:List Bs) (lv:Nat):Nat→Nd→List Tok→PR
 | 0,_,_=>.error (0,0)
 | f+1,n,ts=>
  if isT ops ts then match u lv ts.tail with
   | .error e=>.error e
   | .ok (k,ts')=>if many then rowL u many ops lv f (binN n (hdT 0 ts).text k) ts' else .ok (binN n (hdT 0 ts).text k,ts')
  else .ok (n,ts)
def rowP (many:Bool) (ops:List Bs) (u:PT):PT:=fun lv ts=>
 match u lv ts with
 | .error e=>.error e
 | .ok (n,ts')=>rowL u many ops lv (ts'.length+1) n ts'
def inP (E:Nat) (a b:Bs) (x:PT):PT:=fun lv ts=>
 if isT [a] ts then
  if lv=16 then .error (3,(hdT E ts).pos)
  else match x (lv+1) ts.tail with
   | .error e=>.error e
   | .ok (k,ts')=>if isT [b] ts' then .ok (k,ts'.tail) else .error (2,(hdT E ts').pos)
 else .error (2,(hdT E ts).pos)
def nameP (E:Nat) (x:PT):PT:=fun lv ts=>
 if isT [[91]] ts.tail then match inP E [91] [93] x lv ts.tail with
  | .error e=>.error e
  | .ok (k,ts')=>.ok (.mk 29 (hdT E ts).pos (hdT E ts).text 0 0 0 0 0 [k],ts')
 else .ok (.mk 28 (hdT E ts).pos (hdT E ts).text 0 0 0 0 0 [],ts.tail)
def primP (E:Nat) (x:PT):PT:=fun lv ts=>
 if (hdT E ts).kind=3 then .ok (.mk 25 (hdT E ts).pos [] 0 (hdT E ts).n 0 0 0 [],ts.tail)
 else if (hdT E ts).kind=4 then .ok (.mk 26 (hdT E ts).pos [] 0 0 0 0 (hdT E ts).bits [],ts.tail)
 else if (hdT E ts).kind=1 then nameP E x lv ts
 else if isT [[116,114,117,101]] ts then .ok (.mk 27 (hdT E ts).pos [] 0 1 0 0 0 [],ts.tail)
 else if isT [[102,97,108,115,101]] ts then .ok (.mk 27 (hdT E ts).pos [] 0 0 0 0 0 [],ts.tail)
 else if isT [[105,110,116],[102,108,111,97,116]] ts then match inP E [40] [41] x lv ts.tail with
  | .error e=>.error e
  | .ok (k,ts')=>.ok (.mk 30 (hdT E ts).pos (hdT E ts).text 0 0 0 0 0 [k],ts')
 else inP E [40] [41] x lv ts
def exprOf (u:PT):PT:=
 rowP true [[124,124]] (rowP true [[38,38]] (rowP false [[61,61],[33,61],[60],[60,61],[62],[62,61]] (rowP true [[43],[45]] (rowP true [[42],[47],[37]] u))))
def unP (E:Nat):Nat→PT
 | 0,_,_=>.error (0,0)
 | f+1,lv,ts=>
  if isT [[45],[33]] ts then
   if lv=16 then .error (3,(hdT E ts).pos)
   else match unP E f (lv+1) ts.tail with
    | .error e=>.error e
    | .ok (k,ts')=>.ok (.mk 30 (hdT E ts).pos (hdT E ts).text 0 0 0 0 0 [k],ts')
  else primP E (exprOf (unP E f)) lv ts
def readP (p:Nat→Nat→PT) (s:Bs):Except Err Nd:=
 match tokens s with
 | .error e=>.error e
 | .ok ts=>match p s.length (ts.length+1) 0 ts with
  | .error e=>.error e
  | .ok (n,[])=>.ok n
  | .ok (_,t::_)=>.error (2,t.pos)
def exprP (E f:Nat):PT:=exprOf (unP E f)
def exprS (s:Bs):Except Err Nd:=readP exprP s
def Fine (m:Nat) (u:PT):Prop:=∀lv ts,ts.length≤m→match u lv ts with
 | .error e=>e.1=2∨e.1=3
 | .ok (_,ts')=>ts'.length<ts.length
theorem isT_ne {ws:List Bs} {ts:List Tok} (h:isT ws ts=true):ts≠[]:=by rintro rfl;simp [isT] at h
theorem tail_lt {ts:List Tok} (h:ts≠[]):ts.tail.length<ts.length:=by cases ts;exact absurd rfl h;simp
theorem rowL_fine {m:Nat} {u:PT} (hu:Fine m u) {many:Bool} {ops:List Bs} {lv:Nat}:∀(f:Nat) (n:Nd) (ts:List Tok),ts.length<f→ts.length≤m→match rowL u many ops lv f n ts with
  | .error e=>e.1=2∨e.1=3
  | .ok (_,ts')=>ts'.length≤ts.length
 | 0,_,_,h,_=>absurd h (Nat.not_lt_zero _)
 | f+1,n,ts,h,hm=>by
  unfold rowL
  by_cases hi:isT ops ts=true
  ·rw[if_pos hi]
   have ht:=tail_lt (isT_ne hi)
   have h1:=hu lv ts.tail (by omega)
   cases hx:u lv ts.tail with
   | error e=>rw[hx] at h1;exact h1
   | ok y=>
    obtain ⟨k,ts'⟩:=y
    rw[hx] at h1
    simp only at h1 ⊢
    cases many with
    | false=>simp only[Bool.false_eq_true,if_false];omega
    | true=>
     simp only[if_true]
     have h2:=rowL_fine hu (many:=true) (ops:=ops) (lv:=lv) f (binN n (hdT 0 ts).text k) ts' (by omega) (by omega)
     revert h2
     cases rowL u true ops lv f (binN n (hdT 0 ts).text k) ts' with
     | error e=>exact id
     | ok y=>obtain ⟨_,z⟩:=y;intro h2;simp only at h2 ⊢;omega
  ·rw[if_neg hi];exact Nat.le_refl _
theorem rowP_fine {m:Nat} {u:PT} (hu:Fine m u) {many:Bool} {ops:List Bs}:Fine m (rowP many ops u):=by
 intro lv ts hm
 unfold rowP
 have h1:=hu lv ts hm
 cases hx:u lv ts with
 | error e=>rw[hx] at h1;exact h1
 | ok y=>
  obtain ⟨n,ts'⟩:=y
  rw[hx] at h1
  simp only at h1 ⊢
  have h2:=rowL_fine hu (many:=many) (ops:=ops) (lv:=lv) (ts'.length+1) n ts' (by omega) (by omega)
  revert h2
  cases rowL u many ops lv (ts'.length+1) n ts' with
  | error e=>exact id
  | ok y=>obtain ⟨_,z⟩:=y;intro h2;simp only at h2 ⊢;omega
theorem inP_fine {m E:Nat} {a b:Bs} {x:PT} (hx:Fine m x):Fine (m+1) (inP E a b x):=by
 intro lv ts hm
 unfold inP
 by_cases hi:isT [a] ts=true
 ·rw[if_pos hi]
  have ht:=tail_lt (isT_ne hi)
  by_cases hl:lv=16
  ·rw[if_pos hl];exact .inr rfl
  ·rw[if_neg hl]
   have h1:=hx (lv+1) ts.tail (by omega)
   cases hy:x (lv+1) ts.tail with
   | error e=>rw[hy] at h1;exact h1
   | ok y=>
    obtain ⟨k,ts'⟩:=y
    rw[hy] at h1
    simp only at h1 ⊢
    by_cases hb:isT [b] ts'=true
    ·rw[if_pos hb]
     have:=tail_lt (isT_ne hb)
     simp only
     omega
    ·rw[if_neg hb];exact .inl rfl
 ·rw[if_neg hi];exact .inl rfl
theorem hdT_ne {E:Nat} {ts:List Tok} (h:(hdT E ts).kind≠0):ts≠[]:=by rintro rfl;exact h rfl
theorem exprOf_fine {m:Nat} {u:PT} (hu:Fine m u):Fine m (exprOf u):=rowP_fine (rowP_fine (rowP_fine (rowP_fine (rowP_fine hu))))
theorem primP_fine {m E:Nat} {x:PT} (hx:Fine m x):Fine (m+1) (primP E x):=by
 intro lv ts hm
 unfold primP
 by_cases h3:(hdT E ts).kind=3
 ·rw[if_pos h3];exact tail_lt (hdT_ne (E:=E) (by omega))
 rw[if_neg h3]
 by_cases h4:(hdT E ts).kind=4
 ·rw[if_pos h4];exact tail_lt (hdT_ne (E:=E) (by omega))
 rw[if_neg h4]
 by_cases h1:(hdT E ts).kind=1
 ·rw[if_pos h1]
  have ht:=tail_lt (hdT_ne (E:=E) (ts:=ts) (by omega))
  unfold nameP
  by_cases hb:isT [[91]] ts.tail=true
  ·rw[if_pos hb]
   have h2:=inP_fine (E:=E) (a:=[91]) (b:=[93]) hx lv ts.tail (by omega)
   cases hy:inP E [91] [93] x lv ts.tail with
   | error e=>rw[hy] at h2;exact h2
   | ok y=>obtain ⟨k,z⟩:=y;rw[hy] at h2;simp only at h2 ⊢;omega
  ·rw[if_neg hb];exact ht
 rw[if_neg h1]
 by_cases ht:isT [[116,114,117,101]] ts=true
 ·rw[if_pos ht];exact tail_lt (isT_ne ht)
 rw[if_neg ht]
 by_cases hf:isT [[102,97,108,115,101]] ts=true
 ·rw[if_pos hf];exact tail_lt (isT_ne hf)
 rw[if_neg hf]
 by_cases hc:isT [[105,110,116],[102,108,111,97,116]] ts=true
 ·rw[if_pos hc]
  have ht:=tail_lt (isT_ne hc)
  have h2:=inP_fine (E:=E) (a:=[40]) (b:=[41]) hx lv ts.tail (by omega)
  cases hy:inP E [40] [41] x lv ts.tail with
  | error e=>rw[hy] at h2;exact h2
  | ok y=>obtain ⟨k,z⟩:=y;rw[hy] at h2;simp only at h2 ⊢;omega
 rw[if_neg hc]
 exact inP_fine hx lv ts hm
theorem unP_fine {E:Nat}:∀f,Fine f (unP E (f+1))
 | 0=>by
  intro lv ts hm
  have:ts=[]:=List.length_eq_zero_iff.1 (by omega)
  subst this
  simp [unP,isT,primP,hdT,inP]
 | f+1=>by
  intro lv ts hm
  rw[unP]
  by_cases hi:isT [[45],[33]] ts=true
  ·rw[if_pos hi]
   have ht:=tail_lt (isT_ne hi)
   by_cases hl:lv=16
   ·rw[if_pos hl];exact .inr rfl
   ·rw[if_neg hl]
    have h1:=unP_fine (E:=E) f (lv+1) ts.tail (by omega)
    cases hy:unP E (f+1) (lv+1) ts.tail with
    | error e=>rw[hy] at h1;exact h1
    | ok y=>obtain ⟨k,z⟩:=y;rw[hy] at h1;simp only at h1 ⊢;omega
  ·rw[if_neg hi]
   exact primP_fine (exprOf_fine (unP_fine f)) lv ts hm
theorem exprP_fine {E:Nat} (f:Nat):Fine f (exprP E (f+1)):=exprOf_fine (unP_fine f)
end Go.Ev
namespace Go.Ev
def nd0 (kind:Int) (pos:Nat) (name:Bs) (kids:List Nd):Nd:=.mk kind pos name 0 0 0 0 0 kids
def takeP (E k:Nat) (ts:List Tok):Except Err (Tok×List Tok):=if (hdT E ts).kind=k then .ok (hdT E ts,ts.tail) else .error (2,(hdT E ts).pos)
def mustP (E:Nat) (w:Bs) (ts:List Tok):Except Err (List Tok):=if isT [w] ts then .ok ts.tail else .error (2,(hdT E ts).pos)
def typN (t:Tok):Nat:=if t.kind=2 then (if t.text=[105,110,116] then 1 else if t.text=[102,108,111,97,116] then 2 else if t.text=[98,111,111,108] then 3 else 0) else 0
def typP (E:Nat) (ts:List Tok):Except Err (Nat×List Tok):=if typN (hdT E ts)=0 then .error (2,(hdT E ts).pos) else .ok (typN (hdT E ts),ts.tail)
def sizedP (E:Nat) (ts:List Tok):Except Err (Nat×List Tok):=
 match mustP E [91] ts with
 | .error e=>.error e
 | .ok ts1=>match takeP E 3 ts1 with
  | .error e=>.error e
  | .ok (t,ts2)=>match mustP E [93] ts2 with
   | .error e=>.error e
   | .ok ts3=>.ok (t.n,ts3)
abbrev LR:=Except Err (List Nd×List Tok)
def commaL (E:Nat) (x:List Tok→PR):Nat→List Nd→List Tok→LR
 | 0,_,_=>.error (0,0)
 | f+1,acc,ts=>match x ts with
  | .error e=>.error e
  | .ok (n,ts1)=>if isT [[44]] ts1 then commaL E x f (acc++[n]) ts1.tail else .ok (acc++[n],ts1)
def commaP (E:Nat) (x:List Tok→PR) (ts:List Tok):LR:=if isT [[41]] ts then .ok ([],ts) else commaL E x (ts.length+1) [] ts
def paramP (E:Nat) (ts:List Tok):PR:=
 match takeP E 1 ts with
 | .error e=>.error e
 | .ok (t,ts1)=>match typP E ts1 with
  | .error e=>.error e
  | .ok (y,ts2)=>.ok (.mk 8 t.pos t.text y 0 0 0 0 [],ts2)
def paramsP (E:Nat) (ts:List Tok):LR:=
 match mustP E [40] ts with
 | .error e=>.error e
 | .ok ts1=>match commaP E (paramP E) ts1 with
  | .error e=>.error e
  | .ok (ns,ts2)=>match mustP E [41] ts2 with
   | .error e=>.error e
   | .ok ts3=>.ok (ns,ts3)
def exprT (E:Nat):PT:=fun lv ts=>exprP E (ts.length+1) lv ts
def openP (E:Nat) (w:Bs) (lv:Nat) (ts:List Tok):Except Err (List Tok):=
 if isT [w] ts then if lv=16 then .error (3,(hdT E ts).pos) else .ok ts.tail else .error (2,(hdT E ts).pos)
def argsP (E lv:Nat) (ts:List Tok):LR:=
 match openP E [40] lv ts with
 | .error e=>.error e
 | .ok ts1=>match commaP E (exprT E (lv+1)) ts1 with
  | .error e=>.error e
  | .ok (ns,ts2)=>match mustP E [41] ts2 with
   | .error e=>.error e
   | .ok ts3=>.ok (ns,ts3)
def targetP (E:Nat):PT:=fun lv ts=>if (hdT E ts).kind=1 then nameP E (exprP E (ts.length+1)) lv ts else .error (2,(hdT E ts).pos)
def namedP (E kind what:Nat):PT:=fun lv ts=>
 match takeP E 1 ts.tail with
 | .error e=>.error e
 | .ok (t,ts1)=>
  if what=0 then .ok (nd0 kind (hdT E ts).pos t.text [],ts1)
  else match mustP E [44] ts1 with
   | .error e=>.error e
   | .ok ts2=>match (if what=1 then exprT E lv ts2 else targetP E lv ts2) with
    | .error e=>.error e
    | .ok (k,ts3)=>.ok (nd0 kind (hdT E ts).pos t.text [k],ts3)
def mark2 (ts:List Tok) (w:Bs):Bool:=match ts with
 | _::t::_=>decide (t.kind=5)&&t.text==w
 | _=>false
def wordedP (E:Nat):PT:=fun lv ts=>
 if mark2 ts [58,61] then match exprT E lv ts.tail.tail with
  | .error e=>.error e
  | .ok (k,ts1)=>.ok (nd0 11 (hdT E ts).pos (hdT E ts).text [k],ts1)
 else if mark2 ts [40] then match argsP E lv ts.tail with
  | .error e=>.error e
  | .ok (ks,ts1)=>.ok (nd0 13 (hdT E ts).pos (hdT E ts).text ks,ts1)
 else match targetP E lv ts with
  | .error e=>.error e
  | .ok (x,ts1)=>match mustP E [61] ts1 with
   | .error e=>.error e
   | .ok ts2=>match exprT E lv ts2 with
    | .error e=>.error e
    | .ok (k,ts3)=>.ok (nd0 10 (hdT E ts).pos [] [x,k],ts3)
def goP (E:Nat):PT:=fun lv ts=>
 match takeP E 1 ts.tail with
 | .error e=>.error e
 | .ok (t,ts1)=>match argsP E lv ts1 with
  | .error e=>.error e
  | .ok (ks,ts2)=>.ok (nd0 12 (hdT E ts).pos t.text ks,ts2)
def failP (E:Nat):PT:=fun lv ts=>
 match mustP E [102,97,105,108] ts with
 | .error e=>.error e
 | .ok ts1=>match exprT E lv ts1 with
  | .error e=>.error e
  | .ok (k,ts2)=>.ok (nd0 24 (hdT E ts).pos [] [k],ts2)
def simpleP (E:Nat):PT:=fun lv ts=>
 if (hdT E ts).kind=1 then wordedP E lv ts
 else if (hdT E ts).kind≠2 then .error (2,(hdT E ts).pos)
 else if (hdT E ts).text=[103,111] then goP E lv ts
 else if (hdT E ts).text=[108,111,99,107] then namedP E 14 0 lv ts
 else if (hdT E ts).text=[117,110,108,111,99,107] then namedP E 15 0 lv ts
 else if (hdT E ts).text=[115,101,110,100] then namedP E 16 1 lv ts
 else if (hdT E ts).text=[114,101,99,118] then namedP E 17 2 lv ts
 else if (hdT E ts).text=[97,100,100] then namedP E 18 1 lv ts
 else if (hdT E ts).text=[112,117,116] then namedP E 19 1 lv ts
 else if (hdT E ts).text=[103,101,116] then namedP E 20 2 lv ts
 else if (hdT E ts).text=[114,101,116,117,114,110] then .ok (nd0 23 (hdT E ts).pos [] [],ts.tail)
 else failP E lv ts
def semiP (E:Nat) (x:PT):PT:=fun lv ts=>
 match x lv ts with
 | .error e=>.error e
 | .ok (n,ts1)=>match mustP E [59] ts1 with
  | .error e=>.error e
  | .ok ts2=>.ok (n,ts2)
def ifP (E:Nat) (b:PT):PT:=fun lv ts=>
 match exprT E lv ts.tail with
 | .error e=>.error e
 | .ok (c,ts1)=>match b lv ts1 with
  | .error e=>.error e
  | .ok (x,ts2)=>
   if isT [[101,108,115,101]] ts2 then match b lv ts2.tail with
    | .error e=>.error e
    | .ok (y,ts3)=>.ok (nd0 21 (hdT E ts).pos [] [c,x,y],ts3)
   else .ok (nd0 21 (hdT E ts).pos [] [c,x],ts2)
def whileP (E:Nat) (b:PT):PT:=fun lv ts=>
 match exprT E lv ts.tail with
 | .error e=>.error e
 | .ok (c,ts1)=>match b lv ts1 with
  | .error e=>.error e
  | .ok (x,ts2)=>.ok (nd0 22 (hdT E ts).pos [] [c,x],ts2)
def stmtP (E:Nat) (b:PT):PT:=fun lv ts=>
 if isT [[105,102]] ts then ifP E b lv ts
 else if isT [[119,104,105,108,101]] ts then whileP E b lv ts
 else semiP E (simpleP E) lv ts
def upToL (x:List Tok→PR) (stop:List Tok→Bool):Nat→List Nd→List Tok→LR
 | 0,_,_=>.error (0,0)
 | f+1,acc,ts=>if stop ts then .ok (acc,ts) else match x ts with
  | .error e=>.error e
  | .ok (n,ts1)=>upToL x stop f (acc++[n]) ts1
def blockOf (E:Nat) (st:PT):PT:=fun lv ts=>
 match openP E [123] lv ts with
 | .error e=>.error e
 | .ok ts1=>match upToL (st (lv+1)) (isT [[125]]) (ts1.length+1) [] ts1 with
  | .error e=>.error e
  | .ok (ks,ts2)=>.ok (nd0 9 (hdT E ts).pos [] ks,ts2.tail)
def blockP (E:Nat):Nat→PT
 | 0,_,_=>.error (0,0)
 | f+1,lv,ts=>blockOf E (stmtP E (blockP E f)) lv ts
def declP (E:Nat) (ts:List Tok):PR:=
 if isT [[118,97,114],[109,117,116,101,120],[99,104,97,110],[97,116,111,109,105,99],[102,117,110,99]] ts then
  match takeP E 1 ts.tail with
  | .error e=>.error e
  | .ok (t,ts1)=>
   if (hdT E ts).text=[109,117,116,101,120] then match mustP E [59] ts1 with
    | .error e=>.error e
    | .ok ts2=>.ok (nd0 4 (hdT E ts).pos t.text [],ts2)
   else if (hdT E ts).text=[97,116,111,109,105,99] then match mustP E [59] ts1 with
    | .error e=>.error e
    | .ok ts2=>.ok (nd0 6 (hdT E ts).pos t.text [],ts2)
   else if (hdT E ts).text=[99,104,97,110] then match sizedP E ts1 with
    | .error e=>.error e
    | .ok (n,ts2)=>match typP E ts2 with
     | .error e=>.error e
     | .ok (y,ts3)=>match mustP E [59] ts3 with
      | .error e=>.error e
      | .ok ts4=>.ok (.mk 5 (hdT E ts).pos t.text y n 0 0 0 [],ts4)
   else if (hdT E ts).text=[102,117,110,99] then match paramsP E ts1 with
    | .error e=>.error e
    | .ok (ps,ts2)=>match blockP E (ts2.length+1) 0 ts2 with
     | .error e=>.error e
     | .ok (b,ts3)=>.ok (.mk 7 (hdT E ts).pos t.text 0 ps.length 0 0 0 (ps++[b]),ts3)
   else if isT [[91]] ts1 then match sizedP E ts1 with
    | .error e=>.error e
    | .ok (n,ts2)=>match typP E ts2 with
     | .error e=>.error e
     | .ok (y,ts3)=>match mustP E [59] ts3 with
      | .error e=>.error e
      | .ok ts4=>.ok (.mk 3 (hdT E ts).pos t.text y n 0 0 0 [],ts4)
   else match typP E ts1 with
    | .error e=>.error e
    | .ok (y,ts3)=>match mustP E [59] ts3 with
     | .error e=>.error e
     | .ok ts4=>.ok (.mk 2 (hdT E ts).pos t.text y 0 0 0 0 [],ts4)
 else .error (2,(hdT E ts).pos)
def progP (E:Nat):Nat→PT:=fun f _ ts=>
 match upToL (declP E) List.isEmpty f [] ts with
 | .error e=>.error e
 | .ok (ks,ts1)=>.ok (nd0 1 (hdT E ts).pos [] ks,ts1)
def parseS (s:Bs):Except Err Nd:=readP progP s
end Go.Ev
namespace Go.Ev
def FE {α:Type} (ts:List Tok) (k:Nat):Except Err (α×List Tok)→Prop
 | .error e=>e.1=2∨e.1=3
 | .ok (_,ts')=>ts'.length+k≤ts.length
def FineT (u:PT):Prop:=∀lv ts,FE ts 1 (u lv ts)
theorem FE.weak {α:Type} {ts:List Tok} {k j:Nat} {r:Except Err (α×List Tok)} (h:FE ts k r) (hj:j≤k):FE ts j r:=by
 cases r with
 | error e=>exact h
 | ok y=>obtain ⟨x,ts'⟩:=y;simp only[FE] at h ⊢;omega
theorem FE.more {α:Type} {ts ts1:List Tok} {k j:Nat} {r:Except Err (α×List Tok)} (h:FE ts1 k r) (hj:ts1.length+j≤ts.length):FE ts (k+j) r:=by
 cases r with
 | error e=>exact h
 | ok y=>obtain ⟨x,ts'⟩:=y;simp only[FE] at h ⊢;omega
theorem FE.ne {α:Type} {ts:List Tok} {k:Nat} {r:Except Err (α×List Tok)} (h:FE ts k r):r≠.error (0,0):=by
 rintro rfl;rcases h with h|h<;>cases h
theorem exprT_fine {E:Nat}:FineT (exprT E):=by
 intro lv ts
 have:=exprP_fine (E:=E) ts.length lv ts (Nat.le_refl _)
 unfold exprT
 cases hx:exprP E (ts.length+1) lv ts with
 | error e=>rw[hx] at this;exact this
 | ok y=>obtain ⟨n,ts'⟩:=y;rw[hx] at this;simp only[FE] at this ⊢;omega
theorem takeP_fine {E k:Nat} (hk:k≠0) {ts:List Tok}:FE ts 1 (takeP E k ts):=by
 unfold takeP
 split
 ·rename_i h
  have:=tail_lt (hdT_ne (E:=E) (ts:=ts) (by omega))
  simp only[FE];omega
 ·exact .inl rfl
theorem must_ok {E:Nat} {w:Bs} {ts ts':List Tok} (h:mustP E w ts=.ok ts'):isT [w] ts=true∧ts'=ts.tail∧ts'.length+1≤ts.length:=by
 unfold mustP at h
 split at h
 ·rename_i hi
  cases h
  have:=tail_lt (isT_ne hi)
  exact ⟨hi,rfl,by omega⟩
 ·cases h
theorem must_er {E:Nat} {w:Bs} {ts:List Tok} {e:Err} (h:mustP E w ts=.error e):e.1=2∨e.1=3:=by
 unfold mustP at h
 split at h
 ·cases h
 ·cases h;exact .inl rfl
theorem typP_fine {E:Nat} {ts:List Tok}:FE ts 1 (typP E ts):=by
 unfold typP
 split
 ·exact .inl rfl
 ·rename_i h
  have hne:ts≠[]:=by rintro rfl;exact h rfl
  have:=tail_lt hne
  simp only[FE];omega
theorem sizedP_fine {E:Nat} {ts:List Tok}:FE ts 1 (sizedP E ts):=by
 unfold sizedP
 cases h1:mustP E [91] ts with
 | error e=>exact must_er h1
 | ok ts1=>
  obtain ⟨_,_,l1⟩:=must_ok h1
  have h2:=takeP_fine (E:=E) (k:=3) (by decide) (ts:=ts1)
  cases hx:takeP E 3 ts1 with
  | error e=>rw[hx] at h2;simp only[hx];exact h2
  | ok y=>
   obtain ⟨t,ts2⟩:=y
   rw[hx] at h2
   simp only[hx]
   cases h3:mustP E [93] ts2 with
   | error e=>exact must_er h3
   | ok ts3=>obtain ⟨_,_,l3⟩:=must_ok h3;simp only[FE] at h2 ⊢;omega
theorem commaL_fine {E:Nat} {x:List Tok→PR} (hx:∀ts,FE ts 1 (x ts)):∀(f:Nat) (acc:List Nd) (ts:List Tok),ts.length<f→FE ts 0 (commaL E x f acc ts)
 | 0,_,_,h=>absurd h (Nat.not_lt_zero _)
 | f+1,acc,ts,h=>by
  unfold commaL
  have h1:=hx ts
  cases hy:x ts with
  | error e=>rw[hy] at h1;exact h1
  | ok y=>
   obtain ⟨n,ts1⟩:=y
   rw[hy] at h1
   simp only[FE] at h1
   simp only
   split
   ·have ht:ts1.tail.length≤ts1.length:=by rw[List.length_tail];omega
    have h2:=commaL_fine (E:=E) hx f (acc++[n]) ts1.tail (by omega)
    cases hz:commaL E x f (acc++[n]) ts1.tail with
    | error e=>rw[hz] at h2;exact h2
    | ok z=>obtain ⟨_,ts2⟩:=z;rw[hz] at h2;simp only[FE] at h2 ⊢;omega
   ·simp only[FE];omega
theorem commaP_fine {E:Nat} {x:List Tok→PR} (hx:∀ts,FE ts 1 (x ts)) (ts:List Tok):FE ts 0 (commaP E x ts):=by
 unfold commaP
 split
 ·exact Nat.le_refl _
 ·exact commaL_fine hx _ _ _ (Nat.lt_succ_self _)
theorem paramP_fine {E:Nat} (ts:List Tok):FE ts 1 (paramP E ts):=by
 unfold paramP
 have h1:=takeP_fine (E:=E) (k:=1) (by decide) (ts:=ts)
 cases hx:takeP E 1 ts with
 | error e=>rw[hx] at h1;exact h1
 | ok y=>
  obtain ⟨t,ts1⟩:=y
  rw[hx] at h1
  simp only
  have h2:=typP_fine (E:=E) (ts:=ts1)
  cases hy:typP E ts1 with
  | error e=>rw[hy] at h2;exact h2
  | ok z=>obtain ⟨_,ts2⟩:=z;rw[hy] at h2;simp only[FE] at h1 h2 ⊢;omega
theorem open_ok {E lv:Nat} {w:Bs} {ts ts':List Tok} (h:openP E w lv ts=.ok ts'):isT [w] ts=true∧ts'=ts.tail∧lv≠16∧ts'.length+1≤ts.length:=by
 unfold openP at h
 split at h
 ·rename_i hi
  split at h
  ·cases h
  ·rename_i h16
   cases h
   have:=tail_lt (isT_ne hi)
   exact ⟨hi,rfl,h16,by omega⟩
 ·cases h
theorem open_er {E lv:Nat} {w:Bs} {ts:List Tok} {e:Err} (h:openP E w lv ts=.error e):e.1=2∨e.1=3:=by
 unfold openP at h
 split at h
 ·split at h
  ·cases h;exact .inr rfl
  ·cases h
 ·cases h;exact .inl rfl
theorem listed_fine {E:Nat} {ts:List Tok} {x:LR} (hx:FE ts 0 x):FE ts 1 (match x with
  | .error e=>.error e
  | .ok (ns,ts2)=>match mustP E [41] ts2 with
   | .error e=>.error e
   | .ok ts3=>(.ok (ns,ts3):LR)):=by
 cases x with
 | error e=>exact hx
 | ok y=>
  obtain ⟨ns,ts2⟩:=y
  simp only
  cases h3:mustP E [41] ts2 with
  | error e=>exact must_er h3
  | ok ts3=>obtain ⟨_,_,l3⟩:=must_ok h3;simp only[FE] at hx ⊢;omega
theorem paramsP_fine {E:Nat} {ts:List Tok}:FE ts 2 (paramsP E ts):=by
 unfold paramsP
 cases h1:mustP E [40] ts with
 | error e=>exact must_er h1
 | ok ts1=>
  obtain ⟨_,_,l1⟩:=must_ok h1
  show FE ts 2 _
  have:=(listed_fine (E:=E) (commaP_fine (E:=E) (x:=paramP E) paramP_fine ts1)).more l1
  simp only at this ⊢
  exact this
theorem argsP_fine {E lv:Nat} {ts:List Tok}:FE ts 2 (argsP E lv ts):=by
 unfold argsP
 cases h1:openP E [40] lv ts with
 | error e=>exact open_er h1
 | ok ts1=>
  obtain ⟨_,_,_,l1⟩:=open_ok h1
  have:=(listed_fine (E:=E) (commaP_fine (E:=E) (x:=exprT E (lv+1)) (fun ts=>exprT_fine (lv+1) ts) ts1)).more l1
  simp only at this ⊢
  exact this
end Go.Ev
namespace Go.Ev
def FineM (m:Nat) (u:PT):Prop:=∀lv ts,ts.length<m→FE ts 1 (u lv ts)
theorem FE.open {β:Type} {E lv:Nat} {w:Bs} {ts:List Tok} {f:List Tok→Except Err (β×List Tok)} {j:Nat} (hf:∀(ts1:List Tok),ts1.length+1≤ts.length→FE ts j (f ts1)):FE ts j (match openP E w lv ts with
  | .error e=>.error e
  | .ok ts1=>f ts1):=by
 cases h:openP E w lv ts with
 | error e=>exact open_er h
 | ok ts1=>exact hf ts1 (open_ok h).2.2.2
theorem FE.up {α:Type} {ts ts1:List Tok} {k j:Nat} {r:Except Err (α×List Tok)} (h:FE ts1 k r) (hl:ts1.length+j≤ts.length+k):FE ts j r:=by
 cases r with
 | error e=>exact h
 | ok y=>obtain ⟨x,ts'⟩:=y;simp only[FE] at h ⊢;omega
theorem tail_le {ts:List Tok}:ts.tail.length≤ts.length:=by rw[List.length_tail];omega
@[elab_as_elim] theorem FE.el {α:Type} {P:Except Err (α×List Tok)→Prop} (r:Except Err (α×List Tok)) {ts1:List Tok} {k:Nat} (h:FE ts1 k r) (he:∀e:Err,(e.1=2∨e.1=3)→P (.error e)) (ho:∀(x:α) (ts2:List Tok),ts2.length+k≤ts1.length→P (.ok (x,ts2))):P r:=by
 cases r with
 | error e=>exact he e h
 | ok y=>obtain ⟨x,ts1⟩:=y;exact ho x ts1 h
@[elab_as_elim] theorem FE.mel {P:Except Err (List Tok)→Prop} {E:Nat} {w:Bs} {ts1:List Tok} (r:Except Err (List Tok)) (hr:r=mustP E w ts1) (he:∀e:Err,(e.1=2∨e.1=3)→P (.error e)) (ho:∀(ts2:List Tok),ts2.length+1≤ts1.length→P (.ok ts2)):P r:=by
 cases r with
 | error e=>exact he e (must_er hr.symm)
 | ok ts2=>exact ho ts2 (must_ok hr.symm).2.2
@[elab_as_elim] theorem FE.oel {P:Except Err (List Tok)→Prop} {E lv:Nat} {w:Bs} {ts1:List Tok} (r:Except Err (List Tok)) (hr:r=openP E w lv ts1) (he:∀e:Err,(e.1=2∨e.1=3)→P (.error e)) (ho:∀(ts2:List Tok),ts2.length+1≤ts1.length→P (.ok ts2)):P r:=by
 cases r with
 | error e=>exact he e (open_er hr.symm)
 | ok ts2=>exact ho ts2 (open_ok hr.symm).2.2.2
theorem targetP_fine {E:Nat}:FineT (targetP E):=by
 intro lv ts
 unfold targetP
 split
 ·rename_i hk
  have hne:=hdT_ne (E:=E) (ts:=ts) (by omega)
  have ht:=tail_lt hne
  unfold nameP
  split
  ·have h1:=inP_fine (E:=E) (a:=[91]) (b:=[93]) (exprP_fine (E:=E) ts.length) lv ts.tail (by omega)
   cases hx:inP E [91] [93] (exprP E (ts.length+1)) lv ts.tail with
   | error e=>rw[hx] at h1;exact h1
   | ok y=>obtain ⟨k,ts'⟩:=y;rw[hx] at h1;simp only[FE] at h1 ⊢;omega
  ·simp only[FE];omega
 ·exact .inl rfl
theorem namedP_fine {E kd what:Nat} (lv:Nat) (ts:List Tok):FE ts 1 (namedP E kd what lv ts):=by
 unfold namedP
 have ht:=tail_le (ts:=ts)
 refine FE.el (takeP E 1 ts.tail) (takeP_fine (E:=E) (k:=1) (by decide) (ts:=ts.tail)) (fun _ h=>h) ?_
 intro t ts1 h1
 simp only
 split
 ·simp only[FE];omega
 ·refine FE.mel (mustP E _ _) rfl (fun _ h=>h) ?_
  intro ts2 h2
  simp only
  by_cases w1:what=1
  ·rw[if_pos w1]
   refine FE.el (exprT E lv ts2) (exprT_fine (E:=E) lv ts2) (fun _ h=>h) ?_
   intro k ts3 h3;simp only[FE];omega
  ·rw[if_neg w1]
   refine FE.el (targetP E lv ts2) (targetP_fine (E:=E) lv ts2) (fun _ h=>h) ?_
   intro k ts3 h3;simp only[FE];omega
theorem wordedP_fine {E:Nat} (lv:Nat) (ts:List Tok) (h2:(hdT E ts).kind=1):FE ts 1 (wordedP E lv ts):=by
 unfold wordedP
 have ht:=tail_le (ts:=ts)
 have ht2:=tail_le (ts:=ts.tail)
 have hlt:=tail_lt (hdT_ne (E:=E) (ts:=ts) (by omega))
 split
 ·refine FE.el (exprT E lv ts.tail.tail) (exprT_fine (E:=E) lv ts.tail.tail) (fun _ h=>h) ?_
  intro k ts1 h1;simp only[FE];omega
 ·split
  ·refine FE.el (argsP E lv ts.tail) (argsP_fine (E:=E) (lv:=lv) (ts:=ts.tail)) (fun _ h=>h) ?_
   intro k ts1 h1;simp only[FE];omega
  ·refine FE.el (targetP E lv ts) (targetP_fine (E:=E) lv ts) (fun _ h=>h) ?_
   intro x ts1 h1
   dsimp only
   refine FE.mel (mustP E _ _) rfl (fun _ h=>h) ?_
   intro ts2 h2
   dsimp only
   refine FE.el (exprT E lv ts2) (exprT_fine (E:=E) lv ts2) (fun _ h=>h) ?_
   intro k ts3 h3;simp only[FE];omega
theorem goP_fine {E:Nat} (lv:Nat) (ts:List Tok):FE ts 1 (goP E lv ts):=by
 unfold goP
 have ht:=tail_le (ts:=ts)
 refine FE.el (takeP E 1 ts.tail) (takeP_fine (E:=E) (k:=1) (by decide) (ts:=ts.tail)) (fun _ h=>h) ?_
 intro t ts1 h1
 dsimp only
 refine FE.el (argsP E lv ts1) (argsP_fine (E:=E) (lv:=lv) (ts:=ts1)) (fun _ h=>h) ?_
 intro k ts2 h2;simp only[FE];omega
theorem failP_fine {E:Nat} (lv:Nat) (ts:List Tok):FE ts 1 (failP E lv ts):=by
 unfold failP
 refine FE.mel (mustP E _ _) rfl (fun _ h=>h) ?_
 intro ts1 h1
 dsimp only
 refine FE.el (exprT E lv ts1) (exprT_fine (E:=E) lv ts1) (fun _ h=>h) ?_
 intro k ts2 h2;simp only[FE];omega
theorem fe_ite {α:Type} {p:Prop} [Decidable p] {ts:List Tok} {k:Nat} {a b:Except Err (α×List Tok)} (ha:FE ts k a) (hb:FE ts k b):FE ts k (if p then a else b):=by
 split
 ·exact ha
 ·exact hb
theorem simpleP_fine {E:Nat} (lv:Nat) (ts:List Tok):FE ts 1 (simpleP E lv ts):=by
 unfold simpleP
 by_cases k1:(hdT E ts).kind=1
 ·rw[if_pos k1];exact wordedP_fine lv ts k1
 rw[if_neg k1]
 by_cases k2:(hdT E ts).kind≠2
 ·rw[if_pos k2];exact .inl rfl
 rw[if_neg k2]
 have hlt:=tail_lt (hdT_ne (E:=E) (ts:=ts) (by omega))
 refine fe_ite (goP_fine lv ts) ?_
 iterate 7 refine fe_ite (namedP_fine lv ts) ?_
 refine fe_ite (by simp only[FE];omega) ?_
 exact failP_fine lv ts
theorem semiP_fine {E:Nat} {x:PT} (lv:Nat) (ts:List Tok) (hx:FE ts 1 (x lv ts)):FE ts 1 (semiP E x lv ts):=by
 unfold semiP
 refine FE.el (x lv ts) (hx) (fun _ h=>h) ?_
 intro n ts1 h1
 dsimp only
 refine FE.mel (mustP E _ _) rfl (fun _ h=>h) ?_
 intro ts2 h2;simp only[FE];omega
theorem stmtP_fine {E m:Nat} {b:PT} (hb:FineM m b):FineM m (stmtP E b):=by
 intro lv ts hm
 unfold stmtP
 split
 ·rename_i hi
  have hlt:=tail_lt (isT_ne hi)
  unfold ifP
  refine FE.el (exprT E lv ts.tail) (exprT_fine (E:=E) lv ts.tail) (fun _ h=>h) ?_
  intro c ts1 h1
  dsimp only
  refine FE.el (b lv ts1) (hb lv ts1 (by omega)) (fun _ h=>h) ?_
  intro x ts2 h2
  simp only
  split
  ·have ht:=tail_le (ts:=ts2)
   refine FE.el (b lv ts2.tail) (hb lv ts2.tail (by omega)) (fun _ h=>h) ?_
   intro y ts3 h3;simp only[FE];omega
  ·simp only[FE];omega
 split
 ·rename_i _ hi
  have hlt:=tail_lt (isT_ne hi)
  unfold whileP
  refine FE.el (exprT E lv ts.tail) (exprT_fine (E:=E) lv ts.tail) (fun _ h=>h) ?_
  intro c ts1 h1
  dsimp only
  refine FE.el (b lv ts1) (hb lv ts1 (by omega)) (fun _ h=>h) ?_
  intro x ts2 h2;simp only[FE];omega
 ·exact semiP_fine lv ts (simpleP_fine lv ts)
theorem upToL_fine {m:Nat} {x:List Tok→PR} {stop:List Tok→Bool} (hx:∀ts,ts.length<m→FE ts 1 (x ts)):∀(f:Nat) (acc:List Nd) (ts:List Tok),ts.length<f→ts.length<m→FE ts 0 (upToL x stop f acc ts)
 | 0,_,_,h,_=>absurd h (Nat.not_lt_zero _)
 | f+1,acc,ts,h,hm=>by
  unfold upToL
  split
  ·simp only[FE];omega
  ·refine FE.el (x ts) (hx ts hm) (fun _ h=>h) ?_
   intro n ts1 h1
   exact (upToL_fine hx f (acc++[n]) ts1 (by omega) (by omega)).up (by omega)
theorem blockOf_fine {E m:Nat} {st:PT} (hs:FineM m st):FineM (m+1) (blockOf E st):=by
 intro lv ts hm
 unfold blockOf
 refine FE.oel (openP E [123] lv ts) rfl (fun _ h=>h) ?_
 intro ts1 h1
 dsimp only
 refine FE.el (upToL (st (lv+1)) (isT [[125]]) (ts1.length+1) [] ts1) (upToL_fine (hs (lv+1)) (ts1.length+1) [] ts1 (by omega) (by omega)) (fun _ h=>h) ?_
 intro ks ts2 h2
 have:=tail_le (ts:=ts2)
 simp only[FE];omega
theorem blockP_fine {E:Nat}:∀f,FineM f (blockP E f)
 | 0=>fun _ _ h=>absurd h (Nat.not_lt_zero _)
 | f+1=>fun lv ts h=>by
  rw[blockP]
  exact blockOf_fine (stmtP_fine (blockP_fine f)) lv ts h
theorem declP_fine {E:Nat} (ts:List Tok):FE ts 1 (declP E ts):=by
 unfold declP
 split
 ·rename_i hi
  have hlt:=tail_lt (isT_ne hi)
  refine FE.el (takeP E 1 ts.tail) (takeP_fine (E:=E) (k:=1) (by decide) (ts:=ts.tail)) (fun _ h=>h) ?_
  intro t ts1 h1
  simp only
  split
  ·refine FE.mel (mustP E _ _) rfl (fun _ h=>h) ?_
   intro ts2 h2;simp only[FE];omega
  split
  ·refine FE.mel (mustP E _ _) rfl (fun _ h=>h) ?_
   intro ts2 h2;simp only[FE];omega
  split
  ·refine FE.el (sizedP E ts1) (sizedP_fine (E:=E) (ts:=ts1)) (fun _ h=>h) ?_
   intro n ts2 h2
   dsimp only
   refine FE.el (typP E ts2) (typP_fine (E:=E) (ts:=ts2)) (fun _ h=>h) ?_
   intro y ts3 h3
   dsimp only
   refine FE.mel (mustP E _ _) rfl (fun _ h=>h) ?_
   intro ts4 h4;simp only[FE];omega
  split
  ·refine FE.el (paramsP E ts1) (paramsP_fine (E:=E) (ts:=ts1)) (fun _ h=>h) ?_
   intro ps ts2 h2
   dsimp only
   refine FE.el (blockP E (ts2.length+1) 0 ts2) (blockP_fine (E:=E) (ts2.length+1) 0 ts2 (by omega)) (fun _ h=>h) ?_
   intro y ts3 h3
   simp only[FE];omega
  split
  ·refine FE.el (sizedP E ts1) (sizedP_fine (E:=E) (ts:=ts1)) (fun _ h=>h) ?_
   intro n ts2 h2
   dsimp only
   refine FE.el (typP E ts2) (typP_fine (E:=E) (ts:=ts2)) (fun _ h=>h) ?_
   intro y ts3 h3
   dsimp only
   refine FE.mel (mustP E _ _) rfl (fun _ h=>h) ?_
   intro ts4 h4;simp only[FE];omega
  ·refine FE.el (typP E ts1) (typP_fine (E:=E) (ts:=ts1)) (fun _ h=>h) ?_
   intro y ts3 h3
   dsimp only
   refine FE.mel (mustP E _ _) rfl (fun _ h=>h) ?_
   intro ts4 h4;simp only[FE];omega
 ·exact .inl rfl
theorem progP_fine {E:Nat} (f:Nat) (ts:List Tok) (h:ts.length<f):FE ts 0 (progP E f 0 ts):=by
 unfold progP
 refine FE.el (upToL (declP E) List.isEmpty f [] ts) (upToL_fine (m:=f) (fun ts _=>declP_fine ts) f [] ts h h) (fun _ h=>h) ?_
 intro ks ts1 h1;simp only[FE];omega
end Go.Ev
namespace Go.Ev
mutual
def Nd.count:Nd→Nat
 | ⟨_,_,_,_,_,_,_,_,ks⟩=>1+cntL ks
def cntL:List Nd→Nat
 | []=>0
 | k::ks=>k.count+cntL ks
end
mutual
def Nd.depth:Nd→Nat
 | ⟨_,_,_,_,_,_,_,_,ks⟩=>1+dptL ks
def dptL:List Nd→Nat
 | []=>0
 | k::ks=>max k.depth (dptL ks)
end
mutual
def Nd.same:Nd→Nd→Bool
 | ⟨k,_,m,t,n,s,o,b,ks⟩,⟨k',_,m',t',n',s',o',b',ks'⟩=>k==k'&&m==m'&&t==t'&&n==n'&&s==s'&&o==o'&&b==b'&&sameL ks ks'
def sameL:List Nd→List Nd→Bool
 | [],[]=>true
 | k::ks,k'::ks'=>k.same k'&&sameL ks ks'
 | _,_=>false
end
theorem cntL_append:∀(a b:List Nd),cntL (a++b)=cntL a+cntL b
 | [],b=>by simp [cntL]
 | k::a,b=>by simp [cntL,cntL_append a b,Nat.add_assoc]
theorem cntL_take {ns:List Nd} {i:Nat} (h:i<ns.length):cntL (ns.take (i+1))=cntL (ns.take i)+ns[i].count:=by
 rw[List.take_succ_eq_append_getElem h,cntL_append]
 simp [cntL]
theorem cntL_le {ns:List Nd} (i:Nat):cntL (ns.take i)≤cntL ns:=by
 have:=congrArg cntL (List.take_append_drop i ns)
 rw[cntL_append] at this
 omega
theorem count_pos (n:Nd):1≤n.count:=by cases n;simp only[Nd.count];omega
end Go.Ev
namespace Go.Ev
theorem tail_suf (ts:List Tok):ts.tail <:+ ts:=List.tail_suffix ts
end Go.Ev
namespace Go.Ev
mutual
def plc (P:Int→Prop):Nd→Prop
 | ⟨_,p,_,_,_,_,_,_,ks⟩=>P p∧plcL P p ks
def plcL (P:Int→Prop):Int→List Nd→Prop
 | _,[]=>True
 | lo,k::ks=>lo≤k.pos∧plc P k∧plcL P k.pos ks
end
def lastP:Int→List Nd→Int
 | lo,[]=>lo
 | _,k::ks=>lastP k.pos ks
theorem plcL_snoc {P:Int→Prop} {n:Nd}:∀(ns:List Nd) (lo:Int),plcL P lo ns→lastP lo ns≤n.pos→plc P n→plcL P lo (ns++[n])
 | [],lo,_,h2,h3=>by simp only[List.nil_append,plcL];exact ⟨h2,h3,trivial⟩
 | k::ns,lo,h1,h2,h3=>by
  simp only[List.cons_append,plcL] at h1 ⊢
  exact ⟨h1.1,h1.2.1,plcL_snoc ns _ h1.2.2 h2 h3⟩
theorem lastP_snoc {n:Nd}:∀(ns:List Nd) (lo:Int),lastP lo (ns++[n])=n.pos
 | [],_=>rfl
 | k::ns,_=>by rw[List.cons_append];exact lastP_snoc ns k.pos
structure Tk (P:Int→Prop) (E:Nat) (ts:List Tok):Prop where
 all:∀t∈ts,P (t.pos:Int)∧t.pos≤E
 srt:ts.Pairwise (fun a b=>a.pos≤b.pos)
theorem Tk.suf {P:Int→Prop} {E:Nat} {r ts:List Tok} (h:Tk P E ts) (s:r <:+ ts):Tk P E r:=⟨fun t ht=>h.all t (s.subset ht),h.srt.sublist s.sublist⟩
theorem Tk.hdE {P:Int→Prop} {E:Nat} {ts:List Tok} (h:Tk P E ts):(hdT E ts).pos≤E:=by
 cases ts with
 | nil=>exact Nat.le_refl _
 | cons t ts=>exact (h.all t (by simp)).2
theorem Tk.hd_le {P:Int→Prop} {E:Nat} {ts:List Tok} (h:Tk P E ts) {t:Tok} (ht:t∈ts):(hdT E ts).pos≤t.pos:=by
 cases ts with
 | nil=>cases ht
 | cons a ts=>
  rcases List.mem_cons.1 ht with rfl|ht
  ·exact Nat.le_refl _
  ·exact (List.pairwise_cons.1 h.srt).1 t ht
def GE {α:Type} (E:Nat) (ts:List Tok) (S:α→List Tok→Prop):Except Err (α×List Tok)→Prop
 | .error e=>e.2≤E
 | .ok (x,r)=>r <:+ ts∧S x r
@[elab_as_elim] theorem GE.el {α:Type} {P:Except Err (α×List Tok)→Prop} (res:Except Err (α×List Tok)) {E:Nat} {ts1:List Tok} {S:α→List Tok→Prop} (h:GE E ts1 S res) (he:∀e:Err,e.2≤E→P (.error e)) (ho:∀(x:α) (r:List Tok),r <:+ ts1→S x r→P (.ok (x,r))):P res:=by
 cases res with
 | error e=>exact he e h
 | ok y=>obtain ⟨x,r⟩:=y;exact ho x r h.1 h.2
def NS (P:Int→Prop) (ts:List Tok) (n:Nd) (r:List Tok):Prop:=(∃t∈ts,n.pos=(t.pos:Int))∧(∀t∈r,n.pos≤(t.pos:Int))∧plc P n
def WP (P:Int→Prop) (E:Nat) (u:PT):Prop:=∀lv ts,Tk P E ts→GE E ts (NS P ts) (u lv ts)
theorem NS.up {P:Int→Prop} {r ts ts1:List Tok} {n:Nd} (h:NS P ts1 n r) (s:ts1 <:+ ts):NS P ts n r:=by
 obtain ⟨⟨t,h1,h2⟩,h3⟩:=h
 exact ⟨⟨t,s.subset h1,h2⟩,h3⟩
theorem NS.rest {P:Int→Prop} {r r' ts:List Tok} {n:Nd} (h:NS P ts n r) (s:r' <:+ r):NS P ts n r':=⟨h.1,fun t ht=>h.2.1 t (s.subset ht),h.2.2⟩
theorem NS.lo {P:Int→Prop} {r ts:List Tok} {n:Nd} (h:NS P ts n r) {lo:Int} (hl:∀t∈ts,lo≤(t.pos:Int)):lo≤n.pos:=by
 obtain ⟨⟨t,h1,h2⟩,_⟩:=h
 rw[h2];exact hl t h1
theorem Tk.lo {P:Int→Prop} {E:Nat} {r ts:List Tok} (h:Tk P E ts) (s:r <:+ ts):∀t∈r,(((hdT E ts).pos:Nat):Int)≤(t.pos:Int):=fun t ht=>Int.ofNat_le.2 (h.hd_le (s.subset ht))
theorem node_ok {P:Int→Prop} {E:Nat} {r ts:List Tok} (h:Tk P E ts) (hne:ts≠[]) (s:r <:+ ts) {k:Int} {nm:Bs} {ty n sz ob:Int} {bits:Int} {ks:List Nd} (hk:plcL P ((hdT E ts).pos:Int) ks):NS P ts (.mk k (hdT E ts).pos nm ty n sz ob bits ks) r:=by
 refine ⟨?_,?_,?_⟩
 ·cases ts with
  | nil=>exact absurd rfl hne
  | cons t ts=>exact ⟨t,by simp,rfl⟩
 ·exact h.lo s
 ·simp only[plc]
  refine ⟨?_,hk⟩
  cases ts with
  | nil=>exact absurd rfl hne
  | cons t ts=>exact (h.all t (by simp)).1
theorem kid1 {P:Int→Prop} {E:Nat} {r ts ts1:List Tok} {k:Nd} (h:Tk P E ts) (s:ts1 <:+ ts) (hk:NS P ts1 k r):plcL P ((hdT E ts).pos:Int) [k]:=by
 simp only[plcL]
 exact ⟨hk.lo (h.lo s),hk.2.2,trivial⟩
theorem kid2 {P:Int→Prop} {E:Nat} {r r1 ts ts1 ts2:List Tok} {x k:Nd} (h:Tk P E ts) (s:ts1 <:+ ts) (hx:NS P ts1 x r1) (s2:ts2 <:+ r1) (hk:NS P ts2 k r):plcL P ((hdT E ts).pos:Int) [x,k]:=by
 simp only[plcL]
 exact ⟨hx.lo (h.lo s),hx.2.2,hk.lo fun t ht=>hx.2.1 t (s2.subset ht),hk.2.2,trivial⟩
theorem kid3 {P:Int→Prop} {E:Nat} {r r1 r2 ts ts1 ts2 ts3:List Tok} {x k y:Nd} (h:Tk P E ts) (s:ts1 <:+ ts) (hx:NS P ts1 x r1) (s2:ts2 <:+ r1) (hk:NS P ts2 k r2) (s3:ts3 <:+ r2) (hy:NS P ts3 y r):plcL P ((hdT E ts).pos:Int) [x,k,y]:=by
 simp only[plcL]
 exact ⟨hx.lo (h.lo s),hx.2.2,hk.lo fun t ht=>hx.2.1 t (s2.subset ht),hk.2.2,hy.lo fun t ht=>hk.2.1 t (s3.subset ht),hy.2.2,trivial⟩
theorem rowL_wp {P:Int→Prop} {E:Nat} {u:PT} (hu:WP P E u) {many:Bool} {ops:List Bs} {lv:Nat}:∀(f:Nat) (n:Nd) (ts0 ts:List Tok),Tk P E ts→ts <:+ ts0→NS P ts0 n ts→GE E ts (NS P ts0) (rowL u many ops lv f n ts)
 | 0,_,_,_,_,_,_=>Nat.zero_le _
 | f+1,n,ts0,ts,h,hs,hn=>by
  rw[rowL]
  split
  ·have s1:=tail_suf ts
   refine GE.el (u lv ts.tail) (hu lv ts.tail (h.suf s1)) (fun _ h=>h) ?_
   intro k r hr hk
   dsimp only
   have hb:NS P ts0 (binN n (hdT 0 ts).text k) r:=by
    refine ⟨hn.1,fun t ht=>hn.2.1 t ((hr.trans s1).subset ht),?_⟩
    simp only[binN,plc,plcL]
    refine ⟨?_,Int.le_refl _,hn.2.2,hk.lo fun t ht=>hn.2.1 t (s1.subset ht),hk.2.2,trivial⟩
    obtain ⟨_,_,hp⟩:=hn
    cases n
    simp only[plc] at hp
    exact hp.1
   cases many with
   | true=>
    have:=rowL_wp hu (many:=true) (ops:=ops) (lv:=lv) f (binN n (hdT 0 ts).text k) ts0 r (h.suf (hr.trans s1)) ((hr.trans s1).trans hs) hb
    simp only[if_true]
    cases hx:rowL u true ops lv f (binN n (hdT 0 ts).text k) r with
    | error e=>rw[hx] at this;exact this
    | ok y=>obtain ⟨y,r2⟩:=y;rw[hx] at this;exact ⟨this.1.trans (hr.trans s1),this.2⟩
   | false=>exact ⟨hr.trans s1,hb⟩
  ·exact ⟨List.suffix_refl _,hn⟩
theorem rowP_wp {P:Int→Prop} {E:Nat} {u:PT} (hu:WP P E u) {many:Bool} {ops:List Bs}:WP P E (rowP many ops u):=by
 intro lv ts h
 unfold rowP
 refine GE.el (u lv ts) (hu lv ts h) (fun _ h=>h) ?_
 intro n r hr hn
 dsimp only
 have:=rowL_wp hu (many:=many) (ops:=ops) (lv:=lv) (r.length+1) n ts r (h.suf hr) hr hn
 cases hx:rowL u many ops lv (r.length+1) n r with
 | error e=>rw[hx] at this;exact this
 | ok y=>obtain ⟨y,r2⟩:=y;rw[hx] at this;exact ⟨this.1.trans hr,this.2⟩
theorem exprOf_wp {P:Int→Prop} {E:Nat} {u:PT} (hu:WP P E u):WP P E (exprOf u):=rowP_wp (rowP_wp (rowP_wp (rowP_wp (rowP_wp hu))))
theorem inP_wp {P:Int→Prop} {E:Nat} {a b:Bs} {x:PT} (hx:WP P E x):WP P E (inP E a b x):=by
 intro lv ts h
 unfold inP
 split
 ·split
  ·exact h.hdE
  ·have s1:=tail_suf ts
   refine GE.el (x (lv+1) ts.tail) (hx (lv+1) ts.tail (h.suf s1)) (fun _ h=>h) ?_
   intro k r hr hk
   dsimp only
   split
   ·exact ⟨(tail_suf r).trans (hr.trans s1),(hk.up s1).rest (tail_suf r)⟩
   ·exact (h.suf (hr.trans s1)).hdE
 ·exact h.hdE
theorem nameP_wp {P:Int→Prop} {E:Nat} {x:PT} (hx:WP P E x) {lv:Nat} {ts:List Tok} (h:Tk P E ts) (hne:ts≠[]):GE E ts (NS P ts) (nameP E x lv ts):=by
 unfold nameP
 have s1:=tail_suf ts
 split
 ·refine GE.el (inP E [91] [93] x lv ts.tail) (inP_wp hx lv ts.tail (h.suf s1)) (fun _ h=>h) ?_
  intro k r hr hk
  exact ⟨hr.trans s1,node_ok h hne (hr.trans s1) (kid1 h s1 hk)⟩
 ·exact ⟨s1,node_ok h hne s1 trivial⟩
theorem primP_wp {P:Int→Prop} {E:Nat} {x:PT} (hx:WP P E x):WP P E (primP E x):=by
 intro lv ts h
 unfold primP
 have s1:=tail_suf ts
 by_cases hne:ts=[]
 ·subst hne
  simp only[hdT,isT,inP]
  exact Nat.le_refl _
 split
 ·exact ⟨s1,node_ok h hne s1 trivial⟩
 split
 ·exact ⟨s1,node_ok h hne s1 trivial⟩
 split
 ·exact nameP_wp hx h hne
 split
 ·exact ⟨s1,node_ok h hne s1 trivial⟩
 split
 ·exact ⟨s1,node_ok h hne s1 trivial⟩
 split
 ·refine GE.el (inP E [40] [41] x lv ts.tail) (inP_wp hx lv ts.tail (h.suf s1)) (fun _ h=>h) ?_
  intro k r hr hk
  exact ⟨hr.trans s1,node_ok h hne (hr.trans s1) (kid1 h s1 hk)⟩
 ·exact inP_wp hx lv ts h
theorem unP_wp {P:Int→Prop} {E:Nat}:∀f,WP P E (unP E f)
 | 0=>fun _ _ _=>Nat.zero_le _
 | f+1=>by
  intro lv ts h
  rw[unP]
  have s1:=tail_suf ts
  by_cases hi:isT [[45],[33]] ts=true
  ·rw[if_pos hi]
   split
   ·exact h.hdE
   ·refine GE.el (unP E f (lv+1) ts.tail) (unP_wp f (lv+1) ts.tail (h.suf s1)) (fun _ h=>h) ?_
    intro k r hr hk
    exact ⟨hr.trans s1,node_ok h (isT_ne hi) (hr.trans s1) (kid1 h s1 hk)⟩
  ·rw[if_neg hi]
   exact primP_wp (exprOf_wp (unP_wp f)) lv ts h
theorem exprT_wp {P:Int→Prop} {E:Nat}:WP P E (exprT E):=fun lv ts h=>exprOf_wp (unP_wp _) lv ts h
end Go.Ev
namespace Go.Ev
@[elab_as_elim] theorem mel {P:Int→Prop} {M:Except Err (List Tok)→Prop} {E:Nat} {w:Bs} {ts1:List Tok} (r:Except Err (List Tok)) (hr:r=mustP E w ts1) (h:Tk P E ts1) (he:∀e:Err,e.2≤E→M (.error e)) (ho:∀(ts2:List Tok),ts2 <:+ ts1→M (.ok ts2)):M r:=by
 subst hr
 unfold mustP
 split
 ·exact ho _ (tail_suf _)
 ·exact he _ h.hdE
@[elab_as_elim] theorem oel {P:Int→Prop} {M:Except Err (List Tok)→Prop} {E lv:Nat} {w:Bs} {ts1:List Tok} (r:Except Err (List Tok)) (hr:r=openP E w lv ts1) (h:Tk P E ts1) (he:∀e:Err,e.2≤E→M (.error e)) (ho:∀(ts2:List Tok),ts2 <:+ ts1→ts1≠[]→M (.ok ts2)):M r:=by
 subst hr
 unfold openP
 split
 ·rename_i hi
  split
  ·exact he _ h.hdE
  ·exact ho _ (tail_suf _) (isT_ne hi)
 ·exact he _ h.hdE
theorem takeP_wp {P:Int→Prop} {E k:Nat} (hk:k≠0) {ts:List Tok} (h:Tk P E ts):GE E ts (fun t r=>ts≠[]∧t=hdT E ts∧r=ts.tail) (takeP E k ts):=by
 unfold takeP
 split
 ·exact ⟨tail_suf _,hdT_ne (E:=E) (by omega),rfl,rfl⟩
 ·exact h.hdE
theorem typP_wp {P:Int→Prop} {E:Nat} {ts:List Tok} (h:Tk P E ts):GE E ts (fun _ _=>True) (typP E ts):=by
 unfold typP
 split
 ·exact h.hdE
 ·exact ⟨tail_suf _,trivial⟩
theorem sizedP_wp {P:Int→Prop} {E:Nat} {ts:List Tok} (h:Tk P E ts):GE E ts (fun _ _=>True) (sizedP E ts):=by
 unfold sizedP
 refine mel (mustP E [91] ts) rfl h (fun _ h=>h) ?_
 intro ts1 s1
 dsimp only
 refine GE.el (takeP E 3 ts1) (takeP_wp (by decide) (h.suf s1)) (fun _ h=>h) ?_
 intro t ts2 s2 _
 dsimp only
 refine mel (mustP E [93] ts2) rfl (h.suf (s2.trans s1)) (fun _ h=>h) ?_
 intro ts3 s3
 exact ⟨s3.trans (s2.trans s1),trivial⟩
def LS (P:Int→Prop) (lo:Int) (ns:List Nd) (r:List Tok):Prop:=plcL P lo ns∧∀t∈r,lastP lo ns≤(t.pos:Int)
theorem LS.rest {P:Int→Prop} {lo:Int} {ns:List Nd} {r r':List Tok} (h:LS P lo ns r) (s:r' <:+ r):LS P lo ns r':=⟨h.1,fun t ht=>h.2 t (s.subset ht)⟩
theorem LS.snoc {P:Int→Prop} {lo:Int} {ns:List Nd} {ts r r':List Tok} {n:Nd} (h:LS P lo ns ts) (hn:NS P ts n r) (s:r' <:+ r):LS P lo (ns++[n]) r':=
 ⟨plcL_snoc ns lo h.1 (hn.lo h.2) hn.2.2,fun t ht=>by rw[lastP_snoc];exact hn.2.1 t (s.subset ht)⟩
theorem commaL_wp {P:Int→Prop} {E:Nat} {x:List Tok→PR} (hx:∀ts,Tk P E ts→GE E ts (NS P ts) (x ts)) {lo:Int} {ts0:List Tok}:∀(f:Nat) (acc:List Nd) (ts:List Tok),Tk P E ts→ts <:+ ts0→LS P lo acc ts→GE E ts0 (LS P lo) (commaL E x f acc ts)
 | 0,_,_,_,_,_=>Nat.zero_le _
 | f+1,acc,ts,h,hs,ha=>by
  rw[commaL]
  refine GE.el (x ts) (hx ts h) (fun _ h=>h) ?_
  intro n r hr hn
  dsimp only
  split
  ·exact commaL_wp hx f (acc++[n]) r.tail (h.suf ((tail_suf r).trans hr)) ((tail_suf r).trans (hr.trans hs)) (ha.snoc hn (tail_suf r))
  ·exact ⟨hr.trans hs,ha.snoc hn (List.suffix_refl _)⟩
theorem commaP_wp {P:Int→Prop} {E:Nat} {x:List Tok→PR} (hx:∀ts,Tk P E ts→GE E ts (NS P ts) (x ts)) {lo:Int} {ts:List Tok} (h:Tk P E ts) (hl:∀t∈ts,lo≤(t.pos:Int)):GE E ts (LS P lo) (commaP E x ts):=by
 unfold commaP
 split
 ·exact ⟨List.suffix_refl _,trivial,hl⟩
 ·exact commaL_wp hx _ [] ts h (List.suffix_refl _) ⟨trivial,hl⟩
theorem paramP_wp {P:Int→Prop} {E:Nat} (ts:List Tok) (h:Tk P E ts):GE E ts (NS P ts) (paramP E ts):=by
 unfold paramP
 refine GE.el (takeP E 1 ts) (takeP_wp (by decide) h) (fun _ h=>h) ?_
 rintro t ts1 s1 ⟨hne,rfl,rfl⟩
 dsimp only
 refine GE.el (typP E ts.tail) (typP_wp (h.suf s1)) (fun _ h=>h) ?_
 intro y ts2 s2 _
 exact ⟨s2.trans s1,node_ok h hne (s2.trans s1) trivial⟩
theorem paramsP_wp {P:Int→Prop} {E:Nat} {lo:Int} {ts:List Tok} (h:Tk P E ts) (hl:∀t∈ts,lo≤(t.pos:Int)):GE E ts (LS P lo) (paramsP E ts):=by
 unfold paramsP
 refine mel (mustP E [40] ts) rfl h (fun _ h=>h) ?_
 intro ts1 s1
 dsimp only
 refine GE.el (commaP E (paramP E) ts1) (commaP_wp paramP_wp (h.suf s1) (lo:=lo) fun t ht=>hl t (s1.subset ht)) (fun _ h=>h) ?_
 intro ns ts2 s2 hn
 dsimp only
 refine mel (mustP E [41] ts2) rfl (h.suf (s2.trans s1)) (fun _ h=>h) ?_
 intro ts3 s3
 exact ⟨s3.trans (s2.trans s1),hn.rest s3⟩
theorem argsP_wp {P:Int→Prop} {E lv:Nat} {lo:Int} {ts:List Tok} (h:Tk P E ts) (hl:∀t∈ts,lo≤(t.pos:Int)):GE E ts (LS P lo) (argsP E lv ts):=by
 unfold argsP
 refine oel (openP E [40] lv ts) rfl h (fun _ h=>h) ?_
 intro ts1 s1 _
 dsimp only
 refine GE.el (commaP E (exprT E (lv+1)) ts1) (commaP_wp (fun ts h=>exprT_wp (lv+1) ts h) (h.suf s1) (lo:=lo) fun t ht=>hl t (s1.subset ht)) (fun _ h=>h) ?_
 intro ns ts2 s2 hn
 dsimp only
 refine mel (mustP E [41] ts2) rfl (h.suf (s2.trans s1)) (fun _ h=>h) ?_
 intro ts3 s3
 exact ⟨s3.trans (s2.trans s1),hn.rest s3⟩
theorem targetP_wp {P:Int→Prop} {E:Nat}:WP P E (targetP E):=by
 intro lv ts h
 unfold targetP
 split
 ·rename_i hk
  exact nameP_wp (exprOf_wp (unP_wp _)) h (hdT_ne (E:=E) (by omega))
 ·exact h.hdE
theorem namedP_wp {P:Int→Prop} {E kd what lv:Nat} {ts:List Tok} (h:Tk P E ts) (hne:ts≠[]):GE E ts (NS P ts) (namedP E kd what lv ts):=by
 unfold namedP
 have s1:=tail_suf ts
 refine GE.el (takeP E 1 ts.tail) (takeP_wp (by decide) (h.suf s1)) (fun _ h=>h) ?_
 rintro t ts2 s2 _
 dsimp only
 have s2:=s2.trans s1
 split
 ·exact ⟨s2,node_ok h hne s2 trivial⟩
 refine mel (mustP E [44] ts2) rfl (h.suf s2) (fun _ h=>h) ?_
 intro ts3 s3
 dsimp only
 have s3:=s3.trans s2
 by_cases w1:what=1
 ·rw[if_pos w1]
  refine GE.el (exprT E lv ts3) (exprT_wp lv ts3 (h.suf s3)) (fun _ h=>h) ?_
  intro k r hr hk
  exact ⟨hr.trans s3,node_ok h hne (hr.trans s3) (kid1 h s3 hk)⟩
 ·rw[if_neg w1]
  refine GE.el (targetP E lv ts3) (targetP_wp lv ts3 (h.suf s3)) (fun _ h=>h) ?_
  intro k r hr hk
  exact ⟨hr.trans s3,node_ok h hne (hr.trans s3) (kid1 h s3 hk)⟩
theorem wordedP_wp {P:Int→Prop} {E lv:Nat} {ts:List Tok} (h:Tk P E ts) (hne:ts≠[]):GE E ts (NS P ts) (wordedP E lv ts):=by
 unfold wordedP
 have s1:=tail_suf ts
 have s2:=(tail_suf ts.tail).trans s1
 split
 ·refine GE.el (exprT E lv ts.tail.tail) (exprT_wp lv ts.tail.tail (h.suf s2)) (fun _ h=>h) ?_
  intro k r hr hk
  exact ⟨hr.trans s2,node_ok h hne (hr.trans s2) (kid1 h s2 hk)⟩
 split
 ·refine GE.el (argsP E lv ts.tail) (argsP_wp (h.suf s1) (lo:=((hdT E ts).pos:Int)) (h.lo s1)) (fun _ h=>h) ?_
  intro k r hr hk
  exact ⟨hr.trans s1,node_ok h hne (hr.trans s1) hk.1⟩
 ·refine GE.el (targetP E lv ts) (targetP_wp lv ts h) (fun _ h=>h) ?_
  intro x ts1 s1 hx
  dsimp only
  refine mel (mustP E [61] ts1) rfl (h.suf s1) (fun _ h=>h) ?_
  intro ts2 s2
  dsimp only
  refine GE.el (exprT E lv ts2) (exprT_wp lv ts2 (h.suf (s2.trans s1))) (fun _ h=>h) ?_
  intro k r hr hk
  have s3:=hr.trans (s2.trans s1)
  exact ⟨s3,node_ok h hne s3 (kid2 h (List.suffix_refl _) hx s2 hk)⟩
theorem goP_wp {P:Int→Prop} {E lv:Nat} {ts:List Tok} (h:Tk P E ts) (hne:ts≠[]):GE E ts (NS P ts) (goP E lv ts):=by
 unfold goP
 have s1:=tail_suf ts
 refine GE.el (takeP E 1 ts.tail) (takeP_wp (by decide) (h.suf s1)) (fun _ h=>h) ?_
 rintro t ts2 s2 _
 dsimp only
 have s2:=s2.trans s1
 refine GE.el (argsP E lv ts2) (argsP_wp (h.suf s2) (lo:=((hdT E ts).pos:Int)) (h.lo s2)) (fun _ h=>h) ?_
 intro k r hr hk
 exact ⟨hr.trans s2,node_ok h hne (hr.trans s2) hk.1⟩
theorem failP_wp {P:Int→Prop} {E lv:Nat} {ts:List Tok} (h:Tk P E ts) (hne:ts≠[]):GE E ts (NS P ts) (failP E lv ts):=by
 unfold failP
 refine mel (mustP E [102,97,105,108] ts) rfl h (fun _ h=>h) ?_
 intro ts1 s1
 dsimp only
 refine GE.el (exprT E lv ts1) (exprT_wp lv ts1 (h.suf s1)) (fun _ h=>h) ?_
 intro k r hr hk
 exact ⟨hr.trans s1,node_ok h hne (hr.trans s1) (kid1 h s1 hk)⟩
theorem ge_ite {α:Type} {p:Prop} [Decidable p] {E:Nat} {ts:List Tok} {S:α→List Tok→Prop} {a b:Except Err (α×List Tok)} (ha:GE E ts S a) (hb:GE E ts S b):GE E ts S (if p then a else b):=by
 split
 ·exact ha
 ·exact hb
theorem simpleP_wp {P:Int→Prop} {E:Nat}:WP P E (simpleP E):=by
 intro lv ts h
 unfold simpleP
 by_cases k1:(hdT E ts).kind=1
 ·rw[if_pos k1];exact wordedP_wp h (hdT_ne (E:=E) (by omega))
 rw[if_neg k1]
 by_cases k2:(hdT E ts).kind≠2
 ·rw[if_pos k2];exact h.hdE
 rw[if_neg k2]
 have hne:=hdT_ne (E:=E) (ts:=ts) (by omega)
 refine ge_ite (goP_wp h hne) ?_
 iterate 7 refine ge_ite (namedP_wp h hne) ?_
 refine ge_ite ⟨tail_suf ts,node_ok h hne (tail_suf ts) trivial⟩ ?_
 exact failP_wp h hne
theorem semiP_wp {P:Int→Prop} {E:Nat} {x:PT} (hx:WP P E x):WP P E (semiP E x):=by
 intro lv ts h
 unfold semiP
 refine GE.el (x lv ts) (hx lv ts h) (fun _ h=>h) ?_
 intro n r hr hn
 dsimp only
 refine mel (mustP E [59] r) rfl (h.suf hr) (fun _ h=>h) ?_
 intro r2 s2
 exact ⟨s2.trans hr,hn.rest s2⟩
theorem stmtP_wp {P:Int→Prop} {E:Nat} {b:PT} (hb:WP P E b):WP P E (stmtP E b):=by
 intro lv ts h
 unfold stmtP
 have s1:=tail_suf ts
 split
 ·rename_i hi
  unfold ifP
  have hne:=isT_ne hi
  refine GE.el (exprT E lv ts.tail) (exprT_wp lv ts.tail (h.suf s1)) (fun _ h=>h) ?_
  intro c r1 h1 hc
  dsimp only
  refine GE.el (b lv r1) (hb lv r1 (h.suf (h1.trans s1))) (fun _ h=>h) ?_
  intro x r2 h2 hx
  dsimp only
  have s2:=h2.trans (h1.trans s1)
  split
  ·have s3:=(tail_suf r2).trans s2
   refine GE.el (b lv r2.tail) (hb lv r2.tail (h.suf s3)) (fun _ h=>h) ?_
   intro y r3 h3 hy
   exact ⟨h3.trans s3,node_ok h hne (h3.trans s3) (kid3 h s1 hc (List.suffix_refl _) hx (tail_suf r2) hy)⟩
  ·exact ⟨s2,node_ok h hne s2 (kid2 h s1 hc (List.suffix_refl _) hx)⟩
 split
 ·rename_i _ hi
  unfold whileP
  have hne:=isT_ne hi
  refine GE.el (exprT E lv ts.tail) (exprT_wp lv ts.tail (h.suf s1)) (fun _ h=>h) ?_
  intro c r1 h1 hc
  dsimp only
  refine GE.el (b lv r1) (hb lv r1 (h.suf (h1.trans s1))) (fun _ h=>h) ?_
  intro x r2 h2 hx
  have s2:=h2.trans (h1.trans s1)
  exact ⟨s2,node_ok h hne s2 (kid2 h s1 hc (List.suffix_refl _) hx)⟩
 ·exact semiP_wp simpleP_wp lv ts h
theorem upToL_wp {P:Int→Prop} {E:Nat} {x:List Tok→PR} {stop:List Tok→Bool} (hx:∀ts,Tk P E ts→GE E ts (NS P ts) (x ts)) {lo:Int} {ts0:List Tok}:∀(f:Nat) (acc:List Nd) (ts:List Tok),Tk P E ts→ts <:+ ts0→LS P lo acc ts→GE E ts0 (LS P lo) (upToL x stop f acc ts)
 | 0,_,_,_,_,_=>Nat.zero_le _
 | f+1,acc,ts,h,hs,ha=>by
  rw[upToL]
  split
  ·exact ⟨hs,ha⟩
  refine GE.el (x ts) (hx ts h) (fun _ h=>h) ?_
  intro n r hr hn
  exact upToL_wp hx f (acc++[n]) r (h.suf hr) (hr.trans hs) (ha.snoc hn (List.suffix_refl _))
theorem blockOf_wp {P:Int→Prop} {E:Nat} {st:PT} (hs:WP P E st):WP P E (blockOf E st):=by
 intro lv ts h
 unfold blockOf
 refine oel (openP E [123] lv ts) rfl h (fun _ h=>h) ?_
 intro ts1 s1 hne
 dsimp only
 refine GE.el (upToL (st (lv+1)) (isT [[125]]) (ts1.length+1) [] ts1) (upToL_wp (hs (lv+1)) (lo:=((hdT E ts).pos:Int)) (ts1.length+1) [] ts1 (h.suf s1) (List.suffix_refl _) ⟨trivial,h.lo s1⟩) (fun _ h=>h) ?_
 intro ks ts2 s2 hk
 have s3:=(tail_suf ts2).trans (s2.trans s1)
 exact ⟨s3,node_ok h hne s3 hk.1⟩
theorem blockP_wp {P:Int→Prop} {E:Nat}:∀f,WP P E (blockP E f)
 | 0=>fun _ _ _=>Nat.zero_le _
 | f+1=>fun lv ts h=>by
  rw[blockP]
  exact blockOf_wp (stmtP_wp (blockP_wp f)) lv ts h
theorem declP_wp {P:Int→Prop} {E:Nat} (ts:List Tok) (h:Tk P E ts):GE E ts (NS P ts) (declP E ts):=by
 unfold declP
 split
 ·rename_i hi
  have hne:=isT_ne hi
  have s1:=tail_suf ts
  refine GE.el (takeP E 1 ts.tail) (takeP_wp (by decide) (h.suf s1)) (fun _ h=>h) ?_
  rintro t ts2 s2 _
  dsimp only
  have s2:=s2.trans s1
  split
  ·refine mel (mustP E [59] ts2) rfl (h.suf s2) (fun _ h=>h) ?_
   intro ts3 s3
   exact ⟨s3.trans s2,node_ok h hne (s3.trans s2) trivial⟩
  split
  ·refine mel (mustP E [59] ts2) rfl (h.suf s2) (fun _ h=>h) ?_
   intro ts3 s3
   exact ⟨s3.trans s2,node_ok h hne (s3.trans s2) trivial⟩
  split
  ·refine GE.el (sizedP E ts2) (sizedP_wp (h.suf s2)) (fun _ h=>h) ?_
   intro n ts3 s3 _
   dsimp only
   have s3:=s3.trans s2
   refine GE.el (typP E ts3) (typP_wp (h.suf s3)) (fun _ h=>h) ?_
   intro y ts4 s4 _
   dsimp only
   have s4:=s4.trans s3
   refine mel (mustP E [59] ts4) rfl (h.suf s4) (fun _ h=>h) ?_
   intro ts5 s5
   exact ⟨s5.trans s4,node_ok h hne (s5.trans s4) trivial⟩
  split
  ·refine GE.el (paramsP E ts2) (paramsP_wp (h.suf s2) (lo:=((hdT E ts).pos:Int)) (h.lo s2)) (fun _ h=>h) ?_
   intro ps ts3 s3 hps
   dsimp only
   have s3':=s3.trans s2
   refine GE.el (blockP E (ts3.length+1) 0 ts3) (blockP_wp _ 0 ts3 (h.suf s3')) (fun _ h=>h) ?_
   intro b ts4 s4 hb
   exact ⟨s4.trans s3',node_ok h hne (s4.trans s3') (hps.snoc hb (List.suffix_refl _)).1⟩
  split
  ·refine GE.el (sizedP E ts2) (sizedP_wp (h.suf s2)) (fun _ h=>h) ?_
   intro n ts3 s3 _
   dsimp only
   have s3:=s3.trans s2
   refine GE.el (typP E ts3) (typP_wp (h.suf s3)) (fun _ h=>h) ?_
   intro y ts4 s4 _
   dsimp only
   have s4:=s4.trans s3
   refine mel (mustP E [59] ts4) rfl (h.suf s4) (fun _ h=>h) ?_
   intro ts5 s5
   exact ⟨s5.trans s4,node_ok h hne (s5.trans s4) trivial⟩
  ·refine GE.el (typP E ts2) (typP_wp (h.suf s2)) (fun _ h=>h) ?_
   intro y ts4 s4 _
   dsimp only
   have s4:=s4.trans s2
   refine mel (mustP E [59] ts4) rfl (h.suf s4) (fun _ h=>h) ?_
   intro ts5 s5
   exact ⟨s5.trans s4,node_ok h hne (s5.trans s4) trivial⟩
 ·exact h.hdE
theorem toksL_ord {N:Nat}:∀(f:Nat) (l:Bs) (n:Nat) (ts:List Tok),l.length≤N→toksL N f l n=.ok ts→ts.Pairwise (fun a b=>a.pos≤b.pos)∧∀t∈ts,N-l.length≤t.pos
 | 0,_,_,_,_,h=>by cases h
 | f+1,l,n,ts,hl,h=>by
  simp only[toksL] at h
  split at h
  ·cases h;exact ⟨List.Pairwise.nil,fun _ ht=>by cases ht⟩
  ·split at h
   ·cases h
   ·cases hx:nextTok N l with
    | error e=>rw[hx] at h;cases h
    | ok x=>
     obtain ⟨t,r⟩:=x
     rw[hx] at h
     simp only at h
     have hlt:=nextTok_len hx
     have hsk:=(skip_suf' r).length_le
     have hpos:=(nextTok_ok hx).2.2
     cases hy:toksL N f (skip r) (n+1) with
     | error e=>rw[hy] at h;cases h
     | ok us=>
      rw[hy] at h
      cases h
      obtain ⟨h1,h2⟩:=toksL_ord f (skip r) (n+1) us (by omega) hy
      refine ⟨List.pairwise_cons.2 ⟨fun t' ht=>?_,h1⟩,fun t' ht=>?_⟩
      ·have:=h2 t' ht;omega
      ·rcases List.mem_cons.1 ht with rfl|ht
       ·omega
       ·have:=h2 t' ht;omega
theorem tokens_tk {s:Bs} {ts:List Tok} (h:tokens s=.ok ts):Tk (fun p=>p=(s.length:Int)∨∃t∈ts,p=(t.pos:Int)) s.length ts:=by
 unfold tokens at h
 split at h
 ·cases h
 ·have hl:=(skip_suf' s).length_le
  exact ⟨fun t ht=>⟨.inr ⟨t,ht,rfl⟩,toksL_pos _ _ _ _ h t ht⟩,(toksL_ord _ _ _ _ hl h).1⟩
theorem progP_wp {P:Int→Prop} {E f:Nat} {ts:List Tok} (hE:P (E:Int)) (h:Tk P E ts):GE E ts (fun n r=>plc P n∧∀t∈r,t.pos≤E) (progP E f 0 ts):=by
 unfold progP
 refine GE.el (upToL (declP E) List.isEmpty f [] ts) (upToL_wp (fun ts h=>declP_wp ts h) (lo:=((hdT E ts).pos:Int)) f [] ts h (List.suffix_refl _) ⟨trivial,h.lo (List.suffix_refl _)⟩) (fun _ h=>h) ?_
 intro ks r hr hk
 refine ⟨hr,?_,fun t ht=>(h.all t (hr.subset ht)).2⟩
 simp only[nd0,plc]
 refine ⟨?_,hk.1⟩
 cases ts with
 | nil=>exact hE
 | cons t ts=>exact (h.all t (by simp)).1
theorem parse_errp {s:Bs} {e p:Nat} (h:parseS s=.error (e,p)):(1≤e∧e≤17)∧p≤s.length:=by
 unfold parseS readP at h
 cases ht:tokens s with
 | error x=>
  rw[ht] at h
  have:=tokens_err s
  rw[ht] at this
  cases h
  exact this
 | ok ts=>
  rw[ht] at h
  simp only at h
  have hw:=progP_wp (f:=ts.length+1) (.inl rfl) (tokens_tk ht)
  have hf:=progP_fine (E:=s.length) (ts.length+1) ts (Nat.lt_succ_self _)
  cases hx:progP s.length (ts.length+1) 0 ts with
  | error y=>
   rw[hx] at h hw hf
   cases h
   refine ⟨?_,hw⟩
   rcases hf with h|h<;>simp only at h<;>omega
  | ok y=>
   obtain ⟨m,r⟩:=y
   rw[hx] at h hw
   cases r with
   | nil=>cases h
   | cons t r=>
    cases h
    exact ⟨by decide,hw.2.2 t (by simp)⟩
end Go.Ev
namespace Go.Ev
mutual
def Nd.sameP (pl:Bool):Nd→Nd→Bool
 | ⟨k,p,m,t,n,s,o,b,ks⟩,⟨k',p',m',t',n',s',o',b',ks'⟩=>k==k'&&m==m'&&t==t'&&n==n'&&s==s'&&o==o'&&b==b'&&(!pl||p==p')&&samePL pl ks ks'
def samePL (pl:Bool):List Nd→List Nd→Bool
 | [],[]=>true
 | k::ks,k'::ks'=>k.sameP pl k'&&samePL pl ks ks'
 | _,_=>false
end
mutual
theorem sameP_refl (pl:Bool):∀(n:Nd),n.sameP pl n=true
 | ⟨k,p,m,t,n,s,o,b,ks⟩=>by simp only[Nd.sameP,samePL_refl pl ks,beq_self_eq_true,Bool.or_true,Bool.and_self]
theorem samePL_refl (pl:Bool):∀(n:List Nd),samePL pl n n=true
 | []=>rfl
 | k::ks=>by simp only[samePL,sameP_refl pl k,samePL_refl pl ks,Bool.and_self]
end
theorem samePL_len {pl:Bool}:∀{a b:List Nd},samePL pl a b=true→a.length=b.length
 | [],[],_=>rfl
 | x::a,y::b,h=>by simp only[samePL,Bool.and_eq_true] at h;simp [samePL_len h.2]
 | [],y::b,h=>by simp [samePL] at h
 | x::a,[],h=>by simp [samePL] at h
theorem sameP_eq (pl:Bool) (n m:Nd):n.sameP pl m=(n.kind==m.kind&&n.name==m.name&&n.typ==m.typ&&n.n==m.n&&n.size==m.size&&n.obj==m.obj&&n.bits==m.bits&&(!pl||n.pos==m.pos)&&samePL pl n.kids m.kids):=by cases n;cases m;rfl
end Go.Ev
namespace Go.Ev
theorem alive6a:exprS [49,43,50,42,51]=.ok (.mk 31 0 [43] 0 0 0 0 0 [.mk 25 0 [] 0 1 0 0 0 [],.mk 31 2 [42] 0 0 0 0 0 [.mk 25 2 [] 0 2 0 0 0 [],.mk 25 4 [] 0 3 0 0 0 []]]):=by rfl
theorem alive6b:exprS [49,60,50,60,51]=.error (2,3):=by rfl
end Go.Ev
