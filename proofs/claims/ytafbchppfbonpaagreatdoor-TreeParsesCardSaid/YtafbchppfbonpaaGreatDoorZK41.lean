/- The document's lexer: a token, words and numbers. -/
import Derived.Test.YtafbchppfbonpaaGreatDoorZK4
import Derived.Test.YtafbchppfbonpaaGreatDoorEvB
import Derived.Test.YtafbchppfbonpaaGreatDoorPuA
set_option linter.all false
set_option linter.unusedVariables false
set_option linter.unusedSimpArgs false
namespace Go.Ev
open Go
set_option maxRecDepth 100000
set_option maxHeartbeats 4000000
theorem tw_lt {p:UInt8→Bool}:∀{l:Bs} {i:Nat},i≤(l.takeWhile p).length→((∃c,l[i]?=some c∧p c=true)↔i<(l.takeWhile p).length)
 | [],i,h=>by simp
 | c::l,i,h=>by
  rw[List.takeWhile_cons] at h ⊢
  cases hp:p c with
  | false=>
   rw[hp] at h
   simp at h
   subst h
   simp [hp]
  | true=>
   rw[hp] at h
   simp only[if_true,List.length_cons] at h ⊢
   cases i with
   | zero=>simp [hp]
   | succ i=>
    have:=tw_lt (p:=p) (l:=l) (i:=i) (by omega)
    simp only[List.getElem?_cons_succ]
    rw[this]
    omega
theorem tw_take (p:UInt8→Bool) (l:Bs):l.take (l.takeWhile p).length=l.takeWhile p:=by
 have:=congrArg (List.take (l.takeWhile p).length) (List.takeWhile_append_dropWhile (p:=p) (l:=l))
 rw[List.take_left] at this
 exact this.symm
theorem tw_len (p:UInt8→Bool) (l:Bs):(l.takeWhile p).length+(l.dropWhile p).length=l.length:=by
 rw[←List.length_append,List.takeWhile_append_dropWhile]
abbrev zT:List AV:=[.int .i64 0,.str [],.int .i64 0,.int .u64 0,.int .i64 0]
def oneQ (N:Nat) (h:AHeap) (Q:QR):Except Err (Tok×Bs)→Prop
 | .error (e,p)=>∀h',Fr h.n h h'→Q (.ret (.tuple [.agg zT,.int .i64 0,.int .i64 (e:Int),.int .i64 (p:Int)])) h'
 | .ok (t,r)=>∀h',Fr h.n h h'→Q (.ret (.tuple [tokAV t,.int .i64 ((N-r.length:Nat):Int),.int .i64 0,.int .i64 0])) h'
theorem decVal_mono {t:Bs}:∀(n k:Nat),decVal (t.take k)≤decVal (t.take (k+n))
 | 0,k=>Nat.le_refl _
 | n+1,k=>by
  have h1:=decVal_mono (t:=t) n k
  rcases Nat.lt_or_ge (k+n) t.length with h|h
  ·have:=decVal_succ (t:=t) (List.getElem?_eq_getElem h)
   rw[show k+(n+1)=k+n+1 by omega]
   omega
  ·rw[List.take_of_length_le (by omega:t.length≤k+(n+1))]
   rw[List.take_of_length_le (by omega:t.length≤k+n)] at h1
   exact h1
theorem hexN:∀n,n<256→findB n hexs 0=if 48≤n∧n≤57 then ((n-48:Nat):Int) else if 97≤n∧n≤102 then ((n-87:Nat):Int) else -1:=by decide +kernel
theorem hexU (c:UInt8):findB c.toNat hexs 0=if 48≤c.toNat∧c.toNat≤57 then ((c.toNat-48:Nat):Int) else if 97≤c.toNat∧c.toNat≤102 then ((c.toNat-87:Nat):Int) else -1:=hexN _ (UInt8.toNat_lt c)
theorem or_low {v d:Nat} (hd:d<16):(16*v % 2^64) ||| d=16*v % 2^64+d:=by
 have e:16*v % 2^64=2^4*(v % 2^60):=by omega
 rw[e,Nat.two_pow_add_eq_or_of_lt (by omega:d<2^4)]
theorem mark1N:∀n,n<256→(0≤findB n marks1 0↔n=43∨n=45∨n=42∨n=47∨n=37∨n=60∨n=62∨n=61∨n=33∨n=40∨n=41∨n=123∨n=125∨n=91∨n=93∨n=44∨n=59):=by decide +kernel
theorem one_spec {s:Bs} (hlen:s.length<2^61) {p:Nat} (hp:p<s.length) {h:AHeap} {Q:QR} (hQ:oneQ s.length h Q (nextTok s.length (s.drop p))):WF F 31 [.str s,.int .i64 (p:Int)] h Q:=by
 refine WF.code F31 rfl ?_
 obtain ⟨c,hc⟩:=get_lt hp
 have hdr:=drop_cons hc
 have hnx:nextTok s.length (s.drop p)=if isLetter c then wordTok s.length (s.drop p) else if isDigit c then numTok s.length (s.drop p) else if c.toNat=35 then fltTok s.length (s.drop p) else markTok s.length (s.drop p):=by rw[hdr];rfl
 have hl:(s.drop p).length=s.length-p:=List.length_drop
 have hget:∀i,(s.drop p)[i]?=s[p+i]?:=fun i=>List.getElem?_drop
 rw[hnx] at hQ
 simp(disch:=(try simp only[hN]);omega)only[go_sem,simprocAttr,hc,Int.toNat_natCast]
 generalize hH:AHeap.upd _ _ _ _=H
 have hHn:H.n=h.n+3:=by rw[←hH];simp(disch:=(try simp only[hN]);omega)only[go_sem,simprocAttr]
 have hH0:H.get h.n=some ⟨0,.cells .own 0 zT⟩:=by rw[←hH];simp(disch:=(try simp only[hN]);omega)only[go_sem,simprocAttr]
 have hH1:H.get (h.n+1)=some ⟨1,.cells .own 0 [.int .i64 0,.str [],.int .i64 0,.int .u64 0,.int .i64 (p:Int)]⟩:=by rw[←hH];simp(disch:=(try simp only[hN]);omega)only[go_sem,simprocAttr]
 have hH2:H.get (h.n+2)=some ⟨1,.cells .own 0 zT⟩:=by rw[←hH];simp(disch:=(try simp only[hN]);omega)only[go_sem,simprocAttr]
 have hHo:∀b,b<h.n→H.get b=h.get b:=fun b hb=>by rw[←hH];simp(disch:=(try simp only[hN]);omega)only[go_sem,simprocAttr]
 clear hH
 refine rletter_spec c _ _ ?_
 simp(disch:=(try simp only[hN]);omega)only[go_sem,simprocAttr]
 (first|refine kA (fun h1=>?_) (fun h1=>?_)|refine kB (fun h1=>?_) (fun h1=>?_)|refine kC (fun h1=>?_) (fun h1=>?_)|refine kD (fun h1=>?_) (fun h1=>?_)|refine kE (fun h1=>?_) (fun h1=>?_)|refine kF (fun h1=>?_) (fun h1=>?_))
 ·rw[if_pos h1] at hQ
  generalize hW:((s.drop p).takeWhile isWord).length=W
  have hWl:W≤s.length-p:=by rw[←hW,←hl];exact (List.takeWhile_prefix _).length_le
  simp(disch:=(try simp only[hN]);omega)only[go_sem,simprocAttr]
  refine wp_loopx 3 (fun n a h'=>∃i:Nat,n=W-i∧i≤W∧h'=H∧a.tm.get 0=some (.str s)∧a.tm.get 1=some (.int .i64 (p:Int))∧a.tm.get 4=some (.ptr h.n 0)∧a.tm.get 10=some (.ptr (h.n+1) 0)∧a.tm.get 11=some (.ptr (h.n+2) 0)∧a.tm.get 9=some (.int .i64 ((p+i:Nat):Int))∧a.df=[]) (fun a h'=>h'=H∧a.tm.get 0=some (.str s)∧a.tm.get 1=some (.int .i64 (p:Int))∧a.tm.get 4=some (.ptr h.n 0)∧a.tm.get 10=some (.ptr (h.n+1) 0)∧a.tm.get 11=some (.ptr (h.n+2) 0)∧a.tm.get 9=some (.int .i64 ((p+W:Nat):Int))∧a.df=[]) ?_ ?_ W ?_
  ·rintro n ⟨t,df⟩ h2 ⟨i,hn,hi,rfl,k0,k1,k4,k10,k11,k9,hdf⟩
   simp only at k0 k1 k4 k10 k11 k9 hdf
   subst hdf
   have hiff:=tw_lt (p:=isWord) (l:=s.drop p) (i:=i) (by omega)
   rw[hW,hget] at hiff
   by_cases hq:p+i<s.length
   ·obtain ⟨d,hd⟩:=get_lt hq
    have g1:decide (((p+i:Nat):Int)<(s.length:Int))=true:=decide_eq_true (by omega)
    simp(disch:=(try simp only[hN]);omega)only[go_sem,simprocAttr,k0,k1,k4,k9,k10,k11,g1,Int.toNat_natCast,hd]
    refine rletter_spec d _ _ ?_
    cases hld:isLetter d
    ·simp(disch:=(try simp only[hN]);omega)only[go_sem,simprocAttr,k0,k1,k4,k9,k10,k11,Int.toNat_natCast,hd]
     refine rdigit_spec d _ _ ?_
     cases hdd:isDigit d
     ·have hno:¬i<W:=fun hlt=>by
       obtain ⟨c',e1,e2⟩:=hiff.2 hlt
       rw[hd] at e1;cases e1
       simp [isWord,hld,hdd] at e2
      have hiW:i=W:=by omega
      subst hiW
      simp(disch:=(try simp only[hN]);omega)only[go_sem,simprocAttr,k0,k1,k4,k9,k10,k11]
     ·have hlt:i<W:=hiff.1 ⟨d,hd,by simp [isWord,hdd]⟩
      simp(disch:=(try simp only[hN]);omega)only[go_sem,simprocAttr,k0,k1,k4,k9,k10,k11]
      exact ⟨_,hn ▸ Nat.sub_lt_sub_left hlt (Nat.lt_succ_self i),i+1,rfl,hlt,rfl⟩
    ·have hlt:i<W:=hiff.1 ⟨d,hd,by simp [isWord,hld]⟩
     simp(disch:=(try simp only[hN]);omega)only[go_sem,simprocAttr,k0,k1,k4,k9,k10,k11]
     exact ⟨_,hn ▸ Nat.sub_lt_sub_left hlt (Nat.lt_succ_self i),i+1,rfl,hlt,rfl⟩
   ·have g1:decide (((p+i:Nat):Int)<(s.length:Int))=false:=decide_eq_false (by omega)
    have hiW:i=W:=by omega
    subst hiW
    simp(disch:=(try simp only[hN]);omega)only[go_sem,simprocAttr,k0,k1,k4,k9,k10,k11,g1]
  ·rintro ⟨t,df⟩ h2 ⟨rfl,k0,k1,k4,k10,k11,k9,hdf⟩
   simp only at k0 k1 k4 k10 k11 k9 hdf
   subst hdf
   have hpl:(((p+W:Nat):Int)-(p:Int))=(W:Int):=by omega
   have hwt:wordTok s.length (s.drop p)=if 24<W then .error (6,p) else .ok (⟨if keys.contains ((s.drop p).takeWhile isWord) then 2 else 1,(s.drop p).takeWhile isWord,0,0,p⟩,(s.drop p).dropWhile isWord):=by
    have:s.length-(s.drop p).length=p:=by omega
    simp only[wordTok,hW,this]
   rw[hwt] at hQ
   simp(disch:=(try simp only[hN]);omega)only[go_sem,simprocAttr,k0,k1,k4,k9,k10,k11,hpl]
   (first|refine kA (fun h24=>?_) (fun h24=>?_)|refine kB (fun h24=>?_) (fun h24=>?_)|refine kC (fun h24=>?_) (fun h24=>?_)|refine kD (fun h24=>?_) (fun h24=>?_)|refine kE (fun h24=>?_) (fun h24=>?_)|refine kF (fun h24=>?_) (fun h24=>?_))
   ·have:24<W:=(by have:=of_decide_eq_true h24;omega)
    rw[if_pos this] at hQ
    simp(disch:=(try simp only[hN]);omega)only[go_sem,simprocAttr,k0,k1,k4,k9,k10,k11,hH0,hH2]
    exact hQ _ ⟨by (try simp only[hN]);omega,fun b hb hne=>by (try simp only[hN] at hb hne);simp(disch:=(try simp only[hN]);omega)only[go_sem,simprocAttr,hHo]⟩
   ·have:¬24<W:=(by have:=of_decide_eq_false h24;omega)
    rw[if_neg this] at hQ
    have htx:(s.drop p).take (p+W-p)=(s.drop p).takeWhile isWord:=by rw[Nat.add_sub_cancel_left,←hW,tw_take]
    have hrl:s.length-((s.drop p).dropWhile isWord).length=p+W:=by
     have:=tw_len isWord (s.drop p)
     omega
    simp only[oneQ,hrl] at hQ
    generalize (s.drop p).takeWhile isWord=T at hQ htx
    simp(disch:=(try simp only[hN]);omega)only[go_sem,simprocAttr,k0,k1,k4,k9,k10,k11,hH1]
    refine rkey_spec ?_
    rw[htx]
    have g1:bnd (some (.int .i64 (p:Int))) 0 (p+W)=some p:=bnd_num (by omega)
    have g2:bnd (some (.int .i64 ((p+W:Nat):Int))) s.length s.length=some (p+W):=bnd_num (i:=p+W) (by omega)
    cases hk:keys.contains T
    ·rw[hk] at hQ
     simp(disch:=(try simp only[hN]);omega)only[go_sem,simprocAttr,k0,k1,k4,k9,k10,k11,hH1,hH0,g1,g2,htx]
     refine hQ _ ⟨by (try simp only[hN]);omega,fun b hb hne=>by (try simp only[hN] at hb hne);simp(disch:=(try simp only[hN]);omega)only[go_sem,simprocAttr,hHo]⟩
    ·rw[hk] at hQ
     simp(disch:=(try simp only[hN]);omega)only[go_sem,simprocAttr,k0,k1,k4,k9,k10,k11,hH1,hH0,g1,g2,htx]
     refine hQ _ ⟨by (try simp only[hN]);omega,fun b hb hne=>by (try simp only[hN] at hb hne);simp(disch:=(try simp only[hN]);omega)only[go_sem,simprocAttr,hHo]⟩
  ·exact ⟨0,rfl,Nat.zero_le _,rfl,by simp(disch:=(try simp only[hN]);omega)only[go_sem,simprocAttr],by simp(disch:=(try simp only[hN]);omega)only[go_sem,simprocAttr],by simp(disch:=(try simp only[hN]);omega)only[go_sem,simprocAttr],by simp(disch:=(try simp only[hN]);omega)only[go_sem,simprocAttr],by simp(disch:=(try simp only[hN]);omega)only[go_sem,simprocAttr],by simp(disch:=(try simp only[hN]);omega)only[go_sem,simprocAttr,Nat.add_zero],by simp(disch:=(try simp only[hN]);omega)only[go_sem,simprocAttr]⟩
 rw[h1] at hQ
 simp only[Bool.false_eq_true,if_false] at hQ
 simp(disch:=(try simp only[hN]);omega)only[go_sem,simprocAttr]
 refine rdigit_spec c _ _ ?_
 simp(disch:=(try simp only[hN]);omega)only[go_sem,simprocAttr]
 (first|refine kA (fun h2=>?_) (fun h2=>?_)|refine kB (fun h2=>?_) (fun h2=>?_)|refine kC (fun h2=>?_) (fun h2=>?_)|refine kD (fun h2=>?_) (fun h2=>?_)|refine kE (fun h2=>?_) (fun h2=>?_)|refine kF (fun h2=>?_) (fun h2=>?_))
 ·rw[if_pos h2,numTok_eq] at hQ
  have hzz:numZero (s.drop p)=decide (c.toNat=48):=by rw[hdr];rfl
  generalize hT:numText (s.drop p)=T at hQ
  generalize hR:numRest (s.drop p)=R at hQ
  have hlen1:T.length+R.length=s.length-p∧1≤T.length∧T=(s.drop p).take T.length∧R=s.drop (p+T.length):=by
   rw[←hT,←hR,←hl]
   unfold numText numRest
   by_cases hz:c.toNat=48
   ·have hc48:c=48:=UInt8.toNat_inj.1 (by rw[hz];rfl)
    rw[hzz,decide_eq_true hz]
    simp only[if_true]
    rw[hdr,hc48]
    simp
    omega
   ·rw[hzz,decide_eq_false hz]
    simp only[Bool.false_eq_true,if_false]
    refine ⟨tw_len _ _,?_,(tw_take _ _).symm,?_⟩
    ·rw[hdr,List.takeWhile_cons,h2]
     simp
    ·rw[←List.drop_drop]
     have:=congrArg (List.drop ((s.drop p).takeWhile isDigit).length) (List.takeWhile_append_dropWhile (p:=isDigit) (l:=s.drop p))
     rw[List.drop_left] at this
     exact this
  obtain ⟨hTR,hT1,hTt,hRd⟩:=hlen1
  have hdig:∀i,1≤i→i≤T.length→((c.toNat≠48∧∃d,s[p+i]?=some d∧isDigit d=true)↔i<T.length):=by
   intro i hi1 hi2
   rw[←hT] at hi2 ⊢
   unfold numText at hi2 ⊢
   rw[hzz] at hi2 ⊢
   by_cases hz:c.toNat=48
   ·rw[decide_eq_true hz] at hi2 ⊢
    simp at hi2 ⊢
    omega
   ·rw[decide_eq_false hz] at hi2 ⊢
    simp only[Bool.false_eq_true,if_false] at hi2 ⊢
    have:=tw_lt (p:=isDigit) (l:=s.drop p) (i:=i) hi2
    rw[hget] at this
    rw[←this]
    exact ⟨fun h=>h.2,fun h=>⟨hz,h⟩⟩
  have hTd:∀(i:Nat) (d:UInt8),T[i]?=some d→48≤d.toNat∧d.toNat≤57:=fun i d hd=>numText_digits (l:=s.drop p) (by rw[hT];exact hd)
  have hTg:∀i,i<T.length→T[i]?=s[p+i]?:=fun i hi=>by rw[hTt,List.getElem?_take,if_pos hi,hget]
  clear hT hR
  simp(disch:=(try simp only[hN]);omega)only[go_sem,simprocAttr,hc,Int.toNat_natCast]
  refine wp_loopx 5 (fun n a h'=>∃i:Nat,n=T.length-i∧1≤i∧i≤T.length∧h'=H∧a.tm.get 0=some (.str s)∧a.tm.get 1=some (.int .i64 (p:Int))∧a.tm.get 4=some (.ptr h.n 0)∧a.tm.get 8=some (.int .u8 (c.toNat:Int))∧a.tm.get 10=some (.ptr (h.n+1) 0)∧a.tm.get 11=some (.ptr (h.n+2) 0)∧a.tm.get 9=some (.int .i64 ((p+i:Nat):Int))∧a.df=[]) (fun a h'=>h'=H∧a.tm.get 0=some (.str s)∧a.tm.get 1=some (.int .i64 (p:Int))∧a.tm.get 4=some (.ptr h.n 0)∧a.tm.get 10=some (.ptr (h.n+1) 0)∧a.tm.get 11=some (.ptr (h.n+2) 0)∧a.tm.get 9=some (.int .i64 ((p+T.length:Nat):Int))∧a.df=[]) ?_ ?_ (T.length-1) ?_
  ·rintro n ⟨t,df⟩ h2' ⟨i,hn,hi1,hi,rfl,k0,k1,k4,k8,k10,k11,k9,hdf⟩
   simp only at k0 k1 k4 k8 k10 k11 k9 hdf
   subst hdf
   have hiff:=hdig i hi1 hi
   by_cases hz:c.toNat=48
   ·have e1:((c.toNat:Int) != 48)=false:=by simp;omega
    have hiT:i=T.length:=by
     have:¬i<T.length:=fun hlt=>(hiff.2 hlt).1 hz
     omega
    subst hiT
    simp(disch:=(try simp only[hN]);omega)only[go_sem,simprocAttr,k0,k1,k4,k8,k9,k10,k11,e1]
   have e1:((c.toNat:Int) != 48)=true:=by simp;omega
   by_cases hq:p+i<s.length
   ·obtain ⟨d,hd⟩:=get_lt hq
    have g1:decide (((p+i:Nat):Int)<(s.length:Int))=true:=decide_eq_true (by omega)
    simp(disch:=(try simp only[hN]);omega)only[go_sem,simprocAttr,k0,k1,k4,k8,k9,k10,k11,e1,g1,Int.toNat_natCast,hd]
    refine rdigit_spec d _ _ ?_
    cases hdd:isDigit d
    ·have hiT:i=T.length:=by
      have:¬i<T.length:=fun hlt=>by
       obtain ⟨_,c',e1,e2⟩:=hiff.2 hlt
       rw[hd] at e1;cases e1
       rw[hdd] at e2;cases e2
      omega
     subst hiT
     simp(disch:=(try simp only[hN]);omega)only[go_sem,simprocAttr,k0,k1,k4,k8,k9,k10,k11]
    ·have hlt:i<T.length:=hiff.1 ⟨hz,d,hd,hdd⟩
     simp(disch:=(try simp only[hN]);omega)only[go_sem,simprocAttr,k0,k1,k4,k8,k9,k10,k11]
     exact ⟨_,hn ▸ Nat.sub_lt_sub_left hlt (Nat.lt_succ_self i),i+1,rfl,by omega,hlt,rfl⟩
   ·have g1:decide (((p+i:Nat):Int)<(s.length:Int))=false:=decide_eq_false (by omega)
    have hiT:i=T.length:=by omega
    subst hiT
    simp(disch:=(try simp only[hN]);omega)only[go_sem,simprocAttr,k0,k1,k4,k8,k9,k10,k11,e1,g1]
  ·rintro ⟨t,df⟩ h2' ⟨rfl,k0,k1,k4,k10,k11,k9,hdf⟩
   simp only at k0 k1 k4 k10 k11 k9 hdf
   subst hdf
   simp(disch:=(try simp only[hN]);omega)only[go_sem,simprocAttr,k0,k1,k4,k9,k10,k11]
   refine wp_loopx 7 (fun n a h'=>∃j:Nat,n=T.length-j∧j≤T.length∧decVal (T.take j)<2^63∧h'=h2'∧a.tm.get 0=some (.str s)∧a.tm.get 1=some (.int .i64 (p:Int))∧a.tm.get 4=some (.ptr h.n 0)∧a.tm.get 10=some (.ptr (h.n+1) 0)∧a.tm.get 11=some (.ptr (h.n+2) 0)∧a.tm.get 9=some (.int .i64 ((p+T.length:Nat):Int))∧a.tm.get 12=some (.int .u64 (decVal (T.take j):Int))∧a.tm.get 13=some (.int .i64 ((p+j:Nat):Int))∧a.df=[]) (fun a h'=>decVal T<2^63∧h'=h2'∧a.tm.get 0=some (.str s)∧a.tm.get 1=some (.int .i64 (p:Int))∧a.tm.get 4=some (.ptr h.n 0)∧a.tm.get 10=some (.ptr (h.n+1) 0)∧a.tm.get 11=some (.ptr (h.n+2) 0)∧a.tm.get 9=some (.int .i64 ((p+T.length:Nat):Int))∧a.tm.get 12=some (.int .u64 (decVal T:Int))∧a.df=[]) ?_ ?_ T.length ?_
   ·rintro n ⟨t,df⟩ h3 ⟨j,hn,hj,hv,rfl,k0,k1,k4,k10,k11,k9,k12,k13,hdf⟩
    simp only at k0 k1 k4 k10 k11 k9 k12 k13 hdf
    subst hdf
    by_cases hjl:j<T.length
    ·have g1:decide (((p+j:Nat):Int)<((p+T.length:Nat):Int))=true:=decide_eq_true (by omega)
     have htd:T[j]?=some T[j]:=List.getElem?_eq_getElem hjl
     have hd48:=hTd j _ htd
     have hds:=(hTg j hjl).symm.trans htd
     have hvs:=decVal_succ htd
     have hmono:=decVal_mono (t:=T) (T.length-(j+1)) (j+1)
     rw[show j+1+(T.length-(j+1))=T.length by omega,List.take_length] at hmono
     generalize T[j]=d at hd48 hds hvs
     obtain ⟨dn,hdn⟩:∃dn:Nat,d.toNat=48+dn:=⟨d.toNat-48,by omega⟩
     have e1:((d.toNat:Int)-48)=(dn:Int):=by omega
     have e2:(9223372036854775807-(dn:Int))=((9223372036854775807-dn:Nat):Int):=by omega
     have e3:(((9223372036854775807-dn:Nat):Int).tdiv 10)=(((9223372036854775807-dn) / 10:Nat):Int):=by
      rw[Int.tdiv_eq_ediv_of_nonneg (by omega)];omega
     have e4:d.toNat-48=dn:=by omega
     rw[e4] at hvs
     generalize decVal (T.take j)=V at *
     simp(disch:=(try simp only[hN]);omega)only[go_sem,simprocAttr,k0,k1,k4,k9,k10,k11,k12,k13,g1,Int.toNat_natCast,hds,e1,e2,e3]
     (first|refine kA (fun ho=>?_) (fun ho=>?_)|refine kB (fun ho=>?_) (fun ho=>?_)|refine kC (fun ho=>?_) (fun ho=>?_)|refine kD (fun ho=>?_) (fun ho=>?_)|refine kE (fun ho=>?_) (fun ho=>?_)|refine kF (fun ho=>?_) (fun ho=>?_))
     ·have ho':(9223372036854775807-dn) / 10<V:=(by have:=of_decide_eq_true ho;omega)
      have hbad:¬decVal T<2^63:=by omega
      rw[if_neg hbad] at hQ
      rw[show s.length-(s.drop p).length=p by omega] at hQ
      simp(disch:=(try simp only[hN]);omega)only[go_sem,simprocAttr,k0,k1,k4,k9,k10,k11,hH0,hH2]
      exact hQ _ ⟨by (try simp only[hN]);omega,fun b hb hne=>by (try simp only[hN] at hb hne);simp(disch:=(try simp only[hN]);omega)only[go_sem,simprocAttr,hHo]⟩
     ·have ho':V≤(9223372036854775807-dn) / 10:=(by have:=of_decide_eq_false ho;omega)
      have hV2:10*V+dn<2^63:=by omega
      have e5:((10:Int)*(V:Int))=((10*V:Nat):Int):=by omega
      have e6:(((10*V:Nat):Int)+(dn:Int))=((10*V+dn:Nat):Int):=by omega
      simp(disch:=(try simp only[hN]);omega)only[go_sem,simprocAttr,k0,k1,k4,k9,k10,k11,k12,k13,e5,e6]
      exact ⟨_,hn ▸ Nat.sub_lt_sub_left hjl (Nat.lt_succ_self j),j+1,rfl,hjl,by rw[hvs];exact hV2,by rw[hvs],rfl⟩
    ·have hjT:j=T.length:=by omega
     subst hjT
     have g1:decide (((p+T.length:Nat):Int)<((p+T.length:Nat):Int))=false:=decide_eq_false (by omega)
     rw[List.take_length] at hv k12
     simp(disch:=(try simp only[hN]);omega)only[go_sem,simprocAttr,k0,k1,k4,k9,k10,k11,k12,k13,g1]
     exact hv
   ·rintro ⟨t,df⟩ h3 ⟨hv,rfl,k0,k1,k4,k10,k11,k9,k12,hdf⟩
    simp only at k0 k1 k4 k10 k11 k9 k12 hdf
    subst hdf
    rw[if_pos hv] at hQ
    rw[show s.length-(s.drop p).length=p by omega] at hQ
    have htx:(s.drop p).take (p+T.length-p)=T:=by rw[Nat.add_sub_cancel_left];exact hTt.symm
    have g1:bnd (some (.int .i64 (p:Int))) 0 (p+T.length)=some p:=bnd_num (by omega)
    have g2:bnd (some (.int .i64 ((p+T.length:Nat):Int))) s.length s.length=some (p+T.length):=bnd_num (i:=p+T.length) (by omega)
    have hrl:s.length-R.length=p+T.length:=by omega
    have hvi:wr .i64 (decVal T:Int)=(decVal T:Int):=wr_i64 (by omega) (by omega)
    unfold aloneE at hQ
    rw[hrl] at hQ
    simp(disch:=(try simp only[hN]);omega)only[go_sem,simprocAttr]
    by_cases hq:p+T.length<s.length
    ·obtain ⟨d,hd⟩:=get_lt hq
     have hRd2:=drop_cons hd
     have hw:headB isWord R=isWord d:=by rw[hRd,hRd2];rfl
     rw[hw] at hQ
     have g3:decide (((p+T.length:Nat):Int)<(s.length:Int))=true:=decide_eq_true (by omega)
     simp(disch:=(try simp only[hN]);omega)only[go_sem,simprocAttr,k0,k1,k4,k9,k10,k11,k12,g3,Int.toNat_natCast,hd]
     refine rletter_spec d _ _ ?_
     cases hld:isLetter d
     ·simp(disch:=(try simp only[hN]);omega)only[go_sem,simprocAttr,k0,k1,k4,k9,k10,k11,k12,g3,Int.toNat_natCast,hd]
      refine rdigit_spec d _ _ ?_
      cases hdd:isDigit d
      ·have:isWord d=false:=by simp [isWord,hld,hdd]
       simp only[this,if_true,if_false,Bool.false_eq_true,oneQ,hrl] at hQ
       simp(disch:=(try simp only[hN]);omega)only[go_sem,simprocAttr,k0,k1,k4,k9,k10,k11,k12,hH0,hH1,hH2,g1,g2,htx,hvi]
       exact hQ _ ⟨by (try simp only[hN]);omega,fun b hb hne=>by (try simp only[hN] at hb hne);simp(disch:=(try simp only[hN]);omega)only[go_sem,simprocAttr,hHo]⟩
      ·have:isWord d=true:=by simp [isWord,hdd]
       simp only[this,if_true,if_false,Bool.false_eq_true,oneQ,hrl] at hQ
       simp(disch:=(try simp only[hN]);omega)only[go_sem,simprocAttr,k0,k1,k4,k9,k10,k11,k12,hH0,hH1,hH2,g1,g2,htx,hvi]
       exact hQ _ ⟨by (try simp only[hN]);omega,fun b hb hne=>by (try simp only[hN] at hb hne);simp(disch:=(try simp only[hN]);omega)only[go_sem,simprocAttr,hHo]⟩
     ·have:isWord d=true:=by simp [isWord,hld]
      simp only[this,if_true,if_false,Bool.false_eq_true,oneQ,hrl] at hQ
      simp(disch:=(try simp only[hN]);omega)only[go_sem,simprocAttr,k0,k1,k4,k9,k10,k11,k12,hH0,hH1,hH2,g1,g2,htx,hvi]
      exact hQ _ ⟨by (try simp only[hN]);omega,fun b hb hne=>by (try simp only[hN] at hb hne);simp(disch:=(try simp only[hN]);omega)only[go_sem,simprocAttr,hHo]⟩
    ·have g3:decide (((p+T.length:Nat):Int)<(s.length:Int))=false:=decide_eq_false (by omega)
     have hR0:R=[]:=List.length_eq_zero_iff.1 (by omega)
     have hw:headB isWord R=false:=by rw[hR0];rfl
     simp only[hw,if_true,if_false,Bool.false_eq_true,oneQ,hrl] at hQ
     simp(disch:=(try simp only[hN]);omega)only[go_sem,simprocAttr,k0,k1,k4,k9,k10,k11,k12,g3,hH0,hH1,hH2,g1,g2,htx,hvi]
     exact hQ _ ⟨by (try simp only[hN]);omega,fun b hb hne=>by (try simp only[hN] at hb hne);simp(disch:=(try simp only[hN]);omega)only[go_sem,simprocAttr,hHo]⟩
   ·exact ⟨0,rfl,Nat.zero_le _,by rw[List.take_zero];decide,rfl,by simp(disch:=(try simp only[hN]);omega)only[go_sem,simprocAttr,k0],by simp(disch:=(try simp only[hN]);omega)only[go_sem,simprocAttr,k1],by simp(disch:=(try simp only[hN]);omega)only[go_sem,simprocAttr,k4],by simp(disch:=(try simp only[hN]);omega)only[go_sem,simprocAttr,k10],by simp(disch:=(try simp only[hN]);omega)only[go_sem,simprocAttr,k11],by simp(disch:=(try simp only[hN]);omega)only[go_sem,simprocAttr,k9],by (first|(simp(disch:=(try simp only[hN]);omega)only[go_sem,simprocAttr,decVal];done)|(simp(disch:=(try simp only[hN]);omega)only[go_sem,simprocAttr,decVal];rfl)),by simp(disch:=(try simp only[hN]);omega)only[go_sem,simprocAttr,Nat.add_zero],by simp(disch:=(try simp only[hN]);omega)only[go_sem,simprocAttr]⟩
  ·exact ⟨1,rfl,Nat.le_refl _,hT1,rfl,by simp(disch:=(try simp only[hN]);omega)only[go_sem,simprocAttr],by simp(disch:=(try simp only[hN]);omega)only[go_sem,simprocAttr],by simp(disch:=(try simp only[hN]);omega)only[go_sem,simprocAttr],by simp(disch:=(try simp only[hN]);omega)only[go_sem,simprocAttr],by simp(disch:=(try simp only[hN]);omega)only[go_sem,simprocAttr],by simp(disch:=(try simp only[hN]);omega)only[go_sem,simprocAttr],by (first|(simp(disch:=(try simp only[hN]);omega)only[go_sem,simprocAttr];done)|(simp(disch:=(try simp only[hN]);omega)only[go_sem,simprocAttr];rfl)),by simp(disch:=(try simp only[hN]);omega)only[go_sem,simprocAttr]⟩
 rw[h2] at hQ
 simp only[Bool.false_eq_true,if_false] at hQ
 simp(disch:=(try simp only[hN]);omega)only[go_sem,simprocAttr]
 by_cases h35:c.toNat=35
 ·have e35:((c.toNat:Int)==35)=true:=by simp;omega
  rw[if_pos h35,fltTok_eq,show s.length-(s.drop p).length=p by omega] at hQ
  have hDg:∀i,i<16→(fltD (s.drop p))[i]?=s[p+1+i]?:=fun i hi=>by
   unfold fltD
   rw[List.getElem?_take,if_pos hi,List.getElem?_drop,hget]
   congr 1;omega
  have hDl:(fltD (s.drop p)).length=min 16 (s.length-p-1):=by
   unfold fltD;rw[List.length_take,List.length_drop,hl]
  have hDt:(fltD (s.drop p)).take 16=fltD (s.drop p):=List.take_of_length_le (by omega)
  generalize hD:fltD (s.drop p)=D at hQ hDg hDl hDt
  simp(disch:=(try simp only[hN]);omega)only[go_sem,simprocAttr,e35]
  refine wp_loopx 9 (fun n a h'=>∃j ver:Nat,n=16-j∧j≤16∧(j≤D.length∧(D.take j).all isHex=true)∧h'.n=H.n∧(∀b,b≠h.n+1→h'.get b=H.get b)∧h'.get (h.n+1)=some ⟨ver,.cells .own 0 [.int .i64 0,.str [],.int .i64 0,.int .u64 (hexVal (D.take j):Int),.int .i64 (p:Int)]⟩∧a.tm.get 0=some (.str s)∧a.tm.get 1=some (.int .i64 (p:Int))∧a.tm.get 4=some (.ptr h.n 0)∧a.tm.get 10=some (.ptr (h.n+1) 0)∧a.tm.get 11=some (.ptr (h.n+2) 0)∧a.tm.get 9=some (.int .i64 ((p+1+j:Nat):Int))∧a.df=[]) (fun a h'=>∃ver:Nat,(D.length=16∧D.all isHex=true)∧h'.n=H.n∧(∀b,b≠h.n+1→h'.get b=H.get b)∧h'.get (h.n+1)=some ⟨ver,.cells .own 0 [.int .i64 0,.str [],.int .i64 0,.int .u64 (hexVal D:Int),.int .i64 (p:Int)]⟩∧a.tm.get 0=some (.str s)∧a.tm.get 1=some (.int .i64 (p:Int))∧a.tm.get 4=some (.ptr h.n 0)∧a.tm.get 10=some (.ptr (h.n+1) 0)∧a.tm.get 11=some (.ptr (h.n+2) 0)∧a.tm.get 9=some (.int .i64 ((p+17:Nat):Int))∧a.df=[]) ?_ ?_ 16 ?_
  ·rintro n ⟨t,df⟩ h3 ⟨j,ver,hn,hj,⟨hjD,hall⟩,hn3,ho3,hb3,k0,k1,k4,k10,k11,k9,hdf⟩
   simp only at k0 k1 k4 k10 k11 k9 hdf
   subst hdf
   have q0:=(ho3 h.n (by omega)).trans hH0
   have q2:=(ho3 (h.n+2) (by omega)).trans hH2
   have hfo:∀b,b<h.n→h3.get b=h.get b:=fun b hb=>by rw[ho3 b (by omega),hHo b hb]
   have e16:((p:Int)+16)=((p+16:Nat):Int):=by omega
   by_cases hj16:j<16
   ·have g1:decide (((p+1+j:Nat):Int)≤((p+16:Nat):Int))=true:=decide_eq_true (by omega)
    by_cases hq:p+1+j<s.length
    ·obtain ⟨d,hd⟩:=get_lt hq
     have g2:decide (((p+1+j:Nat):Int)≥(s.length:Int))=false:=decide_eq_false (by omega)
     have hDj:D[j]?=some d:=(hDg j hj16).trans hd
     have hvs:=hexVal_succ hDj
     have hBl:=hexVal_lt (D.take j)
     have hxd:=hexU d
     have htk:D.take (j+1)=D.take j++[d]:=by
      have hjl:=(List.getElem?_eq_some_iff.1 hDj).1
      rw[List.take_succ_eq_append_getElem hjl,(List.getElem?_eq_some_iff.1 hDj).2]
     generalize hB:hexVal (D.take j)=B at hvs hBl hb3
     have e1:wr .u64 (16*(B:Int))=((16*B % 2^64:Nat):Int):=by
      have:=wr_u64_nat (16*B)
      rwa[show ((16*B:Nat):Int)=16*(B:Int) by omega] at this
     have hM:16*B % 2^64≤18446744073709551600:=by omega
     generalize hMM:16*B % 2^64=M at e1 hM
     simp(disch:=(try simp only[hN]);omega)only[go_sem,simprocAttr,k0,k1,k4,k9,k10,k11,e16,g1,g2,Int.toNat_natCast,hd]
     refine rdigit_spec d _ _ ?_
     cases hdd:isDigit d
     ·have hd48:¬(48≤d.toNat∧d.toNat≤57):=fun hh=>by rw[isDigit_iff.2 hh] at hdd;cases hdd
      rw[if_neg hd48] at hxd
      by_cases hdh:97≤d.toNat∧d.toNat≤102
      ·rw[if_pos hdh] at hxd
       have g3:decide ((d.toNat:Int)≥97)=true:=decide_eq_true (by omega)
       have g4:decide ((d.toNat:Int)≤102)=true:=decide_eq_true (by omega)
       obtain ⟨dn,hdn⟩:∃dn:Nat,d.toNat=97+dn:=⟨d.toNat-97,by omega⟩
       have e2:((d.toNat:Int)-97)=(dn:Int):=by omega
       have hx:isHex d=true:=decide_eq_true (by rw[hxd];omega)
       have hv2:hexVal (D.take (j+1))=M+dn+10:=by
        rw[hvs,hxd,←hMM,Int.toNat_natCast,or_low (by omega),show d.toNat-87=dn+10 by omega,Nat.add_assoc]
       have e3:((M:Int)+(dn:Int)+10)=((M+dn+10:Nat):Int):=by omega
       simp(disch:=(try simp only[hN]);omega)only[go_sem,simprocAttr,k0,k1,k4,k9,k10,k11,g3,g4,hb3,e1,e2,e3]
       refine ⟨_,hn ▸ Nat.sub_lt_sub_left hj16 (Nat.lt_succ_self j),j+1,ver+1,rfl,hj16,⟨?_,?_⟩,hn3,fun b hb=>by rw[AHeap.get_upd,if_neg hb];exact ho3 b hb,?_⟩
       ·rw[hDl];omega
       ·rw[htk,List.all_append,hall];simp [hx]
       ·simp(disch:=(try simp only[hN]);omega)only[go_sem,simprocAttr,hv2]
        rfl
      ·rw[if_neg hdh] at hxd
       have hbad:¬(D.length=16∧D.all isHex=true):=by
        rintro ⟨_,hh⟩
        have:=List.all_eq_true.1 hh d (List.mem_of_getElem? hDj)
        have:=of_decide_eq_true this
        rw[hxd] at this
        omega
       rw[if_neg hbad] at hQ
       by_cases hg:97≤d.toNat
       ·have g3:decide ((d.toNat:Int)≥97)=true:=decide_eq_true (by omega)
        have g4:decide ((d.toNat:Int)≤102)=false:=decide_eq_false (by omega)
        simp(disch:=(try simp only[hN]);omega)only[go_sem,simprocAttr,k0,k1,k4,k9,k10,k11,g3,g4,q0,q2]
        exact hQ _ ⟨by (try simp only[hN]);omega,fun b hb hne=>by (try simp only[hN] at hb hne);simp(disch:=(try simp only[hN]);omega)only[go_sem,simprocAttr,hfo]⟩
       ·have g3:decide ((d.toNat:Int)≥97)=false:=decide_eq_false (by omega)
        simp(disch:=(try simp only[hN]);omega)only[go_sem,simprocAttr,k0,k1,k4,k9,k10,k11,g3,q0,q2]
        exact hQ _ ⟨by (try simp only[hN]);omega,fun b hb hne=>by (try simp only[hN] at hb hne);simp(disch:=(try simp only[hN]);omega)only[go_sem,simprocAttr,hfo]⟩
     ·have hd48:=isDigit_iff.1 hdd
      rw[if_pos hd48] at hxd
      obtain ⟨dn,hdn⟩:∃dn:Nat,d.toNat=48+dn:=⟨d.toNat-48,by omega⟩
      have e2:((d.toNat:Int)-48)=(dn:Int):=by omega
      have hx:isHex d=true:=decide_eq_true (by rw[hxd];omega)
      have hv2:hexVal (D.take (j+1))=M+dn:=by
       rw[hvs,hxd,←hMM,Int.toNat_natCast,or_low (by omega),show d.toNat-48=dn by omega]
      have e3:((M:Int)+(dn:Int))=((M+dn:Nat):Int):=by omega
      simp(disch:=(try simp only[hN]);omega)only[go_sem,simprocAttr,k0,k1,k4,k9,k10,k11,hb3,e1,e2,e3]
      refine ⟨_,hn ▸ Nat.sub_lt_sub_left hj16 (Nat.lt_succ_self j),j+1,ver+1,rfl,hj16,⟨?_,?_⟩,hn3,fun b hb=>by rw[AHeap.get_upd,if_neg hb];exact ho3 b hb,?_⟩
      ·rw[hDl];omega
      ·rw[htk,List.all_append,hall];simp [hx]
      ·simp(disch:=(try simp only[hN]);omega)only[go_sem,simprocAttr,hv2]
       rfl
    ·have g2:decide (((p+1+j:Nat):Int)≥(s.length:Int))=true:=decide_eq_true (by omega)
     have hbad:¬(D.length=16∧D.all isHex=true):=by
      rintro ⟨hh,_⟩
      rw[hDl] at hh
      omega
     rw[if_neg hbad] at hQ
     simp(disch:=(try simp only[hN]);omega)only[go_sem,simprocAttr,k0,k1,k4,k9,k10,k11,e16,g1,g2,q0,q2]
     exact hQ _ ⟨by (try simp only[hN]);omega,fun b hb hne=>by (try simp only[hN] at hb hne);simp(disch:=(try simp only[hN]);omega)only[go_sem,simprocAttr,hfo]⟩
   ·have hj:j=16:=by omega
    subst hj
    have g1:decide (((p+1+16:Nat):Int)≤((p+16:Nat):Int))=false:=decide_eq_false (by omega)
    rw[hDt] at hall hb3
    simp(disch:=(try simp only[hN]);omega)only[go_sem,simprocAttr,k0,k1,k4,k9,k10,k11,e16,g1]
    exact ⟨ver,⟨by omega,hall⟩,hn3,ho3,hb3⟩
  ·rintro ⟨t,df⟩ h3 ⟨ver,hgood,hn3,ho3,hb3,k0,k1,k4,k10,k11,k9,hdf⟩
   simp only at k0 k1 k4 k10 k11 k9 hdf
   subst hdf
   rw[if_pos hgood] at hQ
   have q0:=(ho3 h.n (by omega)).trans hH0
   have q2:=(ho3 (h.n+2) (by omega)).trans hH2
   have hfo:∀b,b<h.n→h3.get b=h.get b:=fun b hb=>by rw[ho3 b (by omega),hHo b hb]
   have hp17:p+17≤s.length:=by have:=hgood.1;omega
   have htx:(s.drop p).take (p+17-p)=(s.drop p).take 17:=by rw[Nat.add_sub_cancel_left]
   have g1:bnd (some (.int .i64 (p:Int))) 0 (p+17)=some p:=bnd_num (by omega)
   have g2:bnd (some (.int .i64 ((p+17:Nat):Int))) s.length s.length=some (p+17):=bnd_num (i:=p+17) (by omega)
   have hR:(s.drop p).drop 17=s.drop (p+17):=by rw[List.drop_drop]
   have hrl:s.length-(s.drop (p+17)).length=p+17:=by rw[List.length_drop];omega
   unfold aloneE at hQ
   rw[hR,hrl] at hQ
   generalize (s.drop p).take 17=T at hQ htx
   generalize hexVal D=V at hb3 hQ
   simp(disch:=(try simp only[hN]);omega)only[go_sem,simprocAttr]
   by_cases hq:p+17<s.length
   ·obtain ⟨d,hd⟩:=get_lt hq
    have hRd2:=drop_cons hd
    have hw:headB isWord (s.drop (p+17))=isWord d:=by rw[hRd2];rfl
    rw[hw] at hQ
    have g3:decide (((p+17:Nat):Int)<(s.length:Int))=true:=decide_eq_true (by omega)
    simp(disch:=(try simp only[hN]);omega)only[go_sem,simprocAttr,k0,k1,k4,k9,k10,k11,g3,Int.toNat_natCast,hd]
    refine rletter_spec d _ _ ?_
    cases hld:isLetter d
    ·simp(disch:=(try simp only[hN]);omega)only[go_sem,simprocAttr,k0,k1,k4,k9,k10,k11,g3,Int.toNat_natCast,hd]
     refine rdigit_spec d _ _ ?_
     cases hdd:isDigit d
     ·have:isWord d=false:=by simp [isWord,hld,hdd]
      simp only[this,if_true,if_false,Bool.false_eq_true,oneQ,hrl] at hQ
      simp(disch:=(try simp only[hN]);omega)only[go_sem,simprocAttr,k0,k1,k4,k9,k10,k11,q0,hb3,q2,g1,g2,htx]
      exact hQ _ ⟨by (try simp only[hN]);omega,fun b hb hne=>by (try simp only[hN] at hb hne);simp(disch:=(try simp only[hN]);omega)only[go_sem,simprocAttr,hfo]⟩
     ·have:isWord d=true:=by simp [isWord,hdd]
      simp only[this,if_true,if_false,Bool.false_eq_true,oneQ,hrl] at hQ
      simp(disch:=(try simp only[hN]);omega)only[go_sem,simprocAttr,k0,k1,k4,k9,k10,k11,q0,hb3,q2,g1,g2,htx]
      exact hQ _ ⟨by (try simp only[hN]);omega,fun b hb hne=>by (try simp only[hN] at hb hne);simp(disch:=(try simp only[hN]);omega)only[go_sem,simprocAttr,hfo]⟩
    ·have:isWord d=true:=by simp [isWord,hld]
     simp only[this,if_true,if_false,Bool.false_eq_true,oneQ,hrl] at hQ
     simp(disch:=(try simp only[hN]);omega)only[go_sem,simprocAttr,k0,k1,k4,k9,k10,k11,q0,hb3,q2,g1,g2,htx]
     exact hQ _ ⟨by (try simp only[hN]);omega,fun b hb hne=>by (try simp only[hN] at hb hne);simp(disch:=(try simp only[hN]);omega)only[go_sem,simprocAttr,hfo]⟩
   ·have g3:decide (((p+17:Nat):Int)<(s.length:Int))=false:=decide_eq_false (by omega)
    have hw:headB isWord (s.drop (p+17))=false:=by rw[List.drop_of_length_le (by omega)];rfl
    simp only[hw,if_true,if_false,Bool.false_eq_true,oneQ,hrl] at hQ
    simp(disch:=(try simp only[hN]);omega)only[go_sem,simprocAttr,k0,k1,k4,k9,k10,k11,g3,q0,hb3,q2,g1,g2,htx]
    exact hQ _ ⟨by (try simp only[hN]);omega,fun b hb hne=>by (try simp only[hN] at hb hne);simp(disch:=(try simp only[hN]);omega)only[go_sem,simprocAttr,hfo]⟩
  ·exact ⟨0,1,rfl,Nat.zero_le _,⟨Nat.zero_le _,by simp⟩,rfl,fun _ _=>rfl,hH1,by simp(disch:=(try simp only[hN]);omega)only[go_sem,simprocAttr],by simp(disch:=(try simp only[hN]);omega)only[go_sem,simprocAttr],by simp(disch:=(try simp only[hN]);omega)only[go_sem,simprocAttr],by simp(disch:=(try simp only[hN]);omega)only[go_sem,simprocAttr],by simp(disch:=(try simp only[hN]);omega)only[go_sem,simprocAttr],by (first|(simp(disch:=(try simp only[hN]);omega)only[go_sem,simprocAttr,Nat.add_zero];done)|(simp(disch:=(try simp only[hN]);omega)only[go_sem,simprocAttr,Nat.add_zero];rfl)),by simp(disch:=(try simp only[hN]);omega)only[go_sem,simprocAttr]⟩
 ·have e35:((c.toNat:Int)==35)=false:=by simp;omega
  rw[if_neg h35] at hQ
  have hmk:markTok s.length (s.drop p)=if marks2.any (hasP (s.drop p)) then .ok (⟨5,(s.drop p).take 2,0,0,p⟩,(s.drop p).drop 2) else if 0≤findB c.toNat marks1 0 then .ok (⟨5,[c],0,0,p⟩,s.drop (p+1)) else .error (2,p):=by
   have:s.length-(s.drop p).length=p:=by omega
   unfold markTok
   rw[this,hdr]
  rw[hmk] at hQ
  have tx1:(s.drop p).take (p+1-p)=[c]:=by rw[Nat.add_sub_cancel_left,hdr];rfl
  have g1:bnd (some (.int .i64 (p:Int))) 0 (p+1)=some p:=bnd_num (by omega)
  have g2:bnd (some (.int .i64 ((p:Int)+1))) s.length s.length=some (p+1):=bnd_num (i:=p+1) (by omega)
  have hr1:s.length-(s.drop (p+1)).length=p+1:=by rw[List.length_drop];omega
  have ee:((p:Int)+1==(p:Int)+1)=true:=beq_self_eq_true _
  have single:marks2.any (hasP (s.drop p))=false→∀(t:Tr AV) (h3:AHeap),True:=fun _ _ _=>trivial
  clear single
  by_cases hp1:p+1<s.length
  ·have g3:decide ((p:Int)+1<(s.length:Int))=true:=decide_eq_true (by omega)
   have h1':bnd (some (.int .i64 (p:Int))) 0 (p+2)=some p:=bnd_num (by omega)
   have h2':bnd (some (.int .i64 ((p:Int)+2))) s.length s.length=some (p+2):=bnd_num (i:=p+2) (by omega)
   have tx2:(s.drop p).take (p+2-p)=(s.drop p).take 2:=by rw[Nat.add_sub_cancel_left]
   have hany:marks2.any (hasP (s.drop p))=marks2.contains ((s.drop p).take 2):=by
    rw[List.contains_eq_any_beq,Bool.eq_iff_iff,List.any_eq_true,List.any_eq_true]
    constructor
    ·rintro ⟨m,hm,hh⟩
     refine ⟨m,hm,?_⟩
     have:=beq_iff_eq.1 hh
     rw[(marks2_len m hm).1] at this
     exact beq_iff_eq.2 this
    ·rintro ⟨m,hm,hh⟩
     refine ⟨m,hm,?_⟩
     have:=beq_iff_eq.1 hh
     exact beq_iff_eq.2 (by rw[(marks2_len m hm).1];exact this)
   rw[hany] at hQ
   have hr2:s.length-((s.drop p).drop 2).length=p+2:=by rw[List.drop_drop,List.length_drop];omega
   generalize hT2:(s.drop p).take 2=T2 at hQ tx2
   simp(disch:=(try simp only[hN]);omega)only[go_sem,simprocAttr,e35,hH1,g3,h1',h2',tx2]
   cases m0:(T2==[58,61])
   case true=>
    have hc2:marks2.contains T2=true:=by rw[beq_iff_eq.1 m0];rfl
    simp only[hc2,if_true,oneQ,hr2] at hQ
    have e12:((p:Int)+2==(p:Int)+1)=false:=by simp
    simp(disch:=(try simp only[hN]);omega)only[go_sem,simprocAttr,m0,h1',h2',tx2,e12,hH0]
    exact hQ _ ⟨by (try simp only[hN]);omega,fun b hb hne=>by (try simp only[hN] at hb hne);simp(disch:=(try simp only[hN]);omega)only[go_sem,simprocAttr,hHo]⟩
   cases m1:(T2==[61,61])
   case true=>
    have hc2:marks2.contains T2=true:=by rw[beq_iff_eq.1 m1];rfl
    simp only[hc2,if_true,oneQ,hr2] at hQ
    have e12:((p:Int)+2==(p:Int)+1)=false:=by simp
    simp(disch:=(try simp only[hN]);omega)only[go_sem,simprocAttr,m0,m1,h1',h2',tx2,e12,hH0]
    exact hQ _ ⟨by (try simp only[hN]);omega,fun b hb hne=>by (try simp only[hN] at hb hne);simp(disch:=(try simp only[hN]);omega)only[go_sem,simprocAttr,hHo]⟩
   cases m2:(T2==[33,61])
   case true=>
    have hc2:marks2.contains T2=true:=by rw[beq_iff_eq.1 m2];rfl
    simp only[hc2,if_true,oneQ,hr2] at hQ
    have e12:((p:Int)+2==(p:Int)+1)=false:=by simp
    simp(disch:=(try simp only[hN]);omega)only[go_sem,simprocAttr,m0,m1,m2,h1',h2',tx2,e12,hH0]
    exact hQ _ ⟨by (try simp only[hN]);omega,fun b hb hne=>by (try simp only[hN] at hb hne);simp(disch:=(try simp only[hN]);omega)only[go_sem,simprocAttr,hHo]⟩
   cases m3:(T2==[60,61])
   case true=>
    have hc2:marks2.contains T2=true:=by rw[beq_iff_eq.1 m3];rfl
    simp only[hc2,if_true,oneQ,hr2] at hQ
    have e12:((p:Int)+2==(p:Int)+1)=false:=by simp
    simp(disch:=(try simp only[hN]);omega)only[go_sem,simprocAttr,m0,m1,m2,m3,h1',h2',tx2,e12,hH0]
    exact hQ _ ⟨by (try simp only[hN]);omega,fun b hb hne=>by (try simp only[hN] at hb hne);simp(disch:=(try simp only[hN]);omega)only[go_sem,simprocAttr,hHo]⟩
   cases m4:(T2==[62,61])
   case true=>
    have hc2:marks2.contains T2=true:=by rw[beq_iff_eq.1 m4];rfl
    simp only[hc2,if_true,oneQ,hr2] at hQ
    have e12:((p:Int)+2==(p:Int)+1)=false:=by simp
    simp(disch:=(try simp only[hN]);omega)only[go_sem,simprocAttr,m0,m1,m2,m3,m4,h1',h2',tx2,e12,hH0]
    exact hQ _ ⟨by (try simp only[hN]);omega,fun b hb hne=>by (try simp only[hN] at hb hne);simp(disch:=(try simp only[hN]);omega)only[go_sem,simprocAttr,hHo]⟩
   cases m5:(T2==[38,38])
   case true=>
    have hc2:marks2.contains T2=true:=by rw[beq_iff_eq.1 m5];rfl
    simp only[hc2,if_true,oneQ,hr2] at hQ
    have e12:((p:Int)+2==(p:Int)+1)=false:=by simp
    simp(disch:=(try simp only[hN]);omega)only[go_sem,simprocAttr,m0,m1,m2,m3,m4,m5,h1',h2',tx2,e12,hH0]
    exact hQ _ ⟨by (try simp only[hN]);omega,fun b hb hne=>by (try simp only[hN] at hb hne);simp(disch:=(try simp only[hN]);omega)only[go_sem,simprocAttr,hHo]⟩
   cases m6:(T2==[124,124])
   case true=>
    have hc2:marks2.contains T2=true:=by rw[beq_iff_eq.1 m6];rfl
    simp only[hc2,if_true,oneQ,hr2] at hQ
    have e12:((p:Int)+2==(p:Int)+1)=false:=by simp
    simp(disch:=(try simp only[hN]);omega)only[go_sem,simprocAttr,m0,m1,m2,m3,m4,m5,m6,h1',h2',tx2,e12,hH0]
    exact hQ _ ⟨by (try simp only[hN]);omega,fun b hb hne=>by (try simp only[hN] at hb hne);simp(disch:=(try simp only[hN]);omega)only[go_sem,simprocAttr,hHo]⟩
   have hc2:marks2.contains T2=false:=by
    simp only[marks2,List.contains_cons,m0,m1,m2,m3,m4,m5,m6]
    rfl
   simp only[hc2,if_false,Bool.false_eq_true] at hQ
   simp(disch:=(try simp only[hN]);omega)only[go_sem,simprocAttr,m0,m1,m2,m3,m4,m5,m6,ee]
   cases n0:((c.toNat:Int)==43)
   case true=>
    have hf:0≤findB c.toNat marks1 0:=by
     have:c.toNat=43:=by have:=beq_iff_eq.1 n0;omega
     rw[this];decide
    simp only[hf,if_true,oneQ,hr1] at hQ
    simp(disch:=(try simp only[hN]);omega)only[go_sem,simprocAttr,n0,g1,g2,tx1,hH0]
    exact hQ _ ⟨by (try simp only[hN]);omega,fun b hb hne=>by (try simp only[hN] at hb hne);simp(disch:=(try simp only[hN]);omega)only[go_sem,simprocAttr,hHo]⟩
   cases n1:((c.toNat:Int)==45)
   case true=>
    have hf:0≤findB c.toNat marks1 0:=by
     have:c.toNat=45:=by have:=beq_iff_eq.1 n1;omega
     rw[this];decide
    simp only[hf,if_true,oneQ,hr1] at hQ
    simp(disch:=(try simp only[hN]);omega)only[go_sem,simprocAttr,n0,n1,g1,g2,tx1,hH0]
    exact hQ _ ⟨by (try simp only[hN]);omega,fun b hb hne=>by (try simp only[hN] at hb hne);simp(disch:=(try simp only[hN]);omega)only[go_sem,simprocAttr,hHo]⟩
   cases n2:((c.toNat:Int)==42)
   case true=>
    have hf:0≤findB c.toNat marks1 0:=by
     have:c.toNat=42:=by have:=beq_iff_eq.1 n2;omega
     rw[this];decide
    simp only[hf,if_true,oneQ,hr1] at hQ
    simp(disch:=(try simp only[hN]);omega)only[go_sem,simprocAttr,n0,n1,n2,g1,g2,tx1,hH0]
    exact hQ _ ⟨by (try simp only[hN]);omega,fun b hb hne=>by (try simp only[hN] at hb hne);simp(disch:=(try simp only[hN]);omega)only[go_sem,simprocAttr,hHo]⟩
   cases n3:((c.toNat:Int)==47)
   case true=>
    have hf:0≤findB c.toNat marks1 0:=by
     have:c.toNat=47:=by have:=beq_iff_eq.1 n3;omega
     rw[this];decide
    simp only[hf,if_true,oneQ,hr1] at hQ
    simp(disch:=(try simp only[hN]);omega)only[go_sem,simprocAttr,n0,n1,n2,n3,g1,g2,tx1,hH0]
    exact hQ _ ⟨by (try simp only[hN]);omega,fun b hb hne=>by (try simp only[hN] at hb hne);simp(disch:=(try simp only[hN]);omega)only[go_sem,simprocAttr,hHo]⟩
   cases n4:((c.toNat:Int)==37)
   case true=>
    have hf:0≤findB c.toNat marks1 0:=by
     have:c.toNat=37:=by have:=beq_iff_eq.1 n4;omega
     rw[this];decide
    simp only[hf,if_true,oneQ,hr1] at hQ
    simp(disch:=(try simp only[hN]);omega)only[go_sem,simprocAttr,n0,n1,n2,n3,n4,g1,g2,tx1,hH0]
    exact hQ _ ⟨by (try simp only[hN]);omega,fun b hb hne=>by (try simp only[hN] at hb hne);simp(disch:=(try simp only[hN]);omega)only[go_sem,simprocAttr,hHo]⟩
   cases n5:((c.toNat:Int)==60)
   case true=>
    have hf:0≤findB c.toNat marks1 0:=by
     have:c.toNat=60:=by have:=beq_iff_eq.1 n5;omega
     rw[this];decide
    simp only[hf,if_true,oneQ,hr1] at hQ
    simp(disch:=(try simp only[hN]);omega)only[go_sem,simprocAttr,n0,n1,n2,n3,n4,n5,g1,g2,tx1,hH0]
    exact hQ _ ⟨by (try simp only[hN]);omega,fun b hb hne=>by (try simp only[hN] at hb hne);simp(disch:=(try simp only[hN]);omega)only[go_sem,simprocAttr,hHo]⟩
   cases n6:((c.toNat:Int)==62)
   case true=>
    have hf:0≤findB c.toNat marks1 0:=by
     have:c.toNat=62:=by have:=beq_iff_eq.1 n6;omega
     rw[this];decide
    simp only[hf,if_true,oneQ,hr1] at hQ
    simp(disch:=(try simp only[hN]);omega)only[go_sem,simprocAttr,n0,n1,n2,n3,n4,n5,n6,g1,g2,tx1,hH0]
    exact hQ _ ⟨by (try simp only[hN]);omega,fun b hb hne=>by (try simp only[hN] at hb hne);simp(disch:=(try simp only[hN]);omega)only[go_sem,simprocAttr,hHo]⟩
   cases n7:((c.toNat:Int)==61)
   case true=>
    have hf:0≤findB c.toNat marks1 0:=by
     have:c.toNat=61:=by have:=beq_iff_eq.1 n7;omega
     rw[this];decide
    simp only[hf,if_true,oneQ,hr1] at hQ
    simp(disch:=(try simp only[hN]);omega)only[go_sem,simprocAttr,n0,n1,n2,n3,n4,n5,n6,n7,g1,g2,tx1,hH0]
    exact hQ _ ⟨by (try simp only[hN]);omega,fun b hb hne=>by (try simp only[hN] at hb hne);simp(disch:=(try simp only[hN]);omega)only[go_sem,simprocAttr,hHo]⟩
   cases n8:((c.toNat:Int)==33)
   case true=>
    have hf:0≤findB c.toNat marks1 0:=by
     have:c.toNat=33:=by have:=beq_iff_eq.1 n8;omega
     rw[this];decide
    simp only[hf,if_true,oneQ,hr1] at hQ
    simp(disch:=(try simp only[hN]);omega)only[go_sem,simprocAttr,n0,n1,n2,n3,n4,n5,n6,n7,n8,g1,g2,tx1,hH0]
    exact hQ _ ⟨by (try simp only[hN]);omega,fun b hb hne=>by (try simp only[hN] at hb hne);simp(disch:=(try simp only[hN]);omega)only[go_sem,simprocAttr,hHo]⟩
   cases n9:((c.toNat:Int)==40)
   case true=>
    have hf:0≤findB c.toNat marks1 0:=by
     have:c.toNat=40:=by have:=beq_iff_eq.1 n9;omega
     rw[this];decide
    simp only[hf,if_true,oneQ,hr1] at hQ
    simp(disch:=(try simp only[hN]);omega)only[go_sem,simprocAttr,n0,n1,n2,n3,n4,n5,n6,n7,n8,n9,g1,g2,tx1,hH0]
    exact hQ _ ⟨by (try simp only[hN]);omega,fun b hb hne=>by (try simp only[hN] at hb hne);simp(disch:=(try simp only[hN]);omega)only[go_sem,simprocAttr,hHo]⟩
   cases n10:((c.toNat:Int)==41)
   case true=>
    have hf:0≤findB c.toNat marks1 0:=by
     have:c.toNat=41:=by have:=beq_iff_eq.1 n10;omega
     rw[this];decide
    simp only[hf,if_true,oneQ,hr1] at hQ
    simp(disch:=(try simp only[hN]);omega)only[go_sem,simprocAttr,n0,n1,n2,n3,n4,n5,n6,n7,n8,n9,n10,g1,g2,tx1,hH0]
    exact hQ _ ⟨by (try simp only[hN]);omega,fun b hb hne=>by (try simp only[hN] at hb hne);simp(disch:=(try simp only[hN]);omega)only[go_sem,simprocAttr,hHo]⟩
   cases n11:((c.toNat:Int)==123)
   case true=>
    have hf:0≤findB c.toNat marks1 0:=by
     have:c.toNat=123:=by have:=beq_iff_eq.1 n11;omega
     rw[this];decide
    simp only[hf,if_true,oneQ,hr1] at hQ
    simp(disch:=(try simp only[hN]);omega)only[go_sem,simprocAttr,n0,n1,n2,n3,n4,n5,n6,n7,n8,n9,n10,n11,g1,g2,tx1,hH0]
    exact hQ _ ⟨by (try simp only[hN]);omega,fun b hb hne=>by (try simp only[hN] at hb hne);simp(disch:=(try simp only[hN]);omega)only[go_sem,simprocAttr,hHo]⟩
   cases n12:((c.toNat:Int)==125)
   case true=>
    have hf:0≤findB c.toNat marks1 0:=by
     have:c.toNat=125:=by have:=beq_iff_eq.1 n12;omega
     rw[this];decide
    simp only[hf,if_true,oneQ,hr1] at hQ
    simp(disch:=(try simp only[hN]);omega)only[go_sem,simprocAttr,n0,n1,n2,n3,n4,n5,n6,n7,n8,n9,n10,n11,n12,g1,g2,tx1,hH0]
    exact hQ _ ⟨by (try simp only[hN]);omega,fun b hb hne=>by (try simp only[hN] at hb hne);simp(disch:=(try simp only[hN]);omega)only[go_sem,simprocAttr,hHo]⟩
   cases n13:((c.toNat:Int)==91)
   case true=>
    have hf:0≤findB c.toNat marks1 0:=by
     have:c.toNat=91:=by have:=beq_iff_eq.1 n13;omega
     rw[this];decide
    simp only[hf,if_true,oneQ,hr1] at hQ
    simp(disch:=(try simp only[hN]);omega)only[go_sem,simprocAttr,n0,n1,n2,n3,n4,n5,n6,n7,n8,n9,n10,n11,n12,n13,g1,g2,tx1,hH0]
    exact hQ _ ⟨by (try simp only[hN]);omega,fun b hb hne=>by (try simp only[hN] at hb hne);simp(disch:=(try simp only[hN]);omega)only[go_sem,simprocAttr,hHo]⟩
   cases n14:((c.toNat:Int)==93)
   case true=>
    have hf:0≤findB c.toNat marks1 0:=by
     have:c.toNat=93:=by have:=beq_iff_eq.1 n14;omega
     rw[this];decide
    simp only[hf,if_true,oneQ,hr1] at hQ
    simp(disch:=(try simp only[hN]);omega)only[go_sem,simprocAttr,n0,n1,n2,n3,n4,n5,n6,n7,n8,n9,n10,n11,n12,n13,n14,g1,g2,tx1,hH0]
    exact hQ _ ⟨by (try simp only[hN]);omega,fun b hb hne=>by (try simp only[hN] at hb hne);simp(disch:=(try simp only[hN]);omega)only[go_sem,simprocAttr,hHo]⟩
   cases n15:((c.toNat:Int)==44)
   case true=>
    have hf:0≤findB c.toNat marks1 0:=by
     have:c.toNat=44:=by have:=beq_iff_eq.1 n15;omega
     rw[this];decide
    simp only[hf,if_true,oneQ,hr1] at hQ
    simp(disch:=(try simp only[hN]);omega)only[go_sem,simprocAttr,n0,n1,n2,n3,n4,n5,n6,n7,n8,n9,n10,n11,n12,n13,n14,n15,g1,g2,tx1,hH0]
    exact hQ _ ⟨by (try simp only[hN]);omega,fun b hb hne=>by (try simp only[hN] at hb hne);simp(disch:=(try simp only[hN]);omega)only[go_sem,simprocAttr,hHo]⟩
   cases n16:((c.toNat:Int)==59)
   case true=>
    have hf:0≤findB c.toNat marks1 0:=by
     have:c.toNat=59:=by have:=beq_iff_eq.1 n16;omega
     rw[this];decide
    simp only[hf,if_true,oneQ,hr1] at hQ
    simp(disch:=(try simp only[hN]);omega)only[go_sem,simprocAttr,n0,n1,n2,n3,n4,n5,n6,n7,n8,n9,n10,n11,n12,n13,n14,n15,n16,g1,g2,tx1,hH0]
    exact hQ _ ⟨by (try simp only[hN]);omega,fun b hb hne=>by (try simp only[hN] at hb hne);simp(disch:=(try simp only[hN]);omega)only[go_sem,simprocAttr,hHo]⟩
   have hf:¬0≤findB c.toNat marks1 0:=by
    rw[mark1N _ (UInt8.toNat_lt c)]
    intro hh
    simp only[beq_eq_false_iff_ne,ne_eq] at n0 n1 n2 n3 n4 n5 n6 n7 n8 n9 n10 n11 n12 n13 n14 n15 n16
    omega
   simp only[hf,if_false,oneQ] at hQ
   simp(disch:=(try simp only[hN]);omega)only[go_sem,simprocAttr,n0 ,n1 ,n2 ,n3 ,n4 ,n5 ,n6 ,n7 ,n8 ,n9 ,n10 ,n11 ,n12 ,n13 ,n14 ,n15 ,n16,hH0,hH2]
   exact hQ _ ⟨by (try simp only[hN]);omega,fun b hb hne=>by (try simp only[hN] at hb hne);simp(disch:=(try simp only[hN]);omega)only[go_sem,simprocAttr,hHo]⟩
  ·have g3:decide ((p:Int)+1<(s.length:Int))=false:=decide_eq_false (by omega)
   have hany:marks2.any (hasP (s.drop p))=false:=by
    rw[hdr,List.drop_of_length_le (by omega)]
    simp [marks2,hasP]
   simp only[hany,if_false,Bool.false_eq_true] at hQ
   simp(disch:=(try simp only[hN]);omega)only[go_sem,simprocAttr,e35,hH1,g3,ee]
   cases n0:((c.toNat:Int)==43)
   case true=>
    have hf:0≤findB c.toNat marks1 0:=by
     have:c.toNat=43:=by have:=beq_iff_eq.1 n0;omega
     rw[this];decide
    simp only[hf,if_true,oneQ,hr1] at hQ
    simp(disch:=(try simp only[hN]);omega)only[go_sem,simprocAttr,n0,g1,g2,tx1,hH0]
    exact hQ _ ⟨by (try simp only[hN]);omega,fun b hb hne=>by (try simp only[hN] at hb hne);simp(disch:=(try simp only[hN]);omega)only[go_sem,simprocAttr,hHo]⟩
   cases n1:((c.toNat:Int)==45)
   case true=>
    have hf:0≤findB c.toNat marks1 0:=by
     have:c.toNat=45:=by have:=beq_iff_eq.1 n1;omega
     rw[this];decide
    simp only[hf,if_true,oneQ,hr1] at hQ
    simp(disch:=(try simp only[hN]);omega)only[go_sem,simprocAttr,n0,n1,g1,g2,tx1,hH0]
    exact hQ _ ⟨by (try simp only[hN]);omega,fun b hb hne=>by (try simp only[hN] at hb hne);simp(disch:=(try simp only[hN]);omega)only[go_sem,simprocAttr,hHo]⟩
   cases n2:((c.toNat:Int)==42)
   case true=>
    have hf:0≤findB c.toNat marks1 0:=by
     have:c.toNat=42:=by have:=beq_iff_eq.1 n2;omega
     rw[this];decide
    simp only[hf,if_true,oneQ,hr1] at hQ
    simp(disch:=(try simp only[hN]);omega)only[go_sem,simprocAttr,n0,n1,n2,g1,g2,tx1,hH0]
    exact hQ _ ⟨by (try simp only[hN]);omega,fun b hb hne=>by (try simp only[hN] at hb hne);simp(disch:=(try simp only[hN]);omega)only[go_sem,simprocAttr,hHo]⟩
   cases n3:((c.toNat:Int)==47)
   case true=>
    have hf:0≤findB c.toNat marks1 0:=by
     have:c.toNat=47:=by have:=beq_iff_eq.1 n3;omega
     rw[this];decide
    simp only[hf,if_true,oneQ,hr1] at hQ
    simp(disch:=(try simp only[hN]);omega)only[go_sem,simprocAttr,n0,n1,n2,n3,g1,g2,tx1,hH0]
    exact hQ _ ⟨by (try simp only[hN]);omega,fun b hb hne=>by (try simp only[hN] at hb hne);simp(disch:=(try simp only[hN]);omega)only[go_sem,simprocAttr,hHo]⟩
   cases n4:((c.toNat:Int)==37)
   case true=>
    have hf:0≤findB c.toNat marks1 0:=by
     have:c.toNat=37:=by have:=beq_iff_eq.1 n4;omega
     rw[this];decide
    simp only[hf,if_true,oneQ,hr1] at hQ
    simp(disch:=(try simp only[hN]);omega)only[go_sem,simprocAttr,n0,n1,n2,n3,n4,g1,g2,tx1,hH0]
    exact hQ _ ⟨by (try simp only[hN]);omega,fun b hb hne=>by (try simp only[hN] at hb hne);simp(disch:=(try simp only[hN]);omega)only[go_sem,simprocAttr,hHo]⟩
   cases n5:((c.toNat:Int)==60)
   case true=>
    have hf:0≤findB c.toNat marks1 0:=by
     have:c.toNat=60:=by have:=beq_iff_eq.1 n5;omega
     rw[this];decide
    simp only[hf,if_true,oneQ,hr1] at hQ
    simp(disch:=(try simp only[hN]);omega)only[go_sem,simprocAttr,n0,n1,n2,n3,n4,n5,g1,g2,tx1,hH0]
    exact hQ _ ⟨by (try simp only[hN]);omega,fun b hb hne=>by (try simp only[hN] at hb hne);simp(disch:=(try simp only[hN]);omega)only[go_sem,simprocAttr,hHo]⟩
   cases n6:((c.toNat:Int)==62)
   case true=>
    have hf:0≤findB c.toNat marks1 0:=by
     have:c.toNat=62:=by have:=beq_iff_eq.1 n6;omega
     rw[this];decide
    simp only[hf,if_true,oneQ,hr1] at hQ
    simp(disch:=(try simp only[hN]);omega)only[go_sem,simprocAttr,n0,n1,n2,n3,n4,n5,n6,g1,g2,tx1,hH0]
    exact hQ _ ⟨by (try simp only[hN]);omega,fun b hb hne=>by (try simp only[hN] at hb hne);simp(disch:=(try simp only[hN]);omega)only[go_sem,simprocAttr,hHo]⟩
   cases n7:((c.toNat:Int)==61)
   case true=>
    have hf:0≤findB c.toNat marks1 0:=by
     have:c.toNat=61:=by have:=beq_iff_eq.1 n7;omega
     rw[this];decide
    simp only[hf,if_true,oneQ,hr1] at hQ
    simp(disch:=(try simp only[hN]);omega)only[go_sem,simprocAttr,n0,n1,n2,n3,n4,n5,n6,n7,g1,g2,tx1,hH0]
    exact hQ _ ⟨by (try simp only[hN]);omega,fun b hb hne=>by (try simp only[hN] at hb hne);simp(disch:=(try simp only[hN]);omega)only[go_sem,simprocAttr,hHo]⟩
   cases n8:((c.toNat:Int)==33)
   case true=>
    have hf:0≤findB c.toNat marks1 0:=by
     have:c.toNat=33:=by have:=beq_iff_eq.1 n8;omega
     rw[this];decide
    simp only[hf,if_true,oneQ,hr1] at hQ
    simp(disch:=(try simp only[hN]);omega)only[go_sem,simprocAttr,n0,n1,n2,n3,n4,n5,n6,n7,n8,g1,g2,tx1,hH0]
    exact hQ _ ⟨by (try simp only[hN]);omega,fun b hb hne=>by (try simp only[hN] at hb hne);simp(disch:=(try simp only[hN]);omega)only[go_sem,simprocAttr,hHo]⟩
   cases n9:((c.toNat:Int)==40)
   case true=>
    have hf:0≤findB c.toNat marks1 0:=by
     have:c.toNat=40:=by have:=beq_iff_eq.1 n9;omega
     rw[this];decide
    simp only[hf,if_true,oneQ,hr1] at hQ
    simp(disch:=(try simp only[hN]);omega)only[go_sem,simprocAttr,n0,n1,n2,n3,n4,n5,n6,n7,n8,n9,g1,g2,tx1,hH0]
    exact hQ _ ⟨by (try simp only[hN]);omega,fun b hb hne=>by (try simp only[hN] at hb hne);simp(disch:=(try simp only[hN]);omega)only[go_sem,simprocAttr,hHo]⟩
   cases n10:((c.toNat:Int)==41)
   case true=>
    have hf:0≤findB c.toNat marks1 0:=by
     have:c.toNat=41:=by have:=beq_iff_eq.1 n10;omega
     rw[this];decide
    simp only[hf,if_true,oneQ,hr1] at hQ
    simp(disch:=(try simp only[hN]);omega)only[go_sem,simprocAttr,n0,n1,n2,n3,n4,n5,n6,n7,n8,n9,n10,g1,g2,tx1,hH0]
    exact hQ _ ⟨by (try simp only[hN]);omega,fun b hb hne=>by (try simp only[hN] at hb hne);simp(disch:=(try simp only[hN]);omega)only[go_sem,simprocAttr,hHo]⟩
   cases n11:((c.toNat:Int)==123)
   case true=>
    have hf:0≤findB c.toNat marks1 0:=by
     have:c.toNat=123:=by have:=beq_iff_eq.1 n11;omega
     rw[this];decide
    simp only[hf,if_true,oneQ,hr1] at hQ
    simp(disch:=(try simp only[hN]);omega)only[go_sem,simprocAttr,n0,n1,n2,n3,n4,n5,n6,n7,n8,n9,n10,n11,g1,g2,tx1,hH0]
    exact hQ _ ⟨by (try simp only[hN]);omega,fun b hb hne=>by (try simp only[hN] at hb hne);simp(disch:=(try simp only[hN]);omega)only[go_sem,simprocAttr,hHo]⟩
   cases n12:((c.toNat:Int)==125)
   case true=>
    have hf:0≤findB c.toNat marks1 0:=by
     have:c.toNat=125:=by have:=beq_iff_eq.1 n12;omega
     rw[this];decide
    simp only[hf,if_true,oneQ,hr1] at hQ
    simp(disch:=(try simp only[hN]);omega)only[go_sem,simprocAttr,n0,n1,n2,n3,n4,n5,n6,n7,n8,n9,n10,n11,n12,g1,g2,tx1,hH0]
    exact hQ _ ⟨by (try simp only[hN]);omega,fun b hb hne=>by (try simp only[hN] at hb hne);simp(disch:=(try simp only[hN]);omega)only[go_sem,simprocAttr,hHo]⟩
   cases n13:((c.toNat:Int)==91)
   case true=>
    have hf:0≤findB c.toNat marks1 0:=by
     have:c.toNat=91:=by have:=beq_iff_eq.1 n13;omega
     rw[this];decide
    simp only[hf,if_true,oneQ,hr1] at hQ
    simp(disch:=(try simp only[hN]);omega)only[go_sem,simprocAttr,n0,n1,n2,n3,n4,n5,n6,n7,n8,n9,n10,n11,n12,n13,g1,g2,tx1,hH0]
    exact hQ _ ⟨by (try simp only[hN]);omega,fun b hb hne=>by (try simp only[hN] at hb hne);simp(disch:=(try simp only[hN]);omega)only[go_sem,simprocAttr,hHo]⟩
   cases n14:((c.toNat:Int)==93)
   case true=>
    have hf:0≤findB c.toNat marks1 0:=by
     have:c.toNat=93:=by have:=beq_iff_eq.1 n14;omega
     rw[this];decide
    simp only[hf,if_true,oneQ,hr1] at hQ
    simp(disch:=(try simp only[hN]);omega)only[go_sem,simprocAttr,n0,n1,n2,n3,n4,n5,n6,n7,n8,n9,n10,n11,n12,n13,n14,g1,g2,tx1,hH0]
    exact hQ _ ⟨by (try simp only[hN]);omega,fun b hb hne=>by (try simp only[hN] at hb hne);simp(disch:=(try simp only[hN]);omega)only[go_sem,simprocAttr,hHo]⟩
   cases n15:((c.toNat:Int)==44)
   case true=>
    have hf:0≤findB c.toNat marks1 0:=by
     have:c.toNat=44:=by have:=beq_iff_eq.1 n15;omega
     rw[this];decide
    simp only[hf,if_true,oneQ,hr1] at hQ
    simp(disch:=(try simp only[hN]);omega)only[go_sem,simprocAttr,n0,n1,n2,n3,n4,n5,n6,n7,n8,n9,n10,n11,n12,n13,n14,n15,g1,g2,tx1,hH0]
    exact hQ _ ⟨by (try simp only[hN]);omega,fun b hb hne=>by (try simp only[hN] at hb hne);simp(disch:=(try simp only[hN]);omega)only[go_sem,simprocAttr,hHo]⟩
   cases n16:((c.toNat:Int)==59)
   case true=>
    have hf:0≤findB c.toNat marks1 0:=by
     have:c.toNat=59:=by have:=beq_iff_eq.1 n16;omega
     rw[this];decide
    simp only[hf,if_true,oneQ,hr1] at hQ
    simp(disch:=(try simp only[hN]);omega)only[go_sem,simprocAttr,n0,n1,n2,n3,n4,n5,n6,n7,n8,n9,n10,n11,n12,n13,n14,n15,n16,g1,g2,tx1,hH0]
    exact hQ _ ⟨by (try simp only[hN]);omega,fun b hb hne=>by (try simp only[hN] at hb hne);simp(disch:=(try simp only[hN]);omega)only[go_sem,simprocAttr,hHo]⟩
   have hf:¬0≤findB c.toNat marks1 0:=by
    rw[mark1N _ (UInt8.toNat_lt c)]
    intro hh
    simp only[beq_eq_false_iff_ne,ne_eq] at n0 n1 n2 n3 n4 n5 n6 n7 n8 n9 n10 n11 n12 n13 n14 n15 n16
    omega
   simp only[hf,if_false,oneQ] at hQ
   simp(disch:=(try simp only[hN]);omega)only[go_sem,simprocAttr,n0 ,n1 ,n2 ,n3 ,n4 ,n5 ,n6 ,n7 ,n8 ,n9 ,n10 ,n11 ,n12 ,n13 ,n14 ,n15 ,n16,hH0,hH2]
   exact hQ _ ⟨by (try simp only[hN]);omega,fun b hb hne=>by (try simp only[hN] at hb hne);simp(disch:=(try simp only[hN]);omega)only[go_sem,simprocAttr,hHo]⟩
def SlE (es lo:Nat) (h:AHeap) (v:AV) (n:Nat) (cs:List AV):Prop:=
 Sl es lo h v n cs∨(n=0∧cs=[]∧∃b ver,v=.slice b 0 0 0 true∧lo≤b∧b<h.n∧h.get b=some ⟨ver,.cells .own es []⟩)
theorem SlE.fr {es lo r n:Nat} {h h':AHeap} {v:AV} {cs:List AV} (s:SlE es lo h v n cs) (f:Fr r h h') (hr:r<lo∨h.n≤r):SlE es lo h' v n cs:=by
 rcases s with s|⟨h1,h2,b,ver,h3,h4,h5,h6⟩
 ·exact .inl (s.fr f hr)
 ·exact .inr ⟨h1,h2,b,ver,h3,h4,Nat.lt_of_lt_of_le h5 f.n,by rw[f.old b h5 (by omega)];exact h6⟩
theorem SlE.flat {es lo n:Nat} {h:AHeap} {v:AV} {cs:List AV} (s:SlE es lo h v n cs):v.flat=true∧v.cells=[v]:=by
 rcases s with s|⟨_,_,b,ver,rfl,_⟩
 ·exact s.flat
 ·exact ⟨rfl,rfl⟩
theorem SlE.len {es lo n:Nat} {h:AHeap} {v:AV} {cs:List AV} (s:SlE es lo h v n cs):lenA v=some (n:Int):=by
 rcases s with s|⟨rfl,_,b,ver,rfl,_⟩
 ·exact s.len
 ·rfl
theorem SlE.append {es lo n bytes:Nat} {h:AHeap} {v:AV} {cs new:List AV} (s:SlE es lo h v n cs) (hlo:lo≤h.n) (hnew:new.length=es) (hflat:allFlat new=true) (hroom:(n+1)*bytes≤room) (hn:n+1≤room) :
  ∃v' h',appendA h es bytes v 1 new=some (v',h')∧Sl es lo h' v' (n+1) (cs++new)∧h'.n=h.n+1∧∀b,b<lo→h'.get b=h.get b:=by
 rcases s with s|⟨rfl,rfl,b,ver,rfl,h1,h2,h3⟩
 ·exact s.append hlo hnew hflat hroom hn
 ·refine ⟨.slice h.n 0 1 1 false,h.alloc (.cells .own es new),?_,⟨by simp [hnew],.inr ⟨by omega,h.n,0,rfl,hlo,by rw[AHeap.alloc_n];omega,by rw[AHeap.get_alloc,if_pos rfl];rfl⟩⟩,rfl,fun b hb=>by rw[AHeap.get_alloc,if_neg (by omega)]⟩
  have hr:row ([]:List AV) 0 0=some []:=rfl
  simp only[appendA,h3,hnew,hflat,beq_nat,ble_nat,Nat.one_mul,decide_true,Bool.not_true,Bool.or_false,cond_false,Nat.add_one_ne_zero,decide_false,cond_true,Nat.zero_add,Nat.zero_mul,hr,Nat.reduceLeDiff,List.nil_append]
  rw[decide_eq_true (show 1≤room by decide),decide_eq_true (show bytes≤room by omega)]
  rfl
def RTok (lo:Nat) (h:AHeap) (v:AV) (ts:List Tok):Prop:=SlE 5 lo h v ts.length (toksAV ts)
def RTokensQ (h:AHeap) (Q:QR):Except Err (List Tok)→Prop
 | .ok ts=>∀h' v,Fr h.n h h'→RTok h.n h' v ts→Q (.ret (.tuple [v,.int .i64 0,.int .i64 0])) h'
 | .error (e,p)=>∀h',Fr h.n h h'→Q (.ret (.tuple [.nilSlice,.int .i64 (e:Int),.int .i64 (p:Int)])) h'
theorem rtokens_spec {s:Bs} {h:AHeap} (hlen:s.length<2^61) {Q:QR} (hQ:RTokensQ h Q (tokens s)) (hE:∀e p,tokens s=.error (e,p)→e≠0):WF F 14 [.str s] h Q:=by
 refine WF.code F14 rfl ?_
 simp(disch:=(try simp only[hN]);omega)only[go_sem,simprocAttr]
 (first|refine kA (fun hbig=>?_) (fun hbig=>?_)|refine kB (fun hbig=>?_) (fun hbig=>?_)|refine kC (fun hbig=>?_) (fun hbig=>?_)|refine kD (fun hbig=>?_) (fun hbig=>?_)|refine kE (fun hbig=>?_) (fun hbig=>?_)|refine kF (fun hbig=>?_) (fun hbig=>?_))
 ·have hb:8192<s.length:=(by have:=of_decide_eq_true hbig;omega)
  simp only[tokens,if_pos hb,RTokensQ] at hQ
  simp(disch:=(try simp only[hN]);omega)only[go_sem,simprocAttr]
  exact hQ _ ⟨by (try simp only[hN]);omega,fun b hb hne=>by (try simp only[hN] at hb hne);simp(disch:=(try simp only[hN]);omega)only[go_sem,simprocAttr]⟩
 have hb:¬8192<s.length:=(by have:=of_decide_eq_false hbig;omega)
 simp(disch:=(try simp only[hN]);omega)only[go_sem,simprocAttr]
 have hk0:=(skip_suf' s).length_le
 refine rblanks_spec (by omega) (p0:=0) (Nat.zero_le _) ?_
 rw[List.drop_zero]
 simp(disch:=(try simp only[hN]);omega)only[go_sem,simprocAttr]
 refine wp_loop (fun n a h2=>∃ts l1 ov,n=l1.length∧RTok h.n h2 ov ts∧Fr h.n h h2∧l1.length≤s.length∧s.drop (s.length-l1.length)=l1∧ts.length≤2000∧(∃f,l1.length<f∧tokens s=catT ts (toksL s.length f l1 ts.length))∧a.tm.get 0=some (.str s)∧a.tm.get 5=some ov∧a.tm.get 6=some (.int .i64 ((s.length-l1.length:Nat):Int))∧a.df=[]) ?_ (skip s).length ?_
 ·rintro n ⟨t,df⟩ h2 ⟨ts,l1,ov,hn,hts,hf2,hl1,hd1,hcnt,⟨f,hf,htk⟩,k0,k5,k6,hdf⟩
  simp only at k0 k5 k6 hdf
  subst hdf
  have hn2:=hf2.n;try simp only[hN] at hn2
  have hlen2:=hts.len
  have hfl:=hts.flat
  by_cases hl0:l1=[]
  ·subst hl0
   have hff:toksL s.length f [] ts.length=.ok []:=by
    cases f with
    | zero=>exact absurd hf (by simp)
    | succ f=>rw[toksL,if_pos rfl]
   rw[hff] at htk
   simp only[catT,List.append_nil] at htk
   rw[htk] at hQ
   replace k6:t.get 6=some (.int .i64 (s.length:Int)):=k6
   have g1:decide ((s.length:Int)<(s.length:Int))=false:=decide_eq_false (by omega)
   simp(disch:=(try simp only[hN]);omega)only[go_sem,simprocAttr,k0,k5,k6,g1]
   exact hQ _ _ hf2 hts
  ·have hpos:0<l1.length:=List.length_pos_iff.2 hl0
   have g1:decide (((s.length-l1.length:Nat):Int)<(s.length:Int))=true:=decide_eq_true (by omega)
   obtain ⟨f,rfl⟩:∃g,f=g+1:=⟨f-1,by omega⟩
   rw[toksL,if_neg hl0] at htk
   simp(disch:=(try simp only[hN]);omega)only[go_sem,simprocAttr,k0,k5,k6,g1,hlen2]
   by_cases hm:ts.length=2000
   ·have g2:((ts.length:Int)==2000)=true:=by simp [hm]
    rw[if_pos hm] at htk
    simp only[catT] at htk
    rw[htk] at hQ
    simp(disch:=(try simp only[hN]);omega)only[go_sem,simprocAttr,k0,k5,k6,g2]
    exact hQ _ hf2
   ·have g2:((ts.length:Int)==2000)=false:=by simp;omega
    rw[if_neg hm] at htk
    simp(disch:=(try simp only[hN]);omega)only[go_sem,simprocAttr,k0,k5,k6,g2]
    refine one_spec hlen (p:=s.length-l1.length) (by omega) ?_
    rw[hd1]
    cases hnx:nextTok s.length l1 with
    | error x=>
     obtain ⟨e,p⟩:=x
     rw[hnx] at htk
     simp only[catT] at htk
     rw[htk] at hQ
     have he:=hE e p htk
     intro h3 hf3
     have hn3:=hf3.n;try simp only[hN] at hn3
     have g3:((e:Int) != 0)=true:=by simp;omega
     simp(disch:=(try simp only[hN]);omega)only[go_sem,simprocAttr,k0,k5,k6,g3]
     exact hQ _ ⟨by (try simp only[hN]);omega,fun b hb hne=>by (try simp only[hN] at hb hne);simp(disch:=(try simp only[hN]);omega)only[go_sem,simprocAttr,hf3.old,hf2.old]⟩
    | ok x=>
     obtain ⟨tk,r⟩:=x
     rw[hnx] at htk
     simp only at htk
     have hr:=nextTok_len hnx
     have hrs:=(nextTok_ok hnx).1
     have hsk:=(skip_suf' r).length_le
     intro h3 hf3
     have hn3:=hf3.n;try simp only[hN] at hn3
     simp(disch:=(try simp only[hN]);omega)only[go_sem,simprocAttr,k0,k5,k6,tokAV]
     generalize hH:AHeap.alloc _ _=H3
     have hHn:H3.n=h3.n+2:=by rw[←hH];simp(disch:=(try simp only[hN]);omega)only[go_sem,simprocAttr]
     have hHo:∀b,b<h3.n→H3.get b=h3.get b:=fun b hb=>by rw[←hH];simp(disch:=(try simp only[hN]);omega)only[go_sem,simprocAttr]
     clear hH
     have hts3:RTok h.n H3 ov ts:=hts.fr (show Fr h2.n h2 H3 from ⟨by omega,fun b hb _=>by rw[hHo b (by omega),hf3.all hb]⟩) (.inr (Nat.le_refl _))
     obtain ⟨v3,h4,happ,hts4,hn4,hold4⟩:=SlE.append hts3 (bytes:=48) (new:=(tokAV tk).cells) (by omega) rfl rfl (by simp only[room];omega) (by simp only[room];omega)
     rw[toksAV_snoc,show ts.length+1=(ts++[tk]).length by simp] at hts4
     simp(disch:=(try simp only[hN]);omega)only[go_sem,simprocAttr,tokAV] at happ
     simp(disch:=(try simp only[hN]);omega)only[go_sem,simprocAttr,happ,k0,k5,k6]
     have hr1:s.drop (s.length-r.length)=r:=by
      have h5:=congrArg (List.drop tk.text.length) hrs
      rw[List.drop_left,←hd1,List.drop_drop] at h5
      have h6:=congrArg List.length hrs
      rw[List.length_append] at h6
      rw[show s.length-r.length=s.length-l1.length+tk.text.length by omega]
      exact h5
     refine rblanks_spec (by omega) (p0:=s.length-r.length) (by omega) ?_
     rw[hr1]
     simp(disch:=(try simp only[hN]);omega)only[go_sem,simprocAttr,k0,k5,k6]
     refine ⟨_,?_,ts++[tk],skip r,v3,rfl,.inl hts4,⟨by omega,fun b hb _=>by rw[hold4 b hb,hHo b (by omega),hf3.all (by omega),hf2.all hb]⟩,by omega,?_,by simp;omega,⟨f,by omega,?_⟩,rfl,rfl⟩
     ·omega
     ·have h5:=suf_drop (skip_suf' r)
      have:=congrArg List.length h5
      have h6:s.drop (s.length-(skip r).length)=(s.drop (s.length-r.length)).drop (r.length-(skip r).length):=by
       rw[List.drop_drop];congr 1;omega
      rw[h6,hr1,h5]
     ·rw[htk]
      simp only[List.length_append,List.length_cons,List.length_nil,Nat.zero_add]
      cases toksL s.length f (skip r) (ts.length+1) with
      | ok us=>simp only[catT,List.append_assoc,List.cons_append,List.nil_append]
      | error e=>rfl
 ·refine ⟨[],skip s,.slice h.n 0 0 0 true,rfl,.inr ⟨rfl,rfl,h.n,0,rfl,Nat.le_refl _,by simp(disch:=(try simp only[hN]);omega)only[go_sem,simprocAttr];omega,by simp(disch:=(try simp only[hN]);omega)only[go_sem,simprocAttr]⟩,⟨by (try simp only[hN]);omega,fun b hb hne=>by (try simp only[hN] at hb hne);simp(disch:=(try simp only[hN]);omega)only[go_sem,simprocAttr]⟩,hk0,suf_drop (skip_suf' s),Nat.zero_le _,⟨s.length+1,by omega,?_⟩,by simp(disch:=(try simp only[hN]);omega)only[go_sem,simprocAttr],by simp(disch:=(try simp only[hN]);omega)only[go_sem,simprocAttr],by simp(disch:=(try simp only[hN]);omega)only[go_sem,simprocAttr],by simp(disch:=(try simp only[hN]);omega)only[go_sem,simprocAttr]⟩
  rw[tokens,if_neg hb]
  cases toksL s.length (s.length+1) (skip s) 0<;>rfl
end Go.Ev
namespace Go.Ev
section
variable {α:Type} {f:α→List AV} {k:Nat}
theorem flat_len (hf:∀x,(f x).length=k):∀l:List α,(l.flatMap f).length=l.length*k
 | []=>by simp
 | x::l=>by rw[List.flatMap_cons,List.length_append,hf,flat_len hf l,List.length_cons,Nat.succ_mul,Nat.add_comm]
theorem flat_drop (hf:∀x,(f x).length=k):∀(l:List α) (i:Nat),(l.flatMap f).drop (i*k)=(l.drop i).flatMap f
 | l,0=>by simp
 | [],i+1=>by simp
 | x::l,i+1=>by
  rw[List.flatMap_cons,List.drop_succ_cons,←flat_drop hf l i,Nat.succ_mul,Nat.add_comm,←hf x,List.drop_append]
  simp
theorem flat_get (hf:∀x,(f x).length=k) {l:List α} {i j:Nat} {x:α} (hx:l[i]?=some x) (hj:j<k):(l.flatMap f)[i*k+j]?=(f x)[j]?:=by
 obtain ⟨hi,rfl⟩:=List.getElem?_eq_some_iff.1 hx
 rw[←List.getElem?_drop,flat_drop hf,List.drop_eq_getElem_cons hi,List.flatMap_cons,List.getElem?_append_left (by rw[hf];exact hj)]
theorem flat_row (hf:∀x,(f x).length=k) {l:List α} {i:Nat} {x:α} (hx:l[i]?=some x):row (l.flatMap f) (i*k) k=some (f x):=by
 obtain ⟨hi,rfl⟩:=List.getElem?_eq_some_iff.1 hx
 have hlen:=flat_len hf l
 have hle:i*k+k≤(l.flatMap f).length:=by
  rw[hlen,←Nat.succ_mul]
  exact Nat.mul_le_mul_right k hi
 unfold row
 rw[Nat.ble_eq_true_of_le hle,flat_drop hf,List.drop_eq_getElem_cons hi,List.flatMap_cons,List.take_append_of_le_length (by rw[hf];exact Nat.le_refl _),List.take_of_length_le (by rw[hf];exact Nat.le_refl _)]
 rfl
end
end Go.Ev
namespace Go.Ev
open Go
set_option maxRecDepth 100000
set_option maxHeartbeats 4000000
def ndC (n:Nd) (kv:AV):List AV:=[.int .i64 n.kind,.int .i64 n.pos,.str n.name,.int .i64 n.typ,.int .i64 n.n,.int .i64 n.size,.int .i64 n.obj,.int .u64 n.bits,kv]
mutual
inductive KidsS (S:Nat→Prop) (h:AHeap):List Nd→AV→Prop where
 | nil:KidsS S h [] .nilSlice
 | emp {b o c:Nat} {ex:Bool}:KidsS S h [] (.slice b o 0 c ex)
 | row {ns:List Nd} {b ver o c:Nat} {md:Md} {ex:Bool} {bs css:List AV}:ns≠[]→ns.length<2^61→S b→b<h.n→h.get b=some ⟨ver,.cells md 9 bs⟩→Go.Ev.row bs o (ns.length*9)=some css→RowsS S h ns css→KidsS S h ns (.slice b o ns.length c ex)
inductive RowsS (S:Nat→Prop) (h:AHeap):List Nd→List AV→Prop where
 | nil:RowsS S h [] []
 | cons {n:Nd} {ns:List Nd} {kv:AV} {css:List AV}:KidsS S h n.kids kv→RowsS S h ns css→RowsS S h (n::ns) (ndC n kv++css)
end
abbrev KidsR (lo:Nat) (h:AHeap) (ns:List Nd) (v:AV):Prop:=KidsS (fun b=>lo≤b) h ns v
abbrev RowsR (lo:Nat) (h:AHeap) (ns:List Nd) (css:List AV):Prop:=RowsS (fun b=>lo≤b) h ns css
theorem RowsS.len {S:Nat→Prop} {h:AHeap}:{ns:List Nd}→{css:List AV}→RowsS S h ns css→css.length=ns.length*9
 | _,_,.nil=>rfl
 | _,_,.cons _ r=>by rw[List.length_append,r.len,List.length_cons];simp [ndC];omega
theorem row_mk {vs:List AV} {o n:Nat} (h:o+n≤vs.length):row vs o n=some ((vs.drop o).take n):=by
 unfold row;rw[ble_nat,decide_eq_true h];rfl
theorem row_inv {vs cs:List AV} {o n:Nat} (h:row vs o n=some cs):o+n≤vs.length∧cs=(vs.drop o).take n:=by
 unfold row at h
 rw[ble_nat] at h
 by_cases e:o+n≤vs.length
 ·rw[decide_eq_true e] at h;exact ⟨e,(Option.some.inj h).symm⟩
 ·rw[decide_eq_false e] at h;cases h
theorem row_len {vs cs:List AV} {o n:Nat} (h:row vs o n=some cs):cs.length=n:=by
 obtain ⟨h1,rfl⟩:=row_inv h
 rw[List.length_take,List.length_drop];omega
theorem row_all {vs:List AV} {n:Nat} (h:vs.length=n):row vs 0 n=some vs:=by
 rw[row_mk (by omega),List.drop_zero,List.take_of_length_le (by omega)]
theorem row_sub {vs cs:List AV} {o n i k:Nat} (h:row vs o n=some cs) (hk:i+k≤n):row vs (o+i) k=row cs i k:=by
 have hl:=row_len h
 obtain ⟨h1,rfl⟩:=row_inv h
 rw[row_mk (by omega),row_mk (by omega),List.drop_take,List.take_take,List.drop_drop,Nat.min_eq_left (by omega)]
theorem KidsS.own {S:Nat→Prop} {b ver c:Nat} {md:Md} {h:AHeap} {ex:Bool} {ns:List Nd} {css:List AV} (hne:ns≠[]) (hl:ns.length<2^61) (hb:S b) (hn:b<h.n) (hg:h.get b=some ⟨ver,.cells md 9 css⟩) (r:RowsS S h ns css):KidsS S h ns (.slice b 0 ns.length c ex):=
 .row hne hl hb hn hg (row_all r.len) r
mutual
theorem KidsS.keep9 {S S':Nat→Prop} {h h':AHeap} (hS:∀b,S b→b<h.n→S' b) (hn:h.n≤h'.n) (f:∀b ver md css,S b→b<h.n→h.get b=some ⟨ver,.cells md 9 css⟩→h'.get b=h.get b):{ns:List Nd}→{v:AV}→KidsS S h ns v→KidsS S' h' ns v
 | _,_,.nil=>.nil
 | _,_,.emp=>.emp
 | _,_,.row h1 h0 h2 h3 h4 h5 h6=>.row h1 h0 (hS _ h2 h3) (Nat.lt_of_lt_of_le h3 hn) ((f _ _ _ _ h2 h3 h4).trans h4) h5 (RowsS.keep9 hS hn f h6)
theorem RowsS.keep9 {S S':Nat→Prop} {h h':AHeap} (hS:∀b,S b→b<h.n→S' b) (hn:h.n≤h'.n) (f:∀b ver md css,S b→b<h.n→h.get b=some ⟨ver,.cells md 9 css⟩→h'.get b=h.get b):{ns:List Nd}→{v:List AV}→RowsS S h ns v→RowsS S' h' ns v
 | _,_,.nil=>.nil
 | _,_,.cons h1 h2=>.cons (KidsS.keep9 hS hn f h1) (RowsS.keep9 hS hn f h2)
end
theorem KidsR.keep9 {lo lo':Nat} {h h':AHeap} (hlo:lo'≤lo) (hn:h.n≤h'.n) (f:∀b ver md css,lo≤b→b<h.n→h.get b=some ⟨ver,.cells md 9 css⟩→h'.get b=h.get b) {ns:List Nd} {v:AV} (k:KidsR lo h ns v):KidsR lo' h' ns v:=KidsS.keep9 (fun _ hb _=>Nat.le_trans hlo hb) hn f k
theorem RowsR.keep9 {lo lo':Nat} {h h':AHeap} (hlo:lo'≤lo) (hn:h.n≤h'.n) (f:∀b ver md css,lo≤b→b<h.n→h.get b=some ⟨ver,.cells md 9 css⟩→h'.get b=h.get b) {ns:List Nd} {v:List AV} (k:RowsR lo h ns v):RowsR lo' h' ns v:=RowsS.keep9 (fun _ hb _=>Nat.le_trans hlo hb) hn f k
theorem KidsR.keep {lo lo':Nat} {h h':AHeap} (hlo:lo'≤lo) (hn:h.n≤h'.n) (f:∀b,lo≤b→b<h.n→h'.get b=h.get b) {ns:List Nd} {v:AV} (k:KidsR lo h ns v):KidsR lo' h' ns v:=k.keep9 hlo hn fun b _ _ _ h1 h2 _=>f b h1 h2
theorem RowsR.keep {lo lo':Nat} {h h':AHeap} (hlo:lo'≤lo) (hn:h.n≤h'.n) (f:∀b,lo≤b→b<h.n→h'.get b=h.get b) {ns:List Nd} {v:List AV} (k:RowsR lo h ns v):RowsR lo' h' ns v:=k.keep9 hlo hn fun b _ _ _ h1 h2 _=>f b h1 h2
theorem KidsR.flat {lo:Nat} {h:AHeap} {ns:List Nd} {v:AV} (k:KidsR lo h ns v):v.flat=true∧v.cells=[v]:=by
 cases k<;>exact ⟨rfl,rfl⟩
theorem KidsR.fr {lo r:Nat} {h h':AHeap} {ns:List Nd} {v:AV} (k:KidsR lo h ns v) (f:Fr r h h') (hr:r<lo∨h.n≤r):KidsR lo h' ns v:=k.keep (Nat.le_refl _) f.n fun b h1 h2=>f.old b h2 (by omega)
theorem KidsR.lo {lo lo':Nat} {h:AHeap} {ns:List Nd} {v:AV} (k:KidsR lo h ns v) (hl:lo'≤lo):KidsR lo' h ns v:=k.keep hl (Nat.le_refl _) fun _ _ _=>rfl
def TokR (h:AHeap) (r:Nat) (ts:List Tok) (v:AV):Prop:=
 (ts=[]∧v=.nilSlice)∨∃b ver k all,v=.slice b (k*5) ts.length ts.length false∧b<r∧h.get b=some ⟨ver,.cells .own 5 (toksAV all)⟩∧all.drop k=ts
structure PInv (h:AHeap) (r E:Nat) (ts:List Tok) (lv:Nat):Prop where
 gh:GH h
 lo:18+17≤r
 hi:r<h.n
 lvl:lv≤16
 st:∃ver v,h.get r=some ⟨ver,.cells .own 0 [v,.int .i64 (E:Int),.int .i64 (lv:Int)]⟩∧TokR h r ts v
theorem TokR.fr {h h':AHeap} {q r:Nat} {ts:List Tok} {v:AV} (t:TokR h r ts v) (f:Fr q h h') (hr:r<h.n) (hq:r≤q):TokR h' r ts v:=by
 rcases t with q|⟨b,ver,k,all,h1,h2,h4,h5⟩
 ·exact .inl q
 ·exact .inr ⟨b,ver,k,all,h1,h2,by rw[f.old b (by omega) (by omega)];exact h4,h5⟩
theorem TokR.flat {h:AHeap} {r:Nat} {ts:List Tok} {v:AV} (t:TokR h r ts v):v.flat=true∧v.cells=[v]:=by
 rcases t with ⟨_,rfl⟩|⟨b,ver,k,all,rfl,_⟩<;>exact ⟨rfl,rfl⟩
theorem TokR.len {h:AHeap} {r:Nat} {ts:List Tok} {v:AV} (t:TokR h r ts v):lenA v=some (ts.length:Int):=by
 rcases t with ⟨rfl,rfl⟩|⟨b,ver,k,all,rfl,_⟩<;>rfl
theorem Fr.any {r q:Nat} {h h':AHeap} (f:Fr r h h') (hr:h.n≤r):Fr q h h':=⟨f.n,fun b hb _=>f.old b hb (by omega)⟩
theorem PInv.fr' {h h':AHeap} {q r E lv:Nat} {ts:List Tok} (p:PInv h r E ts lv) (f:Fr q h h') (hq:r<q):PInv h' r E ts lv:=by
 obtain ⟨ver,v,h1,h2⟩:=p.st
 exact ⟨f.gh (Nat.le_trans p.lo (Nat.le_of_lt hq)) p.gh,p.lo,Nat.lt_of_lt_of_le p.hi f.n,p.lvl,ver,v,by rw[f.old r p.hi (by omega)];exact h1,h2.fr f p.hi (Nat.le_of_lt hq)⟩
theorem PInv.fr {h h':AHeap} {r E lv:Nat} {ts:List Tok} (p:PInv h r E ts lv) (f:Fr h.n h h'):PInv h' r E ts lv:=p.fr' f p.hi
theorem PInv.step {h h':AHeap} {r E lv lv' ver:Nat} {ts ts':List Tok} {v:AV} (p:PInv h r E ts lv) (f:Fr r h h') (hg:h'.get r=some ⟨ver,.cells .own 0 [v,.int .i64 (E:Int),.int .i64 (lv':Int)]⟩) (t:TokR h r ts' v) (hv:lv'≤16):PInv h' r E ts' lv':=
 ⟨f.gh p.lo p.gh,p.lo,Nat.lt_of_lt_of_le p.hi f.n,hv,ver,v,hg,t.fr f p.hi (Nat.le_refl _)⟩
def treeStop (e pos:Nat):CRes:=.pan (.iface 60 (.agg [errAV e,.int .i64 (pos:Int)]))
theorem here_tok {E r lv:Nat} {ts:List Tok} {h:AHeap} (hp:PInv h r E ts lv) {Q:QR} (hQ:∀h',Fr h.n h h'→Q (.ret (tokAV (hdT E ts))) h'):WF F 12 [.ptr r 0] h Q:=by
 obtain ⟨ver,v,hr,ht⟩:=hp.st
 have hlt:=hp.hi
 refine WF.code F12 rfl ?_
 simp(disch:=(try simp only[hN]);omega)only[go_sem,simprocAttr,hr,ht.len]
 (first|refine kA (fun he=>?_) (fun he=>?_)|refine kB (fun he=>?_) (fun he=>?_)|refine kC (fun he=>?_) (fun he=>?_)|refine kD (fun he=>?_) (fun he=>?_)|refine kE (fun he=>?_) (fun he=>?_)|refine kF (fun he=>?_) (fun he=>?_))
 ·have h0:ts=[]:=by
   have:(ts.length:Int)=0:=by simpa using he
   exact List.length_eq_zero_iff.1 (by omega)
  subst h0
  simp(disch:=(try simp only[hN]);omega)only[go_sem,simprocAttr,hr]
  exact hQ _ ⟨by (try simp only[hN]);omega,fun b hb hne=>by (try simp only[hN] at hb hne);simp(disch:=(try simp only[hN]);omega)only[go_sem,simprocAttr]⟩
 ·rcases ht with ⟨rfl,rfl⟩|⟨b,ver2,k,all,rfl,hb,hc,hd⟩
  ·simp at he
  cases ts with
  | nil=>simp at he
  | cons t ts=>
   have hk:all[k]?=some t:=by
    have:=congrArg (fun l=>l[0]?) hd
    simpa using this
   have hrow:row (toksAV all) (k*5) 5=some (tokAV t).cells:=flat_row (f:=fun t=>(tokAV t).cells) (fun _=>rfl) hk
   have c1:decide ((0:Int)<((ts.length+1:Nat):Int))=true:=decide_eq_true (by omega)
   simp(disch:=(try simp only[hN]);omega)only[go_sem,simprocAttr,hr,hc,hrow,c1,Nat.zero_mul,Nat.add_zero,tokAV]
   exact hQ _ ⟨by (try simp only[hN]);omega,fun b hb hne=>by (try simp only[hN] at hb hne);simp(disch:=(try simp only[hN]);omega)only[go_sem,simprocAttr]⟩
end Go.Ev
