/- strings.Builder's parts, strings.Repeat and strings.Join as primitives: what they answer. -/
import Derived.Test.YteaoocedcjijdaaGreatDoorPrims
import Derived.Test.YteaoocedcjijdaaGreatDoorPuA
import Derived.Test.YteaoocedcjijdaaGreatDoorEvC
import Derived.Test.YteaoocedcjijdaaGreatDoorEvB
set_option linter.all false
set_option linter.unusedVariables false
set_option linter.unusedSimpArgs false
namespace Go.Ev
def bytesE:List AV→Option (List UInt8)
 | []=>some []
 | .int .u8 n::r=>bif decide (n=((UInt8.ofNat n.toNat).toNat:Int)) then (match bytesE r with|some s=>some (UInt8.ofNat n.toNat::s)|none=>none) else none
 | _=>none
def pCC:List AV→AHeap→Option (CRes×AHeap)
 | [.ptr b 0],h=>match h.get b with
  | some ⟨ver,.cells (.tag t) 0 (x::r)⟩=>bif t.beq 111&&r.length.beq 2 then
    match x with
    | .nilPtr=>some (.ret undefA,h.upd b (ver+1) (.cells (.tag t) 0 (.ptr b 0::r)))
    | .ptr b' 0=>bif b'.beq b then some (.ret undefA,h) else none
    | _=>none
   else none
  | _=>none
 | _,_=>none
def pSt:List AV→AHeap→Option (CRes×AHeap)
 | [.ptr b 0],h=>match h.get b with
  | some ⟨_,.cells (.tag t) 0 (_::x::_)⟩=>bif t.beq 111 then
    match x with
    | .nilSlice=>some (.ret (.str []),h)
    | .slice b2 0 len _ false=>match h.get b2 with
     | some ⟨ver,.cells (.tag u) 1 vs⟩=>bif u.beq 5&&!(len.beq 0)&&!(b2.beq b) then
       match row vs 0 len with
       | some cs=>match bytesE cs with
        | some s=>bif s.length.ble 281474976710656 then some (.ret (.str s),h.upd b2 (ver+1) .dead) else none
        | none=>none
       | none=>none
      else none
     | _=>none
    | _=>none
   else none
  | _=>none
 | _,_=>none
def repS (s:List UInt8):Nat→List UInt8
 | 0=>[]
 | n+1=>s++repS s n
def pRe:List AV→AHeap→Option (CRes×AHeap)
 | [.str s,.int .i64 n],h=>bif decide (0≤n)&&(s.length*n.toNat).ble 140737488355328&&n.toNat.ble 9223372036854775807 then some (.ret (.str (repS s n.toNat)),h) else none
 | _,_=>none
def strsOf:List AV→Option (List (List UInt8))
 | []=>some []
 | .str s::r=>match strsOf r with|some l=>some (s::l)|none=>none
 | _=>none
def joinS (sep:List UInt8):List (List UInt8)→List UInt8
 | []=>[]
 | [x]=>x
 | x::y::r=>x++(sep++joinS sep (y::r))
def pJo:List AV→AHeap→Option (CRes×AHeap)
 | [.nilSlice,.str _],h=>some (.ret (.str []),h)
 | [.slice b o len cap ex,.str sep],h=>match h.get b with
  | some ⟨_,.cells _ _ vs⟩=>match row vs o len with
   | some cs=>match strsOf cs with
    | some l=>bif !(len.beq 0)&&len.ble 140737488355328&&(joinS sep l).length.ble 281474976710656 then some (.ret (.str (joinS sep l)),h) else none
    | none=>none
   | none=>none
  | _=>none
 | _,_=>none
def pow10L:List Int:=(List.range 20).map fun i=>((10^i:Nat):Int)
def eqInts:List AV→List Int→Bool
 | [],[]=>true
 | .int .u64 n::r,z::l=>decide (n=z)&&eqInts r l
 | _,_=>false
def pIt:List AV→AHeap→Option (CRes×AHeap)
 | [.int .i64 n],h=>match h.get 17 with
  | some ⟨_,.cells .tab _ vs⟩=>bif eqInts vs pow10L&&decide (0≤n)&&decide (n≤9223372036854775807) then some (.ret (.str (digN 10 20 n.toNat)),h) else none
  | _=>none
 | _,_=>none
end Go.Ev
namespace Go.Ev
open Go
set_option maxRecDepth 100000
def txts:List (List UInt8):=[[115,116,111,99,107,97,100,101,58,32,99,111,100,101],[115,116,111,99,107,97,100,101,58,32,110,111,110,101],[115,116,111,99,107,97,100,101,58,32,114,97,110,103,101],[115,116,111,99,107,97,100,101,58,32,116,101,120,116],[115,116,111,99,107,97,100,101,58,32,100,101,112,116,104],[115,116,111,99,107,97,100,101,58,32,110,97,109,101],[115,116,111,99,107,97,100,101,58,32,116,121,112,101],[115,116,111,99,107,97,100,101,58,32,108,97,114,103,101],[115,116,111,99,107,97,100,101,58,32,102,117,108,108],[115,116,111,99,107,97,100,101,58,32,115,116,97,116,101],[115,116,111,99,107,97,100,101,58,32,102,114,97,109,101],[115,116,111,99,107,97,100,101,58,32,109,97,99],[115,116,111,99,107,97,100,101,58,32,114,101,112,108,97,121],[115,116,111,99,107,97,100,101,58,32,97,114,101,110,97],[115,116,111,99,107,97,100,101,58,32,99,108,111,99,107],[115,116,111,99,107,97,100,101,58,32,113,117,111,116,97],[115,116,111,99,107,97,100,101,58,32,116,101,110,97,110,116]]
def txt (g:Nat):List UInt8:=txts.getD g []
def GS:List Nat:=[0,1,2,3,4,5,6,7,8,9,10,11,12,13,14,15,16]
def knG (g:Nat):Bool:=GS.any (Nat.beq g)
theorem knG_lt {g:Nat} (h:knG g=true):g<17:=by
 have q:GS.all (fun g=>Nat.blt g 17)=true:=rfl
 obtain ⟨x,h1,h2⟩:=List.any_eq_true.1 h
 have h3:=List.all_eq_true.1 q x h1
 rw[Nat.eq_of_beq_eq_true h2]
 simpa [Nat.blt_eq] using h3
def db64L:List Int:=[0,1,56,2,57,49,28,3,61,58,42,50,38,29,17,4,62,47,59,36,45,43,51,22,53,39,33,30,24,18,12,5,63,55,48,27,60,41,37,16,46,35,44,21,52,32,23,11,54,26,40,15,34,20,31,10,25,14,19,9,13,8,7,6]
def dtG (g:Nat):Option (List AV):=bif g.beq 17 then some (pow10L.map (.int .u64)) else bif g.beq 20 then some (db64L.map (.int .u8)) else none
theorem dtG_lt {g:Nat} {vs:List AV} (h:dtG g=some vs):17≤g∧g<21:=by
 unfold dtG at h
 by_cases e1:g=17
 ·subst e1;decide
 ·rw[beqF e1] at h
  by_cases e2:g=20
  ·subst e2;decide
  ·rw[beqF e2] at h;cases h
theorem dtG_plain {g:Nat} {vs:List AV} (h:dtG g=some vs):∀v∈vs,Plain v:=by
 unfold dtG at h
 cases e1:g.beq 17<;>rw[e1] at h
 ·cases e2:g.beq 20<;>rw[e2] at h
  ·cases h
  ·cases h
   intro v hv
   obtain ⟨z,_,rfl⟩:=List.mem_map.1 hv
   exact plain_int _ _
 ·cases h
  intro v hv
  obtain ⟨z,_,rfl⟩:=List.mem_map.1 hv
  exact plain_int _ _
noncomputable def hq:AHeap:=heap0 218 21 17 knG dtG txt 0 (fun _=>.dead)
theorem hq_get (b:Nat):hq.get b=if b<21+17 then (if b<17 then (if knG b=true then some ⟨0,.cells .ro 0 [.iface 218 (.ptr (21+b) 0)]⟩ else some ⟨0,.dead⟩) else if b<21 then (match dtG b with|some vs=>some ⟨0,.cells .tab 0 vs⟩|none=>some ⟨0,.dead⟩) else (if knG (b-21)=true then some ⟨0,.cells .sent 0 [.str (txt (b-21))]⟩ else some ⟨0,.dead⟩)) else none:=by
 unfold hq
 rw[heap0_get]
 by_cases h:b<21+17
 ·by_cases h1:b<17
  ·simp only[Nat.add_zero,h,h1,if_true]
  ·by_cases h2:b<21
   ·simp only[Nat.add_zero,h,h1,h2,if_true,if_false];rfl
   ·simp only[Nat.add_zero,h,h1,h2,if_true,if_false]
 ·simp only[Nat.add_zero,h,if_false]
theorem lowOk:LowOk hq where
 lt:=fun b x h=>by
  rw[hq_get] at h
  split at h
  ·show b<hq.n
   have:hq.n=21+17:=rfl
   omega
  ·cases h
 all:=fun b hb=>by
  have hn:hq.n=21+17:=rfl
  rw[hq_get,if_pos (by omega)]
  by_cases h1:b<17
  ·rw[if_pos h1]
   by_cases hk:knG b=true
   ·rw[if_pos hk]
    refine ⟨_,rfl,.inr (.inl ⟨_,_,rfl,⟨0,.cells .sent 0 [.str (txt b)]⟩,?_,fun q=>by cases q⟩)⟩
    rw[hq_get,if_pos (by omega),if_neg (by omega),if_neg (by omega),Nat.add_sub_cancel_left,if_pos hk]
   ·rw[if_neg hk];exact ⟨_,rfl,.inl rfl⟩
  ·rw[if_neg h1]
   by_cases h2:b<21
   ·rw[if_pos h2]
    cases hd:dtG b with
    | none=>exact ⟨_,rfl,.inl rfl⟩
    | some vs=>exact ⟨_,rfl,.inr (.inr (.inr ⟨vs,rfl,dtG_plain hd⟩))⟩
   ·rw[if_neg h2]
    by_cases hk:knG (b-21)=true
    ·rw[if_pos hk];exact ⟨_,rfl,.inr (.inr (.inl ⟨_,rfl⟩))⟩
    ·rw[if_neg hk];exact ⟨_,rfl,.inl rfl⟩
theorem LowEq.refl (h:AHeap):LowEq h h:=⟨Nat.le_refl _,fun _ _ e=>.inr e⟩
def gAl:List AV→Option AV
 | []=>some (.bool true)
 | _=>none
noncomputable def pAl:List AV→AHeap→Option (CRes×AHeap):=runP hq gAl
noncomputable def okT (v:AV) (_:AHeap):Bool:=asBool (fun b=>b) v
noncomputable def noB (_:AV) (_:AHeap):Bool:=false
noncomputable def feDefs (T:Tr FEntry) (k:Nat):FDef:=fun f as lv h kk=>onDf (getE T f) fun b=>b (feCall T k) k as lv h kk
theorem feDefs_ok {F:FT} {T:Tr FEntry} (hT:TOk F T) (k:Nat):FDefOk F (feDefs T k):=fun g as lv h' kk q=>by
 obtain ⟨b',e',w2⟩:=onDf_of q
 rw[getE_eq] at e'
 exact hT g _ e' _ (feCall_ok hT k) _ _ _ _ _ w2
theorem fe_run {F:FT} {T:Tr FEntry} (hT:TOk F T) {f:FuncId} {m:MFun} (hf:F f=some m) {ar:Nat} {b:FBody} (hb:feFun ar m=b) {k:Nat} {args:List AV} {h:AHeap} {kr kp:AV→AHeap→Bool} (w:b (feCall T k) (feDefs T k) k args h kr kp=true):WF F f args h (resB kr kp):=by
 subst hb
 exact feFun_ok (feCall_ok hT k) (feDefs_ok hT k) hf w
theorem isT_of {r:CRes} {h:AHeap} (q:resB okT noB r h):r=.ret (.bool true):=by
 cases r with
 | ret v=>
  obtain ⟨b,rfl,e⟩:=asBool_of (show asBool (fun b=>b) v=true from q)
  rw[show b=true from e]
 | pan v=>exact Bool.noConfusion (show false=true from q)
end Go.Ev
