/- The evaluator once more, cut so that Lean's kernel reaches less at a time. -/
import Derived.Test.YteaoocedcjijdaaGreatDoorEvB
import Derived.Below
import Derived.Handed
import Derived.Stop.LaidErr
import Derived.ProofKit
import Derived.ChangeArms
import Derived.DataReads
import Derived.Carry
set_option linter.all false
set_option linter.unusedVariables false
set_option linter.unusedSimpArgs false
namespace Go.Ev
open Go
def nnK:Int→Bool
 | .ofNat _=>true
 | .negSucc _=>false
def inBK (i:Int) (len:Nat):Bool:=match i with
 | .ofNat m=>Nat.blt m len
 | .negSucc _=>false
def leNK (i:Int) (n:Nat):Bool:=match i with
 | .ofNat m=>Nat.ble m n
 | .negSucc _=>true
def ltIK:Int→Int→Bool
 | .ofNat a,.ofNat b=>Nat.blt a b
 | .negSucc _,.ofNat _=>true
 | .ofNat _,.negSucc _=>false
 | .negSucc a,.negSucc b=>Nat.blt b a
def leIK (a b:Int):Bool:=!ltIK b a
def eqIK:Int→Int→Bool
 | .ofNat a,.ofNat b=>a.beq b
 | .negSucc a,.negSucc b=>a.beq b
 | _,_=>false
theorem nnK_eq (i:Int):nnK i=decide (0≤i):=by
 cases i with
 | ofNat m=>simp [nnK]
 | negSucc m=>simp [nnK]
theorem inBK_eq (i:Int) (n:Nat):inBK i n=(decide (0≤i)&&decide (i<(n:Int))):=by
 cases i with
 | ofNat m=>simp only[inBK];rw[Bool.eq_iff_iff];simp [Nat.blt_eq]
 | negSucc m=>simp [inBK]
theorem leNK_eq (i:Int) (n:Nat):leNK i n=decide (i≤(n:Int)):=by
 cases i with
 | ofNat m=>simp only[leNK];rw[Bool.eq_iff_iff];simp
 | negSucc m=>simp only[leNK];rw[Bool.eq_iff_iff];simp;omega
theorem ltIK_eq (a b:Int):ltIK a b=decide (a<b):=by
 cases a<;>cases b<;>simp only[ltIK]<;>rw[Bool.eq_iff_iff]<;>simp [Nat.blt_eq]<;>omega
theorem leIK_eq (a b:Int):leIK a b=decide (a≤b):=by
 unfold leIK
 rw[ltIK_eq,Bool.eq_iff_iff]
 simp
theorem eqIK_eq (a b:Int):eqIK a b=(a==b):=by
 cases a<;>cases b<;>simp only[eqIK]<;>rw[Bool.eq_iff_iff]<;>simp<;>omega
def fitsK:IntKind→Int→Bool
 | .i64,.ofNat m=>Nat.ble m 9223372036854775807
 | .i64,.negSucc m=>Nat.ble m 9223372036854775807
 | .u8,.ofNat m=>Nat.ble m 255
 | .u64,.ofNat m=>Nat.ble m 18446744073709551615
 | k,n=>fits k n
theorem fitsK_eq (k:IntKind) (n:Int):fitsK k n=fits k n:=by
 unfold fitsK
 split
 ·simp only[fits];rw[Bool.eq_iff_iff];simp;omega
 ·simp only[fits];rw[Bool.eq_iff_iff];simp;omega
 ·simp only[fits];rw[Bool.eq_iff_iff];simp;omega
 ·simp only[fits];rw[Bool.eq_iff_iff];simp;omega
 ·rfl
def wrK (k:IntKind) (n:Int):Int:=bif fitsK k n then n else k.wrap n
theorem wrK_eq (k:IntKind) (n:Int):wrK k n=wr k n:=by unfold wrK wr;rw[fitsK_eq]
def eqSK:List UInt8→List UInt8→Bool
 | [],[]=>true
 | a::r,b::s=>a.toNat.beq b.toNat&&eqSK r s
 | _,_=>false
theorem eqSK_eq:∀(a b:List UInt8),eqSK a b=(a==b)
 | [],[]=>rfl
 | [],_::_=>rfl
 | _::_,[]=>rfl
 | a::r,b::s=>by
  simp only[eqSK]
  rw[eqSK_eq r s]
  have:(a.toNat.beq b.toNat)=(a==b):=by
   rw[Bool.eq_iff_iff]
   simp [UInt8.toNat_inj]
  rw[this]
  rfl
def kindK:IntKind→IntKind→Bool
 | .i64,.i64=>true
 | .u8,.u8=>true
 | k,k'=>decide (k=k')
theorem kindK_eq (k k':IntKind):kindK k k'=decide (k=k'):=by
 unfold kindK
 split<;>simp
def intBinK (op:BinOp) (k:IntKind) (x y:Int):Option AV:=
 match op with
 | .add=>some (.int k (wrK k (x+y)))
 | .sub=>some (.int k (wrK k (x-y)))
 | .eql=>some (.bool (eqIK x y))
 | .neq=>some (.bool (!eqIK x y))
 | .lss=>some (.bool (ltIK x y))
 | .leq=>some (.bool (leIK x y))
 | .gtr=>some (.bool (ltIK y x))
 | .geq=>some (.bool (leIK y x))
 | op=>intBin op k x y
theorem intBinK_eq (op:BinOp) (k:IntKind) (x y:Int):intBinK op k x y=intBin op k x y:=by
 cases op<;>simp only[intBinK,intBin,wrK_eq,eqIK_eq,ltIK_eq,leIK_eq,GT.gt,GE.ge,bne]
def strBinK (op:BinOp) (x y:List UInt8):Option AV:=
 match op with
 | .eql=>some (.bool (eqSK x y))
 | .neq=>some (.bool (!eqSK x y))
 | op=>strBin op x y
theorem strBinK_eq (op:BinOp) (x y:List UInt8):strBinK op x y=strBin op x y:=by
 cases op<;>simp only[strBinK,strBin,eqSK_eq]
def binK (op:BinOp) (x y:AV):Option AV:=
 match x,y with
 | .int k a,.int k' b=>
  match op with
  | .shl=>shiftA op k a b
  | .shr=>shiftA op k a b
  | op=>bif kindK k k' then intBinK op k a b else none
 | .str a,.str b=>strBinK op a b
 | _,_=>none
theorem binK_eq (op:BinOp) (x y:AV):binK op x y=binA op x y:=by
 cases x<;>cases y<;>first|rfl|(simp only[binK,binA,strBinK_eq];done)|(simp only[binK,binA];cases op<;>simp only[kindK_eq,intBinK_eq])
def gNil {α:Type} (_:Nat):Option α:=none
def gNode {α:Type} (_:Tr α) (v:Option α) (_:Tr α) (ihl ihr:Nat→Option α) (n:Nat):Option α:=bif n.beq 0 then v else bif (Nat.mod n 2).beq 1 then ihl (Nat.div n 2) else ihr (Nat.sub (Nat.div n 2) 1)
noncomputable def getK {α:Type} (t:Tr α):Nat→Option α:=Tr.rec (motive:=fun _=>Nat→Option α) gNil gNode t
theorem getK_eq' {α:Type}:∀(t:Tr α) (n:Nat),getK t n=t.get n
 | .nil,n=>by simp only[Tr.get];rfl
 | .node l v r,n=>by
  show gNode l v r (getK l) (getK r) n=_
  unfold gNode
  rw[getK_eq' l,getK_eq' r]
  rfl
theorem getK_eq {α:Type}:@getK α=@Tr.get α:=by funext t n;exact getK_eq' t n
def pZero {α:Type} (t:Tr α) (_:Nat):Tr α:=t
def pNil {α:Type} (x:α) (ih:Tr α→Nat→Tr α) (n:Nat):Tr α:=bif n.beq 0 then .node .nil (some x) .nil else bif (Nat.mod n 2).beq 1 then .node (ih .nil (Nat.div n 2)) none .nil else .node .nil none (ih .nil (Nat.sub (Nat.div n 2) 1))
def pNode {α:Type} (x:α) (ih:Tr α→Nat→Tr α) (n:Nat) (l:Tr α) (v:Option α) (r:Tr α):Tr α:=bif n.beq 0 then .node l (some x) r else bif (Nat.mod n 2).beq 1 then .node (ih l (Nat.div n 2)) v r else .node l v (ih r (Nat.sub (Nat.div n 2) 1))
noncomputable def pSucc {α:Type} (x:α) (_:Nat) (ih:Tr α→Nat→Tr α) (t:Tr α) (n:Nat):Tr α:=Tr.casesOn (motive:=fun _=>Tr α) t (pNil x ih n) (pNode x ih n)
noncomputable def putK {α:Type} (x:α) (f:Nat):Tr α→Nat→Tr α:=Nat.rec (motive:=fun _=>Tr α→Nat→Tr α) pZero (pSucc x) f
theorem putK_eq {α:Type} (x:α):∀(f:Nat) (t:Tr α) (n:Nat),putK x f t n=Tr.put x f t n
 | 0,t,n=>rfl
 | f+1,.nil,n=>by
  show pNil x (putK x f) n=_
  unfold pNil
  rw[putK_eq x f,putK_eq x f]
  rfl
 | f+1,.node l v r,n=>by
  show pNode x (putK x f) n l v r=_
  unfold pNode
  rw[putK_eq x f,putK_eq x f]
  rfl
noncomputable def setTK {α:Type} (t:Tr α) (n:Nat) (x:α):Tr α:=putK x (Nat.succ n) t n
theorem setTK_eq {α:Type}:@setTK α=@Tr.set α:=by funext t n x;exact putK_eq x (n+1) t n
noncomputable def evK (a:AAct) (x:Opd):AV:=Opd.rec (motive:=fun _=>AV) (fun i=>(getK a.tm i).getD undefA) (fun v=>v) x
theorem evK_eq:evK=AAct.eval:=by
 funext a x
 cases x with
 | t i=>show (getK a.tm i).getD undefA=_;rw[getK_eq];rfl
 | c v=>rfl
noncomputable def hgK (h:AHeap) (b:Nat):Option Blk:=getK h.t b
theorem hgK_eq:hgK=AHeap.get:=by funext h b;unfold hgK;rw[getK_eq];rfl
noncomputable def alK (h:AHeap) (o:AObj):AHeap:=⟨Nat.succ h.n,setTK h.t h.n ⟨0,o⟩⟩
theorem alK_eq:alK=AHeap.alloc:=by funext h o;unfold alK;rw[setTK_eq];rfl
noncomputable def upK (h:AHeap) (b ver:Nat) (o:AObj):AHeap:=⟨h.n,setTK h.t b ⟨ver,o⟩⟩
theorem upK_eq:upK=AHeap.upd:=by funext h b v o;unfold upK;rw[setTK_eq];rfl
noncomputable def elemsK (h:AHeap) (es:Nat) (x:AV):Option (Nat×List AV):=
 match x with
 | .slice b o len _ _=>
  bif len.beq 0 then some (0,[]) else
  match hgK h b with
  | some ⟨_,.cells _ _ vs⟩=>match row vs o (len*es) with|some cs=>some (len,cs)|none=>none
  | _=>none
 | .nilSlice=>some (0,[])
 | .str s=>bif es.beq 1 then some (s.length,s.map fun c=>.int .u8 c.toNat) else none
 | _=>none
theorem elemsK_eq:elemsK=elems:=by
 funext h es x
 unfold elemsK
 rw[hgK_eq]
 cases x<;>rfl
noncomputable def appK (h:AHeap) (md:Md) (es bytes:Nat) (s:AV) (n:Nat) (new:List AV):Option (AV×AHeap):=
 bif !(new.length.beq (n*es))||!allFlat new then none else
 match s with
 | .nilSlice=>
  bif n.beq 0 then some (.nilSlice,h) else
  bif n.ble room&&(n*bytes).ble room then some (.slice h.n 0 n n false,alK h (.cells md es new)) else none
 | .slice b o len cap ex=>
  bif n.beq 0 then some (s,h) else
  match hgK h b with
  | some ⟨ver,.cells md' es' vs⟩=>
   bif !(es'.beq es) then none else
   bif (len+n).ble cap then
    match md'.same md,lay vs (o+len*es) new with
    | true,some vs'=>some (.slice b o (len+n) cap ex,upK h b (ver+1) (.cells md es vs'))
    | _,_=>none
   else bif (len+n).ble room&&((len+n)*bytes).ble room then
    match row vs o (len*es) with
    | none=>none
    | some old=>
     bif ex then some (.slice h.n 0 (len+n) (len+n) false,alK h (.cells md es (old++new)))
     else bif !(o.beq 0)||cap.beq 0 then none
     else match md'.same md with
      | true=>some (.slice h.n 0 (len+n) (len+n) false,alK (upK h b (ver+1) .dead) (.cells md es (old++new)))
      | false=>none
   else none
  | _=>none
 | _=>none
theorem appK_eq:appK=appendA:=by
 funext h md es bytes s n new
 unfold appK
 rw[hgK_eq,alK_eq,upK_eq]
 cases s<;>rfl
def unK (op:UnOp) (x:AV):Option AV:=
 match op,x with
 | .not,.bool b=>some (.bool !b)
 | op,x=>unA op x
theorem unK_eq (op:UnOp) (x:AV):unK op x=unA op x:=by
 unfold unK
 split
 ·rfl
 ·rfl
def eqKK (t:CK) (x y:AV):Option Bool:=
 match t,x,y with
 | .int,.int k a,.int k' b=>bif kindK k k' then some (eqIK a b) else none
 | .str,.str a,.str b=>some (eqSK a b)
 | t,x,y=>eqK t x y
theorem eqKK_eq (t:CK) (x y:AV):eqKK t x y=eqK t x y:=by
 unfold eqKK
 split
 ·simp only[eqK,kindK_eq,eqIK_eq]
 ·simp only[eqK,eqSK_eq]
 ·rfl
def eqKsK:List CK→List AV→List AV→Option Bool
 | [],[],[]=>some true
 | t::ts,x::xs,y::ys=>
  match eqKK t x y with
  | some true=>eqKsK ts xs ys
  | some false=>some false
  | none=>none
 | _,_,_=>none
theorem eqKsK_eq:∀(ts:List CK) (xs ys:List AV),eqKsK ts xs ys=eqKs ts xs ys
 | [],[],[]=>rfl
 | t::ts,x::xs,y::ys=>by
  simp only[eqKsK,eqKs,eqKK_eq,eqKsK_eq ts xs ys]
  rcases eqK t x y with _|(_|_)<;>rfl
 | [],[],_::_=>rfl
 | [],_::_,_=>rfl
 | _::_,[],_=>rfl
 | _::_,_::_,[]=>rfl
def eqTK (t:KT) (x y:AV):Option Bool:=
 match t,x,y with
 | .one k,x,y=>eqKK k x y
 | .many ks,.agg xs,.agg ys=>eqKsK ks xs ys
 | _,_,_=>none
theorem eqTK_eq (t:KT) (x y:AV):eqTK t x y=eqT t x y:=by
 cases t with
 | one k=>exact eqKK_eq _ _ _
 | many ks=>cases x<;>cases y<;>first|rfl|exact eqKsK_eq _ _ _
def bndK (x:Option AV) (dflt lim:Nat):Option Nat:=
 match x with
 | none=>some dflt
 | some (.int _ i)=>bif nnK i&&leNK i lim then some i.toNat else none
 | some _=>none
theorem bndK_eq (x:Option AV) (d l:Nat):bndK x d l=bnd x d l:=by
 cases x with
 | none=>rfl
 | some v=>cases v<;>first|rfl|(simp only[bndK,bnd,nnK_eq,leNK_eq])
noncomputable def k_mov (call:FuncId→List AV→AHeap→Option (CRes×AHeap)) (a:AAct) (h:AHeap) (x:Opd):Option Res:=
 some (.v ((evK a) x) h .free)
noncomputable def k_pick (call:FuncId→List AV→AHeap→Option (CRes×AHeap)) (a:AAct) (h:AHeap) (c:Opd) (x:Opd) (y:Opd):Option Res:=
 match (evK a) c with|.bool b=>some (.v (bif b then (evK a) x else (evK a) y) h .free)|_=>none
noncomputable def k_new (call:FuncId→List AV→AHeap→Option (CRes×AHeap)) (a:AAct) (h:AHeap) (md:Md) (zs:List AV):Option Res:=
 some (.v (.ptr h.n 0) (alK h (.cells md 0 zs)) .new)
noncomputable def k_box (call:FuncId→List AV→AHeap→Option (CRes×AHeap)) (a:AAct) (h:AHeap) (x:Opd):Option Res:=
 bif allFlat ((evK a) x).cells then some (.v (.ptr h.n 0) (alK h (.cells .own 0 ((evK a) x).cells)) .new) else none
noncomputable def k_build (call:FuncId→List AV→AHeap→Option (CRes×AHeap)) (a:AAct) (h:AHeap) (zs:List AV) (parts:List (Nat×Nat×Opd)):Option Res:=
 match fillA (evK a) zs parts with|some cs=>some (.v (.agg cs) h .free)|none=>none
noncomputable def k_bslice (call:FuncId→List AV→AHeap→Option (CRes×AHeap)) (a:AAct) (h:AHeap) (es:Nat) (zs:List AV) (len:Nat) (parts:List (Nat×Nat×Opd)):Option Res:=
 match fillA (evK a) zs parts with
  | some cs=>bif allFlat cs then some (.v (.slice h.n 0 len len true) (alK h (.cells .own es cs)) .new) else none
  | none=>none
noncomputable def k_load (call:FuncId→List AV→AHeap→Option (CRes×AHeap)) (a:AAct) (h:AHeap) (agg:Bool) (n:Nat) (x:Opd):Option Res:=
 match (evK a) x with
  | .ptr b o=>match hgK h b with
   | some ⟨_,.cells _ _ vs⟩=>
    bif agg then match row vs o n with|some cs=>some (.v (.agg cs) h (.rd b))|none=>none
    else match vs[o]? with|some v=>some (.v v h (.rd b))|none=>none
   | _=>none
  | _=>none
noncomputable def k_store (call:FuncId→List AV→AHeap→Option (CRes×AHeap)) (a:AAct) (h:AHeap) (n:Nat) (x:Opd) (y:Opd):Option Res:=
 match (evK a) x with
  | .ptr b o=>
   let cs:=((evK a) y).cells
   bif !(cs.length.beq n)||!allFlat cs then none else
   match hgK h b with
   | some ⟨ver,.cells md es vs⟩=>match md.mine,lay vs o cs with
    | true,some vs'=>some (.v undefA (upK h b (ver+1) (.cells md es vs')) (.wr b))
    | _,_=>none
   | _=>none
  | _=>none
noncomputable def k_nilck (call:FuncId→List AV→AHeap→Option (CRes×AHeap)) (a:AAct) (h:AHeap) (x:Opd):Option Res:=
 match (evK a) x with
  | .ptr b o=>some (.v (.ptr b o) h .free)
  | .iface t v=>some (.v (.iface t v) h .free)
  | _=>none
noncomputable def k_bin (call:FuncId→List AV→AHeap→Option (CRes×AHeap)) (a:AAct) (h:AHeap) (op:BinOp) (x:Opd) (y:Opd):Option Res:=
 match binK op ((evK a) x) ((evK a) y) with|some v=>some (.v v h .free)|none=>none
noncomputable def k_eqv (call:FuncId→List AV→AHeap→Option (CRes×AHeap)) (a:AAct) (h:AHeap) (neg:Bool) (t:KT) (x:Opd) (y:Opd):Option Res:=
 match eqTK t ((evK a) x) ((evK a) y) with|some b=>some (.v (.bool (bif neg then !b else b)) h .free)|none=>none
noncomputable def k_un (call:FuncId→List AV→AHeap→Option (CRes×AHeap)) (a:AAct) (h:AHeap) (op:UnOp) (x:Opd):Option Res:=
 match unK op ((evK a) x) with|some v=>some (.v v h .free)|none=>none
noncomputable def k_cvi (call:FuncId→List AV→AHeap→Option (CRes×AHeap)) (a:AAct) (h:AHeap) (k:IntKind) (x:Opd):Option Res:=
 match (evK a) x with|.int _ n=>some (.v (.int k (wrK k n)) h .free)|_=>none
noncomputable def k_cvbs (call:FuncId→List AV→AHeap→Option (CRes×AHeap)) (a:AAct) (h:AHeap) (x:Opd):Option Res:=
 match (evK a) x with
  | .nilSlice=>some (.v (.str []) h .free)
  | .slice b o len _ _=>
   bif len.beq 0 then some (.v (.str []) h .free) else
   match hgK h b with
   | some ⟨_,.cells _ _ vs⟩=>match row vs o len with
    | some cs=>match bytesOf cs with|some s=>some (.v (.str s) h (.rd b))|none=>none
    | none=>none
   | _=>none
  | _=>none
noncomputable def k_cvs (call:FuncId→List AV→AHeap→Option (CRes×AHeap)) (a:AAct) (h:AHeap) (x:Opd):Option Res:=
 match (evK a) x with|.str s=>some (.v (.str s) h .free)|_=>none
noncomputable def k_mkif (call:FuncId→List AV→AHeap→Option (CRes×AHeap)) (a:AAct) (h:AHeap) (t:TypeId) (x:Opd):Option Res:=
 some (.v (.iface t ((evK a) x)) h .free)
noncomputable def k_mkfn (call:FuncId→List AV→AHeap→Option (CRes×AHeap)) (a:AAct) (h:AHeap) (fn:Fn) (fs:List Opd) (cs:List Opd):Option Res:=
 some (.v (.func fn (fs.map (evK a)) (cs.map (evK a))) h .free)
noncomputable def k_mkmap (call:FuncId→List AV→AHeap→Option (CRes×AHeap)) (a:AAct) (h:AHeap)  : Option Res:=
 some (.v (.map h.n) (alK h (.amap [])) .new)
noncomputable def k_mkslice (call:FuncId→List AV→AHeap→Option (CRes×AHeap)) (a:AAct) (h:AHeap) (es:Nat) (bytes:Nat) (zs:List AV) (l:Opd) (c:Opd):Option Res:=
 match (evK a) l,(evK a) c with
  | .int _ l,.int _ c=>
   bif nnK l&&leIK l c&&leNK c room&&decide (c*(bytes:Int)≤(room:Int)) then
    some (.v (.slice h.n 0 l.toNat c.toNat true) (alK h (.cells .own es (repl zs c.toNat))) .new)
   else none
  | _,_=>none
noncomputable def k_slc (call:FuncId→List AV→AHeap→Option (CRes×AHeap)) (a:AAct) (h:AHeap) (es:Nat) (x:Opd) (lo:Option Opd) (hi:Option Opd) (mx:Option Opd):Option Res:=
 match (evK a) x with
  | .nilSlice=>match bndK (mx.map (evK a)) 0 0 with
   | some m=>match bndK (hi.map (evK a)) 0 m with
    | some hh=>match bndK (lo.map (evK a)) 0 hh with|some _=>some (.v .nilSlice h .free)|none=>none
    | none=>none
   | none=>none
  | .slice b o len cap ex=>match bndK (mx.map (evK a)) cap cap with
   | some m=>match bndK (hi.map (evK a)) len m with
    | some hh=>match bndK (lo.map (evK a)) 0 hh with
     | some l=>
      let ex':=ex||mx.isSome
      bif ex then some (.v (.slice b (bif m.beq l then o else o+l*es) (hh-l) (m-l) ex') h .free)
      else bif cap.beq 0 then none else bif m.beq l&&mx.isSome then
       bif l.beq 0 then some (.v (.slice b o 0 0 true) h .free) else none
      else match hgK h b with
       | some ⟨_,.cells _ es' _⟩=>bif es'.beq es then some (.v (.slice b (o+l*es) (hh-l) (m-l) ex') h (.rd b)) else none
       | _=>none
     | none=>none
    | none=>none
   | none=>none
  | _=>none
noncomputable def k_sls (call:FuncId→List AV→AHeap→Option (CRes×AHeap)) (a:AAct) (h:AHeap) (x:Opd) (lo:Option Opd) (hi:Option Opd):Option Res:=
 match (evK a) x with
  | .str s=>match bndK (hi.map (evK a)) s.length s.length with
   | some hh=>match bndK (lo.map (evK a)) 0 hh with
    | some l=>some (.v (.str ((s.drop l).take (hh-l))) h .free)
    | none=>none
   | none=>none
  | _=>none
noncomputable def k_faddr (call:FuncId→List AV→AHeap→Option (CRes×AHeap)) (a:AAct) (h:AHeap) (off:Nat) (x:Opd):Option Res:=
 match (evK a) x with|.ptr b o=>some (.v (.ptr b (o+off)) h .free)|_=>none
noncomputable def k_fld (call:FuncId→List AV→AHeap→Option (CRes×AHeap)) (a:AAct) (h:AHeap) (agg:Bool) (off:Nat) (n:Nat) (x:Opd):Option Res:=
 match (evK a) x with
  | .agg cs=>
   bif agg then match row cs off n with|some cs=>some (.v (.agg cs) h .free)|none=>none
   else match cs[off]? with|some v=>some (.v v h .free)|none=>none
  | _=>none
noncomputable def k_iaddr (call:FuncId→List AV→AHeap→Option (CRes×AHeap)) (a:AAct) (h:AHeap) (es:Nat) (x:Opd) (i:Opd):Option Res:=
 match (evK a) x,(evK a) i with
  | .slice b o len _ _,.int _ i=>bif inBK i len then some (.v (.ptr b (o+i.toNat*es)) h .free) else none
  | _,_=>none
noncomputable def k_idxs (call:FuncId→List AV→AHeap→Option (CRes×AHeap)) (a:AAct) (h:AHeap) (x:Opd) (i:Opd):Option Res:=
 match (evK a) x,(evK a) i with
  | .str s,.int _ i=>bif nnK i then match s[i.toNat]? with|some c=>some (.v (.int .u8 c.toNat) h .free)|none=>none else none
  | _,_=>none
noncomputable def k_idxa (call:FuncId→List AV→AHeap→Option (CRes×AHeap)) (a:AAct) (h:AHeap) (agg:Bool) (len:Nat) (n:Nat) (x:Opd) (i:Opd):Option Res:=
 match (evK a) x,(evK a) i with
  | .agg cs,.int _ i=>
   bif inBK i len then
    bif agg then match row cs (i.toNat*n) n with|some cs=>some (.v (.agg cs) h .free)|none=>none
    else match cs[i.toNat*n]? with|some v=>some (.v v h .free)|none=>none
   else none
  | _,_=>none
noncomputable def k_lookup (call:FuncId→List AV→AHeap→Option (CRes×AHeap)) (a:AAct) (h:AHeap) (t:KT) (zero:AV) (m:Opd) (k:Opd) (ok:Bool):Option Res:=
 bif !keyOk t ((evK a) k) then none else match (evK a) m with
  | .nilMap=>some (.v (bif ok then .tuple [zero,.bool false] else zero) h .free)
  | .map r=>match hgK h r with
   | some ⟨_,.amap es⟩=>match findA t ((evK a) k) es with
    | some (some v)=>some (.v (bif ok then .tuple [v,.bool true] else v) h .big)
    | some none=>some (.v (bif ok then .tuple [zero,.bool false] else zero) h .big)
    | none=>none
   | _=>none
  | _=>none
noncomputable def k_mapupd (call:FuncId→List AV→AHeap→Option (CRes×AHeap)) (a:AAct) (h:AHeap) (t:KT) (m:Opd) (k:Opd) (v:Opd):Option Res:=
 bif !keyOk t ((evK a) k) then none else match (evK a) m with
  | .map r=>match hgK h r with
   | some ⟨ver,.amap es⟩=>match setA t ((evK a) k) ((evK a) v) es with
    | some es'=>some (.v undefA (upK h r (ver+1) (.amap es')) .big)
    | none=>none
   | _=>none
  | _=>none
noncomputable def k_tassert (call:FuncId→List AV→AHeap→Option (CRes×AHeap)) (a:AAct) (h:AHeap) (to:TypeId) (zero:AV) (x:Opd):Option Res:=
 match (evK a) x with
  | .nilIface=>some (.v (.tuple [zero,.bool false]) h .free)
  | .iface t v=>some (.v (bif t.beq to then .tuple [v,.bool true] else .tuple [zero,.bool false]) h .free)
  | _=>none
noncomputable def k_ext (call:FuncId→List AV→AHeap→Option (CRes×AHeap)) (a:AAct) (h:AHeap) (x:Opd) (i:Nat):Option Res:=
 match (evK a) x with
  | .tuple vs=>match vs[i]? with|some v=>some (.v v h .free)|none=>none
  | _=>none
noncomputable def k_call (call:FuncId→List AV→AHeap→Option (CRes×AHeap)) (a:AAct) (h:AHeap) (f:FuncId) (args:List Opd):Option Res:=
 match call f (args.map (evK a)) h with
  | some (.ret v,h')=>some (.v v h' .big)
  | some (.pan v,h')=>some (.pan v h')
  | none=>none
noncomputable def k_callv (call:FuncId→List AV→AHeap→Option (CRes×AHeap)) (a:AAct) (h:AHeap) (f:Opd) (args:List Opd):Option Res:=
 match (evK a) f with
  | .func (.func f) fs cs=>match call f (fs++(args.map (evK a)++cs)) h with
   | some (.ret v,h')=>some (.v v h' .big)
   | some (.pan v,h')=>some (.pan v h')
   | none=>none
  | _=>none
noncomputable def k_lenS (call:FuncId→List AV→AHeap→Option (CRes×AHeap)) (a:AAct) (h:AHeap) (x:Opd):Option Res:=
 match (evK a) x with
  | .str s=>some (.v (.int .i64 s.length) h .free)
  | _=>none
noncomputable def k_lenL (call:FuncId→List AV→AHeap→Option (CRes×AHeap)) (a:AAct) (h:AHeap) (x:Opd):Option Res:=
 match (evK a) x with
  | .slice _ _ len _ _=>some (.v (.int .i64 len) h .free)
  | .nilSlice=>some (.v (.int .i64 0) h .free)
  | _=>none
noncomputable def k_lenM (call:FuncId→List AV→AHeap→Option (CRes×AHeap)) (a:AAct) (h:AHeap) (x:Opd):Option Res:=
 match (evK a) x with
  | .nilMap=>some (.v (.int .i64 0) h .free)
  | .map r=>match hgK h r with|some ⟨_,.amap es⟩=>some (.v (.int .i64 es.length) h .big)|_=>none
  | _=>none
noncomputable def k_append (call:FuncId→List AV→AHeap→Option (CRes×AHeap)) (a:AAct) (h:AHeap) (md:Md) (es:Nat) (bytes:Nat) (s:Opd) (x:Opd):Option Res:=
 match elemsK h es ((evK a) x) with
  | some (n,new)=>match appK h md es bytes ((evK a) s) n new with|some (v,h')=>some (.v v h' .big)|none=>none
  | none=>none
noncomputable def k_appendz (call:FuncId→List AV→AHeap→Option (CRes×AHeap)) (a:AAct) (h:AHeap) (es:Nat) (bytes:Nat) (zs:List AV) (s:Opd) (x:Opd):Option Res:=
 match (evK a) x with
  | .int .i64 n=>bif nnK n&&leNK n room&&decide (n*(bytes:Int)≤(room:Int)) then
    match appK h .own es bytes ((evK a) s) n.toNat (repl zs n.toNat) with|some (v,h')=>some (.v v h' .big)|none=>none
   else none
  | _=>none
noncomputable def k_copy (call:FuncId→List AV→AHeap→Option (CRes×AHeap)) (a:AAct) (h:AHeap) (es:Nat) (d:Opd) (s:Opd):Option Res:=
 match elemsK h es ((evK a) s),(evK a) d with
  | some (n,cs),.slice b o len _ _=>
   bif (Nat.min n len).beq 0 then some (.v (.int .i64 0) h .big) else
   match hgK h b with
   | some ⟨ver,.cells .own es' vs⟩=>bif !allFlat (cs.take (Nat.min n len*es)) then none else match lay vs o (cs.take (Nat.min n len*es)) with
    | some vs'=>some (.v (.int .i64 (Nat.min n len)) (upK h b (ver+1) (.cells .own es' vs')) .big)
    | none=>none
   | _=>none
  | some _,.nilSlice=>some (.v (.int .i64 0) h .big)
  | _,_=>none
noncomputable def k_mx (call:FuncId→List AV→AHeap→Option (CRes×AHeap)) (a:AAct) (h:AHeap) (isMax:Bool) (x:Opd) (xs:List Opd):Option Res:=
 match mxA isMax ((evK a) x) (xs.map (evK a)) with|some v=>some (.v v h .free)|none=>none
noncomputable def k_iarr (call:FuncId→List AV→AHeap→Option (CRes×AHeap)) (a:AAct) (h:AHeap) (len:Nat) (es:Nat) (x:Opd) (i:Opd):Option Res:=
 match (evK a) x,(evK a) i with
  | .ptr b o,.int _ i=>bif inBK i len then some (.v (.ptr b (o+i.toNat*es)) h .free) else none
  | _,_=>none
noncomputable def k_slarr (call:FuncId→List AV→AHeap→Option (CRes×AHeap)) (a:AAct) (h:AHeap) (len:Nat) (es:Nat) (x:Opd) (lo:Option Opd) (hi:Option Opd) (mx:Option Opd):Option Res:=
 match (evK a) x with
  | .ptr b o=>match bndK (mx.map (evK a)) len len with
   | some m=>match bndK (hi.map (evK a)) len m with
    | some hh=>match bndK (lo.map (evK a)) 0 hh with
     | some l=>some (.v (.slice b (bif m.beq l then o else o+l*es) (hh-l) (m-l) true) h .free)
     | none=>none
    | none=>none
   | none=>none
  | _=>none
noncomputable def k_panic (call:FuncId→List AV→AHeap→Option (CRes×AHeap)) (a:AAct) (h:AHeap) (x:Opd):Option Res:=
 match (evK a) x with|.iface t v=>some (.pan (.iface t v) h)|_=>none
noncomputable def k_defer (call:FuncId→List AV→AHeap→Option (CRes×AHeap)) (a:AAct) (h:AHeap) (f:Opd):Option Res:=
 match (evK a) f with|.func (.func f) fs cs=>some (.df f (fs++cs))|_=>none
noncomputable def k_recover (call:FuncId→List AV→AHeap→Option (CRes×AHeap)) (a:AAct) (h:AHeap)  : Option Res:=
 none
noncomputable def k_burn (call:FuncId→List AV→AHeap→Option (CRes×AHeap)) (a:AAct) (h:AHeap)  : Option Res:=
 some (.v undefA (alK h .dead) .big)
noncomputable def evOpK (call:FuncId→List AV→AHeap→Option (CRes×AHeap)) (a:AAct) (op:MOp) (h:AHeap):Option Res:=
 match op with
 | .mov x0=>k_mov call a h x0
 | .pick x0 x1 x2=>k_pick call a h x0 x1 x2
 | .new x0 x1=>k_new call a h x0 x1
 | .box x0=>k_box call a h x0
 | .build x0 x1=>k_build call a h x0 x1
 | .bslice x0 x1 x2 x3=>k_bslice call a h x0 x1 x2 x3
 | .load x0 x1 x2=>k_load call a h x0 x1 x2
 | .store x0 x1 x2=>k_store call a h x0 x1 x2
 | .nilck x0=>k_nilck call a h x0
 | .bin x0 x1 x2=>k_bin call a h x0 x1 x2
 | .eqv x0 x1 x2 x3=>k_eqv call a h x0 x1 x2 x3
 | .un x0 x1=>k_un call a h x0 x1
 | .cvi x0 x1=>k_cvi call a h x0 x1
 | .cvbs x0=>k_cvbs call a h x0
 | .cvs x0=>k_cvs call a h x0
 | .mkif x0 x1=>k_mkif call a h x0 x1
 | .mkfn x0 x1 x2=>k_mkfn call a h x0 x1 x2
 | .mkmap=>k_mkmap call a h
 | .mkslice x0 x1 x2 x3 x4=>k_mkslice call a h x0 x1 x2 x3 x4
 | .slc x0 x1 x2 x3 x4=>k_slc call a h x0 x1 x2 x3 x4
 | .sls x0 x1 x2=>k_sls call a h x0 x1 x2
 | .faddr x0 x1=>k_faddr call a h x0 x1
 | .fld x0 x1 x2 x3=>k_fld call a h x0 x1 x2 x3
 | .iaddr x0 x1 x2=>k_iaddr call a h x0 x1 x2
 | .idxs x0 x1=>k_idxs call a h x0 x1
 | .idxa x0 x1 x2 x3 x4=>k_idxa call a h x0 x1 x2 x3 x4
 | .lookup x0 x1 x2 x3 x4=>k_lookup call a h x0 x1 x2 x3 x4
 | .mapupd x0 x1 x2 x3=>k_mapupd call a h x0 x1 x2 x3
 | .tassert x0 x1 x2=>k_tassert call a h x0 x1 x2
 | .ext x0 x1=>k_ext call a h x0 x1
 | .call x0 x1=>k_call call a h x0 x1
 | .callv x0 x1=>k_callv call a h x0 x1
 | .lenS x0=>k_lenS call a h x0
 | .lenL x0=>k_lenL call a h x0
 | .lenM x0=>k_lenM call a h x0
 | .append x0 x1 x2 x3 x4=>k_append call a h x0 x1 x2 x3 x4
 | .appendz x0 x1 x2 x3 x4=>k_appendz call a h x0 x1 x2 x3 x4
 | .copy x0 x1 x2=>k_copy call a h x0 x1 x2
 | .mx x0 x1 x2=>k_mx call a h x0 x1 x2
 | .iarr x0 x1 x2 x3=>k_iarr call a h x0 x1 x2 x3
 | .slarr x0 x1 x2 x3 x4 x5=>k_slarr call a h x0 x1 x2 x3 x4 x5
 | .panic x0=>k_panic call a h x0
 | .defer x0=>k_defer call a h x0
 | .recover=>k_recover call a h
 | .burn=>k_burn call a h
theorem evOpK_eq' (call:FuncId→List AV→AHeap→Option (CRes×AHeap)) (a:AAct) (op:MOp) (h:AHeap):evOpK call a op h=evOp call a op h:=by
 cases op<;>simp only[evOpK,evOp]
 case bin=>simp only[k_bin,binK_eq,evK_eq];rfl
 case eqv=>simp only[k_eqv,eqTK_eq,evK_eq];rfl
 case un=>simp only[k_un,unK_eq,evK_eq];rfl
 case cvi=>simp only[k_cvi,wrK_eq,evK_eq];rfl
 case mkslice=>simp only[k_mkslice,nnK_eq,leIK_eq,leNK_eq,evK_eq,alK_eq];rfl
 case slc=>simp only[k_slc,bndK_eq,evK_eq,hgK_eq];rfl
 case sls=>simp only[k_sls,bndK_eq,evK_eq];rfl
 case iaddr=>simp only[k_iaddr,inBK_eq,evK_eq];rfl
 case idxs=>simp only[k_idxs,nnK_eq,evK_eq];rfl
 case idxa=>simp only[k_idxa,inBK_eq,evK_eq];rfl
 case appendz=>simp only[k_appendz,nnK_eq,leNK_eq,evK_eq,appK_eq];rfl
 case iarr=>simp only[k_iarr,inBK_eq,evK_eq];rfl
 case slarr=>simp only[k_slarr,bndK_eq,evK_eq];rfl
 case mov=>simp only[k_mov,evK_eq]
 case pick=>simp only[k_pick,evK_eq];rfl
 case new=>simp only[k_new,alK_eq]
 case box=>simp only[k_box,evK_eq,alK_eq]
 case build=>simp only[k_build,evK_eq];rfl
 case bslice=>simp only[k_bslice,evK_eq,alK_eq];rfl
 case load=>simp only[k_load,evK_eq,hgK_eq];rfl
 case store=>simp only[k_store,evK_eq,hgK_eq,upK_eq];rfl
 case nilck=>simp only[k_nilck,evK_eq];rfl
 case cvbs=>simp only[k_cvbs,evK_eq,hgK_eq];rfl
 case cvs=>simp only[k_cvs,evK_eq];rfl
 case mkif=>simp only[k_mkif,evK_eq]
 case mkfn=>simp only[k_mkfn,evK_eq]
 case mkmap=>simp only[k_mkmap,alK_eq]
 case faddr=>simp only[k_faddr,evK_eq];rfl
 case fld=>simp only[k_fld,evK_eq];rfl
 case lookup=>simp only[k_lookup,evK_eq,hgK_eq];rfl
 case mapupd=>simp only[k_mapupd,evK_eq,hgK_eq,upK_eq];rfl
 case tassert=>simp only[k_tassert,evK_eq];rfl
 case ext=>simp only[k_ext,evK_eq];rfl
 case call=>simp only[k_call,evK_eq];rfl
 case callv=>simp only[k_callv,evK_eq];rfl
 case lenS=>simp only[k_lenS,evK_eq];rfl
 case lenL=>simp only[k_lenL,evK_eq];rfl
 case lenM=>simp only[k_lenM,evK_eq,hgK_eq];rfl
 case append=>simp only[k_append,evK_eq,elemsK_eq,appK_eq];rfl
 case copy=>simp only[k_copy,evK_eq,elemsK_eq,hgK_eq,upK_eq];rfl
 case mx=>simp only[k_mx,evK_eq];rfl
 case panic=>simp only[k_panic,evK_eq];rfl
 case defer=>simp only[k_defer,evK_eq];rfl
 case burn=>simp only[k_burn,alK_eq]
 all_goals rfl
theorem evOpK_eq:evOpK=evOp:=by funext call a op h;exact evOpK_eq' call a op h
def sameRec (rs qs:List Rec):Prop:=∀bef k hb ha,okWith bef k hb ha rs=okWith bef k hb ha qs
theorem sameRec.cons {rs qs:List Rec} (s:sameRec rs qs) (r:Rec):sameRec (r::rs) (r::qs):=by
 intro bef k hb ha
 simp only[okWith,s bef k hb ha]
theorem sameRec.free {rs qs:List Rec} (s:sameRec rs qs) {r:Rec} (hr:r.k=.free):sameRec rs (r::qs):=by
 intro bef k hb ha
 simp only[okWith,s bef k hb ha,compat_free' hr,Bool.or_true,Bool.true_and]
end Go.Ev
namespace Go.Ev
open Go
noncomputable def asBool (f:Bool→Bool) (v:AV):Bool:=
 @AV.rec (fun _=>Bool) (fun _=>Bool) f (fun _ _=>false) (fun _ _=>false) (fun _=>false) (fun _ _=>false) false (fun _ _ _ _ _=>false) false (fun _=>false) false (fun _ _ _ _ _=>false) false (fun _ _ _=>false) false (fun _ _=>false) (fun _ _=>false) false (fun _ _ _ _=>false) v
noncomputable def asBoolD (f:Bool→Bool) (d:Bool) (v:AV):Bool:=
 @AV.rec (fun _=>Bool) (fun _=>Bool) f (fun _ _=>d) (fun _ _=>d) (fun _=>d) (fun _ _=>d) d (fun _ _ _ _ _=>d) d (fun _=>d) d (fun _ _ _ _ _=>d) d (fun _ _ _=>d) d (fun _ _=>d) (fun _ _=>d) d (fun _ _ _ _=>d) v
noncomputable def asInt (f:IntKind→Int→Bool) (v:AV):Bool:=
 @AV.rec (fun _=>Bool) (fun _=>Bool) (fun _=>false) f (fun _ _=>false) (fun _=>false) (fun _ _=>false) false (fun _ _ _ _ _=>false) false (fun _=>false) false (fun _ _ _ _ _=>false) false (fun _ _ _=>false) false (fun _ _=>false) (fun _ _=>false) false (fun _ _ _ _=>false) v
noncomputable def asStr (f:List UInt8→Bool) (v:AV):Bool:=
 @AV.rec (fun _=>Bool) (fun _=>Bool) (fun _=>false) (fun _ _=>false) (fun _ _=>false) f (fun _ _=>false) false (fun _ _ _ _ _=>false) false (fun _=>false) false (fun _ _ _ _ _=>false) false (fun _ _ _=>false) false (fun _ _=>false) (fun _ _=>false) false (fun _ _ _ _=>false) v
noncomputable def onIS (f:IntKind→Int→Bool) (g:List UInt8→Bool) (v:AV):Bool:=
 @AV.rec (fun _=>Bool) (fun _=>Bool) (fun _=>false) f (fun _ _=>false) g (fun _ _=>false) false (fun _ _ _ _ _=>false) false (fun _=>false) false (fun _ _ _ _ _=>false) false (fun _ _ _=>false) false (fun _ _=>false) (fun _ _=>false) false (fun _ _ _ _=>false) v
noncomputable def asPtr (f:Nat→Nat→Bool) (v:AV):Bool:=
 @AV.rec (fun _=>Bool) (fun _=>Bool) (fun _=>false) (fun _ _=>false) (fun _ _=>false) (fun _=>false) f false (fun _ _ _ _ _=>false) false (fun _=>false) false (fun _ _ _ _ _=>false) false (fun _ _ _=>false) false (fun _ _=>false) (fun _ _=>false) false (fun _ _ _ _=>false) v
noncomputable def isNN (v:AV):Bool:=
 @AV.rec (fun _=>Bool) (fun _=>Bool) (fun _=>false) (fun _ _=>false) (fun _ _=>false) (fun _=>false) (fun _ _=>true) false (fun _ _ _ _ _=>false) false (fun _=>false) false (fun _ _ _ _ _=>false) false (fun _ _ _=>true) false (fun _ _=>false) (fun _ _=>false) false (fun _ _ _ _=>false) v
noncomputable def asNil (K:Bool) (v:AV):Bool:=@Bool.rec (fun _=>Bool) false K (isNN v)
noncomputable def asSl (f:Nat→Nat→Nat→Nat→Bool→Bool) (g:Bool) (v:AV):Bool:=
 @AV.rec (fun _=>Bool) (fun _=>Bool) (fun _=>false) (fun _ _=>false) (fun _ _=>false) (fun _=>false) (fun _ _=>false) false f g (fun _=>false) false (fun _ _ _ _ _=>false) false (fun _ _ _=>false) false (fun _ _=>false) (fun _ _=>false) false (fun _ _ _ _=>false) v
noncomputable def asFunc (f:Fn→List AV→List AV→Bool) (v:AV):Bool:=
 @AV.rec (fun _=>Bool) (fun _=>Bool) (fun _=>false) (fun _ _=>false) (fun _ _=>false) (fun _=>false) (fun _ _=>false) false (fun _ _ _ _ _=>false) false (fun _=>false) false (fun g a b _ _=>f g a b) false (fun _ _ _=>false) false (fun _ _=>false) (fun _ _=>false) false (fun _ _ _ _=>false) v
noncomputable def asIf (f:TypeId→AV→Bool) (v:AV):Bool:=
 @AV.rec (fun _=>Bool) (fun _=>Bool) (fun _=>false) (fun _ _=>false) (fun _ _=>false) (fun _=>false) (fun _ _=>false) false (fun _ _ _ _ _=>false) false (fun _=>false) false (fun _ _ _ _ _=>false) false (fun t x _=>f t x) false (fun _ _=>false) (fun _ _=>false) false (fun _ _ _ _=>false) v
noncomputable def asAgg (f:List AV→Bool) (v:AV):Bool:=
 @AV.rec (fun _=>Bool) (fun _=>Bool) (fun _=>false) (fun _ _=>false) (fun _ _=>false) (fun _=>false) (fun _ _=>false) false (fun _ _ _ _ _=>false) false (fun _=>false) false (fun _ _ _ _ _=>false) false (fun _ _ _=>false) false (fun a _=>f a) (fun _ _=>false) false (fun _ _ _ _=>false) v
noncomputable def asTup (f:List AV→Bool) (v:AV):Bool:=
 @AV.rec (fun _=>Bool) (fun _=>Bool) (fun _=>false) (fun _ _=>false) (fun _ _=>false) (fun _=>false) (fun _ _=>false) false (fun _ _ _ _ _=>false) false (fun _=>false) false (fun _ _ _ _ _=>false) false (fun _ _ _=>false) false (fun _ _=>false) (fun a _=>f a) false (fun _ _ _ _=>false) v
noncomputable def cellsQ (v:AV):List AV:=
 @AV.rec (fun _=>List AV) (fun _=>List AV) (fun _=>[v]) (fun _ _=>[v]) (fun _ _=>[v]) (fun _=>[v]) (fun _ _=>[v]) [v] (fun _ _ _ _ _=>[v]) [v] (fun _=>[v]) [v] (fun _ _ _ _ _=>[v]) [v] (fun _ _ _=>[v]) [v] (fun a _=>a) (fun _ _=>[v]) [] (fun _ _ _ _=>[]) v
noncomputable def flatQ (v:AV):Bool:=
 @AV.rec (fun _=>Bool) (fun _=>Bool) (fun _=>true) (fun _ _=>true) (fun _ _=>true) (fun _=>true) (fun _ _=>true) true (fun _ _ _ _ _=>true) true (fun _=>true) true (fun _ _ _ _ _=>true) true (fun _ _ _=>true) true (fun _ _=>false) (fun _ _=>false) true (fun _ _ _ _=>true) v
noncomputable def ifB (c x y:Bool):Bool:=@Bool.rec (fun _=>Bool) y x c
theorem ifB_true {c x:Bool} (h:ifB c x false=true):c=true∧x=true:=by
 cases c
 ·exact Bool.noConfusion (show false=true from h)
 ·exact ⟨rfl,h⟩
theorem ifB_of {c x y:Bool} (h:ifB c x y=true):(c=true∧x=true)∨(c=false∧y=true):=by
 cases c
 ·exact .inr ⟨rfl,h⟩
 ·exact .inl ⟨rfl,h⟩
theorem asBool_of {f:Bool→Bool} {v:AV} (h:asBool f v=true):∃b,v=.bool b∧f b=true:=by
 cases v with
 | bool b=>exact ⟨b,rfl,h⟩
 | _=>exact Bool.noConfusion (show false=true from h)
theorem asBoolD_of {f:Bool→Bool} {d:Bool} {v:AV} (h:asBoolD f d v=true):(∃b,v=.bool b∧f b=true)∨((∀b,v≠.bool b)∧d=true):=by
 cases v with
 | bool b=>exact .inl ⟨b,rfl,h⟩
 | _=>exact .inr ⟨(fun b q=>by cases q),h⟩
theorem asInt_of {f:IntKind→Int→Bool} {v:AV} (h:asInt f v=true):∃k n,v=.int k n∧f k n=true:=by
 cases v with
 | int k n=>exact ⟨k,n,rfl,h⟩
 | _=>exact Bool.noConfusion (show false=true from h)
theorem asStr_of {f:List UInt8→Bool} {v:AV} (h:asStr f v=true):∃s,v=.str s∧f s=true:=by
 cases v with
 | str s=>exact ⟨s,rfl,h⟩
 | _=>exact Bool.noConfusion (show false=true from h)
theorem onIS_of {f:IntKind→Int→Bool} {g:List UInt8→Bool} {v:AV} (h:onIS f g v=true):(∃k n,v=.int k n∧f k n=true)∨∃s,v=.str s∧g s=true:=by
 cases v with
 | int k n=>exact .inl ⟨k,n,rfl,h⟩
 | str s=>exact .inr ⟨s,rfl,h⟩
 | _=>exact Bool.noConfusion (show false=true from h)
theorem asPtr_of {f:Nat→Nat→Bool} {v:AV} (h:asPtr f v=true):∃b o,v=.ptr b o∧f b o=true:=by
 cases v with
 | ptr b o=>exact ⟨b,o,rfl,h⟩
 | _=>exact Bool.noConfusion (show false=true from h)
theorem asNil_of {K:Bool} {v:AV} (h:asNil K v=true):((∃b o,v=.ptr b o)∨∃t x,v=.iface t x)∧K=true:=by
 cases v with
 | ptr b o=>exact ⟨.inl ⟨b,o,rfl⟩,h⟩
 | iface t x=>exact ⟨.inr ⟨t,x,rfl⟩,h⟩
 | _=>exact Bool.noConfusion (show false=true from h)
theorem asSl_of {f:Nat→Nat→Nat→Nat→Bool→Bool} {g:Bool} {v:AV} (h:asSl f g v=true):(∃b o l c x,v=.slice b o l c x∧f b o l c x=true)∨(v=.nilSlice∧g=true):=by
 cases v with
 | slice b o l c x=>exact .inl ⟨b,o,l,c,x,rfl,h⟩
 | nilSlice=>exact .inr ⟨rfl,h⟩
 | _=>exact Bool.noConfusion (show false=true from h)
theorem asFunc_of {f:Fn→List AV→List AV→Bool} {v:AV} (h:asFunc f v=true):∃g a b,v=.func g a b∧f g a b=true:=by
 cases v with
 | func g a b=>exact ⟨g,a,b,rfl,h⟩
 | _=>exact Bool.noConfusion (show false=true from h)
theorem asIf_of {f:TypeId→AV→Bool} {v:AV} (h:asIf f v=true):∃t x,v=.iface t x∧f t x=true:=by
 cases v with
 | iface t x=>exact ⟨t,x,rfl,h⟩
 | _=>exact Bool.noConfusion (show false=true from h)
theorem asAgg_of {f:List AV→Bool} {v:AV} (h:asAgg f v=true):∃l,v=.agg l∧f l=true:=by
 cases v with
 | agg l=>exact ⟨l,rfl,h⟩
 | _=>exact Bool.noConfusion (show false=true from h)
theorem asTup_of {f:List AV→Bool} {v:AV} (h:asTup f v=true):∃l,v=.tuple l∧f l=true:=by
 cases v with
 | tuple l=>exact ⟨l,rfl,h⟩
 | _=>exact Bool.noConfusion (show false=true from h)
theorem cellsQ_eq (v:AV):cellsQ v=v.cells:=by cases v<;>rfl
theorem flatQ_eq (v:AV):flatQ v=v.flat:=by cases v<;>rfl
noncomputable def onNth (f:AV→Bool) (l:List AV):Nat→Bool:=
 @List.rec AV (fun _=>Nat→Bool) (fun _=>false) (fun a _ ih n=>@Nat.rec (fun _=>Bool) (f a) (fun m _=>ih m) n) l
theorem onNth_of {f:AV→Bool}:∀{l:List AV} {n:Nat},onNth f l n=true→∃x,l[n]?=some x∧f x=true
 | [],n,h=>Bool.noConfusion (show false=true from h)
 | a::l,0,h=>⟨a,rfl,h⟩
 | a::l,n+1,h=>onNth_of (l:=l) (n:=n) h
noncomputable def nthV (l:List AV):Nat→AV:=
 @List.rec AV (fun _=>Nat→AV) (fun _=>undefA) (fun a _ ih n=>@Nat.rec (fun _=>AV) a (fun m _=>ih m) n) l
theorem nthV_eq:∀(l:List AV) (n:Nat),nthV l n=(l[n]?).getD undefA
 | [],n=>rfl
 | a::l,0=>rfl
 | a::l,n+1=>nthV_eq l n
noncomputable def lenB (l:List UInt8):Nat:=@List.rec UInt8 (fun _=>Nat) (nat_lit 0) (fun _ _ ih=>Nat.add ih (nat_lit 1)) l
theorem lenB_eq:∀l:List UInt8,lenB l=l.length
 | []=>rfl
 | a::l=>congrArg (·+1) (lenB_eq l)
noncomputable def onDrop (f:List AV→Bool) (l:List AV):Nat→Bool:=
 @List.rec AV (fun _=>Nat→Bool) (fun n=>@Nat.rec (fun _=>Bool) (f []) (fun _ _=>false) n) (fun a t ih n=>@Nat.rec (fun _=>Bool) (f (a::t)) (fun m _=>ih m) n) l
theorem onDrop_of {f:List AV→Bool}:∀{l:List AV} {n:Nat},onDrop f l n=true→n≤l.length∧f (l.drop n)=true
 | [],0,h=>⟨Nat.le_refl _,h⟩
 | [],n+1,h=>Bool.noConfusion (show false=true from h)
 | a::l,0,h=>⟨Nat.zero_le _,h⟩
 | a::l,n+1,h=>by
  obtain ⟨h1,h2⟩:=onDrop_of (l:=l) (n:=n) h
  exact ⟨by simp only[List.length_cons];omega,by rw[List.drop_succ_cons];exact h2⟩
noncomputable def onTake (l:List AV):Nat→(List AV→Bool)→Bool:=
 @List.rec AV (fun _=>Nat→(List AV→Bool)→Bool) (fun n f=>@Nat.rec (fun _=>Bool) (f []) (fun _ _=>false) n) (fun a _ ih n f=>@Nat.rec (fun _=>Bool) (f []) (fun m _=>ih m (fun r=>f (a::r))) n) l
theorem onTake_of:∀{l:List AV} {n:Nat} {f:List AV→Bool},onTake l n f=true→n≤l.length∧f (l.take n)=true
 | [],0,f,h=>⟨Nat.le_refl _,h⟩
 | [],n+1,f,h=>Bool.noConfusion (show false=true from h)
 | a::l,0,f,h=>⟨Nat.zero_le _,h⟩
 | a::l,n+1,f,h=>by
  obtain ⟨h1,h2⟩:=onTake_of (l:=l) (n:=n) h
  exact ⟨by simp only[List.length_cons];omega,by rw[List.take_succ_cons];exact h2⟩
noncomputable def onRow (l:List AV) (o n:Nat) (f:List AV→Bool):Bool:=onDrop (fun r=>onTake r n f) l o
theorem onRow_of {l:List AV} {o n:Nat} {f:List AV→Bool} (h:onRow l o n f=true):∃cs,row l o n=some cs∧f cs=true:=by
 obtain ⟨h1,h2⟩:=onDrop_of h
 obtain ⟨h3,h4⟩:=onTake_of h2
 rw[List.length_drop] at h3
 refine ⟨_,?_,h4⟩
 unfold row
 rw[show Nat.ble (o+n) l.length=true by rw[Nat.ble_eq];omega]
 rfl
noncomputable def onOver (cs:List AV):List AV→(List AV→Bool)→Bool:=
 @List.rec AV (fun _=>List AV→(List AV→Bool)→Bool) (fun l f=>f l) (fun c _ ih l=>@List.rec AV (fun _=>(List AV→Bool)→Bool) (fun _=>false) (fun _ t _ f=>ih t (fun r=>f (c::r))) l) cs
theorem onOver_of:∀{cs l:List AV} {f:List AV→Bool},onOver cs l f=true→cs.length≤l.length∧f (cs++l.drop cs.length)=true
 | [],l,f,h=>⟨Nat.zero_le _,h⟩
 | c::cs,[],f,h=>Bool.noConfusion (show false=true from h)
 | c::cs,a::l,f,h=>by
  obtain ⟨h1,h2⟩:=onOver_of (cs:=cs) (l:=l) (f:=fun r=>f (c::r)) h
  exact ⟨by simp only[List.length_cons];omega,h2⟩
noncomputable def onLay (l:List AV):Nat→List AV→(List AV→Bool)→Bool:=
 @List.rec AV (fun _=>Nat→List AV→(List AV→Bool)→Bool) (fun n cs f=>@Nat.rec (fun _=>Bool) (onOver cs [] f) (fun _ _=>false) n) (fun a t ih n cs f=>@Nat.rec (fun _=>Bool) (onOver cs (a::t) f) (fun m _=>ih m cs (fun r=>f (a::r))) n) l
theorem onLay_of:∀{l:List AV} {o:Nat} {cs:List AV} {f:List AV→Bool},onLay l o cs f=true→∃r,lay l o cs=some r∧f r=true:=by
 have key:∀{l:List AV} {o:Nat} {cs:List AV} {f:List AV→Bool},onLay l o cs f=true→o+cs.length≤l.length∧f (l.take o++(cs++l.drop (o+cs.length)))=true:=by
  intro l
  induction l with
  | nil=>
   intro o cs f h
   cases o with
   | zero=>
    obtain ⟨h1,h2⟩:=onOver_of (cs:=cs) (l:=[]) (f:=f) h
    exact ⟨by omega,by rw[Nat.zero_add];exact h2⟩
   | succ o=>exact Bool.noConfusion (show false=true from h)
  | cons a l ih=>
   intro o cs f h
   cases o with
   | zero=>
    obtain ⟨h1,h2⟩:=onOver_of (cs:=cs) (l:=a::l) (f:=f) h
    exact ⟨by omega,by rw[Nat.zero_add];exact h2⟩
   | succ o=>
    obtain ⟨h1,h2⟩:=ih (o:=o) (cs:=cs) (f:=fun r=>f (a::r)) h
    refine ⟨by simp only[List.length_cons];omega,?_⟩
    rw[show o+1+cs.length=(o+cs.length)+1 by omega,List.take_succ_cons,List.drop_succ_cons]
    exact h2
 intro l o cs f h
 obtain ⟨h1,h2⟩:=key h
 refine ⟨_,?_,h2⟩
 unfold lay
 rw[show Nat.ble (o+cs.length) l.length=true by rw[Nat.ble_eq];omega]
 rfl
noncomputable def flatsQ (l:List AV):Bool:=@List.rec AV (fun _=>Bool) true (fun a _ ih=>ifB (flatQ a) ih false) l
theorem flatsQ_eq:∀l,flatsQ l=allFlat l
 | []=>rfl
 | a::l=>by
  show ifB (flatQ a) (flatsQ l) false=_
  rw[flatsQ_eq l,flatQ_eq]
  simp only[allFlat,List.all_cons]
  cases a.flat<;>rfl
noncomputable def lenV (l:List AV):Nat:=@List.rec AV (fun _=>Nat) (nat_lit 0) (fun _ _ ih=>Nat.add ih (nat_lit 1)) l
theorem lenV_eq:∀l:List AV,lenV l=l.length
 | []=>rfl
 | a::l=>congrArg (·+1) (lenV_eq l)
noncomputable def eqSQ (l:List UInt8):List UInt8→Bool:=
 @List.rec UInt8 (fun _=>List UInt8→Bool) (fun s=>@List.rec UInt8 (fun _=>Bool) true (fun _ _ _=>false) s) (fun a _ ih s=>@List.rec UInt8 (fun _=>Bool) false (fun b t _=>ifB (Nat.beq a.toNat b.toNat) (ih t) false) s) l
theorem eqSQ_eq:∀(a b:List UInt8),eqSQ a b=(a==b)
 | [],[]=>rfl
 | [],_::_=>rfl
 | _::_,[]=>rfl
 | a::r,b::s=>by
  show ifB (Nat.beq a.toNat b.toNat) (eqSQ r s) false=_
  rw[eqSQ_eq r s]
  have:(Nat.beq a.toNat b.toNat)=(a==b):=by
   rw[Bool.eq_iff_iff]
   simp [UInt8.toNat_inj]
  rw[this]
  simp only[List.cons_beq_cons]
  cases (a==b)<;>rfl
inductive Pth where
 | e
 | l (p:Pth)
 | r (p:Pth)
noncomputable def pathF (f:Nat):Nat→Pth:=
 @Nat.rec (fun _=>Nat→Pth) (fun _=>.e) (fun _ ih m=>@Bool.rec (fun _=>Pth) (@Bool.rec (fun _=>Pth) (.r (ih (Nat.sub (Nat.div m (nat_lit 2)) (nat_lit 1)))) (.l (ih (Nat.div m (nat_lit 2)))) (Nat.beq (Nat.mod m (nat_lit 2)) (nat_lit 1))) .e (Nat.beq m (nat_lit 0))) f
noncomputable def pathQ (n:Nat):Pth:=pathF (Nat.add n (nat_lit 1)) n
theorem pathF_zero (f:Nat):pathF (f+1) 0=.e:=rfl
theorem pathF_odd {f n:Nat} (h0:n≠0) (h1:n % 2=1):pathF (f+1) n=.l (pathF f (n / 2)):=by
 show @Bool.rec (fun _=>Pth) (@Bool.rec (fun _=>Pth) _ _ (Nat.beq (n % 2) 1)) _ (Nat.beq n 0)=_
 rw[beqF h0,h1]
 rfl
theorem pathF_even {f n:Nat} (h0:n≠0) (h1:n % 2≠1):pathF (f+1) n=.r (pathF f (n / 2-1)):=by
 show @Bool.rec (fun _=>Pth) (@Bool.rec (fun _=>Pth) _ _ (Nat.beq (n % 2) 1)) _ (Nat.beq n 0)=_
 rw[beqF h0,beqF h1]
 rfl
noncomputable def getP (p:Pth):Tr Blk→Option Blk:=
 @Pth.rec (fun _=>Tr Blk→Option Blk) (fun t=>@Tr.rec Blk (fun _=>Option Blk) none (fun _ v _ _ _=>v) t) (fun _ ih t=>@Tr.rec Blk (fun _=>Option Blk) none (fun l _ _ _ _=>ih l) t) (fun _ ih t=>@Tr.rec Blk (fun _=>Option Blk) none (fun _ _ r _ _=>ih r) t) p
noncomputable def putP (x:Blk) (p:Pth):Tr Blk→Tr Blk:=
 @Pth.rec (fun _=>Tr Blk→Tr Blk) (fun t=>@Tr.rec Blk (fun _=>Tr Blk) (.node .nil (some x) .nil) (fun l _ r _ _=>.node l (some x) r) t) (fun _ ih t=>@Tr.rec Blk (fun _=>Tr Blk) (.node (ih .nil) none .nil) (fun l v r _ _=>.node (ih l) v r) t) (fun _ ih t=>@Tr.rec Blk (fun _=>Tr Blk) (.node .nil none (ih .nil)) (fun l v r _ _=>.node l v (ih r)) t) p
theorem getP_eq:∀(f n:Nat) (t:Tr Blk),n<f→getP (pathF f n) t=t.get n
 | 0,n,t,h=>by omega
 | f+1,n,t,h=>by
  by_cases h0:n=0
  ·subst h0
   rw[pathF_zero]
   cases t<;>rfl
  ·by_cases h1:n % 2=1
   ·rw[pathF_odd h0 h1]
    cases t with
    | nil=>rfl
    | node l v r=>
     show getP (pathF f (n / 2)) l=_
     rw[getP_eq f (n / 2) l (by omega)]
     conv=>rhs;unfold Tr.get
     rw[beqF h0,beqT h1]
     rfl
   ·rw[pathF_even h0 h1]
    cases t with
    | nil=>rfl
    | node l v r=>
     show getP (pathF f (n / 2-1)) r=_
     rw[getP_eq f (n / 2-1) r (by omega)]
     conv=>rhs;unfold Tr.get
     rw[beqF h0,beqF h1]
     rfl
theorem putP_eq (x:Blk):∀(f n:Nat) (t:Tr Blk),n<f→putP x (pathF f n) t=Tr.put x f t n
 | 0,n,t,h=>by omega
 | f+1,n,t,h=>by
  by_cases h0:n=0
  ·subst h0
   rw[pathF_zero]
   cases t<;>rfl
  ·by_cases h1:n % 2=1
   ·rw[pathF_odd h0 h1]
    cases t with
    | nil=>
     show Tr.node (putP x (pathF f (n / 2)) .nil) none .nil=_
     rw[putP_eq x f (n / 2) _ (by omega)]
     conv=>rhs;unfold Tr.put
     rw[beqF h0,beqT h1]
     rfl
    | node l v r=>
     show Tr.node (putP x (pathF f (n / 2)) l) v r=_
     rw[putP_eq x f (n / 2) _ (by omega)]
     conv=>rhs;unfold Tr.put
     rw[beqF h0,beqT h1]
     rfl
   ·rw[pathF_even h0 h1]
    cases t with
    | nil=>
     show Tr.node .nil none (putP x (pathF f (n / 2-1)) .nil)=_
     rw[putP_eq x f (n / 2-1) _ (by omega)]
     conv=>rhs;unfold Tr.put
     rw[beqF h0,beqF h1]
     rfl
    | node l v r=>
     show Tr.node l v (putP x (pathF f (n / 2-1)) r)=_
     rw[putP_eq x f (n / 2-1) _ (by omega)]
     conv=>rhs;unfold Tr.put
     rw[beqF h0,beqF h1]
     rfl
noncomputable def getQ (t:Tr Blk) (n:Nat):Option Blk:=getP (pathQ n) t
theorem getQ_eq (t:Tr Blk) (n:Nat):getQ t n=t.get n:=getP_eq (n+1) n t (by omega)
noncomputable def alQ (h:AHeap) (o:AObj):AHeap:=⟨Nat.add h.n (nat_lit 1),putP ⟨nat_lit 0,o⟩ (pathQ h.n) h.t⟩
theorem alQ_eq (h:AHeap) (o:AObj):alQ h o=h.alloc o:=by
 unfold alQ AHeap.alloc Tr.set
 rw[show putP ⟨0,o⟩ (pathQ h.n) h.t=Tr.put ⟨0,o⟩ (h.n+1) h.t h.n from putP_eq _ (h.n+1) h.n h.t (by omega)]
noncomputable def upQ (h:AHeap) (b ver:Nat) (o:AObj):AHeap:=⟨h.n,putP ⟨ver,o⟩ (pathQ b) h.t⟩
theorem upQ_eq (h:AHeap) (b ver:Nat) (o:AObj):upQ h b ver o=h.upd b ver o:=by
 unfold upQ AHeap.upd Tr.set
 rw[show putP ⟨ver,o⟩ (pathQ b) h.t=Tr.put ⟨ver,o⟩ (b+1) h.t b from putP_eq _ (b+1) b h.t (by omega)]
noncomputable def onCells (f:Nat→Md→Nat→List AV→Bool) (h:AHeap) (b:Nat):Bool:=
 @Option.rec Blk (fun _=>Bool) false (fun x=>@Blk.rec (fun _=>Bool) (fun ver o=>@AObj.rec (fun _=>Bool) (f ver) (fun _=>false) false o) x) (getQ h.t b)
theorem onCells_of {f:Nat→Md→Nat→List AV→Bool} {h:AHeap} {b:Nat} (e:onCells f h b=true):∃ver md es vs,h.get b=some ⟨ver,.cells md es vs⟩∧f ver md es vs=true:=by
 unfold onCells at e
 rw[getQ_eq] at e
 unfold AHeap.get
 cases g:h.t.get b with
 | none=>rw[g] at e;exact Bool.noConfusion (show false=true from e)
 | some x=>
  rw[g] at e
  obtain ⟨ver,o⟩:=x
  cases o with
  | cells md es vs=>exact ⟨ver,md,es,vs,rfl,e⟩
  | _=>exact Bool.noConfusion (show false=true from e)
noncomputable def isOwn (md:Md):Bool:=@Md.rec (fun _=>Bool) true false false (fun _=>false) false md
noncomputable def mineQ (md:Md):Bool:=@Md.rec (fun _=>Bool) true false false (fun _=>true) false md
theorem mineQ_of {md:Md} (h:mineQ md=true):md.mine=true:=by cases md<;>first|rfl|exact Bool.noConfusion (show false=true from h)
noncomputable def sameQ (md' md:Md):Bool:=@Md.rec (fun _=>Bool) (isOwn md) false false (fun t=>@Md.rec (fun _=>Bool) false false false (fun u=>Nat.beq t u) false md) false md'
theorem sameQ_of {md' md:Md} (h:sameQ md' md=true):md'=md:=by
 cases md'<;>cases md<;>first|rfl|exact Bool.noConfusion (show false=true from h)|exact congrArg Md.tag (Nat.eq_of_beq_eq_true h)
theorem mdsame_refl {md:Md} (h:md.mine=true):md.same md=true:=by cases md<;>first|rfl|exact Nat.beq_refl _|cases h
noncomputable def kIx (k:IntKind):Nat:=@IntKind.rec (fun _=>Nat) (nat_lit 0) (nat_lit 1) (nat_lit 2) (nat_lit 3) (nat_lit 4) (nat_lit 5) (nat_lit 6) (nat_lit 7) k
theorem kIx_inj {k k':IntKind} (h:Nat.beq (kIx k) (kIx k')=true):k=k':=by
 cases k<;>cases k'<;>first|rfl|exact Bool.noConfusion (show false=true from h)
noncomputable def fiAdd (k:IntKind) (a b:Int):AV:=.int k (wrK k (a+b))
noncomputable def fiSub (k:IntKind) (a b:Int):AV:=.int k (wrK k (a-b))
noncomputable def fiNeq (_:IntKind) (a b:Int):AV:=.bool (!eqIK a b)
noncomputable def fiLss (_:IntKind) (a b:Int):AV:=.bool (ltIK a b)
noncomputable def fiLeq (_:IntKind) (a b:Int):AV:=.bool (leIK a b)
noncomputable def fiGtr (_:IntKind) (a b:Int):AV:=.bool (ltIK b a)
noncomputable def fiGeq (_:IntKind) (a b:Int):AV:=.bool (leIK b a)
noncomputable def onSome (K:AV→Bool) (x:Option AV):Bool:=@Option.rec AV (fun _=>Bool) false K x
theorem onSome_of {K:AV→Bool} {x:Option AV} (h:onSome K x=true):∃v,x=some v∧K v=true:=by
 cases x with
 | none=>exact Bool.noConfusion (show false=true from h)
 | some v=>exact ⟨v,rfl,h⟩
noncomputable def p_bin (op:BinOp) (fi:IntKind→Int→Int→AV) (v w:AV) (K:AV→Bool):Bool:=
 onIS (fun k a=>asInt (fun k' b=>ifB (Nat.beq (kIx k) (kIx k')) (K (fi k a b)) false) w) (fun _=>onSome K (binK op v w)) v
def FiOk (op:BinOp) (fi:IntKind→Int→Int→AV):Prop:=∀k a b,binA op (.int k a) (.int k b)=some (fi k a b)
theorem p_bin_of {op:BinOp} {fi:IntKind→Int→Int→AV} (hf:FiOk op fi) {v w:AV} {K:AV→Bool} (h:p_bin op fi v w K=true):∃r,binA op v w=some r∧K r=true:=by
 rcases onIS_of h with ⟨k,a,rfl,h⟩|⟨s,rfl,h⟩
 ·obtain ⟨k',b,rfl,h⟩:=asInt_of h
  obtain ⟨h1,h2⟩:=ifB_true h
  obtain rfl:=kIx_inj h1
  exact ⟨_,hf _ _ _,h2⟩
 ·obtain ⟨r,h1,h2⟩:=onSome_of h
  rw[binK_eq] at h1
  exact ⟨r,h1,h2⟩
noncomputable def p_eq (v w:AV) (K:AV→Bool):Bool:=
 onIS (fun k a=>asInt (fun k' b=>ifB (Nat.beq (kIx k) (kIx k')) (K (.bool (eqIK a b))) false) w) (fun s=>asStr (fun t=>K (.bool (eqSQ s t))) w) v
theorem p_eq_of {v w:AV} {K:AV→Bool} (h:p_eq v w K=true):∃r,binA .eql v w=some r∧K r=true:=by
 rcases onIS_of h with ⟨k,a,rfl,h⟩|⟨s,rfl,h⟩
 ·obtain ⟨k',b,rfl,h⟩:=asInt_of h
  obtain ⟨h1,h2⟩:=ifB_true h
  obtain rfl:=kIx_inj h1
  refine ⟨_,?_,h2⟩
  rw[←binK_eq]
  simp only[binK,kindK_eq,decide_true,cond_true,intBinK]
 ·obtain ⟨t,rfl,h⟩:=asStr_of h
  refine ⟨_,?_,h⟩
  simp only[binA,strBin,eqSQ_eq]
theorem fiAdd_ok:FiOk .add fiAdd:=fun k a b=>by rw[←binK_eq];simp only[binK,kindK_eq,decide_true,cond_true,intBinK,fiAdd]
theorem fiSub_ok:FiOk .sub fiSub:=fun k a b=>by rw[←binK_eq];simp only[binK,kindK_eq,decide_true,cond_true,intBinK,fiSub]
theorem fiNeq_ok:FiOk .neq fiNeq:=fun k a b=>by rw[←binK_eq];simp only[binK,kindK_eq,decide_true,cond_true,intBinK,fiNeq]
theorem fiLss_ok:FiOk .lss fiLss:=fun k a b=>by rw[←binK_eq];simp only[binK,kindK_eq,decide_true,cond_true,intBinK,fiLss]
theorem fiLeq_ok:FiOk .leq fiLeq:=fun k a b=>by rw[←binK_eq];simp only[binK,kindK_eq,decide_true,cond_true,intBinK,fiLeq]
theorem fiGtr_ok:FiOk .gtr fiGtr:=fun k a b=>by rw[←binK_eq];simp only[binK,kindK_eq,decide_true,cond_true,intBinK,fiGtr]
theorem fiGeq_ok:FiOk .geq fiGeq:=fun k a b=>by rw[←binK_eq];simp only[binK,kindK_eq,decide_true,cond_true,intBinK,fiGeq]
noncomputable def pickV (b:Bool) (x y:AV):AV:=@Bool.rec (fun _=>AV) y x b
theorem pickV_eq (b:Bool) (x y:AV):pickV b x y=bif b then x else y:=by cases b<;>rfl
noncomputable def p_pick (c x y:AV) (K:AV→Bool):Bool:=asBool (fun b=>K (pickV b x y)) c
noncomputable def p_if (c:AV) (X Y:Bool):Bool:=asBool (fun b=>ifB b X Y) c
noncomputable def p_yes (c:AV) (X Y:Bool):Bool:=asBoolD (fun b=>ifB b X Y) Y c
noncomputable def p_no (c:AV) (X Y:Bool):Bool:=asBoolD (fun b=>ifB b Y X) Y c
noncomputable def p_load1 (v:AV) (h:AHeap) (K:AV→Nat→Bool):Bool:=asPtr (fun b o=>onCells (fun _ _ _ vs=>onNth (fun x=>K x b) vs o) h b) v
noncomputable def p_loadN (n:Nat) (v:AV) (h:AHeap) (K:AV→Nat→Bool):Bool:=asPtr (fun b o=>onCells (fun _ _ _ vs=>onRow vs o n (fun cs=>K (.agg cs) b)) h b) v
theorem p_load1_of {v:AV} {h:AHeap} {K:AV→Nat→Bool} (e:p_load1 v h K=true):∃b o ver md es vs x,v=.ptr b o∧h.get b=some ⟨ver,.cells md es vs⟩∧vs[o]?=some x∧K x b=true:=by
 obtain ⟨b,o,rfl,e1⟩:=asPtr_of e
 obtain ⟨ver,md,es,vs,hb,e2⟩:=onCells_of e1
 obtain ⟨x,hx,e3⟩:=onNth_of e2
 exact ⟨b,o,ver,md,es,vs,x,rfl,hb,hx,e3⟩
theorem p_loadN_of {n:Nat} {v:AV} {h:AHeap} {K:AV→Nat→Bool} (e:p_loadN n v h K=true):∃b o ver md es vs cs,v=.ptr b o∧h.get b=some ⟨ver,.cells md es vs⟩∧row vs o n=some cs∧K (.agg cs) b=true:=by
 obtain ⟨b,o,rfl,e1⟩:=asPtr_of e
 obtain ⟨ver,md,es,vs,hb,e2⟩:=onCells_of e1
 obtain ⟨x,hx,e3⟩:=onRow_of e2
 exact ⟨b,o,ver,md,es,vs,x,rfl,hb,hx,e3⟩
noncomputable def p_store (n:Nat) (v w:AV) (h:AHeap) (K:AHeap→Nat→Bool):Bool:=
 asPtr (fun b o=>ifB (Nat.beq (lenV (cellsQ w)) n) (ifB (flatsQ (cellsQ w)) (onCells (fun ver md es vs=>ifB (mineQ md) (onLay vs o (cellsQ w) (fun vs'=>K (upQ h b (Nat.add ver (nat_lit 1)) (.cells md es vs')) b)) false) h b) false) false) v
theorem p_store_of {n:Nat} {v w:AV} {h:AHeap} {K:AHeap→Nat→Bool} (e:p_store n v w h K=true):∃b o ver md es vs vs',v=.ptr b o∧w.cells.length.beq n=true∧allFlat w.cells=true∧h.get b=some ⟨ver,.cells md es vs⟩∧md.mine=true∧lay vs o w.cells=some vs'∧K (h.upd b (ver+1) (.cells md es vs')) b=true:=by
 obtain ⟨b,o,rfl,e1⟩:=asPtr_of e
 obtain ⟨h1,e2⟩:=ifB_true e1
 obtain ⟨h2,e3⟩:=ifB_true e2
 obtain ⟨ver,md,es,vs,hb,e4⟩:=onCells_of e3
 obtain ⟨h3,e5⟩:=ifB_true e4
 obtain ⟨vs',hl,e6⟩:=onLay_of e5
 rw[cellsQ_eq,lenV_eq] at h1
 rw[flatsQ_eq,cellsQ_eq] at h2
 rw[cellsQ_eq] at hl
 rw[upQ_eq] at e6
 exact ⟨b,o,ver,md,es,vs,vs',rfl,h1,h2,hb,mineQ_of h3,hl,e6⟩
noncomputable def p_faddr (off:Nat) (v:AV) (K:AV→Bool):Bool:=asPtr (fun b o=>K (.ptr b (Nat.add o off))) v
noncomputable def onIn (i:Int) (len:Nat) (f:Nat→Bool):Bool:=@Int.rec (fun _=>Bool) (fun m=>ifB (Nat.ble (Nat.succ m) len) (f m) false) (fun _=>false) i
theorem onIn_of {i:Int} {len:Nat} {f:Nat→Bool} (h:onIn i len f=true):(decide (0≤i)&&decide (i<(len:Int)))=true∧f i.toNat=true:=by
 cases i with
 | ofNat m=>
  obtain ⟨h1,h2⟩:=ifB_true h
  rw[Nat.ble_eq] at h1
  refine ⟨?_,h2⟩
  simp only[Bool.and_eq_true,decide_eq_true_eq]
  exact ⟨Int.natCast_nonneg m,by have:m<len:=h1;show ((m:Nat):Int)<_;omega⟩
 | negSucc m=>exact Bool.noConfusion (show false=true from h)
noncomputable def p_iaddr (es:Nat) (v i:AV) (K:AV→Bool):Bool:=asSl (fun b o len _ _=>asInt (fun _ i=>onIn i len (fun m=>K (.ptr b (Nat.add o (Nat.mul m es))))) i) false v
noncomputable def onNat (i:Int) (f:Nat→Bool):Bool:=@Int.rec (fun _=>Bool) f (fun _=>false) i
theorem onNat_of {i:Int} {f:Nat→Bool} (h:onNat i f=true):decide (0≤i)=true∧f i.toNat=true:=by
 cases i with
 | ofNat m=>exact ⟨decide_eq_true (Int.natCast_nonneg m),h⟩
 | negSucc m=>exact Bool.noConfusion (show false=true from h)
noncomputable def p_lenS (v:AV) (K:AV→Bool):Bool:=asStr (fun s=>K (.int .i64 (Int.ofNat (lenB s)))) v
noncomputable def p_lenL (v:AV) (K:AV→Bool):Bool:=asSl (fun _ _ len _ _=>K (.int .i64 (Int.ofNat len))) (K (.int .i64 (Int.ofNat (nat_lit 0)))) v
noncomputable def p_ext (v:AV) (i:Nat) (K:AV→Bool):Bool:=asTup (fun vs=>onNth K vs i) v
noncomputable def p_fld (v:AV) (off:Nat) (K:AV→Bool):Bool:=asAgg (fun vs=>onNth K vs off) v
noncomputable def p_not (v:AV) (K:AV→Bool):Bool:=asBool (fun b=>K (.bool (@Bool.rec (fun _=>Bool) true false b))) v
noncomputable def p_fn (v:AV) (K:FuncId→List AV→List AV→Bool):Bool:=asFunc (fun g a b=>match g with|.func f=>K f a b|_=>false) v
noncomputable def p_eqv (neg:Bool) (t:KT) (v w:AV) (K:AV→Bool):Bool:=@Option.rec Bool (fun _=>Bool) false (fun b=>K (.bool (@Bool.rec (fun _=>Bool) b (@Bool.rec (fun _=>Bool) true false b) neg))) (eqTK t v w)
noncomputable def appL (a b:List AV):List AV:=@List.rec AV (fun _=>List AV) b (fun x _ ih=>x::ih) a
theorem appL_eq:∀a b,appL a b=a++b
 | [],_=>rfl
 | x::a,b=>congrArg (x::·) (appL_eq a b)
noncomputable def dropQ (l:List UInt8):Nat→List UInt8:=
 @List.rec UInt8 (fun _=>Nat→List UInt8) (fun _=>[]) (fun a t ih n=>@Nat.rec (fun _=>List UInt8) (a::t) (fun m _=>ih m) n) l
noncomputable def takeQ (l:List UInt8):Nat→List UInt8:=
 @List.rec UInt8 (fun _=>Nat→List UInt8) (fun _=>[]) (fun a _ ih n=>@Nat.rec (fun _=>List UInt8) [] (fun m _=>a::ih m) n) l
theorem dropQ_eq:∀(l:List UInt8) (n:Nat),dropQ l n=l.drop n
 | [],n=>by simp [dropQ]
 | a::l,0=>rfl
 | a::l,n+1=>dropQ_eq l n
theorem takeQ_eq:∀(l:List UInt8) (n:Nat),takeQ l n=l.take n
 | [],n=>by simp [takeQ]
 | a::l,0=>rfl
 | a::l,n+1=>congrArg (a::·) (takeQ_eq l n)
noncomputable def chunkN (s:List UInt8) (j:Nat):List UInt8:=@Nat.rec (fun _=>List UInt8) s (fun _ ih=>dropQ ih (nat_lit 16)) j
noncomputable def dropC (s:List UInt8) (i:Nat):List UInt8:=dropQ (chunkN s (Nat.div i (nat_lit 16))) (Nat.mod i (nat_lit 16))
theorem chunkN_eq (s:List UInt8):∀j,chunkN s j=s.drop (16*j)
 | 0=>rfl
 | j+1=>by
  show dropQ (chunkN s j) 16=_
  rw[dropQ_eq,chunkN_eq s j,List.drop_drop]
  congr 1
theorem dropC_eq (s:List UInt8) (i:Nat):dropC s i=s.drop i:=by
 show dropQ (chunkN s (i / 16)) (i % 16)=_
 rw[dropQ_eq,chunkN_eq,List.drop_drop]
 congr 1
 omega
noncomputable def onHd (f:UInt8→Bool) (l:List UInt8):Bool:=@List.rec UInt8 (fun _=>Bool) false (fun a _ _=>f a) l
theorem onHd_of {f:UInt8→Bool} {s:List UInt8} {i:Nat} (h:onHd f (dropC s i)=true):∃x,s[i]?=some x∧f x=true:=by
 rw[dropC_eq] at h
 cases e:s.drop i with
 | nil=>rw[e] at h;exact Bool.noConfusion (show false=true from h)
 | cons a l=>
  rw[e] at h
  refine ⟨a,?_,h⟩
  have h1:(s.drop i)[0]?=some a:=by rw[e];rfl
  rw[List.getElem?_drop] at h1
  simpa using h1
noncomputable def onBnd (x:AV) (lim:Nat) (K:Nat→Bool):Bool:=asInt (fun _ i=>onNat i fun m=>ifB (Nat.ble m lim) (K m) false) x
theorem onBnd_of {x:AV} {d lim:Nat} {K:Nat→Bool} (h:onBnd x lim K=true):∃m,bnd (some x) d lim=some m∧K m=true:=by
 obtain ⟨k,i,rfl,h⟩:=asInt_of h
 obtain ⟨h1,h⟩:=onNat_of h
 obtain ⟨h2,h⟩:=ifB_true h
 rw[Nat.ble_eq] at h2
 have h1':=of_decide_eq_true h1
 refine ⟨i.toNat,?_,h⟩
 simp only[bnd,h1,Bool.true_and]
 rw[decide_eq_true (by omega)]
 rfl
noncomputable def p_idxs (v i:AV) (K:AV→Bool):Bool:=asStr (fun s=>asInt (fun _ i=>onNat i (fun m=>onHd (fun c=>K (.int .u8 (Int.ofNat c.toNat))) (dropC s m))) i) v
noncomputable def p_box (v:AV) (h:AHeap) (K:AV→AHeap→Bool):Bool:=ifB (flatsQ (cellsQ v)) (K (.ptr h.n (nat_lit 0)) (alQ h (.cells .own (nat_lit 0) (cellsQ v)))) false
noncomputable def onFill (l:List (Nat×Nat×AV)):List AV→(List AV→Bool)→Bool:=
 @List.rec (Nat×Nat×AV) (fun _=>List AV→(List AV→Bool)→Bool) (fun zs K=>K zs) (fun p _ ih zs K=>ifB (Nat.beq (lenV (cellsQ p.2.2)) p.2.1) (onLay zs p.1 (cellsQ p.2.2) fun zs'=>ih zs' K) false) l
theorem onFill_of {ev:Opd→AV}:∀{ps:List (Nat×Nat×Opd)} {zs:List AV} {K:List AV→Bool},onFill (ps.map fun p=>(p.1,p.2.1,ev p.2.2)) zs K=true→∃cs,fillA ev zs ps=some cs∧K cs=true
 | [],zs,K,h=>⟨zs,rfl,h⟩
 | (off,size,x)::ps,zs,K,h=>by
  obtain ⟨h1,h⟩:=ifB_true (show ifB (Nat.beq (lenV (cellsQ (ev x))) size) (onLay zs off (cellsQ (ev x)) fun zs'=>onFill (ps.map fun p=>(p.1,p.2.1,ev p.2.2)) zs' K) false=true from h)
  obtain ⟨r,h2,h⟩:=onLay_of h
  obtain ⟨cs,h3,h⟩:=onFill_of h
  refine ⟨cs,?_,h⟩
  rw[lenV_eq,cellsQ_eq] at h1
  rw[cellsQ_eq] at h2
  simp only[fillA,h1,cond_true,h2,h3]
noncomputable def p_idxa1 (len n:Nat) (v i:AV) (K:AV→Bool):Bool:=asAgg (fun cs=>asInt (fun _ i=>onIn i len fun m=>onNth K cs (Nat.mul m n)) i) v
noncomputable def p_idxaN (len n:Nat) (v i:AV) (K:AV→Bool):Bool:=asAgg (fun cs=>asInt (fun _ i=>onIn i len fun m=>onRow cs (Nat.mul m n) n fun r=>K (.agg r)) i) v
noncomputable def p_cvi (k:IntKind) (v:AV) (K:AV→Bool):Bool:=asInt (fun _ n=>K (.int k (wrK k n))) v
noncomputable def appS (a b:List UInt8):List UInt8:=@List.rec UInt8 (fun _=>List UInt8) b (fun x _ ih=>x::ih) a
theorem appS_eq:∀a b,appS a b=a++b
 | [],_=>rfl
 | x::a,b=>congrArg (x::·) (appS_eq a b)
noncomputable def p_add (v w:AV) (K:AV→Bool):Bool:=
 onIS (fun k a=>asInt (fun k' b=>ifB (Nat.beq (kIx k) (kIx k')) (K (fiAdd k a b)) false) w) (fun s=>asStr (fun t=>ifB (Nat.ble (Nat.add (lenB s) (lenB t)) (nat_lit 9223372036854775807)) (K (.str (appS s t))) false) w) v
theorem p_add_of {v w:AV} {K:AV→Bool} (h:p_add v w K=true):∃r,binA .add v w=some r∧K r=true:=by
 rcases onIS_of h with ⟨k,a,rfl,h⟩|⟨s,rfl,h⟩
 ·obtain ⟨k',b,rfl,h⟩:=asInt_of h
  obtain ⟨h1,h2⟩:=ifB_true h
  obtain rfl:=kIx_inj h1
  exact ⟨_,fiAdd_ok _ _ _,h2⟩
 ·obtain ⟨t,rfl,h⟩:=asStr_of h
  obtain ⟨h1,h2⟩:=ifB_true h
  rw[appS_eq] at h2
  rw[lenB_eq,lenB_eq] at h1
  refine ⟨_,?_,h2⟩
  have h1':Nat.ble (s.length+t.length) 9223372036854775807=true:=h1
  simp only[binA,strBin,h1',cond_true]
noncomputable def bytesQ (s:List UInt8):List AV:=@List.rec UInt8 (fun _=>List AV) [] (fun c _ ih=>.int .u8 (Int.ofNat c.toNat)::ih) s
theorem bytesQ_eq:∀s,bytesQ s=s.map fun c=>AV.int .u8 (c.toNat:Int)
 | []=>rfl
 | c::s=>congrArg (_::·) (bytesQ_eq s)
noncomputable def onElems (es:Nat) (h:AHeap) (f:Nat→List AV→Bool) (v:AV):Bool:=
 @AV.rec (fun _=>Bool) (fun _=>Bool) (fun _=>false) (fun _ _=>false) (fun _ _=>false) (fun s=>ifB (Nat.beq es (nat_lit 1)) (f (lenB s) (bytesQ s)) false) (fun _ _=>false) false
  (fun b o len _ _=>ifB (Nat.beq len (nat_lit 0)) (f (nat_lit 0) []) (onCells (fun _ _ _ vs=>onRow vs o (Nat.mul len es) (f len)) h b)) (f (nat_lit 0) []) (fun _=>false) false (fun _ _ _ _ _=>false) false (fun _ _ _=>false) false (fun _ _=>false) (fun _ _=>false) false (fun _ _ _ _=>false) v
theorem onElems_of {es:Nat} {h:AHeap} {f:Nat→List AV→Bool} {v:AV} (e:onElems es h f v=true):∃n l,elems h es v=some (n,l)∧f n l=true:=by
 cases v with
 | str s=>
  obtain ⟨h1,h2⟩:=ifB_true (show ifB _ _ _=true from e)
  rw[lenB_eq,bytesQ_eq] at h2
  have h1':es.beq 1=true:=h1
  exact ⟨_,_,by simp only[elems,h1',cond_true],h2⟩
 | nilSlice=>exact ⟨0,[],rfl,e⟩
 | slice b o len c x=>
  rcases ifB_of (show ifB _ _ _=true from e) with ⟨h1,h2⟩|⟨h1,h2⟩
  ·have h1':len.beq 0=true:=h1
   exact ⟨0,[],by simp only[elems,h1',cond_true],h2⟩
  ·have h1':len.beq 0=false:=h1
   obtain ⟨ver,md,es',vs,hb,h3⟩:=onCells_of h2
   obtain ⟨cs,hr,h4⟩:=onRow_of h3
   have hr':row vs o (len*es)=some cs:=hr
   exact ⟨len,cs,by simp only[elems,h1',cond_false,hb,hr'],h4⟩
 | _=>exact Bool.noConfusion (show false=true from e)
noncomputable def onRow2 (l:List AV) (o n:Nat) (f:List AV→Bool):Bool:=ifB (ifB (Nat.beq o (nat_lit 0)) (Nat.beq (lenV l) n) false) (f l) (onRow l o n f)
theorem onRow2_of {l:List AV} {o n:Nat} {f:List AV→Bool} (h:onRow2 l o n f=true):∃cs,row l o n=some cs∧f cs=true:=by
 rcases ifB_of h with ⟨h1,h2⟩|⟨_,h2⟩
 ·obtain ⟨h3,h4⟩:=ifB_true h1
  obtain rfl:=Nat.eq_of_beq_eq_true h3
  have h5:=Nat.eq_of_beq_eq_true h4
  rw[lenV_eq] at h5
  subst h5
  refine ⟨l,?_,h2⟩
  unfold row
  rw[show Nat.ble (0+l.length) l.length=true by rw[Nat.ble_eq];omega]
  simp
 ·exact onRow_of h2
noncomputable def p_app2 (h:AHeap) (md:Md) (es bytes:Nat) (s:AV) (n:Nat) (new:List AV) (K:AV→AHeap→Bool):Bool:=
 ifB (Nat.beq (lenV new) (Nat.mul n es)) (ifB (flatsQ new) (asSl (fun b o len cap ex=>
   ifB (Nat.beq n (nat_lit 0)) (K (.slice b o len cap ex) h) (onCells (fun ver md' es' vs=>ifB (Nat.beq es' es)
    (ifB (Nat.ble (Nat.add len n) cap) (ifB (sameQ md' md) (onLay vs (Nat.add o (Nat.mul len es)) new fun vs'=>K (.slice b o (Nat.add len n) cap ex) (upQ h b (Nat.add ver (nat_lit 1)) (.cells md es vs'))) false)
     (ifB (Nat.ble (Nat.add len n) room) (ifB (Nat.ble (Nat.mul (Nat.add len n) bytes) room) (onRow2 vs o (Nat.mul len es) fun old=>
      ifB ex (K (.slice h.n (nat_lit 0) (Nat.add len n) (Nat.add len n) false) (alQ h (.cells md es (appL old new))))
       (ifB (Nat.beq o (nat_lit 0)) (ifB (Nat.beq cap (nat_lit 0)) false (ifB (sameQ md' md) (K (.slice h.n (nat_lit 0) (Nat.add len n) (Nat.add len n) false) (alQ (upQ h b (Nat.add ver (nat_lit 1)) .dead) (.cells md es (appL old new)))) false)) false)) false) false)) false) h b))
  (ifB (Nat.beq n (nat_lit 0)) (K .nilSlice h) (ifB (Nat.ble n room) (ifB (Nat.ble (Nat.mul n bytes) room) (K (.slice h.n (nat_lit 0) n n false) (alQ h (.cells md es new))) false) false)) s) false) false
theorem p_app2_of {h:AHeap} {md:Md} (hm:md.mine=true) {es bytes:Nat} {s:AV} {n:Nat} {new:List AV} {K:AV→AHeap→Bool} (e:p_app2 h md es bytes s n new K=true):∃v h',appendA h md es bytes s n new=some (v,h')∧K v h'=true:=by
 have hsm:=mdsame_refl hm
 obtain ⟨a1,e⟩:=ifB_true e
 obtain ⟨a2,e⟩:=ifB_true e
 rw[lenV_eq] at a1
 rw[flatsQ_eq] at a2
 have a1':new.length.beq (n*es)=true:=a1
 rcases asSl_of e with ⟨b,o,len,cap,ex,rfl,e1⟩|⟨rfl,e1⟩
 ·rcases ifB_of e1 with ⟨h1,e2⟩|⟨h1,e2⟩
  ·have h1':n.beq 0=true:=h1
   exact ⟨_,_,by simp only[appendA,a1',a2,h1',Bool.not_true,Bool.or_self,cond_false,cond_true],e2⟩
  ·have h1':n.beq 0=false:=h1
   obtain ⟨ver,md',es',vs,hb,e3⟩:=onCells_of e2
   obtain ⟨h2,e4⟩:=ifB_true e3
   obtain rfl:=Nat.eq_of_beq_eq_true h2
   rcases ifB_of e4 with ⟨h3,e5⟩|⟨h3,e5⟩
   ·have h3':(len+n).ble cap=true:=h3
    obtain ⟨h4,e6⟩:=ifB_true e5
    obtain rfl:=sameQ_of h4
    obtain ⟨vs',hl,e7⟩:=onLay_of e6
    have hl':lay vs (o+len*es') new=some vs':=hl
    rw[upQ_eq] at e7
    exact ⟨_,_,by simp only[appendA,a1',a2,h1',hb,Nat.beq_refl,h3',hsm,hl',Bool.not_true,Bool.or_self,cond_false,cond_true];rfl,e7⟩
   ·have h3':(len+n).ble cap=false:=h3
    obtain ⟨h4,e6⟩:=ifB_true e5
    obtain ⟨h5,e7⟩:=ifB_true e6
    have h4':(len+n).ble room=true:=h4
    have h5':((len+n)*bytes).ble room=true:=h5
    obtain ⟨old,hr,e8⟩:=onRow2_of e7
    have hr':row vs o (len*es')=some old:=hr
    rcases ifB_of e8 with ⟨rfl,e9⟩|⟨rfl,e9⟩
    ·rw[alQ_eq,appL_eq] at e9
     exact ⟨_,_,by simp only[appendA,a1',a2,h1',hb,Nat.beq_refl,h3',h4',h5',hr',Bool.not_true,Bool.or_self,Bool.and_self,cond_false,cond_true];rfl,e9⟩
    ·obtain ⟨h6,e10⟩:=ifB_true e9
     have h6':o.beq 0=true:=h6
     rcases ifB_of e10 with ⟨_,e11⟩|⟨h7,e11⟩
     ·cases e11
     ·have h7':cap.beq 0=false:=h7
      obtain ⟨h8,e12⟩:=ifB_true e11
      obtain rfl:=sameQ_of h8
      rw[alQ_eq,appL_eq,upQ_eq] at e12
      exact ⟨_,_,by simp only[appendA,a1',a2,h1',hb,Nat.beq_refl,h3',h4',h5',h6',h7',hr',hsm,Bool.not_true,Bool.or_self,Bool.and_self,cond_false,cond_true];rfl,e12⟩
 ·rcases ifB_of e1 with ⟨h1,e2⟩|⟨h1,e2⟩
  ·have h1':n.beq 0=true:=h1
   exact ⟨_,_,by simp only[appendA,a1',a2,h1',Bool.not_true,Bool.or_self,cond_false,cond_true],e2⟩
  ·have h1':n.beq 0=false:=h1
   obtain ⟨h4,e6⟩:=ifB_true e2
   obtain ⟨h5,e7⟩:=ifB_true e6
   have h4':n.ble room=true:=h4
   have h5':(n*bytes).ble room=true:=h5
   rw[alQ_eq] at e7
   exact ⟨_,_,by simp only[appendA,a1',a2,h1',h4',h5',Bool.not_true,Bool.or_self,Bool.and_self,cond_false,cond_true],e7⟩
noncomputable def p_append (md:Md) (es bytes:Nat) (s x:AV) (h:AHeap) (K:AV→AHeap→Bool):Bool:=ifB (mineQ md) (onElems es h (fun n new=>p_app2 h md es bytes s n new K) x) false
noncomputable def actOf (l:List (Nat×AV)):AAct:=⟨@List.rec (Nat×AV) (fun _=>Tr AV) .nil (fun x _ ih=>setTK ih x.1 x.2) l,[]⟩
noncomputable def onRes (k:AV→AHeap→Cls→Bool) (r:Option Res):Bool:=
 @Option.rec Res (fun _=>Bool) false (fun r=>@Res.rec (fun _=>Bool) k (fun _ _=>false) (fun _ _=>false) r) r
noncomputable def p_gen (op:MOp) (l:List (Nat×AV)) (h:AHeap) (k:AV→AHeap→Cls→Bool):Bool:=onRes k (evOpK noCall (actOf l) op h)
def ResQ (k:AV→AHeap→Cls→Bool) (kp:AV→AHeap→Bool) (kd:FuncId→List AV→Bool) (r:Option Res):Prop:=
 (∃x h' c,r=some (.v x h' c)∧k x h' c=true)∨(∃x h',r=some (.pan x h')∧kp x h'=true)∨∃g as,r=some (.df g as)∧kd g as=true
theorem onRes_of {k:AV→AHeap→Cls→Bool} {kp:AV→AHeap→Bool} {kd:FuncId→List AV→Bool} {r:Option Res} (h:onRes k r=true):ResQ k kp kd r:=by
 cases r with
 | none=>exact Bool.noConfusion (show false=true from h)
 | some r=>
  cases r with
  | v x h' c=>exact .inl ⟨x,h',c,rfl,h⟩
  | pan x h'=>exact Bool.noConfusion (show false=true from h)
  | df g as=>exact Bool.noConfusion (show false=true from h)
theorem actOf_get:∀(l:List (Nat×AV)) (i:Nat),(actOf l).tm.get i=(l.find? (fun x=>i==x.1)).map (·.2)
 | [],i=>by show Tr.get .nil i=_;simp only[Tr.get];rfl
 | (j,v)::l,i=>by
  show (setTK (actOf l).tm j v).get i=_
  rw[setTK_eq,Tr.get_set,actOf_get l i,List.find?_cons]
  by_cases e:i=j
  ·subst e
   simp
  ·have:(i==j)=false:=by simpa using e
   simp [this,e]
end Go.Ev
namespace Go.Ev
open Go
structure FEnv where
 v:Nat→Option AV
 df:List (FuncId×List AV)
def FEnv.ok (e:FEnv) (a:AAct):Prop:=(∀i x,e.v i=some x→a.tm.get i=some x)∧a.df=e.df
abbrev FEnv.put (e:FEnv) (d:Option Nat) (x:AV):FEnv:=match d with|none=>e|some d=>⟨fun i=>bif i.beq d then some x else e.v i,e.df⟩
abbrev FEnv.defer (e:FEnv) (f:FuncId) (as:List AV):FEnv:=⟨e.v,(f,as)::e.df⟩
theorem FEnv.ok.put {e:FEnv} {a:AAct} (o:e.ok a) (d:Option Nat) (x:AV):(e.put d x).ok (a.put d x):=by
 cases d with
 | none=>exact o
 | some d=>
  refine ⟨fun i y h=>?_,o.2⟩
  show (a.tm.set d x).get i=_
  rw[Tr.get_set]
  have h':(bif i.beq d then some x else e.v i)=some y:=h
  by_cases q:i=d
  ·subst q
   rw[Nat.beq_refl] at h'
   rw[if_pos rfl]
   exact h'
  ·rw[beqF q] at h'
   rw[if_neg q]
   exact o.1 i y h'
theorem FEnv.ok.defer {e:FEnv} {a:AAct} (o:e.ok a) (f:FuncId) (as:List AV):(e.defer f as).ok ⟨a.tm,(f,as)::a.df⟩:=⟨o.1,by show _=_::_;rw[o.2]⟩
abbrev FEnv.opd (e:FEnv) (x:Opd) (f:AV→Bool):Bool:=
 match x with
 | .c v=>f v
 | .t i=>match e.v i with|some v=>f v|none=>false
theorem FEnv.opd_of {e:FEnv} {x:Opd} {f:AV→Bool} (h:e.opd x f=true):∃v,(∀a:AAct,e.ok a→a.eval x=v)∧f v=true:=by
 cases x with
 | c v=>exact ⟨v,fun a _=>rfl,h⟩
 | t i=>
  simp only[FEnv.opd] at h
  split at h
  ·rename_i v hv
   exact ⟨v,fun a o=>by show (a.tm.get i).getD undefA=v;rw[o.1 i v hv];rfl,h⟩
  ·cases h
theorem FEnv.opdT_of {e:FEnv} {i:Nat} {f:AV→Bool} (h:e.opd (.t i) f=true):∃v,(∀a:AAct,e.ok a→a.tm.get i=some v)∧f v=true:=by
 simp only[FEnv.opd] at h
 split at h
 ·rename_i v hv
  exact ⟨v,fun a o=>o.1 i v hv,h⟩
 ·cases h
abbrev FEnv.opds (e:FEnv):List Opd→(List AV→Bool)→Bool
 | [],f=>f []
 | x::r,f=>e.opd x fun v=>e.opds r fun vs=>f (v::vs)
theorem FEnv.opds_of {e:FEnv}:∀{l:List Opd} {f:List AV→Bool},e.opds l f=true→∃vs,(∀a:AAct,e.ok a→l.map a.eval=vs)∧f vs=true
 | [],f,h=>⟨[],fun _ _=>rfl,h⟩
 | x::r,f,h=>by
  obtain ⟨v,h1,h2⟩:=FEnv.opd_of h
  obtain ⟨vs,h3,h4⟩:=FEnv.opds_of h2
  exact ⟨v::vs,fun a o=>by rw[List.map_cons,h1 a o,h3 a o],h4⟩
abbrev FEnv.parts (e:FEnv):List (Nat×Nat×Opd)→(List (Nat×Nat×AV)→Bool)→Bool
 | [],f=>f []
 | (off,size,x)::r,f=>e.opd x fun v=>e.parts r fun vs=>f ((off,size,v)::vs)
theorem FEnv.parts_of {e:FEnv}:∀{l:List (Nat×Nat×Opd)} {f:List (Nat×Nat×AV)→Bool},e.parts l f=true→∃vs,(∀a:AAct,e.ok a→(l.map fun p=>(p.1,p.2.1,a.eval p.2.2))=vs)∧f vs=true
 | [],f,h=>⟨[],fun _ _=>rfl,h⟩
 | (off,size,x)::r,f,h=>by
  obtain ⟨v,h1,h2⟩:=FEnv.opd_of (show e.opd x _=true from h)
  obtain ⟨vs,h3,h4⟩:=FEnv.parts_of h2
  exact ⟨(off,size,v)::vs,fun a o=>by rw[List.map_cons,h3 a o];simp only[h1 a o],h4⟩
noncomputable abbrev FEnv.bound (e:FEnv):Option Opd→Nat→Nat→(Nat→Bool)→Bool
 | none,d,_,K=>K d
 | some x,_,lim,K=>e.opd x fun v=>onBnd v lim K
theorem FEnv.bound_of {e:FEnv} {x:Option Opd} {d lim:Nat} {K:Nat→Bool} (h:e.bound x d lim K=true):∃m,(∀a:AAct,e.ok a→bnd (x.map a.eval) d lim=some m)∧K m=true:=by
 cases x with
 | none=>exact ⟨d,fun _ _=>rfl,h⟩
 | some x=>
  obtain ⟨v,h1,h2⟩:=FEnv.opd_of (show e.opd x _=true from h)
  obtain ⟨m,h3,h4⟩:=onBnd_of (d:=d) h2
  exact ⟨m,fun a o=>by rw[Option.map_some,h1 a o];exact h3,h4⟩
abbrev FEnv.tmps (e:FEnv):List Opd→(List (Nat×AV)→Bool)→Bool
 | [],f=>f []
 | .c _::r,f=>e.tmps r f
 | .t i::r,f=>e.opd (.t i) fun v=>e.tmps r fun vs=>f ((i,v)::vs)
theorem FEnv.tmps_of {e:FEnv}:∀{l:List Opd} {f:List (Nat×AV)→Bool},e.tmps l f=true→∃vs,(∀a:AAct,e.ok a→∀x∈l,(actOf vs).eval x=a.eval x)∧f vs=true
 | [],f,h=>⟨[],⟨fun _ _ x hx=>(by cases hx),h⟩⟩
 | .c w::r,f,h=>by
  obtain ⟨vs,h3,h4⟩:=FEnv.tmps_of (l:=r) h
  refine ⟨vs,fun a o x hx=>?_,h4⟩
  rcases List.mem_cons.1 hx with rfl|hx
  ·rfl
  ·exact h3 a o x hx
 | .t i::r,f,h=>by
  obtain ⟨v,h1,h2⟩:=FEnv.opdT_of h
  obtain ⟨vs,h3,h4⟩:=FEnv.tmps_of h2
  refine ⟨(i,v)::vs,fun a o x hx=>?_,h4⟩
  cases x with
  | c w=>rfl
  | t j=>
   show ((actOf ((i,v)::vs)).tm.get j).getD undefA=_
   rw[actOf_get,List.find?_cons]
   by_cases q:j=i
   ·subst q
    simp only[beq_self_eq_true,Option.map_some,Option.getD_some]
    show v=(a.tm.get j).getD undefA
    rw[h1 a o]
    rfl
   ·have:(j==i)=false:=by simpa using q
    rw[this]
    simp only
    rw[←actOf_get]
    rcases List.mem_cons.1 hx with e1|hx
    ·cases e1;exact absurd rfl q
    ·exact h3 a o _ hx
abbrev FCall:=FuncId→List AV→AHeap→(AV→AHeap→Bool)→(AV→AHeap→Bool)→Bool
def resB (kr kp:AV→AHeap→Bool):QR
 | .ret v,h=>kr v h=true
 | .pan v,h=>kp v h=true
def FCallOk (F:FT) (call:FCall):Prop:=∀f args h kr kp,call f args h kr kp=true→WF F f args h (resB kr kp)
noncomputable abbrev feOp (call:FCall) (op:MOp) (e:FEnv) (h:AHeap) (k:AV→AHeap→Cls→Bool) (kp:AV→AHeap→Bool) (kd:FuncId→List AV→Bool):Bool:=
 match op with
 | .mov x=>e.opd x fun v=>k v h .free
 | .pick c x y=>e.opd c fun c=>e.opd x fun x=>e.opd y fun y=>p_pick c x y fun r=>k r h .free
 | .new md zs=>k (.ptr h.n (nat_lit 0)) (alQ h (.cells md (nat_lit 0) zs)) .new
 | .load true n x=>e.opd x fun v=>p_loadN n v h fun r b=>k r h (.rd b)
 | .load false _ x=>e.opd x fun v=>p_load1 v h fun r b=>k r h (.rd b)
 | .store n x y=>e.opd x fun v=>e.opd y fun w=>p_store n v w h fun h' b=>k undefA h' (.wr b)
 | .nilck x=>e.opd x fun v=>asNil (k v h .free) v
 | .bin .add x y=>e.opd x fun v=>e.opd y fun w=>p_add v w fun r=>k r h .free
 | .bin .sub x y=>e.opd x fun v=>e.opd y fun w=>p_bin .sub fiSub v w fun r=>k r h .free
 | .bin .eql x y=>e.opd x fun v=>e.opd y fun w=>p_eq v w fun r=>k r h .free
 | .bin .neq x y=>e.opd x fun v=>e.opd y fun w=>p_bin .neq fiNeq v w fun r=>k r h .free
 | .bin .lss x y=>e.opd x fun v=>e.opd y fun w=>p_bin .lss fiLss v w fun r=>k r h .free
 | .bin .leq x y=>e.opd x fun v=>e.opd y fun w=>p_bin .leq fiLeq v w fun r=>k r h .free
 | .bin .gtr x y=>e.opd x fun v=>e.opd y fun w=>p_bin .gtr fiGtr v w fun r=>k r h .free
 | .bin .geq x y=>e.opd x fun v=>e.opd y fun w=>p_bin .geq fiGeq v w fun r=>k r h .free
 | .eqv neg t x y=>e.opd x fun v=>e.opd y fun w=>p_eqv neg t v w fun r=>k r h .free
 | .un .not x=>e.opd x fun v=>p_not v fun r=>k r h .free
 | .faddr off x=>e.opd x fun v=>p_faddr off v fun r=>k r h .free
 | .fld false off _ x=>e.opd x fun v=>p_fld v off fun r=>k r h .free
 | .iaddr es x i=>e.opd x fun v=>e.opd i fun i=>p_iaddr es v i fun r=>k r h .free
 | .idxs x i=>e.opd x fun v=>e.opd i fun i=>p_idxs v i fun r=>k r h .free
 | .ext x i=>e.opd x fun v=>p_ext v i fun r=>k r h .free
 | .lenS x=>e.opd x fun v=>p_lenS v fun r=>k r h .free
 | .lenL x=>e.opd x fun v=>p_lenL v fun r=>k r h .free
 | .mkfn fn fs cs=>e.opds fs fun vs=>e.opds cs fun ws=>k (.func fn vs ws) h .free
 | .mkif t x=>e.opd x fun v=>k (.iface t v) h .free
 | .box x=>e.opd x fun v=>p_box v h fun r h'=>k r h' .new
 | .build zs ps=>e.parts ps fun l=>onFill l zs fun cs=>k (.agg cs) h .free
 | .bslice es zs len ps=>e.parts ps fun l=>onFill l zs fun cs=>ifB (flatsQ cs) (k (.slice h.n (nat_lit 0) len len true) (alQ h (.cells .own es cs)) .new) false
 | .sls x lo none=>e.opd x fun v=>asStr (fun s=>e.bound lo 0 (lenB s) fun l=>k (.str (dropC s l)) h .free) v
 | .sls x lo (some hi)=>e.opd x fun v=>asStr (fun s=>e.opd hi fun w=>onBnd w (lenB s) fun hh=>e.bound lo 0 hh fun l=>k (.str (takeQ (dropC s l) (Nat.sub hh l))) h .free) v
 | .idxa false len n x i=>e.opd x fun v=>e.opd i fun w=>p_idxa1 len n v w fun r=>k r h .free
 | .idxa true len n x i=>e.opd x fun v=>e.opd i fun w=>p_idxaN len n v w fun r=>k r h .free
 | .cvi kd x=>e.opd x fun v=>p_cvi kd v fun r=>k r h .free
 | .append md es b s x=>e.opd s fun v=>e.opd x fun w=>p_append md es b v w h fun r h'=>k r h' .big
 | .call f args=>e.opds args fun vs=>call f vs h (fun v h'=>k v h' .big) kp
 | .callv f args=>e.opd f fun fv=>e.opds args fun vs=>p_fn fv fun f fs cs=>call f (appL fs (appL vs cs)) h (fun v h'=>k v h' .big) kp
 | .defer f=>e.opd f fun fv=>p_fn fv fun f fs cs=>kd f (appL fs cs)
 | .panic x=>e.opd x fun v=>asIf (fun t x=>kp (.iface t x) h) v
 | op=>e.tmps op.opds fun l=>p_gen op l h k
theorem p_fn_of {v:AV} {K:FuncId→List AV→List AV→Bool} (h:p_fn v K=true):∃f a b,v=.func (.func f) a b∧K f a b=true:=by
 obtain ⟨g,a,b,rfl,h⟩:=asFunc_of h
 cases g with
 | func f=>exact ⟨f,a,b,rfl,h⟩
 | _=>cases h
section
variable {F:FT} {call:FCall} {e:FEnv} {a:AAct} {h:AHeap} {k:AV→AHeap→Cls→Bool} {kp:AV→AHeap→Bool} {kd:FuncId→List AV→Bool}
def OpQ (F:FT) (a:AAct) (h:AHeap) (k:AV→AHeap→Cls→Bool) (kp:AV→AHeap→Bool) (kd:FuncId→List AV→Bool) (op:MOp):Prop:=
 match op.isCall with
 | true=>WCall F (calleeA a op) h (resB (fun v h'=>k v h' .big) kp)
 | false=>ResQ k kp kd (evO a op h)
theorem ResQ.val {x:AV} {h':AHeap} {c:Cls} {r:Option Res} (e:r=some (.v x h' c)) (q:k x h' c=true):ResQ k kp kd r:=.inl ⟨x,h',c,e,q⟩
theorem gen_ok {op:MOp} (ok:e.ok a) (hc:op.isCall=false) (w:(e.tmps op.opds fun l=>p_gen op l h k)=true):OpQ F a h k kp kd op:=by
 obtain ⟨vs,h1,h2⟩:=FEnv.tmps_of w
 have h3:=onRes_of (kp:=kp) (kd:=kd) h2
 rw[evOpK_eq,evOp_congr (b:=a) (h1 a ok)] at h3
 unfold OpQ
 rw[hc]
 exact h3
theorem bin_ok {op:BinOp} {x y:Opd} {r:AV} (h1:binA op (a.eval x) (a.eval y)=some r) (h2:k r h .free=true):OpQ F a h k kp kd (.bin op x y):=
 .val (x:=r) (h':=h) (c:=.free) (by simp only[evO,evOp,h1]) h2
theorem fiBin_ok {op:BinOp} {fi:IntKind→Int→Int→AV} (hf:FiOk op fi) {x y:Opd} (ok:e.ok a) (w:(e.opd x fun v=>e.opd y fun w=>p_bin op fi v w fun r=>k r h .free)=true):OpQ F a h k kp kd (.bin op x y):=by
 obtain ⟨v,h1,w⟩:=FEnv.opd_of w
 obtain ⟨u,h2,w⟩:=FEnv.opd_of w
 obtain ⟨r,h3,w⟩:=p_bin_of hf w
 exact bin_ok (by rw[h1 a ok,h2 a ok];exact h3) w
theorem feOp_ok (hcall:FCallOk F call) (ok:e.ok a):∀{op:MOp},feOp call op e h k kp kd=true→OpQ F a h k kp kd op:=by
 intro op w
 unfold feOp at w
 split at w
 ·
  obtain ⟨v,h1,w⟩:=FEnv.opd_of w
  exact .val (by simp only[evO,evOp];rw[h1 a ok]) w
 ·
  obtain ⟨c,h1,w⟩:=FEnv.opd_of w
  obtain ⟨x,h2,w⟩:=FEnv.opd_of w
  obtain ⟨y,h3,w⟩:=FEnv.opd_of w
  obtain ⟨b,rfl,w1⟩:=asBool_of w
  exact .val (by simp only[evO,evOp,h1 a ok,h2 a ok,h3 a ok,pickV_eq]) w1
 ·
  rw[alQ_eq] at w
  exact .val (by simp only[evO,evOp]) w
 ·
  obtain ⟨v,h1,w⟩:=FEnv.opd_of w
  obtain ⟨b,o,ver,md,es,vs,cs,rfl,h2,h3,w⟩:=p_loadN_of w
  exact .val (by simp only[evO,evOp,h1 a ok,h2,h3,cond_true]) w
 ·
  obtain ⟨v,h1,w⟩:=FEnv.opd_of w
  obtain ⟨b,o,ver,md,es,vs,x,rfl,h2,h3,w⟩:=p_load1_of w
  exact .val (by simp only[evO,evOp,h1 a ok,h2,h3,cond_false]) w
 ·
  obtain ⟨v,h1,w⟩:=FEnv.opd_of w
  obtain ⟨u,h2,w⟩:=FEnv.opd_of w
  obtain ⟨b,o,ver,md,es,vs,vs',rfl,h3,h4,h5,h7,h6,w⟩:=p_store_of w
  exact .val (by simp only[evO,evOp,h1 a ok,h2 a ok,h3,h4,h5,h6,h7,Bool.not_true,Bool.or_self,cond_false]) w
 ·
  obtain ⟨v,h1,w⟩:=FEnv.opd_of w
  obtain ⟨h2,w⟩:=asNil_of w
  rcases h2 with ⟨b,o,rfl⟩|⟨t,x,rfl⟩
  ·exact .val (by simp only[evO,evOp,h1 a ok]) w
  ·exact .val (by simp only[evO,evOp,h1 a ok]) w
 ·obtain ⟨v,h1,w⟩:=FEnv.opd_of w
  obtain ⟨u,h2,w⟩:=FEnv.opd_of w
  obtain ⟨r,h3,w⟩:=p_add_of w
  exact bin_ok (by rw[h1 a ok,h2 a ok];exact h3) w
 ·exact fiBin_ok fiSub_ok ok w
 ·obtain ⟨v,h1,w⟩:=FEnv.opd_of w
  obtain ⟨u,h2,w⟩:=FEnv.opd_of w
  obtain ⟨r,h3,w⟩:=p_eq_of w
  exact bin_ok (by rw[h1 a ok,h2 a ok];exact h3) w
 ·exact fiBin_ok fiNeq_ok ok w
 ·exact fiBin_ok fiLss_ok ok w
 ·exact fiBin_ok fiLeq_ok ok w
 ·exact fiBin_ok fiGtr_ok ok w
 ·exact fiBin_ok fiGeq_ok ok w
 ·
  rename_i neg t x y
  obtain ⟨v,h1,w⟩:=FEnv.opd_of w
  obtain ⟨u,h2,w⟩:=FEnv.opd_of w
  unfold p_eqv at w
  rw[eqTK_eq] at w
  cases q:eqT t v u with
  | none=>rw[q] at w;exact Bool.noConfusion (show false=true from w)
  | some b=>
   rw[q] at w
   refine .val (x:=.bool (bif neg then !b else b)) (h':=h) (c:=.free) (by simp only[evO,evOp,h1 a ok,h2 a ok,q]) ?_
   cases neg<;>cases b<;>exact w
 ·
  obtain ⟨v,h1,w⟩:=FEnv.opd_of w
  obtain ⟨b,rfl,w⟩:=asBool_of w
  refine .val (x:=.bool (!b)) (h':=h) (c:=.free) (by simp only[evO,evOp,h1 a ok,unA]) ?_
  cases b<;>exact w
 ·
  obtain ⟨v,h1,w⟩:=FEnv.opd_of w
  obtain ⟨b,o,rfl,w⟩:=asPtr_of w
  exact .val (by simp only[evO,evOp,h1 a ok];rfl) w
 ·
  obtain ⟨v,h1,w⟩:=FEnv.opd_of w
  obtain ⟨l,rfl,w⟩:=asAgg_of w
  obtain ⟨x,h2,w⟩:=onNth_of w
  exact .val (by simp only[evO,evOp,h1 a ok,h2,cond_false]) w
 ·
  obtain ⟨v,h1,w⟩:=FEnv.opd_of w
  obtain ⟨i,h2,w⟩:=FEnv.opd_of w
  rcases asSl_of w with ⟨b,o,l,c,x,rfl,w⟩|⟨_,w⟩
  ·obtain ⟨ki,n,rfl,w⟩:=asInt_of w
   obtain ⟨h3,w⟩:=onIn_of w
   exact .val (by simp only[evO,evOp,h1 a ok,h2 a ok,h3,cond_true];rfl) w
  ·cases w
 ·
  obtain ⟨v,h1,w⟩:=FEnv.opd_of w
  obtain ⟨i,h2,w⟩:=FEnv.opd_of w
  obtain ⟨s,rfl,w⟩:=asStr_of w
  obtain ⟨ki,n,rfl,w⟩:=asInt_of w
  obtain ⟨h3,w⟩:=onNat_of w
  obtain ⟨c,h4,w⟩:=onHd_of w
  exact .val (by simp only[evO,evOp,h1 a ok,h2 a ok,h3,h4,cond_true];rfl) w
 ·
  obtain ⟨v,h1,w⟩:=FEnv.opd_of w
  obtain ⟨l,rfl,w⟩:=asTup_of w
  obtain ⟨x,h2,w⟩:=onNth_of w
  exact .val (by simp only[evO,evOp,h1 a ok,h2]) w
 ·
  obtain ⟨v,h1,w⟩:=FEnv.opd_of w
  obtain ⟨s,rfl,w1⟩:=asStr_of w
  rw[lenB_eq] at w1
  exact .val (by simp only[evO,evOp,h1 a ok];rfl) w1
 ·
  obtain ⟨v,h1,w⟩:=FEnv.opd_of w
  rcases asSl_of w with ⟨b,o,l,c,x,rfl,w⟩|⟨rfl,w⟩
  ·exact .val (by simp only[evO,evOp,h1 a ok];rfl) w
  ·exact .val (by simp only[evO,evOp,h1 a ok];rfl) w
 ·
  obtain ⟨vs,h1,w⟩:=FEnv.opds_of w
  obtain ⟨us,h2,w⟩:=FEnv.opds_of w
  exact .val (by simp only[evO,evOp,h1 a ok,h2 a ok]) w
 ·
  obtain ⟨v,h1,w⟩:=FEnv.opd_of w
  exact .val (by simp only[evO,evOp,h1 a ok]) w
 ·
  obtain ⟨v,h1,w⟩:=FEnv.opd_of w
  obtain ⟨h2,w⟩:=ifB_true w
  rw[flatsQ_eq,cellsQ_eq] at h2
  rw[alQ_eq,cellsQ_eq] at w
  exact .val (by simp only[evO,evOp,h1 a ok,h2,cond_true]) w
 ·
  obtain ⟨vs,h1,w⟩:=FEnv.parts_of w
  rw[←h1 a ok] at w
  obtain ⟨cs,h2,w⟩:=onFill_of w
  exact .val (by simp only[evO,evOp,h2]) w
 ·
  obtain ⟨vs,h1,w⟩:=FEnv.parts_of w
  rw[←h1 a ok] at w
  obtain ⟨cs,h2,w⟩:=onFill_of w
  obtain ⟨h3,w⟩:=ifB_true w
  rw[flatsQ_eq] at h3
  rw[alQ_eq] at w
  exact .val (by simp only[evO,evOp,h2,h3,cond_true]) w
 ·
  obtain ⟨v,h1,w⟩:=FEnv.opd_of w
  obtain ⟨s,rfl,w1⟩:=asStr_of w
  obtain ⟨l,h3,w3⟩:=FEnv.bound_of w1
  rw[dropC_eq] at w3
  have h3':=h3 a ok
  rw[lenB_eq] at h3'
  exact .val (by
   have e0:bnd (none:Option AV) s.length s.length=some s.length:=rfl
   simp only[evO,evOp,h1 a ok,Option.map_none,e0,h3']
   rw[List.take_of_length_le (by rw[List.length_drop];exact Nat.le_refl _)]) w3
 ·obtain ⟨v,h1,w⟩:=FEnv.opd_of w
  obtain ⟨s,rfl,w1⟩:=asStr_of w
  obtain ⟨u,h2,w2⟩:=FEnv.opd_of w1
  obtain ⟨hh,h4,w2⟩:=onBnd_of (d:=s.length) w2
  obtain ⟨l,h3,w3⟩:=FEnv.bound_of w2
  rw[takeQ_eq,dropC_eq] at w3
  rw[lenB_eq] at h4
  exact .val (by simp only[evO,evOp,h1 a ok,Option.map_some,h2 a ok,h4,h3 a ok];rfl) w3
 ·
  obtain ⟨v,h1,w⟩:=FEnv.opd_of w
  obtain ⟨i,h2,w⟩:=FEnv.opd_of w
  obtain ⟨cs,rfl,w⟩:=asAgg_of w
  obtain ⟨ki,n,rfl,w⟩:=asInt_of w
  obtain ⟨h3,w⟩:=onIn_of w
  obtain ⟨x,h4,w⟩:=onNth_of w
  exact .val (by simp only[evO,evOp,h1 a ok,h2 a ok,h3,cond_true,cond_false];rw[show cs[n.toNat*_]?=some x from h4]) w
 ·obtain ⟨v,h1,w⟩:=FEnv.opd_of w
  obtain ⟨i,h2,w⟩:=FEnv.opd_of w
  obtain ⟨cs,rfl,w⟩:=asAgg_of w
  obtain ⟨ki,n,rfl,w⟩:=asInt_of w
  obtain ⟨h3,w⟩:=onIn_of w
  obtain ⟨x,h4,w⟩:=onRow_of w
  exact .val (by simp only[evO,evOp,h1 a ok,h2 a ok,h3,cond_true];rw[show row cs (n.toNat*_) _=some x from h4]) w
 ·
  obtain ⟨v,h1,w⟩:=FEnv.opd_of w
  obtain ⟨ki,n,rfl,w1⟩:=asInt_of w
  rw[wrK_eq] at w1
  exact .val (by simp only[evO,evOp,h1 a ok]) w1
 ·
  obtain ⟨v,h1,w⟩:=FEnv.opd_of w
  obtain ⟨u,h2,w⟩:=FEnv.opd_of w
  obtain ⟨hm,w⟩:=ifB_true w
  obtain ⟨n,new,h3,w⟩:=onElems_of w
  obtain ⟨r,h',h4,w⟩:=p_app2_of (mineQ_of hm) w
  exact .val (by simp only[evO,evOp,h1 a ok,h2 a ok,h3,h4]) w
 ·
  obtain ⟨vs,h1,w⟩:=FEnv.opds_of w
  have:=hcall _ _ _ _ _ w
  rw[←h1 a ok] at this
  show WCall F (calleeA a (.call _ _)) h _
  simp only[calleeA,WCall_some]
  exact this
 ·
  rename_i f args
  obtain ⟨fv,h1,w⟩:=FEnv.opd_of w
  obtain ⟨vs,h2,w⟩:=FEnv.opds_of w
  obtain ⟨g,fs,cs,rfl,w1⟩:=p_fn_of w
  rw[appL_eq,appL_eq] at w1
  have:=hcall _ _ _ _ _ w1
  show WCall F (calleeA a (.callv f args)) h _
  simp only[calleeA,h1 a ok,h2 a ok,WCall_some]
  exact this
 ·
  obtain ⟨fv,h1,w⟩:=FEnv.opd_of w
  obtain ⟨g,fs,cs,rfl,w1⟩:=p_fn_of w
  rw[appL_eq] at w1
  exact .inr (.inr ⟨g,fs++cs,by simp only[evO,evOp,h1 a ok],w1⟩)
 ·
  obtain ⟨v,h1,w⟩:=FEnv.opd_of w
  obtain ⟨t,x,rfl,w1⟩:=asIf_of w
  exact .inr (.inl ⟨.iface t x,h,by simp only[evO,evOp,h1 a ok],w1⟩)
 ·rename_i hn1 hn2 _ _
  refine gen_ok ok ?_ w
  cases op<;>first|rfl|(exact absurd rfl (hn1 _ _))|(exact absurd rfl (hn2 _ _))
end
end Go.Ev
namespace Go.Ev
open Go
def rdM:Opd→Nat
 | .t i=>2^i
 | .c _=>0
def dstM:Option Nat→Nat
 | some d=>2^d
 | none=>0
def guardM:Option (Nat×Bool)→Nat
 | some (t,_)=>2^t
 | none=>0
def operLive (o:MOper) (out:Nat):Nat:=(out ^^^ (out &&& dstM o.dst)) ||| o.op.opds.foldl (fun m x=>m ||| rdM x) (guardM o.guard)
def live (ret:Nat):MCode→(Nat→Nat)→Nat→Nat
 | .skip,_,out=>out
 | .reg l,_,out=>l.foldr operLive out
 | .regD l,_,out=>l.foldr (fun x m=>operLive x.2 m) out
 | .seq x y,X,out=>live ret x X (live ret y X out)
 | .cond c x y,X,out=>rdM c ||| live ret x X out ||| live ret y X out
 | .block id x,X,out=>live ret x (fun i=>bif i.beq id then out else X i) out
 | .loop x,X,_=>live ret x X (live ret x X (live ret x X 0))
 | .exit id,X,_=>X id
 | .ret,_,_=>ret
def DS:MCode→Nat
 | .reg l=>l.foldl (fun m o=>m ||| dstM o.dst) 0
 | .regD l=>l.foldl (fun m o=>m ||| dstM o.2.dst) 0
 | .seq x y=>DS x ||| DS y
 | .cond _ x y=>DS x ||| DS y
 | .block _ x=>DS x
 | .loop x=>DS x
 | _=>0
def isDefer:MOp→Bool
 | .defer _=>true
 | _=>false
def within1 (M:Nat) (D:Bool) (o:MOper):Bool:=(match o.dst with|some d=>M.testBit d|none=>true)&&(D||!isDefer o.op)
def within (M:Nat) (D:Bool):MCode→Bool
 | .reg l=>l.all (within1 M D)
 | .regD l=>l.all fun x=>within1 M D x.2
 | .seq x y=>within M D x&&within M D y
 | .cond _ x y=>within M D x&&within M D y
 | .block _ x=>within M D x
 | .loop x=>within M D x
 | _=>true
def bitsL (n m:Nat):List Nat:=(List.range n).filter fun i=>m.testBit i
def sub (m M:Nat):Bool:=(m &&& M).beq m
theorem sub_of {m M i:Nat} (h:sub m M=true) (hi:m.testBit i=true):M.testBit i=true:=by
 have h1:m &&& M=m:=Nat.eq_of_beq_eq_true h
 rw[←h1,Nat.testBit_and,Bool.and_eq_true] at hi
 exact hi.2
abbrev cB (b x y:Bool):Bool:=match b with|true=>x|false=>y
abbrev FEnv.vals (e:FEnv):List Nat→(List AV→Bool)→Bool
 | [],f=>f []
 | i::r,f=>e.opd (.t i) fun v=>e.vals r fun vs=>f (v::vs)
theorem FEnv.vals_of {e:FEnv}:∀{L:List Nat} {f:List AV→Bool},e.vals L f=true→∃xs,(∀j i,L[j]?=some i→e.v i=some (nthV xs j))∧f xs=true
 | [],f,h=>⟨[],fun j i q=>by simp at q,h⟩
 | i::r,f,h=>by
  have h':(match e.v i with|some v=>e.vals r fun vs=>f (v::vs)|none=>false)=true:=h
  cases hv:e.v i with
  | none=>rw[hv] at h';cases h'
  | some v=>
   rw[hv] at h'
   obtain ⟨vs,h3,h4⟩:=FEnv.vals_of h'
   refine ⟨v::vs,fun j i' q=>?_,h4⟩
   cases j with
   | zero=>
    simp at q
    subst q
    exact hv
   | succ j=>exact h3 j i' (by simpa using q)
noncomputable abbrev findL (xs:List AV) (i:Nat):List Nat→Nat→Option AV
 | [],_=>none
 | l::r,j=>bif l.beq i then some (nthV xs j) else findL xs i r (j+1)
theorem findL_of {xs:List AV} {i:Nat} {x:AV}:∀{L:List Nat} {j:Nat},findL xs i L j=some x→∃k,L[k]?=some i∧x=nthV xs (j+k)
 | [],j,h=>by cases h
 | l::r,j,h=>by
  unfold findL at h
  by_cases q:l=i
  ·subst q
   rw[Nat.beq_refl] at h
   cases h
   exact ⟨0,by simp,by simp⟩
  ·rw[beqF q] at h
   obtain ⟨k,h1,h2⟩:=findL_of (L:=r) (j:=j+1) h
   exact ⟨k+1,by simpa using h1,by rw[h2];congr 1;omega⟩
noncomputable abbrev FEnv.after (e:FEnv) (M:Nat) (L:List Nat) (xs:List AV):FEnv:=⟨fun i=>bif M.testBit i then findL xs i L 0 else e.v i,e.df⟩
abbrev FEnv.kill (e:FEnv) (l:List (Nat×MOper)):FEnv:=⟨fun i=>bif l.any (fun x=>match x.2.dst with|some d=>d.beq i|none=>false) then none else e.v i,e.df⟩
def Same (M:Nat) (D:Bool) (e e':FEnv):Prop:=(∀i,M.testBit i=false→e'.v i=e.v i)∧(D=false→e'.df=e.df)
theorem Same.refl (M:Nat) (D:Bool) (e:FEnv):Same M D e e:=⟨fun _ _=>rfl,fun _=>rfl⟩
theorem Same.trans {M M':Nat} {D D':Bool} {e e1 e2:FEnv} (s:Same M D e e1) (t:Same M' D' e1 e2) (hM:sub M' M=true) (hD:D'=true→D=true):Same M D e e2:=
 ⟨fun i hi=>(t.1 i (by cases q:M'.testBit i with|false=>rfl|true=>rw[sub_of hM q] at hi;cases hi)).trans (s.1 i hi),
  fun hd=>(t.2 (by cases D' with|false=>rfl|true=>rw[hD rfl] at hd;cases hd)).trans (s.2 hd)⟩
theorem Same.put {M:Nat} {D:Bool} {e e1:FEnv} (s:Same M D e e1) {o:MOper} (hw:within1 M D o=true) (x:AV):Same M D e (e1.put o.dst x):=by
 unfold within1 at hw
 simp only[Bool.and_eq_true] at hw
 cases hd:o.dst with
 | none=>exact s
 | some d=>
  rw[hd] at hw
  refine ⟨fun i hi=>?_,s.2⟩
  show (bif i.beq d then some x else e1.v i)=_
  rw[beqF (fun q=>by subst q;have h1:M.testBit i=true:=hw.1;rw[h1] at hi;cases hi)]
  exact s.1 i hi
theorem Same.defer {M:Nat} {D:Bool} {e e1:FEnv} (s:Same M D e e1) {o:MOper} (hw:within1 M D o=true) (ho:isDefer o.op=true) (g:FuncId) (as:List AV):Same M D e (e1.defer g as):=by
 unfold within1 at hw
 simp only[Bool.and_eq_true,ho,Bool.not_true,Bool.or_false] at hw
 exact ⟨s.1,fun q=>by rw[hw.2] at q;cases q⟩
theorem Same.after {M:Nat} {D:Bool} (e:FEnv) (L:List Nat) (xs:List AV):Same M D e (e.after M L xs):=
 ⟨fun i hi=>by show (bif M.testBit i then _ else _)=_;rw[hi];rfl,fun _=>rfl⟩
theorem after_ok {M:Nat} {L:List Nat} {xs:List AV} {e e':FEnv} {a:AAct} (ok:e'.ok a) (s:Same M false e e') (hv:∀j i,L[j]?=some i→e'.v i=some (nthV xs j)):(e.after M L xs).ok a:=by
 refine ⟨fun i x hx=>?_,?_⟩
 ·have h:(bif M.testBit i then findL xs i L 0 else e.v i)=some x:=hx
  cases q:M.testBit i with
  | true=>
   rw[q] at h
   obtain ⟨k,h1,h2⟩:=findL_of (show findL xs i L 0=some x from h)
   subst h2
   rw[Nat.zero_add]
   exact ok.1 i _ (hv k i h1)
  | false=>
   rw[q] at h
   refine ok.1 i x ?_
   rw[s.1 i q]
   exact h
 ·rw[ok.2]
  exact s.2 rfl
theorem kill_ok {e:FEnv} {a:AAct} (ok:e.ok a) (l:List (Nat×MOper)):(e.kill l).ok ⟨dels l a.tm,a.df⟩:=by
 refine ⟨fun i x hx=>?_,ok.2⟩
 have h:(bif l.any (fun x=>match x.2.dst with|some d=>d.beq i|none=>false) then none else e.v i)=some x:=hx
 cases q:l.any (fun x=>match x.2.dst with|some d=>d.beq i|none=>false) with
 | true=>rw[q] at h;cases h
 | false=>
  rw[q] at h
  have h1:=ok.1 i x h
  have key:∀(l:List (Nat×MOper)) (t:Tr AV),l.any (fun x=>match x.2.dst with|some d=>d.beq i|none=>false)=false→(dels l t).get i=t.get i:=by
   intro l
   induction l with
   | nil=>intro t _;rfl
   | cons y l ih=>
    intro t hq
    obtain ⟨j,o⟩:=y
    simp only[List.any_cons,Bool.or_eq_false_iff] at hq
    show (dels l (match o.dst with|some d=>t.del d|none=>t)).get i=_
    rw[ih _ hq.2]
    cases hd:o.dst with
    | none=>rfl
    | some d=>
     rw[hd] at hq
     show (t.del d).get i=_
     rw[Tr.get_del,if_neg]
     intro e
     subst e
     have h2:i.beq i=false:=hq.1
     rw[Nat.beq_refl] at h2
     cases h2
  show (dels l a.tm).get i=_
  rw[key l _ q]
  exact h1
noncomputable def joinV (G:(AV→AHeap→Bool)→Bool) (K:AV→AHeap→Bool):Bool:=G K
noncomputable def joinL (G:(List AV→AHeap→Bool)→Bool) (K:List AV→AHeap→Bool):Bool:=G K
noncomputable def joinC (G:(AV→AHeap→Cls→AHeap→Bool)→Bool) (K:AV→AHeap→Cls→AHeap→Bool):Bool:=G K
noncomputable abbrev p_want (w:Bool) (g:AV) (X Y:Bool):Bool:=match w with|true=>p_yes g X Y|false=>p_no g X Y
def wantV (w:Bool):AV→Bool
 | .bool b=>b==w
 | _=>false
theorem p_want_of {w:Bool} {g:AV} {X Y:Bool} (h:p_want w g X Y=true):wantV w g=true∧X=true∨wantV w g=false∧Y=true:=by
 cases w with
 | true=>
  rcases asBoolD_of (show p_yes g X Y=true from h) with ⟨b,rfl,h⟩|⟨h1,h⟩
  ·rcases ifB_of h with ⟨rfl,h⟩|⟨rfl,h⟩
   ·exact .inl ⟨rfl,h⟩
   ·exact .inr ⟨rfl,h⟩
  ·refine .inr ⟨?_,h⟩
   cases g<;>first|rfl|exact absurd rfl (h1 _)
 | false=>
  rcases asBoolD_of (show p_no g X Y=true from h) with ⟨b,rfl,h⟩|⟨h1,h⟩
  ·rcases ifB_of h with ⟨rfl,h⟩|⟨rfl,h⟩
   ·exact .inr ⟨rfl,h⟩
   ·exact .inl ⟨rfl,h⟩
  ·refine .inr ⟨?_,h⟩
   cases g<;>first|rfl|exact absurd rfl (h1 _)
noncomputable abbrev feOps (call:FCall):List MOper→FEnv→AHeap→(FEnv→AHeap→Bool)→(AV→FEnv→AHeap→Bool)→Bool
 | [],e,h,kn,_=>kn e h
 | o::r,e,h,kn,kp=>match o.guard with
  | none=>feOp call o.op e h (fun x h' _=>feOps call r (e.put o.dst x) h' kn kp) (fun x h'=>kp x e h') (fun g as=>cB (isDefer o.op) (feOps call r ((e.defer g as).put o.dst undefA) h kn kp) false)
  | some (t,want)=>e.opd (.t t) fun g=>joinV (fun j=>p_want want g (feOp call o.op e h (fun x h' _=>j x h') (fun x h'=>kp x e h') (fun _ _=>false)) (j undefA h)) (fun x h'=>feOps call r (e.put o.dst x) h' kn kp)
def PostF (e0:FEnv) (M:Nat) (D:Bool) (kn:FEnv→AHeap→Bool) (kx:Nat→FEnv→AHeap→Bool) (kr:FEnv→AHeap→Bool) (kp:AV→FEnv→AHeap→Bool):Post:=fun ex a h=>
 ∃e,e.ok a∧Same M D e0 e∧(match ex with|.norm=>kn e h|.exit i=>kx i e h|.ret=>kr e h|.pan v=>kp v e h)=true
section
variable {F:FT} {call:FCall} {M:Nat} {D:Bool} {e0:FEnv} {kn:FEnv→AHeap→Bool} {kx:Nat→FEnv→AHeap→Bool} {kr:FEnv→AHeap→Bool} {kp:AV→FEnv→AHeap→Bool}
theorem wanted_yes {a:AAct} {t:Nat} {want:Bool} {g:AV} (h:a.tm.get t=some g):wantedA a (some (t,want))=wantV want g:=by
 show (match a.tm.get t with|some (.bool b)=>b==want|_=>false)=_
 rw[h]
 cases g<;>rfl
theorem kindP_of {f:AAct→AHeap→Post→Prop} {d:Option Nat} {op:MOp} {a:AAct} {h:AHeap} {K:Post} {k:AV→AHeap→Cls→Bool} {kp':AV→AHeap→Bool} {kd:FuncId→List AV→Bool}
  (w:OpQ F a h k kp' kd op) (hv:∀x h' c,k x h' c=true→f (a.put d x) h' K) (hp:∀x h',kp' x h'=true→K (.pan x) a h') (hd:∀g as,kd g as=true→f (AAct.put ⟨a.tm,(g,as)::a.df⟩ d undefA) h K) :
  kindP F f op.isCall d op a h K:=by
 unfold OpQ at w
 cases hc:op.isCall with
 | true=>
  rw[hc] at w
  rw[kindP_true]
  refine w.mono ?_
  intro r h' hr
  cases r with
  | ret v=>rw[callP_ret];exact hv _ _ _ hr
  | pan v=>rw[callP_pan];exact hp _ _ hr
 | false=>
  rw[hc] at w
  rw[kindP_false]
  rcases w with ⟨x,h',c,e,q⟩|⟨x,h',e,q⟩|⟨g,as,e,q⟩
  ·rw[e,opP_v];exact hv _ _ _ q
  ·rw[e,opP_pan];exact hp _ _ q
  ·rw[e,opP_df];exact hd _ _ q
theorem feOps_ok (hcall:FCallOk F call):∀(l:List MOper) (e:FEnv) (a:AAct) (h:AHeap),l.all (within1 M D)=true→e.ok a→Same M D e0 e→feOps call l e h kn kp=true→wpOps F l a h (PostF e0 M D kn kx kr kp)
 | [],e,a,h,_,ok,s,w=>by
  rw[wpOps_nil]
  exact ⟨e,ok,s,w⟩
 | o::r,e,a,h,hw,ok,s,w=>by
  simp only[List.all_cons,Bool.and_eq_true] at hw
  obtain ⟨hw1,hw2⟩:=hw
  obtain ⟨d,op,g,b⟩:=o
  rw[wpOps_cons]
  cases g with
  | none=>
   rw[wanted_none,wantP_yes]
   have w':feOp call op e h (fun x h' _=>feOps call r (e.put d x) h' kn kp) (fun x h'=>kp x e h') (fun g as=>cB (isDefer op) (feOps call r ((e.defer g as).put d undefA) h kn kp) false)=true:=w
   refine kindP_of (feOp_ok hcall ok w') ?_ ?_ ?_
   ·exact fun x h' c q=>feOps_ok hcall r _ _ _ hw2 (ok.put d x) (s.put hw1 x) q
   ·exact fun x h' q=>⟨e,ok,s,q⟩
   ·intro g as q
    cases hd:isDefer op with
    | false=>rw[hd] at q;cases q
    | true=>
     rw[hd] at q
     exact feOps_ok hcall r _ _ _ hw2 ((ok.defer g as).put d undefA) ((s.defer hw1 hd g as).put hw1 undefA) q
  | some tw=>
   obtain ⟨t,want⟩:=tw
   obtain ⟨gv,hg,w1⟩:=FEnv.opdT_of (show e.opd (.t t) _=true from w)
   have w2:=p_want_of (show p_want want gv _ _=true from w1)
   rw[wanted_yes (hg a ok)]
   rcases w2 with ⟨q,w2⟩|⟨q,w2⟩
   ·rw[q,wantP_yes]
    refine kindP_of (feOp_ok hcall ok w2) ?_ ?_ ?_
    ·exact fun x h' c q=>feOps_ok hcall r _ _ _ hw2 (ok.put d x) (s.put hw1 x) q
    ·exact fun x h' q=>⟨e,ok,s,q⟩
    ·intro g as q
     cases q
   ·rw[q,wantP_no]
    exact feOps_ok hcall r _ _ _ hw2 (ok.put d undefA) (s.put hw1 undefA) w2
def clsFree:MOp→Bool
 | .mov _=>true
 | .pick _ _ _=>true
 | .nilck _=>true
 | .bin _ _ _=>true
 | .eqv _ _ _ _=>true
 | .un _ _=>true
 | .cvi _ _=>true
 | .mkif _ _=>true
 | .mkfn _ _ _=>true
 | .faddr _ _=>true
 | .fld _ _ _ _=>true
 | .iaddr _ _ _=>true
 | .idxs _ _=>true
 | .ext _ _=>true
 | .lenS _=>true
 | .lenL _=>true
 | _=>false
noncomputable def okAll (k:Cls) (hb ha:AHeap):List Rec→Bool
 | []=>true
 | r::rs=>ifB (compat r k hb ha) (okAll k hb ha rs) false
def filtR (bef:Nat):List Rec→List Rec
 | []=>[]
 | r::rs=>bif bef.testBit r.i then filtR bef rs else r::filtR bef rs
theorem okAll_of {bef:Nat} {k:Cls} {hb ha:AHeap}:∀{rs:List Rec},okAll k hb ha (filtR bef rs)=true→okWith bef k hb ha rs=true
 | [],_=>rfl
 | r::rs,h=>by
  unfold filtR at h
  simp only[okWith,Bool.and_eq_true]
  cases q:bef.testBit r.i with
  | true=>
   rw[q] at h
   exact ⟨by simp,okAll_of h⟩
  | false=>
   rw[q] at h
   obtain ⟨h1,h2⟩:=ifB_true (show ifB _ _ _=true from h)
   exact ⟨by rw[h1];rfl,okAll_of h2⟩
noncomputable abbrev okF (op:MOp) (bef:Nat) (k:Cls) (hb ha:AHeap) (rs:List Rec) (K:Bool):Bool:=
 cB (clsFree op) K (match filtR bef rs with
 | []=>K
 | r::l=>ifB (okAll k hb ha (r::l)) K false)
abbrev recF (op:MOp) (r:Rec) (rs:List Rec):List Rec:=bif clsFree op then rs else r::rs
abbrev ifNone (pan:Option (Nat×AV)) (K:Bool):Bool:=match pan with|some _=>false|none=>K
noncomputable abbrev feD (call:FCall) (all:List (Nat×MOper)):List (Nat×MOper)→List Rec→Option (Nat×AV)→FEnv→AHeap→(FEnv→AHeap→Bool)→(AV→FEnv→AHeap→Bool)→Bool
 | [],_,none,e,h,kn,_=>kn e h
 | [],_,some (_,v),e,h,_,kp=>kp v (e.kill all) h
 | (i,o)::r,rs,pan,e,h,kn,kp=>
  cB (skipsD o.bef pan) (feD call all r rs pan e h kn kp) <|
  match o.guard with
  | none=>feOp call o.op e h (fun x h' c=>okF o.op o.bef c h h' rs (feD call all r (recF o.op ⟨i,c,h,h'⟩ rs) pan (e.put o.dst x) h' kn kp))
    (fun x h'=>ifNone pan (okF (.call 0 []) o.bef .big h h' rs (feD call all r (⟨i,.big,h,h'⟩::rs) (some (i,x)) e h' kn kp))) (fun _ _=>false)
  | some (t,want)=>e.opd (.t t) fun g=>joinC (fun j=>p_want want g
     (feOp call o.op e h (fun x h' c=>okF o.op o.bef c h h' rs (j x h' c h)) (fun x h'=>ifNone pan (okF (.call 0 []) o.bef .big h h' rs (feD call all r (⟨i,.big,h,h'⟩::rs) (some (i,x)) e h' kn kp))) (fun _ _=>false))
     (j undefA h .free h))
    (fun x h' c hb=>feD call all r (recF o.op ⟨i,c,hb,h'⟩ rs) pan (e.put o.dst x) h' kn kp)
def SupR (rsF rsW:List Rec):Prop:=∀bef k hb ha,okWith bef k hb ha rsF=true→okWith bef k hb ha rsW=true
theorem SupR.cons {rsF rsW:List Rec} (s:SupR rsF rsW) (r:Rec):SupR (r::rsF) (r::rsW):=fun bef k hb ha h=>by
 simp only[okWith,Bool.and_eq_true] at h ⊢
 exact ⟨h.1,s _ _ _ _ h.2⟩
theorem SupR.more {rsF rsW:List Rec} (s:SupR rsF rsW) (r:Rec):SupR (r::rsF) rsW:=fun bef k hb ha h=>by
 simp only[okWith,Bool.and_eq_true] at h
 exact s _ _ _ _ h.2
theorem okF_of {op:MOp} {bef:Nat} {k:Cls} {hb ha:AHeap} {rs:List Rec} {K:Bool} (h:okF op bef k hb ha rs K=true):K=true∧(clsFree op=false→okWith bef k hb ha rs=true):=by
 unfold okF at h
 cases q:clsFree op with
 | true=>rw[q] at h;exact ⟨h,fun q=>by cases q⟩
 | false=>
  rw[q] at h
  cases hf:filtR bef rs with
  | nil=>
   have h1:(match filtR bef rs with|[]=>K|r::l=>ifB (okAll k hb ha (r::l)) K false)=true:=h
   rw[hf] at h1
   exact ⟨h1,fun _=>okAll_of (by rw[hf];rfl)⟩
  | cons r l=>
   have h1:(match filtR bef rs with|[]=>K|r::l=>ifB (okAll k hb ha (r::l)) K false)=true:=h
   rw[hf] at h1
   obtain ⟨h2,h3⟩:=ifB_true h1
   exact ⟨h3,fun _=>okAll_of (by rw[hf];exact h2)⟩
theorem clsFree_of {op:MOp} (hq:clsFree op=true) {a:AAct} {h h':AHeap} {x:AV} {c:Cls} (he:evO a op h=some (.v x h' c)):c=.free:=by
 cases op<;>first|(cases hq;done)|skip
 all_goals
  simp only[evO,evOp,cond_eq_ite] at he
  repeat' split at he
  all_goals first|(cases he;done)|(cases he;rfl)
theorem recPD_of {f:List Rec→Option (Nat×AV)→AAct→AHeap→Post→Prop} {i bef:Nat} {k:Cls} {a:AAct} {h h':AHeap} {rsF rs:List Rec} {pan:Option (Nat×AV)} {K:Post} (sp:SupR rsF rs) (hf:k≠.free→okWith bef k h h' rsF=true)
  (hk:∀rs',SupR (⟨i,k,h,h'⟩::rsF) rs'→(k=.free→SupR rsF rs')→f rs' pan a h' K):recPD f i bef k a h h' rs pan K:=by
 cases k with
 | free=>rw[recPD_free];exact hk _ (sp.more _) fun _=>sp
 | new=>rw[recPD_new];exact ⟨sp _ _ _ _ (hf (by simp)),hk _ (sp.cons _) fun q=>by cases q⟩
 | rd b=>rw[recPD_rd];exact ⟨sp _ _ _ _ (hf (by simp)),hk _ (sp.cons _) fun q=>by cases q⟩
 | wr b=>rw[recPD_wr];exact ⟨sp _ _ _ _ (hf (by simp)),hk _ (sp.cons _) fun q=>by cases q⟩
 | big=>rw[recPD_big];exact ⟨sp _ _ _ _ (hf (by simp)),hk _ (sp.cons _) fun q=>by cases q⟩
theorem kindPD_of {f:List Rec→Option (Nat×AV)→AAct→AHeap→Post→Prop} {i bef:Nat} {d:Option Nat} {op:MOp} {a:AAct} {h:AHeap} {rs:List Rec} {pan:Option (Nat×AV)} {K:Post} {k:AV→AHeap→Cls→Bool} {kp':AV→AHeap→Bool}
  (w:OpQ F a h k kp' (fun _ _=>false) op) (hv:∀x h' c,k x h' c=true→(clsFree op=true→c=.free)→recPD f i bef c (a.put d x) h h' rs pan K) (hp:∀x h',kp' x h'=true→pan=none∧recPD f i bef .big a h h' rs (some (i,x)) K) :
  kindPD F f op.isCall i bef d op a h rs pan K:=by
 unfold OpQ at w
 cases hc:op.isCall with
 | true=>
  rw[hc] at w
  rw[kindPD_true]
  refine w.mono ?_
  intro r h' hr
  cases r with
  | ret v=>rw[callPD_ret];exact hv _ _ _ hr (fun q=>by cases op<;>first|(cases hc;done)|exact Bool.noConfusion (show false=true from q))
  | pan v=>
   obtain ⟨rfl,h2⟩:=hp _ _ hr
   rw[callPD_pan];exact h2
 | false=>
  rw[hc] at w
  rw[kindPD_false]
  rcases w with ⟨x,h',c,e,q⟩|⟨x,h',e,q⟩|⟨g,as,e,q⟩
  ·rw[e,opPD_v];exact hv _ _ _ q fun hq=>clsFree_of hq e
  ·obtain ⟨rfl,h2⟩:=hp _ _ q
   rw[e,opPD_pan];exact h2
  ·cases q
theorem SupR.rec {op:MOp} {r:Rec} {rsF rs':List Rec} (h1:SupR (r::rsF) rs') (h2:r.k=.free→SupR rsF rs') (hc:clsFree op=true→r.k=.free):SupR (recF op r rsF) rs':=by
 unfold recF
 cases q:clsFree op with
 | true=>exact h2 (hc q)
 | false=>exact h1
noncomputable abbrev feD1 (call:FCall) (all r:List (Nat×MOper)) (i:Nat) (d:Option Nat) (op:MOp) (g:Option (Nat×Bool)) (b:Nat) (rs:List Rec) (pan:Option (Nat×AV)) (e:FEnv) (h:AHeap) (kn:FEnv→AHeap→Bool) (kp:AV→FEnv→AHeap→Bool):Bool:=
 cB (skipsD b pan) (feD call all r rs pan e h kn kp) <|
  match g with
  | none=>feOp call op e h (fun x h' c=>okF op b c h h' rs (feD call all r (recF op ⟨i,c,h,h'⟩ rs) pan (e.put d x) h' kn kp))
    (fun x h'=>ifNone pan (okF (.call 0 []) b .big h h' rs (feD call all r (⟨i,.big,h,h'⟩::rs) (some (i,x)) e h' kn kp))) (fun _ _=>false)
  | some (t,want)=>e.opd (.t t) fun g=>joinC (fun j=>p_want want g
     (feOp call op e h (fun x h' c=>okF op b c h h' rs (j x h' c h)) (fun x h'=>ifNone pan (okF (.call 0 []) b .big h h' rs (feD call all r (⟨i,.big,h,h'⟩::rs) (some (i,x)) e h' kn kp))) (fun _ _=>false))
     (j undefA h .free h))
    (fun x h' c hb=>feD call all r (recF op ⟨i,c,hb,h'⟩ rs) pan (e.put d x) h' kn kp)
theorem feD_cons {call:FCall} {all r:List (Nat×MOper)} {i:Nat} {d:Option Nat} {op:MOp} {g:Option (Nat×Bool)} {b:Nat} {rs:List Rec} {pan:Option (Nat×AV)} {e:FEnv} {h:AHeap} {kn:FEnv→AHeap→Bool} {kp:AV→FEnv→AHeap→Bool} :
  feD call all ((i,⟨d,op,g,b⟩)::r) rs pan e h kn kp=feD1 call all r i d op g b rs pan e h kn kp:=by
 cases pan<;>rfl
theorem feD_ok (hcall:FCallOk F call) (all:List (Nat×MOper)) (hall:all.all (fun x=>within1 M D x.2)=true):∀(l:List (Nat×MOper)) (rsF rs:List Rec) (pan:Option (Nat×AV)) (e:FEnv) (a:AAct) (h:AHeap),l.all (fun x=>within1 M D x.2)=true→SupR rsF rs→e.ok a→Same M D e0 e→feD call all l rsF pan e h kn kp=true→wpD F all l rs pan a h (PostF e0 M D kn kx kr kp)
 | [],rsF,rs,none,e,a,h,_,_,ok,s,w=>by
  rw[wpD_nil]
  exact ⟨e,ok,s,w⟩
 | [],rsF,rs,some (j,v),e,a,h,_,_,ok,s,w=>by
  rw[wpD_nilPan]
  refine ⟨e.kill all,kill_ok ok all,⟨fun i hi=>?_,s.2⟩,w⟩
  show (bif _ then _ else _)=_
  cases q:all.any (fun x=>match x.2.dst with|some d=>d.beq i|none=>false) with
  | false=>exact s.1 i hi
  | true=>
   obtain ⟨x,hx,hq⟩:=List.any_eq_true.1 q
   have h1:=List.all_eq_true.1 hall x hx
   unfold within1 at h1
   simp only[Bool.and_eq_true] at h1
   cases hd:x.2.dst with
   | none=>rw[hd] at hq;cases hq
   | some d=>
    rw[hd] at h1 hq
    obtain rfl:=Nat.eq_of_beq_eq_true hq
    have h2:M.testBit d=true:=h1.1
    rw[h2] at hi
    cases hi
 | (i,o)::r,rsF,rs,pan,e,a,h,hw,sp,ok,s,w=>by
  simp only[List.all_cons,Bool.and_eq_true] at hw
  obtain ⟨hw1,hw2⟩:=hw
  obtain ⟨d,op,g,b⟩:=o
  rw[wpD_cons]
  have w0:=w
  rw[feD_cons] at w0
  unfold feD1 at w0
  cases hs:skipsD b pan with
  | true=>
   rw[hs] at w0
   rw[skipPD_true]
   exact feD_ok hcall all hall r _ _ _ _ _ _ hw2 sp ok s w0
  | false=>
   rw[hs] at w0
   rw[skipPD_false]
   have hpan:∀x h',(ifNone pan (okF (.call 0 []) b .big h h' rsF (feD call all r (⟨i,.big,h,h'⟩::rsF) (some (i,x)) e h' kn kp)))=true→pan=none∧recPD (wpD F all r) i b .big a h h' rs (some (i,x)) (PostF e0 M D kn kx kr kp):=by
    intro x h' q
    cases pan with
    | some _=>cases q
    | none=>
     obtain ⟨q1,q2⟩:=okF_of q
     exact ⟨rfl,recPD_of sp (fun _=>q2 rfl) fun rs' t _=>feD_ok hcall all hall r _ _ _ _ _ _ hw2 t ok s q1⟩
   cases g with
   | none=>
    rw[wanted_none,wantPD_yes]
    have w1:feOp call op e h (fun x h' c=>okF op b c h h' rsF (feD call all r (recF op ⟨i,c,h,h'⟩ rsF) pan (e.put d x) h' kn kp))
     (fun x h'=>ifNone pan (okF (.call 0 []) b .big h h' rsF (feD call all r (⟨i,.big,h,h'⟩::rsF) (some (i,x)) e h' kn kp))) (fun _ _=>false)=true:=w0
    refine kindPD_of (feOp_ok hcall ok w1) ?_ hpan
    intro x h' c q hc
    obtain ⟨q1,q2⟩:=okF_of q
    refine recPD_of sp (fun hne=>q2 (by cases hq:clsFree op with|false=>rfl|true=>exact absurd (hc hq) hne)) fun rs' t1 t2=>?_
    exact feD_ok hcall all hall r _ _ _ _ _ _ hw2 (t1.rec t2 hc) (ok.put d x) (s.put hw1 x) q1
   | some tw=>
    obtain ⟨t,want⟩:=tw
    obtain ⟨gv,hg,w1⟩:=FEnv.opdT_of (show e.opd (.t t) _=true from w0)
    have w2:=p_want_of (show p_want want gv _ _=true from w1)
    rw[wanted_yes (hg a ok)]
    rcases w2 with ⟨q,w2⟩|⟨q,w2⟩
    ·rw[q,wantPD_yes]
     have w3:feOp call op e h (fun x h' c=>okF op b c h h' rsF (feD call all r (recF op ⟨i,c,h,h'⟩ rsF) pan (e.put d x) h' kn kp))
      (fun x h'=>ifNone pan (okF (.call 0 []) b .big h h' rsF (feD call all r (⟨i,.big,h,h'⟩::rsF) (some (i,x)) e h' kn kp))) (fun _ _=>false)=true:=w2
     refine kindPD_of (feOp_ok hcall ok w3) ?_ hpan
     intro x h' c q hc
     obtain ⟨q1,q2⟩:=okF_of q
     refine recPD_of sp (fun hne=>q2 (by cases hq:clsFree op with|false=>rfl|true=>exact absurd (hc hq) hne)) fun rs' t1 t2=>?_
     exact feD_ok hcall all hall r _ _ _ _ _ _ hw2 (t1.rec t2 hc) (ok.put d x) (s.put hw1 x) q1
    ·rw[q,wantPD_no]
     exact feD_ok hcall all hall r _ _ _ _ _ _ hw2 (SupR.rec (sp.more _) (fun _=>sp) (fun _=>rfl)) (ok.put d undefA) (s.put hw1 undefA) w2
end
end Go.Ev
namespace Go.Ev
open Go
noncomputable def loopB (n:Nat) (G:(List AV→AHeap→Bool)→List AV→AHeap→Bool):List AV→AHeap→Bool:=@Nat.rec (fun _=>List AV→AHeap→Bool) (fun _ _=>false) (fun _ ih=>G ih) n
noncomputable abbrev feC (call:FCall) (fuel ret nt:Nat):MCode→Bool→Nat→(Nat→Nat)→FEnv→AHeap→(FEnv→AHeap→Bool)→(Nat→FEnv→AHeap→Bool)→(FEnv→AHeap→Bool)→(AV→FEnv→AHeap→Bool)→Bool
 | .skip,_,_,_,e,h,kn,_,_,_=>kn e h
 | .reg l,_,_,_,e,h,kn,_,_,kp=>feOps call l e h kn kp
 | .regD l,_,_,_,e,h,kn,_,_,kp=>feD call l l [] none e h kn kp
 | .seq x y,big,out,X,e,h,kn,kx,kr,kp=>feC call fuel ret nt x true (live ret y X out) X e h (fun e' h'=>feC call fuel ret nt y big out X e' h' kn kx kr kp) kx kr kp
 | .cond c x y,big,out,X,e,h,kn,kx,kr,kp=>e.opd c fun v=>
  cB big
   (cB (within (DS x ||| DS y) false x&&within (DS x ||| DS y) false y)
    (joinL (fun j=>p_if v (feC call fuel ret nt x false out X e h (fun e' h'=>e'.vals (bitsL nt ((DS x ||| DS y) &&& (out ||| ret))) fun xs=>j xs h') kx kr kp)
      (feC call fuel ret nt y false out X e h (fun e' h'=>e'.vals (bitsL nt ((DS x ||| DS y) &&& (out ||| ret))) fun xs=>j xs h') kx kr kp))
     (fun xs h'=>kn (e.after (DS x ||| DS y) (bitsL nt ((DS x ||| DS y) &&& (out ||| ret))) xs) h'))
    false)
   (p_if v (feC call fuel ret nt x false out X e h kn kx kr kp) (feC call fuel ret nt y false out X e h kn kx kr kp))
 | .block id x,big,out,X,e,h,kn,kx,kr,kp=>
  cB big
   (cB (within (DS x) false x)
    (joinL (fun j=>feC call fuel ret nt x false out (fun i=>bif i.beq id then out else X i) e h (fun e' h'=>e'.vals (bitsL nt (DS x &&& (out ||| ret))) fun xs=>j xs h')
      (fun i e' h'=>cB (i.beq id) (e'.vals (bitsL nt (DS x &&& (out ||| ret))) fun xs=>j xs h') (kx i e' h')) kr kp)
     (fun xs h'=>kn (e.after (DS x) (bitsL nt (DS x &&& (out ||| ret))) xs) h'))
    false)
   (feC call fuel ret nt x false out (fun i=>bif i.beq id then out else X i) e h kn (fun i e' h'=>cB (i.beq id) (kn e' h') (kx i e' h')) kr kp)
 | .loop x,_,_,X,e,h,_,kx,kr,kp=>
  cB (within (DS x) false x)
   (e.vals (bitsL nt (DS x &&& (live ret (.loop x) X 0 ||| ret))) fun xs0=>
    loopB fuel (fun again xs h'=>feC call fuel ret nt x false (live ret (.loop x) X 0) X (e.after (DS x) (bitsL nt (DS x &&& (live ret (.loop x) X 0 ||| ret))) xs) h'
     (fun e' h''=>e'.vals (bitsL nt (DS x &&& (live ret (.loop x) X 0 ||| ret))) fun ys=>again ys h'') kx kr kp) xs0 h)
   false
 | .exit id,_,_,_,e,h,_,kx,_,_=>kx id e h
 | .ret,_,_,_,e,h,_,_,kr,_=>kr e h
theorem foldl_or {α:Type} (f:α→Nat) (i:Nat):∀(l:List α) (m:Nat),(l.foldl (fun m o=>m ||| f o) m).testBit i=true→m.testBit i=true∨∃o∈l,(f o).testBit i=true
 | [],m,h=>.inl h
 | o::l,m,h=>by
  rcases foldl_or f i l _ h with h|⟨o',ho,h⟩
  ·rw[Nat.testBit_or,Bool.or_eq_true] at h
   rcases h with h|h
   ·exact .inl h
   ·exact .inr ⟨o,by simp,h⟩
  ·exact .inr ⟨o',by simp [ho],h⟩
theorem dstM_in {M:Nat} {D:Bool} {o:MOper} (hw:within1 M D o=true) {i:Nat} (hi:(dstM o.dst).testBit i=true):M.testBit i=true:=by
 unfold within1 at hw
 simp only[Bool.and_eq_true] at hw
 cases hd:o.dst with
 | none=>
  rw[hd] at hi
  simp [dstM] at hi
 | some d=>
  rw[hd] at hi hw
  have h1:(2^d).testBit i=true:=hi
  rw[Nat.testBit_two_pow] at h1
  have:d=i:=by simpa using h1
  subst this
  exact hw.1
theorem DS_in {M:Nat} {D:Bool}:∀{c:MCode},within M D c=true→∀i,(DS c).testBit i=true→M.testBit i=true
 | .skip,_,i,h=>by simp [DS] at h
 | .exit _,_,i,h=>by simp [DS] at h
 | .ret,_,i,h=>by simp [DS] at h
 | .reg l,w,i,h=>by
  rcases foldl_or (fun o:MOper=>dstM o.dst) i l 0 h with h|⟨o,ho,h⟩
  ·simp at h
  ·exact dstM_in (List.all_eq_true.1 w o ho) h
 | .regD l,w,i,h=>by
  rcases foldl_or (fun o:Nat×MOper=>dstM o.2.dst) i l 0 h with h|⟨o,ho,h⟩
  ·simp at h
  ·exact dstM_in (List.all_eq_true.1 w o ho) h
 | .seq x y,w,i,h=>by
  simp only[within,Bool.and_eq_true] at w
  simp only[DS,Nat.testBit_or,Bool.or_eq_true] at h
  exact h.elim (DS_in w.1 i) (DS_in w.2 i)
 | .cond _ x y,w,i,h=>by
  simp only[within,Bool.and_eq_true] at w
  simp only[DS,Nat.testBit_or,Bool.or_eq_true] at h
  exact h.elim (DS_in w.1 i) (DS_in w.2 i)
 | .block _ x,w,i,h=>DS_in (c:=x) w i h
 | .loop x,w,i,h=>DS_in (c:=x) w i h
theorem sub_mk {m M:Nat} (h:∀i,m.testBit i=true→M.testBit i=true):sub m M=true:=by
 unfold sub
 rw[Nat.beq_eq]
 refine Nat.eq_of_testBit_eq fun i=>?_
 rw[Nat.testBit_and]
 cases q:m.testBit i with
 | false=>rfl
 | true=>rw[h i q];rfl
section
variable {F:FT} {call:FCall} {fuel ret nt:Nat}
theorem PostF.of {e0 e:FEnv} {M M':Nat} {D D':Bool} {kn kn':FEnv→AHeap→Bool} {kx kx':Nat→FEnv→AHeap→Bool} {kr:FEnv→AHeap→Bool} {kp:AV→FEnv→AHeap→Bool} {ex:AExit} {a:AAct} {h:AHeap}
  (s:Same M D e0 e) (hM:sub M' M=true) (hD:D'=true→D=true) (p:PostF e M' D' kn' kx' kr kp ex a h)
  (hn:ex=.norm→∀e1,e1.ok a→Same M' D' e e1→kn' e1 h=true→PostF e0 M D kn kx kr kp .norm a h) (hx:∀i,ex=.exit i→∀e1,e1.ok a→Same M' D' e e1→kx' i e1 h=true→PostF e0 M D kn kx kr kp (.exit i) a h):PostF e0 M D kn kx kr kp ex a h:=by
 obtain ⟨e1,ok,s1,k⟩:=p
 cases ex with
 | norm=>exact hn rfl e1 ok s1 k
 | exit i=>exact hx i rfl e1 ok s1 k
 | ret=>exact ⟨e1,ok,s.trans s1 hM hD,k⟩
 | pan v=>exact ⟨e1,ok,s.trans s1 hM hD,k⟩
theorem feC_ok (hcall:FCallOk F call):∀(c:MCode) {M:Nat} {D big:Bool} {out:Nat} {X:Nat→Nat} {e0 e:FEnv} {a:AAct} {h:AHeap} {kn:FEnv→AHeap→Bool} {kx:Nat→FEnv→AHeap→Bool} {kr:FEnv→AHeap→Bool} {kp:AV→FEnv→AHeap→Bool},
  within M D c=true→e.ok a→Same M D e0 e→feC call fuel ret nt c big out X e h kn kx kr kp=true→wpC F c a h (PostF e0 M D kn kx kr kp)
 | .skip,M,D,big,out,X,e0,e,a,h,kn,kx,kr,kp,_,ok,s,w=>by
  rw[wpC_skip]
  exact ⟨e,ok,s,w⟩
 | .exit id,M,D,big,out,X,e0,e,a,h,kn,kx,kr,kp,_,ok,s,w=>by
  rw[wpC_exit]
  exact ⟨e,ok,s,w⟩
 | .ret,M,D,big,out,X,e0,e,a,h,kn,kx,kr,kp,_,ok,s,w=>by
  rw[wpC_ret]
  exact ⟨e,ok,s,w⟩
 | .reg l,M,D,big,out,X,e0,e,a,h,kn,kx,kr,kp,hw,ok,s,w=>by
  rw[wpC_reg]
  exact feOps_ok hcall l e a h hw ok s w
 | .regD l,M,D,big,out,X,e0,e,a,h,kn,kx,kr,kp,hw,ok,s,w=>by
  rw[wpC_regD]
  exact feD_ok hcall l hw l [] [] none e a h hw (fun _ _ _ _ h=>h) ok s w
 | .seq x y,M,D,big,out,X,e0,e,a,h,kn,kx,kr,kp,hw,ok,s,w=>by
  simp only[within,Bool.and_eq_true] at hw
  rw[wpC_seq]
  refine wpC_mono _ ?_ _ _ (feC_ok hcall x hw.1 ok s w)
  rintro ex a' h' ⟨e1,ok1,s1,k⟩
  cases ex with
  | norm=>rw[sqP_norm];exact feC_ok hcall y hw.2 ok1 s1 k
  | exit i=>rw[sqP_exit];exact ⟨e1,ok1,s1,k⟩
  | ret=>rw[sqP_ret];exact ⟨e1,ok1,s1,k⟩
  | pan v=>rw[sqP_pan];exact ⟨e1,ok1,s1,k⟩
 | .cond c x y,M,D,big,out,X,e0,e,a,h,kn,kx,kr,kp,hw,ok,s,w=>by
  simp only[within,Bool.and_eq_true] at hw
  rw[wpC_cond]
  obtain ⟨v,hv,w1⟩:=FEnv.opd_of (show e.opd c _=true from w)
  rw[hv a ok]
  cases big with
  | false=>
   obtain ⟨b,rfl,w2⟩:=asBool_of (show p_if v _ _=true from w1)
   rcases ifB_of w2 with ⟨rfl,w2⟩|⟨rfl,w2⟩
   ·rw[condP_true];exact feC_ok hcall x hw.1 ok s w2
   ·rw[condP_false];exact feC_ok hcall y hw.2 ok s w2
  | true=>
   cases hi:within (DS x ||| DS y) false x&&within (DS x ||| DS y) false y with
   | false=>rw[hi] at w1;cases w1
   | true=>
    rw[hi] at w1
    simp only[Bool.and_eq_true] at hi
    obtain ⟨b,rfl,w2⟩:=asBool_of (show p_if v _ _=true from w1)
    have hM:sub (DS x ||| DS y) M=true:=sub_mk fun i q=>by
     rw[Nat.testBit_or,Bool.or_eq_true] at q
     exact q.elim (DS_in hw.1 i) (DS_in hw.2 i)
    have fin:∀ex a' h',PostF e (DS x ||| DS y) false (fun e' h'=>e'.vals (bitsL nt ((DS x ||| DS y) &&& (out ||| ret))) fun xs=>kn (e.after (DS x ||| DS y) (bitsL nt ((DS x ||| DS y) &&& (out ||| ret))) xs) h') kx kr kp ex a' h'→PostF e0 M D kn kx kr kp ex a' h':=by
     intro ex a' h' p
     refine p.of s hM (fun q=>by cases q) ?_ ?_
     ·intro _ e1 ok1 s1 k
      obtain ⟨xs,hxs,k⟩:=FEnv.vals_of k
      exact ⟨_,after_ok ok1 s1 hxs,s.trans (Same.after (D:=false) e _ xs) hM (fun q=>by cases q),k⟩
     ·exact fun i _ e1 ok1 s1 k=>⟨e1,ok1,s.trans s1 hM (fun q=>by cases q),k⟩
    rcases ifB_of w2 with ⟨rfl,w2⟩|⟨rfl,w2⟩
    ·rw[condP_true]
     exact wpC_mono _ fin _ _ (feC_ok hcall x hi.1 ok (Same.refl _ _ _) w2)
    ·rw[condP_false]
     exact wpC_mono _ fin _ _ (feC_ok hcall y hi.2 ok (Same.refl _ _ _) w2)
 | .block id x,M,D,big,out,X,e0,e,a,h,kn,kx,kr,kp,hw,ok,s,w=>by
  have hw:within M D x=true:=hw
  rw[wpC_block]
  cases big with
  | false=>
   refine wpC_mono _ ?_ _ _ (feC_ok hcall x hw ok s (show feC call fuel ret nt x false out _ e h kn (fun i e' h'=>cB (i.beq id) (kn e' h') (kx i e' h')) kr kp=true from w))
   rintro ex a' h' ⟨e1,ok1,s1,k⟩
   cases ex with
   | norm=>rw[blP_norm];exact ⟨e1,ok1,s1,k⟩
   | exit i=>
    rw[blP_exit]
    by_cases q:i=id
    ·subst q
     rw[if_pos rfl]
     have k':(cB (i.beq i) (kn e1 h') (kx i e1 h'))=true:=k
     rw[Nat.beq_refl] at k'
     exact ⟨e1,ok1,s1,k'⟩
    ·rw[if_neg q]
     have k':(cB (i.beq id) (kn e1 h') (kx i e1 h'))=true:=k
     rw[beqF q] at k'
     exact ⟨e1,ok1,s1,k'⟩
   | ret=>rw[blP_ret];exact ⟨e1,ok1,s1,k⟩
   | pan v=>rw[blP_pan];exact ⟨e1,ok1,s1,k⟩
  | true=>
   have w0:(cB (within (DS x) false x) (joinL (fun j=>feC call fuel ret nt x false out (fun i=>bif i.beq id then out else X i) e h (fun e' h'=>e'.vals (bitsL nt (DS x &&& (out ||| ret))) fun xs=>j xs h')
      (fun i e' h'=>cB (i.beq id) (e'.vals (bitsL nt (DS x &&& (out ||| ret))) fun xs=>j xs h') (kx i e' h')) kr kp)
     (fun xs h'=>kn (e.after (DS x) (bitsL nt (DS x &&& (out ||| ret))) xs) h')) false)=true:=w
   cases hi:within (DS x) false x with
   | false=>rw[hi] at w0;cases w0
   | true=>
    rw[hi] at w0
    have hM:sub (DS x) M=true:=sub_mk (DS_in hw)
    refine wpC_mono _ ?_ _ _ (feC_ok hcall x hi ok (Same.refl _ _ _) w0)
    have join:∀e1 a' h',e1.ok a'→Same (DS x) false e e1→(e1.vals (bitsL nt (DS x &&& (out ||| ret))) fun xs=>kn (e.after (DS x) (bitsL nt (DS x &&& (out ||| ret))) xs) h')=true→PostF e0 M D kn kx kr kp .norm a' h':=by
     intro e1 a' h' ok1 s1 k
     obtain ⟨xs,hxs,k⟩:=FEnv.vals_of k
     exact ⟨_,after_ok ok1 s1 hxs,s.trans (Same.after (D:=false) e _ xs) hM (fun q=>by cases q),k⟩
    rintro ex a' h' ⟨e1,ok1,s1,k⟩
    cases ex with
    | norm=>rw[blP_norm];exact join e1 a' h' ok1 s1 k
    | exit i=>
     rw[blP_exit]
     by_cases q:i=id
     ·subst q
      rw[if_pos rfl]
      have k':(cB (i.beq i) _ (kx i e1 h'))=true:=k
      rw[Nat.beq_refl] at k'
      exact join e1 a' h' ok1 s1 k'
     ·rw[if_neg q]
      have k':(cB (i.beq id) _ (kx i e1 h'))=true:=k
      rw[beqF q] at k'
      exact ⟨e1,ok1,s.trans s1 hM (fun q=>by cases q),k'⟩
    | ret=>rw[blP_ret];exact ⟨e1,ok1,s.trans s1 hM (fun q=>by cases q),k⟩
    | pan v=>rw[blP_pan];exact ⟨e1,ok1,s.trans s1 hM (fun q=>by cases q),k⟩
 | .loop x,M,D,big,out,X,e0,e,a,h,kn,kx,kr,kp,hw,ok,s,w=>by
  have hw:within M D x=true:=hw
  cases hi:within (DS x) false x with
  | false=>
   have w0:(cB (within (DS x) false x) _ false)=true:=w
   rw[hi] at w0
   cases w0
  | true=>
   have w0:(cB (within (DS x) false x) (e.vals (bitsL nt (DS x &&& (live ret (.loop x) X 0 ||| ret))) fun xs0=>
    loopB fuel (fun again xs h'=>feC call fuel ret nt x false (live ret (.loop x) X 0) X (e.after (DS x) (bitsL nt (DS x &&& (live ret (.loop x) X 0 ||| ret))) xs) h'
     (fun e' h''=>e'.vals (bitsL nt (DS x &&& (live ret (.loop x) X 0 ||| ret))) fun ys=>again ys h'') kx kr kp) xs0 h) false)=true:=w
   rw[hi] at w0
   have hM:sub (DS x) M=true:=sub_mk (DS_in hw)
   revert w0
   generalize bitsL nt (DS x &&& (live ret (.loop x) X 0 ||| ret))=L
   generalize live ret (.loop x) X 0=LV
   intro w0
   obtain ⟨xs0,hxs0,w1⟩:=FEnv.vals_of (show e.vals L _=true from w0)
   have key:∀(n:Nat) (xs:List AV) (h:AHeap) (a:AAct),loopB n (fun again xs h'=>feC call fuel ret nt x false LV X (e.after (DS x) L xs) h' (fun e' h''=>e'.vals L fun ys=>again ys h'') kx kr kp) xs h=true→(e.after (DS x) L xs).ok a→∃ex a' h',EvL F x a h ex a' h'∧PostF e0 M D kn kx kr kp ex a' h':=by
    intro n
    induction n with
    | zero=>intro xs h a q _;exact Bool.noConfusion (show false=true from q)
    | succ n ih=>
     intro xs h a q ok1
     have q':feC call fuel ret nt x false LV X (e.after (DS x) L xs) h (fun e' h''=>e'.vals L fun ys=>loopB n (fun again xs h'=>feC call fuel ret nt x false LV X (e.after (DS x) L xs) h' (fun e' h''=>e'.vals L fun ys=>again ys h'') kx kr kp) ys h'') kx kr kp=true:=q
     obtain ⟨ex,a1,h1,ev,e1,ok2,s2,k⟩:=wpC_sound _ _ _ _ (feC_ok hcall x hi ok1 (Same.refl _ _ _) q')
     have sx:Same (DS x) false e e1:=(Same.after e L xs).trans s2 (sub_mk fun _ q=>q) (fun q=>q)
     cases ex with
     | norm=>
      obtain ⟨ys,hys,k⟩:=FEnv.vals_of k
      obtain ⟨ex,a2,h2,ev2,p⟩:=ih ys h1 a1 k (after_ok ok2 sx hys)
      exact ⟨ex,a2,h2,EvL.round ev ev2,p⟩
     | exit i=>exact ⟨_,a1,h1,EvL.out ev (by simp),e1,ok2,s.trans sx hM (fun q=>by cases q),k⟩
     | ret=>exact ⟨_,a1,h1,EvL.out ev (by simp),e1,ok2,s.trans sx hM (fun q=>by cases q),k⟩
     | pan v=>exact ⟨_,a1,h1,EvL.out ev (by simp),e1,ok2,s.trans sx hM (fun q=>by cases q),k⟩
   have h0:=key fuel xs0 h a w1 (after_ok ok (Same.refl _ _ _) hxs0)
   simp only[wpC]
   exact h0
end
def retM:List RV→Nat
 | []=>0
 | .t i::r=>2^i ||| retM r
 | .cell i _ _::r=>2^i ||| retM r
noncomputable abbrev resQ (e:FEnv) (h:AHeap):List RV→(List AV→Bool)→Bool
 | [],k=>k []
 | .t i::r,k=>e.opd (.t i) fun v=>resQ e h r fun vs=>k (v::vs)
 | .cell i true n::r,k=>e.opd (.t i) fun x=>p_loadN n x h fun v _=>resQ e h r fun vs=>k (v::vs)
 | .cell i false _::r,k=>e.opd (.t i) fun x=>p_load1 x h fun v _=>resQ e h r fun vs=>k (v::vs)
theorem resQ_of {e:FEnv} {a:AAct} {h:AHeap} (ok:e.ok a):∀{r:List RV} {k:List AV→Bool},resQ e h r k=true→∃vs,resA a h r=some vs∧k vs=true
 | [],k,w=>⟨[],rfl,w⟩
 | .t i::r,k,w=>by
  obtain ⟨v,hv,w1⟩:=FEnv.opdT_of (show e.opd (.t i) _=true from w)
  obtain ⟨vs,h1,h2⟩:=resQ_of ok w1
  exact ⟨v::vs,by simp only[resA,hv a ok,h1],h2⟩
 | .cell i true n::r,k,w=>by
  obtain ⟨v,hv,w1⟩:=FEnv.opdT_of (show e.opd (.t i) _=true from w)
  obtain ⟨b,o,ver,md,es,vs,cs,rfl,g1,g2,w2⟩:=p_loadN_of w1
  obtain ⟨vs',h1,h2⟩:=resQ_of ok w2
  exact ⟨_,by simp only[resA,hv a ok,h1,loadA,g1,g2,cond_true],h2⟩
 | .cell i false n::r,k,w=>by
  obtain ⟨v,hv,w1⟩:=FEnv.opdT_of (show e.opd (.t i) _=true from w)
  obtain ⟨b,o,ver,md,es,vs,x,rfl,g1,g2,w2⟩:=p_load1_of w1
  obtain ⟨vs',h1,h2⟩:=resQ_of ok w2
  exact ⟨_,by simp only[resA,hv a ok,h1,loadA,g1,g2,cond_false],h2⟩
abbrev FDef:=FuncId→List AV→Lv→AHeap→(AHeap→Bool)→Bool
noncomputable abbrev leaveB (D:FDef) (k:Lv→AHeap→Bool):List (FuncId×List AV)→Lv→AHeap→Bool
 | [],lv,h=>k lv h
 | (f,as)::r,lv,h=>D f as lv h fun h'=>leaveB D k r .ret h'
def FDefOk (F:FT) (D:FDef):Prop:=∀f as lv h k,D f as lv h k=true→WDef F f as lv h fun h'=>k h'=true
noncomputable abbrev finQ (res:List RV) (kr kp:AV→AHeap→Bool) (e:FEnv):Lv→AHeap→Bool
 | .ret,h=>resQ e h res fun vs=>kr (one vs) h
 | .pan v,h=>kp v h
theorem leaveB_ok {F:FT} {D:FDef} (hD:FDefOk F D) {res:List RV} {kr kp:AV→AHeap→Bool} {e:FEnv} {a:AAct} (ok:e.ok a):∀{df:List (FuncId×List AV)} {lv:Lv} {h:AHeap},leaveB D (finQ res kr kp e) df lv h=true→finLP F res (resB kr kp) a df lv h
 | [],.ret,h,w=>by
  obtain ⟨vs,h1,h2⟩:=resQ_of ok (show resQ e h res _=true from w)
  simp only[finLP,h1]
  exact h2
 | [],.pan v,h,w=>by
  simp only[finLP]
  exact w
 | (f,as)::r,lv,h,w=>by
  have h1:=hD _ _ _ _ _ (show D f as lv h _=true from w)
  simp only[finLP]
  unfold WDef at h1 ⊢
  obtain ⟨h',e1,e2⟩:=h1
  exact ⟨h',e1,leaveB_ok hD ok e2⟩
abbrev FBody:=FCall→FDef→Nat→List AV→AHeap→(AV→AHeap→Bool)→(AV→AHeap→Bool)→Bool
noncomputable abbrev env0 (ar:Nat) (args:List AV):FEnv:=⟨fun i=>bif Nat.ble (i+1) ar then some (nthV args i) else none,[]⟩
theorem env0_ok {ar:Nat} {args:List AV} (h:args.length=ar):(env0 ar args).ok ⟨initTm args 0 .nil,[]⟩:=by
 refine ⟨fun i x hx=>?_,rfl⟩
 have h1:(bif Nat.ble (i+1) ar then some (nthV args i) else none)=some x:=hx
 cases q:Nat.ble (i+1) ar with
 | false=>rw[q] at h1;cases h1
 | true=>
  rw[q] at h1
  rw[Nat.ble_eq] at q
  cases h1
  show (initTm args 0 .nil).get i=_
  rw[initTm_get,if_pos ⟨Nat.zero_le _,by omega⟩,nthV_eq,Nat.sub_zero]
  rw[List.getElem?_eq_getElem (by omega)]
  rfl
noncomputable abbrev feFun (ar:Nat) (m:MFun):FBody:=fun call D fuel args h kr kp=>
 match m with
 | .code nt body res=>cB (Nat.ble ar nt&&within (2^nt-1) true body) (ifB (Nat.beq (lenV args) ar) (feC call fuel (retM res) nt body false (retM res) (fun _=>0) (env0 ar args) h
   (fun e h'=>leaveB D (finQ res kr kp e) e.df .ret h') (fun _ _ _=>false) (fun e h'=>leaveB D (finQ res kr kp e) e.df .ret h') (fun v e h'=>leaveB D (finQ res kr kp e) e.df (.pan v) h')) false) false
 | .prim _=>false
theorem feFun_ok {F:FT} {call:FCall} {D:FDef} (hcall:FCallOk F call) (hD:FDefOk F D) {f:FuncId} {m:MFun} (hf:F f=some m) {ar fuel:Nat} {args:List AV} {h:AHeap} {kr kp:AV→AHeap→Bool} (w:feFun ar m call D fuel args h kr kp=true):WF F f args h (resB kr kp):=by
 cases m with
 | prim p=>exact Bool.noConfusion (show false=true from w)
 | code nt body res=>
  have w0:(cB (Nat.ble ar nt&&within (2^nt-1) true body) (ifB (Nat.beq (lenV args) ar) (feC call fuel (retM res) nt body false (retM res) (fun _=>0) (env0 ar args) h
   (fun e h'=>leaveB D (finQ res kr kp e) e.df .ret h') (fun _ _ _=>false) (fun e h'=>leaveB D (finQ res kr kp e) e.df .ret h') (fun v e h'=>leaveB D (finQ res kr kp e) e.df (.pan v) h')) false) false)=true:=w
  cases q:Nat.ble ar nt&&within (2^nt-1) true body with
  | false=>rw[q] at w0;cases w0
  | true=>
   rw[q] at w0
   simp only[Bool.and_eq_true] at q
   obtain ⟨w1,w2⟩:=ifB_true w0
   rw[lenV_eq] at w1
   have hl:args.length=ar:=Nat.eq_of_beq_eq_true w1
   refine WF.code hf (by rw[hl];exact q.1) (wpC_mono _ ?_ _ _ (feC_ok hcall body q.2 (env0_ok hl) (Same.refl _ _ _) w2))
   rintro ex a h' ⟨e,ok,_,k⟩
   cases ex with
   | norm=>simp only[finP];rw[ok.2];exact leaveB_ok hD ok k
   | ret=>simp only[finP];rw[ok.2];exact leaveB_ok hD ok k
   | pan v=>simp only[finP];rw[ok.2];exact leaveB_ok hD ok k
   | exit i=>cases k
noncomputable def fePrim (p:List AV→AHeap→Option (CRes×AHeap)):FBody:=fun _ _ _ args h kr kp=>match p args h with
 | some (.ret v,h')=>kr v h'
 | some (.pan v,h')=>kp v h'
 | none=>false
theorem fePrim_ok {F:FT} {f:FuncId} {p:List AV→AHeap→Option (CRes×AHeap)} (hf:F f=some (.prim p)) {call:FCall} {D:FDef} {fuel:Nat} {args:List AV} {h:AHeap} {kr kp:AV→AHeap→Bool} (w:fePrim p call D fuel args h kr kp=true):WF F f args h (resB kr kp):=by
 unfold fePrim at w
 split at w
 ·rename_i v h' e
  exact WF.prim hf e w
 ·rename_i v h' e
  exact WF.prim hf e w
 ·cases w
abbrev FDBody:=FCall→Nat→List AV→Lv→AHeap→(AHeap→Bool)→Bool
def lvQ:Lv→AV
 | .ret=>.nilIface
 | .pan v=>v
abbrev ifNil (l:List (FuncId×List AV)) (K:Bool):Bool:=match l with|[]=>K|_=>false
noncomputable abbrev feDef (ar:Nat) (m:MFun):FDBody:=fun call fuel args lv h k=>
 match m with
 | .code nt (.seq (.reg (⟨d,.recover,none,_⟩::ops)) rest) []=>
  cB (Nat.ble ar nt&&(ops.all (within1 (2^nt-1) true)&&within (2^nt-1) true rest)) (ifB (Nat.beq (lenV args) ar)
   (feOps call ops ((env0 ar args).put d (lvQ lv)) h (fun e h'=>feC call fuel 0 nt rest false 0 (fun _=>0) e h' (fun e h'=>ifNil e.df (k h')) (fun _ _ _=>false) (fun e h'=>ifNil e.df (k h')) (fun _ _ _=>false)) (fun _ _ _=>false)) false) false
 | _=>false
theorem ifNil_of {l:List (FuncId×List AV)} {K:Bool} (h:ifNil l K=true):l=[]∧K=true:=by
 cases l with
 | nil=>exact ⟨rfl,h⟩
 | cons a l=>cases h
theorem feDef_ok {F:FT} {call:FCall} (hcall:FCallOk F call) {f:FuncId} {m:MFun} (hf:F f=some m) {ar fuel:Nat} {args:List AV} {lv:Lv} {h:AHeap} {k:AHeap→Bool} (w:feDef ar m call fuel args lv h k=true):WDef F f args lv h fun h'=>k h'=true:=by
 unfold feDef at w
 split at w
 ·rename_i nt d b ops rest
  cases q:Nat.ble ar nt&&(ops.all (within1 (2^nt-1) true)&&within (2^nt-1) true rest) with
  | false=>rw[q] at w;cases w
  | true=>
   rw[q] at w
   simp only[Bool.and_eq_true] at q
   obtain ⟨w1,w2⟩:=ifB_true w
   rw[lenV_eq] at w1
   have hl:args.length=ar:=Nat.eq_of_beq_eq_true w1
   have hlv:lvQ lv=lv.val:=by cases lv<;>rfl
   rw[hlv] at w2
   refine WDef.code hf (by rw[hl];exact q.1) (wpOps_mono ?_ _ _ _ (feOps_ok (M:=2^nt-1) (D:=true) (kx:=fun _ _ _=>false) (kr:=fun _ _=>false) hcall ops _ _ _ q.2.1 ((env0_ok hl).put d lv.val) (Same.refl _ _ _) w2))
   rintro ex a h' ⟨e,ok,_,k1⟩
   cases ex with
   | norm=>
    simp only[defP0]
    refine wpC_mono _ ?_ _ _ (feC_ok (M:=2^nt-1) (D:=true) hcall rest q.2.2 ok (Same.refl _ _ _) k1)
    rintro ex a2 h2 ⟨e2,ok2,_,k2⟩
    cases ex with
    | norm=>obtain ⟨g1,g2⟩:=ifNil_of k2;simp only[defP];exact ⟨by rw[ok2.2];exact g1,g2⟩
    | ret=>obtain ⟨g1,g2⟩:=ifNil_of k2;simp only[defP];exact ⟨by rw[ok2.2];exact g1,g2⟩
    | exit i=>cases k2
    | pan v=>cases k2
   | exit i=>cases k1
   | ret=>cases k1
   | pan v=>cases k1
 ·cases w
inductive FEntry where
 | fn (b:FBody)
 | df (b:FDBody)
def gNilE (_:Nat):Option FEntry:=none
noncomputable def gNodeE (_:Tr FEntry) (v:Option FEntry) (_:Tr FEntry) (ihl ihr:Nat→Option FEntry) (n:Nat):Option FEntry:=
 @Bool.rec (fun _=>Option FEntry) (@Bool.rec (fun _=>Option FEntry) (ihr (Nat.sub (Nat.div n (nat_lit 2)) (nat_lit 1))) (ihl (Nat.div n (nat_lit 2))) (Nat.beq (Nat.mod n (nat_lit 2)) (nat_lit 1))) v (Nat.beq n (nat_lit 0))
noncomputable def getE (t:Tr FEntry):Nat→Option FEntry:=@Tr.rec FEntry (fun _=>Nat→Option FEntry) gNilE gNodeE t
theorem getE_eq:∀(t:Tr FEntry) (n:Nat),getE t n=t.get n
 | .nil,n=>by simp only[Tr.get];rfl
 | .node l v r,n=>by
  show gNodeE l v r (getE l) (getE r) n=_
  unfold gNodeE Tr.get
  rw[getE_eq l,getE_eq r]
  show _=bif Nat.beq n 0 then v else bif Nat.beq (n % 2) 1 then l.get (n / 2) else r.get (n / 2-1)
  cases Nat.beq n 0
  ·show @Bool.rec (fun _=>Option FEntry) _ _ (Nat.beq (n % 2) 1)=_
   cases Nat.beq (n % 2) 1<;>rfl
  ·rfl
noncomputable def onFn (x:Option FEntry) (f:FBody→Bool):Bool:=@Option.rec FEntry (fun _=>Bool) false (fun x=>@FEntry.rec (fun _=>Bool) f (fun _=>false) x) x
noncomputable def onDf (x:Option FEntry) (f:FDBody→Bool):Bool:=@Option.rec FEntry (fun _=>Bool) false (fun x=>@FEntry.rec (fun _=>Bool) (fun _=>false) f x) x
theorem onFn_of {x:Option FEntry} {f:FBody→Bool} (h:onFn x f=true):∃b,x=some (.fn b)∧f b=true:=by
 cases x with
 | none=>exact Bool.noConfusion (show false=true from h)
 | some x=>cases x with
  | fn b=>exact ⟨b,rfl,h⟩
  | df b=>exact Bool.noConfusion (show false=true from h)
theorem onDf_of {x:Option FEntry} {f:FDBody→Bool} (h:onDf x f=true):∃b,x=some (.df b)∧f b=true:=by
 cases x with
 | none=>exact Bool.noConfusion (show false=true from h)
 | some x=>cases x with
  | df b=>exact ⟨b,rfl,h⟩
  | fn b=>exact Bool.noConfusion (show false=true from h)
noncomputable def feCall (T:Tr FEntry) (k:Nat):FCall:=
 @Nat.rec (fun _=>FCall) (fun _ _ _ _ _=>false) (fun k ih f args h kr kp=>onFn (getE T f) fun b=>b ih (fun f as lv h kk=>onDf (getE T f) fun b=>b ih k as lv h kk) k args h kr kp) k
def EOk (F:FT) (f:Nat):FEntry→Prop
 | .fn b=>∀call D,FCallOk F call→FDefOk F D→∀k args h kr kp,b call D k args h kr kp=true→WF F f args h (resB kr kp)
 | .df b=>∀call,FCallOk F call→∀k as lv h kk,b call k as lv h kk=true→WDef F f as lv h fun h'=>kk h'=true
def TOk (F:FT) (T:Tr FEntry):Prop:=∀f x,T.get f=some x→EOk F f x
theorem feCall_ok {F:FT} {T:Tr FEntry} (hT:TOk F T):∀k,FCallOk F (feCall T k)
 | 0=>fun f args h kr kp w=>Bool.noConfusion (show false=true from w)
 | k+1=>fun f args h kr kp w=>by
  obtain ⟨b,e,w1⟩:=onFn_of (show onFn (getE T f) _=true from w)
  rw[getE_eq] at e
  refine hT f _ e _ _ (feCall_ok hT k) (fun g as lv h' kk q=>?_) _ _ _ _ _ w1
  obtain ⟨b',e',w2⟩:=onDf_of q
  rw[getE_eq] at e'
  exact hT g _ e' _ (feCall_ok hT k) _ _ _ _ _ w2
theorem EOk.fn {F:FT} {f:Nat} {m:MFun} (hf:F f=some m) {ar:Nat} {b:FBody} (hb:feFun ar m=b):EOk F f (.fn b):=by
 subst hb
 exact fun call D hc hD k args h kr kp w=>feFun_ok hc hD hf w
theorem EOk.df {F:FT} {f:Nat} {m:MFun} (hf:F f=some m) {ar:Nat} {b:FDBody} (hb:feDef ar m=b):EOk F f (.df b):=by
 subst hb
 exact fun call hc k as lv h kk w=>feDef_ok hc hf w
theorem EOk.prim {F:FT} {f:Nat} {p:List AV→AHeap→Option (CRes×AHeap)} (hf:F f=some (.prim p)):EOk F f (.fn (fePrim p)):=fun call D hc hD k args h kr kp w=>fePrim_ok hf w
noncomputable def vi (n:Nat):AV:=.int .i64 (.ofNat n)
noncomputable def vT:AV:=.bool true
noncomputable def vF:AV:=.bool false
noncomputable def vS:AV:=.str []
end Go.Ev
namespace Go.Ev
open Go Go.ChangeShapes Go.WideShapes Go.RowKit
def Tr.AllP {α:Type} (p:Nat→α→Prop):Tr α→(Nat→Nat)→Prop
 | .nil,_=>True
 | .node l v r,g=>(∀x,v=some x→p (g 0) x)∧Tr.AllP p l (fun k=>g (2*k+1))∧Tr.AllP p r (fun k=>g (2*k+2))
theorem Tr.all_get {α:Type} {p:Nat→α→Prop}:∀{t:Tr α} {g:Nat→Nat} {n:Nat} {x:α},Tr.AllP p t g→t.get n=some x→p (g n) x
 | .nil,g,n,x,_,h=>by simp [Tr.get] at h
 | .node l v r,g,n,x,ha,h=>by
  obtain ⟨h0,hl,hr⟩:=ha
  unfold Tr.get at h
  by_cases e:n=0
  ·subst e
   rw[Nat.beq_refl] at h
   exact h0 x h
  ·rw[beqF e] at h
   simp only[cond_false] at h
   by_cases e1:n % 2=1
   ·rw[beqT e1] at h
    have:=Tr.all_get hl h
    rwa[show 2*(n / 2)+1=n by omega] at this
   ·rw[beqF e1] at h
    have:=Tr.all_get hr h
    rwa[show 2*(n / 2-1)+2=n by omega] at this
def FRow (P:Program) (f:Nat) (m:MFun):Prop:=
 match m with
 | .prim p=>PrimOk P f p
 | .code nt body res=>∃fn,P.funcs[f]?=some fn∧(cFunc P fn=some (.code nt body res)∨(NoRec body∧(∃m0,cFunc P fn=some (.code nt m0 res))∧BodyOk P fn nt body))
def MFun.isCode:MFun→Bool
 | .code _ _ _=>true
 | .prim _=>false
theorem FRow.code {P:Program} {f:Nat} {fn:Func} {m:MFun} (hf:P.funcs[f]?=some fn) (hc:cFunc P fn=some m) (hm:m.isCode=true):∀x,some m=some x→FRow P f x:=by
 intro x e
 cases e
 cases m with
 | code nt body res=>exact ⟨fn,hf,.inl hc⟩
 | prim p=>cases hm
theorem FRow.no {P:Program} {f:Nat}:∀x,(none:Option MFun)=some x→FRow P f x:=fun _ e=>by cases e
theorem FRow.prim {P:Program} {f:Nat} {p:List AV→AHeap→Option (CRes×AHeap)} (h:PrimOk P f p):∀x,some (MFun.prim p)=some x→FRow P f x:=fun x e=>by cases e;exact h
theorem fok_of {P:Program} {t:Tr MFun} (h:Tr.AllP (FRow P) t (fun n=>n)):FOk P t.get:=fun f m e=>by
 have:=Tr.all_get h e
 exact this
def PRow (_:Nat) (m:MFun):Prop:=∀p,m=.prim p→∀args h r h',p args h=some (r,h')→HSt h h'
theorem PRow.no {f:Nat}:∀x,(none:Option MFun)=some x→PRow f x:=fun _ e=>by cases e
theorem PRow.code {f:Nat} {m:MFun} (hm:m.isCode=true):∀x,some m=some x→PRow f x:=fun x e=>by
 cases e
 intro p e2
 subst e2
 cases hm
theorem PRow.prim {f:Nat} {p:List AV→AHeap→Option (CRes×AHeap)} (h:∀args h r h',p args h=some (r,h')→HSt h h'):∀x,some (MFun.prim p)=some x→PRow f x:=fun x e=>by
 cases e
 intro q e2
 cases e2
 exact h
theorem primsH_of {t:Tr MFun} (h:Tr.AllP PRow t (fun n=>n)):PrimsH t.get:=fun _ p e=>Tr.all_get h e p rfl
def SentAt (W:World) (T:TypeId) (g:Nat) (text:List UInt8) (c o:Nat):Prop:=
 (∃Tg,W.heap[g]?=some (.cells #[.iface T (.pointer (some ⟨c,o,none⟩))] Tg (0,0)))∧∃cs Tc,W.heap[c]?=some (.cells cs Tc (0,0))∧cs[o]?=some (.string ⟨⟨text⟩⟩)
theorem laid_head {P:Program} {n nm:String} {text:List UInt8} {r:List (String×DataW Unit)} {W:World} {g:Nat} {ti tp te ts:TypeId} {ms:Array (String×TypeId)} {f:Field}
  (h:laidMet P ((n,.iface nm (.ptr (.agg [.lit (.string text)])))::r) W)
  (hg:P.globalNamed n=some g) (ht:(P.globals[g]?).map (·.type)=some ti) (hi:P.underlying ti=some (.interface ms)) (hrow:∀u,P.typeName? 3 u=some nm→u=tp)
  (hp:P.underlying tp=some (.pointer te)) (he:P.underlying te=some (.struct #[f])) (hft:f.type=ts) (hfo:f.offset=0) (hs:P.underlying ts=some .string) (hc:P.cellsOf te=1) (hcs:P.cellsOf ts=1) :
  ∃c o,SentAt W tp g text c o:=by
 obtain ⟨ps,⟨g0,t0,cs0,f0,p0,q0,hg0,ht0,hv0,hd0,_,e0⟩,_,hrows⟩:=h
 obtain rfl:=Option.some.inj (hg.symm.trans hg0)
 obtain rfl:=Option.some.inj (ht.symm.trans ht0)
 subst e0
 obtain ⟨l0⟩:=cs0
 have ok0:∀u v,l0=[.iface u v]→Value.okWide P W .any 0 u v:=fun u v e=>by
  subst e
  exact (hrows g 0 (by simp [MemPlace.row])).2 u v (by simpa using World.var?_cell hg0 hv0 0)
 obtain ⟨a,s,rfl,hc0,hs0,_,rfl⟩:=errorString_of_trod hi hrow hp he hft hfo hs hc hcs hd0 ok0
 obtain ⟨cg,tg,hbg⟩:=(hrows g 0 (by simp [MemPlace.row])).1
 obtain ⟨ca,ta,hba⟩:=(hrows a.block a.off (by simp [MemPlace.row])).1
 have hvar:W.heap[g]?=some (.cells #[.iface tp (.pointer (some a))] tg (0,0)):=by
  have h1:=hv0
  unfold World.var? at h1
  rw[hg,Option.bind_some,hbg] at h1
  simp only[Option.some.injEq] at h1
  rw[hbg,h1]
 obtain ⟨c,o,sp⟩:=a
 have hcell:=hc0
 unfold World.cell? at hcell
 simp only at hba hcell
 rw[hba] at hcell
 simp only at hcell
 cases sp with
 | some x=>simp at hcell
 | none=>
  simp only[Option.isSome_none,Bool.false_eq_true,if_false] at hcell
  refine ⟨c,o,⟨tg,hvar⟩,ca,ta,hba,?_⟩
  rw[hcell,←hs0]
def laidRow {H:Type} (nm:String) (x:String×List UInt8):String×DataW H:=(x.1,.iface nm (.ptr (.agg [.lit (.string x.2)])))
theorem laid_all {P:Program} {nm:String} {W:World} {ti tp te ts:TypeId} {ms:Array (String×TypeId)} {f:Field}
  (hi:P.underlying ti=some (.interface ms)) (hrow:∀u,P.typeName? 3 u=some nm→u=tp)
  (hp:P.underlying tp=some (.pointer te)) (he:P.underlying te=some (.struct #[f])) (hft:f.type=ts) (hfo:f.offset=0) (hs:P.underlying ts=some .string) (hc:P.cellsOf te=1) (hcs:P.cellsOf ts=1) :
  ∀(L:List (String×List UInt8)) (gs:List Nat),laidMet P (L.map (laidRow nm)) W→L.map (fun x=>P.globalNamed x.1)=gs.map some→(∀g∈gs,(P.globals[g]?).map (·.type)=some ti)→∀(i g:Nat) (text:List UInt8),gs[i]?=some g→(L[i]?).map (fun x:String×List UInt8=>x.2)=some text→∃c o,SentAt W tp g text c o
 | [],_,_,_,_,i,g,text,_,h2=>by simp at h2
 | x::L,[],_,h,_,_,_,_,_,_=>by simp at h
 | x::L,g0::gs,hL,hn,ht,i,g,text,h1,h2=>by
  simp only[List.map_cons,List.cons.injEq] at hn
  cases i with
  | zero=>
   simp at h1 h2
   subst h1 h2
   exact laid_head hL hn.1 (ht _ (List.mem_cons_self)) hi hrow hp he hft hfo hs hc hcs
  | succ i=>
   simp only[List.getElem?_cons_succ] at h1 h2
   exact laid_all hi hrow hp he hft hfo hs hc hcs L gs hL.tail hn.2 (fun g hg=>ht g (List.mem_cons_of_mem _ hg)) i g text h1 h2
def heap0 (T NG K:Nat) (kn:Nat→Bool) (dt:Nat→Option (List AV)) (txt:Nat→List UInt8) (m:Nat) (xs:Nat→AObj):AHeap:=
 mkHeap (fun b=>(if b<K then (if kn b=true then some ⟨0,.cells .ro 0 [.iface T (.ptr (NG+b) 0)]⟩ else some ⟨0,.dead⟩) else if b<NG then (match dt b with|some vs=>some ⟨0,.cells .tab 0 vs⟩|none=>some ⟨0,.dead⟩) else if b<NG+K then (if kn (b-NG)=true then some ⟨0,.cells .sent 0 [.str (txt (b-NG))]⟩ else some ⟨0,.dead⟩) else some ⟨0,xs (b-(NG+K))⟩)) (NG+K+m)
def iota0 (NG K:Nat) (c o:Nat→Nat) (m:Nat) (xi:Nat→Nat×Nat):Mp:=fun b=>
 if b<NG then some (b,0) else if b<NG+K then some (c (b-NG),o (b-NG)) else if b<NG+K+m then some (xi (b-(NG+K))) else none
theorem heap0_get {T NG K:Nat} {kn:Nat→Bool} {dt:Nat→Option (List AV)} {txt:Nat→List UInt8} {m:Nat} {xs:Nat→AObj} (b:Nat):(heap0 T NG K kn dt txt m xs).get b=if b<NG+K+m then (if b<K then (if kn b=true then some ⟨0,.cells .ro 0 [.iface T (.ptr (NG+b) 0)]⟩ else some ⟨0,.dead⟩) else if b<NG then (match dt b with|some vs=>some ⟨0,.cells .tab 0 vs⟩|none=>some ⟨0,.dead⟩) else if b<NG+K then (if kn (b-NG)=true then some ⟨0,.cells .sent 0 [.str (txt (b-NG))]⟩ else some ⟨0,.dead⟩) else some ⟨0,xs (b-(NG+K))⟩) else none:=mkHeap_get _ _ _
theorem heap0_n {T NG K:Nat} {kn:Nat→Bool} {dt:Nat→Option (List AV)} {txt:Nat→List UInt8} {m:Nat} {xs:Nat→AObj}:(heap0 T NG K kn dt txt m xs).n=NG+K+m:=rfl
section
variable {P:Program} {T K:Nat} {kn:Nat→Bool} {dt:Nat→Option (List AV)} {txt:Nat→List UInt8} {m:Nat} {xs:Nat→AObj} {xi:Nat→Nat×Nat} {c o:Nat→Nat} {W:World}
theorem rel0 (hK:K≤P.globals.size) (hsz:P.globals.size≤W.heap.size) (hs:∀g,g<K→kn g=true→SentAt W T g (txt g) (c g) (o g)) (hc0:∀g,g<K→kn g=false→c g<W.heap.size)
  (hd:∀g vs,K≤g→g<P.globals.size→dt g=some vs→∃cs Tc f,W.heap[g]?=some (.cells cs Tc f)∧cs.size=vs.length∧∀(i:Nat) (x:AV),vs[i]?=some x→∃v,cs[i]?=some v∧∀ι I sz,VR ι I sz x v)
  (hro:∀j,j<m→∃es vs,xs j=.cells .ro es vs)
  (hx:∀j,j<m→(xi j).1<W.heap.size∧ORel (iota0 P.globals.size K c o m xi) (infoOf (heap0 T P.globals.size K kn dt txt m xs).get) (wsz W) W (xi j).1 (xi j).2 (xs j)) :
  Rel (iota0 P.globals.size K c o m xi) (heap0 T P.globals.size K kn dt txt m xs) W where
 dom b c' p e:=by
  rw[heap0_n]
  unfold iota0 at e
  split at e
  ·omega
  ·split at e
   ·omega
   ·split at e
    ·assumption
    ·cases e
 lt b x e:=by
  rw[heap0_get] at e
  rw[heap0_n]
  split at e
  ·assumption
  ·cases e
 obj b c' p e:=by
  have hi:∀b,iota0 P.globals.size K c o m xi b=if b<P.globals.size then some (b,0) else if b<P.globals.size+K then some (c (b-P.globals.size),o (b-P.globals.size)) else if b<P.globals.size+K+m then some (xi (b-(P.globals.size+K))) else none:=fun _=>rfl
  rw[hi] at e
  by_cases h1:b<P.globals.size
  ·rw[if_pos h1] at e
   cases e
   by_cases h2:b<K
   ·cases hk:kn b with
    | false=>exact ⟨⟨0,.dead⟩,by rw[heap0_get,if_pos (by omega),if_pos h2,if_neg (by rw[hk];exact Bool.false_ne_true)],by omega,trivial⟩
    | true=>
    obtain ⟨⟨Tg,hg⟩,cs,Tc,hc,ho⟩:=hs b h2 hk
    refine ⟨⟨0,.cells .ro 0 [.iface T (.ptr (P.globals.size+b) 0)]⟩,by rw[heap0_get,if_pos (by omega),if_pos h2,if_pos hk],by omega,_,_,_,_,hg,?_,fun h=>(by cases h),fun h=>(by cases h),fun h=>(by cases h)⟩
    intro i x hx
    cases i with
    | succ i=>simp at hx
    | zero=>
     simp at hx
     subst hx
     refine ⟨_,rfl,?_⟩
     simp only[VR]
     refine ⟨_,rfl,_,rfl,.inr ⟨c b,o b,?_,rfl⟩⟩
     rw[hi,if_neg (by omega),if_pos (by omega),Nat.add_sub_cancel_left]
   ·cases hdt:dt b with
    | none=>exact ⟨⟨0,.dead⟩,by rw[heap0_get,if_pos (by omega),if_neg h2,if_pos h1,hdt],by omega,trivial⟩
    | some vs=>
     obtain ⟨cs,Tc,f,g1,g2,g3⟩:=hd b vs (by omega) h1 hdt
     refine ⟨⟨0,.cells .tab 0 vs⟩,by rw[heap0_get,if_pos (by omega),if_neg h2,if_pos h1,hdt],by omega,cs,Tc,f.1,f.2,g1,fun i x hx=>?_,fun h=>(by cases h),fun h=>(by cases h),fun _=>⟨rfl,g2⟩⟩
     obtain ⟨v,e1,e2⟩:=g3 i x hx
     exact ⟨v,by rw[Nat.zero_add];exact e1,e2 _ _ _⟩
  ·rw[if_neg h1] at e
   by_cases h2:b<P.globals.size+K
   ·rw[if_pos h2] at e
    cases e
    cases hk:kn (b-P.globals.size) with
    | false=>exact ⟨⟨0,.dead⟩,by rw[heap0_get,if_pos (by omega),if_neg (by omega),if_neg h1,if_pos h2,if_neg (by rw[hk];exact Bool.false_ne_true)],hc0 _ (by omega) hk,trivial⟩
    | true=>
    obtain ⟨_,cs,Tc,hc,ho⟩:=hs (b-P.globals.size) (by omega) hk
    refine ⟨⟨0,.cells .sent 0 [.str (txt (b-P.globals.size))]⟩,by rw[heap0_get,if_pos (by omega),if_neg (by omega),if_neg h1,if_pos h2,if_pos hk],?_,_,_,_,_,hc,?_,fun _=>⟨rfl,rfl⟩,fun h=>(by cases h),fun h=>(by cases h)⟩
    ·rcases Nat.lt_or_ge (c (b-P.globals.size)) W.heap.size with h|h
     ·exact h
     ·rw[Array.getElem?_eq_none h] at hc;cases hc
    ·intro i x hx
     cases i with
     | succ i=>simp at hx
     | zero=>
      simp at hx
      subst hx
      exact ⟨_,ho,by simp only[VR]⟩
   ·rw[if_neg h2] at e
    split at e
    ·rename_i h3
     have e':=Option.some.inj e
     obtain ⟨g1,g2⟩:=hx (b-(P.globals.size+K)) (by omega)
     rw[e'] at g1 g2
     exact ⟨⟨0,xs (b-(P.globals.size+K))⟩,by rw[heap0_get,if_pos h3,if_neg (by omega),if_neg h1,if_neg h2],g1,g2⟩
    ·cases e
 inj b b' c' p p' _ _ ow _:=by
  obtain ⟨f,e,h⟩:=ow
  exfalso
  unfold infoOf at h
  rw[heap0_get] at h
  split at h
  ·rename_i x hx
   split at hx
   ·split at hx
    ·split at hx<;>(cases hx;cases h)
    ·split at hx
     ·split at hx<;>(cases hx;cases h)
     ·split at hx
      ·split at hx<;>(cases hx;cases h)
      ·rename_i h1 h2 h3 h4
       cases hx
       obtain ⟨es,vs,e2⟩:=hro (b-(P.globals.size+K)) (by omega)
       rw[e2] at h
       cases h
   ·cases hx
  ·cases h
theorem iota0_glob:Glob P (iota0 P.globals.size K c o m xi):=fun g hg=>by unfold iota0;rw[if_pos hg]
end
section
variable {H:Type} {enc:TypeId×Value→H}
theorem returns_open {a:Assume} {C:Checked} {os:Os} {f:FuncId} {fn:Func} {s:ChangeSpec} {conds:List PathCond} {apart fresh handsOn again:Bool} {X:World→Array Value→Prop}
  (hX:∀(w w':World) (args:Array Value),w.heap=w'.heap→X w args→X w' args)
  (own:ownKnob C.prog.godebug=none) (started:os.Started) (noInit:C.prog.inits.idxOf? f=none) (hfn:C.prog.funcs[f]?=some fn)
  (h0:C.prog.globals.size<(begin C.prog (fun _ _=>0) default).world.heap.size)
  (witness:∃(w:World) (tape:Tape) (i:Input),w.os=os∧(w.forCall tape i).Shaped C.prog∧i.vars=[]∧Input.okWide C.prog (w.forCall tape i) .any w.heap.size f i∧
   ((s.pre enc C.prog fn conds apart (w.forCall tape i).memory i.args∧X (w.forCall tape i).memory i.args)∧sizedMet enc C.prog fn (OpenSpec.ofChange s) apart (w.forCall tape i).memory i.args)∧a.holds C.prog (lone (Frame.enter C.prog f i.args .normal) [] (w.forCall tape i)))
  (contract:∀(W:World) (base:Nat) (args:Array Value) (ds gs:List (DataW H)) (before:List MemPlace),C.prog.globals.size≤W.heap.size→
   (∀(j:Nat) t v,fn.params[j]?=some t→args[j]?=some v→Value.okWide C.prog W .any base t v)→
   DataW.Whole enc C.prog fn.params.toList s.vars apart W args.toList ds gs before→
   conds.all (PathCond.test C.prog ⟨fn.params.toList,ds,s.plain.varTypes C.prog,gs⟩)=true→
   (DataW.weightsEach C.prog (fn.params.toList++s.plain.varTypes C.prog) (ds++gs)).all (·≤reachBytes)=true→X W args→
   a.holds C.prog (lone (Frame.enter C.prog f args .normal) [] W)→
   Calls C.prog f args W fun e W'=>∃v,e=.returned v∧s.post enc C.prog fn apart fresh handsOn again W args v W') :
  ReturnsInHanded a C os f .any (fun w args=>(s.pre enc C.prog fn conds apart w args∧X w args)∧sizedMet enc C.prog fn (OpenSpec.ofChange s) apart w args) (s.post enc C.prog fn apart fresh handsOn again):=by
 refine returnsInHanded_of_calls own started noInit witness ?_
 intro w tape i _ hshape _ hok hpre hholds
 obtain ⟨_,_,_,fn',hfn',_,_,_,_,hval⟩:=hok
 have e:fn'=fn:=Option.some.inj (hfn'.symm.trans hfn)
 subst e
 obtain ⟨⟨⟨ds,gs,before,hw,hc⟩,hx⟩,hz⟩:=hpre
 have hsz:C.prog.globals.size≤(w.forCall tape i).heap.size:=by
  obtain ⟨o,_,ho,_⟩:=hshape.2 C.prog.globals.size (Nat.le_refl _) h0
  rcases Nat.lt_or_ge C.prog.globals.size (w.forCall tape i).heap.size with h|h
  ·omega
  ·rw[Array.getElem?_eq_none h] at ho;cases ho
 have hw':=DataW.Whole.of_heap (w':=w.forCall tape i) (by rfl) hw
 refine (contract (w.forCall tape i) w.heap.size i.args ds gs before hsz hval hw' hc (hz.weights hw) (hX _ _ _ (by rfl) hx) hholds).mono fun e W' ⟨v,he,hp⟩=>?_
 subst he
 exact ChangeSpec.post_blind hp
end
end Go.Ev
namespace Go.Ev
open Go
def Plain (v:AV):Prop:=∀ι I sz ι' I' sz' x,VR ι I sz v x→VR ι' I' sz' v x
def PlainL (l:List AV):Prop:=∀ι I sz ι' I' sz' x,VRL ι I sz l x→VRL ι' I' sz' l x
theorem plain_bool (b:Bool):Plain (.bool b):=fun _ _ _ _ _ _ x h=>by simpa only[VR] using h
theorem plain_int (k:IntKind) (n:Int):Plain (.int k n):=fun _ _ _ _ _ _ x h=>by simpa only[VR] using h
theorem plain_str (s:List UInt8):Plain (.str s):=fun _ _ _ _ _ _ x h=>by simpa only[VR] using h
theorem plainL_nil:PlainL []:=fun _ _ _ _ _ _ x h=>by simpa only[VRL] using h
structure LowOk (h0:AHeap):Prop where
 lt:∀b x,h0.get b=some x→b<h0.n
 all:∀b,b<h0.n→∃x,h0.get b=some x∧(x.o=.dead∨(∃t b',x.o=.cells .ro 0 [.iface t (.ptr b' 0)]∧∃x',h0.get b'=some x'∧x'.o≠.dead)∨(∃s,x.o=.cells .sent 0 [.str s])∨∃vs,x.o=.cells .tab 0 vs∧∀v∈vs,Plain v)
def LowEq (h0 h:AHeap):Prop:=h0.n≤h.n∧∀b x,h0.get b=some x→x.o=.dead∨h.get b=some x
theorem LowOk.noOwn {h0:AHeap} (ok:LowOk h0):∀b,¬OwnL h0 b:=by
 rintro b ⟨f,s,h⟩
 unfold infoOf at h
 split at h
 ·rename_i x hx
  obtain ⟨x',h1,h2⟩:=ok.all b (ok.lt b x hx)
  rw[hx] at h1
  cases h1
  rcases h2 with e|⟨t,b',e,_⟩|⟨s,e⟩|⟨vs,e,_⟩<;>rw[e] at h<;>cases h
 ·cases h
theorem Rel.low {ι:Mp} {h h0:AHeap} {W:World} (r:Rel ι h W) (ok:LowOk h0) (le:LowEq h0 h):Rel (fun b=>if b<h0.n then ι b else none) h0 W where
 dom b c p e:=by
  split at e
  ·assumption
  ·cases e
 lt:=ok.lt
 obj b c p e:=by
  split at e
  ·rename_i hb
   obtain ⟨x,h1,h2⟩:=ok.all b hb
   obtain ⟨y,h3,h4,h5⟩:=r.obj b c p e
   refine ⟨x,h1,h4,?_⟩
   rcases h2 with e2|⟨t,b',e2,x',hx',hn⟩|⟨s,e2⟩|⟨vs,e2,hpl⟩
   ·rw[e2];exact trivial
   ·have hy:h.get b=some x:=(le.2 b x h1).resolve_left (by rw[e2];intro q;cases q)
    rw[hy] at h3
    cases h3
    rw[e2] at h5 ⊢
    obtain ⟨cs,T,lo,hi,g1,g2,g3,g4⟩:=h5
    refine ⟨cs,T,lo,hi,g1,fun i z hz=>?_,g3,g4⟩
    obtain ⟨v,k1,k2⟩:=g2 i z hz
    refine ⟨v,k1,?_⟩
    have hb':b'<h0.n:=ok.lt b' x' hx'
    have hq:h.get b'=some x':=(le.2 b' x' hx').resolve_left hn
    have hz':z=.iface t (.ptr b' 0):=by
     cases i with
     | zero=>simpa using hz.symm
     | succ i=>simp at hz
    subst hz'
    simp only[VR] at k2 ⊢
    obtain ⟨w1,w2,a,w3,w4⟩:=k2
    refine ⟨w1,w2,a,w3,?_⟩
    have hi':infoOf h0.get b'=infoOf h.get b':=by unfold infoOf;rw[hq,hx']
    rw[hi',if_pos hb']
    exact w4
   ·have hy:h.get b=some x:=(le.2 b x h1).resolve_left (by rw[e2];intro q;cases q)
    rw[hy] at h3
    cases h3
    rw[e2] at h5 ⊢
    obtain ⟨cs,T,lo,hi,g1,g2,g3,g4⟩:=h5
    refine ⟨cs,T,lo,hi,g1,fun i z hz=>?_,g3,g4⟩
    obtain ⟨v,k1,k2⟩:=g2 i z hz
    have hz':z=.str s:=by
     cases i with
     | zero=>simpa using hz.symm
     | succ i=>simp at hz
    subst hz'
    exact ⟨v,k1,plain_str s _ _ _ _ _ _ _ k2⟩
   ·have hy:h.get b=some x:=(le.2 b x h1).resolve_left (by rw[e2];intro q;cases q)
    rw[hy] at h3
    cases h3
    rw[e2] at h5 ⊢
    obtain ⟨cs,T,lo,hi,g1,g2,g3,g4⟩:=h5
    refine ⟨cs,T,lo,hi,g1,fun i z hz=>?_,g3,g4⟩
    obtain ⟨v,k1,k2⟩:=g2 i z hz
    exact ⟨v,k1,hpl z (List.mem_of_getElem? hz) _ _ _ _ _ _ _ k2⟩
  ·cases e
 inj b _ _ _ _ _ _ ow _:=absurd ow (ok.noOwn b)
theorem CallGives.mono {P:Program} {f:FuncId} {args:Array Value} {w:World} {φ ψ φ' ψ':Value→World→Prop} (h:CallGives P f args w φ ψ) (h1:∀v w,φ v w→φ' v w) (h2:∀v w,ψ v w→ψ' v w):CallGives P f args w φ' ψ':=by
 unfold CallGives at h ⊢
 split
 ·rename_i g as w1 e
  rw[e] at h
  refine Calls.mono h ?_
  rintro e w (⟨v,a,b⟩|⟨v,a,b⟩)
  ·exact .inl ⟨v,a,h1 _ _ b⟩
  ·exact .inr ⟨v,a,h2 _ _ b⟩
 ·rename_i v w1 e
  rw[e] at h
  exact h1 _ _ h
 ·rename_i n1 n2
  split at h
  ·rename_i g as w1 e;exact n1 _ _ _ e
  ·rename_i v w1 e;exact n2 _ _ e
  ·exact h
open Classical in
noncomputable def runP (h0:AHeap) (g:List AV→Option AV) (args:List AV) (h:AHeap):Option (CRes×AHeap):=
 match g args with
 | some r=>if LowEq h0 h then some (.ret r,h) else none
 | none=>none
theorem runP_eq {h0 h:AHeap} {g:List AV→Option AV} {args:List AV} {r:AV} (hg:g args=some r) (hl:LowEq h0 h):runP h0 g args h=some (.ret r,h):=by
 unfold runP
 rw[hg]
 simp only[if_pos hl]
theorem runP_inv {h0 h h':AHeap} {g:List AV→Option AV} {args:List AV} {res:CRes} (e:runP h0 g args h=some (res,h')):∃r,g args=some r∧LowEq h0 h∧res=.ret r∧h=h':=by
 unfold runP at e
 split at e
 ·rename_i r hr
  split at e
  ·rename_i hl
   cases e
   exact ⟨r,hr,hl,rfl,rfl⟩
  ·cases e
 ·cases e
theorem runP_ok {P:Program} {F0:Nat→Option MFun} (hF:FOk P F0) (hp:PrimsH F0) (hmix:P.follows .mixedOrders=true) {h0:AHeap} (ok:LowOk h0) (hG:P.globals.size≤h0.n) {f:FuncId} {g:List AV→Option AV} (hg:∀args r,g args=some r→PlainL args∧Plain r∧∃k h1,evCall F0 k f args h0=some (.ret r,h1)):PrimOk P f (runP h0 g):=by
 intro args h res h' e ι w args' gl hr hv
 obtain ⟨r,hgr,le,rfl,rfl⟩:=runP_inv e
 obtain ⟨pa,pr,k,h1,hrun⟩:=hg _ _ hgr
 have hr0:=hr.low ok le
 have hc:=calls_sound hF hp hmix k f args h0 _ _ hrun _ w args' (fun g hg=>(if_pos (by omega)).trans (gl g hg)) hr0 (pa _ _ _ _ _ _ _ hv)
 refine hc.mono ?_ ?_
 ·rintro v w' ⟨x,e1,ι',st,rl,vv⟩
  cases e1
  have keep:∀c,c<w.heap.size→w'.heap[c]?=w.heap[c]?:=fun c hc=>st.keep c hc fun b p _ ow=>ok.noOwn b ow
  have gr:Grow ι (infoOf h.get) (wsz w) ι (infoOf h.get) (wsz w'):=⟨fun _ _ e=>e,fun _ e=>e,fun _ _ _ _ _ _ e=>.inl e,st.grow.sz⟩
  refine ⟨r,rfl,ι,⟨gr,fun b x h1 h2=>(by rw[h1] at h2;cases h2),Nat.le_refl _,st.wn_le,fun c hc _=>keep c hc,fun b c p h1 h2=>(by rw[h1] at h2;cases h2),st.oth⟩,⟨hr.dom,hr.lt,fun b c p hb=>?_,hr.inj⟩,pr _ _ _ _ _ _ _ vv⟩
  obtain ⟨x,q1,q2,q3⟩:=hr.obj b c p hb
  exact ⟨x,q1,Nat.lt_of_lt_of_le q2 st.wn_le,ORel.mono gr (keep c q2) q3⟩
 ·rintro v w' ⟨x,e1,_⟩
  cases e1
theorem runP_h {h0 h h':AHeap} {g:List AV→Option AV} {args:List AV} {r:CRes} (e:runP h0 g args h=some (r,h')):HSt h h':=by
 obtain ⟨_,_,_,_,rfl⟩:=runP_inv e
 exact HSt.refl _
end Go.Ev
namespace Go.Ev
open Go
structure Ext (ι:Mp) (h:AHeap) (ι':Mp) (h':AHeap):Prop where
 n:h.n≤h'.n
 old:∀b,b<h.n→h'.get b=h.get b
 ext:∀b x,ι b=some x→ι' b=some x
theorem Ext.refl (ι:Mp) (h:AHeap):Ext ι h ι h:=⟨Nat.le_refl _,fun _ _=>rfl,fun _ _ e=>e⟩
theorem Ext.trans {ι ι' ι'':Mp} {h h' h'':AHeap} (a:Ext ι h ι' h') (b:Ext ι' h' ι'' h''):Ext ι h ι'' h'':=
 ⟨Nat.le_trans a.n b.n,fun c hc=>(b.old c (Nat.lt_of_lt_of_le hc a.n)).trans (a.old c hc),fun c x e=>b.ext c x (a.ext c x e)⟩
theorem Ext.info {ι ι':Mp} {h h':AHeap} (e:Ext ι h ι' h') {b:Nat} (hb:b<h.n):infoOf h'.get b=infoOf h.get b:=by unfold infoOf;rw[e.old b hb]
theorem info_lt {ι:Mp} {h:AHeap} {W:World} (r:Rel ι h W) {b:Nat} (hd:infoOf h.get b=.dead):b<h.n:=by
 unfold infoOf at hd
 split at hd
 ·rename_i x hx;exact r.lt b x hx
 ·cases hd
theorem Ext.grow {ι ι':Mp} {h h':AHeap} {W:World} (e:Ext ι h ι' h') (r:Rel ι h W) (sz:Nat→Nat):Grow ι (infoOf h.get) sz ι' (infoOf h'.get) sz where
 ext:=e.ext
 dead b hd:=by rw[e.info (info_lt r hd)];exact hd
 live b o f s x hx hl:=by rw[e.info (r.dom b x.1 x.2 hx)];exact .inl hl
 sz _:=Nat.le_refl _
def NoOwn (h:AHeap):Prop:=∀b,¬OwnL h b
theorem lay_ro {ι:Mp} {h:AHeap} {W:World} (r:Rel ι h W) (no:NoOwn h) {c p es:Nat} {vs:List AV} (hc:c<W.heap.size) (ho:ORel ι (infoOf h.get) (wsz W) W c p (.cells .ro es vs)) :
  ∃ι',Ext ι h ι' (h.alloc (.cells .ro es vs))∧Rel ι' (h.alloc (.cells .ro es vs)) W∧NoOwn (h.alloc (.cells .ro es vs))∧ι' h.n=some (c,p):=by
 have hno:∀x,ι h.n≠some x:=fun x e=>Nat.lt_irrefl _ (r.dom h.n x.1 x.2 e)
 let ι':Mp:=fun b=>if b=h.n then some (c,p) else ι b
 have hi:∀b,ι' b=if b=h.n then some (c,p) else ι b:=fun _=>rfl
 have e:Ext ι h ι' (h.alloc (.cells .ro es vs)):=⟨by simp,fun b hb=>by rw[AHeap.get_alloc,if_neg (by omega)],fun b x hx=>by
  rw[hi,if_neg (by rintro rfl;exact hno x hx)];exact hx⟩
 have hinf:∀b,b≠h.n→infoOf (h.alloc (.cells .ro es vs)).get b=infoOf h.get b:=fun b hb=>by unfold infoOf;rw[AHeap.get_alloc,if_neg hb]
 have hnew:infoOf (h.alloc (.cells .ro es vs)).get h.n=.live false false es:=by unfold infoOf;rw[AHeap.get_alloc,if_pos rfl];rfl
 have no':NoOwn (h.alloc (.cells .ro es vs)):=by
  rintro b ⟨f,s,hb⟩
  by_cases e1:b=h.n
  ·subst e1;rw[hnew] at hb;cases hb
  ·rw[hinf b e1] at hb;exact no b ⟨f,s,hb⟩
 refine ⟨ι',e,?_,no',by rw[hi,if_pos rfl]⟩
 exact {
  dom:=fun b c' p' hb=>by
   rw[hi] at hb
   split at hb
   ·simp only[AHeap.alloc_n];omega
   ·have:=r.dom b c' p' hb;simp only[AHeap.alloc_n];omega
  lt:=fun b x hb=>by
   rw[AHeap.get_alloc] at hb
   split at hb
   ·simp only[AHeap.alloc_n];omega
   ·have:=r.lt b x hb;simp only[AHeap.alloc_n];omega
  obj:=fun b c' p' hb=>by
   rw[hi] at hb
   by_cases e1:b=h.n
   ·rw[if_pos e1] at hb
    cases hb
    exact ⟨⟨0,.cells .ro es vs⟩,by rw[AHeap.get_alloc,if_pos e1],hc,ORel.mono (e.grow r _) rfl ho⟩
   ·rw[if_neg e1] at hb
    obtain ⟨x,hx,h1,h2⟩:=r.obj b c' p' hb
    exact ⟨x,by rw[AHeap.get_alloc,if_neg e1];exact hx,h1,ORel.mono (e.grow r _) rfl h2⟩
  inj:=fun b b' c' p' p'' _ _ ow _=>absurd ow (no' b) }
def layB (P:Program) (S:List TypeId) (tot:Nat):Nat→List Field→Bool
 | off,[]=>off==tot
 | off,f::r=>f.offset==off&&S.contains f.type&&layB P S tot (off+P.cellsOf f.type) r
def plainT (P:Program) (S:List TypeId):Bool:=S.all fun t=>match P.underlying t with
 | some (.int _)=>P.cellsOf t==1
 | some .string=>P.cellsOf t==1
 | some .bool=>P.cellsOf t==1
 | some (.slice e)=>S.contains e&&P.cellsOf t==1&&decide (0<P.cellsOf e)
 | some (.struct fs)=>layB P S (P.cellsOf t) 0 fs.toList
 | _=>false
section
variable {H:Type}
inductive DatR (P:Program) (h:AHeap):TypeId→DataW H→List AV→Prop
 | int {t:TypeId} {k:IntKind} {n:Int}:P.underlying t=some (.int k)→(Lit.int k n).wf=true→DatR P h t (.lit (.int k n)) [.int k n]
 | str {t:TypeId} {s:List UInt8}:P.underlying t=some .string→s.length≤maxLen→DatR P h t (.lit (.string s)) [.str s]
 | bool {t:TypeId} {b:Bool}:P.underlying t=some .bool→DatR P h t (.lit (.bool b)) [.bool b]
 | nil {t e:TypeId}:P.underlying t=some (.slice e)→DatR P h t .nil [.nilSlice]
 | emp {t e:TypeId} {b cap:Nat} {rest:List (DataW H)}:P.underlying t=some (.slice e)→DatR P h t (.slice [] rest) [.slice b 0 0 cap true]
 | slice {t e:TypeId} {b cap:Nat} {ds rest:List (DataW H)} {cs:List AV}:P.underlying t=some (.slice e)→ds≠[]→(ds.length≤maxLen∧ds.length≤cap)→b<h.n→h.get b=some ⟨0,.cells .ro (P.cellsOf e) cs⟩→
   cs.length=ds.length*P.cellsOf e→(∀(i:Nat) (d:DataW H),ds[i]?=some d→DatR P h e d ((cs.drop (i*P.cellsOf e)).take (P.cellsOf e)))→DatR P h t (.slice ds rest) [.slice b 0 ds.length cap true]
 | agg {t:TypeId} {fs:Array Field} {ds:List (DataW H)} {cs:List AV}:P.underlying t=some (.struct fs)→cs.length=P.cellsOf t→ds.length=fs.size→
   (∀(i:Nat) (f:Field) (d:DataW H),fs[i]?=some f→ds[i]?=some d→DatR P h f.type d ((cs.drop f.offset).take (P.cellsOf f.type)))→DatR P h t (.agg ds) cs
theorem DatR.keep {P:Program} {h h':AHeap} (hn:h.n≤h'.n) (f:∀b,b<h.n→h'.get b=h.get b) {t:TypeId} {d:DataW H} {cs:List AV} (r:DatR P h t d cs):DatR P h' t d cs:=by
 induction r with
 | int h1 h2=>exact .int h1 h2
 | str h1 h2=>exact .str h1 h2
 | bool h1=>exact .bool h1
 | nil h1=>exact .nil h1
 | emp h1=>exact .emp h1
 | slice h1 h2 h3 h4 h5 h6 _ ih=>exact .slice h1 h2 h3 (Nat.lt_of_lt_of_le h4 hn) ((f _ h4).trans h5) h6 ih
 | agg h1 h2 h3 _ ih=>exact .agg h1 h2 h3 ih
variable {enc:TypeId×Value→H} {P:Program} {W:World} {base:Nat} {spare:Nat→Bool} {held:Bool}
def Opens (P:Program) (W:World) (z:Nat) (t:TypeId) (cs:List Value) (d:DataW H):Prop:=
 ∀(ι:Mp) (h:AHeap),Rel ι h W→NoOwn h→infoOf h.get z=.dead→∃(ι':Mp) (h':AHeap) (vs:List AV),Ext ι h ι' h'∧Rel ι' h' W∧NoOwn h'∧VRL ι' (infoOf h'.get) (wsz W) vs cs∧DatR P h' t d vs
theorem opens_fields {z:Nat} {S:List TypeId} {tot:Nat} {cs:List Value} (hcs:cs.length=tot):∀(fs:List Field) (ds:List (DataW H)) (off:Nat),layB P S tot off fs=true→ds.length=fs.length→
  (∀(i:Nat) (f:Field) (d:DataW H),fs[i]?=some f→ds[i]?=some d→Opens P W z f.type ((cs.drop f.offset).take (P.cellsOf f.type)) d)→
  ∀(ι:Mp) (h:AHeap),Rel ι h W→NoOwn h→infoOf h.get z=.dead→∃(ι':Mp) (h':AHeap) (vs:List AV),Ext ι h ι' h'∧Rel ι' h' W∧NoOwn h'∧VRL ι' (infoOf h'.get) (wsz W) vs (cs.drop off)∧off≤tot∧
   ∀(i:Nat) (f:Field) (d:DataW H),fs[i]?=some f→ds[i]?=some d→off≤f.offset∧DatR P h' f.type d ((vs.drop (f.offset-off)).take (P.cellsOf f.type))
 | [],ds,off,hl,hd,_,ι,h,r,no,hz=>by
  simp only[layB,beq_iff_eq] at hl
  refine ⟨ι,h,[],Ext.refl _ _,r,no,?_,by omega,fun i f d hf=>by simp at hf⟩
  rw[List.drop_of_length_le (by omega)]
  simp [VRL]
 | f::fs,[],off,hl,hd,_,ι,h,r,no,hz=>by simp at hd
 | f::fs,d::ds,off,hl,hd,hO,ι,h,r,no,hz=>by
  simp only[layB,Bool.and_eq_true,beq_iff_eq] at hl
  obtain ⟨⟨h1,h2⟩,h3⟩:=hl
  obtain ⟨ι1,h1',vs1,e1,r1,no1,v1,d1⟩:=hO 0 f d rfl rfl ι h r no hz
  have hz1:infoOf h1'.get z=.dead:=by rw[e1.info (info_lt r hz)];exact hz
  obtain ⟨ι2,h2',vs2,e2,r2,no2,v2,hle,d2⟩:=opens_fields hcs fs ds (off+P.cellsOf f.type) h3 (by simpa using hd) (fun i f' d' hf hd'=>hO (i+1) f' d' (by simpa using hf) (by simpa using hd')) ι1 h1' r1 no1 hz1
  have hlen:vs1.length=P.cellsOf f.type:=by
   rw[v1.length,List.length_take,List.length_drop];omega
  refine ⟨ι2,h2',vs1++vs2,e1.trans e2,r2,no2,?_,by omega,?_⟩
  ·have:=(VRL.mono (e2.grow r1 _) _ _ v1).append v2
   rw[h1] at this
   have hs:(cs.drop off).take (P.cellsOf f.type)++cs.drop (off+P.cellsOf f.type)=cs.drop off:=by
    rw[←List.drop_drop,List.take_append_drop]
   rw[hs] at this
   exact this
  ·intro i f' d' hf hd'
   cases i with
   | zero=>
    simp only[List.getElem?_cons_zero,Option.some.injEq] at hf hd'
    subst hf hd'
    refine ⟨by omega,?_⟩
    rw[h1,Nat.sub_self,List.drop_zero,List.take_append_of_le_length (by omega),List.take_of_length_le (by omega)]
    exact d1.keep e2.n e2.old
   | succ i=>
    simp only[List.getElem?_cons_succ] at hf hd'
    obtain ⟨g1,g2⟩:=d2 i f' d' hf hd'
    refine ⟨by omega,?_⟩
    have:f'.offset-off=vs1.length+(f'.offset-(off+P.cellsOf f.type)):=by omega
    rw[this,List.drop_append,List.drop_of_length_le (by omega),List.nil_append,Nat.add_sub_cancel_left]
    exact g2
theorem opens_elems {z:Nat} {e:TypeId} {sz:Nat} {f:Nat→Option Value} (hsz:P.cellsOf e=sz):∀(ds:List (DataW H)) (k:Nat),
  (∀(i:Nat) (d:DataW H),ds[i]?=some d→∃cs:List Value,cs.length=sz∧(∀j,j<sz→cs[j]?=f ((k+i)*sz+j))∧Opens P W z e cs d)→
  ∀(ι:Mp) (h:AHeap),Rel ι h W→NoOwn h→infoOf h.get z=.dead→∃(ι':Mp) (h':AHeap) (vs:List AV),Ext ι h ι' h'∧Rel ι' h' W∧NoOwn h'∧vs.length=ds.length*sz∧
   (∀(j:Nat) (x:AV),vs[j]?=some x→∃v,f (k*sz+j)=some v∧VR ι' (infoOf h'.get) (wsz W) x v)∧
   ∀(i:Nat) (d:DataW H),ds[i]?=some d→DatR P h' e d ((vs.drop (i*sz)).take sz)
 | [],k,_,ι,h,r,no,hz=>⟨ι,h,[],Ext.refl _ _,r,no,by simp,fun j x hx=>by simp at hx,fun i d hd=>by simp at hd⟩
 | d::ds,k,hO,ι,h,r,no,hz=>by
  obtain ⟨cs,hcl,hcf,ho⟩:=hO 0 d rfl
  obtain ⟨ι1,h1,vs1,e1,r1,no1,v1,d1⟩:=ho ι h r no hz
  have hz1:infoOf h1.get z=.dead:=by rw[e1.info (info_lt r hz)];exact hz
  obtain ⟨ι2,h2,vs2,e2,r2,no2,l2,v2,d2⟩:=opens_elems hsz ds (k+1) (fun i d' hd=>by
   obtain ⟨cs',g1,g2,g3⟩:=hO (i+1) d' (by simpa using hd)
   exact ⟨cs',g1,fun j hj=>by rw[g2 j hj,show k+(i+1)=k+1+i by omega],g3⟩) ι1 h1 r1 no1 hz1
  have hlen:vs1.length=sz:=v1.length.trans hcl
  refine ⟨ι2,h2,vs1++vs2,e1.trans e2,r2,no2,?_,?_,?_⟩
  ·rw[List.length_append,l2,hlen,List.length_cons,Nat.succ_mul];omega
  ·intro j x hx
   by_cases hj:j<sz
   ·rw[List.getElem?_append_left (by omega)] at hx
    obtain ⟨v,hv,hr⟩:=v1.get j x hx
    refine ⟨v,?_,VR.mono (e2.grow r1 _) _ _ hr⟩
    rw[←hv,hcf j hj,Nat.add_zero]
   ·rw[List.getElem?_append_right (by omega),hlen] at hx
    obtain ⟨v,hv,hr⟩:=v2 (j-sz) x hx
    refine ⟨v,?_,hr⟩
    rw[←hv]
    congr 1
    rw[Nat.succ_mul];omega
  ·intro i d' hd
   cases i with
   | zero=>
    simp only[List.getElem?_cons_zero,Option.some.injEq] at hd
    subst hd
    rw[Nat.zero_mul,List.drop_zero,List.take_append_of_le_length (by omega),List.take_of_length_le (by omega)]
    exact d1.keep e2.n e2.old
   | succ i=>
    simp only[List.getElem?_cons_succ] at hd
    have:(i+1)*sz=vs1.length+i*sz:=by rw[Nat.succ_mul];omega
    rw[this,List.drop_append,List.drop_of_length_le (by omega),List.nil_append,Nat.add_sub_cancel_left]
    exact d2 i d' hd
theorem opens_plain {z:Nat} {S:List TypeId} (hS:plainT P S=true):∀(fuel:Nat) (t:TypeId) (cs:List Value) (x:DataW H×List MemPlace),t∈S→DataW.trod enc P W base spare held fuel t cs=some x→Opens P W z t cs x.1:=by
 intro fuel
 induction fuel with
 | zero=>intro t cs x _ h;simp [DataW.trod] at h
 | succ n ih=>
  intro t cs x ht hx
  have hp:=List.all_eq_true.1 hS t ht
  cases hu:P.underlying t with
  | none=>rw[hu] at hp;cases hp
  | some u=>
   rw[hu] at hp
   cases u with
   | int k=>
    obtain ⟨m,rfl,rfl,hw⟩:=DataW.trod_int hu hx
    intro ι h r no hz
    exact ⟨ι,h,[.int k m],Ext.refl _ _,r,no,by simp only[VRL,VR];exact ⟨_,_,rfl,rfl,rfl⟩,.int hu hw⟩
   | string=>
    obtain ⟨s,rfl,rfl,hw⟩:=DataW.trod_string hu hx
    intro ι h r no hz
    exact ⟨ι,h,[.str s.data.toList],Ext.refl _ _,r,no,by simp only[VRL,VR];exact ⟨_,_,rfl,rfl,rfl⟩,.str hu (by simpa using hw)⟩
   | bool=>
    intro ι h r no hz
    rw[DataW.trod_step] at hx
    unfold DataW.trodStep at hx
    rw[hu] at hx
    split at hx
    all_goals first|(rename_i h1;cases h1;done)|skip
    all_goals (try (cases hx))
    all_goals simp_all
    exact ⟨ι,h,Ext.refl _ _,r,no,[.bool _],by simp only[VRL,VR];exact ⟨_,_,rfl,rfl,rfl⟩,.bool hu⟩
   | slice e=>
    simp only[Bool.and_eq_true,beq_iff_eq,decide_eq_true_eq] at hp
    obtain ⟨⟨he,_⟩,hpos⟩:=hp
    have he:e∈S:=by simpa using he
    rcases DataW.trod_slice hu hx with ⟨rfl,rfl⟩|⟨a,len,cap,elems,rest,n',hn',rfl,rfl,hb,hlc,hcm,hel,hgt,_,_⟩
    ·intro ι h r no hz
     exact ⟨ι,h,[.nilSlice],Ext.refl _ _,r,no,by simp only[VRL,VR];exact ⟨_,_,rfl,rfl,rfl⟩,.nil hu⟩
    ·cases hn'
     intro ι h r no hz
     by_cases h0:len=0
     ·have:elems=[]:=List.length_eq_zero_iff.1 (by omega)
      subst this
      subst h0
      refine ⟨ι,h,[.slice z 0 0 cap true],Ext.refl _ _,r,no,?_,.emp hu⟩
      simp only[VRL,VR]
      exact ⟨_,_,rfl,⟨_,_,rfl,hlc,Nat.le_refl _,.inl hz⟩,rfl⟩
     ·have each:∀i d,elems[i]?=some d→∃cs',W.cells? base (a.add (i*P.cellsOf e)) (P.cellsOf e)=some cs'∧DataW.trod enc P W base spare held n e cs'=some d:=by
       intro i d hd
       have hi:i<len:=by rw[←hel];exact (List.getElem?_eq_some_iff.1 hd).1
       have:=hgt i hi
       rw[hd] at this
       exact Option.bind_eq_some_iff.1 this
      have hadd:∀i j,(a.add i).add j=a.add (i+j):=by
       intro i j
       unfold Addr.add
       by_cases hi:i=0
       ·subst hi;simp
       ·by_cases hj:j=0
        ·subst hj;simp [hi]
        ·simp [hi,hj,Nat.add_assoc]
      obtain ⟨ι1,h1,vs,e1,r1,no1,l1,v1,d1⟩:=opens_elems (P:=P) (W:=W) (z:=z) (e:=e) (f:=fun j=>W.cell? (a.add j)) rfl (elems.map (·.1)) 0 (fun i d hd=>by
       rw[List.getElem?_map,Option.map_eq_some_iff] at hd
       obtain ⟨y,hy,rfl⟩:=hd
       obtain ⟨cs',g1,g2⟩:=each i y hy
       obtain ⟨_,g3,g4⟩:=World.cells?_some g1
       refine ⟨cs',g3,fun j hj=>?_,ih e cs' y he g2⟩
       rw[←g4 j hj,hadd,Nat.zero_add]) ι h r no hz
      rw[List.length_map,hel] at l1
      have hvpos:0<vs.length:=by rw[l1];exact Nat.mul_pos (by omega) hpos
      obtain ⟨v0,hv0,_⟩:=v1 0 _ (List.getElem?_eq_getElem hvpos)
      obtain ⟨ab,ao,sp⟩:=a
      have hsp:sp=none:=by
       have h0:=hv0
       simp only[Nat.zero_mul,Nat.zero_add] at h0
       simpa [Addr.add] using World.cell?_spot h0
      subst hsp
      have hcell:∀j,W.cell? (Addr.add ⟨ab,ao,none⟩ j)=W.cell? ⟨ab,ao+j,none⟩:=fun j=>by rw[Addr.add_lit]
      obtain ⟨cw,T,lo,hi',hW⟩:∃cw T lo hi',W.heap[ab]?=some (.cells cw T (lo,hi')):=by
       try simp only at hv0
       rw[hcell] at hv0
       unfold World.cell? at hv0
       simp only at hv0
       cases hb:W.heap[ab]? with
       | none=>rw[hb] at hv0;cases hv0
       | some o=>
        cases o with
        | cells cs T q=>obtain ⟨lo,hi⟩:=q;exact ⟨_,_,_,_,rfl⟩
        | _=>rw[hb] at hv0;cases hv0
      have hor:ORel ι1 (infoOf h1.get) (wsz W) W ab ao (.cells .ro (P.cellsOf e) vs):=by
       refine ⟨cw,T,lo,hi',hW,fun i x hx=>?_,fun h=>(by cases h),fun h=>(by cases h),fun h=>(by cases h)⟩
       obtain ⟨v,hv,hr⟩:=v1 i x hx
       refine ⟨v,?_,hr⟩
       simp only[Nat.zero_mul,Nat.zero_add] at hv
       rw[hcell] at hv
       unfold World.cell? at hv
       simp only[hW] at hv
       simpa using hv
      have hab:ab<W.heap.size:=(Array.getElem?_eq_some_iff.1 hW).1
      obtain ⟨ι2,e2,r2,no2,hio⟩:=lay_ro r1 no1 hab hor
      refine ⟨ι2,_,[.slice h1.n 0 len cap true],e1.trans e2,r2,no2,?_,?_⟩
      ·simp only[VRL,VR]
       exact ⟨_,_,rfl,⟨_,_,rfl,hlc,Nat.le_refl _,.inr ⟨ab,ao,hio,fun _=>⟨rfl,rfl⟩,fun h=>by cases h⟩⟩,rfl⟩
      ·have hml:(elems.map (·.1)).length=len:=by rw[List.length_map,hel]
       have:=DatR.slice (P:=P) (h:=h1.alloc (.cells .ro (P.cellsOf e) vs)) (b:=h1.n) (cap:=cap) (rest:=rest.map (·.1)) hu (ds:=elems.map (·.1)) (cs:=vs) (by intro q;rw[q] at hml;simp at hml;omega) ⟨by omega,by omega⟩ (by simp) (by rw[AHeap.get_alloc,if_pos rfl]) (by rw[hml];exact l1) (fun i d hd=>(d1 i d hd).keep e2.n e2.old)
       rw[hml] at this
       exact this
   | struct fs=>
    obtain ⟨xs,n',hn',rfl,hcl,hxl,hgt⟩:=DataW.trod_struct hu hx
    cases hn'
    intro ι h r no hz
    have hmem:∀(l:List Field) (off:Nat),layB P S (P.cellsOf t) off l=true→∀f∈l,f.type∈S:=by
     intro l
     induction l with
     | nil=>intro off _ f hf;cases hf
     | cons g l ihl=>
      intro off hl f hf
      simp only[layB,Bool.and_eq_true,beq_iff_eq] at hl
      rcases List.mem_cons.1 hf with rfl|hf
      ·simpa using hl.1.2
      ·exact ihl _ hl.2 f hf
    obtain ⟨ι1,h1,vs,e1,r1,no1,v1,_,d1⟩:=opens_fields (P:=P) (W:=W) (z:=z) (S:=S) hcl fs.toList (xs.map (·.1)) 0 hp (by simpa using hxl) (fun i f d hf hd=>by
     rw[List.getElem?_map,Option.map_eq_some_iff] at hd
     obtain ⟨y,hy,rfl⟩:=hd
     have hf':fs[i]?=some f:=by simpa using hf
     exact ih f.type _ y (hmem _ _ hp f (List.mem_of_getElem? hf)) ((hgt i f hf').trans hy)) ι h r no hz
    rw[List.drop_zero] at v1
    refine ⟨ι1,h1,vs,e1,r1,no1,v1,.agg hu (v1.length.trans hcl) (by simpa using hxl) fun i f d hf hd=>?_⟩
    have:=(d1 i f d (by simpa using hf) hd).2
    rwa[Nat.sub_zero] at this
   | _=>cases hp
end
end Go.Ev
namespace Go.Ev
open Go Go.RowKit
theorem run1 {P:Program} {F:FT} (hF:FOk P F) (hp:PrimsH F) (hmix:P.follows .mixedOrders=true) {f:FuncId} {fn:Func} (hfn:P.funcs[f]?=some fn) (hb:fn.body.isSome=true) (hn:(fn.name== "runtime.NumGoroutine")=false)
  {ι:Mp} {h:AHeap} {W:World} (hr:Rel ι h W) (hg:Glob P ι) (no:NoOwn h) {args:List AV} {args':Array Value} (hv:VRL ι (infoOf h.get) (wsz W) args args'.toList) (he:WF F f args h (fun r _=>r=.ret (.bool true))) :
  Calls P f args' W fun e W'=>e=.returned (.bool true)∧Below W.heap.size W W':=by
 obtain ⟨r,h',⟨k0,hk⟩,rfl⟩:=he.ev
 have hc:=calls_sound hF hp hmix k0 f args _ _ _ (hk k0 (Nat.le_refl _)) _ W args' hg hr hv
 unfold CallGives at hc
 obtain ⟨body,hbody⟩:=Option.isSome_iff_exists.1 hb
 have hne:fn.name≠ "runtime.NumGoroutine":=by simpa using hn
 have e:(callFunc f args').run P W=.ok (.enter f args') W:=by simp [callFunc,hfn,hbody,hne,Sem.run]
 rw[e] at hc
 refine hc.mono ?_
 rintro e W' (⟨v,rfl,x,hx,ι',st,_,hvv⟩|⟨v,rfl,x,hx,_⟩)
 ·cases hx
  simp only[VR] at hvv
  subst hvv
  exact ⟨rfl,st.oth.1,st.oth.2.2,st.oth.2.1,st.wn_le,fun k hk=>st.keep k hk fun b p _ ow=>no b ow⟩
 ·cases hx
theorem Ext.glob {P:Program} {ι ι':Mp} {h h':AHeap} (e:Ext ι h ι' h') (g:Glob P ι):Glob P ι':=fun k hk=>e.ext k _ (g k hk)
theorem noOwn0 {T NG K:Nat} {kn:Nat→Bool} {dt:Nat→Option (List AV)} {txt:Nat→List UInt8} {xs:Nat→AObj}:NoOwn (heap0 T NG K kn dt txt 0 xs):=by
 rintro b ⟨f,s,h⟩
 unfold infoOf at h
 rw[heap0_get] at h
 split at h
 ·rename_i x hx
  split at hx
  ·split at hx
   ·split at hx<;>(cases hx;cases h)
   ·split at hx
    ·split at hx<;>(cases hx;cases h)
    ·split at hx
     ·split at hx<;>(cases hx;cases h)
     ·omega
  ·cases hx
 ·cases h
section
variable {H:Type} {P:Program}
theorem weightsAll_get {e:TypeId}:∀{ds:List (DataW H)} {i:Nat} {d:DataW H},ds[i]?=some d→(DataW.weightsAll P e ds).all (·≤reachBytes)=true→(d.weights P e).all (·≤reachBytes)=true
 | [],i,d,h,_=>by simp at h
 | x::ds,0,d,h,hw=>by
  simp only[List.getElem?_cons_zero,Option.some.injEq] at h
  subst h
  rw[DataW.weightsAll,List.all_append,Bool.and_eq_true] at hw
  exact hw.1
 | x::ds,i+1,d,h,hw=>by
  rw[DataW.weightsAll,List.all_append,Bool.and_eq_true] at hw
  exact weightsAll_get (by simpa using h) hw.2
theorem weightsEach_get:∀{ts:List TypeId} {ds:List (DataW H)} {i:Nat} {t:TypeId} {d:DataW H},ts[i]?=some t→ds[i]?=some d→(DataW.weightsEach P ts ds).all (·≤reachBytes)=true→(d.weights P t).all (·≤reachBytes)=true
 | [],_,i,t,d,h,_,_=>by simp at h
 | _::_,[],i,t,d,_,h,_=>by simp at h
 | y::ts,x::ds,0,t,d,h1,h,hw=>by
  simp only[List.getElem?_cons_zero,Option.some.injEq] at h h1
  subst h h1
  rw[DataW.weightsEach,List.all_append,Bool.and_eq_true] at hw
  exact hw.1
 | y::ts,x::ds,i+1,t,d,h1,h,hw=>by
  rw[DataW.weightsEach,List.all_append,Bool.and_eq_true] at hw
  exact weightsEach_get (by simpa using h1) (by simpa using h) hw.2
variable {h:AHeap}
theorem DatR.int_inv {t:TypeId} {k:IntKind} (ht:P.underlying t=some (.int k)) {d:DataW H} {cs:List AV} (r:DatR P h t d cs):∃n,cs=[.int k n]∧(Lit.int k n).wf=true:=by
 cases r with
 | int h1 h2=>rw[ht] at h1;cases h1;exact ⟨_,rfl,h2⟩
 | str h1 _=>rw[ht] at h1;cases h1
 | bool h1=>rw[ht] at h1;cases h1
 | nil h1=>rw[ht] at h1;cases h1
 | emp h1=>rw[ht] at h1;cases h1
 | slice h1 _ _ _ _ _ _=>rw[ht] at h1;cases h1
 | agg h1 _ _ _=>rw[ht] at h1;cases h1
theorem DatR.str_inv {t:TypeId} (ht:P.underlying t=some .string) {d:DataW H} {cs:List AV} (r:DatR P h t d cs):∃s,cs=[.str s]∧d=.lit (.string s):=by
 cases r with
 | int h1 h2=>rw[ht] at h1;cases h1
 | str h1 _=>exact ⟨_,rfl,rfl⟩
 | bool h1=>rw[ht] at h1;cases h1
 | nil h1=>rw[ht] at h1;cases h1
 | emp h1=>rw[ht] at h1;cases h1
 | slice h1 _ _ _ _ _ _=>rw[ht] at h1;cases h1
 | agg h1 _ _ _=>rw[ht] at h1;cases h1
end
end Go.Ev
namespace Go.Ev
open Go
section
variable {F:FT} {a:AAct} {h:AHeap} {K:Post}
def loopX (I:Nat→AAct→AHeap→Prop) (J:AAct→AHeap→Prop) (n id:Nat) (K:Post):Post
 | .norm,a,h=>∃m,m<n∧I m a h
 | .exit i,a,h=>if i=id then J a h else K (.exit i) a h
 | e,a,h=>K e a h
variable {I:Nat→AAct→AHeap→Prop} {J:AAct→AHeap→Prop} {n id i:Nat}
@[go_sem] theorem loopX_norm:loopX I J n id K .norm a h=∃m,m<n∧I m a h:=Eq.trans rfl rfl
@[go_sem] theorem loopX_exit:loopX I J n id K (.exit i) a h=if i=id then J a h else K (.exit i) a h:=Eq.trans rfl rfl
@[go_sem] theorem loopX_ret:loopX I J n id K .ret a h=K .ret a h:=Eq.trans rfl rfl
@[go_sem] theorem loopX_pan {v:AV}:loopX I J n id K (.pan v) a h=K (.pan v) a h:=Eq.trans rfl rfl
end
attribute [irreducible] loopX
@[go_sem] theorem wantB_undef {w:Bool}:wantB (some undefA) w=false:=by cases w<;>rfl
section
variable {F:FT} {l:List MOper} {b:Bool} {o:MOper} {a:AAct} {h:AHeap} {K K':Post}
end
end Go.Ev
