/- The definitions of a tape-free evaluator on abstract values, for Go functions of the model. -/
import GoSem.Dispatch
import GoSem.Step
import Derived.CheckFast
import Derived.Calls
import Derived.Laws.Sem
import Derived.Laws.Cells
import Derived.Great.FillDense
import Derived.Laws.Append
import Derived.Laws.StructEq
import Derived.Laws.BytesArg
set_option linter.all false
set_option linter.unusedVariables false
set_option linter.unusedSimpArgs false
namespace Go.Ev
inductive Tr (α:Type) where
 | nil
 | node (l:Tr α) (v:Option α) (r:Tr α)
 deriving Inhabited
def Tr.get {α:Type}:Tr α→Nat→Option α
 | .nil,_=>none
 | .node l v r,n=>bif n.beq 0 then v else bif (n % 2).beq 1 then l.get (n / 2) else r.get (n / 2-1)
def Tr.put {α:Type} (x:α):Nat→Tr α→Nat→Tr α
 | 0,t,_=>t
 | f+1,.nil,n=>bif n.beq 0 then .node .nil (some x) .nil else bif (n % 2).beq 1 then .node (Tr.put x f .nil (n / 2)) none .nil else .node .nil none (Tr.put x f .nil (n / 2-1))
 | f+1,.node l v r,n=>bif n.beq 0 then .node l (some x) r else bif (n % 2).beq 1 then .node (Tr.put x f l (n / 2)) v r else .node l v (Tr.put x f r (n / 2-1))
def Tr.del {α:Type}:Tr α→Nat→Tr α
 | .nil,_=>.nil
 | .node l v r,n=>bif n.beq 0 then .node l none r else bif (n % 2).beq 1 then .node (l.del (n / 2)) v r else .node l v (r.del (n / 2-1))
def Tr.set {α:Type} (t:Tr α) (n:Nat) (x:α):Tr α:=Tr.put x (n+1) t n
inductive AV where
 | bool (b:Bool)
 | int (k:IntKind) (n:Int)
 | float (k:FloatKind) (bits:Nat)
 | str (s:List UInt8)
 | ptr (b o:Nat)
 | nilPtr
 | slice (b o len cap:Nat) (ex:Bool)
 | nilSlice
 | map (r:Nat)
 | nilMap
 | func (fn:Fn) (first captured:List AV)
 | nilFunc
 | iface (t:TypeId) (v:AV)
 | nilIface
 | agg (cs:List AV)
 | tuple (vs:List AV)
 deriving Inhabited
def undefA:AV:=.tuple []
def AV.cells:AV→List AV
 | .agg cs=>cs
 | v=>[v]
def AV.flat:AV→Bool
 | .agg _|.tuple _=>false
 | _=>true
inductive Md where
 | own|ro|sent|tag (t:Nat)|tab
 deriving DecidableEq,Inhabited,Repr
def Md.mine:Md→Bool
 | .own=>true
 | .tag _=>true
 | _=>false
def Md.thaw:Md→Bool
 | .ro=>false
 | .tab=>false
 | _=>true
def Md.same:Md→Md→Bool
 | .own,.own=>true
 | .tag a,.tag b=>a.beq b
 | _,_=>false
inductive AObj where
 | cells (md:Md) (es:Nat) (vs:List AV)
 | amap (es:List (AV×AV))
 | dead
 deriving Inhabited
structure Blk where
 ver:Nat
 o:AObj
 deriving Inhabited
structure AHeap where
 n:Nat
 t:Tr Blk
 deriving Inhabited
def AHeap.get (h:AHeap) (b:Nat):Option Blk:=h.t.get b
def AHeap.alloc (h:AHeap) (o:AObj):AHeap:=⟨h.n+1,h.t.set h.n ⟨0,o⟩⟩
def AHeap.upd (h:AHeap) (b ver:Nat) (o:AObj):AHeap:=⟨h.n,h.t.set b ⟨ver,o⟩⟩
def AHeap.ver (h:AHeap) (b:Nat):Nat:=match h.get b with|some x=>x.ver|none=>0
inductive Opd where
 | t (i:Nat)
 | c (v:AV)
 deriving Inhabited
inductive CK where
 | bool|int|str|ptr|iface|slice|map|func
 deriving Inhabited,DecidableEq
inductive KT where
 | one (k:CK)
 | many (ks:List CK)
 deriving Inhabited
inductive MOp where
 | mov (x:Opd)
 | pick (c a b:Opd)
 | new (md:Md) (zs:List AV)
 | box (x:Opd)
 | build (zs:List AV) (parts:List (Nat×Nat×Opd))
 | bslice (es:Nat) (zs:List AV) (len:Nat) (parts:List (Nat×Nat×Opd))
 | load (agg:Bool) (n:Nat) (a:Opd)
 | store (n:Nat) (a x:Opd)
 | nilck (x:Opd)
 | bin (op:BinOp) (x y:Opd)
 | eqv (neg:Bool) (t:KT) (x y:Opd)
 | un (op:UnOp) (x:Opd)
 | cvi (k:IntKind) (x:Opd)
 | cvbs (x:Opd)
 | cvs (x:Opd)
 | mkif (t:TypeId) (x:Opd)
 | mkfn (fn:Fn) (first captured:List Opd)
 | mkmap
 | mkslice (es bytes:Nat) (zs:List AV) (len cap:Opd)
 | slc (es:Nat) (x:Opd) (lo hi mx:Option Opd)
 | sls (x:Opd) (lo hi:Option Opd)
 | faddr (off:Nat) (x:Opd)
 | fld (agg:Bool) (off n:Nat) (x:Opd)
 | iaddr (es:Nat) (x i:Opd)
 | idxs (x i:Opd)
 | idxa (agg:Bool) (len n:Nat) (x i:Opd)
 | lookup (t:KT) (zero:AV) (m k:Opd) (ok:Bool)
 | mapupd (t:KT) (m k v:Opd)
 | tassert (to:TypeId) (zero:AV) (x:Opd)
 | ext (x:Opd) (i:Nat)
 | call (f:FuncId) (args:List Opd)
 | callv (f:Opd) (args:List Opd)
 | lenS (x:Opd)
 | lenL (x:Opd)
 | lenM (x:Opd)
 | append (md:Md) (es bytes:Nat) (s x:Opd)
 | appendz (es bytes:Nat) (zs:List AV) (s x:Opd)
 | copy (es:Nat) (d s:Opd)
 | mx (isMax:Bool) (x:Opd) (xs:List Opd)
 | iarr (len es:Nat) (x i:Opd)
 | slarr (len es:Nat) (x:Opd) (lo hi mx:Option Opd)
 | panic (x:Opd)
 | defer (f:Opd)
 | recover
 | burn
 deriving Inhabited
structure MOper where
 dst:Option Nat
 op:MOp
 guard:Option (Nat×Bool)
 bef:Nat
 deriving Inhabited
inductive MCode where
 | skip
 | reg (ops:List MOper)
 | regD (ops:List (Nat×MOper))
 | seq (a b:MCode)
 | cond (c:Opd) (a b:MCode)
 | block (id:Nat) (a:MCode)
 | loop (a:MCode)
 | exit (id:Nat)
 | ret
 deriving Inhabited
inductive RV where
 | t (i:Nat)
 | cell (i:Nat) (agg:Bool) (n:Nat)
 deriving Inhabited
inductive CRes where
 | ret (v:AV)
 | pan (v:AV)
 deriving Inhabited
inductive MFun where
 | code (nt:Nat) (body:MCode) (res:List RV)
 | prim (p:List AV→AHeap→Option (CRes×AHeap))
structure AAct where
 tm:Tr AV
 df:List (FuncId×List AV)
 deriving Inhabited
def AAct.put (a:AAct) (d:Option Nat) (v:AV):AAct:=
 match d with
 | some d=>⟨a.tm.set d v,a.df⟩
 | none=>a
def AAct.eval (a:AAct):Opd→AV
 | .t i=>(a.tm.get i).getD undefA
 | .c v=>v
inductive AExit where
 | norm
 | exit (id:Nat)
 | ret
 | pan (v:AV)
 deriving Inhabited
inductive Cls where
 | free
 | new
 | rd (b:Nat)
 | wr (b:Nat)
 | big
 deriving Inhabited
inductive Res where
 | v (x:AV) (h:AHeap) (k:Cls)
 | pan (x:AV) (h:AHeap)
 | df (f:FuncId) (args:List AV)
 deriving Inhabited
def row (vs:List AV) (o n:Nat):Option (List AV):=
 bif (o+n).ble vs.length then some ((vs.drop o).take n) else none
def lay (vs:List AV) (o:Nat) (cs:List AV):Option (List AV):=
 bif (o+cs.length).ble vs.length then some (vs.take o++(cs++vs.drop (o+cs.length))) else none
def fillA (ev:Opd→AV):List AV→List (Nat×Nat×Opd)→Option (List AV)
 | zs,[]=>some zs
 | zs,(off,size,x)::r=>
  let cs:=(ev x).cells
  bif cs.length.beq size then
   match lay zs off cs with
   | some zs=>fillA ev zs r
   | none=>none
  else none
def fits:IntKind→Int→Bool
 | .i64,n=>(-9223372036854775808:Int)≤n&&n≤(9223372036854775807:Int)
 | .u8,n=>(0:Int)≤n&&n≤(255:Int)
 | .u64,n=>(0:Int)≤n&&n≤(18446744073709551615:Int)
 | .i32,n=>(-2147483648:Int)≤n&&n≤(2147483647:Int)
 | _,_=>false
def wr (k:IntKind) (n:Int):Int:=bif fits k n then n else k.wrap n
def intBin (op:BinOp) (k:IntKind) (x y:Int):Option AV:=
 match op with
 | .add=>some (.int k (wr k (x+y)))
 | .sub=>some (.int k (wr k (x-y)))
 | .mul=>some (.int k (wr k (x*y)))
 | .quo=>bif y==0 then none else some (.int k (wr k (x.tdiv y)))
 | .rem=>bif y==0 then none else some (.int k (x.tmod y))
 | .and=>some (.int k (k.wrap ((BitVec.ofInt k.bits x &&& BitVec.ofInt k.bits y).toNat:Int)))
 | .or=>some (.int k (k.wrap ((BitVec.ofInt k.bits x ||| BitVec.ofInt k.bits y).toNat:Int)))
 | .xor=>some (.int k (k.wrap ((BitVec.ofInt k.bits x ^^^ BitVec.ofInt k.bits y).toNat:Int)))
 | .eql=>some (.bool (x==y))
 | .neq=>some (.bool (x != y))
 | .lss=>some (.bool (decide (x<y)))
 | .leq=>some (.bool (decide (x≤y)))
 | .gtr=>some (.bool (decide (x>y)))
 | .geq=>some (.bool (decide (x≥y)))
 | _=>none
def shiftA (op:BinOp) (k:IntKind) (x y:Int):Option AV:=
 bif decide (y<0) then none else
 match op with
 | .shl=>some (.int k (wr k (x*2^(min y.toNat k.bits))))
 | .shr=>some (.int k (x.fdiv (2^(min y.toNat k.bits))))
 | _=>none
def strBin (op:BinOp) (x y:List UInt8):Option AV:=
 match op with
 | .add=>bif (x.length+y.length).ble 9223372036854775807 then some (.str (x++y)) else none
 | .eql=>some (.bool (x==y))
 | .neq=>some (.bool !(x==y))
 | .lss=>some (.bool (Op.bytesLess x y))
 | .leq=>some (.bool (Op.bytesLess x y||x==y))
 | .gtr=>some (.bool !(Op.bytesLess x y||x==y))
 | .geq=>some (.bool !(Op.bytesLess x y))
 | _=>none
def binA (op:BinOp) (x y:AV):Option AV:=
 match x,y with
 | .int k a,.int k' b=>
  match op with
  | .shl|.shr=>shiftA op k a b
  | _=>bif decide (k=k') then intBin op k a b else none
 | .str a,.str b=>strBin op a b
 | _,_=>none
def eqK (t:CK) (x y:AV):Option Bool:=
 match t,x,y with
 | .bool,.bool a,.bool b=>some (a==b)
 | .int,.int k a,.int k' b=>bif decide (k=k') then some (a==b) else none
 | .str,.str a,.str b=>some (a==b)
 | .ptr,.nilPtr,.nilPtr=>some true
 | .ptr,.nilPtr,.ptr _ _=>some false
 | .ptr,.ptr _ _,.nilPtr=>some false
 | .iface,.nilIface,.nilIface=>some true
 | .iface,.nilIface,.iface _ _=>some false
 | .iface,.iface _ _,.nilIface=>some false
 | .iface,.iface t _,.iface u _=>bif t.beq u then none else some false
 | .slice,.nilSlice,.nilSlice=>some true
 | .slice,.nilSlice,.slice _ _ _ _ _=>some false
 | .slice,.slice _ _ _ _ _,.nilSlice=>some false
 | .map,.nilMap,.nilMap=>some true
 | .map,.nilMap,.map _=>some false
 | .map,.map _,.nilMap=>some false
 | .func,.nilFunc,.nilFunc=>some true
 | .func,.nilFunc,.func _ _ _=>some false
 | .func,.func _ _ _,.nilFunc=>some false
 | _,_,_=>none
def eqKs:List CK→List AV→List AV→Option Bool
 | [],[],[]=>some true
 | t::ts,x::xs,y::ys=>
  match eqK t x y with
  | some true=>eqKs ts xs ys
  | some false=>some false
  | none=>none
 | _,_,_=>none
def eqT (t:KT) (x y:AV):Option Bool:=
 match t,x,y with
 | .one k,x,y=>eqK k x y
 | .many ks,.agg xs,.agg ys=>eqKs ks xs ys
 | _,_,_=>none
def unA (op:UnOp) (x:AV):Option AV:=
 match op,x with
 | .neg,.int k n=>some (.int k (wr k (0-n)))
 | .not,.bool b=>some (.bool !b)
 | _,_=>none
def mxA (isMax:Bool):AV→List AV→Option AV
 | x,[]=>some x
 | .int k x,.int _ y::r=>mxA isMax (.int k (bif isMax then (bif decide (y>x) then y else x) else (bif decide (y<x) then y else x))) r
 | _,_=>none
def findA (t:KT) (k:AV):List (AV×AV)→Option (Option AV)
 | []=>some none
 | (k',v)::r=>
  match eqT t k k' with
  | some true=>some (some v)
  | some false=>findA t k r
  | none=>none
def setA (t:KT) (k v:AV):List (AV×AV)→Option (List (AV×AV))
 | []=>some [(k,v)]
 | (k',v')::r=>
  match eqT t k k' with
  | some true=>some ((k,v)::r)
  | some false=>match setA t k v r with|some r=>some ((k',v')::r)|none=>none
  | none=>none
def keyOk (t:KT) (k:AV):Bool:=match eqT t k k with|some true=>true|_=>false
def bytesOf:List AV→Option (List UInt8)
 | []=>some []
 | .int .u8 n::r=>match bytesOf r with|some s=>some (UInt8.ofNat n.toNat::s)|none=>none
 | _=>none
def repl (zs:List AV):Nat→List AV
 | 0=>[]
 | n+1=>zs++repl zs n
def bnd (x:Option AV) (dflt lim:Nat):Option Nat:=
 match x with
 | none=>some dflt
 | some (.int _ i)=>bif decide (0≤i)&&decide (i≤(lim:Int)) then some i.toNat else none
 | some _=>none
def elems (h:AHeap) (es:Nat):AV→Option (Nat×List AV)
 | .slice b o len _ _=>
  bif len.beq 0 then some (0,[]) else
  match h.get b with
  | some ⟨_,.cells _ _ vs⟩=>match row vs o (len*es) with|some cs=>some (len,cs)|none=>none
  | _=>none
 | .nilSlice=>some (0,[])
 | .str s=>bif es.beq 1 then some (s.length,s.map fun c=>.int .u8 c.toNat) else none
 | _=>none
def room:Nat:=70368744177664
def allFlat (vs:List AV):Bool:=vs.all AV.flat
def appendA (h:AHeap) (md:Md) (es bytes:Nat) (s:AV) (n:Nat) (new:List AV):Option (AV×AHeap):=
 bif !(new.length.beq (n*es))||!allFlat new then none else
 match s with
 | .nilSlice=>
  bif n.beq 0 then some (.nilSlice,h) else
  bif n.ble room&&(n*bytes).ble room then some (.slice h.n 0 n n false,h.alloc (.cells md es new)) else none
 | .slice b o len cap ex=>
  bif n.beq 0 then some (s,h) else
  match h.get b with
  | some ⟨ver,.cells md' es' vs⟩=>
   bif !(es'.beq es) then none else
   bif (len+n).ble cap then
    match md'.same md,lay vs (o+len*es) new with
    | true,some vs'=>some (.slice b o (len+n) cap ex,h.upd b (ver+1) (.cells md es vs'))
    | _,_=>none
   else bif (len+n).ble room&&((len+n)*bytes).ble room then
    match row vs o (len*es) with
    | none=>none
    | some old=>
     bif ex then some (.slice h.n 0 (len+n) (len+n) false,h.alloc (.cells md es (old++new)))
     else bif !(o.beq 0)||cap.beq 0 then none
     else match md'.same md with
      | true=>some (.slice h.n 0 (len+n) (len+n) false,(h.upd b (ver+1) .dead).alloc (.cells md es (old++new)))
      | false=>none
   else none
  | _=>none
 | _=>none
def evOp (call:FuncId→List AV→AHeap→Option (CRes×AHeap)) (a:AAct) (op:MOp) (h:AHeap):Option Res:=
 match op with
 | .mov x=>some (.v (a.eval x) h .free)
 | .pick c x y=>match a.eval c with|.bool b=>some (.v (bif b then a.eval x else a.eval y) h .free)|_=>none
 | .new md zs=>some (.v (.ptr h.n 0) (h.alloc (.cells md 0 zs)) .new)
 | .box x=>bif allFlat (a.eval x).cells then some (.v (.ptr h.n 0) (h.alloc (.cells .own 0 (a.eval x).cells)) .new) else none
 | .build zs parts=>match fillA a.eval zs parts with|some cs=>some (.v (.agg cs) h .free)|none=>none
 | .bslice es zs len parts=>match fillA a.eval zs parts with
  | some cs=>bif allFlat cs then some (.v (.slice h.n 0 len len true) (h.alloc (.cells .own es cs)) .new) else none
  | none=>none
 | .load agg n x=>match a.eval x with
  | .ptr b o=>match h.get b with
   | some ⟨_,.cells _ _ vs⟩=>
    bif agg then match row vs o n with|some cs=>some (.v (.agg cs) h (.rd b))|none=>none
    else match vs[o]? with|some v=>some (.v v h (.rd b))|none=>none
   | _=>none
  | _=>none
 | .store n x y=>match a.eval x with
  | .ptr b o=>
   let cs:=(a.eval y).cells
   bif !(cs.length.beq n)||!allFlat cs then none else
   match h.get b with
   | some ⟨ver,.cells md es vs⟩=>match md.mine,lay vs o cs with
    | true,some vs'=>some (.v undefA (h.upd b (ver+1) (.cells md es vs')) (.wr b))
    | _,_=>none
   | _=>none
  | _=>none
 | .nilck x=>match a.eval x with
  | .ptr b o=>some (.v (.ptr b o) h .free)
  | .iface t v=>some (.v (.iface t v) h .free)
  | _=>none
 | .bin op x y=>match binA op (a.eval x) (a.eval y) with|some v=>some (.v v h .free)|none=>none
 | .eqv neg t x y=>match eqT t (a.eval x) (a.eval y) with|some b=>some (.v (.bool (bif neg then !b else b)) h .free)|none=>none
 | .un op x=>match unA op (a.eval x) with|some v=>some (.v v h .free)|none=>none
 | .cvi k x=>match a.eval x with|.int _ n=>some (.v (.int k (wr k n)) h .free)|_=>none
 | .cvbs x=>match a.eval x with
  | .nilSlice=>some (.v (.str []) h .free)
  | .slice b o len _ _=>
   bif len.beq 0 then some (.v (.str []) h .free) else
   match h.get b with
   | some ⟨_,.cells _ _ vs⟩=>match row vs o len with
    | some cs=>match bytesOf cs with|some s=>some (.v (.str s) h (.rd b))|none=>none
    | none=>none
   | _=>none
  | _=>none
 | .cvs x=>match a.eval x with|.str s=>some (.v (.str s) h .free)|_=>none
 | .mkif t x=>some (.v (.iface t (a.eval x)) h .free)
 | .mkfn fn fs cs=>some (.v (.func fn (fs.map a.eval) (cs.map a.eval)) h .free)
 | .mkmap=>some (.v (.map h.n) (h.alloc (.amap [])) .new)
 | .mkslice es bytes zs l c=>match a.eval l,a.eval c with
  | .int _ l,.int _ c=>
   bif decide (0≤l)&&decide (l≤c)&&decide (c≤(room:Int))&&decide (c*(bytes:Int)≤(room:Int)) then
    some (.v (.slice h.n 0 l.toNat c.toNat true) (h.alloc (.cells .own es (repl zs c.toNat))) .new)
   else none
  | _,_=>none
 | .slc es x lo hi mx=>match a.eval x with
  | .nilSlice=>match bnd (mx.map a.eval) 0 0 with
   | some m=>match bnd (hi.map a.eval) 0 m with
    | some hh=>match bnd (lo.map a.eval) 0 hh with|some _=>some (.v .nilSlice h .free)|none=>none
    | none=>none
   | none=>none
  | .slice b o len cap ex=>match bnd (mx.map a.eval) cap cap with
   | some m=>match bnd (hi.map a.eval) len m with
    | some hh=>match bnd (lo.map a.eval) 0 hh with
     | some l=>
      let ex':=ex||mx.isSome
      bif ex then some (.v (.slice b (bif m.beq l then o else o+l*es) (hh-l) (m-l) ex') h .free)
      else bif cap.beq 0 then none else bif m.beq l&&mx.isSome then
       bif l.beq 0 then some (.v (.slice b o 0 0 true) h .free) else none
      else match h.get b with
       | some ⟨_,.cells _ es' _⟩=>bif es'.beq es then some (.v (.slice b (o+l*es) (hh-l) (m-l) ex') h (.rd b)) else none
       | _=>none
     | none=>none
    | none=>none
   | none=>none
  | _=>none
 | .sls x lo hi=>match a.eval x with
  | .str s=>match bnd (hi.map a.eval) s.length s.length with
   | some hh=>match bnd (lo.map a.eval) 0 hh with
    | some l=>some (.v (.str ((s.drop l).take (hh-l))) h .free)
    | none=>none
   | none=>none
  | _=>none
 | .faddr off x=>match a.eval x with|.ptr b o=>some (.v (.ptr b (o+off)) h .free)|_=>none
 | .fld agg off n x=>match a.eval x with
  | .agg cs=>
   bif agg then match row cs off n with|some cs=>some (.v (.agg cs) h .free)|none=>none
   else match cs[off]? with|some v=>some (.v v h .free)|none=>none
  | _=>none
 | .iaddr es x i=>match a.eval x,a.eval i with
  | .slice b o len _ _,.int _ i=>bif decide (0≤i)&&decide (i<(len:Int)) then some (.v (.ptr b (o+i.toNat*es)) h .free) else none
  | _,_=>none
 | .idxs x i=>match a.eval x,a.eval i with
  | .str s,.int _ i=>bif decide (0≤i) then match s[i.toNat]? with|some c=>some (.v (.int .u8 c.toNat) h .free)|none=>none else none
  | _,_=>none
 | .idxa agg len n x i=>match a.eval x,a.eval i with
  | .agg cs,.int _ i=>
   bif decide (0≤i)&&decide (i<(len:Int)) then
    bif agg then match row cs (i.toNat*n) n with|some cs=>some (.v (.agg cs) h .free)|none=>none
    else match cs[i.toNat*n]? with|some v=>some (.v v h .free)|none=>none
   else none
  | _,_=>none
 | .lookup t zero m k ok=>bif !keyOk t (a.eval k) then none else match a.eval m with
  | .nilMap=>some (.v (bif ok then .tuple [zero,.bool false] else zero) h .free)
  | .map r=>match h.get r with
   | some ⟨_,.amap es⟩=>match findA t (a.eval k) es with
    | some (some v)=>some (.v (bif ok then .tuple [v,.bool true] else v) h .big)
    | some none=>some (.v (bif ok then .tuple [zero,.bool false] else zero) h .big)
    | none=>none
   | _=>none
  | _=>none
 | .mapupd t m k v=>bif !keyOk t (a.eval k) then none else match a.eval m with
  | .map r=>match h.get r with
   | some ⟨ver,.amap es⟩=>match setA t (a.eval k) (a.eval v) es with
    | some es'=>some (.v undefA (h.upd r (ver+1) (.amap es')) .big)
    | none=>none
   | _=>none
  | _=>none
 | .tassert to zero x=>match a.eval x with
  | .nilIface=>some (.v (.tuple [zero,.bool false]) h .free)
  | .iface t v=>some (.v (bif t.beq to then .tuple [v,.bool true] else .tuple [zero,.bool false]) h .free)
  | _=>none
 | .ext x i=>match a.eval x with
  | .tuple vs=>match vs[i]? with|some v=>some (.v v h .free)|none=>none
  | _=>none
 | .call f args=>match call f (args.map a.eval) h with
  | some (.ret v,h')=>some (.v v h' .big)
  | some (.pan v,h')=>some (.pan v h')
  | none=>none
 | .callv f args=>match a.eval f with
  | .func (.func f) fs cs=>match call f (fs++(args.map a.eval++cs)) h with
   | some (.ret v,h')=>some (.v v h' .big)
   | some (.pan v,h')=>some (.pan v h')
   | none=>none
  | _=>none
 | .lenS x=>match a.eval x with
  | .str s=>some (.v (.int .i64 s.length) h .free)
  | _=>none
 | .lenL x=>match a.eval x with
  | .slice _ _ len _ _=>some (.v (.int .i64 len) h .free)
  | .nilSlice=>some (.v (.int .i64 0) h .free)
  | _=>none
 | .lenM x=>match a.eval x with
  | .nilMap=>some (.v (.int .i64 0) h .free)
  | .map r=>match h.get r with|some ⟨_,.amap es⟩=>some (.v (.int .i64 es.length) h .big)|_=>none
  | _=>none
 | .append md es bytes s x=>match elems h es (a.eval x) with
  | some (n,new)=>match appendA h md es bytes (a.eval s) n new with|some (v,h')=>some (.v v h' .big)|none=>none
  | none=>none
 | .appendz es bytes zs s x=>match a.eval x with
  | .int .i64 n=>bif decide (0≤n)&&decide (n≤(room:Int))&&decide (n*(bytes:Int)≤(room:Int)) then
    match appendA h .own es bytes (a.eval s) n.toNat (repl zs n.toNat) with|some (v,h')=>some (.v v h' .big)|none=>none
   else none
  | _=>none
 | .copy es d s=>match elems h es (a.eval s),a.eval d with
  | some (n,cs),.slice b o len _ _=>
   bif (Nat.min n len).beq 0 then some (.v (.int .i64 0) h .big) else
   match h.get b with
   | some ⟨ver,.cells .own es' vs⟩=>bif !allFlat (cs.take (Nat.min n len*es)) then none else match lay vs o (cs.take (Nat.min n len*es)) with
    | some vs'=>some (.v (.int .i64 (Nat.min n len)) (h.upd b (ver+1) (.cells .own es' vs')) .big)
    | none=>none
   | _=>none
  | some _,.nilSlice=>some (.v (.int .i64 0) h .big)
  | _,_=>none
 | .mx isMax x xs=>match mxA isMax (a.eval x) (xs.map a.eval) with|some v=>some (.v v h .free)|none=>none
 | .iarr len es x i=>match a.eval x,a.eval i with
  | .ptr b o,.int _ i=>bif decide (0≤i)&&decide (i<(len:Int)) then some (.v (.ptr b (o+i.toNat*es)) h .free) else none
  | _,_=>none
 | .slarr len es x lo hi mx=>match a.eval x with
  | .ptr b o=>match bnd (mx.map a.eval) len len with
   | some m=>match bnd (hi.map a.eval) len m with
    | some hh=>match bnd (lo.map a.eval) 0 hh with
     | some l=>some (.v (.slice b (bif m.beq l then o else o+l*es) (hh-l) (m-l) true) h .free)
     | none=>none
    | none=>none
   | none=>none
  | _=>none
 | .panic x=>match a.eval x with|.iface t v=>some (.pan (.iface t v) h)|_=>none
 | .defer f=>match a.eval f with|.func (.func f) fs cs=>some (.df f (fs++cs))|_=>none
 | .recover=>none
 | .burn=>some (.v undefA (h.alloc .dead) .big)
def wantedA (a:AAct):Option (Nat×Bool)→Bool
 | none=>true
 | some (t,want)=>match a.tm.get t with|some (.bool b)=>b==want|_=>false
def evOps (call:FuncId→List AV→AHeap→Option (CRes×AHeap)):List MOper→AAct→AHeap→Option (AExit×AAct×AHeap)
 | [],a,h=>some (.norm,a,h)
 | o::r,a,h=>
  bif wantedA a o.guard then
   match evOp call a o.op h with
   | some (.v x h' _)=>evOps call r (a.put o.dst x) h'
   | some (.pan x h')=>some (.pan x,a,h')
   | some (.df f args)=>evOps call r (AAct.put ⟨a.tm,(f,args)::a.df⟩ o.dst undefA) h
   | none=>none
  else evOps call r (a.put o.dst undefA) h
structure Rec where
 i:Nat
 k:Cls
 hb:AHeap
 ha:AHeap
def compat (r:Rec) (k:Cls) (hb ha:AHeap):Bool:=
 match r.k,k with
 | .free,_=>true
 | _,.free=>true
 | .big,.new=>false
 | .new,.new=>true
 | .rd _,.new=>true
 | .wr _,.new=>true
 | .new,.rd b=>!(b.beq r.hb.n)
 | .new,.wr b=>!(b.beq r.hb.n)
 | .new,.big=>(hb.ver r.hb.n).beq (ha.ver r.hb.n)
 | .rd _,.rd _=>true
 | .rd b,.wr c=>!(b.beq c)
 | .wr b,.rd c=>!(b.beq c)
 | .wr b,.wr c=>!(b.beq c)
 | .rd b,.big=>(hb.ver b).beq (ha.ver b)
 | .big,.rd b=>Nat.ble r.ha.n b||(Nat.blt b r.hb.n&&(r.hb.ver b).beq (r.ha.ver b))
 | .wr _,.big=>false
 | .big,.wr _=>false
 | .big,.big=>false
def okWith (bef:Nat) (k:Cls) (hb ha:AHeap):List Rec→Bool
 | []=>true
 | r::rs=>(bef.testBit r.i||compat r k hb ha)&&okWith bef k hb ha rs
def dels:List (Nat×MOper)→Tr AV→Tr AV
 | [],t=>t
 | (_,o)::r,t=>dels r (match o.dst with|some d=>t.del d|none=>t)
def skipsD (bef:Nat):Option (Nat×AV)→Bool
 | some (j,_)=>bef.testBit j
 | none=>false
def evD (call:FuncId→List AV→AHeap→Option (CRes×AHeap)) (all:List (Nat×MOper)):List (Nat×MOper)→AAct→AHeap→List Rec→Option (Nat×AV)→Option (AExit×AAct×AHeap)
 | [],a,h,_,none=>some (.norm,a,h)
 | [],a,h,_,some (_,v)=>some (.pan v,⟨dels all a.tm,a.df⟩,h)
 | (i,o)::r,a,h,rs,pan=>
  bif skipsD o.bef pan then evD call all r a h rs pan else
  bif wantedA a o.guard then
   match evOp call a o.op h with
   | some (.v x h' k)=>bif okWith o.bef k h h' rs then
     evD call all r (a.put o.dst x) h' (⟨i,k,h,h'⟩::rs) pan else none
   | some (.pan x h')=>match pan with
    | some _=>none
    | none=>bif okWith o.bef .big h h' rs then evD call all r a h' (⟨i,.big,h,h'⟩::rs) (some (i,x)) else none
   | some (.df _ _)=>none
   | none=>none
  else evD call all r (a.put o.dst undefA) h rs pan
def MOp.isNew:MOp→Bool
 | .new _ _=>true
 | .box _=>true
 | .bslice _ _ _ _=>true
 | .mkmap=>true
 | .mkslice _ _ _ _ _=>true
 | _=>false
def early (x:Nat×MOper):Bool:=x.2.op.isNew&&x.2.bef.beq 0&&x.2.guard.isNone
def num:Nat→List MOper→List (Nat×MOper)
 | _,[]=>[]
 | i,o::r=>(i,o)::num (i+1) r
def MOp.isBig:MOp→Bool
 | .call _ _=>true
 | .callv _ _=>true
 | .append _ _ _ _ _=>true
 | .appendz _ _ _ _ _=>true
 | .copy _ _ _=>true
 | .lookup _ _ _ _ _=>true
 | .mapupd _ _ _ _=>true
 | .lenM _=>true
 | _=>false
def pulled (l:List (Nat×MOper)):Nat:=
 l.foldl (fun m y=>bif y.2.op.isNew&&l.any (fun x=>x.2.op.isBig&&Nat.blt x.1 y.1&&!y.2.bef.testBit x.1) then m ||| y.2.bef ||| 2^y.1 else m) 0
def early2 (m:Nat) (x:Nat×MOper):Bool:=early x||m.testBit x.1
def reorder (l:List MOper):List (Nat×MOper):=
 bif (num 0 l).all (fun x=>!((pulled (num 0 l)).testBit x.1)||(x.2.bef &&& pulled (num 0 l)).beq x.2.bef) then
  (num 0 l).filter (early2 (pulled (num 0 l)))++(num 0 l).filter fun x=>!early2 (pulled (num 0 l)) x
 else (num 0 l).filter (early2 0)++(num 0 l).filter fun x=>!early2 0 x
def optO:Option Opd→List Opd
 | none=>[]
 | some x=>[x]
def MOp.opds:MOp→List Opd
 | .mov x=>[x]
 | .pick c a b=>[c,a,b]
 | .new _ _=>[]
 | .box x=>[x]
 | .build _ parts=>parts.map (·.2.2)
 | .bslice _ _ _ parts=>parts.map (·.2.2)
 | .load _ _ a=>[a]
 | .store _ a x=>[a,x]
 | .nilck x=>[x]
 | .bin _ x y=>[x,y]
 | .eqv _ _ x y=>[x,y]
 | .un _ x=>[x]
 | .cvi _ x=>[x]
 | .cvbs x=>[x]
 | .cvs x=>[x]
 | .mkif _ x=>[x]
 | .mkfn _ fs cs=>fs++cs
 | .mkmap=>[]
 | .mkslice _ _ _ l c=>[l,c]
 | .slc _ x lo hi mm=>x::(optO lo++(optO hi++optO mm))
 | .sls x lo hi=>x::(optO lo++optO hi)
 | .faddr _ x=>[x]
 | .fld _ _ _ x=>[x]
 | .iaddr _ x i=>[x,i]
 | .idxs x i=>[x,i]
 | .idxa _ _ _ x i=>[x,i]
 | .lookup _ _ m k _=>[m,k]
 | .mapupd _ m k v=>[m,k,v]
 | .tassert _ _ x=>[x]
 | .ext x _=>[x]
 | .call _ args=>args
 | .callv f args=>f::args
 | .lenS x=>[x]
 | .lenL x=>[x]
 | .lenM x=>[x]
 | .append _ _ _ s x=>[s,x]
 | .appendz _ _ _ s x=>[s,x]
 | .copy _ d s=>[d,s]
 | .mx _ x xs=>x::xs
 | .iarr _ _ x i=>[x,i]
 | .slarr _ _ x lo hi mm=>x::(optO lo++(optO hi++optO mm))
 | .panic x=>[x]
 | .defer f=>[f]
 | .recover=>[]
 | .burn=>[]
def iter:Nat→(AAct→AHeap→Option (AExit×AAct×AHeap))→AAct→AHeap→Option (AExit×AAct×AHeap)
 | 0,_,_,_=>none
 | n+1,f,a,h=>match f a h with
  | some (.norm,a',h')=>iter n f a' h'
  | r=>r
def evCode (call:FuncId→List AV→AHeap→Option (CRes×AHeap)) (fuel:Nat):MCode→AAct→AHeap→Option (AExit×AAct×AHeap)
 | .skip,a,h=>some (.norm,a,h)
 | .reg ops,a,h=>evOps call ops a h
 | .regD ops,a,h=>evD call ops ops a h [] none
 | .seq x y,a,h=>match evCode call fuel x a h with
  | some (.norm,a',h')=>evCode call fuel y a' h'
  | r=>r
 | .cond c x y,a,h=>match a.eval c with
  | .bool b=>bif b then evCode call fuel x a h else evCode call fuel y a h
  | _=>none
 | .block id x,a,h=>match evCode call fuel x a h with
  | some (.exit i,a',h')=>bif i.beq id then some (.norm,a',h') else some (.exit i,a',h')
  | r=>r
 | .loop x,a,h=>iter fuel (fun a h=>evCode call fuel x a h) a h
 | .exit id,a,h=>some (.exit id,a,h)
 | .ret,a,h=>some (.ret,a,h)
def initTm:List AV→Nat→Tr AV→Tr AV
 | [],_,t=>t
 | v::r,i,t=>initTm r (i+1) (t.set i v)
def loadA (h:AHeap) (agg:Bool) (n:Nat):AV→Option AV
 | .ptr b o=>match h.get b with
  | some ⟨_,.cells _ _ vs⟩=>
   bif agg then match row vs o n with|some cs=>some (.agg cs)|none=>none
   else vs[o]?
  | _=>none
 | _=>none
def resA (a:AAct) (h:AHeap):List RV→Option (List AV)
 | []=>some []
 | .t i::r=>match a.tm.get i,resA a h r with|some v,some vs=>some (v::vs)|_,_=>none
 | .cell i agg n::r=>match a.tm.get i with
  | some x=>match loadA h agg n x,resA a h r with
   | some v,some vs=>some (v::vs)
   | _,_=>none
  | none=>none
def one:List AV→AV
 | [v]=>v
 | vs=>.tuple vs
inductive Lv where
 | ret
 | pan (v:AV)
 deriving Inhabited
def Lv.val:Lv→AV
 | .ret=>.nilIface
 | .pan v=>v
def evDefer (call:FuncId→List AV→AHeap→Option (CRes×AHeap)) (fuel:Nat) (f:Option MFun) (args:List AV) (lv:Lv) (h:AHeap):Option (Lv×AHeap):=
 match f with
 | some (.code nt (.seq (.reg (⟨d,.recover,none,_⟩::ops)) rest) [])=>
  bif !(args.length.ble nt) then none else
  match evOps call ops (AAct.put ⟨initTm args 0 .nil,[]⟩ d lv.val) h with
  | some (.norm,a',h')=>match evCode call fuel rest a' h' with
   | some (.norm,⟨_,[]⟩,h'')=>some (.ret,h'')
   | some (.ret,⟨_,[]⟩,h'')=>some (.ret,h'')
   | _=>none
  | _=>none
 | _=>none
def leave (call:FuncId→List AV→AHeap→Option (CRes×AHeap)) (fuel:Nat) (F:Nat→Option MFun) (res:List RV) (a:AAct):List (FuncId×List AV)→Lv→AHeap→Option (CRes×AHeap)
 | [],.ret,h=>match resA a h res with|some vs=>some (.ret (one vs),h)|none=>none
 | [],.pan v,h=>some (.pan v,h)
 | (f,args)::r,lv,h=>match evDefer call fuel (F f) args lv h with
  | some (lv',h')=>leave call fuel F res a r lv' h'
  | none=>none
def evCall (F:Nat→Option MFun):Nat→FuncId→List AV→AHeap→Option (CRes×AHeap)
 | 0,_,_,_=>none
 | k+1,f,args,h=>match F f with
  | some (.code nt body res)=>bif !(args.length.ble nt) then none else match evCode (evCall F k) k body ⟨initTm args 0 .nil,[]⟩ h with
   | some (.norm,a,h')=>leave (evCall F k) k F res a a.df .ret h'
   | some (.ret,a,h')=>leave (evCall F k) k F res a a.df .ret h'
   | some (.pan v,a,h')=>leave (evCall F k) k F res a a.df (.pan v) h'
   | _=>none
  | some (.prim p)=>p args h
  | none=>none
end Go.Ev
namespace Go.Ev
def mapO {α β:Type} (f:α→Option β):List α→Option (List β)
 | []=>some []
 | x::r=>match f x,mapO f r with
  | some y,some ys=>some (y::ys)
  | _,_=>none
def toA:Nat→Value→Option AV
 | 0,_=>none
 | n+1,v=>match v with
  | .bool b=>some (.bool b)
  | .int k i=>some (.int k i)
  | .float k b=>some (.float k b)
  | .string s=>some (.str s.data.toList)
  | .pointer none=>some .nilPtr
  | .slice none 0 0=>some .nilSlice
  | .map none=>some .nilMap
  | .nilFunc=>some .nilFunc
  | .nilIface=>some .nilIface
  | .agg cs=>(mapO (toA n) cs.toList).map .agg
  | .tuple cs=>(mapO (toA n) cs.toList).map .tuple
  | .iface t v=>(toA n v).map (.iface t)
  | .func fn fs cs=>match fs.toList,cs.toList with|[],[]=>some (.func fn [] [])|_,_=>none
  | _=>none
def cOpd (P:Program):Operand→Option Opd
 | .tmp t=>some (.t t)
 | .const v=>(toA 4 v).map .c
 | .global g=>bif Nat.blt g P.globals.size then some (.c (.ptr g 0)) else none
 | .func f=>some (.c (.func (.func f) [] []))
def cOpds (P:Program) (xs:Array Operand):Option (List Opd):=mapO (cOpd P) xs.toList
def cOpt (P:Program):Option Operand→Option (Option Opd)
 | none=>some none
 | some x=>(cOpd P x).map some
def aggOf (P:Program) (t:TypeId):Option Bool:=
 match P.underlying t with
 | some (.struct _)=>some true
 | some (.array _ _)=>some true
 | some _=>some false
 | none=>none
def szOf (P:Program) (t:TypeId):Option Nat:=(P.info? t).map (·.size)
def zeroOf (P:Program) (t:TypeId):Option AV:=
 match P.info? t with
 | some i=>match i.zero with|some v=>toA 3 v|none=>none
 | none=>none
def ckOf (P:Program) (t:TypeId):Option CK:=
 match P.underlying t with
 | some .bool=>some .bool
 | some (.int _)=>some .int
 | some .string=>some .str
 | _=>none
def ckFields (P:Program):Nat→List Field→Option (List CK)
 | _,[]=>some []
 | i,f::r=>bif f.offset.beq i&&f.name != "_" then
   match ckOf P f.type,ckFields P (i+1) r with
   | some k,some ks=>some (k::ks)
   | _,_=>none
  else none
def ktOf (P:Program) (t:TypeId):Option KT:=
 match P.underlying t with
 | some (.struct fs)=>bif P.stoodInHeld t then none else (ckFields P 0 fs.toList).map .many
 | _=>(ckOf P t).map .one
def isNilC:Operand→Bool
 | .const .nilIface=>true
 | _=>false
def cParts (P:Program) (ps:Array (Nat×Operand)) (place:Nat→Option (Nat×Nat)):Option (List (Nat×Nat×Opd)):=
 mapO (fun (i,x)=>match place i,cOpd P x with
  | some (off,size),some x=>some (off,size,x)
  | _,_=>none) ps.toList
def seqT:TypeDesc→Bool
 | .slice _=>true
 | .string=>true
 | _=>false
def cMapUpd (P:Program) (t:TypeId) (m k v:Operand):Option MOp:=
 match P.underlying t,cOpd P m,cOpd P k,cOpd P v with
 | some (.map kt _),some m,some k,some v=>(ktOf P kt).map fun t=>.mapupd t m k v
 | _,_,_,_=>none
def selfish (P:Program) (t:TypeId):Bool:=
 match P.underlying t with
 | some (.struct fs)=>match fs[0]? with
  | some f=>match P.underlying f.type with
   | some (.struct gs)=>match gs[0]? with
    | some g=>match P.underlying g.type with
     | some (.pointer u)=>u.beq f.type
     | _=>false
    | none=>false
   | _=>false
  | none=>false
 | _=>false
def mdNew (P:Program) (t:TypeId):Md:=bif selfish P t then .tag t else .own
def mdApp (P:Program) (e:TypeId) (es:Nat):TypeDesc→Md
 | .string=>match P.underlying e with|some (.int .u8)=>bif es.beq 1 then .tag e else .own|_=>.own
 | _=>.own
def cCall (P:Program) (t:TypeId) (c:Call):Option MOp:=
 let _:=t
 match c.callee with
 | .value (.func f)=>(cOpds P c.args).map (.call f)
 | .value f=>match cOpd P f,cOpds P c.args with
  | some f,some args=>some (.callv f args)
  | _,_=>none
 | .invoke _ _=>none
 | .builtin b=>match b,c.args.toList,c.argTypes.toList with
  | .len,[x],[t]=>match P.underlying t with
   | some .string=>(cOpd P x).map .lenS
   | some (.slice _)=>(cOpd P x).map .lenL
   | some (.map _ _)=>(cOpd P x).map .lenM
   | _=>none
  | .append,[s,x],[ts,tx]=>match P.underlying ts,P.underlying tx,cOpd P s,cOpd P x with
   | some (.slice e),some (.int _),some s,some x=>match szOf P e,(P.info? e).map (·.bytes),zeroOf P e with
    | some es,some b,some z=>bif z.cells.length.beq es&&Nat.blt 0 es then some (.appendz es b z.cells s x) else none
    | _,_,_=>none
   | some (.slice e),some d,some s,some x=>match szOf P e,(P.info? e).map (·.bytes),zeroOf P e with
    | some es,some b,some z=>bif z.cells.length.beq es&&seqT d then some (.append (mdApp P e es d) es b s x) else none
    | _,_,_=>none
   | _,_,_,_=>none
  | .copy,[d,s],[td,_]=>match P.underlying td,cOpd P d,cOpd P s with
   | some (.slice e),some d,some s=>match szOf P e with|some es=>some (.copy es d s)|none=>none
   | _,_,_=>none
  | .max,x::xs,_=>match cOpd P x,mapO (cOpd P) xs with|some x,some xs=>some (.mx true x xs)|_,_=>none
  | .min,x::xs,_=>match cOpd P x,mapO (cOpd P) xs with|some x,some xs=>some (.mx false x xs)|_,_=>none
  | .panic,[x],_=>(cOpd P x).map .panic
  | .recover,[],_=>some .recover
  | _,_,_=>none
def cOp (P:Program) (o:Oper):Option MOp:=
 match o.op with
 | .move x=>(cOpd P x).map .mov
 | .assign x=>(cOpd P x).map .mov
 | .pick c a b=>match cOpd P c,cOpd P a,cOpd P b with|some c,some a,some b=>some (.pick c a b)|_,_,_=>none
 | .alloc t=>(zeroOf P t).map fun z=>.new (mdNew P t) z.cells
 | .box _ x=>(cOpd P x).map .box
 | .build t ps=>match P.underlying t,zeroOf P t with
  | some (.struct fs),some z=>bif !(fs.toList.all fun f=>(szOf P f.type).isSome) then none else (cParts P ps fun i=>match fs[i]? with|some f=>(szOf P f.type).map fun s=>(f.offset,s)|none=>none).map (.build z.cells)
  | some (.array _ e),some z=>match szOf P e with
   | some s=>(cParts P ps fun i=>some (i*s,s)).map (.build z.cells)
   | none=>none
  | _,_=>none
 | .buildSlice t len ps=>match P.underlying t with
  | some (.slice e)=>match szOf P e,zeroOf P e with
   | some s,some z=>bif (s*len).ble 65536&&Nat.blt 0 s&&z.cells.length.beq s then (cParts P ps fun i=>some (i*s,s)).map (.bslice s (repl z.cells len) len) else none
   | _,_=>none
  | _=>none
 | .load t x=>match aggOf P t,szOf P t,cOpd P x with
  | some true,some n,some x=>some (.load true n x)
  | some false,some n,some x=>bif n.beq 1 then some (.load false 1 x) else none
  | _,_,_=>none
 | .store t x y=>match szOf P t,cOpd P x,cOpd P y with|some n,some x,some y=>some (.store n x y)|_,_,_=>none
 | .nilCheck x=>(cOpd P x).map .nilck
 | .binOp op t x y _=>match cOpd P x,cOpd P y with
  | some x',some y'=>match P.underlying t with
   | some (.int _)=>some (.bin op x' y')
   | some .string=>some (.bin op x' y')
   | some u=>
    let neg:=match op with|.neq=>some true|.eql=>some false|_=>none
    match neg with
    | none=>none
    | some neg=>match u with
     | .bool=>some (.eqv neg (.one .bool) x' y')
     | .interface _=>bif isNilC x||isNilC y then some (.eqv neg (.one .iface) x' y') else none
     | .pointer _=>some (.eqv neg (.one .ptr) x' y')
     | .slice _=>some (.eqv neg (.one .slice) x' y')
     | .map _ _=>some (.eqv neg (.one .map) x' y')
     | .func _ _ _=>some (.eqv neg (.one .func) x' y')
     | .struct _=>bif !P.eqGuardType P.depth t then (ktOf P t).map fun k=>.eqv neg k x' y' else none
     | _=>none
   | none=>none
  | _,_=>none
 | .unOp op _ x=>(cOpd P x).map (.un op)
 | .convert s d x=>match P.underlying s,P.underlying d with
  | some (.int _),some (.int k)=>(cOpd P x).map (.cvi k)
  | some .string,some .string=>(cOpd P x).map .cvs
  | some (.slice e),some .string=>match P.underlying e with|some (.int .u8)=>(cOpd P x).map .cvbs|_=>none
  | _,_=>none
 | .makeInterface t x=>match P.underlying t with
  | some (.interface _)=>none
  | some _=>(cOpd P x).map (.mkif t)
  | none=>none
 | .makeFunc fn fs cs=>match cOpds P fs,cOpds P cs with|some fs,some cs=>some (.mkfn fn fs cs)|_,_=>none
 | .makeMap _ none=>some .mkmap
 | .makeMap t (some (.const (.int _ _)))=>match P.underlying t with|some (.map _ _)=>some .mkmap|_=>none
 | .makeSlice t l c=>match P.underlying t,cOpd P l,cOpd P c with
  | some (.slice e),some l,some c=>match szOf P e,(P.info? e).map (·.bytes),zeroOf P e with
   | some s,some b,some z=>bif Nat.blt 0 s&&z.cells.length.beq s then some (.mkslice s b z.cells l c) else none
   | _,_,_=>none
  | _,_,_=>none
 | .slice t x lo hi mx=>match P.underlying t,cOpd P x,cOpt P lo,cOpt P hi,cOpt P mx with
  | some (.slice e),some x,some lo,some hi,some mx=>match szOf P e with
   | some s=>match mx,hi with
    | some _,none=>none
    | _,_=>some (.slc s x lo hi mx)
   | none=>none
  | some (.array len e),some x,some lo,some hi,some mx=>match szOf P e with
   | some s=>match mx,hi with
    | some _,none=>none
    | _,_=>some (.slarr len s x lo hi mx)
   | none=>none
  | some .string,some x,some lo,some hi,some none=>some (.sls x lo hi)
  | _,_,_,_,_=>none
 | .fieldAddr t x f=>match P.underlying t,cOpd P x with
  | some (.struct fs),some x=>match fs[f]? with
   | some f=>match szOf P f.type with|some (_+1)=>some (.faddr f.offset x)|_=>none
   | none=>none
  | _,_=>none
 | .field t x f=>match P.underlying t,cOpd P x with
  | some (.struct fs),some x=>match fs[f]? with
   | some f=>match aggOf P f.type,szOf P f.type with
    | some a,some n=>some (.fld a f.offset n x)
    | _,_=>none
   | none=>none
  | _,_=>none
 | .indexAddr t x i=>match P.underlying t,cOpd P x,cOpd P i with
  | some (.slice e),some x,some i=>match szOf P e with|some s=>some (.iaddr s x i)|none=>none
  | some (.array len e),some x,some i=>match szOf P e with|some s=>some (.iarr len s x i)|none=>none
  | _,_,_=>none
 | .index t x i=>match P.underlying t,cOpd P x,cOpd P i with
  | some .string,some x,some i=>some (.idxs x i)
  | some (.array len e),some x,some i=>match aggOf P e,szOf P e with
   | some a,some n=>some (.idxa a len n x i)
   | _,_=>none
  | _,_,_=>none
 | .lookup t m k ok=>match P.underlying t,cOpd P m,cOpd P k with
  | some (.map kt e),some m,some k=>match zeroOf P e with
   | some z=>(ktOf P kt).map fun t=>.lookup t z m k ok
   | none=>none
  | _,_,_=>none
 | .mapUpdate t m k v=>cMapUpd P t m k v
 | .insert t m k v=>cMapUpd P t m k v
 | .typeAssert x _ to true=>match P.underlying to,zeroOf P to,cOpd P x with
  | some (.interface _),_,_=>none
  | some _,some z,some x=>some (.tassert to z x)
  | _,_,_=>none
 | .extract x i=>(cOpd P x).map fun x=>.ext x i
 | .call c=>cCall P o.type c
 | .panic x=>(cOpd P x).map .panic
 | .defer c=>match c.callee,c.args.toList with
  | .value f,[]=>(cOpd P f).map .defer
  | _,_=>none
 | _=>none
def cGuard (ops:Array Oper):Option (Nat×Bool)→Option (Option (Nat×Bool))
 | none=>some none
 | some (j,want)=>match ops[j]? with
  | some o=>match o.dst with|some t=>some (some (t,want))|none=>none
  | none=>none
def dstLt (nt:Nat):Option Nat→Bool
 | some d=>Nat.blt d nt
 | none=>true
def cOper (P:Program) (nt:Nat) (ops:Array Oper) (draw:Bool) (bef:Array Nat) (i:Nat) (o:Oper):Option MOper:=
 match cOp P o,cGuard ops o.guard with
 | some op,some g=>bif dstLt nt o.dst&&o.after.all (fun e=>!Region.binds .any e||Nat.blt e.on i) then
   some ⟨o.dst,op,g,bif draw then bef.getD i 0 else 0⟩ else none
 | _,_=>none
def cOpers (P:Program) (nt:Nat) (ops:Array Oper) (draw:Bool) (bef:Array Nat):Nat→List Oper→Option (List MOper)
 | _,[]=>some []
 | i,o::r=>match cOper P nt ops draw bef i o,cOpers P nt ops draw bef (i+1) r with
  | some o,some r=>some (o::r)
  | _,_=>none
def opdT:Operand→List Nat
 | .tmp t=>[t]
 | _=>[]
def readsT (ops:Array Oper) (o:Oper):List Nat:=
 o.op.operands.toList.flatMap opdT++match o.guard with
  | none=>[]
  | some (j,_)=>match ops[j]? with|some oj=>oj.dst.toList|none=>[]
def numO:Nat→List Oper→List (Nat×Oper)
 | _,[]=>[]
 | i,o::r=>(i,o)::numO (i+1) r
def tempsOk (ops:Array Oper) (bef:Array Nat):Bool:=
 (numO 0 ops.toList).all fun x=>match x.2.dst with
  | none=>true
  | some d=>(numO 0 ops.toList).all fun y=>x.1.beq y.1||(bef.getD (Nat.max x.1 y.1) 0).testBit (Nat.min x.1 y.1) ||
    !((match y.2.dst with|some e=>d.beq e|none=>false)||(readsT ops y.2).any d.beq)
def opdsOk:List MOper→List Oper→Bool
 | [],[]=>true
 | m::ms,o::os=>(m.op.opds.all fun|.t t=>(o.op.operands.toList.flatMap opdT).any t.beq|.c _=>true)&&opdsOk ms os
 | _,_=>false
def cCode (P:Program) (nt:Nat):Code→Option MCode
 | .skip=>some .skip
 | .region _ ops draw=>
  let bef:=bif draw then CheckFast.beforeF ops else #[]
  match cOpers P nt ops draw bef 0 ops.toList with
  | some l=>bif draw then (bif tempsOk ops bef&&opdsOk l ops.toList then some (.regD (reorder l)) else none) else some (.reg l)
  | none=>none
 | .seq a b=>match cCode P nt a,cCode P nt b with|some a,some b=>some (.seq a b)|_,_=>none
 | .cond c a b=>match cOpd P c,cCode P nt a,cCode P nt b with|some c,some a,some b=>some (.cond c a b)|_,_,_=>none
 | .block id a=>match cCode P nt a with|some a=>some (.block id a)|none=>none
 | .loop a=>match cCode P nt a with|some a=>some (.loop a)|none=>none
 | .exit id=>some (.exit id)
 | .ret=>some .ret
 | _=>none
def cRes (P:Program):ResultVar→Option RV
 | .tmp t=>some (.t t)
 | .cell i t=>match aggOf P t,szOf P t with|some a,some n=>some (.cell i a n)|_,_=>none
def cFunc (P:Program) (f:Func):Option MFun:=
 match f.body with
 | none=>none
 | some c=>match cCode P f.ntmps c,mapO (cRes P) f.results.toList with
  | some c,some r=>bif f.name != "runtime.NumGoroutine"&&(f.params.size+f.nfree).ble f.ntmps then some (.code f.ntmps c r) else none
  | _,_=>none
end Go.Ev
namespace Go.Ev
theorem beqF {m n:Nat} (h:¬m=n):m.beq n=false:=by
 cases e:m.beq n
 ·rfl
 ·exact absurd (Nat.eq_of_beq_eq_true e) h
theorem beqT {m n:Nat} (h:m=n):m.beq n=true:=by subst h;exact Nat.beq_refl m
theorem Tr.get_nil {α:Type} (n:Nat):(Tr.nil:Tr α).get n=none:=by simp [Tr.get]
theorem Tr.get_put {α:Type} (x:α):∀(f:Nat) (t:Tr α) (n m:Nat),n<f→(Tr.put x f t n).get m=if m=n then some x else t.get m:=by
 intro f
 induction f with
 | zero=>intro t n m h;omega
 | succ f ih=>
  intro t n m h
  have key:∀(l r:Tr α) (v:Option α),(bif n.beq 0 then Tr.node l (some x) r else bif (n % 2).beq 1 then Tr.node (Tr.put x f l (n / 2)) v r else Tr.node l v (Tr.put x f r (n / 2-1))).get m=if m=n then some x else (Tr.node l v r).get m:=by
   intro l r v
   by_cases h0:n=0
   ·subst h0
    simp only[Nat.beq_refl,cond_true,Tr.get]
    by_cases hm:m=0
    ·subst hm;simp
    ·have:m.beq 0=false:=beqF hm
     simp [this,hm]
   ·have e0:n.beq 0=false:=beqF h0
    simp only[e0,cond_false]
    by_cases h1:n % 2=1
    ·have e1:(n % 2).beq 1=true:=beqT h1
     simp only[e1,cond_true,Tr.get]
     by_cases hm0:m=0
     ·subst hm0
      have:¬(0=n):=fun e=>h0 e.symm
      simp [this]
     ·have em:m.beq 0=false:=beqF hm0
      simp only[em,cond_false]
      by_cases hm1:m % 2=1
      ·have em1:(m % 2).beq 1=true:=beqT hm1
       simp only[em1,cond_true]
       rw[ih _ _ _ (by omega)]
       by_cases hmn:m=n
       ·subst hmn;simp
       ·have:¬(m / 2=n / 2):=by omega
        simp [this,hmn]
      ·have em1:(m % 2).beq 1=false:=beqF hm1
       have:¬(m=n):=by omega
       simp [em1,this]
    ·have e1:(n % 2).beq 1=false:=beqF h1
     simp only[e1,cond_false,Tr.get]
     by_cases hm0:m=0
     ·subst hm0
      have:¬(0=n):=fun e=>h0 e.symm
      simp [this]
     ·have em:m.beq 0=false:=beqF hm0
      simp only[em,cond_false]
      by_cases hm1:m % 2=1
      ·have em1:(m % 2).beq 1=true:=beqT hm1
       have:¬(m=n):=by omega
       simp [em1,this]
      ·have em1:(m % 2).beq 1=false:=beqF hm1
       simp only[em1,cond_false]
       rw[ih _ _ _ (by omega)]
       by_cases hmn:m=n
       ·subst hmn;simp
       ·have:¬(m / 2-1=n / 2-1):=by omega
        simp [this,hmn]
  cases t with
  | nil=>
   have hk:=key .nil .nil none
   have:(Tr.node (.nil:Tr α) none .nil).get m=none:=by
    simp only[Tr.get]
    cases m.beq 0<;>cases (m % 2).beq 1<;>rfl
   rw[this] at hk
   simpa [Tr.put,Tr.get_nil] using hk
  | node l v r=>simpa [Tr.put] using key l r v
theorem Tr.get_set {α:Type} (t:Tr α) (n m:Nat) (x:α):(t.set n x).get m=if m=n then some x else t.get m:=Tr.get_put x _ _ _ _ (Nat.lt_succ_self n)
theorem AHeap.get_alloc (h:AHeap) (o:AObj) (b:Nat):(h.alloc o).get b=if b=h.n then some ⟨0,o⟩ else h.get b:=Tr.get_set _ _ _ _
theorem AHeap.get_upd (h:AHeap) (b ver:Nat) (o:AObj) (b':Nat):(h.upd b ver o).get b'=if b'=b then some ⟨ver,o⟩ else h.get b':=Tr.get_set _ _ _ _
@[simp] theorem AHeap.alloc_n (h:AHeap) (o:AObj):(h.alloc o).n=h.n+1:=rfl
@[simp] theorem AHeap.upd_n (h:AHeap) (b ver:Nat) (o:AObj):(h.upd b ver o).n=h.n:=rfl
inductive Info where
 | no
 | dead
 | live (own:Bool) (frz:Bool) (es:Nat)
 deriving DecidableEq
def AObj.info:AObj→Info
 | .cells .own es _=>.live true true es
 | .cells .ro es _=>.live false false es
 | .cells .sent es _=>.live false true es
 | .cells (.tag _) es _=>.live true true es
 | .cells .tab es _=>.live false false es
 | .amap _=>.live true true 0
 | .dead=>.dead
def infoOf (g:Nat→Option Blk) (b:Nat):Info:=
 match g b with
 | some x=>x.o.info
 | none=>.no
abbrev Mp:=Nat→Option (Nat×Nat)
def World.szOf (w:World) (c:Nat):Nat:=
 match w.heap[c]? with
 | some (.cells cs _ _)=>cs.size
 | _=>0
mutual
def VR (ι:Mp) (I:Nat→Info) (sz:Nat→Nat):AV→Value→Prop
 | .bool b,v=>v=.bool b
 | .int k n,v=>v=.int k n
 | .float k n,v=>v=.float k n
 | .str s,v=>v=.string ⟨⟨s⟩⟩
 | .nilPtr,v=>v=.pointer none
 | .ptr b o,v=>∃a,v=.pointer (some a)∧(I b=.dead∨∃c p,ι b=some (c,p)∧a=⟨c,p+o,none⟩)
 | .nilSlice,v=>v=.slice none 0 0
 | .slice b o len cap ex,v=>∃a cap',v=.slice (some a) len cap'∧len≤cap∧cap≤cap'∧(I b=.dead∨
   ∃c p,ι b=some (c,p)∧(ex=true→cap'=cap∧a=⟨c,p+o,none⟩)∧
    (ex=false→0<cap→a=⟨c,p+o,none⟩∧∃own frz es,I b=.live own frz es∧p+o+cap'*es≤sz c))
 | .nilMap,v=>v=.map none
 | .map r,v=>∃r',v=.map (some r')∧(I r=.dead∨ι r=some (r',0))
 | .func fn fs cs,v=>∃fs' cs',v=.func fn fs' cs'∧VRL ι I sz fs fs'.toList∧VRL ι I sz cs cs'.toList
 | .nilFunc,v=>v=.nilFunc
 | .iface t x,v=>∃x',v=.iface t x'∧VR ι I sz x x'
 | .nilIface,v=>v=.nilIface
 | .agg cs,v=>∃cs',v=.agg cs'∧VRL ι I sz cs cs'.toList
 | .tuple cs,v=>∃cs',v=.tuple cs'∧VRL ι I sz cs cs'.toList
def VRL (ι:Mp) (I:Nat→Info) (sz:Nat→Nat):List AV→List Value→Prop
 | [],l=>l=[]
 | x::xs,l=>∃y ys,l=y::ys∧VR ι I sz x y∧VRL ι I sz xs ys
end
structure Grow (ι:Mp) (I:Nat→Info) (sz:Nat→Nat) (ι':Mp) (I':Nat→Info) (sz':Nat→Nat):Prop where
 ext:∀b x,ι b=some x→ι' b=some x
 dead:∀b,I b=.dead→I' b=.dead
 live:∀b o f e x,ι b=some x→I b=.live o f e→I' b=.live o f e∨I' b=.dead
 sz:∀c,sz c≤sz' c
theorem Grow.refl (ι:Mp) (I:Nat→Info) (sz:Nat→Nat):Grow ι I sz ι I sz:=⟨fun _ _ h=>h,fun _ h=>h,fun _ _ _ _ _ _ h=>.inl h,fun _=>Nat.le_refl _⟩
theorem Grow.trans {ι ι' ι'':Mp} {I I' I'':Nat→Info} {sz sz' sz'':Nat→Nat} (h:Grow ι I sz ι' I' sz') (g:Grow ι' I' sz' ι'' I'' sz''):Grow ι I sz ι'' I'' sz'' where
 ext b x e:=g.ext b x (h.ext b x e)
 dead b e:=g.dead b (h.dead b e)
 live b o f e x hx hl:=by
  rcases h.live b o f e x hx hl with h1|h1
  ·exact g.live b o f e x (h.ext b x hx) h1
  ·exact .inr (g.dead b h1)
 sz c:=Nat.le_trans (h.sz c) (g.sz c)
mutual
theorem VR.mono {ι ι':Mp} {I I':Nat→Info} {sz sz':Nat→Nat} (g:Grow ι I sz ι' I' sz'):∀(x:AV) (v:Value),VR ι I sz x v→VR ι' I' sz' x v
 | .bool _,_,h|.int _ _,_,h|.float _ _,_,h|.str _,_,h|.nilPtr,_,h|.nilSlice,_,h|.nilMap,_,h|.nilFunc,_,h|.nilIface,_,h=>by
  simpa only[VR] using h
 | .ptr b o,v,h=>by
  simp only[VR] at h ⊢
  obtain ⟨a,e,h⟩:=h
  refine ⟨a,e,h.imp (g.dead b) ?_⟩
  rintro ⟨c,p,e1,e2⟩
  exact ⟨c,p,g.ext _ _ e1,e2⟩
 | .slice b o len cap ex,v,h=>by
  simp only[VR] at h ⊢
  obtain ⟨a,cap',e,hlc,hcc,h⟩:=h
  refine ⟨a,cap',e,hlc,hcc,?_⟩
  rcases h with h|⟨c,p,e1,e3,e4⟩
  ·exact .inl (g.dead b h)
  ·by_cases hd:I' b=.dead
   ·exact .inl hd
   ·refine .inr ⟨c,p,g.ext _ _ e1,e3,fun hx hc=>?_⟩
    obtain ⟨e5,ow,fz,es,e6,e7⟩:=e4 hx hc
    refine ⟨e5,ow,fz,es,(g.live b ow fz es _ e1 e6).resolve_right hd,Nat.le_trans e7 (g.sz c)⟩
 | .map r,v,h=>by
  simp only[VR] at h ⊢
  obtain ⟨a,e,h⟩:=h
  exact ⟨a,e,h.imp (g.dead r) (g.ext _ _)⟩
 | .func fn fs cs,v,h=>by
  simp only[VR] at h ⊢
  obtain ⟨fs',cs',e,h1,h2⟩:=h
  exact ⟨fs',cs',e,VRL.mono g fs _ h1,VRL.mono g cs _ h2⟩
 | .iface t x,v,h=>by
  simp only[VR] at h ⊢
  obtain ⟨x',e,h1⟩:=h
  exact ⟨x',e,VR.mono g x _ h1⟩
 | .agg cs,v,h=>by
  simp only[VR] at h ⊢
  obtain ⟨cs',e,h1⟩:=h
  exact ⟨cs',e,VRL.mono g cs _ h1⟩
 | .tuple cs,v,h=>by
  simp only[VR] at h ⊢
  obtain ⟨cs',e,h1⟩:=h
  exact ⟨cs',e,VRL.mono g cs _ h1⟩
theorem VRL.mono {ι ι':Mp} {I I':Nat→Info} {sz sz':Nat→Nat} (g:Grow ι I sz ι' I' sz'):∀(xs:List AV) (vs:List Value),VRL ι I sz xs vs→VRL ι' I' sz' xs vs
 | [],_,h=>by simpa only[VRL] using h
 | x::xs,vs,h=>by
  simp only[VRL] at h ⊢
  obtain ⟨y,ys,e,h1,h2⟩:=h
  exact ⟨y,ys,e,VR.mono g x y h1,VRL.mono g xs ys h2⟩
end
section lists
variable {ι:Mp} {I:Nat→Info} {sz:Nat→Nat}
theorem VRL.length:∀{xs:List AV} {vs:List Value},VRL ι I sz xs vs→xs.length=vs.length
 | [],vs,h=>by simp only[VRL] at h;simp [h]
 | x::xs,vs,h=>by
  simp only[VRL] at h
  obtain ⟨y,ys,rfl,_,h2⟩:=h
  simp [VRL.length h2]
theorem VRL.get:∀{xs:List AV} {vs:List Value},VRL ι I sz xs vs→∀(i:Nat) (x:AV),xs[i]?=some x→∃v,vs[i]?=some v∧VR ι I sz x v
 | [],vs,_,i,x,e=>by simp at e
 | x::xs,vs,h,i,z,e=>by
  simp only[VRL] at h
  obtain ⟨y,ys,rfl,h1,h2⟩:=h
  cases i with
  | zero=>simp at e;subst e;exact ⟨y,by simp,h1⟩
  | succ i=>
   simp at e
   obtain ⟨v,e1,e2⟩:=VRL.get h2 i z e
   exact ⟨v,by simpa using e1,e2⟩
theorem VRL.of_get:∀(xs:List AV) (vs:List Value),xs.length=vs.length→(∀(i:Nat) (x:AV) (v:Value),xs[i]?=some x→vs[i]?=some v→VR ι I sz x v)→VRL ι I sz xs vs
 | [],[],_,_=>by simp [VRL]
 | x::xs,v::vs,hl,h=>by
  simp only[VRL]
  exact ⟨v,vs,rfl,h 0 x v (by simp) (by simp),VRL.of_get xs vs (by simpa using hl) fun i x v h1 h2=>h (i+1) x v (by simpa using h1) (by simpa using h2)⟩
 | [],_::_,h,_=>by simp at h
 | _::_,[],h,_=>by simp at h
theorem VRL.append {xs ys:List AV} {vs ws:List Value} (h:VRL ι I sz xs vs) (g:VRL ι I sz ys ws):VRL ι I sz (xs++ys) (vs++ws):=by
 induction xs generalizing vs with
 | nil=>simp only[VRL] at h;subst h;simpa using g
 | cons x xs ih=>
  simp only[VRL] at h
  obtain ⟨y,yl,rfl,h1,h2⟩:=h
  simp only[List.cons_append,VRL]
  exact ⟨y,_,rfl,h1,ih h2⟩
theorem VRL.take {xs:List AV} {vs:List Value} (h:VRL ι I sz xs vs) (n:Nat):VRL ι I sz (xs.take n) (vs.take n):=by
 induction n generalizing xs vs with
 | zero=>simp [VRL]
 | succ n ih=>
  cases xs with
  | nil=>simp only[VRL] at h;subst h;simp [VRL]
  | cons x xs=>
   simp only[VRL] at h
   obtain ⟨y,yl,rfl,h1,h2⟩:=h
   simp only[List.take_succ_cons,VRL]
   exact ⟨y,_,rfl,h1,ih h2⟩
theorem VRL.drop {xs:List AV} {vs:List Value} (h:VRL ι I sz xs vs) (n:Nat):VRL ι I sz (xs.drop n) (vs.drop n):=by
 induction n generalizing xs vs with
 | zero=>simpa using h
 | succ n ih=>
  cases xs with
  | nil=>simp only[VRL] at h;subst h;simp [VRL]
  | cons x xs=>
   simp only[VRL] at h
   obtain ⟨y,yl,rfl,h1,h2⟩:=h
   simpa using ih h2
theorem VRL.cons_iff {x:AV} {xs:List AV} {vs:List Value}:VRL ι I sz (x::xs) vs↔∃y ys,vs=y::ys∧VR ι I sz x y∧VRL ι I sz xs ys:=by simp [VRL]
theorem VR.cells:∀{x:AV} {v:Value},VR ι I sz x v→VRL ι I sz x.cells v.cells.toList:=by
 intro x v h
 cases x<;>simp only[VR] at h
 case agg cs=>
  obtain ⟨cs',rfl,h⟩:=h
  simpa [AV.cells,Value.cells] using h
 case func fn fs cs=>
  obtain ⟨fs',cs',rfl,h⟩:=h
  simp only[AV.cells,Value.cells,VRL,VR]
  exact ⟨_,_,rfl,⟨fs',cs',rfl,h⟩,rfl⟩
 case slice b o len cap ex=>
  obtain ⟨a,cap',rfl,h⟩:=h
  simp only[AV.cells,Value.cells,VRL,VR]
  exact ⟨_,_,rfl,⟨a,cap',rfl,h⟩,rfl⟩
 case tuple cs=>
  obtain ⟨a,rfl,h⟩:=h
  simp only[AV.cells,Value.cells,VRL,VR]
  exact ⟨_,_,rfl,⟨a,rfl,h⟩,rfl⟩
 case iface t x=>
  obtain ⟨a,rfl,h⟩:=h
  simp only[AV.cells,Value.cells,VRL,VR]
  exact ⟨_,_,rfl,⟨a,rfl,h⟩,rfl⟩
 case ptr b o=>
  obtain ⟨a,rfl,h⟩:=h
  simp only[AV.cells,Value.cells,VRL,VR]
  exact ⟨_,_,rfl,⟨a,rfl,h⟩,rfl⟩
 case map r=>
  obtain ⟨a,rfl,h⟩:=h
  simp only[AV.cells,Value.cells,VRL,VR]
  exact ⟨_,_,rfl,⟨a,rfl,h⟩,rfl⟩
 all_goals
  subst h
  simp [AV.cells,Value.cells,VRL,VR]
end lists
end Go.Ev
namespace Go.Ev
open Go
def wsz (w:World) (c:Nat):Nat:=
 match w.heap[c]? with
 | some (.cells cs _ _)=>cs.size
 | _=>0
def MR (ι:Mp) (I:Nat→Info) (sz:Nat→Nat):List (AV×AV)→List MapEntry→Prop
 | [],l=>l=[]
 | (k,v)::r,l=>∃e es,l=e::es∧VR ι I sz k e.key∧VR ι I sz v e.val∧MR ι I sz r es
theorem MR.mono {ι ι':Mp} {I I':Nat→Info} {sz sz':Nat→Nat} (g:Grow ι I sz ι' I' sz'):∀(xs:List (AV×AV)) (es:List MapEntry),MR ι I sz xs es→MR ι' I' sz' xs es
 | [],_,h=>by simpa only[MR] using h
 | (k,v)::r,l,h=>by
  simp only[MR] at h ⊢
  obtain ⟨e,es,rfl,h1,h2,h3⟩:=h
  exact ⟨e,es,rfl,VR.mono g _ _ h1,VR.mono g _ _ h2,MR.mono g r es h3⟩
def ORel (ι:Mp) (I:Nat→Info) (sz:Nat→Nat) (w:World) (c p:Nat):AObj→Prop
 | .cells md es vs=>∃cs T lo hi,w.heap[c]?=some (.cells cs T (lo,hi))∧(∀(i:Nat) (x:AV),vs[i]?=some x→∃v,cs[p+i]?=some v∧VR ι I sz x v)∧
   (md.thaw=true→lo=0∧hi=0)∧(md.mine=true→p=0∧∀t,md=.tag t→T=t∧(es=0→cs.size=vs.length))∧(md=.tab→p=0∧cs.size=vs.length)
 | .amap es=>∃es' clock,w.heap[c]?=some (.map es' clock)∧p=0∧MR ι I sz es es'.toList
 | .dead=>True
theorem ORel.mono {ι ι':Mp} {I I':Nat→Info} {sz sz':Nat→Nat} (g:Grow ι I sz ι' I' sz') {w w':World} {c p:Nat} {o:AObj} (hw:w'.heap[c]?=w.heap[c]?) (h:ORel ι I sz w c p o):ORel ι' I' sz' w' c p o:=by
 cases o with
 | cells md es vs=>
  obtain ⟨cs,T,lo,hi,h1,h2,h3,h4⟩:=h
  refine ⟨cs,T,lo,hi,hw.trans h1,fun i x hx=>?_,h3,h4⟩
  obtain ⟨v,e1,e2⟩:=h2 i x hx
  exact ⟨v,e1,VR.mono g _ _ e2⟩
 | amap es=>
  obtain ⟨es',clock,h1,h2,h3⟩:=h
  exact ⟨es',clock,hw.trans h1,h2,MR.mono g _ _ h3⟩
 | dead=>trivial
theorem thaw_mine {md:Md} (hm:md.mine=true):md.thaw=true∧md≠.tab:=by cases md<;>first|exact ⟨rfl,fun e=>by cases e⟩|cases hm
theorem info_mine {md:Md} (hm:md.mine=true) (es:Nat) (vs:List AV):(AObj.cells md es vs).info=.live true true es:=by cases md<;>first|rfl|cases hm
def OwnL (h:AHeap) (b:Nat):Prop:=∃f e,infoOf h.get b=.live true f e
structure Rel (ι:Mp) (h:AHeap) (w:World):Prop where
 dom:∀b c p,ι b=some (c,p)→b<h.n
 lt:∀b x,h.get b=some x→b<h.n
 obj:∀b c p,ι b=some (c,p)→∃x,h.get b=some x∧c<w.heap.size∧ORel ι (infoOf h.get) (wsz w) w c p x.o
 inj:∀b b' c p p',ι b=some (c,p)→ι b'=some (c,p')→OwnL h b→infoOf h.get b'≠.dead→b=b'
structure Step (ι:Mp) (h:AHeap) (w:World) (ι':Mp) (h':AHeap) (w':World):Prop where
 grow:Grow ι (infoOf h.get) (wsz w) ι' (infoOf h'.get) (wsz w')
 fresh:∀b x,ι b=none→ι' b=some x→h.n≤b
 n_le:h.n≤h'.n
 wn_le:w.heap.size≤w'.heap.size
 keep:∀c,c<w.heap.size→(∀b p,ι b=some (c,p)→OwnL h b→False)→w'.heap[c]?=w.heap[c]?
 frm:∀b c p,ι b=none→ι' b=some (c,p)→w.heap.size≤c∨∃b0 p0,ι b0=some (c,p0)∧OwnL h b0∧infoOf h'.get b0=.dead
 oth:w'.os=w.os∧w'.output=w.output∧w'.tape=w.tape
theorem Step.refl (ι:Mp) (h:AHeap) (w:World):Step ι h w ι h w where
 grow:=Grow.refl _ _ _
 fresh b x h1 h2:=by rw[h1] at h2;cases h2
 n_le:=Nat.le_refl _
 wn_le:=Nat.le_refl _
 keep _ _ _:=rfl
 frm b c p h1 h2:=by rw[h1] at h2;cases h2
 oth:=⟨rfl,rfl,rfl⟩
theorem Rel.info {ι:Mp} {h:AHeap} {w:World} (r:Rel ι h w) {b:Nat} {x:Nat×Nat} (e:ι b=some x):infoOf h.get b=.dead∨∃o f s,infoOf h.get b=.live o f s:=by
 obtain ⟨c,p⟩:=x
 obtain ⟨x,hx,_⟩:=r.obj b c p e
 unfold infoOf
 rw[hx]
 obtain ⟨v,o⟩:=x
 cases o with
 | cells md es vs=>cases md<;>exact .inr ⟨_,_,_,rfl⟩
 | amap es=>exact .inr ⟨_,_,_,rfl⟩
 | dead=>exact .inl rfl
theorem Rel.ownBack {ι:Mp} {h:AHeap} {w:World} (r:Rel ι h w) {ι':Mp} {h':AHeap} {sz sz':Nat→Nat} (g:Grow ι (infoOf h.get) sz ι' (infoOf h'.get) sz') {b:Nat} {x:Nat×Nat} (e:ι b=some x) (ho:OwnL h' b):OwnL h b:=by
 obtain ⟨f,s,hf⟩:=ho
 rcases r.info e with hd|⟨o,f',s',hl⟩
 ·have:=g.dead b hd
  rw[hf] at this;cases this
 ·rcases g.live b o f' s' _ e hl with h1|h1
  ·rw[hf] at h1
   cases h1
   exact ⟨_,_,hl⟩
  ·rw[hf] at h1;cases h1
theorem Step.trans {ι ι' ι'':Mp} {h h' h'':AHeap} {w w' w'':World} (r:Rel ι h w) (s:Step ι h w ι' h' w') (t:Step ι' h' w' ι'' h'' w''):Step ι h w ι'' h'' w'' where
 grow:=s.grow.trans t.grow
 fresh b x h1 h2:=by
  cases e:ι' b with
  | none=>exact Nat.le_trans s.n_le (t.fresh b x e h2)
  | some y=>exact s.fresh b y h1 e
 n_le:=Nat.le_trans s.n_le t.n_le
 wn_le:=Nat.le_trans s.wn_le t.wn_le
 keep c hc hno:=by
  have e1:=s.keep c hc hno
  rw[←e1]
  refine t.keep c (Nat.lt_of_lt_of_le hc s.wn_le) fun b p hb ho=>?_
  cases e:ι b with
  | none=>
   rcases s.frm b c p e hb with h1|⟨b0,p0,h1,h2,_⟩
   ·omega
   ·exact hno b0 p0 h1 h2
  | some y=>
   have:=s.grow.ext b y e
   rw[hb] at this
   cases this
   exact hno b p e (r.ownBack s.grow e ho)
 frm b c p h1 h2:=by
  cases e:ι' b with
  | some y=>
   have:=t.grow.ext b y e
   rw[h2] at this
   cases this
   rcases s.frm b c p h1 e with h3|⟨b0,p0,h3,h4,h5⟩
   ·exact .inl h3
   ·exact .inr ⟨b0,p0,h3,h4,t.grow.dead _ h5⟩
  | none=>
   rcases t.frm b c p e h2 with h3|⟨b0,p0,h3,h4,h5⟩
   ·exact .inl (Nat.le_trans s.wn_le h3)
   ·cases e0:ι b0 with
    | some y=>
     have:=s.grow.ext b0 y e0
     rw[h3] at this
     cases this
     exact .inr ⟨b0,p0,e0,r.ownBack s.grow e0 h4,h5⟩
    | none=>
     rcases s.frm b0 c p0 e0 h3 with h6|⟨b1,p1,h6,h7,h8⟩
     ·exact .inl h6
     ·exact .inr ⟨b1,p1,h6,h7,t.grow.dead _ h8⟩
 oth:=⟨t.oth.1.trans s.oth.1,t.oth.2.1.trans s.oth.2.1,t.oth.2.2.trans s.oth.2.2⟩
theorem addr_add (c o n:Nat):(⟨c,o,none⟩:Addr).add n=⟨c,o+n,none⟩:=by
 unfold Addr.add
 split
 ·subst_vars;rfl
 ·rfl
theorem cell_eq {w:World} {c:Nat} {cs:Array Value} {T:TypeId} {f:Nat×Nat} (h:w.heap[c]?=some (.cells cs T f)) (o:Nat):w.cell? ⟨c,o,none⟩=cs[o]?:=by
 simp [World.cell?,h]
theorem Rel.cell {ι:Mp} {h:AHeap} {w:World} (r:Rel ι h w) {b ver es c p:Nat} {md:Md} {vs:List AV} (hg:h.get b=some ⟨ver,.cells md es vs⟩) (e:ι b=some (c,p)) {i:Nat} {x:AV} (hx:vs[i]?=some x) :
  ∃v,w.cell? ⟨c,p+i,none⟩=some v∧VR ι (infoOf h.get) (wsz w) x v:=by
 obtain ⟨y,hy,_,ho⟩:=r.obj b c p e
 rw[hg] at hy
 cases hy
 obtain ⟨cs,T,lo,hi,h1,h2,_,_⟩:=ho
 obtain ⟨v,e1,e2⟩:=h2 i x hx
 exact ⟨v,by rw[cell_eq h1];exact e1,e2⟩
theorem row_some {vs:List AV} {o n:Nat} {cs:List AV} (h:row vs o n=some cs):o+n≤vs.length∧cs=(vs.drop o).take n:=by
 unfold row at h
 cases e:(o+n).ble vs.length with
 | false=>rw[e] at h;cases h
 | true=>rw[e] at h;exact ⟨Nat.le_of_ble_eq_true e,by simpa using h.symm⟩
theorem lay_some {vs cs:List AV} {o:Nat} {vs':List AV} (h:lay vs o cs=some vs'):o+cs.length≤vs.length∧vs'=vs.take o++(cs++vs.drop (o+cs.length)):=by
 unfold lay at h
 cases e:(o+cs.length).ble vs.length with
 | false=>rw[e] at h;cases h
 | true=>rw[e] at h;exact ⟨Nat.le_of_ble_eq_true e,by simpa using h.symm⟩
theorem lay_get {vs cs:List AV} {o:Nat} {vs':List AV} (h:lay vs o cs=some vs') (i:Nat):vs'[i]?=if o≤i∧i<o+cs.length then cs[i-o]? else vs[i]?:=by
 obtain ⟨hl,rfl⟩:=lay_some h
 by_cases h1:i<o
 ·rw[List.getElem?_append_left (by simp;omega),List.getElem?_take_of_lt h1,if_neg (by omega)]
 ·rw[List.getElem?_append_right (by simp;omega)]
  have e:(vs.take o).length=o:=by simp;omega
  rw[e]
  by_cases h2:i<o+cs.length
  ·rw[List.getElem?_append_left (by omega),if_pos (by omega)]
  ·rw[List.getElem?_append_right (by omega),List.getElem?_drop,if_neg (by omega)]
   congr 1
   omega
theorem lay_length {vs cs:List AV} {o:Nat} {vs':List AV} (h:lay vs o cs=some vs'):vs'.length=vs.length:=by
 obtain ⟨hl,rfl⟩:=lay_some h
 simp;omega
theorem Rel.loadRow {P:Program} {ι:Mp} {h:AHeap} {w:World} (r:Rel ι h w) {b ver es c p:Nat} {md:Md} {vs:List AV} (hg:h.get b=some ⟨ver,.cells md es vs⟩) (e:ι b=some (c,p)) {o n:Nat} {cs:List AV} (hx:row vs o n=some cs) :
  ∃l:List Value,(loadCells ⟨c,p+o,none⟩ n).run P w=.ok l.toArray w∧VRL ι (infoOf h.get) (wsz w) cs l:=by
 obtain ⟨hl,rfl⟩:=row_some hx
 obtain ⟨y,hy,_,ho⟩:=r.obj b c p e
 rw[hg] at hy
 cases hy
 obtain ⟨cells,T,lo,hi,h1,h2,_,_⟩:=ho
 have hlen:((cells.toList.drop (p+o)).take n).length=n:=by
  by_cases h0:n=0
  ·subst h0;simp
  ·obtain ⟨v,e1,_⟩:=h2 (o+n-1) _ (List.getElem?_eq_getElem (by omega))
   have:p+(o+n-1)<cells.size:=by
    by_cases hlt:p+(o+n-1)<cells.size
    ·exact hlt
    ·rw[Array.getElem?_eq_none (by omega)] at e1;cases e1
   simp;omega
 refine ⟨(cells.toList.drop (p+o)).take n,?_,?_⟩
 ·have:=run_loadCells_list (P:=P) w ⟨c,p+o,none⟩ ((cells.toList.drop (p+o)).take n) (fun j v hj=>by
   rw[addr_add,cell_eq h1]
   have hjn:j<n:=by
    have:=(List.getElem?_eq_some_iff.1 hj).1
    omega
   rw[List.getElem?_take_of_lt hjn,List.getElem?_drop] at hj
   simpa using hj)
  rwa[hlen] at this
 ·refine VRL.of_get _ _ (by rw[hlen];simp;omega) fun i x v hx hv=>?_
  have hin:i<n:=by
   have:=(List.getElem?_eq_some_iff.1 hv).1
   omega
  rw[List.getElem?_take_of_lt hin,List.getElem?_drop] at hx hv
  obtain ⟨v',e1,e2⟩:=h2 (o+i) x hx
  have:v=v':=by
   have h3:cells[p+o+i]?=some v:=by simpa using hv
   rw[show p+(o+i)=p+o+i by omega,h3] at e1
   cases e1;rfl
  exact this ▸ e2
theorem oneCell_of_flat {ι:Mp} {I:Nat→Info} {sz:Nat→Nat} {x:AV} {v:Value} (h:VR ι I sz x v) (hf:x.flat=true):v.oneCell'=true:=by
 cases x<;>simp only[VR] at h<;>simp only[AV.flat] at hf
 case agg cs=>cases hf
 case tuple cs=>cases hf
 case ptr=>obtain ⟨a,rfl,_⟩:=h;rfl
 case slice=>obtain ⟨a,c,rfl,_,_⟩:=h;rfl
 case map=>obtain ⟨a,rfl,_⟩:=h;rfl
 case func=>obtain ⟨a,c,rfl,_⟩:=h;rfl
 case iface=>obtain ⟨a,rfl,_⟩:=h;rfl
 all_goals subst h;rfl
theorem frozen_eq {w:World} {c:Nat} {cs:Array Value} {T:TypeId} (h:w.heap[c]?=some (.cells cs T (0,0))) (o:Nat):w.frozen? ⟨c,o,none⟩=false:=by
 simp [World.frozen?,h]
theorem run_storeCells {P:Program} (vs:List Value):∀(w:World) (c off i:Nat) (cs:Array Value) (T:TypeId),w.heap[c]?=some (.cells cs T (0,0))→off+i+vs.length≤cs.size→(∀v∈vs,v.oneCell'=true)→
  ∃w',(storeCells ⟨c,off,none⟩ vs i).run P w=.ok () w'∧w'.heap.size=w.heap.size∧(∀c',c'≠c→w'.heap[c']?=w.heap[c']?)∧
   (∃cs',w'.heap[c]?=some (.cells cs' T (0,0))∧cs'.size=cs.size∧∀j,cs'[j]?=if off+i≤j∧j<off+i+vs.length then vs[j-(off+i)]? else cs[j]?)∧
   w'.os=w.os∧w'.output=w.output∧w'.tape=w.tape:=by
 induction vs with
 | nil=>
  intro w c off i cs T h hl hv
  refine ⟨w,by simp [storeCells],rfl,fun _ _=>rfl,⟨cs,h,rfl,fun j=>?_⟩,rfl,rfl,rfl⟩
  rw[if_neg (by simp only[List.length_nil];omega)]
 | cons v vs ih=>
  intro w c off i cs T h hl hv
  have hlt:off+i<cs.size:=by simp at hl;omega
  have hc:w.cell? ⟨c,off+i,none⟩=some cs[off+i]:=by rw[cell_eq h];simp [hlt]
  have hcl:c<w.heap.size:=by
   by_cases hlt:c<w.heap.size
   ·exact hlt
   ·rw[Array.getElem?_eq_none (by omega)] at h;cases h
  have hset:(w.setCell ⟨c,off+i,none⟩ v).heap[c]?=some (.cells (cs.setIfInBounds (off+i) v) T (0,0)):=by
   simp [World.setCell,Array.getElem?_modify,h]
  obtain ⟨w',h1,h2,h3,⟨cs',h4,h5,h6⟩,h7⟩:=ih (w.setCell ⟨c,off+i,none⟩ v) c off (i+1) _ T hset (by simp at hl ⊢;omega) (fun x hx=>hv x (List.mem_cons_of_mem _ hx))
  refine ⟨w',?_,?_,?_,⟨cs',h4,by simpa using h5,fun j=>?_⟩,h7⟩
  ·simp only[storeCells,addr_add,Sem.run_bind]
   rw[run_store P w _ v _ (hv v (List.mem_cons_self ..)),hc]
   simp only[frozen_eq h,Bool.false_eq_true,if_false,Result.andThen_ok]
   exact h1
  ·rw[h2];simp [World.setCell]
  ·intro c' hc'
   rw[h3 c' hc']
   simp only[World.setCell,Array.getElem?_modify]
   rw[if_neg (fun e=>hc' e.symm)]
  ·rw[h6 j]
   by_cases hj:j=off+i
   ·subst hj
    rw[if_neg (by omega),if_pos (by simp),Array.getElem?_setIfInBounds,if_pos rfl,if_pos hlt]
    simp
   ·by_cases hj2:off+(i+1)≤j∧j<off+(i+1)+vs.length
    ·rw[if_pos hj2,if_pos (by simp;omega)]
     have e:j-(off+i)=(j-(off+(i+1)))+1:=by omega
     rw[e,List.getElem?_cons_succ]
    ·rw[if_neg hj2,if_neg (by simp;omega)]
     rw[Array.getElem?_setIfInBounds,if_neg (fun e=>hj e.symm)]
end Go.Ev
namespace Go.Ev
open Go
def mpNew (ι:Mp) (n c:Nat):Mp:=fun b=>if b=n then some (c,0) else ι b
theorem infoOf_alloc (h:AHeap) (o:AObj) (b:Nat):infoOf (h.alloc o).get b=if b=h.n then o.info else infoOf h.get b:=by
 unfold infoOf
 rw[AHeap.get_alloc]
 by_cases e:b=h.n<;>simp [e]
theorem infoOf_upd (h:AHeap) (b ver:Nat) (o:AObj) (b':Nat):infoOf (h.upd b ver o).get b'=if b'=b then o.info else infoOf h.get b':=by
 unfold infoOf
 rw[AHeap.get_upd]
 by_cases e:b'=b<;>simp [e]
theorem get_alloc_upd (h:AHeap) (b v:Nat) (o o':AObj) (b':Nat):((h.upd b v o).alloc o').get b'=if b'=h.n then some ⟨0,o'⟩ else (h.upd b v o).get b':=AHeap.get_alloc _ _ _
theorem infoOf_alloc_upd (h:AHeap) (b v:Nat) (o o':AObj) (b':Nat):infoOf ((h.upd b v o).alloc o').get b'=if b'=h.n then o'.info else infoOf (h.upd b v o).get b':=infoOf_alloc _ _ _
theorem Rel.noInfo {ι:Mp} {h:AHeap} {w:World} (r:Rel ι h w):infoOf h.get h.n=.no:=by
 unfold infoOf
 cases e:h.get h.n with
 | none=>rfl
 | some x=>exact absurd (r.lt _ _ e) (Nat.lt_irrefl _)
theorem Rel.notDom {ι:Mp} {h:AHeap} {w:World} (r:Rel ι h w):ι h.n=none:=by
 cases e:ι h.n with
 | none=>rfl
 | some x=>obtain ⟨c,p⟩:=x;exact absurd (r.dom _ _ _ e) (Nat.lt_irrefl _)
theorem Rel.wlt {ι:Mp} {h:AHeap} {w:World} (r:Rel ι h w) {b c p:Nat} (e:ι b=some (c,p)):c<w.heap.size:=by
 obtain ⟨_,_,h1,_⟩:=r.obj b c p e
 exact h1
theorem wsz_push {w w':World} {O:Obj} (hh:w'.heap=w.heap.push O) (c:Nat):wsz w c≤wsz w' c:=by
 unfold wsz
 rw[hh]
 by_cases hc:c<w.heap.size
 ·rw[Array.getElem?_push_lt hc]
  simp [hc]
 ·rw[Array.getElem?_eq_none (by omega)]
  simp
theorem Rel.growNew {ι:Mp} {h:AHeap} {w w':World} (r:Rel ι h w) (o:AObj) {c:Nat} (hsz:∀c,wsz w c≤wsz w' c):Grow ι (infoOf h.get) (wsz w) (mpNew ι h.n c) (infoOf (h.alloc o).get) (wsz w') where
 ext b x e:=by
  unfold mpNew
  have:b≠h.n:=fun hb=>by subst hb;rw[r.notDom] at e;cases e
  rw[if_neg this];exact e
 dead b e:=by
  rw[infoOf_alloc,if_neg (fun hb=>by subst hb;rw[r.noInfo] at e;cases e)];exact e
 live b ow f s _ _ e:=by
  rw[infoOf_alloc,if_neg (fun hb=>by subst hb;rw[r.noInfo] at e;cases e)];exact .inl e
 sz:=hsz
theorem Rel.new {ι:Mp} {h:AHeap} {w w':World} (r:Rel ι h w) {o:AObj} {O:Obj} (hh:w'.heap=w.heap.push O) (hoth:w'.os=w.os∧w'.output=w.output∧w'.tape=w.tape)
  (ho:ORel (mpNew ι h.n w.heap.size) (infoOf (h.alloc o).get) (wsz w') w' w.heap.size 0 o) :
  Step ι h w (mpNew ι h.n w.heap.size) (h.alloc o) w'∧Rel (mpNew ι h.n w.heap.size) (h.alloc o) w':=by
 have hg:=r.growNew o (c:=w.heap.size) (wsz_push hh)
 have hold:∀c,c<w.heap.size→w'.heap[c]?=w.heap[c]?:=fun c hc=>by rw[hh,Array.getElem?_push_lt hc];simp [hc]
 have hsz:w'.heap.size=w.heap.size+1:=by rw[hh];simp
 refine ⟨⟨hg,?_,Nat.le_succ _,by omega,fun c hc _=>hold c hc,?_,hoth⟩,⟨?_,?_,?_,?_⟩⟩
 ·intro b x e1 e2
  unfold mpNew at e2
  by_cases hb:b=h.n
  ·omega
  ·rw[if_neg hb,e1] at e2;cases e2
 ·intro b c p e1 e2
  unfold mpNew at e2
  by_cases hb:b=h.n
  ·rw[if_pos hb] at e2;cases e2;exact .inl (Nat.le_refl _)
  ·rw[if_neg hb,e1] at e2;cases e2
 ·intro b c p e
  unfold mpNew at e
  by_cases hb:b=h.n
  ·simp only[AHeap.alloc_n];omega
  ·rw[if_neg hb] at e;have:=r.dom _ _ _ e;simp only[AHeap.alloc_n];omega
 ·intro b x e
  rw[AHeap.get_alloc] at e
  by_cases hb:b=h.n
  ·simp only[AHeap.alloc_n];omega
  ·rw[if_neg hb] at e;have:=r.lt _ _ e;simp only[AHeap.alloc_n];omega
 ·intro b c p e
  by_cases hb:b=h.n
  ·unfold mpNew at e
   rw[if_pos hb] at e
   cases e
   exact ⟨⟨0,o⟩,by rw[AHeap.get_alloc,if_pos hb],by omega,ho⟩
  ·have e':ι b=some (c,p):=by unfold mpNew at e;rwa[if_neg hb] at e
   obtain ⟨x,e1,e2,e3⟩:=r.obj b c p e'
   exact ⟨x,by rw[AHeap.get_alloc,if_neg hb];exact e1,by omega,e3.mono hg (hold c e2)⟩
 ·intro b b' c p p' e e' ho' hd
  unfold mpNew at e e'
  by_cases hb:b=h.n
  ·rw[if_pos hb] at e
   cases e
   by_cases hb':b'=h.n
   ·rw[hb,hb']
   ·rw[if_neg hb'] at e';exact absurd (r.wlt e') (Nat.lt_irrefl _)
  ·rw[if_neg hb] at e
   by_cases hb':b'=h.n
   ·rw[if_pos hb'] at e';cases e';exact absurd (r.wlt e) (Nat.lt_irrefl _)
   ·rw[if_neg hb'] at e'
    obtain ⟨f,s,hf⟩:=ho'
    rw[infoOf_alloc,if_neg hb] at hf
    rw[infoOf_alloc,if_neg hb'] at hd
    exact r.inj b b' c p p' e e' ⟨f,s,hf⟩ hd
theorem Rel.write {ι:Mp} {h:AHeap} {w w':World} (r:Rel ι h w) {b c ver ver':Nat} {o o':AObj} (hg:h.get b=some ⟨ver,o⟩) (hi:o'.info=o.info) (hown:∃f s,o.info=.live true f s) (e:ι b=some (c,0))
  (hsize:w'.heap.size=w.heap.size) (hoth:w'.os=w.os∧w'.output=w.output∧w'.tape=w.tape) (hkeep:∀c',c'≠c→w'.heap[c']?=w.heap[c']?) (hsz:wsz w c≤wsz w' c)
  (ho:ORel ι (infoOf h.get) (wsz w') w' c 0 o') :
  Step ι h w ι (h.upd b ver' o') w'∧Rel ι (h.upd b ver' o') w':=by
 have hinfo:infoOf (h.upd b ver' o').get=infoOf h.get:=by
  funext b'
  rw[infoOf_upd]
  by_cases hb:b'=b
  ·subst hb;rw[if_pos rfl,hi];unfold infoOf;rw[hg]
  ·rw[if_neg hb]
 have hownb:OwnL h b:=by
  obtain ⟨f,s,hf⟩:=hown
  exact ⟨f,s,by unfold infoOf;rw[hg];exact hf⟩
 have hw:∀c',wsz w c'≤wsz w' c':=by
  intro c'
  by_cases hc:c'=c
  ·subst hc;exact hsz
  ·unfold wsz;rw[hkeep c' hc];exact Nat.le_refl _
 have hgr:Grow ι (infoOf h.get) (wsz w) ι (infoOf (h.upd b ver' o').get) (wsz w'):=by
  rw[hinfo]
  exact ⟨fun _ _ x=>x,fun _ x=>x,fun _ _ _ _ _ _ x=>.inl x,hw⟩
 refine ⟨⟨hgr,?_,Nat.le_refl _,by omega,?_,?_,hoth⟩,⟨r.dom,?_,?_,?_⟩⟩
 ·intro b x e1 e2;rw[e1] at e2;cases e2
 ·intro c' hc hno
  refine hkeep c' fun he=>?_
  subst he
  exact hno b 0 e hownb
 ·intro b c p e1 e2;rw[e1] at e2;cases e2
 ·intro b' x hx
  rw[AHeap.get_upd] at hx
  by_cases hb:b'=b
  ·subst hb;exact r.lt _ _ hg
  ·rw[if_neg hb] at hx;exact r.lt _ _ hx
 ·intro b' c' p e'
  by_cases hb:b'=b
  ·subst hb
   rw[e] at e'
   cases e'
   refine ⟨⟨ver',o'⟩,by rw[AHeap.get_upd,if_pos rfl],by rw[hsize];exact r.wlt e,?_⟩
   rw[hinfo];exact ho
  ·obtain ⟨x,e1,e2,e3⟩:=r.obj b' c' p e'
   by_cases hd:infoOf h.get b'=.dead
   ·refine ⟨x,by rw[AHeap.get_upd,if_neg hb];exact e1,by omega,?_⟩
    have:x.o=.dead:=by
     unfold infoOf at hd
     rw[e1] at hd
     obtain ⟨v,ob⟩:=x
     cases ob with
     | cells md es vs=>cases md<;>cases hd
     | amap es=>cases hd
     | dead=>rfl
    rw[this];trivial
   ·have hcc:c'≠c:=fun he=>by
     subst he
     exact hb (r.inj b b' c' 0 p e e' hownb hd).symm
    exact ⟨x,by rw[AHeap.get_upd,if_neg hb];exact e1,by omega,e3.mono hgr (hkeep c' hcc)⟩
 ·intro b1 b2 c' p p' e1 e2 ho' hd
  rw[hinfo] at hd
  unfold OwnL at ho'
  rw[hinfo] at ho'
  exact r.inj b1 b2 c' p p' e1 e2 ho' hd
theorem Rel.growKill {ι:Mp} {h:AHeap} {w w':World} {b ver':Nat} (hsz:∀c,wsz w c≤wsz w' c):Grow ι (infoOf h.get) (wsz w) ι (infoOf (h.upd b ver' .dead).get) (wsz w') where
 ext _ _ e:=e
 dead b' e:=by rw[infoOf_upd];split<;>simp_all [AObj.info]
 live b' o f s _ _ e:=by
  rw[infoOf_upd]
  by_cases hb:b'=b
  ·exact .inr (by rw[if_pos hb];rfl)
  ·exact .inl (by rw[if_neg hb];exact e)
 sz:=hsz
theorem Rel.kill {ι:Mp} {h:AHeap} {w:World} (r:Rel ι h w) {b ver':Nat} {x:Blk} (hg:h.get b=some x) :
  Step ι h w ι (h.upd b ver' .dead) w∧Rel ι (h.upd b ver' .dead) w:=by
 have hgr:Grow ι (infoOf h.get) (wsz w) ι (infoOf (h.upd b ver' .dead).get) (wsz w):=Rel.growKill fun _=>Nat.le_refl _
 refine ⟨⟨hgr,?_,Nat.le_refl _,Nat.le_refl _,fun _ _ _=>rfl,?_,rfl,rfl,rfl⟩,⟨r.dom,?_,?_,?_⟩⟩
 ·intro b x e1 e2;rw[e1] at e2;cases e2
 ·intro b c p e1 e2;rw[e1] at e2;cases e2
 ·intro b' y hy
  rw[AHeap.get_upd] at hy
  by_cases hb:b'=b
  ·subst hb;exact r.lt _ _ hg
  ·rw[if_neg hb] at hy;exact r.lt _ _ hy
 ·intro b' c' p e'
  obtain ⟨y,e1,e2,e3⟩:=r.obj b' c' p e'
  by_cases hb:b'=b
  ·exact ⟨⟨ver',.dead⟩,by rw[AHeap.get_upd,if_pos hb],e2,trivial⟩
  ·exact ⟨y,by rw[AHeap.get_upd,if_neg hb];exact e1,e2,e3.mono hgr rfl⟩
 ·intro b1 b2 c' p p' e1 e2 ho' hd
  rw[infoOf_upd] at hd
  by_cases hb2:b2=b
  ·rw[if_pos hb2] at hd;exact absurd rfl hd
  ·rw[if_neg hb2] at hd
   obtain ⟨f,s,hf⟩:=ho'
   rw[infoOf_upd] at hf
   by_cases hb1:b1=b
   ·rw[if_pos hb1] at hf;cases hf
   ·rw[if_neg hb1] at hf
    exact r.inj b1 b2 c' p p' e1 e2 ⟨f,s,hf⟩ hd
theorem Rel.take {ι:Mp} {h:AHeap} {w w':World} (r:Rel ι h w) {b c ver ver':Nat} {o o':AObj} (hg:h.get b=some ⟨ver,o⟩) (hown:∃f s,o.info=.live true f s) (e:ι b=some (c,0))
  (hsize:w'.heap.size=w.heap.size) (hoth:w'.os=w.os∧w'.output=w.output∧w'.tape=w.tape) (hkeep:∀c',c'≠c→w'.heap[c']?=w.heap[c']?) (hsz:wsz w c≤wsz w' c)
  (ho:ORel (mpNew ι h.n c) (infoOf ((h.upd b ver' .dead).alloc o').get) (wsz w') w' c 0 o') :
  Step ι h w (mpNew ι h.n c) ((h.upd b ver' .dead).alloc o') w'∧Rel (mpNew ι h.n c) ((h.upd b ver' .dead).alloc o') w':=by
 obtain ⟨s1,r1⟩:=r.kill (ver':=ver') hg
 have hownb:OwnL h b:=by
  obtain ⟨f,s,hf⟩:=hown
  exact ⟨f,s,by unfold infoOf;rw[hg];exact hf⟩
 have hbn:b<h.n:=r.lt _ _ hg
 have hw:∀c',wsz w c'≤wsz w' c':=by
  intro c'
  by_cases hc:c'=c
  ·subst hc;exact hsz
  ·unfold wsz;rw[hkeep c' hc];exact Nat.le_refl _
 have hg2:Grow ι (infoOf (h.upd b ver' .dead).get) (wsz w) (mpNew ι h.n c) (infoOf ((h.upd b ver' .dead).alloc o').get) (wsz w'):=r1.growNew o' (c:=c) hw
 have hgr:=s1.grow.trans hg2
 have hdeadb:infoOf ((h.upd b ver' .dead).alloc o').get b=.dead:=by
  rw[infoOf_alloc_upd,if_neg (by omega),infoOf_upd,if_pos rfl];rfl
 refine ⟨⟨hgr,?_,Nat.le_succ _,by omega,?_,?_,hoth⟩,⟨?_,?_,?_,?_⟩⟩
 ·intro b' x e1 e2
  unfold mpNew at e2
  by_cases hb:b'=h.n
  ·omega
  ·rw[if_neg hb,e1] at e2;cases e2
 ·intro c' hc hno
  refine hkeep c' fun he=>?_
  subst he
  exact hno b 0 e hownb
 ·intro b' c' p e1 e2
  unfold mpNew at e2
  by_cases hb:b'=h.n
  ·rw[if_pos hb] at e2;cases e2
   exact .inr ⟨b,0,e,hownb,hdeadb⟩
  ·rw[if_neg hb,e1] at e2;cases e2
 ·intro b' c' p e'
  unfold mpNew at e'
  by_cases hb:b'=h.n
  ·simp only[AHeap.alloc_n,AHeap.upd_n];omega
  ·rw[if_neg hb] at e';have:=r.dom _ _ _ e';simp only[AHeap.alloc_n,AHeap.upd_n];omega
 ·intro b' x hx
  rw[get_alloc_upd] at hx
  by_cases hb:b'=h.n
  ·simp only[AHeap.alloc_n,AHeap.upd_n];omega
  ·rw[if_neg hb] at hx;have:=r1.lt _ _ hx;simp only[AHeap.alloc_n,AHeap.upd_n] at this ⊢;omega
 ·intro b' c' p e'
  by_cases hb:b'=h.n
  ·unfold mpNew at e'
   rw[if_pos hb] at e'
   cases e'
   exact ⟨⟨0,o'⟩,by rw[get_alloc_upd,if_pos hb],by rw[hsize];exact r.wlt e,ho⟩
  ·have e2:ι b'=some (c',p):=by unfold mpNew at e';rwa[if_neg hb] at e'
   obtain ⟨x,e3,e4,e5⟩:=r1.obj b' c' p e2
   refine ⟨x,by rw[get_alloc_upd,if_neg hb];exact e3,by omega,?_⟩
   by_cases hd:infoOf (h.upd b ver' .dead).get b'=.dead
   ·have:x.o=.dead:=by
     unfold infoOf at hd
     rw[e3] at hd
     obtain ⟨v,ob⟩:=x
     cases ob with
     | cells md es vs=>cases md<;>cases hd
     | amap es=>cases hd
     | dead=>rfl
    rw[this];trivial
   ·have hbb:b'≠b:=fun he=>hd (by subst he;rw[infoOf_upd,if_pos rfl];rfl)
    have hd':infoOf h.get b'≠.dead:=by rw[infoOf_upd,if_neg hbb] at hd;exact hd
    have hcc:c'≠c:=fun he=>by
     subst he
     exact hbb (r.inj b b' c' 0 p e e2 hownb hd').symm
    exact e5.mono hg2 (hkeep c' hcc)
 ·intro b1 b2 c' p p' e1 e2 ho' hd
  unfold mpNew at e1 e2
  rw[infoOf_alloc_upd] at hd
  obtain ⟨f,s,hf⟩:=ho'
  rw[infoOf_alloc_upd] at hf
  have key:∀b' p,ι b'=some (c,p)→infoOf (h.upd b ver' .dead).get b'≠.dead→False:=by
   intro b' p e' hd
   have hbb:b'≠b:=fun he=>hd (by subst he;rw[infoOf_upd,if_pos rfl];rfl)
   have hd':infoOf h.get b'≠.dead:=by rw[infoOf_upd,if_neg hbb] at hd;exact hd
   exact hbb (r.inj b b' c 0 p e e' hownb hd').symm
  by_cases hb1:b1=h.n
  ·rw[if_pos hb1] at e1
   cases e1
   by_cases hb2:b2=h.n
   ·rw[hb1,hb2]
   ·rw[if_neg hb2] at e2 hd
    exact absurd hd (fun hd=>key b2 p' e2 hd)
  ·rw[if_neg hb1] at e1 hf
   by_cases hb2:b2=h.n
   ·rw[if_pos hb2] at e2
    cases e2
    exact absurd (fun hx=>by rw[hf] at hx;cases hx) (fun hx=>key b1 p e1 hx)
   ·rw[if_neg hb2] at e2 hd
    exact r1.inj b1 b2 c' p p' e1 e2 ⟨f,s,hf⟩ hd
end Go.Ev
namespace Go.Ev
open Go
theorem mapO_get {α β:Type} {f:α→Option β}:∀{l:List α} {r:List β},mapO f l=some r→r.length=l.length∧∀(i:Nat) (x:α),l[i]?=some x→∃y,r[i]?=some y∧f x=some y
 | [],r,h=>by simp [mapO] at h;subst h;simp
 | x::l,r,h=>by
  unfold mapO at h
  split at h
  ·rename_i y ys h1 h2
   cases h
   obtain ⟨h3,h4⟩:=mapO_get h2
   refine ⟨by simp [h3],fun i z hz=>?_⟩
   cases i with
   | zero=>simp at hz;subst hz;exact ⟨y,by simp,h1⟩
   | succ i=>simp at hz;obtain ⟨u,e1,e2⟩:=h4 i z hz;exact ⟨u,by simpa using e1,e2⟩
  ·cases h
def DRel (ι:Mp) (I:Nat→Info) (sz:Nat→Nat) (x:FuncId×List AV) (d:Deferred):Prop:=
 ∃cap,d.target=.fn (.func x.1) cap∧VRL ι I sz x.2 (d.args++cap).toList
def DRelL (ι:Mp) (I:Nat→Info) (sz:Nat→Nat):List (FuncId×List AV)→List Deferred→Prop
 | [],l=>l=[]
 | x::xs,l=>∃d ds,l=d::ds∧DRel ι I sz x d∧DRelL ι I sz xs ds
theorem DRelL.mono {ι ι':Mp} {I I':Nat→Info} {sz sz':Nat→Nat} (g:Grow ι I sz ι' I' sz'):∀(xs:List (FuncId×List AV)) (ds:List Deferred),DRelL ι I sz xs ds→DRelL ι' I' sz' xs ds
 | [],_,h=>by simpa only[DRelL] using h
 | x::xs,_,h=>by
  simp only[DRelL] at h ⊢
  obtain ⟨d,ds,rfl,⟨cap,h1,h2⟩,h3⟩:=h
  exact ⟨d,ds,rfl,⟨cap,h1,VRL.mono g _ _ h2⟩,DRelL.mono g xs ds h3⟩
structure ARel (nt:Nat) (ι:Mp) (I:Nat→Info) (sz:Nat→Nat) (a:AAct) (a':Act):Prop where
 size:a'.tmps.size=nt
 tm:∀i,VR ι I sz ((a.tm.get i).getD undefA) (a'.tmps.getD i undef)
 df:DRelL ι I sz a.df a'.defers
theorem ARel.mono {nt:Nat} {ι ι':Mp} {I I':Nat→Info} {sz sz':Nat→Nat} (g:Grow ι I sz ι' I' sz') {a:AAct} {a':Act} (h:ARel nt ι I sz a a'):ARel nt ι' I' sz' a a':=
 ⟨h.size,fun i=>VR.mono g _ _ (h.tm i),DRelL.mono g _ _ h.df⟩
theorem VR.undef {ι:Mp} {I:Nat→Info} {sz:Nat→Nat}:VR ι I sz undefA undef:=by
 simp [undefA,Go.undef,VR,VRL]
theorem ARel.put {nt:Nat} {ι:Mp} {I:Nat→Info} {sz:Nat→Nat} {a:AAct} {a':Act} (h:ARel nt ι I sz a a') {d:Option Nat} (hd:∀t,d=some t→t<nt) {x:AV} {v:Value} (hv:VR ι I sz x v):ARel nt ι I sz (a.put d x) (a'.put d v):=by
 cases d with
 | none=>exact h
 | some t=>
  have ht:=hd t rfl
  refine ⟨by simp [Act.put,h.size],fun i=>?_,h.df⟩
  simp only[AAct.put,Act.put,Tr.get_set]
  have hsz:=h.size
  by_cases hi:i=t
  ·subst hi
   have e:(a'.tmps.setIfInBounds i v).getD i Go.undef=v:=by simp [Array.getD,hsz,ht]
   rw[e];simpa using hv
  ·have e:(a'.tmps.setIfInBounds t v).getD i Go.undef=a'.tmps.getD i Go.undef:=by
    simp only[Array.getD_eq_getD_getElem?,Array.getElem?_setIfInBounds]
    rw[if_neg (fun e=>hi e.symm)]
   rw[e,if_neg hi]
   exact h.tm i
section opds
variable {P:Program} {ι:Mp} {I:Nat→Info} {sz:Nat→Nat}
theorem toA_rel:∀(n:Nat) (v:Value) (x:AV),toA n v=some x→VR ι I sz x v
 | 0,_,_,h=>by simp [toA] at h
 | n+1,v,x,h=>by
  have key:∀(cs:Array Value) (xs:List AV),mapO (toA n) cs.toList=some xs→VRL ι I sz xs cs.toList:=by
   intro cs xs hm
   obtain ⟨hl,hg⟩:=mapO_get hm
   refine VRL.of_get _ _ hl fun i x v hx hv=>?_
   obtain ⟨y,e1,e2⟩:=hg i v hv
   rw[hx] at e1
   cases e1
   exact toA_rel n v x e2
  unfold toA at h
  split at h<;>try (cases h;done)
  all_goals try (cases h;simp [VR];done)
  ·cases e:mapO (toA n) ‹Array Value›.toList with
   | none=>rw[e] at h;cases h
   | some xs=>rw[e] at h;cases h;simp only[VR];exact ⟨_,rfl,key _ _ e⟩
  ·cases e:mapO (toA n) ‹Array Value›.toList with
   | none=>rw[e] at h;cases h
   | some xs=>rw[e] at h;cases h;simp only[VR];exact ⟨_,rfl,key _ _ e⟩
  ·rename_i t v
   cases e:toA n v with
   | none=>rw[e] at h;cases h
   | some y=>rw[e] at h;cases h;simp only[VR];exact ⟨_,rfl,toA_rel n v y e⟩
  ·split at h
   ·rename_i h1 h2
    cases h
    simp only[VR]
    exact ⟨_,_,rfl,by simp [VRL,h1],by simp [VRL,h2]⟩
   ·cases h
theorem opd_rel {nt:Nat} {a:AAct} {a':Act} (hG:∀g,g<P.globals.size→ι g=some (g,0)) (ha:ARel nt ι I sz a a') {x:Operand} {x':Opd} (h:cOpd P x=some x'):VR ι I sz (a.eval x') (a'.eval x):=by
 cases x with
 | tmp t=>simp only[cOpd] at h;cases h;exact ha.tm t
 | const v=>
  simp only[cOpd] at h
  cases e:toA 4 v with
  | none=>rw[e] at h;cases h
  | some y=>rw[e] at h;cases h;exact toA_rel 4 v y e
 | global g=>
  simp only[cOpd] at h
  cases e:Nat.blt g P.globals.size with
  | false=>rw[e] at h;cases h
  | true=>
   rw[e] at h
   cases h
   simp only[AAct.eval,Act.eval,VR]
   exact ⟨_,rfl,.inr ⟨g,0,hG g (by simpa [Nat.blt_eq] using e),rfl⟩⟩
 | func f=>
  simp only[cOpd] at h
  cases h
  simp only[AAct.eval,Act.eval,VR]
  exact ⟨_,_,rfl,by simp [VRL],by simp [VRL]⟩
theorem opds_rel {nt:Nat} {a:AAct} {a':Act} (hG:∀g,g<P.globals.size→ι g=some (g,0)) (ha:ARel nt ι I sz a a') {xs:Array Operand} {xs':List Opd} (h:cOpds P xs=some xs'):VRL ι I sz (xs'.map a.eval) (xs.map a'.eval).toList:=by
 obtain ⟨hl,hg⟩:=mapO_get h
 refine VRL.of_get _ _ (by simp [hl]) fun i x v hx hv=>?_
 rw[List.getElem?_map] at hx
 rw[Array.toList_map,List.getElem?_map] at hv
 cases e:xs.toList[i]? with
 | none=>rw[e] at hv;cases hv
 | some y=>
  obtain ⟨z,e1,e2⟩:=hg i y e
  rw[e] at hv
  rw[e1] at hx
  cases hv;cases hx
  exact opd_rel hG ha e2
end opds
def OpOk (P:Program) (o:Oper) (a':Act) (w:World) (ι:Mp) (h:AHeap) (x:AV) (h':AHeap):Prop:=
 ∃nx w' ι' v',(execOp a'.eval o).run P w=.ok nx w'∧(nx=.value v'∨(nx=.skip∧v'=undef))∧Step ι h w ι' h' w'∧Rel ι' h' w'∧VR ι' (infoOf h'.get) (wsz w') x v'
theorem OpOk.pure {P:Program} {o:Oper} {a':Act} {w:World} {ι:Mp} {h:AHeap} {x:AV} {v:Value} (r:Rel ι h w) (he:(execOp a'.eval o).run P w=.ok (.value v) w) (hv:VR ι (infoOf h.get) (wsz w) x v):OpOk P o a' w ι h x h:=
 ⟨_,w,ι,v,he,.inl rfl,Step.refl _ _ _,r,hv⟩
section types
variable {P:Program} (w:World)
theorem run_und {t:TypeId} {d:TypeDesc} (h:P.underlying t=some d):(underlying t).run P w=.ok d w:=by simp [underlying,h]
theorem run_info {t:TypeId} {i:TypeInfo} (h:P.info? t=some i):(typeInfo t).run P w=.ok i w:=by simp [typeInfo,h]
theorem run_size {t:TypeId} {n:Nat} (h:szOf P t=some n):(sizeOf t).run P w=.ok n w:=by
 unfold szOf at h
 cases e:P.info? t with
 | none=>rw[e] at h;cases h
 | some i=>rw[e] at h;cases h;simp [sizeOf,run_info w e]
theorem run_agg {t:TypeId} {b:Bool} (h:aggOf P t=some b):(isAgg t).run P w=.ok b w:=by
 unfold aggOf at h
 cases e:P.underlying t with
 | none=>rw[e] at h;cases h
 | some d=>
  rw[e] at h
  cases d<;>cases h<;>simp [isAgg,run_und w e]
theorem run_zero {t:TypeId} {x:AV} (h:zeroOf P t=some x):∃v,(zeroValue t).run P w=.ok v w∧toA 3 v=some x:=by
 unfold zeroOf at h
 cases e:P.info? t with
 | none=>rw[e] at h;cases h
 | some i=>
  rw[e] at h
  simp only at h
  cases e2:i.zero with
  | none=>rw[e2] at h;cases h
  | some v=>rw[e2] at h;exact ⟨v,by simp [zeroValue,run_info w e,e2],h⟩
end types
theorem fits_wrap {k:IntKind} {n:Int} (h:fits k n=true):k.wrap n=n:=by
 cases k<;>simp [fits] at h<;>simp [IntKind.wrap,IntKind.bits,IntKind.signed]<;>omega
theorem wr_eq (k:IntKind) (n:Int):wr k n=k.wrap n:=by
 unfold wr
 cases e:fits k n with
 | false=>rfl
 | true=>simp [fits_wrap e]
theorem toList_eq (b:ByteArray):b.toList=b.data.toList:=by
 have key:∀(n i:Nat) (r:List UInt8),b.size-i=n→ByteArray.toList.loop b i r=r.reverse++b.data.toList.drop i:=by
  intro n
  induction n with
  | zero=>
   intro i r hn
   unfold ByteArray.toList.loop
   have:b.data.toList.length≤i:=by
    have:b.data.toList.length=b.size:=rfl
    omega
   rw[if_neg (by omega),List.drop_eq_nil_of_le this]
   simp
  | succ n ih=>
   intro i r hn
   have hlt:i<b.size:=by omega
   unfold ByteArray.toList.loop
   rw[if_pos hlt,ih (i+1) _ (by omega)]
   have hl:i<b.data.toList.length:=hlt
   rw[List.drop_eq_getElem_cons hl]
   have:b.get! i=b.data.toList[i]:=by
    show b.data[i]! = _
    rw[getElem!_pos b.data i hlt]
    rfl
   simp [this]
 have:=key b.size 0 [] (by omega)
 simpa [ByteArray.toList] using this
section pures
variable {P:Program} {ι:Mp} {I:Nat→Info} {sz:Nat→Nat} (w:World)
theorem intBin_rel {op:BinOp} {k:IntKind} {a b:Int} {x:AV} (hop:op≠.shl∧op≠.shr) (t:TypeId) (h:intBin op k a b=some x):∃v,(binOp op t (.int k a) (.int k b)).run P w=.ok v w∧VR ι I sz x v:=by
 cases op<;>simp only[intBin] at h
 case shl=>exact absurd rfl hop.1
 case shr=>exact absurd rfl hop.2
 case quo=>
  cases e:b==0 with
  | true=>rw[e] at h;cases h
  | false=>
   rw[e] at h
   cases h
   have:b≠0:=by simpa using e
   exact ⟨.int k (k.wrap (a.tdiv b)),by simp [binOp,Op.intDiv,this],by simp [VR,wr_eq]⟩
 case rem=>
  cases e:b==0 with
  | true=>rw[e] at h;cases h
  | false=>
   rw[e] at h
   cases h
   have:b≠0:=by simpa using e
   exact ⟨.int k (a.tmod b),by simp [binOp,Op.intDiv,this],by simp [VR]⟩
 case andNot=>cases h
 all_goals
  cases h
  refine ⟨_,by simp only[binOp,Op.intArith,Op.intBits,Op.intCmp,ne_eq,not_true_eq_false,if_false];rfl,?_⟩
  simp [VR,wr_eq]
theorem shift_rel {op:BinOp} {k k':IntKind} {a b:Int} {x:AV} (t:TypeId) (h:shiftA op k a b=some x):∃v,(binOp op t (.int k a) (.int k' b)).run P w=.ok v w∧VR ι I sz x v:=by
 unfold shiftA at h
 cases e:decide (b<0) with
 | true=>rw[e] at h;cases h
 | false=>
  rw[e] at h
  have hb:¬b<0:=by simpa using e
  cases op<;>simp only[cond_false] at h<;>cases h
  ·exact ⟨_,by simp only[binOp,Op.shift,if_neg hb];rfl,by simp [VR,wr_eq]⟩
  ·exact ⟨_,by simp only[binOp,Op.shift,if_neg hb];rfl,by simp [VR]⟩
theorem strBin_rel {op:BinOp} {a b:List UInt8} {x:AV} (t:TypeId) (h:strBin op a b=some x):∃v,(binOp op t (.string ⟨⟨a⟩⟩) (.string ⟨⟨b⟩⟩)).run P w=.ok v w∧VR ι I sz x v:=by
 have ea:(ByteArray.mk ⟨a⟩).toList=a:=by rw[toList_eq]
 have eb:(ByteArray.mk ⟨b⟩).toList=b:=by rw[toList_eq]
 cases op<;>simp only[strBin] at h
 case add=>
  cases e:(a.length+b.length).ble 9223372036854775807 with
  | false=>rw[e] at h;cases h
  | true=>
   rw[e] at h
   cases h
   have hle:=Nat.le_of_ble_eq_true e
   have hs:¬((((ByteArray.mk ⟨a⟩).size+(ByteArray.mk ⟨b⟩).size:Nat):Int)>IntKind.i64.max):=by
    have h1:(ByteArray.mk ⟨a⟩).size=a.length:=rfl
    have h2:(ByteArray.mk ⟨b⟩).size=b.length:=rfl
    rw[h1,h2]
    simp only[IntKind.max,IntKind.signed,IntKind.bits]
    simp
    omega
   refine ⟨_,by simp only[binOp,Op.stringOp,if_neg hs];rfl,?_⟩
   simp only[VR]
   congr 1
 all_goals try (cases h;done)
 all_goals
  cases h
  refine ⟨_,by simp only[binOp,Op.stringOp];rfl,?_⟩
  simp only[VR,ea,eb]
end pures
end Go.Ev
namespace Go.Ev
open Go
section fill
variable {ι:Mp} {I:Nat→Info} {sz:Nat→Nat}
theorem VRL.lay {zs cs zs':List AV} {l m:List Value} (hz:VRL ι I sz zs l) (hc:VRL ι I sz cs m) {o:Nat} (h:Ev.lay zs o cs=some zs') (l':List Value) (hl:l'.length=l.length) (hg:∀k,l'[k]?=if o≤k∧k<o+m.length then m[k-o]? else l[k]?):VRL ι I sz zs' l':=by
 have e1:=lay_length h
 have e2:=hz.length
 have e3:=hc.length
 refine VRL.of_get _ _ (by omega) fun i x v hx hv=>?_
 rw[lay_get h i] at hx
 rw[hg i] at hv
 by_cases hi:o≤i∧i<o+cs.length
 ·rw[if_pos hi] at hx
  rw[if_pos (by omega)] at hv
  obtain ⟨y,e4,e5⟩:=hc.get _ _ hx
  rw[hv] at e4;cases e4;exact e5
 ·rw[if_neg hi] at hx
  rw[if_neg (by omega)] at hv
  obtain ⟨y,e4,e5⟩:=hz.get _ _ hx
  rw[hv] at e4;cases e4;exact e5
theorem fill_rel {ev:Opd→AV} {place:Nat→Option (Nat×Nat)}:∀(parts:List (Nat×Nat×Opd)) (ps:List (Nat×Value)) (zs zs':List AV) (cells:Array Value),
  parts.length=ps.length→(∀(i:Nat) (p:Nat×Nat×Opd) (q:Nat×Value),parts[i]?=some p→ps[i]?=some q→place q.1=some (p.1,p.2.1)∧VR ι I sz (ev p.2.2) q.2)→
  VRL ι I sz zs cells.toList→fillA ev zs parts=some zs'→∃cells',Instr.fill place cells ps=some cells'∧VRL ι I sz zs' cells'.toList
 | [],[],zs,zs',cells,_,_,hz,h=>by
  simp only[fillA] at h
  cases h
  exact ⟨cells,by simp [Instr.fill],hz⟩
 | (off,size,x)::parts,(i,v)::ps,zs,zs',cells,hl,hp,hz,h=>by
  obtain ⟨h1,h2⟩:=hp 0 (off,size,x) (i,v) rfl rfl
  have hc:VRL ι I sz (ev x).cells v.cells.toList:=h2.cells
  simp only[fillA] at h
  cases e:(ev x).cells.length.beq size with
  | false=>rw[e] at h;cases h
  | true=>
   rw[e] at h
   simp only[cond_true] at h
   have hsz:(ev x).cells.length=size:=Nat.eq_of_beq_eq_true e
   cases e2:Ev.lay zs off (ev x).cells with
   | none=>rw[e2] at h;cases h
   | some zs1=>
    rw[e2] at h
    have hlen:=hc.length
    have hzl:=hz.length
    obtain ⟨hle,_⟩:=lay_some e2
    have hvs:v.cells.size=size:=by
      have:v.cells.toList.length=v.cells.size:=by simp
      omega
    have hcs:cells.toList.length=cells.size:=by simp
    have hfs:v.cells.zipIdx.foldl (fun cs (x:Value×Nat)=>cs.setIfInBounds (off+x.2) x.1) cells=(v.cells.toList.zipIdx 0).foldl (fun cs (x:Value×Nat)=>cs.setIfInBounds (off+x.2) x.1) cells:=by
     rw[←Array.foldl_toList];simp
    obtain ⟨hf1,hf2⟩:=Great.foldl_set off v.cells.toList 0 cells
    have hstep:Instr.fill place cells ((i,v)::ps)=Instr.fill place ((v.cells.toList.zipIdx 0).foldl (fun cs (x:Value×Nat)=>cs.setIfInBounds (off+x.2) x.1) cells) ps:=by
     rw[←hfs]
     simp only[Instr.fill,h1]
     rw[if_neg (by simp only[hvs];simp;omega)]
    rw[hstep]
    refine fill_rel parts ps zs1 zs' _ (by simpa using hl) (fun j p q hj hk=>hp (j+1) p q (by simpa using hj) (by simpa using hk)) ?_ h
    refine VRL.lay hz hc e2 _ (by simp [hf1]) fun k=>?_
    have:=hf2 k
    rw[Array.getElem?_toList,this]
    simp only[Nat.add_zero]
    by_cases hk:off≤k∧k<off+v.cells.toList.length
    ·rw[if_pos ⟨hk.1,hk.2,by omega⟩,if_pos hk]
    ·rw[if_neg (fun hh=>hk ⟨hh.1,hh.2.1⟩),if_neg hk];simp
 | [],_::_,_,_,_,h,_,_,_=>by simp at h
 | _::_,[],_,_,_,h,_,_,_=>by simp at h
end fill
theorem run_mapM_pure {P:Program} {α β:Type} (w:World) (f:α→Sem β) (g:α→β) (xs:Array α) (h:∀x∈xs.toList,(f x).run P w=.ok (g x) w):(xs.mapM f).run P w=.ok (xs.map g) w:=by
 have key:∀l:List α,(∀x∈l,(f x).run P w=.ok (g x) w)→(l.mapM f).run P w=.ok (l.map g) w:=by
  intro l
  induction l with
  | nil=>intro _;simp
  | cons x l ih=>
   intro hl
   rw[List.mapM_cons]
   simp [hl x (List.mem_cons_self ..),ih fun y hy=>hl y (List.mem_cons_of_mem _ hy)]
 rw[Array.mapM_eq_mapM_toList]
 simp only[Sem.run_map,key xs.toList h,Result.andThen_ok]
 congr 1
 apply Array.ext'
 simp
structure Ctx (P:Program) (nt:Nat) (ι:Mp) (h:AHeap) (w:World) (a:AAct) (a':Act):Prop where
 glob:∀g,g<P.globals.size→ι g=some (g,0)
 rel:Rel ι h w
 act:ARel nt ι (infoOf h.get) (wsz w) a a'
section ops
variable {P:Program} {nt:Nat} {ι:Mp} {h:AHeap} {w:World} {a:AAct} {a':Act} {o:Oper}
theorem Ctx.opd (c:Ctx P nt ι h w a a') {x:Operand} {x':Opd} (hx:cOpd P x=some x'):VR ι (infoOf h.get) (wsz w) (a.eval x') (a'.eval x):=opd_rel c.glob c.act hx
theorem Ctx.opds (c:Ctx P nt ι h w a a') {xs:Array Operand} {xs':List Opd} (hx:cOpds P xs=some xs'):VRL ι (infoOf h.get) (wsz w) (xs'.map a.eval) (xs.map a'.eval).toList:=opds_rel c.glob c.act hx
theorem ok_mov (c:Ctx P nt ι h w a a') {x:Operand} {x':Opd} (ho:o.op=.move x∨o.op=.assign x) (hx:cOpd P x=some x'):OpOk P o a' w ι h (a.eval x') h:=by
 rcases ho with ho|ho<;>exact OpOk.pure c.rel (by simp [execOp,ho]) (c.opd hx)
theorem ok_pick (c:Ctx P nt ι h w a a') {x y z:Operand} {x' y' z':Opd} (ho:o.op=.pick x y z) (hx:cOpd P x=some x') (hy:cOpd P y=some y') (hz:cOpd P z=some z') {b:Bool} (hb:a.eval x'=.bool b) :
  OpOk P o a' w ι h (bif b then a.eval y' else a.eval z') h:=by
 have h1:=c.opd hx
 rw[hb] at h1
 simp only[VR] at h1
 refine OpOk.pure (v:=if b then a'.eval y else a'.eval z) c.rel (by simp [execOp,ho,h1,asBool]) ?_
 cases b
 ·simpa using c.opd hz
 ·simpa using c.opd hy
theorem ok_nilck (c:Ctx P nt ι h w a a') {x:Operand} {x':Opd} (ho:o.op=.nilCheck x) (hx:cOpd P x=some x') (hp:(∃b f,a.eval x'=.ptr b f)∨∃t v,a.eval x'=.iface t v):OpOk P o a' w ι h (a.eval x') h:=by
 have h1:=c.opd hx
 rcases hp with ⟨b,f,e⟩|⟨t,v,e⟩
 ·rw[e] at h1 ⊢
  have h2:=h1
  simp only[VR] at h1
  obtain ⟨ad,e1,_⟩:=h1
  refine OpOk.pure c.rel (v:=.pointer (some ad)) ?_ (e1 ▸ h2)
  simp [execOp,ho,e1]
 ·rw[e] at h1 ⊢
  have h2:=h1
  simp only[VR] at h1
  obtain ⟨x',e1,_⟩:=h1
  refine OpOk.pure c.rel (v:=.iface t x') ?_ (e1 ▸ h2)
  simp [execOp,ho,e1]
theorem run_eqGuard_no {op:BinOp} {t:TypeId} {x y:Operand} {u v:Value} (w:World) (hne:¬(u=.nilIface∧v=.nilIface)) (ha:∀xs ys,u=.agg xs→v=.agg ys→P.eqGuardType P.depth t=false):(eqGuard op t x y u v).run P w=.ok () w:=by
 cases op
 case eql=>
  cases u<;>try rfl
  ·cases v<;>try rfl
   exact absurd ⟨rfl,rfl⟩ hne
  ·cases v<;>try rfl
   simp [eqGuard,ha _ _ rfl rfl]
 case neq=>
  cases u<;>try rfl
  ·cases v<;>try rfl
   exact absurd ⟨rfl,rfl⟩ hne
  ·cases v<;>try rfl
   simp [eqGuard,ha _ _ rfl rfl]
 all_goals rfl
theorem ok_bin (c:Ctx P nt ι h w a a') {op:BinOp} {t t2:TypeId} {x y:Operand} {x' y':Opd} (ho:o.op=.binOp op t x y t2) (hx:cOpd P x=some x') (hy:cOpd P y=some y') {r:AV} (hr:binA op (a.eval x') (a.eval y')=some r):OpOk P o a' w ι h r h:=by
 have h1:=c.opd hx
 have h2:=c.opd hy
 generalize a.eval x'=u at h1 hr
 generalize a.eval y'=v at h2 hr
 have key:∃v',(binOp op t (a'.eval x) (a'.eval y)).run P w=.ok v' w∧VR ι (infoOf h.get) (wsz w) r v':=by
  cases u<;>try (simp [binA] at hr;done)
  ·cases v<;>try (simp [binA] at hr;done)
   simp only[VR] at h1 h2
   rw[h1,h2]
   by_cases hs:op=.shl∨op=.shr
   ·rcases hs with rfl|rfl<;>exact shift_rel w t hr
   ·have hk:∀k n k' n',binA op (.int k n) (.int k' n')=bif decide (k=k') then intBin op k n n' else none:=by
     intro k n k' n'
     cases op<;>first|rfl|exact absurd (.inl rfl) hs|exact absurd (.inr rfl) hs
    rw[hk] at hr
    rename_i k n k' n'
    by_cases hkk:k=k'
    ·subst hkk
     simp only[decide_true,cond_true] at hr
     exact intBin_rel w ⟨fun e=>hs (.inl e),fun e=>hs (.inr e)⟩ t hr
    ·simp [hkk] at hr
  ·cases v<;>try (simp [binA] at hr;done)
   simp only[VR] at h1 h2
   rw[h1,h2]
   exact strBin_rel w t hr
 have hg:(eqGuard op t x y (a'.eval x) (a'.eval y)).run P w=.ok () w:=by
  refine run_eqGuard_no w ?_ ?_
  ·rintro ⟨e1,_⟩
   rw[e1] at h1
   cases u<;>simp [VR] at h1
   simp [binA] at hr
  ·intro xs ys e1 _
   rw[e1] at h1
   cases u<;>simp [VR] at h1
   simp [binA] at hr
 obtain ⟨v',e1,e2⟩:=key
 exact OpOk.pure c.rel (v:=v') (by simp [execOp,ho,hg,e1]) e2
theorem ok_un (c:Ctx P nt ι h w a a') {op:UnOp} {t:TypeId} {x:Operand} {x':Opd} (ho:o.op=.unOp op t x) (hx:cOpd P x=some x') {r:AV} (hr:unA op (a.eval x')=some r):OpOk P o a' w ι h r h:=by
 have h1:=c.opd hx
 generalize a.eval x'=u at h1 hr
 cases op<;>cases u<;>simp only[unA] at hr<;>try (cases hr;done)
 ·cases hr
  simp only[VR] at h1
  exact OpOk.pure c.rel (by simp only[execOp,ho,h1,Op.unary,Op.intArith];rfl) (by simp [VR,wr_eq])
 ·cases hr
  simp only[VR] at h1
  exact OpOk.pure c.rel (by simp only[execOp,ho,h1,Op.unary];rfl) (by simp [VR])
theorem ok_cvi (c:Ctx P nt ι h w a a') {s d:TypeId} {x:Operand} {x':Opd} (ho:o.op=.convert s d x) (hx:cOpd P x=some x') {k ks:IntKind} (hs:P.underlying s=some (.int ks)) (hd:P.underlying d=some (.int k)) {k':IntKind} {n:Int} (he:a.eval x'=.int k' n):OpOk P o a' w ι h (.int k (wr k n)) h:=by
 have h1:=c.opd hx
 rw[he] at h1
 simp only[VR] at h1
 exact OpOk.pure c.rel (v:=.int k (k.wrap n)) (by simp [execOp,ho,h1,convert,run_und w hs,run_und w hd,Conv.intToInt]) (by simp [VR,wr_eq])
theorem ok_cvs (c:Ctx P nt ι h w a a') {s d:TypeId} {x:Operand} {x':Opd} (ho:o.op=.convert s d x) (hx:cOpd P x=some x') (hs:P.underlying s=some .string) (hd:P.underlying d=some .string) {l:List UInt8} (he:a.eval x'=.str l):OpOk P o a' w ι h (a.eval x') h:=by
 have h1:=c.opd hx
 have h2:=h1
 rw[he] at h1
 simp only[VR] at h1
 exact OpOk.pure c.rel (v:=a'.eval x) (by simp [execOp,ho,h1,convert,run_und w hs,run_und w hd]) h2
theorem ok_mkif (c:Ctx P nt ι h w a a') {t:TypeId} {x:Operand} {x':Opd} (ho:o.op=.makeInterface t x) (hx:cOpd P x=some x') {d:TypeDesc} (hd:P.underlying t=some d) (hni:∀ms,d≠.interface ms):OpOk P o a' w ι h (.iface t (a.eval x')) h:=by
 refine OpOk.pure c.rel (v:=.iface t (a'.eval x)) ?_ ?_
 ·simp only[execOp,ho,Instr.makeInterface,Sem.run_bind,run_und w hd,Result.andThen_ok]
  cases d<;>first|(exact absurd rfl (hni _))|simp
 ·simp only[VR];exact ⟨_,rfl,c.opd hx⟩
theorem ok_mkfn (c:Ctx P nt ι h w a a') {fn:Fn} {fs cs:Array Operand} {fs' cs':List Opd} (ho:o.op=.makeFunc fn fs cs) (hf:cOpds P fs=some fs') (hc:cOpds P cs=some cs'):OpOk P o a' w ι h (.func fn (fs'.map a.eval) (cs'.map a.eval)) h:=by
 refine OpOk.pure c.rel (v:=.func fn (fs.map a'.eval) (cs.map a'.eval)) (by simp [execOp,ho,Instr.makeFunc]) ?_
 simp only[VR]
 exact ⟨_,_,rfl,c.opds hf,c.opds hc⟩
theorem ok_ext (c:Ctx P nt ι h w a a') {x:Operand} {x':Opd} {i:Nat} (ho:o.op=.extract x i) (hx:cOpd P x=some x') {vs:List AV} (he:a.eval x'=.tuple vs) {v:AV} (hv:vs[i]?=some v):OpOk P o a' w ι h v h:=by
 have h1:=c.opd hx
 rw[he] at h1
 simp only[VR] at h1
 obtain ⟨cs,e1,e2⟩:=h1
 obtain ⟨y,e3,e4⟩:=e2.get i v hv
 refine OpOk.pure c.rel (v:=y) ?_ e4
 have:cs[i]?=some y:=by simpa using e3
 simp [execOp,ho,e1,Instr.extract,this]
theorem part_rel {t:TypeId} {b:Bool} {n:Nat} (hb:aggOf P t=some b) (hn:szOf P t=some n) {I:Nat→Info} {sz:Nat→Nat} {cs:List AV} {l:Array Value} (hl:VRL ι I sz cs l.toList) {off:Nat} {x:AV}
  (hx:(bif b then match row cs off n with|some cs=>some (.agg cs)|none=>none else cs[off]?)=some x):∃v,(part t l off).run P w=.ok v w∧VR ι I sz x v:=by
 cases b with
 | true=>
  simp only[cond_true] at hx
  cases e:row cs off n with
  | none=>rw[e] at hx;cases hx
  | some r=>
   rw[e] at hx
   cases hx
   obtain ⟨hle,rfl⟩:=row_some e
   refine ⟨.agg (l.extract off (off+n)),by simp [part,run_agg w hb,run_size w hn],?_⟩
   simp only[VR]
   refine ⟨_,rfl,?_⟩
   have:(l.extract off (off+n)).toList=(l.toList.drop off).take n:=by
    simp [Array.toList_extract]
   rw[this]
   exact (hl.drop off).take n
 | false=>
  simp only[cond_false] at hx
  obtain ⟨v,e1,e2⟩:=hl.get off x hx
  have:l[off]?=some v:=by simpa using e1
  exact ⟨v,by simp [part,run_agg w hb,this],e2⟩
theorem ok_fld (c:Ctx P nt ι h w a a') {t:TypeId} {x:Operand} {x':Opd} {f:Nat} (ho:o.op=.field t x f) (hx:cOpd P x=some x') {fs:Array Field} (ht:P.underlying t=some (.struct fs)) {fd:Field} (hf:fs[f]?=some fd) {b:Bool} {n:Nat} (hb:aggOf P fd.type=some b) (hn:szOf P fd.type=some n) {cs:List AV} (he:a.eval x'=.agg cs) {r:AV}
  (hr:(bif b then match row cs fd.offset n with|some cs=>some (.agg cs)|none=>none else cs[fd.offset]?)=some r):OpOk P o a' w ι h r h:=by
 have h1:=c.opd hx
 rw[he] at h1
 simp only[VR] at h1
 obtain ⟨l,e1,e2⟩:=h1
 obtain ⟨v,e3,e4⟩:=part_rel (w:=w) hb hn e2 hr
 exact OpOk.pure c.rel (v:=v) (by simp [execOp,ho,e1,Instr.field,run_und w ht,hf,asAgg,e3]) e4
theorem ok_idxs (c:Ctx P nt ι h w a a') {t:TypeId} {x i:Operand} {x' i':Opd} (ho:o.op=.index t x i) (hx:cOpd P x=some x') (hi:cOpd P i=some i') (ht:P.underlying t=some .string) {s:List UInt8} (he:a.eval x'=.str s) {k:IntKind} {n:Int} (hn:a.eval i'=.int k n) (h0:0≤n) {u:UInt8} (hu:s[n.toNat]?=some u):OpOk P o a' w ι h (.int .u8 u.toNat) h:=by
 have h1:=c.opd hx
 have h2:=c.opd hi
 rw[he] at h1
 rw[hn] at h2
 simp only[VR] at h1 h2
 have:(ByteArray.mk ⟨s⟩)[n.toNat]?=some u:=by
  show (ByteArray.mk ⟨s⟩)[n.toNat]?=some u
  obtain ⟨hlt,hu⟩:=List.getElem?_eq_some_iff.1 hu
  have hlt':n.toNat<(ByteArray.mk ⟨s⟩).size:=hlt
  rw[getElem?_pos (ByteArray.mk ⟨s⟩) n.toNat hlt']
  exact congrArg some hu
 exact OpOk.pure c.rel (v:=.int .u8 u.toNat) (by simp [execOp,ho,h1,h2,Instr.index,asIntOf,run_und w ht,h0,this]) (by simp [VR])
theorem ok_idxa (c:Ctx P nt ι h w a a') {t e:TypeId} {x i:Operand} {x' i':Opd} (ho:o.op=.index t x i) (hx:cOpd P x=some x') (hi:cOpd P i=some i') {len:Nat} (ht:P.underlying t=some (.array len e)) {b:Bool} {m:Nat} (hb:aggOf P e=some b) (hm:szOf P e=some m) {cs:List AV} (he:a.eval x'=.agg cs) {k:IntKind} {n:Int} (hn:a.eval i'=.int k n) (h0:0≤n) (h1:n<(len:Int)) {r:AV}
  (hr:(bif b then match row cs (n.toNat*m) m with|some cs=>some (.agg cs)|none=>none else cs[n.toNat*m]?)=some r):OpOk P o a' w ι h r h:=by
 have g1:=c.opd hx
 have g2:=c.opd hi
 rw[he] at g1
 rw[hn] at g2
 simp only[VR] at g1 g2
 obtain ⟨l,e1,e2⟩:=g1
 obtain ⟨v,e3,e4⟩:=part_rel (w:=w) hb hm e2 hr
 exact OpOk.pure c.rel (v:=v) (by simp [execOp,ho,e1,g2,Instr.index,asIntOf,run_und w ht,h0,h1,run_size w hm,e3]) e4
theorem ok_faddr (c:Ctx P nt ι h w a a') {t:TypeId} {x:Operand} {x':Opd} {f:Nat} (ho:o.op=.fieldAddr t x f) (hx:cOpd P x=some x') {fs:Array Field} (ht:P.underlying t=some (.struct fs)) {fd:Field} (hf:fs[f]?=some fd) {n:Nat} (hn:szOf P fd.type=some (n+1)) {b off:Nat} (he:a.eval x'=.ptr b off):OpOk P o a' w ι h (.ptr b (off+fd.offset)) h:=by
 have h1:=c.opd hx
 rw[he] at h1
 simp only[VR] at h1
 obtain ⟨ad,e1,e2⟩:=h1
 refine OpOk.pure c.rel (v:=.pointer (some (ad.add fd.offset))) ?_ ?_
 ·simp [execOp,ho,e1,Instr.fieldAt,run_und w ht,hf,Instr.sureAddr,fieldPlace,run_size w hn]
 ·simp only[VR]
  refine ⟨_,rfl,e2.imp id ?_⟩
  rintro ⟨cc,p,e3,rfl⟩
  exact ⟨cc,p,e3,by rw[addr_add];congr 1;omega⟩
theorem ok_iaddr (c:Ctx P nt ι h w a a') {t e:TypeId} {x i:Operand} {x' i':Opd} (ho:o.op=.indexAddr t x i) (hx:cOpd P x=some x') (hi:cOpd P i=some i') (ht:P.underlying t=some (.slice e)) {es:Nat} (hs:szOf P e=some es) {b off len cap:Nat} {ex:Bool} (he:a.eval x'=.slice b off len cap ex) {k:IntKind} {n:Int} (hn:a.eval i'=.int k n) (h0:0≤n) (h1:n<(len:Int)) :
  OpOk P o a' w ι h (.ptr b (off+n.toNat*es)) h:=by
 have g1:=c.opd hx
 have g2:=c.opd hi
 rw[he] at g1
 rw[hn] at g2
 simp only[VR] at g1 g2
 obtain ⟨ad,cap',e1,hlc,_,e2⟩:=g1
 refine OpOk.pure c.rel (v:=.pointer (some (ad.add (n.toNat*es)))) ?_ ?_
 ·simp [execOp,ho,e1,g2,Instr.indexAt,asIntOf,run_und w ht,h0,h1,run_size w hs]
 ·simp only[VR]
  refine ⟨_,rfl,e2.imp id ?_⟩
  rintro ⟨cc,p,e3,e5,e6⟩
  have had:ad=⟨cc,p+off,none⟩:=by
   cases ex with
   | true=>exact (e5 rfl).2
   | false=>exact (e6 rfl (by omega)).1
  subst had
  exact ⟨cc,p,e3,by rw[addr_add];congr 1;omega⟩
theorem ok_iarr (c:Ctx P nt ι h w a a') {t e:TypeId} {x i:Operand} {x' i':Opd} (ho:o.op=.indexAddr t x i) (hx:cOpd P x=some x') (hi:cOpd P i=some i') {len:Nat} (ht:P.underlying t=some (.array len e)) {es:Nat} (hs:szOf P e=some es) {b off:Nat} (he:a.eval x'=.ptr b off) {k:IntKind} {n:Int} (hn:a.eval i'=.int k n) (h0:0≤n) (h1:n<(len:Int)) :
  OpOk P o a' w ι h (.ptr b (off+n.toNat*es)) h:=by
 have g1:=c.opd hx
 have g2:=c.opd hi
 rw[he] at g1
 rw[hn] at g2
 simp only[VR] at g1 g2
 obtain ⟨ad,e1,e2⟩:=g1
 refine OpOk.pure c.rel (v:=.pointer (some (ad.add (n.toNat*es)))) ?_ ?_
 ·simp [execOp,ho,e1,g2,Instr.indexAt,asIntOf,run_und w ht,h0,h1,run_size w hs,Instr.sureAddr]
 ·simp only[VR]
  refine ⟨_,rfl,e2.imp id ?_⟩
  rintro ⟨cc,p,e3,rfl⟩
  exact ⟨cc,p,e3,by rw[addr_add];congr 1;omega⟩
theorem mx_rel {I:Nat→Info} {sz:Nat→Nat} (isMax:Bool):∀(xs:List AV) (l:List Value) (x:AV) (v:Value) (r:AV),VR ι I sz x v→VRL ι I sz xs l→mxA isMax x xs=some r→(xs≠[]→∃k n,x=.int k n)→
  ∃v',(l.foldlM (if isMax then Builtin.max2 else Builtin.min2) v).run P w=.ok v' w∧VR ι I sz r v'
 | [],l,x,v,r,hv,hl,h,_=>by
  simp only[VRL] at hl
  subst hl
  have:r=x:=by cases x<;>simp_all [mxA]
  subst this
  exact ⟨v,by simp,hv⟩
 | y::xs,l,x,v,r,hv,hl,h,hx=>by
  obtain ⟨k,n,rfl⟩:=hx (by simp)
  obtain ⟨u,us,rfl,h1,h2⟩:=VRL.cons_iff.1 hl
  cases y<;>simp only[mxA] at h<;>try (cases h;done)
  rename_i k' m
  simp only[VR] at hv h1
  subst hv;subst h1
  have hstep:((if isMax then Builtin.max2 else Builtin.min2) (.int k n) (.int k' m)).run P w=.ok (.int k (bif isMax then (bif decide (m>n) then m else n) else (bif decide (m<n) then m else n))) w:=by
   cases isMax
   ·by_cases hm:m<n<;>simp [Builtin.min2,hm]
   ·by_cases hm:n<m<;>simp [Builtin.max2,hm]
  generalize (bif isMax then (bif decide (m>n) then m else n) else (bif decide (m<n) then m else n))=z at h hstep
  obtain ⟨v',e1,e2⟩:=mx_rel isMax xs us (.int k z) (.int k z) r (by simp [VR]) h2 h (fun _=>⟨_,_,rfl⟩)
  refine ⟨v',?_,e2⟩
  rw[List.foldlM_cons,Sem.run_bind,hstep]
  simp only[Result.andThen_ok]
  exact e1
end ops
end Go.Ev
namespace Go.Ev
open Go
section blocks
variable {P:Program} {nt:Nat} {ι:Mp} {h:AHeap} {w:World} {a:AAct} {a':Act} {o:Oper}
def NewOk (P:Program) (o:Oper) (a':Act) (w:World) (ι:Mp) (h:AHeap) (mk:Nat→AV) (ob:AObj):Prop:=
 ∃w' v' O,(execOp a'.eval o).run P w=.ok (.value v') w'∧w'.heap=w.heap.push O∧(w'.os=w.os∧w'.output=w.output∧w'.tape=w.tape)∧ob.info≠.dead∧
  ∀(ι':Mp) (I':Nat→Info) (b0:Nat),Grow ι (infoOf h.get) (wsz w) ι' I' (wsz w')→ι' b0=some (w.heap.size,0)→ORel ι' I' (wsz w') w' w.heap.size 0 ob∧VR ι' I' (wsz w') (mk b0) v'
theorem NewOk.ok {mk:Nat→AV} {ob:AObj} (n:NewOk P o a' w ι h mk ob) (r:Rel ι h w):OpOk P o a' w ι h (mk h.n) (h.alloc ob):=by
 obtain ⟨w',v',O,h1,h2,h3,_,h4⟩:=n
 have hg:=r.growNew ob (c:=w.heap.size) (wsz_push h2)
 obtain ⟨q1,q2⟩:=h4 _ _ h.n hg (by simp [mpNew])
 obtain ⟨s,r'⟩:=r.new h2 h3 q1
 exact ⟨_,_,_,_,h1,.inl rfl,s,r',q2⟩
theorem NewOk.cells {mk:Nat→AV} {es:Nat} {zs:List AV} {w':World} {v':Value} {l:Array Value} {T:TypeId} (hrun:(execOp a'.eval o).run P w=.ok (.value v') w') (hh:w'.heap=w.heap.push (.cells l T)) (hoth:w'.os=w.os∧w'.output=w.output∧w'.tape=w.tape)
  (hpre:∀(i:Nat) (x:AV),zs[i]?=some x→∃v,l[i]?=some v∧VR ι (infoOf h.get) (wsz w) x v)
  (hmk:∀(ι':Mp) (I':Nat→Info) (sz':Nat→Nat) (b0:Nat),ι' b0=some (w.heap.size,0)→VR ι' I' sz' (mk b0) v') {md:Md} (hmine:md.mine=true:=by rfl) (hT:∀t,md=.tag t→T=t∧(es=0→l.size=zs.length):=by intro t e;cases e):NewOk P o a' w ι h mk (.cells md es zs):=by
 refine ⟨w',v',_,hrun,hh,hoth,by rw[info_mine hmine];simp,fun ι' I' b0 hg hb=>⟨⟨l,T,0,0,by rw[hh];simp,fun i x hx=>?_,fun _=>⟨rfl,rfl⟩,fun _=>⟨rfl,hT⟩,fun e=>absurd e (thaw_mine hmine).2⟩,hmk _ _ _ _ hb⟩⟩
 obtain ⟨v,e1,e2⟩:=hpre i x hx
 exact ⟨v,by simpa using e1,VR.mono hg _ _ e2⟩
theorem Rel.newCells (r:Rel ι h w) {w':World} {l:Array Value} {T:TypeId} {es:Nat} {zs:List AV} (hh:w'.heap=w.heap.push (.cells l T)) (hoth:w'.os=w.os∧w'.output=w.output∧w'.tape=w.tape)
  (hpre:∀(i:Nat) (x:AV),zs[i]?=some x→∃v,l[i]?=some v∧VR ι (infoOf h.get) (wsz w) x v) {md:Md} (hmine:md.mine=true:=by rfl) (hT:∀t,md=.tag t→T=t∧(es=0→l.size=zs.length):=by intro t e;cases e) :
  Step ι h w (mpNew ι h.n w.heap.size) (h.alloc (.cells md es zs)) w'∧Rel (mpNew ι h.n w.heap.size) (h.alloc (.cells md es zs)) w':=by
 refine r.new hh hoth ⟨l,T,0,0,by rw[hh];simp,fun i x hx=>?_,fun _=>⟨rfl,rfl⟩,fun _=>⟨rfl,hT⟩,fun e=>absurd e (thaw_mine hmine).2⟩
 obtain ⟨v,e1,e2⟩:=hpre i x hx
 exact ⟨v,by simpa using e1,VR.mono (r.growNew _ (wsz_push hh)) _ _ e2⟩
theorem VRL.pre {I:Nat→Info} {sz:Nat→Nat} {zs:List AV} {l:Array Value} (hl:VRL ι I sz zs l.toList):∀(i:Nat) (x:AV),zs[i]?=some x→∃v,l[i]?=some v∧VR ι I sz x v:=by
 intro i x hx
 obtain ⟨v,e1,e2⟩:=hl.get i x hx
 exact ⟨v,by simpa using e1,e2⟩
theorem newPtr {ι':Mp} {n c:Nat} {I:Nat→Info} {sz:Nat→Nat} (hb:ι' n=some (c,0)):VR ι' I sz (.ptr n 0) (.pointer (some ⟨c,0,none⟩)):=by
 simp only[VR]
 exact ⟨_,rfl,.inr ⟨c,0,hb,rfl⟩⟩
theorem ok_new (c:Ctx P nt ι h w a a') {t:TypeId} (ho:o.op=.alloc t) {z:AV} (hz:zeroOf P t=some z):NewOk P o a' w ι h (fun n=>.ptr n 0) (.cells (mdNew P t) 0 z.cells):=by
 obtain ⟨v,e1,e2⟩:=run_zero w hz
 have hv:VR ι (infoOf h.get) (wsz w) z v:=toA_rel 3 v z e2
 exact NewOk.cells (w':={ w with heap:=w.heap.push (.cells v.cells t) }) (by simp [execOp,ho,Instr.alloc,e1,newVar,newRow]) rfl ⟨rfl,rfl,rfl⟩ hv.cells.pre (fun _ _ _ _ hb=>newPtr hb) (by unfold mdNew;cases selfish P t<;>rfl) (by intro t' e;unfold mdNew at e;cases q:selfish P t<;>rw[q] at e<;>cases e;exact ⟨rfl,fun _=>by have:=hv.cells.length;simpa using this.symm⟩)
theorem ok_box (c:Ctx P nt ι h w a a') {t:TypeId} {x:Operand} {x':Opd} (ho:o.op=.box t x) (hx:cOpd P x=some x'):NewOk P o a' w ι h (fun n=>.ptr n 0) (.cells .own 0 (a.eval x').cells):=by
 have hv:=c.opd hx
 exact NewOk.cells (w':={ w with heap:=w.heap.push (.cells (a'.eval x).cells t) }) (by simp [execOp,ho,Instr.box,newVar,newRow]) rfl ⟨rfl,rfl,rfl⟩ hv.cells.pre fun _ _ _ _ hb=>newPtr hb
theorem parts_rel (c:Ctx P nt ι h w a a') {ps:Array (Nat×Operand)} {ps':List (Nat×Nat×Opd)} {place:Nat→Option (Nat×Nat)} (hp:cParts P ps place=some ps') :
  ps'.length=(ps.map fun (i,x)=>(i,a'.eval x)).toList.length∧∀(i:Nat) (p:Nat×Nat×Opd) (q:Nat×Value),ps'[i]?=some p→(ps.map fun (i,x)=>(i,a'.eval x)).toList[i]?=some q→place q.1=some (p.1,p.2.1)∧VR ι (infoOf h.get) (wsz w) (a.eval p.2.2) q.2:=by
 obtain ⟨hl,hg⟩:=mapO_get hp
 refine ⟨by simp [hl],fun i p q h1 h2=>?_⟩
 rw[Array.toList_map,List.getElem?_map] at h2
 cases e:ps.toList[i]? with
 | none=>rw[e] at h2;cases h2
 | some y=>
  obtain ⟨j,x⟩:=y
  rw[e] at h2
  simp only[Option.map_some,Option.some.injEq] at h2
  subst h2
  obtain ⟨z,e1,e2⟩:=hg i (j,x) e
  rw[h1] at e1
  cases e1
  simp only at e2
  cases e3:place j with
  | none=>rw[e3] at e2;cases e2
  | some os=>
   obtain ⟨off,size⟩:=os
   rw[e3] at e2
   cases e4:cOpd P x with
   | none=>rw[e4] at e2;cases e2
   | some x'=>
    rw[e4] at e2
    simp only[Option.some.injEq] at e2
    subst e2
    exact ⟨rfl,c.opd e4⟩
theorem ok_build (c:Ctx P nt ι h w a a') {t:TypeId} {ps:Array (Nat×Operand)} {ps':List (Nat×Nat×Opd)} (ho:o.op=.build t ps) {fs:Array Field} (ht:P.underlying t=some (.struct fs)) {z:AV} (hz:zeroOf P t=some z)
  (hall:fs.toList.all (fun f=>(szOf P f.type).isSome)=true) (hp:cParts P ps (fun i=>match fs[i]? with|some f=>(szOf P f.type).map fun s=>(f.offset,s)|none=>none)=some ps') {cs:List AV} (hf:fillA a.eval z.cells ps'=some cs) :
  OpOk P o a' w ι h (.agg cs) h:=by
 obtain ⟨v,e1,e2⟩:=run_zero w hz
 have hv:VR ι (infoOf h.get) (wsz w) z v:=toA_rel 3 v z e2
 obtain ⟨hl,hg⟩:=parts_rel c hp
 have hplaces:(fs.mapM fun f=>do pure (f.offset,←sizeOf f.type):Sem _).run P w=.ok (fs.map fun (f:Field)=>(f.offset,(szOf P f.type).getD 0)) w:=by
  refine run_mapM_pure w _ _ fs fun f hf=>?_
  have:=List.all_eq_true.1 hall f hf
  cases e:szOf P f.type with
  | none=>rw[e] at this;cases this
  | some n=>simp [run_size w e]
 have hplace:∀i:Nat,(fs.map fun (f:Field)=>(f.offset,(szOf P f.type).getD 0))[i]?=(match fs[i]? with|some f=>(szOf P f.type).map fun s=>(f.offset,s)|none=>none):=by
  intro i
  rw[Array.getElem?_map]
  cases e:fs[i]? with
  | none=>rfl
  | some f=>
   have hm:f∈fs.toList:=by
    have:=Array.mem_of_getElem? e
    exact Array.mem_toList_iff.2 this
   have:=List.all_eq_true.1 hall f hm
   cases e2:szOf P f.type with
   | none=>rw[e2] at this;cases this
   | some n=>simp [e2]
 obtain ⟨cells',e3,e4⟩:=fill_rel (place:=fun i=>(fs.map fun (f:Field)=>(f.offset,(szOf P f.type).getD 0))[i]?) ps' _ _ _ v.cells hl (fun i p q h1 h2=>by
  obtain ⟨h3,h4⟩:=hg i p q h1 h2
  exact ⟨by rw[hplace];exact h3,h4⟩) hv.cells hf
 refine OpOk.pure c.rel (v:=.agg cells') ?_ (by simp only[VR];exact ⟨_,rfl,e4⟩)
 simp only[execOp,ho,Instr.build,Sem.run_bind,e1,run_und w ht,Result.andThen_ok,hplaces,e3,Sem.run_pure]
theorem ok_buildArr (c:Ctx P nt ι h w a a') {t e:TypeId} {ps:Array (Nat×Operand)} {ps':List (Nat×Nat×Opd)} (ho:o.op=.build t ps) {len:Nat} (ht:P.underlying t=some (.array len e)) {z:AV} (hz:zeroOf P t=some z) {s:Nat} (hs:szOf P e=some s)
  (hp:cParts P ps (fun i=>some (i*s,s))=some ps') {cs:List AV} (hf:fillA a.eval z.cells ps'=some cs):OpOk P o a' w ι h (.agg cs) h:=by
 obtain ⟨v,e1,e2⟩:=run_zero w hz
 have hv:VR ι (infoOf h.get) (wsz w) z v:=toA_rel 3 v z e2
 obtain ⟨hl,hg⟩:=parts_rel c hp
 obtain ⟨cells',e3,e4⟩:=fill_rel (place:=fun i=>some (i*s,s)) ps' _ _ _ v.cells hl hg hv.cells hf
 refine OpOk.pure c.rel (v:=.agg cells') ?_ (by simp only[VR];exact ⟨_,rfl,e4⟩)
 simp only[execOp,ho,Instr.build,Sem.run_bind,e1,run_und w ht,Result.andThen_ok,run_size w hs,e3,Sem.run_pure]
theorem repl_get:∀(n:Nat) (zs:List AV) (i:Nat),(repl zs n)[i]?=if i<n*zs.length then zs[i % zs.length]? else none
 | 0,zs,i=>by simp [repl]
 | n+1,zs,i=>by
  simp only[repl]
  by_cases hi:i<zs.length
  ·rw[List.getElem?_append_left hi,if_pos (by rw[Nat.add_mul];omega),Nat.mod_eq_of_lt hi]
  ·rw[List.getElem?_append_right (by omega),repl_get n zs]
   by_cases hz:zs.length=0
   ·simp [hz]
   ·have e1:(i-zs.length) % zs.length=i % zs.length:=by
     rw[←Nat.mod_eq_sub_mod (by omega)]
    rw[e1]
    by_cases hlt:i-zs.length<n*zs.length
    ·rw[if_pos hlt,if_pos (by rw[Nat.add_mul];omega)]
    ·rw[if_neg hlt,if_neg (by rw[Nat.add_mul];omega)]
theorem repl_length (n:Nat) (zs:List AV):(repl zs n).length=n*zs.length:=by
 induction n with
 | zero=>simp [repl]
 | succ n ih=>simp only[repl,List.length_append,ih,Nat.add_mul];omega
theorem repl_rel {I:Nat→Info} {sz:Nat→Nat} {zs:List AV} {z:Array Value} (hz:VRL ι I sz zs z.toList) (hpos:0<z.size) (n m:Nat) (hm:m=n*z.size) :
  VRL ι I sz (repl zs n) ((Array.range m).map (z[· % z.size]!)).toList:=by
 have hl:zs.length=z.size:=by simpa using hz.length
 refine VRL.of_get _ _ (by simp [repl_length,hl,hm]) fun i x v hx hv=>?_
 rw[repl_get,hl] at hx
 by_cases hi:i<n*z.size
 ·rw[if_pos hi] at hx
  obtain ⟨y,e1,e2⟩:=hz.get _ _ hx
  simp only[Array.toList_map,List.getElem?_map,Array.toList_range] at hv
  rw[List.getElem?_range (by omega)] at hv
  simp only[Option.map_some,Option.some.injEq] at hv
  have hmod:i % z.size<z.size:=Nat.mod_lt _ hpos
  rw[getElem!_pos z _ hmod] at hv
  rw[Array.getElem?_toList,Array.getElem?_eq_getElem hmod] at e1
  cases e1
  exact hv ▸ e2
 ·rw[if_neg hi] at hx;cases hx
theorem newSlice {ι':Mp} {n c len cap:Nat} {I:Nat→Info} {sz:Nat→Nat} (hb:ι' n=some (c,0)) (h1:len≤cap):VR ι' I sz (.slice n 0 len cap true) (.slice (some ⟨c,0,none⟩) len cap):=by
 simp only[VR]
 exact ⟨_,_,rfl,h1,Nat.le_refl _,.inr ⟨c,0,hb,fun _=>⟨rfl,rfl⟩,fun e=>by cases e⟩⟩
theorem ok_bslice (c:Ctx P nt ι h w a a') {t e:TypeId} {len:Nat} {ps:Array (Nat×Operand)} {ps':List (Nat×Nat×Opd)} (ho:o.op=.buildSlice t len ps) (ht:P.underlying t=some (.slice e)) {s:Nat} (hs:szOf P e=some s) {z:AV} (hz:zeroOf P e=some z) (hle:s*len≤65536) (hpos:0<s) (hzl:z.cells.length=s)
  (hp:cParts P ps (fun i=>some (i*s,s))=some ps') {cs:List AV} (hf:fillA a.eval (repl z.cells len) ps'=some cs):NewOk P o a' w ι h (fun n=>.slice n 0 len len true) (.cells .own s cs):=by
 obtain ⟨v,e1,e2⟩:=run_zero w hz
 have hv:VR ι (infoOf h.get) (wsz w) z v:=toA_rel 3 v z e2
 have hvl:v.cells.size=s:=by have:=hv.cells.length;simp at this;omega
 obtain ⟨hl,hg⟩:=parts_rel c hp
 have hrel:=repl_rel hv.cells (by omega) len (len*s) (by rw[hvl])
 obtain ⟨cells',e3,e4⟩:=fill_rel (place:=fun i=>some (i*s,s)) ps' _ _ _ _ hl hg hrel hf
 refine NewOk.cells (w':={ w with heap:=w.heap.push (.cells cells' e) }) (v':=.slice (some ⟨w.heap.size,0,none⟩) len len) ?_ rfl ⟨rfl,rfl,rfl⟩ e4.pre fun _ _ _ _ hb=>newSlice hb (Nat.le_refl _)
 have h24:¬(len*s>2^24):=by rw[Nat.mul_comm];omega
 simp only[execOp,ho,Instr.buildSlice,Sem.run_bind,run_und w ht,Result.andThen_ok,run_size w hs,h24,if_false]
 by_cases h0:len*s=0
 ·have hcells:((Array.range (len*s)).map (v.cells[· % v.cells.size]!))=(Array.range (len*s)).map ((#[]:Array Value)[· % (#[]:Array Value).size]!):=by
   rw[h0];simp
  rw[hcells] at e3
  simp only[h0,if_true,Sem.run_pure,Result.andThen_ok]
  rw[h0] at e3
  simp only[e3,newRow,Sem.run_bind,run_newObj,Result.andThen_ok,Sem.run_pure]
 ·simp only[h0,if_false,Sem.run_bind,e1,Result.andThen_ok,Sem.run_pure,e3,newRow,run_newObj]
theorem Ctx.ptr (c:Ctx P nt ι h w a a') {b off:Nat} {v:Value} (hv:VR ι (infoOf h.get) (wsz w) (.ptr b off) v) {ver:Nat} {ob:AObj} (hg:h.get b=some ⟨ver,ob⟩) (hnd:ob≠.dead):∃cc p,ι b=some (cc,p)∧v=.pointer (some ⟨cc,p+off,none⟩):=by
 simp only[VR] at hv
 obtain ⟨ad,rfl,hd⟩:=hv
 rcases hd with hd|⟨cc,p,e1,rfl⟩
 ·unfold infoOf at hd
  rw[hg] at hd
  cases ob with
  | cells md es vs=>cases md<;>cases hd
  | amap es=>cases hd
  | dead=>exact absurd rfl hnd
 ·exact ⟨cc,p,e1,rfl⟩
theorem ok_load (c:Ctx P nt ι h w a a') {t:TypeId} {x:Operand} {x':Opd} (ho:o.op=.load t x) (hx:cOpd P x=some x') {b:Bool} {n:Nat} (hb:aggOf P t=some b) (hn:szOf P t=some n) {bk off ver es:Nat} {md:Md} {vs:List AV} (he:a.eval x'=.ptr bk off) (hg:h.get bk=some ⟨ver,.cells md es vs⟩) {r:AV}
  (hr:(bif b then match row vs off n with|some cs=>some (.agg cs)|none=>none else vs[off]?)=some r):OpOk P o a' w ι h r h:=by
 have h1:=c.opd hx
 rw[he] at h1
 obtain ⟨cc,p,e1,e2⟩:=c.ptr h1 hg (by simp)
 cases b with
 | true=>
  simp only[cond_true] at hr
  cases e:row vs off n with
  | none=>rw[e] at hr;cases hr
  | some cs=>
   rw[e] at hr
   cases hr
   obtain ⟨l,e3,e4⟩:=c.rel.loadRow (P:=P) hg e1 e
   exact OpOk.pure c.rel (v:=.agg l.toArray) (by simp [execOp,ho,e2,Instr.loadAt,Instr.sureAddr,loadVar,run_agg w hb,run_size w hn,e3]) (by simp only[VR];exact ⟨_,rfl,by simpa using e4⟩)
 | false=>
  simp only[cond_false] at hr
  obtain ⟨v,e3,e4⟩:=c.rel.cell hg e1 hr
  exact OpOk.pure c.rel (v:=v) (by simp [execOp,ho,e2,Instr.loadAt,Instr.sureAddr,loadVar,run_agg w hb,e3]) e4
theorem Rel.storeRow (r:Rel ι h w) {b ver ver' es cc p:Nat} {vs vs' cs:List AV} {off:Nat} {md:Md} (hm:md.mine=true) (hg:h.get b=some ⟨ver,.cells md es vs⟩) (e:ι b=some (cc,p)) (hlay:lay vs off cs=some vs') {l:List Value} (hl:VRL ι (infoOf h.get) (wsz w) cs l) (hflat:allFlat cs=true) :
  ∃w',(storeCells ⟨cc,p+off,none⟩ l).run P w=.ok () w'∧Step ι h w ι (h.upd b ver' (.cells md es vs')) w'∧Rel ι (h.upd b ver' (.cells md es vs')) w':=by
 obtain ⟨y,hy,hcw,hob⟩:=r.obj b cc p e
 rw[hg] at hy
 cases hy
 obtain ⟨cells,T,lo,hi,h1,h2,h3,h4⟩:=hob
 obtain ⟨hp,hT⟩:=h4.1 hm
 obtain ⟨rfl,rfl⟩:=h3 (thaw_mine hm).1
 subst hp
 obtain ⟨hle,_⟩:=lay_some hlay
 have hlen:=hl.length
 have hfit:0+off+l.length≤cells.size:=by
  by_cases h0:vs.length=0
  ·have:cs.length=0:=by omega
   have hc0:off=0:=by omega
   omega
  ·obtain ⟨v,e1,_⟩:=h2 (vs.length-1) _ (List.getElem?_eq_getElem (by omega))
   have:0+(vs.length-1)<cells.size:=by
    by_cases hlt:0+(vs.length-1)<cells.size
    ·exact hlt
    ·rw[Array.getElem?_eq_none (by omega)] at e1;cases e1
   omega
 have hone:∀v∈l,v.oneCell'=true:=by
  intro v hv
  obtain ⟨i,hi⟩:=List.getElem?_of_mem hv
  have hil:i<cs.length:=by
   have:=(List.getElem?_eq_some_iff.1 hi).1
   omega
  obtain ⟨v',e1,e2⟩:=hl.get i _ (List.getElem?_eq_getElem hil)
  rw[hi] at e1
  cases e1
  exact oneCell_of_flat e2 (List.all_eq_true.1 hflat _ (List.getElem_mem hil))
 obtain ⟨w',g1,g2,g3,⟨cs',g4,g5,g6⟩,g7⟩:=run_storeCells (P:=P) l w cc (0+off) 0 cells T h1 (by omega) hone
 refine ⟨w',by simpa using g1,?_⟩
 have hsz:wsz w cc≤wsz w' cc:=by unfold wsz;rw[h1,g4];simp [g5]
 have hws:∀c',wsz w c'≤wsz w' c':=by
  intro c'
  by_cases hc:c'=cc
  ·subst hc;exact hsz
  ·unfold wsz;rw[g3 c' hc];exact Nat.le_refl _
 have hgr:Grow ι (infoOf h.get) (wsz w) ι (infoOf h.get) (wsz w'):=⟨fun _ _ x=>x,fun _ x=>x,fun _ _ _ _ _ _ x=>.inl x,hws⟩
 refine r.write hg (by rw[info_mine hm,info_mine hm]) ⟨true,es,info_mine hm _ _⟩ e g2 g7 g3 hsz ⟨cs',T,0,0,g4,fun i x hx=>?_,fun _=>⟨rfl,rfl⟩,fun _=>⟨rfl,fun t e=>⟨(hT t e).1,fun h0=>by rw[g5,(hT t e).2 h0,lay_length hlay]⟩⟩,fun e=>absurd e (thaw_mine hm).2⟩
 rw[lay_get hlay i] at hx
 rw[show (0+i:Nat)=i by omega,g6 i]
 by_cases hi:off≤i∧i<off+cs.length
 ·rw[if_pos hi] at hx
  rw[if_pos (by omega)]
  obtain ⟨v,e1,e2⟩:=hl.get _ _ hx
  exact ⟨v,by rw[←e1];congr 1;omega,VR.mono hgr _ _ e2⟩
 ·rw[if_neg hi] at hx
  rw[if_neg (by omega)]
  obtain ⟨v,e1,e2⟩:=h2 i x hx
  exact ⟨v,by simpa using e1,VR.mono hgr _ _ e2⟩
theorem ok_store (c:Ctx P nt ι h w a a') {t:TypeId} {x y:Operand} {x' y':Opd} (ho:o.op=.store t x y) (hx:cOpd P x=some x') (hy:cOpd P y=some y') {n:Nat} (hn:szOf P t=some n) {b off ver es:Nat} {vs vs':List AV} (he:a.eval x'=.ptr b off) (hlen:(a.eval y').cells.length=n) (hflat:allFlat (a.eval y').cells=true)
  {md:Md} (hm:md.mine=true) (hg:h.get b=some ⟨ver,.cells md es vs⟩) (hlay:lay vs off (a.eval y').cells=some vs') (ver':Nat):OpOk P o a' w ι h undefA (h.upd b ver' (.cells md es vs')):=by
 have h1:=c.opd hx
 have h2:=(c.opd hy).cells
 rw[he] at h1
 obtain ⟨cc,p,e1,e2⟩:=c.ptr h1 hg (by simp)
 obtain ⟨w',g1,g2,g3⟩:=c.rel.storeRow (P:=P) (ver':=ver') hm hg e1 hlay h2 hflat
 have hsz:(a'.eval y).cells.size=n:=by have:=h2.length;simp at this;omega
 exact ⟨.skip,w',ι,undef,by simp [execOp,ho,e2,Instr.storeAt,Instr.sureAddr,storeVar,run_size w hn,hsz,g1],.inr ⟨rfl,rfl⟩,g2,g3,VR.undef⟩
theorem Ctx.slice (c:Ctx P nt ι h w a a') {b off len cap:Nat} {ex:Bool} {v:Value} (hv:VR ι (infoOf h.get) (wsz w) (.slice b off len cap ex) v) {ver:Nat} {ob:AObj} (hg:h.get b=some ⟨ver,ob⟩) (hnd:ob≠.dead) (hc:ex=true∨0<cap) :
  ∃cc p cap',ι b=some (cc,p)∧v=.slice (some ⟨cc,p+off,none⟩) len cap'∧len≤cap∧cap≤cap'∧(ex=true→cap'=cap)∧(ex=false→∃own frz es,infoOf h.get b=.live own frz es∧p+off+cap'*es≤wsz w cc):=by
 simp only[VR] at hv
 obtain ⟨ad,cap',rfl,hlc,e2,hd⟩:=hv
 rcases hd with hd|⟨cc,p,e1,e3,e4⟩
 ·unfold infoOf at hd
  rw[hg] at hd
  cases ob with
  | cells md es vs=>cases md<;>cases hd
  | amap es=>cases hd
  | dead=>exact absurd rfl hnd
 ·have had:ad=⟨cc,p+off,none⟩:=by
   cases ex with
   | true=>exact (e3 rfl).2
   | false=>exact (e4 rfl (hc.resolve_left (by simp))).1
  subst had
  exact ⟨cc,p,cap',e1,rfl,hlc,e2,fun hx=>(e3 hx).1,fun hx=>(e4 hx (by cases hx;exact hc.resolve_left (by simp))).2⟩
end blocks
end Go.Ev
namespace Go.Ev
open Go
section eqs
variable {P:Program} {I:Nat→Info} {ι:Mp} {sz:Nat→Nat} (w:World)
theorem beq_bytes (a b:List UInt8):((ByteArray.mk ⟨a⟩)==(ByteArray.mk ⟨b⟩))=(a==b):=by
 show ((⟨a⟩:Array UInt8)==⟨b⟩)=(a==b)
 simp
def ckFits (P:Program) (t:TypeId):CK→Prop
 | .bool=>P.underlying t=some .bool
 | .int=>∃k,P.underlying t=some (.int k)
 | .str=>P.underlying t=some .string
 | .ptr=>∃e,P.underlying t=some (.pointer e)
 | .iface=>∃ms,P.underlying t=some (.interface ms)
 | .slice=>∃e,P.underlying t=some (.slice e)
 | .map=>∃k e,P.underlying t=some (.map k e)
 | .func=>∃a b c,P.underlying t=some (.func a b c)
theorem eqK_rel {t:TypeId} {k:CK} (hk:ckFits P t k) {x y:AV} {u v:Value} (hu:VR ι I sz x u) (hv:VR ι I sz y v) {b:Bool} (h:eqK k x y=some b) (d:Nat):(Op.equalIn (d+1) t u v).run P w=.ok b w:=by
 cases k<;>simp only[ckFits] at hk
 ·cases x<;>simp only[eqK] at h<;>try (cases h;done)
  cases y<;>simp only[eqK] at h<;>try (cases h;done)
  cases h
  simp only[VR] at hu hv
  subst hu;subst hv
  simp [Op.equalIn,run_und w hk]
 ·obtain ⟨kk,hk⟩:=hk
  cases x<;>simp only[eqK] at h<;>try (cases h;done)
  cases y<;>simp only[eqK] at h<;>try (cases h;done)
  rename_i k1 n1 k2 n2
  by_cases e:k1=k2
  ·subst e
   simp only[decide_true,cond_true] at h
   cases h
   simp only[VR] at hu hv
   subst hu;subst hv
   simp [Op.equalIn,run_und w hk]
  ·simp [e] at h
 ·cases x<;>simp only[eqK] at h<;>try (cases h;done)
  cases y<;>simp only[eqK] at h<;>try (cases h;done)
  cases h
  simp only[VR] at hu hv
  subst hu;subst hv
  simp [Op.equalIn,run_und w hk,beq_bytes]
 ·obtain ⟨e,hk⟩:=hk
  cases x<;>simp only[eqK] at h<;>try (cases h;done)
  all_goals cases y<;>simp only[eqK] at h<;>try (cases h;done)
  all_goals
   cases h
   simp only[VR] at hu hv
  ·obtain ⟨ad,rfl,_⟩:=hu
   subst hv
   simp [Op.equalIn,run_und w hk]
  ·obtain ⟨ad,rfl,_⟩:=hv
   subst hu
   simp [Op.equalIn,run_und w hk]
  ·subst hu;subst hv
   simp [Op.equalIn,run_und w hk]
 ·obtain ⟨ms,hk⟩:=hk
  cases x<;>simp only[eqK] at h<;>try (cases h;done)
  all_goals cases y<;>simp only[eqK] at h<;>try (cases h;done)
  ·rename_i t1 v1 t2 v2
   cases e:t1.beq t2 with
   | true=>rw[e] at h;cases h
   | false=>
    rw[e] at h
    cases h
    simp only[VR] at hu hv
    obtain ⟨x',rfl,_⟩:=hu
    obtain ⟨y',rfl,_⟩:=hv
    have hne:t1≠t2:=fun he=>by subst he;simp at e
    simp [Op.equalIn,run_und w hk,hne]
  all_goals
   cases h
   simp only[VR] at hu hv
  ·obtain ⟨ad,rfl,_⟩:=hu
   subst hv
   simp [Op.equalIn,run_und w hk]
  ·obtain ⟨ad,rfl,_⟩:=hv
   subst hu
   simp [Op.equalIn,run_und w hk]
  ·subst hu;subst hv
   simp [Op.equalIn,run_und w hk]
 ·obtain ⟨e,hk⟩:=hk
  cases x<;>simp only[eqK] at h<;>try (cases h;done)
  all_goals cases y<;>simp only[eqK] at h<;>try (cases h;done)
  all_goals
   cases h
   simp only[VR] at hu hv
  ·obtain ⟨ad,c,rfl,_⟩:=hu
   subst hv
   simp [Op.equalIn,run_und w hk]
  ·obtain ⟨ad,c,rfl,_⟩:=hv
   subst hu
   simp [Op.equalIn,run_und w hk]
  ·subst hu;subst hv
   simp [Op.equalIn,run_und w hk]
 ·obtain ⟨kt,e,hk⟩:=hk
  cases x<;>simp only[eqK] at h<;>try (cases h;done)
  all_goals cases y<;>simp only[eqK] at h<;>try (cases h;done)
  all_goals
   cases h
   simp only[VR] at hu hv
  ·obtain ⟨ad,rfl,_⟩:=hu
   subst hv
   simp [Op.equalIn,run_und w hk]
  ·obtain ⟨ad,rfl,_⟩:=hv
   subst hu
   simp [Op.equalIn,run_und w hk]
  ·subst hu;subst hv
   simp [Op.equalIn,run_und w hk]
 ·obtain ⟨_,_,_,hk⟩:=hk
  cases x<;>simp only[eqK] at h<;>try (cases h;done)
  all_goals cases y<;>simp only[eqK] at h<;>try (cases h;done)
  all_goals
   cases h
   simp only[VR] at hu hv
  ·obtain ⟨ad,c,rfl,_⟩:=hu
   subst hv
   simp [Op.equalIn,run_und w hk]
  ·obtain ⟨ad,c,rfl,_⟩:=hv
   subst hu
   simp [Op.equalIn,run_und w hk]
  ·subst hu;subst hv
   simp [Op.equalIn,run_und w hk]
theorem ckOf_fits {t:TypeId} {k:CK} (h:ckOf P t=some k):ckFits P t k∧aggOf P t=some false:=by
 unfold ckOf at h
 cases e:P.underlying t with
 | none=>rw[e] at h;cases h
 | some d=>
  rw[e] at h
  cases d<;>cases h
  ·exact ⟨e,by simp [aggOf,e]⟩
  ·exact ⟨⟨_,e⟩,by simp [aggOf,e]⟩
  ·exact ⟨e,by simp [aggOf,e]⟩
theorem eqKs_rel (d:Nat) (X Y:Array Value):∀(fs:List Field) (i:Nat) (ks:List CK) (xs ys:List AV),ckFields P i fs=some ks→VRL ι I sz xs (X.toList.drop i)→VRL ι I sz ys (Y.toList.drop i)→∀b,eqKs ks xs ys=some b→
  (Op.eqFields (d+1) X Y fs).run P w=.ok b w
 | [],i,ks,xs,ys,hf,hx,hy,b,h=>by
  simp only[ckFields] at hf
  cases hf
  cases xs<;>cases ys<;>simp only[eqKs] at h<;>cases h
  simp [Op.eqFields]
 | f::fs,i,ks,xs,ys,hf,hx,hy,b,h=>by
  simp only[ckFields] at hf
  cases e:(f.offset.beq i&&f.name != "_") with
  | false=>rw[e] at hf;cases hf
  | true=>
   rw[e] at hf
   simp only[cond_true] at hf
   simp only[Bool.and_eq_true,bne_iff_ne,ne_eq] at e
   obtain ⟨e1,e2⟩:=e
   have hoff:f.offset=i:=Nat.eq_of_beq_eq_true e1
   cases e3:ckOf P f.type with
   | none=>rw[e3] at hf;cases hf
   | some k=>
    rw[e3] at hf
    cases e4:ckFields P (i+1) fs with
    | none=>rw[e4] at hf;cases hf
    | some ks'=>
     rw[e4] at hf
     cases hf
     obtain ⟨hfit,hagg⟩:=ckOf_fits e3
     cases xs with
     | nil=>cases ys<;>simp only[eqKs] at h<;>cases h
     | cons x xs=>
      cases ys with
      | nil=>simp only[eqKs] at h;cases h
      | cons y ys=>
       simp only[VRL] at hx hy
       obtain ⟨u,us,hu,hu1,hu2⟩:=hx
       obtain ⟨v,vs,hv,hv1,hv2⟩:=hy
       have gu:X[i]?=some u:=by
        have:=congrArg (fun l=>l[0]?) hu
        simpa [List.getElem?_drop] using this
       have gv:Y[i]?=some v:=by
        have:=congrArg (fun l=>l[0]?) hv
        simpa [List.getElem?_drop] using this
       have du:us=X.toList.drop (i+1):=by
        have:=congrArg List.tail hu
        simpa using this.symm
       have dv:vs=Y.toList.drop (i+1):=by
        have:=congrArg List.tail hv
        simpa using this.symm
       simp only[eqKs] at h
       have hp1:(part f.type X f.offset).run P w=.ok u w:=by simp [part,run_agg w hagg,hoff,gu]
       have hp2:(part f.type Y f.offset).run P w=.ok v w:=by simp [part,run_agg w hagg,hoff,gv]
       cases e5:eqK k x y with
       | none=>rw[e5] at h;cases h
       | some b1=>
        rw[e5] at h
        have hq:=eqK_rel w hfit hu1 hv1 e5 d
        simp only[Op.eqFields,if_pos e2,Sem.run_bind,hp1,hp2,hq,Result.andThen_ok]
        cases b1 with
        | false=>cases h;simp
        | true=>
         simp only[Bool.not_true,Bool.false_eq_true,if_false]
         exact eqKs_rel d X Y fs (i+1) ks' xs ys e4 (du ▸ hu2) (dv ▸ hv2) b h
def ktFits (P:Program) (t:TypeId):KT→Prop
 | .one k=>ckFits P t k
 | .many ks=>∃fs,P.underlying t=some (.struct fs)∧P.stoodInHeld t=false∧ckFields P 0 fs.toList=some ks
theorem ktOf_fits {t:TypeId} {k:KT} (h:ktOf P t=some k):ktFits P t k:=by
 unfold ktOf at h
 split at h
 ·rename_i fs e
  cases e2:P.stoodInHeld t with
  | true=>rw[e2] at h;cases h
  | false=>
   rw[e2] at h
   cases e3:ckFields P 0 fs.toList with
   | none=>rw[e3] at h;cases h
   | some ks=>rw[e3] at h;cases h;exact ⟨fs,e,e2,e3⟩
 ·cases e:ckOf P t with
  | none=>rw[e] at h;cases h
  | some k=>rw[e] at h;cases h;exact (ckOf_fits e).1
theorem eqT_rel {t:TypeId} {k:KT} (hk:ktFits P t k) {x y:AV} {u v:Value} (hu:VR ι I sz x u) (hv:VR ι I sz y v) {b:Bool} (h:eqT k x y=some b):(Op.equal t u v).run P w=.ok b w:=by
 cases k with
 | one k=>exact eqK_rel w hk hu hv h 9999
 | many ks=>
  obtain ⟨fs,h1,h2,h3⟩:=hk
  cases x<;>simp only[eqT] at h<;>try (cases h;done)
  cases y<;>simp only[eqT] at h<;>try (cases h;done)
  simp only[VR] at hu hv
  obtain ⟨X,rfl,hx⟩:=hu
  obtain ⟨Y,rfl,hy⟩:=hv
  have hfs:P.fieldsOf t=fs:=by simp [Program.fieldsOf,h1]
  have:=run_equalIn_struct (P:=P) w 9999 t X Y (by rw[hfs];exact h1) h2
  rw[hfs] at this
  show (Op.equalIn 10000 t (.agg X) (.agg Y)).run P w=_
  rw[this]
  exact eqKs_rel w 9998 X Y fs.toList 0 ks _ _ h3 (by simpa using hx) (by simpa using hy) b h
end eqs
section more
variable {P:Program} {nt:Nat} {ι:Mp} {h:AHeap} {w:World} {a:AAct} {a':Act} {o:Oper}
theorem run_eqGuard_nilC {op:BinOp} {t:TypeId} {x y:Operand} (w:World) (hc:isNilC x=true∨isNilC y=true):(eqGuard op t x y .nilIface .nilIface).run P w=.ok () w:=by
 rcases hc with hc|hc
 ·cases x<;>simp [isNilC] at hc
  cases op<;>simp [eqGuard]
 ·cases y<;>simp [isNilC] at hc
  cases op<;>simp [eqGuard]
theorem ok_eqv (c:Ctx P nt ι h w a a') {op:BinOp} {neg:Bool} (hop:op=if neg then .neq else .eql) {t t2:TypeId} {x y:Operand} {x' y':Opd} (ho:o.op=.binOp op t x y t2) (hx:cOpd P x=some x') (hy:cOpd P y=some y') {k:KT} (hk:ktFits P t k) (hns:∀d,P.underlying t=some d→(∀kk,d≠.int kk)∧d≠.string)
  (hnil:k=.one .iface→isNilC x=true∨isNilC y=true) (hagg:(∃ks,k=.many ks)→P.eqGuardType P.depth t=false) {b:Bool} (hb:eqT k (a.eval x') (a.eval y')=some b):OpOk P o a' w ι h (.bool (bif neg then !b else b)) h:=by
 have h1:=c.opd hx
 have h2:=c.opd hy
 have hq:=eqT_rel w hk h1 h2 hb
 have hg:(eqGuard op t x y (a'.eval x) (a'.eval y)).run P w=.ok () w:=by
  by_cases hb2:a'.eval x=.nilIface∧a'.eval y=.nilIface
  ·have hke:k=.one .iface:=by
    obtain ⟨e1,e2⟩:=hb2
    rw[e1] at h1
    generalize a.eval x'=u at h1 hb
    cases u<;>simp [VR] at h1
    cases k with
    | one kk=>cases kk<;>simp [eqT,eqK] at hb ⊢
    | many ks=>simp [eqT] at hb
   rw[hb2.1,hb2.2]
   exact run_eqGuard_nilC w (hnil hke)
  ·refine run_eqGuard_no w hb2 fun xs ys e1 _=>?_
   rw[e1] at h1
   generalize a.eval x'=u at h1 hb
   cases u<;>simp [VR] at h1
   cases k with
   | one kk=>cases kk<;>simp [eqT,eqK] at hb
   | many ks=>exact hagg ⟨ks,rfl⟩
 have hbin:(binOp op t (a'.eval x) (a'.eval y)).run P w=.ok (.bool (bif neg then !b else b)) w:=by
  have hgen:∀u v:Value,(∀k n,u≠.int k n)→(∀k n,u≠.float k n)→(∀k n m,u≠.complex k n m)→(∀s,u≠.string s)→(binOp .eql t u v)=(do pure (.bool (←Op.equal t u v)))∧(binOp .neq t u v)=(do pure (.bool (!(←Op.equal t u v)))):=by
   intro u v n1 n2 n3 n4
   cases u<;>first|exact absurd rfl (n1 _ _)|exact absurd rfl (n2 _ _)|exact absurd rfl (n3 _ _ _)|exact absurd rfl (n4 _)|(constructor<;>cases v<;>rfl)
  have hne:(∀k n,a'.eval x≠.int k n)∧(∀k n,a'.eval x≠.float k n)∧(∀k n m,a'.eval x≠.complex k n m)∧(∀s,a'.eval x≠.string s):=by
   generalize a.eval x'=u at h1 hb
   refine ⟨fun kk n e=>?_,fun kk n e=>?_,fun kk n m e=>?_,fun s e=>?_⟩
   ·rw[e] at h1
    cases u<;>simp [VR] at h1
    cases k with
    | one kk=>
     cases kk<;>simp [eqT,eqK] at hb
     obtain ⟨_,hk⟩:=hk
     exact (hns _ hk).1 _ rfl
    | many ks=>simp [eqT] at hb
   ·rw[e] at h1
    cases u<;>simp [VR] at h1
    cases k with
    | one kk=>cases kk<;>simp [eqT,eqK] at hb
    | many ks=>simp [eqT] at hb
   ·rw[e] at h1
    cases u<;>simp [VR] at h1
   ·rw[e] at h1
    cases u<;>simp [VR] at h1
    cases k with
    | one kk=>
     cases kk<;>simp [eqT,eqK] at hb
     exact (hns _ hk).2 rfl
    | many ks=>simp [eqT] at hb
  obtain ⟨g1,g2⟩:=hgen (a'.eval x) (a'.eval y) hne.1 hne.2.1 hne.2.2.1 hne.2.2.2
  cases neg
  ·simp only[hop,Bool.false_eq_true,if_false,g1];simp [hq]
  ·simp only[hop,if_true,g2];simp [hq]
 exact OpOk.pure c.rel (v:=.bool (bif neg then !b else b)) (by simp [execOp,ho,hg,hbin]) (by simp [VR])
theorem bytesOf_rel {I:Nat→Info} {sz:Nat→Nat}:∀(cs:List AV) (l:List Value) (s:List UInt8),VRL ι I sz cs l→bytesOf cs=some s→∃ns:List Int,l=ns.map (Value.int .u8)∧s=ns.map fun n=>UInt8.ofNat n.toNat
 | [],l,s,hl,h=>by
  simp only[VRL] at hl
  simp only[bytesOf] at h
  cases h
  exact ⟨[],by simpa using hl,rfl⟩
 | c::cs,l,s,hl,h=>by
  simp only[VRL] at hl
  obtain ⟨v,vs,rfl,h1,h2⟩:=hl
  unfold bytesOf at h
  split at h
  ·rename_i e;cases e
  ·rename_i n r e
   cases e
   cases e2:bytesOf cs with
   | none=>rw[e2] at h;cases h
   | some s2=>
    rw[e2] at h
    cases h
    simp only[VR] at h1
    subst h1
    obtain ⟨ns,rfl,rfl⟩:=bytesOf_rel cs vs s2 h2 e2
    exact ⟨n::ns,by simp,by simp⟩
  ·cases h
theorem run_bytesToString_some {ad:Addr} {len cap:Nat} {l:List Value} (hl:(loadCells ad len).run P w=.ok l.toArray w) {s:List UInt8} {cs:List AV} {I:Nat→Info} {sz:Nat→Nat} (hr:VRL ι I sz cs l) (hb:bytesOf cs=some s) :
  (Conv.bytesToString (.slice (some ad) len cap)).run P w=.ok (.string ⟨⟨s⟩⟩) w:=by
 obtain ⟨ns,rfl,rfl⟩:=bytesOf_rel cs l s hr hb
 rw[run_bytesToString w _ len cap ns hl,foldl_push_bytes]
 simp [ByteArray.empty,ByteArray.emptyWithCapacity]
 rfl
theorem ok_cvbs (c:Ctx P nt ι h w a a') {s d e:TypeId} {x:Operand} {x':Opd} (ho:o.op=.convert s d x) (hx:cOpd P x=some x') (hs:P.underlying s=some (.slice e)) (hd:P.underlying d=some .string) (he8:P.underlying e=some (.int .u8)) {r:List UInt8}
  (hr:a.eval x'=.nilSlice∧r=[]∨(∃b off cap ex,a.eval x'=.slice b off 0 cap ex∧r=[])∨∃b off len cap ex ver es md vs cs,a.eval x'=.slice b off len cap ex∧h.get b=some ⟨ver,.cells md es vs⟩∧0<len∧row vs off len=some cs∧bytesOf cs=some r) :
  OpOk P o a' w ι h (.str r) h:=by
 have h1:=c.opd hx
 refine OpOk.pure c.rel (v:=.string ⟨⟨r⟩⟩) ?_ (by simp [VR])
 have hconv:∀v:Value,(∃b n m,v=.slice b n m)→(convert s d v).run P w=(Conv.bytesToString v).run P w:=by
  rintro v ⟨b,n,m,rfl⟩
  simp [convert,run_und w hs,run_und w hd,run_und w he8]
 rcases hr with ⟨hr,rfl⟩|⟨b,off,cap,ex,hr,rfl⟩|⟨b,off,len,cap,ex,ver,es,md,vs,cs,hr,hg,hpos,hrow,hb⟩
 ·rw[hr] at h1
  simp only[VR] at h1
  simp only[execOp,ho,Sem.run_bind,h1,hconv _ ⟨_,_,_,rfl⟩]
  simp [Conv.bytesToString]
  rfl
 ·rw[hr] at h1
  simp only[VR] at h1
  obtain ⟨ad,cap',e1,_⟩:=h1
  have hl:(loadCells ad 0).run P w=.ok ([]:List Value).toArray w:=by simp [loadCells,loadCellsFrom]
  simp only[execOp,ho,Sem.run_bind,e1,hconv _ ⟨_,_,_,rfl⟩,run_bytesToString_some (ι:=ι) (I:=infoOf h.get) (sz:=wsz w) hl (cs:=[]) (by simp [VRL]) rfl]
  simp
 ·rw[hr] at h1
  have hlc:len≤cap:=by simp only[VR] at h1;obtain ⟨_,_,_,hlc,_⟩:=h1;exact hlc
  obtain ⟨cc,p,cap',e1,e2,_⟩:=c.slice h1 hg (by simp) (.inr (by omega))
  obtain ⟨l,e3,e4⟩:=c.rel.loadRow (P:=P) hg e1 hrow
  simp only[execOp,ho,Sem.run_bind,e2,hconv _ ⟨_,_,_,rfl⟩,run_bytesToString_some e3 e4 hb]
  simp
theorem ok_len_str (c:Ctx P nt ι h w a a') {t:TypeId} {cl:Call} {x:Operand} {x':Opd} (ho:o.op=.call cl) (hc:cl.callee=.builtin .len) (hcx:cl.args.toList=[x]) (hct:cl.argTypes.toList=[t]) (hx:cOpd P x=some x') {r:Int}
  (hr:(P.underlying t=some .string∧∃s,a.eval x'=.str s∧r=s.length)∨((∃e,P.underlying t=some (.slice e))∧(a.eval x'=.nilSlice∧r=0∨∃b off len cap ex,a.eval x'=.slice b off len cap ex∧r=len))∨
   ((∃k e,P.underlying t=some (.map k e))∧(a.eval x'=.nilMap∧r=0∨∃b ver es,a.eval x'=.map b∧h.get b=some ⟨ver,.amap es⟩∧r=es.length))):OpOk P o a' w ι h (.int .i64 r) h:=by
 have h1:=c.opd hx
 have hargs:cl.args.map a'.eval=#[a'.eval x]:=by
  apply Array.ext'
  simp [hcx]
 have htys:cl.argTypes=#[t]:=by
  apply Array.ext'
  simpa using hct
 have hrun:(Builtin.len_ #[t] o.type #[a'.eval x]).run P w=.ok (.int .i64 r) w:=by
  rcases hr with ⟨hs,s,hr,rfl⟩|⟨⟨e,hs⟩,hr⟩|⟨⟨k,e,hs⟩,hr⟩
  ·rw[hr] at h1
   simp only[VR] at h1
   rw[h1]
   simp only[Builtin.len_]
   simp [run_und w hs,goInt]
   rfl
  ·rcases hr with ⟨hr,rfl⟩|⟨b,off,len,cap,ex,hr,rfl⟩
   ·rw[hr] at h1
    simp only[VR] at h1
    rw[h1]
    simp only[Builtin.len_]
    simp [run_und w hs,goInt]
   ·rw[hr] at h1
    simp only[VR] at h1
    obtain ⟨ad,cap',e1,_⟩:=h1
    rw[e1]
    simp only[Builtin.len_]
    simp [run_und w hs,goInt]
  ·rcases hr with ⟨hr,rfl⟩|⟨b,ver,es,hr,hg,rfl⟩
   ·rw[hr] at h1
    simp only[VR] at h1
    rw[h1]
    simp only[Builtin.len_]
    simp [run_und w hs,goInt]
   ·rw[hr] at h1
    simp only[VR] at h1
    obtain ⟨r',e1,hd⟩:=h1
    have hnd:infoOf h.get b≠.dead:=by unfold infoOf;rw[hg];simp [AObj.info]
    have hi:=hd.resolve_left hnd
    obtain ⟨y,hy,_,hob⟩:=c.rel.obj b r' 0 hi
    rw[hg] at hy
    cases hy
    obtain ⟨es',clock,g1,_,g3⟩:=hob
    have hlen:es.length=es'.size:=by
     have:∀(xs:List (AV×AV)) (l:List MapEntry),MR ι (infoOf h.get) (wsz w) xs l→xs.length=l.length:=by
      intro xs
      induction xs with
      | nil=>intro l hl;simp only[MR] at hl;simp [hl]
      | cons x xs ih=>intro l hl;obtain ⟨k,v⟩:=x;simp only[MR] at hl;obtain ⟨e,es,rfl,_,_,hl⟩:=hl;simp [ih es hl]
     simpa using this es es'.toList g3
    rw[e1]
    simp only[Builtin.len_]
    simp [run_und w hs,goInt,getObj,Sem.run,g1,hlen]
 refine OpOk.pure c.rel (v:=.int .i64 r) ?_ (by simp [VR])
 simp only[execOp,ho,resolve,hc,hargs,htys,Sem.run_bind,Sem.run_pure,Result.andThen_ok,invoke,builtin,hrun]
end more
end Go.Ev
namespace Go.Ev
open Go
section sl
variable {P:Program} {nt:Nat} {ι:Mp} {h:AHeap} {w:World} {a:AAct} {a':Act} {o:Oper}
theorem bnd_some {x:Option AV} {d lim n:Nat} (h:bnd x d lim=some n):(x=none∧n=d)∨∃k i,x=some (.int k i)∧0≤i∧i≤(lim:Int)∧n=i.toNat:=by
 unfold bnd at h
 split at h
 ·cases h;exact .inl ⟨rfl,rfl⟩
 ·rename_i k i
  cases e:(decide (0≤i)&&decide (i≤(lim:Int))) with
  | false=>rw[e] at h;cases h
  | true=>
   rw[e] at h
   simp only[Bool.and_eq_true,decide_eq_true_eq] at e
   cases h
   exact .inr ⟨k,i,rfl,e.1,e.2,rfl⟩
 ·cases h
theorem bnd_le {x:Option AV} {d lim n:Nat} (h:bnd x d lim=some n) (hd:d≤lim):n≤lim:=by
 rcases bnd_some h with ⟨_,rfl⟩|⟨k,i,_,h0,h1,rfl⟩
 ·exact hd
 ·omega
theorem run_bound {k:IntKind} {i:Int} {y:Nat} {code:BoundsCode} (h0:0≤i) (h1:i≤(y:Int)):(Instr.sliceBound (.int k i) y code).run P w=.ok i.toNat w:=by
 simp [Instr.sliceBound,asIntOf,h0,h1]
theorem Ctx.opt (c:Ctx P nt ι h w a a') {x:Option Operand} {x':Option Opd} (hx:cOpt P x=some x'):(x=none∧x'=none)∨∃y y',x=some y∧x'=some y'∧VR ι (infoOf h.get) (wsz w) (a.eval y') (a'.eval y):=by
 cases x with
 | none=>simp only[cOpt] at hx;cases hx;exact .inl ⟨rfl,rfl⟩
 | some y=>
  simp only[cOpt] at hx
  cases e:cOpd P y with
  | none=>rw[e] at hx;cases hx
  | some y'=>rw[e] at hx;cases hx;exact .inr ⟨y,y',rfl,rfl,c.opd e⟩
theorem run_bounds (c:Ctx P nt ι h w a a') {isSlice:Bool} {len cap cap':Nat} {lo hi mx:Option Operand} {lo' hi' mx':Option Opd} (hl:cOpt P lo=some lo') (hh:cOpt P hi=some hi') (hm:cOpt P mx=some mx') (hmh:mx'.isSome=true→hi'.isSome=true)
  (hcap:cap≤cap') {m n l:Nat} (h1:bnd (mx'.map a.eval) cap cap=some m) (h2:bnd (hi'.map a.eval) len m=some n) (h3:bnd (lo'.map a.eval) 0 n=some l) :
  (Instr.sliceBounds isSlice len cap' (lo.map a'.eval) (hi.map a'.eval) (mx.map a'.eval)).run P w=.ok (l,n,if mx'.isSome then m else cap') w∧l≤n:=by
 have step:∀{x:Option Operand} {x':Option Opd},cOpt P x=some x'→∀{d lim n:Nat},bnd (x'.map a.eval) d lim=some n→(x=none∧x'=none∧n=d)∨∃y y' k i,x=some y∧x'=some y'∧a'.eval y=.int k i∧0≤i∧i≤(lim:Int)∧n=i.toNat:=by
  intro x x' hx d lim n hb
  rcases c.opt hx with ⟨rfl,rfl⟩|⟨y,y',rfl,rfl,hv⟩
  ·rcases bnd_some hb with ⟨_,rfl⟩|⟨_,_,h,_⟩
   ·exact .inl ⟨rfl,rfl,rfl⟩
   ·cases h
  ·rcases bnd_some hb with ⟨h,_⟩|⟨k,i,he,h0,h1,rfl⟩
   ·cases h
   ·simp only[Option.map_some,Option.some.injEq] at he
    rw[he] at hv
    simp only[VR] at hv
    exact .inr ⟨y,y',k,i,rfl,rfl,hv,h0,h1,rfl⟩
 rcases step hm h1 with ⟨rfl,rfl,rfl⟩|⟨ym,ym',km,im,rfl,rfl,em,m0,m1,rfl⟩
 ·rcases step hh h2 with ⟨rfl,rfl,rfl⟩|⟨yh,yh',kh,ih,rfl,rfl,eh,g0,g1,rfl⟩
  ·rcases step hl h3 with ⟨rfl,rfl,rfl⟩|⟨yl,yl',kl,il,rfl,rfl,el,l0,l1,rfl⟩
   ·refine ⟨?_,Nat.zero_le _⟩
    simp [Instr.sliceBounds]
   ·refine ⟨?_,by omega⟩
    simp [Instr.sliceBounds,el,run_bound l0 l1]
  ·rcases step hl h3 with ⟨rfl,rfl,rfl⟩|⟨yl,yl',kl,il,rfl,rfl,el,l0,l1,rfl⟩
   ·refine ⟨?_,Nat.zero_le _⟩
    have g1':ih≤(cap':Int):=by omega
    simp [Instr.sliceBounds,eh,run_bound g0 g1']
   ·refine ⟨?_,by omega⟩
    have g1':ih≤(cap':Int):=by omega
    simp [Instr.sliceBounds,eh,el,run_bound g0 g1',run_bound l0 l1]
 ·rcases step hh h2 with ⟨rfl,rfl,rfl⟩|⟨yh,yh',kh,ih,rfl,rfl,eh,g0,g1,rfl⟩
  ·exact absurd (hmh rfl) (by simp)
  ·have m1':im≤(cap':Int):=by omega
   rcases step hl h3 with ⟨rfl,rfl,rfl⟩|⟨yl,yl',kl,il,rfl,rfl,el,l0,l1,rfl⟩
   ·refine ⟨?_,Nat.zero_le _⟩
    simp [Instr.sliceBounds,em,eh,run_bound m0 m1',run_bound g0 g1]
   ·refine ⟨?_,by omega⟩
    simp [Instr.sliceBounds,em,eh,el,run_bound m0 m1',run_bound g0 g1,run_bound l0 l1]
theorem run_sliceAt {t e:TypeId} (ht:P.underlying t=some (.slice e)) {es:Nat} (hs:szOf P e=some es) {ad:Option Addr} {len cap l n m:Nat} {lo hi mx:Option Value} (hb:(Instr.sliceBounds true len cap lo hi mx).run P w=.ok (l,n,m) w) :
  (Instr.sliceAt t (.slice ad len cap) lo hi mx).run P w=.ok (.slice (if m=l then ad else ad.map (·.add (l*es))) (n-l) (m-l)) w:=by
 simp [Instr.sliceAt,run_und w ht,Instr.slice,hb,run_size w hs]
theorem sl_shape (ad:Addr) (q:Prop) [Decidable q] (k:Nat):∃a2,(if q then some ad else (some ad).map (·.add k))=some a2∧(q→a2=ad)∧(¬q→a2=ad.add k):=by
 by_cases hq:q
 ·exact ⟨ad,by rw[if_pos hq],fun _=>rfl,fun hn=>absurd hq hn⟩
 ·exact ⟨ad.add k,by rw[if_neg hq];rfl,fun hp=>absurd hp hq,fun _=>rfl⟩
theorem ok_slc_nil (c:Ctx P nt ι h w a a') {t e:TypeId} (ht:P.underlying t=some (.slice e)) {es:Nat} (hs:szOf P e=some es) {x:Operand} {x':Opd} {lo hi mx:Option Operand} {lo' hi' mx':Option Opd} (ho:o.op=.slice t x lo hi mx) (hx:cOpd P x=some x') (hl:cOpt P lo=some lo') (hh:cOpt P hi=some hi') (hm:cOpt P mx=some mx') (hmh:mx'.isSome=true→hi'.isSome=true)
  (he:a.eval x'=.nilSlice) {m n l:Nat} (h1:bnd (mx'.map a.eval) 0 0=some m) (h2:bnd (hi'.map a.eval) 0 m=some n) (h3:bnd (lo'.map a.eval) 0 n=some l):OpOk P o a' w ι h .nilSlice h:=by
 have g:=c.opd hx
 rw[he] at g
 simp only[VR] at g
 obtain ⟨hb,hle⟩:=run_bounds c (isSlice:=true) (len:=0) (cap':=0) hl hh hm hmh (Nat.le_refl _) h1 h2 h3
 have m0:=bnd_le h1 (Nat.le_refl _)
 have n0:=bnd_le h2 (Nat.zero_le _)
 obtain rfl:m=0:=by omega
 obtain rfl:n=0:=by omega
 obtain rfl:l=0:=by omega
 refine OpOk.pure c.rel (v:=.slice none 0 0) ?_ (by simp [VR])
 have:=run_sliceAt (P:=P) (w:=w) ht hs (ad:=none) hb
 simp only[execOp,ho,Sem.run_bind,g,this,Result.andThen_ok,Sem.run_pure]
 simp
theorem ok_slc (c:Ctx P nt ι h w a a') {t e:TypeId} (ht:P.underlying t=some (.slice e)) {es:Nat} (hs:szOf P e=some es) {x:Operand} {x':Opd} {lo hi mx:Option Operand} {lo' hi' mx':Option Opd} (ho:o.op=.slice t x lo hi mx) (hx:cOpd P x=some x') (hl:cOpt P lo=some lo') (hh:cOpt P hi=some hi') (hm:cOpt P mx=some mx') (hmh:mx'.isSome=true→hi'.isSome=true)
  {b off len cap:Nat} {ex:Bool} (he:a.eval x'=.slice b off len cap ex) {m n l:Nat} (h1:bnd (mx'.map a.eval) cap cap=some m) (h2:bnd (hi'.map a.eval) len m=some n) (h3:bnd (lo'.map a.eval) 0 n=some l) {r:AV}
  (hr:(ex=true∧r=.slice b (bif m.beq l then off else off+l*es) (n-l) (m-l) true)∨
   (ex=false∧0<cap∧((m=l∧mx'.isSome=true∧l=0∧r=.slice b off 0 0 true)∨
    (¬(m=l∧mx'.isSome=true)∧(∃ver md vs,h.get b=some ⟨ver,.cells md es vs⟩)∧r=.slice b (off+l*es) (n-l) (m-l) mx'.isSome)))) :
  OpOk P o a' w ι h r h:=by
 have g:=c.opd hx
 rw[he] at g
 simp only[VR] at g
 obtain ⟨ad,cap',g1,hlc,hcc,g2⟩:=g
 have hmc:m≤cap:=bnd_le h1 (Nat.le_refl _)
 have hnm:n≤m:=by
  rcases bnd_some h1 with ⟨_,rfl⟩|⟨k,i,em,_,_,rfl⟩
  ·exact bnd_le h2 hlc
  ·rcases bnd_some h2 with ⟨eh,_⟩|⟨_,_,_,_,_,rfl⟩
   ·have:mx'.isSome=true:=by
     cases mx' with
     | none=>cases em
     | some y=>rfl
    have:=hmh this
    cases hi' with
    | none=>cases this
    | some y=>cases eh
   ·omega
 obtain ⟨hb,hle⟩:=run_bounds c (isSlice:=true) (len:=len) hl hh hm hmh hcc h1 h2 h3
 have hrun:=run_sliceAt (P:=P) (w:=w) ht hs (ad:=some ad) hb
 refine OpOk.pure c.rel (v:=.slice (if (if mx'.isSome then m else cap')=l then some ad else (some ad).map (·.add (l*es))) (n-l) ((if mx'.isSome then m else cap')-l)) ?_ ?_
 ·simp only[execOp,ho,Sem.run_bind,g1,hrun,Result.andThen_ok,Sem.run_pure]
 obtain ⟨a2,ha2,had1,had2⟩:=sl_shape ad ((if mx'.isSome then m else cap')=l) (l*es)
 rw[ha2]
 have hmm:m≤(if mx'.isSome=true then m else cap'):=by split<;>omega
 by_cases hdead:infoOf h.get b=.dead
 ·rcases hr with ⟨_,rfl⟩|⟨_,_,⟨hml,hms,hl0,rfl⟩|⟨_,_,rfl⟩⟩
  ·simp only[VR];exact ⟨_,_,rfl,by omega,by omega,.inl hdead⟩
  ·have:n-l=0:=by omega
   rw[this]
   simp only[VR];exact ⟨_,_,rfl,Nat.le_refl _,by omega,.inl hdead⟩
  ·simp only[VR];exact ⟨_,_,rfl,by omega,by omega,.inl hdead⟩
 ·obtain ⟨cc,p,e1,e3,e4⟩:=g2.resolve_left hdead
  rcases hr with ⟨hex,rfl⟩|⟨hex,hpos,hr⟩
  ·obtain ⟨rfl,rfl⟩:=e3 hex
   have hmm:(if mx'.isSome=true then m else cap')=m:=by
    cases mx' with
    | none=>
      rcases bnd_some h1 with ⟨_,rfl⟩|⟨_,_,he,_⟩
      ·simp
      ·cases he
    | some y=>simp
   rw[hmm] at had1 had2 ⊢
   simp only[VR]
   by_cases hml:m=l
   ·have:m.beq l=true:=beqT hml
    rw[this]
    exact ⟨_,_,rfl,by omega,Nat.le_refl _,.inr ⟨cc,p,e1,fun _=>⟨rfl,had1 hml⟩,fun hf=>by cases hf⟩⟩
   ·have:m.beq l=false:=beqF hml
    rw[this]
    refine ⟨_,_,rfl,by omega,Nat.le_refl _,.inr ⟨cc,p,e1,fun _=>⟨rfl,?_⟩,fun hf=>by cases hf⟩⟩
    rw[had2 hml,addr_add]
    simp only[cond_false]
    congr 1;omega
  ·obtain ⟨rfl,ow,fz,es',e5,e6⟩:=e4 hex hpos
   rcases hr with ⟨hml,hms,rfl,rfl⟩|⟨hnot,⟨ver,md,vs,hg⟩,rfl⟩
   ·rw[hms] at had1 ⊢
    simp only[if_true,hml] at had1 ⊢
    have:n-0=0:=by omega
    rw[this]
    simp only[VR]
    exact ⟨_,_,rfl,Nat.le_refl _,Nat.le_refl _,.inr ⟨cc,p,e1,fun _=>⟨rfl,had1 trivial⟩,fun hf=>by cases hf⟩⟩
   ·have hes:es'=es:=by
     unfold infoOf at e5
     rw[hg] at e5
     cases md<;>cases e5<;>rfl
    subst hes
    cases hms:mx'.isSome with
    | true=>
     rw[hms] at had2
     simp only[if_true] at had2 ⊢
     have hml:¬m=l:=fun e=>hnot ⟨e,hms⟩
     simp only[VR]
     refine ⟨_,_,rfl,by omega,Nat.le_refl _,.inr ⟨cc,p,e1,fun _=>⟨rfl,?_⟩,fun hf=>by cases hf⟩⟩
     rw[had2 hml,addr_add]
     congr 1;omega
    | false=>
     rw[hms] at had2
     simp only[Bool.false_eq_true,if_false] at had2 ⊢
     have hmcap:m=cap:=by
      rcases bnd_some h1 with ⟨_,rfl⟩|⟨_,_,he,_⟩
      ·rfl
      ·cases mx' with
       | none=>cases he
       | some y=>cases hms
     subst hmcap
     simp only[VR]
     refine ⟨_,_,rfl,by omega,by omega,.inr ⟨cc,p,e1,(fun hf=>by cases hf),fun _ hp=>⟨?_,ow,fz,es',e5,?_⟩⟩⟩
     ·rw[had2 (by omega),addr_add]
      congr 1;omega
     ·have hmul:(cap'-l)*es'+l*es'=cap'*es':=by rw[←Nat.add_mul];congr 1;omega
      omega
end sl
end Go.Ev
namespace Go.Ev
open Go
section mk
variable {P:Program} {nt:Nat} {ι:Mp} {h:AHeap} {w:World} {a:AAct} {a':Act} {o:Oper}
theorem extract_bytes (s:List UInt8) (l n:Nat):(ByteArray.mk ⟨s⟩).extract l n=⟨⟨(s.drop l).take (n-l)⟩⟩:=by
 apply ByteArray.ext
 rw[ByteArray.data_extract]
 apply Array.ext'
 simp [Array.toList_extract]
theorem ok_sls (c:Ctx P nt ι h w a a') {t:TypeId} (ht:P.underlying t=some .string) {x:Operand} {x':Opd} {lo hi:Option Operand} {lo' hi':Option Opd} (ho:o.op=.slice t x lo hi none) (hx:cOpd P x=some x') (hl:cOpt P lo=some lo') (hh:cOpt P hi=some hi')
  {s:List UInt8} (he:a.eval x'=.str s) {n l:Nat} (h2:bnd (hi'.map a.eval) s.length s.length=some n) (h3:bnd (lo'.map a.eval) 0 n=some l):OpOk P o a' w ι h (.str ((s.drop l).take (n-l))) h:=by
 have g:=c.opd hx
 rw[he] at g
 simp only[VR] at g
 obtain ⟨hb,hle⟩:=run_bounds c (isSlice:=false) (len:=s.length) (mx:=none) (mx':=none) hl hh rfl (by simp) (Nat.le_refl _) (m:=s.length) rfl h2 h3
 refine OpOk.pure c.rel (v:=.string ((ByteArray.mk ⟨s⟩).extract l n)) ?_ (by simp only[VR];rw[extract_bytes])
 simp only[Option.map_none,Option.isSome_none,Bool.false_eq_true,if_false] at hb
 have hs:(ByteArray.mk ⟨s⟩).size=s.length:=rfl
 simp only[execOp,ho,Option.map_none,Instr.sliceAt,Sem.run_bind,run_und w ht,Result.andThen_ok,g,Instr.slice,Option.isSome_none,Bool.false_eq_true,if_false,hs]
 simp [hb]
theorem ok_slarr (c:Ctx P nt ι h w a a') {t e:TypeId} {alen:Nat} (ht:P.underlying t=some (.array alen e)) {es:Nat} (hs:szOf P e=some es) {x:Operand} {x':Opd} {lo hi mx:Option Operand} {lo' hi' mx':Option Opd} (ho:o.op=.slice t x lo hi mx) (hx:cOpd P x=some x') (hl:cOpt P lo=some lo') (hh:cOpt P hi=some hi') (hm:cOpt P mx=some mx') (hmh:mx'.isSome=true→hi'.isSome=true)
  {b off:Nat} (he:a.eval x'=.ptr b off) {m n l:Nat} (h1:bnd (mx'.map a.eval) alen alen=some m) (h2:bnd (hi'.map a.eval) alen m=some n) (h3:bnd (lo'.map a.eval) 0 n=some l) :
  OpOk P o a' w ι h (.slice b (bif m.beq l then off else off+l*es) (n-l) (m-l) true) h:=by
 have g:=c.opd hx
 rw[he] at g
 simp only[VR] at g
 obtain ⟨ad,g1,g2⟩:=g
 obtain ⟨hb,hle⟩:=run_bounds c (isSlice:=false) (len:=alen) hl hh hm hmh (Nat.le_refl _) h1 h2 h3
 have hmm:(if mx'.isSome=true then m else alen)=m:=by
  cases mx' with
  | none=>
    rcases bnd_some h1 with ⟨_,rfl⟩|⟨_,_,he,_⟩
    ·simp
    ·cases he
  | some y=>simp
 rw[hmm] at hb
 have hnm:n≤m:=by
  rcases bnd_some h1 with ⟨_,rfl⟩|⟨k,i,em,_,_,rfl⟩
  ·exact bnd_le h2 (Nat.le_refl _)
  ·rcases bnd_some h2 with ⟨eh,_⟩|⟨_,_,_,_,_,rfl⟩
   ·have:mx'.isSome=true:=by
     cases mx' with
     | none=>cases em
     | some y=>rfl
    have:=hmh this
    cases hi' with
    | none=>cases this
    | some y=>cases eh
   ·omega
 refine OpOk.pure c.rel (v:=.slice (some (if m=l then ad else ad.add (l*es))) (n-l) (m-l)) ?_ ?_
 ·simp only[execOp,ho,Instr.sliceAt,Sem.run_bind,run_und w ht,Result.andThen_ok,g1,Instr.sureAddr,Sem.run_pure,hb,run_size w hs]
 ·simp only[VR]
  refine ⟨_,_,rfl,by omega,Nat.le_refl _,g2.imp id ?_⟩
  rintro ⟨cc,p,e1,rfl⟩
  refine ⟨cc,p,e1,fun _=>⟨rfl,?_⟩,fun hf=>by cases hf⟩
  by_cases hml:m=l
  ·have:m.beq l=true:=beqT hml
   rw[if_pos hml,this];rfl
  ·have:m.beq l=false:=beqF hml
   rw[if_neg hml,this,addr_add]
   simp only[cond_false]
   congr 1;omega
theorem wrap_small {n:Int} (h0:0≤n) (h1:n≤(room:Int)):IntKind.i64.wrap n=n:=by
 apply fits_wrap
 simp [fits,room] at *
 omega
theorem ok_mkslice (c:Ctx P nt ι h w a a') {t e:TypeId} (ht:P.underlying t=some (.slice e)) {es:Nat} (hs:szOf P e=some es) {i:TypeInfo} (hi:P.info? e=some i) {z:AV} (hz:zeroOf P e=some z) (hpos:0<es) (hzl:z.cells.length=es) {x y:Operand} {x' y':Opd} (ho:o.op=.makeSlice t x y) (hx:cOpd P x=some x') (hy:cOpd P y=some y')
  {k1 k2:IntKind} {l m:Int} (he1:a.eval x'=.int k1 l) (he2:a.eval y'=.int k2 m) (h0:0≤l) (h1:l≤m) (h2:m≤(room:Int)) (h3:m*(i.bytes:Int)≤(room:Int)) :
  NewOk P o a' w ι h (fun n=>.slice n 0 l.toNat m.toNat true) (.cells .own es (repl z.cells m.toNat)):=by
 have g1:=c.opd hx
 have g2:=c.opd hy
 rw[he1] at g1
 rw[he2] at g2
 simp only[VR] at g1 g2
 obtain ⟨v,e1,e2⟩:=run_zero w hz
 have hv:VR ι (infoOf h.get) (wsz w) z v:=toA_rel 3 v z e2
 have hvl:v.cells.size=es:=by have:=hv.cells.length;simp at this;omega
 have hrel:=repl_rel hv.cells (by omega) m.toNat (m.toNat*es) (by rw[hvl])
 refine NewOk.cells (w':={ w with heap:=w.heap.push (.cells ((Array.range (m.toNat*es)).map (v.cells[· % v.cells.size]!)) e) }) (v':=.slice (some ⟨w.heap.size,0,none⟩) l.toNat m.toNat) ?_ rfl ⟨rfl,rfl,rfl⟩ hrel.pre fun _ _ _ _ hb=>newSlice hb (by omega)
 have wl:=wrap_small h0 (by omega)
 have wm:=wrap_small (by omega:(0:Int)≤m) h2
 have hroom:(room:Int)=70368744177664:=rfl
 have hb:¬((i.bytes:Int)*m>2^48):=by rw[Int.mul_comm];omega
 have hc1:(decide (m<0)||decide ((i.bytes:Int)*m>2^48)||decide (l<0)||decide (l>m))=false:=by
  simp only[Bool.or_eq_false_iff,decide_eq_false_iff_not]
  exact ⟨⟨⟨by omega,hb⟩,by omega⟩,by omega⟩
 simp only[execOp,ho,Instr.makeSlice,Sem.run_bind,run_und w ht,Result.andThen_ok,g1,g2,asInt,asIntOf,Sem.run_pure,run_info w hi,wl,wm,hc1,Bool.false_eq_true,if_false,run_askRoom,run_size w hs]
 by_cases hm0:m.toNat*es=0
 ·simp only[hm0,if_true,Sem.run_pure,Result.andThen_ok,newRow,Sem.run_bind,run_newObj]
  have:(Array.range 0).map ((#[]:Array Value)[· % (#[]:Array Value).size]!)=(Array.range 0).map (v.cells[· % v.cells.size]!):=by simp
  rw[this]
 ·simp only[hm0,if_false,Sem.run_bind,e1,Result.andThen_ok,Sem.run_pure,newRow,run_newObj]
theorem ok_mkmap (c:Ctx P nt ι h w a a') {t:TypeId} {x:Option Operand} (ho:o.op=.makeMap t x) (hx:x=none∨(∃k n,x=some (.const (.int k n)))∧∃kt e,P.underlying t=some (.map kt e)):NewOk P o a' w ι h (fun n=>.map n) (.amap []):=by
 refine ⟨{ w with heap:=w.heap.push (.map #[] 0) },.map (some w.heap.size),_,?_,rfl,⟨rfl,rfl,rfl⟩,by simp [AObj.info],fun ι' I' b0 _ hb=>⟨⟨#[],0,by simp,rfl,by simp [MR]⟩,?_⟩⟩
 ·rcases hx with rfl|⟨⟨k,n,rfl⟩,kt,e,ht⟩
  ·simp [execOp,ho,Instr.makeMap]
  ·simp [execOp,ho,Instr.makeMap,Act.eval,run_und w ht,asInt,asIntOf]
 ·simp only[VR]
  exact ⟨_,rfl,.inr hb⟩
theorem ok_tassert (c:Ctx P nt ι h w a a') {t to:TypeId} {x:Operand} {x':Opd} (ho:o.op=.typeAssert x t to true) (hx:cOpd P x=some x') {d:TypeDesc} (hd:P.underlying to=some d) (hni:∀ms,d≠.interface ms) {z:AV} (hz:zeroOf P to=some z) {r:AV}
  (hr:(a.eval x'=.nilIface∧r=.tuple [z,.bool false])∨∃u v,a.eval x'=.iface u v∧r=(bif u.beq to then .tuple [v,.bool true] else .tuple [z,.bool false])):OpOk P o a' w ι h r h:=by
 have g:=c.opd hx
 obtain ⟨zv,e1,e2⟩:=run_zero w hz
 have hzv:VR ι (infoOf h.get) (wsz w) z zv:=toA_rel 3 zv z e2
 have hfail:VR ι (infoOf h.get) (wsz w) (.tuple [z,.bool false]) (.tuple #[zv,.bool false]):=by
  simp only[VR,VRL]
  exact ⟨_,rfl,_,_,rfl,hzv,_,_,rfl,rfl,rfl⟩
 rcases hr with ⟨hr,rfl⟩|⟨u,v,hr,rfl⟩
 ·rw[hr] at g
  simp only[VR] at g
  refine OpOk.pure c.rel (v:=.tuple #[zv,.bool false]) ?_ hfail
  simp only[execOp,ho,Instr.typeAssert,Sem.run_bind,run_und w hd,Result.andThen_ok,g]
  cases d<;>first|exact absurd rfl (hni _)|simp [e1]
 ·rw[hr] at g
  simp only[VR] at g
  obtain ⟨v',g1,g2⟩:=g
  by_cases hu:u=to
  ·have:u.beq to=true:=beqT hu
   rw[this]
   refine OpOk.pure c.rel (v:=.tuple #[v',.bool true]) ?_ ?_
   ·simp only[execOp,ho,Instr.typeAssert,Sem.run_bind,run_und w hd,Result.andThen_ok,g1]
    cases d<;>first|exact absurd rfl (hni _)|simp [hu]
   ·simp only[cond_true,VR,VRL]
    exact ⟨_,rfl,_,_,rfl,g2,_,_,rfl,rfl,rfl⟩
  ·have:u.beq to=false:=beqF hu
   rw[this]
   refine OpOk.pure c.rel (v:=.tuple #[zv,.bool false]) ?_ hfail
   simp only[execOp,ho,Instr.typeAssert,Sem.run_bind,run_und w hd,Result.andThen_ok,g1]
   cases d<;>first|exact absurd rfl (hni _)|simp [hu,e1]
end mk
section maps
variable {P:Program} {nt:Nat} {ι:Mp} {h:AHeap} {w:World} {a:AAct} {a':Act} {o:Oper}
theorem sameNow_rel {I:Nat→Info} {sz:Nat→Nat} {t:TypeId} {k:CK} (hb:k=.bool∨k=.int∨k=.str) (hk:ckFits P t k) {x y:AV} {u v:Value} (hu:VR ι I sz x u) (hv:VR ι I sz y v) {b:Bool} (he:eqK k x y=some b):∃d,P.underlying t=some d∧Instr.sameNow d u v=some b:=by
 rcases hb with rfl|rfl|rfl
 ·cases x<;>simp only[eqK] at he<;>try (cases he;done)
  cases y<;>simp only[eqK] at he<;>try (cases he;done)
  cases he
  simp only[VR] at hu hv
  subst hu;subst hv
  exact ⟨_,hk,rfl⟩
 ·obtain ⟨kk,hk⟩:=hk
  cases x<;>simp only[eqK] at he<;>try (cases he;done)
  cases y<;>simp only[eqK] at he<;>try (cases he;done)
  rename_i k1 n1 k2 n2
  by_cases e:k1=k2
  ·subst e
   simp only[decide_true,cond_true] at he
   cases he
   simp only[VR] at hu hv
   subst hu;subst hv
   exact ⟨_,hk,by simp [Instr.sameNow]⟩
  ·simp [e] at he
 ·cases x<;>simp only[eqK] at he<;>try (cases he;done)
  cases y<;>simp only[eqK] at he<;>try (cases he;done)
  cases he
  simp only[VR] at hu hv
  subst hu;subst hv
  exact ⟨_,hk,by simp [Instr.sameNow,beq_bytes]⟩
theorem ktOf_basic {t:TypeId} {k:CK} (h:ktOf P t=some (.one k)):k=.bool∨k=.int∨k=.str:=by
 unfold ktOf at h
 split at h
 ·cases e2:P.stoodInHeld t with
  | true=>rw[e2] at h;cases h
  | false=>
   rw[e2] at h
   simp only[cond_false] at h
   rename_i fs _
   cases e3:ckFields P 0 fs.toList with
   | none=>rw[e3] at h;cases h
   | some ks=>rw[e3] at h;cases h
 ·cases e:ckOf P t with
  | none=>rw[e] at h;cases h
  | some k'=>
   rw[e] at h
   cases h
   unfold ckOf at e
   split at e<;>cases e<;>simp
def FindR (ι:Mp) (I:Nat→Info) (sz:Nat→Nat) (kt:KT) (k:AV) (es:List (AV×AV)) (i:Nat):Option AV→Option (Nat×Value)→Prop
 | none,q=>q=none
 | some v,q=>∃p k2 v',q=some (i+p,v')∧VR ι I sz v v'∧es[p]?=some (k2,v)∧eqT kt k k2=some true∧∀p' x,p'<p→es[p']?=some x→eqT kt k x.1=some false
theorem later {I:Nat→Info} {sz:Nat→Nat} {kt:KT} {k k' v0:AV} {es:List (AV×AV)} {i:Nat} {q:Option (Nat×Value)} {r:Option AV} (he:eqT kt k k'=some false)
  (h:FindR ι I sz kt k es (i+1) r q):FindR ι I sz kt k ((k',v0)::es) i r q:=by
 cases r with
 | none=>exact h
 | some v=>
  obtain ⟨p,k2,v',h1,h2,h3,h4,h5⟩:=h
  refine ⟨p+1,k2,v',by rw[h1];congr 2;omega,h2,by simpa using h3,h4,fun p' x hp hx=>?_⟩
  cases p' with
  | zero=>simp at hx;subst hx;exact he
  | succ p'=>exact h5 p' x (by omega) (by simpa using hx)
def findRun (P:Program) (t:TypeId) (u:Value) (l:List MapEntry) (i:Nat):Sem (Option (Nat×Value)):=
 match Instr.findNow ((P.underlying t).getD .invalid) u l i with
 | some r=>pure r
 | none=>Instr.findAsking t u l i
theorem findA_rel {I:Nat→Info} {sz:Nat→Nat} {t:TypeId} {kt:KT} (hkt:ktOf P t=some kt) {k:AV} {u:Value} (hu:VR ι I sz k u):∀(es:List (AV×AV)) (l:List MapEntry) (i:Nat),MR ι I sz es l→∀r,findA kt k es=some r→
  ∃q,(findRun P t u l i).run P w=.ok q w∧
   FindR ι I sz kt k es i r q
 | [],l,i,hl,r,hf=>by
  simp only[MR] at hl
  subst hl
  simp only[findA] at hf
  cases hf
  exact ⟨none,by simp [findRun,Instr.findNow],rfl⟩
 | (k',v)::es,l,i,hl,r,hf=>by
  simp only[MR] at hl
  obtain ⟨e,l',rfl,hk1,hv1,hl'⟩:=hl
  simp only[findA] at hf
  cases he:eqT kt k k' with
  | none=>rw[he] at hf;cases hf
  | some b=>
   rw[he] at hf
   have hask:=eqT_rel w (ktOf_fits hkt) hu hk1 he
   cases kt with
   | one ck=>
    obtain ⟨d,hd,hsn⟩:=sameNow_rel (ktOf_basic hkt) (ktOf_fits hkt) hu hk1 he
    simp only[findRun,hd,Option.getD_some,Instr.findNow,hsn]
    cases b with
    | true=>
     cases hf
     exact ⟨some (i,e.val),by simp,0,k',e.val,rfl,hv1,rfl,he,fun p' x hp=>by omega⟩
    | false=>
     have ih:=findA_rel hkt hu es l' (i+1) hl' r hf
     simp only[findRun,hd,Option.getD_some] at ih
     obtain ⟨q,e1,e2⟩:=ih
     refine ⟨q,?_,later he e2⟩
     simp only
     rw[←e1]
     cases hfn:Instr.findNow d u l' (i+1) with
     | some r=>rfl
     | none=>
      exfalso
      have key:∀(es:List (AV×AV)) (l:List MapEntry) (i:Nat),MR ι I sz es l→(∃r,findA (.one ck) k es=some r)→Instr.findNow d u l i≠none:=by
       intro es
       induction es with
       | nil=>intro l i hl _;simp only[MR] at hl;subst hl;simp [Instr.findNow]
       | cons x es ih=>
        intro l i hl ⟨r,hr⟩
        obtain ⟨k2,v2⟩:=x
        simp only[MR] at hl
        obtain ⟨e,l2,rfl,g1,g2,g3⟩:=hl
        simp only[findA] at hr
        cases he2:eqT (.one ck) k k2 with
        | none=>rw[he2] at hr;cases hr
        | some b2=>
         rw[he2] at hr
         obtain ⟨d2,hd2,hs2⟩:=sameNow_rel (ktOf_basic hkt) (ktOf_fits hkt) hu g1 he2
         rw[hd] at hd2
         cases hd2
         simp only[Instr.findNow,hs2]
         cases b2 with
         | true=>simp
         | false=>exact ih l2 (i+1) g3 ⟨r,hr⟩
      exact key es l' (i+1) hl' ⟨r,hf⟩ hfn
   | many ks=>
    obtain ⟨fs,hd,_⟩:=ktOf_fits hkt
    have hnow:∀(x:MapEntry) (l:List MapEntry) (i:Nat),Instr.findNow (.struct fs) u (x::l) i=none:=fun x l i=>by simp [Instr.findNow,Instr.sameNow]
    simp only[findRun,hd,Option.getD_some,hnow]
    cases b with
    | true=>
     cases hf
     exact ⟨some (i,e.val),by simp [Instr.findAsking,hask],0,k',e.val,rfl,hv1,rfl,he,fun p' x hp=>by omega⟩
    | false=>
     have ih:=findA_rel hkt hu es l' (i+1) hl' r hf
     simp only[findRun,hd] at ih
     obtain ⟨q,e1,e2⟩:=ih
     refine ⟨q,?_,later he e2⟩
     simp only[Instr.findAsking,Sem.run_bind,hask,Result.andThen_ok,Bool.false_eq_true,if_false]
     rw[←e1]
     cases l' with
     | nil=>simp [Instr.findNow,Instr.findAsking]
     | cons x l2=>simp only[Option.getD_some,hnow]
end maps
end Go.Ev
namespace Go.Ev
open Go
section maps
variable {P:Program} {nt:Nat} {ι:Mp} {h:AHeap} {w:World} {a:AAct} {a':Act} {o:Oper}
theorem eqKs_len:∀{ks:List CK} {xs ys:List AV},eqKs ks xs ys=some true→xs.length=ks.length∧ys.length=ks.length∧∀(i:Nat) (k:CK) (x y:AV),ks[i]?=some k→xs[i]?=some x→ys[i]?=some y→eqK k x y=some true
 | [],[],[],_=>by simp
 | k::ks,x::xs,y::ys,h=>by
  simp only[eqKs] at h
  cases e:eqK k x y with
  | none=>rw[e] at h;cases h
  | some b=>
   rw[e] at h
   cases b with
   | false=>cases h
   | true=>
    obtain ⟨h1,h2,h3⟩:=eqKs_len h
    refine ⟨by simp [h1],by simp [h2],fun i k' x' y' g1 g2 g3=>?_⟩
    cases i with
    | zero=>simp at g1 g2 g3;subst g1;subst g2;subst g3;exact e
    | succ i=>exact h3 i k' x' y' (by simpa using g1) (by simpa using g2) (by simpa using g3)
 | [],[],_::_,h=>by simp [eqKs] at h
 | [],_::_,_,h=>by simp [eqKs] at h
 | _::_,[],_,h=>by simp [eqKs] at h
 | _::_,_::_,[],h=>by simp [eqKs] at h
theorem ckFields_basic:∀{fs:List Field} {i:Nat} {ks:List CK},ckFields P i fs=some ks→ks.length=fs.length∧∀(j:Nat) (f:Field),fs[j]?=some f→∃k,ks[j]?=some k∧ckOf P f.type=some k∧f.offset=i+j
 | [],i,ks,h=>by simp only[ckFields] at h;cases h;simp
 | f::fs,i,ks,h=>by
  simp only[ckFields] at h
  cases e:(f.offset.beq i&&f.name != "_") with
  | false=>rw[e] at h;cases h
  | true=>
   rw[e] at h
   simp only[cond_true] at h
   cases e3:ckOf P f.type with
   | none=>rw[e3] at h;cases h
   | some k=>
    rw[e3] at h
    cases e4:ckFields P (i+1) fs with
    | none=>rw[e4] at h;cases h
    | some ks'=>
     rw[e4] at h
     cases h
     obtain ⟨h1,h2⟩:=ckFields_basic e4
     refine ⟨by simp [h1],fun j g hj=>?_⟩
     cases j with
     | zero=>
      simp at hj;subst hj
      simp only[Bool.and_eq_true] at e
      exact ⟨k,by simp,e3,Nat.eq_of_beq_eq_true e.1⟩
     | succ j=>
      obtain ⟨k',g1,g2,g3⟩:=h2 j g (by simpa using hj)
      exact ⟨k',by simpa using g1,g2,by omega⟩
theorem checkKey_basic {t:TypeId} {k:CK} (hk:ckOf P t=some k) (b:Bool) (n:Nat) (v:Value):(Instr.checkKey b (n+1) t v).run P w=.ok () w:=by
 unfold ckOf at hk
 cases e:P.underlying t with
 | none=>rw[e] at hk;cases hk
 | some d=>
  rw[e] at hk
  cases d<;>cases hk<;>simp [Instr.checkKey,run_und w e]
theorem checkKey_agg {t:TypeId} {fs:Array Field} (hd:P.underlying t=some (.struct fs)) (X:Array Value) (b:Bool) (n:Nat) (hall:∀f∈fs.toList,∃k,ckOf P f.type=some k∧∃v,X[f.offset]?=some v):(Instr.checkKey b (n+1+1) t (.agg X)).run P w=.ok () w:=by
 have key:∀(l:List Field),(∀f∈l,∃k,ckOf P f.type=some k∧∃v,X[f.offset]?=some v)→
   (forIn (m:=Sem) l PUnit.unit fun (f:Field) (_:PUnit)=>(do
    if f.name≠ "_" then do
     Instr.checkKey b (n+1) f.type (←part f.type X f.offset)
     pure (ForInStep.yield PUnit.unit)
    else pure (ForInStep.yield PUnit.unit))).run P w=.ok PUnit.unit w:=by
  intro l
  induction l with
  | nil=>intro _;simp
  | cons f l ih=>
   intro hl
   obtain ⟨k,hk,v,hv⟩:=hl f (List.mem_cons_self ..)
   have hagg:=(ckOf_fits hk).2
   have hp:(part f.type X f.offset).run P w=.ok v w:=by simp [part,run_agg w hagg,hv]
   have ih':=ih fun g hg=>hl g (List.mem_cons_of_mem _ hg)
   rw[List.forIn_cons]
   by_cases hn:f.name≠ "_"
   ·simp only[if_pos hn,Sem.run_bind,hp,Result.andThen_ok,checkKey_basic hk b n v,Sem.run_pure]
    exact ih'
   ·simp only[if_neg hn,Sem.run_bind,Result.andThen_ok,Sem.run_pure]
    exact ih'
 have hk:=key fs.toList hall
 unfold Instr.checkKey
 simp only[Sem.run_bind,run_und w hd,Result.andThen_ok]
 rw[←Array.forIn_toList]
 simp at hk ⊢
 rw[hk]
 rfl
theorem checkKey_rel {I:Nat→Info} {sz:Nat→Nat} {t:TypeId} {kt:KT} (hkt:ktOf P t=some kt) {k:AV} {u:Value} (hu:VR ι I sz k u) (hok:keyOk kt k=true) (b:Bool):(Instr.checkKey b 10000 t u).run P w=.ok () w:=by
 have htrue:eqT kt k k=some true:=by
  unfold keyOk at hok
  split at hok
  ·assumption
  ·cases hok
 cases kt with
 | one ck=>
  have hc:ckOf P t=some ck:=by
   unfold ktOf at hkt
   split at hkt
   ·cases e2:P.stoodInHeld t with
    | true=>rw[e2] at hkt;cases hkt
    | false=>
     rw[e2] at hkt
     simp only[cond_false] at hkt
     rename_i fs _
     cases e3:ckFields P 0 fs.toList with
     | none=>rw[e3] at hkt;cases hkt
     | some ks=>rw[e3] at hkt;cases hkt
   ·cases e:ckOf P t with
    | none=>rw[e] at hkt;cases hkt
    | some k'=>rw[e] at hkt;cases hkt;rfl
  exact checkKey_basic hc b 9999 u
 | many ks=>
  obtain ⟨fs,hd,_,hf⟩:=ktOf_fits hkt
  cases k<;>simp only[eqT] at htrue<;>try (cases htrue;done)
  rename_i xs
  simp only[VR] at hu
  obtain ⟨X,rfl,hx⟩:=hu
  obtain ⟨g1,_,_⟩:=eqKs_len htrue
  obtain ⟨g2,g3⟩:=ckFields_basic hf
  have hlen:X.size=fs.size:=by have:=hx.length;simp at this g2;omega
  have hall:∀f∈fs.toList,∃k,ckOf P f.type=some k∧∃v,X[f.offset]?=some v:=by
   intro f hf'
   obtain ⟨j,hj⟩:=List.getElem?_of_mem hf'
   obtain ⟨k,_,e2,e3⟩:=g3 j f hj
   have hjl:j<fs.toList.length:=(List.getElem?_eq_some_iff.1 hj).1
   have:f.offset<X.size:=by simp at hjl;omega
   exact ⟨k,e2,X[f.offset],by simp [this]⟩
  exact checkKey_agg hd X b 9998 hall
theorem findKey_eq {t:TypeId} (u:Value) (l:List MapEntry) {d:TypeDesc} (hd:P.underlying t=some d):(Instr.findKey t u l).run P w=(findRun P t u l 0).run P w:=by
 simp only[Instr.findKey,findRun,Sem.run_bind,run_und w hd,Result.andThen_ok,hd,Option.getD_some]
 cases Instr.findNow d u l 0<;>rfl
theorem ktOf_und {t:TypeId} {kt:KT} (h:ktOf P t=some kt):∃d,P.underlying t=some d:=by
 cases e:P.underlying t with
 | some d=>exact ⟨d,rfl⟩
 | none=>simp [ktOf,ckOf,e] at h
theorem Ctx.mapAt (c:Ctx P nt ι h w a a') {r ver:Nat} {es:List (AV×AV)} {v:Value} (hv:VR ι (infoOf h.get) (wsz w) (.map r) v) (hg:h.get r=some ⟨ver,.amap es⟩) :
  ∃r' es' clock,v=.map (some r')∧ι r=some (r',0)∧w.heap[r']?=some (.map es' clock)∧MR ι (infoOf h.get) (wsz w) es es'.toList:=by
 simp only[VR] at hv
 obtain ⟨r',rfl,hd⟩:=hv
 have hnd:infoOf h.get r≠.dead:=by unfold infoOf;rw[hg];simp [AObj.info]
 have hi:=hd.resolve_left hnd
 obtain ⟨y,hy,_,hob⟩:=c.rel.obj r r' 0 hi
 rw[hg] at hy
 cases hy
 obtain ⟨es',clock,g1,_,g3⟩:=hob
 exact ⟨r',es',clock,rfl,hi,g1,g3⟩
theorem ok_lookup (c:Ctx P nt ι h w a a') {t kt e:TypeId} (ht:P.underlying t=some (.map kt e)) {kk:KT} (hkk:ktOf P kt=some kk) {z:AV} (hz:zeroOf P e=some z) {m k:Operand} {m' k':Opd} {ok:Bool} (ho:o.op=.lookup t m k ok) (hm:cOpd P m=some m') (hk:cOpd P k=some k') (hok:keyOk kk (a.eval k')=true) {v:AV} {found:Bool}
  (hr:(a.eval m'=.nilMap∧v=z∧found=false)∨∃r ver es,a.eval m'=.map r∧h.get r=some ⟨ver,.amap es⟩∧((findA kk (a.eval k') es=some (some v)∧found=true)∨(findA kk (a.eval k') es=some none∧v=z∧found=false))) :
  OpOk P o a' w ι h (bif ok then .tuple [v,.bool found] else v) h:=by
 have g1:=c.opd hm
 have g2:=c.opd hk
 obtain ⟨zv,e1,e2⟩:=run_zero w hz
 have hzv:VR ι (infoOf h.get) (wsz w) z zv:=toA_rel 3 zv z e2
 obtain ⟨d,hd⟩:=ktOf_und hkk
 have fin:∀(vv:Value),VR ι (infoOf h.get) (wsz w) v vv→(Instr.lookup t (a'.eval m) (a'.eval k) ok).run P w=.ok (if ok then .tuple #[vv,.bool found] else vv) w→OpOk P o a' w ι h (bif ok then .tuple [v,.bool found] else v) h:=by
  intro vv hvv hrun
  refine OpOk.pure c.rel (v:=if ok then .tuple #[vv,.bool found] else vv) (by simp only[execOp,ho,Sem.run_bind,hrun,Result.andThen_ok,Sem.run_pure]) ?_
  cases ok
  ·simpa using hvv
  ·simp only[cond_true,if_true,VR,VRL]
   exact ⟨_,rfl,_,_,rfl,hvv,_,_,rfl,rfl,rfl⟩
 rcases hr with ⟨hr,rfl,rfl⟩|⟨r,ver,es,hr,hg,hr2⟩
 ·rw[hr] at g1
  simp only[VR] at g1
  refine fin zv hzv ?_
  simp only[Instr.lookup,Sem.run_bind,run_und w ht,Result.andThen_ok,g1,Sem.run_pure,checkKey_rel (w:=w) hkk g2 hok]
  simp [Instr.findKey,run_und w hd,Instr.findNow,e1]
 ·rw[hr] at g1
  obtain ⟨r',es',clock,e3,e4,e5,e6⟩:=c.mapAt g1 hg
  have hget:(getObj r').run P w=.ok (.map es' clock) w:=by simp [getObj,Sem.run,e5]
  rcases hr2 with ⟨hf,rfl⟩|⟨hf,rfl,rfl⟩
  ·obtain ⟨q,h1,p,k2,v',rfl,h2,_⟩:=findA_rel (w:=w) hkk g2 es es'.toList 0 e6 _ hf
   rw[←findKey_eq _ _ hd] at h1
   refine fin v' h2 ?_
   simp only[Instr.lookup,Sem.run_bind,run_und w ht,Result.andThen_ok,e3,hget,Sem.run_pure,checkKey_rel (w:=w) hkk g2 hok,h1]
  ·obtain ⟨q,h1,rfl⟩:=findA_rel (w:=w) hkk g2 es es'.toList 0 e6 _ hf
   rw[←findKey_eq _ _ hd] at h1
   refine fin zv hzv ?_
   simp only[Instr.lookup,Sem.run_bind,run_und w ht,Result.andThen_ok,e3,hget,Sem.run_pure,checkKey_rel (w:=w) hkk g2 hok,h1,e1]
theorem setA_spec {kt:KT} {k v:AV}:∀{es es':List (AV×AV)},setA kt k v es=some es'→
  (findA kt k es=some none∧es'=es++[(k,v)])∨∃p k2 v2,findA kt k es=some (some v2)∧es[p]?=some (k2,v2)∧eqT kt k k2=some true∧(∀p' x,p'<p→es[p']?=some x→eqT kt k x.1=some false)∧es'=es.set p (k,v)
 | [],es',h=>by simp only[setA] at h;cases h;exact .inl ⟨rfl,rfl⟩
 | (k',v')::es,es',h=>by
  simp only[setA] at h
  cases e:eqT kt k k' with
  | none=>rw[e] at h;cases h
  | some b=>
   rw[e] at h
   cases b with
   | true=>cases h;exact .inr ⟨0,k',v',by simp [findA,e],rfl,e,fun p' x hp=>by omega,rfl⟩
   | false=>
    simp only at h
    cases e2:setA kt k v es with
    | none=>rw[e2] at h;cases h
    | some r=>
     rw[e2] at h
     cases h
     rcases setA_spec e2 with ⟨h1,rfl⟩|⟨p,k2,v2,h1,h2,h3,h4,rfl⟩
     ·exact .inl ⟨by simp [findA,e,h1],rfl⟩
     ·refine .inr ⟨p+1,k2,v2,by simp [findA,e,h1],by simpa using h2,h3,fun p' x hp hx=>?_,rfl⟩
      cases p' with
      | zero=>simp at hx;subst hx;exact e
      | succ p'=>exact h4 p' x (by omega) (by simpa using hx)
theorem sameBits_rel {I:Nat→Info} {sz:Nat→Nat} {ck:CK} (hb:ck=.bool∨ck=.int∨ck=.str) {x y:AV} {u v:Value} (hu:VR ι I sz x u) (hv:VR ι I sz y v) (he:eqK ck x y=some true) (n:Nat):Instr.sameBits n v u=true:=by
 rcases hb with rfl|rfl|rfl
 ·cases x<;>simp only[eqK] at he<;>try (cases he;done)
  cases y<;>simp only[eqK] at he<;>try (cases he;done)
  simp only[VR] at hu hv
  subst hu;subst hv
  simp only[Option.some.injEq] at he
  cases n<;>simp [Instr.sameBits]<;>(have:=beq_iff_eq.1 he;exact this.symm)
 ·cases x<;>simp only[eqK] at he<;>try (cases he;done)
  cases y<;>simp only[eqK] at he<;>try (cases he;done)
  rename_i k1 n1 k2 n2
  by_cases e:k1=k2
  ·subst e
   simp only[decide_true,cond_true,Option.some.injEq] at he
   simp only[VR] at hu hv
   subst hu;subst hv
   have:=beq_iff_eq.1 he
   subst this
   cases n<;>simp [Instr.sameBits]
  ·simp [e] at he
 ·cases x<;>simp only[eqK] at he<;>try (cases he;done)
  cases y<;>simp only[eqK] at he<;>try (cases he;done)
  simp only[VR] at hu hv
  subst hu;subst hv
  simp only[Option.some.injEq] at he
  have:=beq_iff_eq.1 he
  subst this
  cases n<;>simp [Instr.sameBits,beq_bytes]
theorem sameKey_rel {I:Nat→Info} {sz:Nat→Nat} {t:TypeId} {kt:KT} (hkt:ktOf P t=some kt) {x y:AV} {u v:Value} (hu:VR ι I sz x u) (hv:VR ι I sz y v) (he:eqT kt x y=some true):Instr.sameBits 10000 v u=true:=by
 cases kt with
 | one ck=>exact sameBits_rel (ktOf_basic hkt) hu hv he 10000
 | many ks=>
  obtain ⟨fs,_,_,hf⟩:=ktOf_fits hkt
  cases x<;>simp only[eqT] at he<;>try (cases he;done)
  cases y<;>simp only[eqT] at he<;>try (cases he;done)
  rename_i xs ys
  simp only[VR] at hu hv
  obtain ⟨X,rfl,hx⟩:=hu
  obtain ⟨Y,rfl,hy⟩:=hv
  obtain ⟨l1,l2,l3⟩:=eqKs_len he
  obtain ⟨g2,g3⟩:=ckFields_basic hf
  have hlx:=hx.length
  have hly:=hy.length
  simp only[Array.length_toList] at hlx hly
  have hsz:(Y.size==X.size)=true:=by simp;omega
  show (Y.size==X.size&&(Y.toList.zip X.toList).all fun (x,y)=>Instr.sameBits 9999 x y)=true
  rw[hsz,Bool.true_and,List.all_eq_true]
  rintro ⟨p,q⟩ hm
  obtain ⟨i,hi⟩:=List.getElem?_of_mem hm
  obtain ⟨hi1,hi2⟩:=List.getElem?_zip_eq_some.1 hi
  have hin:i<ks.length:=by
   have:=(List.getElem?_eq_some_iff.1 hi1).1
   simp at this;omega
  have hif:i<fs.toList.length:=by omega
  obtain ⟨k,e1,e2,_⟩:=g3 i _ (List.getElem?_eq_getElem hif)
  have hx1:xs[i]?=some xs[i]:=List.getElem?_eq_getElem (by omega)
  have hy1:ys[i]?=some ys[i]:=List.getElem?_eq_getElem (by omega)
  obtain ⟨u,h1,h2⟩:=hx.get i _ hx1
  obtain ⟨v,h3,h4⟩:=hy.get i _ hy1
  rw[hi2] at h1
  rw[hi1] at h3
  cases h1;cases h3
  have hbas:k=.bool∨k=.int∨k=.str:=by
   unfold ckOf at e2
   split at e2<;>cases e2<;>simp
  exact sameBits_rel hbas h2 h4 (l3 i k _ _ e1 hx1 hy1) 9999
theorem MR.get {I:Nat→Info} {sz:Nat→Nat}:∀{xs:List (AV×AV)} {l:List MapEntry},MR ι I sz xs l→∀(i:Nat) (x:AV×AV),xs[i]?=some x→∃e,l[i]?=some e∧VR ι I sz x.1 e.key∧VR ι I sz x.2 e.val
 | [],l,_,i,x,e=>by simp at e
 | (k,v)::xs,l,h,i,x,e=>by
  simp only[MR] at h
  obtain ⟨y,ys,rfl,h1,h2,h3⟩:=h
  cases i with
  | zero=>simp at e;subst e;exact ⟨y,by simp,h1,h2⟩
  | succ i=>obtain ⟨z,g1,g2⟩:=MR.get h3 i x (by simpa using e);exact ⟨z,by simpa using g1,g2⟩
theorem MR.append {I:Nat→Info} {sz:Nat→Nat} {k v:AV} {e:MapEntry} (hk:VR ι I sz k e.key) (hv:VR ι I sz v e.val):∀{xs:List (AV×AV)} {l:List MapEntry},MR ι I sz xs l→MR ι I sz (xs++[(k,v)]) (l++[e])
 | [],l,h=>by simp only[MR] at h;subst h;simp only[List.nil_append,MR];exact ⟨e,[],rfl,hk,hv,rfl⟩
 | (k',v')::xs,l,h=>by
  simp only[MR] at h
  obtain ⟨y,ys,rfl,h1,h2,h3⟩:=h
  simp only[List.cons_append,MR]
  exact ⟨y,_,rfl,h1,h2,MR.append hk hv h3⟩
theorem MR.set {I:Nat→Info} {sz:Nat→Nat} {k v:AV} {f:MapEntry→MapEntry} (hk:∀e,VR ι I sz k (f e).key) (hv:∀e,VR ι I sz v (f e).val):∀{xs:List (AV×AV)} {l:List MapEntry} (p:Nat),MR ι I sz xs l→MR ι I sz (xs.set p (k,v)) (l.modify p f)
 | [],l,p,h=>by simp only[MR] at h;subst h;simp [MR]
 | (k',v')::xs,l,p,h=>by
  simp only[MR] at h
  obtain ⟨y,ys,rfl,h1,h2,h3⟩:=h
  cases p with
  | zero=>simp only[List.set_cons_zero,List.modify_zero_cons,MR];exact ⟨_,_,rfl,hk y,hv y,h3⟩
  | succ p=>simp only[List.set_cons_succ,List.modify_succ_cons,MR];exact ⟨_,_,rfl,h1,h2,MR.set hk hv p h3⟩
theorem ok_mapupd (c:Ctx P nt ι h w a a') {t kt e:TypeId} (ht:P.underlying t=some (.map kt e)) {kk:KT} (hkk:ktOf P kt=some kk) {m k x:Operand} {m' k' x':Opd} (ho:o.op=.mapUpdate t m k x∨o.op=.insert t m k x) (hm:cOpd P m=some m') (hk:cOpd P k=some k') (hx:cOpd P x=some x') (hok:keyOk kk (a.eval k')=true)
  {r ver ver':Nat} {es es':List (AV×AV)} (hr:a.eval m'=.map r) (hg:h.get r=some ⟨ver,.amap es⟩) (hs:setA kk (a.eval k') (a.eval x') es=some es'):OpOk P o a' w ι h undefA (h.upd r ver' (.amap es')):=by
 have g1:=c.opd hm
 have g2:=c.opd hk
 have g3:=c.opd hx
 obtain ⟨d,hd⟩:=ktOf_und hkk
 rw[hr] at g1
 obtain ⟨r',me,clock,e3,e4,e5,e6⟩:=c.mapAt g1 hg
 have hget:(getObj r').run P w=.ok (.map me clock) w:=by simp [getObj,Sem.run,e5]
 have hlt:r'<w.heap.size:=c.rel.wlt e4
 have fin:∀(me2:Array MapEntry) (clock2:Nat),(Instr.mapUpdate t (a'.eval m) (a'.eval k) (a'.eval x)).run P w=.ok () { w with heap:=w.heap.setIfInBounds r' (.map me2 clock2) }→MR ι (infoOf h.get) (wsz w) es' me2.toList→OpOk P o a' w ι h undefA (h.upd r ver' (.amap es')):=by
  intro me2 clock2 hrun hmr
  have hat:({ w with heap:=w.heap.setIfInBounds r' (.map me2 clock2) }:World).heap[r']?=some (.map me2 clock2):=by simp [hlt]
  have hoth:∀c',c'≠r'→({ w with heap:=w.heap.setIfInBounds r' (.map me2 clock2) }:World).heap[c']?=w.heap[c']?:=by
   intro c' hc
   simp only[Array.getElem?_setIfInBounds]
   rw[if_neg (fun e=>hc e.symm)]
  have hwz:wsz w r'≤wsz ({ w with heap:=w.heap.setIfInBounds r' (.map me2 clock2) }:World) r':=by
   unfold wsz;rw[e5,hat];exact Nat.le_refl _
  have hws:∀c',wsz w c'≤wsz ({ w with heap:=w.heap.setIfInBounds r' (.map me2 clock2) }:World) c':=by
   intro c'
   by_cases hc:c'=r'
   ·subst hc;exact hwz
   ·unfold wsz;rw[hoth c' hc];exact Nat.le_refl _
  obtain ⟨s1,s2⟩:=c.rel.write (w':={ w with heap:=w.heap.setIfInBounds r' (.map me2 clock2) }) (o':=.amap es') (ver':=ver') hg rfl ⟨true,0,rfl⟩ e4 (by simp) ⟨rfl,rfl,rfl⟩ hoth hwz
   ⟨me2,clock2,hat,rfl,MR.mono ⟨fun _ _ x=>x,fun _ x=>x,fun _ _ _ _ _ _ x=>.inl x,hws⟩ _ _ hmr⟩
  refine ⟨.skip,_,ι,undef,?_,.inr ⟨rfl,rfl⟩,s1,s2,VR.undef⟩
  rcases ho with ho|ho<;>simp only[execOp,ho,Sem.run_bind,hrun,Result.andThen_ok,Sem.run_pure]
 have hset:∀(me2:Array MapEntry) (clock2:Nat),(setObj r' (.map me2 clock2)).run P w=.ok () { w with heap:=w.heap.setIfInBounds r' (.map me2 clock2) }:=by
  intro me2 clock2
  simp [setObj,Sem.run,e5]
 rcases setA_spec hs with ⟨hf,rfl⟩|⟨p,k2,v2,hf,hp,heq,hfirst,rfl⟩
 ·obtain ⟨q,h1,rfl⟩:=findA_rel (w:=w) hkk g2 es me.toList 0 e6 _ hf
  rw[←findKey_eq _ _ hd] at h1
  refine fin (me.push { key:=a'.eval k,val:=a'.eval x,born:=clock }) (clock+1) ?_ ?_
  ·simp only[Instr.mapUpdate,Sem.run_bind,run_und w ht,Result.andThen_ok,e3,hget,checkKey_rel (w:=w) hkk g2 hok,h1,hset]
  ·rw[Array.toList_push]
   exact MR.append g2 g3 e6
 ·obtain ⟨q,h1,p2,k3,v',rfl,_,hp2,heq2,hfirst2⟩:=findA_rel (w:=w) hkk g2 es me.toList 0 e6 _ hf
  have hpp:p2=p:=by
   rcases Nat.lt_trichotomy p2 p with hlt|heqp|hgt
   ·have:=hfirst p2 _ hlt hp2
    rw[heq2] at this;cases this
   ·exact heqp
   ·have:=hfirst2 p _ hgt hp
    rw[heq] at this;cases this
  subst hpp
  rw[←findKey_eq _ _ hd] at h1
  obtain ⟨en,hen,hek,_⟩:=e6.get p2 _ hp
  have hen':me[p2]?=some en:=by simpa using hen
  have hsb:=sameKey_rel hkk g2 hek heq
  refine fin (me.modify p2 fun e=>{ e with key:=a'.eval k,val:=a'.eval x }) clock ?_ ?_
  ·simp only[Instr.mapUpdate,Sem.run_bind,run_und w ht,Result.andThen_ok,e3,hget,checkKey_rel (w:=w) hkk g2 hok,h1,Nat.zero_add,Instr.keyThatStays,hen',Option.map_some,Option.getD_some,hsb,if_true,Sem.run_pure,hset]
  ·rw[Array.toList_modify]
   exact MR.set (fun _=>g2) (fun _=>g3) p2 e6
end maps
end Go.Ev
namespace Go.Ev
open Go
section app
variable {P:Program} {nt:Nat} {ι:Mp} {h:AHeap} {w:World} {a:AAct} {a':Act} {o:Oper}
theorem wsz_heap {w w2:World} (hh:w2.heap=w.heap):wsz w2=wsz w:=by
 funext c
 unfold wsz
 rw[hh]
theorem Rel.heap (r:Rel ι h w) {w2:World} (hh:w2.heap=w.heap):Rel ι h w2 where
 dom:=r.dom
 lt:=r.lt
 obj b c p e:=by
  obtain ⟨x,h1,h2,h3⟩:=r.obj b c p e
  refine ⟨x,h1,by rw[hh];exact h2,?_⟩
  refine h3.mono (ι':=ι) (I':=infoOf h.get) ?_ (by rw[hh])
  rw[wsz_heap hh]
  exact Grow.refl _ _ _
 inj:=r.inj
theorem elems_rel (r:Rel ι h w) {es n:Nat} {x:AV} {v:Value} {new:List AV} (hv:VR ι (infoOf h.get) (wsz w) x v) (he:elems h es x=some (n,new)) :
  (Builtin.lenOf v).run P w=.ok n w∧∃l:List Value,VRL ι (infoOf h.get) (wsz w) new l∧∀(w2:World) (m:Nat),w2.heap=w.heap→m≤n→(Builtin.firstCells es m v).run P w2=.ok (l.take (m*es)).toArray w2:=by
 cases x<;>simp only[elems] at he<;>try (cases he;done)
 ·
  rename_i s
  cases e:es.beq 1 with
  | false=>rw[e] at he;cases he
  | true=>
   rw[e] at he
   have h1:es=1:=Nat.eq_of_beq_eq_true e
   subst h1
   simp only[cond_true,Option.some.injEq,Prod.mk.injEq] at he
   obtain ⟨rfl,rfl⟩:=he
   simp only[VR] at hv
   subst hv
   refine ⟨by simp [Builtin.lenOf];rfl,s.map fun c=>.int .u8 c.toNat,?_,fun w2 m _ hm=>?_⟩
   ·refine VRL.of_get _ _ (by simp) fun i x v hx hv=>?_
    rw[List.getElem?_map] at hx hv
    cases e2:s[i]? with
    | none=>rw[e2] at hx;cases hx
    | some c=>rw[e2] at hx hv;cases hx;cases hv;simp [VR]
   ·simp only[Builtin.firstCells,Sem.run_pure]
    congr 1
    apply Array.ext'
    rw[extract_bytes]
    simp [List.map_take]
 ·
  rename_i b off len cap ex
  cases e:len.beq 0 with
  | true=>
   rw[e] at he
   have h0:len=0:=Nat.eq_of_beq_eq_true e
   subst h0
   simp only[cond_true,Option.some.injEq,Prod.mk.injEq] at he
   obtain ⟨rfl,rfl⟩:=he
   simp only[VR] at hv
   obtain ⟨ad,cap',rfl,_⟩:=hv
   refine ⟨by simp [Builtin.lenOf],[],by simp [VRL],fun w2 m _ hm=>?_⟩
   obtain rfl:m=0:=by omega
   simp [Builtin.firstCells,loadCells,loadCellsFrom]
  | false=>
   rw[e] at he
   simp only[cond_false] at he
   have hpos:len≠0:=fun e0=>by subst e0;simp at e
   cases hg:h.get b with
   | none=>rw[hg] at he;cases he
   | some x=>
    obtain ⟨ver,ob⟩:=x
    rw[hg] at he
    cases ob with
    | amap _=>cases he
    | dead=>cases he
    | cells md es' vs=>
     simp only at he
     cases hrow:row vs off (len*es) with
     | none=>rw[hrow] at he;cases he
     | some cs=>
      rw[hrow] at he
      simp only[Option.some.injEq,Prod.mk.injEq] at he
      obtain ⟨rfl,rfl⟩:=he
      simp only[VR] at hv
      obtain ⟨ad,cap',rfl,hlc,hcc,hd⟩:=hv
      have hnd:infoOf h.get b≠.dead:=by unfold infoOf;rw[hg];cases md<;>simp [AObj.info]
      obtain ⟨cc,p,e1,e3,e4⟩:=hd.resolve_left hnd
      have had:ad=⟨cc,p+off,none⟩:=by
       cases ex with
       | true=>exact (e3 rfl).2
       | false=>exact (e4 rfl (by omega)).1
      subst had
      obtain ⟨l,_,hl2⟩:=r.loadRow (P:=P) hg e1 hrow
      have hll:l.length=len*es:=by
       have:=hl2.length
       obtain ⟨h3,rfl⟩:=row_some hrow
       simp at this;omega
      refine ⟨by simp [Builtin.lenOf],l,hl2,fun w2 m hh hm=>?_⟩
      have r2:Rel ι h w2:=r.heap hh
      have hmle:m*es≤len*es:=Nat.mul_le_mul_right _ hm
      have hrow2:row vs off (m*es)=some (cs.take (m*es)):=by
       obtain ⟨h3,rfl⟩:=row_some hrow
       unfold row
       have:(off+m*es).ble vs.length=true:=Nat.ble_eq_true_of_le (by omega)
       rw[this]
       simp only[cond_true,List.take_take,Nat.min_eq_left hmle]
      obtain ⟨l2,hl3,hl4⟩:=r2.loadRow (P:=P) hg e1 hrow2
      have heq:l2=l.take (m*es):=by
       obtain ⟨x0,hx0,_,hob⟩:=r.obj b cc p e1
       rw[hg] at hx0
       cases hx0
       obtain ⟨cells,T,lo,hi,g1,_⟩:=hob
       have key:∀(w3:World) (n:Nat) (q:List Value),w3.heap=w.heap→(loadCells ⟨cc,p+off,none⟩ n).run P w3=.ok q.toArray w3→q=(cells.toList.drop (p+off)).take n→True:=fun _ _ _ _ _ _=>trivial
       obtain ⟨l5,h5,h6⟩:=r.loadRow (P:=P) hg e1 hrow
       obtain ⟨hlen1,_⟩:=row_some hrow
       have hcell:∀j,j<m*es→∃v,cells[p+off+j]?=some v:=by
        intro j hj
        obtain ⟨x1,hx1,_,hob1⟩:=r.obj b cc p e1
        rw[hg] at hx1
        cases hx1
        obtain ⟨cells1,T1,lo1,hi1,g11,g12,_⟩:=hob1
        rw[g1] at g11
        cases g11
        obtain ⟨v,h7,_⟩:=g12 (off+j) _ (List.getElem?_eq_getElem (by omega))
        exact ⟨v,by rw[←h7];congr 1;omega⟩
       have hload:∀(w3:World) (n:Nat),w3.heap=w.heap→n≤len*es→(loadCells ⟨cc,p+off,none⟩ n).run P w3=.ok ((cells.toList.drop (p+off)).take n).toArray w3:=by
        intro w3 n hh3 hn
        have hlen:((cells.toList.drop (p+off)).take n).length=n:=by
         by_cases h0:n=0
         ·subst h0;simp
         ·obtain ⟨x1,hx1,_,hob1⟩:=r.obj b cc p e1
          rw[hg] at hx1
          cases hx1
          obtain ⟨cells1,T1,lo1,hi1,g11,g12,_⟩:=hob1
          rw[g1] at g11
          cases g11
          obtain ⟨v,h7,_⟩:=g12 (off+n-1) _ (List.getElem?_eq_getElem (by omega))
          have:p+(off+n-1)<cells.size:=by
           by_cases hlt:p+(off+n-1)<cells.size
           ·exact hlt
           ·rw[Array.getElem?_eq_none (by omega)] at h7;cases h7
          simp;omega
        have:=run_loadCells_list (P:=P) w3 ⟨cc,p+off,none⟩ ((cells.toList.drop (p+off)).take n) (fun j v hj=>by
         rw[addr_add,cell_eq (by rw[hh3];exact g1)]
         have hjn:j<n:=by
          have:=(List.getElem?_eq_some_iff.1 hj).1
          omega
         rw[List.getElem?_take_of_lt hjn,List.getElem?_drop] at hj
         simpa using hj)
        rwa[hlen] at this
       have q1:=hload w2 (m*es) hh hmle
       rw[q1] at hl3
       injection hl3 with hl3
       have q2:l=(cells.toList.drop (p+off)).take (len*es):=by
        refine List.ext_getElem? fun j=>?_
        by_cases hj:j<len*es
        ·obtain ⟨x1,hx1,_,hob1⟩:=r.obj b cc p e1
         rw[hg] at hx1
         cases hx1
         obtain ⟨l6,h8,h9⟩:=r.loadRow (P:=P) hg e1 hrow
         have q3:=hload w (len*es) rfl (Nat.le_refl _)
         have hh8:=‹(loadCells ⟨cc,p+off,none⟩ (len*es)).run P w=.ok l.toArray w›
         rw[q3] at hh8
         injection hh8 with hh8
         have:=congrArg Array.toList hh8
         simp only[List.toList_toArray] at this
         rw[this]
        ·rw[List.getElem?_eq_none (by omega),List.getElem?_eq_none (by simp;omega)]
       have:=congrArg Array.toList hl3
       simp only[List.toList_toArray] at this
       rw[←this,q2,List.take_take,Nat.min_eq_left hmle]
      rw[←heq]
      simp only[Builtin.firstCells]
      exact hl3
 ·
  simp only[Option.some.injEq,Prod.mk.injEq] at he
  obtain ⟨rfl,rfl⟩:=he
  simp only[VR] at hv
  subst hv
  refine ⟨by simp [Builtin.lenOf],[],by simp [VRL],fun w2 m _ hm=>by simp [Builtin.firstCells]⟩
end app
end Go.Ev
namespace Go.Ev
open Go
section runs
variable {P:Program} (w:World)
theorem arr20 {α:Type} (x y:α):(#[x,y]:Array α)[0]?=some x:=rfl
theorem arr21 {α:Type} (x y:α):(#[x,y]:Array α)[1]?=some y:=rfl
theorem run_appendCap (need old:Nat) (e:TypeId):(choose (.appendCap need old e)).run P w=.ok (need+w.tape w.drawn (.appendCap need old e) % (2^63-need)) { w with drawn:=w.drawn+1 }:=by
 simp only[run_choose,Question.forced,Bool.false_eq_true,if_false,Question.cut]
variable {sT xT ty e:TypeId} {dx:TypeDesc} {es:Nat} {i:TypeInfo} {zv:Value} (hs:P.underlying sT=some (.slice e)) (hx:P.underlying xT=some dx) (hsz:szOf P e=some es) (hi:P.info? e=some i) (hz:i.zero=some zv)
include hs hx hsz
theorem run_append_in (hd:(∃e2,dx=.slice e2)∨dx=.string) {ad:Addr} {sLen sCap n:Nat} {x:Value} {new:List Value} {w':World} (hn:(Builtin.lenOf x).run P w=.ok n w) (hf:(Builtin.firstCells es n x).run P w=.ok new.toArray w) (hcap:sLen+n≤sCap) (hst:(storeCells (ad.add (sLen*es)) new).run P w=.ok () w') :
  (Builtin.append_ #[sT,xT] ty #[.slice (some ad) sLen sCap,x]).run P w=.ok (.slice (some ad) (sLen+n) sCap) w':=by
 rcases hd with ⟨e2,rfl⟩|rfl <;>
 simp only[Builtin.append_,arr20,arr21,Sem.run_bind,Sem.run_ite,run_und w hs,run_und w hx,run_size w hsz,Result.andThen_ok,hn,Sem.run_pure,Bool.false_eq_true,if_false,if_pos hcap,Bool.not_false,if_true,hf,hst]
theorem run_append_in_nil (hd:(∃e2,dx=.slice e2)∨dx=.string) {sLen sCap n:Nat} {x:Value} {new:List Value} (hn:(Builtin.lenOf x).run P w=.ok n w) (hf:(Builtin.firstCells es n x).run P w=.ok new.toArray w) (hcap:sLen+n≤sCap) :
  (Builtin.append_ #[sT,xT] ty #[.slice none sLen sCap,x]).run P w=.ok (.slice none (sLen+n) sCap) w:=by
 rcases hd with ⟨e2,rfl⟩|rfl <;>
 simp only[Builtin.append_,arr20,arr21,Sem.run_bind,Sem.run_ite,run_und w hs,run_und w hx,run_size w hsz,Result.andThen_ok,hn,Sem.run_pure,Bool.false_eq_true,if_false,if_pos hcap,Bool.not_false,if_true,hf]
include hi hz
theorem run_append_grow' (hd:(∃e2,dx=.slice e2)∨dx=.string) {base:Option Addr} {sLen sCap n:Nat} {x:Value} {new old:List Value} (hn:(Builtin.lenOf x).run P w=.ok n w) (hf:∀w2:World,w2.heap=w.heap→(Builtin.firstCells es n x).run P w2=.ok new.toArray w2) (hg:sCap<sLen+n) (h63:sLen+n≤room) (hfit:(sLen+n)*i.bytes≤room)
  (hold:∀w2:World,w2.heap=w.heap→(Builtin.firstCells es sLen (.slice base sLen sCap)).run P w2=.ok old.toArray w2) :
  ∃newCap,sLen+n≤newCap∧(Builtin.append_ #[sT,xT] ty #[.slice base sLen sCap,x]).run P w=.ok (.slice (some ⟨w.heap.size,0,none⟩) (sLen+n) newCap)
   { w with heap:=w.heap.push (.cells (old.toArray++new.toArray++Builtin.zeroCells zv.cells (newCap-(sLen+n))) e),drawn:=w.drawn+1 }:=by
 refine ⟨sLen+n+w.tape w.drawn (.appendCap (sLen+n) sCap e) % (2^63-(sLen+n)),Nat.le_add_right _ _,?_⟩
 have hr:room=70368744177664:=rfl
 have h1:¬(sLen+n≤sCap):=by omega
 have h2:¬(((sLen+n:Nat):Int)>IntKind.i64.max):=by
  simp only[IntKind.max,IntKind.signed,IntKind.bits];simp;omega
 have h3:¬(Builtin.nextslicecap (sLen+n) sCap*i.bytes>2^48):=by
  have:=growslice_fits hg (by omega:(sLen+n)*i.bytes≤140737488355328)
  omega
 have hzz:∀w2:World,(zeroValue e).run P w2=.ok zv w2:=fun w2=>by simp [zeroValue,run_info w2 hi,hz]
 have ho2:=hold { w with drawn:=w.drawn+1 } rfl
 have hf2:=hf { w with drawn:=w.drawn+1 } rfl
 rcases hd with ⟨e2,rfl⟩|rfl <;>
 simp only[Builtin.append_,arr20,arr21,Sem.run_bind,Sem.run_ite,run_und w hs,run_und w hx,run_size w hsz,Result.andThen_ok,hn,Sem.run_pure,if_neg h1,Bool.false_eq_true,if_false,false_or,
  h2,false_and,if_neg h3,run_appendCap,run_askRoom,run_info _ hi,ho2,Bool.not_false,if_true,hf2,hzz,newRow,run_newObj]
end runs
theorem run_zeros {P:Program} {e:TypeId} {es:Nat} {i:TypeInfo} {zv:Value} (hi:P.info? e=some i) (hz:i.zero=some zv) (w2:World) (n:Nat) (hpos:0<es) (hzl:zv.cells.size=es) :
  (if n*es=0 then Result.ok #[] w2 else ((zeroValue e).run P w2).andThen fun a w'=>Result.ok (Builtin.zeroCells a.cells n) w')=.ok (Builtin.zeroCells zv.cells n) w2:=by
 by_cases h0:n*es=0
 ·have hn:n=0:=by
   rcases Nat.mul_eq_zero.1 h0 with h|h
   ·exact h
   ·omega
  subst hn
  simp [Builtin.zeroCells]
 ·simp [h0,zeroValue,run_info w2 hi,hz]
section runz
variable {P:Program} (w:World)
variable {sT xT ty e:TypeId} {kx:IntKind} {es:Nat} {i:TypeInfo} {zv:Value} (hs:P.underlying sT=some (.slice e)) (hx:P.underlying xT=some (.int kx)) (hsz:szOf P e=some es) (hi:P.info? e=some i) (hz:i.zero=some zv)
include hs hx hsz hi hz
theorem run_appendz_in {ad:Addr} {sLen sCap:Nat} {k:IntKind} {m:Int} {w':World} (h0:0≤m) (hm:m≤(room:Int)) (hmb:m*(i.bytes:Int)≤(room:Int)) (hpos:0<es) (hzl:zv.cells.size=es) (hcap:sLen+m.toNat≤sCap) (hst:(storeCells (ad.add (sLen*es)) (Builtin.zeroCells zv.cells m.toNat).toList).run P w=.ok () w') :
  (Builtin.append_ #[sT,xT] ty #[.slice (some ad) sLen sCap,.int k m]).run P w=.ok (.slice (some ad) (sLen+m.toNat) sCap) w':=by
 have hr:(room:Int)=70368744177664:=rfl
 have hw:=wrap_small h0 hm
 have h1:¬(m<0):=by omega
 have h2:¬(m*(i.bytes:Int)>2^48):=by omega
 have hzr:=run_zeros hi hz w m.toNat hpos hzl
 simp only[Builtin.append_,arr20,arr21,Sem.run_bind,Sem.run_ite,run_und w hs,run_und w hx,run_size w hsz,Result.andThen_ok,Sem.run_pure,if_true,asInt,asIntOf,hw,if_neg h1,run_info w hi,if_neg h2,if_pos hcap,Bool.not_true,Bool.false_eq_true,if_false,hzr,hst]
theorem run_appendz_in_nil {sLen sCap:Nat} {k:IntKind} {m:Int} (h0:0≤m) (hm:m≤(room:Int)) (hmb:m*(i.bytes:Int)≤(room:Int)) (hpos:0<es) (hzl:zv.cells.size=es) (hcap:sLen+m.toNat≤sCap) :
  (Builtin.append_ #[sT,xT] ty #[.slice none sLen sCap,.int k m]).run P w=.ok (.slice none (sLen+m.toNat) sCap) w:=by
 have hr:(room:Int)=70368744177664:=rfl
 have hw:=wrap_small h0 hm
 have h1:¬(m<0):=by omega
 have h2:¬(m*(i.bytes:Int)>2^48):=by omega
 have hzr:=run_zeros hi hz w m.toNat hpos hzl
 simp only[Builtin.append_,arr20,arr21,Sem.run_bind,Sem.run_ite,run_und w hs,run_und w hx,run_size w hsz,Result.andThen_ok,Sem.run_pure,if_true,asInt,asIntOf,hw,if_neg h1,run_info w hi,if_neg h2,if_pos hcap,Bool.not_true,Bool.false_eq_true,if_false,hzr]
theorem run_appendz_grow {base:Option Addr} {sLen sCap:Nat} {k:IntKind} {m:Int} {old:List Value} (h0:0≤m) (hm:m≤(room:Int)) (hmb:m*(i.bytes:Int)≤(room:Int)) (hpos:0<es) (hzl:zv.cells.size=es) (hg:sCap<sLen+m.toNat) (h63:sLen+m.toNat≤room) (hfit:(sLen+m.toNat)*i.bytes≤room)
  (hold:∀w2:World,w2.heap=w.heap→(Builtin.firstCells es sLen (.slice base sLen sCap)).run P w2=.ok old.toArray w2) :
  ∃newCap,sLen+m.toNat≤newCap∧(Builtin.append_ #[sT,xT] ty #[.slice base sLen sCap,.int k m]).run P w=.ok (.slice (some ⟨w.heap.size,0,none⟩) (sLen+m.toNat) newCap)
   { w with heap:=w.heap.push (.cells (old.toArray++(Builtin.zeroCells zv.cells m.toNat)++Builtin.zeroCells zv.cells (newCap-(sLen+m.toNat))) e),drawn:=w.drawn+1 }:=by
 refine ⟨sLen+m.toNat+w.tape w.drawn (.appendCap (sLen+m.toNat) sCap e) % (2^63-(sLen+m.toNat)),Nat.le_add_right _ _,?_⟩
 have hr':room=70368744177664:=rfl
 have hr:(room:Int)=70368744177664:=rfl
 have hw:=wrap_small h0 hm
 have h1:¬(m<0):=by omega
 have h2:¬(m*(i.bytes:Int)>2^48):=by omega
 have g1:¬(sLen+m.toNat≤sCap):=by omega
 have g2:¬(((sLen+m.toNat:Nat):Int)>IntKind.i64.max):=by
  simp only[IntKind.max,IntKind.signed,IntKind.bits];simp;omega
 have g3:¬(Builtin.nextslicecap (sLen+m.toNat) sCap*i.bytes>2^48):=by
  have:=growslice_fits hg (by omega:(sLen+m.toNat)*i.bytes≤140737488355328)
  omega
 have hzz:∀w2:World,(zeroValue e).run P w2=.ok zv w2:=fun w2=>by simp [zeroValue,run_info w2 hi,hz]
 have hzr:=run_zeros hi hz { w with drawn:=w.drawn+1 } m.toNat hpos hzl
 simp only[hzz,Result.andThen_ok] at hzr
 have ho2:=hold { w with drawn:=w.drawn+1 } rfl
 simp only[Builtin.append_,arr20,arr21,Sem.run_bind,Sem.run_ite,run_und w hs,run_und w hx,run_size w hsz,Result.andThen_ok,Sem.run_pure,if_true,asInt,asIntOf,hw,if_neg h1,run_info _ hi,if_neg h2,if_neg g1,g2,false_and,if_false,if_neg g3,run_appendCap,run_askRoom,ho2,Bool.not_true,Bool.false_eq_true,hzr,hzz,newRow,run_newObj]
end runz
end Go.Ev
namespace Go.Ev
open Go
section app
variable {P:Program} {nt:Nat} {ι:Mp} {h:AHeap} {w:World} {a:AAct} {a':Act} {o:Oper}
def GivesV (P:Program) (w:World) (ι:Mp) (h:AHeap) (run:Sem Value) (r:AV) (h':AHeap):Prop:=
 ∃v' w' ι',run.run P w=.ok v' w'∧Step ι h w ι' h' w'∧Rel ι' h' w'∧VR ι' (infoOf h'.get) (wsz w') r v'
theorem zeroCells_size (z:Array Value) (n:Nat):(Builtin.zeroCells z n).size=n*z.size:=by simp [Builtin.zeroCells]
theorem newSliceI {n c len cap':Nat} {I:Nat→Info} {sz:Nat→Nat} {es:Nat} (h1:len≤cap') (hI:I n=.live true true es) (hs:cap'*es≤sz c):VR (mpNew ι n c) I sz (.slice n 0 len len false) (.slice (some ⟨c,0,none⟩) len cap'):=by
 simp only[VR]
 refine ⟨_,_,rfl,Nat.le_refl _,h1,.inr ⟨c,0,by simp [mpNew],fun e=>(by cases e),fun _ _=>⟨rfl,true,true,es,hI,by simpa using hs⟩⟩⟩
theorem info_new {md:Md} (hm:md.mine=true) (h:AHeap) (es:Nat) (vs:List AV):infoOf (h.alloc (.cells md es vs)).get h.n=.live true true es:=by
 rw[infoOf_alloc,if_pos rfl];exact info_mine hm _ _
theorem same_eq {a b:Md} (h:a.same b=true):a=b:=by
 cases a<;>cases b<;>first|rfl|(cases h;done)|(simp only[Md.same] at h;rw[Nat.eq_of_beq_eq_true h])
theorem wsz_new {w w':World} {l:Array Value} {T:TypeId} (hh:w'.heap=w.heap.push (.cells l T)):wsz w' w.heap.size=l.size:=by
 unfold wsz
 rw[hh];simp
theorem append_sound (r:Rel ι h w) {run:Value→Sem Value} {md:Md} (hm:md.mine=true) {es bytes n:Nat} (hes0:∀t,md=.tag t→es≠0) {new:List AV} {newV:List Value} (hnew:VRL ι (infoOf h.get) (wsz w) new newV)
  (hin:∀ad sLen sCap w',sLen+n≤sCap→(storeCells (ad.add (sLen*es)) newV).run P w=.ok () w'→(run (.slice (some ad) sLen sCap)).run P w=.ok (.slice (some ad) (sLen+n) sCap) w')
  (hnil:∀sLen sCap,sLen+n≤sCap→(run (.slice none sLen sCap)).run P w=.ok (.slice none (sLen+n) sCap) w)
  (hgrow:∀base sLen sCap (old:List Value),sCap<sLen+n→sLen+n≤room→(sLen+n)*bytes≤room→(∀w2:World,w2.heap=w.heap→(Builtin.firstCells es sLen (.slice base sLen sCap)).run P w2=.ok old.toArray w2)→
   ∃newCap T,(∀t,md=.tag t→T=t)∧∃rest:Array Value,sLen+n≤newCap∧rest.size=(newCap-(sLen+n))*es∧(run (.slice base sLen sCap)).run P w=.ok (.slice (some ⟨w.heap.size,0,none⟩) (sLen+n) newCap) { w with heap:=w.heap.push (.cells (old.toArray++newV.toArray++rest) T),drawn:=w.drawn+1 })
  {s:AV} {v:Value} (hv:VR ι (infoOf h.get) (wsz w) s v) {x:AV} {h':AHeap} (he:appendA h md es bytes s n new=some (x,h')):GivesV P w ι h (run v) x h':=by
 unfold appendA at he
 cases hc0:(!(new.length.beq (n*es))||!allFlat new) with
 | true=>rw[hc0] at he;cases he
 | false=>
 rw[hc0] at he
 simp only[cond_false,Bool.or_eq_false_iff,Bool.not_eq_false'] at he hc0
 obtain ⟨hlen0,hflat⟩:=hc0
 have hlen:new.length=n*es:=Nat.eq_of_beq_eq_true hlen0
 have hlenV:newV.length=n*es:=by rw[←hnew.length];exact hlen
 have mk:∀(hh:AHeap) (rr:Rel ι hh w) (st:Step ι h w ι hh w) (base:Option Addr) (sLen sCap:Nat) (old:List AV) (oldV:List Value),VRL ι (infoOf hh.get) (wsz w) old oldV→VRL ι (infoOf hh.get) (wsz w) new newV→old.length=sLen*es→sCap<sLen+n→sLen+n≤room→(sLen+n)*bytes≤room→
   (∀w2:World,w2.heap=w.heap→(Builtin.firstCells es sLen (.slice base sLen sCap)).run P w2=.ok oldV.toArray w2)→GivesV P w ι h (run (.slice base sLen sCap)) (.slice hh.n 0 (sLen+n) (sLen+n) false) (hh.alloc (.cells md es (old++new))):=by
  intro hh rr st base sLen sCap old oldV hold hnew' holdl hg h1 h2 hload
  obtain ⟨newCap,T,hTag,rest,g1,g2,g3⟩:=hgrow base sLen sCap oldV hg h1 h2 hload
  have holdV:oldV.length=sLen*es:=by rw[←hold.length];exact holdl
  have hall:=hold.append hnew'
  obtain ⟨s1,r1⟩:=rr.newCells (w':={ w with heap:=w.heap.push (.cells (oldV.toArray++newV.toArray++rest) T),drawn:=w.drawn+1 }) (es:=es) rfl ⟨rfl,rfl,rfl⟩ (zs:=old++new) (by
   intro i y hy
   obtain ⟨u,e1,e2⟩:=hall.get i y hy
   refine ⟨u,?_,e2⟩
   have hil:i<(oldV++newV).length:=(List.getElem?_eq_some_iff.1 e1).1
   rw[Array.getElem?_append_left (by simpa using hil)]
   simpa using e1) (md:=md) hm (fun t e=>⟨hTag t e,fun h0=>absurd h0 (hes0 t e)⟩)
  refine ⟨_,_,_,g3,st.trans r s1,r1,newSliceI g1 (info_new hm _ _ _) ?_⟩
  rw[wsz_new (l:=oldV.toArray++newV.toArray++rest) (T:=T) rfl]
  simp only[Array.size_append,List.size_toArray,g2,holdV,hlenV]
  have:newCap*es=sLen*es+n*es+(newCap-(sLen+n))*es:=by
   rw[←Nat.add_mul,←Nat.add_mul]
   congr 1;omega
  omega
 cases s<;>try (cases he;done)
 ·
  rename_i b off len cap ex
  simp only at he
  have hv0:=hv
  simp only[VR] at hv
  obtain ⟨ad,cap',rfl,hlc,hcc,hd⟩:=hv
  cases hn0:n.beq 0 with
  | true=>
   rw[hn0] at he
   simp only[cond_true,Option.some.injEq,Prod.mk.injEq] at he
   obtain ⟨rfl,rfl⟩:=he
   have h0:n=0:=Nat.eq_of_beq_eq_true hn0
   subst h0
   have hnv:newV=[]:=by
    have:newV.length=0:=by omega
    exact List.length_eq_zero_iff.1 this
   subst hnv
   have:=hin ad len cap' w (by omega) (by simp [storeCells])
   exact ⟨_,w,ι,this,Step.refl _ _ _,r,by simpa using hv0⟩
  | false=>
   rw[hn0] at he
   simp only[cond_false] at he
   have hnpos:0<n:=by
    rcases Nat.eq_zero_or_pos n with h0|h0
    ·subst h0;simp at hn0
    ·exact h0
   cases hg:h.get b with
   | none=>rw[hg] at he;cases he
   | some blk=>
    obtain ⟨ver,ob⟩:=blk
    rw[hg] at he
    cases ob with
    | amap _=>cases he
    | dead=>cases he
    | cells md' es' vs=>
     simp only at he
     cases hes:es'.beq es with
     | false=>rw[hes] at he;cases he
     | true=>
     rw[hes] at he
     have hes':es'=es:=Nat.eq_of_beq_eq_true hes
     subst hes'
     simp only[Bool.not_true,cond_false] at he
     have hnd:infoOf h.get b≠.dead:=by unfold infoOf;rw[hg];cases md'<;>simp [AObj.info]
     obtain ⟨cc,p,e1,e3,e4⟩:=hd.resolve_left hnd
     cases hroom:(len+n).ble cap with
     | true=>
      rw[hroom] at he
      have hle:len+n≤cap:=Nat.le_of_ble_eq_true hroom
      cases hsm:md'.same md with
      | false=>rw[hsm] at he;cases he
      | true=>
      rw[hsm] at he
      obtain rfl:=same_eq hsm
      simp only[cond_true] at he
      cases hlay:Ev.lay vs (off+len*es') new with
      | none=>rw[hlay] at he;cases he
      | some vs'=>
       rw[hlay] at he
       simp only[Option.some.injEq,Prod.mk.injEq] at he
       obtain ⟨rfl,rfl⟩:=he
       have had:ad=⟨cc,p+off,none⟩:=by
        cases ex with
        | true=>exact (e3 rfl).2
        | false=>exact (e4 rfl (by omega)).1
       subst had
       obtain ⟨w',g1,g2,g3⟩:=r.storeRow (P:=P) (ver':=ver+1) hm hg e1 hlay hnew hflat
       have hrun:=hin ⟨cc,p+off,none⟩ len cap' w' (by omega) (by rw[addr_add];rw[show p+off+len*es'=p+(off+len*es') by omega];exact g1)
       refine ⟨_,w',ι,hrun,g2,g3,?_⟩
       have:=VR.mono g2.grow _ _ hv0
       simp only[VR] at this ⊢
       obtain ⟨ad2,cap2,q1,q2,q3,q4⟩:=this
       injection q1 with q5 q6 q7
       injection q5 with q5
       subst q5;subst q7
       exact ⟨_,_,rfl,hle,q3,q4⟩
     | false=>
      rw[hroom] at he
      simp only[cond_false] at he
      have hgt:cap<len+n:=by
       rcases Nat.lt_or_ge cap (len+n) with h1|h1
       ·exact h1
       ·rw[Nat.ble_eq_true_of_le h1] at hroom;cases hroom
      cases hfit:((len+n).ble room&&((len+n)*bytes).ble room) with
      | false=>rw[hfit] at he;cases he
      | true=>
       rw[hfit] at he
       simp only[Bool.and_eq_true] at hfit
       have f1:=Nat.le_of_ble_eq_true hfit.1
       have f2:=Nat.le_of_ble_eq_true hfit.2
       simp only[cond_true] at he
       cases hrow:row vs off (len*es') with
       | none=>rw[hrow] at he;cases he
       | some old=>
        rw[hrow] at he
        simp only at he
        obtain ⟨hrl,hrd⟩:=row_some hrow
        have holdl:old.length=len*es':=by rw[hrd];simp;omega
        obtain ⟨oldV,l1,l2⟩:=r.loadRow (P:=P) hg e1 hrow
        have hload:ad=⟨cc,p+off,none⟩∨len=0→∀w2:World,w2.heap=w.heap→(Builtin.firstCells es' len (.slice (some ad) len cap')).run P w2=.ok oldV.toArray w2:=by
         intro had w2 hh
         have hel:elems h es' (.slice b off len cap ex)=some (len,old):=by
          simp only[elems,hg,hrow]
          cases e0:len.beq 0 with
          | true=>
           have h0:len=0:=Nat.eq_of_beq_eq_true e0
           subst h0
           have:old=[]:=List.length_eq_zero_iff.1 (by omega)
           simp [this]
          | false=>rfl
         obtain ⟨_,l,q1,q2⟩:=elems_rel (P:=P) r hv0 hel
         have q3:=q2 w2 len hh (Nat.le_refl _)
         have q4:=q2 w len rfl (Nat.le_refl _)
         have hll:l.length=len*es':=by rw[←q1.length];exact holdl
         rw[List.take_of_length_le (by omega)] at q3 q4
         have:l=oldV:=by
          rcases had with rfl|h0
          ·simp only[Builtin.firstCells] at q4
           rw[l1] at q4
           injection q4 with q4
           have:=congrArg Array.toList q4
           simpa using this.symm
          ·subst h0
           have h1:l=[]:=List.length_eq_zero_iff.1 (by omega)
           have h2:oldV=[]:=List.length_eq_zero_iff.1 (by rw[←l2.length];omega)
           rw[h1,h2]
         rw[←this];exact q3
        cases ex with
        | true=>
         simp only[cond_true,Option.some.injEq,Prod.mk.injEq] at he
         obtain ⟨rfl,rfl⟩:=he
         obtain ⟨hcap',had⟩:=e3 rfl
         exact mk h r (Step.refl _ _ _) (some ad) len cap' old oldV l2 hnew holdl (by omega) f1 f2 (hload (.inl had))
        | false=>
         simp only[cond_false] at he
         cases hz:(!(off.beq 0)||cap.beq 0) with
         | true=>rw[hz] at he;cases he
         | false=>
          rw[hz] at he
          simp only[Bool.or_eq_false_iff,Bool.not_eq_false'] at hz
          have hoff:off=0:=Nat.eq_of_beq_eq_true hz.1
          have hcpos:0<cap:=by
           rcases Nat.eq_zero_or_pos cap with h0|h0
           ·subst h0;simp at hz
           ·exact h0
          subst hoff
          cases hsm:md'.same md with
          | false=>rw[hsm] at he;cases he
          | true=>
          rw[hsm] at he
          obtain rfl:=same_eq hsm
          simp only[cond_false,Option.some.injEq,Prod.mk.injEq] at he
          obtain ⟨rfl,rfl⟩:=he
          obtain ⟨had,ow,fz,es2,hinf,hszb⟩:=e4 rfl hcpos
          have hes2:es2=es':=by
           unfold infoOf at hinf
           rw[hg] at hinf
           simp only[info_mine hm] at hinf
           cases hinf;rfl
          subst hes2
          by_cases hbig:cap'<len+n
          ·
           obtain ⟨s0,r0⟩:=r.kill (ver':=ver+1) hg
           have:=mk (h.upd b (ver+1) .dead) r0 s0 (some ad) len cap' old oldV (VRL.mono s0.grow _ _ l2) (VRL.mono s0.grow _ _ hnew) holdl hbig f1 f2 (hload (.inl had))
           exact this
          ·
           obtain ⟨blk2,hb2,hcw,hob⟩:=r.obj b cc p e1
           rw[hg] at hb2
           cases hb2
           obtain ⟨cells,T,lo,hi,g1,g2,g3,g4⟩:=hob
           obtain ⟨hp0,hTag⟩:=g4.1 hm
           obtain ⟨rfl,rfl⟩:=g3 (thaw_mine hm).1
           subst hp0
           have hwz:wsz w cc=cells.size:=by unfold wsz;rw[g1]
           have hone:∀v∈newV,v.oneCell'=true:=by
            intro v hv
            obtain ⟨i,hi⟩:=List.getElem?_of_mem hv
            have hil:i<new.length:=by
             have:=(List.getElem?_eq_some_iff.1 hi).1
             omega
            obtain ⟨v',q1,q2⟩:=hnew.get i _ (List.getElem?_eq_getElem hil)
            rw[hi] at q1
            cases q1
            exact oneCell_of_flat q2 (List.all_eq_true.1 hflat _ (List.getElem_mem hil))
           have hmul:(len+n)*es2≤cap'*es2:=Nat.mul_le_mul_right _ (by omega)
           have hexp:(len+n)*es2=len*es2+n*es2:=Nat.add_mul _ _ _
           obtain ⟨w',q1,q2,q3,⟨cs',q4,q5,q6⟩,q7⟩:=run_storeCells (P:=P) newV w cc (len*es2) 0 cells T g1 (by omega) hone
           have hrun:=hin ad len cap' w' (by omega) (by rw[had,addr_add];rw[show 0+0+len*es2=len*es2 by omega];exact q1)
           have hsz:wsz w cc≤wsz w' cc:=by unfold wsz;rw[g1,q4];simp [q5]
           have hws:∀c',wsz w c'≤wsz w' c':=by
            intro c'
            by_cases hc:c'=cc
            ·subst hc;exact hsz
            ·unfold wsz;rw[q3 c' hc];exact Nat.le_refl _
           obtain ⟨s0,r0⟩:=r.kill (ver':=ver+1) hg
           have hgr:=s0.grow.trans (r0.growNew (w':=w') (.cells md' es2 (old++new)) (c:=cc) hws)
           obtain ⟨s1,r1⟩:=r.take (ver':=ver+1) (o':=.cells md' es2 (old++new)) hg ⟨true,es2,info_mine hm _ _⟩ e1 q2 q7 q3 hsz ⟨cs',T,0,0,q4,(by
            intro i y hy
            rw[Nat.zero_add,q6 i]
            by_cases hi:i<old.length
            ·rw[List.getElem?_append_left hi] at hy
             rw[if_neg (by omega)]
             have hy2:vs[i]?=some y:=by
              rw[hrd,List.getElem?_take_of_lt (by omega),List.getElem?_drop] at hy
              simpa using hy
             obtain ⟨u,h1,h2⟩:=g2 i y hy2
             exact ⟨u,by simpa using h1,VR.mono hgr _ _ h2⟩
            ·rw[List.getElem?_append_right (by omega)] at hy
             obtain ⟨u,h1,h2⟩:=hnew.get _ y hy
             have hil:i-old.length<newV.length:=(List.getElem?_eq_some_iff.1 h1).1
             rw[if_pos (by omega)]
             exact ⟨u,by rw[←h1];congr 1;omega,VR.mono hgr _ _ h2⟩),fun _=>⟨rfl,rfl⟩,fun _=>⟨rfl,fun t e=>⟨(hTag t e).1,fun h0=>absurd h0 (hes0 t e)⟩⟩,fun e=>absurd e (thaw_mine hm).2⟩
           refine ⟨_,w',_,hrun,s1,r1,?_⟩
           rw[had]
           refine newSliceI (es:=es2) (by omega) ?_ ?_
           ·exact info_new hm (h.upd b (ver+1) .dead) es2 (old++new)
           ·have:wsz w' cc=cells.size:=by unfold wsz;rw[q4];exact q5
            omega
 ·
  simp only at he
  simp only[VR] at hv
  subst hv
  cases hn0:n.beq 0 with
  | true=>
   rw[hn0] at he
   simp only[cond_true,Option.some.injEq,Prod.mk.injEq] at he
   obtain ⟨rfl,rfl⟩:=he
   have h0:n=0:=Nat.eq_of_beq_eq_true hn0
   subst h0
   exact ⟨_,w,ι,hnil 0 0 (by omega),Step.refl _ _ _,r,by simp [VR]⟩
  | false=>
   rw[hn0] at he
   simp only[cond_false] at he
   have hnpos:0<n:=by
    rcases Nat.eq_zero_or_pos n with h0|h0
    ·subst h0;simp at hn0
    ·exact h0
   cases hfit:(n.ble room&&(n*bytes).ble room) with
   | false=>rw[hfit] at he;cases he
   | true=>
    rw[hfit] at he
    simp only[Bool.and_eq_true] at hfit
    have f1:=Nat.le_of_ble_eq_true hfit.1
    have f2:=Nat.le_of_ble_eq_true hfit.2
    simp only[cond_true,Option.some.injEq,Prod.mk.injEq] at he
    obtain ⟨rfl,rfl⟩:=he
    have:=mk h r (Step.refl _ _ _) none 0 0 [] [] (by simp [VRL]) hnew (by simp) (by omega) (by omega) (by simpa using f2) (fun w2 _=>by simp [Builtin.firstCells])
    simpa using this
end app
end Go.Ev
namespace Go.Ev
open Go
def Glob (P:Program) (ι:Mp):Prop:=∀g,g<P.globals.size→ι g=some (g,0)
def CallGives (P:Program) (f:FuncId) (args:Array Value) (w:World) (φ ψ:Value→World→Prop):Prop:=
 match (callFunc f args).run P w with
 | .ok (.enter g as) w1=>Calls P g as w1 fun e w2=>(∃v,e=.returned v∧φ v w2)∨(∃v,e=.panicked [{ v,recovered:=false }]∧ψ v w2)
 | .ok (.value v) w1=>φ v w1
 | _=>False
def Comes1 (ι:Mp) (h:AHeap) (w:World) (x:AV) (h':AHeap) (v':Value) (w':World):Prop:=
 ∃ι',Step ι h w ι' h' w'∧Rel ι' h' w'∧VR ι' (infoOf h'.get) (wsz w') x v'
def CallsOk (P:Program) (call:FuncId→List AV→AHeap→Option (CRes×AHeap)):Prop:=
 ∀f args h res h',call f args h=some (res,h')→∀ι w (args':Array Value),Glob P ι→Rel ι h w→VRL ι (infoOf h.get) (wsz w) args args'.toList→
  CallGives P f args' w (fun v' w'=>∃x,res=.ret x∧Comes1 ι h w x h' v' w') (fun v' w'=>∃x,res=.pan x∧Comes1 ι h w x h' v' w')
def OpGoes (P:Program) (o:Oper) (a':Act) (w:World) (ι:Mp) (h:AHeap) (res:Res):Prop:=
 ∀(a3:Act) (next:Act→World→Prop) (Q:Exit→Act→World→Prop),
  (match res with
   | .v x h' _=>∀v' w',Comes1 ι h w x h' v' w'→next (a3.put o.dst v') w'
   | .pan x h'=>∀v' w',Comes1 ι h w x h' v' w'→Q (.panic [{ v:=v',recovered:=false }]) a3 w'
   | .df f args=>∀d,DRel ι (infoOf h.get) (wsz w) (f,args) d→next ({ a3 with defers:=d::a3.defers }.put o.dst undef) w)→o.upon P a3 next Q ((execOp a'.eval o).run P w)
section
variable {P:Program} {nt:Nat} {ι:Mp} {h:AHeap} {w:World} {a:AAct} {a':Act} {o:Oper}
theorem OpOk.goes {x:AV} {h':AHeap} {k:Cls} (hk:OpOk P o a' w ι h x h'):OpGoes P o a' w ι h (.v x h' k):=by
 obtain ⟨nx,w',ι',v',h1,h2,h3,h4,h5⟩:=hk
 intro a3 next Q hn
 rw[h1]
 rcases h2 with rfl|⟨rfl,rfl⟩
 ·exact hn v' w' ⟨ι',h3,h4,h5⟩
 ·exact hn undef w' ⟨ι',h3,h4,h5⟩
theorem call_goes {call:FuncId→List AV→AHeap→Option (CRes×AHeap)} (hcall:CallsOk P call) (c:Ctx P nt ι h w a a') {f:FuncId} {args:List AV} {args':Array Value} (hargs:VRL ι (infoOf h.get) (wsz w) args args'.toList) (hrun:(execOp a'.eval o).run P w=(callFunc f args').run P w)
  {res:CRes} {h':AHeap} (he:call f args h=some (res,h')):OpGoes P o a' w ι h (match res with|.ret v=>.v v h' .big|.pan v=>.pan v h'):=by
 have hg:=hcall f args h res h' he ι w args' c.glob c.rel hargs
 intro a3 next Q hn
 rw[hrun]
 unfold CallGives at hg
 split at hg
 ·rename_i g as w1 heq
  rw[heq]
  simp only[Oper.upon]
  refine hg.mono fun e w2 hp=>?_
  rcases hp with ⟨v,rfl,x,rfl,hv⟩|⟨v,rfl,x,rfl,hv⟩
  ·exact hn v w2 hv
  ·exact hn v w2 hv
 ·rename_i v w1 heq
  rw[heq]
  obtain ⟨x,rfl,hv⟩:=hg
  exact hn v w1 hv
 ·exact hg.elim
theorem pan_goes {x:AV} {h':AHeap} {v':Value} {w':World} (hv:Comes1 ι h w x h' v' w') (hrun:(execOp a'.eval o).run P w=.halt (.panic v') w'):OpGoes P o a' w ι h (.pan x h'):=by
 intro a3 next Q hn
 rw[hrun]
 exact hn v' w' hv
theorem optSome {α β:Type} {x:Option α} {f:α→β} {b:β} (h:x.map f=some b):∃y,x=some y∧f y=b:=by
 cases x with
 | none=>cases h
 | some y=>exact ⟨y,rfl,by simpa using h⟩
theorem builtin_run {cl:Call} {b:Builtin} (ho:o.op=.call cl) (hc:cl.callee=.builtin b):(execOp a'.eval o).run P w=(builtin b cl.argTypes o.type (cl.args.map fun|.const _=>true|_=>false) (cl.args.map a'.eval)).run P w:=by
 simp only[execOp,ho,resolve,hc,Sem.run_bind,Sem.run_pure,Result.andThen_ok,invoke]
 rfl
theorem args1 {cl:Call} {x:Operand} (h:cl.args.toList=[x]) (f:Operand→Value):cl.args.map f=#[f x]:=by
 apply Array.ext';simp [h]
theorem args2 {cl:Call} {x y:Operand} (h:cl.args.toList=[x,y]) (f:Operand→Value):cl.args.map f=#[f x,f y]:=by
 apply Array.ext';simp [h]
theorem tys2 {cl:Call} {x y:TypeId} (h:cl.argTypes.toList=[x,y]):cl.argTypes=#[x,y]:=by
 apply Array.ext';simp [h]
theorem givesV_ok {cl:Call} {b:Builtin} {run:Sem Value} {x:AV} {h':AHeap} (ho:o.op=.call cl) (hc:cl.callee=.builtin b) (hb:∀cs:Array Bool,(builtin b cl.argTypes o.type cs (cl.args.map a'.eval)).run P w=(run.run P w).andThen fun v w'=>.ok (.value v) w') (hg:GivesV P w ι h run x h'):OpOk P o a' w ι h x h':=by
 obtain ⟨v',w',ι',h1,h2,h3,h4⟩:=hg
 refine ⟨.value v',w',ι',v',?_,.inl rfl,h2,h3,h4⟩
 rw[builtin_run ho hc,hb,h1]
 rfl
theorem zeroOf_info {t:TypeId} {z:AV} (hz:zeroOf P t=some z):∃i v,P.info? t=some i∧i.zero=some v∧toA 3 v=some z:=by
 unfold zeroOf at hz
 cases e:P.info? t with
 | none=>rw[e] at hz;cases hz
 | some i=>
  rw[e] at hz
  simp only at hz
  cases e2:i.zero with
  | none=>rw[e2] at hz;cases hz
  | some v=>rw[e2] at hz;exact ⟨i,v,rfl,e2,hz⟩
theorem ok_append (c:Ctx P nt ι h w a a') {cl:Call} {ts tx e:TypeId} {d:TypeDesc} {s x:Operand} {s' x':Opd} (ho:o.op=.call cl) (hc:cl.callee=.builtin .append) (hca:cl.args.toList=[s,x]) (hct:cl.argTypes.toList=[ts,tx]) (hts:P.underlying ts=some (.slice e)) (htx:P.underlying tx=some d)
  (hd:(∃e2,d=.slice e2)∨d=.string) {es:Nat} (hes:szOf P e=some es) {i:TypeInfo} (hi:P.info? e=some i) {z:AV} (hz:zeroOf P e=some z) (hzl:z.cells.length=es) (hs:cOpd P s=some s') (hx:cOpd P x=some x') {n:Nat} {new:List AV} (hel:elems h es (a.eval x')=some (n,new))
  {r:AV} {h':AHeap} (he:appendA h (mdApp P e es d) es i.bytes (a.eval s') n new=some (r,h')):OpOk P o a' w ι h r h':=by
 obtain ⟨i2,zv,q1,q2,q3⟩:=zeroOf_info hz
 rw[hi] at q1
 cases q1
 have hzv:VR ι (infoOf h.get) (wsz w) z zv:=toA_rel 3 zv z q3
 have hzs:zv.cells.size=es:=by have:=hzv.cells.length;simp at this;omega
 obtain ⟨e1,l,e2,e3⟩:=elems_rel (P:=P) c.rel (c.opd hx) hel
 have hll:l.length=n*es:=by
  unfold appendA at he
  cases hc0:(!(new.length.beq (n*es))||!allFlat new) with
  | true=>rw[hc0] at he;cases he
  | false=>
   simp only[Bool.or_eq_false_iff,Bool.not_eq_false'] at hc0
   rw[←e2.length];exact Nat.eq_of_beq_eq_true hc0.1
 have htake:l.take (n*es)=l:=List.take_of_length_le (by omega)
 have hf:∀w2:World,w2.heap=w.heap→(Builtin.firstCells es n (a'.eval x)).run P w2=.ok l.toArray w2:=fun w2 hh=>by
  have:=e3 w2 n hh (Nat.le_refl _)
  rwa[htake] at this
 have hmd:(mdApp P e es d).mine=true∧∀t,mdApp P e es d=.tag t→e=t∧es≠0:=by
  unfold mdApp
  split
  ·split
   ·cases q:es.beq 1 with
    | true=>exact ⟨rfl,fun t e=>by cases e;exact ⟨rfl,by have:=Nat.eq_of_beq_eq_true q;omega⟩⟩
    | false=>exact ⟨rfl,fun t e=>by cases e⟩
   ·exact ⟨rfl,fun t e=>by cases e⟩
  ·exact ⟨rfl,fun t e=>by cases e⟩
 refine givesV_ok ho hc (run:=Builtin.append_ #[ts,tx] o.type #[a'.eval s,a'.eval x]) (fun cs=>?_) ?_
 ·rw[args2 hca,tys2 hct];simp only[builtin,Sem.run_bind];rfl
 ·refine append_sound c.rel hmd.1 (fun t e=>(hmd.2 t e).2) (run:=fun v=>Builtin.append_ #[ts,tx] o.type #[v,a'.eval x]) e2 ?_ ?_ ?_ (c.opd hs) he
  ·intro ad sLen sCap w' hcap hst
   exact run_append_in w hts htx hes hd e1 (hf w rfl) hcap hst
  ·intro sLen sCap hcap
   exact run_append_in_nil w hts htx hes hd e1 (hf w rfl) hcap
  ·intro base sLen sCap old hg h1 h2 hold
   obtain ⟨newCap,g1,g2⟩:=run_append_grow' (ty:=o.type) w hts htx hes hi q2 hd e1 hf hg h1 h2 hold
   exact ⟨newCap,e,(fun t e=>(hmd.2 t e).1),_,g1,by rw[zeroCells_size,hzs],g2⟩
theorem ok_appendz (c:Ctx P nt ι h w a a') {cl:Call} {ts tx e:TypeId} {kx:IntKind} {s x:Operand} {s' x':Opd} (ho:o.op=.call cl) (hc:cl.callee=.builtin .append) (hca:cl.args.toList=[s,x]) (hct:cl.argTypes.toList=[ts,tx]) (hts:P.underlying ts=some (.slice e)) (htx:P.underlying tx=some (.int kx))
  {es:Nat} (hes:szOf P e=some es) {i:TypeInfo} (hi:P.info? e=some i) {z:AV} (hz:zeroOf P e=some z) (hzl:z.cells.length=es) (hpos:0<es) (hs:cOpd P s=some s') (hx:cOpd P x=some x') {m:Int} (hm:a.eval x'=.int .i64 m) (h0:0≤m) (h1:m≤(room:Int)) (h2:m*(i.bytes:Int)≤(room:Int))
  {r:AV} {h':AHeap} (he:appendA h .own es i.bytes (a.eval s') m.toNat (repl z.cells m.toNat)=some (r,h')):OpOk P o a' w ι h r h':=by
 obtain ⟨i2,zv,q1,q2,q3⟩:=zeroOf_info hz
 rw[hi] at q1
 cases q1
 have hzv:VR ι (infoOf h.get) (wsz w) z zv:=toA_rel 3 zv z q3
 have hzs:zv.cells.size=es:=by have:=hzv.cells.length;simp at this;omega
 have g:=c.opd hx
 rw[hm] at g
 simp only[VR] at g
 have hrel:VRL ι (infoOf h.get) (wsz w) (repl z.cells m.toNat) (Builtin.zeroCells zv.cells m.toNat).toList:=by
  have:=repl_rel hzv.cells (by omega) m.toNat (m.toNat*zv.cells.size) rfl
  exact this
 refine givesV_ok ho hc (run:=Builtin.append_ #[ts,tx] o.type #[a'.eval s,a'.eval x]) (fun cs=>?_) ?_
 ·rw[args2 hca,tys2 hct];simp only[builtin,Sem.run_bind];rfl
 ·rw[g]
  refine append_sound c.rel (md:=.own) rfl (fun t e=>by cases e) (run:=fun v=>Builtin.append_ #[ts,tx] o.type #[v,.int .i64 m]) hrel ?_ ?_ ?_ (c.opd hs) he
  ·intro ad sLen sCap w' hcap hst
   exact run_appendz_in w hts htx hes hi q2 h0 h1 h2 hpos hzs hcap hst
  ·intro sLen sCap hcap
   exact run_appendz_in_nil w hts htx hes hi q2 h0 h1 h2 hpos hzs hcap
  ·intro base sLen sCap old hg g1 g2 hold
   obtain ⟨newCap,g3,g4⟩:=run_appendz_grow (ty:=o.type) (k:=.i64) w hts htx hes hi q2 h0 h1 h2 hpos hzs hg g1 g2 hold
   exact ⟨newCap,e,(fun t e=>by cases e),_,g3,by rw[zeroCells_size,hzs],by simpa using g4⟩
theorem ok_copy (c:Ctx P nt ι h w a a') {cl:Call} {td ts e:TypeId} {d s:Operand} {d' s':Opd} (ho:o.op=.call cl) (hc:cl.callee=.builtin .copy) (hca:cl.args.toList=[d,s]) (hct:cl.argTypes.toList=[td,ts]) (htd:P.underlying td=some (.slice e)) {es:Nat} (hes:szOf P e=some es) (hd:cOpd P d=some d') (hs:cOpd P s=some s')
  {n:Nat} {cs:List AV} (hel:elems h es (a.eval s')=some (n,cs)) {r:AV} {h':AHeap}
  (hr:(a.eval d'=.nilSlice∧r=.int .i64 0∧h'=h)∨∃b off len cap ex,a.eval d'=.slice b off len cap ex∧((Nat.min n len=0∧r=.int .i64 0∧h'=h)∨
   (0<Nat.min n len∧∃ver es' vs vs',h.get b=some ⟨ver,.cells .own es' vs⟩∧allFlat (cs.take (Nat.min n len*es))=true∧lay vs off (cs.take (Nat.min n len*es))=some vs'∧r=.int .i64 (Nat.min n len)∧h'=h.upd b (ver+1) (.cells .own es' vs')))):OpOk P o a' w ι h r h':=by
 obtain ⟨e1,l,e2,e3⟩:=elems_rel (P:=P) c.rel (c.opd hs) hel
 have g:=c.opd hd
 refine givesV_ok ho hc (run:=Builtin.copy_ #[td,ts] o.type #[a'.eval d,a'.eval s]) (fun cs=>?_) ?_
 ·rw[args2 hca,tys2 hct];simp only[builtin,Sem.run_bind];rfl
 have hrun:∀(base:Option Addr) (len cap:Nat) (w':World),a'.eval d=.slice base len cap→(match base with|some ad=>(storeCells ad (l.take (Nat.min n len*es))).run P w=.ok () w'|none=>w'=w)→(Builtin.copy_ #[td,ts] o.type #[a'.eval d,a'.eval s]).run P w=.ok (.int .i64 (Nat.min n len)) w':=by
  intro base len cap w' hv hst
  have hf:=e3 w (Nat.min n len) rfl (Nat.min_le_left _ _)
  rw[hv]
  simp only[Builtin.copy_,arr20,arr21,Sem.run_bind,run_und w htd,Result.andThen_ok,e1,run_size w hes,hf]
  cases base with
  | none=>simp only at hst;subst hst;simp [goInt]
  | some ad=>simp only at hst;simp [goInt,hst]
 rcases hr with ⟨hr,rfl,rfl⟩|⟨b,off,len,cap,ex,hr,hr2⟩
 ·rw[hr] at g
  simp only[VR] at g
  exact ⟨_,w,ι,hrun none 0 0 w g rfl,Step.refl _ _ _,c.rel,by simp [VR]⟩
 ·rw[hr] at g
  rcases hr2 with ⟨h0,rfl,rfl⟩|⟨hpos,ver,es',vs,vs',hg,hflat,hlay,rfl,rfl⟩
  ·simp only[VR] at g
   obtain ⟨ad,cap',g1,_⟩:=g
   refine ⟨_,w,ι,hrun (some ad) len cap' w g1 (by rw[h0];simp [storeCells]),Step.refl _ _ _,c.rel,?_⟩
   simp [VR,h0]
  ·have hlc:len≤cap:=by simp only[VR] at g;obtain ⟨_,_,_,hlc,_⟩:=g;exact hlc
   have hl0:Nat.min n len≤len:=Nat.min_le_right _ _
   obtain ⟨cc,p,cap',g1,g2,_⟩:=c.slice g hg (by simp) (.inr (by omega))
   obtain ⟨w',q1,q2,q3⟩:=c.rel.storeRow (P:=P) (ver':=ver+1) (md:=.own) rfl hg g1 hlay (e2.take _) hflat
   exact ⟨_,w',ι,hrun _ len cap' w' g2 q1,q2,q3,by simp [VR]⟩
theorem ok_mx (c:Ctx P nt ι h w a a') {cl:Call} {isMax:Bool} {x:Operand} {xs:List Operand} {x':Opd} {xs':List Opd} (ho:o.op=.call cl) (hc:cl.callee=.builtin (if isMax then .max else .min)) (hca:cl.args.toList=x::xs) (hx:cOpd P x=some x') (hxs:mapO (cOpd P) xs=some xs') {r:AV} (hr:mxA isMax (a.eval x') (xs'.map a.eval)=some r):OpOk P o a' w ι h r h:=by
 obtain ⟨hl,hg⟩:=mapO_get hxs
 have hrel:VRL ι (infoOf h.get) (wsz w) (xs'.map a.eval) (xs.map a'.eval):=by
  refine VRL.of_get _ _ (by simp [hl]) fun i y v hy hv=>?_
  rw[List.getElem?_map] at hy hv
  cases e:xs[i]? with
  | none=>rw[e] at hv;cases hv
  | some q=>
   obtain ⟨q',e1,e2⟩:=hg i q e
   rw[e] at hv;rw[e1] at hy
   cases hv;cases hy
   exact c.opd e2
 have hint:xs'.map a.eval≠[]→∃k n,a.eval x'=.int k n:=by
  intro hne
  cases e:xs'.map a.eval with
  | nil=>exact absurd e hne
  | cons y ys=>
   rw[e] at hr
   generalize a.eval x'=u at hr
   cases u<;>first|exact ⟨_,_,rfl⟩|simp [mxA] at hr
 obtain ⟨v',e1,e2⟩:=mx_rel (P:=P) (w:=w) isMax _ _ _ _ r (c.opd hx) hrel hr hint
 refine ⟨.value v',w,ι,v',?_,.inl rfl,Step.refl _ _ _,c.rel,e2⟩
 rw[builtin_run ho hc]
 have hargs:(cl.args.map a'.eval).toList=a'.eval x::xs.map a'.eval:=by simp [hca]
 cases isMax
 ·simp only[Bool.false_eq_true,if_false] at e1 ⊢
  simp only[builtin,Sem.run_bind,Builtin.min_,hargs,e1,Result.andThen_ok,Sem.run_pure]
 ·simp only[if_true] at e1 ⊢
  simp only[builtin,Sem.run_bind,Builtin.max_,hargs,e1,Result.andThen_ok,Sem.run_pure]
theorem panic_run (c:Ctx P nt ι h w a a') {x:Operand} {x':Opd} (hx:cOpd P x=some x') {t:TypeId} {v:AV} (hv:a.eval x'=.iface t v) (hrun:(execOp a'.eval o).run P w=((Instr.panic (a'.eval x)).run P w).andThen fun v w'=>.ok (.value v) w'):OpGoes P o a' w ι h (.pan (.iface t v) h):=by
 have g:=c.opd hx
 rw[hv] at g
 have g2:=g
 simp only[VR] at g
 obtain ⟨v',g1,_⟩:=g
 refine pan_goes (v':=a'.eval x) (w':=w) ⟨ι,Step.refl _ _ _,c.rel,g2⟩ ?_
 rw[hrun,g1]
 simp [Instr.panic]
theorem defer_goes (c:Ctx P nt ι h w a a') {cl:Call} {f:Operand} {f':Opd} (ho:o.op=.defer cl) (hc:cl.callee=.value f) (hca:cl.args.toList=[]) (hf:cOpd P f=some f') {g:FuncId} {fs cs:List AV} (he:a.eval f'=.func (.func g) fs cs):OpGoes P o a' w ι h (.df g (fs++cs)):=by
 have q:=c.opd hf
 rw[he] at q
 simp only[VR] at q
 obtain ⟨fs',cs',q1,q2,q3⟩:=q
 intro a3 next Q hn
 have hargs:cl.args=#[]:=by apply Array.ext';simp [hca]
 have hrun:(execOp a'.eval o).run P w=.ok (.defer { target:=.fn (.func g) cs',args:=fs' }) w:=by
  simp only[execOp,ho,resolve,hc,hargs,Sem.run_bind,q1,Deferred.ofValue,Sem.run_pure,Result.andThen_ok]
  simp
 rw[hrun]
 exact hn _ ⟨cs',rfl,by rw[Array.toList_append];exact q2.append q3⟩
theorem callv_run {cl:Call} {f:Operand} {g:FuncId} {fs cs:Array Value} (ho:o.op=.call cl) (hc:cl.callee=.value f) (he:a'.eval f=.func (.func g) fs cs):(execOp a'.eval o).run P w=(callFunc g (fs++cl.args.map a'.eval++cs)).run P w:=by
 simp only[execOp,ho,resolve,hc,Sem.run_bind,he,Deferred.ofValue,Sem.run_pure,Result.andThen_ok,invoke]
end
end Go.Ev
