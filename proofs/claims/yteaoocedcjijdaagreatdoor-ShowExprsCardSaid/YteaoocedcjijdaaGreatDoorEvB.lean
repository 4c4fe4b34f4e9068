/- The law of every operation. -/
import Derived.Test.YteaoocedcjijdaaGreatDoorEvA
import Derived.LoopN
import Derived.Recover
import Derived.Orders
import Derived.Attr
set_option linter.all false
set_option linter.unusedVariables false
set_option linter.unusedSimpArgs false
namespace Go.Ev
open Go
section
variable {P:Program} {nt:Nat} {ι:Mp} {h h2:AHeap} {w:World} {a:AAct} {a':Act} {o:Oper} {call:FuncId→List AV→AHeap→Option (CRes×AHeap)} {mo:MOp} {res:Res}
theorem s_move (c:Ctx P nt ι h w a a') {x:Operand} (hop:o.op=.move x∨o.op=.assign x) (hc:(cOpd P x).map MOp.mov=some mo) (he:evOp call a mo h=some res):OpGoes P o a' w ι h res:=by
 obtain ⟨x',h1,rfl⟩:=optSome hc
 simp only[evOp,Option.some.injEq] at he
 subst he
 exact (ok_mov c hop h1).goes
theorem s_pick (c:Ctx P nt ι h w a a') {x y z:Operand} (hop:o.op=.pick x y z) (hc:cOp P o=some mo) (he:evOp call a mo h=some res):OpGoes P o a' w ι h res:=by
 simp only[cOp,hop] at hc
 split at hc
 ·rename_i h1 h2 h3
  cases hc
  simp only[evOp] at he
  split at he
  ·rename_i b hb
   cases he
   exact (ok_pick c hop h1 h2 h3 hb).goes
  ·cases he
 ·cases hc
def IsNew (P:Program) (o:Oper) (a':Act) (w:World) (ι:Mp) (h h2:AHeap) (res:Res):Prop:=
 ∃mk ob,res=.v (mk h2.n) (h2.alloc ob) .new∧NewOk P o a' w ι h mk ob
theorem IsNew.goes (c:Ctx P nt ι h w a a') (n:IsNew P o a' w ι h h res):OpGoes P o a' w ι h res:=by
 obtain ⟨mk,ob,rfl,n⟩:=n
 exact (n.ok c.rel).goes
theorem s_alloc (c:Ctx P nt ι h w a a') {t:TypeId} (hop:o.op=.alloc t) (hc:cOp P o=some mo) (he:evOp call a mo h2=some res):IsNew P o a' w ι h h2 res:=by
 simp only[cOp,hop] at hc
 obtain ⟨z,h1,rfl⟩:=optSome hc
 simp only[evOp,Option.some.injEq] at he
 exact ⟨_,_,he.symm,ok_new c hop h1⟩
theorem s_box (c:Ctx P nt ι h w a a') {t:TypeId} {x:Operand} (hop:o.op=.box t x) (hc:cOp P o=some mo) (he:evOp call a mo h2=some res):IsNew P o a' w ι h h2 res:=by
 simp only[cOp,hop] at hc
 obtain ⟨x',h1,rfl⟩:=optSome hc
 simp only[evOp] at he
 cases e:allFlat (a.eval x').cells with
 | false=>rw[e] at he;cases he
 | true=>rw[e] at he;cases he;exact ⟨_,_,rfl,ok_box c hop h1⟩
theorem s_build (c:Ctx P nt ι h w a a') {t:TypeId} {ps:Array (Nat×Operand)} (hop:o.op=.build t ps) (hc:cOp P o=some mo) (he:evOp call a mo h=some res):OpGoes P o a' w ι h res:=by
 simp only[cOp,hop] at hc
 split at hc
 ·rename_i fs z ht hz
  cases hall:fs.toList.all (fun f=>(szOf P f.type).isSome) with
  | false=>rw[hall] at hc;cases hc
  | true=>
   rw[hall] at hc
   simp only[Bool.not_true,cond_false] at hc
   obtain ⟨ps',h1,rfl⟩:=optSome hc
   simp only[evOp] at he
   split at he
   ·rename_i cs hf
    cases he
    exact (ok_build c hop ht hz hall h1 hf).goes
   ·cases he
 ·rename_i len e z ht hz
  split at hc
  ·rename_i s hs
   obtain ⟨ps',h1,rfl⟩:=optSome hc
   simp only[evOp] at he
   split at he
   ·rename_i cs hf
    cases he
    exact (ok_buildArr c hop ht hz hs h1 hf).goes
   ·cases he
  ·cases hc
 ·cases hc
theorem s_bslice (c:Ctx P nt ι h w a a') {t:TypeId} {len:Nat} {ps:Array (Nat×Operand)} (hop:o.op=.buildSlice t len ps) (hc:cOp P o=some mo) (he:evOp call a mo h2=some res):IsNew P o a' w ι h h2 res:=by
 simp only[cOp,hop] at hc
 split at hc
 ·rename_i e ht
  split at hc
  ·rename_i s z hs hz
   cases hb:((s*len).ble 65536&&Nat.blt 0 s&&z.cells.length.beq s) with
   | false=>rw[hb] at hc;cases hc
   | true=>
    rw[hb] at hc
    simp only[Bool.and_eq_true] at hb
    obtain ⟨⟨b1,b2⟩,b3⟩:=hb
    simp only[cond_true] at hc
    obtain ⟨ps',h1,rfl⟩:=optSome hc
    simp only[evOp] at he
    split at he
    ·rename_i cs hf
     cases e2:allFlat cs with
     | false=>rw[e2] at he;cases he
     | true=>
      rw[e2] at he
      cases he
      exact ⟨_,_,rfl,ok_bslice c hop ht hs hz (Nat.le_of_ble_eq_true b1) (by simpa [Nat.blt_eq] using b2) (Nat.eq_of_beq_eq_true b3) h1 hf⟩
    ·cases he
  ·cases hc
 ·cases hc
theorem s_load (c:Ctx P nt ι h w a a') {t:TypeId} {x:Operand} (hop:o.op=.load t x) (hc:cOp P o=some mo) (he:evOp call a mo h=some res):OpGoes P o a' w ι h res:=by
 simp only[cOp,hop] at hc
 have key:∀(b:Bool) (n:Nat) (x':Opd),aggOf P t=some b→szOf P t=some n→cOpd P x=some x'→evOp call a (.load b n x') h=some res→OpGoes P o a' w ι h res:=by
  intro b n x' hb hn hx he
  simp only[evOp] at he
  split at he
  ·rename_i bk off hp
   split at he
   ·rename_i ver md es vs hg
    cases b with
    | true=>
     simp only[cond_true] at he
     split at he
     ·rename_i cs hr
      cases he
      exact (ok_load c hop hx hb hn hp hg (by simp [hr])).goes
     ·cases he
    | false=>
     simp only[cond_false] at he
     split at he
     ·rename_i v hr
      cases he
      exact (ok_load c hop hx hb hn hp hg (by simpa using hr)).goes
     ·cases he
   ·cases he
  ·cases he
 split at hc
 ·rename_i n x' hb hn hx
  cases hc
  exact key true n x' hb hn hx he
 ·rename_i n x' hb hn hx
  cases e:n.beq 1 with
  | false=>rw[e] at hc;cases hc
  | true=>
   rw[e] at hc
   cases hc
   have:n=1:=Nat.eq_of_beq_eq_true e
   subst this
   exact key false 1 x' hb hn hx he
 ·cases hc
theorem s_store (c:Ctx P nt ι h w a a') {t:TypeId} {x y:Operand} (hop:o.op=.store t x y) (hc:cOp P o=some mo) (he:evOp call a mo h=some res):OpGoes P o a' w ι h res:=by
 simp only[cOp,hop] at hc
 split at hc
 ·rename_i n x' y' hn hx hy
  cases hc
  simp only[evOp] at he
  split at he
  ·rename_i b off hp
   cases hb:(!((a.eval y').cells.length.beq n)||!allFlat (a.eval y').cells) with
   | true=>rw[hb] at he;cases he
   | false=>
    rw[hb] at he
    simp only[Bool.or_eq_false_iff,Bool.not_eq_false'] at hb
    simp only[cond_false] at he
    split at he
    ·rename_i ver md es vs hg
     split at he
     ·rename_i vs' hm hl
      cases he
      exact (ok_store c hop hx hy hn hp (Nat.eq_of_beq_eq_true hb.1) hb.2 hm hg hl _).goes
     ·cases he
    ·cases he
  ·cases he
 ·cases hc
theorem s_nilck (c:Ctx P nt ι h w a a') {x:Operand} (hop:o.op=.nilCheck x) (hc:cOp P o=some mo) (he:evOp call a mo h=some res):OpGoes P o a' w ι h res:=by
 simp only[cOp,hop] at hc
 obtain ⟨x',h1,rfl⟩:=optSome hc
 simp only[evOp] at he
 split at he
 ·rename_i b off hp
  cases he
  rw[←hp]
  exact (ok_nilck c hop h1 (.inl ⟨b,off,hp⟩)).goes
 ·rename_i t v hp
  cases he
  rw[←hp]
  exact (ok_nilck c hop h1 (.inr ⟨t,v,hp⟩)).goes
 ·cases he
theorem s_bin (c:Ctx P nt ι h w a a') {op:BinOp} {t t2:TypeId} {x y:Operand} (hop:o.op=.binOp op t x y t2) (hc:cOp P o=some mo) (he:evOp call a mo h=some res):OpGoes P o a' w ι h res:=by
 have kbin:∀x' y',cOpd P x=some x'→cOpd P y=some y'→evOp call a (.bin op x' y') h=some res→OpGoes P o a' w ι h res:=by
  intro x' y' hx hy he
  simp only[evOp] at he
  split at he
  ·rename_i v hr
   cases he
   exact (ok_bin c hop hx hy hr).goes
  ·cases he
 have keq:∀x' y' neg k,cOpd P x=some x'→cOpd P y=some y'→op=(if neg then .neq else .eql)→ktFits P t k→(∀d,P.underlying t=some d→(∀kk,d≠.int kk)∧d≠.string)→(k=.one .iface→isNilC x=true∨isNilC y=true)→((∃ks,k=.many ks)→P.eqGuardType P.depth t=false)→
   evOp call a (.eqv neg k x' y') h=some res→OpGoes P o a' w ι h res:=by
  intro x' y' neg k hx hy hopn hk hns hnil hagg he
  simp only[evOp] at he
  split at he
  ·rename_i b hb
   cases he
   exact (ok_eqv c hopn hop hx hy hk hns hnil hagg hb).goes
  ·cases he
 simp only[cOp,hop] at hc
 split at hc
 ·rename_i x' y' hx hy
  split at hc
  ·cases hc;exact kbin x' y' hx hy he
  ·cases hc;exact kbin x' y' hx hy he
  ·rename_i u hni hns hu
   have hns':∀d,P.underlying t=some d→(∀kk,d≠.int kk)∧d≠.string:=by
    intro d hd
    rw[hu] at hd
    cases hd
    exact ⟨fun kk e=>by subst e;exact hni _ rfl,fun e=>by subst e;exact hns rfl⟩
   split at hc
   ·cases hc
   ·rename_i neg hneg
    have hopn:op=if neg then .neq else .eql:=by
     cases op<;>simp at hneg<;>subst hneg<;>rfl
    split at hc
    ·cases hc
     exact keq x' y' neg (.one .bool) hx hy hopn hu hns' (fun e=>by cases e) (fun ⟨_,e⟩=>by cases e) he
    ·rename_i ms
     cases hn:(isNilC x||isNilC y) with
     | false=>rw[hn] at hc;cases hc
     | true=>
      rw[hn] at hc
      cases hc
      exact keq x' y' neg (.one .iface) hx hy hopn ⟨ms,hu⟩ hns' (fun _=>by simpa using hn) (fun ⟨_,e⟩=>by cases e) he
    ·rename_i e
     cases hc
     exact keq x' y' neg (.one .ptr) hx hy hopn ⟨e,hu⟩ hns' (fun e=>by cases e) (fun ⟨_,e⟩=>by cases e) he
    ·rename_i e
     cases hc
     exact keq x' y' neg (.one .slice) hx hy hopn ⟨e,hu⟩ hns' (fun e=>by cases e) (fun ⟨_,e⟩=>by cases e) he
    ·rename_i k e
     cases hc
     exact keq x' y' neg (.one .map) hx hy hopn ⟨k,e,hu⟩ hns' (fun e=>by cases e) (fun ⟨_,e⟩=>by cases e) he
    ·rename_i p q r
     cases hc
     exact keq x' y' neg (.one .func) hx hy hopn ⟨p,q,r,hu⟩ hns' (fun e=>by cases e) (fun ⟨_,e⟩=>by cases e) he
    ·rename_i fs
     cases hg:P.eqGuardType P.depth t with
     | true=>rw[hg] at hc;cases hc
     | false=>
      rw[hg] at hc
      simp only[Bool.not_false,cond_true] at hc
      obtain ⟨k,hk,rfl⟩:=optSome hc
      refine keq x' y' neg k hx hy hopn (ktOf_fits hk) hns' (fun e=>?_) (fun _=>hg) he
      subst e
      rcases ktOf_basic hk with e|e|e<;>cases e
    ·cases hc
  ·cases hc
 ·cases hc
theorem s_un (c:Ctx P nt ι h w a a') {op:UnOp} {t:TypeId} {x:Operand} (hop:o.op=.unOp op t x) (hc:cOp P o=some mo) (he:evOp call a mo h=some res):OpGoes P o a' w ι h res:=by
 simp only[cOp,hop] at hc
 obtain ⟨x',h1,rfl⟩:=optSome hc
 simp only[evOp] at he
 split at he
 ·rename_i v hr
  cases he
  exact (ok_un c hop h1 hr).goes
 ·cases he
theorem s_conv (c:Ctx P nt ι h w a a') {s d:TypeId} {x:Operand} (hop:o.op=.convert s d x) (hc:cOp P o=some mo) (he:evOp call a mo h=some res):OpGoes P o a' w ι h res:=by
 simp only[cOp,hop] at hc
 split at hc
 ·rename_i ks k hs hd
  obtain ⟨x',h1,rfl⟩:=optSome hc
  simp only[evOp] at he
  split at he
  ·rename_i k' n hn
   cases he
   exact (ok_cvi c hop h1 hs hd hn).goes
  ·cases he
 ·rename_i hs hd
  obtain ⟨x',h1,rfl⟩:=optSome hc
  simp only[evOp] at he
  split at he
  ·rename_i l hl
   cases he
   rw[←hl]
   exact (ok_cvs c hop h1 hs hd hl).goes
  ·cases he
 ·rename_i e hs hd
  split at hc
  ·rename_i he8
   obtain ⟨x',h1,rfl⟩:=optSome hc
   simp only[evOp] at he
   split at he
   ·rename_i hp
    cases he
    exact (ok_cvbs c hop h1 hs hd he8 (.inl ⟨hp,rfl⟩)).goes
   ·rename_i b off len cap ex hp
    cases h0:len.beq 0 with
    | true=>
     rw[h0] at he
     have:len=0:=Nat.eq_of_beq_eq_true h0
     subst this
     cases he
     exact (ok_cvbs c hop h1 hs hd he8 (.inr (.inl ⟨b,off,cap,ex,hp,rfl⟩))).goes
    | false=>
     rw[h0] at he
     simp only[cond_false] at he
     have hpos:0<len:=by
      rcases Nat.eq_zero_or_pos len with e0|e0
      ·subst e0;simp at h0
      ·exact e0
     split at he
     ·rename_i ver md es vs hg
      split at he
      ·rename_i cs hr
       split at he
       ·rename_i s hb
        cases he
        exact (ok_cvbs c hop h1 hs hd he8 (.inr (.inr ⟨b,off,len,cap,ex,ver,es,md,vs,cs,hp,hg,hpos,hr,hb⟩))).goes
       ·cases he
      ·cases he
     ·cases he
   ·cases he
  ·cases hc
 ·cases hc
theorem s_mkif (c:Ctx P nt ι h w a a') {t:TypeId} {x:Operand} (hop:o.op=.makeInterface t x) (hc:cOp P o=some mo) (he:evOp call a mo h=some res):OpGoes P o a' w ι h res:=by
 simp only[cOp,hop] at hc
 split at hc
 ·cases hc
 ·rename_i d hni hd
  obtain ⟨x',h1,rfl⟩:=optSome hc
  simp only[evOp,Option.some.injEq] at he
  subst he
  exact (ok_mkif c hop h1 hd (fun ms e=>by subst e;exact hni _ rfl)).goes
 ·cases hc
theorem s_mkfn (c:Ctx P nt ι h w a a') {fn:Fn} {fs cs:Array Operand} (hop:o.op=.makeFunc fn fs cs) (hc:cOp P o=some mo) (he:evOp call a mo h=some res):OpGoes P o a' w ι h res:=by
 simp only[cOp,hop] at hc
 split at hc
 ·rename_i fs' cs' h1 h2
  cases hc
  simp only[evOp,Option.some.injEq] at he
  subst he
  exact (ok_mkfn c hop h1 h2).goes
 ·cases hc
theorem s_mkmap (c:Ctx P nt ι h w a a') {t:TypeId} {x:Option Operand} (hop:o.op=.makeMap t x) (hc:cOp P o=some mo) (he:evOp call a mo h2=some res):IsNew P o a' w ι h h2 res:=by
 cases x with
 | none=>
  simp only[cOp,hop,Option.some.injEq] at hc
  subst hc
  simp only[evOp,Option.some.injEq] at he
  subst he
  exact ⟨_,_,rfl,ok_mkmap c hop (.inl rfl)⟩
 | some x=>
  cases x with
  | tmp _=>simp [cOp,hop] at hc
  | global _=>simp [cOp,hop] at hc
  | func _=>simp [cOp,hop] at hc
  | const v=>
   cases v<;>try (simp [cOp,hop] at hc;done)
   rename_i k n
   simp only[cOp,hop] at hc
   split at hc
   ·rename_i kt e ht
    cases hc
    simp only[evOp,Option.some.injEq] at he
    subst he
    exact ⟨_,_,rfl,ok_mkmap c hop (.inr ⟨⟨k,n,rfl⟩,kt,e,ht⟩)⟩
   ·cases hc
theorem optBytes {e:TypeId} {b:Nat} (h:(P.info? e).map (·.bytes)=some b):∃i,P.info? e=some i∧i.bytes=b:=by
 cases e2:P.info? e with
 | none=>rw[e2] at h;cases h
 | some i=>rw[e2] at h;exact ⟨i,rfl,by simpa using h⟩
theorem s_mkslice (c:Ctx P nt ι h w a a') {t:TypeId} {x y:Operand} (hop:o.op=.makeSlice t x y) (hc:cOp P o=some mo) (he:evOp call a mo h2=some res):IsNew P o a' w ι h h2 res:=by
 simp only[cOp,hop] at hc
 split at hc
 ·rename_i e x' y' ht hx hy
  split at hc
  ·rename_i s b z hs hb hz
   cases hq:(Nat.blt 0 s&&z.cells.length.beq s) with
   | false=>rw[hq] at hc;cases hc
   | true=>
    rw[hq] at hc
    simp only[Bool.and_eq_true] at hq
    cases hc
    obtain ⟨i,hi,rfl⟩:=optBytes hb
    simp only[evOp] at he
    split at he
    ·rename_i k1 l k2 m h1 h2
     cases hr:(decide (0≤l)&&decide (l≤m)&&decide (m≤(room:Int))&&decide (m*(i.bytes:Int)≤(room:Int))) with
     | false=>rw[hr] at he;cases he
     | true=>
      rw[hr] at he
      simp only[Bool.and_eq_true,decide_eq_true_eq] at hr
      cases he
      exact ⟨_,_,rfl,ok_mkslice c ht hs hi hz (by simpa [Nat.blt_eq] using hq.1) (Nat.eq_of_beq_eq_true hq.2) hop hx hy h1 h2 hr.1.1.1 hr.1.1.2 hr.1.2 hr.2⟩
    ·cases he
  ·cases hc
 ·cases hc
theorem s_slice (c:Ctx P nt ι h w a a') {t:TypeId} {x:Operand} {lo hi mx:Option Operand} (hop:o.op=.slice t x lo hi mx) (hc:cOp P o=some mo) (he:evOp call a mo h=some res):OpGoes P o a' w ι h res:=by
 simp only[cOp,hop] at hc
 split at hc
 ·rename_i e x' lo' hi' mx' ht hx hl hh hm
  split at hc
  ·rename_i s hs
   have key:(mx'.isSome=true→hi'.isSome=true)→evOp call a (.slc s x' lo' hi' mx') h=some res→OpGoes P o a' w ι h res:=by
    intro hmh he
    simp only[evOp] at he
    split at he
    ·rename_i hp
     split at he
     ·rename_i m h1
      split at he
      ·rename_i n h2
       split at he
       ·rename_i l h3
        cases he
        exact (ok_slc_nil c ht hs hop hx hl hh hm hmh hp h1 h2 h3).goes
       ·cases he
      ·cases he
     ·cases he
    ·rename_i b off len cap ex hp
     split at he
     ·rename_i m h1
      split at he
      ·rename_i n h2
       split at he
       ·rename_i l h3
        cases hex:ex with
        | true=>
         subst hex
         simp only[Bool.true_or,cond_true,Option.some.injEq] at he
         subst he
         exact (ok_slc c ht hs hop hx hl hh hm hmh hp h1 h2 h3 (.inl ⟨rfl,rfl⟩)).goes
        | false=>
         subst hex
         simp only[Bool.false_or,cond_false] at he
         cases hc0:cap.beq 0 with
         | true=>rw[hc0] at he;cases he
         | false=>
          rw[hc0] at he
          simp only[cond_false] at he
          have hpos:0<cap:=by
           rcases Nat.eq_zero_or_pos cap with e0|e0
           ·subst e0;simp at hc0
           ·exact e0
          cases hml:(m.beq l&&mx'.isSome) with
          | true=>
           rw[hml] at he
           simp only[Bool.and_eq_true] at hml
           simp only[cond_true] at he
           cases hl0:l.beq 0 with
           | false=>rw[hl0] at he;cases he
           | true=>
            rw[hl0] at he
            cases he
            exact (ok_slc c ht hs hop hx hl hh hm hmh hp h1 h2 h3 (.inr ⟨rfl,hpos,.inl ⟨Nat.eq_of_beq_eq_true hml.1,hml.2,Nat.eq_of_beq_eq_true hl0,rfl⟩⟩)).goes
          | false=>
           rw[hml] at he
           simp only[cond_false] at he
           split at he
           ·rename_i ver md es' vs hg
            cases hes:es'.beq s with
            | false=>rw[hes] at he;cases he
            | true=>
             rw[hes] at he
             have hes':es'=s:=Nat.eq_of_beq_eq_true hes
             subst hes'
             cases he
             refine (ok_slc c ht hs hop hx hl hh hm hmh hp h1 h2 h3 (.inr ⟨rfl,hpos,.inr ⟨?_,⟨ver,md,vs,hg⟩,rfl⟩⟩)).goes
             rintro ⟨e1,e2⟩
             rw[beqT e1,e2] at hml
             cases hml
           ·cases he
       ·cases he
      ·cases he
     ·cases he
    ·cases he
   split at hc
   ·cases hc
   ·rename_i hno
    cases hc
    refine key (fun hms=>?_) he
    cases hi' with
    | some _=>rfl
    | none=>
     cases mx' with
     | none=>cases hms
     | some q=>exact absurd rfl (hno q rfl)
  ·cases hc
 ·rename_i alen e x' lo' hi' mx' ht hx hl hh hm
  split at hc
  ·rename_i s hs
   have key:(mx'.isSome=true→hi'.isSome=true)→evOp call a (.slarr alen s x' lo' hi' mx') h=some res→OpGoes P o a' w ι h res:=by
    intro hmh he
    simp only[evOp] at he
    split at he
    ·rename_i b off hp
     split at he
     ·rename_i m h1
      split at he
      ·rename_i n h2
       split at he
       ·rename_i l h3
        cases he
        exact (ok_slarr c ht hs hop hx hl hh hm hmh hp h1 h2 h3).goes
       ·cases he
      ·cases he
     ·cases he
    ·cases he
   split at hc
   ·cases hc
   ·rename_i hno
    cases hc
    refine key (fun hms=>?_) he
    cases hi' with
    | some _=>rfl
    | none=>
     cases mx' with
     | none=>cases hms
     | some q=>exact absurd rfl (hno q rfl)
  ·cases hc
 ·rename_i x' lo' hi' ht hx hl hh hm
  cases hc
  have hmx:mx=none:=by
   cases mx with
   | none=>rfl
   | some q=>
    simp only[cOpt] at hm
    cases e:cOpd P q with
    | none=>rw[e] at hm;cases hm
    | some q'=>rw[e] at hm;cases hm
  subst hmx
  simp only[evOp] at he
  split at he
  ·rename_i s hp
   split at he
   ·rename_i n h2
    split at he
    ·rename_i l h3
     cases he
     exact (ok_sls c ht hop hx hl hh hp h2 h3).goes
    ·cases he
   ·cases he
  ·cases he
 ·cases hc
theorem s_faddr (c:Ctx P nt ι h w a a') {t:TypeId} {x:Operand} {f:Nat} (hop:o.op=.fieldAddr t x f) (hc:cOp P o=some mo) (he:evOp call a mo h=some res):OpGoes P o a' w ι h res:=by
 simp only[cOp,hop] at hc
 split at hc
 ·rename_i fs x' ht hx
  split at hc
  ·rename_i fd hf
   split at hc
   ·rename_i n hn
    cases hc
    simp only[evOp] at he
    split at he
    ·rename_i b off hp
     cases he
     exact (ok_faddr c hop hx ht hf hn hp).goes
    ·cases he
   ·cases hc
  ·cases hc
 ·cases hc
theorem s_fld (c:Ctx P nt ι h w a a') {t:TypeId} {x:Operand} {f:Nat} (hop:o.op=.field t x f) (hc:cOp P o=some mo) (he:evOp call a mo h=some res):OpGoes P o a' w ι h res:=by
 simp only[cOp,hop] at hc
 split at hc
 ·rename_i fs x' ht hx
  split at hc
  ·rename_i fd hf
   split at hc
   ·rename_i b n hb hn
    cases hc
    simp only[evOp] at he
    split at he
    ·rename_i cs hp
     cases b with
     | true=>
      simp only[cond_true] at he
      split at he
      ·rename_i r hr
       cases he
       exact (ok_fld c hop hx ht hf hb hn hp (by simp [hr])).goes
      ·cases he
     | false=>
      simp only[cond_false] at he
      split at he
      ·rename_i r hr
       cases he
       exact (ok_fld c hop hx ht hf hb hn hp (by simpa using hr)).goes
      ·cases he
    ·cases he
   ·cases hc
  ·cases hc
 ·cases hc
theorem s_iaddr (c:Ctx P nt ι h w a a') {t:TypeId} {x i:Operand} (hop:o.op=.indexAddr t x i) (hc:cOp P o=some mo) (he:evOp call a mo h=some res):OpGoes P o a' w ι h res:=by
 simp only[cOp,hop] at hc
 split at hc
 ·rename_i e x' i' ht hx hi
  split at hc
  ·rename_i s hs
   cases hc
   simp only[evOp] at he
   split at he
   ·rename_i b off len cap ex k n hp hn
    cases hr:(decide (0≤n)&&decide (n<(len:Int))) with
    | false=>rw[hr] at he;cases he
    | true=>
     rw[hr] at he
     simp only[Bool.and_eq_true,decide_eq_true_eq] at hr
     cases he
     exact (ok_iaddr c hop hx hi ht hs hp hn hr.1 hr.2).goes
   ·cases he
  ·cases hc
 ·rename_i alen e x' i' ht hx hi
  split at hc
  ·rename_i s hs
   cases hc
   simp only[evOp] at he
   split at he
   ·rename_i b off k n hp hn
    cases hr:(decide (0≤n)&&decide (n<(alen:Int))) with
    | false=>rw[hr] at he;cases he
    | true=>
     rw[hr] at he
     simp only[Bool.and_eq_true,decide_eq_true_eq] at hr
     cases he
     exact (ok_iarr c hop hx hi ht hs hp hn hr.1 hr.2).goes
   ·cases he
  ·cases hc
 ·cases hc
theorem s_index (c:Ctx P nt ι h w a a') {t:TypeId} {x i:Operand} (hop:o.op=.index t x i) (hc:cOp P o=some mo) (he:evOp call a mo h=some res):OpGoes P o a' w ι h res:=by
 simp only[cOp,hop] at hc
 split at hc
 ·rename_i x' i' ht hx hi
  cases hc
  simp only[evOp] at he
  split at he
  ·rename_i s k n hp hn
   cases hr:decide (0≤n) with
   | false=>rw[hr] at he;cases he
   | true=>
    rw[hr] at he
    simp only[decide_eq_true_eq] at hr
    simp only[cond_true] at he
    split at he
    ·rename_i u hu
     cases he
     exact (ok_idxs c hop hx hi ht hp hn hr hu).goes
    ·cases he
  ·cases he
 ·rename_i len e x' i' ht hx hi
  split at hc
  ·rename_i b m hb hm
   cases hc
   simp only[evOp] at he
   split at he
   ·rename_i cs k n hp hn
    cases hr:(decide (0≤n)&&decide (n<(len:Int))) with
    | false=>rw[hr] at he;cases he
    | true=>
     rw[hr] at he
     simp only[Bool.and_eq_true,decide_eq_true_eq] at hr
     simp only[cond_true] at he
     cases b with
     | true=>
      simp only[cond_true] at he
      split at he
      ·rename_i r hr2
       cases he
       exact (ok_idxa c hop hx hi ht hb hm hp hn hr.1 hr.2 (by simp [hr2])).goes
      ·cases he
     | false=>
      simp only[cond_false] at he
      split at he
      ·rename_i r hr2
       cases he
       exact (ok_idxa c hop hx hi ht hb hm hp hn hr.1 hr.2 (by simpa using hr2)).goes
      ·cases he
   ·cases he
  ·cases hc
 ·cases hc
theorem s_lookup (c:Ctx P nt ι h w a a') {t:TypeId} {m k:Operand} {ok:Bool} (hop:o.op=.lookup t m k ok) (hc:cOp P o=some mo) (he:evOp call a mo h=some res):OpGoes P o a' w ι h res:=by
 simp only[cOp,hop] at hc
 split at hc
 ·rename_i kt e m' k' ht hm hk
  split at hc
  ·rename_i z hz
   obtain ⟨kk,hkk,rfl⟩:=optSome hc
   simp only[evOp] at he
   cases hok:keyOk kk (a.eval k') with
   | false=>rw[hok] at he;cases he
   | true=>
    rw[hok] at he
    simp only[Bool.not_true,cond_false] at he
    split at he
    ·rename_i hp
     cases he
     exact (ok_lookup c ht hkk hz hop hm hk hok (.inl ⟨hp,rfl,rfl⟩)).goes
    ·rename_i r hp
     split at he
     ·rename_i ver es hg
      split at he
      ·rename_i v hf
       cases he
       exact (ok_lookup c ht hkk hz hop hm hk hok (.inr ⟨r,ver,es,hp,hg,.inl ⟨hf,rfl⟩⟩)).goes
      ·rename_i hf
       cases he
       exact (ok_lookup c ht hkk hz hop hm hk hok (.inr ⟨r,ver,es,hp,hg,.inr ⟨hf,rfl,rfl⟩⟩)).goes
      ·cases he
     ·cases he
    ·cases he
  ·cases hc
 ·cases hc
theorem s_mapupd (c:Ctx P nt ι h w a a') {t:TypeId} {m k x:Operand} (hop:o.op=.mapUpdate t m k x∨o.op=.insert t m k x) (hc:cMapUpd P t m k x=some mo) (he:evOp call a mo h=some res):OpGoes P o a' w ι h res:=by
 unfold cMapUpd at hc
 split at hc
 ·rename_i kt e m' k' x' ht hm hk hx
  obtain ⟨kk,hkk,rfl⟩:=optSome hc
  simp only[evOp] at he
  cases hok:keyOk kk (a.eval k') with
  | false=>rw[hok] at he;cases he
  | true=>
   rw[hok] at he
   simp only[Bool.not_true,cond_false] at he
   split at he
   ·rename_i r hp
    split at he
    ·rename_i ver es hg
     split at he
     ·rename_i es' hs
      cases he
      exact (ok_mapupd c ht hkk hop hm hk hx hok hp hg hs).goes
     ·cases he
    ·cases he
   ·cases he
 ·cases hc
theorem s_tassert (c:Ctx P nt ι h w a a') {x:Operand} {t to:TypeId} {ok:Bool} (hop:o.op=.typeAssert x t to ok) (hc:cOp P o=some mo) (he:evOp call a mo h=some res):OpGoes P o a' w ι h res:=by
 cases ok with
 | false=>simp [cOp,hop] at hc
 | true=>
  simp only[cOp,hop] at hc
  split at hc
  ·cases hc
  ·rename_i d z x' hni hd hz hx
   cases hc
   have hni':∀ms,d≠.interface ms:=fun ms e=>by subst e;exact hni _ rfl
   simp only[evOp] at he
   split at he
   ·rename_i hp
    cases he
    exact (ok_tassert c hop hx hd hni' hz (.inl ⟨hp,rfl⟩)).goes
   ·rename_i u v hp
    cases he
    exact (ok_tassert c hop hx hd hni' hz (.inr ⟨u,v,hp,rfl⟩)).goes
   ·cases he
  ·cases hc
theorem s_ext (c:Ctx P nt ι h w a a') {x:Operand} {i:Nat} (hop:o.op=.extract x i) (hc:cOp P o=some mo) (he:evOp call a mo h=some res):OpGoes P o a' w ι h res:=by
 simp only[cOp,hop] at hc
 obtain ⟨x',h1,rfl⟩:=optSome hc
 simp only[evOp] at he
 split at he
 ·rename_i vs hp
  split at he
  ·rename_i v hv
   cases he
   exact (ok_ext c hop h1 hp hv).goes
  ·cases he
 ·cases he
theorem s_panic (c:Ctx P nt ι h w a a') {x:Operand} (hop:o.op=.panic x) (hc:cOp P o=some mo) (he:evOp call a mo h=some res):OpGoes P o a' w ι h res:=by
 simp only[cOp,hop] at hc
 obtain ⟨x',h1,rfl⟩:=optSome hc
 simp only[evOp] at he
 split at he
 ·rename_i t v hp
  cases he
  exact panic_run c h1 hp (by simp [execOp,hop])
 ·cases he
theorem s_defer (c:Ctx P nt ι h w a a') {cl:Call} (hop:o.op=.defer cl) (hc:cOp P o=some mo) (he:evOp call a mo h=some res):OpGoes P o a' w ι h res:=by
 simp only[cOp,hop] at hc
 split at hc
 ·rename_i f hcal hargs
  obtain ⟨f',h1,rfl⟩:=optSome hc
  simp only[evOp] at he
  split at he
  ·rename_i g fs cs hp
   cases he
   exact defer_goes c hop hcal hargs h1 hp
  ·cases he
 ·cases hc
end
end Go.Ev
namespace Go.Ev
open Go
section
variable {P:Program} {nt:Nat} {ι:Mp} {h:AHeap} {w:World} {a:AAct} {a':Act} {o:Oper} {call:FuncId→List AV→AHeap→Option (CRes×AHeap)} {mo:MOp} {res:Res}
theorem s_callf (hcall:CallsOk P call) (c:Ctx P nt ι h w a a') {cl:Call} {f:FuncId} (hop:o.op=.call cl) (hcal:cl.callee=.value (.func f)) (hc:(cOpds P cl.args).map (MOp.call f)=some mo) (he:evOp call a mo h=some res):OpGoes P o a' w ι h res:=by
 obtain ⟨args',h1,rfl⟩:=optSome hc
 have hrun:=callv_run (P:=P) (w:=w) (a':=a') (fs:=#[]) (cs:=#[]) hop hcal rfl
 have hargs:VRL ι (infoOf h.get) (wsz w) (args'.map a.eval) (#[]++cl.args.map a'.eval++#[]:Array Value).toList:=by simpa using c.opds h1
 simp only[evOp] at he
 split at he
 ·rename_i v h' hcl
  cases he
  exact call_goes hcall c hargs hrun hcl
 ·rename_i v h' hcl
  cases he
  exact call_goes hcall c hargs hrun hcl
 ·cases he
theorem s_callv (hcall:CallsOk P call) (c:Ctx P nt ι h w a a') {cl:Call} {f:Operand} {f':Opd} {args':List Opd} (hop:o.op=.call cl) (hcal:cl.callee=.value f) (hf:cOpd P f=some f') (hargs:cOpds P cl.args=some args') (he:evOp call a (.callv f' args') h=some res):OpGoes P o a' w ι h res:=by
 simp only[evOp] at he
 split at he
 ·rename_i g fs cs hp
  have q:=c.opd hf
  rw[hp] at q
  simp only[VR] at q
  obtain ⟨fs',cs',q1,q2,q3⟩:=q
  have hrun:=callv_run (P:=P) (w:=w) hop hcal q1
  have hall:VRL ι (infoOf h.get) (wsz w) (fs++(args'.map a.eval++cs)) (fs'++cl.args.map a'.eval++cs').toList:=by
   have:=q2.append ((c.opds hargs).append q3)
   simpa [List.append_assoc] using this
  split at he
  ·rename_i v h' hcl
   cases he
   exact call_goes hcall c hall hrun hcl
  ·rename_i v h' hcl
   cases he
   exact call_goes hcall c hall hrun hcl
  ·cases he
 ·cases he
theorem s_call (hcall:CallsOk P call) (c:Ctx P nt ι h w a a') {cl:Call} (hop:o.op=.call cl) (hc:cCall P o.type cl=some mo) (he:evOp call a mo h=some res):OpGoes P o a' w ι h res:=by
 unfold cCall at hc
 simp only at hc
 split at hc
 ·rename_i f hcal
  exact s_callf hcall c hop hcal hc he
 ·rename_i f _ hcal
  split at hc
  ·rename_i f' args' h1 h2
   cases hc
   exact s_callv hcall c hop hcal h1 h2 he
  ·cases hc
 ·cases hc
 ·rename_i b hcal
  split at hc
  ·rename_i x t hargs htys
   split at hc
   ·rename_i ht
    obtain ⟨x',hx,rfl⟩:=optSome hc
    simp only[evOp] at he
    split at he
    ·rename_i s hp
     cases he
     exact (ok_len_str c hop hcal hargs htys hx (.inl ⟨ht,s,hp,rfl⟩)).goes
    ·cases he
   ·rename_i e ht
    obtain ⟨x',hx,rfl⟩:=optSome hc
    simp only[evOp] at he
    split at he
    ·rename_i b off len cap ex hp
     cases he
     exact (ok_len_str c hop hcal hargs htys hx (.inr (.inl ⟨⟨e,ht⟩,.inr ⟨b,off,len,cap,ex,hp,rfl⟩⟩))).goes
    ·rename_i hp
     cases he
     exact (ok_len_str c hop hcal hargs htys hx (.inr (.inl ⟨⟨e,ht⟩,.inl ⟨hp,rfl⟩⟩))).goes
    ·cases he
   ·rename_i k e ht
    obtain ⟨x',hx,rfl⟩:=optSome hc
    simp only[evOp] at he
    split at he
    ·rename_i hp
     cases he
     exact (ok_len_str c hop hcal hargs htys hx (.inr (.inr ⟨⟨k,e,ht⟩,.inl ⟨hp,rfl⟩⟩))).goes
    ·rename_i r hp
     split at he
     ·rename_i ver es hg
      cases he
      exact (ok_len_str c hop hcal hargs htys hx (.inr (.inr ⟨⟨k,e,ht⟩,.inr ⟨r,ver,es,hp,hg,rfl⟩⟩))).goes
     ·cases he
    ·cases he
   ·cases hc
  ·rename_i s x ts tx hargs htys
   split at hc
   ·rename_i e kx s' x' hts htx hs hx
    split at hc
    ·rename_i es b z hes hb hz
     cases hq:(z.cells.length.beq es&&Nat.blt 0 es) with
     | false=>rw[hq] at hc;cases hc
     | true=>
      rw[hq] at hc
      simp only[Bool.and_eq_true] at hq
      cases hc
      obtain ⟨i,hi,rfl⟩:=optBytes hb
      simp only[evOp] at he
      split at he
      ·rename_i m hm
       cases hr:(decide (0≤m)&&decide (m≤(room:Int))&&decide (m*(i.bytes:Int)≤(room:Int))) with
       | false=>rw[hr] at he;cases he
       | true=>
        rw[hr] at he
        simp only[Bool.and_eq_true,decide_eq_true_eq] at hr
        simp only[cond_true] at he
        split at he
        ·rename_i v h' ha
         cases he
         exact (ok_appendz c hop hcal hargs htys hts htx hes hi hz (Nat.eq_of_beq_eq_true hq.1) (by simpa [Nat.blt_eq] using hq.2) hs hx hm hr.1.1 hr.1.2 hr.2 ha).goes
        ·cases he
      ·cases he
    ·cases hc
   ·rename_i e d s' x' hni hts htx hs hx
    split at hc
    ·rename_i es b z hes hb hz
     cases hq:(z.cells.length.beq es&&seqT d) with
     | false=>rw[hq] at hc;cases hc
     | true=>
      rw[hq] at hc
      simp only[Bool.and_eq_true] at hq
      cases hc
      obtain ⟨i,hi,rfl⟩:=optBytes hb
      have hd:(∃e2,d=.slice e2)∨d=.string:=by
       have:=hq.2
       cases d<;>simp [seqT] at this
       ·exact .inr rfl
       ·exact .inl ⟨_,rfl⟩
      simp only[evOp] at he
      split at he
      ·rename_i n new hel
       split at he
       ·rename_i v h' ha
        cases he
        exact (ok_append c hop hcal hargs htys hts htx hd hes hi hz (Nat.eq_of_beq_eq_true hq.1) hs hx hel ha).goes
       ·cases he
      ·cases he
    ·cases hc
   ·cases hc
  ·rename_i d s td ts hargs htys
   split at hc
   ·rename_i e d' s' htd hd hs
    split at hc
    ·rename_i es hes
     cases hc
     simp only[evOp] at he
     split at he
     ·rename_i n cs b off len cap ex hel hp
      cases h0:(Nat.min n len).beq 0 with
      | true=>
       rw[h0] at he
       cases he
       exact (ok_copy c hop hcal hargs htys htd hes hd hs hel (.inr ⟨b,off,len,cap,ex,hp,.inl ⟨Nat.eq_of_beq_eq_true h0,rfl,rfl⟩⟩)).goes
      | false=>
       rw[h0] at he
       simp only[cond_false] at he
       have hpos:0<Nat.min n len:=by
        rcases Nat.eq_zero_or_pos (Nat.min n len) with e0|e0
        ·rw[e0] at h0;simp at h0
        ·exact e0
       split at he
       ·rename_i ver es' vs hg
        cases hf:allFlat (cs.take (Nat.min n len*es)) with
        | false=>rw[hf] at he;cases he
        | true=>
         rw[hf] at he
         simp only[Bool.not_true,cond_false] at he
         split at he
         ·rename_i vs' hl
          cases he
          exact (ok_copy c hop hcal hargs htys htd hes hd hs hel (.inr ⟨b,off,len,cap,ex,hp,.inr ⟨hpos,ver,es',vs,vs',hg,hf,hl,rfl,rfl⟩⟩)).goes
         ·cases he
       ·cases he
     ·rename_i q hel hp
      cases he
      exact (ok_copy c hop hcal hargs htys htd hes hd hs (n:=q.1) (cs:=q.2) hel (.inl ⟨hp,rfl,rfl⟩)).goes
     ·cases he
    ·cases hc
   ·cases hc
  ·rename_i x xs hargs
   split at hc
   ·rename_i x' xs' hx hxs
    cases hc
    simp only[evOp] at he
    split at he
    ·rename_i v hv
     cases he
     exact (ok_mx (isMax:=true) c hop hcal hargs hx hxs hv).goes
    ·cases he
   ·cases hc
  ·rename_i x xs hargs
   split at hc
   ·rename_i x' xs' hx hxs
    cases hc
    simp only[evOp] at he
    split at he
    ·rename_i v hv
     cases he
     exact (ok_mx (isMax:=false) c hop hcal hargs hx hxs hv).goes
    ·cases he
   ·cases hc
  ·rename_i x hargs
   obtain ⟨x',hx,rfl⟩:=optSome hc
   simp only[evOp] at he
   split at he
   ·rename_i t v hp
    cases he
    refine panic_run c hx hp ?_
    rw[builtin_run hop hcal,args1 hargs]
    simp only[builtin,Sem.run_bind]
    rfl
   ·cases he
  ·cases hc
   simp only[evOp] at he
   cases he
  ·cases hc
theorem evOp_sound (hcall:CallsOk P call) (c:Ctx P nt ι h w a a') (hc:cOp P o=some mo) (he:evOp call a mo h=some res):OpGoes P o a' w ι h res:=by
 cases hop:o.op with
 | move x=>exact s_move c (.inl hop) (by simpa only[cOp,hop] using hc) he
 | assign x=>exact s_move c (.inr hop) (by simpa only[cOp,hop] using hc) he
 | pick x y z=>exact s_pick c hop hc he
 | alloc t=>exact (s_alloc c hop hc he).goes c
 | box t x=>exact (s_box c hop hc he).goes c
 | build t ps=>exact s_build c hop hc he
 | buildSlice t n ps=>exact (s_bslice c hop hc he).goes c
 | insert t m k x=>exact s_mapupd c (.inr hop) (by simpa only[cOp,hop] using hc) he
 | load t x=>exact s_load c hop hc he
 | store t x y=>exact s_store c hop hc he
 | ready g=>simp [cOp,hop] at hc
 | waits g=>simp [cOp,hop] at hc
 | nilCheck x=>exact s_nilck c hop hc he
 | binOp op t x y t2=>exact s_bin c hop hc he
 | unOp op t x=>exact s_un c hop hc he
 | convert s d x=>exact s_conv c hop hc he
 | sliceToArrayPointer d x=>simp [cOp,hop] at hc
 | makeInterface t x=>exact s_mkif c hop hc he
 | makeFunc fn fs cs=>exact s_mkfn c hop hc he
 | makeMap t r=>exact (s_mkmap c hop hc he).goes c
 | makeChan t r=>simp [cOp,hop] at hc
 | makeSlice t x y=>exact (s_mkslice c hop hc he).goes c
 | slice t x lo hi mx=>exact s_slice c hop hc he
 | fieldAddr t x f=>exact s_faddr c hop hc he
 | field t x f=>exact s_fld c hop hc he
 | indexAddr t x i=>exact s_iaddr c hop hc he
 | index t x i=>exact s_index c hop hc he
 | lookup t m k ok=>exact s_lookup c hop hc he
 | mapUpdate t m k x=>exact s_mapupd c (.inl hop) (by simpa only[cOp,hop] using hc) he
 | mapEntry t m k=>simp [cOp,hop] at hc
 | entryStore t m s x=>simp [cOp,hop] at hc
 | range t x=>simp [cOp,hop] at hc
 | next it s=>simp [cOp,hop] at hc
 | entry it=>simp [cOp,hop] at hc
 | typeAssert x t to ok=>exact s_tassert c hop hc he
 | extract x i=>exact s_ext c hop hc he
 | call cl=>exact s_call hcall c hop (by simpa only[cOp,hop] using hc) he
 | go cl=>simp [cOp,hop] at hc
 | defer cl=>exact s_defer c hop hc he
 | panic x=>exact s_panic c hop hc he
 | send ch x=>simp [cOp,hop] at hc
 | recv t ch ok=>simp [cOp,hop] at hc
 | select cs b=>simp [cOp,hop] at hc
end
end Go.Ev
namespace Go.Ev
open Go
structure PRel (ι:Mp) (I:Nat→Info) (sz:Nat→Nat) (a:AAct) (a':Act):Prop where
 tm:∀i x,a.tm.get i=some x→VR ι I sz x (a'.tmps.getD i undef)
 df:DRelL ι I sz a.df a'.defers
theorem ARel.part {nt:Nat} {ι:Mp} {I:Nat→Info} {sz:Nat→Nat} {a:AAct} {a':Act} (h:ARel nt ι I sz a a'):PRel ι I sz a a':=
 ⟨fun i x hx=>by have:=h.tm i;rw[hx] at this;exact this,h.df⟩
theorem PRel.mono {ι ι':Mp} {I I':Nat→Info} {sz sz':Nat→Nat} (g:Grow ι I sz ι' I' sz') {a:AAct} {a':Act} (h:PRel ι I sz a a'):PRel ι' I' sz' a a':=
 ⟨fun i x hx=>VR.mono g _ _ (h.tm i x hx),DRelL.mono g _ _ h.df⟩
def AX (nt:Nat) (ι:Mp) (I:Nat→Info) (sz:Nat→Nat) (a:AAct) (a':Act):AExit→Prop
 | .pan _=>PRel ι I sz a a'
 | _=>ARel nt ι I sz a a'
def CGoes (nt:Nat) (ι:Mp) (h:AHeap) (w:World) (e:AExit) (a2:AAct) (h2:AHeap) (Q:Exit→Act→World→Prop):Prop:=
 ∀(ι2:Mp) (w2:World) (a2':Act),Step ι h w ι2 h2 w2→Rel ι2 h2 w2→AX nt ι2 (infoOf h2.get) (wsz w2) a2 a2' e→
  match e with
  | .norm=>Q .normal a2' w2
  | .exit id=>Q (.exit id) a2' w2
  | .ret=>Q .ret a2' w2
  | .pan v=>∀v',VR ι2 (infoOf h2.get) (wsz w2) v v'→Q (.panic [{ v:=v',recovered:=false }]) a2' w2
section
variable {P:Program} {nt:Nat} {call:FuncId→List AV→AHeap→Option (CRes×AHeap)}
theorem Ctx.step {ι ι2:Mp} {h h2:AHeap} {w w2:World} {a a2:AAct} {a' a2':Act} (c:Ctx P nt ι h w a a') (s:Step ι h w ι2 h2 w2) (r:Rel ι2 h2 w2) (ha:ARel nt ι2 (infoOf h2.get) (wsz w2) a2 a2'):Ctx P nt ι2 h2 w2 a2 a2':=
 ⟨fun g hg=>s.grow.ext _ _ (c.glob g hg),r,ha⟩
theorem CGoes.later {ι ι1:Mp} {h h1 h2:AHeap} {w w1:World} {e:AExit} {a2:AAct} {Q:Exit→Act→World→Prop} (r:Rel ι h w) (s:Step ι h w ι1 h1 w1) (k:CGoes nt ι h w e a2 h2 Q):CGoes nt ι1 h1 w1 e a2 h2 Q:=
 fun ι2 w2 a2' s2 r2 ha=>k ι2 w2 a2' (s.trans r s2) r2 ha
theorem wanted_rel {ι:Mp} {I:Nat→Info} {sz:Nat→Nat} {a:AAct} {a':Act} (ha:ARel nt ι I sz a a') {ops:Array Oper} {o:Oper} {g:Option (Nat×Bool)} (hg:cGuard ops o.guard=some g):wantedA a g=Region.wanted o (yielded ops a'.tmps):=by
 unfold Region.wanted
 cases e:o.guard with
 | none=>
  rw[e] at hg
  simp only[cGuard] at hg
  cases hg
  rfl
 | some jw=>
  obtain ⟨j,want⟩:=jw
  rw[e] at hg
  simp only[cGuard] at hg
  cases hj:ops[j]? with
  | none=>rw[hj] at hg;cases hg
  | some oj=>
   rw[hj] at hg
   simp only at hg
   cases hd:oj.dst with
   | none=>rw[hd] at hg;cases hg
   | some t=>
    rw[hd] at hg
    cases hg
    have hy:yielded ops a'.tmps j=match a'.tmps[t]? with|some (.bool b)=>some b|_=>none:=by
     unfold yielded
     rw[hj]
     simp only[Option.bind_some,hd]
     rfl
    simp only[wantedA,hy]
    have hv:=ha.tm t
    by_cases ht:t<a'.tmps.size
    ·have e1:a'.tmps.getD t undef=a'.tmps[t]:=by simp [Array.getD,ht]
     rw[e1] at hv
     have e2:a'.tmps[t]?=some a'.tmps[t]:=Array.getElem?_eq_getElem ht
     rw[e2]
     generalize a'.tmps[t]=v at hv
     cases ha2:a.tm.get t with
     | none=>
      rw[ha2] at hv
      simp only[Option.getD_none,undefA,VR] at hv
      obtain ⟨cs,rfl,_⟩:=hv
      rfl
     | some x=>
      rw[ha2] at hv
      simp only[Option.getD_some] at hv
      cases x<;>simp only[VR] at hv
      case bool b=>subst hv;cases b<;>cases want<;>rfl
      case ptr=>obtain ⟨_,rfl,_⟩:=hv;rfl
      case slice=>obtain ⟨_,_,rfl,_⟩:=hv;rfl
      case map=>obtain ⟨_,rfl,_⟩:=hv;rfl
      case func=>obtain ⟨_,_,rfl,_⟩:=hv;rfl
      case iface=>obtain ⟨_,rfl,_⟩:=hv;rfl
      case agg=>obtain ⟨_,rfl,_⟩:=hv;rfl
      case tuple=>obtain ⟨_,rfl,_⟩:=hv;rfl
      all_goals subst hv;rfl
    ·have e1:a'.tmps.getD t undef=undef:=by simp [Array.getD,ht]
     rw[e1] at hv
     have e2:a'.tmps[t]?=none:=Array.getElem?_eq_none (Nat.le_of_not_lt ht)
     rw[e2]
     cases ha2:a.tm.get t with
     | none=>rfl
     | some x=>
      rw[ha2] at hv
      simp only[Option.getD_some,Go.undef] at hv
      cases x<;>simp [VR] at hv
      rfl
theorem cOper_spec {ops:Array Oper} {draw:Bool} {bef:Array Nat} {i:Nat} {o:Oper} {m:MOper} (h:cOper P nt ops draw bef i o=some m) :
  cOp P o=some m.op∧cGuard ops o.guard=some m.guard∧m.dst=o.dst∧(∀d,o.dst=some d→d<nt)∧(∀e∈o.after,Region.binds .any e=true→e.on<i)∧m.bef=(bif draw then bef.getD i 0 else 0):=by
 unfold cOper at h
 split at h
 ·rename_i op g h1 h2
  cases hq:(dstLt nt o.dst&&o.after.all (fun e=>!Region.binds .any e||Nat.blt e.on i)) with
  | false=>rw[hq] at h;cases h
  | true=>
   rw[hq] at h
   simp only[Bool.and_eq_true] at hq
   cases h
   refine ⟨h1,h2,rfl,fun d hd=>?_,fun e he hb=>?_,rfl⟩
   ·have:=hq.1
    rw[hd] at this
    simpa [dstLt,Nat.blt_eq] using this
   ·have:=Array.all_eq_true'.1 hq.2 e he
    simp only[Bool.or_eq_true,Bool.not_eq_true',hb] at this
    rcases this with h|h
    ·cases h
    ·simpa [Nat.blt_eq] using h
 ·cases h
theorem cOpers_get {ops:Array Oper} {draw:Bool} {bef:Array Nat}:∀{i:Nat} {os:List Oper} {l:List MOper},cOpers P nt ops draw bef i os=some l→l.length=os.length∧∀(j:Nat) (o:Oper),os[j]?=some o→∃m,l[j]?=some m∧cOper P nt ops draw bef (i+j) o=some m
 | i,[],l,h=>by simp only[cOpers] at h;cases h;simp
 | i,o::os,l,h=>by
  simp only[cOpers] at h
  split at h
  ·rename_i m r h1 h2
   cases h
   obtain ⟨h3,h4⟩:=cOpers_get h2
   refine ⟨by simp [h3],fun j q hj=>?_⟩
   cases j with
   | zero=>simp at hj;subst hj;exact ⟨m,by simp,h1⟩
   | succ j=>
    obtain ⟨m',e1,e2⟩:=h4 j q (by simpa using hj)
    exact ⟨m',by simpa using e1,by rw[←e2];congr 1;omega⟩
  ·cases h
theorem evOps_sound (hcall:CallsOk P call) {ops:Array Oper} {bef:Array Nat} {Q:Exit→Act→World→Prop}:∀(l:List MOper) (os:List Oper) (i:Nat) (a:AAct) (h:AHeap) (ι:Mp) (w:World) (a':Act) (e:AExit) (a2:AAct) (h2:AHeap),
  os=ops.toList.drop i→cOpers P nt ops false bef i os=some l→evOps call l a h=some (e,a2,h2)→Ctx P nt ι h w a a'→CGoes nt ι h w e a2 h2 Q→wpOps P ops Q (List.range' i os.length) a' w
 | l,[],i,a,h,ι,w,a',e,a2,h2,_,hl,he,c,k=>by
  simp only[cOpers] at hl
  cases hl
  simp only[evOps,Option.some.injEq,Prod.mk.injEq] at he
  obtain ⟨rfl,rfl,rfl⟩:=he
  exact k ι w a' (Step.refl _ _ _) c.rel c.act
 | l,o::os,i,a,h,ι,w,a',e,a2,h2,hos,hl,he,c,k=>by
  simp only[cOpers] at hl
  split at hl
  ·rename_i m r h1 h3
   cases hl
   obtain ⟨g1,g2,g3,g4,_,_⟩:=cOper_spec h1
   have hi:ops[i]?=some o:=by
    have:=congrArg (fun l=>l[0]?) hos
    simp only[List.getElem?_drop,List.getElem?_cons_zero,Nat.add_zero,Array.getElem?_toList] at this
    exact this.symm
   have hos':os=ops.toList.drop (i+1):=by
    have:=congrArg List.tail hos
    simpa using this
   simp only[List.length_cons,List.range'_succ,wpOps,hi]
   have hw:=wanted_rel c.act g2
   simp only[evOps] at he
   rw[hw] at he
   cases hwant:Region.wanted o (yielded ops a'.tmps) with
   | true=>
    rw[hwant] at he
    simp only[cond_true] at he
    simp only[if_true]
    cases hop:evOp call a m.op h with
    | none=>rw[hop] at he;cases he
    | some res=>
     rw[hop] at he
     have hgo:=evOp_sound hcall c g1 hop
     left
     refine hgo a' (wpOps P ops Q (List.range' (i+1) os.length)) Q ?_
     cases res with
     | v x h' kk=>
      intro v' w' ⟨ι',s1,r1,v1⟩
      simp only at he
      have ha':ARel nt ι' (infoOf h'.get) (wsz w') (a.put m.dst x) (a'.put o.dst v'):=by
       rw[g3];exact (c.act.mono s1.grow).put g4 v1
      exact evOps_sound hcall r os (i+1) _ h' ι' w' _ e a2 h2 hos' h3 he (c.step s1 r1 ha') (k.later c.rel s1)
     | pan x h'=>
      simp only[Option.some.injEq,Prod.mk.injEq] at he
      obtain ⟨rfl,rfl,rfl⟩:=he
      intro v' w' ⟨ι',s1,r1,v1⟩
      exact k ι' w' a' s1 r1 (c.act.mono s1.grow).part v' v1
     | df f args=>
      intro d hd
      simp only at he
      have ha':ARel nt ι (infoOf h.get) (wsz w) (AAct.put ⟨a.tm,(f,args)::a.df⟩ m.dst undefA) ({ a' with defers:=d::a'.defers }.put o.dst undef):=by
       rw[g3]
       exact ARel.put (a:=⟨a.tm,(f,args)::a.df⟩) (a':={ a' with defers:=d::a'.defers }) ⟨c.act.size,c.act.tm,⟨d,a'.defers,rfl,hd,c.act.df⟩⟩ g4 VR.undef
      exact evOps_sound hcall r os (i+1) _ h ι w _ e a2 h2 hos' h3 he (c.step (Step.refl _ _ _) c.rel ha') k
   | false=>
    rw[hwant] at he
    simp only[cond_false] at he
    simp only[Bool.false_eq_true,if_false]
    have ha':ARel nt ι (infoOf h.get) (wsz w) (a.put m.dst undefA) (a'.put o.dst undef):=by
     rw[g3];exact c.act.put g4 VR.undef
    exact evOps_sound hcall r os (i+1) _ h ι w _ e a2 h2 hos' h3 he (c.step (Step.refl _ _ _) c.rel ha') k
  ·cases hl
def DSound (P:Program) (nt:Nat) (call:FuncId→List AV→AHeap→Option (CRes×AHeap)):Prop:=
 ∀(ops:Array Oper) (l:List MOper) (a:AAct) (h:AHeap) (ι:Mp) (w:World) (a':Act) (e:AExit) (a2:AAct) (h2:AHeap) (Q:Exit→Act→World→Prop),
  cOpers P nt ops true (CheckFast.beforeF ops) 0 ops.toList=some l→tempsOk ops (CheckFast.beforeF ops)=true→opdsOk l ops.toList=true→evD call (reorder l) (reorder l) a h [] none=some (e,a2,h2)→Ctx P nt ι h w a a'→CGoes nt ι h w e a2 h2 Q→
  ∀t,wpOps P ops Q (Region.schedule true ops t) a' w
theorem Rel.drew {ι:Mp} {h:AHeap} {w:World} (r:Rel ι h w):Rel ι h { w with drawn:=w.drawn+1 }∧Step ι h w ι h { w with drawn:=w.drawn+1 }:=by
 refine ⟨r.heap rfl,?_⟩
 have:wsz ({ w with drawn:=w.drawn+1 }:World)=wsz w:=wsz_heap rfl
 exact ⟨by rw[this];exact Grow.refl _ _ _,(Step.refl ι h w).fresh,Nat.le_refl _,Nat.le_refl _,fun _ _ _=>rfl,(Step.refl ι h w).frm,rfl,rfl,rfl⟩
theorem evCode_sound (hcall:CallsOk P call) (hD:DSound P nt call) (hmix:P.follows .mixedOrders=true) (fuel:Nat):∀(c:Code) (mc:MCode) (a:AAct) (h:AHeap) (ι:Mp) (w:World) (a':Act) (e:AExit) (a2:AAct) (h2:AHeap) (Q:Exit→Act→World→Prop),
  cCode P nt c=some mc→evCode call fuel mc a h=some (e,a2,h2)→Ctx P nt ι h w a a'→CGoes nt ι h w e a2 h2 Q→c.wp P Q a' w
 | .skip,mc,a,h,ι,w,a',e,a2,h2,Q,hc,he,c,k=>by
  simp only[cCode] at hc
  cases hc
  simp only[evCode,Option.some.injEq,Prod.mk.injEq] at he
  obtain ⟨rfl,rfl,rfl⟩:=he
  exact wp_skip (k ι w a' (Step.refl _ _ _) c.rel c.act)
 | .region id ops draw,mc,a,h,ι,w,a',e,a2,h2,Q,hc,he,c,k=>by
  simp only[cCode] at hc
  cases draw with
  | false=>
   simp only[cond_false] at hc
   split at hc
   ·rename_i l hl
    cases hc
    simp only[evCode] at he
    refine wp_region ?_
    have:=evOps_sound hcall (Q:=Q) l ops.toList 0 a h ι w a' e a2 h2 (by simp) hl he c k
    rw[List.range_eq_range']
    simpa using this
   ·cases hc
  | true=>
   simp only[cond_true] at hc
   split at hc
   ·rename_i l hl
    cases hq:(tempsOk ops (CheckFast.beforeF ops)&&opdsOk l ops.toList) with
    | false=>rw[hq] at hc;cases hc
    | true=>
     rw[hq] at hc
     cases hc
     simp only[Bool.and_eq_true] at hq
     simp only[evCode] at he
     refine wp_region_draw fun t=>?_
     rw[hmix]
     obtain ⟨r1,s1⟩:=c.rel.drew
     refine hD ops l a h ι _ a' e a2 h2 Q hl hq.1 hq.2 he ?_ (k.later c.rel s1) t
     exact c.step s1 r1 (c.act.mono s1.grow)
   ·cases hc
 | .seq x y,mc,a,h,ι,w,a',e,a2,h2,Q,hc,he,c,k=>by
  simp only[cCode] at hc
  split at hc
  ·rename_i mx my hx hy
   cases hc
   simp only[evCode] at he
   refine wp_seq ?_
   cases h1:evCode call fuel mx a h with
   | none=>rw[h1] at he;cases he
   | some r=>
    obtain ⟨e1,a1,hh1⟩:=r
    rw[h1] at he
    refine evCode_sound hcall hD hmix fuel x mx a h ι w a' e1 a1 hh1 _ hx h1 c ?_
    intro ι2 w2 a2' s2 r2 ha2
    cases e1 with
    | norm=>
     simp only at he
     exact evCode_sound hcall hD hmix fuel y my a1 hh1 ι2 w2 a2' e a2 h2 Q hy he (c.step s2 r2 ha2) (k.later c.rel s2)
    | exit id=>
     simp only[Option.some.injEq,Prod.mk.injEq] at he
     obtain ⟨rfl,rfl,rfl⟩:=he
     exact k ι2 w2 a2' s2 r2 ha2
    | ret=>
     simp only[Option.some.injEq,Prod.mk.injEq] at he
     obtain ⟨rfl,rfl,rfl⟩:=he
     exact k ι2 w2 a2' s2 r2 ha2
    | pan v=>
     simp only[Option.some.injEq,Prod.mk.injEq] at he
     obtain ⟨rfl,rfl,rfl⟩:=he
     exact k ι2 w2 a2' s2 r2 ha2
  ·cases hc
 | .cond o x y,mc,a,h,ι,w,a',e,a2,h2,Q,hc,he,c,k=>by
  simp only[cCode] at hc
  split at hc
  ·rename_i o' mx my ho hx hy
   cases hc
   simp only[evCode] at he
   have hv:=c.opd ho
   split at he
   ·rename_i b hb
    rw[hb] at hv
    simp only[VR] at hv
    refine wp_cond (t:=b) hv ?_
    cases b with
    | true=>exact evCode_sound hcall hD hmix fuel x mx a h ι w a' e a2 h2 Q hx he c k
    | false=>exact evCode_sound hcall hD hmix fuel y my a h ι w a' e a2 h2 Q hy he c k
   ·cases he
  ·cases hc
 | .block id x,mc,a,h,ι,w,a',e,a2,h2,Q,hc,he,c,k=>by
  simp only[cCode] at hc
  split at hc
  ·rename_i mx hx
   cases hc
   simp only[evCode] at he
   refine wp_block ?_
   cases h1:evCode call fuel mx a h with
   | none=>rw[h1] at he;cases he
   | some r=>
    obtain ⟨e1,a1,hh1⟩:=r
    rw[h1] at he
    refine evCode_sound hcall hD hmix fuel x mx a h ι w a' e1 a1 hh1 _ hx h1 c ?_
    intro ι2 w2 a2' s2 r2 ha2
    cases e1 with
    | exit i=>
     simp only at he
     cases hi:i.beq id with
     | true=>
      rw[hi] at he
      cases he
      have:i=id:=Nat.eq_of_beq_eq_true hi
      simp only[Exit.inBlock,this,if_true]
      exact k ι2 w2 a2' s2 r2 ha2
     | false=>
      rw[hi] at he
      cases he
      have:¬i=id:=fun e=>by rw[beqT e] at hi;cases hi
      simp only[Exit.inBlock,this,if_false]
      exact k ι2 w2 a2' s2 r2 ha2
    | norm=>
     simp only[Option.some.injEq,Prod.mk.injEq] at he
     obtain ⟨rfl,rfl,rfl⟩:=he
     exact k ι2 w2 a2' s2 r2 ha2
    | ret=>
     simp only[Option.some.injEq,Prod.mk.injEq] at he
     obtain ⟨rfl,rfl,rfl⟩:=he
     exact k ι2 w2 a2' s2 r2 ha2
    | pan v=>
     simp only[Option.some.injEq,Prod.mk.injEq] at he
     obtain ⟨rfl,rfl,rfl⟩:=he
     exact k ι2 w2 a2' s2 r2 ha2
  ·cases hc
 | .loop x,mc,a,h,ι,w,a',e,a2,h2,Q,hc,he,c,k=>by
  simp only[cCode] at hc
  split at hc
  ·rename_i mx hx
   cases hc
   simp only[evCode] at he
   have key:∀(n:Nat) (a:AAct) (h:AHeap) (ι:Mp) (w:World) (a':Act),iter n (fun a h=>evCode call fuel mx a h) a h=some (e,a2,h2)→Ctx P nt ι h w a a'→CGoes nt ι h w e a2 h2 Q→Code.rounds P x Q n a' w:=by
    intro n
    induction n with
    | zero=>intro a h ι w a' hit;simp [iter] at hit
    | succ n ih=>
     intro a h ι w a' hit c k
     rw[rounds_succ]
     simp only[iter] at hit
     cases h1:evCode call fuel mx a h with
     | none=>rw[h1] at hit;cases hit
     | some r=>
      obtain ⟨e1,a1,hh1⟩:=r
      rw[h1] at hit
      refine evCode_sound hcall hD hmix fuel x mx a h ι w a' e1 a1 hh1 _ hx h1 c ?_
      intro ι2 w2 a2' s2 r2 ha2
      cases e1 with
      | norm=>exact ih a1 hh1 ι2 w2 a2' hit (c.step s2 r2 ha2) (k.later c.rel s2)
      | exit id=>
       simp only[Option.some.injEq,Prod.mk.injEq] at hit
       obtain ⟨rfl,rfl,rfl⟩:=hit
       exact k ι2 w2 a2' s2 r2 ha2
      | ret=>
       simp only[Option.some.injEq,Prod.mk.injEq] at hit
       obtain ⟨rfl,rfl,rfl⟩:=hit
       exact k ι2 w2 a2' s2 r2 ha2
      | pan v=>
       simp only[Option.some.injEq,Prod.mk.injEq] at hit
       obtain ⟨rfl,rfl,rfl⟩:=hit
       exact k ι2 w2 a2' s2 r2 ha2
   exact wp_loop_rounds fuel (key fuel a h ι w a' he c k)
  ·cases hc
 | .exit id,mc,a,h,ι,w,a',e,a2,h2,Q,hc,he,c,k=>by
  simp only[cCode] at hc
  cases hc
  simp only[evCode,Option.some.injEq,Prod.mk.injEq] at he
  obtain ⟨rfl,rfl,rfl⟩:=he
  exact wp_exit (k ι w a' (Step.refl _ _ _) c.rel c.act)
 | .ret,mc,a,h,ι,w,a',e,a2,h2,Q,hc,he,c,k=>by
  simp only[cCode] at hc
  cases hc
  simp only[evCode,Option.some.injEq,Prod.mk.injEq] at he
  obtain ⟨rfl,rfl,rfl⟩:=he
  exact wp_ret (k ι w a' (Step.refl _ _ _) c.rel c.act)
 | .rangeFunc _ _ _ _,mc,a,h,ι,w,a',e,a2,h2,Q,hc,he,c,k=>by simp [cCode] at hc
 | .scope _,mc,a,h,ι,w,a',e,a2,h2,Q,hc,he,c,k=>by simp [cCode] at hc
 | .label _,mc,a,h,ι,w,a',e,a2,h2,Q,hc,he,c,k=>by simp [cCode] at hc
 | .goto _,mc,a,h,ι,w,a',e,a2,h2,Q,hc,he,c,k=>by simp [cCode] at hc
 | .refuse _,mc,a,h,ι,w,a',e,a2,h2,Q,hc,he,c,k=>by simp [cCode] at hc
end
end Go.Ev
namespace Go.Ev
open Go
theorem initTm_get:∀(l:List AV) (i:Nat) (t:Tr AV) (j:Nat),(initTm l i t).get j=if i≤j∧j<i+l.length then l[j-i]? else t.get j
 | [],i,t,j=>by
  simp only[initTm,List.length_nil]
  rw[if_neg (by omega)]
 | v::r,i,t,j=>by
  simp only[initTm,List.length_cons]
  rw[initTm_get r (i+1) _ j,Tr.get_set]
  by_cases h1:j=i
  ·subst h1
   rw[if_neg (by omega),if_pos rfl,if_pos (by omega)]
   simp
  ·by_cases h2:i≤j∧j<i+(r.length+1)
   ·rw[if_pos (by omega),if_pos h2]
    have e:j-i=(j-(i+1))+1:=by omega
    rw[e,List.getElem?_cons_succ]
   ·rw[if_neg (by omega),if_neg h1,if_neg h2]
theorem ARel.init {nt:Nat} {ι:Mp} {I:Nat→Info} {sz:Nat→Nat} {args:List AV} {args':Array Value} (hv:VRL ι I sz args args'.toList) (hle:args.length≤nt) :
  ARel nt ι I sz ⟨initTm args 0 .nil,[]⟩ { tmps:=args'++Array.replicate (nt-args'.size) undef,defers:=[] }:=by
 have hl:args.length=args'.size:=by simpa using hv.length
 refine ⟨by simp;omega,fun i=>?_,by simp only[DRelL]⟩
 simp only[initTm_get,Tr.get_nil]
 by_cases hi:i<args.length
 ·rw[if_pos (by omega)]
  have e1:args[i-0]?=some args[i]:=by simp [hi]
  rw[e1]
  have e2:(args'++Array.replicate (nt-args'.size) undef).getD i undef=args'[i]'(by omega):=by
   rw[Array.getD_eq_getD_getElem?,Array.getElem?_append_left (by omega),Array.getElem?_eq_getElem (by omega)]
   rfl
  rw[e2]
  obtain ⟨v,g1,g2⟩:=hv.get i _ (List.getElem?_eq_getElem hi)
  have:v=args'[i]'(by omega):=by
   have g3:args'.toList[i]?=some (args'[i]'(by omega)):=by simp [show i<args'.size by omega]
   rw[g3] at g1;cases g1;rfl
  exact this ▸ g2
 ·rw[if_neg (by omega)]
  have e2:(args'++Array.replicate (nt-args'.size) undef).getD i undef=undef:=by
   rw[Array.getD_eq_getD_getElem?,Array.getElem?_append_right (by omega)]
   rw[Array.getElem?_replicate]
   split<;>rfl
  rw[e2]
  exact VR.undef
def PrimOk (P:Program) (f:FuncId) (p:List AV→AHeap→Option (CRes×AHeap)):Prop:=
 ∀args h res h',p args h=some (res,h')→∀ι w (args':Array Value),Glob P ι→Rel ι h w→VRL ι (infoOf h.get) (wsz w) args args'.toList→
  CallGives P f args' w (fun v' w'=>∃x,res=.ret x∧Comes1 ι h w x h' v' w') (fun v' w'=>∃x,res=.pan x∧Comes1 ι h w x h' v' w')
def NoRec:MCode→Prop
 | .seq (.reg (⟨_,.recover,_,_⟩::_)) _=>False
 | _=>True
def BodyOk (P:Program) (fn:Func) (nt:Nat) (body:MCode):Prop:=
 ∀call,CallsOk P call→(∀nt,DSound P nt call)→P.follows .mixedOrders=true→∀c,fn.body=some c→∀fuel (args:List AV) h e a2 h2 (args':Array Value),args.length≤nt→evCode call fuel body ⟨initTm args 0 .nil,[]⟩ h=some (e,a2,h2)→
  ∀ι w Q,Ctx P nt ι h w ⟨initTm args 0 .nil,[]⟩ { tmps:=args'++Array.replicate (nt-args'.size) undef,defers:=[] }→CGoes nt ι h w e a2 h2 Q→c.wp P Q { tmps:=args'++Array.replicate (nt-args'.size) undef,defers:=[] } w
def FOk (P:Program) (F:Nat→Option MFun):Prop:=
 ∀f m,F f=some m→match m with
  | .prim p=>PrimOk P f p
  | .code nt body res=>∃fn,P.funcs[f]?=some fn∧(cFunc P fn=some (.code nt body res)∨(NoRec body∧(∃m0,cFunc P fn=some (.code nt m0 res))∧BodyOk P fn nt body))
theorem cFunc_spec {P:Program} {fn:Func} {nt:Nat} {body:MCode} {res:List RV} (h:cFunc P fn=some (.code nt body res)):∃c,fn.body=some c∧cCode P nt c=some body∧mapO (cRes P) fn.results.toList=some res∧fn.name≠ "runtime.NumGoroutine"∧fn.ntmps=nt:=by
 unfold cFunc at h
 split at h
 ·cases h
 ·rename_i c hc
  split at h
  ·rename_i b r h1 h2
   cases hq:(fn.name != "runtime.NumGoroutine"&&(fn.params.size+fn.nfree).ble fn.ntmps) with
   | false=>rw[hq] at h;cases h
   | true=>
    rw[hq] at h
    cases h
    simp only[Bool.and_eq_true,bne_iff_ne,ne_eq] at hq
    exact ⟨c,hc,h1,h2,hq.1,rfl⟩
  ·cases h
theorem run_callFunc {P:Program} {w:World} {f:FuncId} {fn:Func} {c:Code} {args:Array Value} (hf:P.funcs[f]?=some fn) (hb:fn.body=some c) (hn:fn.name≠ "runtime.NumGoroutine"):(callFunc f args).run P w=.ok (.enter f args) w:=by
 simp [callFunc,hf,hb,hn]
section
variable {P:Program} {nt:Nat} {call:FuncId→List AV→AHeap→Option (CRes×AHeap)}
theorem loadA_some {h:AHeap} {b:Bool} {n:Nat} {x r:AV} (hl:loadA h b n x=some r):∃bk off ver md es vs,x=.ptr bk off∧h.get bk=some ⟨ver,.cells md es vs⟩∧(bif b then match row vs off n with|some cs=>some (.agg cs)|none=>none else vs[off]?)=some r:=by
 unfold loadA at hl
 split at hl
 ·rename_i bk off
  split at hl
  ·rename_i ver md es vs hg
   exact ⟨_,_,_,_,_,_,rfl,hg,hl⟩
  ·cases hl
 ·cases hl
theorem VR.ptrAt {ι:Mp} {h:AHeap} {sz:Nat→Nat} {b off:Nat} {v:Value} (hv:VR ι (infoOf h.get) sz (.ptr b off) v) {ver:Nat} {ob:AObj} (hg:h.get b=some ⟨ver,ob⟩) (hnd:ob≠.dead):∃cc p,ι b=some (cc,p)∧v=.pointer (some ⟨cc,p+off,none⟩):=by
 simp only[VR] at hv
 obtain ⟨ad,rfl,hd⟩:=hv
 rcases hd with hd|⟨cc,p,e1,rfl⟩
 ·unfold infoOf at hd
  rw[hg] at hd
  cases ob with
  | cells md es vs=>cases md<;>cases hd
  | amap es=>cases hd
  | dead=>exact absurd rfl hnd
 ·exact ⟨cc,p,e1,rfl⟩
theorem loadA_rel {ι:Mp} {h:AHeap} {w:World} {a:AAct} {a':Act} (r:Rel ι h w) (ha:PRel ι (infoOf h.get) (wsz w) a a') {t:TypeId} {i:Nat} {b:Bool} {n:Nat} (hb:aggOf P t=some b) (hn:szOf P t=some n) {x y:AV} (hx:a.tm.get i=some x) (hl:loadA h b n x=some y) :
  ∃v,(do loadVar t (←asAddr (a'.tmps.getD i undef)):Sem Value).run P w=.ok v w∧VR ι (infoOf h.get) (wsz w) y v:=by
 obtain ⟨bk,off,ver,md,es,vs,rfl,hg,hr⟩:=loadA_some hl
 have h1:=ha.tm i _ hx
 obtain ⟨cc,p,e1,e2⟩:=VR.ptrAt h1 hg (by simp)
 cases b with
 | true=>
  simp only[cond_true] at hr
  cases e:row vs off n with
  | none=>rw[e] at hr;cases hr
  | some cs=>
   rw[e] at hr
   cases hr
   obtain ⟨l,e3,e4⟩:=r.loadRow (P:=P) hg e1 e
   exact ⟨.agg l.toArray,by simp [e2,asAddr,loadVar,run_agg w hb,run_size w hn,e3],by simp only[VR];exact ⟨_,rfl,by simpa using e4⟩⟩
 | false=>
  simp only[cond_false] at hr
  obtain ⟨v,e3,e4⟩:=r.cell hg e1 hr
  exact ⟨v,by simp [e2,asAddr,loadVar,run_agg w hb,e3],e4⟩
def readRes (tmps:Array Value):ResultVar→Sem Value
 | .tmp t=>pure (tmps.getD t undef)
 | .cell a t=>do loadVar t (←asAddr (tmps.getD a undef))
theorem results_eq (fn:Func) (tmps:Array Value):results fn tmps=(do let vs ←fn.results.mapM (readRes tmps);pure (if h:vs.size=1 then vs[0] else .tuple vs)):=by
 unfold results
 congr 1
theorem resA_rel {ι:Mp} {h:AHeap} {w:World} {a:AAct} {a':Act} (r0:Rel ι h w) (ha:PRel ι (infoOf h.get) (wsz w) a a'):∀(rs:List ResultVar) (res:List RV) (vs:List AV),mapO (cRes P) rs=some res→resA a h res=some vs→
  ∃l:List Value,(rs.mapM (readRes a'.tmps)).run P w=.ok l w∧VRL ι (infoOf h.get) (wsz w) vs l
 | [],res,vs,hm,hr=>by
  simp only[mapO,Option.some.injEq] at hm
  subst hm
  simp only[resA,Option.some.injEq] at hr
  subst hr
  exact ⟨[],by simp,by simp [VRL]⟩
 | r::rs,res,vs,hm,hr=>by
  unfold mapO at hm
  split at hm
  ·rename_i m ms h1 h2
   cases hm
   cases r with
   | tmp t=>
    simp only[cRes,Option.some.injEq] at h1
    subst h1
    simp only[resA] at hr
    split at hr
    ·rename_i x vs' h0 h3
     cases hr
     obtain ⟨l,e1,e2⟩:=resA_rel r0 ha rs ms vs' h2 h3
     refine ⟨a'.tmps.getD t undef::l,?_,?_⟩
     ·rw[List.mapM_cons]
      simp [readRes,e1]
     ·simp only[VRL]
      exact ⟨_,_,rfl,ha.tm t _ h0,e2⟩
    ·cases hr
   | cell i t=>
    simp only[cRes] at h1
    split at h1
    ·rename_i b n hb hn
     cases h1
     simp only[resA] at hr
     split at hr
     ·rename_i x h0
      split at hr
      ·rename_i v vs' h3 h4
       cases hr
       obtain ⟨l,e1,e2⟩:=resA_rel r0 ha rs ms vs' h2 h4
       obtain ⟨u,e3,e4⟩:=loadA_rel r0 ha hb hn h0 h3
       refine ⟨u::l,?_,?_⟩
       ·rw[List.mapM_cons]
        have e5:(readRes a'.tmps (.cell i t)).run P w=.ok u w:=e3
        simp only[Sem.run_bind,e5,Result.andThen_ok,e1,Sem.run_pure]
       ·simp only[VRL]
        exact ⟨_,_,rfl,e4,e2⟩
      ·cases hr
     ·cases hr
    ·cases h1
  ·cases hm
theorem results_rel {ι:Mp} {h:AHeap} {w:World} {a:AAct} {a':Act} (r0:Rel ι h w) (ha:PRel ι (infoOf h.get) (wsz w) a a') {fn:Func} {res:List RV} {vs:List AV} (hm:mapO (cRes P) fn.results.toList=some res) (hr:resA a h res=some vs) :
  ∃v,(results fn a'.tmps).run P w=.ok v w∧VR ι (infoOf h.get) (wsz w) (one vs) v:=by
 obtain ⟨l,e1,e2⟩:=resA_rel r0 ha _ _ _ hm hr
 refine ⟨if h:l.toArray.size=1 then l.toArray[0] else .tuple l.toArray,?_,?_⟩
 ·rw[results_eq,Sem.run_bind,Array.mapM_eq_mapM_toList]
  simp only[Sem.run_map,e1,Result.andThen_ok,Sem.run_pure]
 ·match vs,l,e2 with
  | [],[],_=>simp [one,VR,VRL]
  | [x],[v],e2=>
   simp only[VRL] at e2
   obtain ⟨_,_,h1,h2,h3⟩:=e2
   cases h1
   simpa [one] using h2
  | x::y::r,v::u::l,e2=>
   simp only[one,VR]
   refine ⟨(v::u::l).toArray,?_,by simpa using e2⟩
   simp
  | [],_::_,e2=>simp [VRL] at e2
  | [x],[],e2=>simp [VRL] at e2
  | [x],_::_::_,e2=>simp [VRL] at e2
  | _::_::_,[],e2=>simp [VRL] at e2
  | _::_::_,[_],e2=>
   simp only[VRL] at e2
   obtain ⟨_,_,h1,_,_,_,h2,_⟩:=e2
   cases h1
   cases h2
theorem wpOps_toS {ops:Array Oper} {Q:Exit→Act→List Frame→World→Prop} {cs:List Frame} (hno:∀a w,¬Q .outgrown a cs w):∀(l:List Nat) (a:Act) (w:World),wpOps P ops (fun e a w=>Q e a cs w) l a w→wpOpsS P ops Q l a cs w
 | [],a,w,h=>h
 | i::rest,a,w,h=>by
  simp only[wpOps] at h
  simp only[wpOpsS]
  cases ho:ops[i]? with
  | none=>
   rw[ho] at h
   exact wpOps_toS hno rest a w h
  | some o=>
   rw[ho] at h
   simp only at h ⊢
   cases hw:Region.wanted o (yielded ops a.tmps) with
   | false=>
    rw[hw] at h
    simp only[Bool.false_eq_true,if_false] at h ⊢
    exact wpOps_toS hno rest _ w h
   | true=>
    rw[hw] at h
    simp only[if_true] at h ⊢
    rcases h with h|⟨_,a0,w0,h⟩
    ·have h2:=Oper.wp_mono (K':=fun a' w'=>wpOpsS P ops Q rest a' cs w') (fun a w h=>wpOps_toS hno rest a w h) h
     unfold Oper.wp at h2
     generalize (execOp a.eval o).run P w=r at h2
     split
     ·exact h2.elim
     ·exact h2
    ·exact absurd h (hno a0 w0)
theorem bif_some {α:Type} {c:Bool} {x:Option α} {y:α} (h:(bif c then x else none)=some y):x=some y:=by
 cases c
 ·cases h
 ·exact h
theorem bif_none {α:Type} {c:Bool} {x:Option α} {y:α} (h:(bif c then none else x)=some y):x=some y:=by
 cases c
 ·exact h
 ·cases h
theorem cOp_recover {o:Oper} (h:cOp P o=some .recover):∃cl,o.op=.call cl∧cl.callee=.builtin .recover:=by
 unfold cOp at h
 cases hop:o.op<;>simp only[hop] at h
 case call cl=>
  refine ⟨cl,rfl,?_⟩
  unfold cCall at h
  simp only at h
  cases hc:cl.callee<;>simp only[hc] at h
  case builtin b=>
   split at h<;>first|rfl|(exfalso;(repeat' split at h)<;>first|contradiction|(cases h;done)|(have q:=bif_some h;first|(cases q;done)|(obtain ⟨_,_,q⟩:=optSome q;cases q;done))|(have q:=bif_none h;first|(cases q;done)|(obtain ⟨_,_,q⟩:=optSome q;cases q;done))|(obtain ⟨_,_,q⟩:=optSome h;cases q;done))
  all_goals exfalso;(repeat' split at h)<;>first|contradiction|(cases h;done)|(have q:=bif_some h;first|(cases q;done)|(obtain ⟨_,_,q⟩:=optSome q;cases q;done))|(have q:=bif_none h;first|(cases q;done)|(obtain ⟨_,_,q⟩:=optSome q;cases q;done))|(obtain ⟨_,_,q⟩:=optSome h;cases q;done)
 all_goals exfalso;(try unfold cMapUpd at h);(repeat' split at h)<;>first|contradiction|(cases h;done)|(have q:=bif_some h;first|(cases q;done)|(obtain ⟨_,_,q⟩:=optSome q;cases q;done))|(have q:=bif_none h;first|(cases q;done)|(obtain ⟨_,_,q⟩:=optSome q;cases q;done))|(obtain ⟨_,_,q⟩:=optSome h;cases q;done)
def LvR (ι:Mp) (I:Nat→Info) (sz:Nat→Nat):Lv→FrameMode→Prop
 | .ret,u=>u=.returning
 | .pan v,u=>∃v',u=.panicking [{ v:=v',recovered:=false }]∧VR ι I sz v v'
theorem LvR.mono {ι ι':Mp} {I I':Nat→Info} {sz sz':Nat→Nat} (g:Grow ι I sz ι' I' sz') {lv:Lv} {u:FrameMode} (h:LvR ι I sz lv u):LvR ι' I' sz' lv u:=by
 cases lv with
 | ret=>exact h
 | pan v=>obtain ⟨v',h1,h2⟩:=h;exact ⟨v',h1,VR.mono g _ _ h2⟩
theorem cCode_seq {c:Code} {x y:MCode} (h:cCode P nt c=some (.seq x y)):∃a b,c=.seq a b∧cCode P nt a=some x∧cCode P nt b=some y:=by
 cases c<;>simp only[cCode] at h
 case seq a b=>
  split at h
  ·cases h;exact ⟨_,_,rfl,‹_›,‹_›⟩
  ·cases h
 case region id ops draw=>
  split at h
  ·cases draw
   ·cases h
   ·have h:=bif_some h;cases h
  ·cases h
 all_goals exfalso;(repeat' split at h)<;>cases h
theorem cCode_reg {c:Code} {l:List MOper} (h:cCode P nt c=some (.reg l)):∃id ops,c=.region id ops false∧cOpers P nt ops false #[] 0 ops.toList=some l:=by
 cases c<;>simp only[cCode] at h
 case region id ops draw=>
  cases draw with
  | false=>
   simp only[cond_false] at h
   split at h
   ·cases h;exact ⟨_,_,rfl,‹_›⟩
   ·cases h
  | true=>
   simp only[cond_true] at h
   split at h
   ·have h:=bif_some h;cases h
   ·cases h
 all_goals exfalso;(repeat' split at h)<;>cases h
theorem ARel.noDefers {ι:Mp} {I:Nat→Info} {sz:Nat→Nat} {tm:Tr AV} {a':Act} (h:ARel nt ι I sz ⟨tm,[]⟩ a'):a'.defers=[]:=by
 have:=h.df
 simpa only[DRelL] using this
theorem evDefer_sound {F:Nat→Option MFun} (hF:FOk P F) (hcall:CallsOk P call) (hD:∀nt,DSound P nt call) (hmix:P.follows .mixedOrders=true) {fuel:Nat} {f:FuncId} {args:List AV} {lv lv':Lv} {h h':AHeap} (he:evDefer call fuel (F f) args lv h=some (lv',h'))
  {ι:Mp} {w:World} {args':Array Value} (hg:Glob P ι) (r:Rel ι h w) (hv:VRL ι (infoOf h.get) (wsz w) args args'.toList) {u:FrameMode} (hu:LvR ι (infoOf h.get) (wsz w) lv u) :
  lv'=.ret∧(callFunc f args').run P w=.ok (.enter f args') w∧CallsD P f args' u w fun e u' w'=>(∃v,e=.returned v)∧settle u'=.returning∧∃ι',Step ι h w ι' h' w'∧Rel ι' h' w':=by
 unfold evDefer at he
 split at he
 ·rename_i nt d b0 mops rest hf
  have hle:args.length≤nt:=by
   cases hq:args.length.ble nt with
   | true=>exact Nat.le_of_ble_eq_true hq
   | false=>rw[hq] at he;cases he
  replace he:=bif_none he
  obtain ⟨fn,hfn,hcf⟩:=hF f _ hf
  replace hcf:=hcf.resolve_right fun q=>q.1
  obtain ⟨c,hb,hc,hres,hname,rfl⟩:=cFunc_spec hcf
  obtain ⟨x,y,rfl,hx,hy⟩:=cCode_seq hc
  obtain ⟨id,ops,rfl,hops⟩:=cCode_reg hx
  have hrun:=run_callFunc (w:=w) (args:=args') hfn hb hname
  split at he
  ·rename_i a1 h1 hev
   have hlv:lv'=.ret∧∃e2 tm2,evCode call fuel rest a1 h1=some (e2,⟨tm2,[]⟩,h')∧(e2=.norm∨e2=.ret):=by
    split at he
    ·rename_i tm2 h2 hq;cases he;exact ⟨rfl,_,_,hq,.inl rfl⟩
    ·rename_i tm2 h2 hq;cases he;exact ⟨rfl,_,_,hq,.inr rfl⟩
    ·cases he
   obtain ⟨rfl,e2,tm2,hev2,he2⟩:=hlv
   refine ⟨rfl,hrun,callsD_of_wpS hfn hb fun c₀ cs hc₀=>wpS_seq (wpS_region ?_)⟩
   cases hol:ops.toList with
   | nil=>rw[hol] at hops;simp [cOpers] at hops
   | cons o os=>
    rw[hol] at hops
    simp only[cOpers] at hops
    split at hops
    ·rename_i m mr hm hmr
     cases hops
     obtain ⟨g1,g2,g3,g4,_,_⟩:=cOper_spec hm
     obtain ⟨cl,k1,k2⟩:=cOp_recover g1
     have hsz:ops.size=os.length+1:=by rw[←Array.length_toList,hol];simp
     have ho:ops[0]?=some o:=by rw[←Array.getElem?_toList,hol];rfl
     have hgd:o.guard=none:=by
      cases e:o.guard with
      | none=>rfl
      | some jw=>
       rw[e] at g2
       simp only[cGuard] at g2
       (repeat' split at g2)<;>cases g2
     have hos:os=ops.toList.drop 1:=by rw[hol];rfl
     rw[List.range_eq_range',hsz,List.range'_succ]
     simp only[wpOpsS,ho]
     have hwant:∀yl,Region.wanted o yl=true:=fun yl=>by simp [Region.wanted,hgd]
     rw[hwant]
     simp only[if_true]
     have hexec:∀ρ:Act,(execOp ρ.eval o).run P w=.ok .recover w:=fun ρ=>by
      rw[builtin_run k1 k2]
      rfl
     rw[hexec]
     simp only
     have hinit:=ARel.init (nt:=fn.ntmps) hv hle
     have key:∀(v0:Value) (u1:FrameMode),VR ι (infoOf h.get) (wsz w) lv.val v0→settle u1=.returning→
       wpOpsS P ops (Exit.thenS (y.wpS P (bodyPostS P fn c₀ cs fun e u' w'=>(∃v,e=.returned v)∧settle u'=.returning∧∃ι',Step ι h w ι' h' w'∧Rel ι' h' w')) (bodyPostS P fn c₀ cs fun e u' w'=>(∃v,e=.returned v)∧settle u'=.returning∧∃ι',Step ι h w ι' h' w'∧Rel ι' h' w'))
        (List.range' (0+1) os.length) (Act.put { tmps:=args'++Array.replicate (fn.ntmps-args'.size) undef,defers:=[] } o.dst v0) ({ c₀ with mode:=u1 }::cs) w:=by
      intro v0 u1 hv0 hu1
      refine wpOps_toS (fun a w hq=>?_) _ _ _ ?_
      ·simp only[Exit.thenS,bodyPostS] at hq
       obtain ⟨_,⟨_,hq⟩,_⟩:=hq
       cases hq
      ·have ha0:ARel fn.ntmps ι (infoOf h.get) (wsz w) (AAct.put ⟨initTm args 0 .nil,[]⟩ d lv.val) (Act.put { tmps:=args'++Array.replicate (fn.ntmps-args'.size) undef,defers:=[] } o.dst v0):=by
        simp only at g3
        rw[g3]
        exact hinit.put g4 hv0
       refine evOps_sound hcall mops os (0+1) _ h ι w _ .norm a1 h1 hos hmr hev ⟨hg,r,ha0⟩ ?_
       intro ι2 w2 a2' s2 r2 ha2
       simp only[Exit.thenS]
       refine wpS_of_wp (evCode_sound hcall (hD fn.ntmps) hmix fuel y rest a1 h1 ι2 w2 a2' e2 ⟨tm2,[]⟩ h' _ hy hev2 ⟨fun g hgl=>s2.grow.ext _ _ (hg g hgl),r2,ha2⟩ ?_)
       intro ι3 w3 a3' s3 r3 ha3
       have hd3:a3'.defers=[]:=by rcases he2 with rfl|rfl<;>exact ARel.noDefers ha3
       obtain ⟨v,hvr,_⟩:=results_rel (P:=P) (fn:=fn) (a:=⟨tm2,[]⟩) r3 (by rcases he2 with rfl|rfl<;>exact ARel.part ha3) hres (vs:=[]) rfl
       have hs13:=s2.trans r s3
       rcases he2 with rfl|rfl
       ·exact ⟨hd3,u1,rfl,v,hvr,⟨v,rfl⟩,hu1,ι3,hs13,r3⟩
       ·exact ⟨hd3,u1,rfl,v,hvr,⟨v,rfl⟩,hu1,ι3,hs13,r3⟩
     cases lv with
     | ret=>
      have hu:u=.returning:=hu
      rw[hu] at hc₀
      have hrec:recoverD (c₀::cs)=none:=by simp [recoverD,hc₀]
      rw[hrec]
      have:=key .nilIface .returning (by simp [VR,Lv.val]) rfl
      have hcc:({ c₀ with mode:=.returning }:Frame)=c₀:=by rw[←hc₀]
      rw[hcc] at this
      exact this
     | pan v=>
      obtain ⟨v',hu1,hv1⟩:=hu
      rw[hu1] at hc₀
      have hrec:recoverD (c₀::cs)=some (v',{ c₀ with mode:=.panicking [{ v:=v',recovered:=true }] }::cs):=by simp [recoverD,hc₀]
      rw[hrec]
      exact key v' (.panicking [{ v:=v',recovered:=true }]) hv1 (by simp [settle])
    ·cases hops
  ·cases he
 ·cases he
def EndsAs (ι:Mp) (h:AHeap) (w:World) (cr:CRes) (h':AHeap) (e:Ending) (w':World):Prop:=
 (∃v,e=.returned v∧∃x,cr=.ret x∧Comes1 ι h w x h' v w')∨(∃v,e=.panicked [{ v,recovered:=false }]∧∃x,cr=.pan x∧Comes1 ι h w x h' v w')
theorem EndsAs.later {ι ι1:Mp} {h h1 h':AHeap} {w w1 w':World} {cr:CRes} {e:Ending} (r:Rel ι h w) (s:Step ι h w ι1 h1 w1) (k:EndsAs ι1 h1 w1 cr h' e w'):EndsAs ι h w cr h' e w':=by
 rcases k with ⟨v,h1,x,h2,ι2,s2,r2,v2⟩|⟨v,h1,x,h2,ι2,s2,r2,v2⟩
 ·exact .inl ⟨v,h1,x,h2,ι2,s.trans r s2,r2,v2⟩
 ·exact .inr ⟨v,h1,x,h2,ι2,s.trans r s2,r2,v2⟩
theorem Leaves.mono {fn:Func} {tmps:Array Value} {R R':Ending→World→Prop} (hR:∀e w,R e w→R' e w):∀(ds:List Deferred) (u:FrameMode) (w:World),Leaves P fn tmps R ds u w→Leaves P fn tmps R' ds u w
 | [],.returning,w,h=>let ⟨v,h1,h2⟩:=h;⟨v,h1,hR _ _ h2⟩
 | [],.panicking chain,w,h=>hR _ _ h
 | [],.run,_,h=>h.elim
 | d::ds,u,w,h=>by
  obtain ⟨h0,fv,cap,f,args,h1,h2,h3⟩:=h
  refine ⟨h0,fv,cap,f,args,h1,h2,h3.mono fun e u' w' k=>?_⟩
  cases e with
  | returned v=>exact Leaves.mono hR ds _ _ k
  | panicked chain=>exact Leaves.mono hR ds _ _ k
  | outgrown=>exact hR _ _ k
theorem leave_sound {F:Nat→Option MFun} (hF:FOk P F) (hcall:CallsOk P call) (hD:∀nt,DSound P nt call) (hmix:P.follows .mixedOrders=true) {fuel:Nat} {fn:Func} {res:List RV} (hm:mapO (cRes P) fn.results.toList=some res) {a:AAct} {a':Act} {cr:CRes} {h':AHeap} :
  ∀(df:List (FuncId×List AV)) (ds:List Deferred) (lv:Lv) (u:FrameMode) (ι:Mp) (h:AHeap) (w:World),leave call fuel F res a df lv h=some (cr,h')→Glob P ι→Rel ι h w→PRel ι (infoOf h.get) (wsz w) a a'→DRelL ι (infoOf h.get) (wsz w) df ds→LvR ι (infoOf h.get) (wsz w) lv u→
   Leaves P fn a'.tmps (EndsAs ι h w cr h') ds u w
 | [],ds,lv,u,ι,h,w,he,g,r0,ha,hd,hu=>by
  simp only[DRelL] at hd
  subst hd
  cases lv with
  | ret=>
   have hu:u=.returning:=hu
   subst hu
   simp only[leave] at he
   split at he
   ·rename_i vs hvs
    cases he
    obtain ⟨v,h1,h2⟩:=results_rel r0 ha hm hvs
    exact ⟨v,h1,.inl ⟨v,rfl,_,rfl,ι,Step.refl _ _ _,r0,h2⟩⟩
   ·cases he
  | pan v=>
   obtain ⟨v',rfl,hv⟩:=hu
   simp only[leave,Option.some.injEq,Prod.mk.injEq] at he
   obtain ⟨rfl,rfl⟩:=he
   exact .inr ⟨v',rfl,_,rfl,ι,Step.refl _ _ _,r0,hv⟩
 | (f,args)::r,ds,lv,u,ι,h,w,he,g,r0,ha,hd,hu=>by
  simp only[DRelL] at hd
  obtain ⟨d,ds,rfl,⟨cap,d1,d2⟩,d3⟩:=hd
  obtain ⟨tg,dargs⟩:=d
  simp only at d1 d2
  subst d1
  simp only[leave] at he
  split at he
  ·rename_i lv2 h2 hev
   obtain ⟨rfl,hrun,hcd⟩:=evDefer_sound hF hcall hD hmix hev g r0 d2 hu
   have hne:u≠.run:=by
    cases lv with
    | ret=>have hu:u=.returning:=hu;rw[hu];simp
    | pan v=>obtain ⟨_,rfl,_⟩:=hu;simp
   refine leaves_cons hne (f:=f) (args:=dargs++cap) (by simpa only[invoke] using hrun) (hcd.mono fun e u' w' k=>?_)
   obtain ⟨⟨v,rfl⟩,hset,ι',s,r'⟩:=k
   simp only
   rw[hset]
   exact Leaves.mono (fun e w2 k=>k.later r0 s) _ _ _ (leave_sound hF hcall hD hmix hm r ds .ret .returning ι' h2 w' he (fun g' hgl=>s.grow.ext _ _ (g g' hgl)) r' (ha.mono s.grow) (DRelL.mono s.grow _ _ d3) rfl)
  ·cases he
theorem evCall_sound {F:Nat→Option MFun} (hF:FOk P F) (hmix:P.follows .mixedOrders=true) (hD:∀k,CallsOk P (evCall F k)→∀nt,DSound P nt (evCall F k)):∀k,CallsOk P (evCall F k)
 | 0=>fun f args h res h' he=>by simp [evCall] at he
 | k+1=>by
  have ih:=evCall_sound hF hmix hD k
  have hD':=hD k ih
  intro f args h cr h' he ι w args' hg r hv
  simp only[evCall] at he
  split at he
  ·rename_i nt body res hf
   have hle:args.length≤nt:=by
    cases hq:args.length.ble nt with
    | true=>exact Nat.le_of_ble_eq_true hq
    | false=>rw[hq] at he;cases he
   replace he:=bif_none he
   obtain ⟨fn,hfn,hcf⟩:=hF f _ hf
   have hcf2:∃m0,cFunc P fn=some (.code nt m0 res):=by
    rcases hcf with h1|h1
    ·exact ⟨_,h1⟩
    ·exact h1.2.1
   obtain ⟨m0,hcf2⟩:=hcf2
   obtain ⟨c,hb,hc0,hres,hname,rfl⟩:=cFunc_spec hcf2
   have hwp:∀e a2 h2 Q,evCode (evCall F k) k body ⟨initTm args 0 .nil,[]⟩ h=some (e,a2,h2)→Ctx P fn.ntmps ι h w ⟨initTm args 0 .nil,[]⟩ { tmps:=args'++Array.replicate (fn.ntmps-args'.size) undef,defers:=[] }→CGoes fn.ntmps ι h w e a2 h2 Q→c.wp P Q { tmps:=args'++Array.replicate (fn.ntmps-args'.size) undef,defers:=[] } w:=by
    intro e a2 h2 Q q1 q2 q3
    rcases hcf with h1|h1
    ·obtain ⟨c',hb',hc,_⟩:=cFunc_spec h1
     rw[hb] at hb'
     cases hb'
     exact evCode_sound ih (hD' fn.ntmps) hmix k c body _ h ι w _ e a2 h2 _ hc q1 q2 q3
    ·exact h1.2.2 _ ih hD' hmix c hb k args h e a2 h2 args' hle q1 ι w Q q2 q3
   have hrun:=run_callFunc (w:=w) (args:=args') hfn hb hname
   have hinit:=ARel.init (nt:=fn.ntmps) hv hle
   unfold CallGives
   rw[hrun]
   simp only
   refine (calls_of_wp_defers hfn hb (R:=EndsAs ι h w cr h') ?_).mono fun e w2 k=>k
   cases hev:evCode (evCall F k) k body ⟨initTm args 0 .nil,[]⟩ h with
   | none=>rw[hev] at he;cases he
   | some q=>
    obtain ⟨e1,a1,h1⟩:=q
    rw[hev] at he
    refine hwp e1 a1 h1 _ hev ⟨hg,r,hinit⟩ ?_
    intro ι2 w2 a2' s2 r2 ha2
    have g2:Glob P ι2:=fun g hgl=>s2.grow.ext _ _ (hg g hgl)
    cases e1 with
    | norm=>exact Leaves.mono (fun e w2 k=>k.later r s2) _ _ _ (leave_sound hF ih hD' hmix hres a1.df a2'.defers .ret .returning ι2 h1 w2 he g2 r2 (ARel.part ha2) (ARel.df ha2) rfl)
    | ret=>exact Leaves.mono (fun e w2 k=>k.later r s2) _ _ _ (leave_sound hF ih hD' hmix hres a1.df a2'.defers .ret .returning ι2 h1 w2 he g2 r2 (ARel.part ha2) (ARel.df ha2) rfl)
    | pan v=>
     intro v' hv'
     exact Leaves.mono (fun e w2 k=>k.later r s2) _ _ _ (leave_sound hF ih hD' hmix hres a1.df a2'.defers (.pan v) _ ι2 h1 w2 he g2 r2 ha2 (PRel.df ha2) ⟨v',rfl,hv'⟩)
    | exit id=>cases he
  ·rename_i p hf
   exact hF f _ hf args h cr h' he ι w args' hg r hv
  ·cases he
end
end Go.Ev
namespace Go.Ev
open Go
def LT (h:AHeap):Prop:=∀b x,h.get b=some x→b<h.n
structure HSt (h h':AHeap):Prop where
 n:h.n≤h'.n
 lt:LT h→LT h'
 no:LT h→∀b,b<h.n→h.get b=none→h'.get b=none
 old:LT h→∀b x,h.get b=some x→∃x',h'.get b=some x'∧(x'=x∨(x.ver<x'.ver∧x.o.info≠.dead∧(x'.o.info=x.o.info∨x'.o.info=.dead)))
theorem HSt.refl (h:AHeap):HSt h h:=⟨Nat.le_refl _,id,fun _ _ _ e=>e,fun _ _ x e=>⟨x,e,.inl rfl⟩⟩
theorem HSt.trans {h h' h'':AHeap} (s:HSt h h') (t:HSt h' h''):HSt h h'' where
 n:=Nat.le_trans s.n t.n
 lt l:=t.lt (s.lt l)
 no l b hb e:=t.no (s.lt l) b (Nat.lt_of_lt_of_le hb s.n) (s.no l b hb e)
 old l b x e:=by
  obtain ⟨x',e1,h1⟩:=s.old l b x e
  obtain ⟨x'',e2,h2⟩:=t.old (s.lt l) b x' e1
  refine ⟨x'',e2,?_⟩
  rcases h1 with rfl|⟨h3,h4,h5⟩
  ·exact h2
  ·rcases h2 with rfl|⟨h6,h7,h8⟩
   ·exact .inr ⟨h3,h4,h5⟩
   ·refine .inr ⟨Nat.lt_trans h3 h6,h4,?_⟩
    rcases h5 with h5|h5
    ·rw[←h5];exact h8
    ·exact absurd h5 h7
theorem HSt.alloc (h:AHeap) (o:AObj):HSt h (h.alloc o) where
 n:=Nat.le_succ _
 lt l b x e:=by
  rw[AHeap.get_alloc] at e
  by_cases hb:b=h.n
  ·subst hb;simp
  ·rw[if_neg hb] at e;exact Nat.lt_succ_of_lt (l b x e)
 no l b hb e:=by
  rw[AHeap.get_alloc,if_neg (by omega)];exact e
 old l b x e:=by
  refine ⟨x,?_,.inl rfl⟩
  have:=l b x e
  rw[AHeap.get_alloc,if_neg (by omega)];exact e
theorem HSt.upd {h:AHeap} {b ver:Nat} {o o':AObj} (hg:h.get b=some ⟨ver,o⟩) (hd:o.info≠.dead) (hi:o'.info=o.info∨o'.info=.dead):HSt h (h.upd b (ver+1) o') where
 n:=Nat.le_refl _
 lt l b' x e:=by
  rw[AHeap.get_upd] at e
  by_cases hb:b'=b
  ·subst hb;exact l _ _ hg
  ·rw[if_neg hb] at e;exact l b' x e
 no l b' hb e:=by
  rw[AHeap.get_upd]
  by_cases hb:b'=b
  ·subst hb;rw[hg] at e;cases e
  ·rw[if_neg hb];exact e
 old l b' x e:=by
  rw[AHeap.get_upd]
  by_cases hb:b'=b
  ·subst hb
   rw[hg] at e
   cases e
   exact ⟨_,if_pos rfl,.inr ⟨Nat.lt_succ_self _,hd,hi⟩⟩
  ·exact ⟨x,by rw[if_neg hb];exact e,.inl rfl⟩
def CallH (call:FuncId→List AV→AHeap→Option (CRes×AHeap)):Prop:=
 ∀f args h r h',call f args h=some (r,h')→HSt h h'
def Res.heap (h:AHeap):Res→AHeap
 | .v _ h' _=>h'
 | .pan _ h'=>h'
 | .df _ _=>h
theorem info_cells (md:Md) (es:Nat) (vs vs':List AV):(AObj.cells md es vs).info=(AObj.cells md es vs').info:=by cases md<;>rfl
theorem cells_live (md:Md) (es:Nat) (vs:List AV):(AObj.cells md es vs).info≠.dead:=by cases md<;>simp [AObj.info]
theorem same_eq' {a b:Md} (h:a.same b=true):a=b:=by
 cases a<;>cases b<;>first|rfl|(cases h;done)|(simp only[Md.same] at h;rw[Nat.eq_of_beq_eq_true h])
theorem appendA_hst {h h':AHeap} {md:Md} {es bytes n:Nat} {s v:AV} {new:List AV} (he:appendA h md es bytes s n new=some (v,h')):HSt h h':=by
 unfold appendA at he
 have he:=bif_none he
 split at he
 ·simp only[Bool.cond_eq_ite] at he
  split at he
  ·cases he;exact HSt.refl _
  ·split at he
   ·cases he;exact HSt.alloc _ _
   ·cases he
 ·simp only[Bool.cond_eq_ite] at he
  split at he
  ·cases he;exact HSt.refl _
  ·split at he
   ·rename_i ver md' es' vs hg
    split at he
    ·cases he
    ·rename_i hne
     have hes:es'=es:=by
      cases q:es'.beq es with
      | true=>exact Nat.eq_of_beq_eq_true q
      | false=>rw[q] at hne;exact absurd rfl hne
     split at he
     ·split at he
      ·rename_i hsm _
       cases he;exact HSt.upd hg (cells_live _ _ _) (.inl (by rw[hes,same_eq' hsm];cases md<;>rfl))
      ·cases he
     ·split at he
      ·split at he
       ·cases he
       ·split at he
        ·cases he;exact HSt.alloc _ _
        ·split at he
         ·cases he
         ·split at he
          ·cases he;exact (HSt.upd hg (cells_live _ _ _) (.inr rfl)).trans (HSt.alloc _ _)
          ·cases he
      ·cases he
   ·cases he
 ·cases he
variable {call:FuncId→List AV→AHeap→Option (CRes×AHeap)}
theorem evOp_hst (hc:CallH call) {a:AAct} {op:MOp} {h:AHeap} {res:Res} (he:evOp call a op h=some res):HSt h (res.heap h):=by
 cases op<;>simp only[evOp,Bool.cond_eq_ite] at he<;>(repeat' split at he) <;>
  first
  | (cases he;done)
  | (cases he;exact HSt.refl _)
  | (cases he;exact HSt.alloc _ _)
  | (cases he;exact hc _ _ _ _ _ ‹_›)
  | (cases he;exact appendA_hst ‹_›)
  | (cases he;simp only[Res.heap];exact HSt.upd (by assumption) (cells_live _ _ _) (.inl (info_cells _ _ _ _)))
  | (cases he;simp only[Res.heap];refine HSt.upd (by assumption) ?_ ?_<;>simp [AObj.info])
theorem fillA_congr {f g:Opd→AV}:∀(zs:List AV) (parts:List (Nat×Nat×Opd)),(∀x∈parts.map (·.2.2),f x=g x)→fillA f zs parts=fillA g zs parts
 | zs,[],_=>rfl
 | zs,(off,size,x)::r,h=>by
  have hx:f x=g x:=h x (by simp)
  simp only[fillA,hx]
  cases (g x).cells.length.beq size with
  | false=>rfl
  | true=>
   simp only[cond_true]
   cases lay zs off (g x).cells with
   | none=>rfl
   | some zs=>exact fillA_congr zs r fun y hy=>h y (by simp at hy ⊢;exact .inr hy)
theorem optMap_congr {f g:Opd→AV} {o:Option Opd} (h:∀x∈optO o,f x=g x):o.map f=o.map g:=by
 cases o with
 | none=>rfl
 | some x=>simp [h x (by simp [optO])]
theorem evOp_congr {a b:AAct} {op:MOp} {h:AHeap} (hh:∀x∈op.opds,a.eval x=b.eval x):evOp call a op h=evOp call b op h:=by
 cases op<;>simp only[MOp.opds,List.mem_cons,List.mem_append,List.not_mem_nil,or_false,forall_eq_or_imp,forall_eq] at hh<;>simp only[evOp]
 case mkfn fn fs cs=>
  rw[List.map_congr_left fun x hx=>hh x (.inl hx),List.map_congr_left fun x hx=>hh x (.inr hx)]
 case slc es x lo hi m=>
  rw[hh.1,optMap_congr (o:=lo) fun x hx=>hh.2 x (.inl hx),optMap_congr (o:=hi) fun x hx=>hh.2 x (.inr (.inl hx)),optMap_congr (o:=m) fun x hx=>hh.2 x (.inr (.inr hx))]
 case slarr len es x lo hi m=>
  rw[hh.1,optMap_congr (o:=lo) fun x hx=>hh.2 x (.inl hx),optMap_congr (o:=hi) fun x hx=>hh.2 x (.inr (.inl hx)),optMap_congr (o:=m) fun x hx=>hh.2 x (.inr (.inr hx))]
 case sls x lo hi=>
  rw[hh.1,optMap_congr (o:=lo) fun x hx=>hh.2 x (.inl hx),optMap_congr (o:=hi) fun x hx=>hh.2 x (.inr hx)]
 case call f args=>rw[List.map_congr_left fun x hx=>hh x hx]
 case callv f args=>rw[hh.1,List.map_congr_left fun x hx=>hh.2 x hx]
 case mx b x xs=>rw[hh.1,List.map_congr_left fun x hx=>hh.2 x hx]
 all_goals
  first
  | rfl
  | (simp only[hh];done)
  | (simp only[hh.1,hh.2];done)
  | (simp only[hh.1,hh.2.1,hh.2.2];done)
  | (rw[fillA_congr _ _ hh];done)
def MOp.isPure:MOp→Bool
 | .mov _=>true
 | .pick _ _ _=>true
 | .build _ _=>true
 | .nilck _=>true
 | .bin _ _ _=>true
 | .eqv _ _ _ _=>true
 | .un _ _=>true
 | .cvi _ _=>true
 | .cvs _=>true
 | .mkif _ _=>true
 | .mkfn _ _ _=>true
 | .sls _ _ _=>true
 | .faddr _ _=>true
 | .fld _ _ _ _=>true
 | .iaddr _ _ _=>true
 | .idxs _ _=>true
 | .idxa _ _ _ _ _=>true
 | .tassert _ _ _=>true
 | .ext _ _=>true
 | .lenS _=>true
 | .lenL _=>true
 | .mx _ _ _=>true
 | .iarr _ _ _ _=>true
 | .slarr _ _ _ _ _ _=>true
 | _=>false
theorem evOp_pure {a:AAct} {op:MOp} {h V:AHeap} {res:Res} (hp:op.isPure=true) (he:evOp call a op h=some res):∃x,res=.v x h .free∧evOp call a op V=some (.v x V .free):=by
 revert he
 cases op<;>(try (cases hp;done))<;>simp only[evOp,Bool.cond_eq_ite]<;>(repeat' split)<;>intro he<;>first|(cases he;done)|(cases he;exact ⟨_,rfl,rfl⟩)
def Meets (a:AAct) (op:MOp) (b:Nat):Prop:=
 ∃x∈op.opds,(∃o,a.eval x=.ptr b o)∨∃o len cap ex,a.eval x=.slice b o len cap ex
theorem evOp_local {a:AAct} {op:MOp} {h h':AHeap} {x:AV} {k:Cls} (he:evOp call a op h=some (.v x h' k)) (hb:k≠.big) (hn:k≠.new) :
  (k=.free∧h'=h∧∀V,evOp call a op V=some (.v x V .free))∨
  (∃b ver md es vs,k=.rd b∧h'=h∧h.get b=some ⟨ver,.cells md es vs⟩∧Meets a op b∧∀V:AHeap,V.get b=h.get b→evOp call a op V=some (.v x V (.rd b)))∨
  ∃b ver md es vs vs',k=.wr b∧h'=h.upd b (ver+1) (.cells md es vs')∧h.get b=some ⟨ver,.cells md es vs⟩∧Meets a op b∧∀V:AHeap,V.get b=h.get b→evOp call a op V=some (.v x (V.upd b (ver+1) (.cells md es vs')) (.wr b)):=by
 cases hp:op.isPure with
 | true=>
  obtain ⟨y,h1,_⟩:=evOp_pure (V:=h) hp he
  cases h1
  refine .inl ⟨rfl,rfl,fun V=>?_⟩
  obtain ⟨y,h1,h2⟩:=evOp_pure (V:=V) hp he
  cases h1
  exact h2
 | false=>
  cases op<;>try (cases hp;done)
  case load ag n y=>
   simp only[evOp] at he
   split at he
   ·rename_i b o e1
    split at he
    ·rename_i ver md es vs e2
     have hm:Meets a (.load ag n y) b:=⟨y,by simp [MOp.opds],.inl ⟨o,e1⟩⟩
     have key:k=.rd b∧h'=h:=by
      cases ag
      ·simp only[cond_false] at he;split at he<;>cases he;exact ⟨rfl,rfl⟩
      ·simp only[cond_true] at he;split at he<;>cases he;exact ⟨rfl,rfl⟩
     obtain ⟨rfl,rfl⟩:=key
     refine .inr (.inl ⟨b,ver,md,es,vs,rfl,rfl,e2,hm,fun V hV=>?_⟩)
     simp only[evOp,e1,hV,e2]
     cases ag
     ·simp only[cond_false] at he ⊢;split at he<;>cases he;rfl
     ·simp only[cond_true] at he ⊢;split at he<;>cases he;rfl
    ·cases he
   ·cases he
  case store n y z=>
   simp only[evOp] at he
   split at he
   ·rename_i b o e1
    cases hc:(!((a.eval z).cells.length.beq n)||!allFlat (a.eval z).cells) with
    | true=>rw[hc] at he;cases he
    | false=>
     rw[hc] at he
     simp only[cond_false] at he
     split at he
     ·rename_i ver md es vs e2
      split at he
      ·rename_i vs' em e3
       cases he
       refine .inr (.inr ⟨b,ver,md,es,vs,vs',rfl,rfl,e2,⟨y,by simp [MOp.opds],.inl ⟨o,e1⟩⟩,fun V hV=>?_⟩)
       simp only[evOp,e1,hc,cond_false,hV,e2,em,e3]
      ·cases he
     ·cases he
   ·cases he
  case cvbs y=>
   simp only[evOp] at he
   split at he
   ·rename_i e1
    cases he
    exact .inl ⟨rfl,rfl,fun V=>by simp only[evOp,e1]⟩
   ·rename_i b o len cap ex e1
    cases hc:len.beq 0 with
    | true=>
     rw[hc] at he
     cases he
     exact .inl ⟨rfl,rfl,fun V=>by simp only[evOp,e1,hc,cond_true]⟩
    | false=>
     rw[hc] at he
     simp only[cond_false] at he
     split at he
     ·rename_i ver md es vs e2
      split at he
      ·rename_i cs e3
       split at he
       ·rename_i s e4
        cases he
        refine .inr (.inl ⟨b,ver,md,es,vs,rfl,rfl,e2,⟨y,by simp [MOp.opds],.inr ⟨o,len,cap,ex,e1⟩⟩,fun V hV=>?_⟩)
        simp only[evOp,e1,hc,cond_false,hV,e2,e3,e4]
       ·cases he
      ·cases he
     ·cases he
   ·cases he
  case slc es y lo hi mm=>
   simp only[evOp] at he
   split at he
   ·(repeat' split at he)<;>first|(cases he;done)|(cases he;refine .inl ⟨rfl,rfl,fun V=>?_⟩;simp only[evOp, *])
   ·rename_i b o len cap ex e1
    split at he
    ·rename_i m hm
     split at he
     ·rename_i hv hh
      split at he
      ·rename_i l hl
       cases hex:ex with
       | true=>
        rw[hex] at he e1
        cases he
        exact .inl ⟨rfl,rfl,fun V=>by simp only[evOp,e1,hm,hh,hl,cond_true]⟩
       | false=>
        rw[hex] at he e1
        simp only[cond_false] at he
        cases hc:cap.beq 0 with
        | true=>rw[hc] at he;cases he
        | false=>
         rw[hc] at he
         simp only[cond_false] at he
         cases hml:(m.beq l&&mm.isSome) with
         | true=>
          rw[hml] at he
          simp only[cond_true] at he
          cases hl0:l.beq 0 with
          | true=>
           rw[hl0] at he
           cases he
           exact .inl ⟨rfl,rfl,fun V=>by simp only[evOp,e1,hm,hh,hl,cond_false,hc,hml,cond_true,hl0]⟩
          | false=>rw[hl0] at he;cases he
         | false=>
          rw[hml] at he
          simp only[cond_false] at he
          split at he
          ·rename_i ver md es' vs e2
           cases hes:es'.beq es with
           | true=>
            rw[hes] at he
            cases he
            refine .inr (.inl ⟨b,ver,md,es',vs,rfl,rfl,e2,⟨y,by simp [MOp.opds],.inr ⟨o,len,cap,_,e1⟩⟩,fun V hV=>?_⟩)
            simp only[evOp,e1,hm,hh,hl,cond_false,hc,hml,hV,e2,hes,cond_true]
           | false=>rw[hes] at he;cases he
          ·cases he
      ·cases he
     ·cases he
    ·cases he
   ·cases he
  case lookup t z m kk ok=>
   simp only[evOp] at he
   cases hk:(!keyOk t (a.eval kk)) with
   | true=>rw[hk] at he;cases he
   | false=>
    rw[hk] at he
    simp only[cond_false] at he
    split at he
    ·rename_i e1
     cases he
     exact .inl ⟨rfl,rfl,fun V=>by simp only[evOp,hk,cond_false,e1]⟩
    ·(repeat' split at he)<;>first|(cases he;done)|(cases he;exact absurd rfl hb)
    ·cases he
  case lenM y=>
   simp only[evOp] at he
   split at he
   ·rename_i e1
    cases he
    exact .inl ⟨rfl,rfl,fun V=>by simp only[evOp,e1]⟩
   ·(repeat' split at he)<;>first|(cases he;done)|(cases he;exact absurd rfl hb)
   ·cases he
  all_goals
   simp only[evOp,Bool.cond_eq_ite] at he
   (repeat' split at he)<;>first|(cases he;done)|(cases he;exact absurd rfl hb)|(cases he;exact absurd rfl hn)
theorem evOp_isNew {a:AAct} {op:MOp} {h h':AHeap} {x:AV} (he:evOp call a op h=some (.v x h' .new)):op.isNew=true:=by
 cases hp:op.isPure with
 | true=>
  obtain ⟨y,h1,_⟩:=evOp_pure (V:=h) hp he
  cases h1
 | false=>
  cases op<;>try (cases hp;done)
  all_goals first|rfl|skip
  all_goals
   exfalso
   simp only[evOp,Bool.cond_eq_ite] at he
   (repeat' split at he)<;>cases he
theorem evOp_newHeap {a:AAct} {op:MOp} {h h':AHeap} {x:AV} (he:evOp call a op h=some (.v x h' .new)):∃ob,h'=h.alloc ob∧ob.info≠.dead:=by
 have hn:=evOp_isNew he
 cases op<;>try (cases hn;done)
 all_goals
  simp only[evOp,Bool.cond_eq_ite] at he
  (repeat' split at he)<;>first|(cases he;done)|(cases he;exact ⟨_,rfl,cells_live _ _ _⟩)|(cases he;exact ⟨_,rfl,by simp [AObj.info]⟩)
section
variable {P:Program} {nt:Nat} {ι:Mp} {w:World} {a':Act} {o:Oper}
theorem cOp_isNew {mo:MOp} (h:cOp P o=some mo) (hn:mo.isNew=true):(∃t,o.op=.alloc t)∨(∃t x,o.op=.box t x)∨(∃t n ps,o.op=.buildSlice t n ps)∨(∃t r,o.op=.makeMap t r)∨∃t x y,o.op=.makeSlice t x y:=by
 cases hop:o.op
 case alloc t=>exact .inl ⟨t,rfl⟩
 case box t x=>exact .inr (.inl ⟨t,x,rfl⟩)
 case buildSlice t n ps=>exact .inr (.inr (.inl ⟨t,n,ps,rfl⟩))
 case makeMap t r=>exact .inr (.inr (.inr (.inl ⟨t,r,rfl⟩)))
 case makeSlice t x y=>exact .inr (.inr (.inr (.inr ⟨t,x,y,rfl⟩)))
 all_goals
  exfalso
  simp only[cOp,hop] at h
  try unfold cMapUpd at h
  try unfold cCall at h
  (try simp only at h)
  (repeat' split at h)<;>first|contradiction|(cases h;first|(cases hn;done)|contradiction)|(have q:=bif_some h;first|(cases q;cases hn;done)|(obtain ⟨_,_,rfl⟩:=optSome q;cases hn;done))|(have q:=bif_none h;first|(cases q;cases hn;done)|(obtain ⟨_,_,rfl⟩:=optSome q;cases hn;done))|(obtain ⟨_,_,rfl⟩:=optSome h;cases hn;done)
theorem evOp_new {h h2 h':AHeap} {a:AAct} {mo:MOp} {x:AV} (c:Ctx P nt ι h w a a') (hc:cOp P o=some mo) (he:evOp call a mo h2=some (.v x h' .new)):∃mk ob,x=mk h2.n∧h'=h2.alloc ob∧NewOk P o a' w ι h mk ob:=by
 have key:IsNew P o a' w ι h h2 (.v x h' .new):=by
  rcases cOp_isNew hc (evOp_isNew he) with ⟨t,hop⟩|⟨t,y,hop⟩|⟨t,n,ps,hop⟩|⟨t,r,hop⟩|⟨t,y,z,hop⟩
  ·exact s_alloc c hop hc he
  ·exact s_box c hop hc he
  ·exact s_bslice c hop hc he
  ·exact s_mkmap c hop hc he
  ·exact s_mkslice c hop hc he
 obtain ⟨mk,ob,h1,h2⟩:=key
 cases h1
 exact ⟨mk,ob,rfl,rfl,h2⟩
end
end Go.Ev
namespace Go.Ev
open Go
variable {call:FuncId→List AV→AHeap→Option (CRes×AHeap)}
theorem evOps_hst (hc:CallH call):∀(l:List MOper) (a:AAct) (h:AHeap) (e:AExit) (a2:AAct) (h2:AHeap),evOps call l a h=some (e,a2,h2)→HSt h h2
 | [],a,h,e,a2,h2,he=>by simp only[evOps,Option.some.injEq,Prod.mk.injEq] at he;obtain ⟨_,_,rfl⟩:=he;exact HSt.refl _
 | o::r,a,h,e,a2,h2,he=>by
  simp only[evOps,Bool.cond_eq_ite] at he
  split at he
  ·split at he
   ·rename_i x h' k ho
    exact (evOp_hst hc ho).trans (evOps_hst hc r _ _ _ _ _ he)
   ·rename_i x h' ho
    cases he
    exact evOp_hst hc ho
   ·exact evOps_hst hc r _ _ _ _ _ he
   ·cases he
  ·exact evOps_hst hc r _ _ _ _ _ he
theorem evD_hst (hc:CallH call) (all:List (Nat×MOper)):∀(l:List (Nat×MOper)) (a:AAct) (h:AHeap) (rs:List Rec) (pan:Option (Nat×AV)) (e:AExit) (a2:AAct) (h2:AHeap),evD call all l a h rs pan=some (e,a2,h2)→HSt h h2
 | [],a,h,rs,pan,e,a2,h2,he=>by
  cases pan<;>simp only[evD,Option.some.injEq,Prod.mk.injEq] at he<;>obtain ⟨_,_,rfl⟩:=he<;>exact HSt.refl _
 | (i,o)::r,a,h,rs,pan,e,a2,h2,he=>by
  simp only[evD] at he
  generalize skipsD o.bef pan=q at he
  cases q with
  | true=>exact evD_hst hc all r _ _ _ _ _ _ _ he
  | false=>
   simp only[Bool.cond_eq_ite,Bool.false_eq_true,if_false] at he
   split at he
   ·split at he
    ·rename_i x h' k ho
     split at he
     ·exact (evOp_hst hc ho).trans (evD_hst hc all r _ _ _ _ _ _ _ he)
     ·cases he
    ·rename_i x h' ho
     split at he
     ·cases he
     ·split at he
      ·have:=evOp_hst hc ho
       exact HSt.trans this (evD_hst hc all r _ _ _ _ _ _ _ he)
      ·cases he
    ·cases he
    ·cases he
   ·exact evD_hst hc all r _ _ _ _ _ _ _ he
theorem iter_hst {f:AAct→AHeap→Option (AExit×AAct×AHeap)} (hf:∀a h e a2 h2,f a h=some (e,a2,h2)→HSt h h2):∀(n:Nat) (a:AAct) (h:AHeap) (e:AExit) (a2:AAct) (h2:AHeap),iter n f a h=some (e,a2,h2)→HSt h h2
 | 0,_,_,_,_,_,he=>by simp [iter] at he
 | n+1,a,h,e,a2,h2,he=>by
  simp only[iter] at he
  split at he
  ·rename_i a' h' h1
   exact (hf _ _ _ _ _ h1).trans (iter_hst hf n _ _ _ _ _ he)
  ·exact hf _ _ _ _ _ he
theorem evCode_hst (hc:CallH call) (fuel:Nat):∀(c:MCode) (a:AAct) (h:AHeap) (e:AExit) (a2:AAct) (h2:AHeap),evCode call fuel c a h=some (e,a2,h2)→HSt h h2
 | .skip,a,h,e,a2,h2,he=>by simp only[evCode,Option.some.injEq,Prod.mk.injEq] at he;obtain ⟨_,_,rfl⟩:=he;exact HSt.refl _
 | .reg l,a,h,e,a2,h2,he=>evOps_hst hc l _ _ _ _ _ (by simpa only[evCode] using he)
 | .regD l,a,h,e,a2,h2,he=>evD_hst hc l l _ _ _ _ _ _ _ (by simpa only[evCode] using he)
 | .seq x y,a,h,e,a2,h2,he=>by
  simp only[evCode] at he
  split at he
  ·rename_i a' h' h1
   exact (evCode_hst hc fuel x _ _ _ _ _ h1).trans (evCode_hst hc fuel y _ _ _ _ _ he)
  ·exact evCode_hst hc fuel x _ _ _ _ _ he
 | .cond o x y,a,h,e,a2,h2,he=>by
  simp only[evCode,Bool.cond_eq_ite] at he
  split at he
  ·split at he
   ·exact evCode_hst hc fuel x _ _ _ _ _ he
   ·exact evCode_hst hc fuel y _ _ _ _ _ he
  ·cases he
 | .block id x,a,h,e,a2,h2,he=>by
  simp only[evCode,Bool.cond_eq_ite] at he
  split at he
  ·rename_i i a' h' h1
   have:=evCode_hst hc fuel x _ _ _ _ _ h1
   split at he<;>cases he<;>exact this
  ·exact evCode_hst hc fuel x _ _ _ _ _ he
 | .loop x,a,h,e,a2,h2,he=>iter_hst (fun a h e a2 h2 q=>evCode_hst hc fuel x a h e a2 h2 q) _ _ _ _ _ _ (by simpa only[evCode] using he)
 | .exit id,a,h,e,a2,h2,he=>by simp only[evCode,Option.some.injEq,Prod.mk.injEq] at he;obtain ⟨_,_,rfl⟩:=he;exact HSt.refl _
 | .ret,a,h,e,a2,h2,he=>by simp only[evCode,Option.some.injEq,Prod.mk.injEq] at he;obtain ⟨_,_,rfl⟩:=he;exact HSt.refl _
theorem evDefer_hst (hc:CallH call) {fuel:Nat} {f:Option MFun} {args:List AV} {lv lv':Lv} {h h':AHeap} (he:evDefer call fuel f args lv h=some (lv',h')):HSt h h':=by
 unfold evDefer at he
 split at he
 ·have he:=bif_none he
  split at he
  ·rename_i a' h1 h2
   have s1:=evOps_hst hc _ _ _ _ _ _ h2
   split at he
   ·rename_i h3
    cases he
    exact s1.trans (evCode_hst hc _ _ _ _ _ _ _ h3)
   ·rename_i h3
    cases he
    exact s1.trans (evCode_hst hc _ _ _ _ _ _ _ h3)
   ·cases he
  ·cases he
 ·cases he
theorem leave_hst (hc:CallH call) {fuel:Nat} {F:Nat→Option MFun} {res:List RV} {a:AAct}:∀(df:List (FuncId×List AV)) (lv:Lv) (h:AHeap) (r:CRes) (h':AHeap),leave call fuel F res a df lv h=some (r,h')→HSt h h'
 | [],.ret,h,r,h',he=>by
  simp only[leave] at he
  split at he<;>cases he
  exact HSt.refl _
 | [],.pan v,h,r,h',he=>by simp only[leave,Option.some.injEq,Prod.mk.injEq] at he;obtain ⟨_,rfl⟩:=he;exact HSt.refl _
 | (f,args)::ds,lv,h,r,h',he=>by
  simp only[leave] at he
  split at he
  ·rename_i lv2 h2 h1
   exact (evDefer_hst hc h1).trans (leave_hst hc ds _ _ _ _ he)
  ·cases he
def PrimsH (F:Nat→Option MFun):Prop:=∀f p,F f=some (.prim p)→∀args h r h',p args h=some (r,h')→HSt h h'
theorem evCall_hst {F:Nat→Option MFun} (hp:PrimsH F):∀k,CallH (evCall F k)
 | 0=>fun f args h r h' he=>by simp [evCall] at he
 | k+1=>by
  have ih:=evCall_hst hp k
  intro f args h r h' he
  simp only[evCall] at he
  split at he
  ·have he:=bif_none he
   split at he
   ·rename_i a h1 h2
    exact (evCode_hst ih _ _ _ _ _ _ _ h2).trans (leave_hst ih _ _ _ _ _ he)
   ·rename_i a h1 h2
    exact (evCode_hst ih _ _ _ _ _ _ _ h2).trans (leave_hst ih _ _ _ _ _ he)
   ·rename_i v a h1 h2
    exact (evCode_hst ih _ _ _ _ _ _ _ h2).trans (leave_hst ih _ _ _ _ _ he)
   ·cases he
  ·rename_i p hf
   exact hp _ _ hf _ _ _ _ he
  ·cases he
end Go.Ev
namespace Go.Ev
open Go
theorem one_bits (look:Nat→Nat) (k:Nat):∀(l:List Edge) (s:Nat),(l.foldl (fun s e=>if Region.binds .any e then s ||| 2^e.on ||| look e.on else s) s).testBit k=true→s.testBit k=true∨∃e∈l,Region.binds .any e=true∧(k=e.on∨(look e.on).testBit k=true)
 | [],s,h=>.inl h
 | e::l,s,h=>by
  simp only[List.foldl_cons] at h
  rcases one_bits look k l _ h with h1|⟨e',h1,h2⟩
  ·by_cases hb:Region.binds .any e=true
   ·rw[if_pos hb] at h1
    simp only[Nat.testBit_or,Bool.or_eq_true,Nat.testBit_two_pow,decide_eq_true_eq] at h1
    rcases h1 with (h1|h1)|h1
    ·exact .inl h1
    ·exact .inr ⟨e,by simp,hb,.inl h1.symm⟩
    ·exact .inr ⟨e,by simp,hb,.inr h1⟩
   ·rw[if_neg hb] at h1;exact .inl h1
  ·exact .inr ⟨e',by simp [h1],h2⟩
theorem beforeL_spec:∀(l:List Oper) (j:Nat) (acc:List Nat),acc.length=j→(CheckFast.beforeL l j acc).length=j+l.length∧(∀k,k<j→(CheckFast.beforeL l j acc)[k]?=acc.reverse[k]?)∧
  ∀i o,l[i]?=some o→∃v,(CheckFast.beforeL l j acc)[j+i]?=some v∧∀k,v.testBit k=true→∃e∈o.after,Region.binds .any e=true∧(k=e.on∨(e.on<j+i∧∃u,(CheckFast.beforeL l j acc)[e.on]?=some u∧u.testBit k=true))
 | [],j,acc,hj=>by
  simp only[CheckFast.beforeL]
  refine ⟨by simp [hj],fun _ _=>trivial,fun i o h=>by simp at h⟩
 | o::rest,j,acc,hj=>by
  simp only[CheckFast.beforeL,CheckFast.force_eq]
  generalize hv:CheckFast.one (fun i=>if i<j then acc.getD (j-1-i) 0 else 0) o=v
  obtain ⟨h1,h2,h3⟩:=beforeL_spec rest (j+1) (v::acc) (by simp [hj])
  have hold:∀k,k<j→(CheckFast.beforeL rest (j+1) (v::acc))[k]?=acc.reverse[k]?:=by
   intro k hk
   rw[h2 k (by omega),List.reverse_cons,List.getElem?_append_left (by simp;omega)]
  refine ⟨by simp [h1];omega,hold,fun i o' ho=>?_⟩
  cases i with
  | zero=>
   simp at ho
   subst ho
   refine ⟨v,?_,fun k hk=>?_⟩
   ·show (CheckFast.beforeL rest (j+1) (v::acc))[j]?=some v
    rw[h2 j (by omega),List.reverse_cons,List.getElem?_append_right (by simp [hj])]
    simp [hj]
   ·rw[←hv] at hk
    unfold CheckFast.one at hk
    rw[←Array.foldl_toList] at hk
    rcases one_bits (fun i=>if i<j then acc.getD (j-1-i) 0 else 0) k _ _ hk with h|⟨e,he,hb,h⟩
    ·simp at h
    ·refine ⟨e,by simpa using he,hb,?_⟩
     rcases h with h|h
     ·exact .inl h
     ·by_cases hlt:e.on<j
      ·rw[if_pos hlt] at h
       refine .inr ⟨by omega,acc.getD (j-1-e.on) 0,?_,h⟩
       rw[hold _ hlt,List.getElem?_reverse (by omega),hj]
       rw[List.getD_eq_getElem?_getD,List.getElem?_eq_getElem (by omega)]
       rfl
      ·rw[if_neg hlt] at h;simp at h
  | succ i=>
   obtain ⟨u,h4,h5⟩:=h3 i o' (by simpa using ho)
   refine ⟨u,by rw[←h4];congr 1;omega,fun k hk=>?_⟩
   obtain ⟨e,he,hb,h⟩:=h5 k hk
   exact ⟨e,he,hb,h.imp id fun ⟨h,q⟩=>⟨by omega,q⟩⟩
theorem before_spec {ops:Array Oper} {i:Nat} {o:Oper} (hi:ops[i]?=some o) {k:Nat} (hk:((CheckFast.beforeF ops).getD i 0).testBit k=true) :
  ∃e∈o.after,Region.binds .any e=true∧(k=e.on∨(e.on<i∧((CheckFast.beforeF ops).getD e.on 0).testBit k=true)):=by
 obtain ⟨_,_,h3⟩:=beforeL_spec ops.toList 0 [] rfl
 obtain ⟨v,h4,h5⟩:=h3 i o (by simpa using hi)
 have hg:∀j u,(CheckFast.beforeL ops.toList 0 [])[j]?=some u→(CheckFast.beforeF ops).getD j 0=u:=by
  intro j u hu
  unfold CheckFast.beforeF
  simp [Array.getD_eq_getD_getElem?,hu]
 rw[Nat.zero_add] at h4 h5
 rw[hg i v h4] at hk
 obtain ⟨e,he,hb,h⟩:=h5 k hk
 refine ⟨e,he,hb,h.imp id ?_⟩
 rintro ⟨h6,u,h7,h8⟩
 exact ⟨h6,by rw[hg _ _ h7];exact h8⟩
theorem num_mem:∀(l:List MOper) (s:Nat) (x:Nat×MOper),x∈num s l↔∃j,l[j]?=some x.2∧x.1=s+j
 | [],s,x=>by simp [num]
 | o::r,s,x=>by
  simp only[num,List.mem_cons,num_mem r (s+1) x]
  constructor
  ·rintro (rfl|⟨j,h1,h2⟩)
   ·exact ⟨0,by simp,by simp⟩
   ·exact ⟨j+1,by simpa using h1,by omega⟩
  ·rintro ⟨j,h1,h2⟩
   cases j with
   | zero=>
    left
    obtain ⟨a,b⟩:=x
    simp at h1 h2
    simp [h1,h2]
   | succ j=>exact .inr ⟨j,by simpa using h1,by omega⟩
theorem num_pairwise:∀(l:List MOper) (s:Nat),(num s l).Pairwise fun x y=>x.1<y.1
 | [],s=>by simp [num]
 | o::r,s=>by
  simp only[num,List.pairwise_cons]
  refine ⟨fun y hy=>?_,num_pairwise r (s+1)⟩
  obtain ⟨j,_,h⟩:=(num_mem r (s+1) y).1 hy
  show s<y.1
  omega
theorem parts_mem (l:List MOper) (p:Nat×MOper→Bool) (x:Nat×MOper):x∈(num 0 l).filter p++(num 0 l).filter (fun x=>!p x)↔l[x.1]?=some x.2:=by
 rw[List.mem_append,List.mem_filter,List.mem_filter,num_mem]
 constructor
 ·rintro (⟨⟨j,h1,h2⟩,_⟩|⟨⟨j,h1,h2⟩,_⟩)<;>(rw[h2,Nat.zero_add];exact h1)
 ·intro h
  cases e:p x
  ·exact .inr ⟨⟨x.1,h,by omega⟩,by simp⟩
  ·exact .inl ⟨⟨x.1,h,by omega⟩,rfl⟩
theorem reorder_mem (l:List MOper) (x:Nat×MOper):x∈reorder l↔l[x.1]?=some x.2:=by
 unfold reorder
 cases (num 0 l).all (fun x=>!((pulled (num 0 l)).testBit x.1)||(x.2.bef &&& pulled (num 0 l)).beq x.2.bef)
 ·exact parts_mem l _ x
 ·exact parts_mem l _ x
theorem parts_pairwise {l:List MOper} {p:Nat×MOper→Bool} (hb:∀(i:Nat) (m:MOper),l[i]?=some m→∀k,m.bef.testBit k=true→k<i)
  (hp:∀x∈num 0 l,p x=true→∀y∈num 0 l,x.2.bef.testBit y.1=true→p y=true):((num 0 l).filter p++(num 0 l).filter (fun x=>!p x)).Pairwise fun x y=>x.1≠y.1∧x.2.bef.testBit y.1=false:=by
 have hq:=num_pairwise l 0
 have one:∀{x y:Nat×MOper},x∈num 0 l→x.1<y.1→x.1≠y.1∧x.2.bef.testBit y.1=false:=by
  intro x y hx hxy
  refine ⟨by omega,?_⟩
  obtain ⟨j,h1,h2⟩:=(num_mem l 0 x).1 hx
  cases q:x.2.bef.testBit y.1 with
  | false=>rfl
  | true=>
   have:=hb j x.2 h1 _ q
   omega
 rw[List.pairwise_append]
 refine ⟨?_,?_,?_⟩
 ·exact (hq.filter _).imp_of_mem fun {x y} hx hy hxy=>one (List.mem_filter.1 hx).1 hxy
 ·exact (hq.filter _).imp_of_mem fun {x y} hx hy hxy=>one (List.mem_filter.1 hx).1 hxy
 ·intro x hx y hy
  obtain ⟨hx0,he⟩:=List.mem_filter.1 hx
  obtain ⟨hy0,hne⟩:=List.mem_filter.1 hy
  refine ⟨fun e=>?_,?_⟩
  ·obtain ⟨j,h1,h2⟩:=(num_mem l 0 x).1 hx0
   obtain ⟨j',h3,h4⟩:=(num_mem l 0 y).1 hy0
   have:j=j':=by omega
   subst this
   rw[h1] at h3
   have:x=y:=by
    obtain ⟨a,b⟩:=x
    obtain ⟨a',b'⟩:=y
    simp at h3 e
    simp [h3,e]
   subst this
   rw[he] at hne
   cases hne
  ·cases q:x.2.bef.testBit y.1 with
   | false=>rfl
   | true=>
    rw[hp x hx0 he y hy0 q] at hne
    cases hne
theorem early_bef {x:Nat×MOper} (h:early x=true) (k:Nat):x.2.bef.testBit k=false:=by
 simp only[early,Bool.and_eq_true] at h
 rw[Nat.eq_of_beq_eq_true h.1.2]
 simp
theorem reorder_pairwise {l:List MOper} (hb:∀(i:Nat) (m:MOper),l[i]?=some m→∀k,m.bef.testBit k=true→k<i):(reorder l).Pairwise fun x y=>x.1≠y.1∧x.2.bef.testBit y.1=false:=by
 unfold reorder
 cases e:(num 0 l).all (fun x=>!((pulled (num 0 l)).testBit x.1)||(x.2.bef &&& pulled (num 0 l)).beq x.2.bef)
 ·refine parts_pairwise hb fun x hx h y hy q=>?_
  simp only[early2,Nat.zero_testBit,Bool.or_false] at h
  rw[early_bef h] at q
  cases q
 ·refine parts_pairwise hb fun x hx h y hy q=>?_
  simp only[early2,Bool.or_eq_true] at h ⊢
  rcases h with h|h
  ·rw[early_bef h] at q
   cases q
  ·right
   have h1:=List.all_eq_true.1 e x hx
   rw[h] at h1
   have h2:x.2.bef &&& pulled (num 0 l)=x.2.bef:=Nat.eq_of_beq_eq_true (by simpa using h1)
   rw[←h2,Nat.testBit_and,Bool.and_eq_true] at q
   exact q.2
theorem numO_mem:∀(l:List Oper) (s:Nat) (x:Nat×Oper),(∃j,l[j]?=some x.2∧x.1=s+j)→x∈numO s l
 | [],s,x,⟨j,h1,h2⟩=>by simp at h1
 | o::r,s,x,⟨j,h1,h2⟩=>by
  simp only[numO,List.mem_cons]
  cases j with
  | zero=>
   left
   obtain ⟨a,b⟩:=x
   simp at h1 h2
   simp [h1,h2]
  | succ j=>exact .inr (numO_mem r (s+1) x ⟨j,by simpa using h1,by omega⟩)
theorem tempsOk_spec {ops:Array Oper} {bef:Array Nat} (h:tempsOk ops bef=true) {i j:Nat} {x y:Oper} (hi:ops[i]?=some x) (hj:ops[j]?=some y) {d:Nat} (hd:x.dst=some d) (hn:y.dst=some d∨d∈readsT ops y) (hne:i≠j) :
  (i<j∧(bef.getD j 0).testBit i=true)∨(j<i∧(bef.getD i 0).testBit j=true):=by
 unfold tempsOk at h
 have h1:=List.all_eq_true.1 h (i,x) (numO_mem _ 0 _ ⟨i,by simpa using hi,by simp⟩)
 simp only[hd] at h1
 have h2:=List.all_eq_true.1 h1 (j,y) (numO_mem _ 0 _ ⟨j,by simpa using hj,by simp⟩)
 simp only[Bool.or_eq_true,Bool.not_eq_true',Bool.or_eq_false_iff] at h2
 rcases h2 with (h2|h2)|⟨h2,h3⟩
 ·exact absurd (Nat.eq_of_beq_eq_true h2) hne
 ·by_cases hlt:i<j
  ·have e1:Nat.max i j=j:=Nat.max_eq_right (by omega)
   have e2:Nat.min i j=i:=Nat.min_eq_left (by omega)
   rw[e1,e2] at h2
   exact .inl ⟨hlt,h2⟩
  ·have e1:Nat.max i j=i:=Nat.max_eq_left (by omega)
   have e2:Nat.min i j=j:=Nat.min_eq_right (by omega)
   rw[e1,e2] at h2
   exact .inr ⟨by omega,h2⟩
 ·exfalso
  rcases hn with hn|hn
  ·rw[hn] at h2
   simp at h2
  ·have:=List.any_eq_true.2 ⟨d,hn,(Nat.beq_refl d:d.beq d=true)⟩
   rw[h3] at this
   cases this
theorem opdsOk_spec:∀{l:List MOper} {os:List Oper},opdsOk l os=true→∀(j:Nat) (m:MOper) (o:Oper),l[j]?=some m→os[j]?=some o→∀t,Opd.t t∈m.op.opds→t∈o.op.operands.toList.flatMap opdT
 | [],[],_,j,m,o,h1,_,_,_=>by simp at h1
 | m::ms,o::os,h,j,m',o',h1,h2,t,ht=>by
  simp only[opdsOk,Bool.and_eq_true] at h
  cases j with
  | zero=>
   simp at h1 h2
   subst h1;subst h2
   have:=List.all_eq_true.1 h.1 _ ht
   simp only at this
   obtain ⟨u,hu,e⟩:=List.any_eq_true.1 this
   rw[Nat.eq_of_beq_eq_true e]
   exact hu
  | succ j=>exact opdsOk_spec h.2 j m' o' (by simpa using h1) (by simpa using h2) t ht
 | [],_::_,h,_,_,_,_,_,_,_=>by simp [opdsOk] at h
 | _::_,[],h,_,_,_,_,_,_,_=>by simp [opdsOk] at h
end Go.Ev
namespace Go.Ev
open Go
inductive Ent where
 | skip
 | unw
 | val (x:AV) (k:Cls)
 | pan (x:AV)
structure Row where
 i:Nat
 o:MOper
 a:AAct
 h:AHeap
 h':AHeap
 ent:Ent
def Row.cls (r:Row):Cls:=match r.ent with|.val _ k=>k|.pan _=>.big|_=>.free
def Row.out (r:Row) (a:AAct):AAct:=match r.ent with|.val x _=>a.put r.o.dst x|.unw=>a.put r.o.dst undefA|_=>a
def Row.rcd (r:Row):Rec:=⟨r.i,r.cls,r.h,r.h'⟩
def Row.pan' (r:Row) (pan:Option (Nat×AV)):Option (Nat×AV):=match r.ent with|.pan x=>some (r.i,x)|_=>pan
def Row.ran (r:Row):Prop:=match r.ent with|.val _ _=>True|.unw=>True|_=>False
def RowOk (call:FuncId→List AV→AHeap→Option (CRes×AHeap)) (r:Row) (pan:Option (Nat×AV)):Prop:=
 match r.ent with
 | .skip=>skipsD r.o.bef pan=true∧r.h'=r.h
 | .unw=>skipsD r.o.bef pan=false∧wantedA r.a r.o.guard=false∧r.h'=r.h
 | .val x k=>skipsD r.o.bef pan=false∧wantedA r.a r.o.guard=true∧evOp call r.a r.o.op r.h=some (.v x r.h' k)
 | .pan x=>pan=none∧wantedA r.a r.o.guard=true∧evOp call r.a r.o.op r.h=some (.pan x r.h')
def Chain (call:FuncId→List AV→AHeap→Option (CRes×AHeap)):List Row→AAct→AHeap→Option (Nat×AV)→AAct→AHeap→Option (Nat×AV)→Prop
 | [],a,h,pan,a2,h2,pan2=>a=a2∧h=h2∧pan=pan2
 | r::T,a,h,pan,a2,h2,pan2=>r.a=a∧r.h=h∧RowOk call r pan∧Chain call T (r.out a) r.h' (r.pan' pan) a2 h2 pan2
def Compat (r:Rec) (s:Row):Prop:=s.o.bef.testBit r.i=true∨compat r s.cls s.h s.h'=true
theorem compat_free (r:Rec) (hb ha:AHeap):compat r .free hb ha=true:=by
 unfold compat
 cases r.k<;>rfl
theorem compat_free' {r:Rec} (h:r.k=.free) (k:Cls) (hb ha:AHeap):compat r k hb ha=true:=by
 unfold compat
 rw[h]
section
variable {call:FuncId→List AV→AHeap→Option (CRes×AHeap)}
theorem okWith_spec {bef:Nat} {k:Cls} {hb ha:AHeap}:∀{rs:List Rec},okWith bef k hb ha rs=true→∀r∈rs,bef.testBit r.i=true∨compat r k hb ha=true
 | [],_,r,hr=>by simp at hr
 | q::rs,h,r,hr=>by
  simp only[okWith,Bool.and_eq_true,Bool.or_eq_true] at h
  rcases List.mem_cons.1 hr with rfl|hr
  ·exact h.1
  ·exact okWith_spec h.2 r hr
theorem evD_trace {all:List (Nat×MOper)}:∀(l:List (Nat×MOper)) (a:AAct) (h:AHeap) (rs:List Rec) (pan:Option (Nat×AV)) (e:AExit) (a2:AAct) (h2:AHeap),evD call all l a h rs pan=some (e,a2,h2)→
  ∃T af pan2,T.map (fun r:Row=>(r.i,r.o))=l∧Chain call T a h pan af h2 pan2∧T.Pairwise (fun r s=>Compat r.rcd s)∧(∀r∈rs,∀s∈T,Compat r s)∧
   match pan2 with
   | none=>e=.norm∧a2=af
   | some (_,v)=>e=.pan v∧a2=⟨dels all af.tm,af.df⟩
 | [],a,h,rs,pan,e,a2,h2,he=>by
  cases pan with
  | none=>
   simp only[evD,Option.some.injEq,Prod.mk.injEq] at he
   obtain ⟨rfl,rfl,rfl⟩:=he
   exact ⟨[],a,none,rfl,⟨rfl,rfl,rfl⟩,List.Pairwise.nil,fun _ _ s hs=>by simp at hs,rfl,rfl⟩
  | some q=>
   simp only[evD,Option.some.injEq,Prod.mk.injEq] at he
   obtain ⟨rfl,rfl,rfl⟩:=he
   exact ⟨[],a,some q,rfl,⟨rfl,rfl,rfl⟩,List.Pairwise.nil,fun _ _ s hs=>by simp at hs,rfl,rfl⟩
 | (i,o)::r,a,h,rs,pan,e,a2,h2,he=>by
  simp only[evD] at he
  have fin:∀(row:Row) (rs':List Rec),row.i=i→row.o=o→row.a=a→row.h=h→RowOk call row pan→evD call all r (row.out a) row.h' rs' (row.pan' pan)=some (e,a2,h2)→
    (∀q∈rs,q∈rs')→(∀q∈rs,Compat q row)→(row.rcd∈rs'∨row.cls=.free)→
    ∃T af pan2,T.map (fun r:Row=>(r.i,r.o))=(i,o)::r∧Chain call T a h pan af h2 pan2∧T.Pairwise (fun r s=>Compat r.rcd s)∧(∀r∈rs,∀s∈T,Compat r s)∧
     match pan2 with
     | none=>e=.norm∧a2=af
     | some (_,v)=>e=.pan v∧a2=⟨dels all af.tm,af.df⟩:=by
   intro row rs' h1 h3 h4 h5 hok hev hsub hcm hin
   obtain ⟨T,af,pan2,t1,t2,t3,t4,t5⟩:=evD_trace r _ _ _ _ _ _ _ hev
   refine ⟨row::T,af,pan2,by simp [t1,h1,h3],⟨h4,h5,hok,t2⟩,List.Pairwise.cons (fun s hs=>?_) t3,fun q hq s hs=>?_,t5⟩
   ·rcases hin with hin|hin
    ·exact t4 _ hin s hs
    ·exact .inr (compat_free' hin _ _ _)
   ·rcases List.mem_cons.1 hs with rfl|hs
    ·exact hcm q hq
    ·exact t4 q (hsub q hq) s hs
  cases hsk:skipsD o.bef pan with
  | true=>
   rw[hsk] at he
   exact fin ⟨i,o,a,h,h,.skip⟩ rs rfl rfl rfl rfl ⟨hsk,rfl⟩ he (fun _ hq=>hq) (fun q _=>.inr (compat_free _ _ _)) (.inr rfl)
  | false=>
   rw[hsk] at he
   simp only[cond_false] at he
   cases hw:wantedA a o.guard with
   | false=>
    rw[hw] at he
    exact fin ⟨i,o,a,h,h,.unw⟩ rs rfl rfl rfl rfl ⟨hsk,hw,rfl⟩ he (fun _ hq=>hq) (fun q _=>.inr (compat_free _ _ _)) (.inr rfl)
   | true=>
    rw[hw] at he
    simp only[cond_true] at he
    split at he
    ·rename_i x h' k ho
     cases hok:okWith o.bef k h h' rs with
     | false=>rw[hok] at he;cases he
     | true=>
      rw[hok] at he
      exact fin ⟨i,o,a,h,h',.val x k⟩ (⟨i,k,h,h'⟩::rs) rfl rfl rfl rfl ⟨hsk,hw,ho⟩ he (fun _ hq=>List.mem_cons_of_mem _ hq) (fun q hq=>okWith_spec hok q hq) (.inl (List.mem_cons_self ..))
    ·rename_i x h' ho
     split at he
     ·cases he
     ·cases hok:okWith o.bef .big h h' rs with
      | false=>rw[hok] at he;cases he
      | true=>
       rw[hok] at he
       exact fin ⟨i,o,a,h,h',.pan x⟩ (⟨i,.big,h,h'⟩::rs) rfl rfl rfl rfl ⟨rfl,hw,ho⟩ he (fun _ hq=>List.mem_cons_of_mem _ hq) (fun q hq=>okWith_spec hok q hq) (.inl (List.mem_cons_self ..))
    ·cases he
    ·cases he
theorem chain_split:∀{T1:List Row} {r:Row} {T2:List Row} {a:AAct} {h:AHeap} {pan:Option (Nat×AV)} {a2:AAct} {h2:AHeap} {pan2:Option (Nat×AV)},Chain call (T1++r::T2) a h pan a2 h2 pan2→
  ∃p1,Chain call T1 a h pan r.a r.h p1∧RowOk call r p1∧Chain call T2 (r.out r.a) r.h' (r.pan' p1) a2 h2 pan2
 | [],r,T2,a,h,pan,a2,h2,pan2,hc=>by
  obtain ⟨h1,h3,h4,h5⟩:=hc
  exact ⟨pan,⟨h1.symm,h3.symm,rfl⟩,h4,h1 ▸ h5⟩
 | q::T1,r,T2,a,h,pan,a2,h2,pan2,hc=>by
  obtain ⟨h1,h3,h4,h5⟩:=hc
  obtain ⟨p1,g1,g2,g3⟩:=chain_split h5
  exact ⟨p1,⟨h1,h3,h4,g1⟩,g2,g3⟩
theorem RowOk.hst (hc:CallH call) {r:Row} {pan:Option (Nat×AV)} (h:RowOk call r pan):HSt r.h r.h':=by
 unfold RowOk at h
 split at h
 ·rw[h.2];exact HSt.refl _
 ·rw[h.2.2];exact HSt.refl _
 ·exact evOp_hst hc h.2.2
 ·exact evOp_hst hc h.2.2
theorem Chain.hst (hc:CallH call):∀{T:List Row} {a:AAct} {h:AHeap} {pan:Option (Nat×AV)} {a2:AAct} {h2:AHeap} {pan2:Option (Nat×AV)},Chain call T a h pan a2 h2 pan2→HSt h h2
 | [],_,_,_,_,_,_,h=>by rw[h.2.1];exact HSt.refl _
 | r::T,_,_,_,_,_,_,h=>by
  obtain ⟨_,h2,h3,h4⟩:=h
  rw[←h2]
  exact (h3.hst hc).trans (Chain.hst hc h4)
def asF (S:Nat→Bool):List Row→AAct→AAct
 | [],a=>a
 | r::T,a=>asF S T (bif S r.i then r.out a else a)
theorem asF_append (S:Nat→Bool):∀(T1 T2:List Row) (a:AAct),asF S (T1++T2) a=asF S T2 (asF S T1 a)
 | [],_,_=>rfl
 | r::T1,T2,a=>asF_append S T1 T2 _
theorem Chain.act:∀{T:List Row} {a:AAct} {h:AHeap} {pan:Option (Nat×AV)} {a2:AAct} {h2:AHeap} {pan2:Option (Nat×AV)},Chain call T a h pan a2 h2 pan2→a2=asF (fun _=>true) T a
 | [],_,_,_,_,_,_,h=>h.1.symm
 | _::_,_,_,_,_,_,_,h=>by
  have:=Chain.act h.2.2.2
  exact this
theorem out_get (r:Row) (a:AAct) {t:Nat} (h:r.o.dst≠some t):(r.out a).tm.get t=a.tm.get t:=by
 have key:∀x,(a.put r.o.dst x).tm.get t=a.tm.get t:=by
  intro x
  unfold AAct.put
  cases e:r.o.dst with
  | none=>rfl
  | some d=>
   simp only[Tr.get_set]
   rw[if_neg]
   intro q
   subst q
   exact h e
 unfold Row.out
 split
 ·exact key _
 ·exact key _
 ·rfl
theorem out_get_congr (r:Row) {a b:AAct} {t:Nat} (h:a.tm.get t=b.tm.get t):(r.out a).tm.get t=(r.out b).tm.get t:=by
 have key:∀x,(a.put r.o.dst x).tm.get t=(b.put r.o.dst x).tm.get t:=by
  intro x
  unfold AAct.put
  cases r.o.dst with
  | none=>exact h
  | some d=>simp only[Tr.get_set,h]
 unfold Row.out
 split
 ·exact key _
 ·exact key _
 ·exact h
theorem out_df (r:Row) (a:AAct):(r.out a).df=a.df:=by
 have key:∀x,(a.put r.o.dst x).df=a.df:=by
  intro x
  unfold AAct.put
  cases r.o.dst<;>rfl
 unfold Row.out
 split
 ·exact key _
 ·exact key _
 ·rfl
theorem asF_df (S:Nat→Bool):∀(T:List Row) (a:AAct),(asF S T a).df=a.df
 | [],_=>rfl
 | r::T,a=>by
  simp only[asF,asF_df S T]
  cases S r.i
  ·rfl
  ·exact out_df r a
theorem asF_congr {S S':Nat→Bool} {t:Nat}:∀(T:List Row) (a b:AAct),(∀r∈T,r.o.dst=some t→S r.i=S' r.i)→a.tm.get t=b.tm.get t→(asF S T a).tm.get t=(asF S' T b).tm.get t
 | [],_,_,_,h=>h
 | r::T,a,b,hs,h=>by
  simp only[asF]
  refine asF_congr T _ _ (fun q hq=>hs q (List.mem_cons_of_mem _ hq)) ?_
  by_cases hd:r.o.dst=some t
  ·rw[hs r (List.mem_cons_self ..) hd]
   cases S' r.i
   ·exact h
   ·exact out_get_congr r h
  ·have e1:(bif S r.i then r.out a else a).tm.get t=a.tm.get t:=by cases S r.i;rfl;exact out_get r a hd
   have e2:(bif S' r.i then r.out b else b).tm.get t=b.tm.get t:=by cases S' r.i;rfl;exact out_get r b hd
   rw[e1,e2,h]
theorem asF_skip {S:Nat→Bool} {t:Nat} (T:List Row) (a:AAct) (hs:∀r∈T,r.o.dst=some t→S r.i=false):(asF S T a).tm.get t=a.tm.get t:=by
 have h1:=asF_congr (S:=S) (S':=fun _=>false) T a a hs rfl
 rw[h1]
 have:∀(T:List Row) (a:AAct),asF (fun _=>false) T a=a:=by
  intro T
  induction T with
  | nil=>intro a;rfl
  | cons r T ih=>intro a;simp only[asF,cond_false];exact ih a
 rw[this]
def touch (r:Row) (b:Nat):Bool:=
 match r.h.get b,r.h'.get b with
 | none,none=>false
 | some x,some y=>!(x.ver.beq y.ver)
 | _,_=>true
theorem touch_false {r:Row} {b:Nat} (hl:LT r.h) (hs:HSt r.h r.h') (h:touch r b=false):r.h'.get b=r.h.get b:=by
 unfold touch at h
 split at h
 ·rename_i e1 e2;rw[e1,e2]
 ·rename_i x y e1 e2
  obtain ⟨x',e3,h3⟩:=hs.old hl b x e1
  rw[e2] at e3
  cases e3
  rcases h3 with rfl|⟨h4,_⟩
  ·rw[e1,e2]
  ·simp only[Bool.not_eq_false'] at h
   have:=Nat.eq_of_beq_eq_true h
   omega
 ·cases h
theorem touch_same {r:Row} {b:Nat} (h:r.h'.get b=r.h.get b):touch r b=false:=by
 unfold touch
 rw[h]
 cases r.h.get b with
 | none=>rfl
 | some x=>simp
theorem touch_class {r:Row} {pan:Option (Nat×AV)} (hr:RowOk call r pan) {b:Nat} (h:touch r b=true):r.cls=.big∨r.cls=.wr b∨(r.cls=.new∧b=r.h.n):=by
 have hne:r.h'.get b≠r.h.get b:=fun e=>by rw[touch_same e] at h;cases h
 unfold RowOk at hr
 unfold Row.cls
 split at hr
 ·rw[hr.2] at hne;exact absurd rfl hne
 ·rw[hr.2.2] at hne;exact absurd rfl hne
 ·rename_i x k he
  rw[he]
  simp only
  by_cases hb:k=.big
  ·exact .inl hb
  ·by_cases hn:k=.new
   ·subst hn
    refine .inr (.inr ⟨rfl,?_⟩)
    obtain ⟨ob,e1,_⟩:=evOp_newHeap hr.2.2
    rw[e1,AHeap.get_alloc] at hne
    by_cases hbn:b=r.h.n
    ·exact hbn
    ·rw[if_neg hbn] at hne;exact absurd rfl hne
   ·rcases evOp_local hr.2.2 hb hn with ⟨_,e1,_⟩|⟨_,_,_,_,_,_,e1,_⟩|⟨c,_,_,_,_,_,e0,e1,_⟩
    ·rw[e1] at hne;exact absurd rfl hne
    ·rw[e1] at hne;exact absurd rfl hne
    ·rw[e1,AHeap.get_upd] at hne
     by_cases hbc:b=c
     ·subst hbc;exact .inr (.inl e0)
     ·rw[if_neg hbc] at hne;exact absurd rfl hne
 ·rename_i x he
  rw[he];exact .inl rfl
def gsF (S:Nat→Bool) (b:Nat):List Row→Option Blk→Option Blk
 | [],g=>g
 | r::T,g=>gsF S b T (bif S r.i&&touch r b then r.h'.get b else g)
theorem gsF_append (S:Nat→Bool) (b:Nat):∀(T1 T2:List Row) (g:Option Blk),gsF S b (T1++T2) g=gsF S b T2 (gsF S b T1 g)
 | [],_,_=>rfl
 | r::T1,T2,g=>gsF_append S b T1 T2 _
theorem gsF_congr {S S':Nat→Bool} {b:Nat}:∀(T:List Row) (g:Option Blk),(∀r∈T,touch r b=true→S r.i=S' r.i)→gsF S b T g=gsF S' b T g
 | [],_,_=>rfl
 | r::T,g,h=>by
  simp only[gsF]
  have e:(S r.i&&touch r b)=(S' r.i&&touch r b):=by
   cases ht:touch r b with
   | false=>simp
   | true=>rw[h r (List.mem_cons_self ..) ht]
  rw[e]
  exact gsF_congr T _ fun q hq=>h q (List.mem_cons_of_mem _ hq)
theorem gsF_none {S:Nat→Bool} {b:Nat}:∀(T:List Row) (g:Option Blk),(∀r∈T,touch r b=true→S r.i=false)→gsF S b T g=g
 | [],_,_=>rfl
 | r::T,g,h=>by
  simp only[gsF]
  have e:(S r.i&&touch r b)=false:=by
   cases ht:touch r b with
   | false=>simp
   | true=>rw[h r (List.mem_cons_self ..) ht];rfl
  rw[e]
  exact gsF_none T _ fun q hq=>h q (List.mem_cons_of_mem _ hq)
theorem gsF_all (hc:CallH call) {S:Nat→Bool} {b:Nat}:∀{T:List Row} {a:AAct} {h:AHeap} {pan:Option (Nat×AV)} {a2:AAct} {h2:AHeap} {pan2:Option (Nat×AV)},Chain call T a h pan a2 h2 pan2→LT h→(∀r∈T,touch r b=true→S r.i=true)→gsF S b T (h.get b)=h2.get b
 | [],_,_,_,_,_,_,h,_,_=>by rw[←h.2.1];rfl
 | r::T,_,h,_,_,_,_,hch,hl,hs=>by
  obtain ⟨_,h2,h3,h4⟩:=hch
  have s:=h3.hst hc
  have hl':LT r.h:=by rw[h2];exact hl
  simp only[gsF]
  have e:(bif S r.i&&touch r b then r.h'.get b else h.get b)=r.h'.get b:=by
   cases ht:touch r b with
   | false=>rw[touch_false hl' s ht,h2];simp
   | true=>rw[hs r (List.mem_cons_self ..) ht];rfl
  rw[e]
  exact gsF_all hc h4 (s.lt hl') fun q hq=>hs q (List.mem_cons_of_mem _ hq)
def mkTr (f:Nat→Option Blk):Nat→Tr Blk
 | 0=>.nil
 | n+1=>match f n with
  | some x=>(mkTr f n).set n x
  | none=>mkTr f n
def mkHeap (f:Nat→Option Blk) (n:Nat):AHeap:=⟨n,mkTr f n⟩
theorem mkTr_get (f:Nat→Option Blk):∀(n b:Nat),(mkTr f n).get b=if b<n then f b else none
 | 0,b=>by simp [mkTr,Tr.get_nil]
 | n+1,b=>by
  simp only[mkTr]
  have ih:=mkTr_get f n b
  cases e:f n with
  | none=>
   simp only
   rw[ih]
   by_cases h:b<n
   ·rw[if_pos h,if_pos (by omega)]
   ·rw[if_neg h]
    by_cases h2:b=n
    ·subst h2;rw[if_pos (by omega),e]
    ·rw[if_neg (by omega)]
  | some x=>
   simp only[Tr.get_set]
   rw[ih]
   by_cases h2:b=n
   ·subst h2;rw[if_pos rfl,if_pos (by omega),e]
   ·rw[if_neg h2]
    by_cases h:b<n
    ·rw[if_pos h,if_pos (by omega)]
    ·rw[if_neg h,if_neg (by omega)]
theorem mkHeap_get (f:Nat→Option Blk) (n b:Nat):(mkHeap f n).get b=if b<n then f b else none:=mkTr_get f n b
end
end Go.Ev
namespace Go.Ev
open Go
structure Stp (ι:Mp) (h:AHeap) (w:World) (ι':Mp) (h':AHeap) (w':World):Prop where
 grow:Grow ι (infoOf h.get) (wsz w) ι' (infoOf h'.get) (wsz w')
 wn_le:w.heap.size≤w'.heap.size
 keep:∀c,c<w.heap.size→(∀b p,ι b=some (c,p)→OwnL h b→False)→w'.heap[c]?=w.heap[c]?
 frm:∀b c p,ι b=none→ι' b=some (c,p)→w.heap.size≤c∨∃b0 p0,ι b0=some (c,p0)∧OwnL h b0∧infoOf h'.get b0=.dead
 oth:w'.os=w.os∧w'.output=w.output∧w'.tape=w.tape
section
variable {ι ι' ι'':Mp} {h h' h'' k k':AHeap} {w w' w'':World}
theorem Step.stp (s:Step ι h w ι' h' w'):Stp ι h w ι' h' w':=⟨s.grow,s.wn_le,s.keep,s.frm,s.oth⟩
theorem Stp.refl (ι:Mp) (h:AHeap) (w:World):Stp ι h w ι h w:=(Step.refl ι h w).stp
theorem Stp.trans (r:Rel ι h w) (s:Stp ι h w ι' h' w') (t:Stp ι' h' w' ι'' h'' w''):Stp ι h w ι'' h'' w'' where
 grow:=s.grow.trans t.grow
 wn_le:=Nat.le_trans s.wn_le t.wn_le
 keep c hc hno:=by
  have e1:=s.keep c hc hno
  rw[←e1]
  refine t.keep c (Nat.lt_of_lt_of_le hc s.wn_le) fun b p hb ho=>?_
  cases e:ι b with
  | none=>
   rcases s.frm b c p e hb with h1|⟨b0,p0,h1,h2,_⟩
   ·omega
   ·exact hno b0 p0 h1 h2
  | some y=>
   have:=s.grow.ext b y e
   rw[hb] at this
   cases this
   exact hno b p e (r.ownBack s.grow e ho)
 frm b c p h1 h2:=by
  cases e:ι' b with
  | some y=>
   have:=t.grow.ext b y e
   rw[h2] at this
   cases this
   rcases s.frm b c p h1 e with h3|⟨b0,p0,h3,h4,h5⟩
   ·exact .inl h3
   ·exact .inr ⟨b0,p0,h3,h4,t.grow.dead _ h5⟩
  | none=>
   rcases t.frm b c p e h2 with h3|⟨b0,p0,h3,h4,h5⟩
   ·exact .inl (Nat.le_trans s.wn_le h3)
   ·cases e0:ι b0 with
    | some y=>
     have:=s.grow.ext b0 y e0
     rw[h3] at this
     cases this
     exact .inr ⟨b0,p0,e0,r.ownBack s.grow e0 h4,h5⟩
    | none=>
     rcases s.frm b0 c p0 e0 h3 with h6|⟨b1,p1,h6,h7,h8⟩
     ·exact .inl h6
     ·exact .inr ⟨b1,p1,h6,h7,t.grow.dead _ h8⟩
 oth:=⟨t.oth.1.trans s.oth.1,t.oth.2.1.trans s.oth.2.1,t.oth.2.2.trans s.oth.2.2⟩
structure Alike (ι:Mp) (h k:AHeap):Prop where
 eq:∀b x,ι b=some x→h.get b=k.get b
 dead:∀b,infoOf h.get b=.dead→infoOf k.get b=.dead
theorem Alike.info (a:Alike ι h k) {b:Nat} {x:Nat×Nat} (e:ι b=some x):infoOf h.get b=infoOf k.get b:=by
 unfold infoOf
 rw[a.eq b x e]
theorem Alike.grow (a:Alike ι h k) (sz:Nat→Nat):Grow ι (infoOf h.get) sz ι (infoOf k.get) sz where
 ext _ _ e:=e
 dead:=a.dead
 live b o f e x hx hl:=.inl (by rw[←a.info hx];exact hl)
 sz _:=Nat.le_refl _
theorem Alike.own (a:Alike ι h k) {b:Nat} {x:Nat×Nat} (e:ι b=some x) (ho:OwnL k b):OwnL h b:=by
 obtain ⟨f,s,hf⟩:=ho
 exact ⟨f,s,by rw[a.info e];exact hf⟩
theorem Alike.rel (a:Alike ι h k) (r:Rel ι h w) (hl:LT k) (hd:∀b x,ι b=some x→b<k.n):Rel ι k w where
 dom b c p e:=hd b _ e
 lt:=hl
 obj b c p e:=by
  obtain ⟨x,h1,h2,h3⟩:=r.obj b c p e
  exact ⟨x,by rw[←a.eq b _ e];exact h1,h2,h3.mono (a.grow _) rfl⟩
 inj b b' c p p' e e' ho hd':=r.inj b b' c p p' e e' (a.own e ho) (by rw[a.info e'];exact hd')
theorem Step.alike (a1:Alike ι h k) (s:Step ι k w ι' k' w') (a2:Alike ι' k' h'):Stp ι h w ι' h' w' where
 grow:=(a1.grow _).trans (s.grow.trans (a2.grow _))
 wn_le:=s.wn_le
 keep c hc hno:=s.keep c hc fun b p hb ho=>hno b p hb (a1.own hb ho)
 frm b c p e1 e2:=by
  rcases s.frm b c p e1 e2 with h1|⟨b0,p0,h1,h2,h3⟩
  ·exact .inl h1
  ·exact .inr ⟨b0,p0,h1,a1.own h1 h2,a2.dead _ h3⟩
 oth:=s.oth
theorem Rel.same (r:Rel ι h w) (hg:h.get=k.get) (hn:h.n=k.n):Rel ι k w:=
 Alike.rel ⟨fun b _ _=>by rw[hg],fun b hd=>by rw[←hg];exact hd⟩ r (fun b x e=>by rw[←hn];exact r.lt b x (by rw[hg];exact e)) fun b x e=>by rw[←hn];exact r.dom b x.1 x.2 e
theorem Stp.same (s:Stp ι h w ι' h' w') (hg:h'.get=k'.get):Stp ι h w ι' k' w' where
 grow:=by rw[←hg];exact s.grow
 wn_le:=s.wn_le
 keep:=s.keep
 frm:=by rw[←hg];exact s.frm
 oth:=s.oth
theorem growAt {b0:Nat} {ob:AObj} (hg:∀b,h'.get b=if b=b0 then some ⟨0,ob⟩ else h.get b) (hι:ι b0=none) (hno:h.get b0=none) {c:Nat} {sz sz':Nat→Nat} (hsz:∀c,sz c≤sz' c) :
  Grow ι (infoOf h.get) sz (mpNew ι b0 c) (infoOf h'.get) sz':=by
 have hne:∀b,b≠b0→infoOf h'.get b=infoOf h.get b:=fun b hb=>by unfold infoOf;rw[hg,if_neg hb]
 have hb0:infoOf h.get b0=.no:=by unfold infoOf;rw[hno]
 refine ⟨fun b x e=>?_,fun b e=>?_,fun b o f e x hx hl=>?_,hsz⟩
 ·unfold mpNew
  rw[if_neg (fun q=>by subst q;rw[hι] at e;cases e)];exact e
 ·rw[hne b (fun q=>by subst q;rw[hb0] at e;cases e)];exact e
 ·rw[hne b (fun q=>by subst q;rw[hb0] at hl;cases hl)];exact .inl hl
theorem Rel.newAt (r:Rel ι h w) {b0:Nat} {ob:AObj} {O:Obj} (hb:b0<h.n) (hn:h'.n=h.n) (hg:∀b,h'.get b=if b=b0 then some ⟨0,ob⟩ else h.get b) (hι:ι b0=none) (hno:h.get b0=none)
  (hh:w'.heap=w.heap.push O) (hoth:w'.os=w.os∧w'.output=w.output∧w'.tape=w.tape) (ho:ORel (mpNew ι b0 w.heap.size) (infoOf h'.get) (wsz w') w' w.heap.size 0 ob) :
  Stp ι h w (mpNew ι b0 w.heap.size) h' w'∧Rel (mpNew ι b0 w.heap.size) h' w':=by
 have hgr:Grow ι (infoOf h.get) (wsz w) (mpNew ι b0 w.heap.size) (infoOf h'.get) (wsz w'):=growAt hg hι hno (wsz_push hh)
 have hold:∀c,c<w.heap.size→w'.heap[c]?=w.heap[c]?:=fun c hc=>by rw[hh,Array.getElem?_push_lt hc];simp [hc]
 have hsz:w'.heap.size=w.heap.size+1:=by rw[hh];simp
 have hne:∀b,b≠b0→infoOf h'.get b=infoOf h.get b:=fun b hb=>by unfold infoOf;rw[hg,if_neg hb]
 refine ⟨⟨hgr,by omega,fun c hc _=>hold c hc,?_,hoth⟩,⟨?_,?_,?_,?_⟩⟩
 ·intro b c p e1 e2
  unfold mpNew at e2
  by_cases hb:b=b0
  ·rw[if_pos hb] at e2;cases e2;exact .inl (Nat.le_refl _)
  ·rw[if_neg hb,e1] at e2;cases e2
 ·intro b c p e
  unfold mpNew at e
  by_cases hb:b=b0
  ·omega
  ·rw[if_neg hb] at e;rw[hn];exact r.dom _ _ _ e
 ·intro b x e
  rw[hg] at e
  by_cases hb:b=b0
  ·omega
  ·rw[if_neg hb] at e;rw[hn];exact r.lt _ _ e
 ·intro b c p e
  by_cases hb:b=b0
  ·unfold mpNew at e
   rw[if_pos hb] at e
   cases e
   exact ⟨⟨0,ob⟩,by rw[hg,if_pos hb],by omega,ho⟩
  ·have e':ι b=some (c,p):=by unfold mpNew at e;rwa[if_neg hb] at e
   obtain ⟨x,e1,e2,e3⟩:=r.obj b c p e'
   exact ⟨x,by rw[hg,if_neg hb];exact e1,by omega,e3.mono hgr (hold c e2)⟩
 ·intro b b' c p p' e e' ho' hd
  unfold mpNew at e e'
  by_cases hb:b=b0
  ·rw[if_pos hb] at e
   cases e
   by_cases hb':b'=b0
   ·rw[hb,hb']
   ·rw[if_neg hb'] at e';exact absurd (r.wlt e') (Nat.lt_irrefl _)
  ·rw[if_neg hb] at e
   by_cases hb':b'=b0
   ·rw[if_pos hb'] at e';cases e';exact absurd (r.wlt e) (Nat.lt_irrefl _)
   ·rw[if_neg hb'] at e'
    obtain ⟨f,s,hf⟩:=ho'
    rw[hne b hb] at hf
    rw[hne b' hb'] at hd
    exact r.inj b b' c p p' e e' ⟨f,s,hf⟩ hd
end
end Go.Ev
namespace Go.Ev
open Go
structure Su (P:Program) (nt:Nat) (call:FuncId→List AV→AHeap→Option (CRes×AHeap)) (ops:Array Oper) (l:List MOper) (T:List Row) (a0:AAct) (h0:AHeap) (af:AAct) (h2:AHeap) (pan2:Option (Nat×AV)):Prop where
 cops:cOpers P nt ops true (CheckFast.beforeF ops) 0 ops.toList=some l
 tmp:tempsOk ops (CheckFast.beforeF ops)=true
 opd:opdsOk l ops.toList=true
 map:T.map (fun r:Row=>(r.i,r.o))=reorder l
 ch:Chain call T a0 h0 none af h2 pan2
 cp:T.Pairwise fun r s=>Compat r.rcd s
 hc:CallH call
 lt:LT h0
structure Rdy (S:Nat→Bool) (T T1:List Row) (R:Row) (T2:List Row):Prop where
 sp:T=T1++R::T2
 clo:∀r∈T,S r.i=true→∀k,r.o.bef.testBit k=true→S k=true
 nj:S R.i=false
 pre:∀k,R.o.bef.testBit k=true→S k=true
section
variable {P:Program} {nt:Nat} {call:FuncId→List AV→AHeap→Option (CRes×AHeap)} {ops:Array Oper} {l:List MOper} {T T1 T2:List Row} {a0:AAct} {h0:AHeap} {af:AAct} {h2:AHeap} {pan2:Option (Nat×AV)} {R:Row} {S S':Nat→Bool}
theorem chain_mem (hc:CallH call) {a:AAct} {h:AHeap} {pan:Option (Nat×AV)} {a2:AAct} {h2:AHeap} {pan2:Option (Nat×AV)} (ch:Chain call T a h pan a2 h2 pan2) {r:Row} (hr:r∈T):HSt h r.h∧HSt r.h r.h'∧HSt r.h' h2∧∃p,RowOk call r p:=by
 obtain ⟨A,B,rfl⟩:=List.append_of_mem hr
 obtain ⟨p1,g1,g2,g3⟩:=chain_split ch
 exact ⟨g1.hst hc,g2.hst hc,g3.hst hc,p1,g2⟩
theorem Su.row (s:Su P nt call ops l T a0 h0 af h2 pan2) {r:Row} (hr:r∈T):∃o,ops[r.i]?=some o∧l[r.i]?=some r.o∧cOper P nt ops true (CheckFast.beforeF ops) r.i o=some r.o:=by
 have h1:(r.i,r.o)∈reorder l:=by rw[←s.map];exact List.mem_map.2 ⟨r,hr,rfl⟩
 rw[reorder_mem] at h1
 simp only at h1
 obtain ⟨hl,hg⟩:=cOpers_get s.cops
 have hlt:r.i<ops.toList.length:=by rw[←hl];exact (List.getElem?_eq_some_iff.1 h1).1
 obtain ⟨m,e1,e2⟩:=hg r.i _ (List.getElem?_eq_getElem hlt)
 rw[h1] at e1
 cases e1
 refine ⟨ops.toList[r.i],?_,h1,by rw[Nat.zero_add] at e2;exact e2⟩
 rw[←Array.getElem?_toList]
 exact List.getElem?_eq_getElem hlt
theorem Su.cover (s:Su P nt call ops l T a0 h0 af h2 pan2) {i:Nat} {o:Oper} (hi:ops[i]?=some o):∃r∈T,r.i=i:=by
 obtain ⟨_,hg⟩:=cOpers_get s.cops
 obtain ⟨m,e1,_⟩:=hg i o (by simpa using hi)
 have h1:(i,m)∈reorder l:=(reorder_mem l (i,m)).2 e1
 rw[←s.map] at h1
 obtain ⟨r,hr,e⟩:=List.mem_map.1 h1
 exact ⟨r,hr,by cases e;rfl⟩
theorem Su.bits (s:Su P nt call ops l T a0 h0 af h2 pan2):∀(n i:Nat) (o:Oper),i≤n→ops[i]?=some o→∀k,((CheckFast.beforeF ops).getD i 0).testBit k=true→k<i:=by
 intro n
 induction n with
 | zero=>
  intro i o hn hi k hk
  obtain ⟨e,he,hb,h⟩:=before_spec hi hk
  obtain ⟨r,hr,rfl⟩:=s.cover hi
  obtain ⟨o',h1,_,h3⟩:=s.row hr
  rw[hi] at h1
  cases h1
  obtain ⟨_,_,_,_,g5,_⟩:=cOper_spec h3
  have:=g5 e he hb
  omega
 | succ n ih=>
  intro i o hn hi k hk
  obtain ⟨e,he,hb,h⟩:=before_spec hi hk
  obtain ⟨r,hr,rfl⟩:=s.cover hi
  obtain ⟨o',h1,_,h3⟩:=s.row hr
  rw[hi] at h1
  cases h1
  obtain ⟨_,_,_,_,g5,_⟩:=cOper_spec h3
  have hlt:=g5 e he hb
  rcases h with h|⟨h,hk2⟩
  ·omega
  ·have hsz:e.on<ops.size:=by
    have:=(Array.getElem?_eq_some_iff.1 hi).1
    omega
   have:=ih e.on ops[e.on] (by omega) (Array.getElem?_eq_getElem hsz) k hk2
   omega
theorem Su.bef (s:Su P nt call ops l T a0 h0 af h2 pan2) {r:Row} (hr:r∈T):r.o.bef=(CheckFast.beforeF ops).getD r.i 0:=by
 obtain ⟨o,h1,_,h3⟩:=s.row hr
 obtain ⟨_,_,_,_,_,g6⟩:=cOper_spec h3
 simpa using g6
theorem Su.ord (s:Su P nt call ops l T a0 h0 af h2 pan2):T.Pairwise fun r q=>r.i≠q.i∧r.o.bef.testBit q.i=false:=by
 have h1:(reorder l).Pairwise fun x y=>x.1≠y.1∧x.2.bef.testBit y.1=false:=by
  refine reorder_pairwise fun i m hm k hk=>?_
  have h2:(i,m)∈reorder l:=(reorder_mem l (i,m)).2 hm
  rw[←s.map] at h2
  obtain ⟨r,hr,e⟩:=List.mem_map.1 h2
  cases e
  obtain ⟨o,h3,_,_⟩:=s.row hr
  rw[s.bef hr] at hk
  exact s.bits r.i r.i o (Nat.le_refl _) h3 k hk
 rw[←s.map,List.pairwise_map] at h1
 exact h1
theorem Rdy.mem (q:Rdy S T T1 R T2):R∈T:=by rw[q.sp];simp
theorem Rdy.mem1 (q:Rdy S T T1 R T2) {r:Row} (hr:r∈T1):r∈T:=by rw[q.sp];simp [hr]
theorem Rdy.mem2 (q:Rdy S T T1 R T2) {r:Row} (hr:r∈T2):r∈T:=by rw[q.sp];simp [hr]
theorem Rdy.t1 (q:Rdy S T T1 R T2) (s:Su P nt call ops l T a0 h0 af h2 pan2) {r:Row} (hr:r∈T1):r.i≠R.i∧r.o.bef.testBit R.i=false∧(S r.i=false→compat r.rcd R.cls R.h R.h'=true):=by
 have h1:=s.ord
 have h3:=s.cp
 rw[q.sp,List.pairwise_append] at h1 h3
 obtain ⟨g1,g2⟩:=h1.2.2 r hr R (by simp)
 refine ⟨g1,g2,fun hS=>?_⟩
 rcases h3.2.2 r hr R (by simp) with h|h
 ·have:=q.pre _ h
  simp only[Row.rcd] at this
  rw[hS] at this;cases this
 ·exact h
theorem Rdy.t2 (q:Rdy S T T1 R T2) (s:Su P nt call ops l T a0 h0 af h2 pan2) {r:Row} (hr:r∈T2):R.i≠r.i∧R.o.bef.testBit r.i=false∧(S r.i=true→r.o.bef.testBit R.i=false∧compat R.rcd r.cls r.h r.h'=true):=by
 have h1:=s.ord
 have h3:=s.cp
 rw[q.sp,List.pairwise_append,List.pairwise_cons] at h1 h3
 obtain ⟨g1,g2⟩:=h1.2.1.1 r hr
 refine ⟨g1,g2,fun hS=>?_⟩
 have hb:r.o.bef.testBit R.i=false:=by
  cases e:r.o.bef.testBit R.i with
  | false=>rfl
  | true=>
   have:=q.clo r (q.mem2 hr) hS _ e
   rw[q.nj] at this;cases this
 refine ⟨hb,?_⟩
 rcases h3.2.1.1 r hr with h|h
 ·simp only[Row.rcd] at h
  rw[hb] at h;cases h
 ·exact h
theorem Rdy.parts (q:Rdy S T T1 R T2) (s:Su P nt call ops l T a0 h0 af h2 pan2):∃p1,Chain call T1 a0 h0 none R.a R.h p1∧RowOk call R p1∧Chain call T2 (R.out R.a) R.h' (R.pan' p1) af h2 pan2:=
 chain_split (q.sp ▸ s.ch)
theorem Rdy.dist (q:Rdy S T T1 R T2) (s:Su P nt call ops l T a0 h0 af h2 pan2) {r:Row} (hr:r∈T):r=R∨(r.i≠R.i∧(r∈T1∨r∈T2)):=by
 rw[q.sp] at hr
 simp only[List.mem_append,List.mem_cons] at hr
 rcases hr with hr|rfl|hr
 ·exact .inr ⟨(q.t1 s hr).1,.inl hr⟩
 ·exact .inl rfl
 ·exact .inr ⟨(q.t2 s hr).1.symm,.inr hr⟩
theorem Rdy.temp (q:Rdy S T T1 R T2) (s:Su P nt call ops l T a0 h0 af h2 pan2) {o:Oper} (ho:ops[R.i]?=some o) {t:Nat} (hn:o.dst=some t∨t∈readsT ops o) :
  (∀r∈T1,r.o.dst=some t→S r.i=true)∧∀r∈T2,r.o.dst=some t→S r.i=false:=by
 have key:∀r∈T,r.i≠R.i→r.o.dst=some t→R.o.bef.testBit r.i=true∨r.o.bef.testBit R.i=true:=by
  intro r hr hne hd
  obtain ⟨x,h1,_,h3⟩:=s.row hr
  obtain ⟨_,_,g3,_,_,_⟩:=cOper_spec h3
  rw[s.bef hr,s.bef q.mem]
  rcases tempsOk_spec s.tmp h1 ho (g3 ▸ hd) hn hne with ⟨_,h⟩|⟨_,h⟩
  ·exact .inl h
  ·exact .inr h
 refine ⟨fun r hr hd=>?_,fun r hr hd=>?_⟩
 ·obtain ⟨g1,g2,_⟩:=q.t1 s hr
  rcases key r (q.mem1 hr) g1 hd with h|h
  ·exact q.pre _ h
  ·rw[g2] at h;cases h
 ·obtain ⟨g1,g2,g3⟩:=q.t2 s hr
  rcases key r (q.mem2 hr) (Ne.symm g1) hd with h|h
  ·rw[g2] at h;cases h
  ·cases e:S r.i with
   | false=>rfl
   | true=>rw[(g3 e).1] at h;cases h
theorem Rdy.get (q:Rdy S T T1 R T2) (s:Su P nt call ops l T a0 h0 af h2 pan2) {o:Oper} (ho:ops[R.i]?=some o) {t:Nat} (hn:t∈readsT ops o):(asF S T a0).tm.get t=R.a.tm.get t:=by
 obtain ⟨g1,g2⟩:=q.temp s ho (.inr hn)
 obtain ⟨p1,c1,_,_⟩:=q.parts s
 rw[q.sp,asF_append]
 simp only[asF,q.nj,cond_false]
 rw[asF_skip _ _ g2,c1.act]
 exact asF_congr _ _ _ (fun r hr hd=>g1 r hr hd) rfl
theorem out_put {r:Row} (hr:r.ran) {t:Nat} (hd:r.o.dst=some t) (a b:AAct):(r.out a).tm.get t=(r.out b).tm.get t:=by
 have key:∀x,(a.put r.o.dst x).tm.get t=(b.put r.o.dst x).tm.get t:=by
  intro x
  unfold AAct.put
  rw[hd]
  simp [Tr.get_set]
 unfold Row.ran at hr
 unfold Row.out
 split at hr
 ·exact key _
 ·exact key _
 ·cases hr
theorem Rdy.put (q:Rdy S T T1 R T2) (s:Su P nt call ops l T a0 h0 af h2 pan2) (hran:R.ran) (hS:S' R.i=true) (hS':∀i,i≠R.i→S' i=S i) (t:Nat):(asF S' T a0).tm.get t=(R.out (asF S T a0)).tm.get t:=by
 obtain ⟨o,ho,_,hco⟩:=s.row q.mem
 obtain ⟨_,_,g3,_,_,_⟩:=cOper_spec hco
 by_cases hd:R.o.dst=some t
 ·obtain ⟨_,g2⟩:=q.temp s ho (.inl (g3 ▸ hd))
  have e:asF S' T a0=asF S' T2 (R.out (asF S' T1 a0)):=by
   rw[q.sp,asF_append]
   simp only[asF,hS,cond_true]
  rw[e,asF_skip _ _ fun r hr hrd=>by rw[hS' _ (Ne.symm (q.t2 s hr).1)];exact g2 r hr hrd]
  exact out_put hran hd _ _
 ·rw[out_get R _ hd]
  refine asF_congr T _ _ (fun r hr hrd=>?_) rfl
  rcases q.dist s hr with rfl|⟨hne,_⟩
  ·exact absurd hrd hd
  ·exact hS' _ hne
theorem touch_ver {r:Row} {b:Nat} (hl:LT r.h) (hs:HSt r.h r.h') (hb:b<r.h.n) (hv:(r.h.ver b).beq (r.h'.ver b)=true):touch r b=false:=by
 unfold touch
 unfold AHeap.ver at hv
 cases e1:r.h.get b with
 | none=>
  rw[hs.no hl b hb e1]
 | some x=>
  obtain ⟨y,e2,_⟩:=hs.old hl b x e1
  rw[e2]
  rw[e1,e2] at hv
  simp [hv]
theorem touch_past {r:Row} {b:Nat} (hl:LT r.h) (hs:HSt r.h r.h') (hb:r.h'.n≤b):touch r b=false:=by
 have e1:r.h.get b=none:=by
  cases e:r.h.get b with
  | none=>rfl
  | some x=>have:=hl b x e;have:=hs.n;omega
 have e2:r.h'.get b=none:=by
  cases e:r.h'.get b with
  | none=>rfl
  | some x=>have:=hs.lt hl b x e;omega
 unfold touch
 rw[e1,e2]
theorem Rdy.gs (q:Rdy S T T1 R T2) (s:Su P nt call ops l T a0 h0 af h2 pan2) {b:Nat} (H1:∀r∈T1,touch r b=true→S r.i=true) (H2:∀r∈T2,touch r b=true→S r.i=false):gsF S b T (h0.get b)=R.h.get b:=by
 obtain ⟨p1,c1,_,_⟩:=q.parts s
 rw[q.sp,gsF_append,gsF_all s.hc c1 s.lt H1]
 simp only[gsF,q.nj,Bool.false_and,cond_false]
 exact gsF_none _ _ H2
theorem Rdy.gs' (q:Rdy S T T1 R T2) (s:Su P nt call ops l T a0 h0 af h2 pan2) (hS:S' R.i=true) (hS':∀i,i≠R.i→S' i=S i) {b:Nat} (H1:∀r∈T1,touch r b=true→S r.i=true) (H2:∀r∈T2,touch r b=true→S r.i=false):gsF S' b T (h0.get b)=R.h'.get b:=by
 obtain ⟨p1,c1,c2,_⟩:=q.parts s
 rw[q.sp,gsF_append,gsF_all s.hc c1 s.lt fun r hr ht=>by rw[hS' _ (q.t1 s hr).1];exact H1 r hr ht]
 simp only[gsF,hS,Bool.true_and]
 rw[gsF_none _ _ fun r hr ht=>by rw[hS' _ (Ne.symm (q.t2 s hr).1)];exact H2 r hr ht]
 cases e:touch R b with
 | true=>rfl
 | false=>exact (touch_false ((c1.hst s.hc).lt s.lt) (c2.hst s.hc) e).symm
theorem Rdy.gsOff (q:Rdy S T T1 R T2) (s:Su P nt call ops l T a0 h0 af h2 pan2) (hS':∀i,i≠R.i→S' i=S i) {b:Nat} (hb:touch R b=false):gsF S' b T (h0.get b)=gsF S b T (h0.get b):=by
 refine gsF_congr _ _ fun r hr ht=>?_
 rcases q.dist s hr with rfl|⟨hne,_⟩
 ·rw[hb] at ht;cases ht
 ·exact hS' _ hne
theorem Rdy.foot (q:Rdy S T T1 R T2) (s:Su P nt call ops l T a0 h0 af h2 pan2) {b:Nat} {x:Blk} (hb:R.h.get b=some x) (hk:R.cls=.rd b∨R.cls=.wr b) :
  (∀r∈T1,touch r b=true→S r.i=true)∧∀r∈T2,touch r b=true→S r.i=false:=by
 obtain ⟨p1,c1,cr,c2⟩:=q.parts s
 have hl:LT R.h:=(c1.hst s.hc).lt s.lt
 have hbn:b<R.h.n:=hl b x hb
 refine ⟨fun r hr ht=>?_,fun r hr ht=>?_⟩
 ·cases e:S r.i with
  | true=>rfl
  | false=>
   exfalso
   have hcm:=(q.t1 s hr).2.2 e
   obtain ⟨m1,m2,m3,p,m4⟩:=chain_mem s.hc c1 hr
   have hlr:LT r.h:=m1.lt s.lt
   rcases touch_class m4 ht with h|h|⟨h,rfl⟩
   ·rcases hk with hk|hk
    ·simp only[compat,Row.rcd,h,hk,Bool.or_eq_true,Bool.and_eq_true] at hcm
     rcases hcm with hcm|⟨h1,h2⟩
     ·rw[touch_past hlr m2 (Nat.le_of_ble_eq_true hcm)] at ht;cases ht
     ·rw[touch_ver hlr m2 (by simpa [Nat.blt_eq] using h1) h2] at ht;cases ht
    ·simp [compat,Row.rcd,h,hk] at hcm
   ·rcases hk with hk|hk<;>simp [compat,Row.rcd,h,hk] at hcm
   ·rcases hk with hk|hk<;>simp [compat,Row.rcd,h,hk] at hcm
 ·cases e:S r.i with
  | false=>rfl
  | true=>
   exfalso
   have hcm:=((q.t2 s hr).2.2 e).2
   obtain ⟨m1,m2,m3,p,m4⟩:=chain_mem s.hc c2 hr
   have hlr:LT r.h:=m1.lt ((cr.hst s.hc).lt hl)
   have hn:R.h.n≤r.h.n:=Nat.le_trans (cr.hst s.hc).n m1.n
   rcases touch_class m4 ht with h|h|⟨h,rfl⟩
   ·rcases hk with hk|hk
    ·simp only[compat,Row.rcd,h,hk] at hcm
     rw[touch_ver hlr m2 (by omega) hcm] at ht;cases ht
    ·simp [compat,Row.rcd,h,hk] at hcm
   ·rcases hk with hk|hk<;>simp [compat,Row.rcd,h,hk] at hcm
   ·omega
end
end Go.Ev
namespace Go.Ev
open Go
abbrev VH (S:Nat→Bool) (T:List Row) (h0:AHeap) (N:Nat):AHeap:=mkHeap (fun b=>gsF S b T (h0.get b)) N
structure Inv (P:Program) (nt:Nat) (T:List Row) (a0:AAct) (h0:AHeap) (N:Nat) (ι0:Mp) (w0:World) (S:Nat→Bool) (ι:Mp) (w:World) (a':Act):Prop where
 clo:∀r∈T,S r.i=true→∀k,r.o.bef.testBit k=true→S k=true
 run:∀r∈T,S r.i=true→r.ran
 glob:Glob P ι
 rel:Rel ι (VH S T h0 N) w
 stp:Stp ι0 h0 w0 ι (VH S T h0 N) w
 act:ARel nt ι (infoOf (VH S T h0 N).get) (wsz w) (asF S T a0) a'
 dom:∀b x,ι b=some x→b<h0.n∨∃r∈T,S r.i=true∧r.h.n≤b∧b<r.h'.n
 fresh:∀b x,ι0 b=none→ι b=some x→h0.n≤b
theorem ARel.ofGet {nt:Nat} {ι:Mp} {I:Nat→Info} {sz:Nat→Nat} {a b:AAct} {a':Act} (h:ARel nt ι I sz a a') (ht:∀t,b.tm.get t=a.tm.get t) (hd:b.df=a.df):ARel nt ι I sz b a':=
 ⟨h.size,fun i=>by rw[ht];exact h.tm i,by rw[hd];exact h.df⟩
section
variable {P:Program} {nt:Nat} {call:FuncId→List AV→AHeap→Option (CRes×AHeap)} {ops:Array Oper} {l:List MOper} {T T1 T2:List Row} {a0:AAct} {h0:AHeap} {af:AAct} {h2:AHeap} {pan2:Option (Nat×AV)} {R:Row} {S S':Nat→Bool}
 {ι0 ι:Mp} {w0 w:World} {a':Act}
theorem chain_pan:∀{T:List Row} {a:AAct} {h:AHeap} {pan:Option (Nat×AV)} {a2:AAct} {h2:AHeap} {j:Nat} {v:AV},Chain call T a h pan a2 h2 (some (j,v))→pan=some (j,v)∨∃r∈T,r.i=j∧r.ent=.pan v
 | [],_,_,_,_,_,_,_,ch=>.inl ch.2.2
 | r::T,_,_,pan,_,_,j,v,ch=>by
  rcases chain_pan ch.2.2.2 with h|⟨q,hq,h1,h2⟩
  ·unfold Row.pan' at h
   split at h
   ·rename_i x e
    cases h
    exact .inr ⟨r,by simp,rfl,e⟩
   ·exact .inl h
  ·exact .inr ⟨q,by simp [hq],h1,h2⟩
theorem Inv.rdy (inv:Inv P nt T a0 h0 h2.n ι0 w0 S ι w a') (sp:T=T1++R::T2) (nj:S R.i=false) (pre:∀k,R.o.bef.testBit k=true→S k=true):Rdy S T T1 R T2:=⟨sp,inv.clo,nj,pre⟩
theorem Inv.fin (s:Su P nt call ops l T a0 h0 af h2 pan2) (q:Rdy S T T1 R T2) (r0:Rel ι0 h0 w0) (inv:Inv P nt T a0 h0 h2.n ι0 w0 S ι w a') (hS:S' R.i=true) (hS':∀i,i≠R.i→S' i=S i) (hran:R.ran)
  {ι':Mp} {w':World} {a2':Act} (st:Stp ι (VH S T h0 h2.n) w ι' (VH S' T h0 h2.n) w') (r':Rel ι' (VH S' T h0 h2.n) w') (hd:∀b x,ι b=none→ι' b=some x→R.h.n≤b∧b<R.h'.n)
  (ha:ARel nt ι' (infoOf (VH S' T h0 h2.n).get) (wsz w') (R.out (asF S T a0)) a2'):Inv P nt T a0 h0 h2.n ι0 w0 S' ι' w' a2' where
 clo r hr h k hk:=by
  have mono:∀k,S k=true→S' k=true:=fun k hk=>by
   by_cases e:k=R.i
   ·rw[e];exact hS
   ·rw[hS' k e];exact hk
  rcases q.dist s hr with rfl|⟨hne,_⟩
  ·exact mono _ (q.pre k hk)
  ·rw[hS' _ hne] at h
   exact mono _ (q.clo r hr h k hk)
 run r hr h:=by
  rcases q.dist s hr with rfl|⟨hne,_⟩
  ·exact hran
  ·rw[hS' _ hne] at h
   exact inv.run r hr h
 glob g hg:=st.grow.ext _ _ (inv.glob g hg)
 rel:=r'
 stp:=inv.stp.trans r0 st
 act:=ha.ofGet (q.put s hran hS hS') (by rw[asF_df,out_df,asF_df])
 dom b x e:=by
  cases e1:ι b with
  | some y=>
   rcases inv.dom b y e1 with h|⟨r,hr,h1,h3⟩
   ·exact .inl h
   ·refine .inr ⟨r,hr,?_,h3⟩
    by_cases e2:r.i=R.i
    ·rw[e2];exact hS
    ·rw[hS' _ e2];exact h1
  | none=>
   obtain ⟨h1,h3⟩:=hd b x e1 e
   exact .inr ⟨R,q.mem,hS,h1,h3⟩
 fresh b x e0 e:=by
  cases e1:ι b with
  | some y=>exact inv.fresh b y e0 e1
  | none=>
   obtain ⟨h1,_⟩:=hd b x e1 e
   have:=(chain_mem s.hc s.ch q.mem).1.n
   omega
theorem guard_get {o:Oper} {g:Option (Nat×Bool)} (hg:cGuard ops o.guard=some g) {a b:AAct} (h:∀t∈readsT ops o,a.tm.get t=b.tm.get t):wantedA a g=wantedA b g:=by
 cases e:o.guard with
 | none=>
  rw[e] at hg
  simp only[cGuard,Option.some.injEq] at hg
  subst hg
  rfl
 | some jw=>
  obtain ⟨j,want⟩:=jw
  rw[e] at hg
  simp only[cGuard] at hg
  split at hg
  ·rename_i oj hj
   split at hg
   ·rename_i t ht
    cases hg
    simp only[wantedA]
    rw[h t]
    unfold readsT
    rw[List.mem_append,e]
    right
    simp only[hj,ht]
    simp
   ·cases hg
  ·cases hg
theorem Rdy.opds (q:Rdy S T T1 R T2) (s:Su P nt call ops l T a0 h0 af h2 pan2) {o:Oper} (ho:ops[R.i]?=some o):∀x∈R.o.op.opds,∀a:AAct,(∀t∈readsT ops o,a.tm.get t=R.a.tm.get t)→a.eval x=R.a.eval x:=by
 intro x hx a ha
 obtain ⟨o',h1,h3,_⟩:=s.row q.mem
 rw[ho] at h1
 cases h1
 cases x with
 | c v=>rfl
 | t t=>
  have:=opdsOk_spec s.opd R.i R.o o h3 (by simpa using ho) t hx
  simp only[AAct.eval]
  rw[ha t]
  unfold readsT
  exact List.mem_append_left _ this
theorem VH_get (S:Nat→Bool) (T:List Row) (h0:AHeap) (N b:Nat):(VH S T h0 N).get b=if b<N then gsF S b T (h0.get b) else none:=mkHeap_get _ _ _
theorem Rdy.sameVH (q:Rdy S T T1 R T2) (s:Su P nt call ops l T a0 h0 af h2 pan2) (hS':∀i,i≠R.i→S' i=S i) (hh:R.h'=R.h):VH S' T h0 h2.n=VH S T h0 h2.n:=by
 have:(fun b=>gsF S' b T (h0.get b))=fun b=>gsF S b T (h0.get b):=by
  funext b
  exact q.gsOff s hS' (touch_same (by rw[hh]))
 unfold VH
 rw[this]
theorem asF_rel (s:Su P nt call ops l T a0 h0 af h2 pan2) (q:Rdy S T T1 R T2) (inv:Inv P nt T a0 h0 h2.n ι0 w0 S ι w a'):Ctx P nt ι (VH S T h0 h2.n) w (asF S T a0) a':=⟨inv.glob,inv.rel,inv.act⟩
theorem Inv.small (s:Su P nt call ops l T a0 h0 af h2 pan2) (hcall:CallsOk P call) (q:Rdy S T T1 R T2) (r0:Rel ι0 h0 w0) (inv:Inv P nt T a0 h0 h2.n ι0 w0 S ι w a') (hS:S' R.i=true) (hS':∀i,i≠R.i→S' i=S i)
  {o:Oper} (ho:ops[R.i]?=some o) (hco:cOper P nt ops true (CheckFast.beforeF ops) R.i o=some R.o) {x:AV} {k:Cls} (hent:R.ent=.val x k) (he:evOp call R.a R.o.op R.h=some (.v x R.h' k)) (hb:k≠.big) (hn:k≠.new)
  {K:Act→World→Prop} {Q:Exit→Act→World→Prop} (hK:∀ι' w' a2',Inv P nt T a0 h0 h2.n ι0 w0 S' ι' w' a2'→K a2' w'):o.wp P a' w K Q:=by
 obtain ⟨g1,g2,g3,g4,_,_⟩:=cOper_spec hco
 have hran:R.ran:=by unfold Row.ran;rw[hent];trivial
 have hout:∀a,R.out a=a.put o.dst x:=fun a=>by unfold Row.out;rw[hent,g3]
 have hcls:R.cls=k:=by unfold Row.cls;rw[hent]
 have heq:∀V,evOp call (asF S T a0) R.o.op V=evOp call R.a R.o.op V:=fun V=>evOp_congr fun y hy=>q.opds s ho y hy _ fun t ht=>q.get s ho ht
 obtain ⟨p1,c1,_,_⟩:=q.parts s
 have hlR:LT R.h:=(c1.hst s.hc).lt s.lt
 have hRn:R.h.n≤h2.n:=Nat.le_trans (chain_mem s.hc s.ch q.mem).2.1.n (chain_mem s.hc s.ch q.mem).2.2.1.n
 have free:R.h'=R.h→evOp call (asF S T a0) R.o.op (VH S T h0 h2.n)=some (.v x (VH S T h0 h2.n) k)→o.wp P a' w K Q:=by
  intro hh hev
  have hVH:=q.sameVH s hS' hh
  refine evOp_sound hcall (asF_rel s q inv) g1 hev a' K Q ?_
  rintro v' w' ⟨ι',st,r',vr⟩
  have hr':Rel ι' (VH S' T h0 h2.n) w':=by rw[hVH];exact r'
  refine hK ι' w' _ (Inv.fin s q r0 inv hS hS' hran (by rw[hVH];exact st.stp) hr' (fun b y e1 e2=>?_) ?_)
  ·have h1:=st.fresh b y e1 e2
   have h3:=r'.dom b y.1 y.2 e2
   omega
  ·rw[hout,hVH]
   exact (inv.act.mono st.grow).put g4 vr
 rcases evOp_local he hb hn with ⟨rfl,hh,hV⟩|⟨b,ver,md,es,vs,rfl,hh,hg,_,hV⟩|⟨b,ver,md,es,vs,vs',rfl,hh,hg,_,hV⟩
 ·exact free hh (by rw[heq];exact hV _)
 ·refine free hh ?_
  rw[heq]
  refine hV _ ?_
  obtain ⟨F1,F2⟩:=q.foot s hg (.inl hcls)
  have hbn:=hlR b _ hg
  rw[VH_get,if_pos (by omega),q.gs s F1 F2]
 ·obtain ⟨F1,F2⟩:=q.foot s hg (.inr hcls)
  have hbn:=hlR b _ hg
  have hVb:(VH S T h0 h2.n).get b=R.h.get b:=by rw[VH_get,if_pos (by omega),q.gs s F1 F2]
  have hev:evOp call (asF S T a0) R.o.op (VH S T h0 h2.n)=some (.v x ((VH S T h0 h2.n).upd b (ver+1) (.cells md es vs')) (.wr b)):=by rw[heq];exact hV _ hVb
  have hget:((VH S T h0 h2.n).upd b (ver+1) (.cells md es vs')).get=(VH S' T h0 h2.n).get:=by
   funext b'
   rw[AHeap.get_upd,VH_get,VH_get]
   by_cases e:b'=b
   ·subst e
    rw[if_pos rfl,if_pos (by omega),q.gs' s hS hS' F1 F2,hh,AHeap.get_upd,if_pos rfl]
   ·rw[if_neg e,q.gsOff s hS' (touch_same (by rw[hh,AHeap.get_upd,if_neg e]))]
  refine evOp_sound hcall (asF_rel s q inv) g1 hev a' K Q ?_
  rintro v' w' ⟨ι',st,r',vr⟩
  have hr':Rel ι' (VH S' T h0 h2.n) w':=r'.same hget rfl
  have hI:infoOf ((VH S T h0 h2.n).upd b (ver+1) (.cells md es vs')).get=infoOf (VH S' T h0 h2.n).get:=by rw[hget]
  refine hK ι' w' _ (Inv.fin s q r0 inv hS hS' hran (st.stp.same hget) hr' (fun c y e1 e2=>?_) ?_)
  ·have h1:=st.fresh c y e1 e2
   have h3:=hr'.dom c y.1 y.2 e2
   have:(VH S T h0 h2.n).n=(VH S' T h0 h2.n).n:=rfl
   omega
  ·rw[hout,←hI]
   exact (inv.act.mono st.grow).put g4 vr
theorem Inv.newOp (s:Su P nt call ops l T a0 h0 af h2 pan2) (q:Rdy S T T1 R T2) (r0:Rel ι0 h0 w0) (inv:Inv P nt T a0 h0 h2.n ι0 w0 S ι w a') (hS:S' R.i=true) (hS':∀i,i≠R.i→S' i=S i)
  {o:Oper} (ho:ops[R.i]?=some o) (hco:cOper P nt ops true (CheckFast.beforeF ops) R.i o=some R.o) {x:AV} (hent:R.ent=.val x .new) (he:evOp call R.a R.o.op R.h=some (.v x R.h' .new))
  {K:Act→World→Prop} {Q:Exit→Act→World→Prop} (hK:∀ι' w' a2',Inv P nt T a0 h0 h2.n ι0 w0 S' ι' w' a2'→K a2' w'):o.wp P a' w K Q:=by
 obtain ⟨g1,g2,g3,g4,_,_⟩:=cOper_spec hco
 have hran:R.ran:=by unfold Row.ran;rw[hent];trivial
 have hout:∀a,R.out a=a.put o.dst x:=fun a=>by unfold Row.out;rw[hent,g3]
 have hcls:R.cls=.new:=by unfold Row.cls;rw[hent]
 have heq:evOp call (asF S T a0) R.o.op R.h=some (.v x R.h' .new):=by rw[←he];exact evOp_congr fun y hy=>q.opds s ho y hy _ fun t ht=>q.get s ho ht
 obtain ⟨mk,ob,rfl,hh,w',v',O,hrun,hheap,hoth,hnd,hmk⟩:=evOp_new (asF_rel s q inv) g1 heq
 obtain ⟨p1,c1,cr,c2⟩:=q.parts s
 have hlR:LT R.h:=(c1.hst s.hc).lt s.lt
 have hn':R.h'.n=R.h.n+1:=by rw[hh];rfl
 have hRn:R.h.n+1≤h2.n:=by rw[←hn'];exact (c2.hst s.hc).n
 have h0n:h0.n≤R.h.n:=(c1.hst s.hc).n
 have H1:∀r∈T1,touch r R.h.n=true→S r.i=true:=by
  intro r hr ht
  obtain ⟨m1,m2,m3,p,m4⟩:=chain_mem s.hc c1 hr
  rw[touch_past (m1.lt s.lt) m2 m3.n] at ht;cases ht
 have H1':∀r∈T1,touch r R.h.n=true→S r.i=false:=by
  intro r hr ht
  obtain ⟨m1,m2,m3,p,m4⟩:=chain_mem s.hc c1 hr
  rw[touch_past (m1.lt s.lt) m2 m3.n] at ht;cases ht
 have H2:∀r∈T2,touch r R.h.n=true→S r.i=false:=by
  intro r hr ht
  cases e:S r.i with
  | false=>rfl
  | true=>
   exfalso
   have hcm:=((q.t2 s hr).2.2 e).2
   obtain ⟨m1,m2,m3,p,m4⟩:=chain_mem s.hc c2 hr
   have hlr:LT r.h:=m1.lt ((cr.hst s.hc).lt hlR)
   have hn:=m1.n
   rcases touch_class m4 ht with h|h|⟨h,h3⟩
   ·simp only[compat,Row.rcd,h,hcls] at hcm
    rw[touch_ver hlr m2 (by omega) hcm] at ht;cases ht
   ·simp [compat,Row.rcd,h,hcls] at hcm
   ·omega
 have hgs:gsF S R.h.n T (h0.get R.h.n)=none:=by
  rw[gsF_none]
  ·cases e:h0.get R.h.n with
   | none=>rfl
   | some y=>have:=s.lt _ _ e;omega
  ·intro r hr ht
   rcases q.dist s hr with rfl|⟨_,hr|hr⟩
   ·exact q.nj
   ·exact H1' r hr ht
   ·exact H2 r hr ht
 have hno:(VH S T h0 h2.n).get R.h.n=none:=by rw[VH_get,if_pos (by omega),hgs]
 have hι:ι R.h.n=none:=by
  cases e:ι R.h.n with
  | none=>rfl
  | some y=>
   obtain ⟨z,e1,_⟩:=inv.rel.obj _ y.1 y.2 e
   rw[hno] at e1;cases e1
 have hg:∀b,(VH S' T h0 h2.n).get b=if b=R.h.n then some ⟨0,ob⟩ else (VH S T h0 h2.n).get b:=by
  intro b
  rw[VH_get,VH_get]
  by_cases e:b=R.h.n
  ·subst e
   rw[if_pos rfl,if_pos (by omega),q.gs' s hS hS' H1 H2,hh,AHeap.get_alloc,if_pos rfl]
  ·rw[if_neg e,q.gsOff s hS' (touch_same (by rw[hh,AHeap.get_alloc,if_neg e]))]
 have hgr:=growAt (sz:=wsz w) (sz':=wsz w') (c:=w.heap.size) hg hι hno (wsz_push hheap)
 obtain ⟨q1,q2⟩:=hmk _ _ R.h.n hgr (by simp [mpNew])
 obtain ⟨st,r'⟩:=inv.rel.newAt (h':=VH S' T h0 h2.n) (by show R.h.n<h2.n;omega) rfl hg hι hno hheap hoth q1
 unfold Oper.wp
 rw[hrun]
 refine hK _ w' _ (Inv.fin s q r0 inv hS hS' hran st r' (fun b y e1 e2=>?_) ?_)
 ·unfold mpNew at e2
  by_cases e:b=R.h.n
  ·omega
  ·rw[if_neg e,e1] at e2;cases e2
 ·rw[hout]
  exact (inv.act.mono st.grow).put g4 q2
end
end Go.Ev
namespace Go.Ev
open Go
def pickT (f:Nat→Option AV):List Nat→Tr AV
 | []=>.nil
 | t::r=>match f t with
  | some x=>(pickT f r).set t x
  | none=>pickT f r
theorem pickT_get (f:Nat→Option AV):∀(l:List Nat) (t:Nat),(pickT f l).get t=if t∈l then f t else none
 | [],t=>by simp [pickT,Tr.get_nil]
 | u::r,t=>by
  simp only[pickT]
  have ih:=pickT_get f r t
  cases e:f u with
  | none=>
   simp only
   rw[ih]
   by_cases h:t∈r
   ·rw[if_pos h,if_pos (List.mem_cons_of_mem _ h)]
   ·rw[if_neg h]
    by_cases h2:t=u
    ·subst h2;rw[if_pos (List.mem_cons_self ..),e]
    ·rw[if_neg (by simp [h2,h])]
  | some x=>
   simp only[Tr.get_set]
   rw[ih]
   by_cases h2:t=u
   ·subst h2;rw[if_pos rfl,if_pos (List.mem_cons_self ..),e]
   ·rw[if_neg h2]
    by_cases h:t∈r
    ·rw[if_pos h,if_pos (List.mem_cons_of_mem _ h)]
    ·rw[if_neg h,if_neg (by simp [h2,h])]
def onlyT (names:List Nat) (a:Act):Act:=
 { tmps:=Array.ofFn (n:=a.tmps.size) fun i=>if i.val∈names then a.tmps[i] else undef,defers:=[] }
theorem onlyT_get (names:List Nat) (a:Act) (t:Nat):(onlyT names a).tmps.getD t undef=if t∈names then a.tmps.getD t undef else undef:=by
 unfold onlyT
 simp only[Array.getD_eq_getD_getElem?]
 by_cases h:t<a.tmps.size
 ·rw[Array.getElem?_ofFn,dif_pos h]
  simp only[Option.getD_some]
  by_cases h2:t∈names
  ·rw[if_pos h2,if_pos h2,Array.getElem?_eq_getElem h];rfl
  ·rw[if_neg h2,if_neg h2]
 ·rw[Array.getElem?_ofFn,dif_neg h,Array.getElem?_eq_none (by omega)]
  simp
section
variable {P:Program} {nt:Nat} {call:FuncId→List AV→AHeap→Option (CRes×AHeap)} {ops:Array Oper} {l:List MOper} {T T1 T2:List Row} {a0:AAct} {h0:AHeap} {af:AAct} {h2:AHeap} {pan2:Option (Nat×AV)} {R:Row} {S S':Nat→Bool}
 {ι0 ι:Mp} {w0 w:World} {a':Act}
theorem row_new {r:Row} {p:Option (Nat×AV)} (cr:RowOk call r p) (hk:r.cls=.new):∃ob,r.h'=r.h.alloc ob∧ob.info≠.dead:=by
 unfold RowOk at cr
 unfold Row.cls at hk
 split at hk
 ·rename_i x k e
  rw[e] at cr
  subst hk
  exact evOp_newHeap cr.2.2
 ·cases hk
 ·cases hk
theorem chain_same (hc:CallH call) {b:Nat} {B:List Row} {a:AAct} {h:AHeap} {pan:Option (Nat×AV)} {a2:AAct} {h3:AHeap} {pan3:Option (Nat×AV)} (ch:Chain call B a h pan a2 h3 pan3) (hl:LT h) (hno:∀r∈B,touch r b=false):h3.get b=h.get b:=by
 rw[←gsF_all hc (S:=fun _=>true) ch hl fun _ _ _=>rfl]
 exact gsF_none _ _ fun r hr ht=>by rw[hno r hr] at ht;cases ht
theorem new_none (s:Su P nt call ops l T a0 h0 af h2 pan2) (clo:∀r∈T,S r.i=true→∀k,r.o.bef.testBit k=true→S k=true) {r:Row} (hr:r∈T) (hk:r.cls=.new) (hS:S r.i=false):gsF S r.h.n T (h0.get r.h.n)=none:=by
 obtain ⟨A,B,hT⟩:=List.append_of_mem hr
 obtain ⟨p1,c1,cr,c2⟩:=chain_split (hT ▸ s.ch)
 have hlr:LT r.h:=(c1.hst s.hc).lt s.lt
 have hcp:=s.cp
 rw[hT,List.pairwise_append,List.pairwise_cons] at hcp
 rw[gsF_none]
 ·cases e:h0.get r.h.n with
  | none=>rfl
  | some y=>have:=s.lt _ _ e;have:=(c1.hst s.hc).n;omega
 ·intro q hq ht
  rw[hT] at hq
  simp only[List.mem_append,List.mem_cons] at hq
  rcases hq with hq|rfl|hq
  ·obtain ⟨m1,m2,m3,p,m4⟩:=chain_mem s.hc c1 hq
   rw[touch_past (m1.lt s.lt) m2 m3.n] at ht;cases ht
  ·exact hS
  ·cases e:S q.i with
   | false=>rfl
   | true=>
    exfalso
    obtain ⟨m1,m2,m3,p,m4⟩:=chain_mem s.hc c2 hq
    have hlq:LT q.h:=m1.lt ((cr.hst s.hc).lt hlr)
    have hn:=m1.n
    have hn':r.h'.n=r.h.n+1:=by
     obtain ⟨ob,e1,_⟩:=row_new cr hk
     rw[e1];rfl
    rcases hcp.2.1.1 q hq with h|h
    ·have:=clo q (by rw[hT];simp [hq]) e _ h
     simp only[Row.rcd] at this
     rw[hS] at this;cases this
    ·rcases touch_class m4 ht with h1|h1|⟨h1,h3⟩
     ·simp only[compat,Row.rcd,hk,h1] at h
      rw[touch_ver hlq m2 (by omega) h] at ht;cases ht
     ·simp [compat,Row.rcd,hk,h1] at h
     ·omega
theorem Rdy.big1 (q:Rdy S T T1 R T2) (s:Su P nt call ops l T a0 h0 af h2 pan2) (hk:R.cls=.big) {b:Nat} {r:Row} (hr:r∈T1) (ht:touch r b=true) (hS:S r.i=false):r.cls=.new∧b=r.h.n:=by
 have hcm:=(q.t1 s hr).2.2 hS
 obtain ⟨p1,c1,_,_⟩:=q.parts s
 obtain ⟨m1,m2,m3,p,m4⟩:=chain_mem s.hc c1 hr
 rcases touch_class m4 ht with h|h|h
 ·simp [compat,Row.rcd,h,hk] at hcm
 ·simp [compat,Row.rcd,h,hk] at hcm
 ·exact h
theorem Rdy.big2 (q:Rdy S T T1 R T2) (s:Su P nt call ops l T a0 h0 af h2 pan2) (hk:R.cls=.big) {b:Nat}:∀r∈T2,touch r b=true→S r.i=false:=by
 intro r hr ht
 cases e:S r.i with
 | false=>rfl
 | true=>
  exfalso
  have hcm:=((q.t2 s hr).2.2 e).2
  obtain ⟨p1,c1,_,c2⟩:=q.parts s
  obtain ⟨m1,m2,m3,p,m4⟩:=chain_mem s.hc c2 hr
  rcases touch_class m4 ht with h|h|⟨h,_⟩<;>simp [compat,Row.rcd,h,hk] at hcm
theorem Inv.notNew (s:Su P nt call ops l T a0 h0 af h2 pan2) (inv:Inv P nt T a0 h0 h2.n ι0 w0 S ι w a') {r:Row} (hr:r∈T) (hk:r.cls=.new) (hS:S r.i=false):ι r.h.n=none:=by
 cases e:ι r.h.n with
 | none=>rfl
 | some y=>
  obtain ⟨z,e1,_⟩:=inv.rel.obj _ y.1 y.2 e
  rw[VH_get,new_none s inv.clo hr hk hS] at e1
  split at e1<;>cases e1
theorem Inv.alike (s:Su P nt call ops l T a0 h0 af h2 pan2) (q:Rdy S T T1 R T2) (inv:Inv P nt T a0 h0 h2.n ι0 w0 S ι w a') (hk:R.cls=.big):Alike ι (VH S T h0 h2.n) R.h where
 eq b x e:=by
  have hb:b<h2.n:=inv.rel.dom b x.1 x.2 e
  rw[VH_get,if_pos hb]
  refine q.gs s (fun r hr ht=>?_) (q.big2 s hk)
  cases hS:S r.i with
  | true=>rfl
  | false=>
   obtain ⟨h1,rfl⟩:=q.big1 s hk hr ht hS
   rw[inv.notNew s (q.mem1 hr) h1 hS] at e;cases e
 dead b hd:=by
  have hb:b<h2.n:=by
   rcases Nat.lt_or_ge b h2.n with h|h
   ·exact h
   ·unfold infoOf at hd;rw[VH_get,if_neg (by omega)] at hd;cases hd
  by_cases hex:∃r∈T1,touch r b=true∧S r.i=false
  ·obtain ⟨r,hr,ht,hS⟩:=hex
   obtain ⟨h1,rfl⟩:=q.big1 s hk hr ht hS
   unfold infoOf at hd
   rw[VH_get,if_pos hb,new_none s inv.clo (q.mem1 hr) h1 hS] at hd
   cases hd
  ·have:(VH S T h0 h2.n).get b=R.h.get b:=by
    rw[VH_get,if_pos hb]
    refine q.gs s (fun r hr ht=>?_) (q.big2 s hk)
    cases hS:S r.i with
    | true=>rfl
    | false=>exact absurd ⟨r,hr,ht,hS⟩ hex
   unfold infoOf at hd ⊢
   rw[←this];exact hd
theorem Inv.alike' (s:Su P nt call ops l T a0 h0 af h2 pan2) (q:Rdy S T T1 R T2) (inv:Inv P nt T a0 h0 h2.n ι0 w0 S ι w a') (hk:R.cls=.big) (hS:S' R.i=true) (hS':∀i,i≠R.i→S' i=S i) {ι':Mp} {w':World} (st:Step ι R.h w ι' R.h' w') (r':Rel ι' R.h' w'):Alike ι' R.h' (VH S' T h0 h2.n) where
 eq b x e:=by
  have hbn:=r'.dom b x.1 x.2 e
  obtain ⟨p1,c1,cr,c2⟩:=q.parts s
  have hb:b<h2.n:=Nat.lt_of_lt_of_le hbn (c2.hst s.hc).n
  rw[VH_get,if_pos hb]
  refine (q.gs' s hS hS' (fun r hr ht=>?_) (q.big2 s hk)).symm
  cases hSr:S r.i with
  | true=>rfl
  | false=>
   obtain ⟨h1,rfl⟩:=q.big1 s hk hr ht hSr
   have h3:=st.fresh _ x (inv.notNew s (q.mem1 hr) h1 hSr) e
   obtain ⟨m1,m2,m3,p,m4⟩:=chain_mem s.hc c1 hr
   have h4:=m3.n
   obtain ⟨ob,e1,_⟩:=row_new m4 h1
   rw[e1] at h4
   simp only[AHeap.alloc_n] at h4
   omega
 dead b hd:=by
  obtain ⟨p1,c1,cr,c2⟩:=q.parts s
  have hlR:LT R.h:=(c1.hst s.hc).lt s.lt
  have hbn:b<R.h'.n:=by
   unfold infoOf at hd
   split at hd
   ·rename_i y e;exact (cr.hst s.hc).lt hlR b _ e
   ·cases hd
  have hb:b<h2.n:=Nat.lt_of_lt_of_le hbn (c2.hst s.hc).n
  by_cases hex:∃r∈T1,touch r b=true∧S r.i=false
  ·exfalso
   obtain ⟨r,hr,ht,hSr⟩:=hex
   obtain ⟨h1,rfl⟩:=q.big1 s hk hr ht hSr
   obtain ⟨A,B,hT1⟩:=List.append_of_mem hr
   obtain ⟨p2,d1,dr,d2⟩:=chain_split (hT1 ▸ c1)
   have hlr:LT r.h:=(d1.hst s.hc).lt s.lt
   obtain ⟨ob,e1,hnd⟩:=row_new dr h1
   have hn':r.h'.n=r.h.n+1:=by rw[e1];rfl
   have hlr':LT r.h':=(dr.hst s.hc).lt hlr
   have hcp:=s.cp
   rw[q.sp,hT1,List.append_assoc,List.pairwise_append,List.cons_append,List.pairwise_cons] at hcp
   have hB:∀g∈B,touch g r.h.n=false:=by
    intro g hg
    cases ht2:touch g r.h.n with
    | false=>rfl
    | true=>
     exfalso
     obtain ⟨m1,m2,m3,p,m4⟩:=chain_mem s.hc d2 hg
     have hlg:LT g.h:=m1.lt hlr'
     have hn:=m1.n
     have hg1:g∈T1:=by rw[hT1];simp [hg]
     cases hSg:S g.i with
     | false=>
      obtain ⟨_,h3⟩:=q.big1 s hk hg1 ht2 hSg
      omega
     | true=>
      rcases hcp.2.1.1 g (by simp [hg]) with h|h
      ·have:=q.clo g (q.mem1 hg1) hSg _ h
       simp only[Row.rcd] at this
       rw[hSr] at this;cases this
      ·rcases touch_class m4 ht2 with h3|h3|⟨h3,h4⟩
       ·simp only[compat,Row.rcd,h1,h3] at h
        rw[touch_ver hlg m2 (by omega) h] at ht2;cases ht2
       ·simp [compat,Row.rcd,h1,h3] at h
       ·omega
   have e2:R.h.get r.h.n=r.h'.get r.h.n:=chain_same s.hc d2 hlr' hB
   have hRn:r.h'.n≤R.h.n:=(d2.hst s.hc).n
   have e3:touch R r.h.n=false:=by
    rcases hcp.2.1.1 R (by simp) with h|h
    ·have:=q.pre _ h
     simp only[Row.rcd] at this
     rw[hSr] at this;cases this
    ·simp only[compat,Row.rcd,h1,hk] at h
     exact touch_ver hlR (cr.hst s.hc) (by omega) h
   have e4:=touch_false hlR (cr.hst s.hc) e3
   unfold infoOf at hd
   rw[e4,e2,e1,AHeap.get_alloc,if_pos rfl] at hd
   exact hnd hd
  ·have:(VH S' T h0 h2.n).get b=R.h'.get b:=by
    rw[VH_get,if_pos hb]
    refine q.gs' s hS hS' (fun r hr ht=>?_) (q.big2 s hk)
    cases hSr:S r.i with
    | true=>rfl
    | false=>exact absurd ⟨r,hr,ht,hSr⟩ hex
   unfold infoOf at hd ⊢
   rw[this];exact hd
theorem Inv.bigOp (s:Su P nt call ops l T a0 h0 af h2 pan2) (hcall:CallsOk P call) (q:Rdy S T T1 R T2) (inv:Inv P nt T a0 h0 h2.n ι0 w0 S ι w a') {o:Oper} (ho:ops[R.i]?=some o) (hco:cOper P nt ops true (CheckFast.beforeF ops) R.i o=some R.o) {res:Res} (hk:R.cls=.big) (he:evOp call R.a R.o.op R.h=some res) :
  Rel ι R.h w∧∀(K:Act→World→Prop) (Q:Exit→Act→World→Prop),
   (match res with
    | .v x h' _=>∀v' w',Comes1 ι R.h w x h' v' w'→K (a'.put o.dst v') w'
    | .pan x h'=>∀v' w',Comes1 ι R.h w x h' v' w'→Q (.panic [{ v:=v',recovered:=false }]) a' w'
    | .df _ _=>False)→o.wp P a' w K Q:=by
 obtain ⟨g1,g2,g3,g4,_,_⟩:=cOper_spec hco
 obtain ⟨p1,c1,cr,c2⟩:=q.parts s
 have hlR:LT R.h:=(c1.hst s.hc).lt s.lt
 have al:=inv.alike s q hk
 have rel:Rel ι R.h w:=al.rel inv.rel hlR fun b x e=>by
  have e1:=al.eq b x e
  obtain ⟨y,h1,_⟩:=inv.rel.obj b x.1 x.2 e
  rw[e1] at h1
  exact hlR b y h1
 refine ⟨rel,fun K Q hQ=>?_⟩
 have hagree:∀t∈readsT ops o,(asF S T a0).tm.get t=R.a.tm.get t:=fun t ht=>q.get s ho ht
 let B:AAct:=⟨pickT (fun t=>R.a.tm.get t) (readsT ops o),[]⟩
 have hBget:∀t,B.tm.get t=if t∈readsT ops o then R.a.tm.get t else none:=fun t=>pickT_get _ _ t
 have hact:ARel nt ι (infoOf R.h.get) (wsz w) B (onlyT (readsT ops o) a'):=by
  refine ⟨by simp [onlyT,inv.act.size],fun t=>?_,by simp only[B,onlyT,DRelL]⟩
  rw[onlyT_get,hBget]
  by_cases ht:t∈readsT ops o
  ·rw[if_pos ht,if_pos ht,←hagree t ht]
   exact VR.mono (al.grow _) _ _ (inv.act.tm t)
  ·rw[if_neg ht,if_neg ht]
   exact VR.undef
 have hevB:evOp call B R.o.op R.h=some res:=by
  rw[←he]
  exact evOp_congr fun y hy=>q.opds s ho y hy _ fun t ht=>by rw[hBget,if_pos ht]
 have hgo:=evOp_sound hcall ⟨inv.glob,rel,hact⟩ g1 hevB
 have hsel:∀cs b,o.op≠.select cs b:=by
  intro cs b e
  simp only[cOp,e] at g1
  cases g1
 have hexec:execOp (onlyT (readsT ops o) a').eval o=execOp a'.eval o:=by
  refine execOp_congr o hsel fun x hx=>?_
  cases x with
  | tmp t=>
   simp only[Act.eval]
   rw[onlyT_get,if_pos]
   unfold readsT
   refine List.mem_append_left _ (List.mem_flatMap.2 ⟨.tmp t,by simpa using hx,by simp [opdT]⟩)
  | const v=>rfl
  | global g=>rfl
  | func f=>rfl
 have hg:=hgo a' K Q
 rw[hexec] at hg
 refine hg ?_
 cases res with
 | v x h' k=>exact hQ
 | pan x h'=>exact hQ
 | df f args=>exact hQ.elim
theorem Inv.op (s:Su P nt call ops l T a0 h0 af h2 pan2) (hcall:CallsOk P call) (q:Rdy S T T1 R T2) (r0:Rel ι0 h0 w0) (inv:Inv P nt T a0 h0 h2.n ι0 w0 S ι w a') (hS:S' R.i=true) (hS':∀i,i≠R.i→S' i=S i)
  {K:Act→World→Prop} {Q:Exit→Act→World→Prop} (hK:∀ι' w' a2',Inv P nt T a0 h0 h2.n ι0 w0 S' ι' w' a2'→K a2' w')
  (hQ:∀x,R.ent=.pan x→∀ι' w' v',Stp ι0 h0 w0 ι' R.h' w'→(∀b y,ι0 b=none→ι' b=some y→h0.n≤b)→Rel ι' R.h' w'→ARel nt ι' (infoOf R.h'.get) (wsz w') (asF S T a0) a'→VR ι' (infoOf R.h'.get) (wsz w') x v'→Q (.panic [{ v:=v',recovered:=false }]) a' w') :
  wpOp P ops Q R.i K a' w:=by
 obtain ⟨o,ho,_,hco⟩:=s.row q.mem
 obtain ⟨g1,g2,g3,g4,_,_⟩:=cOper_spec hco
 obtain ⟨p1,c1,cr,c2⟩:=q.parts s
 have hw:wantedA R.a R.o.guard=Region.wanted o (yielded ops a'.tmps):=by
  rw[←wanted_rel inv.act g2]
  exact (guard_get g2 fun t ht=>q.get s ho ht).symm
 unfold wpOp
 rw[ho]
 simp only
 have cr':=cr
 unfold RowOk at cr
 split at cr
 ·rename_i e
  exfalso
  obtain ⟨hsk,_⟩:=cr
  cases p1 with
  | none=>cases hsk
  | some jv=>
   obtain ⟨j,v⟩:=jv
   have hj:=q.pre j hsk
   rcases chain_pan c1 with h|⟨r,hr,rfl,h4⟩
   ·cases h
   ·have:=inv.run r (q.mem1 hr) hj
    unfold Row.ran at this
    rw[h4] at this
    exact this
 ·rename_i e
  obtain ⟨_,hwa,hh⟩:=cr
  rw[←hw,hwa]
  simp only[Bool.false_eq_true,if_false]
  have hran:R.ran:=by unfold Row.ran;rw[e];trivial
  have hout:∀a,R.out a=a.put o.dst undefA:=fun a=>by unfold Row.out;rw[e,g3]
  have hVH:=q.sameVH s hS' hh
  refine hK ι w _ (Inv.fin s q r0 inv hS hS' hran (by rw[hVH];exact Stp.refl _ _ _) (by rw[hVH];exact inv.rel) (fun b x e1 e2=>by rw[e1] at e2;cases e2) ?_)
  rw[hout,hVH]
  exact inv.act.put g4 VR.undef
 ·rename_i x k e
  obtain ⟨_,hwa,he⟩:=cr
  rw[←hw,hwa]
  simp only[if_true]
  left
  by_cases hb:k=.big
  ·subst hb
   have hk:R.cls=.big:=by unfold Row.cls;rw[e]
   obtain ⟨rel,hop⟩:=inv.bigOp s hcall q ho hco hk he
   refine hop K Q ?_
   rintro v' w' ⟨ι',st,r',vr⟩
   have al:=inv.alike s q hk
   have al':=inv.alike' s q hk hS hS' st r'
   have hran:R.ran:=by unfold Row.ran;rw[e];trivial
   have hout:∀a,R.out a=a.put o.dst x:=fun a=>by unfold Row.out;rw[e,g3]
   have hst:=st.alike al al'
   have hN:R.h'.n≤h2.n:=(c2.hst s.hc).n
   have hr':Rel ι' (VH S' T h0 h2.n) w':=al'.rel r' (fun b y hy=>by
    rw[VH_get] at hy
    by_cases hlt:b<h2.n
    ·exact hlt
    ·rw[if_neg hlt] at hy;cases hy) fun b y hy=>Nat.lt_of_lt_of_le (r'.dom b y.1 y.2 hy) hN
   refine hK ι' w' _ (Inv.fin s q r0 inv hS hS' hran hst hr' (fun b y e1 e2=>⟨st.fresh b y e1 e2,r'.dom b y.1 y.2 e2⟩) ?_)
   rw[hout]
   exact (inv.act.mono hst.grow).put g4 (VR.mono (al'.grow _) _ _ vr)
  ·by_cases hn:k=.new
   ·subst hn
    exact inv.newOp s q r0 hS hS' ho hco e he hK
   ·exact inv.small s hcall q r0 hS hS' ho hco e he hb hn hK
 ·rename_i x e
  obtain ⟨_,hwa,he⟩:=cr
  rw[←hw,hwa]
  simp only[if_true]
  left
  have hk:R.cls=.big:=by unfold Row.cls;rw[e]
  obtain ⟨rel,hop⟩:=inv.bigOp s hcall q ho hco hk he
  refine hop K Q ?_
  rintro v' w' ⟨ι',st,r',vr⟩
  have al:=inv.alike s q hk
  have hst:Stp ι (VH S T h0 h2.n) w ι' R.h' w':=st.alike al ⟨fun _ _ _=>rfl,fun _ h=>h⟩
  refine hQ x e ι' w' v' (inv.stp.trans r0 hst) (fun b y e1 e2=>?_) r' (inv.act.mono hst.grow) vr
  cases e3:ι b with
  | some z=>exact inv.fresh b z e1 e3
  | none=>
   have:=st.fresh b y e3 e2
   have:=(c1.hst s.hc).n
   omega
end
end Go.Ev
namespace Go.Ev
open Go
def cnt (f:Nat→Bool):Nat→Nat
 | 0=>0
 | n+1=>cnt f n+bif f n then 1 else 0
theorem cnt_congr {f g:Nat→Bool}:∀(n:Nat),(∀j,j<n→f j=g j)→cnt f n=cnt g n
 | 0,_=>rfl
 | n+1,h=>by simp only[cnt];rw[cnt_congr n fun j hj=>h j (by omega),h n (by omega)]
theorem cnt_less {f g:Nat→Bool} {i:Nat} (hf:f i=true) (hg:g i=false) (h:∀j,j≠i→g j=f j):∀n,i<n→cnt g n+1=cnt f n
 | 0,hn=>by omega
 | n+1,hn=>by
  simp only[cnt]
  by_cases e:i=n
  ·subst e
   rw[cnt_congr (f:=g) (g:=f) i fun j hj=>h j (by omega),hf,hg]
   rfl
  ·have:=cnt_less hf hg h n (by omega)
   rw[h n (Ne.symm e)]
   omega
theorem cnt_zero {f:Nat→Bool}:∀n,cnt f n=0→∀i,i<n→f i=false
 | 0,_,i,hi=>by omega
 | n+1,h,i,hi=>by
  simp only[cnt] at h
  by_cases e:i=n
  ·subst e
   cases q:f i with
   | false=>rfl
   | true=>rw[q] at h;simp at h
  ·exact cnt_zero n (by omega) i (by omega)
theorem cnt_le (f:Nat→Bool):∀n,cnt f n≤n
 | 0=>Nat.le_refl _
 | n+1=>by
  have:=cnt_le f n
  simp only[cnt]
  cases f n<;>simp<;>omega
theorem Tr.get_del {α:Type}:∀(t:Tr α) (n m:Nat),(t.del n).get m=if m=n then none else t.get m
 | .nil,n,m=>by simp [Tr.del,Tr.get_nil]
 | .node l v r,n,m=>by
  simp only[Tr.del]
  by_cases h0:n=0
  ·subst h0
   simp only[Nat.beq_refl,cond_true,Tr.get]
   by_cases hm:m=0
   ·subst hm;simp
   ·have:m.beq 0=false:=beqF hm
    simp [this,hm]
  ·have e0:n.beq 0=false:=beqF h0
   simp only[e0,cond_false]
   by_cases h1:n % 2=1
   ·have e1:(n % 2).beq 1=true:=beqT h1
    simp only[e1,cond_true,Tr.get]
    by_cases hm0:m=0
    ·subst hm0
     have:¬(0=n):=fun e=>h0 e.symm
     simp [this]
    ·have em:m.beq 0=false:=beqF hm0
     simp only[em,cond_false]
     by_cases hm1:m % 2=1
     ·have em1:(m % 2).beq 1=true:=beqT hm1
      simp only[em1,cond_true]
      rw[Tr.get_del l]
      by_cases hmn:m=n
      ·subst hmn;simp
      ·have:¬(m / 2=n / 2):=by omega
       simp [this,hmn]
     ·have em1:(m % 2).beq 1=false:=beqF hm1
      have:¬(m=n):=by omega
      simp [em1,this]
   ·have e1:(n % 2).beq 1=false:=beqF h1
    simp only[e1,cond_false,Tr.get]
    by_cases hm0:m=0
    ·subst hm0
     have:¬(0=n):=fun e=>h0 e.symm
     simp [this]
    ·have em:m.beq 0=false:=beqF hm0
     simp only[em,cond_false]
     by_cases hm1:m % 2=1
     ·have em1:(m % 2).beq 1=true:=beqT hm1
      have:¬(m=n):=by omega
      simp [em1,this]
     ·have em1:(m % 2).beq 1=false:=beqF hm1
      simp only[em1,cond_false]
      rw[Tr.get_del r]
      by_cases hmn:m=n
      ·subst hmn;simp
      ·have:¬(m / 2-1=n / 2-1):=by omega
       simp [this,hmn]
theorem dels_some:∀(L:List (Nat×MOper)) (t:Tr AV) (i:Nat) (x:AV),(dels L t).get i=some x→t.get i=some x∧∀y∈L,y.2.dst≠some i
 | [],t,i,x,h=>⟨h,fun y hy=>by simp at hy⟩
 | (j,o)::r,t,i,x,h=>by
  simp only[dels] at h
  obtain ⟨h1,h2⟩:=dels_some r _ i x h
  cases e:o.dst with
  | none=>
   rw[e] at h1
   refine ⟨h1,fun y hy=>?_⟩
   rcases List.mem_cons.1 hy with rfl|hy
   ·simp [e]
   ·exact h2 y hy
  | some d=>
   rw[e] at h1
   simp only[Tr.get_del] at h1
   by_cases hd:i=d
   ·rw[if_pos hd] at h1;cases h1
   ·rw[if_neg hd] at h1
    refine ⟨h1,fun y hy=>?_⟩
    rcases List.mem_cons.1 hy with rfl|hy
    ·simp only[e]
     intro q
     cases q
     exact hd rfl
    ·exact h2 y hy
section
variable {P:Program} {nt:Nat} {call:FuncId→List AV→AHeap→Option (CRes×AHeap)}
theorem tail_same {j:Nat} {v:AV} {ha hb:AHeap}:∀{T:List Row} {a:AAct} {h:AHeap} {a2:AAct} {h2:AHeap} {pan2:Option (Nat×AV)},Chain call T a h (some (j,v)) a2 h2 pan2→(∀r∈T,Compat ⟨j,.big,hb,ha⟩ r)→h2=h∧pan2=some (j,v)
 | [],_,_,_,_,_,ch,_=>⟨ch.2.1.symm,ch.2.2.symm⟩
 | r::T,_,h,_,_,_,ch,hc=>by
  obtain ⟨h1,h3,h4,h5⟩:=ch
  have key:r.h'=r.h∧r.pan' (some (j,v))=some (j,v):=by
   unfold RowOk at h4
   unfold Row.pan'
   split at h4
   ·rename_i e;rw[e];exact ⟨h4.2,rfl⟩
   ·rename_i e;rw[e];exact ⟨h4.2.2,rfl⟩
   ·rename_i x k e
    rw[e]
    refine ⟨?_,rfl⟩
    have hcls:r.cls=k:=by unfold Row.cls;rw[e]
    rcases hc r (List.mem_cons_self ..) with q|q
    ·have:=h4.1
     simp only[skipsD] at this
     simp only at q
     rw[this] at q;cases q
    ·simp only[compat,hcls] at q
     have hkb:k≠.big:=fun e=>by rw[e] at q;cases q
     have hkn:k≠.new:=fun e=>by rw[e] at q;cases q
     rcases evOp_local h4.2.2 hkb hkn with ⟨_,g,_⟩|⟨_,_,_,_,_,_,g,_⟩|⟨_,_,_,_,_,_,g0,_⟩
     ·exact g
     ·exact g
     ·rw[g0] at q;cases q
   ·cases h4.1
  rw[key.1,key.2] at h5
  obtain ⟨g1,g2⟩:=tail_same h5 fun q hq=>hc q (List.mem_cons_of_mem _ hq)
  exact ⟨by rw[g1,h3],g2⟩
theorem dSound (hcall:CallsOk P call) (hc:CallH call) (nt:Nat):DSound P nt call:=by
 intro ops l a h ι w a' e a2 h2 Q cops tmp opd he c k t
 obtain ⟨T,af,pan2,t1,t2,t3,_,t5⟩:=evD_trace _ _ _ _ _ _ _ _ he
 have s:Su P nt call ops l T a h af h2 pan2:=⟨cops,tmp,opd,t1,t2,t3,hc,c.rel.lt⟩
 have hst:=t2.hst hc
 have done:∀(S:Nat→Bool) (ι1:Mp) (w1:World) (a1:Act),(∀i,i<ops.size→S i=true)→Inv P nt T a h h2.n ι w S ι1 w1 a1→Q .normal a1 w1:=by
  intro S ι1 w1 a1 hall inv
  have hT:∀r∈T,S r.i=true:=fun r hr=>by
   obtain ⟨o,ho,_,_⟩:=s.row hr
   exact hall _ (Array.getElem?_eq_some_iff.1 ho).1
  have hget:(VH S T h h2.n).get=h2.get:=by
   funext b
   rw[VH_get,gsF_all hc t2 c.rel.lt fun r hr _=>hT r hr]
   by_cases hb:b<h2.n
   ·rw[if_pos hb]
   ·rw[if_neg hb]
    cases e1:h2.get b with
    | none=>rfl
    | some x=>exact absurd (hst.lt c.rel.lt b x e1) hb
  have hact:ARel nt ι1 (infoOf h2.get) (wsz w1) af a1:=by
   rw[←hget,t2.act]
   exact inv.act.ofGet (fun t=>asF_congr T _ _ (fun r hr _=>(hT r hr).symm) rfl) (by rw[asF_df,asF_df])
  have hstep:Step ι h w ι1 h2 w1:=by
   have q:=inv.stp.same hget
   exact ⟨q.grow,fun b x e1 e2=>inv.fresh b x e1 e2,hst.n,q.wn_le,q.keep,q.frm,q.oth⟩
  have hrel:Rel ι1 h2 w1:=inv.rel.same hget rfl
  cases pan2 with
  | none=>
   obtain ⟨rfl,rfl⟩:=t5
   exact k ι1 w1 a1 hstep hrel hact
  | some jv=>
   obtain ⟨j,v⟩:=jv
   rcases chain_pan t2 with q|⟨r,hr,_,q⟩
   ·cases q
   ·have:=inv.run r hr (hT r hr)
    unfold Row.ran at this
    rw[q] at this
    exact this.elim
 have hpan:∀(S:Nat→Bool) (ι1:Mp) (w1:World) (a1:Act) (T1 T2:List Row) (R:Row),Rdy S T T1 R T2→∀x,R.ent=.pan x→∀ι' w' v',Stp ι h w ι' R.h' w'→(∀b y,ι b=none→ι' b=some y→h.n≤b)→Rel ι' R.h' w'→
   ARel nt ι' (infoOf R.h'.get) (wsz w') (asF S T a) a1→VR ι' (infoOf R.h'.get) (wsz w') x v'→Q (.panic [{ v:=v',recovered:=false }]) a1 w':=by
  intro S ι1 w1 a1 T1 T2 R q x hent ι' w' v' st hfr hrel hact hv
  obtain ⟨p1,c1,cr,c2⟩:=q.parts s
  have hcp:=s.cp
  rw[q.sp,List.pairwise_append,List.pairwise_cons] at hcp
  have hp':R.pan' p1=some (R.i,x):=by unfold Row.pan';rw[hent]
  have hcls:R.cls=.big:=by unfold Row.cls;rw[hent]
  rw[hp'] at c2
  obtain ⟨e1,e2⟩:=tail_same c2 (fun r hr=>by have:=hcp.2.1.1 r hr;unfold Row.rcd at this;rw[hcls] at this;exact this)
  subst e2
  obtain ⟨rfl,rfl⟩:=t5
  rw[←e1] at st hrel hact hv
  refine k ι' w' a1 ⟨st.grow,hfr,hst.n,st.wn_le,st.keep,st.frm,st.oth⟩ hrel ?_ v' hv
  refine ⟨fun i y hy=>?_,?_⟩
  ·obtain ⟨g1,g2⟩:=dels_some _ _ _ _ hy
   have hno:∀r∈T,r.o.dst≠some i:=fun r hr=>g2 (r.i,r.o) (by rw[←t1];exact List.mem_map.2 ⟨r,hr,rfl⟩)
   have h3:(asF S T a).tm.get i=some y:=by
    rw[t2.act,asF_skip T _ fun r hr hd=>absurd hd (hno r hr)] at g1
    rw[asF_skip T _ fun r hr hd=>absurd hd (hno r hr)]
    exact g1
   have:=hact.tm i
   rw[h3] at this
   exact this
  ·have:=hact.df
   rw[asF_df] at this
   rw[t2.act,asF_df]
   exact this
 have main:∀(fuel:Nat) (listed:Array Bool) (ι1:Mp) (w1:World) (a1:Act),listed.size=ops.size→cnt (fun i=>!listed.getD i false) ops.size≤fuel→Inv P nt T a h h2.n ι w (fun i=>listed.getD i false) ι1 w1 a1→wpAny P .any ops Q fuel listed a1 w1:=by
  have hnone:∀(listed:Array Bool),listed.size=ops.size→(∀i,i<ops.size→listed.getD i false=true)→Region.ready .any ops listed=[]:=by
   intro listed hsz hall
   rw[List.eq_nil_iff_forall_not_mem]
   intro i hi
   obtain ⟨h3,o,ho,_⟩:=mem_ready.1 hi
   have hlt:=(Array.getElem?_eq_some_iff.1 ho).1
   have h4:=hall i hlt
   simp only[Array.getD_eq_getD_getElem?,Array.getElem?_eq_getElem (show i<listed.size by omega),Option.getD_some] at h3 h4
   rw[h3] at h4;cases h4
  have hall:∀(listed:Array Bool),listed.size=ops.size→Region.ready .any ops listed=[]→∀n i,i≤n→i<ops.size→listed.getD i false=true:=by
   intro listed hsz hr n
   have step:∀i,i<ops.size→(∀j,j<i→listed.getD j false=true)→listed.getD i false=true:=by
    intro i hi hlow
    cases e1:listed.getD i false with
    | true=>rfl
    | false=>
     exfalso
     have:i∈Region.ready .any ops listed:=by
      refine mem_ready.2 ⟨?_,ops[i],Array.getElem?_eq_getElem hi,fun e he hb=>?_⟩
      ·simp only[Array.getD_eq_getD_getElem?,Array.getElem?_eq_getElem (show i<listed.size by omega),Option.getD_some] at e1 ⊢
       exact e1
      ·obtain ⟨r,hr,hri⟩:=s.cover (Array.getElem?_eq_getElem hi)
       obtain ⟨o,ho,_,hco⟩:=s.row hr
       rw[hri,Array.getElem?_eq_getElem hi] at ho
       cases ho
       obtain ⟨_,_,_,_,g5,_⟩:=cOper_spec hco
       exact hlow e.on (hri ▸ g5 e he hb)
     rw[hr] at this
     simp at this
   induction n with
   | zero=>intro i hi hlt;exact step i hlt fun j hj=>by omega
   | succ n ih=>intro i hi hlt;exact step i hlt fun j hj=>ih j (by omega) (by omega)
  intro fuel
  induction fuel with
  | zero=>
   intro listed ι1 w1 a1 hsz hcnt inv
   have hl:∀i,i<ops.size→listed.getD i false=true:=fun i hi=>by
    have:=cnt_zero _ (Nat.le_zero.1 hcnt) i hi
    simpa using this
   exact ⟨hnone listed hsz hl,done _ ι1 w1 a1 hl inv⟩
  | succ fuel ih=>
   intro listed ι1 w1 a1 hsz hcnt inv
   refine ⟨fun hr=>done _ ι1 w1 a1 (fun i hi=>hall listed hsz hr i i (Nat.le_refl _) hi) inv,fun i hi=>?_⟩
   obtain ⟨hi0,o,ho,hpre⟩:=mem_ready.1 hi
   have hlt:i<ops.size:=(Array.getElem?_eq_some_iff.1 ho).1
   obtain ⟨R,hR,rfl⟩:=s.cover ho
   obtain ⟨T1,T2,sp⟩:=List.append_of_mem hR
   have nj:listed.getD R.i false=false:=by
    simp only[Array.getD_eq_getD_getElem?,Array.getElem?_eq_getElem (show R.i<listed.size by omega),Option.getD_some] at hi0 ⊢
    exact hi0
   have pre:∀k,R.o.bef.testBit k=true→listed.getD k false=true:=by
    intro b hb
    rw[s.bef hR] at hb
    obtain ⟨ed,hed,hbi,hh⟩:=before_spec ho hb
    have h3:=hpre ed hed hbi
    rcases hh with rfl|⟨h4,h5⟩
    ·exact h3
    ·obtain ⟨r,hr,hri⟩:=s.cover (Array.getElem?_eq_getElem (show ed.on<ops.size by omega))
     refine inv.clo r hr (by rw[hri];exact h3) b ?_
     rw[s.bef hr,hri];exact h5
   have q:Rdy (fun i=>listed.getD i false) T T1 R T2:=inv.rdy sp nj pre
   refine inv.op s hcall q c.rel (S':=fun i=>(listed.setIfInBounds R.i true).getD i false) ?_ ?_ ?_ ?_
   ·simp [show R.i<listed.size by omega]
   ·intro i hi
    exact getD_set_ne false (Ne.symm hi)
   ·intro ι' w' a2' inv'
    refine ih _ ι' w' a2' (by simp [hsz]) ?_ inv'
    have:=cnt_less (f:=fun i=>!listed.getD i false) (g:=fun i=>!(listed.setIfInBounds R.i true).getD i false) (i:=R.i) (by simp only[nj];rfl) (by simp [show R.i<listed.size by omega]) (fun j hj=>by rw[getD_set_ne false (Ne.symm hj)]) ops.size hlt
    omega
   ·exact hpan _ ι1 w1 a1 T1 T2 R q
 unfold Region.schedule
 simp only[Bool.true_or,if_true]
 unfold Region.linearise
 refine wpAny_sound _ _ _ _ _ (main ops.size _ ι w a' (by simp) (cnt_le _ _) ?_)
 have hf:∀i,(Array.replicate ops.size false).getD i false=false:=by
  intro i
  simp only[Array.getD_eq_getD_getElem?,Array.getElem?_replicate]
  split<;>rfl
 have hget:(VH (fun i=>(Array.replicate ops.size false).getD i false) T h h2.n).get=h.get:=by
  funext b
  rw[VH_get,gsF_none _ _ fun r _ _=>hf _]
  by_cases hb:b<h2.n
  ·rw[if_pos hb]
  ·rw[if_neg hb]
   cases e1:h.get b with
   | none=>rfl
   | some x=>have:=c.rel.lt b x e1;have:=hst.n;omega
 have hrel:Rel ι (VH (fun i=>(Array.replicate ops.size false).getD i false) T h h2.n) w:=
  Alike.rel ⟨fun b _ _=>by rw[hget],fun b hd=>by rw[hget];exact hd⟩ c.rel (fun b x e1=>by
   rw[hget] at e1
   exact Nat.lt_of_lt_of_le (c.rel.lt b x e1) hst.n) fun b x e1=>Nat.lt_of_lt_of_le (c.rel.dom b x.1 x.2 e1) hst.n
 have hff:∀r∈T,(fun i=>(Array.replicate ops.size false).getD i false) r.i=true→False:=fun r _ hr=>by
  simp only[hf] at hr
  cases hr
 refine ⟨fun r h1 hr=>(hff r h1 hr).elim,fun r h1 hr=>(hff r h1 hr).elim,c.glob,hrel,(Stp.refl ι h w).same hget.symm,?_,fun b x e1=>.inl (c.rel.dom b x.1 x.2 e1),fun b x e1 e2=>(by rw[e1] at e2;cases e2)⟩
 rw[hget]
 exact c.act.ofGet (fun t=>asF_skip T _ fun r _ _=>hf _) (asF_df _ _ _)
theorem calls_sound {F:Nat→Option MFun} (hF:FOk P F) (hp:PrimsH F) (hmix:P.follows .mixedOrders=true) (k:Nat):CallsOk P (evCall F k):=
 evCall_sound hF hmix (fun k hk nt=>dSound hk (evCall_hst hp k) nt) k
end
end Go.Ev
namespace Go.Ev
open Go
abbrev FT:=Nat→Option MFun
def Ev (F:FT) (f:FuncId) (args:List AV) (h:AHeap) (r:CRes) (h':AHeap):Prop:=
 ∃k0,∀k,k0≤k→evCall F k f args h=some (r,h')
def EvO (F:FT) (op:MOp) (a:AAct) (h:AHeap) (res:Res):Prop:=
 ∃k0,∀k,k0≤k→evOp (evCall F k) a op h=some res
def EvOs (F:FT) (l:List MOper) (a:AAct) (h:AHeap) (e:AExit) (a':AAct) (h':AHeap):Prop:=
 ∃k0,∀k,k0≤k→evOps (evCall F k) l a h=some (e,a',h')
def EvD (F:FT) (all l:List (Nat×MOper)) (a:AAct) (h:AHeap) (rs:List Rec) (pan:Option (Nat×AV)) (e:AExit) (a':AAct) (h':AHeap):Prop:=
 ∃k0,∀k,k0≤k→evD (evCall F k) all l a h rs pan=some (e,a',h')
def EvC (F:FT) (c:MCode) (a:AAct) (h:AHeap) (e:AExit) (a':AAct) (h':AHeap):Prop:=
 ∃k0,∀k,k0≤k→evCode (evCall F k) k c a h=some (e,a',h')
def EvL (F:FT) (c:MCode) (a:AAct) (h:AHeap) (e:AExit) (a':AAct) (h':AHeap):Prop:=
 ∃k0 n0,∀k,k0≤k→∀n,n0≤n→iter n (fun a h=>evCode (evCall F k) k c a h) a h=some (e,a',h')
section
variable {F:FT} {a a1 a':AAct} {h h1 h':AHeap} {e e1:AExit}
theorem EvO.of {op:MOp} {res:Res} (he:∀call,evOp call a op h=some res):EvO F op a h res:=⟨0,fun _ _=>he _⟩
theorem EvO.call {f:FuncId} {args:List Opd} {x:AV} (he:Ev F f (args.map a.eval) h (.ret x) h1):EvO F (.call f args) a h (.v x h1 .big):=by
 obtain ⟨k0,hk⟩:=he
 exact ⟨k0,fun k h=>by simp only[evOp,hk k h]⟩
theorem EvO.callPan {f:FuncId} {args:List Opd} {x:AV} (he:Ev F f (args.map a.eval) h (.pan x) h1):EvO F (.call f args) a h (.pan x h1):=by
 obtain ⟨k0,hk⟩:=he
 exact ⟨k0,fun k h=>by simp only[evOp,hk k h]⟩
theorem EvO.callv {f:Opd} {args:List Opd} {g:FuncId} {fs cs:List AV} {x:AV} (hf:a.eval f=.func (.func g) fs cs) (he:Ev F g (fs++(args.map a.eval++cs)) h (.ret x) h1):EvO F (.callv f args) a h (.v x h1 .big):=by
 obtain ⟨k0,hk⟩:=he
 exact ⟨k0,fun k h=>by simp only[evOp,hf,hk k h]⟩
theorem EvO.callvPan {f:Opd} {args:List Opd} {g:FuncId} {fs cs:List AV} {x:AV} (hf:a.eval f=.func (.func g) fs cs) (he:Ev F g (fs++(args.map a.eval++cs)) h (.pan x) h1):EvO F (.callv f args) a h (.pan x h1):=by
 obtain ⟨k0,hk⟩:=he
 exact ⟨k0,fun k h=>by simp only[evOp,hf,hk k h]⟩
theorem EvOs.nil:EvOs F [] a h .norm a h:=⟨0,fun _ _=>rfl⟩
theorem EvOs.val {o:MOper} {r:List MOper} {x:AV} {k:Cls} (hw:wantedA a o.guard=true) (ho:EvO F o.op a h (.v x h1 k)) (hr:EvOs F r (a.put o.dst x) h1 e a' h'):EvOs F (o::r) a h e a' h':=by
 obtain ⟨k0,g0⟩:=ho
 obtain ⟨k1,g1⟩:=hr
 exact ⟨max k0 k1,fun k hk=>by simp only[evOps,hw,cond_true,g0 k (by omega),g1 k (by omega)]⟩
theorem EvOs.pan {o:MOper} {r:List MOper} {x:AV} (hw:wantedA a o.guard=true) (ho:EvO F o.op a h (.pan x h1)):EvOs F (o::r) a h (.pan x) a h1:=by
 obtain ⟨k0,g0⟩:=ho
 exact ⟨k0,fun k hk=>by simp only[evOps,hw,cond_true,g0 k hk]⟩
theorem EvOs.df {o:MOper} {r:List MOper} {f:FuncId} {args:List AV} (hw:wantedA a o.guard=true) (ho:EvO F o.op a h (.df f args)) (hr:EvOs F r (AAct.put ⟨a.tm,(f,args)::a.df⟩ o.dst undefA) h e a' h'):EvOs F (o::r) a h e a' h':=by
 obtain ⟨k0,g0⟩:=ho
 obtain ⟨k1,g1⟩:=hr
 exact ⟨max k0 k1,fun k hk=>by simp only[evOps,hw,cond_true,g0 k (by omega),g1 k (by omega)]⟩
theorem EvOs.no {o:MOper} {r:List MOper} (hw:wantedA a o.guard=false) (hr:EvOs F r (a.put o.dst undefA) h e a' h'):EvOs F (o::r) a h e a' h':=by
 obtain ⟨k1,g1⟩:=hr
 exact ⟨k1,fun k hk=>by simp only[evOps,hw,cond_false,g1 k hk]⟩
theorem EvD.nil {all:List (Nat×MOper)} {rs:List Rec}:EvD F all [] a h rs none .norm a h:=⟨0,fun _ _=>rfl⟩
theorem EvD.nilPan {all:List (Nat×MOper)} {rs:List Rec} {j:Nat} {v:AV}:EvD F all [] a h rs (some (j,v)) (.pan v) ⟨dels all a.tm,a.df⟩ h:=⟨0,fun _ _=>rfl⟩
theorem EvD.val {all:List (Nat×MOper)} {i:Nat} {o:MOper} {r:List (Nat×MOper)} {rs:List Rec} {pan:Option (Nat×AV)} {x:AV} {k:Cls} (hs:skipsD o.bef pan=false) (hw:wantedA a o.guard=true) (ho:EvO F o.op a h (.v x h1 k)) (hc:okWith o.bef k h h1 rs=true) (hr:EvD F all r (a.put o.dst x) h1 (⟨i,k,h,h1⟩::rs) pan e a' h'):EvD F all ((i,o)::r) a h rs pan e a' h':=by
 obtain ⟨k0,g0⟩:=ho
 obtain ⟨k1,g1⟩:=hr
 exact ⟨max k0 k1,fun k hk=>by simp only[evD,hs,hw,cond_true,cond_false,g0 k (by omega),hc,g1 k (by omega)]⟩
theorem EvD.no {all:List (Nat×MOper)} {i:Nat} {o:MOper} {r:List (Nat×MOper)} {rs:List Rec} {pan:Option (Nat×AV)} (hs:skipsD o.bef pan=false) (hw:wantedA a o.guard=false) (hr:EvD F all r (a.put o.dst undefA) h rs pan e a' h'):EvD F all ((i,o)::r) a h rs pan e a' h':=by
 obtain ⟨k1,g1⟩:=hr
 exact ⟨k1,fun k hk=>by simp only[evD,hs,hw,cond_false,g1 k hk]⟩
theorem EvD.skip {all:List (Nat×MOper)} {i:Nat} {o:MOper} {r:List (Nat×MOper)} {rs:List Rec} {pan:Option (Nat×AV)} (hs:skipsD o.bef pan=true) (hr:EvD F all r a h rs pan e a' h'):EvD F all ((i,o)::r) a h rs pan e a' h':=by
 obtain ⟨k1,g1⟩:=hr
 exact ⟨k1,fun k hk=>by simp only[evD,hs,cond_true,g1 k hk]⟩
theorem EvD.pan {all:List (Nat×MOper)} {i:Nat} {o:MOper} {r:List (Nat×MOper)} {rs:List Rec} {x:AV} (hw:wantedA a o.guard=true) (ho:EvO F o.op a h (.pan x h1)) (hc:okWith o.bef .big h h1 rs=true) (hr:EvD F all r a h1 (⟨i,.big,h,h1⟩::rs) (some (i,x)) e a' h'):EvD F all ((i,o)::r) a h rs none e a' h':=by
 obtain ⟨k0,g0⟩:=ho
 obtain ⟨k1,g1⟩:=hr
 exact ⟨max k0 k1,fun k hk=>by simp only[evD,skipsD,hw,cond_true,cond_false,g0 k (by omega),hc,g1 k (by omega)]⟩
theorem EvC.skip:EvC F .skip a h .norm a h:=⟨0,fun _ _=>rfl⟩
theorem EvC.exit {id:Nat}:EvC F (.exit id) a h (.exit id) a h:=⟨0,fun _ _=>rfl⟩
theorem EvC.ret:EvC F .ret a h .ret a h:=⟨0,fun _ _=>rfl⟩
theorem EvC.reg {l:List MOper} (hl:EvOs F l a h e a' h'):EvC F (.reg l) a h e a' h':=by
 obtain ⟨k0,g⟩:=hl
 exact ⟨k0,fun k hk=>by simp only[evCode,g k hk]⟩
theorem EvC.regD {l:List (Nat×MOper)} (hl:EvD F l l a h [] none e a' h'):EvC F (.regD l) a h e a' h':=by
 obtain ⟨k0,g⟩:=hl
 exact ⟨k0,fun k hk=>by simp only[evCode,g k hk]⟩
theorem EvC.seq {x y:MCode} (hx:EvC F x a h .norm a1 h1) (hy:EvC F y a1 h1 e a' h'):EvC F (.seq x y) a h e a' h':=by
 obtain ⟨k0,g0⟩:=hx
 obtain ⟨k1,g1⟩:=hy
 exact ⟨max k0 k1,fun k hk=>by simp only[evCode,g0 k (by omega),g1 k (by omega)]⟩
theorem EvC.seqOut {x y:MCode} (hx:EvC F x a h e a' h') (hne:e≠.norm):EvC F (.seq x y) a h e a' h':=by
 obtain ⟨k0,g0⟩:=hx
 refine ⟨k0,fun k hk=>?_⟩
 simp only[evCode,g0 k hk]
 cases e<;>first|rfl|exact absurd rfl hne
theorem EvC.cond {c:Opd} {x y:MCode} {b:Bool} (hc:a.eval c=.bool b) (hx:EvC F (bif b then x else y) a h e a' h'):EvC F (.cond c x y) a h e a' h':=by
 obtain ⟨k0,g0⟩:=hx
 refine ⟨k0,fun k hk=>?_⟩
 have:=g0 k hk
 simp only[evCode,hc]
 cases b<;>exact this
theorem EvC.block {id:Nat} {x:MCode} (hx:EvC F x a h (.exit id) a' h'):EvC F (.block id x) a h .norm a' h':=by
 obtain ⟨k0,g0⟩:=hx
 exact ⟨k0,fun k hk=>by simp only[evCode,g0 k hk,Nat.beq_refl,cond_true]⟩
theorem EvC.blockOut {id:Nat} {x:MCode} (hx:EvC F x a h e a' h') (hne:e≠.exit id):EvC F (.block id x) a h e a' h':=by
 obtain ⟨k0,g0⟩:=hx
 refine ⟨k0,fun k hk=>?_⟩
 simp only[evCode,g0 k hk]
 cases e with
 | exit i=>
  have:i.beq id=false:=beqF fun q=>hne (by rw[q])
  simp only[this,cond_false]
 | _=>rfl
theorem EvC.loop {x:MCode} (hx:EvL F x a h e a' h'):EvC F (.loop x) a h e a' h':=by
 obtain ⟨k0,n0,g⟩:=hx
 exact ⟨max k0 n0,fun k hk=>by simp only[evCode];exact g k (by omega) k (by omega)⟩
theorem EvL.round {x:MCode} (hx:EvC F x a h .norm a1 h1) (hr:EvL F x a1 h1 e a' h'):EvL F x a h e a' h':=by
 obtain ⟨k0,g0⟩:=hx
 obtain ⟨k1,n1,g1⟩:=hr
 refine ⟨max k0 k1,n1+1,fun k hk n hn=>?_⟩
 obtain ⟨m,rfl⟩:∃m,n=m+1:=⟨n-1,by omega⟩
 simp only[iter,g0 k (by omega)]
 exact g1 k (by omega) m (by omega)
theorem EvL.out {x:MCode} (hx:EvC F x a h e a' h') (hne:e≠.norm):EvL F x a h e a' h':=by
 obtain ⟨k0,g0⟩:=hx
 refine ⟨k0,1,fun k hk n hn=>?_⟩
 obtain ⟨m,rfl⟩:∃m,n=m+1:=⟨n-1,by omega⟩
 simp only[iter,g0 k hk]
 cases e<;>first|rfl|exact absurd rfl hne
theorem Ev.code {f:FuncId} {args:List AV} {nt:Nat} {body:MCode} {res:List RV} {vs:List AV} (hf:F f=some (.code nt body res)) (hn:args.length≤nt) (hb:EvC F body ⟨initTm args 0 .nil,[]⟩ h e a' h') (he:e=.ret∨e=.norm) (hd:a'.df=[]) (hr:resA a' h' res=some vs):Ev F f args h (.ret (one vs)) h':=by
 obtain ⟨k0,g⟩:=hb
 refine ⟨k0+1,fun k hk=>?_⟩
 obtain ⟨m,rfl⟩:∃m,k=m+1:=⟨k-1,by omega⟩
 have hle:args.length.ble nt=true:=Nat.ble_eq_true_of_le hn
 simp only[evCall,hf,hle,Bool.not_true,cond_false,g m (by omega)]
 rcases he with rfl|rfl<;>simp only[hd,leave,hr]
theorem Ev.prim {f:FuncId} {args:List AV} {p:List AV→AHeap→Option (CRes×AHeap)} {r:CRes} (hf:F f=some (.prim p)) (hp:p args h=some (r,h')):Ev F f args h r h':=
 ⟨1,fun k hk=>by
  obtain ⟨m,rfl⟩:∃m,k=m+1:=⟨k-1,by omega⟩
  simp only[evCall,hf,hp]⟩
end
end Go.Ev
namespace Go.Ev
open Go
abbrev Post:=AExit→AAct→AHeap→Prop
abbrev QR:=CRes→AHeap→Prop
def WF (F:FT) (f:FuncId) (args:List AV) (h:AHeap) (Q:QR):Prop:=∃r h',Ev F f args h r h'∧Q r h'
theorem WF.ev {F:FT} {f:FuncId} {args:List AV} {h:AHeap} {Q:QR} (w:WF F f args h Q):∃r h',Ev F f args h r h'∧Q r h':=w
theorem WF.imp {F:FT} {f:FuncId} {args:List AV} {h:AHeap} {Q Q':QR} (w:WF F f args h Q) (hq:∀r h',Q r h'→Q' r h'):WF F f args h Q':=by
 obtain ⟨r,h',e,q⟩:=w
 exact ⟨r,h',e,hq _ _ q⟩
def noCall:FuncId→List AV→AHeap→Option (CRes×AHeap):=fun _ _ _=>none
def evO (a:AAct) (op:MOp) (h:AHeap):Option Res:=evOp noCall a op h
def MOp.isCall:MOp→Bool
 | .call _ _=>true
 | .callv _ _=>true
 | _=>false
theorem evOp_noCall {call:FuncId→List AV→AHeap→Option (CRes×AHeap)} {a:AAct} {op:MOp} {h:AHeap} (hc:op.isCall=false):evOp call a op h=evO a op h:=by
 cases op<;>first|rfl|cases hc
def calleeA (a:AAct) (op:MOp):Option (FuncId×List AV):=
 match op with
 | .call f args=>some (f,args.map a.eval)
 | .callv f args=>match a.eval f with
  | .func (.func f) fs cs=>some (f,fs++(args.map a.eval++cs))
  | _=>none
 | _=>none
def WCall (F:FT) (c:Option (FuncId×List AV)) (h:AHeap) (Q:QR):Prop:=
 match c with
 | some (f,args)=>WF F f args h Q
 | none=>False
def callP (f:AAct→AHeap→Post→Prop) (d:Option Nat) (a:AAct) (K:Post):QR
 | .ret x,h=>f (a.put d x) h K
 | .pan x,h=>K (.pan x) a h
def opP (f:AAct→AHeap→Post→Prop) (x:Option Res) (d:Option Nat) (a:AAct) (h:AHeap) (K:Post):Prop:=
 match x with
 | some (.v x h' _)=>f (a.put d x) h' K
 | some (.pan x h')=>K (.pan x) a h'
 | some (.df g as)=>f (AAct.put ⟨a.tm,(g,as)::a.df⟩ d undefA) h K
 | none=>False
def wantP (F:FT) (f:AAct→AHeap→Post→Prop) (w:Bool) (o:MOper) (a:AAct) (h:AHeap) (K:Post):Prop:=
 match w with
 | true=>match o.op.isCall with
  | true=>WCall F (calleeA a o.op) h (callP f o.dst a K)
  | false=>opP f (evO a o.op h) o.dst a h K
 | false=>f (a.put o.dst undefA) h K
def wpOps (F:FT):List MOper→AAct→AHeap→Post→Prop
 | [],a,h,K=>K .norm a h
 | o::r,a,h,K=>wantP F (wpOps F r) (wantedA a o.guard) o a h K
def recPD (f:List Rec→Option (Nat×AV)→AAct→AHeap→Post→Prop) (i bef:Nat) (k:Cls) (a:AAct) (h h':AHeap) (rs:List Rec) (pan:Option (Nat×AV)) (K:Post):Prop:=
 match k with
 | .free=>f rs pan a h' K
 | k=>okWith bef k h h' rs=true∧f (⟨i,k,h,h'⟩::rs) pan a h' K
def opPD (f:List Rec→Option (Nat×AV)→AAct→AHeap→Post→Prop) (x:Option Res) (i bef:Nat) (d:Option Nat) (a:AAct) (h:AHeap) (rs:List Rec) (pan:Option (Nat×AV)) (K:Post):Prop:=
 match x with
 | some (.v x h' k)=>recPD f i bef k (a.put d x) h h' rs pan K
 | some (.pan x h')=>match pan with
  | none=>recPD f i bef .big a h h' rs (some (i,x)) K
  | some _=>False
 | _=>False
def callPD (f:List Rec→Option (Nat×AV)→AAct→AHeap→Post→Prop) (i bef:Nat) (d:Option Nat) (a:AAct) (h:AHeap) (rs:List Rec) (pan:Option (Nat×AV)) (K:Post):QR
 | .ret x,h'=>recPD f i bef .big (a.put d x) h h' rs pan K
 | .pan x,h'=>match pan with
  | none=>recPD f i bef .big a h h' rs (some (i,x)) K
  | some _=>False
def wantPD (F:FT) (f:List Rec→Option (Nat×AV)→AAct→AHeap→Post→Prop) (w:Bool) (i:Nat) (o:MOper) (a:AAct) (h:AHeap) (rs:List Rec) (pan:Option (Nat×AV)) (K:Post):Prop:=
 match w with
 | true=>match o.op.isCall with
  | true=>WCall F (calleeA a o.op) h (callPD f i o.bef o.dst a h rs pan K)
  | false=>opPD f (evO a o.op h) i o.bef o.dst a h rs pan K
 | false=>f rs pan (a.put o.dst undefA) h K
def skipPD (F:FT) (f:List Rec→Option (Nat×AV)→AAct→AHeap→Post→Prop) (s:Bool) (i:Nat) (o:MOper) (a:AAct) (h:AHeap) (rs:List Rec) (pan:Option (Nat×AV)) (K:Post):Prop:=
 match s with
 | true=>f rs pan a h K
 | false=>wantPD F f (wantedA a o.guard) i o a h rs pan K
def wpD (F:FT) (all:List (Nat×MOper)):List (Nat×MOper)→List Rec→Option (Nat×AV)→AAct→AHeap→Post→Prop
 | [],_,none,a,h,K=>K .norm a h
 | [],_,some (_,v),a,h,K=>K (.pan v) ⟨dels all a.tm,a.df⟩ h
 | (i,o)::r,rs,pan,a,h,K=>skipPD F (wpD F all r) (skipsD o.bef pan) i o a h rs pan K
def sqP (f:AAct→AHeap→Post→Prop) (K:Post):Post
 | .norm,a,h=>f a h K
 | e,a,h=>K e a h
def blP (id:Nat) (K:Post):Post
 | .exit i,a,h=>match i.beq id with|true=>K .norm a h|false=>K (.exit i) a h
 | e,a,h=>K e a h
def condP (f g:AAct→AHeap→Post→Prop) (c:AV) (a:AAct) (h:AHeap) (K:Post):Prop:=
 match c with
 | .bool true=>f a h K
 | .bool false=>g a h K
 | _=>False
def wpC (F:FT):MCode→AAct→AHeap→Post→Prop
 | .skip,a,h,K=>K .norm a h
 | .reg ops,a,h,K=>wpOps F ops a h K
 | .regD ops,a,h,K=>wpD F ops ops [] none a h K
 | .seq x y,a,h,K=>wpC F x a h (sqP (wpC F y) K)
 | .cond c x y,a,h,K=>condP (wpC F x) (wpC F y) (a.eval c) a h K
 | .block id x,a,h,K=>wpC F x a h (blP id K)
 | .loop x,a,h,K=>∃e a' h',EvL F x a h e a' h'∧K e a' h'
 | .exit id,a,h,K=>K (.exit id) a h
 | .ret,a,h,K=>K .ret a h
section
variable {F:FT}
theorem WCall.ev {a:AAct} {op:MOp} {h:AHeap} {Q:QR} (hc:op.isCall=true) (w:WCall F (calleeA a op) h Q):(∃x h1,EvO F op a h (.v x h1 .big)∧Q (.ret x) h1)∨(∃x h1,EvO F op a h (.pan x h1)∧Q (.pan x) h1):=by
 cases op with
 | call f args=>
  obtain ⟨r,h',e,q⟩:=w
  cases r with
  | ret x=>exact .inl ⟨x,h',EvO.call e,q⟩
  | pan x=>exact .inr ⟨x,h',EvO.callPan e,q⟩
 | callv f args=>
  simp only[calleeA] at w
  split at w
  ·rename_i g fs cs hf
   obtain ⟨r,h',e,q⟩:=w
   cases r with
   | ret x=>exact .inl ⟨x,h',EvO.callv hf e,q⟩
   | pan x=>exact .inr ⟨x,h',EvO.callvPan hf e,q⟩
  ·exact w.elim
 | _=>cases hc
theorem wpOps_sound:∀(l:List MOper) (a:AAct) (h:AHeap) (K:Post),wpOps F l a h K→∃e a' h',EvOs F l a h e a' h'∧K e a' h'
 | [],a,h,K,w=>⟨.norm,a,h,EvOs.nil,w⟩
 | o::r,a,h,K,w=>by
  simp only[wpOps] at w
  cases hw:wantedA a o.guard with
  | false=>
   rw[hw] at w
   obtain ⟨e,a',h',g,k⟩:=wpOps_sound r _ _ _ w
   exact ⟨e,a',h',EvOs.no hw g,k⟩
  | true=>
   rw[hw] at w
   simp only[wantP] at w
   cases hc:o.op.isCall with
   | true=>
    rw[hc] at w
    rcases w.ev hc with ⟨x,h1,g,k⟩|⟨x,h1,g,k⟩
    ·obtain ⟨e,a',h',g',k'⟩:=wpOps_sound r _ _ _ k
     exact ⟨e,a',h',EvOs.val hw g g',k'⟩
    ·exact ⟨_,_,_,EvOs.pan hw g,k⟩
   | false=>
    rw[hc] at w
    simp only[opP] at w
    have ev:∀res,evO a o.op h=some res→EvO F o.op a h res:=fun res he=>EvO.of fun call=>(evOp_noCall hc).trans he
    split at w
    ·rename_i x h1 k1 he
     obtain ⟨e,a',h',g',k'⟩:=wpOps_sound r _ _ _ w
     exact ⟨e,a',h',EvOs.val hw (ev _ he) g',k'⟩
    ·rename_i x h1 he
     exact ⟨_,_,_,EvOs.pan hw (ev _ he),w⟩
    ·rename_i g as he
     obtain ⟨e,a',h',g',k'⟩:=wpOps_sound r _ _ _ w
     exact ⟨e,a',h',EvOs.df hw (ev _ he) g',k'⟩
    ·exact w.elim
inductive Thin:List Rec→List Rec→Prop
 | nil:Thin [] []
 | cons (r:Rec) {rs rs':List Rec}:Thin rs rs'→Thin (r::rs) (r::rs')
 | free {r:Rec} {rs rs':List Rec}:r.k=.free→Thin rs rs'→Thin rs (r::rs')
theorem Thin.ok {rs rs':List Rec} (t:Thin rs rs') {bef:Nat} {k:Cls} {h h':AHeap} (ho:okWith bef k h h' rs=true):okWith bef k h h' rs'=true:=by
 induction t with
 | nil=>exact ho
 | cons r t ih=>
  simp only[okWith,Bool.and_eq_true] at ho ⊢
  exact ⟨ho.1,ih ho.2⟩
 | @free r rs rs' hr t ih=>
  simp only[okWith,Bool.and_eq_true]
  refine ⟨?_,ih ho⟩
  have:compat r k h h'=true:=by unfold compat;rw[hr]
  rw[this,Bool.or_true]
theorem okWith_free (bef:Nat) (h h':AHeap):∀rs,okWith bef .free h h' rs=true
 | []=>rfl
 | r::rs=>by
  have:compat r .free h h'=true:=by unfold compat;cases r.k<;>rfl
  simp only[okWith,this,Bool.or_true,Bool.true_and,okWith_free bef h h' rs]
theorem recD_sound {f:List Rec→Option (Nat×AV)→AAct→AHeap→Post→Prop} {i bef:Nat} {k:Cls} {a:AAct} {h h':AHeap} {rs rs':List Rec} {pan:Option (Nat×AV)} {K:Post} (t:Thin rs rs') (w:recPD f i bef k a h h' rs pan K) :
  okWith bef k h h' rs'=true∧∃rs1,Thin rs1 (⟨i,k,h,h'⟩::rs')∧f rs1 pan a h' K:=by
 cases k with
 | free=>exact ⟨okWith_free _ _ _ _,rs,.free rfl t,w⟩
 | new=>exact ⟨t.ok w.1,_,.cons _ t,w.2⟩
 | rd b=>exact ⟨t.ok w.1,_,.cons _ t,w.2⟩
 | wr b=>exact ⟨t.ok w.1,_,.cons _ t,w.2⟩
 | big=>exact ⟨t.ok w.1,_,.cons _ t,w.2⟩
theorem wpD_sound (all:List (Nat×MOper)):∀(l:List (Nat×MOper)) (rs rs':List Rec) (pan:Option (Nat×AV)) (a:AAct) (h:AHeap) (K:Post),Thin rs rs'→wpD F all l rs pan a h K→∃e a' h',EvD F all l a h rs' pan e a' h'∧K e a' h'
 | [],rs,rs',none,a,h,K,_,w=>⟨.norm,a,h,EvD.nil,w⟩
 | [],rs,rs',some (j,v),a,h,K,_,w=>⟨.pan v,_,h,EvD.nilPan,w⟩
 | (i,o)::r,rs,rs',pan,a,h,K,t,w=>by
  simp only[wpD] at w
  cases hs:skipsD o.bef pan with
  | true=>
   rw[hs] at w
   obtain ⟨e,a',h',g,k⟩:=wpD_sound all r _ _ _ _ _ _ t w
   exact ⟨e,a',h',EvD.skip hs g,k⟩
  | false=>
   rw[hs] at w
   simp only[skipPD] at w
   cases hw:wantedA a o.guard with
   | false=>
    rw[hw] at w
    obtain ⟨e,a',h',g,k⟩:=wpD_sound all r _ _ _ _ _ _ t w
    exact ⟨e,a',h',EvD.no hs hw g,k⟩
   | true=>
    rw[hw] at w
    simp only[wantPD] at w
    cases hc:o.op.isCall with
    | true=>
     rw[hc] at w
     rcases w.ev hc with ⟨x,h1,g,k⟩|⟨x,h1,g,k⟩
     ·simp only[callPD] at k
      obtain ⟨k1,rs1,t1,w1⟩:=recD_sound t k
      obtain ⟨e,a',h',g',k'⟩:=wpD_sound all r _ _ _ _ _ _ t1 w1
      exact ⟨e,a',h',EvD.val hs hw g k1 g',k'⟩
     ·cases pan with
      | some _=>exact k.elim
      | none=>
       simp only[callPD] at k
       obtain ⟨k1,rs1,t1,w1⟩:=recD_sound t k
       obtain ⟨e,a',h',g',k'⟩:=wpD_sound all r _ _ _ _ _ _ t1 w1
       exact ⟨e,a',h',EvD.pan hw g k1 g',k'⟩
    | false=>
     rw[hc] at w
     simp only[opPD] at w
     have ev:∀res,evO a o.op h=some res→EvO F o.op a h res:=fun res he=>EvO.of fun call=>(evOp_noCall hc).trans he
     split at w
     ·rename_i x h1 c1 he
      obtain ⟨k1,rs1,t1,w1⟩:=recD_sound t w
      obtain ⟨e,a',h',g',k'⟩:=wpD_sound all r _ _ _ _ _ _ t1 w1
      exact ⟨e,a',h',EvD.val hs hw (ev _ he) k1 g',k'⟩
     ·rename_i x h1 he
      cases pan with
      | some _=>exact w.elim
      | none=>
       obtain ⟨k1,rs1,t1,w1⟩:=recD_sound t w
       obtain ⟨e,a',h',g',k'⟩:=wpD_sound all r _ _ _ _ _ _ t1 w1
       exact ⟨e,a',h',EvD.pan hw (ev _ he) k1 g',k'⟩
     ·exact w.elim
theorem wpC_sound:∀(c:MCode) (a:AAct) (h:AHeap) (K:Post),wpC F c a h K→∃e a' h',EvC F c a h e a' h'∧K e a' h'
 | .skip,a,h,K,w=>⟨_,_,_,EvC.skip,w⟩
 | .exit id,a,h,K,w=>⟨_,_,_,EvC.exit,w⟩
 | .ret,a,h,K,w=>⟨_,_,_,EvC.ret,w⟩
 | .reg ops,a,h,K,w=>by
  obtain ⟨e,a',h',g,k⟩:=wpOps_sound ops a h K w
  exact ⟨e,a',h',EvC.reg g,k⟩
 | .regD ops,a,h,K,w=>by
  obtain ⟨e,a',h',g,k⟩:=wpD_sound ops ops [] [] none a h K .nil w
  exact ⟨e,a',h',EvC.regD g,k⟩
 | .seq x y,a,h,K,w=>by
  obtain ⟨e,a',h',g,k⟩:=wpC_sound x a h _ w
  cases e with
  | norm=>
   obtain ⟨e2,a2,h2,g2,k2⟩:=wpC_sound y a' h' K k
   exact ⟨e2,a2,h2,EvC.seq g g2,k2⟩
  | exit i=>exact ⟨_,_,_,EvC.seqOut g (by simp),k⟩
  | ret=>exact ⟨_,_,_,EvC.seqOut g (by simp),k⟩
  | pan v=>exact ⟨_,_,_,EvC.seqOut g (by simp),k⟩
 | .cond c x y,a,h,K,w=>by
  simp only[wpC] at w
  unfold condP at w
  split at w
  ·rename_i hc
   obtain ⟨e,a',h',g,k⟩:=wpC_sound x a h K w
   exact ⟨e,a',h',EvC.cond hc g,k⟩
  ·rename_i hc
   obtain ⟨e,a',h',g,k⟩:=wpC_sound y a h K w
   exact ⟨e,a',h',EvC.cond hc g,k⟩
  ·exact w.elim
 | .block id x,a,h,K,w=>by
  obtain ⟨e,a',h',g,k⟩:=wpC_sound x a h _ w
  cases e with
  | exit i=>
   simp only[blP] at k
   split at k
   ·rename_i hi
    have:i=id:=Nat.eq_of_beq_eq_true hi
    subst this
    exact ⟨_,_,_,EvC.block g,k⟩
   ·rename_i hi
    exact ⟨_,_,_,EvC.blockOut g (fun q=>by cases q;rw[Nat.beq_refl] at hi;cases hi),k⟩
  | norm=>exact ⟨_,_,_,EvC.blockOut g (by simp),k⟩
  | ret=>exact ⟨_,_,_,EvC.blockOut g (by simp),k⟩
  | pan v=>exact ⟨_,_,_,EvC.blockOut g (by simp),k⟩
 | .loop x,a,h,K,w=>by
  obtain ⟨e,a',h',g,k⟩:=w
  exact ⟨e,a',h',EvC.loop g,k⟩
def loopP (I:Nat→AAct→AHeap→Prop) (n:Nat) (K:Post):Post
 | .norm,a,h=>∃m,m<n∧I m a h
 | e,a,h=>K e a h
theorem wp_loop (I:Nat→AAct→AHeap→Prop) {x:MCode} {K:Post} (step:∀n a h,I n a h→wpC F x a h (loopP I n K)):∀(n:Nat) {a:AAct} {h:AHeap},I n a h→wpC F (.loop x) a h K:=by
 intro n
 induction n using Nat.strongRecOn with
 | _ n ih=>
  intro a h hI
  obtain ⟨e,a',h',g,k⟩:=wpC_sound x a h _ (step n a h hI)
  cases e with
  | norm=>
   obtain ⟨m,hm,hI'⟩:=k
   obtain ⟨e2,a2,h2,g2,k2⟩:=ih m hm hI'
   exact ⟨e2,a2,h2,EvL.round g g2,k2⟩
  | exit i=>exact ⟨_,_,_,EvL.out g (by simp),k⟩
  | ret=>exact ⟨_,_,_,EvL.out g (by simp),k⟩
  | pan v=>exact ⟨_,_,_,EvL.out g (by simp),k⟩
def WDef (F:FT) (f:FuncId) (args:List AV) (lv:Lv) (h:AHeap) (Q:AHeap→Prop):Prop:=
 ∃h',(∃k0,∀k,k0≤k→evDefer (evCall F k) k (F f) args lv h=some (.ret,h'))∧Q h'
def finLP (F:FT) (res:List RV) (Q:QR) (a:AAct):List (FuncId×List AV)→Lv→AHeap→Prop
 | [],.ret,h=>match resA a h res with|some vs=>Q (.ret (one vs)) h|none=>False
 | [],.pan v,h=>Q (.pan v) h
 | (f,args)::r,lv,h=>WDef F f args lv h (finLP F res Q a r .ret)
def finP (F:FT) (res:List RV) (Q:QR):Post
 | .norm,a,h=>finLP F res Q a a.df .ret h
 | .ret,a,h=>finLP F res Q a a.df .ret h
 | .pan v,a,h=>finLP F res Q a a.df (.pan v) h
 | .exit _,_,_=>False
theorem finL_sound {res:List RV} {Q:QR} {a:AAct}:∀(l:List (FuncId×List AV)) (lv:Lv) (h:AHeap),finLP F res Q a l lv h→∃r h',(∃k0,∀k,k0≤k→leave (evCall F k) k F res a l lv h=some (r,h'))∧Q r h'
 | [],.ret,h,w=>by
  simp only[finLP] at w
  split at w
  ·rename_i vs hv
   exact ⟨_,_,⟨0,fun k _=>by simp only[leave,hv]⟩,w⟩
  ·exact w.elim
 | [],.pan v,h,w=>⟨_,_,⟨0,fun k _=>by simp only[leave]⟩,w⟩
 | (f,args)::r,lv,h,w=>by
  obtain ⟨h1,⟨k0,g0⟩,w1⟩:=w
  obtain ⟨x,h',⟨k1,g1⟩,q⟩:=finL_sound r .ret h1 w1
  refine ⟨x,h',⟨max k0 k1,fun k hk=>?_⟩,q⟩
  simp only[leave,g0 k (by omega),g1 k (by omega)]
theorem WF.code {f:FuncId} {args:List AV} {h:AHeap} {Q:QR} {nt:Nat} {body:MCode} {res:List RV} (hf:F f=some (.code nt body res)) (hn:args.length.ble nt=true) (w:wpC F body ⟨initTm args 0 .nil,[]⟩ h (finP F res Q)):WF F f args h Q:=by
 obtain ⟨e,a,h1,⟨k0,g0⟩,k⟩:=wpC_sound _ _ _ _ w
 have fin:∀lv,finLP F res Q a a.df lv h1→(∀k,k0≤k→evCall F (k+1) f args h=leave (evCall F k) k F res a a.df lv h1)→WF F f args h Q:=by
  intro lv hl he
  obtain ⟨r,h',⟨k1,g1⟩,q⟩:=finL_sound _ _ _ hl
  refine ⟨r,h',⟨max k0 k1+1,fun k hk=>?_⟩,q⟩
  obtain ⟨m,rfl⟩:∃m,k=m+1:=⟨k-1,by omega⟩
  rw[he m (by omega)]
  exact g1 m (by omega)
 have hb:∀k,evCall F (k+1) f args h=(match evCode (evCall F k) k body ⟨initTm args 0 .nil,[]⟩ h with
   | some (.norm,a,h')=>leave (evCall F k) k F res a a.df .ret h'
   | some (.ret,a,h')=>leave (evCall F k) k F res a a.df .ret h'
   | some (.pan v,a,h')=>leave (evCall F k) k F res a a.df (.pan v) h'
   | _=>none):=fun k=>by simp only[evCall,hf,hn,Bool.not_true,cond_false];rfl
 cases e with
 | norm=>exact fin .ret k fun k hk=>by rw[hb,g0 k hk]
 | ret=>exact fin .ret k fun k hk=>by rw[hb,g0 k hk]
 | pan v=>exact fin (.pan v) k fun k hk=>by rw[hb,g0 k hk]
 | exit i=>exact k.elim
theorem WF.prim {f:FuncId} {args:List AV} {h h':AHeap} {Q:QR} {p:List AV→AHeap→Option (CRes×AHeap)} {r:CRes} (hf:F f=some (.prim p)) (hp:p args h=some (r,h')) (hQ:Q r h'):WF F f args h Q:=
 ⟨r,h',Ev.prim hf hp,hQ⟩
def defP (Q:AHeap→Prop):Post
 | .norm,a,h=>a.df=[]∧Q h
 | .ret,a,h=>a.df=[]∧Q h
 | _,_,_=>False
def defP0 (f:AAct→AHeap→Post→Prop) (Q:AHeap→Prop):Post
 | .norm,a,h=>f a h (defP Q)
 | _,_,_=>False
theorem WDef.code {f:FuncId} {args:List AV} {lv:Lv} {h:AHeap} {Q:AHeap→Prop} {nt:Nat} {d:Option Nat} {b:Nat} {ops:List MOper} {rest:MCode} (hf:F f=some (.code nt (.seq (.reg (⟨d,.recover,none,b⟩::ops)) rest) [])) (hn:args.length.ble nt=true) (w:wpOps F ops (AAct.put ⟨initTm args 0 .nil,[]⟩ d lv.val) h (defP0 (wpC F rest) Q)):WDef F f args lv h Q:=by
 obtain ⟨e,a,h1,⟨k0,g0⟩,k⟩:=wpOps_sound _ _ _ _ w
 cases e with
 | norm=>
  obtain ⟨e2,a2,h2,⟨k1,g1⟩,k2⟩:=wpC_sound _ _ _ _ k
  cases e2 with
  | norm=>
   obtain ⟨hd,q⟩:=k2
   obtain ⟨tm,df⟩:=a2
   cases hd
   exact ⟨h2,⟨max k0 k1,fun k hk=>by rw[hf];simp only[evDefer,hn,Bool.not_true,cond_false,g0 k (by omega),g1 k (by omega)]⟩,q⟩
  | ret=>
   obtain ⟨hd,q⟩:=k2
   obtain ⟨tm,df⟩:=a2
   cases hd
   exact ⟨h2,⟨max k0 k1,fun k hk=>by rw[hf];simp only[evDefer,hn,Bool.not_true,cond_false,g0 k (by omega),g1 k (by omega)]⟩,q⟩
  | exit i=>exact k2.elim
  | pan v=>exact k2.elim
 | exit i=>exact k.elim
 | ret=>exact k.elim
 | pan v=>exact k.elim
theorem WF.mono {f:FuncId} {args:List AV} {h:AHeap} {Q Q':QR} (hq:∀r h',Q r h'→Q' r h') (w:WF F f args h Q):WF F f args h Q':=w.imp hq
theorem WCall.mono {c:Option (FuncId×List AV)} {h:AHeap} {Q Q':QR} (hq:∀r h',Q r h'→Q' r h') (w:WCall F c h Q):WCall F c h Q':=by
 unfold WCall at *
 split at w
 ·exact w.imp hq
 ·exact w
theorem wpOps_mono {K K':Post} (hK:∀e a h,K e a h→K' e a h):∀(l:List MOper) (a:AAct) (h:AHeap),wpOps F l a h K→wpOps F l a h K'
 | [],a,h,w=>hK _ _ _ w
 | o::r,a,h,w=>by
  simp only[wpOps] at w ⊢
  unfold wantP at w ⊢
  split at w
  ·split at w
   ·refine w.mono fun r' h' q=>?_
    cases r' with
    | ret x=>exact wpOps_mono hK r _ _ q
    | pan x=>exact hK _ _ _ q
   ·unfold opP at w ⊢
    split at w
    ·exact wpOps_mono hK r _ _ w
    ·exact hK _ _ _ w
    ·exact wpOps_mono hK r _ _ w
    ·exact w
  ·exact wpOps_mono hK r _ _ w
theorem wpD_mono {all:List (Nat×MOper)} {K K':Post} (hK:∀e a h,K e a h→K' e a h):∀(l:List (Nat×MOper)) (rs:List Rec) (pan:Option (Nat×AV)) (a:AAct) (h:AHeap),wpD F all l rs pan a h K→wpD F all l rs pan a h K'
 | [],rs,none,a,h,w=>hK _ _ _ w
 | [],rs,some (j,v),a,h,w=>hK _ _ _ w
 | (i,o)::r,rs,pan,a,h,w=>by
  have hr:∀{i bef:Nat} {k:Cls} {a:AAct} {h h':AHeap} {rs:List Rec} {pan:Option (Nat×AV)},recPD (wpD F all r) i bef k a h h' rs pan K→recPD (wpD F all r) i bef k a h h' rs pan K':=by
   intro i bef k a h h' rs pan w
   unfold recPD at w ⊢
   split at w
   ·exact wpD_mono hK r _ _ _ _ w
   ·exact ⟨w.1,wpD_mono hK r _ _ _ _ w.2⟩
  simp only[wpD] at w ⊢
  unfold skipPD at w ⊢
  split at w
  ·exact wpD_mono hK r _ _ _ _ w
  ·unfold wantPD at w ⊢
   split at w
   ·split at w
    ·refine w.mono fun r' h' q=>?_
     cases r' with
     | ret x=>unfold callPD at q ⊢;exact hr q
     | pan x=>cases pan with
      | none=>unfold callPD at q ⊢;exact hr q
      | some _=>exact q
    ·unfold opPD at w ⊢
     split at w
     ·exact hr w
     ·split at w
      ·exact hr w
      ·exact w
     ·exact w
   ·exact wpD_mono hK r _ _ _ _ w
theorem wpC_mono:∀(c:MCode) {K K':Post} (_:∀e a h,K e a h→K' e a h) (a:AAct) (h:AHeap),wpC F c a h K→wpC F c a h K'
 | .skip,K,K',hK,a,h,w=>hK _ _ _ w
 | .exit id,K,K',hK,a,h,w=>hK _ _ _ w
 | .ret,K,K',hK,a,h,w=>hK _ _ _ w
 | .reg ops,K,K',hK,a,h,w=>wpOps_mono hK ops a h w
 | .regD ops,K,K',hK,a,h,w=>wpD_mono hK ops [] none a h w
 | .seq x y,K,K',hK,a,h,w=>wpC_mono x (fun e a h q=>by
   cases e with
   | norm=>exact wpC_mono y hK a h q
   | _=>exact hK _ _ _ q) a h w
 | .cond c x y,K,K',hK,a,h,w=>by
  simp only[wpC] at w ⊢
  unfold condP at w ⊢
  split at w
  ·exact wpC_mono x hK _ _ w
  ·exact wpC_mono y hK _ _ w
  ·exact w
 | .block id x,K,K',hK,a,h,w=>wpC_mono x (fun e a h q=>by
   cases e with
   | exit i=>unfold blP at q ⊢;simp only at q ⊢;split at q<;>exact hK _ _ _ q
   | _=>exact hK _ _ _ q) a h w
 | .loop x,K,K',hK,a,h,w=>by
  obtain ⟨e,a',h',g,k⟩:=w
  exact ⟨e,a',h',g,hK _ _ _ k⟩
def cutP (I:AAct→AHeap→Prop) (K:Post):Post
 | .norm,a,h=>I a h
 | e,a,h=>K e a h
theorem cutP_sq {I:AAct→AHeap→Prop} {K:Post} {y:MCode} (hI:∀a h,I a h→wpC F y a h K) (e:AExit) (a:AAct) (h:AHeap) (q:cutP I K e a h):sqP (wpC F y) K e a h:=by
 cases e with
 | norm=>exact hI a h q
 | _=>exact q
theorem cond_cut (I:AAct→AHeap→Prop) {x x' y:MCode} {c:AV} {a:AAct} {h:AHeap} {K:Post} (w:condP (wpC F x) (wpC F x') c a h (cutP I K)) (hI:∀a h,I a h→wpC F y a h K):condP (wpC F x) (wpC F x') c a h (sqP (wpC F y) K):=by
 unfold condP at w ⊢
 split at w
 ·exact wpC_mono x (cutP_sq hI) a h w
 ·exact wpC_mono x' (cutP_sq hI) a h w
 ·exact w
end
section
variable {F:FT} {a:AAct} {h h':AHeap} {K:Post}
@[go_sem] theorem wpC_skip:wpC F .skip a h K=K .norm a h:=Eq.trans rfl rfl
@[go_sem] theorem wpC_reg {ops:List MOper}:wpC F (.reg ops) a h K=wpOps F ops a h K:=Eq.trans rfl rfl
@[go_sem] theorem wpC_regD {ops:List (Nat×MOper)}:wpC F (.regD ops) a h K=wpD F ops ops [] none a h K:=Eq.trans rfl rfl
@[go_sem] theorem wpC_seq {x y:MCode}:wpC F (.seq x y) a h K=wpC F x a h (sqP (wpC F y) K):=Eq.trans rfl rfl
@[go_sem] theorem wpC_cond {c:Opd} {x y:MCode}:wpC F (.cond c x y) a h K=condP (wpC F x) (wpC F y) (a.eval c) a h K:=Eq.trans rfl rfl
@[go_sem] theorem wpC_block {id:Nat} {x:MCode}:wpC F (.block id x) a h K=wpC F x a h (blP id K):=Eq.trans rfl rfl
@[go_sem] theorem wpC_exit {id:Nat}:wpC F (.exit id) a h K=K (.exit id) a h:=Eq.trans rfl rfl
@[go_sem] theorem wpC_ret:wpC F .ret a h K=K .ret a h:=Eq.trans rfl rfl
@[go_sem] theorem wpOps_nil:wpOps F [] a h K=K .norm a h:=Eq.trans rfl rfl
@[go_sem] theorem wpOps_cons {d:Option Nat} {op:MOp} {g:Option (Nat×Bool)} {b:Nat} {r:List MOper}:wpOps F (⟨d,op,g,b⟩::r) a h K=wantP F (wpOps F r) (wantedA a g) ⟨d,op,g,b⟩ a h K:=Eq.trans rfl rfl
section
variable {f:AAct→AHeap→Post→Prop} {d:Option Nat} {g:Option (Nat×Bool)} {b:Nat} {args:List Opd} {fn:FuncId} {fv:Opd} {op:MOp} {o:MOper}
def kindP (F:FT) (f:AAct→AHeap→Post→Prop) (c:Bool) (d:Option Nat) (op:MOp) (a:AAct) (h:AHeap) (K:Post):Prop:=
 match c with
 | true=>WCall F (calleeA a op) h (callP f d a K)
 | false=>opP f (evO a op h) d a h K
@[go_sem] theorem wantP_yes:wantP F f true ⟨d,op,g,b⟩ a h K=kindP F f op.isCall d op a h K:=Eq.trans rfl rfl
@[go_sem] theorem kindP_true:kindP F f true d op a h K=WCall F (calleeA a op) h (callP f d a K):=Eq.trans rfl rfl
@[go_sem] theorem kindP_false:kindP F f false d op a h K=opP f (evO a op h) d a h K:=Eq.trans rfl rfl
@[go_sem] theorem wantP_no:wantP F f false ⟨d,op,g,b⟩ a h K=f (a.put d undefA) h K:=Eq.trans rfl rfl
@[go_sem] theorem opP_v {x:AV} {k:Cls}:opP f (some (.v x h' k)) d a h K=f (a.put d x) h' K:=Eq.trans rfl rfl
@[go_sem] theorem opP_pan {x:AV}:opP f (some (.pan x h')) d a h K=K (.pan x) a h':=Eq.trans rfl rfl
@[go_sem] theorem opP_df {as:List AV}:opP f (some (.df fn as)) d a h K=f (AAct.put ⟨a.tm,(fn,as)::a.df⟩ d undefA) h K:=Eq.trans rfl rfl
@[go_sem] theorem callP_ret {x:AV}:callP f d a K (.ret x) h=f (a.put d x) h K:=Eq.trans rfl rfl
@[go_sem] theorem callP_pan {x:AV}:callP f d a K (.pan x) h=K (.pan x) a h:=Eq.trans rfl rfl
@[go_sem] theorem sqP_norm:sqP f K .norm a h=f a h K:=Eq.trans rfl rfl
@[go_sem] theorem sqP_exit {i:Nat}:sqP f K (.exit i) a h=K (.exit i) a h:=Eq.trans rfl rfl
@[go_sem] theorem sqP_ret:sqP f K .ret a h=K .ret a h:=Eq.trans rfl rfl
@[go_sem] theorem sqP_pan {v:AV}:sqP f K (.pan v) a h=K (.pan v) a h:=Eq.trans rfl rfl
@[go_sem] theorem blP_norm {i:Nat}:blP i K .norm a h=K .norm a h:=Eq.trans rfl rfl
@[go_sem] theorem blP_exit {i j:Nat}:blP i K (.exit j) a h=if j=i then K .norm a h else K (.exit j) a h:=by
 simp only[blP]
 by_cases e:j=i
 ·rw[if_pos e,beqT e]
 ·rw[if_neg e,beqF e]
@[go_sem] theorem blP_ret {i:Nat}:blP i K .ret a h=K .ret a h:=Eq.trans rfl rfl
@[go_sem] theorem blP_pan {i:Nat} {v:AV}:blP i K (.pan v) a h=K (.pan v) a h:=Eq.trans rfl rfl
variable {f2:AAct→AHeap→Post→Prop}
@[go_sem] theorem condP_true:condP f f2 (.bool true) a h K=f a h K:=Eq.trans rfl rfl
@[go_sem] theorem condP_false:condP f f2 (.bool false) a h K=f2 a h K:=Eq.trans rfl rfl
theorem condP_splitN {c:Bool} (h1:c=false→f a h K) (h2:c=true→f2 a h K):condP f f2 (.bool (!c)) a h K:=by cases c;exact h1 rfl;exact h2 rfl
theorem condP_split {c:Bool} (h1:c=true→f a h K) (h2:c=false→f2 a h K):condP f f2 (.bool c) a h K:=by cases c;exact h2 rfl;exact h1 rfl
theorem wantP_splitN {w:Bool} (h1:w=false→wantP F f true o a h K) (h2:w=true→wantP F f false o a h K):wantP F f (!w) o a h K:=by cases w;exact h1 rfl;exact h2 rfl
theorem wantP_split {w:Bool} (h1:w=true→wantP F f true o a h K) (h2:w=false→wantP F f false o a h K):wantP F f w o a h K:=by cases w;exact h2 rfl;exact h1 rfl
end
section
variable {f:List Rec→Option (Nat×AV)→AAct→AHeap→Post→Prop} {i bef:Nat} {d:Option Nat} {g:Option (Nat×Bool)} {args:List Opd} {fn:FuncId} {fv:Opd} {op:MOp} {o:MOper} {rs:List Rec} {pan:Option (Nat×AV)} {all r:List (Nat×MOper)}
@[go_sem] theorem wpD_nil:wpD F all [] rs none a h K=K .norm a h:=Eq.trans rfl rfl
@[go_sem] theorem wpD_nilPan {v:AV}:wpD F all [] rs (some (i,v)) a h K=K (.pan v) ⟨dels all a.tm,a.df⟩ h:=Eq.trans rfl rfl
@[go_sem] theorem wpD_cons:wpD F all ((i,⟨d,op,g,bef⟩)::r) rs pan a h K=skipPD F (wpD F all r) (skipsD bef pan) i ⟨d,op,g,bef⟩ a h rs pan K:=by cases pan<;>rfl
@[go_sem] theorem skipsD_none:skipsD bef none=false:=Eq.trans rfl rfl
@[go_sem] theorem skipsD_some {v:AV}:skipsD bef (some (i,v))=bef.testBit i:=Eq.trans rfl rfl
@[go_sem] theorem skipPD_true:skipPD F f true i ⟨d,op,g,bef⟩ a h rs pan K=f rs pan a h K:=Eq.trans rfl rfl
@[go_sem] theorem skipPD_false:skipPD F f false i ⟨d,op,g,bef⟩ a h rs pan K=wantPD F f (wantedA a g) i ⟨d,op,g,bef⟩ a h rs pan K:=Eq.trans rfl rfl
def kindPD (F:FT) (f:List Rec→Option (Nat×AV)→AAct→AHeap→Post→Prop) (c:Bool) (i bef:Nat) (d:Option Nat) (op:MOp) (a:AAct) (h:AHeap) (rs:List Rec) (pan:Option (Nat×AV)) (K:Post):Prop:=
 match c with
 | true=>WCall F (calleeA a op) h (callPD f i bef d a h rs pan K)
 | false=>opPD f (evO a op h) i bef d a h rs pan K
@[go_sem] theorem wantPD_yes:wantPD F f true i ⟨d,op,g,bef⟩ a h rs pan K=kindPD F f op.isCall i bef d op a h rs pan K:=Eq.trans rfl rfl
@[go_sem] theorem kindPD_true:kindPD F f true i bef d op a h rs pan K=WCall F (calleeA a op) h (callPD f i bef d a h rs pan K):=Eq.trans rfl rfl
@[go_sem] theorem kindPD_false:kindPD F f false i bef d op a h rs pan K=opPD f (evO a op h) i bef d a h rs pan K:=Eq.trans rfl rfl
@[go_sem] theorem wantPD_no:wantPD F f false i ⟨d,op,g,bef⟩ a h rs pan K=f rs pan (a.put d undefA) h K:=Eq.trans rfl rfl
theorem wantPD_splitN {w:Bool} (h1:w=false→wantPD F f true i o a h rs pan K) (h2:w=true→wantPD F f false i o a h rs pan K):wantPD F f (!w) i o a h rs pan K:=by cases w;exact h1 rfl;exact h2 rfl
theorem wantPD_split {w:Bool} (h1:w=true→wantPD F f true i o a h rs pan K) (h2:w=false→wantPD F f false i o a h rs pan K):wantPD F f w i o a h rs pan K:=by cases w;exact h2 rfl;exact h1 rfl
@[go_sem] theorem opPD_v {x:AV} {k:Cls}:opPD f (some (.v x h' k)) i bef d a h rs pan K=recPD f i bef k (a.put d x) h h' rs pan K:=Eq.trans rfl rfl
@[go_sem] theorem opPD_pan {x:AV}:opPD f (some (.pan x h')) i bef d a h rs none K=recPD f i bef .big a h h' rs (some (i,x)) K:=Eq.trans rfl rfl
@[go_sem] theorem callPD_ret {x:AV}:callPD f i bef d a h rs pan K (.ret x) h'=recPD f i bef .big (a.put d x) h h' rs pan K:=Eq.trans rfl rfl
@[go_sem] theorem callPD_pan {x:AV}:callPD f i bef d a h rs none K (.pan x) h'=recPD f i bef .big a h h' rs (some (i,x)) K:=Eq.trans rfl rfl
@[go_sem] theorem recPD_free:recPD f i bef .free a h h' rs pan K=f rs pan a h' K:=Eq.trans rfl rfl
@[go_sem] theorem recPD_new:recPD f i bef .new a h h' rs pan K=(okWith bef .new h h' rs=true∧f (⟨i,.new,h,h'⟩::rs) pan a h' K):=Eq.trans rfl rfl
@[go_sem] theorem recPD_rd {b:Nat}:recPD f i bef (.rd b) a h h' rs pan K=(okWith bef (.rd b) h h' rs=true∧f (⟨i,.rd b,h,h'⟩::rs) pan a h' K):=Eq.trans rfl rfl
@[go_sem] theorem recPD_wr {b:Nat}:recPD f i bef (.wr b) a h h' rs pan K=(okWith bef (.wr b) h h' rs=true∧f (⟨i,.wr b,h,h'⟩::rs) pan a h' K):=Eq.trans rfl rfl
@[go_sem] theorem recPD_big:recPD f i bef .big a h h' rs pan K=(okWith bef .big h h' rs=true∧f (⟨i,.big,h,h'⟩::rs) pan a h' K):=Eq.trans rfl rfl
attribute [go_sem] okWith compat Nat.testBit_eq_decide_div_mod_eq decide_true decide_false Bool.true_or Bool.or_true Bool.false_or Bool.or_false Bool.and_true Bool.true_and Bool.and_false Bool.false_and Bool.not_true Bool.not_false true_and and_true
end
@[go_sem] theorem WCall_some {f:FuncId} {args:List AV} {Q:QR}:WCall F (some (f,args)) h Q=WF F f args h Q:=Eq.trans rfl rfl
@[go_sem] theorem put_some {d:Nat} {v:AV}:a.put (some d) v=⟨a.tm.set d v,a.df⟩:=Eq.trans rfl rfl
@[go_sem] theorem put_none {v:AV}:a.put none v=a:=Eq.trans rfl rfl
@[go_sem] theorem eval_t {t:Tr AV} {df:List (FuncId×List AV)} {i:Nat}:AAct.eval ⟨t,df⟩ (.t i)=(t.get i).getD undefA:=Eq.trans rfl rfl
@[go_sem] theorem eval_c {v:AV}:AAct.eval a (.c v)=v:=Eq.trans rfl rfl
@[go_sem] theorem wanted_none:wantedA a none=true:=Eq.trans rfl rfl
def wantB:Option AV→Bool→Bool
 | some (.bool b),true=>b
 | some (.bool b),false=>!b
 | _,_=>false
@[go_sem] theorem wantB_true {b:Bool}:wantB (some (.bool b)) true=b:=Eq.trans rfl rfl
@[go_sem] theorem wantB_false {b:Bool}:wantB (some (.bool b)) false=!b:=Eq.trans rfl rfl
@[go_sem] theorem wanted_some {t:Nat} {w:Bool} {x:Tr AV} {df:List (FuncId×List AV)}:wantedA ⟨x,df⟩ (some (t,w))=wantB (x.get t) w:=by
 simp only[wantedA]
 generalize x.get t=y
 cases y with
 | none=>rfl
 | some v=>cases v with
  | bool b=>cases w<;>cases b<;>rfl
  | _=>rfl
@[go_sem] theorem bin_lss {k:IntKind} {x y:Int}:binA .lss (.int k x) (.int k y)=some (.bool (decide (x<y))):=by simp [binA,intBin]
@[go_sem] theorem bin_leq {k:IntKind} {x y:Int}:binA .leq (.int k x) (.int k y)=some (.bool (decide (x≤y))):=by simp [binA,intBin]
@[go_sem] theorem bin_gtr {k:IntKind} {x y:Int}:binA .gtr (.int k x) (.int k y)=some (.bool (decide (x>y))):=by simp [binA,intBin]
@[go_sem] theorem bin_geq {k:IntKind} {x y:Int}:binA .geq (.int k x) (.int k y)=some (.bool (decide (x≥y))):=by simp [binA,intBin]
@[go_sem] theorem bin_eql {k:IntKind} {x y:Int}:binA .eql (.int k x) (.int k y)=some (.bool (x==y)):=by simp [binA,intBin]
@[go_sem] theorem bin_neq {k:IntKind} {x y:Int}:binA .neq (.int k x) (.int k y)=some (.bool (x != y)):=by simp [binA,intBin]
@[go_sem] theorem bin_add {k:IntKind} {x y:Int}:binA .add (.int k x) (.int k y)=some (.int k (wr k (x+y))):=by simp [binA,intBin]
@[go_sem] theorem bin_sub {k:IntKind} {x y:Int}:binA .sub (.int k x) (.int k y)=some (.int k (wr k (x-y))):=by simp [binA,intBin]
@[go_sem] theorem bin_mul {k:IntKind} {x y:Int}:binA .mul (.int k x) (.int k y)=some (.int k (wr k (x*y))):=by simp [binA,intBin]
@[go_sem] theorem bin_quo {k:IntKind} {x y:Int} (hy:y≠0):binA .quo (.int k x) (.int k y)=some (.int k (wr k (x.tdiv y))):=by
 have e:(y==0)=false:=beq_eq_false_iff_ne.2 hy
 simp [binA,intBin,e]
@[go_sem] theorem bin_rem {k:IntKind} {x y:Int} (hy:y≠0):binA .rem (.int k x) (.int k y)=some (.int k (x.tmod y)):=by
 have e:(y==0)=false:=beq_eq_false_iff_ne.2 hy
 simp [binA,intBin,e]
@[go_sem] theorem bin_str {op:BinOp} {x y:List UInt8}:binA op (.str x) (.str y)=strBin op x y:=by simp [binA]
@[go_sem] theorem str_add {x y:List UInt8} (h:x.length+y.length≤9223372036854775807):strBin .add x y=some (.str (x++y)):=by
 simp only[strBin,Nat.ble_eq_true_of_le h,cond_true]
@[go_sem] theorem str_eql {x y:List UInt8}:strBin .eql x y=some (.bool (x==y)):=Eq.trans rfl rfl
@[go_sem] theorem str_neq {x y:List UInt8}:strBin .neq x y=some (.bool !(x==y)):=Eq.trans rfl rfl
theorem fits_i64 {n:Int} (h1:-9223372036854775808≤n) (h2:n≤9223372036854775807):fits .i64 n=true:=by simp [fits,h1,h2]
@[go_sem] theorem wr_i64 {n:Int} (h1:-9223372036854775808≤n) (h2:n≤9223372036854775807):wr .i64 n=n:=by unfold wr;rw[fits_i64 h1 h2];rfl
@[go_sem] theorem wr_u8 {n:Int} (h1:0≤n) (h2:n≤255):wr .u8 n=n:=by simp [wr,fits,h1,h2]
@[go_sem] theorem wr_u64 {n:Int} (h1:0≤n) (h2:n≤18446744073709551615):wr .u64 n=n:=by simp [wr,fits,h1,h2]
attribute [go_sem] List.getElem?_cons_zero List.getElem?_cons_succ Int.toNat_natCast unA allFlat List.all_cons List.all_nil
@[go_sem] theorem cells_bool {b:Bool}:AV.cells (.bool b)=[.bool b]:=Eq.trans rfl rfl
@[go_sem] theorem flat_bool {b:Bool}:AV.flat (.bool b)=true:=Eq.trans rfl rfl
@[go_sem] theorem cells_int {k:IntKind} {n:Int}:AV.cells (.int k n)=[.int k n]:=Eq.trans rfl rfl
@[go_sem] theorem flat_int {k:IntKind} {n:Int}:AV.flat (.int k n)=true:=Eq.trans rfl rfl
@[go_sem] theorem cells_float {k:FloatKind} {n:Nat}:AV.cells (.float k n)=[.float k n]:=Eq.trans rfl rfl
@[go_sem] theorem flat_float {k:FloatKind} {n:Nat}:AV.flat (.float k n)=true:=Eq.trans rfl rfl
@[go_sem] theorem cells_str {s:List UInt8}:AV.cells (.str s)=[.str s]:=Eq.trans rfl rfl
@[go_sem] theorem flat_str {s:List UInt8}:AV.flat (.str s)=true:=Eq.trans rfl rfl
@[go_sem] theorem cells_ptr {b o:Nat}:AV.cells (.ptr b o)=[.ptr b o]:=Eq.trans rfl rfl
@[go_sem] theorem flat_ptr {b o:Nat}:AV.flat (.ptr b o)=true:=Eq.trans rfl rfl
@[go_sem] theorem cells_nilPtr  : AV.cells (.nilPtr)=[.nilPtr]:=Eq.trans rfl rfl
@[go_sem] theorem flat_nilPtr  : AV.flat (.nilPtr)=true:=Eq.trans rfl rfl
@[go_sem] theorem cells_slice {b o l c:Nat} {e:Bool}:AV.cells (.slice b o l c e)=[.slice b o l c e]:=Eq.trans rfl rfl
@[go_sem] theorem flat_slice {b o l c:Nat} {e:Bool}:AV.flat (.slice b o l c e)=true:=Eq.trans rfl rfl
@[go_sem] theorem cells_nilSlice  : AV.cells (.nilSlice)=[.nilSlice]:=Eq.trans rfl rfl
@[go_sem] theorem flat_nilSlice  : AV.flat (.nilSlice)=true:=Eq.trans rfl rfl
@[go_sem] theorem cells_map {r:Nat}:AV.cells (.map r)=[.map r]:=Eq.trans rfl rfl
@[go_sem] theorem flat_map {r:Nat}:AV.flat (.map r)=true:=Eq.trans rfl rfl
@[go_sem] theorem cells_nilMap  : AV.cells (.nilMap)=[.nilMap]:=Eq.trans rfl rfl
@[go_sem] theorem flat_nilMap  : AV.flat (.nilMap)=true:=Eq.trans rfl rfl
@[go_sem] theorem cells_func {f:Fn} {a b:List AV}:AV.cells (.func f a b)=[.func f a b]:=Eq.trans rfl rfl
@[go_sem] theorem flat_func {f:Fn} {a b:List AV}:AV.flat (.func f a b)=true:=Eq.trans rfl rfl
@[go_sem] theorem cells_nilFunc  : AV.cells (.nilFunc)=[.nilFunc]:=Eq.trans rfl rfl
@[go_sem] theorem flat_nilFunc  : AV.flat (.nilFunc)=true:=Eq.trans rfl rfl
@[go_sem] theorem cells_iface {t:TypeId} {v:AV}:AV.cells (.iface t v)=[.iface t v]:=Eq.trans rfl rfl
@[go_sem] theorem flat_iface {t:TypeId} {v:AV}:AV.flat (.iface t v)=true:=Eq.trans rfl rfl
@[go_sem] theorem cells_nilIface  : AV.cells (.nilIface)=[.nilIface]:=Eq.trans rfl rfl
@[go_sem] theorem flat_nilIface  : AV.flat (.nilIface)=true:=Eq.trans rfl rfl
@[go_sem] theorem cells_agg {cs:List AV}:AV.cells (.agg cs)=cs:=Eq.trans rfl rfl
@[go_sem] theorem int_nn {n:Nat}:((0:Int)≤(n:Int))=True:=by simp
@[go_sem] theorem beq_nat {m n:Nat}:m.beq n=decide (m=n):=by
 by_cases e:m=n
 ·rw[beqT e,decide_eq_true e]
 ·rw[beqF e,decide_eq_false e]
@[go_sem] theorem ble_nat {m n:Nat}:m.ble n=decide (m≤n):=by
 by_cases e:m≤n
 ·rw[Nat.ble_eq_true_of_le e,decide_eq_true e]
 ·rw[decide_eq_false e];cases q:m.ble n;rfl;exact absurd (Nat.le_of_ble_eq_true q) e
theorem get_alloc_new {o:AObj} {b:Nat} (h1:b≤h.n) (h2:h.n≤b):(h.alloc o).get b=some ⟨0,o⟩:=by rw[AHeap.get_alloc,if_pos (Nat.le_antisymm h1 h2)]
theorem get_alloc_old {o:AObj} {b:Nat} (hb:b≠h.n):(h.alloc o).get b=h.get b:=by rw[AHeap.get_alloc,if_neg hb]
theorem get_upd_at {o:AObj} {b b' v:Nat} (h1:b≤b') (h2:b'≤b):(h.upd b' v o).get b=some ⟨v,o⟩:=by rw[AHeap.get_upd,if_pos (Nat.le_antisymm h1 h2)]
theorem get_upd_off {o:AObj} {b b' v:Nat} (hb:b≠b'):(h.upd b' v o).get b=h.get b:=by rw[AHeap.get_upd,if_neg hb]
@[go_sem] theorem row_tl {x:AV} {vs:List AV} {o n:Nat}:row (x::vs) (o+1) n=row vs o n:=by
 simp only[row,List.length_cons,List.drop_succ_cons,ble_nat]
 by_cases e:o+n≤vs.length
 ·rw[decide_eq_true (show o+1+n≤vs.length+1 by omega),decide_eq_true e]
 ·rw[decide_eq_false (show ¬o+1+n≤vs.length+1 by omega),decide_eq_false e]
@[go_sem] theorem row_nil {vs:List AV}:row vs 0 0=some []:=by simp [row,ble_nat]
@[go_sem] theorem row_hd {x:AV} {vs:List AV} {n:Nat}:row (x::vs) 0 (n+1)=(row vs 0 n).map (x::·):=by
 simp only[row,List.length_cons,List.drop_zero,List.take_succ_cons,Nat.zero_add,ble_nat]
 by_cases e:n≤vs.length
 ·rw[decide_eq_true (show n+1≤vs.length+1 by omega),decide_eq_true e];rfl
 ·rw[decide_eq_false (show ¬n+1≤vs.length+1 by omega),decide_eq_false e];rfl
@[go_sem] theorem lay_tl {x:AV} {vs cs:List AV} {o:Nat}:lay (x::vs) (o+1) cs=(lay vs o cs).map (x::·):=by
 simp only[lay,List.length_cons,List.take_succ_cons,ble_nat]
 by_cases e:o+cs.length≤vs.length
 ·rw[decide_eq_true (show o+1+cs.length≤vs.length+1 by omega),decide_eq_true e,show o+1+cs.length=o+cs.length+1 by omega];rfl
 ·rw[decide_eq_false (show ¬o+1+cs.length≤vs.length+1 by omega),decide_eq_false e];rfl
@[go_sem] theorem lay_nil {vs:List AV}:lay vs 0 []=some vs:=by simp [lay,ble_nat]
@[go_sem] theorem lay_hd {x c:AV} {vs cs:List AV}:lay (x::vs) 0 (c::cs)=(lay vs 0 cs).map (c::·):=by
 simp only[lay,List.length_cons,Nat.zero_add,ble_nat]
 by_cases e:cs.length≤vs.length
 ·rw[decide_eq_true (show cs.length+1≤vs.length+1 by omega),decide_eq_true e];rfl
 ·rw[decide_eq_false (show ¬cs.length+1≤vs.length+1 by omega),decide_eq_false e];rfl
theorem bnd_num {k:IntKind} {i d n:Nat} (h:i≤n):bnd (some (.int k (i:Int))) d n=some i:=by simp [bnd,h]
theorem bnd_none {d n:Nat}:bnd none d n=some d:=Eq.trans rfl rfl
attribute [go_sem] bnd_num bnd_none Option.map_some Option.map_none fillA List.length_cons List.length_nil Nat.zero_add
attribute [go_sem] get_alloc_new get_alloc_old get_upd_at get_upd_off AHeap.alloc_n AHeap.upd_n
section
variable {res:List RV} {Q:QR}
def resP (Q:QR) (h:AHeap):Option (List AV)→Prop
 | some vs=>Q (.ret (one vs)) h
 | none=>False
@[go_sem] theorem resP_some {vs:List AV}:resP Q h (some vs)=Q (.ret (one vs)) h:=Eq.trans rfl rfl
@[go_sem] theorem finP_ret:finP F res Q .ret a h=finLP F res Q a a.df .ret h:=Eq.trans rfl rfl
@[go_sem] theorem finP_norm:finP F res Q .norm a h=finLP F res Q a a.df .ret h:=Eq.trans rfl rfl
@[go_sem] theorem finP_pan {v:AV}:finP F res Q (.pan v) a h=finLP F res Q a a.df (.pan v) h:=Eq.trans rfl rfl
@[go_sem] theorem finLP_ret:finLP F res Q a [] .ret h=resP Q h (resA a h res):=by unfold finLP resP;cases resA a h res<;>rfl
@[go_sem] theorem finLP_pan {v:AV}:finLP F res Q a [] (.pan v) h=Q (.pan v) h:=Eq.trans rfl rfl
@[go_sem] theorem finLP_df {f:FuncId} {args:List AV} {r:List (FuncId×List AV)} {lv:Lv}:finLP F res Q a ((f,args)::r) lv h=WDef F f args lv h (finLP F res Q a r .ret):=Eq.trans rfl rfl
@[go_sem] theorem defP_norm {Q:AHeap→Prop}:defP Q .norm a h=(a.df=[]∧Q h):=Eq.trans rfl rfl
@[go_sem] theorem defP_ret {Q:AHeap→Prop}:defP Q .ret a h=(a.df=[]∧Q h):=Eq.trans rfl rfl
@[go_sem] theorem defP0_norm {f:AAct→AHeap→Post→Prop} {Q:AHeap→Prop}:defP0 f Q .norm a h=f a h (defP Q):=Eq.trans rfl rfl
@[go_sem] theorem cutP_norm {I:AAct→AHeap→Prop}:cutP I K .norm a h=I a h:=Eq.trans rfl rfl
@[go_sem] theorem cutP_exit {I:AAct→AHeap→Prop} {i:Nat}:cutP I K (.exit i) a h=K (.exit i) a h:=Eq.trans rfl rfl
@[go_sem] theorem cutP_ret {I:AAct→AHeap→Prop}:cutP I K .ret a h=K .ret a h:=Eq.trans rfl rfl
@[go_sem] theorem cutP_pan {I:AAct→AHeap→Prop} {v:AV}:cutP I K (.pan v) a h=K (.pan v) a h:=Eq.trans rfl rfl
@[go_sem] theorem loopP_norm {I:Nat→AAct→AHeap→Prop} {n:Nat}:loopP I n K .norm a h=∃m,m<n∧I m a h:=Eq.trans rfl rfl
@[go_sem] theorem loopP_exit {I:Nat→AAct→AHeap→Prop} {n i:Nat}:loopP I n K (.exit i) a h=K (.exit i) a h:=Eq.trans rfl rfl
@[go_sem] theorem loopP_ret {I:Nat→AAct→AHeap→Prop} {n:Nat}:loopP I n K .ret a h=K .ret a h:=Eq.trans rfl rfl
@[go_sem] theorem loopP_pan {I:Nat→AAct→AHeap→Prop} {n:Nat} {v:AV}:loopP I n K (.pan v) a h=K (.pan v) a h:=Eq.trans rfl rfl
attribute [go_sem] resA loadA one Lv.val
end
attribute [go_sem] Int.tdiv_eq_ediv_of_nonneg Int.tmod_eq_emod_of_nonneg
def lenA:AV→Option Int
 | .slice _ _ len _ _=>some len
 | .nilSlice=>some 0
 | _=>none
def lenR (h:AHeap):Option Int→Option Res
 | some n=>some (.v (.int .i64 n) h .free)
 | none=>none
@[go_sem] theorem lenR_some {n:Int}:lenR h (some n)=some (.v (.int .i64 n) h .free):=Eq.trans rfl rfl
@[go_sem] theorem lenA_slice {b o l c:Nat} {e:Bool}:lenA (.slice b o l c e)=some (l:Int):=Eq.trans rfl rfl
@[go_sem] theorem lenA_nil:lenA .nilSlice=some 0:=Eq.trans rfl rfl
@[go_sem high] theorem evO_lenL {x:Opd}:evO a (.lenL x) h=lenR h (lenA (a.eval x)):=by
 simp only[evO,evOp]
 cases a.eval x<;>rfl
@[go_sem] theorem evO_mov {x:Opd}:evO a (.mov x) h=( some (.v (a.eval x) h .free)):=Eq.trans rfl rfl
@[go_sem] theorem evO_pick {c:Opd} {x:Opd} {y:Opd}:evO a (.pick c x y) h=( match a.eval c with|.bool b=>some (.v (bif b then a.eval x else a.eval y) h .free)|_=>none):=Eq.trans rfl rfl
@[go_sem] theorem evO_new {md:Md} {zs:List AV}:evO a (.new md zs) h=( some (.v (.ptr h.n 0) (h.alloc (.cells md 0 zs)) .new)):=Eq.trans rfl rfl
@[go_sem] theorem evO_box {x:Opd}:evO a (.box x) h=( bif allFlat (a.eval x).cells then some (.v (.ptr h.n 0) (h.alloc (.cells .own 0 (a.eval x).cells)) .new) else none):=Eq.trans rfl rfl
@[go_sem] theorem evO_build {zs:List AV} {parts:List (Nat×Nat×Opd)}:evO a (.build zs parts) h=( match fillA a.eval zs parts with|some cs=>some (.v (.agg cs) h .free)|none=>none):=Eq.trans rfl rfl
@[go_sem] theorem evO_bslice {es:Nat} {zs:List AV} {len:Nat} {parts:List (Nat×Nat×Opd)}:evO a (.bslice es zs len parts) h=( match fillA a.eval zs parts with
  | some cs=>bif allFlat cs then some (.v (.slice h.n 0 len len true) (h.alloc (.cells .own es cs)) .new) else none
  | none=>none):=Eq.trans rfl rfl
@[go_sem] theorem evO_load {agg:Bool} {n:Nat} {x:Opd}:evO a (.load agg n x) h=( match a.eval x with
  | .ptr b o=>match h.get b with
   | some ⟨_,.cells _ _ vs⟩=>
    bif agg then match row vs o n with|some cs=>some (.v (.agg cs) h (.rd b))|none=>none
    else match vs[o]? with|some v=>some (.v v h (.rd b))|none=>none
   | _=>none
  | _=>none):=Eq.trans rfl rfl
@[go_sem] theorem evO_store {n:Nat} {x:Opd} {y:Opd}:evO a (.store n x y) h=( match a.eval x with
  | .ptr b o=>
      bif !((a.eval y).cells.length.beq n)||!allFlat (a.eval y).cells then none else
   match h.get b with
   | some ⟨ver,.cells md es vs⟩=>match md.mine,lay vs o (a.eval y).cells with
    | true,some vs'=>some (.v undefA (h.upd b (ver+1) (.cells md es vs')) (.wr b))
    | _,_=>none
   | _=>none
  | _=>none):=Eq.trans rfl rfl
@[go_sem] theorem evO_burn:evO a .burn h=( some (.v undefA (h.alloc .dead) .big)):=Eq.trans rfl rfl
@[go_sem] theorem mine_own:Md.mine .own=true:=Eq.trans rfl rfl
@[go_sem] theorem mine_tag {t:Nat}:Md.mine (.tag t)=true:=Eq.trans rfl rfl
@[go_sem] theorem mine_ro:Md.mine .ro=false:=Eq.trans rfl rfl
@[go_sem] theorem mine_sent:Md.mine .sent=false:=Eq.trans rfl rfl
@[go_sem] theorem mine_tab:Md.mine .tab=false:=Eq.trans rfl rfl
@[go_sem] theorem same_tab {m:Md}:Md.same .tab m=false:=by cases m<;>rfl
@[go_sem] theorem same_own:Md.same .own .own=true:=Eq.trans rfl rfl
@[go_sem] theorem same_tag {s t:Nat}:Md.same (.tag s) (.tag t)=s.beq t:=Eq.trans rfl rfl
@[go_sem] theorem same_ro {m:Md}:Md.same .ro m=false:=by cases m<;>rfl
@[go_sem] theorem same_sent {m:Md}:Md.same .sent m=false:=by cases m<;>rfl
@[go_sem] theorem evO_nilck {x:Opd}:evO a (.nilck x) h=( match a.eval x with
  | .ptr b o=>some (.v (.ptr b o) h .free)
  | .iface t v=>some (.v (.iface t v) h .free)
  | _=>none):=Eq.trans rfl rfl
@[go_sem] theorem evO_bin {op:BinOp} {x:Opd} {y:Opd}:evO a (.bin op x y) h=( match binA op (a.eval x) (a.eval y) with|some v=>some (.v v h .free)|none=>none):=Eq.trans rfl rfl
@[go_sem] theorem evO_eqv {neg:Bool} {t:KT} {x:Opd} {y:Opd}:evO a (.eqv neg t x y) h=( match eqT t (a.eval x) (a.eval y) with|some b=>some (.v (.bool (bif neg then !b else b)) h .free)|none=>none):=Eq.trans rfl rfl
@[go_sem] theorem evO_un {op:UnOp} {x:Opd}:evO a (.un op x) h=( match unA op (a.eval x) with|some v=>some (.v v h .free)|none=>none):=Eq.trans rfl rfl
@[go_sem] theorem evO_cvi {k:IntKind} {x:Opd}:evO a (.cvi k x) h=( match a.eval x with|.int _ n=>some (.v (.int k (wr k n)) h .free)|_=>none):=Eq.trans rfl rfl
@[go_sem] theorem evO_cvbs {x:Opd}:evO a (.cvbs x) h=( match a.eval x with
  | .nilSlice=>some (.v (.str []) h .free)
  | .slice b o len _ _=>
   bif len.beq 0 then some (.v (.str []) h .free) else
   match h.get b with
   | some ⟨_,.cells _ _ vs⟩=>match row vs o len with
    | some cs=>match bytesOf cs with|some s=>some (.v (.str s) h (.rd b))|none=>none
    | none=>none
   | _=>none
  | _=>none):=Eq.trans rfl rfl
@[go_sem] theorem evO_cvs {x:Opd}:evO a (.cvs x) h=( match a.eval x with|.str s=>some (.v (.str s) h .free)|_=>none):=Eq.trans rfl rfl
@[go_sem] theorem evO_mkif {t:TypeId} {x:Opd}:evO a (.mkif t x) h=( some (.v (.iface t (a.eval x)) h .free)):=Eq.trans rfl rfl
@[go_sem] theorem evO_mkfn {fn:Fn} {fs:List Opd} {cs:List Opd}:evO a (.mkfn fn fs cs) h=( some (.v (.func fn (fs.map a.eval) (cs.map a.eval)) h .free)):=Eq.trans rfl rfl
@[go_sem] theorem evO_mkmap  : evO a (.mkmap) h=( some (.v (.map h.n) (h.alloc (.amap [])) .new)):=Eq.trans rfl rfl
@[go_sem] theorem evO_mkslice {es:Nat} {bytes:Nat} {zs:List AV} {l:Opd} {c:Opd}:evO a (.mkslice es bytes zs l c) h=( match a.eval l,a.eval c with
  | .int _ l,.int _ c=>
   bif decide (0≤l)&&decide (l≤c)&&decide (c≤(room:Int))&&decide (c*(bytes:Int)≤(room:Int)) then
    some (.v (.slice h.n 0 l.toNat c.toNat true) (h.alloc (.cells .own es (repl zs c.toNat))) .new)
   else none
  | _,_=>none):=Eq.trans rfl rfl
@[go_sem] theorem evO_slc {es:Nat} {x:Opd} {lo:Option Opd} {hi:Option Opd} {mx:Option Opd}:evO a (.slc es x lo hi mx) h=( match a.eval x with
  | .nilSlice=>match bnd (mx.map a.eval) 0 0 with
   | some m=>match bnd (hi.map a.eval) 0 m with
    | some hh=>match bnd (lo.map a.eval) 0 hh with|some _=>some (.v .nilSlice h .free)|none=>none
    | none=>none
   | none=>none
  | .slice b o len cap ex=>match bnd (mx.map a.eval) cap cap with
   | some m=>match bnd (hi.map a.eval) len m with
    | some hh=>match bnd (lo.map a.eval) 0 hh with
     | some l=>
      let ex':=ex||mx.isSome
      bif ex then some (.v (.slice b (bif m.beq l then o else o+l*es) (hh-l) (m-l) ex') h .free)
      else bif cap.beq 0 then none else bif m.beq l&&mx.isSome then
       bif l.beq 0 then some (.v (.slice b o 0 0 true) h .free) else none
      else match h.get b with
       | some ⟨_,.cells _ es' _⟩=>bif es'.beq es then some (.v (.slice b (o+l*es) (hh-l) (m-l) ex') h (.rd b)) else none
       | _=>none
     | none=>none
    | none=>none
   | none=>none
  | _=>none):=Eq.trans rfl rfl
@[go_sem] theorem evO_sls {x:Opd} {lo:Option Opd} {hi:Option Opd}:evO a (.sls x lo hi) h=( match a.eval x with
  | .str s=>match bnd (hi.map a.eval) s.length s.length with
   | some hh=>match bnd (lo.map a.eval) 0 hh with
    | some l=>some (.v (.str ((s.drop l).take (hh-l))) h .free)
    | none=>none
   | none=>none
  | _=>none):=Eq.trans rfl rfl
@[go_sem] theorem evO_faddr {off:Nat} {x:Opd}:evO a (.faddr off x) h=( match a.eval x with|.ptr b o=>some (.v (.ptr b (o+off)) h .free)|_=>none):=Eq.trans rfl rfl
@[go_sem] theorem evO_fld {agg:Bool} {off:Nat} {n:Nat} {x:Opd}:evO a (.fld agg off n x) h=( match a.eval x with
  | .agg cs=>
   bif agg then match row cs off n with|some cs=>some (.v (.agg cs) h .free)|none=>none
   else match cs[off]? with|some v=>some (.v v h .free)|none=>none
  | _=>none):=Eq.trans rfl rfl
@[go_sem] theorem evO_iaddr {es:Nat} {x:Opd} {i:Opd}:evO a (.iaddr es x i) h=( match a.eval x,a.eval i with
  | .slice b o len _ _,.int _ i=>bif decide (0≤i)&&decide (i<(len:Int)) then some (.v (.ptr b (o+i.toNat*es)) h .free) else none
  | _,_=>none):=Eq.trans rfl rfl
@[go_sem] theorem evO_idxs {x:Opd} {i:Opd}:evO a (.idxs x i) h=( match a.eval x,a.eval i with
  | .str s,.int _ i=>bif decide (0≤i) then match s[i.toNat]? with|some c=>some (.v (.int .u8 c.toNat) h .free)|none=>none else none
  | _,_=>none):=Eq.trans rfl rfl
@[go_sem] theorem evO_idxa {agg:Bool} {len:Nat} {n:Nat} {x:Opd} {i:Opd}:evO a (.idxa agg len n x i) h=( match a.eval x,a.eval i with
  | .agg cs,.int _ i=>
   bif decide (0≤i)&&decide (i<(len:Int)) then
    bif agg then match row cs (i.toNat*n) n with|some cs=>some (.v (.agg cs) h .free)|none=>none
    else match cs[i.toNat*n]? with|some v=>some (.v v h .free)|none=>none
   else none
  | _,_=>none):=Eq.trans rfl rfl
@[go_sem] theorem evO_lookup {t:KT} {zero:AV} {m:Opd} {k:Opd} {ok:Bool}:evO a (.lookup t zero m k ok) h=( bif !keyOk t (a.eval k) then none else match a.eval m with
  | .nilMap=>some (.v (bif ok then .tuple [zero,.bool false] else zero) h .free)
  | .map r=>match h.get r with
   | some ⟨_,.amap es⟩=>match findA t (a.eval k) es with
    | some (some v)=>some (.v (bif ok then .tuple [v,.bool true] else v) h .big)
    | some none=>some (.v (bif ok then .tuple [zero,.bool false] else zero) h .big)
    | none=>none
   | _=>none
  | _=>none):=Eq.trans rfl rfl
@[go_sem] theorem evO_mapupd {t:KT} {m:Opd} {k:Opd} {v:Opd}:evO a (.mapupd t m k v) h=( bif !keyOk t (a.eval k) then none else match a.eval m with
  | .map r=>match h.get r with
   | some ⟨ver,.amap es⟩=>match setA t (a.eval k) (a.eval v) es with
    | some es'=>some (.v undefA (h.upd r (ver+1) (.amap es')) .big)
    | none=>none
   | _=>none
  | _=>none):=Eq.trans rfl rfl
@[go_sem] theorem evO_tassert {to:TypeId} {zero:AV} {x:Opd}:evO a (.tassert to zero x) h=( match a.eval x with
  | .nilIface=>some (.v (.tuple [zero,.bool false]) h .free)
  | .iface t v=>some (.v (bif t.beq to then .tuple [v,.bool true] else .tuple [zero,.bool false]) h .free)
  | _=>none):=Eq.trans rfl rfl
@[go_sem] theorem evO_ext {x:Opd} {i:Nat}:evO a (.ext x i) h=( match a.eval x with
  | .tuple vs=>match vs[i]? with|some v=>some (.v v h .free)|none=>none
  | _=>none):=Eq.trans rfl rfl
@[go_sem] theorem evO_lenS {x:Opd}:evO a (.lenS x) h=( match a.eval x with
  | .str s=>some (.v (.int .i64 s.length) h .free)
  | _=>none):=Eq.trans rfl rfl
@[go_sem] theorem evO_lenM {x:Opd}:evO a (.lenM x) h=( match a.eval x with
  | .nilMap=>some (.v (.int .i64 0) h .free)
  | .map r=>match h.get r with|some ⟨_,.amap es⟩=>some (.v (.int .i64 es.length) h .big)|_=>none
  | _=>none):=Eq.trans rfl rfl
@[go_sem] theorem evO_append {md:Md} {es:Nat} {bytes:Nat} {s:Opd} {x:Opd}:evO a (.append md es bytes s x) h=( match elems h es (a.eval x) with
  | some (n,new)=>match appendA h md es bytes (a.eval s) n new with|some (v,h')=>some (.v v h' .big)|none=>none
  | none=>none):=Eq.trans rfl rfl
@[go_sem] theorem evO_appendz {es:Nat} {bytes:Nat} {zs:List AV} {s:Opd} {x:Opd}:evO a (.appendz es bytes zs s x) h=( match a.eval x with
  | .int .i64 n=>bif decide (0≤n)&&decide (n≤(room:Int))&&decide (n*(bytes:Int)≤(room:Int)) then
    match appendA h .own es bytes (a.eval s) n.toNat (repl zs n.toNat) with|some (v,h')=>some (.v v h' .big)|none=>none
   else none
  | _=>none):=Eq.trans rfl rfl
@[go_sem] theorem evO_copy {es:Nat} {d:Opd} {s:Opd}:evO a (.copy es d s) h=( match elems h es (a.eval s),a.eval d with
  | some (n,cs),.slice b o len _ _=>
   bif (Nat.min n len).beq 0 then some (.v (.int .i64 0) h .big) else
   match h.get b with
   | some ⟨ver,.cells .own es' vs⟩=>bif !allFlat (cs.take (Nat.min n len*es)) then none else match lay vs o (cs.take (Nat.min n len*es)) with
    | some vs'=>some (.v (.int .i64 (Nat.min n len)) (h.upd b (ver+1) (.cells .own es' vs')) .big)
    | none=>none
   | _=>none
  | some _,.nilSlice=>some (.v (.int .i64 0) h .big)
  | _,_=>none):=Eq.trans rfl rfl
@[go_sem] theorem evO_mx {isMax:Bool} {x:Opd} {xs:List Opd}:evO a (.mx isMax x xs) h=( match mxA isMax (a.eval x) (xs.map a.eval) with|some v=>some (.v v h .free)|none=>none):=Eq.trans rfl rfl
@[go_sem] theorem evO_iarr {len:Nat} {es:Nat} {x:Opd} {i:Opd}:evO a (.iarr len es x i) h=( match a.eval x,a.eval i with
  | .ptr b o,.int _ i=>bif decide (0≤i)&&decide (i<(len:Int)) then some (.v (.ptr b (o+i.toNat*es)) h .free) else none
  | _,_=>none):=Eq.trans rfl rfl
@[go_sem] theorem evO_slarr {len:Nat} {es:Nat} {x:Opd} {lo:Option Opd} {hi:Option Opd} {mx:Option Opd}:evO a (.slarr len es x lo hi mx) h=( match a.eval x with
  | .ptr b o=>match bnd (mx.map a.eval) len len with
   | some m=>match bnd (hi.map a.eval) len m with
    | some hh=>match bnd (lo.map a.eval) 0 hh with
     | some l=>some (.v (.slice b (bif m.beq l then o else o+l*es) (hh-l) (m-l) true) h .free)
     | none=>none
    | none=>none
   | none=>none
  | _=>none):=Eq.trans rfl rfl
@[go_sem] theorem evO_panic {x:Opd}:evO a (.panic x) h=( match a.eval x with|.iface t v=>some (.pan (.iface t v) h)|_=>none):=Eq.trans rfl rfl
@[go_sem] theorem evO_defer {f:Opd}:evO a (.defer f) h=( match a.eval f with|.func (.func f) fs cs=>some (.df f (fs++cs))|_=>none):=Eq.trans rfl rfl
@[go_sem] theorem evO_recover  : evO a (.recover) h=( none):=Eq.trans rfl rfl
attribute [go_sem] Int.cast_ofNat_Int
@[go_sem] theorem blt_nat {m n:Nat}:m.blt n=decide (m<n):=by
 show (m+1).ble n=_
 rw[ble_nat]
 rfl
@[go_sem] theorem dec_le {m n:Nat} (h:m≤n):decide (m≤n)=true:=decide_eq_true h
@[go_sem] theorem dec_le_f {m n:Nat} (h:n<m):decide (m≤n)=false:=decide_eq_false (by omega)
@[go_sem] theorem dec_lt {m n:Nat} (h:m<n):decide (m<n)=true:=decide_eq_true h
@[go_sem] theorem dec_lt_f {m n:Nat} (h:n≤m):decide (m<n)=false:=decide_eq_false (by omega)
@[go_sem] theorem deci_le {m n:Int} (h:m≤n):decide (m≤n)=true:=decide_eq_true h
@[go_sem] theorem deci_lt {m n:Int} (h:m<n):decide (m<n)=true:=decide_eq_true h
attribute [go_sem] Tr.get_del
@[go_sem] theorem dels_nil {t:Tr AV}:dels [] t=t:=Eq.trans rfl rfl
@[go_sem] theorem dels_st {i d b:Nat} {op:MOp} {g:Option (Nat×Bool)} {l:List (Nat×MOper)} {t:Tr AV}:dels ((i,⟨some d,op,g,b⟩)::l) t=dels l (t.del d):=Eq.trans rfl rfl
@[go_sem] theorem dels_no {i b:Nat} {op:MOp} {g:Option (Nat×Bool)} {l:List (Nat×MOper)} {t:Tr AV}:dels ((i,⟨none,op,g,b⟩)::l) t=dels l t:=Eq.trans rfl rfl
attribute [go_sem]  elems AHeap.ver
attribute [go_sem] Tr.get_set Option.getD_some List.map_cons List.map_nil initTm calleeA MOp.isCall cond_true cond_false beq_true beq_false
end
attribute [irreducible] cutP wantP wantPD condP opP opPD callP callPD sqP blP loopP finP finLP defP defP0 kindP kindPD skipPD recPD wpOps wpD wpC WF WCall resP WDef
end Go.Ev
namespace Go.Ev
open Go
def oT (d:Nat) (op:MOp):MOper:=⟨some d,op,none,0⟩
def oN (op:MOp):MOper:=⟨none,op,none,0⟩
def oG (d g:Nat) (op:MOp):MOper:=⟨some d,op,some (g,true),0⟩
def oH (d g:Nat) (op:MOp):MOper:=⟨some d,op,some (g,false),0⟩
def oD (i d b:Nat) (op:MOp):Nat×MOper:=(i,⟨some d,op,none,b⟩)
def oE (i b:Nat) (op:MOp):Nat×MOper:=(i,⟨none,op,none,b⟩)
section
variable {F:FT} {a:AAct} {h:AHeap} {K:Post} {d g i b:Nat} {op:MOp} {r:List MOper} {all l:List (Nat×MOper)} {rs:List Rec} {pan:Option (Nat×AV)}
@[go_sem] theorem wpOps_oT:wpOps F (oT d op::r) a h K=kindP F (wpOps F r) op.isCall (some d) op a h K:=by
 show wpOps F (⟨some d,op,none,0⟩::r) a h K=_
 rw[wpOps_cons,wanted_none,wantP_yes]
@[go_sem] theorem wpOps_oN:wpOps F (oN op::r) a h K=kindP F (wpOps F r) op.isCall none op a h K:=by
 show wpOps F (⟨none,op,none,0⟩::r) a h K=_
 rw[wpOps_cons,wanted_none,wantP_yes]
@[go_sem] theorem wpOps_oG:wpOps F (oG d g op::r) a h K=wantP F (wpOps F r) (wantedA a (some (g,true))) ⟨some d,op,some (g,true),0⟩ a h K:=wpOps_cons
@[go_sem] theorem wpOps_oH:wpOps F (oH d g op::r) a h K=wantP F (wpOps F r) (wantedA a (some (g,false))) ⟨some d,op,some (g,false),0⟩ a h K:=wpOps_cons
@[go_sem] theorem wpD_oD:wpD F all (oD i d b op::l) rs pan a h K=skipPD F (wpD F all l) (skipsD b pan) i ⟨some d,op,none,b⟩ a h rs pan K:=wpD_cons
@[go_sem] theorem wpD_oE:wpD F all (oE i b op::l) rs pan a h K=skipPD F (wpD F all l) (skipsD b pan) i ⟨none,op,none,b⟩ a h rs pan K:=wpD_cons
@[go_sem] theorem dels_oD {t:Tr AV}:dels (oD i d b op::l) t=dels l (t.del d):=Eq.trans rfl rfl
@[go_sem] theorem dels_oE {t:Tr AV}:dels (oE i b op::l) t=dels l t:=Eq.trans rfl rfl
end
section
variable {F:FT} {f f2:AAct→AHeap→Post→Prop} {a:AAct} {h:AHeap} {K:Post} {o:MOper} {fd:List Rec→Option (Nat×AV)→AAct→AHeap→Post→Prop} {i:Nat} {rs:List Rec} {pan:Option (Nat×AV)} {c:Bool}
theorem kA (h1:c=false→f a h K) (h2:c=true→f2 a h K):condP f f2 (.bool (!c)) a h K:=condP_splitN h1 h2
theorem kB (h1:c=false→wantP F f true o a h K) (h2:c=true→wantP F f false o a h K):wantP F f (!c) o a h K:=wantP_splitN h1 h2
theorem kC (h1:c=false→wantPD F fd true i o a h rs pan K) (h2:c=true→wantPD F fd false i o a h rs pan K):wantPD F fd (!c) i o a h rs pan K:=wantPD_splitN h1 h2
theorem kD (h1:c=true→f a h K) (h2:c=false→f2 a h K):condP f f2 (.bool c) a h K:=condP_split h1 h2
theorem kE (h1:c=true→wantP F f true o a h K) (h2:c=false→wantP F f false o a h K):wantP F f c o a h K:=wantP_split h1 h2
theorem kF (h1:c=true→wantPD F fd true i o a h rs pan K) (h2:c=false→wantPD F fd false i o a h rs pan K):wantPD F fd c i o a h rs pan K:=wantPD_split h1 h2
end
theorem hN:(∀(h:AHeap) (o:AObj),(h.alloc o).n=h.n+1)∧(∀(h:AHeap) (b v:Nat) (o:AObj),(h.upd b v o).n=h.n)∧(∀(x:AV) (l:List AV),(x::l).length=l.length+1)∧(([]:List AV).length=0)∧(∀l m:List AV,(l++m).length=l.length+m.length)∧(∀(x:UInt8) (l:List UInt8),(x::l).length=l.length+1)∧(([]:List UInt8).length=0)∧(∀l m:List UInt8,(l++m).length=l.length+m.length):=⟨fun _ _=>rfl,fun _ _ _ _=>rfl,fun _ _=>rfl,rfl,fun _ _=>List.length_append,fun _ _=>rfl,rfl,fun _ _=>List.length_append⟩
attribute [go_sem] beq_self_eq_true bne_self_eq_false
end Go.Ev
