/- The primitives are what the model does. -/
import Derived.Test.YteaoocedcjijdaaGreatDoorIs
import Derived.Test.YteaoocedcjijdaaGreatDoorPrims
import Derived.Test.YteaoocedcjijdaaGreatDoorEvB
import Derived.Lib.Bytealg
set_option linter.all false
set_option linter.unusedVariables false
set_option linter.unusedSimpArgs false
namespace Go.Ev
set_option maxRecDepth 100000
open Go Go.Proofs Go.Proofs.YteaoocedcjijdaaGreatDoor
theorem CallGives.value {P:Program} {f:FuncId} {args:Array Value} {w:World} {v:Value} {φ ψ:Value→World→Prop} (h:(callFunc f args).run P w=.ok (.value v) w) (hφ:φ v w):CallGives P f args w φ ψ:=by
 unfold CallGives
 rw[h]
 exact hφ
theorem findB_eq (c:UInt8):∀(l:List UInt8) (i:Nat),findB c.toNat l i=if Lib.indexByte l c=-1 then -1 else Lib.indexByte l c+i
 | [],i=>rfl
 | x::l,i=>by
  have ih:=findB_eq c l (i+1)
  have hge:=Lib.indexByte_ge l c
  simp only[findB,Lib.indexByte]
  by_cases e:x=c
  ·subst e
   simp
  ·have e1:x.toNat.beq c.toNat=false:=beqF fun q=>e (UInt8.toNat_inj.1 q)
   have e2:(x==c)=false:=beq_eq_false_iff_ne.2 e
   simp only[e1,e2,cond_false,ih,Bool.false_eq_true,if_false]
   by_cases e3:Lib.indexByte l c=-1
   ·simp [e3]
   ·have e4:¬(Lib.indexByte l c+1=-1):=by omega
    simp only[e3,if_false,beq_iff_eq,e4]
    omega
theorem findB_eq0 (c:UInt8) (l:List UInt8):findB c.toNat l 0=Lib.indexByte l c:=by
 rw[findB_eq]
 split
 ·rename_i h;exact h.symm
 ·simp
theorem VRL.two {ι:Mp} {I:Nat→Info} {sz:Nat→Nat} {x y:AV} {args:Array Value} (h:VRL ι I sz [x,y] args.toList):∃v u,args=#[v,u]∧VR ι I sz x v∧VR ι I sz y u:=by
 obtain ⟨l⟩:=args
 simp only[VRL] at h
 obtain ⟨v,ys,e,h1,u,zs,e2,h2,e3⟩:=h
 have e':l=[v,u]:=by rw[e3] at e2;rw[e2] at e;exact e
 exact ⟨v,u,by rw[e'],h1,h2⟩
theorem Comes1.same {ι:Mp} {h:AHeap} {w:World} {x:AV} {v:Value} (hr:Rel ι h w) (hv:VR ι (infoOf h.get) (wsz w) x v):Comes1 ι h w x h v w:=⟨ι,Step.refl _ _ _,hr,hv⟩
theorem pIdx_ok:PrimOk Tryz.prog 188 pIdx:=by
 intro args h res h' hp ι w args' hG hr hv
 unfold pIdx at hp
 split at hp
 ·rename_i s c
  cases hp
  obtain ⟨v,u,rfl,h1,h2⟩:=hv.two
  simp only[VR] at h1 h2
  subst h1 h2
  have he:=@run_callFunc_extern Tryz.prog 188 _ Extern.BytealgIndexByte.indexByte Tryz.func188 (by kernel_rfl) (by kernel_rfl) (by kernel_rfl) (by kernel_rfl)
  refine CallGives.value (v:=.int .i64 (findB (UInt8.ofNat c.toNat).toNat s 0)) ?_ ⟨_,rfl,Comes1.same hr (by simp only[VR])⟩
  rw[he,Lib.run_indexByteString,findB_eq0]
  rfl
 ·cases hp
theorem calls_value {P:Program} {f:FuncId} {args:Array Value} {fn:Func} {body:Code} (hf:P.funcs[f]?=some fn) (hb:fn.body=some body) (hn:(fn.name== "runtime.NumGoroutine")=false) {w:World} {v:Value} {φ ψ:Value→World→Prop} (h:Calls P f args w fun e w'=>e=.returned v∧w'=w) (hφ:φ v w):CallGives P f args w φ ψ:=by
 unfold CallGives
 have hne:fn.name≠ "runtime.NumGoroutine":=by simpa using hn
 have e:(callFunc f args).run P w=.ok (.enter f args) w:=by simp [callFunc,hf,hb,hne,Sem.run]
 rw[e]
 refine h.mono ?_
 rintro e w' ⟨rfl,rfl⟩
 exact .inl ⟨v,rfl,hφ⟩
theorem pIs_ok:PrimOk Tryz.prog 43 pIs:=by
 intro args h res h' hp ι w args' hG hr hv
 unfold pIs at hp
 split at hp
 ·rename_i t b t' b'
  cases ht:(t.beq 218&&t'.beq 218) with
  | false=>rw[ht] at hp;cases hp
  | true=>
   rw[ht] at hp
   simp only[cond_true] at hp
   simp only[Bool.and_eq_true] at ht
   have e1:=Nat.eq_of_beq_eq_true ht.1
   have e2:=Nat.eq_of_beq_eq_true ht.2
   subst e1 e2
   obtain ⟨v,u,rfl,h1,h2⟩:=hv.two
   simp only[VR] at h1 h2
   obtain ⟨v,rfl,a,rfl,h1⟩:=h1
   obtain ⟨u,rfl,a',rfl,h2⟩:=h2
   split at hp
   ·rename_i ver es s ver' es' s' hb hb'
    have d1:infoOf h.get b≠.dead:=by simp [infoOf,hb,AObj.info]
    have d2:infoOf h.get b'≠.dead:=by simp [infoOf,hb',AObj.info]
    obtain ⟨c,p,hi,rfl⟩:=h1.resolve_left d1
    obtain ⟨c',p',hi',rfl⟩:=h2.resolve_left d2
    by_cases hbb:b=b'
    ·subst hbb
     rw[hi] at hi'
     cases hi'
     rw[Nat.beq_refl] at hp
     cases hp
     exact calls_value Tryz.func43 rfl (by kernel_rfl) (is_same _ w) ⟨_,rfl,Comes1.same hr (by simp only[VR])⟩
    ·rw[beqF hbb] at hp
     cases hs:(s==s') with
     | true=>rw[hs] at hp;cases hp
     | false=>
      rw[hs] at hp
      cases hp
      obtain ⟨x,hx,_,ho⟩:=hr.obj b c p hi
      rw[hb] at hx
      cases hx
      obtain ⟨x',hx',_,ho'⟩:=hr.obj b' c' p' hi'
      rw[hb'] at hx'
      cases hx'
      obtain ⟨cs,T,lo,hi2,hc,hcell,hfr,_⟩:=ho
      obtain ⟨cs',T',lo',hi2',hc',hcell',hfr',_⟩:=ho'
      obtain ⟨rfl,rfl⟩:=hfr (by decide)
      obtain ⟨rfl,rfl⟩:=hfr' (by decide)
      obtain ⟨v,g1,g2⟩:=hcell 0 _ rfl
      obtain ⟨v',g1',g2'⟩:=hcell' 0 _ rfl
      simp only[VR] at g2 g2'
      have hne:(⟨c,p+0,none⟩:Addr)≠⟨c',p'+0,none⟩:=by
       intro e
       simp only[Addr.mk.injEq,and_true] at e
       obtain ⟨rfl,e⟩:=e
       rw[hc] at hc'
       cases hc'
       rw[e] at g1
       rw[g1] at g1'
       cases g1'
       rw[g2] at g2'
       simp only[Value.string.injEq,ByteArray.mk.injEq,Array.mk.injEq] at g2'
       subst g2'
       simp at hs
      exact calls_value Tryz.func43 rfl (by kernel_rfl) (is_other _ _ cs cs' T T' w hne hc hc') ⟨_,rfl,Comes1.same hr (by simp only[VR])⟩
   ·cases hp
 ·rename_i t b
  cases ht:t.beq 218 with
  | false=>rw[ht] at hp;cases hp
  | true=>
   rw[ht] at hp
   cases hp
   have e1:=Nat.eq_of_beq_eq_true ht
   subst e1
   obtain ⟨v,u,rfl,h1,h2⟩:=hv.two
   simp only[VR] at h1 h2
   obtain ⟨u,rfl,a',rfl,h2⟩:=h2
   subst h1
   exact calls_value Tryz.func43 rfl (by kernel_rfl) (is_nil _ w) ⟨_,rfl,Comes1.same hr (by simp only[VR])⟩
 ·cases hp
theorem pIs_h:∀args h r h',pIs args h=some (r,h')→HSt h h':=by
 intro args h r h' hp
 have:h'=h:=by
  unfold pIs at hp
  split at hp
  ·rename_i t b t' b'
   cases ht:(t.beq 218&&t'.beq 218) with
   | false=>rw[ht] at hp;cases hp
   | true=>
    rw[ht] at hp
    simp only[cond_true] at hp
    split at hp
    ·rename_i ver es s ver' es' s' hb hb'
     cases hbb:b.beq b' with
     | true=>rw[hbb] at hp;cases hp;rfl
     | false=>
      rw[hbb] at hp
      cases hs:(s==s') with
      | true=>rw[hs] at hp;cases hp
      | false=>rw[hs] at hp;cases hp;rfl
    ·cases hp
  ·rename_i t b
   cases ht:t.beq 218 with
   | false=>rw[ht] at hp;cases hp
   | true=>rw[ht] at hp;cases hp;rfl
  ·cases hp
 subst this
 exact HSt.refl _
theorem pIdx_h:∀args h r h',pIdx args h=some (r,h')→HSt h h':=by
 intro args h r h' hp
 unfold pIdx at hp
 split at hp
 ·cases hp;exact HSt.refl _
 ·cases hp
end Go.Ev
