/- The builder's parts, Repeat and Join as primitives: they stand for the library's texts. -/
import Derived.Test.YteaoocedcjijdaaGreatDoorSEPb
import Derived.Test.YteaoocedcjijdaaGreatDoorSEShf
set_option linter.all false
set_option linter.unusedVariables false
set_option linter.unusedSimpArgs false
namespace Go.Ev
open Go Go.Proofs Go.Proofs.YteaoocedcjijdaaGreatDoor Go.RowKit
set_option maxRecDepth 100000
theorem VRL.one {ι:Mp} {I:Nat→Info} {sz:Nat→Nat} {x:AV} {args:Array Value} (h:VRL ι I sz [x] args.toList):∃v,args=#[v]∧VR ι I sz x v:=by
 obtain ⟨l⟩:=args
 simp only[VRL] at h
 obtain ⟨v,ys,e,h1,e2⟩:=h
 exact ⟨v,by rw[e2] at e;exact congrArg Array.mk e,h1⟩
theorem calls_gives {P:Program} {f:FuncId} {args:Array Value} {fn:Func} {body:Code} (hf:P.funcs[f]?=some fn) (hb:fn.body=some body) (hn:(fn.name== "runtime.NumGoroutine")=false) {w:World} {v:Value} {R:World→Prop} {φ ψ:Value→World→Prop} (h:Calls P f args w fun e w'=>e=.returned v∧R w') (hφ:∀w',R w'→φ v w'):CallGives P f args w φ ψ:=by
 unfold CallGives
 have hne:fn.name≠ "runtime.NumGoroutine":=by simpa using hn
 have e:(callFunc f args).run P w=.ok (.enter f args) w:=by simp [callFunc,hf,hb,hne,Sem.run]
 rw[e]
 refine h.mono ?_
 rintro e w' ⟨rfl,hr⟩
 exact .inl ⟨v,rfl,hφ w' hr⟩
theorem stored_one {P:Program} {w:World} {c:Nat} {cs:Array Value} {T:TypeId} {v old:Value} (h:w.heap[c]?=some (.cells cs T (0,0))) (h0:cs[0]?=some old) (hv:v.oneCell'=true):(storeCells ⟨c,0,none⟩ [v]).run P w=.ok () (w.setCell ⟨c,0,none⟩ v):=by
 simp only[storeCells,addr_add,Sem.run_bind,Nat.add_zero]
 rw[run_store P w _ v _ hv,cell_eq h]
 simp only[h0,frozen_eq h,Bool.false_eq_true,if_false,Result.andThen_ok,Sem.run_pure]
theorem Rel.below {ι:Mp} {h:AHeap} {w w':World} (r:Rel ι h w) (hb:Below w.heap.size w w'):Step ι h w ι h w'∧Rel ι h w':=by
 have hsz:∀c,wsz w c≤wsz w' c:=by
  intro c
  by_cases hc:c<w.heap.size
  ·unfold wsz;rw[hb.block c hc];exact Nat.le_refl _
  ·unfold wsz
   rw[Array.getElem?_eq_none (by omega)]
   exact Nat.zero_le _
 have gr:Grow ι (infoOf h.get) (wsz w) ι (infoOf h.get) (wsz w'):=⟨fun _ _ e=>e,fun _ e=>e,fun _ _ _ _ _ _ e=>.inl e,hsz⟩
 refine ⟨⟨gr,fun b x h1 h2=>(by rw[h1] at h2;cases h2),Nat.le_refl _,hb.size,fun c hc _=>hb.block c hc,fun b c p h1 h2=>(by rw[h1] at h2;cases h2),⟨hb.os,hb.output,hb.tape⟩⟩,⟨r.dom,r.lt,fun b c p e=>?_,r.inj⟩⟩
 obtain ⟨x,q1,q2,q3⟩:=r.obj b c p e
 exact ⟨x,q1,Nat.lt_of_lt_of_le q2 hb.size,q3.mono gr (hb.block c q2)⟩
theorem repS_eq (s:List UInt8):∀n,repS s n=Lib.repeatL s n
 | 0=>rfl
 | n+1=>by simp only[repS,Lib.repeatL,repS_eq s n]
theorem joinS_eq (sep:List UInt8):∀l,joinS sep l=Lib.join l sep
 | []=>rfl
 | [x]=>(Lib.join_one x sep).symm
 | x::y::r=>by
  have ih:=joinS_eq sep (y::r)
  simp only[joinS,ih]
  simp [Lib.join,List.intercalate,List.intersperse]
theorem pRe_ok:PrimOk Tryz.prog 101 pRe:=by
 intro args h res h' hp ι w args' hG hr hv
 unfold pRe at hp
 split at hp
 ·rename_i s n
  cases hq:(decide (0≤n)&&(s.length*n.toNat).ble 140737488355328&&n.toNat.ble 9223372036854775807) with
  | false=>rw[hq] at hp;cases hp
  | true=>
   rw[hq] at hp
   cases hp
   simp only[Bool.and_eq_true,decide_eq_true_eq] at hq
   have b1:=Nat.le_of_ble_eq_true hq.1.2
   have b2:=Nat.le_of_ble_eq_true hq.2
   obtain ⟨v,u,rfl,h1,h2⟩:=hv.two
   simp only[VR] at h1 h2
   subst h1 h2
   have hn:n=((n.toNat:Nat):Int):=by omega
   have hs:(⟨⟨s⟩⟩:ByteArray).size=s.length:=rfl
   have hc:=Any.strings_Repeat Tryz.lays105 Tryz.Builder_Extra_105 ⟨⟨s⟩⟩ n.toNat w b2 (by rw[hs];exact b1)
   rw[←hn] at hc
   refine calls_gives Tryz.func101 rfl (by kernel_rfl) hc fun w' hb=>?_
   obtain ⟨st,r'⟩:=hr.below hb
   exact ⟨_,rfl,ι,st,r',by simp only[VR,repS_eq]⟩
 ·cases hp
theorem pRe_h:∀args h r h',pRe args h=some (r,h')→HSt h h':=by
 intro args h r h' e
 unfold pRe at e
 split at e
 ·have e:=bif_some e
  cases e;exact HSt.refl _
 ·cases e
theorem pJo_ok:PrimOk Tryz.prog 109 pJo:=by
 intro args h res h' hp ι w args' hG hr hv
 unfold pJo at hp
 split at hp
 ·rename_i sep
  cases hp
  obtain ⟨v,u,rfl,h1,h2⟩:=hv.two
  simp only[VR] at h1 h2
  subst h1 h2
  refine calls_gives Tryz.func109 rfl (by kernel_rfl) (Any.strings_Join_none Tryz.lays156 Tryz.Builder_Extra_156 none 0 ⟨⟨sep⟩⟩ w) fun w' hb=>?_
  subst hb
  exact ⟨_,rfl,ι,Step.refl _ _ _,hr,by simp only[VR]⟩
 ·rename_i b o len cap ex sep
  split at hp
  ·rename_i ver md es vs hb
   split at hp
   ·rename_i cs hrow
    split at hp
    ·rename_i l hl
     cases hq:(!(len.beq 0)&&len.ble 140737488355328&&(joinS sep l).length.ble 281474976710656) with
     | false=>rw[hq] at hp;cases hp
     | true=>
      rw[hq] at hp
      cases hp
      simp only[Bool.and_eq_true,Bool.not_eq_true'] at hq
      have b0:len≠0:=fun e=>by rw[e] at hq;simp at hq
      have b1:=Nat.le_of_ble_eq_true hq.1.2
      have b2:=Nat.le_of_ble_eq_true hq.2
      obtain ⟨v,u,rfl,h1,h2⟩:=hv.two
      simp only[VR] at h1 h2
      subst h2
      obtain ⟨ad,cap',rfl,hlc,hcc,hd⟩:=h1
      have hnd:infoOf h.get b≠.dead:=by unfold infoOf;rw[hb];exact cells_live _ _ _
      obtain ⟨c,p,hi,e3,e4⟩:=hd.resolve_left hnd
      have had:ad=⟨c,p+o,none⟩:=by
       cases ex with
       | true=>exact (e3 rfl).2
       | false=>exact (e4 rfl (by omega)).1
      subst had
      obtain ⟨y,hy,hcw,hob⟩:=hr.obj b c p hi
      rw[hb] at hy
      cases hy
      obtain ⟨cells,T,lo,hi2,g1,g2,_,_⟩:=hob
      obtain ⟨hrl,hrd⟩:=row_some hrow
      have hcl:cs.length=len:=by rw[hrd];simp;omega
      have hll:l.length=len:=by
       have:∀(cs:List AV) (l:List (List UInt8)),strsOf cs=some l→l.length=cs.length:=by
        intro cs
        induction cs with
        | nil=>intro l e;cases e;rfl
        | cons x r ih=>
         intro l e
         cases x<;>simp only[strsOf] at e<;>try (cases e;done)
         split at e
         ·rename_i l' hl'
          cases e
          simp [ih _ hl']
         ·cases e
       rw[this _ _ hl,hcl]
      have hcell:∀(j:Nat) (x:ByteArray),(l.map fun s=>(⟨⟨s⟩⟩:ByteArray))[j]?=some x→w.cell? ⟨c,(p+o)+j,none⟩=some (.string x):=by
       intro j x hx
       rw[List.getElem?_map] at hx
       cases hj:l[j]? with
       | none=>rw[hj] at hx;cases hx
       | some s=>
        rw[hj] at hx
        cases hx
        have hjl:j<len:=by
         have:=(List.getElem?_eq_some_iff.1 hj).1
         omega
        have hvs:vs[o+j]?=some (.str s):=by
         have hcs:cs[j]?=some (.str s):=by
          have key:∀(cs:List AV) (l:List (List UInt8)) (j:Nat) (s:List UInt8),strsOf cs=some l→l[j]?=some s→cs[j]?=some (.str s):=by
           intro cs
           induction cs with
           | nil=>intro l j s e h1;cases e;simp at h1
           | cons x r ih=>
            intro l j s e h1
            cases x<;>simp only[strsOf] at e<;>try (cases e;done)
            split at e
            ·rename_i l' hl'
             cases e
             cases j with
             | zero=>simp at h1;subst h1;simp
             | succ j=>simp at h1;simpa using ih l' j s hl' h1
            ·cases e
          exact key cs l j s hl hj
         rw[hrd,List.getElem?_take_of_lt hjl,List.getElem?_drop] at hcs
         exact hcs
        obtain ⟨v,q1,q2⟩:=g2 (o+j) _ hvs
        simp only[VR] at q2
        subst q2
        rw[cell_eq g1,show p+o+j=p+(o+j) by omega]
        exact q1
      have hmap:(l.map fun s=>(⟨⟨s⟩⟩:ByteArray)).map (fun b=>b.data.toList)=l:=by
       rw[List.map_map]
       exact (List.map_congr_left (g:=id) fun _ _=>rfl).trans (List.map_id l)
      have hlen:(l.map fun s=>(⟨⟨s⟩⟩:ByteArray)).length=len:=by simp [hll]
      have hc:=Any.strings_Join_48 Tryz.lays156 Tryz.Builder_Extra_156 c (p+o) cap' (l.map fun s=>(⟨⟨s⟩⟩:ByteArray)) ⟨⟨sep⟩⟩ w hcell hcw (by rw[hlen];exact b1) (by rw[hlen];omega) (by rw[hmap,←joinS_eq];exact b2)
      rw[hlen,hmap] at hc
      refine calls_gives Tryz.func109 rfl (by kernel_rfl) hc fun w' hbl=>?_
      obtain ⟨st,r'⟩:=hr.below hbl
      exact ⟨_,rfl,ι,st,r',by simp only[VR,joinS_eq]⟩
    ·cases hp
   ·cases hp
  ·cases hp
 ·cases hp
theorem pJo_h:∀args h r h',pJo args h=some (r,h')→HSt h h':=by
 intro args h r h' e
 unfold pJo at e
 split at e
 ·cases e;exact HSt.refl _
 ·split at e
  ·split at e
   ·split at e
    ·have e:=bif_some e
     cases e;exact HSt.refl _
    ·cases e
   ·cases e
  ·cases e
 ·cases e
theorem pCC_ok:PrimOk Tryz.prog 170 pCC:=by
 intro args h res h' hp ι w args' hG hr hv
 unfold pCC at hp
 split at hp
 ·rename_i b
  split at hp
  ·rename_i ver t x r hb
   cases hq:(t.beq 111&&r.length.beq 2) with
   | false=>rw[hq] at hp;cases hp
   | true=>
    rw[hq] at hp
    simp only[cond_true] at hp
    simp only[Bool.and_eq_true] at hq
    have e1:=Nat.eq_of_beq_eq_true hq.1
    have e2:=Nat.eq_of_beq_eq_true hq.2
    subst e1
    obtain ⟨v,rfl,h1⟩:=hv.one
    simp only[VR] at h1
    obtain ⟨a,rfl,hd⟩:=h1
    have hnd:infoOf h.get b≠.dead:=by unfold infoOf;rw[hb];exact cells_live _ _ _
    obtain ⟨c,p,hi,rfl⟩:=hd.resolve_left hnd
    obtain ⟨y,hy,hcw,hob⟩:=hr.obj b c p hi
    rw[hb] at hy
    cases hy
    obtain ⟨cs,T,lo,hi2,g1,g2,g3,g4⟩:=hob
    obtain ⟨hp0,hT⟩:=g4.1 rfl
    subst hp0
    obtain ⟨hTT,hsz⟩:=hT _ rfl
    subst hTT
    obtain ⟨rfl,rfl⟩:=g3 rfl
    have hcs:cs.size=3:=by rw[hsz rfl];simp [e2]
    obtain ⟨old,q1,q2⟩:=g2 0 _ rfl
    have hc0:w.cell? ⟨c,0,none⟩=some old:=by rw[cell_eq g1];simpa using q1
    split at hp
    ·
     cases hp
     simp only[VR] at q2
     subst q2
     obtain ⟨w',s1,s2,s3⟩:=hr.storeRow (P:=Tryz.prog) (ver':=ver+1) (md:=.tag _) rfl (cs:=[.ptr b 0]) (vs':=.ptr b 0::r) (off:=0) hb hi (by unfold lay;rw[show (0+[AV.ptr b 0].length).ble (AV.nilPtr::r).length=true from Nat.ble_eq_true_of_le (by simp)];rfl) (l:=[.pointer (some ⟨c,0,none⟩)]) (by
      simp only[VRL,VR]
      exact ⟨_,_,rfl,⟨_,rfl,.inr ⟨c,0,hi,rfl⟩⟩,rfl⟩) rfl
     have hst:=stored_one (P:=Tryz.prog) (v:=.pointer (some ⟨c,0,none⟩)) g1 (by simpa using q1) rfl
     rw[hst] at s1
     have hw:w.setCell ⟨c,0,none⟩ (.pointer (some ⟨c,0,none⟩))=w':=by injection s1
     refine calls_gives Tryz.func170 rfl (by kernel_rfl) (cc_fresh c w hc0 (by simp [World.shape?,g1,hcs]) (frozen_eq g1 0)) fun w2 e=>?_
     rw[e,hw]
     exact ⟨_,rfl,ι,s2,s3,by simp [VR,VRL,undefA]⟩
    ·rename_i b'
     cases hbb:b'.beq b with
     | false=>rw[hbb] at hp;cases hp
     | true=>
      rw[hbb] at hp
      cases hp
      have e3:=Nat.eq_of_beq_eq_true hbb
      subst e3
      simp only[VR] at q2
      obtain ⟨a,rfl,hd2⟩:=q2
      obtain ⟨c2,p2,hi3,rfl⟩:=hd2.resolve_left hnd
      rw[hi] at hi3
      cases hi3
      refine calls_gives Tryz.func170 rfl (by kernel_rfl) (cc_used c w hc0) fun w2 e=>?_
      subst e
      exact ⟨_,rfl,ι,Step.refl _ _ _,hr,by simp [VR,VRL,undefA]⟩
    ·cases hp
  ·cases hp
 ·cases hp
theorem pCC_h:∀args h r h',pCC args h=some (r,h')→HSt h h':=by
 intro args h r h' e
 unfold pCC at e
 split at e
 ·split at e
  ·have e:=bif_some e
   split at e
   ·cases e;exact HSt.upd (by assumption) (cells_live _ _ _) (.inl (info_cells _ _ _ _))
   ·have e:=bif_some e
    cases e;exact HSt.refl _
   ·cases e
  ·cases e
 ·cases e
theorem Rel.spoil {ι:Mp} {h:AHeap} {w w':World} (r:Rel ι h w) {b c ver ver':Nat} {o:AObj} (hg:h.get b=some ⟨ver,o⟩) (hown:∃f s,o.info=.live true f s) (e:ι b=some (c,0))
  (hsize:w'.heap.size=w.heap.size) (hoth:w'.os=w.os∧w'.output=w.output∧w'.tape=w.tape) (hkeep:∀c',c'≠c→w'.heap[c']?=w.heap[c']?) (hsz:wsz w c≤wsz w' c) :
  Step ι h w ι (h.upd b ver' .dead) w'∧Rel ι (h.upd b ver' .dead) w':=by
 obtain ⟨s1,r1⟩:=r.kill (ver':=ver') hg
 have hownb:OwnL h b:=by
  obtain ⟨f,s,hf⟩:=hown
  exact ⟨f,s,by unfold infoOf;rw[hg];exact hf⟩
 have hw:∀c',wsz w c'≤wsz w' c':=by
  intro c'
  by_cases hc:c'=c
  ·subst hc;exact hsz
  ·unfold wsz;rw[hkeep c' hc];exact Nat.le_refl _
 have hgr:Grow ι (infoOf h.get) (wsz w) ι (infoOf (h.upd b ver' .dead).get) (wsz w'):=Rel.growKill hw
 have hgr2:Grow ι (infoOf (h.upd b ver' .dead).get) (wsz w) ι (infoOf (h.upd b ver' .dead).get) (wsz w'):=⟨fun _ _ e=>e,fun _ e=>e,fun _ _ _ _ _ _ e=>.inl e,hw⟩
 refine ⟨⟨hgr,?_,Nat.le_refl _,by omega,?_,?_,hoth⟩,⟨r1.dom,r1.lt,?_,r1.inj⟩⟩
 ·intro b x e1 e2;rw[e1] at e2;cases e2
 ·intro c' hc hno
  refine hkeep c' fun he=>?_
  subst he
  exact hno b 0 e hownb
 ·intro b c p e1 e2;rw[e1] at e2;cases e2
 ·intro b' c' p e'
  obtain ⟨x,e3,e4,e5⟩:=r1.obj b' c' p e'
  refine ⟨x,e3,by omega,?_⟩
  by_cases hd:infoOf (h.upd b ver' .dead).get b'=.dead
  ·have:x.o=.dead:=by
    unfold infoOf at hd
    rw[e3] at hd
    obtain ⟨v,ob⟩:=x
    cases ob with
    | cells md es vs=>exact absurd hd (cells_live _ _ _)
    | amap es=>cases hd
    | dead=>rfl
   rw[this];trivial
  ·have hbb:b'≠b:=fun he=>hd (by subst he;rw[infoOf_upd,if_pos rfl];rfl)
   have hd':infoOf h.get b'≠.dead:=by rw[infoOf_upd,if_neg hbb] at hd;exact hd
   have hcc:c'≠c:=fun he=>by
    subst he
    exact hbb (r.inj b b' c' 0 p e e' hownb hd').symm
   exact e5.mono hgr2 (hkeep c' hcc)
theorem bytesE_rel {ι:Mp} {I:Nat→Info} {sz:Nat→Nat}:∀{cs:List AV} {l:List UInt8} {vs:List Value},bytesE cs=some l→VRL ι I sz cs vs→l.length=cs.length∧∀(j:Nat) (x:UInt8),l[j]?=some x→vs[j]?=some (.int .u8 x.toNat)
 | [],l,vs,h,_=>by cases h;exact ⟨rfl,fun j x e=>by simp at e⟩
 | x::r,l,vs,h,hv=>by
  cases x<;>try (simp only[bytesE] at h;cases h;done)
  rename_i k n
  cases k<;>try (simp only[bytesE] at h;cases h;done)
  simp only[bytesE] at h
  cases hq:decide (n=((UInt8.ofNat n.toNat).toNat:Int)) with
  | false=>rw[hq] at h;cases h
  | true=>
   rw[hq] at h
   have hn:=of_decide_eq_true hq
   simp only[cond_true] at h
   split at h
   ·rename_i l' hl
    cases h
    simp only[VRL,VR] at hv
    obtain ⟨y,ys,rfl,rfl,h2⟩:=hv
    obtain ⟨q1,q2⟩:=bytesE_rel hl h2
    refine ⟨by simp [q1],fun j x e=>?_⟩
    cases j with
    | zero=>simp only[List.getElem?_cons_zero,Option.some.injEq] at e ⊢;subst e;rw[←hn]
    | succ j=>simp only[List.getElem?_cons_succ] at e ⊢;exact q2 j x e
   ·cases h
theorem pSt_ok:PrimOk Tryz.prog 65 pSt:=by
 intro args h res h' hp ι w args' hG hr hv
 unfold pSt at hp
 split at hp
 ·rename_i b
  split at hp
  ·rename_i ver t z x r hb
   cases hq:t.beq 111 with
   | false=>rw[hq] at hp;cases hp
   | true=>
    rw[hq] at hp
    simp only[cond_true] at hp
    obtain ⟨v,rfl,h1⟩:=hv.one
    simp only[VR] at h1
    obtain ⟨a,rfl,hd⟩:=h1
    have hnd:infoOf h.get b≠.dead:=by unfold infoOf;rw[hb];exact cells_live _ _ _
    obtain ⟨c,p,hi,rfl⟩:=hd.resolve_left hnd
    obtain ⟨y,hy,hcw,hob⟩:=hr.obj b c p hi
    rw[hb] at hy
    cases hy
    obtain ⟨cs,T,lo,hi2,g1,g2,g3,g4⟩:=hob
    obtain ⟨hp0,hT⟩:=g4.1 rfl
    subst hp0
    obtain ⟨old,q1,q2⟩:=g2 1 x rfl
    have hc1:w.cell? ⟨c,1,none⟩=some old:=by rw[cell_eq g1];simpa using q1
    split at hp
    ·cases hp
     simp only[VR] at q2
     subst q2
     refine calls_gives Tryz.func65 rfl (by kernel_rfl) (st_nil c w hc1) fun w2 e=>?_
     subst e
     obtain ⟨r',s'⟩:=hr.drew
     exact ⟨_,rfl,ι,s',r',by simp only[VR]⟩
    ·rename_i b2 len cap
     split at hp
     ·rename_i ver2 u vs hb2
      cases hq2:(u.beq 5&&!(len.beq 0)&&!(b2.beq b)) with
      | false=>rw[hq2] at hp;cases hp
      | true=>
       rw[hq2] at hp
       simp only[cond_true] at hp
       simp only[Bool.and_eq_true,Bool.not_eq_true'] at hq2
       have eu:=Nat.eq_of_beq_eq_true hq2.1.1
       have el:len≠0:=fun e=>by rw[e] at hq2;simp at hq2
       split at hp
       ·rename_i row0 hrow
        split at hp
        ·rename_i s hs
         cases hq3:s.length.ble 281474976710656 with
         | false=>rw[hq3] at hp;cases hp
         | true=>
          rw[hq3] at hp
          cases hp
          have b3:=Nat.le_of_ble_eq_true hq3
          simp only[VR] at q2
          obtain ⟨ad,cap',rfl,hlc,hcc,hd2⟩:=q2
          have hnd2:infoOf h.get b2≠.dead:=by unfold infoOf;rw[hb2];exact cells_live _ _ _
          obtain ⟨g,p2,hi3,_,e4⟩:=hd2.resolve_left hnd2
          obtain ⟨had,_⟩:=e4 trivial (by omega)
          obtain ⟨y2,hy2,hgw,hob2⟩:=hr.obj b2 g p2 hi3
          rw[hb2] at hy2
          cases hy2
          obtain ⟨cs2,T2,lo2,hi4,k1,k2,k3,k4⟩:=hob2
          obtain ⟨hp2,hT2⟩:=k4.1 rfl
          subst hp2
          obtain ⟨hTu,_⟩:=hT2 _ rfl
          rw[eu] at hTu
          subst hTu
          simp only[Nat.add_zero] at had
          subst had
          obtain ⟨l,hl1,hl2⟩:=hr.loadRow (P:=Tryz.prog) hb2 hi3 hrow
          obtain ⟨m1,m2⟩:=bytesE_rel hs hl2
          obtain ⟨hrl,hrd⟩:=row_some hrow
          have hrlen:row0.length=len:=by rw[hrd];simp;omega
          have hsl:s.length=len:=by omega
          have hrel0:∀(j:Nat) (x:AV),row0[j]?=some x→∃v,cs2[j]?=some v∧VR ι (infoOf h.get) (wsz w) x v:=by
           intro j x hx
           have hj:j<len:=by have:=(List.getElem?_eq_some_iff.1 hx).1;omega
           rw[hrd,List.getElem?_take_of_lt hj,List.getElem?_drop] at hx
           obtain ⟨v,n1,n2⟩:=k2 _ x hx
           exact ⟨v,by simpa using n1,n2⟩
          have hcs2:len≤cs2.size:=by
           obtain ⟨v,n1,_⟩:=hrel0 (len-1) _ (List.getElem?_eq_getElem (by omega))
           have:len-1<cs2.size:=by
            by_cases hlt:len-1<cs2.size
            ·exact hlt
            ·rw[Array.getElem?_eq_none (by omega)] at n1;cases n1
           omega
          have hrel1:VRL ι (infoOf h.get) (wsz w) row0 (cs2.toList.take len):=by
           refine VRL.of_get _ _ (by simp [hrlen];omega) fun i x v hx hv=>?_
           have hil:i<len:=by have:=(List.getElem?_eq_some_iff.1 hx).1;omega
           obtain ⟨v2,n1,n2⟩:=hrel0 i x hx
           rw[List.getElem?_take_of_lt hil] at hv
           have:v=v2:=by
            have h3:cs2[i]?=some v:=by simpa using hv
            rw[h3] at n1;cases n1;rfl
           exact this ▸ n2
          obtain ⟨_,m3⟩:=bytesE_rel hs hrel1
          have hcall:=st_row c g cs2.size cap' s w (fun e=>by rw[e] at hsl;simp at hsl;omega) (by rw[hsl];exact hc1) (by simp [World.shape?,k1]) (by omega) (by omega) (by omega) (by
           intro j x hx
           have hj:j<len:=by have:=(List.getElem?_eq_some_iff.1 hx).1;omega
           have:=m3 j x hx
           rw[List.getElem?_take_of_lt hj] at this
           rw[addr_add,cell_eq k1,Nat.zero_add]
           simpa using this)
          refine calls_gives Tryz.func65 rfl (by kernel_rfl) hcall fun w2 e=>?_
          have hfr:w.drew.freeze ⟨g,0,none⟩ s.length=w2:=e.symm
          have hkeep:∀c',c'≠g→w2.heap[c']?=w.heap[c']?:=by
           intro c' hc'
           rw[←hfr]
           unfold World.freeze
           split
           ·rfl
           ·simp only[Array.getElem?_modify]
            rw[if_neg (fun e=>hc' e.symm)]
            rfl
          have hsize:w2.heap.size=w.heap.size:=by
           rw[←hfr]
           unfold World.freeze
           split
           ·rfl
           ·simp
          have hoth:w2.os=w.os∧w2.output=w.output∧w2.tape=w.tape:=by
           rw[←hfr]
           unfold World.freeze
           split
           ·exact ⟨rfl,rfl,rfl⟩
           ·exact ⟨rfl,rfl,rfl⟩
          have hsz:wsz w g≤wsz w2 g:=by
           rw[←hfr]
           unfold World.freeze
           split
           ·exact Nat.le_refl _
           ·unfold wsz
            simp only[Array.getElem?_modify,if_true]
            have:w.drew.heap[g]?=some (.cells cs2 5 (lo2,hi4)):=k1
            rw[this,k1]
            simp
          obtain ⟨st,r'⟩:=hr.spoil (ver':=ver2+1) hb2 ⟨true,1,rfl⟩ hi3 hsize hoth hkeep hsz
          exact ⟨_,rfl,ι,st,r',by simp only[VR]⟩
        ·cases hp
       ·cases hp
     ·cases hp
    ·cases hp
  ·cases hp
 ·cases hp
theorem pSt_h:∀args h r h',pSt args h=some (r,h')→HSt h h':=by
 intro args h r h' e
 unfold pSt at e
 split at e
 ·split at e
  ·have e:=bif_some e
   split at e
   ·cases e;exact HSt.refl _
   ·split at e
    ·have e:=bif_some e
     split at e
     ·split at e
      ·have e:=bif_some e
       cases e;exact HSt.upd (by assumption) (cells_live _ _ _) (.inr rfl)
      ·cases e
     ·cases e
    ·cases e
   ·cases e
  ·cases e
 ·cases e
end Go.Ev
