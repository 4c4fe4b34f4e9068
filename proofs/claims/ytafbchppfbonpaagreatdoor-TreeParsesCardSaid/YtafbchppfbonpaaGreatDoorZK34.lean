/- Trees, as the document's own functions see them: which are the same. -/
import Derived.Test.YtafbchppfbonpaaGreatDoorZK56
import Derived.Test.YtafbchppfbonpaaGreatDoorZK4
import Derived.Test.YtafbchppfbonpaaGreatDoorPuA
import Derived.Test.YtafbchppfbonpaaGreatDoorEvB
import Derived.Test.YtafbchppfbonpaaGreatDoorZK25
import Derived.Test.YtafbchppfbonpaaGreatDoorZK70
set_option linter.all false
set_option linter.unusedVariables false
set_option linter.unusedSimpArgs false
namespace Go.Ev
open Go
set_option maxRecDepth 100000
set_option maxHeartbeats 4000000
theorem rsame_spec (pl:Bool):∀(s:Nat) {n m:Nd},n.count≤s→∀{lo:Nat} {h:AHeap} {kv kw:AV} {Q:QR},KidsR lo h n.kids kv→KidsR lo h m.kids kw→(∀h',Fr h.n h h'→Q (.ret (.bool (n.sameP pl m))) h')→WF F 8 [.agg (ndC n kv),.agg (ndC m kw),.bool pl] h Q:=by
 intro s
 induction s with
 | zero=>intro n m h0;have:=count_pos n;omega
 | succ s ih=>
  intro n m hc lo h kv kw Q hk hm hQ
  rw[sameP_eq] at hQ
  have hcnt:n.count=1+cntL n.kids:=by cases n;rfl
  refine WF.code F8 rfl ?_
  generalize e1:(n.kind==m.kind)=b1 at hQ
  generalize e2:(n.name==m.name)=b2 at hQ
  generalize e3:(n.typ==m.typ)=b3 at hQ
  generalize e4:(n.n==m.n)=b4 at hQ
  generalize e5:(n.size==m.size)=b5 at hQ
  generalize e6:(n.obj==m.obj)=b6 at hQ
  generalize e7:(n.bits==m.bits)=b7 at hQ
  generalize e8:(n.pos==m.pos)=b8 at hQ
  have hf:Fr h.n h ((h.alloc (.cells .own 0 (ndC n kv))).alloc (.cells .own 0 (ndC m kw))):=⟨by (try simp only[hN]);omega,fun b hb hne=>by (try simp only[hN] at hb hne);simp(disch:=(try simp only[hN]);omega)only[go_sem,simprocAttr]⟩
  cases b1
  ·simp(disch:=(try simp only[hN]);omega)only[go_sem,simprocAttr,hk.flat.1,hk.flat.2,hm.flat.1,hm.flat.2,bne,e1]
   exact hQ _ hf
  cases b2
  ·simp(disch:=(try simp only[hN]);omega)only[go_sem,simprocAttr,hk.flat.1,hk.flat.2,hm.flat.1,hm.flat.2,bne,e1,e2]
   exact hQ _ hf
  cases b3
  ·simp(disch:=(try simp only[hN]);omega)only[go_sem,simprocAttr,hk.flat.1,hk.flat.2,hm.flat.1,hm.flat.2,bne,e1,e2,e3]
   exact hQ _ hf
  cases b4
  ·simp(disch:=(try simp only[hN]);omega)only[go_sem,simprocAttr,hk.flat.1,hk.flat.2,hm.flat.1,hm.flat.2,bne,e1,e2,e3,e4]
   exact hQ _ hf
  cases b5
  ·simp(disch:=(try simp only[hN]);omega)only[go_sem,simprocAttr,hk.flat.1,hk.flat.2,hm.flat.1,hm.flat.2,bne,e1,e2,e3,e4,e5]
   exact hQ _ hf
  cases b6
  ·simp(disch:=(try simp only[hN]);omega)only[go_sem,simprocAttr,hk.flat.1,hk.flat.2,hm.flat.1,hm.flat.2,bne,e1,e2,e3,e4,e5,e6]
   exact hQ _ hf
  cases b7
  ·simp(disch:=(try simp only[hN]);omega)only[go_sem,simprocAttr,hk.flat.1,hk.flat.2,hm.flat.1,hm.flat.2,bne,e1,e2,e3,e4,e5,e6,e7]
   exact hQ _ hf
  generalize hks:n.kids=ks at hk hcnt hQ
  generalize hms:m.kids=ms at hm hQ
  have hsk:=hk.small
  have hsm:=hm.small
  by_cases hl:ks.length=ms.length
  ·have el:((ks.length:Int)==(ms.length:Int))=true:=by simp [hl]
   cases pl
   ·simp(disch:=(try simp only[hN]);omega)only[go_sem,simprocAttr,hk.flat.1,hk.flat.2,hm.flat.1,hm.flat.2,bne,e1,e2,e3,e4,e5,e6,e7,el,hk.len,hm.len]
    generalize hH:AHeap.alloc _ _=h0
    have hn0:h0.n=h.n+2:=by rw[←hH];simp(disch:=(try simp only[hN]);omega)only[go_sem,simprocAttr]
    have hq0:h0.get h.n=some ⟨0,.cells .own 0 [.int .i64 n.kind,.int .i64 n.pos,.str n.name,.int .i64 n.typ,.int .i64 n.n,.int .i64 n.size,.int .i64 n.obj,.int .u64 n.bits,kv]⟩:=by rw[←hH];simp(disch:=(try simp only[hN]);omega)only[go_sem,simprocAttr]
    have hq1:h0.get (h.n+1)=some ⟨0,.cells .own 0 [.int .i64 m.kind,.int .i64 m.pos,.str m.name,.int .i64 m.typ,.int .i64 m.n,.int .i64 m.size,.int .i64 m.obj,.int .u64 m.bits,kw]⟩:=by rw[←hH];simp(disch:=(try simp only[hN]);omega)only[go_sem,simprocAttr]
    have ho:∀b,b<h.n→h0.get b=h.get b:=fun b hb=>by rw[←hH];simp(disch:=(try simp only[hN]);omega)only[go_sem,simprocAttr]
    clear hH
    refine wp_loop (fun n a h'=>∃i:Nat,n=ks.length-i∧i≤ks.length∧Fr (h.n+2) h0 h'∧samePL false ks ms=samePL false (ks.drop i) (ms.drop i)∧a.tm.get 2=some (.bool false)∧a.tm.get 3=some (.ptr h.n 0)∧a.tm.get 4=some (.ptr (h.n+1) 0)∧a.tm.get 76=some (.int .i64 (ks.length:Int))∧a.tm.get 77=some (.int .i64 (i:Int))∧a.df=[]) ?_ ks.length ?_
    ·rintro w ⟨t,df⟩ h2 ⟨i,hn,hi,hf2,hsm2,k2,k3,k4,k76,k77,hdf⟩
     simp only at k2 k3 k4 k76 k77 hdf
     subst hdf
     have hn2:=hf2.n
     have q0:=(hf2.old h.n (by omega) (by omega)).trans hq0
     have q1:=(hf2.old (h.n+1) (by omega) (by omega)).trans hq1
     simp(disch:=(try simp only[hN]);omega)only[go_sem,simprocAttr,k76,k77]
     (first|refine kA (fun hlt=>?_) (fun hlt=>?_)|refine kB (fun hlt=>?_) (fun hlt=>?_)|refine kC (fun hlt=>?_) (fun hlt=>?_)|refine kD (fun hlt=>?_) (fun hlt=>?_)|refine kE (fun hlt=>?_) (fun hlt=>?_)|refine kF (fun hlt=>?_) (fun hlt=>?_))
     ·have hil:i<ks.length:=(by have:=of_decide_eq_true hlt;omega)
      have him:i<ms.length:=by omega
      have hcs:=cntL_take hil
      have hcl:=cntL_le (ns:=ks) (i+1)
      have hd1:ks.drop i=ks[i]::ks.drop (i+1):=List.drop_eq_getElem_cons hil
      have hd2:ms.drop i=ms[i]::ms.drop (i+1):=List.drop_eq_getElem_cons him
      rw[hd1,hd2,samePL] at hsm2
      cases hk with
      | nil=>simp at hil
      | emp=>simp at hil
      | row g1 g0 g2 g3 g4 gr g5=>
       rename_i b ver o c md ex bs css
       cases hm with
       | nil=>simp at him
       | emp=>simp at him
       | row f1 f0 f2 f3 f4 fr f5=>
        rename_i b' ver' o' c' md' ex' bs' css'
        obtain ⟨kv',hr,hk'⟩:=g5.get hil
        obtain ⟨kw',hr',hm'⟩:=f5.get him
        rw[←row_sub (o:=o) gr (by omega)] at hr
        rw[←row_sub (o:=o') fr (by omega)] at hr'
        have g4':h2.get b=some ⟨ver,.cells md 9 bs⟩:=by rw[hf2.old b (by omega) (by omega),ho b g3];exact g4
        have f4':h2.get b'=some ⟨ver',.cells md' 9 bs'⟩:=by rw[hf2.old b' (by omega) (by omega),ho b' f3];exact f4
        have hfo:∀b,b<h.n→h2.get b=h.get b:=fun b hb=>by rw[hf2.old b (by omega) (by omega),ho b hb]
        generalize ks[i]=n1 at hr hk' hcs hsm2
        generalize ms[i]=m1 at hr' hm' hsm2
        have c1:decide ((i:Int)<(ms.length:Int))=true:=decide_eq_true (by omega)
        simp(disch:=(try simp only[hN]);omega)only[go_sem,simprocAttr,k2,k3,k4,k76,k77,q0,q1,Int.toNat_natCast,g4',f4',hr,hr',hk'.flat.1,hk'.flat.2,hm'.flat.1,hm'.flat.2,c1]
        refine ih (by omega) (hk'.keep (Nat.le_refl _) (by omega) fun x hb1 hb2=>hfo x hb2) (hm'.keep (Nat.le_refl _) (by omega) fun x hb1 hb2=>hfo x hb2) ?_
        intro h3 hf3
        have hn3:=hf3.n
        cases hb:n1.sameP false m1 with
        | true=>
         rw[hb,Bool.true_and] at hsm2
         simp(disch:=(try simp only[hN]);omega)only[go_sem,simprocAttr,k2,k3,k4,k76,k77]
         exact ⟨_,hn ▸ Nat.sub_lt_sub_left hil (Nat.lt_succ_self i),i+1,rfl,hil,⟨by omega,fun b hb hne=>by rw[hf3.all (by omega),hf2.old b hb hne]⟩,hsm2,rfl⟩
        | false=>
         rw[hb,Bool.false_and] at hsm2
         simp(disch:=(try simp only[hN]);omega)only[go_sem,simprocAttr]
         rw[hsm2,Bool.and_false] at hQ
         exact hQ _ ⟨by omega,fun b hb _=>by rw[hf3.all (by omega),hfo b hb]⟩
     ·have hil:i=ks.length:=by have:=of_decide_eq_false hlt;omega
      subst hil
      rw[List.drop_length,hl,List.drop_length] at hsm2
      simp(disch:=(try simp only[hN]);omega)only[go_sem,simprocAttr]
      rw[show samePL false ks ms=true from hsm2] at hQ
      exact hQ _ ⟨by omega,fun b hb _=>by rw[hf2.old b (by omega) (by omega),ho b hb]⟩
    ·exact ⟨0,rfl,Nat.zero_le _,Fr.refl _ _,rfl,by simp(disch:=(try simp only[hN]);omega)only[go_sem,simprocAttr],by simp(disch:=(try simp only[hN]);omega)only[go_sem,simprocAttr],by simp(disch:=(try simp only[hN]);omega)only[go_sem,simprocAttr],by simp(disch:=(try simp only[hN]);omega)only[go_sem,simprocAttr],by (first|(simp(disch:=(try simp only[hN]);omega)only[go_sem,simprocAttr];done)|(simp(disch:=(try simp only[hN]);omega)only[go_sem,simprocAttr];rfl)),by simp(disch:=(try simp only[hN]);omega)only[go_sem,simprocAttr]⟩
   ·cases b8
    ·simp(disch:=(try simp only[hN]);omega)only[go_sem,simprocAttr,hk.flat.1,hk.flat.2,hm.flat.1,hm.flat.2,bne,e1,e2,e3,e4,e5,e6,e7,el,e8,hk.len,hm.len]
     exact hQ _ hf
    ·simp(disch:=(try simp only[hN]);omega)only[go_sem,simprocAttr,hk.flat.1,hk.flat.2,hm.flat.1,hm.flat.2,bne,e1,e2,e3,e4,e5,e6,e7,el,e8,hk.len,hm.len]
     generalize hH:AHeap.alloc _ _=h0
     have hn0:h0.n=h.n+2:=by rw[←hH];simp(disch:=(try simp only[hN]);omega)only[go_sem,simprocAttr]
     have hq0:h0.get h.n=some ⟨0,.cells .own 0 [.int .i64 n.kind,.int .i64 n.pos,.str n.name,.int .i64 n.typ,.int .i64 n.n,.int .i64 n.size,.int .i64 n.obj,.int .u64 n.bits,kv]⟩:=by rw[←hH];simp(disch:=(try simp only[hN]);omega)only[go_sem,simprocAttr]
     have hq1:h0.get (h.n+1)=some ⟨0,.cells .own 0 [.int .i64 m.kind,.int .i64 m.pos,.str m.name,.int .i64 m.typ,.int .i64 m.n,.int .i64 m.size,.int .i64 m.obj,.int .u64 m.bits,kw]⟩:=by rw[←hH];simp(disch:=(try simp only[hN]);omega)only[go_sem,simprocAttr]
     have ho:∀b,b<h.n→h0.get b=h.get b:=fun b hb=>by rw[←hH];simp(disch:=(try simp only[hN]);omega)only[go_sem,simprocAttr]
     clear hH
     refine wp_loop (fun n a h'=>∃i:Nat,n=ks.length-i∧i≤ks.length∧Fr (h.n+2) h0 h'∧samePL true ks ms=samePL true (ks.drop i) (ms.drop i)∧a.tm.get 2=some (.bool true)∧a.tm.get 3=some (.ptr h.n 0)∧a.tm.get 4=some (.ptr (h.n+1) 0)∧a.tm.get 76=some (.int .i64 (ks.length:Int))∧a.tm.get 77=some (.int .i64 (i:Int))∧a.df=[]) ?_ ks.length ?_
     ·rintro w ⟨t,df⟩ h2 ⟨i,hn,hi,hf2,hsm2,k2,k3,k4,k76,k77,hdf⟩
      simp only at k2 k3 k4 k76 k77 hdf
      subst hdf
      have hn2:=hf2.n
      have q0:=(hf2.old h.n (by omega) (by omega)).trans hq0
      have q1:=(hf2.old (h.n+1) (by omega) (by omega)).trans hq1
      simp(disch:=(try simp only[hN]);omega)only[go_sem,simprocAttr,k76,k77]
      (first|refine kA (fun hlt=>?_) (fun hlt=>?_)|refine kB (fun hlt=>?_) (fun hlt=>?_)|refine kC (fun hlt=>?_) (fun hlt=>?_)|refine kD (fun hlt=>?_) (fun hlt=>?_)|refine kE (fun hlt=>?_) (fun hlt=>?_)|refine kF (fun hlt=>?_) (fun hlt=>?_))
      ·have hil:i<ks.length:=(by have:=of_decide_eq_true hlt;omega)
       have him:i<ms.length:=by omega
       have hcs:=cntL_take hil
       have hcl:=cntL_le (ns:=ks) (i+1)
       have hd1:ks.drop i=ks[i]::ks.drop (i+1):=List.drop_eq_getElem_cons hil
       have hd2:ms.drop i=ms[i]::ms.drop (i+1):=List.drop_eq_getElem_cons him
       rw[hd1,hd2,samePL] at hsm2
       cases hk with
       | nil=>simp at hil
       | emp=>simp at hil
       | row g1 g0 g2 g3 g4 gr g5=>
        rename_i b ver o c md ex bs css
        cases hm with
        | nil=>simp at him
        | emp=>simp at him
        | row f1 f0 f2 f3 f4 fr f5=>
         rename_i b' ver' o' c' md' ex' bs' css'
         obtain ⟨kv',hr,hk'⟩:=g5.get hil
         obtain ⟨kw',hr',hm'⟩:=f5.get him
         rw[←row_sub (o:=o) gr (by omega)] at hr
         rw[←row_sub (o:=o') fr (by omega)] at hr'
         have g4':h2.get b=some ⟨ver,.cells md 9 bs⟩:=by rw[hf2.old b (by omega) (by omega),ho b g3];exact g4
         have f4':h2.get b'=some ⟨ver',.cells md' 9 bs'⟩:=by rw[hf2.old b' (by omega) (by omega),ho b' f3];exact f4
         have hfo:∀b,b<h.n→h2.get b=h.get b:=fun b hb=>by rw[hf2.old b (by omega) (by omega),ho b hb]
         generalize ks[i]=n1 at hr hk' hcs hsm2
         generalize ms[i]=m1 at hr' hm' hsm2
         have c1:decide ((i:Int)<(ms.length:Int))=true:=decide_eq_true (by omega)
         simp(disch:=(try simp only[hN]);omega)only[go_sem,simprocAttr,k2,k3,k4,k76,k77,q0,q1,Int.toNat_natCast,g4',f4',hr,hr',hk'.flat.1,hk'.flat.2,hm'.flat.1,hm'.flat.2,c1]
         refine ih (by omega) (hk'.keep (Nat.le_refl _) (by omega) fun x hb1 hb2=>hfo x hb2) (hm'.keep (Nat.le_refl _) (by omega) fun x hb1 hb2=>hfo x hb2) ?_
         intro h3 hf3
         have hn3:=hf3.n
         cases hb:n1.sameP true m1 with
         | true=>
          rw[hb,Bool.true_and] at hsm2
          simp(disch:=(try simp only[hN]);omega)only[go_sem,simprocAttr,k2,k3,k4,k76,k77]
          exact ⟨_,hn ▸ Nat.sub_lt_sub_left hil (Nat.lt_succ_self i),i+1,rfl,hil,⟨by omega,fun b hb hne=>by rw[hf3.all (by omega),hf2.old b hb hne]⟩,hsm2,rfl⟩
         | false=>
          rw[hb,Bool.false_and] at hsm2
          simp(disch:=(try simp only[hN]);omega)only[go_sem,simprocAttr]
          rw[hsm2,Bool.and_false] at hQ
          exact hQ _ ⟨by omega,fun b hb _=>by rw[hf3.all (by omega),hfo b hb]⟩
      ·have hil:i=ks.length:=by have:=of_decide_eq_false hlt;omega
       subst hil
       rw[List.drop_length,hl,List.drop_length] at hsm2
       simp(disch:=(try simp only[hN]);omega)only[go_sem,simprocAttr]
       rw[show samePL true ks ms=true from hsm2] at hQ
       exact hQ _ ⟨by omega,fun b hb _=>by rw[hf2.old b (by omega) (by omega),ho b hb]⟩
     ·exact ⟨0,rfl,Nat.zero_le _,Fr.refl _ _,rfl,by simp(disch:=(try simp only[hN]);omega)only[go_sem,simprocAttr],by simp(disch:=(try simp only[hN]);omega)only[go_sem,simprocAttr],by simp(disch:=(try simp only[hN]);omega)only[go_sem,simprocAttr],by simp(disch:=(try simp only[hN]);omega)only[go_sem,simprocAttr],by (first|(simp(disch:=(try simp only[hN]);omega)only[go_sem,simprocAttr];done)|(simp(disch:=(try simp only[hN]);omega)only[go_sem,simprocAttr];rfl)),by simp(disch:=(try simp only[hN]);omega)only[go_sem,simprocAttr]⟩
  ·have el:((ks.length:Int)==(ms.length:Int))=false:=by simp;omega
   simp(disch:=(try simp only[hN]);omega)only[go_sem,simprocAttr,hk.flat.1,hk.flat.2,hm.flat.1,hm.flat.2,bne,e1,e2,e3,e4,e5,e6,e7,el,hk.len,hm.len]
   have hx:samePL pl ks ms=false:=by
    cases hx:samePL pl ks ms with
    | false=>rfl
    | true=>exact absurd (samePL_len hx) hl
   rw[hx,Bool.and_false] at hQ
   exact hQ _ hf
theorem row_at {vs cs:List AV} {o n i:Nat} {x:AV} (h:row vs o n=some cs) (hx:cs[i]?=some x):vs[o+i]?=some x:=by
 have hl:=row_len h
 have hi:i<cs.length:=by
  rcases Nat.lt_or_ge i cs.length with g|g
  ·exact g
  ·rw[List.getElem?_eq_none g] at hx;cases hx
 obtain ⟨h1,rfl⟩:=row_inv h
 rw[List.getElem?_take,if_pos (by omega),List.getElem?_drop] at hx
 exact hx
theorem kids2 {lo:Nat} {h:AHeap} {x y:Nd} {kv:AV} (k:KidsR lo h [x,y] kv):∃b ver o c md ex bs kx ky,kv=.slice b o 2 c ex∧lo≤b∧b<h.n∧h.get b=some ⟨ver,.cells md 9 bs⟩∧row bs o 18=some (ndC x kx++ndC y ky):=by
 cases k with
 | row h1 h0 h2 h3 h4 h5 h6=>
  cases h6 with
  | cons k1 k2=>
   cases k2 with
   | cons k3 k4=>
    cases k4
    rw[List.append_nil] at h5
    exact ⟨_,_,_,_,_,_,_,_,_,rfl,h2,h3,h4,h5⟩
theorem alive06 {h:AHeap} (hG:GH h) {Q:QR} (hQ:∀h',Fr h.n h h'→Q (.ret (.bool true)) h'):WF F 4 [] h Q:=by
 refine WF.code F4 rfl ?_
 simp(disch:=(try simp only[hN]);omega)only[go_sem,simprocAttr]
 refine expr_read (by decide) hG ?_
 rw[alive6a]
 intro h1 kv hf1 hk1
 have hn1:=hf1.n;try simp only[hN] at hn1
 have hG1:=hf1.gh hG.n hG
 obtain ⟨b,ver,o,c,md,ex,bs,kx,ky,rfl,hb1,hb2,hb3,hb4⟩:=kids2 hk1
 have hb5:bs[o+9+2]?=some (.str [42]):=row_at (i:=11) hb4 rfl
 simp(disch:=(try simp only[hN]);omega)only[go_sem,simprocAttr,Nd.kind,Nd.pos,Nd.name,Nd.typ,Nd.n,Nd.size,Nd.obj,Nd.bits]
 have hn0:=hG1.n
 generalize hH:AHeap.upd _ _ _ _=H
 have hHn:H.n=h1.n+2:=by rw[←hH];simp(disch:=(try simp only[hN]);omega)only[go_sem,simprocAttr]
 have hHo:∀b',b'<h1.n→H.get b'=h1.get b':=fun b' hb'=>by rw[←hH];simp(disch:=(try simp only[hN]);omega)only[go_sem,simprocAttr]
 have hHb:H.get b=some ⟨ver,.cells md 9 bs⟩:=by rw[hHo _ hb2];exact hb3
 have hH1:H.get h1.n=some ⟨1,.cells .own 0 [.int .i64 31,.int .i64 0,.str [43],.int .i64 0,.int .i64 0,.int .i64 0,.int .i64 0,.int .u64 0,.slice b o 2 c ex]⟩:=by rw[←hH];simp(disch:=(try simp only[hN]);omega)only[go_sem,simprocAttr]
 have hH2:H.get (h1.n+1)=some ⟨1,.cells .own 0 [.nilIface,.int .i64 0]⟩:=by rw[←hH];simp(disch:=(try simp only[hN]);omega)only[go_sem,simprocAttr]
 have hGH:GH H:=(show Fr h1.n h1 H from ⟨by omega,fun b hb _=>hHo b hb⟩).gh hG1.n hG1
 refine expr_read (by decide) hGH ?_
 rw[alive6b]
 intro h2 hf2
 have hn2:=hf2.n;try simp only[hN] at hn2
 have hG2:=hf2.gh hGH.n hGH
 have q1:=(hf2.all (b:=h1.n) (by omega)).trans hH1
 have q2:=(hf2.all (b:=h1.n+1) (by omega)).trans hH2
 have q3:=(hf2.all (b:=b) (by omega)).trans hHb
 have c1:decide ((1:Int)<((2:Nat):Int))=true:=by decide
 simp(disch:=(try simp only[hN]);omega)only[go_sem,simprocAttr,eqT_nil,q1,q2,q3,c1,hb5]
 have hlt:h1.n+2≤h2.n:=by omega
 generalize hK:AHeap.upd _ _ _ _=K
 have hKn:K.n=h2.n+2:=by rw[←hK];simp(disch:=(try simp only[hN]);omega)only[go_sem,simprocAttr]
 have hKo:∀b',b'<h2.n→K.get b'=h2.get b':=fun b' hb'=>by rw[←hK];simp(disch:=(try simp only[hN]);omega)only[go_sem,simprocAttr]
 have hK2:K.get (h2.n+1)=some ⟨1,.cells .own 0 [errAV 2,.int .i64 3]⟩:=by rw[←hK];simp(disch:=(try simp only[hN]);omega)only[go_sem,simprocAttr]
 have hGK:GH K:=(show Fr h2.n h2 K from ⟨by omega,fun b hb _=>hKo b hb⟩).gh hG2.n hG2
 refine num_spec (e:=2) hGK (by decide) (by decide) ?_
 intro h3 hf3
 have hn3:=hf3.n;try simp only[hN] at hn3
 have q4:=(hf3.all (b:=h2.n+1) (by omega)).trans hK2
 simp(disch:=(try simp only[hN]);omega)only[go_sem,simprocAttr,q4]
 refine hQ _ ⟨by omega,fun b hb _=>?_⟩
 rw[hf3.all (by omega),hKo _ (by omega),hf2.all (by omega),hHo _ (by omega),hf1.all hb]
theorem rread_prog {s:Bs} {h:AHeap} (hlen:s.length<2^61) {Q:QR} (hQ:RReadQ h Q (parseS s)):WF F 6 [.str s,.bool false] h Q:=by
 refine WF.code F6 rfl ?_
 unfold parseS readP at hQ
 simp(disch:=(try simp only[hN]);omega)only[go_sem,simprocAttr]
 refine rtokens_spec hlen ?_ (fun e p he=>tokens_err0 he)
 cases hts:tokens s with
 | error x=>
  obtain ⟨e,p⟩:=x
  rw[hts] at hQ
  have he:=tokens_err0 hts
  intro h1 hf1
  have hn1:=hf1.n;try simp only[hN] at hn1
  have e0:((e:Int) != 0)=true:=by simp;omega
  simp(disch:=(try simp only[hN]);omega)only[go_sem,simprocAttr,e0,hf1.old]
  exact hQ _ ⟨by (try simp only[hN]);omega,fun b hb hne=>by (try simp only[hN] at hb hne);simp(disch:=(try simp only[hN]);omega)only[go_sem,simprocAttr,hf1.old]⟩
 | ok ts=>
  rw[hts] at hQ
  simp only at hQ
  intro h1 v1 hf1 hr1
  have hn1:=hf1.n;try simp only[hN] at hn1
  have hlen1:=hr1.len
  have hfl1:=hr1.flat
  have hts2:=tokens_len hts
  have hs2:s.length≤8192:=by
   unfold tokens at hts
   split at hts
   ·cases hts
   ·omega
  simp(disch:=(try simp only[hN]);omega)only[go_sem,simprocAttr,hlen1,hfl1.1,hfl1.2]
  generalize hH:AHeap.upd _ _ _ _=H
  have hHn:H.n=h1.n+2:=by rw[←hH];simp(disch:=(try simp only[hN]);omega)only[go_sem,simprocAttr]
  have hH0:H.get h.n=some ⟨0,.cells .own 0 zN⟩:=by rw[←hH];simp(disch:=(try simp only[hN]);omega)only[go_sem,simprocAttr,hf1.old]
  have hH1:H.get (h1.n+1)=some ⟨1,.cells .own 0 zN⟩:=by rw[←hH];simp(disch:=(try simp only[hN]);omega)only[go_sem,simprocAttr]
  have hHr:H.get h1.n=some ⟨0,.cells .own 0 [v1,.int .i64 (s.length:Int),.int .i64 0,.int .i64 0,.int .i64 0]⟩:=by rw[←hH];simp(disch:=(try simp only[hN]);omega)only[go_sem,simprocAttr]
  have hHo:∀b',b'<h1.n→H.get b'=h1.get b':=fun b' hb'=>by rw[←hH];simp(disch:=(try simp only[hN]);omega)only[go_sem,simprocAttr]
  have hf:∀b',b'<h.n→H.get b'=h.get b':=fun b' hb'=>by rw[hHo b' (by omega)];simp(disch:=(try simp only[hN]);omega)only[go_sem,simprocAttr,hf1.old]
  clear hH
  have hpH:RInv H h1.n s.length ts 0 0 0:=by
   refine ⟨by omega,Nat.zero_le _,hts2,0,v1,hHr,hlen1,hfl1,?_⟩
   rcases hr1 with ⟨_,⟨h0,rfl⟩|⟨hpos,b,ver,rfl,hb1,hb2,hb3⟩⟩|⟨h0,_,_⟩
   ·exact .inl (List.length_eq_zero_iff.1 h0)
   ·exact .inr ⟨b,ver,_,_,rfl,hb2,by rw[hHo b hb2];exact hb3⟩
   ·exact .inl (List.length_eq_zero_iff.1 h0)
  refine rprog_tok (tokens_mk hts) hpH ?_
  rw[List.drop_zero]
  intro h2 m kv nx e p hf2 hp2 k1 k2 hst hkk
  have hc:(e=0∧p=0∧KidsR H.n h2 m.kids kv∧progP s.length (ts.length+1) 0 ts=.ok (m,ts.drop nx))∨(e≠0∧progP s.length (ts.length+1) 0 ts=.error (e,p)):=by
   rcases hst.1 rfl with ⟨h1,h2,h3⟩|⟨h1,h3⟩
   ·exact .inl ⟨h1,h2,hkk h1,h3⟩
   ·exact .inr ⟨h1,h3⟩
  have hn2:=hf2.n;try simp only[hN] at hn2
  have r0:=(hf2.old h.n (by omega) (by omega)).trans hH0
  have r1:=(hf2.old (h1.n+1) (by omega) (by omega)).trans hH1
  obtain ⟨ver,v,i1,i2,i3,i4⟩:=hp2.st
  rcases hc with ⟨rfl,rfl,hk,hx⟩|⟨he,hx⟩
  ·rw[hx] at hQ
   have e0:((0:Int)==0)=true:=rfl
   have e1:((0:Int) != 0)=false:=rfl
   by_cases hn:nx<ts.length
   ·have hd:=List.drop_eq_getElem_cons hn
    rw[hd] at hQ
    simp only at hQ
    have g1:decide ((nx:Int)<(ts.length:Int))=true:=decide_eq_true (by omega)
    simp(disch:=(try simp only[hN]);omega)only[go_sem,simprocAttr,i1,r1,k1,k2,e0,Int.natCast_zero,hlen1,g1]
    refine fail_tok (k:=2) (show RInv _ h1.n s.length ts nx 0 0 from hp2.le (by simp(disch:=(try simp only[hN]);omega)only[go_sem,simprocAttr];exact Nat.le_refl _) fun b hb=>by simp(disch:=(try simp only[hN]);omega)only[go_sem,simprocAttr]) ?_
    rw[if_pos rfl,if_pos rfl,hd]
    intro h3 hf3 hp3
    have hn3:=hf3.n;try simp only[hN] at hn3
    obtain ⟨ver3,v3,l1,l2,l3,l4⟩:=hp3.st
    have e2:((2:Int) != 0)=true:=rfl
    have d1:decide (h1.n=h.n)=false:=decide_eq_false (by omega)
    simp(disch:=(try simp only[hN]);omega)only[go_sem,simprocAttr,l1,e2,hf3.old,r0,d1]
    exact hQ _ ⟨by (try simp only[hN]);omega,fun b hb hne=>by (try simp only[hN] at hb hne);simp(disch:=(try simp only[hN]);omega)only[go_sem,simprocAttr,hf3.old,hf2.old,hf]⟩
   ·have hd:ts.drop nx=[]:=List.drop_of_length_le (by omega)
    rw[hd] at hQ
    simp only at hQ
    have g1:decide ((nx:Int)<(ts.length:Int))=false:=decide_eq_false (by omega)
    simp(disch:=(try simp only[hN]);omega)only[go_sem,simprocAttr,i1,r1,r0,k1,k2,e0,e1,Int.natCast_zero,hlen1,g1]
    exact hQ _ kv ⟨by (try simp only[hN]);omega,fun b hb hne=>by (try simp only[hN] at hb hne);simp(disch:=(try simp only[hN]);omega)only[go_sem,simprocAttr,hf2.old,hf]⟩ (hk.keep (by omega) (by simp only[hN];omega) fun b hb1 hb2=>by simp(disch:=(try simp only[hN]);omega)only[go_sem,simprocAttr])
  ·rw[hx] at hQ
   have e0:((e:Int)==0)=false:=by simp;omega
   have e1:((e:Int) != 0)=true:=by simp;omega
   have d1:decide (h1.n=h.n)=false:=decide_eq_false (by omega)
   simp(disch:=(try simp only[hN]);omega)only[go_sem,simprocAttr,i1,r1,r0,k1,k2,e0,e1,d1]
   exact hQ _ ⟨by (try simp only[hN]);omega,fun b hb hne=>by (try simp only[hN] at hb hne);simp(disch:=(try simp only[hN]);omega)only[go_sem,simprocAttr,hf2.old,hf]⟩
def zNd:Nd:=.mk 0 0 [] 0 0 0 0 0 []
theorem parses_law {s:Bs} {h:AHeap} (hG:GH h) (hlen:s.length<2^61):WF F 3 [.str s] h (fun r _=>r=.ret (.bool true)):=by
 refine WF.code F3 rfl ?_
 simp(disch:=(try simp only[hN]);omega)only[go_sem,simprocAttr]
 refine alive06 hG ?_
 intro h1 hf1
 have hn1:=hf1.n;try simp only[hN] at hn1
 have hG1:=hf1.gh hG.n hG
 simp(disch:=(try simp only[hN]);omega)only[go_sem,simprocAttr]
 refine parse_read (s:=s) (by omega) hG1 ?_
 cases hx:parseS s with
 | error x=>
  obtain ⟨e,p⟩:=x
  intro h2 hf2
  have hn2:=hf2.n;try simp only[hN] at hn2
  have hG2:=hf2.gh hG1.n hG1
  simp(disch:=(try simp only[hN]);omega)only[go_sem,simprocAttr]
  generalize hH:AHeap.upd _ _ _ _=H
  have hHn:H.n=h2.n+2:=by rw[←hH];simp(disch:=(try simp only[hN]);omega)only[go_sem,simprocAttr]
  have hH0:H.get h2.n=some ⟨1,.cells .own 0 zN⟩:=by rw[←hH];simp(disch:=(try simp only[hN]);omega)only[go_sem,simprocAttr]
  have hH1:H.get (h2.n+1)=some ⟨1,.cells .own 0 [errAV e,.int .i64 (p:Int)]⟩:=by rw[←hH];simp(disch:=(try simp only[hN]);omega)only[go_sem,simprocAttr]
  have hHG:GH H:=(show Fr h2.n h2 H from ⟨by omega,fun b hb _=>by rw[←hH];simp(disch:=(try simp only[hN]);omega)only[go_sem,simprocAttr]⟩).gh hG2.n hG2
  clear hH
  refine rread_prog hlen ?_
  rw[hx]
  intro h3 hf3
  have hn3:=hf3.n;try simp only[hN] at hn3
  have hG3:=hf3.gh hHG.n hHG
  have r0:=(hf3.all (b:=h2.n) (by omega)).trans hH0
  have r1:=(hf3.all (b:=h2.n+1) (by omega)).trans hH1
  simp(disch:=(try simp only[hN]);omega)only[go_sem,simprocAttr,r1]
  generalize hI:AHeap.upd _ _ _ _=I
  have hIn:I.n=h3.n+1:=by rw[←hI];simp(disch:=(try simp only[hN]);omega)only[go_sem,simprocAttr]
  have i0:I.get h2.n=some ⟨1,.cells .own 0 zN⟩:=by rw[←hI];simp(disch:=(try simp only[hN]);omega)only[go_sem,simprocAttr,r0]
  have i1:I.get (h2.n+1)=some ⟨1,.cells .own 0 [errAV e,.int .i64 (p:Int)]⟩:=by rw[←hI];simp(disch:=(try simp only[hN]);omega)only[go_sem,simprocAttr,r1]
  have i2:I.get h3.n=some ⟨1,.cells .own 0 zN⟩:=by rw[←hI];simp(disch:=(try simp only[hN]);omega)only[go_sem,simprocAttr]
  have hIG:GH I:=(show Fr h3.n h3 I from ⟨by omega,fun b hb _=>by rw[←hI];simp(disch:=(try simp only[hN]);omega)only[go_sem,simprocAttr]⟩).gh hG3.n hG3
  clear hI
  obtain ⟨⟨e1,e2⟩,_⟩:=parse_errp hx
  refine num_spec hIG e1 e2 ?_
  intro h4 hf4
  have hn4:=hf4.n;try simp only[hN] at hn4
  have j0:=(hf4.all (b:=h2.n) (by omega)).trans i0
  have j1:=(hf4.all (b:=h2.n+1) (by omega)).trans i1
  have j2:=(hf4.all (b:=h3.n) (by omega)).trans i2
  simp(disch:=(try simp only[hN]);omega)only[go_sem,simprocAttr,j0,j1,j2]
  refine rsame_spec true 1 (n:=zNd) (m:=zNd) (lo:=0) (by decide) .nil .nil ?_
  intro h5 hf5
  have hn5:=hf5.n;try simp only[hN] at hn5
  rw[sameP_refl]
  simp(disch:=(try simp only[hN]);omega)only[go_sem,simprocAttr]
 | ok n=>
  intro h2 kv hf2 hk2
  have hn2:=hf2.n;try simp only[hN] at hn2
  have hG2:=hf2.gh hG1.n hG1
  simp(disch:=(try simp only[hN]);omega)only[go_sem,simprocAttr,hk2.flat.1,hk2.flat.2]
  generalize hH:AHeap.upd _ _ _ _=H
  have hHn:H.n=h2.n+2:=by rw[←hH];simp(disch:=(try simp only[hN]);omega)only[go_sem,simprocAttr]
  have hH0:H.get h2.n=some ⟨1,.cells .own 0 (ndC n kv)⟩:=by rw[←hH];simp(disch:=(try simp only[hN]);omega)only[go_sem,simprocAttr]
  have hH1:H.get (h2.n+1)=some ⟨1,.cells .own 0 [.nilIface,.int .i64 0]⟩:=by rw[←hH];simp(disch:=(try simp only[hN]);omega)only[go_sem,simprocAttr]
  have hHG:GH H:=(show Fr h2.n h2 H from ⟨by omega,fun b hb _=>by rw[←hH];simp(disch:=(try simp only[hN]);omega)only[go_sem,simprocAttr]⟩).gh hG2.n hG2
  have hk:KidsR 0 H n.kids kv:=hk2.keep (Nat.zero_le _) (by omega) fun b hb1 hb2=>by rw[←hH];simp(disch:=(try simp only[hN]);omega)only[go_sem,simprocAttr]
  clear hH
  refine rread_prog hlen ?_
  rw[hx]
  intro h3 kw hf3 hk3
  have hn3:=hf3.n;try simp only[hN] at hn3
  have hG3:=hf3.gh hHG.n hHG
  have r0:=(hf3.all (b:=h2.n) (by omega)).trans hH0
  have r1:=(hf3.all (b:=h2.n+1) (by omega)).trans hH1
  simp(disch:=(try simp only[hN]);omega)only[go_sem,simprocAttr,r1,hk3.flat.1,hk3.flat.2]
  generalize hI:AHeap.upd _ _ _ _=I
  have hIn:I.n=h3.n+1:=by rw[←hI];simp(disch:=(try simp only[hN]);omega)only[go_sem,simprocAttr]
  have i0:I.get h2.n=some ⟨1,.cells .own 0 (ndC n kv)⟩:=by rw[←hI];simp(disch:=(try simp only[hN]);omega)only[go_sem,simprocAttr,r0]
  have i1:I.get (h2.n+1)=some ⟨1,.cells .own 0 [.nilIface,.int .i64 0]⟩:=by rw[←hI];simp(disch:=(try simp only[hN]);omega)only[go_sem,simprocAttr,r1]
  have i2:I.get h3.n=some ⟨1,.cells .own 0 (ndC n kw)⟩:=by rw[←hI];simp(disch:=(try simp only[hN]);omega)only[go_sem,simprocAttr]
  have ka:KidsR 0 I n.kids kv:=hk.keep (Nat.zero_le _) (by omega) fun b hb1 hb2=>by rw[←hI];simp(disch:=(try simp only[hN]);omega)only[go_sem,simprocAttr,hf3.old]
  have kb:KidsR 0 I n.kids kw:=hk3.keep (Nat.zero_le _) (by omega) fun b hb1 hb2=>by rw[←hI];simp(disch:=(try simp only[hN]);omega)only[go_sem,simprocAttr]
  clear hI
  refine num_nil ?_
  simp(disch:=(try simp only[hN]);omega)only[go_sem,simprocAttr,i0,i1,i2,ka.flat.1,ka.flat.2,kb.flat.1,kb.flat.2]
  refine rsame_spec true n.count (Nat.le_refl _) ka kb ?_
  intro h5 hf5
  have hn5:=hf5.n;try simp only[hN] at hn5
  rw[sameP_refl]
  simp(disch:=(try simp only[hN]);omega)only[go_sem,simprocAttr]
end Go.Ev
