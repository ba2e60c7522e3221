/- Part of the proof that the laws answer true for every input. -/
import Derived.Test.YtaijafjfafbcfaaGreatPXb04
set_option linter.unusedSimpArgs false
set_option linter.unnecessarySimpa false
set_option linter.unusedVariables false
set_option maxRecDepth 100000
set_option maxHeartbeats 40000000
namespace Go.Proofs.YtaijafjfafbcfaaGreat
open Go.RowKit
def idxP {α:Type} (p:α→Bool) (l:List α):Int:=if l.any p=true then (l.findIdx p:Int) else -1
theorem idxP_none {α:Type} {p:α→Bool} {l:List α} (h:∀j (hj:j<l.length),p l[j]=false):idxP p l= -1:=by
 unfold idxP
 rw[if_neg]
 intro e
 obtain ⟨x,hx,hp⟩:=List.any_eq_true.1 e
 obtain ⟨j,hj,rfl⟩:=List.getElem_of_mem hx
 rw[h j hj]at hp
 cases hp
theorem idxP_hit {α:Type} {p:α→Bool} {l:List α} {k:Nat} (hk:k<l.length) (h:∀j (hj:j<k),p (l[j]'(by omega))=false) (h2:p l[k]=true):idxP p l=k:=by
 unfold idxP
 rw[if_pos (List.any_eq_true.2 ⟨l[k],List.getElem_mem hk,h2⟩)]
 congr 1
 exact (List.findIdx_eq hk).2 ⟨h2,fun j hj=>h j hj⟩
theorem idxP_any {α:Type} {p:α→Bool} {l:List α}:0≤idxP p l↔l.any p=true:=by
 unfold idxP
 split
 ·rename_i h;exact ⟨fun _=>h,fun _=>by omega⟩
 ·rename_i h;exact ⟨fun h=>absurd h (by omega),fun e=>absurd e h⟩
theorem any_no {α:Type} {p:α→Bool} {l:List α} (h:∀j (hj:j<l.length),p l[j]=false):l.any p=false:=by
 cases e:l.any p with
 | false=>rfl
 | true=>
  obtain ⟨x,hx,hp⟩:=List.any_eq_true.1 e
  obtain ⟨j,hj,rfl⟩:=List.getElem_of_mem hx
  rw[h j hj]at hp
  cases hp
theorem any_yes {α:Type} {p:α→Bool} {l:List α} {k:Nat} (hk:k<l.length) (h:p l[k]=true):l.any p=true:=List.any_eq_true.2 ⟨_,List.getElem_mem hk,h⟩
theorem ints1_index {S:Nat→Prop} {w:World} {va:Value} {l:List Int} (ha:Ints S w va l) {g:Nat} {c0:Value} (p:Int→Bool)
  (eg:∀args w,(callFunc g args).run Tryz.prog w=.ok (.enter g args) w)
  (hp:∀W,QW w W→∀k,(hk:k<l.length)→Calls Tryz.prog g #[.int .i64 (nth l k),c0] W (QuietP W (.bool (p l[k])))):
  Calls Tryz.prog 149 #[va,.func (.func g) #[] #[c0]] w (QuietP w (.int .i64 (idxP p l))):=by
 obtain ⟨a,cap,rfl,ad,l1,lm⟩:=ha.form
 unfold maxLen at lm
 obtain ⟨i0,hi,hz0,hz1,hz2⟩:=info_parts info_int
 have HQA:=Lib.hid (idx_one Tryz.underlying44 hi hz1 ad)
 have HC:=Lib.hid (show∀j,j<l.length→w.cell? (adr a j)=some (.int .i64 (nth l j)) from by obtain ⟨_,_,e,_,_,_,hc,_⟩:=ha;simp only[Value.slice.injEq]at e;obtain ⟨rfl,_,_⟩:=e;exact hc)
 have HP:=Lib.hid (fun W hW k hk=>(hp W hW k hk).mono fun _ _ h=>h.take)
 clear hi hz0 hz1 hz2 ha hp
 go_enter Tryz.func149,Tryz.ntmps149
 go_wp2
 go_loopw [8] (fun i wr=>∃k:Nat,k≤l.length∧i=.int .i64 k∧QW w wr∧Hid (∀j (hj:j<l.length),j<k→p l[j]=false)) (fun i _=>l.length - (intOf i).toNat)
 case atStart=>exact ⟨0,Nat.zero_le _,rfl,.refl _,Lib.hid fun j _ hj=>absurd hj (by omega)⟩
 case round=>
  obtain ⟨k,hk,rfl,hQ,hB⟩:=hrel
  by_cases hlt:k<l.length
  ·have q:=HQA.out k hlt
   have cu:=cells_at ad hQ.ext HC.out k hlt
   obtain ⟨x,hx⟩:∃x,x=nth l k:=⟨_,rfl⟩
   rw[←hx]at cu
   have KP:=Lib.hid (HP.out wr hQ k hlt)
   rw[←hx]at KP
   clear hx
   obtain ⟨b,hb⟩:∃b,b=p l[k]:=⟨_,rfl⟩
   rw[←hb]at KP
   have HBB:=Lib.hid hb
   clear hb
   go_wp2_with fail
   refine KP.out.mono ?_
   rintro _ w2 ⟨_,rfl,hq2,rfl⟩
   have hQ2:=hQ.trans hq2
   clear KP hQ hq2 cu
   cases b with
   | true=>
    have HR:=Lib.hid (idxP_hit hlt (fun j hj=>hB.out j _ hj) HBB.out.symm)
    clear hB
    go_wp2
    go_ret
    exact .fin (int_eq HR.out.symm) hQ2
   | false=>
    have HN:Hid (∀j (hj:j<l.length),j<k+1→p l[j]=false):=Lib.hid fun j hl hj=>by
     by_cases e:j=k
     ·subst e;exact HBB.out.symm
     ·exact hB.out j hl (by omega)
    clear hB
    go_wp2
    go_roundw
    case rel=>exact ⟨k+1,by omega,by go_num,hQ2,HN⟩
    case measure=>simp[intOf];omega
  ·obtain rfl:k=l.length:=by omega
   have HR:=Lib.hid (idxP_none fun j hj=>hB.out j hj hj)
   clear hB
   go_wp2
   go_ret
   exact .fin (int_eq HR.out.symm) hQ
theorem ints1_contains {S:Nat→Prop} {w:World} {va:Value} {l:List Int} (ha:Ints S w va l) {g:Nat} {c0:Value} (p:Int→Bool)
  (eg:∀args w,(callFunc g args).run Tryz.prog w=.ok (.enter g args) w)
  (hp:∀W,QW w W→∀k,(hk:k<l.length)→Calls Tryz.prog g #[.int .i64 (nth l k),c0] W (QuietP W (.bool (p l[k])))):
  Calls Tryz.prog 139 #[va,.func (.func g) #[] #[c0]] w (QuietP w (.bool (l.any p))):=by
 have K:=Lib.hid ((ints1_index ha p eg hp).mono fun _ _ h=>h.take)
 have HI:=Lib.hid (idxP_any (p:=p) (l:=l))
 obtain ⟨a,cap,rfl,_⟩:=ha.form
 clear hp ha eg
 obtain ⟨x,hx⟩:∃x,x=idxP p l:=⟨_,rfl⟩
 obtain ⟨b,hb⟩:∃b,b=l.any p:=⟨_,rfl⟩
 rw[←hx]at K HI
 rw[←hb]at HI ⊢
 clear hx hb
 go_enter Tryz.func139,Tryz.ntmps139
 go_wp2_with fail
 refine K.out.mono ?_
 rintro _ w2 ⟨_,rfl,hq2,rfl⟩
 clear K
 cases b with
 | true=>
  have h0:0≤x:=HI.out.2 rfl
  go_wp2
  go_ret
  exact .fin (by simp[h0]) hq2
 | false=>
  have h0:¬0≤x:=fun h=>by cases HI.out.1 h
  go_wp2
  go_ret
  exact .fin (by simp[h0]) hq2
theorem rows1_index {S:Nat→Prop} {w:World} {va:Value} {l:List (List Int)} (ha:Lists S w va l) {g:Nat} {c0:Value} (p:List Int→Bool)
  (eg:∀args w,(callFunc g args).run Tryz.prog w=.ok (.enter g args) w)
  (hp:∀W,QW w W→∀k,(hk:k<l.length)→∀u,Ints S W u (nthL l k)→Calls Tryz.prog g #[u,c0] W (QuietP W (.bool (p l[k])))):
  Calls Tryz.prog 158 #[va,.func (.func g) #[] #[c0]] w (QuietP w (.int .i64 (idxP p l))):=by
 obtain ⟨a,cap,rfl,ad,l1,lm⟩:=ha.form
 unfold maxLen at lm
 obtain ⟨i0,hi,hz0,hz1,hz2⟩:=info_parts info_ints
 have HQA:=Lib.hid (idx_one Tryz.underlying79 hi hz1 ad)
 have HA:=Lib.hid ha
 have HP:=Lib.hid (fun W hW k hk u hu=>(hp W hW k hk u hu).mono fun _ _ h=>h.take)
 clear hi hz0 hz1 hz2 ha hp
 go_enter Tryz.func158,Tryz.ntmps158
 go_wp2
 go_loopw [8] (fun i wr=>∃k:Nat,k≤l.length∧i=.int .i64 k∧QW w wr∧Hid (∀j (hj:j<l.length),j<k→p l[j]=false)) (fun i _=>l.length - (intOf i).toNat)
 case atStart=>exact ⟨0,Nat.zero_le _,rfl,.refl _,Lib.hid fun j _ hj=>absurd hj (by omega)⟩
 case round=>
  obtain ⟨k,hk,rfl,hQ,hB⟩:=hrel
  by_cases hlt:k<l.length
  ·have q:=HQA.out k hlt
   obtain ⟨u,cu,iu⟩:=HA.out.at hQ.ext hlt
   have KP:=Lib.hid (HP.out wr hQ k hlt u iu)
   clear iu
   obtain ⟨b,hb⟩:∃b,b=p l[k]:=⟨_,rfl⟩
   rw[←hb]at KP
   have HBB:=Lib.hid hb
   clear hb
   go_wp2_with fail
   refine KP.out.mono ?_
   rintro _ w2 ⟨_,rfl,hq2,rfl⟩
   have hQ2:=hQ.trans hq2
   clear KP hQ hq2 cu
   cases b with
   | true=>
    have HR:=Lib.hid (idxP_hit hlt (fun j hj=>hB.out j _ hj) HBB.out.symm)
    clear hB
    go_wp2
    go_ret
    exact .fin (int_eq HR.out.symm) hQ2
   | false=>
    have HN:Hid (∀j (hj:j<l.length),j<k+1→p l[j]=false):=Lib.hid fun j hl hj=>by
     by_cases e:j=k
     ·subst e;exact HBB.out.symm
     ·exact hB.out j hl (by omega)
    clear hB
    go_wp2
    go_roundw
    case rel=>exact ⟨k+1,by omega,by go_num,hQ2,HN⟩
    case measure=>simp[intOf];omega
  ·obtain rfl:k=l.length:=by omega
   have HR:=Lib.hid (idxP_none fun j hj=>hB.out j hj hj)
   clear hB
   go_wp2
   go_ret
   exact .fin (int_eq HR.out.symm) hQ
theorem rows1_contains {S:Nat→Prop} {w:World} {va:Value} {l:List (List Int)} (ha:Lists S w va l) {g:Nat} {c0:Value} (p:List Int→Bool)
  (eg:∀args w,(callFunc g args).run Tryz.prog w=.ok (.enter g args) w)
  (hp:∀W,QW w W→∀k,(hk:k<l.length)→∀u,Ints S W u (nthL l k)→Calls Tryz.prog g #[u,c0] W (QuietP W (.bool (p l[k])))):
  Calls Tryz.prog 151 #[va,.func (.func g) #[] #[c0]] w (QuietP w (.bool (l.any p))):=by
 have K:=Lib.hid ((rows1_index ha p eg hp).mono fun _ _ h=>h.take)
 have HI:=Lib.hid (idxP_any (p:=p) (l:=l))
 obtain ⟨a,cap,rfl,_⟩:=ha.form
 clear hp ha eg
 obtain ⟨x,hx⟩:∃x,x=idxP p l:=⟨_,rfl⟩
 obtain ⟨b,hb⟩:∃b,b=l.any p:=⟨_,rfl⟩
 rw[←hx]at K HI
 rw[←hb]at HI ⊢
 clear hx hb
 go_enter Tryz.func151,Tryz.ntmps151
 go_wp2_with fail
 refine K.out.mono ?_
 rintro _ w2 ⟨_,rfl,hq2,rfl⟩
 clear K
 cases b with
 | true=>
  have h0:0≤x:=HI.out.2 rfl
  go_wp2
  go_ret
  exact .fin (by simp[h0]) hq2
 | false=>
  have h0:¬0≤x:=fun h=>by cases HI.out.1 h
  go_wp2
  go_ret
  exact .fin (by simp[h0]) hq2
def badV (most x:Int):Bool:=decide (x<0)||decide (most≤x)
theorem vecE_len {v:List Int} {n most:Int} (h:(v.length:Int)≠n):vecE v n most=15:=by unfold vecE;rw[if_neg h]
theorem vecE_eq {v:List Int} {n most:Int} (h:(v.length:Int)=n):vecE v n most=if v.any (badV most) then 2 else 0:=by unfold vecE;rw[if_pos h];rfl
theorem vector1_q (w:World) (b:Nat) (x most:Int) (hc:w.cell? ⟨b,0,none⟩=some (.int .i64 most)):Calls Tryz.prog 140 #[.int .i64 x,.pointer (some ⟨b,0,none⟩)] w (QuietP w (.bool (badV most x))):=by
 unfold badV
 by_cases h0:x<0
 ·rw[decide_eq_true h0,Bool.true_or]
  go_enter Tryz.func140,Tryz.ntmps140
  go_wp2
  go_ret
  exact .same
 by_cases h1:most≤x
 ·rw[decide_eq_false h0,decide_eq_true h1,Bool.or_true]
  go_enter Tryz.func140,Tryz.ntmps140
  go_wp2
  go_ret
  exact .same
 ·rw[decide_eq_false h0,decide_eq_false h1,Bool.or_false]
  go_enter Tryz.func140,Tryz.ntmps140
  go_wp2
  go_ret
  exact .same
theorem tvector_calls {S:Nat→Prop} {w:World} {v:Value} {l:List Int} (h:Ints S w v l) (n most:Int):
  Calls Tryz.prog 129 #[v,.int .i64 n,.int .i64 most] w (Post w fun _ r=>r=.int .i64 (vecE l n most)):=by
 have ex:=ext_alloc w (.cells #[.int .i64 most] 3)
 have R:Row (w.alloc (.cells #[.int .i64 most] 3)) w.heap.size 3 [.int .i64 most]:=row_new w [.int .i64 most] _
 have K:=Lib.hid (ints1_contains (h.ext ex) (g:=140) (c0:=.pointer (some ⟨w.heap.size,0,none⟩)) (badV most) (by intro args w;rfl) fun W hW k hk=>by
  rw[←nth_eq hk]
  exact vector1_q W _ _ most ((R.ext hW.ext).cell rfl))
 obtain ⟨a,c,rfl,_⟩:=h.form
 clear h R
 by_cases hl:(l.length:Int)=n
 ·rw[vecE_eq hl]
  have e:((l.length:Int) !=n)=false:=by simp[hl]
  obtain ⟨b,hb⟩:∃b,b=l.any (badV most):=⟨_,rfl⟩
  rw[←hb]at K ⊢
  clear hl hb
  cases b with
  | true=>
   go_enter Tryz.func129,Tryz.ntmps129
   go_wp2_with fail
   refine (K.out.mono fun _ _ h=>h.take).mono ?_
   rintro _ w2 ⟨_,rfl,hq2,rfl⟩
   go_wp2
   go_ret
   exact .mk (ext_trans ex hq2.ext) rfl
  | false=>
   go_enter Tryz.func129,Tryz.ntmps129
   go_wp2_with fail
   refine (K.out.mono fun _ _ h=>h.take).mono ?_
   rintro _ w2 ⟨_,rfl,hq2,rfl⟩
   go_wp2
   go_ret
   exact .mk (ext_trans ex hq2.ext) rfl
 ·rw[vecE_len hl]
  have e:((l.length:Int) !=n)=true:=by simpa using hl
  clear hl K
  go_enter Tryz.func129,Tryz.ntmps129
  go_wp2
  go_ret
  exact .mk ex rfl
theorem rvector_q {S:Nat→Prop} {w:World} {v:Value} {l:List Int} (h:Ints S w v l) (n most:Int):
  Calls Tryz.prog 121 #[v,.int .i64 n,.int .i64 most] w (QuietP w (.int .i64 (vecE l n most))):=by
 obtain ⟨a,c,rfl,hm,Q,C⟩:=one_at h
 clear h
 by_cases hl:(l.length:Int)=n
 ·rw[vecE_eq hl]
  obtain ⟨r,hr⟩:∃r:Int,r=if l.any (badV most) then 2 else 0:=⟨_,rfl⟩
  rw[←hr]
  have HRR:=Lib.hid hr
  have e:((l.length:Int) !=n)=false:=by simp[hl]
  have HN:=Lib.hid hl
  clear hl hr
  go_enter Tryz.func121,Tryz.ntmps121
  go_wp2
  go_loopw [7] (fun i wr=>∃k:Nat,k≤l.length∧i=.int .i64 k∧QW w wr∧Hid (∀j (hj:j<l.length),j<k→badV most l[j]=false)) (fun i _=>l.length - (intOf i).toNat)
  case atStart=>exact ⟨0,Nat.zero_le _,rfl,.refl _,Lib.hid fun j _ hj=>absurd hj (by omega)⟩
  case round=>
   obtain ⟨k,hk,rfl,hQ,hB⟩:=hrel
   have hn1:(l.length:Int)≤n:=by have:=HN.out;omega
   have hn2:n≤(l.length:Int):=by have:=HN.out;omega
   by_cases hlt:k<l.length
   ·have q:=Q.out k hlt
    have p:=cell_ext (C.out k hlt) hQ.ext
    obtain ⟨x,hx⟩:∃x,x=nth l k:=⟨_,rfl⟩
    rw[←hx]at p
    have HX:Hid (badV most l[k]=badV most x):=Lib.hid (by rw[hx,nth_eq hlt])
    clear hx
    by_cases h0:x<0
    ·have HR:Hid (r=2):=Lib.hid (by rw[HRR.out,any_yes hlt (by rw[HX.out];simp[badV,h0])];rfl)
     go_wp2
     go_ret
     exact .fin (int_eq HR.out.symm) hQ
    by_cases h1:most≤x
    ·have HR:Hid (r=2):=Lib.hid (by rw[HRR.out,any_yes hlt (by rw[HX.out];simp[badV,h1])];rfl)
     go_wp2
     go_ret
     exact .fin (int_eq HR.out.symm) hQ
    ·have HN:Hid (∀j (hj:j<l.length),j<k+1→badV most l[j]=false):=Lib.hid fun j hl hj=>by
      by_cases e:j=k
      ·subst e;rw[HX.out];simp[badV];omega
      ·exact hB.out j hl (by omega)
     go_wp2
     go_roundw
     case rel=>exact ⟨k+1,by omega,by go_num,hQ,HN⟩
     case measure=>simp[intOf];omega
   ·obtain rfl:k=l.length:=by omega
    have HR:Hid (r=0):=Lib.hid (by rw[HRR.out,any_no fun j hj=>hB.out j hj hj];rfl)
    go_wp2
    go_ret
    exact .fin (int_eq HR.out.symm) hQ
 ·rw[vecE_len hl]
  have e:((l.length:Int) !=n)=true:=by simpa using hl
  clear hl
  go_enter Tryz.func121,Tryz.ntmps121
  go_wp2
  go_ret
  exact .same
theorem mem_any {l:List (List Int)} {v:List Int}:l.any (fun x=>decide (ordL x v=0))=decide (v∈l):=by
 rw[Bool.eq_iff_iff,List.any_eq_true,decide_eq_true_eq]
 constructor
 ·rintro ⟨x,hx,h⟩
  have:=ordL_zero.1 (of_decide_eq_true h)
  exact this▸hx
 ·intro h;exact ⟨v,h,decide_eq_true (ordL_zero.2 rfl)⟩
theorem mem_any2 {l:List (List Int)} {v:List Int}:l.any (fun x=>decide (x=v))=decide (v∈l):=by
 rw[Bool.eq_iff_iff,List.any_eq_true,decide_eq_true_eq]
 constructor
 ·rintro ⟨x,hx,h⟩
  have:=of_decide_eq_true h
  exact this▸hx
 ·intro h;exact ⟨v,h,decide_eq_true rfl⟩
theorem rhas_q {S S':Nat→Prop} {w:World} {v u:Value} {l:List (List Int)} {x:List Int} (h:Lists S w v l) (hx:Ints S' w u x):
  Calls Tryz.prog 123 #[v,u] w (QuietP w (.bool (decide (x∈l)))):=by
 rw[←mem_any]
 obtain ⟨a,cap,rfl,ad,l1,lm⟩:=h.form
 unfold maxLen at lm
 obtain ⟨i0,hi,hz0,hz1,hz2⟩:=info_parts info_ints
 have HQA:=Lib.hid (idx_one Tryz.underlying79 hi hz1 ad)
 have HA:=Lib.hid h
 have HX:=Lib.hid hx
 clear hi hz0 hz1 hz2 h hx
 go_enter Tryz.func123,Tryz.ntmps123
 go_wp2
 go_loopw [5] (fun i wr=>∃k:Nat,k≤l.length∧i=.int .i64 k∧QW w wr∧Hid (∀j (hj:j<l.length),j<k→decide (ordL l[j] x=0)=false)) (fun i _=>l.length - (intOf i).toNat)
 case atStart=>exact ⟨0,Nat.zero_le _,rfl,.refl _,Lib.hid fun j _ hj=>absurd hj (by omega)⟩
 case round=>
  obtain ⟨k,hk,rfl,hQ,hB⟩:=hrel
  by_cases hlt:k<l.length
  ·have q:=HQA.out k hlt
   obtain ⟨u1,cu,iu⟩:=HA.out.at hQ.ext hlt
   rw[nthL_eq hlt]at iu
   have KP:=Lib.hid ((order_q iu (HX.out.ext hQ.ext)).mono fun _ _ h=>h.take)
   clear iu
   obtain ⟨b,hb⟩:∃b,b=ordL l[k] x:=⟨_,rfl⟩
   rw[←hb]at KP
   have HBB:=Lib.hid hb
   clear hb
   go_wp2_with fail
   refine KP.out.mono ?_
   rintro _ w2 ⟨_,rfl,hq2,rfl⟩
   have hQ2:=hQ.trans hq2
   clear KP hQ hq2 cu
   by_cases h0:b=0
   ·have HR:=Lib.hid (any_yes (p:=fun y=>decide (ordL y x=0)) hlt (by simp[←HBB.out,h0]))
    subst h0
    clear hB
    go_wp2
    go_ret
    exact .fin (bool_eq HR.out.symm) hQ2
   ·have HN:Hid (∀j (hj:j<l.length),j<k+1→decide (ordL l[j] x=0)=false):=Lib.hid fun j hl hj=>by
     by_cases e:j=k
     ·subst e;rw[←HBB.out];exact decide_eq_false h0
     ·exact hB.out j hl (by omega)
    have e0:(b==0)=false:=by simp[h0]
    clear hB h0
    go_wp2
    go_roundw
    case rel=>exact ⟨k+1,by omega,by go_num,hQ2,HN⟩
    case measure=>simp[intOf];omega
  ·obtain rfl:k=l.length:=by omega
   have HR:=Lib.hid (any_no (p:=fun y=>decide (ordL y x=0)) fun j hj=>hB.out j hj hj)
   clear hB
   go_wp2
   go_ret
   exact .fin (bool_eq HR.out.symm) hQ
theorem has1_q {S S':Nat→Prop} {w:World} {u v:Value} {x y:List Int} (hu:Ints S w u x) (hv:Ints S' w v y) {b:Nat} (hc:w.cell? ⟨b,0,none⟩=some v):Calls Tryz.prog 152 #[u,.pointer (some ⟨b,0,none⟩)] w (QuietP w (.bool (decide (x=y)))):=by
 have K:=Lib.hid ((equal_quiet hu hv).mono fun _ _ h=>h.take)
 obtain ⟨a1,c1,rfl,_⟩:=hu.form
 obtain ⟨a2,c2,rfl,_⟩:=hv.form
 clear hu hv
 go_enter Tryz.func152,Tryz.ntmps152
 go_wp2_with fail
 refine K.out.mono ?_
 rintro _ w2 ⟨_,rfl,hq2,rfl⟩
 go_wp2
 go_ret
 exact .fin rfl hq2
theorem thas_calls {S S':Nat→Prop} {w:World} {v u:Value} {l:List (List Int)} {x:List Int} (h:Lists S w v l) (hx:Ints S' w u x):
  Calls Tryz.prog 143 #[v,u] w (Post w fun _ r=>r=.bool (decide (x∈l))):=by
 rw[←mem_any2]
 have ex:=ext_alloc w (.cells #[u] 44)
 have R:Row (w.alloc (.cells #[u] 44)) w.heap.size 44 [u]:=row_new w [u] _
 have hx1:=hx.ext ex
 have K:=Lib.hid ((rows1_contains (h.ext ex) (g:=152) (c0:=.pointer (some ⟨w.heap.size,0,none⟩)) (fun y=>decide (y=x)) (by intro args w;rfl) fun W hW k hk u1 hu1=>by
  rw[←nthL_eq hk]
  exact has1_q hu1 (hx1.ext hW.ext) ((R.ext hW.ext).cell rfl)).mono fun _ _ h=>h.take)
 obtain ⟨a,c,rfl,_⟩:=h.form
 obtain ⟨a2,c2,rfl,_⟩:=hx.form
 clear h hx hx1 R
 go_enter Tryz.func143,Tryz.ntmps143
 go_wp2_with fail
 refine K.out.mono ?_
 rintro _ w2 ⟨_,rfl,hq2,rfl⟩
 go_wp2
 go_ret
 exact .mk (ext_trans ex hq2.ext) rfl
theorem unordered_q {S:Nat→Prop} {w:World} {v:Value} {l:List (List Int)} (h:Lists S w v l) {k:Nat} (hk:k<l.length):
  Calls Tryz.prog 142 #[v,.int .i64 k] w (QuietP w (.bool (unord l k))):=by
 obtain ⟨a,cap,rfl,ad,l1,lm⟩:=h.form
 unfold maxLen at lm
 obtain ⟨i0,hi,hz0,hz1,hz2⟩:=info_parts info_ints
 have HQA:=Lib.hid (idx_one Tryz.underlying79 hi hz1 ad)
 clear hi hz0 hz1 hz2
 by_cases h0:0<k
 ·obtain ⟨j,hj⟩:∃j,j=k - 1:=⟨_,rfl⟩
  have q1:=HQA.out j (by omega)
  have q2:=HQA.out k hk
  obtain ⟨u1,cu1,iu1⟩:=h.at (.refl _ _) (show j<l.length by omega)
  obtain ⟨u2,cu2,iu2⟩:=h.at (.refl _ _) hk
  have eu:unord l k=decide (0≤ordL (nthL l j) (nthL l k)):=by unfold unord;rw[←hj];simp[h0]
  rw[eu]
  have K:∀n,Calls Tryz.prog 130 #[u1,u2] (w.drewN n) (QuietP (w.drewN n) (.int .i64 (ordL (nthL l j) (nthL l k)))):=fun n=>scmp_q (iu1.drewN n) (iu2.drewN n)
  obtain ⟨x,hx⟩:∃x,x=ordL (nthL l j) (nthL l k):=⟨_,rfl⟩
  rw[←hx]at K ⊢
  have KH:=Lib.hid K
  have w1:IntKind.i64.wrap ((k:Int) - 1)=j:=by rw[IntKind.wrap_i64];omega
  have w2:decide ((0:Int)<(k:Int))=true:=decide_eq_true (by omega)
  have w3:decide (0<k)=true:=decide_eq_true h0
  have w4:(0:Int)≤(j:Int):=by omega
  have w5:(j:Int)<(l.length:Int):=by omega
  have w6:(k:Int)<(l.length:Int):=by omega
  clear hj
  clear hx eu h K iu1 iu2
  by_cases hx0:0≤x
  ·rw[decide_eq_true hx0]
   go_enter Tryz.func142,Tryz.ntmps142
   go_wp2
   go_quiet ((go_at_call 130;exact quiet_calls (KH.out _)))
   go_wp2
   go_ret
   exact .of (by simp[hx0]) _
  ·rw[decide_eq_false hx0]
   go_enter Tryz.func142,Tryz.ntmps142
   go_wp2
   go_quiet ((go_at_call 130;exact quiet_calls (KH.out _)))
   go_wp2
   go_ret
   exact .of (by simp[hx0]) _
 ·obtain rfl:k=0:=by omega
  have eu:unord l 0=false:=by unfold unord;simp
  rw[eu]
  have hj0:decide ((0:Int)<((0:Nat):Int))=false:=by simp
  clear h eu
  go_enter Tryz.func142,Tryz.ntmps142
  go_wp2
  go_quiet (fail)
  go_wp2
  go_ret
  exact .of rfl _
end Go.Proofs.YtaijafjfafbcfaaGreat
