/- Part of the proof that the laws answer true for every input. -/
import Derived.Test.YtaijafjfafbcfaaGreatPXb36
import Derived.Test.YtaijafjfafbcfaaGreatPXb34
set_option linter.unusedSimpArgs false
set_option linter.unnecessarySimpa false
set_option linter.unusedVariables false
set_option maxRecDepth 100000
set_option maxHeartbeats 40000000
namespace Go.Proofs.YtaijafjfafbcfaaGreat
def nxtE (s:SysF) (f e:Nat):Nat:=(minT (fun g=>adjB s e g&&decide (dstV s f g=dstV s f e - 1)) 0 s.ex.length).toNat
theorem nxt_spec {s:SysF} {f e:Nat} (he:e<s.ex.length) (h:0<dstV s f e):
  nxtE s f e<s.ex.length∧adjB s e (nxtE s f e)=true∧dstV s f (nxtE s f e)=dstV s f e - 1∧∀g,g<nxtE s f e→¬(adjB s e g=true∧dstV s f g=dstV s f e - 1):=by
 obtain ⟨g,hg,h1,h2⟩:=dst_prev he h
 unfold nxtE
 rcases minF (fun g=>adjB s e g&&decide (dstV s f g=dstV s f e - 1)) s.ex.length 0 with ⟨h3,h4⟩ | ⟨t,h3,h4,h5,h6,h7⟩
 ·have:=h4 g (by omega) (by omega)
  rw[h1,decide_eq_true h2]at this;cases this
 ·rw[h3,Int.toNat_natCast]
  rw[Bool.and_eq_true,decide_eq_true_iff]at h6
  refine ⟨by omega,h6.1,h6.2,fun x hx hn=>?_⟩
  have:=h7 x (by omega) hx
  rw[hn.1,decide_eq_true hn.2]at this;cases this
def lowP (s:SysF) (e g:Nat):Nat:=(minT (fun q=>lkB s q e g) 0 s.N).toNat
theorem low_spec {s:SysF} {e g:Nat} (h:byN s e g≠0):lowP s e g<s.N∧lkB s (lowP s e g) e g=true∧∀q,q<lowP s e g→lkB s q e g=false:=by
 obtain ⟨q,hq,h1⟩:=byN_ne.1 h
 unfold lowP
 rcases minF (fun q=>lkB s q e g) s.N 0 with ⟨h3,h4⟩ | ⟨t,h3,h4,h5,h6,h7⟩
 ·have:=h4 q (by omega) (by omega)
  rw[h1]at this;cases this
 ·rw[h3,Int.toNat_natCast]
  exact ⟨by omega,h6,fun x hx=>h7 x (by omega) hx⟩
def xsE (s:SysF) (f e:Nat):Nat→Nat
 | 0=>e
 | k+1=>nxtE s f (xsE s f e k)
theorem xs_spec {s:SysF} {f e d:Nat} (he:e<s.ex.length) (h:dstV s f e=d):∀k,k≤d→xsE s f e k<s.ex.length∧dstV s f (xsE s f e k)=(d:Int) - k
 | 0,_=>⟨he,by rw[show xsE s f e 0=e from rfl,h];omega⟩
 | k+1,hk=>by
  obtain ⟨h1,h2⟩:=xs_spec he h k (by omega)
  obtain ⟨h3,h4,h5,_⟩:=nxt_spec (f:=f) h1 (by omega)
  refine ⟨h3,?_⟩
  rw[show xsE s f e (k+1)=nxtE s f (xsE s f e k) from rfl,h5,h2];omega
theorem xs_adj {s:SysF} {f e d k:Nat} (he:e<s.ex.length) (h:dstV s f e=d) (hk:k<d):adjB s (xsE s f e k) (xsE s f e (k+1))=true:=by
 obtain ⟨h1,h2⟩:=xs_spec he h k (by omega)
 exact (nxt_spec (f:=f) h1 (by omega)).2.1
theorem xs_last {s:SysF} {f e d:Nat} (he:e<s.ex.length) (h:dstV s f e=d):xsE s f e d=f:=by
 obtain ⟨h1,h2⟩:=xs_spec he h d (Nat.le_refl _)
 exact dst_zero (f:=f) h1 (by rw[h2];omega)
theorem xs_inj {s:SysF} {f e d i j:Nat} (he:e<s.ex.length) (h:dstV s f e=d) (hi:i≤d) (hj:j≤d) (hx:xsE s f e i=xsE s f e j):i=j:=by
 have h1:=(xs_spec he h i hi).2
 have h2:=(xs_spec he h j hj).2
 have h3:dstV s f (xsE s f e i)=dstV s f (xsE s f e j):=by rw[hx]
 rw[h1,h2]at h3;omega
theorem xs_not {s:SysF} {f e d k:Nat} (he:e<s.ex.length) (h:dstV s f e=d) (hk:k<d):xsE s f e k≠f:=fun hx=>by
 have h1:=(xs_spec he h k (by omega)).2
 have hf:=(xs_spec he h d (Nat.le_refl _)).1
 rw[xs_last he h]at hf
 rw[hx,dst_self s hf]at h1;omega
def wlkR (s:SysF) (f e:Nat):Nat→List Int
 | 0=>[(e:Int), -1]
 | i+1=>[(xsE s f e (i+1):Int),(lowP s (xsE s f e i) (xsE s f e (i+1)):Int)]
def wlkTo (s:SysF) (f e k:Nat):List (List Int):=(List.range (k+1)).map (wlkR s f e)
theorem wlkTo_len (s:SysF) (f e k:Nat):(wlkTo s f e k).length=k+1:=by simp[wlkTo]
theorem wlkTo_succ (s:SysF) (f e k:Nat):wlkTo s f e (k+1)=wlkTo s f e k++[wlkR s f e (k+1)]:=by unfold wlkTo;rw[List.range_succ,List.map_append];rfl
theorem wlkTo_at (s:SysF) (f e:Nat) {k i:Nat} (h:i≤k):nthL (wlkTo s f e k) i=wlkR s f e i:=by
 have:i<k+1:=by omega
 simp[wlkTo,nthL,this]
theorem wlkR_ex (s:SysF) (f e i:Nat):nth (wlkR s f e i) 0=xsE s f e i:=by cases i<;>rfl
def wlkL (s:SysF) (f e:Nat):List (List Int):=if dstV s f e<0 then [] else wlkTo s f e (dstV s f e).toNat
def linkE (s:SysF) (w:List (List Int)) (i:Nat):Int:=
 if nth (nthL w i) 0<0∨(s.ex.length:Int)≤nth (nthL w i) 0 then 6 else
 if i=0 then (if nth (nthL w i) 1≠ -1 then 3 else 0) else
 if nth (nthL w i) 1<0∨(s.N:Int)≤nth (nthL w i) 1 then 2 else
 if lkB s (nth (nthL w i) 1).toNat (nth (nthL w (i - 1)) 0).toNat (nth (nthL w i) 0).toNat then 0 else 18
def chkW (s:SysF) (w:List (List Int)):Int:=if w.length=0 then 16 else if 4096<w.length then 5 else firstE (linkE s w) w.length
def verW (s:SysF) (w:List (List Int)):Int:=if verE s=0 then chkW s w else verE s
theorem walk_ok {s:SysF} {f e d:Nat} (he:e<s.ex.length) (h:dstV s f e=d) (hn:s.ex.length≤4096):chkW s (wlkTo s f e d)=0:=by
 have hb:=dst_bound f he
 unfold chkW
 rw[if_neg (by rw[wlkTo_len];omega),if_neg (by rw[wlkTo_len];omega)]
 refine firstE_zero fun i hi=>?_
 rw[wlkTo_len]at hi
 have hx:=xs_spec he h i (by omega)
 unfold linkE
 rw[wlkTo_at _ _ _ (by omega:i≤d),wlkR_ex]
 rw[if_neg (by omega)]
 cases i with
 | zero=>rfl
 | succ i=>
  rw[if_neg (by omega),wlkTo_at _ _ _ (by omega:i+1 - 1≤d),wlkR_ex,Nat.add_sub_cancel]
  have ha:=xs_adj he h (show i<d by omega)
  obtain ⟨h1,h2,_⟩:=low_spec (adjB_iff.1 ha).1
  have e1:nth (wlkR s f e (i+1)) 1=(lowP s (xsE s f e i) (xsE s f e (i+1)):Int):=rfl
  rw[e1,if_neg (by omega),Int.toNat_natCast,Int.toNat_natCast,Int.toNat_natCast,h2];rfl
def bakR (s:SysF) (f e d:Nat):Nat→List Int
 | 0=>[(f:Int), -1]
 | i+1=>[nth (wlkR s f e (d - 1 - i)) 0,nth (wlkR s f e (d - i)) 1]
def bakTo (s:SysF) (f e d k:Nat):List (List Int):=(List.range (k+1)).map (bakR s f e d)
theorem bakTo_len (s:SysF) (f e d k:Nat):(bakTo s f e d k).length=k+1:=by simp[bakTo]
theorem bakTo_succ (s:SysF) (f e d k:Nat):bakTo s f e d (k+1)=bakTo s f e d k++[bakR s f e d (k+1)]:=by unfold bakTo;rw[List.range_succ,List.map_append];rfl
theorem bakTo_at (s:SysF) (f e d:Nat) {k i:Nat} (h:i≤k):nthL (bakTo s f e d k) i=bakR s f e d i:=by
 have:i<k+1:=by omega
 simp[bakTo,nthL,this]
theorem bakR_ex {s:SysF} {f e d i:Nat} (he:e<s.ex.length) (h:dstV s f e=d) (hi:i≤d):nth (bakR s f e d i) 0=xsE s f e (d - i):=by
 cases i with
 | zero=>rw[Nat.sub_zero,xs_last he h];rfl
 | succ i=>
  show nth (wlkR s f e (d - 1 - i)) 0=_
  rw[wlkR_ex,show d - 1 - i=d - (i+1) by omega]
theorem back_ok {s:SysF} {f e d:Nat} (he:e<s.ex.length) (h:dstV s f e=d) (hn:s.ex.length≤4096):chkW s (bakTo s f e d d)=0:=by
 have hb:=dst_bound f he
 unfold chkW
 rw[if_neg (by rw[bakTo_len];omega),if_neg (by rw[bakTo_len];omega)]
 refine firstE_zero fun i hi=>?_
 rw[bakTo_len]at hi
 have hx:=xs_spec he h (d - i) (by omega)
 unfold linkE
 rw[bakTo_at _ _ _ _ (by omega:i≤d),bakR_ex he h (by omega)]
 rw[if_neg (by omega)]
 cases i with
 | zero=>rfl
 | succ i=>
  rw[if_neg (by omega),bakTo_at _ _ _ _ (by omega:i+1 - 1≤d),bakR_ex he h (by omega),Nat.add_sub_cancel]
  obtain ⟨m,hm⟩:∃m,d - i=m+1:=⟨d - i - 1,by omega⟩
  have hm2:d - (i+1)=m:=by omega
  have ha:=xs_adj he h (show m<d by omega)
  obtain ⟨h1,h2,_⟩:=low_spec (adjB_iff.1 ha).1
  have e1:nth (bakR s f e d (i+1)) 1=(lowP s (xsE s f e m) (xsE s f e (m+1)):Int):=by
   show nth (wlkR s f e (d - i)) 1=_
   rw[hm];rfl
  rw[e1,hm2,hm,if_neg (by omega),Int.toNat_natCast,Int.toNat_natCast,Int.toNat_natCast,lkB_symm h2];rfl
end Go.Proofs.YtaijafjfafbcfaaGreat
namespace Go.Proofs.YtaijafjfafbcfaaGreat
open Go.RowKit
attribute [local go_sem ↓] Go.wp_at_zero Go.wp_at_succ
theorem ex_le {s:SysF} (h:verE s=0) (hg:GoodS s s.N s.K):s.ex.length≤4096:=by
 unfold verE at h
 by_cases h0:buildE s.p=0
 ·rw[hg.num];exact (buildE_zero h0).2
 ·rw[if_neg h0]at h;exact absurd h h0
def fvTo (s:SysF) (k:Nat):List (List Int):=(List.range k).map (fvL s)
def fvT (s:SysF):List (List Int):=fvTo s s.ex.length
theorem fvTo_len (s:SysF) (k:Nat):(fvTo s k).length=k:=by simp[fvTo]
theorem fvTo_succ (s:SysF) (k:Nat):fvTo s (k+1)=fvTo s k++[fvL s k]:=by unfold fvTo;rw[List.range_succ,List.map_append];rfl
theorem fvTo_at (s:SysF) {k j:Nat} (h:j<k):nthL (fvTo s k) j=fvL s j:=by simp[fvTo,nthL,h]
theorem fvT_len (s:SysF):(fvT s).length=s.ex.length:=fvTo_len _ _
theorem fvT_at (s:SysF) {e:Nat} (h:e<s.ex.length):nthL (fvT s) e=fvL s e:=fvTo_at s h
def mskV (f:Nat) (l:List Int) (p q:Nat):Int:=if q<p∧f.testBit q=true then -1 else nth l q
def mskL (f:Nat) (l:List Int) (p:Nat):List Int:=(List.range l.length).map (mskV f l p)
theorem mskL_len (f:Nat) (l:List Int) (p:Nat):(mskL f l p).length=l.length:=by simp[mskL]
theorem mskL_at (f:Nat) (l:List Int) (p:Nat) {q:Nat} (h:q<l.length):nth (mskL f l p) q=mskV f l p q:=by simp[mskL,nth,h]
theorem mskL_zero (f:Nat) (l:List Int):mskL f l 0=l:=by
 refine list_ext' (mskL_len _ _ _) fun i hi=>?_
 rw[mskL_len]at hi
 rw[mskL_at _ _ _ hi];unfold mskV;rw[if_neg (by omega)]
theorem mskL_skip {f:Nat} {l:List Int} {p:Nat} (h:f.testBit p=false):mskL f l (p+1)=mskL f l p:=by
 refine list_ext' (by rw[mskL_len,mskL_len]) fun i hi=>?_
 rw[mskL_len]at hi
 rw[mskL_at _ _ _ hi,mskL_at _ _ _ hi];unfold mskV
 by_cases e:i=p
 ·subst e;rw[h,if_neg (by simp),if_neg (by simp)]
 ·by_cases hx:i<p∧f.testBit i=true
  ·rw[if_pos ⟨by omega,hx.2⟩,if_pos hx]
  ·rw[if_neg (fun h2=>hx ⟨by omega,h2.2⟩),if_neg hx]
theorem mskL_hit {f:Nat} {l:List Int} {p:Nat} (hp:p<l.length) (h:f.testBit p=true):mskL f l (p+1)=(mskL f l p).set p (-1):=by
 refine list_ext' (by rw[mskL_len,List.length_set,mskL_len]) fun i hi=>?_
 rw[mskL_len]at hi
 rw[mskL_at _ _ _ hi,nth_set' (by rw[mskL_len];exact hp),mskL_at _ _ _ hi];unfold mskV
 by_cases e:i=p
 ·subst e;rw[if_pos ⟨by omega,h⟩,if_pos rfl]
 ·rw[if_neg e]
  by_cases hx:i<p∧f.testBit i=true
  ·rw[if_pos ⟨by omega,hx.2⟩,if_pos hx]
  ·rw[if_neg (fun h2=>hx ⟨by omega,h2.2⟩),if_neg hx]
theorem oblB_nt {s:SysF} {e q f:Nat} (hf:fltyW (nthX s.ex e).word=f) (hq:q<s.N):oblB s e q= !f.testBit q:=by
 unfold oblB maskW
 rw[hf,Int.toNat_natCast,testBit_without,Nat.testBit_two_pow_sub_one]
 simp[hq]
theorem mskL_full {s:SysF} (hg:GoodS s s.N s.K) {e f:Nat} (he:e<s.ex.length) (hf:fltyW (nthX s.ex e).word=f):mskL f (finL s e) s.N=fvL s e:=by
 have hl:=(hg.fin he).1
 refine list_ext' (by rw[mskL_len,fvL_len];exact hl) fun i hi=>?_
 rw[mskL_len,hl]at hi
 rw[mskL_at _ _ _ (by omega),fvL_at _ _ hi];unfold mskV fvw
 rw[oblB_nt hf hi]
 cases hb:f.testBit i with
 | true=>rw[if_pos ⟨hi,rfl⟩,if_neg (by simp)]
 | false=>rw[if_neg (by simp),if_pos (by simp)]
theorem fvL_wf {s:SysF} (hg:GoodS s s.N s.K) {S:Nat→Prop} {w:World} {v:Value} (h:SysV S w v s) {e:Nat} (he:e<s.ex.length):∀x∈fvL s e,WF x:=by
 intro x hx
 obtain ⟨q,hq,rfl⟩:=List.mem_map.1 hx
 obtain ⟨z,hz,hzl⟩:=(hg.fin he).2 q (List.mem_range.1 hq)
 obtain ⟨vc,vs,vt,vx,_,_,_,ht,_⟩:=h
 have:=ht.few
 unfold fvw
 split
 ·rw[hz];unfold WF;omega
 ·unfold WF;omega
structure FinP (B:Nat) (w:World) (g:Nat) (la:Option Addr) (lc:Nat) (s:SysF):Prop where
 base:B≤g
 row:Row w g 90 [.int .i64 s.N,.slice la s.ex.length lc]
 lists:Lists (fun b=>B≤b∧b≠g) w (.slice la s.ex.length lc) (fvT s)
theorem FinP.ext {B:Nat} {w w':World} {g:Nat} {la:Option Addr} {lc:Nat} {s:SysF} (h:FinP B w g la lc s) (hw:Below w.heap.size w w'):FinP B w' g la lc s:=⟨h.base,h.row.ext hw,h.lists.ext hw⟩
def OfR (B:Nat) (s:SysF) (w':World) (r:Value):Prop:=
 (verE s=0∧∃g la lc,r=.tuple #[.pointer (some ⟨g,0,none⟩),.int .i64 0]∧FinP B w' g la lc s)∨(verE s≠0∧r=.tuple #[.pointer none,.int .i64 (verE s)])
theorem idx_lists {S:Nat→Prop} {w:World} {a:Option Addr} {n c:Nat} {l:List (List Int)} (h:Lists S w (.slice a n c) l) {k:Nat} (hk:k<l.length) (W:World):(Instr.indexAt 79 (.slice a n c) (.int .i64 k)).run Tryz.prog W=.ok (.pointer (some (adr a k))) W:=by
 obtain ⟨_,_,hee,ad,_⟩:=h.form
 cases hee
 obtain ⟨i0,hi,_,hz1,_⟩:=info_parts info_ints
 exact idx_one Tryz.underlying79 hi hz1 ad k hk W
theorem fof_calls {S:Nat→Prop} {w:World} {v:Value} {s:SysF} (h:SysV S w v s) (hf:PFew s.p):
  Calls Tryz.prog 37 #[v] w (Post w (OfR w.heap.size s)):=by
 have KV:Hid (∀W,Below w.heap.size w W→Calls Tryz.prog 50 #[v] W (Post W fun _ r=>r=.int .i64 (verE s))):=Lib.hid fun W hW=>pverify_calls (h.ext hW) hf
 have HG:Hid (verE s=0→GoodS s s.N s.K∧s.ex.length≤4096):=Lib.hid fun h0=>⟨good_sys h0 h.moves8,ex_le h0 (good_sys h0 h.moves8)⟩
 have HW:Hid (verE s=0→∀e,e<s.ex.length→∀x∈fvL s e,WF x):=Lib.hid fun h0 e he=>fvL_wf (good_sys h0 h.moves8) h he
 obtain ⟨vc,vs,vt,vx,rfl,hc,hs,ht,hx⟩:=h
 obtain ⟨ca,cc,rfl,_⟩:=hc.form
 obtain ⟨sa,sc,rfl,_⟩:=hs.form
 obtain ⟨ta,tc,rfl,_⟩:=ht.form
 obtain ⟨xa,xc,rfl,xad,_⟩:=hx.form2
 have hfew:=hx.few
 have ex:=ext_alloc w (.cells #[.int .i64 s.p.n,.int .i64 s.p.ins,.int .i64 s.p.outs,.slice ca s.p.cs.length cc,.int .i64 s.p.an,.slice sa s.p.st.length sc,.int .i64 s.p.rounds,.int .i64 s.tn,.slice ta s.tab.length tc,.slice xa s.ex.length xc] 35)
 have R0:=row_new w [.int .i64 s.p.n,.int .i64 s.p.ins,.int .i64 s.p.outs,.slice ca s.p.cs.length cc,.int .i64 s.p.an,.slice sa s.p.st.length sc,.int .i64 s.p.rounds,.int .i64 s.tn,.slice ta s.tab.length tc,.slice xa s.ex.length xc] 35
 have t0:=R0.cell (j:=0) rfl
 have t1:=R0.cell (j:=1) rfl
 have t2:=R0.cell (j:=2) rfl
 have t3:=R0.cell (j:=3) rfl
 have t4:=R0.cell (j:=4) rfl
 have t5:=R0.cell (j:=5) rfl
 have t6:=R0.cell (j:=6) rfl
 have t7:=R0.cell (j:=7) rfl
 have t8:=R0.cell (j:=8) rfl
 have t9:=R0.cell (j:=9) rfl
 have l0:=R0.lt
 have HX:=Lib.hid hx
 have HQ:=Lib.hid (idx_exec xad)
 have HD:Hid (∀w' r,(verE s=0∧∃g la lc,r=.tuple #[.pointer (some ⟨g,0,none⟩),.int .i64 0]∧FinP w.heap.size w' g la lc s)∨(verE s≠0∧r=.tuple #[.pointer none,.int .i64 (verE s)])→OfR w.heap.size s w' r):=Lib.hid fun w' r h=>h
 obtain ⟨ve,hve⟩:∃x,x=verE s:=⟨_,rfl⟩
 rw[←hve]at KV HG HW HD
 clear hc hs ht hx hf hve xad
 go_enter Tryz.func37,Tryz.ntmps37
 go_wp2_with fail
 refine (KV.out _ ex).mono ?_
 rintro _ w1 ⟨_,rfl,hb1,rfl⟩
 replace R0:=R0.ext hb1
 replace ex:=ext_trans ex hb1
 clear t0 t1 t2 t3 t4 t5 t6 t7 t8 t9 l0 hb1 KV
 by_cases hv0:ve=0
 case neg=>
  have d0:(ve !=0)=true:=by simp[hv0]
  have RE:=Lib.hid (HD.out w1 _ (.inr ⟨hv0,rfl⟩))
  clear hv0
  go_wp2
  go_ret2
  exact .mk ex RE.out
 obtain ⟨hg,hxl⟩:=HG.out hv0
 have d0:(ve !=0)=false:=by simp[hv0]
 have HWF:=Lib.hid (HW.out hv0)
 have HF:Hid (∀w' g la lc,FinP w.heap.size w' g la lc s→OfR w.heap.size s w' (.tuple #[.pointer (some ⟨g,0,none⟩),.int .i64 0])):=Lib.hid fun w' g la lc h=>HD.out _ _ (.inl ⟨hv0,g,la,lc,rfl,h⟩)
 have hpn:s.p.n=(s.N:Int):=hg.pok.n
 have hN5:=hg.pok.n1.2
 have hg1:Hid (0<s.N):=Lib.hid hg.pok.n1.1
 have HFL:Hid (∀e,e<s.ex.length→∃f:Nat,fltyW (nthX s.ex e).word=f∧f<2 ^ s.N):=Lib.hid fun e he=>hg.flty he
 have HFN:Hid (∀e,e<s.ex.length→(finL s e).length=s.N∧finL s e=nthL (nthX s.ex e).vs s.K∧(nthX s.ex e).vs.length=s.K+1∧s.K≤6∧∀f:Nat,fltyW (nthX s.ex e).word=f→mskL f (finL s e) s.N=fvL s e):=Lib.hid fun e he=>by
  obtain ⟨c,hX⟩:=hg.ex e he
  exact ⟨(hg.fin he).1,rfl,hX.len,hg.K6,fun f hf=>mskL_full hg he hf⟩
 rw[hpn]at R0
 have R0':=R0.alloc (.cells #[.int .i64 s.N,.slice none 0 0] 90)
 have RX:=row_new w1 [.int .i64 s.N,.slice none 0 0] 90
 have hs1:=ex.size
 have t0:=R0.cell (j:=0) rfl
 have t9:=R0'.cell (j:=9) rfl
 have l0:=R0.lt
 have hx1:=ext_alloc' ex (.cells #[.int .i64 s.N,.slice none 0 0] 90)
 clear hv0 hpn hg HG HW HD
 go_upto_region 5 with fail
 obtain ⟨FB,hFB⟩:∃FB,FB=w1.heap.size:=⟨_,rfl⟩
 obtain ⟨w2,hw2⟩:∃w2,w2=w1.alloc (.cells #[.int .i64 s.N,.slice none 0 0] 90):=⟨_,rfl⟩
 have hsz:w2.heap.size=FB+1:=by rw[hw2,hFB];simp
 rw[←hFB]at RX hs1
 rw[←hw2]at RX t9 hx1
 rw[←hFB,←hw2]
 have l9:w.heap.size<w2.heap.size:=by omega
 have HSZ:=Lib.hid hsz
 clear hFB hw2 hsz R0 R0' t0 l0 ex d0
 go_wp2
 clear t9 l9
 go_loopw [7,8,9,10,11,26,52,53] (fun _ _ _ _ _ i _ _ wr=>∃(k:Nat) (la:Option Addr) (lc:Nat) (vs:List Value),k≤s.ex.length∧i=.int .i64 k∧Below w.heap.size w wr∧Row wr FB 90 [.int .i64 s.N,.slice la k lc]∧Hid (OwnList 44 (FB+1) wr (.slice la k lc) vs (fvTo s k))) (fun _ _ _ _ _ i _ _ _=>s.ex.length - (intOf i).toNat)
 case atStart=>exact ⟨0,none,0,[],Nat.zero_le _,rfl,hx1,RX,Lib.hid (OwnList.nil _ _ _)⟩
 case round=>
  clear hx1 RX HSZ w2
  obtain ⟨k,la,lc,vs,hk,rfl,hb,RX,HO⟩:=hrel
  by_cases hlt:k<s.ex.length
  case neg=>
   obtain rfl:k=s.ex.length:=by omega
   have HI:=Lib.hid (HF.out wr FB la lc ⟨hs1,RX,HO.out.lists.mono fun b hb=>⟨by omega,by omega⟩⟩)
   go_wp2
   go_ret2
   exact .mk hb HI.out
  obtain ⟨f,hfe,hf2⟩:=HFL.out k hlt
  obtain ⟨hfl,hfn,hvl,hK6,hmf⟩:=HFN.out k hlt
  have HMF:=Lib.hid (hmf f hfe)
  have HVL:=Lib.hid hvl
  have HFLN:=Lib.hid hfl
  have HFN2:=Lib.hid hfn
  have q1:=HQ.out k hlt
  obtain ⟨a1,c1,a3,c3,z0,z1,z2,i1,i2⟩:=HX.out.exec hlt
  replace z0:=cell_ext z0 hb
  replace z1:=cell_ext z1 hb
  replace z2:=cell_ext z2 hb
  have i1:=i1.ext hb
  have i2:=i2.ext hb
  obtain ⟨l,hl⟩:∃l,l=finL s k:=⟨_,rfl⟩
  rw[←hl]at HFLN HFN2 HMF
  obtain ⟨x,hxx⟩:∃x,x=nthX s.ex k:=⟨_,rfl⟩
  rw[←hxx]at z0 z1 z2 i1 i2 hfe HFN2 HVL
  have bk:=World.block_lt_of_cell? _ _ z0
  have hy:=ext_alloc wr (.cells #[.int .i64 x.case,.slice a1 x.word.length c1,.slice a3 x.vs.length c3] 81)
  have RY:=row_new wr [.int .i64 x.case,.slice a1 x.word.length c1,.slice a3 x.vs.length c3] 81
  have RXy:=RX.alloc (.cells #[.int .i64 x.case,.slice a1 x.word.length c1,.slice a3 x.vs.length c3] 81)
  have HOy:=Lib.hid (HO.out.ext hy)
  have i1y:=Lib.hid (i1.ext hy)
  have i2y:=Lib.hid (i2.ext hy)
  have hby:=ext_trans hb hy
  have hfx:=RX.lt
  have HWK:=Lib.hid (HWF.out k hlt)
  have HFS:=Lib.hid (fvTo_succ s k)
  have hll:k≤4096:=by omega
  clear hl hxx hmf i1 i2 hb RX HO hy hvl hfl hfn
  go_upto_region 8 with fail
  obtain ⟨YB,hYB⟩:∃YB,YB=wr.heap.size:=⟨_,rfl⟩
  obtain ⟨wy,hwy⟩:∃wy,wy=wr.alloc (.cells #[.int .i64 x.case,.slice a1 x.word.length c1,.slice a3 x.vs.length c3] 81):=⟨_,rfl⟩
  rw[←hYB]at RY hfx
  rw[←hwy]at RY RXy HOy i1y i2y hby
  rw[←hYB,←hwy]
  clear hYB hwy z0 z1 z2 bk q1
  have y1:=RY.cell (j:=1) rfl
  have y2:=RY.cell (j:=2) rfl
  have ly:=RY.lt
  go_upto_if 34 with fail
  go_cut [8] (fun s8 wx=>s8=.int .i64 f∧wx=wy)
  case first=>
   by_cases h0:x.word.length=0
   ·have HF0:Hid (f=0):=Lib.hid (by unfold fltyW at hfe;rw[if_pos h0]at hfe;omega)
    have d1:decide (0<x.word.length)=false:=decide_eq_false (by omega)
    clear hfe
    go_wp2
    go_meet
    exact ⟨by rw[HF0.out];rfl,rfl⟩
   ·have HW2:Hid (fltyW x.word=nth (nthL x.word (x.word.length - 1)) 6):=Lib.hid (by unfold fltyW;rw[if_neg h0])
    obtain ⟨m,hm⟩:∃m,x.word.length=m+1:=⟨x.word.length - 1,by omega⟩
    obtain ⟨_,_,he,ad,_⟩:=i1y.out.form2
    cases he
    have q1:=idx_word ad m (by omega)
    have z:=(i1y.out.nums (k:=m) (by omega) (by decide)).2 6 (by decide)
    have bk:=World.block_lt_of_cell? _ _ z
    rw[hm,Nat.add_sub_cancel,hfe]at HW2
    rw[←HW2.out]at z
    have hml:(x.word.length:Int)≤140737488355328:=by have:=i1y.out.few;omega
    have d1:decide ((0:Int)<(x.word.length:Int))=true:=decide_eq_true (by omega)
    have d2:((x.word.length:Int) - 1)=(m:Int):=by omega
    have HM:=Lib.hid hm
    clear hfe h0 hm ad
    go_wp2
    go_meet
    exact ⟨rfl,rfl⟩
  case rest=>
   obtain ⟨rfl,hwc⟩:=hcut
   rw[hwc]
   have hK:s.K<x.vs.length:=by rw[HVL.out];omega
   have q2:=idx_lists i2y.out hK
   have d3:((x.vs.length:Int) - 1)=(s.K:Int):=by rw[HVL.out];omega
   have d4:(x.vs.length:Int)≤8:=by rw[HVL.out];omega
   obtain ⟨u,cu,iu⟩:=i2y.out.at (.refl _ _) hK
   obtain ⟨fa,fc,rfl,fad,_⟩:=iu.form
   rw[←HFN2.out]at cu iu
   have bu:=World.block_lt_of_cell? _ _ cu
   have B1:Hid ((0+l.length) * 8≤140737488355328):=Lib.hid (by rw[HFLN.out];omega)
   have HIU:=Lib.hid iu
   have hln:l.length≤5:=by rw[HFLN.out];exact hN5
   have hl1:Hid (0<l.length):=Lib.hid (by rw[HFLN.out];exact hg1.out)
   clear iu fad hwc wc i1y i2y
   go_wp2_with (at_builtin;refine wpList_appendAll rfl (.const (.slice none 0 0)) (.tmp 49) 44 rfl 3 _ 8 Tryz.underlying44 info_int rfl wy.heap.size (.slice none 0 0) 0 [] rfl (World.ownsRow_nil _ _ _ _) (fun _=>True) fa l.length fc (l.map (Value.int .i64)) rfl ((ints_ad HIU.out).mono fun _ _=>trivial) (by simp) (ints_cells HIU.out (.refl _ _)) (oneCell_ints l) B1.out (by omega) (Nat.le_refl _) ?_;intro v3 w3 hown3 hb3 hag3 hv3;have hown4:w3.ownsRow wy.heap.size 3 1 v3 l.length (l.map (Value.int .i64)):=(by simpa using hown3);obtain ⟨g,gc,rfl⟩:=owns_pos hown4 hl1.out)
   have HOV:Hid (w3.ownsRow wy.heap.size 3 1 (.slice (some ⟨g,0,none⟩) l.length gc) l.length ((mskL f l 0).map (Value.int .i64))):=Lib.hid (by rw[mskL_zero];exact hown4)
   clear cu bu q2 d3 d4 y1 y2 ly hown3 hown4 hag3 hv3 B1 hl1
   go_wp2
   go_loopw [11,53] (fun _ i wi=>∃q:Nat,q≤l.length∧i=.int .i64 q∧Below wy.heap.size wy wi∧Hid (wi.ownsRow wy.heap.size 3 1 (.slice (some ⟨g,0,none⟩) l.length gc) l.length ((mskL f l q).map (Value.int .i64)))) (fun _ i _=>l.length - (intOf i).toNat)
   case atStart=>exact ⟨0,Nat.zero_le _,rfl,hb3,HOV⟩
   case round=>
    clear hb3 HOV
    obtain ⟨q,hq,rfl,hb3,HOV⟩:=hrel
    by_cases hql:q<l.length
    case pos=>
     obtain ⟨bt,hbt⟩:∃bt,bt=f.testBit q:=⟨_,rfl⟩
     cases bt with
     | false=>
      have db:(bits .and .i64 ((f:Int) / 2 ^ q) 1==1)=false:=by rw[bit_nat];exact hbt.symm
      rw[←mskL_skip hbt.symm]at HOV
      clear hbt
      go_wp2
      go_roundw
      case rel=>exact ⟨q+1,by omega,by go_num,hb3,HOV⟩
      case measure=>simp[intOf];omega
     | true=>
      have db:(bits .and .i64 ((f:Int) / 2 ^ q) 1==1)=true:=by rw[bit_nat];exact hbt.symm
      have cj:wr.cell? ⟨g,q,none⟩=some (.int .i64 (nth (mskL f l q) q)):=by rw[HOV.out.cellAt q (by omega),List.getElem?_map,get?_nth (by rw[mskL_len];exact hql)];rfl
      have fj:=HOV.out.frozenAt q
      have hst:=HOV.out.stored q (.int .i64 (-1))
      have hsz:=hb3.size
      have hgl:=HOV.out.lt g rfl
      have HO9:Hid ((wr.setCell ⟨g,q,none⟩ (.int .i64 (-1))).ownsRow wy.heap.size 3 1 (.slice (some ⟨g,0,none⟩) l.length gc) l.length ((mskL f l (q+1)).map (Value.int .i64))):=Lib.hid (by
       rw[mskL_hit hql hbt.symm,List.map_set];simpa using hst.1)
      have hb9:=hb3.setCell (p:=⟨g,q,none⟩) hgl.1 (.int .i64 (-1))
      clear hbt hst hb3 HOV
      go_wp2
      go_roundw
      case rel=>exact ⟨q+1,by omega,by go_num,hb9,HO9⟩
      case measure=>simp[intOf];omega
    obtain rfl:q=l.length:=by omega
    have hM:mskL f l l.length=fvL s k:=by rw[HFLN.out];exact HMF.out
    rw[hM]at HOV
    have HI:=Lib.hid (Ints.of_own HOV.out HWK.out)
    have HO3:=Lib.hid (HOy.out.ext hb3)
    have HOR:=Lib.hid HO3.out.row
    have HLT:=Lib.hid HOy.out.row.lt
    have RX3:=RXy.ext hb3
    have x1:=RX3.cell (j:=1) rfl
    have fx:=RX3.free 1
    have lx:=RX3.lt
    have hsz:=hb3.size
    have hly:FB<wy.heap.size:=RXy.lt
    have hbb:=ext_trans hby hb3
    have hgl:=(HOV.out.lt g rfl).1
    have hfl2:=fvTo_len s k
    obtain ⟨acc,hacc⟩:∃acc,acc=fvTo s k:=⟨_,rfl⟩
    rw[←hacc]at HO3 HOR HFS hfl2
    have HAL:=Lib.hid hfl2
    have hal:acc.length≤4096:=by omega
    rw[HAL.out]at HOR
    clear hM hb3 HOV hacc hfl2
    go_wp2_with (at_builtin;refine wpList_push rfl (.tmp 69) (.tmp 71) 79 rfl 44 _ 24 Tryz.underlying79 info_ints rfl (FB+1) _ _ _ rfl HOR.out (.slice (some ⟨g,0,none⟩) l.length gc) rfl rfl (by omega) (by omega) (by omega) ?_;intro g' c' w5 hown5 hbel5 hag5 hat5;have RX5:=row_under RX3 (Nat.lt_succ_self FB) hbel5;have x5:=RX5.cell (j:=1) rfl;have f5:=RX5.free 1;have l5:=RX5.lt)
    have HO5:=HO3.out.push (by rw[HAL.out];exact hown5) hag5 (fun kk hk=>by cases hk;exact hat5) (HI.out.mono fun b hb=>⟨by omega,fun e=>by have:=(HLT.out b e).2;omega⟩)
    rw[←HFS.out]at HO5
    have HO6:=Lib.hid (HO5.agree (.of_grown (grownBy_setCell w5 FB 1 (.slice (some ⟨g',0,none⟩) (k+1) c')) (fun b hb e=>by cases e;omega)))
    have RX6:=RX5.set 1 (.slice (some ⟨g',0,none⟩) (k+1) c')
    have hb6:=(hbb.trans (hbel5.mono (show w.heap.size≤FB+1 by omega))).setCell (p:=⟨FB,1,none⟩) (by dsimp only;omega) (.slice (some ⟨g',0,none⟩) (k+1) c')
    clear HO5 hown5 hbel5 hag5 hat5 HOR HO3 RX3 RX5 x1 fx lx x5 f5 l5 HI HLT hbb
    go_wp2
    go_roundw
    case rel=>exact ⟨k+1,_,_,_,by omega,by go_num,hb6,RX6,HO6⟩
    case measure=>simp[intOf];omega
end Go.Proofs.YtaijafjfafbcfaaGreat
namespace Go.Proofs.YtaijafjfafbcfaaGreat
open Go.RowKit
attribute [local go_sem ↓] Go.wp_at_zero Go.wp_at_succ
def thE (s:SysF) (e f:Int):Int:=if verE s=0 then (if e<0∨(s.ex.length:Int)≤e∨f<0∨(s.ex.length:Int)≤f then 6 else 0) else verE s
theorem thE_ok {s:SysF} {e f:Int} (h:thE s e f=0):verE s=0∧∃x y:Nat,e=x∧f=y∧x<s.ex.length∧y<s.ex.length:=by
 unfold thE at h
 by_cases h0:verE s=0
 ·rw[if_pos h0]at h
  by_cases h1:e<0∨(s.ex.length:Int)≤e∨f<0∨(s.ex.length:Int)≤f
  ·rw[if_pos h1]at h;cases h
  ·refine ⟨h0,e.toNat,f.toNat,?_,?_,?_,?_⟩<;>omega
 ·rw[if_neg h0]at h;exact absurd h h0
end Go.Proofs.YtaijafjfafbcfaaGreat
namespace Go.Proofs.YtaijafjfafbcfaaGreat
def par (ps:List Int) (i:Nat):Nat:=(nth ps i).toNat
def Forest (ps:List Int):Prop:=∀i,i<ps.length→0≤nth ps i∧nth ps i≤i
theorem Forest.par {ps:List Int} (h:Forest ps) {i:Nat} (hi:i<ps.length):nth ps i=(par ps i:Int)∧par ps i≤i:=by
 have:=h i hi
 unfold Go.Proofs.YtaijafjfafbcfaaGreat.par
 omega
def rootN (ps:List Int):Nat→Nat→Nat
 | 0,i=>i
 | f+1,i=>if par ps i=i then i else rootN ps f (par ps i)
def root (ps:List Int) (i:Nat):Nat:=rootN ps i i
theorem rootN_fuel {ps:List Int} (h:Forest ps):∀f g i,i≤f→i≤g→i<ps.length→rootN ps f i=rootN ps g i:=by
 intro f
 induction f with
 | zero=>
  intro g i hf hg hi
  obtain rfl:i=0:=by omega
  cases g with
  | zero=>rfl
  | succ g=>
   have:=(h.par hi).2
   have e:par ps 0=0:=by omega
   simp[rootN,e]
 | succ f ih=>
  intro g i hf hg hi
  have hp:=(h.par hi).2
  cases g with
  | zero=>
   obtain rfl:i=0:=by omega
   have e:par ps 0=0:=by omega
   simp[rootN,e]
  | succ g=>
   simp only[rootN]
   split
   ·rfl
   ·rename_i hne
    exact ih g _ (by omega) (by omega) (by omega)
theorem root_fix {ps:List Int} {i:Nat} (h:par ps i=i):root ps i=i:=by
 unfold root
 cases i with
 | zero=>rfl
 | succ i=>simp[rootN,h]
theorem root_step {ps:List Int} (hF:Forest ps) {i:Nat} (hi:i<ps.length):root ps i=root ps (par ps i):=by
 have hp:=(hF.par hi).2
 by_cases e:par ps i=i
 ·rw[e]
 ·unfold root
  cases i with
  | zero=>omega
  | succ i=>
   simp only[rootN]
   rw[if_neg e]
   exact rootN_fuel hF _ _ _ (by omega) (Nat.le_refl _) (by omega)
theorem root_spec {ps:List Int} (hF:Forest ps):∀i,i<ps.length→par ps (root ps i)=root ps i∧root ps i≤i:=by
 intro i
 induction i using Nat.strongRecOn with
 | ind i ih=>
  intro hi
  have hp:=(hF.par hi).2
  by_cases e:par ps i=i
  ·rw[root_fix e];exact ⟨e,Nat.le_refl _⟩
  ·rw[root_step hF hi]
   obtain ⟨h1,h2⟩:=ih (par ps i) (by omega) (by omega)
   exact ⟨h1,by omega⟩
theorem nth_set_eq {l:List Int} {i:Nat} {x:Int} (h:i<l.length):nth (l.set i x) i=x:=by simp[nth,h]
theorem nth_set_ne {l:List Int} {i j:Nat} {x:Int} (h:j≠i):nth (l.set i x) j=nth l j:=by simp[nth,List.getElem?_set_ne (fun e:i=j=>h e.symm)]
theorem par_set_eq {l:List Int} {i:Nat} {x:Nat} (h:i<l.length):par (l.set i x) i=x:=by unfold par;rw[nth_set_eq h];simp
theorem par_set_ne {l:List Int} {i j:Nat} {x:Nat} (h:j≠i):par (l.set i x) j=par l j:=by unfold par;rw[nth_set_ne h]
theorem Forest.set {ps:List Int} (hF:Forest ps) {i x:Nat} (hx:x≤i):Forest (ps.set i x):=by
 intro j hj
 simp at hj
 by_cases e:j=i
 ·subst e;rw[nth_set_eq hj];omega
 ·rw[nth_set_ne e];exact hF j hj
theorem root_halve {ps:List Int} (hF:Forest ps) {i:Nat} (hi:i<ps.length):
  ∀j,j<ps.length→root (ps.set i (par ps (par ps i):Nat)) j=root ps j:=by
 have hp:=(hF.par hi).2
 have hpp:=(hF.par (show par ps i<ps.length by omega)).2
 have hF':=hF.set (i:=i) (x:=par ps (par ps i)) (by omega)
 intro j
 induction j using Nat.strongRecOn with
 | ind j ih=>
  intro hj
  have hj':j<(ps.set i (par ps (par ps i):Nat)).length:=by simpa using hj
  by_cases e:j=i
  ·subst e
   rw[root_step hF' hj',par_set_eq hj]
   by_cases e2:par ps (par ps j)=j
   ·have e3:par ps j=j:=by omega
    have e4:par (ps.set j (par ps (par ps j):Nat)) j=j:=by rw[par_set_eq hj,e2]
    rw[e2]at e4 ⊢
    rw[root_fix e4,root_fix e3]
   ·rw[ih _ (by omega) (by omega),←root_step hF (show par ps j<ps.length by omega),←root_step hF hj]
  ·have hpj:=(hF.par hj).2
   by_cases e2:par ps j=j
   ·rw[root_fix e2,root_fix (by rw[par_set_ne e,e2])]
   ·rw[root_step hF' hj',par_set_ne e,ih _ (by omega) (by omega),←root_step hF hj]
theorem root_link {ps:List Int} (hF:Forest ps) {p q:Nat} (hq:q<ps.length) (hpq:p≤q) (hp:par ps p=p) (hqq:par ps q=q):
  ∀j,j<ps.length→root (ps.set q (p:Nat)) j=if root ps j=q then p else root ps j:=by
 have hF':=hF.set (i:=q) (x:=p) hpq
 intro j
 induction j using Nat.strongRecOn with
 | ind j ih=>
  intro hj
  have hj':j<(ps.set q (p:Nat)).length:=by simpa using hj
  by_cases e:j=q
  ·subst e
   rw[root_fix hqq,if_pos rfl,root_step hF' hj',par_set_eq hj]
   by_cases e2:p=j
   ·subst e2
    exact root_fix (by rw[par_set_eq hj])
   ·exact root_fix (by rw[par_set_ne e2,hp])
  ·have hpj:=(hF.par hj).2
   by_cases e2:par ps j=j
   ·rw[root_fix e2,if_neg e,root_fix (by rw[par_set_ne e,e2])]
   ·rw[root_step hF' hj',par_set_ne e,ih _ (by omega) (by omega),←root_step hF hj]
def idList (n:Nat):List Int:=(List.range n).map fun i:Nat=>(i:Int)
@[simp] theorem length_idList (n:Nat):(idList n).length=n:=by simp[idList]
theorem nth_idList {n i:Nat} (h:i<n):nth (idList n) i=i:=by simp[nth,idList,h]
theorem forest_idList (n:Nat):Forest (idList n):=by
 intro i hi
 simp at hi
 rw[nth_idList hi];omega
theorem root_idList {n i:Nat} (h:i<n):root (idList n) i=i:=root_fix (by unfold par;rw[nth_idList h];simp)
end Go.Proofs.YtaijafjfafbcfaaGreat
