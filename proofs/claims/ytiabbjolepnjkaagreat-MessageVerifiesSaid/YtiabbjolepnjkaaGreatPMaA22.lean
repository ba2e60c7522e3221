/- Part of the proof that the laws answer true for every input. -/
import Derived.Test.YtiabbjolepnjkaaGreatPMaA21
set_option linter.unusedSimpArgs false
set_option linter.unnecessarySimpa false
set_option linter.unusedVariables false
set_option maxRecDepth 100000
set_option maxHeartbeats 40000000
namespace Go.Proofs.YtiabbjolepnjkaaGreat
open Go.RowKit
attribute [local go_sem ↓] Go.wp_at_zero Go.wp_at_succ
def frmV (T:List (List Int)) (ch:List Int) (outs:Int) (v:Nat):Int:=
 if nth ch v< -1∨outs≤nth ch v then 2 else if 0≤befV T v∧0≤nth ch (befV T v).toNat∧nth ch (befV T v).toNat≠nth ch v then 21 else 0
def formE (s:SysF) (ch:List Int):Int:=if ch.length=s.tab.length then firstE (frmV s.tab ch s.p.outs) ch.length else 15
theorem zbo {S S2:Nat→Prop} {w:World} {v vch:Value} {s:SysF} {N K:Nat} {ch:List Int} (h:SysV S w v s) (hT:TabOK N K s.tab) (h2:Ints S2 w vch ch):
  Calls Tryz.prog 118 #[v,.agg #[vch]] w (Post w fun _ r=>r=.int .i64 (formE s ch)):=by
 have H0:=zhd h;obtain ⟨ca,cc,sa,sc,ta,tc,xa,xc,rfl,hc,hs,ht,hx⟩:=h.zf;obtain ⟨a2,c2,rfl,_⟩:=h2.form;have hm2:=h2.len;unfold maxLen at hm2;have H2:=zhd h2;have HTT:=zhd hT;have KB:Hid (∀W,Below w.heap.size w W→∀u,u<s.tab.length→Calls Tryz.prog 146 #[.agg #[s.tn,.slice ta s.tab.length tc],u] W (Post W fun _ r=>r=.int .i64 (befV s.tab u))):=zhd fun W hW u hu=>QA _ (ht.ext hW) hT hu;obtain ⟨ex,R0,R1⟩:=zb2 w [s.p.n,s.p.ins,s.p.outs,.slice ca s.p.cs.length cc,s.p.an,.slice sa s.p.st.length sc,s.p.rounds,s.tn,.slice ta s.tab.length tc,.slice xa s.ex.length xc] [.slice a2 ch.length c2] 35 38;have t8:=R0.zc 8 rfl;have r1:=R1.zc 0 rfl;have l0:=R0.lt;have l1:=R1.lt;clear hc hs ht hx h2 hT;by_cases hlen:ch.length=s.tab.length
 case neg=>
  have RE:Hid (formE s ch=15):=zhd (by unfold formE;rw[if_neg hlen]);have d1:((ch.length:Int) !=(s.tab.length:Int))=true:=by rw[bne_iff_ne];omega
  clear hlen;go_enter Tryz.func118,Tryz.ntmps118;go_wp2;go_ret;exact .mk ex (zm RE.out.symm)
 have d1:((ch.length:Int) !=(s.tab.length:Int))=false:=by rw[hlen];simp
 have HLEN:=zhd hlen;obtain ⟨r,hr⟩:=zn (formE s ch);rw[←hr];have HR:Hid (r=firstE (frmV s.tab ch s.p.outs) ch.length):=zhd (by rw[hr];unfold formE;rw[if_pos hlen]);clear hlen hr;go_enter Tryz.func118,Tryz.ntmps118;go_wp2;clear t8 r1 l0 l1 d1;go_loopw [5,6,7,19] (fun _ _ _ i wr=>∃k:Nat,k≤ch.length∧i=.int .i64 k∧Below w.heap.size w wr∧Row wr w.heap.size 35 [s.p.n,s.p.ins,s.p.outs,.slice ca s.p.cs.length cc,s.p.an,.slice sa s.p.st.length sc,s.p.rounds,s.tn,.slice ta s.tab.length tc,.slice xa s.ex.length xc]∧Row wr (w.heap.size+1) 38 [.slice a2 ch.length c2]∧Hid (∀j,j<k→frmV s.tab ch s.p.outs j=0)) (fun _ _ _ i _=>ch.length - (intOf i).toNat)
 case atStart=>exact ⟨0,Nat.zero_le _,rfl,ex,R0,R1,zhd fun j hj=>by omega⟩
 case round=>
  clear ex R0 R1;obtain ⟨k,hk,rfl,hb,R0,R1,HJ⟩:=hrel;have r1:=R1.zc 0 rfl;have t2:=R0.zc 2 rfl;have t7:=R0.zc 7 rfl;have t8:=R0.zc 8 rfl;have l0:=R0.lt;have l1:=R1.lt;by_cases hlt:k<ch.length
  case neg=>
   have RE:Hid (r=0):=zhd (by rw[HR.out];exact ym fun j hj=>HJ.out j (by omega));go_wp2;go_ret;exact .mk hb (zm RE.out.symm)
  have q1:=H2.out.idx hlt;have cck:=(H2.out.ext hb).cellN hlt;have hbk:=World.block_lt_of_cell? _ _ cck;have hkT:k<s.tab.length:=by have:=HLEN.out;omega
  have HBF:=zhd (HTT.out.bef hkT);have HF:Hid (frmV s.tab ch s.p.outs k=if nth ch k< -1∨s.p.outs≤nth ch k then 2 else if 0≤befV s.tab k∧0≤nth ch (befV s.tab k).toNat∧nth ch (befV s.tab k).toNat≠nth ch k then 21 else 0):=zhd rfl;have HFE:Hid (frmV s.tab ch s.p.outs k≠0→r=frmV s.tab ch s.p.outs k):=zhd fun h0=>by rw[HR.out];exact Yy HJ.out h0 hlt
  have HNX:Hid (frmV s.tab ch s.p.outs k=0→∀j,j<k+1→frmV s.tab ch s.p.outs j=0):=zhd fun h0 j hj=>by
   by_cases e:j=k
   ·rw[e];exact h0
   ·exact HJ.out j (by omega)
  obtain ⟨y,hy⟩:=zn (nth ch k);rw[←hy]at cck HF;have HYY:=zhd hy;clear hy;by_cases hA:y< -1∨s.p.outs≤y
  ·have RE:Hid (r=2):=zhd (by
    have e2:frmV s.tab ch s.p.outs k=2:=by rw[HF.out,if_pos hA]
    rw[HFE.out (by rw[e2];decide),e2])
   have HA:=zhd hA;clear hA;by_cases h1:y< -1
   ·have e1:decide (y< -1)=true:=decide_eq_true h1;clear h1;go_wp2;go_ret;exact .mk hb (zm RE.out.symm)
   ·have e1:decide (y< -1)=false:=decide_eq_false h1;have e2:decide (s.p.outs≤y)=true:=decide_eq_true (by have:=HA.out;omega);clear h1;go_wp2;go_ret;exact .mk hb (zm RE.out.symm)
  have e1:decide (y< -1)=false:=decide_eq_false (by omega);have e2:decide (s.p.outs≤y)=false:=decide_eq_false (by omega);have HF2:Hid (frmV s.tab ch s.p.outs k=if 0≤befV s.tab k∧0≤nth ch (befV s.tab k).toNat∧nth ch (befV s.tab k).toNat≠y then 21 else 0):=zhd (by rw[HF.out,if_neg hA]);clear hA HF;go_wp2_with fail;refine (KB.out _ hb k hkT).mono ?_;rintro _ w5 ⟨_,rfl,hb5,rfl⟩;replace R0:=R0.ext hb5;replace R1:=R1.ext hb5;replace hb:=za hb hb5;clear r1 t2 t7 t8 l0 l1 cck hbk hb5;have r1:=R1.zc 0 rfl;have l1:=R1.lt;rcases HBF.out with hbv | ⟨u,hu,hbv⟩
  ·have HX:=zhd (HNX.out (by rw[HF2.out,if_neg (fun h=>by rw[hbv]at h;exact absurd h.1 (by decide))]));rw[hbv];clear hbv HF2 HFE HBF;go_wp2;go_roundw
   case rel=>exact ⟨k+1,by omega,by go_num,hb,R0,R1,HX⟩
   case measure=>simp[intOf];omega
  rw[hbv,Int.toNat_natCast]at HF2;rw[hbv];have hul:u<ch.length:=by omega
  have q2:=H2.out.idx hul;have ccu:=(H2.out.ext hb).cellN hul;have hbu:=World.block_lt_of_cell? _ _ ccu;have cck:=(H2.out.ext hb).cellN hlt;rw[←HYY.out]at cck;have hbk:=World.block_lt_of_cell? _ _ cck;obtain ⟨y2,hy2⟩:∃y,y=nth ch u:=⟨_,rfl⟩;rw[←hy2]at ccu HF2;have d0:decide ((0:Int)≤(u:Int))=true:=decide_eq_true (by omega);clear hbv hy2 HBF;by_cases h2:0≤y2
  case neg=>
   have e3:decide (0≤y2)=false:=decide_eq_false h2;have HX:=zhd (HNX.out (by rw[HF2.out,if_neg (fun h=>h2 h.2.1)]));clear h2;go_wp2;go_roundw
   case rel=>exact ⟨k+1,by omega,by go_num,hb,R0,R1,HX⟩
   case measure=>simp[intOf];omega
  have e3:decide (0≤y2)=true:=decide_eq_true h2;by_cases h3:y2=y
  ·have e4:(y2 !=y)=false:=by simp[h3]
   have HX:=zhd (HNX.out (by rw[HF2.out,if_neg (fun h=>h.2.2 h3)]));clear h2 h3;go_wp2;go_roundw
   case rel=>exact ⟨k+1,by omega,by go_num,hb,R0,R1,HX⟩
   case measure=>simp[intOf];omega
  ·have e4:(y2 !=y)=true:=by simp;omega
   have RE:Hid (r=21):=zhd (by
    have e5:frmV s.tab ch s.p.outs k=21:=by rw[HF2.out,if_pos ⟨by omega,h2,h3⟩]
    rw[HFE.out (by rw[e5];decide),e5])
   clear h2 h3;go_wp2;go_ret;exact .mk hb (zm RE.out.symm)
def ruleE (s:SysF) (ch:List Int):Int:=if verE s=0 then formE s ch else verE s
theorem zal {S S2:Nat→Prop} {w:World} {v vch:Value} {s:SysF} {ch:List Int} (h:SysV S w v s) (hf:PFew s.p) (h2:Ints S2 w vch ch):
  Calls Tryz.prog 83 #[v,.agg #[vch]] w (Post w fun _ r=>r=.int .i64 (ruleE s ch)):=by
 have KV:Hid (∀W,Below w.heap.size w W→Calls Tryz.prog 117 #[v] W (Post W fun _ r=>r=.int .i64 (verE s))):=zhd fun W hW=>Q6 (h.ext hW) hf;have KO:Hid (verE s=0→∀W,Below w.heap.size w W→Calls Tryz.prog 118 #[v,.agg #[vch]] W (Post W fun _ r=>r=.int .i64 (formE s ch))):=zhd fun h0 W hW=>zbo (h.ext hW) (yF h0 (by obtain ⟨_,_,_,_,_,_,hs,_⟩:=h;exact Zf hs)).tab (h2.ext hW);obtain ⟨ca,cc,sa,sc,ta,tc,xa,xc,rfl,hc,hs,ht,hx⟩:=h.zf;obtain ⟨a2,c2,rfl,_⟩:=h2.form;obtain ⟨ex,R0,R1⟩:=zb2 w [s.p.n,s.p.ins,s.p.outs,.slice ca s.p.cs.length cc,s.p.an,.slice sa s.p.st.length sc,s.p.rounds,s.tn,.slice ta s.tab.length tc,.slice xa s.ex.length xc] [.slice a2 ch.length c2] 35 38;have HR:Hid ((verE s=0→ruleE s ch=formE s ch)∧(verE s≠0→ruleE s ch=verE s)):=zhd ⟨fun h=>by unfold ruleE;rw[if_pos h],fun h=>by unfold ruleE;rw[if_neg h]⟩;obtain ⟨ve,hve⟩:∃e,e=verE s:=⟨_,rfl⟩;rw[←hve]at KV KO HR;obtain ⟨t0,t1,t2,t3,t4,t5,t6,t7,t8,t9⟩:=R0.ten;have l0:=R0.lt;clear hc hs ht hx h2 hve hf;go_enter Tryz.func83,Tryz.ntmps83;go_wp2_with fail;refine (KV.out _ ex).mono ?_;rintro _ w1 ⟨_,rfl,hb1,rfl⟩;replace R0:=R0.ext hb1;replace R1:=R1.ext hb1;replace ex:=za ex hb1;clear t0 t1 t2 t3 t4 t5 t6 t7 t8 t9 l0 hb1 KV;by_cases hv0:ve=0
 case neg=>
  have RE:=zhd (HR.out.2 hv0);have d0:(ve !=0)=true:=by simp[hv0]
  clear hv0;go_wp2;go_ret;exact .mk ex (zm RE.out.symm)
 have RE:=zhd (HR.out.1 hv0);have d0:(ve !=0)=false:=by simp[hv0]
 replace KO:=zhd (KO.out hv0);obtain ⟨t0,t1,t2,t3,t4,t5,t6,t7,t8,t9⟩:=R0.ten;have l0:=R0.lt;have r1:=R1.zc 0 rfl;have l1:=R1.lt;clear hv0;go_wp2_with fail;refine (KO.out _ ex).mono ?_;rintro _ w2 ⟨_,rfl,hb2,rfl⟩;replace ex:=za ex hb2;clear t0 t1 t2 t3 t4 t5 t6 t7 t8 t9 l0 r1 l1 hb2 KO;go_wp2;go_ret;exact .mk ex (zm RE.out.symm)
theorem SysV.moves8 {S:Nat→Prop} {w:World} {v:Value} {s:SysF} (h:SysV S w v s):Moves8 s.p.st:=by obtain ⟨_,_,_,_,_,_,hs,_⟩:=h;exact Zf hs
theorem zb3 {s:SysF} {ch:List Int} (h:ruleE s ch=0):verE s=0∧ch.length=s.tab.length∧formE s ch=0:=by
 unfold ruleE at h;split at h
 ·rename_i h0;refine ⟨h0,?_,h⟩;unfold formE at h;split at h
  ·assumption
  ·omega
 ·rename_i h0;exact absurd h h0
def minT (f:Nat→Bool):Nat→Nat→Int
 | _,0=> -1
 | k,n+1=>if f k then k else minT f (k+1) n
end Go.Proofs.YtiabbjolepnjkaaGreat
namespace Go.Proofs.YtiabbjolepnjkaaGreat
theorem zbZ {l:List Int} {k i:Nat} {x:Int} (hk:k<l.length):nth (l.set k x) i=if i=k then x else nth l i:=by
 unfold nth;rw[List.getD_eq_getElem?_getD,List.getD_eq_getElem?_getD,List.getElem?_set];by_cases e:k=i
 ·subst e;rw[if_pos rfl,if_pos hk,if_pos rfl];rfl
 ·rw[if_neg e,if_neg (fun h=>e h.symm)]
theorem minF (f:Nat→Bool):∀(n k:Nat),(minT f k n= -1∧∀i,k≤i→i<k+n→f i=false)∨∃t:Nat,minT f k n=t∧k≤t∧t<k+n∧f t=true∧∀i,k≤i→i<t→f i=false
 | 0,k=>.inl ⟨rfl,fun i h1 h2=>by omega⟩
 | n+1,k=>by
  rw[show minT f k (n+1)=if f k then (k:Int) else minT f (k+1) n from rfl];cases h:f k with
  | true=>rw[if_pos rfl];exact .inr ⟨k,rfl,Nat.le_refl _,by omega,h,fun i h1 h2=>by omega⟩
  | false=>
   rw[if_neg (by simp)];rcases minF f n (k+1) with ⟨h1,h2⟩ | ⟨t,h1,h2,h3,h4,h5⟩
   ·refine .inl ⟨h1,fun i h3 h4=>?_⟩;by_cases e1:i=k
    ·subst e1;exact h
    ·exact h2 i (by omega) (by omega)
   ·refine .inr ⟨t,h1,by omega,by omega,h4,fun i h6 h7=>?_⟩;by_cases e1:i=k
    ·subst e1;exact h
    ·exact h5 i (by omega) (by omega)
def prcT (T:List (List Int)) (v:Nat):Nat:=(nth (nthL T v) 0).toNat
theorem TabV.prc {N K:Nat} {T:List (List Int)} {v q k:Nat} (h:TabV N K T v q k):prcT T v=q:=by unfold prcT;rw[h.q0];exact Int.toNat_natCast q
def hrsB (T:List (List Int)) (u w:Nat):Bool:=decide (nth (nthL T u) (3+prcT T w)=(w:Int))
theorem qG {T:List (List Int)} {u w:Nat}:hrsB T u w=true↔nth (nthL T u) (3+prcT T w)=(w:Int):=by unfold hrsB;exact decide_eq_true_iff
theorem zeR {N K:Nat} {T:List (List Int)} (hT:TabOK N K T) {u w:Nat} (hu:u<T.length) (hw:w<T.length) (h:hrsB T u w=true):rndT T u=rndT T w+1:=by
 obtain ⟨q,k,hV⟩:=hT.2 u hu;obtain ⟨p,j,hW⟩:=hT.2 w hw;have hN:=hT.1;have hp:=hW.ql;rw[qG,hW.prc]at h;rcases hV.heard p (by omega) with h1 | ⟨x,h1,h2,h3,h4,h5,h6⟩
 ·omega
 ·have e:x=w:=by omega
  subst e;rw[hV.rnd,hW.rnd];have:=hW.k0;omega
theorem zdP {N K:Nat} {T:List (List Int)} (hT:TabOK N K T) {u w j:Nat} (hu:u<T.length) (hw:w<T.length) (hj:j<5) (h:nth (nthL T u) (3+j)=(w:Int)):prcT T w=j:=by
 obtain ⟨q,k,hV⟩:=hT.2 u hu;rcases hV.heard j hj with h1 | ⟨x,h1,h2,h3,h4,h5,h6⟩
 ·omega
 ·have e:x=w:=by omega
  subst e;unfold prcT;rw[h4];exact Int.toNat_natCast j
def indV (T:List (List Int)) (x:List Int):Int:=if x∈T then (idxV T x:Int) else -1
theorem QK {T:List (List Int)} {x:List Int}:(indV T x= -1∧x∉T)∨∃y:Nat,indV T x=y∧y<T.length∧nthL T y=x:=by
 unfold indV;by_cases h:x∈T
 ·rw[if_pos h];exact .inr ⟨_,rfl,xe.2 h,qY h⟩
 ·rw[if_neg h];exact .inl ⟨rfl,h⟩
theorem ZJ {T:List (List Int)} (h:T.Nodup) {i j:Nat} (hi:i<T.length) (hj:j<T.length) (e:nthL T i=nthL T j):i=j:=by
 rw[zY hi,zY hj]at e;have hp:=List.pairwise_iff_getElem.1 h;rcases Nat.lt_trichotomy i j with h1 | h1 | h1
 ·exact absurd e (hp i j hi hj h1)
 ·exact h1
 ·exact absurd e.symm (hp j i hj hi h1)
theorem zdB {T:List (List Int)} (h:T.Nodup) {u:Nat} (hu:u<T.length):indV T (nthL T u)=u:=by
 rcases QK (T:=T) (x:=nthL T u) with ⟨_,h1⟩ | ⟨y,h1,h2,h3⟩
 ·exact absurd (yf hu) h1
 ·rw[h1,ZJ h h2 hu h3]
def repT (T:List (List Int)) (u w:Nat) (b:Int):Int:=indV T ((nthL T u).set (3+prcT T w) b)
theorem zbV {T:List (List Int)} (hn:T.Nodup) {u w:Nat} (hu:u<T.length) (h:hrsB T u w=true):repT T u w w=u:=by
 unfold repT;rw[qG]at h;have:(nthL T u).set (3+prcT T w) (w:Int)=nthL T u:=by
  apply List.ext_getElem?;intro i;rw[List.getElem?_set];by_cases e:3+prcT T w=i
  ·subst e;rw[if_pos rfl];by_cases hl:3+prcT T w<(nthL T u).length
   ·rw[if_pos hl,List.getElem?_eq_getElem hl,←yv hl,h]
   ·rw[if_neg hl,List.getElem?_eq_none (by omega)]
  ·rw[if_neg e]
 rw[this];exact zdB hn hu
theorem QR {T:List (List Int)} {u w:Nat} {b:Int}: -1≤repT T u w b∧repT T u w b<T.length:=by
 unfold repT;rcases QK (T:=T) (x:=(nthL T u).set (3+prcT T w) b) with ⟨h,_⟩ | ⟨y,h,h1,_⟩<;>omega
theorem zek {N K:Nat} {T:List (List Int)} (hT:TabOK N K T) {u v w y:Nat} {b:Int} (hu:u<T.length) (hv:v<T.length) (hp:prcT T v=prcT T w) (h:hrsB T u v=true) (hy:repT T u v w=(y:Int)):
  y<T.length∧hrsB T y w=true∧repT T y w b=repT T u v b:=by
 unfold repT at hy;rcases QK (T:=T) (x:=(nthL T u).set (3+prcT T v) (w:Int)) with ⟨h1,_⟩ | ⟨z,h1,h2,h3⟩
 ·omega
 ·obtain rfl:z=y:=by omega
  obtain ⟨q,k,hV⟩:=hT.2 u hu;obtain ⟨p,j,hW⟩:=hT.2 v hv;have hN:=hT.1;have hpl:=hW.ql;have hlen:3+prcT T v<(nthL T u).length:=by rw[hV.len,hW.prc];omega
  refine ⟨h2,?_,?_⟩
  ·rw[qG,h3,←hp];have:=zbZ (l:=nthL T u) (k:=3+prcT T v) (i:=3+prcT T v) (x:=(w:Int)) hlen;rw[this,if_pos rfl]
  ·unfold repT;rw[h3,←hp,List.set_set]
def folB (T:List (List Int)) (lab:Nat→Int) (v w:Nat):Bool:=(List.range T.length).all fun u=> !hrsB T u v||(decide (0≤repT T u v w)&&decide (lab (repT T u v w).toNat=lab u))
theorem Zd {T:List (List Int)} {lab:Nat→Int} {v w:Nat}:folB T lab v w=true↔∀u,u<T.length→hrsB T u v=true→0≤repT T u v w∧lab (repT T u v w).toNat=lab u:=by
 unfold folB;simp only[List.all_eq_true,List.mem_range,Bool.or_eq_true,Bool.not_eq_true',Bool.and_eq_true,decide_eq_true_iff];constructor
 ·intro h u hu h1;rcases h u hu with h2 | h2
  ·rw[h1]at h2;cases h2
  ·exact h2
 ·intro h u hu;cases h1:hrsB T u v with
  | false=>exact .inl rfl
  | true=>exact .inr (h u hu h1)
theorem zcg {T:List (List Int)} (hn:T.Nodup) (lab:Nat→Int) (v:Nat):folB T lab v v=true:=Zd.2 fun u hu h=>by
 rw[zbV hn hu h];exact ⟨by omega,by rw[Int.toNat_natCast]⟩
theorem XO {N K:Nat} {T:List (List Int)} (hT:TabOK N K T) {lab:Nat→Int} {v w x:Nat} (hv:v<T.length) (hp:prcT T v=prcT T w) (h:folB T lab v w=true) (h':folB T lab w x=true):folB T lab v x=true:=Zd.2 fun u hu hh=>by
 obtain ⟨h1,h2⟩:=Zd.1 h u hu hh;obtain ⟨y,hy⟩:∃y:Nat,repT T u v w=y:=⟨(repT T u v w).toNat,by omega⟩;obtain ⟨h3,h4,h5⟩:=zek (b:=(x:Int)) hT hu hv hp hh hy;obtain ⟨h6,h7⟩:=Zd.1 h' y h3 h4;rw[hy,Int.toNat_natCast]at h2;rw[h5]at h6 h7;exact ⟨h6,by rw[h7,h2]⟩
def samB (T:List (List Int)) (ch:List Int) (lab:Nat→Int) (v w:Nat):Bool:=(decide (prcT T v=prcT T w)&&decide (rndT T v=rndT T w))&&(decide (nth ch v=nth ch w)&&(folB T lab v w&&folB T lab w v))
theorem xt {T:List (List Int)} {ch:List Int} {lab:Nat→Int} {v w:Nat}:samB T ch lab v w=true↔prcT T v=prcT T w∧rndT T v=rndT T w∧nth ch v=nth ch w∧folB T lab v w=true∧folB T lab w v=true:=by
 unfold samB;simp only[Bool.and_eq_true,decide_eq_true_iff];constructor
 ·rintro ⟨⟨a,b⟩,c,d,e⟩;exact ⟨a,b,c,d,e⟩
 ·rintro ⟨a,b,c,d,e⟩;exact ⟨⟨a,b⟩,c,d,e⟩
theorem zbK {T:List (List Int)} (hn:T.Nodup) (ch:List Int) (lab:Nat→Int) (v:Nat):samB T ch lab v v=true:=xt.2 ⟨rfl,rfl,rfl,zcg hn _ _,zcg hn _ _⟩
theorem zfq {T:List (List Int)} {ch:List Int} {lab:Nat→Int} {v w:Nat} (h:samB T ch lab v w=true):samB T ch lab w v=true:=by
 obtain ⟨a,b,c,d,e⟩:=xt.1 h;exact xt.2 ⟨a.symm,b.symm,c.symm,e,d⟩
theorem zdE {N K:Nat} {T:List (List Int)} (hT:TabOK N K T) {ch:List Int} {lab:Nat→Int} {v w x:Nat} (hv:v<T.length) (hx:x<T.length) (h:samB T ch lab v w=true) (h':samB T ch lab w x=true):samB T ch lab v x=true:=by
 obtain ⟨a,b,c,d,e⟩:=xt.1 h;obtain ⟨a',b',c',d',e'⟩:=xt.1 h';exact xt.2 ⟨a.trans a',b.trans b',c.trans c',XO hT hv a d d',XO hT hx a'.symm e' e⟩
def FitP (T:List (List Int)) (ch cl:List Int):Prop:=∀v w,v<T.length→w<T.length→v≠w→nth cl v=nth cl w→(prcT T v=prcT T w∧rndT T v=rndT T w∧nth ch v=nth ch w)∧folB T (nth cl) v w=true
theorem zga {T:List (List Int)} {ch cl:List Int} (h:FitP T ch cl) {v w:Nat} (hv:v<T.length) (hw:w<T.length) (hne:v≠w) (hc:nth cl v=nth cl w):samB T ch (nth cl) v w=true:=by
 obtain ⟨⟨a,b,c⟩,d⟩:=h v w hv hw hne hc;exact xt.2 ⟨a,b,c,d,(h w v hw hv (fun e=>hne e.symm) hc.symm).2⟩
def fstC (cl:List Int) (v:Nat):Nat:=(minT (fun w=>decide (nth cl w=nth cl v)) 0 (v+1)).toNat
theorem qN (cl:List Int) (v:Nat):fstC cl v≤v∧nth cl (fstC cl v)=nth cl v∧∀w,w<fstC cl v→nth cl w≠nth cl v:=by
 unfold fstC;rcases minF (fun w=>decide (nth cl w=nth cl v)) (v+1) 0 with ⟨_,h⟩ | ⟨t,h1,h2,h3,h4,h5⟩
 ·have:=h v (by omega) (by omega);rw[decide_eq_true rfl]at this;cases this
 ·rw[h1,Int.toNat_natCast];exact ⟨by omega,of_decide_eq_true h4,fun w hw=>of_decide_eq_false (h5 w (by omega) hw)⟩
theorem zfZ {cl:List Int} {v w:Nat} (h:nth cl v=nth cl w):fstC cl v=fstC cl w:=by
 obtain ⟨a1,a2,a3⟩:=qN cl v;obtain ⟨b1,b2,b3⟩:=qN cl w;rcases Nat.lt_trichotomy (fstC cl v) (fstC cl w) with h1 | h1 | h1
 ·exact absurd (a2.trans h) (b3 _ h1)
 ·exact h1
 ·exact absurd (b2.trans h.symm) (a3 _ h1)
theorem zdV {N K:Nat} {T:List (List Int)} (hT:TabOK N K T) (hn:T.Nodup) {ch cl:List Int}:FitP T ch cl↔∀v,v<T.length→samB T ch (nth cl) v (fstC cl v)=true:=by
 constructor
 ·intro h v hv;obtain ⟨a1,a2,_⟩:=qN cl v;by_cases e:v=fstC cl v
  ·rw[←e];exact zbK hn _ _ _
  ·exact zga h hv (by omega) e a2.symm
 ·intro h v w hv hw hne hc;have h1:=h v hv;have h2:=h w hw;rw[←zfZ hc]at h2;obtain ⟨a,b,c,d,_⟩:=xt.1 (zdE hT hv hw h1 (zfq h2));exact ⟨⟨a,b,c⟩,d⟩
theorem zfI {N K:Nat} {T:List (List Int)} (hT:TabOK N K T) {u v w y:Nat} (hu:u<T.length) (hv:v<T.length) (h:hrsB T u v=true) (hy:repT T u v w=(y:Int)):y<T.length∧prcT T y=prcT T u∧rndT T y=rndT T u:=by
 unfold repT at hy;rcases QK (T:=T) (x:=(nthL T u).set (3+prcT T v) (w:Int)) with ⟨h1,_⟩ | ⟨z,h1,h2,h3⟩
 ·omega
 ·obtain rfl:z=y:=by omega
  have e:∀i,i<3→nth (nthL T z) i=nth (nthL T u) i:=fun i hi=>by
   rw[h3];by_cases hl:3+prcT T v<(nthL T u).length
   ·rw[zbZ hl,if_neg (by omega)]
   ·rw[List.set_eq_of_length_le (by omega)]
  exact ⟨h2,by unfold prcT;rw[e 0 (by omega)],by unfold rndT;rw[e 1 (by omega)]⟩
def alkB (T:List (List Int)) (ch:List Int) (v w:Nat):Bool:=(decide (prcT T v=prcT T w)&&decide (rndT T v=rndT T w))&&decide (nth ch v=nth ch w)
theorem zex {T:List (List Int)} {ch:List Int} {v w:Nat}:alkB T ch v w=true↔(prcT T v=prcT T w∧rndT T v=rndT T w)∧nth ch v=nth ch w:=by
 unfold alkB;rw[Bool.and_eq_true,Bool.and_eq_true,decide_eq_true_iff,decide_eq_true_iff,decide_eq_true_iff]
theorem nthSet {l:List Int} {i j:Nat} {b:Int} (hi:i<l.length):nth (l.set i b) j=if j=i then b else nth l j:=by
 unfold nth;rw[List.getD_eq_getElem?_getD,List.getD_eq_getElem?_getD,List.getElem?_set];by_cases e:i=j
 ·subst e;rw[if_pos rfl,if_pos hi,if_pos rfl];rfl
 ·rw[if_neg e,if_neg (fun h=>e h.symm)]
end Go.Proofs.YtiabbjolepnjkaaGreat
namespace Go.Proofs.YtiabbjolepnjkaaGreat
open Go.RowKit
attribute [local go_sem ↓] Go.wp_at_zero Go.wp_at_succ
theorem yC {N K:Nat} {T:List (List Int)} (hT:TabOK N K T) {u:Nat} (hu:u<T.length):(nthL T u).length=8:=by
 obtain ⟨q,k,h⟩:=hT.2 u hu;exact h.len
theorem yq {N K:Nat} {T:List (List Int)} (hT:TabOK N K T) {u:Nat} (hu:u<T.length):nth (nthL T u) 0=(prcT T u:Int)∧prcT T u<5∧prcT T u<N:=by
 obtain ⟨q,k,h⟩:=hT.2 u hu;have:=h.ql;have:=hT.1;rw[h.prc];exact ⟨h.q0,by omega,by omega⟩
theorem yg {N K:Nat} {T:List (List Int)} (hT:TabOK N K T) {u:Nat} (hu:u<T.length):nth (nthL T u) 1=(rndT T u:Int)∧rndT T u≤K:=by
 obtain ⟨q,k,h⟩:=hT.2 u hu;rw[h.rnd];exact ⟨h.k0,h.kl⟩
theorem Yu {x:List Int} (h:x.length=8) {j:Nat} (hj:j<5) (b:Int):(x.map (Value.int .i64)).set (3+j) (.int .i64 b)=(x.set (3+j) b).map (Value.int .i64):=by rw[List.map_set]
theorem zbE {x:List Int} (h:x.length=8) (hw:∀y∈x,WF y) {j:Nat} {b:Int} (hb:WF b):ViewOK (x.set j b):=⟨by rw[List.length_set];exact h,fun y hy=>by
 rcases List.mem_or_eq_of_mem_set hy with h1 | h1
 ·exact hw y h1
 ·rw[h1];exact hb⟩
theorem zet {S:Nat→Prop} {w:World} {v:Value} {T:List (List Int)} (h:Sl (kFlat 8) S w v T) {u:Nat} (hu:u<T.length):∀y∈nthL T u,WF y:=by
 obtain ⟨a,c,rfl,_⟩:=h.form;exact (h.num hu).2.1
theorem Qj {S:Nat→Prop} {w:World} {v:Value} {s:SysF} {u x:Nat} {b:Int} (h:SysV S w v s) (hg:GoodS s s.N s.K) (hu:u<s.tab.length) (hx':x<s.tab.length) (hb:WF b):
  Calls Tryz.prog 92 #[v,u,x,b] w (Post w fun _ r=>r=.int .i64 (repT s.tab u x b)):=by
 obtain ⟨ca,cc,sa,sc,ta,tc,xa,xc,rfl,hc,hs,ht,hx⟩:=h.zf;obtain ⟨_,_,hee,tad,_⟩:=ht.form2;cases hee;obtain ⟨i0,hi,hz⟩:=zG zJ;have HQ:=zhd (zF Tryz.underlying30 hi hz tad);have HX:Hid (∀(W:World) (y:List Int),Below w.heap.size w W→ViewOK y→Calls Tryz.prog 124 #[.agg #[s.tn,.slice ta s.tab.length tc],.agg #[nth y 0,nth y 1,nth y 2,nth y 3,nth y 4,nth y 5,nth y 6,nth y 7]] W (Post W fun _ r=>r=.int .i64 (if y∈s.tab then (idxV s.tab y:Nat) else -1))):=zhd fun W y hW hy=>ZV s.tn (ht.ext hW) hy;have HTB:=zhd hg.tab;obtain ⟨e0,p5,_⟩:=yq HTB.out hx';have l8:=yC HTB.out hu;have HVO:=zhd (zbE l8 (zet ht hu) (j:=3+prcT s.tab x) hb);have HR:Hid (repT s.tab u x b=(if (nthL s.tab u).set (3+prcT s.tab x) b∈s.tab then ((idxV s.tab ((nthL s.tab u).set (3+prcT s.tab x) b):Nat):Int) else -1)):=zhd rfl;have HXX:=zhd (fun W hW=>HX.out W _ hW HVO.out);rw[←HR.out]at HXX;obtain ⟨r,hr⟩:=zn (repT s.tab u x b);rw[←hr]at HXX ⊢;obtain ⟨y,hy⟩:=zn (nthL s.tab u);obtain ⟨q,hq⟩:=zn (prcT s.tab x);rw[←hq]at e0 p5 HXX;rw[←hy]at l8 HXX;obtain ⟨ex,R0⟩:=zb1 w [s.p.n,s.p.ins,s.p.outs,.slice ca s.p.cs.length cc,s.p.an,.slice sa s.p.st.length sc,s.p.rounds,s.tn,.slice ta s.tab.length tc,.slice xa s.ex.length xc] 35;have HT:=zhd (ht.ext ex);have uq:=HQ.out u hu;have xq:=HQ.out x hx';obtain ⟨u0,ur⟩:=HT.out.nums (k:=u) hu (by decide);have x0:=(HT.out.nums (k:=x) hx' (by decide)).1;rw[e0]at x0;rw[←hy]at u0 ur;have u1:=ur 1 (by decide);have u2:=ur 2 (by decide);have u3:=ur 3 (by decide);have u4:=ur 4 (by decide);have u5:=ur 5 (by decide);have u6:=ur 6 (by decide);have u7:=ur 7 (by decide);have bu:=World.block_lt_of_cell? _ _ u0;have bx:=World.block_lt_of_cell? _ _ x0;obtain ⟨t0,t1,t2,t3,t4,t5,t6,t7,t8,t9⟩:=R0.ten;have l0:=R0.lt;have ex2:=zh ex (.cells #[nth y 0,nth y 1,nth y 2,nth y 3,nth y 4,nth y 5,nth y 6,nth y 7] 65);have RX:Row ((w.alloc (.cells #[s.p.n,s.p.ins,s.p.outs,.slice ca s.p.cs.length cc,s.p.an,.slice sa s.p.st.length sc,s.p.rounds,s.tn,.slice ta s.tab.length tc,.slice xa s.ex.length xc] 35)).alloc (.cells #[nth y 0,nth y 1,nth y 2,nth y 3,nth y 4,nth y 5,nth y 6,nth y 7] 65)) (w.heap.size+1) 65 (y.map (Value.int .i64)):=by
  have:=zg (w.alloc (.cells #[s.p.n,s.p.ins,s.p.outs,.slice ca s.p.cs.length cc,s.p.an,.slice sa s.p.st.length sc,s.p.rounds,s.tn,.slice ta s.tab.length tc,.slice xa s.ex.length xc] 35)) [nth y 0,nth y 1,nth y 2,nth y 3,nth y 4,nth y 5,nth y 6,nth y 7] 65;rw[World.size_alloc]at this;rw[cells8 l8];exact this
 have xi:=xm (w.heap.size+1) 3 p5;have HL8:=zhd l8;clear ur hc hs ht hx tad hi hz hr hy hq e0 hg HQ HT HX HR HVO HTB hb l8 hu hx';go_enter Tryz.func92,Tryz.ntmps92;go_upto_region 2 with fail;obtain ⟨wx,hwx⟩:=zn ((w.alloc (.cells #[s.p.n,s.p.ins,s.p.outs,.slice ca s.p.cs.length cc,s.p.an,.slice sa s.p.st.length sc,s.p.rounds,s.tn,.slice ta s.tab.length tc,.slice xa s.ex.length xc] 35)).alloc (.cells #[nth y 0,nth y 1,nth y 2,nth y 3,nth y 4,nth y 5,nth y 6,nth y 7] 65));obtain ⟨B1,hB1⟩:=zn (w.heap.size+1);replace R0:=R0.alloc (.cells #[nth y 0,nth y 1,nth y 2,nth y 3,nth y 4,nth y 5,nth y 6,nth y 7] 65);replace x0:=zi x0 (ze (w.alloc (.cells #[s.p.n,s.p.ins,s.p.outs,.slice ca s.p.cs.length cc,s.p.an,.slice sa s.p.st.length sc,s.p.rounds,s.tn,.slice ta s.tab.length tc,.slice xa s.ex.length xc] 35)) (.cells #[nth y 0,nth y 1,nth y 2,nth y 3,nth y 4,nth y 5,nth y 6,nth y 7] 65));rw[←hB1]at RX xi ⊢;rw[←hwx]at RX R0 ex2 x0 ⊢;have hB1w:w.heap.size≤B1:=by omega
 have hB1n:some B1≠some w.heap.size:=by intro e;injection e;omega
 clear hwx hB1 u0 u1 u2 u3 u4 u5 u6 u7 bu bx t0 t1 t2 t3 t4 t5 t6 t7 t8 t9 l0 ex;have R02:=R0.grown (zj wx B1 (3+q) (.int .i64 b)) hB1n;have RX2:=RX.set (3+q) (.int .i64 b);rw[Yu HL8.out p5,cells8 (show (y.set (3+q) b).length=8 by rw[List.length_set];exact HL8.out)]at RX2;have ex3:=ex2.setCell (p:=⟨B1,3+q,none⟩) hB1w (.int .i64 b);have cx:wx.cell? ⟨B1,3+q,none⟩=some (.int .i64 (nth y (3+q))):=RX.cell (by rw[List.getElem?_map,get?_nth (by rw[HL8.out];omega)];rfl);have fx:=RX.free (3+q);have lx:=RX.lt;have bx:=World.block_lt_of_cell? _ _ x0;obtain ⟨t0,t1,t2,t3,t4,t5,t6,t7,t8,t9⟩:=R0.ten;have l0:=R0.lt;clear R0 RX ex2;go_upto_region 3 with fail;clear t0 t1 t2 t3 t4 t5 t6 t7 t8 t9 l0 x0 cx fx lx bx xq xi uq;obtain ⟨W2,hW2⟩:=zn (wx.setCell ⟨B1,3+q,none⟩ (.int .i64 b));rw[←hW2]at R02 RX2 ex3 ⊢;clear hW2;obtain ⟨t0,t1,t2,t3,t4,t5,t6,t7,t8,t9⟩:=R02.ten;have l0:=R02.lt;have z0:=RX2.zc 0 rfl;have z1:=RX2.zc 1 rfl;have z2:=RX2.zc 2 rfl;have z3:=RX2.zc 3 rfl;have z4:=RX2.zc 4 rfl;have z5:=RX2.zc 5 rfl;have z6:=RX2.zc 6 rfl;have z7:=RX2.zc 7 rfl;have lz:=RX2.lt;have HE:=zhd ex3;have KX:=zhd (HXX.out W2 ex3);clear R02 RX2 ex3 HXX;go_wp2_with fail;refine KX.out.mono ?_;rintro _ W3 ⟨_,rfl,hb3,rfl⟩;have HE3:=zhd (za HE.out hb3);clear t0 t1 t2 t3 t4 t5 t6 t7 t8 t9 l0 z0 z1 z2 z3 z4 z5 z6 z7 lz hb3;go_wp2;go_ret;exact .mk HE3.out rfl
theorem ZW {S:Nat→Prop} {w:World} {v:Value} {s:SysF} {u x:Nat} (h:SysV S w v s) (hg:GoodS s s.N s.K) (hu:u<s.tab.length) (hx':x<s.tab.length):
  Calls Tryz.prog 91 #[v,u,x] w (Post w fun _ r=>r=.bool (hrsB s.tab u x)):=by
 obtain ⟨ca,cc,sa,sc,ta,tc,xa,xc,rfl,hc,hs,ht,hx⟩:=h.zf;obtain ⟨_,_,hee,tad,_⟩:=ht.form2;cases hee;obtain ⟨i0,hi,hz⟩:=zG zJ;have HQ:=zhd (zF Tryz.underlying30 hi hz tad);have HTB:=zhd hg.tab;obtain ⟨e0,p5,_⟩:=yq HTB.out hx';obtain ⟨e1,_⟩:=yg HTB.out hx';obtain ⟨e2,_⟩:=yg HTB.out hu;have hK:=hg.K6;have l8:=yC HTB.out hu;obtain ⟨f1,f2⟩:=yg HTB.out hu;obtain ⟨g1,g2⟩:=yg HTB.out hx';have HR:Hid (hrsB s.tab u x=(decide (rndT s.tab u=rndT s.tab x+1)&&decide (nth (nthL s.tab u) (3+prcT s.tab x)=(x:Int)))):=zhd (by
  cases hh:hrsB s.tab u x with
  | true=>rw[decide_eq_true (zeR HTB.out hu hx' hh),decide_eq_true (qG.1 hh)];rfl
  | false=>
   have:¬nth (nthL s.tab u) (3+prcT s.tab x)=(x:Int):=fun e=>by rw[qG.2 e]at hh;cases hh
   rw[decide_eq_false this,Bool.and_false])
 obtain ⟨r,hr⟩:=zn (hrsB s.tab u x);rw[←hr]at HR ⊢;obtain ⟨y,hy⟩:=zn (nthL s.tab u);obtain ⟨q,hq⟩:=zn (prcT s.tab x);obtain ⟨ru,hru⟩:=zn (rndT s.tab u);obtain ⟨rx,hrx⟩:=zn (rndT s.tab x);rw[←hq,←hy,←hru,←hrx]at HR;rw[←hq]at e0 p5;rw[←hrx]at e1 g2;rw[←hru]at e2 f2;rw[←hy]at l8 e2;obtain ⟨ex,R0⟩:=zb1 w [s.p.n,s.p.ins,s.p.outs,.slice ca s.p.cs.length cc,s.p.an,.slice sa s.p.st.length sc,s.p.rounds,s.tn,.slice ta s.tab.length tc,.slice xa s.ex.length xc] 35;have HT:=zhd (ht.ext ex);have uq:=HQ.out u hu;have xq:=HQ.out x hx';obtain ⟨u0,ur⟩:=HT.out.nums (k:=u) hu (by decide);obtain ⟨x0,xr⟩:=HT.out.nums (k:=x) hx' (by decide);have x1:=xr 1 (by decide);rw[e0]at x0;rw[e1]at x1;rw[←hy]at u0 ur;have u1:=ur 1 (by decide);have u2:=ur 2 (by decide);have u3:=ur 3 (by decide);have u4:=ur 4 (by decide);have u5:=ur 5 (by decide);have u6:=ur 6 (by decide);have u7:=ur 7 (by decide);have bu:=World.block_lt_of_cell? _ _ u0;have bx:=World.block_lt_of_cell? _ _ x0;obtain ⟨t0,t1,t2,t3,t4,t5,t6,t7,t8,t9⟩:=R0.ten;have l0:=R0.lt;have ex2:=zh ex (.cells #[nth y 0,nth y 1,nth y 2,nth y 3,nth y 4,nth y 5,nth y 6,nth y 7] 65);have RX:Row ((w.alloc (.cells #[s.p.n,s.p.ins,s.p.outs,.slice ca s.p.cs.length cc,s.p.an,.slice sa s.p.st.length sc,s.p.rounds,s.tn,.slice ta s.tab.length tc,.slice xa s.ex.length xc] 35)).alloc (.cells #[nth y 0,nth y 1,nth y 2,nth y 3,nth y 4,nth y 5,nth y 6,nth y 7] 65)) (w.heap.size+1) 65 (y.map (Value.int .i64)):=by
  have:=zg (w.alloc (.cells #[s.p.n,s.p.ins,s.p.outs,.slice ca s.p.cs.length cc,s.p.an,.slice sa s.p.st.length sc,s.p.rounds,s.tn,.slice ta s.tab.length tc,.slice xa s.ex.length xc] 35)) [nth y 0,nth y 1,nth y 2,nth y 3,nth y 4,nth y 5,nth y 6,nth y 7] 65;rw[World.size_alloc]at this;rw[cells8 l8];exact this
 have xi:=xm (w.heap.size+1) 3 p5;have HL8:=zhd l8;have HE2:=zhd e2;have hw1:ru≤6:=by omega
 have hw2:rx≤6:=by omega
 clear ur xr hc hs ht hx tad hi hz hr hy hq hru hrx e0 e1 hg HQ HTB l8 hu hx' hK f1 f2 g1 g2 e2;go_enter Tryz.func91,Tryz.ntmps91;go_upto_region 2 with fail;obtain ⟨wx,hwx⟩:=zn ((w.alloc (.cells #[s.p.n,s.p.ins,s.p.outs,.slice ca s.p.cs.length cc,s.p.an,.slice sa s.p.st.length sc,s.p.rounds,s.tn,.slice ta s.tab.length tc,.slice xa s.ex.length xc] 35)).alloc (.cells #[nth y 0,nth y 1,nth y 2,nth y 3,nth y 4,nth y 5,nth y 6,nth y 7] 65));obtain ⟨B1,hB1⟩:=zn (w.heap.size+1);replace R0:=R0.alloc (.cells #[nth y 0,nth y 1,nth y 2,nth y 3,nth y 4,nth y 5,nth y 6,nth y 7] 65);replace x0:=zi x0 (ze (w.alloc (.cells #[s.p.n,s.p.ins,s.p.outs,.slice ca s.p.cs.length cc,s.p.an,.slice sa s.p.st.length sc,s.p.rounds,s.tn,.slice ta s.tab.length tc,.slice xa s.ex.length xc] 35)) (.cells #[nth y 0,nth y 1,nth y 2,nth y 3,nth y 4,nth y 5,nth y 6,nth y 7] 65));replace x1:=zi x1 (ze (w.alloc (.cells #[s.p.n,s.p.ins,s.p.outs,.slice ca s.p.cs.length cc,s.p.an,.slice sa s.p.st.length sc,s.p.rounds,s.tn,.slice ta s.tab.length tc,.slice xa s.ex.length xc] 35)) (.cells #[nth y 0,nth y 1,nth y 2,nth y 3,nth y 4,nth y 5,nth y 6,nth y 7] 65));rw[←hB1]at RX xi ⊢;rw[←hwx]at RX R0 ex2 x0 x1 ⊢;clear hwx hB1 u0 u1 u2 u3 u4 u5 u6 u7 bu bx t0 t1 t2 t3 t4 t5 t6 t7 t8 t9 l0 ex uq;have HE:=zhd (fun n=>za ex2 (zb wx.heap.size wx n));have y1:wx.cell? ⟨B1,1,none⟩=some (.int .i64 (ru:Int)):=by rw[←HE2.out];exact RX.cell (by rw[List.getElem?_map,get?_nth (by rw[HL8.out];omega)];rfl)
 have y2:wx.cell? ⟨B1,3+q,none⟩=some (.int .i64 (nth y (3+q))):=RX.cell (by rw[List.getElem?_map,get?_nth (by rw[HL8.out];omega)];rfl);have lx:=RX.lt;have bx:=World.block_lt_of_cell? _ _ x0;obtain ⟨t0,t1,t2,t3,t4,t5,t6,t7,t8,t9⟩:=R0.ten;have l0:=R0.lt;clear R0 RX ex2;obtain ⟨z,hzz⟩:=zn (nth y (3+q));rw[←hzz]at y2 HR;clear hzz;by_cases d:ru=rx+1
 ·have d1:((ru:Int)==(rx:Int)+1)=true:=by rw[beq_iff_eq];omega
  have HR1:Hid (r=(z==(x:Int))):=zhd (by rw[HR.out,decide_eq_true d,Bool.true_and];exact (by rw[Bool.eq_iff_iff];simp));clear HR d;go_quiet (fail);go_wp2;go_ret;exact .mk (HE.out _) (zv HR1.out.symm)
 ·have d1:((ru:Int)==(rx:Int)+1)=false:=by rw[beq_eq_false_iff_ne];omega
  have HR1:Hid (r=false):=zhd (by rw[HR.out,decide_eq_false d,Bool.false_and]);clear HR d;go_quiet (fail);go_wp2;go_ret;exact .mk (HE.out _) (zv HR1.out.symm)
theorem zaz {S S2:Nat→Prop} {w:World} {v vch:Value} {s:SysF} {ch:List Int} {u x:Nat} (h:SysV S w v s) (hg:GoodS s s.N s.K) (h2:Ints S2 w vch ch) (hl:ch.length=s.tab.length) (hu:u<s.tab.length) (hx':x<s.tab.length):
  Calls Tryz.prog 121 #[v,.agg #[vch],u,x] w (Post w fun _ r=>r=.bool (alkB s.tab ch u x)):=by
 obtain ⟨ca,cc,sa,sc,ta,tc,xa,xc,rfl,hc,hs,ht,hx⟩:=h.zf;obtain ⟨_,_,hee,tad,_⟩:=ht.form2;cases hee;obtain ⟨i0,hi,hz⟩:=zG zJ;obtain ⟨a2,c2,rfl,_⟩:=h2.form;have uq:=zF Tryz.underlying30 hi hz tad u hu;have xq:=zF Tryz.underlying30 hi hz tad x hx';have rq:=h2.idx (k:=u) (by omega);have sq:=h2.idx (k:=x) (by omega);have rc:=h2.cellN (k:=u) (by omega);have sc':=h2.cellN (k:=x) (by omega);have HTB:=zhd hg.tab;obtain ⟨e0,_⟩:=yq HTB.out hx';obtain ⟨e1,_⟩:=yg HTB.out hx';obtain ⟨f0,_⟩:=yq HTB.out hu;obtain ⟨f1,_⟩:=yg HTB.out hu;have lu:=yC HTB.out hu;have lx:=yC HTB.out hx';have HR:Hid (alkB s.tab ch u x=((decide (prcT s.tab u=prcT s.tab x)&&decide (rndT s.tab u=rndT s.tab x))&&decide (nth ch u=nth ch x))):=zhd rfl;obtain ⟨r,hr⟩:=zn (alkB s.tab ch u x);rw[←hr]at HR ⊢;have hcu:=(ht.nums (k:=u) hu (by decide));have hcx:=(ht.nums (k:=x) hx' (by decide));obtain ⟨yu,hyu⟩:∃y,y=nthL s.tab u:=⟨_,rfl⟩;obtain ⟨yx,hyx⟩:∃y,y=nthL s.tab x:=⟨_,rfl⟩;rw[←hyu]at hcu f0 f1 lu;rw[←hyx]at hcx e0 e1 lx;obtain ⟨pu,hpu⟩:∃p,p=prcT s.tab u:=⟨_,rfl⟩;obtain ⟨px,hpx⟩:∃p,p=prcT s.tab x:=⟨_,rfl⟩;obtain ⟨ru,hru⟩:=zn (rndT s.tab u);obtain ⟨rx,hrx⟩:=zn (rndT s.tab x);obtain ⟨cu,hcuu⟩:∃c,c=nth ch u:=⟨_,rfl⟩;obtain ⟨cx,hcxx⟩:∃c,c=nth ch x:=⟨_,rfl⟩;rw[←hpu,←hpx,←hru,←hrx,←hcuu,←hcxx]at HR;rw[←hpu]at f0;rw[←hpx]at e0;rw[←hru]at f1;rw[←hrx]at e1;rw[←hcuu]at rc;rw[←hcxx]at sc';have HU0:=zhd f0;have HU1:=zhd f1;have HX0:=zhd e0;have HX1:=zhd e1;obtain ⟨ex,R0,R1⟩:=zb2 w [s.p.n,s.p.ins,s.p.outs,.slice ca s.p.cs.length cc,s.p.an,.slice sa s.p.st.length sc,s.p.rounds,s.tn,.slice ta s.tab.length tc,.slice xa s.ex.length xc] [.slice a2 ch.length c2] 35 38;clear hc hs ht hx tad hi hz hr hyu hyx hpu hpx hru hrx hcuu hcxx f0 f1 e0 e1 hg HTB h2 hl hu hx';go_enter Tryz.func121,Tryz.ntmps121;go_upto_region 1 with fail;obtain ⟨W0,hW0⟩:=zn ((w.alloc (.cells #[s.p.n,s.p.ins,s.p.outs,.slice ca s.p.cs.length cc,s.p.an,.slice sa s.p.st.length sc,s.p.rounds,s.tn,.slice ta s.tab.length tc,.slice xa s.ex.length xc] 35)).alloc (.cells #[.slice a2 ch.length c2] 38));obtain ⟨B0,hB0⟩:=zn w.heap.size;obtain ⟨B1,hB1⟩:=zn (w.heap.size+1);rw[←hW0]at R0 R1 ex ⊢;rw[←hB1]at R1 ⊢;rw[←hB0]at R0 ⊢;have HEX:=zhd ex;have KEEP:Hid (∀w',Below W0.heap.size W0 w'→(fun w':World=>w'.cell? ⟨B0,7,none⟩=some (.int .i64 s.tn)∧w'.cell? ⟨B0,8,none⟩=some (.slice ta s.tab.length tc)∧w'.cell? (adr ta (u * 8))=some (.int .i64 (nth yu 0))∧w'.cell? ⟨(adr ta (u * 8)).block,(adr ta (u * 8)).off+1,none⟩=some (.int .i64 (nth yu 1))∧w'.cell? ⟨(adr ta (u * 8)).block,(adr ta (u * 8)).off+2,none⟩=some (.int .i64 (nth yu 2))∧w'.cell? ⟨(adr ta (u * 8)).block,(adr ta (u * 8)).off+3,none⟩=some (.int .i64 (nth yu 3))∧w'.cell? ⟨(adr ta (u * 8)).block,(adr ta (u * 8)).off+4,none⟩=some (.int .i64 (nth yu 4))∧w'.cell? ⟨(adr ta (u * 8)).block,(adr ta (u * 8)).off+5,none⟩=some (.int .i64 (nth yu 5))∧w'.cell? ⟨(adr ta (u * 8)).block,(adr ta (u * 8)).off+6,none⟩=some (.int .i64 (nth yu 6))∧w'.cell? ⟨(adr ta (u * 8)).block,(adr ta (u * 8)).off+7,none⟩=some (.int .i64 (nth yu 7))∧w'.cell? (adr ta (x * 8))=some (.int .i64 (nth yx 0))∧w'.cell? ⟨(adr ta (x * 8)).block,(adr ta (x * 8)).off+1,none⟩=some (.int .i64 (nth yx 1))∧w'.cell? ⟨(adr ta (x * 8)).block,(adr ta (x * 8)).off+2,none⟩=some (.int .i64 (nth yx 2))∧w'.cell? ⟨(adr ta (x * 8)).block,(adr ta (x * 8)).off+3,none⟩=some (.int .i64 (nth yx 3))∧w'.cell? ⟨(adr ta (x * 8)).block,(adr ta (x * 8)).off+4,none⟩=some (.int .i64 (nth yx 4))∧w'.cell? ⟨(adr ta (x * 8)).block,(adr ta (x * 8)).off+5,none⟩=some (.int .i64 (nth yx 5))∧w'.cell? ⟨(adr ta (x * 8)).block,(adr ta (x * 8)).off+6,none⟩=some (.int .i64 (nth yx 6))∧w'.cell? ⟨(adr ta (x * 8)).block,(adr ta (x * 8)).off+7,none⟩=some (.int .i64 (nth yx 7))) w'):=zhd fun w' hw=>⟨(R0.ext hw).zc 7 rfl,(R0.ext hw).zc 8 rfl,zi hcu.1 (za HEX.out hw),zi (hcu.2 1 (by decide)) (za HEX.out hw),zi (hcu.2 2 (by decide)) (za HEX.out hw),zi (hcu.2 3 (by decide)) (za HEX.out hw),zi (hcu.2 4 (by decide)) (za HEX.out hw),zi (hcu.2 5 (by decide)) (za HEX.out hw),zi (hcu.2 6 (by decide)) (za HEX.out hw),zi (hcu.2 7 (by decide)) (za HEX.out hw),zi hcx.1 (za HEX.out hw),zi (hcx.2 1 (by decide)) (za HEX.out hw),zi (hcx.2 2 (by decide)) (za HEX.out hw),zi (hcx.2 3 (by decide)) (za HEX.out hw),zi (hcx.2 4 (by decide)) (za HEX.out hw),zi (hcx.2 5 (by decide)) (za HEX.out hw),zi (hcx.2 6 (by decide)) (za HEX.out hw),zi (hcx.2 7 (by decide)) (za HEX.out hw)⟩;have HUX:=zhd (And.intro lu lx);have RC:Hid (∀w',Below W0.heap.size W0 w'→w'.cell? ⟨B1,0,none⟩=some (.slice a2 ch.length c2)∧w'.cell? (adr a2 u)=some (.int .i64 cu)∧w'.cell? (adr a2 x)=some (.int .i64 cx)):=zhd fun w' hw=>⟨(R1.ext hw).zc 0 rfl,zi rc (za HEX.out hw),zi sc' (za HEX.out hw)⟩;clear R0 R1 ex hcu hcx rc sc' lu lx hW0 hB0 hB1;refine zC (fun w':World=>w'.cell? ⟨B0,7,none⟩=some (.int .i64 s.tn)∧w'.cell? ⟨B0,8,none⟩=some (.slice ta s.tab.length tc)∧w'.cell? (adr ta (u * 8))=some (.int .i64 (nth yu 0))∧w'.cell? ⟨(adr ta (u * 8)).block,(adr ta (u * 8)).off+1,none⟩=some (.int .i64 (nth yu 1))∧w'.cell? ⟨(adr ta (u * 8)).block,(adr ta (u * 8)).off+2,none⟩=some (.int .i64 (nth yu 2))∧w'.cell? ⟨(adr ta (u * 8)).block,(adr ta (u * 8)).off+3,none⟩=some (.int .i64 (nth yu 3))∧w'.cell? ⟨(adr ta (u * 8)).block,(adr ta (u * 8)).off+4,none⟩=some (.int .i64 (nth yu 4))∧w'.cell? ⟨(adr ta (u * 8)).block,(adr ta (u * 8)).off+5,none⟩=some (.int .i64 (nth yu 5))∧w'.cell? ⟨(adr ta (u * 8)).block,(adr ta (u * 8)).off+6,none⟩=some (.int .i64 (nth yu 6))∧w'.cell? ⟨(adr ta (u * 8)).block,(adr ta (u * 8)).off+7,none⟩=some (.int .i64 (nth yu 7))∧w'.cell? (adr ta (x * 8))=some (.int .i64 (nth yx 0))∧w'.cell? ⟨(adr ta (x * 8)).block,(adr ta (x * 8)).off+1,none⟩=some (.int .i64 (nth yx 1))∧w'.cell? ⟨(adr ta (x * 8)).block,(adr ta (x * 8)).off+2,none⟩=some (.int .i64 (nth yx 2))∧w'.cell? ⟨(adr ta (x * 8)).block,(adr ta (x * 8)).off+3,none⟩=some (.int .i64 (nth yx 3))∧w'.cell? ⟨(adr ta (x * 8)).block,(adr ta (x * 8)).off+4,none⟩=some (.int .i64 (nth yx 4))∧w'.cell? ⟨(adr ta (x * 8)).block,(adr ta (x * 8)).off+5,none⟩=some (.int .i64 (nth yx 5))∧w'.cell? ⟨(adr ta (x * 8)).block,(adr ta (x * 8)).off+6,none⟩=some (.int .i64 (nth yx 6))∧w'.cell? ⟨(adr ta (x * 8)).block,(adr ta (x * 8)).off+7,none⟩=some (.int .i64 (nth yx 7))) (fun i=>false) (by kernel_rfl) ?_ (fun hHeld=>?_)
 ·exact KEEP.out _ (zb W0.heap.size W0 1)
 refine zt 0 hHeld ?_;refine zt 1 hHeld ?_;refine zt 2 hHeld ?_;refine zt 3 hHeld ?_;refine zt 4 hHeld ?_;refine zt 5 hHeld ?_;refine zt 6 hHeld ?_;refine zt 7 hHeld ?_;refine zt 8 hHeld ?_;refine zt 9 hHeld ?_;refine zt 10 hHeld ?_;refine zt 11 hHeld ?_;refine Zg 12 13 rfl rfl (by kernel_rfl) (fun K hK=>?_) (fun K hK=>?_)
 ·go_simp;refine zk hK (KEEP.out _ (zr (ze W0 (.cells #[.int .i64 0,.int .i64 0,.int .i64 0,.int .i64 0,.int .i64 0,.int .i64 0,.int .i64 0,.int .i64 0] 65)) 1)) (fun hHeld=>?_);clear hK K;refine zo 13 (fun K hK=>?_);go_simp;refine zk hK (KEEP.out _ (zr (zh (ze W0 (.cells #[.int .i64 0,.int .i64 0,.int .i64 0,.int .i64 0,.int .i64 0,.int .i64 0,.int .i64 0,.int .i64 0] 65)) (.cells #[.int .i64 0,.int .i64 0,.int .i64 0,.int .i64 0,.int .i64 0,.int .i64 0,.int .i64 0,.int .i64 0] 65)) 1)) (fun hHeld=>?_);clear hK K;refine zo 14 (fun K hK=>?_);go_simp;refine zk hK (KEEP.out _ (zr (zh (ze W0 (.cells #[nth yu 0,nth yu 1,nth yu 2,nth yu 3,nth yu 4,nth yu 5,nth yu 6,nth yu 7] 65)) (.cells #[.int .i64 0,.int .i64 0,.int .i64 0,.int .i64 0,.int .i64 0,.int .i64 0,.int .i64 0,.int .i64 0] 65)) 1)) (fun hHeld=>?_);clear hK K;refine zo 15 (fun K hK=>?_);go_simp;refine zk hK (KEEP.out _ (zr (zh (ze W0 (.cells #[nth yu 0,nth yu 1,nth yu 2,nth yu 3,nth yu 4,nth yu 5,nth yu 6,nth yu 7] 65)) (.cells #[nth yx 0,nth yx 1,nth yx 2,nth yx 3,nth yx 4,nth yx 5,nth yx 6,nth yx 7] 65)) 1)) (fun hHeld=>?_);clear hK K;refine zx (by kernel_rfl) ?_ _;have Ru0:=(zg W0 [nth yu 0,nth yu 1,nth yu 2,nth yu 3,nth yu 4,nth yu 5,nth yu 6,nth yu 7] 65).alloc (.cells #[nth yx 0,nth yx 1,nth yx 2,nth yx 3,nth yx 4,nth yx 5,nth yx 6,nth yx 7] 65);have Rx0:=zg (W0.alloc (.cells #[nth yu 0,nth yu 1,nth yu 2,nth yu 3,nth yu 4,nth yu 5,nth yu 6,nth yu 7] 65)) [nth yx 0,nth yx 1,nth yx 2,nth yx 3,nth yx 4,nth yx 5,nth yx 6,nth yx 7] 65;rw[World.size_alloc]at Rx0;have e2:=zr (zh (ze W0 (.cells #[nth yu 0,nth yu 1,nth yu 2,nth yu 3,nth yu 4,nth yu 5,nth yu 6,nth yu 7] 65)) (.cells #[nth yx 0,nth yx 1,nth yx 2,nth yx 3,nth yx 4,nth yx 5,nth yx 6,nth yx 7] 65)) 1;have Rf:=Ru0.ext (zb _ _ 1);have Rg:=Rx0.ext (zb _ _ 1);obtain ⟨W2,hW2⟩:=zn (((W0.alloc (.cells #[nth yu 0,nth yu 1,nth yu 2,nth yu 3,nth yu 4,nth yu 5,nth yu 6,nth yu 7] 65)).alloc (.cells #[nth yx 0,nth yx 1,nth yx 2,nth yx 3,nth yx 4,nth yx 5,nth yx 6,nth yx 7] 65)).drewN 1);have hW3:((W0.alloc (.cells #[nth yu 0,nth yu 1,nth yu 2,nth yu 3,nth yu 4,nth yu 5,nth yu 6,nth yu 7] 65)).alloc (.cells #[nth yx 0,nth yx 1,nth yx 2,nth yx 3,nth yx 4,nth yx 5,nth yx 6,nth yx 7] 65)).drew=W2:=hW2.symm;rw[←hW2]at e2 Rf Rg;rw[hW3];have u0:=Rf.zc 0 rfl;have u1:=Rf.zc 1 rfl;have x0:=Rg.zc 0 rfl;have x1:=Rg.zc 1 rfl;have lf:=Rf.lt;have lg:=Rg.lt;clear hHeld hW2 hW3 Rf Rg Ru0 Rx0;rw[HU0.out]at u0;rw[HU1.out]at u1;rw[HX0.out]at x0;rw[HX1.out]at x1;obtain ⟨r0,c0,c1⟩:=RC.out W2 e2;have HE:=zhd (fun n=>za (za HEX.out e2) (zb W2.heap.size W2 n));clear RC KEEP e2 HEX;by_cases hp:pu=px
  case neg=>
   have d1:((pu:Int)==(px:Int))=false:=by rw[beq_eq_false_iff_ne];omega
   have HRR:Hid (r=false):=zhd (by rw[HR.out,decide_eq_false hp];rfl);clear HR;go_wp2;go_quiet (fail);go_wp2;go_ret;exact .mk (HE.out _) (zv HRR.out.symm)
  have d1:((pu:Int)==(px:Int))=true:=by rw[hp];simp
  by_cases hrr:ru=rx
  case neg=>
   have d2:((ru:Int)==(rx:Int))=false:=by rw[beq_eq_false_iff_ne];omega
   have HR':Hid (r=false):=zhd (by rw[HR.out,decide_eq_true hp,decide_eq_false hrr];rfl);clear hp;clear HR;go_wp2;go_quiet (fail);go_wp2;go_ret;exact .mk (HE.out _) (zv HR'.out.symm)
  have d2:((ru:Int)==(rx:Int))=true:=by rw[hrr];simp
  have HR':Hid (r=(cu==cx)):=zhd (by rw[HR.out,decide_eq_true hp,decide_eq_true hrr,Bool.true_and,Bool.true_and];exact (by rw[Bool.eq_iff_iff];simp));clear HR hp hrr;go_wp2;go_quiet (fail);go_wp2;go_ret;exact .mk (HE.out _) (zv HR'.out.symm)
 ·go_simp;refine zk hK (KEEP.out _ (zr (ze W0 (.cells #[.int .i64 0,.int .i64 0,.int .i64 0,.int .i64 0,.int .i64 0,.int .i64 0,.int .i64 0,.int .i64 0] 65)) 1)) (fun hHeld=>?_);clear hK K;refine zo 12 (fun K hK=>?_);go_simp;refine zk hK (KEEP.out _ (zr (zh (ze W0 (.cells #[.int .i64 0,.int .i64 0,.int .i64 0,.int .i64 0,.int .i64 0,.int .i64 0,.int .i64 0,.int .i64 0] 65)) (.cells #[.int .i64 0,.int .i64 0,.int .i64 0,.int .i64 0,.int .i64 0,.int .i64 0,.int .i64 0,.int .i64 0] 65)) 1)) (fun hHeld=>?_);clear hK K;refine zo 14 (fun K hK=>?_);go_simp;refine zk hK (KEEP.out _ (zr (zh (ze W0 (.cells #[.int .i64 0,.int .i64 0,.int .i64 0,.int .i64 0,.int .i64 0,.int .i64 0,.int .i64 0,.int .i64 0] 65)) (.cells #[nth yu 0,nth yu 1,nth yu 2,nth yu 3,nth yu 4,nth yu 5,nth yu 6,nth yu 7] 65)) 1)) (fun hHeld=>?_);clear hK K;refine zo 15 (fun K hK=>?_);go_simp;refine zk hK (KEEP.out _ (zr (zh (ze W0 (.cells #[nth yx 0,nth yx 1,nth yx 2,nth yx 3,nth yx 4,nth yx 5,nth yx 6,nth yx 7] 65)) (.cells #[nth yu 0,nth yu 1,nth yu 2,nth yu 3,nth yu 4,nth yu 5,nth yu 6,nth yu 7] 65)) 1)) (fun hHeld=>?_);clear hK K;refine zx (by kernel_rfl) ?_ _;have Rx0:=(zg W0 [nth yx 0,nth yx 1,nth yx 2,nth yx 3,nth yx 4,nth yx 5,nth yx 6,nth yx 7] 65).alloc (.cells #[nth yu 0,nth yu 1,nth yu 2,nth yu 3,nth yu 4,nth yu 5,nth yu 6,nth yu 7] 65);have Ru0:=zg (W0.alloc (.cells #[nth yx 0,nth yx 1,nth yx 2,nth yx 3,nth yx 4,nth yx 5,nth yx 6,nth yx 7] 65)) [nth yu 0,nth yu 1,nth yu 2,nth yu 3,nth yu 4,nth yu 5,nth yu 6,nth yu 7] 65;rw[World.size_alloc]at Ru0;have e2:=zr (zh (ze W0 (.cells #[nth yx 0,nth yx 1,nth yx 2,nth yx 3,nth yx 4,nth yx 5,nth yx 6,nth yx 7] 65)) (.cells #[nth yu 0,nth yu 1,nth yu 2,nth yu 3,nth yu 4,nth yu 5,nth yu 6,nth yu 7] 65)) 1;have Rf:=Rx0.ext (zb _ _ 1);have Rg:=Ru0.ext (zb _ _ 1);obtain ⟨W2,hW2⟩:=zn (((W0.alloc (.cells #[nth yx 0,nth yx 1,nth yx 2,nth yx 3,nth yx 4,nth yx 5,nth yx 6,nth yx 7] 65)).alloc (.cells #[nth yu 0,nth yu 1,nth yu 2,nth yu 3,nth yu 4,nth yu 5,nth yu 6,nth yu 7] 65)).drewN 1);have hW3:((W0.alloc (.cells #[nth yx 0,nth yx 1,nth yx 2,nth yx 3,nth yx 4,nth yx 5,nth yx 6,nth yx 7] 65)).alloc (.cells #[nth yu 0,nth yu 1,nth yu 2,nth yu 3,nth yu 4,nth yu 5,nth yu 6,nth yu 7] 65)).drew=W2:=hW2.symm;rw[←hW2]at e2 Rf Rg;rw[hW3];have x0:=Rf.zc 0 rfl;have x1:=Rf.zc 1 rfl;have u0:=Rg.zc 0 rfl;have u1:=Rg.zc 1 rfl;have lf:=Rf.lt;have lg:=Rg.lt;clear hHeld hW2 hW3 Rf Rg Rx0 Ru0;rw[HU0.out]at u0;rw[HU1.out]at u1;rw[HX0.out]at x0;rw[HX1.out]at x1;obtain ⟨r0,c0,c1⟩:=RC.out W2 e2;have HE:=zhd (fun n=>za (za HEX.out e2) (zb W2.heap.size W2 n));clear RC KEEP e2 HEX;by_cases hp:pu=px
  case neg=>
   have d1:((pu:Int)==(px:Int))=false:=by rw[beq_eq_false_iff_ne];omega
   have HRR:Hid (r=false):=zhd (by rw[HR.out,decide_eq_false hp];rfl);clear HR;go_wp2;go_quiet (fail);go_wp2;go_ret;exact .mk (HE.out _) (zv HRR.out.symm)
  have d1:((pu:Int)==(px:Int))=true:=by rw[hp];simp
  by_cases hrr:ru=rx
  case neg=>
   have d2:((ru:Int)==(rx:Int))=false:=by rw[beq_eq_false_iff_ne];omega
   have HR':Hid (r=false):=zhd (by rw[HR.out,decide_eq_true hp,decide_eq_false hrr];rfl);clear hp;clear HR;go_wp2;go_quiet (fail);go_wp2;go_ret;exact .mk (HE.out _) (zv HR'.out.symm)
  have d2:((ru:Int)==(rx:Int))=true:=by rw[hrr];simp
  have HR':Hid (r=(cu==cx)):=zhd (by rw[HR.out,decide_eq_true hp,decide_eq_true hrr,Bool.true_and,Bool.true_and];exact (by rw[Bool.eq_iff_iff];simp));clear HR hp hrr;go_wp2;go_quiet (fail);go_wp2;go_ret;exact .mk (HE.out _) (zv HR'.out.symm)
end Go.Proofs.YtiabbjolepnjkaaGreat
