/- Part of the proof that the laws answer true for every input. -/
import Derived.Test.YtiabbjolepnjkaaGreatPMaA23
import Derived.Test.YtiabbjolepnjkaaGreatPMaA24
set_option linter.unusedSimpArgs false
set_option linter.unnecessarySimpa false
set_option linter.unusedVariables false
set_option maxRecDepth 100000
set_option maxHeartbeats 40000000
namespace Go.Proofs.YtiabbjolepnjkaaGreat
open Go.RowKit
attribute [local go_sem ↓] Go.wp_at_zero Go.wp_at_succ
def chkQ (s:SysF) (ch cl:List Int):Int:=if checkS cl=0 then (if cl.length=s.tab.length then (if fitB s.tab ch cl then 0 else 18) else 15) else checkS cl
def verQ (s:SysF) (ch cl:List Int):Int:=if ruleE s ch=0 then chkQ s ch cl else ruleE s ch
theorem zbm {S S2 S3:Nat→Prop} {w:World} {v vch vcl:Value} {s:SysF} {ch cl:List Int} (h:SysV S w v s) (hg:GoodS s s.N s.K) (h2:Ints S2 w vch ch) (h3:Ints S3 w vcl cl) (hl:ch.length=s.tab.length) (hm:s.tab.length≤60000):
  Calls Tryz.prog 51 #[v,.agg #[vch],vcl] w (Post w fun _ r=>r=.int .i64 (chkQ s ch cl)):=by
 have KC:Hid (∀W,Below w.heap.size w W→Calls Tryz.prog 81 #[vcl] W (Post W fun _ r=>r=.int .i64 (checkS cl))):=zhd fun W hW=>YW (h3.ext hW);have KF:Hid (cl.length=s.tab.length→∀W,Below w.heap.size w W→Calls Tryz.prog 88 #[v,.agg #[vch],vcl] W (Post W fun _ r=>r=.bool (fitB s.tab ch cl))):=zhd fun hl3 W hW=>zbd (h.ext hW) hg (h2.ext hW) (h3.ext hW) hl hl3 hm;have HQ:Hid (chkQ s ch cl=if checkS cl=0 then (if cl.length=s.tab.length then (if fitB s.tab ch cl then 0 else 18) else 15) else checkS cl):=zhd rfl;obtain ⟨r,hr⟩:=zn (chkQ s ch cl);rw[←hr]at HQ ⊢;obtain ⟨e,hee⟩:=zn (checkS cl);rw[←hee]at KC HQ;obtain ⟨b,hb⟩:=zn (fitB s.tab ch cl);rw[←hb]at KF HQ;obtain ⟨ca,cc,sa,sc,ta,tc,xa,xc,rfl,hc,hs,ht,hx⟩:=h.zf;obtain ⟨a2,c2,rfl,_⟩:=h2.form;obtain ⟨a3,c3,rfl,_⟩:=h3.form;obtain ⟨ex,R0,R1⟩:=zb2 w [s.p.n,s.p.ins,s.p.outs,.slice ca s.p.cs.length cc,s.p.an,.slice sa s.p.st.length sc,s.p.rounds,s.tn,.slice ta s.tab.length tc,.slice xa s.ex.length xc] [.slice a2 ch.length c2] 35 38;obtain ⟨n,hn⟩:=zn s.tab.length;rw[←hn]at KF HQ ex R0 R1;obtain ⟨m,hmm⟩:=zn cl.length;rw[←hmm]at KF HQ KC;clear hc hs ht hx h2 h3 hee hr hb hl hm hg;go_enter Tryz.func51,Tryz.ntmps51;rw[←hn,←hmm];clear hn hmm;obtain ⟨t0,t1,t2,t3,t4,t5,t6,t7,t8,t9⟩:=R0.ten;have l0:=R0.lt;have r0:=R1.zc 0 rfl;have l1:=R1.lt;go_wp2_with fail;refine (KC.out _ ex).mono ?_;rintro _ w1 ⟨_,rfl,hb,rfl⟩;replace R0:=R0.ext hb;replace R1:=R1.ext hb;replace ex:=za ex hb;clear hb KC t0 t1 t2 t3 t4 t5 t6 t7 t8 t9 l0 r0 l1;by_cases h0:e=0
 case neg=>
  have RE:=zhd (HQ.out.trans (if_neg h0));have d0:(e !=0)=true:=by simp[h0]
  clear h0 HQ;go_wp2;go_ret;exact .mk ex (zm RE.out.symm)
 have HQ1:=zhd (HQ.out.trans (if_pos h0));have d0:(e !=0)=false:=by simp[h0]
 obtain ⟨t0,t1,t2,t3,t4,t5,t6,t7,t8,t9⟩:=R0.ten;have l0:=R0.lt;have r0:=R1.zc 0 rfl;have l1:=R1.lt;by_cases h1:m=n
 case neg=>
  have RE:=zhd (HQ1.out.trans (if_neg h1));have d1:((m:Int) !=(n:Int))=true:=by rw[bne_iff_ne];omega
  clear h0 h1 HQ HQ1;go_wp2;go_ret;exact .mk ex (zm RE.out.symm)
 have HQ2:=zhd (HQ1.out.trans (if_pos h1));have KF1:=zhd (KF.out h1);have d1:((m:Int) !=(n:Int))=false:=by rw[h1];simp
 clear h0 h1 HQ HQ1 KF;go_wp2_with fail;refine (KF1.out _ ex).mono ?_;rintro _ w2 ⟨_,rfl,hb2,rfl⟩;replace ex:=za ex hb2;clear hb2 KF1 t0 t1 t2 t3 t4 t5 t6 t7 t8 t9 l0 r0 l1;cases b with
 | false=>
  have RE:Hid (r=18):=zhd (by rw[HQ2.out];rfl);go_wp2;go_ret;exact .mk ex (zm RE.out.symm)
 | true=>
  have RE:Hid (r=0):=zhd (by rw[HQ2.out];rfl);go_wp2;go_ret;exact .mk ex (zm RE.out.symm)
def silL (s:SysF):List Int:=List.replicate s.tab.length (-1)
theorem Xu (s:SysF):(silL s).length=s.tab.length:=List.length_replicate ..
theorem zdS {s:SysF} {v:Nat} (h:v<s.tab.length):nth (silL s) v= -1:=by simp[silL,nth,h]
theorem zfD {s:SysF} (h8:Moves8 s.p.st):ruleE s (silL s)=verE s:=by
 unfold ruleE;by_cases h0:verE s=0
 case neg=>rw[if_neg h0]
 rw[if_pos h0,h0];have hg:=yF h0 h8;have ho:1≤s.p.outs:=by have:=yM hg.pok.t;omega
 unfold formE;rw[if_pos (Xu s)];refine ym fun v hv=>?_;rw[Xu]at hv;unfold frmV;rw[zdS hv,if_neg (by omega)];rcases hg.tab.bef hv with h1 | ⟨u,h1,h2⟩
 ·rw[if_neg (by omega)]
 ·rw[h2,Int.toNat_natCast,zdS (by omega),if_neg (by omega)]
def mesE (s:SysF) (cl:List Int):Int:=if verE s=0 then chkQ s (silL s) cl else verE s
theorem zf8 {s:SysF} (h8:Moves8 s.p.st) (cl:List Int):verQ s (silL s) cl=mesE s cl:=by
 unfold verQ mesE;rw[zfD h8]
def plcE (s:SysF) (cl:List Int) (r f t:Int):Int:=
 if mesE s cl=0 then (if r<0∨s.p.rounds≤r then 2 else if f<0∨s.tn≤f∨t<0∨s.tn≤t then 6 else if f=t then 11 else 0) else mesE s cl
theorem XS {s:SysF} {cl:List Int} (h:mesE s cl=0):verE s=0∧Good cl∧cl.length=s.tab.length∧fitB s.tab (silL s) cl=true:=by
 unfold mesE at h;by_cases h0:verE s=0
 case neg=>rw[if_neg h0]at h;exact absurd h h0
 rw[if_pos h0]at h;unfold chkQ at h;by_cases h1:checkS cl=0
 case neg=>rw[if_neg h1]at h;exact absurd h h1
 rw[if_pos h1]at h;by_cases h2:cl.length=s.tab.length
 case neg=>rw[if_neg h2]at h;cases h
 rw[if_pos h2]at h;cases h3:fitB s.tab (silL s) cl with
 | false=>rw[h3]at h;cases h
 | true=>exact ⟨h0,zbi.1 h1,h2,rfl⟩
theorem zfU {s:SysF} {cl:List Int} {r f t:Int} (h:plcE s cl r f t=0):mesE s cl=0∧(0≤r∧r<s.p.rounds)∧(0≤f∧f<s.tn)∧(0≤t∧t<s.tn)∧f≠t:=by
 unfold plcE at h;by_cases h0:mesE s cl=0
 case neg=>rw[if_neg h0]at h;exact absurd h h0
 rw[if_pos h0]at h;by_cases h1:r<0∨s.p.rounds≤r
 ·rw[if_pos h1]at h;cases h
 rw[if_neg h1]at h;by_cases h2:f<0∨s.tn≤f∨t<0∨s.tn≤t
 ·rw[if_pos h2]at h;cases h
 rw[if_neg h2]at h;by_cases h3:f=t
 ·rw[if_pos h3]at h;cases h
 exact ⟨h0,by omega,by omega,by omega,h3⟩
def SilI (n k:Nat) (L:List Int):Prop:=L.length=n∧∀j,j<k→nth L j= -1
theorem SilI.done {n:Nat} {L:List Int} (h:SilI n n L):L=List.replicate n (-1):=by
 apply List.ext_getElem
 ·rw[h.1,List.length_replicate]
 ·intro i h1 h2;have:=h.2 i (by rw[←h.1];exact h1);rw[yv h1]at this;rw[this,List.getElem_replicate]
theorem SilI.step {n k:Nat} {L:List Int} (h:SilI n k L) (hk:k<n):SilI n (k+1) (L.set k (-1)):=⟨by rw[List.length_set];exact h.1,fun j hj=>by
 rw[nthSet (by rw[h.1];exact hk)];split
 ·rfl
 ·exact h.2 j (by omega)⟩
theorem zcn {S:Nat→Prop} {w:World} {v:Value} {s:SysF} (h:SysV S w v s) (hm:s.tab.length≤60000):
  Calls Tryz.prog 106 #[v] w (Post w fun w' r=>∃u,r=.agg #[u]∧Ints (fun b=>w.heap.size≤b) w' u (silL s)):=by
 obtain ⟨ca,cc,sa,sc,ta,tc,xa,xc,rfl,hc,hs,ht,hx⟩:=h.zf;have HS:Hid (silL s=List.replicate s.tab.length (-1)):=zhd rfl;obtain ⟨sl,hsl⟩:∃l,l=silL s:=⟨_,rfl⟩;rw[←hsl]at HS ⊢;obtain ⟨n,hn⟩:=zn s.tab.length;rw[←hn]at HS hm ⊢;have hmk:=run_make_row' 36 3 (.int .i64 0) 8 Tryz.underlying36 info3 rfl .i64 .i64 n (by omega) (by omega);have ex:=zh (zh (ze w (.cells #[s.p.n,s.p.ins,s.p.outs,.slice ca s.p.cs.length cc,s.p.an,.slice sa s.p.st.length sc,s.p.rounds,s.tn,.slice ta n tc,.slice xa s.ex.length xc] 35)) (.cells #[.slice none 0 0] 38)) (.cells (madeCells #[.int .i64 0] n) 3);have R0:=((zg w [s.p.n,s.p.ins,s.p.outs,.slice ca s.p.cs.length cc,s.p.an,.slice sa s.p.st.length sc,s.p.rounds,s.tn,.slice ta n tc,.slice xa s.ex.length xc] 35).alloc (.cells #[.slice none 0 0] 38)).alloc (.cells (madeCells #[.int .i64 0] n) 3);have R1:=(zg (w.alloc (.cells #[s.p.n,s.p.ins,s.p.outs,.slice ca s.p.cs.length cc,s.p.an,.slice sa s.p.st.length sc,s.p.rounds,s.tn,.slice ta n tc,.slice xa s.ex.length xc] 35)) [.slice none 0 0] 38).alloc (.cells (madeCells #[.int .i64 0] n) 3);have RL:=Row.made ((w.alloc (.cells #[s.p.n,s.p.ins,s.p.outs,.slice ca s.p.cs.length cc,s.p.an,.slice sa s.p.st.length sc,s.p.rounds,s.tn,.slice ta n tc,.slice xa s.ex.length xc] 35)).alloc (.cells #[.slice none 0 0] 38)) (.int .i64 0) n 3;rw[show List.replicate n (Value.int .i64 0)=(List.replicate n (0:Int)).map (Value.int .i64) by simp]at RL;simp only[World.size_alloc]at R1 RL;have HZ0:Hid (SilI n 0 (List.replicate n 0)):=zhd ⟨by simp,fun j hj=>by omega⟩;clear hc hs ht hx hsl hn;obtain ⟨B2,hB2⟩:=zn (w.heap.size+1+1);rw[←hB2]at RL;have HB2:=zhd hB2;have hB2w:w.heap.size≤B2:=by omega
 have hB20:some B2≠some w.heap.size:=by intro e;injection e;omega
 have hB21:some B2≠some (w.heap.size+1):=by intro e;injection e;omega
 clear hB2;obtain ⟨t0,t1,t2,t3,t4,t5,t6,t7,t8,t9⟩:=R0.ten;have l0:=R0.lt;go_enter Tryz.func106,Tryz.ntmps106;go_wp2;rw[←HB2.out];clear hmk t0 t1 t2 t3 t4 t5 t6 t7 t8 t9 l0;go_loopw [4] (fun iv wr=>∃(k:Nat) (L:List Int),k≤n∧iv=.int .i64 k∧Hid (SilI n k L)∧Below w.heap.size w wr∧Row wr (w.heap.size+1) 38 [.slice none 0 0]∧Row wr B2 3 (L.map (Value.int .i64))) (fun iv _=>n - (intOf iv).toNat)
 case atStart=>exact ⟨0,_,Nat.zero_le _,rfl,HZ0,ex,R1,RL⟩
 case round=>
  clear ex R0 R1 RL HZ0;obtain ⟨k,L,hk,rfl,HL,ex,R1,RL⟩:=hrel;by_cases hlt:k<n
  case neg=>
   obtain rfl:k=n:=by omega
   have HD:=zhd (HL.out.done);have HI:Hid (Ints (fun b=>w.heap.size≤b) wr (.slice (some ⟨B2,0,none⟩) k k) sl):=zhd (by
    rw[HD.out]at RL;have:=RL.ints (by rw[List.length_replicate];unfold maxLen;omega) (fun x hx=>by rw[(List.mem_replicate.1 hx).2];exact WF.small (by decide));rw[List.length_replicate]at this;rw[HS.out];exact this.mono fun b hb=>by omega)
   have RE:Hid (∀w',Below wr.heap.size wr w'∨wr.grownBy w' (some (w.heap.size+1))→True):=zhd fun _ _=>trivial;clear RE;have R1':=R1.set 0 (.slice (some ⟨B2,0,none⟩) k k);have q0:(wr.setCell ⟨w.heap.size+1,0,none⟩ (.slice (some ⟨B2,0,none⟩) k k)).cell? ⟨w.heap.size+1,0,none⟩=some (.slice (some ⟨B2,0,none⟩) k k):=R1'.zc 0 rfl;have t0:=R1.zc 0 rfl;have f0:=R1.free 0;have l1:=R1.lt;have HEX:=zhd (ex.setCell (p:=⟨w.heap.size+1,0,none⟩) (by simp) (.slice (some ⟨B2,0,none⟩) k k));have HI2:Hid (Ints (fun b=>w.heap.size≤b) (wr.setCell ⟨w.heap.size+1,0,none⟩ (.slice (some ⟨B2,0,none⟩) k k)) (.slice (some ⟨B2,0,none⟩) k k) sl):=zhd (by
    refine ((show Ints (fun b=>b=B2) wr (.slice (some ⟨B2,0,none⟩) k k) sl from ?_).agree (.of_grown (zj wr (w.heap.size+1) 0 _) fun b hb e=>hB21 (by rw[←hb];exact e.symm))).mono fun b hb=>by omega
    rw[HD.out]at RL;have:=RL.ints (by rw[List.length_replicate];unfold maxLen;omega) (fun x hx=>by rw[(List.mem_replicate.1 hx).2];exact WF.small (by decide));rw[List.length_replicate]at this;rw[HS.out];exact this.mono fun b hb=>by omega)
   clear R1 R1' RL ex HI;go_wp2;refine bodyPost_ret (v:=.agg #[.slice (some ⟨B2,0,none⟩) k k]) (by simp[results,Tryz.results106,go_sem,q0]) rfl ?_;exact .mk HEX.out ⟨_,rfl,HI2.out⟩
  have hLl:=HL.out.1;have ck:=rowInt RL (k:=k) (by omega);have fk:=RL.free k;have lk:=RL.lt;have R12:=R1.grown (zj wr B2 k (.int .i64 (-1))) hB21;have RL2:=rowSet RL k (-1);have ex2:=ex.setCell (p:=⟨B2,k,none⟩) hB2w (.int .i64 (-1));have qk:=Yc B2 n n hlt;have HL2:=zhd (HL.out.step hlt);clear hLl ex R1 RL;go_wp2;go_roundw
  case rel=>exact ⟨k+1,_,by omega,by go_num,HL2,ex2,R12,RL2⟩
  case measure=>simp[intOf];omega
theorem Qe {S S3:Nat→Prop} {w:World} {v vcl:Value} {s:SysF} {cl:List Int} (h:SysV S w v s) (hf:SmallP s.p) (h3:Ints S3 w vcl cl) (hm:s.tab.length≤60000):
  Calls Tryz.prog 71 #[v,vcl] w (Post w fun _ r=>r=.int .i64 (mesE s cl)):=by
 have KV:Hid (∀W,Below w.heap.size w W→Calls Tryz.prog 86 #[v] W (Post W fun _ r=>r=.int .i64 (verE s))):=zhd fun W hW=>Xl (h.ext hW) hf;have KS:Hid (∀W,Below w.heap.size w W→Calls Tryz.prog 106 #[v] W (Post W fun w' r=>∃u,r=.agg #[u]∧Ints (fun b=>W.heap.size≤b) w' u (silL s))):=zhd fun W hW=>zcn (h.ext hW) hm;have KC:Hid (verE s=0→∀W u,Below w.heap.size w W→Ints TT W u (silL s)→Calls Tryz.prog 51 #[v,.agg #[u],vcl] W (Post W fun _ r=>r=.int .i64 (chkQ s (silL s) cl))):=zhd fun h0 W u hW hu=>zbm (h.ext hW) (yF h0 h.moves8) hu (h3.ext hW) (Xu s) hm;have HQ:Hid (mesE s cl=if verE s=0 then chkQ s (silL s) cl else verE s):=zhd rfl;obtain ⟨r,hr⟩:=zn (mesE s cl);rw[←hr]at HQ ⊢;obtain ⟨e,hee⟩:=zn (verE s);rw[←hee]at KV KC HQ;obtain ⟨q,hqq⟩:=zn (chkQ s (silL s) cl);rw[←hqq]at KC HQ;obtain ⟨sl,hsl⟩:∃l,l=silL s:=⟨_,rfl⟩;rw[←hsl]at KS KC;obtain ⟨ca,cc,sa,sc,ta,tc,xa,xc,rfl,hc,hs,ht,hx⟩:=h.zf;obtain ⟨a3,c3,rfl,_⟩:=h3.form;obtain ⟨ex,R0⟩:=zb1 w [s.p.n,s.p.ins,s.p.outs,.slice ca s.p.cs.length cc,s.p.an,.slice sa s.p.st.length sc,s.p.rounds,s.tn,.slice ta s.tab.length tc,.slice xa s.ex.length xc] 35;clear hc hs ht hx h3 hf hm hr hee hqq hsl;obtain ⟨t0,t1,t2,t3,t4,t5,t6,t7,t8,t9⟩:=R0.ten;have l0:=R0.lt;go_enter Tryz.func71,Tryz.ntmps71;go_wp2_with fail;refine (KV.out _ ex).mono ?_;rintro _ w1 ⟨_,rfl,hb,rfl⟩;replace R0:=R0.ext hb;replace ex:=za ex hb;clear hb KV t0 t1 t2 t3 t4 t5 t6 t7 t8 t9 l0;by_cases h0:e=0
 case neg=>
  have RE:=zhd (HQ.out.trans (if_neg h0));have d0:(e !=0)=true:=by simp[h0]
  clear h0 HQ KC;go_wp2;go_ret;exact .mk ex (zm RE.out.symm)
 have RE:=zhd (HQ.out.trans (if_pos h0));have d0:(e !=0)=false:=by simp[h0]
 have HEX:=zhd ex;have KS1:Hid (∀W,Below w1.heap.size w1 W→Calls Tryz.prog 106 #[.agg #[s.p.n,s.p.ins,s.p.outs,.slice ca s.p.cs.length cc,s.p.an,.slice sa s.p.st.length sc,s.p.rounds,s.tn,.slice ta s.tab.length tc,.slice xa s.ex.length xc]] W (Post W fun w' r=>∃u,r=.agg #[u]∧Ints (fun b=>W.heap.size≤b) w' u sl)):=zhd fun W hW=>KS.out W (za HEX.out hW);have KC1:Hid (∀W u,Below w1.heap.size w1 W→Ints TT W u sl→Calls Tryz.prog 51 #[.agg #[s.p.n,s.p.ins,s.p.outs,.slice ca s.p.cs.length cc,s.p.an,.slice sa s.p.st.length sc,s.p.rounds,s.tn,.slice ta s.tab.length tc,.slice xa s.ex.length xc],.agg #[u],.slice a3 cl.length c3] W (Post W fun _ r=>r=.int .i64 q)):=zhd fun W u hW hu=>KC.out h0 W u (za HEX.out hW) hu;clear h0 HQ KS KC ex;obtain ⟨B0,hB0⟩:=zn w.heap.size;rw[←hB0]at R0;have HB0:=zhd hB0;have KL:Hid (∀w',Below w1.heap.size w1 w'→(fun w':World=>w'.cell? ⟨B0,0,none⟩=some (.int .i64 s.p.n)∧w'.cell? ⟨B0,1,none⟩=some (.int .i64 s.p.ins)∧w'.cell? ⟨B0,2,none⟩=some (.int .i64 s.p.outs)∧w'.cell? ⟨B0,3,none⟩=some (.slice ca s.p.cs.length cc)∧w'.cell? ⟨B0,4,none⟩=some (.int .i64 s.p.an)∧w'.cell? ⟨B0,5,none⟩=some (.slice sa s.p.st.length sc)∧w'.cell? ⟨B0,6,none⟩=some (.int .i64 s.p.rounds)∧w'.cell? ⟨B0,7,none⟩=some (.int .i64 s.tn)∧w'.cell? ⟨B0,8,none⟩=some (.slice ta s.tab.length tc)∧w'.cell? ⟨B0,9,none⟩=some (.slice xa s.ex.length xc)) w'):=zhd fun w' hw=>⟨(R0.ext hw).zc 0 rfl,(R0.ext hw).zc 1 rfl,(R0.ext hw).zc 2 rfl,(R0.ext hw).zc 3 rfl,(R0.ext hw).zc 4 rfl,(R0.ext hw).zc 5 rfl,(R0.ext hw).zc 6 rfl,(R0.ext hw).zc 7 rfl,(R0.ext hw).zc 8 rfl,(R0.ext hw).zc 9 rfl⟩;clear hB0 R0;go_upto_region 4 with fail;rw[←HB0.out];have y1:=zb w1.heap.size w1 1;refine zC (fun w':World=>w'.cell? ⟨B0,0,none⟩=some (.int .i64 s.p.n)∧w'.cell? ⟨B0,1,none⟩=some (.int .i64 s.p.ins)∧w'.cell? ⟨B0,2,none⟩=some (.int .i64 s.p.outs)∧w'.cell? ⟨B0,3,none⟩=some (.slice ca s.p.cs.length cc)∧w'.cell? ⟨B0,4,none⟩=some (.int .i64 s.p.an)∧w'.cell? ⟨B0,5,none⟩=some (.slice sa s.p.st.length sc)∧w'.cell? ⟨B0,6,none⟩=some (.int .i64 s.p.rounds)∧w'.cell? ⟨B0,7,none⟩=some (.int .i64 s.tn)∧w'.cell? ⟨B0,8,none⟩=some (.slice ta s.tab.length tc)∧w'.cell? ⟨B0,9,none⟩=some (.slice xa s.ex.length xc)) (fun i=>false) (by kernel_rfl) ?_ (fun hHeld=>?_)
 ·exact KL.out _ y1
 refine zt 0 hHeld ?_;refine zt 1 hHeld ?_;refine zt 3 hHeld ?_;refine zo 2 (fun K hK=>?_)
 (go_simp;go_at_call 106;refine (KS1.out _ y1).mono ?_;rintro _ v2 ⟨_,rfl,hb2,u2,rfl,hi2⟩;have y2:=za y1 hb2;have K2:=zhd (KC1.out _ _ y2 (hi2.mono fun _ _=>trivial));clear hb2 hi2)
 refine zk hK (KL.out _ y2) (fun hHeld=>?_);clear hK K;refine zo 4 (fun K hK=>?_)
 (go_simp;go_at_call 51;refine K2.out.mono ?_;rintro _ v3 ⟨_,rfl,hb3,rfl⟩;have y3:=za y2 hb3;clear hb3)
 refine zk hK (KL.out _ y3) (fun hHeld=>?_);clear hK K;refine zt 5 hHeld ?_;refine zx (by kernel_rfl) ?_ _;clear hHeld KL;go_wp2;go_ret;exact .mk (za HEX.out y3) (zm RE.out.symm)
end Go.Proofs.YtiabbjolepnjkaaGreat
namespace Go.Proofs.YtiabbjolepnjkaaGreat
def mK (cl:List Int) (k:Nat):Nat:=(numS (cl.take k)).toNat
def mN (cl:List Int):Nat:=(numS cl).toNat
theorem zfT (cl:List Int):numS cl=(mN cl:Int):=by
 have:=xU cl;unfold mN;omega
theorem zd7 (cl:List Int) (k:Nat):numS (cl.take k)=(mK cl k:Int):=by
 have:=xU (cl.take k);unfold mK;omega
theorem zaY (cl:List Int):mK cl 0=0:=by unfold mK;rw[List.take_zero];rfl
theorem Xx (cl:List Int):mK cl cl.length=mN cl:=by unfold mK mN;rw[List.take_length]
theorem zfY {cl:List Int} {k:Nat} (hk:k<cl.length):(mK cl (k+1):Int)=max (mK cl k:Int) (nth cl k+1):=by
 rw[←zd7,←zd7,show cl.take (k+1)=cl.take k++[nth cl k] by rw[yv hk];exact (List.take_append_getElem hk).symm,Zr]
theorem zbq {cl:List Int}:∀{k w:Nat},k≤cl.length→w<k→nth cl w<mK cl k
 | 0,w,_,h=>by omega
 | k+1,w,hk,h=>by
  have hm:=zfY (cl:=cl) (k:=k) (by omega);by_cases e:w=k
  ·subst e;omega
  ·have:=zbq (cl:=cl) (k:=k) (w:=w) (by omega) (by omega);omega
theorem zdI {cl:List Int} (hg:Good cl) {k:Nat} (hk:k<cl.length):
  (nth cl k=mK cl k∧mK cl (k+1)=mK cl k+1∧fclN cl (mK cl k)=k)∨(nth cl k≠mK cl k∧mK cl (k+1)=mK cl k):=by
 have hm:=zfY hk;have h1:=hg.2 k hk;rw[zd7]at h1;by_cases e:nth cl k=mK cl k
 ·refine .inl ⟨e,by omega,?_⟩;obtain ⟨a,b,c⟩:=QD hk e;rcases Nat.lt_trichotomy (fclN cl (mK cl k)) k with h | h | h
  ·have:=zbq (cl:=cl) (k:=k) (by omega) h;omega
  ·exact h
  ·exact absurd e (c k h)
 ·exact .inr ⟨e,by omega⟩
theorem Xe {cl:List Int} (hg:Good cl):∀{k:Nat},k≤cl.length→mK cl k≤k∧∀c,c<mK cl k→∃v,v<k∧nth cl v=(c:Nat)
 | 0,_=>⟨by rw[zaY];omega,fun c hc=>by rw[zaY]at hc;omega⟩
 | k+1,hk=>by
  obtain ⟨h0,h⟩:=Xe hg (k:=k) (by omega);rcases zdI hg (show k<cl.length by omega) with ⟨h1,h2,_⟩ | ⟨_,h2⟩
  ·refine ⟨by omega,fun c hc=>?_⟩;by_cases e:c=mK cl k
   ·exact ⟨k,by omega,by rw[e];exact h1⟩
   ·obtain ⟨v,hv,h3⟩:=h c (by omega);exact ⟨v,by omega,h3⟩
  ·refine ⟨by omega,fun c hc=>?_⟩;obtain ⟨v,hv,h3⟩:=h c (by omega);exact ⟨v,by omega,h3⟩
theorem yw {T:List (List Int)} {cl:List Int} (hg:Good cl) (hl:cl.length=T.length):Used T cl (mN cl):=⟨hl,fun c hc=>by
 rw[←Xx]at hc;obtain ⟨v,hv,h⟩:=(Xe hg (Nat.le_refl _)).2 c hc;exact ⟨v,by omega,h⟩⟩
theorem zbe {cl:List Int} (hg:Good cl):mN cl≤cl.length:=by
 rw[←Xx];exact (Xe hg (Nat.le_refl _)).1
theorem zgV {cl:List Int} (hg:Good cl) {v:Nat} (hv:v<cl.length):∃c:Nat,c<mN cl∧nth cl v=(c:Int):=by
 have h1:=zbq (cl:=cl) (Nat.le_refl _) hv;rw[Xx]at h1;have:=(hg.2 v hv).1;exact ⟨(nth cl v).toNat,by omega,by omega⟩
section
variable {N K:Nat} {T:List (List Int)} {cl:List Int} {m r f t:Nat}
theorem yD (hT:TabOK N K T) (hn:T.Nodup) (hu:Used T cl m):∀k,k≤m→manyN T cl r f t k≤k
 | 0,_=>by rw[Zs];omega
 | k+1,hk=>by
  have:=yD hT hn hu k (by omega);rcases zcw (r:=r) (f:=f) (t:=t) hT hn hu (show k<m by omega) with h | ⟨_,h,_⟩<;>omega
theorem zfR (hT:TabOK N K T) (hn:T.Nodup) (hu:Used T cl m) (hm:m≤60000):∀k,k≤m→∀x∈symL T cl r f t k,WF x:=fun k hk x hx=>by
 unfold symL at hx;obtain ⟨c,hc,rfl⟩:=List.mem_map.1 hx;have hc:=List.mem_range.1 hc;have h1:=qg (r:=r) (f:=f) (t:=t) hT hn hu (show c<m by omega);have h2:=yD (r:=r) (f:=f) (t:=t) hT hn hu m (Nat.le_refl _);exact WF.small (by omega)
end
end Go.Proofs.YtiabbjolepnjkaaGreat
namespace Go.Proofs.YtiabbjolepnjkaaGreat
open Go.RowKit
attribute [local go_sem ↓] Go.wp_at_zero Go.wp_at_succ
theorem Qp {S:Nat→Prop} {w:World} {vcl:Value} {cl:List Int} {c:Nat} (h3:Ints S w vcl cl) (hm:cl.length≤60000) (hv:∃v,v<cl.length∧nth cl v=(c:Int)):
  Calls Tryz.prog 108 #[vcl,c] w fun q w'=>q=.returned (.int .i64 (fclN cl c:Nat))∧w'=w:=by
 obtain ⟨v,hv,hvc⟩:=hv;obtain ⟨s1,s2,s3⟩:=QD hv hvc;obtain ⟨t,ht⟩:=zn (fclN cl c);rw[←ht]at s1 s2 s3 ⊢;obtain ⟨a3,c3,rfl,_⟩:=h3.form;have HI:=zhd h3;have HC2:=zhd s2;have HC3:=zhd s3;clear h3 hv hvc ht s2 s3;go_enter Tryz.func108,Tryz.ntmps108;go_wp2;go_loopw [5] (fun iv wr=>∃k:Nat,k≤t∧iv=.int .i64 k∧Hid (wr=w)) (fun iv _=>t - (intOf iv).toNat)
 case atStart=>exact ⟨0,Nat.zero_le _,rfl,zhd rfl⟩
 case round=>
  obtain ⟨k,hk,rfl,HW⟩:=hrel;have qk:=HI.out.idx (k:=k) (by omega);have ck:wr.cell? (adr a3 k)=some (.int .i64 (nth cl k)):=by rw[HW.out];exact HI.out.cellN (by omega)
  have HKC:Hid (nth cl k=(c:Int)↔k=t):=zhd ⟨fun e=>by
   apply Decidable.byContradiction;intro hne;exact HC3.out k (by omega) e,fun e=>by rw[e];exact HC2.out⟩
  obtain ⟨y,hy⟩:=zn (nth cl k);rw[←hy]at ck HKC;have bk:=World.block_lt_of_cell? _ _ ck;clear hy;by_cases he:k=t
  ·have d:(y !=(c:Int))=false:=by have:=HKC.out.2 he;simp[this]
   subst he;clear HKC;go_wp2;go_ret;exact ⟨rfl,HW.out⟩
  ·have d:(y !=(c:Int))=true:=by rw[bne_iff_ne];exact fun e=>he (HKC.out.1 e)
   clear HKC;go_wp2;go_roundw
   case rel=>exact ⟨k+1,by omega,by go_num,HW⟩
   case measure=>simp[intOf];omega
theorem Qk {S S3:Nat→Prop} {w:World} {v vcl:Value} {s:SysF} {cl:List Int} {r f t c m:Nat} (h:SysV S w v s) (hg:GoodS s s.N s.K) (h3:Ints S3 w vcl cl) (hm:s.tab.length≤60000) (hU:Used s.tab cl m) (hc':c<m):
  Calls Tryz.prog 75 #[v,vcl,.agg #[r,f,t],c] w (Post w fun _ r'=>r'=.bool (sndB s.tab cl r f c)):=by
 have KF:Hid (∀W,Below w.heap.size w W→Calls Tryz.prog 108 #[vcl,c] W fun q w'=>q=.returned (.int .i64 (fclN cl c:Nat))∧w'=W):=zhd fun W hW=>Qp (h3.ext hW) (by rw[hU.1];exact hm) (by obtain ⟨v,hv,h1⟩:=hU.2 c hc';exact ⟨v,by rw[hU.1];exact hv,h1⟩);obtain ⟨ca,cc,sa,sc,ta,tc,xa,xc,rfl,hc,hs,ht,hx⟩:=h.zf;obtain ⟨_,_,hee,tad,_⟩:=ht.form2;cases hee;obtain ⟨i0,hi,hz⟩:=zG zJ;have HQ:=zhd (zF Tryz.underlying30 hi hz tad);have HTB:=zhd hg.tab;obtain ⟨hu,_⟩:=hU.first hc';obtain ⟨a3,c3,rfl,_⟩:=h3.form;have HR:Hid (sndB s.tab cl r f c=(decide (prcT s.tab (fclN cl c)=f)&&decide (rndT s.tab (fclN cl c)=r))):=zhd rfl;obtain ⟨b,hb⟩:=zn (sndB s.tab cl r f c);rw[←hb]at HR ⊢;obtain ⟨u,huu⟩:=zn (fclN cl c);rw[←huu]at HR KF hu;have uq:=HQ.out u hu;obtain ⟨f0,_⟩:=yq HTB.out hu;obtain ⟨f1,_⟩:=yg HTB.out hu;have hcu:=ht.nums (k:=u) hu (by decide);obtain ⟨y,hy⟩:=zn (nthL s.tab u);rw[←hy]at hcu f0 f1;obtain ⟨pu,hpu⟩:∃p,p=prcT s.tab u:=⟨_,rfl⟩;obtain ⟨ru,hru⟩:=zn (rndT s.tab u);rw[←hpu,←hru]at HR;rw[←hpu]at f0;rw[←hru]at f1;have HU0:=zhd f0;have HU1:=zhd f1;obtain ⟨ex,R0,R1⟩:=zb2 w [s.p.n,s.p.ins,s.p.outs,.slice ca s.p.cs.length cc,s.p.an,.slice sa s.p.st.length sc,s.p.rounds,s.tn,.slice ta s.tab.length tc,.slice xa s.ex.length xc] [r,f,t] 35 72;clear hc hs ht hx tad hi hz h3 hg HTB hm hU hc' hb huu hy hpu hru f0 f1 HQ hu;go_enter Tryz.func75,Tryz.ntmps75;go_upto_region 1 with fail;obtain ⟨W0,hW0⟩:=zn ((w.alloc (.cells #[s.p.n,s.p.ins,s.p.outs,.slice ca s.p.cs.length cc,s.p.an,.slice sa s.p.st.length sc,s.p.rounds,s.tn,.slice ta s.tab.length tc,.slice xa s.ex.length xc] 35)).alloc (.cells #[r,f,t] 72));obtain ⟨B0,hB0⟩:=zn w.heap.size;obtain ⟨B1,hB1⟩:=zn (w.heap.size+1);rw[←hW0]at R0 R1 ex ⊢;rw[←hB1]at R1 ⊢;rw[←hB0]at R0 ⊢;have HEX:=zhd ex;have KF1:Hid (∀W,Below W0.heap.size W0 W→Calls Tryz.prog 108 #[.slice a3 cl.length c3,c] W fun q w'=>q=.returned (.int .i64 u)∧w'=W):=zhd fun W hW=>KF.out W (za HEX.out hW);have KEEP:Hid (∀w',Below W0.heap.size W0 w'→(fun w':World=>w'.cell? ⟨B0,7,none⟩=some (.int .i64 s.tn)∧w'.cell? ⟨B0,8,none⟩=some (.slice ta s.tab.length tc)∧w'.cell? (adr ta (u * 8))=some (.int .i64 (nth y 0))∧w'.cell? ⟨(adr ta (u * 8)).block,(adr ta (u * 8)).off+1,none⟩=some (.int .i64 (nth y 1))∧w'.cell? ⟨(adr ta (u * 8)).block,(adr ta (u * 8)).off+2,none⟩=some (.int .i64 (nth y 2))∧w'.cell? ⟨(adr ta (u * 8)).block,(adr ta (u * 8)).off+3,none⟩=some (.int .i64 (nth y 3))∧w'.cell? ⟨(adr ta (u * 8)).block,(adr ta (u * 8)).off+4,none⟩=some (.int .i64 (nth y 4))∧w'.cell? ⟨(adr ta (u * 8)).block,(adr ta (u * 8)).off+5,none⟩=some (.int .i64 (nth y 5))∧w'.cell? ⟨(adr ta (u * 8)).block,(adr ta (u * 8)).off+6,none⟩=some (.int .i64 (nth y 6))∧w'.cell? ⟨(adr ta (u * 8)).block,(adr ta (u * 8)).off+7,none⟩=some (.int .i64 (nth y 7))) w'):=zhd fun w' hw=>⟨(R0.ext hw).zc 7 rfl,(R0.ext hw).zc 8 rfl,zi hcu.1 (za HEX.out hw),zi (hcu.2 1 (by decide)) (za HEX.out hw),zi (hcu.2 2 (by decide)) (za HEX.out hw),zi (hcu.2 3 (by decide)) (za HEX.out hw),zi (hcu.2 4 (by decide)) (za HEX.out hw),zi (hcu.2 5 (by decide)) (za HEX.out hw),zi (hcu.2 6 (by decide)) (za HEX.out hw),zi (hcu.2 7 (by decide)) (za HEX.out hw)⟩;have RC:Hid (∀w',Below W0.heap.size W0 w'→w'.cell? ⟨B1,0,none⟩=some (.int .i64 r)∧w'.cell? ⟨B1,1,none⟩=some (.int .i64 f)∧B1<w'.heap.size):=zhd fun w' hw=>⟨(R1.ext hw).zc 0 rfl,(R1.ext hw).zc 1 rfl,(R1.ext hw).lt⟩;clear R0 R1 ex hcu hW0 hB0 hB1 KF;have y1:Below W0.heap.size W0 W0.drew:=zb W0.heap.size W0 1;refine zC (fun w':World=>w'.cell? ⟨B0,7,none⟩=some (.int .i64 s.tn)∧w'.cell? ⟨B0,8,none⟩=some (.slice ta s.tab.length tc)∧w'.cell? (adr ta (u * 8))=some (.int .i64 (nth y 0))∧w'.cell? ⟨(adr ta (u * 8)).block,(adr ta (u * 8)).off+1,none⟩=some (.int .i64 (nth y 1))∧w'.cell? ⟨(adr ta (u * 8)).block,(adr ta (u * 8)).off+2,none⟩=some (.int .i64 (nth y 2))∧w'.cell? ⟨(adr ta (u * 8)).block,(adr ta (u * 8)).off+3,none⟩=some (.int .i64 (nth y 3))∧w'.cell? ⟨(adr ta (u * 8)).block,(adr ta (u * 8)).off+4,none⟩=some (.int .i64 (nth y 4))∧w'.cell? ⟨(adr ta (u * 8)).block,(adr ta (u * 8)).off+5,none⟩=some (.int .i64 (nth y 5))∧w'.cell? ⟨(adr ta (u * 8)).block,(adr ta (u * 8)).off+6,none⟩=some (.int .i64 (nth y 6))∧w'.cell? ⟨(adr ta (u * 8)).block,(adr ta (u * 8)).off+7,none⟩=some (.int .i64 (nth y 7))) (fun i=>false) (by kernel_rfl) ?_ (fun hHeld=>?_)
 ·exact KEEP.out _ y1
 refine zt 0 hHeld ?_;refine zt 1 hHeld ?_;refine zt 2 hHeld ?_;refine zt 3 hHeld ?_;refine zt 4 hHeld ?_;refine Zg 5 8 rfl rfl (by kernel_rfl) (fun K hK=>?_) (fun K hK=>?_)
 ·go_simp;go_at_call 108
  refine (KF1.out _ y1).mono ?_;rintro _ _ ⟨rfl,rfl⟩;refine zk hK (KEEP.out _ y1) (fun hHeld=>?_);clear hK K;refine zt 6 hHeld ?_;refine zt 7 hHeld ?_;refine zo 8 (fun K hK=>?_);go_simp;refine zk hK (KEEP.out _ (zr (ze W0 (.cells #[.int .i64 0,.int .i64 0,.int .i64 0,.int .i64 0,.int .i64 0,.int .i64 0,.int .i64 0,.int .i64 0] 65)) 1)) (fun hHeld=>?_);clear hK K;refine zo 9 (fun K hK=>?_);go_simp;refine zk hK (KEEP.out _ (zr (ze W0 (.cells #[nth y 0,nth y 1,nth y 2,nth y 3,nth y 4,nth y 5,nth y 6,nth y 7] 65)) 1)) (fun hHeld=>?_);clear hK K;refine zx (by kernel_rfl) ?_ _;have RV:=zg W0 [nth y 0,nth y 1,nth y 2,nth y 3,nth y 4,nth y 5,nth y 6,nth y 7] 65;have e2:=zr (ze W0 (.cells #[nth y 0,nth y 1,nth y 2,nth y 3,nth y 4,nth y 5,nth y 6,nth y 7] 65)) 1;have RV2:=RV.ext (zb _ _ 1);obtain ⟨W2,hW2⟩:=zn ((W0.alloc (.cells #[nth y 0,nth y 1,nth y 2,nth y 3,nth y 4,nth y 5,nth y 6,nth y 7] 65)).drewN 1);have hW3:(W0.alloc (.cells #[nth y 0,nth y 1,nth y 2,nth y 3,nth y 4,nth y 5,nth y 6,nth y 7] 65)).drew=W2:=hW2.symm;rw[←hW2]at e2 RV2;rw[hW3];have u0:=RV2.zc 0 rfl;have u1:=RV2.zc 1 rfl;rw[HU0.out]at u0;rw[HU1.out]at u1;have lv:=RV2.lt;obtain ⟨p0,p1,l1⟩:=RC.out W2 e2;have HE:=zhd (za HEX.out e2);clear hHeld hW2 hW3 RV RV2 RC KEEP e2 HEX KF1;by_cases hp:pu=f
  case neg=>
   have d1:((pu:Int)==(f:Int))=false:=by rw[beq_eq_false_iff_ne];omega
   have RE:Hid (b=false):=zhd (by rw[HR.out,decide_eq_false hp];rfl);clear HR hp;go_wp2;go_ret;exact .mk HE.out (zv RE.out.symm)
  have d1:((pu:Int)==(f:Int))=true:=by rw[hp];simp
  have RE:Hid (b=((ru:Int)==(r:Int))):=zhd (by rw[HR.out,decide_eq_true hp,Bool.true_and,Bool.eq_iff_iff,decide_eq_true_iff,beq_iff_eq];omega);clear HR hp;go_wp2;go_ret;exact .mk HE.out (zv RE.out.symm)
 ·go_simp;refine zk hK (KEEP.out _ (zr (ze W0 (.cells #[.int .i64 0,.int .i64 0,.int .i64 0,.int .i64 0,.int .i64 0,.int .i64 0,.int .i64 0,.int .i64 0] 65)) 1)) (fun hHeld=>?_);clear hK K;refine zo 5 (fun K hK=>?_);go_simp;go_at_call 108
  refine (KF1.out _ (show Below W0.heap.size W0 (W0.alloc (.cells #[.int .i64 0,.int .i64 0,.int .i64 0,.int .i64 0,.int .i64 0,.int .i64 0,.int .i64 0,.int .i64 0] 65)).drew from zr (ze W0 (.cells #[.int .i64 0,.int .i64 0,.int .i64 0,.int .i64 0,.int .i64 0,.int .i64 0,.int .i64 0,.int .i64 0] 65)) 1)).mono ?_;rintro _ _ ⟨rfl,rfl⟩;refine zk hK (KEEP.out _ (zr (ze W0 (.cells #[.int .i64 0,.int .i64 0,.int .i64 0,.int .i64 0,.int .i64 0,.int .i64 0,.int .i64 0,.int .i64 0] 65)) 1)) (fun hHeld=>?_);clear hK K;refine zt 6 hHeld ?_;refine zt 7 hHeld ?_;refine zo 9 (fun K hK=>?_);go_simp;refine zk hK (KEEP.out _ (zr (ze W0 (.cells #[nth y 0,nth y 1,nth y 2,nth y 3,nth y 4,nth y 5,nth y 6,nth y 7] 65)) 1)) (fun hHeld=>?_);clear hK K;refine zx (by kernel_rfl) ?_ _;have RV:=zg W0 [nth y 0,nth y 1,nth y 2,nth y 3,nth y 4,nth y 5,nth y 6,nth y 7] 65;have e2:=zr (ze W0 (.cells #[nth y 0,nth y 1,nth y 2,nth y 3,nth y 4,nth y 5,nth y 6,nth y 7] 65)) 1;have RV2:=RV.ext (zb _ _ 1);obtain ⟨W2,hW2⟩:=zn ((W0.alloc (.cells #[nth y 0,nth y 1,nth y 2,nth y 3,nth y 4,nth y 5,nth y 6,nth y 7] 65)).drewN 1);have hW3:(W0.alloc (.cells #[nth y 0,nth y 1,nth y 2,nth y 3,nth y 4,nth y 5,nth y 6,nth y 7] 65)).drew=W2:=hW2.symm;rw[←hW2]at e2 RV2;rw[hW3];have u0:=RV2.zc 0 rfl;have u1:=RV2.zc 1 rfl;rw[HU0.out]at u0;rw[HU1.out]at u1;have lv:=RV2.lt;obtain ⟨p0,p1,l1⟩:=RC.out W2 e2;have HE:=zhd (za HEX.out e2);clear hHeld hW2 hW3 RV RV2 RC KEEP e2 HEX KF1;by_cases hp:pu=f
  case neg=>
   have d1:((pu:Int)==(f:Int))=false:=by rw[beq_eq_false_iff_ne];omega
   have RE:Hid (b=false):=zhd (by rw[HR.out,decide_eq_false hp];rfl);clear HR hp;go_wp2;go_ret;exact .mk HE.out (zv RE.out.symm)
  have d1:((pu:Int)==(f:Int))=true:=by rw[hp];simp
  have RE:Hid (b=((ru:Int)==(r:Int))):=zhd (by rw[HR.out,decide_eq_true hp,Bool.true_and,Bool.eq_iff_iff,decide_eq_true_iff,beq_iff_eq];omega);clear HR hp;go_wp2;go_ret;exact .mk HE.out (zv RE.out.symm)
def FopTo (T:List (List Int)) (lab:Nat→Int) (t v w k:Nat):Prop:=∀u,u<k→prcT T u=t→hrsB T u v=true→0≤repT T u v w∧lab (repT T u v w).toNat=lab u
theorem FopTo.next {T:List (List Int)} {lab:Nat→Int} {t v w k:Nat} (h:FopTo T lab t v w k) (hk:prcT T k=t→hrsB T k v=true→0≤repT T k v w∧lab (repT T k v w).toNat=lab k):FopTo T lab t v w (k+1):=fun u hu hp hh=>by
 by_cases e:u=k
 ·subst e;exact hk hp hh
 ·exact h u (by omega) hp hh
theorem zep {T:List (List Int)} {lab:Nat→Int} {t v w k:Nat} (hk:k<T.length) (hp:prcT T k=t) (hh:hrsB T k v=true) (h:¬(0≤repT T k v w∧lab (repT T k v w).toNat=lab k)):folP T lab t v w=false:=by
 cases e:folP T lab t v w with
 | false=>rfl
 | true=>exact absurd (qQ.1 e k hk hp hh) h
theorem zcX {S S2:Nat→Prop} {w:World} {v vl:Value} {s:SysF} {L:List Int} {t u x:Nat} (h:SysV S w v s) (hg:GoodS s s.N s.K) (h2:Ints S2 w vl L) (hl:L.length=s.tab.length) (hu:u<s.tab.length) (hx':x<s.tab.length) (hm:s.tab.length≤60000):
  Calls Tryz.prog 109 #[v,vl,t,u,x] w (Post w fun _ r=>r=.bool (folP s.tab (nth L) t u x)):=by
 have KH:Hid (∀k,k<s.tab.length→∀W,Below w.heap.size w W→Calls Tryz.prog 91 #[v,k,u] W (Post W fun _ r=>r=.bool (hrsB s.tab k u))):=zhd fun k hk W hW=>ZW (h.ext hW) hg hk hu;have KR:Hid (∀k,k<s.tab.length→∀W,Below w.heap.size w W→Calls Tryz.prog 92 #[v,k,u,x] W (Post W fun _ r=>r=.int .i64 (repT s.tab k u x))):=zhd fun k hk W hW=>Qj (h.ext hW) hg hk hu (WF.small (by omega));obtain ⟨ca,cc,sa,sc,ta,tc,xa,xc,rfl,hc,hs,ht,hx⟩:=h.zf;obtain ⟨_,_,hee,tad,_⟩:=ht.form2;cases hee;obtain ⟨i0,hi,hz⟩:=zG zJ;have HQ:=zhd (zF Tryz.underlying30 hi hz tad);have HTC:Hid (∀k,k<s.tab.length→w.cell? (adr ta (k * 8))=some (.int .i64 (prcT s.tab k:Int))):=zhd fun k hk=>by
  have:=(ht.nums (k:=k) hk (by decide)).1;rw[(yq hg.tab hk).1]at this;exact this
 obtain ⟨a2,c2,rfl,_⟩:=h2.form;have HI:=zhd h2;obtain ⟨ex,R0⟩:=zb1 w [s.p.n,s.p.ins,s.p.outs,.slice ca s.p.cs.length cc,s.p.an,.slice sa s.p.st.length sc,s.p.rounds,s.tn,.slice ta s.tab.length tc,.slice xa s.ex.length xc] 35;have HT:Hid (FopTo s.tab (nth L) t u x s.tab.length→folP s.tab (nth L) t u x=true):=zhd qQ.2;have HN:Hid (∀k,k<s.tab.length→prcT s.tab k=t→hrsB s.tab k u=true→¬(0≤repT s.tab k u x∧nth L (repT s.tab k u x).toNat=nth L k)→folP s.tab (nth L) t u x=false):=zhd fun k=>zep;obtain ⟨r,hr⟩:=zn (folP s.tab (nth L) t u x);rw[←hr]at HT HN ⊢;have H0:Hid (FopTo s.tab (nth L) t u x 0):=zhd fun u hu=>by omega
 have HB:Hid (∀k, -1≤repT s.tab k u x∧repT s.tab k u x<s.tab.length):=zhd fun k=>QR;obtain ⟨n,hn⟩:=zn L.length;rw[←hn]at HI ⊢;have HNN:Hid (n=s.tab.length):=zhd (hn.trans hl);have HNL:Hid (n=L.length):=zhd hn;have hn100:n≤100000:=by omega
 clear hc hs ht hx tad hi hz hg hr h2 hl hn hu hx' hm;go_enter Tryz.func109,Tryz.ntmps109;go_wp2;go_loopw [11,12] (fun i _ wr=>∃k:Nat,k≤n∧i=.int .i64 k∧Hid (FopTo s.tab (nth L) t u x k)∧Below w.heap.size w wr∧Row wr w.heap.size 35 [s.p.n,s.p.ins,s.p.outs,.slice ca s.p.cs.length cc,s.p.an,.slice sa s.p.st.length sc,s.p.rounds,s.tn,.slice ta s.tab.length tc,.slice xa s.ex.length xc]) (fun i _ _=>n - (intOf i).toNat)
 case atStart=>exact ⟨0,Nat.zero_le _,rfl,H0,ex,R0⟩
 case round=>
  clear ex R0;obtain ⟨k,hk,rfl,HF,ex,R0⟩:=hrel;obtain ⟨t0,t1,t2,t3,t4,t5,t6,t7,t8,t9⟩:=R0.ten;have l0:=R0.lt;by_cases hlt:k<n
  case neg=>
   have HR:Hid (r=true):=zhd (HT.out (by have:=HNN.out;rw[←this,show n=k by omega];exact HF.out));go_wp2;go_ret;exact .mk ex (zv HR.out.symm)
  have hkt:k<s.tab.length:=by have:=HNN.out;omega
  have vk:=HQ.out k hkt;have ck0:=zi (HTC.out k hkt) ex;have bk0:=World.block_lt_of_cell? _ _ ck0;have KH2:=zhd (KH.out k hkt);have KR2:=zhd (KR.out k hkt);have HNX:Hid ((prcT s.tab k=t→hrsB s.tab k u=true→0≤repT s.tab k u x∧nth L (repT s.tab k u x).toNat=nth L k)→FopTo s.tab (nth L) t u x (k+1)):=zhd fun hh=>HF.out.next hh;have HST:=zhd (HN.out k hkt);have HBK:=zhd (HB.out k);obtain ⟨b,hb⟩:=zn (hrsB s.tab k u);obtain ⟨y,hy⟩:=zn (repT s.tab k u x);obtain ⟨pk,hpk⟩:∃p,p=prcT s.tab k:=⟨_,rfl⟩;rw[←hb]at KH2 HNX HST;rw[←hy]at KR2 HNX HST HBK;rw[←hpk]at ck0 HNX HST;clear hb hy hpk hkt;by_cases hp:pk=t
  case neg=>
   have dp:((pk:Int) !=(t:Int))=true:=by rw[bne_iff_ne];omega
   have HF2:=zhd (HNX.out fun h=>absurd h hp);clear hp HNX HST KH2 KR2;go_wp2;go_roundw
   case rel=>exact ⟨k+1,by omega,by go_num,HF2,ex,R0⟩
   case measure=>simp[intOf];omega
  have dp:((pk:Int) !=(t:Int))=false:=by simp[hp]
  have HNX1:=zhd (fun h=>HNX.out fun _=>h);have HST1:=zhd (HST.out hp);clear hp HNX HST;go_wp2_with fail;refine (KH2.out _ ex).mono ?_;rintro _ w1 ⟨_,rfl,hb,rfl⟩;replace R0:=R0.ext hb;replace ex:=za ex hb;clear hb KH2 ck0 bk0 t0 t1 t2 t3 t4 t5 t6 t7 t8 t9 l0;cases b with
  | false=>
   have HF2:=zhd (HNX1.out fun h=>by cases h);go_wp2;go_roundw
   case rel=>exact ⟨k+1,by omega,by go_num,HF2,ex,R0⟩
   case measure=>simp[intOf];omega
  | true=>
   obtain ⟨t0,t1,t2,t3,t4,t5,t6,t7,t8,t9⟩:=R0.ten;have l0:=R0.lt;go_wp2_with fail;refine (KR2.out _ ex).mono ?_;rintro _ w2 ⟨_,rfl,hb,rfl⟩;replace R0:=R0.ext hb;replace ex:=za ex hb;clear hb KR2 t0 t1 t2 t3 t4 t5 t6 t7 t8 t9 l0;by_cases hy0:y<0
   ·have d1:decide (y<0)=true:=decide_eq_true hy0;have HR:Hid (r=false):=zhd (HST1.out trivial (fun h=>by omega));have HY:=zhd hy0;clear hy0;go_wp2;go_quiet (fail);go_wp2;go_ret;exact .mk (za ex (zb _ _ _)) (zv HR.out.symm)
   ·obtain ⟨z,rfl⟩:∃z:Nat,y=z:=⟨y.toNat,by omega⟩;have hzn:z<n:=by have:=HBK.out.2;have:=HNN.out;omega
    have hi:=HI.out.ext ex;have qz:∀W:World,(Instr.indexAt 36 (.slice a2 n c2) (.int .i64 z)).run Tryz.prog W=.ok (.pointer (some (adr a2 z))) W:=fun W=>by rw[HNL.out];exact (show Ints S2 _ (.slice a2 L.length c2) L by rw[←HNL.out];exact hi).idx (by rw[←HNL.out];exact hzn) W
    have qk:∀W:World,(Instr.indexAt 36 (.slice a2 n c2) (.int .i64 k)).run Tryz.prog W=.ok (.pointer (some (adr a2 k))) W:=fun W=>by rw[HNL.out];exact (show Ints S2 _ (.slice a2 L.length c2) L by rw[←HNL.out];exact hi).idx (by rw[←HNL.out];exact hlt) W
    have cz:=hi.cellN (k:=z) (by rw[←HNL.out];exact hzn);have ck:=hi.cellN (k:=k) (by rw[←HNL.out];exact hlt);have bz:=World.block_lt_of_cell? _ _ cz;have bk:=World.block_lt_of_cell? _ _ ck;obtain ⟨lz,hlz⟩:∃l,l=nth L z:=⟨_,rfl⟩;obtain ⟨lk,hlk⟩:∃l,l=nth L k:=⟨_,rfl⟩;rw[←hlz]at cz;rw[←hlk]at ck;have HZ:=zhd hlz;have HK:=zhd hlk;have d1:decide ((z:Int)<0)=false:=decide_eq_false (by omega);have yb:=fun n=>za ex (zb w2.heap.size w2 n);have yR:=fun n=>R0.ext (zb w2.heap.size w2 n);clear hy0 hi hlz hlk vk;by_cases he:lz=lk
    ·have HF2:=zhd (HNX1.out fun _=>⟨by omega,by rw[Int.toNat_natCast,←HZ.out,←HK.out,he]⟩);have d2:(lz !=lk)=false:=by simp[he]
     clear ex R0 he;go_wp2;go_quiet (fail);go_wp2;go_roundw
     case rel=>exact ⟨k+1,by omega,by go_num,HF2,yb _,yR _⟩
     case measure=>simp[intOf];omega
    ·have HR:Hid (r=false):=zhd (HST1.out trivial (fun h=>he (by rw[HZ.out,HK.out];have:=h.2;rwa [Int.toNat_natCast]at this)));have d2:(lz !=lk)=true:=by simp[he]
     clear ex R0 he;go_wp2;go_quiet (fail);go_wp2;go_ret;exact .mk (yb _) (zv HR.out.symm)
theorem Qu {S S3:Nat→Prop} {w:World} {v vcl:Value} {s:SysF} {cl:List Int} {r f t c d m:Nat} (h:SysV S w v s) (hg:GoodS s s.N s.K) (h3:Ints S3 w vcl cl) (hm:s.tab.length≤60000) (hU:Used s.tab cl m) (hc':c<m) (hd':d<m):
  Calls Tryz.prog 76 #[v,vcl,.agg #[r,f,t],c,d] w (Post w fun _ r'=>r'=.bool (eqC s.tab cl t c d)):=by
 have KF:Hid (∀c,c<m→∀W,Below w.heap.size w W→Calls Tryz.prog 108 #[vcl,c] W (Post W fun _ q=>q=.int .i64 (fclN cl c:Nat))):=zhd fun c hc W hW=>(Qp (h3.ext hW) (by rw[hU.1];exact hm) (by obtain ⟨v,hv,h1⟩:=hU.2 c hc;exact ⟨v,by rw[hU.1];exact hv,h1⟩)).mono fun _ _ h=>⟨_,h.1,by rw[h.2];exact Below.refl _ _,rfl⟩;have KP:Hid (∀a b,a<s.tab.length→b<s.tab.length→∀W,Below w.heap.size w W→Calls Tryz.prog 109 #[v,vcl,t,a,b] W (Post W fun _ q=>q=.bool (folP s.tab (nth cl) t a b))):=zhd fun a b ha hb W hW=>zcX (h.ext hW) hg (h3.ext hW) hU.1 ha hb hm;have KP1:=zhd (KP.out _ _ (hU.first hc').1 (hU.first hd').1);have KP2:=zhd (KP.out _ _ (hU.first hd').1 (hU.first hc').1);have KF1:=zhd (KF.out c hc');have KF2:=zhd (KF.out d hd');have HR:Hid (eqC s.tab cl t c d=(folP s.tab (nth cl) t (fclN cl c) (fclN cl d)&&folP s.tab (nth cl) t (fclN cl d) (fclN cl c))):=zhd rfl;obtain ⟨q,hq⟩:=zn (eqC s.tab cl t c d);rw[←hq]at HR ⊢;obtain ⟨x,hxx⟩:=zn (fclN cl c);obtain ⟨y,hyy⟩:=zn (fclN cl d);rw[←hxx]at KF1 KP1 KP2 HR;rw[←hyy]at KF2 KP1 KP2 HR;obtain ⟨b1,hb1⟩:∃b,b=folP s.tab (nth cl) t x y:=⟨_,rfl⟩;obtain ⟨b2,hb2⟩:∃b,b=folP s.tab (nth cl) t y x:=⟨_,rfl⟩;rw[←hb1]at KP1 HR;rw[←hb2]at KP2 HR;obtain ⟨ca,cc,sa,sc,ta,tc,xa,xc,rfl,hc,hs,ht,hx⟩:=h.zf;obtain ⟨a3,c3,rfl,_⟩:=h3.form;obtain ⟨ex,R0,R1⟩:=zb2 w [s.p.n,s.p.ins,s.p.outs,.slice ca s.p.cs.length cc,s.p.an,.slice sa s.p.st.length sc,s.p.rounds,s.tn,.slice ta s.tab.length tc,.slice xa s.ex.length xc] [r,f,t] 35 72;clear hc hs ht hx h3 hg hm hU hc' hd' hq hxx hyy hb1 hb2 KF KP;obtain ⟨t0,t1,t2,t3,t4,t5,t6,t7,t8,t9⟩:=R0.ten;have l0:=R0.lt;have p0:=R1.zc 0 rfl;have p1:=R1.zc 1 rfl;have p2:=R1.zc 2 rfl;have l1:=R1.lt;go_enter Tryz.func76,Tryz.ntmps76;go_wp2_with fail;refine (KF1.out _ ex).mono ?_;rintro _ w1 ⟨_,rfl,hb,rfl⟩;replace R0:=R0.ext hb;replace R1:=R1.ext hb;replace ex:=za ex hb;clear hb KF1 t0 t1 t2 t3 t4 t5 t6 t7 t8 t9 l0 p0 p1 p2 l1;obtain ⟨t0,t1,t2,t3,t4,t5,t6,t7,t8,t9⟩:=R0.ten;have l0:=R0.lt;have p0:=R1.zc 0 rfl;have p1:=R1.zc 1 rfl;have p2:=R1.zc 2 rfl;have l1:=R1.lt;go_wp2_with fail;refine (KF2.out _ ex).mono ?_;rintro _ w2 ⟨_,rfl,hb,rfl⟩;replace R0:=R0.ext hb;replace R1:=R1.ext hb;replace ex:=za ex hb;clear hb KF2 t0 t1 t2 t3 t4 t5 t6 t7 t8 t9 l0 p0 p1 p2 l1;obtain ⟨t0,t1,t2,t3,t4,t5,t6,t7,t8,t9⟩:=R0.ten;have l0:=R0.lt;have p0:=R1.zc 0 rfl;have p1:=R1.zc 1 rfl;have p2:=R1.zc 2 rfl;have l1:=R1.lt;go_wp2_with fail;refine (KP1.out _ ex).mono ?_;rintro _ w3 ⟨_,rfl,hb,rfl⟩;replace R0:=R0.ext hb;replace R1:=R1.ext hb;replace ex:=za ex hb;clear hb KP1 t0 t1 t2 t3 t4 t5 t6 t7 t8 t9 l0 p0 p1 p2 l1;cases b1 with
 | false=>
  have RE:Hid (q=false):=zhd (by rw[HR.out];rfl);clear HR KP2;go_wp2;go_ret;exact .mk ex (zv RE.out.symm)
 | true=>
  have RE:Hid (q=b2):=zhd (by rw[HR.out];rfl);clear HR;obtain ⟨t0,t1,t2,t3,t4,t5,t6,t7,t8,t9⟩:=R0.ten;have l0:=R0.lt;have p0:=R1.zc 0 rfl;have p1:=R1.zc 1 rfl;have p2:=R1.zc 2 rfl;have l1:=R1.lt;go_wp2_with fail;refine (KP2.out _ ex).mono ?_;rintro _ w4 ⟨_,rfl,hb,rfl⟩;replace R0:=R0.ext hb;replace R1:=R1.ext hb;replace ex:=za ex hb;clear hb KP2 t0 t1 t2 t3 t4 t5 t6 t7 t8 t9 l0 p0 p1 p2 l1;go_wp2;go_ret;exact .mk ex (zv RE.out.symm)
theorem Zv {base n:Nat} {w:World} {v:Value} {l:List Int} (hn:l.length=n) (h:w.ownsRow base 3 1 v n (l.map (Value.int .i64))) (hw:∀x∈l,WF x):Ints (fun b=>base≤b) w v l:=by
 subst hn;exact Ints.of_own h hw
def SymR (B:Nat) (s:SysF) (cl:List Int) (r f t:Int) (w':World) (q:Value):Prop:=(plcE s cl r f t=0∧∃u,q=.tuple #[u,.int .i64 0]∧Ints (fun b=>B≤b) w' u (symL s.tab cl r.toNat f.toNat t.toNat (mN cl)))∨(plcE s cl r f t≠0∧q=.tuple #[.slice none 0 0,plcE s cl r f t])
theorem yE {S:Nat→Prop} {w:World} {v:Value} {s:SysF} {cl:List Int} {r f t:Int} (h:SysV S w v s) (h0:plcE s cl r f t=0):GoodS s s.N s.K∧Good cl∧cl.length=s.tab.length:=by
 obtain ⟨h1,h2,h3,_⟩:=XS (zfU h0).1;exact ⟨yF h1 h.moves8,h2,h3⟩
theorem yZ {s:SysF} {cl:List Int} {r f t:Int} (h0:plcE s cl r f t=0):r=(r.toNat:Int)∧f=(f.toNat:Int)∧t=(t.toNat:Int):=by
 have:=zfU h0;omega
def cntP (s:SysF) (cl:List Int) (r f t:Int):Int:=if plcE s cl r f t=0 then manyN s.tab cl r.toNat f.toNat t.toNat (mN cl) else 0
theorem Zi {n:Nat} (h:n≤60000):widN n≤16:=by
 obtain ⟨_,h1⟩:=zbU n;apply Decidable.byContradiction;intro h2;have:=h1 16 (by omega);have e:(2:Nat) ^ 16=65536:=by decide
 omega
end Go.Proofs.YtiabbjolepnjkaaGreat
namespace Go.Proofs.YtiabbjolepnjkaaGreat
open Go.RowKit
attribute [local go_sem ↓] Go.wp_at_zero Go.wp_at_succ
def sumTo (f:Nat→Nat):Nat→Nat
 | 0=>0
 | n+1=>sumTo f n+f n
def bitW (T:List (List Int)) (cl:List Int) (m k p q:Nat):Nat:=if p=q then 0 else widN (manyN T cl k p q m)
def bitR (T:List (List Int)) (cl:List Int) (m N k p:Nat):Nat:=sumTo (bitW T cl m k p) N
def bitC (T:List (List Int)) (cl:List Int) (m N k:Nat):Nat:=sumTo (bitR T cl m N k) N
def bitS (T:List (List Int)) (cl:List Int) (m N K:Nat):Nat:=sumTo (bitC T cl m N) K
def bitA (s:SysF) (cl:List Int):Int:=if mesE s cl=0 then bitS s.tab cl (mN cl) s.N s.K else 0
section
variable {T:List (List Int)} {cl:List Int} {m N K:Nat}
theorem zeN (hb:∀k p q,manyN T cl k p q m≤60000) (k p q:Nat):bitW T cl m k p q≤16:=by
 unfold bitW;split
 ·omega
 ·exact Zi (hb k p q)
end
def sfmE (T:List (List Int)) (cl sy:List Int) (r f c:Nat):Int:=if (decide (0≤nth sy c)=sndB T cl r f c)∧ -1≤nth sy c∧nth sy c≤1048576 then 0 else 2
def enoP (T:List (List Int)) (cl sy:List Int) (t a b:Nat):Prop:=0≤nth sy a→nth sy a=nth sy b→eqC T cl t a b=true
def enoB (T:List (List Int)) (cl sy:List Int) (t:Nat):Bool:=(List.range sy.length).all fun a=>(List.range a).all fun b=> !decide (0≤nth sy a)||(!decide (nth sy a=nth sy b)||eqC T cl t a b)
theorem za4 {T:List (List Int)} {cl sy:List Int} {t:Nat}:enoB T cl sy t=true↔∀a b,a<sy.length→b<a→enoP T cl sy t a b:=by
 unfold enoB enoP;simp only[List.all_eq_true,List.mem_range,Bool.or_eq_true,Bool.not_eq_true',decide_eq_false_iff_not];constructor
 ·intro h a b ha hb h0 he;rcases h a ha b hb with h1 | h1 | h1
  ·exact absurd h0 h1
  ·exact absurd he h1
  ·exact h1
 ·intro h a ha b hb;by_cases h0:0≤nth sy a
  ·by_cases he:nth sy a=nth sy b
   ·exact .inr (.inr (h a b ha hb h0 he))
   ·exact .inr (.inl he)
  ·exact .inl h0
def vsyE (s:SysF) (cl sy:List Int) (r f t:Int):Int:=
 if plcE s cl r f t=0 then (if sy.length=mN cl then (if firstE (sfmE s.tab cl sy r.toNat f.toNat) sy.length=0 then (if enoB s.tab cl sy t.toNat then 0 else 18) else 2) else 3) else plcE s cl r f t
end Go.Proofs.YtiabbjolepnjkaaGreat
