/- Part of the proof that the laws answer true for every input. -/
import Derived.Test.YtjpakklplhabdaaGreatPGaA38
import Derived.Test.YtjpakklplhabdaaGreatPGaA39
set_option linter.unusedSimpArgs false
set_option linter.unnecessarySimpa false
set_option linter.unusedVariables false
set_option maxRecDepth 100000
set_option maxHeartbeats 40000000
namespace Go.Proofs.YtjpakklplhabdaaGreat
def decV (s:SysF) (ch:List Int) (e q:Nat):Int:=nth ch (nth (finL s e) q).toNat
theorem zdf {p:ProbD} {N c:Nat} (h:ProbOK p N) (hc:c<p.cs.length):∀v∈(nthC p.cs c).calm,v∈(nthC p.cs c).out:=fun v hv=>by
 have h1:=(xM ((zU h.t).2.2.2.2.2.2.2.2 c hc)).2
 unfold vecsE at h1
 split at h1
 ·cases h1
 by_cases h2:firstE (outE p.n p.outs (nthC p.cs c).out) (nthC p.cs c).out.length=0
 ·rw[if_pos h2]at h1
  obtain ⟨j,hj,rfl⟩:=List.getElem_of_mem hv
  have h3:=zX.1 h1 j hj
  unfold calmE at h3
  rw[←zM hj]
  apply Decidable.byContradiction
  intro hne
  rw[decide_eq_false hne]at h3
  simp at h3
 ·rw[if_neg h2]at h1
  exact absurd h1 h2
theorem zcA {s:SysF} {ch:List Int} (hg:GoodS s s.N s.K) {e:Nat} (he:e<s.ex.length) (hok:okE s ch e=true) (h0:fltyW (nthX s.ex e).word=0)
  (hag:∀c,c<s.p.cs.length→∀v∈(nthC s.p.cs c).out,∀q,q<v.length→nth v q=nth v 0):∀q,q<s.N→decV s ch e q=decV s ch e 0:=by
 obtain ⟨c,hx⟩:=hg.ex e he
 unfold okE mayB at hok
 rw[hx.case,Int.toNat_natCast,h0]at hok
 obtain ⟨v,hv,ha⟩:=List.any_eq_true.1 hok
 have hl:=(hg.pok.vecs hx.clt v hv).1
 have hout:v∈(nthC s.p.cs c).out:=by
  unfold vecsOf at hv
  split at hv
  ·exact zdf hg.pok hx.clt v hv
  ·exact hv
 have hN:=hg.pok.n1.1
 have key:∀q,q<s.N→decV s ch e q=nth v q:=fun q hq=>by
  unfold agrB at ha
  have:=List.all_eq_true.1 ha q (List.mem_range.2 (by omega))
  simp only[Int.toNat_zero,Nat.zero_testBit,Bool.false_or,decide_eq_true_iff]at this
  rw[Yv (by rw[(hg.fin he).1];exact hq)]at this
  exact this
 intro q hq
 rw[key q hq,key 0 (by omega)]
 exact hag c hx.clt v hout q (by omega)
theorem zdA {s:SysF} {ch:List Int} {e f q:Nat} (h:nth (finL s e) q=nth (finL s f) q):decV s ch e q=decV s ch f q:=by unfold decV;rw[h]
theorem zbp {s:SysF} {ch:List Int} (hg:GoodS s s.N s.K) (hok:∀e,e<s.ex.length→okE s ch e=true) (h0:∀e,e<s.ex.length→fltyW (nthX s.ex e).word=0)
  (hag:∀c,c<s.p.cs.length→∀v∈(nthC s.p.cs c).out,∀q,q<v.length→nth v q=nth v 0) {e f q:Nat} (he:e<s.ex.length) (hf:f<s.ex.length) (hq:q<s.N) (h:nth (finL s e) q=nth (finL s f) q) {d:Int}
  (hd:∀p,p<s.N→decV s ch e p=d):∀p,p<s.N→decV s ch f p=d:=fun p hp=>by
 rw[zcA hg hf (hok f hf) (h0 f hf) hag p hp,←zcA hg hf (hok f hf) (h0 f hf) hag q hq,←zdA h]
 exact hd q hq
def pntV (s:SysF) (q i:Nat):Int:=nth (nthL (nthX s.ex (i / (s.K+1))).vs (i % (s.K+1))) q
def pntN (s:SysF):Nat:=s.ex.length * (s.K+1)
theorem Q6 {s:SysF} {i:Nat} (h:i<pntN s):i / (s.K+1)<s.ex.length∧i % (s.K+1)≤s.K:=by
 have h1:i % (s.K+1)<s.K+1:=Nat.mod_lt _ (by omega)
 exact ⟨Nat.div_lt_of_lt_mul (by unfold pntN at h;rw[Nat.mul_comm];exact h),by omega⟩
def setB (s:SysF) (ch:List Int) (d:Int) (i:Nat):Bool:=decide (i % (s.K+1)=s.K)&&(List.range s.N).all fun q=>decide (decV s ch (i / (s.K+1)) q=d)
theorem zcQ {s:SysF} {ch:List Int} {d:Int} {i:Nat}:setB s ch d i=true↔i % (s.K+1)=s.K∧∀q,q<s.N→decV s ch (i / (s.K+1)) q=d:=by
 unfold setB
 rw[Bool.and_eq_true,decide_eq_true_iff,List.all_eq_true]
 constructor
 ·exact fun h=>⟨h.1,fun q hq=>by simpa using h.2 q (List.mem_range.2 hq)⟩
 ·exact fun h=>⟨h.1,fun q hq=>by simpa using h.2 q (List.mem_range.1 hq)⟩
theorem zeE {s:SysF} (hg:GoodS s s.N s.K) {q i j:Nat} (hq:q<s.N) (hi:i<pntN s) (hj:j<pntN s) (h:pntV s q i=pntV s q j):i % (s.K+1)=j % (s.K+1):=by
 obtain ⟨a1,a2⟩:=Q6 hi
 obtain ⟨b1,b2⟩:=Q6 hj
 obtain ⟨v,_,hv,tv⟩:=hg.view a1 a2 hq
 obtain ⟨u,_,hu,tu⟩:=hg.view b1 b2 hq
 unfold pntV at h
 rw[hv,hu]at h
 have e:v=u:=by omega
 subst e
 have:=tv.k0.symm.trans tu.k0
 omega
theorem zbj {s:SysF} {ch:List Int} (hg:GoodS s s.N s.K) (hok:∀e,e<s.ex.length→okE s ch e=true) (h0:∀e,e<s.ex.length→fltyW (nthX s.ex e).word=0)
  (hag:∀c,c<s.p.cs.length→∀v∈(nthC s.p.cs c).out,∀q,q<v.length→nth v q=nth v 0) {d:Int} {q i j:Nat} (hq:q<s.N) (hi:i<pntN s) (hj:j<pntN s) (h:pntV s q i=pntV s q j) (hs:setB s ch d i=true):setB s ch d j=true:=by
 obtain ⟨h1,h2⟩:=zcQ.1 hs
 have h3:=zeE hg hq hi hj h
 refine zcQ.2 ⟨by omega,zbp hg hok h0 hag (Q6 hi).1 (Q6 hj).1 hq ?_ h2⟩
 unfold pntV at h
 rw[←h3,h1]at h
 exact h
def pntL (s:SysF) (q:Nat):List Int:=zzlabs (keys (pntV s q) (pntN s))
theorem zer {s:SysF} {q i j:Nat} (hi:i<pntN s) (hj:j<pntN s):nth (pntL s q) i=nth (pntL s q) j↔pntV s q i=pntV s q j:=Xb hi hj
def setL (s:SysF) (ch:List Int) (d:Int):List Bool:=(List.range (pntN s)).map (setB s ch d)
theorem xA (s:SysF) (ch:List Int) (d:Int):(setL s ch d).length=pntN s:=by simp[setL]
theorem zat {s:SysF} {ch:List Int} {d:Int} {i:Nat} (h:i<pntN s):nthB (setL s ch d) i=setB s ch d i:=by simp[setL,nthB,h]
theorem zaI {s:SysF} {ch:List Int} (hg:GoodS s s.N s.K) (hok:∀e,e<s.ex.length→okE s ch e=true) (h0:∀e,e<s.ex.length→fltyW (nthX s.ex e).word=0)
  (hag:∀c,c<s.p.cs.length→∀v∈(nthC s.p.cs c).out,∀q,q<v.length→nth v q=nth v 0) {d:Int}:
  ∀q i j,q<s.N→i<(setL s ch d).length→j<(setL s ch d).length→nth (pntL s q) i=nth (pntL s q) j→nthB (setL s ch d) i=true→nthB (setL s ch d) j=true:=fun q i j hq hi hj he h=>by
 rw[xA]at hi hj
 rw[zat hi]at h
 rw[zat hj]
 exact zbj hg hok h0 hag hq hi hj ((zer hi hj).1 he) h
end Go.Proofs.YtjpakklplhabdaaGreat
namespace Go.Proofs.YtjpakklplhabdaaGreat
open Go.RowKit
attribute [local go_sem ↓] Go.wp_at_zero Go.wp_at_succ
theorem zav {S:Nat→Prop} {w:World} {v:Value} {s:SysF} (h:SysV S w v s) (hg:GoodS s s.N s.K) (hE:s.ex.length≤60):
  Calls Tryz.prog 116 #[v] w (Post w fun _ r=>r=.int .i64 (pntN s:Nat)):=by
 have HN:Hid (pntN s=s.ex.length * (s.K+1)):=zhd rfl
 obtain ⟨n,hn⟩:∃n,n=pntN s:=⟨_,rfl⟩
 rw[←hn]at HN ⊢
 have hrd:=hg.rnd
 have hK6:=hg.K6
 obtain ⟨K,hK⟩:∃K,K=s.K:=⟨_,rfl⟩
 rw[←hK]at hrd hK6 HN
 obtain ⟨vc,vs,vt,vx,rfl,hc,hs,ht,hx⟩:=h
 obtain ⟨ca,cc,rfl,_⟩:=hc.form
 obtain ⟨sa,sc,rfl,_⟩:=hs.form
 obtain ⟨ta,tc,rfl,_⟩:=ht.form
 obtain ⟨xa,xc,rfl,xad,_⟩:=hx.form2
 rw[hrd]
 have ex:=zb w (.cells #[.int .i64 s.p.n,.int .i64 s.p.ins,.int .i64 s.p.outs,.slice ca s.p.cs.length cc,.int .i64 s.p.an,.slice sa s.p.st.length sc,.int .i64 K,.int .i64 s.tn,.slice ta s.tab.length tc,.slice xa s.ex.length xc] 39)
 have R0:=ze w [.int .i64 s.p.n,.int .i64 s.p.ins,.int .i64 s.p.outs,.slice ca s.p.cs.length cc,.int .i64 s.p.an,.slice sa s.p.st.length sc,.int .i64 K,.int .i64 s.tn,.slice ta s.tab.length tc,.slice xa s.ex.length xc] 39
 have hmul:s.ex.length * (K+1)≤60 * 7:=Nat.mul_le_mul hE (by omega)
 have hp:((s.ex.length:Int) * ((K:Int)+1))=(n:Int):=by rw[HN.out];push_cast;rfl
 rw[←HN.out]at hmul
 have hm1:IntKind.i64.wrap ((s.ex.length:Int) * ((K:Int)+1))=(n:Int):=by rw[hp,IntWalk.i64_left,IntWalk.wrap64_in _ (by omega)]
 have hm2:wrap64 ((s.ex.length:Int) * ((K:Int)+1))=(n:Int):=by rw[hp,IntWalk.wrap64_in _ (by omega)]
 have HM:=zhd hm1
 clear hg hn hK hrd hc hs ht hx xad HN hp
 obtain ⟨t0,t1,t2,t3,t4,t5,t6,t7,t8,t9⟩:=R0.ten
 have l0:=R0.lt
 go_enter Tryz.func116,Tryz.ntmps116
 go_wp2
 go_ret
 first | exact .mk ex rfl | exact .mk ex (zi HM.out)
theorem Qm {S:Nat→Prop} {w:World} {v:Value} {s:SysF} (h:SysV S w v s) (hf:PFew s.p) (h0:verE s=0) (hg:GoodS s s.N s.K) (hE:s.ex.length≤60):
  Calls Tryz.prog 90 #[v] w (Post w fun _ r=>r=.tuple #[.int .i64 (pntN s:Nat),.int .i64 0]):=by
 have KV:Hid (∀W,Below w.heap.size w W→Calls Tryz.prog 66 #[v] W (Post W fun _ r=>r=.int .i64 0)):=zhd fun W hW=>by
  have:=yX (h.ext hW) hf
  rw[h0]at this;exact this
 have KC:Hid (∀W,Below w.heap.size w W→Calls Tryz.prog 116 #[v] W (Post W fun _ r=>r=.int .i64 (pntN s:Nat))):=zhd fun W hW=>zav (h.ext hW) hg hE
 obtain ⟨n,hn⟩:∃n,n=pntN s:=⟨_,rfl⟩
 rw[←hn]at KC ⊢
 obtain ⟨vc,vs,vt,vx,rfl,hc,hs,ht,hx⟩:=h
 obtain ⟨ca,cc,rfl,_⟩:=hc.form
 obtain ⟨sa,sc,rfl,_⟩:=hs.form
 obtain ⟨ta,tc,rfl,_⟩:=ht.form
 obtain ⟨xa,xc,rfl,xad,_⟩:=hx.form2
 have ex:=zb w (.cells #[.int .i64 s.p.n,.int .i64 s.p.ins,.int .i64 s.p.outs,.slice ca s.p.cs.length cc,.int .i64 s.p.an,.slice sa s.p.st.length sc,.int .i64 s.p.rounds,.int .i64 s.tn,.slice ta s.tab.length tc,.slice xa s.ex.length xc] 39)
 have R0:=ze w [.int .i64 s.p.n,.int .i64 s.p.ins,.int .i64 s.p.outs,.slice ca s.p.cs.length cc,.int .i64 s.p.an,.slice sa s.p.st.length sc,.int .i64 s.p.rounds,.int .i64 s.tn,.slice ta s.tab.length tc,.slice xa s.ex.length xc] 39
 clear hn hf h0 hg hE hc hs ht hx xad
 obtain ⟨t0,t1,t2,t3,t4,t5,t6,t7,t8,t9⟩:=R0.ten
 have l0:=R0.lt
 go_enter Tryz.func90,Tryz.ntmps90
 go_wp2_with fail
 refine (KV.out _ ex).mono ?_
 rintro _ w1 ⟨_,rfl,hb,rfl⟩
 replace R0:=R0.ext hb
 replace ex:=za ex hb
 clear hb KV t0 t1 t2 t3 t4 t5 t6 t7 t8 t9 l0
 obtain ⟨t0,t1,t2,t3,t4,t5,t6,t7,t8,t9⟩:=R0.ten
 have l0:=R0.lt
 go_wp2_with fail
 refine (KC.out _ ex).mono ?_
 rintro _ w2 ⟨_,rfl,hb,rfl⟩
 replace ex:=za ex hb
 clear hb KC t0 t1 t2 t3 t4 t5 t6 t7 t8 t9 l0 R0
 go_wp2
 go_ret2
 exact .mk ex rfl
theorem XF {S:Nat→Prop} {w:World} {g b q e k:Nat} {s:SysF} {ca sa ta xa:Option Addr} {cc sc tc xc:Nat} (hx:Sl kExec S w (.slice xa s.ex.length xc) s.ex) (R:Row w g 39 [.int .i64 s.p.n,.int .i64 s.p.ins,.int .i64 s.p.outs,.slice ca s.p.cs.length cc,.int .i64 s.p.an,.slice sa s.p.st.length sc,.int .i64 s.p.rounds,.int .i64 s.tn,.slice ta s.tab.length tc,.slice xa s.ex.length xc]) (RB:Row w b 3 [.int .i64 q]) (he:e<s.ex.length) (hk:k<(nthX s.ex e).vs.length) (hq:q<(nthL (nthX s.ex e).vs k).length):
  Calls Tryz.prog 118 #[.agg #[.int .i64 (e:Nat),.int .i64 (k:Nat)],.pointer (some ⟨g,0,none⟩),.pointer (some ⟨b,0,none⟩)] w (Post w fun _ r=>r=.int .i64 (nth (nthL (nthX s.ex e).vs k) q)):=by
 have ex:=zb w (.cells #[.int .i64 (e:Nat),.int .i64 (k:Nat)] 175)
 have RP:=ze w [.int .i64 (e:Nat),.int .i64 (k:Nat)] 175
 have R1:=R.ext ex
 have RB1:=RB.ext ex
 obtain ⟨_,_,hee,xad,_⟩:=hx.form2
 cases hee
 have qe:=yg xad e he
 obtain ⟨a1,c1,a2,c2,z1,z2,z3,_,hv⟩:=(hx.ext ex).exec he
 have be:=zI ((hx.ext ex).ad.1) (show 0<s.ex.length by omega) (e * 3)
 obtain ⟨_,_,hee,vad,_⟩:=hv.form
 cases hee
 obtain ⟨i0,hi0,hz0,hz1,hz2⟩:=info_parts zF
 have qk:=zz Tryz.underlying47 hi0 hz1 vad k hk
 obtain ⟨u,z4,hu⟩:=hv.at (.refl _ _) hk
 obtain ⟨a4,c4,rfl,_⟩:=hu.form
 have qq:=hu.idx hq
 have z5:=hu.cellN hq
 have b4:=World.block_lt_of_cell? _ _ z4
 have b5:=World.block_lt_of_cell? _ _ z5
 have s9:=R1.zc 9 rfl
 have sl:=R1.lt
 have p0:=RP.zc 0 rfl
 have p1:=RP.zc 1 rfl
 have pl:=RP.lt
 have n0:=RB1.zc 0 rfl
 have nl:=RB1.lt
 obtain ⟨x,hx2⟩:∃x,x=nth (nthL (nthX s.ex e).vs k) q:=⟨_,rfl⟩
 rw[←hx2]at z5 ⊢
 obtain ⟨y1,hy1⟩:∃y,y=(nthX s.ex e).case:=⟨_,rfl⟩
 obtain ⟨y2,hy2⟩:∃y,y=(nthX s.ex e).word.length:=⟨_,rfl⟩
 obtain ⟨y3,hy3⟩:∃y,y=(nthX s.ex e).vs.length:=⟨_,rfl⟩
 obtain ⟨y4,hy4⟩:∃y,y=(nthL (nthX s.ex e).vs k).length:=⟨_,rfl⟩
 rw[←hy1]at z1
 rw[←hy2]at z2
 rw[←hy3]at z3 qk
 rw[←hy4]at z4 qq
 have HX:=zhd (fun n=>za ex (zh _ _ n))
 clear hx R RB ex RP R1 RB1 xad hv vad hi0 hz0 hz1 hz2 hu hx2 hy1 hy2 hy3 hy4 he hk hq
 go_enter Tryz.func118,Tryz.ntmps118
 go_upto_region 1 with fail
 obtain ⟨w1,hw1⟩:∃w1,w1=w.alloc (.cells #[.int .i64 (e:Nat),.int .i64 (k:Nat)] 175):=⟨_,rfl⟩
 obtain ⟨pb,hpb⟩:∃pb,pb=w.heap.size:=⟨_,rfl⟩
 rw[←hw1]at z1 z2 z3 z4 z5 b4 b5 be s9 sl p0 p1 pl n0 nl HX ⊢
 rw[←hpb]at p0 p1 pl ⊢
 have HPB:=zhd hpb
 clear hw1 hpb
 go_quiet (fail)
 refine zK fun w2 hq2=>?_
 obtain ⟨n2,rfl⟩:=hq2
 have ex:=HX.out n2
 clear HX z1 z2 z3 z4 z5 b4 b5 be s9 sl p0 p1 pl n0 nl qe qk qq
 go_wp2
 go_ret
 exact .mk ex rfl
theorem zby (w:World) {K E:Nat} {ca sa ta xa:Option Addr} {cc sc tc xc:Nat} {s:SysF}:Calls Tryz.prog 135 #[.agg #[.int .i64 s.p.n,.int .i64 s.p.ins,.int .i64 s.p.outs,.slice ca s.p.cs.length cc,.int .i64 s.p.an,.slice sa s.p.st.length sc,.int .i64 K,.int .i64 s.tn,.slice ta s.tab.length tc,.slice xa E xc]] w fun q w'=>q=.returned (.func (.func 148) #[] #[.pointer (some ⟨w.heap.size,0,none⟩)])∧w'=w.alloc (.cells #[.int .i64 s.p.n,.int .i64 s.p.ins,.int .i64 s.p.outs,.slice ca s.p.cs.length cc,.int .i64 s.p.an,.slice sa s.p.st.length sc,.int .i64 K,.int .i64 s.tn,.slice ta s.tab.length tc,.slice xa E xc] 39):=by
 go_enter Tryz.func135,Tryz.ntmps135
 go_wp2
 go_ret
 exact ⟨rfl,rfl⟩
abbrev Pnt (E K:Nat):Type:={x:Nat×Nat // x.1<E∧x.2<K+1}
theorem zcJ {T:Nat→Prop} {w:World} {n B K E:Nat} {ca sa ta xa:Option Addr} {cc sc tc xc:Nat} {s:SysF} (hn:1≤n) (R1:Row w B 39 [.int .i64 s.p.n,.int .i64 s.p.ins,.int .i64 s.p.outs,.slice ca s.p.cs.length cc,.int .i64 s.p.an,.slice sa s.p.st.length sc,.int .i64 K,.int .i64 s.tn,.slice ta s.tab.length tc,.slice xa E xc]) (hT1:T B) (hK:K≤6) (hE:E≤60):
  SeqStopsK Fence.wide n Tryz.prog 148 #[.pointer (some ⟨B,0,none⟩)] (fun x:Pnt E K=>#[.agg #[.int .i64 (x.1.1:Nat),.int .i64 (x.1.2:Nat)]]) (Agree T) (fun l=>l.map (·.1)=pairsI E (K+1)) (fun pre=>pre.map (·.1)<+:pairsI E (K+1)) (pairsI E (K+1)).length w:=by
 intro l J Jx W hW hJ hJx hY h0
 have HY:=zhd hY
 have H0:=zhd h0
 have R1:=R1.ext hW
 have HR1:Hid (∀W',Agree T W W'→Row W' B 39 [.int .i64 s.p.n,.int .i64 s.p.ins,.int .i64 s.p.outs,.slice ca s.p.cs.length cc,.int .i64 s.p.an,.slice sa s.p.st.length sc,.int .i64 K,.int .i64 s.tn,.slice ta s.tab.length tc,.slice xa E xc]):=zhd fun W' h=>R1.agree h hT1
 have t9:=R1.zc 9 rfl
 have lb:=R1.lt
 have hag:Agree T W W:=.refl _ _
 clear hJ hJx hY h0 R1
 refine callsIn_of_wp Tryz.func148 rfl trivial ?_ rfl
 simp only[Tryz.ntmps148,List.size_toArray,List.length_cons,List.length_nil,Nat.reduceAdd,Nat.reduceSub,Array.replicate_succ,Array.replicate_zero,List.push_toArray,List.append_toArray,List.nil_append,List.cons_append]
 gi_wp2
 clear t9 lb
 gi_loopw [3,4,8,15] (fun _ _ i _ wr=>∃(k:Nat) (pre:List (Pnt E K)),k≤E∧i=.int .i64 k∧Hid (J pre wr)∧Hid (pre.map (·.1)=pairsIT (K+1) k)∧Agree T W wr) (fun _ _ i _ _=>E - (intOf i).toNat)
 case atStart=>exact ⟨0,[],Nat.zero_le _,rfl,H0,zhd rfl,hag⟩
 case round=>
  clear hag H0
  obtain ⟨k,pre,hk,rfl,HJs,HP,hA⟩:=hrel
  by_cases hlt:k<E
  case neg=>
   obtain rfl:k=E:=by omega
   have HPE:Hid (pre.map (·.1)=pairsI k (K+1)):=zhd HP.out
   gi_wp2
   go_end0
   exact ⟨⟨_,rfl⟩,.inl ⟨pre,HPE.out,HJs.out⟩⟩
  have t6:=(HR1.out wr hA).zc 6 rfl
  have lb:=(HR1.out wr hA).lt
  have HP0:Hid (pre.map (·.1)=pairsIT (K+1) k++(List.range 0).map (fun j=>(k,j))):=zhd (by simpa using HP.out)
  clear HP
  gi_wp2
  clear t6 lb
  gi_loopw [4,15] (fun _ i wi=>∃(j:Nat) (pre:List (Pnt E K)),j≤K+1∧i=.int .i64 j∧Hid (J pre wi)∧Hid (pre.map (·.1)=pairsIT (K+1) k++(List.range j).map (fun j=>(k,j)))∧Agree T W wi) (fun _ i _=>(K+1) - (intOf i).toNat)
  case atStart=>exact ⟨0,pre,Nat.zero_le _,rfl,HJs,HP0,hA⟩
  case round=>
   clear HJs HP0 hA pre
   obtain ⟨j,pre,hj,rfl,HJs,HP,hA⟩:=hrel
   by_cases hjl:j<K+1
   case neg=>
    obtain rfl:j=K+1:=by omega
    have HPN:Hid (pre.map (·.1)=pairsIT (K+1) (k+1)):=zhd (by rw[yn,HP.out])
    clear HP
    gi_wp2
    go_roundw
    case rel=>exact ⟨k+1,pre,by omega,by go_num,HJs,HPN,hA⟩
    case measure=>simp[intOf];omega
   have HHM:Hid (k<E∧j<K+1):=zhd ⟨hlt,hjl⟩
   have HPN:Hid ((pre++[(⟨(k,j),HHM.out⟩:Pnt E K)]).map (·.1)=pairsIT (K+1) k++(List.range (j+1)).map (fun j=>(k,j))):=zhd (by rw[yL,List.map_append,HP.out,List.append_assoc];simp)
   have HPX:Hid ((pre++[(⟨(k,j),HHM.out⟩:Pnt E K)]).map (·.1)<+:pairsI E (K+1)):=zhd (by rw[HPN.out];exact yK hlt hjl)
   have hpl:pre.length<(pairsI E (K+1)).length:=by
    have h2:=HPX.out.length_le
    rw[List.length_map,List.length_append]at h2
    simp at h2
    omega
   obtain ⟨fn,tmps,assign,body,hyy,hRnd⟩:=HY.out pre ⟨(k,j),HHM.out⟩ _ HJs.out hpl
   dsimp only at hyy
   clear hpl HP
   gi_wp2
   refine hRnd.mono ?_
   rintro e W3 (⟨rfl,hJ3,hk3⟩ | ⟨rfl,hJx3⟩)
   ·have HJ3:=zhd hJ3
    have hA3:=hA.trans hk3
    clear hJ3 hyy hRnd
    gi_wp2
    go_roundw
    case rel=>exact ⟨j+1,_,by omega,by go_num,HJ3,HPN,hA3⟩
    case measure=>simp[intOf];omega
   ·have HJ3:=zhd hJx3
    clear hJx3 hyy hRnd
    gi_wp2
    refine bodyPost_ret (results_none rfl _ _ _) rfl ?_
    exact ⟨⟨_,rfl⟩,.inr ⟨_,HPX.out,HJ3.out⟩⟩
end Go.Proofs.YtjpakklplhabdaaGreat
