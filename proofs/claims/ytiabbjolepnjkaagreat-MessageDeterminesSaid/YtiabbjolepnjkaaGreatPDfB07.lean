/- Part of the proof that the laws answer true for every input. -/
import Derived.Test.YtiabbjolepnjkaaGreatPDfB06
set_option linter.unusedSimpArgs false
set_option linter.unnecessarySimpa false
set_option linter.unusedVariables false
set_option maxRecDepth 100000
set_option maxHeartbeats 40000000
namespace Go.Proofs.YtiabbjolepnjkaaGreat
open Go.RowKit
attribute [local go_sem ↓] Go.wp_at_zero Go.wp_at_succ
def BegR (B:Nat) (A:Nat→Prop) (s:SysF) (cl:List Int) (r f t:Int) (w':World) (q:Value):Prop:=(plcE s cl r f t=0∧∃g,q=.tuple #[.pointer (some ⟨g,0,none⟩),.int .i64 0]∧ScnM (fun b=>A b∨B≤b) w' g s cl∧B≤g)∨(plcE s cl r f t≠0∧∃u,q=.tuple #[.pointer u,plcE s cl r f t])
theorem zhW {s:SysF} {cl:List Int} {r f t:Int} (h:mesE s cl≠0):plcE s cl r f t=mesE s cl:=by unfold plcE;rw[if_neg h]
theorem QD {S:Nat→Prop} {w:World} {v vcl:Value} {s:SysF} {cl:List Int} (r f t:Int) (h:SysV S w v s) (hf:PFew s.p) (h3:Ints S w vcl cl) (hm:s.tab.length≤120):
  Calls Tryz.prog 63 #[v,vcl,.agg #[r,f,t]] w (Post w (BegR w.heap.size (fun b=>S b∧b<w.heap.size) s cl r f t)):=by
 have KN:Hid (∀W,Below w.heap.size w W→Calls Tryz.prog 68 #[v,vcl] W (Post W (NewR W.heap.size (fun b=>S b∧b<W.heap.size) s cl))):=zhd fun W hW=>Yf (h.ext hW) hf (h3.ext hW) hm;have KN':Hid (∀W,Below w.heap.size w W→Calls Tryz.prog 68 #[v,vcl] W (Post W (NewR W.heap.size (fun b=>(S b∧b<w.heap.size)∧b<W.heap.size) s cl))):=zhd fun W hW=>Yf (h.block.ext hW) hf ((h3.block 0).ext hW) hm;have KC:Hid (∀(A:Nat→Prop) W g,ScnM A W g s cl→Calls Tryz.prog 100 #[.pointer (some ⟨g,0,none⟩),.agg #[r,f,t]] W (Post W fun _ q=>q=.int .i64 (plcM s r f t))):=zhd fun A W g hS=>zeY r f t hS;have HQ:Hid ((mesE s cl=0→plcE s cl r f t=plcM s r f t)∧(mesE s cl≠0→plcE s cl r f t=mesE s cl)):=zhd ⟨ziL,zhW⟩;have HO:Hid (∀w' g,plcE s cl r f t=0→ScnM (fun b=>(S b∧b<w.heap.size)∨w.heap.size≤b) w' g s cl→w.heap.size≤g→BegR w.heap.size (fun b=>S b∧b<w.heap.size) s cl r f t w' (.tuple #[.pointer (some ⟨g,0,none⟩),.int .i64 0])):=zhd fun w' g h0 hS hb=>.inl ⟨h0,g,rfl,hS,hb⟩;have HE:Hid (∀w' u,plcE s cl r f t≠0→BegR w.heap.size (fun b=>S b∧b<w.heap.size) s cl r f t w' (.tuple #[.pointer u,plcE s cl r f t])):=zhd fun w' u h0=>.inr ⟨h0,u,rfl⟩;obtain ⟨BR,hBR⟩:=zn (BegR w.heap.size (fun b=>S b∧b<w.heap.size) s cl r f t);rw[←hBR]at HO HE ⊢;obtain ⟨e,hee⟩:=zn (plcE s cl r f t);rw[←hee]at HO HE HQ;obtain ⟨pm,hpm⟩:∃e,e=plcM s r f t:=⟨_,rfl⟩;rw[←hpm]at KC HQ;obtain ⟨ca,cc,sa,sc,ta,tc,xa,xc,rfl,hc,hs,ht,hx⟩:=h.zf;obtain ⟨a3,c3,rfl,_⟩:=h3.form;obtain ⟨ex,R0,R1⟩:=zb2 w [s.p.n,s.p.ins,s.p.outs,.slice ca s.p.cs.length cc,s.p.an,.slice sa s.p.st.length sc,s.p.rounds,s.tn,.slice ta s.tab.length tc,.slice xa s.ex.length xc] [r,f,t] 35 68;clear hc hs ht hx h3 hf hm hee hBR hpm KN;obtain ⟨t0,t1,t2,t3,t4,t5,t6,t7,t8,t9⟩:=R0.ten;have l0:=R0.lt;have p0:=R1.zc 0 rfl;have p1:=R1.zc 1 rfl;have p2:=R1.zc 2 rfl;have l1:=R1.lt;go_enter Tryz.func63,Tryz.ntmps63;go_wp2_with fail;refine (KN'.out _ ex).mono ?_;rintro _ w1 ⟨_,rfl,hb,hN⟩;replace R0:=R0.ext hb;replace R1:=R1.ext hb;replace ex:=za ex hb;clear hb KN' t0 t1 t2 t3 t4 t5 t6 t7 t8 t9 l0 p0 p1 p2 l1;rcases hN with ⟨h0,g,rfl,hS,hg0⟩ | ⟨h0,rfl⟩
 case inr=>
  have h1:=HQ.out.2 h0;have RE:=zhd (HE.out w1 none (by rw[h1];exact h0));obtain ⟨em,hem⟩:=zn (mesE s cl);rw[h1]at RE;rw[←hem]at RE h0 ⊢;have d0:(em !=0)=true:=by simp[h0]
  clear h0 h1 hem HO HE HQ KC;go_wp2;go_ret2;exact .mk ex RE.out
 have HPE:=zhd (HQ.out.1 h0);have HEX1:=ex.size;have HS1:Hid (ScnM (fun b=>(S b∧b<w.heap.size)∨w.heap.size≤b) w1 g s cl):=zhd (hS.mono fun b hb=>by
  rcases hb with ⟨h1,_⟩ | h1
  ·exact .inl h1
  ·simp only[World.size_alloc]at h1;exact .inr (by omega))
 have hgw:w.heap.size≤g:=by simp only[World.size_alloc]at hg0;omega
 have KC1:=zhd (KC.out _ _ _ HS1.out);have d0:((0:Int) !=0)=false:=rfl;obtain ⟨t0,t1,t2,t3,t4,t5,t6,t7,t8,t9⟩:=R0.ten;have l0:=R0.lt;have p0:=R1.zc 0 rfl;have p1:=R1.zc 1 rfl;have p2:=R1.zc 2 rfl;have l1:=R1.lt;clear h0 hS HQ KC hg0;go_wp2_with fail;refine KC1.out.mono ?_;rintro _ w2 ⟨_,rfl,hb2,rfl⟩;have HS2:=zhd (HS1.out.ext hb2);replace ex:=za ex hb2;clear KC1 hb2 HS1 R0 R1 t0 t1 t2 t3 t4 t5 t6 t7 t8 t9 l0 p0 p1 p2 l1;by_cases hz:e=0
 ·have RE:=zhd (HO.out w2 g hz HS2.out hgw);have hp0:pm=0:=by rw[←HPE.out];exact hz
  subst hp0;clear HO HE HPE hz HS2;go_wp2;go_ret2;exact .mk ex RE.out
 ·have RE:=zhd (HE.out w2 (some ⟨g,0,none⟩) hz);rw[HPE.out]at RE;clear HO HE HPE hz HS2;go_wp2;go_ret2;exact .mk ex RE.out
theorem xJ {S:Nat→Prop} {w:World} {v vcl:Value} {s:SysF} {cl:List Int} (r f t:Int) (h:SysV S w v s) (hf:PFew s.p) (h3:Ints S w vcl cl) (hm:s.tab.length≤120):
  Calls Tryz.prog 29 #[v,vcl,.agg #[r,f,t]] w (Post w (SymR w.heap.size s cl r f t)):=by
 have KB:Hid (∀W,Below w.heap.size w W→Calls Tryz.prog 63 #[v,vcl,.agg #[r,f,t]] W (Post W (BegR W.heap.size (fun b=>S b∧b<W.heap.size) s cl r f t))):=zhd fun W hW=>QD r f t (h.ext hW) hf (h3.ext hW) hm;have HNT:Hid (plcE s cl r f t=0→r=(r.toNat:Int)∧f=(f.toNat:Int)∧t=(t.toNat:Int)):=zhd YR;have KY:Hid (∀(A:Nat→Prop) W g,plcE s cl r f t=0→ScnM A W g s cl→Calls Tryz.prog 64 #[.pointer (some ⟨g,0,none⟩),.agg #[r,f,t]] W (Post W fun w' q=>∃u,q=.tuple #[u,.int .i64 (manyN s.tab cl r.toNat f.toNat t.toNat (mN cl))]∧Ints (fun b=>W.heap.size≤b) w' u (symL s.tab cl r.toNat f.toNat t.toNat (mN cl)))):=zhd fun A W g h0 hS=>by
  obtain ⟨e1,e2,e3⟩:=YR h0;have:=YV (r:=r.toNat) (f:=f.toNat) (t:=t.toNat) hS;rw[←e1,←e2,←e3]at this;exact this
 have HO:Hid (∀w' u,plcE s cl r f t=0→Ints (fun b=>w.heap.size≤b) w' u (symL s.tab cl r.toNat f.toNat t.toNat (mN cl))→SymR w.heap.size s cl r f t w' (.tuple #[u,.int .i64 0])):=zhd fun w' u h0 hu=>.inl ⟨h0,u,rfl,hu⟩;have HE:Hid (∀w',plcE s cl r f t≠0→SymR w.heap.size s cl r f t w' (.tuple #[.slice none 0 0,plcE s cl r f t])):=zhd fun w' h0=>.inr ⟨h0,rfl⟩;obtain ⟨SR,hSR⟩:=zn (SymR w.heap.size s cl r f t);rw[←hSR]at HO HE ⊢;obtain ⟨sl,hsl⟩:∃l,l=symL s.tab cl r.toNat f.toNat t.toNat (mN cl):=⟨_,rfl⟩;rw[←hsl]at KY HO;obtain ⟨ca,cc,sa,sc,ta,tc,xa,xc,rfl,hc,hs,ht,hx⟩:=h.zf;obtain ⟨a3,c3,rfl,_⟩:=h3.form;obtain ⟨ex,R0,R1⟩:=zb2 w [s.p.n,s.p.ins,s.p.outs,.slice ca s.p.cs.length cc,s.p.an,.slice sa s.p.st.length sc,s.p.rounds,s.tn,.slice ta s.tab.length tc,.slice xa s.ex.length xc] [r,f,t] 35 68;clear hc hs ht hx h3 hf hm hSR hsl HNT;obtain ⟨t0,t1,t2,t3,t4,t5,t6,t7,t8,t9⟩:=R0.ten;have l0:=R0.lt;have p0:=R1.zc 0 rfl;have p1:=R1.zc 1 rfl;have p2:=R1.zc 2 rfl;have l1:=R1.lt;go_enter Tryz.func29,Tryz.ntmps29;go_wp2_with fail;refine (KB.out _ ex).mono ?_;rintro _ w1 ⟨_,rfl,hb,hB⟩;replace R0:=R0.ext hb;replace R1:=R1.ext hb;replace ex:=za ex hb;clear hb KB t0 t1 t2 t3 t4 t5 t6 t7 t8 t9 l0 p0 p1 p2 l1;rcases hB with ⟨h0,g,rfl,hS,_⟩ | ⟨h0,u,rfl⟩
 case inr=>
  have RE:=zhd (HE.out w1 h0);obtain ⟨e,hee⟩:=zn (plcE s cl r f t);rw[←hee]at RE h0 ⊢;have d0:(e !=0)=true:=by simp[h0]
  clear h0 hee HO HE KY;go_wp2;go_ret2;exact .mk ex RE.out
 have HO1:=zhd (fun w' u=>HO.out w' u h0);have KY1:=zhd (KY.out _ _ _ h0 hS);have d0:((0:Int) !=0)=false:=rfl;obtain ⟨t0,t1,t2,t3,t4,t5,t6,t7,t8,t9⟩:=R0.ten;have l0:=R0.lt;have p0:=R1.zc 0 rfl;have p1:=R1.zc 1 rfl;have p2:=R1.zc 2 rfl;have l1:=R1.lt;clear h0 hS HO HE KY;go_wp2_with fail;refine KY1.out.mono ?_;rintro _ w2 ⟨_,rfl,hb2,u,rfl,hi⟩;have hsz:=ex.size;have RE:=zhd (HO1.out w2 u (hi.mono fun b hb=>by omega));replace ex:=za ex hb2;obtain ⟨a5,c5,rfl,_⟩:=hi.form;clear hi hb2 KY1 HO1 t0 t1 t2 t3 t4 t5 t6 t7 t8 t9 l0 p0 p1 p2 l1 R0 R1;go_wp2;go_ret2;exact .mk ex RE.out
theorem XZ {S:Nat→Prop} {w:World} {v vcl:Value} {s:SysF} {cl:List Int} (r f t:Int) (h:SysV S w v s) (hf:PFew s.p) (h3:Ints S w vcl cl) (hm:s.tab.length≤120):
  Calls Tryz.prog 31 #[v,vcl,.agg #[r,f,t]] w (Post w fun _ q=>q=.tuple #[cntP s cl r f t,plcE s cl r f t]):=by
 have KB:Hid (∀W,Below w.heap.size w W→Calls Tryz.prog 63 #[v,vcl,.agg #[r,f,t]] W (Post W (BegR W.heap.size (fun b=>S b∧b<W.heap.size) s cl r f t))):=zhd fun W hW=>QD r f t (h.ext hW) hf (h3.ext hW) hm;have HNT:Hid (plcE s cl r f t=0→r=(r.toNat:Int)∧f=(f.toNat:Int)∧t=(t.toNat:Int)):=zhd YR;have KY:Hid (∀(A:Nat→Prop) W g,plcE s cl r f t=0→ScnM A W g s cl→Calls Tryz.prog 64 #[.pointer (some ⟨g,0,none⟩),.agg #[r,f,t]] W (Post W fun w' q=>∃u,q=.tuple #[u,.int .i64 (manyN s.tab cl r.toNat f.toNat t.toNat (mN cl))]∧Ints (fun b=>W.heap.size≤b) w' u (symL s.tab cl r.toNat f.toNat t.toNat (mN cl)))):=zhd fun A W g h0 hS=>by
  obtain ⟨e1,e2,e3⟩:=YR h0;have:=YV (r:=r.toNat) (f:=f.toNat) (t:=t.toNat) hS;rw[←e1,←e2,←e3]at this;exact this
 have HO:Hid ((plcE s cl r f t=0→cntP s cl r f t=manyN s.tab cl r.toNat f.toNat t.toNat (mN cl))∧(plcE s cl r f t≠0→cntP s cl r f t=0)):=zhd ⟨fun h0=>by unfold cntP;rw[if_pos h0],fun h0=>by unfold cntP;rw[if_neg h0]⟩;obtain ⟨z,hz⟩:=zn (cntP s cl r f t);rw[←hz]at HO ⊢;obtain ⟨mm,hmm⟩:∃l,l=manyN s.tab cl r.toNat f.toNat t.toNat (mN cl):=⟨_,rfl⟩;rw[←hmm]at KY HO;obtain ⟨ca,cc,sa,sc,ta,tc,xa,xc,rfl,hc,hs,ht,hx⟩:=h.zf;obtain ⟨a3,c3,rfl,_⟩:=h3.form;obtain ⟨ex,R0,R1⟩:=zb2 w [s.p.n,s.p.ins,s.p.outs,.slice ca s.p.cs.length cc,s.p.an,.slice sa s.p.st.length sc,s.p.rounds,s.tn,.slice ta s.tab.length tc,.slice xa s.ex.length xc] [r,f,t] 35 68;clear hc hs ht hx h3 hf hm hz hmm HNT;obtain ⟨t0,t1,t2,t3,t4,t5,t6,t7,t8,t9⟩:=R0.ten;have l0:=R0.lt;have p0:=R1.zc 0 rfl;have p1:=R1.zc 1 rfl;have p2:=R1.zc 2 rfl;have l1:=R1.lt;go_enter Tryz.func31,Tryz.ntmps31;go_wp2_with fail;refine (KB.out _ ex).mono ?_;rintro _ w1 ⟨_,rfl,hb,hB⟩;replace R0:=R0.ext hb;replace R1:=R1.ext hb;replace ex:=za ex hb;clear hb KB t0 t1 t2 t3 t4 t5 t6 t7 t8 t9 l0 p0 p1 p2 l1;rcases hB with ⟨h0,g,rfl,hS,_⟩ | ⟨h0,u,rfl⟩
 case inr=>
  have RE:=zhd (HO.out.2 h0);obtain ⟨e,hee⟩:=zn (plcE s cl r f t);have HEE:=zhd hee;rw[←hee]at h0 ⊢;have d0:(e !=0)=true:=by simp[h0]
  clear h0 hee HO KY;go_wp2;go_ret2;exact .mk ex (tup2 RE.out.symm HEE.out)
 have RE:=zhd (HO.out.1 h0);have HE0:=zhd h0;have KY1:=zhd (KY.out _ _ _ h0 hS);have d0:((0:Int) !=0)=false:=rfl;obtain ⟨t0,t1,t2,t3,t4,t5,t6,t7,t8,t9⟩:=R0.ten;have l0:=R0.lt;have p0:=R1.zc 0 rfl;have p1:=R1.zc 1 rfl;have p2:=R1.zc 2 rfl;have l1:=R1.lt;clear h0 hS HO KY;go_wp2_with fail;refine KY1.out.mono ?_;rintro _ w2 ⟨_,rfl,hb2,u,rfl,hi⟩;replace ex:=za ex hb2;obtain ⟨a5,c5,rfl,_⟩:=hi.form;clear hi hb2 KY1 t0 t1 t2 t3 t4 t5 t6 t7 t8 t9 l0 p0 p1 p2 l1 R0 R1;go_wp2;go_ret2;exact .mk ex (tup2 RE.out.symm HE0.out.symm)
def ledM (sy:List Int) (k:Nat) (z:Int):Option Value:=if 0≤z then fstM sy k z else none
theorem zgz (sy:List Int):ledM sy 0=fun _=>none:=by
 funext z;unfold ledM;rw[zbn];split<;>rfl
theorem zfm {sy:List Int} {k:Nat} (h:nth sy k<0):ledM sy (k+1)=ledM sy k:=by
 funext z
 unfold ledM;split
 ·rename_i hz;rcases QA sy k with ⟨_,_,h3⟩ | ⟨_,_,_,_,h3⟩
  ·rw[←h3];simp only;rw[if_neg (by omega)]
  ·rw[h3]
 ·rfl
theorem zgm {sy:List Int} {k:Nat} (h:0≤nth sy k):(ledM sy k (nth sy k)=none∧fstC sy k=k∧(fun z=>if z=nth sy k then some (Value.int .i64 (k:Int)) else ledM sy k z)=ledM sy (k+1))∨∃t:Nat,t<k∧ledM sy k (nth sy k)=some (.int .i64 t)∧fstC sy k=t∧nth sy t=nth sy k∧ledM sy (k+1)=ledM sy k:=by
 rcases QA sy k with ⟨h1,h2,h3⟩ | ⟨t,h0,h1,h2,h3⟩
 ·left;refine ⟨by unfold ledM;rw[if_pos h,h1],h2,?_⟩;funext z
  unfold ledM;rw[←h3];by_cases hz:0≤z
  ·rw[if_pos hz,if_pos hz]
  ·rw[if_neg hz,if_neg hz,if_neg (by omega)]
 ·right;refine ⟨t,h0,by unfold ledM;rw[if_pos h,h1],h2,by rw[←h2];exact (qK sy k).2.1,by unfold ledM;rw[h3]⟩
theorem Zo {S S4:Nat→Prop} {w:World} {v vcl vsy:Value} {s:SysF} {cl sy:List Int} (r f t:Int) (h:SysV S w v s) (hf:PFew s.p) (h3:Ints S w vcl cl) (h4:Ints S4 w vsy sy) (hm:s.tab.length≤120):
  Calls Tryz.prog 35 #[v,vcl,.agg #[r,f,t],vsy] w (Post w fun _ q=>q=.int .i64 (vsyE s cl sy r f t)):=by
 have KB:Hid (∀W,Below w.heap.size w W→Calls Tryz.prog 63 #[v,vcl,.agg #[r,f,t]] W (Post W (BegR W.heap.size (fun b=>S b∧b<W.heap.size) s cl r f t))):=zhd fun W hW=>QD r f t (h.ext hW) hf (h3.ext hW) hm;have KS:Hid (plcE s cl r f t=0→∀(A:Nat→Prop) W g c,ScnM A W g s cl→c<mN cl→Calls Tryz.prog 73 #[.pointer (some ⟨g,0,none⟩),.agg #[r,f,t],c] W (Post W fun _ q=>q=.bool (sndB s.tab cl r.toNat f.toNat c))):=zhd fun h0 A W g c hS hc=>by
  obtain ⟨e1,e2,e3⟩:=YR h0;have:=XU (r:=r.toNat) (f:=f.toNat) (t:=t.toNat) hS hc;rw[←e1,←e2,←e3]at this;exact this
 have KE:Hid (plcE s cl r f t=0→∀(A:Nat→Prop) W g c d,ScnM A W g s cl→c<mN cl→d<mN cl→sndB s.tab cl r.toNat f.toNat c=true→sndB s.tab cl r.toNat f.toNat d=true→Calls Tryz.prog 74 #[.pointer (some ⟨g,0,none⟩),.agg #[r,f,t],c,d] W (Post W fun _ q=>q=.bool (eqC s.tab cl t.toNat c d))):=zhd fun h0 A W g c d hS hc hd sc sd=>by
  obtain ⟨e1,e2,e3⟩:=YR h0;have:=X9 (t:=t.toNat) hS hc hd sc sd;rw[←e1,←e2,←e3]at this;exact this
 have HQ:Hid (vsyE s cl sy r f t=if plcE s cl r f t=0 then (if sy.length=mN cl then (if firstE (sfmE s.tab cl sy r.toNat f.toNat) sy.length=0 then (if enoB s.tab cl sy t.toNat then 0 else 18) else 2) else 3) else plcE s cl r f t):=zhd (by
  unfold vsyE;rfl)
 have HSFD:Hid (∀c,sfmE s.tab cl sy r.toNat f.toNat c=if (decide (0≤nth sy c)=sndB s.tab cl r.toNat f.toNat c)∧ -1≤nth sy c∧nth sy c≤1048576 then 0 else 2):=zhd fun c=>rfl;have HG:=zhd (fun h0:plcE s cl r f t=0=>za7 h h0);have HEI:Hid (plcE s cl r f t=0→sy.length=mN cl→(∀c,c<sy.length→0≤nth sy c→sndB s.tab cl r.toNat f.toNat c=true)→(enoB s.tab cl sy t.toNat=true↔∀c,c<sy.length→0≤nth sy c→eqC s.tab cl t.toNat (fstC sy c) c=true)∧(∀c,eqC s.tab cl t.toNat c c=true)):=zhd fun h0 hl hs=>by
  obtain ⟨g1,g2,g3⟩:=za7 h h0;have hu:Used s.tab cl sy.length:=by rw[hl];exact yl g2 g3
  refine ⟨?_,fun c=>zar g1.nodup c⟩;rw[zgO];exact zew g1.tab g1.nodup hu hs
 have HMB:Hid (plcE s cl r f t=0→mN cl≤120):=zhd fun h0=>by
  obtain ⟨g1,g2,g3⟩:=za7 h h0;have:=zdB g2;omega
 obtain ⟨q,hq⟩:=zn (vsyE s cl sy r f t);rw[←hq]at HQ ⊢;obtain ⟨ca,cc,sa,sc,ta,tc,xa,xc,rfl,hc,hs,ht,hx⟩:=h.zf;obtain ⟨a3,c3,rfl,_⟩:=h3.form;obtain ⟨a4,c4,rfl,_⟩:=h4.form;have HI:=zhd h4;have HWF:=zhd h4.wf;obtain ⟨ex,R0,R1⟩:=zb2 w [s.p.n,s.p.ins,s.p.outs,.slice ca s.p.cs.length cc,s.p.an,.slice sa s.p.st.length sc,s.p.rounds,s.tn,.slice ta s.tab.length tc,.slice xa s.ex.length xc] [r,f,t] 35 68;clear hc hs ht hx h3 h4 hf hm hq;obtain ⟨t0,t1,t2,t3,t4,t5,t6,t7,t8,t9⟩:=R0.ten;have l0:=R0.lt;have p0:=R1.zc 0 rfl;have p1:=R1.zc 1 rfl;have p2:=R1.zc 2 rfl;have l1:=R1.lt;go_enter Tryz.func35,Tryz.ntmps35;go_wp2_with fail;refine (KB.out _ ex).mono ?_;rintro _ w1 ⟨_,rfl,hb,hB⟩;replace R0:=R0.ext hb;replace R1:=R1.ext hb;replace ex:=za ex hb;clear hb KB t0 t1 t2 t3 t4 t5 t6 t7 t8 t9 l0 p0 p1 p2 l1;rcases hB with ⟨h0,g,rfl,hS,_⟩ | ⟨h0,u,rfl⟩
 case inr=>
  have RE:=zhd (HQ.out.trans (if_neg h0));obtain ⟨e,hee⟩:=zn (plcE s cl r f t);rw[←hee]at RE h0 ⊢;have d0:(e !=0)=true:=by simp[h0]
  clear h0 hee HQ KS KE HEI HMB HG;go_wp2;go_ret;exact .mk ex (zr RE.out.symm)
 have HQ1:=zhd (HQ.out.trans (if_pos h0));have KS1:=zhd (KS.out h0);have KE1:=zhd (KE.out h0);have hmb:=HMB.out h0;have HEI1:=zhd (HEI.out h0);have d0:((0:Int) !=0)=false:=rfl;obtain ⟨ca',cc',sa',sc',ta',tc',xa',xc',a3',c3',fa,fc,mb,RG,_,_,_,_,_⟩:=hS.mem;have HS1:=zhd (show ScnM (fun _=>True) w1 g s cl from hS.mono fun _ _=>trivial);obtain ⟨m,hmx⟩:=zn (mN cl);rw[←hmx]at KS1 KE1 HQ1 HEI1 hmb RG;obtain ⟨n,hnx⟩:=zn sy.length;rw[←hnx]at HQ1 HI HEI1;have HNL:=zhd hnx;have g11:=RG.zc 11 rfl;have lg:=RG.lt;clear h0 HQ KS KE HEI HMB HG hS hmx hnx RG R0;rw[←HNL.out];have p0:=R1.zc 0 rfl;have p1:=R1.zc 1 rfl;have p2:=R1.zc 2 rfl;have l1:=R1.lt;by_cases h1:n=m
 case neg=>
  have RE:=zhd (HQ1.out.trans (if_neg h1));have d1:((n:Int) !=(m:Int))=true:=by rw[bne_iff_ne];omega
  clear h1 HQ1;go_wp2;go_ret;exact .mk ex (zr RE.out.symm)
 have HV:=zhd (HQ1.out.trans (if_pos h1));have d1:((n:Int) !=(m:Int))=false:=by simp[h1]
 have HNM:=zhd h1;have hn60:n≤120:=by omega
 have H00:Hid (Zeros (sfmE s.tab cl sy r.toNat f.toNat) 0):=zhd fun j hj=>by omega
 have HEX1:=zhd ex;have HR1:=zhd R1;have y1:=Below.refl w1.heap.size w1;clear h1 HQ1;go_wp2;clear d0 d1 g11 lg p0 p1 p2 l1 ex R1;go_loopw [11,12,13,39] (fun _ _ _ iv wr=>∃k:Nat,k≤n∧iv=.int .i64 k∧Hid (Zeros (sfmE s.tab cl sy r.toNat f.toNat) k)∧Below w1.heap.size w1 wr) (fun _ _ _ iv _=>n - (intOf iv).toNat)
 case atStart=>exact ⟨0,Nat.zero_le _,rfl,H00,y1⟩
 case round=>
  clear y1 H00;obtain ⟨k,hk,rfl,HST,y1⟩:=hrel;have ex:=za HEX1.out y1;have R1:=HR1.out.ext y1;by_cases hlt:k<n
  case neg=>
   have HFZ:Hid (firstE (sfmE s.tab cl sy r.toNat f.toNat) n=0):=zhd (HST.out.done (by omega));have HV1:=zhd (HV.out.trans (if_pos HFZ.out));have HSD:Hid (∀c,c<n→0≤nth sy c→sndB s.tab cl r.toNat f.toNat c=true):=zhd fun c hc h0=>by
    have h1:=yJ.1 HFZ.out c hc;rw[HSFD.out c]at h1;by_cases h2:decide (0≤nth sy c)=sndB s.tab cl r.toNat f.toNat c∧ -1≤nth sy c∧nth sy c≤1048576
    ·rw[←h2.1];exact decide_eq_true h0
    ·rw[if_neg h2]at h1;cases h1
   have HEN:=zhd (HEI1.out HNM.out HSD.out);have HS2:=zhd (HS1.out.ext y1);have hmm:=@run_makeMap Tryz.prog;have hxm:=za ex (ze wr (.map #[] 0));have HM0:Hid (MapV key52 (wr.alloc (.map #[] 0)) wr.heap.size (ledM sy 0) 0):=zhd (by rw[zgz];exact MapV.made key52 wr);have R1m:=R1.ext (ze wr (.map #[] 0));have hsz:=ex.size;have hp1:=R1.lt;have HIm:=zhd (HI.out.ext hxm);clear HST HV HFZ y1 HSFD HEI1 HEX1 HR1 R1;go_wp2;obtain ⟨MB,hMB⟩:=zn wr.heap.size;obtain ⟨w3,hw3⟩:=zn (wr.alloc (.map #[] 0));have HScB:Hid (∀W,Below MB w3 W→ScnM (fun b=>b<MB) W g s cl):=zhd fun W hW=>by
    have h1:ScnM (fun b=>b<MB) w3 g s cl:=by
     rw[hw3];exact ((HS2.out.block).mono (A':=fun b=>b<MB) fun b hb=>by omega).ext (ze wr _)
    exact h1.agree (.of_below hW fun b hb _=>hb)
   rw[←hMB]at HM0 hsz hp1 ⊢;rw[←hw3]at HM0 hxm R1m HIm ⊢;have hb30:=Below.refl MB w3;have HEX3:=zhd hxm;have HEW:Hid (∀W,Below MB w3 W→Below w.heap.size w W):=zhd fun W hW=>hxm.trans (hW.mono hsz);have HRW:Hid (∀W,Below MB w3 W→Row W (w.heap.size+1) 68 [r,f,t]):=zhd fun W hW=>R1m.agree (S:=fun b=>b<MB) (.of_below hW fun b hb _=>hb) hp1;have HMBl:Hid (MB<w3.heap.size):=zhd HM0.out.lt;clear hmm hMB hw3 ex hxm HS1 HS2 R1m hp1;go_loopw [15,16,17,18,69,76] (fun _ _ _ _ iv _ wq=>∃k nn:Nat,k≤n∧iv=.int .i64 k∧nn≤k∧Hid (MapV key52 wq MB (ledM sy k) nn)∧Hid (∀c,c<k→0≤nth sy c→eqC s.tab cl t.toNat (fstC sy c) c=true)∧Below MB w3 wq) (fun _ _ _ _ iv _ _=>n - (intOf iv).toNat)
   case atStart=>exact ⟨0,0,Nat.zero_le _,rfl,Nat.le_refl _,HM0,zhd fun c hc=>by omega,hb30⟩
   case round=>
    clear hb30 HM0;obtain ⟨k,nn,hk,rfl,hnn,HM,HZ,hb⟩:=hrel;have hex:=HEW.out _ hb;by_cases hlt:k<n
    case neg=>
     obtain rfl:k=n:=by omega
     have RE:Hid (q=0):=zhd (by rw[HV1.out,HEN.out.1.2 HZ.out];rfl);clear hb HM HZ HV1 HEN;go_wp2;go_ret;exact .mk hex (zr RE.out.symm)
    have hi:=HI.out.ext hex;have qk:∀W:World,(Instr.indexAt 36 (.slice a4 n c4) (.int .i64 k)).run Tryz.prog W=.ok (.pointer (some (adr a4 k))) W:=fun W=>by rw[HNL.out];exact (show Ints S4 _ (.slice a4 sy.length c4) sy by rw[←HNL.out];exact hi).idx (by rw[←HNL.out];exact hlt) W
    have ck:=hi.cellN (k:=k) (by rw[←HNL.out];exact hlt);have bk:=World.block_lt_of_cell? _ _ ck;have HWk:Hid (WF (nth sy k)):=zhd (HWF.out _ (xN (by rw[←HNL.out];exact hlt)));have HSk:=zhd (zfm (sy:=sy) (k:=k));have HST:=zhd (zgm (sy:=sy) (k:=k));have HZN:Hid ((0≤nth sy k→eqC s.tab cl t.toNat (fstC sy k) k=true)→∀c,c<k+1→0≤nth sy c→eqC s.tab cl t.toNat (fstC sy c) c=true):=zhd fun h c hc=>by
     by_cases e:c=k
     ·subst e;exact h
     ·exact HZ.out c (by omega)
    have HSDk:=zhd (HSD.out);obtain ⟨y,hy⟩:=zn (nth sy k);rw[←hy]at ck HWk HSk HST HZN;have HY:=zhd hy;clear hy hi;by_cases hy0:y<0
    ·have dy:decide (y<0)=true:=decide_eq_true hy0;have HZ2:=zhd (HZN.out fun h=>by omega);have hsk:=HSk.out hy0;rw[←hsk]at HM;clear hy0 hsk HSk HST HZN HZ;go_wp2;go_roundw
     case rel=>exact ⟨k+1,nn,by omega,by go_num,by omega,HM,HZ2,hb⟩
     case measure=>simp[intOf];omega
    have dy:decide (y<0)=false:=decide_eq_false hy0;rcases HST.out (by omega) with ⟨hm1,hm2,hm3⟩ | ⟨z,hzk,hm1,hm2,hm4,hm3⟩
    ·have HMI:=zhd hm1;have HUPN:=zhd hm3;have HZ2:=zhd (HZN.out (fun _=>by rw[hm2];exact HEN.out.2 k));have hMs:=HM.out.lt;clear hm1 hm2 hm3 HSk HST HZN HZ hy0;go_wp2_with (first
      | (at_lookup;refine qF rfl _ _ 91 rfl 3 Tryz.underlying91 (.int .i64 0) (ym _) rfl HM.out y rfl HWk.out HMI.out ?_)
      | (at_mapUpdate;refine xe rfl _ _ _ 91 rfl 3 Tryz.underlying91 rfl HM.out (by unfold maxLen;omega) y rfl HWk.out (.int .i64 k) rfl ?_;intro w5 hM5 hg5))
     have HM5:Hid (MapV key52 w5 MB (ledM sy (k+1)) (nn+1)):=zhd (by
      rw[HUPN.out,HMI.out]at hM5;exact hM5)
     have hb5:Below MB w3 w5:=hb.grown hg5 (by omega) (fun q hq=>by injection hq with hq;omega);clear hM5 hg5 HM hb ck bk qk hex;go_wp2;go_roundw
     case rel=>exact ⟨k+1,nn+1,by omega,by go_num,by omega,HM5,HZ2,hb5⟩
     case measure=>simp[intOf];omega
    ·have HMI:=zhd hm1;rw[←hm3]at HM;have HMO:=zhd (show ledM sy (k+1) y=some (.int .i64 z) by rw[hm3];exact hm1);have hsk:=HSD.out k hlt (by rw[←HY.out];omega);have hsz':=HSD.out z (by omega) (by rw[hm4];omega);have KE2:=zhd (KE1.out _ wr g z k (HScB.out _ hb) (by have:=HNM.out;omega) (by have:=HNM.out;omega) hsz' hsk);have HNO:Hid (eqC s.tab cl t.toNat z k=false→enoB s.tab cl sy t.toNat=false):=zhd fun h=>by
      cases e:enoB s.tab cl sy t.toNat with
      | false=>rfl
      | true=>
       have:=HEN.out.1.1 e k hlt (by rw[←HY.out];omega);rw[hm2,h]at this;cases this
     rw[hm2]at HZN;obtain ⟨b,hbb⟩:=zn (eqC s.tab cl t.toNat z k);rw[←hbb]at KE2 HZN HNO;have hMs:=HM.out.lt;have R1:=HRW.out _ hb;have p0:=R1.zc 0 rfl;have p1:=R1.zc 1 rfl;have p2:=R1.zc 2 rfl;have l1:=R1.lt;clear hm1 hm2 hm3 hm4 hbb hsk hsz' HSk HST hy0 R1;go_wp2_with (at_lookup;refine qn rfl _ _ 91 rfl 3 Tryz.underlying91 (.int .i64 0) (ym _) rfl HM.out y rfl HWk.out (.int .i64 z) HMO.out ?_);refine KE2.out.mono ?_;rintro _ w4 ⟨_,rfl,hb4,rfl⟩;have HM4:=zhd (HM.out.ext hb4);have hb5:Below MB w3 w4:=hb.trans (hb4.mono (by omega));clear hb4 KE2 HM hb ck bk qk p0 p1 p2 l1 hex;cases b with
     | true=>
      have HZ2:=zhd (HZN.out fun _=>rfl);clear HZN HNO HZ;go_wp2;go_roundw
      case rel=>exact ⟨k+1,nn,by omega,by go_num,by omega,HM4,HZ2,hb5⟩
      case measure=>simp[intOf];omega
     | false=>
      have RE:Hid (q=18):=zhd (by rw[HV1.out,HNO.out rfl];rfl);have HE3:=zhd (HEW.out _ hb5);clear hb5 HM4 HZN HNO HZ HV1;go_wp2;go_ret;exact .mk HE3.out (zr RE.out.symm)
  have hi:=HI.out.ext ex;have qk:∀W:World,(Instr.indexAt 36 (.slice a4 n c4) (.int .i64 k)).run Tryz.prog W=.ok (.pointer (some (adr a4 k))) W:=fun W=>by rw[HNL.out];exact (show Ints S4 _ (.slice a4 sy.length c4) sy by rw[←HNL.out];exact hi).idx (by rw[←HNL.out];exact hlt) W
  have ck:=hi.cellN (k:=k) (by rw[←HNL.out];exact hlt);have bk:=World.block_lt_of_cell? _ _ ck;have HSF:=zhd (HSFD.out k);have KS2:=zhd (KS1.out _ wr g k (HS1.out.ext y1) (by have:=HNM.out;omega));obtain ⟨y,hy⟩:=zn (nth sy k);obtain ⟨b,hbb⟩:=zn (sndB s.tab cl r.toNat f.toNat k);rw[←hy]at ck HSF;rw[←hbb]at KS2 HSF;clear hy hbb hi;have p0:=R1.zc 0 rfl;have p1:=R1.zc 1 rfl;have p2:=R1.zc 2 rfl;have l1:=R1.lt;go_wp2_with fail;refine KS2.out.mono ?_;rintro _ w4 ⟨_,rfl,hb,rfl⟩;replace ex:=za ex hb;replace y1:=za y1 hb;clear hb KS2 ck bk qk p0 p1 p2 l1 R1;cases b with
  | true=>
   by_cases hy0:y<0
   ·have dl:decide (y<0)=true:=decide_eq_true hy0;rw[if_neg (by intro h;have:=of_decide_eq_true h.1;omega)]at HSF;clear hy0 y1;have RE:Hid (q=2):=zhd (by rw[HV.out,if_neg (by rw[HST.out.stop HSF.out (by decide) hlt];decide)]);clear HV HSF HST;go_wp2;go_ret;exact .mk ex (zr RE.out.symm)
   have dl:decide (y<0)=false:=decide_eq_false hy0;by_cases hg':1048576<y
   ·have dg:decide (1048576<y)=true:=decide_eq_true hg';rw[if_neg (by omega)]at HSF;clear hy0 hg' y1;have RE:Hid (q=2):=zhd (by rw[HV.out,if_neg (by rw[HST.out.stop HSF.out (by decide) hlt];decide)]);clear HV HSF HST;go_wp2;go_ret;exact .mk ex (zr RE.out.symm)
   have dg:decide (1048576<y)=false:=decide_eq_false hg';rw[if_pos ⟨decide_eq_true (by omega),by omega,by omega⟩]at HSF;clear hy0 hg' ex;have HZ2:=zhd (HST.out.next HSF.out);clear HSF HST;go_wp2;go_roundw
   case rel=>exact ⟨k+1,by omega,by go_num,HZ2,y1⟩
   case measure=>simp[intOf];omega
  | false=>
   by_cases hy0:y= -1
   ·subst hy0;rw[if_pos ⟨by decide,by omega,by omega⟩]at HSF;clear ex;have HZ2:=zhd (HST.out.next HSF.out);clear HSF HST;go_wp2;go_roundw
    case rel=>exact ⟨k+1,by omega,by go_num,HZ2,y1⟩
    case measure=>simp[intOf];omega
   ·have dn:(y != -1)=true:=by rw[bne_iff_ne];exact hy0
    rw[if_neg (by intro h;have:=of_decide_eq_false h.1;omega)]at HSF;clear hy0 y1;have RE:Hid (q=2):=zhd (by rw[HV.out,if_neg (by rw[HST.out.stop HSF.out (by decide) hlt];decide)]);clear HV HSF HST;go_wp2;go_ret;exact .mk ex (zr RE.out.symm)
end Go.Proofs.YtiabbjolepnjkaaGreat
