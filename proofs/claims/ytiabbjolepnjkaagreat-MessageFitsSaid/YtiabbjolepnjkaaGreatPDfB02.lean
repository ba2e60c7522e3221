/- Part of the proof that the laws answer true for every input. -/
import Derived.Test.YtiabbjolepnjkaaGreatPDfA25
import Derived.Test.YtiabbjolepnjkaaGreatPDfB00
set_option linter.unusedSimpArgs false
set_option linter.unnecessarySimpa false
set_option linter.unusedVariables false
set_option maxRecDepth 100000
set_option maxHeartbeats 40000000
namespace Go.Proofs.YtiabbjolepnjkaaGreat
open Go.RowKit
attribute [local go_sem ↓] Go.wp_at_zero Go.wp_at_succ
def fclL (cl:List Int) (k:Nat):List Int:=(List.range k).map fun c=>(fclN cl c:Int)
theorem xt (cl:List Int) (k:Nat):(fclL cl k).length=k:=by simp[fclL]
theorem zc4 {cl:List Int} {k c:Nat} (h:c<k):nth (fclL cl k) c=(fclN cl c:Int):=by simp[fclL,nth,h]
theorem zhj (cl:List Int) (k:Nat):fclL cl (k+1)=fclL cl k++[(fclN cl k:Int)]:=by unfold fclL;rw[List.range_succ,List.map_append];rfl
structure MscG (s:SysF) (cl:List Int):Prop where
 good:GoodS s s.N s.K
 gd:Good cl
 len:cl.length=s.tab.length
 few:s.tab.length≤120
theorem MscG.used {s:SysF} {cl:List Int} (h:MscG s cl):Used s.tab cl (mN cl):=yl h.gd h.len
theorem MscG.le {s:SysF} {cl:List Int} (h:MscG s cl):mN cl≤120:=by
 have h1:=zdB h.gd;have h2:=h.len;have h3:=h.few;omega
theorem MscG.wf {s:SysF} {cl:List Int} (h:MscG s cl):∀x∈fclL cl (mN cl),WF x:=fun x hx=>by
 unfold fclL at hx;obtain ⟨c,hc,rfl⟩:=List.mem_map.1 hx;have h1:=(h.used.first (List.mem_range.1 hc)).1;have h2:=h.few;exact WF.small (by omega)
structure ScnM (A:Nat→Prop) (w:World) (g:Nat) (s:SysF) (cl:List Int):Prop where
 dat:MscG s cl
 ag:A g
 mem:∃ca cc sa sc ta tc xa xc a3 c3 fa fc mb,Row w g 136 [s.p.n,s.p.ins,s.p.outs,.slice ca s.p.cs.length cc,s.p.an,.slice sa s.p.st.length sc,s.p.rounds,s.tn,.slice ta s.tab.length tc,.slice xa s.ex.length xc,.slice a3 cl.length c3,.slice fa (mN cl) fc,.map (some mb)]∧A mb∧MapV viewKey w mb (numM s.tab) s.tab.length∧Sl (kFlat 8) A w (.slice ta s.tab.length tc) s.tab∧Ints A w (.slice a3 cl.length c3) cl∧Ints A w (.slice fa (mN cl) fc) (fclL cl (mN cl))
theorem ScnM.agree {A:Nat→Prop} {w w':World} {g:Nat} {s:SysF} {cl:List Int} (h:ScnM A w g s cl) (hw:Agree A w w'):ScnM A w' g s cl:=by
 obtain ⟨h1,h2,ca,cc,sa,sc,ta,tc,xa,xc,a3,c3,fa,fc,mb,r1,r2,r3,r4,r5,r6⟩:=h;exact ⟨h1,h2,ca,cc,sa,sc,ta,tc,xa,xc,a3,c3,fa,fc,mb,r1.agree hw h2,r2,r3.agree hw r2,r4.agree hw,r5.agree hw,r6.agree hw⟩
theorem ScnM.ext {A:Nat→Prop} {w w':World} {g:Nat} {s:SysF} {cl:List Int} (h:ScnM A w g s cl) (hw:Below w.heap.size w w'):ScnM A w' g s cl:=h.agree (.of_ext hw)
theorem ScnM.mono {A A':Nat→Prop} {w:World} {g:Nat} {s:SysF} {cl:List Int} (h:ScnM A w g s cl) (hA:∀b,A b→A' b):ScnM A' w g s cl:=by
 obtain ⟨h1,h2,ca,cc,sa,sc,ta,tc,xa,xc,a3,c3,fa,fc,mb,r1,r2,r3,r4,r5,r6⟩:=h;exact ⟨h1,hA _ h2,ca,cc,sa,sc,ta,tc,xa,xc,a3,c3,fa,fc,mb,r1,hA _ r2,r3,r4.mono hA,r5.mono hA,r6.mono hA⟩
theorem ScnM.block {A:Nat→Prop} {w:World} {g:Nat} {s:SysF} {cl:List Int} (h:ScnM A w g s cl):ScnM (fun b=>A b∧b<w.heap.size) w g s cl:=by
 obtain ⟨h1,h2,ca,cc,sa,sc,ta,tc,xa,xc,a3,c3,fa,fc,mb,r1,r2,r3,r4,r5,r6⟩:=h;exact ⟨h1,⟨h2,r1.lt⟩,ca,cc,sa,sc,ta,tc,xa,xc,a3,c3,fa,fc,mb,r1,⟨r2,r3.lt⟩,r3,r4.block,Ints.block r5 0,Ints.block r6 0⟩
theorem zgl {base n:Nat} {w:World} {v:Value} {l:List Int} (hn:l.length=n) (h:w.ownsRow base 3 1 v n (l.map (Value.int .i64))) (hw:∀x∈l,WF x):Ints (fun b=>base≤b) w v l:=by
 subst hn;exact Ints.of_own h hw
theorem qY {w:World} {base size n:Nat} {e:TypeId} {v:Value} {xs:List Value} (h:w.ownsRow base e size v n xs):∀k,v.ownBlock=some k→base≤k:=by
 rcases h.2 with ⟨e1,_⟩ | ⟨g,cap,cur,e1,hb,_⟩
 ·rw[e1];intro k hk;simp[Value.ownBlock]at hk
 ·rw[e1];intro k hk;simp[Value.ownBlock]at hk;omega
def NewR (B:Nat) (A:Nat→Prop) (s:SysF) (cl:List Int) (w':World) (r:Value):Prop:=(mesE s cl=0∧∃g,r=.tuple #[.pointer (some ⟨g,0,none⟩),.int .i64 0]∧ScnM (fun b=>A b∨B≤b) w' g s cl∧B≤g)∨(mesE s cl≠0∧r=.tuple #[.pointer none,mesE s cl])
theorem Yf {S:Nat→Prop} {w:World} {v vcl:Value} {s:SysF} {cl:List Int} (h:SysV S w v s) (hf:PFew s.p) (h3:Ints S w vcl cl) (hm:s.tab.length≤120):
  Calls Tryz.prog 68 #[v,vcl] w (Post w (NewR w.heap.size (fun b=>S b∧b<w.heap.size) s cl)):=by
 have KV:Hid (∀W u,Below w.heap.size w W→Ints TT W u (silL s)→Calls Tryz.prog 18 #[v,.agg #[u],vcl] W (Post W fun _ r=>r=.int .i64 (mesE s cl))):=zhd fun W u hW hu=>by
  have:=xF ((h.mono (S':=TT) fun _ _=>trivial).ext hW) hf hu (h3.ext hW) hm;rw[zjE h.moves8]at this;exact this
 have HSL:Hid (silL s=List.replicate s.tab.length (-1)):=zhd rfl;obtain ⟨sl,hsl⟩:∃l,l=silL s:=⟨_,rfl⟩;rw[←hsl]at KV HSL;have HG:Hid (mesE s cl=0→MscG s cl):=zhd fun h0=>by
  obtain ⟨g1,g2,g3,_⟩:=zd5 h0;exact ⟨qG g1 h.moves8,g2,g3,hm⟩
 have HE:Hid (∀w',mesE s cl≠0→NewR w.heap.size (fun b=>S b∧b<w.heap.size) s cl w' (.tuple #[.pointer none,mesE s cl])):=zhd fun w' h0=>.inr ⟨h0,rfl⟩;have HO:Hid (∀w' g,mesE s cl=0→ScnM (fun b=>(S b∧b<w.heap.size)∨w.heap.size≤b) w' g s cl→w.heap.size≤g→NewR w.heap.size (fun b=>S b∧b<w.heap.size) s cl w' (.tuple #[.pointer (some ⟨g,0,none⟩),.int .i64 0])):=zhd fun w' g h0 h1 h3=>.inl ⟨h0,g,rfl,h1,h3⟩;obtain ⟨e,hee⟩:=zn (mesE s cl);rw[←hee]at KV HG HE HO;obtain ⟨OQ,hOQ⟩:=zn (NewR w.heap.size (fun b=>S b∧b<w.heap.size) s cl);rw[←hOQ]at HE HO ⊢;obtain ⟨ca,cc,sa,sc,ta,tc,xa,xc,rfl,hc,hs,ht,hx⟩:=h.zf;obtain ⟨_,_,hee,tad,_⟩:=ht.form2;cases hee;obtain ⟨i0,hi,hz⟩:=zK zO;have HQ:=zhd (zM Tryz.underlying30 hi hz tad);have HTV:=zhd ht;obtain ⟨a3,c3,rfl,_⟩:=h3.form;have HCH:=zhd (h3.block 0);have HTBK:=zhd ht.block;have HC3:Hid (∀k,k<cl.length→w.cell? (adr a3 k)=some (.int .i64 (nth cl k))):=zhd fun k hk=>h3.cellN hk;have HQ3:Hid (∀k,k<cl.length→∀W:World,(Instr.indexAt 36 (.slice a3 cl.length c3) (.int .i64 k)).run Tryz.prog W=.ok (.pointer (some (adr a3 k))) W):=zhd fun k hk W=>h3.idx hk W;have hm2:=hm;obtain ⟨ex,R0⟩:=zb1 w [s.p.n,s.p.ins,s.p.outs,.slice ca s.p.cs.length cc,s.p.an,.slice sa s.p.st.length sc,s.p.rounds,s.tn,.slice ta s.tab.length tc,.slice xa s.ex.length xc] 35;have HKR:Hid (Calls Tryz.prog 40 #[.slice (some ⟨w.heap.size+1,0,none⟩) 1 1,s.tab.length] ((w.alloc (.cells #[s.p.n,s.p.ins,s.p.outs,.slice ca s.p.cs.length cc,s.p.an,.slice sa s.p.st.length sc,s.p.rounds,s.tn,.slice ta s.tab.length tc,.slice xa s.ex.length xc] 35)).alloc (.cells #[.int .i64 (-1)] 3)) (Post ((w.alloc (.cells #[s.p.n,s.p.ins,s.p.outs,.slice ca s.p.cs.length cc,s.p.an,.slice sa s.p.st.length sc,s.p.rounds,s.tn,.slice ta s.tab.length tc,.slice xa s.ex.length xc] 35)).alloc (.cells #[.int .i64 (-1)] 3)) (OwnInts ((w.alloc (.cells #[s.p.n,s.p.ins,s.p.outs,.slice ca s.p.cs.length cc,s.p.an,.slice sa s.p.st.length sc,s.p.rounds,s.tn,.slice ta s.tab.length tc,.slice xa s.ex.length xc] 35)).alloc (.cells #[.int .i64 (-1)] 3)).heap.size (List.replicate s.tab.length (-1))))):=zhd (by
  have hi:=(show Row ((w.alloc (.cells #[s.p.n,s.p.ins,s.p.outs,.slice ca s.p.cs.length cc,s.p.an,.slice sa s.p.st.length sc,s.p.rounds,s.tn,.slice ta s.tab.length tc,.slice xa s.ex.length xc] 35)).alloc (.cells #[.int .i64 (-1)] 3)) (w.heap.size+1) 3 (([-1]:List Int).map (Value.int .i64)) by
   have:=zi (w.alloc (.cells #[s.p.n,s.p.ins,s.p.outs,.slice ca s.p.cs.length cc,s.p.an,.slice sa s.p.st.length sc,s.p.rounds,s.tn,.slice ta s.tab.length tc,.slice xa s.ex.length xc] 35)) [.int .i64 (-1)] 3;rw[World.size_alloc]at this;exact this).ints (by unfold maxLen;simp) (fun x hx=>by rw[List.mem_singleton.1 hx];exact WF.small (by decide))
  exact yY hi s.tab.length (by omega))
 clear hc hs ht hx tad hi hz h3 hf hee hOQ hsl;obtain ⟨t0,t1,t2,t3,t4,t5,t6,t7,t8,t9⟩:=R0.ten;have l0:=R0.lt;go_enter Tryz.func68,Tryz.ntmps68;go_wp2_with fail;refine HKR.out.mono ?_;rintro _ w1 ⟨u1,rfl,hb,hu1⟩;have hx1:=(ze (w.alloc (.cells #[s.p.n,s.p.ins,s.p.outs,.slice ca s.p.cs.length cc,s.p.an,.slice sa s.p.st.length sc,s.p.rounds,s.tn,.slice ta s.tab.length tc,.slice xa s.ex.length xc] 35)) (.cells #[.int .i64 (-1)] 3));have ex1:=za (za ex hx1) hb;have R01:=(R0.ext hx1).ext hb;have HSI:Hid (Ints (fun b=>(w.alloc (.cells #[s.p.n,s.p.ins,s.p.outs,.slice ca s.p.cs.length cc,s.p.an,.slice sa s.p.st.length sc,s.p.rounds,s.tn,.slice ta s.tab.length tc,.slice xa s.ex.length xc] 35)).heap.size≤b) w1 u1 sl):=zhd (by
  rw[HSL.out];unfold OwnInts at hu1;exact (Ints.of_own hu1 (fun x hx=>by rw[(List.mem_replicate.1 hx).2];exact WF.small (by decide))).mono fun b hb=>by simp at hb ⊢;omega)
 obtain ⟨a6,c6,rfl,_⟩:=HSI.out.form;clear t0 t1 t2 t3 t4 t5 t6 t7 t8 t9 l0 hx1 ex R0 hb hu1 HKR;have ex:=zh ex1 (.cells #[.slice a6 sl.length c6] 38);have R0:=R01.alloc (.cells #[.slice a6 sl.length c6] 38);have R1:=zi w1 [.slice a6 sl.length c6] 38;have KV1:=zhd (KV.out _ (.slice a6 sl.length c6) ex ((HSI.out.ext (ze w1 (.cells #[.slice a6 sl.length c6] 38))).mono fun _ _=>trivial));obtain ⟨t0,t1,t2,t3,t4,t5,t6,t7,t8,t9⟩:=R0.ten;have l0:=R0.lt;have r0:=R1.zc 0 rfl;have l1:=R1.lt;clear ex1 R01 KV HSI;go_wp2_with fail;refine KV1.out.mono ?_;rintro _ w2 ⟨_,rfl,hb,rfl⟩;replace R0:=R0.ext hb;replace ex:=za ex hb;clear hb KV1 R1 t0 t1 t2 t3 t4 t5 t6 t7 t8 t9 l0 r0 l1;by_cases h0:e=0
 case neg=>
  have RE:=zhd (HE.out w2 h0);have d0:(e !=0)=true:=by simp[h0]
  clear h0 HE HO HG;go_wp2;go_ret2;exact .mk ex RE.out
 have d0:(e !=0)=false:=by simp[h0]
 have HGD:=zhd (HG.out h0);have HO1:=zhd (fun w' g=>HO.out w' g h0);clear h0 HE HO HG;have HCL:=zhd HGD.out.len;rw[HGD.out.len]at HC3 HQ3 HCH ⊢;obtain ⟨n,hn⟩:=zn s.tab.length;have HNN:=zhd hn;rw[←hn]at HQ HC3 HQ3 R0 hm2 HTV HTBK HCH ⊢;clear hn;have hmm:=@run_makeMap Tryz.prog;have eM:=ze w2 (.map #[] 0);have eG:=zh eM (.cells #[s.p.n,s.p.ins,s.p.outs,.slice ca s.p.cs.length cc,s.p.an,.slice sa s.p.st.length sc,s.p.rounds,s.tn,.slice ta n tc,.slice xa s.ex.length xc,.slice a3 n c3,.slice none 0 0,.map (some w2.heap.size)] 136);have RG:=zi (w2.alloc (.map #[] 0)) [s.p.n,s.p.ins,s.p.outs,.slice ca s.p.cs.length cc,s.p.an,.slice sa s.p.st.length sc,s.p.rounds,s.tn,.slice ta n tc,.slice xa s.ex.length xc,.slice a3 n c3,.slice none 0 0,.map (some w2.heap.size)] 136;rw[World.size_alloc]at RG;have HM0:=(MapV.made viewKey w2).alloc (.cells #[s.p.n,s.p.ins,s.p.outs,.slice ca s.p.cs.length cc,s.p.an,.slice sa s.p.st.length sc,s.p.rounds,s.tn,.slice ta n tc,.slice xa s.ex.length xc,.slice a3 n c3,.slice none 0 0,.map (some w2.heap.size)] 136);have R0x:=R0.ext eG;have ex3:=za ex eG;have HW:=zhd (show (w2.heap.size+1=w2.heap.size+1) from rfl);obtain ⟨t0,t1,t2,t3,t4,t5,t6,t7,t8,t9⟩:=R0.ten;have l0:=R0.lt;go_upto_region 6 with fail;obtain ⟨wx,hwx⟩:=zn ((w2.alloc (.map #[] 0)).alloc (.cells #[s.p.n,s.p.ins,s.p.outs,.slice ca s.p.cs.length cc,s.p.an,.slice sa s.p.st.length sc,s.p.rounds,s.tn,.slice ta n tc,.slice xa s.ex.length xc,.slice a3 n c3,.slice none 0 0,.map (some w2.heap.size)] 136));obtain ⟨mb,hmb⟩:=zn w2.heap.size;obtain ⟨G,hG⟩:=zn (w2.heap.size+1);rw[←hwx]at RG HM0 R0x ex3 ⊢;rw[←hG]at RG ⊢;rw[←hmb]at RG HM0 ⊢;have hGm:mb<G:=by omega
 have hwm:w.heap.size≤mb:=by have:=ex.size;omega
 have hGx:=RG.lt;have HEX:=zhd ex3;obtain ⟨NB,hNB⟩:=zn wx.heap.size;rw[←hNB]at hGx;have hNBx:NB≤wx.heap.size:=by omega
 have hne1:some G≠some mb:=by intro e;injection e;omega
 have HM:Hid (MapV viewKey wx mb (numM (s.tab.take 0)) 0):=zhd (by
  have:(numM (s.tab.take 0))=fun _=>none:=by funext z;simp[numM]
  rw[this];exact HM0)
 have HOR0:Hid (wx.ownsRow NB 3 1 (.slice none 0 0) 0 ((fclL cl 0).map (Value.int .i64))):=zhd (World.ownsRow_nil _ _ _ _);have HK0:Hid (0=mK cl 0):=zhd (zdt cl).symm;have HTBx:=zhd HGD.out.good.tab;have hbx:=Below.refl mb wx;have t8:=R0x.zc 8 rfl;have l0:=R0x.lt;clear hwx hmb hG hNB eM eG HM0 R0 ex hmm HW t0 t1 t2 t3 t4 t5 t6 t7 t9 R0x ex3;go_wp2;clear t8 l0 d0;go_loopw [9,10,34] (fun _ _ uv wr=>∃(u k:Nat) (fa:Option Addr) (fc:Nat),u≤n∧uv=.int .i64 u∧Below mb wx wr∧NB≤wr.heap.size∧Row wr G 136 [s.p.n,s.p.ins,s.p.outs,.slice ca s.p.cs.length cc,s.p.an,.slice sa s.p.st.length sc,s.p.rounds,s.tn,.slice ta n tc,.slice xa s.ex.length xc,.slice a3 n c3,.slice fa k fc,.map (some mb)]∧Hid (MapV viewKey wr mb (numM (s.tab.take u)) u)∧Hid (wr.ownsRow NB 3 1 (.slice fa k fc) k ((fclL cl k).map (Value.int .i64)))∧Hid (k=mK cl u)) (fun _ _ uv _=>n - (intOf uv).toNat)
 case atStart=>exact ⟨0,0,none,0,Nat.zero_le _,rfl,hbx,hNBx,RG,HM,HOR0,HK0⟩
 case round=>
  clear hbx hNBx RG HM HOR0 HK0;obtain ⟨u,k,fa,fc,hu,rfl,hb,hNr,RG,HM,HOR,HKU⟩:=hrel;by_cases hlt:u<n
  case neg=>
   obtain rfl:u=n:=by omega
   have HKN:Hid (k=mN cl):=zhd (by rw[HKU.out,HNN.out,←HCL.out,zbc]);have HS:Hid (ScnM (fun b=>(S b∧b<w.heap.size)∨w.heap.size≤b) wr G s cl):=zhd (by
    have hn':=HNN.out;have hex:=HEX.out.trans (hb.mono hwm);have hk':=HKN.out;have hNBw:w.heap.size≤NB:=by omega
    refine ⟨HGD.out,.inr (by omega),ca,cc,sa,sc,ta,tc,xa,xc,a3,c3,fa,fc,mb,by rw[HCL.out,←hn',←hk'];exact RG,.inr hwm,?_,?_,?_,?_⟩
    ·have:=HM.out;rw[hn',List.take_length]at this;exact this
    ·have:=(HTBK.out.ext hex).mono (S':=fun b=>(S b∧b<w.heap.size)∨w.heap.size≤b) fun b hb=>.inl hb;rw[←hn'];exact this
    ·rw[HCL.out,←hn'];exact (HCH.out.ext hex).mono fun b hb=>.inl hb
    ·rw[←hk'];have hw:=HGD.out.wf;rw[←hk']at hw;exact (zgl (xt cl k) HOR.out hw).mono fun b hb=>.inr (by omega))
   have RE:=zhd (HO1.out wr G HS.out (by omega));have HEXF:=zhd (HEX.out.trans (hb.mono hwm));clear HM HOR HKU HKN HS hb hNr RG;go_wp2;go_ret2;exact .mk HEXF.out RE.out
  have hut:u<s.tab.length:=by have:=HNN.out;omega
  have hex:=HEX.out.trans (hb.mono hwm);have vq:=HQ.out u hlt;have hnum:=((show Sl (kFlat 8) S w (.slice ta s.tab.length tc) s.tab by rw[←HNN.out];exact HTV.out).nums (k:=u) hut (by decide));have hy8:=Zr HTBx.out hut;have hVO:ViewOK (nthL s.tab u):=⟨hy8,zhJ (show Sl (kFlat 8) S w (.slice ta s.tab.length tc) s.tab by rw[←HNN.out];exact HTV.out) hut⟩;have hNotIn:nthL s.tab u∉s.tab.take u:=fun hm=>by
   obtain ⟨j,hj,hje⟩:=List.getElem_of_mem hm;rw[List.length_take]at hj;rw[List.getElem_take]at hje;have:=Zw HGD.out.good.nodup (i:=j) (j:=u) (by omega) hut (by rw[ya (by omega)];exact hje);omega
  have HTK:Hid (s.tab.take (u+1)=s.tab.take u++[nthL s.tab u]):=zhd (yW hut);have HTL:Hid ((s.tab.take u).length=u):=zhd (by rw[List.length_take];omega);have HSTP:=zhd (zgk HGD.out.gd (k:=u) (by rw[HCL.out];exact hut));have hk120:k≤120:=by
   have h1:=(zaU HGD.out.gd (k:=u) (by rw[HCL.out];omega)).1;have:=HKU.out;omega
  rw[←HKU.out]at HSTP;obtain ⟨y,hy⟩:=zn (nthL s.tab u);rw[←hy]at hnum hVO hNotIn HTK;have u0:=zm hnum.1 hex;have u1:=zm (hnum.2 1 (by decide)) hex;have u2:=zm (hnum.2 2 (by decide)) hex;have u3:=zm (hnum.2 3 (by decide)) hex;have u4:=zm (hnum.2 4 (by decide)) hex;have u5:=zm (hnum.2 5 (by decide)) hex;have u6:=zm (hnum.2 6 (by decide)) hex;have u7:=zm (hnum.2 7 (by decide)) hex;have bv:=World.block_lt_of_cell? _ _ u0;have HVO:=zhd hVO;have HKV:=zhd (xm hVO.1);have HNI:=zhd hNotIn;have eV:=ze wr (.cells #[nth y 0,nth y 1,nth y 2,nth y 3,nth y 4,nth y 5,nth y 6,nth y 7] 65);have RV:=zi wr [nth y 0,nth y 1,nth y 2,nth y 3,nth y 4,nth y 5,nth y 6,nth y 7] 65;have RGv:=RG.ext eV;have HMv:=zhd (HM.out.ext eV);have HORv:=zhd (yd HOR.out eV);have hbv:Below mb wx (wr.alloc (.cells #[nth y 0,nth y 1,nth y 2,nth y 3,nth y 4,nth y 5,nth y 6,nth y 7] 65)):=hb.trans (eV.mono (by omega));have hmr:=HM.out.lt;have hGr:=RG.lt;have hvN:NB≤(wr.alloc (.cells #[nth y 0,nth y 1,nth y 2,nth y 3,nth y 4,nth y 5,nth y 6,nth y 7] 65)).heap.size:=by simp;omega
  have cu:=zm (HC3.out u hlt) hex;have qu:=HQ3.out u hlt;have cuv:=zm cu eV;obtain ⟨cx,hcx⟩:∃c,c=nth cl u:=⟨_,rfl⟩;rw[←hcx]at cuv HSTP;have HCX:=zhd hcx;clear hnum hVO hNotIn hy8 hy RG HM HOR hex hb cu hcx;go_upto_region 9 with fail;obtain ⟨wv,hwv⟩:=zn (wr.alloc (.cells #[nth y 0,nth y 1,nth y 2,nth y 3,nth y 4,nth y 5,nth y 6,nth y 7] 65));obtain ⟨VB,hVB⟩:=zn wr.heap.size;rw[←hwv]at RV RGv HMv HORv hbv hvN cuv ⊢;rw[←hVB]at RV hmr hGr hNr ⊢;have KEEP:Hid (∀w',Below wv.heap.size wv w'→(fun w':World=>w'.cell? ⟨G,12,none⟩=some (.map (some mb))∧w'.cell? ⟨VB,0,none⟩=some (.int .i64 (nth y 0))∧w'.cell? ⟨VB,1,none⟩=some (.int .i64 (nth y 1))∧w'.cell? ⟨VB,2,none⟩=some (.int .i64 (nth y 2))∧w'.cell? ⟨VB,3,none⟩=some (.int .i64 (nth y 3))∧w'.cell? ⟨VB,4,none⟩=some (.int .i64 (nth y 4))∧w'.cell? ⟨VB,5,none⟩=some (.int .i64 (nth y 5))∧w'.cell? ⟨VB,6,none⟩=some (.int .i64 (nth y 6))∧w'.cell? ⟨VB,7,none⟩=some (.int .i64 (nth y 7))) w'):=zhd fun w' hw=>⟨(RGv.ext hw).zc 12 rfl,(RV.ext hw).zc 0 rfl,(RV.ext hw).zc 1 rfl,(RV.ext hw).zc 2 rfl,(RV.ext hw).zc 3 rfl,(RV.ext hw).zc 4 rfl,(RV.ext hw).zc 5 rfl,(RV.ext hw).zc 6 rfl,(RV.ext hw).zc 7 rfl⟩;have HMP:=zhd (HMv.out.ext (zb wv.heap.size wv 1));have hu120:u<maxLen:=by unfold maxLen;omega
  have HUM:=zhd hu120;clear hwv hVB u0 u1 u2 u3 u4 u5 u6 u7 bv vq eV hu120 wr;refine zF (fun w':World=>w'.cell? ⟨G,12,none⟩=some (.map (some mb))∧w'.cell? ⟨VB,0,none⟩=some (.int .i64 (nth y 0))∧w'.cell? ⟨VB,1,none⟩=some (.int .i64 (nth y 1))∧w'.cell? ⟨VB,2,none⟩=some (.int .i64 (nth y 2))∧w'.cell? ⟨VB,3,none⟩=some (.int .i64 (nth y 3))∧w'.cell? ⟨VB,4,none⟩=some (.int .i64 (nth y 4))∧w'.cell? ⟨VB,5,none⟩=some (.int .i64 (nth y 5))∧w'.cell? ⟨VB,6,none⟩=some (.int .i64 (nth y 6))∧w'.cell? ⟨VB,7,none⟩=some (.int .i64 (nth y 7))) (fun i=>i==6) (by kernel_rfl) ?_ (fun hHeld=>?_)
  ·exact KEEP.out _ (zb wv.heap.size wv 1)
  refine zt 0 hHeld ?_;refine zt 1 hHeld ?_;refine zt 2 hHeld ?_;refine zt 3 hHeld ?_;refine zt 4 hHeld ?_;refine zt 5 hHeld ?_;refine zo 6 (fun K hK=>?_)
  (refine Z6 rfl _ _ _ 134 (by rfl) 3 Tryz.underlying134 (by rfl) HMP.out HUM.out y (by rw[HKV.out];rfl) HVO.out (.int .i64 u) (by rfl) ?_;intro w5 hM5 hg5)
  refine hK.out _ _ (fun h=>by simp at h) (fun hHeld=>?_);clear hK K;try simp only[Act.put,zsa,zsz,zss]
  refine zz (by kernel_rfl) ?_ _;have hd1:=zb wv.heap.size wv 1;have RG5:=(RGv.ext hd1).grown hg5 (fun e=>hne1 (by injection e with e;rw[e]));have RV5:=(RV.ext hd1).grown hg5 (fun e=>by injection e with e;omega);have HM5:Hid (MapV viewKey w5 mb (numM (s.tab.take (u+1))) (u+1)):=zhd (by
   have h1:=za1 HNI.out;rw[HTL.out]at h1;rw[h1]at hM5;have h2:addV (s.tab.take u) y=s.tab.take (u+1):=by unfold addV;rw[if_neg HNI.out,HTK.out]
   rw[h2]at hM5;have h3:numM (s.tab.take u) y=none:=by unfold numM;rw[if_neg HNI.out]
   rw[h3]at hM5;exact hM5)
  have HOR5:Hid (w5.ownsRow NB 3 1 (.slice fa k fc) k ((fclL cl k).map (Value.int .i64))):=zhd (by
   refine zJ (S:=fun b=>b≠mb) (yd HORv.out hd1) (.of_grown hg5 fun b hb e=>hb (by injection e with e;exact e.symm)) (fun k' hk'=>?_);have:=qY HORv.out k' hk';omega)
  have hmv:mb≤wv.heap.size:=by omega
  have hb5:Below mb wx w5:=(hbv.trans (hd1.mono hmv)).grown hg5 hmv (fun k hk=>by injection hk with hk;omega);have hN5:NB≤w5.heap.size:=by have:=hg5.size;have:wv.heap.size≤w5.heap.size:=this;omega
  have c5':=zm (HC3.out u hlt) (HEX.out.trans (hb5.mono hwm));have hcx2:nth cl u=cx:=HCX.out.symm;rw[hcx2]at c5';have b5':=World.block_lt_of_cell? _ _ c5';have g11:=RG5.zc 11 rfl;have lG:=RG5.lt;have HRG:=zhd RG5;clear hHeld KEEP HMP hM5 hg5 hd1 RGv RV RV5 HMv HORv hbv hvN hcx2 RG5 cuv;by_cases hxk:cx=(k:Int)
  case neg=>
   have d1:(cx==(k:Int))=false:=by rw[beq_eq_false_iff_ne];exact hxk
   have HK2:Hid (k=mK cl (u+1)):=zhd (by
    rcases HSTP.out with ⟨h1,_⟩ | ⟨_,h2⟩
    ·exact absurd h1 hxk
    ·exact h2.symm)
   clear hxk HSTP;go_wp2;go_quiet (fail);refine zU fun w6 hq6=>?_;have RG6:=HRG.out.ext hq6.ext;have hb6:=hb5.trans (hq6.ext.mono (by have:=hb5.size;omega));have hN6:NB≤w6.heap.size:=by have:=hq6.ext.size;omega
   have HM6:=zhd (HM5.out.ext hq6.ext);have HOR6:=zhd (yd HOR5.out hq6.ext);clear HRG hb5 hN5 HM5 HOR5 hq6 c5' b5' g11 lG qu d1;go_wp2;go_roundw
   case rel=>exact ⟨u+1,k,fa,fc,by omega,by go_num,hb6,hN6,RG6,HM6,HOR6,HK2⟩
   case measure=>simp[intOf];omega
  have d1:(cx==(k:Int))=true:=by rw[beq_iff_eq];exact hxk
  have HF2:Hid (k+1=mK cl (u+1)∧fclL cl (k+1)=fclL cl k++[(u:Int)]):=zhd (by
   rcases HSTP.out with ⟨_,h1,h2⟩ | ⟨h1,_⟩
   ·exact ⟨h1.symm,by rw[zhj,h2]⟩
   ·exact absurd hxk h1)
  clear hxk HSTP;go_wp2;go_quiet (fail);refine zU fun w6 hq6=>?_;have RG6:=HRG.out.ext hq6.ext;have hb6:=hb5.trans (hq6.ext.mono (by have:=hb5.size;omega));have hN6:NB≤w6.heap.size:=by have:=hq6.ext.size;omega
  have HM6:=zhd (HM5.out.ext hq6.ext);have HOR6:=zhd (yd HOR5.out hq6.ext);clear HRG hb5 hN5 HM5 HOR5 hq6 c5' b5' g11 lG qu d1;have g11:=RG6.zc 11 rfl;have lG:=RG6.lt;have HRG6:=zhd RG6;have HMB:=HM6.out.lt;have HOW:=zhd (qY HOR6.out);clear RG6;go_wp2_with (at_builtin;refine zQ rfl (.tmp 59) (.tmp 61) 36 rfl 3 _ 8 Tryz.underlying36 zI rfl NB (.slice fa k fc) _ _ rfl HOR6.out (.int .i64 u) rfl rfl (by omega) (by omega) hN6 ?_;intro g7 c7 w7 hown7 hbel7 hag7 hat7;have RG7:=HRG6.out.agree (hag7 (fun b=>b<NB) (fun k' hk' e=>by have:=HOW.out k' hk';omega)) hGx;have gx:=RG7.zc 11 rfl;have fx:=RG7.free 11;have lx:=RG7.lt);have HO7:Hid (w7.ownsRow NB 3 1 (.slice (some ⟨g7,0,none⟩) (k+1) c7) (k+1) ((fclL cl (k+1)).map (Value.int .i64))):=zhd (by rw[HF2.out.2];simpa using hown7);have hb7:=hb6.trans (hbel7.mono (by omega));have HM7:Hid (MapV viewKey w7 mb (numM (s.tab.take (u+1))) (u+1)):=zhd (HM6.out.agree (hag7 (fun b=>b<NB) (fun k' hk' e=>by have:=HOW.out k' hk';omega)) (by omega));have hg7:NB≤g7:=by
   rcases hat7 with h1 | h1
   ·exact HOW.out g7 h1
   ·omega
  have RG8:=RG7.set 11 (.slice (some ⟨g7,0,none⟩) (k+1) c7);have hb8:=hb7.setCell (p:=⟨G,11,none⟩) (show mb≤G by omega) (.slice (some ⟨g7,0,none⟩) (k+1) c7);have hN8:NB≤(w7.setCell ⟨G,11,none⟩ (.slice (some ⟨g7,0,none⟩) (k+1) c7)).heap.size:=by have:=hbel7.size;simp;omega
  have HM8:Hid (MapV viewKey (w7.setCell ⟨G,11,none⟩ (.slice (some ⟨g7,0,none⟩) (k+1) c7)) mb (numM (s.tab.take (u+1))) (u+1)):=zhd (HM7.out.grown (zj w7 G 11 (.slice (some ⟨g7,0,none⟩) (k+1) c7)) hne1);have HO8:Hid ((w7.setCell ⟨G,11,none⟩ (.slice (some ⟨g7,0,none⟩) (k+1) c7)).ownsRow NB 3 1 (.slice (some ⟨g7,0,none⟩) (k+1) c7) (k+1) ((fclL cl (k+1)).map (Value.int .i64))):=zhd (zJ (S:=fun b=>b≠G) HO7.out (.of_grown (zj w7 G 11 (.slice (some ⟨g7,0,none⟩) (k+1) c7)) fun b hb e=>hb (by injection e with e;exact e.symm)) (fun k' hk'=>by have:=qY HO7.out k' hk';omega));clear hown7 hbel7 hag7 hat7 hb6 hN6 HM6 HOR6 HRG6 HM7 HO7 HOW hb7 RG7 g11 lG HMB;go_wp2;go_roundw
  case rel=>exact ⟨u+1,k+1,_,c7,by omega,by go_num,hb8,hN8,RG8,HM8,HO8,zhd HF2.out.1⟩
  case measure=>simp[intOf];omega
end Go.Proofs.YtiabbjolepnjkaaGreat
